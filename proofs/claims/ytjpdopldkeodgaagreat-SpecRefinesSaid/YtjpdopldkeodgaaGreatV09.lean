import Derived.Test.YtjpdopldkeodgaaGreatV08
set_option linter.all false
set_option maxHeartbeats 1000000
namespace Go.VS.Sp
theorem cB:List.range 4=[0,1,2,3]:=rfl
theorem S1(s:S):s.pl.C=s.C.map K.pl:=rfl
theorem Yt(s:S):qB s.pl=qB s:=by
 unfold qB;rw[S1,kY];rfl
theorem Nc(s:S)(t:Int):bK s.pl t=bK s t:=by unfold bK;rw[Yt]
theorem S2(s:S)(t:Int):mF s.pl t=mF s t:=by unfold mF;rw[Yt,Nc]
structure S.tk(s:S):Prop where
 rE:gF (qB s)
 task:∀x∈s.C,cY x.task=true
 len:s.C.length<=1000
 log:∀x∈s.C,x.log.length<=100000
theorem agz(x y nm:D)(k sz ot:Int)(s:S)(hw:s.wf)(c:Cl)(hk:s.tk)(ht:cY c.task=true)(hb:c.op=69):
  Rel (ev P (.call Ct [.d (.ag [x,y]),.d (.ag [nm,I' k,I' sz,I' ot]),.d (.ag s.row),.d (.ag c.row)] [])) (eT (dr sz) s.pl c):=by
 have hB:=Nb s.cn s.C c.task (by have:=hk.len;omega) hk.rE.rE hk.task ht
 have dL:=M8 s.cn s.C hw.c (by have:=hk.len;omega)
 have hI:=Cd Yf (p:=l5 2) rfl;have kI:=tG c.task (s.C.map K.task);simp only[yI]at kI;have hlen:=hk.len;rw[au HS rfl];unfold eT;rw[S2,Nc];have e1:mF s c.task=decide ((s.C.map K.task)[bI c.task (s.C.map K.task)]?=some c.task):=rfl;have e2:bK s c.task=bI c.task (s.C.map K.task):=rfl;rw[<-e1]at hB;rw[<-e2]at hB kI;generalize hi:bK s c.task=i at *;generalize mF s c.task=g at *;have kJ:(c.op==69)=true:=by simp[hb]
 rw[kJ];cases g
 .have hrow:cD false (s.C.take i++⟨c.task,true,[]⟩::s.C.drop i) = .sl 2 false ((s.C.map K.row).take i++[I' c.task,.sl 1 true []]::(s.C.map K.row).drop i):=by simp[cD,BU,BV,K.row]
  refine Rel.gd {s with cn:=false,C:=s.C.take i++⟨c.task,true,[]⟩::s.C.drop i} ?_ (by simp[S.pl,K.pl,BU,BV]) ⟨hw.h,hw.b,by simp,?_⟩
  .simp only[S.row]
   rw[hrow];cases hf:s.cn
   .rw[hf,aD (by decide)]at dL
    rw[hf]at hB;have hr:s.C.length+1<=room:=by unfold room;omega
    have h7:s.C.length+1<=i+(s.C.length - i+1):=by omega
    have t5:List.take (s.C.length+1) (List.take i (List.map K.row s.C)++[I' c.task,.sl 1 true []]::List.drop i (List.map K.row s.C))=List.take i (List.map K.row s.C)++[I' c.task,.sl 1 true []]::List.drop i (List.map K.row s.C):=
     gC (by simp;omega)
    simp[qx,Cl.row,hB,hf,hb,dL,hI,l5,jO,hr,kI,h7,t5,aJ,aA,sub,aE,back,ak,cut,an,V.aZ,br,aY,bg,aq,bk,cI,cz,aN,aO,cB]
   .have hE:=hw.c hf
    rw[hf,aK rfl]at dL;rw[hf]at hB;have hr:1<=room:=by decide
    rw[hE]at hB dL kI;have Yu:i=0:=by simpa using kI
    subst Yu;simp[qx,Cl.row,hB,hf,hE,hb,dL,hI,l5,jO,hr,aJ,aA,sub,aE,back,ak,cut,an,V.aZ,br,aY,bg,aq,bk,cI,cz,aN,aO,cB]
  .intro z hz
   simp only[dj,dA]at hz;rcases hz with h |h |h
   .exact hw.k z (nN h)
   .rw[h];simp
   .exact hw.k z (mO h)
 .refine Rel.er s 6 ?_ (by simp) ⟨hw.h,hw.b,hw.c,hw.k⟩
  cases hf:s.cn
  .rw[hf,aD (by decide)]at dL
   rw[hf]at hB;simp[qx,Cl.row,hB,hf,hb,dL,aJ,aA,sub,aE,back,ak,cut,an,V.aZ,br,aY,bg,aq,bk,cI,cz,aN,aO,cB]
  .rw[hf,aK rfl]at dL
   rw[hf]at hB;simp[qx,Cl.row,hB,hf,hb,dL,aJ,aA,sub,aE,back,ak,cut,an,V.aZ,br,aY,bg,aq,bk,cI,cz,aN,aO,cB]
theorem Nd(s:S)(t:Int)(h:mF s t=true):∃A k B,s.C=A++k::B/\bK s t=A.length/\k.task=t:=by
 unfold mF at h;have h1:(qB s)[bK s t]?=some t:=by simpa using h
 have h2:bK s t<s.C.length:=by
  have:=(rW.1 h1).1;unfold qB at this;simpa using this
 refine⟨s.C.take (bK s t),s.C[bK s t],s.C.drop (bK s t+1),?_,by simp;omega,?_⟩
 .have h3:s.C.drop (bK s t)=s.C[bK s t]::s.C.drop (bK s t+1):=Ww h2
  rw[<-h3,Al]
 .unfold qB at h1
  rw[vu,qR h2]at h1;simpa using h1
theorem agA(x y nm:D)(k sz ot:Int)(s:S)(hw:s.wf)(c:Cl)(hk:s.tk)(ht:cY c.task=true)(hb:c.op=71):
  Rel (ev P (.call Ct [.d (.ag [x,y]),.d (.ag [nm,I' k,I' sz,I' ot]),.d (.ag s.row),.d (.ag c.row)] [])) (eT (dr sz) s.pl c):=by
 have hB:=Nb s.cn s.C c.task (by have:=hk.len;omega) hk.rE.rE hk.task ht
 have dL:=M8 s.cn s.C hw.c (by have:=hk.len;omega)
 have kI:=tG c.task (s.C.map K.task);simp only[yI]at kI;have hlen:=hk.len;rw[au HS rfl];unfold eT;rw[S2,Nc];have e1:mF s c.task=decide ((s.C.map K.task)[bI c.task (s.C.map K.task)]?=some c.task):=rfl;have e2:bK s c.task=bI c.task (s.C.map K.task):=rfl;rw[<-e1]at hB;rw[<-e2]at hB kI;have kJ:(c.op==69)=false:=by simp[hb]
 have l6:(c.op==71)=true:=by simp[hb]
 rw[kJ,l6];cases hg:mF s c.task
 .rw[hg]at hB
  generalize bK s c.task=i at *;refine Rel.er s 20 ?_ (by simp) ⟨hw.h,hw.b,hw.c,hw.k⟩
  cases hf:s.cn
  .rw[hf,aD (by decide)]at dL
   rw[hf]at hB;simp[qx,Cl.row,hB,hf,hb,dL,aJ,aA,sub,aE,back,ak,cut,an,V.aZ,br,aY,bg,aq,bk,cI,cz,aN,aO,cB]
  .rw[hf,aK rfl]at dL
   rw[hf]at hB;simp[qx,Cl.row,hB,hf,hb,dL,aJ,aA,sub,aE,back,ak,cut,an,V.aZ,br,aY,bg,aq,bk,cI,cz,aN,aO,cB]
 .obtain⟨A,kk,B,f1,f2,f3⟩:=Nd s c.task hg
  have hf:s.cn=false:=by
   cases hf:s.cn
   .rfl
   .have:=hw.c hf;rw[this]at f1;simp at f1
  rw[hg,f2]at hB;rw[hf]at hB dL;rw[aD (by decide)]at dL
  have hD:=agp (A.map K.row) (B.map K.row) kk.row (by rw[f1]at hlen;simp at hlen⊢;omega)
  have hrow:s.C.map K.row=A.map K.row++kk.row::B.map K.row:=by rw[f1];simp
  have sE:s.C.length=A.length+(B.length+1):=by rw[f1];simp
  have jm:IntKind.i64.wrap ((A.length:Int)+1)=A.length+1:=wrap_i64 (by omega) (by omega)
  rw[hrow,sE]at dL;simp only[yI]at hD;have t6:List.take (A.length+B.length) (A.map K.row++(B.map K.row++[[I' 0,.sl 1 true []]]))=A.map K.row++B.map K.row:=by
   rw[<-List.append_assoc];exact uo (by simp)
  refine Rel.gd {s with cn:=false,C:=A++B} ?_ ?_ ⟨hw.h,hw.b,by simp,?_⟩
  .simp[qx,Cl.row,hB,hb,hf,dL,jm,hD,t6,aJ,aA,sub,aE,back,ak,cut,an,V.aZ,br,aY,bg,aq,bk,cI,cz,aN,aO,cB]
  .rw[f2]
   have d1:List.drop (A.length+1) (List.map K.pl A++kk.pl::List.map K.pl B)=List.map K.pl B:=by
    have:List.map K.pl A++kk.pl::List.map K.pl B=(List.map K.pl A++[kk.pl])++List.map K.pl B:=by simp
    rw[this];exact DY (by simp)
   simp[S.pl,f1,d1]
  .intro z hz
   refine hw.k z ?_;rw[f1];rcases dj.1 hz with h |h
   .exact DZ _ h
   .exact Gw _ (yH _ h)
theorem agB(x y nm:D)(k sz ot:Int)(s:S)(hw:s.wf)(c:Cl)(hk:s.tk)(ht:cY c.task=true)(hb:c.op=70):
  Rel (ev P (.call Ct [.d (.ag [x,y]),.d (.ag [nm,I' k,I' sz,I' ot]),.d (.ag s.row),.d (.ag c.row)] [])) (eT (dr sz) s.pl c):=by
 have hB:=Nb s.cn s.C c.task (by have:=hk.len;omega) hk.rE.rE hk.task ht
 have dL:=M8 s.cn s.C hw.c (by have:=hk.len;omega)
 have kI:=tG c.task (s.C.map K.task);simp only[yI]at kI;have hlen:=hk.len;rw[au HS rfl];unfold eT;rw[S2,Nc];have e1:mF s c.task=decide ((s.C.map K.task)[bI c.task (s.C.map K.task)]?=some c.task):=rfl;have e2:bK s c.task=bI c.task (s.C.map K.task):=rfl;rw[<-e1]at hB;rw[<-e2]at hB kI;have kJ:(c.op==69)=false:=by simp[hb]
 have l6:(c.op==71)=false:=by simp[hb]
 have fG:(c.op==70)=true:=by simp[hb]
 rw[kJ,l6,fG];cases hg:mF s c.task
 .rw[hg]at hB
  generalize bK s c.task=i at *;refine Rel.er s 20 ?_ (by simp) ⟨hw.h,hw.b,hw.c,hw.k⟩
  cases hf:s.cn
  .rw[hf,aD (by decide)]at dL
   rw[hf]at hB;simp[qx,Cl.row,hB,hf,hb,dL,aJ,aA,sub,aE,back,ak,cut,an,V.aZ,br,aY,bg,aq,bk,cI,cz,aN,aO,cB]
  .rw[hf,aK rfl]at dL
   rw[hf]at hB;simp[qx,Cl.row,hB,hf,hb,dL,aJ,aA,sub,aE,back,ak,cut,an,V.aZ,br,aY,bg,aq,bk,cI,cz,aN,aO,cB]
 .obtain⟨A,kk,B,f1,f2,f3⟩:=Nd s c.task hg
  have hf:s.cn=false:=by
   cases hf:s.cn
   .rfl
   .have:=hw.c hf;rw[this]at f1;simp at f1
  rw[hg,f2]at hB;rw[hf]at hB dL;rw[aD (by decide)]at dL
  have hrow:s.C.map K.row=A.map K.row++kk.row::B.map K.row:=by rw[f1];simp
  have sE:s.C.length=A.length+(B.length+1):=by rw[f1];simp
  have hkm:kk∈s.C:=by rw[f1];simp
  have iW:=hk.log kk hkm;rw[hrow,sE]at dL;have hgt:s.pl.C[bK s c.task]?=some (K.pl kk):=by
   rw[f2,S1,f1];simp
  rw[hgt];obtain⟨kt,kn,kl⟩:=kk;simp only at f3 iW;subst f3;cases kl with
  |nil =>
   refine Rel.er s 29 ?_ (by simp[K.pl]) ⟨hw.h,hw.b,hw.c,hw.k⟩
   have i1:(A.length:Int)<A.length+(B.length+1):=by omega
   simp[qx,Cl.row,hB,hb,hf,dL,K.row,i1,aJ,aA,sub,aE,back,ak,cut,an,V.aZ,br,aY,bg,aq,bk,cI,cz,aN,aO,cB]
  |cons b r =>
   have hkn:kn=false:=by
    cases kn
    .rfl
    .have:=hw.k _ hkm rfl;simp at this
   subst hkn;have xT:=tH false r (by simp) (by simp at iW;omega)
   rw[aD (by decide)]at xT
   have n0:((r.length:Int)+1==0)=false:=by simp;omega
   have n1:(1:Int)<=r.length+1:=by omega
   have i1:(A.length:Int)<A.length+(B.length+1):=by omega
   refine Rel.vl {s with cn:=false,C:=A++⟨c.task,false,r⟩::B} b ?_ ?_ ⟨hw.h,hw.b,by simp,?_⟩
   .simp[qx,Cl.row,hB,hb,hf,dL,K.row,xT,n0,n1,i1,aJ,aA,sub,aE,back,ak,cut,an,V.aZ,br,aY,bg,aq,bk,cI,cz,aN,aO,cB]
    exact gC (by simp)
   .rw[f2]
    simp[S.pl,f1,K.pl]
   .intro z hz
    rcases dj.1 hz with h |h
    .exact hw.k z (by rw[f1];exact DZ _ h)
    .rcases dA.1 h with h |h
     .rw[h];simp
     .exact hw.k z (by rw[f1];exact Gw _ (yH _ h))
end Go.VS.Sp
namespace Go.VS.Sp
def uQ(v:Int)(x:K):K:=⟨x.task,false,x.log++[v]⟩
def CR(v:Int)(x:K):List D:=[I' x.task,.sl 1 false (x.log.map (λn=>[I' n])++[[I' v]])]
theorem agC(v:Int)(x:K):(uQ v x).row=CR v x:=by simp[uQ,K.row,CR]
def H9(rm:Int)(x:K):Bool:=decide (rm<=(x.log.length:Int))
theorem agD(nm:D)(k sz ot:Int)(row zr:List D)(hrow:row.length=9)(hz:zr.length=9)(C:List K)(c:Cl)(hn:C.length<=1000)(hk:∀x∈C,x.nl=true->x.log=[])(pT:∀x∈C,x.log.length<=100000):∀(suf pre:List K),C=pre++suf ->
  ev P (.loop 0 [5,6,7,8,14,15,31,32] EZ [(5,.d (.ref [nm,I' k,I' sz,I' ot])),(6,.loc 0 0 0),(7,.d (.ref c.row)),(8,.loc 1 0 0),(14,.aR 2 0 C.length),(15,.d (I' 0)),(31,.d (I' C.length)),(32,.d (I' pre.length))]
   [.aG 9 true [row],.aG 9 true [zr],.aG 2 true (pre.map (CR c.value)++suf.map K.row)]) =
   if(suf.any (H9 (dr sz)))=true then some (.out .ret [(8,.loc 0 0 0),(9,.d (I' 0)),(10,.d (.b false)),(11,.d (I' 29))] [.aG 9 true [row]])
   else some (.out (.exit 1) [(6,.loc 0 0 0),(8,.loc 1 0 0),(14,.aR 2 0 C.length),(15,.d (I' 0))] [.aG 9 true [row],.aG 9 true [zr],.aG 2 true (C.map (CR c.value))]):=by
 intro suf;induction suf with
 |nil =>
  intro pre hl
  have:C.length=pre.length:=by simp[hl]
  have hp:C=pre:=by simp[hl]
  rw[bS]
  conv=>lhs;arg 4;unfold EZ
  simp[this,hp,aJ,aA,sub,aE,back,ak,cut,an,V.aZ,br,aY,bg,aq,bk,cI,cz,aN,aO,cB]
 |cons x suf ih =>
  intro pre hl;have hg:C[pre.length]?=some x:=by simp[hl]
  have hlt:(pre.length:Int)<C.length:=by simp[hl];omega
  have hnext:IntKind.i64.wrap ((pre.length:Int)+1)=pre.length+1:=wrap_i64 (by omega) (by omega)
  have bB:=ih (pre++[x]) (by simp[hl])
  have hR:=M9 nm k sz ot;have zk:x∈C:=by rw[hl];simp
  have iW:=pT x zk;have hr:x.log.length+1<=room:=by unfold room;omega
  have dL:=tH x.nl x.log (hk x zk) (by omega)
  have hlen:C.length=pre.length+(suf.length+1):=by simp[hl]
  rw[List.any_cons];generalize (suf.any (H9 (dr sz)))=dd at *;generalize H8:dr sz=rm at *;rw[bS]
  conv=>lhs;arg 4;unfold EZ
  match row,hrow,zr,hz with
  | [r0,r1,r2,r3,r4,r5,r6,r7,r8],_,[z0,z1,z2,z3,z4,z5,z6,z7,z8],_ =>
  cases hf:H9 rm x
  .have tJ:decide (rm<=(x.log.length:Int))=false:=hf
   cases gi:x.nl
   .rw[gi,aD (by decide)]at dL
    have t1:List.take (x.log.length+1) (List.map (λx=>[I' x]) x.log++[[I' c.value]])=List.map (λx=>[I' x]) x.log++[[I' c.value]]:=gC (by simp)
    simp[hlt,hR,tJ,K.row,Cl.row,gi,dL,hr,t1,hnext,aJ,aA,sub,aE,back,ak,cut,an,V.aZ,br,aY,bg,aq,bk,cI,cz,aN,aO,cB];simp[CR,Cl.row]at bB;exact bB
   .have hE:=hk x zk gi
    rw[gi,aK rfl]at dL;rw[hE]at tJ dL;have jo:1<=room:=by decide
    have hf3:decide (rm<=0)=false:=tJ;simp[hlt,hR,hf3,K.row,Cl.row,gi,hE,dL,jo,hnext,aJ,aA,sub,aE,back,ak,cut,an,V.aZ,br,aY,bg,aq,bk,cI,cz,aN,aO,cB];simp[CR,Cl.row,hE]at bB;exact bB
  .have tJ:decide (rm<=(x.log.length:Int))=true:=hf
   simp[hlt,hR,tJ,K.row,aJ,aA,sub,aE,back,ak,cut,an,V.aZ,br,aY,bg,aq,bk,cI,cz,aN,aO,cB]
theorem agE(rm:Int)(C:List K):((C.map K.pl).any λx=>decide (rm<=x.log.length))=C.any (H9 rm):=by
 rw[List.any_map];rfl
theorem agF(x y nm:D)(k sz ot:Int)(s:S)(hw:s.wf)(c:Cl)(hk:s.tk)(ht:cY c.task=true)(hb:c.op=68):
  Rel (ev P (.call Ct [.d (.ag [x,y]),.d (.ag [nm,I' k,I' sz,I' ot]),.d (.ag s.row),.d (.ag c.row)] [])) (eT (dr sz) s.pl c):=by
 have hB:=Nb s.cn s.C c.task (by have:=hk.len;omega) hk.rE.rE hk.task ht
 have dL:=M8 s.cn s.C hw.c (by have:=hk.len;omega)
 have hlen:=hk.len;unfold eT;have kJ:(c.op==69)=false:=by simp[hb]
 have l6:(c.op==71)=false:=by simp[hb]
 have fG:(c.op==70)=false:=by simp[hb]
 rw[kJ,l6,fG,S1,agE];cases hf:s.cn
 .rw[hf,aD (by decide)]at dL
  have hL:ev P (.loop 0 [5,6,7,8,14,15,31,32] EZ [(5,.d (.ref [nm,I' k,I' sz,I' ot])),(6,.loc 0 0 0),(7,.d (.ref c.row)),(8,.loc 1 0 0),(14,.aR 2 0 s.C.length),(15,.d (I' 0)),(31,.d (I' s.C.length)),(32,.d (I' 0))]
   [.aG 9 true [s.row],.aG 9 true [bY],.aG 2 true (s.C.map K.row)])=_:=agD nm k sz ot s.row bY rfl rfl s.C c hlen hw.k hk.log s.C [] rfl
  generalize s.C.any (H9 (dr sz))=dd at *;rw[hf]at hB;generalize bI c.task (s.C.map K.task)=i at *;generalize decide ((s.C.map K.task)[i]?=some c.task)=g at *;rw[au HS rfl];simp only[S.row,hf,Cl.row,hb,bY]at hL;have e:(s.C.map K.pl).map (λx=>(⟨x.task,false,x.log++[c.value]⟩:K))=(s.C.map (uQ c.value)).map K.pl:=by
   rw[kY,kY];rfl
  have e2:s.C.map (CR c.value)=(s.C.map (uQ c.value)).map K.row:=by
   rw[kY];exact vo λx _=>(agC c.value x).symm
  rw[e2]at hL;cases dd
  .rw[aD (by decide)]at hL
   refine Rel.gd {s with cn:=false,C:=s.C.map (uQ c.value)} ?_ (by rw[e];simp[S.pl]) ⟨hw.h,hw.b,by simp,?_⟩
   .have t8:List.take s.C.length ((s.C.map (uQ c.value)).map K.row)=(s.C.map (uQ c.value)).map K.row:=gC (by simp)
    have hrow:cD false (s.C.map (uQ c.value)) = .sl 2 false ((s.C.map (uQ c.value)).map K.row):=rfl;have hRL:((s.C.map (uQ c.value)).map K.row).length=s.C.length:=by simp
    simp only[S.row];rw[hrow];clear hrow;generalize (s.C.map (uQ c.value)).map K.row=RR at *;simp[qx,Cl.row,hB,hb,hf,dL,hL,hRL,t8,aJ,aA,sub,aE,back,ak,cut,an,V.aZ,br,aY,bg,aq,bk,cI,cz,aN,aO,cB]
   .intro z hz
    obtain⟨w,_,rfl⟩:=gV.1 hz;simp[uQ]
  .rw[aK rfl]at hL
   refine Rel.er s 29 ?_ (by simp) ⟨hw.h,hw.b,hw.c,hw.k⟩
   simp[qx,Cl.row,hB,hb,hf,dL,hL,aJ,aA,sub,aE,back,ak,cut,an,V.aZ,br,aY,bg,aq,bk,cI,cz,aN,aO,cB]
 .have hE:=hw.c hf
  rw[hf,aK rfl]at dL;rw[hE]at dL hB⊢;rw[hf]at hB;rw[au HS rfl];refine Rel.gd s ?_ (by simp[S.pl,hE]) hw
  simp[qx,Cl.row,hB,hb,hf,hE,dL,EZ,bS,aJ,aA,sub,aE,back,ak,cut,an,V.aZ,br,aY,bg,aq,bk,cI,cz,aN,aO,cB]
end Go.VS.Sp
namespace Go.VS.Sp
end Go.VS.Sp
namespace Go.VS.Sp
end Go.VS.Sp
namespace Go.VS.Sp
structure S.sz(s:S):Prop where
 h:s.H.length<=10000
 b:s.B.length<=10000
 q:s.Q.length<=10000
 c:s.C.length<=1000
 l:∀c∈s.C,c.log.length<=10000
theorem S.sz.sm{s:S}(h:s.sz):s.sm:=⟨by have:=h.h;omega,by have:=h.b;omega,by have:=h.q;omega,by have:=h.c;omega,λc hc=>by have:=h.l c hc;omega⟩
theorem qC{n:Int}{b:Bool}:(ck n b==0)=(n==0&&b):=by
 unfold ck;by_cases h:n=0
 .cases b<;>simp[h]
 .simp[h]
def we(k sz:Int):List D:=if k=4\/k=8 then grow sz else gm
end Go.VS.Sp
namespace Go.VS.Sp
theorem agG(nm:D)(sz ot:Int)(s:S)(hq:s.Q=[])(hs:s.sm):
  ev P (.call vK [.d (.ag [.fn sq [] [],.fn pM [] []]),.d (.ag [nm,I' 1,I' sz,I' ot]),.d (.ag s.row)] [])=some (.val (.d (.b (cW 1 sz ot s))) []):=by
 have h:=Yi nm 1 sz ot s hq hs;have e:cW 1 sz ot s=(ck (dR 1 1 sz ot) (pU s)==0):=by
  unfold cW;rw[qC];simp[gE,gL,iV,ir,hq,qC]
 rw[e];simp only[S.row]at h;rw[au HR rfl];simp[CG,h,ez,fu]
theorem agH(nm:D)(sz ot:Int)(s:S)(hq:s.Q=[])(hs:s.sm):
  ev P (.call vK [.d (.ag [.fn su [] [],.fn lz [] []]),.d (.ag [nm,I' 2,I' sz,I' ot]),.d (.ag s.row)] [])=some (.val (.d (.b (cW 2 sz ot s))) []):=by
 have h:=Yl nm 2 sz ot s hq hs;have e:cW 2 sz ot s=(ck (dR 2 2 sz ot) (okW s)==0):=by
  unfold cW;rw[qC];simp[gE,gL,iV,ir,hq,qC]
 rw[e];simp only[S.row]at h;rw[au HR rfl];simp[CG,h,ez,fu]
theorem agI(nm:D)(sz ot:Int)(s:S)(hq:s.Q=[])(hs:s.sm):
  ev P (.call vK [.d (.ag [.fn s9 [] [],.fn qu [] []]),.d (.ag [nm,I' 4,I' sz,I' ot]),.d (.ag s.row)] [])=some (.val (.d (.b (cW 4 sz ot s))) []):=by
 have h:=Yj nm 4 sz ot s hq hs;have e:cW 4 sz ot s=(ck (iR 4 sz ot) (qz sz s)==0):=by
  unfold cW;rw[qC];simp[gE,gL,iV,ir,hq,qC]
 rw[e];simp only[S.row]at h;rw[au HR rfl];simp[CG,h,ez,fu]
theorem agJ(nm:D)(sz ot:Int)(s:S)(hq:s.Q=[])(hs:s.sm):
  ev P (.call vK [.d (.ag [.fn tj [] [],.fn nT [] []]),.d (.ag [nm,I' 8,I' sz,I' ot]),.d (.ag s.row)] [])=some (.val (.d (.b (cW 8 sz ot s))) []):=by
 have h:=Ym nm 8 sz ot s hq hs;have e:cW 8 sz ot s=(ck (jv 8 sz ot) (qA sz s)==0):=by
  unfold cW;rw[qC];simp[gE,gL,iV,ir,hq,qC]
 rw[e];simp only[S.row]at h;rw[au HR rfl];simp[CG,h,ez,fu]
theorem agK(nm:D)(sz ot:Int)(s:S)(hq:s.Q=[])(hs:s.sm):
  ev P (.call vK [.d (.ag [.fn tr [] [],.fn pP [] []]),.d (.ag [nm,I' 9,I' sz,I' ot]),.d (.ag s.row)] [])=some (.val (.d (.b (cW 9 sz ot s))) []):=by
 have h:=Yp nm 9 sz ot s hq;have e:cW 9 sz ot s=(ck (dR 9 9 sz ot) (okF s)==0):=by
  unfold cW;rw[qC];simp[gE,gL,iV,ir,hq,qC]
 rw[e];simp only[S.row]at h;rw[au HR rfl];simp[CG,h,ez,fu]
theorem agL(nm:D)(sz ot:Int)(s:S)(hq:s.Q=[])(hs:s.sm):
  ev P (.call Rh [.d (.ag [.fn tc [] [],.fn oF [] []]),.d (.ag [nm,I' 5,I' sz,I' ot]),.d (.ag s.row)] [])=some (.val (.d (.b (cW 5 sz ot s))) []):=by
 have h:=Yk nm 5 sz ot {s with val:=0} hq ⟨hs.h,hs.b,hs.q,hs.c,hs.l⟩;have e:cW 5 sz ot s=(decide (0<=s.val)&&(decide (s.val<sz)&&(ck (iS 5 sz ot) (okB {s with val:=0})==0))):=by
  unfold cW;rw[qC];have e1:(decide (s.val<0)||decide (sz<=s.val))=!(decide (0<=s.val)&&decide (s.val<sz)):=by rw[um];simp
  rw[e1];simp[gE,gL,iV,ir,hq,qC];cases(iS 5 sz ot==0)<;>cases decide (0<=s.val)<;>cases decide (s.val<sz)<;>simp
 rw[e];simp only[S.row]at h;generalize ck (iS 5 sz ot) (okB {s with val:=0})=r at *;rw[au afA rfl];cases h1:decide (0<=s.val)
 .simp[HK,h1]
 .cases h2:decide (s.val<sz)
  .simp[HK,h1,h2]
  .simp[HK,h1,h2,h,ez,fu]
theorem Yv(o c t:Int)(q:Bool):(bare o c t q).sm:=⟨by simp[bare],by simp[bare],by simp[bare],by simp[bare],by simp[bare]⟩
theorem agM(nm:D)(sz ot:Int)(s:S)(hq:s.Q=[])(hs:s.sm):
  ev P (.call Ri [.d (.ag [.fn tg [] [],.fn gp [] []]),.d (.ag [nm,I' 6,I' sz,I' ot]),.d (.ag s.row)] [])=some (.val (.d (.b (cW 6 sz ot s))) []):=by
 have h:=SR nm 6 (dr sz) ot s hq hs;have h0:=SR nm 6 sz ot (bare (-1) 0 0 true) rfl (Yv _ _ _ _);have hR:=M9 nm 6 sz ot;have e0:(ck (iq 6 sz ot) (mV sz (bare (-1) 0 0 true))==0)=(iq 6 sz ot==0):=by
  rw[qC];cases hn:iq 6 sz ot==0
  .rfl
  .have:¬sz<0:=by
    intro hlt;have hn2:iq 6 sz ot=0:=by simpa using hn
    unfold iq at hn2;simp[hlt]at hn2
   simp[mV,v8,bare,this]
 have e:cW 6 sz ot s=((iq 6 sz ot==0)&&(ck (iq 6 (dr sz) ot) (mV (dr sz) s)==0)):=by
  unfold cW;simp[gE,gL,iV,ir,hq]
 rw[e,<-e0];simp only[S.row]at h;generalize ck (iq 6 (dr sz) ot) (mV (dr sz) s)=r at *;generalize ck (iq 6 sz ot) (mV sz (bare (-1) 0 0 true))=r0 at *;have h0:ev P (.call gp [.d (.ag [nm,I' 6,I' sz,I' ot]),.d (.ag [I' (-1),I' 0,I' 0,.sl 1 true [],.sl 5 true [],.sl 1 true [],.sl 2 true [],.b false,I' 0])] [])=some (.val (.d (I' r0)) []):=h0;rw[au afC rfl];cases h1:r0==0
 .simp[MN,h0,h1,ez,fu]
 .simp[MN,h0,h1,hR,h,ez,fu]
theorem agN(nm:D)(sz ot:Int)(s:S)(hq:s.Q=[])(hs:s.sm):
  ev P (.call Rj [.d (.ag [.fn th [] [],.fn rq [] []]),.d (.ag [nm,I' 7,I' sz,I' ot]),.d (.ag s.row)] [])=some (.val (.d (.b (cW 7 sz ot s))) []):=by
 have h:=qy nm 7 (dr sz) ot s hs;have h0:=qy nm 7 sz ot (bare (-1) 0 0 true) (Yv _ _ _ _);have hR:=M9 nm 7 sz ot;have e0:(fM 7 sz ot (bare (-1) 0 0 true)==0)=(dQ 7 sz ot==0):=by
  unfold fM;by_cases hn:dQ 7 sz ot=0
  .simp[hn,S.good,bare,vc,tq,dY,fR,S.uO]
  .simp[hn]
 have e:cW 7 sz ot s=((dQ 7 sz ot==0)&&(fM 7 (dr sz) ot s==0)):=by
  unfold cW;simp[gE,gL,iV,ir,hq]
 rw[e,<-e0];simp only[S.row]at h;generalize fM 7 (dr sz) ot s=r at *;generalize fM 7 sz ot (bare (-1) 0 0 true)=r0 at *;have h0:ev P (.call rq [.d (.ag [nm,I' 7,I' sz,I' ot]),.d (.ag [I' (-1),I' 0,I' 0,.sl 1 true [],.sl 5 true [],.sl 1 true [],.sl 2 true [],.b false,I' 0])] [])=some (.val (.d (I' r0)) []):=h0;rw[au afF rfl];cases h1:r0==0
 .simp[MO,h0,h1,ez,fu]
 .simp[MO,h0,h1,hR,h,ez,fu]
end Go.VS.Sp
namespace Go.VS.Sp
theorem oN{k sz ot:Int}{s:S}(h:cW k sz ot s=true):gE k sz ot=0/\s.Q=[]/\(k=5->0<=s.val/\s.val<sz)/\gL k (iV k sz) ot (ir k s)=0:=by
 unfold cW at h;simp only[bJ,dN,JO]at h;obtain⟨⟨⟨h1,h2⟩,h3⟩,h4⟩:=h;refine⟨h1,h2,λh5=>?_,h4⟩
 simp[h5]at h3;omega
theorem CT{n:Int}{b:Bool}(h:ck n b=0):b=true:=by
 have:(ck n b==0)=true:=by simp[h]
 rw[qC,bJ]at this;exact this.2
theorem CU{n:Int}{b:Bool}(h:ck n b=0):n=0:=by
 have:(ck n b==0)=true:=by simp[h]
 rw[qC,bJ]at this;simpa using this.1
theorem Yw{sz ot:Int}{s:S}(h:cW 1 sz ot s=true):pU s=true:=by
 obtain⟨_,_,_,h⟩:=oN h;exact CT (by simpa[gL,iV,ir]using h)
theorem Yx{sz ot:Int}{s:S}(h:cW 2 sz ot s=true):okW s=true:=by
 obtain⟨_,_,_,h⟩:=oN h;exact CT (by simpa[gL,iV,ir]using h)
theorem S3{sz ot:Int}{s:S}(h:cW 4 sz ot s=true):iR 4 sz ot=0/\qz sz s=true:=by
 obtain⟨_,_,_,h⟩:=oN h;have h:ck (iR 4 sz ot) (qz sz s)=0:=by simpa[gL,iV,ir]using h
 exact⟨CU h,CT h⟩
theorem Yy{sz ot:Int}{s:S}(h:cW 5 sz ot s=true):iS 5 sz ot=0/\okB {s with val:=0}=true/\0<=s.val/\s.val<sz:=by
 obtain⟨_,_,h5,h⟩:=oN h;have h:ck (iS 5 sz ot) (okB {s with val:=0})=0:=by simpa[gL,iV,ir]using h
 exact⟨CU h,CT h,h5 rfl⟩
theorem agO{sz ot:Int}{s:S}(h:cW 6 sz ot s=true):iq 6 sz ot=0/\mV (dr sz) s=true:=by
 obtain⟨h0,_,_,h⟩:=oN h;have h:ck (iq 6 (dr sz) ot) (mV (dr sz) s)=0:=by simpa[gL,iV,ir]using h
 exact⟨by simpa[gE]using h0,CT h⟩
theorem Yz{sz ot:Int}{s:S}(h:cW 7 sz ot s=true):dQ 7 sz ot=0/\S.good (dr sz) s=true:=by
 obtain⟨h0,_,_,h⟩:=oN h;have h:fM 7 (dr sz) ot s=0:=by simpa[gL,iV,ir]using h
 refine⟨by simpa[gE]using h0,?_⟩
 unfold fM at h;split at h
 .split at h
  .assumption
  .simp at h
 .rename_i h2;exact absurd h h2
theorem YA{sz ot:Int}{s:S}(h:cW 8 sz ot s=true):jv 8 sz ot=0/\qA sz s=true:=by
 obtain⟨_,_,_,h⟩:=oN h;have h:ck (jv 8 sz ot) (qA sz s)=0:=by simpa[gL,iV,ir]using h
 exact⟨CU h,CT h⟩
theorem agP{s:S}(h:pU s=true):s.own = -1\/cY s.own=true:=by
 unfold pU at h;simp at h;exact h.1
theorem YB{n:Int}(h:cY n=true):0<=n/\n<16:=Na.1 h
theorem agQ{s:S}(h:okW s=true):gF s.H/\(∀x∈s.H,cY x=true)/\(s.own = -1\/(cY s.own=true/\s.H=[])):=by
 unfold okW at h;rw[bJ]at h;obtain⟨h1,h2⟩:=h;obtain⟨_,h3,h4⟩:=(M6 s.H none).1 h2;refine⟨h3,h4,?_⟩;unfold CO at h1;rw[M4]at h1;by_cases ho:s.own = -1
 .exact .inl ho
 .right
  simp[ho]at h1;obtain⟨⟨⟨⟨⟨⟨h5,_⟩,_⟩,_⟩,_⟩,_⟩,_⟩:=h1;exact h5
theorem agR{sz ot:Int}(h:iR 4 sz ot=0):1<=sz/\sz<=100:=by
 unfold iR at h;simp at h;omega
theorem agS{sz ot:Int}(h:iS 5 sz ot=0):1<=sz/\sz<=100:=by
 unfold iS at h;simp at h;omega
theorem YC{sz ot:Int}(h:jv 8 sz ot=0):1<=sz/\sz<=100/\1<=ot/\ot<=1099511627776:=by
 unfold jv at h;simp at h;omega
theorem YD{sz:Int}{s:S}(h:qz sz s=true):0<=s.cnt/\s.cnt<=sz:=by
 unfold qz at h;simp at h;omega
theorem agT{s:S}(h:okB s=true):0<=s.cnt/\s.cnt<=1099511627776:=by
 unfold okB at h;simp at h;omega
theorem YE{sz:Int}{s:S}(h:qA sz s=true):(0<=s.cnt/\s.cnt<=sz)/\0<=s.time/\s.time<=1099511627776:=by
 unfold qA at h;simp at h;omega
theorem agU{sz:Int}{s:S}(h:S.good sz s=true):gF (qB s)/\∀x∈s.C,cY x.task=true/\¬sz<x.log.length/\x.log.all num=true:=by
 unfold S.good at h;simp only[bJ]at h;obtain⟨_,h1,h2⟩:=(M7 sz s.C none).1 h.1.2.1;exact⟨h1,h2⟩
theorem S4{c:Cl}(h:cG c=false):cY c.task=true/\0<=c.now/\c.now<=1099511627776:=by
 unfold cG at h;simp at h;refine⟨Na.2 (by omega),by omega,by omega⟩
theorem agV(nm:D)(sz ot:Int)(s:S)(c:Cl)(hw:s.wf)(hz:s.sz)(ha:cW 1 sz ot s=true)(hc:cG c=false)(hb:dH 1 c.op=true)(hf:fit 1 sz c=true):
  Rel (ev P (.call Ls [.d (.ag [.fn sq [] [],.fn pM [] []]),.d (.ag [nm,I' 1,I' sz,I' ot]),.d (.ag s.row),.d (.ag c.row)] [])) (raw 1 sz ot s.pl c):=by
 have h1:=agP (Yw ha);have h2:s.own = -1\/0<=s.own:=by
  rcases h1 with h |h
  .exact .inl h
  .exact .inr (YB h).1
 have e:raw 1 sz ot s.pl c=eM s.pl c:=rfl;rw[e];exact agk _ rfl _ _ s hw c h2
theorem agW(nm:D)(sz ot:Int)(s:S)(c:Cl)(hw:s.wf)(hz:s.sz)(ha:cW 2 sz ot s=true)(hc:cG c=false)(hb:dH 2 c.op=true)(hf:fit 2 sz c=true):
  Rel (ev P (.call Lt [.d (.ag [.fn su [] [],.fn lz [] []]),.d (.ag [nm,I' 2,I' sz,I' ot]),.d (.ag s.row),.d (.ag c.row)] [])) (raw 2 sz ot s.pl c):=by
 obtain⟨h1,h2,h3⟩:=agQ (Yx ha);have h4:s.own = -1\/0<=s.own:=by
  rcases h3 with h |h
  .exact .inl h
  .exact .inr (YB h.1).1
 have h5:s.own = -1\/s.H=[]:=by
  rcases h3 with h |h
  .exact .inl h
  .exact .inr h.2
 have hl:=hz.h;have e:raw 2 sz ot s.pl c=eW s.pl c:=rfl;rw[e];exact agu _ rfl _ _ s hw c h1 (by omega) h4
theorem agX(nm:D)(sz ot:Int)(s:S)(c:Cl)(hw:s.wf)(hz:s.sz)(ha:cW 4 sz ot s=true)(hc:cG c=false)(hb:dH 4 c.op=true)(hf:fit 4 sz c=true):
  Rel (ev P (.call Lu [.d (.ag [.fn s9 [] [],.fn qu [] []]),.d (.ag [nm,I' 4,I' sz,I' ot]),.d (.ag s.row),.d (.ag c.row)] [])) (raw 4 sz ot s.pl c):=by
 obtain⟨h1,h2⟩:=S3 ha;have h3:=agR h1;have h4:=YD h2;have h5:1<=c.value/\c.value<=sz:=by simpa[fit]using hf
 have e:raw 4 sz ot s.pl c=eS sz s.pl c:=rfl;rw[e];exact agl _ _ nm 4 sz ot s hw c h3.2 h4 h5
theorem agY(nm:D)(sz ot:Int)(s:S)(c:Cl)(hw:s.wf)(hz:s.sz)(ha:cW 5 sz ot s=true)(hc:cG c=false)(hb:dH 5 c.op=true)(hf:fit 5 sz c=true):
  Rel (ev P (.call Lv [.d (.ag [.fn tc [] [],.fn oF [] []]),.d (.ag [nm,I' 5,I' sz,I' ot]),.d (.ag s.row),.d (.ag c.row)] [])) (raw 5 sz ot s.pl c):=by
 obtain⟨h1,h2,h3,h4⟩:=Yy ha;have h5:=agS h1;have h6:=agT h2;simp only at h6;have e:raw 5 sz ot s.pl c=eB sz s.pl:=rfl;rw[e];exact agm _ rfl _ _ nm 5 sz ot s hw h5.2 ⟨h3,h4⟩ h6
theorem agZ(nm:D)(sz ot:Int)(s:S)(c:Cl)(hw:s.wf)(hz:s.sz)(ha:cW 6 sz ot s=true)(hc:cG c=false)(hb:dH 6 c.op=true)(hf:fit 6 sz c=true):
  Rel (ev P (.call Lw [.d (.ag [.fn tg [] [],.fn gp [] []]),.d (.ag [nm,I' 6,I' sz,I' ot]),.d (.ag s.row),.d (.ag c.row)] [])) (raw 6 sz ot s.pl c):=by
 have h1:c.op=64\/c.op=65\/c.op=66:=by
  simp[dH]at hb;omega
 have hl:=hz.b;have e:raw 6 sz ot s.pl c=eC (dr sz) s.pl c:=rfl;rw[e];exact agx _ _ nm 6 sz ot s hw c h1 (by omega)
theorem ag0(nm:D)(sz ot:Int)(s:S)(c:Cl)(hw:s.wf)(hz:s.sz)(ha:cW 7 sz ot s=true)(hc:cG c=false)(hb:dH 7 c.op=true)(hf:fit 7 sz c=true):
  Rel (ev P (.call Ct [.d (.ag [.fn th [] [],.fn rq [] []]),.d (.ag [nm,I' 7,I' sz,I' ot]),.d (.ag s.row),.d (.ag c.row)] [])) (raw 7 sz ot s.pl c):=by
 obtain⟨_,h1⟩:=Yz ha;obtain⟨h2,h3⟩:=agU h1;have hk:s.tk:=⟨h2,λx hx=>(h3 x hx).1,hz.c,λx hx=>by have:=hz.l x hx;omega⟩
 have ht:=(S4 hc).1;have h4:c.op=68\/c.op=69\/c.op=70\/c.op=71:=by
  simp[dH]at hb;omega
 have e:raw 7 sz ot s.pl c=eT (dr sz) s.pl c:=rfl;rw[e];rcases h4 with h |h |h |h
 .exact agF _ _ nm 7 sz ot s hw c hk ht h
 .exact agz _ _ nm 7 sz ot s hw c hk ht h
 .exact agB _ _ nm 7 sz ot s hw c hk ht h
 .exact agA _ _ nm 7 sz ot s hw c hk ht h
theorem ag1(nm:D)(sz ot:Int)(s:S)(c:Cl)(hw:s.wf)(hz:s.sz)(ha:cW 8 sz ot s=true)(hc:cG c=false)(hb:dH 8 c.op=true)(hf:fit 8 sz c=true):
  Rel (ev P (.call Lz [.d (.ag [.fn tj [] [],.fn nT [] []]),.d (.ag [nm,I' 8,I' sz,I' ot]),.d (.ag s.row),.d (.ag c.row)] [])) (raw 8 sz ot s.pl c):=by
 obtain⟨h1,h2⟩:=YA ha;have h3:=YC h1;have h4:=YE h2;have h5:=(S4 hc).2;have h6:c.op=72\/c.op=75:=by simpa[dH]using hb
 have h7:c.op=72->1<=c.value/\c.value<=sz:=by
  intro h;simpa[fit,h]using hf
 have e:raw 8 sz ot s.pl c=eL sz ot s.pl c:=rfl;rw[e];exact ago _ _ nm 8 sz ot s hw c ⟨h3.1,h3.2.1⟩ h3.2.2 h4.1 h4.2 h5 h6 h7
theorem ag2(nm:D)(sz ot:Int)(s:S)(c:Cl)(hw:s.wf)(hz:s.sz)(ha:cW 9 sz ot s=true)(hc:cG c=false)(hb:dH 9 c.op=true)(hf:fit 9 sz c=true):
  Rel (ev P (.call LA [.d (.ag [.fn tr [] [],.fn pP [] []]),.d (.ag [nm,I' 9,I' sz,I' ot]),.d (.ag s.row),.d (.ag c.row)] [])) (raw 9 sz ot s.pl c):=by
 have h1:c.op=73\/c.op=74:=by simpa[dH]using hb
 have e:raw 9 sz ot s.pl c=eF s.pl c:=rfl;rw[e];exact agn _ rfl _ _ s hw c h1
end Go.VS.Sp
namespace Go.VS.Sp
theorem YF(sz:Int):∀(C:List K)(p:Option K),vc sz (p.map K.pl) (C.map K.pl)=vc sz p C
 | [],_=>rfl
 |c::C,p=>by
  have ih:=YF sz C (some c);have e:lE sz (p.map K.pl) (K.pl c)=lE sz p c:=by
   unfold lE;cases p<;>rfl
  show(!lE sz (p.map K.pl) (K.pl c)&&((K.pl c).log.all num&&vc sz ((some c).map K.pl) (C.map K.pl)))=(!lE sz p c&&(c.log.all num&&vc sz (some c) C))
  rw[e,ih];rfl
theorem YG(k sz ot:Int)(s:S)(hq:s.Q=[]):gL k sz ot s.pl=gL k sz ot s:=by
 have hl:s.pl.C.length=s.C.length:=by simp[S.pl]
 have e1:pU s.pl=pU s:=by unfold pU;rw[hl];first |done |rfl
 have e2:okW s.pl=okW s:=by unfold okW CO;rw[hl];first |done |rfl
 have e3:qz sz s.pl=qz sz s:=by unfold qz;rw[hl];first |done |rfl
 have e4:okB s.pl=okB s:=by unfold okB;rw[hl];first |done |rfl
 have e5:mV sz s.pl=mV sz s:=by unfold mV v8;rw[hl];first |done |rfl
 have e6:fM k sz ot s.pl=fM k sz ot s:=by
  have h1:s.pl.Q=[]:=hq;have h2:=YF sz s.C none;simp only[Option.map_none]at h2;unfold fM S.good;rw[h1,hq];have h3:s.pl.C=s.C.map K.pl:=rfl;have h4:s.pl.uO=s.uO:=rfl;have h5:s.pl.own=s.own:=rfl;rw[h3,h2,h4,h5];rfl
 have e7:qA sz s.pl=qA sz s:=by unfold qA;rw[hl];first |done |rfl
 have e8:okF s.pl=okF s:=by simp[okF,uP,S.pl,JO]
 unfold gL;rw[e1,e2,e3,e4,e5,e6,e7,e8]
theorem A0(k sz ot:Int)(s:S):cW k sz ot s.pl=cW k sz ot s:=by
 unfold cW;have h1:s.pl.Q=s.Q:=rfl;have h2:s.pl.val=s.val:=rfl;have h3:ir k s.pl=(ir k s).pl:=by unfold ir;split<;>rfl
 rw[h1,h2,h3];by_cases hq:s.Q=[]
 .rw[YG _ _ _ _ (by unfold ir;split<;>simp[hq])]
 .have:s.Q.isEmpty=false:=by simpa[JO]using hq
  simp[this]
theorem YH{k sz ot:Int}(h:gE k sz ot=0):k=1\/k=2\/k=4\/k=5\/k=6\/k=7\/k=8\/k=9:=by
 by_cases h1:k=1
 .exact .inl h1
 by_cases h2:k=2
 .exact .inr (.inl h2)
 by_cases h4:k=4
 .exact .inr (.inr (.inl h4))
 by_cases h5:k=5
 .exact .inr (.inr (.inr (.inl h5)))
 by_cases h6:k=6
 .exact .inr (.inr (.inr (.inr (.inl h6))))
 by_cases h7:k=7
 .exact .inr (.inr (.inr (.inr (.inr (.inl h7)))))
 by_cases h8:k=8
 .exact .inr (.inr (.inr (.inr (.inr (.inr (.inl h8))))))
 by_cases h9:k=9
 .exact .inr (.inr (.inr (.inr (.inr (.inr (.inr h9))))))
 simp[gE,h1,h2,h4,h5,h6,h7,h8,h9]at h
theorem YI{k sz ot:Int}{s:S}(h:cW k sz ot s=true):k=1\/k=2\/k=4\/k=5\/k=6\/k=7\/k=8\/k=9:=YH (oN h).1
theorem ag3:zN.wf:=⟨λ_=>rfl,λ_=>rfl,λ_=>rfl,by simp[zN]⟩
theorem Rel.fail{R:Option ej}(e:Int)(h:R=some (.val (.tu [.d (.ag bY),.d (I' 0),.d (.b false),.d (I' e)]) [])):Rel R (Sp.er zS e):=⟨zN,h,rfl,ag3⟩
end Go.VS.Sp
namespace Go.VS.Sp
theorem ep(e:Int):ev P (.call Qk [.d (I' e)] [])=some (.val (.tu [.d (.ag bY),.d (I' 0),.d (.b false),.d (I' e)]) []):=by
 rw[au adR rfl];simp[Rr,bY]
theorem tK:ev P (.call qt [.d (I' 1)] [])=some (.val (.tu [.d (.lW 101 (.ag [.fn sq [] [],.fn pM [] []])),.d (.b true)]) []):=by
 rw[au za rfl];simp[vO,ux]
theorem rF:ev P (.call qt [.d (I' 2)] [])=some (.val (.tu [.d (.lW 102 (.ag [.fn su [] [],.fn lz [] []])),.d (.b true)]) []):=by
 rw[au za rfl];simp[vO,ux]
theorem qE:ev P (.call qt [.d (I' 4)] [])=some (.val (.tu [.d (.lW 103 (.ag [.fn s9 [] [],.fn qu [] []])),.d (.b true)]) []):=by
 rw[au za rfl];simp[vO,ux]
theorem zl:ev P (.call qt [.d (I' 5)] [])=some (.val (.tu [.d (.lW 104 (.ag [.fn tc [] [],.fn oF [] []])),.d (.b true)]) []):=by
 rw[au za rfl];simp[vO,ux]
theorem sF:ev P (.call qt [.d (I' 6)] [])=some (.val (.tu [.d (.lW 105 (.ag [.fn tg [] [],.fn gp [] []])),.d (.b true)]) []):=by
 rw[au za rfl];simp[vO,ux]
theorem qF:ev P (.call qt [.d (I' 7)] [])=some (.val (.tu [.d (.lW 106 (.ag [.fn th [] [],.fn rq [] []])),.d (.b true)]) []):=by
 rw[au za rfl];simp[vO,ux]
theorem uR:ev P (.call qt [.d (I' 8)] [])=some (.val (.tu [.d (.lW 107 (.ag [.fn tj [] [],.fn nT [] []])),.d (.b true)]) []):=by
 rw[au za rfl];simp[vO,ux]
theorem uS:ev P (.call qt [.d (I' 9)] [])=some (.val (.tu [.d (.lW 108 (.ag [.fn tr [] [],.fn pP [] []])),.d (.b true)]) []):=by
 rw[au za rfl];simp[vO,ux]
theorem S5{k:Int}(h:¬(k=1\/k=2\/k=4\/k=5\/k=6\/k=7\/k=8\/k=9)):ev P (.call qt [.d (I' k)] [])=some (.val (.tu [.d .B3,.d (.b false)]) []):=by
 have b1:(k==1)=false:=by simp;omega
 have b2:(k==2)=false:=by simp;omega
 have b4:(k==4)=false:=by simp;omega
 have b5:(k==5)=false:=by simp;omega
 have b6:(k==6)=false:=by simp;omega
 have b7:(k==7)=false:=by simp;omega
 have b8:(k==8)=false:=by simp;omega
 have b9:(k==9)=false:=by simp;omega
 rw[au za rfl];simp[vO,b1,b2,b4,b5,b6,b7,b8,b9]
theorem CV:ev P (.call xI [.d (I' 1)] [])=some (.val (.mp 0) [.mp [(I' 50,.d (I' 0)),(I' 51,.d (I' 0)),(I' 52,.d (I' 0))]]):=by
 rw[au AU rfl];simp[xP,az,ak,cut,an]
theorem zm:ev P (.call xI [.d (I' 2)] [])=some (.val (.mp 0) [.mp [(I' 53,.d (I' 0)),(I' 54,.d (I' 0)),(I' 55,.d (I' 0)),(I' 56,.d (I' 0))]]):=by
 rw[au AU rfl];simp[xP,az,ak,cut,an]
theorem xU:ev P (.call xI [.d (I' 4)] [])=some (.val (.mp 0) [.mp [(I' 60,.d (I' 1)),(I' 61,.d (I' 1)),(I' 62,.d (I' 1))]]):=by
 rw[au AU rfl];simp[xP,az,ak,cut,an]
theorem S6:ev P (.call xI [.d (I' 5)] [])=some (.val (.mp 0) [.mp [(I' 63,.d (I' 0))]]):=by
 rw[au AU rfl];simp[xP,az,ak,cut,an]
theorem A1:ev P (.call xI [.d (I' 6)] [])=some (.val (.mp 0) [.mp [(I' 64,.d (I' 2)),(I' 65,.d (I' 0)),(I' 66,.d (I' 0))]]):=by
 rw[au AU rfl];simp[xP,az,ak,cut,an]
theorem xV:ev P (.call xI [.d (I' 7)] [])=some (.val (.mp 0) [.mp [(I' 68,.d (I' 2)),(I' 69,.d (I' 0)),(I' 70,.d (I' 0)),(I' 71,.d (I' 0))]]):=by
 rw[au AU rfl];simp[xP,az,ak,cut,an]
theorem E8:ev P (.call xI [.d (I' 8)] [])=some (.val (.mp 0) [.mp [(I' 72,.d (I' 1)),(I' 75,.d (I' 0))]]):=by
 rw[au AU rfl];simp[xP,az,ak,cut,an]
theorem E9:ev P (.call xI [.d (I' 9)] [])=some (.val (.mp 0) [.mp [(I' 73,.d (I' 2)),(I' 74,.d (I' 0))]]):=by
 rw[au AU rfl];simp[xP,az,ak,cut,an]
end Go.VS.Sp
namespace Go.VS.Sp
set_option maxHeartbeats 4000000 in
theorem ag4(nm:D)(sz ot:Int)(s:S)(c:Cl)(hw:s.wf)(hz:s.sz):
  Rel (ev P (.call sZ [.d (.ag [nm,I' 1,I' sz,I' ot]),.d (.ag s.row),.d (.ag c.row)] [])) (eD 1 sz ot s.pl c):=by
 unfold eD;rw[A0];rw[au y9 rfl];by_cases hq:s.Q=[]
 .have hA:=agG nm sz ot s hq hz.sm
  simp only[S.row,hq]at hA;cases ha:cW 1 sz ot s
  .rw[ha]at hA
   rw[aK rfl];exact Rel.fail 1 (by simp[dm,Cl.row,tK,hq,hA,cV,ep,bY])
  .rw[ha]at hA
   rw[aD (by decide)]
   cases hc:cG c
   .rw[aD (by decide)]
    have gK:=hc;have hE:=λhb hf=>agV nm sz ot s c hw hz ha gK hb hf
    unfold cG at hc;obtain⟨tk,op,va,pr,nw⟩:=c;simp only at hc;by_cases CW:op=50
    .subst CW
     have hb:dH 1 50=true:=by decide
     simp only[hb];rw[aD (by decide)]
     have hf:fit 1 sz ⟨tk,50,va,pr,nw⟩=true:=by simp[fit]
     rw[hf,aD (by decide)]
     obtain⟨s',h1,h2,h3⟩:=hE hb hf;generalize raw 1 sz ot s.pl ⟨tk,50,va,pr,nw⟩=r at *;simp only[S.row,Cl.row,hq]at h1;cases he:r.2.2.2==0
     .have cj:¬r.2.2.2=0:=by simpa using he
      have fP:(r.2.2.2 != 0)=true:=by simpa using cj
      rw[aD cj];exact Rel.fail _ (by simp[dm,Cl.row,tK,hq,hA,hc,CV,cV,h1,fP,ep,bY,aJ,ak,cut,an])
     .have cj:r.2.2.2=0:=by simpa using he
      rw[aK cj];refine⟨s',?_,h2,h3⟩;simp[dm,Cl.row,tK,hq,hA,hc,CV,cV,h1,cj,bY,aJ,ak,cut,an]
    by_cases zo:op=51
    .subst zo
     have hb:dH 1 51=true:=by decide
     simp only[hb];rw[aD (by decide)]
     have hf:fit 1 sz ⟨tk,51,va,pr,nw⟩=true:=by simp[fit]
     rw[hf,aD (by decide)]
     obtain⟨s',h1,h2,h3⟩:=hE hb hf;generalize raw 1 sz ot s.pl ⟨tk,51,va,pr,nw⟩=r at *;simp only[S.row,Cl.row,hq]at h1;cases he:r.2.2.2==0
     .have cj:¬r.2.2.2=0:=by simpa using he
      have fP:(r.2.2.2 != 0)=true:=by simpa using cj
      rw[aD cj];exact Rel.fail _ (by simp[dm,Cl.row,tK,hq,hA,hc,CV,cV,h1,fP,ep,bY,aJ,ak,cut,an])
     .have cj:r.2.2.2=0:=by simpa using he
      rw[aK cj];refine⟨s',?_,h2,h3⟩;simp[dm,Cl.row,tK,hq,hA,hc,CV,cV,h1,cj,bY,aJ,ak,cut,an]
    by_cases Nf:op=52
    .subst Nf
     have hb:dH 1 52=true:=by decide
     simp only[hb];rw[aD (by decide)]
     have hf:fit 1 sz ⟨tk,52,va,pr,nw⟩=true:=by simp[fit]
     rw[hf,aD (by decide)]
     obtain⟨s',h1,h2,h3⟩:=hE hb hf;generalize raw 1 sz ot s.pl ⟨tk,52,va,pr,nw⟩=r at *;simp only[S.row,Cl.row,hq]at h1;cases he:r.2.2.2==0
     .have cj:¬r.2.2.2=0:=by simpa using he
      have fP:(r.2.2.2 != 0)=true:=by simpa using cj
      rw[aD cj];exact Rel.fail _ (by simp[dm,Cl.row,tK,hq,hA,hc,CV,cV,h1,fP,ep,bY,aJ,ak,cut,an])
     .have cj:r.2.2.2=0:=by simpa using he
      rw[aK cj];refine⟨s',?_,h2,h3⟩;simp[dm,Cl.row,tK,hq,hA,hc,CV,cV,h1,cj,bY,aJ,ak,cut,an]
    have hb:dH 1 op=false:=by
     cases hh:dH 1 op
     .rfl
     .exfalso
      simp[dH]at hh;omega
    simp only[hb];rw[aK trivial];exact Rel.fail 8 (by simp[dm,Cl.row,tK,hq,hA,hc,CV,CW,zo,Nf,cV,ep,bY,aJ,ak,cut,an])
   .rw[aK rfl]
    unfold cG at hc;exact Rel.fail 2 (by simp[dm,Cl.row,tK,hq,hA,hc,cV,ep,bY])
 .have ha:cW 1 sz ot s=false:=by
   cases hh:cW 1 sz ot s
   .rfl
   .exact absurd (oN hh).2.1 hq
  rw[ha,aK rfl];have hp:0<s.Q.length:=rX.2 hq;exact Rel.fail 1 (by simp[dm,Cl.row,tK,hp,ep,bY])
end Go.VS.Sp
namespace Go.VS.Sp
set_option maxHeartbeats 4000000 in
theorem ag5(nm:D)(sz ot:Int)(s:S)(c:Cl)(hw:s.wf)(hz:s.sz):
  Rel (ev P (.call sZ [.d (.ag [nm,I' 2,I' sz,I' ot]),.d (.ag s.row),.d (.ag c.row)] [])) (eD 2 sz ot s.pl c):=by
 unfold eD;rw[A0];rw[au y9 rfl];by_cases hq:s.Q=[]
 .have hA:=agH nm sz ot s hq hz.sm
  simp only[S.row,hq]at hA;cases ha:cW 2 sz ot s
  .rw[ha]at hA
   rw[aK rfl];exact Rel.fail 1 (by simp[dm,Cl.row,rF,hq,hA,cV,ep,bY])
  .rw[ha]at hA
   rw[aD (by decide)]
   cases hc:cG c
   .rw[aD (by decide)]
    have gK:=hc;have hE:=λhb hf=>agW nm sz ot s c hw hz ha gK hb hf
    unfold cG at hc;obtain⟨tk,op,va,pr,nw⟩:=c;simp only at hc;by_cases CX:op=53
    .subst CX
     have hb:dH 2 53=true:=by decide
     simp only[hb];rw[aD (by decide)]
     have hf:fit 2 sz ⟨tk,53,va,pr,nw⟩=true:=by simp[fit]
     rw[hf,aD (by decide)]
     obtain⟨s',h1,h2,h3⟩:=hE hb hf;generalize raw 2 sz ot s.pl ⟨tk,53,va,pr,nw⟩=r at *;simp only[S.row,Cl.row,hq]at h1;cases he:r.2.2.2==0
     .have cj:¬r.2.2.2=0:=by simpa using he
      have fP:(r.2.2.2 != 0)=true:=by simpa using cj
      rw[aD cj];exact Rel.fail _ (by simp[dm,Cl.row,rF,hq,hA,hc,zm,cV,h1,fP,ep,bY,aJ,ak,cut,an])
     .have cj:r.2.2.2=0:=by simpa using he
      rw[aK cj];refine⟨s',?_,h2,h3⟩;simp[dm,Cl.row,rF,hq,hA,hc,zm,cV,h1,cj,bY,aJ,ak,cut,an]
    by_cases xW:op=54
    .subst xW
     have hb:dH 2 54=true:=by decide
     simp only[hb];rw[aD (by decide)]
     have hf:fit 2 sz ⟨tk,54,va,pr,nw⟩=true:=by simp[fit]
     rw[hf,aD (by decide)]
     obtain⟨s',h1,h2,h3⟩:=hE hb hf;generalize raw 2 sz ot s.pl ⟨tk,54,va,pr,nw⟩=r at *;simp only[S.row,Cl.row,hq]at h1;cases he:r.2.2.2==0
     .have cj:¬r.2.2.2=0:=by simpa using he
      have fP:(r.2.2.2 != 0)=true:=by simpa using cj
      rw[aD cj];exact Rel.fail _ (by simp[dm,Cl.row,rF,hq,hA,hc,zm,cV,h1,fP,ep,bY,aJ,ak,cut,an])
     .have cj:r.2.2.2=0:=by simpa using he
      rw[aK cj];refine⟨s',?_,h2,h3⟩;simp[dm,Cl.row,rF,hq,hA,hc,zm,cV,h1,cj,bY,aJ,ak,cut,an]
    by_cases lH:op=55
    .subst lH
     have hb:dH 2 55=true:=by decide
     simp only[hb];rw[aD (by decide)]
     have hf:fit 2 sz ⟨tk,55,va,pr,nw⟩=true:=by simp[fit]
     rw[hf,aD (by decide)]
     obtain⟨s',h1,h2,h3⟩:=hE hb hf;generalize raw 2 sz ot s.pl ⟨tk,55,va,pr,nw⟩=r at *;simp only[S.row,Cl.row,hq]at h1;cases he:r.2.2.2==0
     .have cj:¬r.2.2.2=0:=by simpa using he
      have fP:(r.2.2.2 != 0)=true:=by simpa using cj
      rw[aD cj];exact Rel.fail _ (by simp[dm,Cl.row,rF,hq,hA,hc,zm,cV,h1,fP,ep,bY,aJ,ak,cut,an])
     .have cj:r.2.2.2=0:=by simpa using he
      rw[aK cj];refine⟨s',?_,h2,h3⟩;simp[dm,Cl.row,rF,hq,hA,hc,zm,cV,h1,cj,bY,aJ,ak,cut,an]
    by_cases Ia:op=56
    .subst Ia
     have hb:dH 2 56=true:=by decide
     simp only[hb];rw[aD (by decide)]
     have hf:fit 2 sz ⟨tk,56,va,pr,nw⟩=true:=by simp[fit]
     rw[hf,aD (by decide)]
     obtain⟨s',h1,h2,h3⟩:=hE hb hf;generalize raw 2 sz ot s.pl ⟨tk,56,va,pr,nw⟩=r at *;simp only[S.row,Cl.row,hq]at h1;cases he:r.2.2.2==0
     .have cj:¬r.2.2.2=0:=by simpa using he
      have fP:(r.2.2.2 != 0)=true:=by simpa using cj
      rw[aD cj];exact Rel.fail _ (by simp[dm,Cl.row,rF,hq,hA,hc,zm,cV,h1,fP,ep,bY,aJ,ak,cut,an])
     .have cj:r.2.2.2=0:=by simpa using he
      rw[aK cj];refine⟨s',?_,h2,h3⟩;simp[dm,Cl.row,rF,hq,hA,hc,zm,cV,h1,cj,bY,aJ,ak,cut,an]
    have hb:dH 2 op=false:=by
     cases hh:dH 2 op
     .rfl
     .exfalso
      simp[dH]at hh;omega
    simp only[hb];rw[aK trivial];exact Rel.fail 8 (by simp[dm,Cl.row,rF,hq,hA,hc,zm,CX,xW,lH,Ia,cV,ep,bY,aJ,ak,cut,an])
   .rw[aK rfl]
    unfold cG at hc;exact Rel.fail 2 (by simp[dm,Cl.row,rF,hq,hA,hc,cV,ep,bY])
 .have ha:cW 2 sz ot s=false:=by
   cases hh:cW 2 sz ot s
   .rfl
   .exact absurd (oN hh).2.1 hq
  rw[ha,aK rfl];have hp:0<s.Q.length:=rX.2 hq;exact Rel.fail 1 (by simp[dm,Cl.row,rF,hp,ep,bY])
end Go.VS.Sp
namespace Go.VS.Sp
set_option maxHeartbeats 4000000 in
theorem ag6(nm:D)(sz ot:Int)(s:S)(c:Cl)(hw:s.wf)(hz:s.sz):
  Rel (ev P (.call sZ [.d (.ag [nm,I' 4,I' sz,I' ot]),.d (.ag s.row),.d (.ag c.row)] [])) (eD 4 sz ot s.pl c):=by
 unfold eD;rw[A0];rw[au y9 rfl];by_cases hq:s.Q=[]
 .have hA:=agI nm sz ot s hq hz.sm
  simp only[S.row,hq]at hA;cases ha:cW 4 sz ot s
  .rw[ha]at hA
   rw[aK rfl];exact Rel.fail 1 (by simp[dm,Cl.row,qE,hq,hA,cV,ep,bY])
  .rw[ha]at hA
   rw[aD (by decide)]
   cases hc:cG c
   .rw[aD (by decide)]
    have gK:=hc;have hE:=λhb hf=>agX nm sz ot s c hw hz ha gK hb hf
    unfold cG at hc;obtain⟨tk,op,va,pr,nw⟩:=c;simp only at hc;by_cases YJ:op=60
    .subst YJ
     have hb:dH 4 60=true:=by decide
     simp only[hb];rw[aD (by decide)]
     cases hv:(decide (va<1)||decide (sz<va))
     .have hf:fit 4 sz ⟨tk,60,va,pr,nw⟩=true:=by
       simp at hv;simp[fit,num];omega
      rw[hf,aD (by decide)]
      obtain⟨s',h1,h2,h3⟩:=hE hb hf;generalize raw 4 sz ot s.pl ⟨tk,60,va,pr,nw⟩=r at *;simp only[S.row,Cl.row,hq]at h1;cases he:r.2.2.2==0
      .have cj:¬r.2.2.2=0:=by simpa using he
       have fP:(r.2.2.2 != 0)=true:=by simpa using cj
       rw[aD cj];exact Rel.fail _ (by simp[dm,Cl.row,qE,hq,hA,hc,hv,xU,cV,h1,fP,ep,bY,aJ,ak,cut,an])
      .have cj:r.2.2.2=0:=by simpa using he
       rw[aK cj];refine⟨s',?_,h2,h3⟩;simp[dm,Cl.row,qE,hq,hA,hc,hv,xU,cV,h1,cj,bY,aJ,ak,cut,an]
     .have hf:fit 4 sz ⟨tk,60,va,pr,nw⟩=false:=by
       cases hh:fit 4 sz ⟨tk,60,va,pr,nw⟩
       .rfl
       .exfalso
        simp at hv;simp[fit,num]at hh;omega
      rw[hf,aK rfl];exact Rel.fail 2 (by simp[dm,Cl.row,qE,hq,hA,hc,hv,xU,cV,ep,bY,aJ,ak,cut,an])
    by_cases Fa:op=61
    .subst Fa
     have hb:dH 4 61=true:=by decide
     simp only[hb];rw[aD (by decide)]
     cases hv:(decide (va<1)||decide (sz<va))
     .have hf:fit 4 sz ⟨tk,61,va,pr,nw⟩=true:=by
       simp at hv;simp[fit,num];omega
      rw[hf,aD (by decide)]
      obtain⟨s',h1,h2,h3⟩:=hE hb hf;generalize raw 4 sz ot s.pl ⟨tk,61,va,pr,nw⟩=r at *;simp only[S.row,Cl.row,hq]at h1;cases he:r.2.2.2==0
      .have cj:¬r.2.2.2=0:=by simpa using he
       have fP:(r.2.2.2 != 0)=true:=by simpa using cj
       rw[aD cj];exact Rel.fail _ (by simp[dm,Cl.row,qE,hq,hA,hc,hv,xU,cV,h1,fP,ep,bY,aJ,ak,cut,an])
      .have cj:r.2.2.2=0:=by simpa using he
       rw[aK cj];refine⟨s',?_,h2,h3⟩;simp[dm,Cl.row,qE,hq,hA,hc,hv,xU,cV,h1,cj,bY,aJ,ak,cut,an]
     .have hf:fit 4 sz ⟨tk,61,va,pr,nw⟩=false:=by
       cases hh:fit 4 sz ⟨tk,61,va,pr,nw⟩
       .rfl
       .exfalso
        simp at hv;simp[fit,num]at hh;omega
      rw[hf,aK rfl];exact Rel.fail 2 (by simp[dm,Cl.row,qE,hq,hA,hc,hv,xU,cV,ep,bY,aJ,ak,cut,an])
    by_cases YK:op=62
    .subst YK
     have hb:dH 4 62=true:=by decide
     simp only[hb];rw[aD (by decide)]
     cases hv:(decide (va<1)||decide (sz<va))
     .have hf:fit 4 sz ⟨tk,62,va,pr,nw⟩=true:=by
       simp at hv;simp[fit,num];omega
      rw[hf,aD (by decide)]
      obtain⟨s',h1,h2,h3⟩:=hE hb hf;generalize raw 4 sz ot s.pl ⟨tk,62,va,pr,nw⟩=r at *;simp only[S.row,Cl.row,hq]at h1;cases he:r.2.2.2==0
      .have cj:¬r.2.2.2=0:=by simpa using he
       have fP:(r.2.2.2 != 0)=true:=by simpa using cj
       rw[aD cj];exact Rel.fail _ (by simp[dm,Cl.row,qE,hq,hA,hc,hv,xU,cV,h1,fP,ep,bY,aJ,ak,cut,an])
      .have cj:r.2.2.2=0:=by simpa using he
       rw[aK cj];refine⟨s',?_,h2,h3⟩;simp[dm,Cl.row,qE,hq,hA,hc,hv,xU,cV,h1,cj,bY,aJ,ak,cut,an]
     .have hf:fit 4 sz ⟨tk,62,va,pr,nw⟩=false:=by
       cases hh:fit 4 sz ⟨tk,62,va,pr,nw⟩
       .rfl
       .exfalso
        simp at hv;simp[fit,num]at hh;omega
      rw[hf,aK rfl];exact Rel.fail 2 (by simp[dm,Cl.row,qE,hq,hA,hc,hv,xU,cV,ep,bY,aJ,ak,cut,an])
    have hb:dH 4 op=false:=by
     cases hh:dH 4 op
     .rfl
     .exfalso
      simp[dH]at hh;omega
    simp only[hb];rw[aK trivial];exact Rel.fail 8 (by simp[dm,Cl.row,qE,hq,hA,hc,xU,YJ,Fa,YK,cV,ep,bY,aJ,ak,cut,an])
   .rw[aK rfl]
    unfold cG at hc;exact Rel.fail 2 (by simp[dm,Cl.row,qE,hq,hA,hc,cV,ep,bY])
 .have ha:cW 4 sz ot s=false:=by
   cases hh:cW 4 sz ot s
   .rfl
   .exact absurd (oN hh).2.1 hq
  rw[ha,aK rfl];have hp:0<s.Q.length:=rX.2 hq;exact Rel.fail 1 (by simp[dm,Cl.row,qE,hp,ep,bY])
end Go.VS.Sp
namespace Go.VS.Sp
set_option maxHeartbeats 4000000 in
theorem ag7(nm:D)(sz ot:Int)(s:S)(c:Cl)(hw:s.wf)(hz:s.sz):
  Rel (ev P (.call sZ [.d (.ag [nm,I' 5,I' sz,I' ot]),.d (.ag s.row),.d (.ag c.row)] [])) (eD 5 sz ot s.pl c):=by
 unfold eD;rw[A0];rw[au y9 rfl];by_cases hq:s.Q=[]
 .have hA:=agL nm sz ot s hq hz.sm
  simp only[S.row,hq]at hA;cases ha:cW 5 sz ot s
  .rw[ha]at hA
   rw[aK rfl];exact Rel.fail 1 (by simp[dm,Cl.row,zl,hq,hA,cV,ep,bY])
  .rw[ha]at hA
   rw[aD (by decide)]
   cases hc:cG c
   .rw[aD (by decide)]
    have gK:=hc;have hE:=λhb hf=>agY nm sz ot s c hw hz ha gK hb hf
    unfold cG at hc;obtain⟨tk,op,va,pr,nw⟩:=c;simp only at hc;by_cases h63:op=63
    .subst h63
     have hb:dH 5 63=true:=by decide
     simp only[hb];rw[aD (by decide)]
     have hf:fit 5 sz ⟨tk,63,va,pr,nw⟩=true:=by simp[fit]
     rw[hf,aD (by decide)]
     obtain⟨s',h1,h2,h3⟩:=hE hb hf;generalize raw 5 sz ot s.pl ⟨tk,63,va,pr,nw⟩=r at *;simp only[S.row,Cl.row,hq]at h1;cases he:r.2.2.2==0
     .have cj:¬r.2.2.2=0:=by simpa using he
      have fP:(r.2.2.2 != 0)=true:=by simpa using cj
      rw[aD cj];exact Rel.fail _ (by simp[dm,Cl.row,zl,hq,hA,hc,S6,cV,h1,fP,ep,bY,aJ,ak,cut,an])
     .have cj:r.2.2.2=0:=by simpa using he
      rw[aK cj];refine⟨s',?_,h2,h3⟩;simp[dm,Cl.row,zl,hq,hA,hc,S6,cV,h1,cj,bY,aJ,ak,cut,an]
    have hb:dH 5 op=false:=by
     cases hh:dH 5 op
     .rfl
     .exfalso
      simp[dH]at hh;omega
    simp only[hb];rw[aK trivial];exact Rel.fail 8 (by simp[dm,Cl.row,zl,hq,hA,hc,S6,h63,cV,ep,bY,aJ,ak,cut,an])
   .rw[aK rfl]
    unfold cG at hc;exact Rel.fail 2 (by simp[dm,Cl.row,zl,hq,hA,hc,cV,ep,bY])
 .have ha:cW 5 sz ot s=false:=by
   cases hh:cW 5 sz ot s
   .rfl
   .exact absurd (oN hh).2.1 hq
  rw[ha,aK rfl];have hp:0<s.Q.length:=rX.2 hq;exact Rel.fail 1 (by simp[dm,Cl.row,zl,hp,ep,bY])
end Go.VS.Sp
namespace Go.VS.Sp
set_option maxHeartbeats 4000000 in
theorem ag8(nm:D)(sz ot:Int)(s:S)(c:Cl)(hw:s.wf)(hz:s.sz):
  Rel (ev P (.call sZ [.d (.ag [nm,I' 6,I' sz,I' ot]),.d (.ag s.row),.d (.ag c.row)] [])) (eD 6 sz ot s.pl c):=by
 unfold eD;rw[A0];rw[au y9 rfl];by_cases hq:s.Q=[]
 .have hA:=agM nm sz ot s hq hz.sm
  simp only[S.row,hq]at hA;cases ha:cW 6 sz ot s
  .rw[ha]at hA
   rw[aK rfl];exact Rel.fail 1 (by simp[dm,Cl.row,sF,hq,hA,cV,ep,bY])
  .rw[ha]at hA
   rw[aD (by decide)]
   cases hc:cG c
   .rw[aD (by decide)]
    have gK:=hc;have hE:=λhb hf=>agZ nm sz ot s c hw hz ha gK hb hf
    unfold cG at hc;obtain⟨tk,op,va,pr,nw⟩:=c;simp only at hc;by_cases uT:op=64
    .subst uT
     have hb:dH 6 64=true:=by decide
     simp only[hb];rw[aD (by decide)]
     cases hv:(decide (va < -1099511627776)||decide (1099511627776<va))
     .have hf:fit 6 sz ⟨tk,64,va,pr,nw⟩=true:=by
       simp at hv;simp[fit,num];omega
      rw[hf,aD (by decide)]
      obtain⟨s',h1,h2,h3⟩:=hE hb hf;generalize raw 6 sz ot s.pl ⟨tk,64,va,pr,nw⟩=r at *;simp only[S.row,Cl.row,hq]at h1;cases he:r.2.2.2==0
      .have cj:¬r.2.2.2=0:=by simpa using he
       have fP:(r.2.2.2 != 0)=true:=by simpa using cj
       rw[aD cj];exact Rel.fail _ (by simp[dm,Cl.row,sF,hq,hA,hc,hv,A1,cV,h1,fP,ep,bY,aJ,ak,cut,an])
      .have cj:r.2.2.2=0:=by simpa using he
       rw[aK cj];refine⟨s',?_,h2,h3⟩;simp[dm,Cl.row,sF,hq,hA,hc,hv,A1,cV,h1,cj,bY,aJ,ak,cut,an]
     .have hf:fit 6 sz ⟨tk,64,va,pr,nw⟩=false:=by
       cases hh:fit 6 sz ⟨tk,64,va,pr,nw⟩
       .rfl
       .exfalso
        simp at hv;simp[fit,num]at hh;omega
      rw[hf,aK rfl];exact Rel.fail 2 (by simp[dm,Cl.row,sF,hq,hA,hc,hv,A1,cV,ep,bY,aJ,ak,cut,an])
    by_cases sG:op=65
    .subst sG
     have hb:dH 6 65=true:=by decide
     simp only[hb];rw[aD (by decide)]
     have hf:fit 6 sz ⟨tk,65,va,pr,nw⟩=true:=by simp[fit]
     rw[hf,aD (by decide)]
     obtain⟨s',h1,h2,h3⟩:=hE hb hf;generalize raw 6 sz ot s.pl ⟨tk,65,va,pr,nw⟩=r at *;simp only[S.row,Cl.row,hq]at h1;cases he:r.2.2.2==0
     .have cj:¬r.2.2.2=0:=by simpa using he
      have fP:(r.2.2.2 != 0)=true:=by simpa using cj
      rw[aD cj];exact Rel.fail _ (by simp[dm,Cl.row,sF,hq,hA,hc,A1,cV,h1,fP,ep,bY,aJ,ak,cut,an])
     .have cj:r.2.2.2=0:=by simpa using he
      rw[aK cj];refine⟨s',?_,h2,h3⟩;simp[dm,Cl.row,sF,hq,hA,hc,A1,cV,h1,cj,bY,aJ,ak,cut,an]
    by_cases YL:op=66
    .subst YL
     have hb:dH 6 66=true:=by decide
     simp only[hb];rw[aD (by decide)]
     have hf:fit 6 sz ⟨tk,66,va,pr,nw⟩=true:=by simp[fit]
     rw[hf,aD (by decide)]
     obtain⟨s',h1,h2,h3⟩:=hE hb hf;generalize raw 6 sz ot s.pl ⟨tk,66,va,pr,nw⟩=r at *;simp only[S.row,Cl.row,hq]at h1;cases he:r.2.2.2==0
     .have cj:¬r.2.2.2=0:=by simpa using he
      have fP:(r.2.2.2 != 0)=true:=by simpa using cj
      rw[aD cj];exact Rel.fail _ (by simp[dm,Cl.row,sF,hq,hA,hc,A1,cV,h1,fP,ep,bY,aJ,ak,cut,an])
     .have cj:r.2.2.2=0:=by simpa using he
      rw[aK cj];refine⟨s',?_,h2,h3⟩;simp[dm,Cl.row,sF,hq,hA,hc,A1,cV,h1,cj,bY,aJ,ak,cut,an]
    have hb:dH 6 op=false:=by
     cases hh:dH 6 op
     .rfl
     .exfalso
      simp[dH]at hh;omega
    simp only[hb];rw[aK trivial];exact Rel.fail 8 (by simp[dm,Cl.row,sF,hq,hA,hc,A1,uT,sG,YL,cV,ep,bY,aJ,ak,cut,an])
   .rw[aK rfl]
    unfold cG at hc;exact Rel.fail 2 (by simp[dm,Cl.row,sF,hq,hA,hc,cV,ep,bY])
 .have ha:cW 6 sz ot s=false:=by
   cases hh:cW 6 sz ot s
   .rfl
   .exact absurd (oN hh).2.1 hq
  rw[ha,aK rfl];have hp:0<s.Q.length:=rX.2 hq;exact Rel.fail 1 (by simp[dm,Cl.row,sF,hp,ep,bY])
end Go.VS.Sp
namespace Go.VS.Sp
set_option maxHeartbeats 4000000 in
theorem ag9(nm:D)(sz ot:Int)(s:S)(c:Cl)(hw:s.wf)(hz:s.sz):
  Rel (ev P (.call sZ [.d (.ag [nm,I' 7,I' sz,I' ot]),.d (.ag s.row),.d (.ag c.row)] [])) (eD 7 sz ot s.pl c):=by
 unfold eD;rw[A0];rw[au y9 rfl];by_cases hq:s.Q=[]
 .have hA:=agN nm sz ot s hq hz.sm
  simp only[S.row,hq]at hA;cases ha:cW 7 sz ot s
  .rw[ha]at hA
   rw[aK rfl];exact Rel.fail 1 (by simp[dm,Cl.row,qF,hq,hA,cV,ep,bY])
  .rw[ha]at hA
   rw[aD (by decide)]
   cases hc:cG c
   .rw[aD (by decide)]
    have gK:=hc;have hE:=λhb hf=>ag0 nm sz ot s c hw hz ha gK hb hf
    unfold cG at hc;obtain⟨tk,op,va,pr,nw⟩:=c;simp only at hc;by_cases eZ:op=68
    .subst eZ
     have hb:dH 7 68=true:=by decide
     simp only[hb];rw[aD (by decide)]
     cases hv:(decide (va < -1099511627776)||decide (1099511627776<va))
     .have hf:fit 7 sz ⟨tk,68,va,pr,nw⟩=true:=by
       simp at hv;simp[fit,num];omega
      rw[hf,aD (by decide)]
      obtain⟨s',h1,h2,h3⟩:=hE hb hf;generalize raw 7 sz ot s.pl ⟨tk,68,va,pr,nw⟩=r at *;simp only[S.row,Cl.row,hq]at h1;cases he:r.2.2.2==0
      .have cj:¬r.2.2.2=0:=by simpa using he
       have fP:(r.2.2.2 != 0)=true:=by simpa using cj
       rw[aD cj];exact Rel.fail _ (by simp[dm,Cl.row,qF,hq,hA,hc,hv,xV,cV,h1,fP,ep,bY,aJ,ak,cut,an])
      .have cj:r.2.2.2=0:=by simpa using he
       rw[aK cj];refine⟨s',?_,h2,h3⟩;simp[dm,Cl.row,qF,hq,hA,hc,hv,xV,cV,h1,cj,bY,aJ,ak,cut,an]
     .have hf:fit 7 sz ⟨tk,68,va,pr,nw⟩=false:=by
       cases hh:fit 7 sz ⟨tk,68,va,pr,nw⟩
       .rfl
       .exfalso
        simp at hv;simp[fit,num]at hh;omega
      rw[hf,aK rfl];exact Rel.fail 2 (by simp[dm,Cl.row,qF,hq,hA,hc,hv,xV,cV,ep,bY,aJ,ak,cut,an])
    by_cases kJ:op=69
    .subst kJ
     have hb:dH 7 69=true:=by decide
     simp only[hb];rw[aD (by decide)]
     have hf:fit 7 sz ⟨tk,69,va,pr,nw⟩=true:=by simp[fit]
     rw[hf,aD (by decide)]
     obtain⟨s',h1,h2,h3⟩:=hE hb hf;generalize raw 7 sz ot s.pl ⟨tk,69,va,pr,nw⟩=r at *;simp only[S.row,Cl.row,hq]at h1;cases he:r.2.2.2==0
     .have cj:¬r.2.2.2=0:=by simpa using he
      have fP:(r.2.2.2 != 0)=true:=by simpa using cj
      rw[aD cj];exact Rel.fail _ (by simp[dm,Cl.row,qF,hq,hA,hc,xV,cV,h1,fP,ep,bY,aJ,ak,cut,an])
     .have cj:r.2.2.2=0:=by simpa using he
      rw[aK cj];refine⟨s',?_,h2,h3⟩;simp[dm,Cl.row,qF,hq,hA,hc,xV,cV,h1,cj,bY,aJ,ak,cut,an]
    by_cases fG:op=70
    .subst fG
     have hb:dH 7 70=true:=by decide
     simp only[hb];rw[aD (by decide)]
     have hf:fit 7 sz ⟨tk,70,va,pr,nw⟩=true:=by simp[fit]
     rw[hf,aD (by decide)]
     obtain⟨s',h1,h2,h3⟩:=hE hb hf;generalize raw 7 sz ot s.pl ⟨tk,70,va,pr,nw⟩=r at *;simp only[S.row,Cl.row,hq]at h1;cases he:r.2.2.2==0
     .have cj:¬r.2.2.2=0:=by simpa using he
      have fP:(r.2.2.2 != 0)=true:=by simpa using cj
      rw[aD cj];exact Rel.fail _ (by simp[dm,Cl.row,qF,hq,hA,hc,xV,cV,h1,fP,ep,bY,aJ,ak,cut,an])
     .have cj:r.2.2.2=0:=by simpa using he
      rw[aK cj];refine⟨s',?_,h2,h3⟩;simp[dm,Cl.row,qF,hq,hA,hc,xV,cV,h1,cj,bY,aJ,ak,cut,an]
    by_cases l6:op=71
    .subst l6
     have hb:dH 7 71=true:=by decide
     simp only[hb];rw[aD (by decide)]
     have hf:fit 7 sz ⟨tk,71,va,pr,nw⟩=true:=by simp[fit]
     rw[hf,aD (by decide)]
     obtain⟨s',h1,h2,h3⟩:=hE hb hf;generalize raw 7 sz ot s.pl ⟨tk,71,va,pr,nw⟩=r at *;simp only[S.row,Cl.row,hq]at h1;cases he:r.2.2.2==0
     .have cj:¬r.2.2.2=0:=by simpa using he
      have fP:(r.2.2.2 != 0)=true:=by simpa using cj
      rw[aD cj];exact Rel.fail _ (by simp[dm,Cl.row,qF,hq,hA,hc,xV,cV,h1,fP,ep,bY,aJ,ak,cut,an])
     .have cj:r.2.2.2=0:=by simpa using he
      rw[aK cj];refine⟨s',?_,h2,h3⟩;simp[dm,Cl.row,qF,hq,hA,hc,xV,cV,h1,cj,bY,aJ,ak,cut,an]
    have hb:dH 7 op=false:=by
     cases hh:dH 7 op
     .rfl
     .exfalso
      simp[dH]at hh;omega
    simp only[hb];rw[aK trivial];exact Rel.fail 8 (by simp[dm,Cl.row,qF,hq,hA,hc,xV,eZ,kJ,fG,l6,cV,ep,bY,aJ,ak,cut,an])
   .rw[aK rfl]
    unfold cG at hc;exact Rel.fail 2 (by simp[dm,Cl.row,qF,hq,hA,hc,cV,ep,bY])
 .have ha:cW 7 sz ot s=false:=by
   cases hh:cW 7 sz ot s
   .rfl
   .exact absurd (oN hh).2.1 hq
  rw[ha,aK rfl];have hp:0<s.Q.length:=rX.2 hq;exact Rel.fail 1 (by simp[dm,Cl.row,qF,hp,ep,bY])
end Go.VS.Sp
namespace Go.VS.Sp
set_option maxHeartbeats 4000000 in
theorem aha(nm:D)(sz ot:Int)(s:S)(c:Cl)(hw:s.wf)(hz:s.sz):
  Rel (ev P (.call sZ [.d (.ag [nm,I' 8,I' sz,I' ot]),.d (.ag s.row),.d (.ag c.row)] [])) (eD 8 sz ot s.pl c):=by
 unfold eD;rw[A0];rw[au y9 rfl];by_cases hq:s.Q=[]
 .have hA:=agJ nm sz ot s hq hz.sm
  simp only[S.row,hq]at hA;cases ha:cW 8 sz ot s
  .rw[ha]at hA
   rw[aK rfl];exact Rel.fail 1 (by simp[dm,Cl.row,uR,hq,hA,cV,ep,bY])
  .rw[ha]at hA
   rw[aD (by decide)]
   cases hc:cG c
   .rw[aD (by decide)]
    have gK:=hc;have hE:=λhb hf=>ag1 nm sz ot s c hw hz ha gK hb hf
    unfold cG at hc;obtain⟨tk,op,va,pr,nw⟩:=c;simp only at hc;by_cases YM:op=72
    .subst YM
     have hb:dH 8 72=true:=by decide
     simp only[hb];rw[aD (by decide)]
     cases hv:(decide (va<1)||decide (sz<va))
     .have hf:fit 8 sz ⟨tk,72,va,pr,nw⟩=true:=by
       simp at hv;simp[fit,num];omega
      rw[hf,aD (by decide)]
      obtain⟨s',h1,h2,h3⟩:=hE hb hf;generalize raw 8 sz ot s.pl ⟨tk,72,va,pr,nw⟩=r at *;simp only[S.row,Cl.row,hq]at h1;cases he:r.2.2.2==0
      .have cj:¬r.2.2.2=0:=by simpa using he
       have fP:(r.2.2.2 != 0)=true:=by simpa using cj
       rw[aD cj];exact Rel.fail _ (by simp[dm,Cl.row,uR,hq,hA,hc,hv,E8,cV,h1,fP,ep,bY,aJ,ak,cut,an])
      .have cj:r.2.2.2=0:=by simpa using he
       rw[aK cj];refine⟨s',?_,h2,h3⟩;simp[dm,Cl.row,uR,hq,hA,hc,hv,E8,cV,h1,cj,bY,aJ,ak,cut,an]
     .have hf:fit 8 sz ⟨tk,72,va,pr,nw⟩=false:=by
       cases hh:fit 8 sz ⟨tk,72,va,pr,nw⟩
       .rfl
       .exfalso
        simp at hv;simp[fit,num]at hh;omega
      rw[hf,aK rfl];exact Rel.fail 2 (by simp[dm,Cl.row,uR,hq,hA,hc,hv,E8,cV,ep,bY,aJ,ak,cut,an])
    by_cases zp:op=75
    .subst zp
     have hb:dH 8 75=true:=by decide
     simp only[hb];rw[aD (by decide)]
     have hf:fit 8 sz ⟨tk,75,va,pr,nw⟩=true:=by simp[fit]
     rw[hf,aD (by decide)]
     obtain⟨s',h1,h2,h3⟩:=hE hb hf;generalize raw 8 sz ot s.pl ⟨tk,75,va,pr,nw⟩=r at *;simp only[S.row,Cl.row,hq]at h1;cases he:r.2.2.2==0
     .have cj:¬r.2.2.2=0:=by simpa using he
      have fP:(r.2.2.2 != 0)=true:=by simpa using cj
      rw[aD cj];exact Rel.fail _ (by simp[dm,Cl.row,uR,hq,hA,hc,E8,cV,h1,fP,ep,bY,aJ,ak,cut,an])
     .have cj:r.2.2.2=0:=by simpa using he
      rw[aK cj];refine⟨s',?_,h2,h3⟩;simp[dm,Cl.row,uR,hq,hA,hc,E8,cV,h1,cj,bY,aJ,ak,cut,an]
    have hb:dH 8 op=false:=by
     cases hh:dH 8 op
     .rfl
     .exfalso
      simp[dH]at hh;omega
    simp only[hb];rw[aK trivial];exact Rel.fail 8 (by simp[dm,Cl.row,uR,hq,hA,hc,E8,YM,zp,cV,ep,bY,aJ,ak,cut,an])
   .rw[aK rfl]
    unfold cG at hc;exact Rel.fail 2 (by simp[dm,Cl.row,uR,hq,hA,hc,cV,ep,bY])
 .have ha:cW 8 sz ot s=false:=by
   cases hh:cW 8 sz ot s
   .rfl
   .exact absurd (oN hh).2.1 hq
  rw[ha,aK rfl];have hp:0<s.Q.length:=rX.2 hq;exact Rel.fail 1 (by simp[dm,Cl.row,uR,hp,ep,bY])
end Go.VS.Sp
namespace Go.VS.Sp
set_option maxHeartbeats 4000000 in
theorem ahb(nm:D)(sz ot:Int)(s:S)(c:Cl)(hw:s.wf)(hz:s.sz):
  Rel (ev P (.call sZ [.d (.ag [nm,I' 9,I' sz,I' ot]),.d (.ag s.row),.d (.ag c.row)] [])) (eD 9 sz ot s.pl c):=by
 unfold eD;rw[A0];rw[au y9 rfl];by_cases hq:s.Q=[]
 .have hA:=agK nm sz ot s hq hz.sm
  simp only[S.row,hq]at hA;cases ha:cW 9 sz ot s
  .rw[ha]at hA
   rw[aK rfl];exact Rel.fail 1 (by simp[dm,Cl.row,uS,hq,hA,cV,ep,bY])
  .rw[ha]at hA
   rw[aD (by decide)]
   cases hc:cG c
   .rw[aD (by decide)]
    have gK:=hc;have hE:=λhb hf=>ag2 nm sz ot s c hw hz ha gK hb hf
    unfold cG at hc;obtain⟨tk,op,va,pr,nw⟩:=c;simp only at hc;by_cases YN:op=73
    .subst YN
     have hb:dH 9 73=true:=by decide
     simp only[hb];rw[aD (by decide)]
     cases hv:(decide (va < -1099511627776)||decide (1099511627776<va))
     .have hf:fit 9 sz ⟨tk,73,va,pr,nw⟩=true:=by
       simp at hv;simp[fit,num];omega
      rw[hf,aD (by decide)]
      obtain⟨s',h1,h2,h3⟩:=hE hb hf;generalize raw 9 sz ot s.pl ⟨tk,73,va,pr,nw⟩=r at *;simp only[S.row,Cl.row,hq]at h1;cases he:r.2.2.2==0
      .have cj:¬r.2.2.2=0:=by simpa using he
       have fP:(r.2.2.2 != 0)=true:=by simpa using cj
       rw[aD cj];exact Rel.fail _ (by simp[dm,Cl.row,uS,hq,hA,hc,hv,E9,cV,h1,fP,ep,bY,aJ,ak,cut,an])
      .have cj:r.2.2.2=0:=by simpa using he
       rw[aK cj];refine⟨s',?_,h2,h3⟩;simp[dm,Cl.row,uS,hq,hA,hc,hv,E9,cV,h1,cj,bY,aJ,ak,cut,an]
     .have hf:fit 9 sz ⟨tk,73,va,pr,nw⟩=false:=by
       cases hh:fit 9 sz ⟨tk,73,va,pr,nw⟩
       .rfl
       .exfalso
        simp at hv;simp[fit,num]at hh;omega
      rw[hf,aK rfl];exact Rel.fail 2 (by simp[dm,Cl.row,uS,hq,hA,hc,hv,E9,cV,ep,bY,aJ,ak,cut,an])
    by_cases YO:op=74
    .subst YO
     have hb:dH 9 74=true:=by decide
     simp only[hb];rw[aD (by decide)]
     have hf:fit 9 sz ⟨tk,74,va,pr,nw⟩=true:=by simp[fit]
     rw[hf,aD (by decide)]
     obtain⟨s',h1,h2,h3⟩:=hE hb hf;generalize raw 9 sz ot s.pl ⟨tk,74,va,pr,nw⟩=r at *;simp only[S.row,Cl.row,hq]at h1;cases he:r.2.2.2==0
     .have cj:¬r.2.2.2=0:=by simpa using he
      have fP:(r.2.2.2 != 0)=true:=by simpa using cj
      rw[aD cj];exact Rel.fail _ (by simp[dm,Cl.row,uS,hq,hA,hc,E9,cV,h1,fP,ep,bY,aJ,ak,cut,an])
     .have cj:r.2.2.2=0:=by simpa using he
      rw[aK cj];refine⟨s',?_,h2,h3⟩;simp[dm,Cl.row,uS,hq,hA,hc,E9,cV,h1,cj,bY,aJ,ak,cut,an]
    have hb:dH 9 op=false:=by
     cases hh:dH 9 op
     .rfl
     .exfalso
      simp[dH]at hh;omega
    simp only[hb];rw[aK trivial];exact Rel.fail 8 (by simp[dm,Cl.row,uS,hq,hA,hc,E9,YN,YO,cV,ep,bY,aJ,ak,cut,an])
   .rw[aK rfl]
    unfold cG at hc;exact Rel.fail 2 (by simp[dm,Cl.row,uS,hq,hA,hc,cV,ep,bY])
 .have ha:cW 9 sz ot s=false:=by
   cases hh:cW 9 sz ot s
   .rfl
   .exact absurd (oN hh).2.1 hq
  rw[ha,aK rfl];have hp:0<s.Q.length:=rX.2 hq;exact Rel.fail 1 (by simp[dm,Cl.row,uS,hp,ep,bY])
end Go.VS.Sp
namespace Go.VS.Sp
theorem ahc{s:S}{c:Cl}(h:pU s=true)(ht:cY c.task=true):pU (eM s c).1=true:=by
 have hm:∀x,(x = -1\/cY x=true)->pU {s with own:=x}=true:=by
  intro x hx;unfold pU at h⊢;simp only at h⊢;rw[bJ]at h⊢;refine⟨?_,h.2⟩;rcases hx with h1 |h1<;>simp[h1]
 unfold eM;repeat' split
 all_goals first |exact h |exact hm _ (.inl rfl) |exact hm _ (.inr ht)
def YP(s:S):Prop:=s.cnt=0/\s.time=0/\s.B=[]/\s.C=[]/\s.cl=false/\s.val=0
theorem Ib{s:S}:okW s=true↔gF s.H/\(∀x∈s.H,cY x=true)/\(s.own = -1\/(cY s.own=true/\s.H=[]))/\YP s:=by
 unfold okW YP;rw[bJ,M6];have e:(!CO s)=true↔(s.own = -1\/(cY s.own=true/\s.H=[]))/\s.cnt=0/\s.time=0/\s.B=[]/\s.C=[]/\s.cl=false/\s.val=0:=by
  unfold CO;rw[M4,M4,M4];simp
  grind
 rw[e];simp
 grind
theorem ahd{s:S}{c:Cl}(h:okW s=true)(ht:cY c.task=true)(he:(eW s c).2.2.2=0):okW (eW s c).1=true:=by
 obtain⟨h1,h2,h3,h4⟩:=Ib.1 h;unfold eW at he⊢;by_cases a1:(c.op==54)=true
 .rw[aK a1]at he⊢
  by_cases a2:decide (c.task∈s.H)=true
  .rw[aK a2]at he⊢
   have a3:c.task∈s.H:=by simpa using a2
   refine Ib.2 ⟨Wx BW h1,λx hx=>h2 x (pg.1 hx).1,?_,h4⟩
   rcases h3 with h |h
   .exact .inl h
   .rw[h.2]at a3;simp at a3
  .rw[aD a2]at he;simp[er]at he
 .rw[aD a1]at he⊢
  by_cases b1:(c.op==56)=true
  .rw[aK b1]at he⊢
   by_cases b2:(s.own==c.task)=true
   .rw[aK b2]
    exact Ib.2 ⟨h1,h2,.inl rfl,h4⟩
   .rw[aD b2]at he;simp[er]at he
  .rw[aD b1]at he⊢
   by_cases b3:(decide (c.task∈s.H)||s.own==c.task)=true
   .rw[aK b3]at he;simp[er]at he
   .rw[aD b3]at he⊢
    by_cases b4:(!(s.own == -1)||(c.op==55&&decide (0<s.H.length)))=true
    .rw[aK b4]at he;simp[er]at he
    .rw[aD b4]at he⊢
     have c1:s.own = -1:=by
      simp at b4;exact b4.1
     have c2:c.task∉s.H:=by
      simp at b3;exact b3.1
     by_cases b5:(c.op==55)=true
     .rw[aK b5]
      have c3:s.H=[]:=by
       rw[b5]at b4;simp at b4;exact b4.2
      exact Ib.2 ⟨h1,h2,.inr ⟨ht,c3⟩,h4⟩
     .rw[aD b5]
      refine Ib.2 ⟨SZ h1 c2,?_,.inl c1,h4⟩;intro x hx;rcases Yr.1 hx with e |e
      .rw[e];exact ht
      .exact h2 x e
theorem ahe{sz:Int}{s:S}{c:Cl}(h:qz sz s=true)(hc:1<=c.value/\c.value<=sz):qz sz (eS sz s c).1=true:=by
 have hb:=YD h;have hm:∀x,0<=x->x<=sz->qz sz {s with cnt:=x}=true:=by
  intro x h1 h2;unfold qz at h⊢;simp only at h⊢;rw[bJ]at h⊢;refine⟨?_,h.2⟩;have:=h.1;simp at this⊢;omega
 unfold eS;by_cases a1:(c.op==62)=true
 .rw[aK a1]
  by_cases a2:decide (sz<s.cnt+c.value)=true
  .rw[aK a2];exact h
  .rw[aD a2]
   simp at a2;exact hm _ (by omega) (by omega)
 .rw[aD a1]
  by_cases a2:decide (c.value<=s.cnt)=true
  .rw[aK a2]
   simp at a2;exact hm _ (by omega) (by omega)
  .rw[aD a2]
   split<;>exact h
theorem ahf{sz:Int}{s:S}(h:okB {s with val:=0}=true)(hv:0<=s.val/\s.val<sz)(he:(eB sz s).2.2.2=0):okB {(eB sz s).1 with val:=0}=true/\0<=(eB sz s).1.val/\(eB sz s).1.val<sz:=by
 unfold eB at he⊢;by_cases a1:(s.val+1==sz)=true
 .rw[aK a1]at he⊢
  by_cases a2:(s.cnt==1099511627776)=true
  .rw[aK a2]at he;simp[er]at he
  .rw[aD a2]
   refine⟨?_,by simp,by simp;omega⟩
   unfold okB at h⊢;simp only at h⊢;rw[bJ]at h⊢;refine⟨?_,h.2⟩;have:=h.1;simp at this a2⊢;omega
 .rw[aD a1]
  simp at a1;exact⟨h,by simp;omega,by simp;omega⟩
theorem Ng{rm:Int}{s:S}:mV rm s=true↔(s.own = -1/\s.cnt=0/\s.time=0/\s.val=0/\s.H=[]/\s.C=[])/\(s.B.length:Int)<=rm/\∀x∈s.B,num x=true:=by
 unfold mV v8;rw[af4];simp
 grind
theorem ahg{rm:Int}{s:S}{c:Cl}(h:mV rm s=true)(hc:c.op=64->num c.value=true):mV rm (eC rm s c).1=true:=by
 obtain⟨h1,h2,h3⟩:=Ng.1 h;unfold eC;by_cases a1:(c.op==64)=true
 .rw[aK a1]
  by_cases a2:s.cl=true
  .rw[aK a2];exact h
  .rw[aD a2]
   by_cases a3:decide (rm<=s.B.length)=true
   .rw[aK a3];exact h
   .rw[aD a3]
    simp at a1 a3;refine Ng.2 ⟨h1,by simp[gd];omega,?_⟩
    intro x hx;rcases dj.1 hx with e |e
    .exact h3 x e
    .rw[yJ.1 e];exact hc a1
 .rw[aD a1]
  by_cases a2:(c.op==65)=true
  .rw[aK a2]
   cases hB:s.B with
   |nil=>simp only;split<;>exact h
   |cons b r =>
    rw[hB]at h2 h3;refine Ng.2 ⟨h1,by simp at h2⊢;omega,λx hx=>h3 x (yH _ hx)⟩
  .rw[aD a2]
   split
   .exact h
   .exact Ng.2 ⟨h1,h2,h3⟩
theorem ahh{sz ot:Int}{s:S}{c:Cl}(h:qA sz s=true)(hz:1<=sz)(ho:1<=ot)(hn:0<=c.now/\c.now<=1099511627776)(hc:c.op=72->1<=c.value):qA sz (eL sz ot s c).1=true:=by
 have hb:=YE h;have hm:∀x y,0<=x->x<=sz->0<=y->y<=1099511627776->qA sz {s with cnt:=x,time:=y}=true:=by
  intro x y h1 h2 h3 h4;unfold qA at h⊢;simp only at h⊢;rw[bJ]at h⊢;refine⟨?_,h.2⟩;have:=h.1;simp at this⊢;omega
 unfold eL;by_cases a0:decide (c.now<s.time)=true
 .rw[aK a0];exact h
 .rw[aD a0]
  simp at a0;obtain⟨k0,k1,k2⟩:=H7 (a:=c.now - s.time) (b:=ot) (by omega) ho
  have CY:0<=(c.now - s.time) / ot*ot:=Gu k0 (by omega)
  have hr:∃x y,nA sz ot c.now s={s with cnt:=x,time:=y}/\0<=x/\x<=sz/\0<=y/\y<=1099511627776:=by
   unfold nA;by_cases a1:decide (sz<=s.cnt+(c.now - s.time) / ot)=true
   .rw[aK a1]
    exact⟨_,_,rfl,by omega,by omega,by omega,by omega⟩
   .rw[aD a1]
    simp at a1;exact⟨_,_,rfl,by omega,by omega,by omega,by omega⟩
  obtain⟨x,y,hr,r1,r2,r3,r4⟩:=hr;rw[hr];by_cases a1:(c.op==72)=true
  .rw[aK a1]
   have hv:=hc (by simpa using a1)
   by_cases a2:decide (x<c.value)=true
   .rw[aK a2];exact hm x y r1 r2 r3 r4
   .rw[aD a2]
    simp at a2;exact hm (x - c.value) y (by omega) (by omega) r3 r4
  .rw[aD a1]
   exact hm x y r1 r2 r3 r4
theorem ahi{s:S}{c:Cl}(h:okF s=true)(hc:c.op≠74->num c.value=true):okF (eF s c).1=true:=by
 unfold eF;by_cases a1:(c.op==74)=true
 .rw[aK a1]
  split<;>exact h
 .rw[aD a1]
  split
  .exact h
  .simp at a1
   have hv:=hc a1;unfold okF uP at h⊢;simp[gd]at h⊢;simp[h,hv]
theorem YQ{rm:Int}{s:S}(hq:s.Q=[]):S.good rm s=true↔s.own = -1/\vc rm none s.C=true/\s.uO=false:=by
 unfold S.good;rw[hq];have h1:dY []=0:=by decide
 rw[h1];simp[tq]
 grind
theorem ahj{rm:Int}{C:List K}(h1:gF (C.map K.task))(h2:∀x∈C,cY x.task=true/\¬rm<x.log.length/\x.log.all num=true):vc rm none C=true :=
 (M7 rm C none).2 ⟨by simp,h1,h2⟩
theorem ahk{rm:Int}{s:S}{c:Cl}(hq:s.Q=[])(h:S.good rm s=true)(ht:cY c.task=true)(hr:1<=rm)(hc:c.op≠69->c.op≠71->c.op≠70->num c.value=true):
  S.good rm (eT rm s c).1=true:=by
 obtain⟨g1,g2,g3⟩:=(YQ hq).1 h;obtain⟨_,v1,v2⟩:=(M7 rm s.C none).1 g2;have hm:∀C',gF (C'.map K.task)->(∀x∈C',cY x.task=true/\¬rm<x.log.length/\x.log.all num=true)->S.good rm {s with C:=C'}=true :=
  λC' k1 k2=>(YQ (s:={s with C:=C'}) hq).2 ⟨g1,ahj k1 k2,g3⟩
 unfold eT;by_cases a1:(c.op==69)=true
 .rw[aK a1]
  by_cases a2:mF s c.task=true
  .rw[aK a2];exact h
  .rw[aD a2]
   refine hm _ ?_ ?_
   .have e:(s.C.take (bK s c.task)++(⟨c.task,false,[]⟩:K)::s.C.drop (bK s c.task)).map K.task=eR c.task (qB s):=by
     unfold eR;simp[qB,bK,BU,BV]
    rw[e];refine SZ v1 λhin=>a2 ?_
    unfold mF;have:=(H6 v1).2 hin;unfold bK;exact Pg this
   .intro x hx
    rcases dj.1 hx with hx |hx
    .exact v2 x (nN hx)
    .rcases dA.1 hx with hx |hx
     .rw[hx]
      refine⟨ht,by simp;omega,by simp⟩
     .exact v2 x (mO hx)
 .rw[aD a1]
  by_cases a2:(c.op==71)=true
  .rw[aK a2]
   by_cases a3:mF s c.task=true
   .rw[aK a3]
    obtain⟨A,kk,B,f1,f2,f3⟩:=Nd s c.task a3;have e:s.C.take (bK s c.task)++s.C.drop (bK s c.task+1)=A++B:=by
     rw[f2,f1];have d1:List.drop (A.length+1) (A++kk::B)=B:=by
      have:A++kk::B=(A++[kk])++B:=by simp
      rw[this];exact DY (by simp)
     rw[d1,List.take_left]
    rw[e];refine hm _ ?_ ?_
    .refine Wx ?_ v1
     rw[f1];exact List.Sublist.map _ (Gx (Am A) (Gy kk B))
    .intro x hx
     refine v2 x ?_;rw[f1];rcases dj.1 hx with h |h
     .exact DZ _ h
     .exact Gw _ (yH _ h)
   .rw[aD a3];exact h
  .rw[aD a2]
   by_cases a4:(c.op==70)=true
   .rw[aK a4]
    by_cases a3:mF s c.task=true
    .rw[aK a3]
     obtain⟨A,⟨kt,kn,kl⟩,B,f1,f2,f3⟩:=Nd s c.task a3;simp only at f3;have hg:s.C[bK s c.task]?=some ⟨kt,kn,kl⟩:=by rw[f2,f1];simp
     rw[hg];cases kl with
     |nil=>exact h
     |cons b r =>
      have e:s.C.set (bK s c.task) ⟨c.task,false,r⟩=A++⟨c.task,false,r⟩::B:=by rw[f2,f1];simp
      show S.good rm {s with C:=s.C.set (bK s c.task) ⟨c.task,false,r⟩}=true
      rw[e];have hk:=v2 ⟨kt,kn,b::r⟩ (by rw[f1];simp)
      refine hm _ ?_ ?_
      .have e2:(A++(⟨c.task,false,r⟩:K)::B).map K.task=s.C.map K.task:=by rw[f1];simp[f3]
       rw[e2];exact v1
      .intro x hx
       rcases dj.1 hx with h |h
       .exact v2 x (by rw[f1];exact DZ _ h)
       .rcases dA.1 h with h |h
        .rw[h]
         obtain⟨_,k2,k3⟩:=hk;simp only[iy,xx,bJ]at k2 k3;exact⟨ht,by simp only;omega,k3.2⟩
        .exact v2 x (by rw[f1];exact Gw _ (yH _ h))
    .rw[aD a3];exact h
   .rw[aD a4]
    by_cases a5:(s.C.any λx=>decide (rm<=x.log.length))=true
    .rw[aK a5];exact h
    .rw[aD a5]
     have hv:=hc (by simpa using a1) (by simpa using a2) (by simpa using a4)
     refine hm _ ?_ ?_
     .have e2:(s.C.map λx=>(⟨x.task,false,x.log++[c.value]⟩:K)).map K.task=s.C.map K.task:=by
       rw[kY];rfl
      rw[e2];exact v1
     .intro x hx
      obtain⟨w,hw,rfl⟩:=gV.1 hx;obtain⟨k1,k2,k3⟩:=v2 w hw;have h5:¬rm<=(w.log.length:Int):=by
       intro hh;exact a5 (rV.2 ⟨w,hw,Pg hh⟩)
      refine⟨k1,by simp;omega,?_⟩
      simp[JP,hv]at k3⊢;exact k3
theorem CZ{n:Int}{b:Bool}(h:n=0)(hb:b=true):ck n b=0:=by unfold ck;rw[aK h,hb];rfl
theorem ahl(k sz ot:Int)(s:S)(c:Cl):(raw k sz ot s c).1.Q=s.Q:=by
 unfold raw;repeat' split
 .unfold eM;repeat' split
  all_goals rfl
 .unfold eW;repeat' split
  all_goals rfl
 .unfold eS;repeat' split
  all_goals rfl
 .unfold eB;repeat' split
  all_goals rfl
 .unfold eC;repeat' split
  all_goals rfl
 .unfold eT;repeat' split
  all_goals rfl
 .unfold eL nA;repeat' split
  all_goals rfl
 .unfold eF;repeat' split
  all_goals rfl
theorem ahm(sz:Int):1<=dr sz:=by unfold dr;split<;>omega
theorem A3{k sz ot:Int}{s:S}(h1:gE k sz ot=0)(h2:s.Q=[])(h3:k=5->0<=s.val/\s.val<sz)(h4:gL k (iV k sz) ot (ir k s)=0):cW k sz ot s=true:=by
 unfold cW;rw[h1,h2,h4];by_cases h5:k=5
 .have:=h3 h5
  simp[h5];omega
 .simp[h5]
theorem ahn{k sz ot:Int}{s:S}{c:Cl}(ha:cW k sz ot s=true)(hc:cG c=false)(hb:dH k c.op=true)(hf:fit k sz c=true)(he:(raw k sz ot s c).2.2.2=0):
  cW k sz ot (raw k sz ot s c).1=true:=by
 obtain⟨n1,n2,n3,n4⟩:=oN ha;obtain⟨ht,hn⟩:=S4 hc;have hQ:=ahl k sz ot s c;rw[n2]at hQ;rcases YI ha with h |h |h |h |h |h |h |h<;>subst h
 .exact A3 n1 hQ (by simp) (by
   have:=ahc (c:=c) (Yw ha) ht;exact CZ (CU (by simpa[gL,iV,ir]using n4)) this)
 .exact A3 n1 hQ (by simp) (by
   have:=ahd (c:=c) (Yx ha) ht he;exact CZ (CU (by simpa[gL,iV,ir]using n4)) this)
 .exact A3 n1 hQ (by simp) (by
   have h5:1<=c.value/\c.value<=sz:=by simpa[fit]using hf
   have:=ahe (c:=c) (S3 ha).2 h5;exact CZ (S3 ha).1 this)
 .obtain⟨h1,h2,h3,h4⟩:=Yy ha
  have:=ahf h2 ⟨h3,h4⟩ he;exact A3 n1 hQ (λ_=>this.2) (by exact CZ h1 this.1)
 .obtain⟨h1,h2⟩:=agO ha
  have h3:c.op=64->num c.value=true:=by
   intro h;simpa[fit,h]using hf
  have:=ahg h2 h3;refine A3 n1 hQ (by simp) ?_
  exact CZ (CU (b:=mV (dr sz) s) (by simpa[gL,iV,ir]using n4)) this
 .obtain⟨h1,h2⟩:=Yz ha
  have h4:c.op=68\/c.op=69\/c.op=70\/c.op=71:=by
   simp[dH]at hb;omega
  have h3:c.op≠69->c.op≠71->c.op≠70->num c.value=true:=by
   intro a b d;have h:c.op=68:=by omega
   simpa[fit,h]using hf
  have:=ahk n2 h2 ht (ahm sz) h3;refine A3 n1 hQ (by simp) ?_
  have n5:fM 7 (dr sz) ot s=0:=by simpa[gL,iV,ir]using n4
  have n6:dQ 7 (dr sz) ot=0:=by
   unfold fM at n5;split at n5
   .assumption
   .exact n5
  show fM 7 (dr sz) ot (eT (dr sz) s c).1=0
  unfold fM;rw[aK n6,this];rfl
 .obtain⟨h1,h2⟩:=YA ha
  have h3:=YC h1;have h7:c.op=72->1<=c.value:=by
   intro h
   have:1<=c.value/\c.value<=sz:=by simpa[fit,h]using hf
   exact this.1
  have:=ahh h2 h3.1 h3.2.2.1 hn h7;exact A3 n1 hQ (by simp) (by exact CZ h1 this)
 .have h1:c.op=73\/c.op=74:=by simpa[dH]using hb
  have h3:c.op≠74->num c.value=true:=by
   intro h;have h:c.op=73:=by omega
   simpa[fit,h]using hf
  have:=ahi (s:=s) (c:=c) (CT (n:=dR 9 9 sz ot) (by simpa[gL,iV,ir]using n4)) h3
  exact A3 n1 hQ (by simp) (by exact CZ (CU (by simpa[gL,iV,ir]using n4)) this)
theorem aho{k sz ot:Int}{s:S}{c:Cl}(he:(eD k sz ot s c).2.2.2=0):cW k sz ot s=true/\cW k sz ot (eD k sz ot s c).1=true:=by
 unfold eD at he⊢;by_cases h1:cW k sz ot s=false
 .rw[aK h1]at he;simp[er]at he
 .rw[aD h1]at he⊢
  by_cases h2:cG c=true
  .rw[aK h2]at he;simp[er]at he
  .rw[aD h2]at he⊢
   by_cases h3:dH k c.op=false
   .rw[aK h3]at he;simp[er]at he
   .rw[aD h3]at he⊢
    by_cases h4:fit k sz c=false
    .rw[aK h4]at he;simp[er]at he
    .rw[aD h4]at he⊢
     by_cases h5:(raw k sz ot s c).2.2.2=0
     .rw[aK h5]at he⊢
      have ha:cW k sz ot s=true:=by simpa using h1
      exact⟨ha,ahn ha (by simpa using h2) (by simpa using h3) (by simpa using h4) h5⟩
     .rw[aD h5]at he;exact absurd he h5
end Go.VS.Sp
namespace Go.VS.Sp
theorem S7(nm:D)(k sz ot:Int)(s:S)(c:Cl)(hw:s.wf)(hz:s.sz):
  Rel (ev P (.call sZ [.d (.ag [nm,I' k,I' sz,I' ot]),.d (.ag s.row),.d (.ag c.row)] [])) (eD k sz ot s.pl c):=by
 by_cases hk:k=1\/k=2\/k=4\/k=5\/k=6\/k=7\/k=8\/k=9
 .rcases hk with h |h |h |h |h |h |h |h<;>subst h
  .exact ag4 nm sz ot s c hw hz
  .exact ag5 nm sz ot s c hw hz
  .exact ag6 nm sz ot s c hw hz
  .exact ag7 nm sz ot s c hw hz
  .exact ag8 nm sz ot s c hw hz
  .exact ag9 nm sz ot s c hw hz
  .exact aha nm sz ot s c hw hz
  .exact ahb nm sz ot s c hw hz
 .have ha:cW k sz ot s.pl=false:=by
   cases hh:cW k sz ot s.pl
   .rfl
   .exact absurd (YI hh) hk
  unfold eD;rw[ha,aK rfl];have hU:=S5 hk;rw[au y9 rfl];exact Rel.fail 1 (by simp[dm,Cl.row,hU,ep,bY])
theorem YR(nm:D)(k sz ot:Int)(s:S)(c:Cl)(hw:s.wf)(hz:s.sz):
  ev P (.call KB [.d (.ag [nm,I' k,I' sz,I' ot]),.d (.ag s.row),.d (.ag c.row)] [])=some (.val (.d (.b ((eD k sz ot s.pl c).2.2.2==0))) []):=by
 obtain⟨s',h1,h2,h3⟩:=S7 nm k sz ot s c hw hz;generalize eD k sz ot s.pl c=r at *;simp only[S.row,Cl.row]at h1;rw[au adI rfl];simp[Rn,Cl.row,h1]
theorem A4(f g:Nat)(nm:D)(k sz ot e:Int)(r:List D)(hr:r.length=9)(h:ev P (.call f [.d (.ag [nm,I' k,I' sz,I' ot])] [])=sC e r):
  ev P (.call xN [.d (.ag [.fn f [] [],.fn g [] []]),.d (.ag [nm,I' k,I' sz,I' ot])] [])=sC e r:=by
 unfold sC at h⊢
 match r,hr with
 | [r0,r1,r2,r3,r4,r5,r6,r7,r8],_ =>
 rw[au afv rfl];by_cases he:e=0
 .rw[aK he]at h⊢
  simp[ML,h,ez,fu]
 .rw[aD he]at h⊢
  simp[ML,h,ez,fu,bY]
theorem S8(nm:D)(k sz ot:Int):ev P (.call KC [.d (.ag [nm,I' k,I' sz,I' ot])] [])=sC (gE k sz ot) (we k sz):=by
 rw[au adJ rfl];by_cases hk:k=1\/k=2\/k=4\/k=5\/k=6\/k=7\/k=8\/k=9
 .rcases hk with h |h |h |h |h |h |h |h<;>subst h
  .have h:=A4 sq pM nm 1 sz ot _ _ rfl (SN nm 1 sz ot)
   have e:gE 1 sz ot=dR 1 1 sz ot:=rfl;rw[e];by_cases hm:dR 1 1 sz ot=0<;>simp[vM,tK,cV,h,hm,we,gm,bY]
  .have h:=A4 su lz nm 2 sz ot _ _ rfl (SO nm 2 sz ot)
   have e:gE 2 sz ot=dR 2 2 sz ot:=rfl;rw[e];by_cases hm:dR 2 2 sz ot=0<;>simp[vM,rF,cV,h,hm,we,gm,bY]
  .have h:=A4 s9 qu nm 4 sz ot _ _ rfl (vZ nm 4 sz ot)
   have e:gE 4 sz ot=iR 4 sz ot:=rfl;rw[e];by_cases hm:iR 4 sz ot=0<;>simp[vM,qE,cV,h,hm,we,grow,bY]
  .have h:=A4 tc oF nm 5 sz ot _ _ rfl (v5 nm 5 sz ot)
   have e:gE 5 sz ot=iS 5 sz ot:=rfl;rw[e];by_cases hm:iS 5 sz ot=0<;>simp[vM,zl,cV,h,hm,we,gm,bY]
  .have h:=A4 tg gp nm 6 sz ot _ _ rfl (HX nm 6 sz ot)
   have e:gE 6 sz ot=iq 6 sz ot:=rfl;rw[e];by_cases hm:iq 6 sz ot=0<;>simp[vM,sF,cV,h,hm,we,gm,bY]
  .have h:=A4 th rq nm 7 sz ot _ _ rfl (uN nm 7 sz ot)
   have e:gE 7 sz ot=dQ 7 sz ot:=rfl;rw[e];by_cases hm:dQ 7 sz ot=0<;>simp[vM,qF,cV,h,hm,we,gm,bY]
  .have h:=A4 tj nT nm 8 sz ot _ _ rfl (v7 nm 8 sz ot)
   have e:gE 8 sz ot=jv 8 sz ot:=rfl;rw[e];by_cases hm:jv 8 sz ot=0<;>simp[vM,uR,cV,h,hm,we,grow,bY]
  .have h:=A4 tr pP nm 9 sz ot _ _ rfl (HW nm 9 sz ot)
   have e:gE 9 sz ot=dR 9 9 sz ot:=rfl;rw[e];by_cases hm:dR 9 9 sz ot=0<;>simp[vM,uS,cV,h,hm,we,gm,bY]
 .have hU:=S5 hk
  have e:gE k sz ot=8:=by
   unfold gE;repeat' split
   all_goals first |rfl |(exfalso;apply hk;simp[*])
  rw[e];simp[vM,hU,bY]
def pX(k sz:Int):S:=⟨-1,if k=4\/k=8 then sz else 0,0,true,[],true,[],true,[],true,[],false,0⟩
theorem YS(k sz:Int):(pX k sz).row=we k sz:=by
 unfold pX we;by_cases h:k=4\/k=8
 .rw[aK h,aK h];rfl
 .rw[aD h,aD h];rfl
theorem S9(k sz:Int):(pX k sz).wf:=⟨λ_=>rfl,λ_=>rfl,λ_=>rfl,by simp[pX]⟩
structure S.zn(n:Nat)(s:S):Prop where
 h:s.H.length<=n
 b:s.B.length<=n
 q:s.Q.length<=n
 c:s.C.length<=n
 l:∀c∈s.C,c.log.length<=n
theorem S.zn.sz{n:Nat}{s:S}(h:s.zn n)(hn:n<=1000):s.sz:=⟨by have:=h.h;omega,by have:=h.b;omega,by have:=h.q;omega,by have:=h.c;omega,λc hc=>by have:=h.l c hc;omega⟩
theorem Nh{n:Nat}{s:S}:s.pl.zn n↔s.zn n:=by
 constructor
 .intro h
  refine⟨h.h,h.b,h.q,by have:=h.c;simpa[S.pl]using this,λc hc=>?_⟩
  exact h.l (K.pl c) (Pf hc)
 .intro h
  refine⟨h.h,h.b,h.q,by have:=h.c;simpa[S.pl]using this,λc hc=>?_⟩
  obtain⟨d,hd,rfl⟩:=gV.1 hc;exact h.l d hd
theorem S.zn.up{n:Nat}{s:S}(h:s.zn n):s.zn (n+1):=⟨by have:=h.h;omega,by have:=h.b;omega,by have:=h.q;omega,by have:=h.c;omega,λc hc=>by have:=h.l c hc;omega⟩
theorem ahp(k sz ot:Int){n:Nat}{s:S}(c:Cl)(h:s.zn n):(raw k sz ot s c).1.zn (n+1):=by
 have hu:=h.up;have hs:∀o x t v b,S.zn (n+1) {s with own:=o,cnt:=x,time:=t,val:=v,cl:=b}:=λo x t v b=>⟨hu.h,hu.b,hu.q,hu.c,hu.l⟩
 unfold raw;repeat' split
 .unfold eM;repeat' split
  all_goals exact hs _ _ _ _ _
 .unfold eW;repeat' split
  all_goals first
   |exact hs _ _ _ _ _
   |exact⟨by have h1:=h.h;have h2:=vw (λx=>x != c.task) s.H;simp[gd];omega,hu.b,hu.q,hu.c,hu.l⟩
   |exact⟨by have h1:=h.h;have h2:=tG c.task s.H;simp[gd,eR];omega,hu.b,hu.q,hu.c,hu.l⟩
 .unfold eS;repeat' split
  all_goals exact hs _ _ _ _ _
 .unfold eB;repeat' split
  all_goals exact hs _ _ _ _ _
 .unfold eC;repeat' split
  all_goals first
   |exact hs _ _ _ _ _
   |exact⟨hu.h,by have h1:=h.b;simp[gd];omega,hu.q,hu.c,hu.l⟩
   |exact⟨hu.h,by have h1:=h.b;simp_all;omega,hu.q,hu.c,hu.l⟩
 .unfold eT;repeat' split
  all_goals first
   |exact hs _ _ _ _ _
   |(
    refine⟨hu.h,hu.b,hu.q,?_,?_⟩
    .have h1:=h.c;simp[gd];omega
    .intro x hx
     simp only[gd,dj,dA]at hx;rcases hx with h |h |h
     .exact hu.l x (nN h)
     .rw[h];simp
     .exact hu.l x (mO h))
   |(
    refine⟨hu.h,hu.b,hu.q,?_,?_⟩
    .have h1:=h.c;simp[gd];omega
    .intro x hx
     simp only[gd,dj]at hx;rcases hx with h |h
     .exact hu.l x (nN h)
     .exact hu.l x (mO h))
   |(
    rename_i b r hg;refine⟨hu.h,hu.b,hu.q,?_,?_⟩
    .have h1:=h.c;simp;omega
    .intro x hx
     rcases JQ hx with h2 |h2
     .exact hu.l x h2
     .rw[h2]
      have h3:=h.l _ (kU hg);simp at h3⊢;omega)
   |(
    refine⟨hu.h,hu.b,hu.q,?_,?_⟩
    .have h1:=h.c;simp[gd];omega
    .intro x hx
     simp only[gd]at hx;obtain⟨w,hw,rfl⟩:=gV.1 hx;have h3:=h.l w hw;simp;omega)
 .unfold eL nA;repeat' split
  all_goals exact hs _ _ _ _ _
 .unfold eF;repeat' split
  all_goals exact hs _ _ _ _ _
theorem ahq(n:Nat):zS.zn n:=⟨by simp[zS,zN,S.pl],by simp[zS,zN,S.pl],by simp[zS,zN,S.pl],by simp[zS,zN,S.pl],by simp[zS,zN,S.pl]⟩
theorem YT(k sz ot:Int){n:Nat}{s:S}(c:Cl)(h:s.zn n):(eD k sz ot s c).1.zn (n+1):=by
 unfold eD;repeat' split
 all_goals first |exact ahq _ |exact ahp k sz ot c h
end Go.VS.Sp
namespace Go.VS.Sp
structure Wk where
 task:Int
 op:Int
 value:Int
 ok:Bool
 case:Int
def Wk.row(w:Wk):List D:=[I' w.task,I' w.op,I' w.value,.b w.ok,I' w.case]
def Ic(k sz ot:Int)(s:S)(c:Cl)(w:Wk):Option S :=
 if((eD k sz ot s c).2.2.2 != 0||c.task != w.task||c.op != w.op)then none
 else if(w.value==(eD k sz ot s c).2.1&&w.ok==(eD k sz ot s c).2.2.1)then some (eD k sz ot s c).1
 else if(c.op==61&&ot==0&&(w.value==0&&!w.ok))then some s else none
def xX(k sz ot:Int):S->List Cl->List Wk->Option S
 |s,c::l,w::r=>(Ic k sz ot s c w).bind λt=>xX k sz ot t l r
 |s,_,_=>some s
def Ie(b:Bool):Int:=if b then 1 else 0
theorem Ta(v:Int)(b:Bool):ev P (.call GV [.d (I' v),.d (.b b)] [])=some (.val (.d (.ag [I' v,I' (Ie b)])) []):=by
 rw[au adV rfl];cases b<;>simp[Rs,Ie]
theorem Tb(a b:Bool):(Ie a==Ie b)=(a==b):=by cases a<;>cases b<;>decide
theorem Tc(a:Bool):(Ie a==0)=!a:=by cases a<;>decide
theorem ahr(nm:D)(k sz ot:Int)(ln rn:Bool)(l:List Cl)(r:List Wk)(hlr:l.length=r.length)(hn:l.length<=1000):∀(sl:List Cl)(sr:List Wk)(pl:List Cl)(pr:List Wk)(a:S),l=pl++sl->r=pr++sr->pr.length=pl.length->a.wf->a.zn pl.length ->
  match xX k sz ot a.pl sl sr with
  |none=>ev P (.loop 0 [2,3,7,38,39,40] sx [(2,.d (.sl 5 rn (r.map Wk.row))),(3,.d (.ref [nm,I' k,I' sz,I' ot])),(7,.loc 0 0 0),(38,.d (.sl 5 ln (l.map Cl.row))),(39,.d (I' l.length)),(40,.d (I' pl.length))] [.aG 9 true [a.row]])=some (.out .ret [(6,.d (.b false))] [])
  |some t=>∃a':S,a'.pl=t/\a'.wf/\a'.zn l.length/\ev P (.loop 0 [2,3,7,38,39,40] sx [(2,.d (.sl 5 rn (r.map Wk.row))),(3,.d (.ref [nm,I' k,I' sz,I' ot])),(7,.loc 0 0 0),(38,.d (.sl 5 ln (l.map Cl.row))),(39,.d (I' l.length)),(40,.d (I' pl.length))] [.aG 9 true [a.row]]) =
    some (.out (.exit 0) [(3,.d (.ref [nm,I' k,I' sz,I' ot])),(7,.loc 0 0 0)] [.aG 9 true [a'.row]]):=by
 intro sl;induction sl with
 |nil =>
  intro sr pl pr a hl hr hp hw hz;have h1:l.length=pl.length:=by simp[hl]
  simp only[xX];refine⟨a,rfl,hw,by rw[h1];exact hz,?_⟩
  rw[bS]
  conv=>lhs;arg 4;unfold sx
  simp[h1,aJ,aA,sub,aE,back,ak,cut,an,V.aZ,br,aY,bg,aq,aN,aO]
 |cons c sl ih =>
  intro sr pl pr a hl hr hp hw hz;have hlt:(pl.length:Int)<l.length:=by simp[hl];omega
  have hnext:IntKind.i64.wrap ((pl.length:Int)+1)=pl.length+1:=wrap_i64 (by omega) (by omega)
  have hg:l[pl.length]?=some c:=by simp[hl]
  cases sr with
  |nil=>exfalso;simp[hl,hr]at hlr;omega
  |cons w sr =>
  have hg':r[pl.length]?=some w:=by rw[<-hp];simp[hr]
  obtain⟨a',e1,e2,e3⟩:=S7 nm k sz ot a c hw (hz.sz (by simp[hl]at hn;omega))
  have hz':a'.zn (pl.length+1):=by
   rw[<-Nh,e2];exact YT k sz ot c (Nh.2 hz)
  have ih1:=ih sr (pl++[c]) (pr++[w]) a' (by simp[hl]) (by simp[hr]) (by simp[hp]) e3 (by simpa using hz')
  have ih2:=ih sr (pl++[c]) (pr++[w]) a (by simp[hl]) (by simp[hr]) (by simp[hp]) hw (by simpa using hz.up)
  have CY:=Ta 0 false;have mX:=Ta w.value w.ok;unfold xX Ic;generalize eD k sz ot a.pl c=x at *;obtain⟨x1,x2,x3,x4⟩:=x;simp only at e1 e2;have A5:=Ta x2 x3;rw[e2]at ih1;simp only[S.row,Cl.row]at e1;cases hB:(x4 != 0||c.task != w.task||c.op != w.op)
  .rw[aD (by decide)]
   cases hM:(w.value==x2&&w.ok==x3)
   .rw[aD (by decide)]
    cases hI:(c.op==61&&ot==0&&(w.value==0&&!w.ok))
    .rw[aD (by decide)]
     simp only[Option.bind_none];rw[bS]
     conv=>lhs;arg 4;unfold sx
     simp[hlt,hg,hg',Cl.row,Wk.row,e1,hnext,CY,mX,A5,hB,hM,hI,Tb,Tc,aJ,aA,sub,aE,back,ak,cut,an,V.aZ,br,aY,bg,aq,aN,aO]
    .rw[aK rfl,uq]
     have hs:ev P (.loop 0 [2,3,7,38,39,40] sx [(2,.d (.sl 5 rn (r.map Wk.row))),(3,.d (.ref [nm,I' k,I' sz,I' ot])),(7,.loc 0 0 0),(38,.d (.sl 5 ln (l.map Cl.row))),(39,.d (I' l.length)),(40,.d (I' pl.length))] [.aG 9 true [a.row]]) =
       ev P (.loop 0 [2,3,7,38,39,40] sx [(2,.d (.sl 5 rn (r.map Wk.row))),(3,.d (.ref [nm,I' k,I' sz,I' ot])),(7,.loc 0 0 0),(38,.d (.sl 5 ln (l.map Cl.row))),(39,.d (I' l.length)),(40,.d (I' (pl++[c]).length))] [.aG 9 true [a.row]]):=by
      generalize hR:ev P (.loop 0 [2,3,7,38,39,40] sx [(2,.d (.sl 5 rn (r.map Wk.row))),(3,.d (.ref [nm,I' k,I' sz,I' ot])),(7,.loc 0 0 0),(38,.d (.sl 5 ln (l.map Cl.row))),(39,.d (I' l.length)),(40,.d (I' (pl++[c]).length))] [.aG 9 true [a.row]])=R;rw[bS]
      conv=>lhs;arg 4;unfold sx
      simp at hR;simp[hlt,hg,hg',Cl.row,Wk.row,e1,hnext,CY,mX,A5,hB,hM,hI,Tb,Tc,aJ,aA,sub,aE,back,ak,cut,an,V.aZ,br,aY,bg,aq,aN,aO];exact hR
     rw[hs];exact ih2
   .rw[aK rfl,uq]
    have hs:ev P (.loop 0 [2,3,7,38,39,40] sx [(2,.d (.sl 5 rn (r.map Wk.row))),(3,.d (.ref [nm,I' k,I' sz,I' ot])),(7,.loc 0 0 0),(38,.d (.sl 5 ln (l.map Cl.row))),(39,.d (I' l.length)),(40,.d (I' pl.length))] [.aG 9 true [a.row]]) =
      ev P (.loop 0 [2,3,7,38,39,40] sx [(2,.d (.sl 5 rn (r.map Wk.row))),(3,.d (.ref [nm,I' k,I' sz,I' ot])),(7,.loc 0 0 0),(38,.d (.sl 5 ln (l.map Cl.row))),(39,.d (I' l.length)),(40,.d (I' (pl++[c]).length))] [.aG 9 true [a'.row]]):=by
     generalize hR:ev P (.loop 0 [2,3,7,38,39,40] sx [(2,.d (.sl 5 rn (r.map Wk.row))),(3,.d (.ref [nm,I' k,I' sz,I' ot])),(7,.loc 0 0 0),(38,.d (.sl 5 ln (l.map Cl.row))),(39,.d (I' l.length)),(40,.d (I' (pl++[c]).length))] [.aG 9 true [a'.row]])=R;rw[bS]
     conv=>lhs;arg 4;unfold sx
     simp at hR;simp[hlt,hg,hg',Cl.row,Wk.row,e1,hnext,CY,mX,A5,hB,hM,Tb,Tc,aJ,aA,sub,aE,back,ak,cut,an,V.aZ,br,aY,bg,aq,aN,aO];exact hR
    rw[hs];exact ih1
  .rw[aK rfl]
   simp only[Option.bind_none];rw[bS]
   conv=>lhs;arg 4;unfold sx
   simp[hlt,hg,hg',Cl.row,Wk.row,e1,hnext,CY,mX,A5,hB,aJ,aA,sub,aE,back,ak,cut,an,V.aZ,br,aY,bg,aq,aN,aO]
theorem YU(f g:Nat)(nm:D)(k sz ot e:Int)(s:S)(h:ev P (.call g [.d (.ag [nm,I' k,I' sz,I' ot]),.d (.ag s.row)] [])=some (.val (.d (I' e)) [])):
  ev P (.call oG [.d (.ag [.fn f [] [],.fn g [] []]),.d (.ag [nm,I' k,I' sz,I' ot]),.d (.ag s.row)] [])=some (.val (.d (I' e)) []):=by
 simp only[S.row]at h;rw[au afu rfl];simp[Ss,h,ez,fu]
def A6(k sz ot:Int)(l:List Cl)(r:List Wk):Bool :=
 if(gE k sz ot != 0||(l.length:Int) != r.length||decide ((1000:Int)<l.length))then false
 else match xX k sz ot (pX k sz).pl l r with
  |none=>false
  |some t=>gL k sz ot t==0
theorem YV(k sz:Int)(n:Nat):(pX k sz).zn n:=⟨by simp[pX],by simp[pX],by simp[pX],by simp[pX],by simp[pX]⟩
theorem ahs{k sz ot:Int}{s t:S}{c:Cl}{w:Wk}(h:Ic k sz ot s c w=some t)(hq:s.Q=[]):t.Q=[]:=by
 unfold Ic at h;by_cases h1:((eD k sz ot s c).2.2.2 != 0||c.task != w.task||c.op != w.op)=true
 .rw[aK h1]at h;cases h
 .rw[aD h1]at h
  by_cases h2:(w.value==(eD k sz ot s c).2.1&&w.ok==(eD k sz ot s c).2.2.1)=true
  .rw[aK h2]at h
   cases h;simp at h1;exact(oN (aho (by simpa using h1.1.1)).2).2.1
  .rw[aD h2]at h
   split at h
   .cases h;exact hq
   .cases h
theorem YW(k sz ot:Int):∀(l:List Cl)(r:List Wk)(s t:S),xX k sz ot s l r=some t->s.Q=[]->t.Q=[]
 | [],_,s,t,h,hq=>by simp[xX]at h;rw[<-h];exact hq
 |_::_,[],s,t,h,hq=>by simp[xX]at h;rw[<-h];exact hq
 |c::l,w::r,s,t,h,hq=>by
  unfold xX at h;cases hx:Ic k sz ot s c w with
  |none=>rw[hx]at h;cases h
  |some u =>
   rw[hx,uq]at h;exact YW k sz ot l r u t h (ahs hx hq)
theorem A7(f g t:Nat)(ht:t=101\/t=102\/t=103\/t=104\/t=105\/t=106\/t=107\/t=108)(nm:D)(k sz ot:Int)(wg:ev P (.call qt [.d (I' k)] [])=some (.val (.tu [.d (.lW t (.ag [.fn f [] [],.fn g [] []])),.d (.b true)]) []))
  (bZ:∀s:S,s.Q=[]->s.sm->ev P (.call g [.d (.ag [nm,I' k,I' sz,I' ot]),.d (.ag s.row)] [])=some (.val (.d (I' (gL k sz ot s))) []))(ln rn:Bool)(l:List Cl)(r:List Wk)(hl:l.length<=100000)(hr:r.length<=100000):
  ev P (.call Ee [.d (.ag [nm,I' k,I' sz,I' ot]),.d (.sl 5 ln (l.map Cl.row)),.d (.sl 5 rn (r.map Wk.row))] [])=some (.val (.d (.b (A6 k sz ot l r))) []):=by
 have hI:=S8 nm k sz ot;rw[<-YS]at hI;unfold sC at hI;rw[au XA rfl];unfold A6;cases hB:(gE k sz ot != 0||(l.length:Int) != r.length||decide ((1000:Int)<l.length))
 .rw[aD (by decide)]
  have YX:=hB;simp at YX;obtain⟨⟨b1,b2⟩,b3⟩:=YX;have hL:=ahr nm k sz ot ln rn l r (by omega) (by omega) l r [] [] (pX k sz) rfl rfl rfl (S9 _ _) (YV _ _ _)
  rw[aK b1,b1]at hI;simp only[S.row]at hI;have hb:((l.length:Int) != r.length||decide ((1000:Int)<l.length))=false:=by rw[b1]at hB;simpa using hB
  cases hx:xX k sz ot (pX k sz).pl l r with
  |none =>
   rw[hx]at hL;simp only[S.row]at hL;simp at hL;simp[Cv,hI,hb,hL,aJ,aA,sub,aE,back,ak,cut,an,V.aZ,br,aY,bg,aq,aN,aO]
  |some t =>
   rw[hx]at hL;obtain⟨s,h1,h2,h3,hL⟩:=hL;have hq:s.Q=[]:=by
    have:=YW k sz ot l r _ _ hx rfl;rw[<-h1]at this;exact this
   have hs:=(h3.sz (by omega)).sm
   have hC:=YU f g nm k sz ot _ s (bZ s hq hs);have e:gL k sz ot t=gL k sz ot s:=by rw[<-h1];exact YG k sz ot s hq
   simp only[e];generalize gL k sz ot s=q at *;simp only[S.row]at hL hC;simp at hL;rcases ht with h |h |h |h |h |h |h |h<;>subst h<;>simp[Cv,hI,hb,hL,wg,cV,hC,aJ,aA,sub,aE,back,ak,cut,an,V.aZ,br,aY,bg,aq,aN,aO]
 .rw[aK rfl]
  by_cases b1:gE k sz ot=0
  .rw[aK b1,b1]at hI
   rw[b1]at hB;simp only[S.row]at hI;have hb:((l.length:Int) != r.length||decide ((1000:Int)<l.length))=true:=by simpa using hB
   simp[Cv,hI,hb]
  .rw[aD b1]at hI
   have b2:(gE k sz ot != 0)=true:=by simpa using b1
   simp[Cv,hI,b2,bY]
end Go.VS.Sp
namespace Go.VS.Sp
theorem Td(nm:D)(k sz ot:Int)(ln rn:Bool)(l:List Cl)(r:List Wk)(hl:l.length<=100000)(hr:r.length<=100000):
  ev P (.call Ee [.d (.ag [nm,I' k,I' sz,I' ot]),.d (.sl 5 ln (l.map Cl.row)),.d (.sl 5 rn (r.map Wk.row))] [])=some (.val (.d (.b (A6 k sz ot l r))) []):=by
 by_cases hk:k=1\/k=2\/k=4\/k=5\/k=6\/k=7\/k=8\/k=9
 .rcases hk with h |h |h |h |h |h |h |h<;>subst h
  .exact A7 sq pM 101 (.inl rfl) nm 1 sz ot tK (λs hq hs=>Yi nm 1 sz ot s hq hs) ln rn l r hl hr
  .exact A7 su lz 102 (.inr (.inl rfl)) nm 2 sz ot rF (λs hq hs=>Yl nm 2 sz ot s hq hs) ln rn l r hl hr
  .exact A7 s9 qu 103 (.inr (.inr (.inl rfl))) nm 4 sz ot qE (λs hq hs=>Yj nm 4 sz ot s hq hs) ln rn l r hl hr
  .exact A7 tc oF 104 (.inr (.inr (.inr (.inl rfl)))) nm 5 sz ot zl (λs hq hs=>Yk nm 5 sz ot s hq hs) ln rn l r hl hr
  .exact A7 tg gp 105 (.inr (.inr (.inr (.inr (.inl rfl))))) nm 6 sz ot sF (λs hq hs=>SR nm 6 sz ot s hq hs) ln rn l r hl hr
  .exact A7 th rq 106 (.inr (.inr (.inr (.inr (.inr (.inl rfl)))))) nm 7 sz ot qF (λs hq hs=>qy nm 7 sz ot s hs) ln rn l r hl hr
  .exact A7 tj nT 107 (.inr (.inr (.inr (.inr (.inr (.inr (.inl rfl))))))) nm 8 sz ot uR (λs hq hs=>Ym nm 8 sz ot s hq hs) ln rn l r hl hr
  .exact A7 tr pP 108 (.inr (.inr (.inr (.inr (.inr (.inr (.inr rfl))))))) nm 9 sz ot uS (λs hq hs=>Yp nm 9 sz ot s hq) ln rn l r hl hr
 .have hI:=S8 nm k sz ot
  have b1:¬gE k sz ot=0:=λh=>hk (YH h)
  have b2:(gE k sz ot != 0)=true:=by simpa using b1
  have e:A6 k sz ot l r=false:=by
   unfold A6;rw[b2];simp
  rw[e];unfold sC at hI;rw[aD b1]at hI;rw[au XA rfl];simp[Cv,hI,b2,bY]
end Go.VS.Sp
namespace Go.VS.Sp
def zq:Cl:=⟨1,64,5,0,0⟩
def C0:Cl:=⟨2,65,0,0,0⟩
def C1:Wk:=⟨1,64,0,true,0⟩
def Ig:Wk:=⟨2,65,5,true,0⟩
theorem aw1:((eD 6 0 0 (pX 6 0).pl zq).2.2.2==0)=true:=by decide
theorem aw2:((eD 6 0 0 (pX 6 0).pl C0).2.2.2==0)=false:=by decide
theorem aw3:A6 6 0 0 [zq,C0] [C1,Ig]=true:=by decide
theorem aw4:A6 6 0 0 [zq] [C1]=false:=by decide
theorem aw5:A6 6 0 0 [C0,zq] [Ig,C1]=false:=by decide
theorem aht:ev P (.call Az [] [])=some (.val (.d (.ag [.s [],I' 6,I' 0,I' 0])) []):=by
 rw[au adQ rfl];simp[Rq]
theorem Ih:ev P (.call GR [] [])=some (.val (.d (.b true)) []):=by
 have hI:=S8 (.s []) 6 0 0;have e0:gE 6 0 0=0:=by decide
 unfold sC at hI;rw[aK e0,e0,<-YS]at hI;have hz:=(YV 6 0 0).sz (by decide)
 have h1:=YR (.s []) 6 0 0 (pX 6 0) zq (S9 _ _) hz;have h2:=YR (.s []) 6 0 0 (pX 6 0) C0 (S9 _ _) hz;have h3:=Td (.s []) 6 0 0 false false [zq,C0] [C1,Ig] (by decide) (by decide)
 have h4:=Td (.s []) 6 0 0 false false [zq] [C1] (by decide) (by decide)
 have h5:=Td (.s []) 6 0 0 false false [C0,zq] [Ig,C1] (by decide) (by decide)
 rw[aw1]at h1;rw[aw2]at h2;rw[aw3]at h3;rw[aw4]at h4;rw[aw5]at h5;simp only[S.row]at hI h1 h2;simp only[gk,gn,Cl.row,Wk.row,zq,C0,C1,Ig]at h1 h2 h3 h4 h5;rw[au adG rfl];simp[Rl,aht,hI,h1,h2,h3,h4,h5,V.aZ]
end Go.VS.Sp
namespace Go.VS.Sp
def eG(f:List W->W->Bool):List W->List W->Bool
 |_,[]=>true
 |pre,w::r=>f pre w&&eG f (pre++[w]) r
def F0(sz:Int)(w:W):Bool:=w.op != 60||decide (w.value<1)||decide (sz<w.value)||w.case != -1
def fS(sz ot cnt:Int)(pre:List W)(w:W):Bool:=!F0 sz w&&(!pre.any (λx=>x.task==w.task)&&(decide ((0:Int)<pre.length)&&ot==0||decide (cnt<w.value)))
theorem al3(nm:D)(k sz ot own cnt time:Int)(a1 a2 a3:D)(cl:Bool)(val:Int)(qn:Bool)(pre:List W)(w:W)(r:List W)(hn:(pre++w::r).length<=1000000):
  ev P (.call Qq [.d (.ag [nm,I' k,I' sz,I' ot]),.d (.ag [I' own,I' cnt,I' time,a1,qD qn (pre++w::r),a2,a3,.b cl,I' val]),.d (I' pre.length)] [])=some (.val (.d (.b (fS sz ot cnt pre w))) []):=by
 have hF:=lD qn (pre++w::r) w.task hn;have mU:=fd_eq (pre:=pre) (w:=w) (r:=r);generalize ju (pre++w::r) w.task=p at *;obtain⟨p1,p2⟩:=p;simp only at mU;have hg:(pre++w::r)[pre.length]?=some w:=by simp
 rw[au aed rfl];unfold fS;rw[<-mU];cases h1:F0 sz w
 .unfold F0 at h1
  have hb:(p1 != (pre.length:Int))=!(p1==(pre.length:Int)):=rfl;cases h2:p1==(pre.length:Int)
  .rw[h2]at hb
   simp[EH,W.row,h1,hF,hb]
  .rw[h2]at hb
   cases h3:(decide ((0:Int)<pre.length)&&ot==0)
   .simp[EH,W.row,h1,hF,hb,h3]
    simp at h3
    grind
   .simp[EH,W.row,h1,hF,hb,h3]
    simp at h3
    grind
 .unfold F0 at h1
  simp[EH,W.row,h1]
theorem al4(nm:D)(k sz ot own cnt time:Int)(a1 a2 a3:D)(cl:Bool)(val:Int)(qn:Bool)(Q:List W)(hn:Q.length<=1000000):∀(suf pre:List W),Q=pre++suf ->
  ev P (.loop 0 [2,3,39,40] Ev [(2,.d (.ref [nm,I' k,I' sz,I' ot])),(3,.d (.ref [I' own,I' cnt,I' time,a1,qD qn Q,a2,a3,.b cl,I' val])),(39,.d (I' Q.length)),(40,.d (I' pre.length))] []) =
   if eG (fS sz ot cnt) pre suf=true then some (.out (.exit 0) [(3,.d (.ref [I' own,I' cnt,I' time,a1,qD qn Q,a2,a3,.b cl,I' val]))] [])else some (.out .ret [(4,.d (I' 1))] []):=by
 intro suf;induction suf with
 |nil =>
  intro pre hl
  have:Q.length=pre.length:=by simp[hl]
  rw[bS]
  conv=>lhs;arg 4;unfold Ev
  simp[this,eG]
 |cons w suf ih =>
  intro pre hl;have hlt:(pre.length:Int)<Q.length:=by simp[hl];omega
  have hnext:IntKind.i64.wrap ((pre.length:Int)+1)=pre.length+1:=wrap_i64 (by omega) (by omega)
  have bB:=ih (pre++[w]) (by simp[hl])
  have hw:=al3 nm k sz ot own cnt time a1 a2 a3 cl val qn pre w suf (by rw[<-hl];exact hn)
  rw[<-hl]at hw;generalize hR:(if eG (fS sz ot cnt) (pre++[w]) suf=true then some (ej.out (.exit 0) [(3,V.d (.ref [I' own,I' cnt,I' time,a1,qD qn Q,a2,a3,.b cl,I' val]))] [])else some (.out .ret [(4,.d (I' 1))] []))=R at bB
  rw[bS]
  conv=>lhs;arg 4;unfold Ev
  cases hf:fS sz ot cnt pre w
  .rw[hf]at hw
   simp[hlt,hw,eG,hf]
  .rw[hf]at hw
   have hq:eG (fS sz ot cnt) pre (w::suf)=eG (fS sz ot cnt) (pre++[w]) suf:=by simp[eG,hf]
   rw[hq,hR];simp at bB;simp[hlt,hw,hnext];exact bB
def Dw(sz ot:Int)(s:S):Bool:=(!(s.own != -1||decide (s.cnt<0)||decide (sz<s.cnt))&&dY s.Q==0)&&(eG (fS sz ot s.cnt) [] s.Q&&!(s.time != 0||decide ((0:Int)<(s.H.length:Int)+s.B.length+s.C.length)||s.cl||s.val != 0))
theorem al5(nm:D)(k sz ot:Int)(s:S)(hs:s.sm):
  ev P (.call qu [.d (.ag [nm,I' k,I' sz,I' ot]),.d (.ag s.row)] [])=some (.val (.d (I' (ck (iR k sz ot) (Dw sz ot s)))) []):=by
 obtain⟨own,cnt,time,hn,H,qn,Q,bn,B,cn,C,cl,val⟩:=s;obtain⟨h1,h2,h3,h4,_⟩:=hs;simp only at h1 h2 h3 h4;have hw1:IntKind.i64.wrap ((H.length:Int)+B.length)=H.length+B.length:=wrap_i64 (by omega) (by omega)
 have dG:IntKind.i64.wrap ((H.length:Int)+B.length+C.length)=H.length+B.length+C.length:=wrap_i64 (by omega) (by omega)
 have hl:=al4 nm k sz ot own cnt time (hD hn H) (hD bn B) (cD cn C) cl val qn Q (by omega) Q [] rfl
 simp at hl;have hW:=uK qn Q;rw[au XG rfl];unfold ck Dw;cases hm:iR k sz ot==0
 .have hm':iR k sz ot≠0:=by simpa using hm
  have hm2:(iR k sz ot != 0)=true:=by simpa using hm'
  simp[uF,vZ,hm',hm2,bY]
 .have hm':iR k sz ot=0:=by simpa using hm
  cases hA:(own != -1||decide (cnt<0)||decide (sz<cnt))
  .cases hw:dY Q==0
   .have hw':(dY Q != 0)=true:=by rw[bne,hw];rfl
    simp[uF,vZ,hm',grow,hA,hW,hw,hw']
   .have hw':(dY Q != 0)=false:=by rw[bne,hw];rfl
    cases hq:eG (fS sz ot cnt) [] Q
    .rw[hq]at hl
     simp[uF,vZ,hm',grow,hA,hW,hw',hl]
    .rw[hq]at hl
     cases hB:(time != 0||decide ((0:Int)<(H.length:Int)+B.length+C.length)||cl||val != 0)
     .simp[uF,vZ,hm',grow,hA,hw1,dG,hB,hW,hw',hw,hl]
     .simp[uF,vZ,hm',grow,hA,hw1,dG,hB,hW,hw',hw,hl]
  .simp[uF,vZ,hm',grow,hA]
end Go.VS.Sp
namespace Go.VS.Sp
def iD:List Int->List Int->List Int
 |acc,[]=>acc
 |acc,t::r=>if t∈acc then iD acc r else iD (acc++[t]) r
def sM(acc:List Int):List D:=(List.range 16).map fun(k:Nat)=>.b (decide ((k:Int)∈acc))
theorem al6(acc:List Int):(sM acc).length=16:=by simp[sM]
theorem al7(acc:List Int){t:Int}(h:0<=t/\t<16):(sM acc)[t.toNat]?=some (.b (decide (t∈acc))):=by
 have h1:t.toNat<16:=by omega
 have h2:(t.toNat:Int)=t:=by omega
 simp[sM,h1,h2]
theorem al8(acc:List Int){t:Int}(h:0<=t/\t<16):aq (sM acc) t.toNat [.b true]=sM (acc++[t]):=by
 have h1:t.toNat<16:=by omega
 have hl:=al6 acc;have e:aq (sM acc) t.toNat [.b true]=(sM acc).set t.toNat (.b true):=by
  unfold aq;rw[List.set_eq_take_append_cons_drop,aK (by omega)]
  simp
 rw[e];apply List.ext_getElem?;intro i;rw[JZ];by_cases hi:t.toNat=i
 .subst hi
  have h2:(t.toNat:Int)=t:=by omega
  simp[sM,h1,h2]
 .rw[aD hi]
  by_cases oL:i<16
  .have hne:¬(i:Int)=t:=by omega
   simp[sM,oL,hne]
  .simp[sM,oL]
def yu(n:Nat):V:=if n=0 then .d (.sl 1 true [])else .aR 1 0 n
def tX(l:List Int):List O:=if l=[]then[]else[.aG 1 true (bX l)]
theorem al9(nl:Bool)(l:List W)(hn:l.length<=1000000)(ht:∀w∈l,0<=w.task/\w.task<16):∀(suf pre:List W)(acc:List Int),l=pre++suf->acc.length<=pre.length ->
  ev P (.loop 0 [0,3,4,9,10,11] Hu [(0,.d (qD nl l)),(3,.loc 0 0 0),(4,yu acc.length),(9,.d (qD nl l)),(10,.d (I' l.length)),(11,.d (I' pre.length))] ([.aG 16 true [sM acc]]++tX acc)) =
   some (.out (.exit 0) [(4,if iD acc (suf.map W.task)=[]then .d (.sl 1 true [])else .aR 0 0 (iD acc (suf.map W.task)).length)] (tX (iD acc (suf.map W.task)))):=by
 intro suf;induction suf with
 |nil =>
  intro pre acc hl ha
  have:l.length=pre.length:=by simp[hl]
  rw[bS]
  conv=>lhs;arg 4;unfold Hu
  cases acc with
  |nil=>simp[this,iD,yu,tX,ak,cut,an]
  |cons a b=>simp[this,iD,yu,tX,ak,cut,an]
 |cons w suf ih =>
  intro pre acc hl ha;have hg:l[pre.length]?=some w:=by simp[hl]
  have hlt:(pre.length:Int)<l.length:=by simp[hl];omega
  have ama:pre.length<l.length:=by simp[hl]
  have hnext:IntKind.i64.wrap ((pre.length:Int)+1)=pre.length+1:=wrap_i64 (by omega) (by omega)
  have hw:=ht w (by simp[hl])
  have h0:¬w.task<0:=by omega
  have hgt:=al7 acc hw;have hst:=al8 acc hw;have Dd:=al6 acc;have I6:∀h,(sM acc)[w.task.toNat]'h = .b (decide (w.task∈acc)):=λh=>by
   rw[qR h]at hgt;simpa using hgt
  have oL:w.task.toNat+1<=16:=by omega
  rw[gk];by_cases hm:w.task∈acc
  .have bB:=ih (pre++[w]) acc (by simp[hl]) (by simp;omega)
   have hd:iD acc (w.task::suf.map W.task)=iD acc (suf.map W.task):=by simp[iD,hm]
   rw[hd];generalize hR:some (ej.out (.exit 0) [(4,if iD acc (suf.map W.task)=[]then V.d (.sl 1 true [])else V.aR 0 0 (iD acc (suf.map W.task)).length)] (tX (iD acc (suf.map W.task))))=R at bB⊢
   clear hR;simp[hm]at I6;rw[bS]
   conv=>lhs;arg 4;unfold Hu
   cases acc with
   |nil=>simp at hm
   |cons a b =>
    simp[yu,tX]at bB;simp[hlt,hg,W.row,hw.1,hw.2,Dd,I6,hnext,yu,tX,ak,cut,an];exact bB
  .have bB:=ih (pre++[w]) (acc++[w.task]) (by simp[hl]) (by simp;omega)
   have hd:iD acc (w.task::suf.map W.task)=iD (acc++[w.task]) (suf.map W.task):=by simp[iD,hm]
   rw[hd];generalize hR:some (ej.out (.exit 0) [(4,if iD (acc++[w.task]) (suf.map W.task)=[]then V.d (.sl 1 true [])else V.aR 0 0 (iD (acc++[w.task]) (suf.map W.task)).length)] (tX (iD (acc++[w.task]) (suf.map W.task))))=R at bB⊢
   clear hR;simp[hm]at I6;rw[bS]
   conv=>lhs;arg 4;unfold Hu
   cases acc with
   |nil =>
    have hr:1<=room:=by decide
    simp only[mu]at hst;simp[yu,tX]at bB;simp[-aq,hlt,hg,W.row,hw.1,hw.2,I6,hst,Dd,oL,hr,hnext,yu,tX,ak,cut,an];exact bB
   |cons a b =>
    have hr:b.length+1+1<=room:=by simp at ha;unfold room;omega
    simp only[sW]at hst;simp[yu,tX]at bB;simp[-aq,hlt,hg,W.row,hw.1,hw.2,I6,hst,Dd,oL,hr,hnext,yu,tX,ak,cut,an,cz,bk];exact bB
theorem amb(nl:Bool)(l:List W)(hn:l.length<=1000000)(ht:∀w∈l,0<=w.task/\w.task<16):
  ev P (.call GZ [.d (qD nl l)] [])=some (.val (.d (hD (decide (iD [] (l.map W.task)=[])) (iD [] (l.map W.task)))) []):=by
 have hL:=al9 nl l hn ht l [] [] rfl (by simp)
 simp[yu,tX]at hL;have hz:sM []=List.replicate 16 (.b false):=rfl;rw[hz]at hL;generalize iD [] (l.map W.task)=q at *;rw[au ael rfl];cases q with
 |nil =>
  simp at hL;simp[Mc,hL,ak,cut,an]
 |cons a b =>
  simp at hL;simp[Mc,hL,bk,ak,cut,an]
theorem UU:∀(l acc:List Int)(t:Int),iD acc (l++[t])=if t∈iD acc l then iD acc l else iD acc l++[t]
 | [],acc,t=>by simp only[mu,iD];split<;>simp[*]
 |a::r,acc,t=>by
  rw[sW];unfold iD;split
  .exact UU r acc t
  .exact UU r _ t
end Go.VS.Sp
