import Derived.Test.YtjpdopldkeodgaaGreatV10
import Derived.Test.YtjpdopldkeodgaaGreatV09
import Derived.Test.YtjpdopldkeodgaaGreatV08
set_option linter.all false
set_option maxHeartbeats 1000000
namespace Go.VS.R
open Go.VS.Sp
theorem yx{α β:Type}{f:α->β}{l:List α}{x:β}:List.take (l.length+1) (l.map f++[x])=l.map f++[x]:=gC (by simp)
def Vb(n:Int):Bool->List Int->List Int
 |d,[]=>if d=true then[]else[n]
 |d,x::r=>if(!d&&decide (n<x))=true then n::x::Vb n true r else x::Vb n d r
end Go.VS.R
namespace Go.VS.R
open Go.VS.Sp
def rS:Int->List Int->List Sp.W->Int×List Int×List Sp.W×List Sp.W
 |own,H,[]=>(own,H,[],[])
 |own,H,w::r =>
  if anb own H (w::r)=true then
   (
    if w.op=53 then let x:=rS own (Vb w.task false H) r;(x.1,x.2.1,x.2.2.1,w::x.2.2.2)
    else let x:=rS w.task H r;(x.1,x.2.1,x.2.2.1,w::x.2.2.2))
  else(own,H,w::r,[])
abbrev F7(z:Z)(own:Int)(hn:Bool)(H:List Int)(qn:Bool)(Q:List Sp.W)(parked:Bool)(ok:Bool)(kn:Bool)(k:List (List D)):D :=
 .ag [I' own,z.c1,z.c2,hD hn H,qD qn Q,z.c5,z.c6,z.c7,z.c8,.b parked,I' 0,.b ok,.sl 5 kn k]
end Go.VS.R
namespace Go.VS.R
open Go.VS.Sp
theorem anc(z:Z)(own:Int):ev P (.call Cn [.loc 0 0 0] [bM z own])=some (.val (.d (.b (own != -1))) [bM z own]):=by
 rw[au XU rfl];simp[L6,bM,ak,cut,az]
theorem ane(z:Z)(own:Int):ev P (.call Eh [.loc 0 0 0] [bM z own])=some (.val (.d (.b (own == -1))) [bM z own]):=by
 have hW:=anc z own;unfold bM at *;rw[au XT rfl];cases ho:own == -1
 .have fK:(own != -1)=true:=by simp[bne,ho]
  rw[fK]at hW;simp[EG,ak,cut,az,aA,sub,aE,back,hW]
 .have fK:(own != -1)=false:=by simp[bne,ho]
  rw[fK]at hW;simp[EG,ak,cut,az,aA,sub,aE,back,hW]
theorem anf(z:Z)(own t:Int):ev P (.call xL [.loc 0 0 0,.d (I' t),.d (I' 55)] [bM z own])=some (.val (.tu []) [bM z t]):=by
 rw[au HN rfl];simp[CC,bM,ak,cut,az,aq]
theorem ang(z:Z)(own t o:Int)(ho:o≠55):ev P (.call xL [.loc 0 0 0,.d (I' t),.d (I' o)] [bM z own])=some (.val (.tu []) (rR z own none (.inl true) none [[I' t]])):=by
 have hI:=Cd MZ (p:=l5 1) rfl;have fK:(o==55)=false:=by simpa using ho
 have r1:1<=room:=by decide
 rw[au HN rfl];simp[CC,fK,amM,hI,l5,jO,r1,bM,rR,lk,hV,hO,hX,qV,qO,kV,kO,aA,sub,aE,back,ak,cut,aN,aO,cB,cq,an,az,aq]
theorem anh(z:Z)(own:Int):ev P (.call tv [.loc 0 0 0] [bM z own])=some (.val (.tu []) [bM z own]):=by
 have hL:ev P (.loop 1 [0] j7 [(0,.loc 0 0 0)] [bM z own])=some (.out (.exit 0) [] [bM z own]):=by
  rw[bS]
  conv=>lhs;arg 4;unfold j7
  simp[bM,ak,cut]
 rw[au E2 rfl];simp[bM]at hL;simp[AJ,hL,bM,ak,cut,az]
structure Rp where
 own:Int
 H:List Int
 Q:List Sp.W
 parked:Bool
 ok:Bool
 k:List Sp.W
 e:Int
def zr(e:Int):Rp:=⟨0,[],[],false,false,[],e⟩
def zZ(bn cn:Bool):Z:=⟨I' 0,I' 0,hD bn [],cD cn [],.b false,I' 0⟩
def jJ(x:Option ej)(r:Rp):Prop:=∃bn cn hn qn kn,x=some (.val (.tu [.d (F7 (zZ bn cn) r.own hn r.H qn r.Q r.parked r.ok kn (r.k.map wk)),.d (I' r.e)]) [])/\(hn=true->r.H=[])/\(qn=true->r.Q=[])
def jA(own:Int)(H:List Int):List Sp.W->Int×List Int×List Sp.W×List Sp.W
 | []=>(own,H,[],[])
 |w::r =>
  if own≠-1\/(w.op=55/\H≠[])then(own,H,w::r,[])
  else if w.op=55 then(w.task,H,r,[w])
  else(own,iY (eR w.task H) (r.takeWhile λw=>w.op != 55),r.dropWhile λw=>w.op != 55,w::r.takeWhile λw=>w.op != 55)
def jX(t p n:Int):Bool:=!cY t||decide (p<0)||decide (9<p)||decide (n<0)||decide (1099511627776<n)
def vf(own:Int)(H:List Int)(Q:List Sp.W)(o:Int):Bool:=if o=53 then own == -1&&Q.isEmpty else own == -1&&H.isEmpty
def iX(own:Int)(H:List Int)(Q:List Sp.W)(t o p:Int):Rp :=
 if vf own H Q o=true then(if o=55 then⟨t,H,Q,false,true,[],0⟩else⟨own,eR t H,Q,false,true,[],0⟩)else⟨own,H,Q++[⟨t,o,0,p,-1⟩],true,false,[],0⟩
def mZ(own:Int)(H:List Int)(Q:List Sp.W)(t o p n:Int):Rp :=
 if jX t p n=true then zr 2
 else if(decide (o<53)||decide (56<o))=true then zr 8
 else if(Q.any λw=>w.task==t)=true then zr 17
 else if o=53\/o=55 then
  if gX own H t≠0 then zr 17
  else iX own H Q t o p
 else if o=54 then
  if gX own H t≠1 then zr 20
  else let x:=jA own (H.filter λx=>x != t) Q;⟨x.1,x.2.1,x.2.2.1,false,true,x.2.2.2,0⟩
 else
  if gX own H t≠2 then zr 20
  else let x:=jA (-1) H Q;⟨x.1,x.2.1,x.2.2.1,false,true,x.2.2.2,0⟩
abbrev o7(z:Z)(own:Int)(hn:Bool)(H:List Int)(qn:Bool)(Q:List Sp.W):D:=.ag [I' own,z.c1,z.c2,hD hn H,qD qn Q,z.c5,z.c6,z.c7,z.c8]
theorem jJ.zero{x:Option ej}{e:Int}(h:x=some (.val (.tu [.d (.ag [I' 0,I' 0,I' 0,.sl 1 true [],.sl 5 true [],.sl 1 true [],.sl 2 true [],.b false,I' 0,.b false,I' 0,.b false,.sl 5 true []]),.d (I' e)]) [])):jJ x (zr e):=
 ⟨true,true,true,true,true,h,λ_=>rfl,λ_=>rfl⟩
theorem OB(o2:D)(bn cn:Bool)(own:Int)(hn:Bool)(H:List Int)(qn:Bool)(Q:List Sp.W)(t o v p n:Int)(h1:hn=true->H=[])(h2:qn=true->Q=[])(h3:H.length<=1000)(h4:Q.length<=1000)
  (hC:ev P (.call lz [.d o2,.d (o7 (zZ bn cn) own hn H qn Q)] [])=some (.val (.d (I' 0)) []))(fK:∃a b c d,o2 = .ag [a,b,c,d]):
  (jX t p n=true->jJ (ev P (.call pN [.d o2,.d (o7 (zZ bn cn) own hn H qn Q),.d (.ag [I' t,I' o,I' v,I' p,I' n])] [])) (zr 2)) /\
  (jX t p n=false->(decide (o<53)||decide (56<o))=true->jJ (ev P (.call pN [.d o2,.d (o7 (zZ bn cn) own hn H qn Q),.d (.ag [I' t,I' o,I' v,I' p,I' n])] [])) (zr 8)) /\
  (jX t p n=false->(decide (o<53)||decide (56<o))=false->(Q.any λw=>w.task==t)=true->jJ (ev P (.call pN [.d o2,.d (o7 (zZ bn cn) own hn H qn Q),.d (.ag [I' t,I' o,I' v,I' p,I' n])] [])) (zr 17)) /\
  (jX t p n=false->(decide (o<53)||decide (56<o))=false->(Q.any λw=>w.task==t)=false->(o=53\/o=55)->gX own H t≠0->jJ (ev P (.call pN [.d o2,.d (o7 (zZ bn cn) own hn H qn Q),.d (.ag [I' t,I' o,I' v,I' p,I' n])] [])) (zr 17)) /\
  (jX t p n=false->(decide (o<53)||decide (56<o))=false->(Q.any λw=>w.task==t)=false->o=54->gX own H t≠1->jJ (ev P (.call pN [.d o2,.d (o7 (zZ bn cn) own hn H qn Q),.d (.ag [I' t,I' o,I' v,I' p,I' n])] [])) (zr 20)) /\
  (jX t p n=false->(decide (o<53)||decide (56<o))=false->(Q.any λw=>w.task==t)=false->o=56->gX own H t≠2->jJ (ev P (.call pN [.d o2,.d (o7 (zZ bn cn) own hn H qn Q),.d (.ag [I' t,I' o,I' v,I' p,I' n])] [])) (zr 20)):=by
 obtain⟨a,b,c,d,rfl⟩:=fK;have hF:=lD qn Q t (by omega)
 have dW:=F6 (zZ bn cn) own hn H qn Q h1 h2 (by omega) (by omega)
 have hH:=F4 own (I' 0) (I' 0) (qD qn Q) (hD bn []) (cD cn []) (.b false) (I' 0) hn H t (by omega)
 rw[AX]at hF;generalize (ju Q t).1=fi at *;simp only[zZ]at *;refine⟨λhb=>jJ.zero ?_,λhb hr=>jJ.zero ?_,λhb hr hq=>jJ.zero ?_,λhb hr hq ho hh=>jJ.zero ?_,λhb hr hq ho hh=>jJ.zero ?_,λhb hr hq ho hh=>jJ.zero ?_⟩
 .rw[au oI rfl]
  unfold jX at hb;simp[gW,hC,fY,hb,aq]
 .rw[au oI rfl]
  unfold jX at hb;simp[gW,hC,fY,hb,hr,aq]
 .rw[au oI rfl]
  unfold jX at hb;rw[hq]at hF;simp[gW,hC,fY,hb,hr,hF,aq]
 .rw[au oI rfl]
  unfold jX at hb;rw[hq]at hF;have Ds:(gX own H t != 0)=true:=by simpa using hh
  rcases ho with rfl |rfl
  .simp[gW,hC,fY,hb,hr,hF,aJ,dW,hH,Ds,aq]
  .simp[gW,hC,fY,hb,hr,hF,aJ,dW,hH,Ds,aq]
 .rw[au oI rfl]
  unfold jX at hb;rw[hq]at hF;have Ds:(gX own H t != 1)=true:=by simpa using hh
  subst ho;simp[gW,hC,fY,hb,hr,hF,aJ,dW,hH,Ds,aq]
 .rw[au oI rfl]
  unfold jX at hb;rw[hq]at hF;have Ds:(gX own H t != 2)=true:=by simpa using hh
  subst ho;simp[gW,hC,fY,hb,hr,hF,aJ,dW,hH,Ds,aq]
end Go.VS.R
namespace Go.VS.R
open Go.VS.Sp
theorem ani(z:Z)(own:Int)(hn:Bool)(H:List Int)(qn:Bool)(Q:List Sp.W)(h1:hn=true->H=[])(h2:qn=true->Q=[]):
  ev P (.call Eh [.loc 0 0 0] (kf z own hn H qn Q))=some (.val (.d (.b (own == -1&&(H.length:Int)==0))) (kf z own hn H qn Q)):=by
 unfold kf;by_cases h:(hn&&qn)=true
 .rw[aK h]
  have:H=[]:=h1 (by simp at h;exact h.1)
  rw[this,ane];simp
 .rw[aD h]
  rw[Oz,am4 h1]
theorem anj(z:Z)(own:Int)(hn:Bool)(H:List Int)(qn:Bool)(Q:List Sp.W):
  ev P (.call Cn [.loc 0 0 0] (kf z own hn H qn Q))=some (.val (.d (.b (own != -1))) (kf z own hn H qn Q)):=by
 unfold kf;by_cases h:(hn&&qn)=true
 .rw[aK h,anc]
 .rw[aD h,zT]
theorem ank(z:Z)(own t:Int)(hn:Bool)(H:List Int)(qn:Bool)(Q:List Sp.W):
  ev P (.call xL [.loc 0 0 0,.d (I' t),.d (I' 55)] (kf z own hn H qn Q))=some (.val (.tu []) (kf z t hn H qn Q)):=by
 unfold kf;by_cases h:(hn&&qn)=true
 .rw[aK h,aK h,anf]
 .rw[aD h,aD h,U7]
theorem anl(z:Z)(own t o:Int)(hn:Bool)(H:List Int)(qn:Bool)(Q:List Sp.W)(ho:o≠55)(h1:hn=true->H=[])(h2:qn=true->Q=[])(h3:H.length<=1000000)(hA:iU H):
  ev P (.call xL [.loc 0 0 0,.d (I' t),.d (I' o)] (kf z own hn H qn Q))=some (.val (.tu []) (rR z own (hS hn H) (qS qn Q) none (bX (eR t H)))):=by
 unfold kf;cases hn
 .have e:hS false H=some (bX H,H.length):=rfl
  simp only[Aj,eI,dI,e];exact Ji z own t o H (bX H) (qS qn Q) none ho h3 (by simp) (by simp[bX,bk]) hA
 .have:H=[]:=h1 rfl
  subst this;have e0:bX (eR t [])=[[I' t]]:=rfl;rw[e0];cases qn
  .exact U8 z own t o (qS false Q) none ho
  .exact ang z own t o ho
theorem anm(o2:D)(bn cn:Bool)(own:Int)(hn:Bool)(H:List Int)(qn:Bool)(Q:List Sp.W)(t o v p n:Int)(h1:hn=true->H=[])(h2:qn=true->Q=[])(h3:H.length<=1000)(h4:Q.length<=1000)(hA:iU H)
  (hC:ev P (.call lz [.d o2,.d (o7 (zZ bn cn) own hn H qn Q)] [])=some (.val (.d (I' 0)) []))(fK:∃a b c d,o2 = .ag [a,b,c,d])
  (hb:jX t p n=false)(hq:(Q.any λw=>w.task==t)=false)(ho:o=53)(hh:gX own H t=0):
  jJ (ev P (.call pN [.d o2,.d (o7 (zZ bn cn) own hn H qn Q),.d (.ag [I' t,I' o,I' v,I' p,I' n])] [])) (iX own H Q t o p):=by
 obtain⟨a,b,c,d,rfl⟩:=fK;have hF:=lD qn Q t (by omega)
 have dW:=F6 (zZ bn cn) own hn H qn Q h1 h2 (by omega) (by omega)
 have hH:=F4 own (I' 0) (I' 0) (qD qn Q) (hD bn []) (cD cn []) (.b false) (I' 0) hn H t (by omega)
 have jV:=ani (zZ bn cn) own hn H qn Q h1 h2;have kg:=anj (zZ bn cn) own hn H qn Q;rw[AX,hq]at hF;rw[hh]at hH;generalize (ju Q t).1=fi at *;unfold jX at hb;have xg:Q.length+1<=room:=by unfold room;omega
 have r1:1<=room:=by decide
 subst ho;by_cases hp:own = -1/\Q=[]
 .have hL:iX own H Q t 53 p=⟨own,eR t H,Q,false,true,[],0⟩:=by simp[iX,vf,hp]
  rw[hL];obtain⟨rfl,rfl⟩:=hp;have hG:=anl (zZ bn cn) (-1) t 53 hn H qn [] (by decide) h1 h2 (by omega) hA
  refine⟨bn,cn,false,qn,true,?_,by simp,by simp⟩
  simp only[zZ]at *;have oa:=F5 t H;have hit:List.take (H.length+1) (bX (eR t H))=bX (eR t H):=by rw[<-oa];simp[bX,bk]
  rw[au oI rfl];cases hn<;>cases qn<;>simp[kf,bM,c9,rR,lk,hS,qS,hV,hO,hX,qV,qO,kV,kO,oa]at dW jV kg hG
  .simp[gW,hC,fY,hb,hF,aJ,dW,hH,aA,jV,kg,ak,cut,aN,aO,cB,cq,an,sub,aE,back,aq,bk,az]
   rw[au oJ rfl];simp[nx,aA,hG,ak,cut,aN,aO,cB,cq,an,sub,aE,back,aq,bk,az];rw[au oK rfl];simp[ny,oa,hit,aA,ak,cut,aN,aO,cB,cq,an,sub,aE,back,aq,bk,az]
  .simp[gW,hC,fY,hb,hF,aJ,dW,hH,aA,jV,kg,ak,cut,aN,aO,cB,cq,an,sub,aE,back,aq,bk,az]
   rw[au oJ rfl];simp[nx,aA,hG,ak,cut,aN,aO,cB,cq,an,sub,aE,back,aq,bk,az];rw[au oK rfl];simp[ny,oa,hit,aA,ak,cut,aN,aO,cB,cq,an,sub,aE,back,aq,bk,az]
  .simp[gW,hC,fY,hb,hF,aJ,dW,hH,aA,jV,kg,ak,cut,aN,aO,cB,cq,an,sub,aE,back,aq,bk,az]
   rw[au oJ rfl];simp[nx,aA,hG,ak,cut,aN,aO,cB,cq,an,sub,aE,back,aq,bk,az];rw[au oK rfl];simp[ny,oa,hit,aA,ak,cut,aN,aO,cB,cq,an,sub,aE,back,aq,bk,az]
  .simp[gW,hC,fY,hb,hF,aJ,dW,hH,aA,jV,kg,ak,cut,aN,aO,cB,cq,an,sub,aE,back,aq,bk,az]
   rw[au oJ rfl];simp[nx,aA,hG,ak,cut,aN,aO,cB,cq,an,sub,aE,back,aq,bk,az];rw[au oK rfl];simp[ny,oa,hit,aA,ak,cut,aN,aO,cB,cq,an,sub,aE,back,aq,bk,az]
 .have hL:iX own H Q t 53 p=⟨own,H,Q++[⟨t,53,0,p,-1⟩],true,false,[],0⟩:=by
   have:vf own H Q 53=false:=by
    unfold vf;cases h:(own == -1&&Q.isEmpty)
    .simp[h]
    .exact absurd (by simpa using h) hp
   simp[iX,this]
  rw[hL];have hpb:(own != -1)=false->Q≠[]:=by
   intro h1 h2;exact hp ⟨by simpa using h1,h2⟩
  refine⟨bn,cn,hn,false,true,?_,h1,by simp⟩
  simp only[zZ]at *;rw[au oI rfl];cases hw:own != -1
  .have oh:=hpb hw
   have hQ1:((Q.length:Int)==0)=false:=by simpa using oh
   rw[hw]at kg;have jW:qn=false:=by cases qn;rfl;exact absurd (h2 rfl) oh
   subst jW;cases hn<;>simp[kf,bM,c9,lk,hS,qS,hV,hO,qV,qO,kV,kO]at dW jV kg
   .simp[gW,hC,fY,hb,hF,aJ,dW,hH,aA,jV,kg,hQ1,oh,ak,cut,aN,aO,cB,cq,an,sub,aE,back,aq,bk,az]
    rw[au oJ rfl];simp[nx,aA,ak,cut,aN,aO,cB,cq,an,sub,aE,back,aq,bk,az,xg,r1,cz,Sp.W.row,yx];all_goals exact h1 rfl
   .simp[gW,hC,fY,hb,hF,aJ,dW,hH,aA,jV,kg,hQ1,oh,ak,cut,aN,aO,cB,cq,an,sub,aE,back,aq,bk,az]
    rw[au oJ rfl];simp[nx,aA,ak,cut,aN,aO,cB,cq,an,sub,aE,back,aq,bk,az,xg,r1,cz,Sp.W.row,yx];all_goals exact h1 rfl
  .rw[hw]at kg
   cases hn<;>cases qn<;>simp[kf,bM,c9,lk,hS,qS,hV,hO,qV,qO,kV,kO]at dW jV kg
   .simp[gW,hC,fY,hb,hF,aJ,dW,hH,aA,jV,kg,ak,cut,aN,aO,cB,cq,an,sub,aE,back,aq,bk,az]
    rw[au oJ rfl];simp[nx,aA,ak,cut,aN,aO,cB,cq,an,sub,aE,back,aq,bk,az,xg,r1,cz,Sp.W.row,yx];all_goals exact h1 rfl
   .obtain rfl:=h2 rfl
    simp[gW,hC,fY,hb,hF,aJ,dW,hH,aA,jV,kg,ak,cut,aN,aO,cB,cq,an,sub,aE,back,aq,bk,az];rw[au oJ rfl];simp[nx,aA,ak,cut,aN,aO,cB,cq,an,sub,aE,back,aq,bk,az,xg,r1,cz,Sp.W.row,yx];all_goals exact h1 rfl
   .simp[gW,hC,fY,hb,hF,aJ,dW,hH,aA,jV,kg,ak,cut,aN,aO,cB,cq,an,sub,aE,back,aq,bk,az]
    rw[au oJ rfl];simp[nx,aA,ak,cut,aN,aO,cB,cq,an,sub,aE,back,aq,bk,az,xg,r1,cz,Sp.W.row,yx];all_goals exact h1 rfl
   .obtain rfl:=h2 rfl
    simp[gW,hC,fY,hb,hF,aJ,dW,hH,aA,jV,kg,ak,cut,aN,aO,cB,cq,an,sub,aE,back,aq,bk,az];rw[au oJ rfl];simp[nx,aA,ak,cut,aN,aO,cB,cq,an,sub,aE,back,aq,bk,az,xg,r1,cz,Sp.W.row,yx];all_goals exact h1 rfl
theorem ann(o2:D)(bn cn:Bool)(own:Int)(hn:Bool)(H:List Int)(qn:Bool)(Q:List Sp.W)(t o v p n:Int)(h1:hn=true->H=[])(h2:qn=true->Q=[])(h3:H.length<=1000)(h4:Q.length<=1000)(hA:iU H)
  (hC:ev P (.call lz [.d o2,.d (o7 (zZ bn cn) own hn H qn Q)] [])=some (.val (.d (I' 0)) []))(fK:∃a b c d,o2 = .ag [a,b,c,d])
  (hb:jX t p n=false)(hq:(Q.any λw=>w.task==t)=false)(ho:o=55)(hh:gX own H t=0):
  jJ (ev P (.call pN [.d o2,.d (o7 (zZ bn cn) own hn H qn Q),.d (.ag [I' t,I' o,I' v,I' p,I' n])] [])) (iX own H Q t o p):=by
 obtain⟨a,b,c,d,rfl⟩:=fK;have hF:=lD qn Q t (by omega)
 have dW:=F6 (zZ bn cn) own hn H qn Q h1 h2 (by omega) (by omega)
 have hH:=F4 own (I' 0) (I' 0) (qD qn Q) (hD bn []) (cD cn []) (.b false) (I' 0) hn H t (by omega)
 have jV:=ani (zZ bn cn) own hn H qn Q h1 h2;have kg:=anj (zZ bn cn) own hn H qn Q;rw[AX,hq]at hF;rw[hh]at hH;generalize (ju Q t).1=fi at *;unfold jX at hb;have xg:Q.length+1<=room:=by unfold room;omega
 have r1:1<=room:=by decide
 subst ho;by_cases hp:own = -1/\H=[]
 .have hL:iX own H Q t 55 p=⟨t,H,Q,false,true,[],0⟩:=by simp[iX,vf,hp]
  rw[hL];obtain⟨rfl,rfl⟩:=hp;have hG:=ank (zZ bn cn) (-1) t hn [] qn Q;refine⟨bn,cn,hn,qn,true,?_,by simp,h2⟩
  simp only[zZ]at *;rw[au oI rfl];cases hn<;>cases qn<;>simp[kf,bM,c9,rR,lk,hS,qS,hV,hO,hX,qV,qO,kV,kO]at dW jV kg hG
  .simp[gW,hC,fY,hb,hF,aJ,dW,hH,aA,jV,kg,ak,cut,aN,aO,cB,cq,an,sub,aE,back,aq,bk,az]
   rw[au oJ rfl];simp[nx,aA,hG,ak,cut,aN,aO,cB,cq,an,sub,aE,back,aq,bk,az];rw[au oK rfl];simp[ny,aA,ak,cut,aN,aO,cB,cq,an,sub,aE,back,aq,bk,az]
  .obtain rfl:=h2 rfl
   simp[gW,hC,fY,hb,hF,aJ,dW,hH,aA,jV,kg,ak,cut,aN,aO,cB,cq,an,sub,aE,back,aq,bk,az];rw[au oJ rfl];simp[nx,aA,hG,ak,cut,aN,aO,cB,cq,an,sub,aE,back,aq,bk,az];rw[au oK rfl];simp[ny,aA,ak,cut,aN,aO,cB,cq,an,sub,aE,back,aq,bk,az]
  .simp[gW,hC,fY,hb,hF,aJ,dW,hH,aA,jV,kg,ak,cut,aN,aO,cB,cq,an,sub,aE,back,aq,bk,az]
   rw[au oJ rfl];simp[nx,aA,hG,ak,cut,aN,aO,cB,cq,an,sub,aE,back,aq,bk,az];rw[au oK rfl];simp[ny,aA,ak,cut,aN,aO,cB,cq,an,sub,aE,back,aq,bk,az]
  .obtain rfl:=h2 rfl
   simp[gW,hC,fY,hb,hF,aJ,dW,hH,aA,jV,kg,ak,cut,aN,aO,cB,cq,an,sub,aE,back,aq,bk,az];rw[au oJ rfl];simp[nx,aA,hG,ak,cut,aN,aO,cB,cq,an,sub,aE,back,aq,bk,az];rw[au oK rfl];simp[ny,aA,ak,cut,aN,aO,cB,cq,an,sub,aE,back,aq,bk,az]
 .have hL:iX own H Q t 55 p=⟨own,H,Q++[⟨t,55,0,p,-1⟩],true,false,[],0⟩:=by
   have:vf own H Q 55=false:=by
    unfold vf;cases h:(own == -1&&H.isEmpty)
    .simp[h]
    .exact absurd (by simpa using h) hp
   simp[iX,this]
  rw[hL];have lK:(own == -1&&(H.length:Int)==0)=false:=by
   cases h:(own == -1&&(H.length:Int)==0)
   .rfl
   .exact absurd (by simpa using h) hp
  refine⟨bn,cn,hn,false,true,?_,h1,by simp⟩
  simp only[zZ]at *;rw[lK]at jV;rw[au oI rfl];cases hn<;>cases qn<;>simp[kf,bM,c9,lk,hS,qS,hV,hO,qV,qO,kV,kO]at dW jV kg
  .simp[gW,hC,fY,hb,hF,aJ,dW,hH,aA,jV,kg,ak,cut,aN,aO,cB,cq,an,sub,aE,back,aq,bk,az]
   rw[au oJ rfl];simp[nx,aA,ak,cut,aN,aO,cB,cq,an,sub,aE,back,aq,bk,az,xg,r1,cz,Sp.W.row,yx];all_goals exact h1 rfl
  .obtain rfl:=h2 rfl
   simp[gW,hC,fY,hb,hF,aJ,dW,hH,aA,jV,kg,ak,cut,aN,aO,cB,cq,an,sub,aE,back,aq,bk,az];rw[au oJ rfl];simp[nx,aA,ak,cut,aN,aO,cB,cq,an,sub,aE,back,aq,bk,az,xg,r1,cz,Sp.W.row,yx];all_goals exact h1 rfl
  .simp[gW,hC,fY,hb,hF,aJ,dW,hH,aA,jV,kg,ak,cut,aN,aO,cB,cq,an,sub,aE,back,aq,bk,az]
   rw[au oJ rfl];simp[nx,aA,ak,cut,aN,aO,cB,cq,an,sub,aE,back,aq,bk,az,xg,r1,cz,Sp.W.row,yx];all_goals exact h1 rfl
  .obtain rfl:=h2 rfl
   simp[gW,hC,fY,hb,hF,aJ,dW,hH,aA,jV,kg,ak,cut,aN,aO,cB,cq,an,sub,aE,back,aq,bk,az];rw[au oJ rfl];simp[nx,aA,ak,cut,aN,aO,cB,cq,an,sub,aE,back,aq,bk,az,xg,r1,cz,Sp.W.row,yx];all_goals exact h1 rfl
theorem ano(o2:D)(bn cn:Bool)(own:Int)(hn:Bool)(H:List Int)(qn:Bool)(Q:List Sp.W)(t o v p n:Int)(h1:hn=true->H=[])(h2:qn=true->Q=[])(h3:H.length<=1000)(h4:Q.length<=1000)(hA:iU H)
  (hC:ev P (.call lz [.d o2,.d (o7 (zZ bn cn) own hn H qn Q)] [])=some (.val (.d (I' 0)) []))(fK:∃a b c d,o2 = .ag [a,b,c,d])
  (hb:jX t p n=false)(hq:(Q.any λw=>w.task==t)=false)(ho:o=53\/o=55)(hh:gX own H t=0):
  jJ (ev P (.call pN [.d o2,.d (o7 (zZ bn cn) own hn H qn Q),.d (.ag [I' t,I' o,I' v,I' p,I' n])] [])) (iX own H Q t o p):=by
 rcases ho with ho |ho
 .exact anm o2 bn cn own hn H qn Q t o v p n h1 h2 h3 h4 hA hC fK hb hq ho hh
 .exact ann o2 bn cn own hn H qn Q t o v p n h1 h2 h3 h4 hA hC fK hb hq ho hh
end Go.VS.R
namespace Go.VS.R
open Go.VS.Sp
theorem Jm(own:Int)(H:List Int)(w:Sp.W)(r:List Sp.W):jA own H (w::r) =
  if own≠-1\/(w.op=55/\H≠[])then(own,H,w::r,[])
  else if w.op=55 then(w.task,H,r,[w])
  else(own,iY (eR w.task H) (r.takeWhile λw=>w.op != 55),r.dropWhile λw=>w.op != 55,w::r.takeWhile λw=>w.op != 55):=rfl
theorem anp(z:Z)(own:Int) (Hs)(l:List Int) (Qs)(Q:List Sp.W)(hH:hL Hs l)(hQ:(∃nl,Qs = .inl nl/\Q=[])\/Qs = .inr (Q.map Sp.W.row,0,Q.length))(hA:iU l)(h1:l.length<=1000)(h2:Q.length<=1000)(ht:∀w,w∈Q->w.task≠-1):
  (jA own l Q=(own,l,Q,[])/\ev P (.call tv [.loc 0 0 0] (c9 z own Hs Qs none))=some (.val (.tu []) (c9 z own Hs Qs none))) \/
  (∃w r,Q=w::r/\Qs = .inr (Q.map Sp.W.row,0,Q.length)/\own = -1/\l=[]/\jA own l Q=(w.task,l,r,[w]) /\
   ev P (.call tv [.loc 0 0 0] (c9 z own Hs Qs none))=some (.val (.tu []) (og z w.task Hs ((w::r).map Sp.W.row) r (wk w)))) \/
  (∃w r tk dk l',Q=w::r/\Qs = .inr (Q.map Sp.W.row,0,Q.length)/\own = -1/\r=tk++dk/\jA own l Q=(own,l',dk,w::tk)/\l'≠[] /\
   ev P (.call tv [.loc 0 0 0] (c9 z own Hs Qs none))=some (.val (.tu []) (jK z (-1) (hX Hs) ((w::r).map Sp.W.row) (1+tk.length) dk l' (wk w::tk.map wk)))):=by
 have FZ:hlen Hs=l.length:=by
  rcases Hs with _ |⟨R,n⟩
  .obtain rfl:l=[]:=hH
   rfl
  .exact hH.1
 rcases hQ with⟨nl,rfl,rfl⟩ |rfl
 .exact .inl ⟨rfl,amY z own Hs nl⟩
 .cases Q with
  |nil=>exact .inl ⟨rfl,amZ z own Hs []⟩
  |cons w r =>
   by_cases hs:own≠-1\/(w.op=55/\hlen Hs≠0)
   .refine .inl ⟨?_,am0 z own Hs w r hs⟩
    rw[Jm];rw[aK];rcases hs with hs |⟨yq,wT⟩
    .exact .inl hs
    .exact .inr ⟨yq,λh=>by rw[FZ,h]at wT;exact wT rfl⟩
   .have ho:own = -1:=vC λh=>hs (.inl h)
    subst ho;have hs':¬((-1:Int)≠-1\/(w.op=55/\l≠[])):=by
     intro h;rcases h with h |⟨h1,h2⟩
     .exact h rfl
     .apply hs
      refine .inr ⟨h1,?_⟩;rw[FZ];intro h;exact h2 (xy.1 h)
    by_cases lH:w.op=55
    .have zE:hlen Hs=0:=vC λh=>hs (.inr ⟨lH,h⟩)
     have sL:l=[]:=by rw[FZ]at zE;exact xy.1 zE
     refine .inr (.inl ⟨w,r,rfl,rfl,rfl,sL,?_,am1 z Hs w r lH zE (ht w (by simp))⟩)
     rw[Jm];rw[aD hs',aK lH]
    .refine .inr (.inr ⟨w,r,r.takeWhile λw=>w.op != 55,r.dropWhile λw=>w.op != 55,iY (eR w.task l) (r.takeWhile λw=>w.op != 55),rfl,rfl,rfl,(PF).symm,?_,?_,am2 z Hs l w r lH hH hA h1 (by simp at h2;omega)⟩)
     .rw[Jm]
      rw[aD hs',aD lH]
     .have:∀(q:List Sp.W)(m:List Int),m≠[]->iY m q≠[]:=by
       intro q;induction q with
       |nil=>intro m hm;exact hm
       |cons a q ih =>
        intro m hm;refine ih _ ?_;intro h;have h':eR a.task m=[]:=h;have:=F5 a.task m;rw[h']at this;simp at this
      refine this _ _ ?_;intro h;have:=F5 w.task l;rw[h]at this;simp at this
theorem anq(k:Nat):1+(k+1)<=k+1+1:=by omega
theorem anr{w:Sp.W}{tk dk:List Sp.W}:(((w::(tk++dk)).map Sp.W.row).drop (1+tk.length)).take dk.length=dk.map Sp.W.row/\1+tk.length+dk.length<=((w::(tk++dk)).map Sp.W.row).length:=by
 have:(w::(tk++dk)).map Sp.W.row=(w::tk).map Sp.W.row++dk.map Sp.W.row:=by simp
 rw[this];constructor
 .rw[DY (by simp;omega)]
  exact gC (by simp)
 .simp;omega
theorem ans(o2:D)(bn cn:Bool)(own:Int)(H:List Int)(qn:Bool)(Q:List Sp.W)(t v p n:Int)(h2:qn=true->Q=[])(h3:H.length<=1000)(h4:Q.length<=1000)(hA:iU H)(ht:∀w,w∈Q->w.task≠-1)
  (hC:ev P (.call lz [.d o2,.d (o7 (zZ bn cn) own false H qn Q)] [])=some (.val (.d (I' 0)) []))(fK:∃a b c d,o2 = .ag [a,b,c,d])
  (hb:jX t p n=false)(hq:(Q.any λw=>w.task==t)=false)(hh:gX own H t=1):
  jJ (ev P (.call pN [.d o2,.d (o7 (zZ bn cn) own false H qn Q),.d (.ag [I' t,I' 54,I' v,I' p,I' n])] [])) (let x:=jA own (H.filter λx=>x != t) Q;⟨x.1,x.2.1,x.2.2.1,false,true,x.2.2.2,0⟩):=by
 obtain⟨a,b,c,d,rfl⟩:=fK;have hF:=lD qn Q t (by omega)
 have dW:=F6 (zZ bn cn) own false H qn Q (by simp) h2 (by omega) (by omega)
 have hH:=F4 own (I' 0) (I' 0) (qD qn Q) (hD bn []) (cD cn []) (.b false) (I' 0) false H t (by omega)
 rw[AX,hq]at hF;rw[hh]at hH;generalize (ju Q t).1=fi at *;unfold jX at hb;obtain⟨R',k1,k2,F8⟩:=amU (f:=KK) (first:=[]) (caps:=[.ref [I' t,I' 54,I' v,I' p,I' n]]) (p:=λx=>x==t) H (by omega) (λx=>amV t 54 v p n x)
 have Ub:(H.filter λw=>!(w==t))=H.filter λx=>x != t:=rfl
 rw[Ub]at k1 k2 F8;have hfl:(H.filter λx=>x != t).length<=H.length:=vw _ _
 have hAf:iU (H.filter λx=>x != t):=hA.sublist BW
 have dS:H.map mg=bX H:=rfl;rw[dS]at F8;have TS:(H.filter λx=>x != t).map mg=bX (H.filter λx=>x != t):=rfl
 rw[TS]at k2;generalize (H.filter λx=>x != t)=F at *
 have gq:=anp (zZ bn cn) own (some (R',F.length)) F (qS qn Q) Q ⟨rfl,k1,k2⟩ (by cases qn;exact .inr rfl;exact .inl ⟨true,rfl,h2 rfl⟩) hAf (by omega) h4 ht
 rcases gq with⟨e,gq⟩ |⟨w,r,rfl,Vc,rfl,rfl,e,gq⟩ |⟨w,r,tk,dk,l',rfl,Vc,rfl,rfl,e,sL,gq⟩
 .rw[e]
  refine⟨bn,cn,false,qn,true,?_,by simp,h2⟩
  simp only[zZ]at *;rw[au oI rfl];cases qn<;>simp[kf,c9,og,jK,lk,hS,qS,hV,hO,hX,qV,qO,kV,kO,iM]at dW gq
  .simp[gW,hC,fY,hb,hF,aJ,dW,hH,aA,F8,gq,ak,cut,aN,aO,cB,cq,an,sub,aE,back,aq,bk,az]
   rw[au oK rfl];simp[ny,aA,k1,k2,ak,cut,aN,aO,cB,cq,an,sub,aE,back,aq,bk,az]
  .obtain rfl:=h2 rfl
   simp[gW,hC,fY,hb,hF,aJ,dW,hH,aA,F8,gq,ak,cut,aN,aO,cB,cq,an,sub,aE,back,aq,bk,az];rw[au oK rfl];simp[ny,aA,k1,k2,ak,cut,aN,aO,cB,cq,an,sub,aE,back,aq,bk,az]
 .rw[e]
  have jW:qn=false:=by cases qn;rfl;exact absurd (h2 rfl) (by simp)
  subst jW;refine⟨bn,cn,false,false,false,?_,by simp,by simp⟩
  simp only[zZ]at *;rw[au oI rfl];cases r<;>simp[kf,c9,og,jK,lk,hS,qS,hV,hO,hX,qV,qO,kV,kO,iM]at dW gq <;>
  .simp[gW,hC,fY,hb,hF,aJ,dW,hH,aA,F8,gq,ak,cut,aN,aO,cB,cq,an,sub,aE,back,aq,bk,az]
   rw[au oK rfl];simp[ny,aA,k1,k2,anq,ak,cut,aN,aO,cB,cq,an,sub,aE,back,aq,bk,az]
 .rw[e]
  have jW:qn=false:=by cases qn;rfl;exact absurd (h2 rfl) (by simp)
  subst jW;obtain⟨g1,g2⟩:=anr (w:=w) (tk:=tk) (dk:=dk);refine⟨bn,cn,false,false,false,?_,by simp,by simp⟩
  simp only[zZ]at *;rw[au oI rfl];generalize CY:w::(tk++dk)=QQ at *;generalize hSS:QQ.map Sp.W.row=S at *;cases dk<;>simp[kf,c9,og,jK,lk,hS,qS,hV,hO,hX,qV,qO,kV,kO,iM]at dW gq g1 g2 <;>
  .simp[gW,hC,fY,hb,hF,aJ,dW,hH,aA,F8,gq,ak,cut,aN,aO,cB,cq,an,sub,aE,back,aq,bk,az]
   rw[au oK rfl];simp[ny,aA,k1,k2,g1,g2,ak,cut,aN,aO,cB,cq,an,sub,aE,back,aq,bk,az]
end Go.VS.R
namespace Go.VS.R
open Go.VS.Sp
theorem ant(o2:D)(bn cn:Bool)(own:Int)(hn:Bool)(qn:Bool)(Q:List Sp.W)(t v p n:Int)(h2:qn=true->Q=[])(h4:Q.length<=1000)(ht:∀w,w∈Q->w.task≠-1)
  (hC:ev P (.call lz [.d o2,.d (o7 (zZ bn cn) own hn [] qn Q)] [])=some (.val (.d (I' 0)) []))(fK:∃a b c d,o2 = .ag [a,b,c,d])
  (hb:jX t p n=false)(hq:(Q.any λw=>w.task==t)=false)(hh:gX own [] t=2):
  jJ (ev P (.call pN [.d o2,.d (o7 (zZ bn cn) own hn [] qn Q),.d (.ag [I' t,I' 56,I' v,I' p,I' n])] [])) (let x:=jA (-1) [] Q;⟨x.1,x.2.1,x.2.2.1,false,true,x.2.2.2,0⟩):=by
 obtain⟨a,b,c,d,rfl⟩:=fK;have hF:=lD qn Q t (by omega)
 have dW:=F6 (zZ bn cn) own hn [] qn Q (by simp) h2 (by simp) (by omega)
 have hH:=F4 own (I' 0) (I' 0) (qD qn Q) (hD bn []) (cD cn []) (.b false) (I' 0) hn [] t (by simp)
 rw[AX,hq]at hF;rw[hh]at hH;generalize (ju Q t).1=fi at *;unfold jX at hb;by_cases F9:(hn&&qn)=true
 .have e1:hn=true:=by simp at F9;exact F9.1
  have e2:qn=true:=by simp at F9;exact F9.2
  subst e1;subst e2;obtain rfl:=h2 rfl;have gq:=anh (zZ bn cn) (-1);refine⟨bn,cn,true,true,true,?_,by simp[jA],by simp[jA]⟩
  simp only[zZ]at *;rw[au oI rfl];simp[kf,bM]at dW gq;simp[gW,hC,fY,hb,hF,aJ,dW,hH,aA,gq,ak,cut,aN,aO,cB,cq,an,sub,aE,back,aq,bk,az];rw[au oK rfl];simp[ny,aA,jA,ak,cut,aN,aO,cB,cq,an,sub,aE,back,aq,bk,az]
 .have zE:kf (zZ bn cn) own hn [] qn Q=c9 (zZ bn cn) own (hS hn []) (qS qn Q) none:=by unfold kf;rw[aD F9]
  rw[zE]at dW;have gq:=anp (zZ bn cn) (-1) (hS hn []) [] (qS qn Q) Q (am3 (by simp)) (by cases qn;exact .inr rfl;exact .inl ⟨true,rfl,h2 rfl⟩) List.Pairwise.nil (by simp) h4 ht
  rcases gq with⟨e,gq⟩ |⟨w,r,rfl,Vc,_,_,e,gq⟩ |⟨w,r,tk,dk,l',rfl,Vc,_,rfl,e,sL,gq⟩
  .rw[e]
   refine⟨bn,cn,hn,qn,true,?_,by simp,h2⟩
   simp only[zZ]at *;rw[au oI rfl];cases hn<;>cases qn<;>simp[c9,og,jK,lk,hS,qS,hV,hO,hX,qV,qO,kV,kO,iM]at dW gq
   .simp[gW,hC,fY,hb,hF,aJ,dW,hH,aA,gq,ak,cut,aN,aO,cB,cq,an,sub,aE,back,aq,bk,az]
    rw[au oK rfl];simp[ny,aA,ak,cut,aN,aO,cB,cq,an,sub,aE,back,aq,bk,az]
   .obtain rfl:=h2 rfl
    simp[gW,hC,fY,hb,hF,aJ,dW,hH,aA,gq,ak,cut,aN,aO,cB,cq,an,sub,aE,back,aq,bk,az];rw[au oK rfl];simp[ny,aA,ak,cut,aN,aO,cB,cq,an,sub,aE,back,aq,bk,az]
   .simp[gW,hC,fY,hb,hF,aJ,dW,hH,aA,gq,ak,cut,aN,aO,cB,cq,an,sub,aE,back,aq,bk,az]
    rw[au oK rfl];simp[ny,aA,ak,cut,aN,aO,cB,cq,an,sub,aE,back,aq,bk,az]
   .simp at F9
  .rw[e]
   have jW:qn=false:=by cases qn;rfl;exact absurd (h2 rfl) (by simp)
   subst jW;refine⟨bn,cn,hn,false,false,?_,by simp,by simp⟩
   simp only[zZ]at *;rw[au oI rfl];cases hn<;>cases r<;>simp[c9,og,jK,lk,hS,qS,hV,hO,hX,qV,qO,kV,kO,iM]at dW gq <;>
   .simp[gW,hC,fY,hb,hF,aJ,dW,hH,aA,gq,ak,cut,aN,aO,cB,cq,an,sub,aE,back,aq,bk,az]
    rw[au oK rfl];simp[ny,aA,anq,ak,cut,aN,aO,cB,cq,an,sub,aE,back,aq,bk,az]
  .rw[e]
   have jW:qn=false:=by cases qn;rfl;exact absurd (h2 rfl) (by simp)
   subst jW;obtain⟨g1,g2⟩:=anr (w:=w) (tk:=tk) (dk:=dk);refine⟨bn,cn,false,false,false,?_,by simp,by simp⟩
   simp only[zZ]at *;rw[au oI rfl];generalize CY:w::(tk++dk)=QQ at *;generalize hSS:QQ.map Sp.W.row=S at *;cases hn<;>cases dk<;>simp[c9,og,jK,lk,hS,qS,hV,hO,hX,qV,qO,kV,kO,iM]at dW gq g1 g2 <;>
   .simp[gW,hC,fY,hb,hF,aJ,dW,hH,aA,gq,ak,cut,aN,aO,cB,cq,an,sub,aE,back,aq,bk,az]
    rw[au oK rfl];simp[ny,aA,g1,g2,ak,cut,aN,aO,cB,cq,an,sub,aE,back,aq,bk,az]
end Go.VS.R
namespace Go.VS.R
open Go.VS.Sp
theorem Ga{t x:Int}{l:List Int}:x∈eR t l↔x=t\/x∈l:=by
 unfold eR;rw[dj,dA]
 have:x∈l↔x∈l.take (bI t l)\/x∈l.drop (bI t l):=by
  rw[<-List.mem_append,Al]
 rw[this];constructor
 .rintro(h |h |h)
  .exact .inr (.inl h)
  .exact .inl h
  .exact .inr (.inr h)
 .rintro(h |h |h)
  .exact .inr (.inl h)
  .exact .inl h
  .exact .inr (.inr h)
structure OC(own:Int)(H:List Int)(Q:List Sp.W):Prop where
 op:∀w,w∈Q->w.op=53\/w.op=55
 pos:∀w,w∈Q->0<=w.task
 zV:∀w,w∈Q->w.task∉H
 By:Q.Pairwise λa b=>a.task≠b.task
theorem OC.sub{own mh:Int}{H H':List Int}{Q Q':List Sp.W}(h:OC own H Q)(hs:Q'.Sublist Q)(hH:∀x,x∈H'->x∈H):OC mh H' Q' :=
 ⟨λw hw=>h.op w (hs.mem hw),λw hw=>h.pos w (hs.mem hw),λw hw hx=>h.zV w (hs.mem hw) (hH _ hx),h.By.sublist hs⟩
structure MV(own:Int)(H:List Int)(Q:List Sp.W):Prop where
 ow:own = -1\/(cY own=true/\H=[])
 vh:vh [] H=true
 wc:dY Q=0
 qc:p9 own H [] Q=true
 st:stay own H Q=true
theorem Jg{own cnt time:Int}{H:List Int}{Q:List Sp.W}{B:List Int}{C:List (List D)}{cl:Bool}{val:Int}:
  jI own cnt time H Q B C cl val=true↔MV own H Q/\cnt=0/\time=0/\B=[]/\C=[]/\cl=false/\val=0:=by
 unfold jI OA;constructor
 .intro h
  simp at h;obtain⟨⟨⟨⟨⟨⟨⟨a1,a2⟩,a3⟩,a4⟩,a5⟩,a6⟩,a7⟩,b1,b2,b3,b4⟩:=h;refine⟨⟨?_,b1,b2,b3,b4⟩,a2,a3,a4,a5,a6,a7⟩;exact a1
 .rintro⟨⟨h1,h2,h3,h4,h5⟩,rfl,rfl,rfl,rfl,rfl,rfl⟩
  simp[h2,h3,h4,h5];exact h1
theorem OD{own:Int}{H:List Int}:∀{suf pre:List Sp.W},p9 own H pre suf=true↔(∀w,w∈suf->xe own H w=false)/\suf.Pairwise (λa b=>a.task≠b.task)/\(∀a,a∈pre->∀b,b∈suf->a.task≠b.task)
 | [],pre=>by simp[p9]
 |w::r,pre=>by
  have e1:p9 own H pre (w::r)=(!pre.any (λx=>x.task==w.task)&&!xe own H w&&p9 own H (pre++[w]) r):=rfl
  rw[e1];have ih:=@OD own H r (pre++[w]);have ha:(!pre.any (λx=>x.task==w.task))=true↔∀a,a∈pre->a.task≠w.task:=by
   simp
  rw[bJ,bJ,ih,ha];constructor
  .rintro⟨⟨h1,h2⟩,h3,h4,h5⟩
   have h2:xe own H w=false:=by simpa using h2
   refine⟨?_,gH.2 ⟨λb hb=>h5 w (by simp) b hb,h4⟩,?_⟩
   .intro x hx
    rcases dA.1 hx with e |hx
    .rw[e];exact h2
    .exact h3 x hx
   .intro a ha b hb
    rcases dA.1 hb with e |hb
    .rw[e];exact h1 a ha
    .exact h5 a (by simp[ha]) b hb
  .rintro⟨h1,h2,h3⟩
   rw[gH]at h2;refine⟨⟨λa ha=>h3 a ha w (by simp),by simp[h1 w (by simp)]⟩,λx hx=>h1 x (by simp[hx]),h2.2,?_⟩
   intro a ha b hb;rcases dj.1 ha with ha |ha
   .exact h3 a ha b (by simp[hb])
   .simp at ha;rw[ha];exact h2.1 b hb
theorem MV.rE{own:Int}{H:List Int}{Q:List Sp.W}(h:MV own H Q):iU H:=am9 h.vh
theorem Jn{own:Int}{H:List Int}{t:Int}(ht:0<=t):gX own H t=0↔t≠own/\t∉H:=by
 unfold gX;by_cases h1:t=own
 .simp[ht,h1];omega
 .by_cases h2:t∈H<;>simp[h1,h2]
theorem MV.qok{own:Int}{H:List Int}{Q:List Sp.W}(h:MV own H Q):OC own H Q:=by
 obtain⟨h1,h2⟩:=HV h.wc;obtain⟨q1,q2,_⟩:=OD.1 h.qc;refine⟨λw hw=>?_,λw hw=>(sy (h2 w hw)).1,λw hw=>?_,q2⟩
 .have:=q1 w hw
  unfold xe at this;by_cases CX:w.op=53
  .exact .inl CX
  .right
   simp[CX]at this;exact this.1.1.1
 .have:=q1 w hw
  unfold xe at this;simp at this;exact((Jn (sy (h2 w hw)).1).1 this.2).2
theorem MV.task{own:Int}{H:List Int}{Q:List Sp.W}(h:MV own H Q):∀w,w∈Q->w.task≠-1:=λw hw=>by
 have:=h.qok.pos w hw;omega
theorem MV.free{H:List Int}{Q:List Sp.W}(h:MV (-1) H Q)(hH:H=[]):Q=[]:=by
 cases Q with
 |nil=>rfl
 |cons w r =>
  have:=h.st;simp[stay,hH]at this
def fM(k sz ot own cnt time:Int)(H:List Int)(Q:List Sp.W)(B:List Int)(C:List (List D))(cl:Bool)(val:Int):Int :=
 if dQ k sz ot=0 then(if jI own cnt time H Q B C cl val then 0 else 1)else dQ k sz ot
theorem anu{k sz ot own cnt time:Int}{H:List Int}{Q:List Sp.W}{B:List Int}{C:List (List D)}{cl:Bool}{val:Int}(h:fM k sz ot own cnt time H Q B C cl val=0):
  MV own H Q/\cnt=0/\time=0/\B=[]/\C=[]/\cl=false/\val=0:=by
 unfold fM at h;by_cases hm:dQ k sz ot=0
 .rw[aK hm]at h
  cases hv:jI own cnt time H Q B C cl val
  .rw[hv]at h;simp at h
  .exact Jg.1 hv
 .rw[aD hm]at h;exact absurd h hm
abbrev stF(own cnt time:Int)(hn:Bool)(H:List Int)(qn:Bool)(Q:List Sp.W)(bn:Bool)(B:List Int)(cn:Bool)(C:List (List D))(cl:Bool)(val:Int):D :=
 .ag [I' own,I' cnt,I' time,hD hn H,qD qn Q,hD bn B,cD cn C,.b cl,I' val]
theorem Vd(nm:D)(k sz ot:Int)(own cnt time:Int)(hn:Bool)(H:List Int)(qn:Bool)(Q:List Sp.W)(bn:Bool)(B:List Int)(cn:Bool)(C:List (List D))(cl:Bool)(val:Int)(t o v p n:Int)
  (hh:hn=true->H=[])(hq:qn=true->Q=[])(h1:H.length<=1000)(h2:Q.length<=1000):
  jJ (ev P (.call pN [.d (.ag [nm,I' k,I' sz,I' ot]),.d (stF own cnt time hn H qn Q bn B cn C cl val),.d (.ag [I' t,I' o,I' v,I' p,I' n])] []))
   (if fM k sz ot own cnt time H Q B C cl val=0 then mZ own H Q t o p n else zr 1):=by
 have hC:=qy nm k sz ot own cnt time hn H qn Q bn B cn C cl val hh hq h1 (by omega)
 by_cases hc:fM k sz ot own cnt time H Q B C cl val=0
 .obtain⟨hM,rfl,rfl,rfl,rfl,rfl,rfl⟩:=anu hc
  have xT:ev P (.call lz [.d (.ag [nm,I' k,I' sz,I' ot]),.d (o7 (zZ bn cn) own hn H qn Q)] [])=some (.val (.d (I' 0)) []):=by
   have:fM k sz ot own 0 0 H Q [] [] false 0=(if dQ k sz ot=0 then(if jI own 0 0 H Q [] [] false 0 then 0 else 1)else dQ k sz ot):=rfl
   rw[<-this,hc]at hC;exact hC
  rw[aK hc];have fK:∃a b c d,(.ag [nm,I' k,I' sz,I' ot]:D) = .ag [a,b,c,d]:=⟨_,_,_,_,rfl⟩;obtain⟨e1,e2,e3,e4,e5,e6⟩:=OB _ bn cn own hn H qn Q t o v p n hh hq h1 h2 xT fK;unfold mZ;cases hb:jX t p n
  .rw[aD (by simp)]
   cases hr:(decide (o<53)||decide (56<o))
   .rw[aD (by simp)]
    cases hw:Q.any λw=>w.task==t
    .rw[aD (by simp)]
     by_cases hl:o=53\/o=55
     .rw[aK hl]
      by_cases hz:gX own H t=0
      .rw[aD (by simp[hz])]
       exact ano _ bn cn own hn H qn Q t o v p n hh hq h1 h2 hM.rE xT fK hb hw hl hz
      .rw[aK hz]
       exact e4 hb hr hw hl hz
     .rw[aD hl]
      by_cases xW:o=54
      .rw[aK xW]
       by_cases hz:gX own H t=1
       .rw[aD (by simp[hz])]
        subst xW;have hn0:hn=false:=by
         cases hn
         .rfl
         .rw[hh rfl]at hz
          unfold gX at hz;split at hz
          .exact absurd hz (by decide)
          .simp at hz
        subst hn0;exact ans _ bn cn own H qn Q t v p n hq h1 h2 hM.rE hM.task xT fK hb hw hz
       .rw[aK hz]
        exact e5 hb hr hw xW hz
      .rw[aD xW]
       have Ia:o=56:=by
        simp at hr;omega
       by_cases hz:gX own H t=2
       .rw[aD (by simp[hz])]
        subst Ia;have hH:H=[]:=by
         rcases hM.ow with ho |⟨_,ho⟩
         .unfold gX at hz
          split at hz
          .rename_i h
           simp at h;omega
          .split at hz<;>exact absurd hz (by decide)
         .exact ho
        subst hH;exact ant _ bn cn own hn qn Q t v p n hq h2 hM.task xT fK hb hw hz
       .rw[aK hz]
        exact e6 hb hr hw Ia hz
    .rw[aK rfl]
     exact e3 hb hr hw
   .rw[aK rfl]
    exact e2 hb hr
  .rw[aK rfl]
   exact e1 hb
 .rw[aD hc]
  have gK:(fM k sz ot own cnt time H Q B C cl val != 0)=true:=by simpa using hc
  have hC3:ev P (.call lz [.d (.ag [nm,I' k,I' sz,I' ot]),.d (.ag [I' own,I' cnt,I' time,hD hn H,qD qn Q,hD bn B,cD cn C,.b cl,I' val])] [])=some (.val (.d (I' (fM k sz ot own cnt time H Q B C cl val))) []):=hC;generalize fM k sz ot own cnt time H Q B C cl val=ck at *;refine jJ.zero ?_;rw[au oI rfl];simp[gW,hC3,gK,aq]
end Go.VS.R
namespace Go.VS.R
open Go.VS.Sp
theorem Sp.W.neq{w w':Sp.W}(h:¬w=w'):(!w.task==w'.task||(!w.op==w'.op||(!w.value==w'.value||(!w.prio==w'.prio||!w.case==w'.case))))=true:=by
 cases hb:(!w.task==w'.task||(!w.op==w'.op||(!w.value==w'.value||(!w.prio==w'.prio||!w.case==w'.case))))
 .exfalso;apply h
  simp at hb;cases w;cases w';simp at hb⊢;exact hb
 .rfl
end Go.VS.R
namespace Go.VS.R
open Go.VS.Sp
end Go.VS.R
namespace Go.VS.R
open Go.VS.Sp
end Go.VS.R
namespace Go.VS.R
open Go.VS.Sp
end Go.VS.R
namespace Go.VS.R
open Go.VS.Sp
def gF(l:List Int):Prop:=l.Pairwise (·<·)
theorem gF.rE{l:List Int}(h:gF l):iU l:=List.Pairwise.imp (λh=>PE h) h
theorem OE{t:Int}{l:List Int}(h:gF l)(ht:t∉l):gF (eR t l):=by
 obtain⟨h1,h2⟩:=U9 t h.rE;have h2':∀x,x∈l.drop (bI t l)->t<x:=λx hx=>by
  have:=h2 x hx;have hne:x≠t:=λe=>ht (by rw[<-e];exact mO hx)
  omega
 unfold eR gF;rw[oz];refine⟨h.sublist (List.take_sublist _ _),gH.2 ⟨h2',h.sublist (List.drop_sublist _ _)⟩,?_⟩;intro a ha b hb;rcases dA.1 hb with rfl |hb
 .exact h1 a ha
 .exact Int.lt_trans (h1 a ha) (h2' b hb)
theorem anv:∀{suf pre:List Int},vh pre suf=true↔(∀x,x∈suf->cY x=true)/\(pre.getLast?.toList++suf).Pairwise (·<·)
 | [],pre=>by cases h:pre.getLast?<;>simp[vh]
 |x::r,pre=>by
  have e1:vh pre (x::r)=(!(!cY x||pre.getLast?.any (λy=>decide (x<=y)))&&vh (pre++[x]) r):=rfl
  rw[e1,bJ,anv];have hl:(pre++[x]).getLast?=some x:=by simp
  rw[hl];cases hp:pre.getLast? with
  |none =>
   simp;exact⟨fun⟨h1,h2,h3⟩=>⟨⟨h1,h2⟩,h3⟩,fun⟨⟨h1,h2⟩,h3⟩=>⟨h1,h2,h3⟩⟩
  |some p =>
   simp;constructor
   .rintro⟨⟨h1,h2⟩,h3,h4,h5⟩
    exact⟨⟨h1,h3⟩,⟨h2,λy hy=>Int.lt_trans h2 (h4 y hy)⟩,h4,h5⟩
   .rintro⟨⟨h1,h3⟩,⟨h2,_⟩,h4,h5⟩
    exact⟨⟨h1,h2⟩,h3,h4,h5⟩
theorem Ve{H:List Int}:vh [] H=true↔(∀x,x∈H->cY x=true)/\gF H:=by
 rw[anv];simp[gF]
theorem yy{Q:List Sp.W}:dY Q=0↔Q.length<=96/\∀w,w∈Q->dO w=true:=by
 constructor
 .exact HV
 .rintro⟨h1,h2⟩
  rw[<-ana];unfold Va;rw[aD (by omega),aK (by simpa using h2)]
structure Gb(own:Int)(H:List Int)(w:Sp.W):Prop where
 v:dO w=true
 op:w.op=53\/w.op=55
 val:w.value=0
 cs:w.case = -1
 no:w.task≠own
 zV:w.task∉H
theorem anw{own:Int}{H:List Int}{w:Sp.W}(hv:dO w=true):xe own H w=false↔Gb own H w:=by
 have ht:=(sy hv).1;unfold xe;constructor
 .intro h
  simp at h;obtain⟨⟨⟨h1,h2⟩,h3⟩,h4⟩:=h;obtain⟨h5,h6⟩:=(Jn ht).1 h4;exact⟨hv,by by_cases h:w.op=53;exact .inl h;exact .inr (by simpa[h]using h1),h2,h3,h5,h6⟩
 .rintro⟨_,h1,h2,h3,h4,h5⟩
  have:=(Jn ht).2 ⟨h4,h5⟩;rcases h1 with h1 |h1<;>simp[h1,h2,h3,this]
theorem zW{own:Int}{H:List Int}{Q:List Sp.W}:MV own H Q↔(own = -1\/(cY own=true/\H=[]))/\(∀x,x∈H->cY x=true)/\gF H/\Q.length<=96/\(∀w,w∈Q->Gb own H w)/\Q.Pairwise (λa b=>a.task≠b.task)/\stay own H Q=true:=by
 constructor
 .rintro⟨h1,h2,h3,h4,h5⟩
  obtain⟨v1,v2⟩:=Ve.1 h2;obtain⟨w1,w2⟩:=yy.1 h3;obtain⟨q1,q2,_⟩:=OD.1 h4;exact⟨h1,v1,v2,w1,λw hw=>(anw (w2 w hw)).1 (q1 w hw),q2,h5⟩
 .rintro⟨h1,v1,v2,w1,q1,q2,h5⟩
  refine⟨h1,Ve.2 ⟨v1,v2⟩,yy.2 ⟨w1,λw hw=>(q1 w hw).v⟩,OD.2 ⟨λw hw=>(anw (q1 w hw).v).2 (q1 w hw),q2,by simp⟩,h5⟩
theorem anx{x:Int}:∀{q:List Sp.W}{l:List Int},x∈iY l q↔x∈l\/∃w,w∈q/\w.task=x
 | [],l=>by simp[iY]
 |a::q,l=>by
  have e:iY l (a::q)=iY (eR a.task l) q:=rfl;rw[e,anx,Ga];constructor
  .rintro((h |h) |⟨w,h1,h2⟩)
   .exact .inr ⟨a,by simp,h.symm⟩
   .exact .inl h
   .exact .inr ⟨w,by simp[h1],h2⟩
  .rintro(h |⟨w,h1,h2⟩)
   .exact .inl (.inr h)
   .rcases dA.1 h1 with e |h1
    .exact .inl (.inl (by rw[<-h2,e]))
    .exact .inr ⟨w,h1,h2⟩
theorem anz:∀{q:List Sp.W}{l:List Int},gF l->(∀w,w∈q->w.task∉l)->q.Pairwise (λa b=>a.task≠b.task)->gF (iY l q)
 | [],l,h,_,_=>h
 |a::q,l,h,hn,hd=>by
  rw[gH]at hd;have e:iY l (a::q)=iY (eR a.task l) q:=rfl;rw[e];refine anz (OE h (hn a (by simp))) ?_ hd.2
  intro w hw hm;rcases Ga.1 hm with e |hm
  .exact hd.1 w hw e.symm
  .exact hn w (by simp[hw]) hm
theorem Vf{own:Int}{H:List Int}{w:Sp.W}(h:Gb own H w):cY w.task=true:=by
 have:=sy h.v;unfold cY;simp;omega
theorem anA{own:Int}{H:List Int}{Q:List Sp.W}(h1:own = -1\/(cY own=true/\H=[]))(h2:∀x,x∈H->cY x=true)(h3:gF H)(h4:Q.length<=96)(h5:∀w,w∈Q->Gb own H w)(h6:Q.Pairwise (λa b=>a.task≠b.task)):
  MV (jA own H Q).1 (jA own H Q).2.1 (jA own H Q).2.2.1:=by
 cases Q with
 |nil=>exact zW.2 ⟨h1,h2,h3,h4,h5,h6,rfl⟩
 |cons w r =>
  rw[Jm];rw[gH]at h6;have hw:=h5 w (by simp)
  split
  .rename_i hs
   refine zW.2 ⟨h1,h2,h3,h4,h5,gH.2 h6,?_⟩;unfold stay;rcases hs with hs |⟨yq,wT⟩
   .simp[hs]
   .simp[yq,wT]
  .rename_i hs
   have ho:own = -1:=vC λh=>hs (.inl h)
   split
   .rename_i lH
    have hH:H=[]:=vC λh=>hs (.inr ⟨lH,h⟩)
    subst hH;refine zW.2 ⟨.inr ⟨Vf hw,rfl⟩,by simp,List.Pairwise.nil,by simp at h4⊢;omega,?_,h6.2,?_⟩
    .intro x hx
     have:=h5 x (by simp[hx])
     exact⟨this.v,this.op,this.val,this.cs,λe=>h6.1 x hx e.symm,by simp⟩
    .cases r with
     |nil=>rfl
     |cons a r =>
      have:=(sy hw.v).1;simp[stay];omega
   .rename_i lH
    subst ho;have hsp:(r.takeWhile λw=>w.op != 55)++(r.dropWhile λw=>w.op != 55)=r:=PF
    have hdk:∀a l,(r.dropWhile λw=>w.op != 55)=a::l->a.op=55:=by
     intro a l h;have:=WL (λw:Sp.W=>w.op != 55) r
     rw[h]at this;simpa using this
    generalize (r.takeWhile λw=>w.op != 55)=tk at *
    generalize (r.dropWhile λw=>w.op != 55)=dk at *
    subst hsp;have hd:=oz.1 h6.2;have hm:∀x,x∈iY (eR w.task H) tk↔(x=w.task\/x∈H)\/∃v,v∈tk/\v.task=x:=by
     intro x;rw[anx,Ga]
    refine zW.2 ⟨.inl rfl,?_,?_,?_,?_,hd.2.1,?_⟩
    .intro x hx
     rcases(hm x).1 hx with(rfl |hx) |⟨v,hv,rfl⟩
     .exact Vf hw
     .exact h2 x hx
     .exact Vf (h5 v (by simp[hv]))
    .refine anz (OE h3 hw.zV) ?_ hd.1
     intro v hv hx;rcases Ga.1 hx with e |hx
     .exact h6.1 v (by simp[hv]) e.symm
     .exact(h5 v (by simp[hv])).zV hx
    .simp at h4⊢;omega
    .intro x hx
     have:=h5 x (by simp[hx])
     refine⟨this.v,this.op,this.val,this.cs,this.no,λzk=>?_⟩
     rcases(hm _).1 zk with(e |mE) |⟨v,hv,e⟩
     .exact h6.1 x (by simp[hx]) e.symm
     .exact this.zV mE
     .exact hd.2.2 v hv x hx e
    .show stay (-1) (iY (eR w.task H) tk) dk=true
     cases dk with
     |nil=>rfl
     |cons a l =>
      have anB:=hdk a l rfl;have hne:(iY (eR w.task H) tk).isEmpty=false:=by
       cases hi:iY (eR w.task H) tk with
       |nil=>have:=(hm w.task).2 (.inl (.inl rfl));rw[hi]at this;cases this
       |cons _ _=>rfl
      simp[stay,anB,hne]
theorem anC{own:Int}{H:List Int}{Q:List Sp.W}{t o p n:Int}(hM:MV own H Q)(hl:Q.length<=90)(he:(mZ own H Q t o p n).e=0):MV (mZ own H Q t o p n).own (mZ own H Q t o p n).H (mZ own H Q t o p n).Q:=by
 obtain⟨m1,m2,m3,m4,m5,m6,m7⟩:=zW.1 hM;unfold mZ at he⊢;cases hb:jX t p n
 .rw[hb]at he
  simp only[eI,dI]at he⊢;have FD:=hb;unfold jX cY at FD;simp at FD;obtain⟨⟨⟨⟨oS,hp1⟩,E7⟩,_⟩,_⟩:=FD;have ij:cY t=true:=by unfold cY;simp;exact oS
  cases hr:(decide (o<53)||decide (56<o))
  .rw[hr]at he
   simp only[eI,dI]at he⊢;have hop:53<=o/\o<=56:=by simp at hr;omega
   cases hw:Q.any λw=>w.task==t
   .rw[hw]at he
    simp only[eI,dI]at he⊢;have hnt:∀w,w∈Q->w.task≠t:=by simpa using hw
    by_cases hL:o=53\/o=55
    .rw[aK hL]at he⊢
     by_cases hz:gX own H t=0
     .rw[aD (by simp[hz])]at he⊢
      obtain⟨z1,z2⟩:=(Jn oS.1).1 hz;unfold iX at he⊢;by_cases hp:vf own H Q o=true
      .rw[aK hp]at he⊢
       unfold vf at hp;by_cases lH:o=55
       .rw[aK lH]
        rw[aD (by omega)]at hp
        simp at hp;obtain⟨rfl,rfl⟩:=hp;have hq:=hM.free rfl;subst hq;exact zW.2 ⟨.inr ⟨ij,rfl⟩,by simp,List.Pairwise.nil,by simp,by simp,List.Pairwise.nil,rfl⟩
       .rw[aD lH]
        rw[aK (by omega)]at hp
        simp at hp;obtain⟨rfl,rfl⟩:=hp;refine zW.2 ⟨.inl rfl,?_,OE m3 z2,by simp,by simp,List.Pairwise.nil,rfl⟩
        intro x hx;rcases Ga.1 hx with rfl |hx
        .exact ij
        .exact m2 x hx
      .rw[aD hp]
       refine zW.2 ⟨m1,m2,m3,by simp;omega,?_,?_,?_⟩
       .intro w hw
        rcases dj.1 hw with hw |hw
        .exact m5 w hw
        .simp at hw
         subst hw;refine⟨?_,hL,rfl,rfl,z1,z2⟩;unfold dO kE;simp;omega
       .rw[oz]
        exact⟨m6,WK _ _,λa ha b hb=>by simp at hb;rw[hb];exact hnt a ha⟩
       .show stay own H (Q++[⟨t,o,0,p,-1⟩])=true
        cases Q with
        |nil =>
         unfold vf at hp;rcases hL with rfl |rfl
         .simp at hp
          simp[stay,hp]
         .rw[aD (by decide)]at hp
          simp at hp;simp[stay];by_cases h:own = -1
          .exact .inr (hp h)
          .exact .inl h
        |cons a r=>exact m7
     .rw[aK hz]at he
      simp[zr]at he
    .rw[aD hL]at he⊢
     by_cases xW:o=54
     .rw[aK xW]at he⊢
      by_cases hz:gX own H t=1
      .rw[aD (by simp[hz])]at he⊢
       have hsub:∀x,x∈(H.filter λx=>x != t)->x∈H:=λx hx=>(pg.1 hx).1
       refine anA (H:=H.filter λx=>x != t) ?_ (λx hx=>m2 x (hsub x hx)) (m3.sublist BW) m4 (λw hw=>?_) m6
       .rcases m1 with h |⟨h,h'⟩
        .exact .inl h
        .exact .inr ⟨h,by rw[h'];rfl⟩
       .have:=m5 w hw
        exact⟨this.v,this.op,this.val,this.cs,this.no,λh=>this.zV (hsub _ h)⟩
      .rw[aK hz]at he
       simp[zr]at he
     .rw[aD xW]at he⊢
      by_cases hz:gX own H t=2
      .rw[aD (by simp[hz])]at he⊢
       refine anA (.inl rfl) m2 m3 m4 (λw hw=>?_) m6
       have:=m5 w hw;refine⟨this.v,this.op,this.val,this.cs,?_,this.zV⟩;have:=(sy this.v).1;omega
      .rw[aK hz]at he
       simp[zr]at he
   .rw[hw]at he
    simp[zr]at he
  .rw[hr]at he
   simp[zr]at he
 .rw[hb]at he
  simp[zr]at he
end Go.VS.R
namespace Go.VS.Sp
def Gc(s:S):Bool:=M.jI s.own s.cnt s.time s.H s.Q s.B (s.C.map K.row) s.cl s.val
def OF(s:S):Bool:=R.jI s.own s.cnt s.time s.H s.Q s.B (s.C.map K.row) s.cl s.val
def fD(k sz ot:Int)(s:S):Int :=
 if k=1 then ck (dR 1 k sz ot) (Gc s)else if k=2 then ck (dR 2 k sz ot) (OF s)else if k=4 then ck (iR k sz ot) (Dw sz ot s)
 else if k=5 then ck (iS k sz ot) (Jb sz s)else if k=6 then ck (iq k sz ot) (Dz sz s)else if k=7 then fM k sz ot s
 else if k=8 then ck (jv k sz ot) (Je sz s)else if k=9 then ck (dR 9 k sz ot) (DA s)else 8
structure S.jr(s:S):Prop where
 wf:s.wf
 qn:s.qn=true->s.Q=[]
 h:s.H.length<=41
 q:s.Q.length<=41
 b:s.B.length<=121
 c:s.C.length<=41
 l:∀c∈s.C,c.log.length<=121
theorem S.jr.sm{s:S}(h:s.jr):s.sm:=⟨by have:=h.h;omega,by have:=h.b;omega,by have:=h.q;omega,by have:=h.c;omega,λc hc=>by have:=h.l c hc;omega⟩
theorem anD{s:S}(hw:s.wf)(hq:s.qn=true->s.Q=[])(hg:s.xR=false):s.jr:=by
 unfold S.xR at hg;simp at hg;obtain⟨⟨⟨⟨h1,h2⟩,h3⟩,h4⟩,h5⟩:=hg;exact⟨hw,hq,by omega,by omega,by omega,by omega,λc hc=>by have:=h5 c hc;omega⟩
theorem anE(nm:D)(k sz ot:Int)(s:S)(h:s.jr):
  ev P (.call pM [.d (.ag [nm,I' k,I' sz,I' ot]),.d (.ag s.row)] [])=some (.val (.d (I' (ck (dR 1 k sz ot) (Gc s)))) []):=by
 have hs:=h.sm;exact M.qy nm k sz ot s.own s.cnt s.time s.hn s.H s.qn s.Q s.bn s.B s.cn (s.C.map K.row) s.cl s.val hs.h hs.q hs.b (by simpa using hs.c)
theorem anF(nm:D)(k sz ot:Int)(s:S)(h:s.jr):
  ev P (.call lz [.d (.ag [nm,I' k,I' sz,I' ot]),.d (.ag s.row)] [])=some (.val (.d (I' (ck (dR 2 k sz ot) (OF s)))) []):=by
 have hs:=h.sm;exact R.qy nm k sz ot s.own s.cnt s.time s.hn s.H s.qn s.Q s.bn s.B s.cn (s.C.map K.row) s.cl s.val h.wf.1 h.qn (by have:=h.h;omega) hs.q
def kinds(k:Int)(t f g:Nat):Prop :=
 (k=1/\t=101/\f=sq/\g=pM)\/(k=2/\t=102/\f=su/\g=lz)\/(k=4/\t=103/\f=s9/\g=qu) \/
 (k=5/\t=104/\f=tc/\g=oF)\/(k=6/\t=105/\f=tg/\g=gp)\/(k=7/\t=106/\f=th/\g=rq) \/
 (k=8/\t=107/\f=tj/\g=nT)\/(k=9/\t=108/\f=tr/\g=pP)
theorem anG{k:Int}(hk:k=1\/k=2\/k=4\/k=5\/k=6\/k=7\/k=8\/k=9):∃t f g,kinds k t f g/\ev P (.call qt [.d (I' k)] [])=some (.val (.tu [.d (.lW t (.ag [.fn f [] [],.fn g [] []])),.d (.b true)]) []):=by
 unfold kinds;rcases hk with h |h |h |h |h |h |h |h<;>subst h
 .exact⟨101,sq,pM,by simp,tK⟩
 .exact⟨102,su,lz,by simp,rF⟩
 .exact⟨103,s9,qu,by simp,qE⟩
 .exact⟨104,tc,oF,by simp,zl⟩
 .exact⟨105,tg,gp,by simp,sF⟩
 .exact⟨106,th,rq,by simp,qF⟩
 .exact⟨107,tj,nT,by simp,uR⟩
 .exact⟨108,tr,pP,by simp,uS⟩
theorem anH{k:Int}{t f g:Nat}(h:kinds k t f g):t=101\/t=102\/t=103\/t=104\/t=105\/t=106\/t=107\/t=108:=by
 unfold kinds at h;omega
theorem anI{k:Int}{t f g:Nat}(hk:kinds k t f g)(nm:D)(sz ot:Int)(s:S)(h:s.jr):
  ev P (.call g [.d (.ag [nm,I' k,I' sz,I' ot]),.d (.ag s.row)] [])=some (.val (.d (I' (fD k sz ot s))) []):=by
 have hs:=h.sm;unfold kinds at hk;rcases hk with⟨rfl,rfl,rfl,rfl⟩ |⟨rfl,rfl,rfl,rfl⟩ |⟨rfl,rfl,rfl,rfl⟩ |⟨rfl,rfl,rfl,rfl⟩ |⟨rfl,rfl,rfl,rfl⟩ |⟨rfl,rfl,rfl,rfl⟩ |⟨rfl,rfl,rfl,rfl⟩ |⟨rfl,rfl,rfl,rfl⟩
 .exact anE nm 1 sz ot s h
 .exact anF nm 2 sz ot s h
 .exact al5 nm 4 sz ot s hs
 .exact UX nm 5 sz ot s hs
 .exact amo nm 6 sz ot s hs
 .exact qy nm 7 sz ot s hs
 .exact UY nm 8 sz ot s hs
 .exact amt nm 9 sz ot s hs
def S.ab(qn:Bool)(s:S):S:={s with qn:=qn,Q:=[]}
theorem anJ{k sz ot:Int}{s:S}(hk:¬(k=1\/k=2\/k=4\/k=5\/k=6\/k=7\/k=8\/k=9)):fD k sz ot s=8:=by
 unfold fD;simp only[nj]at hk;simp[hk]
theorem anK(nm:D)(k sz ot:Int)(s:S)(h:s.jr):
  ev P (.call KD [.d (.ag [nm,I' k,I' sz,I' ot]),.d (.ag s.row)] [])=some (.val (.tu [.d (.ag (if fD k sz ot s=0 then(s.ab true).row else bY)),.d (I' (fD k sz ot s))]) []):=by
 rw[au adK rfl];by_cases hk:k=1\/k=2\/k=4\/k=5\/k=6\/k=7\/k=8\/k=9
 .obtain⟨t,f,g,hkk,wg⟩:=anG hk
  have hC:=YU f g nm k sz ot _ s (anI hkk nm sz ot s h);have ht:=anH hkk;generalize fD k sz ot s=e at *;simp only[S.row]at hC;by_cases he:e=0
  .subst he
   simp only[dF,S.ab,S.row];rcases ht with h |h |h |h |h |h |h |h<;>subst h<;>simp[Hh,wg,cV,hC,aq]
  .rw[aD he]
   have he':(e != 0)=true:=by simpa using he
   rcases ht with h |h |h |h |h |h |h |h<;>subst h<;>simp[Hh,wg,cV,hC,he',bY]
 .have hU:=S5 hk
  rw[anJ hk,aD (by decide)]
  simp[Hh,hU,bY]
end Go.VS.Sp
namespace Go.VS.Sp
theorem S.jr.sz{s:S}(h:s.jr)(b:Bool):(s.ab b).sz:=by
 refine⟨?_,?_,?_,?_,?_⟩
 .show s.H.length<=10000;have:=h.h;omega
 .show s.B.length<=10000;have:=h.b;omega
 .show([]:List W).length<=10000;simp
 .show s.C.length<=1000;have:=h.c;omega
 .intro c hc;have:=h.l c hc;omega
end Go.VS.Sp
namespace Go.VS.Sp
end Go.VS.Sp
namespace Go.VS.Sp
end Go.VS.Sp
namespace Go.VS.Sp
def kP(s:S)(cnt:Int)(q:D)(any:Bool):List D:=[I' s.own,I' cnt,I' s.time,hD s.hn s.H,q,hD s.bn s.B,cD s.cn s.C,.b s.cl,I' s.val,.b any]
abbrev F7(pk ok:Bool)(wk:D):D:=.ag [I' 0,I' 0,I' 0,.sl 1 true [],.sl 5 true [],.sl 1 true [],.sl 2 true [],.b false,I' 0,.b pk,I' 0,.b ok,wk]
def Rd(x:Option ej)(e:Int)(pk:Bool):Prop:=∃a1 a2 a3 a4 a5 a6 a7 a8 a9 b1 b2 b3:D,x=some (.val (.tu [.d (.ag [a1,a2,a3,a4,a5,a6,a7,a8,a9,.b pk,b1,b2,b3]),.d (I' e)]) [])
theorem Rd.mk'{x:Option ej}{e:Int}{pk:Bool}{a1 a2 a3 a4 a5 a6 a7 a8 a9 b1 b2 b3:D}(h:x=some (.val (.tu [.d (.ag [a1,a2,a3,a4,a5,a6,a7,a8,a9,.b pk,b1,b2,b3]),.d (I' e)]) [])):Rd x e pk:=⟨_,_,_,_,_,_,_,_,_,_,_,_,h⟩
end Go.VS.Sp
namespace Go.VS.Sp
theorem anM:ev P (.call sv [.d (.sl 5 true [])] [])=some (.val (.d (.sl 5 true [])) []):=by
 rw[au MT rfl];simp[qw,az]
theorem anN(f:Nat)(a b:List D):ev P (.call Lr [.d (.sl 5 true []),.d (.fn f a b)] [])=some (.val (.tu [.d (.ag [I' 0,I' 0,I' 0,I' 0,I' 0]),.d (.b false)]) []):=by
 have hi:ev P (.call xJ [.d (.sl 5 true []),.d (.fn f a b)] [])=some (.val (.d (I' (-1))) []):=by
  have hL:ev P (.loop 0 [0,1,7,8] vP [(0,.d (.sl 5 true [])),(1,.d (.fn f a b)),(7,.d (I' 0)),(8,.d (I' 0))] [])=some (.out (.exit 0) [] []):=by
   rw[bS]
   conv=>lhs;arg 4;unfold vP
   simp
  rw[au MR rfl];simp[EB,hL]
 rw[au Yd rfl];simp[HJ,hi]
abbrev lA(sz:Int)(s:S)(b:V)(R:List (List D)):List O:=[.gJ 11 [[.d (I' sz),.d (I' s.own),.d (I' s.cnt),.d (I' s.time),.d (hD s.hn s.H),.d (.sl 5 true []),b,.d (cD s.cn s.C),.d (.b s.cl),.d (I' s.val),.d (.sl 5 true [])]],.aG 1 true R]
abbrev lN(sz:Int)(s:S)(bd:D):List O:=[.aG 11 true [[I' sz,I' s.own,I' s.cnt,I' s.time,hD s.hn s.H,.sl 5 true [],bd,cD s.cn s.C,.b s.cl,I' s.val,.sl 5 true []]]]
theorem DE(nm:D)(k sz ot:Int)(s:S)(hb:s.bn=false)(hn:s.B.length<=1000000):
  ev P (.call G1 [.d (.ag [nm,I' k,I' sz,I' ot]),.d (.ag (s.ab true).row)] [])=some (.val (.loc 0 0 0) (lA sz s (.aR 1 0 s.B.length) (bX s.B))):=by
 have hc:=tH false s.B (by simp) hn
 have h0:=anM;rw[au Sy rfl];simp at hc;simp only[S.ab,S.row,qD,gn]at *;simp[EK,hb,hc,h0,aJ,aA,sub,aE,back,az,aq,ak,cut,bt,an,V.aZ,br,aY,bg,aN,aO,bk,cI]
theorem Jo(nm:D)(k sz ot:Int)(s:S)(hb:s.bn=true):
  ev P (.call G1 [.d (.ag [nm,I' k,I' sz,I' ot]),.d (.ag ({s with B:=[]}.ab true).row)] [])=some (.val (.loc 0 0 0) (lN sz s (.sl 1 true []))):=by
 have hc:=tH true [] (by simp) (by simp)
 have h0:=anM;rw[au Sy rfl];simp at hc;simp only[S.ab,S.row,qD,gn]at *;simp[EK,hb,hc,h0,aJ,aA,sub,aE,back,az,aq,ak,cut,bt,an,V.aZ,br,aY,bg,aN,aO,bk,cI]
theorem OG(sz op:Int)(s:S)(i n:Nat)(R:List (List D)):
  ev P (.call Em [.loc 0 0 0,.d (I' op)] (lA sz s (.aR 1 i n) R))=some (.val (.tu [.d (.ag [I' 0,I' 0,I' 0,I' 0,I' 0]),.d (.b false)]) (lA sz s (.aR 1 i n) R)):=by
 have hf:=λf a b=>anN f a b
 rw[au SF rfl];simp[EY,hf,aJ,aA,sub,aE,back,az,aq,ak,cut,bt,an,V.aZ,br,aY,bg,aN,aO]
abbrev m8(s:S)(b:V)(pk:Bool)(n:Int)(ok:Bool)(q:V):V:=.ag [.d (I' s.own),.d (I' s.cnt),.d (I' s.time),.d (hD s.hn s.H),q,b,.d (cD s.cn s.C),.d (.b s.cl),.d (I' s.val),.d (.b pk),.d (I' n),.d (.b ok),.d (.sl 5 true [])]
theorem Ge(sz n':Int)(ok:Bool)(s:S)(i n:Nat)(R:List (List D)):
  ev P (.call uE [.loc 0 0 0,.d (I' n'),.d (.b ok)] (lA sz s (.aR 1 i n) R))=some (.val (m8 s (.aR 1 i n) false n' ok (.d (.sl 5 true []))) (lA sz s (.aR 1 i n) R)):=by
 rw[au HQ rfl];simp[CE,aJ,aA,sub,aE,back,az,aq,ak,cut,bt,an,V.aZ,br,aY,bg,aN,aO]
abbrev lB(sz:Int)(s:S)(n:Nat)(R:List (List D)):List O:=[.gJ 11 [[.d (I' sz),.d (I' s.own),.d (I' s.cnt),.d (I' s.time),.d (hD s.hn s.H),.d (.sl 5 true []),.aR 2 0 n,.d (cD s.cn s.C),.d (.b s.cl),.d (I' s.val),.d (.sl 5 true [])]],.dead,.aG 1 true R]
theorem anO(sz v:Int)(s:S)(n:Nat)(R:List (List D))(hR:R.length=n)(hn:n<=1000):
  ev P (.call Cr [.loc 0 0 0,.d (I' v)] (lA sz s (.aR 1 0 n) R))=some (.val (.tu []) (lB sz s (n+1) (R++[[I' v]]))):=by
 have h1:n<=R.length:=by omega
 have h2:¬n+1<=R.length:=by omega
 have h3:n+1<=room:=by unfold room;omega
 have h4:R.take n=R:=by rw[<-hR];simp
 rw[au MY rfl];simp[CF,h1,h2,h3,h4,aJ,aA,sub,aE,back,az,aq,ak,cut,bt,an,V.aZ,br,aY,bg,aN,aO]
theorem Gf(sz:Int)(s:S)(c:Cl)(i n:Nat)(R:List (List D)):
  ev P (.call xM [.loc 0 0 0,.d (.ag c.row)] (lA sz s (.aR 1 i n) R))=some (.val (m8 s (.aR 1 i n) true 0 false (.aR 2 0 1)) [.gJ 11 [[.d (I' sz),.d (I' s.own),.d (I' s.cnt),.d (I' s.time),.d (hD s.hn s.H),.aR 2 0 1,.aR 1 i n,.d (cD s.cn s.C),.d (.b s.cl),.d (I' s.val),.d (.sl 5 true [])]],.aG 1 true R,.aG 5 true [[I' c.task,I' c.op,I' (if c.op=64 then c.value else 0),I' c.prio,I' (-1)]]]):=by
 have h3:1<=room:=by decide
 rw[au SG rfl];cases h:c.op==64
 .have h':=h
  simp at h';simp[AR,Cl.row,h,h',h3,aJ,aA,sub,aE,back,az,aq,ak,cut,bt,an,V.aZ,br,aY,bg,aN,aO]
 .have h':=h
  simp at h';simp[AR,Cl.row,h',h3,aJ,aA,sub,aE,back,az,aq,ak,cut,bt,an,V.aZ,br,aY,bg,aN,aO]
theorem anP(sz op:Int)(s:S)(bd:D):
  ev P (.call Em [.loc 0 0 0,.d (I' op)] (lN sz s bd))=some (.val (.tu [.d (.ag [I' 0,I' 0,I' 0,I' 0,I' 0]),.d (.b false)]) (lN sz s bd)):=by
 have hf:=λf a b=>anN f a b
 rw[au SF rfl];simp[EY,hf,aJ,aA,sub,aE,back,az,aq,ak,cut,bt,an,V.aZ,br,aY,bg,aN,aO]
theorem anQ(sz n':Int)(ok:Bool)(s:S)(bd:D):
  ev P (.call uE [.loc 0 0 0,.d (I' n'),.d (.b ok)] (lN sz s bd))=some (.val (.d (.ag [I' s.own,I' s.cnt,I' s.time,hD s.hn s.H,.sl 5 true [],bd,cD s.cn s.C,.b s.cl,I' s.val,.b false,I' n',.b ok,.sl 5 true []])) (lN sz s bd)):=by
 rw[au HQ rfl];simp[CE,aJ,aA,sub,aE,back,az,aq,ak,cut,bt,an,V.aZ,br,aY,bg,aN,aO]
theorem anR(sz v:Int)(s:S):
  ev P (.call Cr [.loc 0 0 0,.d (I' v)] (lN sz s (.sl 1 true [])))=some (.val (.tu []) (lA sz s (.aR 1 0 1) [[I' v]])):=by
 have h3:1<=room:=by decide
 rw[au MY rfl];simp[CF,h3,aJ,aA,sub,aE,back,az,aq,ak,cut,bt,an,V.aZ,br,aY,bg,aN,aO]
theorem Gg(sz:Int)(s:S)(c:Cl)(bd:D):
  ev P (.call xM [.loc 0 0 0,.d (.ag c.row)] (lN sz s bd))=some (.val (m8 s (.d bd) true 0 false (.aR 1 0 1)) [.gJ 11 [[.d (I' sz),.d (I' s.own),.d (I' s.cnt),.d (I' s.time),.d (hD s.hn s.H),.aR 1 0 1,.d bd,.d (cD s.cn s.C),.d (.b s.cl),.d (I' s.val),.d (.sl 5 true [])]],.aG 5 true [[I' c.task,I' c.op,I' (if c.op=64 then c.value else 0),I' c.prio,I' (-1)]]]):=by
 have h3:1<=room:=by decide
 rw[au SG rfl];cases h:c.op==64
 .have h':=h
  simp at h';simp[AR,Cl.row,h,h',h3,aJ,aA,sub,aE,back,az,aq,ak,cut,bt,an,V.aZ,br,aY,bg,aN,aO]
 .have h':=h
  simp at h';simp[AR,Cl.row,h',h3,aJ,aA,sub,aE,back,az,aq,ak,cut,bt,an,V.aZ,br,aY,bg,aN,aO]
theorem Vg(sz:Int)(s:S)(c:Cl)(n:Nat)(R:List (List D))(hR:R.length=n)(hn:n<=1000):
  ev P (.call yW [.loc 0 0 0,.d (.ag c.row)] (lA sz s (.aR 1 0 n) R)) =
   if(n:Int)<sz then some (.val (m8 s (.aR 2 0 (n+1)) false 0 true (.d (.sl 5 true []))) (lB sz s (n+1) (R++[[I' c.value]])))else ev P (.call xM [.loc 0 0 0,.d (.ag c.row)] (lA sz s (.aR 1 0 n) R)):=by
 have hw:=OG sz 65 s 0 n R;have hp:=anO sz c.value s n R hR hn;have hd:=Ge sz 0 true s 0 (n+1) (R++[[I' c.value]]);have hk:=Gf sz s c 0 n R;rw[au HP rfl];by_cases h:(n:Int)<sz
 .rw[aK h]
  simp only[Cl.row]at *;simp[uJ,hw,hp,hd,h,aJ,aA,sub,aE,back,az,aq,ak,cut,bt,an,V.aZ,br,aY,bg,aN,aO]
 .rw[aD h,hk]
  simp only[Cl.row]at *;simp[uJ,hw,hk,h,aJ,aA,sub,aE,back,az,aq,ak,cut,bt,an,V.aZ,br,aY,bg,aN,aO]
theorem Vh(sz:Int)(s:S)(c:Cl):
  ev P (.call yW [.loc 0 0 0,.d (.ag c.row)] (lN sz s (.sl 1 true []))) =
   if 0<sz then some (.val (m8 s (.aR 1 0 1) false 0 true (.d (.sl 5 true []))) (lA sz s (.aR 1 0 1) [[I' c.value]]))else ev P (.call xM [.loc 0 0 0,.d (.ag c.row)] (lN sz s (.sl 1 true []))):=by
 have hw:=anP sz 65 s (.sl 1 true []);have hp:=anR sz c.value s;have hd:=Ge sz 0 true s 0 1 [[I' c.value]];have hk:=Gg sz s c (.sl 1 true []);rw[au HP rfl];by_cases h:0<sz
 .rw[aK h]
  simp only[Cl.row]at *;simp[uJ,hw,hp,hd,h,aJ,aA,sub,aE,back,az,aq,ak,cut,bt,an,V.aZ,br,aY,bg,aN,aO]
 .rw[aD h,hk]
  simp only[Cl.row]at *;simp[uJ,hw,hk,h,aJ,aA,sub,aE,back,az,aq,ak,cut,bt,an,V.aZ,br,aY,bg,aN,aO]
abbrev lV(sz:Int)(s:S)(bd:D):List O:=[.gJ 11 [[.d (I' sz),.d (I' s.own),.d (I' s.cnt),.d (I' s.time),.d (hD s.hn s.H),.d (.sl 5 true []),.d bd,.d (cD s.cn s.C),.d (.b s.cl),.d (I' s.val),.d (.sl 5 true [])]]]
abbrev tY(s:S)(bd:D)(n:Int)(ok:Bool):V:=.d (.ag [I' s.own,I' s.cnt,I' s.time,hD s.hn s.H,.sl 5 true [],bd,cD s.cn s.C,.b s.cl,I' s.val,.b false,I' n,.b ok,.sl 5 true []])
theorem anS(sz:Int)(s:S)(c:Cl)(n:Nat)(a:Int)(R:List (List D))(hR:R.length=n+1):
  ev P (.call pQ [.loc 0 0 0,.d (.ag c.row)] (lA sz s (.aR 1 0 (n+2)) ([I' a]::R)))=some (.val (m8 s (.aR 1 1 (n+1)) false a true (.d (.sl 5 true []))) (lA sz s (.aR 1 1 (n+1)) ([I' a]::R))):=by
 have hw:=OG sz 64 s 0 (n+2) ([I' a]::R);have hd:=Ge sz a true s 1 (n+1) ([I' a]::R);rw[au vW rfl];simp only[Cl.row]at *;have h1:(0:Int)<(n:Int)+2:=by omega
 have h2:(1:Int)<=(n:Int)+2:=by omega
 have h3:(1:Int)<(n:Int)+2:=by omega
 have h5:(n:Int)+2<=(R.length:Int)+1:=by omega
 have h6:((n:Int)+2).toNat - 1=n+1:=by omega
 simp[oH,hw,hd,h1,h2,h3,h5,h6,aJ,aA,sub,aE,back,az,aq,ak,cut,bt,an,V.aZ,br,aY,bg,aN,aO]
theorem anT(sz:Int)(s:S)(c:Cl)(a:Int):
  ev P (.call pQ [.loc 0 0 0,.d (.ag c.row)] (lA sz s (.aR 1 0 1) [[I' a]]))=some (.val (m8 s (.aR 2 0 0) false a true (.d (.sl 5 true []))) (lB sz s 0 [])):=by
 have hw:=OG sz 64 s 0 1 [[I' a]];have hd:=Ge sz a true s 0 0 [];rw[au vW rfl];simp only[Cl.row]at *;simp[oH,hw,hd,aJ,aA,sub,aE,back,az,aq,ak,cut,bt,an,V.aZ,br,aY,bg,aN,aO]
theorem Vi(sz:Int)(s:S)(c:Cl):
  ev P (.call pQ [.loc 0 0 0,.d (.ag c.row)] (lA sz s (.aR 1 0 0) [])) =
   if s.cl=true then some (.val (m8 s (.aR 1 0 0) false 0 false (.d (.sl 5 true []))) (lA sz s (.aR 1 0 0) []))else ev P (.call xM [.loc 0 0 0,.d (.ag c.row)] (lA sz s (.aR 1 0 0) [])):=by
 have hw:=OG sz 64 s 0 0 [];have hd:=Ge sz 0 false s 0 0 [];have hk:=Gf sz s c 0 0 [];rw[au vW rfl];obtain⟨own,cnt,time,hn,H,qn,Q,bn,B,cn,C,cl,val⟩:=s;cases cl
 .rw[aD (by simp),hk]
  simp only[Cl.row]at *;simp[oH,hw,hk,aJ,aA,sub,aE,back,az,aq,ak,cut,bt,an,V.aZ,br,aY,bg,aN,aO]
 .rw[aK rfl]
  simp only[Cl.row]at *;simp[oH,hw,hd,aJ,aA,sub,aE,back,az,aq,ak,cut,bt,an,V.aZ,br,aY,bg,aN,aO]
theorem Vj(sz:Int)(s:S)(c:Cl):
  ev P (.call pQ [.loc 0 0 0,.d (.ag c.row)] (lN sz s (.sl 1 true []))) =
   if s.cl=true then some (.val (.d (.ag [I' s.own,I' s.cnt,I' s.time,hD s.hn s.H,.sl 5 true [],.sl 1 true [],cD s.cn s.C,.b s.cl,I' s.val,.b false,I' 0,.b false,.sl 5 true []])) (lN sz s (.sl 1 true [])))else ev P (.call xM [.loc 0 0 0,.d (.ag c.row)] (lN sz s (.sl 1 true []))):=by
 have hw:=anP sz 64 s (.sl 1 true []);have hd:=anQ sz 0 false s (.sl 1 true []);have hk:=Gg sz s c (.sl 1 true []);rw[au vW rfl];obtain⟨own,cnt,time,hn,H,qn,Q,bn,B,cn,C,cl,val⟩:=s;cases cl
 .rw[aD (by simp),hk]
  simp only[Cl.row]at *;simp[oH,hw,hk,aJ,aA,sub,aE,back,az,aq,ak,cut,bt,an,V.aZ,br,aY,bg,aN,aO]
 .rw[aK rfl]
  simp only[Cl.row]at *;simp[oH,hw,hd,aJ,aA,sub,aE,back,az,aq,ak,cut,bt,an,V.aZ,br,aY,bg,aN,aO]
abbrev om:List D:=[I' 0,I' 0,I' 0,.sl 1 true [],.sl 5 true [],.sl 1 true [],.sl 2 true [],.b false,I' 0,.b false,I' 0,.b false,.sl 5 true []]
theorem anU(sz:Int)(s:S)(c:Cl)(n:Nat)(R:List (List D)):
  ev P (.call AF [.loc 0 0 0,.d (.ag c.row)] (lA sz s (.aR 1 0 n) R))=some (.val (m8 {s with cl:=true} (.aR 1 0 n) false 0 true (.d (.sl 5 true []))) (lA sz {s with cl:=true} (.aR 1 0 n) R)):=by
 have hd:=Ge sz 0 true {s with cl:=true} 0 n R;have hL:∀H:List O,H=lA sz {s with cl:=true} (.aR 1 0 n) R++[.aG 13 true [om]]->ev P (.loop 2 [0,4] rC [(0,.loc 0 0 0),(4,.loc 2 0 0)] H)=some (.out (.exit 0) [(0,.loc 0 0 0),(4,.loc 2 0 0)] H):=by
  intro H hH;subst hH;rw[bS]
  conv=>lhs;arg 4;unfold rC
  simp[aJ,aA,sub,aE,back,az,aq,ak,cut,bt,an,V.aZ,br,aY,bg,aN,aO]
 have hL:=hL _ rfl;simp at hL;rw[au MW rfl];simp only[Cl.row]at *;simp[AP,hL,hd,aJ,aA,sub,aE,back,az,aq,ak,cut,bt,an,V.aZ,br,aY,bg,aN,aO]
theorem anV(sz:Int)(s:S)(c:Cl):
  ev P (.call AF [.loc 0 0 0,.d (.ag c.row)] (lN sz s (.sl 1 true [])))=some (.val (tY {s with cl:=true} (.sl 1 true []) 0 true) (lN sz {s with cl:=true} (.sl 1 true []))):=by
 have hd:=anQ sz 0 true {s with cl:=true} (.sl 1 true []);have hL:∀H:List O,H=lN sz {s with cl:=true} (.sl 1 true [])++[.aG 13 true [om]]->ev P (.loop 1 [0,4] rC [(0,.loc 0 0 0),(4,.loc 1 0 0)] H)=some (.out (.exit 0) [(0,.loc 0 0 0),(4,.loc 1 0 0)] H):=by
  intro H hH;subst hH;rw[bS]
  conv=>lhs;arg 4;unfold rC
  simp[aJ,aA,sub,aE,back,az,aq,ak,cut,bt,an,V.aZ,br,aY,bg,aN,aO]
 have hL:=hL _ rfl;simp at hL;rw[au MW rfl];simp only[Cl.row]at *;simp[AP,hL,hd,aJ,aA,sub,aE,back,az,aq,ak,cut,bt,an,V.aZ,br,aY,bg,aN,aO]
end Go.VS.Sp
namespace Go.VS.Sp
theorem kQ:ev P (.call QC [] [])=some (.val (.mp 0) [.mp [(I' 64,.d (.fn AE [] [])),(I' 65,.d (.fn sw [] [])),(I' 66,.d (.fn Co [] []))]]):=by
 rw[au aet rfl];simp[RI,az,ak,cut,bt,an]
theorem anW(sz:Int)(s:S)(c:Cl)(n:Nat)(R:List (List D))(hR:R.length=n)(hn:n<=1000):
  ev P (.call AE [.loc 0 0 0,.d (.ag c.row)] (lA sz s (.aR 1 0 n) R))=ev P (.call yW [.loc 0 0 0,.d (.ag c.row)] (lA sz s (.aR 1 0 n) R)):=by
 have hS:=Vg sz s c n R hR hn;rw[Gf]at hS;rw[au HO rfl];by_cases h:(n:Int)<sz
 .rw[aK h]at hS
  rw[hS];simp only[Cl.row]at *;simp[y8,hS,aJ,aA,sub,aE,back,az,aq,ak,cut,bt,an,V.aZ,br,aY,bg,aN,aO]
 .rw[aD h]at hS
  rw[hS];simp only[Cl.row]at *;simp[y8,hS,aJ,aA,sub,aE,back,az,aq,ak,cut,bt,an,V.aZ,br,aY,bg,aN,aO]
theorem anX(sz:Int)(s:S)(c:Cl):
  ev P (.call AE [.loc 0 0 0,.d (.ag c.row)] (lN sz s (.sl 1 true [])))=ev P (.call yW [.loc 0 0 0,.d (.ag c.row)] (lN sz s (.sl 1 true []))):=by
 have hS:=Vh sz s c;rw[Gg]at hS;rw[au HO rfl];by_cases h:0<sz
 .rw[aK h]at hS
  rw[hS];simp only[Cl.row]at *;simp[y8,hS,aJ,aA,sub,aE,back,az,aq,ak,cut,bt,an,V.aZ,br,aY,bg,aN,aO]
 .rw[aD h]at hS
  rw[hS];simp only[Cl.row]at *;simp[y8,hS,aJ,aA,sub,aE,back,az,aq,ak,cut,bt,an,V.aZ,br,aY,bg,aN,aO]
theorem anY(sz:Int)(s:S)(c:Cl)(n:Nat)(a:Int)(R:List (List D))(hR:R.length=n+1):
  ev P (.call sw [.loc 0 0 0,.d (.ag c.row)] (lA sz s (.aR 1 0 (n+2)) ([I' a]::R)))=ev P (.call pQ [.loc 0 0 0,.d (.ag c.row)] (lA sz s (.aR 1 0 (n+2)) ([I' a]::R))):=by
 have hS:=anS sz s c n a R hR;rw[au vV rfl];rw[hS];simp only[Cl.row]at *;simp[rB,hS,aJ,aA,sub,aE,back,az,aq,ak,cut,bt,an,V.aZ,br,aY,bg,aN,aO]
theorem anZ(sz:Int)(s:S)(c:Cl)(a:Int):
  ev P (.call sw [.loc 0 0 0,.d (.ag c.row)] (lA sz s (.aR 1 0 1) [[I' a]]))=ev P (.call pQ [.loc 0 0 0,.d (.ag c.row)] (lA sz s (.aR 1 0 1) [[I' a]])):=by
 have hS:=anT sz s c a;rw[au vV rfl];rw[hS];simp only[Cl.row]at *;simp[rB,hS,aJ,aA,sub,aE,back,az,aq,ak,cut,bt,an,V.aZ,br,aY,bg,aN,aO]
theorem an0(sz:Int)(s:S)(c:Cl):
  ev P (.call sw [.loc 0 0 0,.d (.ag c.row)] (lA sz s (.aR 1 0 0) []))=ev P (.call pQ [.loc 0 0 0,.d (.ag c.row)] (lA sz s (.aR 1 0 0) [])):=by
 have hS:=Vi sz s c;rw[Gf]at hS;rw[au vV rfl];by_cases h:s.cl=true
 .rw[aK h]at hS
  rw[hS];simp only[Cl.row]at *;simp[rB,hS,aJ,aA,sub,aE,back,az,aq,ak,cut,bt,an,V.aZ,br,aY,bg,aN,aO]
 .rw[aD h]at hS
  rw[hS];simp only[Cl.row]at *;simp[rB,hS,aJ,aA,sub,aE,back,az,aq,ak,cut,bt,an,V.aZ,br,aY,bg,aN,aO]
theorem an1(sz:Int)(s:S)(c:Cl):
  ev P (.call sw [.loc 0 0 0,.d (.ag c.row)] (lN sz s (.sl 1 true [])))=ev P (.call pQ [.loc 0 0 0,.d (.ag c.row)] (lN sz s (.sl 1 true []))):=by
 have hS:=Vj sz s c;rw[Gg]at hS;rw[au vV rfl];by_cases h:s.cl=true
 .rw[aK h]at hS
  rw[hS];simp only[Cl.row]at *;simp[rB,hS,aJ,aA,sub,aE,back,az,aq,ak,cut,bt,an,V.aZ,br,aY,bg,aN,aO]
 .rw[aD h]at hS
  rw[hS];simp only[Cl.row]at *;simp[rB,hS,aJ,aA,sub,aE,back,az,aq,ak,cut,bt,an,V.aZ,br,aY,bg,aN,aO]
theorem an2(sz:Int)(s:S)(c:Cl)(n:Nat)(R:List (List D)):
  ev P (.call Co [.loc 0 0 0,.d (.ag c.row)] (lA sz s (.aR 1 0 n) R))=ev P (.call AF [.loc 0 0 0,.d (.ag c.row)] (lA sz s (.aR 1 0 n) R)):=by
 have hS:=anU sz s c n R;rw[au MU rfl];rw[hS];simp only[Cl.row]at *;simp[ET,hS,aJ,aA,sub,aE,back,az,aq,ak,cut,bt,an,V.aZ,br,aY,bg,aN,aO]
theorem an3(sz:Int)(s:S)(c:Cl):
  ev P (.call Co [.loc 0 0 0,.d (.ag c.row)] (lN sz s (.sl 1 true [])))=ev P (.call AF [.loc 0 0 0,.d (.ag c.row)] (lN sz s (.sl 1 true []))):=by
 have hS:=anV sz s c;rw[au MU rfl];rw[hS];simp only[Cl.row]at *;simp[ET,hS,aJ,aA,sub,aE,back,az,aq,ak,cut,bt,an,V.aZ,br,aY,bg,aN,aO]
theorem jY(n:Int):ev P (.call QA [.d (I' n)] [])=some (.val (.d (.b (cY n))) []):=by
 rw[au aer rfl];simp[RG,cY]
def OH(n:Int):Bool:=decide (0<=n)&&decide (n<=9)
theorem jZ(n:Int):ev P (.call QB [.d (I' n)] [])=some (.val (.d (.b (OH n))) []):=by
 rw[au aes rfl];simp[RH,OH]
theorem kR(n:Int):ev P (.call G0 [.d (I' n)] [])=some (.val (.d (.b (num n))) []):=by
 rw[au XW rfl];simp[Me,num]
theorem kT(c:Cl):(!cY c.task||!OH c.prio||decide (c.now<0)||decide (1099511627776<c.now))=cG c:=by
 unfold cY OH cG;rw[um];simp;omega
end Go.VS.Sp
namespace Go.VS.Sp
end Go.VS.Sp
namespace Go.VS.Sp
end Go.VS.Sp
namespace Go.VS.Sp
def tZ(sz ot now:Int)(s:S):S:=if sz<=s.cnt+(now - s.time) / ot then{s with cnt:=sz,time:=now}else{s with cnt:=s.cnt+(now - s.time) / ot,time:=s.time+(now - s.time) / ot*ot}
end Go.VS.Sp
namespace Go.VS.Sp
theorem an4(c:Cl):ev P (.call Qi [.d (.ag c.row)] [])=some (.val (.d (.b (!cG c))) []):=by
 have e:(!cG c)=(decide (0<=c.task)&&decide (c.task<16)&&decide (0<=c.prio)&&decide (c.prio<=9)&&decide (0<=c.now)&&decide (c.now<=1099511627776)):=by
  unfold cG;rw[um];simp
 rw[e,au adN rfl];simp[Ro,Cl.row]
def Cl.rf(c:Cl):Cl:=if c.op=75 then{c with value:=1}else c
theorem an5(c:Cl):ev P (.call KF [.d (.ag c.row)] [])=some (.val (.d (.ag c.rf.row)) []):=by
 rw[au adO rfl];unfold Cl.rf;by_cases h:c.op=75
 .rw[aK h]
  simp[LL,Cl.row,h,az,aq]
 .rw[aD h]
  have h':(c.op==75)=false:=by simpa using h
  simp[LL,Cl.row,h',az,aq]
def Vk(k:Int)(f g a w r:Nat):Prop :=
 (k=1/\f=sq/\g=pM/\a=AA/\w=Xe/\r=Xf)\/(k=2/\f=su/\g=lz/\a=pN/\w=Xg/\r=Xh) \/
 (k=4/\f=s9/\g=qu/\a=AB/\w=Xi/\r=Xj)\/(k=5/\f=tc/\g=oF/\a=Ci/\w=Xk/\r=Xl) \/
 (k=6/\f=tg/\g=gp/\a=iP/\w=Xm/\r=Xn)\/(k=7/\f=th/\g=rq/\a=vJ/\w=Xo/\r=Xp) \/
 (k=8/\f=tj/\g=nT/\a=Cj/\w=Xq/\r=Xr)\/(k=9/\f=tr/\g=pP/\a=Ck/\w=Xs/\r=Xt)
theorem an6{k:Int}{f g a w r:Nat}(h:Vk k f g a w r):ev P (.call KE [.d (I' k)] [])=some (.val (.tu [.d (.ag [.fn f [] [],.fn g [] [],.fn a [] [],.fn w [] [],.fn r [] []]),.d (.b true)]) []):=by
 rw[au XB rfl];unfold Vk at h;rcases h with⟨rfl,rfl,rfl,rfl,rfl,rfl⟩ |⟨rfl,rfl,rfl,rfl,rfl,rfl⟩ |⟨rfl,rfl,rfl,rfl,rfl,rfl⟩ |⟨rfl,rfl,rfl,rfl,rfl,rfl⟩ |⟨rfl,rfl,rfl,rfl,rfl,rfl⟩ |⟨rfl,rfl,rfl,rfl,rfl,rfl⟩ |⟨rfl,rfl,rfl,rfl,rfl,rfl⟩ |⟨rfl,rfl,rfl,rfl,rfl,rfl⟩<;>simp[LG,az]
theorem an7{k:Int}(h:¬(k=1\/k=2\/k=4\/k=5\/k=6\/k=7\/k=8\/k=9)):ev P (.call KE [.d (I' k)] [])=some (.val (.tu [.d (.ag [.cN,.cN,.cN,.cN,.cN]),.d (.b false)]) []):=by
 rw[au XB rfl];simp only[nj]at h;obtain⟨h1,h2,h3,h4,h5,h6,h7,h8⟩:=h;have h1:(k==1)=false:=by simpa using h1
 have h2:(k==2)=false:=by simpa using h2
 have h3:(k==4)=false:=by simpa using h3
 have h4:(k==5)=false:=by simpa using h4
 have h5:(k==6)=false:=by simpa using h5
 have h6:(k==7)=false:=by simpa using h6
 have h7:(k==8)=false:=by simpa using h7
 have h8:(k==9)=false:=by simpa using h8
 simp[LG,h1,h2,h3,h4,h5,h6,h7,h8,az]
end Go.VS.Sp
namespace Go.VS.Sp
theorem an8(c:Cl):cG c.rf=cG c:=by
 unfold Cl.rf;split<;>rfl
end Go.VS.Sp
namespace Go.VS.M
open Go.VS.Sp
theorem an9{k sz ot:Int}:dQ k sz ot=0↔k=1/\sz=0/\ot=0:=by
 unfold dQ;by_cases h1:k=1
 .by_cases h2:sz=0/\ot=0
  .obtain⟨rfl,rfl⟩:=h2;simp[h1]
  .have:(sz != 0||ot != 0)=true:=by simp;omega
   simp[h1,this];exact λh=>λh'=>h2 ⟨h,h'⟩
 .simp[h1]
def Jp(k sz ot own cnt time:Int)(hs:List Int)(q:List Sp.W)(bs:List Int)(cs:List (List D))(cl:Bool)(val:Int)(o t p:Int):Rp :=
 if dQ k sz ot=0 then(if jI own cnt time hs q bs cs cl val=true then l9 own q o t p else zr 1)else zr (dQ k sz ot)
theorem Vd(nm:D)(k sz ot own cnt time:Int)(hn:Bool)(hs:List Int)(qn:Bool)(q:List Sp.W)(bn:Bool)(bs:List Int)(cn:Bool)(cs:List (List D))(cl:Bool)(val:Int)(t o v p n:Int)
  (h1:hs.length<=1000000)(h2:q.length<=1000000)(h3:bs.length<=1000000)(h4:cs.length<=1000000)(gi:qn=true->q=[]):
  jJ (ev P (.call AA [.d (.ag [nm,I' k,I' sz,I' ot]),.d (.ag [I' own,I' cnt,I' time,hD hn hs,qD qn q,hD bn bs,cD cn cs,.b cl,I' val]),.d (.ag [I' t,I' o,I' v,I' p,I' n])] []))
   (Jp k sz ot own cnt time hs q bs cs cl val o t p):=by
 have hC:=qy nm k sz ot own cnt time hn hs qn q bn bs cn cs cl val h1 h2 h3 h4;unfold Jp;by_cases hm:dQ k sz ot=0
 .rw[aK hm]at hC⊢
  by_cases hv:jI own cnt time hs q bs cs cl val=true
  .rw[aK hv]
   obtain⟨⟨rfl,rfl,rfl,rfl,rfl,rfl,rfl⟩,hl,m⟩:=Jg.1 hv;obtain⟨rfl,rfl,rfl⟩:=an9.1 hm;exact amE nm hn qn bn cn own q t o v p n gi h2 m.desc hv
  .rw[aD hv]at hC⊢
   exact amF _ _ _ _ _ _ _ _ _ _ _ _ _ _ _ _ _ _ 1 (by decide) hC
 .rw[aD hm]at hC⊢
  exact amF _ _ _ _ _ _ _ _ _ _ _ _ _ _ _ _ _ _ _ hm hC
def ps:List (List D):=[[I' 0],[I' 0],[I' 5],[I' 5]]
end Go.VS.M
namespace Go.VS.Sp
end Go.VS.Sp
namespace Go.VS.Sp
theorem aoa(t a b c d e:Int):ev P (.call Ej [.d (.ag [I' a,I' b,I' c,I' d,I' e]),.d (.ref [I' t])] [])=some (.val (.d (.b (a != t))) []):=by
 rw[au aeT rfl];simp[RY]
theorem aob{f:Nat}{first caps:List D}{p:W->Bool}(nl:Bool)(l:List W)(hn:l.length<=1000000)
  (hp:∀a b c d e,ev P (.call f (first.map V.d++[.d (.ag [I' a,I' b,I' c,I' d,I' e])]++caps.map V.d) [])=some (.val (.d (.b (p ⟨a,b,c,d,e⟩))) []))
  (R:Option ej)(hR:R=some (.out (.exit 0) [(5,uL 5 (.d (.sl 5 true [])) ((l.filter p).map W.row))] (uM 5 ((l.filter p).map W.row)))):
  ∀(suf pre:List W),l=pre++suf ->
  ev P (.loop 0 [1,5,8,9,10] Mr [(1,.d (.fn f first caps)),(5,uL 5 (.d (.sl 5 true [])) ((pre.filter p).map W.row)),(8,.d (.sl 5 nl (l.map W.row))),(9,.d (I' l.length)),(10,.d (I' pre.length))] (uM 5 ((pre.filter p).map W.row)))=R:=by
 intro suf;induction suf with
 |nil =>
  intro pre hl;have Io:l=pre:=by simp[hl]
  subst Io;rw[bS,hR]
  conv=>lhs;arg 4;unfold Mr
  cases hf:l.filter p with
  |nil=>simp[uL,uM]
  |cons a r=>simp[uL,uM,ak,cut,W.row]
 |cons w suf ih =>
  intro pre hl;clear hR;have hg:l[pre.length]?=some w:=by simp[hl]
  have hlt:(pre.length:Int)<l.length:=by simp[hl];omega
  have hnext:IntKind.i64.wrap ((pre.length:Int)+1)=pre.length+1:=wrap_i64 (by omega) (by omega)
  have bB:=ih (pre++[w]) (by simp[hl])
  simp at bB hp;rw[bS]
  conv=>lhs;arg 4;unfold Mr
  cases hf:pre.filter p with
  |nil =>
   simp[hlt,hg,W.row,hp,tD,uL,uM];cases hw:p w
   .simp[hw,hnext,hf,uL,uM,ak]at bB⊢
    exact bB
   .have hr:1<=room:=by decide
    simp[hw,hnext,hf,hr,uL,uM,ak,W.row]at bB⊢;exact bB
  |cons a r =>
   have hrl:r.length<1000000:=by
    have h1:(pre.filter p).length<=pre.length:=vw _ _;have h2:pre.length<=l.length:=by simp[hl]
    rw[hf]at h1;simp at h1;omega
   have hr:r.length+1+1<=room:=by unfold room;omega
   simp[hlt,hg,W.row,hp,tD,uL,uM];cases hw:p w
   .simp[hw,hnext,hf,uL,uM,ak,W.row]at bB⊢
    exact bB
   .simp[hw,hnext,hf,hr,uL,uM,ak,W.row,aq,bk,cI,cz]at bB⊢
    exact bB
end Go.VS.Sp
namespace Go.VS.Sp
def BA(task prio now:Int):Bool:=decide (task<0)||decide (16<=task)||decide (prio<0)||decide (9<prio)||decide (now<0)||decide (1099511627776<now)
def jB(s:S)(task op value prio now:Int):Int :=
 if BA task prio now=true then 2 else if(op==68||op==69||op==70||op==71)=false then 8 else
 if(op==68&&!num value)=true then 2 else if(s.Q.any λw=>w.task==task)=true then 17 else
 if(op==69&&decide (0<=jR s.C task))=true then 6 else if((op==71||op==70)&&!decide (0<=jR s.C task))=true then 20 else 0
theorem Jq(s:S)(hs:s.sm)(task op value prio now:Int):
  ev P (.call QF [.d (.ag s.row),.d (.ag [I' task,I' op,I' value,I' prio,I' now])] [])=some (.val (.d (I' (jB s task op value prio now))) []):=by
 have hF:=lD s.qn s.Q task hs.q;rw[AX]at hF;have mU:=HU (I' s.own) (I' s.cnt) (I' s.time) (hD s.hn s.H) (qD s.qn s.Q) (hD s.bn s.B) (.b s.cl) (I' s.val) s.cn s.C task hs.c;have hN:=SL value;unfold jB;generalize (s.Q.any λw=>w.task==task)=a at *
 generalize (ju s.Q task).1=fi at *;generalize jR s.C task=fk at *;generalize num value=nv at *;rw[au aew rfl];cases hb:(decide (task<0)||decide (16<=task)||decide (prio<0)||decide (9<prio)||decide (now<0)||decide (1099511627776<now))
 .have kI:BA task prio now=false:=hb
  rw[kI];by_cases eZ:op=68
  .subst eZ
   cases nv<;>cases a<;>simp[vS,hb,hN,hF,mU]
  .have SM:(op==68)=false:=by simp[eZ]
   by_cases kJ:op=69
   .subst kJ
    cases a
    .by_cases hk:0<=fk<;>simp[vS,hb,hF,mU,hk]
    .simp[vS,hb,hF,mU]
   .have aoc:(op==69)=false:=by simp[kJ]
    by_cases fG:op=70
    .subst fG
     cases a
     .by_cases hk:0<=fk<;>simp[vS,hb,hF,mU,hk]
     .simp[vS,hb,hF,mU]
    .have M3:(op==70)=false:=by simp[fG]
     by_cases l6:op=71
     .subst l6
      cases a
      .by_cases hk:0<=fk<;>simp[vS,hb,hF,mU,hk]
      .simp[vS,hb,hF,mU]
     .have aod:(op==71)=false:=by simp[l6]
      simp[vS,hb,SM,aoc,M3,aod]
 .have kI:BA task prio now=true:=hb
  simp[vS,hb,kI]
structure Z where
 o:D
 c:D
 t:D
 h:D
 b:D
 l:D
 v:D
structure cC where
 task:Int
 op:Int
 value:Int
 deriving DecidableEq
def cC.row(w:cC):List D:=[I' w.task,I' w.op,I' w.value,.b true,I' (-1)]
inductive Wo where
 |nil
 |a0(l:List cC)
 |a1(l:List cC)
def bD(z:Z)(sz:Int)(q c w:V):O:=.gJ 11 [[.d (I' sz),.d z.o,.d z.c,.d z.t,.d z.h,q,.d z.b,c,.d z.l,.d z.v,w]]
def bM(z:Z)(sz:Int)(q c w:D):O:=.aG 11 true [[I' sz,z.o,z.c,z.t,z.h,q,z.b,c,z.l,z.v,w]]
def hB(z:Z)(sz:Int)(q:D)(C:List K):Option (List (List D))->Wo->List O
 |none,.nil=>[bM z sz q (.sl 2 true []) (.sl 5 true [])]
 |none,.a0 l=>[bD z sz (.d q) (.d (.sl 2 true [])) (.aR 1 0 l.length),.aG 5 true (l.map cC.row)]
 |none,.a1 l=>[bD z sz (.d q) (.d (.sl 2 true [])) (.aR 2 0 l.length),.dead,.aG 5 true (l.map cC.row)]
 |some T,.nil=>[bD z sz (.d q) (.aR 1 0 C.length) (.d (.sl 5 true [])),.aG 2 true (C.map K.row++T)]
 |some T,.a0 l=>[bD z sz (.d q) (.aR 1 0 C.length) (.aR 2 0 l.length),.aG 2 true (C.map K.row++T),.aG 5 true (l.map cC.row)]
 |some T,.a1 l=>[bD z sz (.d q) (.aR 1 0 C.length) (.aR 3 0 l.length),.aG 2 true (C.map K.row++T),.dead,.aG 5 true (l.map cC.row)]
theorem dy:List.range 2=[0,1]:=rfl
theorem dz:List.range 3=[0,1,2]:=rfl
theorem eH:List.range 4=[0,1,2,3]:=rfl
theorem cq:List.range 5=[0,1,2,3,4]:=rfl
theorem Vl(z:Z)(sz:Int)(q:D)(C:List K) (cs)(t op v p k x:Int):
  ev P (.call G7 [.loc 0 0 0,.d (.ag [I' t,I' op,I' v,I' p,I' k]),.d (I' x)] (hB z sz q C cs .nil))=some (.val (.tu []) (hB z sz q C cs (.a0 [⟨t,op,x⟩]))):=by
 have hr:1<=room:=by unfold room;omega
 rw[au X7 rfl];rcases cs with _ |T<;>simp[MA,hB,bM,bD,cC.row,ak,cut,dy,dz,eH,an,az,hr,V.aZ]
theorem Jr(z:Z)(sz:Int)(q:D)(C:List K) (cs)(l:List cC)(t op v p k x:Int)(hl:l.length<=1000000):
  ev P (.call G7 [.loc 0 0 0,.d (.ag [I' t,I' op,I' v,I' p,I' k]),.d (I' x)] (hB z sz q C cs (.a0 l)))=some (.val (.tu []) (hB z sz q C cs (.a1 (l++[⟨t,op,x⟩])))):=by
 have hr:l.length+1<=room:=by unfold room;omega
 rw[au X7 rfl];rcases cs with _ |T<;>simp[MA,hB,bM,bD,cC.row,ak,cut,dy,dz,eH,cq,an,az,hr,V.aZ,bk,cz]
end Go.VS.Sp
namespace Go.VS.Sp
theorem w7(nl:Bool)(q:List W)(gi:nl=true->q=[])(hn:q.length<=1000000):
  ev P (.call sv [.d (qD nl q)] [])=if nl=true then some (.val (.d (.sl 5 true [])) [])else some (.val (.aR 0 0 q.length) [.aG 5 true (q.map W.row)]):=by
 rw[au MT rfl];cases nl
 .have hr:q.length<=room:=by unfold room;omega
  cases q with
  |nil=>simp[qw,eK,fN,ak,cut,az]
  |cons a r =>
   simp at hr;simp[qw,eK,fN,ak,cut,hr,az]
 .simp[qw,az]
theorem aoe(nl:Bool)(q:List K)(gi:nl=true->q=[])(hn:q.length<=1000000):
  ev P (.call G6 [.d (cD nl q)] [])=if nl=true then some (.val (.d (.sl 2 true [])) [])else some (.val (.aR 0 0 q.length) [.aG 2 true (q.map K.row)]):=by
 rw[au X6 rfl];cases nl
 .have hr:q.length<=room:=by unfold room;omega
  cases q with
  |nil=>simp[AQ,eK,fN,ak,cut,az]
  |cons a r =>
   simp at hr;simp[AQ,eK,fN,ak,cut,hr,az]
 .simp[AQ,az]
def dh(z:Z)(sz:Int)(qn:Bool)(Q:List W)(cn:Bool)(C:List K):List O :=
 match qn,cn with
 |true,true=>[bM z sz (.sl 5 true []) (.sl 2 true []) (.sl 5 true [])]
 |true,false=>[bD z sz (.d (.sl 5 true [])) (.aR 1 0 C.length) (.d (.sl 5 true [])),.aG 2 true (C.map K.row)]
 |false,true=>[bD z sz (.aR 1 0 Q.length) (.d (.sl 2 true [])) (.d (.sl 5 true [])),.aG 5 true (Q.map W.row)]
 |false,false=>[bD z sz (.aR 1 0 Q.length) (.aR 2 0 C.length) (.d (.sl 5 true [])),.aG 5 true (Q.map W.row),.aG 2 true (C.map K.row)]
theorem OI(z:Z)(x0 x1 x3:D)(sz:Int)(qn:Bool)(Q:List W)(cn:Bool)(C:List K)(h1:qn=true->Q=[])(h2:cn=true->C=[])(h3:Q.length<=1000000)(h4:C.length<=1000000):
  ev P (.call KP [.d (.ag [x0,x1,I' sz,x3]),.d (.ag [z.o,z.c,z.t,z.h,qD qn Q,z.b,cD cn C,z.l,z.v])] [])=some (.val (.loc 0 0 0) (dh z sz qn Q cn C)):=by
 have hC:=aoe cn C h2 h4;have Jl:=w7 qn Q h1 h3;rw[au aex rfl];cases qn<;>cases cn<;>simp at hC Jl <;>
  simp[RK,hC,Jl,aJ,eK,fN,V.aZ,dh,bM,bD,ak,cut,dy,dz,eH,cq,an,az,aq]
end Go.VS.Sp
namespace Go.VS.Sp
theorem aof(nl:Bool)(q:List Int)(gi:nl=true->q=[])(hn:q.length<=1000000):
  ev P (.call tw [.d (hD nl q)] [])=if nl=true then some (.val (.d (.sl 1 true [])) [])else some (.val (.aR 0 0 q.length) [.aG 1 true (bX q)]):=by
 rw[au SB rfl];cases nl
 .have hr:q.length<=room:=by unfold room;omega
  cases q with
  |nil=>simp[rA,eK,fN,ak,cut,az]
  |cons a r =>
   simp at hr;simp[rA,eK,fN,ak,cut,hr,az]
 .simp[rA,az]
theorem zU{α β:Type}{f:α->β}{r:List α}{x:β}:List.take (r.length+1) (r.map f++[x])=r.map f++[x]:=gC (by simp)
theorem aog{α:Type}{A B:List α}{x y:α}{n:Nat}(h:A.length=n):(A++x::B).set n y=A++y::B:=by
 subst h;simp
theorem OJ{α:Type}{A B:List α}{x:α}{n:Nat}(h:A.length=n):(A++x::B)[n]?=some x:=by
 subst h;simp
inductive Hs where
 |b0
 |b1(l:List cC)
 |c(Q:List W)
def hX(z:Z)(sz:Int)(q:D)(n:Nat)(R:List (List D)):Hs->List O
 | .b0=>[bD z sz (.d q) (.aR 1 0 n) (.d (.sl 5 true [])),.aG 2 true R]
 | .b1 l=>[bD z sz (.d q) (.aR 1 0 n) (.aR 2 0 l.length),.aG 2 true R,.aG 5 true (l.map cC.row)]
 | .c Q=>[bD z sz (.d q) (.aR 2 0 n) (.d (.sl 5 true [])),.aG 5 false (Q.map W.row),.aG 2 true R]
def Hs.m:Hs->Nat
 | .b0=>2
 | .b1 _=>3
 | .c _=>3
def gr(Q:List W)(v:Int)(c:K):K:=if jl Q c.task 70=true then c else⟨c.task,false,c.log++[v]⟩
theorem Vm(z:Z)(sz:Int)(qn:Bool)(Q:List W)(v:Int)(n:Nat)(T:List (List D))(sh:Hs)(hq:Q.length<=1000000)(hn:n<=1000000):∀(suf:List K)(A:List (List D)),A.length+suf.length=n ->
  (∀c∈suf,(c.nl=true->c.log=[])/\c.log.length<=100000) ->
  ev P (.loop sh.m [0,1,14,15] AL [(0,.loc 0 0 0),(1,.d (I' v)),(14,.d (I' n)),(15,.d (I' A.length))] (hX z sz (qD qn Q) n (A++(suf.map K.row++T)) sh)) =
   some (.out (.exit 0) [(0,.loc 0 0 0),(1,.d (I' v))] (hX z sz (qD qn Q) n (A++((suf.map (gr Q v)).map K.row++T)) sh)):=by
 intro suf;induction suf with
 |nil =>
  intro A hl _
  have:n=A.length:=by simp at hl;exact hl.symm
  rw[bS]
  conv=>lhs;arg 4;unfold AL
  cases sh<;>simp[this,hX,Hs.m,bD,ak,cut,dy,dz,an]
 |cons c suf ih =>
  intro A hl hc;have hlt:(A.length:Int)<n:=by simp at hl;omega
  have jD:A.length<n:=by simp at hl;omega
  have hnext:IntKind.i64.wrap ((A.length:Int)+1)=A.length+1:=wrap_i64 (by omega) (by omega)
  have hC:=aof c.nl c.log (hc c (by simp)).1 (by have:=(hc c (by simp)).2;omega)
  have hr:c.log.length+1<=room:=by have:=(hc c (by simp)).2;unfold room;omega
  have hrow:c.row=[I' c.task,hD c.nl c.log]:=rfl;have hw:∀d0 d1 d2 d3 d5 d6 d7 d8:D,ev P (.call G8 [.d (.ag [d0,d1,d2,d3,qD qn Q,d5,d6,d7,d8]),.d (I' c.task),.d (I' 70)] [])=some (.val (.d (.b (jl Q c.task 70))) []):=λd0 d1 d2 d3 d5 d6 d7 d8=>Yg d0 d1 d2 d3 d5 d6 d7 d8 qn Q c.task 70 hq
  have e0:A++((c::suf).map K.row++T)=A++c.row::(suf.map K.row++T):=by simp
  have e1:A++(((c::suf).map (gr Q v)).map K.row++T)=A++[(gr Q v c).row]++((suf.map (gr Q v)).map K.row++T):=by simp
  have bB:=ih (A++[(gr Q v c).row]) (by simp at hl⊢;omega) (λx hx=>hc x (by simp[hx]))
  rw[e0,e1,<-bB];have e2:A++[(gr Q v c).row]++(suf.map K.row++T)=A++(gr Q v c).row::(suf.map K.row++T):=by simp
  rw[e2];have hB:n<=A.length+((suf.map K.row++T).length+1):=by simp at hl⊢;omega
  generalize suf.map K.row++T=B at *;have rT:=OJ (A:=A) (B:=B) (x:=c.row) (n:=A.length) rfl;have BB:=λy=>aog (A:=A) (B:=B) (x:=c.row) (y:=y) (n:=A.length) rfl
  simp only[lT,uk];generalize hR:ev P (.loop sh.m [0,1,14,15] AL [(0,.loc 0 0 0),(1,.d (I' v)),(14,.d (I' n)),(15,.d (I' (A.length+1:Nat)))] (hX z sz (qD qn Q) n (A++(gr Q v c).row::B) sh))=R;rw[bS]
  conv=>lhs;arg 4;unfold AL
  cases Bz:jl Q c.task 70
  .have hp:gr Q v c=⟨c.task,false,c.log++[v]⟩:=by simp[gr,Bz]
   rw[hp]at hR;have FU:K.row ⟨c.task,false,c.log++[v]⟩=[I' c.task,.sl 1 false (bX (c.log++[v]))]:=rfl;rw[FU]at hR;have hw':=hw;rw[Bz]at hw';cases gi:c.nl
   .rw[gi]at hC hrow
    rw[hrow]at rT BB;simp at hR hC;cases sh;all_goals
     simp[hX,Hs.m,bD]at hR;simp[hlt,jD,rT,hrow,hw',hX,Hs.m,bD,ak,cut,dy,dz,an,hnext,hB,hC,aJ,hr,BB,bk,zU,br,aY,bg,cz,hR]
   .rw[gi]at hC hrow
    have iW:=(hc c (by simp)).1 gi
    rw[iW]at hrow hC hR;rw[hrow]at rT BB;simp at hR hC;have h1:1<=room:=by unfold room;omega
    cases sh;all_goals
     simp[hX,Hs.m,bD]at hR;simp[hlt,jD,rT,hrow,hw',hX,Hs.m,bD,ak,cut,dy,dz,an,hnext,hB,hC,aJ,h1,BB,bk,zU,br,aY,bg,cz,hR]
  .have hp:gr Q v c=c:=by simp[gr,Bz]
   rw[hp]at hR;have hw':=hw;rw[Bz]at hw';rw[hrow]at rT hR;simp at hR;cases sh;all_goals
    simp[hX,Hs.m,bD]at hR;simp[hlt,jD,rT,hrow,hw',hX,Hs.m,bD,ak,cut,dy,dz,an,hnext,hB,hR]
end Go.VS.Sp
namespace Go.VS.Sp
inductive Hk where
 |w0
 |w1(l:List cC)
 |wc(Q:List W)
def bH(z:Z)(sz:Int)(q:D)(C:List K)(i:Nat):Option (List (List D))->Hk->List cC->List O
 |none,.w0,[]=>[bM z sz q (.sl 2 true []) (.sl 5 true [])]
 |none,.w0,a::l=>[bD z sz (.d q) (.d (.sl 2 true [])) (.aR (1+i) 0 (a::l).length)]
 |none,.w1 l,[]=>[bD z sz (.d q) (.d (.sl 2 true [])) (.aR 1 0 l.length),.aG 5 true (l.map cC.row)]
 |none,.w1 l,a::r=>[bD z sz (.d q) (.d (.sl 2 true [])) (.aR (2+i) 0 (l++a::r).length),.dead]
 |none,.wc Q,[]=>[bM z sz q (.sl 2 true []) (.sl 5 true []),.aG 5 false (Q.map W.row)]
 |none,.wc Q,a::l=>[bD z sz (.d q) (.d (.sl 2 true [])) (.aR (2+i) 0 (a::l).length),.aG 5 false (Q.map W.row)]
 |some T,.w0,[]=>[bD z sz (.d q) (.aR 1 0 C.length) (.d (.sl 5 true [])),.aG 2 true (C.map K.row++T)]
 |some T,.w0,a::l=>[bD z sz (.d q) (.aR 1 0 C.length) (.aR (2+i) 0 (a::l).length),.aG 2 true (C.map K.row++T)]
 |some T,.w1 l,[]=>[bD z sz (.d q) (.aR 1 0 C.length) (.aR 2 0 l.length),.aG 2 true (C.map K.row++T),.aG 5 true (l.map cC.row)]
 |some T,.w1 l,a::r=>[bD z sz (.d q) (.aR 1 0 C.length) (.aR (3+i) 0 (l++a::r).length),.aG 2 true (C.map K.row++T),.dead]
 |some T,.wc Q,[]=>[bD z sz (.d q) (.aR 2 0 C.length) (.d (.sl 5 true [])),.aG 5 false (Q.map W.row),.aG 2 true (C.map K.row++T)]
 |some T,.wc Q,a::l=>[bD z sz (.d q) (.aR 2 0 C.length) (.aR (3+i) 0 (a::l).length),.aG 5 false (Q.map W.row),.aG 2 true (C.map K.row++T)]
def fH:Hk->List cC->List O
 |_,[]=>[]
 | .w1 l,a::r=>[.aG 5 true ((l++a::r).map cC.row)]
 |_,a::r=>[.aG 5 true ((a::r).map cC.row)]
def oV:List W->Nat->V
 | [],_=>.d (.sl 5 true [])
 |a::l,i=>.aR i 0 (a::l).length
def oO:List W->List O
 | []=>[]
 |a::l=>[.aG 5 true ((a::l).map W.row)]
def cH(z:Z)(sz:Int)(q:D)(C:List K)(cs:Option (List (List D)))(hk:Hk)(wn:List cC)(ot:List W):List O:=bH z sz q C (oO ot).length cs hk wn++(oO ot++fH hk wn)
def gO:Option (List (List D))->Hk->Nat
 |none,.w0=>1
 |none,_=>2
 |some _,.w0=>2
 |some _,_=>3
def OK(v:Int)(w:W):cC:=⟨w.task,w.op,v⟩
def pW(v:Int)(Q:List W):List cC:=(Q.filter λw=>w.op==70).map (OK v)
def pO(Q:List W):List W:=Q.filter λw=>!(w.op==70)
def Hk.len:Hk->Nat
 | .w1 l=>l.length
 |_=>0
set_option maxHeartbeats 4000000 in
theorem aoh(z:Z)(sz:Int)(qd:D)(C:List K)(cs:Option (List (List D)))(hk:Hk)(qn:Bool)(Q:List W)(v:Int)(hq:Q.length<=100000)(hh:hk.len<=100000):∀(suf pre:List W)(wn:List cC)(ot:List W),Q=pre++suf->wn.length<=pre.length->ot.length<=pre.length ->
  ev P (.loop (gO cs hk) [0,1,6,51,52,53] AM [(0,.loc 0 0 0),(1,.d (I' v)),(6,oV ot (gO cs hk)),(51,.d (qD qn Q)),(52,.d (I' Q.length)),(53,.d (I' pre.length))] (cH z sz qd C cs hk wn ot)) =
   some (.out (.exit 2) [(0,.loc 0 0 0),(6,oV (ot++pO suf) (gO cs hk))] (cH z sz qd C cs hk (wn++pW v suf) (ot++pO suf))):=by
 intro suf;induction suf with
 |nil =>
  intro pre wn ot hl _ _
  have:Q.length=pre.length:=by simp[hl]
  rw[bS]
  conv=>lhs;arg 4;unfold AM
  rcases cs with _ |T<;>rcases hk with _ |l |Q0<;>rcases wn with _ |⟨a,wn⟩<;>rcases ot with _ |⟨b,ot⟩ <;>
   simp[this,pW,pO,cH,bH,fH,oV,oO,gO,bD,bM,ak,cut,dy,dz,an]
 |cons w suf ih =>
  intro pre wn ot hl h1 h2;have hg:Q[pre.length]?=some w:=by simp[hl]
  have hlt:(pre.length:Int)<Q.length:=by simp[hl];omega
  have fm:pre.length<Q.length:=by simp[hl]
  have hnext:IntKind.i64.wrap ((pre.length:Int)+1)=pre.length+1:=wrap_i64 (by omega) (by omega)
  cases ho:w.op==70
  .have e1:pW v (w::suf)=pW v suf:=by simp[pW,ho]
   have e2:ot++pO (w::suf)=ot++[w]++pO suf:=by simp[pO,ho]
   have bB:=ih (pre++[w]) wn (ot++[w]) (by simp[hl]) (by simp;omega) (by simp;omega)
   rw[e1,e2,<-bB];generalize hR:ev P (.loop (gO cs hk) [0,1,6,51,52,53] AM [(0,.loc 0 0 0),(1,.d (I' v)),(6,oV (ot++[w]) (gO cs hk)),(51,.d (qD qn Q)),(52,.d (I' Q.length)),(53,.d (I' (pre++[w]).length))] (cH z sz qd C cs hk wn (ot++[w])))=R;rw[bS]
   conv=>lhs;arg 4;unfold AM
   rcases ot with _ |⟨b,ot⟩
   .have hr:1<=room:=by unfold room;omega
    rcases cs with _ |T<;>rcases hk with _ |l |Q0<;>rcases wn with _ |⟨a,wn⟩;all_goals
     simp[cH,bH,fH,oV,oO,gO,bD,bM,W.row]at hR;simp[hlt,hg,W.row,ho,hnext,cH,bH,fH,oV,oO,gO,bD,bM,ak,cut,dy,dz,an,hr,hR]
   .have hr:ot.length+1+1<=room:=by unfold room;simp at h2;omega
    rcases cs with _ |T<;>rcases hk with _ |l |Q0<;>rcases wn with _ |⟨a,wn⟩;all_goals
     simp[cH,bH,fH,oV,oO,gO,bD,bM,W.row]at hR;simp[hlt,hg,W.row,ho,hnext,cH,bH,fH,oV,oO,gO,bD,bM,ak,cut,dy,dz,an,hr,bk,cz,hR]
  .have e1:wn++pW v (w::suf)=wn++[⟨w.task,w.op,v⟩]++pW v suf:=by simp[pW,ho,OK]
   have e2:pO (w::suf)=pO suf:=by simp[pO,ho]
   have bB:=ih (pre++[w]) (wn++[⟨w.task,w.op,v⟩]) ot (by simp[hl]) (by simp;omega) (by simp;omega)
   rw[e1,e2,<-bB];generalize hR:ev P (.loop (gO cs hk) [0,1,6,51,52,53] AM [(0,.loc 0 0 0),(1,.d (I' v)),(6,oV ot (gO cs hk)),(51,.d (qD qn Q)),(52,.d (I' Q.length)),(53,.d (I' (pre++[w]).length))] (cH z sz qd C cs hk (wn++[⟨w.task,w.op,v⟩]) ot))=R;rw[bS]
   conv=>lhs;arg 4;unfold AM
   rcases wn with _ |⟨a,wn⟩
   .rcases hk with _ |l |Q0
    .have hw:=Vl z sz qd C cs w.task w.op w.value w.prio w.case v
     rcases cs with _ |T<;>rcases ot with _ |⟨b,ot⟩;all_goals
      simp[hB,bD,bM,cC.row]at hw;simp[cH,bH,fH,oV,oO,gO,bD,bM,cC.row,W.row]at hR;simp[hlt,hg,W.row,ho,hnext,cH,bH,fH,oV,oO,gO,bD,bM,ak,cut,dy,dz,an,hw,aA,sub,aE,back,hR]
    .have hw:=Jr z sz qd C cs l w.task w.op w.value w.prio w.case v (by simp[Hk.len]at hh;omega)
     rcases cs with _ |T<;>rcases ot with _ |⟨b,ot⟩;all_goals
      simp[hB,bD,bM,cC.row]at hw;simp[cH,bH,fH,oV,oO,gO,bD,bM,cC.row,W.row]at hR;simp[hlt,hg,W.row,ho,hnext,cH,bH,fH,oV,oO,gO,bD,bM,ak,cut,dy,dz,an,hw,aA,sub,aE,back,hR]
    .have hw:=Vl z sz qd C cs w.task w.op w.value w.prio w.case v
     rcases cs with _ |T<;>rcases ot with _ |⟨b,ot⟩;all_goals
      simp[hB,bD,bM,cC.row]at hw;simp[cH,bH,fH,oV,oO,gO,bD,bM,cC.row,W.row]at hR;simp[hlt,hg,W.row,ho,hnext,cH,bH,fH,oV,oO,gO,bD,bM,ak,cut,dy,dz,an,hw,aA,sub,aE,back,hR]
   .rcases hk with _ |l |Q0
    .have hw:=Jr z sz qd C cs (a::wn) w.task w.op w.value w.prio w.case v (by simp at h1⊢;omega)
     rcases cs with _ |T<;>rcases ot with _ |⟨b,ot⟩;all_goals
      simp[hB,bD,bM,cC.row]at hw;simp[cH,bH,fH,oV,oO,gO,bD,bM,cC.row,W.row]at hR;simp[hlt,hg,W.row,ho,hnext,cH,bH,fH,oV,oO,gO,bD,bM,cC.row,ak,cut,dy,dz,an,hw,aA,sub,aE,back,hR]
    .have hw:=Jr z sz qd C cs (l++a::wn) w.task w.op w.value w.prio w.case v (by simp[Hk.len]at h1 hh⊢;omega)
     rcases cs with _ |T<;>rcases ot with _ |⟨b,ot⟩;all_goals
      simp[hB,bD,bM,cC.row]at hw;simp[cH,bH,fH,oV,oO,gO,bD,bM,cC.row,W.row]at hR;simp[hlt,hg,W.row,ho,hnext,cH,bH,fH,oV,oO,gO,bD,bM,cC.row,ak,cut,dy,dz,an,hw,aA,sub,aE,back,hR]
    .have hw:=Jr z sz qd C cs (a::wn) w.task w.op w.value w.prio w.case v (by simp at h1⊢;omega)
     rcases cs with _ |T<;>rcases ot with _ |⟨b,ot⟩;all_goals
      simp[hB,bD,bM,cC.row]at hw;simp[cH,bH,fH,oV,oO,gO,bD,bM,cC.row,W.row]at hR;simp[hlt,hg,W.row,ho,hnext,cH,bH,fH,oV,oO,gO,bD,bM,cC.row,ak,cut,dy,dz,an,hw,aA,sub,aE,back,hR]
end Go.VS.Sp
namespace Go.VS.Sp
def pH(z:Z)(sz:Int)(qn:Bool)(Q:List W)(C:List K):Option (List (List D))->Hk->List O
 |cs,.w0=>hB z sz (qD qn Q) C cs .nil
 |cs,.w1 l=>hB z sz (qD qn Q) C cs (.a0 l)
 |none,.wc _=>[bD z sz (.aR 1 0 Q.length) (.d (.sl 2 true [])) (.d (.sl 5 true [])),.aG 5 true (Q.map W.row)]
 |some T,.wc _=>[bD z sz (.aR 1 0 Q.length) (.aR 2 0 C.length) (.d (.sl 5 true [])),.aG 5 true (Q.map W.row),.aG 2 true (C.map K.row++T)]
def Kok(C:List K):Prop:=∀c∈C,(c.nl=true->c.log=[])/\c.log.length<=100000
def qO(Q:List W):D:=qD (decide (Q=[])) Q
def pR(z:Z)(sz:Int)(q:D)(C:List K)(cs:Option (List (List D)))(hk:Hk)(wn:List cC):List O:=bH z sz q C 0 cs hk wn++fH hk wn
theorem aoi(z:Z)(sz:Int)(qn:Bool)(Q:List W)(v:Int)(C:List K)(cs:Option (List (List D)))(hk:Hk)(hq:Q.length<=100000)(hh:hk.len<=100000):
  ev P (.loop (gO cs hk) [0,1,6,51,52,53] AM [(0,.loc 0 0 0),(1,.d (I' v)),(6,.d (.sl 5 true [])),(51,.d (qD qn Q)),(52,.d (I' Q.length)),(53,.d (I' 0))] (bH z sz (qD qn Q) C 0 cs hk [])) =
   some (.out (.exit 2) [(0,.loc 0 0 0),(6,oV (pO Q) (gO cs hk))] (cH z sz (qD qn Q) C cs hk (pW v Q) (pO Q))):=by
 have h:=aoh z sz (qD qn Q) C cs hk qn Q v hq hh Q [] [] [] rfl (by simp) (by simp)
 have e1:cH z sz (qD qn Q) C cs hk [] []=bH z sz (qD qn Q) C 0 cs hk []:=by
  cases cs<;>cases hk<;>simp[cH,oO,bH,fH]
 rw[e1]at h;have e2:(([]:List W).length:Int)=0:=rfl;rw[e2,mu,mu]at h;exact h
set_option maxHeartbeats 4000000 in
theorem aoj(z:Z)(sz:Int)(qn:Bool)(Q:List W)(v:Int)(C:List K)(cs:Option (List (List D)))(hk:Hk)(uc:cs=none->C=[])(hq:Q.length<=100000)(hc:C.length<=100000)(hC:Kok C)(hh:hk.len<=100000)(p7:∀Q0,hk = .wc Q0->Q0=Q/\qn=false):
  ev P (.call KR [.loc 0 0 0,.d (I' v)] (pH z sz qn Q C cs hk))=some (.val (.tu []) (pR z sz (qO (pO Q)) (C.map (gr Q v)) cs hk (pW v Q))):=by
 have hL:=aoi z sz qn Q v (C.map (gr Q v)) cs hk hq hh;generalize hwn:pW v Q=wn at *;generalize lG:pO Q=ot at *;rw[au aeH rfl];rcases cs with _ |T
 .obtain rfl:=uc rfl
  rcases hk with _ |l |Q0
  .rcases wn with _ |⟨a,wn⟩<;>rcases ot with _ |⟨b,ot⟩
   all_goals
    simp[cH,bH,fH,oV,oO,gO,bD,bM]at hL;simp[AN,AL,bS,aY,bg,br,pH,pR,qO,hB,cH,bH,fH,oV,oO,gO,bD,bM,ak,cut,dy,dz,an,bk,hL,az,W.row]
  .rcases wn with _ |⟨a,wn⟩<;>rcases ot with _ |⟨b,ot⟩
   all_goals
    simp[cH,bH,fH,oV,oO,gO,bD,bM]at hL;simp[AN,AL,bS,aY,bg,br,pH,pR,qO,hB,cH,bH,fH,oV,oO,gO,bD,bM,ak,cut,dy,dz,an,bk,hL,az,W.row]
  .obtain⟨rfl,rfl⟩:=p7 Q0 rfl
   rcases wn with _ |⟨a,wn⟩<;>rcases ot with _ |⟨b,ot⟩;all_goals
    simp[cH,bH,fH,oV,oO,gO,bD,bM]at hL;simp[AN,AL,bS,aY,bg,br,pH,pR,qO,hB,cH,bH,fH,oV,oO,gO,bD,bM,ak,cut,dy,dz,an,bk,hL,az,W.row]
 .rcases hk with _ |l |Q0
  .have hM:=Vm z sz qn Q v C.length T .b0 (by omega) (by omega) C [] (by simp) hC
   rcases wn with _ |⟨a,wn⟩<;>rcases ot with _ |⟨b,ot⟩;all_goals
    simp[cH,bH,fH,oV,oO,gO,bD,bM,-List.map_map]at hL;simp[hX,Hs.m,bD,-List.map_map]at hM;simp[AN,aY,bg,br,pH,pR,qO,hB,cH,bH,fH,oV,oO,gO,bD,bM,ak,cut,dy,dz,an,bk,hM,hL,az,W.row,-List.map_map]
  .have hM:=Vm z sz qn Q v C.length T (.b1 l) (by omega) (by omega) C [] (by simp) hC
   rcases wn with _ |⟨a,wn⟩<;>rcases ot with _ |⟨b,ot⟩;all_goals
    simp[cH,bH,fH,oV,oO,gO,bD,bM,-List.map_map]at hL;simp[hX,Hs.m,bD,-List.map_map]at hM;simp[AN,aY,bg,br,pH,pR,qO,hB,cH,bH,fH,oV,oO,gO,bD,bM,ak,cut,dy,dz,an,bk,hM,hL,az,W.row,-List.map_map]
  .obtain⟨rfl,rfl⟩:=p7 Q0 rfl
   have hM:=Vm z sz false Q0 v C.length T (.c Q0) (by omega) (by omega) C [] (by simp) hC
   rcases wn with _ |⟨a,wn⟩<;>rcases ot with _ |⟨b,ot⟩;all_goals
    simp[cH,bH,fH,oV,oO,gO,bD,bM,-List.map_map]at hL;simp[hX,Hs.m,bD,-List.map_map]at hM;simp[AN,aY,bg,br,pH,pR,qO,hB,cH,bH,fH,oV,oO,gO,bD,bM,ak,cut,dy,dz,an,bk,hM,hL,az,W.row,-List.map_map]
end Go.VS.Sp
namespace Go.VS.Sp
def hk1:List cC->Hk
 | []=>.w0
 |a::l=>.w1 (a::l)
set_option maxHeartbeats 4000000 in
theorem aok(z:Z)(sz:Int)(qn:Bool)(Q:List W)(C:List K)(cs:Option (List (List D)))(wn:List cC)(w:W)(uc:cs=none->C=[])(hq:Q.length<=100000)(hc:C.length<=100000)(hC:Kok C)(hh:wn.length<=99999):
  ev P (.round [5] Hv Hw [.d (.ag [I' w.task,I' w.op,I' w.value,I' w.prio,I' w.case])] [(1,.rf [.loc 0 0 0])] (pH z sz qn Q C cs (hk1 wn))) =
   some (.out .normal [] (pR z sz (qO (pO Q)) (C.map (gr Q w.value)) cs (hk1 wn) (⟨w.task,w.op,0⟩::pW w.value Q))):=by
 have hP:=aoj z sz qn Q w.value C cs (.w1 (wn++[⟨w.task,w.op,0⟩])) uc hq hc hC (by simp[Hk.len];omega) (by intro Q0 h;cases h)
 generalize xh:pW w.value Q=wo at *;generalize lG:pO Q=ot at *;generalize rK:C.map (gr Q w.value)=C' at *;have hl:C'.length=C.length:=by simp[<-rK]
 rw[P5];rcases wn with _ |⟨a,wn⟩
 .have hw:=Vl z sz (qD qn Q) C cs w.task w.op w.value w.prio w.case 0
  rcases cs with _ |T<;>rcases wo with _ |⟨b,wo⟩;all_goals
   simp[hB,bD,bM,cC.row]at hw;simp[pH,hB,pR,bH,fH,bD,bM,cC.row,qO,hl]at hP;simp[Hv,Hw,hk1,pH,pR,qO,hB,cH,bH,fH,oV,oO,gO,bD,bM,ak,cut,dy,dz,eH,an,bk,aA,sub,aE,back,hw,hP,cC.row,hl]
 .have hw:=Jr z sz (qD qn Q) C cs (a::wn) w.task w.op w.value w.prio w.case 0 (by simp at hh⊢;omega)
  rcases cs with _ |T<;>rcases wo with _ |⟨b,wo⟩;all_goals
   simp[hB,bD,bM,cC.row]at hw;simp[pH,hB,pR,bH,fH,bD,bM,cC.row,qO,hl]at hP;simp[Hv,Hw,hk1,pH,pR,qO,hB,cH,bH,fH,oV,oO,gO,bD,bM,ak,cut,dy,dz,eH,an,bk,aA,sub,aE,back,hw,hP,cC.row,hl]
end Go.VS.Sp
namespace Go.VS.Sp
theorem aol(A B:List (List D))(r:List D)(h:A.length+B.length<=100000):
  ev P (.call Rb [.aR 0 0 (A.length+(B.length+1)),.d (I' A.length),.d (I' (A.length+1))] [.aG 5 true (A++r::B)]) =
   some (.val (.aR 0 0 (A.length+B.length)) [.aG 5 true (A++(B++[[I' 0,I' 0,I' 0,I' 0,I' 0]]))]):=by
 have h1:(A.length:Int)<=A.length+1:=by omega
 have h2:(A.length:Int)+1<=A.length+(B.length+1):=by omega
 have h3:(0:Int)<=A.length+1:=by omega
 have h4:((A.length:Int)==A.length+1)=false:=by simp;omega
 have h7:(A.length:Int)<=A.length+(B.length+1):=by omega
 have h5:A.length+B.length<=A.length+(B.length+1):=by omega
 have h6:¬(A.length+(B.length+1)<A.length+B.length):=by omega
 rw[au afq rfl];have je:(A.length:Int)<A.length+1:=by omega
 rcases B with _ |⟨b,B⟩
 .have h9:¬((A.length:Int)+1=0):=by omega
  simp at h2 h5 h6 h7;simp[MI,ak,cut,h1,h2,h3,h4,h5,h6,h7,h9,je,az]
 .have h8:(1:Int)<B.length+1+1:=by omega
  have h9:¬((A.length:Int)+1=0):=by omega
  have h12:A.length+1+(B.length+1)<=A.length+(B.length+1+1):=by omega
  obtain⟨x,hx⟩:∃x,List.drop (B.length+1) (r::b::B)=[x]:=Gv.1 (by simp)
  have kG:¬((A.length:Int)+(B.length+1)=0):=by omega
  have j9:(0:Int)<=(A.length:Int)+(B.length+1):=by omega
  have sD:(B.length:Int)<=B.length+1:=by omega
  have oL:(B.length:Int)<B.length+1:=by omega
  have zf:((A.length:Int)+(B.length+1)).toNat=A.length+(B.length+1):=by omega
  have zg:((A.length:Int)+(B.length+1+1) - (A.length+(B.length+1))).toNat=1:=by omega
  have zh:A.length+(B.length+1)+1<=A.length+(B.length+1+1):=by omega
  have zi:List.take (A.length+(B.length+1)) (A++b::(B++[x]))=A++b::B:=by
   have:A++b::(B++[x])=(A++b::B)++[x]:=by simp
   rw[this];exact uo (by simp)
  have zj:List.drop (A.length+(B.length+1)+1) (A++b::(B++[x]))=[]:=qP (by simp;omega)
  have iK:((A.length:Int)+(B.length+1+1) - (A.length+1)).toNat=B.length+1:=by omega
  simp at h2 h5 h6 h7;simp[MI,ak,cut,h1,h2,h3,h4,h5,h6,h7,h8,h9,iK,je,h12,kG,j9,sD,oL,zf,zg,zh,zi,zj,hx,az]
theorem aom(A B:List (List D))(r:List D)(h:A.length+B.length<=100000):
  ev P (.call G2 [.aR 0 0 (A.length+(B.length+1)),.d (I' A.length),.d (I' (A.length+1))] [.aG 2 true (A++r::B)]) =
   some (.val (.aR 0 0 (A.length+B.length)) [.aG 2 true (A++(B++[[I' 0,.sl 1 true []]]))]):=by
 have h1:(A.length:Int)<=A.length+1:=by omega
 have h2:(A.length:Int)+1<=A.length+(B.length+1):=by omega
 have h3:(0:Int)<=A.length+1:=by omega
 have h4:((A.length:Int)==A.length+1)=false:=by simp;omega
 have h7:(A.length:Int)<=A.length+(B.length+1):=by omega
 have h5:A.length+B.length<=A.length+(B.length+1):=by omega
 have h6:¬(A.length+(B.length+1)<A.length+B.length):=by omega
 rw[au XX rfl];have je:(A.length:Int)<A.length+1:=by omega
 rcases B with _ |⟨b,B⟩
 .have h9:¬((A.length:Int)+1=0):=by omega
  simp at h2 h5 h6 h7;simp[EM,ak,cut,h1,h2,h3,h4,h5,h6,h7,h9,je,az]
 .have h8:(1:Int)<B.length+1+1:=by omega
  have h9:¬((A.length:Int)+1=0):=by omega
  have h12:A.length+1+(B.length+1)<=A.length+(B.length+1+1):=by omega
  obtain⟨x,hx⟩:∃x,List.drop (B.length+1) (r::b::B)=[x]:=Gv.1 (by simp)
  have kG:¬((A.length:Int)+(B.length+1)=0):=by omega
  have j9:(0:Int)<=(A.length:Int)+(B.length+1):=by omega
  have sD:(B.length:Int)<=B.length+1:=by omega
  have oL:(B.length:Int)<B.length+1:=by omega
  have zf:((A.length:Int)+(B.length+1)).toNat=A.length+(B.length+1):=by omega
  have zg:((A.length:Int)+(B.length+1+1) - (A.length+(B.length+1))).toNat=1:=by omega
  have zh:A.length+(B.length+1)+1<=A.length+(B.length+1+1):=by omega
  have zi:List.take (A.length+(B.length+1)) (A++b::(B++[x]))=A++b::B:=by
   have:A++b::(B++[x])=(A++b::B)++[x]:=by simp
   rw[this];exact uo (by simp)
  have zj:List.drop (A.length+(B.length+1)+1) (A++b::(B++[x]))=[]:=qP (by simp;omega)
  have iK:((A.length:Int)+(B.length+1+1) - (A.length+1)).toNat=B.length+1:=by omega
  simp at h2 h5 h6 h7;simp[EM,ak,cut,h1,h2,h3,h4,h5,h6,h7,h8,h9,iK,je,h12,kG,j9,sD,oL,zf,zg,zh,zi,zj,hx,az]
theorem aon(A B:List (List D))(r:List D)(h:A.length+B.length<=100000):
  ev P (.call Q5 [.aR 0 0 (A.length+(B.length+1)),.d (I' A.length),.d (I' (A.length+1))] [.aG 5 true (A++r::B)]) =
   some (.val (.aR 0 0 (A.length+B.length)) [.aG 5 true (A++(B++[[I' 0,I' 0,I' 0,.b false,I' 0]]))]):=by
 have h1:(A.length:Int)<=A.length+1:=by omega
 have h2:(A.length:Int)+1<=A.length+(B.length+1):=by omega
 have h3:(0:Int)<=A.length+1:=by omega
 have h4:((A.length:Int)==A.length+1)=false:=by simp;omega
 have h7:(A.length:Int)<=A.length+(B.length+1):=by omega
 have h5:A.length+B.length<=A.length+(B.length+1):=by omega
 have h6:¬(A.length+(B.length+1)<A.length+B.length):=by omega
 rw[au aff rfl];have je:(A.length:Int)<A.length+1:=by omega
 rcases B with _ |⟨b,B⟩
 .have h9:¬((A.length:Int)+1=0):=by omega
  simp at h2 h5 h6 h7;simp[MC,ak,cut,h1,h2,h3,h4,h5,h6,h7,h9,je,az]
 .have h8:(1:Int)<B.length+1+1:=by omega
  have h9:¬((A.length:Int)+1=0):=by omega
  have h12:A.length+1+(B.length+1)<=A.length+(B.length+1+1):=by omega
  obtain⟨x,hx⟩:∃x,List.drop (B.length+1) (r::b::B)=[x]:=Gv.1 (by simp)
  have kG:¬((A.length:Int)+(B.length+1)=0):=by omega
  have j9:(0:Int)<=(A.length:Int)+(B.length+1):=by omega
  have sD:(B.length:Int)<=B.length+1:=by omega
  have oL:(B.length:Int)<B.length+1:=by omega
  have zf:((A.length:Int)+(B.length+1)).toNat=A.length+(B.length+1):=by omega
  have zg:((A.length:Int)+(B.length+1+1) - (A.length+(B.length+1))).toNat=1:=by omega
  have zh:A.length+(B.length+1)+1<=A.length+(B.length+1+1):=by omega
  have zi:List.take (A.length+(B.length+1)) (A++b::(B++[x]))=A++b::B:=by
   have:A++b::(B++[x])=(A++b::B)++[x]:=by simp
   rw[this];exact uo (by simp)
  have zj:List.drop (A.length+(B.length+1)+1) (A++b::(B++[x]))=[]:=qP (by simp;omega)
  have iK:((A.length:Int)+(B.length+1+1) - (A.length+1)).toNat=B.length+1:=by omega
  simp at h2 h5 h6 h7;simp[MC,ak,cut,h1,h2,h3,h4,h5,h6,h7,h8,h9,iK,je,h12,kG,j9,sD,oL,zf,zg,zh,zi,zj,hx,az]
theorem aoo(a b c d e:Int):ev P (.call He [.d (.ag [I' a,I' b,I' c,I' d,I' e])] [])=some (.val (.d (.b (b==68))) []):=by
 rw[au afp rfl];simp[Sn]
theorem aop(nl:Bool)(l:List W)(hn:l.length<=1000000):
  ev P (.call xJ [.d (qD nl l),.d (.fn He [] [])] [])=some (.val (.d (I' (lF l))) []):=by
 have h:=HT (f:=He) (first:=[]) (caps:=[]) (p:=λw=>w.op==68) nl l hn (by intro a b c d e;simp[aoo])
 exact h
theorem aoq(z:Z)(sz:Int)(q:D)(C:List K)(cs:Option (List (List D))):
  ev P (.call Q3 [.loc 0 0 0] (hB z sz q C cs .nil))=some (.val (.fn Lo [] [.rf [.loc 0 0 0]]) (hB z sz q C cs .nil)):=by
 rw[au ae9 rfl];rcases cs with _ |T<;>simp[Sb,hB,bD,bM,ak,cut,dy,dz,an,az]
end Go.VS.Sp
