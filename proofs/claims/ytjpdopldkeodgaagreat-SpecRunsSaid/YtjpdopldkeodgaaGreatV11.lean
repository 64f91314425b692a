import Derived.Test.YtjpdopldkeodgaaGreatV10
import Derived.Test.YtjpdopldkeodgaaGreatV09
import Derived.Test.YtjpdopldkeodgaaGreatV08
set_option linter.all false
set_option maxHeartbeats 1000000
namespace Go.VS.R
open Go.VS.Sp
theorem amQ(z:Z)(own:Int)(hn:Bool)(H:List Int)(qn:Bool)(Q:List Sp.W)(h1:hn=true->H=[])(h2:qn=true->Q=[]):
  ev P (.call Ep [.loc 0 0 0] (kj z own hn H qn Q))=some (.val (.d (.b (own == -1&&(H.length:Int)==0))) (kj z own hn H qn Q)):=by
 unfold kj;by_cases h:(hn&&qn)=true
 .rw[aK h]
  have:H=[]:=h1 (by simp at h;exact h.1)
  rw[this,amM];simp
 .rw[aE h]
  rw[OE,amD h1]
theorem amR(z:Z)(own:Int)(hn:Bool)(H:List Int)(qn:Bool)(Q:List Sp.W):
  ev P (.call Cw [.loc 0 0 0] (kj z own hn H qn Q))=some (.val (.d (.b (own != -1))) (kj z own hn H qn Q)):=by
 unfold kj;by_cases h:(hn&&qn)=true
 .rw[aK h,amL]
 .rw[aE h,zW]
theorem amS(z:Z)(own t:Int)(hn:Bool)(H:List Int)(qn:Bool)(Q:List Sp.W):
  ev P (.call xP [.loc 0 0 0,.d (I' t),.d (I' 55)] (kj z own hn H qn Q))=some (.val (.tu []) (kj z t hn H qn Q)):=by
 unfold kj;by_cases h:(hn&&qn)=true
 .rw[aK h,aK h,amN]
 .rw[aE h,aE h,U8]
theorem amT(z:Z)(own t o:Int)(hn:Bool)(H:List Int)(qn:Bool)(Q:List Sp.W)(ho:o≠55)(h1:hn=true->H=[])(h2:qn=true->Q=[])(h3:H.length<=1000000)(hA:iX H):
  ev P (.call xP [.loc 0 0 0,.d (I' t),.d (I' o)] (kj z own hn H qn Q))=some (.val (.tu []) (rS z own (hS hn H) (qS qn Q) none (bW (eV t H)))):=by
 unfold kj;cases hn
 .have e:hS false H=some (bW H,H.length):=rfl
  simp only[Ap,eR,dG,e];exact Js z own t o H (bW H) (qS qn Q) none ho h3 (by simp) (by simp[bW,bk]) hA
 .have:H=[]:=h1 rfl
  subst this;have e0:bW (eV t [])=[[I' t]]:=rfl;rw[e0];cases qn
  .exact U9 z own t o (qS false Q) none ho
  .exact amO z own t o ho
theorem amU(o2:D)(bn cn:Bool)(own:Int)(hn:Bool)(H:List Int)(qn:Bool)(Q:List Sp.W)(t o v p n:Int)(h1:hn=true->H=[])(h2:qn=true->Q=[])(h3:H.length<=1000)(h4:Q.length<=1000)(hA:iX H)
  (hC:ev P (.call l5 [.d o2,.d (oZ (zZ bn cn) own hn H qn Q)] [])=some (.val (.d (I' 0)) []))(fM:∃a b c d,o2 = .ag [a,b,c,d])
  (hb:jZ t p n=false)(hq:(Q.any λw=>w.task==t)=false)(ho:o=53)(hh:ia own H t=0):
  jL (ev P (.call pJ [.d o2,.d (oZ (zZ bn cn) own hn H qn Q),.d (.ag [I' t,I' o,I' v,I' p,I' n])] [])) (jc own H Q t o p):=by
 obtain⟨a,b,c,d,rfl⟩:=fM;have hF:=lD qn Q t (by omega)
 have dY:=Gj (zZ bn cn) own hn H qn Q h1 h2 (by omega) (by omega)
 have hH:=Gg own (I' 0) (I' 0) (qD qn Q) (hD bn []) (cD cn []) (.b false) (I' 0) hn H t (by omega)
 have jX:=amQ (zZ bn cn) own hn H qn Q h1 h2;have ko:=amR (zZ bn cn) own hn H qn Q;rw[A6,hq]at hF;rw[hh]at hH;generalize (ju Q t).1=fi at *;unfold jZ at hb;have xj:Q.length+1<=room:=by unfold room;omega
 have r1:1<=room:=by decide
 subst ho;by_cases hp:own = -1/\Q=[]
 .have hL:jc own H Q t 53 p=⟨own,eV t H,Q,false,true,[],0⟩:=by simp[jc,ve,hp]
  rw[hL];obtain⟨rfl,rfl⟩:=hp;have hG:=amT (zZ bn cn) (-1) t 53 hn H qn [] (by decide) h1 h2 (by omega) hA
  refine⟨bn,cn,false,qn,true,?_,by simp,by simp⟩
  simp only[zZ]at *;have oc:=Gi t H;have hit:List.take (H.length+1) (bW (eV t H))=bW (eV t H):=by rw[<-oc];simp[bW,bk]
  rw[au oI rfl];cases hn<;>cases qn<;>simp[kj,bM,cX,rS,lk,hS,qS,hV,hO,hX,qV,qO,kV,kO,oc]at dY jX ko hG
  .simp[gY,hC,gh,hb,hF,aI,dY,hH,az,jX,ko,ak,cut,aM,aN,cB,cg,an,sub,aD,back,aq,bk,av]
   rw[au oJ rfl];simp[nr,az,hG,ak,cut,aM,aN,cB,cg,an,sub,aD,back,aq,bk,av];rw[au oK rfl];simp[nu,oc,hit,az,ak,cut,aM,aN,cB,cg,an,sub,aD,back,aq,bk,av]
  .simp[gY,hC,gh,hb,hF,aI,dY,hH,az,jX,ko,ak,cut,aM,aN,cB,cg,an,sub,aD,back,aq,bk,av]
   rw[au oJ rfl];simp[nr,az,hG,ak,cut,aM,aN,cB,cg,an,sub,aD,back,aq,bk,av];rw[au oK rfl];simp[nu,oc,hit,az,ak,cut,aM,aN,cB,cg,an,sub,aD,back,aq,bk,av]
  .simp[gY,hC,gh,hb,hF,aI,dY,hH,az,jX,ko,ak,cut,aM,aN,cB,cg,an,sub,aD,back,aq,bk,av]
   rw[au oJ rfl];simp[nr,az,hG,ak,cut,aM,aN,cB,cg,an,sub,aD,back,aq,bk,av];rw[au oK rfl];simp[nu,oc,hit,az,ak,cut,aM,aN,cB,cg,an,sub,aD,back,aq,bk,av]
  .simp[gY,hC,gh,hb,hF,aI,dY,hH,az,jX,ko,ak,cut,aM,aN,cB,cg,an,sub,aD,back,aq,bk,av]
   rw[au oJ rfl];simp[nr,az,hG,ak,cut,aM,aN,cB,cg,an,sub,aD,back,aq,bk,av];rw[au oK rfl];simp[nu,oc,hit,az,ak,cut,aM,aN,cB,cg,an,sub,aD,back,aq,bk,av]
 .have hL:jc own H Q t 53 p=⟨own,H,Q++[⟨t,53,0,p,-1⟩],true,false,[],0⟩:=by
   have:ve own H Q 53=false:=by
    unfold ve;cases h:(own == -1&&Q.isEmpty)
    .simp[h]
    .exact absurd (by simpa using h) hp
   simp[jc,this]
  rw[hL];have hpb:(own != -1)=false->Q≠[]:=by
   intro h1 h2;exact hp ⟨by simpa using h1,h2⟩
  refine⟨bn,cn,hn,false,true,?_,h1,by simp⟩
  simp only[zZ]at *;rw[au oI rfl];cases hw:own != -1
  .have om:=hpb hw
   have hQ1:((Q.length:Int)==0)=false:=by simpa using om
   rw[hw]at ko;have jY:qn=false:=by cases qn;rfl;exact absurd (h2 rfl) om
   subst jY;cases hn<;>simp[kj,bM,cX,lk,hS,qS,hV,hO,qV,qO,kV,kO]at dY jX ko
   .simp[gY,hC,gh,hb,hF,aI,dY,hH,az,jX,ko,hQ1,om,ak,cut,aM,aN,cB,cg,an,sub,aD,back,aq,bk,av]
    rw[au oJ rfl];simp[nr,az,ak,cut,aM,aN,cB,cg,an,sub,aD,back,aq,bk,av,xj,r1,cz,Sp.W.row,yB];all_goals exact h1 rfl
   .simp[gY,hC,gh,hb,hF,aI,dY,hH,az,jX,ko,hQ1,om,ak,cut,aM,aN,cB,cg,an,sub,aD,back,aq,bk,av]
    rw[au oJ rfl];simp[nr,az,ak,cut,aM,aN,cB,cg,an,sub,aD,back,aq,bk,av,xj,r1,cz,Sp.W.row,yB];all_goals exact h1 rfl
  .rw[hw]at ko
   cases hn<;>cases qn<;>simp[kj,bM,cX,lk,hS,qS,hV,hO,qV,qO,kV,kO]at dY jX ko
   .simp[gY,hC,gh,hb,hF,aI,dY,hH,az,jX,ko,ak,cut,aM,aN,cB,cg,an,sub,aD,back,aq,bk,av]
    rw[au oJ rfl];simp[nr,az,ak,cut,aM,aN,cB,cg,an,sub,aD,back,aq,bk,av,xj,r1,cz,Sp.W.row,yB];all_goals exact h1 rfl
   .obtain rfl:=h2 rfl
    simp[gY,hC,gh,hb,hF,aI,dY,hH,az,jX,ko,ak,cut,aM,aN,cB,cg,an,sub,aD,back,aq,bk,av];rw[au oJ rfl];simp[nr,az,ak,cut,aM,aN,cB,cg,an,sub,aD,back,aq,bk,av,xj,r1,cz,Sp.W.row,yB];all_goals exact h1 rfl
   .simp[gY,hC,gh,hb,hF,aI,dY,hH,az,jX,ko,ak,cut,aM,aN,cB,cg,an,sub,aD,back,aq,bk,av]
    rw[au oJ rfl];simp[nr,az,ak,cut,aM,aN,cB,cg,an,sub,aD,back,aq,bk,av,xj,r1,cz,Sp.W.row,yB];all_goals exact h1 rfl
   .obtain rfl:=h2 rfl
    simp[gY,hC,gh,hb,hF,aI,dY,hH,az,jX,ko,ak,cut,aM,aN,cB,cg,an,sub,aD,back,aq,bk,av];rw[au oJ rfl];simp[nr,az,ak,cut,aM,aN,cB,cg,an,sub,aD,back,aq,bk,av,xj,r1,cz,Sp.W.row,yB];all_goals exact h1 rfl
theorem amV(o2:D)(bn cn:Bool)(own:Int)(hn:Bool)(H:List Int)(qn:Bool)(Q:List Sp.W)(t o v p n:Int)(h1:hn=true->H=[])(h2:qn=true->Q=[])(h3:H.length<=1000)(h4:Q.length<=1000)(hA:iX H)
  (hC:ev P (.call l5 [.d o2,.d (oZ (zZ bn cn) own hn H qn Q)] [])=some (.val (.d (I' 0)) []))(fM:∃a b c d,o2 = .ag [a,b,c,d])
  (hb:jZ t p n=false)(hq:(Q.any λw=>w.task==t)=false)(ho:o=55)(hh:ia own H t=0):
  jL (ev P (.call pJ [.d o2,.d (oZ (zZ bn cn) own hn H qn Q),.d (.ag [I' t,I' o,I' v,I' p,I' n])] [])) (jc own H Q t o p):=by
 obtain⟨a,b,c,d,rfl⟩:=fM;have hF:=lD qn Q t (by omega)
 have dY:=Gj (zZ bn cn) own hn H qn Q h1 h2 (by omega) (by omega)
 have hH:=Gg own (I' 0) (I' 0) (qD qn Q) (hD bn []) (cD cn []) (.b false) (I' 0) hn H t (by omega)
 have jX:=amQ (zZ bn cn) own hn H qn Q h1 h2;have ko:=amR (zZ bn cn) own hn H qn Q;rw[A6,hq]at hF;rw[hh]at hH;generalize (ju Q t).1=fi at *;unfold jZ at hb;have xj:Q.length+1<=room:=by unfold room;omega
 have r1:1<=room:=by decide
 subst ho;by_cases hp:own = -1/\H=[]
 .have hL:jc own H Q t 55 p=⟨t,H,Q,false,true,[],0⟩:=by simp[jc,ve,hp]
  rw[hL];obtain⟨rfl,rfl⟩:=hp;have hG:=amS (zZ bn cn) (-1) t hn [] qn Q;refine⟨bn,cn,hn,qn,true,?_,by simp,h2⟩
  simp only[zZ]at *;rw[au oI rfl];cases hn<;>cases qn<;>simp[kj,bM,cX,rS,lk,hS,qS,hV,hO,hX,qV,qO,kV,kO]at dY jX ko hG
  .simp[gY,hC,gh,hb,hF,aI,dY,hH,az,jX,ko,ak,cut,aM,aN,cB,cg,an,sub,aD,back,aq,bk,av]
   rw[au oJ rfl];simp[nr,az,hG,ak,cut,aM,aN,cB,cg,an,sub,aD,back,aq,bk,av];rw[au oK rfl];simp[nu,az,ak,cut,aM,aN,cB,cg,an,sub,aD,back,aq,bk,av]
  .obtain rfl:=h2 rfl
   simp[gY,hC,gh,hb,hF,aI,dY,hH,az,jX,ko,ak,cut,aM,aN,cB,cg,an,sub,aD,back,aq,bk,av];rw[au oJ rfl];simp[nr,az,hG,ak,cut,aM,aN,cB,cg,an,sub,aD,back,aq,bk,av];rw[au oK rfl];simp[nu,az,ak,cut,aM,aN,cB,cg,an,sub,aD,back,aq,bk,av]
  .simp[gY,hC,gh,hb,hF,aI,dY,hH,az,jX,ko,ak,cut,aM,aN,cB,cg,an,sub,aD,back,aq,bk,av]
   rw[au oJ rfl];simp[nr,az,hG,ak,cut,aM,aN,cB,cg,an,sub,aD,back,aq,bk,av];rw[au oK rfl];simp[nu,az,ak,cut,aM,aN,cB,cg,an,sub,aD,back,aq,bk,av]
  .obtain rfl:=h2 rfl
   simp[gY,hC,gh,hb,hF,aI,dY,hH,az,jX,ko,ak,cut,aM,aN,cB,cg,an,sub,aD,back,aq,bk,av];rw[au oJ rfl];simp[nr,az,hG,ak,cut,aM,aN,cB,cg,an,sub,aD,back,aq,bk,av];rw[au oK rfl];simp[nu,az,ak,cut,aM,aN,cB,cg,an,sub,aD,back,aq,bk,av]
 .have hL:jc own H Q t 55 p=⟨own,H,Q++[⟨t,55,0,p,-1⟩],true,false,[],0⟩:=by
   have:ve own H Q 55=false:=by
    unfold ve;cases h:(own == -1&&H.isEmpty)
    .simp[h]
    .exact absurd (by simpa using h) hp
   simp[jc,this]
  rw[hL];have lK:(own == -1&&(H.length:Int)==0)=false:=by
   cases h:(own == -1&&(H.length:Int)==0)
   .rfl
   .exact absurd (by simpa using h) hp
  refine⟨bn,cn,hn,false,true,?_,h1,by simp⟩
  simp only[zZ]at *;rw[lK]at jX;rw[au oI rfl];cases hn<;>cases qn<;>simp[kj,bM,cX,lk,hS,qS,hV,hO,qV,qO,kV,kO]at dY jX ko
  .simp[gY,hC,gh,hb,hF,aI,dY,hH,az,jX,ko,ak,cut,aM,aN,cB,cg,an,sub,aD,back,aq,bk,av]
   rw[au oJ rfl];simp[nr,az,ak,cut,aM,aN,cB,cg,an,sub,aD,back,aq,bk,av,xj,r1,cz,Sp.W.row,yB];all_goals exact h1 rfl
  .obtain rfl:=h2 rfl
   simp[gY,hC,gh,hb,hF,aI,dY,hH,az,jX,ko,ak,cut,aM,aN,cB,cg,an,sub,aD,back,aq,bk,av];rw[au oJ rfl];simp[nr,az,ak,cut,aM,aN,cB,cg,an,sub,aD,back,aq,bk,av,xj,r1,cz,Sp.W.row,yB];all_goals exact h1 rfl
  .simp[gY,hC,gh,hb,hF,aI,dY,hH,az,jX,ko,ak,cut,aM,aN,cB,cg,an,sub,aD,back,aq,bk,av]
   rw[au oJ rfl];simp[nr,az,ak,cut,aM,aN,cB,cg,an,sub,aD,back,aq,bk,av,xj,r1,cz,Sp.W.row,yB];all_goals exact h1 rfl
  .obtain rfl:=h2 rfl
   simp[gY,hC,gh,hb,hF,aI,dY,hH,az,jX,ko,ak,cut,aM,aN,cB,cg,an,sub,aD,back,aq,bk,av];rw[au oJ rfl];simp[nr,az,ak,cut,aM,aN,cB,cg,an,sub,aD,back,aq,bk,av,xj,r1,cz,Sp.W.row,yB];all_goals exact h1 rfl
theorem amW(o2:D)(bn cn:Bool)(own:Int)(hn:Bool)(H:List Int)(qn:Bool)(Q:List Sp.W)(t o v p n:Int)(h1:hn=true->H=[])(h2:qn=true->Q=[])(h3:H.length<=1000)(h4:Q.length<=1000)(hA:iX H)
  (hC:ev P (.call l5 [.d o2,.d (oZ (zZ bn cn) own hn H qn Q)] [])=some (.val (.d (I' 0)) []))(fM:∃a b c d,o2 = .ag [a,b,c,d])
  (hb:jZ t p n=false)(hq:(Q.any λw=>w.task==t)=false)(ho:o=53\/o=55)(hh:ia own H t=0):
  jL (ev P (.call pJ [.d o2,.d (oZ (zZ bn cn) own hn H qn Q),.d (.ag [I' t,I' o,I' v,I' p,I' n])] [])) (jc own H Q t o p):=by
 rcases ho with ho |ho
 .exact amU o2 bn cn own hn H qn Q t o v p n h1 h2 h3 h4 hA hC fM hb hq ho hh
 .exact amV o2 bn cn own hn H qn Q t o v p n h1 h2 h3 h4 hA hC fM hb hq ho hh
end Go.VS.R
namespace Go.VS.R
open Go.VS.Sp
theorem Jw(own:Int)(H:List Int)(w:Sp.W)(r:List Sp.W):jA own H (w::r) =
  if own≠-1\/(w.op=55/\H≠[])then(own,H,w::r,[])
  else if w.op=55 then(w.task,H,r,[w])
  else(own,jd (eV w.task H) (r.takeWhile λw=>w.op != 55),r.dropWhile λw=>w.op != 55,w::r.takeWhile λw=>w.op != 55):=rfl
theorem amX(z:Z)(own:Int) (Hs)(l:List Int) (Qs)(Q:List Sp.W)(hH:hL Hs l)(hQ:(∃nl,Qs = .inl nl/\Q=[])\/Qs = .inr (Q.map Sp.W.row,0,Q.length))(hA:iX l)(h1:l.length<=1000)(h2:Q.length<=1000)(ht:∀w,w∈Q->w.task≠-1):
  (jA own l Q=(own,l,Q,[])/\ev P (.call sZ [.loc 0 0 0] (cX z own Hs Qs none))=some (.val (.tu []) (cX z own Hs Qs none))) \/
  (∃w r,Q=w::r/\Qs = .inr (Q.map Sp.W.row,0,Q.length)/\own = -1/\l=[]/\jA own l Q=(w.task,l,r,[w]) /\
   ev P (.call sZ [.loc 0 0 0] (cX z own Hs Qs none))=some (.val (.tu []) (oh z w.task Hs ((w::r).map Sp.W.row) r (wk w)))) \/
  (∃w r tk dk l',Q=w::r/\Qs = .inr (Q.map Sp.W.row,0,Q.length)/\own = -1/\r=tk++dk/\jA own l Q=(own,l',dk,w::tk)/\l'≠[] /\
   ev P (.call sZ [.loc 0 0 0] (cX z own Hs Qs none))=some (.val (.tu []) (jM z (-1) (hX Hs) ((w::r).map Sp.W.row) (1+tk.length) dk l' (wk w::tk.map wk)))):=by
 have Ga:hlen Hs=l.length:=by
  rcases Hs with _ |⟨R,n⟩
  .obtain rfl:l=[]:=hH
   rfl
  .exact hH.1
 rcases hQ with⟨nl,rfl,rfl⟩ |rfl
 .exact .inl ⟨rfl,amx z own Hs nl⟩
 .cases Q with
  |nil=>exact .inl ⟨rfl,amy z own Hs []⟩
  |cons w r =>
   by_cases hs:own≠-1\/(w.op=55/\hlen Hs≠0)
   .refine .inl ⟨?_,amz z own Hs w r hs⟩
    rw[Jw];rw[aK];rcases hs with hs |⟨yx,wW⟩
    .exact .inl hs
    .exact .inr ⟨yx,λh=>by rw[Ga,h]at wW;exact wW rfl⟩
   .have ho:own = -1:=vE λh=>hs (.inl h)
    subst ho;have hs':¬((-1:Int)≠-1\/(w.op=55/\l≠[])):=by
     intro h;rcases h with h |⟨h1,h2⟩
     .exact h rfl
     .apply hs
      refine .inr ⟨h1,?_⟩;rw[Ga];intro h;exact h2 (Cb.1 h)
    by_cases lH:w.op=55
    .have zG:hlen Hs=0:=vE λh=>hs (.inr ⟨lH,h⟩)
     have sJ:l=[]:=by rw[Ga]at zG;exact Cb.1 zG
     refine .inr (.inl ⟨w,r,rfl,rfl,rfl,sJ,?_,amA z Hs w r lH zG (ht w (by simp))⟩)
     rw[Jw];rw[aE hs',aK lH]
    .refine .inr (.inr ⟨w,r,r.takeWhile λw=>w.op != 55,r.dropWhile λw=>w.op != 55,jd (eV w.task l) (r.takeWhile λw=>w.op != 55),rfl,rfl,rfl,(PN).symm,?_,?_,amB z Hs l w r lH hH hA h1 (by simp at h2;omega)⟩)
     .rw[Jw]
      rw[aE hs',aE lH]
     .have:∀(q:List Sp.W)(m:List Int),m≠[]->jd m q≠[]:=by
       intro q;induction q with
       |nil=>intro m hm;exact hm
       |cons a q ih =>
        intro m hm;refine ih _ ?_;intro h;have h':eV a.task m=[]:=h;have:=Gi a.task m;rw[h']at this;simp at this
      refine this _ _ ?_;intro h;have:=Gi w.task l;rw[h]at this;simp at this
theorem amY(k:Nat):1+(k+1)<=k+1+1:=by omega
theorem amZ{w:Sp.W}{tk dk:List Sp.W}:(((w::(tk++dk)).map Sp.W.row).drop (1+tk.length)).take dk.length=dk.map Sp.W.row/\1+tk.length+dk.length<=((w::(tk++dk)).map Sp.W.row).length:=by
 have:(w::(tk++dk)).map Sp.W.row=(w::tk).map Sp.W.row++dk.map Sp.W.row:=by simp
 rw[this];constructor
 .rw[D6 (by simp;omega)]
  exact gE (by simp)
 .simp;omega
theorem am0(o2:D)(bn cn:Bool)(own:Int)(H:List Int)(qn:Bool)(Q:List Sp.W)(t v p n:Int)(h2:qn=true->Q=[])(h3:H.length<=1000)(h4:Q.length<=1000)(hA:iX H)(ht:∀w,w∈Q->w.task≠-1)
  (hC:ev P (.call l5 [.d o2,.d (oZ (zZ bn cn) own false H qn Q)] [])=some (.val (.d (I' 0)) []))(fM:∃a b c d,o2 = .ag [a,b,c,d])
  (hb:jZ t p n=false)(hq:(Q.any λw=>w.task==t)=false)(hh:ia own H t=1):
  jL (ev P (.call pJ [.d o2,.d (oZ (zZ bn cn) own false H qn Q),.d (.ag [I' t,I' 54,I' v,I' p,I' n])] [])) (let x:=jA own (H.filter λx=>x != t) Q;⟨x.1,x.2.1,x.2.2.1,false,true,x.2.2.2,0⟩):=by
 obtain⟨a,b,c,d,rfl⟩:=fM;have hF:=lD qn Q t (by omega)
 have dY:=Gj (zZ bn cn) own false H qn Q (by simp) h2 (by omega) (by omega)
 have hH:=Gg own (I' 0) (I' 0) (qD qn Q) (hD bn []) (cD cn []) (.b false) (I' 0) false H t (by omega)
 rw[A6,hq]at hF;rw[hh]at hH;generalize (ju Q t).1=fi at *;unfold jZ at hb;obtain⟨R',k1,k2,Gl⟩:=amt (f:=KT) (first:=[]) (caps:=[.ref [I' t,I' 54,I' v,I' p,I' n]]) (p:=λx=>x==t) H (by omega) (λx=>amu t 54 v p n x)
 have Uf:(H.filter λw=>!(w==t))=H.filter λx=>x != t:=rfl
 rw[Uf]at k1 k2 Gl;have hfl:(H.filter λx=>x != t).length<=H.length:=uc _ _
 have hAf:iX (H.filter λx=>x != t):=hA.sublist B5
 have dV:H.map mg=bW H:=rfl;rw[dV]at Gl;have TW:(H.filter λx=>x != t).map mg=bW (H.filter λx=>x != t):=rfl
 rw[TW]at k2;generalize (H.filter λx=>x != t)=F at *
 have gu:=amX (zZ bn cn) own (some (R',F.length)) F (qS qn Q) Q ⟨rfl,k1,k2⟩ (by cases qn;exact .inr rfl;exact .inl ⟨true,rfl,h2 rfl⟩) hAf (by omega) h4 ht
 rcases gu with⟨e,gu⟩ |⟨w,r,rfl,Vd,rfl,rfl,e,gu⟩ |⟨w,r,tk,dk,l',rfl,Vd,rfl,rfl,e,sJ,gu⟩
 .rw[e]
  refine⟨bn,cn,false,qn,true,?_,by simp,h2⟩
  simp only[zZ]at *;rw[au oI rfl];cases qn<;>simp[kj,cX,oh,jM,lk,hS,qS,hV,hO,hX,qV,qO,kV,kO,iR]at dY gu
  .simp[gY,hC,gh,hb,hF,aI,dY,hH,az,Gl,gu,ak,cut,aM,aN,cB,cg,an,sub,aD,back,aq,bk,av]
   rw[au oK rfl];simp[nu,az,k1,k2,ak,cut,aM,aN,cB,cg,an,sub,aD,back,aq,bk,av]
  .obtain rfl:=h2 rfl
   simp[gY,hC,gh,hb,hF,aI,dY,hH,az,Gl,gu,ak,cut,aM,aN,cB,cg,an,sub,aD,back,aq,bk,av];rw[au oK rfl];simp[nu,az,k1,k2,ak,cut,aM,aN,cB,cg,an,sub,aD,back,aq,bk,av]
 .rw[e]
  have jY:qn=false:=by cases qn;rfl;exact absurd (h2 rfl) (by simp)
  subst jY;refine⟨bn,cn,false,false,false,?_,by simp,by simp⟩
  simp only[zZ]at *;rw[au oI rfl];cases r<;>simp[kj,cX,oh,jM,lk,hS,qS,hV,hO,hX,qV,qO,kV,kO,iR]at dY gu <;>
  .simp[gY,hC,gh,hb,hF,aI,dY,hH,az,Gl,gu,ak,cut,aM,aN,cB,cg,an,sub,aD,back,aq,bk,av]
   rw[au oK rfl];simp[nu,az,k1,k2,amY,ak,cut,aM,aN,cB,cg,an,sub,aD,back,aq,bk,av]
 .rw[e]
  have jY:qn=false:=by cases qn;rfl;exact absurd (h2 rfl) (by simp)
  subst jY;obtain⟨g1,g2⟩:=amZ (w:=w) (tk:=tk) (dk:=dk);refine⟨bn,cn,false,false,false,?_,by simp,by simp⟩
  simp only[zZ]at *;rw[au oI rfl];generalize C4:w::(tk++dk)=QQ at *;generalize hSS:QQ.map Sp.W.row=S at *;cases dk<;>simp[kj,cX,oh,jM,lk,hS,qS,hV,hO,hX,qV,qO,kV,kO,iR]at dY gu g1 g2 <;>
  .simp[gY,hC,gh,hb,hF,aI,dY,hH,az,Gl,gu,ak,cut,aM,aN,cB,cg,an,sub,aD,back,aq,bk,av]
   rw[au oK rfl];simp[nu,az,k1,k2,g1,g2,ak,cut,aM,aN,cB,cg,an,sub,aD,back,aq,bk,av]
end Go.VS.R
namespace Go.VS.R
open Go.VS.Sp
theorem am1(o2:D)(bn cn:Bool)(own:Int)(hn:Bool)(qn:Bool)(Q:List Sp.W)(t v p n:Int)(h2:qn=true->Q=[])(h4:Q.length<=1000)(ht:∀w,w∈Q->w.task≠-1)
  (hC:ev P (.call l5 [.d o2,.d (oZ (zZ bn cn) own hn [] qn Q)] [])=some (.val (.d (I' 0)) []))(fM:∃a b c d,o2 = .ag [a,b,c,d])
  (hb:jZ t p n=false)(hq:(Q.any λw=>w.task==t)=false)(hh:ia own [] t=2):
  jL (ev P (.call pJ [.d o2,.d (oZ (zZ bn cn) own hn [] qn Q),.d (.ag [I' t,I' 56,I' v,I' p,I' n])] [])) (let x:=jA (-1) [] Q;⟨x.1,x.2.1,x.2.2.1,false,true,x.2.2.2,0⟩):=by
 obtain⟨a,b,c,d,rfl⟩:=fM;have hF:=lD qn Q t (by omega)
 have dY:=Gj (zZ bn cn) own hn [] qn Q (by simp) h2 (by simp) (by omega)
 have hH:=Gg own (I' 0) (I' 0) (qD qn Q) (hD bn []) (cD cn []) (.b false) (I' 0) hn [] t (by simp)
 rw[A6,hq]at hF;rw[hh]at hH;generalize (ju Q t).1=fi at *;unfold jZ at hb;by_cases Gm:(hn&&qn)=true
 .have e1:hn=true:=by simp at Gm;exact Gm.1
  have e2:qn=true:=by simp at Gm;exact Gm.2
  subst e1;subst e2;obtain rfl:=h2 rfl;have gu:=amP (zZ bn cn) (-1);refine⟨bn,cn,true,true,true,?_,by simp[jA],by simp[jA]⟩
  simp only[zZ]at *;rw[au oI rfl];simp[kj,bM]at dY gu;simp[gY,hC,gh,hb,hF,aI,dY,hH,az,gu,ak,cut,aM,aN,cB,cg,an,sub,aD,back,aq,bk,av];rw[au oK rfl];simp[nu,az,jA,ak,cut,aM,aN,cB,cg,an,sub,aD,back,aq,bk,av]
 .have zG:kj (zZ bn cn) own hn [] qn Q=cX (zZ bn cn) own (hS hn []) (qS qn Q) none:=by unfold kj;rw[aE Gm]
  rw[zG]at dY;have gu:=amX (zZ bn cn) (-1) (hS hn []) [] (qS qn Q) Q (amC (by simp)) (by cases qn;exact .inr rfl;exact .inl ⟨true,rfl,h2 rfl⟩) List.Pairwise.nil (by simp) h4 ht
  rcases gu with⟨e,gu⟩ |⟨w,r,rfl,Vd,_,_,e,gu⟩ |⟨w,r,tk,dk,l',rfl,Vd,_,rfl,e,sJ,gu⟩
  .rw[e]
   refine⟨bn,cn,hn,qn,true,?_,by simp,h2⟩
   simp only[zZ]at *;rw[au oI rfl];cases hn<;>cases qn<;>simp[cX,oh,jM,lk,hS,qS,hV,hO,hX,qV,qO,kV,kO,iR]at dY gu
   .simp[gY,hC,gh,hb,hF,aI,dY,hH,az,gu,ak,cut,aM,aN,cB,cg,an,sub,aD,back,aq,bk,av]
    rw[au oK rfl];simp[nu,az,ak,cut,aM,aN,cB,cg,an,sub,aD,back,aq,bk,av]
   .obtain rfl:=h2 rfl
    simp[gY,hC,gh,hb,hF,aI,dY,hH,az,gu,ak,cut,aM,aN,cB,cg,an,sub,aD,back,aq,bk,av];rw[au oK rfl];simp[nu,az,ak,cut,aM,aN,cB,cg,an,sub,aD,back,aq,bk,av]
   .simp[gY,hC,gh,hb,hF,aI,dY,hH,az,gu,ak,cut,aM,aN,cB,cg,an,sub,aD,back,aq,bk,av]
    rw[au oK rfl];simp[nu,az,ak,cut,aM,aN,cB,cg,an,sub,aD,back,aq,bk,av]
   .simp at Gm
  .rw[e]
   have jY:qn=false:=by cases qn;rfl;exact absurd (h2 rfl) (by simp)
   subst jY;refine⟨bn,cn,hn,false,false,?_,by simp,by simp⟩
   simp only[zZ]at *;rw[au oI rfl];cases hn<;>cases r<;>simp[cX,oh,jM,lk,hS,qS,hV,hO,hX,qV,qO,kV,kO,iR]at dY gu <;>
   .simp[gY,hC,gh,hb,hF,aI,dY,hH,az,gu,ak,cut,aM,aN,cB,cg,an,sub,aD,back,aq,bk,av]
    rw[au oK rfl];simp[nu,az,amY,ak,cut,aM,aN,cB,cg,an,sub,aD,back,aq,bk,av]
  .rw[e]
   have jY:qn=false:=by cases qn;rfl;exact absurd (h2 rfl) (by simp)
   subst jY;obtain⟨g1,g2⟩:=amZ (w:=w) (tk:=tk) (dk:=dk);refine⟨bn,cn,false,false,false,?_,by simp,by simp⟩
   simp only[zZ]at *;rw[au oI rfl];generalize C4:w::(tk++dk)=QQ at *;generalize hSS:QQ.map Sp.W.row=S at *;cases hn<;>cases dk<;>simp[cX,oh,jM,lk,hS,qS,hV,hO,hX,qV,qO,kV,kO,iR]at dY gu g1 g2 <;>
   .simp[gY,hC,gh,hb,hF,aI,dY,hH,az,gu,ak,cut,aM,aN,cB,cg,an,sub,aD,back,aq,bk,av]
    rw[au oK rfl];simp[nu,az,g1,g2,ak,cut,aM,aN,cB,cg,an,sub,aD,back,aq,bk,av]
end Go.VS.R
namespace Go.VS.R
open Go.VS.Sp
theorem Gn{t x:Int}{l:List Int}:x∈eV t l↔x=t\/x∈l:=by
 unfold eV;rw[dc,dA]
 have:x∈l↔x∈l.take (bI t l)\/x∈l.drop (bI t l):=by
  rw[<-List.mem_append,Ar]
 rw[this];constructor
 .rintro(h |h |h)
  .exact .inr (.inl h)
  .exact .inl h
  .exact .inr (.inr h)
 .rintro(h |h |h)
  .exact .inr (.inl h)
  .exact .inl h
  .exact .inr (.inr h)
structure OH(own:Int)(H:List Int)(Q:List Sp.W):Prop where
 op:∀w,w∈Q->w.op=53\/w.op=55
 pos:∀w,w∈Q->0<=w.task
 zY:∀w,w∈Q->w.task∉H
 zV:Q.Pairwise λa b=>a.task≠b.task
theorem OH.sub{own mh:Int}{H H':List Int}{Q Q':List Sp.W}(h:OH own H Q)(hs:Q'.Sublist Q)(hH:∀x,x∈H'->x∈H):OH mh H' Q' :=
 ⟨λw hw=>h.op w (hs.mem hw),λw hw=>h.pos w (hs.mem hw),λw hw hx=>h.zY w (hs.mem hw) (hH _ hx),h.zV.sublist hs⟩
structure MV(own:Int)(H:List Int)(Q:List Sp.W):Prop where
 ow:own = -1\/(cW own=true/\H=[])
 vh:vh [] H=true
 wc:ej Q=0
 qc:pZ own H [] Q=true
 st:stay own H Q=true
theorem Jq{own cnt time:Int}{H:List Int}{Q:List Sp.W}{B:List Int}{C:List (List D)}{cl:Bool}{val:Int}:
  jK own cnt time H Q B C cl val=true↔MV own H Q/\cnt=0/\time=0/\B=[]/\C=[]/\cl=false/\val=0:=by
 unfold jK OF;constructor
 .intro h
  simp at h;obtain⟨⟨⟨⟨⟨⟨⟨a1,a2⟩,a3⟩,a4⟩,a5⟩,a6⟩,a7⟩,b1,b2,b3,b4⟩:=h;refine⟨⟨?_,b1,b2,b3,b4⟩,a2,a3,a4,a5,a6,a7⟩;exact a1
 .rintro⟨⟨h1,h2,h3,h4,h5⟩,rfl,rfl,rfl,rfl,rfl,rfl⟩
  simp[h2,h3,h4,h5];exact h1
theorem Jx{own:Int}{H:List Int}:∀{suf pre:List Sp.W},pZ own H pre suf=true↔(∀w,w∈suf->xh own H w=false)/\suf.Pairwise (λa b=>a.task≠b.task)/\(∀a,a∈pre->∀b,b∈suf->a.task≠b.task)
 | [],pre=>by simp[pZ]
 |w::r,pre=>by
  have e1:pZ own H pre (w::r)=(!pre.any (λx=>x.task==w.task)&&!xh own H w&&pZ own H (pre++[w]) r):=rfl
  rw[e1];have ih:=@Jx own H r (pre++[w]);have ha:(!pre.any (λx=>x.task==w.task))=true↔∀a,a∈pre->a.task≠w.task:=by
   simp
  rw[bE,bE,ih,ha];constructor
  .rintro⟨⟨h1,h2⟩,h3,h4,h5⟩
   have h2:xh own H w=false:=by simpa using h2
   refine⟨?_,gI.2 ⟨λb hb=>h5 w (by simp) b hb,h4⟩,?_⟩
   .intro x hx
    rcases dA.1 hx with e |hx
    .rw[e];exact h2
    .exact h3 x hx
   .intro a ha b hb
    rcases dA.1 hb with e |hb
    .rw[e];exact h1 a ha
    .exact h5 a (by simp[ha]) b hb
  .rintro⟨h1,h2,h3⟩
   rw[gI]at h2;refine⟨⟨λa ha=>h3 a ha w (by simp),by simp[h1 w (by simp)]⟩,λx hx=>h1 x (by simp[hx]),h2.2,?_⟩
   intro a ha b hb;rcases dc.1 ha with ha |ha
   .exact h3 a ha b (by simp[hb])
   .simp at ha;rw[ha];exact h2.1 b hb
theorem MV.rC{own:Int}{H:List Int}{Q:List Sp.W}(h:MV own H Q):iX H:=amI h.vh
theorem Jy{own:Int}{H:List Int}{t:Int}(ht:0<=t):ia own H t=0↔t≠own/\t∉H:=by
 unfold ia;by_cases h1:t=own
 .simp[ht,h1];omega
 .by_cases h2:t∈H<;>simp[h1,h2]
theorem MV.qok{own:Int}{H:List Int}{Q:List Sp.W}(h:MV own H Q):OH own H Q:=by
 obtain⟨h1,h2⟩:=Ig h.wc;obtain⟨q1,q2,_⟩:=Jx.1 h.qc;refine⟨λw hw=>?_,λw hw=>(nx (h2 w hw)).1,λw hw=>?_,q2⟩
 .have:=q1 w hw
  unfold xh at this;by_cases C3:w.op=53
  .exact .inl C3
  .right
   simp[C3]at this;exact this.1.1.1
 .have:=q1 w hw
  unfold xh at this;simp at this;exact((Jy (nx (h2 w hw)).1).1 this.2).2
theorem MV.task{own:Int}{H:List Int}{Q:List Sp.W}(h:MV own H Q):∀w,w∈Q->w.task≠-1:=λw hw=>by
 have:=h.qok.pos w hw;omega
theorem MV.free{H:List Int}{Q:List Sp.W}(h:MV (-1) H Q)(hH:H=[]):Q=[]:=by
 cases Q with
 |nil=>rfl
 |cons w r =>
  have:=h.st;simp[stay,hH]at this
def fN(k sz ot own cnt time:Int)(H:List Int)(Q:List Sp.W)(B:List Int)(C:List (List D))(cl:Bool)(val:Int):Int :=
 if dQ k sz ot=0 then(if jK own cnt time H Q B C cl val then 0 else 1)else dQ k sz ot
theorem am2{k sz ot own cnt time:Int}{H:List Int}{Q:List Sp.W}{B:List Int}{C:List (List D)}{cl:Bool}{val:Int}(h:fN k sz ot own cnt time H Q B C cl val=0):
  MV own H Q/\cnt=0/\time=0/\B=[]/\C=[]/\cl=false/\val=0:=by
 unfold fN at h;by_cases hm:dQ k sz ot=0
 .rw[aK hm]at h
  cases hv:jK own cnt time H Q B C cl val
  .rw[hv]at h;simp at h
  .exact Jq.1 hv
 .rw[aE hm]at h;exact absurd h hm
abbrev stF(own cnt time:Int)(hn:Bool)(H:List Int)(qn:Bool)(Q:List Sp.W)(bn:Bool)(B:List Int)(cn:Bool)(C:List (List D))(cl:Bool)(val:Int):D :=
 .ag [I' own,I' cnt,I' time,hD hn H,qD qn Q,hD bn B,cD cn C,.b cl,I' val]
theorem OI(nm:D)(k sz ot:Int)(own cnt time:Int)(hn:Bool)(H:List Int)(qn:Bool)(Q:List Sp.W)(bn:Bool)(B:List Int)(cn:Bool)(C:List (List D))(cl:Bool)(val:Int)(t o v p n:Int)
  (hh:hn=true->H=[])(hq:qn=true->Q=[])(h1:H.length<=1000)(h2:Q.length<=1000):
  jL (ev P (.call pJ [.d (.ag [nm,I' k,I' sz,I' ot]),.d (stF own cnt time hn H qn Q bn B cn C cl val),.d (.ag [I' t,I' o,I' v,I' p,I' n])] []))
   (if fN k sz ot own cnt time H Q B C cl val=0 then mZ own H Q t o p n else zr 1):=by
 have hC:=qu nm k sz ot own cnt time hn H qn Q bn B cn C cl val hh hq h1 (by omega)
 by_cases hc:fN k sz ot own cnt time H Q B C cl val=0
 .obtain⟨hM,rfl,rfl,rfl,rfl,rfl,rfl⟩:=am2 hc
  have xX:ev P (.call l5 [.d (.ag [nm,I' k,I' sz,I' ot]),.d (oZ (zZ bn cn) own hn H qn Q)] [])=some (.val (.d (I' 0)) []):=by
   have:fN k sz ot own 0 0 H Q [] [] false 0=(if dQ k sz ot=0 then(if jK own 0 0 H Q [] [] false 0 then 0 else 1)else dQ k sz ot):=rfl
   rw[<-this,hc]at hC;exact hC
  rw[aK hc];have fM:∃a b c d,(.ag [nm,I' k,I' sz,I' ot]:D) = .ag [a,b,c,d]:=⟨_,_,_,_,rfl⟩;obtain⟨e1,e2,e3,e4,e5,e6⟩:=OG _ bn cn own hn H qn Q t o v p n hh hq h1 h2 xX fM;unfold mZ;cases hb:jZ t p n
  .rw[aE (by simp)]
   cases hr:(decide (o<53)||decide (56<o))
   .rw[aE (by simp)]
    cases hw:Q.any λw=>w.task==t
    .rw[aE (by simp)]
     by_cases hl:o=53\/o=55
     .rw[aK hl]
      by_cases hz:ia own H t=0
      .rw[aE (by simp[hz])]
       exact amW _ bn cn own hn H qn Q t o v p n hh hq h1 h2 hM.rC xX fM hb hw hl hz
      .rw[aK hz]
       exact e4 hb hr hw hl hz
     .rw[aE hl]
      by_cases x6:o=54
      .rw[aK x6]
       by_cases hz:ia own H t=1
       .rw[aE (by simp[hz])]
        subst x6;have hn0:hn=false:=by
         cases hn
         .rfl
         .rw[hh rfl]at hz
          unfold ia at hz;split at hz
          .exact absurd hz (by decide)
          .simp at hz
        subst hn0;exact am0 _ bn cn own H qn Q t v p n hq h1 h2 hM.rC hM.task xX fM hb hw hz
       .rw[aK hz]
        exact e5 hb hr hw x6 hz
      .rw[aE x6]
       have Io:o=56:=by
        simp at hr;omega
       by_cases hz:ia own H t=2
       .rw[aE (by simp[hz])]
        subst Io;have hH:H=[]:=by
         rcases hM.ow with ho |⟨_,ho⟩
         .unfold ia at hz
          split at hz
          .rename_i h
           simp at h;omega
          .split at hz<;>exact absurd hz (by decide)
         .exact ho
        subst hH;exact am1 _ bn cn own hn qn Q t v p n hq h2 hM.task xX fM hb hw hz
       .rw[aK hz]
        exact e6 hb hr hw Io hz
    .rw[aK rfl]
     exact e3 hb hr hw
   .rw[aK rfl]
    exact e2 hb hr
  .rw[aK rfl]
   exact e1 hb
 .rw[aE hc]
  have ir:(fN k sz ot own cnt time H Q B C cl val != 0)=true:=by simpa using hc
  have hC3:ev P (.call l5 [.d (.ag [nm,I' k,I' sz,I' ot]),.d (.ag [I' own,I' cnt,I' time,hD hn H,qD qn Q,hD bn B,cD cn C,.b cl,I' val])] [])=some (.val (.d (I' (fN k sz ot own cnt time H Q B C cl val))) []):=hC;generalize fN k sz ot own cnt time H Q B C cl val=ck at *;refine jL.zero ?_;rw[au oI rfl];simp[gY,hC3,ir,aq]
end Go.VS.R
namespace Go.VS.R
open Go.VS.Sp
theorem Sp.W.neq{w w':Sp.W}(h:¬w=w'):(!w.task==w'.task||(!w.op==w'.op||(!w.value==w'.value||(!w.prio==w'.prio||!w.case==w'.case))))=true:=by
 cases hb:(!w.task==w'.task||(!w.op==w'.op||(!w.value==w'.value||(!w.prio==w'.prio||!w.case==w'.case))))
 .exfalso;apply h
  simp at hb;cases w;cases w';simp at hb⊢;exact hb
 .rfl
end Go.VS.R
namespace Go.VS.R
open Go.VS.Sp
end Go.VS.R
namespace Go.VS.R
open Go.VS.Sp
end Go.VS.R
namespace Go.VS.R
open Go.VS.Sp
end Go.VS.R
namespace Go.VS.R
open Go.VS.Sp
def gH(l:List Int):Prop:=l.Pairwise (·<·)
theorem gH.rC{l:List Int}(h:gH l):iX l:=List.Pairwise.imp (λh=>PM h) h
theorem OJ{t:Int}{l:List Int}(h:gH l)(ht:t∉l):gH (eV t l):=by
 obtain⟨h1,h2⟩:=U' t h.rC;have h2':∀x,x∈l.drop (bI t l)->t<x:=λx hx=>by
  have:=h2 x hx;have hne:x≠t:=λe=>ht (by rw[<-e];exact mN hx)
  omega
 unfold eV gH;rw[oA];refine⟨h.sublist (List.take_sublist _ _),gI.2 ⟨h2',h.sublist (List.drop_sublist _ _)⟩,?_⟩;intro a ha b hb;rcases dA.1 hb with rfl |hb
 .exact h1 a ha
 .exact Int.lt_trans (h1 a ha) (h2' b hb)
theorem am3:∀{suf pre:List Int},vh pre suf=true↔(∀x,x∈suf->cW x=true)/\(pre.getLast?.toList++suf).Pairwise (·<·)
 | [],pre=>by cases h:pre.getLast?<;>simp[vh]
 |x::r,pre=>by
  have e1:vh pre (x::r)=(!(!cW x||pre.getLast?.any (λy=>decide (x<=y)))&&vh (pre++[x]) r):=rfl
  rw[e1,bE,am3];have hl:(pre++[x]).getLast?=some x:=by simp
  rw[hl];cases hp:pre.getLast? with
  |none =>
   simp;exact⟨fun⟨h1,h2,h3⟩=>⟨⟨h1,h2⟩,h3⟩,fun⟨⟨h1,h2⟩,h3⟩=>⟨h1,h2,h3⟩⟩
  |some p =>
   simp;constructor
   .rintro⟨⟨h1,h2⟩,h3,h4,h5⟩
    exact⟨⟨h1,h3⟩,⟨h2,λy hy=>Int.lt_trans h2 (h4 y hy)⟩,h4,h5⟩
   .rintro⟨⟨h1,h3⟩,⟨h2,_⟩,h4,h5⟩
    exact⟨⟨h1,h2⟩,h3,h4,h5⟩
theorem Ve{H:List Int}:vh [] H=true↔(∀x,x∈H->cW x=true)/\gH H:=by
 rw[am3];simp[gH]
theorem xk{Q:List Sp.W}:ej Q=0↔Q.length<=96/\∀w,w∈Q->dL w=true:=by
 constructor
 .exact Ig
 .rintro⟨h1,h2⟩
  rw[<-amJ];unfold Vb;rw[aE (by omega),aK (by simpa using h2)]
structure Gp(own:Int)(H:List Int)(w:Sp.W):Prop where
 v:dL w=true
 op:w.op=53\/w.op=55
 val:w.value=0
 cs:w.case = -1
 no:w.task≠own
 zY:w.task∉H
theorem am4{own:Int}{H:List Int}{w:Sp.W}(hv:dL w=true):xh own H w=false↔Gp own H w:=by
 have ht:=(nx hv).1;unfold xh;constructor
 .intro h
  simp at h;obtain⟨⟨⟨h1,h2⟩,h3⟩,h4⟩:=h;obtain⟨h5,h6⟩:=(Jy ht).1 h4;exact⟨hv,by by_cases h:w.op=53;exact .inl h;exact .inr (by simpa[h]using h1),h2,h3,h5,h6⟩
 .rintro⟨_,h1,h2,h3,h4,h5⟩
  have:=(Jy ht).2 ⟨h4,h5⟩;rcases h1 with h1 |h1<;>simp[h1,h2,h3,this]
theorem z9{own:Int}{H:List Int}{Q:List Sp.W}:MV own H Q↔(own = -1\/(cW own=true/\H=[]))/\(∀x,x∈H->cW x=true)/\gH H/\Q.length<=96/\(∀w,w∈Q->Gp own H w)/\Q.Pairwise (λa b=>a.task≠b.task)/\stay own H Q=true:=by
 constructor
 .rintro⟨h1,h2,h3,h4,h5⟩
  obtain⟨v1,v2⟩:=Ve.1 h2;obtain⟨w1,w2⟩:=xk.1 h3;obtain⟨q1,q2,_⟩:=Jx.1 h4;exact⟨h1,v1,v2,w1,λw hw=>(am4 (w2 w hw)).1 (q1 w hw),q2,h5⟩
 .rintro⟨h1,v1,v2,w1,q1,q2,h5⟩
  refine⟨h1,Ve.2 ⟨v1,v2⟩,xk.2 ⟨w1,λw hw=>(q1 w hw).v⟩,Jx.2 ⟨λw hw=>(am4 (q1 w hw).v).2 (q1 w hw),q2,by simp⟩,h5⟩
theorem am5{x:Int}:∀{q:List Sp.W}{l:List Int},x∈jd l q↔x∈l\/∃w,w∈q/\w.task=x
 | [],l=>by simp[jd]
 |a::q,l=>by
  have e:jd l (a::q)=jd (eV a.task l) q:=rfl;rw[e,am5,Gn];constructor
  .rintro((h |h) |⟨w,h1,h2⟩)
   .exact .inr ⟨a,by simp,h.symm⟩
   .exact .inl h
   .exact .inr ⟨w,by simp[h1],h2⟩
  .rintro(h |⟨w,h1,h2⟩)
   .exact .inl (.inr h)
   .rcases dA.1 h1 with e |h1
    .exact .inl (.inl (by rw[<-h2,e]))
    .exact .inr ⟨w,h1,h2⟩
theorem am6:∀{q:List Sp.W}{l:List Int},gH l->(∀w,w∈q->w.task∉l)->q.Pairwise (λa b=>a.task≠b.task)->gH (jd l q)
 | [],l,h,_,_=>h
 |a::q,l,h,hn,hd=>by
  rw[gI]at hd;have e:jd l (a::q)=jd (eV a.task l) q:=rfl;rw[e];refine am6 (OJ h (hn a (by simp))) ?_ hd.2
  intro w hw hm;rcases Gn.1 hm with e |hm
  .exact hd.1 w hw e.symm
  .exact hn w (by simp[hw]) hm
theorem Vf{own:Int}{H:List Int}{w:Sp.W}(h:Gp own H w):cW w.task=true:=by
 have:=nx h.v;unfold cW;simp;omega
theorem am7{own:Int}{H:List Int}{Q:List Sp.W}(h1:own = -1\/(cW own=true/\H=[]))(h2:∀x,x∈H->cW x=true)(h3:gH H)(h4:Q.length<=96)(h5:∀w,w∈Q->Gp own H w)(h6:Q.Pairwise (λa b=>a.task≠b.task)):
  MV (jA own H Q).1 (jA own H Q).2.1 (jA own H Q).2.2.1:=by
 cases Q with
 |nil=>exact z9.2 ⟨h1,h2,h3,h4,h5,h6,rfl⟩
 |cons w r =>
  rw[Jw];rw[gI]at h6;have hw:=h5 w (by simp)
  split
  .rename_i hs
   refine z9.2 ⟨h1,h2,h3,h4,h5,gI.2 h6,?_⟩;unfold stay;rcases hs with hs |⟨yx,wW⟩
   .simp[hs]
   .simp[yx,wW]
  .rename_i hs
   have ho:own = -1:=vE λh=>hs (.inl h)
   split
   .rename_i lH
    have hH:H=[]:=vE λh=>hs (.inr ⟨lH,h⟩)
    subst hH;refine z9.2 ⟨.inr ⟨Vf hw,rfl⟩,by simp,List.Pairwise.nil,by simp at h4⊢;omega,?_,h6.2,?_⟩
    .intro x hx
     have:=h5 x (by simp[hx])
     exact⟨this.v,this.op,this.val,this.cs,λe=>h6.1 x hx e.symm,by simp⟩
    .cases r with
     |nil=>rfl
     |cons a r =>
      have:=(nx hw.v).1;simp[stay];omega
   .rename_i lH
    subst ho;have hsp:(r.takeWhile λw=>w.op != 55)++(r.dropWhile λw=>w.op != 55)=r:=PN
    have hdk:∀a l,(r.dropWhile λw=>w.op != 55)=a::l->a.op=55:=by
     intro a l h;have:=WE (λw:Sp.W=>w.op != 55) r
     rw[h]at this;simpa using this
    generalize (r.takeWhile λw=>w.op != 55)=tk at *
    generalize (r.dropWhile λw=>w.op != 55)=dk at *
    subst hsp;have hd:=oA.1 h6.2;have hm:∀x,x∈jd (eV w.task H) tk↔(x=w.task\/x∈H)\/∃v,v∈tk/\v.task=x:=by
     intro x;rw[am5,Gn]
    refine z9.2 ⟨.inl rfl,?_,?_,?_,?_,hd.2.1,?_⟩
    .intro x hx
     rcases(hm x).1 hx with(rfl |hx) |⟨v,hv,rfl⟩
     .exact Vf hw
     .exact h2 x hx
     .exact Vf (h5 v (by simp[hv]))
    .refine am6 (OJ h3 hw.zY) ?_ hd.1
     intro v hv hx;rcases Gn.1 hx with e |hx
     .exact h6.1 v (by simp[hv]) e.symm
     .exact(h5 v (by simp[hv])).zY hx
    .simp at h4⊢;omega
    .intro x hx
     have:=h5 x (by simp[hx])
     refine⟨this.v,this.op,this.val,this.cs,this.no,λzm=>?_⟩
     rcases(hm _).1 zm with(e |mE) |⟨v,hv,e⟩
     .exact h6.1 x (by simp[hx]) e.symm
     .exact this.zY mE
     .exact hd.2.2 v hv x hx e
    .show stay (-1) (jd (eV w.task H) tk) dk=true
     cases dk with
     |nil=>rfl
     |cons a l =>
      have am8:=hdk a l rfl;have hne:(jd (eV w.task H) tk).isEmpty=false:=by
       cases hi:jd (eV w.task H) tk with
       |nil=>have:=(hm w.task).2 (.inl (.inl rfl));rw[hi]at this;cases this
       |cons _ _=>rfl
      simp[stay,am8,hne]
theorem am9{own:Int}{H:List Int}{Q:List Sp.W}{t o p n:Int}(hM:MV own H Q)(hl:Q.length<=90)(he:(mZ own H Q t o p n).e=0):MV (mZ own H Q t o p n).own (mZ own H Q t o p n).H (mZ own H Q t o p n).Q:=by
 obtain⟨m1,m2,m3,m4,m5,m6,m7⟩:=z9.1 hM;unfold mZ at he⊢;cases hb:jZ t p n
 .rw[hb]at he
  simp only[eR,dG]at he⊢;have FO:=hb;unfold jZ cW at FO;simp at FO;obtain⟨⟨⟨⟨oa,hp1⟩,Fi⟩,_⟩,_⟩:=FO;have iz:cW t=true:=by unfold cW;simp;exact oa
  cases hr:(decide (o<53)||decide (56<o))
  .rw[hr]at he
   simp only[eR,dG]at he⊢;have hop:53<=o/\o<=56:=by simp at hr;omega
   cases hw:Q.any λw=>w.task==t
   .rw[hw]at he
    simp only[eR,dG]at he⊢;have hnt:∀w,w∈Q->w.task≠t:=by simpa using hw
    by_cases hL:o=53\/o=55
    .rw[aK hL]at he⊢
     by_cases hz:ia own H t=0
     .rw[aE (by simp[hz])]at he⊢
      obtain⟨z1,z2⟩:=(Jy oa.1).1 hz;unfold jc at he⊢;by_cases hp:ve own H Q o=true
      .rw[aK hp]at he⊢
       unfold ve at hp;by_cases lH:o=55
       .rw[aK lH]
        rw[aE (by omega)]at hp
        simp at hp;obtain⟨rfl,rfl⟩:=hp;have hq:=hM.free rfl;subst hq;exact z9.2 ⟨.inr ⟨iz,rfl⟩,by simp,List.Pairwise.nil,by simp,by simp,List.Pairwise.nil,rfl⟩
       .rw[aE lH]
        rw[aK (by omega)]at hp
        simp at hp;obtain⟨rfl,rfl⟩:=hp;refine z9.2 ⟨.inl rfl,?_,OJ m3 z2,by simp,by simp,List.Pairwise.nil,rfl⟩
        intro x hx;rcases Gn.1 hx with rfl |hx
        .exact iz
        .exact m2 x hx
      .rw[aE hp]
       refine z9.2 ⟨m1,m2,m3,by simp;omega,?_,?_,?_⟩
       .intro w hw
        rcases dc.1 hw with hw |hw
        .exact m5 w hw
        .simp at hw
         subst hw;refine⟨?_,hL,rfl,rfl,z1,z2⟩;unfold dL kI;simp;omega
       .rw[oA]
        exact⟨m6,WD _ _,λa ha b hb=>by simp at hb;rw[hb];exact hnt a ha⟩
       .show stay own H (Q++[⟨t,o,0,p,-1⟩])=true
        cases Q with
        |nil =>
         unfold ve at hp;rcases hL with rfl |rfl
         .simp at hp
          simp[stay,hp]
         .rw[aE (by decide)]at hp
          simp at hp;simp[stay];by_cases h:own = -1
          .exact .inr (hp h)
          .exact .inl h
        |cons a r=>exact m7
     .rw[aK hz]at he
      simp[zr]at he
    .rw[aE hL]at he⊢
     by_cases x6:o=54
     .rw[aK x6]at he⊢
      by_cases hz:ia own H t=1
      .rw[aE (by simp[hz])]at he⊢
       have hsub:∀x,x∈(H.filter λx=>x != t)->x∈H:=λx hx=>(pe.1 hx).1
       refine am7 (H:=H.filter λx=>x != t) ?_ (λx hx=>m2 x (hsub x hx)) (m3.sublist B5) m4 (λw hw=>?_) m6
       .rcases m1 with h |⟨h,h'⟩
        .exact .inl h
        .exact .inr ⟨h,by rw[h'];rfl⟩
       .have:=m5 w hw
        exact⟨this.v,this.op,this.val,this.cs,this.no,λh=>this.zY (hsub _ h)⟩
      .rw[aK hz]at he
       simp[zr]at he
     .rw[aE x6]at he⊢
      by_cases hz:ia own H t=2
      .rw[aE (by simp[hz])]at he⊢
       refine am7 (.inl rfl) m2 m3 m4 (λw hw=>?_) m6
       have:=m5 w hw;refine⟨this.v,this.op,this.val,this.cs,?_,this.zY⟩;have:=(nx this.v).1;omega
      .rw[aK hz]at he
       simp[zr]at he
   .rw[hw]at he
    simp[zr]at he
  .rw[hr]at he
   simp[zr]at he
 .rw[hb]at he
  simp[zr]at he
end Go.VS.R
namespace Go.VS.Sp
def Gq(s:S):Bool:=M.jK s.own s.cnt s.time s.H s.Q s.B (s.C.map K.row) s.cl s.val
def OK(s:S):Bool:=R.jK s.own s.cnt s.time s.H s.Q s.B (s.C.map K.row) s.cl s.val
def dW(k sz ot:Int)(s:S):Int :=
 if k=1 then ck (dR 1 k sz ot) (Gq s)else if k=2 then ck (dR 2 k sz ot) (OK s)else if k=4 then ck (iV k sz ot) (DC sz ot s)
 else if k=5 then ck (iW k sz ot) (Jl sz s)else if k=6 then ck (gZ k sz ot) (DF sz s)else if k=7 then fN k sz ot s
 else if k=8 then ck (jv k sz ot) (Jo sz s)else if k=9 then ck (dR 9 k sz ot) (DG s)else 8
structure S.gN(s:S):Prop where
 wf:s.wf
 qn:s.qn=true->s.Q=[]
 h:s.H.length<=41
 q:s.Q.length<=41
 b:s.B.length<=121
 c:s.C.length<=41
 l:∀c∈s.C,c.log.length<=121
theorem S.gN.sm{s:S}(h:s.gN):s.sm:=⟨by have:=h.h;omega,by have:=h.b;omega,by have:=h.q;omega,by have:=h.c;omega,λc hc=>by have:=h.l c hc;omega⟩
theorem ana(nm:D)(k sz ot:Int)(s:S)(h:s.gN):
  ev P (.call ql [.d (.ag [nm,I' k,I' sz,I' ot]),.d (.ag s.row)] [])=some (.val (.d (I' (ck (dR 1 k sz ot) (Gq s)))) []):=by
 have hs:=h.sm;exact M.qu nm k sz ot s.own s.cnt s.time s.hn s.H s.qn s.Q s.bn s.B s.cn (s.C.map K.row) s.cl s.val hs.h hs.q hs.b (by simpa using hs.c)
theorem anb(nm:D)(k sz ot:Int)(s:S)(h:s.gN):
  ev P (.call l5 [.d (.ag [nm,I' k,I' sz,I' ot]),.d (.ag s.row)] [])=some (.val (.d (I' (ck (dR 2 k sz ot) (OK s)))) []):=by
 have hs:=h.sm;exact R.qu nm k sz ot s.own s.cnt s.time s.hn s.H s.qn s.Q s.bn s.B s.cn (s.C.map K.row) s.cl s.val h.wf.1 h.qn (by have:=h.h;omega) hs.q
def kinds(k:Int)(t f g:Nat):Prop :=
 (k=1/\t=101/\f=sX/\g=ql)\/(k=2/\t=102/\f=sY/\g=l5)\/(k=4/\t=103/\f=uu/\g=qZ) \/
 (k=5/\t=104/\f=uw/\g=oG)\/(k=6/\t=105/\f=ux/\g=gr)\/(k=7/\t=106/\f=uy/\g=su) \/
 (k=8/\t=107/\f=uz/\g=nU)\/(k=9/\t=108/\f=uA/\g=qm)
theorem anc{k:Int}{t f g:Nat}(hk:kinds k t f g)(nm:D)(sz ot:Int)(s:S)(h:s.gN):
  ev P (.call g [.d (.ag [nm,I' k,I' sz,I' ot]),.d (.ag s.row)] [])=some (.val (.d (I' (dW k sz ot s))) []):=by
 have hs:=h.sm;unfold kinds at hk;rcases hk with⟨rfl,rfl,rfl,rfl⟩ |⟨rfl,rfl,rfl,rfl⟩ |⟨rfl,rfl,rfl,rfl⟩ |⟨rfl,rfl,rfl,rfl⟩ |⟨rfl,rfl,rfl,rfl⟩ |⟨rfl,rfl,rfl,rfl⟩ |⟨rfl,rfl,rfl,rfl⟩ |⟨rfl,rfl,rfl,rfl⟩
 .exact ana nm 1 sz ot s h
 .exact anb nm 2 sz ot s h
 .exact alF nm 4 sz ot s hs
 .exact OB nm 5 sz ot s hs
 .exact UZ nm 6 sz ot s hs
 .exact qu nm 7 sz ot s hs
 .exact OC nm 8 sz ot s hs
 .exact al2 nm 9 sz ot s hs
def S.ab(qn:Bool)(s:S):S:={s with qn:=qn,Q:=[]}
end Go.VS.Sp
namespace Go.VS.Sp
theorem S.gN.sz{s:S}(h:s.gN)(b:Bool):(s.ab b).sz:=by
 refine⟨?_,?_,?_,?_,?_⟩
 .show s.H.length<=10000;have:=h.h;omega
 .show s.B.length<=10000;have:=h.b;omega
 .show([]:List W).length<=10000;simp
 .show s.C.length<=1000;have:=h.c;omega
 .intro c hc;have:=h.l c hc;omega
end Go.VS.Sp
namespace Go.VS.Sp
end Go.VS.Sp
namespace Go.VS.Sp
end Go.VS.Sp
namespace Go.VS.Sp
def kR(s:S)(cnt:Int)(q:D)(any:Bool):List D:=[I' s.own,I' cnt,I' s.time,hD s.hn s.H,q,hD s.bn s.B,cD s.cn s.C,.b s.cl,I' s.val,.b any]
abbrev Gk(pk ok:Bool)(wk:D):D:=.ag [I' 0,I' 0,I' 0,.sl 1 true [],.sl 5 true [],.sl 1 true [],.sl 2 true [],.b false,I' 0,.b pk,I' 0,.b ok,wk]
def Rd(x:Option dN)(e:Int)(pk:Bool):Prop:=∃a1 a2 a3 a4 a5 a6 a7 a8 a9 b1 b2 b3:D,x=some (.val (.tu [.d (.ag [a1,a2,a3,a4,a5,a6,a7,a8,a9,.b pk,b1,b2,b3]),.d (I' e)]) [])
theorem Rd.mk'{x:Option dN}{e:Int}{pk:Bool}{a1 a2 a3 a4 a5 a6 a7 a8 a9 b1 b2 b3:D}(h:x=some (.val (.tu [.d (.ag [a1,a2,a3,a4,a5,a6,a7,a8,a9,.b pk,b1,b2,b3]),.d (I' e)]) [])):Rd x e pk:=⟨_,_,_,_,_,_,_,_,_,_,_,_,h⟩
end Go.VS.Sp
namespace Go.VS.Sp
theorem ane:ev P (.call sv [.d (.sl 5 true [])] [])=some (.val (.d (.sl 5 true [])) []):=by
 rw[au MT rfl];simp[qp,av]
theorem anf(f:Nat)(a b:List D):ev P (.call LC [.d (.sl 5 true []),.d (.fn f a b)] [])=some (.val (.tu [.d (.ag [I' 0,I' 0,I' 0,I' 0,I' 0]),.d (.b false)]) []):=by
 have hi:ev P (.call xN [.d (.sl 5 true []),.d (.fn f a b)] [])=some (.val (.d (I' (-1))) []):=by
  have hL:ev P (.loop 0 [0,1,7,8] vQ [(0,.d (.sl 5 true [])),(1,.d (.fn f a b)),(7,.d (I' 0)),(8,.d (I' 0))] [])=some (.out (.exit 0) [] []):=by
   rw[bT]
   conv=>lhs;arg 4;unfold vQ
   simp
  rw[au MR rfl];simp[EJ,hL]
 rw[au X9 rfl];simp[HW,hi]
abbrev lA(sz:Int)(s:S)(b:V)(R:List (List D)):List O:=[.gK 11 [[.d (I' sz),.d (I' s.own),.d (I' s.cnt),.d (I' s.time),.d (hD s.hn s.H),.d (.sl 5 true []),b,.d (cD s.cn s.C),.d (.b s.cl),.d (I' s.val),.d (.sl 5 true [])]],.aG 1 true R]
abbrev lN(sz:Int)(s:S)(bd:D):List O:=[.aG 11 true [[I' sz,I' s.own,I' s.cnt,I' s.time,hD s.hn s.H,.sl 5 true [],bd,cD s.cn s.C,.b s.cl,I' s.val,.sl 5 true []]]]
theorem DK(nm:D)(k sz ot:Int)(s:S)(hb:s.bn=false)(hn:s.B.length<=1000000):
  ev P (.call Hi [.d (.ag [nm,I' k,I' sz,I' ot]),.d (.ag (s.ab true).row)] [])=some (.val (.loc 0 0 0) (lA sz s (.aQ 1 0 s.B.length) (bW s.B))):=by
 have hc:=tw false s.B (by simp) hn
 have h0:=ane;rw[au SA rfl];simp at hc;simp only[S.ab,S.row,qD,gq]at *;simp[EU,hb,hc,h0,aI,az,sub,aD,back,av,aq,ak,cut,bt,an,V.aV,bp,aX,aZ,aM,aN,bk,cG]
theorem Jz(nm:D)(k sz ot:Int)(s:S)(hb:s.bn=true):
  ev P (.call Hi [.d (.ag [nm,I' k,I' sz,I' ot]),.d (.ag ({s with B:=[]}.ab true).row)] [])=some (.val (.loc 0 0 0) (lN sz s (.sl 1 true []))):=by
 have hc:=tw true [] (by simp) (by simp)
 have h0:=ane;rw[au SA rfl];simp at hc;simp only[S.ab,S.row,qD,gq]at *;simp[EU,hb,hc,h0,aI,az,sub,aD,back,av,aq,ak,cut,bt,an,V.aV,bp,aX,aZ,aM,aN,bk,cG]
theorem OL(sz op:Int)(s:S)(i n:Nat)(R:List (List D)):
  ev P (.call Ev [.loc 0 0 0,.d (I' op)] (lA sz s (.aQ 1 i n) R))=some (.val (.tu [.d (.ag [I' 0,I' 0,I' 0,I' 0,I' 0]),.d (.b false)]) (lA sz s (.aQ 1 i n) R)):=by
 have hf:=λf a b=>anf f a b
 rw[au SH rfl];simp[E6,hf,aI,az,sub,aD,back,av,aq,ak,cut,bt,an,V.aV,bp,aX,aZ,aM,aN]
abbrev m8(s:S)(b:V)(pk:Bool)(n:Int)(ok:Bool)(q:V):V:=.ag [.d (I' s.own),.d (I' s.cnt),.d (I' s.time),.d (hD s.hn s.H),q,b,.d (cD s.cn s.C),.d (.b s.cl),.d (I' s.val),.d (.b pk),.d (I' n),.d (.b ok),.d (.sl 5 true [])]
theorem Gr(sz n':Int)(ok:Bool)(s:S)(i n:Nat)(R:List (List D)):
  ev P (.call uB [.loc 0 0 0,.d (I' n'),.d (.b ok)] (lA sz s (.aQ 1 i n) R))=some (.val (m8 s (.aQ 1 i n) false n' ok (.d (.sl 5 true []))) (lA sz s (.aQ 1 i n) R)):=by
 rw[au H9 rfl];simp[CL,aI,az,sub,aD,back,av,aq,ak,cut,bt,an,V.aV,bp,aX,aZ,aM,aN]
abbrev lB(sz:Int)(s:S)(n:Nat)(R:List (List D)):List O:=[.gK 11 [[.d (I' sz),.d (I' s.own),.d (I' s.cnt),.d (I' s.time),.d (hD s.hn s.H),.d (.sl 5 true []),.aQ 2 0 n,.d (cD s.cn s.C),.d (.b s.cl),.d (I' s.val),.d (.sl 5 true [])]],.dead,.aG 1 true R]
theorem ang(sz v:Int)(s:S)(n:Nat)(R:List (List D))(hR:R.length=n)(hn:n<=1000):
  ev P (.call Cz [.loc 0 0 0,.d (I' v)] (lA sz s (.aQ 1 0 n) R))=some (.val (.tu []) (lB sz s (n+1) (R++[[I' v]]))):=by
 have h1:n<=R.length:=by omega
 have h2:¬n+1<=R.length:=by omega
 have h3:n+1<=room:=by unfold room;omega
 have h4:R.take n=R:=by rw[<-hR];simp
 rw[au MY rfl];simp[CM,h1,h2,h3,h4,aI,az,sub,aD,back,av,aq,ak,cut,bt,an,V.aV,bp,aX,aZ,aM,aN]
theorem Gs(sz:Int)(s:S)(c:Cl)(i n:Nat)(R:List (List D)):
  ev P (.call xQ [.loc 0 0 0,.d (.ag c.row)] (lA sz s (.aQ 1 i n) R))=some (.val (m8 s (.aQ 1 i n) true 0 false (.aQ 2 0 1)) [.gK 11 [[.d (I' sz),.d (I' s.own),.d (I' s.cnt),.d (I' s.time),.d (hD s.hn s.H),.aQ 2 0 1,.aQ 1 i n,.d (cD s.cn s.C),.d (.b s.cl),.d (I' s.val),.d (.sl 5 true [])]],.aG 1 true R,.aG 5 true [[I' c.task,I' c.op,I' (if c.op=64 then c.value else 0),I' c.prio,I' (-1)]]]):=by
 have h3:1<=room:=by decide
 rw[au SI rfl];cases h:c.op==64
 .have h':=h
  simp at h';simp[AZ,Cl.row,h,h',h3,aI,az,sub,aD,back,av,aq,ak,cut,bt,an,V.aV,bp,aX,aZ,aM,aN]
 .have h':=h
  simp at h';simp[AZ,Cl.row,h',h3,aI,az,sub,aD,back,av,aq,ak,cut,bt,an,V.aV,bp,aX,aZ,aM,aN]
theorem anh(sz op:Int)(s:S)(bd:D):
  ev P (.call Ev [.loc 0 0 0,.d (I' op)] (lN sz s bd))=some (.val (.tu [.d (.ag [I' 0,I' 0,I' 0,I' 0,I' 0]),.d (.b false)]) (lN sz s bd)):=by
 have hf:=λf a b=>anf f a b
 rw[au SH rfl];simp[E6,hf,aI,az,sub,aD,back,av,aq,ak,cut,bt,an,V.aV,bp,aX,aZ,aM,aN]
theorem ani(sz n':Int)(ok:Bool)(s:S)(bd:D):
  ev P (.call uB [.loc 0 0 0,.d (I' n'),.d (.b ok)] (lN sz s bd))=some (.val (.d (.ag [I' s.own,I' s.cnt,I' s.time,hD s.hn s.H,.sl 5 true [],bd,cD s.cn s.C,.b s.cl,I' s.val,.b false,I' n',.b ok,.sl 5 true []])) (lN sz s bd)):=by
 rw[au H9 rfl];simp[CL,aI,az,sub,aD,back,av,aq,ak,cut,bt,an,V.aV,bp,aX,aZ,aM,aN]
theorem anj(sz v:Int)(s:S):
  ev P (.call Cz [.loc 0 0 0,.d (I' v)] (lN sz s (.sl 1 true [])))=some (.val (.tu []) (lA sz s (.aQ 1 0 1) [[I' v]])):=by
 have h3:1<=room:=by decide
 rw[au MY rfl];simp[CM,h3,aI,az,sub,aD,back,av,aq,ak,cut,bt,an,V.aV,bp,aX,aZ,aM,aN]
theorem Gt(sz:Int)(s:S)(c:Cl)(bd:D):
  ev P (.call xQ [.loc 0 0 0,.d (.ag c.row)] (lN sz s bd))=some (.val (m8 s (.d bd) true 0 false (.aQ 1 0 1)) [.gK 11 [[.d (I' sz),.d (I' s.own),.d (I' s.cnt),.d (I' s.time),.d (hD s.hn s.H),.aQ 1 0 1,.d bd,.d (cD s.cn s.C),.d (.b s.cl),.d (I' s.val),.d (.sl 5 true [])]],.aG 5 true [[I' c.task,I' c.op,I' (if c.op=64 then c.value else 0),I' c.prio,I' (-1)]]]):=by
 have h3:1<=room:=by decide
 rw[au SI rfl];cases h:c.op==64
 .have h':=h
  simp at h';simp[AZ,Cl.row,h,h',h3,aI,az,sub,aD,back,av,aq,ak,cut,bt,an,V.aV,bp,aX,aZ,aM,aN]
 .have h':=h
  simp at h';simp[AZ,Cl.row,h',h3,aI,az,sub,aD,back,av,aq,ak,cut,bt,an,V.aV,bp,aX,aZ,aM,aN]
theorem Vg(sz:Int)(s:S)(c:Cl)(n:Nat)(R:List (List D))(hR:R.length=n)(hn:n<=1000):
  ev P (.call yY [.loc 0 0 0,.d (.ag c.row)] (lA sz s (.aQ 1 0 n) R)) =
   if(n:Int)<sz then some (.val (m8 s (.aQ 2 0 (n+1)) false 0 true (.d (.sl 5 true []))) (lB sz s (n+1) (R++[[I' c.value]])))else ev P (.call xQ [.loc 0 0 0,.d (.ag c.row)] (lA sz s (.aQ 1 0 n) R)):=by
 have hw:=OL sz 65 s 0 n R;have hp:=ang sz c.value s n R hR hn;have hd:=Gr sz 0 true s 0 (n+1) (R++[[I' c.value]]);have hk:=Gs sz s c 0 n R;rw[au H8 rfl];by_cases h:(n:Int)<sz
 .rw[aK h]
  simp only[Cl.row]at *;simp[uH,hw,hp,hd,h,aI,az,sub,aD,back,av,aq,ak,cut,bt,an,V.aV,bp,aX,aZ,aM,aN]
 .rw[aE h,hk]
  simp only[Cl.row]at *;simp[uH,hw,hk,h,aI,az,sub,aD,back,av,aq,ak,cut,bt,an,V.aV,bp,aX,aZ,aM,aN]
theorem Vh(sz:Int)(s:S)(c:Cl):
  ev P (.call yY [.loc 0 0 0,.d (.ag c.row)] (lN sz s (.sl 1 true []))) =
   if 0<sz then some (.val (m8 s (.aQ 1 0 1) false 0 true (.d (.sl 5 true []))) (lA sz s (.aQ 1 0 1) [[I' c.value]]))else ev P (.call xQ [.loc 0 0 0,.d (.ag c.row)] (lN sz s (.sl 1 true []))):=by
 have hw:=anh sz 65 s (.sl 1 true []);have hp:=anj sz c.value s;have hd:=Gr sz 0 true s 0 1 [[I' c.value]];have hk:=Gt sz s c (.sl 1 true []);rw[au H8 rfl];by_cases h:0<sz
 .rw[aK h]
  simp only[Cl.row]at *;simp[uH,hw,hp,hd,h,aI,az,sub,aD,back,av,aq,ak,cut,bt,an,V.aV,bp,aX,aZ,aM,aN]
 .rw[aE h,hk]
  simp only[Cl.row]at *;simp[uH,hw,hk,h,aI,az,sub,aD,back,av,aq,ak,cut,bt,an,V.aV,bp,aX,aZ,aM,aN]
abbrev lV(sz:Int)(s:S)(bd:D):List O:=[.gK 11 [[.d (I' sz),.d (I' s.own),.d (I' s.cnt),.d (I' s.time),.d (hD s.hn s.H),.d (.sl 5 true []),.d bd,.d (cD s.cn s.C),.d (.b s.cl),.d (I' s.val),.d (.sl 5 true [])]]]
abbrev tL(s:S)(bd:D)(n:Int)(ok:Bool):V:=.d (.ag [I' s.own,I' s.cnt,I' s.time,hD s.hn s.H,.sl 5 true [],bd,cD s.cn s.C,.b s.cl,I' s.val,.b false,I' n,.b ok,.sl 5 true []])
theorem ank(sz:Int)(s:S)(c:Cl)(n:Nat)(a:Int)(R:List (List D))(hR:R.length=n+1):
  ev P (.call pK [.loc 0 0 0,.d (.ag c.row)] (lA sz s (.aQ 1 0 (n+2)) ([I' a]::R)))=some (.val (m8 s (.aQ 1 1 (n+1)) false a true (.d (.sl 5 true []))) (lA sz s (.aQ 1 1 (n+1)) ([I' a]::R))):=by
 have hw:=OL sz 64 s 0 (n+2) ([I' a]::R);have hd:=Gr sz a true s 1 (n+1) ([I' a]::R);rw[au vX rfl];simp only[Cl.row]at *;have h1:(0:Int)<(n:Int)+2:=by omega
 have h2:(1:Int)<=(n:Int)+2:=by omega
 have h3:(1:Int)<(n:Int)+2:=by omega
 have h5:(n:Int)+2<=(R.length:Int)+1:=by omega
 have h6:((n:Int)+2).toNat - 1=n+1:=by omega
 simp[oH,hw,hd,h1,h2,h3,h5,h6,aI,az,sub,aD,back,av,aq,ak,cut,bt,an,V.aV,bp,aX,aZ,aM,aN]
theorem anl(sz:Int)(s:S)(c:Cl)(a:Int):
  ev P (.call pK [.loc 0 0 0,.d (.ag c.row)] (lA sz s (.aQ 1 0 1) [[I' a]]))=some (.val (m8 s (.aQ 2 0 0) false a true (.d (.sl 5 true []))) (lB sz s 0 [])):=by
 have hw:=OL sz 64 s 0 1 [[I' a]];have hd:=Gr sz a true s 0 0 [];rw[au vX rfl];simp only[Cl.row]at *;simp[oH,hw,hd,aI,az,sub,aD,back,av,aq,ak,cut,bt,an,V.aV,bp,aX,aZ,aM,aN]
theorem Vi(sz:Int)(s:S)(c:Cl):
  ev P (.call pK [.loc 0 0 0,.d (.ag c.row)] (lA sz s (.aQ 1 0 0) [])) =
   if s.cl=true then some (.val (m8 s (.aQ 1 0 0) false 0 false (.d (.sl 5 true []))) (lA sz s (.aQ 1 0 0) []))else ev P (.call xQ [.loc 0 0 0,.d (.ag c.row)] (lA sz s (.aQ 1 0 0) [])):=by
 have hw:=OL sz 64 s 0 0 [];have hd:=Gr sz 0 false s 0 0 [];have hk:=Gs sz s c 0 0 [];rw[au vX rfl];obtain⟨own,cnt,time,hn,H,qn,Q,bn,B,cn,C,cl,val⟩:=s;cases cl
 .rw[aE (by simp),hk]
  simp only[Cl.row]at *;simp[oH,hw,hk,aI,az,sub,aD,back,av,aq,ak,cut,bt,an,V.aV,bp,aX,aZ,aM,aN]
 .rw[aK rfl]
  simp only[Cl.row]at *;simp[oH,hw,hd,aI,az,sub,aD,back,av,aq,ak,cut,bt,an,V.aV,bp,aX,aZ,aM,aN]
theorem Vj(sz:Int)(s:S)(c:Cl):
  ev P (.call pK [.loc 0 0 0,.d (.ag c.row)] (lN sz s (.sl 1 true []))) =
   if s.cl=true then some (.val (.d (.ag [I' s.own,I' s.cnt,I' s.time,hD s.hn s.H,.sl 5 true [],.sl 1 true [],cD s.cn s.C,.b s.cl,I' s.val,.b false,I' 0,.b false,.sl 5 true []])) (lN sz s (.sl 1 true [])))else ev P (.call xQ [.loc 0 0 0,.d (.ag c.row)] (lN sz s (.sl 1 true []))):=by
 have hw:=anh sz 64 s (.sl 1 true []);have hd:=ani sz 0 false s (.sl 1 true []);have hk:=Gt sz s c (.sl 1 true []);rw[au vX rfl];obtain⟨own,cnt,time,hn,H,qn,Q,bn,B,cn,C,cl,val⟩:=s;cases cl
 .rw[aE (by simp),hk]
  simp only[Cl.row]at *;simp[oH,hw,hk,aI,az,sub,aD,back,av,aq,ak,cut,bt,an,V.aV,bp,aX,aZ,aM,aN]
 .rw[aK rfl]
  simp only[Cl.row]at *;simp[oH,hw,hd,aI,az,sub,aD,back,av,aq,ak,cut,bt,an,V.aV,bp,aX,aZ,aM,aN]
abbrev oq:List D:=[I' 0,I' 0,I' 0,.sl 1 true [],.sl 5 true [],.sl 1 true [],.sl 2 true [],.b false,I' 0,.b false,I' 0,.b false,.sl 5 true []]
theorem anm(sz:Int)(s:S)(c:Cl)(n:Nat)(R:List (List D)):
  ev P (.call AM [.loc 0 0 0,.d (.ag c.row)] (lA sz s (.aQ 1 0 n) R))=some (.val (m8 {s with cl:=true} (.aQ 1 0 n) false 0 true (.d (.sl 5 true []))) (lA sz {s with cl:=true} (.aQ 1 0 n) R)):=by
 have hd:=Gr sz 0 true {s with cl:=true} 0 n R;have hL:∀H:List O,H=lA sz {s with cl:=true} (.aQ 1 0 n) R++[.aG 13 true [oq]]->ev P (.loop 2 [0,4] rz [(0,.loc 0 0 0),(4,.loc 2 0 0)] H)=some (.out (.exit 0) [(0,.loc 0 0 0),(4,.loc 2 0 0)] H):=by
  intro H hH;subst hH;rw[bT]
  conv=>lhs;arg 4;unfold rz
  simp[aI,az,sub,aD,back,av,aq,ak,cut,bt,an,V.aV,bp,aX,aZ,aM,aN]
 have hL:=hL _ rfl;simp at hL;rw[au MW rfl];simp only[Cl.row]at *;simp[AX,hL,hd,aI,az,sub,aD,back,av,aq,ak,cut,bt,an,V.aV,bp,aX,aZ,aM,aN]
theorem ann(sz:Int)(s:S)(c:Cl):
  ev P (.call AM [.loc 0 0 0,.d (.ag c.row)] (lN sz s (.sl 1 true [])))=some (.val (tL {s with cl:=true} (.sl 1 true []) 0 true) (lN sz {s with cl:=true} (.sl 1 true []))):=by
 have hd:=ani sz 0 true {s with cl:=true} (.sl 1 true []);have hL:∀H:List O,H=lN sz {s with cl:=true} (.sl 1 true [])++[.aG 13 true [oq]]->ev P (.loop 1 [0,4] rz [(0,.loc 0 0 0),(4,.loc 1 0 0)] H)=some (.out (.exit 0) [(0,.loc 0 0 0),(4,.loc 1 0 0)] H):=by
  intro H hH;subst hH;rw[bT]
  conv=>lhs;arg 4;unfold rz
  simp[aI,az,sub,aD,back,av,aq,ak,cut,bt,an,V.aV,bp,aX,aZ,aM,aN]
 have hL:=hL _ rfl;simp at hL;rw[au MW rfl];simp only[Cl.row]at *;simp[AX,hL,hd,aI,az,sub,aD,back,av,aq,ak,cut,bt,an,V.aV,bp,aX,aZ,aM,aN]
end Go.VS.Sp
namespace Go.VS.Sp
theorem kT:ev P (.call QE [] [])=some (.val (.mp 0) [.mp [(I' 64,.d (.fn AL [] [])),(I' 65,.d (.fn sw [] [])),(I' 66,.d (.fn Cx [] []))]]):=by
 rw[au aek rfl];simp[RK,av,ak,cut,bt,an]
theorem ano(sz:Int)(s:S)(c:Cl)(n:Nat)(R:List (List D))(hR:R.length=n)(hn:n<=1000):
  ev P (.call AL [.loc 0 0 0,.d (.ag c.row)] (lA sz s (.aQ 1 0 n) R))=ev P (.call yY [.loc 0 0 0,.d (.ag c.row)] (lA sz s (.aQ 1 0 n) R)):=by
 have hS:=Vg sz s c n R hR hn;rw[Gs]at hS;rw[au H7 rfl];by_cases h:(n:Int)<sz
 .rw[aK h]at hS
  rw[hS];simp only[Cl.row]at *;simp[za,hS,aI,az,sub,aD,back,av,aq,ak,cut,bt,an,V.aV,bp,aX,aZ,aM,aN]
 .rw[aE h]at hS
  rw[hS];simp only[Cl.row]at *;simp[za,hS,aI,az,sub,aD,back,av,aq,ak,cut,bt,an,V.aV,bp,aX,aZ,aM,aN]
theorem anp(sz:Int)(s:S)(c:Cl):
  ev P (.call AL [.loc 0 0 0,.d (.ag c.row)] (lN sz s (.sl 1 true [])))=ev P (.call yY [.loc 0 0 0,.d (.ag c.row)] (lN sz s (.sl 1 true []))):=by
 have hS:=Vh sz s c;rw[Gt]at hS;rw[au H7 rfl];by_cases h:0<sz
 .rw[aK h]at hS
  rw[hS];simp only[Cl.row]at *;simp[za,hS,aI,az,sub,aD,back,av,aq,ak,cut,bt,an,V.aV,bp,aX,aZ,aM,aN]
 .rw[aE h]at hS
  rw[hS];simp only[Cl.row]at *;simp[za,hS,aI,az,sub,aD,back,av,aq,ak,cut,bt,an,V.aV,bp,aX,aZ,aM,aN]
theorem anq(sz:Int)(s:S)(c:Cl)(n:Nat)(a:Int)(R:List (List D))(hR:R.length=n+1):
  ev P (.call sw [.loc 0 0 0,.d (.ag c.row)] (lA sz s (.aQ 1 0 (n+2)) ([I' a]::R)))=ev P (.call pK [.loc 0 0 0,.d (.ag c.row)] (lA sz s (.aQ 1 0 (n+2)) ([I' a]::R))):=by
 have hS:=ank sz s c n a R hR;rw[au vW rfl];rw[hS];simp only[Cl.row]at *;simp[rq,hS,aI,az,sub,aD,back,av,aq,ak,cut,bt,an,V.aV,bp,aX,aZ,aM,aN]
theorem anr(sz:Int)(s:S)(c:Cl)(a:Int):
  ev P (.call sw [.loc 0 0 0,.d (.ag c.row)] (lA sz s (.aQ 1 0 1) [[I' a]]))=ev P (.call pK [.loc 0 0 0,.d (.ag c.row)] (lA sz s (.aQ 1 0 1) [[I' a]])):=by
 have hS:=anl sz s c a;rw[au vW rfl];rw[hS];simp only[Cl.row]at *;simp[rq,hS,aI,az,sub,aD,back,av,aq,ak,cut,bt,an,V.aV,bp,aX,aZ,aM,aN]
theorem ans(sz:Int)(s:S)(c:Cl):
  ev P (.call sw [.loc 0 0 0,.d (.ag c.row)] (lA sz s (.aQ 1 0 0) []))=ev P (.call pK [.loc 0 0 0,.d (.ag c.row)] (lA sz s (.aQ 1 0 0) [])):=by
 have hS:=Vi sz s c;rw[Gs]at hS;rw[au vW rfl];by_cases h:s.cl=true
 .rw[aK h]at hS
  rw[hS];simp only[Cl.row]at *;simp[rq,hS,aI,az,sub,aD,back,av,aq,ak,cut,bt,an,V.aV,bp,aX,aZ,aM,aN]
 .rw[aE h]at hS
  rw[hS];simp only[Cl.row]at *;simp[rq,hS,aI,az,sub,aD,back,av,aq,ak,cut,bt,an,V.aV,bp,aX,aZ,aM,aN]
theorem ant(sz:Int)(s:S)(c:Cl):
  ev P (.call sw [.loc 0 0 0,.d (.ag c.row)] (lN sz s (.sl 1 true [])))=ev P (.call pK [.loc 0 0 0,.d (.ag c.row)] (lN sz s (.sl 1 true []))):=by
 have hS:=Vj sz s c;rw[Gt]at hS;rw[au vW rfl];by_cases h:s.cl=true
 .rw[aK h]at hS
  rw[hS];simp only[Cl.row]at *;simp[rq,hS,aI,az,sub,aD,back,av,aq,ak,cut,bt,an,V.aV,bp,aX,aZ,aM,aN]
 .rw[aE h]at hS
  rw[hS];simp only[Cl.row]at *;simp[rq,hS,aI,az,sub,aD,back,av,aq,ak,cut,bt,an,V.aV,bp,aX,aZ,aM,aN]
theorem anu(sz:Int)(s:S)(c:Cl)(n:Nat)(R:List (List D)):
  ev P (.call Cx [.loc 0 0 0,.d (.ag c.row)] (lA sz s (.aQ 1 0 n) R))=ev P (.call AM [.loc 0 0 0,.d (.ag c.row)] (lA sz s (.aQ 1 0 n) R)):=by
 have hS:=anm sz s c n R;rw[au MU rfl];rw[hS];simp only[Cl.row]at *;simp[E1,hS,aI,az,sub,aD,back,av,aq,ak,cut,bt,an,V.aV,bp,aX,aZ,aM,aN]
theorem anv(sz:Int)(s:S)(c:Cl):
  ev P (.call Cx [.loc 0 0 0,.d (.ag c.row)] (lN sz s (.sl 1 true [])))=ev P (.call AM [.loc 0 0 0,.d (.ag c.row)] (lN sz s (.sl 1 true []))):=by
 have hS:=ann sz s c;rw[au MU rfl];rw[hS];simp only[Cl.row]at *;simp[E1,hS,aI,az,sub,aD,back,av,aq,ak,cut,bt,an,V.aV,bp,aX,aZ,aM,aN]
theorem j0(n:Int):ev P (.call QC [.d (I' n)] [])=some (.val (.d (.b (cW n))) []):=by
 rw[au aei rfl];simp[RI,cW]
def OM(n:Int):Bool:=decide (0<=n)&&decide (n<=9)
theorem j3(n:Int):ev P (.call QD [.d (I' n)] [])=some (.val (.d (.b (OM n))) []):=by
 rw[au aej rfl];simp[RJ,OM]
theorem kU(n:Int):ev P (.call Hh [.d (I' n)] [])=some (.val (.d (.b (num n))) []):=by
 rw[au XS rfl];simp[Me,num]
theorem kX(c:Cl):(!cW c.task||!OM c.prio||decide (c.now<0)||decide (1099511627776<c.now))=cC c:=by
 unfold cW OM cC;rw[xB];simp;omega
end Go.VS.Sp
namespace Go.VS.Sp
end Go.VS.Sp
namespace Go.VS.Sp
end Go.VS.Sp
namespace Go.VS.Sp
def tM(sz ot now:Int)(s:S):S:=if sz<=s.cnt+(now - s.time) / ot then{s with cnt:=sz,time:=now}else{s with cnt:=s.cnt+(now - s.time) / ot,time:=s.time+(now - s.time) / ot*ot}
end Go.VS.Sp
namespace Go.VS.Sp
theorem anw(c:Cl):ev P (.call Qm [.d (.ag c.row)] [])=some (.val (.d (.b (!cC c))) []):=by
 have e:(!cC c)=(decide (0<=c.task)&&decide (c.task<16)&&decide (0<=c.prio)&&decide (c.prio<=9)&&decide (0<=c.now)&&decide (c.now<=1099511627776)):=by
  unfold cC;rw[xB];simp
 rw[e,au adI rfl];simp[Rr,Cl.row]
def Cl.rf(c:Cl):Cl:=if c.op=75 then{c with value:=1}else c
theorem anx(c:Cl):ev P (.call KO [.d (.ag c.row)] [])=some (.val (.d (.ag c.rf.row)) []):=by
 rw[au adJ rfl];unfold Cl.rf;by_cases h:c.op=75
 .rw[aK h]
  simp[LR,Cl.row,h,av,aq]
 .rw[aE h]
  have h':(c.op==75)=false:=by simpa using h
  simp[LR,Cl.row,h',av,aq]
def tN(k:Int)(f g a w r:Nat):Prop :=
 (k=1/\f=sX/\g=ql/\a=yW/\w=W9/\r=Xa)\/(k=2/\f=sY/\g=l5/\a=pJ/\w=Xb/\r=Xc) \/
 (k=4/\f=uu/\g=qZ/\a=AH/\w=Xd/\r=Xe)\/(k=5/\f=uw/\g=oG/\a=AI/\w=Xf/\r=Xg) \/
 (k=6/\f=ux/\g=gr/\a=iM/\w=Xh/\r=Xi)\/(k=7/\f=uy/\g=su/\a=vL/\w=Xj/\r=Xk) \/
 (k=8/\f=uz/\g=nU/\a=AJ/\w=Xl/\r=Xm)\/(k=9/\f=uA/\g=qm/\a=Cu/\w=Xn/\r=Xo)
theorem anz{k:Int}{f g a w r:Nat}(h:tN k f g a w r):ev P (.call KN [.d (I' k)] [])=some (.val (.tu [.d (.ag [.fn f [] [],.fn g [] [],.fn a [] [],.fn w [] [],.fn r [] []]),.d (.b true)]) []):=by
 rw[au Xw rfl];unfold tN at h;rcases h with⟨rfl,rfl,rfl,rfl,rfl,rfl⟩ |⟨rfl,rfl,rfl,rfl,rfl,rfl⟩ |⟨rfl,rfl,rfl,rfl,rfl,rfl⟩ |⟨rfl,rfl,rfl,rfl,rfl,rfl⟩ |⟨rfl,rfl,rfl,rfl,rfl,rfl⟩ |⟨rfl,rfl,rfl,rfl,rfl,rfl⟩ |⟨rfl,rfl,rfl,rfl,rfl,rfl⟩ |⟨rfl,rfl,rfl,rfl,rfl,rfl⟩<;>simp[LO,av]
theorem anA{k:Int}(h:¬(k=1\/k=2\/k=4\/k=5\/k=6\/k=7\/k=8\/k=9)):ev P (.call KN [.d (I' k)] [])=some (.val (.tu [.d (.ag [.cM,.cM,.cM,.cM,.cM]),.d (.b false)]) []):=by
 rw[au Xw rfl];simp only[nQ]at h;obtain⟨h1,h2,h3,h4,h5,h6,h7,h8⟩:=h;have h1:(k==1)=false:=by simpa using h1
 have h2:(k==2)=false:=by simpa using h2
 have h3:(k==4)=false:=by simpa using h3
 have h4:(k==5)=false:=by simpa using h4
 have h5:(k==6)=false:=by simpa using h5
 have h6:(k==7)=false:=by simpa using h6
 have h7:(k==8)=false:=by simpa using h7
 have h8:(k==9)=false:=by simpa using h8
 simp[LO,h1,h2,h3,h4,h5,h6,h7,h8,av]
theorem anB{k:Int}{f g a w r:Nat}(h:tN k f g a w r):∃t,kinds k t f g:=by
 unfold tN at h;unfold kinds;rcases h with⟨rfl,rfl,rfl,rfl,rfl,rfl⟩ |⟨rfl,rfl,rfl,rfl,rfl,rfl⟩ |⟨rfl,rfl,rfl,rfl,rfl,rfl⟩ |⟨rfl,rfl,rfl,rfl,rfl,rfl⟩ |⟨rfl,rfl,rfl,rfl,rfl,rfl⟩ |⟨rfl,rfl,rfl,rfl,rfl,rfl⟩ |⟨rfl,rfl,rfl,rfl,rfl,rfl⟩ |⟨rfl,rfl,rfl,rfl,rfl,rfl⟩
 .exact⟨101,by simp⟩
 .exact⟨102,by simp⟩
 .exact⟨103,by simp⟩
 .exact⟨104,by simp⟩
 .exact⟨105,by simp⟩
 .exact⟨106,by simp⟩
 .exact⟨107,by simp⟩
 .exact⟨108,by simp⟩
end Go.VS.Sp
namespace Go.VS.Sp
theorem anC(c:Cl):cC c.rf=cC c:=by
 unfold Cl.rf;split<;>rfl
end Go.VS.Sp
namespace Go.VS.M
open Go.VS.Sp
theorem anD{k sz ot:Int}:dQ k sz ot=0↔k=1/\sz=0/\ot=0:=by
 unfold dQ;by_cases h1:k=1
 .by_cases h2:sz=0/\ot=0
  .obtain⟨rfl,rfl⟩:=h2;simp[h1]
  .have:(sz != 0||ot != 0)=true:=by simp;omega
   simp[h1,this];exact λh=>λh'=>h2 ⟨h,h'⟩
 .simp[h1]
def JA(k sz ot own cnt time:Int)(hs:List Int)(q:List Sp.W)(bs:List Int)(cs:List (List D))(cl:Bool)(val:Int)(o t p:Int):Rp :=
 if dQ k sz ot=0 then(if jK own cnt time hs q bs cs cl val=true then l9 own q o t p else zr 1)else zr (dQ k sz ot)
theorem OI(nm:D)(k sz ot own cnt time:Int)(hn:Bool)(hs:List Int)(qn:Bool)(q:List Sp.W)(bn:Bool)(bs:List Int)(cn:Bool)(cs:List (List D))(cl:Bool)(val:Int)(t o v p n:Int)
  (h1:hs.length<=1000000)(h2:q.length<=1000000)(h3:bs.length<=1000000)(h4:cs.length<=1000000)(gm:qn=true->q=[]):
  jL (ev P (.call yW [.d (.ag [nm,I' k,I' sz,I' ot]),.d (.ag [I' own,I' cnt,I' time,hD hn hs,qD qn q,hD bn bs,cD cn cs,.b cl,I' val]),.d (.ag [I' t,I' o,I' v,I' p,I' n])] []))
   (JA k sz ot own cnt time hs q bs cs cl val o t p):=by
 have hC:=qu nm k sz ot own cnt time hn hs qn q bn bs cn cs cl val h1 h2 h3 h4;unfold JA;by_cases hm:dQ k sz ot=0
 .rw[aK hm]at hC⊢
  by_cases hv:jK own cnt time hs q bs cs cl val=true
  .rw[aK hv]
   obtain⟨⟨rfl,rfl,rfl,rfl,rfl,rfl,rfl⟩,hl,m⟩:=Jq.1 hv;obtain⟨rfl,rfl,rfl⟩:=anD.1 hm;exact amd nm hn qn bn cn own q t o v p n gm h2 m.desc hv
  .rw[aE hv]at hC⊢
   exact ame _ _ _ _ _ _ _ _ _ _ _ _ _ _ _ _ _ _ 1 (by decide) hC
 .rw[aE hm]at hC⊢
  exact ame _ _ _ _ _ _ _ _ _ _ _ _ _ _ _ _ _ _ _ hm hC
def ps:List (List D):=[[I' 0],[I' 0],[I' 5],[I' 5]]
end Go.VS.M
namespace Go.VS.Sp
end Go.VS.Sp
namespace Go.VS.Sp
theorem anE(t a b c d e:Int):ev P (.call Es [.d (.ag [I' a,I' b,I' c,I' d,I' e]),.d (.ref [I' t])] [])=some (.val (.d (.b (a != t))) []):=by
 rw[au aeL rfl];simp[R0]
theorem anF{f:Nat}{first caps:List D}{p:W->Bool}(nl:Bool)(l:List W)(hn:l.length<=1000000)
  (hp:∀a b c d e,ev P (.call f (first.map V.d++[.d (.ag [I' a,I' b,I' c,I' d,I' e])]++caps.map V.d) [])=some (.val (.d (.b (p ⟨a,b,c,d,e⟩))) []))
  (R:Option dN)(hR:R=some (.out (.exit 0) [(5,uJ 5 (.d (.sl 5 true [])) ((l.filter p).map W.row))] (uK 5 ((l.filter p).map W.row)))):
  ∀(suf pre:List W),l=pre++suf ->
  ev P (.loop 0 [1,5,8,9,10] Mr [(1,.d (.fn f first caps)),(5,uJ 5 (.d (.sl 5 true [])) ((pre.filter p).map W.row)),(8,.d (.sl 5 nl (l.map W.row))),(9,.d (I' l.length)),(10,.d (I' pre.length))] (uK 5 ((pre.filter p).map W.row)))=R:=by
 intro suf;induction suf with
 |nil =>
  intro pre hl;have Iy:l=pre:=by simp[hl]
  subst Iy;rw[bT,hR]
  conv=>lhs;arg 4;unfold Mr
  cases hf:l.filter p with
  |nil=>simp[uJ,uK]
  |cons a r=>simp[uJ,uK,ak,cut,W.row]
 |cons w suf ih =>
  intro pre hl;clear hR;have hg:l[pre.length]?=some w:=by simp[hl]
  have hlt:(pre.length:Int)<l.length:=by simp[hl];omega
  have hnext:IntKind.i64.wrap ((pre.length:Int)+1)=pre.length+1:=wrap_i64 (by omega) (by omega)
  have bD:=ih (pre++[w]) (by simp[hl])
  simp at bD hp;rw[bT]
  conv=>lhs;arg 4;unfold Mr
  cases hf:pre.filter p with
  |nil =>
   simp[hlt,hg,W.row,hp,th,uJ,uK];cases hw:p w
   .simp[hw,hnext,hf,uJ,uK,ak]at bD⊢
    exact bD
   .have hr:1<=room:=by decide
    simp[hw,hnext,hf,hr,uJ,uK,ak,W.row]at bD⊢;exact bD
  |cons a r =>
   have hrl:r.length<1000000:=by
    have h1:(pre.filter p).length<=pre.length:=uc _ _;have h2:pre.length<=l.length:=by simp[hl]
    rw[hf]at h1;simp at h1;omega
   have hr:r.length+1+1<=room:=by unfold room;omega
   simp[hlt,hg,W.row,hp,th,uJ,uK];cases hw:p w
   .simp[hw,hnext,hf,uJ,uK,ak,W.row]at bD⊢
    exact bD
   .simp[hw,hnext,hf,hr,uJ,uK,ak,W.row,aq,bk,cG,cz]at bD⊢
    exact bD
end Go.VS.Sp
namespace Go.VS.Sp
def BJ(task prio now:Int):Bool:=decide (task<0)||decide (16<=task)||decide (prio<0)||decide (9<prio)||decide (now<0)||decide (1099511627776<now)
def jB(s:S)(task op value prio now:Int):Int :=
 if BJ task prio now=true then 2 else if(op==68||op==69||op==70||op==71)=false then 8 else
 if(op==68&&!num value)=true then 2 else if(s.Q.any λw=>w.task==task)=true then 17 else
 if(op==69&&decide (0<=jT s.C task))=true then 6 else if((op==71||op==70)&&!decide (0<=jT s.C task))=true then 20 else 0
theorem JB(s:S)(hs:s.sm)(task op value prio now:Int):
  ev P (.call QH [.d (.ag s.row),.d (.ag [I' task,I' op,I' value,I' prio,I' now])] [])=some (.val (.d (I' (jB s task op value prio now))) []):=by
 have hF:=lD s.qn s.Q task hs.q;rw[A6]at hF;have mT:=Ie (I' s.own) (I' s.cnt) (I' s.time) (hD s.hn s.H) (qD s.qn s.Q) (hD s.bn s.B) (.b s.cl) (I' s.val) s.cn s.C task hs.c;have hN:=SN value;unfold jB;generalize (s.Q.any λw=>w.task==task)=a at *
 generalize (ju s.Q task).1=fi at *;generalize jT s.C task=fk at *;generalize num value=nv at *;rw[au aen rfl];cases hb:(decide (task<0)||decide (16<=task)||decide (prio<0)||decide (9<prio)||decide (now<0)||decide (1099511627776<now))
 .have kK:BJ task prio now=false:=hb
  rw[kK];by_cases fu:op=68
  .subst fu
   cases nv<;>cases a<;>simp[vT,hb,hN,hF,mT]
  .have SO:(op==68)=false:=by simp[fu]
   by_cases kL:op=69
   .subst kL
    cases a
    .by_cases hk:0<=fk<;>simp[vT,hb,hF,mT,hk]
    .simp[vT,hb,hF,mT]
   .have anG:(op==69)=false:=by simp[kL]
    by_cases fI:op=70
    .subst fI
     cases a
     .by_cases hk:0<=fk<;>simp[vT,hb,hF,mT,hk]
     .simp[vT,hb,hF,mT]
    .have M3:(op==70)=false:=by simp[fI]
     by_cases l6:op=71
     .subst l6
      cases a
      .by_cases hk:0<=fk<;>simp[vT,hb,hF,mT,hk]
      .simp[vT,hb,hF,mT]
     .have anH:(op==71)=false:=by simp[l6]
      simp[vT,hb,SO,anG,M3,anH]
 .have kK:BJ task prio now=true:=hb
  simp[vT,hb,kK]
structure Z where
 o:D
 c:D
 t:D
 h:D
 b:D
 l:D
 v:D
structure cE where
 task:Int
 op:Int
 value:Int
 deriving DecidableEq
def cE.row(w:cE):List D:=[I' w.task,I' w.op,I' w.value,.b true,I' (-1)]
inductive Wo where
 |nil
 |a0(l:List cE)
 |a1(l:List cE)
def bA(z:Z)(sz:Int)(q c w:V):O:=.gK 11 [[.d (I' sz),.d z.o,.d z.c,.d z.t,.d z.h,q,.d z.b,c,.d z.l,.d z.v,w]]
def bM(z:Z)(sz:Int)(q c w:D):O:=.aG 11 true [[I' sz,z.o,z.c,z.t,z.h,q,z.b,c,z.l,z.v,w]]
def hB(z:Z)(sz:Int)(q:D)(C:List K):Option (List (List D))->Wo->List O
 |none,.nil=>[bM z sz q (.sl 2 true []) (.sl 5 true [])]
 |none,.a0 l=>[bA z sz (.d q) (.d (.sl 2 true [])) (.aQ 1 0 l.length),.aG 5 true (l.map cE.row)]
 |none,.a1 l=>[bA z sz (.d q) (.d (.sl 2 true [])) (.aQ 2 0 l.length),.dead,.aG 5 true (l.map cE.row)]
 |some T,.nil=>[bA z sz (.d q) (.aQ 1 0 C.length) (.d (.sl 5 true [])),.aG 2 true (C.map K.row++T)]
 |some T,.a0 l=>[bA z sz (.d q) (.aQ 1 0 C.length) (.aQ 2 0 l.length),.aG 2 true (C.map K.row++T),.aG 5 true (l.map cE.row)]
 |some T,.a1 l=>[bA z sz (.d q) (.aQ 1 0 C.length) (.aQ 3 0 l.length),.aG 2 true (C.map K.row++T),.dead,.aG 5 true (l.map cE.row)]
theorem dw:List.range 2=[0,1]:=rfl
theorem dx:List.range 3=[0,1,2]:=rfl
theorem eJ:List.range 4=[0,1,2,3]:=rfl
theorem cg:List.range 5=[0,1,2,3,4]:=rfl
theorem Vk(z:Z)(sz:Int)(q:D)(C:List K) (cs)(t op v p k x:Int):
  ev P (.call Hr [.loc 0 0 0,.d (.ag [I' t,I' op,I' v,I' p,I' k]),.d (I' x)] (hB z sz q C cs .nil))=some (.val (.tu []) (hB z sz q C cs (.a0 [⟨t,op,x⟩]))):=by
 have hr:1<=room:=by unfold room;omega
 rw[au X3 rfl];rcases cs with _ |T<;>simp[MA,hB,bM,bA,cE.row,ak,cut,dw,dx,eJ,an,av,hr,V.aV]
theorem JC(z:Z)(sz:Int)(q:D)(C:List K) (cs)(l:List cE)(t op v p k x:Int)(hl:l.length<=1000000):
  ev P (.call Hr [.loc 0 0 0,.d (.ag [I' t,I' op,I' v,I' p,I' k]),.d (I' x)] (hB z sz q C cs (.a0 l)))=some (.val (.tu []) (hB z sz q C cs (.a1 (l++[⟨t,op,x⟩])))):=by
 have hr:l.length+1<=room:=by unfold room;omega
 rw[au X3 rfl];rcases cs with _ |T<;>simp[MA,hB,bM,bA,cE.row,ak,cut,dw,dx,eJ,cg,an,av,hr,V.aV,bk,cz]
end Go.VS.Sp
namespace Go.VS.Sp
theorem w9(nl:Bool)(q:List W)(gm:nl=true->q=[])(hn:q.length<=1000000):
  ev P (.call sv [.d (qD nl q)] [])=if nl=true then some (.val (.d (.sl 5 true [])) [])else some (.val (.aQ 0 0 q.length) [.aG 5 true (q.map W.row)]):=by
 rw[au MT rfl];cases nl
 .have hr:q.length<=room:=by unfold room;omega
  cases q with
  |nil=>simp[qp,eK,fO,ak,cut,av]
  |cons a r =>
   simp at hr;simp[qp,eK,fO,ak,cut,hr,av]
 .simp[qp,av]
theorem anI(nl:Bool)(q:List K)(gm:nl=true->q=[])(hn:q.length<=1000000):
  ev P (.call Hq [.d (cD nl q)] [])=if nl=true then some (.val (.d (.sl 2 true [])) [])else some (.val (.aQ 0 0 q.length) [.aG 2 true (q.map K.row)]):=by
 rw[au X2 rfl];cases nl
 .have hr:q.length<=room:=by unfold room;omega
  cases q with
  |nil=>simp[AY,eK,fO,ak,cut,av]
  |cons a r =>
   simp at hr;simp[AY,eK,fO,ak,cut,hr,av]
 .simp[AY,av]
def dg(z:Z)(sz:Int)(qn:Bool)(Q:List W)(cn:Bool)(C:List K):List O :=
 match qn,cn with
 |true,true=>[bM z sz (.sl 5 true []) (.sl 2 true []) (.sl 5 true [])]
 |true,false=>[bA z sz (.d (.sl 5 true [])) (.aQ 1 0 C.length) (.d (.sl 5 true [])),.aG 2 true (C.map K.row)]
 |false,true=>[bA z sz (.aQ 1 0 Q.length) (.d (.sl 2 true [])) (.d (.sl 5 true [])),.aG 5 true (Q.map W.row)]
 |false,false=>[bA z sz (.aQ 1 0 Q.length) (.aQ 2 0 C.length) (.d (.sl 5 true [])),.aG 5 true (Q.map W.row),.aG 2 true (C.map K.row)]
theorem ON(z:Z)(x0 x1 x3:D)(sz:Int)(qn:Bool)(Q:List W)(cn:Bool)(C:List K)(h1:qn=true->Q=[])(h2:cn=true->C=[])(h3:Q.length<=1000000)(h4:C.length<=1000000):
  ev P (.call KY [.d (.ag [x0,x1,I' sz,x3]),.d (.ag [z.o,z.c,z.t,z.h,qD qn Q,z.b,cD cn C,z.l,z.v])] [])=some (.val (.loc 0 0 0) (dg z sz qn Q cn C)):=by
 have hC:=anI cn C h2 h4;have Jv:=w9 qn Q h1 h3;rw[au aeo rfl];cases qn<;>cases cn<;>simp at hC Jv <;>
  simp[RM,hC,Jv,aI,eK,fO,V.aV,dg,bM,bA,ak,cut,dw,dx,eJ,cg,an,av,aq]
end Go.VS.Sp
namespace Go.VS.Sp
theorem anJ(nl:Bool)(q:List Int)(gm:nl=true->q=[])(hn:q.length<=1000000):
  ev P (.call s9 [.d (hD nl q)] [])=if nl=true then some (.val (.d (.sl 1 true [])) [])else some (.val (.aQ 0 0 q.length) [.aG 1 true (bW q)]):=by
 rw[au SD rfl];cases nl
 .have hr:q.length<=room:=by unfold room;omega
  cases q with
  |nil=>simp[rj,eK,fO,ak,cut,av]
  |cons a r =>
   simp at hr;simp[rj,eK,fO,ak,cut,hr,av]
 .simp[rj,av]
theorem zX{α β:Type}{f:α->β}{r:List α}{x:β}:List.take (r.length+1) (r.map f++[x])=r.map f++[x]:=gE (by simp)
theorem anK{α:Type}{A B:List α}{x y:α}{n:Nat}(h:A.length=n):(A++x::B).set n y=A++y::B:=by
 subst h;simp
theorem OO{α:Type}{A B:List α}{x:α}{n:Nat}(h:A.length=n):(A++x::B)[n]?=some x:=by
 subst h;simp
inductive Hs where
 |b0
 |b1(l:List cE)
 |c(Q:List W)
def hX(z:Z)(sz:Int)(q:D)(n:Nat)(R:List (List D)):Hs->List O
 | .b0=>[bA z sz (.d q) (.aQ 1 0 n) (.d (.sl 5 true [])),.aG 2 true R]
 | .b1 l=>[bA z sz (.d q) (.aQ 1 0 n) (.aQ 2 0 l.length),.aG 2 true R,.aG 5 true (l.map cE.row)]
 | .c Q=>[bA z sz (.d q) (.aQ 2 0 n) (.d (.sl 5 true [])),.aG 5 false (Q.map W.row),.aG 2 true R]
def Hs.m:Hs->Nat
 | .b0=>2
 | .b1 _=>3
 | .c _=>3
def gw(Q:List W)(v:Int)(c:K):K:=if jo Q c.task 70=true then c else⟨c.task,false,c.log++[v]⟩
theorem Vl(z:Z)(sz:Int)(qn:Bool)(Q:List W)(v:Int)(n:Nat)(T:List (List D))(sh:Hs)(hq:Q.length<=1000000)(hn:n<=1000000):∀(suf:List K)(A:List (List D)),A.length+suf.length=n ->
  (∀c∈suf,(c.nl=true->c.log=[])/\c.log.length<=100000) ->
  ev P (.loop sh.m [0,1,14,15] AT [(0,.loc 0 0 0),(1,.d (I' v)),(14,.d (I' n)),(15,.d (I' A.length))] (hX z sz (qD qn Q) n (A++(suf.map K.row++T)) sh)) =
   some (.out (.exit 0) [(0,.loc 0 0 0),(1,.d (I' v))] (hX z sz (qD qn Q) n (A++((suf.map (gw Q v)).map K.row++T)) sh)):=by
 intro suf;induction suf with
 |nil =>
  intro A hl _
  have:n=A.length:=by simp at hl;exact hl.symm
  rw[bT]
  conv=>lhs;arg 4;unfold AT
  cases sh<;>simp[this,hX,Hs.m,bA,ak,cut,dw,dx,an]
 |cons c suf ih =>
  intro A hl hc;have hlt:(A.length:Int)<n:=by simp at hl;omega
  have jF:A.length<n:=by simp at hl;omega
  have hnext:IntKind.i64.wrap ((A.length:Int)+1)=A.length+1:=wrap_i64 (by omega) (by omega)
  have hC:=anJ c.nl c.log (hc c (by simp)).1 (by have:=(hc c (by simp)).2;omega)
  have hr:c.log.length+1<=room:=by have:=(hc c (by simp)).2;unfold room;omega
  have hrow:c.row=[I' c.task,hD c.nl c.log]:=rfl;have hw:∀d0 d1 d2 d3 d5 d6 d7 d8:D,ev P (.call Ht [.d (.ag [d0,d1,d2,d3,qD qn Q,d5,d6,d7,d8]),.d (I' c.task),.d (I' 70)] [])=some (.val (.d (.b (jo Q c.task 70))) []):=λd0 d1 d2 d3 d5 d6 d7 d8=>Yc d0 d1 d2 d3 d5 d6 d7 d8 qn Q c.task 70 hq
  have e0:A++((c::suf).map K.row++T)=A++c.row::(suf.map K.row++T):=by simp
  have e1:A++(((c::suf).map (gw Q v)).map K.row++T)=A++[(gw Q v c).row]++((suf.map (gw Q v)).map K.row++T):=by simp
  have bD:=ih (A++[(gw Q v c).row]) (by simp at hl⊢;omega) (λx hx=>hc x (by simp[hx]))
  rw[e0,e1,<-bD];have e2:A++[(gw Q v c).row]++(suf.map K.row++T)=A++(gw Q v c).row::(suf.map K.row++T):=by simp
  rw[e2];have hB:n<=A.length+((suf.map K.row++T).length+1):=by simp at hl⊢;omega
  generalize suf.map K.row++T=B at *;have rU:=OO (A:=A) (B:=B) (x:=c.row) (n:=A.length) rfl;have BK:=λy=>anK (A:=A) (B:=B) (x:=c.row) (y:=y) (n:=A.length) rfl
  simp only[lT,tY];generalize hR:ev P (.loop sh.m [0,1,14,15] AT [(0,.loc 0 0 0),(1,.d (I' v)),(14,.d (I' n)),(15,.d (I' (A.length+1:Nat)))] (hX z sz (qD qn Q) n (A++(gw Q v c).row::B) sh))=R;rw[bT]
  conv=>lhs;arg 4;unfold AT
  cases BI:jo Q c.task 70
  .have hp:gw Q v c=⟨c.task,false,c.log++[v]⟩:=by simp[gw,BI]
   rw[hp]at hR;have F5:K.row ⟨c.task,false,c.log++[v]⟩=[I' c.task,.sl 1 false (bW (c.log++[v]))]:=rfl;rw[F5]at hR;have hw':=hw;rw[BI]at hw';cases gm:c.nl
   .rw[gm]at hC hrow
    rw[hrow]at rU BK;simp at hR hC;cases sh;all_goals
     simp[hX,Hs.m,bA]at hR;simp[hlt,jF,rU,hrow,hw',hX,Hs.m,bA,ak,cut,dw,dx,an,hnext,hB,hC,aI,hr,BK,bk,zX,bp,aX,aZ,cz,hR]
   .rw[gm]at hC hrow
    have iZ:=(hc c (by simp)).1 gm
    rw[iZ]at hrow hC hR;rw[hrow]at rU BK;simp at hR hC;have h1:1<=room:=by unfold room;omega
    cases sh;all_goals
     simp[hX,Hs.m,bA]at hR;simp[hlt,jF,rU,hrow,hw',hX,Hs.m,bA,ak,cut,dw,dx,an,hnext,hB,hC,aI,h1,BK,bk,zX,bp,aX,aZ,cz,hR]
  .have hp:gw Q v c=c:=by simp[gw,BI]
   rw[hp]at hR;have hw':=hw;rw[BI]at hw';rw[hrow]at rU hR;simp at hR;cases sh;all_goals
    simp[hX,Hs.m,bA]at hR;simp[hlt,jF,rU,hrow,hw',hX,Hs.m,bA,ak,cut,dw,dx,an,hnext,hB,hR]
end Go.VS.Sp
namespace Go.VS.Sp
inductive Hk where
 |w0
 |w1(l:List cE)
 |wc(Q:List W)
def bH(z:Z)(sz:Int)(q:D)(C:List K)(i:Nat):Option (List (List D))->Hk->List cE->List O
 |none,.w0,[]=>[bM z sz q (.sl 2 true []) (.sl 5 true [])]
 |none,.w0,a::l=>[bA z sz (.d q) (.d (.sl 2 true [])) (.aQ (1+i) 0 (a::l).length)]
 |none,.w1 l,[]=>[bA z sz (.d q) (.d (.sl 2 true [])) (.aQ 1 0 l.length),.aG 5 true (l.map cE.row)]
 |none,.w1 l,a::r=>[bA z sz (.d q) (.d (.sl 2 true [])) (.aQ (2+i) 0 (l++a::r).length),.dead]
 |none,.wc Q,[]=>[bM z sz q (.sl 2 true []) (.sl 5 true []),.aG 5 false (Q.map W.row)]
 |none,.wc Q,a::l=>[bA z sz (.d q) (.d (.sl 2 true [])) (.aQ (2+i) 0 (a::l).length),.aG 5 false (Q.map W.row)]
 |some T,.w0,[]=>[bA z sz (.d q) (.aQ 1 0 C.length) (.d (.sl 5 true [])),.aG 2 true (C.map K.row++T)]
 |some T,.w0,a::l=>[bA z sz (.d q) (.aQ 1 0 C.length) (.aQ (2+i) 0 (a::l).length),.aG 2 true (C.map K.row++T)]
 |some T,.w1 l,[]=>[bA z sz (.d q) (.aQ 1 0 C.length) (.aQ 2 0 l.length),.aG 2 true (C.map K.row++T),.aG 5 true (l.map cE.row)]
 |some T,.w1 l,a::r=>[bA z sz (.d q) (.aQ 1 0 C.length) (.aQ (3+i) 0 (l++a::r).length),.aG 2 true (C.map K.row++T),.dead]
 |some T,.wc Q,[]=>[bA z sz (.d q) (.aQ 2 0 C.length) (.d (.sl 5 true [])),.aG 5 false (Q.map W.row),.aG 2 true (C.map K.row++T)]
 |some T,.wc Q,a::l=>[bA z sz (.d q) (.aQ 2 0 C.length) (.aQ (3+i) 0 (a::l).length),.aG 5 false (Q.map W.row),.aG 2 true (C.map K.row++T)]
def fH:Hk->List cE->List O
 |_,[]=>[]
 | .w1 l,a::r=>[.aG 5 true ((l++a::r).map cE.row)]
 |_,a::r=>[.aG 5 true ((a::r).map cE.row)]
def oV:List W->Nat->V
 | [],_=>.d (.sl 5 true [])
 |a::l,i=>.aQ i 0 (a::l).length
def oO:List W->List O
 | []=>[]
 |a::l=>[.aG 5 true ((a::l).map W.row)]
def cH(z:Z)(sz:Int)(q:D)(C:List K)(cs:Option (List (List D)))(hk:Hk)(wn:List cE)(ot:List W):List O:=bH z sz q C (oO ot).length cs hk wn++(oO ot++fH hk wn)
def gO:Option (List (List D))->Hk->Nat
 |none,.w0=>1
 |none,_=>2
 |some _,.w0=>2
 |some _,_=>3
def OP(v:Int)(w:W):cE:=⟨w.task,w.op,v⟩
def pW(v:Int)(Q:List W):List cE:=(Q.filter λw=>w.op==70).map (OP v)
def pO(Q:List W):List W:=Q.filter λw=>!(w.op==70)
def Hk.len:Hk->Nat
 | .w1 l=>l.length
 |_=>0
set_option maxHeartbeats 4000000 in
theorem anL(z:Z)(sz:Int)(qd:D)(C:List K)(cs:Option (List (List D)))(hk:Hk)(qn:Bool)(Q:List W)(v:Int)(hq:Q.length<=100000)(hh:hk.len<=100000):∀(suf pre:List W)(wn:List cE)(ot:List W),Q=pre++suf->wn.length<=pre.length->ot.length<=pre.length ->
  ev P (.loop (gO cs hk) [0,1,6,51,52,53] AU [(0,.loc 0 0 0),(1,.d (I' v)),(6,oV ot (gO cs hk)),(51,.d (qD qn Q)),(52,.d (I' Q.length)),(53,.d (I' pre.length))] (cH z sz qd C cs hk wn ot)) =
   some (.out (.exit 2) [(0,.loc 0 0 0),(6,oV (ot++pO suf) (gO cs hk))] (cH z sz qd C cs hk (wn++pW v suf) (ot++pO suf))):=by
 intro suf;induction suf with
 |nil =>
  intro pre wn ot hl _ _
  have:Q.length=pre.length:=by simp[hl]
  rw[bT]
  conv=>lhs;arg 4;unfold AU
  rcases cs with _ |T<;>rcases hk with _ |l |Q0<;>rcases wn with _ |⟨a,wn⟩<;>rcases ot with _ |⟨b,ot⟩ <;>
   simp[this,pW,pO,cH,bH,fH,oV,oO,gO,bA,bM,ak,cut,dw,dx,an]
 |cons w suf ih =>
  intro pre wn ot hl h1 h2;have hg:Q[pre.length]?=some w:=by simp[hl]
  have hlt:(pre.length:Int)<Q.length:=by simp[hl];omega
  have eH:pre.length<Q.length:=by simp[hl]
  have hnext:IntKind.i64.wrap ((pre.length:Int)+1)=pre.length+1:=wrap_i64 (by omega) (by omega)
  cases ho:w.op==70
  .have e1:pW v (w::suf)=pW v suf:=by simp[pW,ho]
   have e2:ot++pO (w::suf)=ot++[w]++pO suf:=by simp[pO,ho]
   have bD:=ih (pre++[w]) wn (ot++[w]) (by simp[hl]) (by simp;omega) (by simp;omega)
   rw[e1,e2,<-bD];generalize hR:ev P (.loop (gO cs hk) [0,1,6,51,52,53] AU [(0,.loc 0 0 0),(1,.d (I' v)),(6,oV (ot++[w]) (gO cs hk)),(51,.d (qD qn Q)),(52,.d (I' Q.length)),(53,.d (I' (pre++[w]).length))] (cH z sz qd C cs hk wn (ot++[w])))=R;rw[bT]
   conv=>lhs;arg 4;unfold AU
   rcases ot with _ |⟨b,ot⟩
   .have hr:1<=room:=by unfold room;omega
    rcases cs with _ |T<;>rcases hk with _ |l |Q0<;>rcases wn with _ |⟨a,wn⟩;all_goals
     simp[cH,bH,fH,oV,oO,gO,bA,bM,W.row]at hR;simp[hlt,hg,W.row,ho,hnext,cH,bH,fH,oV,oO,gO,bA,bM,ak,cut,dw,dx,an,hr,hR]
   .have hr:ot.length+1+1<=room:=by unfold room;simp at h2;omega
    rcases cs with _ |T<;>rcases hk with _ |l |Q0<;>rcases wn with _ |⟨a,wn⟩;all_goals
     simp[cH,bH,fH,oV,oO,gO,bA,bM,W.row]at hR;simp[hlt,hg,W.row,ho,hnext,cH,bH,fH,oV,oO,gO,bA,bM,ak,cut,dw,dx,an,hr,bk,cz,hR]
  .have e1:wn++pW v (w::suf)=wn++[⟨w.task,w.op,v⟩]++pW v suf:=by simp[pW,ho,OP]
   have e2:pO (w::suf)=pO suf:=by simp[pO,ho]
   have bD:=ih (pre++[w]) (wn++[⟨w.task,w.op,v⟩]) ot (by simp[hl]) (by simp;omega) (by simp;omega)
   rw[e1,e2,<-bD];generalize hR:ev P (.loop (gO cs hk) [0,1,6,51,52,53] AU [(0,.loc 0 0 0),(1,.d (I' v)),(6,oV ot (gO cs hk)),(51,.d (qD qn Q)),(52,.d (I' Q.length)),(53,.d (I' (pre++[w]).length))] (cH z sz qd C cs hk (wn++[⟨w.task,w.op,v⟩]) ot))=R;rw[bT]
   conv=>lhs;arg 4;unfold AU
   rcases wn with _ |⟨a,wn⟩
   .rcases hk with _ |l |Q0
    .have hw:=Vk z sz qd C cs w.task w.op w.value w.prio w.case v
     rcases cs with _ |T<;>rcases ot with _ |⟨b,ot⟩;all_goals
      simp[hB,bA,bM,cE.row]at hw;simp[cH,bH,fH,oV,oO,gO,bA,bM,cE.row,W.row]at hR;simp[hlt,hg,W.row,ho,hnext,cH,bH,fH,oV,oO,gO,bA,bM,ak,cut,dw,dx,an,hw,az,sub,aD,back,hR]
    .have hw:=JC z sz qd C cs l w.task w.op w.value w.prio w.case v (by simp[Hk.len]at hh;omega)
     rcases cs with _ |T<;>rcases ot with _ |⟨b,ot⟩;all_goals
      simp[hB,bA,bM,cE.row]at hw;simp[cH,bH,fH,oV,oO,gO,bA,bM,cE.row,W.row]at hR;simp[hlt,hg,W.row,ho,hnext,cH,bH,fH,oV,oO,gO,bA,bM,ak,cut,dw,dx,an,hw,az,sub,aD,back,hR]
    .have hw:=Vk z sz qd C cs w.task w.op w.value w.prio w.case v
     rcases cs with _ |T<;>rcases ot with _ |⟨b,ot⟩;all_goals
      simp[hB,bA,bM,cE.row]at hw;simp[cH,bH,fH,oV,oO,gO,bA,bM,cE.row,W.row]at hR;simp[hlt,hg,W.row,ho,hnext,cH,bH,fH,oV,oO,gO,bA,bM,ak,cut,dw,dx,an,hw,az,sub,aD,back,hR]
   .rcases hk with _ |l |Q0
    .have hw:=JC z sz qd C cs (a::wn) w.task w.op w.value w.prio w.case v (by simp at h1⊢;omega)
     rcases cs with _ |T<;>rcases ot with _ |⟨b,ot⟩;all_goals
      simp[hB,bA,bM,cE.row]at hw;simp[cH,bH,fH,oV,oO,gO,bA,bM,cE.row,W.row]at hR;simp[hlt,hg,W.row,ho,hnext,cH,bH,fH,oV,oO,gO,bA,bM,cE.row,ak,cut,dw,dx,an,hw,az,sub,aD,back,hR]
    .have hw:=JC z sz qd C cs (l++a::wn) w.task w.op w.value w.prio w.case v (by simp[Hk.len]at h1 hh⊢;omega)
     rcases cs with _ |T<;>rcases ot with _ |⟨b,ot⟩;all_goals
      simp[hB,bA,bM,cE.row]at hw;simp[cH,bH,fH,oV,oO,gO,bA,bM,cE.row,W.row]at hR;simp[hlt,hg,W.row,ho,hnext,cH,bH,fH,oV,oO,gO,bA,bM,cE.row,ak,cut,dw,dx,an,hw,az,sub,aD,back,hR]
    .have hw:=JC z sz qd C cs (a::wn) w.task w.op w.value w.prio w.case v (by simp at h1⊢;omega)
     rcases cs with _ |T<;>rcases ot with _ |⟨b,ot⟩;all_goals
      simp[hB,bA,bM,cE.row]at hw;simp[cH,bH,fH,oV,oO,gO,bA,bM,cE.row,W.row]at hR;simp[hlt,hg,W.row,ho,hnext,cH,bH,fH,oV,oO,gO,bA,bM,cE.row,ak,cut,dw,dx,an,hw,az,sub,aD,back,hR]
end Go.VS.Sp
namespace Go.VS.Sp
def pH(z:Z)(sz:Int)(qn:Bool)(Q:List W)(C:List K):Option (List (List D))->Hk->List O
 |cs,.w0=>hB z sz (qD qn Q) C cs .nil
 |cs,.w1 l=>hB z sz (qD qn Q) C cs (.a0 l)
 |none,.wc _=>[bA z sz (.aQ 1 0 Q.length) (.d (.sl 2 true [])) (.d (.sl 5 true [])),.aG 5 true (Q.map W.row)]
 |some T,.wc _=>[bA z sz (.aQ 1 0 Q.length) (.aQ 2 0 C.length) (.d (.sl 5 true [])),.aG 5 true (Q.map W.row),.aG 2 true (C.map K.row++T)]
def Kok(C:List K):Prop:=∀c∈C,(c.nl=true->c.log=[])/\c.log.length<=100000
def qO(Q:List W):D:=qD (decide (Q=[])) Q
def pR(z:Z)(sz:Int)(q:D)(C:List K)(cs:Option (List (List D)))(hk:Hk)(wn:List cE):List O:=bH z sz q C 0 cs hk wn++fH hk wn
theorem anM(z:Z)(sz:Int)(qn:Bool)(Q:List W)(v:Int)(C:List K)(cs:Option (List (List D)))(hk:Hk)(hq:Q.length<=100000)(hh:hk.len<=100000):
  ev P (.loop (gO cs hk) [0,1,6,51,52,53] AU [(0,.loc 0 0 0),(1,.d (I' v)),(6,.d (.sl 5 true [])),(51,.d (qD qn Q)),(52,.d (I' Q.length)),(53,.d (I' 0))] (bH z sz (qD qn Q) C 0 cs hk [])) =
   some (.out (.exit 2) [(0,.loc 0 0 0),(6,oV (pO Q) (gO cs hk))] (cH z sz (qD qn Q) C cs hk (pW v Q) (pO Q))):=by
 have h:=anL z sz (qD qn Q) C cs hk qn Q v hq hh Q [] [] [] rfl (by simp) (by simp)
 have e1:cH z sz (qD qn Q) C cs hk [] []=bH z sz (qD qn Q) C 0 cs hk []:=by
  cases cs<;>cases hk<;>simp[cH,oO,bH,fH]
 rw[e1]at h;have e2:(([]:List W).length:Int)=0:=rfl;rw[e2,mu,mu]at h;exact h
set_option maxHeartbeats 4000000 in
theorem anN(z:Z)(sz:Int)(qn:Bool)(Q:List W)(v:Int)(C:List K)(cs:Option (List (List D)))(hk:Hk)(tP:cs=none->C=[])(hq:Q.length<=100000)(hc:C.length<=100000)(hC:Kok C)(hh:hk.len<=100000)(pX:∀Q0,hk = .wc Q0->Q0=Q/\qn=false):
  ev P (.call K0 [.loc 0 0 0,.d (I' v)] (pH z sz qn Q C cs hk))=some (.val (.tu []) (pR z sz (qO (pO Q)) (C.map (gw Q v)) cs hk (pW v Q))):=by
 have hL:=anM z sz qn Q v (C.map (gw Q v)) cs hk hq hh;generalize hwn:pW v Q=wn at *;generalize lG:pO Q=ot at *;rw[au aez rfl];rcases cs with _ |T
 .obtain rfl:=tP rfl
  rcases hk with _ |l |Q0
  .rcases wn with _ |⟨a,wn⟩<;>rcases ot with _ |⟨b,ot⟩
   all_goals
    simp[cH,bH,fH,oV,oO,gO,bA,bM]at hL;simp[AV,AT,bT,aX,aZ,bp,pH,pR,qO,hB,cH,bH,fH,oV,oO,gO,bA,bM,ak,cut,dw,dx,an,bk,hL,av,W.row]
  .rcases wn with _ |⟨a,wn⟩<;>rcases ot with _ |⟨b,ot⟩
   all_goals
    simp[cH,bH,fH,oV,oO,gO,bA,bM]at hL;simp[AV,AT,bT,aX,aZ,bp,pH,pR,qO,hB,cH,bH,fH,oV,oO,gO,bA,bM,ak,cut,dw,dx,an,bk,hL,av,W.row]
  .obtain⟨rfl,rfl⟩:=pX Q0 rfl
   rcases wn with _ |⟨a,wn⟩<;>rcases ot with _ |⟨b,ot⟩;all_goals
    simp[cH,bH,fH,oV,oO,gO,bA,bM]at hL;simp[AV,AT,bT,aX,aZ,bp,pH,pR,qO,hB,cH,bH,fH,oV,oO,gO,bA,bM,ak,cut,dw,dx,an,bk,hL,av,W.row]
 .rcases hk with _ |l |Q0
  .have hM:=Vl z sz qn Q v C.length T .b0 (by omega) (by omega) C [] (by simp) hC
   rcases wn with _ |⟨a,wn⟩<;>rcases ot with _ |⟨b,ot⟩;all_goals
    simp[cH,bH,fH,oV,oO,gO,bA,bM,-List.map_map]at hL;simp[hX,Hs.m,bA,-List.map_map]at hM;simp[AV,aX,aZ,bp,pH,pR,qO,hB,cH,bH,fH,oV,oO,gO,bA,bM,ak,cut,dw,dx,an,bk,hM,hL,av,W.row,-List.map_map]
  .have hM:=Vl z sz qn Q v C.length T (.b1 l) (by omega) (by omega) C [] (by simp) hC
   rcases wn with _ |⟨a,wn⟩<;>rcases ot with _ |⟨b,ot⟩;all_goals
    simp[cH,bH,fH,oV,oO,gO,bA,bM,-List.map_map]at hL;simp[hX,Hs.m,bA,-List.map_map]at hM;simp[AV,aX,aZ,bp,pH,pR,qO,hB,cH,bH,fH,oV,oO,gO,bA,bM,ak,cut,dw,dx,an,bk,hM,hL,av,W.row,-List.map_map]
  .obtain⟨rfl,rfl⟩:=pX Q0 rfl
   have hM:=Vl z sz false Q0 v C.length T (.c Q0) (by omega) (by omega) C [] (by simp) hC
   rcases wn with _ |⟨a,wn⟩<;>rcases ot with _ |⟨b,ot⟩;all_goals
    simp[cH,bH,fH,oV,oO,gO,bA,bM,-List.map_map]at hL;simp[hX,Hs.m,bA,-List.map_map]at hM;simp[AV,aX,aZ,bp,pH,pR,qO,hB,cH,bH,fH,oV,oO,gO,bA,bM,ak,cut,dw,dx,an,bk,hM,hL,av,W.row,-List.map_map]
end Go.VS.Sp
namespace Go.VS.Sp
def hk1:List cE->Hk
 | []=>.w0
 |a::l=>.w1 (a::l)
set_option maxHeartbeats 4000000 in
theorem anO(z:Z)(sz:Int)(qn:Bool)(Q:List W)(C:List K)(cs:Option (List (List D)))(wn:List cE)(w:W)(tP:cs=none->C=[])(hq:Q.length<=100000)(hc:C.length<=100000)(hC:Kok C)(hh:wn.length<=99999):
  ev P (.round [5] HI HJ [.d (.ag [I' w.task,I' w.op,I' w.value,I' w.prio,I' w.case])] [(1,.rf [.loc 0 0 0])] (pH z sz qn Q C cs (hk1 wn))) =
   some (.out .normal [] (pR z sz (qO (pO Q)) (C.map (gw Q w.value)) cs (hk1 wn) (⟨w.task,w.op,0⟩::pW w.value Q))):=by
 have hP:=anN z sz qn Q w.value C cs (.w1 (wn++[⟨w.task,w.op,0⟩])) tP hq hc hC (by simp[Hk.len];omega) (by intro Q0 h;cases h)
 generalize xl:pW w.value Q=wo at *;generalize lG:pO Q=ot at *;generalize rL:C.map (gw Q w.value)=C' at *;have hl:C'.length=C.length:=by simp[<-rL]
 rw[Qc];rcases wn with _ |⟨a,wn⟩
 .have hw:=Vk z sz (qD qn Q) C cs w.task w.op w.value w.prio w.case 0
  rcases cs with _ |T<;>rcases wo with _ |⟨b,wo⟩;all_goals
   simp[hB,bA,bM,cE.row]at hw;simp[pH,hB,pR,bH,fH,bA,bM,cE.row,qO,hl]at hP;simp[HI,HJ,hk1,pH,pR,qO,hB,cH,bH,fH,oV,oO,gO,bA,bM,ak,cut,dw,dx,eJ,an,bk,az,sub,aD,back,hw,hP,cE.row,hl]
 .have hw:=JC z sz (qD qn Q) C cs (a::wn) w.task w.op w.value w.prio w.case 0 (by simp at hh⊢;omega)
  rcases cs with _ |T<;>rcases wo with _ |⟨b,wo⟩;all_goals
   simp[hB,bA,bM,cE.row]at hw;simp[pH,hB,pR,bH,fH,bA,bM,cE.row,qO,hl]at hP;simp[HI,HJ,hk1,pH,pR,qO,hB,cH,bH,fH,oV,oO,gO,bA,bM,ak,cut,dw,dx,eJ,an,bk,az,sub,aD,back,hw,hP,cE.row,hl]
end Go.VS.Sp
namespace Go.VS.Sp
theorem anP(A B:List (List D))(r:List D)(h:A.length+B.length<=100000):
  ev P (.call Re [.aQ 0 0 (A.length+(B.length+1)),.d (I' A.length),.d (I' (A.length+1))] [.aG 5 true (A++r::B)]) =
   some (.val (.aQ 0 0 (A.length+B.length)) [.aG 5 true (A++(B++[[I' 0,I' 0,I' 0,I' 0,I' 0]]))]):=by
 have h1:(A.length:Int)<=A.length+1:=by omega
 have h2:(A.length:Int)+1<=A.length+(B.length+1):=by omega
 have h3:(0:Int)<=A.length+1:=by omega
 have h4:((A.length:Int)==A.length+1)=false:=by simp;omega
 have h7:(A.length:Int)<=A.length+(B.length+1):=by omega
 have h5:A.length+B.length<=A.length+(B.length+1):=by omega
 have h6:¬(A.length+(B.length+1)<A.length+B.length):=by omega
 rw[au afi rfl];have jg:(A.length:Int)<A.length+1:=by omega
 rcases B with _ |⟨b,B⟩
 .have h9:¬((A.length:Int)+1=0):=by omega
  simp at h2 h5 h6 h7;simp[MI,ak,cut,h1,h2,h3,h4,h5,h6,h7,h9,jg,av]
 .have h8:(1:Int)<B.length+1+1:=by omega
  have h9:¬((A.length:Int)+1=0):=by omega
  have h12:A.length+1+(B.length+1)<=A.length+(B.length+1+1):=by omega
  obtain⟨x,hx⟩:∃x,List.drop (B.length+1) (r::b::B)=[x]:=GK.1 (by simp)
  have kJ:¬((A.length:Int)+(B.length+1)=0):=by omega
  have kf:(0:Int)<=(A.length:Int)+(B.length+1):=by omega
  have sA:(B.length:Int)<=B.length+1:=by omega
  have oL:(B.length:Int)<B.length+1:=by omega
  have zh:((A.length:Int)+(B.length+1)).toNat=A.length+(B.length+1):=by omega
  have zi:((A.length:Int)+(B.length+1+1) - (A.length+(B.length+1))).toNat=1:=by omega
  have zj:A.length+(B.length+1)+1<=A.length+(B.length+1+1):=by omega
  have zk:List.take (A.length+(B.length+1)) (A++b::(B++[x]))=A++b::B:=by
   have:A++b::(B++[x])=(A++b::B)++[x]:=by simp
   rw[this];exact tZ (by simp)
  have zl:List.drop (A.length+(B.length+1)+1) (A++b::(B++[x]))=[]:=qK (by simp;omega)
  have iP:((A.length:Int)+(B.length+1+1) - (A.length+1)).toNat=B.length+1:=by omega
  simp at h2 h5 h6 h7;simp[MI,ak,cut,h1,h2,h3,h4,h5,h6,h7,h8,h9,iP,jg,h12,kJ,kf,sA,oL,zh,zi,zj,zk,zl,hx,av]
theorem anQ(A B:List (List D))(r:List D)(h:A.length+B.length<=100000):
  ev P (.call Hj [.aQ 0 0 (A.length+(B.length+1)),.d (I' A.length),.d (I' (A.length+1))] [.aG 2 true (A++r::B)]) =
   some (.val (.aQ 0 0 (A.length+B.length)) [.aG 2 true (A++(B++[[I' 0,.sl 1 true []]]))]):=by
 have h1:(A.length:Int)<=A.length+1:=by omega
 have h2:(A.length:Int)+1<=A.length+(B.length+1):=by omega
 have h3:(0:Int)<=A.length+1:=by omega
 have h4:((A.length:Int)==A.length+1)=false:=by simp;omega
 have h7:(A.length:Int)<=A.length+(B.length+1):=by omega
 have h5:A.length+B.length<=A.length+(B.length+1):=by omega
 have h6:¬(A.length+(B.length+1)<A.length+B.length):=by omega
 rw[au XT rfl];have jg:(A.length:Int)<A.length+1:=by omega
 rcases B with _ |⟨b,B⟩
 .have h9:¬((A.length:Int)+1=0):=by omega
  simp at h2 h5 h6 h7;simp[EW,ak,cut,h1,h2,h3,h4,h5,h6,h7,h9,jg,av]
 .have h8:(1:Int)<B.length+1+1:=by omega
  have h9:¬((A.length:Int)+1=0):=by omega
  have h12:A.length+1+(B.length+1)<=A.length+(B.length+1+1):=by omega
  obtain⟨x,hx⟩:∃x,List.drop (B.length+1) (r::b::B)=[x]:=GK.1 (by simp)
  have kJ:¬((A.length:Int)+(B.length+1)=0):=by omega
  have kf:(0:Int)<=(A.length:Int)+(B.length+1):=by omega
  have sA:(B.length:Int)<=B.length+1:=by omega
  have oL:(B.length:Int)<B.length+1:=by omega
  have zh:((A.length:Int)+(B.length+1)).toNat=A.length+(B.length+1):=by omega
  have zi:((A.length:Int)+(B.length+1+1) - (A.length+(B.length+1))).toNat=1:=by omega
  have zj:A.length+(B.length+1)+1<=A.length+(B.length+1+1):=by omega
  have zk:List.take (A.length+(B.length+1)) (A++b::(B++[x]))=A++b::B:=by
   have:A++b::(B++[x])=(A++b::B)++[x]:=by simp
   rw[this];exact tZ (by simp)
  have zl:List.drop (A.length+(B.length+1)+1) (A++b::(B++[x]))=[]:=qK (by simp;omega)
  have iP:((A.length:Int)+(B.length+1+1) - (A.length+1)).toNat=B.length+1:=by omega
  simp at h2 h5 h6 h7;simp[EW,ak,cut,h1,h2,h3,h4,h5,h6,h7,h8,h9,iP,jg,h12,kJ,kf,sA,oL,zh,zi,zj,zk,zl,hx,av]
theorem anR(A B:List (List D))(r:List D)(h:A.length+B.length<=100000):
  ev P (.call Q7 [.aQ 0 0 (A.length+(B.length+1)),.d (I' A.length),.d (I' (A.length+1))] [.aG 5 true (A++r::B)]) =
   some (.val (.aQ 0 0 (A.length+B.length)) [.aG 5 true (A++(B++[[I' 0,I' 0,I' 0,.b false,I' 0]]))]):=by
 have h1:(A.length:Int)<=A.length+1:=by omega
 have h2:(A.length:Int)+1<=A.length+(B.length+1):=by omega
 have h3:(0:Int)<=A.length+1:=by omega
 have h4:((A.length:Int)==A.length+1)=false:=by simp;omega
 have h7:(A.length:Int)<=A.length+(B.length+1):=by omega
 have h5:A.length+B.length<=A.length+(B.length+1):=by omega
 have h6:¬(A.length+(B.length+1)<A.length+B.length):=by omega
 rw[au ae7 rfl];have jg:(A.length:Int)<A.length+1:=by omega
 rcases B with _ |⟨b,B⟩
 .have h9:¬((A.length:Int)+1=0):=by omega
  simp at h2 h5 h6 h7;simp[MC,ak,cut,h1,h2,h3,h4,h5,h6,h7,h9,jg,av]
 .have h8:(1:Int)<B.length+1+1:=by omega
  have h9:¬((A.length:Int)+1=0):=by omega
  have h12:A.length+1+(B.length+1)<=A.length+(B.length+1+1):=by omega
  obtain⟨x,hx⟩:∃x,List.drop (B.length+1) (r::b::B)=[x]:=GK.1 (by simp)
  have kJ:¬((A.length:Int)+(B.length+1)=0):=by omega
  have kf:(0:Int)<=(A.length:Int)+(B.length+1):=by omega
  have sA:(B.length:Int)<=B.length+1:=by omega
  have oL:(B.length:Int)<B.length+1:=by omega
  have zh:((A.length:Int)+(B.length+1)).toNat=A.length+(B.length+1):=by omega
  have zi:((A.length:Int)+(B.length+1+1) - (A.length+(B.length+1))).toNat=1:=by omega
  have zj:A.length+(B.length+1)+1<=A.length+(B.length+1+1):=by omega
  have zk:List.take (A.length+(B.length+1)) (A++b::(B++[x]))=A++b::B:=by
   have:A++b::(B++[x])=(A++b::B)++[x]:=by simp
   rw[this];exact tZ (by simp)
  have zl:List.drop (A.length+(B.length+1)+1) (A++b::(B++[x]))=[]:=qK (by simp;omega)
  have iP:((A.length:Int)+(B.length+1+1) - (A.length+1)).toNat=B.length+1:=by omega
  simp at h2 h5 h6 h7;simp[MC,ak,cut,h1,h2,h3,h4,h5,h6,h7,h8,h9,iP,jg,h12,kJ,kf,sA,oL,zh,zi,zj,zk,zl,hx,av]
theorem anS(a b c d e:Int):ev P (.call Hv [.d (.ag [I' a,I' b,I' c,I' d,I' e])] [])=some (.val (.d (.b (b==68))) []):=by
 rw[au afh rfl];simp[Sq]
theorem anT(nl:Bool)(l:List W)(hn:l.length<=1000000):
  ev P (.call xN [.d (qD nl l),.d (.fn Hv [] [])] [])=some (.val (.d (I' (lF l))) []):=by
 have h:=Ic (f:=Hv) (first:=[]) (caps:=[]) (p:=λw=>w.op==68) nl l hn (by intro a b c d e;simp[anS])
 exact h
theorem anU(z:Z)(sz:Int)(q:D)(C:List K)(cs:Option (List (List D))):
  ev P (.call Q5 [.loc 0 0 0] (hB z sz q C cs .nil))=some (.val (.fn Lz [] [.rf [.loc 0 0 0]]) (hB z sz q C cs .nil)):=by
 rw[au ae1 rfl];rcases cs with _ |T<;>simp[Sd,hB,bA,bM,ak,cut,dw,dx,an,av]
end Go.VS.Sp
namespace Go.VS.Sp
abbrev OQ:O:=.lp [5] HI HJ .normal [(1,.rf [.loc 1 0 0])]
def aH(z:Z)(sz:Int)(q:D)(C:List K):Option (List (List D))->List cE->List O
 |none,[]=>[OQ,bM z sz q (.sl 2 true []) (.sl 5 true [])]
 |none,a::l=>[OQ,bA z sz (.d q) (.d (.sl 2 true [])) (.aQ 2 0 (a::l).length),.aG 5 true ((a::l).map cE.row)]
 |some T,[]=>[OQ,bA z sz (.d q) (.aQ 2 0 C.length) (.d (.sl 5 true [])),.aG 2 true (C.map K.row++T)]
 |some T,a::l=>[OQ,bA z sz (.d q) (.aQ 2 0 C.length) (.aQ 3 0 (a::l).length),.aG 2 true (C.map K.row++T),.aG 5 true ((a::l).map cE.row)]
def mA:Option (List (List D))->Nat
 |none=>2
 |some _=>3
def Q1(Q:List W):List W:=Q.eraseIdx (lF Q).toNat
theorem DL(Q:List W):(lF Q = -1/\Q.find? (λw=>w.op==68)=none)\/∃(A B:List W)(w:W),Q=A++w::B/\lF Q=(A.length:Int)/\w.op=68:=by
 rcases CT (p:=λw:W=>w.op==68) Q 0 with⟨h1,h2⟩ |⟨i,c,h1,h2,h3⟩
 .exact .inl ⟨h1,h2⟩
 .right
  have hc:c.op=68:=by have:=GV h3;simpa using this
  obtain⟨hlt,he⟩:=rW.1 h2;refine⟨Q.take i,Q.drop (i+1),c,?_,?_,hc⟩
  .rw[<-he];simp
  .have:(Q.take i).length=i:=by simp;omega
   rw[this];simp at h1;exact h1
structure Ad where
 qn:Bool
 Q:List W
 C:List K
 wn:List cE
def Ad.step(a:Ad)(w:W):Ad:=⟨decide (pO (Q1 a.Q)=[]),pO (Q1 a.Q),a.C.map (gw (Q1 a.Q) w.value),a.wn++⟨w.task,w.op,0⟩::pW w.value (Q1 a.Q)⟩
def gW(sz:Int):Nat->Ad->Ad
 | 0,a=>a
 |n+1,a=>if lF a.Q<0\/fl sz a.C a.Q=true then a else
  match a.Q[(lF a.Q).toNat]? with
  |none=>a
  |some w=>gW sz n (a.step w)
def Ad.ok(cs:Option (List (List D)))(a:Ad):Prop :=
 (cs=none->a.C=[])/\a.C.length<=100000/\(∀c∈a.C,(c.nl=true->c.log=[])/\c.log.length+a.Q.length<=100000)/\a.Q.length+a.wn.length<=90000/\(a.qn=true->a.Q=[])
theorem DM{A B:List W}{w:W}(h:lF (A++w::B)=(A.length:Int)):Q1 (A++w::B)=A++B:=by
 unfold Q1;rw[h];have e:((A.length:Int)).toNat=A.length:=by omega
 rw[e,Ed (by omega)]
 simp
theorem DN(v:Int)(Q:List W):(pO Q).length+(pW v Q).length=Q.length:=by
 unfold pO pW;rw[yK];induction Q with
 |nil=>rfl
 |cons w r ih=>cases h:w.op==70<;>simp[h]<;>omega
theorem Gu(Q:List W):(pO Q).length<=Q.length:=uc _ _
theorem Ad.Vm{cs:Option (List (List D))}{a:Ad}{A B:List W}{w:W}(hQ:a.Q=A++w::B)(h:lF a.Q=(A.length:Int))(hok:a.ok cs):(a.step w).ok cs:=by
 obtain⟨tP,hc,hC,hw,jY⟩:=hok;have mV:Q1 a.Q=A++B:=by rw[hQ];exact DM (by rw[<-hQ];exact h)
 have hl:=Gu (A++B);have kN:=DN w.value (A++B);have JD:a.Q.length=A.length+(B.length+1):=by rw[hQ];simp
 simp only[lT]at hl kN;refine⟨?_,?_,?_,?_,?_⟩
 .intro e;simp[Ad.step,tP e]
 .simp[Ad.step];exact hc
 .intro c iF
  simp only[Ad.step]at iF⊢;obtain⟨c0,hc0,rfl⟩:=gF.1 iF;have:=hC c0 hc0;rw[mV]at *;unfold gw;split
  .exact⟨this.1,by omega⟩
  .refine⟨by simp,?_⟩
   simp only[lT,tY];omega
 .simp only[Ad.step,lT,gX]
  rw[mV];omega
 .simp[Ad.step]
set_option maxHeartbeats 4000000 in
theorem anV(z:Z)(sz:Int)(cs:Option (List (List D))):∀(n:Nat)(a:Ad),a.Q.length<n->a.ok cs ->
  ev P (.loop (mA cs) [0,1] MH [(0,.jj 0),(1,.rf [.loc 1 0 0])] (aH z sz (qD a.qn a.Q) a.C cs a.wn)) =
   some (.out .ret [] (aH z sz (qD (gW sz n a).qn (gW sz n a).Q) (gW sz n a).C cs (gW sz n a).wn)):=by
 intro n;induction n with
 |zero=>intro a h;omega
 |succ n ih =>
  intro a hn hok;obtain⟨qn,Q,C,wn⟩:=a;obtain⟨tP,hc,hC,hw,jY⟩:=hok;simp only at tP hc hC hw jY hn⊢;have hI:=anT qn Q (by omega)
  rw[bT]
  conv=>lhs;arg 4;unfold MH
  by_cases hp:lF Q<0
  .have e:gW sz (n+1) ⟨qn,Q,C,wn⟩=⟨qn,Q,C,wn⟩:=by simp[gW,hp]
   rw[e];rcases cs with _ |T<;>rcases wn with _ |⟨x,wn⟩;all_goals
    simp[aH,mA,bA,bM,hI,hp,ak,cut,dw,dx,eJ,an]
  .cases hf:fl sz C Q
   .rcases DL Q with⟨h1,_⟩ |⟨A,B,w,hQ,Bz,fu⟩
    .omega
    .have hst:=Ad.Vm (a:=⟨qn,Q,C,wn⟩) hQ Bz ⟨tP,hc,hC,hw,jY⟩
     have mV:Q1 Q=A++B:=by rw[hQ];exact DM (by rw[<-hQ];exact Bz)
     have rU:Q[A.length]?=some w:=by rw[hQ];simp
     have JD:Q.length=A.length+(B.length+1):=by rw[hQ];simp
     have hlt:A.length<Q.length:=by omega
     have e:gW sz (n+1) ⟨qn,Q,C,wn⟩=gW sz n (Ad.step ⟨qn,Q,C,wn⟩ w):=by
      have n1:¬((A.length:Int)<0):=by omega
      simp[gW,n1,hf,Bz,rU]
     have Dj:(Ad.step ⟨qn,Q,C,wn⟩ w).Q.length<n:=by
      have:=Gu (A++B);simp only[Ad.step,mV];simp at this;omega
     have bD:=ih _ Dj hst;rw[e,<-bD];have yC:qn=false:=by
      cases qn
      .rfl
      .rw[jY rfl]at JD;simp at JD
     subst yC;simp only[Ad.step,mV];have hR:=anO z sz false (A++B) C cs wn w tP (by simp;omega) hc (λc iF=>⟨(hC c iF).1,by have:=(hC c iF).2;omega⟩) (by omega)
     have hD:=anP (A.map W.row) (B.map W.row) w.row (by simp;omega)
     have hK:=w9 false Q (by simp) (by omega)
     have jq:w.row=[I' w.task,I' w.op,I' w.value,I' w.prio,I' w.case]:=rfl
     have nY:∀(d0 d1 d2 d3 d5 d7 d8:D)(cn:Bool),ev P (.call AK [.d (I' sz),.d (.ag [d0,d1,d2,d3,qD false Q,d5,.sl 2 cn (C.map K.row),d7,d8])] [])=some (.val (.d (.b false)) []):=by
      intro d0 d1 d2 d3 d5 d7 d8 cn;have:=M0 sz d0 d1 d2 d3 d5 d7 d8 false Q cn C (by omega) (by omega)
      rw[hf]at this;exact this
     have hw1:IntKind.i64.wrap ((A.length:Int)+1)=A.length+1:=wrap_i64 (by omega) (by omega)
     rw[Bz]at hI;have n1:¬((A.length:Int)<0):=by omega
     rw[JD]at hK;have jF:(A.length:Int)<A.length+(B.length+1):=by omega
     have n2:A.length<A.length+(B.length+1):=by omega
     have iz:List.take (A.length+B.length) (A.map W.row++(B.map W.row++[[I' 0,I' 0,I' 0,I' 0,I' 0]]))=(A++B).map W.row:=by
      have:A.map W.row++(B.map W.row++[[I' 0,I' 0,I' 0,I' 0,I' 0]])=(A++B).map W.row++[[I' 0,I' 0,I' 0,I' 0,I' 0]]:=by simp
      rw[this];exact tZ (by simp)
     generalize BL:ev P (.loop (mA cs) [0,1] MH [(0,.jj 0),(1,.rf [.loc 1 0 0])] (aH z sz (qD (decide (pO (A++B)=[])) (pO (A++B))) (C.map (gw (A++B) w.value)) cs (wn++⟨w.task,w.op,0⟩::pW w.value (A++B))))=R;generalize xl:pW w.value (A++B)=wo at *;generalize lG:pO (A++B)=ot at *;generalize rL:C.map (gw (A++B) w.value)=C' at *;have hl:C'.length=C.length:=by simp[<-rL]
     rcases cs with _ |T<;>rcases wn with _ |⟨x,wn⟩
     .obtain rfl:=tP rfl
      simp[aH,mA,bA,bM,hl,qD,cE.row]at BL;simp[hk1,pH,pR,hB,bH,fH,qO,bA,bM,jq,qD,hl,cE.row]at hR hD;simp[hQ,jq]at hK hI nY;simp[hQ,aH,mA,bA,bM,hI,n1,jq,jF,n2,nY,hK,hD,hw1,iz,hR,aI,az,sub,aD,back,oE,bp,aX,aZ,V.aV,ak,cut,dw,dx,eJ,an,bk,cE.row,BL,hl]
     .obtain rfl:=tP rfl
      simp[aH,mA,bA,bM,hl,qD,cE.row]at BL;simp[hk1,pH,pR,hB,bH,fH,qO,bA,bM,jq,qD,hl,cE.row]at hR hD;simp[hQ,jq]at hK hI nY;simp[hQ,aH,mA,bA,bM,hI,n1,jq,jF,n2,nY,hK,hD,hw1,iz,hR,aI,az,sub,aD,back,oE,bp,aX,aZ,V.aV,ak,cut,dw,dx,eJ,an,bk,cE.row,BL,hl]
     .simp[aH,mA,bA,bM,hl,qD,cE.row]at BL
      simp[hk1,pH,pR,hB,bH,fH,qO,bA,bM,jq,qD,hl,cE.row]at hR hD;simp[hQ,jq]at hK hI nY;simp[hQ,aH,mA,bA,bM,hI,n1,jq,jF,n2,nY,hK,hD,hw1,iz,hR,aI,az,sub,aD,back,oE,bp,aX,aZ,V.aV,ak,cut,dw,dx,eJ,an,bk,cE.row,BL,hl]
     .simp[aH,mA,bA,bM,hl,qD,cE.row]at BL
      simp[hk1,pH,pR,hB,bH,fH,qO,bA,bM,jq,qD,hl,cE.row]at hR hD;simp[hQ,jq]at hK hI nY;simp[hQ,aH,mA,bA,bM,hI,n1,jq,jF,n2,nY,hK,hD,hw1,iz,hR,aI,az,sub,aD,back,oE,bp,aX,aZ,V.aV,ak,cut,dw,dx,eJ,an,bk,cE.row,BL,hl]
   .have e:gW sz (n+1) ⟨qn,Q,C,wn⟩=⟨qn,Q,C,wn⟩:=by simp[gW,hf]
    rw[e];have nY:∀(d0 d1 d2 d3 d5 d7 d8:D),ev P (.call AK [.d (I' sz),.d (.ag [d0,d1,d2,d3,qD qn Q,d5,.sl 2 false (C.map K.row),d7,d8])] [])=some (.val (.d (.b true)) []):=by
     intro d0 d1 d2 d3 d5 d7 d8;have:=M0 sz d0 d1 d2 d3 d5 d7 d8 qn Q false C (by omega) (by omega)
     rw[hf]at this;exact this
    rcases cs with _ |T<;>rcases wn with _ |⟨x,wn⟩
    .obtain rfl:=tP rfl
     simp[fl]at hf
    .obtain rfl:=tP rfl
     simp[fl]at hf
    .simp[aH,mA,bA,bM,hI,hp,nY,ak,cut,dw,dx,eJ,an,bk]
    .simp[aH,mA,bA,bM,hI,hp,nY,ak,cut,dw,dx,eJ,an,bk]
end Go.VS.Sp
