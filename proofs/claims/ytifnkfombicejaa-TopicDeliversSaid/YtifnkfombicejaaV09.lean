import Derived.Test.YtifnkfombicejaaV08
import Derived.Test.YtifnkfombicejaaV06
set_option linter.all false
set_option maxHeartbeats 1000000
namespace Go.VS.Tp
abbrev Dj:O:=.lp [5] zy zA .normal [(1,.rf [.loc 1 0 0])]
def aH(z:Z)(sz:Int)(q:D)(C:List K):Option (List (List D))->List Wk->List O
 |none,[]=>[Dj,aD z sz q (.sl 2 true []) (.sl 5 true [])]
 |none,a::l=>[Dj,au z sz (.d q) (.d (.sl 2 true [])) (.aJ 2 0 (a::l).length),.an 5 true ((a::l).map Wk.row)]
 |some T,[]=>[Dj,au z sz (.d q) (.aJ 2 0 C.length) (.d (.sl 5 true [])),.an 2 true (C.map K.row++T)]
 |some T,a::l=>[Dj,au z sz (.d q) (.aJ 2 0 C.length) (.aJ 3 0 (a::l).length),.an 2 true (C.map K.row++T),.an 5 true ((a::l).map Wk.row)]
def mA:Option (List (List D))->Nat
 |none=>2
 |some _=>3
def Q1(Q:List W):List W:=Q.eraseIdx (cx Q).toNat
theorem u6(Q:List W):(cx Q = -1/\Q.find? (λw=>w.op==68)=none)\/∃(A B:List W)(w:W),Q=A++w::B/\cx Q=(A.length:Int)/\w.op=68:=by
 rcases zO (p:=λw:W=>w.op==68) Q 0 with⟨h1,h2⟩ |⟨i,c,h1,h2,h3⟩
 .exact .inl ⟨h1,h2⟩
 .right
  have hc:c.op=68:=by have:=Es h3;simpa using this
  obtain⟨hlt,he⟩:=dW.1 h2;refine⟨Q.take i,Q.drop (i+1),c,?_,?_,hc⟩
  .rw[<-he];simp
  .have:(Q.take i).length=i:=by simp;omega
   rw[this];simp at h1;exact h1
structure Ad where
 qn:Bool
 Q:List W
 C:List K
 wn:List Wk
def Ad.step(a:Ad)(w:W):Ad:=⟨decide (pO (Q1 a.Q)=[]),pO (Q1 a.Q),a.C.map (cW (Q1 a.Q) w.value),a.wn++⟨w.task,w.op,0⟩::pW w.value (Q1 a.Q)⟩
def dR(sz:Int):Nat->Ad->Ad
 | 0,a=>a
 |n+1,a=>if cx a.Q<0\/fl sz a.C a.Q=true then a else
  match a.Q[(cx a.Q).toNat]? with
  |none=>a
  |some w=>dR sz n (a.step w)
def Ad.ok(cs:Option (List (List D)))(a:Ad):Prop :=
 (cs=none->a.C=[])/\a.C.length<=100000/\(∀c∈a.C,(c.nl=true->c.log=[])/\c.log.length+a.Q.length<=100000)/\a.Q.length+a.wn.length<=90000/\(a.qn=true->a.Q=[])
theorem u7{A B:List W}{w:W}(h:cx (A++w::B)=(A.length:Int)):Q1 (A++w::B)=A++B:=by
 unfold Q1;rw[h];have e:((A.length:Int)).toNat=A.length:=by omega
 rw[e,yg (by omega)]
 simp
theorem xj(v:Int)(Q:List W):(pO Q).length+(pW v Q).length=Q.length:=by
 unfold pO pW;rw[qG];induction Q with
 |nil=>rfl
 |cons w r ih=>cases h:w.op==70<;>simp[h]<;>omega
theorem xl(Q:List W):(pO Q).length<=Q.length:=Et _ _
theorem Ad.Hi{cs:Option (List (List D))}{a:Ad}{A B:List W}{w:W}(hQ:a.Q=A++w::B)(h:cx a.Q=(A.length:Int))(hok:a.ok cs):(a.step w).ok cs:=by
 obtain⟨mS,hc,hC,hw,u9⟩:=hok;have jC:Q1 a.Q=A++B:=by rw[hQ];exact u7 (by rw[<-hQ];exact h)
 have hl:=xl (A++B);have fM:=xj w.value (A++B);have xm:a.Q.length=A.length+(B.length+1):=by rw[hQ];simp
 simp only[eC]at hl fM;refine⟨?_,?_,?_,?_,?_⟩
 .intro e;simp[Ad.step,mS e]
 .simp[Ad.step];exact hc
 .intro c eZ
  simp only[Ad.step]at eZ⊢;obtain⟨c0,hc0,rfl⟩:=dz.1 eZ;have:=hC c0 hc0;rw[jC]at *;unfold cW;split
  .exact⟨this.1,by omega⟩
  .refine⟨by simp,?_⟩
   simp only[eC,tU];omega
 .simp only[Ad.step,eC,fT]
  rw[jC];omega
 .simp[Ad.step]
set_option maxHeartbeats 4000000 in
theorem Ss(z:Z)(sz:Int)(cs:Option (List (List D))):∀(n:Nat)(a:Ad),a.Q.length<n->a.ok cs ->
  ev P (.loop (mA cs) [0,1] C4 [(0,.fC 0),(1,.rf [.loc 1 0 0])] (aH z sz (qD a.qn a.Q) a.C cs a.wn)) =
   some (.out .ret [] (aH z sz (qD (dR sz n a).qn (dR sz n a).Q) (dR sz n a).C cs (dR sz n a).wn)):=by
 intro n;induction n with
 |zero=>intro a h;omega
 |succ n ih =>
  intro a hn hok;obtain⟨qn,Q,C,wn⟩:=a;obtain⟨mS,hc,hC,hw,u9⟩:=hok;simp only at mS hc hC hw u9 hn⊢;have hI:=Sq qn Q (by omega)
  rw[cq]
  conv=>lhs;arg 4;unfold C4
  by_cases hp:cx Q<0
  .have e:dR sz (n+1) ⟨qn,Q,C,wn⟩=⟨qn,Q,C,wn⟩:=by simp[dR,hp]
   rw[e];rcases cs with _ |T<;>rcases wn with _ |⟨x,wn⟩;all_goals
    simp[aH,mA,au,aD,hI,hp,aQ,cut,bt,bu,bR,aZ]
  .cases hf:fl sz C Q
   .rcases u6 Q with⟨h1,_⟩ |⟨A,B,w,hQ,jO,cN⟩
    .omega
    .have hst:=Ad.Hi (a:=⟨qn,Q,C,wn⟩) hQ jO ⟨mS,hc,hC,hw,u9⟩
     have jC:Q1 Q=A++B:=by rw[hQ];exact u7 (by rw[<-hQ];exact jO)
     have k9:Q[A.length]?=some w:=by rw[hQ];simp
     have xm:Q.length=A.length+(B.length+1):=by rw[hQ];simp
     have hlt:A.length<Q.length:=by omega
     have e:dR sz (n+1) ⟨qn,Q,C,wn⟩=dR sz n (Ad.step ⟨qn,Q,C,wn⟩ w):=by
      have n1:¬((A.length:Int)<0):=by omega
      simp[dR,n1,hf,jO,k9]
     have yD:(Ad.step ⟨qn,Q,C,wn⟩ w).Q.length<n:=by
      have:=xl (A++B);simp only[Ad.step,jC];simp at this;omega
     have cV:=ih _ yD hst;rw[e,<-cV];have Su:qn=false:=by
      cases qn
      .rfl
      .rw[u9 rfl]at xm;simp at xm
     subst Su;simp only[Ad.step,jC];have hR:=Sl z sz false (A++B) C cs wn w mS (by simp;omega) hc (λc eZ=>⟨(hC c eZ).1,by have:=(hC c eZ).2;omega⟩) (by omega)
     have hD:=Sm (A.map W.row) (B.map W.row) w.row (by simp;omega)
     have hK:=Lu false Q (by simp) (by omega)
     have eF:w.row=[I' w.task,I' w.op,I' w.value,I' w.prio,I' w.case]:=rfl
     have iZ:∀(d0 d1 d2 d3 d5 d7 d8:D)(cn:Bool),ev P (.call sY [.d (I' sz),.d (.ag [d0,d1,d2,d3,qD false Q,d5,.sl 2 cn (C.map K.row),d7,d8])] [])=some (.val (.d (.b false)) []):=by
      intro d0 d1 d2 d3 d5 d7 d8 cn;have:=Db sz d0 d1 d2 d3 d5 d7 d8 false Q cn C (by omega) (by omega)
      rw[hf]at this;exact this
     have hw1:IntKind.i64.wrap ((A.length:Int)+1)=A.length+1:=wrap_i64 (by omega) (by omega)
     rw[jO]at hI;have n1:¬((A.length:Int)<0):=by omega
     rw[xm]at hK;have jB:(A.length:Int)<A.length+(B.length+1):=by omega
     have n2:A.length<A.length+(B.length+1):=by omega
     have eR:List.take (A.length+B.length) (A.map W.row++(B.map W.row++[[I' 0,I' 0,I' 0,I' 0,I' 0]]))=(A++B).map W.row:=by
      have:A.map W.row++(B.map W.row++[[I' 0,I' 0,I' 0,I' 0,I' 0]])=(A++B).map W.row++[[I' 0,I' 0,I' 0,I' 0,I' 0]]:=by simp
      rw[this];exact tV (by simp)
     generalize tw:ev P (.loop (mA cs) [0,1] C4 [(0,.fC 0),(1,.rf [.loc 1 0 0])] (aH z sz (qD (decide (pO (A++B)=[])) (pO (A++B))) (C.map (cW (A++B) w.value)) cs (wn++⟨w.task,w.op,0⟩::pW w.value (A++B))))=R;generalize Di:pW w.value (A++B)=wo at *;generalize LB:pO (A++B)=ot at *;generalize oA:C.map (cW (A++B) w.value)=C' at *;have hl:C'.length=C.length:=by simp[<-oA]
     rcases cs with _ |T<;>rcases wn with _ |⟨x,wn⟩
     .obtain rfl:=mS rfl
      simp[aH,mA,au,aD,hl,qD,Wk.row]at tw;simp[hk1,pH,pR,hB,bH,fH,qO,au,aD,eF,qD,hl,Wk.row]at hR hD;simp[hQ,eF]at hK hI iZ;simp[hQ,aH,mA,au,aD,hI,n1,eF,jB,n2,iZ,hK,hD,hw1,eR,hR,dU,aW,sub,bz,back,lQ,gk,bO,bS,V.cC,aQ,cut,bt,bu,bR,aZ,bK,Wk.row,tw,hl]
     .obtain rfl:=mS rfl
      simp[aH,mA,au,aD,hl,qD,Wk.row]at tw;simp[hk1,pH,pR,hB,bH,fH,qO,au,aD,eF,qD,hl,Wk.row]at hR hD;simp[hQ,eF]at hK hI iZ;simp[hQ,aH,mA,au,aD,hI,n1,eF,jB,n2,iZ,hK,hD,hw1,eR,hR,dU,aW,sub,bz,back,lQ,gk,bO,bS,V.cC,aQ,cut,bt,bu,bR,aZ,bK,Wk.row,tw,hl]
     .simp[aH,mA,au,aD,hl,qD,Wk.row]at tw
      simp[hk1,pH,pR,hB,bH,fH,qO,au,aD,eF,qD,hl,Wk.row]at hR hD;simp[hQ,eF]at hK hI iZ;simp[hQ,aH,mA,au,aD,hI,n1,eF,jB,n2,iZ,hK,hD,hw1,eR,hR,dU,aW,sub,bz,back,lQ,gk,bO,bS,V.cC,aQ,cut,bt,bu,bR,aZ,bK,Wk.row,tw,hl]
     .simp[aH,mA,au,aD,hl,qD,Wk.row]at tw
      simp[hk1,pH,pR,hB,bH,fH,qO,au,aD,eF,qD,hl,Wk.row]at hR hD;simp[hQ,eF]at hK hI iZ;simp[hQ,aH,mA,au,aD,hI,n1,eF,jB,n2,iZ,hK,hD,hw1,eR,hR,dU,aW,sub,bz,back,lQ,gk,bO,bS,V.cC,aQ,cut,bt,bu,bR,aZ,bK,Wk.row,tw,hl]
   .have e:dR sz (n+1) ⟨qn,Q,C,wn⟩=⟨qn,Q,C,wn⟩:=by simp[dR,hf]
    rw[e];have iZ:∀(d0 d1 d2 d3 d5 d7 d8:D),ev P (.call sY [.d (I' sz),.d (.ag [d0,d1,d2,d3,qD qn Q,d5,.sl 2 false (C.map K.row),d7,d8])] [])=some (.val (.d (.b true)) []):=by
     intro d0 d1 d2 d3 d5 d7 d8;have:=Db sz d0 d1 d2 d3 d5 d7 d8 qn Q false C (by omega) (by omega)
     rw[hf]at this;exact this
    rcases cs with _ |T<;>rcases wn with _ |⟨x,wn⟩
    .obtain rfl:=mS rfl
     simp[fl]at hf
    .obtain rfl:=mS rfl
     simp[fl]at hf
    .simp[aH,mA,au,aD,hI,hp,iZ,aQ,cut,bt,bu,bR,aZ,bK]
    .simp[aH,mA,au,aD,hI,hp,iZ,aQ,cut,bt,bu,bR,aZ,bK]
def aT(sz:Int)(qn:Bool)(Q:List W)(C:List K):Ad:=dR sz (Q.length+1) ⟨qn,Q,C,[]⟩
theorem rO(sz:Int):∀(n:Nat)(a:Ad),(dR sz n a).C.length=a.C.length
 | 0,a=>rfl
 |n+1,a=>by
  unfold dR;split
  .rfl
  .split
   .rfl
   .rw[rO sz n];simp[Ad.step]
set_option maxHeartbeats 4000000 in
theorem Hj(z:Z)(sz:Int)(qn:Bool)(Q:List W)(C:List K)(cs:Option (List (List D)))(hk:Hk)(hok:Ad.ok cs ⟨qn,Q,C,[]⟩)(j8:hk = .w0\/(hk = .wc Q/\qn=false)):
  ev P (.call zj [.loc 0 0 0] (pH z sz qn Q C cs hk)) =
   some (.val (.tu []) (pR z sz (qD (aT sz qn Q C).qn (aT sz qn Q C).Q) (aT sz qn Q C).C cs hk (aT sz qn Q C).wn)):=by
 have hP:=Sr z sz (qD qn Q) C cs;have hL:=Ss z sz cs (Q.length+1) ⟨qn,Q,C,[]⟩ (by simp) hok
 have hl:(aT sz qn Q C).C.length=C.length:=rO sz _ _;have Aa:cs=none->(aT sz qn Q C).C=[]:=λh=>by
  have h3:C=[]:=hok.1 h;have h2:C.length=0:=by rw[h3];rfl
  exact o7.1 (hl.trans h2)
 change _=some (dA.out .ret [] (aH z sz (qD (aT sz qn Q C).qn (aT sz qn Q C).Q) (aT sz qn Q C).C cs (aT sz qn Q C).wn))at hL;generalize aT sz qn Q C=a at *;obtain⟨oN,Q',C',wn'⟩:=a;simp only at hL hl Aa⊢;have hF:ev P (.call Ct [.fC 0,.rf [.loc 1 0 0]] (aH z sz (qD qn Q) C cs []))=some (.val (.tu []) (aH z sz (qD oN Q') C' cs wn')):=by
  rw[bD RG rfl];rcases cs with _ |T<;>rcases wn' with _ |⟨x,wn'⟩;all_goals
   simp[aH,mA,au,aD]at hL;simp[GW,aH,mA,au,aD,hL,bp,aQ,cut,bt,bu,bR,aZ]
 rw[bD Rc rfl];rcases j8 with rfl |⟨rfl,rfl⟩
 .rcases cs with _ |T<;>rcases wn' with _ |⟨x,wn'⟩
  .have qv:C=[]:=hok.1 rfl
   have va:C'=[]:=Aa rfl;subst qv va;simp[hB,aH,mA,au,aD,hl]at hF hP;simp[qq,pH,pR,hB,bH,fH,aH,mA,au,aD,hP,hF,aW,sub,bz,back,bO,bS,aQ,cut,bt,bu,bR,cY,aZ,bK,bp,hl,cO]
  .have qv:C=[]:=hok.1 rfl
   have va:C'=[]:=Aa rfl;subst qv va;simp[hB,aH,mA,au,aD,hl]at hF hP;simp[qq,pH,pR,hB,bH,fH,aH,mA,au,aD,hP,hF,aW,sub,bz,back,bO,bS,aQ,cut,bt,bu,bR,cY,aZ,bK,bp,hl,cO]
  .simp[hB,aH,mA,au,aD,hl]at hF hP
   simp[qq,pH,pR,hB,bH,fH,aH,mA,au,aD,hP,hF,aW,sub,bz,back,bO,bS,aQ,cut,bt,bu,bR,cY,aZ,bK,bp,hl,cO]
  .simp[hB,aH,mA,au,aD,hl]at hF hP
   simp[qq,pH,pR,hB,bH,fH,aH,mA,au,aD,hP,hF,aW,sub,bz,back,bO,bS,aQ,cut,bt,bu,bR,cY,aZ,bK,bp,hl,cO]
 .rcases cs with _ |T<;>rcases wn' with _ |⟨x,wn'⟩
  .have qv:C=[]:=hok.1 rfl
   have va:C'=[]:=Aa rfl;subst qv va;simp[hB,aH,mA,au,aD,hl]at hF hP;simp[qq,pH,pR,hB,bH,fH,aH,mA,au,aD,hP,hF,aW,sub,bz,back,bO,bS,aQ,cut,bt,bu,bR,cY,aZ,bK,bp,hl,cO]
  .have qv:C=[]:=hok.1 rfl
   have va:C'=[]:=Aa rfl;subst qv va;simp[hB,aH,mA,au,aD,hl]at hF hP;simp[qq,pH,pR,hB,bH,fH,aH,mA,au,aD,hP,hF,aW,sub,bz,back,bO,bS,aQ,cut,bt,bu,bR,cY,aZ,bK,bp,hl,cO]
  .simp[hB,aH,mA,au,aD,hl]at hF hP
   simp[qq,pH,pR,hB,bH,fH,aH,mA,au,aD,hP,hF,aW,sub,bz,back,bO,bS,aQ,cut,bt,bu,bR,cY,aZ,bK,bp,hl,cO]
  .simp[hB,aH,mA,au,aD,hl]at hF hP
   simp[qq,pH,pR,hB,bH,fH,aH,mA,au,aD,hP,hF,aW,sub,bz,back,bO,bS,aQ,cut,bt,bu,bR,cY,aZ,bK,bp,hl,cO]
structure Rp where
 st:S
 parked:Bool
 value:Int
 ok:Bool
 kn:Bool
 wn:List Wk
abbrev kD(n:Bool)(l:List Wk):D:=.sl 5 n (l.map Wk.row)
abbrev Rp.row(r:Rp):List D:=[I' r.st.own,I' r.st.cnt,I' r.st.time,hD r.st.hn r.st.H,qD r.st.qn r.st.Q,hD r.st.bn r.st.B,cD r.st.cn r.st.C,.b r.st.cl,I' r.st.val,.b r.parked,I' r.value,.b r.ok,kD r.kn r.wn]
def S0:S:=⟨0,0,0,true,[],true,[],true,[],true,[],false,0⟩
def jD:Rp:=⟨S0,false,0,false,true,[]⟩
structure S.wf(s:S):Prop where
 h:s.H.length<=1000
 b:s.B.length<=1000
 q:s.Q.length<=1000
 c:s.C.length<=1000
 l:∀c∈s.C,(c.nl=true->c.log=[])/\c.log.length<=1000
 qn:s.qn=true->s.Q=[]
 cn:s.cn=true->s.C=[]
theorem S.wf.sm{s:S}(h:s.wf):s.sm:=⟨by have:=h.h;omega,by have:=h.b;omega,by have:=h.q;omega,by have:=h.c;omega,λc hc=>by have:=(h.l c hc).2;omega⟩
abbrev S.z(s:S):Z:=⟨I' s.own,I' s.cnt,I' s.time,hD s.hn s.H,hD s.bn s.B,.b s.cl,I' s.val⟩
def mT(cn:Bool):Option (List (List D)):=if cn=true then none else some []
abbrev S.put(s:S)(a:Ad):S:={s with qn:=a.qn,Q:=a.Q,C:=a.C}
def _root_.Go.VS.BB.gt(b:BB)(t:Int):List Int:=(bB b.got t).getD []
def _root_.Go.VS.BB.get(b:BB)(t v:Int):BB:={b with got:=dw t (b.gt t++[v]) b.got}
def gK:BB->List Wk->Option BB
 |b,[]=>some b
 |b,w::r =>
  if w.op=70 then gK (b.get w.task w.value) r
  else match b.waiting with
   | []=>none
   |h::q=>if h=w.task then gK ({b with waiting:=q}.cx ((bB b.dF w.task).getD 0)) r else none
theorem BB.LC{b:BB}{w:Wk}{r:List Wk}{b':BB}(h:gK b (w::r)=some b'):(w.op=70/\gK (b.get w.task w.value) r=some b') \/
  (w.op≠70/\∃q,b.waiting=w.task::q/\gK ({b with waiting:=q}.cx ((bB b.dF w.task).getD 0)) r=some b'):=by
 unfold gK at h;split at h
 .rename_i ho;exact .inl ⟨ho,h⟩
 .rename_i ho
  right;refine⟨ho,?_⟩;split at h
  .cases h
  .rename_i t q hw
   split at h
   .rename_i ht;exact⟨q,by rw[hw,ht],h⟩
   .cases h
theorem Sv{m i:Nat}{nl:Bool}{l:List Wk}(hi:i<m)(hm:m<=250)(gH:l.length<=1000):∀(rest done:List Wk)(B B':BB)(H:List O)(x:BI)(N:Nat),l=done++rest->aE H i x B->Lf H [i,x.n1,x.n2]->m<=H.length->Sz N B->N+rest.length<=100->gK B rest=some B' ->
  ∃H' x',ev P (.loop m [0,7,8,9] zC [(0,.loc i 0 0),(7,.d (kD nl l)),(8,.d (I' l.length)),(9,.d (I' done.length))] H)=some (.out (.exit 0) [] H')/\aE H' i x' B'/\Lf H' [i,x'.n1,x'.n2]/\m<=H'.length:=by
 intro rest;induction rest with
 |nil =>
  intro done B B' H x N hl b lf Ab hz hN hw;simp only[gK,bF]at hw;subst hw;have iw:=hz.d;have fO:=hz.g;simp only[lE]at hN;obtain⟨H',x',e1,e2,e3,e4⟩:=b.head (m:=m) lf ⟨by omega,by omega⟩ Ab hi (live:=[]) (E:=[]) (by simp[bC]) (by simp[bC];omega)
  refine⟨H',x',?_,e2,e3,e4⟩;have hlen:¬((done.length:Int)<(l.length:Int)):=by rw[hl];simp
  rw[cq]
  conv=>lhs;arg 4;unfold zC
  simp[hlen,e1,-canon]
 |cons w rest ih =>
  intro done B B' H x N hl b lf Ab hz hN hw;have iw:=hz.d;have fO:=hz.g;simp only[fT]at hN;have wz:done.length<l.length:=by rw[hl];simp
  have hlt:((done.length:Int)<(l.length:Int)):=by omega
  have hx:l[done.length]?=some w:=by rw[hl];simp
  have eF:IntKind.i64.wrap ((done.length:Int)+1)=(done.length:Int)+1:=wrap_i64 (by omega) (by omega)
  have b1:aE (H++[.dead]) i x B:=b.app;have ve:Lf (H++[.dead]) [i,x.n1,x.n2]:=lf.app rfl;have rP:=b1.st;obtain⟨E,hE⟩:∃E:List (Nat×V),E=[(0,.loc i 0 0),(7,.d (kD nl l)),(8,.d (I' l.length)),(9,.d (I' done.length))]:=⟨_,rfl⟩;obtain⟨E2,sW⟩:∃E:List (Nat×V),E=[(0,.loc i 0 0),(7,.d (kD nl l)),(8,.d (I' l.length)),(9,.d (I' ((done.length:Int)+1)))]:=⟨_,rfl⟩;have rH:bC E=[i]:=by rw[hE];simp[bC,V.ak]
  have vf:bC E2=[i]:=by rw[sW];simp[bC,V.ak]
  rcases BB.LC hw with⟨ho,hw'⟩ |⟨ho,q,hq,hw'⟩
  .obtain⟨old,v',h2,H3,kg,cg,bg,g1,g2,g3,g4,g5,g6,g7⟩:=b1.Lj ve (λe he=>by have:=hz.gl e he;omega) w.task w.value
   rw[eC]at g7;have mU:=hz.put w.task w.value;have k1:=mU.d;have k2:=mU.g;obtain⟨H4,x4,c1,c2,c3,c4⟩:=g5.head (m:=m) g6 ⟨by omega,by omega⟩ (by omega) hi (live:=[0,7,8,9]) (E:=E) (by rw[rH];simpa using hi) (by rw[rH];simp;omega)
   obtain⟨H5,x5,d1,d2,d3,d4⟩:=c2.head (m:=m) c3 ⟨by omega,by omega⟩ c4 hi (live:=[0,7,8,9]) (E:=E2) (by rw[vf];simpa using hi) (by rw[vf];simp;omega)
   obtain⟨H',x',f1,f2,f3,f4⟩:=ih (done++[w]) _ B' H5 x5 (N+1) (by rw[hl];simp) d2 d3 d4 mU (by omega) hw'
   refine⟨H',x',?_,f2,f3,f4⟩;have Sw:af h2 i = .cS 4 [[.mp x.n1,.mp x.n2,.mp x.n3,x.wv]]:=g3.trans rP;rw[cq]
   conv=>lhs;arg 4;unfold zC
   simp[hlt,hx,Wk.row,ho,rP,g1,g2,Sw,g4,V.cC,c1,d1,hE,sW,eF,-canon,-eS,-fW,-kJ]
   have:(((done++[w]).length:Nat):Int)=(done.length:Int)+1:=by simp
   rw[this]at f1;exact f1
  .obtain⟨n,off,rows,w',h1,H2,g1,g2,g3,g4,g5,g6,g7,g8,g9⟩:=b1.tail ve hq
   rw[eC]at g9;have Sx:=(hz.wait (q:=q) (by have:=hz.w;rw[hq]at this;simp at this;omega))
   have mU:=Sx.cx ((bB B.dF w.task).getD 0);obtain⟨H3,x3,p1,p2,p3,p4,_⟩:=yW (rec:=ev P) (f:=uT) (B':=BB.cx {B with waiting:=q} ((bB B.dF w.task).getD 0)) (as:=[iK ((bB B.dF w.task).getD 0)]) (r:=.tu []) (λ_=>rfl) g7 g8 ⟨by simp only;omega,by simp only;omega⟩
    (λh0 i0 x0 b0 l0 hlen=>by
     have:=b0.zL;simp only at this;exact K9 b0 l0 (by omega) ⟨by simp only;omega,by simp only;omega⟩ hz.nd (λe he=>by have:=hz.dl e he;omega))
   have k1:=mU.d;have k2:=mU.g;obtain⟨H5,x5,d1,d2,d3,d4⟩:=p2.head (m:=m) p3 ⟨by omega,by omega⟩ (by omega) hi (live:=[0,7,8,9]) (E:=E2) (by rw[vf];simpa using hi) (by rw[vf];simp;omega)
   obtain⟨H',x',f1,f2,f3,f4⟩:=ih (done++[w]) _ B' H5 x5 (N+1) (by rw[hl];simp) d2 d3 d4 mU (by omega) hw'
   refine⟨H',x',?_,f2,f3,f4⟩;have q1:=b1.Lm;rw[hq]at q1;have q2:=g5.trans rP;have q3:=g7.st;have q4:=g7.want w.task;have C9:fD 5 (.d (kD nl l)) (.d (I' done.length)) H=some (.d (.ref w.row)):=by simp[fD,hx]
   have q5:(((q.length:Nat):Int)+1==0)=false:=by simp;omega
   have ho':(w.op==70)=false:=by simpa using ho
   simp only at q3 q4;simp only[cR,jF]at p1;rw[cq]
   conv=>lhs;arg 4;unfold zC
   simp[hlt,C9,Wk.row,ho',q5,rP,q1,g1,g2,g3,g4,q2,g6,q3,q4,p1,d1,hE,sW,eF,-canon,-eS,-fW,-kJ,-iT,-fD,-pz,-pg,-V.wk,-mF]
   have:(((done++[w]).length:Nat):Int)=(done.length:Int)+1:=by simp
   rw[this]at f1;exact f1
theorem Sy{h0:List O}{i:Nat}{x:BI}{B B':BB}{nl:Bool}{l:List Wk}{N:Nat}(b:aE h0 i x B)(lf:Lf h0 [i,x.n1,x.n2])(hm:h0.length<=250)(gH:l.length<=1000)(hz:Sz N B)(hN:N+l.length<=100)(mU:Sz 100 B')(hw:gK B l=some B'):
  ∃h1 x1,ev P (.call zm [.loc i 0 0,.d (kD nl l)] h0)=some (.val (.d (.b true)) h1)/\aE h1 i x1 B'/\Lf h1 [i,x1.n1,x1.n2]/\h0.length<=h1.length:=by
 have hi:=b.li;have iw:=hz.d;have fO:=hz.g;have SA:=mU.d;have SB:=mU.g;obtain⟨E,hE⟩:∃E:List (Nat×V),E=[(0,.loc i 0 0),(7,.d (kD nl l)),(8,.d (I' l.length)),(9,.d (I' (([]:List Wk).length:Nat)))]:=⟨_,rfl⟩;have rH:bC E=[i]:=by rw[hE];simp[bC,V.ak]
 obtain⟨H4,x4,c1,c2,c3,c4⟩:=b.head (m:=h0.length) lf ⟨by omega,by omega⟩ (bZ _) hi (live:=[0,7,8,9]) (E:=E) (by rw[rH];simpa using hi) (by rw[rH];simp;omega)
 obtain⟨H',x',f1,f2,f3,f4⟩:=Sv (nl:=nl) hi hm gH l [] B B' H4 x4 N rfl c2 c3 c4 hz hN hw;obtain⟨h1,x1,g1,g2,g3,g4⟩:=sU (v:=.b true) f2 f3 ⟨by omega,by omega⟩ f4 hi (by omega)
 refine⟨h1,x1,?_,g2,g3,g4⟩;rw[<-hE]at f1;rw[bD Rq rfl];have xq:E=[(0,.loc i 0 0),(7,.d (kD nl l)),(8,.d (I' l.length)),(9,.d (I' 0))]:=hE;rw[xq]at c1 f1;simp[GK,c1,f1,g1,-canon]
def wB(z:Z)(sz:Int)(qn:Bool)(Q':List W)(cn:Bool)(C:List K):List O :=
 match qn,cn with
 |true,true=>[aD z sz (qD false Q') (.sl 2 true []) (.sl 5 true [])]
 |true,false=>[au z sz (.d (qD false Q')) (.aJ 1 0 C.length) (.d (.sl 5 true [])),.an 2 true (C.map K.row)]
 |false,true=>[au z sz (.d (qD false Q')) (.d (.sl 2 true [])) (.d (.sl 5 true [])),.dead]
 |false,false=>[au z sz (.d (qD false Q')) (.aJ 2 0 C.length) (.d (.sl 5 true [])),.dead,.an 2 true (C.map K.row)]
theorem LD(z:Z)(sz:Int)(qn:Bool)(Q:List W)(cn:Bool)(C:List K)(t op v p n x:Int)(h1:qn=true->Q=[])(h3:Q.length<=1000000):
  ev P (.call Cf [.loc 0 0 0,.d (.ag [I' t,I' op,I' v,I' p,I' n]),.d (I' x)] (gB z sz qn Q cn C))=some (.val (.tu []) (wB z sz qn (Q++[⟨t,op,x,p,-1⟩]) cn C)):=by
 rw[bD Rh rfl];cases qn
 .have hr:Q.length+1<=room:=by unfold room;omega
  cases cn<;>simp[CL,gB,wB,aD,au,W.row,aQ,cut,bt,bu,bR,aZ,bp,hr,V.cC,bK,Dg,vM,gk,bO,bS]
 .have hr:1<=room:=by unfold room;omega
  obtain rfl:=h1 rfl;cases cn<;>simp[CL,gB,wB,aD,au,W.row,aQ,cut,bt,bu,bR,aZ,bp,hr,V.cC,bK,Dg,vM,gk,bO,bS]
def gh(C:List K)(t:Int):Nat:=(C.takeWhile λc=>decide (c.task<t)).length
def gR(C:List K)(t:Int):List K:=C.take (gh C t)++⟨t,true,[]⟩::C.drop (gh C t)
def sB(z:Z)(sz:Int)(qn:Bool)(Q:List W)(cn:Bool)(C':List K):List O :=
 match qn,cn with
 |true,true=>[au z sz (.d (.sl 5 true [])) (.aJ 1 0 C'.length) (.d (.sl 5 true [])),.an 2 true (C'.map K.row)]
 |true,false=>[au z sz (.d (.sl 5 true [])) (.aJ 2 0 C'.length) (.d (.sl 5 true [])),.dead,.an 2 true (C'.map K.row)]
 |false,true=>[au z sz (.aJ 1 0 Q.length) (.aJ 2 0 C'.length) (.d (.sl 5 true [])),.an 5 true (Q.map W.row),.an 2 true (C'.map K.row)]
 |false,false=>[au z sz (.aJ 1 0 Q.length) (.aJ 3 0 C'.length) (.d (.sl 5 true [])),.an 5 true (Q.map W.row),.dead,.an 2 true (C'.map K.row)]
theorem SC(z:Z)(sz:Int)(qn:Bool)(Q:List W)(C:List K)(t:Int)(hn:C.length<=1000000):∀(suf pre:List K),C=pre++suf ->
  ev P (.loop (if qn=true then 2 else 3) [0,1,4] wX [(0,.loc 0 0 0),(1,.d (I' t)),(4,.d (I' pre.length))] (gB z sz qn Q false C)) =
   some (.out (.exit 0) [(0,.loc 0 0 0),(1,.d (I' t)),(4,.d (I' (pre.length+gh suf t:Nat)))] (gB z sz qn Q false C)):=by
 intro suf;induction suf with
 |nil =>
  intro pre hl
  have:C.length=pre.length:=by simp[hl]
  rw[cq]
  conv=>lhs;arg 4;unfold wX
  cases qn<;>simp[this,gh,gB,au,aQ,cut,bt,bu,aZ]
 |cons c suf ih =>
  intro pre hl;have hg:C[pre.length]?=some c:=by simp[hl]
  have jB:pre.length<C.length:=by simp[hl]
  have tA:C[pre.length]=c:=by simpa[lH jB]using hg
  have hlt:(pre.length:Int)<C.length:=by omega
  have hnext:IntKind.i64.wrap ((pre.length:Int)+1)=pre.length+1:=wrap_i64 (by omega) (by omega)
  have cV:=ih (pre++[c]) (by simp[hl])
  rw[cq]
  conv=>lhs;arg 4;unfold wX
  by_cases hc:c.task<t
  .have e:gh (c::suf) t=gh suf t+1:=by simp[gh,hc]
   rw[e];have e2:pre.length+(gh suf t+1)=(pre++[c]).length+gh suf t:=by simp;omega
   rw[e2,<-cV];generalize hR:ev P (.loop (if qn=true then 2 else 3) [0,1,4] wX [(0,.loc 0 0 0),(1,.d (I' t)),(4,.d (I' (pre++[c]).length))] (gB z sz qn Q false C))=R
   cases qn;all_goals
    simp[gB,au]at hR;simp[hlt,jB,tA,K.row,hc,hnext,gB,au,aQ,cut,bt,bu,aZ,hR]
  .have e:gh (c::suf) t=0:=by simp[gh,hc]
   rw[e];cases qn<;>simp[hlt,jB,tA,K.row,hc,hnext,gB,au,aQ,cut,bt,bu,aZ]
theorem LF(C:List K)(t:Int):gh C t<=C.length:=(List.takeWhile_sublist _).length_le
theorem SD(z:Z)(sz:Int)(qn:Bool)(Q:List W)(cn:Bool)(C:List K)(t:Int)(h2:cn=true->C=[])(hn:C.length<=100000):
  ev P (.call Gc [.loc 0 0 0,.d (I' t)] (gB z sz qn Q cn C))=some (.val (.tu []) (sB z sz qn Q cn (gR C t))):=by
 have hI:=Qp RL (p:=wV 2) rfl;have hL:=SC z sz qn Q C t (by omega) C [] rfl
 have hb:=LF C t;have hlen:(gR C t).length=C.length+1:=by simp[gR];omega
 have hrow:(gR C t).map K.row=(C.map K.row).take (gh C t)++[I' t,.sl 1 true []]::(C.map K.row).drop (gh C t):=by simp[gR,List.map_take,List.map_drop,K.row]
 have E5:((C.map K.row).take (gh C t)++[I' t,.sl 1 true []]::(C.map K.row).drop (gh C t)).length=C.length+1:=by simp;omega
 rw[bD Q8 rfl];cases cn
 .have hr:C.length+1<=room:=by unfold room;omega
  generalize gR C t=C' at *;generalize gh C t=N at *;simp only[lE,iR]at hL;cases qn;all_goals
   simp[gB,au]at hL;simp[CH,hL,hI,wV,jz,hr,hb,gB,sB,au,aD,aW,sub,bz,back,aQ,cut,bt,bu,bR,aZ,bp,bK,hlen,hrow]
 .obtain rfl:=h2 rfl
  have hr:1<=room:=by unfold room;omega
  cases qn<;>simp[CH,wX,cq,hI,wV,jz,hr,gB,sB,au,aD,aW,sub,bz,back,aQ,cut,bt,bu,bR,aZ,bp,gR,gh,K.row]
@[simp] theorem Wk.eta(w:Wk):Wk.mk w.task w.op w.value=w:=rfl
theorem SE{f:Nat}{first caps:List D}{p:Wk->Bool}(nl:Bool)(l:List Wk)(hn:l.length<=1000000)
  (hp:∀a b c,ev P (.call f (first.map V.d++[.d (.ag [I' a,I' b,I' c,.b true,I' (-1)])]++caps.map V.d) [])=some (.val (.d (.b (p ⟨a,b,c⟩))) [])):
  ∀(suf pre:List Wk),l=pre++suf ->
  ev P (.loop 0 [0,1,7,8] CZ [(0,.d (.sl 5 nl (l.map Wk.row))),(1,.d (.fn f first caps)),(7,.d (I' l.length)),(8,.d (I' pre.length))] []) =
   if idx p pre.length suf = -1 then some (.out (.exit 0) [] [])else some (.out .ret [(4,.d (I' (idx p pre.length suf)))] []):=by
 intro suf;induction suf with
 |nil =>
  intro pre hl
  have:l.length=pre.length:=by simp[hl]
  rw[cq]
  conv=>lhs;arg 4;unfold CZ
  simp[this,idx]
 |cons w suf ih =>
  intro pre hl;have hg:l[pre.length]?=some w:=by simp[hl]
  have hlt:(pre.length:Int)<l.length:=by simp[hl];omega
  have hnext:IntKind.i64.wrap ((pre.length:Int)+1)=pre.length+1:=wrap_i64 (by omega) (by omega)
  have cV:=ih (pre++[w]) (by simp[hl])
  simp at cV hp;rw[cq]
  conv=>lhs;arg 4;unfold CZ
  simp[hlt,hg,Wk.row,hp,G9];cases hw:p w
  .simp[idx,hw,hnext]
   exact cV
  .have:¬(pre.length:Int) = -1:=by omega
   simp[idx,hw,this]
theorem SF{f:Nat}{first caps:List D}{p:Wk->Bool}(nl:Bool)(l:List Wk)(hn:l.length<=1000000)
  (hp:∀a b c,ev P (.call f (first.map V.d++[.d (.ag [I' a,I' b,I' c,.b true,I' (-1)])]++caps.map V.d) [])=some (.val (.d (.b (p ⟨a,b,c⟩))) [])):
  ev P (.call Cr [.d (.sl 5 nl (l.map Wk.row)),.d (.fn f first caps)] [])=some (.val (.d (I' (idx p 0 l))) []):=by
 rw[bD RC rfl];have hl:=SE nl l hn hp l [] rfl;simp at hl;simp[GU,hl];by_cases hc:idx p 0 l = -1<;>simp[hc]
theorem SG(t x1 x2 x3 x4 a b c:Int):ev P (.call zp [.d (.ag [I' a,I' b,I' c,.b true,I' (-1)]),.d (.ref [I' t,I' x1,I' x2,I' x3,I' x4])] [])=some (.val (.d (.b (a==t))) []):=by
 rw[bD RD rfl];simp[GV]
def nS(l:List Wk)(t:Int):Int:=idx (λw=>w.task==t) 0 l
theorem SH(nl:Bool)(l:List Wk)(t x1 x2 x3 x4:Int)(hn:l.length<=1000000):
  ev P (.call Cr [.d (kD nl l),.d (.fn zp [] [.ref [I' t,I' x1,I' x2,I' x3,I' x4]])] [])=some (.val (.d (I' (nS l t))) []):=by
 have h:=SF (f:=zp) (first:=[]) (caps:=[.ref [I' t,I' x1,I' x2,I' x3,I' x4]]) (p:=λw=>w.task==t) nl l hn (by intro a b c;simp[SG])
 exact h
theorem SI(q:List Int)(hn:q.length<=1000000):
  ev P (.call F8 [.d (hD false q)] [])=some (.val (.d (hD false q)) []):=by
 have hr:q.length<=room:=by unfold room;omega
 rw[bD Q2 rfl];cases q with
 |nil=>simp[CE,rL,cK,dM,aQ,cut,bp]
 |cons a r =>
  simp at hr;simp[CE,rL,cK,dM,aQ,cut,hr,bp,bK]
def cJ(p:Bool)(v:Int)(ok:Bool):List D:=[I' 0,I' 0,I' 0,.sl 1 true [],.sl 5 true [],.sl 1 true [],.sl 2 true [],.b false,I' 0,.b p,I' v,.b ok,.sl 5 true []]
def dJ(qn:Bool)(Q:List W):Hk:=if qn=true then .w0 else .wc Q
set_option maxHeartbeats 4000000 in
theorem SJ(z:Z)(sz:Int)(qn:Bool)(Q:List W)(C A B:List K)(c:K)(t op v p n x:Int)(lg:List Int)(hC:C=A++c::B)(hf:gI C t=(A.length:Int))(gf:c.log=x::lg)
  (h1:qn=true->Q=[])(h3:Q.length<=1000)(h4:C.length<=1000)(h5:∀c∈C,(c.nl=true->c.log=[])/\c.log.length<=1000):
  ev P (.call Ci [.loc 0 0 0,.d (.ag [I' t,I' op,I' v,I' p,I' n])] (gB z sz qn Q false C)) =
   some (.val (.d (.ag (cJ false x true))) (pR z sz (qD (aT sz qn Q (A++⟨c.task,false,lg⟩::B)).qn (aT sz qn Q (A++⟨c.task,false,lg⟩::B)).Q) (aT sz qn Q (A++⟨c.task,false,lg⟩::B)).C (some []) (dJ qn Q) (aT sz qn Q (A++⟨c.task,false,lg⟩::B)).wn)):=by
 have eZ:=h5 c (by simp[hC])
 have hlen:(A++⟨c.task,false,lg⟩::B).length=C.length:=by simp[hC]
 have fM:lg.length<=1000:=by have:=eZ.2;rw[gf]at this;simp at this;omega
 have gF:c.nl=false:=by
  cases h:c.nl
  .rfl
  .have:=eZ.1 h;rw[gf]at this;cases this
 have hok:Ad.ok (some []) ⟨qn,Q,A++⟨c.task,false,lg⟩::B,[]⟩:=by
  refine⟨?_,?_,?_,?_,h1⟩
  .intro h;cases h
  .simp only;omega
  .intro d hd
   simp only at hd⊢;rw[aL,aY]at hd;rcases hd with hd |rfl |hd
   .have:=h5 d (by rw[hC];simp[hd])
    exact⟨this.1,by omega⟩
   .exact⟨by simp,by simp only;omega⟩
   .have:=h5 d (by rw[hC];simp[hd])
    exact⟨this.1,by omega⟩
  .simp;omega
 have hA:=Hj z sz qn Q (A++⟨c.task,false,lg⟩::B) (some []) (dJ qn Q) hok (by
  cases qn
  .exact .inr ⟨rfl,rfl⟩
  .exact .inl rfl)
 have hl:(aT sz qn Q (A++⟨c.task,false,lg⟩::B)).C.length=C.length:=(rO sz _ _).trans hlen;generalize aT sz qn Q (A++⟨c.task,false,lg⟩::B)=a at *;obtain⟨oN,Q',C',wn⟩:=a;simp only at hA hl⊢;have nJ:∀(d0 d1 d2 d3 d4 d5 d7 d8:D),ev P (.call qp [.d (.ag [d0,d1,d2,d3,d4,d5,cD false C,d7,d8]),.d (I' t)] [])=some (.val (.d (I' A.length)) []):=by
  intro d0 d1 d2 d3 d4 d5 d7 d8;have:=xg d0 d1 d2 d3 d4 d5 d7 d8 false C t (by omega)
  rw[hf]at this;exact this
 have dO:=SI lg (by omega)
 have gY:C.map K.row=A.map K.row++[I' c.task,.sl 1 false (rN (x::lg))]::B.map K.row:=by rw[hC];simp[K.row,gF,gf]
 have k9:=Dh (A:=A.map K.row) (B:=B.map K.row) (x:=[I' c.task,.sl 1 false (rN (x::lg))]) (n:=A.length) (by simp)
 have tj:=λy=>Lw (A:=A.map K.row) (B:=B.map K.row) (x:=[I' c.task,.sl 1 false (rN (x::lg))]) (y:=y) (n:=A.length) (by simp)
 have jT:C.length=A.length+(B.length+1):=by rw[hC];simp
 have hlt:(A.length:Int)<A.length+(B.length+1):=by omega
 have n2:A.length<A.length+(B.length+1):=by omega
 have eR:∀r:List D,List.take (A.length+(B.length+1)) (A.map K.row++r::B.map K.row)=A.map K.row++r::B.map K.row:=λr=>fU (by simp)
 have h6:(1:Int)<=lg.length+1:=by omega
 rw[bD K6 rfl];simp only[rN,cR]at k9 tj gY;cases qn
 .rcases wn with _ |⟨w,wn⟩
  all_goals
   simp[pH,pR,hB,bH,fH,dJ,au,aD,hl,jT,K.row]at hA;have mV:=nJ;simp only[cD,gY]at mV;simp[wY,gB,pR,bH,fH,dJ,cJ,au,aD,mV,hA,gY,k9,tj,jT,eR,hlt,n2,h6,hl,dO,aW,sub,bz,back,aQ,cut,bt,bu,bR,aZ,bK,bp,V.cC]
 .obtain rfl:=h1 rfl
  rcases wn with _ |⟨w,wn⟩;all_goals
   simp[pH,pR,hB,bH,fH,dJ,au,aD,hl,jT,K.row,qD]at hA;have mV:=nJ;simp only[cD,gY]at mV;simp[wY,qD,gB,pR,bH,fH,dJ,cJ,au,aD,mV,hA,gY,k9,tj,jT,eR,hlt,n2,h6,hl,dO,aW,sub,bz,back,aQ,cut,bt,bu,bR,aZ,bK,bp,V.cC]
inductive Wn where
 |d(n:Bool)(l:List Wk)
 |m(l:List Wk)
def nB(z:Z)(sz:Int)(qn:Bool)(q:D)(C:List K):Wn->List O
 | .d n l=>if qn=true then[au z sz (.d q) (.aJ 1 0 C.length) (.d (kD n l)),.an 2 true (C.map K.row)]else[au z sz (.d q) (.aJ 2 0 C.length) (.d (kD n l)),.dead,.an 2 true (C.map K.row)]
 | .m l=>if qn=true then[au z sz (.d q) (.aJ 1 0 C.length) (.aJ 2 0 l.length),.an 2 true (C.map K.row),.an 5 true (l.map Wk.row)]else[au z sz (.d q) (.aJ 2 0 C.length) (.aJ 3 0 l.length),.dead,.an 2 true (C.map K.row),.an 5 true (l.map Wk.row)]
def mW:List Wk->Wn
 | []=>.d true []
 |a::l=>.m (a::l)
def got(l:List Wk)(t:Int):Option (Int×List Wk):=if nS l t<0 then none else(l[(nS l t).toNat]?).map λw=>(w.value,l.eraseIdx (nS l t).toNat)
set_option maxHeartbeats 4000000 in
theorem SK(z:Z)(sz:Int)(qn:Bool)(Q:List W)(C A B:List K)(c:K)(t op v p n:Int)(hC:C=A++c::B)(hf:gI C t=(A.length:Int))(gf:c.log=[])
  (h1:qn=true->Q=[])(h3:Q.length<=1000)(h4:C.length<=1000)(h5:∀c∈C,(c.nl=true->c.log=[])/\c.log.length<=1000)(kW:(aT sz false (Q++[⟨t,op,0,p,-1⟩]) C).wn.length<=100000):
  ev P (.call Ci [.loc 0 0 0,.d (.ag [I' t,I' op,I' v,I' p,I' n])] (gB z sz qn Q false C)) =
   some (match got (aT sz false (Q++[⟨t,op,0,p,-1⟩]) C).wn t with
    |none=>.val (.d (.ag (cJ true 0 false))) (nB z sz qn (qD (aT sz false (Q++[⟨t,op,0,p,-1⟩]) C).qn (aT sz false (Q++[⟨t,op,0,p,-1⟩]) C).Q) (aT sz false (Q++[⟨t,op,0,p,-1⟩]) C).C (mW (aT sz false (Q++[⟨t,op,0,p,-1⟩]) C).wn))
    |some x=>.val (.d (.ag (cJ false x.1 true))) (nB z sz qn (qD (aT sz false (Q++[⟨t,op,0,p,-1⟩]) C).qn (aT sz false (Q++[⟨t,op,0,p,-1⟩]) C).Q) (aT sz false (Q++[⟨t,op,0,p,-1⟩]) C).C (.d false x.2))):=by
 have hw:=LD z sz qn Q false C t op v p n 0 h1 (by omega)
 have hok:Ad.ok (some []) ⟨false,Q++[⟨t,op,0,p,-1⟩],C,[]⟩:=by
  refine⟨?_,?_,?_,?_,?_⟩
  .intro h;cases h
  .simp only;omega
  .intro d hd
   have:=h5 d hd;refine⟨this.1,?_⟩;simp;omega
  .simp;omega
  .intro h;cases h
 have hA:=Hj z sz false (Q++[⟨t,op,0,p,-1⟩]) C (some []) .w0 hok (.inl rfl);have hl:(aT sz false (Q++[⟨t,op,0,p,-1⟩]) C).C.length=C.length:=rO sz _ _;generalize aT sz false (Q++[⟨t,op,0,p,-1⟩]) C=a at *;obtain⟨oN,Q',C',wn⟩:=a;simp only at hA hl kW⊢;have nJ:∀(d0 d1 d2 d3 d4 d5 d7 d8:D),ev P (.call qp [.d (.ag [d0,d1,d2,d3,d4,d5,cD false C,d7,d8]),.d (I' t)] [])=some (.val (.d (I' A.length)) []):=by
  intro d0 d1 d2 d3 d4 d5 d7 d8;have:=xg d0 d1 d2 d3 d4 d5 d7 d8 false C t (by omega)
  rw[hf]at this;exact this
 have gY:C.map K.row=A.map K.row++[I' c.task,.sl 1 c.nl []]::B.map K.row:=by rw[hC];simp[K.row,gf]
 have k9:=Dh (A:=A.map K.row) (B:=B.map K.row) (x:=[I' c.task,.sl 1 c.nl []]) (n:=A.length) (by simp)
 have jT:C.length=A.length+(B.length+1):=by rw[hC];simp
 have hlt:(A.length:Int)<A.length+(B.length+1):=by omega
 have n2:A.length<A.length+(B.length+1):=by omega
 have eR:∀r:List D,List.take (A.length+(B.length+1)) (A.map K.row++r::B.map K.row)=A.map K.row++r::B.map K.row:=λr=>fU (by simp)
 have mV:=nJ;simp only[cD,gY]at mV;have hk:=λnl=>SH nl wn t op v p n (by omega)
 rw[bD K6 rfl];by_cases hg:nS wn t<0
 .have hgt:got wn t=none:=by simp[got,hg]
  rw[hgt];cases qn;all_goals
   rcases wn with _ |⟨w,wn⟩;all_goals
    simp[gB,wB,au,aD,jT,gY]at hw;simp[pH,pR,hB,bH,fH,au,aD,hl,jT,gY]at hA;have j8:=hk false;have hk1:=hk true;simp only[kD,cR,jF]at j8 hk1;simp[wY,gB,nB,mW,cJ,au,aD,mV,hw,hA,gY,k9,jT,eR,hlt,n2,hl,j8,hk1,hg,aW,sub,bz,back,aQ,cut,bt,bu,bR,aZ,bK,bp,V.cC]
 .rcases zO (p:=λw:Wk=>w.task==t) wn 0 with⟨g1,_⟩ |⟨i,w,g1,g2,_⟩
  .exfalso
   have:nS wn t = -1:=g1
   omega
  .have LG:nS wn t=(i:Int):=by simpa[nS]using g1
   obtain⟨W1,W2,hW,SL⟩:∃W1 W2,wn=W1++w::W2/\W1.length=i:=by
    obtain⟨hlt,he⟩:=dW.1 g2;refine⟨wn.take i,wn.drop (i+1),?_,by simp;omega⟩
    rw[<-he];simp
   subst SL;have hgt:got wn t=some (w.value,W1++W2):=by
    have e:((W1.length:Int)).toNat=W1.length:=by omega
    simp only[got,LG,e,g2,fy];rw[aF (by omega),hW,yg (by omega)]
    simp
   rw[hgt];rw[LG]at hk;have n3:¬((W1.length:Int)<0):=by omega
   have Zi:wn=W1++w::W2:=hW;have hwn:∃x y,wn=x::y:=by
    cases W1 with
    |nil=>exact⟨w,W2,hW⟩
    |cons a r=>exact⟨a,r++w::W2,hW⟩
   have eF:w.row=[I' w.task,I' w.op,I' w.value,.b true,I' (-1)]:=rfl;have hmr:wn.map Wk.row=W1.map Wk.row++w.row::W2.map Wk.row:=by rw[hW];simp
   have hD:=So (W1.map Wk.row) (W2.map Wk.row) w.row (by rw[hW]at kW;simp at kW⊢;omega)
   have LH:=Dh (A:=W1.map Wk.row) (B:=W2.map Wk.row) (x:=w.row) (n:=W1.length) (by simp)
   have SM:wn.length=W1.length+(W2.length+1):=by rw[hW];simp
   have hw1:IntKind.i64.wrap ((W1.length:Int)+1)=W1.length+1:=wrap_i64 (by omega) (by omega)
   have SN:∀r:List D,List.take (W1.length+(W2.length+1)) (W1.map Wk.row++r::W2.map Wk.row)=W1.map Wk.row++r::W2.map Wk.row:=λr=>fU (by simp)
   have SO:∀r:List D,List.take (W1.length+W2.length) (W1.map Wk.row++(W2.map Wk.row++[r]))=W1.map Wk.row++W2.map Wk.row:=λr=>by
    have:W1.map Wk.row++(W2.map Wk.row++[r])=(W1.map Wk.row++W2.map Wk.row)++[r]:=by simp
    rw[this];exact tV (by simp)
   have SP:(W1.length:Int)<W1.length+(W2.length+1):=by omega
   have n4:W1.length<W1.length+(W2.length+1):=by omega
   have j8:=hk false;simp only[kD,hmr]at j8;have SQ:∀(x:List O),bH z sz (qD oN Q') C' 0 (some []) .w0 wn++fH .w0 wn=[au z sz (.d (qD oN Q')) (.aJ 1 0 C'.length) (.aJ 2 0 wn.length),.an 2 true (C'.map K.row),.an 5 true (wn.map Wk.row)]:=by
    intro _;obtain⟨x,y,hxy⟩:=hwn;rw[hxy];simp[bH,fH]
   unfold pR at hA;rw[SQ []]at hA;rw[hmr,SM]at hA;simp[eF]at hD LH j8;cases qn;all_goals
    simp[gB,wB,au,aD,jT,gY]at hw;simp[pH,hB,au,aD,hl,jT,gY,eF]at hA;simp[wY,gB,nB,cJ,au,aD,mV,hw,hA,gY,k9,jT,eR,hlt,n2,hl,j8,n3,hD,LH,hw1,SN,SO,SP,n4,eF,aW,sub,bz,back,gk,bO,bS,aQ,cut,bt,bu,bR,aZ,bK,bp,V.cC]
abbrev up(h:List O):List O:=h
theorem SR(z:Z)(sz:Int)(qn:Bool)(Q:List W)(cn:Bool)(C:List K)(t op v p n:Int)(h1:qn=true->Q=[])(h2:cn=true->C=[])(hn:C.length<=100000):
  ev P (.call Gb [.rf [.loc 0 0 0],.d (.ref [I' t,I' op,I' v,I' p,I' n])] (up (gB z sz qn Q cn C)))=some (.val (.d (.ag (cJ false 0 true))) (up (sB z sz qn Q cn (gR C t)))):=by
 have hS:=SD z sz qn Q cn C t h2 hn;rw[bD Q7 rfl];cases qn<;>cases cn;all_goals
  simp[gB,sB,au,aD]at hS;simp[GC,up,gB,sB,au,aD,hS,cJ,aW,sub,bz,back,aQ,cut,bt,bu,bR,cY,aZ,bK,bp]
set_option maxHeartbeats 4000000 in
theorem SS(z:Z)(sz:Int)(qn:Bool)(Q:List W)(C A B:List K)(c:K)(t op v p n:Int)(hC:C=A++c::B)(hf:gI C t=(A.length:Int))
  (h1:qn=true->Q=[])(h3:Q.length<=1000)(h4:C.length<=1000)(h5:∀c∈C,(c.nl=true->c.log=[])/\c.log.length<=1000):
  ev P (.call Ge [.rf [.loc 0 0 0],.d (.ref [I' t,I' op,I' v,I' p,I' n])] (up (gB z sz qn Q false C))) =
   some (.val (.d (.ag (cJ false 0 true))) (up (pR z sz (qD (aT sz qn Q (A++B)).qn (aT sz qn Q (A++B)).Q) (aT sz qn Q (A++B)).C (some [[I' 0,.sl 1 true []]]) (dJ qn Q) (aT sz qn Q (A++B)).wn))):=by
 have jT:C.length=A.length+(B.length+1):=by rw[hC];simp
 have hlen:(A++B).length=A.length+B.length:=by simp
 have hok:Ad.ok (some [[I' 0,.sl 1 true []]]) ⟨qn,Q,A++B,[]⟩:=by
  refine⟨?_,?_,?_,?_,h1⟩
  .intro h;cases h
  .simp only;omega
  .intro d hd
   simp only at hd⊢;have:=h5 d (by rw[hC];rw[aL]at hd;rcases hd with hd |hd<;>simp[hd])
   exact⟨this.1,by omega⟩
  .simp;omega
 have hA:=Hj z sz qn Q (A++B) (some [[I' 0,.sl 1 true []]]) (dJ qn Q) hok (by
  cases qn
  .exact .inr ⟨rfl,rfl⟩
  .exact .inl rfl)
 have hl:(aT sz qn Q (A++B)).C.length=A.length+B.length:=(rO sz _ _).trans hlen;generalize aT sz qn Q (A++B)=a at *;obtain⟨oN,Q',C',wn⟩:=a;simp only at hA hl⊢;have nJ:∀(d0 d1 d2 d3 d4 d5 d7 d8:D),ev P (.call qp [.d (.ag [d0,d1,d2,d3,d4,d5,cD false C,d7,d8]),.d (I' t)] [])=some (.val (.d (I' A.length)) []):=by
  intro d0 d1 d2 d3 d4 d5 d7 d8;have:=xg d0 d1 d2 d3 d4 d5 d7 d8 false C t (by omega)
  rw[hf]at this;exact this
 have gY:C.map K.row=A.map K.row++c.row::B.map K.row:=by rw[hC];simp
 have hD:=Sn (A.map K.row) (B.map K.row) c.row (by simp;omega)
 have eR:∀r:List D,List.take (A.length+(B.length+1)) (A.map K.row++r::B.map K.row)=A.map K.row++r::B.map K.row:=λr=>fU (by simp)
 have hw1:IntKind.i64.wrap ((A.length:Int)+1)=A.length+1:=wrap_i64 (by omega) (by omega)
 have mV:=nJ;simp only[cD,gY]at mV;rw[bD Q9 rfl];simp at hD;cases qn
 .rcases wn with _ |⟨w,wn⟩
  all_goals
   simp[pH,pR,hB,bH,fH,dJ,au,aD,hl,qD]at hA;simp[CI,up,gB,pR,bH,fH,dJ,au,aD,mV,hD,hA,gY,jT,eR,hw1,hl,cJ,aW,sub,bz,back,aQ,cut,bt,bu,bR,cY,aZ,bK,bp,V.cC,qD]
 .obtain rfl:=h1 rfl
  rcases wn with _ |⟨w,wn⟩;all_goals
   simp[pH,pR,hB,bH,fH,dJ,au,aD,hl,qD]at hA;simp[CI,up,gB,pR,bH,fH,dJ,au,aD,mV,hD,hA,gY,jT,eR,hw1,hl,cJ,aW,sub,bz,back,aQ,cut,bt,bu,bR,cY,aZ,bK,bp,V.cC,qD]
theorem SU(a b c d e:Int):ev P (.call zk [.d (.ag [I' a,I' b,I' c,I' d,I' e])] [])=some (.val (.d (.b (b==68))) []):=by
 rw[bD Rf rfl];simp[GF]
def busy(Q:List W):Bool:=Q.any λw=>w.op==68
theorem SV(nl:Bool)(l:List W)(hn:l.length<=1000000):
  ev P (.call zh [.d (qD nl l),.d (.fn zk [] [])] [])=some (.val (.d (.b (busy l))) []):=by
 have h:=Lq (f:=zk) (first:=[]) (caps:=[]) (p:=λw=>w.op==68) nl l hn (by intro a b c d e;simp[SU])
 exact h
set_option maxHeartbeats 4000000 in
theorem SW(z:Z)(sz:Int)(qn:Bool)(Q:List W)(cn:Bool)(C:List K)(t op v p n:Int)
  (h1:qn=true->Q=[])(h2:cn=true->C=[])(h3:Q.length<=1000)(h4:C.length<=1000)(h5:∀c∈C,(c.nl=true->c.log=[])/\c.log.length<=1000):
  ev P (.call Gg [.rf [.loc 0 0 0],.d (.ref [I' t,I' op,I' v,I' p,I' n])] (up (gB z sz qn Q cn C))) =
   some (if(busy Q||fl sz C Q)=true then .val (.d (.ag (cJ true 0 false))) (up (wB z sz qn (Q++[⟨t,op,v,p,-1⟩]) cn C))
    else .val (.d (.ag (cJ false 0 true))) (up (pR z sz (qO (pO Q)) (C.map (cW Q v)) (mT cn) (dJ qn Q) (pW v Q)))):=by
 have hw:=LD z sz qn Q cn C t op v p n v h1 (by omega)
 have mX:=SV qn Q (by omega)
 have ku:∀(d0 d1 d2 d3 d5 d7 d8:D),ev P (.call sY [.d (I' sz),.d (.ag [d0,d1,d2,d3,qD qn Q,d5,cD cn C,d7,d8])] [])=some (.val (.d (.b (fl sz C Q))) []):=λd0 d1 d2 d3 d5 d7 d8=>Db sz d0 d1 d2 d3 d5 d7 d8 qn Q cn C (by omega) (by omega)
 have hP:=LA z sz qn Q v C (mT cn) (dJ qn Q) (by intro h;apply h2;cases cn<;>simp[mT]at h⊢) (by omega) (by omega) (λc hc=>⟨(h5 c hc).1,by have:=(h5 c hc).2;omega⟩) (by cases qn<;>simp[dJ,Hk.len])
  (by intro Q0 h;cases qn<;>simp[dJ]at h⊢;exact h.symm)
 have hl:(C.map (cW Q v)).length=C.length:=by simp
 generalize C.map (cW Q v)=C' at *;generalize pW v Q=wn at *;generalize pO Q=ot at *;generalize busy Q=bq at *;generalize fl sz C Q=fq at *;rw[bD Re rfl];cases bq
 .cases fq
  .cases qn
   .cases cn
    .rcases wn with _ |⟨w,wn⟩
     all_goals
      simp[pH,pR,hB,bH,fH,dJ,mT,au,aD,hl,qD]at hP;simp[nQ,up,gB,pR,bH,fH,dJ,mT,au,aD,mX,ku,hP,hl,cJ,aW,sub,bz,back,aQ,cut,bt,bu,bR,cY,aZ,bK,bp,V.cC,qD]
    .obtain rfl:=h2 rfl
     simp only[cD,jF]at ku;have oA:C'=[]:=o7.1 hl;subst oA;rcases wn with _ |⟨w,wn⟩;all_goals
      simp[pH,pR,hB,bH,fH,dJ,mT,au,aD,hl,qD]at hP;simp[nQ,up,gB,pR,bH,fH,dJ,mT,au,aD,mX,ku,hP,hl,cJ,aW,sub,bz,back,aQ,cut,bt,bu,bR,cY,aZ,bK,bp,V.cC,qD]
   .obtain rfl:=h1 rfl
    simp only[qD,jF]at mX ku;cases cn
    .rcases wn with _ |⟨w,wn⟩
     all_goals
      simp[pH,pR,hB,bH,fH,dJ,mT,au,aD,hl,qD]at hP;simp[nQ,up,gB,pR,bH,fH,dJ,mT,au,aD,mX,ku,hP,hl,cJ,aW,sub,bz,back,aQ,cut,bt,bu,bR,cY,aZ,bK,bp,V.cC,qD]
    .obtain rfl:=h2 rfl
     simp only[cD,jF]at ku;have oA:C'=[]:=o7.1 hl;subst oA;rcases wn with _ |⟨w,wn⟩;all_goals
      simp[pH,pR,hB,bH,fH,dJ,mT,au,aD,hl,qD]at hP;simp[nQ,up,gB,pR,bH,fH,dJ,mT,au,aD,mX,ku,hP,hl,cJ,aW,sub,bz,back,aQ,cut,bt,bu,bR,cY,aZ,bK,bp,V.cC,qD]
  .cases qn
   .cases cn
    .skip
     simp[gB,wB,au,aD]at hw;simp[nQ,up,gB,wB,au,aD,mX,ku,hw,cJ,aW,sub,bz,back,aQ,cut,bt,bu,bR,cY,aZ,bK,bp,V.cC]
    .obtain rfl:=h2 rfl
     simp only[cD,jF]at ku;simp[gB,wB,au,aD]at hw;simp[nQ,up,gB,wB,au,aD,mX,ku,hw,cJ,aW,sub,bz,back,aQ,cut,bt,bu,bR,cY,aZ,bK,bp,V.cC]
   .obtain rfl:=h1 rfl
    simp only[qD,jF]at mX ku;cases cn
    .skip
     simp[gB,wB,au,aD]at hw;simp[nQ,up,gB,wB,au,aD,mX,ku,hw,cJ,aW,sub,bz,back,aQ,cut,bt,bu,bR,cY,aZ,bK,bp,V.cC]
    .obtain rfl:=h2 rfl
     simp only[cD,jF]at ku;simp[gB,wB,au,aD]at hw;simp[nQ,up,gB,wB,au,aD,mX,ku,hw,cJ,aW,sub,bz,back,aQ,cut,bt,bu,bR,cY,aZ,bK,bp,V.cC]
 .cases qn
  .cases cn
   all_goals
    simp[gB,wB,au,aD]at hw;simp[nQ,up,gB,wB,au,aD,mX,ku,hw,cJ,aW,sub,bz,back,aQ,cut,bt,bu,bR,cY,aZ,bK,bp,V.cC]
  .obtain rfl:=h1 rfl
   simp only[qD,jF]at mX;cases cn;all_goals
    simp[gB,wB,au,aD]at hw;simp[nQ,up,gB,wB,au,aD,mX,ku,hw,cJ,aW,sub,bz,back,aQ,cut,bt,bu,bR,cY,aZ,bK,bp,V.cC]
theorem LI(cs:Option (List (List D)))(sz:Int):∀(n:Nat)(a:Ad),a.ok cs->(dR sz n a).ok cs
 | 0,a,h=>h
 |n+1,a,h=>by
  unfold dR;split
  .exact h
  .rename_i hn
   rcases u6 a.Q with⟨h1,_⟩ |⟨A,B,w,hQ,hp,_⟩
   .exfalso;apply hn;left;omega
   .have e:((A.length:Int)).toNat=A.length:=by omega
    have hg:a.Q[(cx a.Q).toNat]?=some w:=by rw[hp,e,hQ];simp
    rw[hg];exact LI cs sz n _ (Ad.Hi hQ hp h)
set_option maxHeartbeats 4000000 in
theorem SX(z:Z)(sz:Int)(qn:Bool)(Q:List W)(C A B:List K)(c:K)(t op v p n x:Int)(lg:List Int)(hC:C=A++c::B)(hf:gI C t=(A.length:Int))(gf:c.log=x::lg)
  (h1:qn=true->Q=[])(h3:Q.length<=1000)(h4:C.length<=1000)(h5:∀c∈C,(c.nl=true->c.log=[])/\c.log.length<=1000):
  ev P (.call Ch [.rf [.loc 0 0 0],.d (.ref [I' t,I' op,I' v,I' p,I' n])] (up (gB z sz qn Q false C))) =
   some (.val (.d (.ag (cJ false x true))) (up (pR z sz (qD (aT sz qn Q (A++⟨c.task,false,lg⟩::B)).qn (aT sz qn Q (A++⟨c.task,false,lg⟩::B)).Q) (aT sz qn Q (A++⟨c.task,false,lg⟩::B)).C (some []) (dJ qn Q) (aT sz qn Q (A++⟨c.task,false,lg⟩::B)).wn))):=by
 have hN:=SJ z sz qn Q C A B c t op v p n x lg hC hf gf h1 h3 h4 h5;generalize aT sz qn Q (A++⟨c.task,false,lg⟩::B)=a at *;obtain⟨oN,Q',C',wn⟩:=a;simp only at hN⊢;rw[bD K5 rfl];cases qn<;>rcases wn with _ |⟨w,wn⟩;all_goals
  simp[gB,pR,bH,fH,dJ,au,aD,cJ]at hN;simp[zB,up,gB,pR,bH,fH,dJ,au,aD,hN,cJ,aW,sub,bz,back,aQ,cut,bt,bu,bR,cY,aZ,bK,bp,V.cC]
set_option maxHeartbeats 4000000 in
theorem SY(z:Z)(sz:Int)(qn:Bool)(Q:List W)(C A B:List K)(c:K)(t op v p n:Int)(hC:C=A++c::B)(hf:gI C t=(A.length:Int))(gf:c.log=[])
  (h1:qn=true->Q=[])(h3:Q.length<=1000)(h4:C.length<=1000)(h5:∀c∈C,(c.nl=true->c.log=[])/\c.log.length<=1000)(kW:(aT sz false (Q++[⟨t,op,0,p,-1⟩]) C).wn.length<=100000):
  ev P (.call Ch [.rf [.loc 0 0 0],.d (.ref [I' t,I' op,I' v,I' p,I' n])] (up (gB z sz qn Q false C))) =
   some (match got (aT sz false (Q++[⟨t,op,0,p,-1⟩]) C).wn t with
    |none=>.val (.d (.ag (cJ true 0 false))) (up (nB z sz qn (qD (aT sz false (Q++[⟨t,op,0,p,-1⟩]) C).qn (aT sz false (Q++[⟨t,op,0,p,-1⟩]) C).Q) (aT sz false (Q++[⟨t,op,0,p,-1⟩]) C).C (mW (aT sz false (Q++[⟨t,op,0,p,-1⟩]) C).wn)))
    |some x=>.val (.d (.ag (cJ false x.1 true))) (up (nB z sz qn (qD (aT sz false (Q++[⟨t,op,0,p,-1⟩]) C).qn (aT sz false (Q++[⟨t,op,0,p,-1⟩]) C).Q) (aT sz false (Q++[⟨t,op,0,p,-1⟩]) C).C (.d false x.2)))):=by
 have hN:=SK z sz qn Q C A B c t op v p n hC hf gf h1 h3 h4 h5 kW;generalize aT sz false (Q++[⟨t,op,0,p,-1⟩]) C=a at *;obtain⟨oN,Q',C',wn⟩:=a;simp only at hN⊢;rw[bD K5 rfl];cases hg:got wn t with
 |none =>
  rw[hg]at hN;cases qn<;>rcases wn with _ |⟨w,wn⟩;all_goals
   simp[gB,nB,mW,au,aD,cJ]at hN;simp[zB,up,gB,nB,mW,au,aD,hN,cJ,aW,sub,bz,back,aQ,cut,bt,bu,bR,cY,aZ,bK,bp,V.cC]
 |some x =>
  rw[hg]at hN;cases qn;all_goals
   simp[gB,nB,mW,au,aD,cJ]at hN;simp[zB,up,gB,nB,mW,au,aD,hN,cJ,aW,sub,bz,back,aQ,cut,bt,bu,bR,cY,aZ,bK,bp,V.cC]
def del(C:List K)(t:Int):List K:=C.eraseIdx (gI C t).toNat
def ap(k sz ot:Int)(s:S)(t op v p n:Int):Rp×Int :=
 if gJ k sz ot s≠0 then(jD,1)else if eY s t op v p n≠0 then(jD,eY s t op v p n)else
 if op=69 then(⟨{s with cn:=false,C:=gR s.C t},false,0,true,true,[]⟩,0)else
 if op=71 then
  let a:=aT sz s.qn s.Q (del s.C t)
  (⟨s.put a,false,0,true,decide (a.wn=[]),a.wn⟩,0)else
 if op=68 then
  if(busy s.Q||fl sz s.C s.Q)=true then(⟨{s with qn:=false,Q:=s.Q++[⟨t,op,v,p,-1⟩]},true,0,false,true,[]⟩,0)
  else(⟨{s with qn:=decide (pO s.Q=[]),Q:=pO s.Q,C:=s.C.map (cW s.Q v)},false,0,true,decide (pW v s.Q=[]),pW v s.Q⟩,0)
 else
  match iO s.C t with
  |none=>(jD,0)
  |some c =>
   match c.log with
   |x::lg =>
    let a:=aT sz s.qn s.Q (s.C.set (gI s.C t).toNat ⟨c.task,false,lg⟩)
    (⟨s.put a,false,x,true,decide (a.wn=[]),a.wn⟩,0)
   | [] =>
    let a:=aT sz false (s.Q++[⟨t,op,0,p,-1⟩]) s.C
    match got a.wn t with
    |none=>(⟨s.put a,true,0,false,decide (a.wn=[]),a.wn⟩,0)
    |some x=>(⟨s.put a,false,x.1,true,false,x.2⟩,0)
theorem LJ(nm:D)(k sz ot:Int)(s:S)(hs:s.wf)(t op v p n:Int)(h:gJ k sz ot s≠0\/eY s t op v p n≠0):
  ev P (.call qo [.d (.ag [nm,I' k,I' sz,I' ot]),.d (.ag s.row),.d (.ag [I' t,I' op,I' v,I' p,I' n])] [])=some (.val (.tu [.d (.ag (ap k sz ot s t op v p n).1.row),.d (I' (ap k sz ot s t op v p n).2)]) []):=by
 have hC:=zS nm k sz ot s hs.sm;have hE:=zU s hs.sm t op v p n;unfold ap;rw[bD wZ rfl];by_cases hc:gJ k sz ot s=0
 .have h2:eY s t op v p n≠0:=by
   rcases h with h |h
   .exact absurd hc h
   .exact h
  generalize eY s t op v p n=e at *;have h3:(e != 0)=true:=by simpa using h2
  rw[hc]at hC⊢;simp[iN,hC,hE,h2,h3,jD,S0]
 .have gE:(gJ k sz ot s != 0)=true:=by simpa using hc
  simp[iN,hC,hc,gE,jD,S0]
set_option maxHeartbeats 4000000 in
theorem SZ(nm:D)(k sz ot:Int)(s:S)(hs:s.wf)(t v p n:Int)(hc:gJ k sz ot s=0)(he:eY s t 69 v p n=0):
  ev P (.call qo [.d (.ag [nm,I' k,I' sz,I' ot]),.d (.ag s.row),.d (.ag [I' t,I' 69,I' v,I' p,I' n])] [])=some (.val (.tu [.d (.ag (ap k sz ot s t 69 v p n).1.row),.d (I' (ap k sz ot s t 69 v p n).2)]) []):=by
 have hC:=zS nm k sz ot s hs.sm;have hE:=zU s hs.sm t 69 v p n;rw[hc]at hC;rw[he]at hE;have e:ap k sz ot s t 69 v p n=(⟨{s with cn:=false,C:=gR s.C t},false,0,true,true,[]⟩,0):=by simp[ap,hc,he]
 rw[e];have dn:=Df s.z nm (I' k) (I' ot) sz s.qn s.Q s.cn s.C hs.qn hs.cn (by have:=hs.q;omega) (by have:=hs.c;omega)
 have hO:=SR s.z sz s.qn s.Q s.cn s.C t 69 v p n hs.qn hs.cn (by have:=hs.c;omega)
 obtain⟨own,cnt,time,hn,H,qn,Q,bn,B,cn,C,cl,val⟩:=s;simp only at hC hE dn hO hs⊢;generalize gR C t=C' at *;rw[bD wZ rfl];cases qn
 .cases cn
  all_goals
   simp[gB,au,aD]at dn;simp[gB,sB,au,aD,cJ,up]at hO;simp[iN,hC,hE,dn,hO,dU,aW,sub,bz,back,bO,bS,aQ,cut,bt,bu,bR,cY,aZ,bK,bp,V.cC,cK,dM,Rp.row,S.put,dr,b9]
 .obtain rfl:=hs.qn rfl
  cases cn;all_goals
   simp[gB,au,aD]at dn;simp[gB,sB,au,aD,cJ,up]at hO;simp[iN,hC,hE,dn,hO,dU,aW,sub,bz,back,bO,bS,aQ,cut,bt,bu,bR,cY,aZ,bK,bp,V.cC,cK,dM,Rp.row,S.put,dr,b9]
theorem xu{C:List K}{t:Int}(h:0<=gI C t):∃A c B,C=A++c::B/\gI C t=(A.length:Int)/\iO C t=some c:=by
 rcases Dd C t with⟨h1,_⟩ |⟨i,c,h1,h2,h3⟩
 .omega
 .obtain⟨hlt,he⟩:=dW.1 h2
  have hl:(C.take i).length=i:=by simp;omega
  exact⟨C.take i,c,C.drop (i+1),by rw[<-he];simp,by rw[hl];exact h1,h3⟩
theorem xx{s:S}{t op v p n:Int}(h:eY s t op v p n=0)(ho:op=71\/op=70):0<=gI s.C t:=by
 unfold eY at h;split at h
 .cases h
 .split at h
  .cases h
  .split at h
   .cases h
   .split at h
    .cases h
    .split at h
     .cases h
     .split at h
      .cases h
      .rename_i h6
       rcases ho with rfl |rfl<;>simp at h6<;>exact h6
theorem Hl{s:S}{t op v p n:Int}(h:eY s t op v p n=0):op=68\/op=69\/op=70\/op=71:=by
 unfold eY at h;split at h
 .cases h
 .split at h
  .cases h
  .rename_i h2
   simp at h2;omega
set_option maxHeartbeats 4000000 in
theorem S1(nm:D)(k sz ot:Int)(s:S)(hs:s.wf)(t v p n:Int)(hc:gJ k sz ot s=0)(he:eY s t 71 v p n=0):
  ev P (.call qo [.d (.ag [nm,I' k,I' sz,I' ot]),.d (.ag s.row),.d (.ag [I' t,I' 71,I' v,I' p,I' n])] [])=some (.val (.tu [.d (.ag (ap k sz ot s t 71 v p n).1.row),.d (I' (ap k sz ot s t 71 v p n).2)]) []):=by
 have hC:=zS nm k sz ot s hs.sm;have hE:=zU s hs.sm t 71 v p n;rw[hc]at hC;rw[he]at hE;obtain⟨A,c,B,hS,hf,_⟩:=xu (xx he (.inl rfl));have uH:del s.C t=A++B:=by
  have e:((A.length:Int)).toNat=A.length:=by omega
  unfold del;rw[hf,e,hS,yg (by omega)]
  simp
 have e:ap k sz ot s t 71 v p n=(⟨s.put (aT sz s.qn s.Q (A++B)),false,0,true,decide ((aT sz s.qn s.Q (A++B)).wn=[]),(aT sz s.qn s.Q (A++B)).wn⟩,0):=by simp[ap,hc,he,uH]
 rw[e];have dn:=Df s.z nm (I' k) (I' ot) sz s.qn s.Q s.cn s.C hs.qn hs.cn (by have:=hs.q;omega) (by have:=hs.c;omega)
 have hO:=SS s.z sz s.qn s.Q s.C A B c t 71 v p n hS hf hs.qn hs.q hs.c hs.l;have hl:(aT sz s.qn s.Q (A++B)).C.length=A.length+B.length:=(rO sz _ _).trans (by simp)
 have lV:s.cn=false:=by
  cases h:s.cn
  .rfl
  .have:=hs.cn h;rw[hS]at this;simp at this
 generalize aT sz s.qn s.Q (A++B)=a at *;obtain⟨own,cnt,time,hn,H,qn,Q,bn,B',cn,C,cl,val⟩:=s;obtain⟨oN,Q',C',wn⟩:=a;simp only at hC hE dn hO hs hl lV hS⊢;subst lV;have eR:∀r:List D,List.take (A.length+B.length) (C'.map K.row++[r])=C'.map K.row:=λr=>tV (by simp[hl])
 have fN:A.length+B.length<=C'.length+1:=by omega
 rw[bD wZ rfl];cases qn
 .rcases wn with _ |⟨w,wn⟩
  all_goals
   simp[gB,au,aD]at dn;simp[gB,pR,bH,fH,dJ,au,aD,cJ,hl,up]at hO;simp[iN,hC,hE,dn,hO,dU,aW,sub,bz,back,bO,bS,aQ,cut,bt,bu,bR,cY,aZ,bK,bp,V.cC,cK,dM,Rp.row,S.put,dr,b9,eR,fN]
 .obtain rfl:=hs.qn rfl
  rcases wn with _ |⟨w,wn⟩;all_goals
   simp[gB,au,aD]at dn;simp[gB,pR,bH,fH,dJ,au,aD,cJ,hl,up]at hO;simp[iN,hC,hE,dn,hO,dU,aW,sub,bz,back,bO,bS,aQ,cut,bt,bu,bR,cY,aZ,bK,bp,V.cC,cK,dM,Rp.row,S.put,dr,b9,eR,fN]
set_option maxHeartbeats 4000000 in
theorem S2(nm:D)(k sz ot:Int)(s:S)(hs:s.wf)(t v p n:Int)(hc:gJ k sz ot s=0)(he:eY s t 68 v p n=0):
  ev P (.call qo [.d (.ag [nm,I' k,I' sz,I' ot]),.d (.ag s.row),.d (.ag [I' t,I' 68,I' v,I' p,I' n])] [])=some (.val (.tu [.d (.ag (ap k sz ot s t 68 v p n).1.row),.d (I' (ap k sz ot s t 68 v p n).2)]) []):=by
 have hC:=zS nm k sz ot s hs.sm;have hE:=zU s hs.sm t 68 v p n;rw[hc]at hC;rw[he]at hE;have e:ap k sz ot s t 68 v p n=if(busy s.Q||fl sz s.C s.Q)=true then(⟨{s with qn:=false,Q:=s.Q++[⟨t,68,v,p,-1⟩]},true,0,false,true,[]⟩,0)
  else(⟨{s with qn:=decide (pO s.Q=[]),Q:=pO s.Q,C:=s.C.map (cW s.Q v)},false,0,true,decide (pW v s.Q=[]),pW v s.Q⟩,0):=by simp[ap,hc,he]
 rw[e];have dn:=Df s.z nm (I' k) (I' ot) sz s.qn s.Q s.cn s.C hs.qn hs.cn (by have:=hs.q;omega) (by have:=hs.c;omega)
 have hO:=SW s.z sz s.qn s.Q s.cn s.C t 68 v p n hs.qn hs.cn hs.q hs.c hs.l;have hl:(s.C.map (cW s.Q v)).length=s.C.length:=by simp
 have Ho:s.cn=true->s.C.map (cW s.Q v)=[]:=λh=>by rw[hs.cn h];rfl
 generalize s.C.map (cW s.Q v)=C' at *;generalize pW v s.Q=wn at *;generalize pO s.Q=Zj at *;generalize (busy s.Q||fl sz s.C s.Q)=bf at *;obtain⟨own,cnt,time,hn,H,qn,Q,bn,B',cn,C,cl,val⟩:=s;simp only at hC hE dn hO hs hl Ho⊢;have qv:cn=true->C=[]:=hs.cn;have eR:List.take C.length (C'.map K.row)=C'.map K.row:=fU (by simp[hl])
 have fN:C.length<=C'.length:=by omega
 rw[bD wZ rfl];cases bf
 .cases qn
  .cases cn<;>rcases wn with _ |⟨w,wn⟩
   all_goals
    simp[gB,au,aD]at dn;simp[gB,pR,bH,fH,dJ,mT,au,aD,cJ,hl,qO,up]at hO;simp[iN,hC,hE,dn,hO,dU,aW,sub,bz,back,bO,bS,aQ,cut,bt,bu,bR,cY,aZ,bK,bp,V.cC,cK,dM,Rp.row,S.put,dr,b9,eR,Ho,fN]
  .obtain rfl:=hs.qn rfl
   cases cn<;>rcases wn with _ |⟨w,wn⟩;all_goals
    simp[gB,au,aD]at dn;simp[gB,pR,bH,fH,dJ,mT,au,aD,cJ,hl,qO,up]at hO;simp[iN,hC,hE,dn,hO,dU,aW,sub,bz,back,bO,bS,aQ,cut,bt,bu,bR,cY,aZ,bK,bp,V.cC,cK,dM,Rp.row,S.put,dr,b9,eR,Ho,fN]
 .cases qn
  .cases cn
   .skip
    simp[gB,au,aD]at dn;simp[gB,wB,au,aD,cJ,up]at hO;simp[iN,hC,hE,dn,hO,dU,aW,sub,bz,back,bO,bS,aQ,cut,bt,bu,bR,cY,aZ,bK,bp,V.cC,cK,dM,Rp.row,S.put,dr,b9]
   .obtain rfl:=qv rfl
    simp[gB,au,aD]at dn;simp[gB,wB,au,aD,cJ,up]at hO;simp[iN,hC,hE,dn,hO,dU,aW,sub,bz,back,bO,bS,aQ,cut,bt,bu,bR,cY,aZ,bK,bp,V.cC,cK,dM,Rp.row,S.put,dr,b9]
  .obtain rfl:=hs.qn rfl
   cases cn
   .skip
    simp[gB,au,aD]at dn;simp[gB,wB,au,aD,cJ,up]at hO;simp[iN,hC,hE,dn,hO,dU,aW,sub,bz,back,bO,bS,aQ,cut,bt,bu,bR,cY,aZ,bK,bp,V.cC,cK,dM,Rp.row,S.put,dr,b9]
   .obtain rfl:=qv rfl
    simp[gB,au,aD]at dn;simp[gB,wB,au,aD,cJ,up]at hO;simp[iN,hC,hE,dn,hO,dU,aW,sub,bz,back,bO,bS,aQ,cut,bt,bu,bR,cY,aZ,bK,bp,V.cC,cK,dM,Rp.row,S.put,dr,b9]
theorem Hp{A B:List K}{c d:K}:(A++c::B).set A.length d=A++d::B:=by simp
set_option maxHeartbeats 4000000 in
theorem S3(nm:D)(k sz ot:Int)(s:S)(hs:s.wf)(t v p n:Int)(hc:gJ k sz ot s=0)(he:eY s t 70 v p n=0):
  ev P (.call qo [.d (.ag [nm,I' k,I' sz,I' ot]),.d (.ag s.row),.d (.ag [I' t,I' 70,I' v,I' p,I' n])] [])=some (.val (.tu [.d (.ag (ap k sz ot s t 70 v p n).1.row),.d (I' (ap k sz ot s t 70 v p n).2)]) []):=by
 have hC:=zS nm k sz ot s hs.sm;have hE:=zU s hs.sm t 70 v p n;rw[hc]at hC;rw[he]at hE;obtain⟨A,c,B,hS,hf,Hq⟩:=xu (xx he (.inr rfl));have dn:=Df s.z nm (I' k) (I' ot) sz s.qn s.Q s.cn s.C hs.qn hs.cn (by have:=hs.q;omega) (by have:=hs.c;omega)
 have lV:s.cn=false:=by
  cases h:s.cn
  .rfl
  .have:=hs.cn h;rw[hS]at this;simp at this
 have eN:((A.length:Int)).toNat=A.length:=by omega
 cases gf:c.log with
 |cons x lg =>
  have e:ap k sz ot s t 70 v p n=(⟨s.put (aT sz s.qn s.Q (A++⟨c.task,false,lg⟩::B)),false,x,true,decide ((aT sz s.qn s.Q (A++⟨c.task,false,lg⟩::B)).wn=[]),(aT sz s.qn s.Q (A++⟨c.task,false,lg⟩::B)).wn⟩,0):=by
   have e2:s.C.set (gI s.C t).toNat ⟨c.task,false,lg⟩=A++⟨c.task,false,lg⟩::B:=by rw[hf,eN,hS];exact Hp
   rw[<-e2];simp[ap,hc,he,Hq,gf]
  rw[e];have hO:=SX s.z sz s.qn s.Q s.C A B c t 70 v p n x lg hS hf gf hs.qn hs.q hs.c hs.l;have hl:(aT sz s.qn s.Q (A++⟨c.task,false,lg⟩::B)).C.length=A.length+(B.length+1):=(rO sz _ _).trans (by simp)
  have jT:s.C.length=A.length+(B.length+1):=by rw[hS];simp
  generalize aT sz s.qn s.Q (A++⟨c.task,false,lg⟩::B)=a at *;clear e;obtain⟨own,cnt,time,hn,H,qn,Q,bn,B',cn,C,cl,val⟩:=s;obtain⟨oN,Q',C',wn⟩:=a;simp only at hC hE dn hO hs hl lV hS jT⊢;subst lV;have eR:List.take C.length (C'.map K.row)=C'.map K.row:=fU (by simp;omega)
  have fN:C.length<=C'.length:=by omega
  rw[<-jT]at hl;rw[bD wZ rfl];cases qn
  .rcases wn with _ |⟨w,wn⟩
   all_goals
    simp[gB,au,aD]at dn;simp[gB,pR,bH,fH,dJ,au,aD,cJ,hl,up]at hO;simp[iN,hC,hE,dn,hO,dU,aW,sub,bz,back,bO,bS,aQ,cut,bt,bu,bR,cY,aZ,bK,bp,V.cC,cK,dM,Rp.row,S.put,dr,b9,eR,fN]
  .obtain rfl:=hs.qn rfl
   rcases wn with _ |⟨w,wn⟩;all_goals
    simp[gB,au,aD]at dn;simp[gB,pR,bH,fH,dJ,au,aD,cJ,hl,up]at hO;simp[iN,hC,hE,dn,hO,dU,aW,sub,bz,back,bO,bS,aQ,cut,bt,bu,bR,cY,aZ,bK,bp,V.cC,cK,dM,Rp.row,S.put,dr,b9,eR,fN]
 |nil =>
  have hok:Ad.ok none ⟨false,s.Q++[W.mk t 70 0 p (-1)],[],[]⟩:=by
   have:=hs.q;refine⟨λ_=>rfl,by simp,by simp,by simp;omega,by simp⟩
  have sr:Ad.ok (some []) ⟨false,s.Q++[W.mk t 70 0 p (-1)],s.C,[]⟩:=by
   have hq:=hs.q;have mY:=hs.c;refine⟨?_,?_,?_,?_,?_⟩
   .intro h;cases h
   .simp only;omega
   .intro d hd
    have:=hs.l d hd;refine⟨this.1,?_⟩;simp;omega
   .simp;omega
   .intro h;cases h
  have kW:(aT sz false (s.Q++[W.mk t 70 0 p (-1)]) s.C).wn.length<=100000:=by
   have:=(LI (some []) sz ((s.Q++[W.mk t 70 0 p (-1)]).length+1) _ sr).2.2.2.1;unfold aT;omega
  have hO:=SY s.z sz s.qn s.Q s.C A B c t 70 v p n hS hf gf hs.qn hs.q hs.c hs.l kW;have hl:(aT sz false (s.Q++[W.mk t 70 0 p (-1)]) s.C).C.length=s.C.length:=rO sz _ _;have e:ap k sz ot s t 70 v p n=match got (aT sz false (s.Q++[W.mk t 70 0 p (-1)]) s.C).wn t with
    |none=>(⟨s.put (aT sz false (s.Q++[W.mk t 70 0 p (-1)]) s.C),true,0,false,decide ((aT sz false (s.Q++[W.mk t 70 0 p (-1)]) s.C).wn=[]),(aT sz false (s.Q++[W.mk t 70 0 p (-1)]) s.C).wn⟩,0)
    |some x=>(⟨s.put (aT sz false (s.Q++[W.mk t 70 0 p (-1)]) s.C),false,x.1,true,false,x.2⟩,0):=by
   first
   |(simp[ap,hc,he,Hq,gf];done)
   |(
    simp[ap,hc,he,Hq,gf];cases got (aT sz false (s.Q++[W.mk t 70 0 p (-1)]) s.C).wn t<;>rfl)
  rw[e];clear kW hok sr;generalize aT sz false (s.Q++[W.mk t 70 0 p (-1)]) s.C=a at *;clear e;obtain⟨own,cnt,time,hn,H,qn,Q,bn,B',cn,C,cl,val⟩:=s;obtain⟨oN,Q',C',wn⟩:=a;simp only at hC hE dn hO hs hl lV hS⊢;subst lV;have eR:List.take C.length (C'.map K.row)=C'.map K.row:=fU (by simp;omega)
  have fN:C.length<=C'.length:=by omega
  rw[bD wZ rfl];cases hg:got wn t with
  |none =>
   rw[hg]at hO;cases qn
   .rcases wn with _ |⟨w,wn⟩
    all_goals
     simp[gB,au,aD]at dn;simp[gB,nB,mW,au,aD,cJ,hl,up]at hO;simp[iN,hC,hE,dn,hO,dU,aW,sub,bz,back,bO,bS,aQ,cut,bt,bu,bR,cY,aZ,bK,bp,V.cC,cK,dM,Rp.row,S.put,dr,b9,eR,fN]
   .obtain rfl:=hs.qn rfl
    rcases wn with _ |⟨w,wn⟩;all_goals
     simp[gB,au,aD]at dn;simp[gB,nB,mW,au,aD,cJ,hl,up]at hO;simp[iN,hC,hE,dn,hO,dU,aW,sub,bz,back,bO,bS,aQ,cut,bt,bu,bR,cY,aZ,bK,bp,V.cC,cK,dM,Rp.row,S.put,dr,b9,eR,fN]
  |some x =>
   rw[hg]at hO;cases qn
   .simp[gB,au,aD]at dn
    simp[gB,nB,mW,au,aD,cJ,hl,up]at hO;simp[iN,hC,hE,dn,hO,dU,aW,sub,bz,back,bO,bS,aQ,cut,bt,bu,bR,cY,aZ,bK,bp,V.cC,cK,dM,Rp.row,S.put,dr,b9,eR,fN]
   .obtain rfl:=hs.qn rfl
    simp[gB,au,aD]at dn;simp[gB,nB,mW,au,aD,cJ,hl,up]at hO;simp[iN,hC,hE,dn,hO,dU,aW,sub,bz,back,bO,bS,aQ,cut,bt,bu,bR,cY,aZ,bK,bp,V.cC,cK,dM,Rp.row,S.put,dr,b9,eR,fN]
theorem Hr(nm:D)(k sz ot:Int)(s:S)(hs:s.wf)(t op v p n:Int):
  ev P (.call qo [.d (.ag [nm,I' k,I' sz,I' ot]),.d (.ag s.row),.d (.ag [I' t,I' op,I' v,I' p,I' n])] [])=some (.val (.tu [.d (.ag (ap k sz ot s t op v p n).1.row),.d (I' (ap k sz ot s t op v p n).2)]) []):=by
 by_cases hc:gJ k sz ot s=0
 .by_cases he:eY s t op v p n=0
  .rcases Hl he with rfl |rfl |rfl |rfl
   .exact S2 nm k sz ot s hs t v p n hc he
   .exact SZ nm k sz ot s hs t v p n hc he
   .exact S3 nm k sz ot s hs t v p n hc he
   .exact S1 nm k sz ot s hs t v p n hc he
  .exact LJ nm k sz ot s hs t op v p n (.inr he)
 .exact LJ nm k sz ot s hs t op v p n (.inl hc)
theorem eqv{α:Type}{a b:α}(h:∀R,b=R->a=R):a=b:=h _ rfl
structure Rd where
 qn:Bool
 Q:List W
 cn:Bool
 C:List K
 wn:List Wk
def Rd.step(a:Rd)(w:W):Rd:=⟨false,pO (a.Q.filter λx=>x.task != w.task),false,a.C.map (cW (a.Q.filter λx=>x.task != w.task) w.value),a.wn++⟨w.task,w.op,0⟩::pW w.value (a.Q.filter λx=>x.task != w.task)⟩
def Rd.ok(a:Rd):Prop :=
 a.C.length<=100000/\(∀c∈a.C,(c.nl=true->c.log=[])/\c.log.length+a.Q.length<=100000)/\a.Q.length+a.wn.length<=90000
theorem S4{Q:List W}{A B:List W}{w:W}(hQ:Q=A++w::B):(Q.filter λx=>x.task != w.task).length<Q.length:=by
 have h1:=Et (λx:W=>x.task != w.task) A
 have h2:=Et (λx:W=>x.task != w.task) B
 rw[hQ];simp[rZ];omega
theorem Rd.Hi{a:Rd}{A B:List W}{w:W}(hQ:a.Q=A++w::B)(hok:a.ok):(a.step w).ok:=by
 obtain⟨hc,hC,hw⟩:=hok;have hlt:=S4 hQ;unfold Rd.step;generalize (a.Q.filter λx=>x.task != w.task)=Q' at *
 have hl:=xl Q';have fM:=xj w.value Q';refine⟨?_,?_,?_⟩
 .simp;exact hc
 .intro c eZ
  simp only at eZ⊢;obtain⟨c0,hc0,rfl⟩:=dz.1 eZ;have:=hC c0 hc0;unfold cW;split
  .exact⟨this.1,by omega⟩
  .refine⟨by simp,?_⟩
   simp only[eC,tU];omega
 .simp only[eC,fT]
  omega
theorem Ht{t op v p n:Int}(hb:th t p n=false)(ho:68<=op/\op<=71)(hv:num v=true):mR ⟨t,op,v,p,-1⟩=true:=by
 unfold th at hb;unfold num at hv;simp at hb hv;unfold mR zM;simp;omega
theorem LL{s:S}{t op v p n:Int}(h:eY s t op v p n=0):th t p n=false:=by
 unfold eY at h;split at h
 .cases h
 .rename_i h2;simpa using h2
theorem LM{s:S}{t v p n:Int}(h:eY s t 68 v p n=0):num v=true:=by
 unfold eY at h;split at h
 .cases h
 .split at h
  .cases h
  .split at h
   .cases h
   .rename_i h2
    simp at h2;exact h2
theorem S5{k sz ot:Int}{s:S}(h:gJ k sz ot s=0):jA k sz ot=0/\s.good sz=true:=by
 unfold gJ at h;split at h
 .rename_i h1
  refine⟨h1,?_⟩;cases hg:s.good sz
  .rw[hg]at h;simp at h
  .rfl
 .rename_i h1;exact absurd h h1
def xy(C:List K)(t:Int):Int×Int:=match iO C t with |some c=>(c.log.length,0) |none=>(0,7)
theorem LN(d0 d1 d2 d3 d4 d5 d7 d8:D)(cn:Bool)(C:List K)(t:Int)(hn:C.length<=1000000):
  ev P (.call Ce [.d (.ag [d0,d1,d2,d3,d4,d5,cD cn C,d7,d8]),.d (I' t)] [])=some (.val (.tu [.d (I' (xy C t).1),.d (I' (xy C t).2)]) []):=by
 have hI:=xg d0 d1 d2 d3 d4 d5 d7 d8 cn C t hn;rw[bD Q3 rfl];rcases Dd C t with⟨f1,f2⟩ |⟨i,c,f1,f2,f3⟩
 .rw[f1]at hI
  simp[CF,hI,xy,f2]
 .rw[f1]at hI
  have n1:¬((i:Int)<0):=by omega
  obtain⟨hlt,he⟩:=dW.1 f2;have jB:(i:Int)<C.length:=by omega
  simp[CF,hI,xy,f2,f3,n1,hlt,jB,he,K.row]
structure S.same(s s':S):Prop where
 own:s.own=s'.own
 cnt:s.cnt=s'.cnt
 time:s.time=s'.time
 H:s.H=s'.H
 Q:s.Q=s'.Q
 B:s.B=s'.B
 C:s.C=s'.C
 cl:s.cl=s'.cl
 val:s.val=s'.val
theorem S.same.refl(s:S):s.same s:=⟨rfl,rfl,rfl,rfl,rfl,rfl,rfl,rfl,rfl⟩
structure Rp.same(r r':Rp):Prop where
 st:r.st.same r'.st
 parked:r.parked=r'.parked
 value:r.value=r'.value
 ok:r.ok=r'.ok
 wn:r.wn=r'.wn
def tks(Q:List W):List Int:=Q.map (·.task)
theorem LO{A B:List W}{w:W}(h:(tks (A++w::B)).Nodup):(tks (A++B)).Nodup:=by
 have:(A++B).Sublist (A++w::B):=yc (pe A) (yd w B)
 exact h.sublist (this.map _)
theorem S6{Q:List W}(h:(tks Q).Nodup):(tks (pO Q)).Nodup:=h.sublist (List.filter_sublist.map _)
theorem S7{A B:List W}{w:W}{t:Int}(h:w.op=68):eX (A++w::B) t 70=eX (A++B) t 70:=by
 unfold eX;simp[h]
def fits(sz:Int)(C:List K):Prop:=∀c∈C,(c.log.length:Int)<=sz
theorem S8{sz:Int}{C:List K}{Q A B:List W}{w:W}(hQ:Q=A++w::B)(cN:w.op=68)(hf:fl sz C Q=false)(h:fits sz C):fits sz (C.map (cW (A++B) w.value)):=by
 intro c hc;obtain⟨c0,hc0,rfl⟩:=dz.1 hc;unfold cW;cases hw:eX (A++B) c0.task 70
 .have h1:=h c0 hc0
  have:((c0.log.length:Int)==sz&&!eX Q c0.task 70)=false:=by
   unfold fl at hf;rw[yf]at hf;simpa using hf c0 hc0
  rw[hQ,S7 cN,hw]at this;simp at this;simp;omega
 .simp
  exact h c0 hc0
theorem S9(v:Int)(Q:List W):(pW v Q).map (·.task)=tks (Q.filter λw=>w.op==70):=by
 unfold pW tks;rw[x6];rfl
theorem LP(sz:Int):∀(n:Nat)(a:Ad),(a.wn.map (·.task)++tks a.Q).Nodup->((dR sz n a).wn.map (·.task)++tks (dR sz n a).Q).Nodup
 | 0,a,h=>h
 |n+1,a,h=>by
  unfold dR;by_cases hc:cx a.Q<0\/fl sz a.C a.Q=true
  .rw[aN hc];exact h
  .rw[aF hc]
   rcases u6 a.Q with⟨h1,_⟩ |⟨A,B,w,hQ,hp,cN⟩
   .exact absurd (.inl (by omega)) hc
   .have e:((A.length:Int)).toNat=A.length:=by omega
    have hg:a.Q[(cx a.Q).toNat]?=some w:=by rw[hp,e,hQ];simp
    rw[hg];simp only;apply LP sz n;simp only[Ad.step];have e1:Q1 a.Q=A++B:=by rw[hQ];exact u7 (by rw[<-hQ];exact hp)
    rw[e1];rw[nZ,cR,S9,jX];rw[hQ]at h;have ED:(tks ((A++B).filter λw=>w.op==70)++tks (pO (A++B))).Perm (tks (A++B)):=by
     unfold tks pO;rw[<-List.map_append];exact(List.filter_append_perm (λw:W=>w.op==70) (A++B)).map _
    have Ta:(w.task::tks ((A++B).filter λw=>w.op==70)++tks (pO (A++B))).Perm (tks (A++w::B)):=by
     have h1:(w.task::(tks ((A++B).filter λw=>w.op==70)++tks (pO (A++B)))).Perm (w.task::tks (A++B)):=ED.cons _
     refine h1.trans ?_;unfold tks;rw[nZ,nZ,cR];exact List.perm_middle.symm
    exact((List.Perm.append_left _ Ta).nodup_iff).2 h
theorem LQ{s:S}{t op v p n:Int}(h:eY s t op v p n=0):∀w∈s.Q,w.task≠t:=by
 unfold eY at h;split at h
 .cases h
 .split at h
  .cases h
  .split at h
   .cases h
   .split at h
    .cases h
    .rename_i h4
     intro w hw e;apply h4;exact qI.2 ⟨w,hw,by simpa using e⟩
theorem Tb{Q:List W}{w:W}(h:(tks Q).Nodup)(hw:∀x∈Q,x.task≠w.task):(tks (Q++[w])).Nodup:=by
 unfold tks at *;rw[nZ,fA];refine⟨h,by simp,?_⟩
 intro a ha b hb;simp at hb;subst hb;obtain⟨x,hx,rfl⟩:=dz.1 ha;exact hw x hx
def Ad.Dk(L M:Nat)(a:Ad):Prop:=(∀c∈a.C,(c.nl=true->c.log=[])/\c.log.length+a.Q.length<=L)/\a.Q.length+a.wn.length<=M/\(a.qn=true->a.Q=[])
theorem Ad.Tc{L M:Nat}{a:Ad}{A B:List W}{w:W}(hQ:a.Q=A++w::B)(h:cx a.Q=(A.length:Int))(hok:a.Dk L M):(a.step w).Dk L M:=by
 obtain⟨hC,hw,u9⟩:=hok;have jC:Q1 a.Q=A++B:=by rw[hQ];exact u7 (by rw[<-hQ];exact h)
 have hl:=xl (A++B);have fM:=xj w.value (A++B);have xm:a.Q.length=A.length+(B.length+1):=by rw[hQ];simp
 simp only[eC]at hl fM;refine⟨?_,?_,?_⟩
 .intro c eZ
  simp only[Ad.step]at eZ⊢;obtain⟨c0,hc0,rfl⟩:=dz.1 eZ;have:=hC c0 hc0;rw[jC]at *;unfold cW;split
  .exact⟨this.1,by omega⟩
  .refine⟨by simp,?_⟩
   simp only[eC,tU];omega
 .simp only[Ad.step,eC,fT]
  rw[jC];omega
 .simp[Ad.step]
theorem LR(L M:Nat)(sz:Int):∀(n:Nat)(a:Ad),a.Dk L M->(dR sz n a).Dk L M
 | 0,a,h=>h
 |n+1,a,h=>by
  unfold dR;split
  .exact h
  .rename_i hn
   rcases u6 a.Q with⟨h1,_⟩ |⟨A,B,w,hQ,hp,_⟩
   .exfalso;apply hn;left;omega
   .have e:((A.length:Int)).toNat=A.length:=by omega
    have hg:a.Q[(cx a.Q).toNat]?=some w:=by rw[hp,e,hQ];simp
    rw[hg];exact LR L M sz n _ (Ad.Tc hQ hp h)
structure S.mZ(s:S)(q c l:Nat):Prop where
 h:s.H.length<=1000
 b:s.B.length<=1000
 q:s.Q.length<=q
 c:s.C.length<=c
 l:∀c∈s.C,(c.nl=true->c.log=[])/\c.log.length<=l
 qn:s.qn=true->s.Q=[]
 cn:s.cn=true->s.C=[]
theorem S.mZ.wf{s:S}{q c l:Nat}(h:s.mZ q c l)(h1:q<=1000)(h2:c<=1000)(h3:l<=1000):s.wf :=
 ⟨h.h,h.b,by have:=h.q;omega,by have:=h.c;omega,λc hc=>by have:=h.l c hc;exact⟨this.1,by omega⟩,h.qn,h.cn⟩
theorem S.mZ.mono{s:S}{q c l q' c' l':Nat}(h:s.mZ q c l)(h1:q<=q')(h2:c<=c')(h3:l<=l'):s.mZ q' c' l' :=
 ⟨h.h,h.b,by have:=h.q;omega,by have:=h.c;omega,λc hc=>by have:=h.l c hc;exact⟨this.1,by omega⟩,h.qn,h.cn⟩
theorem Hu{s:S}(sz:Int)(qn:Bool)(Q:List W)(C:List K){q c l:Nat}(h1:s.H.length<=1000)(h2:s.B.length<=1000)(hq:Q.length<=q)(hc:C.length<=c)(hl:∀c∈C,(c.nl=true->c.log=[])/\c.log.length<=l)(u9:qn=true->Q=[])(lV:s.cn=true->C=[]):
  (s.put (aT sz qn Q C)).mZ q c (l+q)/\(aT sz qn Q C).wn.length<=q:=by
 obtain⟨o1,o2,o3⟩:=LR (l+q) q sz (Q.length+1) ⟨qn,Q,C,[]⟩ ⟨λc hc=>by have:=hl c hc;exact⟨this.1,by simp only;omega⟩,by simp;omega,u9⟩
 have hlen:(aT sz qn Q C).C.length=C.length:=rO sz _ _;change ∀c∈(aT sz qn Q C).C,(c.nl=true->c.log=[])/\c.log.length+(aT sz qn Q C).Q.length<=l+q at o1;change(aT sz qn Q C).Q.length+(aT sz qn Q C).wn.length<=q at o2;change(aT sz qn Q C).qn=true->(aT sz qn Q C).Q=[]at o3;refine⟨⟨h1,h2,by simp only;omega,by simp only;omega,λc hc=>⟨(o1 c hc).1,by have:=(o1 c hc).2;omega⟩,o3,?_⟩,by omega⟩
 intro h;have e:=lV h
 have:(aT sz qn Q C).C.length=0:=by rw[hlen,e];rfl
 exact o7.1 this
theorem LS{l:List Wk}{t:Int}{x:Int×List Wk}(h:got l t=some x):x.2.length<=l.length:=by
 unfold got at h;split at h
 .cases h
 .cases hg:l[(nS l t).toNat]? with
  |none=>rw[hg]at h;cases h
  |some w =>
   rw[hg]at h;simp at h;rw[<-h];exact(vI l _).length_le
def Rp.mZ(r:Rp)(q c l:Nat):Prop:=r.st.mZ q c l/\r.wn.length<=q
theorem Hv(q c l:Nat):jD.mZ q c l:=by
 refine⟨⟨by simp[jD,S0],by simp[jD,S0],by simp[jD,S0],by simp[jD,S0],by simp[jD,S0],by simp[jD,S0],by simp[jD,S0]⟩,by simp[jD]⟩
theorem Td{C:List K}{t:Int}{c:K}(h:c∈gR C t):c=⟨t,true,[]⟩\/c∈C:=by
 unfold gR at h;rw[aL,aY]at h;rcases h with h |h |h
 .exact .inr (lC h)
 .exact .inl h
 .exact .inr (lD h)
theorem Te(C:List K)(t:Int):(gR C t).length=C.length+1:=by
 have:=LF C t;simp[gR];omega
theorem Ac{C:List K}{t:Int}{c:K}(h:iO C t=some c):c∈C:=List.mem_of_find?_eq_some h
theorem LU{k sz ot:Int}{s:S}{t op v p n:Int}{q c l:Nat}(h:s.mZ q c l):(ap k sz ot s t op v p n).1.mZ (q+1) (c+1) (l+q+1):=by
 unfold ap;by_cases hc:gJ k sz ot s=0
 .by_cases he:eY s t op v p n=0
  .simp only[hc,he,ne_eq,AW,cB]
   by_cases k7:op=69
   .simp only[k7,aU]
    refine⟨⟨h.h,h.b,by have:=h.q;simp only;omega,by have:=h.c;simp only[Te];omega,?_,h.qn,by simp⟩,by simp⟩
    intro d hd;rcases Td hd with rfl |hd
    .exact⟨by simp,by simp⟩
    .have:=h.l d hd;exact⟨this.1,by omega⟩
   .simp only[k7,cB]
    by_cases k8:op=71
    .simp only[k8,aU]
     have hk:=Hu (s:=s) sz s.qn s.Q (del s.C t) h.h h.b h.q (c:=c) (l:=l) (by have:=h.c;have:=(vI s.C (gI s.C t).toNat).length_le;unfold del;omega)
      (λd hd=>h.l d (List.mem_of_mem_eraseIdx hd)) h.qn (λe=>by unfold del;rw[h.cn e];rfl)
     exact⟨hk.1.mono (by omega) (by omega) (by omega),by have:=hk.2;simp only;omega⟩
    .simp only[k8,cB]
     by_cases cN:op=68
     .simp only[cN,aU]
      split
      .refine⟨⟨h.h,h.b,by have:=h.q;simp;omega,by have:=h.c;simp only;omega,?_,by simp,h.cn⟩,by simp⟩
       intro d hd;have:=h.l d hd;exact⟨this.1,by omega⟩
      .have h1:=xj v s.Q
       refine⟨⟨h.h,h.b,by have:=h.q;simp only;omega,by have:=h.c;simp;omega,?_,by simp,λe=>by simp only;rw[h.cn e];rfl⟩,by have:=h.q;simp only;omega⟩
       intro d hd;obtain⟨c0,hc0,rfl⟩:=dz.1 hd;have:=h.l c0 hc0;unfold cW;split
       .exact⟨this.1,by omega⟩
       .refine⟨by simp,?_⟩
        simp only[eC,tU];omega
     .simp only[cN,cB]
      cases hk:iO s.C t with
      |none=>exact Hv _ _ _
      |some c0 =>
       simp only;have eZ:=Ac hk;cases gf:c0.log with
       |cons x lg =>
        simp only;have hk:=Hu (s:=s) sz s.qn s.Q (s.C.set (gI s.C t).toNat ⟨c0.task,false,lg⟩) h.h h.b h.q (c:=c) (l:=l) (by have:=h.c;simp;omega) (by
         intro d hd;rcases IX hd with hd |rfl
         .exact h.l d hd
         .refine⟨by simp,?_⟩
          have:=(h.l c0 eZ).2;rw[gf]at this;simp at this⊢;omega) h.qn (λe=>by have:=h.cn e;rw[this]at eZ;cases eZ)
        exact⟨hk.1.mono (by omega) (by omega) (by omega),by have:=hk.2;simp only;omega⟩
       |nil =>
        simp only;have hk:=Hu (s:=s) sz false (s.Q++[W.mk t op 0 p (-1)]) s.C (q:=q+1) h.h h.b (by have:=h.q;simp;omega) h.c h.l (by simp) h.cn
        cases hg:got (aT sz false (s.Q++[W.mk t op 0 p (-1)]) s.C).wn t with
        |none=>exact⟨hk.1.mono (by omega) (by omega) (by omega),hk.2⟩
        |some y=>exact⟨hk.1.mono (by omega) (by omega) (by omega),by have:=LS hg;have:=hk.2;simp only;omega⟩
  .simp[hc,he]
   exact Hv _ _ _
 .simp[hc]
  exact Hv _ _ _
theorem Tf(t op v:Int):ev P (.call sX [.d (I' t),.d (I' op),.d (I' v)] [])=some (.val (.d (.ag [I' t,I' op,I' v,I' 0,I' 0])) []):=by
 rw[bD QY rfl];simp[Gz]
def s0:S:=⟨-1,0,0,true,[],true,[],true,[],true,[],false,0⟩
abbrev Cl:=Int×Int×Int
def Cl.row(c:Cl):List D:=[I' c.1,I' c.2.1,I' c.2.2,I' 0,I' 0]
def cls:List Cl:=[(1,69,0),(2,69,0),(2,70,0),(3,68,7),(3,68,8)]
def runs:List Cl->S->Rp->Option (S×Rp)
 | [],s,r=>some (s,r)
 |c::l,s,_=>if(ap 7 1 0 s c.1 c.2.1 c.2.2 0 0).2=0 then runs l (ap 7 1 0 s c.1 c.2.1 c.2.2 0 0).1.st (ap 7 1 0 s c.1 c.2.1 c.2.2 0 0).1 else none
theorem Tg(s':S)(r':Rp):∀(suf pre:List Cl)(s:S)(r:Rp),cls=pre++suf->s.mZ (pre.length) (pre.length) (pre.length*10)->runs suf s r=some (s',r') ->
  ev P (.loop 0 [1,2,3,4,24,25,26] CC [(1,.d (.ref [.s [],I' 7,I' 1,I' 0])),(2,.loc 0 0 0),(3,.d (I' 0)),(4,.loc 1 0 0),(24,.d (.sl 5 false (cls.map Cl.row))),(25,.d (I' 5)),(26,.d (I' pre.length))] [.an 9 true [s.row],.an 13 true [r.row]]) =
   some (.out (.exit 0) [(1,.d (.ref [.s [],I' 7,I' 1,I' 0])),(2,.loc 0 0 0),(3,.d (I' 0)),(4,.loc 1 0 0)] [.an 9 true [s'.row],.an 13 true [r'.row]]):=by
 intro suf;induction suf with
 |nil =>
  intro pre s r hl _ hr
  have:pre.length=5:=by
   have:pre=cls:=by simpa using hl.symm
   rw[this];rfl
  simp[runs]at hr;obtain⟨rfl,rfl⟩:=hr;rw[cq]
  conv=>lhs;arg 4;unfold CC
  simp[this,aQ,cut,aZ]
 |cons c suf ih =>
  intro pre s r hl hw hr;have h5:cls.length=5:=rfl;have qZ:pre.length<5:=by rw[<-h5,hl];simp
  have hg:cls[pre.length]?=some c:=by rw[hl];simp
  have tA:cls[pre.length]'(by omega)=c:=by simpa[lH (show pre.length<cls.length by omega)]using hg
  have hlt:(pre.length:Int)<5:=by omega
  have hnext:IntKind.i64.wrap ((pre.length:Int)+1)=pre.length+1:=wrap_i64 (by omega) (by omega)
  unfold runs at hr;split at hr
  .rename_i h0
   have hA:=Hr (.s []) 7 1 0 s (hw.wf (by omega) (by omega) (by omega)) c.1 c.2.1 c.2.2 0 0
   rw[h0]at hA;have kr:=(LU (k:=7) (sz:=1) (ot:=0) (t:=c.1) (op:=c.2.1) (v:=c.2.2) (p:=0) (n:=0) hw).1;have cV:=ih (pre++[c]) _ _ (by simp[hl]) (kr.mono (by simp) (by simp) (by simp;omega)) hr
   rw[<-cV];refine eqv λR hR=>?_
   generalize ap 7 1 0 s c.1 c.2.1 c.2.2 0 0=x at *;rw[cq]
   conv=>lhs;arg 4;unfold CC
   simp at hR;simp[hlt,hg,tA,Cl.row,hA,hnext,aQ,cut,aZ,hR]
   done
  .cases hr
theorem Hw:ev P (.call Cd [] [])=some (.val (.d (.b true)) []):=by
 have hN:=tg (.s []) 7 1 0;have k0:jA 7 1 0=0:=by decide
 rw[k0]at hN;simp[l6]at hN;obtain⟨r',hr,hp⟩:∃r',runs cls s0 jD=some (⟨-1,0,0,true,[],false,[⟨3,68,8,0,-1⟩],true,[],false,[⟨1,false,[7]⟩,⟨2,true,[]⟩],false,0⟩,r')/\r'.parked=true:=⟨_,rfl,rfl⟩;have hL:=Tg _ r' cls [] s0 jD rfl ⟨by simp[s0],by simp[s0],by simp[s0],by simp[s0],by simp[s0],by simp[s0],by simp[s0]⟩ hr
 have hA:=Hr (.s []) 7 1 0 ⟨-1,0,0,true,[],false,[⟨3,68,8,0,-1⟩],true,[],false,[⟨1,false,[7]⟩,⟨2,true,[]⟩],false,0⟩ ⟨by simp,by simp,by simp,by simp,by simp,by simp,by simp⟩ 1 70 0 0 0
 obtain⟨x,hx,h0,hv,hok,hwn,gV,fM,dO⟩:∃x,ap 7 1 0 ⟨-1,0,0,true,[],false,[⟨3,68,8,0,-1⟩],true,[],false,[⟨1,false,[7]⟩,⟨2,true,[]⟩],false,0⟩ 1 70 0 0 0=x/\x.2=0/\x.1.value=7/\x.1.ok=true/\x.1.wn=[⟨3,68,0⟩]/\xy x.1.st.C 1=(1,0)/\xy x.1.st.C 2=(1,0)/\x.1.st.C.length=2:=⟨_,rfl,rfl,rfl,rfl,rfl,rfl,rfl,rfl⟩;rw[hx,h0]at hA;have iW:=LN (I' x.1.st.own) (I' x.1.st.cnt) (I' x.1.st.time) (hD x.1.st.hn x.1.st.H) (qD x.1.st.qn x.1.st.Q) (hD x.1.st.bn x.1.st.B) (.b x.1.st.cl) (I' x.1.st.val) x.1.st.cn x.1.st.C 1 (by omega)
 have mh:=LN (I' x.1.st.own) (I' x.1.st.cnt) (I' x.1.st.time) (hD x.1.st.hn x.1.st.H) (qD x.1.st.qn x.1.st.Q) (hD x.1.st.bn x.1.st.B) (.b x.1.st.cl) (I' x.1.st.val) x.1.st.cn x.1.st.C 2 (by omega)
 rw[gV]at iW;rw[fM]at mh;clear hx hr;obtain⟨⟨xs,xp,xv,xo,xk,xw⟩,xe⟩:=x;obtain⟨rs,rp,rv,ro,rk,rw'⟩:=r';simp only at hp hv hok hwn hA iW mh;subst hp hv hok hwn;simp[cls,Cl.row,s0,jD,S0,S.row,Rp.row,hD,qD,cD,kD,rN,K.row,W.row]at hL;simp only[S.row,Rp.row,hD,qD,cD,kD,rN,cR,jF,K.row,W.row,Wk.row]at hA;rw[bD QU rfl];simp[Gx,Tf,hN,hL,hA,iW,mh,gk,bO,bS,V.cC,aQ,cut,aZ,cK,dM,Wk.row]
 done
def Hx(sz:Int)(p:Option K)(C:List K):Prop:=C.Pairwise (λa b=>a.task<b.task)/\(∀c∈C,0<=c.task/\c.task<16/\(c.log.length:Int)<=sz/\c.log.all num=true)/\∀x∈p,∀c∈C,x.task<c.task
theorem LV{sz:Int}:∀(C:List K)(p:Option K),vc sz p C=true↔Hx sz p C
 | [],p=>by simp[vc,Hx]
 |c::C,p=>by
  have e1:vc sz p (c::C)=(!jS sz p c&&(c.log.all num&&vc sz (some c) C)):=rfl;have ek:jS sz p c=false↔(0<=c.task/\c.task<16/\(c.log.length:Int)<=sz/\∀x∈p,x.task<c.task):=by
   unfold jS;cases p with
   |none=>simp;omega
   |some q=>simp;omega
  rw[e1];simp only[aA,lF,ek,LV C (some c)];unfold Hx;simp only[r6,aY,forall_eq_or_imp,Option.mem_def,bF,forall_eq'];constructor
  .rintro⟨⟨a1,a2,a3,a4⟩,b,c1,c2,c3⟩
   exact⟨⟨c3,c1⟩,⟨⟨a1,a2,a3,b⟩,c2⟩,λx hx=>⟨a4 x hx,λd hd=>by have:=a4 x hx;have:=c3 d hd;omega⟩⟩
  .rintro⟨⟨c3,c1⟩,⟨⟨a1,a2,a3,b⟩,c2⟩,h⟩
   exact⟨⟨a1,a2,a3,λx hx=>(h x hx).1⟩,b,c1,c2,c3⟩
structure jU(sz:Int)(C:List K):Prop where
 pw:C.Pairwise (λa b=>a.task<b.task)
 el:∀c∈C,0<=c.task/\c.task<16/\(c.log.length:Int)<=sz/\c.log.all num=true
theorem Th{sz:Int}{C:List K}:vc sz none C=true↔jU sz C:=by
 rw[LV];exact⟨λh=>⟨h.1,h.2.1⟩,λh=>⟨h.pw,h.el,by simp⟩⟩
structure lq(sz:Int)(Q:List W)(C:List K):Prop where
 gZ:jU sz C
 val:∀w∈Q,mR w=true
 len:Q.length<=96
 nd:(tks Q).Nodup
 cs:∀w∈Q,w.case = -1/\(w.op=70/\nR C w=true\/w.op=68)
def Gd(sz:Int)(Q:List W)(C:List K):Prop:=lq sz Q C/\((∃w∈Q,w.op=68)->fl sz C Q=true)
theorem LW:∀(l:List W)(p:Option W),l5 1 p l=0↔∀w∈l,mR w=true
 | [],p=>by simp[l5]
 |w::l,p=>by
  unfold l5;cases hv:mR w
  .simp[hv]
  .simp[hv,LW l]
theorem Ti{Q:List W}:qt Q=0↔Q.length<=96/\∀w∈Q,mR w=true:=by
 unfold qt;by_cases h:96<Q.length
 .rw[aN h]
  constructor
  .intro h;cases h
  .intro h';omega
 .rw[aF h,LW]
  constructor
  .intro h';exact⟨by omega,h'⟩
  .intro h';exact h'.2
theorem LX{sz:Int}{C:List K}{Q:List W}:∀(suf pre:List W),tq sz C Q pre suf=true ↔
  ((∀x∈pre,∀w∈suf,x.task≠w.task)/\(tks suf).Nodup/\∀w∈suf,w.case = -1/\l7 sz C Q w=true)
 | [],pre=>by simp[tq,tks]
 |w::suf,pre=>by
  have e1:tq sz C Q pre (w::suf)=(!pre.any (λx=>x.task==w.task)&&(w.case == -1&&(l7 sz C Q w&&tq sz C Q (pre++[w]) suf))):=rfl
  have e2:(!pre.any (λx=>x.task==w.task))=true↔∀x∈pre,x.task≠w.task:=by simp
  rw[e1];simp only[aA,e2,LX suf (pre++[w]),bN];have e3:(tks (w::suf)).Nodup↔(∀x∈suf,w.task≠x.task)/\(tks suf).Nodup:=by
   unfold tks;rw[cR,cy];simp only[dz,not_exists,not_and];constructor
   .rintro⟨a,b⟩;exact⟨λx hx e=>a x hx e.symm,b⟩
   .rintro⟨a,b⟩;exact⟨λx hx e=>a x hx e.symm,b⟩
  rw[e3];simp only[aL,aY,rY,tT,forall_eq_or_imp];constructor
  .rintro⟨a,b,c,d,e,f⟩
   exact⟨λx hx=>⟨a x hx,λy hy=>d x (.inl hx) y hy⟩,⟨λy hy=>d w (.inr rfl) y hy,e⟩,⟨b,c⟩,f⟩
  .rintro⟨a,⟨b,c⟩,⟨d,e⟩,f⟩
   exact⟨λx hx=>(a x hx).1,d,e,λx hx y hy=>by
    rcases hx with hx |rfl
    .exact(a x hx).2 y hy
    .exact b y hy,c,f⟩
theorem LY{sz:Int}{s:S}:s.good sz=true↔(s.own = -1/\s.zP=false/\Gd sz s.Q s.C):=by
 unfold S.good Gd;simp only[aA,bN,lF,Th,Ti,LX];constructor
 .rintro⟨⟨a,b,⟨c,d⟩,_,e,f⟩,g⟩
  refine⟨a,g,⟨b,d,c,e,?_⟩,?_⟩
  .intro w hw
   obtain⟨h1,h2⟩:=f w hw;refine⟨h1,?_⟩;unfold l7 at h2;by_cases iz:w.op=70
   .rw[aN iz]at h2;exact .inl ⟨iz,h2⟩
   .rw[aF iz]at h2
    by_cases cN:w.op=68
    .exact .inr cN
    .rw[aF cN]at h2;cases h2
  .rintro⟨w,hw,cN⟩
   obtain⟨_,h2⟩:=f w hw;simpa[l7,cN]using h2
 .rintro⟨a,g,⟨b,d,c,e,f⟩,h⟩
  refine⟨⟨a,b,⟨c,d⟩,by simp,e,?_⟩,g⟩
  intro w hw;obtain⟨h1,h2⟩:=f w hw;refine⟨h1,?_⟩;rcases h2 with⟨iz,h2⟩ |cN
  .simp[l7,iz,h2]
  .simp[l7,cN,h ⟨w,hw,cN⟩]
theorem Tj{n:Int}:num n=true↔-1099511627776<=n/\n<=1099511627776:=by
 unfold num;simp
theorem Tk{w:W}(h:mR w=true):num w.value=true:=by
 unfold mR zM at h;simp at h;rw[Tj];omega
theorem Dl{Q:List W}{w:W}(h:w∈pO Q):w∈Q/\w.op≠70:=by
 unfold pO at h;rw[lA]at h;simpa using h
theorem LZ{sz:Int}{C:List K}{f:K->K}(h:jU sz C)(ht:∀c,(f c).task=c.task)(hf:∀c∈C,((f c).log.length:Int)<=sz/\(f c).log.all num=true):jU sz (C.map f):=by
 refine⟨?_,?_⟩
 .rw[List.pairwise_map]
  exact h.pw.imp (fun{a b} hab=>by rw[ht,ht];exact hab)
 .intro c hc
  obtain⟨c0,hc0,rfl⟩:=dz.1 hc;have:=h.el c0 hc0;rw[ht];exact⟨this.1,this.2.1,hf c0 hc0⟩
theorem Dm(Q:List W)(v:Int)(c:K):(cW Q v c).task=c.task:=by
 unfold cW;split<;>rfl
theorem lq.step{sz:Int}{Q A B:List W}{C:List K}{w:W}(h:lq sz Q C)(hQ:Q=A++w::B)(cN:w.op=68)(hf:fl sz C Q=false):lq sz (pO (A++B)) (C.map (cW (A++B) w.value)):=by
 have hfit:fits sz C:=λc hc=>(h.gZ.el c hc).2.2.1
 have hfs:=S8 hQ cN hf hfit;have vg:num w.value=true:=Tk (h.val w (by rw[hQ];simp))
 have hsub:∀x∈A++B,x∈Q:=by
  intro x hx;rw[hQ];rw[aL]at hx;rcases hx with hx |hx<;>simp[hx]
 refine⟨LZ h.gZ (Dm _ _) ?_,?_,?_,?_,?_⟩
 .intro c hc
  refine⟨hfs _ (dz.2 ⟨c,hc,rfl⟩),?_⟩;have:=(h.gZ.el c hc).2.2.2;unfold cW;split
  .exact this
  .simp only[List.all_append,this,qF,vg,List.all_nil,Bool.and_self]
 .intro x hx
  exact h.val x (hsub x (Dl hx).1)
 .have h1:=xl (A++B)
  have h2:=h.len;rw[hQ]at h2;simp at h1 h2;omega
 .exact S6 (LO (by rw[<-hQ];exact h.nd))
 .intro x hx
  obtain⟨hx1,zJ⟩:=Dl hx;obtain⟨a,b⟩:=h.cs x (hsub x hx1);refine⟨a,?_⟩;rcases b with⟨b,_⟩ |b
  .exact absurd b zJ
  .exact .inr b
theorem Tl{Q:List W}(h:cx Q<0):¬∃w∈Q,w.op=68:=by
 have:=Se (Q:=Q);rw[decide_eq_true h]at this;rintro⟨w,hw,cN⟩;have h2:(Q.any λw=>w.op==68)=true:=qI.2 ⟨w,hw,by simpa using cN⟩
 rw[h2]at this;cases this
theorem L0(sz:Int):∀(n:Nat)(a:Ad),a.Q.length<n->lq sz a.Q a.C->Gd sz (dR sz n a).Q (dR sz n a).C
 | 0,a,hn,_=>by omega
 |n+1,a,hn,h=>by
  unfold dR;by_cases hc:cx a.Q<0\/fl sz a.C a.Q=true
  .rw[aN hc]
   refine⟨h,?_⟩;intro he;rcases hc with hc |hc
   .exact absurd he (Tl hc)
   .exact hc
  .rw[aF hc]
   rcases u6 a.Q with⟨h1,_⟩ |⟨A,B,w,hQ,hp,cN⟩
   .exact absurd (.inl (by omega)) hc
   .have e:((A.length:Int)).toNat=A.length:=by omega
    have hg:a.Q[(cx a.Q).toNat]?=some w:=by rw[hp,e,hQ];simp
    have e1:Q1 a.Q=A++B:=by rw[hQ];exact u7 (by rw[<-hQ];exact hp)
    have hf:fl sz a.C a.Q=false:=by
     cases h:fl sz a.C a.Q
     .rfl
     .exact absurd (.inr h) hc
    rw[hg];simp only;refine L0 sz n _ ?_ ?_
    .simp only[Ad.step,e1]
     have h1:=xl (A++B);have h2:a.Q.length=A.length+(B.length+1):=by rw[hQ];simp
     simp at h1;omega
    .simp only[Ad.step,e1]
     exact h.step hQ cN hf
theorem Hy{sz:Int}{qn:Bool}{Q:List W}{C:List K}(h:lq sz Q C):Gd sz (aT sz qn Q C).Q (aT sz qn Q C).C:=L0 sz _ _ (by simp) h
theorem Dn{Q:List W}{t op:Int}:eX Q t op=true↔∃w∈Q,w.task=t/\w.op=op:=by
 unfold eX;rw[qI];simp
theorem L3{sz:Int}{C C':List K}{Q Q':List W}(h:fl sz C Q=true)(hC:∀c∈C,c∈C')(hQ:∀w∈Q',w.op=70->w∈Q\/∀c∈C,c.task≠w.task):fl sz C' Q'=true:=by
 unfold fl at *;rw[qI]at *;obtain⟨c,hc,h1⟩:=h;refine⟨c,hC c hc,?_⟩;simp only[aA,lF]at h1⊢;refine⟨h1.1,?_⟩;cases hw:eX Q' c.task 70
 .rfl
 .exfalso
  obtain⟨w,Tm,ht,ho⟩:=Dn.1 hw;rcases hQ w Tm ho with h2 |h2
  .have:eX Q c.task 70=true:=Dn.2 ⟨w,h2,ht,ho⟩
   rw[h1.2]at this;cases this
  .exact h2 c hc ht.symm
theorem vh{C:List K}{t:Int}{c:K}(h:iO C t=some c):c.task=t:=by
 have:=Es h;simpa using this
theorem jU.uniq{sz:Int}{C:List K}(h:jU sz C){a b:K}(ha:a∈C)(hb:b∈C)(e:a.task=b.task):a=b:=by
 have hp:=h.pw;induction C with
 |nil=>cases ha
 |cons x C ih =>
  rw[r6]at hp;rcases aY.1 ha with ha |ha
  .rcases aY.1 hb with hb |hb
   .rw[ha,hb]
   .have:=hp.1 b hb
    rw[ha]at e;omega
  .rcases aY.1 hb with hb |hb
   .have:=hp.1 a ha
    rw[hb]at e;omega
   .exact ih ⟨hp.2,λc hc=>h.el c (by simp[hc])⟩ ha hb hp.2
theorem jU.iO{sz:Int}{C:List K}(h:jU sz C){c:K}(hc:c∈C):iO C c.task=some c:=by
 cases hk:Tp.iO C c.task with
 |none =>
  unfold Tp.iO at hk;rw[Jh]at hk;have:=hk c hc;simp at this
 |some d=>rw[h.uniq (Ac hk) hc (vh hk)]
theorem Tn{sz:Int}{C:List K}(h:jU sz C){t:Int}{c:K}:Tp.iO C t=some c↔c∈C/\c.task=t:=by
 constructor
 .intro hk;exact⟨Ac hk,vh hk⟩
 .rintro⟨h1,rfl⟩;exact h.iO h1
theorem xz{sz:Int}{C:List K}(h:jU sz C){w:W}:nR C w=true↔(∃c∈C,c.task=w.task/\c.log=[])/\w.value=0:=by
 unfold nR;cases hk:Tp.iO C w.task with
 |none =>
  simp;rintro c hc ht;exfalso;rw[<-ht,h.iO hc]at hk;cases hk
 |some c =>
  have e:(!decide (0<c.log.length)&&w.value==0)=true↔c.log=[]/\w.value=0:=by simp
  simp only[e];constructor
  .rintro⟨a,b⟩;exact⟨⟨c,Ac hk,vh hk,a⟩,b⟩
  .rintro⟨⟨d,hd,ht,hl⟩,b⟩
   refine⟨?_,b⟩
   have:Tp.iO C w.task=some d:=(Tn h).2 ⟨hd,ht⟩
   rw[hk]at this;cases this;exact hl
theorem Dp{k sz ot:Int}{s:S}:gJ k sz ot s=0↔jA k sz ot=0/\s.own = -1/\s.zP=false/\Gd sz s.Q s.C:=by
 constructor
 .intro h
  obtain⟨a,b⟩:=S5 h;exact⟨a,LY.1 b⟩
 .rintro⟨a,b⟩
  unfold gJ;rw[aN a,aN (LY.2 b)]
theorem vi{k sz ot:Int}{s:S}{qn cn:Bool}{Q:List W}{C:List K}(h:gJ k sz ot s=0)(hg:Gd sz Q C):gJ k sz ot {s with qn:=qn,Q:=Q,cn:=cn,C:=C}=0:=by
 rw[Dp]at *;exact⟨h.1,h.2.1,h.2.2.1,hg⟩
theorem lq.snoc{sz:Int}{Q:List W}{C:List K}(h:lq sz Q C){w:W}(hv:mR w=true)(hl:Q.length<=95)(ht:∀x∈Q,x.task≠w.task)(hc:w.case = -1/\(w.op=70/\nR C w=true\/w.op=68)):lq sz (Q++[w]) C:=by
 refine⟨h.gZ,?_,by simp;omega,Tb h.nd ht,?_⟩
 .intro x hx
  rw[aL,lG]at hx;rcases hx with hx |rfl
  .exact h.val x hx
  .exact hv
 .intro x hx
  rw[aL,lG]at hx;rcases hx with hx |rfl
  .exact h.cs x hx
  .exact hc
theorem lq.Ae{sz:Int}{Q:List W}{C C':List K}(h:lq sz Q C)(hs:jU sz C')(hm:∀w∈Q,∀c∈C,c.task=w.task->c∈C'):lq sz Q C':=by
 refine⟨hs,h.val,h.len,h.nd,?_⟩;intro w hw;obtain⟨a,b⟩:=h.cs w hw;refine⟨a,?_⟩;rcases b with⟨b,hn⟩ |b
 .refine .inl ⟨b,?_⟩
  obtain⟨⟨c,hc,ht,hl⟩,hv⟩:=(xz h.gZ).1 hn;exact(xz hs).2 ⟨⟨c,hm w hw c hc ht,ht,hl⟩,hv⟩
 .exact .inr b
theorem L4{sz:Int}{C C':List K}(h:jU sz C)(hs:C'.Sublist C):jU sz C':=⟨h.pw.sublist hs,λc hc=>h.el c (hs.subset hc)⟩
theorem L5{sz:Int}{A B:List K}{c d:K}(h:jU sz (A++c::B))(ht:d.task=c.task)(hd:(d.log.length:Int)<=sz/\d.log.all num=true):jU sz (A++d::B):=by
 have oP:=h.pw;rw[vN,r6]at oP;refine⟨?_,?_⟩
 .rw[vN,r6]
  refine⟨oP.1,⟨λx hx=>by rw[ht];exact oP.2.1.1 x hx,oP.2.1.2⟩,?_⟩
  intro a ha b hb;rcases aY.1 hb with rfl |hb
  .rw[ht];exact oP.2.2 a ha c (by simp)
  .exact oP.2.2 a ha b (by simp[hb])
 .intro x hx
  rw[aL,aY]at hx;rcases hx with hx |rfl |hx
  .exact h.el x (by simp[hx])
  .have:=h.el c (by simp)
   rw[ht];exact⟨this.1,this.2.1,hd⟩
  .exact h.el x (by simp[hx])
theorem To{C:List K}{t:Int}(h:¬0<=gI C t):∀c∈C,c.task≠t:=by
 rcases Dd C t with⟨_,h2⟩ |⟨i,c,h1,_,_⟩
 .unfold iO at h2
  rw[Jh]at h2;intro c hc e;exact h2 c hc (by simpa using e)
 .exact absurd (by omega) h
theorem Tq{sz:Int}{C:List K}{t:Int}(h:jU sz C)(hz:0<=sz)(ht:0<=t/\t<16)(hn:∀c∈C,c.task≠t):jU sz (gR C t):=by
 have hsp:C.take (gh C t)=C.takeWhile (λc=>decide (c.task<t))/\C.drop (gh C t)=C.dropWhile (λc=>decide (c.task<t)):=by
  have e:=List.takeWhile_append_dropWhile (p:=λc:K=>decide (c.task<t)) (l:=C)
  constructor
  .conv=>lhs;arg 2;rw[<-e]
   exact tV rfl
  .conv=>lhs;arg 2;rw[<-e]
   exact List.drop_left' rfl
 have hA:∀a∈C.take (gh C t),a.task<t:=by
  rw[hsp.1];intro a ha;have:=jG.1 (List.all_takeWhile (p:=λc:K=>decide (c.task<t)) (l:=C)) a ha
  simpa using this
 have hB:∀b∈C.drop (gh C t),t<b.task:=by
  rw[hsp.2];intro b hb;cases hd:C.dropWhile (λc=>decide (c.task<t))with
  |nil=>rw[hd]at hb;cases hb
  |cons d D =>
   have hdt:¬d.task<t:=by
    have:=List.head?_dropWhile_not (λc:K=>decide (c.task<t)) C
    rw[hd]at this;simpa using this
   have L6:(d::D).Pairwise (λa b=>a.task<b.task):=by
    rw[<-hd];exact h.pw.sublist (Ji _)
   have Tr:d∈C:=(Ji (λc:K=>decide (c.task<t))).subset (by rw[hd];simp)
   have hdn:=hn d Tr;rw[hd]at hb;rcases aY.1 hb with rfl |hb
   .omega
   .rw[r6]at L6
    have:=L6.1 b hb;omega
 unfold gR;have oP:=h.pw;rw[<-List.take_append_drop (gh C t) C,vN]at oP;refine⟨?_,?_⟩
 .rw[vN,r6]
  refine⟨oP.1,⟨hB,oP.2.1⟩,?_⟩;intro a ha b hb;rcases aY.1 hb with rfl |hb
  .exact hA a ha
  .exact oP.2.2 a ha b hb
 .intro x hx
  rw[aL,aY]at hx;rcases hx with hx |rfl |hx
  .exact h.el x (lC hx)
  .exact⟨ht.1,ht.2,by simpa using hz,by simp⟩
  .exact h.el x (lD hx)
theorem Hz{C:List K}{t:Int}{c:K}(h:c∈C):c∈gR C t:=by
 unfold gR;rw[<-List.take_append_drop (gh C t) C,aL]at h;rw[aL,aY];rcases h with h |h
 .exact .inl h
 .exact .inr (.inr h)
theorem Ts{k sz ot:Int}(h:jA k sz ot=0):0<=sz/\sz<=100:=by
 unfold jA at h;split at h
 .cases h
 .split at h
  .cases h
  .rename_i h2
   simp at h2;omega
theorem Tt{t p n:Int}(h:th t p n=false):0<=t/\t<16:=by
 unfold th at h;simp at h;omega
theorem L7{s:S}{t v p n:Int}(h:eY s t 69 v p n=0):∀c∈s.C,c.task≠t:=by
 apply To;intro hk;unfold eY at h;split at h
 .cases h
 .split at h
  .cases h
  .split at h
   .cases h
   .split at h
    .cases h
    .split at h
     .cases h
     .rename_i h5
      simp at h5;omega
theorem Tu{k sz ot:Int}{s:S}{t op v p n:Int}(hc:gJ k sz ot s=0)(he:eY s t op v p n=0)(hq:s.Q.length<=90):gJ k sz ot (ap k sz ot s t op v p n).1.st=0:=by
 obtain⟨hm,_,_,hg,iZ⟩:=Dp.1 hc;have hfr:=LQ he;have hcb:=LL he;unfold ap;simp only[hc,he,ne_eq,AW,cB];by_cases k7:op=69
 .subst k7
  simp only[aU];have hnt:=L7 he;refine vi hc ⟨hg.Ae (Tq hg.gZ (Ts hm).1 (Tt hcb) hnt) (λw _ c hc _=>Hz hc),?_⟩
  intro h;exact L3 (iZ h) (λc hc=>Hz hc) (λw hw _=>.inl hw)
 .simp only[k7,cB]
  by_cases k8:op=71
  .subst k8
   simp only[aU];obtain⟨A,c,B,hS,l8,_⟩:=xu (xx he (.inl rfl));have uH:del s.C t=A++B:=by
    have eN:((A.length:Int)).toNat=A.length:=by omega
    unfold del;rw[l8,eN,hS,yg (by omega)]
    simp
   have jL:c.task=t:=by
    rename_i hk;exact vh hk
   rw[uH];refine vi hc (Hy (hg.Ae (L4 hg.gZ (by rw[hS];exact yc (pe A) (yd c B))) ?_))
   intro w hw d hd hdt;rw[hS,aL,aY]at hd;rw[aL];rcases hd with hd |rfl |hd
   .exact .inl hd
   .exact absurd (hdt.symm.trans jL) (hfr w hw)
   .exact .inr hd
  .simp only[k8,cB]
   by_cases cN:op=68
   .subst cN
    simp only[aU];have vg:=Ht (v:=v) (op:=68) hcb (by omega) (LM he)
    cases xA:(busy s.Q||fl sz s.C s.Q)
    .simp only[eD,cB]
     have hb:busy s.Q=false/\fl sz s.C s.Q=false:=by simpa using xA
     have hno:∀w∈s.Q,w.op=70:=by
      intro w hw;rcases(hg.cs w hw).2 with⟨h,_⟩ |h
      .exact h
      .exfalso
       have:busy s.Q=true:=qI.2 ⟨w,hw,by simpa using h⟩
       rw[hb.1]at this;cases this
     have Tv:pO s.Q=[]:=by
      unfold pO;rw[vK];intro w hw;simp[hno w hw]
     rw[Tv];refine vi hc ⟨⟨LZ hg.gZ (Dm _ _) ?_,by simp,by simp,by simp[tks],by simp⟩,by simp⟩
     intro c eZ;have h1:=hg.gZ.el c eZ;unfold cW;cases hw:eX s.Q c.task 70
     .have h2:((c.log.length:Int)==sz&&!eX s.Q c.task 70)=false:=by
       have:=hb.2;unfold fl at this;rw[yf]at this;simpa using this c eZ
      rw[hw]at h2;simp at h2;simp only[eD,cB,eC,tU,List.all_append,h1.2.2.2,qF,LM he,List.all_nil,Bool.and_self,jd];omega
     .simp only[aU]
      exact⟨h1.2.2.1,h1.2.2.2⟩
    .simp only[aU]
     refine vi (cn:=s.cn) (C:=s.C) hc ⟨hg.snoc vg (by omega) hfr ⟨rfl,.inr rfl⟩,?_⟩
     intro _;have hfl:fl sz s.C s.Q=true:=by
      cases hf:fl sz s.C s.Q
      .rw[hf]at xA
       simp at xA
       have:busy s.Q=true:=xA
       unfold busy at this;obtain⟨w,hw,cN⟩:=qI.1 this;have:=iZ ⟨w,hw,by simpa using cN⟩
       rw[hf]at this;exact this
      .rfl
     refine L3 hfl (λc hc=>hc) ?_
     intro w hw ho;rw[aL,lG]at hw;rcases hw with hw |rfl
     .exact .inl hw
     .cases ho
   .have iz:op=70:=by have:=Hl he;omega
    subst iz;simp only[cN,cB];obtain⟨A,c,B,hS,l8,hk⟩:=xu (xx he (.inr rfl));have jL:=vh hk;have eN:((A.length:Int)).toNat=A.length:=by omega
    have eZ:c∈s.C:=Ac hk;rw[hk];simp only;have h1:=hg.gZ.el c eZ;cases gf:c.log with
    |cons x lg =>
     simp only;have e2:s.C.set (gI s.C t).toNat ⟨c.task,false,lg⟩=A++⟨c.task,false,lg⟩::B:=by rw[l8,eN,hS];exact Hp
     rw[e2];rw[gf]at h1;refine vi hc (Hy (hg.Ae (L5 (c:=c) (by rw[<-hS];exact hg.gZ) rfl ?_) ?_))
     .have h2:=h1.2.2.1
      have h3:=h1.2.2.2;simp at h2 h3⊢;exact⟨by omega,h3.2⟩
     .intro w hw d hd hdt
      rw[hS,aL,aY]at hd;rw[aL,aY];rcases hd with hd |rfl |hd
      .exact .inl hd
      .exact absurd (hdt.symm.trans jL) (hfr w hw)
      .exact .inr (.inr hd)
    |nil =>
     simp only;have vg:=Ht (v:=0) (op:=70) hcb (by omega) rfl
     have hn:nR s.C (W.mk t 70 0 p (-1))=true:=(xz hg.gZ).2 ⟨⟨c,eZ,jL,gf⟩,rfl⟩;have hG:=Hy (qn:=false) (hg.snoc vg (by omega) hfr ⟨rfl,.inl ⟨rfl,hn⟩⟩)
     cases got (aT sz false (s.Q++[W.mk t 70 0 p (-1)]) s.C).wn t with
     |none=>exact vi hc hG
     |some y=>exact vi hc hG
end Go.VS.Tp
