import Derived.Test.YtjpdopldkeodgaaGreatV11
set_option linter.all false
set_option maxHeartbeats 1000000
namespace Go.VS.Sp
abbrev OL:O:=.lp [5] Hv Hw .normal [(1,.rf [.loc 1 0 0])]
def aH(z:Z)(sz:Int)(q:D)(C:List K):Option (List (List D))->List cC->List O
 |none,[]=>[OL,bM z sz q (.sl 2 true []) (.sl 5 true [])]
 |none,a::l=>[OL,bD z sz (.d q) (.d (.sl 2 true [])) (.aR 2 0 (a::l).length),.aG 5 true ((a::l).map cC.row)]
 |some T,[]=>[OL,bD z sz (.d q) (.aR 2 0 C.length) (.d (.sl 5 true [])),.aG 2 true (C.map K.row++T)]
 |some T,a::l=>[OL,bD z sz (.d q) (.aR 2 0 C.length) (.aR 3 0 (a::l).length),.aG 2 true (C.map K.row++T),.aG 5 true ((a::l).map cC.row)]
def mA:Option (List (List D))->Nat
 |none=>2
 |some _=>3
def Q1(Q:List W):List W:=Q.eraseIdx (lF Q).toNat
theorem DF(Q:List W):(lF Q = -1/\Q.find? (λw=>w.op==68)=none)\/∃(A B:List W)(w:W),Q=A++w::B/\lF Q=(A.length:Int)/\w.op=68:=by
 rcases CM (p:=λw:W=>w.op==68) Q 0 with⟨h1,h2⟩ |⟨i,c,h1,h2,h3⟩
 .exact .inl ⟨h1,h2⟩
 .right
  have hc:c.op=68:=by have:=GF h3;simpa using this
  obtain⟨hlt,he⟩:=rW.1 h2;refine⟨Q.take i,Q.drop (i+1),c,?_,?_,hc⟩
  .rw[<-he];simp
  .have:(Q.take i).length=i:=by simp;omega
   rw[this];simp at h1;exact h1
structure Ad where
 qn:Bool
 Q:List W
 C:List K
 wn:List cC
def Ad.step(a:Ad)(w:W):Ad:=⟨decide (pO (Q1 a.Q)=[]),pO (Q1 a.Q),a.C.map (gr (Q1 a.Q) w.value),a.wn++⟨w.task,w.op,0⟩::pW w.value (Q1 a.Q)⟩
def gU(sz:Int):Nat->Ad->Ad
 | 0,a=>a
 |n+1,a=>if lF a.Q<0\/fl sz a.C a.Q=true then a else
  match a.Q[(lF a.Q).toNat]? with
  |none=>a
  |some w=>gU sz n (a.step w)
def Ad.ok(cs:Option (List (List D)))(a:Ad):Prop :=
 (cs=none->a.C=[])/\a.C.length<=100000/\(∀c∈a.C,(c.nl=true->c.log=[])/\c.log.length+a.Q.length<=100000)/\a.Q.length+a.wn.length<=90000/\(a.qn=true->a.Q=[])
theorem DG{A B:List W}{w:W}(h:lF (A++w::B)=(A.length:Int)):Q1 (A++w::B)=A++B:=by
 unfold Q1;rw[h];have e:((A.length:Int)).toNat=A.length:=by omega
 rw[e,D5 (by omega)]
 simp
theorem DH(v:Int)(Q:List W):(pO Q).length+(pW v Q).length=Q.length:=by
 unfold pO pW;rw[yI];induction Q with
 |nil=>rfl
 |cons w r ih=>cases h:w.op==70<;>simp[h]<;>omega
theorem Gi(Q:List W):(pO Q).length<=Q.length:=vw _ _
theorem Ad.Vn{cs:Option (List (List D))}{a:Ad}{A B:List W}{w:W}(hQ:a.Q=A++w::B)(h:lF a.Q=(A.length:Int))(hok:a.ok cs):(a.step w).ok cs:=by
 obtain⟨uc,hc,hC,hw,jW⟩:=hok;have mX:Q1 a.Q=A++B:=by rw[hQ];exact DG (by rw[<-hQ];exact h)
 have hl:=Gi (A++B);have kL:=DH w.value (A++B);have Js:a.Q.length=A.length+(B.length+1):=by rw[hQ];simp
 simp only[lT]at hl kL;refine⟨?_,?_,?_,?_,?_⟩
 .intro e;simp[Ad.step,uc e]
 .simp[Ad.step];exact hc
 .intro c iC
  simp only[Ad.step]at iC⊢;obtain⟨c0,hc0,rfl⟩:=gV.1 iC;have:=hC c0 hc0;rw[mX]at *;unfold gr;split
  .exact⟨this.1,by omega⟩
  .refine⟨by simp,?_⟩
   simp only[lT,uk];omega
 .simp only[Ad.step,lT,iy]
  rw[mX];omega
 .simp[Ad.step]
set_option maxHeartbeats 4000000 in
theorem aor(z:Z)(sz:Int)(cs:Option (List (List D))):∀(n:Nat)(a:Ad),a.Q.length<n->a.ok cs ->
  ev P (.loop (mA cs) [0,1] MH [(0,.jh 0),(1,.rf [.loc 1 0 0])] (aH z sz (qD a.qn a.Q) a.C cs a.wn)) =
   some (.out .ret [] (aH z sz (qD (gU sz n a).qn (gU sz n a).Q) (gU sz n a).C cs (gU sz n a).wn)):=by
 intro n;induction n with
 |zero=>intro a h;omega
 |succ n ih =>
  intro a hn hok;obtain⟨qn,Q,C,wn⟩:=a;obtain⟨uc,hc,hC,hw,jW⟩:=hok;simp only at uc hc hC hw jW hn⊢;have hI:=aop qn Q (by omega)
  rw[bS]
  conv=>lhs;arg 4;unfold MH
  by_cases hp:lF Q<0
  .have e:gU sz (n+1) ⟨qn,Q,C,wn⟩=⟨qn,Q,C,wn⟩:=by simp[gU,hp]
   rw[e];rcases cs with _ |T<;>rcases wn with _ |⟨x,wn⟩;all_goals
    simp[aH,mA,bD,bM,hI,hp,ak,cut,dy,dz,eH,an]
  .cases hf:fl sz C Q
   .rcases DF Q with⟨h1,_⟩ |⟨A,B,w,hQ,Bq,eZ⟩
    .omega
    .have hst:=Ad.Vn (a:=⟨qn,Q,C,wn⟩) hQ Bq ⟨uc,hc,hC,hw,jW⟩
     have mX:Q1 Q=A++B:=by rw[hQ];exact DG (by rw[<-hQ];exact Bq)
     have rT:Q[A.length]?=some w:=by rw[hQ];simp
     have Js:Q.length=A.length+(B.length+1):=by rw[hQ];simp
     have hlt:A.length<Q.length:=by omega
     have e:gU sz (n+1) ⟨qn,Q,C,wn⟩=gU sz n (Ad.step ⟨qn,Q,C,wn⟩ w):=by
      have n1:¬((A.length:Int)<0):=by omega
      simp[gU,n1,hf,Bq,rT]
     have Dd:(Ad.step ⟨qn,Q,C,wn⟩ w).Q.length<n:=by
      have:=Gi (A++B);simp only[Ad.step,mX];simp at this;omega
     have bB:=ih _ Dd hst;rw[e,<-bB];have yz:qn=false:=by
      cases qn
      .rfl
      .rw[jW rfl]at Js;simp at Js
     subst yz;simp only[Ad.step,mX];have hR:=aok z sz false (A++B) C cs wn w uc (by simp;omega) hc (λc iC=>⟨(hC c iC).1,by have:=(hC c iC).2;omega⟩) (by omega)
     have hD:=aol (A.map W.row) (B.map W.row) w.row (by simp;omega)
     have hK:=w7 false Q (by simp) (by omega)
     have jm:w.row=[I' w.task,I' w.op,I' w.value,I' w.prio,I' w.case]:=rfl
     have nX:∀(d0 d1 d2 d3 d5 d7 d8:D)(cn:Bool),ev P (.call AD [.d (I' sz),.d (.ag [d0,d1,d2,d3,qD false Q,d5,.sl 2 cn (C.map K.row),d7,d8])] [])=some (.val (.d (.b false)) []):=by
      intro d0 d1 d2 d3 d5 d7 d8 cn;have:=M0 sz d0 d1 d2 d3 d5 d7 d8 false Q cn C (by omega) (by omega)
      rw[hf]at this;exact this
     have hw1:IntKind.i64.wrap ((A.length:Int)+1)=A.length+1:=wrap_i64 (by omega) (by omega)
     rw[Bq]at hI;have n1:¬((A.length:Int)<0):=by omega
     rw[Js]at hK;have jD:(A.length:Int)<A.length+(B.length+1):=by omega
     have n2:A.length<A.length+(B.length+1):=by omega
     have ij:List.take (A.length+B.length) (A.map W.row++(B.map W.row++[[I' 0,I' 0,I' 0,I' 0,I' 0]]))=(A++B).map W.row:=by
      have:A.map W.row++(B.map W.row++[[I' 0,I' 0,I' 0,I' 0,I' 0]])=(A++B).map W.row++[[I' 0,I' 0,I' 0,I' 0,I' 0]]:=by simp
      rw[this];exact uo (by simp)
     generalize BC:ev P (.loop (mA cs) [0,1] MH [(0,.jh 0),(1,.rf [.loc 1 0 0])] (aH z sz (qD (decide (pO (A++B)=[])) (pO (A++B))) (C.map (gr (A++B) w.value)) cs (wn++⟨w.task,w.op,0⟩::pW w.value (A++B))))=R;generalize xh:pW w.value (A++B)=wo at *;generalize lG:pO (A++B)=ot at *;generalize rK:C.map (gr (A++B) w.value)=C' at *;have hl:C'.length=C.length:=by simp[<-rK]
     rcases cs with _ |T<;>rcases wn with _ |⟨x,wn⟩
     .obtain rfl:=uc rfl
      simp[aH,mA,bD,bM,hl,qD,cC.row]at BC;simp[hk1,pH,pR,hB,bH,fH,qO,bD,bM,jm,qD,hl,cC.row]at hR hD;simp[hQ,jm]at hK hI nX;simp[hQ,aH,mA,bD,bM,hI,n1,jm,jD,n2,nX,hK,hD,hw1,ij,hR,aJ,aA,sub,aE,back,oD,br,aY,bg,V.aZ,ak,cut,dy,dz,eH,an,bk,cC.row,BC,hl]
     .obtain rfl:=uc rfl
      simp[aH,mA,bD,bM,hl,qD,cC.row]at BC;simp[hk1,pH,pR,hB,bH,fH,qO,bD,bM,jm,qD,hl,cC.row]at hR hD;simp[hQ,jm]at hK hI nX;simp[hQ,aH,mA,bD,bM,hI,n1,jm,jD,n2,nX,hK,hD,hw1,ij,hR,aJ,aA,sub,aE,back,oD,br,aY,bg,V.aZ,ak,cut,dy,dz,eH,an,bk,cC.row,BC,hl]
     .simp[aH,mA,bD,bM,hl,qD,cC.row]at BC
      simp[hk1,pH,pR,hB,bH,fH,qO,bD,bM,jm,qD,hl,cC.row]at hR hD;simp[hQ,jm]at hK hI nX;simp[hQ,aH,mA,bD,bM,hI,n1,jm,jD,n2,nX,hK,hD,hw1,ij,hR,aJ,aA,sub,aE,back,oD,br,aY,bg,V.aZ,ak,cut,dy,dz,eH,an,bk,cC.row,BC,hl]
     .simp[aH,mA,bD,bM,hl,qD,cC.row]at BC
      simp[hk1,pH,pR,hB,bH,fH,qO,bD,bM,jm,qD,hl,cC.row]at hR hD;simp[hQ,jm]at hK hI nX;simp[hQ,aH,mA,bD,bM,hI,n1,jm,jD,n2,nX,hK,hD,hw1,ij,hR,aJ,aA,sub,aE,back,oD,br,aY,bg,V.aZ,ak,cut,dy,dz,eH,an,bk,cC.row,BC,hl]
   .have e:gU sz (n+1) ⟨qn,Q,C,wn⟩=⟨qn,Q,C,wn⟩:=by simp[gU,hf]
    rw[e];have nX:∀(d0 d1 d2 d3 d5 d7 d8:D),ev P (.call AD [.d (I' sz),.d (.ag [d0,d1,d2,d3,qD qn Q,d5,.sl 2 false (C.map K.row),d7,d8])] [])=some (.val (.d (.b true)) []):=by
     intro d0 d1 d2 d3 d5 d7 d8;have:=M0 sz d0 d1 d2 d3 d5 d7 d8 qn Q false C (by omega) (by omega)
     rw[hf]at this;exact this
    rcases cs with _ |T<;>rcases wn with _ |⟨x,wn⟩
    .obtain rfl:=uc rfl
     simp[fl]at hf
    .obtain rfl:=uc rfl
     simp[fl]at hf
    .simp[aH,mA,bD,bM,hI,hp,nX,ak,cut,dy,dz,eH,an,bk]
    .simp[aH,mA,bD,bM,hI,hp,nX,ak,cut,dy,dz,eH,an,bk]
end Go.VS.Sp
namespace Go.VS.Sp
def cR(sz:Int)(qn:Bool)(Q:List W)(C:List K):Ad:=gU sz (Q.length+1) ⟨qn,Q,C,[]⟩
theorem zX(sz:Int):∀(n:Nat)(a:Ad),(gU sz n a).C.length=a.C.length
 | 0,a=>rfl
 |n+1,a=>by
  unfold gU;split
  .rfl
  .split
   .rfl
   .rw[zX sz n];simp[Ad.step]
set_option maxHeartbeats 4000000 in
theorem Vo(z:Z)(sz:Int)(qn:Bool)(Q:List W)(C:List K)(cs:Option (List (List D)))(hk:Hk)(hok:Ad.ok cs ⟨qn,Q,C,[]⟩)(p7:hk = .w0\/(hk = .wc Q/\qn=false)):
  ev P (.call Ei [.loc 0 0 0] (pH z sz qn Q C cs hk)) =
   some (.val (.tu []) (pR z sz (qD (cR sz qn Q C).qn (cR sz qn Q C).Q) (cR sz qn Q C).C cs hk (cR sz qn Q C).wn)):=by
 have hP:=aoq z sz (qD qn Q) C cs;have hL:=aor z sz cs (Q.length+1) ⟨qn,Q,C,[]⟩ (by simp) hok
 have hl:(cR sz qn Q C).C.length=C.length:=zX sz _ _;have Jt:cs=none->(cR sz qn Q C).C=[]:=λh=>by
  have h3:C=[]:=hok.1 h;have h2:C.length=0:=by rw[h3];rfl
  exact xy.1 (hl.trans h2)
 change _=some (ej.out .ret [] (aH z sz (qD (cR sz qn Q C).qn (cR sz qn Q C).Q) (cR sz qn Q C).C cs (cR sz qn Q C).wn))at hL;generalize cR sz qn Q C=a at *;obtain⟨oc,Q',C',wn'⟩:=a;simp only at hL hl Jt⊢;have hF:ev P (.call Lo [.jh 0,.rf [.loc 1 0 0]] (aH z sz (qD qn Q) C cs []))=some (.val (.tu []) (aH z sz (qD oc Q') C' cs wn')):=by
  rw[au afo rfl];rcases cs with _ |T<;>rcases wn' with _ |⟨x,wn'⟩;all_goals
   simp[aH,mA,bD,bM]at hL;simp[Sm,aH,mA,bD,bM,hL,az,ak,cut,dy,dz,eH,an]
 rw[au aeC rfl];rcases p7 with rfl |⟨rfl,rfl⟩
 .rcases cs with _ |T<;>rcases wn' with _ |⟨x,wn'⟩
  .have yA:C=[]:=hok.1 rfl
   have DI:C'=[]:=Jt rfl;subst yA DI;simp[hB,aH,mA,bD,bM,hl]at hF hP;simp[xQ,pH,pR,hB,bH,fH,aH,mA,bD,bM,hP,hF,aA,sub,aE,back,aY,bg,ak,cut,dy,dz,eH,cq,an,bk,az,hl,jM]
  .have yA:C=[]:=hok.1 rfl
   have DI:C'=[]:=Jt rfl;subst yA DI;simp[hB,aH,mA,bD,bM,hl]at hF hP;simp[xQ,pH,pR,hB,bH,fH,aH,mA,bD,bM,hP,hF,aA,sub,aE,back,aY,bg,ak,cut,dy,dz,eH,cq,an,bk,az,hl,jM]
  .simp[hB,aH,mA,bD,bM,hl]at hF hP
   simp[xQ,pH,pR,hB,bH,fH,aH,mA,bD,bM,hP,hF,aA,sub,aE,back,aY,bg,ak,cut,dy,dz,eH,cq,an,bk,az,hl,jM]
  .simp[hB,aH,mA,bD,bM,hl]at hF hP
   simp[xQ,pH,pR,hB,bH,fH,aH,mA,bD,bM,hP,hF,aA,sub,aE,back,aY,bg,ak,cut,dy,dz,eH,cq,an,bk,az,hl,jM]
 .rcases cs with _ |T<;>rcases wn' with _ |⟨x,wn'⟩
  .have yA:C=[]:=hok.1 rfl
   have DI:C'=[]:=Jt rfl;subst yA DI;simp[hB,aH,mA,bD,bM,hl]at hF hP;simp[xQ,pH,pR,hB,bH,fH,aH,mA,bD,bM,hP,hF,aA,sub,aE,back,aY,bg,ak,cut,dy,dz,eH,cq,an,bk,az,hl,jM]
  .have yA:C=[]:=hok.1 rfl
   have DI:C'=[]:=Jt rfl;subst yA DI;simp[hB,aH,mA,bD,bM,hl]at hF hP;simp[xQ,pH,pR,hB,bH,fH,aH,mA,bD,bM,hP,hF,aA,sub,aE,back,aY,bg,ak,cut,dy,dz,eH,cq,an,bk,az,hl,jM]
  .simp[hB,aH,mA,bD,bM,hl]at hF hP
   simp[xQ,pH,pR,hB,bH,fH,aH,mA,bD,bM,hP,hF,aA,sub,aE,back,aY,bg,ak,cut,dy,dz,eH,cq,an,bk,az,hl,jM]
  .simp[hB,aH,mA,bD,bM,hl]at hF hP
   simp[xQ,pH,pR,hB,bH,fH,aH,mA,bD,bM,hP,hF,aA,sub,aE,back,aY,bg,ak,cut,dy,dz,eH,cq,an,bk,az,hl,jM]
end Go.VS.Sp
namespace Go.VS.Sp
theorem aos(nl:Bool)(l:List W)(t:Int)(hn:l.length<=1000000):
  ev P (.call xK [.d (qD nl l),.d (I' t)] [])=some (.val (.d (qO (l.filter λw=>w.task != t))) []):=by
 have hf:ev P (.call QO [.d (qD nl l),.d (.fn Ej [] [.ref [I' t]])] [])=some (.val (.d (qO (l.filter λw=>w.task != t))) []):=by
  rw[au aeR rfl];have hl:=aob (f:=Ej) (first:=[]) (caps:=[.ref [I' t]]) (p:=λw=>w.task != t) nl l hn (by intro a b c d e;simp[aoa]) _ rfl l [] rfl
  cases hf:l.filter λw=>w.task != t with
  |nil=>simp[hf,uL,uM]at hl;simp[Ms,hl,qO]
  |cons a r=>simp[hf,uL,uM,W.row]at hl;simp[Ms,hl,qO,W.row,bk]
 rw[au ad8 rfl];simp[Rx,hf]
structure Rp where
 st:S
 parked:Bool
 value:Int
 ok:Bool
 kn:Bool
 wn:List cC
abbrev kD(n:Bool)(l:List cC):D:=.sl 5 n (l.map cC.row)
abbrev Rp.row(r:Rp):List D:=[I' r.st.own,I' r.st.cnt,I' r.st.time,hD r.st.hn r.st.H,qD r.st.qn r.st.Q,hD r.st.bn r.st.B,cD r.st.cn r.st.C,.b r.st.cl,I' r.st.val,.b r.parked,I' r.value,.b r.ok,kD r.kn r.wn]
def S0:S:=⟨0,0,0,true,[],true,[],true,[],true,[],false,0⟩
def sO:Rp:=⟨S0,false,0,false,true,[]⟩
structure S.wz(s:S):Prop where
 h:s.H.length<=1000
 b:s.B.length<=1000
 q:s.Q.length<=1000
 c:s.C.length<=1000
 l:∀c∈s.C,(c.nl=true->c.log=[])/\c.log.length<=1000
 qn:s.qn=true->s.Q=[]
 cn:s.cn=true->s.C=[]
theorem S.wz.sm{s:S}(h:s.wz):s.sm:=⟨by have:=h.h;omega,by have:=h.b;omega,by have:=h.q;omega,by have:=h.c;omega,λc hc=>by have:=(h.l c hc).2;omega⟩
abbrev S.z(s:S):Z:=⟨I' s.own,I' s.cnt,I' s.time,hD s.hn s.H,hD s.bn s.B,.b s.cl,I' s.val⟩
def ud(cn:Bool):Option (List (List D)):=if cn=true then none else some []
abbrev S.put(s:S)(a:Ad):S:={s with qn:=a.qn,Q:=a.Q,C:=a.C}
end Go.VS.Sp
namespace Go.VS.Sp
def wB(z:Z)(sz:Int)(qn:Bool)(Q':List W)(cn:Bool)(C:List K):List O :=
 match qn,cn with
 |true,true=>[bM z sz (qD false Q') (.sl 2 true []) (.sl 5 true [])]
 |true,false=>[bD z sz (.d (qD false Q')) (.aR 1 0 C.length) (.d (.sl 5 true [])),.aG 2 true (C.map K.row)]
 |false,true=>[bD z sz (.d (qD false Q')) (.d (.sl 2 true [])) (.d (.sl 5 true [])),.dead]
 |false,false=>[bD z sz (.d (qD false Q')) (.aR 2 0 C.length) (.d (.sl 5 true [])),.dead,.aG 2 true (C.map K.row)]
theorem aot(z:Z)(sz:Int)(qn:Bool)(Q:List W)(cn:Bool)(C:List K)(t op v p n x:Int)(h1:qn=true->Q=[])(h3:Q.length<=1000000):
  ev P (.call KQ [.loc 0 0 0,.d (.ag [I' t,I' op,I' v,I' p,I' n]),.d (I' x)] (dh z sz qn Q cn C))=some (.val (.tu []) (wB z sz qn (Q++[⟨t,op,x,p,-1⟩]) cn C)):=by
 rw[au aeG rfl];cases qn
 .have hr:Q.length+1<=room:=by unfold room;omega
  cases cn<;>simp[Ml,dh,wB,bM,bD,W.row,ak,cut,dy,dz,eH,an,az,hr,V.aZ,bk,zU,cz,br,aY,bg]
 .have hr:1<=room:=by unfold room;omega
  obtain rfl:=h1 rfl;cases cn<;>simp[Ml,dh,wB,bM,bD,W.row,ak,cut,dy,dz,eH,an,az,hr,V.aZ,bk,zU,cz,br,aY,bg]
def j0(C:List K)(t:Int):Nat:=(C.takeWhile λc=>decide (c.task<t)).length
def mj(C:List K)(t:Int):List K:=C.take (j0 C t)++⟨t,true,[]⟩::C.drop (j0 C t)
def sB(z:Z)(sz:Int)(qn:Bool)(Q:List W)(cn:Bool)(C':List K):List O :=
 match qn,cn with
 |true,true=>[bD z sz (.d (.sl 5 true [])) (.aR 1 0 C'.length) (.d (.sl 5 true [])),.aG 2 true (C'.map K.row)]
 |true,false=>[bD z sz (.d (.sl 5 true [])) (.aR 2 0 C'.length) (.d (.sl 5 true [])),.dead,.aG 2 true (C'.map K.row)]
 |false,true=>[bD z sz (.aR 1 0 Q.length) (.aR 2 0 C'.length) (.d (.sl 5 true [])),.aG 5 true (Q.map W.row),.aG 2 true (C'.map K.row)]
 |false,false=>[bD z sz (.aR 1 0 Q.length) (.aR 3 0 C'.length) (.d (.sl 5 true [])),.aG 5 true (Q.map W.row),.dead,.aG 2 true (C'.map K.row)]
theorem aou(z:Z)(sz:Int)(qn:Bool)(Q:List W)(C:List K)(t:Int)(hn:C.length<=1000000):∀(suf pre:List K),C=pre++suf ->
  ev P (.loop (if qn=true then 2 else 3) [0,1,4] EL [(0,.loc 0 0 0),(1,.d (I' t)),(4,.d (I' pre.length))] (dh z sz qn Q false C)) =
   some (.out (.exit 0) [(0,.loc 0 0 0),(1,.d (I' t)),(4,.d (I' (pre.length+j0 suf t:Nat)))] (dh z sz qn Q false C)):=by
 intro suf;induction suf with
 |nil =>
  intro pre hl
  have:C.length=pre.length:=by simp[hl]
  rw[bS]
  conv=>lhs;arg 4;unfold EL
  cases qn<;>simp[this,j0,dh,bD,ak,cut,dy,dz,an]
 |cons c suf ih =>
  intro pre hl;have hg:C[pre.length]?=some c:=by simp[hl]
  have jD:pre.length<C.length:=by simp[hl]
  have tP:C[pre.length]=c:=by simpa[qR jD]using hg
  have hlt:(pre.length:Int)<C.length:=by omega
  have hnext:IntKind.i64.wrap ((pre.length:Int)+1)=pre.length+1:=wrap_i64 (by omega) (by omega)
  have bB:=ih (pre++[c]) (by simp[hl])
  rw[bS]
  conv=>lhs;arg 4;unfold EL
  by_cases hc:c.task<t
  .have e:j0 (c::suf) t=j0 suf t+1:=by simp[j0,hc]
   rw[e];have e2:pre.length+(j0 suf t+1)=(pre++[c]).length+j0 suf t:=by simp;omega
   rw[e2,<-bB];generalize hR:ev P (.loop (if qn=true then 2 else 3) [0,1,4] EL [(0,.loc 0 0 0),(1,.d (I' t)),(4,.d (I' (pre++[c]).length))] (dh z sz qn Q false C))=R
   cases qn;all_goals
    simp[dh,bD]at hR;simp[hlt,jD,tP,K.row,hc,hnext,dh,bD,ak,cut,dy,dz,an,hR]
  .have e:j0 (c::suf) t=0:=by simp[j0,hc]
   rw[e];cases qn<;>simp[hlt,jD,tP,K.row,hc,hnext,dh,bD,ak,cut,dy,dz,an]
theorem aov(C:List K)(t:Int):j0 C t<=C.length:=(WM _).length_le
theorem aow(z:Z)(sz:Int)(qn:Bool)(Q:List W)(cn:Bool)(C:List K)(t:Int)(h2:cn=true->C=[])(hn:C.length<=100000):
  ev P (.call QH [.loc 0 0 0,.d (I' t)] (dh z sz qn Q cn C))=some (.val (.tu []) (sB z sz qn Q cn (mj C t))):=by
 have hI:=Cd Yf (p:=l5 2) rfl;have hL:=aou z sz qn Q C t (by omega) C [] rfl
 have hb:=aov C t;have hlen:(mj C t).length=C.length+1:=by simp[mj];omega
 have hrow:(mj C t).map K.row=(C.map K.row).take (j0 C t)++[I' t,.sl 1 true []]::(C.map K.row).drop (j0 C t):=by simp[mj,BU,BV,K.row]
 have sE:((C.map K.row).take (j0 C t)++[I' t,.sl 1 true []]::(C.map K.row).drop (j0 C t)).length=C.length+1:=by simp;omega
 rw[au aez rfl];cases cn
 .have hr:C.length+1<=room:=by unfold room;omega
  generalize mj C t=C' at *;generalize j0 C t=N at *;simp only[k9,nQ]at hL;cases qn;all_goals
   simp[dh,bD]at hL;simp[Mj,hL,hI,l5,jO,hr,hb,dh,sB,bD,bM,aA,sub,aE,back,ak,cut,dy,dz,eH,an,az,bk,hlen,hrow]
 .obtain rfl:=h2 rfl
  have hr:1<=room:=by unfold room;omega
  cases qn<;>simp[Mj,EL,bS,hI,l5,jO,hr,dh,sB,bD,bM,aA,sub,aE,back,ak,cut,dy,dz,eH,an,az,mj,j0,K.row]
end Go.VS.Sp
namespace Go.VS.Sp
@[simp] theorem cC.eta(w:cC):cC.mk w.task w.op w.value=w:=rfl
theorem aox{f:Nat}{first caps:List D}{p:cC->Bool}(nl:Bool)(l:List cC)(hn:l.length<=1000000)
  (hp:∀a b c,ev P (.call f (first.map V.d++[.d (.ag [I' a,I' b,I' c,.b true,I' (-1)])]++caps.map V.d) [])=some (.val (.d (.b (p ⟨a,b,c⟩))) [])):
  ∀(suf pre:List cC),l=pre++suf ->
  ev P (.loop 0 [0,1,7,8] MB [(0,.d (.sl 5 nl (l.map cC.row))),(1,.d (.fn f first caps)),(7,.d (I' l.length)),(8,.d (I' pre.length))] []) =
   if idx p pre.length suf = -1 then some (.out (.exit 0) [] [])else some (.out .ret [(4,.d (I' (idx p pre.length suf)))] []):=by
 intro suf;induction suf with
 |nil =>
  intro pre hl
  have:l.length=pre.length:=by simp[hl]
  rw[bS]
  conv=>lhs;arg 4;unfold MB
  simp[this,idx]
 |cons w suf ih =>
  intro pre hl;have hg:l[pre.length]?=some w:=by simp[hl]
  have hlt:(pre.length:Int)<l.length:=by simp[hl];omega
  have hnext:IntKind.i64.wrap ((pre.length:Int)+1)=pre.length+1:=wrap_i64 (by omega) (by omega)
  have bB:=ih (pre++[w]) (by simp[hl])
  simp at bB hp;rw[bS]
  conv=>lhs;arg 4;unfold MB
  simp[hlt,hg,cC.row,hp,tD];cases hw:p w
  .simp[idx,hw,hnext]
   exact bB
  .have:¬(pre.length:Int) = -1:=by omega
   simp[idx,hw,this]
theorem aoy{f:Nat}{first caps:List D}{p:cC->Bool}(nl:Bool)(l:List cC)(hn:l.length<=1000000)
  (hp:∀a b c,ev P (.call f (first.map V.d++[.d (.ag [I' a,I' b,I' c,.b true,I' (-1)])]++caps.map V.d) [])=some (.val (.d (.b (p ⟨a,b,c⟩))) [])):
  ev P (.call Lf [.d (.sl 5 nl (l.map cC.row)),.d (.fn f first caps)] [])=some (.val (.d (I' (idx p 0 l))) []):=by
 rw[au afd rfl];have hl:=aox nl l hn hp l [] rfl;simp at hl;simp[Sf,hl];by_cases hc:idx p 0 l = -1<;>simp[hc]
theorem aoz(t x1 x2 x3 x4 a b c:Int):ev P (.call G9 [.d (.ag [I' a,I' b,I' c,.b true,I' (-1)]),.d (.ref [I' t,I' x1,I' x2,I' x3,I' x4])] [])=some (.val (.d (.b (a==t))) []):=by
 rw[au afe rfl];simp[Sg]
def qJ(l:List cC)(t:Int):Int:=idx (λw=>w.task==t) 0 l
theorem aoA(nl:Bool)(l:List cC)(t x1 x2 x3 x4:Int)(hn:l.length<=1000000):
  ev P (.call Lf [.d (kD nl l),.d (.fn G9 [] [.ref [I' t,I' x1,I' x2,I' x3,I' x4]])] [])=some (.val (.d (I' (qJ l t))) []):=by
 have h:=aoy (f:=G9) (first:=[]) (caps:=[.ref [I' t,I' x1,I' x2,I' x3,I' x4]]) (p:=λw=>w.task==t) nl l hn (by intro a b c;simp[aoz])
 exact h
theorem aoB(q:List Int)(hn:q.length<=1000000):
  ev P (.call QT [.d (hD false q)] [])=some (.val (.d (hD false q)) []):=by
 have hr:q.length<=room:=by unfold room;omega
 rw[au aeU rfl];cases q with
 |nil=>simp[Mt,rA,eK,fN,ak,cut,az]
 |cons a r =>
  simp at hr;simp[Mt,rA,eK,fN,ak,cut,hr,az,bk]
def eV(p:Bool)(v:Int)(ok:Bool):List D:=[I' 0,I' 0,I' 0,.sl 1 true [],.sl 5 true [],.sl 1 true [],.sl 2 true [],.b false,I' 0,.b p,I' v,.b ok,.sl 5 true []]
def ia(qn:Bool)(Q:List W):Hk:=if qn=true then .w0 else .wc Q
set_option maxHeartbeats 4000000 in
theorem aoC(z:Z)(sz:Int)(qn:Bool)(Q:List W)(C A B:List K)(c:K)(t op v p n x:Int)(lg:List Int)(hC:C=A++c::B)(hf:jR C t=(A.length:Int))(iW:c.log=x::lg)
  (h1:qn=true->Q=[])(h3:Q.length<=1000)(h4:C.length<=1000)(h5:∀c∈C,(c.nl=true->c.log=[])/\c.log.length<=1000):
  ev P (.call KT [.loc 0 0 0,.d (.ag [I' t,I' op,I' v,I' p,I' n])] (dh z sz qn Q false C)) =
   some (.val (.d (.ag (eV false x true))) (pR z sz (qD (cR sz qn Q (A++⟨c.task,false,lg⟩::B)).qn (cR sz qn Q (A++⟨c.task,false,lg⟩::B)).Q) (cR sz qn Q (A++⟨c.task,false,lg⟩::B)).C (some []) (ia qn Q) (cR sz qn Q (A++⟨c.task,false,lg⟩::B)).wn)):=by
 have iC:=h5 c (by simp[hC])
 have hlen:(A++⟨c.task,false,lg⟩::B).length=C.length:=by simp[hC]
 have kL:lg.length<=1000:=by have:=iC.2;rw[iW]at this;simp at this;omega
 have gi:c.nl=false:=by
  cases h:c.nl
  .rfl
  .have:=iC.1 h;rw[iW]at this;cases this
 have hok:Ad.ok (some []) ⟨qn,Q,A++⟨c.task,false,lg⟩::B,[]⟩:=by
  refine⟨?_,?_,?_,?_,h1⟩
  .intro h;cases h
  .simp only;omega
  .intro d hd
   simp only at hd⊢;rw[dj,dA]at hd;rcases hd with hd |rfl |hd
   .have:=h5 d (by rw[hC];simp[hd])
    exact⟨this.1,by omega⟩
   .exact⟨by simp,by simp only;omega⟩
   .have:=h5 d (by rw[hC];simp[hd])
    exact⟨this.1,by omega⟩
  .simp;omega
 have hA:=Vo z sz qn Q (A++⟨c.task,false,lg⟩::B) (some []) (ia qn Q) hok (by
  cases qn
  .exact .inr ⟨rfl,rfl⟩
  .exact .inl rfl)
 have hl:(cR sz qn Q (A++⟨c.task,false,lg⟩::B)).C.length=C.length:=(zX sz _ _).trans hlen;generalize cR sz qn Q (A++⟨c.task,false,lg⟩::B)=a at *;obtain⟨oc,Q',C',wn⟩:=a;simp only at hA hl⊢;have Bh:∀(d0 d1 d2 d3 d4 d5 d7 d8:D),ev P (.call yV [.d (.ag [d0,d1,d2,d3,d4,d5,cD false C,d7,d8]),.d (I' t)] [])=some (.val (.d (I' A.length)) []):=by
  intro d0 d1 d2 d3 d4 d5 d7 d8;have:=HU d0 d1 d2 d3 d4 d5 d7 d8 false C t (by omega)
  rw[hf]at this;exact this
 have bN:=aoB lg (by omega)
 have mJ:C.map K.row=A.map K.row++[I' c.task,.sl 1 false (bX (x::lg))]::B.map K.row:=by rw[hC];simp[K.row,gi,iW]
 have rT:=OJ (A:=A.map K.row) (B:=B.map K.row) (x:=[I' c.task,.sl 1 false (bX (x::lg))]) (n:=A.length) (by simp)
 have BB:=λy=>aog (A:=A.map K.row) (B:=B.map K.row) (x:=[I' c.task,.sl 1 false (bX (x::lg))]) (y:=y) (n:=A.length) (by simp)
 have dL:C.length=A.length+(B.length+1):=by rw[hC];simp
 have hlt:(A.length:Int)<A.length+(B.length+1):=by omega
 have n2:A.length<A.length+(B.length+1):=by omega
 have ij:∀r:List D,List.take (A.length+(B.length+1)) (A.map K.row++r::B.map K.row)=A.map K.row++r::B.map K.row:=λr=>gC (by simp)
 have h6:(1:Int)<=lg.length+1:=by omega
 rw[au XZ rfl];simp only[bX,gk]at rT BB mJ;cases qn
 .rcases wn with _ |⟨w,wn⟩
  all_goals
   simp[pH,pR,hB,bH,fH,ia,bD,bM,hl,dL,K.row]at hA;have ue:=Bh;simp only[cD,mJ]at ue;simp[EN,dh,pR,bH,fH,ia,eV,bD,bM,ue,hA,mJ,rT,BB,dL,ij,hlt,n2,h6,hl,bN,aA,sub,aE,back,ak,cut,dy,dz,eH,an,bk,az,V.aZ]
 .obtain rfl:=h1 rfl
  rcases wn with _ |⟨w,wn⟩;all_goals
   simp[pH,pR,hB,bH,fH,ia,bD,bM,hl,dL,K.row,qD]at hA;have ue:=Bh;simp only[cD,mJ]at ue;simp[EN,qD,dh,pR,bH,fH,ia,eV,bD,bM,ue,hA,mJ,rT,BB,dL,ij,hlt,n2,h6,hl,bN,aA,sub,aE,back,ak,cut,dy,dz,eH,an,bk,az,V.aZ]
end Go.VS.Sp
namespace Go.VS.Sp
inductive Wn where
 |d(n:Bool)(l:List cC)
 |m(l:List cC)
def nB(z:Z)(sz:Int)(qn:Bool)(q:D)(C:List K):Wn->List O
 | .d n l=>if qn=true then[bD z sz (.d q) (.aR 1 0 C.length) (.d (kD n l)),.aG 2 true (C.map K.row)]else[bD z sz (.d q) (.aR 2 0 C.length) (.d (kD n l)),.dead,.aG 2 true (C.map K.row)]
 | .m l=>if qn=true then[bD z sz (.d q) (.aR 1 0 C.length) (.aR 2 0 l.length),.aG 2 true (C.map K.row),.aG 5 true (l.map cC.row)]else[bD z sz (.d q) (.aR 2 0 C.length) (.aR 3 0 l.length),.dead,.aG 2 true (C.map K.row),.aG 5 true (l.map cC.row)]
def mW:List cC->Wn
 | []=>.d true []
 |a::l=>.m (a::l)
def got(l:List cC)(t:Int):Option (Int×List cC):=if qJ l t<0 then none else(l[(qJ l t).toNat]?).map λw=>(w.value,l.eraseIdx (qJ l t).toNat)
set_option maxHeartbeats 4000000 in
theorem aoD(z:Z)(sz:Int)(qn:Bool)(Q:List W)(C A B:List K)(c:K)(t op v p n:Int)(hC:C=A++c::B)(hf:jR C t=(A.length:Int))(iW:c.log=[])
  (h1:qn=true->Q=[])(h3:Q.length<=1000)(h4:C.length<=1000)(h5:∀c∈C,(c.nl=true->c.log=[])/\c.log.length<=1000)(yB:(cR sz false (Q++[⟨t,op,0,p,-1⟩]) C).wn.length<=100000):
  ev P (.call KT [.loc 0 0 0,.d (.ag [I' t,I' op,I' v,I' p,I' n])] (dh z sz qn Q false C)) =
   some (match got (cR sz false (Q++[⟨t,op,0,p,-1⟩]) C).wn t with
    |none=>.val (.d (.ag (eV true 0 false))) (nB z sz qn (qD (cR sz false (Q++[⟨t,op,0,p,-1⟩]) C).qn (cR sz false (Q++[⟨t,op,0,p,-1⟩]) C).Q) (cR sz false (Q++[⟨t,op,0,p,-1⟩]) C).C (mW (cR sz false (Q++[⟨t,op,0,p,-1⟩]) C).wn))
    |some x=>.val (.d (.ag (eV false x.1 true))) (nB z sz qn (qD (cR sz false (Q++[⟨t,op,0,p,-1⟩]) C).qn (cR sz false (Q++[⟨t,op,0,p,-1⟩]) C).Q) (cR sz false (Q++[⟨t,op,0,p,-1⟩]) C).C (.d false x.2))):=by
 have hw:=aot z sz qn Q false C t op v p n 0 h1 (by omega)
 have hok:Ad.ok (some []) ⟨false,Q++[⟨t,op,0,p,-1⟩],C,[]⟩:=by
  refine⟨?_,?_,?_,?_,?_⟩
  .intro h;cases h
  .simp only;omega
  .intro d hd
   have:=h5 d hd;refine⟨this.1,?_⟩;simp;omega
  .simp;omega
  .intro h;cases h
 have hA:=Vo z sz false (Q++[⟨t,op,0,p,-1⟩]) C (some []) .w0 hok (.inl rfl);have hl:(cR sz false (Q++[⟨t,op,0,p,-1⟩]) C).C.length=C.length:=zX sz _ _;generalize cR sz false (Q++[⟨t,op,0,p,-1⟩]) C=a at *;obtain⟨oc,Q',C',wn⟩:=a;simp only at hA hl yB⊢;have Bh:∀(d0 d1 d2 d3 d4 d5 d7 d8:D),ev P (.call yV [.d (.ag [d0,d1,d2,d3,d4,d5,cD false C,d7,d8]),.d (I' t)] [])=some (.val (.d (I' A.length)) []):=by
  intro d0 d1 d2 d3 d4 d5 d7 d8;have:=HU d0 d1 d2 d3 d4 d5 d7 d8 false C t (by omega)
  rw[hf]at this;exact this
 have mJ:C.map K.row=A.map K.row++[I' c.task,.sl 1 c.nl []]::B.map K.row:=by rw[hC];simp[K.row,iW]
 have rT:=OJ (A:=A.map K.row) (B:=B.map K.row) (x:=[I' c.task,.sl 1 c.nl []]) (n:=A.length) (by simp)
 have dL:C.length=A.length+(B.length+1):=by rw[hC];simp
 have hlt:(A.length:Int)<A.length+(B.length+1):=by omega
 have n2:A.length<A.length+(B.length+1):=by omega
 have ij:∀r:List D,List.take (A.length+(B.length+1)) (A.map K.row++r::B.map K.row)=A.map K.row++r::B.map K.row:=λr=>gC (by simp)
 have ue:=Bh;simp only[cD,mJ]at ue;have hk:=λnl=>aoA nl wn t op v p n (by omega)
 rw[au XZ rfl];by_cases hg:qJ wn t<0
 .have hgt:got wn t=none:=by simp[got,hg]
  rw[hgt];cases qn;all_goals
   rcases wn with _ |⟨w,wn⟩;all_goals
    simp[dh,wB,bD,bM,dL,mJ]at hw;simp[pH,pR,hB,bH,fH,bD,bM,hl,dL,mJ]at hA;have p7:=hk false;have hk1:=hk true;simp only[kD,gk,gn]at p7 hk1;simp[EN,dh,nB,mW,eV,bD,bM,ue,hw,hA,mJ,rT,dL,ij,hlt,n2,hl,p7,hk1,hg,aA,sub,aE,back,ak,cut,dy,dz,eH,an,bk,az,V.aZ]
 .rcases CM (p:=λw:cC=>w.task==t) wn 0 with⟨g1,_⟩ |⟨i,w,g1,g2,_⟩
  .exfalso
   have:qJ wn t = -1:=g1
   omega
  .have BD:qJ wn t=(i:Int):=by simpa[qJ]using g1
   obtain⟨W1,W2,hW,hWl⟩:∃W1 W2,wn=W1++w::W2/\W1.length=i:=by
    obtain⟨hlt,he⟩:=rW.1 g2;refine⟨wn.take i,wn.drop (i+1),?_,by simp;omega⟩
    rw[<-he];simp
   subst hWl;have hgt:got wn t=some (w.value,W1++W2):=by
    have e:((W1.length:Int)).toNat=W1.length:=by omega
    simp only[got,BD,e,g2,sV];rw[aD (by omega),hW,D5 (by omega)]
    simp
   rw[hgt];rw[BD]at hk;have n3:¬((W1.length:Int)<0):=by omega
   have hW0:wn=W1++w::W2:=hW;have hwn:∃x y,wn=x::y:=by
    cases W1 with
    |nil=>exact⟨w,W2,hW⟩
    |cons a r=>exact⟨a,r++w::W2,hW⟩
   have jm:w.row=[I' w.task,I' w.op,I' w.value,.b true,I' (-1)]:=rfl;have hmr:wn.map cC.row=W1.map cC.row++w.row::W2.map cC.row:=by rw[hW];simp
   have hD:=aon (W1.map cC.row) (W2.map cC.row) w.row (by rw[hW]at yB;simp at yB⊢;omega)
   have aoE:=OJ (A:=W1.map cC.row) (B:=W2.map cC.row) (x:=w.row) (n:=W1.length) (by simp)
   have aoF:wn.length=W1.length+(W2.length+1):=by rw[hW];simp
   have hw1:IntKind.i64.wrap ((W1.length:Int)+1)=W1.length+1:=wrap_i64 (by omega) (by omega)
   have aoG:∀r:List D,List.take (W1.length+(W2.length+1)) (W1.map cC.row++r::W2.map cC.row)=W1.map cC.row++r::W2.map cC.row:=λr=>gC (by simp)
   have aoH:∀r:List D,List.take (W1.length+W2.length) (W1.map cC.row++(W2.map cC.row++[r]))=W1.map cC.row++W2.map cC.row:=λr=>by
    have:W1.map cC.row++(W2.map cC.row++[r])=(W1.map cC.row++W2.map cC.row)++[r]:=by simp
    rw[this];exact uo (by simp)
   have aoI:(W1.length:Int)<W1.length+(W2.length+1):=by omega
   have n4:W1.length<W1.length+(W2.length+1):=by omega
   have p7:=hk false;simp only[kD,hmr]at p7;have U':∀(x:List O),bH z sz (qD oc Q') C' 0 (some []) .w0 wn++fH .w0 wn=[bD z sz (.d (qD oc Q')) (.aR 1 0 C'.length) (.aR 2 0 wn.length),.aG 2 true (C'.map K.row),.aG 5 true (wn.map cC.row)]:=by
    intro _;obtain⟨x,y,hxy⟩:=hwn;rw[hxy];simp[bH,fH]
   unfold pR at hA;rw[U' []]at hA;rw[hmr,aoF]at hA;simp[jm]at hD aoE p7;cases qn;all_goals
    simp[dh,wB,bD,bM,dL,mJ]at hw;simp[pH,hB,bD,bM,hl,dL,mJ,jm]at hA;simp[EN,dh,nB,eV,bD,bM,ue,hw,hA,mJ,rT,dL,ij,hlt,n2,hl,p7,n3,hD,aoE,hw1,aoG,aoH,aoI,n4,jm,aA,sub,aE,back,br,aY,bg,ak,cut,dy,dz,eH,an,bk,az,V.aZ]
end Go.VS.Sp
namespace Go.VS.Sp
abbrev up(h:List O):List O:=h
theorem aoJ(z:Z)(sz:Int)(qn:Bool)(Q:List W)(cn:Bool)(C:List K)(t op v p n:Int)(h1:qn=true->Q=[])(h2:cn=true->C=[])(hn:C.length<=100000):
  ev P (.call QG [.rf [.loc 0 0 0],.d (.ref [I' t,I' op,I' v,I' p,I' n])] (up (dh z sz qn Q cn C)))=some (.val (.d (.ag (eV false 0 true))) (up (sB z sz qn Q cn (mj C t)))):=by
 have hS:=aow z sz qn Q cn C t h2 hn;rw[au aey rfl];cases qn<;>cases cn;all_goals
  simp[dh,sB,bD,bM]at hS;simp[RL,up,dh,sB,bD,bM,hS,eV,aA,sub,aE,back,ak,cut,dy,dz,eH,cq,an,bk,az]
set_option maxHeartbeats 4000000 in
theorem aoK(z:Z)(sz:Int)(qn:Bool)(Q:List W)(C A B:List K)(c:K)(t op v p n:Int)(hC:C=A++c::B)(hf:jR C t=(A.length:Int))
  (h1:qn=true->Q=[])(h3:Q.length<=1000)(h4:C.length<=1000)(h5:∀c∈C,(c.nl=true->c.log=[])/\c.log.length<=1000):
  ev P (.call QI [.rf [.loc 0 0 0],.d (.ref [I' t,I' op,I' v,I' p,I' n])] (up (dh z sz qn Q false C))) =
   some (.val (.d (.ag (eV false 0 true))) (up (pR z sz (qD (cR sz qn Q (A++B)).qn (cR sz qn Q (A++B)).Q) (cR sz qn Q (A++B)).C (some [[I' 0,.sl 1 true []]]) (ia qn Q) (cR sz qn Q (A++B)).wn))):=by
 have dL:C.length=A.length+(B.length+1):=by rw[hC];simp
 have hlen:(A++B).length=A.length+B.length:=by simp
 have hok:Ad.ok (some [[I' 0,.sl 1 true []]]) ⟨qn,Q,A++B,[]⟩:=by
  refine⟨?_,?_,?_,?_,h1⟩
  .intro h;cases h
  .simp only;omega
  .intro d hd
   simp only at hd⊢;have:=h5 d (by rw[hC];rw[dj]at hd;rcases hd with hd |hd<;>simp[hd])
   exact⟨this.1,by omega⟩
  .simp;omega
 have hA:=Vo z sz qn Q (A++B) (some [[I' 0,.sl 1 true []]]) (ia qn Q) hok (by
  cases qn
  .exact .inr ⟨rfl,rfl⟩
  .exact .inl rfl)
 have hl:(cR sz qn Q (A++B)).C.length=A.length+B.length:=(zX sz _ _).trans hlen;generalize cR sz qn Q (A++B)=a at *;obtain⟨oc,Q',C',wn⟩:=a;simp only at hA hl⊢;have Bh:∀(d0 d1 d2 d3 d4 d5 d7 d8:D),ev P (.call yV [.d (.ag [d0,d1,d2,d3,d4,d5,cD false C,d7,d8]),.d (I' t)] [])=some (.val (.d (I' A.length)) []):=by
  intro d0 d1 d2 d3 d4 d5 d7 d8;have:=HU d0 d1 d2 d3 d4 d5 d7 d8 false C t (by omega)
  rw[hf]at this;exact this
 have mJ:C.map K.row=A.map K.row++c.row::B.map K.row:=by rw[hC];simp
 have hD:=aom (A.map K.row) (B.map K.row) c.row (by simp;omega)
 have ij:∀r:List D,List.take (A.length+(B.length+1)) (A.map K.row++r::B.map K.row)=A.map K.row++r::B.map K.row:=λr=>gC (by simp)
 have hw1:IntKind.i64.wrap ((A.length:Int)+1)=A.length+1:=wrap_i64 (by omega) (by omega)
 have ue:=Bh;simp only[cD,mJ]at ue;rw[au aeA rfl];simp at hD;cases qn
 .rcases wn with _ |⟨w,wn⟩
  all_goals
   simp[pH,pR,hB,bH,fH,ia,bD,bM,hl,qD]at hA;simp[Mk,up,dh,pR,bH,fH,ia,bD,bM,ue,hD,hA,mJ,dL,ij,hw1,hl,eV,aA,sub,aE,back,ak,cut,dy,dz,eH,cq,an,bk,az,V.aZ,qD]
 .obtain rfl:=h1 rfl
  rcases wn with _ |⟨w,wn⟩;all_goals
   simp[pH,pR,hB,bH,fH,ia,bD,bM,hl,qD]at hA;simp[Mk,up,dh,pR,bH,fH,ia,bD,bM,ue,hD,hA,mJ,dL,ij,hw1,hl,eV,aA,sub,aE,back,ak,cut,dy,dz,eH,cq,an,bk,az,V.aZ,qD]
theorem aoL(a b c d e:Int):ev P (.call G3 [.d (.ag [I' a,I' b,I' c,I' d,I' e])] [])=some (.val (.d (.b (b==68))) []):=by
 rw[au aeE rfl];simp[RN]
def busy(Q:List W):Bool:=Q.any λw=>w.op==68
theorem aoM(nl:Bool)(l:List W)(hn:l.length<=1000000):
  ev P (.call uD [.d (qD nl l),.d (.fn G3 [] [])] [])=some (.val (.d (.b (busy l))) []):=by
 have h:=AW (f:=G3) (first:=[]) (caps:=[]) (p:=λw=>w.op==68) nl l hn (by intro a b c d e;simp[aoL])
 exact h
set_option maxHeartbeats 4000000 in
theorem aoN(z:Z)(sz:Int)(qn:Bool)(Q:List W)(cn:Bool)(C:List K)(t op v p n:Int)
  (h1:qn=true->Q=[])(h2:cn=true->C=[])(h3:Q.length<=1000)(h4:C.length<=1000)(h5:∀c∈C,(c.nl=true->c.log=[])/\c.log.length<=1000):
  ev P (.call QJ [.rf [.loc 0 0 0],.d (.ref [I' t,I' op,I' v,I' p,I' n])] (up (dh z sz qn Q cn C))) =
   some (if(busy Q||fl sz C Q)=true then .val (.d (.ag (eV true 0 false))) (up (wB z sz qn (Q++[⟨t,op,v,p,-1⟩]) cn C))
    else .val (.d (.ag (eV false 0 true))) (up (pR z sz (qO (pO Q)) (C.map (gr Q v)) (ud cn) (ia qn Q) (pW v Q)))):=by
 have hw:=aot z sz qn Q cn C t op v p n v h1 (by omega)
 have uf:=aoM qn Q (by omega)
 have qK:∀(d0 d1 d2 d3 d5 d7 d8:D),ev P (.call AD [.d (I' sz),.d (.ag [d0,d1,d2,d3,qD qn Q,d5,cD cn C,d7,d8])] [])=some (.val (.d (.b (fl sz C Q))) []):=λd0 d1 d2 d3 d5 d7 d8=>M0 sz d0 d1 d2 d3 d5 d7 d8 qn Q cn C (by omega) (by omega)
 have hP:=aoj z sz qn Q v C (ud cn) (ia qn Q) (by intro h;apply h2;cases cn<;>simp[ud]at h⊢) (by omega) (by omega) (λc hc=>⟨(h5 c hc).1,by have:=(h5 c hc).2;omega⟩) (by cases qn<;>simp[ia,Hk.len])
  (by intro Q0 h;cases qn<;>simp[ia]at h⊢;exact h.symm)
 have hl:(C.map (gr Q v)).length=C.length:=by simp
 generalize C.map (gr Q v)=C' at *;generalize pW v Q=wn at *;generalize pO Q=ot at *;generalize busy Q=bq at *;generalize fl sz C Q=fq at *;rw[au aeD rfl];cases bq
 .cases fq
  .cases qn
   .cases cn
    .rcases wn with _ |⟨w,wn⟩
     all_goals
      simp[pH,pR,hB,bH,fH,ia,ud,bD,bM,hl,qD]at hP;simp[uI,up,dh,pR,bH,fH,ia,ud,bD,bM,uf,qK,hP,hl,eV,aA,sub,aE,back,ak,cut,dy,dz,eH,cq,an,bk,az,V.aZ,qD]
    .obtain rfl:=h2 rfl
     simp only[cD,gn]at qK;have rK:C'=[]:=xy.1 hl;subst rK;rcases wn with _ |⟨w,wn⟩;all_goals
      simp[pH,pR,hB,bH,fH,ia,ud,bD,bM,hl,qD]at hP;simp[uI,up,dh,pR,bH,fH,ia,ud,bD,bM,uf,qK,hP,hl,eV,aA,sub,aE,back,ak,cut,dy,dz,eH,cq,an,bk,az,V.aZ,qD]
   .obtain rfl:=h1 rfl
    simp only[qD,gn]at uf qK;cases cn
    .rcases wn with _ |⟨w,wn⟩
     all_goals
      simp[pH,pR,hB,bH,fH,ia,ud,bD,bM,hl,qD]at hP;simp[uI,up,dh,pR,bH,fH,ia,ud,bD,bM,uf,qK,hP,hl,eV,aA,sub,aE,back,ak,cut,dy,dz,eH,cq,an,bk,az,V.aZ,qD]
    .obtain rfl:=h2 rfl
     simp only[cD,gn]at qK;have rK:C'=[]:=xy.1 hl;subst rK;rcases wn with _ |⟨w,wn⟩;all_goals
      simp[pH,pR,hB,bH,fH,ia,ud,bD,bM,hl,qD]at hP;simp[uI,up,dh,pR,bH,fH,ia,ud,bD,bM,uf,qK,hP,hl,eV,aA,sub,aE,back,ak,cut,dy,dz,eH,cq,an,bk,az,V.aZ,qD]
  .cases qn
   .cases cn
    .skip
     simp[dh,wB,bD,bM]at hw;simp[uI,up,dh,wB,bD,bM,uf,qK,hw,eV,aA,sub,aE,back,ak,cut,dy,dz,eH,cq,an,bk,az,V.aZ]
    .obtain rfl:=h2 rfl
     simp only[cD,gn]at qK;simp[dh,wB,bD,bM]at hw;simp[uI,up,dh,wB,bD,bM,uf,qK,hw,eV,aA,sub,aE,back,ak,cut,dy,dz,eH,cq,an,bk,az,V.aZ]
   .obtain rfl:=h1 rfl
    simp only[qD,gn]at uf qK;cases cn
    .skip
     simp[dh,wB,bD,bM]at hw;simp[uI,up,dh,wB,bD,bM,uf,qK,hw,eV,aA,sub,aE,back,ak,cut,dy,dz,eH,cq,an,bk,az,V.aZ]
    .obtain rfl:=h2 rfl
     simp only[cD,gn]at qK;simp[dh,wB,bD,bM]at hw;simp[uI,up,dh,wB,bD,bM,uf,qK,hw,eV,aA,sub,aE,back,ak,cut,dy,dz,eH,cq,an,bk,az,V.aZ]
 .cases qn
  .cases cn
   all_goals
    simp[dh,wB,bD,bM]at hw;simp[uI,up,dh,wB,bD,bM,uf,qK,hw,eV,aA,sub,aE,back,ak,cut,dy,dz,eH,cq,an,bk,az,V.aZ]
  .obtain rfl:=h1 rfl
   simp only[qD,gn]at uf;cases cn;all_goals
    simp[dh,wB,bD,bM]at hw;simp[uI,up,dh,wB,bD,bM,uf,qK,hw,eV,aA,sub,aE,back,ak,cut,dy,dz,eH,cq,an,bk,az,V.aZ]
end Go.VS.Sp
namespace Go.VS.Sp
theorem aoO(cs:Option (List (List D)))(sz:Int):∀(n:Nat)(a:Ad),a.ok cs->(gU sz n a).ok cs
 | 0,a,h=>h
 |n+1,a,h=>by
  unfold gU;split
  .exact h
  .rename_i hn
   rcases DF a.Q with⟨h1,_⟩ |⟨A,B,w,hQ,hp,_⟩
   .exfalso;apply hn;left;omega
   .have e:((A.length:Int)).toNat=A.length:=by omega
    have hg:a.Q[(lF a.Q).toNat]?=some w:=by rw[hp,e,hQ];simp
    rw[hg];exact aoO cs sz n _ (Ad.Vn hQ hp h)
set_option maxHeartbeats 4000000 in
theorem aoP(z:Z)(sz:Int)(qn:Bool)(Q:List W)(C A B:List K)(c:K)(t op v p n x:Int)(lg:List Int)(hC:C=A++c::B)(hf:jR C t=(A.length:Int))(iW:c.log=x::lg)
  (h1:qn=true->Q=[])(h3:Q.length<=1000)(h4:C.length<=1000)(h5:∀c∈C,(c.nl=true->c.log=[])/\c.log.length<=1000):
  ev P (.call KS [.rf [.loc 0 0 0],.d (.ref [I' t,I' op,I' v,I' p,I' n])] (up (dh z sz qn Q false C))) =
   some (.val (.d (.ag (eV false x true))) (up (pR z sz (qD (cR sz qn Q (A++⟨c.task,false,lg⟩::B)).qn (cR sz qn Q (A++⟨c.task,false,lg⟩::B)).Q) (cR sz qn Q (A++⟨c.task,false,lg⟩::B)).C (some []) (ia qn Q) (cR sz qn Q (A++⟨c.task,false,lg⟩::B)).wn))):=by
 have hN:=aoC z sz qn Q C A B c t op v p n x lg hC hf iW h1 h3 h4 h5;generalize cR sz qn Q (A++⟨c.task,false,lg⟩::B)=a at *;obtain⟨oc,Q',C',wn⟩:=a;simp only at hN⊢;rw[au XY rfl];cases qn<;>rcases wn with _ |⟨w,wn⟩;all_goals
  simp[dh,pR,bH,fH,ia,bD,bM,eV]at hN;simp[Hx,up,dh,pR,bH,fH,ia,bD,bM,hN,eV,aA,sub,aE,back,ak,cut,dy,dz,eH,cq,an,bk,az,V.aZ]
set_option maxHeartbeats 4000000 in
theorem aoQ(z:Z)(sz:Int)(qn:Bool)(Q:List W)(C A B:List K)(c:K)(t op v p n:Int)(hC:C=A++c::B)(hf:jR C t=(A.length:Int))(iW:c.log=[])
  (h1:qn=true->Q=[])(h3:Q.length<=1000)(h4:C.length<=1000)(h5:∀c∈C,(c.nl=true->c.log=[])/\c.log.length<=1000)(yB:(cR sz false (Q++[⟨t,op,0,p,-1⟩]) C).wn.length<=100000):
  ev P (.call KS [.rf [.loc 0 0 0],.d (.ref [I' t,I' op,I' v,I' p,I' n])] (up (dh z sz qn Q false C))) =
   some (match got (cR sz false (Q++[⟨t,op,0,p,-1⟩]) C).wn t with
    |none=>.val (.d (.ag (eV true 0 false))) (up (nB z sz qn (qD (cR sz false (Q++[⟨t,op,0,p,-1⟩]) C).qn (cR sz false (Q++[⟨t,op,0,p,-1⟩]) C).Q) (cR sz false (Q++[⟨t,op,0,p,-1⟩]) C).C (mW (cR sz false (Q++[⟨t,op,0,p,-1⟩]) C).wn)))
    |some x=>.val (.d (.ag (eV false x.1 true))) (up (nB z sz qn (qD (cR sz false (Q++[⟨t,op,0,p,-1⟩]) C).qn (cR sz false (Q++[⟨t,op,0,p,-1⟩]) C).Q) (cR sz false (Q++[⟨t,op,0,p,-1⟩]) C).C (.d false x.2)))):=by
 have hN:=aoD z sz qn Q C A B c t op v p n hC hf iW h1 h3 h4 h5 yB;generalize cR sz false (Q++[⟨t,op,0,p,-1⟩]) C=a at *;obtain⟨oc,Q',C',wn⟩:=a;simp only at hN⊢;rw[au XY rfl];cases hg:got wn t with
 |none =>
  rw[hg]at hN;cases qn<;>rcases wn with _ |⟨w,wn⟩;all_goals
   simp[dh,nB,mW,bD,bM,eV]at hN;simp[Hx,up,dh,nB,mW,bD,bM,hN,eV,aA,sub,aE,back,ak,cut,dy,dz,eH,cq,an,bk,az,V.aZ]
 |some x =>
  rw[hg]at hN;cases qn;all_goals
   simp[dh,nB,mW,bD,bM,eV]at hN;simp[Hx,up,dh,nB,mW,bD,bM,hN,eV,aA,sub,aE,back,ak,cut,dy,dz,eH,cq,an,bk,az,V.aZ]
def del(C:List K)(t:Int):List K:=C.eraseIdx (jR C t).toNat
def ap(k sz ot:Int)(s:S)(t op v p n:Int):Rp×Int :=
 if fM k sz ot s≠0 then(sO,1)else if jB s t op v p n≠0 then(sO,jB s t op v p n)else
 if op=69 then(⟨{s with cn:=false,C:=mj s.C t},false,0,true,true,[]⟩,0)else
 if op=71 then
  let a:=cR sz s.qn s.Q (del s.C t)
  (⟨s.put a,false,0,true,decide (a.wn=[]),a.wn⟩,0)else
 if op=68 then
  if(busy s.Q||fl sz s.C s.Q)=true then(⟨{s with qn:=false,Q:=s.Q++[⟨t,op,v,p,-1⟩]},true,0,false,true,[]⟩,0)
  else(⟨{s with qn:=decide (pO s.Q=[]),Q:=pO s.Q,C:=s.C.map (gr s.Q v)},false,0,true,decide (pW v s.Q=[]),pW v s.Q⟩,0)
 else
  match mD s.C t with
  |none=>(sO,0)
  |some c =>
   match c.log with
   |x::lg =>
    let a:=cR sz s.qn s.Q (s.C.set (jR s.C t).toNat ⟨c.task,false,lg⟩)
    (⟨s.put a,false,x,true,decide (a.wn=[]),a.wn⟩,0)
   | [] =>
    let a:=cR sz false (s.Q++[⟨t,op,0,p,-1⟩]) s.C
    match got a.wn t with
    |none=>(⟨s.put a,true,0,false,decide (a.wn=[]),a.wn⟩,0)
    |some x=>(⟨s.put a,false,x.1,true,false,x.2⟩,0)
theorem OB(nm:D)(k sz ot:Int)(s:S)(hs:s.wz)(t op v p n:Int)(h:fM k sz ot s≠0\/jB s t op v p n≠0):
  ev P (.call vJ [.d (.ag [nm,I' k,I' sz,I' ot]),.d (.ag s.row),.d (.ag [I' t,I' op,I' v,I' p,I' n])] [])=some (.val (.tu [.d (.ag (ap k sz ot s t op v p n).1.row),.d (I' (ap k sz ot s t op v p n).2)]) []):=by
 have hC:=qy nm k sz ot s hs.sm;have hE:=Jq s hs.sm t op v p n;unfold ap;rw[au E1 rfl];by_cases hc:fM k sz ot s=0
 .have h2:jB s t op v p n≠0:=by
   rcases h with h |h
   .exact absurd hc h
   .exact h
  generalize jB s t op v p n=e at *;have h3:(e != 0)=true:=by simpa using h2
  rw[hc]at hC⊢;simp[nu,hC,hE,h2,h3,sO,S0]
 .have gK:(fM k sz ot s != 0)=true:=by simpa using hc
  simp[nu,hC,hc,gK,sO,S0]
set_option maxHeartbeats 4000000 in
theorem aoR(nm:D)(k sz ot:Int)(s:S)(hs:s.wz)(t v p n:Int)(hc:fM k sz ot s=0)(he:jB s t 69 v p n=0):
  ev P (.call vJ [.d (.ag [nm,I' k,I' sz,I' ot]),.d (.ag s.row),.d (.ag [I' t,I' 69,I' v,I' p,I' n])] [])=some (.val (.tu [.d (.ag (ap k sz ot s t 69 v p n).1.row),.d (I' (ap k sz ot s t 69 v p n).2)]) []):=by
 have hC:=qy nm k sz ot s hs.sm;have hE:=Jq s hs.sm t 69 v p n;rw[hc]at hC;rw[he]at hE;have e:ap k sz ot s t 69 v p n=(⟨{s with cn:=false,C:=mj s.C t},false,0,true,true,[]⟩,0):=by simp[ap,hc,he]
 rw[e];have gP:=OI s.z nm (I' k) (I' ot) sz s.qn s.Q s.cn s.C hs.qn hs.cn (by have:=hs.q;omega) (by have:=hs.c;omega)
 have hO:=aoJ s.z sz s.qn s.Q s.cn s.C t 69 v p n hs.qn hs.cn (by have:=hs.c;omega)
 obtain⟨own,cnt,time,hn,H,qn,Q,bn,B,cn,C,cl,val⟩:=s;simp only at hC hE gP hO hs⊢;generalize mj C t=C' at *;rw[au E1 rfl];cases qn
 .cases cn
  all_goals
   simp[dh,bD,bM]at gP;simp[dh,sB,bD,bM,eV,up]at hO;simp[nu,hC,hE,gP,hO,aJ,aA,sub,aE,back,aY,bg,ak,cut,dy,dz,eH,cq,an,bk,az,V.aZ,eK,fN,Rp.row,S.put,gZ,ez]
 .obtain rfl:=hs.qn rfl
  cases cn;all_goals
   simp[dh,bD,bM]at gP;simp[dh,sB,bD,bM,eV,up]at hO;simp[nu,hC,hE,gP,hO,aJ,aA,sub,aE,back,aY,bg,ak,cut,dy,dz,eH,cq,an,bk,az,V.aZ,eK,fN,Rp.row,S.put,gZ,ez]
theorem Gj{C:List K}{t:Int}(h:0<=jR C t):∃A c B,C=A++c::B/\jR C t=(A.length:Int)/\mD C t=some c:=by
 rcases M1 C t with⟨h1,_⟩ |⟨i,c,h1,h2,h3⟩
 .omega
 .obtain⟨hlt,he⟩:=rW.1 h2
  have hl:(C.take i).length=i:=by simp;omega
  exact⟨C.take i,c,C.drop (i+1),by rw[<-he];simp,by rw[hl];exact h1,h3⟩
theorem Gk{s:S}{t op v p n:Int}(h:jB s t op v p n=0)(ho:op=71\/op=70):0<=jR s.C t:=by
 unfold jB at h;split at h
 .cases h
 .split at h
  .cases h
  .split at h
   .cases h
   .split at h
    .cases h
    .split at h
     .cases h
     .split at h
      .cases h
      .rename_i h6
       rcases ho with rfl |rfl<;>simp at h6<;>exact h6
theorem Vp{s:S}{t op v p n:Int}(h:jB s t op v p n=0):op=68\/op=69\/op=70\/op=71:=by
 unfold jB at h;split at h
 .cases h
 .split at h
  .cases h
  .rename_i h2
   simp at h2;omega
set_option maxHeartbeats 4000000 in
theorem aoS(nm:D)(k sz ot:Int)(s:S)(hs:s.wz)(t v p n:Int)(hc:fM k sz ot s=0)(he:jB s t 71 v p n=0):
  ev P (.call vJ [.d (.ag [nm,I' k,I' sz,I' ot]),.d (.ag s.row),.d (.ag [I' t,I' 71,I' v,I' p,I' n])] [])=some (.val (.tu [.d (.ag (ap k sz ot s t 71 v p n).1.row),.d (I' (ap k sz ot s t 71 v p n).2)]) []):=by
 have hC:=qy nm k sz ot s hs.sm;have hE:=Jq s hs.sm t 71 v p n;rw[hc]at hC;rw[he]at hE;obtain⟨A,c,B,hS,hf,_⟩:=Gj (Gk he (.inl rfl));have Ju:del s.C t=A++B:=by
  have e:((A.length:Int)).toNat=A.length:=by omega
  unfold del;rw[hf,e,hS,D5 (by omega)]
  simp
 have e:ap k sz ot s t 71 v p n=(⟨s.put (cR sz s.qn s.Q (A++B)),false,0,true,decide ((cR sz s.qn s.Q (A++B)).wn=[]),(cR sz s.qn s.Q (A++B)).wn⟩,0):=by simp[ap,hc,he,Ju]
 rw[e];have gP:=OI s.z nm (I' k) (I' ot) sz s.qn s.Q s.cn s.C hs.qn hs.cn (by have:=hs.q;omega) (by have:=hs.c;omega)
 have hO:=aoK s.z sz s.qn s.Q s.C A B c t 71 v p n hS hf hs.qn hs.q hs.c hs.l;have hl:(cR sz s.qn s.Q (A++B)).C.length=A.length+B.length:=(zX sz _ _).trans (by simp)
 have sI:s.cn=false:=by
  cases h:s.cn
  .rfl
  .have:=hs.cn h;rw[hS]at this;simp at this
 generalize cR sz s.qn s.Q (A++B)=a at *;obtain⟨own,cnt,time,hn,H,qn,Q,bn,B',cn,C,cl,val⟩:=s;obtain⟨oc,Q',C',wn⟩:=a;simp only at hC hE gP hO hs hl sI hS⊢;subst sI;have ij:∀r:List D,List.take (A.length+B.length) (C'.map K.row++[r])=C'.map K.row:=λr=>uo (by simp[hl])
 have jT:A.length+B.length<=C'.length+1:=by omega
 rw[au E1 rfl];cases qn
 .rcases wn with _ |⟨w,wn⟩
  all_goals
   simp[dh,bD,bM]at gP;simp[dh,pR,bH,fH,ia,bD,bM,eV,hl,up]at hO;simp[nu,hC,hE,gP,hO,aJ,aA,sub,aE,back,aY,bg,ak,cut,dy,dz,eH,cq,an,bk,az,V.aZ,eK,fN,Rp.row,S.put,gZ,ez,ij,jT]
 .obtain rfl:=hs.qn rfl
  rcases wn with _ |⟨w,wn⟩;all_goals
   simp[dh,bD,bM]at gP;simp[dh,pR,bH,fH,ia,bD,bM,eV,hl,up]at hO;simp[nu,hC,hE,gP,hO,aJ,aA,sub,aE,back,aY,bg,ak,cut,dy,dz,eH,cq,an,bk,az,V.aZ,eK,fN,Rp.row,S.put,gZ,ez,ij,jT]
set_option maxHeartbeats 4000000 in
theorem aoT(nm:D)(k sz ot:Int)(s:S)(hs:s.wz)(t v p n:Int)(hc:fM k sz ot s=0)(he:jB s t 68 v p n=0):
  ev P (.call vJ [.d (.ag [nm,I' k,I' sz,I' ot]),.d (.ag s.row),.d (.ag [I' t,I' 68,I' v,I' p,I' n])] [])=some (.val (.tu [.d (.ag (ap k sz ot s t 68 v p n).1.row),.d (I' (ap k sz ot s t 68 v p n).2)]) []):=by
 have hC:=qy nm k sz ot s hs.sm;have hE:=Jq s hs.sm t 68 v p n;rw[hc]at hC;rw[he]at hE;have e:ap k sz ot s t 68 v p n=if(busy s.Q||fl sz s.C s.Q)=true then(⟨{s with qn:=false,Q:=s.Q++[⟨t,68,v,p,-1⟩]},true,0,false,true,[]⟩,0)
  else(⟨{s with qn:=decide (pO s.Q=[]),Q:=pO s.Q,C:=s.C.map (gr s.Q v)},false,0,true,decide (pW v s.Q=[]),pW v s.Q⟩,0):=by simp[ap,hc,he]
 rw[e];have gP:=OI s.z nm (I' k) (I' ot) sz s.qn s.Q s.cn s.C hs.qn hs.cn (by have:=hs.q;omega) (by have:=hs.c;omega)
 have hO:=aoN s.z sz s.qn s.Q s.cn s.C t 68 v p n hs.qn hs.cn hs.q hs.c hs.l;have hl:(s.C.map (gr s.Q v)).length=s.C.length:=by simp
 have Vq:s.cn=true->s.C.map (gr s.Q v)=[]:=λh=>by rw[hs.cn h];rfl
 generalize s.C.map (gr s.Q v)=C' at *;generalize pW v s.Q=wn at *;generalize pO s.Q=ot' at *;generalize (busy s.Q||fl sz s.C s.Q)=bf at *;obtain⟨own,cnt,time,hn,H,qn,Q,bn,B',cn,C,cl,val⟩:=s;simp only at hC hE gP hO hs hl Vq⊢;have yA:cn=true->C=[]:=hs.cn;have ij:List.take C.length (C'.map K.row)=C'.map K.row:=gC (by simp[hl])
 have jT:C.length<=C'.length:=by omega
 rw[au E1 rfl];cases bf
 .cases qn
  .cases cn<;>rcases wn with _ |⟨w,wn⟩
   all_goals
    simp[dh,bD,bM]at gP;simp[dh,pR,bH,fH,ia,ud,bD,bM,eV,hl,qO,up]at hO;simp[nu,hC,hE,gP,hO,aJ,aA,sub,aE,back,aY,bg,ak,cut,dy,dz,eH,cq,an,bk,az,V.aZ,eK,fN,Rp.row,S.put,gZ,ez,ij,Vq,jT]
  .obtain rfl:=hs.qn rfl
   cases cn<;>rcases wn with _ |⟨w,wn⟩;all_goals
    simp[dh,bD,bM]at gP;simp[dh,pR,bH,fH,ia,ud,bD,bM,eV,hl,qO,up]at hO;simp[nu,hC,hE,gP,hO,aJ,aA,sub,aE,back,aY,bg,ak,cut,dy,dz,eH,cq,an,bk,az,V.aZ,eK,fN,Rp.row,S.put,gZ,ez,ij,Vq,jT]
 .cases qn
  .cases cn
   .skip
    simp[dh,bD,bM]at gP;simp[dh,wB,bD,bM,eV,up]at hO;simp[nu,hC,hE,gP,hO,aJ,aA,sub,aE,back,aY,bg,ak,cut,dy,dz,eH,cq,an,bk,az,V.aZ,eK,fN,Rp.row,S.put,gZ,ez]
   .obtain rfl:=yA rfl
    simp[dh,bD,bM]at gP;simp[dh,wB,bD,bM,eV,up]at hO;simp[nu,hC,hE,gP,hO,aJ,aA,sub,aE,back,aY,bg,ak,cut,dy,dz,eH,cq,an,bk,az,V.aZ,eK,fN,Rp.row,S.put,gZ,ez]
  .obtain rfl:=hs.qn rfl
   cases cn
   .skip
    simp[dh,bD,bM]at gP;simp[dh,wB,bD,bM,eV,up]at hO;simp[nu,hC,hE,gP,hO,aJ,aA,sub,aE,back,aY,bg,ak,cut,dy,dz,eH,cq,an,bk,az,V.aZ,eK,fN,Rp.row,S.put,gZ,ez]
   .obtain rfl:=yA rfl
    simp[dh,bD,bM]at gP;simp[dh,wB,bD,bM,eV,up]at hO;simp[nu,hC,hE,gP,hO,aJ,aA,sub,aE,back,aY,bg,ak,cut,dy,dz,eH,cq,an,bk,az,V.aZ,eK,fN,Rp.row,S.put,gZ,ez]
end Go.VS.Sp
namespace Go.VS.Sp
theorem Vr{A B:List K}{c d:K}:(A++c::B).set A.length d=A++d::B:=by simp
set_option maxHeartbeats 4000000 in
theorem aoU(nm:D)(k sz ot:Int)(s:S)(hs:s.wz)(t v p n:Int)(hc:fM k sz ot s=0)(he:jB s t 70 v p n=0):
  ev P (.call vJ [.d (.ag [nm,I' k,I' sz,I' ot]),.d (.ag s.row),.d (.ag [I' t,I' 70,I' v,I' p,I' n])] [])=some (.val (.tu [.d (.ag (ap k sz ot s t 70 v p n).1.row),.d (I' (ap k sz ot s t 70 v p n).2)]) []):=by
 have hC:=qy nm k sz ot s hs.sm;have hE:=Jq s hs.sm t 70 v p n;rw[hc]at hC;rw[he]at hE;obtain⟨A,c,B,hS,hf,Vs⟩:=Gj (Gk he (.inr rfl));have gP:=OI s.z nm (I' k) (I' ot) sz s.qn s.Q s.cn s.C hs.qn hs.cn (by have:=hs.q;omega) (by have:=hs.c;omega)
 have sI:s.cn=false:=by
  cases h:s.cn
  .rfl
  .have:=hs.cn h;rw[hS]at this;simp at this
 have eN:((A.length:Int)).toNat=A.length:=by omega
 cases iW:c.log with
 |cons x lg =>
  have e:ap k sz ot s t 70 v p n=(⟨s.put (cR sz s.qn s.Q (A++⟨c.task,false,lg⟩::B)),false,x,true,decide ((cR sz s.qn s.Q (A++⟨c.task,false,lg⟩::B)).wn=[]),(cR sz s.qn s.Q (A++⟨c.task,false,lg⟩::B)).wn⟩,0):=by
   have e2:s.C.set (jR s.C t).toNat ⟨c.task,false,lg⟩=A++⟨c.task,false,lg⟩::B:=by rw[hf,eN,hS];exact Vr
   rw[<-e2];simp[ap,hc,he,Vs,iW]
  rw[e];have hO:=aoP s.z sz s.qn s.Q s.C A B c t 70 v p n x lg hS hf iW hs.qn hs.q hs.c hs.l;have hl:(cR sz s.qn s.Q (A++⟨c.task,false,lg⟩::B)).C.length=A.length+(B.length+1):=(zX sz _ _).trans (by simp)
  have dL:s.C.length=A.length+(B.length+1):=by rw[hS];simp
  generalize cR sz s.qn s.Q (A++⟨c.task,false,lg⟩::B)=a at *;clear e;obtain⟨own,cnt,time,hn,H,qn,Q,bn,B',cn,C,cl,val⟩:=s;obtain⟨oc,Q',C',wn⟩:=a;simp only at hC hE gP hO hs hl sI hS dL⊢;subst sI;have ij:List.take C.length (C'.map K.row)=C'.map K.row:=gC (by simp;omega)
  have jT:C.length<=C'.length:=by omega
  rw[<-dL]at hl;rw[au E1 rfl];cases qn
  .rcases wn with _ |⟨w,wn⟩
   all_goals
    simp[dh,bD,bM]at gP;simp[dh,pR,bH,fH,ia,bD,bM,eV,hl,up]at hO;simp[nu,hC,hE,gP,hO,aJ,aA,sub,aE,back,aY,bg,ak,cut,dy,dz,eH,cq,an,bk,az,V.aZ,eK,fN,Rp.row,S.put,gZ,ez,ij,jT]
  .obtain rfl:=hs.qn rfl
   rcases wn with _ |⟨w,wn⟩;all_goals
    simp[dh,bD,bM]at gP;simp[dh,pR,bH,fH,ia,bD,bM,eV,hl,up]at hO;simp[nu,hC,hE,gP,hO,aJ,aA,sub,aE,back,aY,bg,ak,cut,dy,dz,eH,cq,an,bk,az,V.aZ,eK,fN,Rp.row,S.put,gZ,ez,ij,jT]
 |nil =>
  have hok:Ad.ok none ⟨false,s.Q++[W.mk t 70 0 p (-1)],[],[]⟩:=by
   have:=hs.q;refine⟨λ_=>rfl,by simp,by simp,by simp;omega,by simp⟩
  have Aw:Ad.ok (some []) ⟨false,s.Q++[W.mk t 70 0 p (-1)],s.C,[]⟩:=by
   have hq:=hs.q;have zH:=hs.c;refine⟨?_,?_,?_,?_,?_⟩
   .intro h;cases h
   .simp only;omega
   .intro d hd
    have:=hs.l d hd;refine⟨this.1,?_⟩;simp;omega
   .simp;omega
   .intro h;cases h
  have yB:(cR sz false (s.Q++[W.mk t 70 0 p (-1)]) s.C).wn.length<=100000:=by
   have:=(aoO (some []) sz ((s.Q++[W.mk t 70 0 p (-1)]).length+1) _ Aw).2.2.2.1;unfold cR;omega
  have hO:=aoQ s.z sz s.qn s.Q s.C A B c t 70 v p n hS hf iW hs.qn hs.q hs.c hs.l yB;have hl:(cR sz false (s.Q++[W.mk t 70 0 p (-1)]) s.C).C.length=s.C.length:=zX sz _ _;have e:ap k sz ot s t 70 v p n=match got (cR sz false (s.Q++[W.mk t 70 0 p (-1)]) s.C).wn t with
    |none=>(⟨s.put (cR sz false (s.Q++[W.mk t 70 0 p (-1)]) s.C),true,0,false,decide ((cR sz false (s.Q++[W.mk t 70 0 p (-1)]) s.C).wn=[]),(cR sz false (s.Q++[W.mk t 70 0 p (-1)]) s.C).wn⟩,0)
    |some x=>(⟨s.put (cR sz false (s.Q++[W.mk t 70 0 p (-1)]) s.C),false,x.1,true,false,x.2⟩,0):=by
   first
   |(simp[ap,hc,he,Vs,iW];done)
   |(
    simp[ap,hc,he,Vs,iW];cases got (cR sz false (s.Q++[W.mk t 70 0 p (-1)]) s.C).wn t<;>rfl)
  rw[e];clear yB hok Aw;generalize cR sz false (s.Q++[W.mk t 70 0 p (-1)]) s.C=a at *;clear e;obtain⟨own,cnt,time,hn,H,qn,Q,bn,B',cn,C,cl,val⟩:=s;obtain⟨oc,Q',C',wn⟩:=a;simp only at hC hE gP hO hs hl sI hS⊢;subst sI;have ij:List.take C.length (C'.map K.row)=C'.map K.row:=gC (by simp;omega)
  have jT:C.length<=C'.length:=by omega
  rw[au E1 rfl];cases hg:got wn t with
  |none =>
   rw[hg]at hO;cases qn
   .rcases wn with _ |⟨w,wn⟩
    all_goals
     simp[dh,bD,bM]at gP;simp[dh,nB,mW,bD,bM,eV,hl,up]at hO;simp[nu,hC,hE,gP,hO,aJ,aA,sub,aE,back,aY,bg,ak,cut,dy,dz,eH,cq,an,bk,az,V.aZ,eK,fN,Rp.row,S.put,gZ,ez,ij,jT]
   .obtain rfl:=hs.qn rfl
    rcases wn with _ |⟨w,wn⟩;all_goals
     simp[dh,bD,bM]at gP;simp[dh,nB,mW,bD,bM,eV,hl,up]at hO;simp[nu,hC,hE,gP,hO,aJ,aA,sub,aE,back,aY,bg,ak,cut,dy,dz,eH,cq,an,bk,az,V.aZ,eK,fN,Rp.row,S.put,gZ,ez,ij,jT]
  |some x =>
   rw[hg]at hO;cases qn
   .simp[dh,bD,bM]at gP
    simp[dh,nB,mW,bD,bM,eV,hl,up]at hO;simp[nu,hC,hE,gP,hO,aJ,aA,sub,aE,back,aY,bg,ak,cut,dy,dz,eH,cq,an,bk,az,V.aZ,eK,fN,Rp.row,S.put,gZ,ez,ij,jT]
   .obtain rfl:=hs.qn rfl
    simp[dh,bD,bM]at gP;simp[dh,nB,mW,bD,bM,eV,hl,up]at hO;simp[nu,hC,hE,gP,hO,aJ,aA,sub,aE,back,aY,bg,ak,cut,dy,dz,eH,cq,an,bk,az,V.aZ,eK,fN,Rp.row,S.put,gZ,ez,ij,jT]
theorem aoV(nm:D)(k sz ot:Int)(s:S)(hs:s.wz)(t op v p n:Int):
  ev P (.call vJ [.d (.ag [nm,I' k,I' sz,I' ot]),.d (.ag s.row),.d (.ag [I' t,I' op,I' v,I' p,I' n])] [])=some (.val (.tu [.d (.ag (ap k sz ot s t op v p n).1.row),.d (I' (ap k sz ot s t op v p n).2)]) []):=by
 by_cases hc:fM k sz ot s=0
 .by_cases he:jB s t op v p n=0
  .rcases Vp he with rfl |rfl |rfl |rfl
   .exact aoT nm k sz ot s hs t v p n hc he
   .exact aoR nm k sz ot s hs t v p n hc he
   .exact aoU nm k sz ot s hs t v p n hc he
   .exact aoS nm k sz ot s hs t v p n hc he
  .exact OB nm k sz ot s hs t op v p n (.inr he)
 .exact OB nm k sz ot s hs t op v p n (.inl hc)
end Go.VS.Sp
namespace Go.VS.Sp
theorem eqv{α:Type}{a b:α}(h:∀R,b=R->a=R):a=b:=h _ rfl
end Go.VS.Sp
namespace Go.VS.Sp
structure BE where
 qn:Bool
 Q:List W
 cn:Bool
 C:List K
 wn:List cC
def BE.step(a:BE)(w:W):BE:=⟨false,pO (a.Q.filter λx=>x.task != w.task),false,a.C.map (gr (a.Q.filter λx=>x.task != w.task) w.value),a.wn++⟨w.task,w.op,0⟩::pW w.value (a.Q.filter λx=>x.task != w.task)⟩
def BE.ok(a:BE):Prop :=
 a.C.length<=100000/\(∀c∈a.C,(c.nl=true->c.log=[])/\c.log.length+a.Q.length<=100000)/\a.Q.length+a.wn.length<=90000
theorem aoW{Q:List W}{A B:List W}{w:W}(hQ:Q=A++w::B):(Q.filter λx=>x.task != w.task).length<Q.length:=by
 have h1:=vw (λx:W=>x.task != w.task) A
 have h2:=vw (λx:W=>x.task != w.task) B
 rw[hQ];simp[WI];omega
theorem BE.Vn{a:BE}{A B:List W}{w:W}(hQ:a.Q=A++w::B)(hok:a.ok):(a.step w).ok:=by
 obtain⟨hc,hC,hw⟩:=hok;have hlt:=aoW hQ;unfold BE.step;generalize (a.Q.filter λx=>x.task != w.task)=Q' at *
 have hl:=Gi Q';have kL:=DH w.value Q';refine⟨?_,?_,?_⟩
 .simp;exact hc
 .intro c iC
  simp only at iC⊢;obtain⟨c0,hc0,rfl⟩:=gV.1 iC;have:=hC c0 hc0;unfold gr;split
  .exact⟨this.1,by omega⟩
  .refine⟨by simp,?_⟩
   simp only[lT,uk];omega
 .simp only[lT,iy]
  omega
end Go.VS.Sp
namespace Go.VS.Sp
end Go.VS.Sp
namespace Go.VS.Sp
end Go.VS.Sp
namespace Go.VS.Sp
end Go.VS.Sp
namespace Go.VS.Sp
end Go.VS.Sp
namespace Go.VS.Sp
theorem wOK{t op v p n:Int}(hb:BA t p n=false)(ho:68<=op/\op<=71)(hv:num v=true):dO ⟨t,op,v,p,-1⟩=true:=by
 unfold BA at hb;unfold num at hv;simp at hb hv;unfold dO kE;simp;omega
theorem aoX{s:S}{t op v p n:Int}(h:jB s t op v p n=0):BA t p n=false:=by
 unfold jB at h;split at h
 .cases h
 .rename_i h2;simpa using h2
theorem Vt{s:S}{t v p n:Int}(h:jB s t 68 v p n=0):num v=true:=by
 unfold jB at h;split at h
 .cases h
 .split at h
  .cases h
  .split at h
   .cases h
   .rename_i h2
    simp at h2;exact h2
theorem aoY{k sz ot:Int}{s:S}(h:fM k sz ot s=0):dQ k sz ot=0/\s.good sz=true:=by
 unfold fM at h;split at h
 .rename_i h1
  refine⟨h1,?_⟩;cases hg:s.good sz
  .rw[hg]at h;simp at h
  .rfl
 .rename_i h1;exact absurd h h1
end Go.VS.Sp
namespace Go.VS.Sp
structure S.same(s s':S):Prop where
 own:s.own=s'.own
 cnt:s.cnt=s'.cnt
 time:s.time=s'.time
 H:s.H=s'.H
 Q:s.Q=s'.Q
 B:s.B=s'.B
 C:s.C=s'.C
 cl:s.cl=s'.cl
 val:s.val=s'.val
theorem S.same.refl(s:S):s.same s:=⟨rfl,rfl,rfl,rfl,rfl,rfl,rfl,rfl,rfl⟩
structure Rp.same(r r':Rp):Prop where
 st:r.st.same r'.st
 parked:r.parked=r'.parked
 value:r.value=r'.value
 ok:r.ok=r'.ok
 wn:r.wn=r'.wn
end Go.VS.Sp
namespace Go.VS.Sp
def tks(Q:List W):List Int:=Q.map (·.task)
theorem aoZ{A B:List W}{w:W}(h:(tks (A++w::B)).Nodup):(tks (A++B)).Nodup:=by
 have:(A++B).Sublist (A++w::B):=Gx (Am A) (Gy w B)
 exact h.sublist (this.map _)
theorem ao0{Q:List W}(h:(tks Q).Nodup):(tks (pO Q)).Nodup:=h.sublist (BW.map _)
theorem Vu{A B:List W}{w:W}{t:Int}(h:w.op=68):jl (A++w::B) t 70=jl (A++B) t 70:=by
 unfold jl;simp[h]
def fits(sz:Int)(C:List K):Prop:=∀c∈C,(c.log.length:Int)<=sz
theorem ao1{sz:Int}{C:List K}{Q A B:List W}{w:W}(hQ:Q=A++w::B)(eZ:w.op=68)(hf:fl sz C Q=false)(h:fits sz C):fits sz (C.map (gr (A++B) w.value)):=by
 intro c hc;obtain⟨c0,hc0,rfl⟩:=gV.1 hc;unfold gr;cases hw:jl (A++B) c0.task 70
 .have h1:=h c0 hc0
  have:((c0.log.length:Int)==sz&&!jl Q c0.task 70)=false:=by
   unfold fl at hf;rw[qQ]at hf;simpa using hf c0 hc0
  rw[hQ,Vu eZ,hw]at this;simp at this;simp;omega
 .simp
  exact h c0 hc0
end Go.VS.Sp
namespace Go.VS.Sp
theorem ao2{s:S}{t op v p n:Int}(h:jB s t op v p n=0):∀w∈s.Q,w.task≠t:=by
 unfold jB at h;split at h
 .cases h
 .split at h
  .cases h
  .split at h
   .cases h
   .split at h
    .cases h
    .rename_i h4
     intro w hw e;apply h4;exact rV.2 ⟨w,hw,by simpa using e⟩
theorem ao3{Q:List W}{w:W}(h:(tks Q).Nodup)(hw:∀x∈Q,x.task≠w.task):(tks (Q++[w])).Nodup:=by
 unfold tks at *;rw[vD,List.nodup_append];refine⟨h,by simp,?_⟩
 intro a ha b hb;simp at hb;subst hb;obtain⟨x,hx,rfl⟩:=gV.1 ha;exact hw x hx
end Go.VS.Sp
namespace Go.VS.Sp
def Ad.OM(L M:Nat)(a:Ad):Prop:=(∀c∈a.C,(c.nl=true->c.log=[])/\c.log.length+a.Q.length<=L)/\a.Q.length+a.wn.length<=M/\(a.qn=true->a.Q=[])
theorem Ad.ao4{L M:Nat}{a:Ad}{A B:List W}{w:W}(hQ:a.Q=A++w::B)(h:lF a.Q=(A.length:Int))(hok:a.OM L M):(a.step w).OM L M:=by
 obtain⟨hC,hw,jW⟩:=hok;have mX:Q1 a.Q=A++B:=by rw[hQ];exact DG (by rw[<-hQ];exact h)
 have hl:=Gi (A++B);have kL:=DH w.value (A++B);have Js:a.Q.length=A.length+(B.length+1):=by rw[hQ];simp
 simp only[lT]at hl kL;refine⟨?_,?_,?_⟩
 .intro c iC
  simp only[Ad.step]at iC⊢;obtain⟨c0,hc0,rfl⟩:=gV.1 iC;have:=hC c0 hc0;rw[mX]at *;unfold gr;split
  .exact⟨this.1,by omega⟩
  .refine⟨by simp,?_⟩
   simp only[lT,uk];omega
 .simp only[Ad.step,lT,iy]
  rw[mX];omega
 .simp[Ad.step]
theorem ao5(L M:Nat)(sz:Int):∀(n:Nat)(a:Ad),a.OM L M->(gU sz n a).OM L M
 | 0,a,h=>h
 |n+1,a,h=>by
  unfold gU;split
  .exact h
  .rename_i hn
   rcases DF a.Q with⟨h1,_⟩ |⟨A,B,w,hQ,hp,_⟩
   .exfalso;apply hn;left;omega
   .have e:((A.length:Int)).toNat=A.length:=by omega
    have hg:a.Q[(lF a.Q).toNat]?=some w:=by rw[hp,e,hQ];simp
    rw[hg];exact ao5 L M sz n _ (Ad.ao4 hQ hp h)
structure S.xj(s:S)(q c l:Nat):Prop where
 h:s.H.length<=1000
 b:s.B.length<=1000
 q:s.Q.length<=q
 c:s.C.length<=c
 l:∀c∈s.C,(c.nl=true->c.log=[])/\c.log.length<=l
 qn:s.qn=true->s.Q=[]
 cn:s.cn=true->s.C=[]
theorem S.xj.wz{s:S}{q c l:Nat}(h:s.xj q c l)(h1:q<=1000)(h2:c<=1000)(h3:l<=1000):s.wz :=
 ⟨h.h,h.b,by have:=h.q;omega,by have:=h.c;omega,λc hc=>by have:=h.l c hc;exact⟨this.1,by omega⟩,h.qn,h.cn⟩
theorem S.xj.mono{s:S}{q c l q' c' l':Nat}(h:s.xj q c l)(h1:q<=q')(h2:c<=c')(h3:l<=l'):s.xj q' c' l' :=
 ⟨h.h,h.b,by have:=h.q;omega,by have:=h.c;omega,λc hc=>by have:=h.l c hc;exact⟨this.1,by omega⟩,h.qn,h.cn⟩
theorem Vv{s:S}(sz:Int)(qn:Bool)(Q:List W)(C:List K){q c l:Nat}(h1:s.H.length<=1000)(h2:s.B.length<=1000)(hq:Q.length<=q)(hc:C.length<=c)(hl:∀c∈C,(c.nl=true->c.log=[])/\c.log.length<=l)(jW:qn=true->Q=[])(sI:s.cn=true->C=[]):
  (s.put (cR sz qn Q C)).xj q c (l+q)/\(cR sz qn Q C).wn.length<=q:=by
 obtain⟨o1,o2,o3⟩:=ao5 (l+q) q sz (Q.length+1) ⟨qn,Q,C,[]⟩ ⟨λc hc=>by have:=hl c hc;exact⟨this.1,by simp only;omega⟩,by simp;omega,jW⟩
 have hlen:(cR sz qn Q C).C.length=C.length:=zX sz _ _;change ∀c∈(cR sz qn Q C).C,(c.nl=true->c.log=[])/\c.log.length+(cR sz qn Q C).Q.length<=l+q at o1;change(cR sz qn Q C).Q.length+(cR sz qn Q C).wn.length<=q at o2;change(cR sz qn Q C).qn=true->(cR sz qn Q C).Q=[]at o3;refine⟨⟨h1,h2,by simp only;omega,by simp only;omega,λc hc=>⟨(o1 c hc).1,by have:=(o1 c hc).2;omega⟩,o3,?_⟩,by omega⟩
 intro h;have e:=sI h
 have:(cR sz qn Q C).C.length=0:=by rw[hlen,e];rfl
 exact xy.1 this
theorem ao6{l:List cC}{t:Int}{x:Int×List cC}(h:got l t=some x):x.2.length<=l.length:=by
 unfold got at h;split at h
 .cases h
 .cases hg:l[(qJ l t).toNat]? with
  |none=>rw[hg]at h;cases h
  |some w =>
   rw[hg]at h;simp at h;rw[<-h];exact(WN l _).length_le
def Rp.xj(r:Rp)(q c l:Nat):Prop:=r.st.xj q c l/\r.wn.length<=q
theorem Vw(q c l:Nat):sO.xj q c l:=by
 refine⟨⟨by simp[sO,S0],by simp[sO,S0],by simp[sO,S0],by simp[sO,S0],by simp[sO,S0],by simp[sO,S0],by simp[sO,S0]⟩,by simp[sO]⟩
theorem ao7{C:List K}{t:Int}{c:K}(h:c∈mj C t):c=⟨t,true,[]⟩\/c∈C:=by
 unfold mj at h;rw[dj,dA]at h;rcases h with h |h |h
 .exact .inr (nN h)
 .exact .inl h
 .exact .inr (mO h)
theorem ao8(C:List K)(t:Int):(mj C t).length=C.length+1:=by
 have:=aov C t;simp[mj];omega
theorem DJ{C:List K}{t:Int}{c:K}(h:mD C t=some c):c∈C:=Pu h
theorem ao9{k sz ot:Int}{s:S}{t op v p n:Int}{q c l:Nat}(h:s.xj q c l):(ap k sz ot s t op v p n).1.xj (q+1) (c+1) (l+q+1):=by
 unfold ap;by_cases hc:fM k sz ot s=0
 .by_cases he:jB s t op v p n=0
  .simp only[hc,he,ne_eq,J1,dI]
   by_cases kJ:op=69
   .simp only[kJ,dF]
    refine⟨⟨h.h,h.b,by have:=h.q;simp only;omega,by have:=h.c;simp only[ao8];omega,?_,h.qn,by simp⟩,by simp⟩
    intro d hd;rcases ao7 hd with rfl |hd
    .exact⟨by simp,by simp⟩
    .have:=h.l d hd;exact⟨this.1,by omega⟩
   .simp only[kJ,dI]
    by_cases l6:op=71
    .simp only[l6,dF]
     have hk:=Vv (s:=s) sz s.qn s.Q (del s.C t) h.h h.b h.q (c:=c) (l:=l) (by have:=h.c;have:=(WN s.C (jR s.C t).toNat).length_le;unfold del;omega)
      (λd hd=>h.l d (List.mem_of_mem_eraseIdx hd)) h.qn (λe=>by unfold del;rw[h.cn e];rfl)
     exact⟨hk.1.mono (by omega) (by omega) (by omega),by have:=hk.2;simp only;omega⟩
    .simp only[l6,dI]
     by_cases eZ:op=68
     .simp only[eZ,dF]
      split
      .refine⟨⟨h.h,h.b,by have:=h.q;simp;omega,by have:=h.c;simp only;omega,?_,by simp,h.cn⟩,by simp⟩
       intro d hd;have:=h.l d hd;exact⟨this.1,by omega⟩
      .have h1:=DH v s.Q
       refine⟨⟨h.h,h.b,by have:=h.q;simp only;omega,by have:=h.c;simp;omega,?_,by simp,λe=>by simp only;rw[h.cn e];rfl⟩,by have:=h.q;simp only;omega⟩
       intro d hd;obtain⟨c0,hc0,rfl⟩:=gV.1 hd;have:=h.l c0 hc0;unfold gr;split
       .exact⟨this.1,by omega⟩
       .refine⟨by simp,?_⟩
        simp only[lT,uk];omega
     .simp only[eZ,dI]
      cases hk:mD s.C t with
      |none=>exact Vw _ _ _
      |some c0 =>
       simp only;have iC:=DJ hk;cases iW:c0.log with
       |cons x lg =>
        simp only;have hk:=Vv (s:=s) sz s.qn s.Q (s.C.set (jR s.C t).toNat ⟨c0.task,false,lg⟩) h.h h.b h.q (c:=c) (l:=l) (by have:=h.c;simp;omega) (by
         intro d hd;rcases JQ hd with hd |rfl
         .exact h.l d hd
         .refine⟨by simp,?_⟩
          have:=(h.l c0 iC).2;rw[iW]at this;simp at this⊢;omega) h.qn (λe=>by have:=h.cn e;rw[this]at iC;cases iC)
        exact⟨hk.1.mono (by omega) (by omega) (by omega),by have:=hk.2;simp only;omega⟩
       |nil =>
        simp only;have hk:=Vv (s:=s) sz false (s.Q++[W.mk t op 0 p (-1)]) s.C (q:=q+1) h.h h.b (by have:=h.q;simp;omega) h.c h.l (by simp) h.cn
        cases hg:got (cR sz false (s.Q++[W.mk t op 0 p (-1)]) s.C).wn t with
        |none=>exact⟨hk.1.mono (by omega) (by omega) (by omega),hk.2⟩
        |some y=>exact⟨hk.1.mono (by omega) (by omega) (by omega),by have:=ao6 hg;have:=hk.2;simp only;omega⟩
  .simp[hc,he]
   exact Vw _ _ _
 .simp[hc]
  exact Vw _ _ _
end Go.VS.Sp
namespace Go.VS.Sp
def s0:S:=⟨-1,0,0,true,[],true,[],true,[],true,[],false,0⟩
abbrev tCl:=Int×Int×Int
def tCl.row(c:tCl):List D:=[I' c.1,I' c.2.1,I' c.2.2,I' 0,I' 0]
end Go.VS.Sp
namespace Go.VS.Sp
end Go.VS.Sp
namespace Go.VS.Sp
def Vx(sz:Int)(p:Option K)(C:List K):Prop:=C.Pairwise (λa b=>a.task<b.task)/\(∀c∈C,0<=c.task/\c.task<16/\(c.log.length:Int)<=sz/\c.log.all num=true)/\∀x∈p,∀c∈C,x.task<c.task
theorem apa{sz:Int}:∀(C:List K)(p:Option K),vc sz p C=true↔Vx sz p C
 | [],p=>by simp[vc,Vx]
 |c::C,p=>by
  have e1:vc sz p (c::C)=(!lE sz p c&&(c.log.all num&&vc sz (some c) C)):=rfl;have ek:lE sz p c=false↔(0<=c.task/\c.task<16/\(c.log.length:Int)<=sz/\∀x∈p,x.task<c.task):=by
   unfold lE;cases p with
   |none=>simp;omega
   |some q=>simp;omega
  rw[e1];simp only[bJ,kX,ek,apa C (some c)];unfold Vx;simp only[gH,dA,forall_eq_or_imp,Option.mem_def,gw,forall_eq'];constructor
  .rintro⟨⟨a1,a2,a3,a4⟩,b,c1,c2,c3⟩
   exact⟨⟨c3,c1⟩,⟨⟨a1,a2,a3,b⟩,c2⟩,λx hx=>⟨a4 x hx,λd hd=>by have:=a4 x hx;have:=c3 d hd;omega⟩⟩
  .rintro⟨⟨c3,c1⟩,⟨⟨a1,a2,a3,b⟩,c2⟩,h⟩
   exact⟨⟨a1,a2,a3,λx hx=>(h x hx).1⟩,b,c1,c2,c3⟩
structure iH(sz:Int)(C:List K):Prop where
 pw:C.Pairwise (λa b=>a.task<b.task)
 el:∀c∈C,0<=c.task/\c.task<16/\(c.log.length:Int)<=sz/\c.log.all num=true
theorem apb{sz:Int}{C:List K}:vc sz none C=true↔iH sz C:=by
 rw[apa];exact⟨λh=>⟨h.1,h.2.1⟩,λh=>⟨h.pw,h.el,by simp⟩⟩
structure lR(sz:Int)(Q:List W)(C:List K):Prop where
 kj:iH sz C
 val:∀w∈Q,dO w=true
 len:Q.length<=96
 nd:(tks Q).Nodup
 cs:∀w∈Q,w.case = -1/\(w.op=70/\vY C w=true\/w.op=68)
def Gd(sz:Int)(Q:List W)(C:List K):Prop:=lR sz Q C/\((∃w∈Q,w.op=68)->fl sz C Q=true)
theorem apc:∀(l:List W)(p:Option W),fR 1 p l=0↔∀w∈l,dO w=true
 | [],p=>by simp[fR]
 |w::l,p=>by
  unfold fR;cases hv:dO w
  .simp[hv]
  .simp[hv,apc l]
theorem yy{Q:List W}:dY Q=0↔Q.length<=96/\∀w∈Q,dO w=true:=by
 unfold dY;by_cases h:96<Q.length
 .rw[aK h]
  constructor
  .intro h;cases h
  .intro h';omega
 .rw[aD h,apc]
  constructor
  .intro h';exact⟨by omega,h'⟩
  .intro h';exact h'.2
theorem apd{sz:Int}{C:List K}{Q:List W}:∀(suf pre:List W),tq sz C Q pre suf=true ↔
  ((∀x∈pre,∀w∈suf,x.task≠w.task)/\(tks suf).Nodup/\∀w∈suf,w.case = -1/\sA sz C Q w=true)
 | [],pre=>by simp[tq,tks]
 |w::suf,pre=>by
  have e1:tq sz C Q pre (w::suf)=(!pre.any (λx=>x.task==w.task)&&(w.case == -1&&(sA sz C Q w&&tq sz C Q (pre++[w]) suf))):=rfl
  have e2:(!pre.any (λx=>x.task==w.task))=true↔∀x∈pre,x.task≠w.task:=by simp
  rw[e1];simp only[bJ,e2,apd suf (pre++[w]),dN];have e3:(tks (w::suf)).Nodup↔(∀x∈suf,w.task≠x.task)/\(tks suf).Nodup:=by
   unfold tks;rw[gk,D3];simp only[gV,not_exists,not_and];constructor
   .rintro⟨a,b⟩;exact⟨λx hx e=>a x hx e.symm,b⟩
   .rintro⟨a,b⟩;exact⟨λx hx e=>a x hx e.symm,b⟩
  rw[e3];simp only[dj,dA,List.not_mem_nil,or_false,forall_eq_or_imp];constructor
  .rintro⟨a,b,c,d,e,f⟩
   exact⟨λx hx=>⟨a x hx,λy hy=>d x (.inl hx) y hy⟩,⟨λy hy=>d w (.inr rfl) y hy,e⟩,⟨b,c⟩,f⟩
  .rintro⟨a,⟨b,c⟩,⟨d,e⟩,f⟩
   exact⟨λx hx=>(a x hx).1,d,e,λx hx y hy=>by
    rcases hx with hx |rfl
    .exact(a x hx).2 y hy
    .exact b y hy,c,f⟩
theorem ape{sz:Int}{s:S}:s.good sz=true↔(s.own = -1/\s.uO=false/\Gd sz s.Q s.C):=by
 unfold S.good Gd;simp only[bJ,dN,kX,apb,yy,apd];constructor
 .rintro⟨⟨a,b,⟨c,d⟩,_,e,f⟩,g⟩
  refine⟨a,g,⟨b,d,c,e,?_⟩,?_⟩
  .intro w hw
   obtain⟨h1,h2⟩:=f w hw;refine⟨h1,?_⟩;unfold sA at h2;by_cases fG:w.op=70
   .rw[aK fG]at h2;exact .inl ⟨fG,h2⟩
   .rw[aD fG]at h2
    by_cases eZ:w.op=68
    .exact .inr eZ
    .rw[aD eZ]at h2;cases h2
  .rintro⟨w,hw,eZ⟩
   obtain⟨_,h2⟩:=f w hw;simpa[sA,eZ]using h2
 .rintro⟨a,g,⟨b,d,c,e,f⟩,h⟩
  refine⟨⟨a,b,⟨c,d⟩,by simp,e,?_⟩,g⟩
  intro w hw;obtain⟨h1,h2⟩:=f w hw;refine⟨h1,?_⟩;rcases h2 with⟨fG,h2⟩ |eZ
  .simp[sA,fG,h2]
  .simp[sA,eZ,h ⟨w,hw,eZ⟩]
end Go.VS.Sp
namespace Go.VS.Sp
theorem apf{n:Int}:num n=true↔-1099511627776<=n/\n<=1099511627776:=by
 unfold num;simp
theorem DK{w:W}(h:dO w=true):num w.value=true:=by
 unfold dO kE at h;simp at h;rw[apf];omega
theorem ON{Q:List W}{w:W}(h:w∈pO Q):w∈Q/\w.op≠70:=by
 unfold pO at h;rw[pg]at h;simpa using h
theorem OO{sz:Int}{C:List K}{f:K->K}(h:iH sz C)(ht:∀c,(f c).task=c.task)(hf:∀c∈C,((f c).log.length:Int)<=sz/\(f c).log.all num=true):iH sz (C.map f):=by
 refine⟨?_,?_⟩
 .rw[GG]
  exact h.pw.imp (fun{a b} hab=>by rw[ht,ht];exact hab)
 .intro c hc
  obtain⟨c0,hc0,rfl⟩:=gV.1 hc;have:=h.el c0 hc0;rw[ht];exact⟨this.1,this.2.1,hf c0 hc0⟩
theorem apg(Q:List W)(v:Int)(c:K):(gr Q v c).task=c.task:=by
 unfold gr;split<;>rfl
theorem lR.step{sz:Int}{Q A B:List W}{C:List K}{w:W}(h:lR sz Q C)(hQ:Q=A++w::B)(eZ:w.op=68)(hf:fl sz C Q=false):lR sz (pO (A++B)) (C.map (gr (A++B) w.value)):=by
 have hfit:fits sz C:=λc hc=>(h.kj.el c hc).2.2.1
 have hfs:=ao1 hQ eZ hf hfit;have ug:num w.value=true:=DK (h.val w (by rw[hQ];simp))
 have hsub:∀x∈A++B,x∈Q:=by
  intro x hx;rw[hQ];rw[dj]at hx;rcases hx with hx |hx<;>simp[hx]
 refine⟨OO h.kj (apg _ _) ?_,?_,?_,?_,?_⟩
 .intro c hc
  refine⟨hfs _ (gV.2 ⟨c,hc,rfl⟩),?_⟩;have:=(h.kj.el c hc).2.2.2;unfold gr;split
  .exact this
  .simp only[JP,this,xx,ug,PG,PI]
 .intro x hx
  exact h.val x (hsub x (ON hx).1)
 .have h1:=Gi (A++B)
  have h2:=h.len;rw[hQ]at h2;simp at h1 h2;omega
 .exact ao0 (aoZ (by rw[<-hQ];exact h.nd))
 .intro x hx
  obtain⟨hx1,mE⟩:=ON hx;obtain⟨a,b⟩:=h.cs x (hsub x hx1);refine⟨a,?_⟩;rcases b with⟨b,_⟩ |b
  .exact absurd b mE
  .exact .inr b
theorem aph{Q:List W}(h:lF Q<0):¬∃w∈Q,w.op=68:=by
 have:=afU (Q:=Q);rw[Pg h]at this;rintro⟨w,hw,eZ⟩;have h2:(Q.any λw=>w.op==68)=true:=rV.2 ⟨w,hw,by simpa using eZ⟩
 rw[h2]at this;cases this
theorem api(sz:Int):∀(n:Nat)(a:Ad),a.Q.length<n->lR sz a.Q a.C->Gd sz (gU sz n a).Q (gU sz n a).C
 | 0,a,hn,_=>by omega
 |n+1,a,hn,h=>by
  unfold gU;by_cases hc:lF a.Q<0\/fl sz a.C a.Q=true
  .rw[aK hc]
   refine⟨h,?_⟩;intro he;rcases hc with hc |hc
   .exact absurd he (aph hc)
   .exact hc
  .rw[aD hc]
   rcases DF a.Q with⟨h1,_⟩ |⟨A,B,w,hQ,hp,eZ⟩
   .exact absurd (.inl (by omega)) hc
   .have e:((A.length:Int)).toNat=A.length:=by omega
    have hg:a.Q[(lF a.Q).toNat]?=some w:=by rw[hp,e,hQ];simp
    have e1:Q1 a.Q=A++B:=by rw[hQ];exact DG (by rw[<-hQ];exact hp)
    have hf:fl sz a.C a.Q=false:=by
     cases h:fl sz a.C a.Q
     .rfl
     .exact absurd (.inr h) hc
    rw[hg];simp only;refine api sz n _ ?_ ?_
    .simp only[Ad.step,e1]
     have h1:=Gi (A++B);have h2:a.Q.length=A.length+(B.length+1):=by rw[hQ];simp
     simp at h1;omega
    .simp only[Ad.step,e1]
     exact h.step hQ eZ hf
theorem Vy{sz:Int}{qn:Bool}{Q:List W}{C:List K}(h:lR sz Q C):Gd sz (cR sz qn Q C).Q (cR sz qn Q C).C:=api sz _ _ (by simp) h
theorem BF{Q:List W}{t op:Int}:jl Q t op=true↔∃w∈Q,w.task=t/\w.op=op:=by
 unfold jl;rw[rV];simp
theorem apj{sz:Int}{C C':List K}{Q Q':List W}(h:fl sz C Q=true)(hC:∀c∈C,c∈C')(hQ:∀w∈Q',w.op=70->w∈Q\/∀c∈C,c.task≠w.task):fl sz C' Q'=true:=by
 unfold fl at *;rw[rV]at *;obtain⟨c,hc,h1⟩:=h;refine⟨c,hC c hc,?_⟩;simp only[bJ,kX]at h1⊢;refine⟨h1.1,?_⟩;cases hw:jl Q' c.task 70
 .rfl
 .exfalso
  obtain⟨w,xk,ht,ho⟩:=BF.1 hw;rcases hQ w xk ho with h2 |h2
  .have:jl Q c.task 70=true:=BF.2 ⟨w,h2,ht,ho⟩
   rw[h1.2]at this;cases this
  .exact h2 c hc ht.symm
theorem BG{C:List K}{t:Int}{c:K}(h:mD C t=some c):c.task=t:=by
 have:=GF h;simpa using this
theorem iH.uniq{sz:Int}{C:List K}(h:iH sz C){a b:K}(ha:a∈C)(hb:b∈C)(e:a.task=b.task):a=b:=by
 have hp:=h.pw;induction C with
 |nil=>cases ha
 |cons x C ih =>
  rw[gH]at hp;rcases dA.1 ha with ha |ha
  .rcases dA.1 hb with hb |hb
   .rw[ha,hb]
   .have:=hp.1 b hb
    rw[ha]at e;omega
  .rcases dA.1 hb with hb |hb
   .have:=hp.1 a ha
    rw[hb]at e;omega
   .exact ih ⟨hp.2,λc hc=>h.el c (by simp[hc])⟩ ha hb hp.2
theorem iH.mD{sz:Int}{C:List K}(h:iH sz C){c:K}(hc:c∈C):mD C c.task=some c:=by
 cases hk:Sp.mD C c.task with
 |none =>
  unfold Sp.mD at hk;rw[J2]at hk;have:=hk c hc;simp at this
 |some d=>rw[h.uniq (DJ hk) hc (BG hk)]
theorem apl{sz:Int}{C:List K}(h:iH sz C){t:Int}{c:K}:Sp.mD C t=some c↔c∈C/\c.task=t:=by
 constructor
 .intro hk;exact⟨DJ hk,BG hk⟩
 .rintro⟨h1,rfl⟩;exact h.mD h1
theorem Gl{sz:Int}{C:List K}(h:iH sz C){w:W}:vY C w=true↔(∃c∈C,c.task=w.task/\c.log=[])/\w.value=0:=by
 unfold vY;cases hk:Sp.mD C w.task with
 |none =>
  simp;rintro c hc ht;exfalso;rw[<-ht,h.mD hc]at hk;cases hk
 |some c =>
  have e:(!decide (0<c.log.length)&&w.value==0)=true↔c.log=[]/\w.value=0:=by simp
  simp only[e];constructor
  .rintro⟨a,b⟩;exact⟨⟨c,DJ hk,BG hk,a⟩,b⟩
  .rintro⟨⟨d,hd,ht,hl⟩,b⟩
   refine⟨?_,b⟩
   have:Sp.mD C w.task=some d:=(apl h).2 ⟨hd,ht⟩
   rw[hk]at this;cases this;exact hl
end Go.VS.Sp
namespace Go.VS.Sp
end Go.VS.Sp
namespace Go.VS.Sp
end Go.VS.Sp
namespace Go.VS.Sp
def gQ(s:S)(t:Int):Bool:=s.Q.any λw=>w.task==t
def rm(s:S)(t:Int):List W:=s.Q.filter λw=>w.task != t
def rpW(s:S)(q:D):List D:=[I' s.own,I' s.cnt,I' s.time,hD s.hn s.H,q,hD s.bn s.B,cD s.cn s.C,.b s.cl,I' s.val,.b false,I' 0,.b false,.sl 5 true []]
def Wd(x:Option ej)(s:S)(c t:Int):Prop :=
 if c=0/\gQ s t=true then x=some (.val (.tu [.d (.ag (rpW s (qO (rm s t)))),.d (I' 0)]) [])else ∃e,e≠0/\x=some (.val (.tu [.d (.ag om),.d (I' e)]) [])
theorem qg(s:S)(t:Int)(hn:s.Q.length<=1000000):∃i,ev P (.call iQ [.d (qD s.qn s.Q),.d (I' t)] [])=some (.val (.tu [.d (I' i),.d (.b (gQ s t))]) []):=by
 have h:=lD s.qn s.Q t hn;rw[AX]at h;exact⟨_,h⟩
end Go.VS.Sp
namespace Go.VS.Sp
def jC(st:Bool)(left:Int):List W->List O
 | []=>[.aG 1 true [[.b st]],.aG 1 true [[I' left]],.aG 1 true [[.sl 5 true []]]]
 |w::r=>[.aG 1 true [[.b st]],.aG 1 true [[I' left]],.gJ 1 [[.aR 3 0 (r.length+1)]],.aG 5 true ((w::r).map W.row)]
def qL(st:Bool)(left:Int)(w:W):Bool:=!st&&decide (0<=w.value)&&decide (w.value<=left)
theorem apm(w:W)(st any:Bool)(left:Int)(hg:qL st left w=false):
  ev P (.call AG [.d (.ag w.row),.loc 0 0 0,.loc 1 0 0,.d (.ref [.b any]),.loc 2 0 0] (jC st left []))=some (.val (.d (.b false)) (jC (st||!any) left [w])):=by
 rw[au SE rfl];unfold qL at hg;have hr:1<=room:=by decide
 simp[EW,jC,W.row,hg,hr,aJ,aA,sub,aE,back,az,aq,ak,cut,bt,an,V.aZ,br,aY,bg,aN,aO]
theorem apn(w a:W)(r:List W)(st any:Bool)(left:Int)(hr:r.length<=1000)(hg:qL st left w=false):
  ev P (.call AG [.d (.ag w.row),.loc 0 0 0,.loc 1 0 0,.d (.ref [.b any]),.loc 2 0 0] (jC st left (a::r)))=some (.val (.d (.b false)) [.aG 1 true [[.b (st||!any)]],.aG 1 true [[I' left]],.gJ 1 [[.aR 4 0 (r.length+1+1)]],.dead,.aG 5 true ((a::r).map W.row++[w.row])]):=by
 rw[au SE rfl];unfold qL at hg;have hr:1<=room:=by decide
 have h1:r.length+1+1<=room:=by unfold room;omega
 simp[EW,jC,W.row,hg,hr,h1,aJ,aA,sub,aE,back,az,aq,ak,cut,bt,an,V.aZ,br,aY,bg,aN,aO,bk,cI,cz]
theorem apo(w:W)(st any:Bool)(left:Int)(O:List W)(hl:0<=left/\left<=1000000)(hg:qL st left w=true):
  ev P (.call AG [.d (.ag w.row),.loc 0 0 0,.loc 1 0 0,.d (.ref [.b any]),.loc 2 0 0] (jC st left O))=some (.val (.d (.b true)) (jC st (left - w.value) O)):=by
 rw[au SE rfl];have hg':=hg;unfold qL at hg hg';simp at hg';have hw:IntKind.i64.wrap (left - w.value)=left - w.value:=wrap_i64 (by omega) (by omega)
 cases O with
 |nil=>simp[EW,jC,W.row,hg,hw,aJ,aA,sub,aE,back,az,aq,ak,cut,bt,an,V.aZ,br,aY,bg,aN,aO]
 |cons a r=>simp[EW,jC,W.row,hg,hw,aJ,aA,sub,aE,back,az,aq,ak,cut,bt,an,V.aZ,br,aY,bg,aN,aO]
def gG:List W->V
 | []=>.d (.sl 5 true [])
 |_::g=>.aR 3 0 (g.length+1)
def ql(st:Bool)(left:Int):List W->List W->List O
 |O,[]=>jC st left O
 | [],b::g=>[.aG 1 true [[.b st]],.aG 1 true [[I' left]],.aG 1 true [[.sl 5 true []]],.aG 5 true ((b::g).map W.row)]
 |a::r,b::g=>[.aG 1 true [[.b st]],.aG 1 true [[I' left]],.gJ 1 [[.aR 4 0 (r.length+1)]],.aG 5 true ((b::g).map W.row),.aG 5 true ((a::r).map W.row)]
structure GS where
 st:Bool
 left:Int
 O:List W
 G:List W
def dX(any:Bool):GS->List W->GS
 |s,[]=>s
 |s,w::r=>if qL s.st s.left w then dX any ⟨s.st,s.left - w.value,s.O,s.G++[w]⟩ r else dX any ⟨s.st||!any,s.left,s.O++[w],s.G⟩ r
theorem apq(any:Bool)(Q:List W)(nl:Bool)(hQ:Q.length<=500):∀(suf pre:List W)(s:GS),Q=pre++suf->0<=s.left/\s.left<=1000000->s.O.length<=pre.length->s.G.length<=pre.length ->
  ev P (.loop 3 [1,5,8,9,10] EP [(1,.fn AG [] [.loc 0 0 0,.loc 1 0 0,.d (.ref [.b any]),.loc 2 0 0]),(5,gG s.G),(8,.d (qD nl Q)),(9,.d (I' Q.length)),(10,.d (I' pre.length))] (ql s.st s.left s.O s.G)) =
   some (.out (.exit 0) [(5,gG (dX any s suf).G)] (ql (dX any s suf).st (dX any s suf).left (dX any s suf).O (dX any s suf).G)):=by
 intro suf;induction suf with
 |nil =>
  intro pre s hl _ _ _;have hlen:Q.length=pre.length:=by simp[hl]
  obtain⟨st,left,O,G⟩:=s;unfold dX;rw[bS]
  conv=>lhs;arg 4;unfold EP
  cases O<;>cases G<;>simp[gG,ql,jC,hlen,aJ,aA,sub,aE,back,az,aq,ak,cut,bt,an,V.aZ,br,aY,bg,aN,aO]
 |cons w suf ih =>
  intro pre s hl hb hO hG;have hg:Q[pre.length]?=some w:=by simp[hl]
  have hlt:(pre.length:Int)<Q.length:=by simp[hl];omega
  have fm:pre.length<=500:=by omega
  have hnext:IntKind.i64.wrap ((pre.length:Int)+1)=pre.length+1:=wrap_i64 (by omega) (by omega)
  have jo:1<=room:=by decide
  obtain⟨st,left,O,G⟩:=s;simp only at hb hO hG;unfold dX;cases hk:qL st left w
  .have bB:=ih (pre++[w]) ⟨st||!any,left,O++[w],G⟩ (by simp[hl]) hb (by simp;omega) (by simp;omega)
   rw[aD (by simpa using hk)]
   refine oA ?_ bB;clear bB;rw[bS]
   conv=>lhs;arg 4;unfold EP
   cases O with
   |nil =>
    have hc:=apm w st any left hk;simp only[jC,W.row]at hc;cases G with
    |nil=>simp[gG,ql,jC,hlt,hg,W.row,hc,hnext,aJ,aA,sub,aE,back,az,aq,ak,cut,bt,an,V.aZ,br,aY,bg,aN,aO,bk,cI,cz]
    |cons b g=>simp[gG,ql,jC,hlt,hg,W.row,hc,hnext,aJ,aA,sub,aE,back,az,aq,ak,cut,bt,an,V.aZ,br,aY,bg,aN,aO,bk,cI,cz]
   |cons a r =>
    have hc:=apn w a r st any left (by simp at hO;omega) hk
    simp[jC,W.row]at hc;cases G with
    |nil=>simp[gG,ql,jC,hlt,hg,W.row,hc,hnext,aJ,aA,sub,aE,back,az,aq,ak,cut,bt,an,V.aZ,br,aY,bg,aN,aO,bk,cI,cz]
    |cons b g=>simp[gG,ql,jC,hlt,hg,W.row,hc,hnext,aJ,aA,sub,aE,back,az,aq,ak,cut,bt,an,V.aZ,br,aY,bg,aN,aO,bk,cI,cz]
  .have hk':=hk
   unfold qL at hk';simp at hk';have bB:=ih (pre++[w]) ⟨st,left - w.value,O,G++[w]⟩ (by simp[hl]) (by simp only;omega) (by simp;omega) (by simp;omega)
   rw[aK (by simpa using hk)]
   refine oA ?_ bB;clear bB;rw[bS]
   conv=>lhs;arg 4;unfold EP
   have hc:=apo w st any left O hb hk;cases O with
   |nil =>
    simp[jC,W.row]at hc;cases G with
    |nil=>simp[gG,ql,jC,hlt,hg,W.row,hc,hnext,jo,aJ,aA,sub,aE,back,az,aq,ak,cut,bt,an,V.aZ,br,aY,bg,aN,aO,bk,cI,cz]
    |cons b g =>
     have h1:g.length+1+1<=room:=by simp at hG;unfold room;omega
     simp[gG,ql,jC,hlt,hg,W.row,hc,hnext,jo,h1,aJ,aA,sub,aE,back,az,aq,ak,cut,bt,an,V.aZ,br,aY,bg,aN,aO,bk,cI,cz]
   |cons a r =>
    simp[jC,W.row]at hc;cases G with
    |nil=>simp[gG,ql,jC,hlt,hg,W.row,hc,hnext,jo,aJ,aA,sub,aE,back,az,aq,ak,cut,bt,an,V.aZ,br,aY,bg,aN,aO,bk,cI,cz]
    |cons b g =>
     have h1:g.length+1+1<=room:=by simp at hG;unfold room;omega
     simp[gG,ql,jC,hlt,hg,W.row,hc,hnext,jo,h1,aJ,aA,sub,aE,back,az,aq,ak,cut,bt,an,V.aZ,br,aY,bg,aN,aO,bk,cI,cz]
theorem apr(any:Bool)(Q:List W)(nl:Bool)(n:Int)(hQ:Q.length<=500)(hn:0<=n/\n<=1000000):
  ev P (.call QS [.d (qD nl Q),.fn AG [] [.loc 0 0 0,.loc 1 0 0,.d (.ref [.b any]),.loc 2 0 0]] (jC false n [])) =
   some (.val (gG (dX any ⟨false,n,[],[]⟩ Q).G) (ql (dX any ⟨false,n,[],[]⟩ Q).st (dX any ⟨false,n,[],[]⟩ Q).left (dX any ⟨false,n,[],[]⟩ Q).O (dX any ⟨false,n,[],[]⟩ Q).G)):=by
 have hL:=apq any Q nl hQ Q [] ⟨false,n,[],[]⟩ rfl hn (by simp) (by simp)
 rw[au aeS rfl];simp only[gG,ql,jC,k9]at hL⊢;generalize dX any ⟨false,n,[],[]⟩ Q=s at *;obtain⟨st,left,O,G⟩:=s;have hL:ev P (.loop 3 [1,5,8,9,10] EP [(1,.fn AG [] [.loc 0 0 0,.loc 1 0 0,.d (.ref [.b any]),.loc 2 0 0]),(5,.d (.sl 5 true [])),(8,.d (qD nl Q)),(9,.d (I' Q.length)),(10,.d (I' 0))] [.aG 1 true [[.b false]],.aG 1 true [[I' n]],.aG 1 true [[.sl 5 true []]]])=some (.out (.exit 0) [(5,gG G)] (ql st left O G)):=hL;cases O<;>cases G<;>simp only[gG,ql,jC]at hL<;>simp[RX,gG,ql,jC,hL,aJ,aA,sub,aE,back,az,aq,ak,cut,bt,an,V.aZ,br,aY,bg,aN,aO,bk,cI,cz]
theorem aps(any:Bool)(Q:List W)(nl:Bool)(n:Int)(hQ:Q.length<=500)(hn:0<=n/\n<=1000000):
  ev P (.call QX [.d (qD nl Q),.d (I' n),.d (.b any)] [])=some (.val (.tu [.d (qO (dX any ⟨false,n,[],[]⟩ Q).G),.d (qO (dX any ⟨false,n,[],[]⟩ Q).O),.d (I' (dX any ⟨false,n,[],[]⟩ Q).left)]) []):=by
 have hF:=apr any Q nl n hQ hn;rw[au aeY rfl];generalize dX any ⟨false,n,[],[]⟩ Q=s at *;obtain⟨st,left,O,G⟩:=s;simp only[jC]at hF;cases O<;>cases G<;>simp only[gG,ql,jC]at hF<;>simp[R2,hF,qO,W.row,aJ,aA,sub,aE,back,az,aq,ak,cut,bt,an,V.aZ,br,aY,bg,aN,aO,bk,cI,cz]
end Go.VS.Sp
namespace Go.VS.Sp
def zY(w:W):List D:=[I' w.task,I' w.op,I' 0,.b true,I' (-1)]
def wV:List W->V
 | []=>.d (.sl 5 true [])
 |_::r=>.aR 1 0 (r.length+1)
def wH:List W->List O
 | []=>[]
 |a::r=>[.aG 5 true ((a::r).map zY)]
theorem apt(c:List D)(G:List W)(b:Bool)(hG:G.length<=500):∀(suf pre:List W),G=pre++suf ->
  ev P (.loop 1 [6,38,39,40] Ht [(6,wV pre),(38,.d (qD b G)),(39,.d (I' G.length)),(40,.d (I' pre.length))] (.aG 10 true [c]::wH pre)) =
   some (.out (.exit 0) [(6,wV G)] (.aG 10 true [c]::wH G)):=by
 intro suf;induction suf with
 |nil =>
  intro pre hl;have hlen:G.length=pre.length:=by simp[hl]
  have e:pre=G:=by simpa using hl.symm
  subst e;rw[bS]
  conv=>lhs;arg 4;unfold Ht
  cases pre<;>simp[wV,wH,aJ,aA,sub,aE,back,az,aq,ak,cut,bt,an,V.aZ,br,aY,bg,aN,aO,bk,cI,cz]
 |cons w suf ih =>
  intro pre hl;have hg:G[pre.length]?=some w:=by simp[hl]
  have hlt:(pre.length:Int)<G.length:=by simp[hl];omega
  have fm:pre.length<=500:=by omega
  have hnext:IntKind.i64.wrap ((pre.length:Int)+1)=pre.length+1:=wrap_i64 (by omega) (by omega)
  have jo:1<=room:=by decide
  have bB:=ih (pre++[w]) (by simp[hl])
  obtain⟨i,hi⟩:∃i,i=pre.length:=⟨_,rfl⟩;rw[show(pre++[w]).length=i+1 by simp[hi]]at bB
  rw[<-hi]at hg hlt hnext fm⊢;refine oA ?_ bB;clear bB;rw[bS]
  conv=>lhs;arg 4;unfold Ht
  cases pre with
  |nil=>simp[wV,wH,zY,hlt,hg,W.row,hnext,jo,aJ,aA,sub,aE,back,az,aq,ak,cut,bt,an,V.aZ,br,aY,bg,aN,aO,bk,cI,cz]
  |cons a r =>
   have h1:r.length+1+1<=room:=by simp at hi;unfold room;omega
   clear hi;simp[wV,wH,zY,hlt,hg,W.row,hnext,jo,h1,aJ,aA,sub,aE,back,az,aq,ak,cut,bt,an,V.aZ,br,aY,bg,aN,aO,bk,cI,cz]
theorem Vz(any:Bool):∀(Q:List W)(s:GS),(dX any s Q).O.length+(dX any s Q).G.length=s.O.length+s.G.length+Q.length
 | [],s=>by simp[dX]
 |w::r,s=>by
  unfold dX;split
  .rw[Vz any r];simp;omega
  .rw[Vz any r];simp;omega
theorem apu(s:S)(cnt:Int)(nl:Bool)(Q:List W)(any:Bool)(hQ:Q.length<=500)(hn:0<=cnt/\cnt<=1000000):
  ev P (.call KM [.loc 0 0 0] [.aG 10 true [kP s cnt (qD nl Q) any]]) =
   some (.val (wV (dX any ⟨false,cnt,[],[]⟩ Q).G) (.aG 10 true [kP s (dX any ⟨false,cnt,[],[]⟩ Q).left (qO (dX any ⟨false,cnt,[],[]⟩ Q).O) any]::wH (dX any ⟨false,cnt,[],[]⟩ Q).G)):=by
 have hG:=aps any Q nl cnt hQ hn;have hlen:=Vz any Q ⟨false,cnt,[],[]⟩;generalize dX any ⟨false,cnt,[],[]⟩ Q=g at *;obtain⟨st,left,O,G⟩:=g;simp only[k9]at hlen hG⊢;have hL:=apt (kP s left (qO O) any) G (decide (G=[])) (by omega) G [] rfl
 obtain⟨bo,ro,hqo⟩:∃b r,qO O = .sl 5 b r:=⟨_,_,rfl⟩;rw[hqo]at hG hL⊢;have hqg:qO G = .sl 5 (decide (G=[])) (G.map W.row):=rfl;rw[hqg]at hG;have hL:ev P (.loop 1 [6,38,39,40] Ht [(6,.d (.sl 5 true [])),(38,.d (qD (decide (G=[])) G)),(39,.d (I' G.length)),(40,.d (I' 0))] [.aG 10 true [kP s left (.sl 5 bo ro) any]])=some (.out (.exit 0) [(6,wV G)] (.aG 10 true [kP s left (.sl 5 bo ro) any]::wH G)):=hL;unfold kP at hL⊢;rw[au aek rfl];cases G with
 |nil =>
  simp only[qD,gn]at hL;simp[wV,wH]at hL hG;simp[Mb,wV,wH,hG,hL,aJ,aA,sub,aE,back,az,aq,ak,cut,bt,an,V.aZ,br,aY,bg,aN,aO,bk,cI,cz]
 |cons a r =>
  simp only[qD,gk,W.row]at hL;simp[wV,wH,zY,W.row]at hL hG;simp[Mb,wV,wH,zY,hG,hL,aJ,aA,sub,aE,back,az,aq,ak,cut,bt,an,V.aZ,br,aY,bg,aN,aO,bk,cI,cz]
def qM(ot:Int)(cnt:Int)(Q:List W):GS:=dX (ot==1) ⟨false,cnt,[],[]⟩ Q
end Go.VS.Sp
namespace Go.VS.Sp
theorem apv{p:W->Bool}{a b:List W}(h:a.Sublist b)(hb:b.any p=false):a.any p=false:=by
 rw[qQ]at hb⊢;exact λx hx=>hb x (h.subset hx)
end Go.VS.Sp
namespace Go.VS.Sp
structure Cp where
 c:Cl
 w:Wk
def Cp.row(x:Cp):List D:=x.c.row++x.w.row
def cZ(k sz ot:Int):S->List Cp->S×Bool
 |a,[]=>(a,true)
 |a,x::r =>
  let e:=eD k sz ot a.pl x.c
  if e.2.2.2≠0 then(a,false)
  else if(x.c.op==61&&ot==0&&!x.w.ok&&x.w.value==0)=true then cZ k sz ot a r
  else if(e.2.1 != x.w.value||e.2.2.1 != x.w.ok)=true then(a,false)else cZ k sz ot e.1 r
theorem VA(s:S):s.pl.pl=s.pl:=by
 unfold S.pl;simp only[kY];congr 1
theorem apw(k sz ot:Int):∀(l:List Cp)(a b:S),a.pl=b.pl->(cZ k sz ot a l).1.pl=(cZ k sz ot b l).1.pl/\(cZ k sz ot a l).2=(cZ k sz ot b l).2
 | [],_,_,h=>⟨h,rfl⟩
 |x::r,a,b,h=>by
  unfold cZ;rw[h];simp only;split
  .exact⟨h,rfl⟩
  .split
   .exact apw k sz ot r a b h
   .split
    .exact⟨h,rfl⟩
    .exact⟨rfl,rfl⟩
theorem OP{n m:Nat}{s:S}(h:s.zn n)(hm:n<=m):s.zn m:=⟨by have:=h.h;omega,by have:=h.b;omega,by have:=h.q;omega,by have:=h.c;omega,λc hc=>by have:=h.l c hc;omega⟩
theorem apx(nm:D)(k sz ot:Int)(b:Bool)(L:List Cp)(hn:L.length<=100):∀(suf pre:List Cp)(a:S),L=pre++suf->a.wf->a.zn (200+pre.length) ->
  ∃a':S,a'.pl=(cZ k sz ot a suf).1.pl/\a'.wf/\a'.zn (200+L.length) /\
   ev P (.loop 0 [3,4,6,14,15,16] Cw [(3,.d (.ref [nm,I' k,I' sz,I' ot])),(4,.loc 0 0 0),(6,.loc 1 0 0),(14,.d (.sl 10 b (L.map Cp.row))),(15,.d (I' L.length)),(16,.d (I' pre.length))] [.aG 9 true [a.row],.aG 9 true [bY]]) =
    if(cZ k sz ot a suf).2=true then some (.out (.exit 0) [(4,.loc 0 0 0),(6,.loc 1 0 0)] [.aG 9 true [a'.row],.aG 9 true [bY]])
    else some (.out .ret [(6,.loc 0 0 0),(7,.d (.b false))] [.aG 9 true [a'.row]]):=by
 intro suf;induction suf with
 |nil =>
  intro pre a hl hw hz;have hlen:L.length=pre.length:=by simp[hl]
  refine⟨a,rfl,hw,by rw[hlen];exact hz,?_⟩
  unfold cZ;rw[aK rfl,bS]
  conv=>lhs;arg 4;unfold Cw
  simp[hlen,ak,cut,bt,an]
 |cons x suf ih =>
  intro pre a hl hw hz;have hg:L[pre.length]?=some x:=by simp[hl]
  have hlt:(pre.length:Int)<L.length:=by simp[hl];omega
  have fm:pre.length<L.length:=by omega
  have hnext:IntKind.i64.wrap ((pre.length:Int)+1)=pre.length+1:=wrap_i64 (by omega) (by omega)
  obtain⟨s1,e1,p1,w1⟩:=S7 nm k sz ot a x.c hw (hz.sz (by omega))
  have n9:=YT k sz ot x.c (Nh.2 hz);obtain⟨⟨ct,co,cv,cp,VB⟩,⟨wt,wo,wv,BH,wc⟩⟩:=x;simp only at e1 p1 n9;unfold cZ;generalize hr:eD k sz ot a.pl ⟨ct,co,cv,cp,VB⟩=r at *;obtain⟨r1,r2,r3,r4⟩:=r;simp only at e1 p1 n9⊢;simp only[S.row,Cl.row]at e1;by_cases he:r4=0
  .subst he
   rw[aD (by simp)]
   cases Jv:(co==61&&ot==0&&!BH&&wv==0)
   .rw[aD (by simp)]
    cases hd:(r2 != wv||(!r3==BH))
    .have hd2:(r2 != wv||r3 != BH)=false:=by rw[<-hd];cases r3<;>cases BH<;>rfl
     rw[aD (by rw[hd2];decide)]
     have tE:s1.zn (200+pre.length+1):=by rw[<-p1]at n9;exact Nh.1 n9
     obtain⟨a',q1,q2,q3,q4⟩:=ih (pre++[⟨⟨ct,co,cv,cp,VB⟩,⟨wt,wo,wv,BH,wc⟩⟩]) s1 (by simp[hl]) w1 (by simpa[pE]using tE)
     obtain⟨g1,g2⟩:=apw k sz ot suf s1 r1 (by rw[<-p1];exact(VA s1).symm)
     rw[g1]at q1;rw[g2]at q4;refine⟨a',q1,q2,q3,oA ?_ q4⟩;rw[bS]
     conv=>lhs;arg 4;unfold Cw
     simp[hlt,hg,Cp.row,Cl.row,Wk.row,e1,Jv,hd,hnext,bY,ak,cut,bt,an,aq]
    .have hd2:(r2 != wv||r3 != BH)=true:=by rw[<-hd];cases r3<;>cases BH<;>rfl
     rw[aK (by rw[hd2])]
     refine⟨a,rfl,hw,OP hz (by omega),?_⟩
     rw[aD (by simp),bS]
     conv=>lhs;arg 4;unfold Cw
     simp[hlt,hg,Cp.row,Cl.row,Wk.row,e1,Jv,hd,bY,ak,cut,bt,an,aq]
   .rw[aK rfl]
    obtain⟨a',q1,q2,q3,q4⟩:=ih (pre++[⟨⟨ct,co,cv,cp,VB⟩,⟨wt,wo,wv,BH,wc⟩⟩]) a (by simp[hl]) hw (OP hz (by simp))
    refine⟨a',q1,q2,q3,oA ?_ q4⟩;rw[bS]
    conv=>lhs;arg 4;unfold Cw
    simp[hlt,hg,Cp.row,Cl.row,Wk.row,e1,Jv,hnext,bY,ak,cut,bt,an,aq]
  .rw[aK he]
   refine⟨a,rfl,hw,OP hz (by omega),?_⟩
   rw[aD (by simp),bS]
   conv=>lhs;arg 4;unfold Cw
   have he':(r4 != 0)=true:=by simpa using he
   simp[hlt,hg,Cp.row,Cl.row,Wk.row,e1,he',bY,ak,cut,bt,an,aq]
theorem apy(nm:D)(k sz ot:Int)(b:Bool)(L:List Cp)(a:S)(hn:L.length<=100)(hw:a.wf)(hz:a.zn 200):
  ∃a':S,a'.pl=(cZ k sz ot a L).1.pl/\a'.wf/\a'.zn 300 /\
   ev P (.call Qg [.d (.ag [nm,I' k,I' sz,I' ot]),.d (.ag a.row),.d (.sl 10 b (L.map Cp.row))] [])=some (.val (.tu [.d (.ag a'.row),.d (.b (cZ k sz ot a L).2)]) []):=by
 obtain⟨a',q1,q2,q3,q4⟩:=apx nm k sz ot b L hn L [] a rfl hw hz;refine⟨a',q1,q2,OP q3 (by omega),?_⟩
 generalize cZ k sz ot a L=r at *;obtain⟨r1,r2⟩:=r;simp only[k9,S.row,bY]at q4;rw[au adL rfl];cases r2
 .rw[aD (by simp)]at q4
  simp at q4;simp[LH,q4,az,ak,cut,bt,an,aq]
 .rw[aK rfl]at q4
  simp at q4;simp[LH,q4,az,ak,cut,bt,an,aq]
end Go.VS.Sp
namespace Go.VS.Sp
end Go.VS.Sp
namespace Go.VS.Sp
def sP(w:Wk)(x:W):Bool:=x.task==w.task&&x.op==w.op&&x.case==w.case
def o8(w:Wk):List W->Int×Int->Int×Int
 | [],p=>p
 |x::r,p=>o8 w r (if sP w x then(x.value,x.prio)else p)
def oW:List Cp->V
 | []=>.d (.sl 10 true [])
 |_::r=>.aR 0 0 (r.length+1)
def hW:List Cp->List O
 | []=>[]
 |a::r=>[.aG 10 true ((a::r).map Cp.row)]
def nW:List Cp->Nat
 | []=>0
 |_::_=>1
theorem apz(s:S)(w:Wk)(now:Int)(out:List Cp)(l:D)(ln i:Int)(hn:s.Q.length<=500):∀(suf pre:List W)(p:Int×Int),s.Q=pre++suf ->
  ev P (.loop 0 [2,3,7,9,10,13,14,15,26,27,28] LI [(2,.d (I' now)),(3,.d (.ref s.row)),(7,oW out),(9,.d (.ref w.row)),(10,.loc (nW out) 0 0),(13,.d l),(14,.d (I' ln)),(15,.d (I' i)),(26,.d (qD s.qn s.Q)),(27,.d (I' s.Q.length)),(28,.d (I' pre.length))] (hW out++[.aG 5 true [[I' w.task,I' w.op,I' p.1,I' p.2,I' now]]])) =
   some (.out (.exit 2) [(2,.d (I' now)),(3,.d (.ref s.row)),(7,oW out),(9,.d (.ref w.row)),(10,.loc (nW out) 0 0),(13,.d l),(14,.d (I' ln)),(15,.d (I' i))] (hW out++[.aG 5 true [[I' w.task,I' w.op,I' (o8 w suf p).1,I' (o8 w suf p).2,I' now]]])):=by
 intro suf;induction suf with
 |nil =>
  intro pre p hl;have hlen:s.Q.length=pre.length:=by simp[hl]
  unfold o8;rw[bS]
  conv=>lhs;arg 4;unfold LI
  cases out<;>simp[oW,hW,nW,hlen,ak,cut,bt,an]
 |cons x suf ih =>
  intro pre p hl;have hg:s.Q[pre.length]?=some x:=by simp[hl]
  have hlt:(pre.length:Int)<s.Q.length:=by simp[hl];omega
  have hnext:IntKind.i64.wrap ((pre.length:Int)+1)=pre.length+1:=wrap_i64 (by omega) (by omega)
  have bB:=ih (pre++[x]) (if sP w x then(x.value,x.prio)else p) (by simp[hl])
  unfold o8;refine oA ?_ bB;clear bB;rw[bS]
  conv=>lhs;arg 4;unfold LI
  cases hm:sP w x
  .unfold sP at hm
   cases out<;>simp[oW,hW,nW,hlt,hg,W.row,Wk.row,hm,hnext,ak,cut,bt,an,V.aZ,aq]
  .unfold sP at hm
   cases out<;>simp[oW,hW,nW,hlt,hg,W.row,Wk.row,hm,hnext,ak,cut,bt,an,V.aZ,aq]
def fJ(Q:List W)(now:Int)(w:Wk):Cp:=⟨⟨w.task,w.op,(o8 w Q (0,0)).1,(o8 w Q (0,0)).2,now⟩,w⟩
theorem apA(s:S)(now:Int)(b:Bool)(l:List Wk)(hn:s.Q.length<=500)(sL:l.length<=500):∀(suf pre:List Wk),l=pre++suf ->
  ev P (.loop 0 [2,3,7,13,14,15] Hi [(2,.d (I' now)),(3,.d (.ref s.row)),(7,oW (pre.map (fJ s.Q now))),(13,.d (.sl 5 b (l.map Wk.row))),(14,.d (I' l.length)),(15,.d (I' pre.length))] (hW (pre.map (fJ s.Q now)))) =
   some (.out (.exit 0) [(7,oW (l.map (fJ s.Q now)))] (hW (l.map (fJ s.Q now)))):=by
 intro suf;induction suf with
 |nil =>
  intro pre hl;have e:l=pre:=by simpa using hl
  subst e;rw[bS]
  conv=>lhs;arg 4;unfold Hi
  cases l.map (fJ s.Q now)<;>simp[oW,hW,ak,cut,bt,an]
 |cons w suf ih =>
  intro pre hl;have hg:l[pre.length]?=some w:=by simp[hl]
  have hlt:(pre.length:Int)<l.length:=by simp[hl];omega
  have fm:pre.length<=500:=by omega
  have hnext:IntKind.i64.wrap ((pre.length:Int)+1)=pre.length+1:=wrap_i64 (by omega) (by omega)
  have jo:1<=room:=by decide
  have bB:=ih (pre++[w]) (by simp[hl])
  obtain⟨i,hi⟩:∃i,i=pre.length:=⟨_,rfl⟩;rw[show(pre++[w]).length=i+1 by simp[hi],vD,WO]at bB
  have hin:=apz s w now (pre.map (fJ s.Q now)) (.sl 5 b (l.map Wk.row)) l.length i hn s.Q [] (0,0) rfl;have yd:(pre.map (fJ s.Q now)).length=i:=by simp[hi]
  have xl:fJ s.Q now w=⟨⟨w.task,w.op,(o8 w s.Q (0,0)).1,(o8 w s.Q (0,0)).2,now⟩,w⟩:=rfl;rw[xl]at bB;generalize o8 w s.Q (0,0)=vp at *;generalize pre.map (fJ s.Q now)=out at *;rw[<-hi]at hg hlt hnext fm⊢;refine oA ?_ bB;clear bB ih;rw[bS]
  conv=>lhs;arg 4;unfold Hi
  simp only[k9]at hin;cases out with
  |nil =>
   simp[oW,hW,nW,Wk.row,Cp.row,Cl.row]at hin;simp[oW,hW,nW,Cp.row,Cl.row,hlt,hg,Wk.row,hin,hnext,jo,ak,cut,bt,an,V.aZ,aq,bk,cI,cz]
  |cons a r =>
   have h1:r.length+1+1<=room:=by simp at yd;unfold room;omega
   simp[oW,hW,nW,Wk.row,Cp.row,Cl.row]at hin;simp[oW,hW,nW,Cp.row,Cl.row,hlt,hg,Wk.row,hin,hnext,jo,h1,ak,cut,bt,an,V.aZ,aq,bk,cI,cz]
theorem apB(s:S)(now:Int)(b:Bool)(l:List Wk)(hn:s.Q.length<=500)(sL:l.length<=500):
  ev P (.call Qh [.d (.ag s.row),.d (.sl 5 b (l.map Wk.row)),.d (I' now)] [])=some (.val (.d (.sl 10 (decide (l=[])) ((l.map (fJ s.Q now)).map Cp.row))) []):=by
 have hL:=apA s now b l hn sL l [] rfl;have hL:ev P (.loop 0 [2,3,7,13,14,15] Hi [(2,.d (I' now)),(3,.d (.ref s.row)),(7,.d (.sl 10 true [])),(13,.d (.sl 5 b (l.map Wk.row))),(14,.d (I' l.length)),(15,.d (I' 0))] [])=some (.out (.exit 0) [(7,oW (l.map (fJ s.Q now)))] (hW (l.map (fJ s.Q now)))):=hL;have he:decide (l=[])=decide (l.map (fJ s.Q now)=[]):=by cases l<;>rfl
 rw[he];rw[au adM rfl];simp only[S.row]at hL⊢;generalize l.map (fJ s.Q now)=out at *;cases out with
 |nil =>
  simp[oW,hW]at hL;simp[LJ,hL,az,aq]
 |cons a r =>
  simp[oW,hW,Cp.row,Cl.row,Wk.row]at hL;simp[LJ,hL,az,aq,Cp.row,Cl.row,Wk.row,bk,cI]
end Go.VS.Sp
namespace Go.VS.Sp
abbrev m9(b:Bool)(l:List Cp):D:=.sl 10 b (l.map Cp.row)
def DL:List D:=[I' 0,I' 0,I' 0,I' 0,I' 0,I' 0,I' 0,I' 0,.b false,I' 0]
def tot:List (Bool×List Cp)->Nat
 | []=>0
 |p::r=>p.2.length+tot r
def cat:List (Bool×List Cp)->List Cp
 | []=>[]
 |p::r=>p.2++cat r
theorem z9:∀L,(cat L).length=tot L
 | []=>rfl
 |p::r=>by simp[cat,tot,z9 r]
abbrev DM(L:List (Bool×List Cp)):D:=.sl 1 false (L.map λp=>[m9 p.1 p.2])
theorem apC:ev P (.call KZ [.d (.sl 10 true []),.d (I' 0)] [])=some (.val (.d (.sl 10 true [])) []):=by
 have h5:IntKind.i64.wrap 0=0:=by decide
 rw[au X2 rfl];simp[Mp,h5,ak,cut,az]
theorem apD(n:Nat)(h0:0<n)(hn:n<=1000):ev P (.call KZ [.d (.sl 10 true []),.d (I' n)] [])=some (.val (.aR 0 0 0) [.aG 10 true (List.replicate n DL)]):=by
 have h1:¬((n:Int)<0):=by omega
 have h2:IntKind.i64.wrap (n:Int)=n:=wrap_i64 (by omega) (by omega)
 have h3:(0:Int)<n:=by omega
 have h4:n<=room:=by unfold room;omega
 have h5:IntKind.i64.wrap 0=0:=by decide
 rw[au X2 rfl];simp[h0,Mp,h1,h2,h3,h4,h5,ak,cut,DL,az]
theorem apE(L:List (Bool×List Cp))(hL:tot L+L.length<=1000):∀(suf pre:List (Bool×List Cp)),L=pre++suf ->
  ev P (.loop 0 [0,3,9,10,11] L0 [(0,.d (DM L)),(3,.d (I' (tot pre))),(9,.d (DM L)),(10,.d (I' L.length)),(11,.d (I' pre.length))] []) =
   some (.out (.exit 0) [(0,.d (DM L)),(3,.d (I' (tot L)))] []):=by
 intro suf;induction suf with
 |nil =>
  intro pre hl;have e:pre=L:=by simpa using hl.symm
  subst e;rw[bS]
  conv=>lhs;arg 4;unfold L0
  simp
 |cons p suf ih =>
  intro pre hl;have hg:L[pre.length]?=some p:=by simp[hl]
  have hlt:(pre.length:Int)<L.length:=by simp[hl];omega
  have hlen:pre.length<=L.length:=by simp[hl]
  have ts:∀a b,tot (a++b)=tot a+tot b:=λa b=>by rw[<-z9,<-z9,<-z9];induction a with
   |nil=>simp[cat]
   |cons x a ih=>simp[cat]at ih⊢;omega
  have ht:tot L=tot pre+(p.2.length+tot suf):=by rw[hl,ts];rfl
  have hnext:IntKind.i64.wrap ((pre.length:Int)+1)=pre.length+1:=wrap_i64 (by omega) (by omega)
  have apF:IntKind.i64.wrap ((tot pre:Int)+p.2.length)=(tot pre+p.2.length:Nat):=by rw[wrap_i64 (by omega) (by omega)];simp
  have hneg:¬((tot pre:Int)+p.2.length<0):=by omega
  have bB:=ih (pre++[p]) (by simp[hl])
  rw[ts,show tot [p]=p.2.length by simp[tot]]at bB
  obtain⟨i,hi⟩:∃i,i=pre.length:=⟨_,rfl⟩;rw[show(pre++[p]).length=i+1 by simp[hi]]at bB
  rw[<-hi]at hg hlt hnext⊢;refine oA ?_ bB;clear bB ih;rw[bS]
  conv=>lhs;arg 4;unfold L0
  simp[hlt,hg,hnext,apF,hneg]
def Jw(n k:Nat):V:=if n=0 then .d (.sl 10 true [])else .aR 0 0 k
def Jx(n:Nat)(l:List Cp):List O:=if n=0 then[]else[.aG 10 true (l.map Cp.row++List.replicate (n - l.length) DL)]
theorem apG(A B:List (List D))(n:Nat)(h:A.length+B.length<=n):aq (A++List.replicate (n - A.length) DL) A.length B=A++(B++List.replicate (n - (A.length+B.length)) DL):=by
 unfold aq;have e:(A++List.replicate (n - A.length) DL).drop (A.length+B.length)=List.replicate (n - (A.length+B.length)) DL:=by
  rw[Pn,qP (by omega),Po,List.drop_replicate,mu]
  congr 1;omega
 rw[e];simp
theorem apH(L:List (Bool×List Cp))(hL:tot L+L.length<=1000):∀(suf pre:List (Bool×List Cp)),L=pre++suf ->
  ev P (.loop 0 [6,25,26,27] L1 [(6,Jw (tot L) (tot pre)),(25,.d (DM L)),(26,.d (I' L.length)),(27,.d (I' pre.length))] (Jx (tot L) (cat pre))) =
   some (.out (.exit 2) [(6,Jw (tot L) (tot L))] (Jx (tot L) (cat L))):=by
 intro suf;induction suf with
 |nil =>
  intro pre hl;have e:pre=L:=by simpa using hl.symm
  subst e;rw[bS]
  conv=>lhs;arg 4;unfold L1
  unfold Jw Jx;by_cases h0:tot pre=0<;>simp[h0,ak,cut,bt,an]
 |cons p suf ih =>
  intro pre hl;have hg:L[pre.length]?=some p:=by simp[hl]
  have hlt:(pre.length:Int)<L.length:=by simp[hl];omega
  have hlen:pre.length<=L.length:=by simp[hl]
  have cs:∀a b,cat (a++b)=cat a++cat b:=λa b=>by induction a with
   |nil=>simp[cat]
   |cons x a ih=>simp[cat,ih]
  have ts:∀a b,tot (a++b)=tot a+tot b:=λa b=>by rw[<-z9,<-z9,<-z9,cs];simp
  have ht:tot L=tot pre+(p.2.length+tot suf):=by rw[hl,ts];rfl
  have hnext:IntKind.i64.wrap ((pre.length:Int)+1)=pre.length+1:=wrap_i64 (by omega) (by omega)
  have bB:=ih (pre++[p]) (by simp[hl])
  rw[ts,cs,show tot [p]=p.2.length by simp[tot],show cat [p]=p.2 by simp[cat]]at bB
  obtain⟨i,hi⟩:∃i,i=pre.length:=⟨_,rfl⟩;rw[show(pre++[p]).length=i+1 by simp[hi]]at bB
  rw[<-hi]at hg hlt hnext⊢;refine oA ?_ bB;clear bB ih;rw[bS]
  conv=>lhs;arg 4;unfold L1
  have bN:=z9 pre;generalize cat pre=A at *;generalize tot pre=k at *;subst bN;obtain⟨pb,pl⟩:=p;simp only at ht hg⊢;unfold Jw Jx;by_cases h0:tot L=0
  .have hA:A=[]:=vA (by omega)
   have hP:pl=[]:=vA (by omega)
   subst hA;subst hP;simp[h0,hlt,hg,hnext,ak,cut,bt,an]
  .cases pl with
   |nil=>simp[h0,hlt,hg,hnext,ak,cut,bt,an]
   |cons a r =>
    have ho:=apG (A.map Cp.row) ((a::r).map Cp.row) (tot L) (by simp at ht⊢;omega)
    simp at ho ht;have h6:A.length+(tot L - A.length)=tot L:=by omega
    have h7:A.length+(r.length+1)<=tot L:=by omega
    have h8:A.length<=tot L:=by omega
    simp[h0,hlt,hg,hnext,ho,h6,h7,h8,ak,cut,bt,an]
theorem apI(L:List (Bool×List Cp))(hL:tot L+L.length<=1000):
  ev P (.call Cm [.d (DM L)] [])=some (.val (.d (m9 (decide (cat L=[])) (cat L))) []):=by
 have h0:=apE L hL L [] rfl;have h1:=apH L hL L [] rfl;have hc:=z9 L;rw[au ad5 rfl];simp only[tot,cat,k9]at h0 h1;unfold Jw Jx at h1;by_cases hz:tot L=0
 .have hn:cat L=[]:=vA (by omega)
  have hG:=apC;simp[hz]at h0 h1;simp[L2,h0,h1,hG,hn,aJ,ak,cut,az]
 .have hn:cat L≠[]:=λh=>hz (by rw[<-hc,h];rfl)
  have hG:=apD (tot L) (by omega) (by omega)
  simp[hz,hc]at h0 h1;have ht:List.take (tot L) ((cat L).map Cp.row)=(cat L).map Cp.row:=gC (by simp[hc])
  simp[L2,h0,h1,hG,hn,hc,ht,aJ,ak,cut,az,br,aY,bg]
end Go.VS.Sp
namespace Go.VS.Sp
theorem VC(any:Bool):∀(Q:List W)(g:GS),(dX any g Q).left<=g.left
 | [],g=>by simp[dX]
 |w::r,g=>by
  unfold dX;split
  .rename_i h
   have:=VC any r ⟨g.st,g.left - w.value,g.O,g.G++[w]⟩;unfold qL at h;simp at h;simp only at this;omega
  .exact VC any r ⟨g.st||!any,g.left,g.O++[w],g.G⟩
theorem VD(any:Bool):∀(Q:List W)(g:GS),0<=g.left->0<=(dX any g Q).left
 | [],g,h=>by simpa[dX]using h
 |w::r,g,hl=>by
  unfold dX;split
  .rename_i h
   unfold qL at h;simp at h;exact VD any r ⟨g.st,g.left - w.value,g.O,g.G++[w]⟩ (by simp only;omega)
  .exact VD any r ⟨g.st||!any,g.left,g.O++[w],g.G⟩ hl
theorem apJ(any:Bool):∀(Q:List W)(g:GS),g.st=true->dX any g Q=⟨true,g.left,g.O++Q,g.G⟩
 | [],⟨st,l,O,G⟩,h=>by simp at h;simp[dX,h]
 |w::r,⟨st,l,O,G⟩,h=>by
  simp at h;subst h;unfold dX
  have:qL true l w=false:=by simp[qL]
  simp only[this];rw[aD (by simp),apJ any r _ (by rfl)]
  simp
end Go.VS.Sp
namespace Go.VS.Sp
theorem VE:∀(Q:List W)(g:GS),g.st=false->(∀w∈Q,0<=w.value)->(∀w∈g.O,g.left<w.value)->(dX true g Q).st=false/\∀w∈(dX true g Q).O,(dX true g Q).left<w.value
 | [],g,hs,_,h=>⟨by simpa[dX]using hs,by simpa[dX]using h⟩
 |w::r,g,hs,hv,h=>by
  unfold dX;have hw:=hv w (by simp)
  split
  .refine VE r ⟨g.st,g.left - w.value,g.O,g.G++[w]⟩ hs (λx hx=>hv x (by simp[hx])) λx hx=>?_
   have:=h x hx;simp only;omega
  .rename_i hk
   refine VE r ⟨g.st||!true,g.left,g.O++[w],g.G⟩ (by simpa using hs) (λx hx=>hv x (by simp[hx])) λx hx=>?_
   simp only at hx⊢;rcases dj.1 hx with hx |hx
   .exact h x hx
   .simp at hx
    subst hx;unfold qL at hk;rw[hs]at hk;simp at hk;exact hk hw
end Go.VS.Sp
namespace Go.VS.Sp
theorem apK:∀(Q:List W)(g:GS),g.st=false->(∀w∈Q,0<=w.value) ->
  ((dX false g Q).O=g.O/\(dX false g Q).G=g.G++Q)\/∃A w B,Q=A++w::B/\(dX false g Q).G=g.G++A/\(dX false g Q).O=g.O++w::B/\(dX false g Q).left<w.value
 | [],g,_,_=>.inl (by simp[dX])
 |w::r,g,hs,hv=>by
  unfold dX;have hw:=hv w (by simp)
  split
  .rcases apK r ⟨g.st,g.left - w.value,g.O,g.G++[w]⟩ hs (λx hx=>hv x (by simp[hx]))with⟨h1,h2⟩ |⟨A,x,B,h1,h2,h3,h4⟩
   .exact .inl ⟨h1,by rw[h2];simp⟩
   .exact .inr ⟨w::A,x,B,by rw[h1];rfl,by rw[h2];simp,h3,h4⟩
  .rename_i hk
   rw[apJ false r _ (by simp)]
   refine .inr ⟨[],w,r,rfl,by simp,by simp,?_⟩
   unfold qL at hk;rw[hs]at hk;simp at hk;exact hk hw
end Go.VS.Sp
namespace Go.VS.Sp
end Go.VS.Sp
