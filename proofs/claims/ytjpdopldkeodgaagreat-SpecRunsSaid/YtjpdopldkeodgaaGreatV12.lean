import Derived.Test.YtjpdopldkeodgaaGreatV11
set_option linter.all false
set_option maxHeartbeats 1000000
namespace Go.VS.Sp
def cR(sz:Int)(qn:Bool)(Q:List W)(C:List K):Ad:=gW sz (Q.length+1) ⟨qn,Q,C,[]⟩
theorem Aa(sz:Int):∀(n:Nat)(a:Ad),(gW sz n a).C.length=a.C.length
 | 0,a=>rfl
 |n+1,a=>by
  unfold gW;split
  .rfl
  .split
   .rfl
   .rw[Aa sz n];simp[Ad.step]
set_option maxHeartbeats 4000000 in
theorem Vn(z:Z)(sz:Int)(qn:Bool)(Q:List W)(C:List K)(cs:Option (List (List D)))(hk:Hk)(hok:Ad.ok cs ⟨qn,Q,C,[]⟩)(pX:hk = .w0\/(hk = .wc Q/\qn=false)):
  ev P (.call Er [.loc 0 0 0] (pH z sz qn Q C cs hk)) =
   some (.val (.tu []) (pR z sz (qD (cR sz qn Q C).qn (cR sz qn Q C).Q) (cR sz qn Q C).C cs hk (cR sz qn Q C).wn)):=by
 have hP:=anU z sz (qD qn Q) C cs;have hL:=anV z sz cs (Q.length+1) ⟨qn,Q,C,[]⟩ (by simp) hok
 have hl:(cR sz qn Q C).C.length=C.length:=Aa sz _ _;have JE:cs=none->(cR sz qn Q C).C=[]:=λh=>by
  have h3:C=[]:=hok.1 h;have h2:C.length=0:=by rw[h3];rfl
  exact Cb.1 (hl.trans h2)
 change _=some (dN.out .ret [] (aH z sz (qD (cR sz qn Q C).qn (cR sz qn Q C).Q) (cR sz qn Q C).C cs (cR sz qn Q C).wn))at hL;generalize cR sz qn Q C=a at *;obtain⟨og,Q',C',wn'⟩:=a;simp only at hL hl JE⊢;have hF:ev P (.call Lz [.jj 0,.rf [.loc 1 0 0]] (aH z sz (qD qn Q) C cs []))=some (.val (.tu []) (aH z sz (qD og Q') C' cs wn')):=by
  rw[au afg rfl];rcases cs with _ |T<;>rcases wn' with _ |⟨x,wn'⟩;all_goals
   simp[aH,mA,bA,bM]at hL;simp[So,aH,mA,bA,bM,hL,av,ak,cut,dw,dx,eJ,an]
 rw[au aeu rfl];rcases pX with rfl |⟨rfl,rfl⟩
 .rcases cs with _ |T<;>rcases wn' with _ |⟨x,wn'⟩
  .have yD:C=[]:=hok.1 rfl
   have DO:C'=[]:=JE rfl;subst yD DO;simp[hB,aH,mA,bA,bM,hl]at hF hP;simp[xV,pH,pR,hB,bH,fH,aH,mA,bA,bM,hP,hF,az,sub,aD,back,aX,aZ,ak,cut,dw,dx,eJ,cg,an,bk,av,hl,jP]
  .have yD:C=[]:=hok.1 rfl
   have DO:C'=[]:=JE rfl;subst yD DO;simp[hB,aH,mA,bA,bM,hl]at hF hP;simp[xV,pH,pR,hB,bH,fH,aH,mA,bA,bM,hP,hF,az,sub,aD,back,aX,aZ,ak,cut,dw,dx,eJ,cg,an,bk,av,hl,jP]
  .simp[hB,aH,mA,bA,bM,hl]at hF hP
   simp[xV,pH,pR,hB,bH,fH,aH,mA,bA,bM,hP,hF,az,sub,aD,back,aX,aZ,ak,cut,dw,dx,eJ,cg,an,bk,av,hl,jP]
  .simp[hB,aH,mA,bA,bM,hl]at hF hP
   simp[xV,pH,pR,hB,bH,fH,aH,mA,bA,bM,hP,hF,az,sub,aD,back,aX,aZ,ak,cut,dw,dx,eJ,cg,an,bk,av,hl,jP]
 .rcases cs with _ |T<;>rcases wn' with _ |⟨x,wn'⟩
  .have yD:C=[]:=hok.1 rfl
   have DO:C'=[]:=JE rfl;subst yD DO;simp[hB,aH,mA,bA,bM,hl]at hF hP;simp[xV,pH,pR,hB,bH,fH,aH,mA,bA,bM,hP,hF,az,sub,aD,back,aX,aZ,ak,cut,dw,dx,eJ,cg,an,bk,av,hl,jP]
  .have yD:C=[]:=hok.1 rfl
   have DO:C'=[]:=JE rfl;subst yD DO;simp[hB,aH,mA,bA,bM,hl]at hF hP;simp[xV,pH,pR,hB,bH,fH,aH,mA,bA,bM,hP,hF,az,sub,aD,back,aX,aZ,ak,cut,dw,dx,eJ,cg,an,bk,av,hl,jP]
  .simp[hB,aH,mA,bA,bM,hl]at hF hP
   simp[xV,pH,pR,hB,bH,fH,aH,mA,bA,bM,hP,hF,az,sub,aD,back,aX,aZ,ak,cut,dw,dx,eJ,cg,an,bk,av,hl,jP]
  .simp[hB,aH,mA,bA,bM,hl]at hF hP
   simp[xV,pH,pR,hB,bH,fH,aH,mA,bA,bM,hP,hF,az,sub,aD,back,aX,aZ,ak,cut,dw,dx,eJ,cg,an,bk,av,hl,jP]
end Go.VS.Sp
namespace Go.VS.Sp
theorem anW(nl:Bool)(l:List W)(t:Int)(hn:l.length<=1000000):
  ev P (.call xO [.d (qD nl l),.d (I' t)] [])=some (.val (.d (qO (l.filter λw=>w.task != t))) []):=by
 have hf:ev P (.call QT [.d (qD nl l),.d (.fn Es [] [.ref [I' t]])] [])=some (.val (.d (qO (l.filter λw=>w.task != t))) []):=by
  rw[au aeJ rfl];have hl:=anF (f:=Es) (first:=[]) (caps:=[.ref [I' t]]) (p:=λw=>w.task != t) nl l hn (by intro a b c d e;simp[anE]) _ rfl l [] rfl
  cases hf:l.filter λw=>w.task != t with
  |nil=>simp[hf,uJ,uK]at hl;simp[Ms,hl,qO]
  |cons a r=>simp[hf,uJ,uK,W.row]at hl;simp[Ms,hl,qO,W.row,bk]
 rw[au ad0 rfl];simp[RA,hf]
structure Rp where
 st:S
 parked:Bool
 value:Int
 ok:Bool
 kn:Bool
 wn:List cE
abbrev kD(n:Bool)(l:List cE):D:=.sl 5 n (l.map cE.row)
abbrev Rp.row(r:Rp):List D:=[I' r.st.own,I' r.st.cnt,I' r.st.time,hD r.st.hn r.st.H,qD r.st.qn r.st.Q,hD r.st.bn r.st.B,cD r.st.cn r.st.C,.b r.st.cl,I' r.st.val,.b r.parked,I' r.value,.b r.ok,kD r.kn r.wn]
def S0:S:=⟨0,0,0,true,[],true,[],true,[],true,[],false,0⟩
def sN:Rp:=⟨S0,false,0,false,true,[]⟩
structure S.wz(s:S):Prop where
 h:s.H.length<=1000
 b:s.B.length<=1000
 q:s.Q.length<=1000
 c:s.C.length<=1000
 l:∀c∈s.C,(c.nl=true->c.log=[])/\c.log.length<=1000
 qn:s.qn=true->s.Q=[]
 cn:s.cn=true->s.C=[]
theorem S.wz.sm{s:S}(h:s.wz):s.sm:=⟨by have:=h.h;omega,by have:=h.b;omega,by have:=h.q;omega,by have:=h.c;omega,λc hc=>by have:=(h.l c hc).2;omega⟩
abbrev S.z(s:S):Z:=⟨I' s.own,I' s.cnt,I' s.time,hD s.hn s.H,hD s.bn s.B,.b s.cl,I' s.val⟩
def tQ(cn:Bool):Option (List (List D)):=if cn=true then none else some []
abbrev S.put(s:S)(a:Ad):S:={s with qn:=a.qn,Q:=a.Q,C:=a.C}
end Go.VS.Sp
namespace Go.VS.Sp
def wB(z:Z)(sz:Int)(qn:Bool)(Q':List W)(cn:Bool)(C:List K):List O :=
 match qn,cn with
 |true,true=>[bM z sz (qD false Q') (.sl 2 true []) (.sl 5 true [])]
 |true,false=>[bA z sz (.d (qD false Q')) (.aQ 1 0 C.length) (.d (.sl 5 true [])),.aG 2 true (C.map K.row)]
 |false,true=>[bA z sz (.d (qD false Q')) (.d (.sl 2 true [])) (.d (.sl 5 true [])),.dead]
 |false,false=>[bA z sz (.d (qD false Q')) (.aQ 2 0 C.length) (.d (.sl 5 true [])),.dead,.aG 2 true (C.map K.row)]
theorem anX(z:Z)(sz:Int)(qn:Bool)(Q:List W)(cn:Bool)(C:List K)(t op v p n x:Int)(h1:qn=true->Q=[])(h3:Q.length<=1000000):
  ev P (.call KZ [.loc 0 0 0,.d (.ag [I' t,I' op,I' v,I' p,I' n]),.d (I' x)] (dg z sz qn Q cn C))=some (.val (.tu []) (wB z sz qn (Q++[⟨t,op,x,p,-1⟩]) cn C)):=by
 rw[au aey rfl];cases qn
 .have hr:Q.length+1<=room:=by unfold room;omega
  cases cn<;>simp[Ml,dg,wB,bM,bA,W.row,ak,cut,dw,dx,eJ,an,av,hr,V.aV,bk,zX,cz,bp,aX,aZ]
 .have hr:1<=room:=by unfold room;omega
  obtain rfl:=h1 rfl;cases cn<;>simp[Ml,dg,wB,bM,bA,W.row,ak,cut,dw,dx,eJ,an,av,hr,V.aV,bk,zX,cz,bp,aX,aZ]
def j4(C:List K)(t:Int):Nat:=(C.takeWhile λc=>decide (c.task<t)).length
def mj(C:List K)(t:Int):List K:=C.take (j4 C t)++⟨t,true,[]⟩::C.drop (j4 C t)
def sB(z:Z)(sz:Int)(qn:Bool)(Q:List W)(cn:Bool)(C':List K):List O :=
 match qn,cn with
 |true,true=>[bA z sz (.d (.sl 5 true [])) (.aQ 1 0 C'.length) (.d (.sl 5 true [])),.aG 2 true (C'.map K.row)]
 |true,false=>[bA z sz (.d (.sl 5 true [])) (.aQ 2 0 C'.length) (.d (.sl 5 true [])),.dead,.aG 2 true (C'.map K.row)]
 |false,true=>[bA z sz (.aQ 1 0 Q.length) (.aQ 2 0 C'.length) (.d (.sl 5 true [])),.aG 5 true (Q.map W.row),.aG 2 true (C'.map K.row)]
 |false,false=>[bA z sz (.aQ 1 0 Q.length) (.aQ 3 0 C'.length) (.d (.sl 5 true [])),.aG 5 true (Q.map W.row),.dead,.aG 2 true (C'.map K.row)]
theorem anY(z:Z)(sz:Int)(qn:Bool)(Q:List W)(C:List K)(t:Int)(hn:C.length<=1000000):∀(suf pre:List K),C=pre++suf ->
  ev P (.loop (if qn=true then 2 else 3) [0,1,4] EV [(0,.loc 0 0 0),(1,.d (I' t)),(4,.d (I' pre.length))] (dg z sz qn Q false C)) =
   some (.out (.exit 0) [(0,.loc 0 0 0),(1,.d (I' t)),(4,.d (I' (pre.length+j4 suf t:Nat)))] (dg z sz qn Q false C)):=by
 intro suf;induction suf with
 |nil =>
  intro pre hl
  have:C.length=pre.length:=by simp[hl]
  rw[bT]
  conv=>lhs;arg 4;unfold EV
  cases qn<;>simp[this,j4,dg,bA,ak,cut,dw,dx,an]
 |cons c suf ih =>
  intro pre hl;have hg:C[pre.length]?=some c:=by simp[hl]
  have jF:pre.length<C.length:=by simp[hl]
  have tE:C[pre.length]=c:=by simpa[qM jF]using hg
  have hlt:(pre.length:Int)<C.length:=by omega
  have hnext:IntKind.i64.wrap ((pre.length:Int)+1)=pre.length+1:=wrap_i64 (by omega) (by omega)
  have bD:=ih (pre++[c]) (by simp[hl])
  rw[bT]
  conv=>lhs;arg 4;unfold EV
  by_cases hc:c.task<t
  .have e:j4 (c::suf) t=j4 suf t+1:=by simp[j4,hc]
   rw[e];have e2:pre.length+(j4 suf t+1)=(pre++[c]).length+j4 suf t:=by simp;omega
   rw[e2,<-bD];generalize hR:ev P (.loop (if qn=true then 2 else 3) [0,1,4] EV [(0,.loc 0 0 0),(1,.d (I' t)),(4,.d (I' (pre++[c]).length))] (dg z sz qn Q false C))=R
   cases qn;all_goals
    simp[dg,bA]at hR;simp[hlt,jF,tE,K.row,hc,hnext,dg,bA,ak,cut,dw,dx,an,hR]
  .have e:j4 (c::suf) t=0:=by simp[j4,hc]
   rw[e];cases qn<;>simp[hlt,jF,tE,K.row,hc,hnext,dg,bA,ak,cut,dw,dx,an]
theorem anZ(C:List K)(t:Int):j4 C t<=C.length:=(WG _).length_le
theorem an0(z:Z)(sz:Int)(qn:Bool)(Q:List W)(cn:Bool)(C:List K)(t:Int)(h2:cn=true->C=[])(hn:C.length<=100000):
  ev P (.call QJ [.loc 0 0 0,.d (I' t)] (dg z sz qn Q cn C))=some (.val (.tu []) (sB z sz qn Q cn (mj C t))):=by
 have hI:=Cn Yb (p:=lZ 2) rfl;have hL:=anY z sz qn Q C t (by omega) C [] rfl
 have hb:=anZ C t;have hlen:(mj C t).length=C.length+1:=by simp[mj];omega
 have hrow:(mj C t).map K.row=(C.map K.row).take (j4 C t)++[I' t,.sl 1 true []]::(C.map K.row).drop (j4 C t):=by simp[mj,B3,B4,K.row]
 have sC:((C.map K.row).take (j4 C t)++[I' t,.sl 1 true []]::(C.map K.row).drop (j4 C t)).length=C.length+1:=by simp;omega
 rw[au aer rfl];cases cn
 .have hr:C.length+1<=room:=by unfold room;omega
  generalize mj C t=C' at *;generalize j4 C t=N at *;simp only[lf,nP]at hL;cases qn;all_goals
   simp[dg,bA]at hL;simp[Mj,hL,hI,lZ,jR,hr,hb,dg,sB,bA,bM,az,sub,aD,back,ak,cut,dw,dx,eJ,an,av,bk,hlen,hrow]
 .obtain rfl:=h2 rfl
  have hr:1<=room:=by unfold room;omega
  cases qn<;>simp[Mj,EV,bT,hI,lZ,jR,hr,dg,sB,bA,bM,az,sub,aD,back,ak,cut,dw,dx,eJ,an,av,mj,j4,K.row]
end Go.VS.Sp
namespace Go.VS.Sp
@[simp] theorem cE.eta(w:cE):cE.mk w.task w.op w.value=w:=rfl
theorem an1{f:Nat}{first caps:List D}{p:cE->Bool}(nl:Bool)(l:List cE)(hn:l.length<=1000000)
  (hp:∀a b c,ev P (.call f (first.map V.d++[.d (.ag [I' a,I' b,I' c,.b true,I' (-1)])]++caps.map V.d) [])=some (.val (.d (.b (p ⟨a,b,c⟩))) [])):
  ∀(suf pre:List cE),l=pre++suf ->
  ev P (.loop 0 [0,1,7,8] MB [(0,.d (.sl 5 nl (l.map cE.row))),(1,.d (.fn f first caps)),(7,.d (I' l.length)),(8,.d (I' pre.length))] []) =
   if idx p pre.length suf = -1 then some (.out (.exit 0) [] [])else some (.out .ret [(4,.d (I' (idx p pre.length suf)))] []):=by
 intro suf;induction suf with
 |nil =>
  intro pre hl
  have:l.length=pre.length:=by simp[hl]
  rw[bT]
  conv=>lhs;arg 4;unfold MB
  simp[this,idx]
 |cons w suf ih =>
  intro pre hl;have hg:l[pre.length]?=some w:=by simp[hl]
  have hlt:(pre.length:Int)<l.length:=by simp[hl];omega
  have hnext:IntKind.i64.wrap ((pre.length:Int)+1)=pre.length+1:=wrap_i64 (by omega) (by omega)
  have bD:=ih (pre++[w]) (by simp[hl])
  simp at bD hp;rw[bT]
  conv=>lhs;arg 4;unfold MB
  simp[hlt,hg,cE.row,hp,th];cases hw:p w
  .simp[idx,hw,hnext]
   exact bD
  .have:¬(pre.length:Int) = -1:=by omega
   simp[idx,hw,this]
theorem an2{f:Nat}{first caps:List D}{p:cE->Bool}(nl:Bool)(l:List cE)(hn:l.length<=1000000)
  (hp:∀a b c,ev P (.call f (first.map V.d++[.d (.ag [I' a,I' b,I' c,.b true,I' (-1)])]++caps.map V.d) [])=some (.val (.d (.b (p ⟨a,b,c⟩))) [])):
  ev P (.call Lp [.d (.sl 5 nl (l.map cE.row)),.d (.fn f first caps)] [])=some (.val (.d (I' (idx p 0 l))) []):=by
 rw[au ae5 rfl];have hl:=an1 nl l hn hp l [] rfl;simp at hl;simp[Sh,hl];by_cases hc:idx p 0 l = -1<;>simp[hc]
theorem an3(t x1 x2 x3 x4 a b c:Int):ev P (.call Hu [.d (.ag [I' a,I' b,I' c,.b true,I' (-1)]),.d (.ref [I' t,I' x1,I' x2,I' x3,I' x4])] [])=some (.val (.d (.b (a==t))) []):=by
 rw[au ae6 rfl];simp[Si]
def qE(l:List cE)(t:Int):Int:=idx (λw=>w.task==t) 0 l
theorem an4(nl:Bool)(l:List cE)(t x1 x2 x3 x4:Int)(hn:l.length<=1000000):
  ev P (.call Lp [.d (kD nl l),.d (.fn Hu [] [.ref [I' t,I' x1,I' x2,I' x3,I' x4]])] [])=some (.val (.d (I' (qE l t))) []):=by
 have h:=an2 (f:=Hu) (first:=[]) (caps:=[.ref [I' t,I' x1,I' x2,I' x3,I' x4]]) (p:=λw=>w.task==t) nl l hn (by intro a b c;simp[an3])
 exact h
theorem an5(q:List Int)(hn:q.length<=1000000):
  ev P (.call QV [.d (hD false q)] [])=some (.val (.d (hD false q)) []):=by
 have hr:q.length<=room:=by unfold room;omega
 rw[au aeM rfl];cases q with
 |nil=>simp[Mt,rj,eK,fO,ak,cut,av]
 |cons a r =>
  simp at hr;simp[Mt,rj,eK,fO,ak,cut,hr,av,bk]
def ez(p:Bool)(v:Int)(ok:Bool):List D:=[I' 0,I' 0,I' 0,.sl 1 true [],.sl 5 true [],.sl 1 true [],.sl 2 true [],.b false,I' 0,.b p,I' v,.b ok,.sl 5 true []]
def iw(qn:Bool)(Q:List W):Hk:=if qn=true then .w0 else .wc Q
set_option maxHeartbeats 4000000 in
theorem an6(z:Z)(sz:Int)(qn:Bool)(Q:List W)(C A B:List K)(c:K)(t op v p n x:Int)(lg:List Int)(hC:C=A++c::B)(hf:jT C t=(A.length:Int))(iZ:c.log=x::lg)
  (h1:qn=true->Q=[])(h3:Q.length<=1000)(h4:C.length<=1000)(h5:∀c∈C,(c.nl=true->c.log=[])/\c.log.length<=1000):
  ev P (.call K2 [.loc 0 0 0,.d (.ag [I' t,I' op,I' v,I' p,I' n])] (dg z sz qn Q false C)) =
   some (.val (.d (.ag (ez false x true))) (pR z sz (qD (cR sz qn Q (A++⟨c.task,false,lg⟩::B)).qn (cR sz qn Q (A++⟨c.task,false,lg⟩::B)).Q) (cR sz qn Q (A++⟨c.task,false,lg⟩::B)).C (some []) (iw qn Q) (cR sz qn Q (A++⟨c.task,false,lg⟩::B)).wn)):=by
 have iF:=h5 c (by simp[hC])
 have hlen:(A++⟨c.task,false,lg⟩::B).length=C.length:=by simp[hC]
 have kN:lg.length<=1000:=by have:=iF.2;rw[iZ]at this;simp at this;omega
 have gm:c.nl=false:=by
  cases h:c.nl
  .rfl
  .have:=iF.1 h;rw[iZ]at this;cases this
 have hok:Ad.ok (some []) ⟨qn,Q,A++⟨c.task,false,lg⟩::B,[]⟩:=by
  refine⟨?_,?_,?_,?_,h1⟩
  .intro h;cases h
  .simp only;omega
  .intro d hd
   simp only at hd⊢;rw[dc,dA]at hd;rcases hd with hd |rfl |hd
   .have:=h5 d (by rw[hC];simp[hd])
    exact⟨this.1,by omega⟩
   .exact⟨by simp,by simp only;omega⟩
   .have:=h5 d (by rw[hC];simp[hd])
    exact⟨this.1,by omega⟩
  .simp;omega
 have hA:=Vn z sz qn Q (A++⟨c.task,false,lg⟩::B) (some []) (iw qn Q) hok (by
  cases qn
  .exact .inr ⟨rfl,rfl⟩
  .exact .inl rfl)
 have hl:(cR sz qn Q (A++⟨c.task,false,lg⟩::B)).C.length=C.length:=(Aa sz _ _).trans hlen;generalize cR sz qn Q (A++⟨c.task,false,lg⟩::B)=a at *;obtain⟨og,Q',C',wn⟩:=a;simp only at hA hl⊢;have Bq:∀(d0 d1 d2 d3 d4 d5 d7 d8:D),ev P (.call yX [.d (.ag [d0,d1,d2,d3,d4,d5,cD false C,d7,d8]),.d (I' t)] [])=some (.val (.d (I' A.length)) []):=by
  intro d0 d1 d2 d3 d4 d5 d7 d8;have:=Ie d0 d1 d2 d3 d4 d5 d7 d8 false C t (by omega)
  rw[hf]at this;exact this
 have bN:=an5 lg (by omega)
 have mI:C.map K.row=A.map K.row++[I' c.task,.sl 1 false (bW (x::lg))]::B.map K.row:=by rw[hC];simp[K.row,gm,iZ]
 have rU:=OO (A:=A.map K.row) (B:=B.map K.row) (x:=[I' c.task,.sl 1 false (bW (x::lg))]) (n:=A.length) (by simp)
 have BK:=λy=>anK (A:=A.map K.row) (B:=B.map K.row) (x:=[I' c.task,.sl 1 false (bW (x::lg))]) (y:=y) (n:=A.length) (by simp)
 have dJ:C.length=A.length+(B.length+1):=by rw[hC];simp
 have hlt:(A.length:Int)<A.length+(B.length+1):=by omega
 have n2:A.length<A.length+(B.length+1):=by omega
 have iz:∀r:List D,List.take (A.length+(B.length+1)) (A.map K.row++r::B.map K.row)=A.map K.row++r::B.map K.row:=λr=>gE (by simp)
 have h6:(1:Int)<=lg.length+1:=by omega
 rw[au XV rfl];simp only[bW,fT]at rU BK mI;cases qn
 .rcases wn with _ |⟨w,wn⟩
  all_goals
   simp[pH,pR,hB,bH,fH,iw,bA,bM,hl,dJ,K.row]at hA;have tR:=Bq;simp only[cD,mI]at tR;simp[EX,dg,pR,bH,fH,iw,ez,bA,bM,tR,hA,mI,rU,BK,dJ,iz,hlt,n2,h6,hl,bN,az,sub,aD,back,ak,cut,dw,dx,eJ,an,bk,av,V.aV]
 .obtain rfl:=h1 rfl
  rcases wn with _ |⟨w,wn⟩;all_goals
   simp[pH,pR,hB,bH,fH,iw,bA,bM,hl,dJ,K.row,qD]at hA;have tR:=Bq;simp only[cD,mI]at tR;simp[EX,qD,dg,pR,bH,fH,iw,ez,bA,bM,tR,hA,mI,rU,BK,dJ,iz,hlt,n2,h6,hl,bN,az,sub,aD,back,ak,cut,dw,dx,eJ,an,bk,av,V.aV]
end Go.VS.Sp
namespace Go.VS.Sp
inductive Wn where
 |d(n:Bool)(l:List cE)
 |m(l:List cE)
def nB(z:Z)(sz:Int)(qn:Bool)(q:D)(C:List K):Wn->List O
 | .d n l=>if qn=true then[bA z sz (.d q) (.aQ 1 0 C.length) (.d (kD n l)),.aG 2 true (C.map K.row)]else[bA z sz (.d q) (.aQ 2 0 C.length) (.d (kD n l)),.dead,.aG 2 true (C.map K.row)]
 | .m l=>if qn=true then[bA z sz (.d q) (.aQ 1 0 C.length) (.aQ 2 0 l.length),.aG 2 true (C.map K.row),.aG 5 true (l.map cE.row)]else[bA z sz (.d q) (.aQ 2 0 C.length) (.aQ 3 0 l.length),.dead,.aG 2 true (C.map K.row),.aG 5 true (l.map cE.row)]
def mW:List cE->Wn
 | []=>.d true []
 |a::l=>.m (a::l)
def got(l:List cE)(t:Int):Option (Int×List cE):=if qE l t<0 then none else(l[(qE l t).toNat]?).map λw=>(w.value,l.eraseIdx (qE l t).toNat)
set_option maxHeartbeats 4000000 in
theorem an7(z:Z)(sz:Int)(qn:Bool)(Q:List W)(C A B:List K)(c:K)(t op v p n:Int)(hC:C=A++c::B)(hf:jT C t=(A.length:Int))(iZ:c.log=[])
  (h1:qn=true->Q=[])(h3:Q.length<=1000)(h4:C.length<=1000)(h5:∀c∈C,(c.nl=true->c.log=[])/\c.log.length<=1000)(yE:(cR sz false (Q++[⟨t,op,0,p,-1⟩]) C).wn.length<=100000):
  ev P (.call K2 [.loc 0 0 0,.d (.ag [I' t,I' op,I' v,I' p,I' n])] (dg z sz qn Q false C)) =
   some (match got (cR sz false (Q++[⟨t,op,0,p,-1⟩]) C).wn t with
    |none=>.val (.d (.ag (ez true 0 false))) (nB z sz qn (qD (cR sz false (Q++[⟨t,op,0,p,-1⟩]) C).qn (cR sz false (Q++[⟨t,op,0,p,-1⟩]) C).Q) (cR sz false (Q++[⟨t,op,0,p,-1⟩]) C).C (mW (cR sz false (Q++[⟨t,op,0,p,-1⟩]) C).wn))
    |some x=>.val (.d (.ag (ez false x.1 true))) (nB z sz qn (qD (cR sz false (Q++[⟨t,op,0,p,-1⟩]) C).qn (cR sz false (Q++[⟨t,op,0,p,-1⟩]) C).Q) (cR sz false (Q++[⟨t,op,0,p,-1⟩]) C).C (.d false x.2))):=by
 have hw:=anX z sz qn Q false C t op v p n 0 h1 (by omega)
 have hok:Ad.ok (some []) ⟨false,Q++[⟨t,op,0,p,-1⟩],C,[]⟩:=by
  refine⟨?_,?_,?_,?_,?_⟩
  .intro h;cases h
  .simp only;omega
  .intro d hd
   have:=h5 d hd;refine⟨this.1,?_⟩;simp;omega
  .simp;omega
  .intro h;cases h
 have hA:=Vn z sz false (Q++[⟨t,op,0,p,-1⟩]) C (some []) .w0 hok (.inl rfl);have hl:(cR sz false (Q++[⟨t,op,0,p,-1⟩]) C).C.length=C.length:=Aa sz _ _;generalize cR sz false (Q++[⟨t,op,0,p,-1⟩]) C=a at *;obtain⟨og,Q',C',wn⟩:=a;simp only at hA hl yE⊢;have Bq:∀(d0 d1 d2 d3 d4 d5 d7 d8:D),ev P (.call yX [.d (.ag [d0,d1,d2,d3,d4,d5,cD false C,d7,d8]),.d (I' t)] [])=some (.val (.d (I' A.length)) []):=by
  intro d0 d1 d2 d3 d4 d5 d7 d8;have:=Ie d0 d1 d2 d3 d4 d5 d7 d8 false C t (by omega)
  rw[hf]at this;exact this
 have mI:C.map K.row=A.map K.row++[I' c.task,.sl 1 c.nl []]::B.map K.row:=by rw[hC];simp[K.row,iZ]
 have rU:=OO (A:=A.map K.row) (B:=B.map K.row) (x:=[I' c.task,.sl 1 c.nl []]) (n:=A.length) (by simp)
 have dJ:C.length=A.length+(B.length+1):=by rw[hC];simp
 have hlt:(A.length:Int)<A.length+(B.length+1):=by omega
 have n2:A.length<A.length+(B.length+1):=by omega
 have iz:∀r:List D,List.take (A.length+(B.length+1)) (A.map K.row++r::B.map K.row)=A.map K.row++r::B.map K.row:=λr=>gE (by simp)
 have tR:=Bq;simp only[cD,mI]at tR;have hk:=λnl=>an4 nl wn t op v p n (by omega)
 rw[au XV rfl];by_cases hg:qE wn t<0
 .have hgt:got wn t=none:=by simp[got,hg]
  rw[hgt];cases qn;all_goals
   rcases wn with _ |⟨w,wn⟩;all_goals
    simp[dg,wB,bA,bM,dJ,mI]at hw;simp[pH,pR,hB,bH,fH,bA,bM,hl,dJ,mI]at hA;have pX:=hk false;have hk1:=hk true;simp only[kD,fT,gq]at pX hk1;simp[EX,dg,nB,mW,ez,bA,bM,tR,hw,hA,mI,rU,dJ,iz,hlt,n2,hl,pX,hk1,hg,az,sub,aD,back,ak,cut,dw,dx,eJ,an,bk,av,V.aV]
 .rcases CT (p:=λw:cE=>w.task==t) wn 0 with⟨g1,_⟩ |⟨i,w,g1,g2,_⟩
  .exfalso
   have:qE wn t = -1:=g1
   omega
  .have BM:qE wn t=(i:Int):=by simpa[qE]using g1
   obtain⟨W1,W2,hW,hWl⟩:∃W1 W2,wn=W1++w::W2/\W1.length=i:=by
    obtain⟨hlt,he⟩:=rW.1 g2;refine⟨wn.take i,wn.drop (i+1),?_,by simp;omega⟩
    rw[<-he];simp
   subst hWl;have hgt:got wn t=some (w.value,W1++W2):=by
    have e:((W1.length:Int)).toNat=W1.length:=by omega
    simp only[got,BM,e,g2,sU];rw[aE (by omega),hW,Ed (by omega)]
    simp
   rw[hgt];rw[BM]at hk;have n3:¬((W1.length:Int)<0):=by omega
   have hW0:wn=W1++w::W2:=hW;have hwn:∃x y,wn=x::y:=by
    cases W1 with
    |nil=>exact⟨w,W2,hW⟩
    |cons a r=>exact⟨a,r++w::W2,hW⟩
   have jq:w.row=[I' w.task,I' w.op,I' w.value,.b true,I' (-1)]:=rfl;have hmr:wn.map cE.row=W1.map cE.row++w.row::W2.map cE.row:=by rw[hW];simp
   have hD:=anR (W1.map cE.row) (W2.map cE.row) w.row (by rw[hW]at yE;simp at yE⊢;omega)
   have an8:=OO (A:=W1.map cE.row) (B:=W2.map cE.row) (x:=w.row) (n:=W1.length) (by simp)
   have an9:wn.length=W1.length+(W2.length+1):=by rw[hW];simp
   have hw1:IntKind.i64.wrap ((W1.length:Int)+1)=W1.length+1:=wrap_i64 (by omega) (by omega)
   have aoa:∀r:List D,List.take (W1.length+(W2.length+1)) (W1.map cE.row++r::W2.map cE.row)=W1.map cE.row++r::W2.map cE.row:=λr=>gE (by simp)
   have aob:∀r:List D,List.take (W1.length+W2.length) (W1.map cE.row++(W2.map cE.row++[r]))=W1.map cE.row++W2.map cE.row:=λr=>by
    have:W1.map cE.row++(W2.map cE.row++[r])=(W1.map cE.row++W2.map cE.row)++[r]:=by simp
    rw[this];exact tZ (by simp)
   have aoc:(W1.length:Int)<W1.length+(W2.length+1):=by omega
   have n4:W1.length<W1.length+(W2.length+1):=by omega
   have pX:=hk false;simp only[kD,hmr]at pX;have Va:∀(x:List O),bH z sz (qD og Q') C' 0 (some []) .w0 wn++fH .w0 wn=[bA z sz (.d (qD og Q')) (.aQ 1 0 C'.length) (.aQ 2 0 wn.length),.aG 2 true (C'.map K.row),.aG 5 true (wn.map cE.row)]:=by
    intro _;obtain⟨x,y,hxy⟩:=hwn;rw[hxy];simp[bH,fH]
   unfold pR at hA;rw[Va []]at hA;rw[hmr,an9]at hA;simp[jq]at hD an8 pX;cases qn;all_goals
    simp[dg,wB,bA,bM,dJ,mI]at hw;simp[pH,hB,bA,bM,hl,dJ,mI,jq]at hA;simp[EX,dg,nB,ez,bA,bM,tR,hw,hA,mI,rU,dJ,iz,hlt,n2,hl,pX,n3,hD,an8,hw1,aoa,aob,aoc,n4,jq,az,sub,aD,back,bp,aX,aZ,ak,cut,dw,dx,eJ,an,bk,av,V.aV]
end Go.VS.Sp
namespace Go.VS.Sp
abbrev up(h:List O):List O:=h
theorem aod(z:Z)(sz:Int)(qn:Bool)(Q:List W)(cn:Bool)(C:List K)(t op v p n:Int)(h1:qn=true->Q=[])(h2:cn=true->C=[])(hn:C.length<=100000):
  ev P (.call QI [.rf [.loc 0 0 0],.d (.ref [I' t,I' op,I' v,I' p,I' n])] (up (dg z sz qn Q cn C)))=some (.val (.d (.ag (ez false 0 true))) (up (sB z sz qn Q cn (mj C t)))):=by
 have hS:=an0 z sz qn Q cn C t h2 hn;rw[au aep rfl];cases qn<;>cases cn;all_goals
  simp[dg,sB,bA,bM]at hS;simp[RN,up,dg,sB,bA,bM,hS,ez,az,sub,aD,back,ak,cut,dw,dx,eJ,cg,an,bk,av]
set_option maxHeartbeats 4000000 in
theorem aoe(z:Z)(sz:Int)(qn:Bool)(Q:List W)(C A B:List K)(c:K)(t op v p n:Int)(hC:C=A++c::B)(hf:jT C t=(A.length:Int))
  (h1:qn=true->Q=[])(h3:Q.length<=1000)(h4:C.length<=1000)(h5:∀c∈C,(c.nl=true->c.log=[])/\c.log.length<=1000):
  ev P (.call QK [.rf [.loc 0 0 0],.d (.ref [I' t,I' op,I' v,I' p,I' n])] (up (dg z sz qn Q false C))) =
   some (.val (.d (.ag (ez false 0 true))) (up (pR z sz (qD (cR sz qn Q (A++B)).qn (cR sz qn Q (A++B)).Q) (cR sz qn Q (A++B)).C (some [[I' 0,.sl 1 true []]]) (iw qn Q) (cR sz qn Q (A++B)).wn))):=by
 have dJ:C.length=A.length+(B.length+1):=by rw[hC];simp
 have hlen:(A++B).length=A.length+B.length:=by simp
 have hok:Ad.ok (some [[I' 0,.sl 1 true []]]) ⟨qn,Q,A++B,[]⟩:=by
  refine⟨?_,?_,?_,?_,h1⟩
  .intro h;cases h
  .simp only;omega
  .intro d hd
   simp only at hd⊢;have:=h5 d (by rw[hC];rw[dc]at hd;rcases hd with hd |hd<;>simp[hd])
   exact⟨this.1,by omega⟩
  .simp;omega
 have hA:=Vn z sz qn Q (A++B) (some [[I' 0,.sl 1 true []]]) (iw qn Q) hok (by
  cases qn
  .exact .inr ⟨rfl,rfl⟩
  .exact .inl rfl)
 have hl:(cR sz qn Q (A++B)).C.length=A.length+B.length:=(Aa sz _ _).trans hlen;generalize cR sz qn Q (A++B)=a at *;obtain⟨og,Q',C',wn⟩:=a;simp only at hA hl⊢;have Bq:∀(d0 d1 d2 d3 d4 d5 d7 d8:D),ev P (.call yX [.d (.ag [d0,d1,d2,d3,d4,d5,cD false C,d7,d8]),.d (I' t)] [])=some (.val (.d (I' A.length)) []):=by
  intro d0 d1 d2 d3 d4 d5 d7 d8;have:=Ie d0 d1 d2 d3 d4 d5 d7 d8 false C t (by omega)
  rw[hf]at this;exact this
 have mI:C.map K.row=A.map K.row++c.row::B.map K.row:=by rw[hC];simp
 have hD:=anQ (A.map K.row) (B.map K.row) c.row (by simp;omega)
 have iz:∀r:List D,List.take (A.length+(B.length+1)) (A.map K.row++r::B.map K.row)=A.map K.row++r::B.map K.row:=λr=>gE (by simp)
 have hw1:IntKind.i64.wrap ((A.length:Int)+1)=A.length+1:=wrap_i64 (by omega) (by omega)
 have tR:=Bq;simp only[cD,mI]at tR;rw[au aes rfl];simp at hD;cases qn
 .rcases wn with _ |⟨w,wn⟩
  all_goals
   simp[pH,pR,hB,bH,fH,iw,bA,bM,hl,qD]at hA;simp[Mk,up,dg,pR,bH,fH,iw,bA,bM,tR,hD,hA,mI,dJ,iz,hw1,hl,ez,az,sub,aD,back,ak,cut,dw,dx,eJ,cg,an,bk,av,V.aV,qD]
 .obtain rfl:=h1 rfl
  rcases wn with _ |⟨w,wn⟩;all_goals
   simp[pH,pR,hB,bH,fH,iw,bA,bM,hl,qD]at hA;simp[Mk,up,dg,pR,bH,fH,iw,bA,bM,tR,hD,hA,mI,dJ,iz,hw1,hl,ez,az,sub,aD,back,ak,cut,dw,dx,eJ,cg,an,bk,av,V.aV,qD]
theorem aof(a b c d e:Int):ev P (.call Hl [.d (.ag [I' a,I' b,I' c,I' d,I' e])] [])=some (.val (.d (.b (b==68))) []):=by
 rw[au aew rfl];simp[RP]
def busy(Q:List W):Bool:=Q.any λw=>w.op==68
theorem aog(nl:Bool)(l:List W)(hn:l.length<=1000000):
  ev P (.call ur [.d (qD nl l),.d (.fn Hl [] [])] [])=some (.val (.d (.b (busy l))) []):=by
 have h:=A5 (f:=Hl) (first:=[]) (caps:=[]) (p:=λw=>w.op==68) nl l hn (by intro a b c d e;simp[aof])
 exact h
set_option maxHeartbeats 4000000 in
theorem aoh(z:Z)(sz:Int)(qn:Bool)(Q:List W)(cn:Bool)(C:List K)(t op v p n:Int)
  (h1:qn=true->Q=[])(h2:cn=true->C=[])(h3:Q.length<=1000)(h4:C.length<=1000)(h5:∀c∈C,(c.nl=true->c.log=[])/\c.log.length<=1000):
  ev P (.call QL [.rf [.loc 0 0 0],.d (.ref [I' t,I' op,I' v,I' p,I' n])] (up (dg z sz qn Q cn C))) =
   some (if(busy Q||fl sz C Q)=true then .val (.d (.ag (ez true 0 false))) (up (wB z sz qn (Q++[⟨t,op,v,p,-1⟩]) cn C))
    else .val (.d (.ag (ez false 0 true))) (up (pR z sz (qO (pO Q)) (C.map (gw Q v)) (tQ cn) (iw qn Q) (pW v Q)))):=by
 have hw:=anX z sz qn Q cn C t op v p n v h1 (by omega)
 have tT:=aog qn Q (by omega)
 have qF:∀(d0 d1 d2 d3 d5 d7 d8:D),ev P (.call AK [.d (I' sz),.d (.ag [d0,d1,d2,d3,qD qn Q,d5,cD cn C,d7,d8])] [])=some (.val (.d (.b (fl sz C Q))) []):=λd0 d1 d2 d3 d5 d7 d8=>M0 sz d0 d1 d2 d3 d5 d7 d8 qn Q cn C (by omega) (by omega)
 have hP:=anN z sz qn Q v C (tQ cn) (iw qn Q) (by intro h;apply h2;cases cn<;>simp[tQ]at h⊢) (by omega) (by omega) (λc hc=>⟨(h5 c hc).1,by have:=(h5 c hc).2;omega⟩) (by cases qn<;>simp[iw,Hk.len])
  (by intro Q0 h;cases qn<;>simp[iw]at h⊢;exact h.symm)
 have hl:(C.map (gw Q v)).length=C.length:=by simp
 generalize C.map (gw Q v)=C' at *;generalize pW v Q=wn at *;generalize pO Q=ot at *;generalize busy Q=bq at *;generalize fl sz C Q=fq at *;rw[au aev rfl];cases bq
 .cases fq
  .cases qn
   .cases cn
    .rcases wn with _ |⟨w,wn⟩
     all_goals
      simp[pH,pR,hB,bH,fH,iw,tQ,bA,bM,hl,qD]at hP;simp[uG,up,dg,pR,bH,fH,iw,tQ,bA,bM,tT,qF,hP,hl,ez,az,sub,aD,back,ak,cut,dw,dx,eJ,cg,an,bk,av,V.aV,qD]
    .obtain rfl:=h2 rfl
     simp only[cD,gq]at qF;have rL:C'=[]:=Cb.1 hl;subst rL;rcases wn with _ |⟨w,wn⟩;all_goals
      simp[pH,pR,hB,bH,fH,iw,tQ,bA,bM,hl,qD]at hP;simp[uG,up,dg,pR,bH,fH,iw,tQ,bA,bM,tT,qF,hP,hl,ez,az,sub,aD,back,ak,cut,dw,dx,eJ,cg,an,bk,av,V.aV,qD]
   .obtain rfl:=h1 rfl
    simp only[qD,gq]at tT qF;cases cn
    .rcases wn with _ |⟨w,wn⟩
     all_goals
      simp[pH,pR,hB,bH,fH,iw,tQ,bA,bM,hl,qD]at hP;simp[uG,up,dg,pR,bH,fH,iw,tQ,bA,bM,tT,qF,hP,hl,ez,az,sub,aD,back,ak,cut,dw,dx,eJ,cg,an,bk,av,V.aV,qD]
    .obtain rfl:=h2 rfl
     simp only[cD,gq]at qF;have rL:C'=[]:=Cb.1 hl;subst rL;rcases wn with _ |⟨w,wn⟩;all_goals
      simp[pH,pR,hB,bH,fH,iw,tQ,bA,bM,hl,qD]at hP;simp[uG,up,dg,pR,bH,fH,iw,tQ,bA,bM,tT,qF,hP,hl,ez,az,sub,aD,back,ak,cut,dw,dx,eJ,cg,an,bk,av,V.aV,qD]
  .cases qn
   .cases cn
    .skip
     simp[dg,wB,bA,bM]at hw;simp[uG,up,dg,wB,bA,bM,tT,qF,hw,ez,az,sub,aD,back,ak,cut,dw,dx,eJ,cg,an,bk,av,V.aV]
    .obtain rfl:=h2 rfl
     simp only[cD,gq]at qF;simp[dg,wB,bA,bM]at hw;simp[uG,up,dg,wB,bA,bM,tT,qF,hw,ez,az,sub,aD,back,ak,cut,dw,dx,eJ,cg,an,bk,av,V.aV]
   .obtain rfl:=h1 rfl
    simp only[qD,gq]at tT qF;cases cn
    .skip
     simp[dg,wB,bA,bM]at hw;simp[uG,up,dg,wB,bA,bM,tT,qF,hw,ez,az,sub,aD,back,ak,cut,dw,dx,eJ,cg,an,bk,av,V.aV]
    .obtain rfl:=h2 rfl
     simp only[cD,gq]at qF;simp[dg,wB,bA,bM]at hw;simp[uG,up,dg,wB,bA,bM,tT,qF,hw,ez,az,sub,aD,back,ak,cut,dw,dx,eJ,cg,an,bk,av,V.aV]
 .cases qn
  .cases cn
   all_goals
    simp[dg,wB,bA,bM]at hw;simp[uG,up,dg,wB,bA,bM,tT,qF,hw,ez,az,sub,aD,back,ak,cut,dw,dx,eJ,cg,an,bk,av,V.aV]
  .obtain rfl:=h1 rfl
   simp only[qD,gq]at tT;cases cn;all_goals
    simp[dg,wB,bA,bM]at hw;simp[uG,up,dg,wB,bA,bM,tT,qF,hw,ez,az,sub,aD,back,ak,cut,dw,dx,eJ,cg,an,bk,av,V.aV]
end Go.VS.Sp
namespace Go.VS.Sp
theorem aoi(cs:Option (List (List D)))(sz:Int):∀(n:Nat)(a:Ad),a.ok cs->(gW sz n a).ok cs
 | 0,a,h=>h
 |n+1,a,h=>by
  unfold gW;split
  .exact h
  .rename_i hn
   rcases DL a.Q with⟨h1,_⟩ |⟨A,B,w,hQ,hp,_⟩
   .exfalso;apply hn;left;omega
   .have e:((A.length:Int)).toNat=A.length:=by omega
    have hg:a.Q[(lF a.Q).toNat]?=some w:=by rw[hp,e,hQ];simp
    rw[hg];exact aoi cs sz n _ (Ad.Vm hQ hp h)
set_option maxHeartbeats 4000000 in
theorem aoj(z:Z)(sz:Int)(qn:Bool)(Q:List W)(C A B:List K)(c:K)(t op v p n x:Int)(lg:List Int)(hC:C=A++c::B)(hf:jT C t=(A.length:Int))(iZ:c.log=x::lg)
  (h1:qn=true->Q=[])(h3:Q.length<=1000)(h4:C.length<=1000)(h5:∀c∈C,(c.nl=true->c.log=[])/\c.log.length<=1000):
  ev P (.call K1 [.rf [.loc 0 0 0],.d (.ref [I' t,I' op,I' v,I' p,I' n])] (up (dg z sz qn Q false C))) =
   some (.val (.d (.ag (ez false x true))) (up (pR z sz (qD (cR sz qn Q (A++⟨c.task,false,lg⟩::B)).qn (cR sz qn Q (A++⟨c.task,false,lg⟩::B)).Q) (cR sz qn Q (A++⟨c.task,false,lg⟩::B)).C (some []) (iw qn Q) (cR sz qn Q (A++⟨c.task,false,lg⟩::B)).wn))):=by
 have hN:=an6 z sz qn Q C A B c t op v p n x lg hC hf iZ h1 h3 h4 h5;generalize cR sz qn Q (A++⟨c.task,false,lg⟩::B)=a at *;obtain⟨og,Q',C',wn⟩:=a;simp only at hN⊢;rw[au XU rfl];cases qn<;>rcases wn with _ |⟨w,wn⟩;all_goals
  simp[dg,pR,bH,fH,iw,bA,bM,ez]at hN;simp[HK,up,dg,pR,bH,fH,iw,bA,bM,hN,ez,az,sub,aD,back,ak,cut,dw,dx,eJ,cg,an,bk,av,V.aV]
set_option maxHeartbeats 4000000 in
theorem aok(z:Z)(sz:Int)(qn:Bool)(Q:List W)(C A B:List K)(c:K)(t op v p n:Int)(hC:C=A++c::B)(hf:jT C t=(A.length:Int))(iZ:c.log=[])
  (h1:qn=true->Q=[])(h3:Q.length<=1000)(h4:C.length<=1000)(h5:∀c∈C,(c.nl=true->c.log=[])/\c.log.length<=1000)(yE:(cR sz false (Q++[⟨t,op,0,p,-1⟩]) C).wn.length<=100000):
  ev P (.call K1 [.rf [.loc 0 0 0],.d (.ref [I' t,I' op,I' v,I' p,I' n])] (up (dg z sz qn Q false C))) =
   some (match got (cR sz false (Q++[⟨t,op,0,p,-1⟩]) C).wn t with
    |none=>.val (.d (.ag (ez true 0 false))) (up (nB z sz qn (qD (cR sz false (Q++[⟨t,op,0,p,-1⟩]) C).qn (cR sz false (Q++[⟨t,op,0,p,-1⟩]) C).Q) (cR sz false (Q++[⟨t,op,0,p,-1⟩]) C).C (mW (cR sz false (Q++[⟨t,op,0,p,-1⟩]) C).wn)))
    |some x=>.val (.d (.ag (ez false x.1 true))) (up (nB z sz qn (qD (cR sz false (Q++[⟨t,op,0,p,-1⟩]) C).qn (cR sz false (Q++[⟨t,op,0,p,-1⟩]) C).Q) (cR sz false (Q++[⟨t,op,0,p,-1⟩]) C).C (.d false x.2)))):=by
 have hN:=an7 z sz qn Q C A B c t op v p n hC hf iZ h1 h3 h4 h5 yE;generalize cR sz false (Q++[⟨t,op,0,p,-1⟩]) C=a at *;obtain⟨og,Q',C',wn⟩:=a;simp only at hN⊢;rw[au XU rfl];cases hg:got wn t with
 |none =>
  rw[hg]at hN;cases qn<;>rcases wn with _ |⟨w,wn⟩;all_goals
   simp[dg,nB,mW,bA,bM,ez]at hN;simp[HK,up,dg,nB,mW,bA,bM,hN,ez,az,sub,aD,back,ak,cut,dw,dx,eJ,cg,an,bk,av,V.aV]
 |some x =>
  rw[hg]at hN;cases qn;all_goals
   simp[dg,nB,mW,bA,bM,ez]at hN;simp[HK,up,dg,nB,mW,bA,bM,hN,ez,az,sub,aD,back,ak,cut,dw,dx,eJ,cg,an,bk,av,V.aV]
def del(C:List K)(t:Int):List K:=C.eraseIdx (jT C t).toNat
def ap(k sz ot:Int)(s:S)(t op v p n:Int):Rp×Int :=
 if fN k sz ot s≠0 then(sN,1)else if jB s t op v p n≠0 then(sN,jB s t op v p n)else
 if op=69 then(⟨{s with cn:=false,C:=mj s.C t},false,0,true,true,[]⟩,0)else
 if op=71 then
  let a:=cR sz s.qn s.Q (del s.C t)
  (⟨s.put a,false,0,true,decide (a.wn=[]),a.wn⟩,0)else
 if op=68 then
  if(busy s.Q||fl sz s.C s.Q)=true then(⟨{s with qn:=false,Q:=s.Q++[⟨t,op,v,p,-1⟩]},true,0,false,true,[]⟩,0)
  else(⟨{s with qn:=decide (pO s.Q=[]),Q:=pO s.Q,C:=s.C.map (gw s.Q v)},false,0,true,decide (pW v s.Q=[]),pW v s.Q⟩,0)
 else
  match mD s.C t with
  |none=>(sN,0)
  |some c =>
   match c.log with
   |x::lg =>
    let a:=cR sz s.qn s.Q (s.C.set (jT s.C t).toNat ⟨c.task,false,lg⟩)
    (⟨s.put a,false,x,true,decide (a.wn=[]),a.wn⟩,0)
   | [] =>
    let a:=cR sz false (s.Q++[⟨t,op,0,p,-1⟩]) s.C
    match got a.wn t with
    |none=>(⟨s.put a,true,0,false,decide (a.wn=[]),a.wn⟩,0)
    |some x=>(⟨s.put a,false,x.1,true,false,x.2⟩,0)
theorem OG(nm:D)(k sz ot:Int)(s:S)(hs:s.wz)(t op v p n:Int)(h:fN k sz ot s≠0\/jB s t op v p n≠0):
  ev P (.call vL [.d (.ag [nm,I' k,I' sz,I' ot]),.d (.ag s.row),.d (.ag [I' t,I' op,I' v,I' p,I' n])] [])=some (.val (.tu [.d (.ag (ap k sz ot s t op v p n).1.row),.d (I' (ap k sz ot s t op v p n).2)]) []):=by
 have hC:=qu nm k sz ot s hs.sm;have hE:=JB s hs.sm t op v p n;unfold ap;rw[au E9 rfl];by_cases hc:fN k sz ot s=0
 .have h2:jB s t op v p n≠0:=by
   rcases h with h |h
   .exact absurd hc h
   .exact h
  generalize jB s t op v p n=e at *;have h3:(e != 0)=true:=by simpa using h2
  rw[hc]at hC⊢;simp[nq,hC,hE,h2,h3,sN,S0]
 .have ir:(fN k sz ot s != 0)=true:=by simpa using hc
  simp[nq,hC,hc,ir,sN,S0]
set_option maxHeartbeats 4000000 in
theorem aol(nm:D)(k sz ot:Int)(s:S)(hs:s.wz)(t v p n:Int)(hc:fN k sz ot s=0)(he:jB s t 69 v p n=0):
  ev P (.call vL [.d (.ag [nm,I' k,I' sz,I' ot]),.d (.ag s.row),.d (.ag [I' t,I' 69,I' v,I' p,I' n])] [])=some (.val (.tu [.d (.ag (ap k sz ot s t 69 v p n).1.row),.d (I' (ap k sz ot s t 69 v p n).2)]) []):=by
 have hC:=qu nm k sz ot s hs.sm;have hE:=JB s hs.sm t 69 v p n;rw[hc]at hC;rw[he]at hE;have e:ap k sz ot s t 69 v p n=(⟨{s with cn:=false,C:=mj s.C t},false,0,true,true,[]⟩,0):=by simp[ap,hc,he]
 rw[e];have gP:=ON s.z nm (I' k) (I' ot) sz s.qn s.Q s.cn s.C hs.qn hs.cn (by have:=hs.q;omega) (by have:=hs.c;omega)
 have hO:=aod s.z sz s.qn s.Q s.cn s.C t 69 v p n hs.qn hs.cn (by have:=hs.c;omega)
 obtain⟨own,cnt,time,hn,H,qn,Q,bn,B,cn,C,cl,val⟩:=s;simp only at hC hE gP hO hs⊢;generalize mj C t=C' at *;rw[au E9 rfl];cases qn
 .cases cn
  all_goals
   simp[dg,bA,bM]at gP;simp[dg,sB,bA,bM,ez,up]at hO;simp[nq,hC,hE,gP,hO,aI,az,sub,aD,back,aX,aZ,ak,cut,dw,dx,eJ,cg,an,bk,av,V.aV,eK,fO,Rp.row,S.put,iq,eE]
 .obtain rfl:=hs.qn rfl
  cases cn;all_goals
   simp[dg,bA,bM]at gP;simp[dg,sB,bA,bM,ez,up]at hO;simp[nq,hC,hE,gP,hO,aI,az,sub,aD,back,aX,aZ,ak,cut,dw,dx,eJ,cg,an,bk,av,V.aV,eK,fO,Rp.row,S.put,iq,eE]
theorem Gv{C:List K}{t:Int}(h:0<=jT C t):∃A c B,C=A++c::B/\jT C t=(A.length:Int)/\mD C t=some c:=by
 rcases M1 C t with⟨h1,_⟩ |⟨i,c,h1,h2,h3⟩
 .omega
 .obtain⟨hlt,he⟩:=rW.1 h2
  have hl:(C.take i).length=i:=by simp;omega
  exact⟨C.take i,c,C.drop (i+1),by rw[<-he];simp,by rw[hl];exact h1,h3⟩
theorem Gw{s:S}{t op v p n:Int}(h:jB s t op v p n=0)(ho:op=71\/op=70):0<=jT s.C t:=by
 unfold jB at h;split at h
 .cases h
 .split at h
  .cases h
  .split at h
   .cases h
   .split at h
    .cases h
    .split at h
     .cases h
     .split at h
      .cases h
      .rename_i h6
       rcases ho with rfl |rfl<;>simp at h6<;>exact h6
theorem Vo{s:S}{t op v p n:Int}(h:jB s t op v p n=0):op=68\/op=69\/op=70\/op=71:=by
 unfold jB at h;split at h
 .cases h
 .split at h
  .cases h
  .rename_i h2
   simp at h2;omega
set_option maxHeartbeats 4000000 in
theorem aom(nm:D)(k sz ot:Int)(s:S)(hs:s.wz)(t v p n:Int)(hc:fN k sz ot s=0)(he:jB s t 71 v p n=0):
  ev P (.call vL [.d (.ag [nm,I' k,I' sz,I' ot]),.d (.ag s.row),.d (.ag [I' t,I' 71,I' v,I' p,I' n])] [])=some (.val (.tu [.d (.ag (ap k sz ot s t 71 v p n).1.row),.d (I' (ap k sz ot s t 71 v p n).2)]) []):=by
 have hC:=qu nm k sz ot s hs.sm;have hE:=JB s hs.sm t 71 v p n;rw[hc]at hC;rw[he]at hE;obtain⟨A,c,B,hS,hf,_⟩:=Gv (Gw he (.inl rfl));have JF:del s.C t=A++B:=by
  have e:((A.length:Int)).toNat=A.length:=by omega
  unfold del;rw[hf,e,hS,Ed (by omega)]
  simp
 have e:ap k sz ot s t 71 v p n=(⟨s.put (cR sz s.qn s.Q (A++B)),false,0,true,decide ((cR sz s.qn s.Q (A++B)).wn=[]),(cR sz s.qn s.Q (A++B)).wn⟩,0):=by simp[ap,hc,he,JF]
 rw[e];have gP:=ON s.z nm (I' k) (I' ot) sz s.qn s.Q s.cn s.C hs.qn hs.cn (by have:=hs.q;omega) (by have:=hs.c;omega)
 have hO:=aoe s.z sz s.qn s.Q s.C A B c t 71 v p n hS hf hs.qn hs.q hs.c hs.l;have hl:(cR sz s.qn s.Q (A++B)).C.length=A.length+B.length:=(Aa sz _ _).trans (by simp)
 have sG:s.cn=false:=by
  cases h:s.cn
  .rfl
  .have:=hs.cn h;rw[hS]at this;simp at this
 generalize cR sz s.qn s.Q (A++B)=a at *;obtain⟨own,cnt,time,hn,H,qn,Q,bn,B',cn,C,cl,val⟩:=s;obtain⟨og,Q',C',wn⟩:=a;simp only at hC hE gP hO hs hl sG hS⊢;subst sG;have iz:∀r:List D,List.take (A.length+B.length) (C'.map K.row++[r])=C'.map K.row:=λr=>tZ (by simp[hl])
 have jV:A.length+B.length<=C'.length+1:=by omega
 rw[au E9 rfl];cases qn
 .rcases wn with _ |⟨w,wn⟩
  all_goals
   simp[dg,bA,bM]at gP;simp[dg,pR,bH,fH,iw,bA,bM,ez,hl,up]at hO;simp[nq,hC,hE,gP,hO,aI,az,sub,aD,back,aX,aZ,ak,cut,dw,dx,eJ,cg,an,bk,av,V.aV,eK,fO,Rp.row,S.put,iq,eE,iz,jV]
 .obtain rfl:=hs.qn rfl
  rcases wn with _ |⟨w,wn⟩;all_goals
   simp[dg,bA,bM]at gP;simp[dg,pR,bH,fH,iw,bA,bM,ez,hl,up]at hO;simp[nq,hC,hE,gP,hO,aI,az,sub,aD,back,aX,aZ,ak,cut,dw,dx,eJ,cg,an,bk,av,V.aV,eK,fO,Rp.row,S.put,iq,eE,iz,jV]
set_option maxHeartbeats 4000000 in
theorem aon(nm:D)(k sz ot:Int)(s:S)(hs:s.wz)(t v p n:Int)(hc:fN k sz ot s=0)(he:jB s t 68 v p n=0):
  ev P (.call vL [.d (.ag [nm,I' k,I' sz,I' ot]),.d (.ag s.row),.d (.ag [I' t,I' 68,I' v,I' p,I' n])] [])=some (.val (.tu [.d (.ag (ap k sz ot s t 68 v p n).1.row),.d (I' (ap k sz ot s t 68 v p n).2)]) []):=by
 have hC:=qu nm k sz ot s hs.sm;have hE:=JB s hs.sm t 68 v p n;rw[hc]at hC;rw[he]at hE;have e:ap k sz ot s t 68 v p n=if(busy s.Q||fl sz s.C s.Q)=true then(⟨{s with qn:=false,Q:=s.Q++[⟨t,68,v,p,-1⟩]},true,0,false,true,[]⟩,0)
  else(⟨{s with qn:=decide (pO s.Q=[]),Q:=pO s.Q,C:=s.C.map (gw s.Q v)},false,0,true,decide (pW v s.Q=[]),pW v s.Q⟩,0):=by simp[ap,hc,he]
 rw[e];have gP:=ON s.z nm (I' k) (I' ot) sz s.qn s.Q s.cn s.C hs.qn hs.cn (by have:=hs.q;omega) (by have:=hs.c;omega)
 have hO:=aoh s.z sz s.qn s.Q s.cn s.C t 68 v p n hs.qn hs.cn hs.q hs.c hs.l;have hl:(s.C.map (gw s.Q v)).length=s.C.length:=by simp
 have Vp:s.cn=true->s.C.map (gw s.Q v)=[]:=λh=>by rw[hs.cn h];rfl
 generalize s.C.map (gw s.Q v)=C' at *;generalize pW v s.Q=wn at *;generalize pO s.Q=ot' at *;generalize (busy s.Q||fl sz s.C s.Q)=bf at *;obtain⟨own,cnt,time,hn,H,qn,Q,bn,B',cn,C,cl,val⟩:=s;simp only at hC hE gP hO hs hl Vp⊢;have yD:cn=true->C=[]:=hs.cn;have iz:List.take C.length (C'.map K.row)=C'.map K.row:=gE (by simp[hl])
 have jV:C.length<=C'.length:=by omega
 rw[au E9 rfl];cases bf
 .cases qn
  .cases cn<;>rcases wn with _ |⟨w,wn⟩
   all_goals
    simp[dg,bA,bM]at gP;simp[dg,pR,bH,fH,iw,tQ,bA,bM,ez,hl,qO,up]at hO;simp[nq,hC,hE,gP,hO,aI,az,sub,aD,back,aX,aZ,ak,cut,dw,dx,eJ,cg,an,bk,av,V.aV,eK,fO,Rp.row,S.put,iq,eE,iz,Vp,jV]
  .obtain rfl:=hs.qn rfl
   cases cn<;>rcases wn with _ |⟨w,wn⟩;all_goals
    simp[dg,bA,bM]at gP;simp[dg,pR,bH,fH,iw,tQ,bA,bM,ez,hl,qO,up]at hO;simp[nq,hC,hE,gP,hO,aI,az,sub,aD,back,aX,aZ,ak,cut,dw,dx,eJ,cg,an,bk,av,V.aV,eK,fO,Rp.row,S.put,iq,eE,iz,Vp,jV]
 .cases qn
  .cases cn
   .skip
    simp[dg,bA,bM]at gP;simp[dg,wB,bA,bM,ez,up]at hO;simp[nq,hC,hE,gP,hO,aI,az,sub,aD,back,aX,aZ,ak,cut,dw,dx,eJ,cg,an,bk,av,V.aV,eK,fO,Rp.row,S.put,iq,eE]
   .obtain rfl:=yD rfl
    simp[dg,bA,bM]at gP;simp[dg,wB,bA,bM,ez,up]at hO;simp[nq,hC,hE,gP,hO,aI,az,sub,aD,back,aX,aZ,ak,cut,dw,dx,eJ,cg,an,bk,av,V.aV,eK,fO,Rp.row,S.put,iq,eE]
  .obtain rfl:=hs.qn rfl
   cases cn
   .skip
    simp[dg,bA,bM]at gP;simp[dg,wB,bA,bM,ez,up]at hO;simp[nq,hC,hE,gP,hO,aI,az,sub,aD,back,aX,aZ,ak,cut,dw,dx,eJ,cg,an,bk,av,V.aV,eK,fO,Rp.row,S.put,iq,eE]
   .obtain rfl:=yD rfl
    simp[dg,bA,bM]at gP;simp[dg,wB,bA,bM,ez,up]at hO;simp[nq,hC,hE,gP,hO,aI,az,sub,aD,back,aX,aZ,ak,cut,dw,dx,eJ,cg,an,bk,av,V.aV,eK,fO,Rp.row,S.put,iq,eE]
end Go.VS.Sp
namespace Go.VS.Sp
theorem Vq{A B:List K}{c d:K}:(A++c::B).set A.length d=A++d::B:=by simp
set_option maxHeartbeats 4000000 in
theorem aoo(nm:D)(k sz ot:Int)(s:S)(hs:s.wz)(t v p n:Int)(hc:fN k sz ot s=0)(he:jB s t 70 v p n=0):
  ev P (.call vL [.d (.ag [nm,I' k,I' sz,I' ot]),.d (.ag s.row),.d (.ag [I' t,I' 70,I' v,I' p,I' n])] [])=some (.val (.tu [.d (.ag (ap k sz ot s t 70 v p n).1.row),.d (I' (ap k sz ot s t 70 v p n).2)]) []):=by
 have hC:=qu nm k sz ot s hs.sm;have hE:=JB s hs.sm t 70 v p n;rw[hc]at hC;rw[he]at hE;obtain⟨A,c,B,hS,hf,Vr⟩:=Gv (Gw he (.inr rfl));have gP:=ON s.z nm (I' k) (I' ot) sz s.qn s.Q s.cn s.C hs.qn hs.cn (by have:=hs.q;omega) (by have:=hs.c;omega)
 have sG:s.cn=false:=by
  cases h:s.cn
  .rfl
  .have:=hs.cn h;rw[hS]at this;simp at this
 have eN:((A.length:Int)).toNat=A.length:=by omega
 cases iZ:c.log with
 |cons x lg =>
  have e:ap k sz ot s t 70 v p n=(⟨s.put (cR sz s.qn s.Q (A++⟨c.task,false,lg⟩::B)),false,x,true,decide ((cR sz s.qn s.Q (A++⟨c.task,false,lg⟩::B)).wn=[]),(cR sz s.qn s.Q (A++⟨c.task,false,lg⟩::B)).wn⟩,0):=by
   have e2:s.C.set (jT s.C t).toNat ⟨c.task,false,lg⟩=A++⟨c.task,false,lg⟩::B:=by rw[hf,eN,hS];exact Vq
   rw[<-e2];simp[ap,hc,he,Vr,iZ]
  rw[e];have hO:=aoj s.z sz s.qn s.Q s.C A B c t 70 v p n x lg hS hf iZ hs.qn hs.q hs.c hs.l;have hl:(cR sz s.qn s.Q (A++⟨c.task,false,lg⟩::B)).C.length=A.length+(B.length+1):=(Aa sz _ _).trans (by simp)
  have dJ:s.C.length=A.length+(B.length+1):=by rw[hS];simp
  generalize cR sz s.qn s.Q (A++⟨c.task,false,lg⟩::B)=a at *;clear e;obtain⟨own,cnt,time,hn,H,qn,Q,bn,B',cn,C,cl,val⟩:=s;obtain⟨og,Q',C',wn⟩:=a;simp only at hC hE gP hO hs hl sG hS dJ⊢;subst sG;have iz:List.take C.length (C'.map K.row)=C'.map K.row:=gE (by simp;omega)
  have jV:C.length<=C'.length:=by omega
  rw[<-dJ]at hl;rw[au E9 rfl];cases qn
  .rcases wn with _ |⟨w,wn⟩
   all_goals
    simp[dg,bA,bM]at gP;simp[dg,pR,bH,fH,iw,bA,bM,ez,hl,up]at hO;simp[nq,hC,hE,gP,hO,aI,az,sub,aD,back,aX,aZ,ak,cut,dw,dx,eJ,cg,an,bk,av,V.aV,eK,fO,Rp.row,S.put,iq,eE,iz,jV]
  .obtain rfl:=hs.qn rfl
   rcases wn with _ |⟨w,wn⟩;all_goals
    simp[dg,bA,bM]at gP;simp[dg,pR,bH,fH,iw,bA,bM,ez,hl,up]at hO;simp[nq,hC,hE,gP,hO,aI,az,sub,aD,back,aX,aZ,ak,cut,dw,dx,eJ,cg,an,bk,av,V.aV,eK,fO,Rp.row,S.put,iq,eE,iz,jV]
 |nil =>
  have hok:Ad.ok none ⟨false,s.Q++[W.mk t 70 0 p (-1)],[],[]⟩:=by
   have:=hs.q;refine⟨λ_=>rfl,by simp,by simp,by simp;omega,by simp⟩
  have AD:Ad.ok (some []) ⟨false,s.Q++[W.mk t 70 0 p (-1)],s.C,[]⟩:=by
   have hq:=hs.q;have zJ:=hs.c;refine⟨?_,?_,?_,?_,?_⟩
   .intro h;cases h
   .simp only;omega
   .intro d hd
    have:=hs.l d hd;refine⟨this.1,?_⟩;simp;omega
   .simp;omega
   .intro h;cases h
  have yE:(cR sz false (s.Q++[W.mk t 70 0 p (-1)]) s.C).wn.length<=100000:=by
   have:=(aoi (some []) sz ((s.Q++[W.mk t 70 0 p (-1)]).length+1) _ AD).2.2.2.1;unfold cR;omega
  have hO:=aok s.z sz s.qn s.Q s.C A B c t 70 v p n hS hf iZ hs.qn hs.q hs.c hs.l yE;have hl:(cR sz false (s.Q++[W.mk t 70 0 p (-1)]) s.C).C.length=s.C.length:=Aa sz _ _;have e:ap k sz ot s t 70 v p n=match got (cR sz false (s.Q++[W.mk t 70 0 p (-1)]) s.C).wn t with
    |none=>(⟨s.put (cR sz false (s.Q++[W.mk t 70 0 p (-1)]) s.C),true,0,false,decide ((cR sz false (s.Q++[W.mk t 70 0 p (-1)]) s.C).wn=[]),(cR sz false (s.Q++[W.mk t 70 0 p (-1)]) s.C).wn⟩,0)
    |some x=>(⟨s.put (cR sz false (s.Q++[W.mk t 70 0 p (-1)]) s.C),false,x.1,true,false,x.2⟩,0):=by
   first
   |(simp[ap,hc,he,Vr,iZ];done)
   |(
    simp[ap,hc,he,Vr,iZ];cases got (cR sz false (s.Q++[W.mk t 70 0 p (-1)]) s.C).wn t<;>rfl)
  rw[e];clear yE hok AD;generalize cR sz false (s.Q++[W.mk t 70 0 p (-1)]) s.C=a at *;clear e;obtain⟨own,cnt,time,hn,H,qn,Q,bn,B',cn,C,cl,val⟩:=s;obtain⟨og,Q',C',wn⟩:=a;simp only at hC hE gP hO hs hl sG hS⊢;subst sG;have iz:List.take C.length (C'.map K.row)=C'.map K.row:=gE (by simp;omega)
  have jV:C.length<=C'.length:=by omega
  rw[au E9 rfl];cases hg:got wn t with
  |none =>
   rw[hg]at hO;cases qn
   .rcases wn with _ |⟨w,wn⟩
    all_goals
     simp[dg,bA,bM]at gP;simp[dg,nB,mW,bA,bM,ez,hl,up]at hO;simp[nq,hC,hE,gP,hO,aI,az,sub,aD,back,aX,aZ,ak,cut,dw,dx,eJ,cg,an,bk,av,V.aV,eK,fO,Rp.row,S.put,iq,eE,iz,jV]
   .obtain rfl:=hs.qn rfl
    rcases wn with _ |⟨w,wn⟩;all_goals
     simp[dg,bA,bM]at gP;simp[dg,nB,mW,bA,bM,ez,hl,up]at hO;simp[nq,hC,hE,gP,hO,aI,az,sub,aD,back,aX,aZ,ak,cut,dw,dx,eJ,cg,an,bk,av,V.aV,eK,fO,Rp.row,S.put,iq,eE,iz,jV]
  |some x =>
   rw[hg]at hO;cases qn
   .simp[dg,bA,bM]at gP
    simp[dg,nB,mW,bA,bM,ez,hl,up]at hO;simp[nq,hC,hE,gP,hO,aI,az,sub,aD,back,aX,aZ,ak,cut,dw,dx,eJ,cg,an,bk,av,V.aV,eK,fO,Rp.row,S.put,iq,eE,iz,jV]
   .obtain rfl:=hs.qn rfl
    simp[dg,bA,bM]at gP;simp[dg,nB,mW,bA,bM,ez,hl,up]at hO;simp[nq,hC,hE,gP,hO,aI,az,sub,aD,back,aX,aZ,ak,cut,dw,dx,eJ,cg,an,bk,av,V.aV,eK,fO,Rp.row,S.put,iq,eE,iz,jV]
theorem aop(nm:D)(k sz ot:Int)(s:S)(hs:s.wz)(t op v p n:Int):
  ev P (.call vL [.d (.ag [nm,I' k,I' sz,I' ot]),.d (.ag s.row),.d (.ag [I' t,I' op,I' v,I' p,I' n])] [])=some (.val (.tu [.d (.ag (ap k sz ot s t op v p n).1.row),.d (I' (ap k sz ot s t op v p n).2)]) []):=by
 by_cases hc:fN k sz ot s=0
 .by_cases he:jB s t op v p n=0
  .rcases Vo he with rfl |rfl |rfl |rfl
   .exact aon nm k sz ot s hs t v p n hc he
   .exact aol nm k sz ot s hs t v p n hc he
   .exact aoo nm k sz ot s hs t v p n hc he
   .exact aom nm k sz ot s hs t v p n hc he
  .exact OG nm k sz ot s hs t op v p n (.inr he)
 .exact OG nm k sz ot s hs t op v p n (.inl hc)
end Go.VS.Sp
namespace Go.VS.Sp
theorem eqv{α:Type}{a b:α}(h:∀R,b=R->a=R):a=b:=h _ rfl
end Go.VS.Sp
namespace Go.VS.Sp
structure BN where
 qn:Bool
 Q:List W
 cn:Bool
 C:List K
 wn:List cE
def BN.step(a:BN)(w:W):BN:=⟨false,pO (a.Q.filter λx=>x.task != w.task),false,a.C.map (gw (a.Q.filter λx=>x.task != w.task) w.value),a.wn++⟨w.task,w.op,0⟩::pW w.value (a.Q.filter λx=>x.task != w.task)⟩
def BN.ok(a:BN):Prop :=
 a.C.length<=100000/\(∀c∈a.C,(c.nl=true->c.log=[])/\c.log.length+a.Q.length<=100000)/\a.Q.length+a.wn.length<=90000
theorem aoq{Q:List W}{A B:List W}{w:W}(hQ:Q=A++w::B):(Q.filter λx=>x.task != w.task).length<Q.length:=by
 have h1:=uc (λx:W=>x.task != w.task) A
 have h2:=uc (λx:W=>x.task != w.task) B
 rw[hQ];simp[WB];omega
theorem BN.Vm{a:BN}{A B:List W}{w:W}(hQ:a.Q=A++w::B)(hok:a.ok):(a.step w).ok:=by
 obtain⟨hc,hC,hw⟩:=hok;have hlt:=aoq hQ;unfold BN.step;generalize (a.Q.filter λx=>x.task != w.task)=Q' at *
 have hl:=Gu Q';have kN:=DN w.value Q';refine⟨?_,?_,?_⟩
 .simp;exact hc
 .intro c iF
  simp only at iF⊢;obtain⟨c0,hc0,rfl⟩:=gF.1 iF;have:=hC c0 hc0;unfold gw;split
  .exact⟨this.1,by omega⟩
  .refine⟨by simp,?_⟩
   simp only[lT,tY];omega
 .simp only[lT,gX]
  omega
end Go.VS.Sp
namespace Go.VS.Sp
end Go.VS.Sp
namespace Go.VS.Sp
end Go.VS.Sp
namespace Go.VS.Sp
end Go.VS.Sp
namespace Go.VS.Sp
end Go.VS.Sp
namespace Go.VS.Sp
theorem wOK{t op v p n:Int}(hb:BJ t p n=false)(ho:68<=op/\op<=71)(hv:num v=true):dL ⟨t,op,v,p,-1⟩=true:=by
 unfold BJ at hb;unfold num at hv;simp at hb hv;unfold dL kI;simp;omega
theorem aor{s:S}{t op v p n:Int}(h:jB s t op v p n=0):BJ t p n=false:=by
 unfold jB at h;split at h
 .cases h
 .rename_i h2;simpa using h2
theorem Vs{s:S}{t v p n:Int}(h:jB s t 68 v p n=0):num v=true:=by
 unfold jB at h;split at h
 .cases h
 .split at h
  .cases h
  .split at h
   .cases h
   .rename_i h2
    simp at h2;exact h2
theorem aos{k sz ot:Int}{s:S}(h:fN k sz ot s=0):dQ k sz ot=0/\s.good sz=true:=by
 unfold fN at h;split at h
 .rename_i h1
  refine⟨h1,?_⟩;cases hg:s.good sz
  .rw[hg]at h;simp at h
  .rfl
 .rename_i h1;exact absurd h h1
end Go.VS.Sp
namespace Go.VS.Sp
structure S.same(s s':S):Prop where
 own:s.own=s'.own
 cnt:s.cnt=s'.cnt
 time:s.time=s'.time
 H:s.H=s'.H
 Q:s.Q=s'.Q
 B:s.B=s'.B
 C:s.C=s'.C
 cl:s.cl=s'.cl
 val:s.val=s'.val
theorem S.same.refl(s:S):s.same s:=⟨rfl,rfl,rfl,rfl,rfl,rfl,rfl,rfl,rfl⟩
structure Rp.same(r r':Rp):Prop where
 st:r.st.same r'.st
 parked:r.parked=r'.parked
 value:r.value=r'.value
 ok:r.ok=r'.ok
 wn:r.wn=r'.wn
end Go.VS.Sp
namespace Go.VS.Sp
def tks(Q:List W):List Int:=Q.map (·.task)
theorem aot{A B:List W}{w:W}(h:(tks (A++w::B)).Nodup):(tks (A++B)).Nodup:=by
 have:(A++B).Sublist (A++w::B):=GM (As A) (GN w B)
 exact h.sublist (this.map _)
theorem aou{Q:List W}(h:(tks Q).Nodup):(tks (pO Q)).Nodup:=h.sublist (B5.map _)
theorem Vt{A B:List W}{w:W}{t:Int}(h:w.op=68):jo (A++w::B) t 70=jo (A++B) t 70:=by
 unfold jo;simp[h]
def fits(sz:Int)(C:List K):Prop:=∀c∈C,(c.log.length:Int)<=sz
theorem aov{sz:Int}{C:List K}{Q A B:List W}{w:W}(hQ:Q=A++w::B)(fu:w.op=68)(hf:fl sz C Q=false)(h:fits sz C):fits sz (C.map (gw (A++B) w.value)):=by
 intro c hc;obtain⟨c0,hc0,rfl⟩:=gF.1 hc;unfold gw;cases hw:jo (A++B) c0.task 70
 .have h1:=h c0 hc0
  have:((c0.log.length:Int)==sz&&!jo Q c0.task 70)=false:=by
   unfold fl at hf;rw[qL]at hf;simpa using hf c0 hc0
  rw[hQ,Vt fu,hw]at this;simp at this;simp;omega
 .simp
  exact h c0 hc0
end Go.VS.Sp
namespace Go.VS.Sp
theorem aow{s:S}{t op v p n:Int}(h:jB s t op v p n=0):∀w∈s.Q,w.task≠t:=by
 unfold jB at h;split at h
 .cases h
 .split at h
  .cases h
  .split at h
   .cases h
   .split at h
    .cases h
    .rename_i h4
     intro w hw e;apply h4;exact rV.2 ⟨w,hw,by simpa using e⟩
theorem aox{Q:List W}{w:W}(h:(tks Q).Nodup)(hw:∀x∈Q,x.task≠w.task):(tks (Q++[w])).Nodup:=by
 unfold tks at *;rw[vF,List.nodup_append];refine⟨h,by simp,?_⟩
 intro a ha b hb;simp at hb;subst hb;obtain⟨x,hx,rfl⟩:=gF.1 ha;exact hw x hx
end Go.VS.Sp
namespace Go.VS.Sp
def Ad.OR(L M:Nat)(a:Ad):Prop:=(∀c∈a.C,(c.nl=true->c.log=[])/\c.log.length+a.Q.length<=L)/\a.Q.length+a.wn.length<=M/\(a.qn=true->a.Q=[])
theorem Ad.aoy{L M:Nat}{a:Ad}{A B:List W}{w:W}(hQ:a.Q=A++w::B)(h:lF a.Q=(A.length:Int))(hok:a.OR L M):(a.step w).OR L M:=by
 obtain⟨hC,hw,jY⟩:=hok;have mV:Q1 a.Q=A++B:=by rw[hQ];exact DM (by rw[<-hQ];exact h)
 have hl:=Gu (A++B);have kN:=DN w.value (A++B);have JD:a.Q.length=A.length+(B.length+1):=by rw[hQ];simp
 simp only[lT]at hl kN;refine⟨?_,?_,?_⟩
 .intro c iF
  simp only[Ad.step]at iF⊢;obtain⟨c0,hc0,rfl⟩:=gF.1 iF;have:=hC c0 hc0;rw[mV]at *;unfold gw;split
  .exact⟨this.1,by omega⟩
  .refine⟨by simp,?_⟩
   simp only[lT,tY];omega
 .simp only[Ad.step,lT,gX]
  rw[mV];omega
 .simp[Ad.step]
theorem aoz(L M:Nat)(sz:Int):∀(n:Nat)(a:Ad),a.OR L M->(gW sz n a).OR L M
 | 0,a,h=>h
 |n+1,a,h=>by
  unfold gW;split
  .exact h
  .rename_i hn
   rcases DL a.Q with⟨h1,_⟩ |⟨A,B,w,hQ,hp,_⟩
   .exfalso;apply hn;left;omega
   .have e:((A.length:Int)).toNat=A.length:=by omega
    have hg:a.Q[(lF a.Q).toNat]?=some w:=by rw[hp,e,hQ];simp
    rw[hg];exact aoz L M sz n _ (Ad.aoy hQ hp h)
structure S.xm(s:S)(q c l:Nat):Prop where
 h:s.H.length<=1000
 b:s.B.length<=1000
 q:s.Q.length<=q
 c:s.C.length<=c
 l:∀c∈s.C,(c.nl=true->c.log=[])/\c.log.length<=l
 qn:s.qn=true->s.Q=[]
 cn:s.cn=true->s.C=[]
theorem S.xm.wz{s:S}{q c l:Nat}(h:s.xm q c l)(h1:q<=1000)(h2:c<=1000)(h3:l<=1000):s.wz :=
 ⟨h.h,h.b,by have:=h.q;omega,by have:=h.c;omega,λc hc=>by have:=h.l c hc;exact⟨this.1,by omega⟩,h.qn,h.cn⟩
theorem S.xm.mono{s:S}{q c l q' c' l':Nat}(h:s.xm q c l)(h1:q<=q')(h2:c<=c')(h3:l<=l'):s.xm q' c' l' :=
 ⟨h.h,h.b,by have:=h.q;omega,by have:=h.c;omega,λc hc=>by have:=h.l c hc;exact⟨this.1,by omega⟩,h.qn,h.cn⟩
theorem Vu{s:S}(sz:Int)(qn:Bool)(Q:List W)(C:List K){q c l:Nat}(h1:s.H.length<=1000)(h2:s.B.length<=1000)(hq:Q.length<=q)(hc:C.length<=c)(hl:∀c∈C,(c.nl=true->c.log=[])/\c.log.length<=l)(jY:qn=true->Q=[])(sG:s.cn=true->C=[]):
  (s.put (cR sz qn Q C)).xm q c (l+q)/\(cR sz qn Q C).wn.length<=q:=by
 obtain⟨o1,o2,o3⟩:=aoz (l+q) q sz (Q.length+1) ⟨qn,Q,C,[]⟩ ⟨λc hc=>by have:=hl c hc;exact⟨this.1,by simp only;omega⟩,by simp;omega,jY⟩
 have hlen:(cR sz qn Q C).C.length=C.length:=Aa sz _ _;change ∀c∈(cR sz qn Q C).C,(c.nl=true->c.log=[])/\c.log.length+(cR sz qn Q C).Q.length<=l+q at o1;change(cR sz qn Q C).Q.length+(cR sz qn Q C).wn.length<=q at o2;change(cR sz qn Q C).qn=true->(cR sz qn Q C).Q=[]at o3;refine⟨⟨h1,h2,by simp only;omega,by simp only;omega,λc hc=>⟨(o1 c hc).1,by have:=(o1 c hc).2;omega⟩,o3,?_⟩,by omega⟩
 intro h;have e:=sG h
 have:(cR sz qn Q C).C.length=0:=by rw[hlen,e];rfl
 exact Cb.1 this
theorem aoA{l:List cE}{t:Int}{x:Int×List cE}(h:got l t=some x):x.2.length<=l.length:=by
 unfold got at h;split at h
 .cases h
 .cases hg:l[(qE l t).toNat]? with
  |none=>rw[hg]at h;cases h
  |some w =>
   rw[hg]at h;simp at h;rw[<-h];exact(WH l _).length_le
def Rp.xm(r:Rp)(q c l:Nat):Prop:=r.st.xm q c l/\r.wn.length<=q
theorem Vv(q c l:Nat):sN.xm q c l:=by
 refine⟨⟨by simp[sN,S0],by simp[sN,S0],by simp[sN,S0],by simp[sN,S0],by simp[sN,S0],by simp[sN,S0],by simp[sN,S0]⟩,by simp[sN]⟩
theorem aoB{C:List K}{t:Int}{c:K}(h:c∈mj C t):c=⟨t,true,[]⟩\/c∈C:=by
 unfold mj at h;rw[dc,dA]at h;rcases h with h |h |h
 .exact .inr (nM h)
 .exact .inl h
 .exact .inr (mN h)
theorem aoC(C:List K)(t:Int):(mj C t).length=C.length+1:=by
 have:=anZ C t;simp[mj];omega
theorem DP{C:List K}{t:Int}{c:K}(h:mD C t=some c):c∈C:=PB h
theorem aoD{k sz ot:Int}{s:S}{t op v p n:Int}{q c l:Nat}(h:s.xm q c l):(ap k sz ot s t op v p n).1.xm (q+1) (c+1) (l+q+1):=by
 unfold ap;by_cases hc:fN k sz ot s=0
 .by_cases he:jB s t op v p n=0
  .simp only[hc,he,B7,GW,dG]
   by_cases kL:op=69
   .simp only[kL,dH]
    refine⟨⟨h.h,h.b,by have:=h.q;simp only;omega,by have:=h.c;simp only[aoC];omega,?_,h.qn,by simp⟩,by simp⟩
    intro d hd;rcases aoB hd with rfl |hd
    .exact⟨by simp,by simp⟩
    .have:=h.l d hd;exact⟨this.1,by omega⟩
   .simp only[kL,dG]
    by_cases l6:op=71
    .simp only[l6,dH]
     have hk:=Vu (s:=s) sz s.qn s.Q (del s.C t) h.h h.b h.q (c:=c) (l:=l) (by have:=h.c;have:=(WH s.C (jT s.C t).toNat).length_le;unfold del;omega)
      (λd hd=>h.l d (List.mem_of_mem_eraseIdx hd)) h.qn (λe=>by unfold del;rw[h.cn e];rfl)
     exact⟨hk.1.mono (by omega) (by omega) (by omega),by have:=hk.2;simp only;omega⟩
    .simp only[l6,dG]
     by_cases fu:op=68
     .simp only[fu,dH]
      split
      .refine⟨⟨h.h,h.b,by have:=h.q;simp;omega,by have:=h.c;simp only;omega,?_,by simp,h.cn⟩,by simp⟩
       intro d hd;have:=h.l d hd;exact⟨this.1,by omega⟩
      .have h1:=DN v s.Q
       refine⟨⟨h.h,h.b,by have:=h.q;simp only;omega,by have:=h.c;simp;omega,?_,by simp,λe=>by simp only;rw[h.cn e];rfl⟩,by have:=h.q;simp only;omega⟩
       intro d hd;obtain⟨c0,hc0,rfl⟩:=gF.1 hd;have:=h.l c0 hc0;unfold gw;split
       .exact⟨this.1,by omega⟩
       .refine⟨by simp,?_⟩
        simp only[lT,tY];omega
     .simp only[fu,dG]
      cases hk:mD s.C t with
      |none=>exact Vv _ _ _
      |some c0 =>
       simp only;have iF:=DP hk;cases iZ:c0.log with
       |cons x lg =>
        simp only;have hk:=Vu (s:=s) sz s.qn s.Q (s.C.set (jT s.C t).toNat ⟨c0.task,false,lg⟩) h.h h.b h.q (c:=c) (l:=l) (by have:=h.c;simp;omega) (by
         intro d hd;rcases J1 hd with hd |rfl
         .exact h.l d hd
         .refine⟨by simp,?_⟩
          have:=(h.l c0 iF).2;rw[iZ]at this;simp at this⊢;omega) h.qn (λe=>by have:=h.cn e;rw[this]at iF;cases iF)
        exact⟨hk.1.mono (by omega) (by omega) (by omega),by have:=hk.2;simp only;omega⟩
       |nil =>
        simp only;have hk:=Vu (s:=s) sz false (s.Q++[W.mk t op 0 p (-1)]) s.C (q:=q+1) h.h h.b (by have:=h.q;simp;omega) h.c h.l (by simp) h.cn
        cases hg:got (cR sz false (s.Q++[W.mk t op 0 p (-1)]) s.C).wn t with
        |none=>exact⟨hk.1.mono (by omega) (by omega) (by omega),hk.2⟩
        |some y=>exact⟨hk.1.mono (by omega) (by omega) (by omega),by have:=aoA hg;have:=hk.2;simp only;omega⟩
  .simp[hc,he]
   exact Vv _ _ _
 .simp[hc]
  exact Vv _ _ _
end Go.VS.Sp
namespace Go.VS.Sp
def s0:S:=⟨-1,0,0,true,[],true,[],true,[],true,[],false,0⟩
abbrev tCl:=Int×Int×Int
def tCl.row(c:tCl):List D:=[I' c.1,I' c.2.1,I' c.2.2,I' 0,I' 0]
end Go.VS.Sp
namespace Go.VS.Sp
end Go.VS.Sp
namespace Go.VS.Sp
def Vw(sz:Int)(p:Option K)(C:List K):Prop:=C.Pairwise (λa b=>a.task<b.task)/\(∀c∈C,0<=c.task/\c.task<16/\(c.log.length:Int)<=sz/\c.log.all num=true)/\∀x∈p,∀c∈C,x.task<c.task
theorem aoE{sz:Int}:∀(C:List K)(p:Option K),vc sz p C=true↔Vw sz p C
 | [],p=>by simp[vc,Vw]
 |c::C,p=>by
  have e1:vc sz p (c::C)=(!lE sz p c&&(c.log.all num&&vc sz (some c) C)):=rfl;have ek:lE sz p c=false↔(0<=c.task/\c.task<16/\(c.log.length:Int)<=sz/\∀x∈p,x.task<c.task):=by
   unfold lE;cases p with
   |none=>simp;omega
   |some q=>simp;omega
  rw[e1];simp only[bE,kZ,ek,aoE C (some c)];unfold Vw;simp only[gI,dA,forall_eq_or_imp,Option.mem_def,gz,forall_eq'];constructor
  .rintro⟨⟨a1,a2,a3,a4⟩,b,c1,c2,c3⟩
   exact⟨⟨c3,c1⟩,⟨⟨a1,a2,a3,b⟩,c2⟩,λx hx=>⟨a4 x hx,λd hd=>by have:=a4 x hx;have:=c3 d hd;omega⟩⟩
  .rintro⟨⟨c3,c1⟩,⟨⟨a1,a2,a3,b⟩,c2⟩,h⟩
   exact⟨⟨a1,a2,a3,λx hx=>(h x hx).1⟩,b,c1,c2,c3⟩
structure iK(sz:Int)(C:List K):Prop where
 pw:C.Pairwise (λa b=>a.task<b.task)
 el:∀c∈C,0<=c.task/\c.task<16/\(c.log.length:Int)<=sz/\c.log.all num=true
theorem aoF{sz:Int}{C:List K}:vc sz none C=true↔iK sz C:=by
 rw[aoE];exact⟨λh=>⟨h.1,h.2.1⟩,λh=>⟨h.pw,h.el,by simp⟩⟩
structure lR(sz:Int)(Q:List W)(C:List K):Prop where
 j5:iK sz C
 val:∀w∈Q,dL w=true
 len:Q.length<=96
 nd:(tks Q).Nodup
 cs:∀w∈Q,w.case = -1/\(w.op=70/\vZ C w=true\/w.op=68)
def Gd(sz:Int)(Q:List W)(C:List K):Prop:=lR sz Q C/\((∃w∈Q,w.op=68)->fl sz C Q=true)
theorem aoG:∀(l:List W)(p:Option W),fU 1 p l=0↔∀w∈l,dL w=true
 | [],p=>by simp[fU]
 |w::l,p=>by
  unfold fU;cases hv:dL w
  .simp[hv]
  .simp[hv,aoG l]
theorem xk{Q:List W}:ej Q=0↔Q.length<=96/\∀w∈Q,dL w=true:=by
 unfold ej;by_cases h:96<Q.length
 .rw[aK h]
  constructor
  .intro h;cases h
  .intro h';omega
 .rw[aE h,aoG]
  constructor
  .intro h';exact⟨by omega,h'⟩
  .intro h';exact h'.2
theorem aoH{sz:Int}{C:List K}{Q:List W}:∀(suf pre:List W),tq sz C Q pre suf=true ↔
  ((∀x∈pre,∀w∈suf,x.task≠w.task)/\(tks suf).Nodup/\∀w∈suf,w.case = -1/\sy sz C Q w=true)
 | [],pre=>by simp[tq,tks]
 |w::suf,pre=>by
  have e1:tq sz C Q pre (w::suf)=(!pre.any (λx=>x.task==w.task)&&(w.case == -1&&(sy sz C Q w&&tq sz C Q (pre++[w]) suf))):=rfl
  have e2:(!pre.any (λx=>x.task==w.task))=true↔∀x∈pre,x.task≠w.task:=by simp
  rw[e1];simp only[bE,e2,aoH suf (pre++[w]),dM];have e3:(tks (w::suf)).Nodup↔(∀x∈suf,w.task≠x.task)/\(tks suf).Nodup:=by
   unfold tks;rw[fT,Eb];simp only[gF,not_exists,not_and];constructor
   .rintro⟨a,b⟩;exact⟨λx hx e=>a x hx e.symm,b⟩
   .rintro⟨a,b⟩;exact⟨λx hx e=>a x hx e.symm,b⟩
  rw[e3];simp only[dc,dA,PG,or_false,forall_eq_or_imp];constructor
  .rintro⟨a,b,c,d,e,f⟩
   exact⟨λx hx=>⟨a x hx,λy hy=>d x (.inl hx) y hy⟩,⟨λy hy=>d w (.inr rfl) y hy,e⟩,⟨b,c⟩,f⟩
  .rintro⟨a,⟨b,c⟩,⟨d,e⟩,f⟩
   exact⟨λx hx=>(a x hx).1,d,e,λx hx y hy=>by
    rcases hx with hx |rfl
    .exact(a x hx).2 y hy
    .exact b y hy,c,f⟩
theorem aoI{sz:Int}{s:S}:s.good sz=true↔(s.own = -1/\s.uL=false/\Gd sz s.Q s.C):=by
 unfold S.good Gd;simp only[bE,dM,kZ,aoF,xk,aoH];constructor
 .rintro⟨⟨a,b,⟨c,d⟩,_,e,f⟩,g⟩
  refine⟨a,g,⟨b,d,c,e,?_⟩,?_⟩
  .intro w hw
   obtain⟨h1,h2⟩:=f w hw;refine⟨h1,?_⟩;unfold sy at h2;by_cases fI:w.op=70
   .rw[aK fI]at h2;exact .inl ⟨fI,h2⟩
   .rw[aE fI]at h2
    by_cases fu:w.op=68
    .exact .inr fu
    .rw[aE fu]at h2;cases h2
  .rintro⟨w,hw,fu⟩
   obtain⟨_,h2⟩:=f w hw;simpa[sy,fu]using h2
 .rintro⟨a,g,⟨b,d,c,e,f⟩,h⟩
  refine⟨⟨a,b,⟨c,d⟩,by simp,e,?_⟩,g⟩
  intro w hw;obtain⟨h1,h2⟩:=f w hw;refine⟨h1,?_⟩;rcases h2 with⟨fI,h2⟩ |fu
  .simp[sy,fI,h2]
  .simp[sy,fu,h ⟨w,hw,fu⟩]
end Go.VS.Sp
namespace Go.VS.Sp
theorem aoJ{n:Int}:num n=true↔-1099511627776<=n/\n<=1099511627776:=by
 unfold num;simp
theorem DQ{w:W}(h:dL w=true):num w.value=true:=by
 unfold dL kI at h;simp at h;rw[aoJ];omega
theorem OS{Q:List W}{w:W}(h:w∈pO Q):w∈Q/\w.op≠70:=by
 unfold pO at h;rw[pe]at h;simpa using h
theorem OT{sz:Int}{C:List K}{f:K->K}(h:iK sz C)(ht:∀c,(f c).task=c.task)(hf:∀c∈C,((f c).log.length:Int)<=sz/\(f c).log.all num=true):iK sz (C.map f):=by
 refine⟨?_,?_⟩
 .rw[Ee]
  exact h.pw.imp (fun{a b} hab=>by rw[ht,ht];exact hab)
 .intro c hc
  obtain⟨c0,hc0,rfl⟩:=gF.1 hc;have:=h.el c0 hc0;rw[ht];exact⟨this.1,this.2.1,hf c0 hc0⟩
theorem aoK(Q:List W)(v:Int)(c:K):(gw Q v c).task=c.task:=by
 unfold gw;split<;>rfl
theorem lR.step{sz:Int}{Q A B:List W}{C:List K}{w:W}(h:lR sz Q C)(hQ:Q=A++w::B)(fu:w.op=68)(hf:fl sz C Q=false):lR sz (pO (A++B)) (C.map (gw (A++B) w.value)):=by
 have hfit:fits sz C:=λc hc=>(h.j5.el c hc).2.2.1
 have hfs:=aov hQ fu hf hfit;have tU:num w.value=true:=DQ (h.val w (by rw[hQ];simp))
 have hsub:∀x∈A++B,x∈Q:=by
  intro x hx;rw[hQ];rw[dc]at hx;rcases hx with hx |hx<;>simp[hx]
 refine⟨OT h.j5 (aoK _ _) ?_,?_,?_,?_,?_⟩
 .intro c hc
  refine⟨hfs _ (gF.2 ⟨c,hc,rfl⟩),?_⟩;have:=(h.j5.el c hc).2.2.2;unfold gw;split
  .exact this
  .simp only[J0,this,xA,tU,PO,PR]
 .intro x hx
  exact h.val x (hsub x (OS hx).1)
 .have h1:=Gu (A++B)
  have h2:=h.len;rw[hQ]at h2;simp at h1 h2;omega
 .exact aou (aot (by rw[<-hQ];exact h.nd))
 .intro x hx
  obtain⟨hx1,mE⟩:=OS hx;obtain⟨a,b⟩:=h.cs x (hsub x hx1);refine⟨a,?_⟩;rcases b with⟨b,_⟩ |b
  .exact absurd b mE
  .exact .inr b
theorem aoL{Q:List W}(h:lF Q<0):¬∃w∈Q,w.op=68:=by
 have:=afM (Q:=Q);rw[Po h]at this;rintro⟨w,hw,fu⟩;have h2:(Q.any λw=>w.op==68)=true:=rV.2 ⟨w,hw,by simpa using fu⟩
 rw[h2]at this;cases this
theorem aoM(sz:Int):∀(n:Nat)(a:Ad),a.Q.length<n->lR sz a.Q a.C->Gd sz (gW sz n a).Q (gW sz n a).C
 | 0,a,hn,_=>by omega
 |n+1,a,hn,h=>by
  unfold gW;by_cases hc:lF a.Q<0\/fl sz a.C a.Q=true
  .rw[aK hc]
   refine⟨h,?_⟩;intro he;rcases hc with hc |hc
   .exact absurd he (aoL hc)
   .exact hc
  .rw[aE hc]
   rcases DL a.Q with⟨h1,_⟩ |⟨A,B,w,hQ,hp,fu⟩
   .exact absurd (.inl (by omega)) hc
   .have e:((A.length:Int)).toNat=A.length:=by omega
    have hg:a.Q[(lF a.Q).toNat]?=some w:=by rw[hp,e,hQ];simp
    have e1:Q1 a.Q=A++B:=by rw[hQ];exact DM (by rw[<-hQ];exact hp)
    have hf:fl sz a.C a.Q=false:=by
     cases h:fl sz a.C a.Q
     .rfl
     .exact absurd (.inr h) hc
    rw[hg];simp only;refine aoM sz n _ ?_ ?_
    .simp only[Ad.step,e1]
     have h1:=Gu (A++B);have h2:a.Q.length=A.length+(B.length+1):=by rw[hQ];simp
     simp at h1;omega
    .simp only[Ad.step,e1]
     exact h.step hQ fu hf
theorem Vx{sz:Int}{qn:Bool}{Q:List W}{C:List K}(h:lR sz Q C):Gd sz (cR sz qn Q C).Q (cR sz qn Q C).C:=aoM sz _ _ (by simp) h
theorem BO{Q:List W}{t op:Int}:jo Q t op=true↔∃w∈Q,w.task=t/\w.op=op:=by
 unfold jo;rw[rV];simp
theorem aoN{sz:Int}{C C':List K}{Q Q':List W}(h:fl sz C Q=true)(hC:∀c∈C,c∈C')(hQ:∀w∈Q',w.op=70->w∈Q\/∀c∈C,c.task≠w.task):fl sz C' Q'=true:=by
 unfold fl at *;rw[rV]at *;obtain⟨c,hc,h1⟩:=h;refine⟨c,hC c hc,?_⟩;simp only[bE,kZ]at h1⊢;refine⟨h1.1,?_⟩;cases hw:jo Q' c.task 70
 .rfl
 .exfalso
  obtain⟨w,xp,ht,ho⟩:=BO.1 hw;rcases hQ w xp ho with h2 |h2
  .have:jo Q c.task 70=true:=BO.2 ⟨w,h2,ht,ho⟩
   rw[h1.2]at this;cases this
  .exact h2 c hc ht.symm
theorem BP{C:List K}{t:Int}{c:K}(h:mD C t=some c):c.task=t:=by
 have:=GV h;simpa using this
theorem iK.uniq{sz:Int}{C:List K}(h:iK sz C){a b:K}(ha:a∈C)(hb:b∈C)(e:a.task=b.task):a=b:=by
 have hp:=h.pw;induction C with
 |nil=>cases ha
 |cons x C ih =>
  rw[gI]at hp;rcases dA.1 ha with ha |ha
  .rcases dA.1 hb with hb |hb
   .rw[ha,hb]
   .have:=hp.1 b hb
    rw[ha]at e;omega
  .rcases dA.1 hb with hb |hb
   .have:=hp.1 a ha
    rw[hb]at e;omega
   .exact ih ⟨hp.2,λc hc=>h.el c (by simp[hc])⟩ ha hb hp.2
theorem iK.mD{sz:Int}{C:List K}(h:iK sz C){c:K}(hc:c∈C):mD C c.task=some c:=by
 cases hk:Sp.mD C c.task with
 |none =>
  unfold Sp.mD at hk;rw[Kb]at hk;have:=hk c hc;simp at this
 |some d=>rw[h.uniq (DP hk) hc (BP hk)]
theorem aoO{sz:Int}{C:List K}(h:iK sz C){t:Int}{c:K}:Sp.mD C t=some c↔c∈C/\c.task=t:=by
 constructor
 .intro hk;exact⟨DP hk,BP hk⟩
 .rintro⟨h1,rfl⟩;exact h.mD h1
theorem Gx{sz:Int}{C:List K}(h:iK sz C){w:W}:vZ C w=true↔(∃c∈C,c.task=w.task/\c.log=[])/\w.value=0:=by
 unfold vZ;cases hk:Sp.mD C w.task with
 |none =>
  simp;rintro c hc ht;exfalso;rw[<-ht,h.mD hc]at hk;cases hk
 |some c =>
  have e:(!decide (0<c.log.length)&&w.value==0)=true↔c.log=[]/\w.value=0:=by simp
  simp only[e];constructor
  .rintro⟨a,b⟩;exact⟨⟨c,DP hk,BP hk,a⟩,b⟩
  .rintro⟨⟨d,hd,ht,hl⟩,b⟩
   refine⟨?_,b⟩
   have:Sp.mD C w.task=some d:=(aoO h).2 ⟨hd,ht⟩
   rw[hk]at this;cases this;exact hl
end Go.VS.Sp
namespace Go.VS.Sp
end Go.VS.Sp
namespace Go.VS.Sp
end Go.VS.Sp
namespace Go.VS.Sp
def gQ(s:S)(t:Int):Bool:=s.Q.any λw=>w.task==t
def rm(s:S)(t:Int):List W:=s.Q.filter λw=>w.task != t
def rpW(s:S)(q:D):List D:=[I' s.own,I' s.cnt,I' s.time,hD s.hn s.H,q,hD s.bn s.B,cD s.cn s.C,.b s.cl,I' s.val,.b false,I' 0,.b false,.sl 5 true []]
def Wd(x:Option dN)(s:S)(c t:Int):Prop :=
 if c=0/\gQ s t=true then x=some (.val (.tu [.d (.ag (rpW s (qO (rm s t)))),.d (I' 0)]) [])else ∃e,e≠0/\x=some (.val (.tu [.d (.ag oq),.d (I' e)]) [])
theorem p5(s:S)(t:Int)(hn:s.Q.length<=1000000):∃i,ev P (.call iU [.d (qD s.qn s.Q),.d (I' t)] [])=some (.val (.tu [.d (I' i),.d (.b (gQ s t))]) []):=by
 have h:=lD s.qn s.Q t hn;rw[A6]at h;exact⟨_,h⟩
end Go.VS.Sp
namespace Go.VS.Sp
def jC(st:Bool)(left:Int):List W->List O
 | []=>[.aG 1 true [[.b st]],.aG 1 true [[I' left]],.aG 1 true [[.sl 5 true []]]]
 |w::r=>[.aG 1 true [[.b st]],.aG 1 true [[I' left]],.gK 1 [[.aQ 3 0 (r.length+1)]],.aG 5 true ((w::r).map W.row)]
def qG(st:Bool)(left:Int)(w:W):Bool:=!st&&decide (0<=w.value)&&decide (w.value<=left)
theorem aoP(w:W)(st any:Bool)(left:Int)(hg:qG st left w=false):
  ev P (.call AN [.d (.ag w.row),.loc 0 0 0,.loc 1 0 0,.d (.ref [.b any]),.loc 2 0 0] (jC st left []))=some (.val (.d (.b false)) (jC (st||!any) left [w])):=by
 rw[au SG rfl];unfold qG at hg;have hr:1<=room:=by decide
 simp[E4,jC,W.row,hg,hr,aI,az,sub,aD,back,av,aq,ak,cut,bt,an,V.aV,bp,aX,aZ,aM,aN]
theorem aoQ(w a:W)(r:List W)(st any:Bool)(left:Int)(hr:r.length<=1000)(hg:qG st left w=false):
  ev P (.call AN [.d (.ag w.row),.loc 0 0 0,.loc 1 0 0,.d (.ref [.b any]),.loc 2 0 0] (jC st left (a::r)))=some (.val (.d (.b false)) [.aG 1 true [[.b (st||!any)]],.aG 1 true [[I' left]],.gK 1 [[.aQ 4 0 (r.length+1+1)]],.dead,.aG 5 true ((a::r).map W.row++[w.row])]):=by
 rw[au SG rfl];unfold qG at hg;have hr:1<=room:=by decide
 have h1:r.length+1+1<=room:=by unfold room;omega
 simp[E4,jC,W.row,hg,hr,h1,aI,az,sub,aD,back,av,aq,ak,cut,bt,an,V.aV,bp,aX,aZ,aM,aN,bk,cG,cz]
theorem aoR(w:W)(st any:Bool)(left:Int)(O:List W)(hl:0<=left/\left<=1000000)(hg:qG st left w=true):
  ev P (.call AN [.d (.ag w.row),.loc 0 0 0,.loc 1 0 0,.d (.ref [.b any]),.loc 2 0 0] (jC st left O))=some (.val (.d (.b true)) (jC st (left - w.value) O)):=by
 rw[au SG rfl];have hg':=hg;unfold qG at hg hg';simp at hg';have hw:IntKind.i64.wrap (left - w.value)=left - w.value:=wrap_i64 (by omega) (by omega)
 cases O with
 |nil=>simp[E4,jC,W.row,hg,hw,aI,az,sub,aD,back,av,aq,ak,cut,bt,an,V.aV,bp,aX,aZ,aM,aN]
 |cons a r=>simp[E4,jC,W.row,hg,hw,aI,az,sub,aD,back,av,aq,ak,cut,bt,an,V.aV,bp,aX,aZ,aM,aN]
def gG:List W->V
 | []=>.d (.sl 5 true [])
 |_::g=>.aQ 3 0 (g.length+1)
def p6(st:Bool)(left:Int):List W->List W->List O
 |O,[]=>jC st left O
 | [],b::g=>[.aG 1 true [[.b st]],.aG 1 true [[I' left]],.aG 1 true [[.sl 5 true []]],.aG 5 true ((b::g).map W.row)]
 |a::r,b::g=>[.aG 1 true [[.b st]],.aG 1 true [[I' left]],.gK 1 [[.aQ 4 0 (r.length+1)]],.aG 5 true ((b::g).map W.row),.aG 5 true ((a::r).map W.row)]
structure GS where
 st:Bool
 left:Int
 O:List W
 G:List W
def dZ(any:Bool):GS->List W->GS
 |s,[]=>s
 |s,w::r=>if qG s.st s.left w then dZ any ⟨s.st,s.left - w.value,s.O,s.G++[w]⟩ r else dZ any ⟨s.st||!any,s.left,s.O++[w],s.G⟩ r
theorem aoS(any:Bool)(Q:List W)(nl:Bool)(hQ:Q.length<=500):∀(suf pre:List W)(s:GS),Q=pre++suf->0<=s.left/\s.left<=1000000->s.O.length<=pre.length->s.G.length<=pre.length ->
  ev P (.loop 3 [1,5,8,9,10] EZ [(1,.fn AN [] [.loc 0 0 0,.loc 1 0 0,.d (.ref [.b any]),.loc 2 0 0]),(5,gG s.G),(8,.d (qD nl Q)),(9,.d (I' Q.length)),(10,.d (I' pre.length))] (p6 s.st s.left s.O s.G)) =
   some (.out (.exit 0) [(5,gG (dZ any s suf).G)] (p6 (dZ any s suf).st (dZ any s suf).left (dZ any s suf).O (dZ any s suf).G)):=by
 intro suf;induction suf with
 |nil =>
  intro pre s hl _ _ _;have hlen:Q.length=pre.length:=by simp[hl]
  obtain⟨st,left,O,G⟩:=s;unfold dZ;rw[bT]
  conv=>lhs;arg 4;unfold EZ
  cases O<;>cases G<;>simp[gG,p6,jC,hlen,aI,az,sub,aD,back,av,aq,ak,cut,bt,an,V.aV,bp,aX,aZ,aM,aN]
 |cons w suf ih =>
  intro pre s hl hb hO hG;have hg:Q[pre.length]?=some w:=by simp[hl]
  have hlt:(pre.length:Int)<Q.length:=by simp[hl];omega
  have eH:pre.length<=500:=by omega
  have hnext:IntKind.i64.wrap ((pre.length:Int)+1)=pre.length+1:=wrap_i64 (by omega) (by omega)
  have iH:1<=room:=by decide
  obtain⟨st,left,O,G⟩:=s;simp only at hb hO hG;unfold dZ;cases hk:qG st left w
  .have bD:=ih (pre++[w]) ⟨st||!any,left,O++[w],G⟩ (by simp[hl]) hb (by simp;omega) (by simp;omega)
   rw[aE (by simpa using hk)]
   refine oB ?_ bD;clear bD;rw[bT]
   conv=>lhs;arg 4;unfold EZ
   cases O with
   |nil =>
    have hc:=aoP w st any left hk;simp only[jC,W.row]at hc;cases G with
    |nil=>simp[gG,p6,jC,hlt,hg,W.row,hc,hnext,aI,az,sub,aD,back,av,aq,ak,cut,bt,an,V.aV,bp,aX,aZ,aM,aN,bk,cG,cz]
    |cons b g=>simp[gG,p6,jC,hlt,hg,W.row,hc,hnext,aI,az,sub,aD,back,av,aq,ak,cut,bt,an,V.aV,bp,aX,aZ,aM,aN,bk,cG,cz]
   |cons a r =>
    have hc:=aoQ w a r st any left (by simp at hO;omega) hk
    simp[jC,W.row]at hc;cases G with
    |nil=>simp[gG,p6,jC,hlt,hg,W.row,hc,hnext,aI,az,sub,aD,back,av,aq,ak,cut,bt,an,V.aV,bp,aX,aZ,aM,aN,bk,cG,cz]
    |cons b g=>simp[gG,p6,jC,hlt,hg,W.row,hc,hnext,aI,az,sub,aD,back,av,aq,ak,cut,bt,an,V.aV,bp,aX,aZ,aM,aN,bk,cG,cz]
  .have hk':=hk
   unfold qG at hk';simp at hk';have bD:=ih (pre++[w]) ⟨st,left - w.value,O,G++[w]⟩ (by simp[hl]) (by simp only;omega) (by simp;omega) (by simp;omega)
   rw[aK (by simpa using hk)]
   refine oB ?_ bD;clear bD;rw[bT]
   conv=>lhs;arg 4;unfold EZ
   have hc:=aoR w st any left O hb hk;cases O with
   |nil =>
    simp[jC,W.row]at hc;cases G with
    |nil=>simp[gG,p6,jC,hlt,hg,W.row,hc,hnext,iH,aI,az,sub,aD,back,av,aq,ak,cut,bt,an,V.aV,bp,aX,aZ,aM,aN,bk,cG,cz]
    |cons b g =>
     have h1:g.length+1+1<=room:=by simp at hG;unfold room;omega
     simp[gG,p6,jC,hlt,hg,W.row,hc,hnext,iH,h1,aI,az,sub,aD,back,av,aq,ak,cut,bt,an,V.aV,bp,aX,aZ,aM,aN,bk,cG,cz]
   |cons a r =>
    simp[jC,W.row]at hc;cases G with
    |nil=>simp[gG,p6,jC,hlt,hg,W.row,hc,hnext,iH,aI,az,sub,aD,back,av,aq,ak,cut,bt,an,V.aV,bp,aX,aZ,aM,aN,bk,cG,cz]
    |cons b g =>
     have h1:g.length+1+1<=room:=by simp at hG;unfold room;omega
     simp[gG,p6,jC,hlt,hg,W.row,hc,hnext,iH,h1,aI,az,sub,aD,back,av,aq,ak,cut,bt,an,V.aV,bp,aX,aZ,aM,aN,bk,cG,cz]
theorem aoT(any:Bool)(Q:List W)(nl:Bool)(n:Int)(hQ:Q.length<=500)(hn:0<=n/\n<=1000000):
  ev P (.call QU [.d (qD nl Q),.fn AN [] [.loc 0 0 0,.loc 1 0 0,.d (.ref [.b any]),.loc 2 0 0]] (jC false n [])) =
   some (.val (gG (dZ any ⟨false,n,[],[]⟩ Q).G) (p6 (dZ any ⟨false,n,[],[]⟩ Q).st (dZ any ⟨false,n,[],[]⟩ Q).left (dZ any ⟨false,n,[],[]⟩ Q).O (dZ any ⟨false,n,[],[]⟩ Q).G)):=by
 have hL:=aoS any Q nl hQ Q [] ⟨false,n,[],[]⟩ rfl hn (by simp) (by simp)
 rw[au aeK rfl];simp only[gG,p6,jC,lf]at hL⊢;generalize dZ any ⟨false,n,[],[]⟩ Q=s at *;obtain⟨st,left,O,G⟩:=s;have hL:ev P (.loop 3 [1,5,8,9,10] EZ [(1,.fn AN [] [.loc 0 0 0,.loc 1 0 0,.d (.ref [.b any]),.loc 2 0 0]),(5,.d (.sl 5 true [])),(8,.d (qD nl Q)),(9,.d (I' Q.length)),(10,.d (I' 0))] [.aG 1 true [[.b false]],.aG 1 true [[I' n]],.aG 1 true [[.sl 5 true []]]])=some (.out (.exit 0) [(5,gG G)] (p6 st left O G)):=hL;cases O<;>cases G<;>simp only[gG,p6,jC]at hL<;>simp[RZ,gG,p6,jC,hL,aI,az,sub,aD,back,av,aq,ak,cut,bt,an,V.aV,bp,aX,aZ,aM,aN,bk,cG,cz]
theorem aoU(any:Bool)(Q:List W)(nl:Bool)(n:Int)(hQ:Q.length<=500)(hn:0<=n/\n<=1000000):
  ev P (.call QZ [.d (qD nl Q),.d (I' n),.d (.b any)] [])=some (.val (.tu [.d (qO (dZ any ⟨false,n,[],[]⟩ Q).G),.d (qO (dZ any ⟨false,n,[],[]⟩ Q).O),.d (I' (dZ any ⟨false,n,[],[]⟩ Q).left)]) []):=by
 have hF:=aoT any Q nl n hQ hn;rw[au aeQ rfl];generalize dZ any ⟨false,n,[],[]⟩ Q=s at *;obtain⟨st,left,O,G⟩:=s;simp only[jC]at hF;cases O<;>cases G<;>simp only[gG,p6,jC]at hF<;>simp[R5,hF,qO,W.row,aI,az,sub,aD,back,av,aq,ak,cut,bt,an,V.aV,bp,aX,aZ,aM,aN,bk,cG,cz]
end Go.VS.Sp
namespace Go.VS.Sp
def Ab(w:W):List D:=[I' w.task,I' w.op,I' 0,.b true,I' (-1)]
def wV:List W->V
 | []=>.d (.sl 5 true [])
 |_::r=>.aQ 1 0 (r.length+1)
def wH:List W->List O
 | []=>[]
 |a::r=>[.aG 5 true ((a::r).map Ab)]
theorem aoV(c:List D)(G:List W)(b:Bool)(hG:G.length<=500):∀(suf pre:List W),G=pre++suf ->
  ev P (.loop 1 [6,38,39,40] HG [(6,wV pre),(38,.d (qD b G)),(39,.d (I' G.length)),(40,.d (I' pre.length))] (.aG 10 true [c]::wH pre)) =
   some (.out (.exit 0) [(6,wV G)] (.aG 10 true [c]::wH G)):=by
 intro suf;induction suf with
 |nil =>
  intro pre hl;have hlen:G.length=pre.length:=by simp[hl]
  have e:pre=G:=by simpa using hl.symm
  subst e;rw[bT]
  conv=>lhs;arg 4;unfold HG
  cases pre<;>simp[wV,wH,aI,az,sub,aD,back,av,aq,ak,cut,bt,an,V.aV,bp,aX,aZ,aM,aN,bk,cG,cz]
 |cons w suf ih =>
  intro pre hl;have hg:G[pre.length]?=some w:=by simp[hl]
  have hlt:(pre.length:Int)<G.length:=by simp[hl];omega
  have eH:pre.length<=500:=by omega
  have hnext:IntKind.i64.wrap ((pre.length:Int)+1)=pre.length+1:=wrap_i64 (by omega) (by omega)
  have iH:1<=room:=by decide
  have bD:=ih (pre++[w]) (by simp[hl])
  obtain⟨i,hi⟩:∃i,i=pre.length:=⟨_,rfl⟩;rw[show(pre++[w]).length=i+1 by simp[hi]]at bD
  rw[<-hi]at hg hlt hnext eH⊢;refine oB ?_ bD;clear bD;rw[bT]
  conv=>lhs;arg 4;unfold HG
  cases pre with
  |nil=>simp[wV,wH,Ab,hlt,hg,W.row,hnext,iH,aI,az,sub,aD,back,av,aq,ak,cut,bt,an,V.aV,bp,aX,aZ,aM,aN,bk,cG,cz]
  |cons a r =>
   have h1:r.length+1+1<=room:=by simp at hi;unfold room;omega
   clear hi;simp[wV,wH,Ab,hlt,hg,W.row,hnext,iH,h1,aI,az,sub,aD,back,av,aq,ak,cut,bt,an,V.aV,bp,aX,aZ,aM,aN,bk,cG,cz]
theorem Vy(any:Bool):∀(Q:List W)(s:GS),(dZ any s Q).O.length+(dZ any s Q).G.length=s.O.length+s.G.length+Q.length
 | [],s=>by simp[dZ]
 |w::r,s=>by
  unfold dZ;split
  .rw[Vy any r];simp;omega
  .rw[Vy any r];simp;omega
theorem aoW(s:S)(cnt:Int)(nl:Bool)(Q:List W)(any:Bool)(hQ:Q.length<=500)(hn:0<=cnt/\cnt<=1000000):
  ev P (.call KV [.loc 0 0 0] [.aG 10 true [kR s cnt (qD nl Q) any]]) =
   some (.val (wV (dZ any ⟨false,cnt,[],[]⟩ Q).G) (.aG 10 true [kR s (dZ any ⟨false,cnt,[],[]⟩ Q).left (qO (dZ any ⟨false,cnt,[],[]⟩ Q).O) any]::wH (dZ any ⟨false,cnt,[],[]⟩ Q).G)):=by
 have hG:=aoU any Q nl cnt hQ hn;have hlen:=Vy any Q ⟨false,cnt,[],[]⟩;generalize dZ any ⟨false,cnt,[],[]⟩ Q=g at *;obtain⟨st,left,O,G⟩:=g;simp only[lf]at hlen hG⊢;have hL:=aoV (kR s left (qO O) any) G (decide (G=[])) (by omega) G [] rfl
 obtain⟨bo,ro,hqo⟩:∃b r,qO O = .sl 5 b r:=⟨_,_,rfl⟩;rw[hqo]at hG hL⊢;have hqg:qO G = .sl 5 (decide (G=[])) (G.map W.row):=rfl;rw[hqg]at hG;have hL:ev P (.loop 1 [6,38,39,40] HG [(6,.d (.sl 5 true [])),(38,.d (qD (decide (G=[])) G)),(39,.d (I' G.length)),(40,.d (I' 0))] [.aG 10 true [kR s left (.sl 5 bo ro) any]])=some (.out (.exit 0) [(6,wV G)] (.aG 10 true [kR s left (.sl 5 bo ro) any]::wH G)):=hL;unfold kR at hL⊢;rw[au aec rfl];cases G with
 |nil =>
  simp only[qD,gq]at hL;simp[wV,wH]at hL hG;simp[Mb,wV,wH,hG,hL,aI,az,sub,aD,back,av,aq,ak,cut,bt,an,V.aV,bp,aX,aZ,aM,aN,bk,cG,cz]
 |cons a r =>
  simp only[qD,fT,W.row]at hL;simp[wV,wH,Ab,W.row]at hL hG;simp[Mb,wV,wH,Ab,hG,hL,aI,az,sub,aD,back,av,aq,ak,cut,bt,an,V.aV,bp,aX,aZ,aM,aN,bk,cG,cz]
def qH(ot:Int)(cnt:Int)(Q:List W):GS:=dZ (ot==1) ⟨false,cnt,[],[]⟩ Q
end Go.VS.Sp
namespace Go.VS.Sp
theorem aoX{p:W->Bool}{a b:List W}(h:a.Sublist b)(hb:b.any p=false):a.any p=false:=by
 rw[qL]at hb⊢;exact λx hx=>hb x (h.subset hx)
end Go.VS.Sp
namespace Go.VS.Sp
structure Cp where
 c:Cl
 w:Wk
def Cp.row(x:Cp):List D:=x.c.row++x.w.row
def c9(k sz ot:Int):S->List Cp->S×Bool
 |a,[]=>(a,true)
 |a,x::r =>
  let e:=dU k sz ot a.pl x.c
  if e.2.2.2≠0 then(a,false)
  else if(x.c.op==61&&ot==0&&!x.w.ok&&x.w.value==0)=true then c9 k sz ot a r
  else if(e.2.1 != x.w.value||e.2.2.1 != x.w.ok)=true then(a,false)else c9 k sz ot e.1 r
theorem Vz(s:S):s.pl.pl=s.pl:=by
 unfold S.pl;simp only[kB];congr 1
theorem aoY(k sz ot:Int):∀(l:List Cp)(a b:S),a.pl=b.pl->(c9 k sz ot a l).1.pl=(c9 k sz ot b l).1.pl/\(c9 k sz ot a l).2=(c9 k sz ot b l).2
 | [],_,_,h=>⟨h,rfl⟩
 |x::r,a,b,h=>by
  unfold c9;rw[h];simp only;split
  .exact⟨h,rfl⟩
  .split
   .exact aoY k sz ot r a b h
   .split
    .exact⟨h,rfl⟩
    .exact⟨rfl,rfl⟩
end Go.VS.Sp
namespace Go.VS.Sp
end Go.VS.Sp
namespace Go.VS.Sp
def sO(w:Wk)(x:W):Bool:=x.task==w.task&&x.op==w.op&&x.case==w.case
def o7(w:Wk):List W->Int×Int->Int×Int
 | [],p=>p
 |x::r,p=>o7 w r (if sO w x then(x.value,x.prio)else p)
def oW:List Cp->V
 | []=>.d (.sl 10 true [])
 |_::r=>.aQ 0 0 (r.length+1)
def hW:List Cp->List O
 | []=>[]
 |a::r=>[.aG 10 true ((a::r).map Cp.row)]
def nW:List Cp->Nat
 | []=>0
 |_::_=>1
theorem aoZ(s:S)(w:Wk)(now:Int)(out:List Cp)(l:D)(ln i:Int)(hn:s.Q.length<=500):∀(suf pre:List W)(p:Int×Int),s.Q=pre++suf ->
  ev P (.loop 0 [2,3,7,9,10,13,14,15,26,27,28] LP [(2,.d (I' now)),(3,.d (.ref s.row)),(7,oW out),(9,.d (.ref w.row)),(10,.loc (nW out) 0 0),(13,.d l),(14,.d (I' ln)),(15,.d (I' i)),(26,.d (qD s.qn s.Q)),(27,.d (I' s.Q.length)),(28,.d (I' pre.length))] (hW out++[.aG 5 true [[I' w.task,I' w.op,I' p.1,I' p.2,I' now]]])) =
   some (.out (.exit 2) [(2,.d (I' now)),(3,.d (.ref s.row)),(7,oW out),(9,.d (.ref w.row)),(10,.loc (nW out) 0 0),(13,.d l),(14,.d (I' ln)),(15,.d (I' i))] (hW out++[.aG 5 true [[I' w.task,I' w.op,I' (o7 w suf p).1,I' (o7 w suf p).2,I' now]]])):=by
 intro suf;induction suf with
 |nil =>
  intro pre p hl;have hlen:s.Q.length=pre.length:=by simp[hl]
  unfold o7;rw[bT]
  conv=>lhs;arg 4;unfold LP
  cases out<;>simp[oW,hW,nW,hlen,ak,cut,bt,an]
 |cons x suf ih =>
  intro pre p hl;have hg:s.Q[pre.length]?=some x:=by simp[hl]
  have hlt:(pre.length:Int)<s.Q.length:=by simp[hl];omega
  have hnext:IntKind.i64.wrap ((pre.length:Int)+1)=pre.length+1:=wrap_i64 (by omega) (by omega)
  have bD:=ih (pre++[x]) (if sO w x then(x.value,x.prio)else p) (by simp[hl])
  unfold o7;refine oB ?_ bD;clear bD;rw[bT]
  conv=>lhs;arg 4;unfold LP
  cases hm:sO w x
  .unfold sO at hm
   cases out<;>simp[oW,hW,nW,hlt,hg,W.row,Wk.row,hm,hnext,ak,cut,bt,an,V.aV,aq]
  .unfold sO at hm
   cases out<;>simp[oW,hW,nW,hlt,hg,W.row,Wk.row,hm,hnext,ak,cut,bt,an,V.aV,aq]
def fJ(Q:List W)(now:Int)(w:Wk):Cp:=⟨⟨w.task,w.op,(o7 w Q (0,0)).1,(o7 w Q (0,0)).2,now⟩,w⟩
theorem ao0(s:S)(now:Int)(b:Bool)(l:List Wk)(hn:s.Q.length<=500)(sJ:l.length<=500):∀(suf pre:List Wk),l=pre++suf ->
  ev P (.loop 0 [2,3,7,13,14,15] Hz [(2,.d (I' now)),(3,.d (.ref s.row)),(7,oW (pre.map (fJ s.Q now))),(13,.d (.sl 5 b (l.map Wk.row))),(14,.d (I' l.length)),(15,.d (I' pre.length))] (hW (pre.map (fJ s.Q now)))) =
   some (.out (.exit 0) [(7,oW (l.map (fJ s.Q now)))] (hW (l.map (fJ s.Q now)))):=by
 intro suf;induction suf with
 |nil =>
  intro pre hl;have e:l=pre:=by simpa using hl
  subst e;rw[bT]
  conv=>lhs;arg 4;unfold Hz
  cases l.map (fJ s.Q now)<;>simp[oW,hW,ak,cut,bt,an]
 |cons w suf ih =>
  intro pre hl;have hg:l[pre.length]?=some w:=by simp[hl]
  have hlt:(pre.length:Int)<l.length:=by simp[hl];omega
  have eH:pre.length<=500:=by omega
  have hnext:IntKind.i64.wrap ((pre.length:Int)+1)=pre.length+1:=wrap_i64 (by omega) (by omega)
  have iH:1<=room:=by decide
  have bD:=ih (pre++[w]) (by simp[hl])
  obtain⟨i,hi⟩:∃i,i=pre.length:=⟨_,rfl⟩;rw[show(pre++[w]).length=i+1 by simp[hi],vF,WI]at bD
  have hin:=aoZ s w now (pre.map (fJ s.Q now)) (.sl 5 b (l.map Wk.row)) l.length i hn s.Q [] (0,0) rfl;have yj:(pre.map (fJ s.Q now)).length=i:=by simp[hi]
  have xq:fJ s.Q now w=⟨⟨w.task,w.op,(o7 w s.Q (0,0)).1,(o7 w s.Q (0,0)).2,now⟩,w⟩:=rfl;rw[xq]at bD;generalize o7 w s.Q (0,0)=vp at *;generalize pre.map (fJ s.Q now)=out at *;rw[<-hi]at hg hlt hnext eH⊢;refine oB ?_ bD;clear bD ih;rw[bT]
  conv=>lhs;arg 4;unfold Hz
  simp only[lf]at hin;cases out with
  |nil =>
   simp[oW,hW,nW,Wk.row,Cp.row,Cl.row]at hin;simp[oW,hW,nW,Cp.row,Cl.row,hlt,hg,Wk.row,hin,hnext,iH,ak,cut,bt,an,V.aV,aq,bk,cG,cz]
  |cons a r =>
   have h1:r.length+1+1<=room:=by simp at yj;unfold room;omega
   simp[oW,hW,nW,Wk.row,Cp.row,Cl.row]at hin;simp[oW,hW,nW,Cp.row,Cl.row,hlt,hg,Wk.row,hin,hnext,iH,h1,ak,cut,bt,an,V.aV,aq,bk,cG,cz]
theorem ao1(s:S)(now:Int)(b:Bool)(l:List Wk)(hn:s.Q.length<=500)(sJ:l.length<=500):
  ev P (.call Ql [.d (.ag s.row),.d (.sl 5 b (l.map Wk.row)),.d (I' now)] [])=some (.val (.d (.sl 10 (decide (l=[])) ((l.map (fJ s.Q now)).map Cp.row))) []):=by
 have hL:=ao0 s now b l hn sJ l [] rfl;have hL:ev P (.loop 0 [2,3,7,13,14,15] Hz [(2,.d (I' now)),(3,.d (.ref s.row)),(7,.d (.sl 10 true [])),(13,.d (.sl 5 b (l.map Wk.row))),(14,.d (I' l.length)),(15,.d (I' 0))] [])=some (.out (.exit 0) [(7,oW (l.map (fJ s.Q now)))] (hW (l.map (fJ s.Q now)))):=hL;have he:decide (l=[])=decide (l.map (fJ s.Q now)=[]):=by cases l<;>rfl
 rw[he];rw[au adH rfl];simp only[S.row]at hL⊢;generalize l.map (fJ s.Q now)=out at *;cases out with
 |nil =>
  simp[oW,hW]at hL;simp[LQ,hL,av,aq]
 |cons a r =>
  simp[oW,hW,Cp.row,Cl.row,Wk.row]at hL;simp[LQ,hL,av,aq,Cp.row,Cl.row,Wk.row,bk,cG]
end Go.VS.Sp
namespace Go.VS.Sp
abbrev m9(b:Bool)(l:List Cp):D:=.sl 10 b (l.map Cp.row)
def DR:List D:=[I' 0,I' 0,I' 0,I' 0,I' 0,I' 0,I' 0,I' 0,.b false,I' 0]
def tot:List (Bool×List Cp)->Nat
 | []=>0
 |p::r=>p.2.length+tot r
def cat:List (Bool×List Cp)->List Cp
 | []=>[]
 |p::r=>p.2++cat r
theorem Ac:∀L,(cat L).length=tot L
 | []=>rfl
 |p::r=>by simp[cat,tot,Ac r]
abbrev DS(L:List (Bool×List Cp)):D:=.sl 1 false (L.map λp=>[m9 p.1 p.2])
theorem ao2:ev P (.call K8 [.d (.sl 10 true []),.d (I' 0)] [])=some (.val (.d (.sl 10 true [])) []):=by
 have h5:IntKind.i64.wrap 0=0:=by decide
 rw[au XY rfl];simp[Mp,h5,ak,cut,av]
theorem ao3(n:Nat)(h0:0<n)(hn:n<=1000):ev P (.call K8 [.d (.sl 10 true []),.d (I' n)] [])=some (.val (.aQ 0 0 0) [.aG 10 true (List.replicate n DR)]):=by
 have h1:¬((n:Int)<0):=by omega
 have h2:IntKind.i64.wrap (n:Int)=n:=wrap_i64 (by omega) (by omega)
 have h3:(0:Int)<n:=by omega
 have h4:n<=room:=by unfold room;omega
 have h5:IntKind.i64.wrap 0=0:=by decide
 rw[au XY rfl];simp[h0,Mp,h1,h2,h3,h4,h5,ak,cut,DR,av]
theorem ao4(L:List (Bool×List Cp))(hL:tot L+L.length<=1000):∀(suf pre:List (Bool×List Cp)),L=pre++suf ->
  ev P (.loop 0 [0,3,9,10,11] L0 [(0,.d (DS L)),(3,.d (I' (tot pre))),(9,.d (DS L)),(10,.d (I' L.length)),(11,.d (I' pre.length))] []) =
   some (.out (.exit 0) [(0,.d (DS L)),(3,.d (I' (tot L)))] []):=by
 intro suf;induction suf with
 |nil =>
  intro pre hl;have e:pre=L:=by simpa using hl.symm
  subst e;rw[bT]
  conv=>lhs;arg 4;unfold L0
  simp
 |cons p suf ih =>
  intro pre hl;have hg:L[pre.length]?=some p:=by simp[hl]
  have hlt:(pre.length:Int)<L.length:=by simp[hl];omega
  have hlen:pre.length<=L.length:=by simp[hl]
  have ts:∀a b,tot (a++b)=tot a+tot b:=λa b=>by rw[<-Ac,<-Ac,<-Ac];induction a with
   |nil=>simp[cat]
   |cons x a ih=>simp[cat]at ih⊢;omega
  have ht:tot L=tot pre+(p.2.length+tot suf):=by rw[hl,ts];rfl
  have hnext:IntKind.i64.wrap ((pre.length:Int)+1)=pre.length+1:=wrap_i64 (by omega) (by omega)
  have ao5:IntKind.i64.wrap ((tot pre:Int)+p.2.length)=(tot pre+p.2.length:Nat):=by rw[wrap_i64 (by omega) (by omega)];simp
  have hneg:¬((tot pre:Int)+p.2.length<0):=by omega
  have bD:=ih (pre++[p]) (by simp[hl])
  rw[ts,show tot [p]=p.2.length by simp[tot]]at bD
  obtain⟨i,hi⟩:∃i,i=pre.length:=⟨_,rfl⟩;rw[show(pre++[p]).length=i+1 by simp[hi]]at bD
  rw[<-hi]at hg hlt hnext⊢;refine oB ?_ bD;clear bD ih;rw[bT]
  conv=>lhs;arg 4;unfold L0
  simp[hlt,hg,hnext,ao5,hneg]
def JG(n k:Nat):V:=if n=0 then .d (.sl 10 true [])else .aQ 0 0 k
def JH(n:Nat)(l:List Cp):List O:=if n=0 then[]else[.aG 10 true (l.map Cp.row++List.replicate (n - l.length) DR)]
theorem ao6(A B:List (List D))(n:Nat)(h:A.length+B.length<=n):aq (A++List.replicate (n - A.length) DR) A.length B=A++(B++List.replicate (n - (A.length+B.length)) DR):=by
 unfold aq;have e:(A++List.replicate (n - A.length) DR).drop (A.length+B.length)=List.replicate (n - (A.length+B.length)) DR:=by
  rw[Pu,qK (by omega),Pw,List.drop_replicate,mu]
  congr 1;omega
 rw[e];simp
theorem ao7(L:List (Bool×List Cp))(hL:tot L+L.length<=1000):∀(suf pre:List (Bool×List Cp)),L=pre++suf ->
  ev P (.loop 0 [6,25,26,27] L1 [(6,JG (tot L) (tot pre)),(25,.d (DS L)),(26,.d (I' L.length)),(27,.d (I' pre.length))] (JH (tot L) (cat pre))) =
   some (.out (.exit 2) [(6,JG (tot L) (tot L))] (JH (tot L) (cat L))):=by
 intro suf;induction suf with
 |nil =>
  intro pre hl;have e:pre=L:=by simpa using hl.symm
  subst e;rw[bT]
  conv=>lhs;arg 4;unfold L1
  unfold JG JH;by_cases h0:tot pre=0<;>simp[h0,ak,cut,bt,an]
 |cons p suf ih =>
  intro pre hl;have hg:L[pre.length]?=some p:=by simp[hl]
  have hlt:(pre.length:Int)<L.length:=by simp[hl];omega
  have hlen:pre.length<=L.length:=by simp[hl]
  have cs:∀a b,cat (a++b)=cat a++cat b:=λa b=>by induction a with
   |nil=>simp[cat]
   |cons x a ih=>simp[cat,ih]
  have ts:∀a b,tot (a++b)=tot a+tot b:=λa b=>by rw[<-Ac,<-Ac,<-Ac,cs];simp
  have ht:tot L=tot pre+(p.2.length+tot suf):=by rw[hl,ts];rfl
  have hnext:IntKind.i64.wrap ((pre.length:Int)+1)=pre.length+1:=wrap_i64 (by omega) (by omega)
  have bD:=ih (pre++[p]) (by simp[hl])
  rw[ts,cs,show tot [p]=p.2.length by simp[tot],show cat [p]=p.2 by simp[cat]]at bD
  obtain⟨i,hi⟩:∃i,i=pre.length:=⟨_,rfl⟩;rw[show(pre++[p]).length=i+1 by simp[hi]]at bD
  rw[<-hi]at hg hlt hnext⊢;refine oB ?_ bD;clear bD ih;rw[bT]
  conv=>lhs;arg 4;unfold L1
  have bN:=Ac pre;generalize cat pre=A at *;generalize tot pre=k at *;subst bN;obtain⟨pb,pl⟩:=p;simp only at ht hg⊢;unfold JG JH;by_cases h0:tot L=0
  .have hA:A=[]:=vC (by omega)
   have hP:pl=[]:=vC (by omega)
   subst hA;subst hP;simp[h0,hlt,hg,hnext,ak,cut,bt,an]
  .cases pl with
   |nil=>simp[h0,hlt,hg,hnext,ak,cut,bt,an]
   |cons a r =>
    have ho:=ao6 (A.map Cp.row) ((a::r).map Cp.row) (tot L) (by simp at ht⊢;omega)
    simp at ho ht;have h6:A.length+(tot L - A.length)=tot L:=by omega
    have h7:A.length+(r.length+1)<=tot L:=by omega
    have h8:A.length<=tot L:=by omega
    simp[h0,hlt,hg,hnext,ho,h6,h7,h8,ak,cut,bt,an]
theorem ao8(L:List (Bool×List Cp))(hL:tot L+L.length<=1000):
  ev P (.call Cv [.d (DS L)] [])=some (.val (.d (m9 (decide (cat L=[])) (cat L))) []):=by
 have h0:=ao4 L hL L [] rfl;have h1:=ao7 L hL L [] rfl;have hc:=Ac L;rw[au adX rfl];simp only[tot,cat,lf]at h0 h1;unfold JG JH at h1;by_cases hz:tot L=0
 .have hn:cat L=[]:=vC (by omega)
  have hG:=ao2;simp[hz]at h0 h1;simp[L2,h0,h1,hG,hn,aI,ak,cut,av]
 .have hn:cat L≠[]:=λh=>hz (by rw[<-hc,h];rfl)
  have hG:=ao3 (tot L) (by omega) (by omega)
  simp[hz,hc]at h0 h1;have ht:List.take (tot L) ((cat L).map Cp.row)=(cat L).map Cp.row:=gE (by simp[hc])
  simp[L2,h0,h1,hG,hn,hc,ht,aI,ak,cut,av,bp,aX,aZ]
end Go.VS.Sp
namespace Go.VS.Sp
theorem VA(any:Bool):∀(Q:List W)(g:GS),(dZ any g Q).left<=g.left
 | [],g=>by simp[dZ]
 |w::r,g=>by
  unfold dZ;split
  .rename_i h
   have:=VA any r ⟨g.st,g.left - w.value,g.O,g.G++[w]⟩;unfold qG at h;simp at h;simp only at this;omega
  .exact VA any r ⟨g.st||!any,g.left,g.O++[w],g.G⟩
theorem VB(any:Bool):∀(Q:List W)(g:GS),0<=g.left->0<=(dZ any g Q).left
 | [],g,h=>by simpa[dZ]using h
 |w::r,g,hl=>by
  unfold dZ;split
  .rename_i h
   unfold qG at h;simp at h;exact VB any r ⟨g.st,g.left - w.value,g.O,g.G++[w]⟩ (by simp only;omega)
  .exact VB any r ⟨g.st||!any,g.left,g.O++[w],g.G⟩ hl
theorem ao9(any:Bool):∀(Q:List W)(g:GS),g.st=true->dZ any g Q=⟨true,g.left,g.O++Q,g.G⟩
 | [],⟨st,l,O,G⟩,h=>by simp at h;simp[dZ,h]
 |w::r,⟨st,l,O,G⟩,h=>by
  simp at h;subst h;unfold dZ
  have:qG true l w=false:=by simp[qG]
  simp only[this];rw[aE (by simp),ao9 any r _ (by rfl)]
  simp
end Go.VS.Sp
namespace Go.VS.Sp
theorem VC:∀(Q:List W)(g:GS),g.st=false->(∀w∈Q,0<=w.value)->(∀w∈g.O,g.left<w.value)->(dZ true g Q).st=false/\∀w∈(dZ true g Q).O,(dZ true g Q).left<w.value
 | [],g,hs,_,h=>⟨by simpa[dZ]using hs,by simpa[dZ]using h⟩
 |w::r,g,hs,hv,h=>by
  unfold dZ;have hw:=hv w (by simp)
  split
  .refine VC r ⟨g.st,g.left - w.value,g.O,g.G++[w]⟩ hs (λx hx=>hv x (by simp[hx])) λx hx=>?_
   have:=h x hx;simp only;omega
  .rename_i hk
   refine VC r ⟨g.st||!true,g.left,g.O++[w],g.G⟩ (by simpa using hs) (λx hx=>hv x (by simp[hx])) λx hx=>?_
   simp only at hx⊢;rcases dc.1 hx with hx |hx
   .exact h x hx
   .simp at hx
    subst hx;unfold qG at hk;rw[hs]at hk;simp at hk;exact hk hw
end Go.VS.Sp
namespace Go.VS.Sp
theorem apa:∀(Q:List W)(g:GS),g.st=false->(∀w∈Q,0<=w.value) ->
  ((dZ false g Q).O=g.O/\(dZ false g Q).G=g.G++Q)\/∃A w B,Q=A++w::B/\(dZ false g Q).G=g.G++A/\(dZ false g Q).O=g.O++w::B/\(dZ false g Q).left<w.value
 | [],g,_,_=>.inl (by simp[dZ])
 |w::r,g,hs,hv=>by
  unfold dZ;have hw:=hv w (by simp)
  split
  .rcases apa r ⟨g.st,g.left - w.value,g.O,g.G++[w]⟩ hs (λx hx=>hv x (by simp[hx]))with⟨h1,h2⟩ |⟨A,x,B,h1,h2,h3,h4⟩
   .exact .inl ⟨h1,by rw[h2];simp⟩
   .exact .inr ⟨w::A,x,B,by rw[h1];rfl,by rw[h2];simp,h3,h4⟩
  .rename_i hk
   rw[ao9 false r _ (by simp)]
   refine .inr ⟨[],w,r,rfl,by simp,by simp,?_⟩
   unfold qG at hk;rw[hs]at hk;simp at hk;exact hk hw
end Go.VS.Sp
namespace Go.VS.Sp
end Go.VS.Sp
namespace Go.VS.Sp
theorem VD{f:List W->W->Bool}:∀{l pre:List W},eI f pre l=true↔∀A w B,l=A++w::B->f (pre++A) w=true
 | [],pre=>⟨λ_ A w B h=>by simp at h,λ_=>rfl⟩
 |x::r,pre=>by
  unfold eI;rw[bE,VD];constructor
  .rintro⟨h1,h2⟩ A w B h
   cases A with
   |nil=>simp at h;rw[<-h.1];simpa using h1
   |cons y A =>
    simp at h;have:=h2 A w B h.2;rw[h.1]at this;simpa using this
  .intro h
   exact⟨by simpa using h [] x r rfl,λA w B e=>by have:=h (x::A) w B (by rw[e];rfl);simpa using this⟩
theorem VE{l:List W}:l.Pairwise (λa b=>a.task≠b.task)↔∀A w B,l=A++w::B->∀x∈A,x.task≠w.task:=by
 constructor
 .rintro h A w B rfl x hx
  exact(oA.1 h).2.2 x hx w (by simp)
 .intro h
  induction l with
  |nil=>exact List.Pairwise.nil
  |cons a r ih =>
   refine gI.2 ⟨λb hb=>?_,ih λA w B e x hx=>h (a::A) w B (by rw[e];rfl) x (by simp[hx])⟩
   obtain⟨A,B,e⟩:=Kc hb;exact h (a::A) b B (by rw[e];rfl) a (by simp)
structure SW(sz:Int)(w:W):Prop where
 v:dL w=true
 op:w.op=60
 lo:1<=w.value
 hi:w.value<=sz
 cs:w.case = -1
structure JI(sz ot:Int)(s:S):Prop where
 own:s.own = -1
 lo:0<=s.cnt
 hi:s.cnt<=sz
 tm:s.time=0
 h:s.H=[]
 b:s.B=[]
 c:s.C=[]
 cl:s.cl=false
 val:s.val=0
 len:s.Q.length<=96
 w:∀w∈s.Q,SW sz w
 tk:s.Q.Pairwise λa b=>a.task≠b.task
 st:∀A w B,s.Q=A++w::B->(A≠[]/\ot=0)\/s.cnt<w.value
theorem apb{sz ot:Int}{s:S}:DC sz ot s=true↔JI sz ot s:=by
 unfold DC;rw[afO];simp only[bE,kZ,B1,Kd,kA,dM,xk,VD];constructor
 .rintro⟨⟨⟨⟨h1,h2⟩,h3⟩,h4,h5⟩,h6,⟨⟨h7,h8⟩,h9⟩,iP⟩
  have hq:∀A w B,s.Q=A++w::B->(SW sz w/\(∀x∈A,x.task≠w.task))/\((A≠[]/\ot=0)\/s.cnt<w.value):=by
   intro A w B e;have h:=h6 A w B e;have hv:=h5 w (by rw[e];simp)
   unfold fS Gb at h;simp at h;obtain⟨⟨⟨⟨g1,g2⟩,g3⟩,g4⟩,g5,g6⟩:=h;refine⟨⟨⟨hv,g1,by omega,by omega,g4⟩,g5⟩,?_⟩
   rcases g6 with⟨g6,g7⟩ |g6
   .exact .inl ⟨by intro e;rw[e]at g6;simp at g6,g7⟩
   .exact .inr g6
  simp at h8;refine⟨h1,by omega,by omega,h7,by grind,by grind,by grind,h9,iP,h4,λw hw=>?_,VE.2 λA w B e=>(hq A w B e).1.2,λA w B e=>(hq A w B e).2⟩
  obtain⟨A,B,e⟩:=Kc hw;exact(hq A w B e).1.1
 .rintro⟨h1,h2,h3,h4,h5,h6,h7,h8,h9,iP,jg,h12,kJ⟩
  refine⟨⟨⟨⟨h1,by omega⟩,by omega⟩,iP,λw hw=>(jg w hw).v⟩,?_,⟨⟨h4,by simp[h5,h6,h7]⟩,h8⟩,h9⟩
  intro A w B e;have hw:=jg w (by rw[e];simp)
  have ht:=VE.1 h12 A w B e;have hs:=kJ A w B e;unfold fS Gb;simp[hw.op,hw.cs];refine⟨⟨hw.lo,hw.hi⟩,ht,?_⟩;rcases hs with⟨g1,g2⟩ |g
  .exact .inl ⟨rX.2 g1,g2⟩
  .exact .inr g
end Go.VS.Sp
namespace Go.VS.Sp
theorem apc{k:Wk}:∀{Q:List W}{p:Int×Int},(∀x∈Q,x.task≠k.task)->o7 k Q p=p
 | [],_,_=>rfl
 |x::r,p,h=>by
  unfold o7
  have:sO k x=false:=by unfold sO;simp[h x (by simp)]
  rw[this,aE (by simp)]
  exact apc λy hy=>h y (by simp[hy])
theorem apd{k:Wk}{w:W}:∀{Q:List W}{p:Int×Int},Q.Pairwise (λa b=>a.task≠b.task)->w∈Q->k.task=w.task->k.op=w.op->k.case=w.case->o7 k Q p=(w.value,w.prio)
 | [],_,_,h,_,_,_=>by simp at h
 |x::r,p,hd,h,h1,h2,h3=>by
  rw[gI]at hd;unfold o7;rcases dA.1 h with rfl |h
  .have:sO k w=true:=by unfold sO;simp[h1,h2,h3]
   rw[this,aK rfl];exact apc λy hy e=>hd.1 y hy (by rw[e,h1])
  .exact apd hd.2 h h1 h2 h3
theorem DT{Q:List W}{w:W}(now v:Int)(ok:Bool)(hd:Q.Pairwise λa b=>a.task≠b.task)(h:w∈Q)(hc:w.case = -1):
  fJ Q now ⟨w.task,w.op,v,ok,-1⟩=⟨⟨w.task,w.op,w.value,w.prio,now⟩,⟨w.task,w.op,v,ok,-1⟩⟩:=by
 unfold fJ;rw[apd (k:=⟨w.task,w.op,v,ok,-1⟩) hd h rfl rfl hc.symm]
theorem mo{k sz ot:Int}{a a':S}{x:Cp}{r:List Cp}{v:Int}{ok:Bool}(he:dU k sz ot a.pl x.c=(a',v,ok,0))(hv:x.w.value=v)(ho:x.w.ok=ok)(hn:x.c.op≠61\/x.w.ok=true\/ot≠0):
  c9 k sz ot a (x::r)=c9 k sz ot a' r:=by
 have e:c9 k sz ot a (x::r) =
  (
   let e:=dU k sz ot a.pl x.c
   if e.2.2.2≠0 then(a,false)
   else if(x.c.op==61&&ot==0&&!x.w.ok&&x.w.value==0)=true then c9 k sz ot a r
   else if(e.2.1 != x.w.value||e.2.2.1 != x.w.ok)=true then(a,false)else c9 k sz ot e.1 r):=rfl
 have hsk:(x.c.op==61&&ot==0&&!x.w.ok&&x.w.value==0)=false:=by
  rcases hn with h |h |h<;>simp[h]
 rw[e,he,hsk];simp[hv,ho]
theorem tV{k sz ot:Int}{s:S}{c:Cl}(h1:cU k sz ot s=true)(h2:cC c=false)(h3:dD k c.op=true)(h4:fit k sz c=true)(h5:(raw k sz ot s c).2.2.2=0):dU k sz ot s c=raw k sz ot s c:=by
 unfold dU;rw[h1,h2,h3,h4,h5];simp
theorem ape{w:W}(h:dL w=true):0<=w.task/\w.task<16/\0<=w.prio/\w.prio<=9:=by
 have:=nx h;unfold dL at h;simp at h;omega
theorem tX{w:W}{now:Int}(h:dL w=true)(hn:0<=now/\now<=1099511627776):cC ⟨w.task,w.op,w.value,w.prio,now⟩=false:=by
 have:=ape h;unfold cC;simp;omega
def aS(n:Int):S:=⟨-1,n,0,false,[],false,[],false,[],false,[],false,0⟩
theorem apf{sz ot n:Int}(hn:iV 4 sz ot=0)(h:0<=n/\n<=sz):cU 4 sz ot (aS n)=true:=by
 unfold cU gB fZ iY iC qw aS;simp[hn,ck];omega
theorem apg{sz ot n now:Int}{w:W}(hn:iV 4 sz ot=0)(hw0:0<=now/\now<=1099511627776)(h:0<=n/\n<=sz)(hw:SW sz w)(hle:w.value<=n):dU 4 sz ot (aS n) ⟨w.task,w.op,w.value,w.prio,now⟩=(aS (n - w.value),0,true,0):=by
 have h1:=hw.lo;have h2:=hw.hi;rw[tV (apf hn h) (tX hw.v hw0) (by unfold dD;simp[hw.op]) (by unfold fit;simp[h1,h2])]
 .unfold raw eS
  simp[hw.op,aS,gd,hle]
 .unfold raw eS
  simp[hw.op,aS,gd,hle]
def ou(now:Int)(w:W):Cp:=⟨⟨w.task,w.op,w.value,w.prio,now⟩,⟨w.task,w.op,0,true,-1⟩⟩
def vf(w:W):Wk:=⟨w.task,w.op,0,true,-1⟩
theorem VF{Q G:List W}(now:Int)(hd:Q.Pairwise λa b=>a.task≠b.task)(hG:G.Sublist Q)(hc:∀w∈Q,w.case = -1):(G.map vf).map (fJ Q now)=G.map (ou now):=by
 rw[kB];refine vu λw hw=>?_
 have hm:=hG.subset hw;have:=DT now 0 true hd hm (hc w hm);simp only[Function.comp,vf];rw[this];rfl
theorem VG{sz ot now:Int}(hn:iV 4 sz ot=0)(hw0:0<=now/\now<=1099511627776)(any:Bool):∀(L:List W)(g:GS),0<=g.left/\g.left<=sz->(∀w∈L,SW sz w) ->
  ∃G' O',(dZ any g L).G=g.G++G'/\(dZ any g L).O=g.O++O'/\G'.Sublist L/\O'.Sublist L/\∀a:S,a.pl=aS g.left->(c9 4 sz ot a (G'.map (ou now))).2=true/\(c9 4 sz ot a (G'.map (ou now))).1.pl=aS (dZ any g L).left
 | [],g,_,_=>⟨[],[],by simp[dZ],by simp[dZ],by simp,by simp,λa ha=>by simp[c9,dZ,ha]⟩
 |w::r,g,hg,hw=>by
  have hw1:=hw w (by simp)
  unfold dZ;split
  .rename_i hk
   unfold qG at hk;simp at hk;have:=hw1.lo;obtain⟨G',O',h1,h2,h3,h4,h5⟩:=VG hn hw0 any r ⟨g.st,g.left - w.value,g.O,g.G++[w]⟩ (by simp only;omega) λx hx=>hw x (by simp[hx])
   refine⟨w::G',O',by rw[h1];simp,h2,h3.cons_cons _,h4.cons _,λa ha=>?_⟩
   rw[fT];have he:=apg hn hw0 hg hw1 hk.2;rw[<-ha]at he;rw[mo (x:=ou now w) he rfl rfl (.inl (by simp[ou,hw1.op]))]
   exact h5 _ rfl
  .obtain⟨G',O',h1,h2,h3,h4,h5⟩:=VG hn hw0 any r ⟨g.st||!any,g.left,g.O++[w],g.G⟩ hg λx hx=>hw x (by simp[hx])
   exact⟨G',w::O',h1,by rw[h2];simp,h3.cons _,h4.cons_cons _,h5⟩
end Go.VS.Sp
namespace Go.VS.Sp
def S.rT(s:S)(n:Int)(O:List W):S:={s with cnt:=n,qn:=decide (O=[]),Q:=O}
theorem aph{sz ot:Int}(hn:iV 4 sz ot=0):1<=sz/\sz<=100/\(ot=0\/ot=1):=by
 unfold iV at hn;simp at hn;omega
theorem BQ{n:Int}{b:Bool}:ck n b=0↔n=0/\b=true:=by
 have h:=qz (n:=n) (b:=b);rw[xB]at h;simpa using h
theorem BR{sz ot:Int}{s:S}:dW 4 sz ot s=0↔iV 4 sz ot=0/\JI sz ot s:=by
 have e:dW 4 sz ot s=ck (iV 4 sz ot) (DC sz ot s):=rfl;rw[e,BQ,apb]
theorem api{sz ot n now:Int}{s:S}(hn:iV 4 sz ot=0)(hw0:0<=now/\now<=1099511627776)(hs:JI sz ot s){L:List W}(hL:L.Sublist s.Q)(h0:0<=n/\n<=sz):
  (qH ot n L).G.Sublist s.Q/\(qH ot n L).O.Sublist s.Q/\dW 4 sz ot (s.rT (qH ot n L).left (qH ot n L).O)=0 /\
   ∀a:S,a.pl=aS n->(c9 4 sz ot a ((qH ot n L).G.map (ou now))).2=true/\(c9 4 sz ot a ((qH ot n L).G.map (ou now))).1.pl=((s.rT (qH ot n L).left (qH ot n L).O).ab true).pl:=by
 obtain⟨hlo,hhi,lG⟩:=aph hn;obtain⟨G',O',g1,g2,g3,g4,g5⟩:=VG hn hw0 (ot==1) L ⟨false,n,[],[]⟩ h0 λw hw=>hs.w w (hL.subset hw)
 have e:dZ (ot==1) ⟨false,n,[],[]⟩ L=qH ot n L:=rfl;have pN:=VA (ot==1) L ⟨false,n,[],[]⟩;have kN:=VB (ot==1) L ⟨false,n,[],[]⟩ h0.1;have OU:=VC L ⟨false,n,[],[]⟩ rfl (λw hw=>by have:=(hs.w w (hL.subset hw)).lo;omega) (by simp)
 have apj:=apa L ⟨false,n,[],[]⟩ rfl (λw hw=>by have:=(hs.w w (hL.subset hw)).lo;omega)
 have hst:∀A w B,O'=A++w::B->(A≠[]/\ot=0)\/(qH ot n L).left<w.value:=by
  intro A w B eO;rcases lG with lG |lG
  .have hb:(ot==1)=false:=by rw[lG];decide
   rw[hb]at g2 e;rw[e]at g2 apj;rcases apj with⟨h1,_⟩ |⟨A',w',B',_,_,h3,h4⟩
   .rw[h1]at g2
    simp at g2;rw[g2]at eO;simp at eO
   .rw[h3]at g2
    simp at g2;rw[<-g2]at eO;cases A with
    |nil=>simp at eO;rw[<-eO.1];exact .inr h4
    |cons a A=>exact .inl ⟨by simp,lG⟩
  .have hb:(ot==1)=true:=by rw[lG];decide
   rw[hb]at g2 e;rw[e]at g2 OU;refine .inr (OU.2 w ?_);rw[g2,eO];simp
 rw[e]at g1 g2 g5 pN kN;simp only[mu]at g1 g2;simp only at pN;subst g1;subst g2;have hlen:=(g4.trans hL).length_le;refine⟨g3.trans hL,g4.trans hL,BR.2 ⟨hn,?_⟩,λa ha=>?_⟩
 .exact⟨hs.own,kN,by unfold S.rT;simp only;omega,hs.tm,hs.h,hs.b,hs.c,hs.cl,hs.val,by have:=hs.len;unfold S.rT;simp only;omega,λw hw=>hs.w w ((g4.trans hL).subset hw),hs.tk.sublist (g4.trans hL),hst⟩
 .obtain⟨p1,p2⟩:=g5 a ha
  refine⟨p1,p2.trans ?_⟩;unfold S.ab S.pl aS S.rT;simp[hs.own,hs.tm,hs.h,hs.b,hs.c,hs.cl,hs.val]
theorem apl{sz ot:Int}{s:S}(hs:JI sz ot s):(s.ab true).pl=aS s.cnt:=by
 unfold S.ab S.pl aS;simp[hs.own,hs.tm,hs.h,hs.b,hs.c,hs.cl,hs.val]
theorem apm{s:S}(hf:s.gN){n:Int}{O:List W}(h:O.length<=41):(s.rT n O).gN :=
 ⟨⟨hf.wf.h,hf.wf.b,hf.wf.c,hf.wf.k⟩,λh=>by unfold S.rT at *;simpa using h,hf.h,h,hf.b,hf.c,hf.l⟩
end Go.VS.Sp
namespace Go.VS.M
open Go.VS.Sp
end Go.VS.M
