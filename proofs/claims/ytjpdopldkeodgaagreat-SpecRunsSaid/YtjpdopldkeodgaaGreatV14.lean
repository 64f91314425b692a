import Derived.Test.YtjpdopldkeodgaaGreatV13
import Derived.Test.YtjpdopldkeodgaaGreatV11
set_option linter.all false
set_option maxHeartbeats 1000000
namespace Go.VS.Sp
abbrev lS(sz:Int)(s:S)(qc bc wc:V):O:=.gK 11 [[.d (I' sz),.d (I' s.own),.d (I' s.cnt),.d (I' s.time),.d (hD s.hn s.H),qc,bc,.d (cD s.cn s.C),.d (.b s.cl),.d (I' s.val),wc]]
def bC(i:Nat):Option (List Int)->V
 |none=>.d (.sl 1 true [])
 |some l=>.aQ i 0 l.length
def cK:Option (List Int)->List O
 |none=>[]
 |some l=>[.aG 1 true (bW l)]
def hQ(sz:Int)(s:S)(Q:List W)(b:Option (List Int)):List O:=lS sz s (.aQ 1 0 Q.length) (bC 2 b) (.d (.sl 5 true []))::.aG 5 true (Q.map W.row)::cK b
def jt(s:S):Option (List Int):=if s.bn=true then none else some s.B
theorem vo(nm:D)(k sz ot:Int)(s:S)(hw:s.wf)(hq:s.qn=false)(hn:s.Q.length<=500)(hm:s.B.length<=500):
  ev P (.call Hi [.d (.ag [nm,I' k,I' sz,I' ot]),.d (.ag s.row)] [])=some (.val (.loc 0 0 0) (hQ sz s s.Q (jt s))):=by
 have h0:=w9 s.qn s.Q (by simp[hq]) (by omega)
 rw[hq,aE (by simp)]at h0
 rw[au SA rfl];unfold hQ jt;cases hb:s.bn
 .have hc:=tw false s.B (by simp) (by omega)
  simp at hc;simp only[S.row,hq,qD]at *;simp[EU,bC,cK,hb,hc,h0,aI,az,sub,aD,back,av,aq,ak,cut,bt,an,V.aV,bp,aX,aZ,aM,aN,bk,cG]
 .have hc:=tw true [] (by simp) (by simp)
  simp at hc;have hB:=hw.b hb;simp only[S.row,hq,qD]at *;simp[EU,bC,cK,hB,hb,hc,h0,aI,az,sub,aD,back,av,aq,ak,cut,bt,an,V.aV,bp,aX,aZ,aM,aN,bk,cG]
theorem aqW(op a b c d e:Int):ev P (.call Ew [.d (.ag [I' a,I' b,I' c,I' d,I' e]),.d (.ref [I' op])] [])=some (.val (.d (.b (b==op))) []):=by
 rw[au afl rfl];simp[Su]
def fW(op:Int)(Q:List W):Option W:=Q.find? λw=>w.op==op
def qJ:Option W->List D
 |none=>[I' 0,I' 0,I' 0,I' 0,I' 0]
 |some w=>w.row
theorem aqX(nl:Bool)(Q:List W)(op:Int)(hn:Q.length<=1000000):ev P (.call LC [.d (qD nl Q),.d (.fn Ew [] [.ref [I' op]])] [])=some (.val (.tu [.d (.ag (qJ (fW op Q))),.d (.b (fW op Q).isSome)]) []):=by
 have h:=Ic (f:=Ew) (first:=[]) (caps:=[.ref [I' op]]) (p:=λw=>w.op==op) nl Q hn (by intro a b c d e;simp[aqW])
 have h:ev P (.call xN [.d (qD nl Q),.d (.fn Ew [] [.ref [I' op]])] [])=some (.val (.d (I' (idx (λw:W=>w.op==op) 0 Q))) []):=h
 rw[au X9 rfl];unfold fW;rcases CT (p:=λw:W=>w.op==op) Q 0 with⟨h1,h2⟩ |⟨i,c,h1,h2,h3⟩
 .have h1:idx (λw:W=>w.op==op) 0 Q = -1:=h1
  rw[h1]at h;rw[h2];simp[HW,h,qJ,aI,az,sub,aD,back,av,aq,ak,cut,bt,an,V.aV]
 .have h1:idx (λw:W=>w.op==op) 0 Q=(i:Int):=by have:=h1;simpa using this
  rw[h1]at h;rw[h3];have h4:¬((i:Int)<0):=by omega
  simp[HW,h,h2,h4,qJ,W.row,aI,az,sub,aD,back,av,aq,ak,cut,bt,an,V.aV]
theorem yI(sz op:Int)(s:S)(Q:List W)(b:Option (List Int))(hn:Q.length<=1000000):
  ev P (.call Ev [.loc 0 0 0,.d (I' op)] (hQ sz s Q b))=some (.val (.tu [.d (.ag (qJ (fW op Q))),.d (.b (fW op Q).isSome)]) (hQ sz s Q b)):=by
 have hf:=aqX false Q op hn;rw[au SH rfl];simp only[qD]at hf;unfold hQ;generalize fW op Q=f at *;cases f with
 |none =>
  simp only[qJ,Aw]at hf⊢;cases b<;>simp[E6,bC,cK,hf,aI,az,sub,aD,back,av,aq,ak,cut,bt,an,V.aV,bp,aX,aZ,aM,aN,bk,cG]
 |some w =>
  simp only[qJ,GX,W.row]at hf⊢;cases b<;>simp[E6,bC,cK,hf,aI,az,sub,aD,back,av,aq,ak,cut,bt,an,V.aV,bp,aX,aZ,aM,aN,bk,cG]
def hF(sz:Int)(s:S)(q:D)(Q0:List W)(b:Option (List Int))(l:List Wk):List O :=
 match b with
 |none=>[lS sz s (.d q) (.d (.sl 1 true [])) (.aQ 2 0 l.length),.aG 5 false (Q0.map W.row),.aG 5 true (l.map Wk.row)]
 |some B=>[lS sz s (.d q) (.aQ 2 0 B.length) (.aQ 3 0 l.length),.aG 5 false (Q0.map W.row),.aG 1 true (bW B),.aG 5 true (l.map Wk.row)]
theorem JP(sz v:Int)(ok:Bool)(w:W)(s:S)(Q:List W)(b:Option (List Int))(hn:Q.length<=1000000):
  ev P (.call Cy [.loc 0 0 0,.d (.ag w.row),.d (I' v),.d (.b ok)] (hQ sz s Q b))=some (.val (.tu []) (hF sz s (qO (Q.filter λx=>x.task != w.task)) Q b [⟨w.task,w.op,v,ok,w.case⟩])):=by
 have hR:=anW false Q w.task hn;have hr:1<=room:=by decide
 rw[au X6 rfl];unfold hQ;obtain⟨b1,r1,e1⟩:∃b r,qO (Q.filter λx=>x.task != w.task) = .sl 5 b r:=⟨_,_,rfl⟩
 rw[e1]at hR⊢;simp only[qD]at hR;cases b<;>simp[MG,hF,W.row,Wk.row,bC,cK,hR,hr,aI,az,sub,aD,back,av,aq,ak,cut,bt,an,V.aV,bp,aX,aZ,aM,aN,bk,cG]
def hG(sz:Int)(s:S)(q:D)(b:Option (Nat×List (List D)×Nat))(l:List Wk):List O :=
 match b with
 |none=>[lS sz s (.d q) (.d (.sl 1 true [])) (.aQ 1 0 l.length),.aG 5 true (l.map Wk.row)]
 |some (o,R,n)=>[lS sz s (.d q) (.aQ 1 o n) (.aQ 2 0 l.length),.aG 1 true R,.aG 5 true (l.map Wk.row)]
def cI(s:S)(q b:V)(pk:Bool)(n:Int)(ok:Bool)(w:V):V :=
 .ag [.d (I' s.own),.d (I' s.cnt),.d (I' s.time),.d (hD s.hn s.H),q,b,.d (cD s.cn s.C),.d (.b s.cl),.d (I' s.val),.d (.b pk),.d (I' n),.d (.b ok),w]
def bG:Option (Nat×List (List D)×Nat)->V
 |none=>.d (.sl 1 true [])
 |some (o,_,n)=>.aQ 1 o n
def wG(k:Nat):Option (Nat×List (List D)×Nat)->V
 |none=>.aQ 1 0 k
 |some _=>.aQ 2 0 k
theorem JQ(sz n':Int)(ok:Bool)(s:S)(q:D)(b:Option (Nat×List (List D)×Nat))(a:Wk)(l:List Wk):
  ev P (.call uB [.loc 0 0 0,.d (I' n'),.d (.b ok)] (hG sz s q b (a::l)))=some (.val (cI s (.d q) (bG b) false n' ok (wG (l.length+1) b)) (hG sz s q b (a::l))):=by
 rw[au H9 rfl];rcases b with _ |⟨o,R,n⟩<;>simp[CL,hG,cI,bG,wG,aI,az,sub,aD,back,av,aq,ak,cut,bt,an,V.aV,bp,aX,aZ,aM,aN]
def bF:Option (List Int)->Option (Nat×List (List D)×Nat)
 |none=>none
 |some B=>some (0,bW B,B.length)
def eD(s:S)(q:D)(b:Option (List Int))(pk:Bool)(n:Int)(ok:Bool)(k:Nat):V :=
 cI s (.d q) (bC 2 b) pk n ok (.aQ (match b with |none=>2 |some _=>3) 0 k)
theorem aqY(sz:Int)(s:S)(c:Cl)(Q:List W)(b:Option (List Int))(w:W)(hn:Q.length<=500)(hf:fW 65 Q=some w):
  ev P (.call yY [.loc 0 0 0,.d (.ag c.row)] (hQ sz s Q b))=some (.val (eD s (qO (Q.filter λx=>x.task != w.task)) b false 0 true 1) (hF sz s (qO (Q.filter λx=>x.task != w.task)) Q b [⟨w.task,w.op,c.value,true,w.case⟩])):=by
 have hw:=yI sz 65 s Q b (by omega)
 have hc:=JP sz c.value true w s Q b (by omega)
 have hd:=JQ sz 0 true s (qO (Q.filter λx=>x.task != w.task)) (bF b) ⟨w.task,w.op,c.value,true,w.case⟩ []
 rw[hf]at hw;obtain⟨b1,r1,e1⟩:∃b r,qO (Q.filter λx=>x.task != w.task) = .sl 5 b r:=⟨_,_,rfl⟩
 rw[e1]at hc hd⊢;simp only[Cl.row,qJ,W.row,GX]at *;rw[au H8 rfl];cases b with
 |none =>
  simp[hQ,hF,hG,cI,bG,wG,bF,bC,cK,Wk.row]at hw hc hd;simp[uH,hQ,hF,eD,cI,bC,cK,Wk.row,hw,hc,hd,aI,az,sub,aD,back,av,aq,ak,cut,bt,an,V.aV,bp,aX,aZ,aM,aN]
 |some B =>
  simp[hQ,hF,hG,cI,bG,wG,bF,bC,cK,Wk.row]at hw hc hd;simp[uH,hQ,hF,eD,cI,bC,cK,Wk.row,hw,hc,hd,aI,az,sub,aD,back,av,aq,ak,cut,bt,an,V.aV,bp,aX,aZ,aM,aN]
end Go.VS.Sp
namespace Go.VS.Sp
def pB(v:Int)(Q:List W)(sz:Int)(s:S):Option (List Int)->List O
 |none=>[lS sz s (.aQ 1 0 Q.length) (.aQ 2 0 1) (.d (.sl 5 true [])),.aG 5 true (Q.map W.row),.aG 1 true [[I' v]]]
 |some B=>[lS sz s (.aQ 1 0 Q.length) (.aQ 3 0 (B.length+1)) (.d (.sl 5 true [])),.aG 5 true (Q.map W.row),.dead,.aG 1 true (bW B++[[I' v]])]
def pV(b:Option (List Int)):V :=
 match b with
 |none=>.aQ 2 0 1
 |some B=>.aQ 3 0 (B.length+1)
theorem aqZ(sz v:Int)(s:S)(Q:List W)(b:Option (List Int))(hb:∀B,b=some B->B.length<=500):
  ev P (.call Cz [.loc 0 0 0,.d (I' v)] (hQ sz s Q b))=some (.val (.tu []) (pB v Q sz s b)):=by
 have hr:1<=room:=by decide
 rw[au MY rfl];cases b with
 |none=>simp[CM,hQ,bC,cK,pB,hr,aI,az,sub,aD,back,av,aq,ak,cut,bt,an,V.aV,bp,aX,aZ,aM,aN]
 |some B =>
  have h2:B.length<=(bW B).length:=by simp[bW]
  have h3:B.length+1<=room:=by have:=hb B rfl;unfold room;omega
  have h4:(bW B).take B.length=bW B:=gE (by simp[bW])
  have h5:¬B.length+1<=(bW B).length:=by simp[bW]
  simp[CM,hQ,bC,cK,pB,hr,h2,h3,h4,h5,aI,az,sub,aD,back,av,aq,ak,cut,bt,an,V.aV,bp,aX,aZ,aM,aN,cz]
def kW(c:Cl):W:=⟨c.task,c.op,if c.op=64 then c.value else 0,c.prio,-1⟩
def kH(sz:Int)(s:S)(c:Cl)(Q:List W):Option (List Int)->List O
 |none=>[lS sz s (.aQ 2 0 (Q.length+1)) (.d (.sl 1 true [])) (.d (.sl 5 true [])),.dead,.aG 5 true (Q.map W.row++[(kW c).row])]
 |some B=>[lS sz s (.aQ 3 0 (Q.length+1)) (.aQ 2 0 B.length) (.d (.sl 5 true [])),.dead,.aG 1 true (bW B),.aG 5 true (Q.map W.row++[(kW c).row])]
def kV(n:Nat):Option (List Int)->V
 |none=>.aQ 2 0 (n+1)
 |some _=>.aQ 3 0 (n+1)
theorem aq0(sz:Int)(s:S)(c:Cl)(Q:List W)(b:Option (List Int))(hn:Q.length<=500):
  ev P (.call xQ [.loc 0 0 0,.d (.ag c.row)] (hQ sz s Q b))=some (.val (cI s (kV Q.length b) (bC 2 b) true 0 false (.d (.sl 5 true []))) (kH sz s c Q b)):=by
 have h3:Q.length+1<=room:=by unfold room;omega
 rw[au SI rfl];cases h:c.op==64
 .have h':=h
  simp at h';cases b<;>simp[AZ,hQ,bC,cK,kV,kH,kW,cI,W.row,Cl.row,h,h',h3,aI,az,sub,aD,back,av,aq,ak,cut,bt,an,V.aV,bp,aX,aZ,aM,aN,bk,cz]
 .have h':=h
  simp at h';cases b<;>simp[AZ,hQ,bC,cK,kV,kH,kW,cI,W.row,Cl.row,h',h3,aI,az,sub,aD,back,av,aq,ak,cut,bt,an,V.aV,bp,aX,aZ,aM,aN,bk,cz]
theorem aq1(sz n':Int)(ok:Bool)(s:S)(Q:List W)(d:D):
  ev P (.call uB [.loc 0 0 0,.d (I' n'),.d (.b ok)] [lS sz s (.aQ 1 0 Q.length) (.d d) (.d (.sl 5 true [])),.aG 5 true (Q.map W.row)])=some (.val (cI s (.aQ 1 0 Q.length) (.d d) false n' ok (.d (.sl 5 true []))) [lS sz s (.aQ 1 0 Q.length) (.d d) (.d (.sl 5 true [])),.aG 5 true (Q.map W.row)]):=by
 rw[au H9 rfl];simp[CL,cI,aI,az,sub,aD,back,av,aq,ak,cut,bt,an,V.aV,bp,aX,aZ,aM,aN]
theorem GB(sz n':Int)(ok:Bool)(s:S)(Q:List W)(o n:Nat)(R:List (List D)):
  ev P (.call uB [.loc 0 0 0,.d (I' n'),.d (.b ok)] [lS sz s (.aQ 1 0 Q.length) (.aQ 2 o n) (.d (.sl 5 true [])),.aG 5 true (Q.map W.row),.aG 1 true R])=some (.val (cI s (.aQ 1 0 Q.length) (.aQ 2 o n) false n' ok (.d (.sl 5 true []))) [lS sz s (.aQ 1 0 Q.length) (.aQ 2 o n) (.d (.sl 5 true [])),.aG 5 true (Q.map W.row),.aG 1 true R]):=by
 rw[au H9 rfl];simp[CL,cI,aI,az,sub,aD,back,av,aq,ak,cut,bt,an,V.aV,bp,aX,aZ,aM,aN]
theorem aq2(sz:Int)(s:S)(c:Cl)(Q:List W)(b:Option (List Int))(hn:Q.length<=500)(hb:∀B,b=some B->B.length<=500)(hf:fW 65 Q=none)(hl:((b.getD []).length:Int)<sz):
  ev P (.call yY [.loc 0 0 0,.d (.ag c.row)] (hQ sz s Q b))=some (.val (cI s (.aQ 1 0 Q.length) (pV b) false 0 true (.d (.sl 5 true []))) (pB c.value Q sz s b)):=by
 have hw:=yI sz 65 s Q b (by omega)
 have hp:=aqZ sz c.value s Q b hb;rw[hf]at hw;rw[au H8 rfl];simp only[Cl.row,qJ,Aw]at *;cases b with
 |none =>
  have hd:=GB sz 0 true s Q 0 1 [[I' c.value]];simp[hQ,pB,bC,cK,cI]at hw hp hd hl;simp[uH,hQ,pB,pV,cI,bC,cK,hw,hp,hd,hl,aI,az,sub,aD,back,av,aq,ak,cut,bt,an,V.aV,bp,aX,aZ,aM,aN]
 |some B =>
  have hd:=GB sz 0 true s Q 0 (B.length+1) (bW B++[[I' c.value]]);simp[hQ,pB,bC,cK,cI]at hw hp hd hl;simp[uH,hQ,pB,pV,cI,bC,cK,hw,hp,hd,hl,aI,az,sub,aD,back,av,aq,ak,cut,bt,an,V.aV,bp,aX,aZ,aM,aN]
theorem aq3(sz:Int)(s:S)(c:Cl)(Q:List W)(b:Option (List Int))(hn:Q.length<=500)(hf:fW 65 Q=none)(hl:¬((b.getD []).length:Int)<sz):
  ev P (.call yY [.loc 0 0 0,.d (.ag c.row)] (hQ sz s Q b))=some (.val (cI s (kV Q.length b) (bC 2 b) true 0 false (.d (.sl 5 true []))) (kH sz s c Q b)):=by
 have hw:=yI sz 65 s Q b (by omega)
 have hp:=aq0 sz s c Q b hn;rw[hf]at hw;rw[au H8 rfl];simp only[Cl.row,qJ,Aw]at *;generalize (kW c).row=kr at *;cases b with
 |none =>
  simp[hQ,kH,kV,bC,cK,cI]at hw hp;have hl:¬(0:Int)<sz:=hl;simp[uH,hQ,kH,kV,cI,bC,cK,hw,hp,hl,aI,az,sub,aD,back,av,aq,ak,cut,bt,an,V.aV,bp,aX,aZ,aM,aN]
 |some B =>
  simp[hQ,kH,kV,bC,cK,cI]at hw hp;have hl:¬(B.length:Int)<sz:=hl;simp[uH,hQ,kH,kV,cI,bC,cK,hw,hp,hl,aI,az,sub,aD,back,av,aq,ak,cut,bt,an,V.aV,bp,aX,aZ,aM,aN]
theorem aq4(sz:Int)(s:S)(c:Cl)(Q:List W)(x y:Int)(B:List Int)(hn:Q.length<=500)(hm:B.length<=500)(hf:fW 64 Q=none):
  ev P (.call pK [.loc 0 0 0,.d (.ag c.row)] (hQ sz s Q (some (x::y::B))))=some (.val (cI s (.aQ 1 0 Q.length) (.aQ 2 1 (B.length+1)) false x true (.d (.sl 5 true []))) [lS sz s (.aQ 1 0 Q.length) (.aQ 2 1 (B.length+1)) (.d (.sl 5 true [])),.aG 5 true (Q.map W.row),.aG 1 true (bW (x::y::B))]):=by
 have hw:=yI sz 64 s Q (some (x::y::B)) (by omega)
 have hd:=GB sz x true s Q 1 (B.length+1) (bW (x::y::B));rw[hf]at hw;rw[au vX rfl];simp only[Cl.row,qJ,Aw]at *;have h1:(0:Int)<(B.length:Int)+1+1:=by omega
 have h2:(1:Int)<=(B.length:Int)+1+1:=by omega
 have h3:(1:Int)<(B.length:Int)+1+1:=by omega
 have h5:(B.length:Int)+1+1<=(B.length:Int)+1+1:=by omega
 have h6:((B.length:Int)+1+1).toNat - 1=B.length+1:=by omega
 simp[hQ,bC,cK,cI,bW]at hw hd;simp[oH,hQ,bC,cK,cI,bW,hw,hd,h1,h2,h3,h5,h6,aI,az,sub,aD,back,av,aq,ak,cut,bt,an,V.aV,bp,aX,aZ,aM,aN]
theorem aq5(sz:Int)(s:S)(c:Cl)(Q:List W)(x:Int)(hn:Q.length<=500)(hf:fW 64 Q=none):
  ev P (.call pK [.loc 0 0 0,.d (.ag c.row)] (hQ sz s Q (some [x])))=some (.val (cI s (.aQ 1 0 Q.length) (.aQ 3 0 0) false x true (.d (.sl 5 true []))) [lS sz s (.aQ 1 0 Q.length) (.aQ 3 0 0) (.d (.sl 5 true [])),.aG 5 true (Q.map W.row),.dead,.aG 1 true []]):=by
 have hw:=yI sz 64 s Q (some [x]) (by omega)
 have hd:=GB sz x true s Q 0 0 [];rw[hf]at hw;rw[au vX rfl];simp only[Cl.row,qJ,Aw]at *;simp[hQ,bC,cK,cI,bW]at hw hd;simp[oH,hQ,bC,cK,cI,bW,hw,hd,aI,az,sub,aD,back,av,aq,ak,cut,bt,an,V.aV,bp,aX,aZ,aM,aN]
theorem aq6(sz v:Int)(s:S)(Q:List W)(x:List D)(R:List (List D))(n:Nat)(hR:R.length=n)(hn:n<=500):
  ev P (.call Cz [.loc 0 0 0,.d (I' v)] [lS sz s (.aQ 1 0 Q.length) (.aQ 2 1 n) (.d (.sl 5 true [])),.aG 5 true (Q.map W.row),.aG 1 true (x::R)]) =
   some (.val (.tu []) [lS sz s (.aQ 1 0 Q.length) (.aQ 3 0 (n+1)) (.d (.sl 5 true [])),.aG 5 true (Q.map W.row),.dead,.aG 1 true (R++[[I' v]])]):=by
 have h2:1+n<=R.length+1:=by omega
 have h3:n+1<=room:=by unfold room;omega
 have h4:R.take n=R:=gE (by omega)
 have h5:¬1+n+1<=R.length+1:=by omega
 have h6:¬1+(n+1)<=R.length+1:=by omega
 refine eqv λX hX=>?_
 rw[au MY rfl];simp[CM,h2,h3,h4,h5,h6,aI,az,sub,aD,back,av,aq,ak,cut,bt,an,V.aV,bp,aX,aZ,aM,aN,cz];rw[<-hX]
theorem aq7(sz:Int)(s:S)(c:Cl)(Q:List W)(x y:Int)(B:List Int)(w:W)(hn:Q.length<=500)(hm:B.length<=400)(hf:fW 64 Q=some w):
  ev P (.call pK [.loc 0 0 0,.d (.ag c.row)] (hQ sz s Q (some (x::y::B))))=some (.val (cI s (.d (qO (Q.filter λx=>x.task != w.task))) (.aQ 3 0 (B.length+2)) false x true (.aQ 4 0 1)) [lS sz s (.d (qO (Q.filter λx=>x.task != w.task))) (.aQ 3 0 (B.length+2)) (.aQ 4 0 1),.aG 5 false (Q.map W.row),.dead,.aG 1 true (bW (y::B++[w.value])),.aG 5 true [Wk.row ⟨w.task,w.op,0,true,w.case⟩]]):=by
 have hw:=yI sz 64 s Q (some (x::y::B)) (by omega)
 have hp:=aq6 sz w.value s Q [I' x] (bW (y::B)) (B.length+1) (by simp[bW]) (by omega)
 have hc:=JP sz 0 true w s Q (some (y::B++[w.value])) (by omega)
 have hd:=JQ sz x true s (qO (Q.filter λx=>x.task != w.task)) (some (0,bW (y::B++[w.value]),B.length+2)) ⟨w.task,w.op,0,true,w.case⟩ []
 rw[hf]at hw;obtain⟨b1,r1,e1⟩:∃b r,qO (Q.filter λx=>x.task != w.task) = .sl 5 b r:=⟨_,_,rfl⟩
 rw[e1]at hc hd⊢;refine eqv λX hX=>?_
 rw[au vX rfl];simp only[Cl.row,qJ,W.row,GX]at *;have h1:(0:Int)<(B.length:Int)+1+1:=by omega
 have h2:(1:Int)<=(B.length:Int)+1+1:=by omega
 have h3:(1:Int)<(B.length:Int)+1+1:=by omega
 have h6:((B.length:Int)+1+1).toNat - 1=B.length+1:=by omega
 simp[hQ,hF,hG,bC,cK,cI,bG,wG,bW,Wk.row]at hw hp hc hd;simp[oH,hQ,hF,bC,cK,cI,eD,bW,Wk.row,hw,hp,hc,hd,h1,h2,h3,h6,aI,az,sub,aD,back,av,aq,ak,cut,bt,an,V.aV,bp,aX,aZ,aM,aN];rw[<-hX];simp[cI,bW,Wk.row]
theorem aq8(sz:Int)(s:S)(c:Cl)(Q:List W)(x:Int)(w:W)(hn:Q.length<=500)(hf:fW 64 Q=some w):
  ev P (.call pK [.loc 0 0 0,.d (.ag c.row)] (hQ sz s Q (some [x])))=some (.val (cI s (.d (qO (Q.filter λx=>x.task != w.task))) (.aQ 3 0 1) false x true (.aQ 4 0 1)) [lS sz s (.d (qO (Q.filter λx=>x.task != w.task))) (.aQ 3 0 1) (.aQ 4 0 1),.aG 5 false (Q.map W.row),.dead,.aG 1 true [[I' w.value]],.aG 5 true [Wk.row ⟨w.task,w.op,0,true,w.case⟩]]):=by
 have hw:=yI sz 64 s Q (some [x]) (by omega)
 have hp:=aqZ sz w.value s Q (some []) (λB h=>by simp at h;subst h;simp)
 have hc:=JP sz 0 true w s Q (some [w.value]) (by omega)
 have hd:=JQ sz x true s (qO (Q.filter λx=>x.task != w.task)) (some (0,bW [w.value],1)) ⟨w.task,w.op,0,true,w.case⟩ []
 rw[hf]at hw;obtain⟨b1,r1,e1⟩:∃b r,qO (Q.filter λx=>x.task != w.task) = .sl 5 b r:=⟨_,_,rfl⟩
 rw[e1]at hc hd⊢;refine eqv λX hX=>?_
 rw[au vX rfl];simp only[Cl.row,qJ,W.row,GX]at *;simp[hQ,hF,hG,bC,cK,pB,cI,bG,wG,bW,Wk.row]at hw hp hc hd;simp[oH,hQ,hF,bC,cK,cI,eD,bW,Wk.row,hw,hp,hc,hd,aI,az,sub,aD,back,av,aq,ak,cut,bt,an,V.aV,bp,aX,aZ,aM,aN];rw[<-hX];simp[cI,bW,Wk.row]
theorem aq9(sz:Int)(s:S)(c:Cl)(Q:List W)(b:Option (List Int))(w:W)(hn:Q.length<=500)(hb:b.getD []=[])(hf:fW 64 Q=some w):
  ev P (.call pK [.loc 0 0 0,.d (.ag c.row)] (hQ sz s Q b))=some (.val (eD s (qO (Q.filter λx=>x.task != w.task)) b false w.value true 1) (hF sz s (qO (Q.filter λx=>x.task != w.task)) Q b [⟨w.task,w.op,0,true,w.case⟩])):=by
 have hw:=yI sz 64 s Q b (by omega)
 have hc:=JP sz 0 true w s Q b (by omega)
 have hd:=JQ sz w.value true s (qO (Q.filter λx=>x.task != w.task)) (bF b) ⟨w.task,w.op,0,true,w.case⟩ []
 rw[hf]at hw;obtain⟨b1,r1,e1⟩:∃b r,qO (Q.filter λx=>x.task != w.task) = .sl 5 b r:=⟨_,_,rfl⟩
 rw[e1]at hc hd⊢;rw[au vX rfl];simp only[Cl.row,qJ,W.row,GX]at *;cases b with
 |none =>
  simp[hQ,hF,hG,bC,cK,cI,bG,wG,bF,bW,Wk.row]at hw hc hd;simp[oH,hQ,hF,bC,cK,cI,eD,bW,Wk.row,hw,hc,hd,aI,az,sub,aD,back,av,aq,ak,cut,bt,an,V.aV,bp,aX,aZ,aM,aN]
 |some B =>
  obtain rfl:B=[]:=hb;simp[hQ,hF,hG,bC,cK,cI,bG,wG,bF,bW,Wk.row]at hw hc hd;simp[oH,hQ,hF,bC,cK,cI,eD,bW,Wk.row,hw,hc,hd,aI,az,sub,aD,back,av,aq,ak,cut,bt,an,V.aV,bp,aX,aZ,aM,aN]
theorem ara(sz:Int)(s:S)(c:Cl)(Q:List W)(b:Option (List Int))(hn:Q.length<=500)(hb:b.getD []=[])(hf:fW 64 Q=none)(bN:s.cl=true):
  ev P (.call pK [.loc 0 0 0,.d (.ag c.row)] (hQ sz s Q b))=some (.val (cI s (.aQ 1 0 Q.length) (bC 2 b) false 0 false (.d (.sl 5 true []))) (hQ sz s Q b)):=by
 have hw:=yI sz 64 s Q b (by omega)
 rw[hf]at hw;rw[au vX rfl];simp only[Cl.row,qJ,Aw,hQ]at *;cases b with
 |none =>
  have hd:=aq1 sz 0 false s Q (.sl 1 true []);simp[bC,cK,cI,lS,bN]at hw hd;simp[oH,bC,cK,cI,bN,hw,hd,aI,az,sub,aD,back,av,aq,ak,cut,bt,an,V.aV,bp,aX,aZ,aM,aN]
 |some B =>
  obtain rfl:B=[]:=hb;have hd:=GB sz 0 false s Q 0 0 [];simp[bC,cK,cI,lS,bN]at hw hd;simp[oH,bC,cK,cI,bN,hw,hd,aI,az,sub,aD,back,av,aq,ak,cut,bt,an,V.aV,bp,aX,aZ,aM,aN]
theorem arb(sz:Int)(s:S)(c:Cl)(Q:List W)(b:Option (List Int))(hn:Q.length<=500)(hb:b.getD []=[])(hf:fW 64 Q=none)(bN:s.cl=false):
  ev P (.call pK [.loc 0 0 0,.d (.ag c.row)] (hQ sz s Q b))=some (.val (cI s (kV Q.length b) (bC 2 b) true 0 false (.d (.sl 5 true []))) (kH sz s c Q b)):=by
 have hw:=yI sz 64 s Q b (by omega)
 have hp:=aq0 sz s c Q b hn;rw[hf]at hw;rw[au vX rfl];generalize (kW c).row=kr at *;simp only[Cl.row,qJ,Aw,hQ]at *;cases b with
 |none =>
  simp[kH,kV,bC,cK,cI,lS,bN]at hw hp;simp[oH,kH,kV,bC,cK,cI,bN,hw,hp,aI,az,sub,aD,back,av,aq,ak,cut,bt,an,V.aV,bp,aX,aZ,aM,aN]
 |some B =>
  obtain rfl:B=[]:=hb;simp[kH,kV,bC,cK,cI,lS,bN]at hw hp;simp[oH,kH,kV,bC,cK,cI,bN,hw,hp,aI,az,sub,aD,back,av,aq,ak,cut,bt,an,V.aV,bp,aX,aZ,aM,aN]
end Go.VS.Sp
namespace Go.VS.Sp
def hK(sz:Int)(s:S)(q:D)(b:Option (List Int))(l:List Wk):List O :=
 match b with
 |none=>[lS sz s (.d q) (.d (.sl 1 true [])) (.aQ 2 0 l.length),.dead,.aG 5 true (l.map Wk.row)]
 |some B=>[lS sz s (.d q) (.aQ 1 0 B.length) (.aQ 3 0 l.length),.aG 1 true (bW B),.dead,.aG 5 true (l.map Wk.row)]
theorem arc(sz v:Int)(ok:Bool)(w:W)(s:S)(nl:Bool)(Q:List W)(b:Option (List Int))(a:Wk)(l:List Wk)(hn:Q.length<=1000000)(hl:l.length<=500):
  ev P (.call Cy [.loc 0 0 0,.d (.ag w.row),.d (I' v),.d (.b ok)] (hG sz s (qD nl Q) (bF b) (a::l)))=some (.val (.tu []) (hK sz s (qO (Q.filter λx=>x.task != w.task)) b ((a::l)++[⟨w.task,w.op,v,ok,w.case⟩]))):=by
 have hR:=anW nl Q w.task hn;have hr:l.length+1+1<=room:=by unfold room;omega
 rw[au X6 rfl];obtain⟨b1,r1,e1⟩:∃b r,qO (Q.filter λx=>x.task != w.task) = .sl 5 b r:=⟨_,_,rfl⟩
 rw[e1]at hR⊢;refine eqv λX hX=>?_
 simp only[qD]at hR;cases b<;>simp[hK,Wk.row]at hX<;>simp[MG,hG,bF,W.row,Wk.row,hR,hr,aI,az,sub,aD,back,av,aq,ak,cut,bt,an,V.aV,bp,aX,aZ,aM,aN,bk,cG,cz]<;>exact hX
def hZ(sz:Int)(s:S)(q:D)(Q0:List W)(b:Option (List Int))(l:List Wk):List O :=
 match b with
 |none=>[lS sz s (.d q) (.d (.sl 1 true [])) (.aQ 3 0 l.length),.aG 5 false (Q0.map W.row),.aG 13 true [oq],.aG 5 true (l.map Wk.row)]
 |some B=>[lS sz s (.d q) (.aQ 2 0 B.length) (.aQ 4 0 l.length),.aG 5 false (Q0.map W.row),.aG 1 true (bW B),.aG 13 true [oq],.aG 5 true (l.map Wk.row)]
def xw(w:W):Wk:=⟨w.task,w.op,0,false,w.case⟩
def ku:Nat->List W->List Wk
 |n+1,w::T=>xw w::ku n ((w::T).filter λx=>x.task != w.task)
 |_,_=>[]
theorem ard(w:W)(T:List W):((w::T).filter λx=>x.task != w.task).length<=T.length:=by
 rw[List.filter_cons_of_neg (by simp)]
 exact uc _ _
abbrev D0(b:Option (List Int)):Env:=[(0,.loc 0 0 0),(4,.loc (2+(cK b).length) 0 0)]
theorem are(sz:Int)(s:S)(Q0:List W)(b:Option (List Int)):∀(n:Nat)(Q:List W)(a:Wk)(l:List Wk),Q.length<=n->Q.length+l.length<=400 ->
  ev P (.loop (2+(cK b).length) [0,4] rz (D0 b) (hZ sz s (qO Q) Q0 b (a::l)))=some (.out (.exit 0) (D0 b) (hZ sz s (qO []) Q0 b ((a::l)++ku n Q))):=by
 intro n;induction n with
 |zero =>
  intro Q a l h1 h2;obtain rfl:Q=[]:=vC (by omega)
  rw[bT]
  conv=>lhs;arg 4;unfold rz
  cases b<;>simp[hZ,ku,qO,cK,aI,az,sub,aD,back,av,aq,ak,cut,bt,an,V.aV,bp,aX,aZ,aM,aN]
 |succ n ih =>
  intro Q a l h1 h2;cases Q with
  |nil =>
   rw[bT]
   conv=>lhs;arg 4;unfold rz
   cases b<;>simp[hZ,ku,qO,cK,aI,az,sub,aD,back,av,aq,ak,cut,bt,an,V.aV,bp,aX,aZ,aM,aN]
  |cons w T =>
   have hfl:=ard w T;simp only[gX]at h1 h2;have bD:=ih ((w::T).filter λx=>x.task != w.task) a (l++[xw w]) (by omega) (by rw[lT,tY];omega)
   have e:(a::l)++ku (n+1) (w::T)=(a::(l++[xw w]))++ku n ((w::T).filter λx=>x.task != w.task):=by simp[ku]
   rw[e];refine oB ?_ bD;clear bD ih e;have hc:=arc sz 0 false w s false (w::T) b a l (by simp;omega) (by omega)
   obtain⟨b1,r1,e1⟩:∃b r,qO ((w::T).filter λx=>x.task != w.task) = .sl 5 b r:=⟨_,_,rfl⟩
   rw[e1]at hc⊢;have hq:qO (w::T)=qD false (w::T):=rfl;rw[hq];have hlt:(0:Int)<(T.length:Int)+1:=by omega
   cases b with
   |none =>
    simp[hG,hK,bF,W.row,Wk.row]at hc;rw[bT]
    conv=>lhs;arg 4;unfold rz
    simp[hZ,cK,xw,W.row,Wk.row,hc,hlt,aI,az,sub,aD,back,av,aq,ak,cut,bt,an,V.aV,bp,aX,aZ,aM,aN];rfl
   |some B =>
    simp[hG,hK,bF,W.row,Wk.row]at hc;rw[bT]
    conv=>lhs;arg 4;unfold rz
    simp[hZ,cK,xw,W.row,Wk.row,hc,hlt,aI,az,sub,aD,back,av,aq,ak,cut,bt,an,V.aV,bp,aX,aZ,aM,aN];rfl
theorem arf(sz:Int)(s:S)(w:W)(T:List W)(b:Option (List Int))(hn:(w::T).length<=300):
  ev P (.loop (2+(cK b).length) [0,4] rz [(0,.loc 0 0 0),(4,.loc (2+(cK b).length) 0 0)] (hQ sz s (w::T) b++[.aG 13 true [oq]]))=some (.out (.exit 0) (D0 b) (hZ sz s (qO []) (w::T) b (ku (T.length+1) (w::T)))):=by
 have hfl:=ard w T;simp only[gX]at hn;have h1:=are sz s (w::T) b T.length ((w::T).filter λx=>x.task != w.task) (xw w) [] hfl (by rw[lf];omega)
 have e:[xw w]++ku T.length ((w::T).filter λx=>x.task != w.task)=ku (T.length+1) (w::T):=by simp[ku]
 rw[e]at h1;refine oB ?_ h1;clear h1 e;have hc:=JP sz 0 false w s (w::T) b (by simp;omega)
 obtain⟨b1,r1,e1⟩:∃b r,qO ((w::T).filter λx=>x.task != w.task) = .sl 5 b r:=⟨_,_,rfl⟩
 rw[e1]at hc⊢;have hlt:(0:Int)<(T.length:Int)+1:=by omega
 cases b with
 |none =>
  simp[hQ,hF,bC,cK,W.row,Wk.row]at hc;rw[bT]
  conv=>lhs;arg 4;unfold rz
  simp[hQ,hZ,bC,cK,xw,W.row,Wk.row,hc,hlt,aI,az,sub,aD,back,av,aq,ak,cut,bt,an,V.aV,bp,aX,aZ,aM,aN];rfl
 |some B =>
  simp[hQ,hF,bC,cK,W.row,Wk.row]at hc;rw[bT]
  conv=>lhs;arg 4;unfold rz
  simp[hQ,hZ,bC,cK,xw,W.row,Wk.row,hc,hlt,aI,az,sub,aD,back,av,aq,ak,cut,bt,an,V.aV,bp,aX,aZ,aM,aN];rfl
theorem arh(sz:Int)(s:S)(c:Cl)(w:W)(T:List W)(b:Option (List Int))(hn:(w::T).length<=300):
  ev P (.call AM [.loc 0 0 0,.d (.ag c.row)] (hQ sz s (w::T) b)) =
   some (.val (eD {s with cl:=true} (qO []) b false 0 true (ku (T.length+1) (w::T)).length) (hF sz {s with cl:=true} (qO []) (w::T) b (ku (T.length+1) (w::T)))):=by
 have hL:=arf sz {s with cl:=true} w T b (by omega)
 have e:∃a l,ku (T.length+1) (w::T)=a::l:=⟨_,_,rfl⟩;obtain⟨a,l,e⟩:=e;rw[e]at hL⊢;have hd:=JQ sz 0 true {s with cl:=true} (qO []) (bF b) a l;refine eqv λX hX=>?_
 rw[au MW rfl];cases b with
 |none =>
  simp[hQ,hZ,bC,cK,qO,hG,bF,bG,wG,cI,W.row,Wk.row]at hL hd;simp[hF,eD,cI,bC,qO,W.row,Wk.row]at hX;simp[AX,hQ,bC,cK,Cl.row,W.row,hL,hd,aI,az,sub,aD,back,av,aq,ak,cut,bt,an,V.aV,bp,aX,aZ,aM,aN];exact hX
 |some B =>
  simp[hQ,hZ,bC,cK,qO,hG,bF,bG,wG,cI,W.row,Wk.row]at hL hd;simp[hF,eD,cI,bC,qO,W.row,Wk.row]at hX;simp[AX,hQ,bC,cK,Cl.row,W.row,hL,hd,aI,az,sub,aD,back,av,aq,ak,cut,bt,an,V.aV,bp,aX,aZ,aM,aN];exact hX
theorem ari(sz:Int)(s:S)(c:Cl)(b:Option (List Int)):
  ev P (.call AM [.loc 0 0 0,.d (.ag c.row)] (hQ sz s [] b))=some (.val (cI {s with cl:=true} (.aQ 1 0 0) (bC 2 b) false 0 true (.d (.sl 5 true []))) (hQ sz {s with cl:=true} [] b)):=by
 have hL:∀H:List O,H=hQ sz {s with cl:=true} [] b++[.aG 13 true [oq]]->ev P (.loop (2+(cK b).length) [0,4] rz (D0 b) H)=some (.out (.exit 0) (D0 b) H):=by
  intro H hH;subst hH;rw[bT]
  conv=>lhs;arg 4;unfold rz
  cases b<;>simp[hQ,bC,cK,aI,az,sub,aD,back,av,aq,ak,cut,bt,an,V.aV,bp,aX,aZ,aM,aN]
 have hL:=hL _ rfl;refine eqv λX hX=>?_
 rw[au MW rfl];cases b with
 |none =>
  have hd:=aq1 sz 0 true {s with cl:=true} [] (.sl 1 true []);simp[hQ,bC,cK,cI,D0]at hL hd hX;simp[AX,hQ,bC,cK,Cl.row,hL,hd,aI,az,sub,aD,back,av,aq,ak,cut,bt,an,V.aV,bp,aX,aZ,aM,aN];exact hX
 |some B =>
  have hd:=GB sz 0 true {s with cl:=true} [] 0 B.length (bW B);simp[hQ,bC,cK,cI,D0]at hL hd hX;simp[AX,hQ,bC,cK,Cl.row,hL,hd,aI,az,sub,aD,back,av,aq,ak,cut,bt,an,V.aV,bp,aX,aZ,aM,aN];exact hX
end Go.VS.Sp
namespace Go.VS.Sp
theorem arj(sz:Int)(s:S)(c:Cl)(Q:List W)(b:Option (List Int))(w:W)(hn:Q.length<=500)(hf:fW 65 Q=some w):
  ev P (.call AL [.loc 0 0 0,.d (.ag c.row)] (hQ sz s Q b))=some (.val (eD s (qO (Q.filter λx=>x.task != w.task)) b false 0 true 1) (hF sz s (qO (Q.filter λx=>x.task != w.task)) Q b [⟨w.task,w.op,c.value,true,w.case⟩])):=by
 have hS:=aqY sz s c Q b w hn hf;obtain⟨b1,r1,e1⟩:∃b r,qO (Q.filter λx=>x.task != w.task) = .sl 5 b r:=⟨_,_,rfl⟩
 rw[e1]at hS⊢;refine eqv λX hX=>?_
 rw[au H7 rfl];simp only[Cl.row]at *;cases b;all_goals
  simp[hQ,hF,eD,cI,pB,pV,kH,kV,bC,cK,bW,Wk.row]at hS hX;simp[za,hQ,hF,eD,cI,pB,pV,kH,kV,bC,cK,bW,Wk.row,hS,aI,az,sub,aD,back,av,aq,ak,cut,bt,an,V.aV,bp,aX,aZ,aM,aN,bk,cG,cz];exact hX
theorem ark(sz:Int)(s:S)(c:Cl)(Q:List W)(b:Option (List Int))(hn:Q.length<=500)(hb:∀B,b=some B->B.length<=500)(hf:fW 65 Q=none)(hl:((b.getD []).length:Int)<sz):
  ev P (.call AL [.loc 0 0 0,.d (.ag c.row)] (hQ sz s Q b))=some (.val (cI s (.aQ 1 0 Q.length) (pV b) false 0 true (.d (.sl 5 true []))) (pB c.value Q sz s b)):=by
 have hS:=aq2 sz s c Q b hn hb hf hl;refine eqv λX hX=>?_
 rw[au H7 rfl];simp only[Cl.row]at *;cases b;all_goals
  simp[hQ,hF,eD,cI,pB,pV,kH,kV,bC,cK,bW,Wk.row]at hS hX;simp[za,hQ,hF,eD,cI,pB,pV,kH,kV,bC,cK,bW,Wk.row,hS,aI,az,sub,aD,back,av,aq,ak,cut,bt,an,V.aV,bp,aX,aZ,aM,aN,bk,cG,cz];exact hX
theorem arl(sz:Int)(s:S)(c:Cl)(Q:List W)(b:Option (List Int))(hn:Q.length<=500)(hf:fW 65 Q=none)(hl:¬((b.getD []).length:Int)<sz):
  ev P (.call AL [.loc 0 0 0,.d (.ag c.row)] (hQ sz s Q b))=some (.val (cI s (kV Q.length b) (bC 2 b) true 0 false (.d (.sl 5 true []))) (kH sz s c Q b)):=by
 have hS:=aq3 sz s c Q b hn hf hl;refine eqv λX hX=>?_
 rw[au H7 rfl];unfold kH at hS hX;generalize (kW c).row=kr at *;simp only[Cl.row]at *;cases b;all_goals
  simp[hQ,hF,eD,cI,pB,pV,kH,kV,bC,cK,bW,Wk.row]at hS hX;simp[za,hQ,hF,eD,cI,pB,pV,kH,kV,bC,cK,bW,Wk.row,hS,aI,az,sub,aD,back,av,aq,ak,cut,bt,an,V.aV,bp,aX,aZ,aM,aN,bk,cG,cz];exact hX
theorem arn(sz:Int)(s:S)(c:Cl)(Q:List W)(x y:Int)(B:List Int)(hn:Q.length<=500)(hm:B.length<=500)(hf:fW 64 Q=none):
  ev P (.call sw [.loc 0 0 0,.d (.ag c.row)] (hQ sz s Q (some (x::y::B))))=some (.val (cI s (.aQ 1 0 Q.length) (.aQ 2 1 (B.length+1)) false x true (.d (.sl 5 true []))) ([lS sz s (.aQ 1 0 Q.length) (.aQ 2 1 (B.length+1)) (.d (.sl 5 true [])),.aG 5 true (Q.map W.row),.aG 1 true (bW (x::y::B))])):=by
 have hS:=aq4 sz s c Q x y B hn hm hf;refine eqv λX hX=>?_
 rw[au vW rfl];simp only[Cl.row]at *
 skip
 all_goals
  simp[hQ,hF,eD,cI,pB,pV,kH,kV,bC,cK,bW,Wk.row]at hS hX;simp[rq,hQ,hF,eD,cI,pB,pV,kH,kV,bC,cK,bW,Wk.row,hS,aI,az,sub,aD,back,av,aq,ak,cut,bt,an,V.aV,bp,aX,aZ,aM,aN,bk,cG,cz];exact hX
theorem aro(sz:Int)(s:S)(c:Cl)(Q:List W)(x:Int)(hn:Q.length<=500)(hf:fW 64 Q=none):
  ev P (.call sw [.loc 0 0 0,.d (.ag c.row)] (hQ sz s Q (some [x])))=some (.val (cI s (.aQ 1 0 Q.length) (.aQ 3 0 0) false x true (.d (.sl 5 true []))) ([lS sz s (.aQ 1 0 Q.length) (.aQ 3 0 0) (.d (.sl 5 true [])),.aG 5 true (Q.map W.row),.dead,.aG 1 true []])):=by
 have hS:=aq5 sz s c Q x hn hf;refine eqv λX hX=>?_
 rw[au vW rfl];simp only[Cl.row]at *
 skip
 all_goals
  simp[hQ,hF,eD,cI,pB,pV,kH,kV,bC,cK,bW,Wk.row]at hS hX;simp[rq,hQ,hF,eD,cI,pB,pV,kH,kV,bC,cK,bW,Wk.row,hS,aI,az,sub,aD,back,av,aq,ak,cut,bt,an,V.aV,bp,aX,aZ,aM,aN,bk,cG,cz];exact hX
theorem arp(sz:Int)(s:S)(c:Cl)(Q:List W)(x y:Int)(B:List Int)(w:W)(hn:Q.length<=500)(hm:B.length<=400)(hf:fW 64 Q=some w):
  ev P (.call sw [.loc 0 0 0,.d (.ag c.row)] (hQ sz s Q (some (x::y::B))))=some (.val (cI s (.d (qO (Q.filter λx=>x.task != w.task))) (.aQ 3 0 (B.length+2)) false x true (.aQ 4 0 1)) ([lS sz s (.d (qO (Q.filter λx=>x.task != w.task))) (.aQ 3 0 (B.length+2)) (.aQ 4 0 1),.aG 5 false (Q.map W.row),.dead,.aG 1 true (bW (y::B++[w.value])),.aG 5 true [Wk.row ⟨w.task,w.op,0,true,w.case⟩]])):=by
 have hS:=aq7 sz s c Q x y B w hn hm hf;obtain⟨b1,r1,e1⟩:∃b r,qO (Q.filter λx=>x.task != w.task) = .sl 5 b r:=⟨_,_,rfl⟩
 rw[e1]at hS⊢;refine eqv λX hX=>?_
 rw[au vW rfl];simp only[Cl.row]at *
 skip
 all_goals
  simp[hQ,hF,eD,cI,pB,pV,kH,kV,bC,cK,bW,Wk.row]at hS hX;simp[rq,hQ,hF,eD,cI,pB,pV,kH,kV,bC,cK,bW,Wk.row,hS,aI,az,sub,aD,back,av,aq,ak,cut,bt,an,V.aV,bp,aX,aZ,aM,aN,bk,cG,cz];exact hX
theorem arq(sz:Int)(s:S)(c:Cl)(Q:List W)(x:Int)(w:W)(hn:Q.length<=500)(hf:fW 64 Q=some w):
  ev P (.call sw [.loc 0 0 0,.d (.ag c.row)] (hQ sz s Q (some [x])))=some (.val (cI s (.d (qO (Q.filter λx=>x.task != w.task))) (.aQ 3 0 1) false x true (.aQ 4 0 1)) ([lS sz s (.d (qO (Q.filter λx=>x.task != w.task))) (.aQ 3 0 1) (.aQ 4 0 1),.aG 5 false (Q.map W.row),.dead,.aG 1 true [[I' w.value]],.aG 5 true [Wk.row ⟨w.task,w.op,0,true,w.case⟩]])):=by
 have hS:=aq8 sz s c Q x w hn hf;obtain⟨b1,r1,e1⟩:∃b r,qO (Q.filter λx=>x.task != w.task) = .sl 5 b r:=⟨_,_,rfl⟩
 rw[e1]at hS⊢;refine eqv λX hX=>?_
 rw[au vW rfl];simp only[Cl.row]at *
 skip
 all_goals
  simp[hQ,hF,eD,cI,pB,pV,kH,kV,bC,cK,bW,Wk.row]at hS hX;simp[rq,hQ,hF,eD,cI,pB,pV,kH,kV,bC,cK,bW,Wk.row,hS,aI,az,sub,aD,back,av,aq,ak,cut,bt,an,V.aV,bp,aX,aZ,aM,aN,bk,cG,cz];exact hX
theorem ars(sz:Int)(s:S)(c:Cl)(Q:List W)(b:Option (List Int))(w:W)(hn:Q.length<=500)(hb:b.getD []=[])(hf:fW 64 Q=some w):
  ev P (.call sw [.loc 0 0 0,.d (.ag c.row)] (hQ sz s Q b))=some (.val (eD s (qO (Q.filter λx=>x.task != w.task)) b false w.value true 1) (hF sz s (qO (Q.filter λx=>x.task != w.task)) Q b [⟨w.task,w.op,0,true,w.case⟩])):=by
 have hS:=aq9 sz s c Q b w hn hb hf;obtain⟨b1,r1,e1⟩:∃b r,qO (Q.filter λx=>x.task != w.task) = .sl 5 b r:=⟨_,_,rfl⟩
 rw[e1]at hS⊢;refine eqv λX hX=>?_
 rw[au vW rfl];simp only[Cl.row]at *;cases b;all_goals
  simp[hQ,hF,eD,cI,pB,pV,kH,kV,bC,cK,bW,Wk.row]at hS hX;simp[rq,hQ,hF,eD,cI,pB,pV,kH,kV,bC,cK,bW,Wk.row,hS,aI,az,sub,aD,back,av,aq,ak,cut,bt,an,V.aV,bp,aX,aZ,aM,aN,bk,cG,cz];exact hX
theorem art(sz:Int)(s:S)(c:Cl)(Q:List W)(b:Option (List Int))(hn:Q.length<=500)(hb:b.getD []=[])(hf:fW 64 Q=none)(bN:s.cl=true):
  ev P (.call sw [.loc 0 0 0,.d (.ag c.row)] (hQ sz s Q b))=some (.val (cI s (.aQ 1 0 Q.length) (bC 2 b) false 0 false (.d (.sl 5 true []))) (hQ sz s Q b)):=by
 have hS:=ara sz s c Q b hn hb hf bN;refine eqv λX hX=>?_
 rw[au vW rfl];simp only[Cl.row]at *;cases b;all_goals
  simp[hQ,hF,eD,cI,pB,pV,kH,kV,bC,cK,bW,Wk.row]at hS hX;simp[rq,hQ,hF,eD,cI,pB,pV,kH,kV,bC,cK,bW,Wk.row,hS,aI,az,sub,aD,back,av,aq,ak,cut,bt,an,V.aV,bp,aX,aZ,aM,aN,bk,cG,cz];exact hX
theorem aru(sz:Int)(s:S)(c:Cl)(Q:List W)(b:Option (List Int))(hn:Q.length<=500)(hb:b.getD []=[])(hf:fW 64 Q=none)(bN:s.cl=false):
  ev P (.call sw [.loc 0 0 0,.d (.ag c.row)] (hQ sz s Q b))=some (.val (cI s (kV Q.length b) (bC 2 b) true 0 false (.d (.sl 5 true []))) (kH sz s c Q b)):=by
 have hS:=arb sz s c Q b hn hb hf bN;refine eqv λX hX=>?_
 rw[au vW rfl];unfold kH at hS hX;generalize (kW c).row=kr at *;simp only[Cl.row]at *;cases b;all_goals
  simp[hQ,hF,eD,cI,pB,pV,kH,kV,bC,cK,bW,Wk.row]at hS hX;simp[rq,hQ,hF,eD,cI,pB,pV,kH,kV,bC,cK,bW,Wk.row,hS,aI,az,sub,aD,back,av,aq,ak,cut,bt,an,V.aV,bp,aX,aZ,aM,aN,bk,cG,cz];exact hX
theorem arv(sz:Int)(s:S)(c:Cl)(w:W)(T:List W)(b:Option (List Int))(hn:(w::T).length<=300):
  ev P (.call Cx [.loc 0 0 0,.d (.ag c.row)] (hQ sz s (w::T) b))=some (.val (eD {s with cl:=true} (qO []) b false 0 true (ku (T.length+1) (w::T)).length) (hF sz {s with cl:=true} (qO []) (w::T) b (ku (T.length+1) (w::T)))):=by
 have hS:=arh sz s c w T b hn;have hne:∃a l,ku (T.length+1) (w::T)=a::l:=⟨_,_,rfl⟩;obtain⟨a,l,hne⟩:=hne;rw[hne]at hS⊢;refine eqv λX hX=>?_
 rw[au MU rfl];simp only[Cl.row]at *;cases b;all_goals
  simp[hQ,hF,qO,W.row,eD,cI,pB,pV,kH,kV,bC,cK,bW,Wk.row]at hS hX;simp[E1,hQ,hF,qO,W.row,eD,cI,pB,pV,kH,kV,bC,cK,bW,Wk.row,hS,aI,az,sub,aD,back,av,aq,ak,cut,bt,an,V.aV,bp,aX,aZ,aM,aN,bk,cG,cz];exact hX
theorem arw(sz:Int)(s:S)(c:Cl)(b:Option (List Int)):
  ev P (.call Cx [.loc 0 0 0,.d (.ag c.row)] (hQ sz s [] b))=some (.val (cI {s with cl:=true} (.aQ 1 0 0) (bC 2 b) false 0 true (.d (.sl 5 true []))) (hQ sz {s with cl:=true} [] b)):=by
 have hS:=ari sz s c b;refine eqv λX hX=>?_
 rw[au MU rfl];simp only[Cl.row]at *;cases b;all_goals
  simp[hQ,hF,eD,cI,pB,pV,kH,kV,bC,cK,bW,Wk.row,lS]at hS hX;simp[E1,hQ,hF,eD,cI,pB,pV,kH,kV,bC,cK,bW,Wk.row,hS,aI,az,sub,aD,back,av,aq,ak,cut,bt,an,V.aV,bp,aX,aZ,aM,aN,bk,cG,cz];exact hX
end Go.VS.Sp
namespace Go.VS.Sp
theorem JR{s:S}(hw:s.wf):(jt s).getD []=s.B:=by
 unfold jt;cases h:s.bn
 .rfl
 .rw[aK rfl,hw.b h];rfl
theorem arx{s:S}(hm:s.B.length<=250):∀B,jt s=some B->B.length<=500:=by
 intro B h;unfold jt at h;split at h
 .cases h
 .simp at h;rw[<-h];omega
set_option maxHeartbeats 4000000 in
theorem ary(nm:D)(k sz ot:Int)(s:S)(c:Cl)(hw:s.wf)(hq:s.qn=false)(hn:s.Q.length<=250)(hm:s.B.length<=250)(bS:ev P (.call gr [.d (.ag [nm,I' k,I' sz,I' ot]),.d (.ag s.row)] [])=some (.val (.d (I' 0)) []))(hb:cC c=false)(ht:gQ s c.task=false)(ho:c.op=64)(mM:num c.value=true)(bN:s.cl=false)(w:W)(hf:fW 65 s.Q=some w):
  ev P (.call iM [.d (.ag [nm,I' k,I' sz,I' ot]),.d (.ag s.row),.d (.ag c.row)] [])=some (.val (.tu [.d (.ag (Ry.row ⟨{s with qn:=decide ((s.Q.filter λx=>x.task != w.task)=[]),Q:=(s.Q.filter λx=>x.task != w.task)},false,0,true,false,[⟨w.task,w.op,c.value,true,w.case⟩]⟩)),.d (I' 0)]) []):=by
 obtain⟨fi,dj⟩:=p5 s c.task (by omega)
 rw[ht]at dj;have hop:=kT;have hcb:=kX c;rw[hb]at hcb;have cO:=vo nm k sz ot s hw hq (by omega) (by omega)
 have o:=arj sz s c s.Q (jt s) w (by omega) hf
 obtain⟨b1,r1,e1⟩:∃b r,qO (s.Q.filter λx=>x.task != w.task) = .sl 5 b r:=⟨_,_,rfl⟩
 have e2:qD (decide ((s.Q.filter λx=>x.task != w.task)=[])) (s.Q.filter λx=>x.task != w.task) = .sl 5 b1 r1:=e1
 rw[e1]at o;simp only[Ry.row,e2];rw[au ke rfl];simp only[S.row,Cl.row,Ry.row,hq,bN,ho]at bS dj hcb cO o⊢;unfold jt at cO o;cases cJ:s.bn;all_goals
  rw[cJ]at cO o;simp only[cJ]at bS⊢;simp[hQ,hF,eD,cI,pB,pV,kH,kV,bC,cK,bW,Wk.row,W.row,lS,bN,ho]at cO o;simp[jm, j0,j3,kU,hQ,hF,eD,cI,pB,pV,kH,kV,bC,cK,bW,Wk.row,W.row,lS,bN,mM,bS,dj,hop,hcb,cO,o,aI,az,sub,aD,back,av,aq,ak,cut,bt,an,V.aV,bp,aX,aZ,aM,aN,bk,cG,cz,o8];try exact hw.b cJ
set_option maxHeartbeats 4000000 in
theorem arz(nm:D)(k sz ot:Int)(s:S)(c:Cl)(hw:s.wf)(hq:s.qn=false)(hn:s.Q.length<=250)(hm:s.B.length<=250)(bS:ev P (.call gr [.d (.ag [nm,I' k,I' sz,I' ot]),.d (.ag s.row)] [])=some (.val (.d (I' 0)) []))(hb:cC c=false)(ht:gQ s c.task=false)(ho:c.op=64)(mM:num c.value=true)(bN:s.cl=false)(hf:fW 65 s.Q=none)(hl:(s.B.length:Int)<sz):
  ev P (.call iM [.d (.ag [nm,I' k,I' sz,I' ot]),.d (.ag s.row),.d (.ag c.row)] [])=some (.val (.tu [.d (.ag (Ry.row ⟨{s with bn:=false,B:=s.B++[c.value]},false,0,true,true,[]⟩)),.d (I' 0)]) []):=by
 obtain⟨fi,dj⟩:=p5 s c.task (by omega)
 rw[ht]at dj;have hop:=kT;have hcb:=kX c;rw[hb]at hcb;have cO:=vo nm k sz ot s hw hq (by omega) (by omega)
 have o:=ark sz s c s.Q (jt s) (by omega) (arx hm) hf (by rw[JR hw];exact hl)
 rw[au ke rfl];simp only[S.row,Cl.row,Ry.row,hq,bN,ho]at bS dj hcb cO o⊢;unfold jt at cO o;cases cJ:s.bn;all_goals
  rw[cJ]at cO o;simp only[cJ]at bS⊢;simp[hQ,hF,eD,cI,pB,pV,kH,kV,bC,cK,bW,Wk.row,W.row,lS,bN,ho]at cO o;simp[jm, j0,j3,kU,hQ,hF,eD,cI,pB,pV,kH,kV,bC,cK,bW,Wk.row,W.row,lS,bN,mM,bS,dj,hop,hcb,cO,o,aI,az,sub,aD,back,av,aq,ak,cut,bt,an,V.aV,bp,aX,aZ,aM,aN,bk,cG,cz,o8];try exact hw.b cJ
set_option maxHeartbeats 4000000 in
theorem arA(nm:D)(k sz ot:Int)(s:S)(c:Cl)(hw:s.wf)(hq:s.qn=false)(hn:s.Q.length<=250)(hm:s.B.length<=250)(bS:ev P (.call gr [.d (.ag [nm,I' k,I' sz,I' ot]),.d (.ag s.row)] [])=some (.val (.d (I' 0)) []))(hb:cC c=false)(ht:gQ s c.task=false)(ho:c.op=64)(mM:num c.value=true)(bN:s.cl=false)(hf:fW 65 s.Q=none)(hl:¬(s.B.length:Int)<sz):
  ev P (.call iM [.d (.ag [nm,I' k,I' sz,I' ot]),.d (.ag s.row),.d (.ag c.row)] [])=some (.val (.tu [.d (.ag (Ry.row ⟨{s with qn:=false,Q:=s.Q++[kW c]},true,0,false,true,[]⟩)),.d (I' 0)]) []):=by
 obtain⟨fi,dj⟩:=p5 s c.task (by omega)
 rw[ht]at dj;have hop:=kT;have hcb:=kX c;rw[hb]at hcb;have cO:=vo nm k sz ot s hw hq (by omega) (by omega)
 have o:=arl sz s c s.Q (jt s) (by omega) hf (by rw[JR hw];exact hl)
 rw[au ke rfl];unfold kH at o;have hk:(kW c).row=[I' c.task,I' c.op,I' (if c.op=64 then c.value else 0),I' c.prio,I' (-1)]:=rfl
 rw[hk]at o;simp only[S.row,Cl.row,Ry.row,hq,bN,ho]at bS dj hcb cO o⊢;unfold jt at cO o;cases cJ:s.bn;all_goals
  rw[cJ]at cO o;simp only[cJ]at bS⊢;simp[hQ,hF,eD,cI,pB,pV,kH,kV,bC,cK,bW,Wk.row,W.row,lS,kW,bN,ho]at cO o;simp[jm, j0,j3,kU,hQ,hF,eD,cI,pB,pV,kH,kV,bC,cK,bW,Wk.row,W.row,lS,kW,bN,mM,bS,dj,hop,hcb,cO,o,aI,az,sub,aD,back,av,aq,ak,cut,bt,an,V.aV,bp,aX,aZ,aM,aN,bk,cG,cz,o8];try exact hw.b cJ
  try simp[ho]
  try exact hw.b cJ
set_option maxHeartbeats 4000000 in
theorem arB(nm:D)(k sz ot:Int)(s:S)(c:Cl)(hw:s.wf)(hq:s.qn=false)(hn:s.Q.length<=250)(hm:s.B.length<=250)(bS:ev P (.call gr [.d (.ag [nm,I' k,I' sz,I' ot]),.d (.ag s.row)] [])=some (.val (.d (I' 0)) []))(hb:cC c=false)(ht:gQ s c.task=false)(ho:c.op=65)(x y:Int)(B:List Int)(hB:s.B=x::y::B)(hf:fW 64 s.Q=none):
  ev P (.call iM [.d (.ag [nm,I' k,I' sz,I' ot]),.d (.ag s.row),.d (.ag c.row)] [])=some (.val (.tu [.d (.ag (Ry.row ⟨{s with B:=y::B},false,x,true,true,[]⟩)),.d (I' 0)]) []):=by
 obtain⟨fi,dj⟩:=p5 s c.task (by omega)
 rw[ht]at dj;have hop:=kT;have hcb:=kX c;rw[hb]at hcb;have cO:=vo nm k sz ot s hw hq (by omega) (by omega)
 have o:=arn sz s c s.Q x y B (by omega) (by rw[hB]at hm;simp at hm;omega) hf
 have cJ:s.bn=false:=by
  cases h:s.bn
  .rfl
  .have:=hw.b h;rw[hB]at this;simp at this
 have zT:jt s=some s.B:=by unfold jt;rw[cJ,aE (by simp)]
 rw[zT]at cO;rw[au ke rfl];simp only[S.row,Cl.row,Ry.row,hq,hB,cJ,ho]at bS dj hcb cO o⊢;simp[hQ,hF,eD,cI,pB,pV,kH,kV,bC,cK,bW,Wk.row,W.row,lS,hB,ho]at cO o;have h9:1+(B.length+1)<=B.length+1+1:=by omega
 simp[jm,h9, j0,j3,kU,hQ,hF,eD,cI,pB,pV,kH,kV,bC,cK,bW,Wk.row,W.row,lS,hB,bS,dj,hop,hcb,cO,o,aI,az,sub,aD,back,av,aq,ak,cut,bt,an,V.aV,bp,aX,aZ,aM,aN,bk,cG,cz,o8]
set_option maxHeartbeats 4000000 in
theorem arC(nm:D)(k sz ot:Int)(s:S)(c:Cl)(hw:s.wf)(hq:s.qn=false)(hn:s.Q.length<=250)(hm:s.B.length<=250)(bS:ev P (.call gr [.d (.ag [nm,I' k,I' sz,I' ot]),.d (.ag s.row)] [])=some (.val (.d (I' 0)) []))(hb:cC c=false)(ht:gQ s c.task=false)(ho:c.op=65)(x:Int)(hB:s.B=[x])(hf:fW 64 s.Q=none):
  ev P (.call iM [.d (.ag [nm,I' k,I' sz,I' ot]),.d (.ag s.row),.d (.ag c.row)] [])=some (.val (.tu [.d (.ag (Ry.row ⟨{s with B:=[]},false,x,true,true,[]⟩)),.d (I' 0)]) []):=by
 obtain⟨fi,dj⟩:=p5 s c.task (by omega)
 rw[ht]at dj;have hop:=kT;have hcb:=kX c;rw[hb]at hcb;have cO:=vo nm k sz ot s hw hq (by omega) (by omega)
 have o:=aro sz s c s.Q x (by omega) hf
 have cJ:s.bn=false:=by
  cases h:s.bn
  .rfl
  .have:=hw.b h;rw[hB]at this;simp at this
 have zT:jt s=some s.B:=by unfold jt;rw[cJ,aE (by simp)]
 rw[zT]at cO;rw[au ke rfl];simp only[S.row,Cl.row,Ry.row,hq,hB,cJ,ho]at bS dj hcb cO o⊢;simp[hQ,hF,eD,cI,pB,pV,kH,kV,bC,cK,bW,Wk.row,W.row,lS,hB,ho]at cO o;simp[jm, j0,j3,kU,hQ,hF,eD,cI,pB,pV,kH,kV,bC,cK,bW,Wk.row,W.row,lS,hB,bS,dj,hop,hcb,cO,o,aI,az,sub,aD,back,av,aq,ak,cut,bt,an,V.aV,bp,aX,aZ,aM,aN,bk,cG,cz,o8]
set_option maxHeartbeats 4000000 in
theorem arD(nm:D)(k sz ot:Int)(s:S)(c:Cl)(hw:s.wf)(hq:s.qn=false)(hn:s.Q.length<=250)(hm:s.B.length<=250)(bS:ev P (.call gr [.d (.ag [nm,I' k,I' sz,I' ot]),.d (.ag s.row)] [])=some (.val (.d (I' 0)) []))(hb:cC c=false)(ht:gQ s c.task=false)(ho:c.op=65)(x y:Int)(B:List Int)(w:W)(hB:s.B=x::y::B)(hf:fW 64 s.Q=some w):
  ev P (.call iM [.d (.ag [nm,I' k,I' sz,I' ot]),.d (.ag s.row),.d (.ag c.row)] [])=some (.val (.tu [.d (.ag (Ry.row ⟨{s with B:=y::B++[w.value],qn:=decide ((s.Q.filter λx=>x.task != w.task)=[]),Q:=(s.Q.filter λx=>x.task != w.task)},false,x,true,false,[⟨w.task,w.op,0,true,w.case⟩]⟩)),.d (I' 0)]) []):=by
 obtain⟨fi,dj⟩:=p5 s c.task (by omega)
 rw[ht]at dj;have hop:=kT;have hcb:=kX c;rw[hb]at hcb;have cO:=vo nm k sz ot s hw hq (by omega) (by omega)
 have o:=arp sz s c s.Q x y B w (by omega) (by rw[hB]at hm;simp at hm;omega) hf
 have cJ:s.bn=false:=by
  cases h:s.bn
  .rfl
  .have:=hw.b h;rw[hB]at this;simp at this
 have zT:jt s=some s.B:=by unfold jt;rw[cJ,aE (by simp)]
 rw[zT]at cO;obtain⟨b1,r1,e1⟩:∃b r,qO (s.Q.filter λx=>x.task != w.task) = .sl 5 b r:=⟨_,_,rfl⟩
 have e2:qD (decide ((s.Q.filter λx=>x.task != w.task)=[])) (s.Q.filter λx=>x.task != w.task) = .sl 5 b1 r1:=e1
 rw[e1]at o;simp only[Ry.row,e2];rw[au ke rfl];simp only[S.row,Cl.row,Ry.row,hq,hB,cJ,ho]at bS dj hcb cO o⊢;simp[hQ,hF,eD,cI,pB,pV,kH,kV,bC,cK,bW,Wk.row,W.row,lS,hB,ho]at cO o;simp[jm, j0,j3,kU,hQ,hF,eD,cI,pB,pV,kH,kV,bC,cK,bW,Wk.row,W.row,lS,hB,bS,dj,hop,hcb,cO,o,aI,az,sub,aD,back,av,aq,ak,cut,bt,an,V.aV,bp,aX,aZ,aM,aN,bk,cG,cz,o8]
set_option maxHeartbeats 4000000 in
theorem arE(nm:D)(k sz ot:Int)(s:S)(c:Cl)(hw:s.wf)(hq:s.qn=false)(hn:s.Q.length<=250)(hm:s.B.length<=250)(bS:ev P (.call gr [.d (.ag [nm,I' k,I' sz,I' ot]),.d (.ag s.row)] [])=some (.val (.d (I' 0)) []))(hb:cC c=false)(ht:gQ s c.task=false)(ho:c.op=65)(x:Int)(w:W)(hB:s.B=[x])(hf:fW 64 s.Q=some w):
  ev P (.call iM [.d (.ag [nm,I' k,I' sz,I' ot]),.d (.ag s.row),.d (.ag c.row)] [])=some (.val (.tu [.d (.ag (Ry.row ⟨{s with B:=[w.value],qn:=decide ((s.Q.filter λx=>x.task != w.task)=[]),Q:=(s.Q.filter λx=>x.task != w.task)},false,x,true,false,[⟨w.task,w.op,0,true,w.case⟩]⟩)),.d (I' 0)]) []):=by
 obtain⟨fi,dj⟩:=p5 s c.task (by omega)
 rw[ht]at dj;have hop:=kT;have hcb:=kX c;rw[hb]at hcb;have cO:=vo nm k sz ot s hw hq (by omega) (by omega)
 have o:=arq sz s c s.Q x w (by omega) hf
 have cJ:s.bn=false:=by
  cases h:s.bn
  .rfl
  .have:=hw.b h;rw[hB]at this;simp at this
 have zT:jt s=some s.B:=by unfold jt;rw[cJ,aE (by simp)]
 rw[zT]at cO;obtain⟨b1,r1,e1⟩:∃b r,qO (s.Q.filter λx=>x.task != w.task) = .sl 5 b r:=⟨_,_,rfl⟩
 have e2:qD (decide ((s.Q.filter λx=>x.task != w.task)=[])) (s.Q.filter λx=>x.task != w.task) = .sl 5 b1 r1:=e1
 rw[e1]at o;simp only[Ry.row,e2];rw[au ke rfl];simp only[S.row,Cl.row,Ry.row,hq,hB,cJ,ho]at bS dj hcb cO o⊢;simp[hQ,hF,eD,cI,pB,pV,kH,kV,bC,cK,bW,Wk.row,W.row,lS,hB,ho]at cO o;simp[jm, j0,j3,kU,hQ,hF,eD,cI,pB,pV,kH,kV,bC,cK,bW,Wk.row,W.row,lS,hB,bS,dj,hop,hcb,cO,o,aI,az,sub,aD,back,av,aq,ak,cut,bt,an,V.aV,bp,aX,aZ,aM,aN,bk,cG,cz,o8]
set_option maxHeartbeats 4000000 in
theorem arF(nm:D)(k sz ot:Int)(s:S)(c:Cl)(hw:s.wf)(hq:s.qn=false)(hn:s.Q.length<=250)(hm:s.B.length<=250)(bS:ev P (.call gr [.d (.ag [nm,I' k,I' sz,I' ot]),.d (.ag s.row)] [])=some (.val (.d (I' 0)) []))(hb:cC c=false)(ht:gQ s c.task=false)(ho:c.op=65)(w:W)(hB:s.B=[])(hf:fW 64 s.Q=some w):
  ev P (.call iM [.d (.ag [nm,I' k,I' sz,I' ot]),.d (.ag s.row),.d (.ag c.row)] [])=some (.val (.tu [.d (.ag (Ry.row ⟨{s with qn:=decide ((s.Q.filter λx=>x.task != w.task)=[]),Q:=(s.Q.filter λx=>x.task != w.task)},false,w.value,true,false,[⟨w.task,w.op,0,true,w.case⟩]⟩)),.d (I' 0)]) []):=by
 obtain⟨fi,dj⟩:=p5 s c.task (by omega)
 rw[ht]at dj;have hop:=kT;have hcb:=kX c;rw[hb]at hcb;have cO:=vo nm k sz ot s hw hq (by omega) (by omega)
 have o:=ars sz s c s.Q (jt s) w (by omega) (by rw[JR hw];exact hB) hf
 obtain⟨b1,r1,e1⟩:∃b r,qO (s.Q.filter λx=>x.task != w.task) = .sl 5 b r:=⟨_,_,rfl⟩
 have e2:qD (decide ((s.Q.filter λx=>x.task != w.task)=[])) (s.Q.filter λx=>x.task != w.task) = .sl 5 b1 r1:=e1
 rw[e1]at o;simp only[Ry.row,e2];rw[au ke rfl];simp only[S.row,Cl.row,Ry.row,hq,hB,ho]at bS dj hcb cO o⊢;unfold jt at cO o;cases cJ:s.bn;all_goals
  rw[cJ]at cO o;simp only[cJ]at bS⊢;simp[hQ,hF,eD,cI,pB,pV,kH,kV,bC,cK,bW,Wk.row,W.row,lS,hB,ho]at cO o;simp[jm, j0,j3,kU,hQ,hF,eD,cI,pB,pV,kH,kV,bC,cK,bW,Wk.row,W.row,lS,hB,bS,dj,hop,hcb,cO,o,aI,az,sub,aD,back,av,aq,ak,cut,bt,an,V.aV,bp,aX,aZ,aM,aN,bk,cG,cz,o8];try exact hw.b cJ
set_option maxHeartbeats 4000000 in
theorem arG(nm:D)(k sz ot:Int)(s:S)(c:Cl)(hw:s.wf)(hq:s.qn=false)(hn:s.Q.length<=250)(hm:s.B.length<=250)(bS:ev P (.call gr [.d (.ag [nm,I' k,I' sz,I' ot]),.d (.ag s.row)] [])=some (.val (.d (I' 0)) []))(hb:cC c=false)(ht:gQ s c.task=false)(ho:c.op=65)(hB:s.B=[])(hf:fW 64 s.Q=none)(bN:s.cl=true):
  ev P (.call iM [.d (.ag [nm,I' k,I' sz,I' ot]),.d (.ag s.row),.d (.ag c.row)] [])=some (.val (.tu [.d (.ag (Ry.row ⟨s,false,0,false,true,[]⟩)),.d (I' 0)]) []):=by
 obtain⟨fi,dj⟩:=p5 s c.task (by omega)
 rw[ht]at dj;have hop:=kT;have hcb:=kX c;rw[hb]at hcb;have cO:=vo nm k sz ot s hw hq (by omega) (by omega)
 have o:=art sz s c s.Q (jt s) (by omega) (by rw[JR hw];exact hB) hf bN
 rw[au ke rfl];simp only[S.row,Cl.row,Ry.row,hq,hB,bN,ho]at bS dj hcb cO o⊢;unfold jt at cO o;cases cJ:s.bn;all_goals
  rw[cJ]at cO o;simp only[cJ]at bS⊢;simp[hQ,hF,eD,cI,pB,pV,kH,kV,bC,cK,bW,Wk.row,W.row,lS,hB,bN,ho]at cO o;simp[jm, j0,j3,kU,hQ,hF,eD,cI,pB,pV,kH,kV,bC,cK,bW,Wk.row,W.row,lS,hB,bN,bS,dj,hop,hcb,cO,o,aI,az,sub,aD,back,av,aq,ak,cut,bt,an,V.aV,bp,aX,aZ,aM,aN,bk,cG,cz,o8];try exact hw.b cJ
set_option maxHeartbeats 4000000 in
theorem arH(nm:D)(k sz ot:Int)(s:S)(c:Cl)(hw:s.wf)(hq:s.qn=false)(hn:s.Q.length<=250)(hm:s.B.length<=250)(bS:ev P (.call gr [.d (.ag [nm,I' k,I' sz,I' ot]),.d (.ag s.row)] [])=some (.val (.d (I' 0)) []))(hb:cC c=false)(ht:gQ s c.task=false)(ho:c.op=65)(hB:s.B=[])(hf:fW 64 s.Q=none)(bN:s.cl=false):
  ev P (.call iM [.d (.ag [nm,I' k,I' sz,I' ot]),.d (.ag s.row),.d (.ag c.row)] [])=some (.val (.tu [.d (.ag (Ry.row ⟨{s with qn:=false,Q:=s.Q++[kW c]},true,0,false,true,[]⟩)),.d (I' 0)]) []):=by
 obtain⟨fi,dj⟩:=p5 s c.task (by omega)
 rw[ht]at dj;have hop:=kT;have hcb:=kX c;rw[hb]at hcb;have cO:=vo nm k sz ot s hw hq (by omega) (by omega)
 have o:=aru sz s c s.Q (jt s) (by omega) (by rw[JR hw];exact hB) hf bN
 rw[au ke rfl];unfold kH at o;have hk:(kW c).row=[I' c.task,I' c.op,I' (if c.op=64 then c.value else 0),I' c.prio,I' (-1)]:=rfl
 rw[hk]at o;simp only[S.row,Cl.row,Ry.row,hq,hB,bN,ho]at bS dj hcb cO o⊢;unfold jt at cO o;cases cJ:s.bn;all_goals
  rw[cJ]at cO o;simp only[cJ]at bS⊢;simp[hQ,hF,eD,cI,pB,pV,kH,kV,bC,cK,bW,Wk.row,W.row,lS,kW,hB,bN,ho]at cO o;simp[jm, j0,j3,kU,hQ,hF,eD,cI,pB,pV,kH,kV,bC,cK,bW,Wk.row,W.row,lS,kW,hB,bN,bS,dj,hop,hcb,cO,o,aI,az,sub,aD,back,av,aq,ak,cut,bt,an,V.aV,bp,aX,aZ,aM,aN,bk,cG,cz,o8];try exact hw.b cJ
  try simp[ho]
  try exact hw.b cJ
set_option maxHeartbeats 4000000 in
theorem arI(nm:D)(k sz ot:Int)(s:S)(c:Cl)(hw:s.wf)(hq:s.qn=false)(hn:s.Q.length<=250)(hm:s.B.length<=250)(bS:ev P (.call gr [.d (.ag [nm,I' k,I' sz,I' ot]),.d (.ag s.row)] [])=some (.val (.d (I' 0)) []))(hb:cC c=false)(ht:gQ s c.task=false)(ho:c.op=66)(bN:s.cl=false)(w:W)(T:List W)(BW:s.Q=w::T):
  ev P (.call iM [.d (.ag [nm,I' k,I' sz,I' ot]),.d (.ag s.row),.d (.ag c.row)] [])=some (.val (.tu [.d (.ag (Ry.row ⟨{s with cl:=true,qn:=true,Q:=[]},false,0,true,false,ku (T.length+1) (w::T)⟩)),.d (I' 0)]) []):=by
 obtain⟨fi,dj⟩:=p5 s c.task (by omega)
 rw[ht]at dj;have hop:=kT;have hcb:=kX c;rw[hb]at hcb;have cO:=vo nm k sz ot s hw hq (by omega) (by omega)
 have o:=arv sz s c w T (jt s) (by rw[BW]at hn;simp at hn⊢;omega)
 have hne:∃a l,ku (T.length+1) (w::T)=a::l:=⟨_,_,rfl⟩;obtain⟨a,l,hne⟩:=hne;rw[hne]at o⊢;rw[au ke rfl];simp only[S.row,Cl.row,Ry.row,hq,BW,bN,ho]at bS dj hcb cO o⊢;unfold jt at cO o;cases cJ:s.bn;all_goals
  rw[cJ]at cO o;simp only[cJ]at bS⊢;simp[hQ,hF,eD,cI,pB,pV,kH,kV,bC,cK,bW,Wk.row,W.row,lS,qO,BW,bN,ho]at cO o;simp[jm, j0,j3,kU,hQ,hF,eD,cI,pB,pV,kH,kV,bC,cK,bW,Wk.row,W.row,lS,qO,BW,bN,bS,dj,hop,hcb,cO,o,aI,az,sub,aD,back,av,aq,ak,cut,bt,an,V.aV,bp,aX,aZ,aM,aN,bk,cG,cz,o8];try exact hw.b cJ
set_option maxHeartbeats 4000000 in
theorem arJ(nm:D)(k sz ot:Int)(s:S)(c:Cl)(hw:s.wf)(hq:s.qn=false)(hn:s.Q.length<=250)(hm:s.B.length<=250)(bS:ev P (.call gr [.d (.ag [nm,I' k,I' sz,I' ot]),.d (.ag s.row)] [])=some (.val (.d (I' 0)) []))(hb:cC c=false)(ht:gQ s c.task=false)(ho:c.op=66)(bN:s.cl=false)(BW:s.Q=[]):
  ev P (.call iM [.d (.ag [nm,I' k,I' sz,I' ot]),.d (.ag s.row),.d (.ag c.row)] [])=some (.val (.tu [.d (.ag (Ry.row ⟨{s with cl:=true},false,0,true,true,[]⟩)),.d (I' 0)]) []):=by
 obtain⟨fi,dj⟩:=p5 s c.task (by omega)
 rw[ht]at dj;have hop:=kT;have hcb:=kX c;rw[hb]at hcb;have cO:=vo nm k sz ot s hw hq (by omega) (by omega)
 have o:=arw sz s c (jt s);rw[au ke rfl];simp only[S.row,Cl.row,Ry.row,hq,BW,bN,ho]at bS dj hcb cO o⊢;unfold jt at cO o;cases cJ:s.bn;all_goals
  rw[cJ]at cO o;simp only[cJ]at bS⊢;simp[hQ,hF,eD,cI,pB,pV,kH,kV,bC,cK,bW,Wk.row,W.row,lS,BW,bN,ho]at cO o;simp[jm, j0,j3,kU,hQ,hF,eD,cI,pB,pV,kH,kV,bC,cK,bW,Wk.row,W.row,lS,BW,bN,bS,dj,hop,hcb,cO,o,aI,az,sub,aD,back,av,aq,ak,cut,bt,an,V.aV,bp,aX,aZ,aM,aN,bk,cG,cz,o8];try exact hw.b cJ
end Go.VS.Sp
namespace Go.VS.Sp
set_option maxHeartbeats 4000000 in
theorem arK(nm:D)(k sz ot:Int)(s:S)(c:Cl)(hm:s.B.length<=250)(bS:ev P (.call gr [.d (.ag [nm,I' k,I' sz,I' ot]),.d (.ag (s.ab true).row)] [])=some (.val (.d (I' 0)) []))(hb:cC c=false)(ho:c.op=64)(mM:num c.value=true)(bN:s.cl=false)(cJ:s.bn=false)(hl:(s.B.length:Int)<sz):
  ev P (.call iM [.d (.ag [nm,I' k,I' sz,I' ot]),.d (.ag (s.ab true).row),.d (.ag c.row)] [])=some (.val (.tu [.d (.ag (Ry.row ⟨{s.ab true with bn:=false,B:=s.B++[c.value]},false,0,true,true,[]⟩)),.d (I' 0)]) []):=by
 have dj:ev P (.call iU [.d (qD true []),.d (I' c.task)] [])=some (.val (.tu [.d (I' 0),.d (.b false)]) []):=lD true [] c.task (by simp)
 have hop:=kT;have hcb:=kX c;rw[hb]at hcb;have cO:=DK nm k sz ot s cJ (by omega)
 have o:=ano sz s c s.B.length (bW s.B) (by simp) (by omega)
 rw[Vg sz s c s.B.length (bW s.B) (by simp) (by omega),aK hl]at o
 rw[au ke rfl];simp only[lA,lN,lB,lV,m8,tL,S.ab,S.row,Cl.row,Ry.row,qD,gq,fT,lf,gX,bN,cJ,ho]at bS dj hcb cO o⊢;simp[jm,j0,j3,kU,bN,mM,bS,dj,hop,hcb,cO,o,aI,az,sub,aD,back,av,aq,ak,cut,bt,an,V.aV,bp,aX,aZ,aM,aN,bk,cG,cz];exact gE (by simp[bW])
set_option maxHeartbeats 4000000 in
theorem arL(nm:D)(k sz ot:Int)(s:S)(c:Cl)(hm:s.B.length<=250)(bS:ev P (.call gr [.d (.ag [nm,I' k,I' sz,I' ot]),.d (.ag (s.ab true).row)] [])=some (.val (.d (I' 0)) []))(hb:cC c=false)(ho:c.op=64)(mM:num c.value=true)(bN:s.cl=false)(cJ:s.bn=false)(hl:¬(s.B.length:Int)<sz):
  ev P (.call iM [.d (.ag [nm,I' k,I' sz,I' ot]),.d (.ag (s.ab true).row),.d (.ag c.row)] [])=some (.val (.tu [.d (.ag (Ry.row ⟨{s.ab true with qn:=false,Q:=[kW c]},true,0,false,true,[]⟩)),.d (I' 0)]) []):=by
 have dj:ev P (.call iU [.d (qD true []),.d (I' c.task)] [])=some (.val (.tu [.d (I' 0),.d (.b false)]) []):=lD true [] c.task (by simp)
 have hop:=kT;have hcb:=kX c;rw[hb]at hcb;have cO:=DK nm k sz ot s cJ (by omega)
 have o:=ano sz s c s.B.length (bW s.B) (by simp) (by omega)
 rw[Vg sz s c s.B.length (bW s.B) (by simp) (by omega),aE hl,Gs]at o
 have hk:(kW c).row=[I' c.task,I' c.op,I' (if c.op=64 then c.value else 0),I' c.prio,I' (-1)]:=rfl
 rw[au ke rfl];simp only[lA,lN,lB,lV,m8,tL,S.ab,S.row,Cl.row,Ry.row,qD,gq,fT,lf,gX,hk,bN,cJ,ho]at bS dj hcb cO o⊢;simp[jm,j0,j3,kU,bN,mM,bS,dj,hop,hcb,cO,o,aI,az,sub,aD,back,av,aq,ak,cut,bt,an,V.aV,bp,aX,aZ,aM,aN,bk,cG,cz]
set_option maxHeartbeats 4000000 in
theorem arM(nm:D)(k sz ot:Int)(s:S)(c:Cl)(hm:s.B.length<=250)(bS:ev P (.call gr [.d (.ag [nm,I' k,I' sz,I' ot]),.d (.ag (s.ab true).row)] [])=some (.val (.d (I' 0)) []))(hb:cC c=false)(ho:c.op=65)(cJ:s.bn=false)(x y:Int)(B:List Int)(hB:s.B=x::y::B):
  ev P (.call iM [.d (.ag [nm,I' k,I' sz,I' ot]),.d (.ag (s.ab true).row),.d (.ag c.row)] [])=some (.val (.tu [.d (.ag (Ry.row ⟨{s.ab true with B:=y::B},false,x,true,true,[]⟩)),.d (I' 0)]) []):=by
 have dj:ev P (.call iU [.d (qD true []),.d (I' c.task)] [])=some (.val (.tu [.d (I' 0),.d (.b false)]) []):=lD true [] c.task (by simp)
 have hop:=kT;have hcb:=kX c;rw[hb]at hcb;have cO:=DK nm k sz ot s cJ (by omega)
 have o:=anq sz s c B.length x (bW (y::B)) (by simp)
 rw[ank _ _ _ _ _ _ (by simp)]at o
 rw[au ke rfl];simp only[lA,lN,lB,lV,m8,tL,S.ab,S.row,Cl.row,Ry.row,qD,gq,fT,lf,gX,hB,cJ,ho]at bS dj hcb cO o⊢;have h9:1+(B.length+1)<=B.length+1+1:=by omega
 simp[jm,h9,j0,j3,kU,hB,bS,dj,hop,hcb,cO,o,aI,az,sub,aD,back,av,aq,ak,cut,bt,an,V.aV,bp,aX,aZ,aM,aN,bk,cG,cz]
set_option maxHeartbeats 4000000 in
theorem arN(nm:D)(k sz ot:Int)(s:S)(c:Cl)(hm:s.B.length<=250)(bS:ev P (.call gr [.d (.ag [nm,I' k,I' sz,I' ot]),.d (.ag (s.ab true).row)] [])=some (.val (.d (I' 0)) []))(hb:cC c=false)(ho:c.op=65)(cJ:s.bn=false)(x:Int)(hB:s.B=[x]):
  ev P (.call iM [.d (.ag [nm,I' k,I' sz,I' ot]),.d (.ag (s.ab true).row),.d (.ag c.row)] [])=some (.val (.tu [.d (.ag (Ry.row ⟨{s.ab true with B:=[]},false,x,true,true,[]⟩)),.d (I' 0)]) []):=by
 have dj:ev P (.call iU [.d (qD true []),.d (I' c.task)] [])=some (.val (.tu [.d (I' 0),.d (.b false)]) []):=lD true [] c.task (by simp)
 have hop:=kT;have hcb:=kX c;rw[hb]at hcb;have cO:=DK nm k sz ot s cJ (by omega)
 have o:=anr sz s c x;rw[anl]at o;rw[au ke rfl];simp only[lA,lN,lB,lV,m8,tL,S.ab,S.row,Cl.row,Ry.row,qD,gq,fT,lf,gX,hB,cJ,ho]at bS dj hcb cO o⊢;simp[jm,j0,j3,kU,hB,bS,dj,hop,hcb,cO,o,aI,az,sub,aD,back,av,aq,ak,cut,bt,an,V.aV,bp,aX,aZ,aM,aN,bk,cG,cz]
set_option maxHeartbeats 4000000 in
theorem arO(nm:D)(k sz ot:Int)(s:S)(c:Cl)(hm:s.B.length<=250)(bS:ev P (.call gr [.d (.ag [nm,I' k,I' sz,I' ot]),.d (.ag (s.ab true).row)] [])=some (.val (.d (I' 0)) []))(hb:cC c=false)(ho:c.op=65)(cJ:s.bn=false)(hB:s.B=[])(bN:s.cl=true):
  ev P (.call iM [.d (.ag [nm,I' k,I' sz,I' ot]),.d (.ag (s.ab true).row),.d (.ag c.row)] [])=some (.val (.tu [.d (.ag (Ry.row ⟨s.ab true,false,0,false,true,[]⟩)),.d (I' 0)]) []):=by
 have dj:ev P (.call iU [.d (qD true []),.d (I' c.task)] [])=some (.val (.tu [.d (I' 0),.d (.b false)]) []):=lD true [] c.task (by simp)
 have hop:=kT;have hcb:=kX c;rw[hb]at hcb;have cO:=DK nm k sz ot s cJ (by omega)
 have o:=ans sz s c;rw[Vi,aK bN]at o;rw[au ke rfl];simp only[lA,lN,lB,lV,m8,tL,S.ab,S.row,Cl.row,Ry.row,qD,gq,fT,lf,gX,hB,bN,cJ,ho]at bS dj hcb cO o⊢;simp[jm,j0,j3,kU,hB,bN,bS,dj,hop,hcb,cO,o,aI,az,sub,aD,back,av,aq,ak,cut,bt,an,V.aV,bp,aX,aZ,aM,aN,bk,cG,cz]
set_option maxHeartbeats 4000000 in
theorem arP(nm:D)(k sz ot:Int)(s:S)(c:Cl)(hm:s.B.length<=250)(bS:ev P (.call gr [.d (.ag [nm,I' k,I' sz,I' ot]),.d (.ag (s.ab true).row)] [])=some (.val (.d (I' 0)) []))(hb:cC c=false)(ho:c.op=65)(cJ:s.bn=false)(hB:s.B=[])(bN:s.cl=false):
  ev P (.call iM [.d (.ag [nm,I' k,I' sz,I' ot]),.d (.ag (s.ab true).row),.d (.ag c.row)] [])=some (.val (.tu [.d (.ag (Ry.row ⟨{s.ab true with qn:=false,Q:=[kW c]},true,0,false,true,[]⟩)),.d (I' 0)]) []):=by
 have dj:ev P (.call iU [.d (qD true []),.d (I' c.task)] [])=some (.val (.tu [.d (I' 0),.d (.b false)]) []):=lD true [] c.task (by simp)
 have hop:=kT;have hcb:=kX c;rw[hb]at hcb;have cO:=DK nm k sz ot s cJ (by omega)
 have o:=ans sz s c;rw[Vi,aE (by rw[bN];simp),Gs]at o
 have hk:(kW c).row=[I' c.task,I' c.op,I' (if c.op=64 then c.value else 0),I' c.prio,I' (-1)]:=rfl
 rw[au ke rfl];simp only[lA,lN,lB,lV,m8,tL,S.ab,S.row,Cl.row,Ry.row,qD,gq,fT,lf,gX,hk,hB,bN,cJ,ho]at bS dj hcb cO o⊢;simp[jm,j0,j3,kU,hB,bN,bS,dj,hop,hcb,cO,o,aI,az,sub,aD,back,av,aq,ak,cut,bt,an,V.aV,bp,aX,aZ,aM,aN,bk,cG,cz]
set_option maxHeartbeats 4000000 in
theorem arQ(nm:D)(k sz ot:Int)(s:S)(c:Cl)(hm:s.B.length<=250)(bS:ev P (.call gr [.d (.ag [nm,I' k,I' sz,I' ot]),.d (.ag (s.ab true).row)] [])=some (.val (.d (I' 0)) []))(hb:cC c=false)(ho:c.op=66)(bN:s.cl=false)(cJ:s.bn=false):
  ev P (.call iM [.d (.ag [nm,I' k,I' sz,I' ot]),.d (.ag (s.ab true).row),.d (.ag c.row)] [])=some (.val (.tu [.d (.ag (Ry.row ⟨{s.ab true with cl:=true},false,0,true,true,[]⟩)),.d (I' 0)]) []):=by
 have dj:ev P (.call iU [.d (qD true []),.d (I' c.task)] [])=some (.val (.tu [.d (I' 0),.d (.b false)]) []):=lD true [] c.task (by simp)
 have hop:=kT;have hcb:=kX c;rw[hb]at hcb;have cO:=DK nm k sz ot s cJ (by omega)
 have o:=anu sz s c s.B.length (bW s.B);rw[anm]at o;rw[au ke rfl];simp only[lA,lN,lB,lV,m8,tL,S.ab,S.row,Cl.row,Ry.row,qD,gq,fT,lf,gX,bN,cJ,ho]at bS dj hcb cO o⊢;simp[jm,j0,j3,kU,bN,bS,dj,hop,hcb,cO,o,aI,az,sub,aD,back,av,aq,ak,cut,bt,an,V.aV,bp,aX,aZ,aM,aN,bk,cG,cz]
set_option maxHeartbeats 4000000 in
theorem arR(nm:D)(k sz ot:Int)(s:S)(c:Cl)(hm:s.B.length<=250)(bS:ev P (.call gr [.d (.ag [nm,I' k,I' sz,I' ot]),.d (.ag (s.ab true).row)] [])=some (.val (.d (I' 0)) []))(hb:cC c=false)(ho:c.op=64)(mM:num c.value=true)(bN:s.cl=false)(cJ:s.bn=true)(hB:s.B=[])(hl:0<sz):
  ev P (.call iM [.d (.ag [nm,I' k,I' sz,I' ot]),.d (.ag (s.ab true).row),.d (.ag c.row)] [])=some (.val (.tu [.d (.ag (Ry.row ⟨{s.ab true with bn:=false,B:=s.B++[c.value]},false,0,true,true,[]⟩)),.d (I' 0)]) []):=by
 have dj:ev P (.call iU [.d (qD true []),.d (I' c.task)] [])=some (.val (.tu [.d (I' 0),.d (.b false)]) []):=lD true [] c.task (by simp)
 have hop:=kT;have hcb:=kX c;rw[hb]at hcb;have cO:=Jz nm k sz ot s cJ;have o:=anp sz s c;rw[Vh,aK hl]at o;rw[au ke rfl];simp only[lA,lN,lB,lV,m8,tL,S.ab,S.row,Cl.row,Ry.row,qD,gq,fT,lf,gX,hB,bN,cJ,ho]at bS dj hcb cO o⊢;simp[jm,j0,j3,kU,hB,bN,mM,bS,dj,hop,hcb,cO,o,aI,az,sub,aD,back,av,aq,ak,cut,bt,an,V.aV,bp,aX,aZ,aM,aN,bk,cG,cz]
set_option maxHeartbeats 4000000 in
theorem arS(nm:D)(k sz ot:Int)(s:S)(c:Cl)(hm:s.B.length<=250)(bS:ev P (.call gr [.d (.ag [nm,I' k,I' sz,I' ot]),.d (.ag (s.ab true).row)] [])=some (.val (.d (I' 0)) []))(hb:cC c=false)(ho:c.op=64)(mM:num c.value=true)(bN:s.cl=false)(cJ:s.bn=true)(hB:s.B=[])(hl:¬0<sz):
  ev P (.call iM [.d (.ag [nm,I' k,I' sz,I' ot]),.d (.ag (s.ab true).row),.d (.ag c.row)] [])=some (.val (.tu [.d (.ag (Ry.row ⟨{s.ab true with qn:=false,Q:=[kW c]},true,0,false,true,[]⟩)),.d (I' 0)]) []):=by
 have dj:ev P (.call iU [.d (qD true []),.d (I' c.task)] [])=some (.val (.tu [.d (I' 0),.d (.b false)]) []):=lD true [] c.task (by simp)
 have hop:=kT;have hcb:=kX c;rw[hb]at hcb;have cO:=Jz nm k sz ot s cJ;have o:=anp sz s c;rw[Vh,aE hl,Gt]at o;have hk:(kW c).row=[I' c.task,I' c.op,I' (if c.op=64 then c.value else 0),I' c.prio,I' (-1)]:=rfl
 rw[au ke rfl];simp only[lA,lN,lB,lV,m8,tL,S.ab,S.row,Cl.row,Ry.row,qD,gq,fT,lf,gX,hk,hB,bN,cJ,ho]at bS dj hcb cO o⊢;simp[jm,j0,j3,kU,hB,bN,mM,bS,dj,hop,hcb,cO,o,aI,az,sub,aD,back,av,aq,ak,cut,bt,an,V.aV,bp,aX,aZ,aM,aN,bk,cG,cz]
set_option maxHeartbeats 4000000 in
theorem arT(nm:D)(k sz ot:Int)(s:S)(c:Cl)(hm:s.B.length<=250)(bS:ev P (.call gr [.d (.ag [nm,I' k,I' sz,I' ot]),.d (.ag (s.ab true).row)] [])=some (.val (.d (I' 0)) []))(hb:cC c=false)(ho:c.op=65)(cJ:s.bn=true)(hB:s.B=[])(bN:s.cl=true):
  ev P (.call iM [.d (.ag [nm,I' k,I' sz,I' ot]),.d (.ag (s.ab true).row),.d (.ag c.row)] [])=some (.val (.tu [.d (.ag (Ry.row ⟨s.ab true,false,0,false,true,[]⟩)),.d (I' 0)]) []):=by
 have dj:ev P (.call iU [.d (qD true []),.d (I' c.task)] [])=some (.val (.tu [.d (I' 0),.d (.b false)]) []):=lD true [] c.task (by simp)
 have hop:=kT;have hcb:=kX c;rw[hb]at hcb;have cO:=Jz nm k sz ot s cJ;have o:=ant sz s c;rw[Vj,aK bN]at o;rw[au ke rfl];simp only[lA,lN,lB,lV,m8,tL,S.ab,S.row,Cl.row,Ry.row,qD,gq,fT,lf,gX,hB,bN,cJ,ho]at bS dj hcb cO o⊢;simp[jm,j0,j3,kU,hB,bN,bS,dj,hop,hcb,cO,o,aI,az,sub,aD,back,av,aq,ak,cut,bt,an,V.aV,bp,aX,aZ,aM,aN,bk,cG,cz]
set_option maxHeartbeats 4000000 in
theorem arU(nm:D)(k sz ot:Int)(s:S)(c:Cl)(hm:s.B.length<=250)(bS:ev P (.call gr [.d (.ag [nm,I' k,I' sz,I' ot]),.d (.ag (s.ab true).row)] [])=some (.val (.d (I' 0)) []))(hb:cC c=false)(ho:c.op=65)(cJ:s.bn=true)(hB:s.B=[])(bN:s.cl=false):
  ev P (.call iM [.d (.ag [nm,I' k,I' sz,I' ot]),.d (.ag (s.ab true).row),.d (.ag c.row)] [])=some (.val (.tu [.d (.ag (Ry.row ⟨{s.ab true with qn:=false,Q:=[kW c]},true,0,false,true,[]⟩)),.d (I' 0)]) []):=by
 have dj:ev P (.call iU [.d (qD true []),.d (I' c.task)] [])=some (.val (.tu [.d (I' 0),.d (.b false)]) []):=lD true [] c.task (by simp)
 have hop:=kT;have hcb:=kX c;rw[hb]at hcb;have cO:=Jz nm k sz ot s cJ;have o:=ant sz s c;rw[Vj,aE (by rw[bN];simp),Gt]at o
 have hk:(kW c).row=[I' c.task,I' c.op,I' (if c.op=64 then c.value else 0),I' c.prio,I' (-1)]:=rfl
 rw[au ke rfl];simp only[lA,lN,lB,lV,m8,tL,S.ab,S.row,Cl.row,Ry.row,qD,gq,fT,lf,gX,hk,hB,bN,cJ,ho]at bS dj hcb cO o⊢;simp[jm,j0,j3,kU,hB,bN,bS,dj,hop,hcb,cO,o,aI,az,sub,aD,back,av,aq,ak,cut,bt,an,V.aV,bp,aX,aZ,aM,aN,bk,cG,cz]
set_option maxHeartbeats 4000000 in
theorem arV(nm:D)(k sz ot:Int)(s:S)(c:Cl)(hm:s.B.length<=250)(bS:ev P (.call gr [.d (.ag [nm,I' k,I' sz,I' ot]),.d (.ag (s.ab true).row)] [])=some (.val (.d (I' 0)) []))(hb:cC c=false)(ho:c.op=66)(bN:s.cl=false)(cJ:s.bn=true)(hB:s.B=[]):
  ev P (.call iM [.d (.ag [nm,I' k,I' sz,I' ot]),.d (.ag (s.ab true).row),.d (.ag c.row)] [])=some (.val (.tu [.d (.ag (Ry.row ⟨{s.ab true with cl:=true},false,0,true,true,[]⟩)),.d (I' 0)]) []):=by
 have dj:ev P (.call iU [.d (qD true []),.d (I' c.task)] [])=some (.val (.tu [.d (I' 0),.d (.b false)]) []):=lD true [] c.task (by simp)
 have hop:=kT;have hcb:=kX c;rw[hb]at hcb;have cO:=Jz nm k sz ot s cJ;have o:=anv sz s c;rw[ann]at o;rw[au ke rfl];simp only[lA,lN,lB,lV,m8,tL,S.ab,S.row,Cl.row,Ry.row,qD,gq,fT,lf,gX,hB,bN,cJ,ho]at bS dj hcb cO o⊢;simp[jm,j0,j3,kU,hB,bN,bS,dj,hop,hcb,cO,o,aI,az,sub,aD,back,av,aq,ak,cut,bt,an,V.aV,bp,aX,aZ,aM,aN,bk,cG,cz]
end Go.VS.Sp
namespace Go.VS.Sp
structure BX(sz:Int)(s:S):Prop where
 own:s.own = -1
 cnt:s.cnt=0
 tm:s.time=0
 val:s.val=0
 h:s.H=[]
 c:s.C=[]
 bl:(s.B.length:Int)<=sz
 nb:∀n∈s.B,num n=true
 len:s.Q.length<=96
 w:∀w∈s.Q,dL w=true/\(w.op=64\/w.op=65/\w.value=0)
 nc:s.Q.Pairwise λa b=>sL b a=false
 cl:s.cl=true->s.Q=[]
 vs:∀w∈s.Q,w.op=64->(s.B.length:Int)=sz/\∀x∈s.Q,x.op=65->x.task=w.task
 vr:∀w∈s.Q,w.op=65->s.B=[]/\∀x∈s.Q,x.op=64->x.task=w.task
theorem arW:∀(l pre:List W),eI fC pre l=true↔(∀w∈l,BE w=false)/\(∀x∈pre,∀w∈l,sL w x=false)/\l.Pairwise λa b=>sL b a=false
 | [],pre=>by simp[eI]
 |a::r,pre=>by
  unfold eI;rw[bE,arW r (pre++[a]),gI];have e:fC pre a=true↔BE a=false/\∀x∈pre,sL a x=false:=by unfold fC;simp
  rw[e];constructor
  .rintro⟨⟨h1,h2⟩,h3,h4,h5⟩
   refine⟨λw hw=>?_,λx hx w hw=>?_,λb hb=>h4 a (by simp) b hb,h5⟩
   .rcases dA.1 hw with rfl |hw;exact h1;exact h3 w hw
   .rcases dA.1 hw with rfl |hw;exact h2 x hx;exact h4 x (by simp[hx]) w hw
  .rintro⟨h1,h2,h3,h4⟩
   refine⟨⟨h1 a (by simp),λx hx=>h2 x hx a (by simp)⟩,λw hw=>h1 w (by simp[hw]),λx hx w hw=>?_,h4⟩
   rcases dc.1 hx with hx |hx
   .exact h2 x hx w (by simp[hw])
   .simp at hx;rw[hx];exact h3 w hw
theorem V1{Q:List W}{op t:Int}:Gc Q op t=false↔∀x∈Q,x.op=op->x.task=t:=by
 unfold Gc;rw[qL];simp
theorem arX{α β:Type}{a:List α}{b:List β}:decide ((0:Int)<(a.length:Int)+b.length)=false↔a=[]/\b=[]:=by
 cases a<;>cases b<;>simp<;>omega
theorem JS{sz ot:Int}{s:S}:dW 6 sz ot s=0↔gZ 6 sz ot=0/\BX sz s:=by
 have e:dW 6 sz ot s=ck (gZ 6 sz ot) (DF sz s):=rfl;rw[e,BQ];refine Kg Iff.rfl ?_;unfold DF v7;simp only[bE,kZ,B1,B8,Kd,kA,dM,xk,arW,qL];rw[<-decide_eq_false_iff_not (p:=(0:Int)<_),arX];have Pa:∀w:W,BE w=false↔w.op=64\/w.op=65/\w.value=0:=λw=>by
  unfold BE;simp;constructor
  .intro h;by_cases uS:w.op=64;exact .inl uS;exact .inr (h uS)
  .rintro(h |h) h2;exact absurd h h2;exact h
 have v8:∀w:W,(w.op=64\/w.op=65/\w.value=0)->(¬zU sz s.B.length s.Q w=true↔(w.op=64->(s.B.length:Int)=sz/\∀x∈s.Q,x.op=65->x.task=w.task)/\(w.op=65->s.B=[]/\∀x∈s.Q,x.op=64->x.task=w.task)):=by
  intro w hw;unfold zU;rcases hw with h |⟨h,_⟩
  .simp only[h,PE,dH,B8,nQ,Bool.not_eq_true,V1]
   simp
  .have uS:(w.op==64)=false:=by simp[h]
   simp only[uS,h,eR,dG,B8,nQ,Bool.not_eq_true,V1];simp;exact λ_=>V1
 have sJ:((s.Q.length:Int)=0)↔s.Q=[]:=by
  constructor
  .intro h;exact vC (by omega)
  .intro h;rw[h];rfl
 constructor
 .rintro⟨⟨⟨⟨⟨⟨h1,h2⟩,h3⟩,h4⟩,h5,h6⟩,h7⟩,h8,⟨h9,iP⟩,⟨jg,_,kJ⟩,kf,sA⟩
  refine⟨h1,h2,h3,h4,h5,h6,by omega,λn hn=>by simpa using h8 n hn,h9,λw hw=>⟨iP w hw,(Pa w).1 (jg w hw)⟩,kJ,λh=>?_,λw hw=>?_,λw hw=>?_⟩
  .rcases kf with kf |kf
   .rw[h]at kf;cases kf
   .exact sJ.1 kf
  .exact((v8 w ((Pa w).1 (jg w hw))).1 (sA w hw)).1
  .exact((v8 w ((Pa w).1 (jg w hw))).1 (sA w hw)).2
 .rintro⟨h1,h2,h3,h4,h5,h6,h7,h8,h9,iP,kJ,kf,sA,oL⟩
  refine⟨⟨⟨⟨⟨⟨h1,h2⟩,h3⟩,h4⟩,h5,h6⟩,by omega⟩,λn hn=>by simpa using h8 n hn,⟨h9,λw hw=>(iP w hw).1⟩,⟨λw hw=>(Pa w).2 (iP w hw).2,by simp,kJ⟩,?_,λw hw=>(v8 w (iP w hw).2).2 ⟨sA w hw,oL w hw⟩⟩
  cases hc:s.cl
  .exact .inl rfl
  .exact .inr (sJ.2 (kf hc))
def aC(B:List Int)(cl:Bool):S:=⟨-1,0,0,false,[],false,[],false,B,false,[],cl,0⟩
theorem arY{sz ot:Int}{B:List Int}{cl:Bool}(hn:gZ 6 sz ot=0)(h:(B.length:Int)<=dm sz)(hb:∀n∈B,num n=true):cU 6 sz ot (aC B cl)=true:=by
 have hz:gZ 6 (dm sz) ot=0:=by
  unfold gZ dm at *;simp at hn⊢;split<;>omega
 unfold cU gB fZ iY iC mU v7 aC;simp[hn,ck,hz];exact⟨by omega,hb⟩
theorem V2{sz ot:Int}{B:List Int}{cl:Bool}{c:Cl}(hn:gZ 6 sz ot=0)(h:(B.length:Int)<=dm sz)(hb:∀n∈B,num n=true)(hc:cC c=false)(ho:c.op=64\/c.op=65\/c.op=66)(hv:c.op=64->num c.value=true)(he:(eC (dm sz) (aC B cl) c).2.2.2=0):dU 6 sz ot (aC B cl) c=eC (dm sz) (aC B cl) c :=
 tV (arY hn h hb) hc (by unfold dD;rcases ho with h |h |h<;>simp[h]) (by unfold fit;rcases ho with h |h |h<;>simp[h];exact hv h) he
def xx(now:Int)(w:W)(v:Int)(ok:Bool):Cp:=⟨⟨w.task,w.op,w.value,w.prio,now⟩,⟨w.task,w.op,v,ok,w.case⟩⟩
theorem arZ{k:Wk}{w:W}:∀{Q:List W}{p:Int×Int},Q.Pairwise (λa b=>sL b a=false)->w∈Q->k.task=w.task->k.op=w.op->k.case=w.case->o7 k Q p=(w.value,w.prio)
 | [],_,_,h,_,_,_=>by simp at h
 |x::r,p,hd,h,h1,h2,h3=>by
  rw[gI]at hd;unfold o7;by_cases hr:w∈r
  .exact arZ hd.2 hr h1 h2 h3
  .rcases dA.1 h with rfl |h
   .have hm:sO k w=true:=by unfold sO;simp[h1,h2,h3]
    rw[hm,aK rfl]
    have:∀(l:List W)(p:Int×Int),(∀y∈l,sL y w=false)->o7 k l p=p:=by
     intro l;induction l with
     |nil=>intro p _;rfl
     |cons y l ih =>
      intro p hy;unfold o7;have h0:=hy y (by simp)
      have hm:sO k y=false:=by
       cases hm:sO k y
       .rfl
       .unfold sO at hm
        simp at hm;unfold sL at h0;rw[hm.1.1,hm.2]at h0;simp[h1,h3]at h0
      rw[hm,aE (by simp)]
      exact ih p λz hz=>hy z (by simp[hz])
    exact this r _ hd.1
   .exact absurd h hr
theorem ar0{Q:List W}{w:W}(now v:Int)(ok:Bool)(hd:Q.Pairwise λa b=>sL b a=false)(h:w∈Q):fJ Q now ⟨w.task,w.op,v,ok,w.case⟩=xx now w v ok:=by
 unfold fJ xx;rw[arZ (k:=⟨w.task,w.op,v,ok,w.case⟩) hd h rfl rfl rfl]
theorem V3{op:Int}{Q:List W}{w:W}(h:fW op Q=some w):w∈Q/\w.op=op:=by
 unfold fW at h;exact⟨PB h,by simpa using GV h⟩
theorem V4{op:Int}{Q:List W}(h:fW op Q=none):∀w∈Q,w.op≠op:=by
 unfold fW at h;rw[Kb]at h;intro w hw;simpa using h w hw
def D1(s:S)(c:Cl):Int:=if cC c then 2 else if(c.op != 64&&c.op != 65&&c.op != 66)then 8 else if(c.op==64&&!num c.value)then 2 else if gQ s c.task then 17 else if(s.cl&&c.op==64)then 19 else if(s.cl&&c.op==66)then 17 else 0
end Go.VS.Sp
namespace Go.VS.Sp
theorem ar1(nm:D)(k sz ot:Int)(s:S)(c:Cl)(hn:s.Q.length<=1000000)(bS:ev P (.call gr [.d (.ag [nm,I' k,I' sz,I' ot]),.d (.ag s.row)] [])=some (.val (.d (I' 0)) []))(he:D1 s c≠0):
  ev P (.call iM [.d (.ag [nm,I' k,I' sz,I' ot]),.d (.ag s.row),.d (.ag c.row)] [])=some (.val (.tu [.d (.ag oq),.d (I' (D1 s c))]) []):=by
 obtain⟨fi,dj⟩:=p5 s c.task hn;have hop:=kT;have hcb:=kX c;rw[au ke rfl];unfold D1 at *;generalize gQ s c.task=q at *;obtain⟨own,cnt,time,hn',H,qn,Q,bn,B,cn,C,cl,val⟩:=s;simp only[S.row,Cl.row]at *;cases h1:cC c
 .rw[h1,aE (by simp)]at he
  rw[aE (by simp)]
  rw[h1]at hcb;cases h2:(c.op != 64&&c.op != 65&&c.op != 66)
  .rw[h2,aE (by simp)]at he
   rw[aE (by simp)]
   have ar2:c.op=64\/c.op=65\/c.op=66:=by simp at h2;omega
   rcases ar2 with ho |ho |ho;all_goals
    rw[ho]at he⊢;cases h4:num c.value<;>cases q<;>cases cl<;>rw[h4]at he<;>simp at he⊢<;>simp[jm,j0,j3,kU,bS,dj,hop,hcb,ho,h4,aI,az,sub,aD,back,av,aq,ak,cut,bt,an,V.aV,bp,aX,aZ,aM,aN]
  .rw[aK rfl]
   simp at h2;simp[jm,j0,j3,bS,dj,hop,hcb,h2,aI,az,sub,aD,back,av,aq,ak,cut,bt,an,V.aV,bp,aX,aZ,aM,aN]
 .rw[aK rfl]
  rw[h1]at hcb;simp[jm,j0,j3,bS,hcb,aI,az,sub,aD,back,av,aq,ak,cut,bt,an,V.aV,bp,aX,aZ,aM,aN]
def jN(s:S)(w:W):List W:=s.Q.filter λx=>x.task != w.task
def JT(sz:Int)(s:S)(c:Cl):Ry :=
 if c.op=64 then
  match fW 65 s.Q with
  |some w=>⟨{s with qn:=decide (jN s w=[]),Q:=jN s w},false,0,true,false,[⟨w.task,w.op,c.value,true,w.case⟩]⟩
  |none=>if(s.B.length:Int)<sz then⟨{s with bn:=false,B:=s.B++[c.value]},false,0,true,true,[]⟩else⟨{s with qn:=false,Q:=s.Q++[kW c]},true,0,false,true,[]⟩
 else if c.op=65 then
  match s.B with
  |x::B=>(match fW 64 s.Q with
   |some w=>⟨{s with B:=B++[w.value],qn:=decide (jN s w=[]),Q:=jN s w},false,x,true,false,[⟨w.task,w.op,0,true,w.case⟩]⟩
   |none=>⟨{s with B:=B},false,x,true,true,[]⟩)
  | []=>match fW 64 s.Q with
   |some w=>⟨{s with qn:=decide (jN s w=[]),Q:=jN s w},false,w.value,true,false,[⟨w.task,w.op,0,true,w.case⟩]⟩
   |none=>if s.cl=true then⟨s,false,0,false,true,[]⟩else⟨{s with qn:=false,Q:=s.Q++[kW c]},true,0,false,true,[]⟩
 else match s.Q with
  |w::T=>⟨{s with cl:=true,qn:=true,Q:=[]},false,0,true,false,ku (T.length+1) (w::T)⟩
  | []=>⟨{s with cl:=true},false,0,true,true,[]⟩
theorem ar3(nm:D)(k sz ot:Int)(s:S)(c:Cl)(hf:s.gN)(bS:ev P (.call gr [.d (.ag [nm,I' k,I' sz,I' ot]),.d (.ag s.row)] [])=some (.val (.d (I' 0)) [])):
  qI (ev P (.call iM [.d (.ag [nm,I' k,I' sz,I' ot]),.d (.ag s.row),.d (.ag c.row)] [])) (D1 s c) (JT sz s c):=by
 have hfq:=hf.q;have lK:=hf.b;by_cases he:D1 s c=0
 .refine .inl ⟨he,?_⟩
  unfold D1 at he;obtain⟨hb,he⟩:=jh (by decide) he
  obtain⟨h2,he⟩:=jh (by decide) he
  obtain⟨h3,he⟩:=jh (by decide) he
  obtain⟨ht,he⟩:=jh (by decide) he
  obtain⟨h5,he⟩:=jh (by decide) he
  obtain⟨h6,_⟩:=jh (b:=(s.cl&&c.op==66)) (a:=17) (r:=0) (by decide) he
  simp at h2 h3 h5 h6;have hop:c.op=64\/c.op=65\/c.op=66:=by omega
  have hn:s.Q.length<=250:=by omega
  have hm:s.B.length<=250:=by omega
  unfold JT;cases hq:s.qn
  .rcases hop with ho |ho |ho
   .have mM:num c.value=true:=h3 ho
    have bN:s.cl=false:=by cases h:s.cl;rfl;exact absurd ho (h5 h)
    rw[aK ho];cases hw:fW 65 s.Q with
    |some w=>have h:=ary nm k sz ot s c hf.wf hq hn hm bS hb ht ho mM bN w hw;first |exact h |(simp only[hq]at h;exact h)
    |none =>
     simp only;by_cases hl:(s.B.length:Int)<sz
     .rw[aK hl];have h:=arz nm k sz ot s c hf.wf hq hn hm bS hb ht ho mM bN hw hl;first |exact h |(simp only[hq]at h;exact h)
     .rw[aE hl];have h:=arA nm k sz ot s c hf.wf hq hn hm bS hb ht ho mM bN hw hl;first |exact h |(simp only[hq]at h;exact h)
   .rw[aE (by omega),aK ho]
    cases hB:s.B with
    |nil =>
     simp only;cases hw:fW 64 s.Q with
     |some w=>have h:=arF nm k sz ot s c hf.wf hq hn hm bS hb ht ho w hB hw;first |exact h |(simp only[hq,hB]at h;exact h)
     |none =>
      simp only;cases bN:s.cl
      .rw[aE (by simp)];have h:=arH nm k sz ot s c hf.wf hq hn hm bS hb ht ho hB hw bN;first |exact h |(simp only[hq,hB,bN]at h;exact h)
      .rw[aK rfl];have h:=arG nm k sz ot s c hf.wf hq hn hm bS hb ht ho hB hw bN;first |exact h |(simp only[hq,hB,bN]at h;exact h)
    |cons x B =>
     simp only;cases hw:fW 64 s.Q with
     |some w =>
      cases B with
      |nil=>have h:=arE nm k sz ot s c hf.wf hq hn hm bS hb ht ho x w hB hw;first |exact h |(simp only[hq,hB]at h;exact h)
      |cons y B=>have h:=arD nm k sz ot s c hf.wf hq hn hm bS hb ht ho x y B w hB hw;first |exact h |(simp only[hq,hB]at h;exact h)
     |none =>
      cases B with
      |nil=>have h:=arC nm k sz ot s c hf.wf hq hn hm bS hb ht ho x hB hw;first |exact h |(simp only[hq,hB]at h;exact h)
      |cons y B=>have h:=arB nm k sz ot s c hf.wf hq hn hm bS hb ht ho x y B hB hw;first |exact h |(simp only[hq,hB]at h;exact h)
   .have bN:s.cl=false:=by cases h:s.cl;rfl;exact absurd ho (h6 h)
    rw[aE (by omega),aE (by omega)]
    cases Al:s.Q with
    |nil=>have h:=arJ nm k sz ot s c hf.wf hq hn hm bS hb ht ho bN Al;first |exact h |(simp only[hq,Al]at h;exact h)
    |cons w T=>have h:=arI nm k sz ot s c hf.wf hq hn hm bS hb ht ho bN w T Al;first |exact h |(simp only[hq,Al]at h;exact h)
  .have om:=hf.qn hq
   have hab:s.ab true=s:=by
    unfold S.ab;rw[<-hq,<-om]
   have vq:ev P (.call gr [.d (.ag [nm,I' k,I' sz,I' ot]),.d (.ag (s.ab true).row)] [])=some (.val (.d (I' 0)) []):=by rw[hab];exact bS
   have hw:∀op,fW op s.Q=none:=λop=>by rw[om];rfl
   have hpk:s.Q++[kW c]=[kW c]:=by rw[om];rfl
   rw[hw,hw,hpk];rcases hop with ho |ho |ho
   .have mM:num c.value=true:=h3 ho
    have bN:s.cl=false:=by cases h:s.cl;rfl;exact absurd ho (h5 h)
    rw[aK ho];simp only;cases cJ:s.bn
    .by_cases hl:(s.B.length:Int)<sz
     .rw[aK hl];have h:=arK nm k sz ot s c hm vq hb ho mM bN cJ hl;rw[hab]at h;first |exact h |(simp only[cJ,hq,om]at h⊢;exact h)
     .rw[aE hl];have h:=arL nm k sz ot s c hm vq hb ho mM bN cJ hl;rw[hab]at h;first |exact h |(simp only[cJ,hq,om]at h⊢;exact h)
    .have hB:=hf.wf.b cJ
     by_cases hl:(s.B.length:Int)<sz
     .rw[aK hl];have h:=arR nm k sz ot s c hm vq hb ho mM bN cJ hB (by rw[hB]at hl;simpa using hl);rw[hab]at h;first |exact h |(simp only[hq,cJ]at h⊢;exact h)
     .rw[aE hl];have h:=arS nm k sz ot s c hm vq hb ho mM bN cJ hB (by rw[hB]at hl;simpa using hl);rw[hab]at h;first |exact h |(simp only[hq,cJ]at h⊢;exact h)
   .rw[aE (by omega),aK ho]
    cases hB:s.B with
    |nil =>
     simp only;cases cJ:s.bn
     .cases bN:s.cl
      .rw[aE (by simp)];have h:=arP nm k sz ot s c hm vq hb ho cJ hB bN;rw[hab]at h;first |exact h |(simp only[hB,bN,cJ,hq,om]at h⊢;exact h)
      .rw[aK rfl];have h:=arO nm k sz ot s c hm vq hb ho cJ hB bN;rw[hab]at h;first |exact h |(simp only[hB,bN,cJ,hq,om]at h⊢;exact h)
     .cases bN:s.cl
      .rw[aE (by simp)];have h:=arU nm k sz ot s c hm vq hb ho cJ hB bN;rw[hab]at h;first |exact h |(simp only[hB,bN,cJ,hq,om]at h⊢;exact h)
      .rw[aK rfl];have h:=arT nm k sz ot s c hm vq hb ho cJ hB bN;rw[hab]at h;first |exact h |(simp only[hB,bN,cJ,hq,om]at h⊢;exact h)
    |cons x B =>
     simp only;have cJ:s.bn=false:=by
      cases h:s.bn
      .rfl
      .have:=hf.wf.b h;rw[hB]at this;cases this
     cases B with
     |nil=>have h:=arN nm k sz ot s c hm vq hb ho cJ x hB;rw[hab]at h;first |exact h |(simp only[hB,hq,om]at h⊢;exact h)
     |cons y B=>have h:=arM nm k sz ot s c hm vq hb ho cJ x y B hB;rw[hab]at h;first |exact h |(simp only[hB,hq,om]at h⊢;exact h)
   .have bN:s.cl=false:=by cases h:s.cl;rfl;exact absurd ho (h6 h)
    rw[aE (by omega),aE (by omega)]
    simp only[om];cases cJ:s.bn
    .have h:=arQ nm k sz ot s c hm vq hb ho bN cJ;rw[hab]at h;first |exact h |(simp only[cJ,hq,om]at h⊢;exact h)
    .have h:=arV nm k sz ot s c hm vq hb ho bN cJ (hf.wf.b cJ);rw[hab]at h;first |exact h |(simp only[cJ,hq,om]at h⊢;exact h)
 .exact .inr ⟨he,_,_,_,_,_,_,_,_,_,_,_,_,_,ar1 nm k sz ot s c (by omega) bS he⟩
end Go.VS.Sp
namespace Go.VS.Sp
theorem V5{sz:Int}{s:S}(hs:BX sz s)(w:W){B:List Int}{qn bn:Bool}(hB:B.length=s.B.length)(hb:∀n∈B,num n=true):BX sz {s with qn:=qn,Q:=jN s w,bn:=bn,B:=B}:=by
 have hsub:(jN s w).Sublist s.Q:=B5;refine⟨hs.own,hs.cnt,hs.tm,hs.val,hs.h,hs.c,by simp only;rw[hB];exact hs.bl,hb,ng hsub.length_le hs.len,λx hx=>hs.w x (hsub.subset hx),hs.nc.sublist hsub,λh=>?_,λx hx ho=>?_,λx hx ho=>?_⟩
 .have:=hs.cl h
  unfold jN;simp[this]
 .obtain⟨h1,h2⟩:=hs.vs x (hsub.subset hx) ho
  exact⟨by simp only;rw[hB];exact h1,λy hy=>h2 y (hsub.subset hy)⟩
 .obtain⟨h1,h2⟩:=hs.vr x (hsub.subset hx) ho
  refine⟨?_,λy hy=>h2 y (hsub.subset hy)⟩
  rw[h1]at hB;exact vC hB
theorem Pb{sz:Int}{s:S}(hs:BX sz s){B:List Int}{qn bn cl:Bool}(hB:(B.length:Int)<=sz)(hb:∀n∈B,num n=true):BX sz {s with qn:=qn,Q:=[],bn:=bn,B:=B,cl:=cl}:=
 ⟨hs.own,hs.cnt,hs.tm,hs.val,hs.h,hs.c,hB,hb,by simp,by simp,List.Pairwise.nil,λ_=>rfl,by simp,by simp⟩
theorem ar4{sz:Int}{s:S}{c:Cl}(hs:BX sz s)(gR:s.Q.length<=40)(hb:cC c=false)(ht:gQ s c.task=false)(bN:s.cl=false)(hv:c.op=64->num c.value=true)
  (h:c.op=64/\(s.B.length:Int)=sz/\(∀x∈s.Q,x.op≠65)\/c.op=65/\s.B=[]/\∀x∈s.Q,x.op≠64):BX sz {s with qn:=false,Q:=s.Q++[kW c]}:=by
 have hbd:=vn hb;have hnt:∀x∈s.Q,x.task≠c.task:=by
  unfold gQ at ht;rw[qL]at ht;intro x hx;simpa using ht x hx
 have hw:dL (kW c)=true/\((kW c).op=64\/(kW c).op=65/\(kW c).value=0):=by
  unfold dL kI kW;rcases h with⟨h,_⟩ |⟨h,_⟩
  .have:=aoJ.1 (hv h)
   simp[h];omega
  .simp[h]
   omega
 refine⟨hs.own,hs.cnt,hs.tm,hs.val,hs.h,hs.c,hs.bl,hs.nb,by simp;omega,λx hx=>?_,?_,λh=>by simp[bN]at h,λx hx ho=>?_,λx hx ho=>?_⟩
 .rcases dc.1 hx with hx |hx
  .exact hs.w x hx
  .simp at hx;rw[hx];exact hw
 .rw[oA]
  refine⟨hs.nc,by simp,λa ha b hb=>?_⟩
  simp at hb;subst hb;have:=hnt a ha;unfold sL kW;simp[this]
 .have hB:(s.B.length:Int)=sz/\∀y∈s.Q,y.op≠65:=by
   rcases h with⟨_,h1,h2⟩ |⟨h0,_,h2⟩
   .exact⟨h1,h2⟩
   .exfalso
    rcases dc.1 hx with hx |hx
    .exact h2 x hx ho
    .simp at hx;rw[hx]at ho;have:c.op=64:=ho;omega
  refine⟨hB.1,λy hy sE=>?_⟩
  rcases dc.1 hy with hy |hy
  .exact absurd sE (hB.2 y hy)
  .simp at hy
   rw[hy]at sE;have sE:c.op=65:=sE;rcases h with⟨h0,_⟩ |⟨_,_,h2⟩
   .omega
   .rcases dc.1 hx with hx |hx
    .exact absurd ho (h2 x hx)
    .simp at hx;rw[hx]at ho;have:c.op=64:=ho;omega
 .have hB:s.B=[]/\∀y∈s.Q,y.op≠64:=by
   rcases h with⟨h0,_,h2⟩ |⟨_,h1,h2⟩
   .exfalso
    rcases dc.1 hx with hx |hx
    .exact h2 x hx ho
    .simp at hx;rw[hx]at ho;have:c.op=65:=ho;omega
   .exact⟨h1,h2⟩
  refine⟨hB.1,λy hy uS=>?_⟩
  rcases dc.1 hy with hy |hy
  .exact absurd uS (hB.2 y hy)
  .simp at hy
   rw[hy]at uS;have uS:c.op=64:=uS;rcases h with⟨_,_,h2⟩ |⟨h0,_⟩
   .rcases dc.1 hx with hx |hx
    .exact absurd ho (h2 x hx)
    .simp at hx;rw[hx]at ho;have:c.op=65:=ho;omega
   .omega
theorem ar5:∀(n:Nat)(Q:List W),∃L:List W,(∀w∈L,w∈Q)/\ku n Q=L.map xw/\L.length<=n
 | 0,Q=>⟨[],by simp,by simp[ku],by simp⟩
 |n+1,[]=>⟨[],by simp,by simp[ku],by simp⟩
 |n+1,w::T=>by
  obtain⟨L,h1,h2,h3⟩:=ar5 n ((w::T).filter λx=>x.task != w.task)
  refine⟨w::L,λx hx=>?_,by rw[show ku (n+1) (w::T)=xw w::ku n ((w::T).filter λx=>x.task != w.task)from rfl,h2];rfl,by simp;omega⟩
  rcases dA.1 hx with rfl |hx
  .simp
  .exact(pe.1 (h1 x hx)).1
theorem ar6{sz ot now:Int}{B:List Int}(hn:gZ 6 sz ot=0)(h:(B.length:Int)<=dm sz)(hb:∀n∈B,num n=true)(hw0:0<=now/\now<=1099511627776):∀(L:List W),(∀w∈L,dL w=true/\(w.op=64\/w.op=65/\B=[]))->∀a:S,a.pl=aC B true ->
  (c9 6 sz ot a (L.map λw=>xx now w 0 false)).2=true/\(c9 6 sz ot a (L.map λw=>xx now w 0 false)).1.pl=aC B true
 | [],_,a,ha=>by simp[c9,ha]
 |w::r,hw,a,ha=>by
  obtain⟨h1,h2⟩:=hw w (by simp)
  have hE:eC (dm sz) (aC B true) ⟨w.task,w.op,w.value,w.prio,now⟩=(aC B true,0,false,0):=by
   unfold eC;rcases h2 with h2 |⟨h2,h3⟩
   .simp[h2,aC,er]
   .subst h3;simp[h2,aC,er]
  have he:=V2 (c:=⟨w.task,w.op,w.value,w.prio,now⟩) hn h hb (tX h1 hw0) (by simp only;omega) (λ_=>DQ h1) (by rw[hE])
  rw[hE,<-ha]at he;rw[fT,mo (x:=xx now w 0 false) he rfl rfl (.inl (by unfold xx;simp only;omega)),ha]
  exact ar6 hn h hb hw0 r (λx hx=>hw x (by simp[hx])) _ rfl
end Go.VS.Sp
namespace Go.VS.Sp
theorem ar7(sz:Int):1<=dm sz/\sz<=dm sz:=by
 unfold dm;split<;>omega
theorem ar8(nm:D)(sz ot:Int)(s:S)(c:Cl)(hf:s.gN)(gR:s.Q.length<=40):
  mq (ev P (.call iM [.d (.ag [nm,I' 6,I' sz,I' ot]),.d (.ag s.row),.d (.ag c.row)] [])) 6 sz ot s c:=by
 have bS:ev P (.call gr [.d (.ag [nm,I' 6,I' sz,I' ot]),.d (.ag s.row)] [])=some (.val (.d (I' (dW 6 sz ot s))) []):=UZ nm 6 sz ot s hf.sm;by_cases hc:dW 6 sz ot s=0
 .obtain⟨hn,hs⟩:=JS.1 hc
  rw[hc]at bS;refine mq.of (ar3 nm 6 sz ot s c hf bS) λhe=>?_
  unfold D1 at he;obtain⟨hb,he⟩:=jh (by decide) he
  have hbd:=vn hb;obtain⟨h2,he⟩:=jh (by decide) he
  obtain⟨h3,he⟩:=jh (by decide) he
  obtain⟨ht,he⟩:=jh (by decide) he
  obtain⟨h5,he⟩:=jh (by decide) he
  obtain⟨h6,_⟩:=jh (b:=(s.cl&&c.op==66)) (a:=17) (r:=0) (by decide) he
  simp at h2 h3 h5 h6;have hop:c.op=64\/c.op=65\/c.op=66:=by omega
  have hv:c.op=64->num c.value=true:=h3;have lK:=hf.b;have O2:=hs.bl;have hsz:0<=sz/\sz<=100:=by
   unfold gZ at hn;simp at hn;omega
  obtain⟨iH,lM⟩:=ar7 sz;have eH:∀(qn bn:Bool)(Q:List W)(B:List Int)(cl:Bool),(({s with qn:=qn,Q:=Q,bn:=bn,B:=B,cl:=cl}:S).ab true).pl=aC B cl:=λqn bn Q B cl=>by
   unfold S.ab S.pl aC;simp[hs.own,hs.cnt,hs.tm,hs.val,hs.h,hs.c]
  have mY:(s.ab true).pl=aC s.B s.cl:=eH s.qn s.bn s.Q s.B s.cl;have iJ:∀(qn bn:Bool)(Q:List W)(B:List Int)(cl:Bool),(qn=true->Q=[])->(bn=true->B=[])->Q.length<=41->B.length<=121->({s with qn:=qn,Q:=Q,bn:=bn,B:=B,cl:=cl}:S).gN:=λqn bn Q B cl h1 h2 h3 h4 =>
   ⟨⟨hf.wf.h,h2,hf.wf.c,hf.wf.k⟩,h1,hf.h,h3,h4,hf.c,hf.l⟩
  have Am:∀s':S,BX sz s'->dW 6 sz ot s'=0:=λs' h=>JS.2 ⟨hn,h⟩
  have hfl:∀w,(jN s w).length<=41:=λw=>by
   have:(jN s w).length<=s.Q.length:=uc _ _
   omega
  have V6:∀w,decide (jN s w=[])=true->jN s w=[]:=λw h=>by simpa using h
  have own:∀(B:List Int)(cl:Bool)(B':List Int)(D2:Bool)(v:Int)(ok:Bool)(R:List Cp)(a:S),(B.length:Int)<=dm sz->(∀n∈B,num n=true)->eC (dm sz) (aC B cl) c=(aC B' D2,v,ok,0)->a.pl=aC B cl ->
    c9 6 sz ot a (fR c v ok::R)=c9 6 sz ot (aC B' D2) R:=λB cl B' D2 v ok R a h1 h2 hE ha=>by
   have he:=V2 (c:=c) hn h1 h2 hb hop hv (by rw[hE])
   rw[hE,<-ha]at he;exact mo (x:=fR c v ok) he rfl rfl (.inl (by unfold fR;simp only;omega))
  have yH:∀(B:List Int)(cl:Bool)(B':List Int)(D2:Bool)(w:W)(v:Int)(ok:Bool)(R:List Cp)(a:S),w∈s.Q->(B.length:Int)<=dm sz->(∀n∈B,num n=true)->eC (dm sz) (aC B cl) ⟨w.task,w.op,w.value,w.prio,c.now⟩=(aC B' D2,v,ok,0)->a.pl=aC B cl ->
    c9 6 sz ot a (xx c.now w v ok::R)=c9 6 sz ot (aC B' D2) R:=λB cl B' D2 w v ok R a hw h1 h2 hE ha=>by
   obtain⟨g1,g2⟩:=hs.w w hw;have he:=V2 (c:=⟨w.task,w.op,w.value,w.prio,c.now⟩) hn h1 h2 (tX g1 (by omega)) (by simp only;omega) (λ_=>DQ g1) (by rw[hE])
   rw[hE,<-ha]at he;exact mo (x:=xx c.now w v ok) he rfl rfl (.inl (by unfold xx;simp only;omega))
  have xq:∀(w:W)(v:Int)(ok:Bool),w∈s.Q->fJ s.Q c.now ⟨w.task,w.op,v,ok,w.case⟩=xx c.now w v ok:=λw v ok hw=>ar0 c.now v ok hs.nc hw
  have wM:iS s c=(c.op==65&&s.B.isEmpty):=by
   unfold iS;rcases hop with h |h |h<;>simp[h]
  unfold JT;rcases hop with ho |ho |ho
  .have bN:s.cl=false:=by cases h:s.cl;rfl;exact absurd ho (h5 h)
   have hl:iS s c=false:=by rw[wM];simp[ho]
   rw[Aj (by decide) hl,aK ho]
   rw[bN]at mY;have hsend:∀B:List Int,(B.length:Int)<dm sz->eC (dm sz) (aC B false) c=(aC (B++[c.value]) false,0,true,0):=λB h=>by
    unfold eC
    have:¬dm sz<=(B.length:Int):=by omega
    simp[ho,aC,gd,this]
   cases hw:fW 65 s.Q with
   |some w =>
    obtain⟨g1,g2⟩:=V3 hw;obtain⟨hB,_⟩:=hs.vr w g1 g2;refine⟨iJ _ _ _ _ _ (V6 w) hf.wf.b (hfl w) lK,hc,Am _ (V5 hs w rfl hs.nb),by simp,?_⟩
    simp only[gy,eR,dG,vG,fT,gq];rw[xq w _ _ g1];unfold ig;rw[show(⟨c,⟨c.task,c.op,0,true,-1⟩⟩:Cp)=fR c 0 true from rfl]
    rw[hB]at mY;rw[own [] false [c.value] false 0 true _ _ (by simp;omega) (by simp) (hsend [] (by simp;omega)) mY]
    rw[yH [c.value] false [] false w c.value true _ _ g1 (by simp;omega) (by simp[hv ho]) (by unfold eC;simp[g2,aC]) rfl]
    refine⟨rfl,?_⟩;have:=eH (decide (jN s w=[])) s.bn (jN s w) s.B s.cl;rw[hB,bN]at this;have e:({s with qn:=decide (jN s w=[]),Q:=jN s w}:S)={s with qn:=decide (jN s w=[]),Q:=jN s w,bn:=s.bn,B:=[],cl:=false}:=by rw[<-hB,<-bN]
    rw[e,this];rfl
   |none =>
    simp only;have hno:=V4 hw;by_cases hlt:(s.B.length:Int)<sz
    .rw[aK hlt]
     have hQ:s.Q=[]:=by
      cases hq:s.Q with
      |nil=>rfl
      |cons x T =>
       have hx:x∈s.Q:=by rw[hq];simp
       rcases(hs.w x hx).2 with h |⟨h,_⟩
       .have:=(hs.vs x hx h).1;omega
       .exact absurd h (hno x hx)
     have hnb:∀n∈s.B++[c.value],num n=true:=λn hm=>by
      rcases dc.1 hm with hm |hm
      .exact hs.nb n hm
      .simp at hm;rw[hm];exact hv ho
     refine⟨iJ _ _ _ _ _ hf.qn (by simp) (by omega) (by simp;omega),hc,Am _ ?_,by simp,?_⟩
     .have:=Pb hs (B:=s.B++[c.value]) (qn:=s.qn) (bn:=false) (cl:=s.cl) (by simp;omega) hnb
      rw[<-hQ]at this;exact this
     .simp only[gy,eR,dG,gq,ni]
      unfold ig;rw[show(⟨c,⟨c.task,c.op,0,true,-1⟩⟩:Cp)=fR c 0 true from rfl,own s.B false (s.B++[c.value]) false 0 true _ _ (by omega) hs.nb (hsend s.B (by omega)) mY]
      refine⟨rfl,?_⟩;have:=eH s.qn false s.Q (s.B++[c.value]) s.cl;rw[this,bN];rfl
    .rw[aE hlt]
     refine⟨iJ _ _ _ _ _ (by simp) hf.wf.b (by simp;omega) lK,hc,Am _ (ar4 hs gR hb ht bN hv (.inl ⟨ho,by omega,hno⟩)),by simp,?_⟩
     simp[gy,ig,c9];rfl
  .rw[aE (by omega),aK ho]
   have gV:∀(x:Int)(B:List Int)(cl:Bool),eC (dm sz) (aC (x::B) cl) c=(aC B cl,x,true,0):=λx B cl=>by
    unfold eC;simp[ho,aC]
   cases hB:s.B with
   |cons x B =>
    have hl:iS s c=false:=by rw[wM,hB];simp
    rw[Aj (by decide) hl]
    rw[hB]at mY O2 lK;simp only[gX]at O2 lK;have hnb:∀n∈x::B,num n=true:=by rw[<-hB];exact hs.nb
    have V7:∀n∈B,num n=true:=λn h=>hnb n (by simp[h])
    have cJ:s.bn=true->B=[]:=λh=>by have:=hf.wf.b h;rw[hB]at this;cases this
    simp only;cases hw:fW 64 s.Q with
    |some w =>
     obtain⟨g1,g2⟩:=V3 hw;have ar9:∀n∈B++[w.value],num n=true:=λn hm=>by
      rcases dc.1 hm with hm |hm
      .exact V7 n hm
      .simp at hm;rw[hm];exact DQ (hs.w w g1).1
     refine⟨iJ _ _ _ _ _ (V6 w) (λh=>by have:=hf.wf.b h;rw[hB]at this;cases this) (hfl w) (by simp;omega),hc,Am _ (V5 hs w (by rw[hB];simp) ar9),by simp,?_⟩
     simp only[gy,eR,dG,vG,fT,gq];rw[xq w _ _ g1];unfold ig;rw[show(⟨c,⟨c.task,c.op,x,true,-1⟩⟩:Cp)=fR c x true from rfl,own (x::B) s.cl B s.cl x true _ _ (by simp only[gX];omega) hnb (gV x B s.cl) mY]
     have bN:s.cl=false:=by
      cases h:s.cl
      .rfl
      .have:=hs.cl h;rw[this]at g1;simp at g1
     rw[bN,yH B false (B++[w.value]) false w 0 true _ _ g1 (by omega) V7 (by
      unfold eC
      have:¬dm sz<=(B.length:Int):=by omega
      simp[g2,aC,gd,this]) rfl]
     refine⟨rfl,?_⟩;have:=eH (decide (jN s w=[])) s.bn (jN s w) (B++[w.value]) false;simp only[c9];rw[this];rfl
    |none =>
     simp only;have hno:=V4 hw;have hQ:s.Q=[]:=by
      cases hq:s.Q with
      |nil=>rfl
      |cons y T =>
       have hx:y∈s.Q:=by rw[hq];simp
       rcases(hs.w y hx).2 with h |⟨h,_⟩
       .exact absurd h (hno y hx)
       .have:=(hs.vr y hx h).1;rw[hB]at this;cases this
     refine⟨iJ _ _ _ _ _ hf.qn cJ (by omega) (by omega),hc,Am _ ?_,by simp,?_⟩
     .have:=Pb hs (B:=B) (qn:=s.qn) (bn:=s.bn) (cl:=s.cl) (by omega) V7
      rw[<-hQ]at this;exact this
     .simp only[gy,eR,dG,gq,ni]
      unfold ig;rw[show(⟨c,⟨c.task,c.op,x,true,-1⟩⟩:Cp)=fR c x true from rfl,own (x::B) s.cl B s.cl x true _ _ (by simp only[gX];omega) hnb (gV x B s.cl) mY]
      refine⟨rfl,?_⟩;have:=eH s.qn s.bn s.Q B s.cl;simp only[c9];rw[this];rfl
   |nil =>
    have hl:iS s c=true:=by rw[wM,hB];simp[ho]
    rw[VV (by decide) hl]
    rw[hB]at mY;simp only;rw[<-hB];cases hw:fW 64 s.Q with
    |some w =>
     obtain⟨g1,g2⟩:=V3 hw;have bN:s.cl=false:=by
      cases h:s.cl
      .rfl
      .have:=hs.cl h;rw[this]at g1;simp at g1
     rw[bN]at mY;refine⟨iJ _ _ _ _ _ (V6 w) hf.wf.b (hfl w) lK,hc,Am _ (V5 hs w rfl hs.nb),by simp,?_⟩
     simp only[gy,eR,dG,vG,fT,gq];rw[xq w _ _ g1];unfold ig;rw[yH [] false [w.value] false w 0 true _ _ g1 (by simp;omega) (by simp) (by
      unfold eC
      have:¬dm sz<=0:=by omega
      simp[g2,aC,gd,this]) mY]
     rw[show(⟨c,⟨c.task,c.op,w.value,true,-1⟩⟩:Cp)=fR c w.value true from rfl,own [w.value] false [] false w.value true _ _ (by simp;omega) (by simp[DQ (hs.w w g1).1]) (gV w.value [] false) rfl]
     refine⟨rfl,?_⟩;have:=eH (decide (jN s w=[])) s.bn (jN s w) s.B s.cl;rw[hB,bN]at this;have e:({s with qn:=decide (jN s w=[]),Q:=jN s w}:S)={s with qn:=decide (jN s w=[]),Q:=jN s w,bn:=s.bn,B:=[],cl:=false}:=by rw[<-hB,<-bN]
     rw[e,this];rfl
    |none =>
     simp only;have hno:=V4 hw;by_cases bN:s.cl=true
     .rw[aK bN]
      rw[bN]at mY;refine⟨hf,hc,hc,by simp,?_⟩
      simp only[gy,eR,dG,gq,mu];unfold ig;rw[show(⟨c,⟨c.task,c.op,0,false,-1⟩⟩:Cp)=fR c 0 false from rfl,own [] true [] true 0 false _ _ (by simp;omega) (by simp) (by unfold eC;simp[ho,aC,er]) mY]
      exact⟨rfl,mY.symm⟩
     .have bN:s.cl=false:=by simpa using bN
      rw[aE (by simp[bN])]
      refine⟨iJ _ _ _ _ _ (by simp) hf.wf.b (by simp;omega) lK,hc,Am _ (ar4 hs gR hb ht bN hv (.inr ⟨ho,hB,hno⟩)),by simp,?_⟩
      simp[gy,ig,c9];rfl
  .rw[aE (by omega),aE (by omega)]
   have bN:s.cl=false:=by cases h:s.cl;rfl;exact absurd ho (h6 h)
   have hl:iS s c=false:=by rw[wM];simp[ho]
   rw[Aj (by decide) hl]
   rw[bN]at mY;have hE:eC (dm sz) (aC s.B false) c=(aC s.B true,0,true,0):=by
    unfold eC;simp[ho,aC,gd]
   have V8:(s.B.length:Int)<=dm sz:=by omega
   cases hq:s.Q with
   |nil =>
    simp only;rw[<-hq];refine⟨iJ _ _ _ _ _ hf.qn hf.wf.b (by omega) lK,hc,Am _ ?_,by simp,?_⟩
    .have:=Pb hs (B:=s.B) (qn:=s.qn) (bn:=s.bn) (cl:=true) hs.bl hs.nb
     rw[<-hq]at this;exact this
    .simp only[gy,eR,dG,gq,ni]
     unfold ig;rw[show(⟨c,⟨c.task,c.op,0,true,-1⟩⟩:Cp)=fR c 0 true from rfl,own s.B false s.B true 0 true _ _ V8 hs.nb hE mY]
     refine⟨rfl,?_⟩;have:=eH s.qn s.bn s.Q s.B true;simp only[c9];rw[this];rfl
   |cons w T =>
    simp only;obtain⟨L,l1,l2,l3⟩:=ar5 (T.length+1) (w::T);rw[<-hq]at l1;have hlen:T.length+1<=40:=by rw[hq]at gR;simpa using gR
    refine⟨iJ _ _ _ _ _ (by simp) hf.wf.b (by simp) lK,hc,Am _ (Pb hs hs.bl hs.nb),by rw[l2];simp;omega,?_⟩
    simp only[gy,eR,dG,vG];have hmap:(ku (T.length+1) (w::T)).map (fJ (w::T) c.now)=L.map λw=>xx c.now w 0 false:=by
     rw[l2,kB,<-hq];exact vu λx hx=>xq x 0 false (l1 x hx)
    rw[hmap];unfold ig;rw[show(⟨c,⟨c.task,c.op,0,true,-1⟩⟩:Cp)=fR c 0 true from rfl,own s.B false s.B true 0 true _ _ V8 hs.nb hE mY]
    obtain⟨p1,p2⟩:=ar6 (now:=c.now) hn V8 hs.nb (by omega) L (λx hx=>⟨(hs.w x (l1 x hx)).1,by
     rcases(hs.w x (l1 x hx)).2 with h |⟨h,_⟩
     .exact .inl h
     .exact .inr ⟨h,(hs.vr x (l1 x hx) h).1⟩⟩) (aC s.B true) rfl
    refine⟨p1,p2.trans ?_⟩;have:=eH true s.bn [] s.B true;rw[this]
 .have he:(dW 6 sz ot s != 0)=true:=by simpa using hc
  have hx:ev P (.call iM [.d (.ag [nm,I' 6,I' sz,I' ot]),.d (.ag s.row),.d (.ag c.row)] [])=some (.val (.tu [.d (.ag oq),.d (I' 1)]) []):=by
   rw[au ke rfl];simp only[S.row,Cl.row]at *;simp[jm,bS,he,av,aq]
  exact mq.er (by decide) hx
end Go.VS.Sp
namespace Go.VS.Sp
theorem GC{sz ot:Int}{s:S}:dW 1 sz ot s=0↔dR 1 1 sz ot=0/\(s.cnt=0/\s.time=0/\s.H=[]/\s.B=[]/\s.C=[]/\s.cl=false/\s.val=0)/\s.Q.length<=96/\M.MV s.own s.Q:=by
 have e:dW 1 sz ot s=ck (dR 1 1 sz ot) (Gq s):=rfl;have e2:Gq s=M.jK s.own s.cnt s.time s.H s.Q s.B (s.C.map K.row) s.cl s.val:=rfl;rw[e,BQ,e2,M.Jq,WK]
theorem asa{sz ot own:Int}(hn:dR 1 1 sz ot=0)(h:own = -1\/0<=own/\own<16):cU 1 sz ot (aW own [])=true:=by
 unfold cU gB fZ iY iC pP aW;simp[hn,ck,cW];omega
theorem asb{sz ot own:Int}{c:Cl}(hn:dR 1 1 sz ot=0)(h:own = -1\/0<=own/\own<16)(hb:cC c=false)(ho:c.op=50\/c.op=51\/c.op=52)(he:(eM (aW own []) c).2.2.2=0):dU 1 sz ot (aW own []) c=eM (aW own []) c :=
 tV (asa hn h) hb (by unfold dD;rcases ho with h |h |h<;>simp[h]) (by unfold fit;rcases ho with h |h |h<;>simp[h]) he
def xy:Option Int->List Wk
 |none=>[]
 |some t=>[⟨t,50,0,true,-1⟩]
theorem asd(nm:D)(sz ot:Int)(s:S)(c:Cl)(hf:s.gN)(gR:s.Q.length<=40)(hb:cC c=false):
  mq (ev P (.call yW [.d (.ag [nm,I' 1,I' sz,I' ot]),.d (.ag s.row),.d (.ag c.row)] [])) 1 sz ot s c:=by
 have hs:=hf.sm;obtain⟨hn,qn,bn,cn,wn,h,jY⟩:=M.OI nm 1 sz ot s.own s.cnt s.time s.hn s.H s.qn s.Q s.bn s.B s.cn (s.C.map K.row) s.cl s.val c.task c.op c.value c.prio c.now hs.h hs.q hs.b (by simpa using hs.c) hf.qn
 by_cases he:(M.JA 1 sz ot s.own s.cnt s.time s.H s.Q s.B (s.C.map K.row) s.cl s.val c.op c.task c.prio).e=0
 .have hv:dW 1 sz ot s=0/\M.JA 1 sz ot s.own s.cnt s.time s.H s.Q s.B (s.C.map K.row) s.cl s.val c.op c.task c.prio=M.l9 s.own s.Q c.op c.task c.prio:=by
   have e:M.dQ 1 sz ot=dR 1 1 sz ot:=rfl;unfold M.JA at he⊢;rw[e]at he⊢;by_cases h1:dR 1 1 sz ot=0
   .rw[aK h1]at he⊢
    have ev:Gq s=M.jK s.own s.cnt s.time s.H s.Q s.B (s.C.map K.row) s.cl s.val:=rfl;rw[<-ev]at he⊢;by_cases h2:Gq s=true
    .rw[aK h2]
     exact⟨BQ.2 ⟨h1,h2⟩,rfl⟩
    .rw[aE h2]at he
     simp[M.zr]at he
   .rw[aE h1]at he
    simp only[M.zr]at he;exact absurd he h1
  obtain⟨hc,hw⟩:=hv;rw[hw]at h jY he;obtain⟨D3,⟨g1,g2,g3,g4,g5,g6,g7⟩,g8,g9⟩:=GC.1 hc;have Pc:=M.apu g9 he;have hbd:=vn hb;have eH:(s.ab true).pl=aW s.own []:=by
   unfold S.ab S.pl aW;simp[g1,g2,g3,g4,g5,g6,g7]
  have Fi:∀r:M.Rp,((⟨r.own,0,0,hn,[],qn,r.q,bn,[],cn,[],false,0⟩:S).ab true).pl=aW r.own []:=λr=>rfl
  have key:(M.l9 s.own s.Q c.op c.task c.prio).q.length<=41/\iS s c=false /\
    ∀(st:S)(bw:Bool),ig 1 sz ot s (gy c ⟨st,(M.l9 s.own s.Q c.op c.task c.prio).parked,0,(M.l9 s.own s.Q c.op c.task c.prio).ok,bw,xy (M.l9 s.own s.Q c.op c.task c.prio).wk⟩++(xy (M.l9 s.own s.Q c.op c.task c.prio).wk).map (fJ s.Q c.now)) ⟨(M.l9 s.own s.Q c.op c.task c.prio).own,0,0,hn,[],qn,(M.l9 s.own s.Q c.op c.task c.prio).q,bn,[],cn,[],false,0⟩:=by
   have ase:=g9.qU;have one:∀(mh:Int)(ok:Bool)(R:List Cp),(c.op=50\/c.op=51\/c.op=52)->eM (aW s.own []) c=(aW mh [],0,ok,0)->c.op≠61->c9 1 sz ot (s.ab true) (fR c 0 ok::R)=c9 1 sz ot (aW mh []) R:=λmh ok R ho hE Fl=>by
    have he:=asb (c:=c) D3 ase hb ho (by rw[hE])
    rw[hE,<-eH]at he;exact mo (x:=fR c 0 ok) he rfl rfl (.inl Fl)
   unfold M.l9 at he⊢;split at he
   .simp[M.zr]at he
   .rename_i ho
    have ho:c.op=50\/c.op=51\/c.op=52:=by omega
    rw[aE (by omega)]
    have hl:iS s c=false:=by
     unfold iS;rcases ho with h |h |h<;>simp[h]
    split at he
    .simp[M.zr]at he
    .rename_i h2
     rw[aE h2];split at he
     .simp[M.zr]at he
     .rename_i h3
      rw[aE h3];have lock:∀(h5:c.op=50\/c.op=51),(M.jc s.own s.Q c.task c.prio).e=0->(c.op=51->s.own = -1)->(M.jc s.own s.Q c.task c.prio).q.length<=41/\iS s c=false /\
        ∀(st:S)(bw:Bool),ig 1 sz ot s (gy c ⟨st,(M.jc s.own s.Q c.task c.prio).parked,0,(M.jc s.own s.Q c.task c.prio).ok,bw,xy (M.jc s.own s.Q c.task c.prio).wk⟩++(xy (M.jc s.own s.Q c.task c.prio).wk).map (fJ s.Q c.now)) ⟨(M.jc s.own s.Q c.task c.prio).own,0,0,hn,[],qn,(M.jc s.own s.Q c.task c.prio).q,bn,[],cn,[],false,0⟩:=by
       intro h5 he zp;unfold M.jc at he⊢;by_cases h6:s.own = -1
       .have JU:(s.own == -1)=true:=by simpa using h6
        rw[aK JU];refine⟨by simp only;omega,hl,λst bw=>?_⟩
        simp only[gy,xy,eR,dG,gq,ni];unfold ig;rw[show(⟨c,⟨c.task,c.op,0,true,-1⟩⟩:Cp)=fR c 0 true from rfl,one c.task true [] (by omega) (by unfold eM;rcases h5 with h |h<;>simp[h,h6,aW,gd]) (by omega)]
        exact⟨rfl,rfl⟩
       .have JU:¬(s.own == -1)=true:=by simpa using h6
        rw[aE JU]at he⊢;split at he
        .simp[M.zr]at he
        .rename_i h7
         rw[aE h7];refine⟨?_,hl,λst bw=>?_⟩
         .have:s.Q.take (M.gD c.prio s.Q)++⟨c.task,50,0,c.prio,-1⟩::s.Q.drop (M.gD c.prio s.Q)=s.Q.take (M.gD c.prio s.Q)++([⟨c.task,50,0,c.prio,-1⟩]++s.Q.drop (M.gD c.prio s.Q)):=rfl
          simp only;rw[this];simp only[lT,List.length_take,PJ,tY];omega
         .simp only[gy,xy,dH,gq,ni]
          unfold ig;exact⟨rfl,by rw[Fi ⟨s.own,_,true,false,none,0⟩];exact eH⟩
      split at he
      .rename_i C2
       rw[aK C2];exact lock (.inl C2) he (by omega)
      .rename_i C2
       rw[aE C2];split at he
       .rename_i zp
        rw[aK zp];unfold M.BG at he⊢;by_cases h0:0<=s.own
        .rw[aK h0]
         refine⟨by simp only;omega,hl,λst bw=>?_⟩
         simp only[gy,xy,eR,dG,gq,ni];unfold ig;have hne:¬s.own = -1:=by omega
         rw[show(⟨c,⟨c.task,c.op,0,false,-1⟩⟩:Cp)=fR c 0 false from rfl,one s.own false [] (by omega) (by unfold eM;simp[zp,hne,aW,er]) (by omega)]
         exact⟨rfl,rfl⟩
        .rw[aE h0]at he⊢
         exact lock (.inr zp) he (λ_=>by omega)
       .rename_i zp
        rw[aE zp];have Nk:c.op=52:=by omega
        unfold M.BF at he⊢;split at he
        .simp[M.zr]at he
        .rename_i h7
         have h7:s.own=c.task:=by simpa using h7
         rw[aE (by simpa using h7)]
         have hE:eM (aW s.own []) c=(aW (-1) [],0,true,0):=by unfold eM;simp[Nk,h7,aW,gd]
         cases hq:s.Q with
         |nil =>
          refine⟨by simp,hl,λst bw=>?_⟩
          simp only[gy,xy,eR,dG,gq,ni];unfold ig;rw[show(⟨c,⟨c.task,c.op,0,true,-1⟩⟩:Cp)=fR c 0 true from rfl,one (-1) true [] ho hE (by omega)]
          exact⟨rfl,rfl⟩
         |cons w r =>
          have xp:w∈s.Q:=by rw[hq];simp
          obtain⟨k1,k2,k3,k4,k5,k6,k7,k8⟩:=g9.all w xp;refine⟨by rw[hq]at gR;simp at gR⊢;omega,hl,λst bw=>?_⟩
          have xq:=DT c.now 0 true g9.zV xp k3;rw[k1,hq]at xq;simp only[gy,xy,eR,dG,fT,gq,vG];rw[xq];unfold ig;rw[show(⟨c,⟨c.task,c.op,0,true,-1⟩⟩:Cp)=fR c 0 true from rfl,one (-1) true _ ho hE (by omega)]
          have O8:eM (aW (-1) []) ⟨w.task,50,w.value,w.prio,c.now⟩=(aW w.task [],0,true,0):=by unfold eM;simp[aW,gd]
          have fQ:=asb (c:=⟨w.task,50,w.value,w.prio,c.now⟩) D3 (.inl rfl) (by unfold cC;simp;omega) (.inl rfl) (by rw[O8])
          rw[O8]at fQ;rw[mo (x:=⟨⟨w.task,50,w.value,w.prio,c.now⟩,⟨w.task,50,0,true,-1⟩⟩) fQ rfl rfl (.inl (by simp))]
          exact⟨rfl,rfl⟩
  obtain⟨k1,k2,k3⟩:=key;refine .inr ⟨⟨⟨(M.l9 s.own s.Q c.op c.task c.prio).own,0,0,hn,[],qn,(M.l9 s.own s.Q c.op c.task c.prio).q,bn,[],cn,[],false,0⟩,(M.l9 s.own s.Q c.op c.task c.prio).parked,0,(M.l9 s.own s.Q c.op c.task c.prio).ok,wn,xy (M.l9 s.own s.Q c.op c.task c.prio).wk⟩,?_,?_,hc,?_,?_,?_⟩
  .refine h.trans ?_
   rw[he];generalize M.l9 s.own s.Q c.op c.task c.prio=r;obtain⟨r1,r2,r3,r4,r5,r6⟩:=r;cases r5<;>rfl
  .exact⟨⟨λ_=>rfl,λ_=>rfl,λ_=>rfl,by simp⟩,jY,by simp,k1,by simp,by simp,by simp⟩
  .exact GC.2 ⟨D3,⟨rfl,rfl,rfl,rfl,rfl,rfl,rfl⟩,by simp only;omega,Pc⟩
  .cases(M.l9 s.own s.Q c.op c.task c.prio).wk<;>simp[xy]
  .rw[Aj (by decide) k2]
   exact k3 _ _
 .exact .inl ⟨_,he,_,_,_,_,_,_,_,_,_,_,_,_,_,h⟩
end Go.VS.Sp
