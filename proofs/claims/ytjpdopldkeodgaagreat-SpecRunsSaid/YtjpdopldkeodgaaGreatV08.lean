import Derived.Test.YtjpdopldkeodgaaGreatV07
set_option linter.all false
set_option maxHeartbeats 1000000
namespace Go.VS.Sp
abbrev I'(n:Int):D:=.i .i64 n
structure W where
 task:Int
 op:Int
 value:Int
 prio:Int
 case:Int
 deriving DecidableEq
@[simp] theorem W.eta(w:W):W.mk w.task w.op w.value w.prio w.case=w:=rfl
def W.row(w:W):List D:=[I' w.task,I' w.op,I' w.value,I' w.prio,I' w.case]
def kI(w:W):Bool:=(decide (w.task<0)||decide (16<=w.task)||decide (w.op<1)||decide (99<w.op)||decide (w.value < -1099511627776)||decide (1099511627776<w.value))
def dL(w:W):Bool:=!kI w&&(decide (0<=w.prio)&&decide (w.prio<=9)&&decide (-1<=w.case)&&decide (w.case<6))
theorem Fb(a b c d e:Int):ev P (.call Et [.d (.ag [I' a,I' b,I' c,I' d,I' e])] [])=some (.val (.d (.b (dL ⟨a,b,c,d,e⟩))) []):=by
 rw[au SE rfl];cases h:kI ⟨a,b,c,d,e⟩<;>simp only[dL,h]<;>unfold kI at h<;>simp[HN,W.row,h]
def fU(d:Int)(prev:Option W):List W->Int
 | []=>0
 |w::r=>if dL w=false then 2 else if d=2/\(prev.any λp=>decide (p.prio<w.prio))=true then 9 else fU d (some w) r
theorem vY:IntKind.i64.wrap 1=1:=by decide
theorem Fc(d:Int)(nl:Bool)(l:List W)(hn:l.length<=96):∀(suf pre:List W),l=pre++suf ->
  ev P (.loop 0 [0,1,16,17,18] vR [(0,.d (I' d)),(1,.d (.sl 5 nl (l.map W.row))),(16,.d (.sl 5 nl (l.map W.row))),(17,.d (I' l.length)),(18,.d (I' pre.length))] []) =
   if fU d pre.getLast? suf=0 then some (.out (.exit 0) [] [])else some (.out .ret [(4,.d (I' (fU d pre.getLast? suf)))] []):=by
 intro suf;induction suf with
 |nil =>
  intro pre hl
  have:l.length=pre.length:=by simp[hl]
  rw[bT]
  conv=>lhs;arg 4;unfold vR
  simp[this,fU]
 |cons w suf ih =>
  intro pre hl;have hg:l[pre.length]?=some w:=by simp[hl]
  have hlt:(pre.length:Int)<l.length:=by simp[hl];omega
  rw[bT]
  conv=>lhs;arg 4;unfold vR
  simp[hlt,hg,W.row,Fb];cases hv:dL w
  .simp[fU,hv]
  .simp
   have hnext:IntKind.i64.wrap ((pre.length:Int)+1)=pre.length+1:=wrap_i64 (by omega) (by omega)
   have bD:=ih (pre++[w]) (by simp[hl])
   simp at bD;rcases Aq pre with rfl |⟨pre',p,rfl⟩
   .simp[fU,hv,vY]at *
    exact bD
   .have mC:l[pre'.length]?=some p:=by simp[hl]
    have hlen:((pre'.length:Int)+1<l.length):=by simp[hl];omega
    have hw:IntKind.i64.wrap ((pre'.length:Int)+1 - 1)=pre'.length:=by rw[wrap_i64 (by omega) (by omega)];omega
    have h0:(0:Int)<pre'.length+1:=by omega
    have dO:IntKind.i64.wrap (pre'.length:Int)=pre'.length:=wrap_i64 (by omega) (by omega)
    have jS:IntKind.i64.wrap ((pre'.length:Int)+1+1)=pre'.length+1+1:=wrap_i64 (by omega) (by omega)
    simp at bD;by_cases hd:d=2
    .by_cases hp:p.prio<w.prio
     .subst hd
      simp[fU,hv,hp,dO,jS,mC,W.row,h0]
     .subst hd
      simp[fU,hv,hp,dO,jS,mC,W.row,h0];exact bD
    .have hd2:(d==2)=false:=by simp[hd]
     simp[fU,hv,hd,hd2,dO,jS,mC,W.row,h0];exact bD
def ej(l:List W):Int:=if 96<l.length then 4 else fU 1 none l
theorem uI(nl:Bool)(l:List W):ev P (.call qo [.d (I' 1),.d (.sl 5 nl (l.map W.row))] []) =
  some (.val (.d (I' (ej l))) []):=by
 unfold ej;rw[au MS rfl];by_cases h:96<l.length
 .have h':(96:Int)<l.length:=by omega
  simp[y8,h,h']
 .have h':¬(96:Int)<l.length:=by omega
  have hl:=Fc 1 nl l (by omega) l [] rfl
  simp at hl;simp[y8,h,h',hl];by_cases hc:fU 1 none l=0<;>simp[hc]
theorem ze:∀(ds:List D),fA (ds.map V.d)=some ds
 | []=>rfl
 |d::ds=>by simp[ze ds]
theorem th{a b:List D}{x:D}:fA (a.map V.d++.d x::b.map V.d)=some (a++x::b):=by
 have:=ze (a++x::b);simpa using this
def idx{α:Type}(p:α->Bool):Int->List α->Int
 |_,[]=>-1
 |k,w::r=>if p w then k else idx p (k+1) r
theorem SK{f:Nat}{first caps:List D}{p:W->Bool}(nl:Bool)(l:List W)(hn:l.length<=1000000)
  (hp:∀a b c d e,ev P (.call f (first.map V.d++[.d (.ag [I' a,I' b,I' c,I' d,I' e])]++caps.map V.d) [])=some (.val (.d (.b (p ⟨a,b,c,d,e⟩))) [])):
  ∀(suf pre:List W),l=pre++suf ->
  ev P (.loop 0 [0,1,7,8] vQ [(0,.d (.sl 5 nl (l.map W.row))),(1,.d (.fn f first caps)),(7,.d (I' l.length)),(8,.d (I' pre.length))] []) =
   if idx p pre.length suf = -1 then some (.out (.exit 0) [] [])else some (.out .ret [(4,.d (I' (idx p pre.length suf)))] []):=by
 intro suf;induction suf with
 |nil =>
  intro pre hl
  have:l.length=pre.length:=by simp[hl]
  rw[bT]
  conv=>lhs;arg 4;unfold vQ
  simp[this,idx]
 |cons w suf ih =>
  intro pre hl;have hg:l[pre.length]?=some w:=by simp[hl]
  have hlt:(pre.length:Int)<l.length:=by simp[hl];omega
  have hnext:IntKind.i64.wrap ((pre.length:Int)+1)=pre.length+1:=wrap_i64 (by omega) (by omega)
  have bD:=ih (pre++[w]) (by simp[hl])
  simp at bD hp;rw[bT]
  conv=>lhs;arg 4;unfold vQ
  simp[hlt,hg,W.row,hp,th];cases hw:p w
  .simp[idx,hw,hnext]
   exact bD
  .have:¬(pre.length:Int) = -1:=by omega
   simp[idx,hw,this]
theorem Ic{f:Nat}{first caps:List D}{p:W->Bool}(nl:Bool)(l:List W)(hn:l.length<=1000000)
  (hp:∀a b c d e,ev P (.call f (first.map V.d++[.d (.ag [I' a,I' b,I' c,I' d,I' e])]++caps.map V.d) [])=some (.val (.d (.b (p ⟨a,b,c,d,e⟩))) [])):
  ev P (.call xN [.d (.sl 5 nl (l.map W.row)),.d (.fn f first caps)] [])=some (.val (.d (I' (idx p 0 l))) []):=by
 rw[au MR rfl];have hl:=SK nl l hn hp l [] rfl;simp at hl;simp[EJ,hl];by_cases hc:idx p 0 l = -1<;>simp[hc]
theorem A4{α:Type}{p:α->Bool}:∀{l:List α}{k:Int},0<=k->(0<=idx p k l↔l.any p=true)
 | [],k,_=>by simp[idx]
 |w::r,k,hk=>by
  by_cases hw:p w=true
  .simp[idx,hw,hk]
  .simp[idx,hw,A4 (l:=r) (k:=k+1) (by omega)]
theorem A5{f:Nat}{first caps:List D}{p:W->Bool}(nl:Bool)(l:List W)(hn:l.length<=1000000)
  (hp:∀a b c d e,ev P (.call f (first.map V.d++[.d (.ag [I' a,I' b,I' c,I' d,I' e])]++caps.map V.d) [])=some (.val (.d (.b (p ⟨a,b,c,d,e⟩))) [])):
  ev P (.call ur [.d (.sl 5 nl (l.map W.row)),.d (.fn f first caps)] [])=some (.val (.d (.b (l.any p))) []):=by
 rw[au Sy rfl];have hi:=Ic nl l hn hp;simp[HA,hi];have:=A4 (p:=p) (l:=l) (k:=0) (by omega)
 cases ha:l.any p
 .have hc:¬0<=idx p 0 l:=λh=>by rw[this.1 h]at ha;cases ha
  simp[hc]
 .have hc:0<=idx p 0 l:=this.2 ha
  simp[hc]
abbrev bW(l:List Int):List (List D):=l.map λx=>[I' x]
abbrev hD(n:Bool)(l:List Int):D:=.sl 1 n (bW l)
abbrev qD(n:Bool)(l:List W):D:=.sl 5 n (l.map W.row)
def uJ(es:Nat)(z:V):List (List D)->V
 | []=>z
 |r::rs=>.aQ 0 0 (r::rs).length
def uK(es:Nat):List (List D)->List O
 | []=>[]
 |r::rs=>[.aG es true (r::rs)]
theorem bk{α β:Type}{f:α->β}{r:List α}:List.take r.length (r.map f)=r.map f:=gE (by simp)
theorem cG{α β:Type}{f:α->β}{r:List α}:List.drop (r.length+1) (r.map f)=[]:=qK (by simp)
def ju(q:List W)(t:Int):Int×Bool:=match q.findIdx? (λw=>w.task==t)with |some i=>(i,true) |none=>(0,false)
theorem SL(nl:Bool)(l:List W)(t:Int)(hn:l.length<=1000000):∀(suf pre:List W),l=pre++suf ->
  ev P (.loop 0 [1,8,9,10] CH [(1,.d (I' t)),(8,.d (qD nl l)),(9,.d (I' l.length)),(10,.d (I' pre.length))] []) =
   match suf.findIdx? (λw=>w.task==t)with
   |none=>some (.out (.exit 0) [] [])
   |some k=>some (.out .ret [(4,.d (I' ((pre.length+k:Nat):Int))),(5,.d (.b true))] []):=by
 intro suf;induction suf with
 |nil =>
  intro pre hl
  have:l.length=pre.length:=by simp[hl]
  rw[bT]
  conv=>lhs;arg 4;unfold CH
  simp[this]
 |cons w suf ih =>
  intro pre hl;have hg:l[pre.length]?=some w:=by simp[hl]
  have hlt:(pre.length:Int)<l.length:=by simp[hl];omega
  have hnext:IntKind.i64.wrap ((pre.length:Int)+1)=pre.length+1:=wrap_i64 (by omega) (by omega)
  have bD:=ih (pre++[w]) (by simp[hl])
  simp at bD;rw[bT]
  conv=>lhs;arg 4;unfold CH
  rw[xz];cases hw:w.task==t
  .simp[hlt,hg,W.row,hw,hnext]
   rw[bD];cases suf.findIdx? (λw=>w.task==t)with
   |none=>rfl
   |some k=>simp;omega
  .simp[hlt,hg,W.row,hw]
theorem lD(nl:Bool)(l:List W)(t:Int)(hn:l.length<=1000000):
  ev P (.call iU [.d (qD nl l),.d (I' t)] [])=some (.val (.tu [.d (I' (ju l t).1),.d (.b (ju l t).2)]) []):=by
 rw[au XN rfl];have hl:=SL nl l t hn l [] rfl;simp at hl;unfold ju;cases h:l.findIdx? (λw=>w.task==t)with
 |none=>rw[h]at hl;simp[EN,hl]
 |some k=>rw[h]at hl;simp at hl;simp[EN,hl]
theorem A6{q:List W}{t:Int}:(ju q t).2=q.any λw=>w.task==t:=by
 unfold ju;cases h:q.findIdx? (λw=>w.task==t)with
 |none =>
  rw[JY]at h;symm;rw[qL];intro x hx;rw[h x hx];decide
 |some k =>
  symm;obtain⟨h1,h2⟩:=GG.1 h;exact rV.2 ⟨_,vw _,h2.1⟩
end Go.VS.Sp
namespace Go.VS.Sp
structure K where
 task:Int
 nl:Bool
 log:List Int
 deriving DecidableEq
@[simp] theorem K.eta(w:K):K.mk w.task w.nl w.log=w:=rfl
def K.row(w:K):List D:=[I' w.task,hD w.nl w.log]
abbrev cD(n:Bool)(l:List K):D:=.sl 2 n (l.map K.row)
theorem afC{f:Nat}{first caps:List D}{p:K->Bool}(nl:Bool)(l:List K)(hn:l.length<=1000000)
  (hp:∀a b c,ev P (.call f (first.map V.d++[.d (.ag [I' a,hD b c])]++caps.map V.d) [])=some (.val (.d (.b (p ⟨a,b,c⟩))) [])):
  ∀(suf pre:List K),l=pre++suf ->
  ev P (.loop 0 [0,1,7,8] LZ [(0,.d (.sl 2 nl (l.map K.row))),(1,.d (.fn f first caps)),(7,.d (I' l.length)),(8,.d (I' pre.length))] []) =
   if idx p pre.length suf = -1 then some (.out (.exit 0) [] [])else some (.out .ret [(4,.d (I' (idx p pre.length suf)))] []):=by
 intro suf;induction suf with
 |nil =>
  intro pre hl
  have:l.length=pre.length:=by simp[hl]
  rw[bT]
  conv=>lhs;arg 4;unfold LZ
  simp[this,idx]
 |cons w suf ih =>
  intro pre hl;have hg:l[pre.length]?=some w:=by simp[hl]
  have hlt:(pre.length:Int)<l.length:=by simp[hl];omega
  have hnext:IntKind.i64.wrap ((pre.length:Int)+1)=pre.length+1:=wrap_i64 (by omega) (by omega)
  have bD:=ih (pre++[w]) (by simp[hl])
  simp at bD;have iO:=hp w.task w.nl w.log;simp at iO;rw[bT]
  conv=>lhs;arg 4;unfold LZ
  simp[hlt,hg,K.row,iO,th];cases hw:p w
  .simp[idx,hw,hnext]
   exact bD
  .have:¬(pre.length:Int) = -1:=by omega
   simp[idx,hw,this]
theorem SM{f:Nat}{first caps:List D}{p:K->Bool}(nl:Bool)(l:List K)(hn:l.length<=1000000)
  (hp:∀a b c,ev P (.call f (first.map V.d++[.d (.ag [I' a,hD b c])]++caps.map V.d) [])=some (.val (.d (.b (p ⟨a,b,c⟩))) [])):
  ev P (.call En [.d (.sl 2 nl (l.map K.row)),.d (.fn f first caps)] [])=some (.val (.d (I' (idx p 0 l))) []):=by
 rw[au adV rfl];have hl:=afC nl l hn hp l [] rfl;simp at hl;simp[Rv,hl];by_cases hc:idx p 0 l = -1<;>simp[hc]
theorem afD{f:Nat}{first caps:List D}{p:K->Bool}(nl:Bool)(l:List K)(hn:l.length<=1000000)
  (hp:∀a b c,ev P (.call f (first.map V.d++[.d (.ag [I' a,hD b c])]++caps.map V.d) [])=some (.val (.d (.b (p ⟨a,b,c⟩))) [])):
  ev P (.call Q6 [.d (.sl 2 nl (l.map K.row)),.d (.fn f first caps)] [])=some (.val (.d (.b (l.any p))) []):=by
 rw[au ae2 rfl];have hi:=SM nl l hn hp;simp[Se,hi];have:=A4 (p:=p) (l:=l) (k:=0) (by omega)
 cases ha:l.any p
 .have hc:¬0<=idx p 0 l:=λh=>by rw[this.1 h]at ha;cases ha
  simp[hc]
 .have hc:0<=idx p 0 l:=this.2 ha
  simp[hc]
def dQ(k sz ot:Int):Int:=if(k != 7)=true then 8 else if(decide (sz<0)||decide (100<sz)||ot != 0)=true then 2 else 0
def ct:List D:=[I' 0,I' 0,I' 0,.sl 1 true [],.sl 5 true [],.sl 1 true [],.sl 2 true [],.b false,I' 0]
def gn:List D:=[I' (-1),I' 0,I' 0,.sl 1 true [],.sl 5 true [],.sl 1 true [],.sl 2 true [],.b false,I' 0]
theorem tj(nm:D)(k sz ot:Int):ev P (.call uy [.d (.ag [nm,I' k,I' sz,I' ot])] []) =
  some (.val (.tu [.d (.ag (if dQ k sz ot=0 then gn else ct)),.d (I' (dQ k sz ot))]) []):=by
 rw[au adR rfl];unfold dQ;cases hk:k != 7
 .cases hb:(decide (sz<0)||decide (100<sz)||ot != 0)<;>simp[LW,hk,hb,gn,ct]
 .simp[LW,hk,ct]
def num(n:Int):Bool:=decide (-1099511627776<=n)&&decide (n<=1099511627776)
theorem SN(n:Int):ev P (.call Lm [.d (I' n)] [])=some (.val (.d (.b (num n))) []):=by
 rw[au aeZ rfl];unfold num;simp[Sb]
theorem afE(t a:Int)(b:Bool)(c:List Int):ev P (.call Ln [.d (.ag [I' a,hD b c]),.d (.ref [I' t])] [])=some (.val (.d (.b (a==t))) []):=by
 rw[au ae0 rfl];simp[Sc]
def jT(C:List K)(t:Int):Int:=idx (λc=>c.task==t) 0 C
theorem Ie(d0 d1 d2 d3 d4 d5 d7 d8:D)(cn:Bool)(C:List K)(t:Int)(hn:C.length<=1000000):
  ev P (.call yX [.d (.ag [d0,d1,d2,d3,d4,d5,cD cn C,d7,d8]),.d (I' t)] [])=some (.val (.d (I' (jT C t))) []):=by
 have hI:=SM (f:=Ln) (first:=[]) (caps:=[.ref [I' t]]) (p:=λc=>c.task==t) cn C hn (by intro a b c;simp[afE])
 rw[au aet rfl];unfold jT;generalize idx (λc:K=>c.task==t) 0 C=r at *
 try simp at hI
 simp[RO,fA,hI]
def jo(Q:List W)(t op:Int):Bool:=Q.any λw=>w.task==t&&w.op==op
theorem afF(t op a b c d e:Int):ev P (.call LA [.d (.ag [I' a,I' b,I' c,I' d,I' e]),.d (.ref [I' t]),.d (.ref [I' op])] [])=some (.val (.d (.b (a==t&&b==op))) []):=by
 rw[au afj rfl];simp[Sr]
theorem Yc(d0 d1 d2 d3 d5 d6 d7 d8:D)(qn:Bool)(Q:List W)(t op:Int)(hn:Q.length<=1000000):
  ev P (.call Ht [.d (.ag [d0,d1,d2,d3,qD qn Q,d5,d6,d7,d8]),.d (I' t),.d (I' op)] [])=some (.val (.d (.b (jo Q t op))) []):=by
 have hI:=A5 (f:=LA) (first:=[]) (caps:=[.ref [I' t],.ref [I' op]]) (p:=λw=>w.task==t&&w.op==op) qn Q hn (by intro a b c d e;simp[afF])
 rw[au ae4 rfl];unfold jo;generalize (Q.any λw=>w.task==t&&w.op==op)=r at *
 try simp at hI
 simp[Sg,fA,hI]
def fl(sz:Int)(C:List K)(Q:List W):Bool:=C.any λc=>(c.log.length:Int)==sz&&!jo Q c.task 70
theorem afG(sz a:Int)(b:Bool)(c:List Int)(d0 d1 d2 d3 d5 d6 d7 d8:D)(qn:Bool)(Q:List W)(hn:Q.length<=1000000):
  ev P (.call Lo [.d (.ag [I' a,hD b c]),.d (.ref [I' sz]),.d (.ref [d0,d1,d2,d3,qD qn Q,d5,d6,d7,d8])] [])=some (.val (.d (.b ((c.length:Int)==sz&&!jo Q a 70))) []):=by
 have hw:=Yc d0 d1 d2 d3 d5 d6 d7 d8 qn Q a 70 hn;rw[au ae3 rfl];cases h:(c.length:Int)==sz<;>simp[Sf,h,hw]
theorem M0(sz:Int)(d0 d1 d2 d3 d5 d7 d8:D)(qn:Bool)(Q:List W)(cn:Bool)(C:List K)(hn:Q.length<=1000000)(hc:C.length<=1000000):
  ev P (.call AK [.d (I' sz),.d (.ag [d0,d1,d2,d3,qD qn Q,d5,cD cn C,d7,d8])] [])=some (.val (.d (.b (fl sz C Q))) []):=by
 have hI:=afD (f:=Lo) (first:=[]) (caps:=[.ref [I' sz],.ref [d0,d1,d2,d3,qD qn Q,d5,cD cn C,d7,d8]]) (p:=λc=>(c.log.length:Int)==sz&&!jo Q c.task 70) cn C hc (by intro a b c;simp[afG,hn])
 rw[au aex rfl];unfold fl;generalize (C.any λc=>(c.log.length:Int)==sz&&!jo Q c.task 70)=r at *
 try simp at hI
 simp[RQ,fA,hI]
def lE(sz:Int)(prev:Option K)(c:K):Bool:=decide (c.task<0)||decide (16<=c.task)||prev.any (λp=>decide (c.task<=p.task))||decide (sz<c.log.length)
def vc(sz:Int):Option K->List K->Bool
 |_,[]=>true
 |p,c::r=>!lE sz p c&&(c.log.all num&&vc sz (some c) r)
theorem afH(sz:D)(cn:Bool)(C:List K)(k:Int)(bn:Bool)(l:List Int)(hn:l.length<=1000000):∀(suf pre:List Int),l=pre++suf ->
  ev P (.loop 0 [0,1,9,10,11,47,48,49] Mf [(0,.d sz),(1,.d (cD cn C)),(9,.d (cD cn C)),(10,.d (I' C.length)),(11,.d (I' k)),(47,.d (hD bn l)),(48,.d (I' l.length)),(49,.d (I' pre.length))] []) =
   if suf.all num=true then some (.out (.exit 2) [(0,.d sz),(1,.d (cD cn C)),(9,.d (cD cn C)),(10,.d (I' C.length)),(11,.d (I' k))] [])else some (.out .ret [(4,.d (.b false))] []):=by
 intro suf;induction suf with
 |nil =>
  intro pre hl
  have:l.length=pre.length:=by simp[hl]
  rw[bT]
  conv=>lhs;arg 4;unfold Mf
  simp[this]
 |cons w suf ih =>
  intro pre hl;have hg:l[pre.length]?=some w:=by simp[hl]
  have hlt:(pre.length:Int)<l.length:=by simp[hl];omega
  have hnext:IntKind.i64.wrap ((pre.length:Int)+1)=pre.length+1:=wrap_i64 (by omega) (by omega)
  have bD:=ih (pre++[w]) (by simp[hl])
  rw[xA];generalize suf.all num=dd at *;simp at bD;rw[bT]
  conv=>lhs;arg 4;unfold Mf
  cases hw:num w
  .simp[hlt,hg,SN,hw]
  .simp[hlt,hg,SN,hw,hnext]
   exact bD
set_option maxHeartbeats 1000000 in
theorem afI(sz:Int)(cn:Bool)(C:List K)(hn:C.length<=1000000)(pN:∀c∈C,c.log.length<=1000000):∀(suf pre:List K),C=pre++suf ->
  ev P (.loop 0 [0,1,9,10,11] Mg [(0,.d (I' sz)),(1,.d (cD cn C)),(9,.d (cD cn C)),(10,.d (I' C.length)),(11,.d (I' pre.length))] []) =
   if vc sz pre.getLast? suf=true then some (.out (.exit 0) [] [])else some (.out .ret [(4,.d (.b false))] []):=by
 intro suf;induction suf with
 |nil =>
  intro pre hl
  have:C.length=pre.length:=by simp[hl]
  rw[bT]
  conv=>lhs;arg 4;unfold Mg
  simp[this,vc]
 |cons c suf ih =>
  intro pre hl;have hg:C[pre.length]?=some c:=by simp[hl]
  have hlt:(pre.length:Int)<C.length:=by simp[hl];omega
  have bD:=ih (pre++[c]) (by simp[hl])
  have hN:=afH (I' sz) cn C pre.length c.nl c.log (pN c (by simp[hl])) c.log [] rfl
  have e1:vc sz pre.getLast? (c::suf)=(!lE sz pre.getLast? c&&(c.log.all num&&vc sz (some c) suf)):=rfl;rw[e1];simp only[Wh,Wi,Option.some_or]at bD;generalize vc sz (some c) suf=dd at *;generalize c.log.all num=da at *;simp at bD hN;rw[bT]
  conv=>lhs;arg 4;unfold Mg
  have hnext:IntKind.i64.wrap ((pre.length:Int)+1)=pre.length+1:=wrap_i64 (by omega) (by omega)
  cases h1:(decide (c.task<0)||decide (16<=c.task))
  .rcases Aq pre with rfl |⟨pre',p,rfl⟩
   .have jF:0<C.length:=by simp[hl]
    have CQ:C[0]=c:=by simp[hl]
    cases h2:decide (sz<c.log.length)
    .have hk:lE sz none c=false:=by simp only[lE,h1,h2,Option.any_none,GH]
     simp[vY]at bD hN;cases da
     .simp at hN
      simp[jF,CQ,K.row,h1,h2,hk,hN]
     .simp at hN
      simp[jF,CQ,K.row,h1,h2,hk,hN,vY];exact bD
    .have hk:lE sz none c=true:=by simp only[lE,h1,h2,Option.any_none,GH,Ph]
     simp[jF,CQ,K.row,h1,h2,hk]
   .have mC:C[pre'.length]?=some p:=by simp[hl]
    have hlen:((pre'.length:Int)+1<C.length):=by simp[hl];omega
    have hw:IntKind.i64.wrap ((pre'.length:Int)+1 - 1)=pre'.length:=by rw[wrap_i64 (by omega) (by omega)];omega
    have h0:(0:Int)<pre'.length+1:=by omega
    have CR:(0:Int)<=pre'.length+1:=by omega
    have dO:IntKind.i64.wrap (pre'.length:Int)=pre'.length:=wrap_i64 (by omega) (by omega)
    have jS:IntKind.i64.wrap ((pre'.length:Int)+1+1)=pre'.length+1+1:=wrap_i64 (by omega) (by omega)
    simp only[GI,lT,tY]at hg;simp at bD hN;cases h3:decide (c.task<=p.task)
    .cases h2:decide (sz<c.log.length)
     .have hk:lE sz (some p) c=false:=by simp only[lE,h1,h2,h3,Pj,GH]
      cases da
      .simp at hN
       simp[hlen,hg,mC,dO,h0,CR,K.row,h1,h2,h3,hk,hN]
      .simp at hN
       simp[hlen,hg,mC,dO,h0,CR,K.row,h1,h2,h3,hk,hN,jS];exact bD
     .have hk:lE sz (some p) c=true:=by simp only[lE,h1,h2,h3,Pj,GH,Ph]
      simp[hlen,hg,mC,dO,h0,CR,K.row,h1,h2,h3,hk]
    .have hk:lE sz (some p) c=true:=by simp only[lE,h1,h3,Pj,Ph,Bool.true_or]
     simp[hlen,hg,mC,dO,h0,CR,K.row,h1,h3,hk]
  .have hk:lE sz pre.getLast? c=true:=by simp[lE,h1]
   simp[hlt,hg,K.row,h1,hk]
theorem afJ(sz:Int)(cn:Bool)(C:List K)(hn:C.length<=1000000)(pN:∀c∈C,c.log.length<=1000000):
  ev P (.call QF [.d (I' sz),.d (cD cn C)] [])=some (.val (.d (.b (vc sz none C))) []):=by
 have hL:=afI sz cn C hn pN C [] rfl;rw[au ael rfl];generalize hv:vc sz none C=v at *;simp[hv]at hL;cases v<;>simp at hL<;>simp[RL,hL]
end Go.VS.Sp
namespace Go.VS.Sp
theorem fd_eq{pre:List W}{w:W}{r:List W}:((ju (pre++w::r) w.task).1==(pre.length:Int))=!pre.any (λx=>x.task==w.task):=by
 unfold ju;rw[Wj];cases h:pre.findIdx? (λx=>x.task==w.task)with
 |none =>
  have:pre.any (λx=>x.task==w.task)=false:=by
   rw[qL];rw[JY]at h;intro x hx;rw[h x hx];decide
  rw[this];simp[xz]
 |some k =>
  obtain⟨h1,h2⟩:=GG.1 h
  have:pre.any (λx=>x.task==w.task)=true:=rV.2 ⟨_,vw _,h2.1⟩
  rw[this];simp;omega
theorem Ig{Q:List W}(h:ej Q=0):Q.length<=96/\∀w,w∈Q->dL w=true:=by
 unfold ej at h;by_cases h1:96<Q.length
 .rw[aK h1]at h;cases h
 .rw[aE h1]at h
  refine⟨by omega,?_⟩
  have:∀(l:List W)(p:Option W),fU 1 p l=0->∀w,w∈l->dL w=true:=by
   intro l;induction l with
   |nil=>simp
   |cons a r ih =>
    intro p h w hw;unfold fU at h;cases hv:dL a
    .rw[hv]at h;simp at h
    .rw[hv]at h
     simp at h;rcases dA.1 hw with e |hw
     .rw[e];exact hv
     .exact ih _ h w hw
  exact this Q none h
theorem nx{w:W}(h:dL w=true):0<=w.task/\w.task<16:=by
 unfold dL kI at h;simp at h;omega
theorem CT{α:Type}{p:α->Bool}:∀(l:List α)(k:Nat),(idx p (k:Int) l = -1/\l.find? p=none)\/∃(i:Nat)(c:α),idx p (k:Int) l=((k+i:Nat):Int)/\l[i]?=some c/\l.find? p=some c
 | [],k=>.inl ⟨rfl,rfl⟩
 |a::l,k=>by
  by_cases ha:p a=true
  .right
   exact⟨0,a,by simp[idx,ha],by simp,by simp[ha]⟩
  .have h:=CT (p:=p) l (k+1)
   have e:((k+1:Nat):Int)=(k:Int)+1:=by omega
   rw[e]at h;rcases h with⟨h1,h2⟩ |⟨i,c,h1,h2,h3⟩
   .left
    exact⟨by simp[idx,ha,h1],by simp[ha,h2]⟩
   .right
    refine⟨i+1,c,?_,by simpa using h2,by simp[ha,h3]⟩
    simp[idx,ha,h1];omega
def mD(C:List K)(t:Int):Option K:=C.find? λc=>c.task==t
theorem M1(C:List K)(t:Int):(jT C t = -1/\mD C t=none)\/∃(i:Nat)(c:K),jT C t=(i:Int)/\C[i]?=some c/\mD C t=some c:=by
 have h:=CT (p:=λc:K=>c.task==t) C 0
 simpa[jT,mD]using h
def vZ(C:List K)(w:W):Bool:=match mD C w.task with |some c=>!decide (0<c.log.length)&&w.value==0 |none=>false
def sy(sz:Int)(C:List K)(Q:List W)(w:W):Bool:=if w.op=70 then vZ C w else if w.op=68 then fl sz C Q else false
def tq(sz:Int)(C:List K)(Q:List W):List W->List W->Bool
 |_,[]=>true
 |pre,w::r=>!pre.any (λx=>x.task==w.task)&&(w.case == -1&&(sy sz C Q w&&tq sz C Q (pre++[w]) r))
theorem afK(sz:Int)(d0 d1 d2 d3 d5 d7 d8:D)(qn:Bool)(Q:List W)(cn:Bool)(C:List K)(hn:Q.length<=1000000)(hc:C.length<=1000000):∀(suf pre:List W),Q=pre++suf ->
  ev P (.loop 0 [0,3,15,16,17] Mh [(0,.d (I' sz)),(3,.d (.ref [d0,d1,d2,d3,qD qn Q,d5,cD cn C,d7,d8])),(15,.d (qD qn Q)),(16,.d (I' Q.length)),(17,.d (I' pre.length))] []) =
   if tq sz C Q pre suf=true then some (.out (.exit 0) [] [])else some (.out .ret [(4,.d (.b false))] []):=by
 intro suf;induction suf with
 |nil =>
  intro pre hl
  have:Q.length=pre.length:=by simp[hl]
  rw[bT]
  conv=>lhs;arg 4;unfold Mh
  simp[this,tq]
 |cons w suf ih =>
  intro pre hl;have hg:Q[pre.length]?=some w:=by simp[hl]
  have hlt:(pre.length:Int)<Q.length:=by simp[hl];omega
  have hnext:IntKind.i64.wrap ((pre.length:Int)+1)=pre.length+1:=wrap_i64 (by omega) (by omega)
  have bD:=ih (pre++[w]) (by simp[hl])
  have hF:=lD qn Q w.task hn;have nX:((ju Q w.task).1==(pre.length:Int))=!pre.any (λx=>x.task==w.task):=by rw[hl];exact fd_eq
  have mT:=Ie d0 d1 d2 d3 (qD qn Q) d5 d7 d8 cn C w.task hc;have nY:=M0 sz d0 d1 d2 d3 d5 d7 d8 qn Q cn C hn hc;have e1:tq sz C Q pre (w::suf)=(!pre.any (λx=>x.task==w.task)&&(w.case == -1&&(sy sz C Q w&&tq sz C Q (pre++[w]) suf))):=rfl
  rw[e1];generalize tq sz C Q (pre++[w]) suf=dd at *;generalize (ju Q w.task).1=fi at *;generalize (ju Q w.task).2=fb at *;simp at bD;rw[bT]
  conv=>lhs;arg 4;unfold Mh
  cases ha:pre.any (λx=>x.task==w.task)
  .rw[ha]at nX
   have rB:(fi != (pre.length:Int))=false:=by simp[bne,nX]
   cases hk:w.case == -1
   .have hk2:(w.case != -1)=true:=by simp[bne,hk]
    simp[hlt,hg,W.row,hF,rB,hk2]
   .have hk2:(w.case != -1)=false:=by simp[bne,hk]
    by_cases fI:w.op=70
    .have M3:(w.op==70)=true:=by simp[fI]
     have e2:sy sz C Q w=vZ C w:=by simp[sy,fI]
     rw[e2];rcases M1 C w.task with⟨f1,f2⟩ |⟨i,c,f1,f2,f3⟩
     .have e3:vZ C w=false:=by simp[vZ,f2]
      rw[f1]at mT;simp[hlt,hg,W.row,hF,rB,hk2,fI,mT,e3]
     .have e3:vZ C w=(!decide (0<c.log.length)&&w.value==0):=by simp only[vZ,f3]
      rw[f1]at mT;rw[e3];have n1:¬((i:Int)<0):=by omega
      cases p1:decide (0<c.log.length)
      .cases p2:w.value==0
       .have p3:(w.value != 0)=true:=by simp[bne,p2]
        simp at p1;simp[hlt,hg,W.row,hF,rB,hk2,fI,mT,n1,f2,K.row,p1,p3]
       .have p3:(w.value != 0)=false:=by simp[bne,p2]
        simp at p1;simp[hlt,hg,W.row,hF,rB,hk2,fI,mT,n1,f2,K.row,p1,p3,hnext];exact bD
      .simp at p1
       simp[hlt,hg,W.row,hF,rB,hk2,fI,mT,n1,f2,K.row,p1]
    .have M3:(w.op==70)=false:=by simp[fI]
     by_cases fu:w.op=68
     .have e2:sy sz C Q w=fl sz C Q:=by simp[sy,fu]
      rw[e2];cases hfl:fl sz C Q
      .rw[hfl]at nY
       simp[hlt,hg,W.row,hF,rB,hk2,fu,nY]
      .rw[hfl]at nY
       simp[hlt,hg,W.row,hF,rB,hk2,fu,nY,hnext];exact bD
     .have SO:(w.op==68)=false:=by simp[fu]
      have e2:sy sz C Q w=false:=by simp[sy,fI,fu]
      rw[e2];simp[hlt,hg,W.row,hF,rB,hk2,M3,SO]
  .rw[ha]at nX
   have rB:(fi != (pre.length:Int))=true:=by simp[bne,nX]
   simp[hlt,hg,W.row,hF,rB]
theorem afL(sz:Int)(d0 d1 d2 d3 d5 d7 d8:D)(qn:Bool)(Q:List W)(cn:Bool)(C:List K)(hn:Q.length<=1000000)(hc:C.length<=1000000):
  ev P (.call QG [.d (I' sz),.d (.ag [d0,d1,d2,d3,qD qn Q,d5,cD cn C,d7,d8])] [])=some (.val (.d (.b (ej Q==0&&tq sz C Q [] Q))) []):=by
 have hL:=afK sz d0 d1 d2 d3 d5 d7 d8 qn Q cn C hn hc Q [] rfl;have hW:=uI qn Q;rw[au aem rfl];generalize tq sz C Q [] Q=v at *;simp at hL;cases hw:ej Q==0
 .have dO:(ej Q != 0)=true:=by simp[bne,hw]
  simp[Mi,hW,dO]
 .have dO:(ej Q != 0)=false:=by simp[bne,hw]
  cases v<;>simp at hL<;>simp[Mi,hW,dO,hL]
structure S where
 own:Int
 cnt:Int
 time:Int
 hn:Bool
 H:List Int
 qn:Bool
 Q:List W
 bn:Bool
 B:List Int
 cn:Bool
 C:List K
 cl:Bool
 val:Int
 deriving DecidableEq
abbrev S.row(s:S):List D:=[I' s.own,I' s.cnt,I' s.time,hD s.hn s.H,qD s.qn s.Q,hD s.bn s.B,cD s.cn s.C,.b s.cl,I' s.val]
def S.uL(s:S):Bool:=s.cnt != 0||s.time != 0||decide (0<s.H.length+s.B.length)||s.cl||s.val != 0
structure S.sm(s:S):Prop where
 h:s.H.length<=1000000
 b:s.B.length<=1000000
 q:s.Q.length<=1000000
 c:s.C.length<=1000000
 l:∀c∈s.C,c.log.length<=1000000
def S.good(sz:Int)(s:S):Bool:=s.own == -1&&(vc sz none s.C&&(ej s.Q==0&&tq sz s.C s.Q [] s.Q))&&!s.uL
def fN(k sz ot:Int)(s:S):Int:=if dQ k sz ot=0 then(if s.good sz then 0 else 1)else dQ k sz ot
theorem qu(nm:D)(k sz ot:Int)(s:S)(hs:s.sm):
  ev P (.call su [.d (.ag [nm,I' k,I' sz,I' ot]),.d (.ag s.row)] [])=some (.val (.d (I' (fN k sz ot s))) []):=by
 have hC:=afJ sz s.cn s.C hs.c hs.l;have hQ:=afL sz (I' s.own) (I' s.cnt) (I' s.time) (hD s.hn s.H) (hD s.bn s.B) (.b s.cl) (I' s.val) s.qn s.Q s.cn s.C hs.q hs.c;have hh:=hs.h;have hb:=hs.b;rw[au adS rfl];unfold fN;cases hm:dQ k sz ot==0
 .have hm':dQ k sz ot≠0:=by simpa using hm
  have hm2:(dQ k sz ot != 0)=true:=by simpa using hm'
  simp[CF,tj,hm',hm2,ct]
 .have hm':dQ k sz ot=0:=by simpa using hm
  unfold S.good;cases ho:s.own == -1
  .have fM:(s.own != -1)=true:=by simp[bne,ho]
   simp[CF,tj,hm',gn,fM]
  .have fM:(s.own != -1)=false:=by simp[bne,ho]
   cases hv:vc sz none s.C<;>rw[hv]at hC
   .simp[CF,tj,hm',gn,fM,hC]
   .cases hq:(ej s.Q==0&&tq sz s.C s.Q [] s.Q)<;>rw[hq]at hQ
    .simp[CF,tj,hm',gn,fM,hC,hQ]
    .have hw:IntKind.i64.wrap ((s.H.length:Int)+s.B.length)=s.H.length+s.B.length:=wrap_i64 (by omega) (by omega)
     have hd:decide ((0:Int)<(s.H.length:Int)+s.B.length)=decide (0<s.H.length+s.B.length):=by
      rw[xB];simp;omega
     simp[CF,tj,hm',gn,fM,hC,hQ,hw,hd];cases hz:(s.cnt != 0||s.time != 0||decide (0<s.H.length+s.B.length)||s.cl||s.val != 0)
     .have v5:s.uL=false:=hz
      simp[v5]
     .have v5:s.uL=true:=hz
      simp[v5]
end Go.VS.Sp
namespace Go.VS.Sp
def lF(Q:List W):Int:=idx (λw=>w.op==68) 0 Q
end Go.VS.Sp
namespace Go.VS.Sp
theorem afM{Q:List W}:decide (lF Q<0)=!Q.any λw=>w.op==68:=by
 have:=A4 (p:=λw:W=>w.op==68) (l:=Q) (k:=0) (by omega)
 unfold lF;cases h:Q.any λw=>w.op==68
 .rw[h]at this
  have h2:¬0<=idx (λw:W=>w.op==68) 0 Q:=λx=>by simpa using this.1 x
  simp;omega
 .have:=this.2 h
  simp;omega
end Go.VS.Sp
namespace Go.VS.Sp
def dR(K k sz ot:Int):Int:=if(k != K)=true then 8 else if(sz != 0||ot != 0)=true then 2 else 0
def iV(k sz ot:Int):Int:=if(k != 4)=true then 8 else if(decide (sz<1)||decide (100<sz)||(ot != 0&&ot != 1))=true then 2 else 0
def iW(k sz ot:Int):Int:=if(k != 5)=true then 8 else if(decide (sz<1)||decide (100<sz)||ot != 0)=true then 2 else 0
def gZ(k sz ot:Int):Int:=if(k != 6)=true then 8 else if(decide (sz<0)||decide (100<sz)||ot != 0)=true then 2 else 0
def jv(k sz ot:Int):Int:=if(k != 8)=true then 8 else if(decide (sz<1)||decide (100<sz)||decide (ot<1)||decide (1099511627776<ot))=true then 2 else 0
def grow(n:Int):List D:=[I' (-1),I' n,I' 0,.sl 1 true [],.sl 5 true [],.sl 1 true [],.sl 2 true [],.b false,I' 0]
abbrev qv(e:Int)(r:List D):Option dN:=some (.val (.tu [.d (.ag (if e=0 then r else ct)),.d (I' e)]) [])
theorem M4(nm:D)(k sz ot:Int):ev P (.call sX [.d (.ag [nm,I' k,I' sz,I' ot])] [])=qv (dR 1 k sz ot) gn:=by
 rw[au Xx rfl];unfold dR;cases hk:k != 1
 .cases hb:(sz != 0||ot != 0)<;>simp[EA,hk,hb,gn,ct]
 .simp[EA,hk,ct]
theorem M5(nm:D)(k sz ot:Int):ev P (.call sY [.d (.ag [nm,I' k,I' sz,I' ot])] [])=qv (dR 2 k sz ot) gn:=by
 rw[au Xz rfl];unfold dR;cases hk:k != 2
 .cases hb:(sz != 0||ot != 0)<;>simp[EC,hk,hb,gn,ct]
 .simp[EC,hk,ct]
theorem Fe(nm:D)(k sz ot:Int):ev P (.call uA [.d (.ag [nm,I' k,I' sz,I' ot])] [])=qv (dR 9 k sz ot) gn:=by
 rw[au adU rfl];unfold dR;cases hk:k != 9
 .cases hb:(sz != 0||ot != 0)<;>simp[LY,hk,hb,gn,ct]
 .simp[LY,hk,ct]
theorem uM(nm:D)(k sz ot:Int):ev P (.call uu [.d (.ag [nm,I' k,I' sz,I' ot])] [])=qv (iV k sz ot) (grow sz):=by
 rw[au adO rfl];unfold iV;cases hk:k != 4
 .cases hb:(decide (sz<1)||decide (100<sz)||(ot != 0&&ot != 1))<;>simp[LS,hk,hb,grow,ct]
 .simp[LS,hk,ct]
theorem uN(nm:D)(k sz ot:Int):ev P (.call uw [.d (.ag [nm,I' k,I' sz,I' ot])] [])=qv (iW k sz ot) gn:=by
 rw[au adP rfl];unfold iW;cases hk:k != 5
 .cases hb:(decide (sz<1)||decide (100<sz)||ot != 0)<;>simp[LU,hk,hb,gn,ct]
 .simp[LU,hk,ct]
theorem Ff(nm:D)(k sz ot:Int):ev P (.call ux [.d (.ag [nm,I' k,I' sz,I' ot])] [])=qv (gZ k sz ot) gn:=by
 rw[au adQ rfl];unfold gZ;cases hk:k != 6
 .cases hb:(decide (sz<0)||decide (100<sz)||ot != 0)<;>simp[LV,hk,hb,gn,ct]
 .simp[LV,hk,ct]
theorem uO(nm:D)(k sz ot:Int):ev P (.call uz [.d (.ag [nm,I' k,I' sz,I' ot])] [])=qv (jv k sz ot) (grow sz):=by
 rw[au adT rfl];unfold jv;cases hk:k != 8
 .cases hb:(decide (sz<1)||decide (100<sz)||decide (ot<1)||decide (1099511627776<ot))<;>simp[LX,hk,hb,grow,ct]
 .simp[LX,hk,ct]
end Go.VS.Sp
namespace Go.VS.Sp
theorem W.neq{w w':W}(h:¬w=w'):(!w.task==w'.task||(!w.op==w'.op||(!w.value==w'.value||(!w.prio==w'.prio||!w.case==w'.case))))=true:=by
 cases hb:(!w.task==w'.task||(!w.op==w'.op||(!w.value==w'.value||(!w.prio==w'.prio||!w.case==w'.case))))
 .exfalso;apply h
  simp at hb;cases w;cases w';simp at hb⊢;exact hb
 .rfl
def K.pl(c:K):K:=⟨c.task,false,c.log⟩
def S.pl(s:S):S:=⟨s.own,s.cnt,s.time,false,s.H,false,s.Q,false,s.B,false,s.C.map K.pl,s.cl,s.val⟩
def cW(n:Int):Bool:=decide (0<=n)&&decide (n<16)
end Go.VS.Sp
namespace Go.VS.Sp
def ck(n:Int)(b:Bool):Int:=if n=0 then(if b then 0 else 1)else n
theorem zf(nl:Bool):ev P (.call qo [.d (I' 1),.d (qD nl [])] [])=some (.val (.d (I' 0)) []):=by
 exact uI nl []
theorem afN(nl:Bool):ev P (.call qo [.d (I' 2),.d (qD nl [])] [])=some (.val (.d (I' 0)) []):=by
 have hl:ev P (.loop 0 [0,1,16,17,18] vR [(0,.d (I' 2)),(1,.d (qD nl [])),(16,.d (qD nl [])),(17,.d (I' 0)),(18,.d (I' 0))] [])=some (.out (.exit 0) [] []):=
  Fc 2 nl [] (by simp) [] [] rfl
 rw[au MS rfl];simp[y8,hl]
theorem afO(H B:List Int)(C:List K):decide ((0:Int)<(H.length:Int)+B.length+C.length)=!(H.isEmpty&&(B.isEmpty&&C.isEmpty)):=by
 cases H<;>cases B<;>cases C<;>simp<;>omega
theorem afP(H:List Int)(C:List K):decide ((0:Int)<(H.length:Int)+C.length)=!(H.isEmpty&&C.isEmpty):=by
 cases H<;>cases C<;>simp<;>omega
theorem M6{α:Type}(H:List α):decide (0<H.length)=!H.isEmpty:=by
 cases H<;>simp
def bare(own cnt time:Int)(qn:Bool):S:=⟨own,cnt,time,true,[],qn,[],true,[],true,[],false,0⟩
theorem SP(n:Int):ev P (.call He [.d (I' n)] [])=some (.val (.d (.b (cW n))) []):=by
 rw[au XK rfl];simp[L3,cW]
def pP(s:S):Bool:=!(s.own != -1&&!cW s.own)&&!(s.cnt != 0||s.time != 0||s.val != 0||s.cl||decide ((0:Int)<(s.H.length:Int)+s.B.length+s.C.length))
theorem afQ(s:S)(hq:s.Q=[])(hs:s.sm):ev P (.call KP [.d (.ag s.row)] [])=some (.val (.d (.b (pP s))) []):=by
 obtain⟨own,cnt,time,hn,H,qn,Q,bn,B,cn,C,cl,val⟩:=s;simp only at hq;subst hq;obtain⟨h1,h2,h3,h4,_⟩:=hs;simp only at h1 h2 h4;have hw1:IntKind.i64.wrap ((H.length:Int)+B.length)=H.length+B.length:=wrap_i64 (by omega) (by omega)
 have dO:IntKind.i64.wrap ((H.length:Int)+B.length+C.length)=H.length+B.length+C.length:=wrap_i64 (by omega) (by omega)
 have hl:∀row:List D,ev P (.loop 0 [1,61,62,63] EK [(1,.d (.ref row)),(61,.d (qD qn [])),(62,.d (I' 0)),(63,.d (I' 0))] [])=some (.out (.exit 0) [] []):=by
  intro row;rw[bT]
  conv=>lhs;arg 4;unfold EK
  simp
 rw[au XJ rfl];unfold pP;cases hA:(own != -1&&!cW own)
 .cases hB:(cnt != 0||time != 0||val != 0||cl||decide ((0:Int)<(H.length:Int)+B.length+C.length))
  .simp[EL,SP,hA,hw1,dO,hB,afN,hl]
  .simp[EL,SP,hA,hw1,dO,hB]
 .simp[EL,SP,hA]
theorem SQ(nm:D)(k sz ot:Int)(s:S)(hq:s.Q=[])(hs:s.sm):
  ev P (.call ql [.d (.ag [nm,I' k,I' sz,I' ot]),.d (.ag s.row)] [])=some (.val (.d (I' (ck (dR 1 k sz ot) (pP s)))) []):=by
 have hv:=afQ s hq hs;rw[au Xy rfl];unfold ck;cases hm:dR 1 k sz ot==0
 .have hm':dR 1 k sz ot≠0:=by simpa using hm
  have hm2:(dR 1 k sz ot != 0)=true:=by simpa using hm'
  simp[EB,M4,hm',hm2,ct]
 .have hm':dR 1 k sz ot=0:=by simpa using hm
  generalize pP s=b at *;simp[EB,M4,hm',gn,hv];cases b<;>simp
def qw(sz:Int)(s:S):Bool:=!(s.own != -1||decide (s.cnt<0)||decide (sz<s.cnt))&&!(s.time != 0||decide ((0:Int)<(s.H.length:Int)+s.B.length+s.C.length)||s.cl||s.val != 0)
theorem SR(nm:D)(k sz ot:Int)(s:S)(hq:s.Q=[])(hs:s.sm):
  ev P (.call qZ [.d (.ag [nm,I' k,I' sz,I' ot]),.d (.ag s.row)] [])=some (.val (.d (I' (ck (iV k sz ot) (qw sz s)))) []):=by
 obtain⟨own,cnt,time,hn,H,qn,Q,bn,B,cn,C,cl,val⟩:=s;simp only at hq;subst hq;obtain⟨h1,h2,h3,h4,_⟩:=hs;simp only at h1 h2 h4;have hw1:IntKind.i64.wrap ((H.length:Int)+B.length)=H.length+B.length:=wrap_i64 (by omega) (by omega)
 have dO:IntKind.i64.wrap ((H.length:Int)+B.length+C.length)=H.length+B.length+C.length:=wrap_i64 (by omega) (by omega)
 have hl:∀(o row:List D),ev P (.loop 0 [2,3,39,40] EE [(2,.d (.ref o)),(3,.d (.ref row)),(39,.d (I' 0)),(40,.d (I' 0))] [])=some (.out (.exit 0) [(3,.d (.ref row))] []):=by
  intro o row;rw[bT]
  conv=>lhs;arg 4;unfold EE
  simp
 rw[au XB rfl];unfold ck qw;cases hm:iV k sz ot==0
 .have hm':iV k sz ot≠0:=by simpa using hm
  have hm2:(iV k sz ot != 0)=true:=by simpa using hm'
  simp[uD,uM,hm',hm2,ct]
 .have hm':iV k sz ot=0:=by simpa using hm
  cases hA:(own != -1||decide (cnt<0)||decide (sz<cnt))
  .cases hB:(time != 0||decide ((0:Int)<(H.length:Int)+B.length+C.length)||cl||val != 0)
   .simp[uD,uM,hm',grow,hA,hw1,dO,hB,zf,hl]
   .simp[uD,uM,hm',grow,hA,hw1,dO,hB,zf,hl]
  .simp[uD,uM,hm',grow,hA]
def okB(s:S):Bool:=!(s.own != -1||decide (s.cnt<0)||decide (1099511627776<s.cnt))&&!(s.time != 0||s.val != 0||s.cl||decide ((0:Int)<(s.H.length:Int)+s.B.length+s.C.length))
theorem afR{k sz ot:Int}(h:iW k sz ot=0):¬sz<=0:=by
 unfold iW at h;split at h
 .simp at h
 .split at h
  .simp at h
  .rename_i h2
   simp at h2;omega
theorem SS(nm:D)(k sz ot:Int)(s:S)(hq:s.Q=[])(hs:s.sm):
  ev P (.call oG [.d (.ag [nm,I' k,I' sz,I' ot]),.d (.ag s.row)] [])=some (.val (.d (I' (ck (iW k sz ot) (okB s)))) []):=by
 obtain⟨own,cnt,time,hn,H,qn,Q,bn,B,cn,C,cl,val⟩:=s;simp only at hq;subst hq;obtain⟨h1,h2,h3,h4,_⟩:=hs;simp only at h1 h2 h4;have hw1:IntKind.i64.wrap ((H.length:Int)+B.length)=H.length+B.length:=wrap_i64 (by omega) (by omega)
 have dO:IntKind.i64.wrap ((H.length:Int)+B.length+C.length)=H.length+B.length+C.length:=wrap_i64 (by omega) (by omega)
 have hl:∀(row:List D),ev P (.loop 0 [3,71,72,73] EF [(3,.d (.ref row)),(71,.d (qD qn [])),(72,.d (I' 0)),(73,.d (I' 0))] [])=some (.out (.exit 0) [] []):=by
  intro row;rw[bT]
  conv=>lhs;arg 4;unfold EF
  simp
 rw[au XC rfl];unfold ck okB;cases hm:iW k sz ot==0
 .have hm':iW k sz ot≠0:=by simpa using hm
  have hm2:(iW k sz ot != 0)=true:=by simpa using hm'
  simp[uE,uN,hm',hm2,ct]
 .have hm':iW k sz ot=0:=by simpa using hm
  have hz:=afR hm';cases hA:(own != -1||decide (cnt<0)||decide (1099511627776<cnt))
  .cases hB:(time != 0||val != 0||cl||decide ((0:Int)<(H.length:Int)+B.length+C.length))
   .simp[uE,uN,hm',hz,gn,hA,hw1,dO,hB,zf,hl]
   .simp[uE,uN,hm',hz,gn,hA,hw1,dO,hB,zf,hl]
  .simp[uE,uN,hm',hz,gn,hA]
end Go.VS.Sp
namespace Go.VS.Sp
theorem CU(n:Int):ev P (.call Eo [.d (I' n)] [])=some (.val (.d (.b (cW n))) []):=by
 rw[au XM rfl];simp[L4,cW]
def tr:Option Int->List Int->Bool
 |_,[]=>true
 |p,t::r=>!(!cW t||p.any λq=>decide (t<=q))&&tr (some t) r
def CV(s:S):Bool:=(s.own != -1&&(!cW s.own||decide (0<s.H.length)))||s.cnt != 0||s.time != 0||decide (0<s.B.length)||decide (0<s.C.length)||s.cl||s.val != 0
def okW(s:S):Bool:=!CV s&&tr none s.H
theorem afS{own cnt time val:Int}{hn qn bn cn cl:Bool}{H B:List Int}{C:List K}(hn1:H.length<=1000000):∀(suf pre:List Int),H=pre++suf ->
  ev P (.loop 0 [1,52,53,54] AQ [(1,.d (.ref [I' own,I' cnt,I' time,hD hn H,qD qn [],hD bn B,cD cn C,.b cl,I' val])),(52,.d (hD hn H)),(53,.d (I' H.length)),(54,.d (I' pre.length))] []) =
   if tr pre.getLast? suf=true then some (.out (.exit 0) [(1,.d (.ref [I' own,I' cnt,I' time,hD hn H,qD qn [],hD bn B,cD cn C,.b cl,I' val]))] [])else some (.out .ret [(2,.d (.b false))] []):=by
 intro suf;induction suf with
 |nil =>
  intro pre hl
  have:H.length=pre.length:=by simp[hl]
  rw[bT]
  conv=>lhs;arg 4;unfold AQ
  simp[this,tr]
 |cons t suf ih =>
  intro pre hl;have hg:H[pre.length]?=some t:=by simp[hl]
  have hlt:(pre.length:Int)<H.length:=by simp[hl];omega
  have bD:=ih (pre++[t]) (by simp[hl])
  have e1:tr pre.getLast? (t::suf)=(!(!cW t||pre.getLast?.any λq=>decide (t<=q))&&tr (some t) suf):=rfl
  rw[e1];simp only[Wh,Wi,Option.some_or]at bD;generalize tr (some t) suf=dd at *;simp at bD;rw[bT]
  conv=>lhs;arg 4;unfold AQ
  cases h1:cW t
  .simp[hlt,hg,CU,h1]
  .rcases Aq pre with rfl |⟨pre',p,rfl⟩
   .have jF:0<H.length:=by simp[hl]
    have CQ:H[0]=t:=by simp[hl]
    simp[vY]at bD;simp[jF,CQ,CU,h1,vY];exact bD
   .have mC:H[pre'.length]?=some p:=by simp[hl]
    have hlen:((pre'.length:Int)+1<H.length):=by simp[hl];omega
    have hw:IntKind.i64.wrap ((pre'.length:Int)+1 - 1)=pre'.length:=by rw[wrap_i64 (by omega) (by omega)];omega
    have h0:(0:Int)<pre'.length+1:=by omega
    have CR:(0:Int)<=pre'.length+1:=by omega
    have dO:IntKind.i64.wrap (pre'.length:Int)=pre'.length:=wrap_i64 (by omega) (by omega)
    have jS:IntKind.i64.wrap ((pre'.length:Int)+1+1)=pre'.length+1+1:=wrap_i64 (by omega) (by omega)
    simp only[GI,lT,tY]at hg;simp at bD;cases h3:decide (t<=p)
    .simp[hlen,hg,mC,dO,h0,CR,CU,h1,h3,jS]
     exact bD
    .simp[hlen,hg,mC,dO,h0,CR,CU,h1,h3]
theorem afT{own cnt time val:Int}{hn qn bn cn cl:Bool}{H B:List Int}{C:List K}:ev P (.call Ld [.d (.ag [I' own,I' cnt,I' time,hD hn H,qD qn [],hD bn B,cD cn C,.b cl,I' val])] [])=some (.val (.d (.b true)) []):=by
 have hl:ev P (.loop 0 [1,13,14,15] E0 [(1,.d (.ref [I' own,I' cnt,I' time,hD hn H,qD qn [],hD bn B,cD cn C,.b cl,I' val])),(13,.d (qD qn [])),(14,.d (I' 0)),(15,.d (I' 0))] [])=some (.out (.exit 0) [(1,.d (.ref [I' own,I' cnt,I' time,hD hn H,qD qn [],hD bn B,cD cn C,.b cl,I' val]))] []):=by
  rw[bT]
  conv=>lhs;arg 4;unfold E0
  simp
 rw[au X0 rfl];simp[tg,zf,hl]
theorem afU(s:S)(hq:s.Q=[])(hs:s.sm):ev P (.call KR [.d (.ag s.row)] [])=some (.val (.d (.b (okW s))) []):=by
 have hh:=hs.h;have hQ:=afT (own:=s.own) (cnt:=s.cnt) (time:=s.time) (val:=s.val) (hn:=s.hn) (qn:=s.qn) (bn:=s.bn) (cn:=s.cn) (cl:=s.cl) (H:=s.H) (B:=s.B) (C:=s.C);obtain⟨own,cnt,time,hn,H,qn,Q,bn,B,cn,C,cl,val⟩:=s;simp only at hq;subst hq;simp only at hQ hh;have hL:ev P (.loop 0 [1,52,53,54] AQ [(1,.d (.ref [I' own,I' cnt,I' time,hD hn H,qD qn [],hD bn B,cD cn C,.b cl,I' val])),(52,.d (hD hn H)),(53,.d (I' H.length)),(54,.d (I' 0))] []) =
   if tr none H=true then some (.out (.exit 0) [(1,.d (.ref [I' own,I' cnt,I' time,hD hn H,qD qn [],hD bn B,cD cn C,.b cl,I' val]))] [])else some (.out .ret [(2,.d (.b false))] []):=afS hh H [] rfl
 unfold okW;simp only;rw[au XL rfl];generalize tr none H=dd at *;unfold CV;cases hA:((own != -1&&(!cW own||decide (0<H.length)))||cnt != 0||time != 0||decide (0<B.length)||decide (0<C.length)||cl||val != 0)
 .cases dd
  .simp at hL
   simp[EM,CU,hA,hL]
  .simp at hL
   simp[EM,CU,hA,hL,hQ]
 .simp[EM,CU,hA]
theorem SU(nm:D)(k sz ot:Int)(s:S)(hq:s.Q=[])(hs:s.sm):
  ev P (.call l5 [.d (.ag [nm,I' k,I' sz,I' ot]),.d (.ag s.row)] [])=some (.val (.d (I' (ck (dR 2 k sz ot) (okW s)))) []):=by
 have hv:=afU s hq hs;rw[au XA rfl];unfold ck;cases hm:dR 2 k sz ot==0
 .have hm':dR 2 k sz ot≠0:=by simpa using hm
  have hm2:(dR 2 k sz ot != 0)=true:=by simpa using hm'
  simp[ED,M5,hm',hm2,ct]
 .have hm':dR 2 k sz ot=0:=by simpa using hm
  generalize okW s=b at *;simp[ED,M5,hm',gn,hv];cases b<;>simp
def qx(sz:Int)(s:S):Bool:=!(s.own != -1||decide (s.cnt<0)||decide (sz<s.cnt)||decide (s.time<0)||decide (1099511627776<s.time))&&!(s.val != 0||s.cl||decide ((0:Int)<(s.H.length:Int)+s.B.length+s.C.length))
theorem SV(nm:D)(k sz ot:Int)(s:S)(hq:s.Q=[])(hs:s.sm):
  ev P (.call nU [.d (.ag [nm,I' k,I' sz,I' ot]),.d (.ag s.row)] [])=some (.val (.d (I' (ck (jv k sz ot) (qx sz s)))) []):=by
 obtain⟨own,cnt,time,hn,H,qn,Q,bn,B,cn,C,cl,val⟩:=s;simp only at hq;subst hq;obtain⟨h1,h2,h3,h4,_⟩:=hs;simp only at h1 h2 h4;have hw1:IntKind.i64.wrap ((H.length:Int)+B.length)=H.length+B.length:=wrap_i64 (by omega) (by omega)
 have dO:IntKind.i64.wrap ((H.length:Int)+B.length+C.length)=H.length+B.length+C.length:=wrap_i64 (by omega) (by omega)
 have jS:IntKind.i64.wrap ((H.length:Int)+C.length)=H.length+C.length:=wrap_i64 (by omega) (by omega)
 have hl:∀(o row:List D),ev P (.loop 0 [2,3,70,71,72] EH [(2,.d (.ref o)),(3,.d (.ref row)),(70,.d (qD qn [])),(71,.d (I' 0)),(72,.d (I' 0))] [])=some (.out (.exit 0) [] []):=by
  intro o row;rw[bT]
  conv=>lhs;arg 4;unfold EH
  simp
 rw[au XF rfl];unfold ck qx;cases hm:jv k sz ot==0
 .have hm':jv k sz ot≠0:=by simpa using hm
  have hm2:(jv k sz ot != 0)=true:=by simpa using hm'
  simp[uF,uO,hm',hm2,ct]
 .have hm':jv k sz ot=0:=by simpa using hm
  cases hA:(own != -1||decide (cnt<0)||decide (sz<cnt)||decide (time<0)||decide (1099511627776<time))
  .cases hB:(val != 0||cl||decide ((0:Int)<(H.length:Int)+B.length+C.length))
   .simp[uF,uO,hm',grow,hA,hw1,dO,hB,zf,hl]
   .simp[uF,uO,hm',grow,hA,hw1,dO,hB,zf,hl]
  .simp[uF,uO,hm',grow,hA]
end Go.VS.Sp
namespace Go.VS.Sp
theorem afV{f:Nat}{first caps:List D}{p:Int->Bool}(nl:Bool)(l:List Int)(hn:l.length<=1000000)
  (hp:∀a,ev P (.call f (first.map V.d++[.d (I' a)]++caps.map V.d) [])=some (.val (.d (.b (p a))) [])):
  ∀(suf pre:List Int),l=pre++suf ->
  ev P (.loop 0 [0,1,7,8] Mu [(0,.d (hD nl l)),(1,.d (.fn f first caps)),(7,.d (I' l.length)),(8,.d (I' pre.length))] []) =
   if idx p pre.length suf = -1 then some (.out (.exit 0) [] [])else some (.out .ret [(4,.d (I' (idx p pre.length suf)))] []):=by
 intro suf;induction suf with
 |nil =>
  intro pre hl
  have:l.length=pre.length:=by simp[hl]
  rw[bT]
  conv=>lhs;arg 4;unfold Mu
  simp[this,idx]
 |cons w suf ih =>
  intro pre hl;have hg:l[pre.length]?=some w:=by simp[hl]
  have hlt:(pre.length:Int)<l.length:=by simp[hl];omega
  have hnext:IntKind.i64.wrap ((pre.length:Int)+1)=pre.length+1:=wrap_i64 (by omega) (by omega)
  have bD:=ih (pre++[w]) (by simp[hl])
  simp at bD;have iO:=hp w;simp at iO;rw[bT]
  conv=>lhs;arg 4;unfold Mu
  simp[hlt,hg,iO,th];cases hw:p w
  .simp[idx,hw,hnext]
   exact bD
  .have:¬(pre.length:Int) = -1:=by omega
   simp[idx,hw,this]
theorem Yd{f:Nat}{first caps:List D}{p:Int->Bool}(nl:Bool)(l:List Int)(hn:l.length<=1000000)
  (hp:∀a,ev P (.call f (first.map V.d++[.d (I' a)]++caps.map V.d) [])=some (.val (.d (.b (p a))) [])):
  ev P (.call Q2 [.d (hD nl l),.d (.fn f first caps)] [])=some (.val (.d (.b (l.any p))) []):=by
 have hi:ev P (.call QX [.d (hD nl l),.d (.fn f first caps)] [])=some (.val (.d (I' (idx p 0 l))) []):=by
  rw[au aeO rfl];have hl:=afV nl l hn hp l [] rfl;simp at hl;simp[R2,hl];by_cases hc:idx p 0 l = -1<;>simp[hc]
 rw[au aeW rfl];have:=A4 (p:=p) (l:=l) (k:=0) (by omega)
 cases ha:l.any p
 .have hc:¬0<=idx p 0 l:=λh=>by rw[this.1 h]at ha;cases ha
  simp[Mx,hi,hc]
 .have hc:0<=idx p 0 l:=this.2 ha
  simp[Mx,hi,hc]
theorem afW(nl:Bool)(f:Nat)(first caps:List D):ev P (.call ur [.d (qD nl []),.d (.fn f first caps)] [])=some (.val (.d (.b false)) []):=by
 have hL:ev P (.loop 0 [0,1,7,8] vQ [(0,.d (qD nl [])),(1,.d (.fn f first caps)),(7,.d (I' 0)),(8,.d (I' 0))] [])=some (.out (.exit 0) [] []):=by
  rw[bT]
  conv=>lhs;arg 4;unfold vQ
  simp
 have hi:ev P (.call xN [.d (qD nl []),.d (.fn f first caps)] [])=some (.val (.d (I' (-1))) []):=by
  rw[au MR rfl];simp[EJ,hL]
 rw[au Sy rfl];simp[HA,hi]
theorem afX(n:Int):ev P (.call Hh [.d (I' n)] [])=some (.val (.d (.b (num n))) []):=by
 rw[au XS rfl];unfold num;simp[Me]
theorem M7(n:Int):ev P (.call Hp [.d (I' n)] [])=some (.val (.d (.b (!num n))) []):=by
 rw[au aeX rfl];simp[Sa,afX]
def v7(sz:Int)(s:S):Bool:=s.own != -1||s.cnt != 0||s.time != 0||s.val != 0||decide ((0:Int)<(s.H.length:Int)+s.C.length)||decide (sz<s.B.length)
def mU(sz:Int)(s:S):Bool:=!v7 sz s&&!s.B.any λn=>!num n
theorem afY(o:List D)(ho:o.length=4){own cnt time val:Int}{hn qn bn cn cl:Bool}{H B:List Int}{C:List K}:ev P (.call Ll [.d (.ag o),.d (.ag [I' own,I' cnt,I' time,hD hn H,qD qn [],hD bn B,cD cn C,.b cl,I' val])] [])=some (.val (.d (.b false)) []):=by
 rw[au X1 rfl];simp[Mz,afW,ho,fA,ze]
theorem afZ(nm:D)(k sz ot:Int)(s:S)(hq:s.Q=[])(hs:s.sm):ev P (.call KX [.d (.ag [nm,I' k,I' sz,I' ot]),.d (.ag s.row)] [])=some (.val (.d (.b (mU sz s))) []):=by
 obtain⟨own,cnt,time,hn,H,qn,Q,bn,B,cn,C,cl,val⟩:=s;simp only at hq;subst hq;obtain⟨h1,h2,h3,h4,_⟩:=hs;simp only at h1 h2 h4;have hw1:IntKind.i64.wrap ((H.length:Int)+B.length)=H.length+B.length:=wrap_i64 (by omega) (by omega)
 have dO:IntKind.i64.wrap ((H.length:Int)+B.length+C.length)=H.length+B.length+C.length:=wrap_i64 (by omega) (by omega)
 have jS:IntKind.i64.wrap ((H.length:Int)+C.length)=H.length+C.length:=wrap_i64 (by omega) (by omega)
 have hB:=Yd (f:=Hp) (first:=[]) (caps:=[]) (p:=λn=>!num n) bn B h2 (by intro a;simp[M7])
 have hV:=afY [nm,I' k,I' sz,I' ot] rfl (own:=own) (cnt:=cnt) (time:=time) (val:=val) (hn:=hn) (qn:=qn) (bn:=bn) (cn:=cn) (cl:=cl) (H:=H) (B:=B) (C:=C);have hl:∀o:List D,ev P (.loop 0 [2,3,53,54] ET [(2,.d (.ref o)),(3,.d (.ref [I' own,I' cnt,I' time,hD hn H,qD qn [],hD bn B,cD cn C,.b cl,I' val])),(53,.d (I' 0)),(54,.d (I' 0))] [])=some (.out (.exit 0) [(2,.d (.ref o)),(3,.d (.ref [I' own,I' cnt,I' time,hD hn H,qD qn [],hD bn B,cD cn C,.b cl,I' val]))] []):=by
  intro o;rw[bT]
  conv=>lhs;arg 4;unfold ET
  simp
 unfold mU;simp only;rw[au XQ rfl];generalize (B.any λn=>!num n)=bb at *
 unfold v7;cases hA:(own != -1||cnt != 0||time != 0||val != 0||decide ((0:Int)<(H.length:Int)+C.length)||decide (sz<B.length))
 .cases bb
  .simp[vS,hA,jS,hB,zf,hl,hV]
  .simp[vS,hA,jS,hB]
 .simp[vS,hA,jS]
theorem M8(nm:D)(k sz ot:Int)(s:S)(hq:s.Q=[])(hs:s.sm):
  ev P (.call gr [.d (.ag [nm,I' k,I' sz,I' ot]),.d (.ag s.row)] [])=some (.val (.d (I' (ck (gZ k sz ot) (mU sz s)))) []):=by
 have hv:=afZ nm k sz ot s hq hs;rw[au XE rfl];unfold ck;cases hm:gZ k sz ot==0
 .have hm':gZ k sz ot≠0:=by simpa using hm
  have hm2:(gZ k sz ot != 0)=true:=by simpa using hm'
  simp[EG,Ff,hm',hm2,ct]
 .have hm':gZ k sz ot=0:=by simpa using hm
  generalize mU sz s=b at *;cases b<;>simp[EG,Ff,hm',gn,hv]
def uP(s:S):Bool:=s.own == -1&&s.cnt==0&&s.time==0&&s.H.isEmpty&&s.B.isEmpty&&s.C.isEmpty
def okF(s:S):Bool:=uP s&&num s.val&&(s.cl||s.val==0)
theorem Ye{α:Type}(l:List α):((l.length:Int)==0)=l.isEmpty:=by
 cases l<;>simp;omega
theorem af0{own cnt time val:Int}{hn qn bn cn cl:Bool}{H B:List Int}{C:List K}:ev P (.call Lr [.d (.ag [I' own,I' cnt,I' time,hD hn H,qD qn [],hD bn B,cD cn C,.b cl,I' val])] [])=some (.val (.d (.b (uP ⟨own,cnt,time,hn,H,qn,[],bn,B,cn,C,cl,val⟩))) []):=by
 rw[au X4 rfl];unfold uP;simp[MD,Ye]
theorem CW(n:Int):ev P (.call K6 [.d (I' n)] [])=some (.val (.d (.b (num n))) []):=by
 rw[au aeD rfl];unfold num;simp[RU]
theorem af1{own cnt time val:Int}{hn qn bn cn cl:Bool}{H B:List Int}{C:List K}:ev P (.call Ls [.d (.ag [I' own,I' cnt,I' time,hD hn H,qD qn [],hD bn B,cD cn C,.b cl,I' val])] [])=some (.val (.d (.b true)) []):=by
 have hl:ev P (.loop 0 [1,9,10,11] E2 [(1,.d (.ref [I' own,I' cnt,I' time,hD hn H,qD qn [],hD bn B,cD cn C,.b cl,I' val])),(9,.d (qD qn [])),(10,.d (I' 0)),(11,.d (I' 0))] [])=some (.out (.exit 0) [(1,.d (.ref [I' own,I' cnt,I' time,hD hn H,qD qn [],hD bn B,cD cn C,.b cl,I' val]))] []):=by
  rw[bT]
  conv=>lhs;arg 4;unfold E2
  simp
 rw[au X5 rfl];simp[HQ,zf,hl]
theorem af2(s:S)(hq:s.Q=[]):ev P (.call K5 [.d (.ag s.row)] [])=some (.val (.d (.b (okF s))) []):=by
 obtain⟨own,cnt,time,hn,H,qn,Q,bn,B,cn,C,cl,val⟩:=s;simp only at hq;subst hq;have hP:=af0 (own:=own) (cnt:=cnt) (time:=time) (val:=val) (hn:=hn) (qn:=qn) (bn:=bn) (cn:=cn) (cl:=cl) (H:=H) (B:=B) (C:=C);have hQ:=af1 (own:=own) (cnt:=cnt) (time:=time) (val:=val) (hn:=hn) (qn:=qn) (bn:=bn) (cn:=cn) (cl:=cl) (H:=H) (B:=B) (C:=C);unfold okF;simp only;generalize uP ⟨own,cnt,time,hn,H,qn,[],bn,B,cn,C,cl,val⟩=pl at *;rw[au XX rfl];cases pl
 .simp[y9,hP]
 .cases hv:num val
  .simp[y9,hP,CW,hv]
  .cases cl<;>simp[y9,hP,CW,hv,hQ]
theorem SX(nm:D)(k sz ot:Int)(s:S)(hq:s.Q=[]):
  ev P (.call qm [.d (.ag [nm,I' k,I' sz,I' ot]),.d (.ag s.row)] [])=some (.val (.d (I' (ck (dR 9 k sz ot) (okF s)))) []):=by
 have hv:=af2 s hq;rw[au XH rfl];unfold ck;cases hm:dR 9 k sz ot==0
 .have hm':dR 9 k sz ot≠0:=by simpa using hm
  have hm2:(dR 9 k sz ot != 0)=true:=by simpa using hm'
  simp[EI,Fe,hm',hm2,ct]
 .have hm':dR 9 k sz ot=0:=by simpa using hm
  generalize okF s=b at *;cases b<;>simp[EI,Fe,hm',gn,hv]
end Go.VS.Sp
namespace Go.VS.Sp
theorem Ih(n:Int):ev P (.call AO [.d (I' n)] [])=some (.val (.d (.b false)) []):=by
 rw[au SJ rfl];simp[HV]
theorem SY(n:Int):ev P (.call CC [.d (I' n)] [])=some (.val (.d (.b false)) []):=by
 rw[au X8 rfl];simp[MK]
theorem Ii(a b:Int):ev P (.call Hw [.d (I' a),.d (I' b)] [])=some (.val (.d (.b (decide (a<b)))) []):=by
 rw[au X7 rfl];by_cases h:a<b<;>simp[MJ,Ih,h]
def iX(l:List Int):Prop:=l.Pairwise (·<=·)
def bI(t:Int)(l:List Int):Nat:=(l.takeWhile λx=>decide (x<t)).length
theorem tv(t:Int):∀(l:List Int),bI t l<=l.length
 | []=>by simp[bI]
 |w::q=>by
  have:=tv t q;unfold bI at *;simp only[oz];split<;>simp;omega
theorem Fg{t x:Int}:∀{l:List Int}{k:Nat},iX l->l[k]?=some x->(k<bI t l↔x<t)
 | [],k,_,h=>by simp at h
 |a::q,0,_,h=>by
  have:a=x:=by simpa using h
  subst this;by_cases hp:a<t<;>simp[bI,oz,hp]
 |a::q,k+1,hd,h=>by
  have hd':=gI.1 hd;have hq:q[k]?=some x:=by simpa using h
  have hw:x∈q:=kY hq;have h1:=hd'.1 x hw;have ih:=Fg (t:=t) (k:=k) hd'.2 hq;by_cases hp:a<t
  .have:bI t (a::q)=bI t q+1:=by simp[bI,oz,hp]
   rw[this,<-ih];omega
  .have:bI t (a::q)=0:=by simp[bI,oz,hp]
   rw[this];constructor<;>intro h3<;>omega
theorem Fh{i j:Nat}(h:i+j<=4000000):IntKind.i64.wrap ((IntKind.u64.wrap ((i:Int)+j)).fdiv (2 ^ min 1 IntKind.u64.bits))=(((i+j) / 2:Nat):Int):=by
 have h1:IntKind.u64.wrap ((i:Int)+j)=(i:Int)+j:=by
  have e0:IntKind.u64.bits=64:=rfl;simp only[IntKind.wrap,e0,IntKind.signed,Ap,eR,dG];omega
 have h2:(2:Int) ^ min 1 IntKind.u64.bits=2:=by decide
 rw[h1,h2,Pk _ (by omega),wrap_i64 (by omega) (by omega)]
 omega
theorem SZ(nl:Bool)(l:List Int)(t:Int)(hn:l.length<=1000000)(hA:iX l):∀(n i j:Nat),j - i<=n->i<=bI t l->bI t l<=j->j<=l.length ->
  ev P (.loop 0 [0,1,6,7,8] HS [(0,.d (hD nl l)),(1,.d (I' t)),(6,.d (I' l.length)),(7,.d (I' i)),(8,.d (I' j))] []) =
   some (.out (.exit 0) [(0,.d (hD nl l)),(1,.d (I' t)),(6,.d (I' l.length)),(7,.d (I' (bI t l)))] []):=by
 intro n;induction n with
 |zero =>
  intro i j h1 h2 h3 h4;have e1:i=bI t l:=by omega
  have e2:j=bI t l:=by omega
  rw[bT]
  conv=>lhs;arg 4;unfold HS
  simp[e1,e2]
 |succ n ih =>
  intro i j h1 h2 h3 h4;by_cases hij:i=j
  .have e1:i=bI t l:=by omega
   have e2:j=bI t l:=by omega
   rw[bT]
   conv=>lhs;arg 4;unfold HS
   simp[e1,e2]
  .have hlt:i<j:=by omega
   have hw1:IntKind.i64.wrap ((i:Int)+j)=i+j:=wrap_i64 (by omega) (by omega)
   have hm:=Fh (i:=i) (j:=j) (by omega)
   generalize zg:(i+j) / 2=m at hm;have hm1:i<=m:=by omega
   have hm2:m<j:=by omega
   have hml:m<l.length:=by omega
   obtain⟨x,hx⟩:∃x,l[m]?=some x:=⟨l[m]'(by omega),by simp⟩
   have hb:=Fg (t:=t) hA hx;have mE:l[m]=x:=by rw[qM hml]at hx;exact yJ hx
   have CX:IntKind.i64.wrap ((m:Int)+1)=m+1:=wrap_i64 (by omega) (by omega)
   have A7:(m:Int)<l.length:=by omega
   rw[bT]
   conv=>lhs;arg 4;unfold HS
   by_cases hp:x<t
   .have bD:=ih (m+1) j (by omega) (by omega) (by omega) h4
    simp at bD;simp[hlt,hw1,hm,CX,hml,A7,hx,mE,Ii,hp];exact bD
   .have bD:=ih i m (by omega) (by omega) (by omega) (by omega)
    simp[hlt,hw1,hm,hml,A7,hx,mE,Ii,hp];exact bD
theorem S1(nl:Bool)(l:List Int)(t:Int)(hn:l.length<=1000000)(hA:iX l):
  ev P (.call Rb [.d (hD nl l),.d (I' t)] [])=some (.val (.tu [.d (I' (bI t l)),.d (.b (decide (l[bI t l]?=some t)))]) []):=by
 have hb:=tv t l;have hl:=SZ nl l t hn hA l.length 0 l.length (by omega) (by omega) hb (by omega)
 simp at hl;by_cases h:bI t l<l.length
 .obtain⟨x,hx⟩:∃x,l[bI t l]?=some x:=⟨l[bI t l],by simp⟩
  have h2:(bI t l:Int)<l.length:=by omega
  rw[hx];generalize bI t l=B at *;have mE:l[B]=x:=by rw[qM h]at hx;exact yJ hx
  by_cases xW:x=t
  .subst xW
   rw[au SF rfl];simp[HT,hl,h,h2,mE]
  .have S2:(x==t)=false:=by simpa using xW
   rw[au SF rfl];simp[HT,hl,h,h2,mE,SY,S2,xW]
 .have h2:¬(bI t l:Int)<l.length:=by omega
  have h3:l[bI t l]?=none:=by simp;omega
  rw[h3];rw[au SF rfl];simp[HT,hl,h,h2]
end Go.VS.Sp
namespace Go.VS.Sp
structure Cl where
 task:Int
 op:Int
 value:Int
 prio:Int
 now:Int
def Cl.row(c:Cl):List D:=[I' c.task,I' c.op,I' c.value,I' c.prio,I' c.now]
abbrev R4:=S×Int×Bool×Int
def er(s:S)(e:Int):R4:=(s,0,false,e)
def gd(s:S):R4:=(s,0,true,0)
def eM(s:S)(c:Cl):R4 :=
 if c.op==52 then(if s.own==c.task then gd {s with own:=-1}else er s 20)
 else if s.own == -1 then gd {s with own:=c.task}
 else if c.op==51 then er s 0
 else if s.own==c.task then er s 17 else er s 29
def eV(t:Int)(l:List Int):List Int:=l.take (bI t l)++t::l.drop (bI t l)
def eW(s:S)(c:Cl):R4 :=
 if c.op==54 then(if decide (c.task∈s.H)then gd {s with H:=s.H.filter (λx=>x != c.task)}else er s 20)
 else if c.op==56 then(if s.own==c.task then gd {s with own:=-1}else er s 20)
 else if(decide (c.task∈s.H)||s.own==c.task)then er s 17
 else if(!(s.own == -1)||(c.op==55&&decide (0<s.H.length)))then er s 29
 else if c.op==55 then gd {s with own:=c.task}else gd {s with H:=eV c.task s.H}
def eS(sz:Int)(s:S)(c:Cl):R4 :=
 if c.op==62 then(if decide (sz<s.cnt+c.value)then er s 17 else gd {s with cnt:=s.cnt+c.value})
 else if decide (c.value<=s.cnt)then gd {s with cnt:=s.cnt - c.value}
 else if c.op==61 then er s 0 else er s 29
def eB(sz:Int)(s:S):R4 :=
 if s.val+1==sz then(if s.cnt==1099511627776 then er {s with val:=s.val+1} 4 else({s with val:=0,cnt:=s.cnt+1},s.val,true,0))
 else({s with val:=s.val+1},s.val,true,0)
def eC(rm:Int)(s:S)(c:Cl):R4 :=
 if c.op==64 then(if s.cl then er s 0 else if decide (rm<=s.B.length)then er s 29 else gd {s with B:=s.B++[c.value]})
 else if c.op==65 then match s.B with
  |b::r=>({s with B:=r},b,true,0)
  | []=>if s.cl then er s 0 else er s 29
 else(if s.cl then er s 17 else gd {s with cl:=true})
def qy(s:S):List Int:=s.C.map K.task
def bK(s:S)(t:Int):Nat:=bI t (qy s)
def mF(s:S)(t:Int):Bool:=decide ((qy s)[bK s t]?=some t)
def eT(rm:Int)(s:S)(c:Cl):R4 :=
 if c.op==69 then(if mF s c.task then er s 6 else gd {s with C:=s.C.take (bK s c.task)++⟨c.task,false,[]⟩::s.C.drop (bK s c.task)})
 else if c.op==71 then(if mF s c.task then gd {s with C:=s.C.take (bK s c.task)++s.C.drop (bK s c.task+1)}else er s 20)
 else if c.op==70 then(if mF s c.task then
  (match s.C[bK s c.task]? with
   |some ⟨_,_,b::r⟩=>({s with C:=s.C.set (bK s c.task) ⟨c.task,false,r⟩},b,true,0)
   |_=>er s 29)else er s 20)
 else(if(s.C.any λx=>decide (rm<=x.log.length))then er s 29 else gd {s with C:=s.C.map λx=>⟨x.task,false,x.log++[c.value]⟩})
def ny(sz ot now:Int)(s:S):S :=
 if decide (sz<=s.cnt+(now - s.time) / ot)then{s with cnt:=sz,time:=now}else{s with cnt:=s.cnt+(now - s.time) / ot,time:=s.time+(now - s.time) / ot*ot}
def eL(sz ot:Int)(s:S)(c:Cl):R4 :=
 if decide (c.now<s.time)then er s 2 else
 if c.op==72 then(if decide ((ny sz ot c.now s).cnt<c.value)then er (ny sz ot c.now s) 29 else gd {ny sz ot c.now s with cnt:=(ny sz ot c.now s).cnt - c.value})
 else gd (ny sz ot c.now s)
def eF(s:S)(c:Cl):R4 :=
 if c.op==74 then(if s.cl then(s,s.val,true,0)else er s 29)
 else if s.cl then er s 17 else gd {s with cl:=true,val:=c.value}
def dm(sz:Int):Int:=if sz > 1 then sz else 1
def raw(k sz ot:Int)(s:S)(c:Cl):R4 :=
 if k=1 then eM s c else if k=2 then eW s c else if k=4 then eS sz s c else if k=5 then eB sz s else if k=6 then eC (dm sz) s c
 else if k=7 then eT (dm sz) s c else if k=8 then eL sz ot s c else eF s c
def fZ(k sz ot:Int):Int :=
 if k=1 then dR 1 k sz ot else if k=2 then dR 2 k sz ot else if k=4 then iV k sz ot else if k=5 then iW k sz ot else if k=6 then gZ k sz ot
 else if k=7 then dQ k sz ot else if k=8 then jv k sz ot else if k=9 then dR 9 k sz ot else 8
def gB(k sz ot:Int)(s:S):Int :=
 if k=1 then ck (dR 1 k sz ot) (pP s)else if k=2 then ck (dR 2 k sz ot) (okW s)else if k=4 then ck (iV k sz ot) (qw sz s)else if k=5 then ck (iW k sz ot) (okB s)else if k=6 then ck (gZ k sz ot) (mU sz s)
 else if k=7 then fN k sz ot s else if k=8 then ck (jv k sz ot) (qx sz s)else if k=9 then ck (dR 9 k sz ot) (okF s)else 8
def iY(k sz:Int):Int:=if k=6\/k=7 then dm sz else sz
def iC(k:Int)(s:S):S:=if k=5 then{s with val:=0}else s
def cU(k sz ot:Int)(s:S):Bool :=
 fZ k sz ot==0&&s.Q.isEmpty&&!(k==5&&(decide (s.val<0)||decide (sz<=s.val)))&&gB k (iY k sz) ot (iC k s)==0
def cC(c:Cl):Bool:=decide (c.task<0)||decide (16<=c.task)||decide (c.prio<0)||decide (9<c.prio)||decide (c.now<0)||decide (1099511627776<c.now)
def dD(k op:Int):Bool :=
 if k=1 then decide (50<=op)&&decide (op<=52)else if k=2 then decide (53<=op)&&decide (op<=56)else if k=4 then decide (60<=op)&&decide (op<=62)else if k=5 then op==63
 else if k=6 then decide (64<=op)&&decide (op<=66)else if k=7 then decide (68<=op)&&decide (op<=71)else if k=8 then op==72||op==75 else op==73||op==74
def fit(k sz:Int)(c:Cl):Bool :=
 if k=4\/c.op=72 then decide (1<=c.value)&&decide (c.value<=sz)else if c.op=64\/c.op=68\/c.op=73 then num c.value else true
def zN:S:=⟨0,0,0,true,[],true,[],true,[],true,[],false,0⟩
def zS:S:=zN.pl
def dU(k sz ot:Int)(s:S)(c:Cl):R4 :=
 if cU k sz ot s=false then er zS 1 else if cC c=true then er zS 2 else if dD k c.op=false then er zS 8 else if fit k sz c=false then er zS 2
 else if(raw k sz ot s c).2.2.2=0 then raw k sz ot s c else er zS (raw k sz ot s c).2.2.2
structure S.wf(s:S):Prop where
 h:s.hn=true->s.H=[]
 b:s.bn=true->s.B=[]
 c:s.cn=true->s.C=[]
 k:∀c∈s.C,c.nl=true->c.log=[]
def Rel(R:Option dN)(r:R4):Prop :=
 ∃s:S,R=some (.val (.tu [.d (.ag s.row),.d (I' r.2.1),.d (.b r.2.2.1),.d (I' r.2.2.2)]) [])/\s.pl=r.1/\s.wf
theorem Rel.mk'{R:Option dN}(s:S){n:Int}{b:Bool}{e:Int}{r:R4}(h:R=some (.val (.tu [.d (.ag s.row),.d (I' n),.d (.b b),.d (I' e)]) []))(hp:r=(s.pl,n,b,e))(hw:s.wf):Rel R r:=by
 subst hp;exact⟨s,h,rfl,hw⟩
theorem Rel.er{R:Option dN}(s:S)(e:Int){r:R4}(h:R=some (.val (.tu [.d (.ag s.row),.d (I' 0),.d (.b false),.d (I' e)]) []))(hp:r=er s.pl e)(hw:s.wf):Rel R r:=Rel.mk' s h hp hw
theorem Rel.gd{R:Option dN}(s:S){r:R4}(h:R=some (.val (.tu [.d (.ag s.row),.d (I' 0),.d (.b true),.d (I' 0)]) []))(hp:r=gd s.pl)(hw:s.wf):Rel R r:=Rel.mk' s h hp hw
theorem Rel.vl{R:Option dN}(s:S)(n:Int){r:R4}(h:R=some (.val (.tu [.d (.ag s.row),.d (I' n),.d (.b true),.d (I' 0)]) []))(hp:r=(s.pl,n,true,0))(hw:s.wf):Rel R r:=Rel.mk' s h hp hw
end Go.VS.Sp
namespace Go.VS.Sp
def gH(l:List Int):Prop:=l.Pairwise (·<·)
theorem gH.rC{l:List Int}(h:gH l):iX l:=List.Pairwise.imp (λh=>by omega) h
theorem S3(t a:Int)(q:List Int):bI t (a::q)=if a<t then bI t q+1 else 0:=by
 by_cases hp:a<t<;>simp[bI,oz,hp]
theorem Ij{t:Int}:∀{l:List Int},gH l->(l[bI t l]?=some t↔t∈l)
 | [],_=>by simp
 |a::q,h=>by
  have h':=gI.1 h;rw[S3];by_cases hp:a<t
  .rw[aK hp]
   have ih:=Ij (t:=t) h'.2;rw[Wl,ih,dA];constructor
   .intro e;exact .inr e
   .rintro(e |e)
    .omega
    .exact e
  .rw[aE hp,List.getElem?_cons_zero,dA]
   constructor
   .intro e;left;exact(yJ e).symm
   .rintro(e |e)
    .rw[e]
    .have:=h'.1 t e;omega
theorem Yf{t:Int}:∀{l:List Int},gH l->t∈l->l.filter (λx=>x != t)=l.take (bI t l)++l.drop (bI t l+1)
 | [],_,hm=>by simp at hm
 |a::q,h,hm=>by
  have h':=gI.1 h;rw[S3];by_cases hp:a<t
  .rw[aK hp]
   have hq:t∈q:=by
    rcases dA.1 hm with e |e
    .omega
    .exact e
   have hne:a≠t:=by omega
   have ih:=Yf h'.2 hq;simp[hne,ih]
  .rw[aE hp]
   have ha:a=t:=by
    rcases dA.1 hm with e |e
    .exact e.symm
    .have:=h'.1 t e;omega
   subst ha
   have:q.filter (λx=>x != a)=q:=by
    rw[Pm];intro x hx;have:=h'.1 x hx;simp;omega
   simp[this]
theorem af3(t a:Int)(q:List Int):eV t (a::q)=if a<t then a::eV t q else t::a::q:=by
 unfold eV;rw[S3];by_cases hp:a<t<;>simp[hp]
theorem Yg{t x:Int}{l:List Int}:x∈eV t l↔x=t\/x∈l:=by
 have e:l=l.take (bI t l)++l.drop (bI t l):=(Ar _ _).symm;have e2:x∈l↔x∈l.take (bI t l)\/x∈l.drop (bI t l):=by
  rw[<-List.mem_append,Ar]
 rw[e2];unfold eV;rw[dc,dA];constructor
 .rintro(h |h |h)
  .exact .inr (.inl h)
  .exact .inl h
  .exact .inr (.inr h)
 .rintro(h |h |h)
  .exact .inr (.inl h)
  .exact .inl h
  .exact .inr (.inr h)
theorem S4{t:Int}:∀{l:List Int},gH l->t∉l->gH (eV t l)
 | [],_,_=>by simp[eV,gH,bI]
 |a::q,h,hm=>by
  have h':=gI.1 h;have hm':¬t=a/\t∉q:=by simpa using hm
  rw[af3];by_cases hp:a<t
  .rw[aK hp]
   refine gI.2 ⟨?_,S4 h'.2 hm'.2⟩;intro x hx;rcases Yg.1 hx with e |e
   .omega
   .exact h'.1 x e
  .rw[aE hp]
   refine gI.2 ⟨?_,h⟩;intro x hx;rcases dA.1 hx with e |e
   .omega
   .have:=h'.1 x e;omega
theorem M9:∀(l:List Int)(p:Option Int),tr p l=true↔((∀q,p=some q->∀x∈l,q<x)/\gH l/\∀x∈l,cW x=true)
 | [],p=>by simp[tr,gH]
 |t::r,p=>by
  have ih:=M9 r (some t);unfold tr;rw[bE,ih];constructor
  .rintro⟨h1,h2,h3,h4⟩
   have h2':=h2 t rfl;simp only[kZ,B1,Wm]at h1;refine⟨?_,gI.2 ⟨h2',h3⟩,?_⟩
   .intro q hq x hx
    subst hq;have h5:q<t:=by have:=h1.2;simp at this;exact this
    rcases dA.1 hx with e |e
    .omega
    .have:=h2' x e;omega
   .intro x hx
    rcases dA.1 hx with e |e
    .rw[e];exact h1.1
    .exact h4 x e
  .rintro⟨h1,h2,h3⟩
   have h2':=gI.1 h2;refine⟨?_,?_,h2'.2,λx hx=>h3 x (vA _ hx)⟩
   .have e1:=h3 t (by simp)
    cases p with
    |none=>simp[e1]
    |some q=>have:=h1 q rfl t (by simp);simp[e1];exact this
   .intro q hq x hx
    have:t=q:=yJ hq
    subst this;exact h2'.1 x hx
theorem Na(sz:Int):∀(C:List K)(p:Option K),vc sz p C=true↔((∀q,p=some q->∀x∈C,q.task<x.task)/\gH (C.map K.task)/\∀x∈C,cW x.task=true/\¬sz<x.log.length/\x.log.all num=true)
 | [],p=>by simp[vc,gH]
 |t::r,p=>by
  have ih:=Na sz r (some t);unfold vc;rw[bE,bE,ih];constructor
  .rintro⟨h1,h0,h2,h3,h4⟩
   have h2':=h2 t rfl;simp only[lE,kZ,B1]at h1;obtain⟨⟨⟨k1,k2⟩,k3⟩,k4⟩:=h1;refine⟨?_,gI.2 ⟨?_,h3⟩,?_⟩
   .intro q hq x hx
    subst hq;have h5:q.task<t.task:=by simp at k3;exact k3
    rcases dA.1 hx with e |e
    .rw[e];exact h5
    .have:=h2' x e;omega
   .intro x hx
    obtain⟨y,hy,rfl⟩:=gF.1 hx;exact h2' y hy
   .intro x hx
    rcases dA.1 hx with e |e
    .subst e
     refine⟨?_,by simpa using k4,h0⟩
     simp at k1 k2;simp[cW];omega
    .exact h4 x e
  .rintro⟨h1,h2,h3⟩
   have h2':=gI.1 h2;obtain⟨e1,e2,e3⟩:=h3 t (by simp)
   refine⟨?_,e3,?_,h2'.2,λx hx=>h3 x (vA _ hx)⟩
   .simp[cW]at e1
    have e4:p.any (λp=>decide (t.task<=p.task))=false:=by
     cases p with
     |none=>rfl
     |some q=>have:=h1 q rfl t (by simp);simp;exact this
    simp only[lE,e4,kZ,B1];simp;omega
   .intro q hq x hx
    have:t=q:=yJ hq
    subst this;exact h2'.1 _ (Pn hx)
end Go.VS.Sp
namespace Go.VS.Sp
theorem af4(o:List D)(ho:o.length=4)(x y:D)(s:S)(hw:s.wf)(c:Cl)(hv:s.own = -1\/0<=s.own):
  Rel (ev P (.call LD [.d (.ag [x,y]),.d (.ag o),.d (.ag s.row),.d (.ag c.row)] [])) (eM s.pl c):=by
 have e:decide (s.own<0)=(s.own == -1):=by rw[xB];simp;omega
 rw[au afo rfl];cases h1:c.op==52
 .cases h2:s.own == -1
  .cases h3:c.op==51
   .cases h4:s.own==c.task
    .exact Rel.er s 29 (by simp[A0,ho,Cl.row,h1,e,h2,h3,h4]) (by simp[eM,S.pl,h1,h2,h3,h4]) ⟨hw.h,hw.b,hw.c,hw.k⟩
    .exact Rel.er s 17 (by simp[A0,ho,Cl.row,h1,e,h2,h3,h4]) (by simp[eM,S.pl,h1,h2,h3,h4]) ⟨hw.h,hw.b,hw.c,hw.k⟩
   .exact Rel.er s 0 (by simp[A0,ho,Cl.row,h1,e,h2,h3]) (by simp[eM,S.pl,h1,h2,h3]) ⟨hw.h,hw.b,hw.c,hw.k⟩
  .exact Rel.gd {s with own:=c.task} (by simp[A0,ho,Cl.row,h1,e,h2]) (by simp[eM,S.pl,h1,h2]) ⟨hw.h,hw.b,hw.c,hw.k⟩
 .cases h2:s.own==c.task
  .have h2':(s.own != c.task)=true:=by simp[bne,h2]
   exact Rel.er s 20 (by simp[A0,ho,Cl.row,h1,h2']) (by simp[eM,S.pl,h1,h2]) ⟨hw.h,hw.b,hw.c,hw.k⟩
  .have h2':(s.own != c.task)=false:=by simp[bne,h2]
   exact Rel.gd {s with own:=-1} (by simp[A0,ho,Cl.row,h1,h2']) (by simp[eM,S.pl,h1,h2]) ⟨hw.h,hw.b,hw.c,hw.k⟩
theorem af5(x y:D)(nm:D)(k sz ot:Int)(s:S)(hw:s.wf)(c:Cl)(hz:sz<=100)(hv:0<=s.cnt/\s.cnt<=sz)(hc:1<=c.value/\c.value<=sz):
  Rel (ev P (.call LG [.d (.ag [x,y]),.d (.ag [nm,I' k,I' sz,I' ot]),.d (.ag s.row),.d (.ag c.row)] [])) (eS sz s.pl c):=by
 have w1:IntKind.i64.wrap (s.cnt+c.value)=s.cnt+c.value:=wrap_i64 (by omega) (by omega)
 have w2:IntKind.i64.wrap (s.cnt - c.value)=s.cnt - c.value:=wrap_i64 (by omega) (by omega)
 rw[au afr rfl];cases h1:c.op==62
 .cases h2:decide (c.value<=s.cnt)
  .cases h3:c.op==61
   .exact Rel.er s 29 (by simp[CO,Cl.row,h1,h2,h3,w1,w2]) (by have p2:=h2;simp only[gi,kA]at p2;simp[eS,S.pl,h1,p2,h3]) ⟨hw.h,hw.b,hw.c,hw.k⟩
   .exact Rel.er s 0 (by simp[CO,Cl.row,h1,h2,h3,w1,w2]) (by have p2:=h2;simp only[gi,kA]at p2;simp[eS,S.pl,h1,p2,h3]) ⟨hw.h,hw.b,hw.c,hw.k⟩
  .exact Rel.gd {s with cnt:=s.cnt - c.value} (by simp[CO,Cl.row,h1,h2,w1,w2]) (by have p2:=h2;simp only[gi,kA]at p2;simp[eS,S.pl,h1,p2]) ⟨hw.h,hw.b,hw.c,hw.k⟩
 .cases h2:decide (sz<s.cnt+c.value)
  .exact Rel.gd {s with cnt:=s.cnt+c.value} (by simp[CO,Cl.row,h1,h2,w1,w2]) (by have p2:=h2;simp only[gi,kA]at p2;simp[eS,S.pl,h1,p2]) ⟨hw.h,hw.b,hw.c,hw.k⟩
  .exact Rel.er s 17 (by simp[CO,Cl.row,h1,h2,w1,w2]) (by have p2:=h2;simp only[gi,kA]at p2;simp[eS,S.pl,h1,p2]) ⟨hw.h,hw.b,hw.c,hw.k⟩
theorem af6(c:List D)(hc:c.length=5)(x y:D)(nm:D)(k sz ot:Int)(s:S)(hw:s.wf)(hz:sz<=100)(hv:0<=s.val/\s.val<sz)(hn:0<=s.cnt/\s.cnt<=1099511627776):
  Rel (ev P (.call LH [.d (.ag [x,y]),.d (.ag [nm,I' k,I' sz,I' ot]),.d (.ag s.row),.d (.ag c)] [])) (eB sz s.pl):=by
 have w1:IntKind.i64.wrap (s.val+1)=s.val+1:=wrap_i64 (by omega) (by omega)
 have w2:IntKind.i64.wrap (s.cnt+1)=s.cnt+1:=wrap_i64 (by omega) (by omega)
 rw[au aft rfl];cases h1:s.val+1==sz
 .exact Rel.vl {s with val:=s.val+1} s.val (by simp[HY,hc,h1,w1,w2]) (by simp[eB,S.pl,h1]) ⟨hw.h,hw.b,hw.c,hw.k⟩
 .cases h2:s.cnt==1099511627776
  .exact Rel.vl {s with val:=0,cnt:=s.cnt+1} s.val (by simp[HY,hc,h1,h2,w1,w2]) (by simp[eB,S.pl,h1,h2]) ⟨hw.h,hw.b,hw.c,hw.k⟩
  .exact Rel.er {s with val:=s.val+1} 4 (by simp[HY,hc,h1,h2,w1,w2]) (by simp[eB,S.pl,h1,h2]) ⟨hw.h,hw.b,hw.c,hw.k⟩
theorem af7(o:List D)(ho:o.length=4)(x y:D)(s:S)(hw:s.wf)(c:Cl)(hb:c.op=73\/c.op=74):
  Rel (ev P (.call LL [.d (.ag [x,y]),.d (.ag o),.d (.ag s.row),.d (.ag c.row)] [])) (eF s.pl c):=by
 have e:(c.op==73)=!(c.op==74):=by rcases hb with h |h<;>simp[h]
 rw[au afA rfl];cases h1:c.op==74
 .cases h2:s.cl
  .exact Rel.gd {s with cl:=true,val:=c.value} (by simp[E8,ho,V.aV,Cl.row,e,h1,h2]) (by simp[eF,S.pl,h1,h2]) ⟨hw.h,hw.b,hw.c,hw.k⟩
  .exact Rel.er s 17 (by simp[E8,ho,V.aV,Cl.row,e,h1,h2]) (by simp[eF,S.pl,h1,h2]) ⟨hw.h,hw.b,hw.c,hw.k⟩
 .cases h2:s.cl
  .exact Rel.er s 29 (by simp[E8,ho,V.aV,Cl.row,e,h1,h2]) (by simp[eF,S.pl,h1,h2]) ⟨hw.h,hw.b,hw.c,hw.k⟩
  .exact Rel.vl s s.val (by simp[E8,ho,V.aV,Cl.row,e,h1,h2]) (by simp[eF,S.pl,h1,h2]) ⟨hw.h,hw.b,hw.c,hw.k⟩
theorem Ik{a b:Int}(ha:0<=a)(hb:1<=b):0<=a / b/\a / b*b<=a/\a / b<=a:=by
 have h1:0<=a / b:=Int.ediv_nonneg ha (by omega)
 have h2:a / b*b<=a:=Int.ediv_mul_le a (by omega)
 refine⟨h1,h2,?_⟩;have h3:a / b*1<=a / b*b:=Int.mul_le_mul_of_nonneg_left hb h1;omega
theorem af8(x y:D)(nm:D)(k sz ot:Int)(s:S)(hw:s.wf)(c:Cl)(hz:1<=sz/\sz<=100)(ho:1<=ot/\ot<=1099511627776)(hv:0<=s.cnt/\s.cnt<=sz)(Yh:0<=s.time/\s.time<=1099511627776)
  (hn:0<=c.now/\c.now<=1099511627776)(hb:c.op=72\/c.op=75)(hc:c.op=72->1<=c.value/\c.value<=sz):
  Rel (ev P (.call LJ [.d (.ag [x,y]),.d (.ag [nm,I' k,I' sz,I' ot]),.d (.ag s.row),.d (.ag c.row)] [])) (eL sz ot s.pl c):=by
 have e:(c.op==75)=!(c.op==72):=by rcases hb with h |h<;>simp[h]
 rw[au afz rfl];cases h0:decide (c.now<s.time)
 .have A8:s.time<=c.now:=by simpa using h0
  obtain⟨k0,k1,k2⟩:=Ik (a:=c.now - s.time) (b:=ot) (by omega) ho.1
  have lG:¬ot=0:=by omega
  have w0:IntKind.i64.wrap (c.now - s.time)=c.now - s.time:=wrap_i64 (by omega) (by omega)
  have ht:(c.now - s.time).tdiv ot=(c.now - s.time) / ot:=Wp (by omega)
  generalize hkk:(c.now - s.time) / ot=q at *;have ek:decide (sz - s.cnt<=q)=decide (sz<=s.cnt+q):=by rw[xB];simp;omega
  have w1:IntKind.i64.wrap q=q:=wrap_i64 (by omega) (by omega)
  have w2:IntKind.i64.wrap (sz - s.cnt)=sz - s.cnt:=wrap_i64 (by omega) (by omega)
  have w3:IntKind.i64.wrap (s.cnt+q)=s.cnt+q:=wrap_i64 (by omega) (by omega)
  have w4:IntKind.i64.wrap (q*ot)=q*ot:=by
   have:0<=q*ot:=GJ k0 (by omega)
   exact wrap_i64 (by omega) (by omega)
  have w5:IntKind.i64.wrap (s.time+q*ot)=s.time+q*ot:=by
   have:0<=q*ot:=GJ k0 (by omega)
   exact wrap_i64 (by omega) (by omega)
  cases h1:decide (sz<=s.cnt+q)
  .have h1':s.cnt+q<sz:=by simpa using h1
   cases h2:c.op==72
   .exact Rel.gd {s with cnt:=s.cnt+q,time:=s.time+q*ot} (by simp[A1,Cl.row,e,h0,h1,h2,w0,w1,w2,w3,w4,ht,lG,ek,w5]) (by have p0:=h0;simp only[gi,kA]at p0;have p1:=h1;simp only[gi,kA]at p1;simp[eL,ny,S.pl,p0,hkk,p1,h2]) ⟨hw.h,hw.b,hw.c,hw.k⟩
   .have v8:=hc (by simpa using h2)
    have w6:IntKind.i64.wrap (s.cnt+q - c.value)=s.cnt+q - c.value:=wrap_i64 (by omega) (by omega)
    cases h3:decide (s.cnt+q<c.value)
    .exact Rel.gd {s with cnt:=s.cnt+q - c.value,time:=s.time+q*ot} (by simp[A1,Cl.row,e,h0,h1,h2,h3,w0,w1,w2,w3,w4,ht,lG,ek,w5,w6]) (by have p0:=h0;simp only[gi,kA]at p0;have p1:=h1;simp only[gi,kA]at p1;have p3:=h3;simp only[gi,kA]at p3;simp[eL,ny,S.pl,p0,hkk,p1,h2,p3]) ⟨hw.h,hw.b,hw.c,hw.k⟩
    .exact Rel.er {s with cnt:=s.cnt+q,time:=s.time+q*ot} 29 (by simp[A1,Cl.row,e,h0,h1,h2,h3,w0,w1,w2,w3,w4,ht,lG,ek,w5,w6]) (by have p0:=h0;simp only[gi,kA]at p0;have p1:=h1;simp only[gi,kA]at p1;have p3:=h3;simp only[gi,kA]at p3;simp[eL,ny,S.pl,p0,hkk,p1,h2,p3]) ⟨hw.h,hw.b,hw.c,hw.k⟩
  .cases h2:c.op==72
   .exact Rel.gd {s with cnt:=sz,time:=c.now} (by simp[A1,Cl.row,e,h0,h1,h2,w0,w1,w2,w3,w4,ht,lG,ek,w5]) (by have p0:=h0;simp only[gi,kA]at p0;have p1:=h1;simp only[gi,kA]at p1;simp[eL,ny,S.pl,p0,hkk,p1,h2]) ⟨hw.h,hw.b,hw.c,hw.k⟩
   .have v8:=hc (by simpa using h2)
    have w6:IntKind.i64.wrap (sz - c.value)=sz - c.value:=wrap_i64 (by omega) (by omega)
    have h3:decide (sz<c.value)=false:=by simp;omega
    exact Rel.gd {s with cnt:=sz - c.value,time:=c.now} (by simp[A1,Cl.row,e,h0,h1,h2,h3,w0,w1,w2,w3,w4,ht,lG,ek,w5,w6]) (by have p0:=h0;simp only[gi,kA]at p0;have p1:=h1;simp only[gi,kA]at p1;have p3:=h3;simp only[gi,kA]at p3;simp[eL,ny,S.pl,p0,hkk,p1,h2,p3]) ⟨hw.h,hw.b,hw.c,hw.k⟩
 .exact Rel.er s 2 (by simp[A1,Cl.row,h0]) (by have p0:=h0;simp only[gi,kA]at p0;simp[eL,S.pl,p0]) ⟨hw.h,hw.b,hw.c,hw.k⟩
end Go.VS.Sp
namespace Go.VS.Sp
theorem tw(nl:Bool)(q:List Int)(gm:nl=true->q=[])(hn:q.length<=1000000):
  ev P (.call s9 [.d (hD nl q)] [])=if nl=true then some (.val (.d (.sl 1 true [])) [])else some (.val (.aQ 0 0 q.length) [.aG 1 true (bW q)]):=by
 rw[au SD rfl];cases nl
 .have hr:q.length<=room:=by unfold room;omega
  cases q with
  |nil=>simp[rj,eK,fO,ak,cut,av]
  |cons a r =>
   simp at hr;simp[rj,eK,fO,ak,cut,hr,av]
 .simp[rj,av]
theorem Nb(nl:Bool)(q:List K)(gm:nl=true->q=[])(hn:q.length<=1000000):
  ev P (.call Hq [.d (cD nl q)] [])=if nl=true then some (.val (.d (.sl 2 true [])) [])else some (.val (.aQ 0 0 q.length) [.aG 2 true (q.map K.row)]):=by
 rw[au X2 rfl];cases nl
 .have hr:q.length<=room:=by unfold room;omega
  cases q with
  |nil=>simp[AY,eK,fO,ak,cut,av]
  |cons a r =>
   simp at hr;simp[AY,eK,fO,ak,cut,hr,av]
 .simp[AY,av]
theorem af9(A B:List (List D))(r:List D)(h:A.length+B.length<=100000):
  ev P (.call Hj [.aQ 0 0 (A.length+(B.length+1)),.d (I' A.length),.d (I' (A.length+1))] [.aG 2 true (A++r::B)]) =
   some (.val (.aQ 0 0 (A.length+B.length)) [.aG 2 true (A++(B++[[I' 0,.sl 1 true []]]))]):=by
 have h1:(A.length:Int)<=A.length+1:=by omega
 have h2:(A.length:Int)+1<=A.length+(B.length+1):=by omega
 have h3:(0:Int)<=A.length+1:=by omega
 have h4:((A.length:Int)==A.length+1)=false:=by simp;omega
 have h7:(A.length:Int)<=A.length+(B.length+1):=by omega
 have h5:A.length+B.length<=A.length+(B.length+1):=by omega
 have h6:¬(A.length+(B.length+1)<A.length+B.length):=by omega
 rw[au XT rfl];have jg:(A.length:Int)<A.length+1:=by omega
 rcases B with _ |⟨b,B⟩
 .have h9:¬((A.length:Int)+1=0):=by omega
  simp at h2 h5 h6 h7;simp[EW,ak,cut,h1,h2,h3,h4,h5,h6,h7,h9,jg,av]
 .have h8:(1:Int)<B.length+1+1:=by omega
  have h9:¬((A.length:Int)+1=0):=by omega
  have h12:A.length+1+(B.length+1)<=A.length+(B.length+1+1):=by omega
  obtain⟨x,hx⟩:∃x,List.drop (B.length+1) (r::b::B)=[x]:=GK.1 (by simp)
  have kJ:¬((A.length:Int)+(B.length+1)=0):=by omega
  have kf:(0:Int)<=(A.length:Int)+(B.length+1):=by omega
  have sA:(B.length:Int)<=B.length+1:=by omega
  have oL:(B.length:Int)<B.length+1:=by omega
  have zh:((A.length:Int)+(B.length+1)).toNat=A.length+(B.length+1):=by omega
  have zi:((A.length:Int)+(B.length+1+1) - (A.length+(B.length+1))).toNat=1:=by omega
  have zj:A.length+(B.length+1)+1<=A.length+(B.length+1+1):=by omega
  have zk:List.take (A.length+(B.length+1)) (A++b::(B++[x]))=A++b::B:=by
   have:A++b::(B++[x])=(A++b::B)++[x]:=by simp
   rw[this];exact tZ (by simp)
  have zl:List.drop (A.length+(B.length+1)+1) (A++b::(B++[x]))=[]:=qK (by simp;omega)
  have iP:((A.length:Int)+(B.length+1+1) - (A.length+1)).toNat=B.length+1:=by omega
  simp at h2 h5 h6 h7;simp[EW,ak,cut,h1,h2,h3,h4,h5,h6,h7,h8,h9,iP,jg,h12,kJ,kf,sA,oL,zh,zi,zj,zk,zl,hx,av]
theorem aga(A B:List (List D))(r:List D)(h:A.length+B.length<=100000):
  ev P (.call Ri [.aQ 0 0 (A.length+(B.length+1)),.d (I' A.length),.d (I' (A.length+1))] [.aG 1 true (A++r::B)]) =
   some (.val (.aQ 0 0 (A.length+B.length)) [.aG 1 true (A++(B++[[I' 0]]))]):=by
 have h1:(A.length:Int)<=A.length+1:=by omega
 have h2:(A.length:Int)+1<=A.length+(B.length+1):=by omega
 have h3:(0:Int)<=A.length+1:=by omega
 have h4:((A.length:Int)==A.length+1)=false:=by simp;omega
 have h7:(A.length:Int)<=A.length+(B.length+1):=by omega
 have h5:A.length+B.length<=A.length+(B.length+1):=by omega
 have h6:¬(A.length+(B.length+1)<A.length+B.length):=by omega
 rw[au afq rfl];have jg:(A.length:Int)<A.length+1:=by omega
 rcases B with _ |⟨b,B⟩
 .have h9:¬((A.length:Int)+1=0):=by omega
  simp at h2 h5 h6 h7;simp[MM,ak,cut,h1,h2,h3,h4,h5,h6,h7,h9,jg,av]
 .have h8:(1:Int)<B.length+1+1:=by omega
  have h9:¬((A.length:Int)+1=0):=by omega
  have h12:A.length+1+(B.length+1)<=A.length+(B.length+1+1):=by omega
  obtain⟨x,hx⟩:∃x,List.drop (B.length+1) (r::b::B)=[x]:=GK.1 (by simp)
  have kJ:¬((A.length:Int)+(B.length+1)=0):=by omega
  have kf:(0:Int)<=(A.length:Int)+(B.length+1):=by omega
  have sA:(B.length:Int)<=B.length+1:=by omega
  have oL:(B.length:Int)<B.length+1:=by omega
  have zh:((A.length:Int)+(B.length+1)).toNat=A.length+(B.length+1):=by omega
  have zi:((A.length:Int)+(B.length+1+1) - (A.length+(B.length+1))).toNat=1:=by omega
  have zj:A.length+(B.length+1)+1<=A.length+(B.length+1+1):=by omega
  have zk:List.take (A.length+(B.length+1)) (A++b::(B++[x]))=A++b::B:=by
   have:A++b::(B++[x])=(A++b::B)++[x]:=by simp
   rw[this];exact tZ (by simp)
  have zl:List.drop (A.length+(B.length+1)+1) (A++b::(B++[x]))=[]:=qK (by simp;omega)
  have iP:((A.length:Int)+(B.length+1+1) - (A.length+1)).toNat=B.length+1:=by omega
  simp at h2 h5 h6 h7;simp[MM,ak,cut,h1,h2,h3,h4,h5,h6,h7,h8,h9,iP,jg,h12,kJ,kf,sA,oL,zh,zi,zj,zk,zl,hx,av]
end Go.VS.Sp
namespace Go.VS.Sp
theorem aM:List.range 2=[0,1]:=rfl
theorem aN:List.range 3=[0,1,2]:=rfl
def ia(own:Int)(H:List Int)(t:Int):Int:=if(decide (0<=t)&&t==own)=true then 2 else if t∈H then 1 else 0
theorem agb{l:List Int}{t:Int}(h:gH l)(hm:t∈l):∃A B,l=A++t::B/\bI t l=A.length/\l.filter (λx=>x != t)=A++B:=by
 have h1:=(Ij h).2 hm;have hlt:bI t l<l.length:=(rW.1 h1).1;have h2:l[bI t l]=t:=(rW.1 h1).2;refine⟨l.take (bI t l),l.drop (bI t l+1),?_,by simp;omega,Yf h hm⟩
 have h3:l.drop (bI t l)=l[bI t l]::l.drop (bI t l+1):=Wq hlt;rw[h2]at h3;rw[<-h3,Ar]
end Go.VS.Sp
namespace Go.VS.Sp
theorem agc(s:S):s.pl.H=s.H:=rfl
theorem agd(s:S):s.pl.own=s.own:=rfl
set_option maxHeartbeats 1000000 in
theorem age(o:List D)(ho:o.length=4)(x y:D)(s:S)(hw:s.wf)(c:Cl)(hH:gH s.H)(hn:s.H.length<=100000)(hv:s.own = -1\/0<=s.own):
  Rel (ev P (.call LF [.d (.ag [x,y]),.d (.ag o),.d (.ag s.row),.d (.ag c.row)] [])) (eW s.pl c):=by
 have oM:=S1 s.hn s.H c.task (by omega) hH.rC
 have hm:decide (s.H[bI c.task s.H]?=some c.task)=decide (c.task∈s.H):=decide_eq_decide.2 (Ij hH);rw[hm]at oM;rw[au afp rfl];unfold eW;rw[agc,agd];have e:decide (0<=s.own)=!(s.own == -1):=by rw[xB];simp;omega
 cases h1:c.op==54
 .cases h2:c.op==56
  .cases h4:(decide (c.task∈s.H)||s.own==c.task)
   .cases h5:(!(s.own == -1)||(c.op==55&&decide (0<s.H.length)))
    .cases h6:c.op==55
     .have hI:=Cn MZ (p:=lZ 1) rfl
      refine Rel.gd {s with hn:=false,H:=eV c.task s.H} ?_ (by simp[S.pl]) ⟨by simp,hw.b,hw.c,hw.k⟩
      rw[h6]at h5;simp only[Ap,GH]at h5;have hb:=tv c.task s.H;cases hf:s.hn
      .have hr:s.H.length+1<=room:=by unfold room;omega
       have dJ:=tw s.hn s.H hw.h (by omega)
       rw[hf,aE (by decide)]at dJ
       rw[hf]at oM;have hrow:hD false (eV c.task s.H) = .sl 1 false ((bW s.H).take (bI c.task s.H)++[I' c.task]::(bW s.H).drop (bI c.task s.H)):=by unfold eV hD bW;simp[B3,B4]
       simp only[S.row];rw[hrow];generalize bI c.task s.H=b at *;have h7:s.H.length+1<=b+(s.H.length - b+1):=by omega
       have t5:List.take (s.H.length+1) (List.take b (List.map (λx=>[I' x]) s.H)++[I' c.task]::List.drop b (List.map (λx=>[I' x]) s.H))=List.take b (List.map (λx=>[I' x]) s.H)++[I' c.task]::List.drop b (List.map (λx=>[I' x]) s.H):=
        gE (by simp;omega)
       simp[vU,ho,Cl.row,oM,h1,h2,h4,e,h5,h6,hf,dJ,hI,lZ,jR,hr,hb,h7,t5,aI,az,sub,aD,back,ak,cut,an,bp,aX,aZ,aq,aM,aN,bk,cG]
      .have hE:=hw.h hf
       have hr:1<=room:=by decide
       have dJ:=tw s.hn s.H hw.h (by omega)
       rw[hf,aK rfl]at dJ;rw[hf]at oM;have h4':(s.own==c.task)=false:=by have:=h4;rw[hE]at this;simpa using this
       rw[hE]at oM dJ⊢;have hz:bI c.task []=0:=rfl;have hi:eV c.task []=[c.task]:=rfl;rw[hz]at oM;rw[hi];simp[vU,ho,Cl.row,oM,h1,h2,h4',e,h5,h6,hf,dJ,hI,lZ,jR,hr,hb,hE,aI,az,sub,aD,back,ak,cut,an,bp,aX,aZ,aq,aM,aN,bk,cG]
     .rw[h6]at h5
      simp only[Ao]at h5;exact Rel.gd {s with own:=c.task} (by simp[vU,ho,Cl.row,oM,h1,h2,h4,e,h5,h6]) (by simp[S.pl]) ⟨hw.h,hw.b,hw.c,hw.k⟩
    .exact Rel.er s 29 (by simp[vU,ho,Cl.row,oM,h1,h2,h4,e,h5]) (by simp) ⟨hw.h,hw.b,hw.c,hw.k⟩
   .exact Rel.er s 17 (by simp[vU,ho,Cl.row,oM,h1,h2,h4]) (by simp) ⟨hw.h,hw.b,hw.c,hw.k⟩
  .cases h3:s.own==c.task
   .have h3':(s.own != c.task)=true:=by simp[bne,h3]
    exact Rel.er s 20 (by simp[vU,ho,Cl.row,oM,h1,h2,h3']) (by simp) ⟨hw.h,hw.b,hw.c,hw.k⟩
   .have h3':(s.own != c.task)=false:=by simp[bne,h3]
    exact Rel.gd {s with own:=-1} (by simp[vU,ho,Cl.row,oM,h1,h2,h3']) (by simp[S.pl]) ⟨hw.h,hw.b,hw.c,hw.k⟩
 .cases h2:decide (c.task∈s.H)
  .rw[h2]at oM
   exact Rel.er s 20 (by simp[vU,ho,Cl.row,oM,h1]) (by simp) ⟨hw.h,hw.b,hw.c,hw.k⟩
  .rw[h2]at oM
   have zg:c.task∈s.H:=by simpa using h2
   obtain⟨A,B,e1,e2,e3⟩:=agb hH zg;have hnf:s.hn=false:=by
    cases hf:s.hn
    .rfl
    .rw[hw.h hf]at zg;simp at zg
   have dJ:=tw s.hn s.H hw.h (by omega)
   rw[hnf,aE (by decide)]at dJ
   rw[hnf]at oM;rw[e2]at oM;have hD:=aga (bW A) (bW B) [I' c.task] (by rw[e1]at hn;simp at hn⊢;omega)
   have hrow:bW s.H=bW A++[I' c.task]::bW B:=by rw[e1];simp
   have hlen:s.H.length=A.length+(B.length+1):=by rw[e1];simp
   have jq:IntKind.i64.wrap ((A.length:Int)+1)=A.length+1:=wrap_i64 (by omega) (by omega)
   rw[hrow,hlen]at dJ;simp only[yK]at hD;rw[e3];have t6:List.take (A.length+B.length) (bW A++(bW B++[[I' 0]]))=List.map (λx=>[I' x]) A++List.map (λx=>[I' x]) B:=by
    rw[<-List.append_assoc];exact tZ (by simp)
   refine Rel.gd {s with hn:=false,H:=A++B} ?_ (by simp[S.pl]) ⟨by simp,hw.b,hw.c,hw.k⟩
   simp[vU,ho,Cl.row,oM,h1,hnf,dJ,jq,hD,t6,aI,az,sub,aD,back,ak,cut,an,bp,aX,aZ,aq,aM,aN,bk,cG]
end Go.VS.Sp
namespace Go.VS.Sp
theorem Nc(nm:D)(k sz ot:Int):ev P (.call Ey [.d (.ag [nm,I' k,I' sz,I' ot])] [])=some (.val (.d (.ag [nm,I' k,I' (dm sz),I' ot])) []):=by
 rw[au afw rfl];unfold dm;simp[Sw]
theorem agf(s:S):s.pl.B=s.B:=rfl
theorem agh(s:S):s.pl.cl=s.cl:=rfl
theorem agi(x y nm:D)(k sz ot:Int)(s:S)(hw:s.wf)(c:Cl)(hb:c.op=64\/c.op=65\/c.op=66)(hn:s.B.length<=100000):
  Rel (ev P (.call LI [.d (.ag [x,y]),.d (.ag [nm,I' k,I' sz,I' ot]),.d (.ag s.row),.d (.ag c.row)] [])) (eC (dm sz) s.pl c):=by
 have hR:=Nc nm k sz ot;generalize Il:dm sz=rm at *;rw[au afv rfl];unfold eC;rw[agf,agh];cases h1:c.op==64
 .cases h2:c.op==65
  .cases h3:s.cl
   .exact Rel.gd {s with cl:=true} (by simp[vV,Cl.row,h1,h2,h3]) (by simp[S.pl]) ⟨hw.h,hw.b,hw.c,hw.k⟩
   .exact Rel.er s 17 (by simp[vV,Cl.row,h1,h2,h3]) (by simp) ⟨hw.h,hw.b,hw.c,hw.k⟩
  .cases hB:s.B with
   |nil =>
    cases h3:s.cl
    .exact Rel.er s 29 (by simp[vV,Cl.row,h1,h2,h3,hB]) (by simp) ⟨hw.h,hw.b,hw.c,hw.k⟩
    .exact Rel.er s 0 (by simp[vV,Cl.row,h1,h2,h3,hB]) (by simp) ⟨hw.h,hw.b,hw.c,hw.k⟩
   |cons b r =>
    have hf:s.bn=false:=by
     cases hf:s.bn
     .rfl
     .rw[hw.b hf]at hB;simp at hB
    have xX:=tw false r (by simp) (by rw[hB]at hn;simp at hn;omega)
    rw[aE (by decide)]at xX
    have n1:(1:Int)<=r.length+1:=by omega
    have n0:((r.length:Int)+1==0)=false:=by simp;omega
    refine Rel.vl {s with bn:=false,B:=r} b ?_ (by simp[S.pl]) ⟨hw.h,by simp,hw.c,hw.k⟩
    simp[vV,Cl.row,h1,h2,hB,hf,xX,n0,n1,aI,az,sub,aD,back,ak,cut,an,V.aV,bp,aX,aZ,aq,bk,cG]
 .cases h3:s.cl
  .cases h4:decide (rm<=s.B.length)
   .have hr:s.B.length+1<=room:=by unfold room;omega
    have hC:=tw s.bn s.B hw.b (by omega)
    refine Rel.gd {s with bn:=false,B:=s.B++[c.value]} ?_ (by simp[S.pl,h3]) ⟨hw.h,by simp,hw.c,hw.k⟩
    cases hf:s.bn
    .rw[hf,aE (by decide)]at hC
     have t1:List.take (s.B.length+1) (List.map (λx=>[I' x]) s.B++[[I' c.value]])=List.map (λx=>[I' x]) s.B++[[I' c.value]]:=gE (by simp)
     simp[vV,Cl.row,h1,h3,h4,hf,hR,hC,hr,t1,aI,az,sub,aD,back,ak,cut,an,V.aV,bp,aX,aZ,aq,bk,cG,cz]
    .have hB:=hw.b hf
     rw[hf,aK rfl]at hC;rw[hB]at h4 hC⊢;have h4:decide (rm<=0)=false:=h4;have iH:1<=room:=by decide
     simp[vV,Cl.row,h1,h3,h4,hf,hR,hC,hB,iH,aI,az,sub,aD,back,ak,cut,an,V.aV,bp,aX,aZ,aq,bk,cG,cz]
   .exact Rel.er s 29 (by simp[vV,Cl.row,h1,h3,hR,h4]) (by simp) ⟨hw.h,hw.b,hw.c,hw.k⟩
  .exact Rel.er s 0 (by simp[vV,Cl.row,h1,h3]) (by simp) ⟨hw.h,hw.b,hw.c,hw.k⟩
end Go.VS.Sp
namespace Go.VS.Sp
theorem Nd{n:Int}:cW n=true↔0<=n/\n<16:=by simp[cW]
theorem Yi(a t:Int)(b:Bool)(l:List Int)(ha:cW a=true)(ht:cW t=true):
  ev P (.call Ez [.d (.ag [I' a,hD b l]),.d (I' t)] [])=some (.val (.d (I' (a - t))) []):=by
 have h1:=Nd.1 ha;have h2:=Nd.1 ht;have hw:IntKind.i64.wrap (a - t)=a - t:=wrap_i64 (by omega) (by omega)
 rw[au afy rfl];simp[Sx,hw]
theorem agj(nl:Bool)(C:List K)(t:Int)(hn:C.length<=1000000)(hA:iX (C.map K.task))(hC:∀x∈C,cW x.task=true)(ht:cW t=true):∀(n i j:Nat),j - i<=n->i<=bI t (C.map K.task)->bI t (C.map K.task)<=j->j<=C.length ->
  ev P (.loop 0 [0,1,2,8,9,10] HZ [(0,.d (cD nl C)),(1,.d (I' t)),(2,.d (.fn Ez [] [])),(8,.d (I' C.length)),(9,.d (I' i)),(10,.d (I' j))] []) =
   some (.out (.exit 0) [(0,.d (cD nl C)),(1,.d (I' t)),(2,.d (.fn Ez [] [])),(8,.d (I' C.length)),(9,.d (I' (bI t (C.map K.task))))] []):=by
 intro n;induction n with
 |zero =>
  intro i j h1 h2 h3 h4;have e1:i=bI t (C.map K.task):=by omega
  have e2:j=bI t (C.map K.task):=by omega
  rw[bT]
  conv=>lhs;arg 4;unfold HZ
  simp[e1,e2]
 |succ n ih =>
  intro i j h1 h2 h3 h4;by_cases hij:i=j
  .have e1:i=bI t (C.map K.task):=by omega
   have e2:j=bI t (C.map K.task):=by omega
   rw[bT]
   conv=>lhs;arg 4;unfold HZ
   simp[e1,e2]
  .have hlt:i<j:=by omega
   have hw1:IntKind.i64.wrap ((i:Int)+j)=i+j:=wrap_i64 (by omega) (by omega)
   have hm:=Fh (i:=i) (j:=j) (by omega)
   generalize zg:(i+j) / 2=m at hm;have hm1:i<=m:=by omega
   have hm2:m<j:=by omega
   have hml:m<C.length:=by omega
   obtain⟨x,hx⟩:∃x,C[m]?=some x:=⟨C[m]'(by omega),by simp⟩
   have xW:(C.map K.task)[m]?=some x.task:=by simp[hx]
   have hb:=Fg (t:=t) hA xW;have mE:C[m]=x:=by rw[qM hml]at hx;exact yJ hx
   have zm:x∈C:=kY hx;have hc:=Yi x.task t x.nl x.log (hC x zm) ht;have CX:IntKind.i64.wrap ((m:Int)+1)=m+1:=wrap_i64 (by omega) (by omega)
   have A7:(m:Int)<C.length:=by omega
   rw[bT]
   conv=>lhs;arg 4;unfold HZ
   by_cases hp:x.task<t
   .have bD:=ih (m+1) j (by omega) (by omega) (by omega) h4
    have Fi:x.task - t<0:=by omega
    simp at bD;simp[hlt,hw1,hm,CX,hml,A7,hx,mE,K.row,hc,Fi];exact bD
   .have bD:=ih i m (by omega) (by omega) (by omega) (by omega)
    have Fi:¬x.task - t<0:=by omega
    simp[hlt,hw1,hm,hml,A7,hx,mE,K.row,hc,Fi];exact bD
theorem Nf(nl:Bool)(C:List K)(t:Int)(hn:C.length<=1000000)(hA:iX (C.map K.task))(hC:∀x∈C,cW x.task=true)(ht:cW t=true):
  ev P (.call Rn [.d (cD nl C),.d (I' t),.d (.fn Ez [] [])] []) =
   some (.val (.tu [.d (I' (bI t (C.map K.task))),.d (.b (decide ((C.map K.task)[bI t (C.map K.task)]?=some t)))]) []):=by
 have hb:=tv t (C.map K.task);simp only[yK]at hb;have hl:=agj nl C t hn hA hC ht C.length 0 C.length (by omega) (by omega) hb (by omega)
 simp only[Int.natCast_zero]at hl;by_cases h:bI t (C.map K.task)<C.length
 .obtain⟨x,hx⟩:∃x,C[bI t (C.map K.task)]?=some x:=⟨C[bI t (C.map K.task)],by simp⟩
  have xW:(C.map K.task)[bI t (C.map K.task)]?=some x.task:=by rw[vB,hx];rfl
  have h2:(bI t (C.map K.task):Int)<C.length:=by omega
  have zm:x∈C:=kY hx;have hc:=Yi x.task t x.nl x.log (hC x zm) ht;rw[xW];generalize bI t (C.map K.task)=B at *;have mE:C[B]=x:=by rw[qM h]at hx;exact yJ hx
  have e:(x.task - t==0)=decide (x.task=t):=by rw[xB];simp;omega
  rw[au Ya rfl];simp[MP,hl,h,h2,hx,mE,K.row,hc,e]
 .have h2:¬(bI t (C.map K.task):Int)<C.length:=by omega
  have h3:(C.map K.task)[bI t (C.map K.task)]?=none:=by simp;omega
  rw[h3];generalize bI t (C.map K.task)=B at *;rw[au Ya rfl];simp[MP,hl,h,h2]
end Go.VS.Sp
namespace Go.VS.Sp
theorem cB:List.range 4=[0,1,2,3]:=rfl
theorem S5(s:S):s.pl.C=s.C.map K.pl:=rfl
theorem Yj(s:S):qy s.pl=qy s:=by
 unfold qy;rw[S5,kB];rfl
theorem Ng(s:S)(t:Int):bK s.pl t=bK s t:=by unfold bK;rw[Yj]
theorem S6(s:S)(t:Int):mF s.pl t=mF s t:=by unfold mF;rw[Yj,Ng]
structure S.tk(s:S):Prop where
 rC:gH (qy s)
 task:∀x∈s.C,cW x.task=true
 len:s.C.length<=1000
 log:∀x∈s.C,x.log.length<=100000
theorem agk(x y nm:D)(k sz ot:Int)(s:S)(hw:s.wf)(c:Cl)(hk:s.tk)(ht:cW c.task=true)(hb:c.op=69):
  Rel (ev P (.call CD [.d (.ag [x,y]),.d (.ag [nm,I' k,I' sz,I' ot]),.d (.ag s.row),.d (.ag c.row)] [])) (eT (dm sz) s.pl c):=by
 have hB:=Nf s.cn s.C c.task (by have:=hk.len;omega) hk.rC.rC hk.task ht
 have dJ:=Nb s.cn s.C hw.c (by have:=hk.len;omega)
 have hI:=Cn Yb (p:=lZ 2) rfl;have kK:=tv c.task (s.C.map K.task);simp only[yK]at kK;have hlen:=hk.len;rw[au Ib rfl];unfold eT;rw[S6,Ng];have e1:mF s c.task=decide ((s.C.map K.task)[bI c.task (s.C.map K.task)]?=some c.task):=rfl;have e2:bK s c.task=bI c.task (s.C.map K.task):=rfl;rw[<-e1]at hB;rw[<-e2]at hB kK;generalize hi:bK s c.task=i at *;generalize mF s c.task=g at *;have kL:(c.op==69)=true:=by simp[hb]
 rw[kL];cases g
 .have hrow:cD false (s.C.take i++⟨c.task,true,[]⟩::s.C.drop i) = .sl 2 false ((s.C.map K.row).take i++[I' c.task,.sl 1 true []]::(s.C.map K.row).drop i):=by simp[cD,B3,B4,K.row]
  refine Rel.gd {s with cn:=false,C:=s.C.take i++⟨c.task,true,[]⟩::s.C.drop i} ?_ (by simp[S.pl,K.pl,B3,B4]) ⟨hw.h,hw.b,by simp,?_⟩
  .simp only[S.row]
   rw[hrow];cases hf:s.cn
   .rw[hf,aE (by decide)]at dJ
    rw[hf]at hB;have hr:s.C.length+1<=room:=by unfold room;omega
    have h7:s.C.length+1<=i+(s.C.length - i+1):=by omega
    have t5:List.take (s.C.length+1) (List.take i (List.map K.row s.C)++[I' c.task,.sl 1 true []]::List.drop i (List.map K.row s.C))=List.take i (List.map K.row s.C)++[I' c.task,.sl 1 true []]::List.drop i (List.map K.row s.C):=
     gE (by simp;omega)
    simp[qt,Cl.row,hB,hf,hb,dJ,hI,lZ,jR,hr,kK,h7,t5,aI,az,sub,aD,back,ak,cut,an,V.aV,bp,aX,aZ,aq,bk,cG,cz,aM,aN,cB]
   .have hE:=hw.c hf
    rw[hf,aK rfl]at dJ;rw[hf]at hB;have hr:1<=room:=by decide
    rw[hE]at hB dJ kK;have Yk:i=0:=by simpa using kK
    subst Yk;simp[qt,Cl.row,hB,hf,hE,hb,dJ,hI,lZ,jR,hr,aI,az,sub,aD,back,ak,cut,an,V.aV,bp,aX,aZ,aq,bk,cG,cz,aM,aN,cB]
  .intro z hz
   simp only[dc,dA]at hz;rcases hz with h |h |h
   .exact hw.k z (nM h)
   .rw[h];simp
   .exact hw.k z (mN h)
 .refine Rel.er s 6 ?_ (by simp) ⟨hw.h,hw.b,hw.c,hw.k⟩
  cases hf:s.cn
  .rw[hf,aE (by decide)]at dJ
   rw[hf]at hB;simp[qt,Cl.row,hB,hf,hb,dJ,aI,az,sub,aD,back,ak,cut,an,V.aV,bp,aX,aZ,aq,bk,cG,cz,aM,aN,cB]
  .rw[hf,aK rfl]at dJ
   rw[hf]at hB;simp[qt,Cl.row,hB,hf,hb,dJ,aI,az,sub,aD,back,ak,cut,an,V.aV,bp,aX,aZ,aq,bk,cG,cz,aM,aN,cB]
theorem Nh(s:S)(t:Int)(h:mF s t=true):∃A k B,s.C=A++k::B/\bK s t=A.length/\k.task=t:=by
 unfold mF at h;have h1:(qy s)[bK s t]?=some t:=by simpa using h
 have h2:bK s t<s.C.length:=by
  have:=(rW.1 h1).1;unfold qy at this;simpa using this
 refine⟨s.C.take (bK s t),s.C[bK s t],s.C.drop (bK s t+1),?_,by simp;omega,?_⟩
 .have h3:s.C.drop (bK s t)=s.C[bK s t]::s.C.drop (bK s t+1):=Wq h2
  rw[<-h3,Ar]
 .unfold qy at h1
  rw[vB,qM h2]at h1;simpa using h1
theorem agl(x y nm:D)(k sz ot:Int)(s:S)(hw:s.wf)(c:Cl)(hk:s.tk)(ht:cW c.task=true)(hb:c.op=71):
  Rel (ev P (.call CD [.d (.ag [x,y]),.d (.ag [nm,I' k,I' sz,I' ot]),.d (.ag s.row),.d (.ag c.row)] [])) (eT (dm sz) s.pl c):=by
 have hB:=Nf s.cn s.C c.task (by have:=hk.len;omega) hk.rC.rC hk.task ht
 have dJ:=Nb s.cn s.C hw.c (by have:=hk.len;omega)
 have kK:=tv c.task (s.C.map K.task);simp only[yK]at kK;have hlen:=hk.len;rw[au Ib rfl];unfold eT;rw[S6,Ng];have e1:mF s c.task=decide ((s.C.map K.task)[bI c.task (s.C.map K.task)]?=some c.task):=rfl;have e2:bK s c.task=bI c.task (s.C.map K.task):=rfl;rw[<-e1]at hB;rw[<-e2]at hB kK;have kL:(c.op==69)=false:=by simp[hb]
 have l6:(c.op==71)=true:=by simp[hb]
 rw[kL,l6];cases hg:mF s c.task
 .rw[hg]at hB
  generalize bK s c.task=i at *;refine Rel.er s 20 ?_ (by simp) ⟨hw.h,hw.b,hw.c,hw.k⟩
  cases hf:s.cn
  .rw[hf,aE (by decide)]at dJ
   rw[hf]at hB;simp[qt,Cl.row,hB,hf,hb,dJ,aI,az,sub,aD,back,ak,cut,an,V.aV,bp,aX,aZ,aq,bk,cG,cz,aM,aN,cB]
  .rw[hf,aK rfl]at dJ
   rw[hf]at hB;simp[qt,Cl.row,hB,hf,hb,dJ,aI,az,sub,aD,back,ak,cut,an,V.aV,bp,aX,aZ,aq,bk,cG,cz,aM,aN,cB]
 .obtain⟨A,kk,B,f1,f2,f3⟩:=Nh s c.task hg
  have hf:s.cn=false:=by
   cases hf:s.cn
   .rfl
   .have:=hw.c hf;rw[this]at f1;simp at f1
  rw[hg,f2]at hB;rw[hf]at hB dJ;rw[aE (by decide)]at dJ
  have hD:=af9 (A.map K.row) (B.map K.row) kk.row (by rw[f1]at hlen;simp at hlen⊢;omega)
  have hrow:s.C.map K.row=A.map K.row++kk.row::B.map K.row:=by rw[f1];simp
  have sC:s.C.length=A.length+(B.length+1):=by rw[f1];simp
  have jq:IntKind.i64.wrap ((A.length:Int)+1)=A.length+1:=wrap_i64 (by omega) (by omega)
  rw[hrow,sC]at dJ;simp only[yK]at hD;have t6:List.take (A.length+B.length) (A.map K.row++(B.map K.row++[[I' 0,.sl 1 true []]]))=A.map K.row++B.map K.row:=by
   rw[<-List.append_assoc];exact tZ (by simp)
  refine Rel.gd {s with cn:=false,C:=A++B} ?_ ?_ ⟨hw.h,hw.b,by simp,?_⟩
  .simp[qt,Cl.row,hB,hb,hf,dJ,jq,hD,t6,aI,az,sub,aD,back,ak,cut,an,V.aV,bp,aX,aZ,aq,bk,cG,cz,aM,aN,cB]
  .rw[f2]
   have d1:List.drop (A.length+1) (List.map K.pl A++kk.pl::List.map K.pl B)=List.map K.pl B:=by
    have:List.map K.pl A++kk.pl::List.map K.pl B=(List.map K.pl A++[kk.pl])++List.map K.pl B:=by simp
    rw[this];exact D6 (by simp)
   simp[S.pl,f1,d1]
  .intro z hz
   refine hw.k z ?_;rw[f1];rcases dc.1 hz with h |h
   .exact D7 _ h
   .exact GL _ (vA _ h)
theorem agm(x y nm:D)(k sz ot:Int)(s:S)(hw:s.wf)(c:Cl)(hk:s.tk)(ht:cW c.task=true)(hb:c.op=70):
  Rel (ev P (.call CD [.d (.ag [x,y]),.d (.ag [nm,I' k,I' sz,I' ot]),.d (.ag s.row),.d (.ag c.row)] [])) (eT (dm sz) s.pl c):=by
 have hB:=Nf s.cn s.C c.task (by have:=hk.len;omega) hk.rC.rC hk.task ht
 have dJ:=Nb s.cn s.C hw.c (by have:=hk.len;omega)
 have kK:=tv c.task (s.C.map K.task);simp only[yK]at kK;have hlen:=hk.len;rw[au Ib rfl];unfold eT;rw[S6,Ng];have e1:mF s c.task=decide ((s.C.map K.task)[bI c.task (s.C.map K.task)]?=some c.task):=rfl;have e2:bK s c.task=bI c.task (s.C.map K.task):=rfl;rw[<-e1]at hB;rw[<-e2]at hB kK;have kL:(c.op==69)=false:=by simp[hb]
 have l6:(c.op==71)=false:=by simp[hb]
 have fI:(c.op==70)=true:=by simp[hb]
 rw[kL,l6,fI];cases hg:mF s c.task
 .rw[hg]at hB
  generalize bK s c.task=i at *;refine Rel.er s 20 ?_ (by simp) ⟨hw.h,hw.b,hw.c,hw.k⟩
  cases hf:s.cn
  .rw[hf,aE (by decide)]at dJ
   rw[hf]at hB;simp[qt,Cl.row,hB,hf,hb,dJ,aI,az,sub,aD,back,ak,cut,an,V.aV,bp,aX,aZ,aq,bk,cG,cz,aM,aN,cB]
  .rw[hf,aK rfl]at dJ
   rw[hf]at hB;simp[qt,Cl.row,hB,hf,hb,dJ,aI,az,sub,aD,back,ak,cut,an,V.aV,bp,aX,aZ,aq,bk,cG,cz,aM,aN,cB]
 .obtain⟨A,kk,B,f1,f2,f3⟩:=Nh s c.task hg
  have hf:s.cn=false:=by
   cases hf:s.cn
   .rfl
   .have:=hw.c hf;rw[this]at f1;simp at f1
  rw[hg,f2]at hB;rw[hf]at hB dJ;rw[aE (by decide)]at dJ
  have hrow:s.C.map K.row=A.map K.row++kk.row::B.map K.row:=by rw[f1];simp
  have sC:s.C.length=A.length+(B.length+1):=by rw[f1];simp
  have hkm:kk∈s.C:=by rw[f1];simp
  have iZ:=hk.log kk hkm;rw[hrow,sC]at dJ;have hgt:s.pl.C[bK s c.task]?=some (K.pl kk):=by
   rw[f2,S5,f1];simp
  rw[hgt];obtain⟨kt,kn,kl⟩:=kk;simp only at f3 iZ;subst f3;cases kl with
  |nil =>
   refine Rel.er s 29 ?_ (by simp[K.pl]) ⟨hw.h,hw.b,hw.c,hw.k⟩
   have i1:(A.length:Int)<A.length+(B.length+1):=by omega
   simp[qt,Cl.row,hB,hb,hf,dJ,K.row,i1,aI,az,sub,aD,back,ak,cut,an,V.aV,bp,aX,aZ,aq,bk,cG,cz,aM,aN,cB]
  |cons b r =>
   have hkn:kn=false:=by
    cases kn
    .rfl
    .have:=hw.k _ hkm rfl;simp at this
   subst hkn;have xX:=tw false r (by simp) (by simp at iZ;omega)
   rw[aE (by decide)]at xX
   have n0:((r.length:Int)+1==0)=false:=by simp;omega
   have n1:(1:Int)<=r.length+1:=by omega
   have i1:(A.length:Int)<A.length+(B.length+1):=by omega
   refine Rel.vl {s with cn:=false,C:=A++⟨c.task,false,r⟩::B} b ?_ ?_ ⟨hw.h,hw.b,by simp,?_⟩
   .simp[qt,Cl.row,hB,hb,hf,dJ,K.row,xX,n0,n1,i1,aI,az,sub,aD,back,ak,cut,an,V.aV,bp,aX,aZ,aq,bk,cG,cz,aM,aN,cB]
    exact gE (by simp)
   .rw[f2]
    simp[S.pl,f1,K.pl]
   .intro z hz
    rcases dc.1 hz with h |h
    .exact hw.k z (by rw[f1];exact D7 _ h)
    .rcases dA.1 h with h |h
     .rw[h];simp
     .exact hw.k z (by rw[f1];exact GL _ (vA _ h))
end Go.VS.Sp
namespace Go.VS.Sp
def uQ(v:Int)(x:K):K:=⟨x.task,false,x.log++[v]⟩
def CY(v:Int)(x:K):List D:=[I' x.task,.sl 1 false (x.log.map (λn=>[I' n])++[[I' v]])]
theorem agn(v:Int)(x:K):(uQ v x).row=CY v x:=by simp[uQ,K.row,CY]
def Im(rm:Int)(x:K):Bool:=decide (rm<=(x.log.length:Int))
theorem ago(nm:D)(k sz ot:Int)(row zr:List D)(hrow:row.length=9)(hz:zr.length=9)(C:List K)(c:Cl)(hn:C.length<=1000)(hk:∀x∈C,x.nl=true->x.log=[])(pN:∀x∈C,x.log.length<=100000):∀(suf pre:List K),C=pre++suf ->
  ev P (.loop 0 [5,6,7,8,14,15,31,32] E7 [(5,.d (.ref [nm,I' k,I' sz,I' ot])),(6,.loc 0 0 0),(7,.d (.ref c.row)),(8,.loc 1 0 0),(14,.aQ 2 0 C.length),(15,.d (I' 0)),(31,.d (I' C.length)),(32,.d (I' pre.length))]
   [.aG 9 true [row],.aG 9 true [zr],.aG 2 true (pre.map (CY c.value)++suf.map K.row)]) =
   if(suf.any (Im (dm sz)))=true then some (.out .ret [(8,.loc 0 0 0),(9,.d (I' 0)),(10,.d (.b false)),(11,.d (I' 29))] [.aG 9 true [row]])
   else some (.out (.exit 1) [(6,.loc 0 0 0),(8,.loc 1 0 0),(14,.aQ 2 0 C.length),(15,.d (I' 0))] [.aG 9 true [row],.aG 9 true [zr],.aG 2 true (C.map (CY c.value))]):=by
 intro suf;induction suf with
 |nil =>
  intro pre hl
  have:C.length=pre.length:=by simp[hl]
  have hp:C=pre:=by simp[hl]
  rw[bT]
  conv=>lhs;arg 4;unfold E7
  simp[this,hp,aI,az,sub,aD,back,ak,cut,an,V.aV,bp,aX,aZ,aq,bk,cG,cz,aM,aN,cB]
 |cons x suf ih =>
  intro pre hl;have hg:C[pre.length]?=some x:=by simp[hl]
  have hlt:(pre.length:Int)<C.length:=by simp[hl];omega
  have hnext:IntKind.i64.wrap ((pre.length:Int)+1)=pre.length+1:=wrap_i64 (by omega) (by omega)
  have bD:=ih (pre++[x]) (by simp[hl])
  have hR:=Nc nm k sz ot;have zm:x∈C:=by rw[hl];simp
  have iZ:=pN x zm;have hr:x.log.length+1<=room:=by unfold room;omega
  have dJ:=tw x.nl x.log (hk x zm) (by omega)
  have hlen:C.length=pre.length+(suf.length+1):=by simp[hl]
  rw[List.any_cons];generalize (suf.any (Im (dm sz)))=dd at *;generalize Il:dm sz=rm at *;rw[bT]
  conv=>lhs;arg 4;unfold E7
  match row,hrow,zr,hz with
  | [r0,r1,r2,r3,r4,r5,r6,r7,r8],_,[z0,z1,z2,z3,z4,z5,z6,z7,z8],_ =>
  cases hf:Im rm x
  .have v9:decide (rm<=(x.log.length:Int))=false:=hf
   cases gm:x.nl
   .rw[gm,aE (by decide)]at dJ
    have t1:List.take (x.log.length+1) (List.map (λx=>[I' x]) x.log++[[I' c.value]])=List.map (λx=>[I' x]) x.log++[[I' c.value]]:=gE (by simp)
    simp[hlt,hR,v9,K.row,Cl.row,gm,dJ,hr,t1,hnext,aI,az,sub,aD,back,ak,cut,an,V.aV,bp,aX,aZ,aq,bk,cG,cz,aM,aN,cB];simp[CY,Cl.row]at bD;exact bD
   .have hE:=hk x zm gm
    rw[gm,aK rfl]at dJ;rw[hE]at v9 dJ;have iH:1<=room:=by decide
    have hf3:decide (rm<=0)=false:=v9;simp[hlt,hR,hf3,K.row,Cl.row,gm,hE,dJ,iH,hnext,aI,az,sub,aD,back,ak,cut,an,V.aV,bp,aX,aZ,aq,bk,cG,cz,aM,aN,cB];simp[CY,Cl.row,hE]at bD;exact bD
  .have v9:decide (rm<=(x.log.length:Int))=true:=hf
   simp[hlt,hR,v9,K.row,aI,az,sub,aD,back,ak,cut,an,V.aV,bp,aX,aZ,aq,bk,cG,cz,aM,aN,cB]
theorem agp(rm:Int)(C:List K):((C.map K.pl).any λx=>decide (rm<=x.log.length))=C.any (Im rm):=by
 rw[List.any_map];rfl
theorem agq(x y nm:D)(k sz ot:Int)(s:S)(hw:s.wf)(c:Cl)(hk:s.tk)(ht:cW c.task=true)(hb:c.op=68):
  Rel (ev P (.call CD [.d (.ag [x,y]),.d (.ag [nm,I' k,I' sz,I' ot]),.d (.ag s.row),.d (.ag c.row)] [])) (eT (dm sz) s.pl c):=by
 have hB:=Nf s.cn s.C c.task (by have:=hk.len;omega) hk.rC.rC hk.task ht
 have dJ:=Nb s.cn s.C hw.c (by have:=hk.len;omega)
 have hlen:=hk.len;unfold eT;have kL:(c.op==69)=false:=by simp[hb]
 have l6:(c.op==71)=false:=by simp[hb]
 have fI:(c.op==70)=false:=by simp[hb]
 rw[kL,l6,fI,S5,agp];cases hf:s.cn
 .rw[hf,aE (by decide)]at dJ
  have hL:ev P (.loop 0 [5,6,7,8,14,15,31,32] E7 [(5,.d (.ref [nm,I' k,I' sz,I' ot])),(6,.loc 0 0 0),(7,.d (.ref c.row)),(8,.loc 1 0 0),(14,.aQ 2 0 s.C.length),(15,.d (I' 0)),(31,.d (I' s.C.length)),(32,.d (I' 0))]
   [.aG 9 true [s.row],.aG 9 true [ct],.aG 2 true (s.C.map K.row)])=_:=ago nm k sz ot s.row ct rfl rfl s.C c hlen hw.k hk.log s.C [] rfl
  generalize s.C.any (Im (dm sz))=dd at *;rw[hf]at hB;generalize bI c.task (s.C.map K.task)=i at *;generalize decide ((s.C.map K.task)[i]?=some c.task)=g at *;rw[au Ib rfl];simp only[S.row,hf,Cl.row,hb,ct]at hL;have e:(s.C.map K.pl).map (λx=>(⟨x.task,false,x.log++[c.value]⟩:K))=(s.C.map (uQ c.value)).map K.pl:=by
   rw[kB,kB];rfl
  have e2:s.C.map (CY c.value)=(s.C.map (uQ c.value)).map K.row:=by
   rw[kB];exact vu λx _=>(agn c.value x).symm
  rw[e2]at hL;cases dd
  .rw[aE (by decide)]at hL
   refine Rel.gd {s with cn:=false,C:=s.C.map (uQ c.value)} ?_ (by rw[e];simp[S.pl]) ⟨hw.h,hw.b,by simp,?_⟩
   .have t8:List.take s.C.length ((s.C.map (uQ c.value)).map K.row)=(s.C.map (uQ c.value)).map K.row:=gE (by simp)
    have hrow:cD false (s.C.map (uQ c.value)) = .sl 2 false ((s.C.map (uQ c.value)).map K.row):=rfl;have hRL:((s.C.map (uQ c.value)).map K.row).length=s.C.length:=by simp
    simp only[S.row];rw[hrow];clear hrow;generalize (s.C.map (uQ c.value)).map K.row=RR at *;simp[qt,Cl.row,hB,hb,hf,dJ,hL,hRL,t8,aI,az,sub,aD,back,ak,cut,an,V.aV,bp,aX,aZ,aq,bk,cG,cz,aM,aN,cB]
   .intro z hz
    obtain⟨w,_,rfl⟩:=gF.1 hz;simp[uQ]
  .rw[aK rfl]at hL
   refine Rel.er s 29 ?_ (by simp) ⟨hw.h,hw.b,hw.c,hw.k⟩
   simp[qt,Cl.row,hB,hb,hf,dJ,hL,aI,az,sub,aD,back,ak,cut,an,V.aV,bp,aX,aZ,aq,bk,cG,cz,aM,aN,cB]
 .have hE:=hw.c hf
  rw[hf,aK rfl]at dJ;rw[hE]at dJ hB⊢;rw[hf]at hB;rw[au Ib rfl];refine Rel.gd s ?_ (by simp[S.pl,hE]) hw
  simp[qt,Cl.row,hB,hb,hf,hE,dJ,E7,bT,aI,az,sub,aD,back,ak,cut,an,V.aV,bp,aX,aZ,aq,bk,cG,cz,aM,aN,cB]
end Go.VS.Sp
namespace Go.VS.Sp
end Go.VS.Sp
namespace Go.VS.Sp
end Go.VS.Sp
