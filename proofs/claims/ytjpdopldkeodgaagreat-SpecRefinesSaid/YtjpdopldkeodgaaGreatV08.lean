import Derived.Test.YtjpdopldkeodgaaGreatV07
set_option linter.all false
set_option maxHeartbeats 1000000
namespace Go.VS.Sp
abbrev I'(n:Int):D:=.i .i64 n
structure W where
 task:Int
 op:Int
 value:Int
 prio:Int
 case:Int
 deriving DecidableEq
@[simp] theorem W.eta(w:W):W.mk w.task w.op w.value w.prio w.case=w:=rfl
def W.row(w:W):List D:=[I' w.task,I' w.op,I' w.value,I' w.prio,I' w.case]
def kE(w:W):Bool:=(decide (w.task<0)||decide (16<=w.task)||decide (w.op<1)||decide (99<w.op)||decide (w.value < -1099511627776)||decide (1099511627776<w.value))
def dO(w:W):Bool:=!kE w&&(decide (0<=w.prio)&&decide (w.prio<=9)&&decide (-1<=w.case)&&decide (w.case<6))
theorem E3(a b c d e:Int):ev P (.call Ek [.d (.ag [I' a,I' b,I' c,I' d,I' e])] [])=some (.val (.d (.b (dO ⟨a,b,c,d,e⟩))) []):=by
 rw[au SC rfl];cases h:kE ⟨a,b,c,d,e⟩<;>simp only[dO,h]<;>unfold kE at h<;>simp[HA,W.row,h]
def fR(d:Int)(prev:Option W):List W->Int
 | []=>0
 |w::r=>if dO w=false then 2 else if d=2/\(prev.any λp=>decide (p.prio<w.prio))=true then 9 else fR d (some w) r
theorem vX:IntKind.i64.wrap 1=1:=by decide
theorem E4(d:Int)(nl:Bool)(l:List W)(hn:l.length<=96):∀(suf pre:List W),l=pre++suf ->
  ev P (.loop 0 [0,1,16,17,18] vQ [(0,.d (I' d)),(1,.d (.sl 5 nl (l.map W.row))),(16,.d (.sl 5 nl (l.map W.row))),(17,.d (I' l.length)),(18,.d (I' pre.length))] []) =
   if fR d pre.getLast? suf=0 then some (.out (.exit 0) [] [])else some (.out .ret [(4,.d (I' (fR d pre.getLast? suf)))] []):=by
 intro suf;induction suf with
 |nil =>
  intro pre hl
  have:l.length=pre.length:=by simp[hl]
  rw[bS]
  conv=>lhs;arg 4;unfold vQ
  simp[this,fR]
 |cons w suf ih =>
  intro pre hl;have hg:l[pre.length]?=some w:=by simp[hl]
  have hlt:(pre.length:Int)<l.length:=by simp[hl];omega
  rw[bS]
  conv=>lhs;arg 4;unfold vQ
  simp[hlt,hg,W.row,E3];cases hv:dO w
  .simp[fR,hv]
  .simp
   have hnext:IntKind.i64.wrap ((pre.length:Int)+1)=pre.length+1:=wrap_i64 (by omega) (by omega)
   have bB:=ih (pre++[w]) (by simp[hl])
   simp at bB;rcases Ak pre with rfl |⟨pre',p,rfl⟩
   .simp[fR,hv,vX]at *
    exact bB
   .have mC:l[pre'.length]?=some p:=by simp[hl]
    have hlen:((pre'.length:Int)+1<l.length):=by simp[hl];omega
    have hw:IntKind.i64.wrap ((pre'.length:Int)+1 - 1)=pre'.length:=by rw[wrap_i64 (by omega) (by omega)];omega
    have h0:(0:Int)<pre'.length+1:=by omega
    have dG:IntKind.i64.wrap (pre'.length:Int)=pre'.length:=wrap_i64 (by omega) (by omega)
    have jQ:IntKind.i64.wrap ((pre'.length:Int)+1+1)=pre'.length+1+1:=wrap_i64 (by omega) (by omega)
    simp at bB;by_cases hd:d=2
    .by_cases hp:p.prio<w.prio
     .subst hd
      simp[fR,hv,hp,dG,jQ,mC,W.row,h0]
     .subst hd
      simp[fR,hv,hp,dG,jQ,mC,W.row,h0];exact bB
    .have hd2:(d==2)=false:=by simp[hd]
     simp[fR,hv,hd,hd2,dG,jQ,mC,W.row,h0];exact bB
def dY(l:List W):Int:=if 96<l.length then 4 else fR 1 none l
theorem uK(nl:Bool)(l:List W):ev P (.call qv [.d (I' 1),.d (.sl 5 nl (l.map W.row))] []) =
  some (.val (.d (I' (dY l))) []):=by
 unfold dY;rw[au MS rfl];by_cases h:96<l.length
 .have h':(96:Int)<l.length:=by omega
  simp[y6,h,h']
 .have h':¬(96:Int)<l.length:=by omega
  have hl:=E4 1 nl l (by omega) l [] rfl
  simp at hl;simp[y6,h,h',hl];by_cases hc:fR 1 none l=0<;>simp[hc]
theorem zb:∀(ds:List D),fu (ds.map V.d)=some ds
 | []=>rfl
 |d::ds=>by simp[zb ds]
theorem tD{a b:List D}{x:D}:fu (a.map V.d++.d x::b.map V.d)=some (a++x::b):=by
 have:=zb (a++x::b);simpa using this
def idx{α:Type}(p:α->Bool):Int->List α->Int
 |_,[]=>-1
 |k,w::r=>if p w then k else idx p (k+1) r
theorem SI{f:Nat}{first caps:List D}{p:W->Bool}(nl:Bool)(l:List W)(hn:l.length<=1000000)
  (hp:∀a b c d e,ev P (.call f (first.map V.d++[.d (.ag [I' a,I' b,I' c,I' d,I' e])]++caps.map V.d) [])=some (.val (.d (.b (p ⟨a,b,c,d,e⟩))) [])):
  ∀(suf pre:List W),l=pre++suf ->
  ev P (.loop 0 [0,1,7,8] vP [(0,.d (.sl 5 nl (l.map W.row))),(1,.d (.fn f first caps)),(7,.d (I' l.length)),(8,.d (I' pre.length))] []) =
   if idx p pre.length suf = -1 then some (.out (.exit 0) [] [])else some (.out .ret [(4,.d (I' (idx p pre.length suf)))] []):=by
 intro suf;induction suf with
 |nil =>
  intro pre hl
  have:l.length=pre.length:=by simp[hl]
  rw[bS]
  conv=>lhs;arg 4;unfold vP
  simp[this,idx]
 |cons w suf ih =>
  intro pre hl;have hg:l[pre.length]?=some w:=by simp[hl]
  have hlt:(pre.length:Int)<l.length:=by simp[hl];omega
  have hnext:IntKind.i64.wrap ((pre.length:Int)+1)=pre.length+1:=wrap_i64 (by omega) (by omega)
  have bB:=ih (pre++[w]) (by simp[hl])
  simp at bB hp;rw[bS]
  conv=>lhs;arg 4;unfold vP
  simp[hlt,hg,W.row,hp,tD];cases hw:p w
  .simp[idx,hw,hnext]
   exact bB
  .have:¬(pre.length:Int) = -1:=by omega
   simp[idx,hw,this]
theorem HT{f:Nat}{first caps:List D}{p:W->Bool}(nl:Bool)(l:List W)(hn:l.length<=1000000)
  (hp:∀a b c d e,ev P (.call f (first.map V.d++[.d (.ag [I' a,I' b,I' c,I' d,I' e])]++caps.map V.d) [])=some (.val (.d (.b (p ⟨a,b,c,d,e⟩))) [])):
  ev P (.call xJ [.d (.sl 5 nl (l.map W.row)),.d (.fn f first caps)] [])=some (.val (.d (I' (idx p 0 l))) []):=by
 rw[au MR rfl];have hl:=SI nl l hn hp l [] rfl;simp at hl;simp[EB,hl];by_cases hc:idx p 0 l = -1<;>simp[hc]
theorem AV{α:Type}{p:α->Bool}:∀{l:List α}{k:Int},0<=k->(0<=idx p k l↔l.any p=true)
 | [],k,_=>by simp[idx]
 |w::r,k,hk=>by
  by_cases hw:p w=true
  .simp[idx,hw,hk]
  .simp[idx,hw,AV (l:=r) (k:=k+1) (by omega)]
theorem AW{f:Nat}{first caps:List D}{p:W->Bool}(nl:Bool)(l:List W)(hn:l.length<=1000000)
  (hp:∀a b c d e,ev P (.call f (first.map V.d++[.d (.ag [I' a,I' b,I' c,I' d,I' e])]++caps.map V.d) [])=some (.val (.d (.b (p ⟨a,b,c,d,e⟩))) [])):
  ev P (.call uD [.d (.sl 5 nl (l.map W.row)),.d (.fn f first caps)] [])=some (.val (.d (.b (l.any p))) []):=by
 rw[au Sw rfl];have hi:=HT nl l hn hp;simp[Hj,hi];have:=AV (p:=p) (l:=l) (k:=0) (by omega)
 cases ha:l.any p
 .have hc:¬0<=idx p 0 l:=λh=>by rw[this.1 h]at ha;cases ha
  simp[hc]
 .have hc:0<=idx p 0 l:=this.2 ha
  simp[hc]
abbrev bX(l:List Int):List (List D):=l.map λx=>[I' x]
abbrev hD(n:Bool)(l:List Int):D:=.sl 1 n (bX l)
abbrev qD(n:Bool)(l:List W):D:=.sl 5 n (l.map W.row)
def uL(es:Nat)(z:V):List (List D)->V
 | []=>z
 |r::rs=>.aR 0 0 (r::rs).length
def uM(es:Nat):List (List D)->List O
 | []=>[]
 |r::rs=>[.aG es true (r::rs)]
theorem bk{α β:Type}{f:α->β}{r:List α}:List.take r.length (r.map f)=r.map f:=gC (by simp)
theorem cI{α β:Type}{f:α->β}{r:List α}:List.drop (r.length+1) (r.map f)=[]:=qP (by simp)
def ju(q:List W)(t:Int):Int×Bool:=match q.findIdx? (λw=>w.task==t)with |some i=>(i,true) |none=>(0,false)
theorem SJ(nl:Bool)(l:List W)(t:Int)(hn:l.length<=1000000):∀(suf pre:List W),l=pre++suf ->
  ev P (.loop 0 [1,8,9,10] Cz [(1,.d (I' t)),(8,.d (qD nl l)),(9,.d (I' l.length)),(10,.d (I' pre.length))] []) =
   match suf.findIdx? (λw=>w.task==t)with
   |none=>some (.out (.exit 0) [] [])
   |some k=>some (.out .ret [(4,.d (I' ((pre.length+k:Nat):Int))),(5,.d (.b true))] []):=by
 intro suf;induction suf with
 |nil =>
  intro pre hl
  have:l.length=pre.length:=by simp[hl]
  rw[bS]
  conv=>lhs;arg 4;unfold Cz
  simp[this]
 |cons w suf ih =>
  intro pre hl;have hg:l[pre.length]?=some w:=by simp[hl]
  have hlt:(pre.length:Int)<l.length:=by simp[hl];omega
  have hnext:IntKind.i64.wrap ((pre.length:Int)+1)=pre.length+1:=wrap_i64 (by omega) (by omega)
  have bB:=ih (pre++[w]) (by simp[hl])
  simp at bB;rw[bS]
  conv=>lhs;arg 4;unfold Cz
  rw[xw];cases hw:w.task==t
  .simp[hlt,hg,W.row,hw,hnext]
   rw[bB];cases suf.findIdx? (λw=>w.task==t)with
   |none=>rfl
   |some k=>simp;omega
  .simp[hlt,hg,W.row,hw]
theorem lD(nl:Bool)(l:List W)(t:Int)(hn:l.length<=1000000):
  ev P (.call iQ [.d (qD nl l),.d (I' t)] [])=some (.val (.tu [.d (I' (ju l t).1),.d (.b (ju l t).2)]) []):=by
 rw[au XS rfl];have hl:=SJ nl l t hn l [] rfl;simp at hl;unfold ju;cases h:l.findIdx? (λw=>w.task==t)with
 |none=>rw[h]at hl;simp[EF,hl]
 |some k=>rw[h]at hl;simp at hl;simp[EF,hl]
theorem AX{q:List W}{t:Int}:(ju q t).2=q.any λw=>w.task==t:=by
 unfold ju;cases h:q.findIdx? (λw=>w.task==t)with
 |none =>
  rw[JN]at h;symm;rw[qQ];intro x hx;rw[h x hx];decide
 |some k =>
  symm;obtain⟨h1,h2⟩:=Gr.1 h;exact rV.2 ⟨_,vq _,h2.1⟩
end Go.VS.Sp
namespace Go.VS.Sp
structure K where
 task:Int
 nl:Bool
 log:List Int
 deriving DecidableEq
@[simp] theorem K.eta(w:K):K.mk w.task w.nl w.log=w:=rfl
def K.row(w:K):List D:=[I' w.task,hD w.nl w.log]
abbrev cD(n:Bool)(l:List K):D:=.sl 2 n (l.map K.row)
theorem afK{f:Nat}{first caps:List D}{p:K->Bool}(nl:Bool)(l:List K)(hn:l.length<=1000000)
  (hp:∀a b c,ev P (.call f (first.map V.d++[.d (.ag [I' a,hD b c])]++caps.map V.d) [])=some (.val (.d (.b (p ⟨a,b,c⟩))) [])):
  ∀(suf pre:List K),l=pre++suf ->
  ev P (.loop 0 [0,1,7,8] LZ [(0,.d (.sl 2 nl (l.map K.row))),(1,.d (.fn f first caps)),(7,.d (I' l.length)),(8,.d (I' pre.length))] []) =
   if idx p pre.length suf = -1 then some (.out (.exit 0) [] [])else some (.out .ret [(4,.d (I' (idx p pre.length suf)))] []):=by
 intro suf;induction suf with
 |nil =>
  intro pre hl
  have:l.length=pre.length:=by simp[hl]
  rw[bS]
  conv=>lhs;arg 4;unfold LZ
  simp[this,idx]
 |cons w suf ih =>
  intro pre hl;have hg:l[pre.length]?=some w:=by simp[hl]
  have hlt:(pre.length:Int)<l.length:=by simp[hl];omega
  have hnext:IntKind.i64.wrap ((pre.length:Int)+1)=pre.length+1:=wrap_i64 (by omega) (by omega)
  have bB:=ih (pre++[w]) (by simp[hl])
  simp at bB;have iJ:=hp w.task w.nl w.log;simp at iJ;rw[bS]
  conv=>lhs;arg 4;unfold LZ
  simp[hlt,hg,K.row,iJ,tD];cases hw:p w
  .simp[idx,hw,hnext]
   exact bB
  .have:¬(pre.length:Int) = -1:=by omega
   simp[idx,hw,this]
theorem SK{f:Nat}{first caps:List D}{p:K->Bool}(nl:Bool)(l:List K)(hn:l.length<=1000000)
  (hp:∀a b c,ev P (.call f (first.map V.d++[.d (.ag [I' a,hD b c])]++caps.map V.d) [])=some (.val (.d (.b (p ⟨a,b,c⟩))) [])):
  ev P (.call Ef [.d (.sl 2 nl (l.map K.row)),.d (.fn f first caps)] [])=some (.val (.d (I' (idx p 0 l))) []):=by
 rw[au ad3 rfl];have hl:=afK nl l hn hp l [] rfl;simp at hl;simp[Rt,hl];by_cases hc:idx p 0 l = -1<;>simp[hc]
theorem afL{f:Nat}{first caps:List D}{p:K->Bool}(nl:Bool)(l:List K)(hn:l.length<=1000000)
  (hp:∀a b c,ev P (.call f (first.map V.d++[.d (.ag [I' a,hD b c])]++caps.map V.d) [])=some (.val (.d (.b (p ⟨a,b,c⟩))) [])):
  ev P (.call Q4 [.d (.sl 2 nl (l.map K.row)),.d (.fn f first caps)] [])=some (.val (.d (.b (l.any p))) []):=by
 rw[au afa rfl];have hi:=SK nl l hn hp;simp[Sc,hi];have:=AV (p:=p) (l:=l) (k:=0) (by omega)
 cases ha:l.any p
 .have hc:¬0<=idx p 0 l:=λh=>by rw[this.1 h]at ha;cases ha
  simp[hc]
 .have hc:0<=idx p 0 l:=this.2 ha
  simp[hc]
def dQ(k sz ot:Int):Int:=if(k != 7)=true then 8 else if(decide (sz<0)||decide (100<sz)||ot != 0)=true then 2 else 0
def bY:List D:=[I' 0,I' 0,I' 0,.sl 1 true [],.sl 5 true [],.sl 1 true [],.sl 2 true [],.b false,I' 0]
def gm:List D:=[I' (-1),I' 0,I' 0,.sl 1 true [],.sl 5 true [],.sl 1 true [],.sl 2 true [],.b false,I' 0]
theorem uN(nm:D)(k sz ot:Int):ev P (.call th [.d (.ag [nm,I' k,I' sz,I' ot])] []) =
  some (.val (.tu [.d (.ag (if dQ k sz ot=0 then gm else bY)),.d (I' (dQ k sz ot))]) []):=by
 rw[au adZ rfl];unfold dQ;cases hk:k != 7
 .cases hb:(decide (sz<0)||decide (100<sz)||ot != 0)<;>simp[LW,hk,hb,gm,bY]
 .simp[LW,hk,bY]
def num(n:Int):Bool:=decide (-1099511627776<=n)&&decide (n<=1099511627776)
theorem SL(n:Int):ev P (.call Lb [.d (I' n)] [])=some (.val (.d (.b (num n))) []):=by
 rw[au ae7 rfl];unfold num;simp[R9]
theorem afM(t a:Int)(b:Bool)(c:List Int):ev P (.call Lc [.d (.ag [I' a,hD b c]),.d (.ref [I' t])] [])=some (.val (.d (.b (a==t))) []):=by
 rw[au ae8 rfl];simp[Sa]
def jR(C:List K)(t:Int):Int:=idx (λc=>c.task==t) 0 C
theorem HU(d0 d1 d2 d3 d4 d5 d7 d8:D)(cn:Bool)(C:List K)(t:Int)(hn:C.length<=1000000):
  ev P (.call yV [.d (.ag [d0,d1,d2,d3,d4,d5,cD cn C,d7,d8]),.d (I' t)] [])=some (.val (.d (I' (jR C t))) []):=by
 have hI:=SK (f:=Lc) (first:=[]) (caps:=[.ref [I' t]]) (p:=λc=>c.task==t) cn C hn (by intro a b c;simp[afM])
 rw[au aeB rfl];unfold jR;generalize idx (λc:K=>c.task==t) 0 C=r at *
 try simp at hI
 simp[RM,fu,hI]
def jl(Q:List W)(t op:Int):Bool:=Q.any λw=>w.task==t&&w.op==op
theorem afN(t op a b c d e:Int):ev P (.call Lp [.d (.ag [I' a,I' b,I' c,I' d,I' e]),.d (.ref [I' t]),.d (.ref [I' op])] [])=some (.val (.d (.b (a==t&&b==op))) []):=by
 rw[au afr rfl];simp[So]
theorem Yg(d0 d1 d2 d3 d5 d6 d7 d8:D)(qn:Bool)(Q:List W)(t op:Int)(hn:Q.length<=1000000):
  ev P (.call G8 [.d (.ag [d0,d1,d2,d3,qD qn Q,d5,d6,d7,d8]),.d (I' t),.d (I' op)] [])=some (.val (.d (.b (jl Q t op))) []):=by
 have hI:=AW (f:=Lp) (first:=[]) (caps:=[.ref [I' t],.ref [I' op]]) (p:=λw=>w.task==t&&w.op==op) qn Q hn (by intro a b c d e;simp[afN])
 rw[au afc rfl];unfold jl;generalize (Q.any λw=>w.task==t&&w.op==op)=r at *
 try simp at hI
 simp[Se,fu,hI]
def fl(sz:Int)(C:List K)(Q:List W):Bool:=C.any λc=>(c.log.length:Int)==sz&&!jl Q c.task 70
theorem afO(sz a:Int)(b:Bool)(c:List Int)(d0 d1 d2 d3 d5 d6 d7 d8:D)(qn:Bool)(Q:List W)(hn:Q.length<=1000000):
  ev P (.call Ld [.d (.ag [I' a,hD b c]),.d (.ref [I' sz]),.d (.ref [d0,d1,d2,d3,qD qn Q,d5,d6,d7,d8])] [])=some (.val (.d (.b ((c.length:Int)==sz&&!jl Q a 70))) []):=by
 have hw:=Yg d0 d1 d2 d3 d5 d6 d7 d8 qn Q a 70 hn;rw[au afb rfl];cases h:(c.length:Int)==sz<;>simp[Sd,h,hw]
theorem M0(sz:Int)(d0 d1 d2 d3 d5 d7 d8:D)(qn:Bool)(Q:List W)(cn:Bool)(C:List K)(hn:Q.length<=1000000)(hc:C.length<=1000000):
  ev P (.call AD [.d (I' sz),.d (.ag [d0,d1,d2,d3,qD qn Q,d5,cD cn C,d7,d8])] [])=some (.val (.d (.b (fl sz C Q))) []):=by
 have hI:=afL (f:=Ld) (first:=[]) (caps:=[.ref [I' sz],.ref [d0,d1,d2,d3,qD qn Q,d5,cD cn C,d7,d8]]) (p:=λc=>(c.log.length:Int)==sz&&!jl Q c.task 70) cn C hc (by intro a b c;simp[afO,hn])
 rw[au aeF rfl];unfold fl;generalize (C.any λc=>(c.log.length:Int)==sz&&!jl Q c.task 70)=r at *
 try simp at hI
 simp[RO,fu,hI]
def lE(sz:Int)(prev:Option K)(c:K):Bool:=decide (c.task<0)||decide (16<=c.task)||prev.any (λp=>decide (c.task<=p.task))||decide (sz<c.log.length)
def vc(sz:Int):Option K->List K->Bool
 |_,[]=>true
 |p,c::r=>!lE sz p c&&(c.log.all num&&vc sz (some c) r)
theorem afP(sz:D)(cn:Bool)(C:List K)(k:Int)(bn:Bool)(l:List Int)(hn:l.length<=1000000):∀(suf pre:List Int),l=pre++suf ->
  ev P (.loop 0 [0,1,9,10,11,47,48,49] Mf [(0,.d sz),(1,.d (cD cn C)),(9,.d (cD cn C)),(10,.d (I' C.length)),(11,.d (I' k)),(47,.d (hD bn l)),(48,.d (I' l.length)),(49,.d (I' pre.length))] []) =
   if suf.all num=true then some (.out (.exit 2) [(0,.d sz),(1,.d (cD cn C)),(9,.d (cD cn C)),(10,.d (I' C.length)),(11,.d (I' k))] [])else some (.out .ret [(4,.d (.b false))] []):=by
 intro suf;induction suf with
 |nil =>
  intro pre hl
  have:l.length=pre.length:=by simp[hl]
  rw[bS]
  conv=>lhs;arg 4;unfold Mf
  simp[this]
 |cons w suf ih =>
  intro pre hl;have hg:l[pre.length]?=some w:=by simp[hl]
  have hlt:(pre.length:Int)<l.length:=by simp[hl];omega
  have hnext:IntKind.i64.wrap ((pre.length:Int)+1)=pre.length+1:=wrap_i64 (by omega) (by omega)
  have bB:=ih (pre++[w]) (by simp[hl])
  rw[xx];generalize suf.all num=dd at *;simp at bB;rw[bS]
  conv=>lhs;arg 4;unfold Mf
  cases hw:num w
  .simp[hlt,hg,SL,hw]
  .simp[hlt,hg,SL,hw,hnext]
   exact bB
set_option maxHeartbeats 1000000 in
theorem afQ(sz:Int)(cn:Bool)(C:List K)(hn:C.length<=1000000)(pT:∀c∈C,c.log.length<=1000000):∀(suf pre:List K),C=pre++suf ->
  ev P (.loop 0 [0,1,9,10,11] Mg [(0,.d (I' sz)),(1,.d (cD cn C)),(9,.d (cD cn C)),(10,.d (I' C.length)),(11,.d (I' pre.length))] []) =
   if vc sz pre.getLast? suf=true then some (.out (.exit 0) [] [])else some (.out .ret [(4,.d (.b false))] []):=by
 intro suf;induction suf with
 |nil =>
  intro pre hl
  have:C.length=pre.length:=by simp[hl]
  rw[bS]
  conv=>lhs;arg 4;unfold Mg
  simp[this,vc]
 |cons c suf ih =>
  intro pre hl;have hg:C[pre.length]?=some c:=by simp[hl]
  have hlt:(pre.length:Int)<C.length:=by simp[hl];omega
  have bB:=ih (pre++[c]) (by simp[hl])
  have hN:=afP (I' sz) cn C pre.length c.nl c.log (pT c (by simp[hl])) c.log [] rfl
  have e1:vc sz pre.getLast? (c::suf)=(!lE sz pre.getLast? c&&(c.log.all num&&vc sz (some c) suf)):=rfl;rw[e1];simp only[Wq,Wr,Option.some_or]at bB;generalize vc sz (some c) suf=dd at *;generalize c.log.all num=da at *;simp at bB hN;rw[bS]
  conv=>lhs;arg 4;unfold Mg
  have hnext:IntKind.i64.wrap ((pre.length:Int)+1)=pre.length+1:=wrap_i64 (by omega) (by omega)
  cases h1:(decide (c.task<0)||decide (16<=c.task))
  .rcases Ak pre with rfl |⟨pre',p,rfl⟩
   .have jD:0<C.length:=by simp[hl]
    have CJ:C[0]=c:=by simp[hl]
    cases h2:decide (sz<c.log.length)
    .have hk:lE sz none c=false:=by simp only[lE,h1,h2,Option.any_none,Gs]
     simp[vX]at bB hN;cases da
     .simp at hN
      simp[jD,CJ,K.row,h1,h2,hk,hN]
     .simp at hN
      simp[jD,CJ,K.row,h1,h2,hk,hN,vX];exact bB
    .have hk:lE sz none c=true:=by simp only[lE,h1,h2,Option.any_none,Gs,Pb]
     simp[jD,CJ,K.row,h1,h2,hk]
   .have mC:C[pre'.length]?=some p:=by simp[hl]
    have hlen:((pre'.length:Int)+1<C.length):=by simp[hl];omega
    have hw:IntKind.i64.wrap ((pre'.length:Int)+1 - 1)=pre'.length:=by rw[wrap_i64 (by omega) (by omega)];omega
    have h0:(0:Int)<pre'.length+1:=by omega
    have CL:(0:Int)<=pre'.length+1:=by omega
    have dG:IntKind.i64.wrap (pre'.length:Int)=pre'.length:=wrap_i64 (by omega) (by omega)
    have jQ:IntKind.i64.wrap ((pre'.length:Int)+1+1)=pre'.length+1+1:=wrap_i64 (by omega) (by omega)
    simp only[Gt,lT,uk]at hg;simp at bB hN;cases h3:decide (c.task<=p.task)
    .cases h2:decide (sz<c.log.length)
     .have hk:lE sz (some p) c=false:=by simp only[lE,h1,h2,h3,Pc,Gs]
      cases da
      .simp at hN
       simp[hlen,hg,mC,dG,h0,CL,K.row,h1,h2,h3,hk,hN]
      .simp at hN
       simp[hlen,hg,mC,dG,h0,CL,K.row,h1,h2,h3,hk,hN,jQ];exact bB
     .have hk:lE sz (some p) c=true:=by simp only[lE,h1,h2,h3,Pc,Gs,Pb]
      simp[hlen,hg,mC,dG,h0,CL,K.row,h1,h2,h3,hk]
    .have hk:lE sz (some p) c=true:=by simp only[lE,h1,h3,Pc,Pb,Bool.true_or]
     simp[hlen,hg,mC,dG,h0,CL,K.row,h1,h3,hk]
  .have hk:lE sz pre.getLast? c=true:=by simp[lE,h1]
   simp[hlt,hg,K.row,h1,hk]
theorem afR(sz:Int)(cn:Bool)(C:List K)(hn:C.length<=1000000)(pT:∀c∈C,c.log.length<=1000000):
  ev P (.call QD [.d (I' sz),.d (cD cn C)] [])=some (.val (.d (.b (vc sz none C))) []):=by
 have hL:=afQ sz cn C hn pT C [] rfl;rw[au aeu rfl];generalize hv:vc sz none C=v at *;simp[hv]at hL;cases v<;>simp at hL<;>simp[RJ,hL]
end Go.VS.Sp
namespace Go.VS.Sp
theorem fd_eq{pre:List W}{w:W}{r:List W}:((ju (pre++w::r) w.task).1==(pre.length:Int))=!pre.any (λx=>x.task==w.task):=by
 unfold ju;rw[Ws];cases h:pre.findIdx? (λx=>x.task==w.task)with
 |none =>
  have:pre.any (λx=>x.task==w.task)=false:=by
   rw[qQ];rw[JN]at h;intro x hx;rw[h x hx];decide
  rw[this];simp[xw]
 |some k =>
  obtain⟨h1,h2⟩:=Gr.1 h
  have:pre.any (λx=>x.task==w.task)=true:=rV.2 ⟨_,vq _,h2.1⟩
  rw[this];simp;omega
theorem HV{Q:List W}(h:dY Q=0):Q.length<=96/\∀w,w∈Q->dO w=true:=by
 unfold dY at h;by_cases h1:96<Q.length
 .rw[aK h1]at h;cases h
 .rw[aD h1]at h
  refine⟨by omega,?_⟩
  have:∀(l:List W)(p:Option W),fR 1 p l=0->∀w,w∈l->dO w=true:=by
   intro l;induction l with
   |nil=>simp
   |cons a r ih =>
    intro p h w hw;unfold fR at h;cases hv:dO a
    .rw[hv]at h;simp at h
    .rw[hv]at h
     simp at h;rcases dA.1 hw with e |hw
     .rw[e];exact hv
     .exact ih _ h w hw
  exact this Q none h
theorem sy{w:W}(h:dO w=true):0<=w.task/\w.task<16:=by
 unfold dO kE at h;simp at h;omega
theorem CM{α:Type}{p:α->Bool}:∀(l:List α)(k:Nat),(idx p (k:Int) l = -1/\l.find? p=none)\/∃(i:Nat)(c:α),idx p (k:Int) l=((k+i:Nat):Int)/\l[i]?=some c/\l.find? p=some c
 | [],k=>.inl ⟨rfl,rfl⟩
 |a::l,k=>by
  by_cases ha:p a=true
  .right
   exact⟨0,a,by simp[idx,ha],by simp,by simp[ha]⟩
  .have h:=CM (p:=p) l (k+1)
   have e:((k+1:Nat):Int)=(k:Int)+1:=by omega
   rw[e]at h;rcases h with⟨h1,h2⟩ |⟨i,c,h1,h2,h3⟩
   .left
    exact⟨by simp[idx,ha,h1],by simp[ha,h2]⟩
   .right
    refine⟨i+1,c,?_,by simpa using h2,by simp[ha,h3]⟩
    simp[idx,ha,h1];omega
def mD(C:List K)(t:Int):Option K:=C.find? λc=>c.task==t
theorem M1(C:List K)(t:Int):(jR C t = -1/\mD C t=none)\/∃(i:Nat)(c:K),jR C t=(i:Int)/\C[i]?=some c/\mD C t=some c:=by
 have h:=CM (p:=λc:K=>c.task==t) C 0
 simpa[jR,mD]using h
def vY(C:List K)(w:W):Bool:=match mD C w.task with |some c=>!decide (0<c.log.length)&&w.value==0 |none=>false
def sA(sz:Int)(C:List K)(Q:List W)(w:W):Bool:=if w.op=70 then vY C w else if w.op=68 then fl sz C Q else false
def tq(sz:Int)(C:List K)(Q:List W):List W->List W->Bool
 |_,[]=>true
 |pre,w::r=>!pre.any (λx=>x.task==w.task)&&(w.case == -1&&(sA sz C Q w&&tq sz C Q (pre++[w]) r))
theorem afS(sz:Int)(d0 d1 d2 d3 d5 d7 d8:D)(qn:Bool)(Q:List W)(cn:Bool)(C:List K)(hn:Q.length<=1000000)(hc:C.length<=1000000):∀(suf pre:List W),Q=pre++suf ->
  ev P (.loop 0 [0,3,15,16,17] Mh [(0,.d (I' sz)),(3,.d (.ref [d0,d1,d2,d3,qD qn Q,d5,cD cn C,d7,d8])),(15,.d (qD qn Q)),(16,.d (I' Q.length)),(17,.d (I' pre.length))] []) =
   if tq sz C Q pre suf=true then some (.out (.exit 0) [] [])else some (.out .ret [(4,.d (.b false))] []):=by
 intro suf;induction suf with
 |nil =>
  intro pre hl
  have:Q.length=pre.length:=by simp[hl]
  rw[bS]
  conv=>lhs;arg 4;unfold Mh
  simp[this,tq]
 |cons w suf ih =>
  intro pre hl;have hg:Q[pre.length]?=some w:=by simp[hl]
  have hlt:(pre.length:Int)<Q.length:=by simp[hl];omega
  have hnext:IntKind.i64.wrap ((pre.length:Int)+1)=pre.length+1:=wrap_i64 (by omega) (by omega)
  have bB:=ih (pre++[w]) (by simp[hl])
  have hF:=lD qn Q w.task hn;have nV:((ju Q w.task).1==(pre.length:Int))=!pre.any (λx=>x.task==w.task):=by rw[hl];exact fd_eq
  have mU:=HU d0 d1 d2 d3 (qD qn Q) d5 d7 d8 cn C w.task hc;have nX:=M0 sz d0 d1 d2 d3 d5 d7 d8 qn Q cn C hn hc;have e1:tq sz C Q pre (w::suf)=(!pre.any (λx=>x.task==w.task)&&(w.case == -1&&(sA sz C Q w&&tq sz C Q (pre++[w]) suf))):=rfl
  rw[e1];generalize tq sz C Q (pre++[w]) suf=dd at *;generalize (ju Q w.task).1=fi at *;generalize (ju Q w.task).2=fb at *;simp at bB;rw[bS]
  conv=>lhs;arg 4;unfold Mh
  cases ha:pre.any (λx=>x.task==w.task)
  .rw[ha]at nV
   have rD:(fi != (pre.length:Int))=false:=by simp[bne,nV]
   cases hk:w.case == -1
   .have hk2:(w.case != -1)=true:=by simp[bne,hk]
    simp[hlt,hg,W.row,hF,rD,hk2]
   .have hk2:(w.case != -1)=false:=by simp[bne,hk]
    by_cases fG:w.op=70
    .have M3:(w.op==70)=true:=by simp[fG]
     have e2:sA sz C Q w=vY C w:=by simp[sA,fG]
     rw[e2];rcases M1 C w.task with⟨f1,f2⟩ |⟨i,c,f1,f2,f3⟩
     .have e3:vY C w=false:=by simp[vY,f2]
      rw[f1]at mU;simp[hlt,hg,W.row,hF,rD,hk2,fG,mU,e3]
     .have e3:vY C w=(!decide (0<c.log.length)&&w.value==0):=by simp only[vY,f3]
      rw[f1]at mU;rw[e3];have n1:¬((i:Int)<0):=by omega
      cases p1:decide (0<c.log.length)
      .cases p2:w.value==0
       .have p3:(w.value != 0)=true:=by simp[bne,p2]
        simp at p1;simp[hlt,hg,W.row,hF,rD,hk2,fG,mU,n1,f2,K.row,p1,p3]
       .have p3:(w.value != 0)=false:=by simp[bne,p2]
        simp at p1;simp[hlt,hg,W.row,hF,rD,hk2,fG,mU,n1,f2,K.row,p1,p3,hnext];exact bB
      .simp at p1
       simp[hlt,hg,W.row,hF,rD,hk2,fG,mU,n1,f2,K.row,p1]
    .have M3:(w.op==70)=false:=by simp[fG]
     by_cases eZ:w.op=68
     .have e2:sA sz C Q w=fl sz C Q:=by simp[sA,eZ]
      rw[e2];cases hfl:fl sz C Q
      .rw[hfl]at nX
       simp[hlt,hg,W.row,hF,rD,hk2,eZ,nX]
      .rw[hfl]at nX
       simp[hlt,hg,W.row,hF,rD,hk2,eZ,nX,hnext];exact bB
     .have SM:(w.op==68)=false:=by simp[eZ]
      have e2:sA sz C Q w=false:=by simp[sA,fG,eZ]
      rw[e2];simp[hlt,hg,W.row,hF,rD,hk2,M3,SM]
  .rw[ha]at nV
   have rD:(fi != (pre.length:Int))=true:=by simp[bne,nV]
   simp[hlt,hg,W.row,hF,rD]
theorem afT(sz:Int)(d0 d1 d2 d3 d5 d7 d8:D)(qn:Bool)(Q:List W)(cn:Bool)(C:List K)(hn:Q.length<=1000000)(hc:C.length<=1000000):
  ev P (.call QE [.d (I' sz),.d (.ag [d0,d1,d2,d3,qD qn Q,d5,cD cn C,d7,d8])] [])=some (.val (.d (.b (dY Q==0&&tq sz C Q [] Q))) []):=by
 have hL:=afS sz d0 d1 d2 d3 d5 d7 d8 qn Q cn C hn hc Q [] rfl;have hW:=uK qn Q;rw[au aev rfl];generalize tq sz C Q [] Q=v at *;simp at hL;cases hw:dY Q==0
 .have dG:(dY Q != 0)=true:=by simp[bne,hw]
  simp[Mi,hW,dG]
 .have dG:(dY Q != 0)=false:=by simp[bne,hw]
  cases v<;>simp at hL<;>simp[Mi,hW,dG,hL]
structure S where
 own:Int
 cnt:Int
 time:Int
 hn:Bool
 H:List Int
 qn:Bool
 Q:List W
 bn:Bool
 B:List Int
 cn:Bool
 C:List K
 cl:Bool
 val:Int
 deriving DecidableEq
abbrev S.row(s:S):List D:=[I' s.own,I' s.cnt,I' s.time,hD s.hn s.H,qD s.qn s.Q,hD s.bn s.B,cD s.cn s.C,.b s.cl,I' s.val]
def S.uO(s:S):Bool:=s.cnt != 0||s.time != 0||decide (0<s.H.length+s.B.length)||s.cl||s.val != 0
structure S.sm(s:S):Prop where
 h:s.H.length<=1000000
 b:s.B.length<=1000000
 q:s.Q.length<=1000000
 c:s.C.length<=1000000
 l:∀c∈s.C,c.log.length<=1000000
def S.good(sz:Int)(s:S):Bool:=s.own == -1&&(vc sz none s.C&&(dY s.Q==0&&tq sz s.C s.Q [] s.Q))&&!s.uO
def fM(k sz ot:Int)(s:S):Int:=if dQ k sz ot=0 then(if s.good sz then 0 else 1)else dQ k sz ot
theorem qy(nm:D)(k sz ot:Int)(s:S)(hs:s.sm):
  ev P (.call rq [.d (.ag [nm,I' k,I' sz,I' ot]),.d (.ag s.row)] [])=some (.val (.d (I' (fM k sz ot s))) []):=by
 have hC:=afR sz s.cn s.C hs.c hs.l;have hQ:=afT sz (I' s.own) (I' s.cnt) (I' s.time) (hD s.hn s.H) (hD s.bn s.B) (.b s.cl) (I' s.val) s.qn s.Q s.cn s.C hs.q hs.c;have hh:=hs.h;have hb:=hs.b;rw[au ad0 rfl];unfold fM;cases hm:dQ k sz ot==0
 .have hm':dQ k sz ot≠0:=by simpa using hm
  have hm2:(dQ k sz ot != 0)=true:=by simpa using hm'
  simp[Cx,uN,hm',hm2,bY]
 .have hm':dQ k sz ot=0:=by simpa using hm
  unfold S.good;cases ho:s.own == -1
  .have fK:(s.own != -1)=true:=by simp[bne,ho]
   simp[Cx,uN,hm',gm,fK]
  .have fK:(s.own != -1)=false:=by simp[bne,ho]
   cases hv:vc sz none s.C<;>rw[hv]at hC
   .simp[Cx,uN,hm',gm,fK,hC]
   .cases hq:(dY s.Q==0&&tq sz s.C s.Q [] s.Q)<;>rw[hq]at hQ
    .simp[Cx,uN,hm',gm,fK,hC,hQ]
    .have hw:IntKind.i64.wrap ((s.H.length:Int)+s.B.length)=s.H.length+s.B.length:=wrap_i64 (by omega) (by omega)
     have hd:decide ((0:Int)<(s.H.length:Int)+s.B.length)=decide (0<s.H.length+s.B.length):=by
      rw[um];simp;omega
     simp[Cx,uN,hm',gm,fK,hC,hQ,hw,hd];cases hz:(s.cnt != 0||s.time != 0||decide (0<s.H.length+s.B.length)||s.cl||s.val != 0)
     .have tE:s.uO=false:=hz
      simp[tE]
     .have tE:s.uO=true:=hz
      simp[tE]
end Go.VS.Sp
namespace Go.VS.Sp
def lF(Q:List W):Int:=idx (λw=>w.op==68) 0 Q
end Go.VS.Sp
namespace Go.VS.Sp
theorem afU{Q:List W}:decide (lF Q<0)=!Q.any λw=>w.op==68:=by
 have:=AV (p:=λw:W=>w.op==68) (l:=Q) (k:=0) (by omega)
 unfold lF;cases h:Q.any λw=>w.op==68
 .rw[h]at this
  have h2:¬0<=idx (λw:W=>w.op==68) 0 Q:=λx=>by simpa using this.1 x
  simp;omega
 .have:=this.2 h
  simp;omega
end Go.VS.Sp
namespace Go.VS.Sp
def dR(K k sz ot:Int):Int:=if(k != K)=true then 8 else if(sz != 0||ot != 0)=true then 2 else 0
def iR(k sz ot:Int):Int:=if(k != 4)=true then 8 else if(decide (sz<1)||decide (100<sz)||(ot != 0&&ot != 1))=true then 2 else 0
def iS(k sz ot:Int):Int:=if(k != 5)=true then 8 else if(decide (sz<1)||decide (100<sz)||ot != 0)=true then 2 else 0
def iq(k sz ot:Int):Int:=if(k != 6)=true then 8 else if(decide (sz<0)||decide (100<sz)||ot != 0)=true then 2 else 0
def jv(k sz ot:Int):Int:=if(k != 8)=true then 8 else if(decide (sz<1)||decide (100<sz)||decide (ot<1)||decide (1099511627776<ot))=true then 2 else 0
def grow(n:Int):List D:=[I' (-1),I' n,I' 0,.sl 1 true [],.sl 5 true [],.sl 1 true [],.sl 2 true [],.b false,I' 0]
abbrev sC(e:Int)(r:List D):Option ej:=some (.val (.tu [.d (.ag (if e=0 then r else bY)),.d (I' e)]) [])
theorem SN(nm:D)(k sz ot:Int):ev P (.call sq [.d (.ag [nm,I' k,I' sz,I' ot])] [])=sC (dR 1 k sz ot) gm:=by
 rw[au XC rfl];unfold dR;cases hk:k != 1
 .cases hb:(sz != 0||ot != 0)<;>simp[Er,hk,hb,gm,bY]
 .simp[Er,hk,bY]
theorem SO(nm:D)(k sz ot:Int):ev P (.call su [.d (.ag [nm,I' k,I' sz,I' ot])] [])=sC (dR 2 k sz ot) gm:=by
 rw[au XE rfl];unfold dR;cases hk:k != 2
 .cases hb:(sz != 0||ot != 0)<;>simp[Et,hk,hb,gm,bY]
 .simp[Et,hk,bY]
theorem HW(nm:D)(k sz ot:Int):ev P (.call tr [.d (.ag [nm,I' k,I' sz,I' ot])] [])=sC (dR 9 k sz ot) gm:=by
 rw[au ad2 rfl];unfold dR;cases hk:k != 9
 .cases hb:(sz != 0||ot != 0)<;>simp[LY,hk,hb,gm,bY]
 .simp[LY,hk,bY]
theorem vZ(nm:D)(k sz ot:Int):ev P (.call s9 [.d (.ag [nm,I' k,I' sz,I' ot])] [])=sC (iR k sz ot) (grow sz):=by
 rw[au adW rfl];unfold iR;cases hk:k != 4
 .cases hb:(decide (sz<1)||decide (100<sz)||(ot != 0&&ot != 1))<;>simp[LS,hk,hb,grow,bY]
 .simp[LS,hk,bY]
theorem v5(nm:D)(k sz ot:Int):ev P (.call tc [.d (.ag [nm,I' k,I' sz,I' ot])] [])=sC (iS k sz ot) gm:=by
 rw[au adX rfl];unfold iS;cases hk:k != 5
 .cases hb:(decide (sz<1)||decide (100<sz)||ot != 0)<;>simp[LU,hk,hb,gm,bY]
 .simp[LU,hk,bY]
theorem HX(nm:D)(k sz ot:Int):ev P (.call tg [.d (.ag [nm,I' k,I' sz,I' ot])] [])=sC (iq k sz ot) gm:=by
 rw[au adY rfl];unfold iq;cases hk:k != 6
 .cases hb:(decide (sz<0)||decide (100<sz)||ot != 0)<;>simp[LV,hk,hb,gm,bY]
 .simp[LV,hk,bY]
theorem v7(nm:D)(k sz ot:Int):ev P (.call tj [.d (.ag [nm,I' k,I' sz,I' ot])] [])=sC (jv k sz ot) (grow sz):=by
 rw[au ad1 rfl];unfold jv;cases hk:k != 8
 .cases hb:(decide (sz<1)||decide (100<sz)||decide (ot<1)||decide (1099511627776<ot))<;>simp[LX,hk,hb,grow,bY]
 .simp[LX,hk,bY]
end Go.VS.Sp
namespace Go.VS.Sp
theorem afV(n1 n2:Bool)(l m:List Int)(hn:l.length<=1000000)(hm:l.length=m.length):∀(suf iT pre:List Int),l=pre++suf->m=pre++iT ->
  ev P (.loop 0 [0,1,5] LM [(0,.d (hD n1 l)),(1,.d (hD n2 m)),(5,.d (I' pre.length))] []) =
   if suf=iT then some (.out (.exit 0) [] [])else some (.out .ret [(4,.d (.b false))] []):=by
 intro suf;induction suf with
 |nil =>
  intro iT pre hl hl';have h1:l.length=pre.length:=by simp[hl]
  have:iT=[]:=by
   have h2:m.length=pre.length+iT.length:=by simp[hl']
   exact xy.1 (by omega)
  subst this;rw[bS]
  conv=>lhs;arg 4;unfold LM
  simp[h1]
 |cons w suf ih =>
  intro iT pre hl hl';have hg:l[pre.length]?=some w:=by simp[hl]
  have hlt:(pre.length:Int)<l.length:=by simp[hl];omega
  have hnext:IntKind.i64.wrap ((pre.length:Int)+1)=pre.length+1:=wrap_i64 (by omega) (by omega)
  cases iT with
  |nil=>exfalso;simp[hl,hl']at hm
  |cons w' iT =>
  have hg':m[pre.length]?=some w':=by simp[hl']
  rw[bS]
  conv=>lhs;arg 4;unfold LM
  by_cases hw:w=w'
  .subst hw
   have bB:=ih iT (pre++[w]) (by simp[hl]) (by simp[hl'])
   simp at bB;simp[hlt,hg,hg',hnext];exact bB
  .have dG:(w != w')=true:=by simpa using hw
   simp[hlt,hg,hg',dG,hw]
theorem SP(n1 n2:Bool)(l m:List Int)(hn:l.length<=1000000):
  ev P (.call GU [.d (hD n1 l),.d (hD n2 m)] [])=some (.val (.d (.b (l==m))) []):=by
 rw[au adS rfl];by_cases hlen:l.length=m.length
 .have hl:=afV n1 n2 l m hn hlen l m [] rfl rfl
  simp at hl
  have:((l.length:Int) != m.length)=false:=by simp[hlen]
  simp[LN,this];simp[hl];by_cases h:l=m<;>simp[h]
 .have:((l.length:Int) != m.length)=true:=by simp;omega
  have h2:¬l=m:=λh=>hlen (by rw[h])
  simp[LN,this,h2]
theorem W.neq{w w':W}(h:¬w=w'):(!w.task==w'.task||(!w.op==w'.op||(!w.value==w'.value||(!w.prio==w'.prio||!w.case==w'.case))))=true:=by
 cases hb:(!w.task==w'.task||(!w.op==w'.op||(!w.value==w'.value||(!w.prio==w'.prio||!w.case==w'.case))))
 .exfalso;apply h
  simp at hb;cases w;cases w';simp at hb⊢;exact hb
 .rfl
theorem afW(n1 n2:Bool)(l m:List W)(hn:l.length<=1000000)(hm:l.length=m.length):∀(suf iT pre:List W),l=pre++suf->m=pre++iT ->
  ev P (.loop 0 [0,1,5] LO [(0,.d (qD n1 l)),(1,.d (qD n2 m)),(5,.d (I' pre.length))] []) =
   if suf=iT then some (.out (.exit 0) [] [])else some (.out .ret [(4,.d (.b false))] []):=by
 intro suf;induction suf with
 |nil =>
  intro iT pre hl hl';have h1:l.length=pre.length:=by simp[hl]
  have:iT=[]:=by
   have h2:m.length=pre.length+iT.length:=by simp[hl']
   exact xy.1 (by omega)
  subst this;rw[bS]
  conv=>lhs;arg 4;unfold LO
  simp[h1]
 |cons w suf ih =>
  intro iT pre hl hl';have hg:l[pre.length]?=some w:=by simp[hl]
  have hlt:(pre.length:Int)<l.length:=by simp[hl];omega
  have hnext:IntKind.i64.wrap ((pre.length:Int)+1)=pre.length+1:=wrap_i64 (by omega) (by omega)
  cases iT with
  |nil=>exfalso;simp[hl,hl']at hm
  |cons w' iT =>
  have hg':m[pre.length]?=some w':=by simp[hl']
  rw[bS]
  conv=>lhs;arg 4;unfold LO
  by_cases hw:w=w'
  .subst hw
   have bB:=ih iT (pre++[w]) (by simp[hl]) (by simp[hl'])
   simp at bB;simp[hlt,hg,hg',hnext,W.row];exact bB
  .have dG:=W.neq hw
   simp[hlt,hg,hg',dG,hw,W.row]
theorem afX(n1 n2:Bool)(l m:List W)(hn:l.length<=1000000):
  ev P (.call Ql [.d (qD n1 l),.d (qD n2 m)] [])=some (.val (.d (.b (l==m))) []):=by
 rw[au adT rfl];by_cases hlen:l.length=m.length
 .have hl:=afW n1 n2 l m hn hlen l m [] rfl rfl
  simp at hl
  have:((l.length:Int) != m.length)=false:=by simp[hlen]
  simp[LP,this];simp[hl];by_cases h:l=m<;>simp[h]
 .have:((l.length:Int) != m.length)=true:=by simp;omega
  have h2:¬l=m:=λh=>hlen (by rw[h])
  simp[LP,this,h2]
def K.pl(c:K):K:=⟨c.task,false,c.log⟩
theorem afY(n1 n2:Bool)(l m:List K)(hn:l.length<=1000000)(hk:∀c∈l,c.log.length<=1000000)(hm:l.length=m.length):∀(suf iT pre pre':List K),l=pre++suf->m=pre'++iT->pre'.length=pre.length ->
  ev P (.loop 0 [0,1,5] LQ [(0,.d (cD n1 l)),(1,.d (cD n2 m)),(5,.d (I' pre.length))] []) =
   if(suf.map K.pl==iT.map K.pl)=true then some (.out (.exit 0) [] [])else some (.out .ret [(4,.d (.b false))] []):=by
 intro suf;induction suf with
 |nil =>
  intro iT pre pre' hl hl' hp;have h1:l.length=pre.length:=by simp[hl]
  have:iT=[]:=by
   have h2:m.length=pre'.length+iT.length:=by simp[hl']
   exact xy.1 (by omega)
  subst this;rw[bS]
  conv=>lhs;arg 4;unfold LQ
  simp[h1]
 |cons w suf ih =>
  intro iT pre pre' hl hl' hp;have hg:l[pre.length]?=some w:=by simp[hl]
  have hlt:(pre.length:Int)<l.length:=by simp[hl];omega
  have hnext:IntKind.i64.wrap ((pre.length:Int)+1)=pre.length+1:=wrap_i64 (by omega) (by omega)
  cases iT with
  |nil=>exfalso;simp[hl,hl']at hm;omega
  |cons w' iT =>
  have hg':m[pre.length]?=some w':=by rw[<-hp];simp[hl']
  have e:((w::suf).map K.pl==(w'::iT).map K.pl)=(w.task==w'.task&&(w.log==w'.log&&suf.map K.pl==iT.map K.pl)):=by
   rw[um];simp[K.pl,and_assoc]
  have hS:=SP w.nl w'.nl w.log w'.log (hk w (by simp[hl]))
  have bB:=ih iT (pre++[w]) (pre'++[w']) (by simp[hl]) (by simp[hl']) (by simp[hp])
  rw[e];generalize (suf.map K.pl==iT.map K.pl)=pp at *;generalize (w.log==w'.log)=ll at *;simp at bB;rw[bS]
  conv=>lhs;arg 4;unfold LQ
  cases hw:w.task==w'.task
  .have dG:(w.task != w'.task)=true:=by simp[bne,hw]
   simp[hlt,hg,hg',dG,K.row]
  .have dG:(w.task != w'.task)=false:=by simp[bne,hw]
   cases ll
   .simp[hlt,hg,hg',dG,K.row,hS]
   .simp[hlt,hg,hg',dG,K.row,hS,hnext]
    exact bB
theorem afZ(n1 n2:Bool)(l m:List K)(hn:l.length<=1000000)(hk:∀c∈l,c.log.length<=1000000):
  ev P (.call Qm [.d (cD n1 l),.d (cD n2 m)] [])=some (.val (.d (.b (l.map K.pl==m.map K.pl))) []):=by
 rw[au adU rfl];by_cases hlen:l.length=m.length
 .have hl:=afY n1 n2 l m hn hk hlen l m [] [] rfl rfl rfl
  generalize (l.map K.pl==m.map K.pl)=bb at *;simp at hl
  have:((l.length:Int) != m.length)=false:=by simp[hlen]
  simp[LR,this];cases bb<;>simp at hl<;>simp[hl]
 .have:((l.length:Int) != m.length)=true:=by simp;omega
  have h2:¬l.map K.pl=m.map K.pl:=λh=>hlen (by simpa using congrArg List.length h)
  simp only[beq_eq_false_iff_ne.2 h2];simp[LR,this]
def S.pl(s:S):S:=⟨s.own,s.cnt,s.time,false,s.H,false,s.Q,false,s.B,false,s.C.map K.pl,s.cl,s.val⟩
theorem af0(a b:S)(ha:a.sm):ev P (.call Qf [.d (.ag a.row),.d (.ag b.row)] [])=some (.val (.d (.b (a.pl==b.pl))) []):=by
 rw[au adH rfl];have e1:=SP a.hn b.hn a.H b.H ha.h;have e2:=SP a.bn b.bn a.B b.B ha.b;have e3:=afX a.qn b.qn a.Q b.Q ha.q;have e4:=afZ a.cn b.cn a.C b.C ha.c ha.l;have e:(a.pl==b.pl)=(!(a.own != b.own||a.cnt != b.cnt||a.time != b.time||!a.cl==b.cl||a.val != b.val)&&(a.H==b.H&&a.B==b.B&&a.Q==b.Q&&a.C.map K.pl==b.C.map K.pl)):=by
  rw[um];simp[S.pl];grind
 rw[e];generalize (a.C.map K.pl==b.C.map K.pl)=b4 at *;generalize (a.Q==b.Q)=b3 at *;generalize (a.B==b.B)=b2 at *;generalize (a.H==b.H)=b1 at *;cases hA:(a.own != b.own||a.cnt != b.cnt||a.time != b.time||!a.cl==b.cl||a.val != b.val)
 .simp[LF,hA,e1,e2,e3,e4]
 .simp[LF,hA]
def S.xR(s:S):Bool:=(decide ((40:Int)<s.H.length)||decide ((40:Int)<s.Q.length)||decide ((120:Int)<s.B.length)||decide ((40:Int)<s.C.length))||s.C.any λc=>decide (120<c.log.length)
theorem af1(s:S)(hn:s.C.length<=1000000):∀(suf pre:List K),s.C=pre++suf ->
  ev P (.loop 0 [1,3] LC [(1,.d (.ref s.row)),(3,.d (I' pre.length))] []) =
   if(suf.any λc=>decide (120<c.log.length))=true then some (.out .ret [(2,.d (.b true))] [])else some (.out (.exit 0) [] []):=by
 intro suf;induction suf with
 |nil =>
  intro pre hl
  have:s.C.length=pre.length:=by simp[hl]
  rw[bS]
  conv=>lhs;arg 4;unfold LC
  simp[this]
 |cons w suf ih =>
  intro pre hl;have hg:s.C[pre.length]?=some w:=by simp[hl]
  have hlt:(pre.length:Int)<s.C.length:=by simp[hl];omega
  have hnext:IntKind.i64.wrap ((pre.length:Int)+1)=pre.length+1:=wrap_i64 (by omega) (by omega)
  have bB:=ih (pre++[w]) (by simp[hl])
  rw[List.any_cons];generalize (suf.any λc=>decide (120<c.log.length))=dd at *
  simp at bB;rw[bS]
  conv=>lhs;arg 4;unfold LC
  by_cases hb:120<w.log.length
  .have hb':(120:Int)<w.log.length:=by omega
   simp[hlt,hg,K.row,hb',hb]
  .have hb':¬(120:Int)<w.log.length:=by omega
   simp[hlt,hg,K.row,hb',hb,hnext];exact bB
theorem Yh(s:S):ev P (.call Qe [.d (.ag s.row)] [])=some (.val (.d (.b s.xR)) []):=by
 rw[au adF rfl];cases hA:(decide ((40:Int)<s.H.length)||decide ((40:Int)<s.Q.length)||decide ((120:Int)<s.B.length)||decide ((40:Int)<s.C.length))
 .have hlen:s.C.length<=1000000:=by simp at hA;omega
  have hl:=af1 s hlen s.C [] rfl;have hS:s.xR=(s.C.any λc=>decide (120<c.log.length)):=by simp only[S.xR,hA,Bool.false_or]
  rw[hS];generalize (s.C.any λc=>decide (120<c.log.length))=dd at *
  simp at hl;cases dd<;>simp at hl<;>simp[LD,hA,hl]
 .have hS:s.xR=true:=by simp only[S.xR,hA,Bool.true_or]
  rw[hS];simp[LD,hA]
def cY(n:Int):Bool:=decide (0<=n)&&decide (n<16)
end Go.VS.Sp
namespace Go.VS.Sp
def ck(n:Int)(b:Bool):Int:=if n=0 then(if b then 0 else 1)else n
theorem zc(nl:Bool):ev P (.call qv [.d (I' 1),.d (qD nl [])] [])=some (.val (.d (I' 0)) []):=by
 exact uK nl []
theorem af2(nl:Bool):ev P (.call qv [.d (I' 2),.d (qD nl [])] [])=some (.val (.d (I' 0)) []):=by
 have hl:ev P (.loop 0 [0,1,16,17,18] vQ [(0,.d (I' 2)),(1,.d (qD nl [])),(16,.d (qD nl [])),(17,.d (I' 0)),(18,.d (I' 0))] [])=some (.out (.exit 0) [] []):=
  E4 2 nl [] (by simp) [] [] rfl
 rw[au MS rfl];simp[y6,hl]
theorem af3(H B:List Int)(C:List K):decide ((0:Int)<(H.length:Int)+B.length+C.length)=!(H.isEmpty&&(B.isEmpty&&C.isEmpty)):=by
 cases H<;>cases B<;>cases C<;>simp<;>omega
theorem af4(H:List Int)(C:List K):decide ((0:Int)<(H.length:Int)+C.length)=!(H.isEmpty&&C.isEmpty):=by
 cases H<;>cases C<;>simp<;>omega
theorem M4{α:Type}(H:List α):decide (0<H.length)=!H.isEmpty:=by
 cases H<;>simp
def bare(own cnt time:Int)(qn:Bool):S:=⟨own,cnt,time,true,[],qn,[],true,[],true,[],false,0⟩
theorem SQ(n:Int):ev P (.call GX [.d (I' n)] [])=some (.val (.d (.b (cY n))) []):=by
 rw[au XP rfl];simp[L3,cY]
def pU(s:S):Bool:=!(s.own != -1&&!cY s.own)&&!(s.cnt != 0||s.time != 0||s.val != 0||s.cl||decide ((0:Int)<(s.H.length:Int)+s.B.length+s.C.length))
theorem af5(s:S)(hq:s.Q=[])(hs:s.sm):ev P (.call KG [.d (.ag s.row)] [])=some (.val (.d (.b (pU s))) []):=by
 obtain⟨own,cnt,time,hn,H,qn,Q,bn,B,cn,C,cl,val⟩:=s;simp only at hq;subst hq;obtain⟨h1,h2,h3,h4,_⟩:=hs;simp only at h1 h2 h4;have hw1:IntKind.i64.wrap ((H.length:Int)+B.length)=H.length+B.length:=wrap_i64 (by omega) (by omega)
 have dG:IntKind.i64.wrap ((H.length:Int)+B.length+C.length)=H.length+B.length+C.length:=wrap_i64 (by omega) (by omega)
 have hl:∀row:List D,ev P (.loop 0 [1,61,62,63] EC [(1,.d (.ref row)),(61,.d (qD qn [])),(62,.d (I' 0)),(63,.d (I' 0))] [])=some (.out (.exit 0) [] []):=by
  intro row;rw[bS]
  conv=>lhs;arg 4;unfold EC
  simp
 rw[au XO rfl];unfold pU;cases hA:(own != -1&&!cY own)
 .cases hB:(cnt != 0||time != 0||val != 0||cl||decide ((0:Int)<(H.length:Int)+B.length+C.length))
  .simp[ED,SQ,hA,hw1,dG,hB,af2,hl]
  .simp[ED,SQ,hA,hw1,dG,hB]
 .simp[ED,SQ,hA]
theorem Yi(nm:D)(k sz ot:Int)(s:S)(hq:s.Q=[])(hs:s.sm):
  ev P (.call pM [.d (.ag [nm,I' k,I' sz,I' ot]),.d (.ag s.row)] [])=some (.val (.d (I' (ck (dR 1 k sz ot) (pU s)))) []):=by
 have hv:=af5 s hq hs;rw[au XD rfl];unfold ck;cases hm:dR 1 k sz ot==0
 .have hm':dR 1 k sz ot≠0:=by simpa using hm
  have hm2:(dR 1 k sz ot != 0)=true:=by simpa using hm'
  simp[Es,SN,hm',hm2,bY]
 .have hm':dR 1 k sz ot=0:=by simpa using hm
  generalize pU s=b at *;simp[Es,SN,hm',gm,hv];cases b<;>simp
def qz(sz:Int)(s:S):Bool:=!(s.own != -1||decide (s.cnt<0)||decide (sz<s.cnt))&&!(s.time != 0||decide ((0:Int)<(s.H.length:Int)+s.B.length+s.C.length)||s.cl||s.val != 0)
theorem Yj(nm:D)(k sz ot:Int)(s:S)(hq:s.Q=[])(hs:s.sm):
  ev P (.call qu [.d (.ag [nm,I' k,I' sz,I' ot]),.d (.ag s.row)] [])=some (.val (.d (I' (ck (iR k sz ot) (qz sz s)))) []):=by
 obtain⟨own,cnt,time,hn,H,qn,Q,bn,B,cn,C,cl,val⟩:=s;simp only at hq;subst hq;obtain⟨h1,h2,h3,h4,_⟩:=hs;simp only at h1 h2 h4;have hw1:IntKind.i64.wrap ((H.length:Int)+B.length)=H.length+B.length:=wrap_i64 (by omega) (by omega)
 have dG:IntKind.i64.wrap ((H.length:Int)+B.length+C.length)=H.length+B.length+C.length:=wrap_i64 (by omega) (by omega)
 have hl:∀(o row:List D),ev P (.loop 0 [2,3,39,40] Ev [(2,.d (.ref o)),(3,.d (.ref row)),(39,.d (I' 0)),(40,.d (I' 0))] [])=some (.out (.exit 0) [(3,.d (.ref row))] []):=by
  intro o row;rw[bS]
  conv=>lhs;arg 4;unfold Ev
  simp
 rw[au XG rfl];unfold ck qz;cases hm:iR k sz ot==0
 .have hm':iR k sz ot≠0:=by simpa using hm
  have hm2:(iR k sz ot != 0)=true:=by simpa using hm'
  simp[uF,vZ,hm',hm2,bY]
 .have hm':iR k sz ot=0:=by simpa using hm
  cases hA:(own != -1||decide (cnt<0)||decide (sz<cnt))
  .cases hB:(time != 0||decide ((0:Int)<(H.length:Int)+B.length+C.length)||cl||val != 0)
   .simp[uF,vZ,hm',grow,hA,hw1,dG,hB,zc,hl]
   .simp[uF,vZ,hm',grow,hA,hw1,dG,hB,zc,hl]
  .simp[uF,vZ,hm',grow,hA]
def okB(s:S):Bool:=!(s.own != -1||decide (s.cnt<0)||decide (1099511627776<s.cnt))&&!(s.time != 0||s.val != 0||s.cl||decide ((0:Int)<(s.H.length:Int)+s.B.length+s.C.length))
theorem af6{k sz ot:Int}(h:iS k sz ot=0):¬sz<=0:=by
 unfold iS at h;split at h
 .simp at h
 .split at h
  .simp at h
  .rename_i h2
   simp at h2;omega
theorem Yk(nm:D)(k sz ot:Int)(s:S)(hq:s.Q=[])(hs:s.sm):
  ev P (.call oF [.d (.ag [nm,I' k,I' sz,I' ot]),.d (.ag s.row)] [])=some (.val (.d (I' (ck (iS k sz ot) (okB s)))) []):=by
 obtain⟨own,cnt,time,hn,H,qn,Q,bn,B,cn,C,cl,val⟩:=s;simp only at hq;subst hq;obtain⟨h1,h2,h3,h4,_⟩:=hs;simp only at h1 h2 h4;have hw1:IntKind.i64.wrap ((H.length:Int)+B.length)=H.length+B.length:=wrap_i64 (by omega) (by omega)
 have dG:IntKind.i64.wrap ((H.length:Int)+B.length+C.length)=H.length+B.length+C.length:=wrap_i64 (by omega) (by omega)
 have hl:∀(row:List D),ev P (.loop 0 [3,71,72,73] Ew [(3,.d (.ref row)),(71,.d (qD qn [])),(72,.d (I' 0)),(73,.d (I' 0))] [])=some (.out (.exit 0) [] []):=by
  intro row;rw[bS]
  conv=>lhs;arg 4;unfold Ew
  simp
 rw[au XH rfl];unfold ck okB;cases hm:iS k sz ot==0
 .have hm':iS k sz ot≠0:=by simpa using hm
  have hm2:(iS k sz ot != 0)=true:=by simpa using hm'
  simp[uG,v5,hm',hm2,bY]
 .have hm':iS k sz ot=0:=by simpa using hm
  have hz:=af6 hm';cases hA:(own != -1||decide (cnt<0)||decide (1099511627776<cnt))
  .cases hB:(time != 0||val != 0||cl||decide ((0:Int)<(H.length:Int)+B.length+C.length))
   .simp[uG,v5,hm',hz,gm,hA,hw1,dG,hB,zc,hl]
   .simp[uG,v5,hm',hz,gm,hA,hw1,dG,hB,zc,hl]
  .simp[uG,v5,hm',hz,gm,hA]
end Go.VS.Sp
namespace Go.VS.Sp
theorem CN(n:Int):ev P (.call Eg [.d (I' n)] [])=some (.val (.d (.b (cY n))) []):=by
 rw[au XR rfl];simp[L4,cY]
def tF:Option Int->List Int->Bool
 |_,[]=>true
 |p,t::r=>!(!cY t||p.any λq=>decide (t<=q))&&tF (some t) r
def CO(s:S):Bool:=(s.own != -1&&(!cY s.own||decide (0<s.H.length)))||s.cnt != 0||s.time != 0||decide (0<s.B.length)||decide (0<s.C.length)||s.cl||s.val != 0
def okW(s:S):Bool:=!CO s&&tF none s.H
theorem af7{own cnt time val:Int}{hn qn bn cn cl:Bool}{H B:List Int}{C:List K}(hn1:H.length<=1000000):∀(suf pre:List Int),H=pre++suf ->
  ev P (.loop 0 [1,52,53,54] AI [(1,.d (.ref [I' own,I' cnt,I' time,hD hn H,qD qn [],hD bn B,cD cn C,.b cl,I' val])),(52,.d (hD hn H)),(53,.d (I' H.length)),(54,.d (I' pre.length))] []) =
   if tF pre.getLast? suf=true then some (.out (.exit 0) [(1,.d (.ref [I' own,I' cnt,I' time,hD hn H,qD qn [],hD bn B,cD cn C,.b cl,I' val]))] [])else some (.out .ret [(2,.d (.b false))] []):=by
 intro suf;induction suf with
 |nil =>
  intro pre hl
  have:H.length=pre.length:=by simp[hl]
  rw[bS]
  conv=>lhs;arg 4;unfold AI
  simp[this,tF]
 |cons t suf ih =>
  intro pre hl;have hg:H[pre.length]?=some t:=by simp[hl]
  have hlt:(pre.length:Int)<H.length:=by simp[hl];omega
  have bB:=ih (pre++[t]) (by simp[hl])
  have e1:tF pre.getLast? (t::suf)=(!(!cY t||pre.getLast?.any λq=>decide (t<=q))&&tF (some t) suf):=rfl
  rw[e1];simp only[Wq,Wr,Option.some_or]at bB;generalize tF (some t) suf=dd at *;simp at bB;rw[bS]
  conv=>lhs;arg 4;unfold AI
  cases h1:cY t
  .simp[hlt,hg,CN,h1]
  .rcases Ak pre with rfl |⟨pre',p,rfl⟩
   .have jD:0<H.length:=by simp[hl]
    have CJ:H[0]=t:=by simp[hl]
    simp[vX]at bB;simp[jD,CJ,CN,h1,vX];exact bB
   .have mC:H[pre'.length]?=some p:=by simp[hl]
    have hlen:((pre'.length:Int)+1<H.length):=by simp[hl];omega
    have hw:IntKind.i64.wrap ((pre'.length:Int)+1 - 1)=pre'.length:=by rw[wrap_i64 (by omega) (by omega)];omega
    have h0:(0:Int)<pre'.length+1:=by omega
    have CL:(0:Int)<=pre'.length+1:=by omega
    have dG:IntKind.i64.wrap (pre'.length:Int)=pre'.length:=wrap_i64 (by omega) (by omega)
    have jQ:IntKind.i64.wrap ((pre'.length:Int)+1+1)=pre'.length+1+1:=wrap_i64 (by omega) (by omega)
    simp only[Gt,lT,uk]at hg;simp at bB;cases h3:decide (t<=p)
    .simp[hlen,hg,mC,dG,h0,CL,CN,h1,h3,jQ]
     exact bB
    .simp[hlen,hg,mC,dG,h0,CL,CN,h1,h3]
theorem af8{own cnt time val:Int}{hn qn bn cn cl:Bool}{H B:List Int}{C:List K}:ev P (.call K4 [.d (.ag [I' own,I' cnt,I' time,hD hn H,qD qn [],hD bn B,cD cn C,.b cl,I' val])] [])=some (.val (.d (.b true)) []):=by
 have hl:ev P (.loop 0 [1,13,14,15] ER [(1,.d (.ref [I' own,I' cnt,I' time,hD hn H,qD qn [],hD bn B,cD cn C,.b cl,I' val])),(13,.d (qD qn [])),(14,.d (I' 0)),(15,.d (I' 0))] [])=some (.out (.exit 0) [(1,.d (.ref [I' own,I' cnt,I' time,hD hn H,qD qn [],hD bn B,cD cn C,.b cl,I' val]))] []):=by
  rw[bS]
  conv=>lhs;arg 4;unfold ER
  simp
 rw[au X4 rfl];simp[tB,zc,hl]
theorem af9(s:S)(hq:s.Q=[])(hs:s.sm):ev P (.call KI [.d (.ag s.row)] [])=some (.val (.d (.b (okW s))) []):=by
 have hh:=hs.h;have hQ:=af8 (own:=s.own) (cnt:=s.cnt) (time:=s.time) (val:=s.val) (hn:=s.hn) (qn:=s.qn) (bn:=s.bn) (cn:=s.cn) (cl:=s.cl) (H:=s.H) (B:=s.B) (C:=s.C);obtain⟨own,cnt,time,hn,H,qn,Q,bn,B,cn,C,cl,val⟩:=s;simp only at hq;subst hq;simp only at hQ hh;have hL:ev P (.loop 0 [1,52,53,54] AI [(1,.d (.ref [I' own,I' cnt,I' time,hD hn H,qD qn [],hD bn B,cD cn C,.b cl,I' val])),(52,.d (hD hn H)),(53,.d (I' H.length)),(54,.d (I' 0))] []) =
   if tF none H=true then some (.out (.exit 0) [(1,.d (.ref [I' own,I' cnt,I' time,hD hn H,qD qn [],hD bn B,cD cn C,.b cl,I' val]))] [])else some (.out .ret [(2,.d (.b false))] []):=af7 hh H [] rfl
 unfold okW;simp only;rw[au XQ rfl];generalize tF none H=dd at *;unfold CO;cases hA:((own != -1&&(!cY own||decide (0<H.length)))||cnt != 0||time != 0||decide (0<B.length)||decide (0<C.length)||cl||val != 0)
 .cases dd
  .simp at hL
   simp[EE,CN,hA,hL]
  .simp at hL
   simp[EE,CN,hA,hL,hQ]
 .simp[EE,CN,hA]
theorem Yl(nm:D)(k sz ot:Int)(s:S)(hq:s.Q=[])(hs:s.sm):
  ev P (.call lz [.d (.ag [nm,I' k,I' sz,I' ot]),.d (.ag s.row)] [])=some (.val (.d (I' (ck (dR 2 k sz ot) (okW s)))) []):=by
 have hv:=af9 s hq hs;rw[au XF rfl];unfold ck;cases hm:dR 2 k sz ot==0
 .have hm':dR 2 k sz ot≠0:=by simpa using hm
  have hm2:(dR 2 k sz ot != 0)=true:=by simpa using hm'
  simp[Eu,SO,hm',hm2,bY]
 .have hm':dR 2 k sz ot=0:=by simpa using hm
  generalize okW s=b at *;simp[Eu,SO,hm',gm,hv];cases b<;>simp
def qA(sz:Int)(s:S):Bool:=!(s.own != -1||decide (s.cnt<0)||decide (sz<s.cnt)||decide (s.time<0)||decide (1099511627776<s.time))&&!(s.val != 0||s.cl||decide ((0:Int)<(s.H.length:Int)+s.B.length+s.C.length))
theorem Ym(nm:D)(k sz ot:Int)(s:S)(hq:s.Q=[])(hs:s.sm):
  ev P (.call nT [.d (.ag [nm,I' k,I' sz,I' ot]),.d (.ag s.row)] [])=some (.val (.d (I' (ck (jv k sz ot) (qA sz s)))) []):=by
 obtain⟨own,cnt,time,hn,H,qn,Q,bn,B,cn,C,cl,val⟩:=s;simp only at hq;subst hq;obtain⟨h1,h2,h3,h4,_⟩:=hs;simp only at h1 h2 h4;have hw1:IntKind.i64.wrap ((H.length:Int)+B.length)=H.length+B.length:=wrap_i64 (by omega) (by omega)
 have dG:IntKind.i64.wrap ((H.length:Int)+B.length+C.length)=H.length+B.length+C.length:=wrap_i64 (by omega) (by omega)
 have jQ:IntKind.i64.wrap ((H.length:Int)+C.length)=H.length+C.length:=wrap_i64 (by omega) (by omega)
 have hl:∀(o row:List D),ev P (.loop 0 [2,3,70,71,72] Ez [(2,.d (.ref o)),(3,.d (.ref row)),(70,.d (qD qn [])),(71,.d (I' 0)),(72,.d (I' 0))] [])=some (.out (.exit 0) [] []):=by
  intro o row;rw[bS]
  conv=>lhs;arg 4;unfold Ez
  simp
 rw[au XK rfl];unfold ck qA;cases hm:jv k sz ot==0
 .have hm':jv k sz ot≠0:=by simpa using hm
  have hm2:(jv k sz ot != 0)=true:=by simpa using hm'
  simp[uH,v7,hm',hm2,bY]
 .have hm':jv k sz ot=0:=by simpa using hm
  cases hA:(own != -1||decide (cnt<0)||decide (sz<cnt)||decide (time<0)||decide (1099511627776<time))
  .cases hB:(val != 0||cl||decide ((0:Int)<(H.length:Int)+B.length+C.length))
   .simp[uH,v7,hm',grow,hA,hw1,dG,hB,zc,hl]
   .simp[uH,v7,hm',grow,hA,hw1,dG,hB,zc,hl]
  .simp[uH,v7,hm',grow,hA]
end Go.VS.Sp
namespace Go.VS.Sp
theorem aga{f:Nat}{first caps:List D}{p:Int->Bool}(nl:Bool)(l:List Int)(hn:l.length<=1000000)
  (hp:∀a,ev P (.call f (first.map V.d++[.d (I' a)]++caps.map V.d) [])=some (.val (.d (.b (p a))) [])):
  ∀(suf pre:List Int),l=pre++suf ->
  ev P (.loop 0 [0,1,7,8] Mu [(0,.d (hD nl l)),(1,.d (.fn f first caps)),(7,.d (I' l.length)),(8,.d (I' pre.length))] []) =
   if idx p pre.length suf = -1 then some (.out (.exit 0) [] [])else some (.out .ret [(4,.d (I' (idx p pre.length suf)))] []):=by
 intro suf;induction suf with
 |nil =>
  intro pre hl
  have:l.length=pre.length:=by simp[hl]
  rw[bS]
  conv=>lhs;arg 4;unfold Mu
  simp[this,idx]
 |cons w suf ih =>
  intro pre hl;have hg:l[pre.length]?=some w:=by simp[hl]
  have hlt:(pre.length:Int)<l.length:=by simp[hl];omega
  have hnext:IntKind.i64.wrap ((pre.length:Int)+1)=pre.length+1:=wrap_i64 (by omega) (by omega)
  have bB:=ih (pre++[w]) (by simp[hl])
  simp at bB;have iJ:=hp w;simp at iJ;rw[bS]
  conv=>lhs;arg 4;unfold Mu
  simp[hlt,hg,iJ,tD];cases hw:p w
  .simp[idx,hw,hnext]
   exact bB
  .have:¬(pre.length:Int) = -1:=by omega
   simp[idx,hw,this]
theorem Yn{f:Nat}{first caps:List D}{p:Int->Bool}(nl:Bool)(l:List Int)(hn:l.length<=1000000)
  (hp:∀a,ev P (.call f (first.map V.d++[.d (I' a)]++caps.map V.d) [])=some (.val (.d (.b (p a))) [])):
  ev P (.call QY [.d (hD nl l),.d (.fn f first caps)] [])=some (.val (.d (.b (l.any p))) []):=by
 have hi:ev P (.call QV [.d (hD nl l),.d (.fn f first caps)] [])=some (.val (.d (I' (idx p 0 l))) []):=by
  rw[au aeW rfl];have hl:=aga nl l hn hp l [] rfl;simp at hl;simp[R0,hl];by_cases hc:idx p 0 l = -1<;>simp[hc]
 rw[au ae4 rfl];have:=AV (p:=p) (l:=l) (k:=0) (by omega)
 cases ha:l.any p
 .have hc:¬0<=idx p 0 l:=λh=>by rw[this.1 h]at ha;cases ha
  simp[Mx,hi,hc]
 .have hc:0<=idx p 0 l:=this.2 ha
  simp[Mx,hi,hc]
theorem agb(nl:Bool)(f:Nat)(first caps:List D):ev P (.call uD [.d (qD nl []),.d (.fn f first caps)] [])=some (.val (.d (.b false)) []):=by
 have hL:ev P (.loop 0 [0,1,7,8] vP [(0,.d (qD nl [])),(1,.d (.fn f first caps)),(7,.d (I' 0)),(8,.d (I' 0))] [])=some (.out (.exit 0) [] []):=by
  rw[bS]
  conv=>lhs;arg 4;unfold vP
  simp
 have hi:ev P (.call xJ [.d (qD nl []),.d (.fn f first caps)] [])=some (.val (.d (I' (-1))) []):=by
  rw[au MR rfl];simp[EB,hL]
 rw[au Sw rfl];simp[Hj,hi]
theorem agc(n:Int):ev P (.call G0 [.d (I' n)] [])=some (.val (.d (.b (num n))) []):=by
 rw[au XW rfl];unfold num;simp[Me]
theorem M5(n:Int):ev P (.call G5 [.d (I' n)] [])=some (.val (.d (.b (!num n))) []):=by
 rw[au ae5 rfl];simp[R8,agc]
def v8(sz:Int)(s:S):Bool:=s.own != -1||s.cnt != 0||s.time != 0||s.val != 0||decide ((0:Int)<(s.H.length:Int)+s.C.length)||decide (sz<s.B.length)
def mV(sz:Int)(s:S):Bool:=!v8 sz s&&!s.B.any λn=>!num n
theorem agd(o:List D)(ho:o.length=4){own cnt time val:Int}{hn qn bn cn cl:Bool}{H B:List Int}{C:List K}:ev P (.call La [.d (.ag o),.d (.ag [I' own,I' cnt,I' time,hD hn H,qD qn [],hD bn B,cD cn C,.b cl,I' val])] [])=some (.val (.d (.b false)) []):=by
 rw[au X5 rfl];simp[Mz,agb,ho,fu,zb]
theorem age(nm:D)(k sz ot:Int)(s:S)(hq:s.Q=[])(hs:s.sm):ev P (.call KO [.d (.ag [nm,I' k,I' sz,I' ot]),.d (.ag s.row)] [])=some (.val (.d (.b (mV sz s))) []):=by
 obtain⟨own,cnt,time,hn,H,qn,Q,bn,B,cn,C,cl,val⟩:=s;simp only at hq;subst hq;obtain⟨h1,h2,h3,h4,_⟩:=hs;simp only at h1 h2 h4;have hw1:IntKind.i64.wrap ((H.length:Int)+B.length)=H.length+B.length:=wrap_i64 (by omega) (by omega)
 have dG:IntKind.i64.wrap ((H.length:Int)+B.length+C.length)=H.length+B.length+C.length:=wrap_i64 (by omega) (by omega)
 have jQ:IntKind.i64.wrap ((H.length:Int)+C.length)=H.length+C.length:=wrap_i64 (by omega) (by omega)
 have hB:=Yn (f:=G5) (first:=[]) (caps:=[]) (p:=λn=>!num n) bn B h2 (by intro a;simp[M5])
 have hV:=agd [nm,I' k,I' sz,I' ot] rfl (own:=own) (cnt:=cnt) (time:=time) (val:=val) (hn:=hn) (qn:=qn) (bn:=bn) (cn:=cn) (cl:=cl) (H:=H) (B:=B) (C:=C);have hl:∀o:List D,ev P (.loop 0 [2,3,53,54] EJ [(2,.d (.ref o)),(3,.d (.ref [I' own,I' cnt,I' time,hD hn H,qD qn [],hD bn B,cD cn C,.b cl,I' val])),(53,.d (I' 0)),(54,.d (I' 0))] [])=some (.out (.exit 0) [(2,.d (.ref o)),(3,.d (.ref [I' own,I' cnt,I' time,hD hn H,qD qn [],hD bn B,cD cn C,.b cl,I' val]))] []):=by
  intro o;rw[bS]
  conv=>lhs;arg 4;unfold EJ
  simp
 unfold mV;simp only;rw[au XV rfl];generalize (B.any λn=>!num n)=bb at *
 unfold v8;cases hA:(own != -1||cnt != 0||time != 0||val != 0||decide ((0:Int)<(H.length:Int)+C.length)||decide (sz<B.length))
 .cases bb
  .simp[vR,hA,jQ,hB,zc,hl,hV]
  .simp[vR,hA,jQ,hB]
 .simp[vR,hA,jQ]
theorem SR(nm:D)(k sz ot:Int)(s:S)(hq:s.Q=[])(hs:s.sm):
  ev P (.call gp [.d (.ag [nm,I' k,I' sz,I' ot]),.d (.ag s.row)] [])=some (.val (.d (I' (ck (iq k sz ot) (mV sz s)))) []):=by
 have hv:=age nm k sz ot s hq hs;rw[au XJ rfl];unfold ck;cases hm:iq k sz ot==0
 .have hm':iq k sz ot≠0:=by simpa using hm
  have hm2:(iq k sz ot != 0)=true:=by simpa using hm'
  simp[Ey,HX,hm',hm2,bY]
 .have hm':iq k sz ot=0:=by simpa using hm
  generalize mV sz s=b at *;cases b<;>simp[Ey,HX,hm',gm,hv]
def uP(s:S):Bool:=s.own == -1&&s.cnt==0&&s.time==0&&s.H.isEmpty&&s.B.isEmpty&&s.C.isEmpty
def okF(s:S):Bool:=uP s&&num s.val&&(s.cl||s.val==0)
theorem Yo{α:Type}(l:List α):((l.length:Int)==0)=l.isEmpty:=by
 cases l<;>simp;omega
theorem agf{own cnt time val:Int}{hn qn bn cn cl:Bool}{H B:List Int}{C:List K}:ev P (.call Lh [.d (.ag [I' own,I' cnt,I' time,hD hn H,qD qn [],hD bn B,cD cn C,.b cl,I' val])] [])=some (.val (.d (.b (uP ⟨own,cnt,time,hn,H,qn,[],bn,B,cn,C,cl,val⟩))) []):=by
 rw[au X8 rfl];unfold uP;simp[MD,Yo]
theorem CP(n:Int):ev P (.call KX [.d (I' n)] [])=some (.val (.d (.b (num n))) []):=by
 rw[au aeL rfl];unfold num;simp[RS]
theorem agh{own cnt time val:Int}{hn qn bn cn cl:Bool}{H B:List Int}{C:List K}:ev P (.call Li [.d (.ag [I' own,I' cnt,I' time,hD hn H,qD qn [],hD bn B,cD cn C,.b cl,I' val])] [])=some (.val (.d (.b true)) []):=by
 have hl:ev P (.loop 0 [1,9,10,11] EU [(1,.d (.ref [I' own,I' cnt,I' time,hD hn H,qD qn [],hD bn B,cD cn C,.b cl,I' val])),(9,.d (qD qn [])),(10,.d (I' 0)),(11,.d (I' 0))] [])=some (.out (.exit 0) [(1,.d (.ref [I' own,I' cnt,I' time,hD hn H,qD qn [],hD bn B,cD cn C,.b cl,I' val]))] []):=by
  rw[bS]
  conv=>lhs;arg 4;unfold EU
  simp
 rw[au X9 rfl];simp[HD,zc,hl]
theorem agi(s:S)(hq:s.Q=[]):ev P (.call KW [.d (.ag s.row)] [])=some (.val (.d (.b (okF s))) []):=by
 obtain⟨own,cnt,time,hn,H,qn,Q,bn,B,cn,C,cl,val⟩:=s;simp only at hq;subst hq;have hP:=agf (own:=own) (cnt:=cnt) (time:=time) (val:=val) (hn:=hn) (qn:=qn) (bn:=bn) (cn:=cn) (cl:=cl) (H:=H) (B:=B) (C:=C);have hQ:=agh (own:=own) (cnt:=cnt) (time:=time) (val:=val) (hn:=hn) (qn:=qn) (bn:=bn) (cn:=cn) (cl:=cl) (H:=H) (B:=B) (C:=C);unfold okF;simp only;generalize uP ⟨own,cnt,time,hn,H,qn,[],bn,B,cn,C,cl,val⟩=pl at *;rw[au X1 rfl];cases pl
 .simp[y7,hP]
 .cases hv:num val
  .simp[y7,hP,CP,hv]
  .cases cl<;>simp[y7,hP,CP,hv,hQ]
theorem Yp(nm:D)(k sz ot:Int)(s:S)(hq:s.Q=[]):
  ev P (.call pP [.d (.ag [nm,I' k,I' sz,I' ot]),.d (.ag s.row)] [])=some (.val (.d (I' (ck (dR 9 k sz ot) (okF s)))) []):=by
 have hv:=agi s hq;rw[au XM rfl];unfold ck;cases hm:dR 9 k sz ot==0
 .have hm':dR 9 k sz ot≠0:=by simpa using hm
  have hm2:(dR 9 k sz ot != 0)=true:=by simpa using hm'
  simp[EA,HW,hm',hm2,bY]
 .have hm':dR 9 k sz ot=0:=by simpa using hm
  generalize okF s=b at *;cases b<;>simp[EA,HW,hm',gm,hv]
end Go.VS.Sp
namespace Go.VS.Sp
theorem HY(n:Int):ev P (.call AH [.d (I' n)] [])=some (.val (.d (.b false)) []):=by
 rw[au SH rfl];simp[HI]
theorem SS(n:Int):ev P (.call Cs [.d (I' n)] [])=some (.val (.d (.b false)) []):=by
 rw[au Yc rfl];simp[MK]
theorem HZ(a b:Int):ev P (.call Hf [.d (I' a),.d (I' b)] [])=some (.val (.d (.b (decide (a<b)))) []):=by
 rw[au Yb rfl];by_cases h:a<b<;>simp[MJ,HY,h]
def iU(l:List Int):Prop:=l.Pairwise (·<=·)
def bI(t:Int)(l:List Int):Nat:=(l.takeWhile λx=>decide (x<t)).length
theorem tG(t:Int):∀(l:List Int),bI t l<=l.length
 | []=>by simp[bI]
 |w::q=>by
  have:=tG t q;unfold bI at *;simp only[oy];split<;>simp;omega
theorem E5{t x:Int}:∀{l:List Int}{k:Nat},iU l->l[k]?=some x->(k<bI t l↔x<t)
 | [],k,_,h=>by simp at h
 |a::q,0,_,h=>by
  have:a=x:=by simpa using h
  subst this;by_cases hp:a<t<;>simp[bI,oy,hp]
 |a::q,k+1,hd,h=>by
  have hd':=gH.1 hd;have hq:q[k]?=some x:=by simpa using h
  have hw:x∈q:=kU hq;have h1:=hd'.1 x hw;have ih:=E5 (t:=t) (k:=k) hd'.2 hq;by_cases hp:a<t
  .have:bI t (a::q)=bI t q+1:=by simp[bI,oy,hp]
   rw[this,<-ih];omega
  .have:bI t (a::q)=0:=by simp[bI,oy,hp]
   rw[this];constructor<;>intro h3<;>omega
theorem E6{i j:Nat}(h:i+j<=4000000):IntKind.i64.wrap ((IntKind.u64.wrap ((i:Int)+j)).fdiv (2 ^ min 1 IntKind.u64.bits))=(((i+j) / 2:Nat):Int):=by
 have h1:IntKind.u64.wrap ((i:Int)+j)=(i:Int)+j:=by
  have e0:IntKind.u64.bits=64:=rfl;simp only[IntKind.wrap,e0,IntKind.signed,Aj,eI,dI];omega
 have h2:(2:Int) ^ min 1 IntKind.u64.bits=2:=by decide
 rw[h1,h2,Pd _ (by omega),wrap_i64 (by omega) (by omega)]
 omega
theorem SU(nl:Bool)(l:List Int)(t:Int)(hn:l.length<=1000000)(hA:iU l):∀(n i j:Nat),j - i<=n->i<=bI t l->bI t l<=j->j<=l.length ->
  ev P (.loop 0 [0,1,6,7,8] HF [(0,.d (hD nl l)),(1,.d (I' t)),(6,.d (I' l.length)),(7,.d (I' i)),(8,.d (I' j))] []) =
   some (.out (.exit 0) [(0,.d (hD nl l)),(1,.d (I' t)),(6,.d (I' l.length)),(7,.d (I' (bI t l)))] []):=by
 intro n;induction n with
 |zero =>
  intro i j h1 h2 h3 h4;have e1:i=bI t l:=by omega
  have e2:j=bI t l:=by omega
  rw[bS]
  conv=>lhs;arg 4;unfold HF
  simp[e1,e2]
 |succ n ih =>
  intro i j h1 h2 h3 h4;by_cases hij:i=j
  .have e1:i=bI t l:=by omega
   have e2:j=bI t l:=by omega
   rw[bS]
   conv=>lhs;arg 4;unfold HF
   simp[e1,e2]
  .have hlt:i<j:=by omega
   have hw1:IntKind.i64.wrap ((i:Int)+j)=i+j:=wrap_i64 (by omega) (by omega)
   have hm:=E6 (i:=i) (j:=j) (by omega)
   generalize ze:(i+j) / 2=m at hm;have hm1:i<=m:=by omega
   have hm2:m<j:=by omega
   have hml:m<l.length:=by omega
   obtain⟨x,hx⟩:∃x,l[m]?=some x:=⟨l[m]'(by omega),by simp⟩
   have hb:=E5 (t:=t) hA hx;have mE:l[m]=x:=by rw[qR hml]at hx;exact yG hx
   have CQ:IntKind.i64.wrap ((m:Int)+1)=m+1:=wrap_i64 (by omega) (by omega)
   have AY:(m:Int)<l.length:=by omega
   rw[bS]
   conv=>lhs;arg 4;unfold HF
   by_cases hp:x<t
   .have bB:=ih (m+1) j (by omega) (by omega) (by omega) h4
    simp at bB;simp[hlt,hw1,hm,CQ,hml,AY,hx,mE,HZ,hp];exact bB
   .have bB:=ih i m (by omega) (by omega) (by omega) (by omega)
    simp[hlt,hw1,hm,hml,AY,hx,mE,HZ,hp];exact bB
theorem SV(nl:Bool)(l:List Int)(t:Int)(hn:l.length<=1000000)(hA:iU l):
  ev P (.call Q9 [.d (hD nl l),.d (I' t)] [])=some (.val (.tu [.d (I' (bI t l)),.d (.b (decide (l[bI t l]?=some t)))]) []):=by
 have hb:=tG t l;have hl:=SU nl l t hn hA l.length 0 l.length (by omega) (by omega) hb (by omega)
 simp at hl;by_cases h:bI t l<l.length
 .obtain⟨x,hx⟩:∃x,l[bI t l]?=some x:=⟨l[bI t l],by simp⟩
  have h2:(bI t l:Int)<l.length:=by omega
  rw[hx];generalize bI t l=B at *;have mE:l[B]=x:=by rw[qR h]at hx;exact yG hx
  by_cases xS:x=t
  .subst xS
   rw[au SD rfl];simp[HG,hl,h,h2,mE]
  .have SX:(x==t)=false:=by simpa using xS
   rw[au SD rfl];simp[HG,hl,h,h2,mE,SS,SX,xS]
 .have h2:¬(bI t l:Int)<l.length:=by omega
  have h3:l[bI t l]?=none:=by simp;omega
  rw[h3];rw[au SD rfl];simp[HG,hl,h,h2]
end Go.VS.Sp
namespace Go.VS.Sp
structure Cl where
 task:Int
 op:Int
 value:Int
 prio:Int
 now:Int
def Cl.row(c:Cl):List D:=[I' c.task,I' c.op,I' c.value,I' c.prio,I' c.now]
abbrev R4:=S×Int×Bool×Int
def er(s:S)(e:Int):R4:=(s,0,false,e)
def gd(s:S):R4:=(s,0,true,0)
def eM(s:S)(c:Cl):R4 :=
 if c.op==52 then(if s.own==c.task then gd {s with own:=-1}else er s 20)
 else if s.own == -1 then gd {s with own:=c.task}
 else if c.op==51 then er s 0
 else if s.own==c.task then er s 17 else er s 29
def eR(t:Int)(l:List Int):List Int:=l.take (bI t l)++t::l.drop (bI t l)
def eW(s:S)(c:Cl):R4 :=
 if c.op==54 then(if decide (c.task∈s.H)then gd {s with H:=s.H.filter (λx=>x != c.task)}else er s 20)
 else if c.op==56 then(if s.own==c.task then gd {s with own:=-1}else er s 20)
 else if(decide (c.task∈s.H)||s.own==c.task)then er s 17
 else if(!(s.own == -1)||(c.op==55&&decide (0<s.H.length)))then er s 29
 else if c.op==55 then gd {s with own:=c.task}else gd {s with H:=eR c.task s.H}
def eS(sz:Int)(s:S)(c:Cl):R4 :=
 if c.op==62 then(if decide (sz<s.cnt+c.value)then er s 17 else gd {s with cnt:=s.cnt+c.value})
 else if decide (c.value<=s.cnt)then gd {s with cnt:=s.cnt - c.value}
 else if c.op==61 then er s 0 else er s 29
def eB(sz:Int)(s:S):R4 :=
 if s.val+1==sz then(if s.cnt==1099511627776 then er {s with val:=s.val+1} 4 else({s with val:=0,cnt:=s.cnt+1},s.val,true,0))
 else({s with val:=s.val+1},s.val,true,0)
def eC(rm:Int)(s:S)(c:Cl):R4 :=
 if c.op==64 then(if s.cl then er s 0 else if decide (rm<=s.B.length)then er s 29 else gd {s with B:=s.B++[c.value]})
 else if c.op==65 then match s.B with
  |b::r=>({s with B:=r},b,true,0)
  | []=>if s.cl then er s 0 else er s 29
 else(if s.cl then er s 17 else gd {s with cl:=true})
def qB(s:S):List Int:=s.C.map K.task
def bK(s:S)(t:Int):Nat:=bI t (qB s)
def mF(s:S)(t:Int):Bool:=decide ((qB s)[bK s t]?=some t)
def eT(rm:Int)(s:S)(c:Cl):R4 :=
 if c.op==69 then(if mF s c.task then er s 6 else gd {s with C:=s.C.take (bK s c.task)++⟨c.task,false,[]⟩::s.C.drop (bK s c.task)})
 else if c.op==71 then(if mF s c.task then gd {s with C:=s.C.take (bK s c.task)++s.C.drop (bK s c.task+1)}else er s 20)
 else if c.op==70 then(if mF s c.task then
  (match s.C[bK s c.task]? with
   |some ⟨_,_,b::r⟩=>({s with C:=s.C.set (bK s c.task) ⟨c.task,false,r⟩},b,true,0)
   |_=>er s 29)else er s 20)
 else(if(s.C.any λx=>decide (rm<=x.log.length))then er s 29 else gd {s with C:=s.C.map λx=>⟨x.task,false,x.log++[c.value]⟩})
def nA(sz ot now:Int)(s:S):S :=
 if decide (sz<=s.cnt+(now - s.time) / ot)then{s with cnt:=sz,time:=now}else{s with cnt:=s.cnt+(now - s.time) / ot,time:=s.time+(now - s.time) / ot*ot}
def eL(sz ot:Int)(s:S)(c:Cl):R4 :=
 if decide (c.now<s.time)then er s 2 else
 if c.op==72 then(if decide ((nA sz ot c.now s).cnt<c.value)then er (nA sz ot c.now s) 29 else gd {nA sz ot c.now s with cnt:=(nA sz ot c.now s).cnt - c.value})
 else gd (nA sz ot c.now s)
def eF(s:S)(c:Cl):R4 :=
 if c.op==74 then(if s.cl then(s,s.val,true,0)else er s 29)
 else if s.cl then er s 17 else gd {s with cl:=true,val:=c.value}
def dr(sz:Int):Int:=if sz > 1 then sz else 1
def raw(k sz ot:Int)(s:S)(c:Cl):R4 :=
 if k=1 then eM s c else if k=2 then eW s c else if k=4 then eS sz s c else if k=5 then eB sz s else if k=6 then eC (dr sz) s c
 else if k=7 then eT (dr sz) s c else if k=8 then eL sz ot s c else eF s c
def gE(k sz ot:Int):Int :=
 if k=1 then dR 1 k sz ot else if k=2 then dR 2 k sz ot else if k=4 then iR k sz ot else if k=5 then iS k sz ot else if k=6 then iq k sz ot
 else if k=7 then dQ k sz ot else if k=8 then jv k sz ot else if k=9 then dR 9 k sz ot else 8
def gL(k sz ot:Int)(s:S):Int :=
 if k=1 then ck (dR 1 k sz ot) (pU s)else if k=2 then ck (dR 2 k sz ot) (okW s)else if k=4 then ck (iR k sz ot) (qz sz s)else if k=5 then ck (iS k sz ot) (okB s)else if k=6 then ck (iq k sz ot) (mV sz s)
 else if k=7 then fM k sz ot s else if k=8 then ck (jv k sz ot) (qA sz s)else if k=9 then ck (dR 9 k sz ot) (okF s)else 8
def iV(k sz:Int):Int:=if k=6\/k=7 then dr sz else sz
def ir(k:Int)(s:S):S:=if k=5 then{s with val:=0}else s
def cW(k sz ot:Int)(s:S):Bool :=
 gE k sz ot==0&&s.Q.isEmpty&&!(k==5&&(decide (s.val<0)||decide (sz<=s.val)))&&gL k (iV k sz) ot (ir k s)==0
def cG(c:Cl):Bool:=decide (c.task<0)||decide (16<=c.task)||decide (c.prio<0)||decide (9<c.prio)||decide (c.now<0)||decide (1099511627776<c.now)
def dH(k op:Int):Bool :=
 if k=1 then decide (50<=op)&&decide (op<=52)else if k=2 then decide (53<=op)&&decide (op<=56)else if k=4 then decide (60<=op)&&decide (op<=62)else if k=5 then op==63
 else if k=6 then decide (64<=op)&&decide (op<=66)else if k=7 then decide (68<=op)&&decide (op<=71)else if k=8 then op==72||op==75 else op==73||op==74
def fit(k sz:Int)(c:Cl):Bool :=
 if k=4\/c.op=72 then decide (1<=c.value)&&decide (c.value<=sz)else if c.op=64\/c.op=68\/c.op=73 then num c.value else true
def zN:S:=⟨0,0,0,true,[],true,[],true,[],true,[],false,0⟩
def zS:S:=zN.pl
def eD(k sz ot:Int)(s:S)(c:Cl):R4 :=
 if cW k sz ot s=false then er zS 1 else if cG c=true then er zS 2 else if dH k c.op=false then er zS 8 else if fit k sz c=false then er zS 2
 else if(raw k sz ot s c).2.2.2=0 then raw k sz ot s c else er zS (raw k sz ot s c).2.2.2
structure S.wf(s:S):Prop where
 h:s.hn=true->s.H=[]
 b:s.bn=true->s.B=[]
 c:s.cn=true->s.C=[]
 k:∀c∈s.C,c.nl=true->c.log=[]
def Rel(R:Option ej)(r:R4):Prop :=
 ∃s:S,R=some (.val (.tu [.d (.ag s.row),.d (I' r.2.1),.d (.b r.2.2.1),.d (I' r.2.2.2)]) [])/\s.pl=r.1/\s.wf
theorem Rel.mk'{R:Option ej}(s:S){n:Int}{b:Bool}{e:Int}{r:R4}(h:R=some (.val (.tu [.d (.ag s.row),.d (I' n),.d (.b b),.d (I' e)]) []))(hp:r=(s.pl,n,b,e))(hw:s.wf):Rel R r:=by
 subst hp;exact⟨s,h,rfl,hw⟩
theorem Rel.er{R:Option ej}(s:S)(e:Int){r:R4}(h:R=some (.val (.tu [.d (.ag s.row),.d (I' 0),.d (.b false),.d (I' e)]) []))(hp:r=er s.pl e)(hw:s.wf):Rel R r:=Rel.mk' s h hp hw
theorem Rel.gd{R:Option ej}(s:S){r:R4}(h:R=some (.val (.tu [.d (.ag s.row),.d (I' 0),.d (.b true),.d (I' 0)]) []))(hp:r=gd s.pl)(hw:s.wf):Rel R r:=Rel.mk' s h hp hw
theorem Rel.vl{R:Option ej}(s:S)(n:Int){r:R4}(h:R=some (.val (.tu [.d (.ag s.row),.d (I' n),.d (.b true),.d (I' 0)]) []))(hp:r=(s.pl,n,true,0))(hw:s.wf):Rel R r:=Rel.mk' s h hp hw
end Go.VS.Sp
namespace Go.VS.Sp
def gF(l:List Int):Prop:=l.Pairwise (·<·)
theorem gF.rE{l:List Int}(h:gF l):iU l:=List.Pairwise.imp (λh=>by omega) h
theorem SY(t a:Int)(q:List Int):bI t (a::q)=if a<t then bI t q+1 else 0:=by
 by_cases hp:a<t<;>simp[bI,oy,hp]
theorem H6{t:Int}:∀{l:List Int},gF l->(l[bI t l]?=some t↔t∈l)
 | [],_=>by simp
 |a::q,h=>by
  have h':=gH.1 h;rw[SY];by_cases hp:a<t
  .rw[aK hp]
   have ih:=H6 (t:=t) h'.2;rw[Wt,ih,dA];constructor
   .intro e;exact .inr e
   .rintro(e |e)
    .omega
    .exact e
  .rw[aD hp,List.getElem?_cons_zero,dA]
   constructor
   .intro e;left;exact(yG e).symm
   .rintro(e |e)
    .rw[e]
    .have:=h'.1 t e;omega
theorem Yq{t:Int}:∀{l:List Int},gF l->t∈l->l.filter (λx=>x != t)=l.take (bI t l)++l.drop (bI t l+1)
 | [],_,hm=>by simp at hm
 |a::q,h,hm=>by
  have h':=gH.1 h;rw[SY];by_cases hp:a<t
  .rw[aK hp]
   have hq:t∈q:=by
    rcases dA.1 hm with e |e
    .omega
    .exact e
   have hne:a≠t:=by omega
   have ih:=Yq h'.2 hq;simp[hne,ih]
  .rw[aD hp]
   have ha:a=t:=by
    rcases dA.1 hm with e |e
    .exact e.symm
    .have:=h'.1 t e;omega
   subst ha
   have:q.filter (λx=>x != a)=q:=by
    rw[Pe];intro x hx;have:=h'.1 x hx;simp;omega
   simp[this]
theorem agj(t a:Int)(q:List Int):eR t (a::q)=if a<t then a::eR t q else t::a::q:=by
 unfold eR;rw[SY];by_cases hp:a<t<;>simp[hp]
theorem Yr{t x:Int}{l:List Int}:x∈eR t l↔x=t\/x∈l:=by
 have e:l=l.take (bI t l)++l.drop (bI t l):=(Al _ _).symm;have e2:x∈l↔x∈l.take (bI t l)\/x∈l.drop (bI t l):=by
  rw[<-List.mem_append,Al]
 rw[e2];unfold eR;rw[dj,dA];constructor
 .rintro(h |h |h)
  .exact .inr (.inl h)
  .exact .inl h
  .exact .inr (.inr h)
 .rintro(h |h |h)
  .exact .inr (.inl h)
  .exact .inl h
  .exact .inr (.inr h)
theorem SZ{t:Int}:∀{l:List Int},gF l->t∉l->gF (eR t l)
 | [],_,_=>by simp[eR,gF,bI]
 |a::q,h,hm=>by
  have h':=gH.1 h;have hm':¬t=a/\t∉q:=by simpa using hm
  rw[agj];by_cases hp:a<t
  .rw[aK hp]
   refine gH.2 ⟨?_,SZ h'.2 hm'.2⟩;intro x hx;rcases Yr.1 hx with e |e
   .omega
   .exact h'.1 x e
  .rw[aD hp]
   refine gH.2 ⟨?_,h⟩;intro x hx;rcases dA.1 hx with e |e
   .omega
   .have:=h'.1 x e;omega
theorem M6:∀(l:List Int)(p:Option Int),tF p l=true↔((∀q,p=some q->∀x∈l,q<x)/\gF l/\∀x∈l,cY x=true)
 | [],p=>by simp[tF,gF]
 |t::r,p=>by
  have ih:=M6 r (some t);unfold tF;rw[bJ,ih];constructor
  .rintro⟨h1,h2,h3,h4⟩
   have h2':=h2 t rfl;simp only[kX,BT,Wu]at h1;refine⟨?_,gH.2 ⟨h2',h3⟩,?_⟩
   .intro q hq x hx
    subst hq;have h5:q<t:=by have:=h1.2;simp at this;exact this
    rcases dA.1 hx with e |e
    .omega
    .have:=h2' x e;omega
   .intro x hx
    rcases dA.1 hx with e |e
    .rw[e];exact h1.1
    .exact h4 x e
  .rintro⟨h1,h2,h3⟩
   have h2':=gH.1 h2;refine⟨?_,?_,h2'.2,λx hx=>h3 x (yH _ hx)⟩
   .have e1:=h3 t (by simp)
    cases p with
    |none=>simp[e1]
    |some q=>have:=h1 q rfl t (by simp);simp[e1];exact this
   .intro q hq x hx
    have:t=q:=yG hq
    subst this;exact h2'.1 x hx
theorem M7(sz:Int):∀(C:List K)(p:Option K),vc sz p C=true↔((∀q,p=some q->∀x∈C,q.task<x.task)/\gF (C.map K.task)/\∀x∈C,cY x.task=true/\¬sz<x.log.length/\x.log.all num=true)
 | [],p=>by simp[vc,gF]
 |t::r,p=>by
  have ih:=M7 sz r (some t);unfold vc;rw[bJ,bJ,ih];constructor
  .rintro⟨h1,h0,h2,h3,h4⟩
   have h2':=h2 t rfl;simp only[lE,kX,BT]at h1;obtain⟨⟨⟨k1,k2⟩,k3⟩,k4⟩:=h1;refine⟨?_,gH.2 ⟨?_,h3⟩,?_⟩
   .intro q hq x hx
    subst hq;have h5:q.task<t.task:=by simp at k3;exact k3
    rcases dA.1 hx with e |e
    .rw[e];exact h5
    .have:=h2' x e;omega
   .intro x hx
    obtain⟨y,hy,rfl⟩:=gV.1 hx;exact h2' y hy
   .intro x hx
    rcases dA.1 hx with e |e
    .subst e
     refine⟨?_,by simpa using k4,h0⟩
     simp at k1 k2;simp[cY];omega
    .exact h4 x e
  .rintro⟨h1,h2,h3⟩
   have h2':=gH.1 h2;obtain⟨e1,e2,e3⟩:=h3 t (by simp)
   refine⟨?_,e3,?_,h2'.2,λx hx=>h3 x (yH _ hx)⟩
   .simp[cY]at e1
    have e4:p.any (λp=>decide (t.task<=p.task))=false:=by
     cases p with
     |none=>rfl
     |some q=>have:=h1 q rfl t (by simp);simp;exact this
    simp only[lE,e4,kX,BT];simp;omega
   .intro q hq x hx
    have:t=q:=yG hq
    subst this;exact h2'.1 _ (Pf hx)
end Go.VS.Sp
namespace Go.VS.Sp
theorem agk(o:List D)(ho:o.length=4)(x y:D)(s:S)(hw:s.wf)(c:Cl)(hv:s.own = -1\/0<=s.own):
  Rel (ev P (.call Ls [.d (.ag [x,y]),.d (.ag o),.d (.ag s.row),.d (.ag c.row)] [])) (eM s.pl c):=by
 have e:decide (s.own<0)=(s.own == -1):=by rw[um];simp;omega
 rw[au afw rfl];cases h1:c.op==52
 .cases h2:s.own == -1
  .cases h3:c.op==51
   .cases h4:s.own==c.task
    .exact Rel.er s 29 (by simp[AS,ho,Cl.row,h1,e,h2,h3,h4]) (by simp[eM,S.pl,h1,h2,h3,h4]) ⟨hw.h,hw.b,hw.c,hw.k⟩
    .exact Rel.er s 17 (by simp[AS,ho,Cl.row,h1,e,h2,h3,h4]) (by simp[eM,S.pl,h1,h2,h3,h4]) ⟨hw.h,hw.b,hw.c,hw.k⟩
   .exact Rel.er s 0 (by simp[AS,ho,Cl.row,h1,e,h2,h3]) (by simp[eM,S.pl,h1,h2,h3]) ⟨hw.h,hw.b,hw.c,hw.k⟩
  .exact Rel.gd {s with own:=c.task} (by simp[AS,ho,Cl.row,h1,e,h2]) (by simp[eM,S.pl,h1,h2]) ⟨hw.h,hw.b,hw.c,hw.k⟩
 .cases h2:s.own==c.task
  .have h2':(s.own != c.task)=true:=by simp[bne,h2]
   exact Rel.er s 20 (by simp[AS,ho,Cl.row,h1,h2']) (by simp[eM,S.pl,h1,h2]) ⟨hw.h,hw.b,hw.c,hw.k⟩
  .have h2':(s.own != c.task)=false:=by simp[bne,h2]
   exact Rel.gd {s with own:=-1} (by simp[AS,ho,Cl.row,h1,h2']) (by simp[eM,S.pl,h1,h2]) ⟨hw.h,hw.b,hw.c,hw.k⟩
theorem agl(x y:D)(nm:D)(k sz ot:Int)(s:S)(hw:s.wf)(c:Cl)(hz:sz<=100)(hv:0<=s.cnt/\s.cnt<=sz)(hc:1<=c.value/\c.value<=sz):
  Rel (ev P (.call Lu [.d (.ag [x,y]),.d (.ag [nm,I' k,I' sz,I' ot]),.d (.ag s.row),.d (.ag c.row)] [])) (eS sz s.pl c):=by
 have w1:IntKind.i64.wrap (s.cnt+c.value)=s.cnt+c.value:=wrap_i64 (by omega) (by omega)
 have w2:IntKind.i64.wrap (s.cnt - c.value)=s.cnt - c.value:=wrap_i64 (by omega) (by omega)
 rw[au afz rfl];cases h1:c.op==62
 .cases h2:decide (c.value<=s.cnt)
  .cases h3:c.op==61
   .exact Rel.er s 29 (by simp[CH,Cl.row,h1,h2,h3,w1,w2]) (by have p2:=h2;simp only[fZ,ku]at p2;simp[eS,S.pl,h1,p2,h3]) ⟨hw.h,hw.b,hw.c,hw.k⟩
   .exact Rel.er s 0 (by simp[CH,Cl.row,h1,h2,h3,w1,w2]) (by have p2:=h2;simp only[fZ,ku]at p2;simp[eS,S.pl,h1,p2,h3]) ⟨hw.h,hw.b,hw.c,hw.k⟩
  .exact Rel.gd {s with cnt:=s.cnt - c.value} (by simp[CH,Cl.row,h1,h2,w1,w2]) (by have p2:=h2;simp only[fZ,ku]at p2;simp[eS,S.pl,h1,p2]) ⟨hw.h,hw.b,hw.c,hw.k⟩
 .cases h2:decide (sz<s.cnt+c.value)
  .exact Rel.gd {s with cnt:=s.cnt+c.value} (by simp[CH,Cl.row,h1,h2,w1,w2]) (by have p2:=h2;simp only[fZ,ku]at p2;simp[eS,S.pl,h1,p2]) ⟨hw.h,hw.b,hw.c,hw.k⟩
  .exact Rel.er s 17 (by simp[CH,Cl.row,h1,h2,w1,w2]) (by have p2:=h2;simp only[fZ,ku]at p2;simp[eS,S.pl,h1,p2]) ⟨hw.h,hw.b,hw.c,hw.k⟩
theorem agm(c:List D)(hc:c.length=5)(x y:D)(nm:D)(k sz ot:Int)(s:S)(hw:s.wf)(hz:sz<=100)(hv:0<=s.val/\s.val<sz)(hn:0<=s.cnt/\s.cnt<=1099511627776):
  Rel (ev P (.call Lv [.d (.ag [x,y]),.d (.ag [nm,I' k,I' sz,I' ot]),.d (.ag s.row),.d (.ag c)] [])) (eB sz s.pl):=by
 have w1:IntKind.i64.wrap (s.val+1)=s.val+1:=wrap_i64 (by omega) (by omega)
 have w2:IntKind.i64.wrap (s.cnt+1)=s.cnt+1:=wrap_i64 (by omega) (by omega)
 rw[au afB rfl];cases h1:s.val+1==sz
 .exact Rel.vl {s with val:=s.val+1} s.val (by simp[HL,hc,h1,w1,w2]) (by simp[eB,S.pl,h1]) ⟨hw.h,hw.b,hw.c,hw.k⟩
 .cases h2:s.cnt==1099511627776
  .exact Rel.vl {s with val:=0,cnt:=s.cnt+1} s.val (by simp[HL,hc,h1,h2,w1,w2]) (by simp[eB,S.pl,h1,h2]) ⟨hw.h,hw.b,hw.c,hw.k⟩
  .exact Rel.er {s with val:=s.val+1} 4 (by simp[HL,hc,h1,h2,w1,w2]) (by simp[eB,S.pl,h1,h2]) ⟨hw.h,hw.b,hw.c,hw.k⟩
theorem agn(o:List D)(ho:o.length=4)(x y:D)(s:S)(hw:s.wf)(c:Cl)(hb:c.op=73\/c.op=74):
  Rel (ev P (.call LA [.d (.ag [x,y]),.d (.ag o),.d (.ag s.row),.d (.ag c.row)] [])) (eF s.pl c):=by
 have e:(c.op==73)=!(c.op==74):=by rcases hb with h |h<;>simp[h]
 rw[au afI rfl];cases h1:c.op==74
 .cases h2:s.cl
  .exact Rel.gd {s with cl:=true,val:=c.value} (by simp[E0,ho,V.aZ,Cl.row,e,h1,h2]) (by simp[eF,S.pl,h1,h2]) ⟨hw.h,hw.b,hw.c,hw.k⟩
  .exact Rel.er s 17 (by simp[E0,ho,V.aZ,Cl.row,e,h1,h2]) (by simp[eF,S.pl,h1,h2]) ⟨hw.h,hw.b,hw.c,hw.k⟩
 .cases h2:s.cl
  .exact Rel.er s 29 (by simp[E0,ho,V.aZ,Cl.row,e,h1,h2]) (by simp[eF,S.pl,h1,h2]) ⟨hw.h,hw.b,hw.c,hw.k⟩
  .exact Rel.vl s s.val (by simp[E0,ho,V.aZ,Cl.row,e,h1,h2]) (by simp[eF,S.pl,h1,h2]) ⟨hw.h,hw.b,hw.c,hw.k⟩
theorem H7{a b:Int}(ha:0<=a)(hb:1<=b):0<=a / b/\a / b*b<=a/\a / b<=a:=by
 have h1:0<=a / b:=Int.ediv_nonneg ha (by omega)
 have h2:a / b*b<=a:=Int.ediv_mul_le a (by omega)
 refine⟨h1,h2,?_⟩;have h3:a / b*1<=a / b*b:=Int.mul_le_mul_of_nonneg_left hb h1;omega
theorem ago(x y:D)(nm:D)(k sz ot:Int)(s:S)(hw:s.wf)(c:Cl)(hz:1<=sz/\sz<=100)(ho:1<=ot/\ot<=1099511627776)(hv:0<=s.cnt/\s.cnt<=sz)(ht0:0<=s.time/\s.time<=1099511627776)
  (hn:0<=c.now/\c.now<=1099511627776)(hb:c.op=72\/c.op=75)(hc:c.op=72->1<=c.value/\c.value<=sz):
  Rel (ev P (.call Lz [.d (.ag [x,y]),.d (.ag [nm,I' k,I' sz,I' ot]),.d (.ag s.row),.d (.ag c.row)] [])) (eL sz ot s.pl c):=by
 have e:(c.op==75)=!(c.op==72):=by rcases hb with h |h<;>simp[h]
 rw[au afH rfl];cases h0:decide (c.now<s.time)
 .have AZ:s.time<=c.now:=by simpa using h0
  obtain⟨k0,k1,k2⟩:=H7 (a:=c.now - s.time) (b:=ot) (by omega) ho.1
  have lG:¬ot=0:=by omega
  have w0:IntKind.i64.wrap (c.now - s.time)=c.now - s.time:=wrap_i64 (by omega) (by omega)
  have ht:(c.now - s.time).tdiv ot=(c.now - s.time) / ot:=Wv (by omega)
  generalize hkk:(c.now - s.time) / ot=q at *;have ek:decide (sz - s.cnt<=q)=decide (sz<=s.cnt+q):=by rw[um];simp;omega
  have w1:IntKind.i64.wrap q=q:=wrap_i64 (by omega) (by omega)
  have w2:IntKind.i64.wrap (sz - s.cnt)=sz - s.cnt:=wrap_i64 (by omega) (by omega)
  have w3:IntKind.i64.wrap (s.cnt+q)=s.cnt+q:=wrap_i64 (by omega) (by omega)
  have w4:IntKind.i64.wrap (q*ot)=q*ot:=by
   have:0<=q*ot:=Gu k0 (by omega)
   exact wrap_i64 (by omega) (by omega)
  have w5:IntKind.i64.wrap (s.time+q*ot)=s.time+q*ot:=by
   have:0<=q*ot:=Gu k0 (by omega)
   exact wrap_i64 (by omega) (by omega)
  cases h1:decide (sz<=s.cnt+q)
  .have h1':s.cnt+q<sz:=by simpa using h1
   cases h2:c.op==72
   .exact Rel.gd {s with cnt:=s.cnt+q,time:=s.time+q*ot} (by simp[AT,Cl.row,e,h0,h1,h2,w0,w1,w2,w3,w4,ht,lG,ek,w5]) (by have p0:=h0;simp only[fZ,ku]at p0;have p1:=h1;simp only[fZ,ku]at p1;simp[eL,nA,S.pl,p0,hkk,p1,h2]) ⟨hw.h,hw.b,hw.c,hw.k⟩
   .have v9:=hc (by simpa using h2)
    have w6:IntKind.i64.wrap (s.cnt+q - c.value)=s.cnt+q - c.value:=wrap_i64 (by omega) (by omega)
    cases h3:decide (s.cnt+q<c.value)
    .exact Rel.gd {s with cnt:=s.cnt+q - c.value,time:=s.time+q*ot} (by simp[AT,Cl.row,e,h0,h1,h2,h3,w0,w1,w2,w3,w4,ht,lG,ek,w5,w6]) (by have p0:=h0;simp only[fZ,ku]at p0;have p1:=h1;simp only[fZ,ku]at p1;have p3:=h3;simp only[fZ,ku]at p3;simp[eL,nA,S.pl,p0,hkk,p1,h2,p3]) ⟨hw.h,hw.b,hw.c,hw.k⟩
    .exact Rel.er {s with cnt:=s.cnt+q,time:=s.time+q*ot} 29 (by simp[AT,Cl.row,e,h0,h1,h2,h3,w0,w1,w2,w3,w4,ht,lG,ek,w5,w6]) (by have p0:=h0;simp only[fZ,ku]at p0;have p1:=h1;simp only[fZ,ku]at p1;have p3:=h3;simp only[fZ,ku]at p3;simp[eL,nA,S.pl,p0,hkk,p1,h2,p3]) ⟨hw.h,hw.b,hw.c,hw.k⟩
  .cases h2:c.op==72
   .exact Rel.gd {s with cnt:=sz,time:=c.now} (by simp[AT,Cl.row,e,h0,h1,h2,w0,w1,w2,w3,w4,ht,lG,ek,w5]) (by have p0:=h0;simp only[fZ,ku]at p0;have p1:=h1;simp only[fZ,ku]at p1;simp[eL,nA,S.pl,p0,hkk,p1,h2]) ⟨hw.h,hw.b,hw.c,hw.k⟩
   .have v9:=hc (by simpa using h2)
    have w6:IntKind.i64.wrap (sz - c.value)=sz - c.value:=wrap_i64 (by omega) (by omega)
    have h3:decide (sz<c.value)=false:=by simp;omega
    exact Rel.gd {s with cnt:=sz - c.value,time:=c.now} (by simp[AT,Cl.row,e,h0,h1,h2,h3,w0,w1,w2,w3,w4,ht,lG,ek,w5,w6]) (by have p0:=h0;simp only[fZ,ku]at p0;have p1:=h1;simp only[fZ,ku]at p1;have p3:=h3;simp only[fZ,ku]at p3;simp[eL,nA,S.pl,p0,hkk,p1,h2,p3]) ⟨hw.h,hw.b,hw.c,hw.k⟩
 .exact Rel.er s 2 (by simp[AT,Cl.row,h0]) (by have p0:=h0;simp only[fZ,ku]at p0;simp[eL,S.pl,p0]) ⟨hw.h,hw.b,hw.c,hw.k⟩
end Go.VS.Sp
namespace Go.VS.Sp
theorem tH(nl:Bool)(q:List Int)(gi:nl=true->q=[])(hn:q.length<=1000000):
  ev P (.call tw [.d (hD nl q)] [])=if nl=true then some (.val (.d (.sl 1 true [])) [])else some (.val (.aR 0 0 q.length) [.aG 1 true (bX q)]):=by
 rw[au SB rfl];cases nl
 .have hr:q.length<=room:=by unfold room;omega
  cases q with
  |nil=>simp[rA,eK,fN,ak,cut,az]
  |cons a r =>
   simp at hr;simp[rA,eK,fN,ak,cut,hr,az]
 .simp[rA,az]
theorem M8(nl:Bool)(q:List K)(gi:nl=true->q=[])(hn:q.length<=1000000):
  ev P (.call G6 [.d (cD nl q)] [])=if nl=true then some (.val (.d (.sl 2 true [])) [])else some (.val (.aR 0 0 q.length) [.aG 2 true (q.map K.row)]):=by
 rw[au X6 rfl];cases nl
 .have hr:q.length<=room:=by unfold room;omega
  cases q with
  |nil=>simp[AQ,eK,fN,ak,cut,az]
  |cons a r =>
   simp at hr;simp[AQ,eK,fN,ak,cut,hr,az]
 .simp[AQ,az]
theorem agp(A B:List (List D))(r:List D)(h:A.length+B.length<=100000):
  ev P (.call G2 [.aR 0 0 (A.length+(B.length+1)),.d (I' A.length),.d (I' (A.length+1))] [.aG 2 true (A++r::B)]) =
   some (.val (.aR 0 0 (A.length+B.length)) [.aG 2 true (A++(B++[[I' 0,.sl 1 true []]]))]):=by
 have h1:(A.length:Int)<=A.length+1:=by omega
 have h2:(A.length:Int)+1<=A.length+(B.length+1):=by omega
 have h3:(0:Int)<=A.length+1:=by omega
 have h4:((A.length:Int)==A.length+1)=false:=by simp;omega
 have h7:(A.length:Int)<=A.length+(B.length+1):=by omega
 have h5:A.length+B.length<=A.length+(B.length+1):=by omega
 have h6:¬(A.length+(B.length+1)<A.length+B.length):=by omega
 rw[au XX rfl];have je:(A.length:Int)<A.length+1:=by omega
 rcases B with _ |⟨b,B⟩
 .have h9:¬((A.length:Int)+1=0):=by omega
  simp at h2 h5 h6 h7;simp[EM,ak,cut,h1,h2,h3,h4,h5,h6,h7,h9,je,az]
 .have h8:(1:Int)<B.length+1+1:=by omega
  have h9:¬((A.length:Int)+1=0):=by omega
  have h12:A.length+1+(B.length+1)<=A.length+(B.length+1+1):=by omega
  obtain⟨x,hx⟩:∃x,List.drop (B.length+1) (r::b::B)=[x]:=Gv.1 (by simp)
  have kG:¬((A.length:Int)+(B.length+1)=0):=by omega
  have j9:(0:Int)<=(A.length:Int)+(B.length+1):=by omega
  have sD:(B.length:Int)<=B.length+1:=by omega
  have oL:(B.length:Int)<B.length+1:=by omega
  have zf:((A.length:Int)+(B.length+1)).toNat=A.length+(B.length+1):=by omega
  have zg:((A.length:Int)+(B.length+1+1) - (A.length+(B.length+1))).toNat=1:=by omega
  have zh:A.length+(B.length+1)+1<=A.length+(B.length+1+1):=by omega
  have zi:List.take (A.length+(B.length+1)) (A++b::(B++[x]))=A++b::B:=by
   have:A++b::(B++[x])=(A++b::B)++[x]:=by simp
   rw[this];exact uo (by simp)
  have zj:List.drop (A.length+(B.length+1)+1) (A++b::(B++[x]))=[]:=qP (by simp;omega)
  have iK:((A.length:Int)+(B.length+1+1) - (A.length+1)).toNat=B.length+1:=by omega
  simp at h2 h5 h6 h7;simp[EM,ak,cut,h1,h2,h3,h4,h5,h6,h7,h8,h9,iK,je,h12,kG,j9,sD,oL,zf,zg,zh,zi,zj,hx,az]
theorem agq(A B:List (List D))(r:List D)(h:A.length+B.length<=100000):
  ev P (.call Rg [.aR 0 0 (A.length+(B.length+1)),.d (I' A.length),.d (I' (A.length+1))] [.aG 1 true (A++r::B)]) =
   some (.val (.aR 0 0 (A.length+B.length)) [.aG 1 true (A++(B++[[I' 0]]))]):=by
 have h1:(A.length:Int)<=A.length+1:=by omega
 have h2:(A.length:Int)+1<=A.length+(B.length+1):=by omega
 have h3:(0:Int)<=A.length+1:=by omega
 have h4:((A.length:Int)==A.length+1)=false:=by simp;omega
 have h7:(A.length:Int)<=A.length+(B.length+1):=by omega
 have h5:A.length+B.length<=A.length+(B.length+1):=by omega
 have h6:¬(A.length+(B.length+1)<A.length+B.length):=by omega
 rw[au afy rfl];have je:(A.length:Int)<A.length+1:=by omega
 rcases B with _ |⟨b,B⟩
 .have h9:¬((A.length:Int)+1=0):=by omega
  simp at h2 h5 h6 h7;simp[MM,ak,cut,h1,h2,h3,h4,h5,h6,h7,h9,je,az]
 .have h8:(1:Int)<B.length+1+1:=by omega
  have h9:¬((A.length:Int)+1=0):=by omega
  have h12:A.length+1+(B.length+1)<=A.length+(B.length+1+1):=by omega
  obtain⟨x,hx⟩:∃x,List.drop (B.length+1) (r::b::B)=[x]:=Gv.1 (by simp)
  have kG:¬((A.length:Int)+(B.length+1)=0):=by omega
  have j9:(0:Int)<=(A.length:Int)+(B.length+1):=by omega
  have sD:(B.length:Int)<=B.length+1:=by omega
  have oL:(B.length:Int)<B.length+1:=by omega
  have zf:((A.length:Int)+(B.length+1)).toNat=A.length+(B.length+1):=by omega
  have zg:((A.length:Int)+(B.length+1+1) - (A.length+(B.length+1))).toNat=1:=by omega
  have zh:A.length+(B.length+1)+1<=A.length+(B.length+1+1):=by omega
  have zi:List.take (A.length+(B.length+1)) (A++b::(B++[x]))=A++b::B:=by
   have:A++b::(B++[x])=(A++b::B)++[x]:=by simp
   rw[this];exact uo (by simp)
  have zj:List.drop (A.length+(B.length+1)+1) (A++b::(B++[x]))=[]:=qP (by simp;omega)
  have iK:((A.length:Int)+(B.length+1+1) - (A.length+1)).toNat=B.length+1:=by omega
  simp at h2 h5 h6 h7;simp[MM,ak,cut,h1,h2,h3,h4,h5,h6,h7,h8,h9,iK,je,h12,kG,j9,sD,oL,zf,zg,zh,zi,zj,hx,az]
end Go.VS.Sp
namespace Go.VS.Sp
theorem aN:List.range 2=[0,1]:=rfl
theorem aO:List.range 3=[0,1,2]:=rfl
def gX(own:Int)(H:List Int)(t:Int):Int:=if(decide (0<=t)&&t==own)=true then 2 else if t∈H then 1 else 0
theorem agr{l:List Int}{t:Int}(h:gF l)(hm:t∈l):∃A B,l=A++t::B/\bI t l=A.length/\l.filter (λx=>x != t)=A++B:=by
 have h1:=(H6 h).2 hm;have hlt:bI t l<l.length:=(rW.1 h1).1;have h2:l[bI t l]=t:=(rW.1 h1).2;refine⟨l.take (bI t l),l.drop (bI t l+1),?_,by simp;omega,Yq h hm⟩
 have h3:l.drop (bI t l)=l[bI t l]::l.drop (bI t l+1):=Ww hlt;rw[h2]at h3;rw[<-h3,Al]
end Go.VS.Sp
namespace Go.VS.Sp
theorem ags(s:S):s.pl.H=s.H:=rfl
theorem agt(s:S):s.pl.own=s.own:=rfl
set_option maxHeartbeats 1000000 in
theorem agu(o:List D)(ho:o.length=4)(x y:D)(s:S)(hw:s.wf)(c:Cl)(hH:gF s.H)(hn:s.H.length<=100000)(hv:s.own = -1\/0<=s.own):
  Rel (ev P (.call Lt [.d (.ag [x,y]),.d (.ag o),.d (.ag s.row),.d (.ag c.row)] [])) (eW s.pl c):=by
 have oM:=SV s.hn s.H c.task (by omega) hH.rE
 have hm:decide (s.H[bI c.task s.H]?=some c.task)=decide (c.task∈s.H):=decide_eq_decide.2 (H6 hH);rw[hm]at oM;rw[au afx rfl];unfold eW;rw[ags,agt];have e:decide (0<=s.own)=!(s.own == -1):=by rw[um];simp;omega
 cases h1:c.op==54
 .cases h2:c.op==56
  .cases h4:(decide (c.task∈s.H)||s.own==c.task)
   .cases h5:(!(s.own == -1)||(c.op==55&&decide (0<s.H.length)))
    .cases h6:c.op==55
     .have hI:=Cd MZ (p:=l5 1) rfl
      refine Rel.gd {s with hn:=false,H:=eR c.task s.H} ?_ (by simp[S.pl]) ⟨by simp,hw.b,hw.c,hw.k⟩
      rw[h6]at h5;simp only[Aj,Gs]at h5;have hb:=tG c.task s.H;cases hf:s.hn
      .have hr:s.H.length+1<=room:=by unfold room;omega
       have dL:=tH s.hn s.H hw.h (by omega)
       rw[hf,aD (by decide)]at dL
       rw[hf]at oM;have hrow:hD false (eR c.task s.H) = .sl 1 false ((bX s.H).take (bI c.task s.H)++[I' c.task]::(bX s.H).drop (bI c.task s.H)):=by unfold eR hD bX;simp[BU,BV]
       simp only[S.row];rw[hrow];generalize bI c.task s.H=b at *;have h7:s.H.length+1<=b+(s.H.length - b+1):=by omega
       have t5:List.take (s.H.length+1) (List.take b (List.map (λx=>[I' x]) s.H)++[I' c.task]::List.drop b (List.map (λx=>[I' x]) s.H))=List.take b (List.map (λx=>[I' x]) s.H)++[I' c.task]::List.drop b (List.map (λx=>[I' x]) s.H):=
        gC (by simp;omega)
       simp[vT,ho,Cl.row,oM,h1,h2,h4,e,h5,h6,hf,dL,hI,l5,jO,hr,hb,h7,t5,aJ,aA,sub,aE,back,ak,cut,an,br,aY,bg,aq,aN,aO,bk,cI]
      .have hE:=hw.h hf
       have hr:1<=room:=by decide
       have dL:=tH s.hn s.H hw.h (by omega)
       rw[hf,aK rfl]at dL;rw[hf]at oM;have h4':(s.own==c.task)=false:=by have:=h4;rw[hE]at this;simpa using this
       rw[hE]at oM dL⊢;have hz:bI c.task []=0:=rfl;have hi:eR c.task []=[c.task]:=rfl;rw[hz]at oM;rw[hi];simp[vT,ho,Cl.row,oM,h1,h2,h4',e,h5,h6,hf,dL,hI,l5,jO,hr,hb,hE,aJ,aA,sub,aE,back,ak,cut,an,br,aY,bg,aq,aN,aO,bk,cI]
     .rw[h6]at h5
      simp only[Ai]at h5;exact Rel.gd {s with own:=c.task} (by simp[vT,ho,Cl.row,oM,h1,h2,h4,e,h5,h6]) (by simp[S.pl]) ⟨hw.h,hw.b,hw.c,hw.k⟩
    .exact Rel.er s 29 (by simp[vT,ho,Cl.row,oM,h1,h2,h4,e,h5]) (by simp) ⟨hw.h,hw.b,hw.c,hw.k⟩
   .exact Rel.er s 17 (by simp[vT,ho,Cl.row,oM,h1,h2,h4]) (by simp) ⟨hw.h,hw.b,hw.c,hw.k⟩
  .cases h3:s.own==c.task
   .have h3':(s.own != c.task)=true:=by simp[bne,h3]
    exact Rel.er s 20 (by simp[vT,ho,Cl.row,oM,h1,h2,h3']) (by simp) ⟨hw.h,hw.b,hw.c,hw.k⟩
   .have h3':(s.own != c.task)=false:=by simp[bne,h3]
    exact Rel.gd {s with own:=-1} (by simp[vT,ho,Cl.row,oM,h1,h2,h3']) (by simp[S.pl]) ⟨hw.h,hw.b,hw.c,hw.k⟩
 .cases h2:decide (c.task∈s.H)
  .rw[h2]at oM
   exact Rel.er s 20 (by simp[vT,ho,Cl.row,oM,h1]) (by simp) ⟨hw.h,hw.b,hw.c,hw.k⟩
  .rw[h2]at oM
   have ze:c.task∈s.H:=by simpa using h2
   obtain⟨A,B,e1,e2,e3⟩:=agr hH ze;have hnf:s.hn=false:=by
    cases hf:s.hn
    .rfl
    .rw[hw.h hf]at ze;simp at ze
   have dL:=tH s.hn s.H hw.h (by omega)
   rw[hnf,aD (by decide)]at dL
   rw[hnf]at oM;rw[e2]at oM;have hD:=agq (bX A) (bX B) [I' c.task] (by rw[e1]at hn;simp at hn⊢;omega)
   have hrow:bX s.H=bX A++[I' c.task]::bX B:=by rw[e1];simp
   have hlen:s.H.length=A.length+(B.length+1):=by rw[e1];simp
   have jm:IntKind.i64.wrap ((A.length:Int)+1)=A.length+1:=wrap_i64 (by omega) (by omega)
   rw[hrow,hlen]at dL;simp only[yI]at hD;rw[e3];have t6:List.take (A.length+B.length) (bX A++(bX B++[[I' 0]]))=List.map (λx=>[I' x]) A++List.map (λx=>[I' x]) B:=by
    rw[<-List.append_assoc];exact uo (by simp)
   refine Rel.gd {s with hn:=false,H:=A++B} ?_ (by simp[S.pl]) ⟨by simp,hw.b,hw.c,hw.k⟩
   simp[vT,ho,Cl.row,oM,h1,hnf,dL,jm,hD,t6,aJ,aA,sub,aE,back,ak,cut,an,br,aY,bg,aq,aN,aO,bk,cI]
end Go.VS.Sp
namespace Go.VS.Sp
theorem M9(nm:D)(k sz ot:Int):ev P (.call Eo [.d (.ag [nm,I' k,I' sz,I' ot])] [])=some (.val (.d (.ag [nm,I' k,I' (dr sz),I' ot])) []):=by
 rw[au afE rfl];unfold dr;simp[Su]
theorem agv(s:S):s.pl.B=s.B:=rfl
theorem agw(s:S):s.pl.cl=s.cl:=rfl
theorem agx(x y nm:D)(k sz ot:Int)(s:S)(hw:s.wf)(c:Cl)(hb:c.op=64\/c.op=65\/c.op=66)(hn:s.B.length<=100000):
  Rel (ev P (.call Lw [.d (.ag [x,y]),.d (.ag [nm,I' k,I' sz,I' ot]),.d (.ag s.row),.d (.ag c.row)] [])) (eC (dr sz) s.pl c):=by
 have hR:=M9 nm k sz ot;generalize H8:dr sz=rm at *;rw[au afD rfl];unfold eC;rw[agv,agw];cases h1:c.op==64
 .cases h2:c.op==65
  .cases h3:s.cl
   .exact Rel.gd {s with cl:=true} (by simp[vU,Cl.row,h1,h2,h3]) (by simp[S.pl]) ⟨hw.h,hw.b,hw.c,hw.k⟩
   .exact Rel.er s 17 (by simp[vU,Cl.row,h1,h2,h3]) (by simp) ⟨hw.h,hw.b,hw.c,hw.k⟩
  .cases hB:s.B with
   |nil =>
    cases h3:s.cl
    .exact Rel.er s 29 (by simp[vU,Cl.row,h1,h2,h3,hB]) (by simp) ⟨hw.h,hw.b,hw.c,hw.k⟩
    .exact Rel.er s 0 (by simp[vU,Cl.row,h1,h2,h3,hB]) (by simp) ⟨hw.h,hw.b,hw.c,hw.k⟩
   |cons b r =>
    have hf:s.bn=false:=by
     cases hf:s.bn
     .rfl
     .rw[hw.b hf]at hB;simp at hB
    have xT:=tH false r (by simp) (by rw[hB]at hn;simp at hn;omega)
    rw[aD (by decide)]at xT
    have n1:(1:Int)<=r.length+1:=by omega
    have n0:((r.length:Int)+1==0)=false:=by simp;omega
    refine Rel.vl {s with bn:=false,B:=r} b ?_ (by simp[S.pl]) ⟨hw.h,by simp,hw.c,hw.k⟩
    simp[vU,Cl.row,h1,h2,hB,hf,xT,n0,n1,aJ,aA,sub,aE,back,ak,cut,an,V.aZ,br,aY,bg,aq,bk,cI]
 .cases h3:s.cl
  .cases h4:decide (rm<=s.B.length)
   .have hr:s.B.length+1<=room:=by unfold room;omega
    have hC:=tH s.bn s.B hw.b (by omega)
    refine Rel.gd {s with bn:=false,B:=s.B++[c.value]} ?_ (by simp[S.pl,h3]) ⟨hw.h,by simp,hw.c,hw.k⟩
    cases hf:s.bn
    .rw[hf,aD (by decide)]at hC
     have t1:List.take (s.B.length+1) (List.map (λx=>[I' x]) s.B++[[I' c.value]])=List.map (λx=>[I' x]) s.B++[[I' c.value]]:=gC (by simp)
     simp[vU,Cl.row,h1,h3,h4,hf,hR,hC,hr,t1,aJ,aA,sub,aE,back,ak,cut,an,V.aZ,br,aY,bg,aq,bk,cI,cz]
    .have hB:=hw.b hf
     rw[hf,aK rfl]at hC;rw[hB]at h4 hC⊢;have h4:decide (rm<=0)=false:=h4;have jo:1<=room:=by decide
     simp[vU,Cl.row,h1,h3,h4,hf,hR,hC,hB,jo,aJ,aA,sub,aE,back,ak,cut,an,V.aZ,br,aY,bg,aq,bk,cI,cz]
   .exact Rel.er s 29 (by simp[vU,Cl.row,h1,h3,hR,h4]) (by simp) ⟨hw.h,hw.b,hw.c,hw.k⟩
  .exact Rel.er s 0 (by simp[vU,Cl.row,h1,h3]) (by simp) ⟨hw.h,hw.b,hw.c,hw.k⟩
end Go.VS.Sp
namespace Go.VS.Sp
theorem Na{n:Int}:cY n=true↔0<=n/\n<16:=by simp[cY]
theorem Ys(a t:Int)(b:Bool)(l:List Int)(ha:cY a=true)(ht:cY t=true):
  ev P (.call Ep [.d (.ag [I' a,hD b l]),.d (I' t)] [])=some (.val (.d (I' (a - t))) []):=by
 have h1:=Na.1 ha;have h2:=Na.1 ht;have hw:IntKind.i64.wrap (a - t)=a - t:=wrap_i64 (by omega) (by omega)
 rw[au afG rfl];simp[Sv,hw]
theorem agy(nl:Bool)(C:List K)(t:Int)(hn:C.length<=1000000)(hA:iU (C.map K.task))(hC:∀x∈C,cY x.task=true)(ht:cY t=true):∀(n i j:Nat),j - i<=n->i<=bI t (C.map K.task)->bI t (C.map K.task)<=j->j<=C.length ->
  ev P (.loop 0 [0,1,2,8,9,10] HM [(0,.d (cD nl C)),(1,.d (I' t)),(2,.d (.fn Ep [] [])),(8,.d (I' C.length)),(9,.d (I' i)),(10,.d (I' j))] []) =
   some (.out (.exit 0) [(0,.d (cD nl C)),(1,.d (I' t)),(2,.d (.fn Ep [] [])),(8,.d (I' C.length)),(9,.d (I' (bI t (C.map K.task))))] []):=by
 intro n;induction n with
 |zero =>
  intro i j h1 h2 h3 h4;have e1:i=bI t (C.map K.task):=by omega
  have e2:j=bI t (C.map K.task):=by omega
  rw[bS]
  conv=>lhs;arg 4;unfold HM
  simp[e1,e2]
 |succ n ih =>
  intro i j h1 h2 h3 h4;by_cases hij:i=j
  .have e1:i=bI t (C.map K.task):=by omega
   have e2:j=bI t (C.map K.task):=by omega
   rw[bS]
   conv=>lhs;arg 4;unfold HM
   simp[e1,e2]
  .have hlt:i<j:=by omega
   have hw1:IntKind.i64.wrap ((i:Int)+j)=i+j:=wrap_i64 (by omega) (by omega)
   have hm:=E6 (i:=i) (j:=j) (by omega)
   generalize ze:(i+j) / 2=m at hm;have hm1:i<=m:=by omega
   have hm2:m<j:=by omega
   have hml:m<C.length:=by omega
   obtain⟨x,hx⟩:∃x,C[m]?=some x:=⟨C[m]'(by omega),by simp⟩
   have xS:(C.map K.task)[m]?=some x.task:=by simp[hx]
   have hb:=E5 (t:=t) hA xS;have mE:C[m]=x:=by rw[qR hml]at hx;exact yG hx
   have zk:x∈C:=kU hx;have hc:=Ys x.task t x.nl x.log (hC x zk) ht;have CQ:IntKind.i64.wrap ((m:Int)+1)=m+1:=wrap_i64 (by omega) (by omega)
   have AY:(m:Int)<C.length:=by omega
   rw[bS]
   conv=>lhs;arg 4;unfold HM
   by_cases hp:x.task<t
   .have bB:=ih (m+1) j (by omega) (by omega) (by omega) h4
    have E7:x.task - t<0:=by omega
    simp at bB;simp[hlt,hw1,hm,CQ,hml,AY,hx,mE,K.row,hc,E7];exact bB
   .have bB:=ih i m (by omega) (by omega) (by omega) (by omega)
    have E7:¬x.task - t<0:=by omega
    simp[hlt,hw1,hm,hml,AY,hx,mE,K.row,hc,E7];exact bB
theorem Nb(nl:Bool)(C:List K)(t:Int)(hn:C.length<=1000000)(hA:iU (C.map K.task))(hC:∀x∈C,cY x.task=true)(ht:cY t=true):
  ev P (.call Rk [.d (cD nl C),.d (I' t),.d (.fn Ep [] [])] []) =
   some (.val (.tu [.d (I' (bI t (C.map K.task))),.d (.b (decide ((C.map K.task)[bI t (C.map K.task)]?=some t)))]) []):=by
 have hb:=tG t (C.map K.task);simp only[yI]at hb;have hl:=agy nl C t hn hA hC ht C.length 0 C.length (by omega) (by omega) hb (by omega)
 simp only[Int.natCast_zero]at hl;by_cases h:bI t (C.map K.task)<C.length
 .obtain⟨x,hx⟩:∃x,C[bI t (C.map K.task)]?=some x:=⟨C[bI t (C.map K.task)],by simp⟩
  have xS:(C.map K.task)[bI t (C.map K.task)]?=some x.task:=by rw[vu,hx];rfl
  have h2:(bI t (C.map K.task):Int)<C.length:=by omega
  have zk:x∈C:=kU hx;have hc:=Ys x.task t x.nl x.log (hC x zk) ht;rw[xS];generalize bI t (C.map K.task)=B at *;have mE:C[B]=x:=by rw[qR h]at hx;exact yG hx
  have e:(x.task - t==0)=decide (x.task=t):=by rw[um];simp;omega
  rw[au Ye rfl];simp[MP,hl,h,h2,hx,mE,K.row,hc,e]
 .have h2:¬(bI t (C.map K.task):Int)<C.length:=by omega
  have h3:(C.map K.task)[bI t (C.map K.task)]?=none:=by simp;omega
  rw[h3];generalize bI t (C.map K.task)=B at *;rw[au Ye rfl];simp[MP,hl,h,h2]
end Go.VS.Sp
