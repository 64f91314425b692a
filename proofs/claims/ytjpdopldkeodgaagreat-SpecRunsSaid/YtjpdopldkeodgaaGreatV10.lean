import Derived.Test.YtjpdopldkeodgaaGreatV08
import Derived.Test.YtjpdopldkeodgaaGreatV09
set_option linter.all false
set_option maxHeartbeats 1000000
namespace Go.VS.Sp
def Gc(Q:List W)(op t:Int):Bool:=Q.any λw=>w.op==op&&w.task != t
theorem alQ(op t a b c d e:Int):ev P (.call LB [.d (.ag [I' a,I' b,I' c,I' d,I' e]),.d (.ref [I' op]),.d (.ref [I' t])] [])=some (.val (.d (.b (b==op&&a != t))) []):=by
 rw[au afk rfl];cases h:b==op<;>simp[Ss,h]
theorem alR(qn:Bool)(Q:List W)(op t:Int)(hn:Q.length<=1000000):ev P (.call Lw [.d (qD qn Q),.d (I' op),.d (I' t)] [])=some (.val (.d (.b (Gc Q op t))) []):=by
 have hI:=A5 (f:=LB) (first:=[]) (caps:=[.ref [I' op],.ref [I' t]]) (p:=λw=>w.op==op&&w.task != t) qn Q hn (by intro a b c d e;exact alQ op t a b c d e)
 rw[au aff rfl];unfold Gc;generalize (Q.any λw=>w.op==op&&w.task != t)=r at *
 try simp at hI
 simp[Sn,fA,hI]
def zU(sz:Int)(bl:Nat)(Q:List W)(w:W):Bool:=if w.op==64 then(bl:Int) != sz||Gc Q 65 w.task else decide (0<bl)||Gc Q 64 w.task
theorem alS(nm:D)(k sz ot:Int)(d0 d1 d2 d3 d6 d7 d8:D)(bn qn:Bool)(B:List Int)(Q:List W)(hn:Q.length<=1000000)(a b c d e:Int):
  ev P (.call Lv [.d (.ag [I' a,I' b,I' c,I' d,I' e]),.d (.ref [d0,d1,d2,d3,qD qn Q,hD bn B,d6,d7,d8]),.d (.ref [nm,I' k,I' sz,I' ot])] [])=some (.val (.d (.b (zU sz B.length Q ⟨a,b,c,d,e⟩))) []):=by
 have f1:=alR qn Q 65 a hn;have f2:=alR qn Q 64 a hn;rw[au afe rfl];unfold zU;cases h:b==64
 .cases h2:decide ((0:Int)<B.length)
  .have h2':¬0<B.length:=by simpa using h2
   simp[E5,h,h2',f2]
  .have h2':0<B.length:=by simpa using h2
   simp[E5,h,h2',f2]
 .cases h2:(B.length:Int) != sz
  .simp[E5,h,h2,f1]
  .simp[E5,h,h2,f1]
theorem alT(nm:D)(k sz ot:Int)(d0 d1 d2 d3 d6 d7 d8:D)(bn qn:Bool)(B:List Int)(Q:List W)(hn:Q.length<=1000000):
  ev P (.call Ll [.d (.ag [nm,I' k,I' sz,I' ot]),.d (.ag [d0,d1,d2,d3,qD qn Q,hD bn B,d6,d7,d8])] [])=some (.val (.d (.b (Q.any (zU sz B.length Q)))) []):=by
 have hI:=A5 (f:=Lv) (first:=[]) (caps:=[.ref [d0,d1,d2,d3,qD qn Q,hD bn B,d6,d7,d8],.ref [nm,I' k,I' sz,I' ot]]) (p:=zU sz B.length Q) qn Q hn (by intro a b c d e;exact alS nm k sz ot d0 d1 d2 d3 d6 d7 d8 bn qn B Q hn a b c d e)
 rw[au X1 rfl];generalize Q.any (zU sz B.length Q)=r at *;try simp at hI
 simp[Mz,fA,hI]
def BE(w:W):Bool:=w.op != 64&&(w.op != 65||w.value != 0)
def sL(w x:W):Bool:=x.task==w.task&&(x.case == -1||w.case == -1||x.case==w.case)
def fC(pre:List W)(w:W):Bool:=!BE w&&!pre.any (sL w)
theorem alU(w:W)(a b c d e:Int):ev P (.call Lu [.d (.ag [I' a,I' b,I' c,I' d,I' e]),.d (.ref [I' w.task,I' w.op,I' w.value,I' w.prio,I' w.case])] [])=some (.val (.d (.b (sL w ⟨a,b,c,d,e⟩))) []):=by
 rw[au afd rfl];unfold sL;cases h1:a==w.task
 .simp[HU,h1]
 .cases h2:e == -1
  .cases h3:w.case == -1<;>simp[HU,h1,h2,h3]
  .simp[HU,h1,h2]
theorem alV(qn:Bool)(pre:List W)(w:W)(r:List W)(hn:(pre++w::r).length<=1000000):
  ev P (.call Q3 [.d (qD qn (pre++w::r)),.d (I' pre.length)] [])=some (.val (.d (.b (fC pre w))) []):=by
 have hI:=A5 (f:=Lu) (first:=[]) (caps:=[.ref [I' w.task,I' w.op,I' w.value,I' w.prio,I' w.case]]) (p:=sL w) qn pre (by simp at hn;omega) (by intro a b c d e;exact alU w a b c d e)
 have hg:(pre++w::r)[pre.length]?=some w:=by simp
 have e1:List.take pre.length ((pre++w::r).map W.row)=pre.map W.row:=by rw[vF];simp[GR]
 have hle:(pre.length:Int)<=(pre++w::r).length:=by simp;omega
 rw[au aeY rfl];unfold fC;generalize hQ:pre++w::r=Q at *;generalize pre.any (sL w)=b at *;cases h0:BE w
 .unfold BE at h0
  try simp at hI
  simp[My,hg,W.row,h0,hle,e1,fA,hI]
 .unfold BE at h0
  simp[My,hg,W.row,h0]
theorem alW(o:List D)(d0 d1 d2 d3 d5 d6 d7 d8:D)(qn:Bool)(Q:List W)(hn:Q.length<=1000000):∀(suf pre:List W),Q=pre++suf ->
  ev P (.loop 0 [2,3,53,54] ET [(2,.d (.ref o)),(3,.d (.ref [d0,d1,d2,d3,qD qn Q,d5,d6,d7,d8])),(53,.d (I' Q.length)),(54,.d (I' pre.length))] []) =
   if eI fC pre suf=true then some (.out (.exit 0) [(2,.d (.ref o)),(3,.d (.ref [d0,d1,d2,d3,qD qn Q,d5,d6,d7,d8]))] [])else some (.out .ret [(4,.d (.b false))] []):=by
 intro suf;induction suf with
 |nil =>
  intro pre hl
  have:Q.length=pre.length:=by simp[hl]
  rw[bT]
  conv=>lhs;arg 4;unfold ET
  simp[this,eI]
 |cons w suf ih =>
  intro pre hl;have hlt:(pre.length:Int)<Q.length:=by simp[hl];omega
  have hnext:IntKind.i64.wrap ((pre.length:Int)+1)=pre.length+1:=wrap_i64 (by omega) (by omega)
  have bD:=ih (pre++[w]) (by simp[hl])
  have hw:=alV qn pre w suf (by rw[<-hl];exact hn)
  rw[<-hl]at hw;generalize hR:(if eI fC (pre++[w]) suf=true then some (dN.out (.exit 0) [(2,V.d (.ref o)),(3,V.d (.ref [d0,d1,d2,d3,qD qn Q,d5,d6,d7,d8]))] [])else some (.out .ret [(4,.d (.b false))] []))=R at bD
  rw[bT]
  conv=>lhs;arg 4;unfold ET
  cases hf:fC pre w
  .rw[hf]at hw
   simp[hlt,hw,eI,hf]
  .rw[hf]at hw
   have hq:eI fC pre (w::suf)=eI fC (pre++[w]) suf:=by simp[eI,hf]
   rw[hq,hR];simp at bD;simp[hlt,hw,hnext];exact bD
def DF(sz:Int)(s:S):Bool:=!v7 sz s&&(!(s.B.any λn=>!num n)&&(ej s.Q==0&&(eI fC [] s.Q&&((!s.cl||(s.Q.length:Int)==0)&&!s.Q.any (zU sz s.B.length s.Q)))))
theorem alX(nm:D)(k sz ot:Int)(s:S)(hs:s.sm):ev P (.call KX [.d (.ag [nm,I' k,I' sz,I' ot]),.d (.ag s.row)] [])=some (.val (.d (.b (DF sz s))) []):=by
 obtain⟨own,cnt,time,hn,H,qn,Q,bn,B,cn,C,cl,val⟩:=s;obtain⟨h1,h2,h3,h4,_⟩:=hs;simp only at h1 h2 h3 h4;have jS:IntKind.i64.wrap ((H.length:Int)+C.length)=H.length+C.length:=wrap_i64 (by omega) (by omega)
 have hB:=Yd (f:=Hp) (first:=[]) (caps:=[]) (p:=λn=>!num n) bn B h2 (by intro a;simp[M7])
 have hV:=alT nm k sz ot (I' own) (I' cnt) (I' time) (hD hn H) (cD cn C) (.b cl) (I' val) bn qn B Q (by omega)
 have hl:=alW [nm,I' k,I' sz,I' ot] (I' own) (I' cnt) (I' time) (hD hn H) (hD bn B) (cD cn C) (.b cl) (I' val) qn Q (by omega) Q [] rfl
 simp at hl;have hW:=uI qn Q;unfold DF;simp only;rw[au XQ rfl];generalize (B.any λn=>!num n)=bb at *
 generalize (Q.any (zU sz B.length Q))=vv at *;cases hA:v7 sz ⟨own,cnt,time,hn,H,qn,Q,bn,B,cn,C,cl,val⟩
 .unfold v7 at hA
  simp only at hA;cases bb
  .cases hw:ej Q==0
   .have hw':(ej Q != 0)=true:=by rw[bne,hw];rfl
    simp[vS,hA,jS,hB,hW,hw']
   .have hw':(ej Q != 0)=false:=by rw[bne,hw];rfl
    cases hq:eI fC [] Q
    .rw[hq]at hl
     simp[vS,hA,jS,hB,hW,hw',hl]
    .rw[hq]at hl
     cases hc:(!cl||(Q.length:Int)==0)
     .simp[vS,hA,jS,hB,hW,hw',hl,hc]
     .simp[vS,hA,jS,hB,hW,hw',hl,hc,hV]
  .simp[vS,hA,jS,hB]
 .unfold v7 at hA
  simp only at hA;simp[vS,hA,jS]
theorem UZ(nm:D)(k sz ot:Int)(s:S)(hs:s.sm):
  ev P (.call gr [.d (.ag [nm,I' k,I' sz,I' ot]),.d (.ag s.row)] [])=some (.val (.d (I' (ck (gZ k sz ot) (DF sz s)))) []):=by
 have hv:=alX nm k sz ot s hs;rw[au XE rfl];unfold ck;cases hm:gZ k sz ot==0
 .have hm':gZ k sz ot≠0:=by simpa using hm
  have hm2:(gZ k sz ot != 0)=true:=by simpa using hm'
  simp[EG,Ff,hm',hm2,ct]
 .have hm':gZ k sz ot=0:=by simpa using hm
  generalize DF sz s=b at *;cases b<;>simp[EG,Ff,hm',gn,hv]
end Go.VS.Sp
namespace Go.VS.Sp
def fF(pre:List W)(w:W):Bool:=!(pre.any (λx=>x.task==w.task)||w.op != 74||w.value != 0||w.case != -1)
theorem alY(d0 d1 d2 d3 d5 d6 d7 d8:D)(qn:Bool)(Q:List W)(hn:Q.length<=1000000):∀(suf pre:List W),Q=pre++suf ->
  ev P (.loop 0 [1,9,10,11] E2 [(1,.d (.ref [d0,d1,d2,d3,qD qn Q,d5,d6,d7,d8])),(9,.d (qD qn Q)),(10,.d (I' Q.length)),(11,.d (I' pre.length))] []) =
   if eI fF pre suf=true then some (.out (.exit 0) [(1,.d (.ref [d0,d1,d2,d3,qD qn Q,d5,d6,d7,d8]))] [])else some (.out .ret [(2,.d (.b false))] []):=by
 intro suf;induction suf with
 |nil =>
  intro pre hl
  have:Q.length=pre.length:=by simp[hl]
  rw[bT]
  conv=>lhs;arg 4;unfold E2
  simp[this,eI]
 |cons w suf ih =>
  intro pre hl;have hg:Q[pre.length]?=some w:=by simp[hl]
  have hlt:(pre.length:Int)<Q.length:=by simp[hl];omega
  have hnext:IntKind.i64.wrap ((pre.length:Int)+1)=pre.length+1:=wrap_i64 (by omega) (by omega)
  have bD:=ih (pre++[w]) (by simp[hl])
  have hF:=lD qn Q w.task hn;have mT:=fd_eq (pre:=pre) (w:=w) (r:=suf);rw[<-hl]at mT;generalize ju Q w.task=p at *;obtain⟨p1,p2⟩:=p;simp only at mT;have hb:(p1 != (pre.length:Int))=pre.any λx=>x.task==w.task:=by rw[bne,mT];simp
  generalize hR:(if eI fF (pre++[w]) suf=true then some (dN.out (.exit 0) [(1,V.d (.ref [d0,d1,d2,d3,qD qn Q,d5,d6,d7,d8]))] [])else some (.out .ret [(2,.d (.b false))] []))=R at bD
  rw[bT]
  conv=>lhs;arg 4;unfold E2
  cases hf:(p1 != (pre.length:Int)||w.op != 74||w.value != 0||w.case != -1)
  .have hq:eI fF pre (w::suf)=eI fF (pre++[w]) suf:=by
    rw[hb]at hf;simp only[eI,fF,hf,PL,Ao]
   rw[hq,hR];simp at bD;simp[hlt,hg,W.row,hF,hf,hnext];exact bD
  .have hq:eI fF pre (w::suf)=false:=by
    rw[hb]at hf;simp only[eI,fF,hf,Bool.not_true,Ap]
   rw[hq];simp[hlt,hg,W.row,hF,hf]
theorem alZ(d0 d1 d2 d3 d5 d6 d7 d8:D)(qn:Bool)(Q:List W)(hn:Q.length<=1000000):ev P (.call Ls [.d (.ag [d0,d1,d2,d3,qD qn Q,d5,d6,d7,d8])] [])=some (.val (.d (.b (eI fF [] Q&&ej Q==0))) []):=by
 have hl:=alY d0 d1 d2 d3 d5 d6 d7 d8 qn Q hn Q [] rfl;simp at hl;have hW:=uI qn Q;rw[au X5 rfl];cases hq:eI fF [] Q
 .rw[hq]at hl
  simp[HQ,hl]
 .rw[hq]at hl
  cases hw:ej Q==0<;>simp[HQ,hl,hW,hw]
theorem al0{own cnt time val:Int}{hn qn bn cn cl:Bool}{H B:List Int}{Q:List W}{C:List K}:ev P (.call Lr [.d (.ag [I' own,I' cnt,I' time,hD hn H,qD qn Q,hD bn B,cD cn C,.b cl,I' val])] [])=some (.val (.d (.b (uP ⟨own,cnt,time,hn,H,qn,Q,bn,B,cn,C,cl,val⟩))) []):=by
 rw[au X4 rfl];unfold uP;simp[MD,Ye]
def DG(s:S):Bool:=uP s&&(num s.val&&((eI fF [] s.Q&&ej s.Q==0)&&(if s.cl then(s.Q.length:Int)==0 else s.val==0)))
theorem al1(s:S)(hs:s.sm):ev P (.call K5 [.d (.ag s.row)] [])=some (.val (.d (.b (DG s))) []):=by
 obtain⟨own,cnt,time,hn,H,qn,Q,bn,B,cn,C,cl,val⟩:=s;have h3:=hs.q;simp only at h3;have hP:=al0 (own:=own) (cnt:=cnt) (time:=time) (val:=val) (hn:=hn) (qn:=qn) (bn:=bn) (cn:=cn) (cl:=cl) (H:=H) (B:=B) (C:=C) (Q:=Q);have hQ:=alZ (I' own) (I' cnt) (I' time) (hD hn H) (hD bn B) (cD cn C) (.b cl) (I' val) qn Q (by omega)
 unfold DG;simp only;generalize uP ⟨own,cnt,time,hn,H,qn,Q,bn,B,cn,C,cl,val⟩=pl at *;generalize (eI fF [] Q&&ej Q==0)=qq at *;rw[au XX rfl];cases pl
 .simp[y9,hP]
 .cases hv:num val
  .simp[y9,hP,CW,hv]
  .cases qq
   .simp[y9,hP,CW,hv,hQ]
   .cases cl<;>simp[y9,hP,CW,hv,hQ]
theorem al2(nm:D)(k sz ot:Int)(s:S)(hs:s.sm):
  ev P (.call qm [.d (.ag [nm,I' k,I' sz,I' ot]),.d (.ag s.row)] [])=some (.val (.d (I' (ck (dR 9 k sz ot) (DG s)))) []):=by
 have hv:=al1 s hs;rw[au XH rfl];unfold ck;cases hm:dR 9 k sz ot==0
 .have hm':dR 9 k sz ot≠0:=by simpa using hm
  have hm2:(dR 9 k sz ot != 0)=true:=by simpa using hm'
  simp[EI,Fe,hm',hm2,ct]
 .have hm':dR 9 k sz ot=0:=by simpa using hm
  generalize DG s=b at *;cases b<;>simp[EI,Fe,hm',gn,hv]
end Go.VS.Sp
namespace Go.VS.M
open Go.VS.Sp
def cW(n:Int):Bool:=decide (0<=n)&&decide (n<16)
theorem gh(n:Int):ev P (.call He [.d (I' n)] [])=some (.val (.d (.b (cW n))) []):=by
 rw[au XK rfl];simp[L3,cW]
def kI(w:Sp.W):Bool:=(decide (w.task<0)||decide (16<=w.task)||decide (w.op<1)||decide (99<w.op)||decide (w.value < -1099511627776)||decide (1099511627776<w.value))
def dL(w:Sp.W):Bool:=!kI w&&(decide (0<=w.prio)&&decide (w.prio<=9)&&decide (-1<=w.case)&&decide (w.case<6))
theorem Fb(a b c d e:Int):ev P (.call Et [.d (.ag [I' a,I' b,I' c,I' d,I' e])] [])=some (.val (.d (.b (dL ⟨a,b,c,d,e⟩))) []):=by
 rw[au SE rfl];cases h:kI ⟨a,b,c,d,e⟩<;>simp only[dL,h]<;>unfold kI at h<;>simp[HN,Sp.W.row,h]
def fU(d:Int)(prev:Option Sp.W):List Sp.W->Int
 | []=>0
 |w::r=>if dL w=false then 2 else if d=2/\(prev.any λp=>decide (p.prio<w.prio))=true then 9 else fU d (some w) r
theorem vY:IntKind.i64.wrap 1=1:=by decide
theorem Fc(d:Int)(nl:Bool)(l:List Sp.W)(hn:l.length<=96):∀(suf pre:List Sp.W),l=pre++suf ->
  ev P (.loop 0 [0,1,16,17,18] vR [(0,.d (I' d)),(1,.d (.sl 5 nl (l.map Sp.W.row))),(16,.d (.sl 5 nl (l.map Sp.W.row))),(17,.d (I' l.length)),(18,.d (I' pre.length))] []) =
   if fU d pre.getLast? suf=0 then some (.out (.exit 0) [] [])else some (.out .ret [(4,.d (I' (fU d pre.getLast? suf)))] []):=by
 intro suf;induction suf with
 |nil =>
  intro pre hl
  have:l.length=pre.length:=by simp[hl]
  rw[bT]
  conv=>lhs;arg 4;unfold vR
  simp[this,fU]
 |cons w suf ih =>
  intro pre hl;have hg:l[pre.length]?=some w:=by simp[hl]
  have hlt:(pre.length:Int)<l.length:=by simp[hl];omega
  rw[bT]
  conv=>lhs;arg 4;unfold vR
  simp[hlt,hg,Sp.W.row,Fb];cases hv:dL w
  .simp[fU,hv]
  .simp
   have hnext:IntKind.i64.wrap ((pre.length:Int)+1)=pre.length+1:=wrap_i64 (by omega) (by omega)
   have bD:=ih (pre++[w]) (by simp[hl])
   simp at bD;rcases Aq pre with rfl |⟨pre',p,rfl⟩
   .simp[fU,hv,vY]at *
    exact bD
   .have mC:l[pre'.length]?=some p:=by simp[hl]
    have hlen:((pre'.length:Int)+1<l.length):=by simp[hl];omega
    have hw:IntKind.i64.wrap ((pre'.length:Int)+1 - 1)=pre'.length:=by rw[wrap_i64 (by omega) (by omega)];omega
    have h0:(0:Int)<pre'.length+1:=by omega
    have dO:IntKind.i64.wrap (pre'.length:Int)=pre'.length:=wrap_i64 (by omega) (by omega)
    have jS:IntKind.i64.wrap ((pre'.length:Int)+1+1)=pre'.length+1+1:=wrap_i64 (by omega) (by omega)
    simp at bD;by_cases hd:d=2
    .by_cases hp:p.prio<w.prio
     .subst hd
      simp[fU,hv,hp,dO,jS,mC,Sp.W.row,h0]
     .subst hd
      simp[fU,hv,hp,dO,jS,mC,Sp.W.row,h0];exact bD
    .have hd2:(d==2)=false:=by simp[hd]
     simp[fU,hv,hd,hd2,dO,jS,mC,Sp.W.row,h0];exact bD
def ej(l:List Sp.W):Int:=if 96<l.length then 4 else fU 2 none l
theorem uI(nl:Bool)(l:List Sp.W):ev P (.call qo [.d (I' 2),.d (.sl 5 nl (l.map Sp.W.row))] []) =
  some (.val (.d (I' (ej l))) []):=by
 unfold ej;rw[au MS rfl];by_cases h:96<l.length
 .have h':(96:Int)<l.length:=by omega
  simp[y8,h,h']
 .have h':¬(96:Int)<l.length:=by omega
  have hl:=Fc 2 nl l (by omega) l [] rfl
  simp at hl;simp[y8,h,h',hl];by_cases hc:fU 2 none l=0<;>simp[hc]
theorem ze:∀(ds:List D),fA (ds.map V.d)=some ds
 | []=>rfl
 |d::ds=>by simp[ze ds]
theorem th{a b:List D}{x:D}:fA (a.map V.d++.d x::b.map V.d)=some (a++x::b):=by
 have:=ze (a++x::b);simpa using this
def idx(p:Sp.W->Bool):Int->List Sp.W->Int
 |_,[]=>-1
 |k,w::r=>if p w then k else idx p (k+1) r
theorem SK{f:Nat}{first caps:List D}{p:Sp.W->Bool}(nl:Bool)(l:List Sp.W)(hn:l.length<=1000000)
  (hp:∀a b c d e,ev P (.call f (first.map V.d++[.d (.ag [I' a,I' b,I' c,I' d,I' e])]++caps.map V.d) [])=some (.val (.d (.b (p ⟨a,b,c,d,e⟩))) [])):
  ∀(suf pre:List Sp.W),l=pre++suf ->
  ev P (.loop 0 [0,1,7,8] vQ [(0,.d (.sl 5 nl (l.map Sp.W.row))),(1,.d (.fn f first caps)),(7,.d (I' l.length)),(8,.d (I' pre.length))] []) =
   if idx p pre.length suf = -1 then some (.out (.exit 0) [] [])else some (.out .ret [(4,.d (I' (idx p pre.length suf)))] []):=by
 intro suf;induction suf with
 |nil =>
  intro pre hl
  have:l.length=pre.length:=by simp[hl]
  rw[bT]
  conv=>lhs;arg 4;unfold vQ
  simp[this,idx]
 |cons w suf ih =>
  intro pre hl;have hg:l[pre.length]?=some w:=by simp[hl]
  have hlt:(pre.length:Int)<l.length:=by simp[hl];omega
  have hnext:IntKind.i64.wrap ((pre.length:Int)+1)=pre.length+1:=wrap_i64 (by omega) (by omega)
  have bD:=ih (pre++[w]) (by simp[hl])
  simp at bD hp;rw[bT]
  conv=>lhs;arg 4;unfold vQ
  simp[hlt,hg,Sp.W.row,hp,th];cases hw:p w
  .simp[idx,hw,hnext]
   exact bD
  .have:¬(pre.length:Int) = -1:=by omega
   simp[idx,hw,this]
theorem Ic{f:Nat}{first caps:List D}{p:Sp.W->Bool}(nl:Bool)(l:List Sp.W)(hn:l.length<=1000000)
  (hp:∀a b c d e,ev P (.call f (first.map V.d++[.d (.ag [I' a,I' b,I' c,I' d,I' e])]++caps.map V.d) [])=some (.val (.d (.b (p ⟨a,b,c,d,e⟩))) [])):
  ev P (.call xN [.d (.sl 5 nl (l.map Sp.W.row)),.d (.fn f first caps)] [])=some (.val (.d (I' (idx p 0 l))) []):=by
 rw[au MR rfl];have hl:=SK nl l hn hp l [] rfl;simp at hl;simp[EJ,hl];by_cases hc:idx p 0 l = -1<;>simp[hc]
theorem A4{p:Sp.W->Bool}:∀{l:List Sp.W}{k:Int},0<=k->(0<=idx p k l↔l.any p=true)
 | [],k,_=>by simp[idx]
 |w::r,k,hk=>by
  by_cases hw:p w=true
  .simp[idx,hw,hk]
  .simp[idx,hw,A4 (l:=r) (k:=k+1) (by omega)]
theorem A5{f:Nat}{first caps:List D}{p:Sp.W->Bool}(nl:Bool)(l:List Sp.W)(hn:l.length<=1000000)
  (hp:∀a b c d e,ev P (.call f (first.map V.d++[.d (.ag [I' a,I' b,I' c,I' d,I' e])]++caps.map V.d) [])=some (.val (.d (.b (p ⟨a,b,c,d,e⟩))) [])):
  ev P (.call ur [.d (.sl 5 nl (l.map Sp.W.row)),.d (.fn f first caps)] [])=some (.val (.d (.b (l.any p))) []):=by
 rw[au Sy rfl];have hi:=Ic nl l hn hp;simp[HA,hi];have:=A4 (p:=p) (l:=l) (k:=0) (by omega)
 cases ha:l.any p
 .have hc:¬0<=idx p 0 l:=λh=>by rw[this.1 h]at ha;cases ha
  simp[hc]
 .have hc:0<=idx p 0 l:=this.2 ha
  simp[hc]
theorem al3(t a b c d e:Int):ev P (.call Lc [.d (.ag [I' a,I' b,I' c,I' d,I' e]),.d (.ref [I' t])] [])=some (.val (.d (.b (a==t))) []):=by
 rw[au aeI rfl];simp[RY]
theorem M7(a b c d e a' b' c' d' e':Int):ev P (.call K9 [.d (.ag [I' a,I' b,I' c,I' d,I' e]),.d (.ref [I' a',I' b',I' c',I' d',I' e'])] [])=some (.val (.d (.b (a==a'))) []):=by
 rw[au aeH rfl];simp[RX]
theorem al4{own cnt time:Int}{h1 h2 h3:D}{qn:Bool}{q:List Sp.W}{cl:Bool}{val:Int}(t:Int)(hn:q.length<=1000000):
  ev P (.call KQ [.d (.ag [I' own,I' cnt,I' time,h1,.sl 5 qn (q.map Sp.W.row),h2,h3,.b cl,I' val]),.d (I' t)] [])=some (.val (.d (.b (q.any λw=>w.task==t))) []):=by
 rw[au adZ rfl];have:=A5 (f:=Lc) (first:=[]) (caps:=[.ref [I' t]]) (p:=λw=>w.task==t) qn q hn (by intro a b c d e;simp[al3])
 simp[Rz,this]
theorem bk{α β:Type}{f:α->β}{r:List α}:List.take r.length (r.map f)=r.map f:=gE (by simp)
def Ge(own:Int)(w:Sp.W):Bool:=w.op != 50||w.value != 0||w.case != -1||w.task==own
def w8(own:Int):List Sp.W->List Sp.W->Bool
 |_,[]=>true
 |pre,w::r=>!Ge own w&&!pre.any (λx=>x.task==w.task)&&w8 own (pre++[w]) r
theorem U0{own cnt time:Int}{h1 h2 h3:D}{cl:Bool}{val:Int}(nl:Bool)(l:List Sp.W)(hn:l.length<=1000000):
  ∀(suf pre:List Sp.W),l=pre++suf ->
  ev P (.loop 0 [1,61,62,63] EK [(1,.d (.ref [I' own,I' cnt,I' time,h1,.sl 5 nl (l.map Sp.W.row),h2,h3,.b cl,I' val])),(61,.d (.sl 5 nl (l.map Sp.W.row))),(62,.d (I' l.length)),(63,.d (I' pre.length))] []) =
   if w8 own pre suf=true then some (.out (.exit 0) [] [])else some (.out .ret [(2,.d (.b false))] []):=by
 intro suf;induction suf with
 |nil =>
  intro pre hl
  have:l.length=pre.length:=by simp[hl]
  rw[bT]
  conv=>lhs;arg 4;unfold EK
  simp[this,w8]
 |cons w suf ih =>
  intro pre hl;have hg:l[pre.length]?=some w:=by simp[hl]
  have hlt:(pre.length:Int)<l.length:=by simp[hl];omega
  have hnext:IntKind.i64.wrap ((pre.length:Int)+1)=pre.length+1:=wrap_i64 (by omega) (by omega)
  have bD:=ih (pre++[w]) (by simp[hl])
  have hsub:(l.map Sp.W.row).take pre.length=pre.map Sp.W.row:=by simp[hl]
  have hle:pre.length<=l.length:=by simp[hl]
  have hc:=A5 (f:=K9) (first:=[]) (caps:=[.ref w.row]) (p:=λx=>x.task==w.task) nl pre (by have:pre.length<=l.length:=by{simp[hl]};omega) (by intro a b c d e;simp[Sp.W.row,M7])
  simp[Sp.W.row]at bD hc;rw[bT]
  conv=>lhs;arg 4;unfold EK
  simp[hlt,hg,Sp.W.row,hsub];cases hq:(w.op != 50||w.value != 0||w.case != -1||w.task==own)
  .simp[hg,hlt,Sp.W.row,hsub,hc,hle]
   have kg:Ge own w=false:=hq;cases ha:pre.any λx=>x.task==w.task
   .simp only[ha,kg,w8,PL,Ao]
    simp[hnext];exact bD
   .simp only[ha,kg,w8,PL,Bool.not_true,Ao,Ap]
    simp
  .have kg:Ge own w=true:=hq
   simp[kg,w8]
end Go.VS.M
namespace Go.VS.M
open Go.VS.Sp
abbrev bW(l:List Int):List (List D):=l.map λx=>[I' x]
abbrev hD(n:Bool)(l:List Int):D:=.sl 1 n (bW l)
abbrev qD(n:Bool)(l:List Sp.W):D:=.sl 5 n (l.map Sp.W.row)
abbrev cD(n:Bool)(l:List (List D)):D:=.sl 2 n l
def jK(own cnt time:Int)(hs:List Int)(q:List Sp.W)(bs:List Int)(cs:List (List D))(cl:Bool)(val:Int):Bool :=
 !((own != -1&&!cW own)||(own == -1&&decide (0<q.length)))&&!(cnt != 0||time != 0||val != 0||cl||decide ((0:Int)<hs.length+bs.length+cs.length))&&ej q==0&&w8 own [] q
theorem U1(own cnt time:Int)(hn:Bool)(hs:List Int)(qn:Bool)(q:List Sp.W)(bn:Bool)(bs:List Int)(cn:Bool)(cs:List (List D))(cl:Bool)(val:Int)
  (h1:hs.length<=1000000)(h2:q.length<=1000000)(h3:bs.length<=1000000)(h4:cs.length<=1000000):
  ev P (.call KP [.d (.ag [I' own,I' cnt,I' time,hD hn hs,qD qn q,hD bn bs,cD cn cs,.b cl,I' val])] [])=some (.val (.d (.b (jK own cnt time hs q bs cs cl val))) []):=by
 rw[au XJ rfl];have hl:=U0 (own:=own) (cnt:=cnt) (time:=time) (h1:=hD hn hs) (h2:=hD bn bs) (h3:=cD cn cs) (cl:=cl) (val:=val) qn q h2 q [] rfl;simp at hl;simp[EL,gh];cases hA:(own != -1&&!cW own||own == -1&&decide (0<q.length))
 .simp
  rw[wrap_i64 (x:=(hs.length:Int)+bs.length) (by omega) (by omega),wrap_i64 (x:=(hs.length:Int)+bs.length+cs.length) (by omega) (by omega)]
  cases hB:(cnt != 0||time != 0||val != 0||cl||decide ((0:Int)<hs.length+bs.length+cs.length))
  .simp[uI]
   cases hC:ej q==0
   .have rL:(ej q != 0)=true:=by simp[bne,hC]
    simp only[rL,jK,hA,hB,hC];simp
   .have rL:(ej q != 0)=false:=by simp[bne,hC]
    simp only[rL,jK,hA,hB,hC];simp[hl];cases w8 own [] q<;>simp
  .simp[jK,hA,hB]
 .simp[jK,hA]
def dQ(k sz ot:Int):Int:=if(k != 1)=true then 8 else if(sz != 0||ot != 0)=true then 2 else 0
def ct:List D:=[I' 0,I' 0,I' 0,hD true [],qD true [],hD true [],cD true [],.b false,I' 0]
def gn:List D:=[I' (-1),I' 0,I' 0,hD true [],qD true [],hD true [],cD true [],.b false,I' 0]
theorem tj(nm:D)(k sz ot:Int):ev P (.call sX [.d (.ag [nm,I' k,I' sz,I' ot])] []) =
  some (.val (.tu [.d (.ag (if dQ k sz ot=0 then gn else ct)),.d (I' (dQ k sz ot))]) []):=by
 rw[au Xx rfl];cases h1:k != 1<;>simp only[dQ,h1]
 .cases h2:sz != 0||ot != 0<;>simp[EA,h1,h2,gn,ct]
 .simp[EA,h1,ct]
theorem qu(nm:D)(k sz ot:Int)(own cnt time:Int)(hn:Bool)(hs:List Int)(qn:Bool)(q:List Sp.W)(bn:Bool)(bs:List Int)(cn:Bool)(cs:List (List D))(cl:Bool)(val:Int)
  (h1:hs.length<=1000000)(h2:q.length<=1000000)(h3:bs.length<=1000000)(h4:cs.length<=1000000):
  ev P (.call ql [.d (.ag [nm,I' k,I' sz,I' ot]),.d (.ag [I' own,I' cnt,I' time,hD hn hs,qD qn q,hD bn bs,cD cn cs,.b cl,I' val])] []) =
   some (.val (.d (I' (if dQ k sz ot=0 then(if jK own cnt time hs q bs cs cl val then 0 else 1)else dQ k sz ot))) []):=by
 have hv:=U1 own cnt time hn hs qn q bn bs cn cs cl val h1 h2 h3 h4;rw[au Xy rfl];cases hm:dQ k sz ot==0
 .have hm':dQ k sz ot≠0:=by simpa using hm
  have hm2:(dQ k sz ot != 0)=true:=by simpa using hm'
  simp[EB,tj,hm',hm2,ct]
 .have hm':dQ k sz ot=0:=by simpa using hm
  simp[EB,tj,hm',gn,hv];cases jK own cnt time hs q bs cs cl val<;>simp
end Go.VS.M
namespace Go.VS.M
open Go.VS.Sp
theorem Sp.W.neq{w w':Sp.W}(h:¬w=w'):(!w.task==w'.task||(!w.op==w'.op||(!w.value==w'.value||(!w.prio==w'.prio||!w.case==w'.case))))=true:=by
 cases hb:(!w.task==w'.task||(!w.op==w'.op||(!w.value==w'.value||(!w.prio==w'.prio||!w.case==w'.case))))
 .exfalso;apply h
  simp at hb;cases w;cases w';simp at hb⊢;exact hb
 .rfl
end Go.VS.M
namespace Go.VS.M
open Go.VS.Sp
end Go.VS.M
namespace Go.VS.M
open Go.VS.Sp
def sM(q:List Sp.W):Prop:=q.Pairwise λa b=>b.prio<=a.prio
def gD(p:Int)(q:List Sp.W):Nat:=(q.takeWhile λw=>decide (p<=w.prio)).length
theorem U2(p:Int):∀(q:List Sp.W),gD p q<=q.length
 | []=>by simp[gD]
 |w::q=>by
  have:=U2 p q;unfold gD at *;simp only[oz];split<;>simp;omega
theorem Jp{p:Int}{w:Sp.W}:∀{q:List Sp.W}{k:Nat},sM q->q[k]?=some w->(k<gD p q↔p<=w.prio)
 | [],k,_,h=>by simp at h
 |a::q,0,_,h=>by
  have:a=w:=by simpa using h
  subst this;by_cases hp:p<=a.prio<;>simp[gD,oz,hp]
 |a::q,k+1,hd,h=>by
  have hd':=gI.1 hd;have hq:q[k]?=some w:=by simpa using h
  have hw:w∈q:=kY hq;have h1:=hd'.1 w hw;have ih:=Jp (p:=p) (k:=k) hd'.2 hq;by_cases hp:p<=a.prio
  .have:gD p (a::q)=gD p q+1:=by simp[gD,oz,hp]
   rw[this];constructor<;>intro h3
   .exact ih.1 (by omega)
   .have:=ih.2 h3;omega
  .have:gD p (a::q)=0:=by simp[gD,oz,hp]
   rw[this];constructor<;>intro h3<;>omega
theorem Ih(n:Int):ev P (.call AO [.d (I' n)] [])=some (.val (.d (.b false)) []):=by
 rw[au SJ rfl];simp[HV]
theorem al5(a b c d e p:Int):ev P (.call Eu [.d (.ag [I' a,I' b,I' c,I' d,I' e]),.d (I' p)] [])=some (.val (.d (I' (if p<=d then -1 else 1))) []):=by
 have hc:d<p->ev P (.call Q9 [.d (I' p),.d (I' d)] [])=some (.val (.d (I' 1)) []):=by
  intro h;have h1:¬p<d:=by omega
  rw[au afb rfl];simp[Sl,Ih,h1,h]
 rw[au afa rfl];by_cases h:p<=d
 .simp[ME,h]
 .simp[ME,h,hc (by omega)]
theorem Fh{i j:Nat}(h:i+j<=4000000):IntKind.i64.wrap ((IntKind.u64.wrap ((i:Int)+j)).fdiv (2 ^ min 1 IntKind.u64.bits))=(((i+j) / 2:Nat):Int):=by
 have h1:IntKind.u64.wrap ((i:Int)+j)=(i:Int)+j:=by
  have e0:IntKind.u64.bits=64:=rfl;simp only[IntKind.wrap,e0,IntKind.signed,Ap,eR,dG];omega
 have h2:(2:Int) ^ min 1 IntKind.u64.bits=2:=by decide
 rw[h1,h2,Pk _ (by omega),wrap_i64 (by omega) (by omega)]
 omega
theorem al6(nl:Bool)(q:List Sp.W)(p:Int)(hn:q.length<=1000000)(hd:sM q):∀(n i j:Nat),j - i<=n->i<=gD p q->gD p q<=j->j<=q.length ->
  ev P (.loop 0 [0,1,2,8,9,10] HR [(0,.d (qD nl q)),(1,.d (I' p)),(2,.d (.fn Eu [] [])),(8,.d (I' q.length)),(9,.d (I' i)),(10,.d (I' j))] []) =
   some (.out (.exit 0) [(0,.d (qD nl q)),(1,.d (I' p)),(2,.d (.fn Eu [] [])),(8,.d (I' q.length)),(9,.d (I' (gD p q)))] []):=by
 intro n;induction n with
 |zero =>
  intro i j h1 h2 h3 h4
  have:i=gD p q:=by omega
  have:j=gD p q:=by omega
  subst i;subst j;rw[bT]
  conv=>lhs;arg 4;unfold HR
  simp
 |succ n ih =>
  intro i j h1 h2 h3 h4;by_cases hij:i=j
  .have:i=gD p q:=by omega
   have:j=gD p q:=by omega
   subst i;subst j;rw[bT]
   conv=>lhs;arg 4;unfold HR
   simp
  .have hlt:i<j:=by omega
   have hw1:IntKind.i64.wrap ((i:Int)+j)=i+j:=wrap_i64 (by omega) (by omega)
   rw[bT]
   conv=>lhs;arg 4;unfold HR
   have hm:=Fh (i:=i) (j:=j) (by omega)
   generalize zg:(i+j) / 2=m at hm;have hm1:i<=m:=by omega
   have hm2:m<j:=by omega
   obtain⟨w,hw⟩:∃w,q[m]?=some w:=⟨q[m]'(by omega),by simp⟩
   have hb:=Jp (p:=p) hd hw;have CX:IntKind.i64.wrap ((m:Int)+1)=m+1:=wrap_i64 (by omega) (by omega)
   simp[hlt,hw1,hm,hw,Sp.W.row,al5];by_cases hp:p<=w.prio
   .simp[hp,CX]
    have:=ih (m+1) j (by omega) (by omega) (by omega) h4
    simpa using this
   .simp[hp]
    exact ih i m (by omega) (by omega) (by omega) (by omega)
theorem al7(nl:Bool)(q:List Sp.W)(p:Int)(hn:q.length<=1000000)(hd:sM q):
  ev P (.call Q8 [.d (qD nl q),.d (I' p),.d (.fn Eu [] [])] [])=some (.val (.tu [.d (I' (gD p q)),.d (.b false)]) []):=by
 rw[au ae9 rfl];have hb:=U2 p q;have hl:=al6 nl q p hn hd q.length 0 q.length (by omega) (by omega) hb (by omega)
 simp at hl;simp[Sk,hl];by_cases h:gD p q<q.length
 .obtain⟨w,hw⟩:∃w,q[gD p q]?=some w:=⟨q[gD p q],by simp⟩
  have kK:=Jp (p:=p) hd hw;have hp:¬p<=w.prio:=λh=>by have:=kK.2 h;omega
  simp[h,hw,Sp.W.row,al5,hp];split<;>decide
 .simp[h]
theorem w9(nl:Bool)(q:List Sp.W)(gm:nl=true->q=[])(hn:q.length<=1000000):
  ev P (.call sv [.d (qD nl q)] [])=if nl=true then some (.val (.d (.sl 5 true [])) [])else some (.val (.aQ 0 0 q.length) [.aG 5 true (q.map Sp.W.row)]):=by
 rw[au MT rfl];cases nl
 .have hr:q.length<=room:=by unfold room;omega
  cases q with
  |nil=>simp[qp,eK,fO,ak,cut,av]
  |cons a r =>
   simp at hr;simp[qp,eK,fO,ak,cut,hr,av]
 .simp[qp,av]
end Go.VS.M
namespace Go.VS.M
open Go.VS.Sp
structure Rp where
 own:Int
 q:List Sp.W
 parked:Bool
 ok:Bool
 wk:Option Int
 e:Int
 deriving DecidableEq
def zr(e:Int):Rp:=⟨0,[],false,false,none,e⟩
def U3(t:Int):List D:=[I' t,I' 50,I' 0,.b true,I' (-1)]
def U4:Option Int->List (List D)
 |none=>[]
 |some t=>[U3 t]
@[simp] theorem al8:U4 none=[]:=rfl
@[simp] theorem al9(t:Int):U4 (some t)=[U3 t]:=rfl
abbrev OD(hn qn bn cn:Bool)(own:Int)(q:List Sp.W):List D:=[I' own,I' 0,I' 0,hD hn [],qD qn q,hD bn [],cD cn [],.b false,I' 0]
abbrev rpL(hn qn bn cn wn:Bool)(r:Rp):List D :=
 [I' r.own,I' 0,I' 0,hD hn [],qD qn r.q,hD bn [],cD cn [],.b false,I' 0,.b r.parked,I' 0,.b r.ok,.sl 5 wn (U4 r.wk)]
def jL(x:Option dN)(r:Rp):Prop:=∃hn qn bn cn wn,x=some (.val (.tu [.d (.ag (rpL hn qn bn cn wn r)),.d (I' r.e)]) [])/\(qn=true->r.q=[])
def jc(own:Int)(q:List Sp.W)(t p:Int):Rp :=
 if(own == -1)=true then⟨t,q,false,true,none,0⟩
 else if(own==t)=true then zr 17
 else⟨own,q.take (gD p q)++⟨t,50,0,p,-1⟩::q.drop (gD p q),true,false,none,0⟩
def BF(own:Int)(q:List Sp.W)(t:Int):Rp :=
 if(own != t)=true then zr 20
 else match q with
  | []=>⟨-1,[],false,true,none,0⟩
  |w::r=>⟨w.task,r,false,true,some w.task,0⟩
theorem ama(hn qn bn cn:Bool)(own:Int)(q:List Sp.W)(t o v p n:Int)(gm:qn=true->q=[])(hq:q.length<=1000000)(hd:sM q):
  jL (ev P (.call Ho [.d (.ag (OD hn qn bn cn own q)),.d (.ag [I' t,I' o,I' v,I' p,I' n])] [])) (jc own q t p):=by
 unfold jc;cases h1:own == -1
 .cases h2:own==t
  .refine⟨hn,false,bn,cn,true,?_,by simp⟩
   have hb:=U2 p q;have hB:=al7 qn q p hq hd;have hC:=w9 qn q gm hq;rw[au SB rfl];have hI:=Cn afB (p:=lZ 5) rfl;cases qn
   .have hr:q.length+1<=room:=by unfold room;omega
    simp at hC;have e1:q.length+1<=gD p q+(q.length - gD p q+1):=by omega
    have e2:∀x:List D,List.take (q.length+1) (List.take (gD p q) (q.map Sp.W.row)++x::List.drop (gD p q) (q.map Sp.W.row))=List.take (gD p q) (q.map Sp.W.row)++x::List.drop (gD p q) (q.map Sp.W.row):=
     λx=>gE (by simp;omega)
    simp[EY,h1,h2,hB,hC,aI,az,hI,lZ,ak,cut,jR,hb,hr,sub,aD,back,bk,e1,e2,Sp.W.row]
   .have:q=[]:=gm rfl
    subst this;simp at hC;have e1:gD p []=0:=rfl;have e2:1<=room:=by decide
    simp[EY,h1,h2,hB,hC,aI,az,hI,lZ,ak,cut,jR,e1,e2,back,aD,Sp.W.row]
  .refine⟨true,true,true,true,true,?_,by simp[zr]⟩
   rw[au SB rfl];simp[EY,h1,h2,zr]
 .refine⟨hn,qn,bn,cn,true,?_,by simpa using gm⟩
  rw[au SB rfl];simp[EY,h1]
theorem amb(hn qn bn cn:Bool)(own:Int)(q:List Sp.W)(t o v p n:Int)(gm:qn=true->q=[])(hq:q.length<=1000000):
  jL (ev P (.call Lb [.d (.ag (OD hn qn bn cn own q)),.d (.ag [I' t,I' o,I' v,I' p,I' n])] [])) (BF own q t):=by
 unfold BF;cases h1:own != t
 .cases q with
  |nil =>
   refine⟨hn,qn,bn,cn,true,?_,by simp⟩
   rw[au SC rfl];simp[HM,h1]
  |cons w r =>
   have jY:qn=false:=by cases qn;rfl;simp at gm
   subst jY;have hC:=w9 false r (by simp) (by simp at hq;omega)
   have hz:(((r.length:Int)+1)==0)=false:=by simp;omega
   refine⟨hn,false,bn,cn,false,?_,by simp⟩
   simp at hC;have e1:(1:Int)<=r.length+1:=by omega
   rw[au SC rfl];simp[HM,h1,hz,hC,aI,ak,cut,Sp.W.row,bk,U3,e1]
 .refine⟨true,true,true,true,true,?_,by simp[zr]⟩
  rw[au SC rfl];simp[HM,h1,zr]
def BG(own:Int)(q:List Sp.W)(t p:Int):Rp:=if 0<=own then⟨own,q,false,false,none,0⟩else jc own q t p
theorem amc(hn qn bn cn:Bool)(own:Int)(q:List Sp.W)(t o v p n:Int)(gm:qn=true->q=[])(hq:q.length<=1000000)(hd:sM q):
  jL (ev P (.call La [.d (.ag (OD hn qn bn cn own q)),.d (.ag [I' t,I' o,I' v,I' p,I' n])] [])) (BG own q t p):=by
 unfold BG;by_cases h1:0<=own
 .refine⟨hn,qn,bn,cn,true,?_,by simpa[h1]using gm⟩
  rw[au XZ rfl];simp[Mq,h1]
 .obtain⟨hn',og,DH,DI,wn',he,kg⟩:=ama hn qn bn cn own q t o v p n gm hq hd
  rw[aE h1];refine⟨hn',og,DH,DI,wn',?_,kg⟩;rw[au XZ rfl];simp[Mq,h1,he]
def BH:O:=.mp [(.i .i64 50,.d (.fn Ho [] [])),(.i .i64 51,.d (.fn La [] [])),(.i .i64 52,.d (.fn Lb [] []))]
theorem Gf:ev P (.call Qp [] [])=some (.val (.mp 0) [BH]):=by
 rw[au adY rfl];simp[Rx,av,ak,cut,BH]
def l9(own:Int)(q:List Sp.W)(op t p:Int):Rp :=
 if op≠50/\op≠51/\op≠52 then zr 8
 else if(!cW t||decide (p<0)||decide (9<p))=true then zr 2
 else if q.any (λw=>w.task==t)=true then zr 17
 else if op=50 then jc own q t p
 else if op=51 then BG own q t p
 else BF own q t
theorem amd(nm:D)(hn qn bn cn:Bool)(own:Int)(q:List Sp.W)(t o v p n:Int)(gm:qn=true->q=[])(hq:q.length<=1000000)(hd:sM q)
  (hv:jK own 0 0 [] q [] [] false 0=true):
  jL (ev P (.call yW [.d (.ag [nm,I' 1,I' 0,I' 0]),.d (.ag (OD hn qn bn cn own q)),.d (.ag [I' t,I' o,I' v,I' p,I' n])] [])) (l9 own q o t p):=by
 have hC:=qu nm 1 0 0 own 0 0 hn [] qn q bn [] cn [] false 0 (by simp) hq (by simp) (by simp)
 have hm:dQ 1 0 0=0:=by decide
 simp[hv,hm]at hC;have hw:=al4 (own:=own) (cnt:=0) (time:=0) (h1:=hD hn []) (h2:=hD bn []) (h3:=cD cn []) (qn:=qn) (q:=q) (cl:=false) (val:=0) t hq;unfold l9;by_cases h1:o≠50/\o≠51/\o≠52
 .rw[aK h1]
  obtain⟨a1,a2,a3⟩:=h1;refine⟨true,true,true,true,true,?_,by simp[zr]⟩
  rw[au CP rfl];simp[y4,hC,aI,Gf,BH,ak,cut,a1,a2,a3,zr]
 .rw[aE h1]
  have h3:o=50\/o=51\/o=52:=by omega
  cases h2:(!cW t||decide (p<0)||decide (9<p))
  .rw[aE (by simp)]
   cases hW:q.any λw=>w.task==t
   .rw[aE (by simp)]
    rw[hW]at hw;rcases h3 with rfl |rfl |rfl
    .obtain⟨hn',og,DH,DI,wn',he,kg⟩:=ama hn qn bn cn own q t 50 v p n gm hq hd
     refine⟨hn',og,DH,DI,wn',?_,kg⟩;rw[au CP rfl];simp[y4,hC,aI,Gf,BH,ak,cut,gh,h2,hw,he]
    .obtain⟨hn',og,DH,DI,wn',he,kg⟩:=amc hn qn bn cn own q t 51 v p n gm hq hd
     refine⟨hn',og,DH,DI,wn',?_,kg⟩;rw[au CP rfl];simp[y4,hC,aI,Gf,BH,ak,cut,gh,h2,hw,he]
    .obtain⟨hn',og,DH,DI,wn',he,kg⟩:=amb hn qn bn cn own q t 52 v p n gm hq
     refine⟨hn',og,DH,DI,wn',?_,kg⟩;rw[au CP rfl];simp[y4,hC,aI,Gf,BH,ak,cut,gh,h2,hw,he]
   .rw[aK rfl]
    rw[hW]at hw;refine⟨true,true,true,true,true,?_,by simp[zr]⟩
    rcases h3 with rfl |rfl |rfl<;>rw[au CP rfl] <;>
    simp[y4,hC,aI,Gf,BH,ak,cut,gh,h2,hw,zr]
  .rw[aK rfl]
   refine⟨true,true,true,true,true,?_,by simp[zr]⟩
   rcases h3 with rfl |rfl |rfl<;>rw[au CP rfl] <;>
   simp[y4,hC,aI,Gf,BH,ak,cut,gh,h2,zr]
theorem ame(nm k sz ot s0 s1 s2 s3 s4 s5 s6 s7 s8 c0 c1 c2 c3 c4:D)(e:Int)(he:e≠0)
  (hC:ev P (.call ql [.d (.ag [nm,k,sz,ot]),.d (.ag [s0,s1,s2,s3,s4,s5,s6,s7,s8])] [])=some (.val (.d (I' e)) [])):
  jL (ev P (.call yW [.d (.ag [nm,k,sz,ot]),.d (.ag [s0,s1,s2,s3,s4,s5,s6,s7,s8]),.d (.ag [c0,c1,c2,c3,c4])] [])) (zr e):=by
 have he':(e != 0)=true:=by simpa using he
 refine⟨true,true,true,true,true,?_,by simp[zr]⟩
 rw[au CP rfl];simp[y4,hC,he',zr]
end Go.VS.M
namespace Go.VS.M
open Go.VS.Sp
end Go.VS.M
namespace Go.VS.M
open Go.VS.Sp
structure MV(own:Int)(q:List Sp.W):Prop where
 qU:own = -1\/(0<=own/\own<16)
 free:own = -1->q=[]
 desc:sM q
 zV:q.Pairwise λa b=>a.task≠b.task
 all:∀w,w∈q->w.op=50/\w.value=0/\w.case = -1/\w.task≠own/\0<=w.task/\w.task<16/\0<=w.prio/\w.prio<=9
theorem amf(d:Int)(hd:d=2):∀(suf:List Sp.W)(prev:Option Sp.W),fU d prev suf=0↔(∀w,w∈suf->dL w=true)/\(prev.toList++suf).Pairwise (λa b=>b.prio<=a.prio)
 | [],prev=>by cases prev<;>simp[fU]
 |w::r,prev=>by
  have ih:=amf d hd r (some w);unfold fU;cases hv:dL w
  .simp[hv]
  .cases prev with
   |none =>
    simp[hv,hd]at ih⊢;rw[ih]
   |some p =>
    simp only[Option.toList,vG]at ih⊢;by_cases hp:p.prio<w.prio
    .simp[hd,hp]
     omega
    .simp[hd,hp]at ih⊢
     rw[ih];constructor
     .rintro⟨h1,h2,h3⟩
      refine⟨⟨hv,h1⟩,⟨by omega,?_⟩,h2,h3⟩
      intro a ha;have:=h2 a ha;omega
     .rintro⟨⟨_,h1⟩,⟨_,_⟩,h2,h3⟩
      exact⟨h1,h2,h3⟩
theorem amg(own:Int):∀(suf pre:List Sp.W),w8 own pre suf=true↔(∀w,w∈suf->Ge own w=false)/\(∀a,a∈pre->∀b,b∈suf->a.task≠b.task)/\suf.Pairwise (λa b=>a.task≠b.task)
 | [],pre=>by simp[w8]
 |w::r,pre=>by
  have ih:=amg own r (pre++[w]);simp[w8,ih];constructor
  .rintro⟨⟨h1,h2⟩,h3,h4,h5⟩
   refine⟨⟨h1,h3⟩,λa ha=>⟨h2 a ha,λb hb=>h4 a (.inl ha) b hb⟩,λb hb=>h4 w (.inr rfl) b hb,h5⟩
  .rintro⟨⟨h1,h3⟩,h2,h4,h5⟩
   refine⟨⟨h1,λa ha=>(h2 a ha).1⟩,h3,?_,h5⟩
   rintro a (ha |rfl) b hb
   .exact(h2 a ha).2 b hb
   .exact h4 b hb
theorem Jq{own cnt time:Int}{hs:List Int}{q:List Sp.W}{bs:List Int}{cs:List (List D)}{cl:Bool}{val:Int}:
  jK own cnt time hs q bs cs cl val=true↔(cnt=0/\time=0/\hs=[]/\bs=[]/\cs=[]/\cl=false/\val=0)/\q.length<=96/\MV own q:=by
 by_cases h96:q.length<=96
 .have U5:¬96<q.length:=by omega
  have e1:=amf 2 rfl q none;have e2:=amg own q [];simp at e1 e2;have el:((hs.length:Int)+bs.length+cs.length<=0)↔(hs=[]/\bs=[])/\cs=[]:=by
   rw[<-List.length_eq_zero_iff,<-List.length_eq_zero_iff,<-List.length_eq_zero_iff];omega
  simp[jK,ej,h96,U5,e1,e2,el];constructor
  .rintro⟨⟨⟨⟨a1,a4⟩,⟨⟨⟨b1,b2⟩,b4⟩,b3⟩,⟨c1,c2⟩,c3⟩,v,d⟩,qb,zV⟩
   refine⟨⟨b1,b2,c1,c2,c3,b3,b4⟩,?_,λh=>a4.resolve_left (by simp[h]),d,zV,?_⟩
   .simpa[cW]using a1
   .intro w hw
    have h1:=v w hw;have h2:=qb w hw;simp[dL,kI]at h1;simp[Ge]at h2;omega
  .rintro⟨⟨b1,b2,c1,c2,c3,b3,b4⟩,m⟩
   refine⟨⟨⟨⟨?_,?_⟩,⟨⟨⟨b1,b2⟩,b4⟩,b3⟩,⟨c1,c2⟩,c3⟩,?_,m.desc⟩,?_,m.zV⟩
   .simpa[cW]using m.qU
   .by_cases h:own = -1
    .exact .inr (m.free h)
    .exact .inl h
   .intro w hw
    have:=m.all w hw;simp[dL,kI];omega
   .intro w hw
    have:=m.all w hw;simp[Ge];omega
 .have U5:96<q.length:=by omega
  simp[jK,ej,U5,h96]
end Go.VS.M
namespace Go.VS.Sp
end Go.VS.Sp
namespace Go.VS.Sp
end Go.VS.Sp
namespace Go.VS.Sp
end Go.VS.Sp
namespace Go.VS.Sp
end Go.VS.Sp
namespace Go.VS.Sp
end Go.VS.Sp
namespace Go.VS.Sp
end Go.VS.Sp
namespace Go.VS.R
open Go.VS.Sp
def cW(n:Int):Bool:=decide (0<=n)&&decide (n<16)
theorem gh(n:Int):ev P (.call Eo [.d (I' n)] [])=some (.val (.d (.b (cW n))) []):=by
 rw[au XM rfl];simp[L4,cW]
def kI(w:Sp.W):Bool:=(decide (w.task<0)||decide (16<=w.task)||decide (w.op<1)||decide (99<w.op)||decide (w.value < -1099511627776)||decide (1099511627776<w.value))
def dL(w:Sp.W):Bool:=!kI w&&(decide (0<=w.prio)&&decide (w.prio<=9)&&decide (-1<=w.case)&&decide (w.case<6))
theorem Fb(a b c d e:Int):ev P (.call Et [.d (.ag [I' a,I' b,I' c,I' d,I' e])] [])=some (.val (.d (.b (dL ⟨a,b,c,d,e⟩))) []):=by
 rw[au SE rfl];cases h:kI ⟨a,b,c,d,e⟩<;>simp only[dL,h]<;>unfold kI at h<;>simp[HN,Sp.W.row,h]
def fU(d:Int)(prev:Option Sp.W):List Sp.W->Int
 | []=>0
 |w::r=>if dL w=false then 2 else if d=2/\(prev.any λp=>decide (p.prio<w.prio))=true then 9 else fU d (some w) r
theorem vY:IntKind.i64.wrap 1=1:=by decide
theorem Fc(d:Int)(nl:Bool)(l:List Sp.W)(hn:l.length<=96):∀(suf pre:List Sp.W),l=pre++suf ->
  ev P (.loop 0 [0,1,16,17,18] vR [(0,.d (I' d)),(1,.d (.sl 5 nl (l.map Sp.W.row))),(16,.d (.sl 5 nl (l.map Sp.W.row))),(17,.d (I' l.length)),(18,.d (I' pre.length))] []) =
   if fU d pre.getLast? suf=0 then some (.out (.exit 0) [] [])else some (.out .ret [(4,.d (I' (fU d pre.getLast? suf)))] []):=by
 intro suf;induction suf with
 |nil =>
  intro pre hl
  have:l.length=pre.length:=by simp[hl]
  rw[bT]
  conv=>lhs;arg 4;unfold vR
  simp[this,fU]
 |cons w suf ih =>
  intro pre hl;have hg:l[pre.length]?=some w:=by simp[hl]
  have hlt:(pre.length:Int)<l.length:=by simp[hl];omega
  rw[bT]
  conv=>lhs;arg 4;unfold vR
  simp[hlt,hg,Sp.W.row,Fb];cases hv:dL w
  .simp[fU,hv]
  .simp
   have hnext:IntKind.i64.wrap ((pre.length:Int)+1)=pre.length+1:=wrap_i64 (by omega) (by omega)
   have bD:=ih (pre++[w]) (by simp[hl])
   simp at bD;rcases Aq pre with rfl |⟨pre',p,rfl⟩
   .simp[fU,hv,vY]at *
    exact bD
   .have mC:l[pre'.length]?=some p:=by simp[hl]
    have hlen:((pre'.length:Int)+1<l.length):=by simp[hl];omega
    have hw:IntKind.i64.wrap ((pre'.length:Int)+1 - 1)=pre'.length:=by rw[wrap_i64 (by omega) (by omega)];omega
    have h0:(0:Int)<pre'.length+1:=by omega
    have dO:IntKind.i64.wrap (pre'.length:Int)=pre'.length:=wrap_i64 (by omega) (by omega)
    have jS:IntKind.i64.wrap ((pre'.length:Int)+1+1)=pre'.length+1+1:=wrap_i64 (by omega) (by omega)
    simp at bD;by_cases hd:d=2
    .by_cases hp:p.prio<w.prio
     .subst hd
      simp[fU,hv,hp,dO,jS,mC,Sp.W.row,h0]
     .subst hd
      simp[fU,hv,hp,dO,jS,mC,Sp.W.row,h0];exact bD
    .have hd2:(d==2)=false:=by simp[hd]
     simp[fU,hv,hd,hd2,dO,jS,mC,Sp.W.row,h0];exact bD
def ej(l:List Sp.W):Int:=if 96<l.length then 4 else fU 1 none l
theorem uI(nl:Bool)(l:List Sp.W):ev P (.call qo [.d (I' 1),.d (.sl 5 nl (l.map Sp.W.row))] []) =
  some (.val (.d (I' (ej l))) []):=by
 unfold ej;rw[au MS rfl];by_cases h:96<l.length
 .have h':(96:Int)<l.length:=by omega
  simp[y8,h,h']
 .have h':¬(96:Int)<l.length:=by omega
  have hl:=Fc 1 nl l (by omega) l [] rfl
  simp at hl;simp[y8,h,h',hl];by_cases hc:fU 1 none l=0<;>simp[hc]
theorem ze:∀(ds:List D),fA (ds.map V.d)=some ds
 | []=>rfl
 |d::ds=>by simp[ze ds]
theorem th{a b:List D}{x:D}:fA (a.map V.d++.d x::b.map V.d)=some (a++x::b):=by
 have:=ze (a++x::b);simpa using this
abbrev bW(l:List Int):List (List D):=l.map λx=>[I' x]
abbrev hD(n:Bool)(l:List Int):D:=.sl 1 n (bW l)
abbrev qD(n:Bool)(l:List Sp.W):D:=.sl 5 n (l.map Sp.W.row)
abbrev cD(n:Bool)(l:List (List D)):D:=.sl 2 n l
theorem bk{α β:Type}{f:α->β}{r:List α}:List.take r.length (r.map f)=r.map f:=gE (by simp)
end Go.VS.R
namespace Go.VS.R
open Go.VS.Sp
def ju(q:List Sp.W)(t:Int):Int×Bool:=match q.findIdx? (λw=>w.task==t)with |some i=>(i,true) |none=>(0,false)
theorem SL(nl:Bool)(l:List Sp.W)(t:Int)(hn:l.length<=1000000):∀(suf pre:List Sp.W),l=pre++suf ->
  ev P (.loop 0 [1,8,9,10] CH [(1,.d (I' t)),(8,.d (qD nl l)),(9,.d (I' l.length)),(10,.d (I' pre.length))] []) =
   match suf.findIdx? (λw=>w.task==t)with
   |none=>some (.out (.exit 0) [] [])
   |some k=>some (.out .ret [(4,.d (I' ((pre.length+k:Nat):Int))),(5,.d (.b true))] []):=by
 intro suf;induction suf with
 |nil =>
  intro pre hl
  have:l.length=pre.length:=by simp[hl]
  rw[bT]
  conv=>lhs;arg 4;unfold CH
  simp[this]
 |cons w suf ih =>
  intro pre hl;have hg:l[pre.length]?=some w:=by simp[hl]
  have hlt:(pre.length:Int)<l.length:=by simp[hl];omega
  have hnext:IntKind.i64.wrap ((pre.length:Int)+1)=pre.length+1:=wrap_i64 (by omega) (by omega)
  have bD:=ih (pre++[w]) (by simp[hl])
  simp at bD;rw[bT]
  conv=>lhs;arg 4;unfold CH
  rw[xz];cases hw:w.task==t
  .simp[hlt,hg,Sp.W.row,hw,hnext]
   rw[bD];cases suf.findIdx? (λw=>w.task==t)with
   |none=>rfl
   |some k=>simp;omega
  .simp[hlt,hg,Sp.W.row,hw]
theorem lD(nl:Bool)(l:List Sp.W)(t:Int)(hn:l.length<=1000000):
  ev P (.call iU [.d (qD nl l),.d (I' t)] [])=some (.val (.tu [.d (I' (ju l t).1),.d (.b (ju l t).2)]) []):=by
 rw[au XN rfl];have hl:=SL nl l t hn l [] rfl;simp at hl;unfold ju;cases h:l.findIdx? (λw=>w.task==t)with
 |none=>rw[h]at hl;simp[EN,hl]
 |some k=>rw[h]at hl;simp at hl;simp[EN,hl]
theorem A6{q:List Sp.W}{t:Int}:(ju q t).2=q.any λw=>w.task==t:=by
 unfold ju;cases h:q.findIdx? (λw=>w.task==t)with
 |none =>
  rw[JY]at h;symm;rw[qL];intro x hx;rw[h x hx];decide
 |some k =>
  symm;obtain⟨h1,h2⟩:=GG.1 h;exact rV.2 ⟨_,vw _,h2.1⟩
end Go.VS.R
namespace Go.VS.R
open Go.VS.Sp
def dQ(k sz ot:Int):Int:=if(k != 2)=true then 8 else if(sz != 0||ot != 0)=true then 2 else 0
def ct:List D:=[I' 0,I' 0,I' 0,hD true [],qD true [],hD true [],cD true [],.b false,I' 0]
def gn:List D:=[I' (-1),I' 0,I' 0,hD true [],qD true [],hD true [],cD true [],.b false,I' 0]
theorem tj(nm:D)(k sz ot:Int):ev P (.call sY [.d (.ag [nm,I' k,I' sz,I' ot])] []) =
  some (.val (.tu [.d (.ag (if dQ k sz ot=0 then gn else ct)),.d (I' (dQ k sz ot))]) []):=by
 rw[au Xz rfl];cases h1:k != 2<;>simp only[dQ,h1]
 .cases h2:sz != 0||ot != 0<;>simp[EC,h1,h2,gn,ct]
 .simp[EC,h1,ct]
def yA(t:Int):Nat->List Int->Option Nat
 |_,[]=>none
 |k,x::r=>if t=x then some k else yA t (k+1) r
theorem amh{t:Int}:∀{l:List Int}{k:Nat},(yA t k l).isSome=decide (t∈l)
 | [],k=>by simp[yA]
 |x::r,k=>by
  unfold yA;by_cases h:t=x
  .simp[h]
  .rw[aE h,amh];simp[h]
theorem ami(nl:Bool)(l:List Int)(t:Int)(hn:l.length<=1000000):∀(suf pre:List Int),l=pre++suf ->
  ev P (.loop 0 [0,1,7,8] MF [(0,.d (hD nl l)),(1,.d (I' t)),(7,.d (I' l.length)),(8,.d (I' pre.length))] []) =
   match yA t pre.length suf with
   |none=>some (.out (.exit 0) [] [])
   |some k=>some (.out .ret [(4,.d (I' k))] []):=by
 intro suf;induction suf with
 |nil =>
  intro pre hl
  have:l.length=pre.length:=by simp[hl]
  rw[bT]
  conv=>lhs;arg 4;unfold MF
  simp[this,yA]
 |cons w suf ih =>
  intro pre hl;have hg:l[pre.length]?=some w:=by simp[hl]
  have hlt:(pre.length:Int)<l.length:=by simp[hl];omega
  have hnext:IntKind.i64.wrap ((pre.length:Int)+1)=pre.length+1:=wrap_i64 (by omega) (by omega)
  have bD:=ih (pre++[w]) (by simp[hl])
  simp at bD;rw[bT]
  conv=>lhs;arg 4;unfold MF
  unfold yA;by_cases hw:t=w
  .simp[hlt,hg,hw]
  .have dO:(t==w)=false:=by simpa using hw
   simp[hlt,hg,hw,dO,hnext];exact bD
theorem amj(nl:Bool)(l:List Int)(t:Int)(hn:l.length<=1000000):
  ev P (.call QW [.d (hD nl l),.d (I' t)] [])=some (.val (.d (.b (decide (t∈l)))) []):=by
 have hl:=ami nl l t hn l [] rfl;simp at hl;have hI:ev P (.call Ra [.d (hD nl l),.d (I' t)] [])=some (.val (.d (I' (match yA t 0 l with |none=>-1 |some k=>k))) []):=by
  rw[au afc rfl];cases hi:yA t 0 l<;>(rw[hi]at hl;simp[Sm,hl])
 have hs:=amh (t:=t) (l:=l) (k:=0);rw[<-hs];rw[au aeN rfl];cases hi:yA t 0 l<;>(rw[hi]at hI;simp[R1,hI])
def ia(own:Int)(H:List Int)(t:Int):Int:=if(decide (0<=t)&&t==own)=true then 2 else if t∈H then 1 else 0
theorem Gg(own:Int)(a b c d e f g:D)(nl:Bool)(H:List Int)(t:Int)(hn:H.length<=1000000):
  ev P (.call KS [.d (.ag [I' own,a,b,hD nl H,c,d,e,f,g]),.d (I' t)] [])=some (.val (.d (I' (ia own H t))) []):=by
 have hC:=amj nl H t hn;rw[au ad2 rfl];unfold ia;cases h1:(decide (0<=t)&&t==own)
 .simp[L5,h1]
  by_cases h2:t∈H<;>simp[h2]at hC<;>simp[hC,h2]
 .simp[L5,h1]
end Go.VS.R
namespace Go.VS.R
open Go.VS.Sp
theorem Ih(n:Int):ev P (.call AO [.d (I' n)] [])=some (.val (.d (.b false)) []):=by
 rw[au SJ rfl];simp[HV]
theorem SY(n:Int):ev P (.call CC [.d (I' n)] [])=some (.val (.d (.b false)) []):=by
 rw[au X8 rfl];simp[MK]
theorem Ii(a b:Int):ev P (.call Hw [.d (I' a),.d (I' b)] [])=some (.val (.d (.b (decide (a<b)))) []):=by
 rw[au X7 rfl];by_cases h:a<b<;>simp[MJ,Ih,h]
def iX(l:List Int):Prop:=l.Pairwise (·<=·)
def bI(t:Int)(l:List Int):Nat:=(l.takeWhile λx=>decide (x<t)).length
theorem tv(t:Int):∀(l:List Int),bI t l<=l.length
 | []=>by simp[bI]
 |w::q=>by
  have:=tv t q;unfold bI at *;simp only[oz];split<;>simp;omega
theorem Fg{t x:Int}:∀{l:List Int}{k:Nat},iX l->l[k]?=some x->(k<bI t l↔x<t)
 | [],k,_,h=>by simp at h
 |a::q,0,_,h=>by
  have:a=x:=by simpa using h
  subst this;by_cases hp:a<t<;>simp[bI,oz,hp]
 |a::q,k+1,hd,h=>by
  have hd':=gI.1 hd;have hq:q[k]?=some x:=by simpa using h
  have hw:x∈q:=kY hq;have h1:=hd'.1 x hw;have ih:=Fg (t:=t) (k:=k) hd'.2 hq;by_cases hp:a<t
  .have:bI t (a::q)=bI t q+1:=by simp[bI,oz,hp]
   rw[this,<-ih];omega
  .have:bI t (a::q)=0:=by simp[bI,oz,hp]
   rw[this];constructor<;>intro h3<;>omega
theorem Fh{i j:Nat}(h:i+j<=4000000):IntKind.i64.wrap ((IntKind.u64.wrap ((i:Int)+j)).fdiv (2 ^ min 1 IntKind.u64.bits))=(((i+j) / 2:Nat):Int):=by
 have h1:IntKind.u64.wrap ((i:Int)+j)=(i:Int)+j:=by
  have e0:IntKind.u64.bits=64:=rfl;simp only[IntKind.wrap,e0,IntKind.signed,Ap,eR,dG];omega
 have h2:(2:Int) ^ min 1 IntKind.u64.bits=2:=by decide
 rw[h1,h2,Pk _ (by omega),wrap_i64 (by omega) (by omega)]
 omega
theorem amk{l:List Int}{R:List (List D)}{m:Nat}{x:Int}(hR:l.length<=R.length)(hT:R.take l.length=bW l)(hx:l[m]?=some x):R[m]?=some [I' x]/\m<l.length:=by
 have hm:m<l.length:=(rW.1 hx).1;refine⟨?_,hm⟩;have h1:(R.take l.length)[m]?=some [I' x]:=by rw[hT];simp[hx]
 rw[yM]at h1;simpa[hm]using h1
theorem SZ(l:List Int)(R:List (List D))(t:Int)(hn:l.length<=1000000)(hR:l.length<=R.length)(hT:R.take l.length=bW l)(hA:iX l):∀(n i j:Nat),j - i<=n->i<=bI t l->bI t l<=j->j<=l.length ->
  ev P (.loop 1 [0,1,6,7,8] CJ [(0,.aQ 0 0 l.length),(1,.d (I' t)),(6,.d (I' l.length)),(7,.d (I' i)),(8,.d (I' j))] [.aG 1 true R]) =
   some (.out (.exit 0) [(0,.aQ 0 0 l.length),(1,.d (I' t)),(6,.d (I' l.length)),(7,.d (I' (bI t l)))] [.aG 1 true R]):=by
 intro n;induction n with
 |zero =>
  intro i j h1 h2 h3 h4;have e1:i=bI t l:=by omega
  have e2:j=bI t l:=by omega
  rw[bT]
  conv=>lhs;arg 4;unfold CJ
  simp[e1,e2,ak,cut]
 |succ n ih =>
  intro i j h1 h2 h3 h4;by_cases hij:i=j
  .have e1:i=bI t l:=by omega
   have e2:j=bI t l:=by omega
   rw[bT]
   conv=>lhs;arg 4;unfold CJ
   simp[e1,e2,ak,cut]
  .have hlt:i<j:=by omega
   have hw1:IntKind.i64.wrap ((i:Int)+j)=i+j:=wrap_i64 (by omega) (by omega)
   have hm:=Fh (i:=i) (j:=j) (by omega)
   generalize zg:(i+j) / 2=m at hm;have hm1:i<=m:=by omega
   have hm2:m<j:=by omega
   obtain⟨x,hx⟩:∃x,l[m]?=some x:=⟨l[m]'(by omega),by simp⟩
   have hb:=Fg (t:=t) hA hx;obtain⟨hg,hml⟩:=amk hR hT hx;have CX:IntKind.i64.wrap ((m:Int)+1)=m+1:=wrap_i64 (by omega) (by omega)
   have A7:(m:Int)<l.length:=by omega
   have U6:m<R.length:=by omega
   have tE:R[m]=[I' x]:=by rw[qM U6]at hg;exact yJ hg
   rw[bT]
   conv=>lhs;arg 4;unfold CJ
   by_cases hp:x<t
   .have bD:=ih (m+1) j (by omega) (by omega) (by omega) h4
    simp at bD;simp[hlt,hw1,hm,CX,hml,A7,U6,tE,Ii,hp,ak,cut];exact bD
   .have bD:=ih i m (by omega) (by omega) (by omega) (by omega)
    simp[hlt,hw1,hm,hml,A7,U6,tE,Ii,hp,ak,cut];exact bD
theorem S1(l:List Int)(R:List (List D))(t:Int)(hn:l.length<=1000000)(hR:l.length<=R.length)(hT:R.take l.length=bW l)(hA:iX l):
  ∃b,ev P (.call Lt [.aQ 0 0 l.length,.d (I' t)] [.aG 1 true R])=some (.val (.tu [.d (I' (bI t l)),.d (.b b)]) [.aG 1 true R]):=by
 have hb:=tv t l;have hl:=SZ l R t hn hR hT hA l.length 0 l.length (by omega) (by omega) hb (by omega)
 simp at hl;by_cases h:bI t l<l.length
 .obtain⟨x,hx⟩:∃x,l[bI t l]?=some x:=⟨l[bI t l],by simp⟩
  obtain⟨hg,_⟩:=amk hR hT hx;have U7:bI t l<R.length:=by omega
  have tE:R[bI t l]=[I' x]:=by rw[qM U7]at hg;exact yJ hg
  have h2:(bI t l:Int)<l.length:=by omega
  generalize bI t l=B at *;by_cases xW:x=t
  .refine⟨true,?_⟩
   subst xW;rw[au MX rfl];simp[E3,hl,h,h2,U7,tE,ak,cut,av]
  .refine⟨false,?_⟩
   have S2:(x==t)=false:=by simpa using xW
   rw[au MX rfl];simp[E3,hl,h,h2,U7,tE,SY,S2,ak,cut,av]
 .have h2:¬(bI t l:Int)<l.length:=by omega
  refine⟨false,?_⟩;rw[au MX rfl];simp[E3,hl,h,h2,ak,cut,av]
theorem aml(t:Int):ev P (.call Lt [.d (.sl 1 true []),.d (I' t)] [])=some (.val (.tu [.d (I' 0),.d (.b false)]) []):=by
 have hl:ev P (.loop 0 [0,1,6,7,8] CJ [(0,.d (.sl 1 true [])),(1,.d (I' t)),(6,.d (I' 0)),(7,.d (I' 0)),(8,.d (I' 0))] []) =
   some (.out (.exit 0) [(0,.d (.sl 1 true [])),(1,.d (I' t)),(6,.d (I' 0)),(7,.d (I' 0))] []):=by
  rw[bT]
  conv=>lhs;arg 4;unfold CJ
  simp
 rw[au MX rfl];simp[E3,hl,av]
end Go.VS.R
namespace Go.VS.R
open Go.VS.Sp
def mg(x:Int):List D:=[I' x]
def xe(p:Int->Bool):Nat->List Int->Option Nat
 |_,[]=>none
 |k,w::r=>if p w=true then some k else xe p (k+1) r
theorem amm{f:Nat}{first caps:List D}{p:Int->Bool}(l:List Int)(hn:l.length<=1000000)
  (hp:∀a,ev P (.call f (first.map V.d++[.d (I' a)]++caps.map V.d) [])=some (.val (.d (.b (p a))) [])):
  ∀(suf pre:List Int),l=pre++suf ->
  ev P (.loop 1 [0,1,7,8] Mv [(0,.aQ 0 0 l.length),(1,.d (.fn f first caps)),(7,.d (I' l.length)),(8,.d (I' pre.length))] [.aG 1 true (l.map mg)]) =
   match xe p pre.length suf with
   |none=>some (.out (.exit 0) [] [.aG 1 true (l.map mg)])
   |some k=>some (.out .ret [(4,.d (I' k))] [.aG 1 true (l.map mg)]):=by
 intro suf;induction suf with
 |nil =>
  intro pre hl
  have:l.length=pre.length:=by simp[hl]
  rw[bT]
  conv=>lhs;arg 4;unfold Mv
  simp[this,xe,ak,cut]
 |cons w suf ih =>
  intro pre hl;have hg:l[pre.length]?=some w:=by simp[hl]
  have hlt:(pre.length:Int)<l.length:=by simp[hl];omega
  have jF:pre.length<l.length:=by simp[hl]
  have tE:l[pre.length]=w:=by simpa[qM jF]using hg
  have hnext:IntKind.i64.wrap ((pre.length:Int)+1)=pre.length+1:=wrap_i64 (by omega) (by omega)
  have bD:=ih (pre++[w]) (by simp[hl])
  simp at bD hp;rw[bT]
  conv=>lhs;arg 4;unfold Mv
  cases hw:p w
  .simp[hlt,jF,tE,mg,hp,th,hw,hnext,xe,ak,cut]
   exact bD
  .simp[hlt,jF,tE,mg,hp,th,hw,xe,ak,cut]
theorem amn{f:Nat}{first caps:List D}{p:Int->Bool}(l:List Int)(hn:l.length<=1000000)
  (hp:∀a,ev P (.call f (first.map V.d++[.d (I' a)]++caps.map V.d) [])=some (.val (.d (.b (p a))) [])):
  ev P (.call QY [.aQ 0 0 l.length,.d (.fn f first caps)] [.aG 1 true (l.map mg)]) =
   some (.val (.d (I' (match xe p 0 l with |none=>-1 |some k=>k))) [.aG 1 true (l.map mg)]):=by
 have hl:=amm l hn hp l [] rfl;simp at hl;rw[au aeP rfl];simp[R3,hl,ak,cut];cases xe p 0 l<;>simp[av,ak,cut]
 done
theorem amo{f:Nat}{first caps:List D}{p:Int->Bool}(l:List Int)(hn:l.length<=1000000)
  (hp:∀a,ev P (.call f (first.map V.d++[.d (I' a)]++caps.map V.d) [])=some (.val (.d (.b (p a))) [])):
  ∀(suf pre:List Int)(R:List (List D)),l=pre++suf->R.length=l.length->(∀r,r∈R->r.length=1)->R.take (pre.filter λw=>!p w).length=(pre.filter λw=>!p w).map mg->R.drop pre.length=suf.map mg ->
  ∃R',R'.length=l.length/\(∀r,r∈R'->r.length=1)/\R'.take (l.filter λw=>!p w).length=(l.filter λw=>!p w).map mg /\
  ev P (.loop 1 [0,1,5,6] HF [(0,.aQ 0 0 l.length),(1,.d (.fn f first caps)),(5,.d (I' (pre.filter λw=>!p w).length)),(6,.d (I' pre.length))] [.aG 1 true R]) =
   some (.out (.exit 0) [(0,.aQ 0 0 l.length),(5,.d (I' (l.filter λw=>!p w).length))] [.aG 1 true R']):=by
 intro suf;induction suf with
 |nil =>
  intro pre R hl hR Jr h1 h2;have Iy:l=pre:=by simp[hl]
  subst Iy;refine⟨R,hR,Jr,h1,?_⟩;rw[bT]
  conv=>lhs;arg 4;unfold HF
  simp[ak,cut]
 |cons w suf ih =>
  intro pre R hl hR Jr h1 h2;have hlt:(pre.length:Int)<l.length:=by simp[hl];omega
  have jF:pre.length<l.length:=by simp[hl]
  have hnext:IntKind.i64.wrap ((pre.length:Int)+1)=pre.length+1:=wrap_i64 (by omega) (by omega)
  have sI:(pre.filter λw=>!p w).length<=pre.length:=uc _ _
  have hRw:R[pre.length]?=some (mg w):=by
   have:=congrArg (λx=>x[0]?) h2
   simpa using this
  have hlR:pre.length<R.length:=by omega
  have hRg:R[pre.length]=mg w:=by simpa[qM hlR]using hRw
  have hd:R.drop (pre.length+1)=suf.map mg:=by
   rw[<-List.drop_drop,h2];simp
  simp at hp;generalize hk:(pre.filter λw=>!p w)=kp at *
  cases hw:p w
  .have amp:IntKind.i64.wrap ((kp.length:Int)+1)=kp.length+1:=wrap_i64 (by omega) (by omega)
   obtain⟨R',k1,k0,k2,k3⟩:=ih (pre++[w]) (R.set kp.length (mg w)) (by simp[hl]) (by simpa using hR) (λr hr=>by rcases J1 hr with h |h;exact Jr r h;rw[h];rfl)
    (by
     simp[hk,hw];rw[List.take_succ_eq_append_getElem (by simp;omega)]
     rw[List.take_set_of_le (gj _),h1];simp)
    (by simp;rw[List.drop_set_of_lt (by omega)];exact hd)
   refine⟨R',k1,k0,k2,?_⟩;simp[hk,hw,mg]at k3;have amq:kp.length<l.length:=by omega
   have amr:kp.length<R.length:=by omega
   have h3:(R[kp.length]).length=1:=Jr _ (vw amr);have h3d:List.drop 1 R[kp.length]=[]:=qK (by omega)
   rw[bT]
   conv=>lhs;arg 4;unfold HF
   simp[hlt,jF,hRg,hR,mg,hp,th,hw,hnext,amp,amq,h3,h3d,ak,cut];exact k3
  .obtain⟨R',k1,k0,k2,k3⟩:=ih (pre++[w]) R (by simp[hl]) hR Jr (by simpa[hk,hw]using h1) (by simpa using hd)
   refine⟨R',k1,k0,k2,?_⟩;simp[hk,hw]at k3;rw[bT]
   conv=>lhs;arg 4;unfold HF
   simp[hlt,jF,hRg,hR,mg,hp,th,hw,hnext,ak,cut];exact k3
theorem ams{p:Int->Bool}:∀(l pre:List Int),(∀w,w∈pre->p w=false)->match xe p pre.length l with
  |none=>∀w,w∈pre++l->p w=false
  |some k=>∃a w b,pre++l=a++w::b/\a.length=k/\p w=true/\(∀x,x∈a->p x=false)
 | [],pre,h=>by simpa[xe]using h
 |w::r,pre,h=>by
  unfold xe;cases hw:p w
  .have ih:=ams r (pre++[w]) (by intro x hx;rcases dc.1 hx with hx |hx;exact h x hx;simp at hx;rw[hx];exact hw)
   simp at ih⊢;exact ih
  .simp only[dH]
   exact⟨pre,w,r,rfl,rfl,hw,h⟩
theorem amt{f:Nat}{first caps:List D}{p:Int->Bool}(l:List Int)(hn:l.length<=1000000)
  (hp:∀a,ev P (.call f (first.map V.d++[.d (I' a)]++caps.map V.d) [])=some (.val (.d (.b (p a))) [])):
  ∃R',(l.filter λw=>!p w).length<=R'.length/\R'.take (l.filter λw=>!p w).length=(l.filter λw=>!p w).map mg /\
  ev P (.call Qq [.aQ 0 0 l.length,.d (.fn f first caps)] [.aG 1 true (l.map mg)]) =
   some (.val (.aQ 0 0 (l.filter λw=>!p w).length) [.aG 1 true R']):=by
 have hi:=amn l hn hp;have hs:=ams (p:=p) l [] (by simp)
 rw[au ad3 rfl];cases hx:xe p 0 l with
 |none =>
  rw[hx]at hi;simp only[lf,hx,mu]at hs;have hf:(l.filter λw=>!p w)=l:=by
   rw[Pm];intro a ha;simp[hs a ha]
  refine⟨l.map mg,by rw[hf];simp,by rw[hf];simp[bk],?_⟩
  rw[hf];simp[L7,az,hi,ak,cut,sub,aD,back,av]
 |some k =>
  rw[hx]at hi;simp only[lf,hx,mu]at hs;obtain⟨a,w,b,hl,hk,hw,ha⟩:=hs;have NS:((a++[w]).filter λw=>!p w)=a:=by
   have:(a.filter λw=>!p w)=a:=by
    rw[Pm];intro x hx;simp[ha x hx]
   simp[this,hw]
  obtain⟨R',k1,k0,k2,k3⟩:=amo l hn hp b (a++[w]) (l.map mg) (by simp[hl]) (by simp) (by
    intro r hr;obtain⟨x,_,rfl⟩:=gF.1 hr;rfl) (by rw[NS,hl];simp) (by rw[show l=(a++[w])++b by simp[hl],vF];exact D6 (by simp))
  rw[NS,hk]at k3;have hak:k+1<=l.length:=by rw[hl,<-hk,lT,gX];omega
  have hnext:IntKind.i64.wrap ((k:Int)+1)=k+1:=wrap_i64 (by omega) (by omega)
  have hkn:((k:Int) == -1)=false:=by simp
  simp only[lT,tY,hk]at k3;have hfl:(l.filter λw=>!p w).length<l.length:=by
   have h1:=uc (λw=>!p w) a
   have h2:=uc (λw=>!p w) b
   rw[hl];simp[WB,hw];omega
  generalize (l.filter λw=>!p w)=fl at *
  refine⟨R'.take fl.length++List.replicate (R'.length - fl.length) [I' 0],by simp;omega,?_,?_⟩
  .rw[Ca (by simp;omega),Ax,Ka,k2]
  .have hz:¬(l.length - fl.length=0):=by omega
   have hdr:List.drop l.length R'=[]:=qK (by omega)
   simp at k3;simp[hz,hdr,L7,az,hi,ak,cut,sub,aD,back,av,hkn,hnext,k3,hfl,Nat.le_of_lt hfl,k1]
   done
theorem amu(t a b c d x:Int):ev P (.call KT [.d (I' x),.d (.ref [I' t,I' a,I' b,I' c,I' d])] [])=some (.val (.d (.b (x==t))) []):=by
 rw[au ad4 rfl];simp[RC]
theorem tw(nl:Bool)(q:List Int)(gm:nl=true->q=[])(hn:q.length<=1000000):
  ev P (.call s9 [.d (hD nl q)] [])=if nl=true then some (.val (.d (.sl 1 true [])) [])else some (.val (.aQ 0 0 q.length) [.aG 1 true (bW q)]):=by
 rw[au SD rfl];cases nl
 .have hr:q.length<=room:=by unfold room;omega
  cases q with
  |nil=>simp[rj,eK,fO,ak,cut,av]
  |cons a r =>
   simp at hr;simp[rj,eK,fO,ak,cut,hr,av]
 .simp[rj,av]
theorem w9(nl:Bool)(q:List Sp.W)(gm:nl=true->q=[])(hn:q.length<=1000000):
  ev P (.call sv [.d (qD nl q)] [])=if nl=true then some (.val (.d (.sl 5 true [])) [])else some (.val (.aQ 0 0 q.length) [.aG 5 true (q.map Sp.W.row)]):=by
 rw[au MT rfl];cases nl
 .have hr:q.length<=room:=by unfold room;omega
  cases q with
  |nil=>simp[qp,eK,fO,ak,cut,av]
  |cons a r =>
   simp at hr;simp[qp,eK,fO,ak,cut,hr,av]
 .simp[qp,av]
end Go.VS.R
namespace Go.VS.R
open Go.VS.Sp
def hV:Option (List (List D)×Nat)->Nat->V
 |none,_=>.d (.sl 1 true [])
 |some (_,n),i=>.aQ i 0 n
def hO:Option (List (List D)×Nat)->List O
 |none=>[]
 |some (R,_)=>[.aG 1 true R]
def qV:Bool ⊕ (List (List D)×Nat×Nat)->Nat->V
 | .inl nl,_=>.d (.sl 5 nl [])
 | .inr (_,off,len),i=>.aQ i off len
def qO:Bool ⊕ (List (List D)×Nat×Nat)->List O
 | .inl _=>[]
 | .inr (R,_,_)=>[.aG 5 true R]
def kV:Option (List (List D))->Nat->V
 |none,_=>.d (.sl 5 true [])
 |some R,i=>.aQ i 0 R.length
def kO:Option (List (List D))->List O
 |none=>[]
 |some R=>[.aG 5 true R]
structure Z where
 c1:D
 c2:D
 c5:D
 c6:D
 c7:D
 c8:D
def lk(z:Z)(own:Int)(h q k:V):O:=.gK 10 [[.d (I' own),.d z.c1,.d z.c2,h,q,.d z.c5,.d z.c6,.d z.c7,.d z.c8,k]]
def cX(z:Z)(own:Int)(H:Option (List (List D)×Nat))(Q:Bool ⊕ (List (List D)×Nat×Nat))(K:Option (List (List D))):List O :=
 lk z own (hV H 1) (qV Q (1+(hO H).length)) (kV K (1+(hO H).length+(qO Q).length))::(hO H++(qO Q++kO K))
def hlen:Option (List (List D)×Nat)->Nat
 |none=>0
 |some (_,n)=>n
theorem aM:List.range 2=[0,1]:=rfl
theorem aN:List.range 3=[0,1,2]:=rfl
theorem cB:List.range 4=[0,1,2,3]:=rfl
theorem cg:List.range 5=[0,1,2,3,4]:=rfl
theorem zW(z:Z)(own:Int) (H) (Q) (K):ev P (.call Cw [.loc 0 0 0] (cX z own H Q K))=some (.val (.d (.b (own != -1))) (cX z own H Q K)):=by
 rw[au XP rfl];rcases H with _ |⟨R,n⟩<;>rcases Q with nl |⟨S,off,len⟩<;>rcases K with _ |T <;>
  simp[L6,cX,lk,hV,hO,qV,qO,kV,kO,ak,cut,aM,aN,cB,cg,an,av]
theorem OE(z:Z)(own:Int) (H) (Q) (K):ev P (.call Ep [.loc 0 0 0] (cX z own H Q K))=some (.val (.d (.b (own == -1&&(hlen H:Int)==0))) (cX z own H Q K)):=by
 have hW:=zW z own H Q K;rw[au XO rfl];cases ho:own == -1
 .have fM:(own != -1)=true:=by simp[bne,ho]
  rw[fM]at hW;rcases H with _ |⟨R,n⟩<;>rcases Q with nl |⟨S,off,len⟩<;>rcases K with _ |T <;>
   (
    simp[cX,lk,hV,hO,qV,qO,kV,kO]at hW;simp[EO,cX,lk,hV,hO,qV,qO,kV,kO,ak,cut,aM,aN,cB,cg,an,av,az,sub,aD,back,hW,hlen])
 .have fM:(own != -1)=false:=by simp[bne,ho]
  rw[fM]at hW;rcases H with _ |⟨R,n⟩<;>rcases Q with nl |⟨S,off,len⟩<;>rcases K with _ |T <;>
   (
    simp[cX,lk,hV,hO,qV,qO,kV,kO]at hW;simp[EO,cX,lk,hV,hO,qV,qO,kV,kO,ak,cut,aM,aN,cB,cg,an,av,az,sub,aD,back,hW,hlen])
end Go.VS.R
namespace Go.VS.R
open Go.VS.Sp
def eV(t:Int)(l:List Int):List Int:=l.take (bI t l)++t::l.drop (bI t l)
theorem Gi(t:Int)(l:List Int):(eV t l).length=l.length+1:=by
 have:=tv t l;unfold eV;simp;omega
def hX:Option (List (List D)×Nat)->List O
 |none=>[]
 |some _=>[.dead]
theorem U8(z:Z)(own t:Int) (H) (Q) (K):ev P (.call xP [.loc 0 0 0,.d (I' t),.d (I' 55)] (cX z own H Q K))=some (.val (.tu []) (cX z t H Q K)):=by
 rw[au H6 rfl];rcases H with _ |⟨R,n⟩<;>rcases Q with nl |⟨S,off,len⟩<;>rcases K with _ |T <;>
  simp[CI,cX,lk,hV,hO,qV,qO,kV,kO,ak,cut,aM,aN,cB,cg,an,av,aq]
def rS(z:Z)(own:Int)(H:Option (List (List D)×Nat))(Q:Bool ⊕ (List (List D)×Nat×Nat))(K:Option (List (List D)))(R:List (List D)):List O :=
 lk z own (.aQ (1+(hO H).length+(qO Q).length+(kO K).length) 0 R.length) (qV Q (1+(hO H).length)) (kV K (1+(hO H).length+(qO Q).length))::(hX H++(qO Q++(kO K++[.aG 1 true R])))
theorem U9(z:Z)(own t o:Int) (Q) (K)(ho:o≠55):ev P (.call xP [.loc 0 0 0,.d (I' t),.d (I' o)] (cX z own none Q K))=some (.val (.tu []) (rS z own none Q K [[I' t]])):=by
 have hI:=Cn MZ (p:=lZ 1) rfl;have fM:(o==55)=false:=by simpa using ho
 have r1:1<=room:=by decide
 rw[au H6 rfl];rcases Q with nl |⟨S,off,len⟩<;>rcases K with _ |T <;>
  simp[CI,fM,aml,hI,lZ,jR,r1,cX,rS,lk,hV,hO,hX,qV,qO,kV,kO,az,sub,aD,back,ak,cut,aM,aN,cB,cg,an,av,aq]
theorem Js(z:Z)(own t o:Int)(l:List Int)(R:List (List D)) (Q) (K)(ho:o≠55)(hn:l.length<=1000000)(hR:l.length<=R.length)(hT:R.take l.length=bW l)(hA:iX l):
  ev P (.call xP [.loc 0 0 0,.d (I' t),.d (I' o)] (cX z own (some (R,l.length)) Q K))=some (.val (.tu []) (rS z own (some (R,l.length)) Q K (bW (eV t l)))):=by
 have hI:=Cn MZ (p:=lZ 1) rfl;have fM:(o==55)=false:=by simpa using ho
 obtain⟨b,hB⟩:=S1 l R t hn hR hT hA;have hb:=tv t l;have r1:l.length+1<=room:=by unfold room;omega
 have hlen:(eV t l).length=l.length+1:=Gi t l;have hrow:bW (eV t l)=(bW l).take (bI t l)++[I' t]::(bW l).drop (bI t l):=by unfold eV bW;simp[B3,B4]
 rw[hrow];have sC:((bW l).take (bI t l)++[I' t]::(bW l).drop (bI t l)).length=l.length+1:=by simp;omega
 have hT':R.take l.length=bW l:=hT;generalize bI t l=B at *;generalize dV:bW l=rr at *;unfold rS;rw[sC];rw[au H6 rfl];rcases Q with nl |⟨S,off,len⟩<;>rcases K with _ |T <;>
  simp[CI,fM,hB,hb,hI,lZ,jR,r1,hR,hT',cX,lk,hV,hO,hX,qV,qO,kV,kO,az,sub,aD,back,ak,cut,aM,aN,cB,cg,an,av,aq]
end Go.VS.R
namespace Go.VS.R
open Go.VS.Sp
theorem U'(t:Int):∀{l:List Int},iX l->(∀x,x∈l.take (bI t l)->x<t)/\(∀x,x∈l.drop (bI t l)->t<=x)
 | [],_=>by simp
 |a::q,hs=>by
  have hs':=gI.1 hs;by_cases hp:a<t
  .have e:bI t (a::q)=bI t q+1:=by simp[bI,oz,hp]
   obtain⟨h1,h2⟩:=U' t hs'.2;rw[e];constructor
   .intro w hw
    rw[Pz]at hw;rcases dA.1 hw with rfl |hw
    .exact hp
    .exact h1 w hw
   .intro w hw
    rw[Wv]at hw;exact h2 w hw
  .have e:bI t (a::q)=0:=by simp[bI,oz,hp]
   rw[e];refine⟨by simp,?_⟩
   intro w hw;rw[List.drop_zero]at hw;rcases dA.1 hw with rfl |hw
   .omega
   .have:=hs'.1 w hw;omega
theorem amv{t:Int}{l:List Int}(h:iX l):iX (eV t l):=by
 obtain⟨h1,h2⟩:=U' t h;unfold eV iX;rw[oA];refine⟨h.sublist (List.take_sublist _ _),gI.2 ⟨h2,h.sublist (List.drop_sublist _ _)⟩,?_⟩;intro a ha b hb;rcases dA.1 hb with rfl |hb
 .exact PM (h1 a ha)
 .exact Int.le_trans (PM (h1 a ha)) (h2 b hb)
theorem zX{α:Type}{l:List α}{x:α}:List.take (l.length+1) (l++[x])=l++[x]:=gE (by simp)
def wk(w:Sp.W):List D:=[I' w.task,I' w.op,I' 0,.b true,I' (-1)]
def jd(l:List Int)(q:List Sp.W):List Int:=q.foldl (λl w=>eV w.task l) l
def iR(i off:Nat):List Sp.W->V
 | []=>.d (.sl 5 false [])
 |r=>.aQ i off r.length
def jM(z:Z)(own:Int)(pre:List O)(S:List (List D))(off:Nat)(r:List Sp.W)(l:List Int)(k:List (List D)):List O :=
 lk z own (.aQ (pre.length+2) 0 l.length) (iR (pre.length+1) off r) (.aQ (pre.length+3) 0 k.length)::(pre++[.aG 5 true S,.aG 1 true (bW l),.aG 5 true k])
theorem amw(z:Z)(pre:List O)(hpre:pre=[]\/pre=[.dead])(S:List (List D)):∀(r:List Sp.W)(off:Nat)(l:List Int)(k:List (List D)),iX l->l.length+r.length<=100000->k.length+r.length<=100000->l≠[]->k≠[]->S.drop off=r.map Sp.W.row ->
  ev P (.loop (pre.length+2) [0] j9 [(0,.loc 0 0 0)] (jM z (-1) pre S off r l k)) =
   some (.out (.exit 0) [] (jM z (-1) pre S (off+(r.takeWhile λw=>w.op != 55).length) (r.dropWhile λw=>w.op != 55) (jd l (r.takeWhile λw=>w.op != 55)) (k++(r.takeWhile λw=>w.op != 55).map wk))):=by
 intro r;induction r with
 |nil =>
  intro off l k hA hn hk sJ pX hS;rw[bT]
  conv=>lhs;arg 4;unfold j9
  rcases hpre with rfl |rfl <;>
   simp[jM,lk,iR,jd,ak,cut,aM,aN,cB,cg,an]
 |cons w r ih =>
  intro off l k hA hn hk sJ pX hS;simp at hn hk;have DJ:S.length=off+(r.length+1):=by
   have:=congrArg List.length hS;simp at this;omega
  have hoff:off<S.length:=by omega
  have Jt:S[off]=w.row:=by
   have:=congrArg (λx=>x[0]?) hS
   simpa[qM hoff]using this
  have tD:S.drop (off+1)=r.map Sp.W.row:=by
   have:=congrArg (λx=>x.drop 1) hS
   simpa[D8]using this
  have pN:¬((l.length:Int)==0)=true:=by
   simp;exact sJ
  have kN:((l.length:Int)==0)=false:=by simpa using pN
  by_cases ho:w.op=55
  .have hF:=OE z (-1) (some (bW l,l.length)) (.inr (S,off,r.length+1)) (some k)
   have hW:=zW z (-1) (some (bW l,l.length)) (.inr (S,off,r.length+1)) (some k);simp[hlen,kN,cX,lk,hV,hO,qV,qO,kV,kO]at hF hW;have e1:((w::r).takeWhile λw=>w.op != 55)=[]:=by simp[oz,ho]
   have e2:((w::r).dropWhile λw=>w.op != 55)=w::r:=by simp[WC,ho]
   rw[e1,e2];rw[bT]
   conv=>lhs;arg 4;unfold j9
   rcases hpre with rfl |rfl <;>
    simp[jM,lk,iR,jd,ak,cut,aM,aN,cB,cg,an,hoff,Jt,DJ,Sp.W.row,ho,az,hF,hW,sub,aD,back]
  .have fM:(w.op==55)=false:=by simpa using ho
   have e1:((w::r).takeWhile λw=>w.op != 55)=w::r.takeWhile λw=>w.op != 55:=by simp[oz,ho]
   have e2:((w::r).dropWhile λw=>w.op != 55)=r.dropWhile λw=>w.op != 55:=by simp[WC,ho]
   have oc:=Gi w.task l;have bD:=ih (off+1) (eV w.task l) (k++[wk w]) (amv hA) (by omega) (by simp;omega) (by intro h;rw[h]at oc;simp at oc) (by simp) tD
   have e3:jd l ((w::r).takeWhile λw=>w.op != 55)=jd (eV w.task l) (r.takeWhile λw=>w.op != 55):=by rw[e1];rfl
   have e4:k++((w::r).takeWhile λw=>w.op != 55).map wk=k++[wk w]++(r.takeWhile λw=>w.op != 55).map wk:=by rw[e1];simp
   have e5:off+((w::r).takeWhile λw=>w.op != 55).length=off+1+(r.takeWhile λw=>w.op != 55).length:=by rw[e1];simp;omega
   rw[e2,e3,e4,e5];generalize hRR:some (dN.out (.exit 0) [] (jM z (-1) pre S (off+1+(r.takeWhile λw=>w.op != 55).length) (r.dropWhile λw=>w.op != 55) (jd (eV w.task l) (r.takeWhile λw=>w.op != 55)) (k++[wk w]++(r.takeWhile λw=>w.op != 55).map wk)))=RR at *
   have DA:k.length+1<=room:=by unfold room;omega
   have hk3:k.length+1<=100000:=by omega
   cases r with
   |nil =>
    have hW:=zW z (-1) (some (bW l,l.length)) (.inr (S,off,1)) (some k);have hG:=Js z (-1) w.task w.op l (bW l) (.inl false) (some k) ho (by omega) (by simp) (by simp[bW,bk]) hA
    simp[cX,rS,lk,hV,hO,hX,qV,qO,kV,kO,oc]at hW hG;simp at DJ;simp[jM,lk,iR,oc]at bD;rw[bT]
    conv=>lhs;arg 4;unfold j9
    rcases hpre with rfl |rfl
    .simp[jM,lk,iR,jd,ak,cut,aM,aN,cB,cg,an,hoff,Jt,DJ,Sp.W.row,fM,az,hW,hG,sub,aD,back,DA,cz,zX,wk]at bD⊢
     exact bD
    .simp[jM,lk,iR,jd,ak,cut,aM,aN,cB,cg,an,hoff,Jt,DJ,Sp.W.row,fM,az,hW,hG,sub,aD,back,DA,cz,zX,wk]at bD⊢
     exact bD
   |cons w2 r =>
    have hW:=zW z (-1) (some (bW l,l.length)) (.inr (S,off,r.length+1+1)) (some k);have hG:=Js z (-1) w.task w.op l (bW l) (.inr (S,off+1,r.length+1)) (some k) ho (by omega) (by simp) (by simp[bW,bk]) hA
    simp[cX,rS,lk,hV,hO,hX,qV,qO,kV,kO,oc]at hW hG;simp at DJ;simp[jM,lk,iR,oc]at bD;have q1:(0:Int)<r.length+1+1:=by omega
    have q2:(1:Int)<=r.length+1+1:=by omega
    have q3:(1:Int)<r.length+1+1:=by omega
    have q4:((r.length:Int)+1+1 - 1).toNat=r.length+1:=by omega
    have hle:off+(r.length+1+1)<=S.length:=by omega
    have hsub:off+(r.length+1+1) - (off+1)=r.length+1:=by omega
    rw[bT]
    conv=>lhs;arg 4;unfold j9
    rcases hpre with rfl |rfl
    .simp[jM,lk,iR,jd,ak,cut,aM,aN,cB,cg,an,hoff,q1,q2,q3,q4,Jt,DJ,Sp.W.row,fM,az,hW,hG,sub,aD,back,DA,cz,zX,wk]at bD⊢
     exact bD
    .simp[jM,lk,iR,jd,ak,cut,aM,aN,cB,cg,an,hoff,q1,q2,q3,q4,Jt,DJ,Sp.W.row,fM,az,hW,hG,sub,aD,back,DA,cz,zX,wk]at bD⊢
     exact bD
end Go.VS.R
namespace Go.VS.R
open Go.VS.Sp
theorem amx(z:Z)(own:Int) (H)(nl:Bool):ev P (.call sZ [.loc 0 0 0] (cX z own H (.inl nl) none))=some (.val (.tu []) (cX z own H (.inl nl) none)):=by
 have hL:ev P (.loop (1+(hO H).length) [0] j9 [(0,.loc 0 0 0)] (cX z own H (.inl nl) none))=some (.out (.exit 0) [] (cX z own H (.inl nl) none)):=by
  rw[bT]
  conv=>lhs;arg 4;unfold j9
  rcases H with _ |⟨R,n⟩<;>simp[cX,lk,hV,hO,qV,qO,kV,kO,ak,cut,aM,aN,cB,cg,an]
 rw[au Fa rfl];rcases H with _ |⟨R,n⟩<;>simp[cX,lk,hV,hO,qV,qO,kV,kO]at hL <;>
  simp[AR,hL,cX,lk,hV,hO,qV,qO,kV,kO,ak,cut,aM,aN,cB,cg,an,av]
theorem amy(z:Z)(own:Int) (H)(S:List (List D)):ev P (.call sZ [.loc 0 0 0] (cX z own H (.inr (S,0,0)) none))=some (.val (.tu []) (cX z own H (.inr (S,0,0)) none)):=by
 have hL:ev P (.loop (2+(hO H).length) [0] j9 [(0,.loc 0 0 0)] (cX z own H (.inr (S,0,0)) none))=some (.out (.exit 0) [] (cX z own H (.inr (S,0,0)) none)):=by
  rw[bT]
  conv=>lhs;arg 4;unfold j9
  rcases H with _ |⟨R,n⟩<;>simp[cX,lk,hV,hO,qV,qO,kV,kO,ak,cut,aM,aN,cB,cg,an]
 rw[au Fa rfl];rcases H with _ |⟨R,n⟩<;>simp[cX,lk,hV,hO,qV,qO,kV,kO]at hL <;>
  simp[AR,hL,cX,lk,hV,hO,qV,qO,kV,kO,ak,cut,aM,aN,cB,cg,an,av]
theorem amz(z:Z)(own:Int) (H)(w:Sp.W)(r:List Sp.W)(h:own≠-1\/(w.op=55/\hlen H≠0)):
  ev P (.call sZ [.loc 0 0 0] (cX z own H (.inr ((w::r).map Sp.W.row,0,r.length+1)) none))=some (.val (.tu []) (cX z own H (.inr ((w::r).map Sp.W.row,0,r.length+1)) none)):=by
 have hW:=zW z own H (.inr ((w::r).map Sp.W.row,0,r.length+1)) none;have hF:=OE z own H (.inr ((w::r).map Sp.W.row,0,r.length+1)) none;have hL:ev P (.loop (2+(hO H).length) [0] j9 [(0,.loc 0 0 0)] (cX z own H (.inr ((w::r).map Sp.W.row,0,r.length+1)) none))=some (.out (.exit 0) [] (cX z own H (.inr ((w::r).map Sp.W.row,0,r.length+1)) none)):=by
  rw[bT]
  conv=>lhs;arg 4;unfold j9
  cases ho:own != -1
  .have fM:own = -1:=by simpa using ho
   subst fM;obtain⟨h1,h2⟩:w.op=55/\hlen H≠0:=by simpa using h
   have h3:((hlen H:Int)==0)=false:=by simpa using h2
   rw[ho]at hW;rw[h3]at hF;rcases H with _ |⟨R,n⟩<;>simp[cX,lk,hV,hO,qV,qO,kV,kO,Sp.W.row,h1]at hW hF <;>
    simp[cX,lk,hV,hO,qV,qO,kV,kO,ak,cut,aM,aN,cB,cg,an,az,hW,hF,h1,sub,aD,back,Sp.W.row]
  .rw[ho]at hW
   rcases H with _ |⟨R,n⟩<;>simp[cX,lk,hV,hO,qV,qO,kV,kO,Sp.W.row]at hW <;>
    simp[cX,lk,hV,hO,qV,qO,kV,kO,ak,cut,aM,aN,cB,cg,an,az,hW,sub,aD,back,Sp.W.row]
 rw[au Fa rfl];rcases H with _ |⟨R,n⟩<;>simp[cX,lk,hV,hO,qV,qO,kV,kO]at hL <;>
  simp[AR,hL,cX,lk,hV,hO,qV,qO,kV,kO,ak,cut,aM,aN,cB,cg,an,av]
def oh(z:Z)(own:Int)(H:Option (List (List D)×Nat))(S:List (List D))(r:List Sp.W)(k:List D):List O :=
 lk z own (hV H 1) (iR (1+(hO H).length) 1 r) (.aQ (2+(hO H).length) 0 1)::(hO H++[.aG 5 true S,.aG 5 true [k]])
theorem amA(z:Z) (H)(w:Sp.W)(r:List Sp.W)(h:w.op=55)(hH:hlen H=0)(ht:w.task≠-1):
  ev P (.call sZ [.loc 0 0 0] (cX z (-1) H (.inr ((w::r).map Sp.W.row,0,r.length+1)) none))=some (.val (.tu []) (oh z w.task H ((w::r).map Sp.W.row) r (wk w))):=by
 have r1:1<=room:=by decide
 have wK:(w.task != -1)=true:=by simpa using ht
 have hL:ev P (.loop (2+(hO H).length) [0] j9 [(0,.loc 0 0 0)] (cX z (-1) H (.inr ((w::r).map Sp.W.row,0,r.length+1)) none))=some (.out (.exit 0) [] (oh z w.task H ((w::r).map Sp.W.row) r (wk w))):=by
  have hW:=zW z (-1) H (.inr ((w::r).map Sp.W.row,0,r.length+1)) none;have hF:=OE z (-1) H (.inr ((w::r).map Sp.W.row,0,r.length+1)) none;have hFt:((-1:Int) == -1&&((hlen H:Nat):Int)==0)=true:=by rw[hH];decide
  rw[hFt]at hF;cases r with
  |nil =>
   have hG:=U8 z (-1) w.task H (.inl false) none;rw[bT]
   conv=>lhs;arg 4;unfold j9
   rcases H with _ |⟨R,n⟩
   .simp[cX,lk,hV,hO,qV,qO,kV,kO,Sp.W.row,h]at hW hF hG
    simp[cX,oh,lk,hV,hO,qV,qO,kV,kO,iR,ak,cut,aM,aN,cB,cg,an,az,hW,hF,hG,h,r1,sub,aD,back,Sp.W.row,wk];rw[bT]
    conv=>lhs;arg 4;unfold j9
    simp[ak,cut,aM,aN,cB,cg,an]
   .simp[cX,lk,hV,hO,qV,qO,kV,kO,Sp.W.row,h]at hW hF hG
    simp[cX,oh,lk,hV,hO,qV,qO,kV,kO,iR,ak,cut,aM,aN,cB,cg,an,az,hW,hF,hG,h,r1,sub,aD,back,Sp.W.row,wk];rw[bT]
    conv=>lhs;arg 4;unfold j9
    simp[ak,cut,aM,aN,cB,cg,an]
  |cons w2 r =>
   have hG:=U8 z (-1) w.task H (.inr ((w::w2::r).map Sp.W.row,1,r.length+1)) none;have Ju:=zW z w.task H (.inr ((w::w2::r).map Sp.W.row,1,r.length+1)) (some [wk w]);rw[wK]at Ju;have q1:(0:Int)<r.length+1+1:=by omega
   have q2:(1:Int)<=r.length+1+1:=by omega
   have q3:(1:Int)<r.length+1+1:=by omega
   have q4:((r.length:Int)+1+1 - 1).toNat=r.length+1:=by omega
   rw[bT]
   conv=>lhs;arg 4;unfold j9
   rcases H with _ |⟨R,n⟩
   .simp[cX,lk,hV,hO,qV,qO,kV,kO,Sp.W.row,wk,h]at hW hF hG Ju
    simp[cX,oh,lk,hV,hO,qV,qO,kV,kO,iR,ak,cut,aM,aN,cB,cg,an,az,hW,hF,hG,h,q1,q2,q3,q4,r1,sub,aD,back,Sp.W.row,wk];rw[bT]
    conv=>lhs;arg 4;unfold j9
    simp[ak,cut,aM,aN,cB,cg,an,az,Ju,sub,aD,back]
   .simp[cX,lk,hV,hO,qV,qO,kV,kO,Sp.W.row,wk,h]at hW hF hG Ju
    simp[cX,oh,lk,hV,hO,qV,qO,kV,kO,iR,ak,cut,aM,aN,cB,cg,an,az,hW,hF,hG,h,q1,q2,q3,q4,r1,sub,aD,back,Sp.W.row,wk];rw[bT]
    conv=>lhs;arg 4;unfold j9
    simp[ak,cut,aM,aN,cB,cg,an,az,Ju,sub,aD,back]
 rw[au Fa rfl];cases r<;>rcases H with _ |⟨R,n⟩<;>simp[cX,oh,lk,hV,hO,qV,qO,kV,kO,iR,wk]at hL <;>
  simp[AR,hL,cX,oh,lk,hV,hO,qV,qO,kV,kO,iR,wk,ak,cut,aM,aN,cB,cg,an,av]
def hL:Option (List (List D)×Nat)->List Int->Prop
 |none,l=>l=[]
 |some (R,n),l=>n=l.length/\l.length<=R.length/\R.take l.length=bW l
theorem amB(z:Z) (H)(l:List Int)(w:Sp.W)(r:List Sp.W)(h:w.op≠55)(hH:hL H l)(hA:iX l)(h1:l.length<=1000)(h2:r.length<=1000):
  ev P (.call sZ [.loc 0 0 0] (cX z (-1) H (.inr ((w::r).map Sp.W.row,0,r.length+1)) none)) =
   some (.val (.tu []) (jM z (-1) (hX H) ((w::r).map Sp.W.row) (1+(r.takeWhile λw=>w.op != 55).length) (r.dropWhile λw=>w.op != 55) (jd (eV w.task l) (r.takeWhile λw=>w.op != 55)) (wk w::(r.takeWhile λw=>w.op != 55).map wk))):=by
 have r1:1<=room:=by decide
 have fM:(w.op==55)=false:=by simpa using h
 have oc:=Gi w.task l;have hG:=amw z (hX H) (by cases H;exact .inl rfl;exact .inr rfl) ((w::r).map Sp.W.row) r 1 (eV w.task l) [wk w] (amv hA) (by omega) (by simp;omega) (by intro h;rw[h]at oc;simp at oc) (by simp) (by simp)
 have hL:ev P (.loop (2+(hO H).length) [0] j9 [(0,.loc 0 0 0)] (cX z (-1) H (.inr ((w::r).map Sp.W.row,0,r.length+1)) none)) =
   some (.out (.exit 0) [] (jM z (-1) (hX H) ((w::r).map Sp.W.row) (1+(r.takeWhile λw=>w.op != 55).length) (r.dropWhile λw=>w.op != 55) (jd (eV w.task l) (r.takeWhile λw=>w.op != 55)) (wk w::(r.takeWhile λw=>w.op != 55).map wk))):=by
  have e1:[wk w]++(r.takeWhile λw=>w.op != 55).map wk=wk w::(r.takeWhile λw=>w.op != 55).map wk:=rfl
  rw[e1]at hG;generalize some (dN.out (.exit 0) [] (jM z (-1) (hX H) ((w::r).map Sp.W.row) (1+(r.takeWhile λw=>w.op != 55).length) (r.dropWhile λw=>w.op != 55) (jd (eV w.task l) (r.takeWhile λw=>w.op != 55)) (wk w::(r.takeWhile λw=>w.op != 55).map wk)))=RR at *
  have hW:=zW z (-1) H (.inr ((w::r).map Sp.W.row,0,r.length+1)) none;rcases H with _ |⟨R,n⟩
  .obtain rfl:l=[]:=hH
   have e0:eV w.task []=[w.task]:=rfl;cases r with
   |nil =>
    have xg:=U9 z (-1) w.task w.op (.inl false) none h;simp[cX,rS,jM,lk,hV,hO,hX,qV,qO,kV,kO,iR,Sp.W.row,wk,e0]at hW xg hG;rw[bT]
    conv=>lhs;arg 4;unfold j9
    simp[cX,lk,hV,hO,qV,qO,kV,kO,ak,cut,aM,aN,cB,cg,an,az,hW,xg,fM,r1,sub,aD,back,Sp.W.row];exact hG
   |cons w2 r =>
    have xg:=U9 z (-1) w.task w.op (.inr ((w::w2::r).map Sp.W.row,1,r.length+1)) none h;have q1:(0:Int)<r.length+1+1:=by omega
    have q2:(1:Int)<=r.length+1+1:=by omega
    have q3:(1:Int)<r.length+1+1:=by omega
    have q4:((r.length:Int)+1+1 - 1).toNat=r.length+1:=by omega
    simp[cX,rS,jM,lk,hV,hO,hX,qV,qO,kV,kO,iR,Sp.W.row,wk,e0]at hW xg hG;rw[bT]
    conv=>lhs;arg 4;unfold j9
    simp[cX,lk,hV,hO,qV,qO,kV,kO,ak,cut,aM,aN,cB,cg,an,az,hW,xg,fM,r1,q1,q2,q3,q4,sub,aD,back,Sp.W.row];exact hG
  .obtain⟨rfl,hR,hT⟩:=hH
   cases r with
   |nil =>
    have xg:=Js z (-1) w.task w.op l R (.inl false) none h (by omega) hR hT hA
    simp[cX,rS,jM,lk,hV,hO,hX,qV,qO,kV,kO,iR,Sp.W.row,wk,oc]at hW xg hG;rw[bT]
    conv=>lhs;arg 4;unfold j9
    simp[cX,lk,hV,hO,qV,qO,kV,kO,ak,cut,aM,aN,cB,cg,an,az,hW,xg,fM,r1,sub,aD,back,Sp.W.row];exact hG
   |cons w2 r =>
    have xg:=Js z (-1) w.task w.op l R (.inr ((w::w2::r).map Sp.W.row,1,r.length+1)) none h (by omega) hR hT hA
    have q1:(0:Int)<r.length+1+1:=by omega
    have q2:(1:Int)<=r.length+1+1:=by omega
    have q3:(1:Int)<r.length+1+1:=by omega
    have q4:((r.length:Int)+1+1 - 1).toNat=r.length+1:=by omega
    simp[cX,rS,jM,lk,hV,hO,hX,qV,qO,kV,kO,iR,Sp.W.row,wk,oc]at hW xg hG;rw[bT]
    conv=>lhs;arg 4;unfold j9
    simp[cX,lk,hV,hO,qV,qO,kV,kO,ak,cut,aM,aN,cB,cg,an,az,hW,xg,fM,r1,q1,q2,q3,q4,sub,aD,back,Sp.W.row];exact hG
 generalize (r.takeWhile λw=>w.op != 55)=tk at *
 generalize (r.dropWhile λw=>w.op != 55)=dk at *
 rw[au Fa rfl];cases dk<;>rcases H with _ |⟨R,n⟩<;>simp[cX,jM,lk,hV,hO,hX,qV,qO,kV,kO,iR]at hL <;>
  simp[AR,hL,cX,jM,lk,hV,hO,hX,qV,qO,kV,kO,iR,ak,cut,aM,aN,cB,cg,an,av]
end Go.VS.R
namespace Go.VS.R
open Go.VS.Sp
def hS(n:Bool)(l:List Int):Option (List (List D)×Nat):=if n=true then none else some (bW l,l.length)
def qS(n:Bool)(q:List Sp.W):Bool ⊕ (List (List D)×Nat×Nat):=if n=true then .inl true else .inr (q.map Sp.W.row,0,q.length)
def bM(z:Z)(own:Int):O:=.aG 10 true [[I' own,z.c1,z.c2,.sl 1 true [],.sl 5 true [],z.c5,z.c6,z.c7,z.c8,.sl 5 true []]]
def kj(z:Z)(own:Int)(hn:Bool)(H:List Int)(qn:Bool)(Q:List Sp.W):List O:=if(hn&&qn)=true then[bM z own]else cX z own (hS hn H) (qS qn Q) none
theorem Gj(z:Z)(own:Int)(hn:Bool)(H:List Int)(qn:Bool)(Q:List Sp.W)(h1:hn=true->H=[])(h2:qn=true->Q=[])(h3:H.length<=1000000)(h4:Q.length<=1000000):
  ev P (.call Hf [.d (.ag [I' own,z.c1,z.c2,hD hn H,qD qn Q,z.c5,z.c6,z.c7,z.c8])] [])=some (.val (.loc 0 0 0) (kj z own hn H qn Q)):=by
 have hC:=tw hn H h1 h3;have Jv:=w9 qn Q h2 h4;rw[au ad1 rfl];cases hn<;>cases qn<;>simp at hC Jv <;>
  simp[RB,hC,Jv,aI,eK,fO,V.aV,hS,qS,kj,bM,cX,lk,hV,hO,qV,qO,kV,kO,ak,cut,aM,aN,cB,cg,an,av,aq]
theorem amC{n:Bool}{l:List Int}(h:n=true->l=[]):hL (hS n l) l:=by
 unfold hS hL;cases n
 .simp[bW,bk]
 .simp[h rfl]
theorem amD{n:Bool}{l:List Int}(h:n=true->l=[]):hlen (hS n l)=l.length:=by
 unfold hS hlen;cases n
 .simp
 .simp[h rfl]
def xh(own:Int)(H:List Int)(w:Sp.W):Bool:=(w.op != 53&&w.op != 55)||w.value != 0||w.case != -1||ia own H w.task != 0
def pZ(own:Int)(H:List Int):List Sp.W->List Sp.W->Bool
 |_,[]=>true
 |pre,w::r=>!pre.any (λx=>x.task==w.task)&&!xh own H w&&pZ own H (pre++[w]) r
theorem fd_eq{pre:List Sp.W}{w:Sp.W}{r:List Sp.W}:((ju (pre++w::r) w.task).1==(pre.length:Int))=!pre.any (λx=>x.task==w.task):=by
 unfold ju;rw[Wj];cases h:pre.findIdx? (λx=>x.task==w.task)with
 |none =>
  have:pre.any (λx=>x.task==w.task)=false:=by
   rw[qL];rw[JY]at h;intro x hx;rw[h x hx];decide
  rw[this];simp[xz]
 |some k =>
  obtain⟨h1,h2⟩:=GG.1 h
  have:pre.any (λx=>x.task==w.task)=true:=rV.2 ⟨_,vw _,h2.1⟩
  rw[this];simp;omega
theorem amE(own:Int)(c1 c2 c5 c6 c7 c8:D)(hn:Bool)(H:List Int)(qn:Bool)(Q:List Sp.W)(h3:H.length<=1000000)(h4:Q.length<=1000000):∀(suf pre:List Sp.W),Q=pre++suf ->
  ev P (.loop 0 [1,13,14,15] E0 [(1,.d (.ref [I' own,c1,c2,hD hn H,qD qn Q,c5,c6,c7,c8])),(13,.d (qD qn Q)),(14,.d (I' Q.length)),(15,.d (I' pre.length))] []) =
   if pZ own H pre suf=true then some (.out (.exit 0) [(1,.d (.ref [I' own,c1,c2,hD hn H,qD qn Q,c5,c6,c7,c8]))] [])else some (.out .ret [(2,.d (.b false))] []):=by
 intro suf;induction suf with
 |nil =>
  intro pre hl
  have:Q.length=pre.length:=by simp[hl]
  rw[bT]
  conv=>lhs;arg 4;unfold E0
  simp[this,pZ]
 |cons w suf ih =>
  intro pre hl;have hg:Q[pre.length]?=some w:=by simp[hl]
  have hlt:(pre.length:Int)<Q.length:=by simp[hl];omega
  have hnext:IntKind.i64.wrap ((pre.length:Int)+1)=pre.length+1:=wrap_i64 (by omega) (by omega)
  have bD:=ih (pre++[w]) (by simp[hl])
  have hF:=lD qn Q w.task h4;have hH:=Gg own c1 c2 (qD qn Q) c5 c6 c7 c8 hn H w.task h3;have nX:((ju Q w.task).1==(pre.length:Int))=!pre.any (λx=>x.task==w.task):=by rw[hl];exact fd_eq
  have e1:pZ own H pre (w::suf)=(!pre.any (λx=>x.task==w.task)&&!xh own H w&&pZ own H (pre++[w]) suf):=rfl
  rw[e1];generalize pZ own H (pre++[w]) suf=dd at *;generalize (ju Q w.task).1=fi at *;generalize (ju Q w.task).2=fb at *;simp at bD;rw[bT]
  conv=>lhs;arg 4;unfold E0
  cases ha:pre.any (λx=>x.task==w.task)
  .rw[ha]at nX
   have rB:(fi != (pre.length:Int))=false:=by simp[bne,nX]
   cases hb:((w.op != 53&&w.op != 55)||w.value != 0||w.case != -1||ia own H w.task != 0)
   .have kK:xh own H w=false:=hb
    have p1:(w.op != 53&&w.op != 55)=false:=by cases h:(w.op != 53&&w.op != 55)<;>simp_all
    have p2:(w.value != 0)=false:=by cases h:(w.value != 0)<;>simp_all
    have p3:(w.case != -1)=false:=by cases h:(w.case != -1)<;>simp_all
    have p4:(ia own H w.task != 0)=false:=by cases h:(ia own H w.task != 0)<;>simp_all
    simp[hlt,hg,Sp.W.row,hF,rB,hH,p1,p2,p3,p4,hnext,kK];exact bD
   .have kK:xh own H w=true:=hb
    simp[hlt,hg,Sp.W.row,hF,rB,hH,hb,kK]
  .rw[ha]at nX
   have rB:(fi != (pre.length:Int))=true:=by simp[bne,nX]
   simp[hlt,hg,Sp.W.row,hF,rB]
def stay(own:Int)(H:List Int):List Sp.W->Bool
 | []=>true
 |w::_=>own != -1||(w.op==55&&!H.isEmpty)
theorem Ig{Q:List Sp.W}(h:ej Q=0):Q.length<=96/\∀w,w∈Q->dL w=true:=by
 unfold ej at h;by_cases h1:96<Q.length
 .rw[aK h1]at h;cases h
 .rw[aE h1]at h
  refine⟨by omega,?_⟩
  have:∀(l:List Sp.W)(p:Option Sp.W),fU 1 p l=0->∀w,w∈l->dL w=true:=by
   intro l;induction l with
   |nil=>simp
   |cons a r ih =>
    intro p h w hw;unfold fU at h;cases hv:dL a
    .rw[hv]at h;simp at h
    .rw[hv]at h
     simp at h;rcases dA.1 hw with e |hw
     .rw[e];exact hv
     .exact ih _ h w hw
  exact this Q none h
theorem nx{w:Sp.W}(h:dL w=true):0<=w.task/\w.task<16:=by
 unfold dL kI at h;simp at h;omega
theorem amF(z:Z)(own:Int)(hn:Bool)(H:List Int)(qn:Bool)(Q:List Sp.W)(h1:hn=true->H=[])(h2:qn=true->Q=[])(h3:H.length<=1000)(h4:Q.length<=1000000)(hA:iX H):
  ev P (.call Ld [.d (.ag [I' own,z.c1,z.c2,hD hn H,qD qn Q,z.c5,z.c6,z.c7,z.c8])] [])=some (.val (.d (.b (ej Q==0&&(pZ own H [] Q&&stay own H Q)))) []):=by
 have hW:=uI qn Q;have hL:=amE own z.c1 z.c2 z.c5 z.c6 z.c7 z.c8 hn H qn Q (by omega) h4 Q [] rfl
 have dY:=Gj z own hn H qn Q h1 h2 (by omega) h4
 have jI:=amD h1;have hLS:=amC h1;rw[au X0 rfl];cases hw:ej Q==0
 .have dO:(ej Q != 0)=true:=by simp[bne,hw]
  simp[tg,hW,dO]
 .have dO:(ej Q != 0)=false:=by simp[bne,hw]
  obtain⟨mV,Bf⟩:=Ig (by simpa using hw)
  cases hq:pZ own H [] Q
  .rw[hq]at hL
   simp at hL;simp[tg,hW,dO,hL]
  .rw[hq]at hL
   simp at hL;cases Q with
   |nil =>
    simp at hL;simp[tg,hW,dO,hL,stay]
   |cons w r =>
    simp at hL;have jY:qn=false:=by cases qn;rfl;exact absurd (h2 rfl) (by simp)
    subst jY;have qe:qS false (w::r) = .inr ((w::r).map Sp.W.row,0,r.length+1):=by simp[qS]
    have z1:¬((r.length:Int)+1=0):=by omega
    have z2:((r.length:Int)+1==0)=false:=by simp;omega
    have BI:=nx (Bf w (by simp))
    have zG:kj z own hn H false (w::r)=cX z own (hS hn H) (.inr ((w::r).map Sp.W.row,0,r.length+1)) none:=by simp[kj,qe]
    rw[zG]at dY;by_cases hs:own≠-1\/(w.op=55/\hlen (hS hn H)≠0)
    .have hst:stay own H (w::r)=true:=by
      unfold stay;rw[jI]at hs;rcases hs with hs |⟨yx,wW⟩
      .simp[hs]
      .simp[yx];right;intro h;rw[h]at wW;exact wW rfl
     have gu:=amz z own (hS hn H) w r hs;rw[hst];cases hn
     .simp[hS,cX,lk,hV,hO,qV,qO,kV,kO]at dY gu
      simp[tg,hW,dO,hL,z1,z2,dY,aI,az,gu,ak,cut,aM,aN,cB,cg,an,sub,aD,back]
     .simp[hS,cX,lk,hV,hO,qV,qO,kV,kO]at dY gu
      simp[tg,hW,dO,hL,z1,z2,dY,aI,az,gu,ak,cut,aM,aN,cB,cg,an,sub,aD,back]
    .have ho:own = -1:=vE λh=>hs (.inl h)
     subst ho;have hst:stay (-1) H (w::r)=false:=by
      unfold stay;simp;intro h
      have:hlen (hS hn H)=0:=vE λh'=>hs (.inr ⟨h,h'⟩)
      rw[jI]at this;exact Cb.1 this
     rw[hst];by_cases lH:w.op=55
     .have hh1:hlen (hS hn H)=0:=vE λh'=>hs (.inr ⟨lH,h'⟩)
      have gu:=amA z (hS hn H) w r lH hh1 (by omega)
      cases hn
      .cases r with
       |nil =>
        simp at hL;simp[hS,cX,oh,lk,hV,hO,qV,qO,kV,kO,iR]at dY gu;simp[tg,hW,dO,hL,z1,z2,dY,aI,az,gu,ak,cut,aM,aN,cB,cg,an,sub,aD,back]
       |cons w2 r =>
        simp at hL;have z5:((r.length:Int)+1+1==0)=false:=by simp;omega
        have z6:¬((r.length:Int)+1+1=0):=by omega
        simp[hS,cX,oh,lk,hV,hO,qV,qO,kV,kO,iR]at dY gu;simp[tg,hW,dO,hL,z5,z6,dY,aI,az,gu,ak,cut,aM,aN,cB,cg,an,sub,aD,back]
      .cases r with
       |nil =>
        simp at hL;simp[hS,cX,oh,lk,hV,hO,qV,qO,kV,kO,iR]at dY gu;simp[tg,hW,dO,hL,z1,z2,dY,aI,az,gu,ak,cut,aM,aN,cB,cg,an,sub,aD,back]
       |cons w2 r =>
        simp at hL;have z5:((r.length:Int)+1+1==0)=false:=by simp;omega
        have z6:¬((r.length:Int)+1+1=0):=by omega
        simp[hS,cX,oh,lk,hV,hO,qV,qO,kV,kO,iR]at dY gu;simp[tg,hW,dO,hL,z5,z6,dY,aI,az,gu,ak,cut,aM,aN,cB,cg,an,sub,aD,back]
     .have gu:=amB z (hS hn H) H w r lH hLS hA h3 (by simp at mV;omega)
      generalize (r.takeWhile λw=>w.op != 55)=tk at *
      generalize (r.dropWhile λw=>w.op != 55)=dk at *
      have z3:¬((tk.length:Int)+1=0):=by omega
      have z4:((tk.length:Int)+1==0)=false:=by simp;omega
      cases hn<;>cases dk <;>
      .simp[hS,cX,jM,lk,hV,hO,hX,qV,qO,kV,kO,iR]at dY gu
       simp[tg,hW,dO,hL,z1,z2,z3,z4,dY,aI,az,gu,ak,cut,aM,aN,cB,cg,an,sub,aD,back]
end Go.VS.R
namespace Go.VS.R
open Go.VS.Sp
theorem amG{α:Type}(l:List α):l=[]\/∃a x,l=a++[x]:=by
 rcases Aq l with h |⟨a,x,h⟩
 .exact .inl h
 .exact .inr ⟨a,x,by simpa using h⟩
def vh:List Int->List Int->Bool
 |_,[]=>true
 |pre,x::r=>!(!cW x||pre.getLast?.any (λy=>decide (x<=y)))&&vh (pre++[x]) r
theorem U0(own:Int)(c1 c2 c5 c6 c7 c8 qd:D)(hn:Bool)(H:List Int)(h3:H.length<=1000000):∀(suf pre:List Int),H=pre++suf ->
  ev P (.loop 0 [1,52,53,54] AQ [(1,.d (.ref [I' own,c1,c2,hD hn H,qd,c5,c6,c7,c8])),(52,.d (hD hn H)),(53,.d (I' H.length)),(54,.d (I' pre.length))] []) =
   if vh pre suf=true then some (.out (.exit 0) [(1,.d (.ref [I' own,c1,c2,hD hn H,qd,c5,c6,c7,c8]))] [])else some (.out .ret [(2,.d (.b false))] []):=by
 intro suf;induction suf with
 |nil =>
  intro pre hl
  have:H.length=pre.length:=by simp[hl]
  rw[bT]
  conv=>lhs;arg 4;unfold AQ
  simp[this,vh]
 |cons x suf ih =>
  intro pre hl;have hg:H[pre.length]?=some x:=by simp[hl]
  have hlt:(pre.length:Int)<H.length:=by simp[hl];omega
  have hnext:IntKind.i64.wrap ((pre.length:Int)+1)=pre.length+1:=wrap_i64 (by omega) (by omega)
  have bD:=ih (pre++[x]) (by simp[hl])
  have e1:vh pre (x::suf)=(!(!cW x||pre.getLast?.any (λy=>decide (x<=y)))&&vh (pre++[x]) suf):=rfl
  rw[e1];generalize vh (pre++[x]) suf=dd at *;simp at bD;rw[bT]
  conv=>lhs;arg 4;unfold AQ
  cases ht:cW x
  .simp[hlt,hg,gh,ht]
  .rcases amG pre with rfl |⟨pre',p,rfl⟩
   .have h0:0<H.length:=by simp[hl]
    have CQ:∀h:0<H.length,H[0]=x:=λh=>by simpa[qM h]using hg
    simp at bD;simp[h0,CQ,gh,ht,vY];exact bD
   .have mC:H[pre'.length]?=some p:=by simp[hl]
    have jF:(pre'.length:Int)+1<H.length:=by simpa using hlt
    have dO:IntKind.i64.wrap (pre'.length:Int)=pre'.length:=wrap_i64 (by omega) (by omega)
    have h0:(0:Int)<pre'.length+1:=by omega
    have h1:(0:Int)<=pre'.length+1:=by omega
    have hn2:IntKind.i64.wrap ((pre'.length:Int)+1+1)=pre'.length+1+1:=wrap_i64 (by omega) (by omega)
    simp only[lT,tY]at hg;simp at bD;by_cases hp:x<=p
    .simp[jF,hg,mC,dO,h0,h1,gh,ht,hp]
    .simp[jF,hg,mC,dO,h0,h1,gh,ht,hp,hn2]
     exact bD
def OF(own cnt time:Int)(H B:List Int)(C:List (List D))(cl:Bool)(val:Int):Bool :=
 own != -1&&(!cW own||decide (0<H.length))||cnt != 0||time != 0||decide (0<B.length)||decide (0<C.length)||cl||val != 0
def jK(own cnt time:Int)(H:List Int)(Q:List Sp.W)(B:List Int)(C:List (List D))(cl:Bool)(val:Int):Bool :=
 !OF own cnt time H B C cl val&&(vh [] H&&(ej Q==0&&(pZ own H [] Q&&stay own H Q)))
theorem amH:∀{suf pre:List Int},iX pre->(∀x,x∈pre->∀y,y∈pre.getLast?->x<=y)->vh pre suf=true->iX (pre++suf)
 | [],pre,hA,_,_=>by simpa using hA
 |x::r,pre,hA,hm,h=>by
  have e1:vh pre (x::r)=(!(!cW x||pre.getLast?.any (λy=>decide (x<=y)))&&vh (pre++[x]) r):=rfl
  rw[e1]at h;simp at h;obtain⟨⟨_,h2⟩,h3⟩:=h;have hx:∀y,y∈pre->y<=x:=by
   intro y hy;cases hp:pre.getLast? with
   |none =>
    have:pre=[]:=by simpa using hp
    rw[this]at hy;cases hy
   |some p =>
    have:=hm y hy p (by simp[hp])
    have:=qL.1 (by simpa[hp]using h2:([p]:List Int).any (λy=>decide (x<=y))=false) p (by simp)
    simp at this;omega
  have Va:iX (pre++[x]):=by
   unfold iX;rw[oA];exact⟨hA,WD _ _,λa ha b hb=>by simp at hb;rw[hb];exact hx a ha⟩
  have:=amH Va (by
   intro y hy p hp;simp at hp;subst hp;simp at hy;rcases hy with hy |hy
   .exact hx y hy
   .omega) h3
  simpa using this
theorem amI{H:List Int}(h:vh [] H=true):iX H:=by
 have:=amH (pre:=[]) (suf:=H) List.Pairwise.nil (by simp) h
 simpa using this
theorem U1(own cnt time:Int)(hn:Bool)(H:List Int)(qn:Bool)(Q:List Sp.W)(bn:Bool)(B:List Int)(cn:Bool)(C:List (List D))(cl:Bool)(val:Int)
  (hh:hn=true->H=[])(hq:qn=true->Q=[])(h1:H.length<=1000)(h2:Q.length<=1000000):
  ev P (.call KR [.d (.ag [I' own,I' cnt,I' time,hD hn H,qD qn Q,hD bn B,cD cn C,.b cl,I' val])] [])=some (.val (.d (.b (jK own cnt time H Q B C cl val))) []):=by
 have hL:=U0 own (I' cnt) (I' time) (hD bn B) (cD cn C) (.b cl) (I' val) (qD qn Q) hn H (by omega) H [] rfl
 simp at hL;rw[au XL rfl];unfold jK;simp[EM,gh];cases hA:(own != -1&&(!cW own||decide (0<H.length))||cnt != 0||time != 0||decide (0<B.length)||decide (0<C.length)||cl||val != 0)
 .have hF:OF own cnt time H B C cl val=false:=hA
  rw[hF];cases hv:vh [] H
  .rw[hv]at hL
   simp at hL;simp[hL]
  .rw[hv]at hL
   simp at hL;have hQ:=amF ⟨I' cnt,I' time,hD bn B,cD cn C,.b cl,I' val⟩ own hn H qn Q hh hq h1 h2 (amI hv);simp only at hQ;have e2:(!false&&(true&&(ej Q==0&&(pZ own H [] Q&&stay own H Q))))=(ej Q==0&&(pZ own H [] Q&&stay own H Q)):=by simp
   rw[e2];generalize (ej Q==0&&(pZ own H [] Q&&stay own H Q))=R at *;simp[hL,hQ]
 .have hF:OF own cnt time H B C cl val=true:=hA
  rw[hF];simp
theorem qu(nm:D)(k sz ot:Int)(own cnt time:Int)(hn:Bool)(H:List Int)(qn:Bool)(Q:List Sp.W)(bn:Bool)(B:List Int)(cn:Bool)(C:List (List D))(cl:Bool)(val:Int)
  (hh:hn=true->H=[])(hq:qn=true->Q=[])(h1:H.length<=1000)(h2:Q.length<=1000000):
  ev P (.call l5 [.d (.ag [nm,I' k,I' sz,I' ot]),.d (.ag [I' own,I' cnt,I' time,hD hn H,qD qn Q,hD bn B,cD cn C,.b cl,I' val])] []) =
   some (.val (.d (I' (if dQ k sz ot=0 then(if jK own cnt time H Q B C cl val then 0 else 1)else dQ k sz ot))) []):=by
 have hv:=U1 own cnt time hn H qn Q bn B cn C cl val hh hq h1 h2;rw[au XA rfl];cases hm:dQ k sz ot==0
 .have hm':dQ k sz ot≠0:=by simpa using hm
  have hm2:(dQ k sz ot != 0)=true:=by simpa using hm'
  simp[ED,tj,hm',hm2,ct]
 .have hm':dQ k sz ot=0:=by simpa using hm
  simp[ED,tj,hm',gn,hv];cases jK own cnt time H Q B C cl val<;>simp
def Vb(l:List Sp.W):Int:=if 96<l.length then 4 else if l.all dL=true then 0 else 2
theorem amJ(l:List Sp.W):Vb l=ej l:=by
 have:∀(l:List Sp.W)(p:Option Sp.W),fU 1 p l=if l.all dL=true then 0 else 2:=by
  intro l;induction l with
  |nil=>intro p;rfl
  |cons a r ih =>
   intro p;unfold fU;cases hv:dL a
   .simp[hv]
   .simp[hv,ih]
 unfold Vb ej;rw[this]
end Go.VS.R
namespace Go.VS.R
open Go.VS.Sp
def amK(own:Int)(H:List Int):List Sp.W->Bool
 | []=>false
 |w::_=>if w.op=53 then decide (own<0)else(decide (own<0)&&H.isEmpty)
end Go.VS.R
namespace Go.VS.R
open Go.VS.Sp
theorem yB{α β:Type}{f:α->β}{l:List α}{x:β}:List.take (l.length+1) (l.map f++[x])=l.map f++[x]:=gE (by simp)
def Vc(n:Int):Bool->List Int->List Int
 |d,[]=>if d=true then[]else[n]
 |d,x::r=>if(!d&&decide (n<x))=true then n::x::Vc n true r else x::Vc n d r
end Go.VS.R
namespace Go.VS.R
open Go.VS.Sp
def rT:Int->List Int->List Sp.W->Int×List Int×List Sp.W×List Sp.W
 |own,H,[]=>(own,H,[],[])
 |own,H,w::r =>
  if amK own H (w::r)=true then
   (
    if w.op=53 then let x:=rT own (Vc w.task false H) r;(x.1,x.2.1,x.2.2.1,w::x.2.2.2)
    else let x:=rT w.task H r;(x.1,x.2.1,x.2.2.1,w::x.2.2.2))
  else(own,H,w::r,[])
abbrev Gk(z:Z)(own:Int)(hn:Bool)(H:List Int)(qn:Bool)(Q:List Sp.W)(parked:Bool)(ok:Bool)(kn:Bool)(k:List (List D)):D :=
 .ag [I' own,z.c1,z.c2,hD hn H,qD qn Q,z.c5,z.c6,z.c7,z.c8,.b parked,I' 0,.b ok,.sl 5 kn k]
end Go.VS.R
namespace Go.VS.R
open Go.VS.Sp
theorem amL(z:Z)(own:Int):ev P (.call Cw [.loc 0 0 0] [bM z own])=some (.val (.d (.b (own != -1))) [bM z own]):=by
 rw[au XP rfl];simp[L6,bM,ak,cut,av]
theorem amM(z:Z)(own:Int):ev P (.call Ep [.loc 0 0 0] [bM z own])=some (.val (.d (.b (own == -1))) [bM z own]):=by
 have hW:=amL z own;unfold bM at *;rw[au XO rfl];cases ho:own == -1
 .have fM:(own != -1)=true:=by simp[bne,ho]
  rw[fM]at hW;simp[EO,ak,cut,av,az,sub,aD,back,hW]
 .have fM:(own != -1)=false:=by simp[bne,ho]
  rw[fM]at hW;simp[EO,ak,cut,av,az,sub,aD,back,hW]
theorem amN(z:Z)(own t:Int):ev P (.call xP [.loc 0 0 0,.d (I' t),.d (I' 55)] [bM z own])=some (.val (.tu []) [bM z t]):=by
 rw[au H6 rfl];simp[CI,bM,ak,cut,av,aq]
theorem amO(z:Z)(own t o:Int)(ho:o≠55):ev P (.call xP [.loc 0 0 0,.d (I' t),.d (I' o)] [bM z own])=some (.val (.tu []) (rS z own none (.inl true) none [[I' t]])):=by
 have hI:=Cn MZ (p:=lZ 1) rfl;have fM:(o==55)=false:=by simpa using ho
 have r1:1<=room:=by decide
 rw[au H6 rfl];simp[CI,fM,aml,hI,lZ,jR,r1,bM,rS,lk,hV,hO,hX,qV,qO,kV,kO,az,sub,aD,back,ak,cut,aM,aN,cB,cg,an,av,aq]
theorem amP(z:Z)(own:Int):ev P (.call sZ [.loc 0 0 0] [bM z own])=some (.val (.tu []) [bM z own]):=by
 have hL:ev P (.loop 1 [0] j9 [(0,.loc 0 0 0)] [bM z own])=some (.out (.exit 0) [] [bM z own]):=by
  rw[bT]
  conv=>lhs;arg 4;unfold j9
  simp[bM,ak,cut]
 rw[au Fa rfl];simp[bM]at hL;simp[AR,hL,bM,ak,cut,av]
structure Rp where
 own:Int
 H:List Int
 Q:List Sp.W
 parked:Bool
 ok:Bool
 k:List Sp.W
 e:Int
def zr(e:Int):Rp:=⟨0,[],[],false,false,[],e⟩
def zZ(bn cn:Bool):Z:=⟨I' 0,I' 0,hD bn [],cD cn [],.b false,I' 0⟩
def jL(x:Option dN)(r:Rp):Prop:=∃bn cn hn qn kn,x=some (.val (.tu [.d (Gk (zZ bn cn) r.own hn r.H qn r.Q r.parked r.ok kn (r.k.map wk)),.d (I' r.e)]) [])/\(hn=true->r.H=[])/\(qn=true->r.Q=[])
def jA(own:Int)(H:List Int):List Sp.W->Int×List Int×List Sp.W×List Sp.W
 | []=>(own,H,[],[])
 |w::r =>
  if own≠-1\/(w.op=55/\H≠[])then(own,H,w::r,[])
  else if w.op=55 then(w.task,H,r,[w])
  else(own,jd (eV w.task H) (r.takeWhile λw=>w.op != 55),r.dropWhile λw=>w.op != 55,w::r.takeWhile λw=>w.op != 55)
def jZ(t p n:Int):Bool:=!cW t||decide (p<0)||decide (9<p)||decide (n<0)||decide (1099511627776<n)
def ve(own:Int)(H:List Int)(Q:List Sp.W)(o:Int):Bool:=if o=53 then own == -1&&Q.isEmpty else own == -1&&H.isEmpty
def jc(own:Int)(H:List Int)(Q:List Sp.W)(t o p:Int):Rp :=
 if ve own H Q o=true then(if o=55 then⟨t,H,Q,false,true,[],0⟩else⟨own,eV t H,Q,false,true,[],0⟩)else⟨own,H,Q++[⟨t,o,0,p,-1⟩],true,false,[],0⟩
def mZ(own:Int)(H:List Int)(Q:List Sp.W)(t o p n:Int):Rp :=
 if jZ t p n=true then zr 2
 else if(decide (o<53)||decide (56<o))=true then zr 8
 else if(Q.any λw=>w.task==t)=true then zr 17
 else if o=53\/o=55 then
  if ia own H t≠0 then zr 17
  else jc own H Q t o p
 else if o=54 then
  if ia own H t≠1 then zr 20
  else let x:=jA own (H.filter λx=>x != t) Q;⟨x.1,x.2.1,x.2.2.1,false,true,x.2.2.2,0⟩
 else
  if ia own H t≠2 then zr 20
  else let x:=jA (-1) H Q;⟨x.1,x.2.1,x.2.2.1,false,true,x.2.2.2,0⟩
abbrev oZ(z:Z)(own:Int)(hn:Bool)(H:List Int)(qn:Bool)(Q:List Sp.W):D:=.ag [I' own,z.c1,z.c2,hD hn H,qD qn Q,z.c5,z.c6,z.c7,z.c8]
theorem jL.zero{x:Option dN}{e:Int}(h:x=some (.val (.tu [.d (.ag [I' 0,I' 0,I' 0,.sl 1 true [],.sl 5 true [],.sl 1 true [],.sl 2 true [],.b false,I' 0,.b false,I' 0,.b false,.sl 5 true []]),.d (I' e)]) [])):jL x (zr e):=
 ⟨true,true,true,true,true,h,λ_=>rfl,λ_=>rfl⟩
theorem OG(o2:D)(bn cn:Bool)(own:Int)(hn:Bool)(H:List Int)(qn:Bool)(Q:List Sp.W)(t o v p n:Int)(h1:hn=true->H=[])(h2:qn=true->Q=[])(h3:H.length<=1000)(h4:Q.length<=1000)
  (hC:ev P (.call l5 [.d o2,.d (oZ (zZ bn cn) own hn H qn Q)] [])=some (.val (.d (I' 0)) []))(fM:∃a b c d,o2 = .ag [a,b,c,d]):
  (jZ t p n=true->jL (ev P (.call pJ [.d o2,.d (oZ (zZ bn cn) own hn H qn Q),.d (.ag [I' t,I' o,I' v,I' p,I' n])] [])) (zr 2)) /\
  (jZ t p n=false->(decide (o<53)||decide (56<o))=true->jL (ev P (.call pJ [.d o2,.d (oZ (zZ bn cn) own hn H qn Q),.d (.ag [I' t,I' o,I' v,I' p,I' n])] [])) (zr 8)) /\
  (jZ t p n=false->(decide (o<53)||decide (56<o))=false->(Q.any λw=>w.task==t)=true->jL (ev P (.call pJ [.d o2,.d (oZ (zZ bn cn) own hn H qn Q),.d (.ag [I' t,I' o,I' v,I' p,I' n])] [])) (zr 17)) /\
  (jZ t p n=false->(decide (o<53)||decide (56<o))=false->(Q.any λw=>w.task==t)=false->(o=53\/o=55)->ia own H t≠0->jL (ev P (.call pJ [.d o2,.d (oZ (zZ bn cn) own hn H qn Q),.d (.ag [I' t,I' o,I' v,I' p,I' n])] [])) (zr 17)) /\
  (jZ t p n=false->(decide (o<53)||decide (56<o))=false->(Q.any λw=>w.task==t)=false->o=54->ia own H t≠1->jL (ev P (.call pJ [.d o2,.d (oZ (zZ bn cn) own hn H qn Q),.d (.ag [I' t,I' o,I' v,I' p,I' n])] [])) (zr 20)) /\
  (jZ t p n=false->(decide (o<53)||decide (56<o))=false->(Q.any λw=>w.task==t)=false->o=56->ia own H t≠2->jL (ev P (.call pJ [.d o2,.d (oZ (zZ bn cn) own hn H qn Q),.d (.ag [I' t,I' o,I' v,I' p,I' n])] [])) (zr 20)):=by
 obtain⟨a,b,c,d,rfl⟩:=fM;have hF:=lD qn Q t (by omega)
 have dY:=Gj (zZ bn cn) own hn H qn Q h1 h2 (by omega) (by omega)
 have hH:=Gg own (I' 0) (I' 0) (qD qn Q) (hD bn []) (cD cn []) (.b false) (I' 0) hn H t (by omega)
 rw[A6]at hF;generalize (ju Q t).1=fi at *;simp only[zZ]at *;refine⟨λhb=>jL.zero ?_,λhb hr=>jL.zero ?_,λhb hr hq=>jL.zero ?_,λhb hr hq ho hh=>jL.zero ?_,λhb hr hq ho hh=>jL.zero ?_,λhb hr hq ho hh=>jL.zero ?_⟩
 .rw[au oI rfl]
  unfold jZ at hb;simp[gY,hC,gh,hb,aq]
 .rw[au oI rfl]
  unfold jZ at hb;simp[gY,hC,gh,hb,hr,aq]
 .rw[au oI rfl]
  unfold jZ at hb;rw[hq]at hF;simp[gY,hC,gh,hb,hr,hF,aq]
 .rw[au oI rfl]
  unfold jZ at hb;rw[hq]at hF;have Dy:(ia own H t != 0)=true:=by simpa using hh
  rcases ho with rfl |rfl
  .simp[gY,hC,gh,hb,hr,hF,aI,dY,hH,Dy,aq]
  .simp[gY,hC,gh,hb,hr,hF,aI,dY,hH,Dy,aq]
 .rw[au oI rfl]
  unfold jZ at hb;rw[hq]at hF;have Dy:(ia own H t != 1)=true:=by simpa using hh
  subst ho;simp[gY,hC,gh,hb,hr,hF,aI,dY,hH,Dy,aq]
 .rw[au oI rfl]
  unfold jZ at hb;rw[hq]at hF;have Dy:(ia own H t != 2)=true:=by simpa using hh
  subst ho;simp[gY,hC,gh,hb,hr,hF,aI,dY,hH,Dy,aq]
end Go.VS.R
