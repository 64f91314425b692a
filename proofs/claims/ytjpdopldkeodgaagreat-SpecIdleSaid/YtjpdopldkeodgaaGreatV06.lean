import Derived.Test.YtjpdopldkeodgaaGreatV05
set_option linter.all false
set_option maxHeartbeats 1000000
namespace Go.VS.Sp
def uh(Q:List W)(op t:Int):Bool:=Q.any λw=>w.op==op&&w.task != t
theorem amT(op t a b c d e:Int):ev P (.call Mh [.d (.ag [I' a,I' b,I' c,I' d,I' e]),.d (.ref [I' op]),.d (.ref [I' t])] [])=some (.val (.d (.b (b==op&&a != t))) []):=by
 rw[au ae4 rfl];cases h:b==op<;>simp[Tc,h]
theorem amU(qn:Bool)(Q:List W)(op t:Int)(hn:Q.length<=1000000):ev P (.call Me [.d (qD qn Q),.d (I' op),.d (I' t)] [])=some (.val (.d (.b (uh Q op t))) []):=by
 have hI:=wq (f:=Mh) (first:=[]) (caps:=[.ref [I' op],.ref [I' t]]) (p:=λw=>w.op==op&&w.task != t) qn Q hn (by intro a b c d e;exact amT op t a b c d e)
 rw[au aeZ rfl];unfold uh;generalize (Q.any λw=>w.op==op&&w.task != t)=r at *
 try simp at hI
 simp[S8,eY,hI]
def yO(sz:Int)(bl:Nat)(Q:List W)(w:W):Bool:=if w.op==64 then(bl:Int) != sz||uh Q 65 w.task else decide (0<bl)||uh Q 64 w.task
theorem amV(nm:D)(k sz ot:Int)(d0 d1 d2 d3 d6 d7 d8:D)(bn qn:Bool)(B:List Int)(Q:List W)(hn:Q.length<=1000000)(a b c d e:Int):
  ev P (.call Md [.d (.ag [I' a,I' b,I' c,I' d,I' e]),.d (.ref [d0,d1,d2,d3,qD qn Q,hD bn B,d6,d7,d8]),.d (.ref [nm,I' k,I' sz,I' ot])] [])=some (.val (.d (.b (yO sz B.length Q ⟨a,b,c,d,e⟩))) []):=by
 have f1:=amU qn Q 65 a hn;have f2:=amU qn Q 64 a hn;rw[au aeY rfl];unfold yO;cases h:b==64
 .cases h2:decide ((0:Int)<B.length)
  .have h2':¬0<B.length:=by simpa using h2
   simp[Fo,h,h2',f2]
  .have h2':0<B.length:=by simpa using h2
   simp[Fo,h,h2',f2]
 .cases h2:(B.length:Int) != sz
  .simp[Fo,h,h2,f1]
  .simp[Fo,h,h2,f1]
theorem amW(nm:D)(k sz ot:Int)(d0 d1 d2 d3 d6 d7 d8:D)(bn qn:Bool)(B:List Int)(Q:List W)(hn:Q.length<=1000000):
  ev P (.call L2 [.d (.ag [nm,I' k,I' sz,I' ot]),.d (.ag [d0,d1,d2,d3,qD qn Q,hD bn B,d6,d7,d8])] [])=some (.val (.d (.b (Q.any (yO sz B.length Q)))) []):=by
 have hI:=wq (f:=Md) (first:=[]) (caps:=[.ref [d0,d1,d2,d3,qD qn Q,hD bn B,d6,d7,d8],.ref [nm,I' k,I' sz,I' ot]]) (p:=yO sz B.length Q) qn Q hn (by intro a b c d e;exact amV nm k sz ot d0 d1 d2 d3 d6 d7 d8 bn qn B Q hn a b c d e)
 rw[au YZ rfl];generalize Q.any (yO sz B.length Q)=r at *;try simp at hI
 simp[Nh,eY,hI]
def BY(w:W):Bool:=w.op != 64&&(w.op != 65||w.value != 0)
def tc(w x:W):Bool:=x.task==w.task&&(x.case == -1||w.case == -1||x.case==w.case)
def fC(pre:List W)(w:W):Bool:=!BY w&&!pre.any (tc w)
theorem amX(w:W)(a b c d e:Int):ev P (.call Mc [.d (.ag [I' a,I' b,I' c,I' d,I' e]),.d (.ref [I' w.task,I' w.op,I' w.value,I' w.prio,I' w.case])] [])=some (.val (.d (.b (tc w ⟨a,b,c,d,e⟩))) []):=by
 rw[au aeX rfl];unfold tc;cases h1:a==w.task
 .simp[IA,h1]
 .cases h2:e == -1
  .cases h3:w.case == -1<;>simp[IA,h1,h2,h3]
  .simp[IA,h1,h2]
theorem amY(qn:Bool)(pre:List W)(w:W)(r:List W)(hn:(pre++w::r).length<=1000000):
  ev P (.call RN [.d (qD qn (pre++w::r)),.d (I' pre.length)] [])=some (.val (.d (.b (fC pre w))) []):=by
 have hI:=wq (f:=Mc) (first:=[]) (caps:=[.ref [I' w.task,I' w.op,I' w.value,I' w.prio,I' w.case]]) (p:=tc w) qn pre (by simp at hn;omega) (by intro a b c d e;exact amX w a b c d e)
 have hg:(pre++w::r)[pre.length]?=some w:=by simp
 have e1:List.take pre.length ((pre++w::r).map W.row)=pre.map W.row:=by rw[xQ];simp[Hl]
 have hle:(pre.length:Int)<=(pre++w::r).length:=by simp;omega
 rw[au aeI rfl];unfold fC;generalize hQ:pre++w::r=Q at *;generalize pre.any (tc w)=b at *;cases h0:BY w
 .unfold BY at h0
  try simp at hI
  simp[Ng,hg,W.row,h0,hle,e1,eY,hI]
 .unfold BY at h0
  simp[Ng,hg,W.row,h0]
theorem amZ(o:List D)(d0 d1 d2 d3 d5 d6 d7 d8:D)(qn:Bool)(Q:List W)(hn:Q.length<=1000000):∀(suf pre:List W),Q=pre++suf ->
  ev P (.loop 0 [2,3,53,54] Fa [(2,.d (.ref o)),(3,.d (.ref [d0,d1,d2,d3,qD qn Q,d5,d6,d7,d8])),(53,.d (I' Q.length)),(54,.d (I' pre.length))] []) =
   if ep fC pre suf=true then some (.out (.exit 0) [(2,.d (.ref o)),(3,.d (.ref [d0,d1,d2,d3,qD qn Q,d5,d6,d7,d8]))] [])else some (.out .ret [(4,.d (.b false))] []):=by
 intro suf;induction suf with
 |nil =>
  intro pre hl
  have:Q.length=pre.length:=by simp[hl]
  rw[bY]
  conv=>lhs;arg 4;unfold Fa
  simp[this,ep]
 |cons w suf ih =>
  intro pre hl;have hlt:(pre.length:Int)<Q.length:=by simp[hl];omega
  have hnext:IntKind.i64.wrap ((pre.length:Int)+1)=pre.length+1:=wrap_i64 (by omega) (by omega)
  have bE:=ih (pre++[w]) (by simp[hl])
  have hw:=amY qn pre w suf (by rw[<-hl];exact hn)
  rw[<-hl]at hw;generalize hR:(if ep fC (pre++[w]) suf=true then some (dL.out (.exit 0) [(2,V.d (.ref o)),(3,V.d (.ref [d0,d1,d2,d3,qD qn Q,d5,d6,d7,d8]))] [])else some (.out .ret [(4,.d (.b false))] []))=R at bE
  rw[bY]
  conv=>lhs;arg 4;unfold Fa
  cases hf:fC pre w
  .rw[hf]at hw
   simp[hlt,hw,ep,hf]
  .rw[hf]at hw
   have hq:ep fC pre (w::suf)=ep fC (pre++[w]) suf:=by simp[ep,hf]
   rw[hq,hR];simp at bE;simp[hlt,hw,hnext];exact bE
def xm(sz:Int)(s:S):Bool:=!wx sz s&&(!(s.B.any λn=>!num n)&&(dY s.Q==0&&(ep fC [] s.Q&&((!s.cl||(s.Q.length:Int)==0)&&!s.Q.any (yO sz s.B.length s.Q)))))
theorem am0(nm:D)(k sz ot:Int)(s:S)(hs:s.sm):ev P (.call LG [.d (.ag [nm,I' k,I' sz,I' ot]),.d (.ag s.row)] [])=some (.val (.d (.b (xm sz s))) []):=by
 obtain⟨own,cnt,time,hn,H,qn,Q,bn,B,cn,C,cl,val⟩:=s;obtain⟨h1,h2,h3,h4,_⟩:=hs;simp only at h1 h2 h3 h4;have jV:IntKind.i64.wrap ((H.length:Int)+C.length)=H.length+C.length:=wrap_i64 (by omega) (by omega)
 have hB:=Zk (f:=HQ) (first:=[]) (caps:=[]) (p:=λn=>!num n) bn B h2 (by intro a;simp[NR])
 have hV:=amW nm k sz ot (I' own) (I' cnt) (I' time) (hD hn H) (cD cn C) (.b cl) (I' val) bn qn B Q (by omega)
 have hl:=amZ [nm,I' k,I' sz,I' ot] (I' own) (I' cnt) (I' time) (hD hn H) (hD bn B) (cD cn C) (.b cl) (I' val) qn Q (by omega) Q [] rfl
 simp at hl;have hW:=uW qn Q;unfold xm;simp only;rw[au YN rfl];generalize (B.any λn=>!num n)=bb at *
 generalize (Q.any (yO sz B.length Q))=vv at *;cases hA:wx sz ⟨own,cnt,time,hn,H,qn,Q,bn,B,cn,C,cl,val⟩
 .unfold wx at hA
  simp only at hA;cases bb
  .cases hw:dY Q==0
   .have hw':(dY Q != 0)=true:=by rw[bne,hw];rfl
    simp[v8,hA,jV,hB,hW,hw']
   .have hw':(dY Q != 0)=false:=by rw[bne,hw];rfl
    cases hq:ep fC [] Q
    .rw[hq]at hl
     simp[v8,hA,jV,hB,hW,hw',hl]
    .rw[hq]at hl
     cases hc:(!cl||(Q.length:Int)==0)
     .simp[v8,hA,jV,hB,hW,hw',hl,hc]
     .simp[v8,hA,jV,hB,hW,hw',hl,hc,hV]
  .simp[v8,hA,jV,hB]
 .unfold wx at hA
  simp only at hA;simp[v8,hA,jV]
theorem VM(nm:D)(k sz ot:Int)(s:S)(hs:s.sm):
  ev P (.call gn [.d (.ag [nm,I' k,I' sz,I' ot]),.d (.ag s.row)] [])=some (.val (.d (I' (ck (gM k sz ot) (xm sz s)))) []):=by
 have hv:=am0 nm k sz ot s hs;rw[au Yz rfl];unfold ck;cases hm:gM k sz ot==0
 .have hm':gM k sz ot≠0:=by simpa using hm
  have hm2:(gM k sz ot != 0)=true:=by simpa using hm'
  simp[EZ,FA,hm',hm2,cq]
 .have hm':gM k sz ot=0:=by simpa using hm
  generalize xm sz s=b at *;cases b<;>simp[EZ,FA,hm',gp,hv]
def fF(pre:List W)(w:W):Bool:=!(pre.any (λx=>x.task==w.task)||w.op != 74||w.value != 0||w.case != -1)
theorem am1(d0 d1 d2 d3 d5 d6 d7 d8:D)(qn:Bool)(Q:List W)(hn:Q.length<=1000000):∀(suf pre:List W),Q=pre++suf ->
  ev P (.loop 0 [1,9,10,11] Fk [(1,.d (.ref [d0,d1,d2,d3,qD qn Q,d5,d6,d7,d8])),(9,.d (qD qn Q)),(10,.d (I' Q.length)),(11,.d (I' pre.length))] []) =
   if ep fF pre suf=true then some (.out (.exit 0) [(1,.d (.ref [d0,d1,d2,d3,qD qn Q,d5,d6,d7,d8]))] [])else some (.out .ret [(2,.d (.b false))] []):=by
 intro suf;induction suf with
 |nil =>
  intro pre hl
  have:Q.length=pre.length:=by simp[hl]
  rw[bY]
  conv=>lhs;arg 4;unfold Fk
  simp[this,ep]
 |cons w suf ih =>
  intro pre hl;have hg:Q[pre.length]?=some w:=by simp[hl]
  have hlt:(pre.length:Int)<Q.length:=by simp[hl];omega
  have hnext:IntKind.i64.wrap ((pre.length:Int)+1)=pre.length+1:=wrap_i64 (by omega) (by omega)
  have bE:=ih (pre++[w]) (by simp[hl])
  have hF:=jW qn Q w.task hn;have nh:=fd_eq (pre:=pre) (w:=w) (r:=suf);rw[<-hl]at nh;generalize jg Q w.task=p at *;obtain⟨p1,p2⟩:=p;simp only at nh;have hb:(p1 != (pre.length:Int))=pre.any λx=>x.task==w.task:=by rw[bne,nh];simp
  generalize hR:(if ep fF (pre++[w]) suf=true then some (dL.out (.exit 0) [(1,V.d (.ref [d0,d1,d2,d3,qD qn Q,d5,d6,d7,d8]))] [])else some (.out .ret [(2,.d (.b false))] []))=R at bE
  rw[bY]
  conv=>lhs;arg 4;unfold Fk
  cases hf:(p1 != (pre.length:Int)||w.op != 74||w.value != 0||w.case != -1)
  .have hq:ep fF pre (w::suf)=ep fF (pre++[w]) suf:=by
    rw[hb]at hf;simp only[ep,fF,hf,Qy,xI]
   rw[hq,hR];simp at bE;simp[hlt,hg,W.row,hF,hf,hnext];exact bE
  .have hq:ep fF pre (w::suf)=false:=by
    rw[hb]at hf;simp only[ep,fF,hf,Bool.not_true,AM]
   rw[hq];simp[hlt,hg,W.row,hF,hf]
theorem am2(d0 d1 d2 d3 d5 d6 d7 d8:D)(qn:Bool)(Q:List W)(hn:Q.length<=1000000):ev P (.call Ma [.d (.ag [d0,d1,d2,d3,qD qn Q,d5,d6,d7,d8])] [])=some (.val (.d (.b (ep fF [] Q&&dY Q==0))) []):=by
 have hl:=am1 d0 d1 d2 d3 d5 d6 d7 d8 qn Q hn Q [] rfl;simp at hl;have hW:=uW qn Q;rw[au Y3 rfl];cases hq:ep fF [] Q
 .rw[hq]at hl
  simp[Iw,hl]
 .rw[hq]at hl
  cases hw:dY Q==0<;>simp[Iw,hl,hW,hw]
theorem am3{own cnt time val:Int}{hn qn bn cn cl:Bool}{H B:List Int}{Q:List W}{C:List K}:ev P (.call L9 [.d (.ag [I' own,I' cnt,I' time,hD hn H,qD qn Q,hD bn B,cD cn C,.b cl,I' val])] [])=some (.val (.d (.b (u7 ⟨own,cnt,time,hn,H,qn,Q,bn,B,cn,C,cl,val⟩))) []):=by
 rw[au Y2 rfl];unfold u7;simp[Nl,Zm]
def xp(s:S):Bool:=u7 s&&(num s.val&&((ep fF [] s.Q&&dY s.Q==0)&&(if s.cl then(s.Q.length:Int)==0 else s.val==0)))
theorem am4(s:S)(hs:s.sm):ev P (.call LO [.d (.ag s.row)] [])=some (.val (.d (.b (xp s))) []):=by
 obtain⟨own,cnt,time,hn,H,qn,Q,bn,B,cn,C,cl,val⟩:=s;have h3:=hs.q;simp only at h3;have hP:=am3 (own:=own) (cnt:=cnt) (time:=time) (val:=val) (hn:=hn) (qn:=qn) (bn:=bn) (cn:=cn) (cl:=cl) (H:=H) (B:=B) (C:=C) (Q:=Q);have hQ:=am2 (I' own) (I' cnt) (I' time) (hD hn H) (hD bn B) (cD cn C) (.b cl) (I' val) qn Q (by omega)
 unfold xp;simp only;generalize u7 ⟨own,cnt,time,hn,H,qn,Q,bn,B,cn,C,cl,val⟩=pl at *;generalize (ep fF [] Q&&dY Q==0)=qq at *;rw[au YU rfl];cases pl
 .simp[zH,hP]
 .cases hv:num val
  .simp[zH,hP,De,hv]
  .cases qq
   .simp[zH,hP,De,hv,hQ]
   .cases cl<;>simp[zH,hP,De,hv,hQ]
theorem VN(nm:D)(k sz ot:Int)(s:S)(hs:s.sm):
  ev P (.call oU [.d (.ag [nm,I' k,I' sz,I' ot]),.d (.ag s.row)] [])=some (.val (.d (I' (ck (dM 9 k sz ot) (xp s)))) []):=by
 have hv:=am4 s hs;rw[au YC rfl];unfold ck;cases hm:dM 9 k sz ot==0
 .have hm':dM 9 k sz ot≠0:=by simpa using hm
  have hm2:(dM 9 k sz ot != 0)=true:=by simpa using hm'
  simp[E1,Fz,hm',hm2,cq]
 .have hm':dM 9 k sz ot=0:=by simpa using hm
  generalize xp s=b at *;cases b<;>simp[E1,Fz,hm',gp,hv]
end Go.VS.Sp
namespace Go.VS.M
open Go.VS.Sp
def cZ(n:Int):Bool:=decide (0<=n)&&decide (n<16)
theorem fZ(n:Int):ev P (.call HF [.d (I' n)] [])=some (.val (.d (.b (cZ n))) []):=by
 rw[au YF rfl];simp[ME,cZ]
def kR(w:Sp.W):Bool:=(decide (w.task<0)||decide (16<=w.task)||decide (w.op<1)||decide (99<w.op)||decide (w.value < -1099511627776)||decide (1099511627776<w.value))
def dU(w:Sp.W):Bool:=!kR w&&(decide (0<=w.prio)&&decide (w.prio<=9)&&decide (-1<=w.case)&&decide (w.case<6))
theorem Fx(a b c d e:Int):ev P (.call EJ [.d (.ag [I' a,I' b,I' c,I' d,I' e])] [])=some (.val (.d (.b (dU ⟨a,b,c,d,e⟩))) []):=by
 rw[au Tz rfl];cases h:kR ⟨a,b,c,d,e⟩<;>simp only[dU,h]<;>unfold kR at h<;>simp[It,Sp.W.row,h]
def fT(d:Int)(prev:Option Sp.W):List Sp.W->Int
 | []=>0
 |w::r=>if dU w=false then 2 else if d=2/\(prev.any λp=>decide (p.prio<w.prio))=true then 9 else fT d (some w) r
theorem wm:IntKind.i64.wrap 1=1:=by decide
theorem Fy(d:Int)(nl:Bool)(l:List Sp.W)(hn:l.length<=96):∀(suf pre:List Sp.W),l=pre++suf ->
  ev P (.loop 0 [0,1,16,17,18] v7 [(0,.d (I' d)),(1,.d (.sl 5 nl (l.map Sp.W.row))),(16,.d (.sl 5 nl (l.map Sp.W.row))),(17,.d (I' l.length)),(18,.d (I' pre.length))] []) =
   if fT d pre.getLast? suf=0 then some (.out (.exit 0) [] [])else some (.out .ret [(4,.d (I' (fT d pre.getLast? suf)))] []):=by
 intro suf;induction suf with
 |nil =>
  intro pre hl
  have:l.length=pre.length:=by simp[hl]
  rw[bY]
  conv=>lhs;arg 4;unfold v7
  simp[this,fT]
 |cons w suf ih =>
  intro pre hl;have hg:l[pre.length]?=some w:=by simp[hl]
  have hlt:(pre.length:Int)<l.length:=by simp[hl];omega
  rw[bY]
  conv=>lhs;arg 4;unfold v7
  simp[hlt,hg,Sp.W.row,Fx];cases hv:dU w
  .simp[fT,hv]
  .simp
   have hnext:IntKind.i64.wrap ((pre.length:Int)+1)=pre.length+1:=wrap_i64 (by omega) (by omega)
   have bE:=ih (pre++[w]) (by simp[hl])
   simp at bE;rcases AN pre with rfl |⟨pre',p,rfl⟩
   .simp[fT,hv,wm]at *
    exact bE
   .have mH:l[pre'.length]?=some p:=by simp[hl]
    have hlen:((pre'.length:Int)+1<l.length):=by simp[hl];omega
    have hw:IntKind.i64.wrap ((pre'.length:Int)+1 - 1)=pre'.length:=by rw[wrap_i64 (by omega) (by omega)];omega
    have h0:(0:Int)<pre'.length+1:=by omega
    have dV:IntKind.i64.wrap (pre'.length:Int)=pre'.length:=wrap_i64 (by omega) (by omega)
    have jV:IntKind.i64.wrap ((pre'.length:Int)+1+1)=pre'.length+1+1:=wrap_i64 (by omega) (by omega)
    simp at bE;by_cases hd:d=2
    .by_cases hp:p.prio<w.prio
     .subst hd
      simp[fT,hv,hp,dV,jV,mH,Sp.W.row,h0]
     .subst hd
      simp[fT,hv,hp,dV,jV,mH,Sp.W.row,h0];exact bE
    .have hd2:(d==2)=false:=by simp[hd]
     simp[fT,hv,hd,hd2,dV,jV,mH,Sp.W.row,h0];exact bE
def dY(l:List Sp.W):Int:=if 96<l.length then 4 else fT 2 none l
theorem uW(nl:Bool)(l:List Sp.W):ev P (.call qM [.d (I' 2),.d (.sl 5 nl (l.map Sp.W.row))] []) =
  some (.val (.d (I' (dY l))) []):=by
 unfold dY;rw[au ND rfl];by_cases h:96<l.length
 .have h':(96:Int)<l.length:=by omega
  simp[zG,h,h']
 .have h':¬(96:Int)<l.length:=by omega
  have hl:=Fy 2 nl l (by omega) l [] rfl
  simp at hl;simp[zG,h,h',hl];by_cases hc:fT 2 none l=0<;>simp[hc]
theorem zL:∀(ds:List D),eY (ds.map V.d)=some ds
 | []=>rfl
 |d::ds=>by simp[zL ds]
theorem oy{a b:List D}{x:D}:eY (a.map V.d++.d x::b.map V.d)=some (a++x::b):=by
 have:=zL (a++x::b);simpa using this
def idx(p:Sp.W->Bool):Int->List Sp.W->Int
 |_,[]=>-1
 |k,w::r=>if p w then k else idx p (k+1) r
theorem TH{f:Nat}{first caps:List D}{p:Sp.W->Bool}(nl:Bool)(l:List Sp.W)(hn:l.length<=1000000)
  (hp:∀a b c d e,ev P (.call f (first.map V.d++[.d (.ag [I' a,I' b,I' c,I' d,I' e])]++caps.map V.d) [])=some (.val (.d (.b (p ⟨a,b,c,d,e⟩))) [])):
  ∀(suf pre:List Sp.W),l=pre++suf ->
  ev P (.loop 0 [0,1,7,8] v5 [(0,.d (.sl 5 nl (l.map Sp.W.row))),(1,.d (.fn f first caps)),(7,.d (I' l.length)),(8,.d (I' pre.length))] []) =
   if idx p pre.length suf = -1 then some (.out (.exit 0) [] [])else some (.out .ret [(4,.d (I' (idx p pre.length suf)))] []):=by
 intro suf;induction suf with
 |nil =>
  intro pre hl
  have:l.length=pre.length:=by simp[hl]
  rw[bY]
  conv=>lhs;arg 4;unfold v5
  simp[this,idx]
 |cons w suf ih =>
  intro pre hl;have hg:l[pre.length]?=some w:=by simp[hl]
  have hlt:(pre.length:Int)<l.length:=by simp[hl];omega
  have hnext:IntKind.i64.wrap ((pre.length:Int)+1)=pre.length+1:=wrap_i64 (by omega) (by omega)
  have bE:=ih (pre++[w]) (by simp[hl])
  simp at bE hp;rw[bY]
  conv=>lhs;arg 4;unfold v5
  simp[hlt,hg,Sp.W.row,hp,oy];cases hw:p w
  .simp[idx,hw,hnext]
   exact bE
  .have:¬(pre.length:Int) = -1:=by omega
   simp[idx,hw,this]
theorem IP{f:Nat}{first caps:List D}{p:Sp.W->Bool}(nl:Bool)(l:List Sp.W)(hn:l.length<=1000000)
  (hp:∀a b c d e,ev P (.call f (first.map V.d++[.d (.ag [I' a,I' b,I' c,I' d,I' e])]++caps.map V.d) [])=some (.val (.d (.b (p ⟨a,b,c,d,e⟩))) [])):
  ev P (.call x9 [.d (.sl 5 nl (l.map Sp.W.row)),.d (.fn f first caps)] [])=some (.val (.d (I' (idx p 0 l))) []):=by
 rw[au NC rfl];have hl:=TH nl l hn hp l [] rfl;simp at hl;simp[E2,hl];by_cases hc:idx p 0 l = -1<;>simp[hc]
theorem Br{p:Sp.W->Bool}:∀{l:List Sp.W}{k:Int},0<=k->(0<=idx p k l↔l.any p=true)
 | [],k,_=>by simp[idx]
 |w::r,k,hk=>by
  by_cases hw:p w=true
  .simp[idx,hw,hk]
  .simp[idx,hw,Br (l:=r) (k:=k+1) (by omega)]
theorem wq{f:Nat}{first caps:List D}{p:Sp.W->Bool}(nl:Bool)(l:List Sp.W)(hn:l.length<=1000000)
  (hp:∀a b c d e,ev P (.call f (first.map V.d++[.d (.ag [I' a,I' b,I' c,I' d,I' e])]++caps.map V.d) [])=some (.val (.d (.b (p ⟨a,b,c,d,e⟩))) [])):
  ev P (.call qL [.d (.sl 5 nl (l.map Sp.W.row)),.d (.fn f first caps)] [])=some (.val (.d (.b (l.any p))) []):=by
 rw[au Tq rfl];have hi:=IP nl l hn hp;simp[HZ,hi];have:=Br (p:=p) (l:=l) (k:=0) (by omega)
 cases ha:l.any p
 .have hc:¬0<=idx p 0 l:=λh=>by rw[this.1 h]at ha;cases ha
  simp[hc]
 .have hc:0<=idx p 0 l:=this.2 ha
  simp[hc]
theorem am5(t a b c d e:Int):ev P (.call LU [.d (.ag [I' a,I' b,I' c,I' d,I' e]),.d (.ref [I' t])] [])=some (.val (.d (.b (a==t))) []):=by
 rw[au aet rfl];simp[SI]
theorem NR(a b c d e a' b' c' d' e':Int):ev P (.call LQ [.d (.ag [I' a,I' b,I' c,I' d,I' e]),.d (.ref [I' a',I' b',I' c',I' d',I' e'])] [])=some (.val (.d (.b (a==a'))) []):=by
 rw[au aes rfl];simp[SH]
theorem JU(t a b c d e:Int):ev P (.call uO [.d (.ag [I' a,I' b,I' c,I' d,I' e]),.d (.ref [I' t])] [])=some (.val (.d (.b (a != t))) []):=by
 rw[au Tw rfl];simp[Is]
theorem am6{own cnt time:Int}{h1 h2 h3:D}{qn:Bool}{q:List Sp.W}{cl:Bool}{val:Int}(t:Int)(hn:q.length<=1000000):
  ev P (.call Lz [.d (.ag [I' own,I' cnt,I' time,h1,.sl 5 qn (q.map Sp.W.row),h2,h3,.b cl,I' val]),.d (I' t)] [])=some (.val (.d (.b (q.any λw=>w.task==t))) []):=by
 rw[au adN rfl];have:=wq (f:=LU) (first:=[]) (caps:=[.ref [I' t]]) (p:=λw=>w.task==t) qn q hn (by intro a b c d e;simp[am5])
 simp[Sn,this]
def lK(es:Nat)(z:V):List (List D)->V
 | []=>z
 |r::rs=>.aR 0 0 (r::rs).length
def lM(es:Nat):List (List D)->List O
 | []=>[]
 |r::rs=>[.aI es true (r::rs)]
theorem aZ{α β:Type}{f:α->β}{r:List α}:List.take r.length (r.map f)=r.map f:=gD (by simp)
theorem cG{α β:Type}{f:α->β}{r:List α}:List.drop (r.length+1) (r.map f)=[]:=qB (by simp)
theorem VO{f:Nat}{first caps:List D}{p:Sp.W->Bool}(nl:Bool)(l:List Sp.W)(hn:l.length<=1000000)
  (hp:∀a b c d e,ev P (.call f (first.map V.d++[.d (.ag [I' a,I' b,I' c,I' d,I' e])]++caps.map V.d) [])=some (.val (.d (.b (p ⟨a,b,c,d,e⟩))) []))
  (R:Option dL)(hR:R=some (.out (.exit 0) [(5,lK 5 (.d (.sl 5 true [])) ((l.filter p).map Sp.W.row))] (lM 5 ((l.filter p).map Sp.W.row)))):
  ∀(suf pre:List Sp.W),l=pre++suf ->
  ev P (.loop 0 [1,5,8,9,10] C1 [(1,.d (.fn f first caps)),(5,lK 5 (.d (.sl 5 true [])) ((pre.filter p).map Sp.W.row)),(8,.d (.sl 5 nl (l.map Sp.W.row))),(9,.d (I' l.length)),(10,.d (I' pre.length))] (lM 5 ((pre.filter p).map Sp.W.row)))=R:=by
 intro suf;induction suf with
 |nil =>
  intro pre hl;have An:l=pre:=by simp[hl]
  subst An;rw[bY,hR]
  conv=>lhs;arg 4;unfold C1
  cases hf:l.filter p with
  |nil=>simp[lK,lM]
  |cons a r=>simp[lK,lM,ak,cut,Sp.W.row]
 |cons w suf ih =>
  intro pre hl;clear hR;have hg:l[pre.length]?=some w:=by simp[hl]
  have hlt:(pre.length:Int)<l.length:=by simp[hl];omega
  have hnext:IntKind.i64.wrap ((pre.length:Int)+1)=pre.length+1:=wrap_i64 (by omega) (by omega)
  have bE:=ih (pre++[w]) (by simp[hl])
  simp at bE hp;rw[bY]
  conv=>lhs;arg 4;unfold C1
  cases hf:pre.filter p with
  |nil =>
   simp[hlt,hg,Sp.W.row,hp,oy,lK,lM];cases hw:p w
   .simp[hw,hnext,hf,lK,lM,ak]at bE⊢
    exact bE
   .have hr:1<=room:=by decide
    simp[hw,hnext,hf,hr,lK,lM,ak,Sp.W.row]at bE⊢;exact bE
  |cons a r =>
   have hrl:r.length<1000000:=by
    have h1:(pre.filter p).length<=pre.length:=oM _ _;have h2:pre.length<=l.length:=by simp[hl]
    rw[hf]at h1;simp at h1;omega
   have hr:r.length+1+1<=room:=by unfold room;omega
   simp[hlt,hg,Sp.W.row,hp,oy,lK,lM];cases hw:p w
   .simp[hw,hnext,hf,lK,lM,ak,Sp.W.row]at bE⊢
    exact bE
   .simp[hw,hnext,hf,hr,lK,lM,ak,Sp.W.row,av,aZ,cG,cy]at bE⊢
    exact bE
theorem yP(nl:Bool)(l:List Sp.W)(t:Int)(hn:l.length<=1000000):
  ev P (.call vW [.d (.sl 5 nl (l.map Sp.W.row)),.d (I' t)] [])=some (.val (.d (.sl 5 (l.filter λw=>w.task != t).isEmpty ((l.filter λw=>w.task != t).map Sp.W.row))) []):=by
 have hf:ev P (.call LV [.d (.sl 5 nl (l.map Sp.W.row)),.d (.fn uO [] [.ref [I' t]])] [])=some (.val (.d (.sl 5 (l.filter λw=>w.task != t).isEmpty ((l.filter λw=>w.task != t).map Sp.W.row))) []):=by
  rw[au YX rfl];have hl:=VO (f:=uO) (first:=[]) (caps:=[.ref [I' t]]) (p:=λw=>w.task != t) nl l hn (by intro a b c d e;simp[JU]) _ rfl l [] rfl
  simp[lK,lM]at hl;simp[Ir,hl];cases hf:l.filter λw=>w.task != t with
  |nil=>simp
  |cons a r=>simp[ak,cut,Sp.W.row,aZ]
 rw[au YG rfl];simp[MF,hf]
def Gw(own:Int)(w:Sp.W):Bool:=w.op != 50||w.value != 0||w.case != -1||w.task==own
def xq(own:Int):List Sp.W->List Sp.W->Bool
 |_,[]=>true
 |pre,w::r=>!Gw own w&&!pre.any (λx=>x.task==w.task)&&xq own (pre++[w]) r
theorem VP{own cnt time:Int}{h1 h2 h3:D}{cl:Bool}{val:Int}(nl:Bool)(l:List Sp.W)(hn:l.length<=1000000):
  ∀(suf pre:List Sp.W),l=pre++suf ->
  ev P (.loop 0 [1,61,62,63] E3 [(1,.d (.ref [I' own,I' cnt,I' time,h1,.sl 5 nl (l.map Sp.W.row),h2,h3,.b cl,I' val])),(61,.d (.sl 5 nl (l.map Sp.W.row))),(62,.d (I' l.length)),(63,.d (I' pre.length))] []) =
   if xq own pre suf=true then some (.out (.exit 0) [] [])else some (.out .ret [(2,.d (.b false))] []):=by
 intro suf;induction suf with
 |nil =>
  intro pre hl
  have:l.length=pre.length:=by simp[hl]
  rw[bY]
  conv=>lhs;arg 4;unfold E3
  simp[this,xq]
 |cons w suf ih =>
  intro pre hl;have hg:l[pre.length]?=some w:=by simp[hl]
  have hlt:(pre.length:Int)<l.length:=by simp[hl];omega
  have hnext:IntKind.i64.wrap ((pre.length:Int)+1)=pre.length+1:=wrap_i64 (by omega) (by omega)
  have bE:=ih (pre++[w]) (by simp[hl])
  have hsub:(l.map Sp.W.row).take pre.length=pre.map Sp.W.row:=by simp[hl]
  have hle:pre.length<=l.length:=by simp[hl]
  have hc:=wq (f:=LQ) (first:=[]) (caps:=[.ref w.row]) (p:=λx=>x.task==w.task) nl pre (by have:pre.length<=l.length:=by{simp[hl]};omega) (by intro a b c d e;simp[Sp.W.row,NR])
  simp[Sp.W.row]at bE hc;rw[bY]
  conv=>lhs;arg 4;unfold E3
  simp[hlt,hg,Sp.W.row,hsub];cases hq:(w.op != 50||w.value != 0||w.case != -1||w.task==own)
  .simp[hg,hlt,Sp.W.row,hsub,hc,hle]
   have kE:Gw own w=false:=hq;cases ha:pre.any λx=>x.task==w.task
   .simp only[ha,kE,xq,Qy,xI]
    simp[hnext];exact bE
   .simp only[ha,kE,xq,Qy,Bool.not_true,xI,AM]
    simp
  .have kE:Gw own w=true:=hq
   simp[kE,xq]
end Go.VS.M
namespace Go.VS.M
open Go.VS.Sp
abbrev bW(l:List Int):List (List D):=l.map λx=>[I' x]
abbrev hD(n:Bool)(l:List Int):D:=.sl 1 n (bW l)
abbrev qD(n:Bool)(l:List Sp.W):D:=.sl 5 n (l.map Sp.W.row)
abbrev cD(n:Bool)(l:List (List D)):D:=.sl 2 n l
def iX(own cnt time:Int)(hs:List Int)(q:List Sp.W)(bs:List Int)(cs:List (List D))(cl:Bool)(val:Int):Bool :=
 !((own != -1&&!cZ own)||(own == -1&&decide (0<q.length)))&&!(cnt != 0||time != 0||val != 0||cl||decide ((0:Int)<hs.length+bs.length+cs.length))&&dY q==0&&xq own [] q
theorem VQ(own cnt time:Int)(hn:Bool)(hs:List Int)(qn:Bool)(q:List Sp.W)(bn:Bool)(bs:List Int)(cn:Bool)(cs:List (List D))(cl:Bool)(val:Int)
  (h1:hs.length<=1000000)(h2:q.length<=1000000)(h3:bs.length<=1000000)(h4:cs.length<=1000000):
  ev P (.call Lw [.d (.ag [I' own,I' cnt,I' time,hD hn hs,qD qn q,hD bn bs,cD cn cs,.b cl,I' val])] [])=some (.val (.d (.b (iX own cnt time hs q bs cs cl val))) []):=by
 rw[au YE rfl];have hl:=VP (own:=own) (cnt:=cnt) (time:=time) (h1:=hD hn hs) (h2:=hD bn bs) (h3:=cD cn cs) (cl:=cl) (val:=val) qn q h2 q [] rfl;simp at hl;simp[E4,fZ];cases hA:(own != -1&&!cZ own||own == -1&&decide (0<q.length))
 .simp
  rw[wrap_i64 (x:=(hs.length:Int)+bs.length) (by omega) (by omega),wrap_i64 (x:=(hs.length:Int)+bs.length+cs.length) (by omega) (by omega)]
  cases hB:(cnt != 0||time != 0||val != 0||cl||decide ((0:Int)<hs.length+bs.length+cs.length))
  .simp[uW]
   cases hC:dY q==0
   .have sq:(dY q != 0)=true:=by simp[bne,hC]
    simp only[sq,iX,hA,hB,hC];simp
   .have sq:(dY q != 0)=false:=by simp[bne,hC]
    simp only[sq,iX,hA,hB,hC];simp[hl];cases xq own [] q<;>simp
  .simp[iX,hA,hB]
 .simp[iX,hA]
def dN(k sz ot:Int):Int:=if(k != 1)=true then 8 else if(sz != 0||ot != 0)=true then 2 else 0
def cq:List D:=[I' 0,I' 0,I' 0,hD true [],qD true [],hD true [],cD true [],.b false,I' 0]
def gp:List D:=[I' (-1),I' 0,I' 0,hD true [],qD true [],hD true [],cD true [],.b false,I' 0]
theorem tR(nm:D)(k sz ot:Int):ev P (.call sM [.d (.ag [nm,I' k,I' sz,I' ot])] []) =
  some (.val (.tu [.d (.ag (if dN k sz ot=0 then gp else cq)),.d (I' (dN k sz ot))]) []):=by
 rw[au Yr rfl];cases h1:k != 1<;>simp only[dN,h1]
 .cases h2:sz != 0||ot != 0<;>simp[ET,h1,h2,gp,cq]
 .simp[ET,h1,cq]
theorem oA(nm:D)(k sz ot:Int)(own cnt time:Int)(hn:Bool)(hs:List Int)(qn:Bool)(q:List Sp.W)(bn:Bool)(bs:List Int)(cn:Bool)(cs:List (List D))(cl:Bool)(val:Int)
  (h1:hs.length<=1000000)(h2:q.length<=1000000)(h3:bs.length<=1000000)(h4:cs.length<=1000000):
  ev P (.call oS [.d (.ag [nm,I' k,I' sz,I' ot]),.d (.ag [I' own,I' cnt,I' time,hD hn hs,qD qn q,hD bn bs,cD cn cs,.b cl,I' val])] []) =
   some (.val (.d (I' (if dN k sz ot=0 then(if iX own cnt time hs q bs cs cl val then 0 else 1)else dN k sz ot))) []):=by
 have hv:=VQ own cnt time hn hs qn q bn bs cn cs cl val h1 h2 h3 h4;rw[au Ys rfl];cases hm:dN k sz ot==0
 .have hm':dN k sz ot≠0:=by simpa using hm
  have hm2:(dN k sz ot != 0)=true:=by simpa using hm'
  simp[EU,tR,hm',hm2,cq]
 .have hm':dN k sz ot=0:=by simpa using hm
  simp[EU,tR,hm',gp,hv];cases iX own cnt time hs q bs cs cl val<;>simp
end Go.VS.M
namespace Go.VS.M
open Go.VS.Sp
theorem Sp.W.neq{w w':Sp.W}(h:¬w=w'):(!w.task==w'.task||(!w.op==w'.op||(!w.value==w'.value||(!w.prio==w'.prio||!w.case==w'.case))))=true:=by
 cases hb:(!w.task==w'.task||(!w.op==w'.op||(!w.value==w'.value||(!w.prio==w'.prio||!w.case==w'.case))))
 .exfalso;apply h
  simp at hb;cases w;cases w';simp at hb⊢;exact hb
 .rfl
end Go.VS.M
namespace Go.VS.M
open Go.VS.Sp
end Go.VS.M
namespace Go.VS.M
open Go.VS.Sp
def uj(q:List Sp.W):Prop:=q.Pairwise λa b=>b.prio<=a.prio
def iq(p:Int)(q:List Sp.W):Nat:=(q.takeWhile λw=>decide (p<=w.prio)).length
theorem VR(p:Int):∀(q:List Sp.W),iq p q<=q.length
 | []=>by simp[iq]
 |w::q=>by
  have:=VR p q;unfold iq at *;simp only[oL];split<;>simp;omega
theorem JV{p:Int}{w:Sp.W}:∀{q:List Sp.W}{k:Nat},uj q->q[k]?=some w->(k<iq p q↔p<=w.prio)
 | [],k,_,h=>by simp at h
 |a::q,0,_,h=>by
  have:a=w:=by simpa using h
  subst this;by_cases hp:p<=a.prio<;>simp[iq,oL,hp]
 |a::q,k+1,hd,h=>by
  have hd':=gE.1 hd;have hq:q[k]?=some w:=by simpa using h
  have hw:w∈q:=lE hq;have h1:=hd'.1 w hw;have ih:=JV (p:=p) (k:=k) hd'.2 hq;by_cases hp:p<=a.prio
  .have:iq p (a::q)=iq p q+1:=by simp[iq,oL,hp]
   rw[this];constructor<;>intro h3
   .exact ih.1 (by omega)
   .have:=ih.2 h3;omega
  .have:iq p (a::q)=0:=by simp[iq,oL,hp]
   rw[this];constructor<;>intro h3<;>omega
theorem IT(n:Int):ev P (.call Bd [.d (I' n)] [])=some (.val (.d (.b false)) []):=by
 rw[au TG rfl];simp[IB]
theorem am7(a b c d e p:Int):ev P (.call EK [.d (.ag [I' a,I' b,I' c,I' d,I' e]),.d (I' p)] [])=some (.val (.d (I' (if p<=d then -1 else 1))) []):=by
 have hc:d<p->ev P (.call RT [.d (I' p),.d (I' d)] [])=some (.val (.d (I' 1)) []):=by
  intro h;have h1:¬p<d:=by omega
  rw[au aeV rfl];simp[S6,IT,h1,h]
 rw[au aeU rfl];by_cases h:p<=d
 .simp[Nm,h]
 .simp[Nm,h,hc (by omega)]
theorem FC{i j:Nat}(h:i+j<=4000000):IntKind.i64.wrap ((IntKind.u64.wrap ((i:Int)+j)).fdiv (2 ^ min 1 IntKind.u64.bits))=(((i+j) / 2:Nat):Int):=by
 have h1:IntKind.u64.wrap ((i:Int)+j)=(i:Int)+j:=by
  have e0:IntKind.u64.bits=64:=rfl;simp only[IntKind.wrap,e0,IntKind.signed,AM,fG,dK];omega
 have h2:(2:Int) ^ min 1 IntKind.u64.bits=2:=by decide
 rw[h1,h2,Qd _ (by omega),wrap_i64 (by omega) (by omega)]
 omega
theorem am8(nl:Bool)(q:List Sp.W)(p:Int)(hn:q.length<=1000000)(hd:uj q):∀(n i j:Nat),j - i<=n->i<=iq p q->iq p q<=j->j<=q.length ->
  ev P (.loop 0 [0,1,2,8,9,10] Ix [(0,.d (qD nl q)),(1,.d (I' p)),(2,.d (.fn EK [] [])),(8,.d (I' q.length)),(9,.d (I' i)),(10,.d (I' j))] []) =
   some (.out (.exit 0) [(0,.d (qD nl q)),(1,.d (I' p)),(2,.d (.fn EK [] [])),(8,.d (I' q.length)),(9,.d (I' (iq p q)))] []):=by
 intro n;induction n with
 |zero =>
  intro i j h1 h2 h3 h4
  have:i=iq p q:=by omega
  have:j=iq p q:=by omega
  subst i;subst j;rw[bY]
  conv=>lhs;arg 4;unfold Ix
  simp
 |succ n ih =>
  intro i j h1 h2 h3 h4;by_cases hij:i=j
  .have:i=iq p q:=by omega
   have:j=iq p q:=by omega
   subst i;subst j;rw[bY]
   conv=>lhs;arg 4;unfold Ix
   simp
  .have hlt:i<j:=by omega
   have hw1:IntKind.i64.wrap ((i:Int)+j)=i+j:=wrap_i64 (by omega) (by omega)
   rw[bY]
   conv=>lhs;arg 4;unfold Ix
   have hm:=FC (i:=i) (j:=j) (by omega)
   generalize zO:(i+j) / 2=m at hm;have hm1:i<=m:=by omega
   have hm2:m<j:=by omega
   obtain⟨w,hw⟩:∃w,q[m]?=some w:=⟨q[m]'(by omega),by simp⟩
   have hb:=JV (p:=p) hd hw;have Df:IntKind.i64.wrap ((m:Int)+1)=m+1:=wrap_i64 (by omega) (by omega)
   simp[hlt,hw1,hm,hw,Sp.W.row,am7];by_cases hp:p<=w.prio
   .simp[hp,Df]
    have:=ih (m+1) j (by omega) (by omega) (by omega) h4
    simpa using this
   .simp[hp]
    exact ih i m (by omega) (by omega) (by omega) (by omega)
theorem am9(nl:Bool)(q:List Sp.W)(p:Int)(hn:q.length<=1000000)(hd:uj q):
  ev P (.call RS [.d (qD nl q),.d (I' p),.d (.fn EK [] [])] [])=some (.val (.tu [.d (I' (iq p q)),.d (.b false)]) []):=by
 rw[au aeT rfl];have hb:=VR p q;have hl:=am8 nl q p hn hd q.length 0 q.length (by omega) (by omega) hb (by omega)
 simp at hl;simp[S5,hl];by_cases h:iq p q<q.length
 .obtain⟨w,hw⟩:∃w,q[iq p q]?=some w:=⟨q[iq p q],by simp⟩
  have kX:=JV (p:=p) hd hw;have hp:¬p<=w.prio:=λh=>by have:=kX.2 h;omega
  simp[h,hw,Sp.W.row,am7,hp];split<;>decide
 .simp[h]
theorem xu(nl:Bool)(q:List Sp.W)(gj:nl=true->q=[])(hn:q.length<=1000000):
  ev P (.call sO [.d (qD nl q)] [])=if nl=true then some (.val (.d (.sl 5 true [])) [])else some (.val (.aR 0 0 q.length) [.aI 5 true (q.map Sp.W.row)]):=by
 rw[au NF rfl];cases nl
 .have hr:q.length<=room:=by unfold room;omega
  cases q with
  |nil=>simp[qN,eP,fQ,ak,cut,az]
  |cons a r =>
   simp at hr;simp[qN,eP,fQ,ak,cut,hr,az]
 .simp[qN,az]
end Go.VS.M
namespace Go.VS.M
open Go.VS.Sp
structure Rp where
 own:Int
 q:List Sp.W
 parked:Bool
 ok:Bool
 wk:Option Int
 e:Int
 deriving DecidableEq
def zr(e:Int):Rp:=⟨0,[],false,false,none,e⟩
def VT(t:Int):List D:=[I' t,I' 50,I' 0,.b true,I' (-1)]
def VU:Option Int->List (List D)
 |none=>[]
 |some t=>[VT t]
@[simp] theorem ana:VU none=[]:=rfl
@[simp] theorem anb(t:Int):VU (some t)=[VT t]:=rfl
abbrev Ph(hn qn bn cn:Bool)(own:Int)(q:List Sp.W):List D:=[I' own,I' 0,I' 0,hD hn [],qD qn q,hD bn [],cD cn [],.b false,I' 0]
abbrev rpL(hn qn bn cn wn:Bool)(r:Rp):List D :=
 [I' r.own,I' 0,I' 0,hD hn [],qD qn r.q,hD bn [],cD cn [],.b false,I' 0,.b r.parked,I' 0,.b r.ok,.sl 5 wn (VU r.wk)]
def iA(x:Option dL)(r:Rp):Prop:=∃hn qn bn cn wn,x=some (.val (.tu [.d (.ag (rpL hn qn bn cn wn r)),.d (I' r.e)]) [])/\(qn=true->r.q=[])
def lq(own:Int)(q:List Sp.W)(t p:Int):Rp :=
 if(own == -1)=true then⟨t,q,false,true,none,0⟩
 else if(own==t)=true then zr 17
 else⟨own,q.take (iq p q)++⟨t,50,0,p,-1⟩::q.drop (iq p q),true,false,none,0⟩
def BZ(own:Int)(q:List Sp.W)(t:Int):Rp :=
 if(own != t)=true then zr 20
 else match q with
  | []=>⟨-1,[],false,true,none,0⟩
  |w::r=>⟨w.task,r,false,true,some w.task,0⟩
theorem anc(hn qn bn cn:Bool)(own:Int)(q:List Sp.W)(t o v p n:Int)(gj:qn=true->q=[])(hq:q.length<=1000000)(hd:uj q):
  iA (ev P (.call HP [.d (.ag (Ph hn qn bn cn own q)),.d (.ag [I' t,I' o,I' v,I' p,I' n])] [])) (lq own q t p):=by
 unfold lq;cases h1:own == -1
 .cases h2:own==t
  .refine⟨hn,false,bn,cn,true,?_,by simp⟩
   have hb:=VR p q;have hB:=am9 qn q p hq hd;have hC:=xu qn q gj hq;rw[au Tu rfl];have hI:=CH afy (p:=mh 5) rfl;cases qn
   .have hr:q.length+1<=room:=by unfold room;omega
    simp at hC;have e1:q.length+1<=iq p q+(q.length - iq p q+1):=by omega
    have e2:∀x:List D,List.take (q.length+1) (List.take (iq p q) (q.map Sp.W.row)++x::List.drop (iq p q) (q.map Sp.W.row))=List.take (iq p q) (q.map Sp.W.row)++x::List.drop (iq p q) (q.map Sp.W.row):=
     λx=>gD (by simp;omega)
    simp[Fg,h1,h2,hB,hC,aJ,aD,hI,mh,ak,cut,jU,hb,hr,sub,aE,back,aZ,e1,e2,Sp.W.row]
   .have:q=[]:=gj rfl
    subst this;simp at hC;have e1:iq p []=0:=rfl;have e2:1<=room:=by decide
    simp[Fg,h1,h2,hB,hC,aJ,aD,hI,mh,ak,cut,jU,e1,e2,back,aE,Sp.W.row]
  .refine⟨true,true,true,true,true,?_,by simp[zr]⟩
   rw[au Tu rfl];simp[Fg,h1,h2,zr]
 .refine⟨hn,qn,bn,cn,true,?_,by simpa using gj⟩
  rw[au Tu rfl];simp[Fg,h1]
theorem ane(hn qn bn cn:Bool)(own:Int)(q:List Sp.W)(t o v p n:Int)(gj:qn=true->q=[])(hq:q.length<=1000000):
  iA (ev P (.call LS [.d (.ag (Ph hn qn bn cn own q)),.d (.ag [I' t,I' o,I' v,I' p,I' n])] [])) (BZ own q t):=by
 unfold BZ;cases h1:own != t
 .cases q with
  |nil =>
   refine⟨hn,qn,bn,cn,true,?_,by simp⟩
   rw[au Tv rfl];simp[Iq,h1]
  |cons w r =>
   have iB:qn=false:=by cases qn;rfl;simp at gj
   subst iB;have hC:=xu false r (by simp) (by simp at hq;omega)
   have hz:(((r.length:Int)+1)==0)=false:=by simp;omega
   refine⟨hn,false,bn,cn,false,?_,by simp⟩
   simp at hC;have e1:(1:Int)<=r.length+1:=by omega
   rw[au Tv rfl];simp[Iq,h1,hz,hC,aJ,ak,cut,Sp.W.row,aZ,VT,e1]
 .refine⟨true,true,true,true,true,?_,by simp[zr]⟩
  rw[au Tv rfl];simp[Iq,h1,zr]
def B0(own:Int)(q:List Sp.W)(t p:Int):Rp:=if 0<=own then⟨own,q,false,false,none,0⟩else lq own q t p
theorem anf(hn qn bn cn:Bool)(own:Int)(q:List Sp.W)(t o v p n:Int)(gj:qn=true->q=[])(hq:q.length<=1000000)(hd:uj q):
  iA (ev P (.call LR [.d (.ag (Ph hn qn bn cn own q)),.d (.ag [I' t,I' o,I' v,I' p,I' n])] [])) (B0 own q t p):=by
 unfold B0;by_cases h1:0<=own
 .refine⟨hn,qn,bn,cn,true,?_,by simpa[h1]using gj⟩
  rw[au YW rfl];simp[M7,h1]
 .obtain⟨hn',nW,DY,DZ,wn',he,kE⟩:=anc hn qn bn cn own q t o v p n gj hq hd
  rw[aG h1];refine⟨hn',nW,DY,DZ,wn',?_,kE⟩;rw[au YW rfl];simp[M7,h1,he]
def B1:O:=.mp [(.i .i64 50,.d (.fn HP [] [])),(.i .i64 51,.d (.fn LR [] [])),(.i .i64 52,.d (.fn LS [] []))]
theorem Gx:ev P (.call Ra [] [])=some (.val (.mp 0) [B1]):=by
 rw[au adM rfl];simp[Sm,az,ak,cut,B1]
def qx(own:Int)(q:List Sp.W)(op t p:Int):Rp :=
 if op≠50/\op≠51/\op≠52 then zr 8
 else if(!cZ t||decide (p<0)||decide (9<p))=true then zr 2
 else if q.any (λw=>w.task==t)=true then zr 17
 else if op=50 then lq own q t p
 else if op=51 then B0 own q t p
 else BZ own q t
theorem ang(nm:D)(hn qn bn cn:Bool)(own:Int)(q:List Sp.W)(t o v p n:Int)(gj:qn=true->q=[])(hq:q.length<=1000000)(hd:uj q)
  (hv:iX own 0 0 [] q [] [] false 0=true):
  iA (ev P (.call A5 [.d (.ag [nm,I' 1,I' 0,I' 0]),.d (.ag (Ph hn qn bn cn own q)),.d (.ag [I' t,I' o,I' v,I' p,I' n])] [])) (qx own q o t p):=by
 have hC:=oA nm 1 0 0 own 0 0 hn [] qn q bn [] cn [] false 0 (by simp) hq (by simp) (by simp)
 have hm:dN 1 0 0=0:=by decide
 simp[hv,hm]at hC;have hw:=am6 (own:=own) (cnt:=0) (time:=0) (h1:=hD hn []) (h2:=hD bn []) (h3:=cD cn []) (qn:=qn) (q:=q) (cl:=false) (val:=0) t hq;unfold qx;by_cases h1:o≠50/\o≠51/\o≠52
 .rw[aN h1]
  obtain⟨a1,a2,a3⟩:=h1;refine⟨true,true,true,true,true,?_,by simp[zr]⟩
  rw[au C8 rfl];simp[zC,hC,aJ,Gx,B1,ak,cut,a1,a2,a3,zr]
 .rw[aG h1]
  have h3:o=50\/o=51\/o=52:=by omega
  cases h2:(!cZ t||decide (p<0)||decide (9<p))
  .rw[aG (by simp)]
   cases hW:q.any λw=>w.task==t
   .rw[aG (by simp)]
    rw[hW]at hw;rcases h3 with rfl |rfl |rfl
    .obtain⟨hn',nW,DY,DZ,wn',he,kE⟩:=anc hn qn bn cn own q t 50 v p n gj hq hd
     refine⟨hn',nW,DY,DZ,wn',?_,kE⟩;rw[au C8 rfl];simp[zC,hC,aJ,Gx,B1,ak,cut,fZ,h2,hw,he]
    .obtain⟨hn',nW,DY,DZ,wn',he,kE⟩:=anf hn qn bn cn own q t 51 v p n gj hq hd
     refine⟨hn',nW,DY,DZ,wn',?_,kE⟩;rw[au C8 rfl];simp[zC,hC,aJ,Gx,B1,ak,cut,fZ,h2,hw,he]
    .obtain⟨hn',nW,DY,DZ,wn',he,kE⟩:=ane hn qn bn cn own q t 52 v p n gj hq
     refine⟨hn',nW,DY,DZ,wn',?_,kE⟩;rw[au C8 rfl];simp[zC,hC,aJ,Gx,B1,ak,cut,fZ,h2,hw,he]
   .rw[aN rfl]
    rw[hW]at hw;refine⟨true,true,true,true,true,?_,by simp[zr]⟩
    rcases h3 with rfl |rfl |rfl<;>rw[au C8 rfl] <;>
    simp[zC,hC,aJ,Gx,B1,ak,cut,fZ,h2,hw,zr]
  .rw[aN rfl]
   refine⟨true,true,true,true,true,?_,by simp[zr]⟩
   rcases h3 with rfl |rfl |rfl<;>rw[au C8 rfl] <;>
   simp[zC,hC,aJ,Gx,B1,ak,cut,fZ,h2,zr]
theorem anh(nm k sz ot s0 s1 s2 s3 s4 s5 s6 s7 s8 c0 c1 c2 c3 c4:D)(e:Int)(he:e≠0)
  (hC:ev P (.call oS [.d (.ag [nm,k,sz,ot]),.d (.ag [s0,s1,s2,s3,s4,s5,s6,s7,s8])] [])=some (.val (.d (I' e)) [])):
  iA (ev P (.call A5 [.d (.ag [nm,k,sz,ot]),.d (.ag [s0,s1,s2,s3,s4,s5,s6,s7,s8]),.d (.ag [c0,c1,c2,c3,c4])] [])) (zr e):=by
 have he':(e != 0)=true:=by simpa using he
 refine⟨true,true,true,true,true,?_,by simp[zr]⟩
 rw[au C8 rfl];simp[zC,hC,he',zr]
end Go.VS.M
namespace Go.VS.M
open Go.VS.Sp
end Go.VS.M
namespace Go.VS.M
open Go.VS.Sp
structure MV(own:Int)(q:List Sp.W):Prop where
 sK:own = -1\/(0<=own/\own<16)
 free:own = -1->q=[]
 desc:uj q
 AA:q.Pairwise λa b=>a.task≠b.task
 all:∀w,w∈q->w.op=50/\w.value=0/\w.case = -1/\w.task≠own/\0<=w.task/\w.task<16/\0<=w.prio/\w.prio<=9
theorem ani(d:Int)(hd:d=2):∀(suf:List Sp.W)(prev:Option Sp.W),fT d prev suf=0↔(∀w,w∈suf->dU w=true)/\(prev.toList++suf).Pairwise (λa b=>b.prio<=a.prio)
 | [],prev=>by cases prev<;>simp[fT]
 |w::r,prev=>by
  have ih:=ani d hd r (some w);unfold fT;cases hv:dU w
  .simp[hv]
  .cases prev with
   |none =>
    simp[hv,hd]at ih⊢;rw[ih]
   |some p =>
    simp only[Option.toList,xR]at ih⊢;by_cases hp:p.prio<w.prio
    .simp[hd,hp]
     omega
    .simp[hd,hp]at ih⊢
     rw[ih];constructor
     .rintro⟨h1,h2,h3⟩
      refine⟨⟨hv,h1⟩,⟨by omega,?_⟩,h2,h3⟩
      intro a ha;have:=h2 a ha;omega
     .rintro⟨⟨_,h1⟩,⟨_,_⟩,h2,h3⟩
      exact⟨h1,h2,h3⟩
theorem anj(own:Int):∀(suf pre:List Sp.W),xq own pre suf=true↔(∀w,w∈suf->Gw own w=false)/\(∀a,a∈pre->∀b,b∈suf->a.task≠b.task)/\suf.Pairwise (λa b=>a.task≠b.task)
 | [],pre=>by simp[xq]
 |w::r,pre=>by
  have ih:=anj own r (pre++[w]);simp[xq,ih];constructor
  .rintro⟨⟨h1,h2⟩,h3,h4,h5⟩
   refine⟨⟨h1,h3⟩,λa ha=>⟨h2 a ha,λb hb=>h4 a (.inl ha) b hb⟩,λb hb=>h4 w (.inr rfl) b hb,h5⟩
  .rintro⟨⟨h1,h3⟩,h2,h4,h5⟩
   refine⟨⟨h1,λa ha=>(h2 a ha).1⟩,h3,?_,h5⟩
   rintro a (ha |rfl) b hb
   .exact(h2 a ha).2 b hb
   .exact h4 b hb
theorem AB{own cnt time:Int}{hs:List Int}{q:List Sp.W}{bs:List Int}{cs:List (List D)}{cl:Bool}{val:Int}:
  iX own cnt time hs q bs cs cl val=true↔(cnt=0/\time=0/\hs=[]/\bs=[]/\cs=[]/\cl=false/\val=0)/\q.length<=96/\MV own q:=by
 by_cases h96:q.length<=96
 .have VV:¬96<q.length:=by omega
  have e1:=ani 2 rfl q none;have e2:=anj own q [];simp at e1 e2;have el:((hs.length:Int)+bs.length+cs.length<=0)↔(hs=[]/\bs=[])/\cs=[]:=by
   rw[<-List.length_eq_zero_iff,<-List.length_eq_zero_iff,<-List.length_eq_zero_iff];omega
  simp[iX,dY,h96,VV,e1,e2,el];constructor
  .rintro⟨⟨⟨⟨a1,a4⟩,⟨⟨⟨b1,b2⟩,b4⟩,b3⟩,⟨c1,c2⟩,c3⟩,v,d⟩,qb,AA⟩
   refine⟨⟨b1,b2,c1,c2,c3,b3,b4⟩,?_,λh=>a4.resolve_left (by simp[h]),d,AA,?_⟩
   .simpa[cZ]using a1
   .intro w hw
    have h1:=v w hw;have h2:=qb w hw;simp[dU,kR]at h1;simp[Gw]at h2;omega
  .rintro⟨⟨b1,b2,c1,c2,c3,b3,b4⟩,m⟩
   refine⟨⟨⟨⟨?_,?_⟩,⟨⟨⟨b1,b2⟩,b4⟩,b3⟩,⟨c1,c2⟩,c3⟩,?_,m.desc⟩,?_,m.AA⟩
   .simpa[cZ]using m.sK
   .by_cases h:own = -1
    .exact .inr (m.free h)
    .exact .inl h
   .intro w hw
    have:=m.all w hw;simp[dU,kR];omega
   .intro w hw
    have:=m.all w hw;simp[Gw];omega
 .have VV:96<q.length:=by omega
  simp[iX,dY,VV,h96]
end Go.VS.M
namespace Go.VS.Sp
end Go.VS.Sp
namespace Go.VS.R
open Go.VS.Sp
def cZ(n:Int):Bool:=decide (0<=n)&&decide (n<16)
theorem fZ(n:Int):ev P (.call EG [.d (I' n)] [])=some (.val (.d (.b (cZ n))) []):=by
 rw[au YI rfl];simp[MH,cZ]
def kR(w:Sp.W):Bool:=(decide (w.task<0)||decide (16<=w.task)||decide (w.op<1)||decide (99<w.op)||decide (w.value < -1099511627776)||decide (1099511627776<w.value))
def dU(w:Sp.W):Bool:=!kR w&&(decide (0<=w.prio)&&decide (w.prio<=9)&&decide (-1<=w.case)&&decide (w.case<6))
theorem Fx(a b c d e:Int):ev P (.call EJ [.d (.ag [I' a,I' b,I' c,I' d,I' e])] [])=some (.val (.d (.b (dU ⟨a,b,c,d,e⟩))) []):=by
 rw[au Tz rfl];cases h:kR ⟨a,b,c,d,e⟩<;>simp only[dU,h]<;>unfold kR at h<;>simp[It,Sp.W.row,h]
def fT(d:Int)(prev:Option Sp.W):List Sp.W->Int
 | []=>0
 |w::r=>if dU w=false then 2 else if d=2/\(prev.any λp=>decide (p.prio<w.prio))=true then 9 else fT d (some w) r
theorem wm:IntKind.i64.wrap 1=1:=by decide
theorem Fy(d:Int)(nl:Bool)(l:List Sp.W)(hn:l.length<=96):∀(suf pre:List Sp.W),l=pre++suf ->
  ev P (.loop 0 [0,1,16,17,18] v7 [(0,.d (I' d)),(1,.d (.sl 5 nl (l.map Sp.W.row))),(16,.d (.sl 5 nl (l.map Sp.W.row))),(17,.d (I' l.length)),(18,.d (I' pre.length))] []) =
   if fT d pre.getLast? suf=0 then some (.out (.exit 0) [] [])else some (.out .ret [(4,.d (I' (fT d pre.getLast? suf)))] []):=by
 intro suf;induction suf with
 |nil =>
  intro pre hl
  have:l.length=pre.length:=by simp[hl]
  rw[bY]
  conv=>lhs;arg 4;unfold v7
  simp[this,fT]
 |cons w suf ih =>
  intro pre hl;have hg:l[pre.length]?=some w:=by simp[hl]
  have hlt:(pre.length:Int)<l.length:=by simp[hl];omega
  rw[bY]
  conv=>lhs;arg 4;unfold v7
  simp[hlt,hg,Sp.W.row,Fx];cases hv:dU w
  .simp[fT,hv]
  .simp
   have hnext:IntKind.i64.wrap ((pre.length:Int)+1)=pre.length+1:=wrap_i64 (by omega) (by omega)
   have bE:=ih (pre++[w]) (by simp[hl])
   simp at bE;rcases AN pre with rfl |⟨pre',p,rfl⟩
   .simp[fT,hv,wm]at *
    exact bE
   .have mH:l[pre'.length]?=some p:=by simp[hl]
    have hlen:((pre'.length:Int)+1<l.length):=by simp[hl];omega
    have hw:IntKind.i64.wrap ((pre'.length:Int)+1 - 1)=pre'.length:=by rw[wrap_i64 (by omega) (by omega)];omega
    have h0:(0:Int)<pre'.length+1:=by omega
    have dV:IntKind.i64.wrap (pre'.length:Int)=pre'.length:=wrap_i64 (by omega) (by omega)
    have jV:IntKind.i64.wrap ((pre'.length:Int)+1+1)=pre'.length+1+1:=wrap_i64 (by omega) (by omega)
    simp at bE;by_cases hd:d=2
    .by_cases hp:p.prio<w.prio
     .subst hd
      simp[fT,hv,hp,dV,jV,mH,Sp.W.row,h0]
     .subst hd
      simp[fT,hv,hp,dV,jV,mH,Sp.W.row,h0];exact bE
    .have hd2:(d==2)=false:=by simp[hd]
     simp[fT,hv,hd,hd2,dV,jV,mH,Sp.W.row,h0];exact bE
def dY(l:List Sp.W):Int:=if 96<l.length then 4 else fT 1 none l
theorem uW(nl:Bool)(l:List Sp.W):ev P (.call qM [.d (I' 1),.d (.sl 5 nl (l.map Sp.W.row))] []) =
  some (.val (.d (I' (dY l))) []):=by
 unfold dY;rw[au ND rfl];by_cases h:96<l.length
 .have h':(96:Int)<l.length:=by omega
  simp[zG,h,h']
 .have h':¬(96:Int)<l.length:=by omega
  have hl:=Fy 1 nl l (by omega) l [] rfl
  simp at hl;simp[zG,h,h',hl];by_cases hc:fT 1 none l=0<;>simp[hc]
theorem zL:∀(ds:List D),eY (ds.map V.d)=some ds
 | []=>rfl
 |d::ds=>by simp[zL ds]
theorem oy{a b:List D}{x:D}:eY (a.map V.d++.d x::b.map V.d)=some (a++x::b):=by
 have:=zL (a++x::b);simpa using this
theorem JU(t a b c d e:Int):ev P (.call uO [.d (.ag [I' a,I' b,I' c,I' d,I' e]),.d (.ref [I' t])] [])=some (.val (.d (.b (a != t))) []):=by
 rw[au Tw rfl];simp[Is]
abbrev bW(l:List Int):List (List D):=l.map λx=>[I' x]
abbrev hD(n:Bool)(l:List Int):D:=.sl 1 n (bW l)
abbrev qD(n:Bool)(l:List Sp.W):D:=.sl 5 n (l.map Sp.W.row)
abbrev cD(n:Bool)(l:List (List D)):D:=.sl 2 n l
theorem aZ{α β:Type}{f:α->β}{r:List α}:List.take r.length (r.map f)=r.map f:=gD (by simp)
theorem cG{α β:Type}{f:α->β}{r:List α}:List.drop (r.length+1) (r.map f)=[]:=qB (by simp)
end Go.VS.R
namespace Go.VS.R
open Go.VS.Sp
def jg(q:List Sp.W)(t:Int):Int×Bool:=match q.findIdx? (λw=>w.task==t)with |some i=>(i,true) |none=>(0,false)
theorem TI(nl:Bool)(l:List Sp.W)(t:Int)(hn:l.length<=1000000):∀(suf pre:List Sp.W),l=pre++suf ->
  ev P (.loop 0 [1,8,9,10] C0 [(1,.d (I' t)),(8,.d (qD nl l)),(9,.d (I' l.length)),(10,.d (I' pre.length))] []) =
   match suf.findIdx? (λw=>w.task==t)with
   |none=>some (.out (.exit 0) [] [])
   |some k=>some (.out .ret [(4,.d (I' ((pre.length+k:Nat):Int))),(5,.d (.b true))] []):=by
 intro suf;induction suf with
 |nil =>
  intro pre hl
  have:l.length=pre.length:=by simp[hl]
  rw[bY]
  conv=>lhs;arg 4;unfold C0
  simp[this]
 |cons w suf ih =>
  intro pre hl;have hg:l[pre.length]?=some w:=by simp[hl]
  have hlt:(pre.length:Int)<l.length:=by simp[hl];omega
  have hnext:IntKind.i64.wrap ((pre.length:Int)+1)=pre.length+1:=wrap_i64 (by omega) (by omega)
  have bE:=ih (pre++[w]) (by simp[hl])
  simp at bE;rw[bY]
  conv=>lhs;arg 4;unfold C0
  rw[xJ];cases hw:w.task==t
  .simp[hlt,hg,Sp.W.row,hw,hnext]
   rw[bE];cases suf.findIdx? (λw=>w.task==t)with
   |none=>rfl
   |some k=>simp;omega
  .simp[hlt,hg,Sp.W.row,hw]
theorem jW(nl:Bool)(l:List Sp.W)(t:Int)(hn:l.length<=1000000):
  ev P (.call jd [.d (qD nl l),.d (I' t)] [])=some (.val (.tu [.d (I' (jg l t).1),.d (.b (jg l t).2)]) []):=by
 rw[au YJ rfl];have hl:=TI nl l t hn l [] rfl;simp at hl;unfold jg;cases h:l.findIdx? (λw=>w.task==t)with
 |none=>rw[h]at hl;simp[E6,hl]
 |some k=>rw[h]at hl;simp at hl;simp[E6,hl]
theorem wu{q:List Sp.W}{t:Int}:(jg q t).2=q.any λw=>w.task==t:=by
 unfold jg;cases h:q.findIdx? (λw=>w.task==t)with
 |none =>
  rw[Kx]at h;symm;rw[oK];intro x hx;rw[h x hx];decide
 |some k =>
  symm;obtain⟨h1,h2⟩:=G5.1 h;exact qC.2 ⟨_,vN _,h2.1⟩
def lZ(es:Nat):List (List D)->V
 | []=>.d (.sl es true [])
 |r::rs=>.aR 1 0 (r::rs).length
def l5(es:Nat):List (List D)->List O
 | []=>[]
 |r::rs=>[.aI es true (r::rs)]
theorem ank{f:Nat}{first caps:List D}{p:Sp.W->Bool}(l:List Sp.W)(hn:l.length<=1000000)
  (hp:∀a b c d e,ev P (.call f (first.map V.d++[.d (.ag [I' a,I' b,I' c,I' d,I' e])]++caps.map V.d) [])=some (.val (.d (.b (p ⟨a,b,c,d,e⟩))) []))
  (R:Option dL)(hR:R=some (.out (.exit 0) [(5,lZ 5 ((l.filter p).map Sp.W.row))] (.aI 5 true (l.map Sp.W.row)::l5 5 ((l.filter p).map Sp.W.row)))):
  ∀(suf pre:List Sp.W),l=pre++suf ->
  ev P (.loop 1 [1,5,8,9,10] M8 [(1,.d (.fn f first caps)),(5,lZ 5 ((pre.filter p).map Sp.W.row)),(8,.aR 0 0 l.length),(9,.d (I' l.length)),(10,.d (I' pre.length))] (.aI 5 true (l.map Sp.W.row)::l5 5 ((pre.filter p).map Sp.W.row)))=R:=by
 intro suf;induction suf with
 |nil =>
  intro pre hl;have An:l=pre:=by simp[hl]
  subst An;rw[bY,hR]
  conv=>lhs;arg 4;unfold M8
  cases hf:l.filter p with
  |nil=>simp[lZ,l5,ak,cut]
  |cons a r=>simp[lZ,l5,ak,cut,Sp.W.row,aq]
 |cons w suf ih =>
  intro pre hl;clear hR;have hg:l[pre.length]?=some w:=by simp[hl]
  have hlt:(pre.length:Int)<l.length:=by simp[hl];omega
  have iK:pre.length<l.length:=by simp[hl]
  have pM:l[pre.length]=w:=by simpa[qE iK]using hg
  have hnext:IntKind.i64.wrap ((pre.length:Int)+1)=pre.length+1:=wrap_i64 (by omega) (by omega)
  have bE:=ih (pre++[w]) (by simp[hl])
  simp at bE hp;rw[bY]
  conv=>lhs;arg 4;unfold M8
  cases hf:pre.filter p with
  |nil =>
   cases hw:p w
   .simp[hw,hnext,hf,lZ,l5,ak,cut]at bE⊢
    simp[hlt,iK,pM,Sp.W.row,hp,oy,hw,hnext,lZ,l5,ak,cut,aq];exact bE
   .have hr:1<=room:=by decide
    simp[hw,hnext,hf,hr,lZ,l5,ak,cut,Sp.W.row]at bE⊢;simp[hlt,iK,pM,Sp.W.row,hp,oy,hw,hnext,hr,lZ,l5,ak,cut,aq];exact bE
  |cons a r =>
   have hrl:r.length<1000000:=by
    have h1:(pre.filter p).length<=pre.length:=oM _ _;have h2:pre.length<=l.length:=by simp[hl]
    rw[hf]at h1;simp at h1;omega
   have hr:r.length+1+1<=room:=by unfold room;omega
   cases hw:p w
   .simp[hw,hnext,hf,lZ,l5,ak,cut,Sp.W.row]at bE⊢
    simp[hlt,iK,pM,Sp.W.row,hp,oy,hw,hnext,lZ,l5,ak,cut,aq];exact bE
   .simp[hw,hnext,hf,hr,lZ,l5,ak,cut,Sp.W.row,av,aZ,cG,cy]at bE⊢
    simp[hlt,iK,pM,Sp.W.row,hp,oy,hw,hnext,hr,lZ,l5,ak,cut,av,aZ,cG,cy,aq];exact bE
theorem anl(l:List Sp.W)(t:Int)(hn:l.length<=1000000):
  ev P (.call Rb [.aR 0 0 l.length,.d (I' t)] [.aI 5 true (l.map Sp.W.row)]) =
   some (.val (lZ 5 ((l.filter λw=>w.task != t).map Sp.W.row)) (.aI 5 true (l.map Sp.W.row)::l5 5 ((l.filter λw=>w.task != t).map Sp.W.row))):=by
 have hf:ev P (.call RF [.aR 0 0 l.length,.d (.fn uO [] [.ref [I' t]])] [.aI 5 true (l.map Sp.W.row)]) =
   some (.val (lZ 5 ((l.filter λw=>w.task != t).map Sp.W.row)) (.aI 5 true (l.map Sp.W.row)::l5 5 ((l.filter λw=>w.task != t).map Sp.W.row))):=by
  rw[au aeu rfl];have hl:=ank (f:=uO) (first:=[]) (caps:=[.ref [I' t]]) (p:=λw=>w.task != t) l hn (by intro a b c d e;simp[JU]) _ rfl l [] rfl
  cases hf:l.filter λw=>w.task != t with
  |nil=>simp[hf,lZ,l5]at hl;simp[M9,hl,lZ,l5,az,ak,cut]
  |cons a r=>simp[hf,lZ,l5,Sp.W.row]at hl;simp[M9,hl,lZ,l5,az,ak,cut,Sp.W.row,aq]
 rw[au adO rfl];cases hg:l.filter λw=>w.task != t with
 |nil=>simp[hg,lZ,l5]at hf;simp[MG,hf,aD,lZ,l5,az,ak,cut,sub,aE,back]
 |cons a r=>simp[hg,lZ,l5,Sp.W.row]at hf;simp[MG,hf,aD,lZ,l5,az,ak,cut,Sp.W.row,sub,aE,back,aq]
end Go.VS.R
namespace Go.VS.R
open Go.VS.Sp
def dN(k sz ot:Int):Int:=if(k != 2)=true then 8 else if(sz != 0||ot != 0)=true then 2 else 0
def cq:List D:=[I' 0,I' 0,I' 0,hD true [],qD true [],hD true [],cD true [],.b false,I' 0]
def gp:List D:=[I' (-1),I' 0,I' 0,hD true [],qD true [],hD true [],cD true [],.b false,I' 0]
theorem tR(nm:D)(k sz ot:Int):ev P (.call sN [.d (.ag [nm,I' k,I' sz,I' ot])] []) =
  some (.val (.tu [.d (.ag (if dN k sz ot=0 then gp else cq)),.d (I' (dN k sz ot))]) []):=by
 rw[au Yt rfl];cases h1:k != 2<;>simp only[dN,h1]
 .cases h2:sz != 0||ot != 0<;>simp[EV,h1,h2,gp,cq]
 .simp[EV,h1,cq]
def yQ(t:Int):Nat->List Int->Option Nat
 |_,[]=>none
 |k,x::r=>if t=x then some k else yQ t (k+1) r
theorem anm{t:Int}:∀{l:List Int}{k:Nat},(yQ t k l).isSome=decide (t∈l)
 | [],k=>by simp[yQ]
 |x::r,k=>by
  unfold yQ;by_cases h:t=x
  .simp[h]
  .rw[aG h,anm];simp[h]
theorem ann(nl:Bool)(l:List Int)(t:Int)(hn:l.length<=1000000):∀(suf pre:List Int),l=pre++suf ->
  ev P (.loop 0 [0,1,7,8] Nn [(0,.d (hD nl l)),(1,.d (I' t)),(7,.d (I' l.length)),(8,.d (I' pre.length))] []) =
   match yQ t pre.length suf with
   |none=>some (.out (.exit 0) [] [])
   |some k=>some (.out .ret [(4,.d (I' k))] []):=by
 intro suf;induction suf with
 |nil =>
  intro pre hl
  have:l.length=pre.length:=by simp[hl]
  rw[bY]
  conv=>lhs;arg 4;unfold Nn
  simp[this,yQ]
 |cons w suf ih =>
  intro pre hl;have hg:l[pre.length]?=some w:=by simp[hl]
  have hlt:(pre.length:Int)<l.length:=by simp[hl];omega
  have hnext:IntKind.i64.wrap ((pre.length:Int)+1)=pre.length+1:=wrap_i64 (by omega) (by omega)
  have bE:=ih (pre++[w]) (by simp[hl])
  simp at bE;rw[bY]
  conv=>lhs;arg 4;unfold Nn
  unfold yQ;by_cases hw:t=w
  .simp[hlt,hg,hw]
  .have dV:(t==w)=false:=by simpa using hw
   simp[hlt,hg,hw,dV,hnext];exact bE
theorem ano(nl:Bool)(l:List Int)(t:Int)(hn:l.length<=1000000):
  ev P (.call RI [.d (hD nl l),.d (I' t)] [])=some (.val (.d (.b (decide (t∈l)))) []):=by
 have hl:=ann nl l t hn l [] rfl;simp at hl;have hI:ev P (.call RU [.d (hD nl l),.d (I' t)] [])=some (.val (.d (I' (match yQ t 0 l with |none=>-1 |some k=>k))) []):=by
  rw[au aeW rfl];cases hi:yQ t 0 l<;>(rw[hi]at hl;simp[S7,hl])
 have hs:=anm (t:=t) (l:=l) (k:=0);rw[<-hs];rw[au aex rfl];cases hi:yQ t 0 l<;>(rw[hi]at hI;simp[SK,hI])
def ij(own:Int)(H:List Int)(t:Int):Int:=if(decide (0<=t)&&t==own)=true then 2 else if t∈H then 1 else 0
theorem Gy(own:Int)(a b c d e f g:D)(nl:Bool)(H:List Int)(t:Int)(hn:H.length<=1000000):
  ev P (.call LB [.d (.ag [I' own,a,b,hD nl H,c,d,e,f,g]),.d (I' t)] [])=some (.val (.d (I' (ij own H t))) []):=by
 have hC:=ano nl H t hn;rw[au adQ rfl];unfold ij;cases h1:(decide (0<=t)&&t==own)
 .simp[MI,h1]
  by_cases h2:t∈H<;>simp[h2]at hC<;>simp[hC,h2]
 .simp[MI,h1]
end Go.VS.R
namespace Go.VS.R
open Go.VS.Sp
theorem IT(n:Int):ev P (.call Bd [.d (I' n)] [])=some (.val (.d (.b false)) []):=by
 rw[au TG rfl];simp[IB]
theorem TO(n:Int):ev P (.call CT [.d (I' n)] [])=some (.val (.d (.b false)) []):=by
 rw[au Y6 rfl];simp[Ns]
theorem IU(a b:Int):ev P (.call HW [.d (I' a),.d (I' b)] [])=some (.val (.d (.b (decide (a<b)))) []):=by
 rw[au Y5 rfl];by_cases h:a<b<;>simp[Nr,IT,h]
def iL(l:List Int):Prop:=l.Pairwise (·<=·)
def bI(t:Int)(l:List Int):Nat:=(l.takeWhile λx=>decide (x<t)).length
theorem tU(t:Int):∀(l:List Int),bI t l<=l.length
 | []=>by simp[bI]
 |w::q=>by
  have:=tU t q;unfold bI at *;simp only[oL];split<;>simp;omega
theorem FB{t x:Int}:∀{l:List Int}{k:Nat},iL l->l[k]?=some x->(k<bI t l↔x<t)
 | [],k,_,h=>by simp at h
 |a::q,0,_,h=>by
  have:a=x:=by simpa using h
  subst this;by_cases hp:a<t<;>simp[bI,oL,hp]
 |a::q,k+1,hd,h=>by
  have hd':=gE.1 hd;have hq:q[k]?=some x:=by simpa using h
  have hw:x∈q:=lE hq;have h1:=hd'.1 x hw;have ih:=FB (t:=t) (k:=k) hd'.2 hq;by_cases hp:a<t
  .have:bI t (a::q)=bI t q+1:=by simp[bI,oL,hp]
   rw[this,<-ih];omega
  .have:bI t (a::q)=0:=by simp[bI,oL,hp]
   rw[this];constructor<;>intro h3<;>omega
theorem FC{i j:Nat}(h:i+j<=4000000):IntKind.i64.wrap ((IntKind.u64.wrap ((i:Int)+j)).fdiv (2 ^ min 1 IntKind.u64.bits))=(((i+j) / 2:Nat):Int):=by
 have h1:IntKind.u64.wrap ((i:Int)+j)=(i:Int)+j:=by
  have e0:IntKind.u64.bits=64:=rfl;simp only[IntKind.wrap,e0,IntKind.signed,AM,fG,dK];omega
 have h2:(2:Int) ^ min 1 IntKind.u64.bits=2:=by decide
 rw[h1,h2,Qd _ (by omega),wrap_i64 (by omega) (by omega)]
 omega
theorem anp{l:List Int}{R:List (List D)}{m:Nat}{x:Int}(hR:l.length<=R.length)(hT:R.take l.length=bW l)(hx:l[m]?=some x):R[m]?=some [I' x]/\m<l.length:=by
 have hm:m<l.length:=(sF.1 hx).1;refine⟨?_,hm⟩;have h1:(R.take l.length)[m]?=some [I' x]:=by rw[hT];simp[hx]
 rw[zf]at h1;simpa[hm]using h1
theorem TP(l:List Int)(R:List (List D))(t:Int)(hn:l.length<=1000000)(hR:l.length<=R.length)(hT:R.take l.length=bW l)(hA:iL l):∀(n i j:Nat),j - i<=n->i<=bI t l->bI t l<=j->j<=l.length ->
  ev P (.loop 1 [0,1,6,7,8] C3 [(0,.aR 0 0 l.length),(1,.d (I' t)),(6,.d (I' l.length)),(7,.d (I' i)),(8,.d (I' j))] [.aI 1 true R]) =
   some (.out (.exit 0) [(0,.aR 0 0 l.length),(1,.d (I' t)),(6,.d (I' l.length)),(7,.d (I' (bI t l)))] [.aI 1 true R]):=by
 intro n;induction n with
 |zero =>
  intro i j h1 h2 h3 h4;have e1:i=bI t l:=by omega
  have e2:j=bI t l:=by omega
  rw[bY]
  conv=>lhs;arg 4;unfold C3
  simp[e1,e2,ak,cut]
 |succ n ih =>
  intro i j h1 h2 h3 h4;by_cases hij:i=j
  .have e1:i=bI t l:=by omega
   have e2:j=bI t l:=by omega
   rw[bY]
   conv=>lhs;arg 4;unfold C3
   simp[e1,e2,ak,cut]
  .have hlt:i<j:=by omega
   have hw1:IntKind.i64.wrap ((i:Int)+j)=i+j:=wrap_i64 (by omega) (by omega)
   have hm:=FC (i:=i) (j:=j) (by omega)
   generalize zO:(i+j) / 2=m at hm;have hm1:i<=m:=by omega
   have hm2:m<j:=by omega
   obtain⟨x,hx⟩:∃x,l[m]?=some x:=⟨l[m]'(by omega),by simp⟩
   have hb:=FB (t:=t) hA hx;obtain⟨hg,hml⟩:=anp hR hT hx;have Df:IntKind.i64.wrap ((m:Int)+1)=m+1:=wrap_i64 (by omega) (by omega)
   have Bs:(m:Int)<l.length:=by omega
   have VW:m<R.length:=by omega
   have pM:R[m]=[I' x]:=by rw[qE VW]at hg;exact za hg
   rw[bY]
   conv=>lhs;arg 4;unfold C3
   by_cases hp:x<t
   .have bE:=ih (m+1) j (by omega) (by omega) (by omega) h4
    simp at bE;simp[hlt,hw1,hm,Df,hml,Bs,VW,pM,IU,hp,ak,cut];exact bE
   .have bE:=ih i m (by omega) (by omega) (by omega) (by omega)
    simp[hlt,hw1,hm,hml,Bs,VW,pM,IU,hp,ak,cut];exact bE
theorem TQ(l:List Int)(R:List (List D))(t:Int)(hn:l.length<=1000000)(hR:l.length<=R.length)(hT:R.take l.length=bW l)(hA:iL l):
  ∃b,ev P (.call Mb [.aR 0 0 l.length,.d (I' t)] [.aI 1 true R])=some (.val (.tu [.d (I' (bI t l)),.d (.b b)]) [.aI 1 true R]):=by
 have hb:=tU t l;have hl:=TP l R t hn hR hT hA l.length 0 l.length (by omega) (by omega) hb (by omega)
 simp at hl;by_cases h:bI t l<l.length
 .obtain⟨x,hx⟩:∃x,l[bI t l]?=some x:=⟨l[bI t l],by simp⟩
  obtain⟨hg,_⟩:=anp hR hT hx;have VX:bI t l<R.length:=by omega
  have pM:R[bI t l]=[I' x]:=by rw[qE VX]at hg;exact za hg
  have h2:(bI t l:Int)<l.length:=by omega
  generalize bI t l=B at *;by_cases ym:x=t
  .refine⟨true,?_⟩
   subst ym;rw[au NI rfl];simp[Fl,hl,h,h2,VX,pM,ak,cut,az]
  .refine⟨false,?_⟩
   have TS:(x==t)=false:=by simpa using ym
   rw[au NI rfl];simp[Fl,hl,h,h2,VX,pM,TO,TS,ak,cut,az]
 .have h2:¬(bI t l:Int)<l.length:=by omega
  refine⟨false,?_⟩;rw[au NI rfl];simp[Fl,hl,h,h2,ak,cut,az]
theorem anq(t:Int):ev P (.call Mb [.d (.sl 1 true []),.d (I' t)] [])=some (.val (.tu [.d (I' 0),.d (.b false)]) []):=by
 have hl:ev P (.loop 0 [0,1,6,7,8] C3 [(0,.d (.sl 1 true [])),(1,.d (I' t)),(6,.d (I' 0)),(7,.d (I' 0)),(8,.d (I' 0))] []) =
   some (.out (.exit 0) [(0,.d (.sl 1 true [])),(1,.d (I' t)),(6,.d (I' 0)),(7,.d (I' 0))] []):=by
  rw[bY]
  conv=>lhs;arg 4;unfold C3
  simp
 rw[au NI rfl];simp[Fl,hl,az]
end Go.VS.R
namespace Go.VS.R
open Go.VS.Sp
def mw(x:Int):List D:=[I' x]
def xw(p:Int->Bool):Nat->List Int->Option Nat
 |_,[]=>none
 |k,w::r=>if p w=true then some k else xw p (k+1) r
theorem anr{f:Nat}{first caps:List D}{p:Int->Bool}(l:List Int)(hn:l.length<=1000000)
  (hp:∀a,ev P (.call f (first.map V.d++[.d (I' a)]++caps.map V.d) [])=some (.val (.d (.b (p a))) [])):
  ∀(suf pre:List Int),l=pre++suf ->
  ev P (.loop 1 [0,1,7,8] Nc [(0,.aR 0 0 l.length),(1,.d (.fn f first caps)),(7,.d (I' l.length)),(8,.d (I' pre.length))] [.aI 1 true (l.map mw)]) =
   match xw p pre.length suf with
   |none=>some (.out (.exit 0) [] [.aI 1 true (l.map mw)])
   |some k=>some (.out .ret [(4,.d (I' k))] [.aI 1 true (l.map mw)]):=by
 intro suf;induction suf with
 |nil =>
  intro pre hl
  have:l.length=pre.length:=by simp[hl]
  rw[bY]
  conv=>lhs;arg 4;unfold Nc
  simp[this,xw,ak,cut]
 |cons w suf ih =>
  intro pre hl;have hg:l[pre.length]?=some w:=by simp[hl]
  have hlt:(pre.length:Int)<l.length:=by simp[hl];omega
  have iK:pre.length<l.length:=by simp[hl]
  have pM:l[pre.length]=w:=by simpa[qE iK]using hg
  have hnext:IntKind.i64.wrap ((pre.length:Int)+1)=pre.length+1:=wrap_i64 (by omega) (by omega)
  have bE:=ih (pre++[w]) (by simp[hl])
  simp at bE hp;rw[bY]
  conv=>lhs;arg 4;unfold Nc
  cases hw:p w
  .simp[hlt,iK,pM,mw,hp,oy,hw,hnext,xw,ak,cut]
   exact bE
  .simp[hlt,iK,pM,mw,hp,oy,hw,xw,ak,cut]
theorem ans{f:Nat}{first caps:List D}{p:Int->Bool}(l:List Int)(hn:l.length<=1000000)
  (hp:∀a,ev P (.call f (first.map V.d++[.d (I' a)]++caps.map V.d) [])=some (.val (.d (.b (p a))) [])):
  ev P (.call RK [.aR 0 0 l.length,.d (.fn f first caps)] [.aI 1 true (l.map mw)]) =
   some (.val (.d (I' (match xw p 0 l with |none=>-1 |some k=>k))) [.aI 1 true (l.map mw)]):=by
 have hl:=anr l hn hp l [] rfl;simp at hl;rw[au aez rfl];simp[SM,hl,ak,cut];cases xw p 0 l<;>simp[az,ak,cut]
 done
theorem ant{f:Nat}{first caps:List D}{p:Int->Bool}(l:List Int)(hn:l.length<=1000000)
  (hp:∀a,ev P (.call f (first.map V.d++[.d (I' a)]++caps.map V.d) [])=some (.val (.d (.b (p a))) [])):
  ∀(suf pre:List Int)(R:List (List D)),l=pre++suf->R.length=l.length->(∀r,r∈R->r.length=1)->R.take (pre.filter λw=>!p w).length=(pre.filter λw=>!p w).map mw->R.drop pre.length=suf.map mw ->
  ∃R',R'.length=l.length/\(∀r,r∈R'->r.length=1)/\R'.take (l.filter λw=>!p w).length=(l.filter λw=>!p w).map mw /\
  ev P (.loop 1 [0,1,5,6] Ii [(0,.aR 0 0 l.length),(1,.d (.fn f first caps)),(5,.d (I' (pre.filter λw=>!p w).length)),(6,.d (I' pre.length))] [.aI 1 true R]) =
   some (.out (.exit 0) [(0,.aR 0 0 l.length),(5,.d (I' (l.filter λw=>!p w).length))] [.aI 1 true R']):=by
 intro suf;induction suf with
 |nil =>
  intro pre R hl hR JW h1 h2;have An:l=pre:=by simp[hl]
  subst An;refine⟨R,hR,JW,h1,?_⟩;rw[bY]
  conv=>lhs;arg 4;unfold Ii
  simp[ak,cut]
 |cons w suf ih =>
  intro pre R hl hR JW h1 h2;have hlt:(pre.length:Int)<l.length:=by simp[hl];omega
  have iK:pre.length<l.length:=by simp[hl]
  have hnext:IntKind.i64.wrap ((pre.length:Int)+1)=pre.length+1:=wrap_i64 (by omega) (by omega)
  have rB:(pre.filter λw=>!p w).length<=pre.length:=oM _ _
  have hRw:R[pre.length]?=some (mw w):=by
   have:=congrArg (λx=>x[0]?) h2
   simpa using this
  have hlR:pre.length<R.length:=by omega
  have hRg:R[pre.length]=mw w:=by simpa[qE hlR]using hRw
  have hd:R.drop (pre.length+1)=suf.map mw:=by
   rw[<-List.drop_drop,h2];simp
  simp at hp;generalize hk:(pre.filter λw=>!p w)=kp at *
  cases hw:p w
  .have anu:IntKind.i64.wrap ((kp.length:Int)+1)=kp.length+1:=wrap_i64 (by omega) (by omega)
   obtain⟨R',k1,k0,k2,k3⟩:=ih (pre++[w]) (R.set kp.length (mw w)) (by simp[hl]) (by simpa using hR) (λr hr=>by rcases KA hr with h |h;exact JW r h;rw[h];rfl)
    (by
     simp[hk,hw];rw[List.take_succ_eq_append_getElem (by simp;omega)]
     rw[List.take_set_of_le (gh _),h1];simp)
    (by simp;rw[List.drop_set_of_lt (by omega)];exact hd)
   refine⟨R',k1,k0,k2,?_⟩;simp[hk,hw,mw]at k3;have anv:kp.length<l.length:=by omega
   have anw:kp.length<R.length:=by omega
   have h3:(R[kp.length]).length=1:=JW _ (vN anw);have h3d:List.drop 1 R[kp.length]=[]:=qB (by omega)
   rw[bY]
   conv=>lhs;arg 4;unfold Ii
   simp[hlt,iK,hRg,hR,mw,hp,oy,hw,hnext,anu,anv,h3,h3d,ak,cut];exact k3
  .obtain⟨R',k1,k0,k2,k3⟩:=ih (pre++[w]) R (by simp[hl]) hR JW (by simpa[hk,hw]using h1) (by simpa using hd)
   refine⟨R',k1,k0,k2,?_⟩;simp[hk,hw]at k3;rw[bY]
   conv=>lhs;arg 4;unfold Ii
   simp[hlt,iK,hRg,hR,mw,hp,oy,hw,hnext,ak,cut];exact k3
theorem anx{p:Int->Bool}:∀(l pre:List Int),(∀w,w∈pre->p w=false)->match xw p pre.length l with
  |none=>∀w,w∈pre++l->p w=false
  |some k=>∃a w b,pre++l=a++w::b/\a.length=k/\p w=true/\(∀x,x∈a->p x=false)
 | [],pre,h=>by simpa[xw]using h
 |w::r,pre,h=>by
  unfold xw;cases hw:p w
  .have ih:=anx r (pre++[w]) (by intro x hx;rcases dm.1 hx with hx |hx;exact h x hx;simp at hx;rw[hx];exact hw)
   simp at ih⊢;exact ih
  .simp only[dH]
   exact⟨pre,w,r,rfl,rfl,hw,h⟩
theorem anz{f:Nat}{first caps:List D}{p:Int->Bool}(l:List Int)(hn:l.length<=1000000)
  (hp:∀a,ev P (.call f (first.map V.d++[.d (I' a)]++caps.map V.d) [])=some (.val (.d (.b (p a))) [])):
  ∃R',(l.filter λw=>!p w).length<=R'.length/\R'.take (l.filter λw=>!p w).length=(l.filter λw=>!p w).map mw /\
  ev P (.call Rc [.aR 0 0 l.length,.d (.fn f first caps)] [.aI 1 true (l.map mw)]) =
   some (.val (.aR 0 0 (l.filter λw=>!p w).length) [.aI 1 true R']):=by
 have hi:=ans l hn hp;have hs:=anx (p:=p) l [] (by simp)
 rw[au adR rfl];cases hx:xw p 0 l with
 |none =>
  rw[hx]at hi;simp only[mY,hx,mX]at hs;have hf:(l.filter λw=>!p w)=l:=by
   rw[Qe];intro a ha;simp[hs a ha]
  refine⟨l.map mw,by rw[hf];simp,by rw[hf];simp[aZ],?_⟩
  rw[hf];simp[MK,aD,hi,ak,cut,sub,aE,back,az]
 |some k =>
  rw[hx]at hi;simp only[mY,hx,mX]at hs;obtain⟨a,w,b,hl,hk,hw,ha⟩:=hs;have OA:((a++[w]).filter λw=>!p w)=a:=by
   have:(a.filter λw=>!p w)=a:=by
    rw[Qe];intro x hx;simp[ha x hx]
   simp[this,hw]
  obtain⟨R',k1,k0,k2,k3⟩:=ant l hn hp b (a++[w]) (l.map mw) (by simp[hl]) (by simp) (by
    intro r hr;obtain⟨x,_,rfl⟩:=gY.1 hr;rfl) (by rw[OA,hl];simp) (by rw[show l=(a++[w])++b by simp[hl],xQ];exact Ek (by simp))
  rw[OA,hk]at k3;have hak:k+1<=l.length:=by rw[hl,<-hk,l6,ir];omega
  have hnext:IntKind.i64.wrap ((k:Int)+1)=k+1:=wrap_i64 (by omega) (by omega)
  have hkn:((k:Int) == -1)=false:=by simp
  simp only[l6,vO,hk]at k3;have hfl:(l.filter λw=>!p w).length<l.length:=by
   have h1:=oM (λw=>!p w) a
   have h2:=oM (λw=>!p w) b
   rw[hl];simp[XJ,hw];omega
  generalize (l.filter λw=>!p w)=fl at *
  refine⟨R'.take fl.length++List.replicate (R'.length - fl.length) [I' 0],by simp;omega,?_,?_⟩
  .rw[Ct (by simp;omega),AU,KL,k2]
  .have hz:¬(l.length - fl.length=0):=by omega
   have hdr:List.drop l.length R'=[]:=qB (by omega)
   simp at k3;simp[hz,hdr,MK,aD,hi,ak,cut,sub,aE,back,az,hkn,hnext,k3,hfl,Nat.le_of_lt hfl,k1]
   done
theorem anA(t a b c d x:Int):ev P (.call LC [.d (I' x),.d (.ref [I' t,I' a,I' b,I' c,I' d])] [])=some (.val (.d (.b (x==t))) []):=by
 rw[au adS rfl];simp[Sq]
theorem tV(nl:Bool)(q:List Int)(gj:nl=true->q=[])(hn:q.length<=1000000):
  ev P (.call tN [.d (hD nl q)] [])=if nl=true then some (.val (.d (.sl 1 true [])) [])else some (.val (.aR 0 0 q.length) [.aI 1 true (bW q)]):=by
 rw[au Tx rfl];cases nl
 .have hr:q.length<=room:=by unfold room;omega
  cases q with
  |nil=>simp[rU,eP,fQ,ak,cut,az]
  |cons a r =>
   simp at hr;simp[rU,eP,fQ,ak,cut,hr,az]
 .simp[rU,az]
theorem xu(nl:Bool)(q:List Sp.W)(gj:nl=true->q=[])(hn:q.length<=1000000):
  ev P (.call sO [.d (qD nl q)] [])=if nl=true then some (.val (.d (.sl 5 true [])) [])else some (.val (.aR 0 0 q.length) [.aI 5 true (q.map Sp.W.row)]):=by
 rw[au NF rfl];cases nl
 .have hr:q.length<=room:=by unfold room;omega
  cases q with
  |nil=>simp[qN,eP,fQ,ak,cut,az]
  |cons a r =>
   simp at hr;simp[qN,eP,fQ,ak,cut,hr,az]
 .simp[qN,az]
end Go.VS.R
namespace Go.VS.R
open Go.VS.Sp
def hV:Option (List (List D)×Nat)->Nat->V
 |none,_=>.d (.sl 1 true [])
 |some (_,n),i=>.aR i 0 n
def hO:Option (List (List D)×Nat)->List O
 |none=>[]
 |some (R,_)=>[.aI 1 true R]
def qV:Bool ⊕ (List (List D)×Nat×Nat)->Nat->V
 | .inl nl,_=>.d (.sl 5 nl [])
 | .inr (_,off,len),i=>.aR i off len
def qO:Bool ⊕ (List (List D)×Nat×Nat)->List O
 | .inl _=>[]
 | .inr (R,_,_)=>[.aI 5 true R]
def kV:Option (List (List D))->Nat->V
 |none,_=>.d (.sl 5 true [])
 |some R,i=>.aR i 0 R.length
def kO:Option (List (List D))->List O
 |none=>[]
 |some R=>[.aI 5 true R]
structure Z where
 c1:D
 c2:D
 c5:D
 c6:D
 c7:D
 c8:D
def lk(z:Z)(own:Int)(h q k:V):O:=.gK 10 [[.d (I' own),.d z.c1,.d z.c2,h,q,.d z.c5,.d z.c6,.d z.c7,.d z.c8,k]]
def cV(z:Z)(own:Int)(H:Option (List (List D)×Nat))(Q:Bool ⊕ (List (List D)×Nat×Nat))(K:Option (List (List D))):List O :=
 lk z own (hV H 1) (qV Q (1+(hO H).length)) (kV K (1+(hO H).length+(qO Q).length))::(hO H++(qO Q++kO K))
def hlen:Option (List (List D)×Nat)->Nat
 |none=>0
 |some (_,n)=>n
theorem aO:List.range 2=[0,1]:=rfl
theorem aP:List.range 3=[0,1,2]:=rfl
theorem cu:List.range 4=[0,1,2,3]:=rfl
theorem bX:List.range 5=[0,1,2,3,4]:=rfl
theorem AD(z:Z)(own:Int) (H) (Q) (K):ev P (.call CO [.loc 0 0 0] (cV z own H Q K))=some (.val (.d (.b (own != -1))) (cV z own H Q K)):=by
 rw[au YL rfl];rcases H with _ |⟨R,n⟩<;>rcases Q with nl |⟨S,off,len⟩<;>rcases K with _ |T <;>
  simp[MJ,cV,lk,hV,hO,qV,qO,kV,kO,ak,cut,aO,aP,cu,bX,aq,az]
theorem Pj(z:Z)(own:Int) (H) (Q) (K):ev P (.call EH [.loc 0 0 0] (cV z own H Q K))=some (.val (.d (.b (own == -1&&(hlen H:Int)==0))) (cV z own H Q K)):=by
 have hW:=AD z own H Q K;rw[au YK rfl];cases ho:own == -1
 .have fA:(own != -1)=true:=by simp[bne,ho]
  rw[fA]at hW;rcases H with _ |⟨R,n⟩<;>rcases Q with nl |⟨S,off,len⟩<;>rcases K with _ |T <;>
   (
    simp[cV,lk,hV,hO,qV,qO,kV,kO]at hW;simp[E7,cV,lk,hV,hO,qV,qO,kV,kO,ak,cut,aO,aP,cu,bX,aq,az,aD,sub,aE,back,hW,hlen])
 .have fA:(own != -1)=false:=by simp[bne,ho]
  rw[fA]at hW;rcases H with _ |⟨R,n⟩<;>rcases Q with nl |⟨S,off,len⟩<;>rcases K with _ |T <;>
   (
    simp[cV,lk,hV,hO,qV,qO,kV,kO]at hW;simp[E7,cV,lk,hV,hO,qV,qO,kV,kO,ak,cut,aO,aP,cu,bX,aq,az,aD,sub,aE,back,hW,hlen])
end Go.VS.R
namespace Go.VS.R
open Go.VS.Sp
def eZ(t:Int)(l:List Int):List Int:=l.take (bI t l)++t::l.drop (bI t l)
theorem Gz(t:Int)(l:List Int):(eZ t l).length=l.length+1:=by
 have:=tU t l;unfold eZ;simp;omega
def hX:Option (List (List D)×Nat)->List O
 |none=>[]
 |some _=>[.dead]
theorem VY(z:Z)(own t:Int) (H) (Q) (K):ev P (.call ya [.loc 0 0 0,.d (I' t),.d (I' 55)] (cV z own H Q K))=some (.val (.tu []) (cV z t H Q K)):=by
 rw[au II rfl];rcases H with _ |⟨R,n⟩<;>rcases Q with nl |⟨S,off,len⟩<;>rcases K with _ |T <;>
  simp[C2,cV,lk,hV,hO,qV,qO,kV,kO,ak,cut,aO,aP,cu,bX,aq,az,av]
def sC(z:Z)(own:Int)(H:Option (List (List D)×Nat))(Q:Bool ⊕ (List (List D)×Nat×Nat))(K:Option (List (List D)))(R:List (List D)):List O :=
 lk z own (.aR (1+(hO H).length+(qO Q).length+(kO K).length) 0 R.length) (qV Q (1+(hO H).length)) (kV K (1+(hO H).length+(qO Q).length))::(hX H++(qO Q++(kO K++[.aI 1 true R])))
theorem VZ(z:Z)(own t o:Int) (Q) (K)(ho:o≠55):ev P (.call ya [.loc 0 0 0,.d (I' t),.d (I' o)] (cV z own none Q K))=some (.val (.tu []) (sC z own none Q K [[I' t]])):=by
 have hI:=CH NL (p:=mh 1) rfl;have fA:(o==55)=false:=by simpa using ho
 have r1:1<=room:=by decide
 rw[au II rfl];rcases Q with nl |⟨S,off,len⟩<;>rcases K with _ |T <;>
  simp[C2,fA,anq,hI,mh,jU,r1,cV,sC,lk,hV,hO,hX,qV,qO,kV,kO,aD,sub,aE,back,ak,cut,aO,aP,cu,bX,aq,az,av]
theorem JX(z:Z)(own t o:Int)(l:List Int)(R:List (List D)) (Q) (K)(ho:o≠55)(hn:l.length<=1000000)(hR:l.length<=R.length)(hT:R.take l.length=bW l)(hA:iL l):
  ev P (.call ya [.loc 0 0 0,.d (I' t),.d (I' o)] (cV z own (some (R,l.length)) Q K))=some (.val (.tu []) (sC z own (some (R,l.length)) Q K (bW (eZ t l)))):=by
 have hI:=CH NL (p:=mh 1) rfl;have fA:(o==55)=false:=by simpa using ho
 obtain⟨b,hB⟩:=TQ l R t hn hR hT hA;have hb:=tU t l;have r1:l.length+1<=room:=by unfold room;omega
 have hlen:(eZ t l).length=l.length+1:=Gz t l;have hrow:bW (eZ t l)=(bW l).take (bI t l)++[I' t]::(bW l).drop (bI t l):=by unfold eZ bW;simp[Cn,Co]
 rw[hrow];have rY:((bW l).take (bI t l)++[I' t]::(bW l).drop (bI t l)).length=l.length+1:=by simp;omega
 have hT':R.take l.length=bW l:=hT;generalize bI t l=B at *;generalize dZ:bW l=rr at *;unfold sC;rw[rY];rw[au II rfl];rcases Q with nl |⟨S,off,len⟩<;>rcases K with _ |T <;>
  simp[C2,fA,hB,hb,hI,mh,jU,r1,hR,hT',cV,lk,hV,hO,hX,qV,qO,kV,kO,aD,sub,aE,back,ak,cut,aO,aP,cu,bX,aq,az,av]
end Go.VS.R
namespace Go.VS.R
open Go.VS.Sp
theorem V0(t:Int):∀{l:List Int},iL l->(∀x,x∈l.take (bI t l)->x<t)/\(∀x,x∈l.drop (bI t l)->t<=x)
 | [],_=>by simp
 |a::q,hs=>by
  have hs':=gE.1 hs;by_cases hp:a<t
  .have e:bI t (a::q)=bI t q+1:=by simp[bI,oL,hp]
   obtain⟨h1,h2⟩:=V0 t hs'.2;rw[e];constructor
   .intro w hw
    rw[Qo]at hw;rcases dD.1 hw with rfl |hw
    .exact hp
    .exact h1 w hw
   .intro w hw
    rw[XD]at hw;exact h2 w hw
  .have e:bI t (a::q)=0:=by simp[bI,oL,hp]
   rw[e];refine⟨by simp,?_⟩
   intro w hw;rw[List.drop_zero]at hw;rcases dD.1 hw with rfl |hw
   .omega
   .have:=hs'.1 w hw;omega
theorem anB{t:Int}{l:List Int}(h:iL l):iL (eZ t l):=by
 obtain⟨h1,h2⟩:=V0 t h;unfold eZ iL;rw[oN];refine⟨h.sublist (List.take_sublist _ _),gE.2 ⟨h2,h.sublist (List.drop_sublist _ _)⟩,?_⟩;intro a ha b hb;rcases dD.1 hb with rfl |hb
 .exact Qz (h1 a ha)
 .exact Int.le_trans (Qz (h1 a ha)) (h2 b hb)
theorem AE{α:Type}{l:List α}{x:α}:List.take (l.length+1) (l++[x])=l++[x]:=gD (by simp)
def wk(w:Sp.W):List D:=[I' w.task,I' w.op,I' 0,.b true,I' (-1)]
def jj(l:List Int)(q:List Sp.W):List Int:=q.foldl (λl w=>eZ w.task l) l
def iy(i off:Nat):List Sp.W->V
 | []=>.d (.sl 5 false [])
 |r=>.aR i off r.length
def jk(z:Z)(own:Int)(pre:List O)(S:List (List D))(off:Nat)(r:List Sp.W)(l:List Int)(k:List (List D)):List O :=
 lk z own (.aR (pre.length+2) 0 l.length) (iy (pre.length+1) off r) (.aR (pre.length+3) 0 k.length)::(pre++[.aI 5 true S,.aI 1 true (bW l),.aI 5 true k])
theorem anC(z:Z)(pre:List O)(hpre:pre=[]\/pre=[.dead])(S:List (List D)):∀(r:List Sp.W)(off:Nat)(l:List Int)(k:List (List D)),iL l->l.length+r.length<=100000->k.length+r.length<=100000->l≠[]->k≠[]->S.drop off=r.map Sp.W.row ->
  ev P (.loop (pre.length+2) [0] ku [(0,.loc 0 0 0)] (jk z (-1) pre S off r l k)) =
   some (.out (.exit 0) [] (jk z (-1) pre S (off+(r.takeWhile λw=>w.op != 55).length) (r.dropWhile λw=>w.op != 55) (jj l (r.takeWhile λw=>w.op != 55)) (k++(r.takeWhile λw=>w.op != 55).map wk))):=by
 intro r;induction r with
 |nil =>
  intro off l k hA hn hk vB qv hS;rw[bY]
  conv=>lhs;arg 4;unfold ku
  rcases hpre with rfl |rfl <;>
   simp[jk,lk,iy,jj,ak,cut,aO,aP,cu,bX,aq]
 |cons w r ih =>
  intro off l k hA hn hk vB qv hS;simp at hn hk;have D0:S.length=off+(r.length+1):=by
   have:=congrArg List.length hS;simp at this;omega
  have hoff:off<S.length:=by omega
  have JY:S[off]=w.row:=by
   have:=congrArg (λx=>x[0]?) hS
   simpa[qE hoff]using this
  have tZ:S.drop (off+1)=r.map Sp.W.row:=by
   have:=congrArg (λx=>x.drop 1) hS
   simpa[Em]using this
  have ql:¬((l.length:Int)==0)=true:=by
   simp;exact vB
  have k8:((l.length:Int)==0)=false:=by simpa using ql
  by_cases ho:w.op=55
  .have hF:=Pj z (-1) (some (bW l,l.length)) (.inr (S,off,r.length+1)) (some k)
   have hW:=AD z (-1) (some (bW l,l.length)) (.inr (S,off,r.length+1)) (some k);simp[hlen,k8,cV,lk,hV,hO,qV,qO,kV,kO]at hF hW;have e1:((w::r).takeWhile λw=>w.op != 55)=[]:=by simp[oL,ho]
   have e2:((w::r).dropWhile λw=>w.op != 55)=w::r:=by simp[XK,ho]
   rw[e1,e2];rw[bY]
   conv=>lhs;arg 4;unfold ku
   rcases hpre with rfl |rfl <;>
    simp[jk,lk,iy,jj,ak,cut,aO,aP,cu,bX,aq,hoff,JY,D0,Sp.W.row,ho,aD,hF,hW,sub,aE,back]
  .have fA:(w.op==55)=false:=by simpa using ho
   have e1:((w::r).takeWhile λw=>w.op != 55)=w::r.takeWhile λw=>w.op != 55:=by simp[oL,ho]
   have e2:((w::r).dropWhile λw=>w.op != 55)=r.dropWhile λw=>w.op != 55:=by simp[XK,ho]
   have oE:=Gz w.task l;have bE:=ih (off+1) (eZ w.task l) (k++[wk w]) (anB hA) (by omega) (by simp;omega) (by intro h;rw[h]at oE;simp at oE) (by simp) tZ
   have e3:jj l ((w::r).takeWhile λw=>w.op != 55)=jj (eZ w.task l) (r.takeWhile λw=>w.op != 55):=by rw[e1];rfl
   have e4:k++((w::r).takeWhile λw=>w.op != 55).map wk=k++[wk w]++(r.takeWhile λw=>w.op != 55).map wk:=by rw[e1];simp
   have e5:off+((w::r).takeWhile λw=>w.op != 55).length=off+1+(r.takeWhile λw=>w.op != 55).length:=by rw[e1];simp;omega
   rw[e2,e3,e4,e5];generalize hRR:some (dL.out (.exit 0) [] (jk z (-1) pre S (off+1+(r.takeWhile λw=>w.op != 55).length) (r.dropWhile λw=>w.op != 55) (jj (eZ w.task l) (r.takeWhile λw=>w.op != 55)) (k++[wk w]++(r.takeWhile λw=>w.op != 55).map wk)))=RR at *
   have DU:k.length+1<=room:=by unfold room;omega
   have hk3:k.length+1<=100000:=by omega
   cases r with
   |nil =>
    have hW:=AD z (-1) (some (bW l,l.length)) (.inr (S,off,1)) (some k);have hG:=JX z (-1) w.task w.op l (bW l) (.inl false) (some k) ho (by omega) (by simp) (by simp[bW,aZ]) hA
    simp[cV,sC,lk,hV,hO,hX,qV,qO,kV,kO,oE]at hW hG;simp at D0;simp[jk,lk,iy,oE]at bE;rw[bY]
    conv=>lhs;arg 4;unfold ku
    rcases hpre with rfl |rfl
    .simp[jk,lk,iy,jj,ak,cut,aO,aP,cu,bX,aq,hoff,JY,D0,Sp.W.row,fA,aD,hW,hG,sub,aE,back,DU,cy,AE,wk]at bE⊢
     exact bE
    .simp[jk,lk,iy,jj,ak,cut,aO,aP,cu,bX,aq,hoff,JY,D0,Sp.W.row,fA,aD,hW,hG,sub,aE,back,DU,cy,AE,wk]at bE⊢
     exact bE
   |cons w2 r =>
    have hW:=AD z (-1) (some (bW l,l.length)) (.inr (S,off,r.length+1+1)) (some k);have hG:=JX z (-1) w.task w.op l (bW l) (.inr (S,off+1,r.length+1)) (some k) ho (by omega) (by simp) (by simp[bW,aZ]) hA
    simp[cV,sC,lk,hV,hO,hX,qV,qO,kV,kO,oE]at hW hG;simp at D0;simp[jk,lk,iy,oE]at bE;have q1:(0:Int)<r.length+1+1:=by omega
    have q2:(1:Int)<=r.length+1+1:=by omega
    have q3:(1:Int)<r.length+1+1:=by omega
    have q4:((r.length:Int)+1+1 - 1).toNat=r.length+1:=by omega
    have hle:off+(r.length+1+1)<=S.length:=by omega
    have hsub:off+(r.length+1+1) - (off+1)=r.length+1:=by omega
    rw[bY]
    conv=>lhs;arg 4;unfold ku
    rcases hpre with rfl |rfl
    .simp[jk,lk,iy,jj,ak,cut,aO,aP,cu,bX,aq,hoff,q1,q2,q3,q4,JY,D0,Sp.W.row,fA,aD,hW,hG,sub,aE,back,DU,cy,AE,wk]at bE⊢
     exact bE
    .simp[jk,lk,iy,jj,ak,cut,aO,aP,cu,bX,aq,hoff,q1,q2,q3,q4,JY,D0,Sp.W.row,fA,aD,hW,hG,sub,aE,back,DU,cy,AE,wk]at bE⊢
     exact bE
end Go.VS.R
namespace Go.VS.R
open Go.VS.Sp
theorem anD(z:Z)(own:Int) (H)(nl:Bool):ev P (.call tM [.loc 0 0 0] (cV z own H (.inl nl) none))=some (.val (.tu []) (cV z own H (.inl nl) none)):=by
 have hL:ev P (.loop (1+(hO H).length) [0] ku [(0,.loc 0 0 0)] (cV z own H (.inl nl) none))=some (.out (.exit 0) [] (cV z own H (.inl nl) none)):=by
  rw[bY]
  conv=>lhs;arg 4;unfold ku
  rcases H with _ |⟨R,n⟩<;>simp[cV,lk,hV,hO,qV,qO,kV,kO,ak,cut,aO,aP,cu,bX,aq]
 rw[au Fw rfl];rcases H with _ |⟨R,n⟩<;>simp[cV,lk,hV,hO,qV,qO,kV,kO]at hL <;>
  simp[Bf,hL,cV,lk,hV,hO,qV,qO,kV,kO,ak,cut,aO,aP,cu,bX,aq,az]
theorem anE(z:Z)(own:Int) (H)(S:List (List D)):ev P (.call tM [.loc 0 0 0] (cV z own H (.inr (S,0,0)) none))=some (.val (.tu []) (cV z own H (.inr (S,0,0)) none)):=by
 have hL:ev P (.loop (2+(hO H).length) [0] ku [(0,.loc 0 0 0)] (cV z own H (.inr (S,0,0)) none))=some (.out (.exit 0) [] (cV z own H (.inr (S,0,0)) none)):=by
  rw[bY]
  conv=>lhs;arg 4;unfold ku
  rcases H with _ |⟨R,n⟩<;>simp[cV,lk,hV,hO,qV,qO,kV,kO,ak,cut,aO,aP,cu,bX,aq]
 rw[au Fw rfl];rcases H with _ |⟨R,n⟩<;>simp[cV,lk,hV,hO,qV,qO,kV,kO]at hL <;>
  simp[Bf,hL,cV,lk,hV,hO,qV,qO,kV,kO,ak,cut,aO,aP,cu,bX,aq,az]
theorem anF(z:Z)(own:Int) (H)(w:Sp.W)(r:List Sp.W)(h:own≠-1\/(w.op=55/\hlen H≠0)):
  ev P (.call tM [.loc 0 0 0] (cV z own H (.inr ((w::r).map Sp.W.row,0,r.length+1)) none))=some (.val (.tu []) (cV z own H (.inr ((w::r).map Sp.W.row,0,r.length+1)) none)):=by
 have hW:=AD z own H (.inr ((w::r).map Sp.W.row,0,r.length+1)) none;have hF:=Pj z own H (.inr ((w::r).map Sp.W.row,0,r.length+1)) none;have hL:ev P (.loop (2+(hO H).length) [0] ku [(0,.loc 0 0 0)] (cV z own H (.inr ((w::r).map Sp.W.row,0,r.length+1)) none))=some (.out (.exit 0) [] (cV z own H (.inr ((w::r).map Sp.W.row,0,r.length+1)) none)):=by
  rw[bY]
  conv=>lhs;arg 4;unfold ku
  cases ho:own != -1
  .have fA:own = -1:=by simpa using ho
   subst fA;obtain⟨h1,h2⟩:w.op=55/\hlen H≠0:=by simpa using h
   have h3:((hlen H:Int)==0)=false:=by simpa using h2
   rw[ho]at hW;rw[h3]at hF;rcases H with _ |⟨R,n⟩<;>simp[cV,lk,hV,hO,qV,qO,kV,kO,Sp.W.row,h1]at hW hF <;>
    simp[cV,lk,hV,hO,qV,qO,kV,kO,ak,cut,aO,aP,cu,bX,aq,aD,hW,hF,h1,sub,aE,back,Sp.W.row]
  .rw[ho]at hW
   rcases H with _ |⟨R,n⟩<;>simp[cV,lk,hV,hO,qV,qO,kV,kO,Sp.W.row]at hW <;>
    simp[cV,lk,hV,hO,qV,qO,kV,kO,ak,cut,aO,aP,cu,bX,aq,aD,hW,sub,aE,back,Sp.W.row]
 rw[au Fw rfl];rcases H with _ |⟨R,n⟩<;>simp[cV,lk,hV,hO,qV,qO,kV,kO]at hL <;>
  simp[Bf,hL,cV,lk,hV,hO,qV,qO,kV,kO,ak,cut,aO,aP,cu,bX,aq,az]
def mB(z:Z)(own:Int)(H:Option (List (List D)×Nat))(S:List (List D))(r:List Sp.W)(k:List D):List O :=
 lk z own (hV H 1) (iy (1+(hO H).length) 1 r) (.aR (2+(hO H).length) 0 1)::(hO H++[.aI 5 true S,.aI 5 true [k]])
theorem anG(z:Z) (H)(w:Sp.W)(r:List Sp.W)(h:w.op=55)(hH:hlen H=0)(ht:w.task≠-1):
  ev P (.call tM [.loc 0 0 0] (cV z (-1) H (.inr ((w::r).map Sp.W.row,0,r.length+1)) none))=some (.val (.tu []) (mB z w.task H ((w::r).map Sp.W.row) r (wk w))):=by
 have r1:1<=room:=by decide
 have wT:(w.task != -1)=true:=by simpa using ht
 have hL:ev P (.loop (2+(hO H).length) [0] ku [(0,.loc 0 0 0)] (cV z (-1) H (.inr ((w::r).map Sp.W.row,0,r.length+1)) none))=some (.out (.exit 0) [] (mB z w.task H ((w::r).map Sp.W.row) r (wk w))):=by
  have hW:=AD z (-1) H (.inr ((w::r).map Sp.W.row,0,r.length+1)) none;have hF:=Pj z (-1) H (.inr ((w::r).map Sp.W.row,0,r.length+1)) none;have hFt:((-1:Int) == -1&&((hlen H:Nat):Int)==0)=true:=by rw[hH];decide
  rw[hFt]at hF;cases r with
  |nil =>
   have hG:=VY z (-1) w.task H (.inl false) none;rw[bY]
   conv=>lhs;arg 4;unfold ku
   rcases H with _ |⟨R,n⟩
   .simp[cV,lk,hV,hO,qV,qO,kV,kO,Sp.W.row,h]at hW hF hG
    simp[cV,mB,lk,hV,hO,qV,qO,kV,kO,iy,ak,cut,aO,aP,cu,bX,aq,aD,hW,hF,hG,h,r1,sub,aE,back,Sp.W.row,wk];rw[bY]
    conv=>lhs;arg 4;unfold ku
    simp[ak,cut,aO,aP,cu,bX,aq]
   .simp[cV,lk,hV,hO,qV,qO,kV,kO,Sp.W.row,h]at hW hF hG
    simp[cV,mB,lk,hV,hO,qV,qO,kV,kO,iy,ak,cut,aO,aP,cu,bX,aq,aD,hW,hF,hG,h,r1,sub,aE,back,Sp.W.row,wk];rw[bY]
    conv=>lhs;arg 4;unfold ku
    simp[ak,cut,aO,aP,cu,bX,aq]
  |cons w2 r =>
   have hG:=VY z (-1) w.task H (.inr ((w::w2::r).map Sp.W.row,1,r.length+1)) none;have JZ:=AD z w.task H (.inr ((w::w2::r).map Sp.W.row,1,r.length+1)) (some [wk w]);rw[wT]at JZ;have q1:(0:Int)<r.length+1+1:=by omega
   have q2:(1:Int)<=r.length+1+1:=by omega
   have q3:(1:Int)<r.length+1+1:=by omega
   have q4:((r.length:Int)+1+1 - 1).toNat=r.length+1:=by omega
   rw[bY]
   conv=>lhs;arg 4;unfold ku
   rcases H with _ |⟨R,n⟩
   .simp[cV,lk,hV,hO,qV,qO,kV,kO,Sp.W.row,wk,h]at hW hF hG JZ
    simp[cV,mB,lk,hV,hO,qV,qO,kV,kO,iy,ak,cut,aO,aP,cu,bX,aq,aD,hW,hF,hG,h,q1,q2,q3,q4,r1,sub,aE,back,Sp.W.row,wk];rw[bY]
    conv=>lhs;arg 4;unfold ku
    simp[ak,cut,aO,aP,cu,bX,aq,aD,JZ,sub,aE,back]
   .simp[cV,lk,hV,hO,qV,qO,kV,kO,Sp.W.row,wk,h]at hW hF hG JZ
    simp[cV,mB,lk,hV,hO,qV,qO,kV,kO,iy,ak,cut,aO,aP,cu,bX,aq,aD,hW,hF,hG,h,q1,q2,q3,q4,r1,sub,aE,back,Sp.W.row,wk];rw[bY]
    conv=>lhs;arg 4;unfold ku
    simp[ak,cut,aO,aP,cu,bX,aq,aD,JZ,sub,aE,back]
 rw[au Fw rfl];cases r<;>rcases H with _ |⟨R,n⟩<;>simp[cV,mB,lk,hV,hO,qV,qO,kV,kO,iy,wk]at hL <;>
  simp[Bf,hL,cV,mB,lk,hV,hO,qV,qO,kV,kO,iy,wk,ak,cut,aO,aP,cu,bX,aq,az]
def hL:Option (List (List D)×Nat)->List Int->Prop
 |none,l=>l=[]
 |some (R,n),l=>n=l.length/\l.length<=R.length/\R.take l.length=bW l
theorem anH(z:Z) (H)(l:List Int)(w:Sp.W)(r:List Sp.W)(h:w.op≠55)(hH:hL H l)(hA:iL l)(h1:l.length<=1000)(h2:r.length<=1000):
  ev P (.call tM [.loc 0 0 0] (cV z (-1) H (.inr ((w::r).map Sp.W.row,0,r.length+1)) none)) =
   some (.val (.tu []) (jk z (-1) (hX H) ((w::r).map Sp.W.row) (1+(r.takeWhile λw=>w.op != 55).length) (r.dropWhile λw=>w.op != 55) (jj (eZ w.task l) (r.takeWhile λw=>w.op != 55)) (wk w::(r.takeWhile λw=>w.op != 55).map wk))):=by
 have r1:1<=room:=by decide
 have fA:(w.op==55)=false:=by simpa using h
 have oE:=Gz w.task l;have hG:=anC z (hX H) (by cases H;exact .inl rfl;exact .inr rfl) ((w::r).map Sp.W.row) r 1 (eZ w.task l) [wk w] (anB hA) (by omega) (by simp;omega) (by intro h;rw[h]at oE;simp at oE) (by simp) (by simp)
 have hL:ev P (.loop (2+(hO H).length) [0] ku [(0,.loc 0 0 0)] (cV z (-1) H (.inr ((w::r).map Sp.W.row,0,r.length+1)) none)) =
   some (.out (.exit 0) [] (jk z (-1) (hX H) ((w::r).map Sp.W.row) (1+(r.takeWhile λw=>w.op != 55).length) (r.dropWhile λw=>w.op != 55) (jj (eZ w.task l) (r.takeWhile λw=>w.op != 55)) (wk w::(r.takeWhile λw=>w.op != 55).map wk))):=by
  have e1:[wk w]++(r.takeWhile λw=>w.op != 55).map wk=wk w::(r.takeWhile λw=>w.op != 55).map wk:=rfl
  rw[e1]at hG;generalize some (dL.out (.exit 0) [] (jk z (-1) (hX H) ((w::r).map Sp.W.row) (1+(r.takeWhile λw=>w.op != 55).length) (r.dropWhile λw=>w.op != 55) (jj (eZ w.task l) (r.takeWhile λw=>w.op != 55)) (wk w::(r.takeWhile λw=>w.op != 55).map wk)))=RR at *
  have hW:=AD z (-1) H (.inr ((w::r).map Sp.W.row,0,r.length+1)) none;rcases H with _ |⟨R,n⟩
  .obtain rfl:l=[]:=hH
   have e0:eZ w.task []=[w.task]:=rfl;cases r with
   |nil =>
    have xx:=VZ z (-1) w.task w.op (.inl false) none h;simp[cV,sC,jk,lk,hV,hO,hX,qV,qO,kV,kO,iy,Sp.W.row,wk,e0]at hW xx hG;rw[bY]
    conv=>lhs;arg 4;unfold ku
    simp[cV,lk,hV,hO,qV,qO,kV,kO,ak,cut,aO,aP,cu,bX,aq,aD,hW,xx,fA,r1,sub,aE,back,Sp.W.row];exact hG
   |cons w2 r =>
    have xx:=VZ z (-1) w.task w.op (.inr ((w::w2::r).map Sp.W.row,1,r.length+1)) none h;have q1:(0:Int)<r.length+1+1:=by omega
    have q2:(1:Int)<=r.length+1+1:=by omega
    have q3:(1:Int)<r.length+1+1:=by omega
    have q4:((r.length:Int)+1+1 - 1).toNat=r.length+1:=by omega
    simp[cV,sC,jk,lk,hV,hO,hX,qV,qO,kV,kO,iy,Sp.W.row,wk,e0]at hW xx hG;rw[bY]
    conv=>lhs;arg 4;unfold ku
    simp[cV,lk,hV,hO,qV,qO,kV,kO,ak,cut,aO,aP,cu,bX,aq,aD,hW,xx,fA,r1,q1,q2,q3,q4,sub,aE,back,Sp.W.row];exact hG
  .obtain⟨rfl,hR,hT⟩:=hH
   cases r with
   |nil =>
    have xx:=JX z (-1) w.task w.op l R (.inl false) none h (by omega) hR hT hA
    simp[cV,sC,jk,lk,hV,hO,hX,qV,qO,kV,kO,iy,Sp.W.row,wk,oE]at hW xx hG;rw[bY]
    conv=>lhs;arg 4;unfold ku
    simp[cV,lk,hV,hO,qV,qO,kV,kO,ak,cut,aO,aP,cu,bX,aq,aD,hW,xx,fA,r1,sub,aE,back,Sp.W.row];exact hG
   |cons w2 r =>
    have xx:=JX z (-1) w.task w.op l R (.inr ((w::w2::r).map Sp.W.row,1,r.length+1)) none h (by omega) hR hT hA
    have q1:(0:Int)<r.length+1+1:=by omega
    have q2:(1:Int)<=r.length+1+1:=by omega
    have q3:(1:Int)<r.length+1+1:=by omega
    have q4:((r.length:Int)+1+1 - 1).toNat=r.length+1:=by omega
    simp[cV,sC,jk,lk,hV,hO,hX,qV,qO,kV,kO,iy,Sp.W.row,wk,oE]at hW xx hG;rw[bY]
    conv=>lhs;arg 4;unfold ku
    simp[cV,lk,hV,hO,qV,qO,kV,kO,ak,cut,aO,aP,cu,bX,aq,aD,hW,xx,fA,r1,q1,q2,q3,q4,sub,aE,back,Sp.W.row];exact hG
 generalize (r.takeWhile λw=>w.op != 55)=tk at *
 generalize (r.dropWhile λw=>w.op != 55)=dk at *
 rw[au Fw rfl];cases dk<;>rcases H with _ |⟨R,n⟩<;>simp[cV,jk,lk,hV,hO,hX,qV,qO,kV,kO,iy]at hL <;>
  simp[Bf,hL,cV,jk,lk,hV,hO,hX,qV,qO,kV,kO,iy,ak,cut,aO,aP,cu,bX,aq,az]
end Go.VS.R
namespace Go.VS.R
open Go.VS.Sp
def hS(n:Bool)(l:List Int):Option (List (List D)×Nat):=if n=true then none else some (bW l,l.length)
def qS(n:Bool)(q:List Sp.W):Bool ⊕ (List (List D)×Nat×Nat):=if n=true then .inl true else .inr (q.map Sp.W.row,0,q.length)
def bN(z:Z)(own:Int):O:=.aI 10 true [[I' own,z.c1,z.c2,.sl 1 true [],.sl 5 true [],z.c5,z.c6,z.c7,z.c8,.sl 5 true []]]
def jQ(z:Z)(own:Int)(hn:Bool)(H:List Int)(qn:Bool)(Q:List Sp.W):List O:=if(hn&&qn)=true then[bN z own]else cV z own (hS hn H) (qS qn Q) none
theorem D1(z:Z)(own:Int)(hn:Bool)(H:List Int)(qn:Bool)(Q:List Sp.W)(h1:hn=true->H=[])(h2:qn=true->Q=[])(h3:H.length<=1000000)(h4:Q.length<=1000000):
  ev P (.call HG [.d (.ag [I' own,z.c1,z.c2,hD hn H,qD qn Q,z.c5,z.c6,z.c7,z.c8])] [])=some (.val (.loc 0 0 0) (jQ z own hn H qn Q)):=by
 have hC:=tV hn H h1 h3;have J0:=xu qn Q h2 h4;rw[au adP rfl];cases hn<;>cases qn<;>simp at hC J0 <;>
  simp[So,hC,J0,aJ,eP,fQ,V.aY,hS,qS,jQ,bN,cV,lk,hV,hO,qV,qO,kV,kO,ak,cut,aO,aP,cu,bX,aq,az,av]
theorem V1{n:Bool}{l:List Int}(h:n=true->l=[]):hL (hS n l) l:=by
 unfold hS hL;cases n
 .simp[bW,aZ]
 .simp[h rfl]
theorem anI{n:Bool}{l:List Int}(h:n=true->l=[]):hlen (hS n l)=l.length:=by
 unfold hS hlen;cases n
 .simp
 .simp[h rfl]
def xy(own:Int)(H:List Int)(w:Sp.W):Bool:=(w.op != 53&&w.op != 55)||w.value != 0||w.case != -1||ij own H w.task != 0
def qy(own:Int)(H:List Int):List Sp.W->List Sp.W->Bool
 |_,[]=>true
 |pre,w::r=>!pre.any (λx=>x.task==w.task)&&!xy own H w&&qy own H (pre++[w]) r
theorem fd_eq{pre:List Sp.W}{w:Sp.W}{r:List Sp.W}:((jg (pre++w::r) w.task).1==(pre.length:Int))=!pre.any (λx=>x.task==w.task):=by
 unfold jg;rw[Xu];cases h:pre.findIdx? (λx=>x.task==w.task)with
 |none =>
  have:pre.any (λx=>x.task==w.task)=false:=by
   rw[oK];rw[Kx]at h;intro x hx;rw[h x hx];decide
  rw[this];simp[xJ]
 |some k =>
  obtain⟨h1,h2⟩:=G5.1 h
  have:pre.any (λx=>x.task==w.task)=true:=qC.2 ⟨_,vN _,h2.1⟩
  rw[this];simp;omega
theorem anJ(own:Int)(c1 c2 c5 c6 c7 c8:D)(hn:Bool)(H:List Int)(qn:Bool)(Q:List Sp.W)(h3:H.length<=1000000)(h4:Q.length<=1000000):∀(suf pre:List Sp.W),Q=pre++suf ->
  ev P (.loop 0 [1,13,14,15] Fi [(1,.d (.ref [I' own,c1,c2,hD hn H,qD qn Q,c5,c6,c7,c8])),(13,.d (qD qn Q)),(14,.d (I' Q.length)),(15,.d (I' pre.length))] []) =
   if qy own H pre suf=true then some (.out (.exit 0) [(1,.d (.ref [I' own,c1,c2,hD hn H,qD qn Q,c5,c6,c7,c8]))] [])else some (.out .ret [(2,.d (.b false))] []):=by
 intro suf;induction suf with
 |nil =>
  intro pre hl
  have:Q.length=pre.length:=by simp[hl]
  rw[bY]
  conv=>lhs;arg 4;unfold Fi
  simp[this,qy]
 |cons w suf ih =>
  intro pre hl;have hg:Q[pre.length]?=some w:=by simp[hl]
  have hlt:(pre.length:Int)<Q.length:=by simp[hl];omega
  have hnext:IntKind.i64.wrap ((pre.length:Int)+1)=pre.length+1:=wrap_i64 (by omega) (by omega)
  have bE:=ih (pre++[w]) (by simp[hl])
  have hF:=jW qn Q w.task h4;have hH:=Gy own c1 c2 (qD qn Q) c5 c6 c7 c8 hn H w.task h3;have oz:((jg Q w.task).1==(pre.length:Int))=!pre.any (λx=>x.task==w.task):=by rw[hl];exact fd_eq
  have e1:qy own H pre (w::suf)=(!pre.any (λx=>x.task==w.task)&&!xy own H w&&qy own H (pre++[w]) suf):=rfl
  rw[e1];generalize qy own H (pre++[w]) suf=dd at *;generalize (jg Q w.task).1=fi at *;generalize (jg Q w.task).2=fb at *;simp at bE;rw[bY]
  conv=>lhs;arg 4;unfold Fi
  cases ha:pre.any (λx=>x.task==w.task)
  .rw[ha]at oz
   have rX:(fi != (pre.length:Int))=false:=by simp[bne,oz]
   cases hb:((w.op != 53&&w.op != 55)||w.value != 0||w.case != -1||ij own H w.task != 0)
   .have kX:xy own H w=false:=hb
    have p1:(w.op != 53&&w.op != 55)=false:=by cases h:(w.op != 53&&w.op != 55)<;>simp_all
    have p2:(w.value != 0)=false:=by cases h:(w.value != 0)<;>simp_all
    have p3:(w.case != -1)=false:=by cases h:(w.case != -1)<;>simp_all
    have p4:(ij own H w.task != 0)=false:=by cases h:(ij own H w.task != 0)<;>simp_all
    simp[hlt,hg,Sp.W.row,hF,rX,hH,p1,p2,p3,p4,hnext,kX];exact bE
   .have kX:xy own H w=true:=hb
    simp[hlt,hg,Sp.W.row,hF,rX,hH,hb,kX]
  .rw[ha]at oz
   have rX:(fi != (pre.length:Int))=true:=by simp[bne,oz]
   simp[hlt,hg,Sp.W.row,hF,rX]
def stay(own:Int)(H:List Int):List Sp.W->Bool
 | []=>true
 |w::_=>own != -1||(w.op==55&&!H.isEmpty)
theorem IS{Q:List Sp.W}(h:dY Q=0):Q.length<=96/\∀w,w∈Q->dU w=true:=by
 unfold dY at h;by_cases h1:96<Q.length
 .rw[aN h1]at h;cases h
 .rw[aG h1]at h
  refine⟨by omega,?_⟩
  have:∀(l:List Sp.W)(p:Option Sp.W),fT 1 p l=0->∀w,w∈l->dU w=true:=by
   intro l;induction l with
   |nil=>simp
   |cons a r ih =>
    intro p h w hw;unfold fT at h;cases hv:dU a
    .rw[hv]at h;simp at h
    .rw[hv]at h
     simp at h;rcases dD.1 hw with e |hw
     .rw[e];exact hv
     .exact ih _ h w hw
  exact this Q none h
theorem sR{w:Sp.W}(h:dU w=true):0<=w.task/\w.task<16:=by
 unfold dU kR at h;simp at h;omega
theorem anK(z:Z)(own:Int)(hn:Bool)(H:List Int)(qn:Bool)(Q:List Sp.W)(h1:hn=true->H=[])(h2:qn=true->Q=[])(h3:H.length<=1000)(h4:Q.length<=1000000)(hA:iL H):
  ev P (.call LW [.d (.ag [I' own,z.c1,z.c2,hD hn H,qD qn Q,z.c5,z.c6,z.c7,z.c8])] [])=some (.val (.d (.b (dY Q==0&&(qy own H [] Q&&stay own H Q)))) []):=by
 have hW:=uW qn Q;have hL:=anJ own z.c1 z.c2 z.c5 z.c6 z.c7 z.c8 hn H qn Q (by omega) h4 Q [] rfl
 have dG:=D1 z own hn H qn Q h1 h2 (by omega) h4
 have jO:=anI h1;have hLS:=V1 h1;rw[au YY rfl];cases hw:dY Q==0
 .have dV:(dY Q != 0)=true:=by simp[bne,hw]
  simp[tQ,hW,dV]
 .have dV:(dY Q != 0)=false:=by simp[bne,hw]
  obtain⟨nj,By⟩:=IS (by simpa using hw)
  cases hq:qy own H [] Q
  .rw[hq]at hL
   simp at hL;simp[tQ,hW,dV,hL]
  .rw[hq]at hL
   simp at hL;cases Q with
   |nil =>
    simp at hL;simp[tQ,hW,dV,hL,stay]
   |cons w r =>
    simp at hL;have iB:qn=false:=by cases qn;rfl;exact absurd (h2 rfl) (by simp)
    subst iB;have qe:qS false (w::r) = .inr ((w::r).map Sp.W.row,0,r.length+1):=by simp[qS]
    have z1:¬((r.length:Int)+1=0):=by omega
    have z2:((r.length:Int)+1==0)=false:=by simp;omega
    have B3:=sR (By w (by simp))
    have wW:jQ z own hn H false (w::r)=cV z own (hS hn H) (.inr ((w::r).map Sp.W.row,0,r.length+1)) none:=by simp[jQ,qe]
    rw[wW]at dG;by_cases hs:own≠-1\/(w.op=55/\hlen (hS hn H)≠0)
    .have hst:stay own H (w::r)=true:=by
      unfold stay;rw[jO]at hs;rcases hs with hs |⟨yL,xg⟩
      .simp[hs]
      .simp[yL];right;intro h;rw[h]at xg;exact xg rfl
     have eV:=anF z own (hS hn H) w r hs;rw[hst];cases hn
     .simp[hS,cV,lk,hV,hO,qV,qO,kV,kO]at dG eV
      simp[tQ,hW,dV,hL,z1,z2,dG,aJ,aD,eV,ak,cut,aO,aP,cu,bX,aq,sub,aE,back]
     .simp[hS,cV,lk,hV,hO,qV,qO,kV,kO]at dG eV
      simp[tQ,hW,dV,hL,z1,z2,dG,aJ,aD,eV,ak,cut,aO,aP,cu,bX,aq,sub,aE,back]
    .have ho:own = -1:=vR λh=>hs (.inl h)
     subst ho;have hst:stay (-1) H (w::r)=false:=by
      unfold stay;simp;intro h
      have:hlen (hS hn H)=0:=vR λh'=>hs (.inr ⟨h,h'⟩)
      rw[jO]at this;exact xS.1 this
     rw[hst];by_cases lT:w.op=55
     .have hh1:hlen (hS hn H)=0:=vR λh'=>hs (.inr ⟨lT,h'⟩)
      have eV:=anG z (hS hn H) w r lT hh1 (by omega)
      cases hn
      .cases r with
       |nil =>
        simp at hL;simp[hS,cV,mB,lk,hV,hO,qV,qO,kV,kO,iy]at dG eV;simp[tQ,hW,dV,hL,z1,z2,dG,aJ,aD,eV,ak,cut,aO,aP,cu,bX,aq,sub,aE,back]
       |cons w2 r =>
        simp at hL;have z5:((r.length:Int)+1+1==0)=false:=by simp;omega
        have z6:¬((r.length:Int)+1+1=0):=by omega
        simp[hS,cV,mB,lk,hV,hO,qV,qO,kV,kO,iy]at dG eV;simp[tQ,hW,dV,hL,z5,z6,dG,aJ,aD,eV,ak,cut,aO,aP,cu,bX,aq,sub,aE,back]
      .cases r with
       |nil =>
        simp at hL;simp[hS,cV,mB,lk,hV,hO,qV,qO,kV,kO,iy]at dG eV;simp[tQ,hW,dV,hL,z1,z2,dG,aJ,aD,eV,ak,cut,aO,aP,cu,bX,aq,sub,aE,back]
       |cons w2 r =>
        simp at hL;have z5:((r.length:Int)+1+1==0)=false:=by simp;omega
        have z6:¬((r.length:Int)+1+1=0):=by omega
        simp[hS,cV,mB,lk,hV,hO,qV,qO,kV,kO,iy]at dG eV;simp[tQ,hW,dV,hL,z5,z6,dG,aJ,aD,eV,ak,cut,aO,aP,cu,bX,aq,sub,aE,back]
     .have eV:=anH z (hS hn H) H w r lT hLS hA h3 (by simp at nj;omega)
      generalize (r.takeWhile λw=>w.op != 55)=tk at *
      generalize (r.dropWhile λw=>w.op != 55)=dk at *
      have z3:¬((tk.length:Int)+1=0):=by omega
      have z4:((tk.length:Int)+1==0)=false:=by simp;omega
      cases hn<;>cases dk <;>
      .simp[hS,cV,jk,lk,hV,hO,hX,qV,qO,kV,kO,iy]at dG eV
       simp[tQ,hW,dV,hL,z1,z2,z3,z4,dG,aJ,aD,eV,ak,cut,aO,aP,cu,bX,aq,sub,aE,back]
end Go.VS.R
namespace Go.VS.R
open Go.VS.Sp
theorem anL{α:Type}(l:List α):l=[]\/∃a x,l=a++[x]:=by
 rcases AN l with h |⟨a,x,h⟩
 .exact .inl h
 .exact .inr ⟨a,x,by simpa using h⟩
def vh:List Int->List Int->Bool
 |_,[]=>true
 |pre,x::r=>!(!cZ x||pre.getLast?.any (λy=>decide (x<=y)))&&vh (pre++[x]) r
theorem VP(own:Int)(c1 c2 c5 c6 c7 c8 qd:D)(hn:Bool)(H:List Int)(h3:H.length<=1000000):∀(suf pre:List Int),H=pre++suf ->
  ev P (.loop 0 [1,52,53,54] Be [(1,.d (.ref [I' own,c1,c2,hD hn H,qd,c5,c6,c7,c8])),(52,.d (hD hn H)),(53,.d (I' H.length)),(54,.d (I' pre.length))] []) =
   if vh pre suf=true then some (.out (.exit 0) [(1,.d (.ref [I' own,c1,c2,hD hn H,qd,c5,c6,c7,c8]))] [])else some (.out .ret [(2,.d (.b false))] []):=by
 intro suf;induction suf with
 |nil =>
  intro pre hl
  have:H.length=pre.length:=by simp[hl]
  rw[bY]
  conv=>lhs;arg 4;unfold Be
  simp[this,vh]
 |cons x suf ih =>
  intro pre hl;have hg:H[pre.length]?=some x:=by simp[hl]
  have hlt:(pre.length:Int)<H.length:=by simp[hl];omega
  have hnext:IntKind.i64.wrap ((pre.length:Int)+1)=pre.length+1:=wrap_i64 (by omega) (by omega)
  have bE:=ih (pre++[x]) (by simp[hl])
  have e1:vh pre (x::suf)=(!(!cZ x||pre.getLast?.any (λy=>decide (x<=y)))&&vh (pre++[x]) suf):=rfl
  rw[e1];generalize vh (pre++[x]) suf=dd at *;simp at bE;rw[bY]
  conv=>lhs;arg 4;unfold Be
  cases ht:cZ x
  .simp[hlt,hg,fZ,ht]
  .rcases anL pre with rfl |⟨pre',p,rfl⟩
   .have h0:0<H.length:=by simp[hl]
    have C9:∀h:0<H.length,H[0]=x:=λh=>by simpa[qE h]using hg
    simp at bE;simp[h0,C9,fZ,ht,wm];exact bE
   .have mH:H[pre'.length]?=some p:=by simp[hl]
    have iK:(pre'.length:Int)+1<H.length:=by simpa using hlt
    have dV:IntKind.i64.wrap (pre'.length:Int)=pre'.length:=wrap_i64 (by omega) (by omega)
    have h0:(0:Int)<pre'.length+1:=by omega
    have h1:(0:Int)<=pre'.length+1:=by omega
    have hn2:IntKind.i64.wrap ((pre'.length:Int)+1+1)=pre'.length+1+1:=wrap_i64 (by omega) (by omega)
    simp only[l6,vO]at hg;simp at bE;by_cases hp:x<=p
    .simp[iK,hg,mH,dV,h0,h1,fZ,ht,hp]
    .simp[iK,hg,mH,dV,h0,h1,fZ,ht,hp,hn2]
     exact bE
def Pk(own cnt time:Int)(H B:List Int)(C:List (List D))(cl:Bool)(val:Int):Bool :=
 own != -1&&(!cZ own||decide (0<H.length))||cnt != 0||time != 0||decide (0<B.length)||decide (0<C.length)||cl||val != 0
def iX(own cnt time:Int)(H:List Int)(Q:List Sp.W)(B:List Int)(C:List (List D))(cl:Bool)(val:Int):Bool :=
 !Pk own cnt time H B C cl val&&(vh [] H&&(dY Q==0&&(qy own H [] Q&&stay own H Q)))
theorem anM:∀{suf pre:List Int},iL pre->(∀x,x∈pre->∀y,y∈pre.getLast?->x<=y)->vh pre suf=true->iL (pre++suf)
 | [],pre,hA,_,_=>by simpa using hA
 |x::r,pre,hA,hm,h=>by
  have e1:vh pre (x::r)=(!(!cZ x||pre.getLast?.any (λy=>decide (x<=y)))&&vh (pre++[x]) r):=rfl
  rw[e1]at h;simp at h;obtain⟨⟨_,h2⟩,h3⟩:=h;have hx:∀y,y∈pre->y<=x:=by
   intro y hy;cases hp:pre.getLast? with
   |none =>
    have:pre=[]:=by simpa using hp
    rw[this]at hy;cases hy
   |some p =>
    have:=hm y hy p (by simp[hp])
    have:=oK.1 (by simpa[hp]using h2:([p]:List Int).any (λy=>decide (x<=y))=false) p (by simp)
    simp at this;omega
  have J1:iL (pre++[x]):=by
   unfold iL;rw[oN];exact⟨hA,XL _ _,λa ha b hb=>by simp at hb;rw[hb];exact hx a ha⟩
  have:=anM J1 (by
   intro y hy p hp;simp at hp;subst hp;simp at hy;rcases hy with hy |hy
   .exact hx y hy
   .omega) h3
  simpa using this
theorem anN{H:List Int}(h:vh [] H=true):iL H:=by
 have:=anM (pre:=[]) (suf:=H) List.Pairwise.nil (by simp) h
 simpa using this
theorem VQ(own cnt time:Int)(hn:Bool)(H:List Int)(qn:Bool)(Q:List Sp.W)(bn:Bool)(B:List Int)(cn:Bool)(C:List (List D))(cl:Bool)(val:Int)
  (hh:hn=true->H=[])(hq:qn=true->Q=[])(h1:H.length<=1000)(h2:Q.length<=1000000):
  ev P (.call LA [.d (.ag [I' own,I' cnt,I' time,hD hn H,qD qn Q,hD bn B,cD cn C,.b cl,I' val])] [])=some (.val (.d (.b (iX own cnt time H Q B C cl val))) []):=by
 have hL:=VP own (I' cnt) (I' time) (hD bn B) (cD cn C) (.b cl) (I' val) (qD qn Q) hn H (by omega) H [] rfl
 simp at hL;rw[au YH rfl];unfold iX;simp[E5,fZ];cases hA:(own != -1&&(!cZ own||decide (0<H.length))||cnt != 0||time != 0||decide (0<B.length)||decide (0<C.length)||cl||val != 0)
 .have hF:Pk own cnt time H B C cl val=false:=hA
  rw[hF];cases hv:vh [] H
  .rw[hv]at hL
   simp at hL;simp[hL]
  .rw[hv]at hL
   simp at hL;have hQ:=anK ⟨I' cnt,I' time,hD bn B,cD cn C,.b cl,I' val⟩ own hn H qn Q hh hq h1 h2 (anN hv);simp only at hQ;have e2:(!false&&(true&&(dY Q==0&&(qy own H [] Q&&stay own H Q))))=(dY Q==0&&(qy own H [] Q&&stay own H Q)):=by simp
   rw[e2];generalize (dY Q==0&&(qy own H [] Q&&stay own H Q))=R at *;simp[hL,hQ]
 .have hF:Pk own cnt time H B C cl val=true:=hA
  rw[hF];simp
theorem oA(nm:D)(k sz ot:Int)(own cnt time:Int)(hn:Bool)(H:List Int)(qn:Bool)(Q:List Sp.W)(bn:Bool)(B:List Int)(cn:Bool)(C:List (List D))(cl:Bool)(val:Int)
  (hh:hn=true->H=[])(hq:qn=true->Q=[])(h1:H.length<=1000)(h2:Q.length<=1000000):
  ev P (.call jB [.d (.ag [nm,I' k,I' sz,I' ot]),.d (.ag [I' own,I' cnt,I' time,hD hn H,qD qn Q,hD bn B,cD cn C,.b cl,I' val])] []) =
   some (.val (.d (I' (if dN k sz ot=0 then(if iX own cnt time H Q B C cl val then 0 else 1)else dN k sz ot))) []):=by
 have hv:=VQ own cnt time hn H qn Q bn B cn C cl val hh hq h1 h2;rw[au Yu rfl];cases hm:dN k sz ot==0
 .have hm':dN k sz ot≠0:=by simpa using hm
  have hm2:(dN k sz ot != 0)=true:=by simpa using hm'
  simp[EW,tR,hm',hm2,cq]
 .have hm':dN k sz ot=0:=by simpa using hm
  simp[EW,tR,hm',gp,hv];cases iX own cnt time H Q B C cl val<;>simp
def V2(l:List Sp.W):Int:=if 96<l.length then 4 else if l.all dU=true then 0 else 2
theorem anO(l:List Sp.W):V2 l=dY l:=by
 have:∀(l:List Sp.W)(p:Option Sp.W),fT 1 p l=if l.all dU=true then 0 else 2:=by
  intro l;induction l with
  |nil=>intro p;rfl
  |cons a r ih =>
   intro p;unfold fT;cases hv:dU a
   .simp[hv]
   .simp[hv,ih]
 unfold V2 dY;rw[this]
end Go.VS.R
namespace Go.VS.R
open Go.VS.Sp
def anP(own:Int)(H:List Int):List Sp.W->Bool
 | []=>false
 |w::_=>if w.op=53 then decide (own<0)else(decide (own<0)&&H.isEmpty)
end Go.VS.R
namespace Go.VS.R
open Go.VS.Sp
theorem yR{α β:Type}{f:α->β}{l:List α}{x:β}:List.take (l.length+1) (l.map f++[x])=l.map f++[x]:=gD (by simp)
def V3(n:Int):Bool->List Int->List Int
 |d,[]=>if d=true then[]else[n]
 |d,x::r=>if(!d&&decide (n<x))=true then n::x::V3 n true r else x::V3 n d r
end Go.VS.R
namespace Go.VS.R
open Go.VS.Sp
def rD:Int->List Int->List Sp.W->Int×List Int×List Sp.W×List Sp.W
 |own,H,[]=>(own,H,[],[])
 |own,H,w::r =>
  if anP own H (w::r)=true then
   (
    if w.op=53 then let x:=rD own (V3 w.task false H) r;(x.1,x.2.1,x.2.2.1,w::x.2.2.2)
    else let x:=rD w.task H r;(x.1,x.2.1,x.2.2.1,w::x.2.2.2))
  else(own,H,w::r,[])
abbrev GA(z:Z)(own:Int)(hn:Bool)(H:List Int)(qn:Bool)(Q:List Sp.W)(parked:Bool)(ok:Bool)(kn:Bool)(k:List (List D)):D :=
 .ag [I' own,z.c1,z.c2,hD hn H,qD qn Q,z.c5,z.c6,z.c7,z.c8,.b parked,I' 0,.b ok,.sl 5 kn k]
end Go.VS.R
namespace Go.VS.R
open Go.VS.Sp
theorem anQ(z:Z)(own:Int):ev P (.call CO [.loc 0 0 0] [bN z own])=some (.val (.d (.b (own != -1))) [bN z own]):=by
 rw[au YL rfl];simp[MJ,bN,ak,cut,az]
theorem anR(z:Z)(own:Int):ev P (.call EH [.loc 0 0 0] [bN z own])=some (.val (.d (.b (own == -1))) [bN z own]):=by
 have hW:=anQ z own;unfold bN at *;rw[au YK rfl];cases ho:own == -1
 .have fA:(own != -1)=true:=by simp[bne,ho]
  rw[fA]at hW;simp[E7,ak,cut,az,aD,sub,aE,back,hW]
 .have fA:(own != -1)=false:=by simp[bne,ho]
  rw[fA]at hW;simp[E7,ak,cut,az,aD,sub,aE,back,hW]
theorem anS(z:Z)(own t:Int):ev P (.call ya [.loc 0 0 0,.d (I' t),.d (I' 55)] [bN z own])=some (.val (.tu []) [bN z t]):=by
 rw[au II rfl];simp[C2,bN,ak,cut,az,av]
theorem anT(z:Z)(own t o:Int)(ho:o≠55):ev P (.call ya [.loc 0 0 0,.d (I' t),.d (I' o)] [bN z own])=some (.val (.tu []) (sC z own none (.inl true) none [[I' t]])):=by
 have hI:=CH NL (p:=mh 1) rfl;have fA:(o==55)=false:=by simpa using ho
 have r1:1<=room:=by decide
 rw[au II rfl];simp[C2,fA,anq,hI,mh,jU,r1,bN,sC,lk,hV,hO,hX,qV,qO,kV,kO,aD,sub,aE,back,ak,cut,aO,aP,cu,bX,aq,az,av]
theorem anU(z:Z)(own:Int):ev P (.call tM [.loc 0 0 0] [bN z own])=some (.val (.tu []) [bN z own]):=by
 have hL:ev P (.loop 1 [0] ku [(0,.loc 0 0 0)] [bN z own])=some (.out (.exit 0) [] [bN z own]):=by
  rw[bY]
  conv=>lhs;arg 4;unfold ku
  simp[bN,ak,cut]
 rw[au Fw rfl];simp[bN]at hL;simp[Bf,hL,bN,ak,cut,az]
structure Rp where
 own:Int
 H:List Int
 Q:List Sp.W
 parked:Bool
 ok:Bool
 k:List Sp.W
 e:Int
def zr(e:Int):Rp:=⟨0,[],[],false,false,[],e⟩
def zZ(bn cn:Bool):Z:=⟨I' 0,I' 0,hD bn [],cD cn [],.b false,I' 0⟩
def iA(x:Option dL)(r:Rp):Prop:=∃bn cn hn qn kn,x=some (.val (.tu [.d (GA (zZ bn cn) r.own hn r.H qn r.Q r.parked r.ok kn (r.k.map wk)),.d (I' r.e)]) [])/\(hn=true->r.H=[])/\(qn=true->r.Q=[])
def gW(own:Int)(H:List Int):List Sp.W->Int×List Int×List Sp.W×List Sp.W
 | []=>(own,H,[],[])
 |w::r =>
  if own≠-1\/(w.op=55/\H≠[])then(own,H,w::r,[])
  else if w.op=55 then(w.task,H,r,[w])
  else(own,jj (eZ w.task H) (r.takeWhile λw=>w.op != 55),r.dropWhile λw=>w.op != 55,w::r.takeWhile λw=>w.op != 55)
def j4(t p n:Int):Bool:=!cZ t||decide (p<0)||decide (9<p)||decide (n<0)||decide (1099511627776<n)
def vD(own:Int)(H:List Int)(Q:List Sp.W)(o:Int):Bool:=if o=53 then own == -1&&Q.isEmpty else own == -1&&H.isEmpty
def lq(own:Int)(H:List Int)(Q:List Sp.W)(t o p:Int):Rp :=
 if vD own H Q o=true then(if o=55 then⟨t,H,Q,false,true,[],0⟩else⟨own,eZ t H,Q,false,true,[],0⟩)else⟨own,H,Q++[⟨t,o,0,p,-1⟩],true,false,[],0⟩
def nu(own:Int)(H:List Int)(Q:List Sp.W)(t o p n:Int):Rp :=
 if j4 t p n=true then zr 2
 else if(decide (o<53)||decide (56<o))=true then zr 8
 else if(Q.any λw=>w.task==t)=true then zr 17
 else if o=53\/o=55 then
  if ij own H t≠0 then zr 17
  else lq own H Q t o p
 else if o=54 then
  if ij own H t≠1 then zr 20
  else let x:=gW own (H.filter λx=>x != t) Q;⟨x.1,x.2.1,x.2.2.1,false,true,x.2.2.2,0⟩
 else
  if ij own H t≠2 then zr 20
  else let x:=gW (-1) H Q;⟨x.1,x.2.1,x.2.2.1,false,true,x.2.2.2,0⟩
abbrev lu(z:Z)(own:Int)(hn:Bool)(H:List Int)(qn:Bool)(Q:List Sp.W):D:=.ag [I' own,z.c1,z.c2,hD hn H,qD qn Q,z.c5,z.c6,z.c7,z.c8]
theorem iA.zero{x:Option dL}{e:Int}(h:x=some (.val (.tu [.d (.ag [I' 0,I' 0,I' 0,.sl 1 true [],.sl 5 true [],.sl 1 true [],.sl 2 true [],.b false,I' 0,.b false,I' 0,.b false,.sl 5 true []]),.d (I' e)]) [])):iA x (zr e):=
 ⟨true,true,true,true,true,h,λ_=>rfl,λ_=>rfl⟩
theorem Pm(o2:D)(bn cn:Bool)(own:Int)(hn:Bool)(H:List Int)(qn:Bool)(Q:List Sp.W)(t o v p n:Int)(h1:hn=true->H=[])(h2:qn=true->Q=[])(h3:H.length<=1000)(h4:Q.length<=1000)
  (hC:ev P (.call jB [.d o2,.d (lu (zZ bn cn) own hn H qn Q)] [])=some (.val (.d (I' 0)) []))(fA:∃a b c d,o2 = .ag [a,b,c,d]):
  (j4 t p n=true->iA (ev P (.call oT [.d o2,.d (lu (zZ bn cn) own hn H qn Q),.d (.ag [I' t,I' o,I' v,I' p,I' n])] [])) (zr 2)) /\
  (j4 t p n=false->(decide (o<53)||decide (56<o))=true->iA (ev P (.call oT [.d o2,.d (lu (zZ bn cn) own hn H qn Q),.d (.ag [I' t,I' o,I' v,I' p,I' n])] [])) (zr 8)) /\
  (j4 t p n=false->(decide (o<53)||decide (56<o))=false->(Q.any λw=>w.task==t)=true->iA (ev P (.call oT [.d o2,.d (lu (zZ bn cn) own hn H qn Q),.d (.ag [I' t,I' o,I' v,I' p,I' n])] [])) (zr 17)) /\
  (j4 t p n=false->(decide (o<53)||decide (56<o))=false->(Q.any λw=>w.task==t)=false->(o=53\/o=55)->ij own H t≠0->iA (ev P (.call oT [.d o2,.d (lu (zZ bn cn) own hn H qn Q),.d (.ag [I' t,I' o,I' v,I' p,I' n])] [])) (zr 17)) /\
  (j4 t p n=false->(decide (o<53)||decide (56<o))=false->(Q.any λw=>w.task==t)=false->o=54->ij own H t≠1->iA (ev P (.call oT [.d o2,.d (lu (zZ bn cn) own hn H qn Q),.d (.ag [I' t,I' o,I' v,I' p,I' n])] [])) (zr 20)) /\
  (j4 t p n=false->(decide (o<53)||decide (56<o))=false->(Q.any λw=>w.task==t)=false->o=56->ij own H t≠2->iA (ev P (.call oT [.d o2,.d (lu (zZ bn cn) own hn H qn Q),.d (.ag [I' t,I' o,I' v,I' p,I' n])] [])) (zr 20)):=by
 obtain⟨a,b,c,d,rfl⟩:=fA;have hF:=jW qn Q t (by omega)
 have dG:=D1 (zZ bn cn) own hn H qn Q h1 h2 (by omega) (by omega)
 have hH:=Gy own (I' 0) (I' 0) (qD qn Q) (hD bn []) (cD cn []) (.b false) (I' 0) hn H t (by omega)
 rw[wu]at hF;generalize (jg Q t).1=fi at *;simp only[zZ]at *;refine⟨λhb=>iA.zero ?_,λhb hr=>iA.zero ?_,λhb hr hq=>iA.zero ?_,λhb hr hq ho hh=>iA.zero ?_,λhb hr hq ho hh=>iA.zero ?_,λhb hr hq ho hh=>iA.zero ?_⟩
 .rw[au oZ rfl]
  unfold j4 at hb;simp[ig,hC,fZ,hb,av]
 .rw[au oZ rfl]
  unfold j4 at hb;simp[ig,hC,fZ,hb,hr,av]
 .rw[au oZ rfl]
  unfold j4 at hb;rw[hq]at hF;simp[ig,hC,fZ,hb,hr,hF,av]
 .rw[au oZ rfl]
  unfold j4 at hb;rw[hq]at hF;have DS:(ij own H t != 0)=true:=by simpa using hh
  rcases ho with rfl |rfl
  .simp[ig,hC,fZ,hb,hr,hF,aJ,dG,hH,DS,av]
  .simp[ig,hC,fZ,hb,hr,hF,aJ,dG,hH,DS,av]
 .rw[au oZ rfl]
  unfold j4 at hb;rw[hq]at hF;have DS:(ij own H t != 1)=true:=by simpa using hh
  subst ho;simp[ig,hC,fZ,hb,hr,hF,aJ,dG,hH,DS,av]
 .rw[au oZ rfl]
  unfold j4 at hb;rw[hq]at hF;have DS:(ij own H t != 2)=true:=by simpa using hh
  subst ho;simp[ig,hC,fZ,hb,hr,hF,aJ,dG,hH,DS,av]
end Go.VS.R
namespace Go.VS.R
open Go.VS.Sp
theorem anV(z:Z)(own:Int)(hn:Bool)(H:List Int)(qn:Bool)(Q:List Sp.W)(h1:hn=true->H=[])(h2:qn=true->Q=[]):
  ev P (.call EH [.loc 0 0 0] (jQ z own hn H qn Q))=some (.val (.d (.b (own == -1&&(H.length:Int)==0))) (jQ z own hn H qn Q)):=by
 unfold jQ;by_cases h:(hn&&qn)=true
 .rw[aN h]
  have:H=[]:=h1 (by simp at h;exact h.1)
  rw[this,anR];simp
 .rw[aG h]
  rw[Pj,anI h1]
theorem anW(z:Z)(own:Int)(hn:Bool)(H:List Int)(qn:Bool)(Q:List Sp.W):
  ev P (.call CO [.loc 0 0 0] (jQ z own hn H qn Q))=some (.val (.d (.b (own != -1))) (jQ z own hn H qn Q)):=by
 unfold jQ;by_cases h:(hn&&qn)=true
 .rw[aN h,anQ]
 .rw[aG h,AD]
theorem anX(z:Z)(own t:Int)(hn:Bool)(H:List Int)(qn:Bool)(Q:List Sp.W):
  ev P (.call ya [.loc 0 0 0,.d (I' t),.d (I' 55)] (jQ z own hn H qn Q))=some (.val (.tu []) (jQ z t hn H qn Q)):=by
 unfold jQ;by_cases h:(hn&&qn)=true
 .rw[aN h,aN h,anS]
 .rw[aG h,aG h,VY]
theorem anY(z:Z)(own t o:Int)(hn:Bool)(H:List Int)(qn:Bool)(Q:List Sp.W)(ho:o≠55)(h1:hn=true->H=[])(h2:qn=true->Q=[])(h3:H.length<=1000000)(hA:iL H):
  ev P (.call ya [.loc 0 0 0,.d (I' t),.d (I' o)] (jQ z own hn H qn Q))=some (.val (.tu []) (sC z own (hS hn H) (qS qn Q) none (bW (eZ t H)))):=by
 unfold jQ;cases hn
 .have e:hS false H=some (bW H,H.length):=rfl
  simp only[AM,fG,dK,e];exact JX z own t o H (bW H) (qS qn Q) none ho h3 (by simp) (by simp[bW,aZ]) hA
 .have:H=[]:=h1 rfl
  subst this;have e0:bW (eZ t [])=[[I' t]]:=rfl;rw[e0];cases qn
  .exact VZ z own t o (qS false Q) none ho
  .exact anT z own t o ho
theorem anZ(o2:D)(bn cn:Bool)(own:Int)(hn:Bool)(H:List Int)(qn:Bool)(Q:List Sp.W)(t o v p n:Int)(h1:hn=true->H=[])(h2:qn=true->Q=[])(h3:H.length<=1000)(h4:Q.length<=1000)(hA:iL H)
  (hC:ev P (.call jB [.d o2,.d (lu (zZ bn cn) own hn H qn Q)] [])=some (.val (.d (I' 0)) []))(fA:∃a b c d,o2 = .ag [a,b,c,d])
  (hb:j4 t p n=false)(hq:(Q.any λw=>w.task==t)=false)(ho:o=53)(hh:ij own H t=0):
  iA (ev P (.call oT [.d o2,.d (lu (zZ bn cn) own hn H qn Q),.d (.ag [I' t,I' o,I' v,I' p,I' n])] [])) (lq own H Q t o p):=by
 obtain⟨a,b,c,d,rfl⟩:=fA;have hF:=jW qn Q t (by omega)
 have dG:=D1 (zZ bn cn) own hn H qn Q h1 h2 (by omega) (by omega)
 have hH:=Gy own (I' 0) (I' 0) (qD qn Q) (hD bn []) (cD cn []) (.b false) (I' 0) hn H t (by omega)
 have j3:=anV (zZ bn cn) own hn H qn Q h1 h2;have kI:=anW (zZ bn cn) own hn H qn Q;rw[wu,hq]at hF;rw[hh]at hH;generalize (jg Q t).1=fi at *;unfold j4 at hb;have xz:Q.length+1<=room:=by unfold room;omega
 have r1:1<=room:=by decide
 subst ho;by_cases hp:own = -1/\Q=[]
 .have hL:lq own H Q t 53 p=⟨own,eZ t H,Q,false,true,[],0⟩:=by simp[lq,vD,hp]
  rw[hL];obtain⟨rfl,rfl⟩:=hp;have hG:=anY (zZ bn cn) (-1) t 53 hn H qn [] (by decide) h1 h2 (by omega) hA
  refine⟨bn,cn,false,qn,true,?_,by simp,by simp⟩
  simp only[zZ]at *;have oE:=Gz t H;have hit:List.take (H.length+1) (bW (eZ t H))=bW (eZ t H):=by rw[<-oE];simp[bW,aZ]
  rw[au oZ rfl];cases hn<;>cases qn<;>simp[jQ,bN,cV,sC,lk,hS,qS,hV,hO,hX,qV,qO,kV,kO,oE]at dG j3 kI hG
  .simp[ig,hC,fZ,hb,hF,aJ,dG,hH,aD,j3,kI,ak,cut,aO,aP,cu,bX,aq,sub,aE,back,av,aZ,az]
   rw[au o7 rfl];simp[nL,aD,hG,ak,cut,aO,aP,cu,bX,aq,sub,aE,back,av,aZ,az];rw[au o8 rfl];simp[nM,oE,hit,aD,ak,cut,aO,aP,cu,bX,aq,sub,aE,back,av,aZ,az]
  .simp[ig,hC,fZ,hb,hF,aJ,dG,hH,aD,j3,kI,ak,cut,aO,aP,cu,bX,aq,sub,aE,back,av,aZ,az]
   rw[au o7 rfl];simp[nL,aD,hG,ak,cut,aO,aP,cu,bX,aq,sub,aE,back,av,aZ,az];rw[au o8 rfl];simp[nM,oE,hit,aD,ak,cut,aO,aP,cu,bX,aq,sub,aE,back,av,aZ,az]
  .simp[ig,hC,fZ,hb,hF,aJ,dG,hH,aD,j3,kI,ak,cut,aO,aP,cu,bX,aq,sub,aE,back,av,aZ,az]
   rw[au o7 rfl];simp[nL,aD,hG,ak,cut,aO,aP,cu,bX,aq,sub,aE,back,av,aZ,az];rw[au o8 rfl];simp[nM,oE,hit,aD,ak,cut,aO,aP,cu,bX,aq,sub,aE,back,av,aZ,az]
  .simp[ig,hC,fZ,hb,hF,aJ,dG,hH,aD,j3,kI,ak,cut,aO,aP,cu,bX,aq,sub,aE,back,av,aZ,az]
   rw[au o7 rfl];simp[nL,aD,hG,ak,cut,aO,aP,cu,bX,aq,sub,aE,back,av,aZ,az];rw[au o8 rfl];simp[nM,oE,hit,aD,ak,cut,aO,aP,cu,bX,aq,sub,aE,back,av,aZ,az]
 .have hL:lq own H Q t 53 p=⟨own,H,Q++[⟨t,53,0,p,-1⟩],true,false,[],0⟩:=by
   have:vD own H Q 53=false:=by
    unfold vD;cases h:(own == -1&&Q.isEmpty)
    .simp[h]
    .exact absurd (by simpa using h) hp
   simp[lq,this]
  rw[hL];have hpb:(own != -1)=false->Q≠[]:=by
   intro h1 h2;exact hp ⟨by simpa using h1,h2⟩
  refine⟨bn,cn,hn,false,true,?_,h1,by simp⟩
  simp only[zZ]at *;rw[au oZ rfl];cases hw:own != -1
  .have oF:=hpb hw
   have hQ1:((Q.length:Int)==0)=false:=by simpa using oF
   rw[hw]at kI;have iB:qn=false:=by cases qn;rfl;exact absurd (h2 rfl) oF
   subst iB;cases hn<;>simp[jQ,bN,cV,lk,hS,qS,hV,hO,qV,qO,kV,kO]at dG j3 kI
   .simp[ig,hC,fZ,hb,hF,aJ,dG,hH,aD,j3,kI,hQ1,oF,ak,cut,aO,aP,cu,bX,aq,sub,aE,back,av,aZ,az]
    rw[au o7 rfl];simp[nL,aD,ak,cut,aO,aP,cu,bX,aq,sub,aE,back,av,aZ,az,xz,r1,cy,Sp.W.row,yR];all_goals exact h1 rfl
   .simp[ig,hC,fZ,hb,hF,aJ,dG,hH,aD,j3,kI,hQ1,oF,ak,cut,aO,aP,cu,bX,aq,sub,aE,back,av,aZ,az]
    rw[au o7 rfl];simp[nL,aD,ak,cut,aO,aP,cu,bX,aq,sub,aE,back,av,aZ,az,xz,r1,cy,Sp.W.row,yR];all_goals exact h1 rfl
  .rw[hw]at kI
   cases hn<;>cases qn<;>simp[jQ,bN,cV,lk,hS,qS,hV,hO,qV,qO,kV,kO]at dG j3 kI
   .simp[ig,hC,fZ,hb,hF,aJ,dG,hH,aD,j3,kI,ak,cut,aO,aP,cu,bX,aq,sub,aE,back,av,aZ,az]
    rw[au o7 rfl];simp[nL,aD,ak,cut,aO,aP,cu,bX,aq,sub,aE,back,av,aZ,az,xz,r1,cy,Sp.W.row,yR];all_goals exact h1 rfl
   .obtain rfl:=h2 rfl
    simp[ig,hC,fZ,hb,hF,aJ,dG,hH,aD,j3,kI,ak,cut,aO,aP,cu,bX,aq,sub,aE,back,av,aZ,az];rw[au o7 rfl];simp[nL,aD,ak,cut,aO,aP,cu,bX,aq,sub,aE,back,av,aZ,az,xz,r1,cy,Sp.W.row,yR];all_goals exact h1 rfl
   .simp[ig,hC,fZ,hb,hF,aJ,dG,hH,aD,j3,kI,ak,cut,aO,aP,cu,bX,aq,sub,aE,back,av,aZ,az]
    rw[au o7 rfl];simp[nL,aD,ak,cut,aO,aP,cu,bX,aq,sub,aE,back,av,aZ,az,xz,r1,cy,Sp.W.row,yR];all_goals exact h1 rfl
   .obtain rfl:=h2 rfl
    simp[ig,hC,fZ,hb,hF,aJ,dG,hH,aD,j3,kI,ak,cut,aO,aP,cu,bX,aq,sub,aE,back,av,aZ,az];rw[au o7 rfl];simp[nL,aD,ak,cut,aO,aP,cu,bX,aq,sub,aE,back,av,aZ,az,xz,r1,cy,Sp.W.row,yR];all_goals exact h1 rfl
theorem an0(o2:D)(bn cn:Bool)(own:Int)(hn:Bool)(H:List Int)(qn:Bool)(Q:List Sp.W)(t o v p n:Int)(h1:hn=true->H=[])(h2:qn=true->Q=[])(h3:H.length<=1000)(h4:Q.length<=1000)(hA:iL H)
  (hC:ev P (.call jB [.d o2,.d (lu (zZ bn cn) own hn H qn Q)] [])=some (.val (.d (I' 0)) []))(fA:∃a b c d,o2 = .ag [a,b,c,d])
  (hb:j4 t p n=false)(hq:(Q.any λw=>w.task==t)=false)(ho:o=55)(hh:ij own H t=0):
  iA (ev P (.call oT [.d o2,.d (lu (zZ bn cn) own hn H qn Q),.d (.ag [I' t,I' o,I' v,I' p,I' n])] [])) (lq own H Q t o p):=by
 obtain⟨a,b,c,d,rfl⟩:=fA;have hF:=jW qn Q t (by omega)
 have dG:=D1 (zZ bn cn) own hn H qn Q h1 h2 (by omega) (by omega)
 have hH:=Gy own (I' 0) (I' 0) (qD qn Q) (hD bn []) (cD cn []) (.b false) (I' 0) hn H t (by omega)
 have j3:=anV (zZ bn cn) own hn H qn Q h1 h2;have kI:=anW (zZ bn cn) own hn H qn Q;rw[wu,hq]at hF;rw[hh]at hH;generalize (jg Q t).1=fi at *;unfold j4 at hb;have xz:Q.length+1<=room:=by unfold room;omega
 have r1:1<=room:=by decide
 subst ho;by_cases hp:own = -1/\H=[]
 .have hL:lq own H Q t 55 p=⟨t,H,Q,false,true,[],0⟩:=by simp[lq,vD,hp]
  rw[hL];obtain⟨rfl,rfl⟩:=hp;have hG:=anX (zZ bn cn) (-1) t hn [] qn Q;refine⟨bn,cn,hn,qn,true,?_,by simp,h2⟩
  simp only[zZ]at *;rw[au oZ rfl];cases hn<;>cases qn<;>simp[jQ,bN,cV,sC,lk,hS,qS,hV,hO,hX,qV,qO,kV,kO]at dG j3 kI hG
  .simp[ig,hC,fZ,hb,hF,aJ,dG,hH,aD,j3,kI,ak,cut,aO,aP,cu,bX,aq,sub,aE,back,av,aZ,az]
   rw[au o7 rfl];simp[nL,aD,hG,ak,cut,aO,aP,cu,bX,aq,sub,aE,back,av,aZ,az];rw[au o8 rfl];simp[nM,aD,ak,cut,aO,aP,cu,bX,aq,sub,aE,back,av,aZ,az]
  .obtain rfl:=h2 rfl
   simp[ig,hC,fZ,hb,hF,aJ,dG,hH,aD,j3,kI,ak,cut,aO,aP,cu,bX,aq,sub,aE,back,av,aZ,az];rw[au o7 rfl];simp[nL,aD,hG,ak,cut,aO,aP,cu,bX,aq,sub,aE,back,av,aZ,az];rw[au o8 rfl];simp[nM,aD,ak,cut,aO,aP,cu,bX,aq,sub,aE,back,av,aZ,az]
  .simp[ig,hC,fZ,hb,hF,aJ,dG,hH,aD,j3,kI,ak,cut,aO,aP,cu,bX,aq,sub,aE,back,av,aZ,az]
   rw[au o7 rfl];simp[nL,aD,hG,ak,cut,aO,aP,cu,bX,aq,sub,aE,back,av,aZ,az];rw[au o8 rfl];simp[nM,aD,ak,cut,aO,aP,cu,bX,aq,sub,aE,back,av,aZ,az]
  .obtain rfl:=h2 rfl
   simp[ig,hC,fZ,hb,hF,aJ,dG,hH,aD,j3,kI,ak,cut,aO,aP,cu,bX,aq,sub,aE,back,av,aZ,az];rw[au o7 rfl];simp[nL,aD,hG,ak,cut,aO,aP,cu,bX,aq,sub,aE,back,av,aZ,az];rw[au o8 rfl];simp[nM,aD,ak,cut,aO,aP,cu,bX,aq,sub,aE,back,av,aZ,az]
 .have hL:lq own H Q t 55 p=⟨own,H,Q++[⟨t,55,0,p,-1⟩],true,false,[],0⟩:=by
   have:vD own H Q 55=false:=by
    unfold vD;cases h:(own == -1&&H.isEmpty)
    .simp[h]
    .exact absurd (by simpa using h) hp
   simp[lq,this]
  rw[hL];have kG:(own == -1&&(H.length:Int)==0)=false:=by
   cases h:(own == -1&&(H.length:Int)==0)
   .rfl
   .exact absurd (by simpa using h) hp
  refine⟨bn,cn,hn,false,true,?_,h1,by simp⟩
  simp only[zZ]at *;rw[kG]at j3;rw[au oZ rfl];cases hn<;>cases qn<;>simp[jQ,bN,cV,lk,hS,qS,hV,hO,qV,qO,kV,kO]at dG j3 kI
  .simp[ig,hC,fZ,hb,hF,aJ,dG,hH,aD,j3,kI,ak,cut,aO,aP,cu,bX,aq,sub,aE,back,av,aZ,az]
   rw[au o7 rfl];simp[nL,aD,ak,cut,aO,aP,cu,bX,aq,sub,aE,back,av,aZ,az,xz,r1,cy,Sp.W.row,yR];all_goals exact h1 rfl
  .obtain rfl:=h2 rfl
   simp[ig,hC,fZ,hb,hF,aJ,dG,hH,aD,j3,kI,ak,cut,aO,aP,cu,bX,aq,sub,aE,back,av,aZ,az];rw[au o7 rfl];simp[nL,aD,ak,cut,aO,aP,cu,bX,aq,sub,aE,back,av,aZ,az,xz,r1,cy,Sp.W.row,yR];all_goals exact h1 rfl
  .simp[ig,hC,fZ,hb,hF,aJ,dG,hH,aD,j3,kI,ak,cut,aO,aP,cu,bX,aq,sub,aE,back,av,aZ,az]
   rw[au o7 rfl];simp[nL,aD,ak,cut,aO,aP,cu,bX,aq,sub,aE,back,av,aZ,az,xz,r1,cy,Sp.W.row,yR];all_goals exact h1 rfl
  .obtain rfl:=h2 rfl
   simp[ig,hC,fZ,hb,hF,aJ,dG,hH,aD,j3,kI,ak,cut,aO,aP,cu,bX,aq,sub,aE,back,av,aZ,az];rw[au o7 rfl];simp[nL,aD,ak,cut,aO,aP,cu,bX,aq,sub,aE,back,av,aZ,az,xz,r1,cy,Sp.W.row,yR];all_goals exact h1 rfl
theorem an1(o2:D)(bn cn:Bool)(own:Int)(hn:Bool)(H:List Int)(qn:Bool)(Q:List Sp.W)(t o v p n:Int)(h1:hn=true->H=[])(h2:qn=true->Q=[])(h3:H.length<=1000)(h4:Q.length<=1000)(hA:iL H)
  (hC:ev P (.call jB [.d o2,.d (lu (zZ bn cn) own hn H qn Q)] [])=some (.val (.d (I' 0)) []))(fA:∃a b c d,o2 = .ag [a,b,c,d])
  (hb:j4 t p n=false)(hq:(Q.any λw=>w.task==t)=false)(ho:o=53\/o=55)(hh:ij own H t=0):
  iA (ev P (.call oT [.d o2,.d (lu (zZ bn cn) own hn H qn Q),.d (.ag [I' t,I' o,I' v,I' p,I' n])] [])) (lq own H Q t o p):=by
 rcases ho with ho |ho
 .exact anZ o2 bn cn own hn H qn Q t o v p n h1 h2 h3 h4 hA hC fA hb hq ho hh
 .exact an0 o2 bn cn own hn H qn Q t o v p n h1 h2 h3 h4 hA hC fA hb hq ho hh
end Go.VS.R
namespace Go.VS.R
open Go.VS.Sp
theorem J2(own:Int)(H:List Int)(w:Sp.W)(r:List Sp.W):gW own H (w::r) =
  if own≠-1\/(w.op=55/\H≠[])then(own,H,w::r,[])
  else if w.op=55 then(w.task,H,r,[w])
  else(own,jj (eZ w.task H) (r.takeWhile λw=>w.op != 55),r.dropWhile λw=>w.op != 55,w::r.takeWhile λw=>w.op != 55):=rfl
theorem V4(z:Z)(own:Int) (Hs)(l:List Int) (Qs)(Q:List Sp.W)(hH:hL Hs l)(hQ:(∃nl,Qs = .inl nl/\Q=[])\/Qs = .inr (Q.map Sp.W.row,0,Q.length))(hA:iL l)(h1:l.length<=1000)(h2:Q.length<=1000)(ht:∀w,w∈Q->w.task≠-1):
  (gW own l Q=(own,l,Q,[])/\ev P (.call tM [.loc 0 0 0] (cV z own Hs Qs none))=some (.val (.tu []) (cV z own Hs Qs none))) \/
  (∃w r,Q=w::r/\Qs = .inr (Q.map Sp.W.row,0,Q.length)/\own = -1/\l=[]/\gW own l Q=(w.task,l,r,[w]) /\
   ev P (.call tM [.loc 0 0 0] (cV z own Hs Qs none))=some (.val (.tu []) (mB z w.task Hs ((w::r).map Sp.W.row) r (wk w)))) \/
  (∃w r tk dk l',Q=w::r/\Qs = .inr (Q.map Sp.W.row,0,Q.length)/\own = -1/\r=tk++dk/\gW own l Q=(own,l',dk,w::tk)/\l'≠[] /\
   ev P (.call tM [.loc 0 0 0] (cV z own Hs Qs none))=some (.val (.tu []) (jk z (-1) (hX Hs) ((w::r).map Sp.W.row) (1+tk.length) dk l' (wk w::tk.map wk)))):=by
 have Gt:hlen Hs=l.length:=by
  rcases Hs with _ |⟨R,n⟩
  .obtain rfl:l=[]:=hH
   rfl
  .exact hH.1
 rcases hQ with⟨nl,rfl,rfl⟩ |rfl
 .exact .inl ⟨rfl,anD z own Hs nl⟩
 .cases Q with
  |nil=>exact .inl ⟨rfl,anE z own Hs []⟩
  |cons w r =>
   by_cases hs:own≠-1\/(w.op=55/\hlen Hs≠0)
   .refine .inl ⟨?_,anF z own Hs w r hs⟩
    rw[J2];rw[aN];rcases hs with hs |⟨yL,xg⟩
    .exact .inl hs
    .exact .inr ⟨yL,λh=>by rw[Gt,h]at xg;exact xg rfl⟩
   .have ho:own = -1:=vR λh=>hs (.inl h)
    subst ho;have hs':¬((-1:Int)≠-1\/(w.op=55/\l≠[])):=by
     intro h;rcases h with h |⟨h1,h2⟩
     .exact h rfl
     .apply hs
      refine .inr ⟨h1,?_⟩;rw[Gt];intro h;exact h2 (xS.1 h)
    by_cases lT:w.op=55
    .have wW:hlen Hs=0:=vR λh=>hs (.inr ⟨lT,h⟩)
     have vB:l=[]:=by rw[Gt]at wW;exact xS.1 wW
     refine .inr (.inl ⟨w,r,rfl,rfl,rfl,vB,?_,anG z Hs w r lT wW (ht w (by simp))⟩)
     rw[J2];rw[aG hs',aN lT]
    .refine .inr (.inr ⟨w,r,r.takeWhile λw=>w.op != 55,r.dropWhile λw=>w.op != 55,jj (eZ w.task l) (r.takeWhile λw=>w.op != 55),rfl,rfl,rfl,(QA).symm,?_,?_,anH z Hs l w r lT hH hA h1 (by simp at h2;omega)⟩)
     .rw[J2]
      rw[aG hs',aG lT]
     .have:∀(q:List Sp.W)(m:List Int),m≠[]->jj m q≠[]:=by
       intro q;induction q with
       |nil=>intro m hm;exact hm
       |cons a q ih =>
        intro m hm;refine ih _ ?_;intro h;have h':eZ a.task m=[]:=h;have:=Gz a.task m;rw[h']at this;simp at this
      refine this _ _ ?_;intro h;have:=Gz w.task l;rw[h]at this;simp at this
theorem V5(k:Nat):1+(k+1)<=k+1+1:=by omega
theorem V6{w:Sp.W}{tk dk:List Sp.W}:(((w::(tk++dk)).map Sp.W.row).drop (1+tk.length)).take dk.length=dk.map Sp.W.row/\1+tk.length+dk.length<=((w::(tk++dk)).map Sp.W.row).length:=by
 have:(w::(tk++dk)).map Sp.W.row=(w::tk).map Sp.W.row++dk.map Sp.W.row:=by simp
 rw[this];constructor
 .rw[Ek (by simp;omega)]
  exact gD (by simp)
 .simp;omega
theorem an2(o2:D)(bn cn:Bool)(own:Int)(H:List Int)(qn:Bool)(Q:List Sp.W)(t v p n:Int)(h2:qn=true->Q=[])(h3:H.length<=1000)(h4:Q.length<=1000)(hA:iL H)(ht:∀w,w∈Q->w.task≠-1)
  (hC:ev P (.call jB [.d o2,.d (lu (zZ bn cn) own false H qn Q)] [])=some (.val (.d (I' 0)) []))(fA:∃a b c d,o2 = .ag [a,b,c,d])
  (hb:j4 t p n=false)(hq:(Q.any λw=>w.task==t)=false)(hh:ij own H t=1):
  iA (ev P (.call oT [.d o2,.d (lu (zZ bn cn) own false H qn Q),.d (.ag [I' t,I' 54,I' v,I' p,I' n])] [])) (let x:=gW own (H.filter λx=>x != t) Q;⟨x.1,x.2.1,x.2.2.1,false,true,x.2.2.2,0⟩):=by
 obtain⟨a,b,c,d,rfl⟩:=fA;have hF:=jW qn Q t (by omega)
 have dG:=D1 (zZ bn cn) own false H qn Q (by simp) h2 (by omega) (by omega)
 have hH:=Gy own (I' 0) (I' 0) (qD qn Q) (hD bn []) (cD cn []) (.b false) (I' 0) false H t (by omega)
 rw[wu,hq]at hF;rw[hh]at hH;generalize (jg Q t).1=fi at *;unfold j4 at hb;obtain⟨R',k1,k2,GB⟩:=anz (f:=LC) (first:=[]) (caps:=[.ref [I' t,I' 54,I' v,I' p,I' n]]) (p:=λx=>x==t) H (by omega) (λx=>anA t 54 v p n x)
 have U1:(H.filter λw=>!(w==t))=H.filter λx=>x != t:=rfl
 rw[U1]at k1 k2 GB;have hfl:(H.filter λx=>x != t).length<=H.length:=oM _ _
 have hAf:iL (H.filter λx=>x != t):=hA.sublist xN
 have dZ:H.map mw=bW H:=rfl;rw[dZ]at GB;have UJ:(H.filter λx=>x != t).map mw=bW (H.filter λx=>x != t):=rfl
 rw[UJ]at k2;generalize (H.filter λx=>x != t)=F at *
 have eV:=V4 (zZ bn cn) own (some (R',F.length)) F (qS qn Q) Q ⟨rfl,k1,k2⟩ (by cases qn;exact .inr rfl;exact .inl ⟨true,rfl,h2 rfl⟩) hAf (by omega) h4 ht
 rcases eV with⟨e,eV⟩ |⟨w,r,rfl,J3,rfl,rfl,e,eV⟩ |⟨w,r,tk,dk,l',rfl,J3,rfl,rfl,e,vB,eV⟩
 .rw[e]
  refine⟨bn,cn,false,qn,true,?_,by simp,h2⟩
  simp only[zZ]at *;rw[au oZ rfl];cases qn<;>simp[jQ,cV,mB,jk,lk,hS,qS,hV,hO,hX,qV,qO,kV,kO,iy]at dG eV
  .simp[ig,hC,fZ,hb,hF,aJ,dG,hH,aD,GB,eV,ak,cut,aO,aP,cu,bX,aq,sub,aE,back,av,aZ,az]
   rw[au o8 rfl];simp[nM,aD,k1,k2,ak,cut,aO,aP,cu,bX,aq,sub,aE,back,av,aZ,az]
  .obtain rfl:=h2 rfl
   simp[ig,hC,fZ,hb,hF,aJ,dG,hH,aD,GB,eV,ak,cut,aO,aP,cu,bX,aq,sub,aE,back,av,aZ,az];rw[au o8 rfl];simp[nM,aD,k1,k2,ak,cut,aO,aP,cu,bX,aq,sub,aE,back,av,aZ,az]
 .rw[e]
  have iB:qn=false:=by cases qn;rfl;exact absurd (h2 rfl) (by simp)
  subst iB;refine⟨bn,cn,false,false,false,?_,by simp,by simp⟩
  simp only[zZ]at *;rw[au oZ rfl];cases r<;>simp[jQ,cV,mB,jk,lk,hS,qS,hV,hO,hX,qV,qO,kV,kO,iy]at dG eV <;>
  .simp[ig,hC,fZ,hb,hF,aJ,dG,hH,aD,GB,eV,ak,cut,aO,aP,cu,bX,aq,sub,aE,back,av,aZ,az]
   rw[au o8 rfl];simp[nM,aD,k1,k2,V5,ak,cut,aO,aP,cu,bX,aq,sub,aE,back,av,aZ,az]
 .rw[e]
  have iB:qn=false:=by cases qn;rfl;exact absurd (h2 rfl) (by simp)
  subst iB;obtain⟨g1,g2⟩:=V6 (w:=w) (tk:=tk) (dk:=dk);refine⟨bn,cn,false,false,false,?_,by simp,by simp⟩
  simp only[zZ]at *;rw[au oZ rfl];generalize Dm:w::(tk++dk)=QQ at *;generalize hSS:QQ.map Sp.W.row=S at *;cases dk<;>simp[jQ,cV,mB,jk,lk,hS,qS,hV,hO,hX,qV,qO,kV,kO,iy]at dG eV g1 g2 <;>
  .simp[ig,hC,fZ,hb,hF,aJ,dG,hH,aD,GB,eV,ak,cut,aO,aP,cu,bX,aq,sub,aE,back,av,aZ,az]
   rw[au o8 rfl];simp[nM,aD,k1,k2,g1,g2,ak,cut,aO,aP,cu,bX,aq,sub,aE,back,av,aZ,az]
end Go.VS.R
namespace Go.VS.R
open Go.VS.Sp
theorem an3(o2:D)(bn cn:Bool)(own:Int)(hn:Bool)(qn:Bool)(Q:List Sp.W)(t v p n:Int)(h2:qn=true->Q=[])(h4:Q.length<=1000)(ht:∀w,w∈Q->w.task≠-1)
  (hC:ev P (.call jB [.d o2,.d (lu (zZ bn cn) own hn [] qn Q)] [])=some (.val (.d (I' 0)) []))(fA:∃a b c d,o2 = .ag [a,b,c,d])
  (hb:j4 t p n=false)(hq:(Q.any λw=>w.task==t)=false)(hh:ij own [] t=2):
  iA (ev P (.call oT [.d o2,.d (lu (zZ bn cn) own hn [] qn Q),.d (.ag [I' t,I' 56,I' v,I' p,I' n])] [])) (let x:=gW (-1) [] Q;⟨x.1,x.2.1,x.2.2.1,false,true,x.2.2.2,0⟩):=by
 obtain⟨a,b,c,d,rfl⟩:=fA;have hF:=jW qn Q t (by omega)
 have dG:=D1 (zZ bn cn) own hn [] qn Q (by simp) h2 (by simp) (by omega)
 have hH:=Gy own (I' 0) (I' 0) (qD qn Q) (hD bn []) (cD cn []) (.b false) (I' 0) hn [] t (by simp)
 rw[wu,hq]at hF;rw[hh]at hH;generalize (jg Q t).1=fi at *;unfold j4 at hb;by_cases GC:(hn&&qn)=true
 .have e1:hn=true:=by simp at GC;exact GC.1
  have e2:qn=true:=by simp at GC;exact GC.2
  subst e1;subst e2;obtain rfl:=h2 rfl;have eV:=anU (zZ bn cn) (-1);refine⟨bn,cn,true,true,true,?_,by simp[gW],by simp[gW]⟩
  simp only[zZ]at *;rw[au oZ rfl];simp[jQ,bN]at dG eV;simp[ig,hC,fZ,hb,hF,aJ,dG,hH,aD,eV,ak,cut,aO,aP,cu,bX,aq,sub,aE,back,av,aZ,az];rw[au o8 rfl];simp[nM,aD,gW,ak,cut,aO,aP,cu,bX,aq,sub,aE,back,av,aZ,az]
 .have wW:jQ (zZ bn cn) own hn [] qn Q=cV (zZ bn cn) own (hS hn []) (qS qn Q) none:=by unfold jQ;rw[aG GC]
  rw[wW]at dG;have eV:=V4 (zZ bn cn) (-1) (hS hn []) [] (qS qn Q) Q (V1 (by simp)) (by cases qn;exact .inr rfl;exact .inl ⟨true,rfl,h2 rfl⟩) List.Pairwise.nil (by simp) h4 ht
  rcases eV with⟨e,eV⟩ |⟨w,r,rfl,J3,_,_,e,eV⟩ |⟨w,r,tk,dk,l',rfl,J3,_,rfl,e,vB,eV⟩
  .rw[e]
   refine⟨bn,cn,hn,qn,true,?_,by simp,h2⟩
   simp only[zZ]at *;rw[au oZ rfl];cases hn<;>cases qn<;>simp[cV,mB,jk,lk,hS,qS,hV,hO,hX,qV,qO,kV,kO,iy]at dG eV
   .simp[ig,hC,fZ,hb,hF,aJ,dG,hH,aD,eV,ak,cut,aO,aP,cu,bX,aq,sub,aE,back,av,aZ,az]
    rw[au o8 rfl];simp[nM,aD,ak,cut,aO,aP,cu,bX,aq,sub,aE,back,av,aZ,az]
   .obtain rfl:=h2 rfl
    simp[ig,hC,fZ,hb,hF,aJ,dG,hH,aD,eV,ak,cut,aO,aP,cu,bX,aq,sub,aE,back,av,aZ,az];rw[au o8 rfl];simp[nM,aD,ak,cut,aO,aP,cu,bX,aq,sub,aE,back,av,aZ,az]
   .simp[ig,hC,fZ,hb,hF,aJ,dG,hH,aD,eV,ak,cut,aO,aP,cu,bX,aq,sub,aE,back,av,aZ,az]
    rw[au o8 rfl];simp[nM,aD,ak,cut,aO,aP,cu,bX,aq,sub,aE,back,av,aZ,az]
   .simp at GC
  .rw[e]
   have iB:qn=false:=by cases qn;rfl;exact absurd (h2 rfl) (by simp)
   subst iB;refine⟨bn,cn,hn,false,false,?_,by simp,by simp⟩
   simp only[zZ]at *;rw[au oZ rfl];cases hn<;>cases r<;>simp[cV,mB,jk,lk,hS,qS,hV,hO,hX,qV,qO,kV,kO,iy]at dG eV <;>
   .simp[ig,hC,fZ,hb,hF,aJ,dG,hH,aD,eV,ak,cut,aO,aP,cu,bX,aq,sub,aE,back,av,aZ,az]
    rw[au o8 rfl];simp[nM,aD,V5,ak,cut,aO,aP,cu,bX,aq,sub,aE,back,av,aZ,az]
  .rw[e]
   have iB:qn=false:=by cases qn;rfl;exact absurd (h2 rfl) (by simp)
   subst iB;obtain⟨g1,g2⟩:=V6 (w:=w) (tk:=tk) (dk:=dk);refine⟨bn,cn,false,false,false,?_,by simp,by simp⟩
   simp only[zZ]at *;rw[au oZ rfl];generalize Dm:w::(tk++dk)=QQ at *;generalize hSS:QQ.map Sp.W.row=S at *;cases hn<;>cases dk<;>simp[cV,mB,jk,lk,hS,qS,hV,hO,hX,qV,qO,kV,kO,iy]at dG eV g1 g2 <;>
   .simp[ig,hC,fZ,hb,hF,aJ,dG,hH,aD,eV,ak,cut,aO,aP,cu,bX,aq,sub,aE,back,av,aZ,az]
    rw[au o8 rfl];simp[nM,aD,g1,g2,ak,cut,aO,aP,cu,bX,aq,sub,aE,back,av,aZ,az]
def sD(own:Int)(H:List Int)(Q:List Sp.W)(t:Int):Rp :=
 if(Q.any λw=>w.task==t)=true then(let x:=gW own H (Q.filter λw=>w.task != t);⟨x.1,x.2.1,x.2.2.1,false,false,x.2.2.2,0⟩)else zr 7
theorem an4(o2:D)(bn cn:Bool)(own:Int)(hn:Bool)(H:List Int)(qn:Bool)(Q:List Sp.W)(t:Int)(h4:Q.length<=1000)
  (hC:ev P (.call jB [.d o2,.d (lu (zZ bn cn) own hn H qn Q)] [])=some (.val (.d (I' 0)) []))(fA:∃a b c d,o2 = .ag [a,b,c,d])
  (hq:(Q.any λw=>w.task==t)=false):
  iA (ev P (.call A6 [.d o2,.d (lu (zZ bn cn) own hn H qn Q),.d (I' t)] [])) (sD own H Q t):=by
 obtain⟨a,b,c,d,rfl⟩:=fA;have hF:=jW qn Q t (by omega)
 rw[wu,hq]at hF;generalize (jg Q t).1=fi at *;unfold sD;rw[hq,aG (by simp)]
 simp only[zZ]at *;refine iA.zero ?_;rw[au Fu rfl];simp[yh,hC,hF,av]
theorem an5(o2:D)(bn cn:Bool)(own:Int)(hn:Bool)(H:List Int)(qn:Bool)(Q:List Sp.W)(t:Int)(h1:hn=true->H=[])(h2:qn=true->Q=[])(h3:H.length<=1000)(h4:Q.length<=1000)(hA:iL H)(ht:∀w,w∈Q->w.task≠-1)
  (hC:ev P (.call jB [.d o2,.d (lu (zZ bn cn) own hn H qn Q)] [])=some (.val (.d (I' 0)) []))(fA:∃a b c d,o2 = .ag [a,b,c,d])
  (hq:(Q.any λw=>w.task==t)=true):
  iA (ev P (.call A6 [.d o2,.d (lu (zZ bn cn) own hn H qn Q),.d (I' t)] [])) (sD own H Q t):=by
 obtain⟨a,b,c,d,rfl⟩:=fA;have iB:qn=false:=by cases qn;rfl;rw[h2 rfl]at hq;simp at hq
 subst iB;have hF:=jW false Q t (by omega)
 have dG:=D1 (zZ bn cn) own hn H false Q h1 h2 (by omega) (by omega)
 have yS:=anl Q t (by omega)
 rw[wu,hq]at hF;generalize (jg Q t).1=fi at *;unfold sD;rw[hq,aN rfl];have hfl:(Q.filter λw=>w.task != t).length<=Q.length:=oM _ _
 have htf:∀w,w∈(Q.filter λw=>w.task != t)->w.task≠-1:=λw hw=>ht w (lF.1 hw).1
 generalize (Q.filter λw=>w.task != t)=F at *
 have wW:jQ (zZ bn cn) own hn H false Q=cV (zZ bn cn) own (hS hn H) (qS false Q) none:=by unfold jQ;rw[aG (by simp)]
 rw[wW]at dG;cases F with
 |nil =>
  have eV:=anD (zZ bn cn) own (hS hn H) true;refine⟨bn,cn,hn,true,true,?_,by simp[gW];exact h1,by simp[gW]⟩
  simp only[zZ]at *;rw[au Fu rfl];cases hn<;>simp[cV,mB,jk,lk,hS,qS,hV,hO,hX,qV,qO,kV,kO,iy,lZ,l5]at dG eV yS
  .simp[yh,hC,hF,aJ,dG,aD,yS,eV,gW,ak,cut,aO,aP,cu,bX,aq,sub,aE,back,av,aZ,az]
  .obtain rfl:=h1 rfl
   simp[yh,hC,hF,aJ,dG,aD,yS,eV,gW,ak,cut,aO,aP,cu,bX,aq,sub,aE,back,av,aZ,az]
 |cons f F' =>
  have eV:=V4 (zZ bn cn) own (hS hn H) H (.inr ((f::F').map Sp.W.row,0,(f::F').length)) (f::F') (V1 h1) (.inr rfl) hA (by omega) (by omega) htf
  simp only[gm,lZ,l5,ir,xM]at yS;rcases eV with⟨e,eV⟩ |⟨w,r,V7,J3,rfl,rfl,e,eV⟩ |⟨w,r,tk,dk,l',V7,J3,rfl,rfl,e,vB,eV⟩
  .rw[e]
   refine⟨bn,cn,hn,false,true,?_,h1,by simp⟩
   simp only[zZ]at *;rw[au Fu rfl];cases hn<;>simp[cV,mB,jk,lk,hS,qS,hV,hO,hX,qV,qO,kV,kO,iy]at dG eV
   .simp[yh,hC,hF,aJ,dG,aD,yS,eV,ak,cut,aO,aP,cu,bX,aq,sub,aE,back,av,aZ,az]
   .obtain rfl:=h1 rfl
    simp[yh,hC,hF,aJ,dG,aD,yS,eV,ak,cut,aO,aP,cu,bX,aq,sub,aE,back,av,aZ,az]
  .rw[e]
   obtain⟨rfl,rfl⟩:f=w/\F'=r:=by simpa using V7
   refine⟨bn,cn,hn,false,false,?_,by simp,by simp⟩
   simp only[zZ]at *;rw[au Fu rfl];cases hn<;>cases F'<;>simp[cV,mB,jk,lk,hS,qS,hV,hO,hX,qV,qO,kV,kO,iy]at dG eV yS <;>
   simp[yh,hC,hF,aJ,dG,aD,yS,eV,V5,ak,cut,aO,aP,cu,bX,aq,sub,aE,back,av,aZ,az]
  .rw[e]
   obtain⟨g1,g2⟩:=V6 (w:=w) (tk:=tk) (dk:=dk);rw[<-V7]at g1 g2 eV;refine⟨bn,cn,false,false,false,?_,by simp,by simp⟩
   simp only[zZ]at *;rw[au Fu rfl];have an6:Sp.W.row f::F'.map Sp.W.row=(f::F').map Sp.W.row:=rfl;have hLn:F'.length+1=(f::F').length:=rfl;rw[an6,hLn]at yS;generalize f::F'=QQ at *;generalize hSS:QQ.map Sp.W.row=S at *;cases hn<;>cases dk<;>simp[cV,mB,jk,lk,hS,qS,hV,hO,hX,qV,qO,kV,kO,iy]at dG eV g1 g2 <;>
   simp[yh,hC,hF,aJ,dG,aD,yS,eV,g1,g2,ak,cut,aO,aP,cu,bX,aq,sub,aE,back,av,aZ,az]
theorem V8(o2:D)(bn cn:Bool)(own:Int)(hn:Bool)(H:List Int)(qn:Bool)(Q:List Sp.W)(t:Int)(h1:hn=true->H=[])(h2:qn=true->Q=[])(h3:H.length<=1000)(h4:Q.length<=1000)(hA:iL H)(ht:∀w,w∈Q->w.task≠-1)
  (hC:ev P (.call jB [.d o2,.d (lu (zZ bn cn) own hn H qn Q)] [])=some (.val (.d (I' 0)) []))(fA:∃a b c d,o2 = .ag [a,b,c,d]):
  iA (ev P (.call A6 [.d o2,.d (lu (zZ bn cn) own hn H qn Q),.d (I' t)] [])) (sD own H Q t):=by
 cases hq:Q.any λw=>w.task==t
 .exact an4 o2 bn cn own hn H qn Q t h4 hC fA hq
 .exact an5 o2 bn cn own hn H qn Q t h1 h2 h3 h4 hA ht hC fA hq
end Go.VS.R
namespace Go.VS.R
open Go.VS.Sp
theorem GD{t x:Int}{l:List Int}:x∈eZ t l↔x=t\/x∈l:=by
 unfold eZ;rw[dm,dD]
 have:x∈l↔x∈l.take (bI t l)\/x∈l.drop (bI t l):=by
  rw[<-List.mem_append,AO]
 rw[this];constructor
 .rintro(h |h |h)
  .exact .inr (.inl h)
  .exact .inl h
  .exact .inr (.inr h)
 .rintro(h |h |h)
  .exact .inr (.inl h)
  .exact .inl h
  .exact .inr (.inr h)
structure Pn(own:Int)(H:List Int)(Q:List Sp.W):Prop where
 op:∀w,w∈Q->w.op=53\/w.op=55
 pos:∀w,w∈Q->0<=w.task
 yT:∀w,w∈Q->w.task∉H
 AA:Q.Pairwise λa b=>a.task≠b.task
theorem Pn.sub{own oG:Int}{H H':List Int}{Q Q':List Sp.W}(h:Pn own H Q)(hs:Q'.Sublist Q)(hH:∀x,x∈H'->x∈H):Pn oG H' Q' :=
 ⟨λw hw=>h.op w (hs.mem hw),λw hw=>h.pos w (hs.mem hw),λw hw hx=>h.yT w (hs.mem hw) (hH _ hx),h.AA.sublist hs⟩
structure MV(own:Int)(H:List Int)(Q:List Sp.W):Prop where
 ow:own = -1\/(cZ own=true/\H=[])
 vh:vh [] H=true
 wc:dY Q=0
 qc:qy own H [] Q=true
 st:stay own H Q=true
theorem AB{own cnt time:Int}{H:List Int}{Q:List Sp.W}{B:List Int}{C:List (List D)}{cl:Bool}{val:Int}:
  iX own cnt time H Q B C cl val=true↔MV own H Q/\cnt=0/\time=0/\B=[]/\C=[]/\cl=false/\val=0:=by
 unfold iX Pk;constructor
 .intro h
  simp at h;obtain⟨⟨⟨⟨⟨⟨⟨a1,a2⟩,a3⟩,a4⟩,a5⟩,a6⟩,a7⟩,b1,b2,b3,b4⟩:=h;refine⟨⟨?_,b1,b2,b3,b4⟩,a2,a3,a4,a5,a6,a7⟩;exact a1
 .rintro⟨⟨h1,h2,h3,h4,h5⟩,rfl,rfl,rfl,rfl,rfl,rfl⟩
  simp[h2,h3,h4,h5];exact h1
theorem Po{own:Int}{H:List Int}:∀{suf pre:List Sp.W},qy own H pre suf=true↔(∀w,w∈suf->xy own H w=false)/\suf.Pairwise (λa b=>a.task≠b.task)/\(∀a,a∈pre->∀b,b∈suf->a.task≠b.task)
 | [],pre=>by simp[qy]
 |w::r,pre=>by
  have e1:qy own H pre (w::r)=(!pre.any (λx=>x.task==w.task)&&!xy own H w&&qy own H (pre++[w]) r):=rfl
  rw[e1];have ih:=@Po own H r (pre++[w]);have ha:(!pre.any (λx=>x.task==w.task))=true↔∀a,a∈pre->a.task≠w.task:=by
   simp
  rw[bD,bD,ih,ha];constructor
  .rintro⟨⟨h1,h2⟩,h3,h4,h5⟩
   have h2:xy own H w=false:=by simpa using h2
   refine⟨?_,gE.2 ⟨λb hb=>h5 w (by simp) b hb,h4⟩,?_⟩
   .intro x hx
    rcases dD.1 hx with e |hx
    .rw[e];exact h2
    .exact h3 x hx
   .intro a ha b hb
    rcases dD.1 hb with e |hb
    .rw[e];exact h1 a ha
    .exact h5 a (by simp[ha]) b hb
  .rintro⟨h1,h2,h3⟩
   rw[gE]at h2;refine⟨⟨λa ha=>h3 a ha w (by simp),by simp[h1 w (by simp)]⟩,λx hx=>h1 x (by simp[hx]),h2.2,?_⟩
   intro a ha b hb;rcases dm.1 ha with ha |ha
   .exact h3 a ha b (by simp[hb])
   .simp at ha;rw[ha];exact h2.1 b hb
theorem MV.qX{own:Int}{H:List Int}{Q:List Sp.W}(h:MV own H Q):iL H:=anN h.vh
theorem J4{own:Int}{H:List Int}{t:Int}(ht:0<=t):ij own H t=0↔t≠own/\t∉H:=by
 unfold ij;by_cases h1:t=own
 .simp[ht,h1];omega
 .by_cases h2:t∈H<;>simp[h1,h2]
theorem MV.qok{own:Int}{H:List Int}{Q:List Sp.W}(h:MV own H Q):Pn own H Q:=by
 obtain⟨h1,h2⟩:=IS h.wc;obtain⟨q1,q2,_⟩:=Po.1 h.qc;refine⟨λw hw=>?_,λw hw=>(sR (h2 w hw)).1,λw hw=>?_,q2⟩
 .have:=q1 w hw
  unfold xy at this;by_cases Dk:w.op=53
  .exact .inl Dk
  .right
   simp[Dk]at this;exact this.1.1.1
 .have:=q1 w hw
  unfold xy at this;simp at this;exact((J4 (sR (h2 w hw)).1).1 this.2).2
theorem MV.task{own:Int}{H:List Int}{Q:List Sp.W}(h:MV own H Q):∀w,w∈Q->w.task≠-1:=λw hw=>by
 have:=h.qok.pos w hw;omega
theorem MV.free{H:List Int}{Q:List Sp.W}(h:MV (-1) H Q)(hH:H=[]):Q=[]:=by
 cases Q with
 |nil=>rfl
 |cons w r =>
  have:=h.st;simp[stay,hH]at this
def dX(k sz ot own cnt time:Int)(H:List Int)(Q:List Sp.W)(B:List Int)(C:List (List D))(cl:Bool)(val:Int):Int :=
 if dN k sz ot=0 then(if iX own cnt time H Q B C cl val then 0 else 1)else dN k sz ot
theorem V9{k sz ot own cnt time:Int}{H:List Int}{Q:List Sp.W}{B:List Int}{C:List (List D)}{cl:Bool}{val:Int}(h:dX k sz ot own cnt time H Q B C cl val=0):
  MV own H Q/\cnt=0/\time=0/\B=[]/\C=[]/\cl=false/\val=0:=by
 unfold dX at h;by_cases hm:dN k sz ot=0
 .rw[aN hm]at h
  cases hv:iX own cnt time H Q B C cl val
  .rw[hv]at h;simp at h
  .exact AB.1 hv
 .rw[aG hm]at h;exact absurd h hm
abbrev stF(own cnt time:Int)(hn:Bool)(H:List Int)(qn:Bool)(Q:List Sp.W)(bn:Bool)(B:List Int)(cn:Bool)(C:List (List D))(cl:Bool)(val:Int):D :=
 .ag [I' own,I' cnt,I' time,hD hn H,qD qn Q,hD bn B,cD cn C,.b cl,I' val]
theorem Wa(nm:D)(k sz ot:Int)(own cnt time:Int)(hn:Bool)(H:List Int)(qn:Bool)(Q:List Sp.W)(bn:Bool)(B:List Int)(cn:Bool)(C:List (List D))(cl:Bool)(val:Int)(t o v p n:Int)
  (hh:hn=true->H=[])(hq:qn=true->Q=[])(h1:H.length<=1000)(h2:Q.length<=1000):
  iA (ev P (.call oT [.d (.ag [nm,I' k,I' sz,I' ot]),.d (stF own cnt time hn H qn Q bn B cn C cl val),.d (.ag [I' t,I' o,I' v,I' p,I' n])] []))
   (if dX k sz ot own cnt time H Q B C cl val=0 then nu own H Q t o p n else zr 1):=by
 have hC:=oA nm k sz ot own cnt time hn H qn Q bn B cn C cl val hh hq h1 (by omega)
 by_cases hc:dX k sz ot own cnt time H Q B C cl val=0
 .obtain⟨hM,rfl,rfl,rfl,rfl,rfl,rfl⟩:=V9 hc
  have u9:ev P (.call jB [.d (.ag [nm,I' k,I' sz,I' ot]),.d (lu (zZ bn cn) own hn H qn Q)] [])=some (.val (.d (I' 0)) []):=by
   have:dX k sz ot own 0 0 H Q [] [] false 0=(if dN k sz ot=0 then(if iX own 0 0 H Q [] [] false 0 then 0 else 1)else dN k sz ot):=rfl
   rw[<-this,hc]at hC;exact hC
  rw[aN hc];have fA:∃a b c d,(.ag [nm,I' k,I' sz,I' ot]:D) = .ag [a,b,c,d]:=⟨_,_,_,_,rfl⟩;obtain⟨e1,e2,e3,e4,e5,e6⟩:=Pm _ bn cn own hn H qn Q t o v p n hh hq h1 h2 u9 fA;unfold nu;cases hb:j4 t p n
  .rw[aG (by simp)]
   cases hr:(decide (o<53)||decide (56<o))
   .rw[aG (by simp)]
    cases hw:Q.any λw=>w.task==t
    .rw[aG (by simp)]
     by_cases hl:o=53\/o=55
     .rw[aN hl]
      by_cases hz:ij own H t=0
      .rw[aG (by simp[hz])]
       exact an1 _ bn cn own hn H qn Q t o v p n hh hq h1 h2 hM.qX u9 fA hb hw hl hz
      .rw[aN hz]
       exact e4 hb hr hw hl hz
     .rw[aG hl]
      by_cases yt:o=54
      .rw[aN yt]
       by_cases hz:ij own H t=1
       .rw[aG (by simp[hz])]
        subst yt;have hn0:hn=false:=by
         cases hn
         .rfl
         .rw[hh rfl]at hz
          unfold ij at hz;split at hz
          .exact absurd hz (by decide)
          .simp at hz
        subst hn0;exact an2 _ bn cn own H qn Q t v p n hq h1 h2 hM.qX hM.task u9 fA hb hw hz
       .rw[aN hz]
        exact e5 hb hr hw yt hz
      .rw[aG yt]
       have IY:o=56:=by
        simp at hr;omega
       by_cases hz:ij own H t=2
       .rw[aG (by simp[hz])]
        subst IY;have hH:H=[]:=by
         rcases hM.ow with ho |⟨_,ho⟩
         .unfold ij at hz
          split at hz
          .rename_i h
           simp at h;omega
          .split at hz<;>exact absurd hz (by decide)
         .exact ho
        subst hH;exact an3 _ bn cn own hn qn Q t v p n hq h2 hM.task u9 fA hb hw hz
       .rw[aN hz]
        exact e6 hb hr hw IY hz
    .rw[aN rfl]
     exact e3 hb hr hw
   .rw[aN rfl]
    exact e2 hb hr
  .rw[aN rfl]
   exact e1 hb
 .rw[aG hc]
  have gF:(dX k sz ot own cnt time H Q B C cl val != 0)=true:=by simpa using hc
  have Wb:ev P (.call jB [.d (.ag [nm,I' k,I' sz,I' ot]),.d (.ag [I' own,I' cnt,I' time,hD hn H,qD qn Q,hD bn B,cD cn C,.b cl,I' val])] [])=some (.val (.d (I' (dX k sz ot own cnt time H Q B C cl val))) []):=hC;generalize dX k sz ot own cnt time H Q B C cl val=ck at *;refine iA.zero ?_;rw[au oZ rfl];simp[ig,Wb,gF,av]
theorem Wc(nm:D)(k sz ot:Int)(own cnt time:Int)(hn:Bool)(H:List Int)(qn:Bool)(Q:List Sp.W)(bn:Bool)(B:List Int)(cn:Bool)(C:List (List D))(cl:Bool)(val:Int)(t:Int)
  (hh:hn=true->H=[])(hq:qn=true->Q=[])(h1:H.length<=1000)(h2:Q.length<=1000):
  iA (ev P (.call A6 [.d (.ag [nm,I' k,I' sz,I' ot]),.d (stF own cnt time hn H qn Q bn B cn C cl val),.d (I' t)] []))
   (if dX k sz ot own cnt time H Q B C cl val=0 then sD own H Q t else zr 1):=by
 have hC:=oA nm k sz ot own cnt time hn H qn Q bn B cn C cl val hh hq h1 (by omega)
 by_cases hc:dX k sz ot own cnt time H Q B C cl val=0
 .obtain⟨hM,rfl,rfl,rfl,rfl,rfl,rfl⟩:=V9 hc
  have u9:ev P (.call jB [.d (.ag [nm,I' k,I' sz,I' ot]),.d (lu (zZ bn cn) own hn H qn Q)] [])=some (.val (.d (I' 0)) []):=by
   have:dX k sz ot own 0 0 H Q [] [] false 0=(if dN k sz ot=0 then(if iX own 0 0 H Q [] [] false 0 then 0 else 1)else dN k sz ot):=rfl
   rw[<-this,hc]at hC;exact hC
  rw[aN hc];exact V8 _ bn cn own hn H qn Q t hh hq h1 h2 hM.qX hM.task u9 ⟨_,_,_,_,rfl⟩
 .rw[aG hc]
  have gF:(dX k sz ot own cnt time H Q B C cl val != 0)=true:=by simpa using hc
  have Wb:ev P (.call jB [.d (.ag [nm,I' k,I' sz,I' ot]),.d (.ag [I' own,I' cnt,I' time,hD hn H,qD qn Q,hD bn B,cD cn C,.b cl,I' val])] [])=some (.val (.d (I' (dX k sz ot own cnt time H Q B C cl val))) []):=hC;generalize dX k sz ot own cnt time H Q B C cl val=ck at *;refine iA.zero ?_;rw[au Fu rfl];simp[yh,Wb,gF,av]
end Go.VS.R
namespace Go.VS.R
open Go.VS.Sp
theorem Sp.W.neq{w w':Sp.W}(h:¬w=w'):(!w.task==w'.task||(!w.op==w'.op||(!w.value==w'.value||(!w.prio==w'.prio||!w.case==w'.case))))=true:=by
 cases hb:(!w.task==w'.task||(!w.op==w'.op||(!w.value==w'.value||(!w.prio==w'.prio||!w.case==w'.case))))
 .exfalso;apply h
  simp at hb;cases w;cases w';simp at hb⊢;exact hb
 .rfl
end Go.VS.R
namespace Go.VS.R
open Go.VS.Sp
end Go.VS.R
namespace Go.VS.R
open Go.VS.Sp
end Go.VS.R
namespace Go.VS.R
open Go.VS.Sp
end Go.VS.R
namespace Go.VS.R
open Go.VS.Sp
def gH(l:List Int):Prop:=l.Pairwise (·<·)
theorem gH.qX{l:List Int}(h:gH l):iL l:=List.Pairwise.imp (λh=>Qz h) h
theorem Pp{t:Int}{l:List Int}(h:gH l)(ht:t∉l):gH (eZ t l):=by
 obtain⟨h1,h2⟩:=V0 t h.qX;have h2':∀x,x∈l.drop (bI t l)->t<x:=λx hx=>by
  have:=h2 x hx;have hne:x≠t:=λe=>ht (by rw[<-e];exact mV hx)
  omega
 unfold eZ gH;rw[oN];refine⟨h.sublist (List.take_sublist _ _),gE.2 ⟨h2',h.sublist (List.drop_sublist _ _)⟩,?_⟩;intro a ha b hb;rcases dD.1 hb with rfl |hb
 .exact h1 a ha
 .exact Int.lt_trans (h1 a ha) (h2' b hb)
theorem an7:∀{suf pre:List Int},vh pre suf=true↔(∀x,x∈suf->cZ x=true)/\(pre.getLast?.toList++suf).Pairwise (·<·)
 | [],pre=>by cases h:pre.getLast?<;>simp[vh]
 |x::r,pre=>by
  have e1:vh pre (x::r)=(!(!cZ x||pre.getLast?.any (λy=>decide (x<=y)))&&vh (pre++[x]) r):=rfl
  rw[e1,bD,an7];have hl:(pre++[x]).getLast?=some x:=by simp
  rw[hl];cases hp:pre.getLast? with
  |none =>
   simp;exact⟨fun⟨h1,h2,h3⟩=>⟨⟨h1,h2⟩,h3⟩,fun⟨⟨h1,h2⟩,h3⟩=>⟨h1,h2,h3⟩⟩
  |some p =>
   simp;constructor
   .rintro⟨⟨h1,h2⟩,h3,h4,h5⟩
    exact⟨⟨h1,h3⟩,⟨h2,λy hy=>Int.lt_trans h2 (h4 y hy)⟩,h4,h5⟩
   .rintro⟨⟨h1,h3⟩,⟨h2,_⟩,h4,h5⟩
    exact⟨⟨h1,h2⟩,h3,h4,h5⟩
theorem We{H:List Int}:vh [] H=true↔(∀x,x∈H->cZ x=true)/\gH H:=by
 rw[an7];simp[gH]
theorem xA{Q:List Sp.W}:dY Q=0↔Q.length<=96/\∀w,w∈Q->dU w=true:=by
 constructor
 .exact IS
 .rintro⟨h1,h2⟩
  rw[<-anO];unfold V2;rw[aG (by omega),aN (by simpa using h2)]
structure D2(own:Int)(H:List Int)(w:Sp.W):Prop where
 v:dU w=true
 op:w.op=53\/w.op=55
 val:w.value=0
 cs:w.case = -1
 no:w.task≠own
 yT:w.task∉H
theorem an8{own:Int}{H:List Int}{w:Sp.W}(hv:dU w=true):xy own H w=false↔D2 own H w:=by
 have ht:=(sR hv).1;unfold xy;constructor
 .intro h
  simp at h;obtain⟨⟨⟨h1,h2⟩,h3⟩,h4⟩:=h;obtain⟨h5,h6⟩:=(J4 ht).1 h4;exact⟨hv,by by_cases h:w.op=53;exact .inl h;exact .inr (by simpa[h]using h1),h2,h3,h5,h6⟩
 .rintro⟨_,h1,h2,h3,h4,h5⟩
  have:=(J4 ht).2 ⟨h4,h5⟩;rcases h1 with h1 |h1<;>simp[h1,h2,h3,this]
theorem vE{own:Int}{H:List Int}{Q:List Sp.W}:MV own H Q↔(own = -1\/(cZ own=true/\H=[]))/\(∀x,x∈H->cZ x=true)/\gH H/\Q.length<=96/\(∀w,w∈Q->D2 own H w)/\Q.Pairwise (λa b=>a.task≠b.task)/\stay own H Q=true:=by
 constructor
 .rintro⟨h1,h2,h3,h4,h5⟩
  obtain⟨v1,v2⟩:=We.1 h2;obtain⟨w1,w2⟩:=xA.1 h3;obtain⟨q1,q2,_⟩:=Po.1 h4;exact⟨h1,v1,v2,w1,λw hw=>(an8 (w2 w hw)).1 (q1 w hw),q2,h5⟩
 .rintro⟨h1,v1,v2,w1,q1,q2,h5⟩
  refine⟨h1,We.2 ⟨v1,v2⟩,xA.2 ⟨w1,λw hw=>(q1 w hw).v⟩,Po.2 ⟨λw hw=>(an8 (q1 w hw).v).2 (q1 w hw),q2,by simp⟩,h5⟩
theorem an9{x:Int}:∀{q:List Sp.W}{l:List Int},x∈jj l q↔x∈l\/∃w,w∈q/\w.task=x
 | [],l=>by simp[jj]
 |a::q,l=>by
  have e:jj l (a::q)=jj (eZ a.task l) q:=rfl;rw[e,an9,GD];constructor
  .rintro((h |h) |⟨w,h1,h2⟩)
   .exact .inr ⟨a,by simp,h.symm⟩
   .exact .inl h
   .exact .inr ⟨w,by simp[h1],h2⟩
  .rintro(h |⟨w,h1,h2⟩)
   .exact .inl (.inr h)
   .rcases dD.1 h1 with e |h1
    .exact .inl (.inl (by rw[<-h2,e]))
    .exact .inr ⟨w,h1,h2⟩
theorem aoa:∀{q:List Sp.W}{l:List Int},gH l->(∀w,w∈q->w.task∉l)->q.Pairwise (λa b=>a.task≠b.task)->gH (jj l q)
 | [],l,h,_,_=>h
 |a::q,l,h,hn,hd=>by
  rw[gE]at hd;have e:jj l (a::q)=jj (eZ a.task l) q:=rfl;rw[e];refine aoa (Pp h (hn a (by simp))) ?_ hd.2
  intro w hw hm;rcases GD.1 hm with e |hm
  .exact hd.1 w hw e.symm
  .exact hn w (by simp[hw]) hm
theorem Wf{own:Int}{H:List Int}{w:Sp.W}(h:D2 own H w):cZ w.task=true:=by
 have:=sR h.v;unfold cZ;simp;omega
theorem Wg{own:Int}{H:List Int}{Q:List Sp.W}(h1:own = -1\/(cZ own=true/\H=[]))(h2:∀x,x∈H->cZ x=true)(h3:gH H)(h4:Q.length<=96)(h5:∀w,w∈Q->D2 own H w)(h6:Q.Pairwise (λa b=>a.task≠b.task)):
  MV (gW own H Q).1 (gW own H Q).2.1 (gW own H Q).2.2.1:=by
 cases Q with
 |nil=>exact vE.2 ⟨h1,h2,h3,h4,h5,h6,rfl⟩
 |cons w r =>
  rw[J2];rw[gE]at h6;have hw:=h5 w (by simp)
  split
  .rename_i hs
   refine vE.2 ⟨h1,h2,h3,h4,h5,gE.2 h6,?_⟩;unfold stay;rcases hs with hs |⟨yL,xg⟩
   .simp[hs]
   .simp[yL,xg]
  .rename_i hs
   have ho:own = -1:=vR λh=>hs (.inl h)
   split
   .rename_i lT
    have hH:H=[]:=vR λh=>hs (.inr ⟨lT,h⟩)
    subst hH;refine vE.2 ⟨.inr ⟨Wf hw,rfl⟩,by simp,List.Pairwise.nil,by simp at h4⊢;omega,?_,h6.2,?_⟩
    .intro x hx
     have:=h5 x (by simp[hx])
     exact⟨this.v,this.op,this.val,this.cs,λe=>h6.1 x hx e.symm,by simp⟩
    .cases r with
     |nil=>rfl
     |cons a r =>
      have:=(sR hw.v).1;simp[stay];omega
   .rename_i lT
    subst ho;have hsp:(r.takeWhile λw=>w.op != 55)++(r.dropWhile λw=>w.op != 55)=r:=QA
    have hdk:∀a l,(r.dropWhile λw=>w.op != 55)=a::l->a.op=55:=by
     intro a l h;have:=XM (λw:Sp.W=>w.op != 55) r
     rw[h]at this;simpa using this
    generalize (r.takeWhile λw=>w.op != 55)=tk at *
    generalize (r.dropWhile λw=>w.op != 55)=dk at *
    subst hsp;have hd:=oN.1 h6.2;have hm:∀x,x∈jj (eZ w.task H) tk↔(x=w.task\/x∈H)\/∃v,v∈tk/\v.task=x:=by
     intro x;rw[an9,GD]
    refine vE.2 ⟨.inl rfl,?_,?_,?_,?_,hd.2.1,?_⟩
    .intro x hx
     rcases(hm x).1 hx with(rfl |hx) |⟨v,hv,rfl⟩
     .exact Wf hw
     .exact h2 x hx
     .exact Wf (h5 v (by simp[hv]))
    .refine aoa (Pp h3 hw.yT) ?_ hd.1
     intro v hv hx;rcases GD.1 hx with e |hx
     .exact h6.1 v (by simp[hv]) e.symm
     .exact(h5 v (by simp[hv])).yT hx
    .simp at h4⊢;omega
    .intro x hx
     have:=h5 x (by simp[hx])
     refine⟨this.v,this.op,this.val,this.cs,this.no,λzY=>?_⟩
     rcases(hm _).1 zY with(e |mj) |⟨v,hv,e⟩
     .exact h6.1 x (by simp[hx]) e.symm
     .exact this.yT mj
     .exact hd.2.2 v hv x hx e
    .show stay (-1) (jj (eZ w.task H) tk) dk=true
     cases dk with
     |nil=>rfl
     |cons a l =>
      have aob:=hdk a l rfl;have hne:(jj (eZ w.task H) tk).isEmpty=false:=by
       cases hi:jj (eZ w.task H) tk with
       |nil=>have:=(hm w.task).2 (.inl (.inl rfl));rw[hi]at this;cases this
       |cons _ _=>rfl
      simp[stay,aob,hne]
theorem aoc{own:Int}{H:List Int}{Q:List Sp.W}{t o p n:Int}(hM:MV own H Q)(hl:Q.length<=90)(he:(nu own H Q t o p n).e=0):MV (nu own H Q t o p n).own (nu own H Q t o p n).H (nu own H Q t o p n).Q:=by
 obtain⟨m1,m2,m3,m4,m5,m6,m7⟩:=vE.1 hM;unfold nu at he⊢;cases hb:j4 t p n
 .rw[hb]at he
  simp only[fG,dK]at he⊢;have F5:=hb;unfold j4 cZ at F5;simp at F5;obtain⟨⟨⟨⟨pG,Pq⟩,FD⟩,_⟩,_⟩:=F5;have gV:cZ t=true:=by unfold cZ;simp;exact pG
  cases hr:(decide (o<53)||decide (56<o))
  .rw[hr]at he
   simp only[fG,dK]at he⊢;have hop:53<=o/\o<=56:=by simp at hr;omega
   cases hw:Q.any λw=>w.task==t
   .rw[hw]at he
    simp only[fG,dK]at he⊢;have hnt:∀w,w∈Q->w.task≠t:=by simpa using hw
    by_cases hL:o=53\/o=55
    .rw[aN hL]at he⊢
     by_cases hz:ij own H t=0
     .rw[aG (by simp[hz])]at he⊢
      obtain⟨z1,z2⟩:=(J4 pG.1).1 hz;unfold lq at he⊢;by_cases hp:vD own H Q o=true
      .rw[aN hp]at he⊢
       unfold vD at hp;by_cases lT:o=55
       .rw[aN lT]
        rw[aG (by omega)]at hp
        simp at hp;obtain⟨rfl,rfl⟩:=hp;have hq:=hM.free rfl;subst hq;exact vE.2 ⟨.inr ⟨gV,rfl⟩,by simp,List.Pairwise.nil,by simp,by simp,List.Pairwise.nil,rfl⟩
       .rw[aG lT]
        rw[aN (by omega)]at hp
        simp at hp;obtain⟨rfl,rfl⟩:=hp;refine vE.2 ⟨.inl rfl,?_,Pp m3 z2,by simp,by simp,List.Pairwise.nil,rfl⟩
        intro x hx;rcases GD.1 hx with rfl |hx
        .exact gV
        .exact m2 x hx
      .rw[aG hp]
       refine vE.2 ⟨m1,m2,m3,by simp;omega,?_,?_,?_⟩
       .intro w hw
        rcases dm.1 hw with hw |hw
        .exact m5 w hw
        .simp at hw
         subst hw;refine⟨?_,hL,rfl,rfl,z1,z2⟩;unfold dU kR;simp;omega
       .rw[oN]
        exact⟨m6,XL _ _,λa ha b hb=>by simp at hb;rw[hb];exact hnt a ha⟩
       .show stay own H (Q++[⟨t,o,0,p,-1⟩])=true
        cases Q with
        |nil =>
         unfold vD at hp;rcases hL with rfl |rfl
         .simp at hp
          simp[stay,hp]
         .rw[aG (by decide)]at hp
          simp at hp;simp[stay];by_cases h:own = -1
          .exact .inr (hp h)
          .exact .inl h
        |cons a r=>exact m7
     .rw[aN hz]at he
      simp[zr]at he
    .rw[aG hL]at he⊢
     by_cases yt:o=54
     .rw[aN yt]at he⊢
      by_cases hz:ij own H t=1
      .rw[aG (by simp[hz])]at he⊢
       have hsub:∀x,x∈(H.filter λx=>x != t)->x∈H:=λx hx=>(lF.1 hx).1
       refine Wg (H:=H.filter λx=>x != t) ?_ (λx hx=>m2 x (hsub x hx)) (m3.sublist xN) m4 (λw hw=>?_) m6
       .rcases m1 with h |⟨h,h'⟩
        .exact .inl h
        .exact .inr ⟨h,by rw[h'];rfl⟩
       .have:=m5 w hw
        exact⟨this.v,this.op,this.val,this.cs,this.no,λh=>this.yT (hsub _ h)⟩
      .rw[aN hz]at he
       simp[zr]at he
     .rw[aG yt]at he⊢
      by_cases hz:ij own H t=2
      .rw[aG (by simp[hz])]at he⊢
       refine Wg (.inl rfl) m2 m3 m4 (λw hw=>?_) m6
       have:=m5 w hw;refine⟨this.v,this.op,this.val,this.cs,?_,this.yT⟩;have:=(sR this.v).1;omega
      .rw[aN hz]at he
       simp[zr]at he
   .rw[hw]at he
    simp[zr]at he
  .rw[hr]at he
   simp[zr]at he
 .rw[hb]at he
  simp[zr]at he
theorem aod{own:Int}{H:List Int}{Q:List Sp.W}{t:Int}(hM:MV own H Q)(he:(sD own H Q t).e=0):MV (sD own H Q t).own (sD own H Q t).H (sD own H Q t).Q:=by
 obtain⟨m1,m2,m3,m4,m5,m6,m7⟩:=vE.1 hM;unfold sD at he⊢;cases hw:Q.any λw=>w.task==t
 .rw[hw]at he
  simp[zr]at he
 .simp only[dH]
  have hfl:(Q.filter λw=>w.task != t).length<=Q.length:=oM _ _
  exact Wg m1 m2 m3 (by omega) (λw hw=>m5 w (lF.1 hw).1) (m6.sublist xN)
end Go.VS.R
namespace Go.VS.Sp
def vF(s:S):Bool:=M.iX s.own s.cnt s.time s.H s.Q s.B (s.C.map K.row) s.cl s.val
def D3(s:S):Bool:=R.iX s.own s.cnt s.time s.H s.Q s.B (s.C.map K.row) s.cl s.val
def dg(k sz ot:Int)(s:S):Int :=
 if k=1 then ck (dM 1 k sz ot) (vF s)else if k=2 then ck (dM 2 k sz ot) (D3 s)else if k=4 then ck (iU k sz ot) (BX sz ot s)
 else if k=5 then ck (iF k sz ot) (Ay sz s)else if k=6 then ck (gM k sz ot) (xm sz s)else if k=7 then dX k sz ot s
 else if k=8 then ck (jh k sz ot) (Az sz s)else if k=9 then ck (dM 9 k sz ot) (xp s)else 8
structure S.fP(s:S):Prop where
 wf:s.wf
 qn:s.qn=true->s.Q=[]
 h:s.H.length<=41
 q:s.Q.length<=41
 b:s.B.length<=121
 c:s.C.length<=41
 l:∀c∈s.C,c.log.length<=121
theorem S.fP.sm{s:S}(h:s.fP):s.sm:=⟨by have:=h.h;omega,by have:=h.b;omega,by have:=h.q;omega,by have:=h.c;omega,λc hc=>by have:=h.l c hc;omega⟩
theorem aoe{s:S}(hw:s.wf)(hq:s.qn=true->s.Q=[])(hg:s.yl=false):s.fP:=by
 unfold S.yl at hg;simp at hg;obtain⟨⟨⟨⟨h1,h2⟩,h3⟩,h4⟩,h5⟩:=hg;exact⟨hw,hq,by omega,by omega,by omega,by omega,λc hc=>by have:=h5 c hc;omega⟩
theorem aof(nm:D)(k sz ot:Int)(s:S)(h:s.fP):
  ev P (.call oS [.d (.ag [nm,I' k,I' sz,I' ot]),.d (.ag s.row)] [])=some (.val (.d (I' (ck (dM 1 k sz ot) (vF s)))) []):=by
 have hs:=h.sm;exact M.oA nm k sz ot s.own s.cnt s.time s.hn s.H s.qn s.Q s.bn s.B s.cn (s.C.map K.row) s.cl s.val hs.h hs.q hs.b (by simpa using hs.c)
theorem aog(nm:D)(k sz ot:Int)(s:S)(h:s.fP):
  ev P (.call jB [.d (.ag [nm,I' k,I' sz,I' ot]),.d (.ag s.row)] [])=some (.val (.d (I' (ck (dM 2 k sz ot) (D3 s)))) []):=by
 have hs:=h.sm;exact R.oA nm k sz ot s.own s.cnt s.time s.hn s.H s.qn s.Q s.bn s.B s.cn (s.C.map K.row) s.cl s.val h.wf.1 h.qn (by have:=h.h;omega) hs.q
def kinds(k:Int)(t f g:Nat):Prop :=
 (k=1/\t=101/\f=sM/\g=oS)\/(k=2/\t=102/\f=sN/\g=jB)\/(k=4/\t=103/\f=tF/\g=p8) \/
 (k=5/\t=104/\f=tG/\g=nJ)\/(k=6/\t=105/\f=tH/\g=gn)\/(k=7/\t=106/\f=tJ/\g=rS) \/
 (k=8/\t=107/\f=tK/\g=ng)\/(k=9/\t=108/\f=tL/\g=oU)
theorem aoh{k:Int}(hk:k=1\/k=2\/k=4\/k=5\/k=6\/k=7\/k=8\/k=9):∃t f g,kinds k t f g/\ev P (.call qK [.d (I' k)] [])=some (.val (.tu [.d (.kf t (.ag [.fn f [] [],.fn g [] []])),.d (.b true)]) []):=by
 unfold kinds;rcases hk with h |h |h |h |h |h |h |h<;>subst h
 .exact⟨101,sM,oS,by simp,tX⟩
 .exact⟨102,sN,jB,by simp,rZ⟩
 .exact⟨103,tF,p8,by simp,qY⟩
 .exact⟨104,tG,nJ,by simp,Aa⟩
 .exact⟨105,tH,gn,by simp,sV⟩
 .exact⟨106,tJ,rS,by simp,qZ⟩
 .exact⟨107,tK,ng,by simp,vf⟩
 .exact⟨108,tL,oU,by simp,vg⟩
theorem aoi{k:Int}{t f g:Nat}(h:kinds k t f g):t=101\/t=102\/t=103\/t=104\/t=105\/t=106\/t=107\/t=108:=by
 unfold kinds at h;omega
theorem aoj{k:Int}{t f g:Nat}(hk:kinds k t f g)(nm:D)(sz ot:Int)(s:S)(h:s.fP):
  ev P (.call g [.d (.ag [nm,I' k,I' sz,I' ot]),.d (.ag s.row)] [])=some (.val (.d (I' (dg k sz ot s))) []):=by
 have hs:=h.sm;unfold kinds at hk;rcases hk with⟨rfl,rfl,rfl,rfl⟩ |⟨rfl,rfl,rfl,rfl⟩ |⟨rfl,rfl,rfl,rfl⟩ |⟨rfl,rfl,rfl,rfl⟩ |⟨rfl,rfl,rfl,rfl⟩ |⟨rfl,rfl,rfl,rfl⟩ |⟨rfl,rfl,rfl,rfl⟩ |⟨rfl,rfl,rfl,rfl⟩
 .exact aof nm 1 sz ot s h
 .exact aog nm 2 sz ot s h
 .exact VJ nm 4 sz ot s hs
 .exact JQ nm 5 sz ot s hs
 .exact VM nm 6 sz ot s hs
 .exact oA nm 7 sz ot s hs
 .exact JT nm 8 sz ot s hs
 .exact VN nm 9 sz ot s hs
def S.ab(qn:Bool)(s:S):S:={s with qn:=qn,Q:=[]}
theorem aok{k sz ot:Int}{s:S}(hk:¬(k=1\/k=2\/k=4\/k=5\/k=6\/k=7\/k=8\/k=9)):dg k sz ot s=8:=by
 unfold dg;simp only[nE]at hk;simp[hk]
def S.jz(s:S)(w:W):Cl:=⟨w.task,w.op,w.value,w.prio,s.time⟩
def oH(k sz ot:Int)(s:S)(w:W):Bool:=(eE k sz ot (s.ab true).pl (s.jz w)).2.2.2==0
theorem aol{s:S}(h:s.wf)(b:Bool):(s.ab b).wf:=⟨h.1,h.2,h.3,h.4⟩
theorem S.fP.sz{s:S}(h:s.fP)(b:Bool):(s.ab b).sz:=by
 refine⟨?_,?_,?_,?_,?_⟩
 .show s.H.length<=10000;have:=h.h;omega
 .show s.B.length<=10000;have:=h.b;omega
 .show([]:List W).length<=10000;simp
 .show s.C.length<=1000;have:=h.c;omega
 .intro c hc;have:=h.l c hc;omega
theorem aom(nm:D)(k sz ot:Int)(s:S)(w:W)(h:s.fP):
  ev P (.call CU [.d (.ag [nm,I' k,I' sz,I' ot]),.d (.ag s.row),.d (.ag w.row)] [])=some (.val (.d (.b (oH k sz ot s w))) []):=by
 have hE:=T1 nm k sz ot (s.ab true) (s.jz w) (aol h.wf _) (h.sz true);rw[au afb rfl];unfold oH;generalize ((eE k sz ot (s.ab true).pl (s.jz w)).2.2.2==0)=b at *;simp only[S.ab,S.row,Cl.row,S.jz,gQ]at hE;have hE:ev P (.call ED [.d (.ag [nm,I' k,I' sz,I' ot]),.d (.ag [I' s.own,I' s.cnt,I' s.time,hD s.hn s.H,.sl 5 true [],hD s.bn s.B,cD s.cn s.C,.b s.cl,I' s.val]),.d (.ag [I' w.task,I' w.op,I' w.value,I' w.prio,I' s.time])] [])=some (.val (.d (.b b)) []):=hE;simp[Tg,W.row,hE,av]
def uk(k sz ot:Int)(s:S)(w:W):Bool:=(match s.Q with | []=>false |q::_=>q.task==w.task)&&oH k sz ot s w
theorem aon(nm:D)(k sz ot:Int)(s:S)(w:W)(h:s.fP)(hQ:s.Q≠[]):
  ev P (.call EN [.d (.ag [nm,I' k,I' sz,I' ot]),.d (.ag s.row),.d (.ag w.row)] [])=some (.val (.d (.b (uk k sz ot s w))) []):=by
 have hC:=aom nm k sz ot s w h;rw[au afa rfl];unfold uk;generalize oH k sz ot s w=b at *;obtain⟨own,cnt,time,hn,H,qn,Q,bn,B,cn,C,cl,val⟩:=s;cases Q with
 |nil=>exact absurd rfl hQ
 |cons q r =>
  simp only[S.row,W.row]at hC;try simp at hC
  cases h1:q.task==w.task
  .simp[Nu,W.row,h1]
  .simp[Nu,W.row,h1,hC]
def J5(sz:Int)(s:S):Bool:=!s.C.any λx=>!iE s.Q x.task 70&&decide (sz<=x.log.length)
def gu(k sz ot:Int)(s:S)(w:W):Bool :=
 if k=1\/k=2\/k=8\/(k=4/\ot=0)then uk k sz ot s w
 else if k=5 then decide (sz<=s.Q.length)
 else if k=6/\sz=0/\w.op=64 then uh s.Q 65 w.task
 else if k=7/\w.op=68 then J5 sz s
 else oH k sz ot s w
theorem aoo(t a b c d e:Int)(x1 x2 x3 x4:D):ev P (.call Mo [.d (.ag [I' a,I' b,I' c,I' d,I' e]),.d (.ref [I' t,x1,x2,x3,x4])] [])=some (.val (.d (.b (b==65&&a != t))) []):=by
 rw[au afo rfl];cases h:b==65<;>simp[Tk,h]
theorem aop(t:Int)(x:D)(a b c d e:Int):ev P (.call Mq [.d (.ag [I' a,I' b,I' c,I' d,I' e]),.d (.ref [I' t,x])] [])=some (.val (.d (.b (a==t&&b==70))) []):=by
 rw[au aft rfl];cases h:a==t<;>simp[Tn,h]
theorem aoq(nm:D)(k sz ot:Int)(d0 d1 d2 d3 d5 d6 d7 d8:D)(qn:Bool)(Q:List W)(hn:Q.length<=1000000)(a:Int)(b:Bool)(c:List Int):
  ev P (.call Mp [.d (.ag [I' a,hD b c]),.d (.ref [d0,d1,d2,d3,qD qn Q,d5,d6,d7,d8]),.d (.ref [nm,I' k,I' sz,I' ot])] [])=some (.val (.d (.b (!iE Q a 70&&decide (sz<=c.length)))) []):=by
 have hI:=wq (f:=Mq) (first:=[]) (caps:=[.ref [I' a,hD b c]]) (p:=λw=>w.task==a&&w.op==70) qn Q hn (by intro a' b' c' d' e';exact aop a (hD b c) a' b' c' d' e')
 rw[au afs rfl];unfold iE;generalize (Q.any λw=>w.task==a&&w.op==70)=r at *
 try simp at hI
 cases r<;>simp[Tm,eY,hI]
theorem aor{k:Int}{t f g:Nat}(hk:kinds k t f g)(nm:D)(sz ot:Int)(s:S)(w:W)(h:s.fP)(hQ:s.Q≠[]):
  ev P (.call HD [.d (.ag w.row),.d (.ref [.kf t (.ag [.fn f [] [],.fn g [] []])]),.d (.ref [nm,I' k,I' sz,I' ot]),.d (.ref s.row)] [])=some (.val (.d (.b (gu k sz ot s w))) []):=by
 have hC:=aom nm k sz ot s w h;have hF:=aon nm k sz ot s w h hQ;unfold kinds at hk;simp only[S.row,W.row]at hC hF⊢;rw[au ady rfl];rcases hk with⟨rfl,rfl,rfl,rfl⟩ |⟨rfl,rfl,rfl,rfl⟩ |⟨rfl,rfl,rfl,rfl⟩ |⟨rfl,rfl,rfl,rfl⟩ |⟨rfl,rfl,rfl,rfl⟩ |⟨rfl,rfl,rfl,rfl⟩ |⟨rfl,rfl,rfl,rfl⟩ |⟨rfl,rfl,rfl,rfl⟩
 .have e:gu 1 sz ot s w=uk 1 sz ot s w:=rfl
  rw[e];have hv:∀m1 m2:D,ev P (.call R2 [.d (.ag [m1,m2]),.d (.ag [nm,I' 1,I' sz,I' ot]),.d (.ag [I' s.own,I' s.cnt,I' s.time,hD s.hn s.H,qD s.qn s.Q,hD s.bn s.B,cD s.cn s.C,.b s.cl,I' s.val]),.d (.ag [I' w.task,I' w.op,I' w.value,I' w.prio,I' w.case])] [])=some (.val (.d (.b (uk 1 sz ot s w))) []):=by
   intro m1 m2;rw[au ae9 rfl];simp[Tf,hF]
  simp[yg,cQ,hv]
 .have e:gu 2 sz ot s w=uk 2 sz ot s w:=rfl
  rw[e];have hv:∀m1 m2:D,ev P (.call R3 [.d (.ag [m1,m2]),.d (.ag [nm,I' 2,I' sz,I' ot]),.d (.ag [I' s.own,I' s.cnt,I' s.time,hD s.hn s.H,qD s.qn s.Q,hD s.bn s.B,cD s.cn s.C,.b s.cl,I' s.val]),.d (.ag [I' w.task,I' w.op,I' w.value,I' w.prio,I' w.case])] [])=some (.val (.d (.b (uk 2 sz ot s w))) []):=by
   intro m1 m2;rw[au afd rfl];simp[Th,hF]
  simp[yg,cQ,hv]
 .have hv:∀m1 m2:D,ev P (.call R6 [.d (.ag [m1,m2]),.d (.ag [nm,I' 4,I' sz,I' ot]),.d (.ag [I' s.own,I' s.cnt,I' s.time,hD s.hn s.H,qD s.qn s.Q,hD s.bn s.B,cD s.cn s.C,.b s.cl,I' s.val]),.d (.ag [I' w.task,I' w.op,I' w.value,I' w.prio,I' w.case])] [])=some (.val (.d (.b (gu 4 sz ot s w))) []):=by
   intro m1 m2;rw[au afg rfl];by_cases ho:ot=0
   .have e:gu 4 sz ot s w=uk 4 sz ot s w:=by simp[gu,ho]
    rw[e];have hb:(ot==0)=true:=by simpa using ho
    subst ho;simp[Nw,hF]
   .have e:gu 4 sz ot s w=oH 4 sz ot s w:=by simp[gu,ho]
    rw[e];have hb:(ot==0)=false:=by simpa using ho
    simp[Nw,hb,hC]
  simp[yg,cQ,hv]
 .have e:gu 5 sz ot s w=decide (sz<=s.Q.length):=rfl
  rw[e];have hv:∀m1 m2:D,ev P (.call R8 [.d (.ag [m1,m2]),.d (.ag [nm,I' 5,I' sz,I' ot]),.d (.ag [I' s.own,I' s.cnt,I' s.time,hD s.hn s.H,qD s.qn s.Q,hD s.bn s.B,cD s.cn s.C,.b s.cl,I' s.val]),.d (.ag [I' w.task,I' w.op,I' w.value,I' w.prio,I' w.case])] [])=some (.val (.d (.b (decide (sz<=s.Q.length)))) []):=by
   intro m1 m2;rw[au afj rfl];simp[Ti]
  simp[yg,cQ,hv]
 .have hv:∀m1 m2:D,ev P (.call Sa [.d (.ag [m1,m2]),.d (.ag [nm,I' 6,I' sz,I' ot]),.d (.ag [I' s.own,I' s.cnt,I' s.time,hD s.hn s.H,qD s.qn s.Q,hD s.bn s.B,cD s.cn s.C,.b s.cl,I' s.val]),.d (.ag [I' w.task,I' w.op,I' w.value,I' w.prio,I' w.case])] [])=some (.val (.d (.b (gu 6 sz ot s w))) []):=by
   intro m1 m2;have hI:=wq (f:=Mo) (first:=[]) (caps:=[.ref [I' w.task,I' w.op,I' w.value,I' w.prio,I' w.case]]) (p:=λx=>x.op==65&&x.task != w.task) s.qn s.Q h.sm.q (by intro a b c d e;exact aoo w.task a b c d e _ _ _ _)
   have hg:(s.Q.any λx=>x.op==65&&x.task != w.task)=uh s.Q 65 w.task:=rfl
   rw[hg]at hI;rw[au afm rfl];by_cases ho:sz=0/\w.op=64
   .have e:gu 6 sz ot s w=uh s.Q 65 w.task:=by simp[gu,ho]
    rw[e];obtain⟨rfl,ho⟩:=ho;generalize uh s.Q 65 w.task=r at *;try simp at hI
    simp[IF,ho,eY];rw[ho]at hI;simp[hI]
   .have e:gu 6 sz ot s w=oH 6 sz ot s w:=by simp[gu,ho]
    rw[e];have hb:(sz==0&&w.op==64)=false:=by simp;omega
    cases hz:sz==0
    .simp[IF,hz,hC]
    .rw[hz,xI]at hb
     simp[IF,hz,hb,hC]
  simp[yg,cQ,hv]
 .have hv:∀m1 m2:D,ev P (.call Sc [.d (.ag [m1,m2]),.d (.ag [nm,I' 7,I' sz,I' ot]),.d (.ag [I' s.own,I' s.cnt,I' s.time,hD s.hn s.H,qD s.qn s.Q,hD s.bn s.B,cD s.cn s.C,.b s.cl,I' s.val]),.d (.ag [I' w.task,I' w.op,I' w.value,I' w.prio,I' w.case])] [])=some (.val (.d (.b (gu 7 sz ot s w))) []):=by
   intro m1 m2;have hI:=Zb (f:=Mp) (first:=[]) (caps:=[.ref [I' s.own,I' s.cnt,I' s.time,hD s.hn s.H,qD s.qn s.Q,hD s.bn s.B,cD s.cn s.C,.b s.cl,I' s.val],.ref [nm,I' 7,I' sz,I' ot]]) (p:=λx=>!iE s.Q x.task 70&&decide (sz<=x.log.length)) s.cn s.C h.sm.c (by intro a b c;exact aoq nm 7 sz ot _ _ _ _ _ _ _ _ s.qn s.Q h.sm.q a b c)
   rw[au afq rfl];by_cases ho:w.op=68
   .have e:gu 7 sz ot s w=J5 sz s:=by simp[gu,ho]
    rw[e];unfold J5;generalize (s.C.any λx=>!iE s.Q x.task 70&&decide (sz<=x.log.length))=r at *
    try simp at hI
    have hb:(w.op != 68)=false:=by simpa using ho
    simp[Nz,hb,eY,hI]
   .have e:gu 7 sz ot s w=oH 7 sz ot s w:=by simp[gu,ho]
    rw[e];have hb:(w.op != 68)=true:=by simpa using ho
    simp[Nz,hb,hC]
  simp[yg,cQ,hv]
 .have e:gu 8 sz ot s w=uk 8 sz ot s w:=rfl
  rw[e];have hv:∀m1 m2:D,ev P (.call Se [.d (.ag [m1,m2]),.d (.ag [nm,I' 8,I' sz,I' ot]),.d (.ag [I' s.own,I' s.cnt,I' s.time,hD s.hn s.H,qD s.qn s.Q,hD s.bn s.B,cD s.cn s.C,.b s.cl,I' s.val]),.d (.ag [I' w.task,I' w.op,I' w.value,I' w.prio,I' w.case])] [])=some (.val (.d (.b (uk 8 sz ot s w))) []):=by
   intro m1 m2;rw[au afv rfl];simp[To,hF]
  simp[yg,cQ,hv]
 .have e:gu 9 sz ot s w=oH 9 sz ot s w:=by simp[gu]
  rw[e];have hv:∀m1 m2:D,ev P (.call Sf [.d (.ag [m1,m2]),.d (.ag [nm,I' 9,I' sz,I' ot]),.d (.ag [I' s.own,I' s.cnt,I' s.time,hD s.hn s.H,qD s.qn s.Q,hD s.bn s.B,cD s.cn s.C,.b s.cl,I' s.val]),.d (.ag [I' w.task,I' w.op,I' w.value,I' w.prio,I' w.case])] [])=some (.val (.d (.b (oH 9 sz ot s w))) []):=by
   intro m1 m2;rw[au afx rfl];simp[Tp,hC]
  simp[yg,cQ,hv]
def nX(k sz ot:Int)(s:S):Bool:=dg k sz ot s==0&&!s.Q.any (gu k sz ot s)
theorem Wh(nm:D)(k sz ot:Int)(s:S)(h:s.fP):
  ev P (.call x7 [.d (.ag [nm,I' k,I' sz,I' ot]),.d (.ag s.row)] [])=some (.val (.d (.b (nX k sz ot s))) []):=by
 rw[au Yp rfl];unfold nX;by_cases hk:k=1\/k=2\/k=4\/k=5\/k=6\/k=7\/k=8\/k=9
 .obtain⟨t,f,g,hkk,Ac⟩:=aoh hk
  have hC:=ZX f g nm k sz ot _ s (aoj hkk nm sz ot s h);have ht:=aoi hkk;have hI:ev P (.call qL [.d (.sl 5 s.qn (s.Q.map W.row)),.d (.fn HD [] [.ref [.kf t (.ag [.fn f [] [],.fn g [] []])],.ref [nm,I' k,I' sz,I' ot],.ref s.row])] [])=some (.val (.d (.b (s.Q.any (gu k sz ot s)))) []):=by
   by_cases hQ:s.Q=[]
   .rw[hQ];exact Zl s.qn _ _ _
   .exact wq (f:=HD) (first:=[]) (caps:=[.ref [.kf t (.ag [.fn f [] [],.fn g [] []])],.ref [nm,I' k,I' sz,I' ot],.ref s.row]) (p:=gu k sz ot s) s.qn s.Q h.sm.q (by intro a b c d e;exact aor hkk nm sz ot s ⟨a,b,c,d,e⟩ h hQ)
  generalize dg k sz ot s=e at *;generalize s.Q.any (gu k sz ot s)=vv at *;simp only[S.row]at hC hI;try simp at hI
  cases he:e==0
  .have he':(e != 0)=true:=by rw[bne,he];rfl
   rcases ht with h |h |h |h |h |h |h |h<;>subst h<;>simp[ER,Ac,cQ,hC,he']
  .have he':(e != 0)=false:=by rw[bne,he];rfl
   rcases ht with h |h |h |h |h |h |h |h<;>subst h<;>simp[ER,Ac,cQ,hC,he',eY,hI]
 .have hU:=N0 hk
  rw[aok hk];simp[ER,hU]
def kJ(s:S)(cnt:Int)(q:D)(any:Bool):List D:=[I' s.own,I' cnt,I' s.time,hD s.hn s.H,q,hD s.bn s.B,cD s.cn s.C,.b s.cl,I' s.val,.b any]
abbrev GA(pk ok:Bool)(wk:D):D:=.ag [I' 0,I' 0,I' 0,.sl 1 true [],.sl 5 true [],.sl 1 true [],.sl 2 true [],.b false,I' 0,.b pk,I' 0,.b ok,wk]
def Rd(x:Option dL)(e:Int)(pk:Bool):Prop:=∃a1 a2 a3 a4 a5 a6 a7 a8 a9 b1 b2 b3:D,x=some (.val (.tu [.d (.ag [a1,a2,a3,a4,a5,a6,a7,a8,a9,.b pk,b1,b2,b3]),.d (I' e)]) [])
theorem Rd.mk'{x:Option dL}{e:Int}{pk:Bool}{a1 a2 a3 a4 a5 a6 a7 a8 a9 b1 b2 b3:D}(h:x=some (.val (.tu [.d (.ag [a1,a2,a3,a4,a5,a6,a7,a8,a9,.b pk,b1,b2,b3]),.d (I' e)]) [])):Rd x e pk:=⟨_,_,_,_,_,_,_,_,_,_,_,_,h⟩
end Go.VS.Sp
