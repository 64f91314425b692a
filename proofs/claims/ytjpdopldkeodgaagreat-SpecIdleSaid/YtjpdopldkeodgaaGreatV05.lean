import Derived.Test.YtjpdopldkeodgaaGreatV04
set_option linter.all false
set_option maxHeartbeats 1000000
namespace Go.VS.Sp
theorem W.neq{w w':W}(h:¬w=w'):(!w.task==w'.task||(!w.op==w'.op||(!w.value==w'.value||(!w.prio==w'.prio||!w.case==w'.case))))=true:=by
 cases hb:(!w.task==w'.task||(!w.op==w'.op||(!w.value==w'.value||(!w.prio==w'.prio||!w.case==w'.case))))
 .exfalso;apply h
  simp at hb;cases w;cases w';simp at hb⊢;exact hb
 .rfl
def K.pl(c:K):K:=⟨c.task,false,c.log⟩
def S.pl(s:S):S:=⟨s.own,s.cnt,s.time,false,s.H,false,s.Q,false,s.B,false,s.C.map K.pl,s.cl,s.val⟩
def S.yl(s:S):Bool:=(decide ((40:Int)<s.H.length)||decide ((40:Int)<s.Q.length)||decide ((120:Int)<s.B.length)||decide ((40:Int)<s.C.length))||s.C.any λc=>decide (120<c.log.length)
theorem afI(s:S)(hn:s.C.length<=1000000):∀(suf pre:List K),s.C=pre++suf ->
  ev P (.loop 0 [1,3] Mu [(1,.d (.ref s.row)),(3,.d (I' pre.length))] []) =
   if(suf.any λc=>decide (120<c.log.length))=true then some (.out .ret [(2,.d (.b true))] [])else some (.out (.exit 0) [] []):=by
 intro suf;induction suf with
 |nil =>
  intro pre hl
  have:s.C.length=pre.length:=by simp[hl]
  rw[bY]
  conv=>lhs;arg 4;unfold Mu
  simp[this]
 |cons w suf ih =>
  intro pre hl;have hg:s.C[pre.length]?=some w:=by simp[hl]
  have hlt:(pre.length:Int)<s.C.length:=by simp[hl];omega
  have hnext:IntKind.i64.wrap ((pre.length:Int)+1)=pre.length+1:=wrap_i64 (by omega) (by omega)
  have bE:=ih (pre++[w]) (by simp[hl])
  rw[List.any_cons];generalize (suf.any λc=>decide (120<c.log.length))=dd at *
  simp at bE;rw[bY]
  conv=>lhs;arg 4;unfold Mu
  by_cases hb:120<w.log.length
  .have hb':(120:Int)<w.log.length:=by omega
   simp[hlt,hg,K.row,hb',hb]
  .have hb':¬(120:Int)<w.log.length:=by omega
   simp[hlt,hg,K.row,hb',hb,hnext];exact bE
theorem Ze(s:S):ev P (.call Q8 [.d (.ag s.row)] [])=some (.val (.d (.b s.yl)) []):=by
 rw[au adq rfl];cases hA:(decide ((40:Int)<s.H.length)||decide ((40:Int)<s.Q.length)||decide ((120:Int)<s.B.length)||decide ((40:Int)<s.C.length))
 .have hlen:s.C.length<=1000000:=by simp at hA;omega
  have hl:=afI s hlen s.C [] rfl;have hS:s.yl=(s.C.any λc=>decide (120<c.log.length)):=by simp only[S.yl,hA,Bool.false_or]
  rw[hS];generalize (s.C.any λc=>decide (120<c.log.length))=dd at *
  simp at hl;cases dd<;>simp at hl<;>simp[Mv,hA,hl]
 .have hS:s.yl=true:=by simp only[S.yl,hA,Bool.true_or]
  rw[hS];simp[Mv,hA]
def cZ(n:Int):Bool:=decide (0<=n)&&decide (n<16)
def ck(n:Int)(b:Bool):Int:=if n=0 then(if b then 0 else 1)else n
theorem zM(nl:Bool):ev P (.call qM [.d (I' 1),.d (qD nl [])] [])=some (.val (.d (I' 0)) []):=by
 exact uW nl []
theorem afJ(nl:Bool):ev P (.call qM [.d (I' 2),.d (qD nl [])] [])=some (.val (.d (I' 0)) []):=by
 have hl:ev P (.loop 0 [0,1,16,17,18] v7 [(0,.d (I' 2)),(1,.d (qD nl [])),(16,.d (qD nl [])),(17,.d (I' 0)),(18,.d (I' 0))] [])=some (.out (.exit 0) [] []):=
  Fy 2 nl [] (by simp) [] [] rfl
 rw[au ND rfl];simp[zG,hl]
theorem afK(H B:List Int)(C:List K):decide ((0:Int)<(H.length:Int)+B.length+C.length)=!(H.isEmpty&&(B.isEmpty&&C.isEmpty)):=by
 cases H<;>cases B<;>cases C<;>simp<;>omega
theorem afL(H:List Int)(C:List K):decide ((0:Int)<(H.length:Int)+C.length)=!(H.isEmpty&&C.isEmpty):=by
 cases H<;>cases C<;>simp<;>omega
theorem NQ{α:Type}(H:List α):decide (0<H.length)=!H.isEmpty:=by
 cases H<;>simp
def bare(own cnt time:Int)(qn:Bool):S:=⟨own,cnt,time,true,[],qn,[],true,[],true,[],false,0⟩
theorem TM(n:Int):ev P (.call HF [.d (I' n)] [])=some (.val (.d (.b (cZ n))) []):=by
 rw[au YF rfl];simp[ME,cZ]
def qR(s:S):Bool:=!(s.own != -1&&!cZ s.own)&&!(s.cnt != 0||s.time != 0||s.val != 0||s.cl||decide ((0:Int)<(s.H.length:Int)+s.B.length+s.C.length))
theorem afM(s:S)(hq:s.Q=[])(hs:s.sm):ev P (.call Lw [.d (.ag s.row)] [])=some (.val (.d (.b (qR s))) []):=by
 obtain⟨own,cnt,time,hn,H,qn,Q,bn,B,cn,C,cl,val⟩:=s;simp only at hq;subst hq;obtain⟨h1,h2,h3,h4,_⟩:=hs;simp only at h1 h2 h4;have hw1:IntKind.i64.wrap ((H.length:Int)+B.length)=H.length+B.length:=wrap_i64 (by omega) (by omega)
 have dV:IntKind.i64.wrap ((H.length:Int)+B.length+C.length)=H.length+B.length+C.length:=wrap_i64 (by omega) (by omega)
 have hl:∀row:List D,ev P (.loop 0 [1,61,62,63] E3 [(1,.d (.ref row)),(61,.d (qD qn [])),(62,.d (I' 0)),(63,.d (I' 0))] [])=some (.out (.exit 0) [] []):=by
  intro row;rw[bY]
  conv=>lhs;arg 4;unfold E3
  simp
 rw[au YE rfl];unfold qR;cases hA:(own != -1&&!cZ own)
 .cases hB:(cnt != 0||time != 0||val != 0||cl||decide ((0:Int)<(H.length:Int)+B.length+C.length))
  .simp[E4,TM,hA,hw1,dV,hB,afJ,hl]
  .simp[E4,TM,hA,hw1,dV,hB]
 .simp[E4,TM,hA]
theorem Zf(nm:D)(k sz ot:Int)(s:S)(hq:s.Q=[])(hs:s.sm):
  ev P (.call oS [.d (.ag [nm,I' k,I' sz,I' ot]),.d (.ag s.row)] [])=some (.val (.d (I' (ck (dM 1 k sz ot) (qR s)))) []):=by
 have hv:=afM s hq hs;rw[au Ys rfl];unfold ck;cases hm:dM 1 k sz ot==0
 .have hm':dM 1 k sz ot≠0:=by simpa using hm
  have hm2:(dM 1 k sz ot != 0)=true:=by simpa using hm'
  simp[EU,NO,hm',hm2,cq]
 .have hm':dM 1 k sz ot=0:=by simpa using hm
  generalize qR s=b at *;simp[EU,NO,hm',gp,hv];cases b<;>simp
def qT(sz:Int)(s:S):Bool:=!(s.own != -1||decide (s.cnt<0)||decide (sz<s.cnt))&&!(s.time != 0||decide ((0:Int)<(s.H.length:Int)+s.B.length+s.C.length)||s.cl||s.val != 0)
theorem Zg(nm:D)(k sz ot:Int)(s:S)(hq:s.Q=[])(hs:s.sm):
  ev P (.call p8 [.d (.ag [nm,I' k,I' sz,I' ot]),.d (.ag s.row)] [])=some (.val (.d (I' (ck (iU k sz ot) (qT sz s)))) []):=by
 obtain⟨own,cnt,time,hn,H,qn,Q,bn,B,cn,C,cl,val⟩:=s;simp only at hq;subst hq;obtain⟨h1,h2,h3,h4,_⟩:=hs;simp only at h1 h2 h4;have hw1:IntKind.i64.wrap ((H.length:Int)+B.length)=H.length+B.length:=wrap_i64 (by omega) (by omega)
 have dV:IntKind.i64.wrap ((H.length:Int)+B.length+C.length)=H.length+B.length+C.length:=wrap_i64 (by omega) (by omega)
 have hl:∀(o row:List D),ev P (.loop 0 [2,3,39,40] EX [(2,.d (.ref o)),(3,.d (.ref row)),(39,.d (I' 0)),(40,.d (I' 0))] [])=some (.out (.exit 0) [(3,.d (.ref row))] []):=by
  intro o row;rw[bY]
  conv=>lhs;arg 4;unfold EX
  simp
 rw[au Yv rfl];unfold ck qT;cases hm:iU k sz ot==0
 .have hm':iU k sz ot≠0:=by simpa using hm
  have hm2:(iU k sz ot != 0)=true:=by simpa using hm'
  simp[uR,uZ,hm',hm2,cq]
 .have hm':iU k sz ot=0:=by simpa using hm
  cases hA:(own != -1||decide (cnt<0)||decide (sz<cnt))
  .cases hB:(time != 0||decide ((0:Int)<(H.length:Int)+B.length+C.length)||cl||val != 0)
   .simp[uR,uZ,hm',grow,hA,hw1,dV,hB,zM,hl]
   .simp[uR,uZ,hm',grow,hA,hw1,dV,hB,zM,hl]
  .simp[uR,uZ,hm',grow,hA]
def okB(s:S):Bool:=!(s.own != -1||decide (s.cnt<0)||decide (1099511627776<s.cnt))&&!(s.time != 0||s.val != 0||s.cl||decide ((0:Int)<(s.H.length:Int)+s.B.length+s.C.length))
theorem afN{k sz ot:Int}(h:iF k sz ot=0):¬sz<=0:=by
 unfold iF at h;split at h
 .simp at h
 .split at h
  .simp at h
  .rename_i h2
   simp at h2;omega
theorem Zh(nm:D)(k sz ot:Int)(s:S)(hq:s.Q=[])(hs:s.sm):
  ev P (.call nJ [.d (.ag [nm,I' k,I' sz,I' ot]),.d (.ag s.row)] [])=some (.val (.d (I' (ck (iF k sz ot) (okB s)))) []):=by
 obtain⟨own,cnt,time,hn,H,qn,Q,bn,B,cn,C,cl,val⟩:=s;simp only at hq;subst hq;obtain⟨h1,h2,h3,h4,_⟩:=hs;simp only at h1 h2 h4;have hw1:IntKind.i64.wrap ((H.length:Int)+B.length)=H.length+B.length:=wrap_i64 (by omega) (by omega)
 have dV:IntKind.i64.wrap ((H.length:Int)+B.length+C.length)=H.length+B.length+C.length:=wrap_i64 (by omega) (by omega)
 have hl:∀(row:List D),ev P (.loop 0 [3,71,72,73] EY [(3,.d (.ref row)),(71,.d (qD qn [])),(72,.d (I' 0)),(73,.d (I' 0))] [])=some (.out (.exit 0) [] []):=by
  intro row;rw[bY]
  conv=>lhs;arg 4;unfold EY
  simp
 rw[au Yx rfl];unfold ck okB;cases hm:iF k sz ot==0
 .have hm':iF k sz ot≠0:=by simpa using hm
  have hm2:(iF k sz ot != 0)=true:=by simpa using hm'
  simp[uS,u5,hm',hm2,cq]
 .have hm':iF k sz ot=0:=by simpa using hm
  have hz:=afN hm';cases hA:(own != -1||decide (cnt<0)||decide (1099511627776<cnt))
  .cases hB:(time != 0||val != 0||cl||decide ((0:Int)<(H.length:Int)+B.length+C.length))
   .simp[uS,u5,hm',hz,gp,hA,hw1,dV,hB,zM,hl]
   .simp[uS,u5,hm',hz,gp,hA,hw1,dV,hB,zM,hl]
  .simp[uS,u5,hm',hz,gp,hA]
theorem Dc(n:Int):ev P (.call EG [.d (I' n)] [])=some (.val (.d (.b (cZ n))) []):=by
 rw[au YI rfl];simp[MH,cZ]
def tT:Option Int->List Int->Bool
 |_,[]=>true
 |p,t::r=>!(!cZ t||p.any λq=>decide (t<=q))&&tT (some t) r
def Dd(s:S):Bool:=(s.own != -1&&(!cZ s.own||decide (0<s.H.length)))||s.cnt != 0||s.time != 0||decide (0<s.B.length)||decide (0<s.C.length)||s.cl||s.val != 0
def okW(s:S):Bool:=!Dd s&&tT none s.H
theorem afO{own cnt time val:Int}{hn qn bn cn cl:Bool}{H B:List Int}{C:List K}(hn1:H.length<=1000000):∀(suf pre:List Int),H=pre++suf ->
  ev P (.loop 0 [1,52,53,54] Be [(1,.d (.ref [I' own,I' cnt,I' time,hD hn H,qD qn [],hD bn B,cD cn C,.b cl,I' val])),(52,.d (hD hn H)),(53,.d (I' H.length)),(54,.d (I' pre.length))] []) =
   if tT pre.getLast? suf=true then some (.out (.exit 0) [(1,.d (.ref [I' own,I' cnt,I' time,hD hn H,qD qn [],hD bn B,cD cn C,.b cl,I' val]))] [])else some (.out .ret [(2,.d (.b false))] []):=by
 intro suf;induction suf with
 |nil =>
  intro pre hl
  have:H.length=pre.length:=by simp[hl]
  rw[bY]
  conv=>lhs;arg 4;unfold Be
  simp[this,tT]
 |cons t suf ih =>
  intro pre hl;have hg:H[pre.length]?=some t:=by simp[hl]
  have hlt:(pre.length:Int)<H.length:=by simp[hl];omega
  have bE:=ih (pre++[t]) (by simp[hl])
  have e1:tT pre.getLast? (t::suf)=(!(!cZ t||pre.getLast?.any λq=>decide (t<=q))&&tT (some t) suf):=rfl
  rw[e1];simp only[Xs,Xt,Option.some_or]at bE;generalize tT (some t) suf=dd at *;simp at bE;rw[bY]
  conv=>lhs;arg 4;unfold Be
  cases h1:cZ t
  .simp[hlt,hg,Dc,h1]
  .rcases AN pre with rfl |⟨pre',p,rfl⟩
   .have iK:0<H.length:=by simp[hl]
    have C9:H[0]=t:=by simp[hl]
    simp[wm]at bE;simp[iK,C9,Dc,h1,wm];exact bE
   .have mH:H[pre'.length]?=some p:=by simp[hl]
    have hlen:((pre'.length:Int)+1<H.length):=by simp[hl];omega
    have hw:IntKind.i64.wrap ((pre'.length:Int)+1 - 1)=pre'.length:=by rw[wrap_i64 (by omega) (by omega)];omega
    have h0:(0:Int)<pre'.length+1:=by omega
    have Da:(0:Int)<=pre'.length+1:=by omega
    have dV:IntKind.i64.wrap (pre'.length:Int)=pre'.length:=wrap_i64 (by omega) (by omega)
    have jV:IntKind.i64.wrap ((pre'.length:Int)+1+1)=pre'.length+1+1:=wrap_i64 (by omega) (by omega)
    simp only[G7,l6,vO]at hg;simp at bE;cases h3:decide (t<=p)
    .simp[hlen,hg,mH,dV,h0,Da,Dc,h1,h3,jV]
     exact bE
    .simp[hlen,hg,mH,dV,h0,Da,Dc,h1,h3]
theorem afP{own cnt time val:Int}{hn qn bn cn cl:Bool}{H B:List Int}{C:List K}:ev P (.call LW [.d (.ag [I' own,I' cnt,I' time,hD hn H,qD qn [],hD bn B,cD cn C,.b cl,I' val])] [])=some (.val (.d (.b true)) []):=by
 have hl:ev P (.loop 0 [1,13,14,15] Fi [(1,.d (.ref [I' own,I' cnt,I' time,hD hn H,qD qn [],hD bn B,cD cn C,.b cl,I' val])),(13,.d (qD qn [])),(14,.d (I' 0)),(15,.d (I' 0))] [])=some (.out (.exit 0) [(1,.d (.ref [I' own,I' cnt,I' time,hD hn H,qD qn [],hD bn B,cD cn C,.b cl,I' val]))] []):=by
  rw[bY]
  conv=>lhs;arg 4;unfold Fi
  simp
 rw[au YY rfl];simp[tQ,zM,hl]
theorem afQ(s:S)(hq:s.Q=[])(hs:s.sm):ev P (.call LA [.d (.ag s.row)] [])=some (.val (.d (.b (okW s))) []):=by
 have hh:=hs.h;have hQ:=afP (own:=s.own) (cnt:=s.cnt) (time:=s.time) (val:=s.val) (hn:=s.hn) (qn:=s.qn) (bn:=s.bn) (cn:=s.cn) (cl:=s.cl) (H:=s.H) (B:=s.B) (C:=s.C);obtain⟨own,cnt,time,hn,H,qn,Q,bn,B,cn,C,cl,val⟩:=s;simp only at hq;subst hq;simp only at hQ hh;have hL:ev P (.loop 0 [1,52,53,54] Be [(1,.d (.ref [I' own,I' cnt,I' time,hD hn H,qD qn [],hD bn B,cD cn C,.b cl,I' val])),(52,.d (hD hn H)),(53,.d (I' H.length)),(54,.d (I' 0))] []) =
   if tT none H=true then some (.out (.exit 0) [(1,.d (.ref [I' own,I' cnt,I' time,hD hn H,qD qn [],hD bn B,cD cn C,.b cl,I' val]))] [])else some (.out .ret [(2,.d (.b false))] []):=afO hh H [] rfl
 unfold okW;simp only;rw[au YH rfl];generalize tT none H=dd at *;unfold Dd;cases hA:((own != -1&&(!cZ own||decide (0<H.length)))||cnt != 0||time != 0||decide (0<B.length)||decide (0<C.length)||cl||val != 0)
 .cases dd
  .simp at hL
   simp[E5,Dc,hA,hL]
  .simp at hL
   simp[E5,Dc,hA,hL,hQ]
 .simp[E5,Dc,hA]
theorem Zi(nm:D)(k sz ot:Int)(s:S)(hq:s.Q=[])(hs:s.sm):
  ev P (.call jB [.d (.ag [nm,I' k,I' sz,I' ot]),.d (.ag s.row)] [])=some (.val (.d (I' (ck (dM 2 k sz ot) (okW s)))) []):=by
 have hv:=afQ s hq hs;rw[au Yu rfl];unfold ck;cases hm:dM 2 k sz ot==0
 .have hm':dM 2 k sz ot≠0:=by simpa using hm
  have hm2:(dM 2 k sz ot != 0)=true:=by simpa using hm'
  simp[EW,NP,hm',hm2,cq]
 .have hm':dM 2 k sz ot=0:=by simpa using hm
  generalize okW s=b at *;simp[EW,NP,hm',gp,hv];cases b<;>simp
def qU(sz:Int)(s:S):Bool:=!(s.own != -1||decide (s.cnt<0)||decide (sz<s.cnt)||decide (s.time<0)||decide (1099511627776<s.time))&&!(s.val != 0||s.cl||decide ((0:Int)<(s.H.length:Int)+s.B.length+s.C.length))
theorem Zj(nm:D)(k sz ot:Int)(s:S)(hq:s.Q=[])(hs:s.sm):
  ev P (.call ng [.d (.ag [nm,I' k,I' sz,I' ot]),.d (.ag s.row)] [])=some (.val (.d (I' (ck (jh k sz ot) (qU sz s)))) []):=by
 obtain⟨own,cnt,time,hn,H,qn,Q,bn,B,cn,C,cl,val⟩:=s;simp only at hq;subst hq;obtain⟨h1,h2,h3,h4,_⟩:=hs;simp only at h1 h2 h4;have hw1:IntKind.i64.wrap ((H.length:Int)+B.length)=H.length+B.length:=wrap_i64 (by omega) (by omega)
 have dV:IntKind.i64.wrap ((H.length:Int)+B.length+C.length)=H.length+B.length+C.length:=wrap_i64 (by omega) (by omega)
 have jV:IntKind.i64.wrap ((H.length:Int)+C.length)=H.length+C.length:=wrap_i64 (by omega) (by omega)
 have hl:∀(o row:List D),ev P (.loop 0 [2,3,70,71,72] E0 [(2,.d (.ref o)),(3,.d (.ref row)),(70,.d (qD qn [])),(71,.d (I' 0)),(72,.d (I' 0))] [])=some (.out (.exit 0) [] []):=by
  intro o row;rw[bY]
  conv=>lhs;arg 4;unfold E0
  simp
 rw[au YA rfl];unfold ck qU;cases hm:jh k sz ot==0
 .have hm':jh k sz ot≠0:=by simpa using hm
  have hm2:(jh k sz ot != 0)=true:=by simpa using hm'
  simp[uT,u6,hm',hm2,cq]
 .have hm':jh k sz ot=0:=by simpa using hm
  cases hA:(own != -1||decide (cnt<0)||decide (sz<cnt)||decide (time<0)||decide (1099511627776<time))
  .cases hB:(val != 0||cl||decide ((0:Int)<(H.length:Int)+B.length+C.length))
   .simp[uT,u6,hm',grow,hA,hw1,dV,hB,zM,hl]
   .simp[uT,u6,hm',grow,hA,hw1,dV,hB,zM,hl]
  .simp[uT,u6,hm',grow,hA]
theorem afR{f:Nat}{first caps:List D}{p:Int->Bool}(nl:Bool)(l:List Int)(hn:l.length<=1000000)
  (hp:∀a,ev P (.call f (first.map V.d++[.d (I' a)]++caps.map V.d) [])=some (.val (.d (.b (p a))) [])):
  ∀(suf pre:List Int),l=pre++suf ->
  ev P (.loop 0 [0,1,7,8] Nb [(0,.d (hD nl l)),(1,.d (.fn f first caps)),(7,.d (I' l.length)),(8,.d (I' pre.length))] []) =
   if idx p pre.length suf = -1 then some (.out (.exit 0) [] [])else some (.out .ret [(4,.d (I' (idx p pre.length suf)))] []):=by
 intro suf;induction suf with
 |nil =>
  intro pre hl
  have:l.length=pre.length:=by simp[hl]
  rw[bY]
  conv=>lhs;arg 4;unfold Nb
  simp[this,idx]
 |cons w suf ih =>
  intro pre hl;have hg:l[pre.length]?=some w:=by simp[hl]
  have hlt:(pre.length:Int)<l.length:=by simp[hl];omega
  have hnext:IntKind.i64.wrap ((pre.length:Int)+1)=pre.length+1:=wrap_i64 (by omega) (by omega)
  have bE:=ih (pre++[w]) (by simp[hl])
  simp at bE;have iT:=hp w;simp at iT;rw[bY]
  conv=>lhs;arg 4;unfold Nb
  simp[hlt,hg,iT,oy];cases hw:p w
  .simp[idx,hw,hnext]
   exact bE
  .have:¬(pre.length:Int) = -1:=by omega
   simp[idx,hw,this]
theorem Zk{f:Nat}{first caps:List D}{p:Int->Bool}(nl:Bool)(l:List Int)(hn:l.length<=1000000)
  (hp:∀a,ev P (.call f (first.map V.d++[.d (I' a)]++caps.map V.d) [])=some (.val (.d (.b (p a))) [])):
  ev P (.call RM [.d (hD nl l),.d (.fn f first caps)] [])=some (.val (.d (.b (l.any p))) []):=by
 have hi:ev P (.call RJ [.d (hD nl l),.d (.fn f first caps)] [])=some (.val (.d (I' (idx p 0 l))) []):=by
  rw[au aey rfl];have hl:=afR nl l hn hp l [] rfl;simp at hl;simp[SL,hl];by_cases hc:idx p 0 l = -1<;>simp[hc]
 rw[au aeG rfl];have:=Br (p:=p) (l:=l) (k:=0) (by omega)
 cases ha:l.any p
 .have hc:¬0<=idx p 0 l:=λh=>by rw[this.1 h]at ha;cases ha
  simp[Nf,hi,hc]
 .have hc:0<=idx p 0 l:=this.2 ha
  simp[Nf,hi,hc]
theorem Zl(nl:Bool)(f:Nat)(first caps:List D):ev P (.call qL [.d (qD nl []),.d (.fn f first caps)] [])=some (.val (.d (.b false)) []):=by
 have hL:ev P (.loop 0 [0,1,7,8] v5 [(0,.d (qD nl [])),(1,.d (.fn f first caps)),(7,.d (I' 0)),(8,.d (I' 0))] [])=some (.out (.exit 0) [] []):=by
  rw[bY]
  conv=>lhs;arg 4;unfold v5
  simp
 have hi:ev P (.call x9 [.d (qD nl []),.d (.fn f first caps)] [])=some (.val (.d (I' (-1))) []):=by
  rw[au NC rfl];simp[E2,hL]
 rw[au Tq rfl];simp[HZ,hi]
theorem afS(n:Int):ev P (.call HJ [.d (I' n)] [])=some (.val (.d (.b (num n))) []):=by
 rw[au YO rfl];unfold num;simp[MS]
theorem NR(n:Int):ev P (.call HQ [.d (I' n)] [])=some (.val (.d (.b (!num n))) []):=by
 rw[au aeH rfl];simp[SS,afS]
def wx(sz:Int)(s:S):Bool:=s.own != -1||s.cnt != 0||s.time != 0||s.val != 0||decide ((0:Int)<(s.H.length:Int)+s.C.length)||decide (sz<s.B.length)
def ni(sz:Int)(s:S):Bool:=!wx sz s&&!s.B.any λn=>!num n
theorem afT(o:List D)(ho:o.length=4){own cnt time val:Int}{hn qn bn cn cl:Bool}{H B:List Int}{C:List K}:ev P (.call L2 [.d (.ag o),.d (.ag [I' own,I' cnt,I' time,hD hn H,qD qn [],hD bn B,cD cn C,.b cl,I' val])] [])=some (.val (.d (.b false)) []):=by
 rw[au YZ rfl];simp[Nh,Zl,ho,eY,zL]
theorem afU(nm:D)(k sz ot:Int)(s:S)(hq:s.Q=[])(hs:s.sm):ev P (.call LG [.d (.ag [nm,I' k,I' sz,I' ot]),.d (.ag s.row)] [])=some (.val (.d (.b (ni sz s))) []):=by
 obtain⟨own,cnt,time,hn,H,qn,Q,bn,B,cn,C,cl,val⟩:=s;simp only at hq;subst hq;obtain⟨h1,h2,h3,h4,_⟩:=hs;simp only at h1 h2 h4;have hw1:IntKind.i64.wrap ((H.length:Int)+B.length)=H.length+B.length:=wrap_i64 (by omega) (by omega)
 have dV:IntKind.i64.wrap ((H.length:Int)+B.length+C.length)=H.length+B.length+C.length:=wrap_i64 (by omega) (by omega)
 have jV:IntKind.i64.wrap ((H.length:Int)+C.length)=H.length+C.length:=wrap_i64 (by omega) (by omega)
 have hB:=Zk (f:=HQ) (first:=[]) (caps:=[]) (p:=λn=>!num n) bn B h2 (by intro a;simp[NR])
 have hV:=afT [nm,I' k,I' sz,I' ot] rfl (own:=own) (cnt:=cnt) (time:=time) (val:=val) (hn:=hn) (qn:=qn) (bn:=bn) (cn:=cn) (cl:=cl) (H:=H) (B:=B) (C:=C);have hl:∀o:List D,ev P (.loop 0 [2,3,53,54] Fa [(2,.d (.ref o)),(3,.d (.ref [I' own,I' cnt,I' time,hD hn H,qD qn [],hD bn B,cD cn C,.b cl,I' val])),(53,.d (I' 0)),(54,.d (I' 0))] [])=some (.out (.exit 0) [(2,.d (.ref o)),(3,.d (.ref [I' own,I' cnt,I' time,hD hn H,qD qn [],hD bn B,cD cn C,.b cl,I' val]))] []):=by
  intro o;rw[bY]
  conv=>lhs;arg 4;unfold Fa
  simp
 unfold ni;simp only;rw[au YN rfl];generalize (B.any λn=>!num n)=bb at *
 unfold wx;cases hA:(own != -1||cnt != 0||time != 0||val != 0||decide ((0:Int)<(H.length:Int)+C.length)||decide (sz<B.length))
 .cases bb
  .simp[v8,hA,jV,hB,zM,hl,hV]
  .simp[v8,hA,jV,hB]
 .simp[v8,hA,jV]
theorem TN(nm:D)(k sz ot:Int)(s:S)(hq:s.Q=[])(hs:s.sm):
  ev P (.call gn [.d (.ag [nm,I' k,I' sz,I' ot]),.d (.ag s.row)] [])=some (.val (.d (I' (ck (gM k sz ot) (ni sz s)))) []):=by
 have hv:=afU nm k sz ot s hq hs;rw[au Yz rfl];unfold ck;cases hm:gM k sz ot==0
 .have hm':gM k sz ot≠0:=by simpa using hm
  have hm2:(gM k sz ot != 0)=true:=by simpa using hm'
  simp[EZ,FA,hm',hm2,cq]
 .have hm':gM k sz ot=0:=by simpa using hm
  generalize ni sz s=b at *;cases b<;>simp[EZ,FA,hm',gp,hv]
def u7(s:S):Bool:=s.own == -1&&s.cnt==0&&s.time==0&&s.H.isEmpty&&s.B.isEmpty&&s.C.isEmpty
def okF(s:S):Bool:=u7 s&&num s.val&&(s.cl||s.val==0)
theorem Zm{α:Type}(l:List α):((l.length:Int)==0)=l.isEmpty:=by
 cases l<;>simp;omega
theorem afV{own cnt time val:Int}{hn qn bn cn cl:Bool}{H B:List Int}{C:List K}:ev P (.call L9 [.d (.ag [I' own,I' cnt,I' time,hD hn H,qD qn [],hD bn B,cD cn C,.b cl,I' val])] [])=some (.val (.d (.b (u7 ⟨own,cnt,time,hn,H,qn,[],bn,B,cn,C,cl,val⟩))) []):=by
 rw[au Y2 rfl];unfold u7;simp[Nl,Zm]
theorem De(n:Int):ev P (.call LP [.d (I' n)] [])=some (.val (.d (.b (num n))) []):=by
 rw[au aeo rfl];unfold num;simp[SG]
theorem afW{own cnt time val:Int}{hn qn bn cn cl:Bool}{H B:List Int}{C:List K}:ev P (.call Ma [.d (.ag [I' own,I' cnt,I' time,hD hn H,qD qn [],hD bn B,cD cn C,.b cl,I' val])] [])=some (.val (.d (.b true)) []):=by
 have hl:ev P (.loop 0 [1,9,10,11] Fk [(1,.d (.ref [I' own,I' cnt,I' time,hD hn H,qD qn [],hD bn B,cD cn C,.b cl,I' val])),(9,.d (qD qn [])),(10,.d (I' 0)),(11,.d (I' 0))] [])=some (.out (.exit 0) [(1,.d (.ref [I' own,I' cnt,I' time,hD hn H,qD qn [],hD bn B,cD cn C,.b cl,I' val]))] []):=by
  rw[bY]
  conv=>lhs;arg 4;unfold Fk
  simp
 rw[au Y3 rfl];simp[Iw,zM,hl]
theorem afX(s:S)(hq:s.Q=[]):ev P (.call LO [.d (.ag s.row)] [])=some (.val (.d (.b (okF s))) []):=by
 obtain⟨own,cnt,time,hn,H,qn,Q,bn,B,cn,C,cl,val⟩:=s;simp only at hq;subst hq;have hP:=afV (own:=own) (cnt:=cnt) (time:=time) (val:=val) (hn:=hn) (qn:=qn) (bn:=bn) (cn:=cn) (cl:=cl) (H:=H) (B:=B) (C:=C);have hQ:=afW (own:=own) (cnt:=cnt) (time:=time) (val:=val) (hn:=hn) (qn:=qn) (bn:=bn) (cn:=cn) (cl:=cl) (H:=H) (B:=B) (C:=C);unfold okF;simp only;generalize u7 ⟨own,cnt,time,hn,H,qn,[],bn,B,cn,C,cl,val⟩=pl at *;rw[au YU rfl];cases pl
 .simp[zH,hP]
 .cases hv:num val
  .simp[zH,hP,De,hv]
  .cases cl<;>simp[zH,hP,De,hv,hQ]
theorem Zn(nm:D)(k sz ot:Int)(s:S)(hq:s.Q=[]):
  ev P (.call oU [.d (.ag [nm,I' k,I' sz,I' ot]),.d (.ag s.row)] [])=some (.val (.d (I' (ck (dM 9 k sz ot) (okF s)))) []):=by
 have hv:=afX s hq;rw[au YC rfl];unfold ck;cases hm:dM 9 k sz ot==0
 .have hm':dM 9 k sz ot≠0:=by simpa using hm
  have hm2:(dM 9 k sz ot != 0)=true:=by simpa using hm'
  simp[E1,Fz,hm',hm2,cq]
 .have hm':dM 9 k sz ot=0:=by simpa using hm
  generalize okF s=b at *;cases b<;>simp[E1,Fz,hm',gp,hv]
theorem IT(n:Int):ev P (.call Bd [.d (I' n)] [])=some (.val (.d (.b false)) []):=by
 rw[au TG rfl];simp[IB]
theorem TO(n:Int):ev P (.call CT [.d (I' n)] [])=some (.val (.d (.b false)) []):=by
 rw[au Y6 rfl];simp[Ns]
theorem IU(a b:Int):ev P (.call HW [.d (I' a),.d (I' b)] [])=some (.val (.d (.b (decide (a<b)))) []):=by
 rw[au Y5 rfl];by_cases h:a<b<;>simp[Nr,IT,h]
def iL(l:List Int):Prop:=l.Pairwise (·<=·)
def bI(t:Int)(l:List Int):Nat:=(l.takeWhile λx=>decide (x<t)).length
theorem tU(t:Int):∀(l:List Int),bI t l<=l.length
 | []=>by simp[bI]
 |w::q=>by
  have:=tU t q;unfold bI at *;simp only[oL];split<;>simp;omega
theorem FB{t x:Int}:∀{l:List Int}{k:Nat},iL l->l[k]?=some x->(k<bI t l↔x<t)
 | [],k,_,h=>by simp at h
 |a::q,0,_,h=>by
  have:a=x:=by simpa using h
  subst this;by_cases hp:a<t<;>simp[bI,oL,hp]
 |a::q,k+1,hd,h=>by
  have hd':=gE.1 hd;have hq:q[k]?=some x:=by simpa using h
  have hw:x∈q:=lE hq;have h1:=hd'.1 x hw;have ih:=FB (t:=t) (k:=k) hd'.2 hq;by_cases hp:a<t
  .have:bI t (a::q)=bI t q+1:=by simp[bI,oL,hp]
   rw[this,<-ih];omega
  .have:bI t (a::q)=0:=by simp[bI,oL,hp]
   rw[this];constructor<;>intro h3<;>omega
theorem FC{i j:Nat}(h:i+j<=4000000):IntKind.i64.wrap ((IntKind.u64.wrap ((i:Int)+j)).fdiv (2 ^ min 1 IntKind.u64.bits))=(((i+j) / 2:Nat):Int):=by
 have h1:IntKind.u64.wrap ((i:Int)+j)=(i:Int)+j:=by
  have e0:IntKind.u64.bits=64:=rfl;simp only[IntKind.wrap,e0,IntKind.signed,AM,fG,dK];omega
 have h2:(2:Int) ^ min 1 IntKind.u64.bits=2:=by decide
 rw[h1,h2,Qd _ (by omega),wrap_i64 (by omega) (by omega)]
 omega
theorem TP(nl:Bool)(l:List Int)(t:Int)(hn:l.length<=1000000)(hA:iL l):∀(n i j:Nat),j - i<=n->i<=bI t l->bI t l<=j->j<=l.length ->
  ev P (.loop 0 [0,1,6,7,8] Iy [(0,.d (hD nl l)),(1,.d (I' t)),(6,.d (I' l.length)),(7,.d (I' i)),(8,.d (I' j))] []) =
   some (.out (.exit 0) [(0,.d (hD nl l)),(1,.d (I' t)),(6,.d (I' l.length)),(7,.d (I' (bI t l)))] []):=by
 intro n;induction n with
 |zero =>
  intro i j h1 h2 h3 h4;have e1:i=bI t l:=by omega
  have e2:j=bI t l:=by omega
  rw[bY]
  conv=>lhs;arg 4;unfold Iy
  simp[e1,e2]
 |succ n ih =>
  intro i j h1 h2 h3 h4;by_cases hij:i=j
  .have e1:i=bI t l:=by omega
   have e2:j=bI t l:=by omega
   rw[bY]
   conv=>lhs;arg 4;unfold Iy
   simp[e1,e2]
  .have hlt:i<j:=by omega
   have hw1:IntKind.i64.wrap ((i:Int)+j)=i+j:=wrap_i64 (by omega) (by omega)
   have hm:=FC (i:=i) (j:=j) (by omega)
   generalize zO:(i+j) / 2=m at hm;have hm1:i<=m:=by omega
   have hm2:m<j:=by omega
   have hml:m<l.length:=by omega
   obtain⟨x,hx⟩:∃x,l[m]?=some x:=⟨l[m]'(by omega),by simp⟩
   have hb:=FB (t:=t) hA hx;have mj:l[m]=x:=by rw[qE hml]at hx;exact za hx
   have Df:IntKind.i64.wrap ((m:Int)+1)=m+1:=wrap_i64 (by omega) (by omega)
   have Bs:(m:Int)<l.length:=by omega
   rw[bY]
   conv=>lhs;arg 4;unfold Iy
   by_cases hp:x<t
   .have bE:=ih (m+1) j (by omega) (by omega) (by omega) h4
    simp at bE;simp[hlt,hw1,hm,Df,hml,Bs,hx,mj,IU,hp];exact bE
   .have bE:=ih i m (by omega) (by omega) (by omega) (by omega)
    simp[hlt,hw1,hm,hml,Bs,hx,mj,IU,hp];exact bE
theorem TQ(nl:Bool)(l:List Int)(t:Int)(hn:l.length<=1000000)(hA:iL l):
  ev P (.call RW [.d (hD nl l),.d (I' t)] [])=some (.val (.tu [.d (I' (bI t l)),.d (.b (decide (l[bI t l]?=some t)))]) []):=by
 have hb:=tU t l;have hl:=TP nl l t hn hA l.length 0 l.length (by omega) (by omega) hb (by omega)
 simp at hl;by_cases h:bI t l<l.length
 .obtain⟨x,hx⟩:∃x,l[bI t l]?=some x:=⟨l[bI t l],by simp⟩
  have h2:(bI t l:Int)<l.length:=by omega
  rw[hx];generalize bI t l=B at *;have mj:l[B]=x:=by rw[qE h]at hx;exact za hx
  by_cases ym:x=t
  .subst ym
   rw[au TC rfl];simp[Iz,hl,h,h2,mj]
  .have TS:(x==t)=false:=by simpa using ym
   rw[au TC rfl];simp[Iz,hl,h,h2,mj,TO,TS,ym]
 .have h2:¬(bI t l:Int)<l.length:=by omega
  have h3:l[bI t l]?=none:=by simp;omega
  rw[h3];rw[au TC rfl];simp[Iz,hl,h,h2]
structure Cl where
 task:Int
 op:Int
 value:Int
 prio:Int
 now:Int
def Cl.row(c:Cl):List D:=[I' c.task,I' c.op,I' c.value,I' c.prio,I' c.now]
abbrev R4:=S×Int×Bool×Int
def er(s:S)(e:Int):R4:=(s,0,false,e)
def gd(s:S):R4:=(s,0,true,0)
def eM(s:S)(c:Cl):R4 :=
 if c.op==52 then(if s.own==c.task then gd {s with own:=-1}else er s 20)
 else if s.own == -1 then gd {s with own:=c.task}
 else if c.op==51 then er s 0
 else if s.own==c.task then er s 17 else er s 29
def eZ(t:Int)(l:List Int):List Int:=l.take (bI t l)++t::l.drop (bI t l)
def eW(s:S)(c:Cl):R4 :=
 if c.op==54 then(if decide (c.task∈s.H)then gd {s with H:=s.H.filter (λx=>x != c.task)}else er s 20)
 else if c.op==56 then(if s.own==c.task then gd {s with own:=-1}else er s 20)
 else if(decide (c.task∈s.H)||s.own==c.task)then er s 17
 else if(!(s.own == -1)||(c.op==55&&decide (0<s.H.length)))then er s 29
 else if c.op==55 then gd {s with own:=c.task}else gd {s with H:=eZ c.task s.H}
def eS(sz:Int)(s:S)(c:Cl):R4 :=
 if c.op==62 then(if decide (sz<s.cnt+c.value)then er s 17 else gd {s with cnt:=s.cnt+c.value})
 else if decide (c.value<=s.cnt)then gd {s with cnt:=s.cnt - c.value}
 else if c.op==61 then er s 0 else er s 29
def eB(sz:Int)(s:S):R4 :=
 if s.val+1==sz then(if s.cnt==1099511627776 then er {s with val:=s.val+1} 4 else({s with val:=0,cnt:=s.cnt+1},s.val,true,0))
 else({s with val:=s.val+1},s.val,true,0)
def eC(rm:Int)(s:S)(c:Cl):R4 :=
 if c.op==64 then(if s.cl then er s 0 else if decide (rm<=s.B.length)then er s 29 else gd {s with B:=s.B++[c.value]})
 else if c.op==65 then match s.B with
  |b::r=>({s with B:=r},b,true,0)
  | []=>if s.cl then er s 0 else er s 29
 else(if s.cl then er s 17 else gd {s with cl:=true})
def qW(s:S):List Int:=s.C.map K.task
def bK(s:S)(t:Int):Nat:=bI t (qW s)
def mJ(s:S)(t:Int):Bool:=decide ((qW s)[bK s t]?=some t)
def eT(rm:Int)(s:S)(c:Cl):R4 :=
 if c.op==69 then(if mJ s c.task then er s 6 else gd {s with C:=s.C.take (bK s c.task)++⟨c.task,false,[]⟩::s.C.drop (bK s c.task)})
 else if c.op==71 then(if mJ s c.task then gd {s with C:=s.C.take (bK s c.task)++s.C.drop (bK s c.task+1)}else er s 20)
 else if c.op==70 then(if mJ s c.task then
  (match s.C[bK s c.task]? with
   |some ⟨_,_,b::r⟩=>({s with C:=s.C.set (bK s c.task) ⟨c.task,false,r⟩},b,true,0)
   |_=>er s 29)else er s 20)
 else(if(s.C.any λx=>decide (rm<=x.log.length))then er s 29 else gd {s with C:=s.C.map λx=>⟨x.task,false,x.log++[c.value]⟩})
def mK(sz ot now:Int)(s:S):S :=
 if decide (sz<=s.cnt+(now - s.time) / ot)then{s with cnt:=sz,time:=now}else{s with cnt:=s.cnt+(now - s.time) / ot,time:=s.time+(now - s.time) / ot*ot}
def eL(sz ot:Int)(s:S)(c:Cl):R4 :=
 if decide (c.now<s.time)then er s 2 else
 if c.op==72 then(if decide ((mK sz ot c.now s).cnt<c.value)then er (mK sz ot c.now s) 29 else gd {mK sz ot c.now s with cnt:=(mK sz ot c.now s).cnt - c.value})
 else gd (mK sz ot c.now s)
def eF(s:S)(c:Cl):R4 :=
 if c.op==74 then(if s.cl then(s,s.val,true,0)else er s 29)
 else if s.cl then er s 17 else gd {s with cl:=true,val:=c.value}
def dc(sz:Int):Int:=if sz > 1 then sz else 1
def raw(k sz ot:Int)(s:S)(c:Cl):R4 :=
 if k=1 then eM s c else if k=2 then eW s c else if k=4 then eS sz s c else if k=5 then eB sz s else if k=6 then eC (dc sz) s c
 else if k=7 then eT (dc sz) s c else if k=8 then eL sz ot s c else eF s c
def gq(k sz ot:Int):Int :=
 if k=1 then dM 1 k sz ot else if k=2 then dM 2 k sz ot else if k=4 then iU k sz ot else if k=5 then iF k sz ot else if k=6 then gM k sz ot
 else if k=7 then dN k sz ot else if k=8 then jh k sz ot else if k=9 then dM 9 k sz ot else 8
def gS(k sz ot:Int)(s:S):Int :=
 if k=1 then ck (dM 1 k sz ot) (qR s)else if k=2 then ck (dM 2 k sz ot) (okW s)else if k=4 then ck (iU k sz ot) (qT sz s)else if k=5 then ck (iF k sz ot) (okB s)else if k=6 then ck (gM k sz ot) (ni sz s)
 else if k=7 then dX k sz ot s else if k=8 then ck (jh k sz ot) (qU sz s)else if k=9 then ck (dM 9 k sz ot) (okF s)else 8
def jq(k sz:Int):Int:=if k=6\/k=7 then dc sz else sz
def iG(k:Int)(s:S):S:=if k=5 then{s with val:=0}else s
def cY(k sz ot:Int)(s:S):Bool :=
 gq k sz ot==0&&s.Q.isEmpty&&!(k==5&&(decide (s.val<0)||decide (sz<=s.val)))&&gS k (jq k sz) ot (iG k s)==0
def cM(c:Cl):Bool:=decide (c.task<0)||decide (16<=c.task)||decide (c.prio<0)||decide (9<c.prio)||decide (c.now<0)||decide (1099511627776<c.now)
def dJ(k op:Int):Bool :=
 if k=1 then decide (50<=op)&&decide (op<=52)else if k=2 then decide (53<=op)&&decide (op<=56)else if k=4 then decide (60<=op)&&decide (op<=62)else if k=5 then op==63
 else if k=6 then decide (64<=op)&&decide (op<=66)else if k=7 then decide (68<=op)&&decide (op<=71)else if k=8 then op==72||op==75 else op==73||op==74
def fit(k sz:Int)(c:Cl):Bool :=
 if k=4\/c.op=72 then decide (1<=c.value)&&decide (c.value<=sz)else if c.op=64\/c.op=68\/c.op=73 then num c.value else true
def zN:S:=⟨0,0,0,true,[],true,[],true,[],true,[],false,0⟩
def zS:S:=zN.pl
def eE(k sz ot:Int)(s:S)(c:Cl):R4 :=
 if cY k sz ot s=false then er zS 1 else if cM c=true then er zS 2 else if dJ k c.op=false then er zS 8 else if fit k sz c=false then er zS 2
 else if(raw k sz ot s c).2.2.2=0 then raw k sz ot s c else er zS (raw k sz ot s c).2.2.2
structure S.wf(s:S):Prop where
 h:s.hn=true->s.H=[]
 b:s.bn=true->s.B=[]
 c:s.cn=true->s.C=[]
 k:∀c∈s.C,c.nl=true->c.log=[]
def Rel(R:Option dL)(r:R4):Prop :=
 ∃s:S,R=some (.val (.tu [.d (.ag s.row),.d (I' r.2.1),.d (.b r.2.2.1),.d (I' r.2.2.2)]) [])/\s.pl=r.1/\s.wf
theorem Rel.mk'{R:Option dL}(s:S){n:Int}{b:Bool}{e:Int}{r:R4}(h:R=some (.val (.tu [.d (.ag s.row),.d (I' n),.d (.b b),.d (I' e)]) []))(hp:r=(s.pl,n,b,e))(hw:s.wf):Rel R r:=by
 subst hp;exact⟨s,h,rfl,hw⟩
theorem Rel.er{R:Option dL}(s:S)(e:Int){r:R4}(h:R=some (.val (.tu [.d (.ag s.row),.d (I' 0),.d (.b false),.d (I' e)]) []))(hp:r=er s.pl e)(hw:s.wf):Rel R r:=Rel.mk' s h hp hw
theorem Rel.gd{R:Option dL}(s:S){r:R4}(h:R=some (.val (.tu [.d (.ag s.row),.d (I' 0),.d (.b true),.d (I' 0)]) []))(hp:r=gd s.pl)(hw:s.wf):Rel R r:=Rel.mk' s h hp hw
theorem Rel.vl{R:Option dL}(s:S)(n:Int){r:R4}(h:R=some (.val (.tu [.d (.ag s.row),.d (I' n),.d (.b true),.d (I' 0)]) []))(hp:r=(s.pl,n,true,0))(hw:s.wf):Rel R r:=Rel.mk' s h hp hw
def gH(l:List Int):Prop:=l.Pairwise (·<·)
theorem gH.qX{l:List Int}(h:gH l):iL l:=List.Pairwise.imp (λh=>by omega) h
theorem TT(t a:Int)(q:List Int):bI t (a::q)=if a<t then bI t q+1 else 0:=by
 by_cases hp:a<t<;>simp[bI,oL,hp]
theorem IV{t:Int}:∀{l:List Int},gH l->(l[bI t l]?=some t↔t∈l)
 | [],_=>by simp
 |a::q,h=>by
  have h':=gE.1 h;rw[TT];by_cases hp:a<t
  .rw[aN hp]
   have ih:=IV (t:=t) h'.2;rw[Xv,ih,dD];constructor
   .intro e;exact .inr e
   .rintro(e |e)
    .omega
    .exact e
  .rw[aG hp,List.getElem?_cons_zero,dD]
   constructor
   .intro e;left;exact(za e).symm
   .rintro(e |e)
    .rw[e]
    .have:=h'.1 t e;omega
theorem Zo{t:Int}:∀{l:List Int},gH l->t∈l->l.filter (λx=>x != t)=l.take (bI t l)++l.drop (bI t l+1)
 | [],_,hm=>by simp at hm
 |a::q,h,hm=>by
  have h':=gE.1 h;rw[TT];by_cases hp:a<t
  .rw[aN hp]
   have hq:t∈q:=by
    rcases dD.1 hm with e |e
    .omega
    .exact e
   have hne:a≠t:=by omega
   have ih:=Zo h'.2 hq;simp[hne,ih]
  .rw[aG hp]
   have ha:a=t:=by
    rcases dD.1 hm with e |e
    .exact e.symm
    .have:=h'.1 t e;omega
   subst ha
   have:q.filter (λx=>x != a)=q:=by
    rw[Qe];intro x hx;have:=h'.1 x hx;simp;omega
   simp[this]
theorem afY(t a:Int)(q:List Int):eZ t (a::q)=if a<t then a::eZ t q else t::a::q:=by
 unfold eZ;rw[TT];by_cases hp:a<t<;>simp[hp]
theorem Zp{t x:Int}{l:List Int}:x∈eZ t l↔x=t\/x∈l:=by
 have e:l=l.take (bI t l)++l.drop (bI t l):=(AO _ _).symm;have e2:x∈l↔x∈l.take (bI t l)\/x∈l.drop (bI t l):=by
  rw[<-List.mem_append,AO]
 rw[e2];unfold eZ;rw[dm,dD];constructor
 .rintro(h |h |h)
  .exact .inr (.inl h)
  .exact .inl h
  .exact .inr (.inr h)
 .rintro(h |h |h)
  .exact .inr (.inl h)
  .exact .inl h
  .exact .inr (.inr h)
theorem TU{t:Int}:∀{l:List Int},gH l->t∉l->gH (eZ t l)
 | [],_,_=>by simp[eZ,gH,bI]
 |a::q,h,hm=>by
  have h':=gE.1 h;have hm':¬t=a/\t∉q:=by simpa using hm
  rw[afY];by_cases hp:a<t
  .rw[aN hp]
   refine gE.2 ⟨?_,TU h'.2 hm'.2⟩;intro x hx;rcases Zp.1 hx with e |e
   .omega
   .exact h'.1 x e
  .rw[aG hp]
   refine gE.2 ⟨?_,h⟩;intro x hx;rcases dD.1 hx with e |e
   .omega
   .have:=h'.1 x e;omega
theorem NS:∀(l:List Int)(p:Option Int),tT p l=true↔((∀q,p=some q->∀x∈l,q<x)/\gH l/\∀x∈l,cZ x=true)
 | [],p=>by simp[tT,gH]
 |t::r,p=>by
  have ih:=NS r (some t);unfold tT;rw[bD,ih];constructor
  .rintro⟨h1,h2,h3,h4⟩
   have h2':=h2 t rfl;simp only[iZ,xL,Qf]at h1;refine⟨?_,gE.2 ⟨h2',h3⟩,?_⟩
   .intro q hq x hx
    subst hq;have h5:q<t:=by have:=h1.2;simp at this;exact this
    rcases dD.1 hx with e |e
    .omega
    .have:=h2' x e;omega
   .intro x hx
    rcases dD.1 hx with e |e
    .rw[e];exact h1.1
    .exact h4 x e
  .rintro⟨h1,h2,h3⟩
   have h2':=gE.1 h2;refine⟨?_,?_,h2'.2,λx hx=>h3 x (zb _ hx)⟩
   .have e1:=h3 t (by simp)
    cases p with
    |none=>simp[e1]
    |some q=>have:=h1 q rfl t (by simp);simp[e1];exact this
   .intro q hq x hx
    have:t=q:=za hq
    subst this;exact h2'.1 x hx
theorem NT(sz:Int):∀(C:List K)(p:Option K),vc sz p C=true↔((∀q,p=some q->∀x∈C,q.task<x.task)/\gH (C.map K.task)/\∀x∈C,cZ x.task=true/\¬sz<x.log.length/\x.log.all num=true)
 | [],p=>by simp[vc,gH]
 |t::r,p=>by
  have ih:=NT sz r (some t);unfold vc;rw[bD,bD,ih];constructor
  .rintro⟨h1,h0,h2,h3,h4⟩
   have h2':=h2 t rfl;simp only[lR,iZ,xL]at h1;obtain⟨⟨⟨k1,k2⟩,k3⟩,k4⟩:=h1;refine⟨?_,gE.2 ⟨?_,h3⟩,?_⟩
   .intro q hq x hx
    subst hq;have h5:q.task<t.task:=by simp at k3;exact k3
    rcases dD.1 hx with e |e
    .rw[e];exact h5
    .have:=h2' x e;omega
   .intro x hx
    obtain⟨y,hy,rfl⟩:=gY.1 hx;exact h2' y hy
   .intro x hx
    rcases dD.1 hx with e |e
    .subst e
     refine⟨?_,by simpa using k4,h0⟩
     simp at k1 k2;simp[cZ];omega
    .exact h4 x e
  .rintro⟨h1,h2,h3⟩
   have h2':=gE.1 h2;obtain⟨e1,e2,e3⟩:=h3 t (by simp)
   refine⟨?_,e3,?_,h2'.2,λx hx=>h3 x (zb _ hx)⟩
   .simp[cZ]at e1
    have e4:p.any (λp=>decide (t.task<=p.task))=false:=by
     cases p with
     |none=>rfl
     |some q=>have:=h1 q rfl t (by simp);simp;exact this
    simp only[lR,e4,iZ,xL];simp;omega
   .intro q hq x hx
    have:t=q:=za hq
    subst this;exact h2'.1 _ (Qg hx)
theorem afZ(o:List D)(ho:o.length=4)(x y:D)(s:S)(hw:s.wf)(c:Cl)(hv:s.own = -1\/0<=s.own):
  Rel (ev P (.call Mj [.d (.ag [x,y]),.d (.ag o),.d (.ag s.row),.d (.ag c.row)] [])) (eM s.pl c):=by
 have e:decide (s.own<0)=(s.own == -1):=by rw[y9];simp;omega
 rw[au ae8 rfl];cases h1:c.op==52
 .cases h2:s.own == -1
  .cases h3:c.op==51
   .cases h4:s.own==c.task
    .exact Rel.er s 29 (by simp[Bo,ho,Cl.row,h1,e,h2,h3,h4]) (by simp[eM,S.pl,h1,h2,h3,h4]) ⟨hw.h,hw.b,hw.c,hw.k⟩
    .exact Rel.er s 17 (by simp[Bo,ho,Cl.row,h1,e,h2,h3,h4]) (by simp[eM,S.pl,h1,h2,h3,h4]) ⟨hw.h,hw.b,hw.c,hw.k⟩
   .exact Rel.er s 0 (by simp[Bo,ho,Cl.row,h1,e,h2,h3]) (by simp[eM,S.pl,h1,h2,h3]) ⟨hw.h,hw.b,hw.c,hw.k⟩
  .exact Rel.gd {s with own:=c.task} (by simp[Bo,ho,Cl.row,h1,e,h2]) (by simp[eM,S.pl,h1,h2]) ⟨hw.h,hw.b,hw.c,hw.k⟩
 .cases h2:s.own==c.task
  .have h2':(s.own != c.task)=true:=by simp[bne,h2]
   exact Rel.er s 20 (by simp[Bo,ho,Cl.row,h1,h2']) (by simp[eM,S.pl,h1,h2]) ⟨hw.h,hw.b,hw.c,hw.k⟩
  .have h2':(s.own != c.task)=false:=by simp[bne,h2]
   exact Rel.gd {s with own:=-1} (by simp[Bo,ho,Cl.row,h1,h2']) (by simp[eM,S.pl,h1,h2]) ⟨hw.h,hw.b,hw.c,hw.k⟩
theorem af0(x y:D)(nm:D)(k sz ot:Int)(s:S)(hw:s.wf)(c:Cl)(hz:sz<=100)(hv:0<=s.cnt/\s.cnt<=sz)(hc:1<=c.value/\c.value<=sz):
  Rel (ev P (.call Ml [.d (.ag [x,y]),.d (.ag [nm,I' k,I' sz,I' ot]),.d (.ag s.row),.d (.ag c.row)] [])) (eS sz s.pl c):=by
 have w1:IntKind.i64.wrap (s.cnt+c.value)=s.cnt+c.value:=wrap_i64 (by omega) (by omega)
 have w2:IntKind.i64.wrap (s.cnt - c.value)=s.cnt - c.value:=wrap_i64 (by omega) (by omega)
 rw[au aff rfl];cases h1:c.op==62
 .cases h2:decide (c.value<=s.cnt)
  .cases h3:c.op==61
   .exact Rel.er s 29 (by simp[C7,Cl.row,h1,h2,h3,w1,w2]) (by have p2:=h2;simp only[gf,kM]at p2;simp[eS,S.pl,h1,p2,h3]) ⟨hw.h,hw.b,hw.c,hw.k⟩
   .exact Rel.er s 0 (by simp[C7,Cl.row,h1,h2,h3,w1,w2]) (by have p2:=h2;simp only[gf,kM]at p2;simp[eS,S.pl,h1,p2,h3]) ⟨hw.h,hw.b,hw.c,hw.k⟩
  .exact Rel.gd {s with cnt:=s.cnt - c.value} (by simp[C7,Cl.row,h1,h2,w1,w2]) (by have p2:=h2;simp only[gf,kM]at p2;simp[eS,S.pl,h1,p2]) ⟨hw.h,hw.b,hw.c,hw.k⟩
 .cases h2:decide (sz<s.cnt+c.value)
  .exact Rel.gd {s with cnt:=s.cnt+c.value} (by simp[C7,Cl.row,h1,h2,w1,w2]) (by have p2:=h2;simp only[gf,kM]at p2;simp[eS,S.pl,h1,p2]) ⟨hw.h,hw.b,hw.c,hw.k⟩
  .exact Rel.er s 17 (by simp[C7,Cl.row,h1,h2,w1,w2]) (by have p2:=h2;simp only[gf,kM]at p2;simp[eS,S.pl,h1,p2]) ⟨hw.h,hw.b,hw.c,hw.k⟩
theorem af1(c:List D)(hc:c.length=5)(x y:D)(nm:D)(k sz ot:Int)(s:S)(hw:s.wf)(hz:sz<=100)(hv:0<=s.val/\s.val<sz)(hn:0<=s.cnt/\s.cnt<=1099511627776):
  Rel (ev P (.call Mm [.d (.ag [x,y]),.d (.ag [nm,I' k,I' sz,I' ot]),.d (.ag s.row),.d (.ag c)] [])) (eB sz s.pl):=by
 have w1:IntKind.i64.wrap (s.val+1)=s.val+1:=wrap_i64 (by omega) (by omega)
 have w2:IntKind.i64.wrap (s.cnt+1)=s.cnt+1:=wrap_i64 (by omega) (by omega)
 rw[au afi rfl];cases h1:s.val+1==sz
 .exact Rel.vl {s with val:=s.val+1} s.val (by simp[IE,hc,h1,w1,w2]) (by simp[eB,S.pl,h1]) ⟨hw.h,hw.b,hw.c,hw.k⟩
 .cases h2:s.cnt==1099511627776
  .exact Rel.vl {s with val:=0,cnt:=s.cnt+1} s.val (by simp[IE,hc,h1,h2,w1,w2]) (by simp[eB,S.pl,h1,h2]) ⟨hw.h,hw.b,hw.c,hw.k⟩
  .exact Rel.er {s with val:=s.val+1} 4 (by simp[IE,hc,h1,h2,w1,w2]) (by simp[eB,S.pl,h1,h2]) ⟨hw.h,hw.b,hw.c,hw.k⟩
theorem af2(o:List D)(ho:o.length=4)(x y:D)(s:S)(hw:s.wf)(c:Cl)(hb:c.op=73\/c.op=74):
  Rel (ev P (.call Ms [.d (.ag [x,y]),.d (.ag o),.d (.ag s.row),.d (.ag c.row)] [])) (eF s.pl c):=by
 have e:(c.op==73)=!(c.op==74):=by rcases hb with h |h<;>simp[h]
 rw[au afw rfl];cases h1:c.op==74
 .cases h2:s.cl
  .exact Rel.gd {s with cl:=true,val:=c.value} (by simp[Ft,ho,V.aY,Cl.row,e,h1,h2]) (by simp[eF,S.pl,h1,h2]) ⟨hw.h,hw.b,hw.c,hw.k⟩
  .exact Rel.er s 17 (by simp[Ft,ho,V.aY,Cl.row,e,h1,h2]) (by simp[eF,S.pl,h1,h2]) ⟨hw.h,hw.b,hw.c,hw.k⟩
 .cases h2:s.cl
  .exact Rel.er s 29 (by simp[Ft,ho,V.aY,Cl.row,e,h1,h2]) (by simp[eF,S.pl,h1,h2]) ⟨hw.h,hw.b,hw.c,hw.k⟩
  .exact Rel.vl s s.val (by simp[Ft,ho,V.aY,Cl.row,e,h1,h2]) (by simp[eF,S.pl,h1,h2]) ⟨hw.h,hw.b,hw.c,hw.k⟩
theorem IW{a b:Int}(ha:0<=a)(hb:1<=b):0<=a / b/\a / b*b<=a/\a / b<=a:=by
 have h1:0<=a / b:=Int.ediv_nonneg ha (by omega)
 have h2:a / b*b<=a:=Int.ediv_mul_le a (by omega)
 refine⟨h1,h2,?_⟩;have h3:a / b*1<=a / b*b:=Int.mul_le_mul_of_nonneg_left hb h1;omega
theorem af3(x y:D)(nm:D)(k sz ot:Int)(s:S)(hw:s.wf)(c:Cl)(hz:1<=sz/\sz<=100)(ho:1<=ot/\ot<=1099511627776)(hv:0<=s.cnt/\s.cnt<=sz)(Zq:0<=s.time/\s.time<=1099511627776)
  (hn:0<=c.now/\c.now<=1099511627776)(hb:c.op=72\/c.op=75)(hc:c.op=72->1<=c.value/\c.value<=sz):
  Rel (ev P (.call Mr [.d (.ag [x,y]),.d (.ag [nm,I' k,I' sz,I' ot]),.d (.ag s.row),.d (.ag c.row)] [])) (eL sz ot s.pl c):=by
 have e:(c.op==75)=!(c.op==72):=by rcases hb with h |h<;>simp[h]
 rw[au afu rfl];cases h0:decide (c.now<s.time)
 .have Bt:s.time<=c.now:=by simpa using h0
  obtain⟨k0,k1,k2⟩:=IW (a:=c.now - s.time) (b:=ot) (by omega) ho.1
  have kT:¬ot=0:=by omega
  have w0:IntKind.i64.wrap (c.now - s.time)=c.now - s.time:=wrap_i64 (by omega) (by omega)
  have ht:(c.now - s.time).tdiv ot=(c.now - s.time) / ot:=Xw (by omega)
  generalize hkk:(c.now - s.time) / ot=q at *;have ek:decide (sz - s.cnt<=q)=decide (sz<=s.cnt+q):=by rw[y9];simp;omega
  have w1:IntKind.i64.wrap q=q:=wrap_i64 (by omega) (by omega)
  have w2:IntKind.i64.wrap (sz - s.cnt)=sz - s.cnt:=wrap_i64 (by omega) (by omega)
  have w3:IntKind.i64.wrap (s.cnt+q)=s.cnt+q:=wrap_i64 (by omega) (by omega)
  have w4:IntKind.i64.wrap (q*ot)=q*ot:=by
   have:0<=q*ot:=G8 k0 (by omega)
   exact wrap_i64 (by omega) (by omega)
  have w5:IntKind.i64.wrap (s.time+q*ot)=s.time+q*ot:=by
   have:0<=q*ot:=G8 k0 (by omega)
   exact wrap_i64 (by omega) (by omega)
  cases h1:decide (sz<=s.cnt+q)
  .have h1':s.cnt+q<sz:=by simpa using h1
   cases h2:c.op==72
   .exact Rel.gd {s with cnt:=s.cnt+q,time:=s.time+q*ot} (by simp[Bp,Cl.row,e,h0,h1,h2,w0,w1,w2,w3,w4,ht,kT,ek,w5]) (by have p0:=h0;simp only[gf,kM]at p0;have p1:=h1;simp only[gf,kM]at p1;simp[eL,mK,S.pl,p0,hkk,p1,h2]) ⟨hw.h,hw.b,hw.c,hw.k⟩
   .have wy:=hc (by simpa using h2)
    have w6:IntKind.i64.wrap (s.cnt+q - c.value)=s.cnt+q - c.value:=wrap_i64 (by omega) (by omega)
    cases h3:decide (s.cnt+q<c.value)
    .exact Rel.gd {s with cnt:=s.cnt+q - c.value,time:=s.time+q*ot} (by simp[Bp,Cl.row,e,h0,h1,h2,h3,w0,w1,w2,w3,w4,ht,kT,ek,w5,w6]) (by have p0:=h0;simp only[gf,kM]at p0;have p1:=h1;simp only[gf,kM]at p1;have p3:=h3;simp only[gf,kM]at p3;simp[eL,mK,S.pl,p0,hkk,p1,h2,p3]) ⟨hw.h,hw.b,hw.c,hw.k⟩
    .exact Rel.er {s with cnt:=s.cnt+q,time:=s.time+q*ot} 29 (by simp[Bp,Cl.row,e,h0,h1,h2,h3,w0,w1,w2,w3,w4,ht,kT,ek,w5,w6]) (by have p0:=h0;simp only[gf,kM]at p0;have p1:=h1;simp only[gf,kM]at p1;have p3:=h3;simp only[gf,kM]at p3;simp[eL,mK,S.pl,p0,hkk,p1,h2,p3]) ⟨hw.h,hw.b,hw.c,hw.k⟩
  .cases h2:c.op==72
   .exact Rel.gd {s with cnt:=sz,time:=c.now} (by simp[Bp,Cl.row,e,h0,h1,h2,w0,w1,w2,w3,w4,ht,kT,ek,w5]) (by have p0:=h0;simp only[gf,kM]at p0;have p1:=h1;simp only[gf,kM]at p1;simp[eL,mK,S.pl,p0,hkk,p1,h2]) ⟨hw.h,hw.b,hw.c,hw.k⟩
   .have wy:=hc (by simpa using h2)
    have w6:IntKind.i64.wrap (sz - c.value)=sz - c.value:=wrap_i64 (by omega) (by omega)
    have h3:decide (sz<c.value)=false:=by simp;omega
    exact Rel.gd {s with cnt:=sz - c.value,time:=c.now} (by simp[Bp,Cl.row,e,h0,h1,h2,h3,w0,w1,w2,w3,w4,ht,kT,ek,w5,w6]) (by have p0:=h0;simp only[gf,kM]at p0;have p1:=h1;simp only[gf,kM]at p1;have p3:=h3;simp only[gf,kM]at p3;simp[eL,mK,S.pl,p0,hkk,p1,h2,p3]) ⟨hw.h,hw.b,hw.c,hw.k⟩
 .exact Rel.er s 2 (by simp[Bp,Cl.row,h0]) (by have p0:=h0;simp only[gf,kM]at p0;simp[eL,S.pl,p0]) ⟨hw.h,hw.b,hw.c,hw.k⟩
theorem tV(nl:Bool)(q:List Int)(gj:nl=true->q=[])(hn:q.length<=1000000):
  ev P (.call tN [.d (hD nl q)] [])=if nl=true then some (.val (.d (.sl 1 true [])) [])else some (.val (.aR 0 0 q.length) [.aI 1 true (bW q)]):=by
 rw[au Tx rfl];cases nl
 .have hr:q.length<=room:=by unfold room;omega
  cases q with
  |nil=>simp[rU,eP,fQ,ak,cut,az]
  |cons a r =>
   simp at hr;simp[rU,eP,fQ,ak,cut,hr,az]
 .simp[rU,az]
theorem NU(nl:Bool)(q:List K)(gj:nl=true->q=[])(hn:q.length<=1000000):
  ev P (.call HR [.d (cD nl q)] [])=if nl=true then some (.val (.d (.sl 2 true [])) [])else some (.val (.aR 0 0 q.length) [.aI 2 true (q.map K.row)]):=by
 rw[au Y0 rfl];cases nl
 .have hr:q.length<=room:=by unfold room;omega
  cases q with
  |nil=>simp[Bm,eP,fQ,ak,cut,az]
  |cons a r =>
   simp at hr;simp[Bm,eP,fQ,ak,cut,hr,az]
 .simp[Bm,az]
theorem af4(A B:List (List D))(r:List D)(h:A.length+B.length<=100000):
  ev P (.call HL [.aR 0 0 (A.length+(B.length+1)),.d (I' A.length),.d (I' (A.length+1))] [.aI 2 true (A++r::B)]) =
   some (.val (.aR 0 0 (A.length+B.length)) [.aI 2 true (A++(B++[[I' 0,.sl 1 true []]]))]):=by
 have h1:(A.length:Int)<=A.length+1:=by omega
 have h2:(A.length:Int)+1<=A.length+(B.length+1):=by omega
 have h3:(0:Int)<=A.length+1:=by omega
 have h4:((A.length:Int)==A.length+1)=false:=by simp;omega
 have h7:(A.length:Int)<=A.length+(B.length+1):=by omega
 have h5:A.length+B.length<=A.length+(B.length+1):=by omega
 have h6:¬(A.length+(B.length+1)<A.length+B.length):=by omega
 rw[au YP rfl];have jr:(A.length:Int)<A.length+1:=by omega
 rcases B with _ |⟨b,B⟩
 .have h9:¬((A.length:Int)+1=0):=by omega
  simp at h2 h5 h6 h7;simp[Fe,ak,cut,h1,h2,h3,h4,h5,h6,h7,h9,jr,az]
 .have h8:(1:Int)<B.length+1+1:=by omega
  have h9:¬((A.length:Int)+1=0):=by omega
  have h12:A.length+1+(B.length+1)<=A.length+(B.length+1+1):=by omega
  obtain⟨x,hx⟩:∃x,List.drop (B.length+1) (r::b::B)=[x]:=G9.1 (by simp)
  have kU:¬((A.length:Int)+(B.length+1)=0):=by omega
  have kC:(0:Int)<=(A.length:Int)+(B.length+1):=by omega
  have sU:(B.length:Int)<=B.length+1:=by omega
  have o9:(B.length:Int)<B.length+1:=by omega
  have zP:((A.length:Int)+(B.length+1)).toNat=A.length+(B.length+1):=by omega
  have zT:((A.length:Int)+(B.length+1+1) - (A.length+(B.length+1))).toNat=1:=by omega
  have zU:A.length+(B.length+1)+1<=A.length+(B.length+1+1):=by omega
  have zV:List.take (A.length+(B.length+1)) (A++b::(B++[x]))=A++b::B:=by
   have:A++b::(B++[x])=(A++b::B)++[x]:=by simp
   rw[this];exact uA (by simp)
  have zW:List.drop (A.length+(B.length+1)+1) (A++b::(B++[x]))=[]:=qB (by simp;omega)
  have iV:((A.length:Int)+(B.length+1+1) - (A.length+1)).toNat=B.length+1:=by omega
  simp at h2 h5 h6 h7;simp[Fe,ak,cut,h1,h2,h3,h4,h5,h6,h7,h8,h9,iV,jr,h12,kU,kC,sU,o9,zP,zT,zU,zV,zW,hx,az]
theorem af5(A B:List (List D))(r:List D)(h:A.length+B.length<=100000):
  ev P (.call R5 [.aR 0 0 (A.length+(B.length+1)),.d (I' A.length),.d (I' (A.length+1))] [.aI 1 true (A++r::B)]) =
   some (.val (.aR 0 0 (A.length+B.length)) [.aI 1 true (A++(B++[[I' 0]]))]):=by
 have h1:(A.length:Int)<=A.length+1:=by omega
 have h2:(A.length:Int)+1<=A.length+(B.length+1):=by omega
 have h3:(0:Int)<=A.length+1:=by omega
 have h4:((A.length:Int)==A.length+1)=false:=by simp;omega
 have h7:(A.length:Int)<=A.length+(B.length+1):=by omega
 have h5:A.length+B.length<=A.length+(B.length+1):=by omega
 have h6:¬(A.length+(B.length+1)<A.length+B.length):=by omega
 rw[au afe rfl];have jr:(A.length:Int)<A.length+1:=by omega
 rcases B with _ |⟨b,B⟩
 .have h9:¬((A.length:Int)+1=0):=by omega
  simp at h2 h5 h6 h7;simp[Nv,ak,cut,h1,h2,h3,h4,h5,h6,h7,h9,jr,az]
 .have h8:(1:Int)<B.length+1+1:=by omega
  have h9:¬((A.length:Int)+1=0):=by omega
  have h12:A.length+1+(B.length+1)<=A.length+(B.length+1+1):=by omega
  obtain⟨x,hx⟩:∃x,List.drop (B.length+1) (r::b::B)=[x]:=G9.1 (by simp)
  have kU:¬((A.length:Int)+(B.length+1)=0):=by omega
  have kC:(0:Int)<=(A.length:Int)+(B.length+1):=by omega
  have sU:(B.length:Int)<=B.length+1:=by omega
  have o9:(B.length:Int)<B.length+1:=by omega
  have zP:((A.length:Int)+(B.length+1)).toNat=A.length+(B.length+1):=by omega
  have zT:((A.length:Int)+(B.length+1+1) - (A.length+(B.length+1))).toNat=1:=by omega
  have zU:A.length+(B.length+1)+1<=A.length+(B.length+1+1):=by omega
  have zV:List.take (A.length+(B.length+1)) (A++b::(B++[x]))=A++b::B:=by
   have:A++b::(B++[x])=(A++b::B)++[x]:=by simp
   rw[this];exact uA (by simp)
  have zW:List.drop (A.length+(B.length+1)+1) (A++b::(B++[x]))=[]:=qB (by simp;omega)
  have iV:((A.length:Int)+(B.length+1+1) - (A.length+1)).toNat=B.length+1:=by omega
  simp at h2 h5 h6 h7;simp[Nv,ak,cut,h1,h2,h3,h4,h5,h6,h7,h8,h9,iV,jr,h12,kU,kC,sU,o9,zP,zT,zU,zV,zW,hx,az]
theorem aO:List.range 2=[0,1]:=rfl
theorem aP:List.range 3=[0,1,2]:=rfl
def ij(own:Int)(H:List Int)(t:Int):Int:=if(decide (0<=t)&&t==own)=true then 2 else if t∈H then 1 else 0
theorem af6{l:List Int}{t:Int}(h:gH l)(hm:t∈l):∃A B,l=A++t::B/\bI t l=A.length/\l.filter (λx=>x != t)=A++B:=by
 have h1:=(IV h).2 hm;have hlt:bI t l<l.length:=(sF.1 h1).1;have h2:l[bI t l]=t:=(sF.1 h1).2;refine⟨l.take (bI t l),l.drop (bI t l+1),?_,by simp;omega,Zo h hm⟩
 have h3:l.drop (bI t l)=l[bI t l]::l.drop (bI t l+1):=Xx hlt;rw[h2]at h3;rw[<-h3,AO]
theorem af7(s:S):s.pl.H=s.H:=rfl
theorem af8(s:S):s.pl.own=s.own:=rfl
set_option maxHeartbeats 1000000 in
theorem af9(o:List D)(ho:o.length=4)(x y:D)(s:S)(hw:s.wf)(c:Cl)(hH:gH s.H)(hn:s.H.length<=100000)(hv:s.own = -1\/0<=s.own):
  Rel (ev P (.call Mk [.d (.ag [x,y]),.d (.ag o),.d (.ag s.row),.d (.ag c.row)] [])) (eW s.pl c):=by
 have pe:=TQ s.hn s.H c.task (by omega) hH.qX
 have hm:decide (s.H[bI c.task s.H]?=some c.task)=decide (c.task∈s.H):=decide_eq_decide.2 (IV hH);rw[hm]at pe;rw[au afc rfl];unfold eW;rw[af7,af8];have e:decide (0<=s.own)=!(s.own == -1):=by rw[y9];simp;omega
 cases h1:c.op==54
 .cases h2:c.op==56
  .cases h4:(decide (c.task∈s.H)||s.own==c.task)
   .cases h5:(!(s.own == -1)||(c.op==55&&decide (0<s.H.length)))
    .cases h6:c.op==55
     .have hI:=CH NL (p:=mh 1) rfl
      refine Rel.gd {s with hn:=false,H:=eZ c.task s.H} ?_ (by simp[S.pl]) ⟨by simp,hw.b,hw.c,hw.k⟩
      rw[h6]at h5;simp only[AM,G6]at h5;have hb:=tU c.task s.H;cases hf:s.hn
      .have hr:s.H.length+1<=room:=by unfold room;omega
       have dQ:=tV s.hn s.H hw.h (by omega)
       rw[hf,aG (by decide)]at dQ
       rw[hf]at pe;have hrow:hD false (eZ c.task s.H) = .sl 1 false ((bW s.H).take (bI c.task s.H)++[I' c.task]::(bW s.H).drop (bI c.task s.H)):=by unfold eZ hD bW;simp[Cn,Co]
       simp only[S.row];rw[hrow];generalize bI c.task s.H=b at *;have h7:s.H.length+1<=b+(s.H.length - b+1):=by omega
       have t5:List.take (s.H.length+1) (List.take b (List.map (λx=>[I' x]) s.H)++[I' c.task]::List.drop b (List.map (λx=>[I' x]) s.H))=List.take b (List.map (λx=>[I' x]) s.H)++[I' c.task]::List.drop b (List.map (λx=>[I' x]) s.H):=
        gD (by simp;omega)
       simp[we,ho,Cl.row,pe,h1,h2,h4,e,h5,h6,hf,dQ,hI,mh,jU,hr,hb,h7,t5,aJ,aD,sub,aE,back,ak,cut,aq,bt,aX,bg,av,aO,aP,aZ,cG]
      .have hE:=hw.h hf
       have hr:1<=room:=by decide
       have dQ:=tV s.hn s.H hw.h (by omega)
       rw[hf,aN rfl]at dQ;rw[hf]at pe;have h4':(s.own==c.task)=false:=by have:=h4;rw[hE]at this;simpa using this
       rw[hE]at pe dQ⊢;have hz:bI c.task []=0:=rfl;have hi:eZ c.task []=[c.task]:=rfl;rw[hz]at pe;rw[hi];simp[we,ho,Cl.row,pe,h1,h2,h4',e,h5,h6,hf,dQ,hI,mh,jU,hr,hb,hE,aJ,aD,sub,aE,back,ak,cut,aq,bt,aX,bg,av,aO,aP,aZ,cG]
     .rw[h6]at h5
      simp only[xI]at h5;exact Rel.gd {s with own:=c.task} (by simp[we,ho,Cl.row,pe,h1,h2,h4,e,h5,h6]) (by simp[S.pl]) ⟨hw.h,hw.b,hw.c,hw.k⟩
    .exact Rel.er s 29 (by simp[we,ho,Cl.row,pe,h1,h2,h4,e,h5]) (by simp) ⟨hw.h,hw.b,hw.c,hw.k⟩
   .exact Rel.er s 17 (by simp[we,ho,Cl.row,pe,h1,h2,h4]) (by simp) ⟨hw.h,hw.b,hw.c,hw.k⟩
  .cases h3:s.own==c.task
   .have h3':(s.own != c.task)=true:=by simp[bne,h3]
    exact Rel.er s 20 (by simp[we,ho,Cl.row,pe,h1,h2,h3']) (by simp) ⟨hw.h,hw.b,hw.c,hw.k⟩
   .have h3':(s.own != c.task)=false:=by simp[bne,h3]
    exact Rel.gd {s with own:=-1} (by simp[we,ho,Cl.row,pe,h1,h2,h3']) (by simp[S.pl]) ⟨hw.h,hw.b,hw.c,hw.k⟩
 .cases h2:decide (c.task∈s.H)
  .rw[h2]at pe
   exact Rel.er s 20 (by simp[we,ho,Cl.row,pe,h1]) (by simp) ⟨hw.h,hw.b,hw.c,hw.k⟩
  .rw[h2]at pe
   have zO:c.task∈s.H:=by simpa using h2
   obtain⟨A,B,e1,e2,e3⟩:=af6 hH zO;have hnf:s.hn=false:=by
    cases hf:s.hn
    .rfl
    .rw[hw.h hf]at zO;simp at zO
   have dQ:=tV s.hn s.H hw.h (by omega)
   rw[hnf,aG (by decide)]at dQ
   rw[hnf]at pe;rw[e2]at pe;have hD:=af5 (bW A) (bW B) [I' c.task] (by rw[e1]at hn;simp at hn⊢;omega)
   have hrow:bW s.H=bW A++[I' c.task]::bW B:=by rw[e1];simp
   have hlen:s.H.length=A.length+(B.length+1):=by rw[e1];simp
   have jx:IntKind.i64.wrap ((A.length:Int)+1)=A.length+1:=wrap_i64 (by omega) (by omega)
   rw[hrow,hlen]at dQ;simp only[xM]at hD;rw[e3];have t6:List.take (A.length+B.length) (bW A++(bW B++[[I' 0]]))=List.map (λx=>[I' x]) A++List.map (λx=>[I' x]) B:=by
    rw[<-List.append_assoc];exact uA (by simp)
   refine Rel.gd {s with hn:=false,H:=A++B} ?_ (by simp[S.pl]) ⟨by simp,hw.b,hw.c,hw.k⟩
   simp[we,ho,Cl.row,pe,h1,hnf,dQ,jx,hD,t6,aJ,aD,sub,aE,back,ak,cut,aq,bt,aX,bg,av,aO,aP,aZ,cG]
theorem NV(nm:D)(k sz ot:Int):ev P (.call EO [.d (.ag [nm,I' k,I' sz,I' ot])] [])=some (.val (.d (.ag [nm,I' k,I' (dc sz),I' ot])) []):=by
 rw[au afn rfl];unfold dc;simp[Tj]
theorem aga(s:S):s.pl.B=s.B:=rfl
theorem agb(s:S):s.pl.cl=s.cl:=rfl
theorem agc(x y nm:D)(k sz ot:Int)(s:S)(hw:s.wf)(c:Cl)(hb:c.op=64\/c.op=65\/c.op=66)(hn:s.B.length<=100000):
  Rel (ev P (.call Mn [.d (.ag [x,y]),.d (.ag [nm,I' k,I' sz,I' ot]),.d (.ag s.row),.d (.ag c.row)] [])) (eC (dc sz) s.pl c):=by
 have hR:=NV nm k sz ot;generalize zX:dc sz=rm at *;rw[au afl rfl];unfold eC;rw[aga,agb];cases h1:c.op==64
 .cases h2:c.op==65
  .cases h3:s.cl
   .exact Rel.gd {s with cl:=true} (by simp[wg,Cl.row,h1,h2,h3]) (by simp[S.pl]) ⟨hw.h,hw.b,hw.c,hw.k⟩
   .exact Rel.er s 17 (by simp[wg,Cl.row,h1,h2,h3]) (by simp) ⟨hw.h,hw.b,hw.c,hw.k⟩
  .cases hB:s.B with
   |nil =>
    cases h3:s.cl
    .exact Rel.er s 29 (by simp[wg,Cl.row,h1,h2,h3,hB]) (by simp) ⟨hw.h,hw.b,hw.c,hw.k⟩
    .exact Rel.er s 0 (by simp[wg,Cl.row,h1,h2,h3,hB]) (by simp) ⟨hw.h,hw.b,hw.c,hw.k⟩
   |cons b r =>
    have hf:s.bn=false:=by
     cases hf:s.bn
     .rfl
     .rw[hw.b hf]at hB;simp at hB
    have u9:=tV false r (by simp) (by rw[hB]at hn;simp at hn;omega)
    rw[aG (by decide)]at u9
    have n1:(1:Int)<=r.length+1:=by omega
    have n0:((r.length:Int)+1==0)=false:=by simp;omega
    refine Rel.vl {s with bn:=false,B:=r} b ?_ (by simp[S.pl]) ⟨hw.h,by simp,hw.c,hw.k⟩
    simp[wg,Cl.row,h1,h2,hB,hf,u9,n0,n1,aJ,aD,sub,aE,back,ak,cut,aq,V.aY,bt,aX,bg,av,aZ,cG]
 .cases h3:s.cl
  .cases h4:decide (rm<=s.B.length)
   .have hr:s.B.length+1<=room:=by unfold room;omega
    have hC:=tV s.bn s.B hw.b (by omega)
    refine Rel.gd {s with bn:=false,B:=s.B++[c.value]} ?_ (by simp[S.pl,h3]) ⟨hw.h,by simp,hw.c,hw.k⟩
    cases hf:s.bn
    .rw[hf,aG (by decide)]at hC
     have t1:List.take (s.B.length+1) (List.map (λx=>[I' x]) s.B++[[I' c.value]])=List.map (λx=>[I' x]) s.B++[[I' c.value]]:=gD (by simp)
     simp[wg,Cl.row,h1,h3,h4,hf,hR,hC,hr,t1,aJ,aD,sub,aE,back,ak,cut,aq,V.aY,bt,aX,bg,av,aZ,cG,cy]
    .have hB:=hw.b hf
     rw[hf,aN rfl]at hC;rw[hB]at h4 hC⊢;have h4:decide (rm<=0)=false:=h4;have jX:1<=room:=by decide
     simp[wg,Cl.row,h1,h3,h4,hf,hR,hC,hB,jX,aJ,aD,sub,aE,back,ak,cut,aq,V.aY,bt,aX,bg,av,aZ,cG,cy]
   .exact Rel.er s 29 (by simp[wg,Cl.row,h1,h3,hR,h4]) (by simp) ⟨hw.h,hw.b,hw.c,hw.k⟩
  .exact Rel.er s 0 (by simp[wg,Cl.row,h1,h3]) (by simp) ⟨hw.h,hw.b,hw.c,hw.k⟩
theorem NW{n:Int}:cZ n=true↔0<=n/\n<16:=by simp[cZ]
theorem Zr(a t:Int)(b:Bool)(l:List Int)(ha:cZ a=true)(ht:cZ t=true):
  ev P (.call EP [.d (.ag [I' a,hD b l]),.d (I' t)] [])=some (.val (.d (I' (a - t))) []):=by
 have h1:=NW.1 ha;have h2:=NW.1 ht;have hw:IntKind.i64.wrap (a - t)=a - t:=wrap_i64 (by omega) (by omega)
 rw[au afr rfl];simp[Tl,hw]
theorem agd(nl:Bool)(C:List K)(t:Int)(hn:C.length<=1000000)(hA:iL (C.map K.task))(hC:∀x∈C,cZ x.task=true)(ht:cZ t=true):∀(n i j:Nat),j - i<=n->i<=bI t (C.map K.task)->bI t (C.map K.task)<=j->j<=C.length ->
  ev P (.loop 0 [0,1,2,8,9,10] IG [(0,.d (cD nl C)),(1,.d (I' t)),(2,.d (.fn EP [] [])),(8,.d (I' C.length)),(9,.d (I' i)),(10,.d (I' j))] []) =
   some (.out (.exit 0) [(0,.d (cD nl C)),(1,.d (I' t)),(2,.d (.fn EP [] [])),(8,.d (I' C.length)),(9,.d (I' (bI t (C.map K.task))))] []):=by
 intro n;induction n with
 |zero =>
  intro i j h1 h2 h3 h4;have e1:i=bI t (C.map K.task):=by omega
  have e2:j=bI t (C.map K.task):=by omega
  rw[bY]
  conv=>lhs;arg 4;unfold IG
  simp[e1,e2]
 |succ n ih =>
  intro i j h1 h2 h3 h4;by_cases hij:i=j
  .have e1:i=bI t (C.map K.task):=by omega
   have e2:j=bI t (C.map K.task):=by omega
   rw[bY]
   conv=>lhs;arg 4;unfold IG
   simp[e1,e2]
  .have hlt:i<j:=by omega
   have hw1:IntKind.i64.wrap ((i:Int)+j)=i+j:=wrap_i64 (by omega) (by omega)
   have hm:=FC (i:=i) (j:=j) (by omega)
   generalize zO:(i+j) / 2=m at hm;have hm1:i<=m:=by omega
   have hm2:m<j:=by omega
   have hml:m<C.length:=by omega
   obtain⟨x,hx⟩:∃x,C[m]?=some x:=⟨C[m]'(by omega),by simp⟩
   have ym:(C.map K.task)[m]?=some x.task:=by simp[hx]
   have hb:=FB (t:=t) hA ym;have mj:C[m]=x:=by rw[qE hml]at hx;exact za hx
   have zY:x∈C:=lE hx;have hc:=Zr x.task t x.nl x.log (hC x zY) ht;have Df:IntKind.i64.wrap ((m:Int)+1)=m+1:=wrap_i64 (by omega) (by omega)
   have Bs:(m:Int)<C.length:=by omega
   rw[bY]
   conv=>lhs;arg 4;unfold IG
   by_cases hp:x.task<t
   .have bE:=ih (m+1) j (by omega) (by omega) (by omega) h4
    have FD:x.task - t<0:=by omega
    simp at bE;simp[hlt,hw1,hm,Df,hml,Bs,hx,mj,K.row,hc,FD];exact bE
   .have bE:=ih i m (by omega) (by omega) (by omega) (by omega)
    have FD:¬x.task - t<0:=by omega
    simp[hlt,hw1,hm,hml,Bs,hx,mj,K.row,hc,FD];exact bE
theorem NX(nl:Bool)(C:List K)(t:Int)(hn:C.length<=1000000)(hA:iL (C.map K.task))(hC:∀x∈C,cZ x.task=true)(ht:cZ t=true):
  ev P (.call Sd [.d (cD nl C),.d (I' t),.d (.fn EP [] [])] []) =
   some (.val (.tu [.d (I' (bI t (C.map K.task))),.d (.b (decide ((C.map K.task)[bI t (C.map K.task)]?=some t)))]) []):=by
 have hb:=tU t (C.map K.task);simp only[xM]at hb;have hl:=agd nl C t hn hA hC ht C.length 0 C.length (by omega) (by omega) hb (by omega)
 simp only[Int.natCast_zero]at hl;by_cases h:bI t (C.map K.task)<C.length
 .obtain⟨x,hx⟩:∃x,C[bI t (C.map K.task)]?=some x:=⟨C[bI t (C.map K.task)],by simp⟩
  have ym:(C.map K.task)[bI t (C.map K.task)]?=some x.task:=by rw[vP,hx];rfl
  have h2:(bI t (C.map K.task):Int)<C.length:=by omega
  have zY:x∈C:=lE hx;have hc:=Zr x.task t x.nl x.log (hC x zY) ht;rw[ym];generalize bI t (C.map K.task)=B at *;have mj:C[B]=x:=by rw[qE h]at hx;exact za hx
  have e:(x.task - t==0)=decide (x.task=t):=by rw[y9];simp;omega
  rw[au Y8 rfl];simp[NA,hl,h,h2,hx,mj,K.row,hc,e]
 .have h2:¬(bI t (C.map K.task):Int)<C.length:=by omega
  have h3:(C.map K.task)[bI t (C.map K.task)]?=none:=by simp;omega
  rw[h3];generalize bI t (C.map K.task)=B at *;rw[au Y8 rfl];simp[NA,hl,h,h2]
theorem cu:List.range 4=[0,1,2,3]:=rfl
theorem TV(s:S):s.pl.C=s.C.map K.pl:=rfl
theorem Zs(s:S):qW s.pl=qW s:=by
 unfold qW;rw[TV,ke];rfl
theorem NY(s:S)(t:Int):bK s.pl t=bK s t:=by unfold bK;rw[Zs]
theorem TW(s:S)(t:Int):mJ s.pl t=mJ s t:=by unfold mJ;rw[Zs,NY]
structure S.tk(s:S):Prop where
 qX:gH (qW s)
 task:∀x∈s.C,cZ x.task=true
 len:s.C.length<=1000
 log:∀x∈s.C,x.log.length<=100000
theorem age(x y nm:D)(k sz ot:Int)(s:S)(hw:s.wf)(c:Cl)(hk:s.tk)(ht:cZ c.task=true)(hb:c.op=69):
  Rel (ev P (.call CV [.d (.ag [x,y]),.d (.ag [nm,I' k,I' sz,I' ot]),.d (.ag s.row),.d (.ag c.row)] [])) (eT (dc sz) s.pl c):=by
 have hB:=NX s.cn s.C c.task (by have:=hk.len;omega) hk.qX.qX hk.task ht
 have dQ:=NU s.cn s.C hw.c (by have:=hk.len;omega)
 have hI:=CH Y9 (p:=mh 2) rfl;have kX:=tU c.task (s.C.map K.task);simp only[xM]at kX;have hlen:=hk.len;rw[au IN rfl];unfold eT;rw[TW,NY];have e1:mJ s c.task=decide ((s.C.map K.task)[bI c.task (s.C.map K.task)]?=some c.task):=rfl;have e2:bK s c.task=bI c.task (s.C.map K.task):=rfl;rw[<-e1]at hB;rw[<-e2]at hB kX;generalize hi:bK s c.task=i at *;generalize mJ s c.task=g at *;have kY:(c.op==69)=true:=by simp[hb]
 rw[kY];cases g
 .have hrow:cD false (s.C.take i++⟨c.task,true,[]⟩::s.C.drop i) = .sl 2 false ((s.C.map K.row).take i++[I' c.task,.sl 1 true []]::(s.C.map K.row).drop i):=by simp[cD,Cn,Co,K.row]
  refine Rel.gd {s with cn:=false,C:=s.C.take i++⟨c.task,true,[]⟩::s.C.drop i} ?_ (by simp[S.pl,K.pl,Cn,Co]) ⟨hw.h,hw.b,by simp,?_⟩
  .simp only[S.row]
   rw[hrow];cases hf:s.cn
   .rw[hf,aG (by decide)]at dQ
    rw[hf]at hB;have hr:s.C.length+1<=room:=by unfold room;omega
    have h7:s.C.length+1<=i+(s.C.length - i+1):=by omega
    have t5:List.take (s.C.length+1) (List.take i (List.map K.row s.C)++[I' c.task,.sl 1 true []]::List.drop i (List.map K.row s.C))=List.take i (List.map K.row s.C)++[I' c.task,.sl 1 true []]::List.drop i (List.map K.row s.C):=
     gD (by simp;omega)
    simp[qP,Cl.row,hB,hf,hb,dQ,hI,mh,jU,hr,kX,h7,t5,aJ,aD,sub,aE,back,ak,cut,aq,V.aY,bt,aX,bg,av,aZ,cG,cy,aO,aP,cu]
   .have hE:=hw.c hf
    rw[hf,aN rfl]at dQ;rw[hf]at hB;have hr:1<=room:=by decide
    rw[hE]at hB dQ kX;have Zt:i=0:=by simpa using kX
    subst Zt;simp[qP,Cl.row,hB,hf,hE,hb,dQ,hI,mh,jU,hr,aJ,aD,sub,aE,back,ak,cut,aq,V.aY,bt,aX,bg,av,aZ,cG,cy,aO,aP,cu]
  .intro z hz
   simp only[dm,dD]at hz;rcases hz with h |h |h
   .exact hw.k z (oa h)
   .rw[h];simp
   .exact hw.k z (mV h)
 .refine Rel.er s 6 ?_ (by simp) ⟨hw.h,hw.b,hw.c,hw.k⟩
  cases hf:s.cn
  .rw[hf,aG (by decide)]at dQ
   rw[hf]at hB;simp[qP,Cl.row,hB,hf,hb,dQ,aJ,aD,sub,aE,back,ak,cut,aq,V.aY,bt,aX,bg,av,aZ,cG,cy,aO,aP,cu]
  .rw[hf,aN rfl]at dQ
   rw[hf]at hB;simp[qP,Cl.row,hB,hf,hb,dQ,aJ,aD,sub,aE,back,ak,cut,aq,V.aY,bt,aX,bg,av,aZ,cG,cy,aO,aP,cu]
theorem NZ(s:S)(t:Int)(h:mJ s t=true):∃A k B,s.C=A++k::B/\bK s t=A.length/\k.task=t:=by
 unfold mJ at h;have h1:(qW s)[bK s t]?=some t:=by simpa using h
 have h2:bK s t<s.C.length:=by
  have:=(sF.1 h1).1;unfold qW at this;simpa using this
 refine⟨s.C.take (bK s t),s.C[bK s t],s.C.drop (bK s t+1),?_,by simp;omega,?_⟩
 .have h3:s.C.drop (bK s t)=s.C[bK s t]::s.C.drop (bK s t+1):=Xx h2
  rw[<-h3,AO]
 .unfold qW at h1
  rw[vP,qE h2]at h1;simpa using h1
theorem agf(x y nm:D)(k sz ot:Int)(s:S)(hw:s.wf)(c:Cl)(hk:s.tk)(ht:cZ c.task=true)(hb:c.op=71):
  Rel (ev P (.call CV [.d (.ag [x,y]),.d (.ag [nm,I' k,I' sz,I' ot]),.d (.ag s.row),.d (.ag c.row)] [])) (eT (dc sz) s.pl c):=by
 have hB:=NX s.cn s.C c.task (by have:=hk.len;omega) hk.qX.qX hk.task ht
 have dQ:=NU s.cn s.C hw.c (by have:=hk.len;omega)
 have kX:=tU c.task (s.C.map K.task);simp only[xM]at kX;have hlen:=hk.len;rw[au IN rfl];unfold eT;rw[TW,NY];have e1:mJ s c.task=decide ((s.C.map K.task)[bI c.task (s.C.map K.task)]?=some c.task):=rfl;have e2:bK s c.task=bI c.task (s.C.map K.task):=rfl;rw[<-e1]at hB;rw[<-e2]at hB kX;have kY:(c.op==69)=false:=by simp[hb]
 have mo:(c.op==71)=true:=by simp[hb]
 rw[kY,mo];cases hg:mJ s c.task
 .rw[hg]at hB
  generalize bK s c.task=i at *;refine Rel.er s 20 ?_ (by simp) ⟨hw.h,hw.b,hw.c,hw.k⟩
  cases hf:s.cn
  .rw[hf,aG (by decide)]at dQ
   rw[hf]at hB;simp[qP,Cl.row,hB,hf,hb,dQ,aJ,aD,sub,aE,back,ak,cut,aq,V.aY,bt,aX,bg,av,aZ,cG,cy,aO,aP,cu]
  .rw[hf,aN rfl]at dQ
   rw[hf]at hB;simp[qP,Cl.row,hB,hf,hb,dQ,aJ,aD,sub,aE,back,ak,cut,aq,V.aY,bt,aX,bg,av,aZ,cG,cy,aO,aP,cu]
 .obtain⟨A,kk,B,f1,f2,f3⟩:=NZ s c.task hg
  have hf:s.cn=false:=by
   cases hf:s.cn
   .rfl
   .have:=hw.c hf;rw[this]at f1;simp at f1
  rw[hg,f2]at hB;rw[hf]at hB dQ;rw[aG (by decide)]at dQ
  have hD:=af4 (A.map K.row) (B.map K.row) kk.row (by rw[f1]at hlen;simp at hlen⊢;omega)
  have hrow:s.C.map K.row=A.map K.row++kk.row::B.map K.row:=by rw[f1];simp
  have rY:s.C.length=A.length+(B.length+1):=by rw[f1];simp
  have jx:IntKind.i64.wrap ((A.length:Int)+1)=A.length+1:=wrap_i64 (by omega) (by omega)
  rw[hrow,rY]at dQ;simp only[xM]at hD;have t6:List.take (A.length+B.length) (A.map K.row++(B.map K.row++[[I' 0,.sl 1 true []]]))=A.map K.row++B.map K.row:=by
   rw[<-List.append_assoc];exact uA (by simp)
  refine Rel.gd {s with cn:=false,C:=A++B} ?_ ?_ ⟨hw.h,hw.b,by simp,?_⟩
  .simp[qP,Cl.row,hB,hb,hf,dQ,jx,hD,t6,aJ,aD,sub,aE,back,ak,cut,aq,V.aY,bt,aX,bg,av,aZ,cG,cy,aO,aP,cu]
  .rw[f2]
   have d1:List.drop (A.length+1) (List.map K.pl A++kk.pl::List.map K.pl B)=List.map K.pl B:=by
    have:List.map K.pl A++kk.pl::List.map K.pl B=(List.map K.pl A++[kk.pl])++List.map K.pl B:=by simp
    rw[this];exact Ek (by simp)
   simp[S.pl,f1,d1]
  .intro z hz
   refine hw.k z ?_;rw[f1];rcases dm.1 hz with h |h
   .exact El _ h
   .exact He _ (zb _ h)
theorem agh(x y nm:D)(k sz ot:Int)(s:S)(hw:s.wf)(c:Cl)(hk:s.tk)(ht:cZ c.task=true)(hb:c.op=70):
  Rel (ev P (.call CV [.d (.ag [x,y]),.d (.ag [nm,I' k,I' sz,I' ot]),.d (.ag s.row),.d (.ag c.row)] [])) (eT (dc sz) s.pl c):=by
 have hB:=NX s.cn s.C c.task (by have:=hk.len;omega) hk.qX.qX hk.task ht
 have dQ:=NU s.cn s.C hw.c (by have:=hk.len;omega)
 have kX:=tU c.task (s.C.map K.task);simp only[xM]at kX;have hlen:=hk.len;rw[au IN rfl];unfold eT;rw[TW,NY];have e1:mJ s c.task=decide ((s.C.map K.task)[bI c.task (s.C.map K.task)]?=some c.task):=rfl;have e2:bK s c.task=bI c.task (s.C.map K.task):=rfl;rw[<-e1]at hB;rw[<-e2]at hB kX;have kY:(c.op==69)=false:=by simp[hb]
 have mo:(c.op==71)=false:=by simp[hb]
 have gL:(c.op==70)=true:=by simp[hb]
 rw[kY,mo,gL];cases hg:mJ s c.task
 .rw[hg]at hB
  generalize bK s c.task=i at *;refine Rel.er s 20 ?_ (by simp) ⟨hw.h,hw.b,hw.c,hw.k⟩
  cases hf:s.cn
  .rw[hf,aG (by decide)]at dQ
   rw[hf]at hB;simp[qP,Cl.row,hB,hf,hb,dQ,aJ,aD,sub,aE,back,ak,cut,aq,V.aY,bt,aX,bg,av,aZ,cG,cy,aO,aP,cu]
  .rw[hf,aN rfl]at dQ
   rw[hf]at hB;simp[qP,Cl.row,hB,hf,hb,dQ,aJ,aD,sub,aE,back,ak,cut,aq,V.aY,bt,aX,bg,av,aZ,cG,cy,aO,aP,cu]
 .obtain⟨A,kk,B,f1,f2,f3⟩:=NZ s c.task hg
  have hf:s.cn=false:=by
   cases hf:s.cn
   .rfl
   .have:=hw.c hf;rw[this]at f1;simp at f1
  rw[hg,f2]at hB;rw[hf]at hB dQ;rw[aG (by decide)]at dQ
  have hrow:s.C.map K.row=A.map K.row++kk.row::B.map K.row:=by rw[f1];simp
  have rY:s.C.length=A.length+(B.length+1):=by rw[f1];simp
  have hkm:kk∈s.C:=by rw[f1];simp
  have ji:=hk.log kk hkm;rw[hrow,rY]at dQ;have hgt:s.pl.C[bK s c.task]?=some (K.pl kk):=by
   rw[f2,TV,f1];simp
  rw[hgt];obtain⟨kt,kn,kl⟩:=kk;simp only at f3 ji;subst f3;cases kl with
  |nil =>
   refine Rel.er s 29 ?_ (by simp[K.pl]) ⟨hw.h,hw.b,hw.c,hw.k⟩
   have i1:(A.length:Int)<A.length+(B.length+1):=by omega
   simp[qP,Cl.row,hB,hb,hf,dQ,K.row,i1,aJ,aD,sub,aE,back,ak,cut,aq,V.aY,bt,aX,bg,av,aZ,cG,cy,aO,aP,cu]
  |cons b r =>
   have hkn:kn=false:=by
    cases kn
    .rfl
    .have:=hw.k _ hkm rfl;simp at this
   subst hkn;have u9:=tV false r (by simp) (by simp at ji;omega)
   rw[aG (by decide)]at u9
   have n0:((r.length:Int)+1==0)=false:=by simp;omega
   have n1:(1:Int)<=r.length+1:=by omega
   have i1:(A.length:Int)<A.length+(B.length+1):=by omega
   refine Rel.vl {s with cn:=false,C:=A++⟨c.task,false,r⟩::B} b ?_ ?_ ⟨hw.h,hw.b,by simp,?_⟩
   .simp[qP,Cl.row,hB,hb,hf,dQ,K.row,u9,n0,n1,i1,aJ,aD,sub,aE,back,ak,cut,aq,V.aY,bt,aX,bg,av,aZ,cG,cy,aO,aP,cu]
    exact gD (by simp)
   .rw[f2]
    simp[S.pl,f1,K.pl]
   .intro z hz
    rcases dm.1 hz with h |h
    .exact hw.k z (by rw[f1];exact El _ h)
    .rcases dD.1 h with h |h
     .rw[h];simp
     .exact hw.k z (by rw[f1];exact He _ (zb _ h))
def ve(v:Int)(x:K):K:=⟨x.task,false,x.log++[v]⟩
def Dg(v:Int)(x:K):List D:=[I' x.task,.sl 1 false (x.log.map (λn=>[I' n])++[[I' v]])]
theorem agi(v:Int)(x:K):(ve v x).row=Dg v x:=by simp[ve,K.row,Dg]
def IX(rm:Int)(x:K):Bool:=decide (rm<=(x.log.length:Int))
theorem agj(nm:D)(k sz ot:Int)(row zr:List D)(hrow:row.length=9)(hz:zr.length=9)(C:List K)(c:Cl)(hn:C.length<=1000)(hk:∀x∈C,x.nl=true->x.log=[])(ql:∀x∈C,x.log.length<=100000):∀(suf pre:List K),C=pre++suf ->
  ev P (.loop 0 [5,6,7,8,14,15,31,32] Fq [(5,.d (.ref [nm,I' k,I' sz,I' ot])),(6,.loc 0 0 0),(7,.d (.ref c.row)),(8,.loc 1 0 0),(14,.aR 2 0 C.length),(15,.d (I' 0)),(31,.d (I' C.length)),(32,.d (I' pre.length))]
   [.aI 9 true [row],.aI 9 true [zr],.aI 2 true (pre.map (Dg c.value)++suf.map K.row)]) =
   if(suf.any (IX (dc sz)))=true then some (.out .ret [(8,.loc 0 0 0),(9,.d (I' 0)),(10,.d (.b false)),(11,.d (I' 29))] [.aI 9 true [row]])
   else some (.out (.exit 1) [(6,.loc 0 0 0),(8,.loc 1 0 0),(14,.aR 2 0 C.length),(15,.d (I' 0))] [.aI 9 true [row],.aI 9 true [zr],.aI 2 true (C.map (Dg c.value))]):=by
 intro suf;induction suf with
 |nil =>
  intro pre hl
  have:C.length=pre.length:=by simp[hl]
  have hp:C=pre:=by simp[hl]
  rw[bY]
  conv=>lhs;arg 4;unfold Fq
  simp[this,hp,aJ,aD,sub,aE,back,ak,cut,aq,V.aY,bt,aX,bg,av,aZ,cG,cy,aO,aP,cu]
 |cons x suf ih =>
  intro pre hl;have hg:C[pre.length]?=some x:=by simp[hl]
  have hlt:(pre.length:Int)<C.length:=by simp[hl];omega
  have hnext:IntKind.i64.wrap ((pre.length:Int)+1)=pre.length+1:=wrap_i64 (by omega) (by omega)
  have bE:=ih (pre++[x]) (by simp[hl])
  have hR:=NV nm k sz ot;have zY:x∈C:=by rw[hl];simp
  have ji:=ql x zY;have hr:x.log.length+1<=room:=by unfold room;omega
  have dQ:=tV x.nl x.log (hk x zY) (by omega)
  have hlen:C.length=pre.length+(suf.length+1):=by simp[hl]
  rw[List.any_cons];generalize (suf.any (IX (dc sz)))=dd at *;generalize zX:dc sz=rm at *;rw[bY]
  conv=>lhs;arg 4;unfold Fq
  match row,hrow,zr,hz with
  | [r0,r1,r2,r3,r4,r5,r6,r7,r8],_,[z0,z1,z2,z3,z4,z5,z6,z7,z8],_ =>
  cases hf:IX rm x
  .have wA:decide (rm<=(x.log.length:Int))=false:=hf
   cases gj:x.nl
   .rw[gj,aG (by decide)]at dQ
    have t1:List.take (x.log.length+1) (List.map (λx=>[I' x]) x.log++[[I' c.value]])=List.map (λx=>[I' x]) x.log++[[I' c.value]]:=gD (by simp)
    simp[hlt,hR,wA,K.row,Cl.row,gj,dQ,hr,t1,hnext,aJ,aD,sub,aE,back,ak,cut,aq,V.aY,bt,aX,bg,av,aZ,cG,cy,aO,aP,cu];simp[Dg,Cl.row]at bE;exact bE
   .have hE:=hk x zY gj
    rw[gj,aN rfl]at dQ;rw[hE]at wA dQ;have jX:1<=room:=by decide
    have hf3:decide (rm<=0)=false:=wA;simp[hlt,hR,hf3,K.row,Cl.row,gj,hE,dQ,jX,hnext,aJ,aD,sub,aE,back,ak,cut,aq,V.aY,bt,aX,bg,av,aZ,cG,cy,aO,aP,cu];simp[Dg,Cl.row,hE]at bE;exact bE
  .have wA:decide (rm<=(x.log.length:Int))=true:=hf
   simp[hlt,hR,wA,K.row,aJ,aD,sub,aE,back,ak,cut,aq,V.aY,bt,aX,bg,av,aZ,cG,cy,aO,aP,cu]
theorem agk(rm:Int)(C:List K):((C.map K.pl).any λx=>decide (rm<=x.log.length))=C.any (IX rm):=by
 rw[List.any_map];rfl
theorem agl(x y nm:D)(k sz ot:Int)(s:S)(hw:s.wf)(c:Cl)(hk:s.tk)(ht:cZ c.task=true)(hb:c.op=68):
  Rel (ev P (.call CV [.d (.ag [x,y]),.d (.ag [nm,I' k,I' sz,I' ot]),.d (.ag s.row),.d (.ag c.row)] [])) (eT (dc sz) s.pl c):=by
 have hB:=NX s.cn s.C c.task (by have:=hk.len;omega) hk.qX.qX hk.task ht
 have dQ:=NU s.cn s.C hw.c (by have:=hk.len;omega)
 have hlen:=hk.len;unfold eT;have kY:(c.op==69)=false:=by simp[hb]
 have mo:(c.op==71)=false:=by simp[hb]
 have gL:(c.op==70)=false:=by simp[hb]
 rw[kY,mo,gL,TV,agk];cases hf:s.cn
 .rw[hf,aG (by decide)]at dQ
  have hL:ev P (.loop 0 [5,6,7,8,14,15,31,32] Fq [(5,.d (.ref [nm,I' k,I' sz,I' ot])),(6,.loc 0 0 0),(7,.d (.ref c.row)),(8,.loc 1 0 0),(14,.aR 2 0 s.C.length),(15,.d (I' 0)),(31,.d (I' s.C.length)),(32,.d (I' 0))]
   [.aI 9 true [s.row],.aI 9 true [cq],.aI 2 true (s.C.map K.row)])=_:=agj nm k sz ot s.row cq rfl rfl s.C c hlen hw.k hk.log s.C [] rfl
  generalize s.C.any (IX (dc sz))=dd at *;rw[hf]at hB;generalize bI c.task (s.C.map K.task)=i at *;generalize decide ((s.C.map K.task)[i]?=some c.task)=g at *;rw[au IN rfl];simp only[S.row,hf,Cl.row,hb,cq]at hL;have e:(s.C.map K.pl).map (λx=>(⟨x.task,false,x.log++[c.value]⟩:K))=(s.C.map (ve c.value)).map K.pl:=by
   rw[ke,ke];rfl
  have e2:s.C.map (Dg c.value)=(s.C.map (ve c.value)).map K.row:=by
   rw[ke];exact vM λx _=>(agi c.value x).symm
  rw[e2]at hL;cases dd
  .rw[aG (by decide)]at hL
   refine Rel.gd {s with cn:=false,C:=s.C.map (ve c.value)} ?_ (by rw[e];simp[S.pl]) ⟨hw.h,hw.b,by simp,?_⟩
   .have t8:List.take s.C.length ((s.C.map (ve c.value)).map K.row)=(s.C.map (ve c.value)).map K.row:=gD (by simp)
    have hrow:cD false (s.C.map (ve c.value)) = .sl 2 false ((s.C.map (ve c.value)).map K.row):=rfl;have hRL:((s.C.map (ve c.value)).map K.row).length=s.C.length:=by simp
    simp only[S.row];rw[hrow];clear hrow;generalize (s.C.map (ve c.value)).map K.row=RR at *;simp[qP,Cl.row,hB,hb,hf,dQ,hL,hRL,t8,aJ,aD,sub,aE,back,ak,cut,aq,V.aY,bt,aX,bg,av,aZ,cG,cy,aO,aP,cu]
   .intro z hz
    obtain⟨w,_,rfl⟩:=gY.1 hz;simp[ve]
  .rw[aN rfl]at hL
   refine Rel.er s 29 ?_ (by simp) ⟨hw.h,hw.b,hw.c,hw.k⟩
   simp[qP,Cl.row,hB,hb,hf,dQ,hL,aJ,aD,sub,aE,back,ak,cut,aq,V.aY,bt,aX,bg,av,aZ,cG,cy,aO,aP,cu]
 .have hE:=hw.c hf
  rw[hf,aN rfl]at dQ;rw[hE]at dQ hB⊢;rw[hf]at hB;rw[au IN rfl];refine Rel.gd s ?_ (by simp[S.pl,hE]) hw
  simp[qP,Cl.row,hB,hb,hf,hE,dQ,Fq,bY,aJ,aD,sub,aE,back,ak,cut,aq,V.aY,bt,aX,bg,av,aZ,cG,cy,aO,aP,cu]
structure S.sz(s:S):Prop where
 h:s.H.length<=10000
 b:s.B.length<=10000
 q:s.Q.length<=10000
 c:s.C.length<=1000
 l:∀c∈s.C,c.log.length<=10000
theorem S.sz.sm{s:S}(h:s.sz):s.sm:=⟨by have:=h.h;omega,by have:=h.b;omega,by have:=h.q;omega,by have:=h.c;omega,λc hc=>by have:=h.l c hc;omega⟩
theorem qm{n:Int}{b:Bool}:(ck n b==0)=(n==0&&b):=by
 unfold ck;by_cases h:n=0
 .cases b<;>simp[h]
 .simp[h]
def wC(k sz:Int):List D:=if k=4\/k=8 then grow sz else gp
theorem agm(nm:D)(sz ot:Int)(s:S)(hq:s.Q=[])(hs:s.sm):
  ev P (.call vX [.d (.ag [.fn sM [] [],.fn oS [] []]),.d (.ag [nm,I' 1,I' sz,I' ot]),.d (.ag s.row)] [])=some (.val (.d (.b (cY 1 sz ot s))) []):=by
 have h:=Zf nm 1 sz ot s hq hs;have e:cY 1 sz ot s=(ck (dM 1 1 sz ot) (qR s)==0):=by
  unfold cY;rw[qm];simp[gq,gS,jq,iG,hq,qm]
 rw[e];simp only[S.row]at h;rw[au IM rfl];simp[C6,h,eG,eY]
theorem agn(nm:D)(sz ot:Int)(s:S)(hq:s.Q=[])(hs:s.sm):
  ev P (.call vX [.d (.ag [.fn sN [] [],.fn jB [] []]),.d (.ag [nm,I' 2,I' sz,I' ot]),.d (.ag s.row)] [])=some (.val (.d (.b (cY 2 sz ot s))) []):=by
 have h:=Zi nm 2 sz ot s hq hs;have e:cY 2 sz ot s=(ck (dM 2 2 sz ot) (okW s)==0):=by
  unfold cY;rw[qm];simp[gq,gS,jq,iG,hq,qm]
 rw[e];simp only[S.row]at h;rw[au IM rfl];simp[C6,h,eG,eY]
theorem ago(nm:D)(sz ot:Int)(s:S)(hq:s.Q=[])(hs:s.sm):
  ev P (.call vX [.d (.ag [.fn tF [] [],.fn p8 [] []]),.d (.ag [nm,I' 4,I' sz,I' ot]),.d (.ag s.row)] [])=some (.val (.d (.b (cY 4 sz ot s))) []):=by
 have h:=Zg nm 4 sz ot s hq hs;have e:cY 4 sz ot s=(ck (iU 4 sz ot) (qT sz s)==0):=by
  unfold cY;rw[qm];simp[gq,gS,jq,iG,hq,qm]
 rw[e];simp only[S.row]at h;rw[au IM rfl];simp[C6,h,eG,eY]
theorem agp(nm:D)(sz ot:Int)(s:S)(hq:s.Q=[])(hs:s.sm):
  ev P (.call vX [.d (.ag [.fn tK [] [],.fn ng [] []]),.d (.ag [nm,I' 8,I' sz,I' ot]),.d (.ag s.row)] [])=some (.val (.d (.b (cY 8 sz ot s))) []):=by
 have h:=Zj nm 8 sz ot s hq hs;have e:cY 8 sz ot s=(ck (jh 8 sz ot) (qU sz s)==0):=by
  unfold cY;rw[qm];simp[gq,gS,jq,iG,hq,qm]
 rw[e];simp only[S.row]at h;rw[au IM rfl];simp[C6,h,eG,eY]
theorem agq(nm:D)(sz ot:Int)(s:S)(hq:s.Q=[])(hs:s.sm):
  ev P (.call vX [.d (.ag [.fn tL [] [],.fn oU [] []]),.d (.ag [nm,I' 9,I' sz,I' ot]),.d (.ag s.row)] [])=some (.val (.d (.b (cY 9 sz ot s))) []):=by
 have h:=Zn nm 9 sz ot s hq;have e:cY 9 sz ot s=(ck (dM 9 9 sz ot) (okF s)==0):=by
  unfold cY;rw[qm];simp[gq,gS,jq,iG,hq,qm]
 rw[e];simp only[S.row]at h;rw[au IM rfl];simp[C6,h,eG,eY]
theorem agr(nm:D)(sz ot:Int)(s:S)(hq:s.Q=[])(hs:s.sm):
  ev P (.call R7 [.d (.ag [.fn tG [] [],.fn nJ [] []]),.d (.ag [nm,I' 5,I' sz,I' ot]),.d (.ag s.row)] [])=some (.val (.d (.b (cY 5 sz ot s))) []):=by
 have h:=Zh nm 5 sz ot {s with val:=0} hq ⟨hs.h,hs.b,hs.q,hs.c,hs.l⟩;have e:cY 5 sz ot s=(decide (0<=s.val)&&(decide (s.val<sz)&&(ck (iF 5 sz ot) (okB {s with val:=0})==0))):=by
  unfold cY;rw[qm];have e1:(decide (s.val<0)||decide (sz<=s.val))=!(decide (0<=s.val)&&decide (s.val<sz)):=by rw[y9];simp
  rw[e1];simp[gq,gS,jq,iG,hq,qm];cases(iF 5 sz ot==0)<;>cases decide (0<=s.val)<;>cases decide (s.val<sz)<;>simp
 rw[e];simp only[S.row]at h;generalize ck (iF 5 sz ot) (okB {s with val:=0})=r at *;rw[au afh rfl];cases h1:decide (0<=s.val)
 .simp[ID,h1]
 .cases h2:decide (s.val<sz)
  .simp[ID,h1,h2]
  .simp[ID,h1,h2,h,eG,eY]
theorem Zu(o c t:Int)(q:Bool):(bare o c t q).sm:=⟨by simp[bare],by simp[bare],by simp[bare],by simp[bare],by simp[bare]⟩
theorem ags(nm:D)(sz ot:Int)(s:S)(hq:s.Q=[])(hs:s.sm):
  ev P (.call R9 [.d (.ag [.fn tH [] [],.fn gn [] []]),.d (.ag [nm,I' 6,I' sz,I' ot]),.d (.ag s.row)] [])=some (.val (.d (.b (cY 6 sz ot s))) []):=by
 have h:=TN nm 6 (dc sz) ot s hq hs;have h0:=TN nm 6 sz ot (bare (-1) 0 0 true) rfl (Zu _ _ _ _);have hR:=NV nm 6 sz ot;have e0:(ck (gM 6 sz ot) (ni sz (bare (-1) 0 0 true))==0)=(gM 6 sz ot==0):=by
  rw[qm];cases hn:gM 6 sz ot==0
  .rfl
  .have:¬sz<0:=by
    intro hlt;have hn2:gM 6 sz ot=0:=by simpa using hn
    unfold gM at hn2;simp[hlt]at hn2
   simp[ni,wx,bare,this]
 have e:cY 6 sz ot s=((gM 6 sz ot==0)&&(ck (gM 6 (dc sz) ot) (ni (dc sz) s)==0)):=by
  unfold cY;simp[gq,gS,jq,iG,hq]
 rw[e,<-e0];simp only[S.row]at h;generalize ck (gM 6 (dc sz) ot) (ni (dc sz) s)=r at *;generalize ck (gM 6 sz ot) (ni sz (bare (-1) 0 0 true))=r0 at *;have h0:ev P (.call gn [.d (.ag [nm,I' 6,I' sz,I' ot]),.d (.ag [I' (-1),I' 0,I' 0,.sl 1 true [],.sl 5 true [],.sl 1 true [],.sl 2 true [],.b false,I' 0])] [])=some (.val (.d (I' r0)) []):=h0;rw[au afk rfl];cases h1:r0==0
 .simp[Nx,h0,h1,eG,eY]
 .simp[Nx,h0,h1,hR,h,eG,eY]
theorem agt(nm:D)(sz ot:Int)(s:S)(hq:s.Q=[])(hs:s.sm):
  ev P (.call Sb [.d (.ag [.fn tJ [] [],.fn rS [] []]),.d (.ag [nm,I' 7,I' sz,I' ot]),.d (.ag s.row)] [])=some (.val (.d (.b (cY 7 sz ot s))) []):=by
 have h:=oA nm 7 (dc sz) ot s hs;have h0:=oA nm 7 sz ot (bare (-1) 0 0 true) (Zu _ _ _ _);have hR:=NV nm 7 sz ot;have e0:(dX 7 sz ot (bare (-1) 0 0 true)==0)=(dN 7 sz ot==0):=by
  unfold dX;by_cases hn:dN 7 sz ot=0
  .simp[hn,S.good,bare,vc,tq,dY,fT,S.uY]
  .simp[hn]
 have e:cY 7 sz ot s=((dN 7 sz ot==0)&&(dX 7 (dc sz) ot s==0)):=by
  unfold cY;simp[gq,gS,jq,iG,hq]
 rw[e,<-e0];simp only[S.row]at h;generalize dX 7 (dc sz) ot s=r at *;generalize dX 7 sz ot (bare (-1) 0 0 true)=r0 at *;have h0:ev P (.call rS [.d (.ag [nm,I' 7,I' sz,I' ot]),.d (.ag [I' (-1),I' 0,I' 0,.sl 1 true [],.sl 5 true [],.sl 1 true [],.sl 2 true [],.b false,I' 0])] [])=some (.val (.d (I' r0)) []):=h0;rw[au afp rfl];cases h1:r0==0
 .simp[Ny,h0,h1,eG,eY]
 .simp[Ny,h0,h1,hR,h,eG,eY]
theorem pg{k sz ot:Int}{s:S}(h:cY k sz ot s=true):gq k sz ot=0/\s.Q=[]/\(k=5->0<=s.val/\s.val<sz)/\gS k (jq k sz) ot (iG k s)=0:=by
 unfold cY at h;simp only[bD,dO,Ky]at h;obtain⟨⟨⟨h1,h2⟩,h3⟩,h4⟩:=h;refine⟨h1,h2,λh5=>?_,h4⟩
 simp[h5]at h3;omega
theorem Dh{n:Int}{b:Bool}(h:ck n b=0):b=true:=by
 have:(ck n b==0)=true:=by simp[h]
 rw[qm,bD]at this;exact this.2
theorem Di{n:Int}{b:Bool}(h:ck n b=0):n=0:=by
 have:(ck n b==0)=true:=by simp[h]
 rw[qm,bD]at this;simpa using this.1
theorem Zv{sz ot:Int}{s:S}(h:cY 1 sz ot s=true):qR s=true:=by
 obtain⟨_,_,_,h⟩:=pg h;exact Dh (by simpa[gS,jq,iG]using h)
theorem Zw{sz ot:Int}{s:S}(h:cY 2 sz ot s=true):okW s=true:=by
 obtain⟨_,_,_,h⟩:=pg h;exact Dh (by simpa[gS,jq,iG]using h)
theorem TX{sz ot:Int}{s:S}(h:cY 4 sz ot s=true):iU 4 sz ot=0/\qT sz s=true:=by
 obtain⟨_,_,_,h⟩:=pg h;have h:ck (iU 4 sz ot) (qT sz s)=0:=by simpa[gS,jq,iG]using h
 exact⟨Di h,Dh h⟩
theorem Zx{sz ot:Int}{s:S}(h:cY 5 sz ot s=true):iF 5 sz ot=0/\okB {s with val:=0}=true/\0<=s.val/\s.val<sz:=by
 obtain⟨_,_,h5,h⟩:=pg h;have h:ck (iF 5 sz ot) (okB {s with val:=0})=0:=by simpa[gS,jq,iG]using h
 exact⟨Di h,Dh h,h5 rfl⟩
theorem agu{sz ot:Int}{s:S}(h:cY 6 sz ot s=true):gM 6 sz ot=0/\ni (dc sz) s=true:=by
 obtain⟨h0,_,_,h⟩:=pg h;have h:ck (gM 6 (dc sz) ot) (ni (dc sz) s)=0:=by simpa[gS,jq,iG]using h
 exact⟨by simpa[gq]using h0,Dh h⟩
theorem Zy{sz ot:Int}{s:S}(h:cY 7 sz ot s=true):dN 7 sz ot=0/\S.good (dc sz) s=true:=by
 obtain⟨h0,_,_,h⟩:=pg h;have h:dX 7 (dc sz) ot s=0:=by simpa[gS,jq,iG]using h
 refine⟨by simpa[gq]using h0,?_⟩
 unfold dX at h;split at h
 .split at h
  .assumption
  .simp at h
 .rename_i h2;exact absurd h h2
theorem Zz{sz ot:Int}{s:S}(h:cY 8 sz ot s=true):jh 8 sz ot=0/\qU sz s=true:=by
 obtain⟨_,_,_,h⟩:=pg h;have h:ck (jh 8 sz ot) (qU sz s)=0:=by simpa[gS,jq,iG]using h
 exact⟨Di h,Dh h⟩
theorem agv{s:S}(h:qR s=true):s.own = -1\/cZ s.own=true:=by
 unfold qR at h;simp at h;exact h.1
theorem ZA{n:Int}(h:cZ n=true):0<=n/\n<16:=NW.1 h
theorem agw{s:S}(h:okW s=true):gH s.H/\(∀x∈s.H,cZ x=true)/\(s.own = -1\/(cZ s.own=true/\s.H=[])):=by
 unfold okW at h;rw[bD]at h;obtain⟨h1,h2⟩:=h;obtain⟨_,h3,h4⟩:=(NS s.H none).1 h2;refine⟨h3,h4,?_⟩;unfold Dd at h1;rw[NQ]at h1;by_cases ho:s.own = -1
 .exact .inl ho
 .right
  simp[ho]at h1;obtain⟨⟨⟨⟨⟨⟨h5,_⟩,_⟩,_⟩,_⟩,_⟩,_⟩:=h1;exact h5
theorem ZB{sz ot:Int}(h:iU 4 sz ot=0):1<=sz/\sz<=100:=by
 unfold iU at h;simp at h;omega
theorem ZC{sz ot:Int}(h:iF 5 sz ot=0):1<=sz/\sz<=100:=by
 unfold iF at h;simp at h;omega
theorem TY{sz ot:Int}(h:jh 8 sz ot=0):1<=sz/\sz<=100/\1<=ot/\ot<=1099511627776:=by
 unfold jh at h;simp at h;omega
theorem ZD{sz:Int}{s:S}(h:qT sz s=true):0<=s.cnt/\s.cnt<=sz:=by
 unfold qT at h;simp at h;omega
theorem agx{s:S}(h:okB s=true):0<=s.cnt/\s.cnt<=1099511627776:=by
 unfold okB at h;simp at h;omega
theorem ZE{sz:Int}{s:S}(h:qU sz s=true):(0<=s.cnt/\s.cnt<=sz)/\0<=s.time/\s.time<=1099511627776:=by
 unfold qU at h;simp at h;omega
theorem agy{sz:Int}{s:S}(h:S.good sz s=true):gH (qW s)/\∀x∈s.C,cZ x.task=true/\¬sz<x.log.length/\x.log.all num=true:=by
 unfold S.good at h;simp only[bD]at h;obtain⟨_,h1,h2⟩:=(NT sz s.C none).1 h.1.2.1;exact⟨h1,h2⟩
theorem TZ{c:Cl}(h:cM c=false):cZ c.task=true/\0<=c.now/\c.now<=1099511627776:=by
 unfold cM at h;simp at h;refine⟨NW.2 (by omega),by omega,by omega⟩
theorem agz(nm:D)(sz ot:Int)(s:S)(c:Cl)(hw:s.wf)(hz:s.sz)(ha:cY 1 sz ot s=true)(hc:cM c=false)(hb:dJ 1 c.op=true)(hf:fit 1 sz c=true):
  Rel (ev P (.call Mj [.d (.ag [.fn sM [] [],.fn oS [] []]),.d (.ag [nm,I' 1,I' sz,I' ot]),.d (.ag s.row),.d (.ag c.row)] [])) (raw 1 sz ot s.pl c):=by
 have h1:=agv (Zv ha);have h2:s.own = -1\/0<=s.own:=by
  rcases h1 with h |h
  .exact .inl h
  .exact .inr (ZA h).1
 have e:raw 1 sz ot s.pl c=eM s.pl c:=rfl;rw[e];exact afZ _ rfl _ _ s hw c h2
theorem agA(nm:D)(sz ot:Int)(s:S)(c:Cl)(hw:s.wf)(hz:s.sz)(ha:cY 2 sz ot s=true)(hc:cM c=false)(hb:dJ 2 c.op=true)(hf:fit 2 sz c=true):
  Rel (ev P (.call Mk [.d (.ag [.fn sN [] [],.fn jB [] []]),.d (.ag [nm,I' 2,I' sz,I' ot]),.d (.ag s.row),.d (.ag c.row)] [])) (raw 2 sz ot s.pl c):=by
 obtain⟨h1,h2,h3⟩:=agw (Zw ha);have h4:s.own = -1\/0<=s.own:=by
  rcases h3 with h |h
  .exact .inl h
  .exact .inr (ZA h.1).1
 have h5:s.own = -1\/s.H=[]:=by
  rcases h3 with h |h
  .exact .inl h
  .exact .inr h.2
 have hl:=hz.h;have e:raw 2 sz ot s.pl c=eW s.pl c:=rfl;rw[e];exact af9 _ rfl _ _ s hw c h1 (by omega) h4
theorem agB(nm:D)(sz ot:Int)(s:S)(c:Cl)(hw:s.wf)(hz:s.sz)(ha:cY 4 sz ot s=true)(hc:cM c=false)(hb:dJ 4 c.op=true)(hf:fit 4 sz c=true):
  Rel (ev P (.call Ml [.d (.ag [.fn tF [] [],.fn p8 [] []]),.d (.ag [nm,I' 4,I' sz,I' ot]),.d (.ag s.row),.d (.ag c.row)] [])) (raw 4 sz ot s.pl c):=by
 obtain⟨h1,h2⟩:=TX ha;have h3:=ZB h1;have h4:=ZD h2;have h5:1<=c.value/\c.value<=sz:=by simpa[fit]using hf
 have e:raw 4 sz ot s.pl c=eS sz s.pl c:=rfl;rw[e];exact af0 _ _ nm 4 sz ot s hw c h3.2 h4 h5
theorem agC(nm:D)(sz ot:Int)(s:S)(c:Cl)(hw:s.wf)(hz:s.sz)(ha:cY 5 sz ot s=true)(hc:cM c=false)(hb:dJ 5 c.op=true)(hf:fit 5 sz c=true):
  Rel (ev P (.call Mm [.d (.ag [.fn tG [] [],.fn nJ [] []]),.d (.ag [nm,I' 5,I' sz,I' ot]),.d (.ag s.row),.d (.ag c.row)] [])) (raw 5 sz ot s.pl c):=by
 obtain⟨h1,h2,h3,h4⟩:=Zx ha;have h5:=ZC h1;have h6:=agx h2;simp only at h6;have e:raw 5 sz ot s.pl c=eB sz s.pl:=rfl;rw[e];exact af1 _ rfl _ _ nm 5 sz ot s hw h5.2 ⟨h3,h4⟩ h6
theorem agD(nm:D)(sz ot:Int)(s:S)(c:Cl)(hw:s.wf)(hz:s.sz)(ha:cY 6 sz ot s=true)(hc:cM c=false)(hb:dJ 6 c.op=true)(hf:fit 6 sz c=true):
  Rel (ev P (.call Mn [.d (.ag [.fn tH [] [],.fn gn [] []]),.d (.ag [nm,I' 6,I' sz,I' ot]),.d (.ag s.row),.d (.ag c.row)] [])) (raw 6 sz ot s.pl c):=by
 have h1:c.op=64\/c.op=65\/c.op=66:=by
  simp[dJ]at hb;omega
 have hl:=hz.b;have e:raw 6 sz ot s.pl c=eC (dc sz) s.pl c:=rfl;rw[e];exact agc _ _ nm 6 sz ot s hw c h1 (by omega)
theorem agE(nm:D)(sz ot:Int)(s:S)(c:Cl)(hw:s.wf)(hz:s.sz)(ha:cY 7 sz ot s=true)(hc:cM c=false)(hb:dJ 7 c.op=true)(hf:fit 7 sz c=true):
  Rel (ev P (.call CV [.d (.ag [.fn tJ [] [],.fn rS [] []]),.d (.ag [nm,I' 7,I' sz,I' ot]),.d (.ag s.row),.d (.ag c.row)] [])) (raw 7 sz ot s.pl c):=by
 obtain⟨_,h1⟩:=Zy ha;obtain⟨h2,h3⟩:=agy h1;have hk:s.tk:=⟨h2,λx hx=>(h3 x hx).1,hz.c,λx hx=>by have:=hz.l x hx;omega⟩
 have ht:=(TZ hc).1;have h4:c.op=68\/c.op=69\/c.op=70\/c.op=71:=by
  simp[dJ]at hb;omega
 have e:raw 7 sz ot s.pl c=eT (dc sz) s.pl c:=rfl;rw[e];rcases h4 with h |h |h |h
 .exact agl _ _ nm 7 sz ot s hw c hk ht h
 .exact age _ _ nm 7 sz ot s hw c hk ht h
 .exact agh _ _ nm 7 sz ot s hw c hk ht h
 .exact agf _ _ nm 7 sz ot s hw c hk ht h
theorem agF(nm:D)(sz ot:Int)(s:S)(c:Cl)(hw:s.wf)(hz:s.sz)(ha:cY 8 sz ot s=true)(hc:cM c=false)(hb:dJ 8 c.op=true)(hf:fit 8 sz c=true):
  Rel (ev P (.call Mr [.d (.ag [.fn tK [] [],.fn ng [] []]),.d (.ag [nm,I' 8,I' sz,I' ot]),.d (.ag s.row),.d (.ag c.row)] [])) (raw 8 sz ot s.pl c):=by
 obtain⟨h1,h2⟩:=Zz ha;have h3:=TY h1;have h4:=ZE h2;have h5:=(TZ hc).2;have h6:c.op=72\/c.op=75:=by simpa[dJ]using hb
 have h7:c.op=72->1<=c.value/\c.value<=sz:=by
  intro h;simpa[fit,h]using hf
 have e:raw 8 sz ot s.pl c=eL sz ot s.pl c:=rfl;rw[e];exact af3 _ _ nm 8 sz ot s hw c ⟨h3.1,h3.2.1⟩ h3.2.2 h4.1 h4.2 h5 h6 h7
theorem agG(nm:D)(sz ot:Int)(s:S)(c:Cl)(hw:s.wf)(hz:s.sz)(ha:cY 9 sz ot s=true)(hc:cM c=false)(hb:dJ 9 c.op=true)(hf:fit 9 sz c=true):
  Rel (ev P (.call Ms [.d (.ag [.fn tL [] [],.fn oU [] []]),.d (.ag [nm,I' 9,I' sz,I' ot]),.d (.ag s.row),.d (.ag c.row)] [])) (raw 9 sz ot s.pl c):=by
 have h1:c.op=73\/c.op=74:=by simpa[dJ]using hb
 have e:raw 9 sz ot s.pl c=eF s.pl c:=rfl;rw[e];exact af2 _ rfl _ _ s hw c h1
theorem ZF(sz:Int):∀(C:List K)(p:Option K),vc sz (p.map K.pl) (C.map K.pl)=vc sz p C
 | [],_=>rfl
 |c::C,p=>by
  have ih:=ZF sz C (some c);have e:lR sz (p.map K.pl) (K.pl c)=lR sz p c:=by
   unfold lR;cases p<;>rfl
  show(!lR sz (p.map K.pl) (K.pl c)&&((K.pl c).log.all num&&vc sz ((some c).map K.pl) (C.map K.pl)))=(!lR sz p c&&(c.log.all num&&vc sz (some c) C))
  rw[e,ih];rfl
theorem ZG(k sz ot:Int)(s:S)(hq:s.Q=[]):gS k sz ot s.pl=gS k sz ot s:=by
 have hl:s.pl.C.length=s.C.length:=by simp[S.pl]
 have e1:qR s.pl=qR s:=by unfold qR;rw[hl];first |done |rfl
 have e2:okW s.pl=okW s:=by unfold okW Dd;rw[hl];first |done |rfl
 have e3:qT sz s.pl=qT sz s:=by unfold qT;rw[hl];first |done |rfl
 have e4:okB s.pl=okB s:=by unfold okB;rw[hl];first |done |rfl
 have e5:ni sz s.pl=ni sz s:=by unfold ni wx;rw[hl];first |done |rfl
 have e6:dX k sz ot s.pl=dX k sz ot s:=by
  have h1:s.pl.Q=[]:=hq;have h2:=ZF sz s.C none;simp only[Option.map_none]at h2;unfold dX S.good;rw[h1,hq];have h3:s.pl.C=s.C.map K.pl:=rfl;have h4:s.pl.uY=s.uY:=rfl;have h5:s.pl.own=s.own:=rfl;rw[h3,h2,h4,h5];rfl
 have e7:qU sz s.pl=qU sz s:=by unfold qU;rw[hl];first |done |rfl
 have e8:okF s.pl=okF s:=by simp[okF,u7,S.pl,Ky]
 unfold gS;rw[e1,e2,e3,e4,e5,e6,e7,e8]
theorem Bu(k sz ot:Int)(s:S):cY k sz ot s.pl=cY k sz ot s:=by
 unfold cY;have h1:s.pl.Q=s.Q:=rfl;have h2:s.pl.val=s.val:=rfl;have h3:iG k s.pl=(iG k s).pl:=by unfold iG;split<;>rfl
 rw[h1,h2,h3];by_cases hq:s.Q=[]
 .rw[ZG _ _ _ _ (by unfold iG;split<;>simp[hq])]
 .have:s.Q.isEmpty=false:=by simpa[Ky]using hq
  simp[this]
theorem ZH{k sz ot:Int}(h:gq k sz ot=0):k=1\/k=2\/k=4\/k=5\/k=6\/k=7\/k=8\/k=9:=by
 by_cases h1:k=1
 .exact .inl h1
 by_cases h2:k=2
 .exact .inr (.inl h2)
 by_cases h4:k=4
 .exact .inr (.inr (.inl h4))
 by_cases h5:k=5
 .exact .inr (.inr (.inr (.inl h5)))
 by_cases h6:k=6
 .exact .inr (.inr (.inr (.inr (.inl h6))))
 by_cases h7:k=7
 .exact .inr (.inr (.inr (.inr (.inr (.inl h7)))))
 by_cases h8:k=8
 .exact .inr (.inr (.inr (.inr (.inr (.inr (.inl h8))))))
 by_cases h9:k=9
 .exact .inr (.inr (.inr (.inr (.inr (.inr (.inr h9))))))
 simp[gq,h1,h2,h4,h5,h6,h7,h8,h9]at h
theorem ZI{k sz ot:Int}{s:S}(h:cY k sz ot s=true):k=1\/k=2\/k=4\/k=5\/k=6\/k=7\/k=8\/k=9:=ZH (pg h).1
theorem agH:zN.wf:=⟨λ_=>rfl,λ_=>rfl,λ_=>rfl,by simp[zN]⟩
theorem Rel.fail{R:Option dL}(e:Int)(h:R=some (.val (.tu [.d (.ag cq),.d (I' 0),.d (.b false),.d (I' e)]) [])):Rel R (Sp.er zS e):=⟨zN,h,rfl,agH⟩
theorem eI(e:Int):ev P (.call Q9 [.d (I' e)] [])=some (.val (.tu [.d (.ag cq),.d (I' 0),.d (.b false),.d (I' e)]) []):=by
 rw[au adw rfl];simp[Sj,cq]
theorem tX:ev P (.call qK [.d (I' 1)] [])=some (.val (.tu [.d (.kf 101 (.ag [.fn sM [] [],.fn oS [] []])),.d (.b true)]) []):=by
 rw[au zK rfl];simp[vZ,uG]
theorem rZ:ev P (.call qK [.d (I' 2)] [])=some (.val (.tu [.d (.kf 102 (.ag [.fn sN [] [],.fn jB [] []])),.d (.b true)]) []):=by
 rw[au zK rfl];simp[vZ,uG]
theorem qY:ev P (.call qK [.d (I' 4)] [])=some (.val (.tu [.d (.kf 103 (.ag [.fn tF [] [],.fn p8 [] []])),.d (.b true)]) []):=by
 rw[au zK rfl];simp[vZ,uG]
theorem Aa:ev P (.call qK [.d (I' 5)] [])=some (.val (.tu [.d (.kf 104 (.ag [.fn tG [] [],.fn nJ [] []])),.d (.b true)]) []):=by
 rw[au zK rfl];simp[vZ,uG]
theorem sV:ev P (.call qK [.d (I' 6)] [])=some (.val (.tu [.d (.kf 105 (.ag [.fn tH [] [],.fn gn [] []])),.d (.b true)]) []):=by
 rw[au zK rfl];simp[vZ,uG]
theorem qZ:ev P (.call qK [.d (I' 7)] [])=some (.val (.tu [.d (.kf 106 (.ag [.fn tJ [] [],.fn rS [] []])),.d (.b true)]) []):=by
 rw[au zK rfl];simp[vZ,uG]
theorem vf:ev P (.call qK [.d (I' 8)] [])=some (.val (.tu [.d (.kf 107 (.ag [.fn tK [] [],.fn ng [] []])),.d (.b true)]) []):=by
 rw[au zK rfl];simp[vZ,uG]
theorem vg:ev P (.call qK [.d (I' 9)] [])=some (.val (.tu [.d (.kf 108 (.ag [.fn tL [] [],.fn oU [] []])),.d (.b true)]) []):=by
 rw[au zK rfl];simp[vZ,uG]
theorem N0{k:Int}(h:¬(k=1\/k=2\/k=4\/k=5\/k=6\/k=7\/k=8\/k=9)):ev P (.call qK [.d (I' k)] [])=some (.val (.tu [.d .AV,.d (.b false)]) []):=by
 have b1:(k==1)=false:=by simp;omega
 have b2:(k==2)=false:=by simp;omega
 have b4:(k==4)=false:=by simp;omega
 have b5:(k==5)=false:=by simp;omega
 have b6:(k==6)=false:=by simp;omega
 have b7:(k==7)=false:=by simp;omega
 have b8:(k==8)=false:=by simp;omega
 have b9:(k==9)=false:=by simp;omega
 rw[au zK rfl];simp[vZ,b1,b2,b4,b5,b6,b7,b8,b9]
theorem Dj:ev P (.call x8 [.d (I' 1)] [])=some (.val (.mp 0) [.mp [(I' 50,.d (I' 0)),(I' 51,.d (I' 0)),(I' 52,.d (I' 0))]]):=by
 rw[au Bq rfl];simp[yf,az,ak,cut,aq]
theorem Ab:ev P (.call x8 [.d (I' 2)] [])=some (.val (.mp 0) [.mp [(I' 53,.d (I' 0)),(I' 54,.d (I' 0)),(I' 55,.d (I' 0)),(I' 56,.d (I' 0))]]):=by
 rw[au Bq rfl];simp[yf,az,ak,cut,aq]
theorem yp:ev P (.call x8 [.d (I' 4)] [])=some (.val (.mp 0) [.mp [(I' 60,.d (I' 1)),(I' 61,.d (I' 1)),(I' 62,.d (I' 1))]]):=by
 rw[au Bq rfl];simp[yf,az,ak,cut,aq]
theorem T0:ev P (.call x8 [.d (I' 5)] [])=some (.val (.mp 0) [.mp [(I' 63,.d (I' 0))]]):=by
 rw[au Bq rfl];simp[yf,az,ak,cut,aq]
theorem Bv:ev P (.call x8 [.d (I' 6)] [])=some (.val (.mp 0) [.mp [(I' 64,.d (I' 2)),(I' 65,.d (I' 0)),(I' 66,.d (I' 0))]]):=by
 rw[au Bq rfl];simp[yf,az,ak,cut,aq]
theorem yq:ev P (.call x8 [.d (I' 7)] [])=some (.val (.mp 0) [.mp [(I' 68,.d (I' 2)),(I' 69,.d (I' 0)),(I' 70,.d (I' 0)),(I' 71,.d (I' 0))]]):=by
 rw[au Bq rfl];simp[yf,az,ak,cut,aq]
theorem FE:ev P (.call x8 [.d (I' 8)] [])=some (.val (.mp 0) [.mp [(I' 72,.d (I' 1)),(I' 75,.d (I' 0))]]):=by
 rw[au Bq rfl];simp[yf,az,ak,cut,aq]
theorem FF:ev P (.call x8 [.d (I' 9)] [])=some (.val (.mp 0) [.mp [(I' 73,.d (I' 2)),(I' 74,.d (I' 0))]]):=by
 rw[au Bq rfl];simp[yf,az,ak,cut,aq]
set_option maxHeartbeats 4000000 in
theorem agI(nm:D)(sz ot:Int)(s:S)(c:Cl)(hw:s.wf)(hz:s.sz):
  Rel (ev P (.call uM [.d (.ag [nm,I' 1,I' sz,I' ot]),.d (.ag s.row),.d (.ag c.row)] [])) (eE 1 sz ot s.pl c):=by
 unfold eE;rw[Bu];rw[au zJ rfl];by_cases hq:s.Q=[]
 .have hA:=agm nm sz ot s hq hz.sm
  simp only[S.row,hq]at hA;cases ha:cY 1 sz ot s
  .rw[ha]at hA
   rw[aN rfl];exact Rel.fail 1 (by simp[dn,Cl.row,tX,hq,hA,cQ,eI,cq])
  .rw[ha]at hA
   rw[aG (by decide)]
   cases hc:cM c
   .rw[aG (by decide)]
    have gF:=hc;have hE:=λhb hf=>agz nm sz ot s c hw hz ha gF hb hf
    unfold cM at hc;obtain⟨tk,op,va,pr,nw⟩:=c;simp only at hc;by_cases ZJ:op=50
    .subst ZJ
     have hb:dJ 1 50=true:=by decide
     simp only[hb];rw[aG (by decide)]
     have hf:fit 1 sz ⟨tk,50,va,pr,nw⟩=true:=by simp[fit]
     rw[hf,aG (by decide)]
     obtain⟨s',h1,h2,h3⟩:=hE hb hf;generalize raw 1 sz ot s.pl ⟨tk,50,va,pr,nw⟩=r at *;simp only[S.row,Cl.row,hq]at h1;cases he:r.2.2.2==0
     .have bV:¬r.2.2.2=0:=by simpa using he
      have gk:(r.2.2.2 != 0)=true:=by simpa using bV
      rw[aG bV];exact Rel.fail _ (by simp[dn,Cl.row,tX,hq,hA,hc,Dj,cQ,h1,gk,eI,cq,aJ,ak,cut,aq])
     .have bV:r.2.2.2=0:=by simpa using he
      rw[aN bV];refine⟨s',?_,h2,h3⟩;simp[dn,Cl.row,tX,hq,hA,hc,Dj,cQ,h1,bV,cq,aJ,ak,cut,aq]
    by_cases ZK:op=51
    .subst ZK
     have hb:dJ 1 51=true:=by decide
     simp only[hb];rw[aG (by decide)]
     have hf:fit 1 sz ⟨tk,51,va,pr,nw⟩=true:=by simp[fit]
     rw[hf,aG (by decide)]
     obtain⟨s',h1,h2,h3⟩:=hE hb hf;generalize raw 1 sz ot s.pl ⟨tk,51,va,pr,nw⟩=r at *;simp only[S.row,Cl.row,hq]at h1;cases he:r.2.2.2==0
     .have bV:¬r.2.2.2=0:=by simpa using he
      have gk:(r.2.2.2 != 0)=true:=by simpa using bV
      rw[aG bV];exact Rel.fail _ (by simp[dn,Cl.row,tX,hq,hA,hc,Dj,cQ,h1,gk,eI,cq,aJ,ak,cut,aq])
     .have bV:r.2.2.2=0:=by simpa using he
      rw[aN bV];refine⟨s',?_,h2,h3⟩;simp[dn,Cl.row,tX,hq,hA,hc,Dj,cQ,h1,bV,cq,aJ,ak,cut,aq]
    by_cases ZL:op=52
    .subst ZL
     have hb:dJ 1 52=true:=by decide
     simp only[hb];rw[aG (by decide)]
     have hf:fit 1 sz ⟨tk,52,va,pr,nw⟩=true:=by simp[fit]
     rw[hf,aG (by decide)]
     obtain⟨s',h1,h2,h3⟩:=hE hb hf;generalize raw 1 sz ot s.pl ⟨tk,52,va,pr,nw⟩=r at *;simp only[S.row,Cl.row,hq]at h1;cases he:r.2.2.2==0
     .have bV:¬r.2.2.2=0:=by simpa using he
      have gk:(r.2.2.2 != 0)=true:=by simpa using bV
      rw[aG bV];exact Rel.fail _ (by simp[dn,Cl.row,tX,hq,hA,hc,Dj,cQ,h1,gk,eI,cq,aJ,ak,cut,aq])
     .have bV:r.2.2.2=0:=by simpa using he
      rw[aN bV];refine⟨s',?_,h2,h3⟩;simp[dn,Cl.row,tX,hq,hA,hc,Dj,cQ,h1,bV,cq,aJ,ak,cut,aq]
    have hb:dJ 1 op=false:=by
     cases hh:dJ 1 op
     .rfl
     .exfalso
      simp[dJ]at hh;omega
    simp only[hb];rw[aN trivial];exact Rel.fail 8 (by simp[dn,Cl.row,tX,hq,hA,hc,Dj,ZJ,ZK,ZL,cQ,eI,cq,aJ,ak,cut,aq])
   .rw[aN rfl]
    unfold cM at hc;exact Rel.fail 2 (by simp[dn,Cl.row,tX,hq,hA,hc,cQ,eI,cq])
 .have ha:cY 1 sz ot s=false:=by
   cases hh:cY 1 sz ot s
   .rfl
   .exact absurd (pg hh).2.1 hq
  rw[ha,aN rfl];have hp:0<s.Q.length:=rK.2 hq;exact Rel.fail 1 (by simp[dn,Cl.row,tX,hp,eI,cq])
set_option maxHeartbeats 4000000 in
theorem agJ(nm:D)(sz ot:Int)(s:S)(c:Cl)(hw:s.wf)(hz:s.sz):
  Rel (ev P (.call uM [.d (.ag [nm,I' 2,I' sz,I' ot]),.d (.ag s.row),.d (.ag c.row)] [])) (eE 2 sz ot s.pl c):=by
 unfold eE;rw[Bu];rw[au zJ rfl];by_cases hq:s.Q=[]
 .have hA:=agn nm sz ot s hq hz.sm
  simp only[S.row,hq]at hA;cases ha:cY 2 sz ot s
  .rw[ha]at hA
   rw[aN rfl];exact Rel.fail 1 (by simp[dn,Cl.row,rZ,hq,hA,cQ,eI,cq])
  .rw[ha]at hA
   rw[aG (by decide)]
   cases hc:cM c
   .rw[aG (by decide)]
    have gF:=hc;have hE:=λhb hf=>agA nm sz ot s c hw hz ha gF hb hf
    unfold cM at hc;obtain⟨tk,op,va,pr,nw⟩:=c;simp only at hc;by_cases Dk:op=53
    .subst Dk
     have hb:dJ 2 53=true:=by decide
     simp only[hb];rw[aG (by decide)]
     have hf:fit 2 sz ⟨tk,53,va,pr,nw⟩=true:=by simp[fit]
     rw[hf,aG (by decide)]
     obtain⟨s',h1,h2,h3⟩:=hE hb hf;generalize raw 2 sz ot s.pl ⟨tk,53,va,pr,nw⟩=r at *;simp only[S.row,Cl.row,hq]at h1;cases he:r.2.2.2==0
     .have bV:¬r.2.2.2=0:=by simpa using he
      have gk:(r.2.2.2 != 0)=true:=by simpa using bV
      rw[aG bV];exact Rel.fail _ (by simp[dn,Cl.row,rZ,hq,hA,hc,Ab,cQ,h1,gk,eI,cq,aJ,ak,cut,aq])
     .have bV:r.2.2.2=0:=by simpa using he
      rw[aN bV];refine⟨s',?_,h2,h3⟩;simp[dn,Cl.row,rZ,hq,hA,hc,Ab,cQ,h1,bV,cq,aJ,ak,cut,aq]
    by_cases yt:op=54
    .subst yt
     have hb:dJ 2 54=true:=by decide
     simp only[hb];rw[aG (by decide)]
     have hf:fit 2 sz ⟨tk,54,va,pr,nw⟩=true:=by simp[fit]
     rw[hf,aG (by decide)]
     obtain⟨s',h1,h2,h3⟩:=hE hb hf;generalize raw 2 sz ot s.pl ⟨tk,54,va,pr,nw⟩=r at *;simp only[S.row,Cl.row,hq]at h1;cases he:r.2.2.2==0
     .have bV:¬r.2.2.2=0:=by simpa using he
      have gk:(r.2.2.2 != 0)=true:=by simpa using bV
      rw[aG bV];exact Rel.fail _ (by simp[dn,Cl.row,rZ,hq,hA,hc,Ab,cQ,h1,gk,eI,cq,aJ,ak,cut,aq])
     .have bV:r.2.2.2=0:=by simpa using he
      rw[aN bV];refine⟨s',?_,h2,h3⟩;simp[dn,Cl.row,rZ,hq,hA,hc,Ab,cQ,h1,bV,cq,aJ,ak,cut,aq]
    by_cases lT:op=55
    .subst lT
     have hb:dJ 2 55=true:=by decide
     simp only[hb];rw[aG (by decide)]
     have hf:fit 2 sz ⟨tk,55,va,pr,nw⟩=true:=by simp[fit]
     rw[hf,aG (by decide)]
     obtain⟨s',h1,h2,h3⟩:=hE hb hf;generalize raw 2 sz ot s.pl ⟨tk,55,va,pr,nw⟩=r at *;simp only[S.row,Cl.row,hq]at h1;cases he:r.2.2.2==0
     .have bV:¬r.2.2.2=0:=by simpa using he
      have gk:(r.2.2.2 != 0)=true:=by simpa using bV
      rw[aG bV];exact Rel.fail _ (by simp[dn,Cl.row,rZ,hq,hA,hc,Ab,cQ,h1,gk,eI,cq,aJ,ak,cut,aq])
     .have bV:r.2.2.2=0:=by simpa using he
      rw[aN bV];refine⟨s',?_,h2,h3⟩;simp[dn,Cl.row,rZ,hq,hA,hc,Ab,cQ,h1,bV,cq,aJ,ak,cut,aq]
    by_cases IY:op=56
    .subst IY
     have hb:dJ 2 56=true:=by decide
     simp only[hb];rw[aG (by decide)]
     have hf:fit 2 sz ⟨tk,56,va,pr,nw⟩=true:=by simp[fit]
     rw[hf,aG (by decide)]
     obtain⟨s',h1,h2,h3⟩:=hE hb hf;generalize raw 2 sz ot s.pl ⟨tk,56,va,pr,nw⟩=r at *;simp only[S.row,Cl.row,hq]at h1;cases he:r.2.2.2==0
     .have bV:¬r.2.2.2=0:=by simpa using he
      have gk:(r.2.2.2 != 0)=true:=by simpa using bV
      rw[aG bV];exact Rel.fail _ (by simp[dn,Cl.row,rZ,hq,hA,hc,Ab,cQ,h1,gk,eI,cq,aJ,ak,cut,aq])
     .have bV:r.2.2.2=0:=by simpa using he
      rw[aN bV];refine⟨s',?_,h2,h3⟩;simp[dn,Cl.row,rZ,hq,hA,hc,Ab,cQ,h1,bV,cq,aJ,ak,cut,aq]
    have hb:dJ 2 op=false:=by
     cases hh:dJ 2 op
     .rfl
     .exfalso
      simp[dJ]at hh;omega
    simp only[hb];rw[aN trivial];exact Rel.fail 8 (by simp[dn,Cl.row,rZ,hq,hA,hc,Ab,Dk,yt,lT,IY,cQ,eI,cq,aJ,ak,cut,aq])
   .rw[aN rfl]
    unfold cM at hc;exact Rel.fail 2 (by simp[dn,Cl.row,rZ,hq,hA,hc,cQ,eI,cq])
 .have ha:cY 2 sz ot s=false:=by
   cases hh:cY 2 sz ot s
   .rfl
   .exact absurd (pg hh).2.1 hq
  rw[ha,aN rfl];have hp:0<s.Q.length:=rK.2 hq;exact Rel.fail 1 (by simp[dn,Cl.row,rZ,hp,eI,cq])
set_option maxHeartbeats 4000000 in
theorem agK(nm:D)(sz ot:Int)(s:S)(c:Cl)(hw:s.wf)(hz:s.sz):
  Rel (ev P (.call uM [.d (.ag [nm,I' 4,I' sz,I' ot]),.d (.ag s.row),.d (.ag c.row)] [])) (eE 4 sz ot s.pl c):=by
 unfold eE;rw[Bu];rw[au zJ rfl];by_cases hq:s.Q=[]
 .have hA:=ago nm sz ot s hq hz.sm
  simp only[S.row,hq]at hA;cases ha:cY 4 sz ot s
  .rw[ha]at hA
   rw[aN rfl];exact Rel.fail 1 (by simp[dn,Cl.row,qY,hq,hA,cQ,eI,cq])
  .rw[ha]at hA
   rw[aG (by decide)]
   cases hc:cM c
   .rw[aG (by decide)]
    have gF:=hc;have hE:=λhb hf=>agB nm sz ot s c hw hz ha gF hb hf
    unfold cM at hc;obtain⟨tk,op,va,pr,nw⟩:=c;simp only at hc;by_cases ZM:op=60
    .subst ZM
     have hb:dJ 4 60=true:=by decide
     simp only[hb];rw[aG (by decide)]
     cases hv:(decide (va<1)||decide (sz<va))
     .have hf:fit 4 sz ⟨tk,60,va,pr,nw⟩=true:=by
       simp at hv;simp[fit,num];omega
      rw[hf,aG (by decide)]
      obtain⟨s',h1,h2,h3⟩:=hE hb hf;generalize raw 4 sz ot s.pl ⟨tk,60,va,pr,nw⟩=r at *;simp only[S.row,Cl.row,hq]at h1;cases he:r.2.2.2==0
      .have bV:¬r.2.2.2=0:=by simpa using he
       have gk:(r.2.2.2 != 0)=true:=by simpa using bV
       rw[aG bV];exact Rel.fail _ (by simp[dn,Cl.row,qY,hq,hA,hc,hv,yp,cQ,h1,gk,eI,cq,aJ,ak,cut,aq])
      .have bV:r.2.2.2=0:=by simpa using he
       rw[aN bV];refine⟨s',?_,h2,h3⟩;simp[dn,Cl.row,qY,hq,hA,hc,hv,yp,cQ,h1,bV,cq,aJ,ak,cut,aq]
     .have hf:fit 4 sz ⟨tk,60,va,pr,nw⟩=false:=by
       cases hh:fit 4 sz ⟨tk,60,va,pr,nw⟩
       .rfl
       .exfalso
        simp at hv;simp[fit,num]at hh;omega
      rw[hf,aN rfl];exact Rel.fail 2 (by simp[dn,Cl.row,qY,hq,hA,hc,hv,yp,cQ,eI,cq,aJ,ak,cut,aq])
    by_cases N1:op=61
    .subst N1
     have hb:dJ 4 61=true:=by decide
     simp only[hb];rw[aG (by decide)]
     cases hv:(decide (va<1)||decide (sz<va))
     .have hf:fit 4 sz ⟨tk,61,va,pr,nw⟩=true:=by
       simp at hv;simp[fit,num];omega
      rw[hf,aG (by decide)]
      obtain⟨s',h1,h2,h3⟩:=hE hb hf;generalize raw 4 sz ot s.pl ⟨tk,61,va,pr,nw⟩=r at *;simp only[S.row,Cl.row,hq]at h1;cases he:r.2.2.2==0
      .have bV:¬r.2.2.2=0:=by simpa using he
       have gk:(r.2.2.2 != 0)=true:=by simpa using bV
       rw[aG bV];exact Rel.fail _ (by simp[dn,Cl.row,qY,hq,hA,hc,hv,yp,cQ,h1,gk,eI,cq,aJ,ak,cut,aq])
      .have bV:r.2.2.2=0:=by simpa using he
       rw[aN bV];refine⟨s',?_,h2,h3⟩;simp[dn,Cl.row,qY,hq,hA,hc,hv,yp,cQ,h1,bV,cq,aJ,ak,cut,aq]
     .have hf:fit 4 sz ⟨tk,61,va,pr,nw⟩=false:=by
       cases hh:fit 4 sz ⟨tk,61,va,pr,nw⟩
       .rfl
       .exfalso
        simp at hv;simp[fit,num]at hh;omega
      rw[hf,aN rfl];exact Rel.fail 2 (by simp[dn,Cl.row,qY,hq,hA,hc,hv,yp,cQ,eI,cq,aJ,ak,cut,aq])
    by_cases ZN:op=62
    .subst ZN
     have hb:dJ 4 62=true:=by decide
     simp only[hb];rw[aG (by decide)]
     cases hv:(decide (va<1)||decide (sz<va))
     .have hf:fit 4 sz ⟨tk,62,va,pr,nw⟩=true:=by
       simp at hv;simp[fit,num];omega
      rw[hf,aG (by decide)]
      obtain⟨s',h1,h2,h3⟩:=hE hb hf;generalize raw 4 sz ot s.pl ⟨tk,62,va,pr,nw⟩=r at *;simp only[S.row,Cl.row,hq]at h1;cases he:r.2.2.2==0
      .have bV:¬r.2.2.2=0:=by simpa using he
       have gk:(r.2.2.2 != 0)=true:=by simpa using bV
       rw[aG bV];exact Rel.fail _ (by simp[dn,Cl.row,qY,hq,hA,hc,hv,yp,cQ,h1,gk,eI,cq,aJ,ak,cut,aq])
      .have bV:r.2.2.2=0:=by simpa using he
       rw[aN bV];refine⟨s',?_,h2,h3⟩;simp[dn,Cl.row,qY,hq,hA,hc,hv,yp,cQ,h1,bV,cq,aJ,ak,cut,aq]
     .have hf:fit 4 sz ⟨tk,62,va,pr,nw⟩=false:=by
       cases hh:fit 4 sz ⟨tk,62,va,pr,nw⟩
       .rfl
       .exfalso
        simp at hv;simp[fit,num]at hh;omega
      rw[hf,aN rfl];exact Rel.fail 2 (by simp[dn,Cl.row,qY,hq,hA,hc,hv,yp,cQ,eI,cq,aJ,ak,cut,aq])
    have hb:dJ 4 op=false:=by
     cases hh:dJ 4 op
     .rfl
     .exfalso
      simp[dJ]at hh;omega
    simp only[hb];rw[aN trivial];exact Rel.fail 8 (by simp[dn,Cl.row,qY,hq,hA,hc,yp,ZM,N1,ZN,cQ,eI,cq,aJ,ak,cut,aq])
   .rw[aN rfl]
    unfold cM at hc;exact Rel.fail 2 (by simp[dn,Cl.row,qY,hq,hA,hc,cQ,eI,cq])
 .have ha:cY 4 sz ot s=false:=by
   cases hh:cY 4 sz ot s
   .rfl
   .exact absurd (pg hh).2.1 hq
  rw[ha,aN rfl];have hp:0<s.Q.length:=rK.2 hq;exact Rel.fail 1 (by simp[dn,Cl.row,qY,hp,eI,cq])
set_option maxHeartbeats 4000000 in
theorem agL(nm:D)(sz ot:Int)(s:S)(c:Cl)(hw:s.wf)(hz:s.sz):
  Rel (ev P (.call uM [.d (.ag [nm,I' 5,I' sz,I' ot]),.d (.ag s.row),.d (.ag c.row)] [])) (eE 5 sz ot s.pl c):=by
 unfold eE;rw[Bu];rw[au zJ rfl];by_cases hq:s.Q=[]
 .have hA:=agr nm sz ot s hq hz.sm
  simp only[S.row,hq]at hA;cases ha:cY 5 sz ot s
  .rw[ha]at hA
   rw[aN rfl];exact Rel.fail 1 (by simp[dn,Cl.row,Aa,hq,hA,cQ,eI,cq])
  .rw[ha]at hA
   rw[aG (by decide)]
   cases hc:cM c
   .rw[aG (by decide)]
    have gF:=hc;have hE:=λhb hf=>agC nm sz ot s c hw hz ha gF hb hf
    unfold cM at hc;obtain⟨tk,op,va,pr,nw⟩:=c;simp only at hc;by_cases h63:op=63
    .subst h63
     have hb:dJ 5 63=true:=by decide
     simp only[hb];rw[aG (by decide)]
     have hf:fit 5 sz ⟨tk,63,va,pr,nw⟩=true:=by simp[fit]
     rw[hf,aG (by decide)]
     obtain⟨s',h1,h2,h3⟩:=hE hb hf;generalize raw 5 sz ot s.pl ⟨tk,63,va,pr,nw⟩=r at *;simp only[S.row,Cl.row,hq]at h1;cases he:r.2.2.2==0
     .have bV:¬r.2.2.2=0:=by simpa using he
      have gk:(r.2.2.2 != 0)=true:=by simpa using bV
      rw[aG bV];exact Rel.fail _ (by simp[dn,Cl.row,Aa,hq,hA,hc,T0,cQ,h1,gk,eI,cq,aJ,ak,cut,aq])
     .have bV:r.2.2.2=0:=by simpa using he
      rw[aN bV];refine⟨s',?_,h2,h3⟩;simp[dn,Cl.row,Aa,hq,hA,hc,T0,cQ,h1,bV,cq,aJ,ak,cut,aq]
    have hb:dJ 5 op=false:=by
     cases hh:dJ 5 op
     .rfl
     .exfalso
      simp[dJ]at hh;omega
    simp only[hb];rw[aN trivial];exact Rel.fail 8 (by simp[dn,Cl.row,Aa,hq,hA,hc,T0,h63,cQ,eI,cq,aJ,ak,cut,aq])
   .rw[aN rfl]
    unfold cM at hc;exact Rel.fail 2 (by simp[dn,Cl.row,Aa,hq,hA,hc,cQ,eI,cq])
 .have ha:cY 5 sz ot s=false:=by
   cases hh:cY 5 sz ot s
   .rfl
   .exact absurd (pg hh).2.1 hq
  rw[ha,aN rfl];have hp:0<s.Q.length:=rK.2 hq;exact Rel.fail 1 (by simp[dn,Cl.row,Aa,hp,eI,cq])
set_option maxHeartbeats 4000000 in
theorem agM(nm:D)(sz ot:Int)(s:S)(c:Cl)(hw:s.wf)(hz:s.sz):
  Rel (ev P (.call uM [.d (.ag [nm,I' 6,I' sz,I' ot]),.d (.ag s.row),.d (.ag c.row)] [])) (eE 6 sz ot s.pl c):=by
 unfold eE;rw[Bu];rw[au zJ rfl];by_cases hq:s.Q=[]
 .have hA:=ags nm sz ot s hq hz.sm
  simp only[S.row,hq]at hA;cases ha:cY 6 sz ot s
  .rw[ha]at hA
   rw[aN rfl];exact Rel.fail 1 (by simp[dn,Cl.row,sV,hq,hA,cQ,eI,cq])
  .rw[ha]at hA
   rw[aG (by decide)]
   cases hc:cM c
   .rw[aG (by decide)]
    have gF:=hc;have hE:=λhb hf=>agD nm sz ot s c hw hz ha gF hb hf
    unfold cM at hc;obtain⟨tk,op,va,pr,nw⟩:=c;simp only at hc;by_cases vi:op=64
    .subst vi
     have hb:dJ 6 64=true:=by decide
     simp only[hb];rw[aG (by decide)]
     cases hv:(decide (va < -1099511627776)||decide (1099511627776<va))
     .have hf:fit 6 sz ⟨tk,64,va,pr,nw⟩=true:=by
       simp at hv;simp[fit,num];omega
      rw[hf,aG (by decide)]
      obtain⟨s',h1,h2,h3⟩:=hE hb hf;generalize raw 6 sz ot s.pl ⟨tk,64,va,pr,nw⟩=r at *;simp only[S.row,Cl.row,hq]at h1;cases he:r.2.2.2==0
      .have bV:¬r.2.2.2=0:=by simpa using he
       have gk:(r.2.2.2 != 0)=true:=by simpa using bV
       rw[aG bV];exact Rel.fail _ (by simp[dn,Cl.row,sV,hq,hA,hc,hv,Bv,cQ,h1,gk,eI,cq,aJ,ak,cut,aq])
      .have bV:r.2.2.2=0:=by simpa using he
       rw[aN bV];refine⟨s',?_,h2,h3⟩;simp[dn,Cl.row,sV,hq,hA,hc,hv,Bv,cQ,h1,bV,cq,aJ,ak,cut,aq]
     .have hf:fit 6 sz ⟨tk,64,va,pr,nw⟩=false:=by
       cases hh:fit 6 sz ⟨tk,64,va,pr,nw⟩
       .rfl
       .exfalso
        simp at hv;simp[fit,num]at hh;omega
      rw[hf,aN rfl];exact Rel.fail 2 (by simp[dn,Cl.row,sV,hq,hA,hc,hv,Bv,cQ,eI,cq,aJ,ak,cut,aq])
    by_cases Dl:op=65
    .subst Dl
     have hb:dJ 6 65=true:=by decide
     simp only[hb];rw[aG (by decide)]
     have hf:fit 6 sz ⟨tk,65,va,pr,nw⟩=true:=by simp[fit]
     rw[hf,aG (by decide)]
     obtain⟨s',h1,h2,h3⟩:=hE hb hf;generalize raw 6 sz ot s.pl ⟨tk,65,va,pr,nw⟩=r at *;simp only[S.row,Cl.row,hq]at h1;cases he:r.2.2.2==0
     .have bV:¬r.2.2.2=0:=by simpa using he
      have gk:(r.2.2.2 != 0)=true:=by simpa using bV
      rw[aG bV];exact Rel.fail _ (by simp[dn,Cl.row,sV,hq,hA,hc,Bv,cQ,h1,gk,eI,cq,aJ,ak,cut,aq])
     .have bV:r.2.2.2=0:=by simpa using he
      rw[aN bV];refine⟨s',?_,h2,h3⟩;simp[dn,Cl.row,sV,hq,hA,hc,Bv,cQ,h1,bV,cq,aJ,ak,cut,aq]
    by_cases ZO:op=66
    .subst ZO
     have hb:dJ 6 66=true:=by decide
     simp only[hb];rw[aG (by decide)]
     have hf:fit 6 sz ⟨tk,66,va,pr,nw⟩=true:=by simp[fit]
     rw[hf,aG (by decide)]
     obtain⟨s',h1,h2,h3⟩:=hE hb hf;generalize raw 6 sz ot s.pl ⟨tk,66,va,pr,nw⟩=r at *;simp only[S.row,Cl.row,hq]at h1;cases he:r.2.2.2==0
     .have bV:¬r.2.2.2=0:=by simpa using he
      have gk:(r.2.2.2 != 0)=true:=by simpa using bV
      rw[aG bV];exact Rel.fail _ (by simp[dn,Cl.row,sV,hq,hA,hc,Bv,cQ,h1,gk,eI,cq,aJ,ak,cut,aq])
     .have bV:r.2.2.2=0:=by simpa using he
      rw[aN bV];refine⟨s',?_,h2,h3⟩;simp[dn,Cl.row,sV,hq,hA,hc,Bv,cQ,h1,bV,cq,aJ,ak,cut,aq]
    have hb:dJ 6 op=false:=by
     cases hh:dJ 6 op
     .rfl
     .exfalso
      simp[dJ]at hh;omega
    simp only[hb];rw[aN trivial];exact Rel.fail 8 (by simp[dn,Cl.row,sV,hq,hA,hc,Bv,vi,Dl,ZO,cQ,eI,cq,aJ,ak,cut,aq])
   .rw[aN rfl]
    unfold cM at hc;exact Rel.fail 2 (by simp[dn,Cl.row,sV,hq,hA,hc,cQ,eI,cq])
 .have ha:cY 6 sz ot s=false:=by
   cases hh:cY 6 sz ot s
   .rfl
   .exact absurd (pg hh).2.1 hq
  rw[ha,aN rfl];have hp:0<s.Q.length:=rK.2 hq;exact Rel.fail 1 (by simp[dn,Cl.row,sV,hp,eI,cq])
set_option maxHeartbeats 4000000 in
theorem agN(nm:D)(sz ot:Int)(s:S)(c:Cl)(hw:s.wf)(hz:s.sz):
  Rel (ev P (.call uM [.d (.ag [nm,I' 7,I' sz,I' ot]),.d (.ag s.row),.d (.ag c.row)] [])) (eE 7 sz ot s.pl c):=by
 unfold eE;rw[Bu];rw[au zJ rfl];by_cases hq:s.Q=[]
 .have hA:=agt nm sz ot s hq hz.sm
  simp only[S.row,hq]at hA;cases ha:cY 7 sz ot s
  .rw[ha]at hA
   rw[aN rfl];exact Rel.fail 1 (by simp[dn,Cl.row,qZ,hq,hA,cQ,eI,cq])
  .rw[ha]at hA
   rw[aG (by decide)]
   cases hc:cM c
   .rw[aG (by decide)]
    have gF:=hc;have hE:=λhb hf=>agE nm sz ot s c hw hz ha gF hb hf
    unfold cM at hc;obtain⟨tk,op,va,pr,nw⟩:=c;simp only at hc;by_cases eR:op=68
    .subst eR
     have hb:dJ 7 68=true:=by decide
     simp only[hb];rw[aG (by decide)]
     cases hv:(decide (va < -1099511627776)||decide (1099511627776<va))
     .have hf:fit 7 sz ⟨tk,68,va,pr,nw⟩=true:=by
       simp at hv;simp[fit,num];omega
      rw[hf,aG (by decide)]
      obtain⟨s',h1,h2,h3⟩:=hE hb hf;generalize raw 7 sz ot s.pl ⟨tk,68,va,pr,nw⟩=r at *;simp only[S.row,Cl.row,hq]at h1;cases he:r.2.2.2==0
      .have bV:¬r.2.2.2=0:=by simpa using he
       have gk:(r.2.2.2 != 0)=true:=by simpa using bV
       rw[aG bV];exact Rel.fail _ (by simp[dn,Cl.row,qZ,hq,hA,hc,hv,yq,cQ,h1,gk,eI,cq,aJ,ak,cut,aq])
      .have bV:r.2.2.2=0:=by simpa using he
       rw[aN bV];refine⟨s',?_,h2,h3⟩;simp[dn,Cl.row,qZ,hq,hA,hc,hv,yq,cQ,h1,bV,cq,aJ,ak,cut,aq]
     .have hf:fit 7 sz ⟨tk,68,va,pr,nw⟩=false:=by
       cases hh:fit 7 sz ⟨tk,68,va,pr,nw⟩
       .rfl
       .exfalso
        simp at hv;simp[fit,num]at hh;omega
      rw[hf,aN rfl];exact Rel.fail 2 (by simp[dn,Cl.row,qZ,hq,hA,hc,hv,yq,cQ,eI,cq,aJ,ak,cut,aq])
    by_cases kY:op=69
    .subst kY
     have hb:dJ 7 69=true:=by decide
     simp only[hb];rw[aG (by decide)]
     have hf:fit 7 sz ⟨tk,69,va,pr,nw⟩=true:=by simp[fit]
     rw[hf,aG (by decide)]
     obtain⟨s',h1,h2,h3⟩:=hE hb hf;generalize raw 7 sz ot s.pl ⟨tk,69,va,pr,nw⟩=r at *;simp only[S.row,Cl.row,hq]at h1;cases he:r.2.2.2==0
     .have bV:¬r.2.2.2=0:=by simpa using he
      have gk:(r.2.2.2 != 0)=true:=by simpa using bV
      rw[aG bV];exact Rel.fail _ (by simp[dn,Cl.row,qZ,hq,hA,hc,yq,cQ,h1,gk,eI,cq,aJ,ak,cut,aq])
     .have bV:r.2.2.2=0:=by simpa using he
      rw[aN bV];refine⟨s',?_,h2,h3⟩;simp[dn,Cl.row,qZ,hq,hA,hc,yq,cQ,h1,bV,cq,aJ,ak,cut,aq]
    by_cases gL:op=70
    .subst gL
     have hb:dJ 7 70=true:=by decide
     simp only[hb];rw[aG (by decide)]
     have hf:fit 7 sz ⟨tk,70,va,pr,nw⟩=true:=by simp[fit]
     rw[hf,aG (by decide)]
     obtain⟨s',h1,h2,h3⟩:=hE hb hf;generalize raw 7 sz ot s.pl ⟨tk,70,va,pr,nw⟩=r at *;simp only[S.row,Cl.row,hq]at h1;cases he:r.2.2.2==0
     .have bV:¬r.2.2.2=0:=by simpa using he
      have gk:(r.2.2.2 != 0)=true:=by simpa using bV
      rw[aG bV];exact Rel.fail _ (by simp[dn,Cl.row,qZ,hq,hA,hc,yq,cQ,h1,gk,eI,cq,aJ,ak,cut,aq])
     .have bV:r.2.2.2=0:=by simpa using he
      rw[aN bV];refine⟨s',?_,h2,h3⟩;simp[dn,Cl.row,qZ,hq,hA,hc,yq,cQ,h1,bV,cq,aJ,ak,cut,aq]
    by_cases mo:op=71
    .subst mo
     have hb:dJ 7 71=true:=by decide
     simp only[hb];rw[aG (by decide)]
     have hf:fit 7 sz ⟨tk,71,va,pr,nw⟩=true:=by simp[fit]
     rw[hf,aG (by decide)]
     obtain⟨s',h1,h2,h3⟩:=hE hb hf;generalize raw 7 sz ot s.pl ⟨tk,71,va,pr,nw⟩=r at *;simp only[S.row,Cl.row,hq]at h1;cases he:r.2.2.2==0
     .have bV:¬r.2.2.2=0:=by simpa using he
      have gk:(r.2.2.2 != 0)=true:=by simpa using bV
      rw[aG bV];exact Rel.fail _ (by simp[dn,Cl.row,qZ,hq,hA,hc,yq,cQ,h1,gk,eI,cq,aJ,ak,cut,aq])
     .have bV:r.2.2.2=0:=by simpa using he
      rw[aN bV];refine⟨s',?_,h2,h3⟩;simp[dn,Cl.row,qZ,hq,hA,hc,yq,cQ,h1,bV,cq,aJ,ak,cut,aq]
    have hb:dJ 7 op=false:=by
     cases hh:dJ 7 op
     .rfl
     .exfalso
      simp[dJ]at hh;omega
    simp only[hb];rw[aN trivial];exact Rel.fail 8 (by simp[dn,Cl.row,qZ,hq,hA,hc,yq,eR,kY,gL,mo,cQ,eI,cq,aJ,ak,cut,aq])
   .rw[aN rfl]
    unfold cM at hc;exact Rel.fail 2 (by simp[dn,Cl.row,qZ,hq,hA,hc,cQ,eI,cq])
 .have ha:cY 7 sz ot s=false:=by
   cases hh:cY 7 sz ot s
   .rfl
   .exact absurd (pg hh).2.1 hq
  rw[ha,aN rfl];have hp:0<s.Q.length:=rK.2 hq;exact Rel.fail 1 (by simp[dn,Cl.row,qZ,hp,eI,cq])
set_option maxHeartbeats 4000000 in
theorem agO(nm:D)(sz ot:Int)(s:S)(c:Cl)(hw:s.wf)(hz:s.sz):
  Rel (ev P (.call uM [.d (.ag [nm,I' 8,I' sz,I' ot]),.d (.ag s.row),.d (.ag c.row)] [])) (eE 8 sz ot s.pl c):=by
 unfold eE;rw[Bu];rw[au zJ rfl];by_cases hq:s.Q=[]
 .have hA:=agp nm sz ot s hq hz.sm
  simp only[S.row,hq]at hA;cases ha:cY 8 sz ot s
  .rw[ha]at hA
   rw[aN rfl];exact Rel.fail 1 (by simp[dn,Cl.row,vf,hq,hA,cQ,eI,cq])
  .rw[ha]at hA
   rw[aG (by decide)]
   cases hc:cM c
   .rw[aG (by decide)]
    have gF:=hc;have hE:=λhb hf=>agF nm sz ot s c hw hz ha gF hb hf
    unfold cM at hc;obtain⟨tk,op,va,pr,nw⟩:=c;simp only at hc;by_cases ZP:op=72
    .subst ZP
     have hb:dJ 8 72=true:=by decide
     simp only[hb];rw[aG (by decide)]
     cases hv:(decide (va<1)||decide (sz<va))
     .have hf:fit 8 sz ⟨tk,72,va,pr,nw⟩=true:=by
       simp at hv;simp[fit,num];omega
      rw[hf,aG (by decide)]
      obtain⟨s',h1,h2,h3⟩:=hE hb hf;generalize raw 8 sz ot s.pl ⟨tk,72,va,pr,nw⟩=r at *;simp only[S.row,Cl.row,hq]at h1;cases he:r.2.2.2==0
      .have bV:¬r.2.2.2=0:=by simpa using he
       have gk:(r.2.2.2 != 0)=true:=by simpa using bV
       rw[aG bV];exact Rel.fail _ (by simp[dn,Cl.row,vf,hq,hA,hc,hv,FE,cQ,h1,gk,eI,cq,aJ,ak,cut,aq])
      .have bV:r.2.2.2=0:=by simpa using he
       rw[aN bV];refine⟨s',?_,h2,h3⟩;simp[dn,Cl.row,vf,hq,hA,hc,hv,FE,cQ,h1,bV,cq,aJ,ak,cut,aq]
     .have hf:fit 8 sz ⟨tk,72,va,pr,nw⟩=false:=by
       cases hh:fit 8 sz ⟨tk,72,va,pr,nw⟩
       .rfl
       .exfalso
        simp at hv;simp[fit,num]at hh;omega
      rw[hf,aN rfl];exact Rel.fail 2 (by simp[dn,Cl.row,vf,hq,hA,hc,hv,FE,cQ,eI,cq,aJ,ak,cut,aq])
    by_cases ZQ:op=75
    .subst ZQ
     have hb:dJ 8 75=true:=by decide
     simp only[hb];rw[aG (by decide)]
     have hf:fit 8 sz ⟨tk,75,va,pr,nw⟩=true:=by simp[fit]
     rw[hf,aG (by decide)]
     obtain⟨s',h1,h2,h3⟩:=hE hb hf;generalize raw 8 sz ot s.pl ⟨tk,75,va,pr,nw⟩=r at *;simp only[S.row,Cl.row,hq]at h1;cases he:r.2.2.2==0
     .have bV:¬r.2.2.2=0:=by simpa using he
      have gk:(r.2.2.2 != 0)=true:=by simpa using bV
      rw[aG bV];exact Rel.fail _ (by simp[dn,Cl.row,vf,hq,hA,hc,FE,cQ,h1,gk,eI,cq,aJ,ak,cut,aq])
     .have bV:r.2.2.2=0:=by simpa using he
      rw[aN bV];refine⟨s',?_,h2,h3⟩;simp[dn,Cl.row,vf,hq,hA,hc,FE,cQ,h1,bV,cq,aJ,ak,cut,aq]
    have hb:dJ 8 op=false:=by
     cases hh:dJ 8 op
     .rfl
     .exfalso
      simp[dJ]at hh;omega
    simp only[hb];rw[aN trivial];exact Rel.fail 8 (by simp[dn,Cl.row,vf,hq,hA,hc,FE,ZP,ZQ,cQ,eI,cq,aJ,ak,cut,aq])
   .rw[aN rfl]
    unfold cM at hc;exact Rel.fail 2 (by simp[dn,Cl.row,vf,hq,hA,hc,cQ,eI,cq])
 .have ha:cY 8 sz ot s=false:=by
   cases hh:cY 8 sz ot s
   .rfl
   .exact absurd (pg hh).2.1 hq
  rw[ha,aN rfl];have hp:0<s.Q.length:=rK.2 hq;exact Rel.fail 1 (by simp[dn,Cl.row,vf,hp,eI,cq])
set_option maxHeartbeats 4000000 in
theorem agP(nm:D)(sz ot:Int)(s:S)(c:Cl)(hw:s.wf)(hz:s.sz):
  Rel (ev P (.call uM [.d (.ag [nm,I' 9,I' sz,I' ot]),.d (.ag s.row),.d (.ag c.row)] [])) (eE 9 sz ot s.pl c):=by
 unfold eE;rw[Bu];rw[au zJ rfl];by_cases hq:s.Q=[]
 .have hA:=agq nm sz ot s hq hz.sm
  simp only[S.row,hq]at hA;cases ha:cY 9 sz ot s
  .rw[ha]at hA
   rw[aN rfl];exact Rel.fail 1 (by simp[dn,Cl.row,vg,hq,hA,cQ,eI,cq])
  .rw[ha]at hA
   rw[aG (by decide)]
   cases hc:cM c
   .rw[aG (by decide)]
    have gF:=hc;have hE:=λhb hf=>agG nm sz ot s c hw hz ha gF hb hf
    unfold cM at hc;obtain⟨tk,op,va,pr,nw⟩:=c;simp only at hc;by_cases ZR:op=73
    .subst ZR
     have hb:dJ 9 73=true:=by decide
     simp only[hb];rw[aG (by decide)]
     cases hv:(decide (va < -1099511627776)||decide (1099511627776<va))
     .have hf:fit 9 sz ⟨tk,73,va,pr,nw⟩=true:=by
       simp at hv;simp[fit,num];omega
      rw[hf,aG (by decide)]
      obtain⟨s',h1,h2,h3⟩:=hE hb hf;generalize raw 9 sz ot s.pl ⟨tk,73,va,pr,nw⟩=r at *;simp only[S.row,Cl.row,hq]at h1;cases he:r.2.2.2==0
      .have bV:¬r.2.2.2=0:=by simpa using he
       have gk:(r.2.2.2 != 0)=true:=by simpa using bV
       rw[aG bV];exact Rel.fail _ (by simp[dn,Cl.row,vg,hq,hA,hc,hv,FF,cQ,h1,gk,eI,cq,aJ,ak,cut,aq])
      .have bV:r.2.2.2=0:=by simpa using he
       rw[aN bV];refine⟨s',?_,h2,h3⟩;simp[dn,Cl.row,vg,hq,hA,hc,hv,FF,cQ,h1,bV,cq,aJ,ak,cut,aq]
     .have hf:fit 9 sz ⟨tk,73,va,pr,nw⟩=false:=by
       cases hh:fit 9 sz ⟨tk,73,va,pr,nw⟩
       .rfl
       .exfalso
        simp at hv;simp[fit,num]at hh;omega
      rw[hf,aN rfl];exact Rel.fail 2 (by simp[dn,Cl.row,vg,hq,hA,hc,hv,FF,cQ,eI,cq,aJ,ak,cut,aq])
    by_cases ZS:op=74
    .subst ZS
     have hb:dJ 9 74=true:=by decide
     simp only[hb];rw[aG (by decide)]
     have hf:fit 9 sz ⟨tk,74,va,pr,nw⟩=true:=by simp[fit]
     rw[hf,aG (by decide)]
     obtain⟨s',h1,h2,h3⟩:=hE hb hf;generalize raw 9 sz ot s.pl ⟨tk,74,va,pr,nw⟩=r at *;simp only[S.row,Cl.row,hq]at h1;cases he:r.2.2.2==0
     .have bV:¬r.2.2.2=0:=by simpa using he
      have gk:(r.2.2.2 != 0)=true:=by simpa using bV
      rw[aG bV];exact Rel.fail _ (by simp[dn,Cl.row,vg,hq,hA,hc,FF,cQ,h1,gk,eI,cq,aJ,ak,cut,aq])
     .have bV:r.2.2.2=0:=by simpa using he
      rw[aN bV];refine⟨s',?_,h2,h3⟩;simp[dn,Cl.row,vg,hq,hA,hc,FF,cQ,h1,bV,cq,aJ,ak,cut,aq]
    have hb:dJ 9 op=false:=by
     cases hh:dJ 9 op
     .rfl
     .exfalso
      simp[dJ]at hh;omega
    simp only[hb];rw[aN trivial];exact Rel.fail 8 (by simp[dn,Cl.row,vg,hq,hA,hc,FF,ZR,ZS,cQ,eI,cq,aJ,ak,cut,aq])
   .rw[aN rfl]
    unfold cM at hc;exact Rel.fail 2 (by simp[dn,Cl.row,vg,hq,hA,hc,cQ,eI,cq])
 .have ha:cY 9 sz ot s=false:=by
   cases hh:cY 9 sz ot s
   .rfl
   .exact absurd (pg hh).2.1 hq
  rw[ha,aN rfl];have hp:0<s.Q.length:=rK.2 hq;exact Rel.fail 1 (by simp[dn,Cl.row,vg,hp,eI,cq])
theorem agQ{s:S}{c:Cl}(h:qR s=true)(ht:cZ c.task=true):qR (eM s c).1=true:=by
 have hm:∀x,(x = -1\/cZ x=true)->qR {s with own:=x}=true:=by
  intro x hx;unfold qR at h⊢;simp only at h⊢;rw[bD]at h⊢;refine⟨?_,h.2⟩;rcases hx with h1 |h1<;>simp[h1]
 unfold eM;repeat' split
 all_goals first |exact h |exact hm _ (.inl rfl) |exact hm _ (.inr ht)
def ZT(s:S):Prop:=s.cnt=0/\s.time=0/\s.B=[]/\s.C=[]/\s.cl=false/\s.val=0
theorem IZ{s:S}:okW s=true↔gH s.H/\(∀x∈s.H,cZ x=true)/\(s.own = -1\/(cZ s.own=true/\s.H=[]))/\ZT s:=by
 unfold okW ZT;rw[bD,NS];have e:(!Dd s)=true↔(s.own = -1\/(cZ s.own=true/\s.H=[]))/\s.cnt=0/\s.time=0/\s.B=[]/\s.C=[]/\s.cl=false/\s.val=0:=by
  unfold Dd;rw[NQ,NQ,NQ];simp
  grind
 rw[e];simp
 grind
theorem agR{s:S}{c:Cl}(h:okW s=true)(ht:cZ c.task=true)(he:(eW s c).2.2.2=0):okW (eW s c).1=true:=by
 obtain⟨h1,h2,h3,h4⟩:=IZ.1 h;unfold eW at he⊢;by_cases a1:(c.op==54)=true
 .rw[aN a1]at he⊢
  by_cases a2:decide (c.task∈s.H)=true
  .rw[aN a2]at he⊢
   have a3:c.task∈s.H:=by simpa using a2
   refine IZ.2 ⟨Xy xN h1,λx hx=>h2 x (lF.1 hx).1,?_,h4⟩
   rcases h3 with h |h
   .exact .inl h
   .rw[h.2]at a3;simp at a3
  .rw[aG a2]at he;simp[er]at he
 .rw[aG a1]at he⊢
  by_cases b1:(c.op==56)=true
  .rw[aN b1]at he⊢
   by_cases b2:(s.own==c.task)=true
   .rw[aN b2]
    exact IZ.2 ⟨h1,h2,.inl rfl,h4⟩
   .rw[aG b2]at he;simp[er]at he
  .rw[aG b1]at he⊢
   by_cases b3:(decide (c.task∈s.H)||s.own==c.task)=true
   .rw[aN b3]at he;simp[er]at he
   .rw[aG b3]at he⊢
    by_cases b4:(!(s.own == -1)||(c.op==55&&decide (0<s.H.length)))=true
    .rw[aN b4]at he;simp[er]at he
    .rw[aG b4]at he⊢
     have c1:s.own = -1:=by
      simp at b4;exact b4.1
     have c2:c.task∉s.H:=by
      simp at b3;exact b3.1
     by_cases b5:(c.op==55)=true
     .rw[aN b5]
      have c3:s.H=[]:=by
       rw[b5]at b4;simp at b4;exact b4.2
      exact IZ.2 ⟨h1,h2,.inr ⟨ht,c3⟩,h4⟩
     .rw[aG b5]
      refine IZ.2 ⟨TU h1 c2,?_,.inl c1,h4⟩;intro x hx;rcases Zp.1 hx with e |e
      .rw[e];exact ht
      .exact h2 x e
theorem agS{sz:Int}{s:S}{c:Cl}(h:qT sz s=true)(hc:1<=c.value/\c.value<=sz):qT sz (eS sz s c).1=true:=by
 have hb:=ZD h;have hm:∀x,0<=x->x<=sz->qT sz {s with cnt:=x}=true:=by
  intro x h1 h2;unfold qT at h⊢;simp only at h⊢;rw[bD]at h⊢;refine⟨?_,h.2⟩;have:=h.1;simp at this⊢;omega
 unfold eS;by_cases a1:(c.op==62)=true
 .rw[aN a1]
  by_cases a2:decide (sz<s.cnt+c.value)=true
  .rw[aN a2];exact h
  .rw[aG a2]
   simp at a2;exact hm _ (by omega) (by omega)
 .rw[aG a1]
  by_cases a2:decide (c.value<=s.cnt)=true
  .rw[aN a2]
   simp at a2;exact hm _ (by omega) (by omega)
  .rw[aG a2]
   split<;>exact h
theorem agT{sz:Int}{s:S}(h:okB {s with val:=0}=true)(hv:0<=s.val/\s.val<sz)(he:(eB sz s).2.2.2=0):okB {(eB sz s).1 with val:=0}=true/\0<=(eB sz s).1.val/\(eB sz s).1.val<sz:=by
 unfold eB at he⊢;by_cases a1:(s.val+1==sz)=true
 .rw[aN a1]at he⊢
  by_cases a2:(s.cnt==1099511627776)=true
  .rw[aN a2]at he;simp[er]at he
  .rw[aG a2]
   refine⟨?_,by simp,by simp;omega⟩
   unfold okB at h⊢;simp only at h⊢;rw[bD]at h⊢;refine⟨?_,h.2⟩;have:=h.1;simp at this a2⊢;omega
 .rw[aG a1]
  simp at a1;exact⟨h,by simp;omega,by simp;omega⟩
theorem N2{rm:Int}{s:S}:ni rm s=true↔(s.own = -1/\s.cnt=0/\s.time=0/\s.val=0/\s.H=[]/\s.C=[])/\(s.B.length:Int)<=rm/\∀x∈s.B,num x=true:=by
 unfold ni wx;rw[afL];simp
 grind
theorem agU{rm:Int}{s:S}{c:Cl}(h:ni rm s=true)(hc:c.op=64->num c.value=true):ni rm (eC rm s c).1=true:=by
 obtain⟨h1,h2,h3⟩:=N2.1 h;unfold eC;by_cases a1:(c.op==64)=true
 .rw[aN a1]
  by_cases a2:s.cl=true
  .rw[aN a2];exact h
  .rw[aG a2]
   by_cases a3:decide (rm<=s.B.length)=true
   .rw[aN a3];exact h
   .rw[aG a3]
    simp at a1 a3;refine N2.2 ⟨h1,by simp[gd];omega,?_⟩
    intro x hx;rcases dm.1 hx with e |e
    .exact h3 x e
    .rw[ze.1 e];exact hc a1
 .rw[aG a1]
  by_cases a2:(c.op==65)=true
  .rw[aN a2]
   cases hB:s.B with
   |nil=>simp only;split<;>exact h
   |cons b r =>
    rw[hB]at h2 h3;refine N2.2 ⟨h1,by simp at h2⊢;omega,λx hx=>h3 x (zb _ hx)⟩
  .rw[aG a2]
   split
   .exact h
   .exact N2.2 ⟨h1,h2,h3⟩
theorem agV{sz ot:Int}{s:S}{c:Cl}(h:qU sz s=true)(hz:1<=sz)(ho:1<=ot)(hn:0<=c.now/\c.now<=1099511627776)(hc:c.op=72->1<=c.value):qU sz (eL sz ot s c).1=true:=by
 have hb:=ZE h;have hm:∀x y,0<=x->x<=sz->0<=y->y<=1099511627776->qU sz {s with cnt:=x,time:=y}=true:=by
  intro x y h1 h2 h3 h4;unfold qU at h⊢;simp only at h⊢;rw[bD]at h⊢;refine⟨?_,h.2⟩;have:=h.1;simp at this⊢;omega
 unfold eL;by_cases a0:decide (c.now<s.time)=true
 .rw[aN a0];exact h
 .rw[aG a0]
  simp at a0;obtain⟨k0,k1,k2⟩:=IW (a:=c.now - s.time) (b:=ot) (by omega) ho
  have Dm:0<=(c.now - s.time) / ot*ot:=G8 k0 (by omega)
  have hr:∃x y,mK sz ot c.now s={s with cnt:=x,time:=y}/\0<=x/\x<=sz/\0<=y/\y<=1099511627776:=by
   unfold mK;by_cases a1:decide (sz<=s.cnt+(c.now - s.time) / ot)=true
   .rw[aN a1]
    exact⟨_,_,rfl,by omega,by omega,by omega,by omega⟩
   .rw[aG a1]
    simp at a1;exact⟨_,_,rfl,by omega,by omega,by omega,by omega⟩
  obtain⟨x,y,hr,r1,r2,r3,r4⟩:=hr;rw[hr];by_cases a1:(c.op==72)=true
  .rw[aN a1]
   have hv:=hc (by simpa using a1)
   by_cases a2:decide (x<c.value)=true
   .rw[aN a2];exact hm x y r1 r2 r3 r4
   .rw[aG a2]
    simp at a2;exact hm (x - c.value) y (by omega) (by omega) r3 r4
  .rw[aG a1]
   exact hm x y r1 r2 r3 r4
theorem agW{s:S}{c:Cl}(h:okF s=true)(hc:c.op≠74->num c.value=true):okF (eF s c).1=true:=by
 unfold eF;by_cases a1:(c.op==74)=true
 .rw[aN a1]
  split<;>exact h
 .rw[aG a1]
  split
  .exact h
  .simp at a1
   have hv:=hc a1;unfold okF u7 at h⊢;simp[gd]at h⊢;simp[h,hv]
theorem ZU{rm:Int}{s:S}(hq:s.Q=[]):S.good rm s=true↔s.own = -1/\vc rm none s.C=true/\s.uY=false:=by
 unfold S.good;rw[hq];have h1:dY []=0:=by decide
 rw[h1];simp[tq]
 grind
theorem agX{rm:Int}{C:List K}(h1:gH (C.map K.task))(h2:∀x∈C,cZ x.task=true/\¬rm<x.log.length/\x.log.all num=true):vc rm none C=true :=
 (NT rm C none).2 ⟨by simp,h1,h2⟩
theorem agY{rm:Int}{s:S}{c:Cl}(hq:s.Q=[])(h:S.good rm s=true)(ht:cZ c.task=true)(hr:1<=rm)(hc:c.op≠69->c.op≠71->c.op≠70->num c.value=true):
  S.good rm (eT rm s c).1=true:=by
 obtain⟨g1,g2,g3⟩:=(ZU hq).1 h;obtain⟨_,v1,v2⟩:=(NT rm s.C none).1 g2;have hm:∀C',gH (C'.map K.task)->(∀x∈C',cZ x.task=true/\¬rm<x.log.length/\x.log.all num=true)->S.good rm {s with C:=C'}=true :=
  λC' k1 k2=>(ZU (s:={s with C:=C'}) hq).2 ⟨g1,agX k1 k2,g3⟩
 unfold eT;by_cases a1:(c.op==69)=true
 .rw[aN a1]
  by_cases a2:mJ s c.task=true
  .rw[aN a2];exact h
  .rw[aG a2]
   refine hm _ ?_ ?_
   .have e:(s.C.take (bK s c.task)++(⟨c.task,false,[]⟩:K)::s.C.drop (bK s c.task)).map K.task=eZ c.task (qW s):=by
     unfold eZ;simp[qW,bK,Cn,Co]
    rw[e];refine TU v1 λhin=>a2 ?_
    unfold mJ;have:=(IV v1).2 hin;unfold bK;exact Qh this
   .intro x hx
    rcases dm.1 hx with hx |hx
    .exact v2 x (oa hx)
    .rcases dD.1 hx with hx |hx
     .rw[hx]
      refine⟨ht,by simp;omega,by simp⟩
     .exact v2 x (mV hx)
 .rw[aG a1]
  by_cases a2:(c.op==71)=true
  .rw[aN a2]
   by_cases a3:mJ s c.task=true
   .rw[aN a3]
    obtain⟨A,kk,B,f1,f2,f3⟩:=NZ s c.task a3;have e:s.C.take (bK s c.task)++s.C.drop (bK s c.task+1)=A++B:=by
     rw[f2,f1];have d1:List.drop (A.length+1) (A++kk::B)=B:=by
      have:A++kk::B=(A++[kk])++B:=by simp
      rw[this];exact Ek (by simp)
     rw[d1,List.take_left]
    rw[e];refine hm _ ?_ ?_
    .refine Xy ?_ v1
     rw[f1];exact List.Sublist.map _ (Hf (tj A) (Hg kk B))
    .intro x hx
     refine v2 x ?_;rw[f1];rcases dm.1 hx with h |h
     .exact El _ h
     .exact He _ (zb _ h)
   .rw[aG a3];exact h
  .rw[aG a2]
   by_cases a4:(c.op==70)=true
   .rw[aN a4]
    by_cases a3:mJ s c.task=true
    .rw[aN a3]
     obtain⟨A,⟨kt,kn,kl⟩,B,f1,f2,f3⟩:=NZ s c.task a3;simp only at f3;have hg:s.C[bK s c.task]?=some ⟨kt,kn,kl⟩:=by rw[f2,f1];simp
     rw[hg];cases kl with
     |nil=>exact h
     |cons b r =>
      have e:s.C.set (bK s c.task) ⟨c.task,false,r⟩=A++⟨c.task,false,r⟩::B:=by rw[f2,f1];simp
      show S.good rm {s with C:=s.C.set (bK s c.task) ⟨c.task,false,r⟩}=true
      rw[e];have hk:=v2 ⟨kt,kn,b::r⟩ (by rw[f1];simp)
      refine hm _ ?_ ?_
      .have e2:(A++(⟨c.task,false,r⟩:K)::B).map K.task=s.C.map K.task:=by rw[f1];simp[f3]
       rw[e2];exact v1
      .intro x hx
       rcases dm.1 hx with h |h
       .exact v2 x (by rw[f1];exact El _ h)
       .rcases dD.1 h with h |h
        .rw[h]
         obtain⟨_,k2,k3⟩:=hk;simp only[ir,xK,bD]at k2 k3;exact⟨ht,by simp only;omega,k3.2⟩
        .exact v2 x (by rw[f1];exact He _ (zb _ h))
    .rw[aG a3];exact h
   .rw[aG a4]
    by_cases a5:(s.C.any λx=>decide (rm<=x.log.length))=true
    .rw[aN a5];exact h
    .rw[aG a5]
     have hv:=hc (by simpa using a1) (by simpa using a2) (by simpa using a4)
     refine hm _ ?_ ?_
     .have e2:(s.C.map λx=>(⟨x.task,false,x.log++[c.value]⟩:K)).map K.task=s.C.map K.task:=by
       rw[ke];rfl
      rw[e2];exact v1
     .intro x hx
      obtain⟨w,hw,rfl⟩:=gY.1 hx;obtain⟨k1,k2,k3⟩:=v2 w hw;have h5:¬rm<=(w.log.length:Int):=by
       intro hh;exact a5 (qC.2 ⟨w,hw,Qh hh⟩)
      refine⟨k1,by simp;omega,?_⟩
      simp[Kz,hv]at k3⊢;exact k3
theorem Dn{n:Int}{b:Bool}(h:n=0)(hb:b=true):ck n b=0:=by unfold ck;rw[aN h,hb];rfl
theorem agZ(k sz ot:Int)(s:S)(c:Cl):(raw k sz ot s c).1.Q=s.Q:=by
 unfold raw;repeat' split
 .unfold eM;repeat' split
  all_goals rfl
 .unfold eW;repeat' split
  all_goals rfl
 .unfold eS;repeat' split
  all_goals rfl
 .unfold eB;repeat' split
  all_goals rfl
 .unfold eC;repeat' split
  all_goals rfl
 .unfold eT;repeat' split
  all_goals rfl
 .unfold eL mK;repeat' split
  all_goals rfl
 .unfold eF;repeat' split
  all_goals rfl
theorem ag0(sz:Int):1<=dc sz:=by unfold dc;split<;>omega
theorem Bw{k sz ot:Int}{s:S}(h1:gq k sz ot=0)(h2:s.Q=[])(h3:k=5->0<=s.val/\s.val<sz)(h4:gS k (jq k sz) ot (iG k s)=0):cY k sz ot s=true:=by
 unfold cY;rw[h1,h2,h4];by_cases h5:k=5
 .have:=h3 h5
  simp[h5];omega
 .simp[h5]
theorem ag1{k sz ot:Int}{s:S}{c:Cl}(ha:cY k sz ot s=true)(hc:cM c=false)(hb:dJ k c.op=true)(hf:fit k sz c=true)(he:(raw k sz ot s c).2.2.2=0):
  cY k sz ot (raw k sz ot s c).1=true:=by
 obtain⟨n1,n2,n3,n4⟩:=pg ha;obtain⟨ht,hn⟩:=TZ hc;have hQ:=agZ k sz ot s c;rw[n2]at hQ;rcases ZI ha with h |h |h |h |h |h |h |h<;>subst h
 .exact Bw n1 hQ (by simp) (by
   have:=agQ (c:=c) (Zv ha) ht;exact Dn (Di (by simpa[gS,jq,iG]using n4)) this)
 .exact Bw n1 hQ (by simp) (by
   have:=agR (c:=c) (Zw ha) ht he;exact Dn (Di (by simpa[gS,jq,iG]using n4)) this)
 .exact Bw n1 hQ (by simp) (by
   have h5:1<=c.value/\c.value<=sz:=by simpa[fit]using hf
   have:=agS (c:=c) (TX ha).2 h5;exact Dn (TX ha).1 this)
 .obtain⟨h1,h2,h3,h4⟩:=Zx ha
  have:=agT h2 ⟨h3,h4⟩ he;exact Bw n1 hQ (λ_=>this.2) (by exact Dn h1 this.1)
 .obtain⟨h1,h2⟩:=agu ha
  have h3:c.op=64->num c.value=true:=by
   intro h;simpa[fit,h]using hf
  have:=agU h2 h3;refine Bw n1 hQ (by simp) ?_
  exact Dn (Di (b:=ni (dc sz) s) (by simpa[gS,jq,iG]using n4)) this
 .obtain⟨h1,h2⟩:=Zy ha
  have h4:c.op=68\/c.op=69\/c.op=70\/c.op=71:=by
   simp[dJ]at hb;omega
  have h3:c.op≠69->c.op≠71->c.op≠70->num c.value=true:=by
   intro a b d;have h:c.op=68:=by omega
   simpa[fit,h]using hf
  have:=agY n2 h2 ht (ag0 sz) h3;refine Bw n1 hQ (by simp) ?_
  have n5:dX 7 (dc sz) ot s=0:=by simpa[gS,jq,iG]using n4
  have n6:dN 7 (dc sz) ot=0:=by
   unfold dX at n5;split at n5
   .assumption
   .exact n5
  show dX 7 (dc sz) ot (eT (dc sz) s c).1=0
  unfold dX;rw[aN n6,this];rfl
 .obtain⟨h1,h2⟩:=Zz ha
  have h3:=TY h1;have h7:c.op=72->1<=c.value:=by
   intro h
   have:1<=c.value/\c.value<=sz:=by simpa[fit,h]using hf
   exact this.1
  have:=agV h2 h3.1 h3.2.2.1 hn h7;exact Bw n1 hQ (by simp) (by exact Dn h1 this)
 .have h1:c.op=73\/c.op=74:=by simpa[dJ]using hb
  have h3:c.op≠74->num c.value=true:=by
   intro h;have h:c.op=73:=by omega
   simpa[fit,h]using hf
  have:=agW (s:=s) (c:=c) (Dh (n:=dM 9 9 sz ot) (by simpa[gS,jq,iG]using n4)) h3
  exact Bw n1 hQ (by simp) (by exact Dn (Di (by simpa[gS,jq,iG]using n4)) this)
theorem ag2{k sz ot:Int}{s:S}{c:Cl}(he:(eE k sz ot s c).2.2.2=0):cY k sz ot s=true/\cY k sz ot (eE k sz ot s c).1=true:=by
 unfold eE at he⊢;by_cases h1:cY k sz ot s=false
 .rw[aN h1]at he;simp[er]at he
 .rw[aG h1]at he⊢
  by_cases h2:cM c=true
  .rw[aN h2]at he;simp[er]at he
  .rw[aG h2]at he⊢
   by_cases h3:dJ k c.op=false
   .rw[aN h3]at he;simp[er]at he
   .rw[aG h3]at he⊢
    by_cases h4:fit k sz c=false
    .rw[aN h4]at he;simp[er]at he
    .rw[aG h4]at he⊢
     by_cases h5:(raw k sz ot s c).2.2.2=0
     .rw[aN h5]at he⊢
      have ha:cY k sz ot s=true:=by simpa using h1
      exact⟨ha,ag1 ha (by simpa using h2) (by simpa using h3) (by simpa using h4) h5⟩
     .rw[aG h5]at he;exact absurd he h5
theorem ZV(nm:D)(k sz ot:Int)(s:S)(c:Cl)(hw:s.wf)(hz:s.sz):
  Rel (ev P (.call uM [.d (.ag [nm,I' k,I' sz,I' ot]),.d (.ag s.row),.d (.ag c.row)] [])) (eE k sz ot s.pl c):=by
 by_cases hk:k=1\/k=2\/k=4\/k=5\/k=6\/k=7\/k=8\/k=9
 .rcases hk with h |h |h |h |h |h |h |h<;>subst h
  .exact agI nm sz ot s c hw hz
  .exact agJ nm sz ot s c hw hz
  .exact agK nm sz ot s c hw hz
  .exact agL nm sz ot s c hw hz
  .exact agM nm sz ot s c hw hz
  .exact agN nm sz ot s c hw hz
  .exact agO nm sz ot s c hw hz
  .exact agP nm sz ot s c hw hz
 .have ha:cY k sz ot s.pl=false:=by
   cases hh:cY k sz ot s.pl
   .rfl
   .exact absurd (ZI hh) hk
  unfold eE;rw[ha,aN rfl];have hU:=N0 hk;rw[au zJ rfl];exact Rel.fail 1 (by simp[dn,Cl.row,hU,eI,cq])
theorem T1(nm:D)(k sz ot:Int)(s:S)(c:Cl)(hw:s.wf)(hz:s.sz):
  ev P (.call ED [.d (.ag [nm,I' k,I' sz,I' ot]),.d (.ag s.row),.d (.ag c.row)] [])=some (.val (.d (.b ((eE k sz ot s.pl c).2.2.2==0))) []):=by
 obtain⟨s',h1,h2,h3⟩:=ZV nm k sz ot s c hw hz;generalize eE k sz ot s.pl c=r at *;simp only[S.row,Cl.row]at h1;rw[au ads rfl];simp[Sh,Cl.row,h1]
theorem Bx(f g:Nat)(nm:D)(k sz ot e:Int)(r:List D)(hr:r.length=9)(h:ev P (.call f [.d (.ag [nm,I' k,I' sz,I' ot])] [])=qQ e r):
  ev P (.call yd [.d (.ag [.fn f [] [],.fn g [] []]),.d (.ag [nm,I' k,I' sz,I' ot])] [])=qQ e r:=by
 unfold qQ at h⊢
 match r,hr with
 | [r0,r1,r2,r3,r4,r5,r6,r7,r8],_ =>
 rw[au ae7 rfl];by_cases he:e=0
 .rw[aN he]at h⊢
  simp[Nt,h,eG,eY]
 .rw[aG he]at h⊢
  simp[Nt,h,eG,eY,cq]
theorem T3(nm:D)(k sz ot:Int):ev P (.call Lp [.d (.ag [nm,I' k,I' sz,I' ot])] [])=qQ (gq k sz ot) (wC k sz):=by
 rw[au adt rfl];by_cases hk:k=1\/k=2\/k=4\/k=5\/k=6\/k=7\/k=8\/k=9
 .rcases hk with h |h |h |h |h |h |h |h<;>subst h
  .have h:=Bx sM oS nm 1 sz ot _ _ rfl (NO nm 1 sz ot)
   have e:gq 1 sz ot=dM 1 1 sz ot:=rfl;rw[e];by_cases hm:dM 1 1 sz ot=0<;>simp[vY,tX,cQ,h,hm,wC,gp,cq]
  .have h:=Bx sN jB nm 2 sz ot _ _ rfl (NP nm 2 sz ot)
   have e:gq 2 sz ot=dM 2 2 sz ot:=rfl;rw[e];by_cases hm:dM 2 2 sz ot=0<;>simp[vY,rZ,cQ,h,hm,wC,gp,cq]
  .have h:=Bx tF p8 nm 4 sz ot _ _ rfl (uZ nm 4 sz ot)
   have e:gq 4 sz ot=iU 4 sz ot:=rfl;rw[e];by_cases hm:iU 4 sz ot=0<;>simp[vY,qY,cQ,h,hm,wC,grow,cq]
  .have h:=Bx tG nJ nm 5 sz ot _ _ rfl (u5 nm 5 sz ot)
   have e:gq 5 sz ot=iF 5 sz ot:=rfl;rw[e];by_cases hm:iF 5 sz ot=0<;>simp[vY,Aa,cQ,h,hm,wC,gp,cq]
  .have h:=Bx tH gn nm 6 sz ot _ _ rfl (FA nm 6 sz ot)
   have e:gq 6 sz ot=gM 6 sz ot:=rfl;rw[e];by_cases hm:gM 6 sz ot=0<;>simp[vY,sV,cQ,h,hm,wC,gp,cq]
  .have h:=Bx tJ rS nm 7 sz ot _ _ rfl (tR nm 7 sz ot)
   have e:gq 7 sz ot=dN 7 sz ot:=rfl;rw[e];by_cases hm:dN 7 sz ot=0<;>simp[vY,qZ,cQ,h,hm,wC,gp,cq]
  .have h:=Bx tK ng nm 8 sz ot _ _ rfl (u6 nm 8 sz ot)
   have e:gq 8 sz ot=jh 8 sz ot:=rfl;rw[e];by_cases hm:jh 8 sz ot=0<;>simp[vY,vf,cQ,h,hm,wC,grow,cq]
  .have h:=Bx tL oU nm 9 sz ot _ _ rfl (Fz nm 9 sz ot)
   have e:gq 9 sz ot=dM 9 9 sz ot:=rfl;rw[e];by_cases hm:dM 9 9 sz ot=0<;>simp[vY,vg,cQ,h,hm,wC,gp,cq]
 .have hU:=N0 hk
  have e:gq k sz ot=8:=by
   unfold gq;repeat' split
   all_goals first |rfl |(exfalso;apply hk;simp[*])
  rw[e];simp[vY,hU,cq]
def ew(k sz:Int):S:=⟨-1,if k=4\/k=8 then sz else 0,0,true,[],true,[],true,[],true,[],false,0⟩
theorem T4(k sz:Int):(ew k sz).row=wC k sz:=by
 unfold ew wC;by_cases h:k=4\/k=8
 .rw[aN h,aN h];rfl
 .rw[aG h,aG h];rfl
theorem N3(k sz:Int):(ew k sz).wf:=⟨λ_=>rfl,λ_=>rfl,λ_=>rfl,by simp[ew]⟩
structure S.zn(n:Nat)(s:S):Prop where
 h:s.H.length<=n
 b:s.B.length<=n
 q:s.Q.length<=n
 c:s.C.length<=n
 l:∀c∈s.C,c.log.length<=n
theorem S.zn.sz{n:Nat}{s:S}(h:s.zn n)(hn:n<=1000):s.sz:=⟨by have:=h.h;omega,by have:=h.b;omega,by have:=h.q;omega,by have:=h.c;omega,λc hc=>by have:=h.l c hc;omega⟩
theorem ZW{n:Nat}{s:S}:s.pl.zn n↔s.zn n:=by
 constructor
 .intro h
  refine⟨h.h,h.b,h.q,by have:=h.c;simpa[S.pl]using this,λc hc=>?_⟩
  exact h.l (K.pl c) (Qg hc)
 .intro h
  refine⟨h.h,h.b,h.q,by have:=h.c;simpa[S.pl]using this,λc hc=>?_⟩
  obtain⟨d,hd,rfl⟩:=gY.1 hc;exact h.l d hd
theorem S.zn.up{n:Nat}{s:S}(h:s.zn n):s.zn (n+1):=⟨by have:=h.h;omega,by have:=h.b;omega,by have:=h.q;omega,by have:=h.c;omega,λc hc=>by have:=h.l c hc;omega⟩
theorem ag3(k sz ot:Int){n:Nat}{s:S}(c:Cl)(h:s.zn n):(raw k sz ot s c).1.zn (n+1):=by
 have hu:=h.up;have hs:∀o x t v b,S.zn (n+1) {s with own:=o,cnt:=x,time:=t,val:=v,cl:=b}:=λo x t v b=>⟨hu.h,hu.b,hu.q,hu.c,hu.l⟩
 unfold raw;repeat' split
 .unfold eM;repeat' split
  all_goals exact hs _ _ _ _ _
 .unfold eW;repeat' split
  all_goals first
   |exact hs _ _ _ _ _
   |exact⟨by have h1:=h.h;have h2:=oM (λx=>x != c.task) s.H;simp[gd];omega,hu.b,hu.q,hu.c,hu.l⟩
   |exact⟨by have h1:=h.h;have h2:=tU c.task s.H;simp[gd,eZ];omega,hu.b,hu.q,hu.c,hu.l⟩
 .unfold eS;repeat' split
  all_goals exact hs _ _ _ _ _
 .unfold eB;repeat' split
  all_goals exact hs _ _ _ _ _
 .unfold eC;repeat' split
  all_goals first
   |exact hs _ _ _ _ _
   |exact⟨hu.h,by have h1:=h.b;simp[gd];omega,hu.q,hu.c,hu.l⟩
   |exact⟨hu.h,by have h1:=h.b;simp_all;omega,hu.q,hu.c,hu.l⟩
 .unfold eT;repeat' split
  all_goals first
   |exact hs _ _ _ _ _
   |(
    refine⟨hu.h,hu.b,hu.q,?_,?_⟩
    .have h1:=h.c;simp[gd];omega
    .intro x hx
     simp only[gd,dm,dD]at hx;rcases hx with h |h |h
     .exact hu.l x (oa h)
     .rw[h];simp
     .exact hu.l x (mV h))
   |(
    refine⟨hu.h,hu.b,hu.q,?_,?_⟩
    .have h1:=h.c;simp[gd];omega
    .intro x hx
     simp only[gd,dm]at hx;rcases hx with h |h
     .exact hu.l x (oa h)
     .exact hu.l x (mV h))
   |(
    rename_i b r hg;refine⟨hu.h,hu.b,hu.q,?_,?_⟩
    .have h1:=h.c;simp;omega
    .intro x hx
     rcases KA hx with h2 |h2
     .exact hu.l x h2
     .rw[h2]
      have h3:=h.l _ (lE hg);simp at h3⊢;omega)
   |(
    refine⟨hu.h,hu.b,hu.q,?_,?_⟩
    .have h1:=h.c;simp[gd];omega
    .intro x hx
     simp only[gd]at hx;obtain⟨w,hw,rfl⟩:=gY.1 hx;have h3:=h.l w hw;simp;omega)
 .unfold eL mK;repeat' split
  all_goals exact hs _ _ _ _ _
 .unfold eF;repeat' split
  all_goals exact hs _ _ _ _ _
theorem ag4(n:Nat):zS.zn n:=⟨by simp[zS,zN,S.pl],by simp[zS,zN,S.pl],by simp[zS,zN,S.pl],by simp[zS,zN,S.pl],by simp[zS,zN,S.pl]⟩
theorem ag5(k sz ot:Int){n:Nat}{s:S}(c:Cl)(h:s.zn n):(eE k sz ot s c).1.zn (n+1):=by
 unfold eE;repeat' split
 all_goals first |exact ag4 _ |exact ag3 k sz ot c h
structure Wk where
 task:Int
 op:Int
 value:Int
 ok:Bool
 case:Int
def Wk.row(w:Wk):List D:=[I' w.task,I' w.op,I' w.value,.b w.ok,I' w.case]
def I3(k sz ot:Int)(s:S)(c:Cl)(w:Wk):Option S :=
 if((eE k sz ot s c).2.2.2 != 0||c.task != w.task||c.op != w.op)then none
 else if(w.value==(eE k sz ot s c).2.1&&w.ok==(eE k sz ot s c).2.2.1)then some (eE k sz ot s c).1
 else if(c.op==61&&ot==0&&(w.value==0&&!w.ok))then some s else none
def yu(k sz ot:Int):S->List Cl->List Wk->Option S
 |s,c::l,w::r=>(I3 k sz ot s c w).bind λt=>yu k sz ot t l r
 |s,_,_=>some s
def I4(b:Bool):Int:=if b then 1 else 0
theorem T5(v:Int)(b:Bool):ev P (.call HC [.d (I' v),.d (.b b)] [])=some (.val (.d (.ag [I' v,I' (I4 b)])) []):=by
 rw[au adx rfl];cases b<;>simp[Sk,I4]
theorem T6(a b:Bool):(I4 a==I4 b)=(a==b):=by cases a<;>cases b<;>decide
theorem T7(a:Bool):(I4 a==0)=!a:=by cases a<;>decide
theorem ag6(nm:D)(k sz ot:Int)(ln rn:Bool)(l:List Cl)(r:List Wk)(hlr:l.length=r.length)(hn:l.length<=1000):∀(sl:List Cl)(sr:List Wk)(pl:List Cl)(pr:List Wk)(a:S),l=pl++sl->r=pr++sr->pr.length=pl.length->a.wf->a.zn pl.length ->
  match yu k sz ot a.pl sl sr with
  |none=>ev P (.loop 0 [2,3,7,38,39,40] sQ [(2,.d (.sl 5 rn (r.map Wk.row))),(3,.d (.ref [nm,I' k,I' sz,I' ot])),(7,.loc 0 0 0),(38,.d (.sl 5 ln (l.map Cl.row))),(39,.d (I' l.length)),(40,.d (I' pl.length))] [.aI 9 true [a.row]])=some (.out .ret [(6,.d (.b false))] [])
  |some t=>∃a':S,a'.pl=t/\a'.wf/\a'.zn l.length/\ev P (.loop 0 [2,3,7,38,39,40] sQ [(2,.d (.sl 5 rn (r.map Wk.row))),(3,.d (.ref [nm,I' k,I' sz,I' ot])),(7,.loc 0 0 0),(38,.d (.sl 5 ln (l.map Cl.row))),(39,.d (I' l.length)),(40,.d (I' pl.length))] [.aI 9 true [a.row]]) =
    some (.out (.exit 0) [(3,.d (.ref [nm,I' k,I' sz,I' ot])),(7,.loc 0 0 0)] [.aI 9 true [a'.row]]):=by
 intro sl;induction sl with
 |nil =>
  intro sr pl pr a hl hr hp hw hz;have h1:l.length=pl.length:=by simp[hl]
  simp only[yu];refine⟨a,rfl,hw,by rw[h1];exact hz,?_⟩
  rw[bY]
  conv=>lhs;arg 4;unfold sQ
  simp[h1,aJ,aD,sub,aE,back,ak,cut,aq,V.aY,bt,aX,bg,av,aO,aP]
 |cons c sl ih =>
  intro sr pl pr a hl hr hp hw hz;have hlt:(pl.length:Int)<l.length:=by simp[hl];omega
  have hnext:IntKind.i64.wrap ((pl.length:Int)+1)=pl.length+1:=wrap_i64 (by omega) (by omega)
  have hg:l[pl.length]?=some c:=by simp[hl]
  cases sr with
  |nil=>exfalso;simp[hl,hr]at hlr;omega
  |cons w sr =>
  have hg':r[pl.length]?=some w:=by rw[<-hp];simp[hr]
  obtain⟨a',e1,e2,e3⟩:=ZV nm k sz ot a c hw (hz.sz (by simp[hl]at hn;omega))
  have hz':a'.zn (pl.length+1):=by
   rw[<-ZW,e2];exact ag5 k sz ot c (ZW.2 hz)
  have ih1:=ih sr (pl++[c]) (pr++[w]) a' (by simp[hl]) (by simp[hr]) (by simp[hp]) e3 (by simpa using hz')
  have ih2:=ih sr (pl++[c]) (pr++[w]) a (by simp[hl]) (by simp[hr]) (by simp[hp]) hw (by simpa using hz.up)
  have Dm:=T5 0 false;have nj:=T5 w.value w.ok;unfold yu I3;generalize eE k sz ot a.pl c=x at *;obtain⟨x1,x2,x3,x4⟩:=x;simp only at e1 e2;have By:=T5 x2 x3;rw[e2]at ih1;simp only[S.row,Cl.row]at e1;cases hB:(x4 != 0||c.task != w.task||c.op != w.op)
  .rw[aG (by decide)]
   cases hM:(w.value==x2&&w.ok==x3)
   .rw[aG (by decide)]
    cases hI:(c.op==61&&ot==0&&(w.value==0&&!w.ok))
    .rw[aG (by decide)]
     simp only[Option.bind_none];rw[bY]
     conv=>lhs;arg 4;unfold sQ
     simp[hlt,hg,hg',Cl.row,Wk.row,e1,hnext,Dm,nj,By,hB,hM,hI,T6,T7,aJ,aD,sub,aE,back,ak,cut,aq,V.aY,bt,aX,bg,av,aO,aP]
    .rw[aN rfl,uB]
     have hs:ev P (.loop 0 [2,3,7,38,39,40] sQ [(2,.d (.sl 5 rn (r.map Wk.row))),(3,.d (.ref [nm,I' k,I' sz,I' ot])),(7,.loc 0 0 0),(38,.d (.sl 5 ln (l.map Cl.row))),(39,.d (I' l.length)),(40,.d (I' pl.length))] [.aI 9 true [a.row]]) =
       ev P (.loop 0 [2,3,7,38,39,40] sQ [(2,.d (.sl 5 rn (r.map Wk.row))),(3,.d (.ref [nm,I' k,I' sz,I' ot])),(7,.loc 0 0 0),(38,.d (.sl 5 ln (l.map Cl.row))),(39,.d (I' l.length)),(40,.d (I' (pl++[c]).length))] [.aI 9 true [a.row]]):=by
      generalize hR:ev P (.loop 0 [2,3,7,38,39,40] sQ [(2,.d (.sl 5 rn (r.map Wk.row))),(3,.d (.ref [nm,I' k,I' sz,I' ot])),(7,.loc 0 0 0),(38,.d (.sl 5 ln (l.map Cl.row))),(39,.d (I' l.length)),(40,.d (I' (pl++[c]).length))] [.aI 9 true [a.row]])=R;rw[bY]
      conv=>lhs;arg 4;unfold sQ
      simp at hR;simp[hlt,hg,hg',Cl.row,Wk.row,e1,hnext,Dm,nj,By,hB,hM,hI,T6,T7,aJ,aD,sub,aE,back,ak,cut,aq,V.aY,bt,aX,bg,av,aO,aP];exact hR
     rw[hs];exact ih2
   .rw[aN rfl,uB]
    have hs:ev P (.loop 0 [2,3,7,38,39,40] sQ [(2,.d (.sl 5 rn (r.map Wk.row))),(3,.d (.ref [nm,I' k,I' sz,I' ot])),(7,.loc 0 0 0),(38,.d (.sl 5 ln (l.map Cl.row))),(39,.d (I' l.length)),(40,.d (I' pl.length))] [.aI 9 true [a.row]]) =
      ev P (.loop 0 [2,3,7,38,39,40] sQ [(2,.d (.sl 5 rn (r.map Wk.row))),(3,.d (.ref [nm,I' k,I' sz,I' ot])),(7,.loc 0 0 0),(38,.d (.sl 5 ln (l.map Cl.row))),(39,.d (I' l.length)),(40,.d (I' (pl++[c]).length))] [.aI 9 true [a'.row]]):=by
     generalize hR:ev P (.loop 0 [2,3,7,38,39,40] sQ [(2,.d (.sl 5 rn (r.map Wk.row))),(3,.d (.ref [nm,I' k,I' sz,I' ot])),(7,.loc 0 0 0),(38,.d (.sl 5 ln (l.map Cl.row))),(39,.d (I' l.length)),(40,.d (I' (pl++[c]).length))] [.aI 9 true [a'.row]])=R;rw[bY]
     conv=>lhs;arg 4;unfold sQ
     simp at hR;simp[hlt,hg,hg',Cl.row,Wk.row,e1,hnext,Dm,nj,By,hB,hM,T6,T7,aJ,aD,sub,aE,back,ak,cut,aq,V.aY,bt,aX,bg,av,aO,aP];exact hR
    rw[hs];exact ih1
  .rw[aN rfl]
   simp only[Option.bind_none];rw[bY]
   conv=>lhs;arg 4;unfold sQ
   simp[hlt,hg,hg',Cl.row,Wk.row,e1,hnext,Dm,nj,By,hB,aJ,aD,sub,aE,back,ak,cut,aq,V.aY,bt,aX,bg,av,aO,aP]
theorem ZX(f g:Nat)(nm:D)(k sz ot e:Int)(s:S)(h:ev P (.call g [.d (.ag [nm,I' k,I' sz,I' ot]),.d (.ag s.row)] [])=some (.val (.d (I' e)) [])):
  ev P (.call oW [.d (.ag [.fn f [] [],.fn g [] []]),.d (.ag [nm,I' k,I' sz,I' ot]),.d (.ag s.row)] [])=some (.val (.d (I' e)) []):=by
 simp only[S.row]at h;rw[au ae6 rfl];simp[Te,h,eG,eY]
def Bz(k sz ot:Int)(l:List Cl)(r:List Wk):Bool :=
 if(gq k sz ot != 0||(l.length:Int) != r.length||decide ((1000:Int)<l.length))then false
 else match yu k sz ot (ew k sz).pl l r with
  |none=>false
  |some t=>gS k sz ot t==0
theorem ZY(k sz:Int)(n:Nat):(ew k sz).zn n:=⟨by simp[ew],by simp[ew],by simp[ew],by simp[ew],by simp[ew]⟩
theorem ag7{k sz ot:Int}{s t:S}{c:Cl}{w:Wk}(h:I3 k sz ot s c w=some t)(hq:s.Q=[]):t.Q=[]:=by
 unfold I3 at h;by_cases h1:((eE k sz ot s c).2.2.2 != 0||c.task != w.task||c.op != w.op)=true
 .rw[aN h1]at h;cases h
 .rw[aG h1]at h
  by_cases h2:(w.value==(eE k sz ot s c).2.1&&w.ok==(eE k sz ot s c).2.2.1)=true
  .rw[aN h2]at h
   cases h;simp at h1;exact(pg (ag2 (by simpa using h1.1.1)).2).2.1
  .rw[aG h2]at h
   split at h
   .cases h;exact hq
   .cases h
theorem ZZ(k sz ot:Int):∀(l:List Cl)(r:List Wk)(s t:S),yu k sz ot s l r=some t->s.Q=[]->t.Q=[]
 | [],_,s,t,h,hq=>by simp[yu]at h;rw[<-h];exact hq
 |_::_,[],s,t,h,hq=>by simp[yu]at h;rw[<-h];exact hq
 |c::l,w::r,s,t,h,hq=>by
  unfold yu at h;cases hx:I3 k sz ot s c w with
  |none=>rw[hx]at h;cases h
  |some u =>
   rw[hx,uB]at h;exact ZZ k sz ot l r u t h (ag7 hx hq)
theorem BA(f g t:Nat)(ht:t=101\/t=102\/t=103\/t=104\/t=105\/t=106\/t=107\/t=108)(nm:D)(k sz ot:Int)(Ac:ev P (.call qK [.d (I' k)] [])=some (.val (.tu [.d (.kf t (.ag [.fn f [] [],.fn g [] []])),.d (.b true)]) []))
  (bQ:∀s:S,s.Q=[]->s.sm->ev P (.call g [.d (.ag [nm,I' k,I' sz,I' ot]),.d (.ag s.row)] [])=some (.val (.d (I' (gS k sz ot s))) []))(ln rn:Bool)(l:List Cl)(r:List Wk)(hl:l.length<=100000)(hr:r.length<=100000):
  ev P (.call EE [.d (.ag [nm,I' k,I' sz,I' ot]),.d (.sl 5 ln (l.map Cl.row)),.d (.sl 5 rn (r.map Wk.row))] [])=some (.val (.d (.b (Bz k sz ot l r))) []):=by
 have hI:=T3 nm k sz ot;rw[<-T4]at hI;unfold qQ at hI;rw[au Yo rfl];unfold Bz;cases hB:(gq k sz ot != 0||(l.length:Int) != r.length||decide ((1000:Int)<l.length))
 .rw[aG (by decide)]
  have Z0:=hB;simp at Z0;obtain⟨⟨b1,b2⟩,b3⟩:=Z0;have hL:=ag6 nm k sz ot ln rn l r (by omega) (by omega) l r [] [] (ew k sz) rfl rfl rfl (N3 _ _) (ZY _ _ _)
  rw[aN b1,b1]at hI;simp only[S.row]at hI;have hb:((l.length:Int) != r.length||decide ((1000:Int)<l.length))=false:=by rw[b1]at hB;simpa using hB
  cases hx:yu k sz ot (ew k sz).pl l r with
  |none =>
   rw[hx]at hL;simp only[S.row]at hL;simp at hL;simp[CW,hI,hb,hL,aJ,aD,sub,aE,back,ak,cut,aq,V.aY,bt,aX,bg,av,aO,aP]
  |some t =>
   rw[hx]at hL;obtain⟨s,h1,h2,h3,hL⟩:=hL;have hq:s.Q=[]:=by
    have:=ZZ k sz ot l r _ _ hx rfl;rw[<-h1]at this;exact this
   have hs:=(h3.sz (by omega)).sm
   have hC:=ZX f g nm k sz ot _ s (bQ s hq hs);have e:gS k sz ot t=gS k sz ot s:=by rw[<-h1];exact ZG k sz ot s hq
   simp only[e];generalize gS k sz ot s=q at *;simp only[S.row]at hL hC;simp at hL;rcases ht with h |h |h |h |h |h |h |h<;>subst h<;>simp[CW,hI,hb,hL,Ac,cQ,hC,aJ,aD,sub,aE,back,ak,cut,aq,V.aY,bt,aX,bg,av,aO,aP]
 .rw[aN rfl]
  by_cases b1:gq k sz ot=0
  .rw[aN b1,b1]at hI
   rw[b1]at hB;simp only[S.row]at hI;have hb:((l.length:Int) != r.length||decide ((1000:Int)<l.length))=true:=by simpa using hB
   simp[CW,hI,hb]
  .rw[aG b1]at hI
   have b2:(gq k sz ot != 0)=true:=by simpa using b1
   simp[CW,hI,b2,cq]
theorem T8(nm:D)(k sz ot:Int)(ln rn:Bool)(l:List Cl)(r:List Wk)(hl:l.length<=100000)(hr:r.length<=100000):
  ev P (.call EE [.d (.ag [nm,I' k,I' sz,I' ot]),.d (.sl 5 ln (l.map Cl.row)),.d (.sl 5 rn (r.map Wk.row))] [])=some (.val (.d (.b (Bz k sz ot l r))) []):=by
 by_cases hk:k=1\/k=2\/k=4\/k=5\/k=6\/k=7\/k=8\/k=9
 .rcases hk with h |h |h |h |h |h |h |h<;>subst h
  .exact BA sM oS 101 (.inl rfl) nm 1 sz ot tX (λs hq hs=>Zf nm 1 sz ot s hq hs) ln rn l r hl hr
  .exact BA sN jB 102 (.inr (.inl rfl)) nm 2 sz ot rZ (λs hq hs=>Zi nm 2 sz ot s hq hs) ln rn l r hl hr
  .exact BA tF p8 103 (.inr (.inr (.inl rfl))) nm 4 sz ot qY (λs hq hs=>Zg nm 4 sz ot s hq hs) ln rn l r hl hr
  .exact BA tG nJ 104 (.inr (.inr (.inr (.inl rfl)))) nm 5 sz ot Aa (λs hq hs=>Zh nm 5 sz ot s hq hs) ln rn l r hl hr
  .exact BA tH gn 105 (.inr (.inr (.inr (.inr (.inl rfl))))) nm 6 sz ot sV (λs hq hs=>TN nm 6 sz ot s hq hs) ln rn l r hl hr
  .exact BA tJ rS 106 (.inr (.inr (.inr (.inr (.inr (.inl rfl)))))) nm 7 sz ot qZ (λs hq hs=>oA nm 7 sz ot s hs) ln rn l r hl hr
  .exact BA tK ng 107 (.inr (.inr (.inr (.inr (.inr (.inr (.inl rfl))))))) nm 8 sz ot vf (λs hq hs=>Zj nm 8 sz ot s hq hs) ln rn l r hl hr
  .exact BA tL oU 108 (.inr (.inr (.inr (.inr (.inr (.inr (.inr rfl))))))) nm 9 sz ot vg (λs hq hs=>Zn nm 9 sz ot s hq) ln rn l r hl hr
 .have hI:=T3 nm k sz ot
  have b1:¬gq k sz ot=0:=λh=>hk (ZH h)
  have b2:(gq k sz ot != 0)=true:=by simpa using b1
  have e:Bz k sz ot l r=false:=by
   unfold Bz;rw[b2];simp
  rw[e];unfold qQ at hI;rw[aG b1]at hI;rw[au Yo rfl];simp[CW,hI,b2,cq]
def Ae:Cl:=⟨1,64,5,0,0⟩
def Dp:Cl:=⟨2,65,0,0,0⟩
def Dq:Wk:=⟨1,64,0,true,0⟩
def I5:Wk:=⟨2,65,5,true,0⟩
theorem aw1:((eE 6 0 0 (ew 6 0).pl Ae).2.2.2==0)=true:=by decide
theorem aw2:((eE 6 0 0 (ew 6 0).pl Dp).2.2.2==0)=false:=by decide
theorem aw3:Bz 6 0 0 [Ae,Dp] [Dq,I5]=true:=by decide
theorem aw4:Bz 6 0 0 [Ae] [Dq]=false:=by decide
theorem aw5:Bz 6 0 0 [Dp,Ae] [I5,Dq]=false:=by decide
theorem ag8:ev P (.call A4 [] [])=some (.val (.d (.ag [.s [],I' 6,I' 0,I' 0])) []):=by
 rw[au adu rfl];simp[Si]
theorem T9:ev P (.call Lo [] [])=some (.val (.d (.b true)) []):=by
 have hI:=T3 (.s []) 6 0 0;have e0:gq 6 0 0=0:=by decide
 unfold qQ at hI;rw[aN e0,e0,<-T4]at hI;have hz:=(ZY 6 0 0).sz (by decide)
 have h1:=T1 (.s []) 6 0 0 (ew 6 0) Ae (N3 _ _) hz;have h2:=T1 (.s []) 6 0 0 (ew 6 0) Dp (N3 _ _) hz;have h3:=T8 (.s []) 6 0 0 false false [Ae,Dp] [Dq,I5] (by decide) (by decide)
 have h4:=T8 (.s []) 6 0 0 false false [Ae] [Dq] (by decide) (by decide)
 have h5:=T8 (.s []) 6 0 0 false false [Dp,Ae] [I5,Dq] (by decide) (by decide)
 rw[aw1]at h1;rw[aw2]at h2;rw[aw3]at h3;rw[aw4]at h4;rw[aw5]at h5;simp only[S.row]at hI h1 h2;simp only[gm,gQ,Cl.row,Wk.row,Ae,Dp,Dq,I5]at h1 h2 h3 h4 h5;rw[au adr rfl];simp[Sg,ag8,hI,h1,h2,h3,h4,h5,V.aY]
def ep(f:List W->W->Bool):List W->List W->Bool
 |_,[]=>true
 |pre,w::r=>f pre w&&ep f (pre++[w]) r
def Gu(sz:Int)(w:W):Bool:=w.op != 60||decide (w.value<1)||decide (sz<w.value)||w.case != -1
def fS(sz ot cnt:Int)(pre:List W)(w:W):Bool:=!Gu sz w&&(!pre.any (λx=>x.task==w.task)&&(decide ((0:Int)<pre.length)&&ot==0||decide (cnt<w.value)))
theorem amH(nm:D)(k sz ot own cnt time:Int)(a1 a2 a3:D)(cl:Bool)(val:Int)(qn:Bool)(pre:List W)(w:W)(r:List W)(hn:(pre++w::r).length<=1000000):
  ev P (.call Rf [.d (.ag [nm,I' k,I' sz,I' ot]),.d (.ag [I' own,I' cnt,I' time,a1,qD qn (pre++w::r),a2,a3,.b cl,I' val]),.d (I' pre.length)] [])=some (.val (.d (.b (fS sz ot cnt pre w))) []):=by
 have hF:=jW qn (pre++w::r) w.task hn;have nh:=fd_eq (pre:=pre) (w:=w) (r:=r);generalize jg (pre++w::r) w.task=p at *;obtain⟨p1,p2⟩:=p;simp only at nh;have hg:(pre++w::r)[pre.length]?=some w:=by simp
 rw[au adT rfl];unfold fS;rw[<-nh];cases h1:Gu sz w
 .unfold Gu at h1
  have hb:(p1 != (pre.length:Int))=!(p1==(pre.length:Int)):=rfl;cases h2:p1==(pre.length:Int)
  .rw[h2]at hb
   simp[E8,W.row,h1,hF,hb]
  .rw[h2]at hb
   cases h3:(decide ((0:Int)<pre.length)&&ot==0)
   .simp[E8,W.row,h1,hF,hb,h3]
    simp at h3
    grind
   .simp[E8,W.row,h1,hF,hb,h3]
    simp at h3
    grind
 .unfold Gu at h1
  simp[E8,W.row,h1]
theorem amI(nm:D)(k sz ot own cnt time:Int)(a1 a2 a3:D)(cl:Bool)(val:Int)(qn:Bool)(Q:List W)(hn:Q.length<=1000000):∀(suf pre:List W),Q=pre++suf ->
  ev P (.loop 0 [2,3,39,40] EX [(2,.d (.ref [nm,I' k,I' sz,I' ot])),(3,.d (.ref [I' own,I' cnt,I' time,a1,qD qn Q,a2,a3,.b cl,I' val])),(39,.d (I' Q.length)),(40,.d (I' pre.length))] []) =
   if ep (fS sz ot cnt) pre suf=true then some (.out (.exit 0) [(3,.d (.ref [I' own,I' cnt,I' time,a1,qD qn Q,a2,a3,.b cl,I' val]))] [])else some (.out .ret [(4,.d (I' 1))] []):=by
 intro suf;induction suf with
 |nil =>
  intro pre hl
  have:Q.length=pre.length:=by simp[hl]
  rw[bY]
  conv=>lhs;arg 4;unfold EX
  simp[this,ep]
 |cons w suf ih =>
  intro pre hl;have hlt:(pre.length:Int)<Q.length:=by simp[hl];omega
  have hnext:IntKind.i64.wrap ((pre.length:Int)+1)=pre.length+1:=wrap_i64 (by omega) (by omega)
  have bE:=ih (pre++[w]) (by simp[hl])
  have hw:=amH nm k sz ot own cnt time a1 a2 a3 cl val qn pre w suf (by rw[<-hl];exact hn)
  rw[<-hl]at hw;generalize hR:(if ep (fS sz ot cnt) (pre++[w]) suf=true then some (dL.out (.exit 0) [(3,V.d (.ref [I' own,I' cnt,I' time,a1,qD qn Q,a2,a3,.b cl,I' val]))] [])else some (.out .ret [(4,.d (I' 1))] []))=R at bE
  rw[bY]
  conv=>lhs;arg 4;unfold EX
  cases hf:fS sz ot cnt pre w
  .rw[hf]at hw
   simp[hlt,hw,ep,hf]
  .rw[hf]at hw
   have hq:ep (fS sz ot cnt) pre (w::suf)=ep (fS sz ot cnt) (pre++[w]) suf:=by simp[ep,hf]
   rw[hq,hR];simp at bE;simp[hlt,hw,hnext];exact bE
def BX(sz ot:Int)(s:S):Bool:=(!(s.own != -1||decide (s.cnt<0)||decide (sz<s.cnt))&&dY s.Q==0)&&(ep (fS sz ot s.cnt) [] s.Q&&!(s.time != 0||decide ((0:Int)<(s.H.length:Int)+s.B.length+s.C.length)||s.cl||s.val != 0))
theorem VJ(nm:D)(k sz ot:Int)(s:S)(hs:s.sm):
  ev P (.call p8 [.d (.ag [nm,I' k,I' sz,I' ot]),.d (.ag s.row)] [])=some (.val (.d (I' (ck (iU k sz ot) (BX sz ot s)))) []):=by
 obtain⟨own,cnt,time,hn,H,qn,Q,bn,B,cn,C,cl,val⟩:=s;obtain⟨h1,h2,h3,h4,_⟩:=hs;simp only at h1 h2 h3 h4;have hw1:IntKind.i64.wrap ((H.length:Int)+B.length)=H.length+B.length:=wrap_i64 (by omega) (by omega)
 have dV:IntKind.i64.wrap ((H.length:Int)+B.length+C.length)=H.length+B.length+C.length:=wrap_i64 (by omega) (by omega)
 have hl:=amI nm k sz ot own cnt time (hD hn H) (hD bn B) (cD cn C) cl val qn Q (by omega) Q [] rfl
 simp at hl;have hW:=uW qn Q;rw[au Yv rfl];unfold ck BX;cases hm:iU k sz ot==0
 .have hm':iU k sz ot≠0:=by simpa using hm
  have hm2:(iU k sz ot != 0)=true:=by simpa using hm'
  simp[uR,uZ,hm',hm2,cq]
 .have hm':iU k sz ot=0:=by simpa using hm
  cases hA:(own != -1||decide (cnt<0)||decide (sz<cnt))
  .cases hw:dY Q==0
   .have hw':(dY Q != 0)=true:=by rw[bne,hw];rfl
    simp[uR,uZ,hm',grow,hA,hW,hw,hw']
   .have hw':(dY Q != 0)=false:=by rw[bne,hw];rfl
    cases hq:ep (fS sz ot cnt) [] Q
    .rw[hq]at hl
     simp[uR,uZ,hm',grow,hA,hW,hw',hl]
    .rw[hq]at hl
     cases hB:(time != 0||decide ((0:Int)<(H.length:Int)+B.length+C.length)||cl||val != 0)
     .simp[uR,uZ,hm',grow,hA,hw1,dV,hB,hW,hw',hw,hl]
     .simp[uR,uZ,hm',grow,hA,hw1,dV,hB,hW,hw',hw,hl]
  .simp[uR,uZ,hm',grow,hA]
def iI:List Int->List Int->List Int
 |acc,[]=>acc
 |acc,t::r=>if t∈acc then iI acc r else iI (acc++[t]) r
def s9(acc:List Int):List D:=(List.range 16).map fun(k:Nat)=>.b (decide ((k:Int)∈acc))
theorem amJ(acc:List Int):(s9 acc).length=16:=by simp[s9]
theorem amK(acc:List Int){t:Int}(h:0<=t/\t<16):(s9 acc)[t.toNat]?=some (.b (decide (t∈acc))):=by
 have h1:t.toNat<16:=by omega
 have h2:(t.toNat:Int)=t:=by omega
 simp[s9,h1,h2]
theorem amL(acc:List Int){t:Int}(h:0<=t/\t<16):av (s9 acc) t.toNat [.b true]=s9 (acc++[t]):=by
 have h1:t.toNat<16:=by omega
 have hl:=amJ acc;have e:av (s9 acc) t.toNat [.b true]=(s9 acc).set t.toNat (.b true):=by
  unfold av;rw[List.set_eq_take_append_cons_drop,aN (by omega)]
  simp
 rw[e];apply List.ext_getElem?;intro i;rw[KK];by_cases hi:t.toNat=i
 .subst hi
  have h2:(t.toNat:Int)=t:=by omega
  simp[s9,h1,h2]
 .rw[aG hi]
  by_cases o9:i<16
  .have hne:¬(i:Int)=t:=by omega
   simp[s9,o9,hne]
  .simp[s9,o9]
def yN(n:Nat):V:=if n=0 then .d (.sl 1 true [])else .aR 1 0 n
def ug(l:List Int):List O:=if l=[]then[]else[.aI 1 true (bW l)]
theorem amM(nl:Bool)(l:List W)(hn:l.length<=1000000)(ht:∀w∈l,0<=w.task/\w.task<16):∀(suf pre:List W)(acc:List Int),l=pre++suf->acc.length<=pre.length ->
  ev P (.loop 0 [0,3,4,9,10,11] Ik [(0,.d (qD nl l)),(3,.loc 0 0 0),(4,yN acc.length),(9,.d (qD nl l)),(10,.d (I' l.length)),(11,.d (I' pre.length))] ([.aI 16 true [s9 acc]]++ug acc)) =
   some (.out (.exit 0) [(4,if iI acc (suf.map W.task)=[]then .d (.sl 1 true [])else .aR 0 0 (iI acc (suf.map W.task)).length)] (ug (iI acc (suf.map W.task)))):=by
 intro suf;induction suf with
 |nil =>
  intro pre acc hl ha
  have:l.length=pre.length:=by simp[hl]
  rw[bY]
  conv=>lhs;arg 4;unfold Ik
  cases acc with
  |nil=>simp[this,iI,yN,ug,ak,cut,aq]
  |cons a b=>simp[this,iI,yN,ug,ak,cut,aq]
 |cons w suf ih =>
  intro pre acc hl ha;have hg:l[pre.length]?=some w:=by simp[hl]
  have hlt:(pre.length:Int)<l.length:=by simp[hl];omega
  have amN:pre.length<l.length:=by simp[hl]
  have hnext:IntKind.i64.wrap ((pre.length:Int)+1)=pre.length+1:=wrap_i64 (by omega) (by omega)
  have hw:=ht w (by simp[hl])
  have h0:¬w.task<0:=by omega
  have hgt:=amK acc hw;have hst:=amL acc hw;have DD:=amJ acc;have JM:∀h,(s9 acc)[w.task.toNat]'h = .b (decide (w.task∈acc)):=λh=>by
   rw[qE h]at hgt;simpa using hgt
  have o9:w.task.toNat+1<=16:=by omega
  rw[gm];by_cases hm:w.task∈acc
  .have bE:=ih (pre++[w]) acc (by simp[hl]) (by simp;omega)
   have hd:iI acc (w.task::suf.map W.task)=iI acc (suf.map W.task):=by simp[iI,hm]
   rw[hd];generalize hR:some (dL.out (.exit 0) [(4,if iI acc (suf.map W.task)=[]then V.d (.sl 1 true [])else V.aR 0 0 (iI acc (suf.map W.task)).length)] (ug (iI acc (suf.map W.task))))=R at bE⊢
   clear hR;simp[hm]at JM;rw[bY]
   conv=>lhs;arg 4;unfold Ik
   cases acc with
   |nil=>simp at hm
   |cons a b =>
    simp[yN,ug]at bE;simp[hlt,hg,W.row,hw.1,hw.2,DD,JM,hnext,yN,ug,ak,cut,aq];exact bE
  .have bE:=ih (pre++[w]) (acc++[w.task]) (by simp[hl]) (by simp;omega)
   have hd:iI acc (w.task::suf.map W.task)=iI (acc++[w.task]) (suf.map W.task):=by simp[iI,hm]
   rw[hd];generalize hR:some (dL.out (.exit 0) [(4,if iI (acc++[w.task]) (suf.map W.task)=[]then V.d (.sl 1 true [])else V.aR 0 0 (iI (acc++[w.task]) (suf.map W.task)).length)] (ug (iI (acc++[w.task]) (suf.map W.task))))=R at bE⊢
   clear hR;simp[hm]at JM;rw[bY]
   conv=>lhs;arg 4;unfold Ik
   cases acc with
   |nil =>
    have hr:1<=room:=by decide
    simp only[mX]at hst;simp[yN,ug]at bE;simp[-av,hlt,hg,W.row,hw.1,hw.2,JM,hst,DD,o9,hr,hnext,yN,ug,ak,cut,aq];exact bE
   |cons a b =>
    have hr:b.length+1+1<=room:=by simp at ha;unfold room;omega
    simp only[tB]at hst;simp[yN,ug]at bE;simp[-av,hlt,hg,W.row,hw.1,hw.2,JM,hst,DD,o9,hr,hnext,yN,ug,ak,cut,aq,cy,aZ];exact bE
theorem amO(nl:Bool)(l:List W)(hn:l.length<=1000000)(ht:∀w∈l,0<=w.task/\w.task<16):
  ev P (.call HH [.d (qD nl l)] [])=some (.val (.d (hD (decide (iI [] (l.map W.task)=[])) (iI [] (l.map W.task)))) []):=by
 have hL:=amM nl l hn ht l [] [] rfl (by simp)
 simp[yN,ug]at hL;have hz:s9 []=List.replicate 16 (.b false):=rfl;rw[hz]at hL;generalize iI [] (l.map W.task)=q at *;rw[au ad1 rfl];cases q with
 |nil =>
  simp at hL;simp[MP,hL,ak,cut,aq]
 |cons a b =>
  simp at hL;simp[MP,hL,aZ,ak,cut,aq]
theorem VK:∀(l acc:List Int)(t:Int),iI acc (l++[t])=if t∈iI acc l then iI acc l else iI acc l++[t]
 | [],acc,t=>by simp only[mX,iI];split<;>simp[*]
 |a::r,acc,t=>by
  rw[tB];unfold iI;split
  .exact VK r acc t
  .exact VK r _ t
theorem VL{pre:List W}{w:W}(h:iI [] (pre.map W.task)=pre.map W.task):
  iI [] ((pre++[w]).map W.task)=if pre.any (λx=>x.task==w.task)then pre.map W.task else(pre++[w]).map W.task:=by
 rw[xQ,gm,gQ,VK,h];have e:w.task∈pre.map W.task↔(pre.any λx=>x.task==w.task)=true:=by simp
 by_cases hm:w.task∈pre.map W.task
 .rw[aN hm,aN (e.1 hm)]
 .rw[aG hm,aG (λh=>hm (e.2 h))]
theorem amP(qn:Bool)(pre:List W)(w:W)(r:List W)(hn:(pre++w::r).length<=1000000)(ht:∀x∈pre++w::r,0<=x.task/\x.task<16)(hp:iI [] (pre.map W.task)=pre.map W.task):
  ∃b,ev P (.call HH [.d (.sl 5 qn (List.take (pre.length+1) ((pre++w::r).map W.row)))] [])=some (.val (.d (hD b (if pre.any (λx=>x.task==w.task)then pre.map W.task else(pre++[w]).map W.task))) []):=by
 have e:List.take (pre.length+1) ((pre++w::r).map W.row)=(pre++[w]).map W.row:=by
  rw[<-List.map_take];congr 1;rw[Hl,gD (by omega)]
  simp
 have h:=amO qn (pre++[w]) (by simp at hn⊢;omega) (λx hx=>ht x (by simp at hx⊢;rcases hx with h |h;exact .inl h;exact .inr (.inl h)))
 rw[e];rw[VL hp]at h;exact⟨_,h⟩
def DW(w:W):Bool:=w.op != 63||w.value != 0||w.case != -1
def fB(pre:List W)(w:W):Bool:=!DW w&&!pre.any (λx=>x.task==w.task)
def DX(sz:Int)(w:W):Bool:=w.op != 72||decide (w.value<1)||decide (sz<w.value)||w.case != -1
def fL(sz:Int)(pre:List W)(w:W):Bool:=!DX sz w&&!pre.any (λx=>x.task==w.task)
theorem amQ(own cnt time:Int)(a1 a2 a3:D)(cl:Bool)(val:Int)(qn:Bool)(Q:List W)(hn:Q.length<=1000000)(ht:∀x∈Q,0<=x.task/\x.task<16):∀(suf pre:List W),Q=pre++suf->iI [] (pre.map W.task)=pre.map W.task ->
  ev P (.loop 0 [3,71,72,73] EY [(3,.d (.ref [I' own,I' cnt,I' time,a1,qD qn Q,a2,a3,.b cl,I' val])),(71,.d (qD qn Q)),(72,.d (I' Q.length)),(73,.d (I' pre.length))] []) =
   if ep fB pre suf=true then some (.out (.exit 0) [] [])else some (.out .ret [(4,.d (I' 1))] []):=by
 intro suf;induction suf with
 |nil =>
  intro pre hl _
  have:Q.length=pre.length:=by simp[hl]
  rw[bY]
  conv=>lhs;arg 4;unfold EY
  simp[this,ep]
 |cons w suf ih =>
  intro pre hl hp;have hg:Q[pre.length]?=some w:=by simp[hl]
  have hlt:(pre.length:Int)<Q.length:=by simp[hl];omega
  have hle:(pre.length:Int)+1<=Q.length:=by omega
  have hle':pre.length+1<=Q.length:=by omega
  have JN:(0:Int)<=pre.length+1:=by omega
  have JO:((pre.length:Int)+1).toNat=pre.length+1:=by omega
  have hnext:IntKind.i64.wrap ((pre.length:Int)+1)=pre.length+1:=wrap_i64 (by omega) (by omega)
  have hT:=amP qn pre w suf (by rw[<-hl];exact hn) (by rw[<-hl];exact ht) hp
  rw[<-hl]at hT;obtain⟨b,hT⟩:=hT;rw[bY]
  conv=>lhs;arg 4;unfold EY
  cases h0:DW w
  .have Bt:=h0
   unfold DW at Bt;cases hm:pre.any λx=>x.task==w.task
   .have hq:ep fB pre (w::suf)=ep fB (pre++[w]) suf:=by simp[ep,fB,h0,hm]
    have iT:iI [] ((pre++[w]).map W.task)=(pre++[w]).map W.task:=by rw[VL hp,hm];rfl
    have bE:=ih (pre++[w]) (by simp[hl]) iT
    rw[hq];generalize hR:(if ep fB (pre++[w]) suf=true then some (dL.out (.exit 0) [] [])else some (.out .ret [(4,.d (I' 1))] []))=R at bE⊢
    clear hR;rw[hm,aG (by simp)]at hT
    simp at bE;simp[hlt,hg,W.row,Bt,hle,hle',JN,JO,hT,hnext];exact bE
   .have hq:ep fB pre (w::suf)=false:=by simp[ep,fB,hm]
    rw[hq];rw[hm,aN rfl]at hT;have hne:((pre.length:Int) != pre.length+1)=true:=by simp;omega
    simp[hlt,hg,W.row,Bt,hle,hle',JN,JO,hT,hnext,hne]
  .have hq:ep fB pre (w::suf)=false:=by simp[ep,fB,h0]
   rw[hq];unfold DW at h0;simp[hlt,hg,W.row,h0]
theorem amR(nm:D)(k sz ot own cnt time:Int)(a1 a2 a3:D)(cl:Bool)(val:Int)(qn:Bool)(Q:List W)(hn:Q.length<=1000000)(ht:∀x∈Q,0<=x.task/\x.task<16):∀(suf pre:List W),Q=pre++suf->iI [] (pre.map W.task)=pre.map W.task ->
  ev P (.loop 0 [2,3,70,71,72] E0 [(2,.d (.ref [nm,I' k,I' sz,I' ot])),(3,.d (.ref [I' own,I' cnt,I' time,a1,qD qn Q,a2,a3,.b cl,I' val])),(70,.d (qD qn Q)),(71,.d (I' Q.length)),(72,.d (I' pre.length))] []) =
   if ep (fL sz) pre suf=true then some (.out (.exit 0) [] [])else some (.out .ret [(4,.d (I' 1))] []):=by
 intro suf;induction suf with
 |nil =>
  intro pre hl _
  have:Q.length=pre.length:=by simp[hl]
  rw[bY]
  conv=>lhs;arg 4;unfold E0
  simp[this,ep]
 |cons w suf ih =>
  intro pre hl hp;have hg:Q[pre.length]?=some w:=by simp[hl]
  have hlt:(pre.length:Int)<Q.length:=by simp[hl];omega
  have hle:(pre.length:Int)+1<=Q.length:=by omega
  have hle':pre.length+1<=Q.length:=by omega
  have JN:(0:Int)<=pre.length+1:=by omega
  have JO:((pre.length:Int)+1).toNat=pre.length+1:=by omega
  have hnext:IntKind.i64.wrap ((pre.length:Int)+1)=pre.length+1:=wrap_i64 (by omega) (by omega)
  have hT:=amP qn pre w suf (by rw[<-hl];exact hn) (by rw[<-hl];exact ht) hp
  rw[<-hl]at hT;obtain⟨b,hT⟩:=hT;rw[bY]
  conv=>lhs;arg 4;unfold E0
  cases h0:DX sz w
  .have Bt:=h0
   unfold DX at Bt;cases hm:pre.any λx=>x.task==w.task
   .have hq:ep (fL sz) pre (w::suf)=ep (fL sz) (pre++[w]) suf:=by simp[ep,fL,h0,hm]
    have iT:iI [] ((pre++[w]).map W.task)=(pre++[w]).map W.task:=by rw[VL hp,hm];rfl
    have bE:=ih (pre++[w]) (by simp[hl]) iT
    rw[hq];generalize hR:(if ep (fL sz) (pre++[w]) suf=true then some (dL.out (.exit 0) [] [])else some (.out .ret [(4,.d (I' 1))] []))=R at bE⊢
    clear hR;rw[hm,aG (by simp)]at hT
    simp at bE;simp[hlt,hg,W.row,Bt,hle,hle',JN,JO,hT,hnext];exact bE
   .have hq:ep (fL sz) pre (w::suf)=false:=by simp[ep,fL,hm]
    rw[hq];rw[hm,aN rfl]at hT;have hne:((pre.length:Int) != pre.length+1)=true:=by simp;omega
    simp[hlt,hg,W.row,Bt,hle,hle',JN,JO,hT,hnext,hne]
  .have hq:ep (fL sz) pre (w::suf)=false:=by simp[ep,fL,h0]
   rw[hq];unfold DX at h0;simp[hlt,hg,W.row,h0]
theorem amS{Q:List W}(h:dY Q=0):∀x∈Q,0<=x.task/\x.task<16:=λx hx=>sR ((IS h).2 x hx)
def Gv(sz:Int)(s:S):Bool:=s.own != -1||decide (s.cnt<0)||decide (1099511627776<s.cnt)||decide (sz<=s.Q.length)
def JP(s:S):Bool:=s.time != 0||s.val != 0||s.cl||decide ((0:Int)<(s.H.length:Int)+s.B.length+s.C.length)
def Ay(sz:Int)(s:S):Bool:=!Gv sz s&&(!JP s&&(dY s.Q==0&&ep fB [] s.Q))
theorem JQ(nm:D)(k sz ot:Int)(s:S)(hs:s.sm):
  ev P (.call nJ [.d (.ag [nm,I' k,I' sz,I' ot]),.d (.ag s.row)] [])=some (.val (.d (I' (ck (iF k sz ot) (Ay sz s)))) []):=by
 obtain⟨own,cnt,time,hn,H,qn,Q,bn,B,cn,C,cl,val⟩:=s;obtain⟨h1,h2,h3,h4,_⟩:=hs;simp only at h1 h2 h3 h4;have hw1:IntKind.i64.wrap ((H.length:Int)+B.length)=H.length+B.length:=wrap_i64 (by omega) (by omega)
 have dV:IntKind.i64.wrap ((H.length:Int)+B.length+C.length)=H.length+B.length+C.length:=wrap_i64 (by omega) (by omega)
 have hW:=uW qn Q;rw[au Yx rfl];unfold ck Ay;cases hm:iF k sz ot==0
 .have hm':iF k sz ot≠0:=by simpa using hm
  have hm2:(iF k sz ot != 0)=true:=by simpa using hm'
  simp[uS,u5,hm',hm2,cq]
 .have hm':iF k sz ot=0:=by simpa using hm
  cases hA:Gv sz ⟨own,cnt,time,hn,H,qn,Q,bn,B,cn,C,cl,val⟩
  .unfold Gv at hA
   simp only at hA;cases hB:JP ⟨own,cnt,time,hn,H,qn,Q,bn,B,cn,C,cl,val⟩
   .unfold JP at hB
    simp only at hB;cases hw:dY Q==0
    .have hw':(dY Q != 0)=true:=by rw[bne,hw];rfl
     simp[uS,u5,hm',gp,hA,hw1,dV,hB,hW,hw,hw']
    .have hw':(dY Q != 0)=false:=by rw[bne,hw];rfl
     have hl:=amQ own cnt time (hD hn H) (hD bn B) (cD cn C) cl val qn Q (by omega) (amS (by simpa using hw)) Q [] rfl rfl
     simp at hl;cases hq:ep fB [] Q
     .rw[hq]at hl
      simp[uS,u5,hm',gp,hA,hw1,dV,hB,hW,hw,hw',hl]
     .rw[hq]at hl
      simp[uS,u5,hm',gp,hA,hw1,dV,hB,hW,hw,hw',hl]
   .unfold JP at hB
    simp only at hB;simp[uS,u5,hm',gp,hA,hw1,dV,hB]
  .unfold Gv at hA
   simp only at hA;simp[uS,u5,hm',gp,hA]
def JR(sz:Int)(s:S):Bool:=s.own != -1||decide (s.cnt<0)||decide (sz<s.cnt)||decide (s.time<0)||decide (1099511627776<s.time)
def JS(s:S):Bool:=s.val != 0||s.cl||decide ((0:Int)<(s.H.length:Int)+s.B.length+s.C.length)
def Az(sz:Int)(s:S):Bool:=!JR sz s&&(!JS s&&(dY s.Q==0&&ep (fL sz) [] s.Q))
theorem JT(nm:D)(k sz ot:Int)(s:S)(hs:s.sm):
  ev P (.call ng [.d (.ag [nm,I' k,I' sz,I' ot]),.d (.ag s.row)] [])=some (.val (.d (I' (ck (jh k sz ot) (Az sz s)))) []):=by
 obtain⟨own,cnt,time,hn,H,qn,Q,bn,B,cn,C,cl,val⟩:=s;obtain⟨h1,h2,h3,h4,_⟩:=hs;simp only at h1 h2 h3 h4;have hw1:IntKind.i64.wrap ((H.length:Int)+B.length)=H.length+B.length:=wrap_i64 (by omega) (by omega)
 have dV:IntKind.i64.wrap ((H.length:Int)+B.length+C.length)=H.length+B.length+C.length:=wrap_i64 (by omega) (by omega)
 have hW:=uW qn Q;rw[au YA rfl];unfold ck Az;cases hm:jh k sz ot==0
 .have hm':jh k sz ot≠0:=by simpa using hm
  have hm2:(jh k sz ot != 0)=true:=by simpa using hm'
  simp[uT,u6,hm',hm2,cq]
 .have hm':jh k sz ot=0:=by simpa using hm
  cases hA:JR sz ⟨own,cnt,time,hn,H,qn,Q,bn,B,cn,C,cl,val⟩
  .unfold JR at hA
   simp only at hA;cases hB:JS ⟨own,cnt,time,hn,H,qn,Q,bn,B,cn,C,cl,val⟩
   .unfold JS at hB
    simp only at hB;cases hw:dY Q==0
    .have hw':(dY Q != 0)=true:=by rw[bne,hw];rfl
     simp[uT,u6,hm',grow,hA,hw1,dV,hB,hW,hw,hw']
    .have hw':(dY Q != 0)=false:=by rw[bne,hw];rfl
     have hl:=amR nm k sz ot own cnt time (hD hn H) (hD bn B) (cD cn C) cl val qn Q (by omega) (amS (by simpa using hw)) Q [] rfl rfl
     simp at hl;cases hq:ep (fL sz) [] Q
     .rw[hq]at hl
      simp[uT,u6,hm',grow,hA,hw1,dV,hB,hW,hw,hw',hl]
     .rw[hq]at hl
      simp[uT,u6,hm',grow,hA,hw1,dV,hB,hW,hw,hw',hl]
   .unfold JS at hB
    simp only at hB;simp[uT,u6,hm',grow,hA,hw1,dV,hB]
  .unfold JR at hA
   simp only at hA;simp[uT,u6,hm',grow,hA]
end Go.VS.Sp
