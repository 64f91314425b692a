import Derived.Test.YtjpdopldkeodgaaGreatV09
import Derived.Test.YtjpdopldkeodgaaGreatV08
set_option linter.all false
set_option maxHeartbeats 1000000
namespace Go.VS.Sp
theorem UW{pre:List W}{w:W}(h:iD [] (pre.map W.task)=pre.map W.task):
  iD [] ((pre++[w]).map W.task)=if pre.any (λx=>x.task==w.task)then pre.map W.task else(pre++[w]).map W.task:=by
 rw[vD,gk,gn,UU,h];have e:w.task∈pre.map W.task↔(pre.any λx=>x.task==w.task)=true:=by simp
 by_cases hm:w.task∈pre.map W.task
 .rw[aK hm,aK (e.1 hm)]
 .rw[aD hm,aD (λh=>hm (e.2 h))]
theorem amc(qn:Bool)(pre:List W)(w:W)(r:List W)(hn:(pre++w::r).length<=1000000)(ht:∀x∈pre++w::r,0<=x.task/\x.task<16)(hp:iD [] (pre.map W.task)=pre.map W.task):
  ∃b,ev P (.call GZ [.d (.sl 5 qn (List.take (pre.length+1) ((pre++w::r).map W.row)))] [])=some (.val (.d (hD b (if pre.any (λx=>x.task==w.task)then pre.map W.task else(pre++[w]).map W.task))) []):=by
 have e:List.take (pre.length+1) ((pre++w::r).map W.row)=(pre++[w]).map W.row:=by
  rw[<-List.map_take];congr 1;rw[GC,gC (by omega)]
  simp
 have h:=amb qn (pre++[w]) (by simp at hn⊢;omega) (λx hx=>ht x (by simp at hx⊢;rcases hx with h |h;exact .inl h;exact .inr (.inl h)))
 rw[e];rw[UW hp]at h;exact⟨_,h⟩
def Dx(w:W):Bool:=w.op != 63||w.value != 0||w.case != -1
def fB(pre:List W)(w:W):Bool:=!Dx w&&!pre.any (λx=>x.task==w.task)
def Dy(sz:Int)(w:W):Bool:=w.op != 72||decide (w.value<1)||decide (sz<w.value)||w.case != -1
def fL(sz:Int)(pre:List W)(w:W):Bool:=!Dy sz w&&!pre.any (λx=>x.task==w.task)
theorem amd(own cnt time:Int)(a1 a2 a3:D)(cl:Bool)(val:Int)(qn:Bool)(Q:List W)(hn:Q.length<=1000000)(ht:∀x∈Q,0<=x.task/\x.task<16):∀(suf pre:List W),Q=pre++suf->iD [] (pre.map W.task)=pre.map W.task ->
  ev P (.loop 0 [3,71,72,73] Ew [(3,.d (.ref [I' own,I' cnt,I' time,a1,qD qn Q,a2,a3,.b cl,I' val])),(71,.d (qD qn Q)),(72,.d (I' Q.length)),(73,.d (I' pre.length))] []) =
   if eG fB pre suf=true then some (.out (.exit 0) [] [])else some (.out .ret [(4,.d (I' 1))] []):=by
 intro suf;induction suf with
 |nil =>
  intro pre hl _
  have:Q.length=pre.length:=by simp[hl]
  rw[bS]
  conv=>lhs;arg 4;unfold Ew
  simp[this,eG]
 |cons w suf ih =>
  intro pre hl hp;have hg:Q[pre.length]?=some w:=by simp[hl]
  have hlt:(pre.length:Int)<Q.length:=by simp[hl];omega
  have hle:(pre.length:Int)+1<=Q.length:=by omega
  have hle':pre.length+1<=Q.length:=by omega
  have I7:(0:Int)<=pre.length+1:=by omega
  have I8:((pre.length:Int)+1).toNat=pre.length+1:=by omega
  have hnext:IntKind.i64.wrap ((pre.length:Int)+1)=pre.length+1:=wrap_i64 (by omega) (by omega)
  have hT:=amc qn pre w suf (by rw[<-hl];exact hn) (by rw[<-hl];exact ht) hp
  rw[<-hl]at hT;obtain⟨b,hT⟩:=hT;rw[bS]
  conv=>lhs;arg 4;unfold Ew
  cases h0:Dx w
  .have AZ:=h0
   unfold Dx at AZ;cases hm:pre.any λx=>x.task==w.task
   .have hq:eG fB pre (w::suf)=eG fB (pre++[w]) suf:=by simp[eG,fB,h0,hm]
    have iJ:iD [] ((pre++[w]).map W.task)=(pre++[w]).map W.task:=by rw[UW hp,hm];rfl
    have bB:=ih (pre++[w]) (by simp[hl]) iJ
    rw[hq];generalize hR:(if eG fB (pre++[w]) suf=true then some (ej.out (.exit 0) [] [])else some (.out .ret [(4,.d (I' 1))] []))=R at bB⊢
    clear hR;rw[hm,aD (by simp)]at hT
    simp at bB;simp[hlt,hg,W.row,AZ,hle,hle',I7,I8,hT,hnext];exact bB
   .have hq:eG fB pre (w::suf)=false:=by simp[eG,fB,hm]
    rw[hq];rw[hm,aK rfl]at hT;have hne:((pre.length:Int) != pre.length+1)=true:=by simp;omega
    simp[hlt,hg,W.row,AZ,hle,hle',I7,I8,hT,hnext,hne]
  .have hq:eG fB pre (w::suf)=false:=by simp[eG,fB,h0]
   rw[hq];unfold Dx at h0;simp[hlt,hg,W.row,h0]
theorem ame(nm:D)(k sz ot own cnt time:Int)(a1 a2 a3:D)(cl:Bool)(val:Int)(qn:Bool)(Q:List W)(hn:Q.length<=1000000)(ht:∀x∈Q,0<=x.task/\x.task<16):∀(suf pre:List W),Q=pre++suf->iD [] (pre.map W.task)=pre.map W.task ->
  ev P (.loop 0 [2,3,70,71,72] Ez [(2,.d (.ref [nm,I' k,I' sz,I' ot])),(3,.d (.ref [I' own,I' cnt,I' time,a1,qD qn Q,a2,a3,.b cl,I' val])),(70,.d (qD qn Q)),(71,.d (I' Q.length)),(72,.d (I' pre.length))] []) =
   if eG (fL sz) pre suf=true then some (.out (.exit 0) [] [])else some (.out .ret [(4,.d (I' 1))] []):=by
 intro suf;induction suf with
 |nil =>
  intro pre hl _
  have:Q.length=pre.length:=by simp[hl]
  rw[bS]
  conv=>lhs;arg 4;unfold Ez
  simp[this,eG]
 |cons w suf ih =>
  intro pre hl hp;have hg:Q[pre.length]?=some w:=by simp[hl]
  have hlt:(pre.length:Int)<Q.length:=by simp[hl];omega
  have hle:(pre.length:Int)+1<=Q.length:=by omega
  have hle':pre.length+1<=Q.length:=by omega
  have I7:(0:Int)<=pre.length+1:=by omega
  have I8:((pre.length:Int)+1).toNat=pre.length+1:=by omega
  have hnext:IntKind.i64.wrap ((pre.length:Int)+1)=pre.length+1:=wrap_i64 (by omega) (by omega)
  have hT:=amc qn pre w suf (by rw[<-hl];exact hn) (by rw[<-hl];exact ht) hp
  rw[<-hl]at hT;obtain⟨b,hT⟩:=hT;rw[bS]
  conv=>lhs;arg 4;unfold Ez
  cases h0:Dy sz w
  .have AZ:=h0
   unfold Dy at AZ;cases hm:pre.any λx=>x.task==w.task
   .have hq:eG (fL sz) pre (w::suf)=eG (fL sz) (pre++[w]) suf:=by simp[eG,fL,h0,hm]
    have iJ:iD [] ((pre++[w]).map W.task)=(pre++[w]).map W.task:=by rw[UW hp,hm];rfl
    have bB:=ih (pre++[w]) (by simp[hl]) iJ
    rw[hq];generalize hR:(if eG (fL sz) (pre++[w]) suf=true then some (ej.out (.exit 0) [] [])else some (.out .ret [(4,.d (I' 1))] []))=R at bB⊢
    clear hR;rw[hm,aD (by simp)]at hT
    simp at bB;simp[hlt,hg,W.row,AZ,hle,hle',I7,I8,hT,hnext];exact bB
   .have hq:eG (fL sz) pre (w::suf)=false:=by simp[eG,fL,hm]
    rw[hq];rw[hm,aK rfl]at hT;have hne:((pre.length:Int) != pre.length+1)=true:=by simp;omega
    simp[hlt,hg,W.row,AZ,hle,hle',I7,I8,hT,hnext,hne]
  .have hq:eG (fL sz) pre (w::suf)=false:=by simp[eG,fL,h0]
   rw[hq];unfold Dy at h0;simp[hlt,hg,W.row,h0]
end Go.VS.Sp
namespace Go.VS.Sp
theorem amf{Q:List W}(h:dY Q=0):∀x∈Q,0<=x.task/\x.task<16:=λx hx=>sy ((HV h).2 x hx)
def I9(sz:Int)(s:S):Bool:=s.own != -1||decide (s.cnt<0)||decide (1099511627776<s.cnt)||decide (sz<=s.Q.length)
def Ja(s:S):Bool:=s.time != 0||s.val != 0||s.cl||decide ((0:Int)<(s.H.length:Int)+s.B.length+s.C.length)
def Jb(sz:Int)(s:S):Bool:=!I9 sz s&&(!Ja s&&(dY s.Q==0&&eG fB [] s.Q))
theorem UX(nm:D)(k sz ot:Int)(s:S)(hs:s.sm):
  ev P (.call oF [.d (.ag [nm,I' k,I' sz,I' ot]),.d (.ag s.row)] [])=some (.val (.d (I' (ck (iS k sz ot) (Jb sz s)))) []):=by
 obtain⟨own,cnt,time,hn,H,qn,Q,bn,B,cn,C,cl,val⟩:=s;obtain⟨h1,h2,h3,h4,_⟩:=hs;simp only at h1 h2 h3 h4;have hw1:IntKind.i64.wrap ((H.length:Int)+B.length)=H.length+B.length:=wrap_i64 (by omega) (by omega)
 have dG:IntKind.i64.wrap ((H.length:Int)+B.length+C.length)=H.length+B.length+C.length:=wrap_i64 (by omega) (by omega)
 have hW:=uK qn Q;rw[au XH rfl];unfold ck Jb;cases hm:iS k sz ot==0
 .have hm':iS k sz ot≠0:=by simpa using hm
  have hm2:(iS k sz ot != 0)=true:=by simpa using hm'
  simp[uG,v5,hm',hm2,bY]
 .have hm':iS k sz ot=0:=by simpa using hm
  cases hA:I9 sz ⟨own,cnt,time,hn,H,qn,Q,bn,B,cn,C,cl,val⟩
  .unfold I9 at hA
   simp only at hA;cases hB:Ja ⟨own,cnt,time,hn,H,qn,Q,bn,B,cn,C,cl,val⟩
   .unfold Ja at hB
    simp only at hB;cases hw:dY Q==0
    .have hw':(dY Q != 0)=true:=by rw[bne,hw];rfl
     simp[uG,v5,hm',gm,hA,hw1,dG,hB,hW,hw,hw']
    .have hw':(dY Q != 0)=false:=by rw[bne,hw];rfl
     have hl:=amd own cnt time (hD hn H) (hD bn B) (cD cn C) cl val qn Q (by omega) (amf (by simpa using hw)) Q [] rfl rfl
     simp at hl;cases hq:eG fB [] Q
     .rw[hq]at hl
      simp[uG,v5,hm',gm,hA,hw1,dG,hB,hW,hw,hw',hl]
     .rw[hq]at hl
      simp[uG,v5,hm',gm,hA,hw1,dG,hB,hW,hw,hw',hl]
   .unfold Ja at hB
    simp only at hB;simp[uG,v5,hm',gm,hA,hw1,dG,hB]
  .unfold I9 at hA
   simp only at hA;simp[uG,v5,hm',gm,hA]
def Jc(sz:Int)(s:S):Bool:=s.own != -1||decide (s.cnt<0)||decide (sz<s.cnt)||decide (s.time<0)||decide (1099511627776<s.time)
def Jd(s:S):Bool:=s.val != 0||s.cl||decide ((0:Int)<(s.H.length:Int)+s.B.length+s.C.length)
def Je(sz:Int)(s:S):Bool:=!Jc sz s&&(!Jd s&&(dY s.Q==0&&eG (fL sz) [] s.Q))
theorem UY(nm:D)(k sz ot:Int)(s:S)(hs:s.sm):
  ev P (.call nT [.d (.ag [nm,I' k,I' sz,I' ot]),.d (.ag s.row)] [])=some (.val (.d (I' (ck (jv k sz ot) (Je sz s)))) []):=by
 obtain⟨own,cnt,time,hn,H,qn,Q,bn,B,cn,C,cl,val⟩:=s;obtain⟨h1,h2,h3,h4,_⟩:=hs;simp only at h1 h2 h3 h4;have hw1:IntKind.i64.wrap ((H.length:Int)+B.length)=H.length+B.length:=wrap_i64 (by omega) (by omega)
 have dG:IntKind.i64.wrap ((H.length:Int)+B.length+C.length)=H.length+B.length+C.length:=wrap_i64 (by omega) (by omega)
 have hW:=uK qn Q;rw[au XK rfl];unfold ck Je;cases hm:jv k sz ot==0
 .have hm':jv k sz ot≠0:=by simpa using hm
  have hm2:(jv k sz ot != 0)=true:=by simpa using hm'
  simp[uH,v7,hm',hm2,bY]
 .have hm':jv k sz ot=0:=by simpa using hm
  cases hA:Jc sz ⟨own,cnt,time,hn,H,qn,Q,bn,B,cn,C,cl,val⟩
  .unfold Jc at hA
   simp only at hA;cases hB:Jd ⟨own,cnt,time,hn,H,qn,Q,bn,B,cn,C,cl,val⟩
   .unfold Jd at hB
    simp only at hB;cases hw:dY Q==0
    .have hw':(dY Q != 0)=true:=by rw[bne,hw];rfl
     simp[uH,v7,hm',grow,hA,hw1,dG,hB,hW,hw,hw']
    .have hw':(dY Q != 0)=false:=by rw[bne,hw];rfl
     have hl:=ame nm k sz ot own cnt time (hD hn H) (hD bn B) (cD cn C) cl val qn Q (by omega) (amf (by simpa using hw)) Q [] rfl rfl
     simp at hl;cases hq:eG (fL sz) [] Q
     .rw[hq]at hl
      simp[uH,v7,hm',grow,hA,hw1,dG,hB,hW,hw,hw',hl]
     .rw[hq]at hl
      simp[uH,v7,hm',grow,hA,hw1,dG,hB,hW,hw,hw',hl]
   .unfold Jd at hB
    simp only at hB;simp[uH,v7,hm',grow,hA,hw1,dG,hB]
  .unfold Jc at hA
   simp only at hA;simp[uH,v7,hm',grow,hA]
end Go.VS.Sp
namespace Go.VS.Sp
def F1(Q:List W)(op t:Int):Bool:=Q.any λw=>w.op==op&&w.task != t
theorem amg(op t a b c d e:Int):ev P (.call Lq [.d (.ag [I' a,I' b,I' c,I' d,I' e]),.d (.ref [I' op]),.d (.ref [I' t])] [])=some (.val (.d (.b (b==op&&a != t))) []):=by
 rw[au afs rfl];cases h:b==op<;>simp[Sq,h]
theorem amh(qn:Bool)(Q:List W)(op t:Int)(hn:Q.length<=1000000):ev P (.call Ln [.d (qD qn Q),.d (I' op),.d (I' t)] [])=some (.val (.d (.b (F1 Q op t))) []):=by
 have hI:=AW (f:=Lq) (first:=[]) (caps:=[.ref [I' op],.ref [I' t]]) (p:=λw=>w.op==op&&w.task != t) qn Q hn (by intro a b c d e;exact amg op t a b c d e)
 rw[au afn rfl];unfold F1;generalize (Q.any λw=>w.op==op&&w.task != t)=r at *
 try simp at hI
 simp[Sl,fu,hI]
def zP(sz:Int)(bl:Nat)(Q:List W)(w:W):Bool:=if w.op==64 then(bl:Int) != sz||F1 Q 65 w.task else decide (0<bl)||F1 Q 64 w.task
theorem ami(nm:D)(k sz ot:Int)(d0 d1 d2 d3 d6 d7 d8:D)(bn qn:Bool)(B:List Int)(Q:List W)(hn:Q.length<=1000000)(a b c d e:Int):
  ev P (.call Lm [.d (.ag [I' a,I' b,I' c,I' d,I' e]),.d (.ref [d0,d1,d2,d3,qD qn Q,hD bn B,d6,d7,d8]),.d (.ref [nm,I' k,I' sz,I' ot])] [])=some (.val (.d (.b (zP sz B.length Q ⟨a,b,c,d,e⟩))) []):=by
 have f1:=amh qn Q 65 a hn;have f2:=amh qn Q 64 a hn;rw[au afm rfl];unfold zP;cases h:b==64
 .cases h2:decide ((0:Int)<B.length)
  .have h2':¬0<B.length:=by simpa using h2
   simp[EX,h,h2',f2]
  .have h2':0<B.length:=by simpa using h2
   simp[EX,h,h2',f2]
 .cases h2:(B.length:Int) != sz
  .simp[EX,h,h2,f1]
  .simp[EX,h,h2,f1]
theorem amj(nm:D)(k sz ot:Int)(d0 d1 d2 d3 d6 d7 d8:D)(bn qn:Bool)(B:List Int)(Q:List W)(hn:Q.length<=1000000):
  ev P (.call La [.d (.ag [nm,I' k,I' sz,I' ot]),.d (.ag [d0,d1,d2,d3,qD qn Q,hD bn B,d6,d7,d8])] [])=some (.val (.d (.b (Q.any (zP sz B.length Q)))) []):=by
 have hI:=AW (f:=Lm) (first:=[]) (caps:=[.ref [d0,d1,d2,d3,qD qn Q,hD bn B,d6,d7,d8],.ref [nm,I' k,I' sz,I' ot]]) (p:=zP sz B.length Q) qn Q hn (by intro a b c d e;exact ami nm k sz ot d0 d1 d2 d3 d6 d7 d8 bn qn B Q hn a b c d e)
 rw[au X5 rfl];generalize Q.any (zP sz B.length Q)=r at *;try simp at hI
 simp[Mz,fu,hI]
def Bu(w:W):Bool:=w.op != 64&&(w.op != 65||w.value != 0)
def sN(w x:W):Bool:=x.task==w.task&&(x.case == -1||w.case == -1||x.case==w.case)
def fC(pre:List W)(w:W):Bool:=!Bu w&&!pre.any (sN w)
theorem amk(w:W)(a b c d e:Int):ev P (.call Ll [.d (.ag [I' a,I' b,I' c,I' d,I' e]),.d (.ref [I' w.task,I' w.op,I' w.value,I' w.prio,I' w.case])] [])=some (.val (.d (.b (sN w ⟨a,b,c,d,e⟩))) []):=by
 rw[au afl rfl];unfold sN;cases h1:a==w.task
 .simp[HH,h1]
 .cases h2:e == -1
  .cases h3:w.case == -1<;>simp[HH,h1,h2,h3]
  .simp[HH,h1,h2]
theorem aml(qn:Bool)(pre:List W)(w:W)(r:List W)(hn:(pre++w::r).length<=1000000):
  ev P (.call QZ [.d (qD qn (pre++w::r)),.d (I' pre.length)] [])=some (.val (.d (.b (fC pre w))) []):=by
 have hI:=AW (f:=Ll) (first:=[]) (caps:=[.ref [I' w.task,I' w.op,I' w.value,I' w.prio,I' w.case]]) (p:=sN w) qn pre (by simp at hn;omega) (by intro a b c d e;exact amk w a b c d e)
 have hg:(pre++w::r)[pre.length]?=some w:=by simp
 have e1:List.take pre.length ((pre++w::r).map W.row)=pre.map W.row:=by rw[vD];simp[GC]
 have hle:(pre.length:Int)<=(pre++w::r).length:=by simp;omega
 rw[au ae6 rfl];unfold fC;generalize hQ:pre++w::r=Q at *;generalize pre.any (sN w)=b at *;cases h0:Bu w
 .unfold Bu at h0
  try simp at hI
  simp[My,hg,W.row,h0,hle,e1,fu,hI]
 .unfold Bu at h0
  simp[My,hg,W.row,h0]
theorem amm(o:List D)(d0 d1 d2 d3 d5 d6 d7 d8:D)(qn:Bool)(Q:List W)(hn:Q.length<=1000000):∀(suf pre:List W),Q=pre++suf ->
  ev P (.loop 0 [2,3,53,54] EJ [(2,.d (.ref o)),(3,.d (.ref [d0,d1,d2,d3,qD qn Q,d5,d6,d7,d8])),(53,.d (I' Q.length)),(54,.d (I' pre.length))] []) =
   if eG fC pre suf=true then some (.out (.exit 0) [(2,.d (.ref o)),(3,.d (.ref [d0,d1,d2,d3,qD qn Q,d5,d6,d7,d8]))] [])else some (.out .ret [(4,.d (.b false))] []):=by
 intro suf;induction suf with
 |nil =>
  intro pre hl
  have:Q.length=pre.length:=by simp[hl]
  rw[bS]
  conv=>lhs;arg 4;unfold EJ
  simp[this,eG]
 |cons w suf ih =>
  intro pre hl;have hlt:(pre.length:Int)<Q.length:=by simp[hl];omega
  have hnext:IntKind.i64.wrap ((pre.length:Int)+1)=pre.length+1:=wrap_i64 (by omega) (by omega)
  have bB:=ih (pre++[w]) (by simp[hl])
  have hw:=aml qn pre w suf (by rw[<-hl];exact hn)
  rw[<-hl]at hw;generalize hR:(if eG fC (pre++[w]) suf=true then some (ej.out (.exit 0) [(2,V.d (.ref o)),(3,V.d (.ref [d0,d1,d2,d3,qD qn Q,d5,d6,d7,d8]))] [])else some (.out .ret [(4,.d (.b false))] []))=R at bB
  rw[bS]
  conv=>lhs;arg 4;unfold EJ
  cases hf:fC pre w
  .rw[hf]at hw
   simp[hlt,hw,eG,hf]
  .rw[hf]at hw
   have hq:eG fC pre (w::suf)=eG fC (pre++[w]) suf:=by simp[eG,hf]
   rw[hq,hR];simp at bB;simp[hlt,hw,hnext];exact bB
def Dz(sz:Int)(s:S):Bool:=!v8 sz s&&(!(s.B.any λn=>!num n)&&(dY s.Q==0&&(eG fC [] s.Q&&((!s.cl||(s.Q.length:Int)==0)&&!s.Q.any (zP sz s.B.length s.Q)))))
theorem amn(nm:D)(k sz ot:Int)(s:S)(hs:s.sm):ev P (.call KO [.d (.ag [nm,I' k,I' sz,I' ot]),.d (.ag s.row)] [])=some (.val (.d (.b (Dz sz s))) []):=by
 obtain⟨own,cnt,time,hn,H,qn,Q,bn,B,cn,C,cl,val⟩:=s;obtain⟨h1,h2,h3,h4,_⟩:=hs;simp only at h1 h2 h3 h4;have jQ:IntKind.i64.wrap ((H.length:Int)+C.length)=H.length+C.length:=wrap_i64 (by omega) (by omega)
 have hB:=Yn (f:=G5) (first:=[]) (caps:=[]) (p:=λn=>!num n) bn B h2 (by intro a;simp[M5])
 have hV:=amj nm k sz ot (I' own) (I' cnt) (I' time) (hD hn H) (cD cn C) (.b cl) (I' val) bn qn B Q (by omega)
 have hl:=amm [nm,I' k,I' sz,I' ot] (I' own) (I' cnt) (I' time) (hD hn H) (hD bn B) (cD cn C) (.b cl) (I' val) qn Q (by omega) Q [] rfl
 simp at hl;have hW:=uK qn Q;unfold Dz;simp only;rw[au XV rfl];generalize (B.any λn=>!num n)=bb at *
 generalize (Q.any (zP sz B.length Q))=vv at *;cases hA:v8 sz ⟨own,cnt,time,hn,H,qn,Q,bn,B,cn,C,cl,val⟩
 .unfold v8 at hA
  simp only at hA;cases bb
  .cases hw:dY Q==0
   .have hw':(dY Q != 0)=true:=by rw[bne,hw];rfl
    simp[vR,hA,jQ,hB,hW,hw']
   .have hw':(dY Q != 0)=false:=by rw[bne,hw];rfl
    cases hq:eG fC [] Q
    .rw[hq]at hl
     simp[vR,hA,jQ,hB,hW,hw',hl]
    .rw[hq]at hl
     cases hc:(!cl||(Q.length:Int)==0)
     .simp[vR,hA,jQ,hB,hW,hw',hl,hc]
     .simp[vR,hA,jQ,hB,hW,hw',hl,hc,hV]
  .simp[vR,hA,jQ,hB]
 .unfold v8 at hA
  simp only at hA;simp[vR,hA,jQ]
theorem amo(nm:D)(k sz ot:Int)(s:S)(hs:s.sm):
  ev P (.call gp [.d (.ag [nm,I' k,I' sz,I' ot]),.d (.ag s.row)] [])=some (.val (.d (I' (ck (iq k sz ot) (Dz sz s)))) []):=by
 have hv:=amn nm k sz ot s hs;rw[au XJ rfl];unfold ck;cases hm:iq k sz ot==0
 .have hm':iq k sz ot≠0:=by simpa using hm
  have hm2:(iq k sz ot != 0)=true:=by simpa using hm'
  simp[Ey,HX,hm',hm2,bY]
 .have hm':iq k sz ot=0:=by simpa using hm
  generalize Dz sz s=b at *;cases b<;>simp[Ey,HX,hm',gm,hv]
end Go.VS.Sp
namespace Go.VS.Sp
def fF(pre:List W)(w:W):Bool:=!(pre.any (λx=>x.task==w.task)||w.op != 74||w.value != 0||w.case != -1)
theorem amp(d0 d1 d2 d3 d5 d6 d7 d8:D)(qn:Bool)(Q:List W)(hn:Q.length<=1000000):∀(suf pre:List W),Q=pre++suf ->
  ev P (.loop 0 [1,9,10,11] EU [(1,.d (.ref [d0,d1,d2,d3,qD qn Q,d5,d6,d7,d8])),(9,.d (qD qn Q)),(10,.d (I' Q.length)),(11,.d (I' pre.length))] []) =
   if eG fF pre suf=true then some (.out (.exit 0) [(1,.d (.ref [d0,d1,d2,d3,qD qn Q,d5,d6,d7,d8]))] [])else some (.out .ret [(2,.d (.b false))] []):=by
 intro suf;induction suf with
 |nil =>
  intro pre hl
  have:Q.length=pre.length:=by simp[hl]
  rw[bS]
  conv=>lhs;arg 4;unfold EU
  simp[this,eG]
 |cons w suf ih =>
  intro pre hl;have hg:Q[pre.length]?=some w:=by simp[hl]
  have hlt:(pre.length:Int)<Q.length:=by simp[hl];omega
  have hnext:IntKind.i64.wrap ((pre.length:Int)+1)=pre.length+1:=wrap_i64 (by omega) (by omega)
  have bB:=ih (pre++[w]) (by simp[hl])
  have hF:=lD qn Q w.task hn;have mU:=fd_eq (pre:=pre) (w:=w) (r:=suf);rw[<-hl]at mU;generalize ju Q w.task=p at *;obtain⟨p1,p2⟩:=p;simp only at mU;have hb:(p1 != (pre.length:Int))=pre.any λx=>x.task==w.task:=by rw[bne,mU];simp
  generalize hR:(if eG fF (pre++[w]) suf=true then some (ej.out (.exit 0) [(1,V.d (.ref [d0,d1,d2,d3,qD qn Q,d5,d6,d7,d8]))] [])else some (.out .ret [(2,.d (.b false))] []))=R at bB
  rw[bS]
  conv=>lhs;arg 4;unfold EU
  cases hf:(p1 != (pre.length:Int)||w.op != 74||w.value != 0||w.case != -1)
  .have hq:eG fF pre (w::suf)=eG fF (pre++[w]) suf:=by
    rw[hb]at hf;simp only[eG,fF,hf,PD,Ai]
   rw[hq,hR];simp at bB;simp[hlt,hg,W.row,hF,hf,hnext];exact bB
  .have hq:eG fF pre (w::suf)=false:=by
    rw[hb]at hf;simp only[eG,fF,hf,Bool.not_true,Aj]
   rw[hq];simp[hlt,hg,W.row,hF,hf]
theorem amq(d0 d1 d2 d3 d5 d6 d7 d8:D)(qn:Bool)(Q:List W)(hn:Q.length<=1000000):ev P (.call Li [.d (.ag [d0,d1,d2,d3,qD qn Q,d5,d6,d7,d8])] [])=some (.val (.d (.b (eG fF [] Q&&dY Q==0))) []):=by
 have hl:=amp d0 d1 d2 d3 d5 d6 d7 d8 qn Q hn Q [] rfl;simp at hl;have hW:=uK qn Q;rw[au X9 rfl];cases hq:eG fF [] Q
 .rw[hq]at hl
  simp[HD,hl]
 .rw[hq]at hl
  cases hw:dY Q==0<;>simp[HD,hl,hW,hw]
theorem amr{own cnt time val:Int}{hn qn bn cn cl:Bool}{H B:List Int}{Q:List W}{C:List K}:ev P (.call Lh [.d (.ag [I' own,I' cnt,I' time,hD hn H,qD qn Q,hD bn B,cD cn C,.b cl,I' val])] [])=some (.val (.d (.b (uP ⟨own,cnt,time,hn,H,qn,Q,bn,B,cn,C,cl,val⟩))) []):=by
 rw[au X8 rfl];unfold uP;simp[MD,Yo]
def DA(s:S):Bool:=uP s&&(num s.val&&((eG fF [] s.Q&&dY s.Q==0)&&(if s.cl then(s.Q.length:Int)==0 else s.val==0)))
theorem ams(s:S)(hs:s.sm):ev P (.call KW [.d (.ag s.row)] [])=some (.val (.d (.b (DA s))) []):=by
 obtain⟨own,cnt,time,hn,H,qn,Q,bn,B,cn,C,cl,val⟩:=s;have h3:=hs.q;simp only at h3;have hP:=amr (own:=own) (cnt:=cnt) (time:=time) (val:=val) (hn:=hn) (qn:=qn) (bn:=bn) (cn:=cn) (cl:=cl) (H:=H) (B:=B) (C:=C) (Q:=Q);have hQ:=amq (I' own) (I' cnt) (I' time) (hD hn H) (hD bn B) (cD cn C) (.b cl) (I' val) qn Q (by omega)
 unfold DA;simp only;generalize uP ⟨own,cnt,time,hn,H,qn,Q,bn,B,cn,C,cl,val⟩=pl at *;generalize (eG fF [] Q&&dY Q==0)=qq at *;rw[au X1 rfl];cases pl
 .simp[y7,hP]
 .cases hv:num val
  .simp[y7,hP,CP,hv]
  .cases qq
   .simp[y7,hP,CP,hv,hQ]
   .cases cl<;>simp[y7,hP,CP,hv,hQ]
theorem amt(nm:D)(k sz ot:Int)(s:S)(hs:s.sm):
  ev P (.call pP [.d (.ag [nm,I' k,I' sz,I' ot]),.d (.ag s.row)] [])=some (.val (.d (I' (ck (dR 9 k sz ot) (DA s)))) []):=by
 have hv:=ams s hs;rw[au XM rfl];unfold ck;cases hm:dR 9 k sz ot==0
 .have hm':dR 9 k sz ot≠0:=by simpa using hm
  have hm2:(dR 9 k sz ot != 0)=true:=by simpa using hm'
  simp[EA,HW,hm',hm2,bY]
 .have hm':dR 9 k sz ot=0:=by simpa using hm
  generalize DA s=b at *;cases b<;>simp[EA,HW,hm',gm,hv]
end Go.VS.Sp
namespace Go.VS.M
open Go.VS.Sp
def cY(n:Int):Bool:=decide (0<=n)&&decide (n<16)
theorem fY(n:Int):ev P (.call GX [.d (I' n)] [])=some (.val (.d (.b (cY n))) []):=by
 rw[au XP rfl];simp[L3,cY]
def kE(w:Sp.W):Bool:=(decide (w.task<0)||decide (16<=w.task)||decide (w.op<1)||decide (99<w.op)||decide (w.value < -1099511627776)||decide (1099511627776<w.value))
def dO(w:Sp.W):Bool:=!kE w&&(decide (0<=w.prio)&&decide (w.prio<=9)&&decide (-1<=w.case)&&decide (w.case<6))
theorem E3(a b c d e:Int):ev P (.call Ek [.d (.ag [I' a,I' b,I' c,I' d,I' e])] [])=some (.val (.d (.b (dO ⟨a,b,c,d,e⟩))) []):=by
 rw[au SC rfl];cases h:kE ⟨a,b,c,d,e⟩<;>simp only[dO,h]<;>unfold kE at h<;>simp[HA,Sp.W.row,h]
def fR(d:Int)(prev:Option Sp.W):List Sp.W->Int
 | []=>0
 |w::r=>if dO w=false then 2 else if d=2/\(prev.any λp=>decide (p.prio<w.prio))=true then 9 else fR d (some w) r
theorem vX:IntKind.i64.wrap 1=1:=by decide
theorem E4(d:Int)(nl:Bool)(l:List Sp.W)(hn:l.length<=96):∀(suf pre:List Sp.W),l=pre++suf ->
  ev P (.loop 0 [0,1,16,17,18] vQ [(0,.d (I' d)),(1,.d (.sl 5 nl (l.map Sp.W.row))),(16,.d (.sl 5 nl (l.map Sp.W.row))),(17,.d (I' l.length)),(18,.d (I' pre.length))] []) =
   if fR d pre.getLast? suf=0 then some (.out (.exit 0) [] [])else some (.out .ret [(4,.d (I' (fR d pre.getLast? suf)))] []):=by
 intro suf;induction suf with
 |nil =>
  intro pre hl
  have:l.length=pre.length:=by simp[hl]
  rw[bS]
  conv=>lhs;arg 4;unfold vQ
  simp[this,fR]
 |cons w suf ih =>
  intro pre hl;have hg:l[pre.length]?=some w:=by simp[hl]
  have hlt:(pre.length:Int)<l.length:=by simp[hl];omega
  rw[bS]
  conv=>lhs;arg 4;unfold vQ
  simp[hlt,hg,Sp.W.row,E3];cases hv:dO w
  .simp[fR,hv]
  .simp
   have hnext:IntKind.i64.wrap ((pre.length:Int)+1)=pre.length+1:=wrap_i64 (by omega) (by omega)
   have bB:=ih (pre++[w]) (by simp[hl])
   simp at bB;rcases Ak pre with rfl |⟨pre',p,rfl⟩
   .simp[fR,hv,vX]at *
    exact bB
   .have mC:l[pre'.length]?=some p:=by simp[hl]
    have hlen:((pre'.length:Int)+1<l.length):=by simp[hl];omega
    have hw:IntKind.i64.wrap ((pre'.length:Int)+1 - 1)=pre'.length:=by rw[wrap_i64 (by omega) (by omega)];omega
    have h0:(0:Int)<pre'.length+1:=by omega
    have dG:IntKind.i64.wrap (pre'.length:Int)=pre'.length:=wrap_i64 (by omega) (by omega)
    have jQ:IntKind.i64.wrap ((pre'.length:Int)+1+1)=pre'.length+1+1:=wrap_i64 (by omega) (by omega)
    simp at bB;by_cases hd:d=2
    .by_cases hp:p.prio<w.prio
     .subst hd
      simp[fR,hv,hp,dG,jQ,mC,Sp.W.row,h0]
     .subst hd
      simp[fR,hv,hp,dG,jQ,mC,Sp.W.row,h0];exact bB
    .have hd2:(d==2)=false:=by simp[hd]
     simp[fR,hv,hd,hd2,dG,jQ,mC,Sp.W.row,h0];exact bB
def dY(l:List Sp.W):Int:=if 96<l.length then 4 else fR 2 none l
theorem uK(nl:Bool)(l:List Sp.W):ev P (.call qv [.d (I' 2),.d (.sl 5 nl (l.map Sp.W.row))] []) =
  some (.val (.d (I' (dY l))) []):=by
 unfold dY;rw[au MS rfl];by_cases h:96<l.length
 .have h':(96:Int)<l.length:=by omega
  simp[y6,h,h']
 .have h':¬(96:Int)<l.length:=by omega
  have hl:=E4 2 nl l (by omega) l [] rfl
  simp at hl;simp[y6,h,h',hl];by_cases hc:fR 2 none l=0<;>simp[hc]
theorem zb:∀(ds:List D),fu (ds.map V.d)=some ds
 | []=>rfl
 |d::ds=>by simp[zb ds]
theorem tD{a b:List D}{x:D}:fu (a.map V.d++.d x::b.map V.d)=some (a++x::b):=by
 have:=zb (a++x::b);simpa using this
def idx(p:Sp.W->Bool):Int->List Sp.W->Int
 |_,[]=>-1
 |k,w::r=>if p w then k else idx p (k+1) r
theorem SI{f:Nat}{first caps:List D}{p:Sp.W->Bool}(nl:Bool)(l:List Sp.W)(hn:l.length<=1000000)
  (hp:∀a b c d e,ev P (.call f (first.map V.d++[.d (.ag [I' a,I' b,I' c,I' d,I' e])]++caps.map V.d) [])=some (.val (.d (.b (p ⟨a,b,c,d,e⟩))) [])):
  ∀(suf pre:List Sp.W),l=pre++suf ->
  ev P (.loop 0 [0,1,7,8] vP [(0,.d (.sl 5 nl (l.map Sp.W.row))),(1,.d (.fn f first caps)),(7,.d (I' l.length)),(8,.d (I' pre.length))] []) =
   if idx p pre.length suf = -1 then some (.out (.exit 0) [] [])else some (.out .ret [(4,.d (I' (idx p pre.length suf)))] []):=by
 intro suf;induction suf with
 |nil =>
  intro pre hl
  have:l.length=pre.length:=by simp[hl]
  rw[bS]
  conv=>lhs;arg 4;unfold vP
  simp[this,idx]
 |cons w suf ih =>
  intro pre hl;have hg:l[pre.length]?=some w:=by simp[hl]
  have hlt:(pre.length:Int)<l.length:=by simp[hl];omega
  have hnext:IntKind.i64.wrap ((pre.length:Int)+1)=pre.length+1:=wrap_i64 (by omega) (by omega)
  have bB:=ih (pre++[w]) (by simp[hl])
  simp at bB hp;rw[bS]
  conv=>lhs;arg 4;unfold vP
  simp[hlt,hg,Sp.W.row,hp,tD];cases hw:p w
  .simp[idx,hw,hnext]
   exact bB
  .have:¬(pre.length:Int) = -1:=by omega
   simp[idx,hw,this]
theorem HT{f:Nat}{first caps:List D}{p:Sp.W->Bool}(nl:Bool)(l:List Sp.W)(hn:l.length<=1000000)
  (hp:∀a b c d e,ev P (.call f (first.map V.d++[.d (.ag [I' a,I' b,I' c,I' d,I' e])]++caps.map V.d) [])=some (.val (.d (.b (p ⟨a,b,c,d,e⟩))) [])):
  ev P (.call xJ [.d (.sl 5 nl (l.map Sp.W.row)),.d (.fn f first caps)] [])=some (.val (.d (I' (idx p 0 l))) []):=by
 rw[au MR rfl];have hl:=SI nl l hn hp l [] rfl;simp at hl;simp[EB,hl];by_cases hc:idx p 0 l = -1<;>simp[hc]
theorem AV{p:Sp.W->Bool}:∀{l:List Sp.W}{k:Int},0<=k->(0<=idx p k l↔l.any p=true)
 | [],k,_=>by simp[idx]
 |w::r,k,hk=>by
  by_cases hw:p w=true
  .simp[idx,hw,hk]
  .simp[idx,hw,AV (l:=r) (k:=k+1) (by omega)]
theorem AW{f:Nat}{first caps:List D}{p:Sp.W->Bool}(nl:Bool)(l:List Sp.W)(hn:l.length<=1000000)
  (hp:∀a b c d e,ev P (.call f (first.map V.d++[.d (.ag [I' a,I' b,I' c,I' d,I' e])]++caps.map V.d) [])=some (.val (.d (.b (p ⟨a,b,c,d,e⟩))) [])):
  ev P (.call uD [.d (.sl 5 nl (l.map Sp.W.row)),.d (.fn f first caps)] [])=some (.val (.d (.b (l.any p))) []):=by
 rw[au Sw rfl];have hi:=HT nl l hn hp;simp[Hj,hi];have:=AV (p:=p) (l:=l) (k:=0) (by omega)
 cases ha:l.any p
 .have hc:¬0<=idx p 0 l:=λh=>by rw[this.1 h]at ha;cases ha
  simp[hc]
 .have hc:0<=idx p 0 l:=this.2 ha
  simp[hc]
theorem amu(t a b c d e:Int):ev P (.call K3 [.d (.ag [I' a,I' b,I' c,I' d,I' e]),.d (.ref [I' t])] [])=some (.val (.d (.b (a==t))) []):=by
 rw[au aeQ rfl];simp[RW]
theorem M5(a b c d e a' b' c' d' e':Int):ev P (.call K0 [.d (.ag [I' a,I' b,I' c,I' d,I' e]),.d (.ref [I' a',I' b',I' c',I' d',I' e'])] [])=some (.val (.d (.b (a==a'))) []):=by
 rw[au aeP rfl];simp[RU]
theorem amv{own cnt time:Int}{h1 h2 h3:D}{qn:Bool}{q:List Sp.W}{cl:Bool}{val:Int}(t:Int)(hn:q.length<=1000000):
  ev P (.call KH [.d (.ag [I' own,I' cnt,I' time,h1,.sl 5 qn (q.map Sp.W.row),h2,h3,.b cl,I' val]),.d (I' t)] [])=some (.val (.d (.b (q.any λw=>w.task==t))) []):=by
 rw[au ad7 rfl];have:=AW (f:=K3) (first:=[]) (caps:=[.ref [I' t]]) (p:=λw=>w.task==t) qn q hn (by intro a b c d e;simp[amu])
 simp[Rw,this]
theorem bk{α β:Type}{f:α->β}{r:List α}:List.take r.length (r.map f)=r.map f:=gC (by simp)
def F2(own:Int)(w:Sp.W):Bool:=w.op != 50||w.value != 0||w.case != -1||w.task==own
def wZ(own:Int):List Sp.W->List Sp.W->Bool
 |_,[]=>true
 |pre,w::r=>!F2 own w&&!pre.any (λx=>x.task==w.task)&&wZ own (pre++[w]) r
theorem UZ{own cnt time:Int}{h1 h2 h3:D}{cl:Bool}{val:Int}(nl:Bool)(l:List Sp.W)(hn:l.length<=1000000):
  ∀(suf pre:List Sp.W),l=pre++suf ->
  ev P (.loop 0 [1,61,62,63] EC [(1,.d (.ref [I' own,I' cnt,I' time,h1,.sl 5 nl (l.map Sp.W.row),h2,h3,.b cl,I' val])),(61,.d (.sl 5 nl (l.map Sp.W.row))),(62,.d (I' l.length)),(63,.d (I' pre.length))] []) =
   if wZ own pre suf=true then some (.out (.exit 0) [] [])else some (.out .ret [(2,.d (.b false))] []):=by
 intro suf;induction suf with
 |nil =>
  intro pre hl
  have:l.length=pre.length:=by simp[hl]
  rw[bS]
  conv=>lhs;arg 4;unfold EC
  simp[this,wZ]
 |cons w suf ih =>
  intro pre hl;have hg:l[pre.length]?=some w:=by simp[hl]
  have hlt:(pre.length:Int)<l.length:=by simp[hl];omega
  have hnext:IntKind.i64.wrap ((pre.length:Int)+1)=pre.length+1:=wrap_i64 (by omega) (by omega)
  have bB:=ih (pre++[w]) (by simp[hl])
  have hsub:(l.map Sp.W.row).take pre.length=pre.map Sp.W.row:=by simp[hl]
  have hle:pre.length<=l.length:=by simp[hl]
  have hc:=AW (f:=K0) (first:=[]) (caps:=[.ref w.row]) (p:=λx=>x.task==w.task) nl pre (by have:pre.length<=l.length:=by{simp[hl]};omega) (by intro a b c d e;simp[Sp.W.row,M5])
  simp[Sp.W.row]at bB hc;rw[bS]
  conv=>lhs;arg 4;unfold EC
  simp[hlt,hg,Sp.W.row,hsub];cases hq:(w.op != 50||w.value != 0||w.case != -1||w.task==own)
  .simp[hg,hlt,Sp.W.row,hsub,hc,hle]
   have ke:F2 own w=false:=hq;cases ha:pre.any λx=>x.task==w.task
   .simp only[ha,ke,wZ,PD,Ai]
    simp[hnext];exact bB
   .simp only[ha,ke,wZ,PD,Bool.not_true,Ai,Aj]
    simp
  .have ke:F2 own w=true:=hq
   simp[ke,wZ]
end Go.VS.M
namespace Go.VS.M
open Go.VS.Sp
abbrev bX(l:List Int):List (List D):=l.map λx=>[I' x]
abbrev hD(n:Bool)(l:List Int):D:=.sl 1 n (bX l)
abbrev qD(n:Bool)(l:List Sp.W):D:=.sl 5 n (l.map Sp.W.row)
abbrev cD(n:Bool)(l:List (List D)):D:=.sl 2 n l
def jI(own cnt time:Int)(hs:List Int)(q:List Sp.W)(bs:List Int)(cs:List (List D))(cl:Bool)(val:Int):Bool :=
 !((own != -1&&!cY own)||(own == -1&&decide (0<q.length)))&&!(cnt != 0||time != 0||val != 0||cl||decide ((0:Int)<hs.length+bs.length+cs.length))&&dY q==0&&wZ own [] q
theorem U0(own cnt time:Int)(hn:Bool)(hs:List Int)(qn:Bool)(q:List Sp.W)(bn:Bool)(bs:List Int)(cn:Bool)(cs:List (List D))(cl:Bool)(val:Int)
  (h1:hs.length<=1000000)(h2:q.length<=1000000)(h3:bs.length<=1000000)(h4:cs.length<=1000000):
  ev P (.call KG [.d (.ag [I' own,I' cnt,I' time,hD hn hs,qD qn q,hD bn bs,cD cn cs,.b cl,I' val])] [])=some (.val (.d (.b (jI own cnt time hs q bs cs cl val))) []):=by
 rw[au XO rfl];have hl:=UZ (own:=own) (cnt:=cnt) (time:=time) (h1:=hD hn hs) (h2:=hD bn bs) (h3:=cD cn cs) (cl:=cl) (val:=val) qn q h2 q [] rfl;simp at hl;simp[ED,fY];cases hA:(own != -1&&!cY own||own == -1&&decide (0<q.length))
 .simp
  rw[wrap_i64 (x:=(hs.length:Int)+bs.length) (by omega) (by omega),wrap_i64 (x:=(hs.length:Int)+bs.length+cs.length) (by omega) (by omega)]
  cases hB:(cnt != 0||time != 0||val != 0||cl||decide ((0:Int)<hs.length+bs.length+cs.length))
  .simp[uK]
   cases hC:dY q==0
   .have rK:(dY q != 0)=true:=by simp[bne,hC]
    simp only[rK,jI,hA,hB,hC];simp
   .have rK:(dY q != 0)=false:=by simp[bne,hC]
    simp only[rK,jI,hA,hB,hC];simp[hl];cases wZ own [] q<;>simp
  .simp[jI,hA,hB]
 .simp[jI,hA]
def dQ(k sz ot:Int):Int:=if(k != 1)=true then 8 else if(sz != 0||ot != 0)=true then 2 else 0
def bY:List D:=[I' 0,I' 0,I' 0,hD true [],qD true [],hD true [],cD true [],.b false,I' 0]
def gm:List D:=[I' (-1),I' 0,I' 0,hD true [],qD true [],hD true [],cD true [],.b false,I' 0]
theorem uN(nm:D)(k sz ot:Int):ev P (.call sq [.d (.ag [nm,I' k,I' sz,I' ot])] []) =
  some (.val (.tu [.d (.ag (if dQ k sz ot=0 then gm else bY)),.d (I' (dQ k sz ot))]) []):=by
 rw[au XC rfl];cases h1:k != 1<;>simp only[dQ,h1]
 .cases h2:sz != 0||ot != 0<;>simp[Er,h1,h2,gm,bY]
 .simp[Er,h1,bY]
theorem qy(nm:D)(k sz ot:Int)(own cnt time:Int)(hn:Bool)(hs:List Int)(qn:Bool)(q:List Sp.W)(bn:Bool)(bs:List Int)(cn:Bool)(cs:List (List D))(cl:Bool)(val:Int)
  (h1:hs.length<=1000000)(h2:q.length<=1000000)(h3:bs.length<=1000000)(h4:cs.length<=1000000):
  ev P (.call pM [.d (.ag [nm,I' k,I' sz,I' ot]),.d (.ag [I' own,I' cnt,I' time,hD hn hs,qD qn q,hD bn bs,cD cn cs,.b cl,I' val])] []) =
   some (.val (.d (I' (if dQ k sz ot=0 then(if jI own cnt time hs q bs cs cl val then 0 else 1)else dQ k sz ot))) []):=by
 have hv:=U0 own cnt time hn hs qn q bn bs cn cs cl val h1 h2 h3 h4;rw[au XD rfl];cases hm:dQ k sz ot==0
 .have hm':dQ k sz ot≠0:=by simpa using hm
  have hm2:(dQ k sz ot != 0)=true:=by simpa using hm'
  simp[Es,uN,hm',hm2,bY]
 .have hm':dQ k sz ot=0:=by simpa using hm
  simp[Es,uN,hm',gm,hv];cases jI own cnt time hs q bs cs cl val<;>simp
end Go.VS.M
namespace Go.VS.M
open Go.VS.Sp
theorem Sp.W.neq{w w':Sp.W}(h:¬w=w'):(!w.task==w'.task||(!w.op==w'.op||(!w.value==w'.value||(!w.prio==w'.prio||!w.case==w'.case))))=true:=by
 cases hb:(!w.task==w'.task||(!w.op==w'.op||(!w.value==w'.value||(!w.prio==w'.prio||!w.case==w'.case))))
 .exfalso;apply h
  simp at hb;cases w;cases w';simp at hb⊢;exact hb
 .rfl
end Go.VS.M
namespace Go.VS.M
open Go.VS.Sp
end Go.VS.M
namespace Go.VS.M
open Go.VS.Sp
def ve(q:List Sp.W):Prop:=q.Pairwise λa b=>b.prio<=a.prio
def gA(p:Int)(q:List Sp.W):Nat:=(q.takeWhile λw=>decide (p<=w.prio)).length
theorem U1(p:Int):∀(q:List Sp.W),gA p q<=q.length
 | []=>by simp[gA]
 |w::q=>by
  have:=U1 p q;unfold gA at *;simp only[oy];split<;>simp;omega
theorem Jf{p:Int}{w:Sp.W}:∀{q:List Sp.W}{k:Nat},ve q->q[k]?=some w->(k<gA p q↔p<=w.prio)
 | [],k,_,h=>by simp at h
 |a::q,0,_,h=>by
  have:a=w:=by simpa using h
  subst this;by_cases hp:p<=a.prio<;>simp[gA,oy,hp]
 |a::q,k+1,hd,h=>by
  have hd':=gH.1 hd;have hq:q[k]?=some w:=by simpa using h
  have hw:w∈q:=kU hq;have h1:=hd'.1 w hw;have ih:=Jf (p:=p) (k:=k) hd'.2 hq;by_cases hp:p<=a.prio
  .have:gA p (a::q)=gA p q+1:=by simp[gA,oy,hp]
   rw[this];constructor<;>intro h3
   .exact ih.1 (by omega)
   .have:=ih.2 h3;omega
  .have:gA p (a::q)=0:=by simp[gA,oy,hp]
   rw[this];constructor<;>intro h3<;>omega
theorem HY(n:Int):ev P (.call AH [.d (I' n)] [])=some (.val (.d (.b false)) []):=by
 rw[au SH rfl];simp[HI]
theorem amw(a b c d e p:Int):ev P (.call El [.d (.ag [I' a,I' b,I' c,I' d,I' e]),.d (I' p)] [])=some (.val (.d (I' (if p<=d then -1 else 1))) []):=by
 have hc:d<p->ev P (.call Q7 [.d (I' p),.d (I' d)] [])=some (.val (.d (I' 1)) []):=by
  intro h;have h1:¬p<d:=by omega
  rw[au afj rfl];simp[Sj,HY,h1,h]
 rw[au afi rfl];by_cases h:p<=d
 .simp[ME,h]
 .simp[ME,h,hc (by omega)]
theorem E6{i j:Nat}(h:i+j<=4000000):IntKind.i64.wrap ((IntKind.u64.wrap ((i:Int)+j)).fdiv (2 ^ min 1 IntKind.u64.bits))=(((i+j) / 2:Nat):Int):=by
 have h1:IntKind.u64.wrap ((i:Int)+j)=(i:Int)+j:=by
  have e0:IntKind.u64.bits=64:=rfl;simp only[IntKind.wrap,e0,IntKind.signed,Aj,eI,dI];omega
 have h2:(2:Int) ^ min 1 IntKind.u64.bits=2:=by decide
 rw[h1,h2,Pd _ (by omega),wrap_i64 (by omega) (by omega)]
 omega
theorem amx(nl:Bool)(q:List Sp.W)(p:Int)(hn:q.length<=1000000)(hd:ve q):∀(n i j:Nat),j - i<=n->i<=gA p q->gA p q<=j->j<=q.length ->
  ev P (.loop 0 [0,1,2,8,9,10] HE [(0,.d (qD nl q)),(1,.d (I' p)),(2,.d (.fn El [] [])),(8,.d (I' q.length)),(9,.d (I' i)),(10,.d (I' j))] []) =
   some (.out (.exit 0) [(0,.d (qD nl q)),(1,.d (I' p)),(2,.d (.fn El [] [])),(8,.d (I' q.length)),(9,.d (I' (gA p q)))] []):=by
 intro n;induction n with
 |zero =>
  intro i j h1 h2 h3 h4
  have:i=gA p q:=by omega
  have:j=gA p q:=by omega
  subst i;subst j;rw[bS]
  conv=>lhs;arg 4;unfold HE
  simp
 |succ n ih =>
  intro i j h1 h2 h3 h4;by_cases hij:i=j
  .have:i=gA p q:=by omega
   have:j=gA p q:=by omega
   subst i;subst j;rw[bS]
   conv=>lhs;arg 4;unfold HE
   simp
  .have hlt:i<j:=by omega
   have hw1:IntKind.i64.wrap ((i:Int)+j)=i+j:=wrap_i64 (by omega) (by omega)
   rw[bS]
   conv=>lhs;arg 4;unfold HE
   have hm:=E6 (i:=i) (j:=j) (by omega)
   generalize ze:(i+j) / 2=m at hm;have hm1:i<=m:=by omega
   have hm2:m<j:=by omega
   obtain⟨w,hw⟩:∃w,q[m]?=some w:=⟨q[m]'(by omega),by simp⟩
   have hb:=Jf (p:=p) hd hw;have CQ:IntKind.i64.wrap ((m:Int)+1)=m+1:=wrap_i64 (by omega) (by omega)
   simp[hlt,hw1,hm,hw,Sp.W.row,amw];by_cases hp:p<=w.prio
   .simp[hp,CQ]
    have:=ih (m+1) j (by omega) (by omega) (by omega) h4
    simpa using this
   .simp[hp]
    exact ih i m (by omega) (by omega) (by omega) (by omega)
theorem amy(nl:Bool)(q:List Sp.W)(p:Int)(hn:q.length<=1000000)(hd:ve q):
  ev P (.call Q6 [.d (qD nl q),.d (I' p),.d (.fn El [] [])] [])=some (.val (.tu [.d (I' (gA p q)),.d (.b false)]) []):=by
 rw[au afh rfl];have hb:=U1 p q;have hl:=amx nl q p hn hd q.length 0 q.length (by omega) (by omega) hb (by omega)
 simp at hl;simp[Si,hl];by_cases h:gA p q<q.length
 .obtain⟨w,hw⟩:∃w,q[gA p q]?=some w:=⟨q[gA p q],by simp⟩
  have kI:=Jf (p:=p) hd hw;have hp:¬p<=w.prio:=λh=>by have:=kI.2 h;omega
  simp[h,hw,Sp.W.row,amw,hp];split<;>decide
 .simp[h]
theorem w7(nl:Bool)(q:List Sp.W)(gi:nl=true->q=[])(hn:q.length<=1000000):
  ev P (.call sv [.d (qD nl q)] [])=if nl=true then some (.val (.d (.sl 5 true [])) [])else some (.val (.aR 0 0 q.length) [.aG 5 true (q.map Sp.W.row)]):=by
 rw[au MT rfl];cases nl
 .have hr:q.length<=room:=by unfold room;omega
  cases q with
  |nil=>simp[qw,eK,fN,ak,cut,az]
  |cons a r =>
   simp at hr;simp[qw,eK,fN,ak,cut,hr,az]
 .simp[qw,az]
end Go.VS.M
namespace Go.VS.M
open Go.VS.Sp
structure Rp where
 own:Int
 q:List Sp.W
 parked:Bool
 ok:Bool
 wk:Option Int
 e:Int
 deriving DecidableEq
def zr(e:Int):Rp:=⟨0,[],false,false,none,e⟩
def U2(t:Int):List D:=[I' t,I' 50,I' 0,.b true,I' (-1)]
def U3:Option Int->List (List D)
 |none=>[]
 |some t=>[U2 t]
@[simp] theorem amz:U3 none=[]:=rfl
@[simp] theorem amA(t:Int):U3 (some t)=[U2 t]:=rfl
abbrev Oy(hn qn bn cn:Bool)(own:Int)(q:List Sp.W):List D:=[I' own,I' 0,I' 0,hD hn [],qD qn q,hD bn [],cD cn [],.b false,I' 0]
abbrev rpL(hn qn bn cn wn:Bool)(r:Rp):List D :=
 [I' r.own,I' 0,I' 0,hD hn [],qD qn r.q,hD bn [],cD cn [],.b false,I' 0,.b r.parked,I' 0,.b r.ok,.sl 5 wn (U3 r.wk)]
def jJ(x:Option ej)(r:Rp):Prop:=∃hn qn bn cn wn,x=some (.val (.tu [.d (.ag (rpL hn qn bn cn wn r)),.d (I' r.e)]) [])/\(qn=true->r.q=[])
def iX(own:Int)(q:List Sp.W)(t p:Int):Rp :=
 if(own == -1)=true then⟨t,q,false,true,none,0⟩
 else if(own==t)=true then zr 17
 else⟨own,q.take (gA p q)++⟨t,50,0,p,-1⟩::q.drop (gA p q),true,false,none,0⟩
def Bv(own:Int)(q:List Sp.W)(t:Int):Rp :=
 if(own != t)=true then zr 20
 else match q with
  | []=>⟨-1,[],false,true,none,0⟩
  |w::r=>⟨w.task,r,false,true,some w.task,0⟩
theorem amB(hn qn bn cn:Bool)(own:Int)(q:List Sp.W)(t o v p n:Int)(gi:qn=true->q=[])(hq:q.length<=1000000)(hd:ve q):
  jJ (ev P (.call G4 [.d (.ag (Oy hn qn bn cn own q)),.d (.ag [I' t,I' o,I' v,I' p,I' n])] [])) (iX own q t p):=by
 unfold iX;cases h1:own == -1
 .cases h2:own==t
  .refine⟨hn,false,bn,cn,true,?_,by simp⟩
   have hb:=U1 p q;have hB:=amy qn q p hq hd;have hC:=w7 qn q gi hq;rw[au Sz rfl];have hI:=Cd afJ (p:=l5 5) rfl;cases qn
   .have hr:q.length+1<=room:=by unfold room;omega
    simp at hC;have e1:q.length+1<=gA p q+(q.length - gA p q+1):=by omega
    have e2:∀x:List D,List.take (q.length+1) (List.take (gA p q) (q.map Sp.W.row)++x::List.drop (gA p q) (q.map Sp.W.row))=List.take (gA p q) (q.map Sp.W.row)++x::List.drop (gA p q) (q.map Sp.W.row):=
     λx=>gC (by simp;omega)
    simp[EO,h1,h2,hB,hC,aJ,aA,hI,l5,ak,cut,jO,hb,hr,sub,aE,back,bk,e1,e2,Sp.W.row]
   .have:q=[]:=gi rfl
    subst this;simp at hC;have e1:gA p []=0:=rfl;have e2:1<=room:=by decide
    simp[EO,h1,h2,hB,hC,aJ,aA,hI,l5,ak,cut,jO,e1,e2,back,aE,Sp.W.row]
  .refine⟨true,true,true,true,true,?_,by simp[zr]⟩
   rw[au Sz rfl];simp[EO,h1,h2,zr]
 .refine⟨hn,qn,bn,cn,true,?_,by simpa using gi⟩
  rw[au Sz rfl];simp[EO,h1]
theorem amC(hn qn bn cn:Bool)(own:Int)(q:List Sp.W)(t o v p n:Int)(gi:qn=true->q=[])(hq:q.length<=1000000):
  jJ (ev P (.call K2 [.d (.ag (Oy hn qn bn cn own q)),.d (.ag [I' t,I' o,I' v,I' p,I' n])] [])) (Bv own q t):=by
 unfold Bv;cases h1:own != t
 .cases q with
  |nil =>
   refine⟨hn,qn,bn,cn,true,?_,by simp⟩
   rw[au SA rfl];simp[Hz,h1]
  |cons w r =>
   have jW:qn=false:=by cases qn;rfl;simp at gi
   subst jW;have hC:=w7 false r (by simp) (by simp at hq;omega)
   have hz:(((r.length:Int)+1)==0)=false:=by simp;omega
   refine⟨hn,false,bn,cn,false,?_,by simp⟩
   simp at hC;have e1:(1:Int)<=r.length+1:=by omega
   rw[au SA rfl];simp[Hz,h1,hz,hC,aJ,ak,cut,Sp.W.row,bk,U2,e1]
 .refine⟨true,true,true,true,true,?_,by simp[zr]⟩
  rw[au SA rfl];simp[Hz,h1,zr]
def Bw(own:Int)(q:List Sp.W)(t p:Int):Rp:=if 0<=own then⟨own,q,false,false,none,0⟩else iX own q t p
theorem amD(hn qn bn cn:Bool)(own:Int)(q:List Sp.W)(t o v p n:Int)(gi:qn=true->q=[])(hq:q.length<=1000000)(hd:ve q):
  jJ (ev P (.call K1 [.d (.ag (Oy hn qn bn cn own q)),.d (.ag [I' t,I' o,I' v,I' p,I' n])] [])) (Bw own q t p):=by
 unfold Bw;by_cases h1:0<=own
 .refine⟨hn,qn,bn,cn,true,?_,by simpa[h1]using gi⟩
  rw[au X3 rfl];simp[Mq,h1]
 .obtain⟨hn',oc,DB,DC,wn',he,ke⟩:=amB hn qn bn cn own q t o v p n gi hq hd
  rw[aD h1];refine⟨hn',oc,DB,DC,wn',?_,ke⟩;rw[au X3 rfl];simp[Mq,h1,he]
def Bx:O:=.mp [(.i .i64 50,.d (.fn G4 [] [])),(.i .i64 51,.d (.fn K1 [] [])),(.i .i64 52,.d (.fn K2 [] []))]
theorem F3:ev P (.call Qn [] [])=some (.val (.mp 0) [Bx]):=by
 rw[au ad6 rfl];simp[Rv,az,ak,cut,Bx]
def l9(own:Int)(q:List Sp.W)(op t p:Int):Rp :=
 if op≠50/\op≠51/\op≠52 then zr 8
 else if(!cY t||decide (p<0)||decide (9<p))=true then zr 2
 else if q.any (λw=>w.task==t)=true then zr 17
 else if op=50 then iX own q t p
 else if op=51 then Bw own q t p
 else Bv own q t
theorem amE(nm:D)(hn qn bn cn:Bool)(own:Int)(q:List Sp.W)(t o v p n:Int)(gi:qn=true->q=[])(hq:q.length<=1000000)(hd:ve q)
  (hv:jI own 0 0 [] q [] [] false 0=true):
  jJ (ev P (.call AA [.d (.ag [nm,I' 1,I' 0,I' 0]),.d (.ag (Oy hn qn bn cn own q)),.d (.ag [I' t,I' o,I' v,I' p,I' n])] [])) (l9 own q o t p):=by
 have hC:=qy nm 1 0 0 own 0 0 hn [] qn q bn [] cn [] false 0 (by simp) hq (by simp) (by simp)
 have hm:dQ 1 0 0=0:=by decide
 simp[hv,hm]at hC;have hw:=amv (own:=own) (cnt:=0) (time:=0) (h1:=hD hn []) (h2:=hD bn []) (h3:=cD cn []) (qn:=qn) (q:=q) (cl:=false) (val:=0) t hq;unfold l9;by_cases h1:o≠50/\o≠51/\o≠52
 .rw[aK h1]
  obtain⟨a1,a2,a3⟩:=h1;refine⟨true,true,true,true,true,?_,by simp[zr]⟩
  rw[au CI rfl];simp[yY,hC,aJ,F3,Bx,ak,cut,a1,a2,a3,zr]
 .rw[aD h1]
  have h3:o=50\/o=51\/o=52:=by omega
  cases h2:(!cY t||decide (p<0)||decide (9<p))
  .rw[aD (by simp)]
   cases hW:q.any λw=>w.task==t
   .rw[aD (by simp)]
    rw[hW]at hw;rcases h3 with rfl |rfl |rfl
    .obtain⟨hn',oc,DB,DC,wn',he,ke⟩:=amB hn qn bn cn own q t 50 v p n gi hq hd
     refine⟨hn',oc,DB,DC,wn',?_,ke⟩;rw[au CI rfl];simp[yY,hC,aJ,F3,Bx,ak,cut,fY,h2,hw,he]
    .obtain⟨hn',oc,DB,DC,wn',he,ke⟩:=amD hn qn bn cn own q t 51 v p n gi hq hd
     refine⟨hn',oc,DB,DC,wn',?_,ke⟩;rw[au CI rfl];simp[yY,hC,aJ,F3,Bx,ak,cut,fY,h2,hw,he]
    .obtain⟨hn',oc,DB,DC,wn',he,ke⟩:=amC hn qn bn cn own q t 52 v p n gi hq
     refine⟨hn',oc,DB,DC,wn',?_,ke⟩;rw[au CI rfl];simp[yY,hC,aJ,F3,Bx,ak,cut,fY,h2,hw,he]
   .rw[aK rfl]
    rw[hW]at hw;refine⟨true,true,true,true,true,?_,by simp[zr]⟩
    rcases h3 with rfl |rfl |rfl<;>rw[au CI rfl] <;>
    simp[yY,hC,aJ,F3,Bx,ak,cut,fY,h2,hw,zr]
  .rw[aK rfl]
   refine⟨true,true,true,true,true,?_,by simp[zr]⟩
   rcases h3 with rfl |rfl |rfl<;>rw[au CI rfl] <;>
   simp[yY,hC,aJ,F3,Bx,ak,cut,fY,h2,zr]
theorem amF(nm k sz ot s0 s1 s2 s3 s4 s5 s6 s7 s8 c0 c1 c2 c3 c4:D)(e:Int)(he:e≠0)
  (hC:ev P (.call pM [.d (.ag [nm,k,sz,ot]),.d (.ag [s0,s1,s2,s3,s4,s5,s6,s7,s8])] [])=some (.val (.d (I' e)) [])):
  jJ (ev P (.call AA [.d (.ag [nm,k,sz,ot]),.d (.ag [s0,s1,s2,s3,s4,s5,s6,s7,s8]),.d (.ag [c0,c1,c2,c3,c4])] [])) (zr e):=by
 have he':(e != 0)=true:=by simpa using he
 refine⟨true,true,true,true,true,?_,by simp[zr]⟩
 rw[au CI rfl];simp[yY,hC,he',zr]
end Go.VS.M
namespace Go.VS.M
open Go.VS.Sp
end Go.VS.M
namespace Go.VS.M
open Go.VS.Sp
structure MV(own:Int)(q:List Sp.W):Prop where
 sn:own = -1\/(0<=own/\own<16)
 free:own = -1->q=[]
 desc:ve q
 By:q.Pairwise λa b=>a.task≠b.task
 all:∀w,w∈q->w.op=50/\w.value=0/\w.case = -1/\w.task≠own/\0<=w.task/\w.task<16/\0<=w.prio/\w.prio<=9
theorem amG(d:Int)(hd:d=2):∀(suf:List Sp.W)(prev:Option Sp.W),fR d prev suf=0↔(∀w,w∈suf->dO w=true)/\(prev.toList++suf).Pairwise (λa b=>b.prio<=a.prio)
 | [],prev=>by cases prev<;>simp[fR]
 |w::r,prev=>by
  have ih:=amG d hd r (some w);unfold fR;cases hv:dO w
  .simp[hv]
  .cases prev with
   |none =>
    simp[hv,hd]at ih⊢;rw[ih]
   |some p =>
    simp only[Option.toList,vE]at ih⊢;by_cases hp:p.prio<w.prio
    .simp[hd,hp]
     omega
    .simp[hd,hp]at ih⊢
     rw[ih];constructor
     .rintro⟨h1,h2,h3⟩
      refine⟨⟨hv,h1⟩,⟨by omega,?_⟩,h2,h3⟩
      intro a ha;have:=h2 a ha;omega
     .rintro⟨⟨_,h1⟩,⟨_,_⟩,h2,h3⟩
      exact⟨h1,h2,h3⟩
theorem amH(own:Int):∀(suf pre:List Sp.W),wZ own pre suf=true↔(∀w,w∈suf->F2 own w=false)/\(∀a,a∈pre->∀b,b∈suf->a.task≠b.task)/\suf.Pairwise (λa b=>a.task≠b.task)
 | [],pre=>by simp[wZ]
 |w::r,pre=>by
  have ih:=amH own r (pre++[w]);simp[wZ,ih];constructor
  .rintro⟨⟨h1,h2⟩,h3,h4,h5⟩
   refine⟨⟨h1,h3⟩,λa ha=>⟨h2 a ha,λb hb=>h4 a (.inl ha) b hb⟩,λb hb=>h4 w (.inr rfl) b hb,h5⟩
  .rintro⟨⟨h1,h3⟩,h2,h4,h5⟩
   refine⟨⟨h1,λa ha=>(h2 a ha).1⟩,h3,?_,h5⟩
   rintro a (ha |rfl) b hb
   .exact(h2 a ha).2 b hb
   .exact h4 b hb
theorem Jg{own cnt time:Int}{hs:List Int}{q:List Sp.W}{bs:List Int}{cs:List (List D)}{cl:Bool}{val:Int}:
  jI own cnt time hs q bs cs cl val=true↔(cnt=0/\time=0/\hs=[]/\bs=[]/\cs=[]/\cl=false/\val=0)/\q.length<=96/\MV own q:=by
 by_cases h96:q.length<=96
 .have U4:¬96<q.length:=by omega
  have e1:=amG 2 rfl q none;have e2:=amH own q [];simp at e1 e2;have el:((hs.length:Int)+bs.length+cs.length<=0)↔(hs=[]/\bs=[])/\cs=[]:=by
   rw[<-List.length_eq_zero_iff,<-List.length_eq_zero_iff,<-List.length_eq_zero_iff];omega
  simp[jI,dY,h96,U4,e1,e2,el];constructor
  .rintro⟨⟨⟨⟨a1,a4⟩,⟨⟨⟨b1,b2⟩,b4⟩,b3⟩,⟨c1,c2⟩,c3⟩,v,d⟩,qb,By⟩
   refine⟨⟨b1,b2,c1,c2,c3,b3,b4⟩,?_,λh=>a4.resolve_left (by simp[h]),d,By,?_⟩
   .simpa[cY]using a1
   .intro w hw
    have h1:=v w hw;have h2:=qb w hw;simp[dO,kE]at h1;simp[F2]at h2;omega
  .rintro⟨⟨b1,b2,c1,c2,c3,b3,b4⟩,m⟩
   refine⟨⟨⟨⟨?_,?_⟩,⟨⟨⟨b1,b2⟩,b4⟩,b3⟩,⟨c1,c2⟩,c3⟩,?_,m.desc⟩,?_,m.By⟩
   .simpa[cY]using m.sn
   .by_cases h:own = -1
    .exact .inr (m.free h)
    .exact .inl h
   .intro w hw
    have:=m.all w hw;simp[dO,kE];omega
   .intro w hw
    have:=m.all w hw;simp[F2];omega
 .have U4:96<q.length:=by omega
  simp[jI,dY,U4,h96]
end Go.VS.M
namespace Go.VS.Sp
end Go.VS.Sp
namespace Go.VS.Sp
end Go.VS.Sp
namespace Go.VS.Sp
end Go.VS.Sp
namespace Go.VS.Sp
end Go.VS.Sp
namespace Go.VS.Sp
end Go.VS.Sp
namespace Go.VS.Sp
end Go.VS.Sp
namespace Go.VS.R
open Go.VS.Sp
def cY(n:Int):Bool:=decide (0<=n)&&decide (n<16)
theorem fY(n:Int):ev P (.call Eg [.d (I' n)] [])=some (.val (.d (.b (cY n))) []):=by
 rw[au XR rfl];simp[L4,cY]
def kE(w:Sp.W):Bool:=(decide (w.task<0)||decide (16<=w.task)||decide (w.op<1)||decide (99<w.op)||decide (w.value < -1099511627776)||decide (1099511627776<w.value))
def dO(w:Sp.W):Bool:=!kE w&&(decide (0<=w.prio)&&decide (w.prio<=9)&&decide (-1<=w.case)&&decide (w.case<6))
theorem E3(a b c d e:Int):ev P (.call Ek [.d (.ag [I' a,I' b,I' c,I' d,I' e])] [])=some (.val (.d (.b (dO ⟨a,b,c,d,e⟩))) []):=by
 rw[au SC rfl];cases h:kE ⟨a,b,c,d,e⟩<;>simp only[dO,h]<;>unfold kE at h<;>simp[HA,Sp.W.row,h]
def fR(d:Int)(prev:Option Sp.W):List Sp.W->Int
 | []=>0
 |w::r=>if dO w=false then 2 else if d=2/\(prev.any λp=>decide (p.prio<w.prio))=true then 9 else fR d (some w) r
theorem vX:IntKind.i64.wrap 1=1:=by decide
theorem E4(d:Int)(nl:Bool)(l:List Sp.W)(hn:l.length<=96):∀(suf pre:List Sp.W),l=pre++suf ->
  ev P (.loop 0 [0,1,16,17,18] vQ [(0,.d (I' d)),(1,.d (.sl 5 nl (l.map Sp.W.row))),(16,.d (.sl 5 nl (l.map Sp.W.row))),(17,.d (I' l.length)),(18,.d (I' pre.length))] []) =
   if fR d pre.getLast? suf=0 then some (.out (.exit 0) [] [])else some (.out .ret [(4,.d (I' (fR d pre.getLast? suf)))] []):=by
 intro suf;induction suf with
 |nil =>
  intro pre hl
  have:l.length=pre.length:=by simp[hl]
  rw[bS]
  conv=>lhs;arg 4;unfold vQ
  simp[this,fR]
 |cons w suf ih =>
  intro pre hl;have hg:l[pre.length]?=some w:=by simp[hl]
  have hlt:(pre.length:Int)<l.length:=by simp[hl];omega
  rw[bS]
  conv=>lhs;arg 4;unfold vQ
  simp[hlt,hg,Sp.W.row,E3];cases hv:dO w
  .simp[fR,hv]
  .simp
   have hnext:IntKind.i64.wrap ((pre.length:Int)+1)=pre.length+1:=wrap_i64 (by omega) (by omega)
   have bB:=ih (pre++[w]) (by simp[hl])
   simp at bB;rcases Ak pre with rfl |⟨pre',p,rfl⟩
   .simp[fR,hv,vX]at *
    exact bB
   .have mC:l[pre'.length]?=some p:=by simp[hl]
    have hlen:((pre'.length:Int)+1<l.length):=by simp[hl];omega
    have hw:IntKind.i64.wrap ((pre'.length:Int)+1 - 1)=pre'.length:=by rw[wrap_i64 (by omega) (by omega)];omega
    have h0:(0:Int)<pre'.length+1:=by omega
    have dG:IntKind.i64.wrap (pre'.length:Int)=pre'.length:=wrap_i64 (by omega) (by omega)
    have jQ:IntKind.i64.wrap ((pre'.length:Int)+1+1)=pre'.length+1+1:=wrap_i64 (by omega) (by omega)
    simp at bB;by_cases hd:d=2
    .by_cases hp:p.prio<w.prio
     .subst hd
      simp[fR,hv,hp,dG,jQ,mC,Sp.W.row,h0]
     .subst hd
      simp[fR,hv,hp,dG,jQ,mC,Sp.W.row,h0];exact bB
    .have hd2:(d==2)=false:=by simp[hd]
     simp[fR,hv,hd,hd2,dG,jQ,mC,Sp.W.row,h0];exact bB
def dY(l:List Sp.W):Int:=if 96<l.length then 4 else fR 1 none l
theorem uK(nl:Bool)(l:List Sp.W):ev P (.call qv [.d (I' 1),.d (.sl 5 nl (l.map Sp.W.row))] []) =
  some (.val (.d (I' (dY l))) []):=by
 unfold dY;rw[au MS rfl];by_cases h:96<l.length
 .have h':(96:Int)<l.length:=by omega
  simp[y6,h,h']
 .have h':¬(96:Int)<l.length:=by omega
  have hl:=E4 1 nl l (by omega) l [] rfl
  simp at hl;simp[y6,h,h',hl];by_cases hc:fR 1 none l=0<;>simp[hc]
theorem zb:∀(ds:List D),fu (ds.map V.d)=some ds
 | []=>rfl
 |d::ds=>by simp[zb ds]
theorem tD{a b:List D}{x:D}:fu (a.map V.d++.d x::b.map V.d)=some (a++x::b):=by
 have:=zb (a++x::b);simpa using this
abbrev bX(l:List Int):List (List D):=l.map λx=>[I' x]
abbrev hD(n:Bool)(l:List Int):D:=.sl 1 n (bX l)
abbrev qD(n:Bool)(l:List Sp.W):D:=.sl 5 n (l.map Sp.W.row)
abbrev cD(n:Bool)(l:List (List D)):D:=.sl 2 n l
theorem bk{α β:Type}{f:α->β}{r:List α}:List.take r.length (r.map f)=r.map f:=gC (by simp)
end Go.VS.R
namespace Go.VS.R
open Go.VS.Sp
def ju(q:List Sp.W)(t:Int):Int×Bool:=match q.findIdx? (λw=>w.task==t)with |some i=>(i,true) |none=>(0,false)
theorem SJ(nl:Bool)(l:List Sp.W)(t:Int)(hn:l.length<=1000000):∀(suf pre:List Sp.W),l=pre++suf ->
  ev P (.loop 0 [1,8,9,10] Cz [(1,.d (I' t)),(8,.d (qD nl l)),(9,.d (I' l.length)),(10,.d (I' pre.length))] []) =
   match suf.findIdx? (λw=>w.task==t)with
   |none=>some (.out (.exit 0) [] [])
   |some k=>some (.out .ret [(4,.d (I' ((pre.length+k:Nat):Int))),(5,.d (.b true))] []):=by
 intro suf;induction suf with
 |nil =>
  intro pre hl
  have:l.length=pre.length:=by simp[hl]
  rw[bS]
  conv=>lhs;arg 4;unfold Cz
  simp[this]
 |cons w suf ih =>
  intro pre hl;have hg:l[pre.length]?=some w:=by simp[hl]
  have hlt:(pre.length:Int)<l.length:=by simp[hl];omega
  have hnext:IntKind.i64.wrap ((pre.length:Int)+1)=pre.length+1:=wrap_i64 (by omega) (by omega)
  have bB:=ih (pre++[w]) (by simp[hl])
  simp at bB;rw[bS]
  conv=>lhs;arg 4;unfold Cz
  rw[xw];cases hw:w.task==t
  .simp[hlt,hg,Sp.W.row,hw,hnext]
   rw[bB];cases suf.findIdx? (λw=>w.task==t)with
   |none=>rfl
   |some k=>simp;omega
  .simp[hlt,hg,Sp.W.row,hw]
theorem lD(nl:Bool)(l:List Sp.W)(t:Int)(hn:l.length<=1000000):
  ev P (.call iQ [.d (qD nl l),.d (I' t)] [])=some (.val (.tu [.d (I' (ju l t).1),.d (.b (ju l t).2)]) []):=by
 rw[au XS rfl];have hl:=SJ nl l t hn l [] rfl;simp at hl;unfold ju;cases h:l.findIdx? (λw=>w.task==t)with
 |none=>rw[h]at hl;simp[EF,hl]
 |some k=>rw[h]at hl;simp at hl;simp[EF,hl]
theorem AX{q:List Sp.W}{t:Int}:(ju q t).2=q.any λw=>w.task==t:=by
 unfold ju;cases h:q.findIdx? (λw=>w.task==t)with
 |none =>
  rw[JN]at h;symm;rw[qQ];intro x hx;rw[h x hx];decide
 |some k =>
  symm;obtain⟨h1,h2⟩:=Gr.1 h;exact rV.2 ⟨_,vq _,h2.1⟩
end Go.VS.R
namespace Go.VS.R
open Go.VS.Sp
def dQ(k sz ot:Int):Int:=if(k != 2)=true then 8 else if(sz != 0||ot != 0)=true then 2 else 0
def bY:List D:=[I' 0,I' 0,I' 0,hD true [],qD true [],hD true [],cD true [],.b false,I' 0]
def gm:List D:=[I' (-1),I' 0,I' 0,hD true [],qD true [],hD true [],cD true [],.b false,I' 0]
theorem uN(nm:D)(k sz ot:Int):ev P (.call su [.d (.ag [nm,I' k,I' sz,I' ot])] []) =
  some (.val (.tu [.d (.ag (if dQ k sz ot=0 then gm else bY)),.d (I' (dQ k sz ot))]) []):=by
 rw[au XE rfl];cases h1:k != 2<;>simp only[dQ,h1]
 .cases h2:sz != 0||ot != 0<;>simp[Et,h1,h2,gm,bY]
 .simp[Et,h1,bY]
def yw(t:Int):Nat->List Int->Option Nat
 |_,[]=>none
 |k,x::r=>if t=x then some k else yw t (k+1) r
theorem amI{t:Int}:∀{l:List Int}{k:Nat},(yw t k l).isSome=decide (t∈l)
 | [],k=>by simp[yw]
 |x::r,k=>by
  unfold yw;by_cases h:t=x
  .simp[h]
  .rw[aD h,amI];simp[h]
theorem amJ(nl:Bool)(l:List Int)(t:Int)(hn:l.length<=1000000):∀(suf pre:List Int),l=pre++suf ->
  ev P (.loop 0 [0,1,7,8] MF [(0,.d (hD nl l)),(1,.d (I' t)),(7,.d (I' l.length)),(8,.d (I' pre.length))] []) =
   match yw t pre.length suf with
   |none=>some (.out (.exit 0) [] [])
   |some k=>some (.out .ret [(4,.d (I' k))] []):=by
 intro suf;induction suf with
 |nil =>
  intro pre hl
  have:l.length=pre.length:=by simp[hl]
  rw[bS]
  conv=>lhs;arg 4;unfold MF
  simp[this,yw]
 |cons w suf ih =>
  intro pre hl;have hg:l[pre.length]?=some w:=by simp[hl]
  have hlt:(pre.length:Int)<l.length:=by simp[hl];omega
  have hnext:IntKind.i64.wrap ((pre.length:Int)+1)=pre.length+1:=wrap_i64 (by omega) (by omega)
  have bB:=ih (pre++[w]) (by simp[hl])
  simp at bB;rw[bS]
  conv=>lhs;arg 4;unfold MF
  unfold yw;by_cases hw:t=w
  .simp[hlt,hg,hw]
  .have dG:(t==w)=false:=by simpa using hw
   simp[hlt,hg,hw,dG,hnext];exact bB
theorem amK(nl:Bool)(l:List Int)(t:Int)(hn:l.length<=1000000):
  ev P (.call QU [.d (hD nl l),.d (I' t)] [])=some (.val (.d (.b (decide (t∈l)))) []):=by
 have hl:=amJ nl l t hn l [] rfl;simp at hl;have hI:ev P (.call Q8 [.d (hD nl l),.d (I' t)] [])=some (.val (.d (I' (match yw t 0 l with |none=>-1 |some k=>k))) []):=by
  rw[au afk rfl];cases hi:yw t 0 l<;>(rw[hi]at hl;simp[Sk,hl])
 have hs:=amI (t:=t) (l:=l) (k:=0);rw[<-hs];rw[au aeV rfl];cases hi:yw t 0 l<;>(rw[hi]at hI;simp[RZ,hI])
def gX(own:Int)(H:List Int)(t:Int):Int:=if(decide (0<=t)&&t==own)=true then 2 else if t∈H then 1 else 0
theorem F4(own:Int)(a b c d e f g:D)(nl:Bool)(H:List Int)(t:Int)(hn:H.length<=1000000):
  ev P (.call KJ [.d (.ag [I' own,a,b,hD nl H,c,d,e,f,g]),.d (I' t)] [])=some (.val (.d (I' (gX own H t))) []):=by
 have hC:=amK nl H t hn;rw[au aea rfl];unfold gX;cases h1:(decide (0<=t)&&t==own)
 .simp[L5,h1]
  by_cases h2:t∈H<;>simp[h2]at hC<;>simp[hC,h2]
 .simp[L5,h1]
end Go.VS.R
namespace Go.VS.R
open Go.VS.Sp
theorem HY(n:Int):ev P (.call AH [.d (I' n)] [])=some (.val (.d (.b false)) []):=by
 rw[au SH rfl];simp[HI]
theorem SS(n:Int):ev P (.call Cs [.d (I' n)] [])=some (.val (.d (.b false)) []):=by
 rw[au Yc rfl];simp[MK]
theorem HZ(a b:Int):ev P (.call Hf [.d (I' a),.d (I' b)] [])=some (.val (.d (.b (decide (a<b)))) []):=by
 rw[au Yb rfl];by_cases h:a<b<;>simp[MJ,HY,h]
def iU(l:List Int):Prop:=l.Pairwise (·<=·)
def bI(t:Int)(l:List Int):Nat:=(l.takeWhile λx=>decide (x<t)).length
theorem tG(t:Int):∀(l:List Int),bI t l<=l.length
 | []=>by simp[bI]
 |w::q=>by
  have:=tG t q;unfold bI at *;simp only[oy];split<;>simp;omega
theorem E5{t x:Int}:∀{l:List Int}{k:Nat},iU l->l[k]?=some x->(k<bI t l↔x<t)
 | [],k,_,h=>by simp at h
 |a::q,0,_,h=>by
  have:a=x:=by simpa using h
  subst this;by_cases hp:a<t<;>simp[bI,oy,hp]
 |a::q,k+1,hd,h=>by
  have hd':=gH.1 hd;have hq:q[k]?=some x:=by simpa using h
  have hw:x∈q:=kU hq;have h1:=hd'.1 x hw;have ih:=E5 (t:=t) (k:=k) hd'.2 hq;by_cases hp:a<t
  .have:bI t (a::q)=bI t q+1:=by simp[bI,oy,hp]
   rw[this,<-ih];omega
  .have:bI t (a::q)=0:=by simp[bI,oy,hp]
   rw[this];constructor<;>intro h3<;>omega
theorem E6{i j:Nat}(h:i+j<=4000000):IntKind.i64.wrap ((IntKind.u64.wrap ((i:Int)+j)).fdiv (2 ^ min 1 IntKind.u64.bits))=(((i+j) / 2:Nat):Int):=by
 have h1:IntKind.u64.wrap ((i:Int)+j)=(i:Int)+j:=by
  have e0:IntKind.u64.bits=64:=rfl;simp only[IntKind.wrap,e0,IntKind.signed,Aj,eI,dI];omega
 have h2:(2:Int) ^ min 1 IntKind.u64.bits=2:=by decide
 rw[h1,h2,Pd _ (by omega),wrap_i64 (by omega) (by omega)]
 omega
theorem amL{l:List Int}{R:List (List D)}{m:Nat}{x:Int}(hR:l.length<=R.length)(hT:R.take l.length=bX l)(hx:l[m]?=some x):R[m]?=some [I' x]/\m<l.length:=by
 have hm:m<l.length:=(rW.1 hx).1;refine⟨?_,hm⟩;have h1:(R.take l.length)[m]?=some [I' x]:=by rw[hT];simp[hx]
 rw[yK]at h1;simpa[hm]using h1
theorem SU(l:List Int)(R:List (List D))(t:Int)(hn:l.length<=1000000)(hR:l.length<=R.length)(hT:R.take l.length=bX l)(hA:iU l):∀(n i j:Nat),j - i<=n->i<=bI t l->bI t l<=j->j<=l.length ->
  ev P (.loop 1 [0,1,6,7,8] CD [(0,.aR 0 0 l.length),(1,.d (I' t)),(6,.d (I' l.length)),(7,.d (I' i)),(8,.d (I' j))] [.aG 1 true R]) =
   some (.out (.exit 0) [(0,.aR 0 0 l.length),(1,.d (I' t)),(6,.d (I' l.length)),(7,.d (I' (bI t l)))] [.aG 1 true R]):=by
 intro n;induction n with
 |zero =>
  intro i j h1 h2 h3 h4;have e1:i=bI t l:=by omega
  have e2:j=bI t l:=by omega
  rw[bS]
  conv=>lhs;arg 4;unfold CD
  simp[e1,e2,ak,cut]
 |succ n ih =>
  intro i j h1 h2 h3 h4;by_cases hij:i=j
  .have e1:i=bI t l:=by omega
   have e2:j=bI t l:=by omega
   rw[bS]
   conv=>lhs;arg 4;unfold CD
   simp[e1,e2,ak,cut]
  .have hlt:i<j:=by omega
   have hw1:IntKind.i64.wrap ((i:Int)+j)=i+j:=wrap_i64 (by omega) (by omega)
   have hm:=E6 (i:=i) (j:=j) (by omega)
   generalize ze:(i+j) / 2=m at hm;have hm1:i<=m:=by omega
   have hm2:m<j:=by omega
   obtain⟨x,hx⟩:∃x,l[m]?=some x:=⟨l[m]'(by omega),by simp⟩
   have hb:=E5 (t:=t) hA hx;obtain⟨hg,hml⟩:=amL hR hT hx;have CQ:IntKind.i64.wrap ((m:Int)+1)=m+1:=wrap_i64 (by omega) (by omega)
   have AY:(m:Int)<l.length:=by omega
   have U5:m<R.length:=by omega
   have tP:R[m]=[I' x]:=by rw[qR U5]at hg;exact yG hg
   rw[bS]
   conv=>lhs;arg 4;unfold CD
   by_cases hp:x<t
   .have bB:=ih (m+1) j (by omega) (by omega) (by omega) h4
    simp at bB;simp[hlt,hw1,hm,CQ,hml,AY,U5,tP,HZ,hp,ak,cut];exact bB
   .have bB:=ih i m (by omega) (by omega) (by omega) (by omega)
    simp[hlt,hw1,hm,hml,AY,U5,tP,HZ,hp,ak,cut];exact bB
theorem SV(l:List Int)(R:List (List D))(t:Int)(hn:l.length<=1000000)(hR:l.length<=R.length)(hT:R.take l.length=bX l)(hA:iU l):
  ∃b,ev P (.call Lj [.aR 0 0 l.length,.d (I' t)] [.aG 1 true R])=some (.val (.tu [.d (I' (bI t l)),.d (.b b)]) [.aG 1 true R]):=by
 have hb:=tG t l;have hl:=SU l R t hn hR hT hA l.length 0 l.length (by omega) (by omega) hb (by omega)
 simp at hl;by_cases h:bI t l<l.length
 .obtain⟨x,hx⟩:∃x,l[bI t l]?=some x:=⟨l[bI t l],by simp⟩
  obtain⟨hg,_⟩:=amL hR hT hx;have U6:bI t l<R.length:=by omega
  have tP:R[bI t l]=[I' x]:=by rw[qR U6]at hg;exact yG hg
  have h2:(bI t l:Int)<l.length:=by omega
  generalize bI t l=B at *;by_cases xS:x=t
  .refine⟨true,?_⟩
   subst xS;rw[au MX rfl];simp[EV,hl,h,h2,U6,tP,ak,cut,az]
  .refine⟨false,?_⟩
   have SX:(x==t)=false:=by simpa using xS
   rw[au MX rfl];simp[EV,hl,h,h2,U6,tP,SS,SX,ak,cut,az]
 .have h2:¬(bI t l:Int)<l.length:=by omega
  refine⟨false,?_⟩;rw[au MX rfl];simp[EV,hl,h,h2,ak,cut,az]
theorem amM(t:Int):ev P (.call Lj [.d (.sl 1 true []),.d (I' t)] [])=some (.val (.tu [.d (I' 0),.d (.b false)]) []):=by
 have hl:ev P (.loop 0 [0,1,6,7,8] CD [(0,.d (.sl 1 true [])),(1,.d (I' t)),(6,.d (I' 0)),(7,.d (I' 0)),(8,.d (I' 0))] []) =
   some (.out (.exit 0) [(0,.d (.sl 1 true [])),(1,.d (I' t)),(6,.d (I' 0)),(7,.d (I' 0))] []):=by
  rw[bS]
  conv=>lhs;arg 4;unfold CD
  simp
 rw[au MX rfl];simp[EV,hl,az]
end Go.VS.R
namespace Go.VS.R
open Go.VS.Sp
def mg(x:Int):List D:=[I' x]
def w8(p:Int->Bool):Nat->List Int->Option Nat
 |_,[]=>none
 |k,w::r=>if p w=true then some k else w8 p (k+1) r
theorem amN{f:Nat}{first caps:List D}{p:Int->Bool}(l:List Int)(hn:l.length<=1000000)
  (hp:∀a,ev P (.call f (first.map V.d++[.d (I' a)]++caps.map V.d) [])=some (.val (.d (.b (p a))) [])):
  ∀(suf pre:List Int),l=pre++suf ->
  ev P (.loop 1 [0,1,7,8] Mv [(0,.aR 0 0 l.length),(1,.d (.fn f first caps)),(7,.d (I' l.length)),(8,.d (I' pre.length))] [.aG 1 true (l.map mg)]) =
   match w8 p pre.length suf with
   |none=>some (.out (.exit 0) [] [.aG 1 true (l.map mg)])
   |some k=>some (.out .ret [(4,.d (I' k))] [.aG 1 true (l.map mg)]):=by
 intro suf;induction suf with
 |nil =>
  intro pre hl
  have:l.length=pre.length:=by simp[hl]
  rw[bS]
  conv=>lhs;arg 4;unfold Mv
  simp[this,w8,ak,cut]
 |cons w suf ih =>
  intro pre hl;have hg:l[pre.length]?=some w:=by simp[hl]
  have hlt:(pre.length:Int)<l.length:=by simp[hl];omega
  have jD:pre.length<l.length:=by simp[hl]
  have tP:l[pre.length]=w:=by simpa[qR jD]using hg
  have hnext:IntKind.i64.wrap ((pre.length:Int)+1)=pre.length+1:=wrap_i64 (by omega) (by omega)
  have bB:=ih (pre++[w]) (by simp[hl])
  simp at bB hp;rw[bS]
  conv=>lhs;arg 4;unfold Mv
  cases hw:p w
  .simp[hlt,jD,tP,mg,hp,tD,hw,hnext,w8,ak,cut]
   exact bB
  .simp[hlt,jD,tP,mg,hp,tD,hw,w8,ak,cut]
theorem amO{f:Nat}{first caps:List D}{p:Int->Bool}(l:List Int)(hn:l.length<=1000000)
  (hp:∀a,ev P (.call f (first.map V.d++[.d (I' a)]++caps.map V.d) [])=some (.val (.d (.b (p a))) [])):
  ev P (.call QW [.aR 0 0 l.length,.d (.fn f first caps)] [.aG 1 true (l.map mg)]) =
   some (.val (.d (I' (match w8 p 0 l with |none=>-1 |some k=>k))) [.aG 1 true (l.map mg)]):=by
 have hl:=amN l hn hp l [] rfl;simp at hl;rw[au aeX rfl];simp[R1,hl,ak,cut];cases w8 p 0 l<;>simp[az,ak,cut]
 done
theorem amP{f:Nat}{first caps:List D}{p:Int->Bool}(l:List Int)(hn:l.length<=1000000)
  (hp:∀a,ev P (.call f (first.map V.d++[.d (I' a)]++caps.map V.d) [])=some (.val (.d (.b (p a))) [])):
  ∀(suf pre:List Int)(R:List (List D)),l=pre++suf->R.length=l.length->(∀r,r∈R->r.length=1)->R.take (pre.filter λw=>!p w).length=(pre.filter λw=>!p w).map mg->R.drop pre.length=suf.map mg ->
  ∃R',R'.length=l.length/\(∀r,r∈R'->r.length=1)/\R'.take (l.filter λw=>!p w).length=(l.filter λw=>!p w).map mg /\
  ev P (.loop 1 [0,1,5,6] Hr [(0,.aR 0 0 l.length),(1,.d (.fn f first caps)),(5,.d (I' (pre.filter λw=>!p w).length)),(6,.d (I' pre.length))] [.aG 1 true R]) =
   some (.out (.exit 0) [(0,.aR 0 0 l.length),(5,.d (I' (l.filter λw=>!p w).length))] [.aG 1 true R']):=by
 intro suf;induction suf with
 |nil =>
  intro pre R hl hR Jh h1 h2;have Io:l=pre:=by simp[hl]
  subst Io;refine⟨R,hR,Jh,h1,?_⟩;rw[bS]
  conv=>lhs;arg 4;unfold Hr
  simp[ak,cut]
 |cons w suf ih =>
  intro pre R hl hR Jh h1 h2;have hlt:(pre.length:Int)<l.length:=by simp[hl];omega
  have jD:pre.length<l.length:=by simp[hl]
  have hnext:IntKind.i64.wrap ((pre.length:Int)+1)=pre.length+1:=wrap_i64 (by omega) (by omega)
  have sJ:(pre.filter λw=>!p w).length<=pre.length:=vw _ _
  have hRw:R[pre.length]?=some (mg w):=by
   have:=congrArg (λx=>x[0]?) h2
   simpa using this
  have hlR:pre.length<R.length:=by omega
  have hRg:R[pre.length]=mg w:=by simpa[qR hlR]using hRw
  have hd:R.drop (pre.length+1)=suf.map mg:=by
   rw[<-List.drop_drop,h2];simp
  simp at hp;generalize hk:(pre.filter λw=>!p w)=kp at *
  cases hw:p w
  .have amQ:IntKind.i64.wrap ((kp.length:Int)+1)=kp.length+1:=wrap_i64 (by omega) (by omega)
   obtain⟨R',k1,k0,k2,k3⟩:=ih (pre++[w]) (R.set kp.length (mg w)) (by simp[hl]) (by simpa using hR) (λr hr=>by rcases JQ hr with h |h;exact Jh r h;rw[h];rfl)
    (by
     simp[hk,hw];rw[List.take_succ_eq_append_getElem (by simp;omega)]
     rw[List.take_set_of_le (gf _),h1];simp)
    (by simp;rw[List.drop_set_of_lt (by omega)];exact hd)
   refine⟨R',k1,k0,k2,?_⟩;simp[hk,hw,mg]at k3;have amR:kp.length<l.length:=by omega
   have amS:kp.length<R.length:=by omega
   have h3:(R[kp.length]).length=1:=Jh _ (vq amS);have h3d:List.drop 1 R[kp.length]=[]:=qP (by omega)
   rw[bS]
   conv=>lhs;arg 4;unfold Hr
   simp[hlt,jD,hRg,hR,mg,hp,tD,hw,hnext,amQ,amR,h3,h3d,ak,cut];exact k3
  .obtain⟨R',k1,k0,k2,k3⟩:=ih (pre++[w]) R (by simp[hl]) hR Jh (by simpa[hk,hw]using h1) (by simpa using hd)
   refine⟨R',k1,k0,k2,?_⟩;simp[hk,hw]at k3;rw[bS]
   conv=>lhs;arg 4;unfold Hr
   simp[hlt,jD,hRg,hR,mg,hp,tD,hw,hnext,ak,cut];exact k3
theorem amT{p:Int->Bool}:∀(l pre:List Int),(∀w,w∈pre->p w=false)->match w8 p pre.length l with
  |none=>∀w,w∈pre++l->p w=false
  |some k=>∃a w b,pre++l=a++w::b/\a.length=k/\p w=true/\(∀x,x∈a->p x=false)
 | [],pre,h=>by simpa[w8]using h
 |w::r,pre,h=>by
  unfold w8;cases hw:p w
  .have ih:=amT r (pre++[w]) (by intro x hx;rcases dj.1 hx with hx |hx;exact h x hx;simp at hx;rw[hx];exact hw)
   simp at ih⊢;exact ih
  .simp only[dF]
   exact⟨pre,w,r,rfl,rfl,hw,h⟩
theorem amU{f:Nat}{first caps:List D}{p:Int->Bool}(l:List Int)(hn:l.length<=1000000)
  (hp:∀a,ev P (.call f (first.map V.d++[.d (I' a)]++caps.map V.d) [])=some (.val (.d (.b (p a))) [])):
  ∃R',(l.filter λw=>!p w).length<=R'.length/\R'.take (l.filter λw=>!p w).length=(l.filter λw=>!p w).map mg /\
  ev P (.call Qo [.aR 0 0 l.length,.d (.fn f first caps)] [.aG 1 true (l.map mg)]) =
   some (.val (.aR 0 0 (l.filter λw=>!p w).length) [.aG 1 true R']):=by
 have hi:=amO l hn hp;have hs:=amT (p:=p) l [] (by simp)
 rw[au aeb rfl];cases hx:w8 p 0 l with
 |none =>
  rw[hx]at hi;simp only[k9,hx,mu]at hs;have hf:(l.filter λw=>!p w)=l:=by
   rw[Pe];intro a ha;simp[hs a ha]
  refine⟨l.map mg,by rw[hf];simp,by rw[hf];simp[bk],?_⟩
  rw[hf];simp[L7,aA,hi,ak,cut,sub,aE,back,az]
 |some k =>
  rw[hx]at hi;simp only[k9,hx,mu]at hs;obtain⟨a,w,b,hl,hk,hw,ha⟩:=hs;have NN:((a++[w]).filter λw=>!p w)=a:=by
   have:(a.filter λw=>!p w)=a:=by
    rw[Pe];intro x hx;simp[ha x hx]
   simp[this,hw]
  obtain⟨R',k1,k0,k2,k3⟩:=amP l hn hp b (a++[w]) (l.map mg) (by simp[hl]) (by simp) (by
    intro r hr;obtain⟨x,_,rfl⟩:=gV.1 hr;rfl) (by rw[NN,hl];simp) (by rw[show l=(a++[w])++b by simp[hl],vD];exact DY (by simp))
  rw[NN,hk]at k3;have hak:k+1<=l.length:=by rw[hl,<-hk,lT,iy];omega
  have hnext:IntKind.i64.wrap ((k:Int)+1)=k+1:=wrap_i64 (by omega) (by omega)
  have hkn:((k:Int) == -1)=false:=by simp
  simp only[lT,uk,hk]at k3;have hfl:(l.filter λw=>!p w).length<l.length:=by
   have h1:=vw (λw=>!p w) a
   have h2:=vw (λw=>!p w) b
   rw[hl];simp[WI,hw];omega
  generalize (l.filter λw=>!p w)=fl at *
  refine⟨R'.take fl.length++List.replicate (R'.length - fl.length) [I' 0],by simp;omega,?_,?_⟩
  .rw[B0 (by simp;omega),Ar,J0,k2]
  .have hz:¬(l.length - fl.length=0):=by omega
   have hdr:List.drop l.length R'=[]:=qP (by omega)
   simp at k3;simp[hz,hdr,L7,aA,hi,ak,cut,sub,aE,back,az,hkn,hnext,k3,hfl,Nat.le_of_lt hfl,k1]
   done
theorem amV(t a b c d x:Int):ev P (.call KK [.d (I' x),.d (.ref [I' t,I' a,I' b,I' c,I' d])] [])=some (.val (.d (.b (x==t))) []):=by
 rw[au aec rfl];simp[RA]
theorem tH(nl:Bool)(q:List Int)(gi:nl=true->q=[])(hn:q.length<=1000000):
  ev P (.call tw [.d (hD nl q)] [])=if nl=true then some (.val (.d (.sl 1 true [])) [])else some (.val (.aR 0 0 q.length) [.aG 1 true (bX q)]):=by
 rw[au SB rfl];cases nl
 .have hr:q.length<=room:=by unfold room;omega
  cases q with
  |nil=>simp[rA,eK,fN,ak,cut,az]
  |cons a r =>
   simp at hr;simp[rA,eK,fN,ak,cut,hr,az]
 .simp[rA,az]
theorem w7(nl:Bool)(q:List Sp.W)(gi:nl=true->q=[])(hn:q.length<=1000000):
  ev P (.call sv [.d (qD nl q)] [])=if nl=true then some (.val (.d (.sl 5 true [])) [])else some (.val (.aR 0 0 q.length) [.aG 5 true (q.map Sp.W.row)]):=by
 rw[au MT rfl];cases nl
 .have hr:q.length<=room:=by unfold room;omega
  cases q with
  |nil=>simp[qw,eK,fN,ak,cut,az]
  |cons a r =>
   simp at hr;simp[qw,eK,fN,ak,cut,hr,az]
 .simp[qw,az]
end Go.VS.R
namespace Go.VS.R
open Go.VS.Sp
def hV:Option (List (List D)×Nat)->Nat->V
 |none,_=>.d (.sl 1 true [])
 |some (_,n),i=>.aR i 0 n
def hO:Option (List (List D)×Nat)->List O
 |none=>[]
 |some (R,_)=>[.aG 1 true R]
def qV:Bool ⊕ (List (List D)×Nat×Nat)->Nat->V
 | .inl nl,_=>.d (.sl 5 nl [])
 | .inr (_,off,len),i=>.aR i off len
def qO:Bool ⊕ (List (List D)×Nat×Nat)->List O
 | .inl _=>[]
 | .inr (R,_,_)=>[.aG 5 true R]
def kV:Option (List (List D))->Nat->V
 |none,_=>.d (.sl 5 true [])
 |some R,i=>.aR i 0 R.length
def kO:Option (List (List D))->List O
 |none=>[]
 |some R=>[.aG 5 true R]
structure Z where
 c1:D
 c2:D
 c5:D
 c6:D
 c7:D
 c8:D
def lk(z:Z)(own:Int)(h q k:V):O:=.gJ 10 [[.d (I' own),.d z.c1,.d z.c2,h,q,.d z.c5,.d z.c6,.d z.c7,.d z.c8,k]]
def c9(z:Z)(own:Int)(H:Option (List (List D)×Nat))(Q:Bool ⊕ (List (List D)×Nat×Nat))(K:Option (List (List D))):List O :=
 lk z own (hV H 1) (qV Q (1+(hO H).length)) (kV K (1+(hO H).length+(qO Q).length))::(hO H++(qO Q++kO K))
def hlen:Option (List (List D)×Nat)->Nat
 |none=>0
 |some (_,n)=>n
theorem aN:List.range 2=[0,1]:=rfl
theorem aO:List.range 3=[0,1,2]:=rfl
theorem cB:List.range 4=[0,1,2,3]:=rfl
theorem cq:List.range 5=[0,1,2,3,4]:=rfl
theorem zT(z:Z)(own:Int) (H) (Q) (K):ev P (.call Cn [.loc 0 0 0] (c9 z own H Q K))=some (.val (.d (.b (own != -1))) (c9 z own H Q K)):=by
 rw[au XU rfl];rcases H with _ |⟨R,n⟩<;>rcases Q with nl |⟨S,off,len⟩<;>rcases K with _ |T <;>
  simp[L6,c9,lk,hV,hO,qV,qO,kV,kO,ak,cut,aN,aO,cB,cq,an,az]
theorem Oz(z:Z)(own:Int) (H) (Q) (K):ev P (.call Eh [.loc 0 0 0] (c9 z own H Q K))=some (.val (.d (.b (own == -1&&(hlen H:Int)==0))) (c9 z own H Q K)):=by
 have hW:=zT z own H Q K;rw[au XT rfl];cases ho:own == -1
 .have fK:(own != -1)=true:=by simp[bne,ho]
  rw[fK]at hW;rcases H with _ |⟨R,n⟩<;>rcases Q with nl |⟨S,off,len⟩<;>rcases K with _ |T <;>
   (
    simp[c9,lk,hV,hO,qV,qO,kV,kO]at hW;simp[EG,c9,lk,hV,hO,qV,qO,kV,kO,ak,cut,aN,aO,cB,cq,an,az,aA,sub,aE,back,hW,hlen])
 .have fK:(own != -1)=false:=by simp[bne,ho]
  rw[fK]at hW;rcases H with _ |⟨R,n⟩<;>rcases Q with nl |⟨S,off,len⟩<;>rcases K with _ |T <;>
   (
    simp[c9,lk,hV,hO,qV,qO,kV,kO]at hW;simp[EG,c9,lk,hV,hO,qV,qO,kV,kO,ak,cut,aN,aO,cB,cq,an,az,aA,sub,aE,back,hW,hlen])
end Go.VS.R
namespace Go.VS.R
open Go.VS.Sp
def eR(t:Int)(l:List Int):List Int:=l.take (bI t l)++t::l.drop (bI t l)
theorem F5(t:Int)(l:List Int):(eR t l).length=l.length+1:=by
 have:=tG t l;unfold eR;simp;omega
def hX:Option (List (List D)×Nat)->List O
 |none=>[]
 |some _=>[.dead]
theorem U7(z:Z)(own t:Int) (H) (Q) (K):ev P (.call xL [.loc 0 0 0,.d (I' t),.d (I' 55)] (c9 z own H Q K))=some (.val (.tu []) (c9 z t H Q K)):=by
 rw[au HN rfl];rcases H with _ |⟨R,n⟩<;>rcases Q with nl |⟨S,off,len⟩<;>rcases K with _ |T <;>
  simp[CC,c9,lk,hV,hO,qV,qO,kV,kO,ak,cut,aN,aO,cB,cq,an,az,aq]
def rR(z:Z)(own:Int)(H:Option (List (List D)×Nat))(Q:Bool ⊕ (List (List D)×Nat×Nat))(K:Option (List (List D)))(R:List (List D)):List O :=
 lk z own (.aR (1+(hO H).length+(qO Q).length+(kO K).length) 0 R.length) (qV Q (1+(hO H).length)) (kV K (1+(hO H).length+(qO Q).length))::(hX H++(qO Q++(kO K++[.aG 1 true R])))
theorem U8(z:Z)(own t o:Int) (Q) (K)(ho:o≠55):ev P (.call xL [.loc 0 0 0,.d (I' t),.d (I' o)] (c9 z own none Q K))=some (.val (.tu []) (rR z own none Q K [[I' t]])):=by
 have hI:=Cd MZ (p:=l5 1) rfl;have fK:(o==55)=false:=by simpa using ho
 have r1:1<=room:=by decide
 rw[au HN rfl];rcases Q with nl |⟨S,off,len⟩<;>rcases K with _ |T <;>
  simp[CC,fK,amM,hI,l5,jO,r1,c9,rR,lk,hV,hO,hX,qV,qO,kV,kO,aA,sub,aE,back,ak,cut,aN,aO,cB,cq,an,az,aq]
theorem Ji(z:Z)(own t o:Int)(l:List Int)(R:List (List D)) (Q) (K)(ho:o≠55)(hn:l.length<=1000000)(hR:l.length<=R.length)(hT:R.take l.length=bX l)(hA:iU l):
  ev P (.call xL [.loc 0 0 0,.d (I' t),.d (I' o)] (c9 z own (some (R,l.length)) Q K))=some (.val (.tu []) (rR z own (some (R,l.length)) Q K (bX (eR t l)))):=by
 have hI:=Cd MZ (p:=l5 1) rfl;have fK:(o==55)=false:=by simpa using ho
 obtain⟨b,hB⟩:=SV l R t hn hR hT hA;have hb:=tG t l;have r1:l.length+1<=room:=by unfold room;omega
 have hlen:(eR t l).length=l.length+1:=F5 t l;have hrow:bX (eR t l)=(bX l).take (bI t l)++[I' t]::(bX l).drop (bI t l):=by unfold eR bX;simp[BU,BV]
 rw[hrow];have sE:((bX l).take (bI t l)++[I' t]::(bX l).drop (bI t l)).length=l.length+1:=by simp;omega
 have hT':R.take l.length=bX l:=hT;generalize bI t l=B at *;generalize dS:bX l=rr at *;unfold rR;rw[sE];rw[au HN rfl];rcases Q with nl |⟨S,off,len⟩<;>rcases K with _ |T <;>
  simp[CC,fK,hB,hb,hI,l5,jO,r1,hR,hT',c9,lk,hV,hO,hX,qV,qO,kV,kO,aA,sub,aE,back,ak,cut,aN,aO,cB,cq,an,az,aq]
end Go.VS.R
namespace Go.VS.R
open Go.VS.Sp
theorem U9(t:Int):∀{l:List Int},iU l->(∀x,x∈l.take (bI t l)->x<t)/\(∀x,x∈l.drop (bI t l)->t<=x)
 | [],_=>by simp
 |a::q,hs=>by
  have hs':=gH.1 hs;by_cases hp:a<t
  .have e:bI t (a::q)=bI t q+1:=by simp[bI,oy,hp]
   obtain⟨h1,h2⟩:=U9 t hs'.2;rw[e];constructor
   .intro w hw
    rw[Pr]at hw;rcases dA.1 hw with rfl |hw
    .exact hp
    .exact h1 w hw
   .intro w hw
    rw[WB]at hw;exact h2 w hw
  .have e:bI t (a::q)=0:=by simp[bI,oy,hp]
   rw[e];refine⟨by simp,?_⟩
   intro w hw;rw[List.drop_zero]at hw;rcases dA.1 hw with rfl |hw
   .omega
   .have:=hs'.1 w hw;omega
theorem amW{t:Int}{l:List Int}(h:iU l):iU (eR t l):=by
 obtain⟨h1,h2⟩:=U9 t h;unfold eR iU;rw[oz];refine⟨h.sublist (List.take_sublist _ _),gH.2 ⟨h2,h.sublist (List.drop_sublist _ _)⟩,?_⟩;intro a ha b hb;rcases dA.1 hb with rfl |hb
 .exact PE (h1 a ha)
 .exact Int.le_trans (PE (h1 a ha)) (h2 b hb)
theorem zU{α:Type}{l:List α}{x:α}:List.take (l.length+1) (l++[x])=l++[x]:=gC (by simp)
def wk(w:Sp.W):List D:=[I' w.task,I' w.op,I' 0,.b true,I' (-1)]
def iY(l:List Int)(q:List Sp.W):List Int:=q.foldl (λl w=>eR w.task l) l
def iM(i off:Nat):List Sp.W->V
 | []=>.d (.sl 5 false [])
 |r=>.aR i off r.length
def jK(z:Z)(own:Int)(pre:List O)(S:List (List D))(off:Nat)(r:List Sp.W)(l:List Int)(k:List (List D)):List O :=
 lk z own (.aR (pre.length+2) 0 l.length) (iM (pre.length+1) off r) (.aR (pre.length+3) 0 k.length)::(pre++[.aG 5 true S,.aG 1 true (bX l),.aG 5 true k])
theorem amX(z:Z)(pre:List O)(hpre:pre=[]\/pre=[.dead])(S:List (List D)):∀(r:List Sp.W)(off:Nat)(l:List Int)(k:List (List D)),iU l->l.length+r.length<=100000->k.length+r.length<=100000->l≠[]->k≠[]->S.drop off=r.map Sp.W.row ->
  ev P (.loop (pre.length+2) [0] j7 [(0,.loc 0 0 0)] (jK z (-1) pre S off r l k)) =
   some (.out (.exit 0) [] (jK z (-1) pre S (off+(r.takeWhile λw=>w.op != 55).length) (r.dropWhile λw=>w.op != 55) (iY l (r.takeWhile λw=>w.op != 55)) (k++(r.takeWhile λw=>w.op != 55).map wk))):=by
 intro r;induction r with
 |nil =>
  intro off l k hA hn hk sL p7 hS;rw[bS]
  conv=>lhs;arg 4;unfold j7
  rcases hpre with rfl |rfl <;>
   simp[jK,lk,iM,iY,ak,cut,aN,aO,cB,cq,an]
 |cons w r ih =>
  intro off l k hA hn hk sL p7 hS;simp at hn hk;have DD:S.length=off+(r.length+1):=by
   have:=congrArg List.length hS;simp at this;omega
  have hoff:off<S.length:=by omega
  have Jj:S[off]=w.row:=by
   have:=congrArg (λx=>x[0]?) hS
   simpa[qR hoff]using this
  have tN:S.drop (off+1)=r.map Sp.W.row:=by
   have:=congrArg (λx=>x.drop 1) hS
   simpa[D0]using this
  have pT:¬((l.length:Int)==0)=true:=by
   simp;exact sL
  have kL:((l.length:Int)==0)=false:=by simpa using pT
  by_cases ho:w.op=55
  .have hF:=Oz z (-1) (some (bX l,l.length)) (.inr (S,off,r.length+1)) (some k)
   have hW:=zT z (-1) (some (bX l,l.length)) (.inr (S,off,r.length+1)) (some k);simp[hlen,kL,c9,lk,hV,hO,qV,qO,kV,kO]at hF hW;have e1:((w::r).takeWhile λw=>w.op != 55)=[]:=by simp[oy,ho]
   have e2:((w::r).dropWhile λw=>w.op != 55)=w::r:=by simp[WJ,ho]
   rw[e1,e2];rw[bS]
   conv=>lhs;arg 4;unfold j7
   rcases hpre with rfl |rfl <;>
    simp[jK,lk,iM,iY,ak,cut,aN,aO,cB,cq,an,hoff,Jj,DD,Sp.W.row,ho,aA,hF,hW,sub,aE,back]
  .have fK:(w.op==55)=false:=by simpa using ho
   have e1:((w::r).takeWhile λw=>w.op != 55)=w::r.takeWhile λw=>w.op != 55:=by simp[oy,ho]
   have e2:((w::r).dropWhile λw=>w.op != 55)=r.dropWhile λw=>w.op != 55:=by simp[WJ,ho]
   have oa:=F5 w.task l;have bB:=ih (off+1) (eR w.task l) (k++[wk w]) (amW hA) (by omega) (by simp;omega) (by intro h;rw[h]at oa;simp at oa) (by simp) tN
   have e3:iY l ((w::r).takeWhile λw=>w.op != 55)=iY (eR w.task l) (r.takeWhile λw=>w.op != 55):=by rw[e1];rfl
   have e4:k++((w::r).takeWhile λw=>w.op != 55).map wk=k++[wk w]++(r.takeWhile λw=>w.op != 55).map wk:=by rw[e1];simp
   have e5:off+((w::r).takeWhile λw=>w.op != 55).length=off+1+(r.takeWhile λw=>w.op != 55).length:=by rw[e1];simp;omega
   rw[e2,e3,e4,e5];generalize hRR:some (ej.out (.exit 0) [] (jK z (-1) pre S (off+1+(r.takeWhile λw=>w.op != 55).length) (r.dropWhile λw=>w.op != 55) (iY (eR w.task l) (r.takeWhile λw=>w.op != 55)) (k++[wk w]++(r.takeWhile λw=>w.op != 55).map wk)))=RR at *
   have Du:k.length+1<=room:=by unfold room;omega
   have hk3:k.length+1<=100000:=by omega
   cases r with
   |nil =>
    have hW:=zT z (-1) (some (bX l,l.length)) (.inr (S,off,1)) (some k);have hG:=Ji z (-1) w.task w.op l (bX l) (.inl false) (some k) ho (by omega) (by simp) (by simp[bX,bk]) hA
    simp[c9,rR,lk,hV,hO,hX,qV,qO,kV,kO,oa]at hW hG;simp at DD;simp[jK,lk,iM,oa]at bB;rw[bS]
    conv=>lhs;arg 4;unfold j7
    rcases hpre with rfl |rfl
    .simp[jK,lk,iM,iY,ak,cut,aN,aO,cB,cq,an,hoff,Jj,DD,Sp.W.row,fK,aA,hW,hG,sub,aE,back,Du,cz,zU,wk]at bB⊢
     exact bB
    .simp[jK,lk,iM,iY,ak,cut,aN,aO,cB,cq,an,hoff,Jj,DD,Sp.W.row,fK,aA,hW,hG,sub,aE,back,Du,cz,zU,wk]at bB⊢
     exact bB
   |cons w2 r =>
    have hW:=zT z (-1) (some (bX l,l.length)) (.inr (S,off,r.length+1+1)) (some k);have hG:=Ji z (-1) w.task w.op l (bX l) (.inr (S,off+1,r.length+1)) (some k) ho (by omega) (by simp) (by simp[bX,bk]) hA
    simp[c9,rR,lk,hV,hO,hX,qV,qO,kV,kO,oa]at hW hG;simp at DD;simp[jK,lk,iM,oa]at bB;have q1:(0:Int)<r.length+1+1:=by omega
    have q2:(1:Int)<=r.length+1+1:=by omega
    have q3:(1:Int)<r.length+1+1:=by omega
    have q4:((r.length:Int)+1+1 - 1).toNat=r.length+1:=by omega
    have hle:off+(r.length+1+1)<=S.length:=by omega
    have hsub:off+(r.length+1+1) - (off+1)=r.length+1:=by omega
    rw[bS]
    conv=>lhs;arg 4;unfold j7
    rcases hpre with rfl |rfl
    .simp[jK,lk,iM,iY,ak,cut,aN,aO,cB,cq,an,hoff,q1,q2,q3,q4,Jj,DD,Sp.W.row,fK,aA,hW,hG,sub,aE,back,Du,cz,zU,wk]at bB⊢
     exact bB
    .simp[jK,lk,iM,iY,ak,cut,aN,aO,cB,cq,an,hoff,q1,q2,q3,q4,Jj,DD,Sp.W.row,fK,aA,hW,hG,sub,aE,back,Du,cz,zU,wk]at bB⊢
     exact bB
end Go.VS.R
namespace Go.VS.R
open Go.VS.Sp
theorem amY(z:Z)(own:Int) (H)(nl:Bool):ev P (.call tv [.loc 0 0 0] (c9 z own H (.inl nl) none))=some (.val (.tu []) (c9 z own H (.inl nl) none)):=by
 have hL:ev P (.loop (1+(hO H).length) [0] j7 [(0,.loc 0 0 0)] (c9 z own H (.inl nl) none))=some (.out (.exit 0) [] (c9 z own H (.inl nl) none)):=by
  rw[bS]
  conv=>lhs;arg 4;unfold j7
  rcases H with _ |⟨R,n⟩<;>simp[c9,lk,hV,hO,qV,qO,kV,kO,ak,cut,aN,aO,cB,cq,an]
 rw[au E2 rfl];rcases H with _ |⟨R,n⟩<;>simp[c9,lk,hV,hO,qV,qO,kV,kO]at hL <;>
  simp[AJ,hL,c9,lk,hV,hO,qV,qO,kV,kO,ak,cut,aN,aO,cB,cq,an,az]
theorem amZ(z:Z)(own:Int) (H)(S:List (List D)):ev P (.call tv [.loc 0 0 0] (c9 z own H (.inr (S,0,0)) none))=some (.val (.tu []) (c9 z own H (.inr (S,0,0)) none)):=by
 have hL:ev P (.loop (2+(hO H).length) [0] j7 [(0,.loc 0 0 0)] (c9 z own H (.inr (S,0,0)) none))=some (.out (.exit 0) [] (c9 z own H (.inr (S,0,0)) none)):=by
  rw[bS]
  conv=>lhs;arg 4;unfold j7
  rcases H with _ |⟨R,n⟩<;>simp[c9,lk,hV,hO,qV,qO,kV,kO,ak,cut,aN,aO,cB,cq,an]
 rw[au E2 rfl];rcases H with _ |⟨R,n⟩<;>simp[c9,lk,hV,hO,qV,qO,kV,kO]at hL <;>
  simp[AJ,hL,c9,lk,hV,hO,qV,qO,kV,kO,ak,cut,aN,aO,cB,cq,an,az]
theorem am0(z:Z)(own:Int) (H)(w:Sp.W)(r:List Sp.W)(h:own≠-1\/(w.op=55/\hlen H≠0)):
  ev P (.call tv [.loc 0 0 0] (c9 z own H (.inr ((w::r).map Sp.W.row,0,r.length+1)) none))=some (.val (.tu []) (c9 z own H (.inr ((w::r).map Sp.W.row,0,r.length+1)) none)):=by
 have hW:=zT z own H (.inr ((w::r).map Sp.W.row,0,r.length+1)) none;have hF:=Oz z own H (.inr ((w::r).map Sp.W.row,0,r.length+1)) none;have hL:ev P (.loop (2+(hO H).length) [0] j7 [(0,.loc 0 0 0)] (c9 z own H (.inr ((w::r).map Sp.W.row,0,r.length+1)) none))=some (.out (.exit 0) [] (c9 z own H (.inr ((w::r).map Sp.W.row,0,r.length+1)) none)):=by
  rw[bS]
  conv=>lhs;arg 4;unfold j7
  cases ho:own != -1
  .have fK:own = -1:=by simpa using ho
   subst fK;obtain⟨h1,h2⟩:w.op=55/\hlen H≠0:=by simpa using h
   have h3:((hlen H:Int)==0)=false:=by simpa using h2
   rw[ho]at hW;rw[h3]at hF;rcases H with _ |⟨R,n⟩<;>simp[c9,lk,hV,hO,qV,qO,kV,kO,Sp.W.row,h1]at hW hF <;>
    simp[c9,lk,hV,hO,qV,qO,kV,kO,ak,cut,aN,aO,cB,cq,an,aA,hW,hF,h1,sub,aE,back,Sp.W.row]
  .rw[ho]at hW
   rcases H with _ |⟨R,n⟩<;>simp[c9,lk,hV,hO,qV,qO,kV,kO,Sp.W.row]at hW <;>
    simp[c9,lk,hV,hO,qV,qO,kV,kO,ak,cut,aN,aO,cB,cq,an,aA,hW,sub,aE,back,Sp.W.row]
 rw[au E2 rfl];rcases H with _ |⟨R,n⟩<;>simp[c9,lk,hV,hO,qV,qO,kV,kO]at hL <;>
  simp[AJ,hL,c9,lk,hV,hO,qV,qO,kV,kO,ak,cut,aN,aO,cB,cq,an,az]
def og(z:Z)(own:Int)(H:Option (List (List D)×Nat))(S:List (List D))(r:List Sp.W)(k:List D):List O :=
 lk z own (hV H 1) (iM (1+(hO H).length) 1 r) (.aR (2+(hO H).length) 0 1)::(hO H++[.aG 5 true S,.aG 5 true [k]])
theorem am1(z:Z) (H)(w:Sp.W)(r:List Sp.W)(h:w.op=55)(hH:hlen H=0)(ht:w.task≠-1):
  ev P (.call tv [.loc 0 0 0] (c9 z (-1) H (.inr ((w::r).map Sp.W.row,0,r.length+1)) none))=some (.val (.tu []) (og z w.task H ((w::r).map Sp.W.row) r (wk w))):=by
 have r1:1<=room:=by decide
 have wJ:(w.task != -1)=true:=by simpa using ht
 have hL:ev P (.loop (2+(hO H).length) [0] j7 [(0,.loc 0 0 0)] (c9 z (-1) H (.inr ((w::r).map Sp.W.row,0,r.length+1)) none))=some (.out (.exit 0) [] (og z w.task H ((w::r).map Sp.W.row) r (wk w))):=by
  have hW:=zT z (-1) H (.inr ((w::r).map Sp.W.row,0,r.length+1)) none;have hF:=Oz z (-1) H (.inr ((w::r).map Sp.W.row,0,r.length+1)) none;have hFt:((-1:Int) == -1&&((hlen H:Nat):Int)==0)=true:=by rw[hH];decide
  rw[hFt]at hF;cases r with
  |nil =>
   have hG:=U7 z (-1) w.task H (.inl false) none;rw[bS]
   conv=>lhs;arg 4;unfold j7
   rcases H with _ |⟨R,n⟩
   .simp[c9,lk,hV,hO,qV,qO,kV,kO,Sp.W.row,h]at hW hF hG
    simp[c9,og,lk,hV,hO,qV,qO,kV,kO,iM,ak,cut,aN,aO,cB,cq,an,aA,hW,hF,hG,h,r1,sub,aE,back,Sp.W.row,wk];rw[bS]
    conv=>lhs;arg 4;unfold j7
    simp[ak,cut,aN,aO,cB,cq,an]
   .simp[c9,lk,hV,hO,qV,qO,kV,kO,Sp.W.row,h]at hW hF hG
    simp[c9,og,lk,hV,hO,qV,qO,kV,kO,iM,ak,cut,aN,aO,cB,cq,an,aA,hW,hF,hG,h,r1,sub,aE,back,Sp.W.row,wk];rw[bS]
    conv=>lhs;arg 4;unfold j7
    simp[ak,cut,aN,aO,cB,cq,an]
  |cons w2 r =>
   have hG:=U7 z (-1) w.task H (.inr ((w::w2::r).map Sp.W.row,1,r.length+1)) none;have Jk:=zT z w.task H (.inr ((w::w2::r).map Sp.W.row,1,r.length+1)) (some [wk w]);rw[wJ]at Jk;have q1:(0:Int)<r.length+1+1:=by omega
   have q2:(1:Int)<=r.length+1+1:=by omega
   have q3:(1:Int)<r.length+1+1:=by omega
   have q4:((r.length:Int)+1+1 - 1).toNat=r.length+1:=by omega
   rw[bS]
   conv=>lhs;arg 4;unfold j7
   rcases H with _ |⟨R,n⟩
   .simp[c9,lk,hV,hO,qV,qO,kV,kO,Sp.W.row,wk,h]at hW hF hG Jk
    simp[c9,og,lk,hV,hO,qV,qO,kV,kO,iM,ak,cut,aN,aO,cB,cq,an,aA,hW,hF,hG,h,q1,q2,q3,q4,r1,sub,aE,back,Sp.W.row,wk];rw[bS]
    conv=>lhs;arg 4;unfold j7
    simp[ak,cut,aN,aO,cB,cq,an,aA,Jk,sub,aE,back]
   .simp[c9,lk,hV,hO,qV,qO,kV,kO,Sp.W.row,wk,h]at hW hF hG Jk
    simp[c9,og,lk,hV,hO,qV,qO,kV,kO,iM,ak,cut,aN,aO,cB,cq,an,aA,hW,hF,hG,h,q1,q2,q3,q4,r1,sub,aE,back,Sp.W.row,wk];rw[bS]
    conv=>lhs;arg 4;unfold j7
    simp[ak,cut,aN,aO,cB,cq,an,aA,Jk,sub,aE,back]
 rw[au E2 rfl];cases r<;>rcases H with _ |⟨R,n⟩<;>simp[c9,og,lk,hV,hO,qV,qO,kV,kO,iM,wk]at hL <;>
  simp[AJ,hL,c9,og,lk,hV,hO,qV,qO,kV,kO,iM,wk,ak,cut,aN,aO,cB,cq,an,az]
def hL:Option (List (List D)×Nat)->List Int->Prop
 |none,l=>l=[]
 |some (R,n),l=>n=l.length/\l.length<=R.length/\R.take l.length=bX l
theorem am2(z:Z) (H)(l:List Int)(w:Sp.W)(r:List Sp.W)(h:w.op≠55)(hH:hL H l)(hA:iU l)(h1:l.length<=1000)(h2:r.length<=1000):
  ev P (.call tv [.loc 0 0 0] (c9 z (-1) H (.inr ((w::r).map Sp.W.row,0,r.length+1)) none)) =
   some (.val (.tu []) (jK z (-1) (hX H) ((w::r).map Sp.W.row) (1+(r.takeWhile λw=>w.op != 55).length) (r.dropWhile λw=>w.op != 55) (iY (eR w.task l) (r.takeWhile λw=>w.op != 55)) (wk w::(r.takeWhile λw=>w.op != 55).map wk))):=by
 have r1:1<=room:=by decide
 have fK:(w.op==55)=false:=by simpa using h
 have oa:=F5 w.task l;have hG:=amX z (hX H) (by cases H;exact .inl rfl;exact .inr rfl) ((w::r).map Sp.W.row) r 1 (eR w.task l) [wk w] (amW hA) (by omega) (by simp;omega) (by intro h;rw[h]at oa;simp at oa) (by simp) (by simp)
 have hL:ev P (.loop (2+(hO H).length) [0] j7 [(0,.loc 0 0 0)] (c9 z (-1) H (.inr ((w::r).map Sp.W.row,0,r.length+1)) none)) =
   some (.out (.exit 0) [] (jK z (-1) (hX H) ((w::r).map Sp.W.row) (1+(r.takeWhile λw=>w.op != 55).length) (r.dropWhile λw=>w.op != 55) (iY (eR w.task l) (r.takeWhile λw=>w.op != 55)) (wk w::(r.takeWhile λw=>w.op != 55).map wk))):=by
  have e1:[wk w]++(r.takeWhile λw=>w.op != 55).map wk=wk w::(r.takeWhile λw=>w.op != 55).map wk:=rfl
  rw[e1]at hG;generalize some (ej.out (.exit 0) [] (jK z (-1) (hX H) ((w::r).map Sp.W.row) (1+(r.takeWhile λw=>w.op != 55).length) (r.dropWhile λw=>w.op != 55) (iY (eR w.task l) (r.takeWhile λw=>w.op != 55)) (wk w::(r.takeWhile λw=>w.op != 55).map wk)))=RR at *
  have hW:=zT z (-1) H (.inr ((w::r).map Sp.W.row,0,r.length+1)) none;rcases H with _ |⟨R,n⟩
  .obtain rfl:l=[]:=hH
   have e0:eR w.task []=[w.task]:=rfl;cases r with
   |nil =>
    have w9:=U8 z (-1) w.task w.op (.inl false) none h;simp[c9,rR,jK,lk,hV,hO,hX,qV,qO,kV,kO,iM,Sp.W.row,wk,e0]at hW w9 hG;rw[bS]
    conv=>lhs;arg 4;unfold j7
    simp[c9,lk,hV,hO,qV,qO,kV,kO,ak,cut,aN,aO,cB,cq,an,aA,hW,w9,fK,r1,sub,aE,back,Sp.W.row];exact hG
   |cons w2 r =>
    have w9:=U8 z (-1) w.task w.op (.inr ((w::w2::r).map Sp.W.row,1,r.length+1)) none h;have q1:(0:Int)<r.length+1+1:=by omega
    have q2:(1:Int)<=r.length+1+1:=by omega
    have q3:(1:Int)<r.length+1+1:=by omega
    have q4:((r.length:Int)+1+1 - 1).toNat=r.length+1:=by omega
    simp[c9,rR,jK,lk,hV,hO,hX,qV,qO,kV,kO,iM,Sp.W.row,wk,e0]at hW w9 hG;rw[bS]
    conv=>lhs;arg 4;unfold j7
    simp[c9,lk,hV,hO,qV,qO,kV,kO,ak,cut,aN,aO,cB,cq,an,aA,hW,w9,fK,r1,q1,q2,q3,q4,sub,aE,back,Sp.W.row];exact hG
  .obtain⟨rfl,hR,hT⟩:=hH
   cases r with
   |nil =>
    have w9:=Ji z (-1) w.task w.op l R (.inl false) none h (by omega) hR hT hA
    simp[c9,rR,jK,lk,hV,hO,hX,qV,qO,kV,kO,iM,Sp.W.row,wk,oa]at hW w9 hG;rw[bS]
    conv=>lhs;arg 4;unfold j7
    simp[c9,lk,hV,hO,qV,qO,kV,kO,ak,cut,aN,aO,cB,cq,an,aA,hW,w9,fK,r1,sub,aE,back,Sp.W.row];exact hG
   |cons w2 r =>
    have w9:=Ji z (-1) w.task w.op l R (.inr ((w::w2::r).map Sp.W.row,1,r.length+1)) none h (by omega) hR hT hA
    have q1:(0:Int)<r.length+1+1:=by omega
    have q2:(1:Int)<=r.length+1+1:=by omega
    have q3:(1:Int)<r.length+1+1:=by omega
    have q4:((r.length:Int)+1+1 - 1).toNat=r.length+1:=by omega
    simp[c9,rR,jK,lk,hV,hO,hX,qV,qO,kV,kO,iM,Sp.W.row,wk,oa]at hW w9 hG;rw[bS]
    conv=>lhs;arg 4;unfold j7
    simp[c9,lk,hV,hO,qV,qO,kV,kO,ak,cut,aN,aO,cB,cq,an,aA,hW,w9,fK,r1,q1,q2,q3,q4,sub,aE,back,Sp.W.row];exact hG
 generalize (r.takeWhile λw=>w.op != 55)=tk at *
 generalize (r.dropWhile λw=>w.op != 55)=dk at *
 rw[au E2 rfl];cases dk<;>rcases H with _ |⟨R,n⟩<;>simp[c9,jK,lk,hV,hO,hX,qV,qO,kV,kO,iM]at hL <;>
  simp[AJ,hL,c9,jK,lk,hV,hO,hX,qV,qO,kV,kO,iM,ak,cut,aN,aO,cB,cq,an,az]
end Go.VS.R
namespace Go.VS.R
open Go.VS.Sp
def hS(n:Bool)(l:List Int):Option (List (List D)×Nat):=if n=true then none else some (bX l,l.length)
def qS(n:Bool)(q:List Sp.W):Bool ⊕ (List (List D)×Nat×Nat):=if n=true then .inl true else .inr (q.map Sp.W.row,0,q.length)
def bM(z:Z)(own:Int):O:=.aG 10 true [[I' own,z.c1,z.c2,.sl 1 true [],.sl 5 true [],z.c5,z.c6,z.c7,z.c8,.sl 5 true []]]
def kf(z:Z)(own:Int)(hn:Bool)(H:List Int)(qn:Bool)(Q:List Sp.W):List O:=if(hn&&qn)=true then[bM z own]else c9 z own (hS hn H) (qS qn Q) none
theorem F6(z:Z)(own:Int)(hn:Bool)(H:List Int)(qn:Bool)(Q:List Sp.W)(h1:hn=true->H=[])(h2:qn=true->Q=[])(h3:H.length<=1000000)(h4:Q.length<=1000000):
  ev P (.call GY [.d (.ag [I' own,z.c1,z.c2,hD hn H,qD qn Q,z.c5,z.c6,z.c7,z.c8])] [])=some (.val (.loc 0 0 0) (kf z own hn H qn Q)):=by
 have hC:=tH hn H h1 h3;have Jl:=w7 qn Q h2 h4;rw[au ad9 rfl];cases hn<;>cases qn<;>simp at hC Jl <;>
  simp[Rz,hC,Jl,aJ,eK,fN,V.aZ,hS,qS,kf,bM,c9,lk,hV,hO,qV,qO,kV,kO,ak,cut,aN,aO,cB,cq,an,az,aq]
theorem am3{n:Bool}{l:List Int}(h:n=true->l=[]):hL (hS n l) l:=by
 unfold hS hL;cases n
 .simp[bX,bk]
 .simp[h rfl]
theorem am4{n:Bool}{l:List Int}(h:n=true->l=[]):hlen (hS n l)=l.length:=by
 unfold hS hlen;cases n
 .simp
 .simp[h rfl]
def xe(own:Int)(H:List Int)(w:Sp.W):Bool:=(w.op != 53&&w.op != 55)||w.value != 0||w.case != -1||gX own H w.task != 0
def p9(own:Int)(H:List Int):List Sp.W->List Sp.W->Bool
 |_,[]=>true
 |pre,w::r=>!pre.any (λx=>x.task==w.task)&&!xe own H w&&p9 own H (pre++[w]) r
theorem fd_eq{pre:List Sp.W}{w:Sp.W}{r:List Sp.W}:((ju (pre++w::r) w.task).1==(pre.length:Int))=!pre.any (λx=>x.task==w.task):=by
 unfold ju;rw[Ws];cases h:pre.findIdx? (λx=>x.task==w.task)with
 |none =>
  have:pre.any (λx=>x.task==w.task)=false:=by
   rw[qQ];rw[JN]at h;intro x hx;rw[h x hx];decide
  rw[this];simp[xw]
 |some k =>
  obtain⟨h1,h2⟩:=Gr.1 h
  have:pre.any (λx=>x.task==w.task)=true:=rV.2 ⟨_,vq _,h2.1⟩
  rw[this];simp;omega
theorem am5(own:Int)(c1 c2 c5 c6 c7 c8:D)(hn:Bool)(H:List Int)(qn:Bool)(Q:List Sp.W)(h3:H.length<=1000000)(h4:Q.length<=1000000):∀(suf pre:List Sp.W),Q=pre++suf ->
  ev P (.loop 0 [1,13,14,15] ER [(1,.d (.ref [I' own,c1,c2,hD hn H,qD qn Q,c5,c6,c7,c8])),(13,.d (qD qn Q)),(14,.d (I' Q.length)),(15,.d (I' pre.length))] []) =
   if p9 own H pre suf=true then some (.out (.exit 0) [(1,.d (.ref [I' own,c1,c2,hD hn H,qD qn Q,c5,c6,c7,c8]))] [])else some (.out .ret [(2,.d (.b false))] []):=by
 intro suf;induction suf with
 |nil =>
  intro pre hl
  have:Q.length=pre.length:=by simp[hl]
  rw[bS]
  conv=>lhs;arg 4;unfold ER
  simp[this,p9]
 |cons w suf ih =>
  intro pre hl;have hg:Q[pre.length]?=some w:=by simp[hl]
  have hlt:(pre.length:Int)<Q.length:=by simp[hl];omega
  have hnext:IntKind.i64.wrap ((pre.length:Int)+1)=pre.length+1:=wrap_i64 (by omega) (by omega)
  have bB:=ih (pre++[w]) (by simp[hl])
  have hF:=lD qn Q w.task h4;have hH:=F4 own c1 c2 (qD qn Q) c5 c6 c7 c8 hn H w.task h3;have nV:((ju Q w.task).1==(pre.length:Int))=!pre.any (λx=>x.task==w.task):=by rw[hl];exact fd_eq
  have e1:p9 own H pre (w::suf)=(!pre.any (λx=>x.task==w.task)&&!xe own H w&&p9 own H (pre++[w]) suf):=rfl
  rw[e1];generalize p9 own H (pre++[w]) suf=dd at *;generalize (ju Q w.task).1=fi at *;generalize (ju Q w.task).2=fb at *;simp at bB;rw[bS]
  conv=>lhs;arg 4;unfold ER
  cases ha:pre.any (λx=>x.task==w.task)
  .rw[ha]at nV
   have rD:(fi != (pre.length:Int))=false:=by simp[bne,nV]
   cases hb:((w.op != 53&&w.op != 55)||w.value != 0||w.case != -1||gX own H w.task != 0)
   .have kI:xe own H w=false:=hb
    have p1:(w.op != 53&&w.op != 55)=false:=by cases h:(w.op != 53&&w.op != 55)<;>simp_all
    have p2:(w.value != 0)=false:=by cases h:(w.value != 0)<;>simp_all
    have p3:(w.case != -1)=false:=by cases h:(w.case != -1)<;>simp_all
    have p4:(gX own H w.task != 0)=false:=by cases h:(gX own H w.task != 0)<;>simp_all
    simp[hlt,hg,Sp.W.row,hF,rD,hH,p1,p2,p3,p4,hnext,kI];exact bB
   .have kI:xe own H w=true:=hb
    simp[hlt,hg,Sp.W.row,hF,rD,hH,hb,kI]
  .rw[ha]at nV
   have rD:(fi != (pre.length:Int))=true:=by simp[bne,nV]
   simp[hlt,hg,Sp.W.row,hF,rD]
def stay(own:Int)(H:List Int):List Sp.W->Bool
 | []=>true
 |w::_=>own != -1||(w.op==55&&!H.isEmpty)
theorem HV{Q:List Sp.W}(h:dY Q=0):Q.length<=96/\∀w,w∈Q->dO w=true:=by
 unfold dY at h;by_cases h1:96<Q.length
 .rw[aK h1]at h;cases h
 .rw[aD h1]at h
  refine⟨by omega,?_⟩
  have:∀(l:List Sp.W)(p:Option Sp.W),fR 1 p l=0->∀w,w∈l->dO w=true:=by
   intro l;induction l with
   |nil=>simp
   |cons a r ih =>
    intro p h w hw;unfold fR at h;cases hv:dO a
    .rw[hv]at h;simp at h
    .rw[hv]at h
     simp at h;rcases dA.1 hw with e |hw
     .rw[e];exact hv
     .exact ih _ h w hw
  exact this Q none h
theorem sy{w:Sp.W}(h:dO w=true):0<=w.task/\w.task<16:=by
 unfold dO kE at h;simp at h;omega
theorem am6(z:Z)(own:Int)(hn:Bool)(H:List Int)(qn:Bool)(Q:List Sp.W)(h1:hn=true->H=[])(h2:qn=true->Q=[])(h3:H.length<=1000)(h4:Q.length<=1000000)(hA:iU H):
  ev P (.call K4 [.d (.ag [I' own,z.c1,z.c2,hD hn H,qD qn Q,z.c5,z.c6,z.c7,z.c8])] [])=some (.val (.d (.b (dY Q==0&&(p9 own H [] Q&&stay own H Q)))) []):=by
 have hW:=uK qn Q;have hL:=am5 own z.c1 z.c2 z.c5 z.c6 z.c7 z.c8 hn H qn Q (by omega) h4 Q [] rfl
 have dW:=F6 z own hn H qn Q h1 h2 (by omega) h4
 have jG:=am4 h1;have hLS:=am3 h1;rw[au X4 rfl];cases hw:dY Q==0
 .have dG:(dY Q != 0)=true:=by simp[bne,hw]
  simp[tB,hW,dG]
 .have dG:(dY Q != 0)=false:=by simp[bne,hw]
  obtain⟨mX,A5⟩:=HV (by simpa using hw)
  cases hq:p9 own H [] Q
  .rw[hq]at hL
   simp at hL;simp[tB,hW,dG,hL]
  .rw[hq]at hL
   simp at hL;cases Q with
   |nil =>
    simp at hL;simp[tB,hW,dG,hL,stay]
   |cons w r =>
    simp at hL;have jW:qn=false:=by cases qn;rfl;exact absurd (h2 rfl) (by simp)
    subst jW;have qe:qS false (w::r) = .inr ((w::r).map Sp.W.row,0,r.length+1):=by simp[qS]
    have z1:¬((r.length:Int)+1=0):=by omega
    have z2:((r.length:Int)+1==0)=false:=by simp;omega
    have Bz:=sy (A5 w (by simp))
    have zE:kf z own hn H false (w::r)=c9 z own (hS hn H) (.inr ((w::r).map Sp.W.row,0,r.length+1)) none:=by simp[kf,qe]
    rw[zE]at dW;by_cases hs:own≠-1\/(w.op=55/\hlen (hS hn H)≠0)
    .have hst:stay own H (w::r)=true:=by
      unfold stay;rw[jG]at hs;rcases hs with hs |⟨yq,wT⟩
      .simp[hs]
      .simp[yq];right;intro h;rw[h]at wT;exact wT rfl
     have gq:=am0 z own (hS hn H) w r hs;rw[hst];cases hn
     .simp[hS,c9,lk,hV,hO,qV,qO,kV,kO]at dW gq
      simp[tB,hW,dG,hL,z1,z2,dW,aJ,aA,gq,ak,cut,aN,aO,cB,cq,an,sub,aE,back]
     .simp[hS,c9,lk,hV,hO,qV,qO,kV,kO]at dW gq
      simp[tB,hW,dG,hL,z1,z2,dW,aJ,aA,gq,ak,cut,aN,aO,cB,cq,an,sub,aE,back]
    .have ho:own = -1:=vC λh=>hs (.inl h)
     subst ho;have hst:stay (-1) H (w::r)=false:=by
      unfold stay;simp;intro h
      have:hlen (hS hn H)=0:=vC λh'=>hs (.inr ⟨h,h'⟩)
      rw[jG]at this;exact xy.1 this
     rw[hst];by_cases lH:w.op=55
     .have hh1:hlen (hS hn H)=0:=vC λh'=>hs (.inr ⟨lH,h'⟩)
      have gq:=am1 z (hS hn H) w r lH hh1 (by omega)
      cases hn
      .cases r with
       |nil =>
        simp at hL;simp[hS,c9,og,lk,hV,hO,qV,qO,kV,kO,iM]at dW gq;simp[tB,hW,dG,hL,z1,z2,dW,aJ,aA,gq,ak,cut,aN,aO,cB,cq,an,sub,aE,back]
       |cons w2 r =>
        simp at hL;have z5:((r.length:Int)+1+1==0)=false:=by simp;omega
        have z6:¬((r.length:Int)+1+1=0):=by omega
        simp[hS,c9,og,lk,hV,hO,qV,qO,kV,kO,iM]at dW gq;simp[tB,hW,dG,hL,z5,z6,dW,aJ,aA,gq,ak,cut,aN,aO,cB,cq,an,sub,aE,back]
      .cases r with
       |nil =>
        simp at hL;simp[hS,c9,og,lk,hV,hO,qV,qO,kV,kO,iM]at dW gq;simp[tB,hW,dG,hL,z1,z2,dW,aJ,aA,gq,ak,cut,aN,aO,cB,cq,an,sub,aE,back]
       |cons w2 r =>
        simp at hL;have z5:((r.length:Int)+1+1==0)=false:=by simp;omega
        have z6:¬((r.length:Int)+1+1=0):=by omega
        simp[hS,c9,og,lk,hV,hO,qV,qO,kV,kO,iM]at dW gq;simp[tB,hW,dG,hL,z5,z6,dW,aJ,aA,gq,ak,cut,aN,aO,cB,cq,an,sub,aE,back]
     .have gq:=am2 z (hS hn H) H w r lH hLS hA h3 (by simp at mX;omega)
      generalize (r.takeWhile λw=>w.op != 55)=tk at *
      generalize (r.dropWhile λw=>w.op != 55)=dk at *
      have z3:¬((tk.length:Int)+1=0):=by omega
      have z4:((tk.length:Int)+1==0)=false:=by simp;omega
      cases hn<;>cases dk <;>
      .simp[hS,c9,jK,lk,hV,hO,hX,qV,qO,kV,kO,iM]at dW gq
       simp[tB,hW,dG,hL,z1,z2,z3,z4,dW,aJ,aA,gq,ak,cut,aN,aO,cB,cq,an,sub,aE,back]
end Go.VS.R
namespace Go.VS.R
open Go.VS.Sp
theorem am7{α:Type}(l:List α):l=[]\/∃a x,l=a++[x]:=by
 rcases Ak l with h |⟨a,x,h⟩
 .exact .inl h
 .exact .inr ⟨a,x,by simpa using h⟩
def vh:List Int->List Int->Bool
 |_,[]=>true
 |pre,x::r=>!(!cY x||pre.getLast?.any (λy=>decide (x<=y)))&&vh (pre++[x]) r
theorem UZ(own:Int)(c1 c2 c5 c6 c7 c8 qd:D)(hn:Bool)(H:List Int)(h3:H.length<=1000000):∀(suf pre:List Int),H=pre++suf ->
  ev P (.loop 0 [1,52,53,54] AI [(1,.d (.ref [I' own,c1,c2,hD hn H,qd,c5,c6,c7,c8])),(52,.d (hD hn H)),(53,.d (I' H.length)),(54,.d (I' pre.length))] []) =
   if vh pre suf=true then some (.out (.exit 0) [(1,.d (.ref [I' own,c1,c2,hD hn H,qd,c5,c6,c7,c8]))] [])else some (.out .ret [(2,.d (.b false))] []):=by
 intro suf;induction suf with
 |nil =>
  intro pre hl
  have:H.length=pre.length:=by simp[hl]
  rw[bS]
  conv=>lhs;arg 4;unfold AI
  simp[this,vh]
 |cons x suf ih =>
  intro pre hl;have hg:H[pre.length]?=some x:=by simp[hl]
  have hlt:(pre.length:Int)<H.length:=by simp[hl];omega
  have hnext:IntKind.i64.wrap ((pre.length:Int)+1)=pre.length+1:=wrap_i64 (by omega) (by omega)
  have bB:=ih (pre++[x]) (by simp[hl])
  have e1:vh pre (x::suf)=(!(!cY x||pre.getLast?.any (λy=>decide (x<=y)))&&vh (pre++[x]) suf):=rfl
  rw[e1];generalize vh (pre++[x]) suf=dd at *;simp at bB;rw[bS]
  conv=>lhs;arg 4;unfold AI
  cases ht:cY x
  .simp[hlt,hg,fY,ht]
  .rcases am7 pre with rfl |⟨pre',p,rfl⟩
   .have h0:0<H.length:=by simp[hl]
    have CJ:∀h:0<H.length,H[0]=x:=λh=>by simpa[qR h]using hg
    simp at bB;simp[h0,CJ,fY,ht,vX];exact bB
   .have mC:H[pre'.length]?=some p:=by simp[hl]
    have jD:(pre'.length:Int)+1<H.length:=by simpa using hlt
    have dG:IntKind.i64.wrap (pre'.length:Int)=pre'.length:=wrap_i64 (by omega) (by omega)
    have h0:(0:Int)<pre'.length+1:=by omega
    have h1:(0:Int)<=pre'.length+1:=by omega
    have hn2:IntKind.i64.wrap ((pre'.length:Int)+1+1)=pre'.length+1+1:=wrap_i64 (by omega) (by omega)
    simp only[lT,uk]at hg;simp at bB;by_cases hp:x<=p
    .simp[jD,hg,mC,dG,h0,h1,fY,ht,hp]
    .simp[jD,hg,mC,dG,h0,h1,fY,ht,hp,hn2]
     exact bB
def OA(own cnt time:Int)(H B:List Int)(C:List (List D))(cl:Bool)(val:Int):Bool :=
 own != -1&&(!cY own||decide (0<H.length))||cnt != 0||time != 0||decide (0<B.length)||decide (0<C.length)||cl||val != 0
def jI(own cnt time:Int)(H:List Int)(Q:List Sp.W)(B:List Int)(C:List (List D))(cl:Bool)(val:Int):Bool :=
 !OA own cnt time H B C cl val&&(vh [] H&&(dY Q==0&&(p9 own H [] Q&&stay own H Q)))
theorem am8:∀{suf pre:List Int},iU pre->(∀x,x∈pre->∀y,y∈pre.getLast?->x<=y)->vh pre suf=true->iU (pre++suf)
 | [],pre,hA,_,_=>by simpa using hA
 |x::r,pre,hA,hm,h=>by
  have e1:vh pre (x::r)=(!(!cY x||pre.getLast?.any (λy=>decide (x<=y)))&&vh (pre++[x]) r):=rfl
  rw[e1]at h;simp at h;obtain⟨⟨_,h2⟩,h3⟩:=h;have hx:∀y,y∈pre->y<=x:=by
   intro y hy;cases hp:pre.getLast? with
   |none =>
    have:pre=[]:=by simpa using hp
    rw[this]at hy;cases hy
   |some p =>
    have:=hm y hy p (by simp[hp])
    have:=qQ.1 (by simpa[hp]using h2:([p]:List Int).any (λy=>decide (x<=y))=false) p (by simp)
    simp at this;omega
  have U':iU (pre++[x]):=by
   unfold iU;rw[oz];exact⟨hA,WK _ _,λa ha b hb=>by simp at hb;rw[hb];exact hx a ha⟩
  have:=am8 U' (by
   intro y hy p hp;simp at hp;subst hp;simp at hy;rcases hy with hy |hy
   .exact hx y hy
   .omega) h3
  simpa using this
theorem am9{H:List Int}(h:vh [] H=true):iU H:=by
 have:=am8 (pre:=[]) (suf:=H) List.Pairwise.nil (by simp) h
 simpa using this
theorem U0(own cnt time:Int)(hn:Bool)(H:List Int)(qn:Bool)(Q:List Sp.W)(bn:Bool)(B:List Int)(cn:Bool)(C:List (List D))(cl:Bool)(val:Int)
  (hh:hn=true->H=[])(hq:qn=true->Q=[])(h1:H.length<=1000)(h2:Q.length<=1000000):
  ev P (.call KI [.d (.ag [I' own,I' cnt,I' time,hD hn H,qD qn Q,hD bn B,cD cn C,.b cl,I' val])] [])=some (.val (.d (.b (jI own cnt time H Q B C cl val))) []):=by
 have hL:=UZ own (I' cnt) (I' time) (hD bn B) (cD cn C) (.b cl) (I' val) (qD qn Q) hn H (by omega) H [] rfl
 simp at hL;rw[au XQ rfl];unfold jI;simp[EE,fY];cases hA:(own != -1&&(!cY own||decide (0<H.length))||cnt != 0||time != 0||decide (0<B.length)||decide (0<C.length)||cl||val != 0)
 .have hF:OA own cnt time H B C cl val=false:=hA
  rw[hF];cases hv:vh [] H
  .rw[hv]at hL
   simp at hL;simp[hL]
  .rw[hv]at hL
   simp at hL;have hQ:=am6 ⟨I' cnt,I' time,hD bn B,cD cn C,.b cl,I' val⟩ own hn H qn Q hh hq h1 h2 (am9 hv);simp only at hQ;have e2:(!false&&(true&&(dY Q==0&&(p9 own H [] Q&&stay own H Q))))=(dY Q==0&&(p9 own H [] Q&&stay own H Q)):=by simp
   rw[e2];generalize (dY Q==0&&(p9 own H [] Q&&stay own H Q))=R at *;simp[hL,hQ]
 .have hF:OA own cnt time H B C cl val=true:=hA
  rw[hF];simp
theorem qy(nm:D)(k sz ot:Int)(own cnt time:Int)(hn:Bool)(H:List Int)(qn:Bool)(Q:List Sp.W)(bn:Bool)(B:List Int)(cn:Bool)(C:List (List D))(cl:Bool)(val:Int)
  (hh:hn=true->H=[])(hq:qn=true->Q=[])(h1:H.length<=1000)(h2:Q.length<=1000000):
  ev P (.call lz [.d (.ag [nm,I' k,I' sz,I' ot]),.d (.ag [I' own,I' cnt,I' time,hD hn H,qD qn Q,hD bn B,cD cn C,.b cl,I' val])] []) =
   some (.val (.d (I' (if dQ k sz ot=0 then(if jI own cnt time H Q B C cl val then 0 else 1)else dQ k sz ot))) []):=by
 have hv:=U0 own cnt time hn H qn Q bn B cn C cl val hh hq h1 h2;rw[au XF rfl];cases hm:dQ k sz ot==0
 .have hm':dQ k sz ot≠0:=by simpa using hm
  have hm2:(dQ k sz ot != 0)=true:=by simpa using hm'
  simp[Eu,uN,hm',hm2,bY]
 .have hm':dQ k sz ot=0:=by simpa using hm
  simp[Eu,uN,hm',gm,hv];cases jI own cnt time H Q B C cl val<;>simp
def Va(l:List Sp.W):Int:=if 96<l.length then 4 else if l.all dO=true then 0 else 2
theorem ana(l:List Sp.W):Va l=dY l:=by
 have:∀(l:List Sp.W)(p:Option Sp.W),fR 1 p l=if l.all dO=true then 0 else 2:=by
  intro l;induction l with
  |nil=>intro p;rfl
  |cons a r ih =>
   intro p;unfold fR;cases hv:dO a
   .simp[hv]
   .simp[hv,ih]
 unfold Va dY;rw[this]
end Go.VS.R
namespace Go.VS.R
open Go.VS.Sp
def anb(own:Int)(H:List Int):List Sp.W->Bool
 | []=>false
 |w::_=>if w.op=53 then decide (own<0)else(decide (own<0)&&H.isEmpty)
end Go.VS.R
