import Derived.Test.YtjpdopldkeodgaaGreatV13
import Derived.Test.YtjpdopldkeodgaaGreatV11
set_option linter.all false
set_option maxHeartbeats 1000000
namespace Go.VS.Sp
structure LOK(sz:Int)(s:S):Prop where
 own:s.own = -1
 lo:0<=s.cnt
 hi:s.cnt<=sz
 t0:0<=s.time
 t1:s.time<=1099511627776
 val:s.val=0
 cl:s.cl=false
 h:s.H=[]
 b:s.B=[]
 c:s.C=[]
 q:WQ 72 (λw=>1<=w.value/\w.value<=sz) s.Q
theorem V3{sz ot:Int}{s:S}:fD 8 sz ot s=0↔jv 8 sz ot=0/\LOK sz s:=by
 have e:fD 8 sz ot s=ck (jv 8 sz ot) (Je sz s):=rfl;rw[e,BI];refine J6 Iff.rfl ?_;unfold Je Jc Jd;have hq:=VZ (f:=fL sz) (g:=λw=>!Dy sz w) (λpre w=>rfl) (Q:=s.Q)
 simp only[bJ,kX,BT,J4,ku,dN,yy,hq];rw[<-decide_eq_false_iff_not (p:=(0:Int)<_),ard];have lK:∀w:W,Dy sz w=false↔w.op=72/\(1<=w.value/\w.value<=sz)/\w.case = -1:=λw=>by
  unfold Dy;simp;constructor
  .rintro⟨⟨⟨h1,h2⟩,h3⟩,h4⟩;exact⟨h1,⟨by omega,h3⟩,h4⟩
  .rintro⟨h1,⟨h2,h3⟩,h4⟩;exact⟨⟨⟨h1,by omega⟩,h3⟩,h4⟩
 constructor
 .rintro⟨⟨⟨⟨⟨h1,h2⟩,h3⟩,h4⟩,h5⟩,⟨⟨h6,h7⟩,h8,h9,iK⟩,⟨je,h12⟩,kG,j9⟩
  exact⟨h1,by omega,by omega,by omega,by omega,h6,h7,h8,h9,iK,⟨je,λw hw=>⟨h12 w hw,((lK w).1 (kG w hw)).1,((lK w).1 (kG w hw)).2.2,((lK w).1 (kG w hw)).2.1⟩,j9⟩⟩
 .rintro⟨h1,h2,h3,h4,h5,h6,h7,h8,h9,iK,⟨je,h12,j9⟩⟩
  exact⟨⟨⟨⟨⟨h1,by omega⟩,by omega⟩,by omega⟩,by omega⟩,⟨⟨h6,h7⟩,h8,h9,iK⟩,⟨je,λw hw=>(h12 w hw).1⟩,λw hw=>(lK w).2 ⟨(h12 w hw).2.1,(h12 w hw).2.2.2,(h12 w hw).2.2.1⟩,j9⟩
def aL(cnt time:Int):S:=⟨-1,cnt,time,false,[],false,[],false,[],false,[],false,0⟩
theorem arl{sz ot cnt time:Int}(hn:jv 8 sz ot=0)(h:0<=cnt/\cnt<=sz)(ht:0<=time/\time<=1099511627776):cW 8 sz ot (aL cnt time)=true:=by
 unfold cW gL gE iV ir qA aL;simp[hn,ck];omega
def DS(sz ot now n tm:Int):Prop:=(now - tm) / ot=0/\(n<sz\/n=sz/\tm=now)
theorem arn{sz ot now n tm:Int}(h:DS sz ot now n tm):nA sz ot now (aL n tm)=aL n tm:=by
 obtain⟨h1,h2⟩:=h;unfold nA aL;simp only[h1];rcases h2 with h2 |⟨rfl,rfl⟩
 .have:¬sz<=n:=by omega
  simp[this]
 .simp
theorem aro{sz ot now n tm:Int}(h2:1<=ot)(h3:0<=n/\n<=sz)(h1:0<=tm/\tm<=now):∃n' mM,nA sz ot now (aL n tm)=aL n' mM/\DS sz ot now n' mM/\0<=n'/\n'<=sz/\0<=mM/\mM<=now /\
  ∀s:S,s.cnt=n->s.time=tm->tZ sz ot now s={s with cnt:=n',time:=mM}:=by
 obtain⟨k0,k1,k2⟩:=H7 (a:=now - tm) (b:=ot) (by omega) h2
 have hm:(now - tm) % ot=now - tm - (now - tm) / ot*ot:=by have:=Int.emod_def (now - tm) ot;rw[this,Int.mul_comm]
 have hm0:=Int.emod_nonneg (now - tm) (show ot≠0 by omega)
 have hm1:=Int.emod_lt_of_pos (now - tm) (show 0<ot by omega)
 by_cases h:sz<=n+(now - tm) / ot
 .refine⟨sz,now,?_,⟨by simp,.inr ⟨rfl,rfl⟩⟩,by omega,by omega,by omega,by omega,λs e1 e2=>?_⟩
  .unfold nA aL;simp[h]
  .unfold tZ;rw[e1,e2,aK h]
 .have hq:0<=(now - tm) / ot*ot:=Gu k0 (by omega)
  refine⟨n+(now - tm) / ot,tm+(now - tm) / ot*ot,?_,⟨?_,.inl (by omega)⟩,by omega,by omega,by omega,by omega,λs e1 e2=>?_⟩
  .unfold nA aL;simp[h]
  .rw[show now - (tm+(now - tm) / ot*ot)=(now - tm) % ot by omega]
   exact Int.ediv_eq_zero_of_lt hm0 hm1
  .unfold tZ;rw[e1,e2,aD h]
theorem arp{sz ot n tm n' mM:Int}{c:Cl}(hn:jv 8 sz ot=0)(h3:0<=n/\n<=sz)(h1:0<=tm/\tm<=c.now)(hb:cG c=false)(ho:c.op=75)(hr:nA sz ot c.now (aL n tm)=aL n' mM):eD 8 sz ot (aL n tm) c=(aL n' mM,0,true,0):=by
 have hbd:=vk hb;have e:raw 8 sz ot (aL n tm) c=(aL n' mM,0,true,0):=by
  unfold raw eL
  have:¬c.now<(aL n tm).time:=by unfold aL;simp only;omega
  simp[this,ho,hr,gd]
 rw[uh (arl hn h3 (by omega)) hb (by unfold dH;simp[ho]) (by unfold fit;simp[ho]) (by rw[e]),e]
theorem arq{sz ot n tm:Int}{c:Cl}(hn:jv 8 sz ot=0)(h3:0<=n/\n<=sz)(h1:0<=tm/\tm<=c.now)(hb:cG c=false)(ho:c.op=72)(hv:1<=c.value/\c.value<=sz)(hs:DS sz ot c.now n tm)(hle:c.value<=n):eD 8 sz ot (aL n tm) c=(aL (n - c.value) tm,0,true,0):=by
 have hbd:=vk hb;have e:raw 8 sz ot (aL n tm) c=(aL (n - c.value) tm,0,true,0):=by
  unfold raw eL;have h1:¬c.now<(aL n tm).time:=by unfold aL;simp only;omega
  have h2:¬(aL n tm).cnt<c.value:=by unfold aL;simp only;omega
  simp[h1,ho,arn hs,gd];rw[aD h2];rfl
 rw[uh (arl hn h3 (by omega)) hb (by unfold dH;simp[ho]) (by unfold fit;simp[ho,hv]) (by rw[e]),e]
theorem ars:∀(Q:List W)(n:Int),(eX Q n).1.Sublist Q/\(eX Q n).2.2.Sublist Q
 | [],n=>by simp[eX]
 |w::r,n=>by
  unfold eX;obtain⟨h1,h2⟩:=ars r (n - w.value);split
  .exact⟨h1.cons _,h2.cons_cons _⟩
  .exact⟨Am _,by simp⟩
theorem art{sz ot now tm:Int}(hn:jv 8 sz ot=0)(hw0:0<=now/\now<=1099511627776)(h1:0<=tm/\tm<=now):∀(Q:List W)(n:Int)(R:List Cp),0<=n/\n<=sz->DS sz ot now n tm->(∀w∈Q,dO w=true/\w.op=72/\1<=w.value/\w.value<=sz)->∀a:S,a.pl=aL n tm ->
  ∃b:S,b.pl=aL (eX Q n).2.1 tm/\DS sz ot now (eX Q n).2.1 tm/\0<=(eX Q n).2.1/\(eX Q n).2.1<=n/\cZ 8 sz ot a ((eX Q n).2.2.map (oq now)++R)=cZ 8 sz ot b R
 | [],n,R,h3,hs,_,a,ha=>⟨a,ha,hs,h3.1,Int.le_refl _,rfl⟩
 |w::r,n,R,h3,hs,hw,a,ha=>by
  have hw1:=hw w (by simp)
  unfold eX;by_cases hle:w.value<=n
  .simp only[hle,dF]
   have he:=arq (c:=⟨w.task,w.op,w.value,w.prio,now⟩) hn h3 h1 (uj hw1.1 hw0) hw1.2.1 hw1.2.2 hs hle;rw[<-ha]at he;have wT:DS sz ot now (n - w.value) tm:=⟨hs.1,.inl (by omega)⟩
   obtain⟨b,b1,b2,b3,b4,b5⟩:=art hn hw0 h1 r (n - w.value) R (by omega) wT (λx hx=>hw x (by simp[hx])) (aL (n - w.value) tm) rfl
   refine⟨b,b1,b2,b3,by omega,?_⟩
   rw[<-b5];exact mo (x:=oq now w) he rfl rfl (.inr (.inl rfl))
  .simp only[hle,dI]
   exact⟨a,ha,hs,h3.1,Int.le_refl _,rfl⟩
theorem aru(nm:D)(sz ot:Int)(s:S)(c:Cl)(hf:s.jr)(hc:¬fD 8 sz ot s=0):ev P (.call Cj [.d (.ag [nm,I' 8,I' sz,I' ot]),.d (.ag s.row),.d (.ag c.row)] [])=some (.val (.tu [.d (.ag om),.d (I' (fD 8 sz ot s))]) []):=by
 have bZ:ev P (.call nT [.d (.ag [nm,I' 8,I' sz,I' ot]),.d (.ag s.row)] [])=some (.val (.d (I' (fD 8 sz ot s))) []):=UY nm 8 sz ot s hf.sm;have he:(fD 8 sz ot s != 0)=true:=by simpa using hc
 have hlc:ev P (.call KU [.d (.ag [nm,I' 8,I' sz,I' ot]),.d (.ag s.row),.d (.ag c.row)] [])=some (.val (.d (I' (fD 8 sz ot s))) []):=by
  rw[au X0 rfl];simp only[S.row,Cl.row]at *;simp[AO,bZ,he]
 rw[au XL rfl];simp only[S.row,Cl.row]at *;simp[y5,hlc,he,az,aq]
theorem arv(nm:D)(sz ot:Int)(s:S)(c:Cl)(hf:s.jr)(iZ:s.Q.length<=40)(hb:cG c=false):
  mq (ev P (.call Cj [.d (.ag [nm,I' 8,I' sz,I' ot]),.d (.ag s.row),.d (.ag c.row)] [])) 8 sz ot s c:=by
 have bZ:ev P (.call nT [.d (.ag [nm,I' 8,I' sz,I' ot]),.d (.ag s.row)] [])=some (.val (.d (I' (fD 8 sz ot s))) []):=UY nm 8 sz ot s hf.sm;by_cases hc:fD 8 sz ot s=0
 .obtain⟨hn,hs⟩:=V3.1 hc
  have hsz:1<=sz/\sz<=100/\1<=ot/\ot<=1099511627776:=by
   unfold jv at hn;simp at hn;omega
  rw[hc]at bZ;have hlo:=hs.lo;have hhi:=hs.hi;have ht0:=hs.t0;refine mq.of (aqY nm 8 sz ot s c (by omega) (by omega) hs.t0 hf.qn (by omega) (λw hw=>by have:=(hs.q.w w hw).2.2.2;omega) bZ) λhe=>?_
  have hbd:=vk hb;unfold DQ at he;obtain⟨h1,he⟩:=jf (by decide) he
  obtain⟨h2,he⟩:=jf (by decide) he
  simp at h1 h2;have hop:c.op=72\/c.op=75:=by omega
  obtain⟨n',mM,hr,hst,hn0,hn1,oS,wJ,BO⟩:=aro (sz:=sz) (ot:=ot) (now:=c.now) (n:=s.cnt) (tm:=s.time) hsz.2.2.1 ⟨hlo,hhi⟩ (by omega)
  have fm:(s.ab true).pl=aL s.cnt s.time:=by
   unfold S.ab S.pl aL;simp[hs.own,hs.val,hs.h,hs.b,hs.c,hs.cl]
  have hcb:cG {c with op:=75}=false:=hb;have cj:=arp (c:={c with op:=75}) hn ⟨hlo,hhi⟩ (by simp only;omega) hcb rfl hr
  rw[<-fm]at cj;obtain⟨q1,q2⟩:=ars s.Q n';have arw:=λR=>art (sz:=sz) (ot:=ot) (now:=c.now) (tm:=mM) hn (by omega) ⟨oS,wJ⟩ s.Q n' R ⟨hn0,hn1⟩ hst (λw hw=>⟨(hs.q.w w hw).1,(hs.q.w w hw).2.1,(hs.q.w w hw).2.2.2⟩) (aL n' mM) rfl
  unfold VT;rw[BO s rfl rfl];have yB:JD {s with cnt:=n',time:=mM}=(eX s.Q n').2.2.map vg:=by
   unfold JD;refine vo λw hw=>?_
   unfold pe vg;rw[(hs.q.w w (q2.subset hw)).2.1]
  have hls:nK {s with cnt:=n',time:=mM}={s with cnt:=(eX s.Q n').2.1,time:=mM,Q:=(eX s.Q n').1}:=rfl;rw[yB,hls];have hlen:=q1.length_le;have sE:=q2.length_le;have iG:∀m:Int,({s with cnt:=m,time:=mM,Q:=(eX s.Q n').1}:S).jr:=λm=>⟨⟨hf.wf.h,hf.wf.b,hf.wf.c,hf.wf.k⟩,λh=>by have:=hf.qn h;simp[this,eX],hf.h,by simp only;omega,hf.b,hf.c,hf.l⟩
  obtain⟨_,_,_,hb3,hb4,_⟩:=arw [];have arx:∀m:Int,0<=m->m<=sz->fD 8 sz ot {s with cnt:=m,time:=mM,Q:=(eX s.Q n').1}=0:=λm m0 m1 =>
   V3.2 ⟨hn,hs.own,m0,m1,oS,by simp only;omega,hs.val,hs.cl,hs.h,hs.b,hs.c,hs.q.sub q1⟩
  have JF:∀(m:Int)(b:S),b.pl=aL m mM->b.pl=(({s with cnt:=m,time:=mM,Q:=(eX s.Q n').1}:S).ab true).pl:=λm b hb=>by
   rw[hb];unfold S.ab S.pl aL;simp[hs.own,hs.val,hs.h,hs.b,hs.c,hs.cl]
  have V4:∀r:Ry,r.wl=(eX s.Q n').2.2.map vg->ng 8 s c r=⟨{c with op:=75},⟨c.task,75,0,true,-1⟩⟩::((eX s.Q n').2.2.map (oq c.now)++if c.op=75 then[]else gB c r):=λr h=>by
   unfold ng;rw[aK rfl,h,VH c.now hs.q.tk q2 λw hw=>(hs.q.w w hw).2.2.1]
  have V5:∀(R:List Cp)(m:Int)(s':S),(∀b:S,b.pl=aL (eX s.Q n').2.1 mM->DS sz ot c.now (eX s.Q n').2.1 mM->(cZ 8 sz ot b R).2=true/\(cZ 8 sz ot b R).1.pl=(s'.ab true).pl) ->
    iw 8 sz ot s (⟨{c with op:=75},⟨c.task,75,0,true,-1⟩⟩::((eX s.Q n').2.2.map (oq c.now)++R)) s':=λR m s' h=>by
   obtain⟨b,b1,b2,_,_,b5⟩:=arw R;unfold iw;rw[mo (x:=⟨{c with op:=75},⟨c.task,75,0,true,-1⟩⟩) cj rfl rfl (.inr (.inl rfl)),b5];exact h b b1 b2
  unfold VR;rcases hop with ho |ho
  .rw[aD (by omega)]
   obtain⟨h3,he⟩:=jf (b:=c.op==75) (a:=1) (r:=if Ac sz c=true then 2 else if gQ s c.task=true then 17 else 0) (by decide) (by rw[ho]at he⊢;simpa using he)
   obtain⟨h5,he⟩:=jf (by decide) he
   obtain⟨h4,_⟩:=jf (b:=gQ s c.task) (a:=17) (r:=0) (by decide) he
   unfold Ac at h5;simp at h5;by_cases hq:(eX s.Q n').1=[]/\c.value<=(eX s.Q n').2.1
   .rw[aK hq]
    refine⟨iG _,hc,arx ((eX s.Q n').2.1 - c.value) (by omega) (by omega),by simp;omega,?_⟩
    rw[V4 _ rfl,aD (by omega)]
    refine V5 _ 0 _ λb b1 b2=>?_
    have fP:=arq hn (n:=(eX s.Q n').2.1) ⟨by omega,by omega⟩ (tm:=mM) ⟨oS,wJ⟩ hb ho (by omega) b2 hq.2
    rw[<-b1]at fP;simp only[gB,eI,dI];rw[show(⟨c,⟨c.task,c.op,0,true,-1⟩⟩:Cp)=fQ c 0 true from rfl,mo (x:=fQ c 0 true) fP rfl rfl (.inr (.inl rfl))]
    exact⟨rfl,JF _ _ rfl⟩
   .rw[aD hq]
    refine⟨⟨⟨hf.wf.h,hf.wf.b,hf.wf.c,hf.wf.k⟩,by simp,hf.h,by simp;omega,hf.b,hf.c,hf.l⟩,hc,?_,by simp;omega,?_⟩
    .refine V3.2 ⟨hn,hs.own,hb3,by simp only;omega,oS,by simp only;omega,hs.val,hs.cl,hs.h,hs.b,hs.c,(hs.q.sub q1).snoc (by omega) ⟨?_,rfl,rfl,by simp only;omega⟩ ?_⟩
     .unfold dO kE
      simp;omega
     .unfold gQ at h4
      exact apv q1 h4
    .rw[V4 _ rfl,aD (by omega)]
     refine V5 _ 0 _ λb b1 b2=>?_
     simp only[gB,dF,cZ,true_and];rw[JF _ b b1];rfl
  .rw[aK ho]
   refine⟨iG _,hc,arx _ hb3 (by omega),by simp;omega,?_⟩
   rw[V4 _ rfl,aK ho];refine V5 _ 0 _ λb b1 b2=>?_
   simp only[cZ,true_and];exact JF _ b b1
 .exact mq.er hc (aru nm sz ot s c hf hc)
end Go.VS.Sp
namespace Go.VS.Sp
abbrev lS(sz:Int)(s:S)(qc bc wc:V):O:=.gJ 11 [[.d (I' sz),.d (I' s.own),.d (I' s.cnt),.d (I' s.time),.d (hD s.hn s.H),qc,bc,.d (cD s.cn s.C),.d (.b s.cl),.d (I' s.val),wc]]
def bC(i:Nat):Option (List Int)->V
 |none=>.d (.sl 1 true [])
 |some l=>.aR i 0 l.length
def cK:Option (List Int)->List O
 |none=>[]
 |some l=>[.aG 1 true (bX l)]
def hQ(sz:Int)(s:S)(Q:List W)(b:Option (List Int)):List O:=lS sz s (.aR 1 0 Q.length) (bC 2 b) (.d (.sl 5 true []))::.aG 5 true (Q.map W.row)::cK b
def jt(s:S):Option (List Int):=if s.bn=true then none else some s.B
theorem vm(nm:D)(k sz ot:Int)(s:S)(hw:s.wf)(hq:s.qn=false)(hn:s.Q.length<=500)(hm:s.B.length<=500):
  ev P (.call G1 [.d (.ag [nm,I' k,I' sz,I' ot]),.d (.ag s.row)] [])=some (.val (.loc 0 0 0) (hQ sz s s.Q (jt s))):=by
 have h0:=w7 s.qn s.Q (by simp[hq]) (by omega)
 rw[hq,aD (by simp)]at h0
 rw[au Sy rfl];unfold hQ jt;cases hb:s.bn
 .have hc:=tH false s.B (by simp) (by omega)
  simp at hc;simp only[S.row,hq,qD]at *;simp[EK,bC,cK,hb,hc,h0,aJ,aA,sub,aE,back,az,aq,ak,cut,bt,an,V.aZ,br,aY,bg,aN,aO,bk,cI]
 .have hc:=tH true [] (by simp) (by simp)
  simp at hc;have hB:=hw.b hb;simp only[S.row,hq,qD]at *;simp[EK,bC,cK,hB,hb,hc,h0,aJ,aA,sub,aE,back,az,aq,ak,cut,bt,an,V.aZ,br,aY,bg,aN,aO,bk,cI]
theorem ary(op a b c d e:Int):ev P (.call En [.d (.ag [I' a,I' b,I' c,I' d,I' e]),.d (.ref [I' op])] [])=some (.val (.d (.b (b==op))) []):=by
 rw[au aft rfl];simp[Sr]
def fW(op:Int)(Q:List W):Option W:=Q.find? λw=>w.op==op
def qN:Option W->List D
 |none=>[I' 0,I' 0,I' 0,I' 0,I' 0]
 |some w=>w.row
theorem arz(nl:Bool)(Q:List W)(op:Int)(hn:Q.length<=1000000):ev P (.call Lr [.d (qD nl Q),.d (.fn En [] [.ref [I' op]])] [])=some (.val (.tu [.d (.ag (qN (fW op Q))),.d (.b (fW op Q).isSome)]) []):=by
 have h:=HT (f:=En) (first:=[]) (caps:=[.ref [I' op]]) (p:=λw=>w.op==op) nl Q hn (by intro a b c d e;simp[ary])
 have h:ev P (.call xJ [.d (qD nl Q),.d (.fn En [] [.ref [I' op]])] [])=some (.val (.d (I' (idx (λw:W=>w.op==op) 0 Q))) []):=h
 rw[au Yd rfl];unfold fW;rcases CM (p:=λw:W=>w.op==op) Q 0 with⟨h1,h2⟩ |⟨i,c,h1,h2,h3⟩
 .have h1:idx (λw:W=>w.op==op) 0 Q = -1:=h1
  rw[h1]at h;rw[h2];simp[HJ,h,qN,aJ,aA,sub,aE,back,az,aq,ak,cut,bt,an,V.aZ]
 .have h1:idx (λw:W=>w.op==op) 0 Q=(i:Int):=by have:=h1;simpa using this
  rw[h1]at h;rw[h3];have h4:¬((i:Int)<0):=by omega
  simp[HJ,h,h2,h4,qN,W.row,aJ,aA,sub,aE,back,az,aq,ak,cut,bt,an,V.aZ]
theorem yF(sz op:Int)(s:S)(Q:List W)(b:Option (List Int))(hn:Q.length<=1000000):
  ev P (.call Em [.loc 0 0 0,.d (I' op)] (hQ sz s Q b))=some (.val (.tu [.d (.ag (qN (fW op Q))),.d (.b (fW op Q).isSome)]) (hQ sz s Q b)):=by
 have hf:=arz false Q op hn;rw[au SF rfl];simp only[qD]at hf;unfold hQ;generalize fW op Q=f at *;cases f with
 |none =>
  simp only[qN,Aq]at hf⊢;cases b<;>simp[EY,bC,cK,hf,aJ,aA,sub,aE,back,az,aq,ak,cut,bt,an,V.aZ,br,aY,bg,aN,aO,bk,cI]
 |some w =>
  simp only[qN,GH,W.row]at hf⊢;cases b<;>simp[EY,bC,cK,hf,aJ,aA,sub,aE,back,az,aq,ak,cut,bt,an,V.aZ,br,aY,bg,aN,aO,bk,cI]
def hF(sz:Int)(s:S)(q:D)(Q0:List W)(b:Option (List Int))(l:List Wk):List O :=
 match b with
 |none=>[lS sz s (.d q) (.d (.sl 1 true [])) (.aR 2 0 l.length),.aG 5 false (Q0.map W.row),.aG 5 true (l.map Wk.row)]
 |some B=>[lS sz s (.d q) (.aR 2 0 B.length) (.aR 3 0 l.length),.aG 5 false (Q0.map W.row),.aG 1 true (bX B),.aG 5 true (l.map Wk.row)]
theorem JH(sz v:Int)(ok:Bool)(w:W)(s:S)(Q:List W)(b:Option (List Int))(hn:Q.length<=1000000):
  ev P (.call Cq [.loc 0 0 0,.d (.ag w.row),.d (I' v),.d (.b ok)] (hQ sz s Q b))=some (.val (.tu []) (hF sz s (qO (Q.filter λx=>x.task != w.task)) Q b [⟨w.task,w.op,v,ok,w.case⟩])):=by
 have hR:=aos false Q w.task hn;have hr:1<=room:=by decide
 rw[au Ya rfl];unfold hQ;obtain⟨b1,r1,e1⟩:∃b r,qO (Q.filter λx=>x.task != w.task) = .sl 5 b r:=⟨_,_,rfl⟩
 rw[e1]at hR⊢;simp only[qD]at hR;cases b<;>simp[MG,hF,W.row,Wk.row,bC,cK,hR,hr,aJ,aA,sub,aE,back,az,aq,ak,cut,bt,an,V.aZ,br,aY,bg,aN,aO,bk,cI]
def hG(sz:Int)(s:S)(q:D)(b:Option (Nat×List (List D)×Nat))(l:List Wk):List O :=
 match b with
 |none=>[lS sz s (.d q) (.d (.sl 1 true [])) (.aR 1 0 l.length),.aG 5 true (l.map Wk.row)]
 |some (o,R,n)=>[lS sz s (.d q) (.aR 1 o n) (.aR 2 0 l.length),.aG 1 true R,.aG 5 true (l.map Wk.row)]
def cF(s:S)(q b:V)(pk:Bool)(n:Int)(ok:Bool)(w:V):V :=
 .ag [.d (I' s.own),.d (I' s.cnt),.d (I' s.time),.d (hD s.hn s.H),q,b,.d (cD s.cn s.C),.d (.b s.cl),.d (I' s.val),.d (.b pk),.d (I' n),.d (.b ok),w]
def bG:Option (Nat×List (List D)×Nat)->V
 |none=>.d (.sl 1 true [])
 |some (o,_,n)=>.aR 1 o n
def wG(k:Nat):Option (Nat×List (List D)×Nat)->V
 |none=>.aR 1 0 k
 |some _=>.aR 2 0 k
theorem JI(sz n':Int)(ok:Bool)(s:S)(q:D)(b:Option (Nat×List (List D)×Nat))(a:Wk)(l:List Wk):
  ev P (.call uE [.loc 0 0 0,.d (I' n'),.d (.b ok)] (hG sz s q b (a::l)))=some (.val (cF s (.d q) (bG b) false n' ok (wG (l.length+1) b)) (hG sz s q b (a::l))):=by
 rw[au HQ rfl];rcases b with _ |⟨o,R,n⟩<;>simp[CE,hG,cF,bG,wG,aJ,aA,sub,aE,back,az,aq,ak,cut,bt,an,V.aZ,br,aY,bg,aN,aO]
def bF:Option (List Int)->Option (Nat×List (List D)×Nat)
 |none=>none
 |some B=>some (0,bX B,B.length)
def ew(s:S)(q:D)(b:Option (List Int))(pk:Bool)(n:Int)(ok:Bool)(k:Nat):V :=
 cF s (.d q) (bC 2 b) pk n ok (.aR (match b with |none=>2 |some _=>3) 0 k)
theorem arA(sz:Int)(s:S)(c:Cl)(Q:List W)(b:Option (List Int))(w:W)(hn:Q.length<=500)(hf:fW 65 Q=some w):
  ev P (.call yW [.loc 0 0 0,.d (.ag c.row)] (hQ sz s Q b))=some (.val (ew s (qO (Q.filter λx=>x.task != w.task)) b false 0 true 1) (hF sz s (qO (Q.filter λx=>x.task != w.task)) Q b [⟨w.task,w.op,c.value,true,w.case⟩])):=by
 have hw:=yF sz 65 s Q b (by omega)
 have hc:=JH sz c.value true w s Q b (by omega)
 have hd:=JI sz 0 true s (qO (Q.filter λx=>x.task != w.task)) (bF b) ⟨w.task,w.op,c.value,true,w.case⟩ []
 rw[hf]at hw;obtain⟨b1,r1,e1⟩:∃b r,qO (Q.filter λx=>x.task != w.task) = .sl 5 b r:=⟨_,_,rfl⟩
 rw[e1]at hc hd⊢;simp only[Cl.row,qN,W.row,GH]at *;rw[au HP rfl];cases b with
 |none =>
  simp[hQ,hF,hG,cF,bG,wG,bF,bC,cK,Wk.row]at hw hc hd;simp[uJ,hQ,hF,ew,cF,bC,cK,Wk.row,hw,hc,hd,aJ,aA,sub,aE,back,az,aq,ak,cut,bt,an,V.aZ,br,aY,bg,aN,aO]
 |some B =>
  simp[hQ,hF,hG,cF,bG,wG,bF,bC,cK,Wk.row]at hw hc hd;simp[uJ,hQ,hF,ew,cF,bC,cK,Wk.row,hw,hc,hd,aJ,aA,sub,aE,back,az,aq,ak,cut,bt,an,V.aZ,br,aY,bg,aN,aO]
end Go.VS.Sp
namespace Go.VS.Sp
def pB(v:Int)(Q:List W)(sz:Int)(s:S):Option (List Int)->List O
 |none=>[lS sz s (.aR 1 0 Q.length) (.aR 2 0 1) (.d (.sl 5 true [])),.aG 5 true (Q.map W.row),.aG 1 true [[I' v]]]
 |some B=>[lS sz s (.aR 1 0 Q.length) (.aR 3 0 (B.length+1)) (.d (.sl 5 true [])),.aG 5 true (Q.map W.row),.dead,.aG 1 true (bX B++[[I' v]])]
def pV(b:Option (List Int)):V :=
 match b with
 |none=>.aR 2 0 1
 |some B=>.aR 3 0 (B.length+1)
theorem arB(sz v:Int)(s:S)(Q:List W)(b:Option (List Int))(hb:∀B,b=some B->B.length<=500):
  ev P (.call Cr [.loc 0 0 0,.d (I' v)] (hQ sz s Q b))=some (.val (.tu []) (pB v Q sz s b)):=by
 have hr:1<=room:=by decide
 rw[au MY rfl];cases b with
 |none=>simp[CF,hQ,bC,cK,pB,hr,aJ,aA,sub,aE,back,az,aq,ak,cut,bt,an,V.aZ,br,aY,bg,aN,aO]
 |some B =>
  have h2:B.length<=(bX B).length:=by simp[bX]
  have h3:B.length+1<=room:=by have:=hb B rfl;unfold room;omega
  have h4:(bX B).take B.length=bX B:=gC (by simp[bX])
  have h5:¬B.length+1<=(bX B).length:=by simp[bX]
  simp[CF,hQ,bC,cK,pB,hr,h2,h3,h4,h5,aJ,aA,sub,aE,back,az,aq,ak,cut,bt,an,V.aZ,br,aY,bg,aN,aO,cz]
def kW(c:Cl):W:=⟨c.task,c.op,if c.op=64 then c.value else 0,c.prio,-1⟩
def kH(sz:Int)(s:S)(c:Cl)(Q:List W):Option (List Int)->List O
 |none=>[lS sz s (.aR 2 0 (Q.length+1)) (.d (.sl 1 true [])) (.d (.sl 5 true [])),.dead,.aG 5 true (Q.map W.row++[(kW c).row])]
 |some B=>[lS sz s (.aR 3 0 (Q.length+1)) (.aR 2 0 B.length) (.d (.sl 5 true [])),.dead,.aG 1 true (bX B),.aG 5 true (Q.map W.row++[(kW c).row])]
def kV(n:Nat):Option (List Int)->V
 |none=>.aR 2 0 (n+1)
 |some _=>.aR 3 0 (n+1)
theorem arC(sz:Int)(s:S)(c:Cl)(Q:List W)(b:Option (List Int))(hn:Q.length<=500):
  ev P (.call xM [.loc 0 0 0,.d (.ag c.row)] (hQ sz s Q b))=some (.val (cF s (kV Q.length b) (bC 2 b) true 0 false (.d (.sl 5 true []))) (kH sz s c Q b)):=by
 have h3:Q.length+1<=room:=by unfold room;omega
 rw[au SG rfl];cases h:c.op==64
 .have h':=h
  simp at h';cases b<;>simp[AR,hQ,bC,cK,kV,kH,kW,cF,W.row,Cl.row,h,h',h3,aJ,aA,sub,aE,back,az,aq,ak,cut,bt,an,V.aZ,br,aY,bg,aN,aO,bk,cz]
 .have h':=h
  simp at h';cases b<;>simp[AR,hQ,bC,cK,kV,kH,kW,cF,W.row,Cl.row,h',h3,aJ,aA,sub,aE,back,az,aq,ak,cut,bt,an,V.aZ,br,aY,bg,aN,aO,bk,cz]
theorem arD(sz n':Int)(ok:Bool)(s:S)(Q:List W)(d:D):
  ev P (.call uE [.loc 0 0 0,.d (I' n'),.d (.b ok)] [lS sz s (.aR 1 0 Q.length) (.d d) (.d (.sl 5 true [])),.aG 5 true (Q.map W.row)])=some (.val (cF s (.aR 1 0 Q.length) (.d d) false n' ok (.d (.sl 5 true []))) [lS sz s (.aR 1 0 Q.length) (.d d) (.d (.sl 5 true [])),.aG 5 true (Q.map W.row)]):=by
 rw[au HQ rfl];simp[CE,cF,aJ,aA,sub,aE,back,az,aq,ak,cut,bt,an,V.aZ,br,aY,bg,aN,aO]
theorem Gp(sz n':Int)(ok:Bool)(s:S)(Q:List W)(o n:Nat)(R:List (List D)):
  ev P (.call uE [.loc 0 0 0,.d (I' n'),.d (.b ok)] [lS sz s (.aR 1 0 Q.length) (.aR 2 o n) (.d (.sl 5 true [])),.aG 5 true (Q.map W.row),.aG 1 true R])=some (.val (cF s (.aR 1 0 Q.length) (.aR 2 o n) false n' ok (.d (.sl 5 true []))) [lS sz s (.aR 1 0 Q.length) (.aR 2 o n) (.d (.sl 5 true [])),.aG 5 true (Q.map W.row),.aG 1 true R]):=by
 rw[au HQ rfl];simp[CE,cF,aJ,aA,sub,aE,back,az,aq,ak,cut,bt,an,V.aZ,br,aY,bg,aN,aO]
theorem arE(sz:Int)(s:S)(c:Cl)(Q:List W)(b:Option (List Int))(hn:Q.length<=500)(hb:∀B,b=some B->B.length<=500)(hf:fW 65 Q=none)(hl:((b.getD []).length:Int)<sz):
  ev P (.call yW [.loc 0 0 0,.d (.ag c.row)] (hQ sz s Q b))=some (.val (cF s (.aR 1 0 Q.length) (pV b) false 0 true (.d (.sl 5 true []))) (pB c.value Q sz s b)):=by
 have hw:=yF sz 65 s Q b (by omega)
 have hp:=arB sz c.value s Q b hb;rw[hf]at hw;rw[au HP rfl];simp only[Cl.row,qN,Aq]at *;cases b with
 |none =>
  have hd:=Gp sz 0 true s Q 0 1 [[I' c.value]];simp[hQ,pB,bC,cK,cF]at hw hp hd hl;simp[uJ,hQ,pB,pV,cF,bC,cK,hw,hp,hd,hl,aJ,aA,sub,aE,back,az,aq,ak,cut,bt,an,V.aZ,br,aY,bg,aN,aO]
 |some B =>
  have hd:=Gp sz 0 true s Q 0 (B.length+1) (bX B++[[I' c.value]]);simp[hQ,pB,bC,cK,cF]at hw hp hd hl;simp[uJ,hQ,pB,pV,cF,bC,cK,hw,hp,hd,hl,aJ,aA,sub,aE,back,az,aq,ak,cut,bt,an,V.aZ,br,aY,bg,aN,aO]
theorem arF(sz:Int)(s:S)(c:Cl)(Q:List W)(b:Option (List Int))(hn:Q.length<=500)(hf:fW 65 Q=none)(hl:¬((b.getD []).length:Int)<sz):
  ev P (.call yW [.loc 0 0 0,.d (.ag c.row)] (hQ sz s Q b))=some (.val (cF s (kV Q.length b) (bC 2 b) true 0 false (.d (.sl 5 true []))) (kH sz s c Q b)):=by
 have hw:=yF sz 65 s Q b (by omega)
 have hp:=arC sz s c Q b hn;rw[hf]at hw;rw[au HP rfl];simp only[Cl.row,qN,Aq]at *;generalize (kW c).row=kr at *;cases b with
 |none =>
  simp[hQ,kH,kV,bC,cK,cF]at hw hp;have hl:¬(0:Int)<sz:=hl;simp[uJ,hQ,kH,kV,cF,bC,cK,hw,hp,hl,aJ,aA,sub,aE,back,az,aq,ak,cut,bt,an,V.aZ,br,aY,bg,aN,aO]
 |some B =>
  simp[hQ,kH,kV,bC,cK,cF]at hw hp;have hl:¬(B.length:Int)<sz:=hl;simp[uJ,hQ,kH,kV,cF,bC,cK,hw,hp,hl,aJ,aA,sub,aE,back,az,aq,ak,cut,bt,an,V.aZ,br,aY,bg,aN,aO]
theorem arG(sz:Int)(s:S)(c:Cl)(Q:List W)(x y:Int)(B:List Int)(hn:Q.length<=500)(hm:B.length<=500)(hf:fW 64 Q=none):
  ev P (.call pQ [.loc 0 0 0,.d (.ag c.row)] (hQ sz s Q (some (x::y::B))))=some (.val (cF s (.aR 1 0 Q.length) (.aR 2 1 (B.length+1)) false x true (.d (.sl 5 true []))) [lS sz s (.aR 1 0 Q.length) (.aR 2 1 (B.length+1)) (.d (.sl 5 true [])),.aG 5 true (Q.map W.row),.aG 1 true (bX (x::y::B))]):=by
 have hw:=yF sz 64 s Q (some (x::y::B)) (by omega)
 have hd:=Gp sz x true s Q 1 (B.length+1) (bX (x::y::B));rw[hf]at hw;rw[au vW rfl];simp only[Cl.row,qN,Aq]at *;have h1:(0:Int)<(B.length:Int)+1+1:=by omega
 have h2:(1:Int)<=(B.length:Int)+1+1:=by omega
 have h3:(1:Int)<(B.length:Int)+1+1:=by omega
 have h5:(B.length:Int)+1+1<=(B.length:Int)+1+1:=by omega
 have h6:((B.length:Int)+1+1).toNat - 1=B.length+1:=by omega
 simp[hQ,bC,cK,cF,bX]at hw hd;simp[oH,hQ,bC,cK,cF,bX,hw,hd,h1,h2,h3,h5,h6,aJ,aA,sub,aE,back,az,aq,ak,cut,bt,an,V.aZ,br,aY,bg,aN,aO]
theorem arH(sz:Int)(s:S)(c:Cl)(Q:List W)(x:Int)(hn:Q.length<=500)(hf:fW 64 Q=none):
  ev P (.call pQ [.loc 0 0 0,.d (.ag c.row)] (hQ sz s Q (some [x])))=some (.val (cF s (.aR 1 0 Q.length) (.aR 3 0 0) false x true (.d (.sl 5 true []))) [lS sz s (.aR 1 0 Q.length) (.aR 3 0 0) (.d (.sl 5 true [])),.aG 5 true (Q.map W.row),.dead,.aG 1 true []]):=by
 have hw:=yF sz 64 s Q (some [x]) (by omega)
 have hd:=Gp sz x true s Q 0 0 [];rw[hf]at hw;rw[au vW rfl];simp only[Cl.row,qN,Aq]at *;simp[hQ,bC,cK,cF,bX]at hw hd;simp[oH,hQ,bC,cK,cF,bX,hw,hd,aJ,aA,sub,aE,back,az,aq,ak,cut,bt,an,V.aZ,br,aY,bg,aN,aO]
theorem arI(sz v:Int)(s:S)(Q:List W)(x:List D)(R:List (List D))(n:Nat)(hR:R.length=n)(hn:n<=500):
  ev P (.call Cr [.loc 0 0 0,.d (I' v)] [lS sz s (.aR 1 0 Q.length) (.aR 2 1 n) (.d (.sl 5 true [])),.aG 5 true (Q.map W.row),.aG 1 true (x::R)]) =
   some (.val (.tu []) [lS sz s (.aR 1 0 Q.length) (.aR 3 0 (n+1)) (.d (.sl 5 true [])),.aG 5 true (Q.map W.row),.dead,.aG 1 true (R++[[I' v]])]):=by
 have h2:1+n<=R.length+1:=by omega
 have h3:n+1<=room:=by unfold room;omega
 have h4:R.take n=R:=gC (by omega)
 have h5:¬1+n+1<=R.length+1:=by omega
 have h6:¬1+(n+1)<=R.length+1:=by omega
 refine eqv λX hX=>?_
 rw[au MY rfl];simp[CF,h2,h3,h4,h5,h6,aJ,aA,sub,aE,back,az,aq,ak,cut,bt,an,V.aZ,br,aY,bg,aN,aO,cz];rw[<-hX]
theorem arJ(sz:Int)(s:S)(c:Cl)(Q:List W)(x y:Int)(B:List Int)(w:W)(hn:Q.length<=500)(hm:B.length<=400)(hf:fW 64 Q=some w):
  ev P (.call pQ [.loc 0 0 0,.d (.ag c.row)] (hQ sz s Q (some (x::y::B))))=some (.val (cF s (.d (qO (Q.filter λx=>x.task != w.task))) (.aR 3 0 (B.length+2)) false x true (.aR 4 0 1)) [lS sz s (.d (qO (Q.filter λx=>x.task != w.task))) (.aR 3 0 (B.length+2)) (.aR 4 0 1),.aG 5 false (Q.map W.row),.dead,.aG 1 true (bX (y::B++[w.value])),.aG 5 true [Wk.row ⟨w.task,w.op,0,true,w.case⟩]]):=by
 have hw:=yF sz 64 s Q (some (x::y::B)) (by omega)
 have hp:=arI sz w.value s Q [I' x] (bX (y::B)) (B.length+1) (by simp[bX]) (by omega)
 have hc:=JH sz 0 true w s Q (some (y::B++[w.value])) (by omega)
 have hd:=JI sz x true s (qO (Q.filter λx=>x.task != w.task)) (some (0,bX (y::B++[w.value]),B.length+2)) ⟨w.task,w.op,0,true,w.case⟩ []
 rw[hf]at hw;obtain⟨b1,r1,e1⟩:∃b r,qO (Q.filter λx=>x.task != w.task) = .sl 5 b r:=⟨_,_,rfl⟩
 rw[e1]at hc hd⊢;refine eqv λX hX=>?_
 rw[au vW rfl];simp only[Cl.row,qN,W.row,GH]at *;have h1:(0:Int)<(B.length:Int)+1+1:=by omega
 have h2:(1:Int)<=(B.length:Int)+1+1:=by omega
 have h3:(1:Int)<(B.length:Int)+1+1:=by omega
 have h6:((B.length:Int)+1+1).toNat - 1=B.length+1:=by omega
 simp[hQ,hF,hG,bC,cK,cF,bG,wG,bX,Wk.row]at hw hp hc hd;simp[oH,hQ,hF,bC,cK,cF,ew,bX,Wk.row,hw,hp,hc,hd,h1,h2,h3,h6,aJ,aA,sub,aE,back,az,aq,ak,cut,bt,an,V.aZ,br,aY,bg,aN,aO];rw[<-hX];simp[cF,bX,Wk.row]
theorem arK(sz:Int)(s:S)(c:Cl)(Q:List W)(x:Int)(w:W)(hn:Q.length<=500)(hf:fW 64 Q=some w):
  ev P (.call pQ [.loc 0 0 0,.d (.ag c.row)] (hQ sz s Q (some [x])))=some (.val (cF s (.d (qO (Q.filter λx=>x.task != w.task))) (.aR 3 0 1) false x true (.aR 4 0 1)) [lS sz s (.d (qO (Q.filter λx=>x.task != w.task))) (.aR 3 0 1) (.aR 4 0 1),.aG 5 false (Q.map W.row),.dead,.aG 1 true [[I' w.value]],.aG 5 true [Wk.row ⟨w.task,w.op,0,true,w.case⟩]]):=by
 have hw:=yF sz 64 s Q (some [x]) (by omega)
 have hp:=arB sz w.value s Q (some []) (λB h=>by simp at h;subst h;simp)
 have hc:=JH sz 0 true w s Q (some [w.value]) (by omega)
 have hd:=JI sz x true s (qO (Q.filter λx=>x.task != w.task)) (some (0,bX [w.value],1)) ⟨w.task,w.op,0,true,w.case⟩ []
 rw[hf]at hw;obtain⟨b1,r1,e1⟩:∃b r,qO (Q.filter λx=>x.task != w.task) = .sl 5 b r:=⟨_,_,rfl⟩
 rw[e1]at hc hd⊢;refine eqv λX hX=>?_
 rw[au vW rfl];simp only[Cl.row,qN,W.row,GH]at *;simp[hQ,hF,hG,bC,cK,pB,cF,bG,wG,bX,Wk.row]at hw hp hc hd;simp[oH,hQ,hF,bC,cK,cF,ew,bX,Wk.row,hw,hp,hc,hd,aJ,aA,sub,aE,back,az,aq,ak,cut,bt,an,V.aZ,br,aY,bg,aN,aO];rw[<-hX];simp[cF,bX,Wk.row]
theorem arL(sz:Int)(s:S)(c:Cl)(Q:List W)(b:Option (List Int))(w:W)(hn:Q.length<=500)(hb:b.getD []=[])(hf:fW 64 Q=some w):
  ev P (.call pQ [.loc 0 0 0,.d (.ag c.row)] (hQ sz s Q b))=some (.val (ew s (qO (Q.filter λx=>x.task != w.task)) b false w.value true 1) (hF sz s (qO (Q.filter λx=>x.task != w.task)) Q b [⟨w.task,w.op,0,true,w.case⟩])):=by
 have hw:=yF sz 64 s Q b (by omega)
 have hc:=JH sz 0 true w s Q b (by omega)
 have hd:=JI sz w.value true s (qO (Q.filter λx=>x.task != w.task)) (bF b) ⟨w.task,w.op,0,true,w.case⟩ []
 rw[hf]at hw;obtain⟨b1,r1,e1⟩:∃b r,qO (Q.filter λx=>x.task != w.task) = .sl 5 b r:=⟨_,_,rfl⟩
 rw[e1]at hc hd⊢;rw[au vW rfl];simp only[Cl.row,qN,W.row,GH]at *;cases b with
 |none =>
  simp[hQ,hF,hG,bC,cK,cF,bG,wG,bF,bX,Wk.row]at hw hc hd;simp[oH,hQ,hF,bC,cK,cF,ew,bX,Wk.row,hw,hc,hd,aJ,aA,sub,aE,back,az,aq,ak,cut,bt,an,V.aZ,br,aY,bg,aN,aO]
 |some B =>
  obtain rfl:B=[]:=hb;simp[hQ,hF,hG,bC,cK,cF,bG,wG,bF,bX,Wk.row]at hw hc hd;simp[oH,hQ,hF,bC,cK,cF,ew,bX,Wk.row,hw,hc,hd,aJ,aA,sub,aE,back,az,aq,ak,cut,bt,an,V.aZ,br,aY,bg,aN,aO]
theorem arM(sz:Int)(s:S)(c:Cl)(Q:List W)(b:Option (List Int))(hn:Q.length<=500)(hb:b.getD []=[])(hf:fW 64 Q=none)(bN:s.cl=true):
  ev P (.call pQ [.loc 0 0 0,.d (.ag c.row)] (hQ sz s Q b))=some (.val (cF s (.aR 1 0 Q.length) (bC 2 b) false 0 false (.d (.sl 5 true []))) (hQ sz s Q b)):=by
 have hw:=yF sz 64 s Q b (by omega)
 rw[hf]at hw;rw[au vW rfl];simp only[Cl.row,qN,Aq,hQ]at *;cases b with
 |none =>
  have hd:=arD sz 0 false s Q (.sl 1 true []);simp[bC,cK,cF,lS,bN]at hw hd;simp[oH,bC,cK,cF,bN,hw,hd,aJ,aA,sub,aE,back,az,aq,ak,cut,bt,an,V.aZ,br,aY,bg,aN,aO]
 |some B =>
  obtain rfl:B=[]:=hb;have hd:=Gp sz 0 false s Q 0 0 [];simp[bC,cK,cF,lS,bN]at hw hd;simp[oH,bC,cK,cF,bN,hw,hd,aJ,aA,sub,aE,back,az,aq,ak,cut,bt,an,V.aZ,br,aY,bg,aN,aO]
theorem arN(sz:Int)(s:S)(c:Cl)(Q:List W)(b:Option (List Int))(hn:Q.length<=500)(hb:b.getD []=[])(hf:fW 64 Q=none)(bN:s.cl=false):
  ev P (.call pQ [.loc 0 0 0,.d (.ag c.row)] (hQ sz s Q b))=some (.val (cF s (kV Q.length b) (bC 2 b) true 0 false (.d (.sl 5 true []))) (kH sz s c Q b)):=by
 have hw:=yF sz 64 s Q b (by omega)
 have hp:=arC sz s c Q b hn;rw[hf]at hw;rw[au vW rfl];generalize (kW c).row=kr at *;simp only[Cl.row,qN,Aq,hQ]at *;cases b with
 |none =>
  simp[kH,kV,bC,cK,cF,lS,bN]at hw hp;simp[oH,kH,kV,bC,cK,cF,bN,hw,hp,aJ,aA,sub,aE,back,az,aq,ak,cut,bt,an,V.aZ,br,aY,bg,aN,aO]
 |some B =>
  obtain rfl:B=[]:=hb;simp[kH,kV,bC,cK,cF,lS,bN]at hw hp;simp[oH,kH,kV,bC,cK,cF,bN,hw,hp,aJ,aA,sub,aE,back,az,aq,ak,cut,bt,an,V.aZ,br,aY,bg,aN,aO]
end Go.VS.Sp
namespace Go.VS.Sp
def hK(sz:Int)(s:S)(q:D)(b:Option (List Int))(l:List Wk):List O :=
 match b with
 |none=>[lS sz s (.d q) (.d (.sl 1 true [])) (.aR 2 0 l.length),.dead,.aG 5 true (l.map Wk.row)]
 |some B=>[lS sz s (.d q) (.aR 1 0 B.length) (.aR 3 0 l.length),.aG 1 true (bX B),.dead,.aG 5 true (l.map Wk.row)]
theorem arO(sz v:Int)(ok:Bool)(w:W)(s:S)(nl:Bool)(Q:List W)(b:Option (List Int))(a:Wk)(l:List Wk)(hn:Q.length<=1000000)(hl:l.length<=500):
  ev P (.call Cq [.loc 0 0 0,.d (.ag w.row),.d (I' v),.d (.b ok)] (hG sz s (qD nl Q) (bF b) (a::l)))=some (.val (.tu []) (hK sz s (qO (Q.filter λx=>x.task != w.task)) b ((a::l)++[⟨w.task,w.op,v,ok,w.case⟩]))):=by
 have hR:=aos nl Q w.task hn;have hr:l.length+1+1<=room:=by unfold room;omega
 rw[au Ya rfl];obtain⟨b1,r1,e1⟩:∃b r,qO (Q.filter λx=>x.task != w.task) = .sl 5 b r:=⟨_,_,rfl⟩
 rw[e1]at hR⊢;refine eqv λX hX=>?_
 simp only[qD]at hR;cases b<;>simp[hK,Wk.row]at hX<;>simp[MG,hG,bF,W.row,Wk.row,hR,hr,aJ,aA,sub,aE,back,az,aq,ak,cut,bt,an,V.aZ,br,aY,bg,aN,aO,bk,cI,cz]<;>exact hX
def hZ(sz:Int)(s:S)(q:D)(Q0:List W)(b:Option (List Int))(l:List Wk):List O :=
 match b with
 |none=>[lS sz s (.d q) (.d (.sl 1 true [])) (.aR 3 0 l.length),.aG 5 false (Q0.map W.row),.aG 13 true [om],.aG 5 true (l.map Wk.row)]
 |some B=>[lS sz s (.d q) (.aR 2 0 B.length) (.aR 4 0 l.length),.aG 5 false (Q0.map W.row),.aG 1 true (bX B),.aG 13 true [om],.aG 5 true (l.map Wk.row)]
def xp(w:W):Wk:=⟨w.task,w.op,0,false,w.case⟩
def ko:Nat->List W->List Wk
 |n+1,w::T=>xp w::ko n ((w::T).filter λx=>x.task != w.task)
 |_,_=>[]
theorem arP(w:W)(T:List W):((w::T).filter λx=>x.task != w.task).length<=T.length:=by
 rw[List.filter_cons_of_neg (by simp)]
 exact vw _ _
abbrev DT(b:Option (List Int)):Env:=[(0,.loc 0 0 0),(4,.loc (2+(cK b).length) 0 0)]
theorem arQ(sz:Int)(s:S)(Q0:List W)(b:Option (List Int)):∀(n:Nat)(Q:List W)(a:Wk)(l:List Wk),Q.length<=n->Q.length+l.length<=400 ->
  ev P (.loop (2+(cK b).length) [0,4] rC (DT b) (hZ sz s (qO Q) Q0 b (a::l)))=some (.out (.exit 0) (DT b) (hZ sz s (qO []) Q0 b ((a::l)++ko n Q))):=by
 intro n;induction n with
 |zero =>
  intro Q a l h1 h2;obtain rfl:Q=[]:=vA (by omega)
  rw[bS]
  conv=>lhs;arg 4;unfold rC
  cases b<;>simp[hZ,ko,qO,cK,aJ,aA,sub,aE,back,az,aq,ak,cut,bt,an,V.aZ,br,aY,bg,aN,aO]
 |succ n ih =>
  intro Q a l h1 h2;cases Q with
  |nil =>
   rw[bS]
   conv=>lhs;arg 4;unfold rC
   cases b<;>simp[hZ,ko,qO,cK,aJ,aA,sub,aE,back,az,aq,ak,cut,bt,an,V.aZ,br,aY,bg,aN,aO]
  |cons w T =>
   have hfl:=arP w T;simp only[iy]at h1 h2;have bB:=ih ((w::T).filter λx=>x.task != w.task) a (l++[xp w]) (by omega) (by rw[lT,uk];omega)
   have e:(a::l)++ko (n+1) (w::T)=(a::(l++[xp w]))++ko n ((w::T).filter λx=>x.task != w.task):=by simp[ko]
   rw[e];refine oA ?_ bB;clear bB ih e;have hc:=arO sz 0 false w s false (w::T) b a l (by simp;omega) (by omega)
   obtain⟨b1,r1,e1⟩:∃b r,qO ((w::T).filter λx=>x.task != w.task) = .sl 5 b r:=⟨_,_,rfl⟩
   rw[e1]at hc⊢;have hq:qO (w::T)=qD false (w::T):=rfl;rw[hq];have hlt:(0:Int)<(T.length:Int)+1:=by omega
   cases b with
   |none =>
    simp[hG,hK,bF,W.row,Wk.row]at hc;rw[bS]
    conv=>lhs;arg 4;unfold rC
    simp[hZ,cK,xp,W.row,Wk.row,hc,hlt,aJ,aA,sub,aE,back,az,aq,ak,cut,bt,an,V.aZ,br,aY,bg,aN,aO];rfl
   |some B =>
    simp[hG,hK,bF,W.row,Wk.row]at hc;rw[bS]
    conv=>lhs;arg 4;unfold rC
    simp[hZ,cK,xp,W.row,Wk.row,hc,hlt,aJ,aA,sub,aE,back,az,aq,ak,cut,bt,an,V.aZ,br,aY,bg,aN,aO];rfl
theorem arR(sz:Int)(s:S)(w:W)(T:List W)(b:Option (List Int))(hn:(w::T).length<=300):
  ev P (.loop (2+(cK b).length) [0,4] rC [(0,.loc 0 0 0),(4,.loc (2+(cK b).length) 0 0)] (hQ sz s (w::T) b++[.aG 13 true [om]]))=some (.out (.exit 0) (DT b) (hZ sz s (qO []) (w::T) b (ko (T.length+1) (w::T)))):=by
 have hfl:=arP w T;simp only[iy]at hn;have h1:=arQ sz s (w::T) b T.length ((w::T).filter λx=>x.task != w.task) (xp w) [] hfl (by rw[k9];omega)
 have e:[xp w]++ko T.length ((w::T).filter λx=>x.task != w.task)=ko (T.length+1) (w::T):=by simp[ko]
 rw[e]at h1;refine oA ?_ h1;clear h1 e;have hc:=JH sz 0 false w s (w::T) b (by simp;omega)
 obtain⟨b1,r1,e1⟩:∃b r,qO ((w::T).filter λx=>x.task != w.task) = .sl 5 b r:=⟨_,_,rfl⟩
 rw[e1]at hc⊢;have hlt:(0:Int)<(T.length:Int)+1:=by omega
 cases b with
 |none =>
  simp[hQ,hF,bC,cK,W.row,Wk.row]at hc;rw[bS]
  conv=>lhs;arg 4;unfold rC
  simp[hQ,hZ,bC,cK,xp,W.row,Wk.row,hc,hlt,aJ,aA,sub,aE,back,az,aq,ak,cut,bt,an,V.aZ,br,aY,bg,aN,aO];rfl
 |some B =>
  simp[hQ,hF,bC,cK,W.row,Wk.row]at hc;rw[bS]
  conv=>lhs;arg 4;unfold rC
  simp[hQ,hZ,bC,cK,xp,W.row,Wk.row,hc,hlt,aJ,aA,sub,aE,back,az,aq,ak,cut,bt,an,V.aZ,br,aY,bg,aN,aO];rfl
theorem arS(sz:Int)(s:S)(c:Cl)(w:W)(T:List W)(b:Option (List Int))(hn:(w::T).length<=300):
  ev P (.call AF [.loc 0 0 0,.d (.ag c.row)] (hQ sz s (w::T) b)) =
   some (.val (ew {s with cl:=true} (qO []) b false 0 true (ko (T.length+1) (w::T)).length) (hF sz {s with cl:=true} (qO []) (w::T) b (ko (T.length+1) (w::T)))):=by
 have hL:=arR sz {s with cl:=true} w T b (by omega)
 have e:∃a l,ko (T.length+1) (w::T)=a::l:=⟨_,_,rfl⟩;obtain⟨a,l,e⟩:=e;rw[e]at hL⊢;have hd:=JI sz 0 true {s with cl:=true} (qO []) (bF b) a l;refine eqv λX hX=>?_
 rw[au MW rfl];cases b with
 |none =>
  simp[hQ,hZ,bC,cK,qO,hG,bF,bG,wG,cF,W.row,Wk.row]at hL hd;simp[hF,ew,cF,bC,qO,W.row,Wk.row]at hX;simp[AP,hQ,bC,cK,Cl.row,W.row,hL,hd,aJ,aA,sub,aE,back,az,aq,ak,cut,bt,an,V.aZ,br,aY,bg,aN,aO];exact hX
 |some B =>
  simp[hQ,hZ,bC,cK,qO,hG,bF,bG,wG,cF,W.row,Wk.row]at hL hd;simp[hF,ew,cF,bC,qO,W.row,Wk.row]at hX;simp[AP,hQ,bC,cK,Cl.row,W.row,hL,hd,aJ,aA,sub,aE,back,az,aq,ak,cut,bt,an,V.aZ,br,aY,bg,aN,aO];exact hX
theorem arT(sz:Int)(s:S)(c:Cl)(b:Option (List Int)):
  ev P (.call AF [.loc 0 0 0,.d (.ag c.row)] (hQ sz s [] b))=some (.val (cF {s with cl:=true} (.aR 1 0 0) (bC 2 b) false 0 true (.d (.sl 5 true []))) (hQ sz {s with cl:=true} [] b)):=by
 have hL:∀H:List O,H=hQ sz {s with cl:=true} [] b++[.aG 13 true [om]]->ev P (.loop (2+(cK b).length) [0,4] rC (DT b) H)=some (.out (.exit 0) (DT b) H):=by
  intro H hH;subst hH;rw[bS]
  conv=>lhs;arg 4;unfold rC
  cases b<;>simp[hQ,bC,cK,aJ,aA,sub,aE,back,az,aq,ak,cut,bt,an,V.aZ,br,aY,bg,aN,aO]
 have hL:=hL _ rfl;refine eqv λX hX=>?_
 rw[au MW rfl];cases b with
 |none =>
  have hd:=arD sz 0 true {s with cl:=true} [] (.sl 1 true []);simp[hQ,bC,cK,cF,DT]at hL hd hX;simp[AP,hQ,bC,cK,Cl.row,hL,hd,aJ,aA,sub,aE,back,az,aq,ak,cut,bt,an,V.aZ,br,aY,bg,aN,aO];exact hX
 |some B =>
  have hd:=Gp sz 0 true {s with cl:=true} [] 0 B.length (bX B);simp[hQ,bC,cK,cF,DT]at hL hd hX;simp[AP,hQ,bC,cK,Cl.row,hL,hd,aJ,aA,sub,aE,back,az,aq,ak,cut,bt,an,V.aZ,br,aY,bg,aN,aO];exact hX
end Go.VS.Sp
namespace Go.VS.Sp
theorem arU(sz:Int)(s:S)(c:Cl)(Q:List W)(b:Option (List Int))(w:W)(hn:Q.length<=500)(hf:fW 65 Q=some w):
  ev P (.call AE [.loc 0 0 0,.d (.ag c.row)] (hQ sz s Q b))=some (.val (ew s (qO (Q.filter λx=>x.task != w.task)) b false 0 true 1) (hF sz s (qO (Q.filter λx=>x.task != w.task)) Q b [⟨w.task,w.op,c.value,true,w.case⟩])):=by
 have hS:=arA sz s c Q b w hn hf;obtain⟨b1,r1,e1⟩:∃b r,qO (Q.filter λx=>x.task != w.task) = .sl 5 b r:=⟨_,_,rfl⟩
 rw[e1]at hS⊢;refine eqv λX hX=>?_
 rw[au HO rfl];simp only[Cl.row]at *;cases b;all_goals
  simp[hQ,hF,ew,cF,pB,pV,kH,kV,bC,cK,bX,Wk.row]at hS hX;simp[y8,hQ,hF,ew,cF,pB,pV,kH,kV,bC,cK,bX,Wk.row,hS,aJ,aA,sub,aE,back,az,aq,ak,cut,bt,an,V.aZ,br,aY,bg,aN,aO,bk,cI,cz];exact hX
theorem arV(sz:Int)(s:S)(c:Cl)(Q:List W)(b:Option (List Int))(hn:Q.length<=500)(hb:∀B,b=some B->B.length<=500)(hf:fW 65 Q=none)(hl:((b.getD []).length:Int)<sz):
  ev P (.call AE [.loc 0 0 0,.d (.ag c.row)] (hQ sz s Q b))=some (.val (cF s (.aR 1 0 Q.length) (pV b) false 0 true (.d (.sl 5 true []))) (pB c.value Q sz s b)):=by
 have hS:=arE sz s c Q b hn hb hf hl;refine eqv λX hX=>?_
 rw[au HO rfl];simp only[Cl.row]at *;cases b;all_goals
  simp[hQ,hF,ew,cF,pB,pV,kH,kV,bC,cK,bX,Wk.row]at hS hX;simp[y8,hQ,hF,ew,cF,pB,pV,kH,kV,bC,cK,bX,Wk.row,hS,aJ,aA,sub,aE,back,az,aq,ak,cut,bt,an,V.aZ,br,aY,bg,aN,aO,bk,cI,cz];exact hX
theorem arW(sz:Int)(s:S)(c:Cl)(Q:List W)(b:Option (List Int))(hn:Q.length<=500)(hf:fW 65 Q=none)(hl:¬((b.getD []).length:Int)<sz):
  ev P (.call AE [.loc 0 0 0,.d (.ag c.row)] (hQ sz s Q b))=some (.val (cF s (kV Q.length b) (bC 2 b) true 0 false (.d (.sl 5 true []))) (kH sz s c Q b)):=by
 have hS:=arF sz s c Q b hn hf hl;refine eqv λX hX=>?_
 rw[au HO rfl];unfold kH at hS hX;generalize (kW c).row=kr at *;simp only[Cl.row]at *;cases b;all_goals
  simp[hQ,hF,ew,cF,pB,pV,kH,kV,bC,cK,bX,Wk.row]at hS hX;simp[y8,hQ,hF,ew,cF,pB,pV,kH,kV,bC,cK,bX,Wk.row,hS,aJ,aA,sub,aE,back,az,aq,ak,cut,bt,an,V.aZ,br,aY,bg,aN,aO,bk,cI,cz];exact hX
theorem arX(sz:Int)(s:S)(c:Cl)(Q:List W)(x y:Int)(B:List Int)(hn:Q.length<=500)(hm:B.length<=500)(hf:fW 64 Q=none):
  ev P (.call sw [.loc 0 0 0,.d (.ag c.row)] (hQ sz s Q (some (x::y::B))))=some (.val (cF s (.aR 1 0 Q.length) (.aR 2 1 (B.length+1)) false x true (.d (.sl 5 true []))) ([lS sz s (.aR 1 0 Q.length) (.aR 2 1 (B.length+1)) (.d (.sl 5 true [])),.aG 5 true (Q.map W.row),.aG 1 true (bX (x::y::B))])):=by
 have hS:=arG sz s c Q x y B hn hm hf;refine eqv λX hX=>?_
 rw[au vV rfl];simp only[Cl.row]at *
 skip
 all_goals
  simp[hQ,hF,ew,cF,pB,pV,kH,kV,bC,cK,bX,Wk.row]at hS hX;simp[rB,hQ,hF,ew,cF,pB,pV,kH,kV,bC,cK,bX,Wk.row,hS,aJ,aA,sub,aE,back,az,aq,ak,cut,bt,an,V.aZ,br,aY,bg,aN,aO,bk,cI,cz];exact hX
theorem arY(sz:Int)(s:S)(c:Cl)(Q:List W)(x:Int)(hn:Q.length<=500)(hf:fW 64 Q=none):
  ev P (.call sw [.loc 0 0 0,.d (.ag c.row)] (hQ sz s Q (some [x])))=some (.val (cF s (.aR 1 0 Q.length) (.aR 3 0 0) false x true (.d (.sl 5 true []))) ([lS sz s (.aR 1 0 Q.length) (.aR 3 0 0) (.d (.sl 5 true [])),.aG 5 true (Q.map W.row),.dead,.aG 1 true []])):=by
 have hS:=arH sz s c Q x hn hf;refine eqv λX hX=>?_
 rw[au vV rfl];simp only[Cl.row]at *
 skip
 all_goals
  simp[hQ,hF,ew,cF,pB,pV,kH,kV,bC,cK,bX,Wk.row]at hS hX;simp[rB,hQ,hF,ew,cF,pB,pV,kH,kV,bC,cK,bX,Wk.row,hS,aJ,aA,sub,aE,back,az,aq,ak,cut,bt,an,V.aZ,br,aY,bg,aN,aO,bk,cI,cz];exact hX
theorem arZ(sz:Int)(s:S)(c:Cl)(Q:List W)(x y:Int)(B:List Int)(w:W)(hn:Q.length<=500)(hm:B.length<=400)(hf:fW 64 Q=some w):
  ev P (.call sw [.loc 0 0 0,.d (.ag c.row)] (hQ sz s Q (some (x::y::B))))=some (.val (cF s (.d (qO (Q.filter λx=>x.task != w.task))) (.aR 3 0 (B.length+2)) false x true (.aR 4 0 1)) ([lS sz s (.d (qO (Q.filter λx=>x.task != w.task))) (.aR 3 0 (B.length+2)) (.aR 4 0 1),.aG 5 false (Q.map W.row),.dead,.aG 1 true (bX (y::B++[w.value])),.aG 5 true [Wk.row ⟨w.task,w.op,0,true,w.case⟩]])):=by
 have hS:=arJ sz s c Q x y B w hn hm hf;obtain⟨b1,r1,e1⟩:∃b r,qO (Q.filter λx=>x.task != w.task) = .sl 5 b r:=⟨_,_,rfl⟩
 rw[e1]at hS⊢;refine eqv λX hX=>?_
 rw[au vV rfl];simp only[Cl.row]at *
 skip
 all_goals
  simp[hQ,hF,ew,cF,pB,pV,kH,kV,bC,cK,bX,Wk.row]at hS hX;simp[rB,hQ,hF,ew,cF,pB,pV,kH,kV,bC,cK,bX,Wk.row,hS,aJ,aA,sub,aE,back,az,aq,ak,cut,bt,an,V.aZ,br,aY,bg,aN,aO,bk,cI,cz];exact hX
theorem ar0(sz:Int)(s:S)(c:Cl)(Q:List W)(x:Int)(w:W)(hn:Q.length<=500)(hf:fW 64 Q=some w):
  ev P (.call sw [.loc 0 0 0,.d (.ag c.row)] (hQ sz s Q (some [x])))=some (.val (cF s (.d (qO (Q.filter λx=>x.task != w.task))) (.aR 3 0 1) false x true (.aR 4 0 1)) ([lS sz s (.d (qO (Q.filter λx=>x.task != w.task))) (.aR 3 0 1) (.aR 4 0 1),.aG 5 false (Q.map W.row),.dead,.aG 1 true [[I' w.value]],.aG 5 true [Wk.row ⟨w.task,w.op,0,true,w.case⟩]])):=by
 have hS:=arK sz s c Q x w hn hf;obtain⟨b1,r1,e1⟩:∃b r,qO (Q.filter λx=>x.task != w.task) = .sl 5 b r:=⟨_,_,rfl⟩
 rw[e1]at hS⊢;refine eqv λX hX=>?_
 rw[au vV rfl];simp only[Cl.row]at *
 skip
 all_goals
  simp[hQ,hF,ew,cF,pB,pV,kH,kV,bC,cK,bX,Wk.row]at hS hX;simp[rB,hQ,hF,ew,cF,pB,pV,kH,kV,bC,cK,bX,Wk.row,hS,aJ,aA,sub,aE,back,az,aq,ak,cut,bt,an,V.aZ,br,aY,bg,aN,aO,bk,cI,cz];exact hX
theorem ar1(sz:Int)(s:S)(c:Cl)(Q:List W)(b:Option (List Int))(w:W)(hn:Q.length<=500)(hb:b.getD []=[])(hf:fW 64 Q=some w):
  ev P (.call sw [.loc 0 0 0,.d (.ag c.row)] (hQ sz s Q b))=some (.val (ew s (qO (Q.filter λx=>x.task != w.task)) b false w.value true 1) (hF sz s (qO (Q.filter λx=>x.task != w.task)) Q b [⟨w.task,w.op,0,true,w.case⟩])):=by
 have hS:=arL sz s c Q b w hn hb hf;obtain⟨b1,r1,e1⟩:∃b r,qO (Q.filter λx=>x.task != w.task) = .sl 5 b r:=⟨_,_,rfl⟩
 rw[e1]at hS⊢;refine eqv λX hX=>?_
 rw[au vV rfl];simp only[Cl.row]at *;cases b;all_goals
  simp[hQ,hF,ew,cF,pB,pV,kH,kV,bC,cK,bX,Wk.row]at hS hX;simp[rB,hQ,hF,ew,cF,pB,pV,kH,kV,bC,cK,bX,Wk.row,hS,aJ,aA,sub,aE,back,az,aq,ak,cut,bt,an,V.aZ,br,aY,bg,aN,aO,bk,cI,cz];exact hX
theorem ar2(sz:Int)(s:S)(c:Cl)(Q:List W)(b:Option (List Int))(hn:Q.length<=500)(hb:b.getD []=[])(hf:fW 64 Q=none)(bN:s.cl=true):
  ev P (.call sw [.loc 0 0 0,.d (.ag c.row)] (hQ sz s Q b))=some (.val (cF s (.aR 1 0 Q.length) (bC 2 b) false 0 false (.d (.sl 5 true []))) (hQ sz s Q b)):=by
 have hS:=arM sz s c Q b hn hb hf bN;refine eqv λX hX=>?_
 rw[au vV rfl];simp only[Cl.row]at *;cases b;all_goals
  simp[hQ,hF,ew,cF,pB,pV,kH,kV,bC,cK,bX,Wk.row]at hS hX;simp[rB,hQ,hF,ew,cF,pB,pV,kH,kV,bC,cK,bX,Wk.row,hS,aJ,aA,sub,aE,back,az,aq,ak,cut,bt,an,V.aZ,br,aY,bg,aN,aO,bk,cI,cz];exact hX
theorem ar3(sz:Int)(s:S)(c:Cl)(Q:List W)(b:Option (List Int))(hn:Q.length<=500)(hb:b.getD []=[])(hf:fW 64 Q=none)(bN:s.cl=false):
  ev P (.call sw [.loc 0 0 0,.d (.ag c.row)] (hQ sz s Q b))=some (.val (cF s (kV Q.length b) (bC 2 b) true 0 false (.d (.sl 5 true []))) (kH sz s c Q b)):=by
 have hS:=arN sz s c Q b hn hb hf bN;refine eqv λX hX=>?_
 rw[au vV rfl];unfold kH at hS hX;generalize (kW c).row=kr at *;simp only[Cl.row]at *;cases b;all_goals
  simp[hQ,hF,ew,cF,pB,pV,kH,kV,bC,cK,bX,Wk.row]at hS hX;simp[rB,hQ,hF,ew,cF,pB,pV,kH,kV,bC,cK,bX,Wk.row,hS,aJ,aA,sub,aE,back,az,aq,ak,cut,bt,an,V.aZ,br,aY,bg,aN,aO,bk,cI,cz];exact hX
theorem ar4(sz:Int)(s:S)(c:Cl)(w:W)(T:List W)(b:Option (List Int))(hn:(w::T).length<=300):
  ev P (.call Co [.loc 0 0 0,.d (.ag c.row)] (hQ sz s (w::T) b))=some (.val (ew {s with cl:=true} (qO []) b false 0 true (ko (T.length+1) (w::T)).length) (hF sz {s with cl:=true} (qO []) (w::T) b (ko (T.length+1) (w::T)))):=by
 have hS:=arS sz s c w T b hn;have hne:∃a l,ko (T.length+1) (w::T)=a::l:=⟨_,_,rfl⟩;obtain⟨a,l,hne⟩:=hne;rw[hne]at hS⊢;refine eqv λX hX=>?_
 rw[au MU rfl];simp only[Cl.row]at *;cases b;all_goals
  simp[hQ,hF,qO,W.row,ew,cF,pB,pV,kH,kV,bC,cK,bX,Wk.row]at hS hX;simp[ET,hQ,hF,qO,W.row,ew,cF,pB,pV,kH,kV,bC,cK,bX,Wk.row,hS,aJ,aA,sub,aE,back,az,aq,ak,cut,bt,an,V.aZ,br,aY,bg,aN,aO,bk,cI,cz];exact hX
theorem ar5(sz:Int)(s:S)(c:Cl)(b:Option (List Int)):
  ev P (.call Co [.loc 0 0 0,.d (.ag c.row)] (hQ sz s [] b))=some (.val (cF {s with cl:=true} (.aR 1 0 0) (bC 2 b) false 0 true (.d (.sl 5 true []))) (hQ sz {s with cl:=true} [] b)):=by
 have hS:=arT sz s c b;refine eqv λX hX=>?_
 rw[au MU rfl];simp only[Cl.row]at *;cases b;all_goals
  simp[hQ,hF,ew,cF,pB,pV,kH,kV,bC,cK,bX,Wk.row,lS]at hS hX;simp[ET,hQ,hF,ew,cF,pB,pV,kH,kV,bC,cK,bX,Wk.row,hS,aJ,aA,sub,aE,back,az,aq,ak,cut,bt,an,V.aZ,br,aY,bg,aN,aO,bk,cI,cz];exact hX
end Go.VS.Sp
namespace Go.VS.Sp
theorem JJ{s:S}(hw:s.wf):(jt s).getD []=s.B:=by
 unfold jt;cases h:s.bn
 .rfl
 .rw[aK rfl,hw.b h];rfl
theorem ar6{s:S}(hm:s.B.length<=250):∀B,jt s=some B->B.length<=500:=by
 intro B h;unfold jt at h;split at h
 .cases h
 .simp at h;rw[<-h];omega
set_option maxHeartbeats 4000000 in
theorem ar7(nm:D)(k sz ot:Int)(s:S)(c:Cl)(hw:s.wf)(hq:s.qn=false)(hn:s.Q.length<=250)(hm:s.B.length<=250)(bZ:ev P (.call gp [.d (.ag [nm,I' k,I' sz,I' ot]),.d (.ag s.row)] [])=some (.val (.d (I' 0)) []))(hb:cG c=false)(ht:gQ s c.task=false)(ho:c.op=64)(mN:num c.value=true)(bN:s.cl=false)(w:W)(hf:fW 65 s.Q=some w):
  ev P (.call iP [.d (.ag [nm,I' k,I' sz,I' ot]),.d (.ag s.row),.d (.ag c.row)] [])=some (.val (.tu [.d (.ag (Ry.row ⟨{s with qn:=decide ((s.Q.filter λx=>x.task != w.task)=[]),Q:=(s.Q.filter λx=>x.task != w.task)},false,0,true,false,[⟨w.task,w.op,c.value,true,w.case⟩]⟩)),.d (I' 0)]) []):=by
 obtain⟨fi,dn⟩:=qg s c.task (by omega)
 rw[ht]at dn;have hop:=kQ;have hcb:=kT c;rw[hb]at hcb;have cP:=vm nm k sz ot s hw hq (by omega) (by omega)
 have o:=arU sz s c s.Q (jt s) w (by omega) hf
 obtain⟨b1,r1,e1⟩:∃b r,qO (s.Q.filter λx=>x.task != w.task) = .sl 5 b r:=⟨_,_,rfl⟩
 have e2:qD (decide ((s.Q.filter λx=>x.task != w.task)=[])) (s.Q.filter λx=>x.task != w.task) = .sl 5 b1 r1:=e1
 rw[e1]at o;simp only[Ry.row,e2];rw[au j8 rfl];simp only[S.row,Cl.row,Ry.row,hq,bN,ho]at bZ dn hcb cP o⊢;unfold jt at cP o;cases cJ:s.bn;all_goals
  rw[cJ]at cP o;simp only[cJ]at bZ⊢;simp[hQ,hF,ew,cF,pB,pV,kH,kV,bC,cK,bX,Wk.row,W.row,lS,bN,ho]at cP o;simp[jk, jY,jZ,kR,hQ,hF,ew,cF,pB,pV,kH,kV,bC,cK,bX,Wk.row,W.row,lS,bN,mN,bZ,dn,hop,hcb,cP,o,aJ,aA,sub,aE,back,az,aq,ak,cut,bt,an,V.aZ,br,aY,bg,aN,aO,bk,cI,cz,o9];try exact hw.b cJ
set_option maxHeartbeats 4000000 in
theorem ar8(nm:D)(k sz ot:Int)(s:S)(c:Cl)(hw:s.wf)(hq:s.qn=false)(hn:s.Q.length<=250)(hm:s.B.length<=250)(bZ:ev P (.call gp [.d (.ag [nm,I' k,I' sz,I' ot]),.d (.ag s.row)] [])=some (.val (.d (I' 0)) []))(hb:cG c=false)(ht:gQ s c.task=false)(ho:c.op=64)(mN:num c.value=true)(bN:s.cl=false)(hf:fW 65 s.Q=none)(hl:(s.B.length:Int)<sz):
  ev P (.call iP [.d (.ag [nm,I' k,I' sz,I' ot]),.d (.ag s.row),.d (.ag c.row)] [])=some (.val (.tu [.d (.ag (Ry.row ⟨{s with bn:=false,B:=s.B++[c.value]},false,0,true,true,[]⟩)),.d (I' 0)]) []):=by
 obtain⟨fi,dn⟩:=qg s c.task (by omega)
 rw[ht]at dn;have hop:=kQ;have hcb:=kT c;rw[hb]at hcb;have cP:=vm nm k sz ot s hw hq (by omega) (by omega)
 have o:=arV sz s c s.Q (jt s) (by omega) (ar6 hm) hf (by rw[JJ hw];exact hl)
 rw[au j8 rfl];simp only[S.row,Cl.row,Ry.row,hq,bN,ho]at bZ dn hcb cP o⊢;unfold jt at cP o;cases cJ:s.bn;all_goals
  rw[cJ]at cP o;simp only[cJ]at bZ⊢;simp[hQ,hF,ew,cF,pB,pV,kH,kV,bC,cK,bX,Wk.row,W.row,lS,bN,ho]at cP o;simp[jk, jY,jZ,kR,hQ,hF,ew,cF,pB,pV,kH,kV,bC,cK,bX,Wk.row,W.row,lS,bN,mN,bZ,dn,hop,hcb,cP,o,aJ,aA,sub,aE,back,az,aq,ak,cut,bt,an,V.aZ,br,aY,bg,aN,aO,bk,cI,cz,o9];try exact hw.b cJ
set_option maxHeartbeats 4000000 in
theorem ar9(nm:D)(k sz ot:Int)(s:S)(c:Cl)(hw:s.wf)(hq:s.qn=false)(hn:s.Q.length<=250)(hm:s.B.length<=250)(bZ:ev P (.call gp [.d (.ag [nm,I' k,I' sz,I' ot]),.d (.ag s.row)] [])=some (.val (.d (I' 0)) []))(hb:cG c=false)(ht:gQ s c.task=false)(ho:c.op=64)(mN:num c.value=true)(bN:s.cl=false)(hf:fW 65 s.Q=none)(hl:¬(s.B.length:Int)<sz):
  ev P (.call iP [.d (.ag [nm,I' k,I' sz,I' ot]),.d (.ag s.row),.d (.ag c.row)] [])=some (.val (.tu [.d (.ag (Ry.row ⟨{s with qn:=false,Q:=s.Q++[kW c]},true,0,false,true,[]⟩)),.d (I' 0)]) []):=by
 obtain⟨fi,dn⟩:=qg s c.task (by omega)
 rw[ht]at dn;have hop:=kQ;have hcb:=kT c;rw[hb]at hcb;have cP:=vm nm k sz ot s hw hq (by omega) (by omega)
 have o:=arW sz s c s.Q (jt s) (by omega) hf (by rw[JJ hw];exact hl)
 rw[au j8 rfl];unfold kH at o;have hk:(kW c).row=[I' c.task,I' c.op,I' (if c.op=64 then c.value else 0),I' c.prio,I' (-1)]:=rfl
 rw[hk]at o;simp only[S.row,Cl.row,Ry.row,hq,bN,ho]at bZ dn hcb cP o⊢;unfold jt at cP o;cases cJ:s.bn;all_goals
  rw[cJ]at cP o;simp only[cJ]at bZ⊢;simp[hQ,hF,ew,cF,pB,pV,kH,kV,bC,cK,bX,Wk.row,W.row,lS,kW,bN,ho]at cP o;simp[jk, jY,jZ,kR,hQ,hF,ew,cF,pB,pV,kH,kV,bC,cK,bX,Wk.row,W.row,lS,kW,bN,mN,bZ,dn,hop,hcb,cP,o,aJ,aA,sub,aE,back,az,aq,ak,cut,bt,an,V.aZ,br,aY,bg,aN,aO,bk,cI,cz,o9];try exact hw.b cJ
  try simp[ho]
  try exact hw.b cJ
set_option maxHeartbeats 4000000 in
theorem asa(nm:D)(k sz ot:Int)(s:S)(c:Cl)(hw:s.wf)(hq:s.qn=false)(hn:s.Q.length<=250)(hm:s.B.length<=250)(bZ:ev P (.call gp [.d (.ag [nm,I' k,I' sz,I' ot]),.d (.ag s.row)] [])=some (.val (.d (I' 0)) []))(hb:cG c=false)(ht:gQ s c.task=false)(ho:c.op=65)(x y:Int)(B:List Int)(hB:s.B=x::y::B)(hf:fW 64 s.Q=none):
  ev P (.call iP [.d (.ag [nm,I' k,I' sz,I' ot]),.d (.ag s.row),.d (.ag c.row)] [])=some (.val (.tu [.d (.ag (Ry.row ⟨{s with B:=y::B},false,x,true,true,[]⟩)),.d (I' 0)]) []):=by
 obtain⟨fi,dn⟩:=qg s c.task (by omega)
 rw[ht]at dn;have hop:=kQ;have hcb:=kT c;rw[hb]at hcb;have cP:=vm nm k sz ot s hw hq (by omega) (by omega)
 have o:=arX sz s c s.Q x y B (by omega) (by rw[hB]at hm;simp at hm;omega) hf
 have cJ:s.bn=false:=by
  cases h:s.bn
  .rfl
  .have:=hw.b h;rw[hB]at this;simp at this
 have zO:jt s=some s.B:=by unfold jt;rw[cJ,aD (by simp)]
 rw[zO]at cP;rw[au j8 rfl];simp only[S.row,Cl.row,Ry.row,hq,hB,cJ,ho]at bZ dn hcb cP o⊢;simp[hQ,hF,ew,cF,pB,pV,kH,kV,bC,cK,bX,Wk.row,W.row,lS,hB,ho]at cP o;have h9:1+(B.length+1)<=B.length+1+1:=by omega
 simp[jk,h9, jY,jZ,kR,hQ,hF,ew,cF,pB,pV,kH,kV,bC,cK,bX,Wk.row,W.row,lS,hB,bZ,dn,hop,hcb,cP,o,aJ,aA,sub,aE,back,az,aq,ak,cut,bt,an,V.aZ,br,aY,bg,aN,aO,bk,cI,cz,o9]
set_option maxHeartbeats 4000000 in
theorem asb(nm:D)(k sz ot:Int)(s:S)(c:Cl)(hw:s.wf)(hq:s.qn=false)(hn:s.Q.length<=250)(hm:s.B.length<=250)(bZ:ev P (.call gp [.d (.ag [nm,I' k,I' sz,I' ot]),.d (.ag s.row)] [])=some (.val (.d (I' 0)) []))(hb:cG c=false)(ht:gQ s c.task=false)(ho:c.op=65)(x:Int)(hB:s.B=[x])(hf:fW 64 s.Q=none):
  ev P (.call iP [.d (.ag [nm,I' k,I' sz,I' ot]),.d (.ag s.row),.d (.ag c.row)] [])=some (.val (.tu [.d (.ag (Ry.row ⟨{s with B:=[]},false,x,true,true,[]⟩)),.d (I' 0)]) []):=by
 obtain⟨fi,dn⟩:=qg s c.task (by omega)
 rw[ht]at dn;have hop:=kQ;have hcb:=kT c;rw[hb]at hcb;have cP:=vm nm k sz ot s hw hq (by omega) (by omega)
 have o:=arY sz s c s.Q x (by omega) hf
 have cJ:s.bn=false:=by
  cases h:s.bn
  .rfl
  .have:=hw.b h;rw[hB]at this;simp at this
 have zO:jt s=some s.B:=by unfold jt;rw[cJ,aD (by simp)]
 rw[zO]at cP;rw[au j8 rfl];simp only[S.row,Cl.row,Ry.row,hq,hB,cJ,ho]at bZ dn hcb cP o⊢;simp[hQ,hF,ew,cF,pB,pV,kH,kV,bC,cK,bX,Wk.row,W.row,lS,hB,ho]at cP o;simp[jk, jY,jZ,kR,hQ,hF,ew,cF,pB,pV,kH,kV,bC,cK,bX,Wk.row,W.row,lS,hB,bZ,dn,hop,hcb,cP,o,aJ,aA,sub,aE,back,az,aq,ak,cut,bt,an,V.aZ,br,aY,bg,aN,aO,bk,cI,cz,o9]
set_option maxHeartbeats 4000000 in
theorem asd(nm:D)(k sz ot:Int)(s:S)(c:Cl)(hw:s.wf)(hq:s.qn=false)(hn:s.Q.length<=250)(hm:s.B.length<=250)(bZ:ev P (.call gp [.d (.ag [nm,I' k,I' sz,I' ot]),.d (.ag s.row)] [])=some (.val (.d (I' 0)) []))(hb:cG c=false)(ht:gQ s c.task=false)(ho:c.op=65)(x y:Int)(B:List Int)(w:W)(hB:s.B=x::y::B)(hf:fW 64 s.Q=some w):
  ev P (.call iP [.d (.ag [nm,I' k,I' sz,I' ot]),.d (.ag s.row),.d (.ag c.row)] [])=some (.val (.tu [.d (.ag (Ry.row ⟨{s with B:=y::B++[w.value],qn:=decide ((s.Q.filter λx=>x.task != w.task)=[]),Q:=(s.Q.filter λx=>x.task != w.task)},false,x,true,false,[⟨w.task,w.op,0,true,w.case⟩]⟩)),.d (I' 0)]) []):=by
 obtain⟨fi,dn⟩:=qg s c.task (by omega)
 rw[ht]at dn;have hop:=kQ;have hcb:=kT c;rw[hb]at hcb;have cP:=vm nm k sz ot s hw hq (by omega) (by omega)
 have o:=arZ sz s c s.Q x y B w (by omega) (by rw[hB]at hm;simp at hm;omega) hf
 have cJ:s.bn=false:=by
  cases h:s.bn
  .rfl
  .have:=hw.b h;rw[hB]at this;simp at this
 have zO:jt s=some s.B:=by unfold jt;rw[cJ,aD (by simp)]
 rw[zO]at cP;obtain⟨b1,r1,e1⟩:∃b r,qO (s.Q.filter λx=>x.task != w.task) = .sl 5 b r:=⟨_,_,rfl⟩
 have e2:qD (decide ((s.Q.filter λx=>x.task != w.task)=[])) (s.Q.filter λx=>x.task != w.task) = .sl 5 b1 r1:=e1
 rw[e1]at o;simp only[Ry.row,e2];rw[au j8 rfl];simp only[S.row,Cl.row,Ry.row,hq,hB,cJ,ho]at bZ dn hcb cP o⊢;simp[hQ,hF,ew,cF,pB,pV,kH,kV,bC,cK,bX,Wk.row,W.row,lS,hB,ho]at cP o;simp[jk, jY,jZ,kR,hQ,hF,ew,cF,pB,pV,kH,kV,bC,cK,bX,Wk.row,W.row,lS,hB,bZ,dn,hop,hcb,cP,o,aJ,aA,sub,aE,back,az,aq,ak,cut,bt,an,V.aZ,br,aY,bg,aN,aO,bk,cI,cz,o9]
set_option maxHeartbeats 4000000 in
theorem ase(nm:D)(k sz ot:Int)(s:S)(c:Cl)(hw:s.wf)(hq:s.qn=false)(hn:s.Q.length<=250)(hm:s.B.length<=250)(bZ:ev P (.call gp [.d (.ag [nm,I' k,I' sz,I' ot]),.d (.ag s.row)] [])=some (.val (.d (I' 0)) []))(hb:cG c=false)(ht:gQ s c.task=false)(ho:c.op=65)(x:Int)(w:W)(hB:s.B=[x])(hf:fW 64 s.Q=some w):
  ev P (.call iP [.d (.ag [nm,I' k,I' sz,I' ot]),.d (.ag s.row),.d (.ag c.row)] [])=some (.val (.tu [.d (.ag (Ry.row ⟨{s with B:=[w.value],qn:=decide ((s.Q.filter λx=>x.task != w.task)=[]),Q:=(s.Q.filter λx=>x.task != w.task)},false,x,true,false,[⟨w.task,w.op,0,true,w.case⟩]⟩)),.d (I' 0)]) []):=by
 obtain⟨fi,dn⟩:=qg s c.task (by omega)
 rw[ht]at dn;have hop:=kQ;have hcb:=kT c;rw[hb]at hcb;have cP:=vm nm k sz ot s hw hq (by omega) (by omega)
 have o:=ar0 sz s c s.Q x w (by omega) hf
 have cJ:s.bn=false:=by
  cases h:s.bn
  .rfl
  .have:=hw.b h;rw[hB]at this;simp at this
 have zO:jt s=some s.B:=by unfold jt;rw[cJ,aD (by simp)]
 rw[zO]at cP;obtain⟨b1,r1,e1⟩:∃b r,qO (s.Q.filter λx=>x.task != w.task) = .sl 5 b r:=⟨_,_,rfl⟩
 have e2:qD (decide ((s.Q.filter λx=>x.task != w.task)=[])) (s.Q.filter λx=>x.task != w.task) = .sl 5 b1 r1:=e1
 rw[e1]at o;simp only[Ry.row,e2];rw[au j8 rfl];simp only[S.row,Cl.row,Ry.row,hq,hB,cJ,ho]at bZ dn hcb cP o⊢;simp[hQ,hF,ew,cF,pB,pV,kH,kV,bC,cK,bX,Wk.row,W.row,lS,hB,ho]at cP o;simp[jk, jY,jZ,kR,hQ,hF,ew,cF,pB,pV,kH,kV,bC,cK,bX,Wk.row,W.row,lS,hB,bZ,dn,hop,hcb,cP,o,aJ,aA,sub,aE,back,az,aq,ak,cut,bt,an,V.aZ,br,aY,bg,aN,aO,bk,cI,cz,o9]
set_option maxHeartbeats 4000000 in
theorem asf(nm:D)(k sz ot:Int)(s:S)(c:Cl)(hw:s.wf)(hq:s.qn=false)(hn:s.Q.length<=250)(hm:s.B.length<=250)(bZ:ev P (.call gp [.d (.ag [nm,I' k,I' sz,I' ot]),.d (.ag s.row)] [])=some (.val (.d (I' 0)) []))(hb:cG c=false)(ht:gQ s c.task=false)(ho:c.op=65)(w:W)(hB:s.B=[])(hf:fW 64 s.Q=some w):
  ev P (.call iP [.d (.ag [nm,I' k,I' sz,I' ot]),.d (.ag s.row),.d (.ag c.row)] [])=some (.val (.tu [.d (.ag (Ry.row ⟨{s with qn:=decide ((s.Q.filter λx=>x.task != w.task)=[]),Q:=(s.Q.filter λx=>x.task != w.task)},false,w.value,true,false,[⟨w.task,w.op,0,true,w.case⟩]⟩)),.d (I' 0)]) []):=by
 obtain⟨fi,dn⟩:=qg s c.task (by omega)
 rw[ht]at dn;have hop:=kQ;have hcb:=kT c;rw[hb]at hcb;have cP:=vm nm k sz ot s hw hq (by omega) (by omega)
 have o:=ar1 sz s c s.Q (jt s) w (by omega) (by rw[JJ hw];exact hB) hf
 obtain⟨b1,r1,e1⟩:∃b r,qO (s.Q.filter λx=>x.task != w.task) = .sl 5 b r:=⟨_,_,rfl⟩
 have e2:qD (decide ((s.Q.filter λx=>x.task != w.task)=[])) (s.Q.filter λx=>x.task != w.task) = .sl 5 b1 r1:=e1
 rw[e1]at o;simp only[Ry.row,e2];rw[au j8 rfl];simp only[S.row,Cl.row,Ry.row,hq,hB,ho]at bZ dn hcb cP o⊢;unfold jt at cP o;cases cJ:s.bn;all_goals
  rw[cJ]at cP o;simp only[cJ]at bZ⊢;simp[hQ,hF,ew,cF,pB,pV,kH,kV,bC,cK,bX,Wk.row,W.row,lS,hB,ho]at cP o;simp[jk, jY,jZ,kR,hQ,hF,ew,cF,pB,pV,kH,kV,bC,cK,bX,Wk.row,W.row,lS,hB,bZ,dn,hop,hcb,cP,o,aJ,aA,sub,aE,back,az,aq,ak,cut,bt,an,V.aZ,br,aY,bg,aN,aO,bk,cI,cz,o9];try exact hw.b cJ
set_option maxHeartbeats 4000000 in
theorem asg(nm:D)(k sz ot:Int)(s:S)(c:Cl)(hw:s.wf)(hq:s.qn=false)(hn:s.Q.length<=250)(hm:s.B.length<=250)(bZ:ev P (.call gp [.d (.ag [nm,I' k,I' sz,I' ot]),.d (.ag s.row)] [])=some (.val (.d (I' 0)) []))(hb:cG c=false)(ht:gQ s c.task=false)(ho:c.op=65)(hB:s.B=[])(hf:fW 64 s.Q=none)(bN:s.cl=true):
  ev P (.call iP [.d (.ag [nm,I' k,I' sz,I' ot]),.d (.ag s.row),.d (.ag c.row)] [])=some (.val (.tu [.d (.ag (Ry.row ⟨s,false,0,false,true,[]⟩)),.d (I' 0)]) []):=by
 obtain⟨fi,dn⟩:=qg s c.task (by omega)
 rw[ht]at dn;have hop:=kQ;have hcb:=kT c;rw[hb]at hcb;have cP:=vm nm k sz ot s hw hq (by omega) (by omega)
 have o:=ar2 sz s c s.Q (jt s) (by omega) (by rw[JJ hw];exact hB) hf bN
 rw[au j8 rfl];simp only[S.row,Cl.row,Ry.row,hq,hB,bN,ho]at bZ dn hcb cP o⊢;unfold jt at cP o;cases cJ:s.bn;all_goals
  rw[cJ]at cP o;simp only[cJ]at bZ⊢;simp[hQ,hF,ew,cF,pB,pV,kH,kV,bC,cK,bX,Wk.row,W.row,lS,hB,bN,ho]at cP o;simp[jk, jY,jZ,kR,hQ,hF,ew,cF,pB,pV,kH,kV,bC,cK,bX,Wk.row,W.row,lS,hB,bN,bZ,dn,hop,hcb,cP,o,aJ,aA,sub,aE,back,az,aq,ak,cut,bt,an,V.aZ,br,aY,bg,aN,aO,bk,cI,cz,o9];try exact hw.b cJ
set_option maxHeartbeats 4000000 in
theorem ash(nm:D)(k sz ot:Int)(s:S)(c:Cl)(hw:s.wf)(hq:s.qn=false)(hn:s.Q.length<=250)(hm:s.B.length<=250)(bZ:ev P (.call gp [.d (.ag [nm,I' k,I' sz,I' ot]),.d (.ag s.row)] [])=some (.val (.d (I' 0)) []))(hb:cG c=false)(ht:gQ s c.task=false)(ho:c.op=65)(hB:s.B=[])(hf:fW 64 s.Q=none)(bN:s.cl=false):
  ev P (.call iP [.d (.ag [nm,I' k,I' sz,I' ot]),.d (.ag s.row),.d (.ag c.row)] [])=some (.val (.tu [.d (.ag (Ry.row ⟨{s with qn:=false,Q:=s.Q++[kW c]},true,0,false,true,[]⟩)),.d (I' 0)]) []):=by
 obtain⟨fi,dn⟩:=qg s c.task (by omega)
 rw[ht]at dn;have hop:=kQ;have hcb:=kT c;rw[hb]at hcb;have cP:=vm nm k sz ot s hw hq (by omega) (by omega)
 have o:=ar3 sz s c s.Q (jt s) (by omega) (by rw[JJ hw];exact hB) hf bN
 rw[au j8 rfl];unfold kH at o;have hk:(kW c).row=[I' c.task,I' c.op,I' (if c.op=64 then c.value else 0),I' c.prio,I' (-1)]:=rfl
 rw[hk]at o;simp only[S.row,Cl.row,Ry.row,hq,hB,bN,ho]at bZ dn hcb cP o⊢;unfold jt at cP o;cases cJ:s.bn;all_goals
  rw[cJ]at cP o;simp only[cJ]at bZ⊢;simp[hQ,hF,ew,cF,pB,pV,kH,kV,bC,cK,bX,Wk.row,W.row,lS,kW,hB,bN,ho]at cP o;simp[jk, jY,jZ,kR,hQ,hF,ew,cF,pB,pV,kH,kV,bC,cK,bX,Wk.row,W.row,lS,kW,hB,bN,bZ,dn,hop,hcb,cP,o,aJ,aA,sub,aE,back,az,aq,ak,cut,bt,an,V.aZ,br,aY,bg,aN,aO,bk,cI,cz,o9];try exact hw.b cJ
  try simp[ho]
  try exact hw.b cJ
set_option maxHeartbeats 4000000 in
theorem asi(nm:D)(k sz ot:Int)(s:S)(c:Cl)(hw:s.wf)(hq:s.qn=false)(hn:s.Q.length<=250)(hm:s.B.length<=250)(bZ:ev P (.call gp [.d (.ag [nm,I' k,I' sz,I' ot]),.d (.ag s.row)] [])=some (.val (.d (I' 0)) []))(hb:cG c=false)(ht:gQ s c.task=false)(ho:c.op=66)(bN:s.cl=false)(w:W)(T:List W)(BP:s.Q=w::T):
  ev P (.call iP [.d (.ag [nm,I' k,I' sz,I' ot]),.d (.ag s.row),.d (.ag c.row)] [])=some (.val (.tu [.d (.ag (Ry.row ⟨{s with cl:=true,qn:=true,Q:=[]},false,0,true,false,ko (T.length+1) (w::T)⟩)),.d (I' 0)]) []):=by
 obtain⟨fi,dn⟩:=qg s c.task (by omega)
 rw[ht]at dn;have hop:=kQ;have hcb:=kT c;rw[hb]at hcb;have cP:=vm nm k sz ot s hw hq (by omega) (by omega)
 have o:=ar4 sz s c w T (jt s) (by rw[BP]at hn;simp at hn⊢;omega)
 have hne:∃a l,ko (T.length+1) (w::T)=a::l:=⟨_,_,rfl⟩;obtain⟨a,l,hne⟩:=hne;rw[hne]at o⊢;rw[au j8 rfl];simp only[S.row,Cl.row,Ry.row,hq,BP,bN,ho]at bZ dn hcb cP o⊢;unfold jt at cP o;cases cJ:s.bn;all_goals
  rw[cJ]at cP o;simp only[cJ]at bZ⊢;simp[hQ,hF,ew,cF,pB,pV,kH,kV,bC,cK,bX,Wk.row,W.row,lS,qO,BP,bN,ho]at cP o;simp[jk, jY,jZ,kR,hQ,hF,ew,cF,pB,pV,kH,kV,bC,cK,bX,Wk.row,W.row,lS,qO,BP,bN,bZ,dn,hop,hcb,cP,o,aJ,aA,sub,aE,back,az,aq,ak,cut,bt,an,V.aZ,br,aY,bg,aN,aO,bk,cI,cz,o9];try exact hw.b cJ
set_option maxHeartbeats 4000000 in
theorem asj(nm:D)(k sz ot:Int)(s:S)(c:Cl)(hw:s.wf)(hq:s.qn=false)(hn:s.Q.length<=250)(hm:s.B.length<=250)(bZ:ev P (.call gp [.d (.ag [nm,I' k,I' sz,I' ot]),.d (.ag s.row)] [])=some (.val (.d (I' 0)) []))(hb:cG c=false)(ht:gQ s c.task=false)(ho:c.op=66)(bN:s.cl=false)(BP:s.Q=[]):
  ev P (.call iP [.d (.ag [nm,I' k,I' sz,I' ot]),.d (.ag s.row),.d (.ag c.row)] [])=some (.val (.tu [.d (.ag (Ry.row ⟨{s with cl:=true},false,0,true,true,[]⟩)),.d (I' 0)]) []):=by
 obtain⟨fi,dn⟩:=qg s c.task (by omega)
 rw[ht]at dn;have hop:=kQ;have hcb:=kT c;rw[hb]at hcb;have cP:=vm nm k sz ot s hw hq (by omega) (by omega)
 have o:=ar5 sz s c (jt s);rw[au j8 rfl];simp only[S.row,Cl.row,Ry.row,hq,BP,bN,ho]at bZ dn hcb cP o⊢;unfold jt at cP o;cases cJ:s.bn;all_goals
  rw[cJ]at cP o;simp only[cJ]at bZ⊢;simp[hQ,hF,ew,cF,pB,pV,kH,kV,bC,cK,bX,Wk.row,W.row,lS,BP,bN,ho]at cP o;simp[jk, jY,jZ,kR,hQ,hF,ew,cF,pB,pV,kH,kV,bC,cK,bX,Wk.row,W.row,lS,BP,bN,bZ,dn,hop,hcb,cP,o,aJ,aA,sub,aE,back,az,aq,ak,cut,bt,an,V.aZ,br,aY,bg,aN,aO,bk,cI,cz,o9];try exact hw.b cJ
end Go.VS.Sp
namespace Go.VS.Sp
set_option maxHeartbeats 4000000 in
theorem asn(nm:D)(k sz ot:Int)(s:S)(c:Cl)(hm:s.B.length<=250)(bZ:ev P (.call gp [.d (.ag [nm,I' k,I' sz,I' ot]),.d (.ag (s.ab true).row)] [])=some (.val (.d (I' 0)) []))(hb:cG c=false)(ho:c.op=64)(mN:num c.value=true)(bN:s.cl=false)(cJ:s.bn=false)(hl:(s.B.length:Int)<sz):
  ev P (.call iP [.d (.ag [nm,I' k,I' sz,I' ot]),.d (.ag (s.ab true).row),.d (.ag c.row)] [])=some (.val (.tu [.d (.ag (Ry.row ⟨{s.ab true with bn:=false,B:=s.B++[c.value]},false,0,true,true,[]⟩)),.d (I' 0)]) []):=by
 have dn:ev P (.call iQ [.d (qD true []),.d (I' c.task)] [])=some (.val (.tu [.d (I' 0),.d (.b false)]) []):=lD true [] c.task (by simp)
 have hop:=kQ;have hcb:=kT c;rw[hb]at hcb;have cP:=DE nm k sz ot s cJ (by omega)
 have o:=anW sz s c s.B.length (bX s.B) (by simp) (by omega)
 rw[Vg sz s c s.B.length (bX s.B) (by simp) (by omega),aK hl]at o
 rw[au j8 rfl];simp only[lA,lN,lB,lV,m8,tY,S.ab,S.row,Cl.row,Ry.row,qD,gn,gk,k9,iy,bN,cJ,ho]at bZ dn hcb cP o⊢;simp[jk,jY,jZ,kR,bN,mN,bZ,dn,hop,hcb,cP,o,aJ,aA,sub,aE,back,az,aq,ak,cut,bt,an,V.aZ,br,aY,bg,aN,aO,bk,cI,cz];exact gC (by simp[bX])
set_option maxHeartbeats 4000000 in
theorem aso(nm:D)(k sz ot:Int)(s:S)(c:Cl)(hm:s.B.length<=250)(bZ:ev P (.call gp [.d (.ag [nm,I' k,I' sz,I' ot]),.d (.ag (s.ab true).row)] [])=some (.val (.d (I' 0)) []))(hb:cG c=false)(ho:c.op=64)(mN:num c.value=true)(bN:s.cl=false)(cJ:s.bn=false)(hl:¬(s.B.length:Int)<sz):
  ev P (.call iP [.d (.ag [nm,I' k,I' sz,I' ot]),.d (.ag (s.ab true).row),.d (.ag c.row)] [])=some (.val (.tu [.d (.ag (Ry.row ⟨{s.ab true with qn:=false,Q:=[kW c]},true,0,false,true,[]⟩)),.d (I' 0)]) []):=by
 have dn:ev P (.call iQ [.d (qD true []),.d (I' c.task)] [])=some (.val (.tu [.d (I' 0),.d (.b false)]) []):=lD true [] c.task (by simp)
 have hop:=kQ;have hcb:=kT c;rw[hb]at hcb;have cP:=DE nm k sz ot s cJ (by omega)
 have o:=anW sz s c s.B.length (bX s.B) (by simp) (by omega)
 rw[Vg sz s c s.B.length (bX s.B) (by simp) (by omega),aD hl,Gf]at o
 have hk:(kW c).row=[I' c.task,I' c.op,I' (if c.op=64 then c.value else 0),I' c.prio,I' (-1)]:=rfl
 rw[au j8 rfl];simp only[lA,lN,lB,lV,m8,tY,S.ab,S.row,Cl.row,Ry.row,qD,gn,gk,k9,iy,hk,bN,cJ,ho]at bZ dn hcb cP o⊢;simp[jk,jY,jZ,kR,bN,mN,bZ,dn,hop,hcb,cP,o,aJ,aA,sub,aE,back,az,aq,ak,cut,bt,an,V.aZ,br,aY,bg,aN,aO,bk,cI,cz]
set_option maxHeartbeats 4000000 in
theorem asp(nm:D)(k sz ot:Int)(s:S)(c:Cl)(hm:s.B.length<=250)(bZ:ev P (.call gp [.d (.ag [nm,I' k,I' sz,I' ot]),.d (.ag (s.ab true).row)] [])=some (.val (.d (I' 0)) []))(hb:cG c=false)(ho:c.op=65)(cJ:s.bn=false)(x y:Int)(B:List Int)(hB:s.B=x::y::B):
  ev P (.call iP [.d (.ag [nm,I' k,I' sz,I' ot]),.d (.ag (s.ab true).row),.d (.ag c.row)] [])=some (.val (.tu [.d (.ag (Ry.row ⟨{s.ab true with B:=y::B},false,x,true,true,[]⟩)),.d (I' 0)]) []):=by
 have dn:ev P (.call iQ [.d (qD true []),.d (I' c.task)] [])=some (.val (.tu [.d (I' 0),.d (.b false)]) []):=lD true [] c.task (by simp)
 have hop:=kQ;have hcb:=kT c;rw[hb]at hcb;have cP:=DE nm k sz ot s cJ (by omega)
 have o:=anY sz s c B.length x (bX (y::B)) (by simp)
 rw[anS _ _ _ _ _ _ (by simp)]at o
 rw[au j8 rfl];simp only[lA,lN,lB,lV,m8,tY,S.ab,S.row,Cl.row,Ry.row,qD,gn,gk,k9,iy,hB,cJ,ho]at bZ dn hcb cP o⊢;have h9:1+(B.length+1)<=B.length+1+1:=by omega
 simp[jk,h9,jY,jZ,kR,hB,bZ,dn,hop,hcb,cP,o,aJ,aA,sub,aE,back,az,aq,ak,cut,bt,an,V.aZ,br,aY,bg,aN,aO,bk,cI,cz]
set_option maxHeartbeats 4000000 in
theorem asq(nm:D)(k sz ot:Int)(s:S)(c:Cl)(hm:s.B.length<=250)(bZ:ev P (.call gp [.d (.ag [nm,I' k,I' sz,I' ot]),.d (.ag (s.ab true).row)] [])=some (.val (.d (I' 0)) []))(hb:cG c=false)(ho:c.op=65)(cJ:s.bn=false)(x:Int)(hB:s.B=[x]):
  ev P (.call iP [.d (.ag [nm,I' k,I' sz,I' ot]),.d (.ag (s.ab true).row),.d (.ag c.row)] [])=some (.val (.tu [.d (.ag (Ry.row ⟨{s.ab true with B:=[]},false,x,true,true,[]⟩)),.d (I' 0)]) []):=by
 have dn:ev P (.call iQ [.d (qD true []),.d (I' c.task)] [])=some (.val (.tu [.d (I' 0),.d (.b false)]) []):=lD true [] c.task (by simp)
 have hop:=kQ;have hcb:=kT c;rw[hb]at hcb;have cP:=DE nm k sz ot s cJ (by omega)
 have o:=anZ sz s c x;rw[anT]at o;rw[au j8 rfl];simp only[lA,lN,lB,lV,m8,tY,S.ab,S.row,Cl.row,Ry.row,qD,gn,gk,k9,iy,hB,cJ,ho]at bZ dn hcb cP o⊢;simp[jk,jY,jZ,kR,hB,bZ,dn,hop,hcb,cP,o,aJ,aA,sub,aE,back,az,aq,ak,cut,bt,an,V.aZ,br,aY,bg,aN,aO,bk,cI,cz]
set_option maxHeartbeats 4000000 in
theorem asr(nm:D)(k sz ot:Int)(s:S)(c:Cl)(hm:s.B.length<=250)(bZ:ev P (.call gp [.d (.ag [nm,I' k,I' sz,I' ot]),.d (.ag (s.ab true).row)] [])=some (.val (.d (I' 0)) []))(hb:cG c=false)(ho:c.op=65)(cJ:s.bn=false)(hB:s.B=[])(bN:s.cl=true):
  ev P (.call iP [.d (.ag [nm,I' k,I' sz,I' ot]),.d (.ag (s.ab true).row),.d (.ag c.row)] [])=some (.val (.tu [.d (.ag (Ry.row ⟨s.ab true,false,0,false,true,[]⟩)),.d (I' 0)]) []):=by
 have dn:ev P (.call iQ [.d (qD true []),.d (I' c.task)] [])=some (.val (.tu [.d (I' 0),.d (.b false)]) []):=lD true [] c.task (by simp)
 have hop:=kQ;have hcb:=kT c;rw[hb]at hcb;have cP:=DE nm k sz ot s cJ (by omega)
 have o:=an0 sz s c;rw[Vi,aK bN]at o;rw[au j8 rfl];simp only[lA,lN,lB,lV,m8,tY,S.ab,S.row,Cl.row,Ry.row,qD,gn,gk,k9,iy,hB,bN,cJ,ho]at bZ dn hcb cP o⊢;simp[jk,jY,jZ,kR,hB,bN,bZ,dn,hop,hcb,cP,o,aJ,aA,sub,aE,back,az,aq,ak,cut,bt,an,V.aZ,br,aY,bg,aN,aO,bk,cI,cz]
set_option maxHeartbeats 4000000 in
theorem ast(nm:D)(k sz ot:Int)(s:S)(c:Cl)(hm:s.B.length<=250)(bZ:ev P (.call gp [.d (.ag [nm,I' k,I' sz,I' ot]),.d (.ag (s.ab true).row)] [])=some (.val (.d (I' 0)) []))(hb:cG c=false)(ho:c.op=65)(cJ:s.bn=false)(hB:s.B=[])(bN:s.cl=false):
  ev P (.call iP [.d (.ag [nm,I' k,I' sz,I' ot]),.d (.ag (s.ab true).row),.d (.ag c.row)] [])=some (.val (.tu [.d (.ag (Ry.row ⟨{s.ab true with qn:=false,Q:=[kW c]},true,0,false,true,[]⟩)),.d (I' 0)]) []):=by
 have dn:ev P (.call iQ [.d (qD true []),.d (I' c.task)] [])=some (.val (.tu [.d (I' 0),.d (.b false)]) []):=lD true [] c.task (by simp)
 have hop:=kQ;have hcb:=kT c;rw[hb]at hcb;have cP:=DE nm k sz ot s cJ (by omega)
 have o:=an0 sz s c;rw[Vi,aD (by rw[bN];simp),Gf]at o
 have hk:(kW c).row=[I' c.task,I' c.op,I' (if c.op=64 then c.value else 0),I' c.prio,I' (-1)]:=rfl
 rw[au j8 rfl];simp only[lA,lN,lB,lV,m8,tY,S.ab,S.row,Cl.row,Ry.row,qD,gn,gk,k9,iy,hk,hB,bN,cJ,ho]at bZ dn hcb cP o⊢;simp[jk,jY,jZ,kR,hB,bN,bZ,dn,hop,hcb,cP,o,aJ,aA,sub,aE,back,az,aq,ak,cut,bt,an,V.aZ,br,aY,bg,aN,aO,bk,cI,cz]
set_option maxHeartbeats 4000000 in
theorem asu(nm:D)(k sz ot:Int)(s:S)(c:Cl)(hm:s.B.length<=250)(bZ:ev P (.call gp [.d (.ag [nm,I' k,I' sz,I' ot]),.d (.ag (s.ab true).row)] [])=some (.val (.d (I' 0)) []))(hb:cG c=false)(ho:c.op=66)(bN:s.cl=false)(cJ:s.bn=false):
  ev P (.call iP [.d (.ag [nm,I' k,I' sz,I' ot]),.d (.ag (s.ab true).row),.d (.ag c.row)] [])=some (.val (.tu [.d (.ag (Ry.row ⟨{s.ab true with cl:=true},false,0,true,true,[]⟩)),.d (I' 0)]) []):=by
 have dn:ev P (.call iQ [.d (qD true []),.d (I' c.task)] [])=some (.val (.tu [.d (I' 0),.d (.b false)]) []):=lD true [] c.task (by simp)
 have hop:=kQ;have hcb:=kT c;rw[hb]at hcb;have cP:=DE nm k sz ot s cJ (by omega)
 have o:=an2 sz s c s.B.length (bX s.B);rw[anU]at o;rw[au j8 rfl];simp only[lA,lN,lB,lV,m8,tY,S.ab,S.row,Cl.row,Ry.row,qD,gn,gk,k9,iy,bN,cJ,ho]at bZ dn hcb cP o⊢;simp[jk,jY,jZ,kR,bN,bZ,dn,hop,hcb,cP,o,aJ,aA,sub,aE,back,az,aq,ak,cut,bt,an,V.aZ,br,aY,bg,aN,aO,bk,cI,cz]
set_option maxHeartbeats 4000000 in
theorem asv(nm:D)(k sz ot:Int)(s:S)(c:Cl)(hm:s.B.length<=250)(bZ:ev P (.call gp [.d (.ag [nm,I' k,I' sz,I' ot]),.d (.ag (s.ab true).row)] [])=some (.val (.d (I' 0)) []))(hb:cG c=false)(ho:c.op=64)(mN:num c.value=true)(bN:s.cl=false)(cJ:s.bn=true)(hB:s.B=[])(hl:0<sz):
  ev P (.call iP [.d (.ag [nm,I' k,I' sz,I' ot]),.d (.ag (s.ab true).row),.d (.ag c.row)] [])=some (.val (.tu [.d (.ag (Ry.row ⟨{s.ab true with bn:=false,B:=s.B++[c.value]},false,0,true,true,[]⟩)),.d (I' 0)]) []):=by
 have dn:ev P (.call iQ [.d (qD true []),.d (I' c.task)] [])=some (.val (.tu [.d (I' 0),.d (.b false)]) []):=lD true [] c.task (by simp)
 have hop:=kQ;have hcb:=kT c;rw[hb]at hcb;have cP:=Jo nm k sz ot s cJ;have o:=anX sz s c;rw[Vh,aK hl]at o;rw[au j8 rfl];simp only[lA,lN,lB,lV,m8,tY,S.ab,S.row,Cl.row,Ry.row,qD,gn,gk,k9,iy,hB,bN,cJ,ho]at bZ dn hcb cP o⊢;simp[jk,jY,jZ,kR,hB,bN,mN,bZ,dn,hop,hcb,cP,o,aJ,aA,sub,aE,back,az,aq,ak,cut,bt,an,V.aZ,br,aY,bg,aN,aO,bk,cI,cz]
set_option maxHeartbeats 4000000 in
theorem asw(nm:D)(k sz ot:Int)(s:S)(c:Cl)(hm:s.B.length<=250)(bZ:ev P (.call gp [.d (.ag [nm,I' k,I' sz,I' ot]),.d (.ag (s.ab true).row)] [])=some (.val (.d (I' 0)) []))(hb:cG c=false)(ho:c.op=64)(mN:num c.value=true)(bN:s.cl=false)(cJ:s.bn=true)(hB:s.B=[])(hl:¬0<sz):
  ev P (.call iP [.d (.ag [nm,I' k,I' sz,I' ot]),.d (.ag (s.ab true).row),.d (.ag c.row)] [])=some (.val (.tu [.d (.ag (Ry.row ⟨{s.ab true with qn:=false,Q:=[kW c]},true,0,false,true,[]⟩)),.d (I' 0)]) []):=by
 have dn:ev P (.call iQ [.d (qD true []),.d (I' c.task)] [])=some (.val (.tu [.d (I' 0),.d (.b false)]) []):=lD true [] c.task (by simp)
 have hop:=kQ;have hcb:=kT c;rw[hb]at hcb;have cP:=Jo nm k sz ot s cJ;have o:=anX sz s c;rw[Vh,aD hl,Gg]at o;have hk:(kW c).row=[I' c.task,I' c.op,I' (if c.op=64 then c.value else 0),I' c.prio,I' (-1)]:=rfl
 rw[au j8 rfl];simp only[lA,lN,lB,lV,m8,tY,S.ab,S.row,Cl.row,Ry.row,qD,gn,gk,k9,iy,hk,hB,bN,cJ,ho]at bZ dn hcb cP o⊢;simp[jk,jY,jZ,kR,hB,bN,mN,bZ,dn,hop,hcb,cP,o,aJ,aA,sub,aE,back,az,aq,ak,cut,bt,an,V.aZ,br,aY,bg,aN,aO,bk,cI,cz]
set_option maxHeartbeats 4000000 in
theorem asx(nm:D)(k sz ot:Int)(s:S)(c:Cl)(hm:s.B.length<=250)(bZ:ev P (.call gp [.d (.ag [nm,I' k,I' sz,I' ot]),.d (.ag (s.ab true).row)] [])=some (.val (.d (I' 0)) []))(hb:cG c=false)(ho:c.op=65)(cJ:s.bn=true)(hB:s.B=[])(bN:s.cl=true):
  ev P (.call iP [.d (.ag [nm,I' k,I' sz,I' ot]),.d (.ag (s.ab true).row),.d (.ag c.row)] [])=some (.val (.tu [.d (.ag (Ry.row ⟨s.ab true,false,0,false,true,[]⟩)),.d (I' 0)]) []):=by
 have dn:ev P (.call iQ [.d (qD true []),.d (I' c.task)] [])=some (.val (.tu [.d (I' 0),.d (.b false)]) []):=lD true [] c.task (by simp)
 have hop:=kQ;have hcb:=kT c;rw[hb]at hcb;have cP:=Jo nm k sz ot s cJ;have o:=an1 sz s c;rw[Vj,aK bN]at o;rw[au j8 rfl];simp only[lA,lN,lB,lV,m8,tY,S.ab,S.row,Cl.row,Ry.row,qD,gn,gk,k9,iy,hB,bN,cJ,ho]at bZ dn hcb cP o⊢;simp[jk,jY,jZ,kR,hB,bN,bZ,dn,hop,hcb,cP,o,aJ,aA,sub,aE,back,az,aq,ak,cut,bt,an,V.aZ,br,aY,bg,aN,aO,bk,cI,cz]
set_option maxHeartbeats 4000000 in
theorem asy(nm:D)(k sz ot:Int)(s:S)(c:Cl)(hm:s.B.length<=250)(bZ:ev P (.call gp [.d (.ag [nm,I' k,I' sz,I' ot]),.d (.ag (s.ab true).row)] [])=some (.val (.d (I' 0)) []))(hb:cG c=false)(ho:c.op=65)(cJ:s.bn=true)(hB:s.B=[])(bN:s.cl=false):
  ev P (.call iP [.d (.ag [nm,I' k,I' sz,I' ot]),.d (.ag (s.ab true).row),.d (.ag c.row)] [])=some (.val (.tu [.d (.ag (Ry.row ⟨{s.ab true with qn:=false,Q:=[kW c]},true,0,false,true,[]⟩)),.d (I' 0)]) []):=by
 have dn:ev P (.call iQ [.d (qD true []),.d (I' c.task)] [])=some (.val (.tu [.d (I' 0),.d (.b false)]) []):=lD true [] c.task (by simp)
 have hop:=kQ;have hcb:=kT c;rw[hb]at hcb;have cP:=Jo nm k sz ot s cJ;have o:=an1 sz s c;rw[Vj,aD (by rw[bN];simp),Gg]at o
 have hk:(kW c).row=[I' c.task,I' c.op,I' (if c.op=64 then c.value else 0),I' c.prio,I' (-1)]:=rfl
 rw[au j8 rfl];simp only[lA,lN,lB,lV,m8,tY,S.ab,S.row,Cl.row,Ry.row,qD,gn,gk,k9,iy,hk,hB,bN,cJ,ho]at bZ dn hcb cP o⊢;simp[jk,jY,jZ,kR,hB,bN,bZ,dn,hop,hcb,cP,o,aJ,aA,sub,aE,back,az,aq,ak,cut,bt,an,V.aZ,br,aY,bg,aN,aO,bk,cI,cz]
set_option maxHeartbeats 4000000 in
theorem asz(nm:D)(k sz ot:Int)(s:S)(c:Cl)(hm:s.B.length<=250)(bZ:ev P (.call gp [.d (.ag [nm,I' k,I' sz,I' ot]),.d (.ag (s.ab true).row)] [])=some (.val (.d (I' 0)) []))(hb:cG c=false)(ho:c.op=66)(bN:s.cl=false)(cJ:s.bn=true)(hB:s.B=[]):
  ev P (.call iP [.d (.ag [nm,I' k,I' sz,I' ot]),.d (.ag (s.ab true).row),.d (.ag c.row)] [])=some (.val (.tu [.d (.ag (Ry.row ⟨{s.ab true with cl:=true},false,0,true,true,[]⟩)),.d (I' 0)]) []):=by
 have dn:ev P (.call iQ [.d (qD true []),.d (I' c.task)] [])=some (.val (.tu [.d (I' 0),.d (.b false)]) []):=lD true [] c.task (by simp)
 have hop:=kQ;have hcb:=kT c;rw[hb]at hcb;have cP:=Jo nm k sz ot s cJ;have o:=an3 sz s c;rw[anV]at o;rw[au j8 rfl];simp only[lA,lN,lB,lV,m8,tY,S.ab,S.row,Cl.row,Ry.row,qD,gn,gk,k9,iy,hB,bN,cJ,ho]at bZ dn hcb cP o⊢;simp[jk,jY,jZ,kR,hB,bN,bZ,dn,hop,hcb,cP,o,aJ,aA,sub,aE,back,az,aq,ak,cut,bt,an,V.aZ,br,aY,bg,aN,aO,bk,cI,cz]
end Go.VS.Sp
namespace Go.VS.Sp
structure BQ(sz:Int)(s:S):Prop where
 own:s.own = -1
 cnt:s.cnt=0
 tm:s.time=0
 val:s.val=0
 h:s.H=[]
 c:s.C=[]
 bl:(s.B.length:Int)<=sz
 nb:∀n∈s.B,num n=true
 len:s.Q.length<=96
 w:∀w∈s.Q,dO w=true/\(w.op=64\/w.op=65/\w.value=0)
 nc:s.Q.Pairwise λa b=>sN b a=false
 cl:s.cl=true->s.Q=[]
 vs:∀w∈s.Q,w.op=64->(s.B.length:Int)=sz/\∀x∈s.Q,x.op=65->x.task=w.task
 vr:∀w∈s.Q,w.op=65->s.B=[]/\∀x∈s.Q,x.op=64->x.task=w.task
theorem asA:∀(l pre:List W),eG fC pre l=true↔(∀w∈l,Bu w=false)/\(∀x∈pre,∀w∈l,sN w x=false)/\l.Pairwise λa b=>sN b a=false
 | [],pre=>by simp[eG]
 |a::r,pre=>by
  unfold eG;rw[bJ,asA r (pre++[a]),gH];have e:fC pre a=true↔Bu a=false/\∀x∈pre,sN a x=false:=by unfold fC;simp
  rw[e];constructor
  .rintro⟨⟨h1,h2⟩,h3,h4,h5⟩
   refine⟨λw hw=>?_,λx hx w hw=>?_,λb hb=>h4 a (by simp) b hb,h5⟩
   .rcases dA.1 hw with rfl |hw;exact h1;exact h3 w hw
   .rcases dA.1 hw with rfl |hw;exact h2 x hx;exact h4 x (by simp[hx]) w hw
  .rintro⟨h1,h2,h3,h4⟩
   refine⟨⟨h1 a (by simp),λx hx=>h2 x hx a (by simp)⟩,λw hw=>h1 w (by simp[hw]),λx hx w hw=>?_,h4⟩
   rcases dj.1 hx with hx |hx
   .exact h2 x hx w (by simp[hw])
   .simp at hx;rw[hx];exact h3 w hw
theorem V6{Q:List W}{op t:Int}:F1 Q op t=false↔∀x∈Q,x.op=op->x.task=t:=by
 unfold F1;rw[qQ];simp
theorem asB{α β:Type}{a:List α}{b:List β}:decide ((0:Int)<(a.length:Int)+b.length)=false↔a=[]/\b=[]:=by
 cases a<;>cases b<;>simp<;>omega
theorem asC{sz ot:Int}{s:S}:fD 6 sz ot s=0↔iq 6 sz ot=0/\BQ sz s:=by
 have e:fD 6 sz ot s=ck (iq 6 sz ot) (Dz sz s):=rfl;rw[e,BI];refine J6 Iff.rfl ?_;unfold Dz v8;simp only[bJ,kX,BT,BY,J4,ku,dN,yy,asA,qQ];rw[<-decide_eq_false_iff_not (p:=(0:Int)<_),asB];have O5:∀w:W,Bu w=false↔w.op=64\/w.op=65/\w.value=0:=λw=>by
  unfold Bu;simp;constructor
  .intro h;by_cases uT:w.op=64;exact .inl uT;exact .inr (h uT)
  .rintro(h |h) h2;exact absurd h h2;exact h
 have v9:∀w:W,(w.op=64\/w.op=65/\w.value=0)->(¬zP sz s.B.length s.Q w=true↔(w.op=64->(s.B.length:Int)=sz/\∀x∈s.Q,x.op=65->x.task=w.task)/\(w.op=65->s.B=[]/\∀x∈s.Q,x.op=64->x.task=w.task)):=by
  intro w hw;unfold zP;rcases hw with h |⟨h,_⟩
  .simp only[h,Py,dF,BY,nj,Bool.not_eq_true,V6]
   simp
  .have uT:(w.op==64)=false:=by simp[h]
   simp only[uT,h,eI,dI,BY,nj,Bool.not_eq_true,V6];simp;exact λ_=>V6
 have sL:((s.Q.length:Int)=0)↔s.Q=[]:=by
  constructor
  .intro h;exact vA (by omega)
  .intro h;rw[h];rfl
 constructor
 .rintro⟨⟨⟨⟨⟨⟨h1,h2⟩,h3⟩,h4⟩,h5,h6⟩,h7⟩,h8,⟨h9,iK⟩,⟨je,_,kG⟩,j9,sD⟩
  refine⟨h1,h2,h3,h4,h5,h6,by omega,λn hn=>by simpa using h8 n hn,h9,λw hw=>⟨iK w hw,(O5 w).1 (je w hw)⟩,kG,λh=>?_,λw hw=>?_,λw hw=>?_⟩
  .rcases j9 with j9 |j9
   .rw[h]at j9;cases j9
   .exact sL.1 j9
  .exact((v9 w ((O5 w).1 (je w hw))).1 (sD w hw)).1
  .exact((v9 w ((O5 w).1 (je w hw))).1 (sD w hw)).2
 .rintro⟨h1,h2,h3,h4,h5,h6,h7,h8,h9,iK,kG,j9,sD,oL⟩
  refine⟨⟨⟨⟨⟨⟨h1,h2⟩,h3⟩,h4⟩,h5,h6⟩,by omega⟩,λn hn=>by simpa using h8 n hn,⟨h9,λw hw=>(iK w hw).1⟩,⟨λw hw=>(O5 w).2 (iK w hw).2,by simp,kG⟩,?_,λw hw=>(v9 w (iK w hw).2).2 ⟨sD w hw,oL w hw⟩⟩
  cases hc:s.cl
  .exact .inl rfl
  .exact .inr (sL.2 (j9 hc))
def aC(B:List Int)(cl:Bool):S:=⟨-1,0,0,false,[],false,[],false,B,false,[],cl,0⟩
theorem asD{sz ot:Int}{B:List Int}{cl:Bool}(hn:iq 6 sz ot=0)(h:(B.length:Int)<=dr sz)(hb:∀n∈B,num n=true):cW 6 sz ot (aC B cl)=true:=by
 have hz:iq 6 (dr sz) ot=0:=by
  unfold iq dr at *;simp at hn⊢;split<;>omega
 unfold cW gL gE iV ir mV v8 aC;simp[hn,ck,hz];exact⟨by omega,hb⟩
theorem V7{sz ot:Int}{B:List Int}{cl:Bool}{c:Cl}(hn:iq 6 sz ot=0)(h:(B.length:Int)<=dr sz)(hb:∀n∈B,num n=true)(hc:cG c=false)(ho:c.op=64\/c.op=65\/c.op=66)(hv:c.op=64->num c.value=true)(he:(eC (dr sz) (aC B cl) c).2.2.2=0):eD 6 sz ot (aC B cl) c=eC (dr sz) (aC B cl) c :=
 uh (asD hn h hb) hc (by unfold dH;rcases ho with h |h |h<;>simp[h]) (by unfold fit;rcases ho with h |h |h<;>simp[h];exact hv h) he
def xq(now:Int)(w:W)(v:Int)(ok:Bool):Cp:=⟨⟨w.task,w.op,w.value,w.prio,now⟩,⟨w.task,w.op,v,ok,w.case⟩⟩
theorem asE{k:Wk}{w:W}:∀{Q:List W}{p:Int×Int},Q.Pairwise (λa b=>sN b a=false)->w∈Q->k.task=w.task->k.op=w.op->k.case=w.case->o8 k Q p=(w.value,w.prio)
 | [],_,_,h,_,_,_=>by simp at h
 |x::r,p,hd,h,h1,h2,h3=>by
  rw[gH]at hd;unfold o8;by_cases hr:w∈r
  .exact asE hd.2 hr h1 h2 h3
  .rcases dA.1 h with rfl |h
   .have hm:sP k w=true:=by unfold sP;simp[h1,h2,h3]
    rw[hm,aK rfl]
    have:∀(l:List W)(p:Int×Int),(∀y∈l,sN y w=false)->o8 k l p=p:=by
     intro l;induction l with
     |nil=>intro p _;rfl
     |cons y l ih =>
      intro p hy;unfold o8;have h0:=hy y (by simp)
      have hm:sP k y=false:=by
       cases hm:sP k y
       .rfl
       .unfold sP at hm
        simp at hm;unfold sN at h0;rw[hm.1.1,hm.2]at h0;simp[h1,h3]at h0
      rw[hm,aD (by simp)]
      exact ih p λz hz=>hy z (by simp[hz])
    exact this r _ hd.1
   .exact absurd h hr
theorem asF{Q:List W}{w:W}(now v:Int)(ok:Bool)(hd:Q.Pairwise λa b=>sN b a=false)(h:w∈Q):fJ Q now ⟨w.task,w.op,v,ok,w.case⟩=xq now w v ok:=by
 unfold fJ xq;rw[asE (k:=⟨w.task,w.op,v,ok,w.case⟩) hd h rfl rfl rfl]
theorem V8{op:Int}{Q:List W}{w:W}(h:fW op Q=some w):w∈Q/\w.op=op:=by
 unfold fW at h;exact⟨Pu h,by simpa using GF h⟩
theorem V9{op:Int}{Q:List W}(h:fW op Q=none):∀w∈Q,w.op≠op:=by
 unfold fW at h;rw[J2]at h;intro w hw;simpa using h w hw
def DU(s:S)(c:Cl):Int:=if cG c then 2 else if(c.op != 64&&c.op != 65&&c.op != 66)then 8 else if(c.op==64&&!num c.value)then 2 else if gQ s c.task then 17 else if(s.cl&&c.op==64)then 19 else if(s.cl&&c.op==66)then 17 else 0
end Go.VS.Sp
namespace Go.VS.Sp
theorem asG(nm:D)(k sz ot:Int)(s:S)(c:Cl)(hn:s.Q.length<=1000000)(bZ:ev P (.call gp [.d (.ag [nm,I' k,I' sz,I' ot]),.d (.ag s.row)] [])=some (.val (.d (I' 0)) []))(he:DU s c≠0):
  ev P (.call iP [.d (.ag [nm,I' k,I' sz,I' ot]),.d (.ag s.row),.d (.ag c.row)] [])=some (.val (.tu [.d (.ag om),.d (I' (DU s c))]) []):=by
 obtain⟨fi,dn⟩:=qg s c.task hn;have hop:=kQ;have hcb:=kT c;rw[au j8 rfl];unfold DU at *;generalize gQ s c.task=q at *;obtain⟨own,cnt,time,hn',H,qn,Q,bn,B,cn,C,cl,val⟩:=s;simp only[S.row,Cl.row]at *;cases h1:cG c
 .rw[h1,aD (by simp)]at he
  rw[aD (by simp)]
  rw[h1]at hcb;cases h2:(c.op != 64&&c.op != 65&&c.op != 66)
  .rw[h2,aD (by simp)]at he
   rw[aD (by simp)]
   have asH:c.op=64\/c.op=65\/c.op=66:=by simp at h2;omega
   rcases asH with ho |ho |ho;all_goals
    rw[ho]at he⊢;cases h4:num c.value<;>cases q<;>cases cl<;>rw[h4]at he<;>simp at he⊢<;>simp[jk,jY,jZ,kR,bZ,dn,hop,hcb,ho,h4,aJ,aA,sub,aE,back,az,aq,ak,cut,bt,an,V.aZ,br,aY,bg,aN,aO]
  .rw[aK rfl]
   simp at h2;simp[jk,jY,jZ,bZ,dn,hop,hcb,h2,aJ,aA,sub,aE,back,az,aq,ak,cut,bt,an,V.aZ,br,aY,bg,aN,aO]
 .rw[aK rfl]
  rw[h1]at hcb;simp[jk,jY,jZ,bZ,hcb,aJ,aA,sub,aE,back,az,aq,ak,cut,bt,an,V.aZ,br,aY,bg,aN,aO]
def j3(s:S)(w:W):List W:=s.Q.filter λx=>x.task != w.task
def Wa(sz:Int)(s:S)(c:Cl):Ry :=
 if c.op=64 then
  match fW 65 s.Q with
  |some w=>⟨{s with qn:=decide (j3 s w=[]),Q:=j3 s w},false,0,true,false,[⟨w.task,w.op,c.value,true,w.case⟩]⟩
  |none=>if(s.B.length:Int)<sz then⟨{s with bn:=false,B:=s.B++[c.value]},false,0,true,true,[]⟩else⟨{s with qn:=false,Q:=s.Q++[kW c]},true,0,false,true,[]⟩
 else if c.op=65 then
  match s.B with
  |x::B=>(match fW 64 s.Q with
   |some w=>⟨{s with B:=B++[w.value],qn:=decide (j3 s w=[]),Q:=j3 s w},false,x,true,false,[⟨w.task,w.op,0,true,w.case⟩]⟩
   |none=>⟨{s with B:=B},false,x,true,true,[]⟩)
  | []=>match fW 64 s.Q with
   |some w=>⟨{s with qn:=decide (j3 s w=[]),Q:=j3 s w},false,w.value,true,false,[⟨w.task,w.op,0,true,w.case⟩]⟩
   |none=>if s.cl=true then⟨s,false,0,false,true,[]⟩else⟨{s with qn:=false,Q:=s.Q++[kW c]},true,0,false,true,[]⟩
 else match s.Q with
  |w::T=>⟨{s with cl:=true,qn:=true,Q:=[]},false,0,true,false,ko (T.length+1) (w::T)⟩
  | []=>⟨{s with cl:=true},false,0,true,true,[]⟩
theorem asI(nm:D)(k sz ot:Int)(s:S)(c:Cl)(hf:s.jr)(bZ:ev P (.call gp [.d (.ag [nm,I' k,I' sz,I' ot]),.d (.ag s.row)] [])=some (.val (.d (I' 0)) [])):
  rU (ev P (.call iP [.d (.ag [nm,I' k,I' sz,I' ot]),.d (.ag s.row),.d (.ag c.row)] [])) (DU s c) (Wa sz s c):=by
 have hfq:=hf.q;have lK:=hf.b;by_cases he:DU s c=0
 .refine .inl ⟨he,?_⟩
  unfold DU at he;obtain⟨hb,he⟩:=jf (by decide) he
  obtain⟨h2,he⟩:=jf (by decide) he
  obtain⟨h3,he⟩:=jf (by decide) he
  obtain⟨ht,he⟩:=jf (by decide) he
  obtain⟨h5,he⟩:=jf (by decide) he
  obtain⟨h6,_⟩:=jf (b:=(s.cl&&c.op==66)) (a:=17) (r:=0) (by decide) he
  simp at h2 h3 h5 h6;have hop:c.op=64\/c.op=65\/c.op=66:=by omega
  have hn:s.Q.length<=250:=by omega
  have hm:s.B.length<=250:=by omega
  unfold Wa;cases hq:s.qn
  .rcases hop with ho |ho |ho
   .have mN:num c.value=true:=h3 ho
    have bN:s.cl=false:=by cases h:s.cl;rfl;exact absurd ho (h5 h)
    rw[aK ho];cases hw:fW 65 s.Q with
    |some w=>have h:=ar7 nm k sz ot s c hf.wf hq hn hm bZ hb ht ho mN bN w hw;first |exact h |(simp only[hq]at h;exact h)
    |none =>
     simp only;by_cases hl:(s.B.length:Int)<sz
     .rw[aK hl];have h:=ar8 nm k sz ot s c hf.wf hq hn hm bZ hb ht ho mN bN hw hl;first |exact h |(simp only[hq]at h;exact h)
     .rw[aD hl];have h:=ar9 nm k sz ot s c hf.wf hq hn hm bZ hb ht ho mN bN hw hl;first |exact h |(simp only[hq]at h;exact h)
   .rw[aD (by omega),aK ho]
    cases hB:s.B with
    |nil =>
     simp only;cases hw:fW 64 s.Q with
     |some w=>have h:=asf nm k sz ot s c hf.wf hq hn hm bZ hb ht ho w hB hw;first |exact h |(simp only[hq,hB]at h;exact h)
     |none =>
      simp only;cases bN:s.cl
      .rw[aD (by simp)];have h:=ash nm k sz ot s c hf.wf hq hn hm bZ hb ht ho hB hw bN;first |exact h |(simp only[hq,hB,bN]at h;exact h)
      .rw[aK rfl];have h:=asg nm k sz ot s c hf.wf hq hn hm bZ hb ht ho hB hw bN;first |exact h |(simp only[hq,hB,bN]at h;exact h)
    |cons x B =>
     simp only;cases hw:fW 64 s.Q with
     |some w =>
      cases B with
      |nil=>have h:=ase nm k sz ot s c hf.wf hq hn hm bZ hb ht ho x w hB hw;first |exact h |(simp only[hq,hB]at h;exact h)
      |cons y B=>have h:=asd nm k sz ot s c hf.wf hq hn hm bZ hb ht ho x y B w hB hw;first |exact h |(simp only[hq,hB]at h;exact h)
     |none =>
      cases B with
      |nil=>have h:=asb nm k sz ot s c hf.wf hq hn hm bZ hb ht ho x hB hw;first |exact h |(simp only[hq,hB]at h;exact h)
      |cons y B=>have h:=asa nm k sz ot s c hf.wf hq hn hm bZ hb ht ho x y B hB hw;first |exact h |(simp only[hq,hB]at h;exact h)
   .have bN:s.cl=false:=by cases h:s.cl;rfl;exact absurd ho (h6 h)
    rw[aD (by omega),aD (by omega)]
    cases Af:s.Q with
    |nil=>have h:=asj nm k sz ot s c hf.wf hq hn hm bZ hb ht ho bN Af;first |exact h |(simp only[hq,Af]at h;exact h)
    |cons w T=>have h:=asi nm k sz ot s c hf.wf hq hn hm bZ hb ht ho bN w T Af;first |exact h |(simp only[hq,Af]at h;exact h)
  .have oh:=hf.qn hq
   have hab:s.ab true=s:=by
    unfold S.ab;rw[<-hq,<-oh]
   have vn:ev P (.call gp [.d (.ag [nm,I' k,I' sz,I' ot]),.d (.ag (s.ab true).row)] [])=some (.val (.d (I' 0)) []):=by rw[hab];exact bZ
   have hw:∀op,fW op s.Q=none:=λop=>by rw[oh];rfl
   have hpk:s.Q++[kW c]=[kW c]:=by rw[oh];rfl
   rw[hw,hw,hpk];rcases hop with ho |ho |ho
   .have mN:num c.value=true:=h3 ho
    have bN:s.cl=false:=by cases h:s.cl;rfl;exact absurd ho (h5 h)
    rw[aK ho];simp only;cases cJ:s.bn
    .by_cases hl:(s.B.length:Int)<sz
     .rw[aK hl];have h:=asn nm k sz ot s c hm vn hb ho mN bN cJ hl;rw[hab]at h;first |exact h |(simp only[cJ,hq,oh]at h⊢;exact h)
     .rw[aD hl];have h:=aso nm k sz ot s c hm vn hb ho mN bN cJ hl;rw[hab]at h;first |exact h |(simp only[cJ,hq,oh]at h⊢;exact h)
    .have hB:=hf.wf.b cJ
     by_cases hl:(s.B.length:Int)<sz
     .rw[aK hl];have h:=asv nm k sz ot s c hm vn hb ho mN bN cJ hB (by rw[hB]at hl;simpa using hl);rw[hab]at h;first |exact h |(simp only[hq,cJ]at h⊢;exact h)
     .rw[aD hl];have h:=asw nm k sz ot s c hm vn hb ho mN bN cJ hB (by rw[hB]at hl;simpa using hl);rw[hab]at h;first |exact h |(simp only[hq,cJ]at h⊢;exact h)
   .rw[aD (by omega),aK ho]
    cases hB:s.B with
    |nil =>
     simp only;cases cJ:s.bn
     .cases bN:s.cl
      .rw[aD (by simp)];have h:=ast nm k sz ot s c hm vn hb ho cJ hB bN;rw[hab]at h;first |exact h |(simp only[hB,bN,cJ,hq,oh]at h⊢;exact h)
      .rw[aK rfl];have h:=asr nm k sz ot s c hm vn hb ho cJ hB bN;rw[hab]at h;first |exact h |(simp only[hB,bN,cJ,hq,oh]at h⊢;exact h)
     .cases bN:s.cl
      .rw[aD (by simp)];have h:=asy nm k sz ot s c hm vn hb ho cJ hB bN;rw[hab]at h;first |exact h |(simp only[hB,bN,cJ,hq,oh]at h⊢;exact h)
      .rw[aK rfl];have h:=asx nm k sz ot s c hm vn hb ho cJ hB bN;rw[hab]at h;first |exact h |(simp only[hB,bN,cJ,hq,oh]at h⊢;exact h)
    |cons x B =>
     simp only;have cJ:s.bn=false:=by
      cases h:s.bn
      .rfl
      .have:=hf.wf.b h;rw[hB]at this;cases this
     cases B with
     |nil=>have h:=asq nm k sz ot s c hm vn hb ho cJ x hB;rw[hab]at h;first |exact h |(simp only[hB,hq,oh]at h⊢;exact h)
     |cons y B=>have h:=asp nm k sz ot s c hm vn hb ho cJ x y B hB;rw[hab]at h;first |exact h |(simp only[hB,hq,oh]at h⊢;exact h)
   .have bN:s.cl=false:=by cases h:s.cl;rfl;exact absurd ho (h6 h)
    rw[aD (by omega),aD (by omega)]
    simp only[oh];cases cJ:s.bn
    .have h:=asu nm k sz ot s c hm vn hb ho bN cJ;rw[hab]at h;first |exact h |(simp only[cJ,hq,oh]at h⊢;exact h)
    .have h:=asz nm k sz ot s c hm vn hb ho bN cJ (hf.wf.b cJ);rw[hab]at h;first |exact h |(simp only[cJ,hq,oh]at h⊢;exact h)
 .exact .inr ⟨he,_,_,_,_,_,_,_,_,_,_,_,_,_,asG nm k sz ot s c (by omega) bZ he⟩
end Go.VS.Sp
namespace Go.VS.Sp
theorem Wb{sz:Int}{s:S}(hs:BQ sz s)(w:W){B:List Int}{qn bn:Bool}(hB:B.length=s.B.length)(hb:∀n∈B,num n=true):BQ sz {s with qn:=qn,Q:=j3 s w,bn:=bn,B:=B}:=by
 have hsub:(j3 s w).Sublist s.Q:=BW;refine⟨hs.own,hs.cnt,hs.tm,hs.val,hs.h,hs.c,by simp only;rw[hB];exact hs.bl,hb,nh hsub.length_le hs.len,λx hx=>hs.w x (hsub.subset hx),hs.nc.sublist hsub,λh=>?_,λx hx ho=>?_,λx hx ho=>?_⟩
 .have:=hs.cl h
  unfold j3;simp[this]
 .obtain⟨h1,h2⟩:=hs.vs x (hsub.subset hx) ho
  exact⟨by simp only;rw[hB];exact h1,λy hy=>h2 y (hsub.subset hy)⟩
 .obtain⟨h1,h2⟩:=hs.vr x (hsub.subset hx) ho
  refine⟨?_,λy hy=>h2 y (hsub.subset hy)⟩
  rw[h1]at hB;exact vA hB
theorem O6{sz:Int}{s:S}(hs:BQ sz s){B:List Int}{qn bn cl:Bool}(hB:(B.length:Int)<=sz)(hb:∀n∈B,num n=true):BQ sz {s with qn:=qn,Q:=[],bn:=bn,B:=B,cl:=cl}:=
 ⟨hs.own,hs.cnt,hs.tm,hs.val,hs.h,hs.c,hB,hb,by simp,by simp,List.Pairwise.nil,λ_=>rfl,by simp,by simp⟩
theorem asJ{sz:Int}{s:S}{c:Cl}(hs:BQ sz s)(iZ:s.Q.length<=40)(hb:cG c=false)(ht:gQ s c.task=false)(bN:s.cl=false)(hv:c.op=64->num c.value=true)
  (h:c.op=64/\(s.B.length:Int)=sz/\(∀x∈s.Q,x.op≠65)\/c.op=65/\s.B=[]/\∀x∈s.Q,x.op≠64):BQ sz {s with qn:=false,Q:=s.Q++[kW c]}:=by
 have hbd:=vk hb;have hnt:∀x∈s.Q,x.task≠c.task:=by
  unfold gQ at ht;rw[qQ]at ht;intro x hx;simpa using ht x hx
 have hw:dO (kW c)=true/\((kW c).op=64\/(kW c).op=65/\(kW c).value=0):=by
  unfold dO kE kW;rcases h with⟨h,_⟩ |⟨h,_⟩
  .have:=apf.1 (hv h)
   simp[h];omega
  .simp[h]
   omega
 refine⟨hs.own,hs.cnt,hs.tm,hs.val,hs.h,hs.c,hs.bl,hs.nb,by simp;omega,λx hx=>?_,?_,λh=>by simp[bN]at h,λx hx ho=>?_,λx hx ho=>?_⟩
 .rcases dj.1 hx with hx |hx
  .exact hs.w x hx
  .simp at hx;rw[hx];exact hw
 .rw[oz]
  refine⟨hs.nc,by simp,λa ha b hb=>?_⟩
  simp at hb;subst hb;have:=hnt a ha;unfold sN kW;simp[this]
 .have hB:(s.B.length:Int)=sz/\∀y∈s.Q,y.op≠65:=by
   rcases h with⟨_,h1,h2⟩ |⟨h0,_,h2⟩
   .exact⟨h1,h2⟩
   .exfalso
    rcases dj.1 hx with hx |hx
    .exact h2 x hx ho
    .simp at hx;rw[hx]at ho;have:c.op=64:=ho;omega
  refine⟨hB.1,λy hy sG=>?_⟩
  rcases dj.1 hy with hy |hy
  .exact absurd sG (hB.2 y hy)
  .simp at hy
   rw[hy]at sG;have sG:c.op=65:=sG;rcases h with⟨h0,_⟩ |⟨_,_,h2⟩
   .omega
   .rcases dj.1 hx with hx |hx
    .exact absurd ho (h2 x hx)
    .simp at hx;rw[hx]at ho;have:c.op=64:=ho;omega
 .have hB:s.B=[]/\∀y∈s.Q,y.op≠64:=by
   rcases h with⟨h0,_,h2⟩ |⟨_,h1,h2⟩
   .exfalso
    rcases dj.1 hx with hx |hx
    .exact h2 x hx ho
    .simp at hx;rw[hx]at ho;have:c.op=65:=ho;omega
   .exact⟨h1,h2⟩
  refine⟨hB.1,λy hy uT=>?_⟩
  rcases dj.1 hy with hy |hy
  .exact absurd uT (hB.2 y hy)
  .simp at hy
   rw[hy]at uT;have uT:c.op=64:=uT;rcases h with⟨_,_,h2⟩ |⟨h0,_⟩
   .rcases dj.1 hx with hx |hx
    .exact absurd ho (h2 x hx)
    .simp at hx;rw[hx]at ho;have:c.op=65:=ho;omega
   .omega
theorem asK:∀(n:Nat)(Q:List W),∃L:List W,(∀w∈L,w∈Q)/\ko n Q=L.map xp/\L.length<=n
 | 0,Q=>⟨[],by simp,by simp[ko],by simp⟩
 |n+1,[]=>⟨[],by simp,by simp[ko],by simp⟩
 |n+1,w::T=>by
  obtain⟨L,h1,h2,h3⟩:=asK n ((w::T).filter λx=>x.task != w.task)
  refine⟨w::L,λx hx=>?_,by rw[show ko (n+1) (w::T)=xp w::ko n ((w::T).filter λx=>x.task != w.task)from rfl,h2];rfl,by simp;omega⟩
  rcases dA.1 hx with rfl |hx
  .simp
  .exact(pg.1 (h1 x hx)).1
theorem asL{sz ot now:Int}{B:List Int}(hn:iq 6 sz ot=0)(h:(B.length:Int)<=dr sz)(hb:∀n∈B,num n=true)(hw0:0<=now/\now<=1099511627776):∀(L:List W),(∀w∈L,dO w=true/\(w.op=64\/w.op=65/\B=[]))->∀a:S,a.pl=aC B true ->
  (cZ 6 sz ot a (L.map λw=>xq now w 0 false)).2=true/\(cZ 6 sz ot a (L.map λw=>xq now w 0 false)).1.pl=aC B true
 | [],_,a,ha=>by simp[cZ,ha]
 |w::r,hw,a,ha=>by
  obtain⟨h1,h2⟩:=hw w (by simp)
  have hE:eC (dr sz) (aC B true) ⟨w.task,w.op,w.value,w.prio,now⟩=(aC B true,0,false,0):=by
   unfold eC;rcases h2 with h2 |⟨h2,h3⟩
   .simp[h2,aC,er]
   .subst h3;simp[h2,aC,er]
  have he:=V7 (c:=⟨w.task,w.op,w.value,w.prio,now⟩) hn h hb (uj h1 hw0) (by simp only;omega) (λ_=>DK h1) (by rw[hE])
  rw[hE,<-ha]at he;rw[gk,mo (x:=xq now w 0 false) he rfl rfl (.inl (by unfold xq;simp only;omega)),ha]
  exact asL hn h hb hw0 r (λx hx=>hw x (by simp[hx])) _ rfl
end Go.VS.Sp
