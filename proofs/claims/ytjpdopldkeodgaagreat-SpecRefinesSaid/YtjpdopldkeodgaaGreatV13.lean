import Derived.Test.YtjpdopldkeodgaaGreatV12
import Derived.Test.YtjpdopldkeodgaaGreatV11
set_option linter.all false
set_option maxHeartbeats 1000000
namespace Go.VS.Sp
theorem VF{f:List W->W->Bool}:∀{l pre:List W},eG f pre l=true↔∀A w B,l=A++w::B->f (pre++A) w=true
 | [],pre=>⟨λ_ A w B h=>by simp at h,λ_=>rfl⟩
 |x::r,pre=>by
  unfold eG;rw[bJ,VF];constructor
  .rintro⟨h1,h2⟩ A w B h
   cases A with
   |nil=>simp at h;rw[<-h.1];simpa using h1
   |cons y A =>
    simp at h;have:=h2 A w B h.2;rw[h.1]at this;simpa using this
  .intro h
   exact⟨by simpa using h [] x r rfl,λA w B e=>by have:=h (x::A) w B (by rw[e];rfl);simpa using this⟩
theorem VG{l:List W}:l.Pairwise (λa b=>a.task≠b.task)↔∀A w B,l=A++w::B->∀x∈A,x.task≠w.task:=by
 constructor
 .rintro h A w B rfl x hx
  exact(oz.1 h).2.2 x hx w (by simp)
 .intro h
  induction l with
  |nil=>exact List.Pairwise.nil
  |cons a r ih =>
   refine gH.2 ⟨λb hb=>?_,ih λA w B e x hx=>h (a::A) w B (by rw[e];rfl) x (by simp[hx])⟩
   obtain⟨A,B,e⟩:=J3 hb;exact h (a::A) b B (by rw[e];rfl) a (by simp)
structure SW(sz:Int)(w:W):Prop where
 v:dO w=true
 op:w.op=60
 lo:1<=w.value
 hi:w.value<=sz
 cs:w.case = -1
structure Jy(sz ot:Int)(s:S):Prop where
 own:s.own = -1
 lo:0<=s.cnt
 hi:s.cnt<=sz
 tm:s.time=0
 h:s.H=[]
 b:s.B=[]
 c:s.C=[]
 cl:s.cl=false
 val:s.val=0
 len:s.Q.length<=96
 w:∀w∈s.Q,SW sz w
 tk:s.Q.Pairwise λa b=>a.task≠b.task
 st:∀A w B,s.Q=A++w::B->(A≠[]/\ot=0)\/s.cnt<w.value
theorem apL{sz ot:Int}{s:S}:Dw sz ot s=true↔Jy sz ot s:=by
 unfold Dw;rw[af3];simp only[bJ,kX,BT,J4,ku,dN,yy,VF];constructor
 .rintro⟨⟨⟨⟨h1,h2⟩,h3⟩,h4,h5⟩,h6,⟨⟨h7,h8⟩,h9⟩,iK⟩
  have hq:∀A w B,s.Q=A++w::B->(SW sz w/\(∀x∈A,x.task≠w.task))/\((A≠[]/\ot=0)\/s.cnt<w.value):=by
   intro A w B e;have h:=h6 A w B e;have hv:=h5 w (by rw[e];simp)
   unfold fS F0 at h;simp at h;obtain⟨⟨⟨⟨g1,g2⟩,g3⟩,g4⟩,g5,g6⟩:=h;refine⟨⟨⟨hv,g1,by omega,by omega,g4⟩,g5⟩,?_⟩
   rcases g6 with⟨g6,g7⟩ |g6
   .exact .inl ⟨by intro e;rw[e]at g6;simp at g6,g7⟩
   .exact .inr g6
  simp at h8;refine⟨h1,by omega,by omega,h7,by grind,by grind,by grind,h9,iK,h4,λw hw=>?_,VG.2 λA w B e=>(hq A w B e).1.2,λA w B e=>(hq A w B e).2⟩
  obtain⟨A,B,e⟩:=J3 hw;exact(hq A w B e).1.1
 .rintro⟨h1,h2,h3,h4,h5,h6,h7,h8,h9,iK,je,h12,kG⟩
  refine⟨⟨⟨⟨h1,by omega⟩,by omega⟩,iK,λw hw=>(je w hw).v⟩,?_,⟨⟨h4,by simp[h5,h6,h7]⟩,h8⟩,h9⟩
  intro A w B e;have hw:=je w (by rw[e];simp)
  have ht:=VG.1 h12 A w B e;have hs:=kG A w B e;unfold fS F0;simp[hw.op,hw.cs];refine⟨⟨hw.lo,hw.hi⟩,ht,?_⟩;rcases hs with⟨g1,g2⟩ |g
  .exact .inl ⟨rX.2 g1,g2⟩
  .exact .inr g
end Go.VS.Sp
namespace Go.VS.Sp
theorem apM{k:Wk}:∀{Q:List W}{p:Int×Int},(∀x∈Q,x.task≠k.task)->o8 k Q p=p
 | [],_,_=>rfl
 |x::r,p,h=>by
  unfold o8
  have:sP k x=false:=by unfold sP;simp[h x (by simp)]
  rw[this,aD (by simp)]
  exact apM λy hy=>h y (by simp[hy])
theorem apN{k:Wk}{w:W}:∀{Q:List W}{p:Int×Int},Q.Pairwise (λa b=>a.task≠b.task)->w∈Q->k.task=w.task->k.op=w.op->k.case=w.case->o8 k Q p=(w.value,w.prio)
 | [],_,_,h,_,_,_=>by simp at h
 |x::r,p,hd,h,h1,h2,h3=>by
  rw[gH]at hd;unfold o8;rcases dA.1 h with rfl |h
  .have:sP k w=true:=by unfold sP;simp[h1,h2,h3]
   rw[this,aK rfl];exact apM λy hy e=>hd.1 y hy (by rw[e,h1])
  .exact apN hd.2 h h1 h2 h3
theorem DN{Q:List W}{w:W}(now v:Int)(ok:Bool)(hd:Q.Pairwise λa b=>a.task≠b.task)(h:w∈Q)(hc:w.case = -1):
  fJ Q now ⟨w.task,w.op,v,ok,-1⟩=⟨⟨w.task,w.op,w.value,w.prio,now⟩,⟨w.task,w.op,v,ok,-1⟩⟩:=by
 unfold fJ;rw[apN (k:=⟨w.task,w.op,v,ok,-1⟩) hd h rfl rfl hc.symm]
theorem mo{k sz ot:Int}{a a':S}{x:Cp}{r:List Cp}{v:Int}{ok:Bool}(he:eD k sz ot a.pl x.c=(a',v,ok,0))(hv:x.w.value=v)(ho:x.w.ok=ok)(hn:x.c.op≠61\/x.w.ok=true\/ot≠0):
  cZ k sz ot a (x::r)=cZ k sz ot a' r:=by
 have e:cZ k sz ot a (x::r) =
  (
   let e:=eD k sz ot a.pl x.c
   if e.2.2.2≠0 then(a,false)
   else if(x.c.op==61&&ot==0&&!x.w.ok&&x.w.value==0)=true then cZ k sz ot a r
   else if(e.2.1 != x.w.value||e.2.2.1 != x.w.ok)=true then(a,false)else cZ k sz ot e.1 r):=rfl
 have Jv:(x.c.op==61&&ot==0&&!x.w.ok&&x.w.value==0)=false:=by
  rcases hn with h |h |h<;>simp[h]
 rw[e,he,Jv];simp[hv,ho]
theorem uh{k sz ot:Int}{s:S}{c:Cl}(h1:cW k sz ot s=true)(h2:cG c=false)(h3:dH k c.op=true)(h4:fit k sz c=true)(h5:(raw k sz ot s c).2.2.2=0):eD k sz ot s c=raw k sz ot s c:=by
 unfold eD;rw[h1,h2,h3,h4,h5];simp
theorem apO{w:W}(h:dO w=true):0<=w.task/\w.task<16/\0<=w.prio/\w.prio<=9:=by
 have:=sy h;unfold dO at h;simp at h;omega
theorem uj{w:W}{now:Int}(h:dO w=true)(hn:0<=now/\now<=1099511627776):cG ⟨w.task,w.op,w.value,w.prio,now⟩=false:=by
 have:=apO h;unfold cG;simp;omega
def aS(n:Int):S:=⟨-1,n,0,false,[],false,[],false,[],false,[],false,0⟩
theorem apP{sz ot n:Int}(hn:iR 4 sz ot=0)(h:0<=n/\n<=sz):cW 4 sz ot (aS n)=true:=by
 unfold cW gL gE iV ir qz aS;simp[hn,ck];omega
theorem apQ{sz ot n now:Int}{w:W}(hn:iR 4 sz ot=0)(hw0:0<=now/\now<=1099511627776)(h:0<=n/\n<=sz)(hw:SW sz w)(hle:w.value<=n):eD 4 sz ot (aS n) ⟨w.task,w.op,w.value,w.prio,now⟩=(aS (n - w.value),0,true,0):=by
 have h1:=hw.lo;have h2:=hw.hi;rw[uh (apP hn h) (uj hw.v hw0) (by unfold dH;simp[hw.op]) (by unfold fit;simp[h1,h2])]
 .unfold raw eS
  simp[hw.op,aS,gd,hle]
 .unfold raw eS
  simp[hw.op,aS,gd,hle]
def oq(now:Int)(w:W):Cp:=⟨⟨w.task,w.op,w.value,w.prio,now⟩,⟨w.task,w.op,0,true,-1⟩⟩
def vg(w:W):Wk:=⟨w.task,w.op,0,true,-1⟩
theorem VH{Q G:List W}(now:Int)(hd:Q.Pairwise λa b=>a.task≠b.task)(hG:G.Sublist Q)(hc:∀w∈Q,w.case = -1):(G.map vg).map (fJ Q now)=G.map (oq now):=by
 rw[kY];refine vo λw hw=>?_
 have hm:=hG.subset hw;have:=DN now 0 true hd hm (hc w hm);simp only[Function.comp,vg];rw[this];rfl
theorem VI{sz ot now:Int}(hn:iR 4 sz ot=0)(hw0:0<=now/\now<=1099511627776)(any:Bool):∀(L:List W)(g:GS),0<=g.left/\g.left<=sz->(∀w∈L,SW sz w) ->
  ∃G' O',(dX any g L).G=g.G++G'/\(dX any g L).O=g.O++O'/\G'.Sublist L/\O'.Sublist L/\∀a:S,a.pl=aS g.left->(cZ 4 sz ot a (G'.map (oq now))).2=true/\(cZ 4 sz ot a (G'.map (oq now))).1.pl=aS (dX any g L).left
 | [],g,_,_=>⟨[],[],by simp[dX],by simp[dX],by simp,by simp,λa ha=>by simp[cZ,dX,ha]⟩
 |w::r,g,hg,hw=>by
  have hw1:=hw w (by simp)
  unfold dX;split
  .rename_i hk
   unfold qL at hk;simp at hk;have:=hw1.lo;obtain⟨G',O',h1,h2,h3,h4,h5⟩:=VI hn hw0 any r ⟨g.st,g.left - w.value,g.O,g.G++[w]⟩ (by simp only;omega) λx hx=>hw x (by simp[hx])
   refine⟨w::G',O',by rw[h1];simp,h2,h3.cons_cons _,h4.cons _,λa ha=>?_⟩
   rw[gk];have he:=apQ hn hw0 hg hw1 hk.2;rw[<-ha]at he;rw[mo (x:=oq now w) he rfl rfl (.inl (by simp[oq,hw1.op]))]
   exact h5 _ rfl
  .obtain⟨G',O',h1,h2,h3,h4,h5⟩:=VI hn hw0 any r ⟨g.st||!any,g.left,g.O++[w],g.G⟩ hg λx hx=>hw x (by simp[hx])
   exact⟨G',w::O',h1,by rw[h2];simp,h3.cons _,h4.cons_cons _,h5⟩
end Go.VS.Sp
namespace Go.VS.Sp
def S.rS(s:S)(n:Int)(O:List W):S:={s with cnt:=n,qn:=decide (O=[]),Q:=O}
theorem apR{sz ot:Int}(hn:iR 4 sz ot=0):1<=sz/\sz<=100/\(ot=0\/ot=1):=by
 unfold iR at hn;simp at hn;omega
theorem BI{n:Int}{b:Bool}:ck n b=0↔n=0/\b=true:=by
 have h:=qC (n:=n) (b:=b);rw[um]at h;simpa using h
theorem OQ{sz ot:Int}{s:S}:fD 4 sz ot s=0↔iR 4 sz ot=0/\Jy sz ot s:=by
 have e:fD 4 sz ot s=ck (iR 4 sz ot) (Dw sz ot s):=rfl;rw[e,BI,apL]
theorem apS{sz ot n now:Int}{s:S}(hn:iR 4 sz ot=0)(hw0:0<=now/\now<=1099511627776)(hs:Jy sz ot s){L:List W}(hL:L.Sublist s.Q)(h0:0<=n/\n<=sz):
  (qM ot n L).G.Sublist s.Q/\(qM ot n L).O.Sublist s.Q/\fD 4 sz ot (s.rS (qM ot n L).left (qM ot n L).O)=0 /\
   ∀a:S,a.pl=aS n->(cZ 4 sz ot a ((qM ot n L).G.map (oq now))).2=true/\(cZ 4 sz ot a ((qM ot n L).G.map (oq now))).1.pl=((s.rS (qM ot n L).left (qM ot n L).O).ab true).pl:=by
 obtain⟨hlo,hhi,lG⟩:=apR hn;obtain⟨G',O',g1,g2,g3,g4,g5⟩:=VI hn hw0 (ot==1) L ⟨false,n,[],[]⟩ h0 λw hw=>hs.w w (hL.subset hw)
 have e:dX (ot==1) ⟨false,n,[],[]⟩ L=qM ot n L:=rfl;have pT:=VC (ot==1) L ⟨false,n,[],[]⟩;have kL:=VD (ot==1) L ⟨false,n,[],[]⟩ h0.1;have OR:=VE L ⟨false,n,[],[]⟩ rfl (λw hw=>by have:=(hs.w w (hL.subset hw)).lo;omega) (by simp)
 have apT:=apK L ⟨false,n,[],[]⟩ rfl (λw hw=>by have:=(hs.w w (hL.subset hw)).lo;omega)
 have hst:∀A w B,O'=A++w::B->(A≠[]/\ot=0)\/(qM ot n L).left<w.value:=by
  intro A w B eO;rcases lG with lG |lG
  .have hb:(ot==1)=false:=by rw[lG];decide
   rw[hb]at g2 e;rw[e]at g2 apT;rcases apT with⟨h1,_⟩ |⟨A',w',B',_,_,h3,h4⟩
   .rw[h1]at g2
    simp at g2;rw[g2]at eO;simp at eO
   .rw[h3]at g2
    simp at g2;rw[<-g2]at eO;cases A with
    |nil=>simp at eO;rw[<-eO.1];exact .inr h4
    |cons a A=>exact .inl ⟨by simp,lG⟩
  .have hb:(ot==1)=true:=by rw[lG];decide
   rw[hb]at g2 e;rw[e]at g2 OR;refine .inr (OR.2 w ?_);rw[g2,eO];simp
 rw[e]at g1 g2 g5 pT kL;simp only[mu]at g1 g2;simp only at pT;subst g1;subst g2;have hlen:=(g4.trans hL).length_le;refine⟨g3.trans hL,g4.trans hL,OQ.2 ⟨hn,?_⟩,λa ha=>?_⟩
 .exact⟨hs.own,kL,by unfold S.rS;simp only;omega,hs.tm,hs.h,hs.b,hs.c,hs.cl,hs.val,by have:=hs.len;unfold S.rS;simp only;omega,λw hw=>hs.w w ((g4.trans hL).subset hw),hs.tk.sublist (g4.trans hL),hst⟩
 .obtain⟨p1,p2⟩:=g5 a ha
  refine⟨p1,p2.trans ?_⟩;unfold S.ab S.pl aS S.rS;simp[hs.own,hs.tm,hs.h,hs.b,hs.c,hs.cl,hs.val]
theorem apU{sz ot:Int}{s:S}(hs:Jy sz ot s):(s.ab true).pl=aS s.cnt:=by
 unfold S.ab S.pl aS;simp[hs.own,hs.tm,hs.h,hs.b,hs.c,hs.cl,hs.val]
theorem apW{s:S}(hf:s.jr){n:Int}{O:List W}(h:O.length<=41):(s.rS n O).jr :=
 ⟨⟨hf.wf.h,hf.wf.b,hf.wf.c,hf.wf.k⟩,λh=>by unfold S.rS at *;simpa using h,hf.h,h,hf.b,hf.c,hf.l⟩
end Go.VS.Sp
namespace Go.VS.M
open Go.VS.Sp
end Go.VS.M
namespace Go.VS.M
open Go.VS.Sp
theorem apX{q:List Sp.W}{b:Nat}{a:Sp.W}(h:a∈q.take b):∃k,k<b/\q[k]?=some a:=by
 obtain⟨k,hk⟩:=WR.1 h;rw[yK]at hk;split at hk
 .exact⟨k,by assumption,hk⟩
 .simp at hk
theorem apY{q:List Sp.W}{b:Nat}{a:Sp.W}(h:a∈q.drop b):∃k,b<=k/\q[k]?=some a:=by
 obtain⟨k,hk⟩:=WR.1 h;rw[pF]at hk;exact⟨b+k,by omega,hk⟩
theorem apZ{own:Int}{q:List Sp.W}{t p:Int}(m:MV own q)(ht:cY t=true)(hp:0<=p/\p<=9)(hw:(q.any λw=>w.task==t)=false)(he:(iX own q t p).e=0):
  MV (iX own q t p).own (iX own q t p).q:=by
 have ht':0<=t/\t<16:=by simpa[cY]using ht
 unfold iX at he⊢;split
 .rename_i h
  have ho:own = -1:=by simpa using h
  have hq:=m.free ho;subst hq;exact⟨.inr ht',λh=>rfl,by simp[ve],by simp,by simp⟩
 .rename_i h
  rw[aD h]at he;have ho:own≠-1:=by simpa using h
  split
  .rename_i h2
   rw[aK h2]at he;simp[zr]at he
  .rename_i h2
   have fK:own≠t:=by simpa using h2
   have ap0:q=q.take (gA p q)++q.drop (gA p q):=(Al ..).symm;have h1:∀a,a∈q.take (gA p q)->p<=a.prio:=λa ha=>by
    obtain⟨k,hk,hka⟩:=apX ha;exact(Jf m.desc hka).1 hk
   have h3:∀a,a∈q.drop (gA p q)->a.prio<=p:=λa ha=>by
    obtain⟨k,hk,hka⟩:=apY ha;have:=Jf (p:=p) m.desc hka;omega
   have hne:∀a,a∈q->a.task≠t:=by simpa using hw
   have hd:=m.desc;unfold ve at hd;rw[ap0,oz]at hd;have hs:=m.By;rw[ap0,oz]at hs;refine⟨m.sn,λh=>absurd h ho,?_,?_,?_⟩
   .unfold ve
    show List.Pairwise _ (q.take (gA p q)++_::q.drop (gA p q))
    rw[oz,gH];refine⟨hd.1,⟨λa ha=>h3 a ha,hd.2.1⟩,λa ha b hb=>?_⟩
    rcases dA.1 hb with rfl |hb
    .exact h1 a ha
    .exact hd.2.2 a ha b hb
   .show List.Pairwise _ (q.take (gA p q)++_::q.drop (gA p q))
    rw[oz,gH];refine⟨hs.1,⟨λa ha=>(hne a (mO ha)).symm,hs.2.1⟩,λa ha b hb=>?_⟩
    rcases dA.1 hb with rfl |hb
    .exact hne a (nN ha)
    .exact hs.2.2 a ha b hb
   .intro w hw'
    rcases dj.1 hw' with h |h
    .exact m.all w (nN h)
    .rcases dA.1 h with rfl |h
     .refine⟨rfl,rfl,rfl,λh=>fK h.symm,?_,?_,?_,?_⟩<;>simp<;>omega
     .exact m.all w (mO h)
theorem ap1{own:Int}{q:List Sp.W}{t:Int}(m:MV own q)(he:(Bv own q t).e=0):MV (Bv own q t).own (Bv own q t).q:=by
 unfold Bv at he⊢;split
 .rename_i h
  rw[aK h]at he;simp[zr]at he
 .cases q with
  |nil=>exact⟨.inl rfl,λ_=>rfl,by simp[ve],by simp,by simp⟩
  |cons w r =>
   have hd:=m.desc;unfold ve at hd;rw[gH]at hd;have hs:=m.By;rw[gH]at hs;have hw:=m.all w (by simp)
   refine⟨.inr ⟨hw.2.2.2.2.1,hw.2.2.2.2.2.1⟩,λh=>by have:=hw.2.2.2.2.1;simp at h;omega,hd.2,hs.2,λx hx=>?_⟩
   have:=m.all x (by simp[hx])
   have h1:=hs.1 x hx;exact⟨this.1,this.2.1,this.2.2.1,λh=>h1 h.symm,this.2.2.2.2⟩
theorem ap2{own:Int}{q:List Sp.W}{t p:Int}(m:MV own q)(ht:cY t=true)(hp:0<=p/\p<=9)(hw:(q.any λw=>w.task==t)=false)(he:(Bw own q t p).e=0):
  MV (Bw own q t p).own (Bw own q t p).q:=by
 unfold Bw at he⊢;split
 .exact m
 .rename_i h
  rw[aD h]at he;exact apZ m ht hp hw he
theorem ap3{own:Int}{q:List Sp.W}{o t p:Int}(m:MV own q)(he:(l9 own q o t p).e=0):MV (l9 own q o t p).own (l9 own q o t p).q:=by
 unfold l9 at he⊢;split
 .rename_i h;rw[aK h]at he;simp[zr]at he
 rename_i h;rw[aD h]at he;split
 .rename_i h;rw[aK h]at he;simp[zr]at he
 rename_i h2;rw[aD h2]at he;have h2':cY t=true/\0<=p/\p<=9:=by simp at h2;exact⟨h2.1.1,h2.1.2,h2.2⟩
 split
 .rename_i h;rw[aK h]at he;simp[zr]at he
 rename_i h3;rw[aD h3]at he;have hw:(q.any λw=>w.task==t)=false:=by simpa using h3
 split
 .rename_i h;rw[aK h]at he
  exact apZ m h2'.1 h2'.2 hw he
 rename_i h;rw[aD h]at he;split
 .rename_i h;rw[aK h]at he
  exact ap2 m h2'.1 h2'.2 hw he
 .rename_i h;rw[aD h]at he
  exact ap1 m he
end Go.VS.M
namespace Go.VS.Sp
theorem Jz{k sz ot:Int}{s:S}:fM k sz ot s=0↔dQ k sz ot=0/\s.own = -1/\s.uO=false/\Gd sz s.Q s.C:=by
 constructor
 .intro h
  obtain⟨a,b⟩:=aoY h;exact⟨a,ape.1 b⟩
 .rintro⟨a,b⟩
  unfold fM;rw[aK a,aK (ape.2 b)]
theorem DO{k sz ot:Int}{s:S}{qn cn:Bool}{Q:List W}{C:List K}(h:fM k sz ot s=0)(hg:Gd sz Q C):fM k sz ot {s with qn:=qn,Q:=Q,cn:=cn,C:=C}=0:=by
 rw[Jz]at *;exact⟨h.1,h.2.1,h.2.2.1,hg⟩
theorem lR.snoc{sz:Int}{Q:List W}{C:List K}(h:lR sz Q C){w:W}(hv:dO w=true)(hl:Q.length<=95)(ht:∀x∈Q,x.task≠w.task)(hc:w.case = -1/\(w.op=70/\vY C w=true\/w.op=68)):lR sz (Q++[w]) C:=by
 refine⟨h.kj,?_,by simp;omega,ao3 h.nd ht,?_⟩
 .intro x hx
  rw[dj,yJ]at hx;rcases hx with hx |rfl
  .exact h.val x hx
  .exact hv
 .intro x hx
  rw[dj,yJ]at hx;rcases hx with hx |rfl
  .exact h.cs x hx
  .exact hc
theorem lR.JA{sz:Int}{Q:List W}{C C':List K}(h:lR sz Q C)(hs:iH sz C')(hm:∀w∈Q,∀c∈C,c.task=w.task->c∈C'):lR sz Q C':=by
 refine⟨hs,h.val,h.len,h.nd,?_⟩;intro w hw;obtain⟨a,b⟩:=h.cs w hw;refine⟨a,?_⟩;rcases b with⟨b,hn⟩ |b
 .refine .inl ⟨b,?_⟩
  obtain⟨⟨c,hc,ht,hl⟩,hv⟩:=(Gl h.kj).1 hn;exact(Gl hs).2 ⟨⟨c,hm w hw c hc ht,ht,hl⟩,hv⟩
 .exact .inr b
theorem ap4{sz:Int}{C C':List K}(h:iH sz C)(hs:C'.Sublist C):iH sz C':=⟨h.pw.sublist hs,λc hc=>h.el c (hs.subset hc)⟩
theorem ap5{sz:Int}{A B:List K}{c d:K}(h:iH sz (A++c::B))(ht:d.task=c.task)(hd:(d.log.length:Int)<=sz/\d.log.all num=true):iH sz (A++d::B):=by
 have qm:=h.pw;rw[oz,gH]at qm;refine⟨?_,?_⟩
 .rw[oz,gH]
  refine⟨qm.1,⟨λx hx=>by rw[ht];exact qm.2.1.1 x hx,qm.2.1.2⟩,?_⟩
  intro a ha b hb;rcases dA.1 hb with rfl |hb
  .rw[ht];exact qm.2.2 a ha c (by simp)
  .exact qm.2.2 a ha b (by simp[hb])
 .intro x hx
  rw[dj,dA]at hx;rcases hx with hx |rfl |hx
  .exact h.el x (by simp[hx])
  .have:=h.el c (by simp)
   rw[ht];exact⟨this.1,this.2.1,hd⟩
  .exact h.el x (by simp[hx])
theorem ap6{C:List K}{t:Int}(h:¬0<=jR C t):∀c∈C,c.task≠t:=by
 rcases M1 C t with⟨_,h2⟩ |⟨i,c,h1,_,_⟩
 .unfold mD at h2
  rw[J2]at h2;intro c hc e;exact h2 c hc (by simpa using e)
 .exact absurd (by omega) h
theorem ap7{sz:Int}{C:List K}{t:Int}(h:iH sz C)(hz:0<=sz)(ht:0<=t/\t<16)(hn:∀c∈C,c.task≠t):iH sz (mj C t):=by
 have hsp:C.take (j0 C t)=C.takeWhile (λc=>decide (c.task<t))/\C.drop (j0 C t)=C.dropWhile (λc=>decide (c.task<t)):=by
  have e:=PF (p:=λc:K=>decide (c.task<t)) (l:=C)
  constructor
  .conv=>lhs;arg 2;rw[<-e]
   exact uo rfl
  .conv=>lhs;arg 2;rw[<-e]
   exact DY rfl
 have hA:∀a∈C.take (j0 C t),a.task<t:=by
  rw[hsp.1];intro a ha;have:=yM.1 (List.all_takeWhile (p:=λc:K=>decide (c.task<t)) (l:=C)) a ha
  simpa using this
 have hB:∀b∈C.drop (j0 C t),t<b.task:=by
  rw[hsp.2];intro b hb;cases hd:C.dropWhile (λc=>decide (c.task<t))with
  |nil=>rw[hd]at hb;cases hb
  |cons d D =>
   have hdt:¬d.task<t:=by
    have:=WL (λc:K=>decide (c.task<t)) C
    rw[hd]at this;simpa using this
   have hpd:(d::D).Pairwise (λa b=>a.task<b.task):=by
    rw[<-hd];exact h.pw.sublist (PJ _)
   have hdm:d∈C:=(PJ (λc:K=>decide (c.task<t))).subset (by rw[hd];simp)
   have hdn:=hn d hdm;rw[hd]at hb;rcases dA.1 hb with rfl |hb
   .omega
   .rw[gH]at hpd
    have:=hpd.1 b hb;omega
 unfold mj;have qm:=h.pw;rw[<-List.take_append_drop (j0 C t) C,oz]at qm;refine⟨?_,?_⟩
 .rw[oz,gH]
  refine⟨qm.1,⟨hB,qm.2.1⟩,?_⟩;intro a ha b hb;rcases dA.1 hb with rfl |hb
  .exact hA a ha
  .exact qm.2.2 a ha b hb
 .intro x hx
  rw[dj,dA]at hx;rcases hx with hx |rfl |hx
  .exact h.el x (nN hx)
  .exact⟨ht.1,ht.2,by simpa using hz,by simp⟩
  .exact h.el x (mO hx)
theorem ap8{C:List K}{t:Int}{c:K}(h:c∈C):c∈mj C t:=by
 unfold mj;rw[<-List.take_append_drop (j0 C t) C,dj]at h;rw[dj,dA];rcases h with h |h
 .exact .inl h
 .exact .inr (.inr h)
theorem Gm{k sz ot:Int}(h:dQ k sz ot=0):0<=sz/\sz<=100:=by
 unfold dQ at h;split at h
 .cases h
 .split at h
  .cases h
  .rename_i h2
   simp at h2;omega
theorem ap9{t p n:Int}(h:BA t p n=false):0<=t/\t<16:=by
 unfold BA at h;simp at h;omega
theorem aqa{s:S}{t v p n:Int}(h:jB s t 69 v p n=0):∀c∈s.C,c.task≠t:=by
 apply ap6;intro hk;unfold jB at h;split at h
 .cases h
 .split at h
  .cases h
  .split at h
   .cases h
   .split at h
    .cases h
    .split at h
     .cases h
     .rename_i h5
      simp at h5;omega
theorem aqb{k sz ot:Int}{s:S}{t op v p n:Int}(hc:fM k sz ot s=0)(he:jB s t op v p n=0)(hq:s.Q.length<=90):fM k sz ot (ap k sz ot s t op v p n).1.st=0:=by
 obtain⟨hm,_,_,hg,nX⟩:=Jz.1 hc;have hfr:=ao2 he;have hcb:=aoX he;unfold ap;simp only[hc,he,ne_eq,J1,dI];by_cases kJ:op=69
 .subst kJ
  simp only[dF];have hnt:=aqa he;refine DO hc ⟨hg.JA (ap7 hg.kj (Gm hm).1 (ap9 hcb) hnt) (λw _ c hc _=>ap8 hc),?_⟩
  intro h;exact apj (nX h) (λc hc=>ap8 hc) (λw hw _=>.inl hw)
 .simp only[kJ,dI]
  by_cases l6:op=71
  .subst l6
   simp only[dF];obtain⟨A,c,B,hS,nV,_⟩:=Gj (Gk he (.inl rfl));have Ju:del s.C t=A++B:=by
    have eN:((A.length:Int)).toNat=A.length:=by omega
    unfold del;rw[nV,eN,hS,D5 (by omega)]
    simp
   have OS:c.task=t:=by
    rename_i hk;exact BG hk
   rw[Ju];refine DO hc (Vy (hg.JA (ap4 hg.kj (by rw[hS];exact Gx (Am A) (Gy c B))) ?_))
   intro w hw d hd hdt;rw[hS,dj,dA]at hd;rw[dj];rcases hd with hd |rfl |hd
   .exact .inl hd
   .exact absurd (hdt.symm.trans OS) (hfr w hw)
   .exact .inr hd
  .simp only[l6,dI]
   by_cases eZ:op=68
   .subst eZ
    simp only[dF];have ug:=wOK (v:=v) (op:=68) hcb (by omega) (Vt he)
    cases Gn:(busy s.Q||fl sz s.C s.Q)
    .simp only[eI,dI]
     have hb:busy s.Q=false/\fl sz s.C s.Q=false:=by simpa using Gn
     have hno:∀w∈s.Q,w.op=70:=by
      intro w hw;rcases(hg.cs w hw).2 with⟨h,_⟩ |h
      .exact h
      .exfalso
       have:busy s.Q=true:=rV.2 ⟨w,hw,by simpa using h⟩
       rw[hb.1]at this;cases this
     have hpo:pO s.Q=[]:=by
      unfold pO;rw[List.filter_eq_nil_iff];intro w hw;simp[hno w hw]
     rw[hpo];refine DO hc ⟨⟨OO hg.kj (apg _ _) ?_,by simp,by simp,by simp[tks],by simp⟩,by simp⟩
     intro c iC;have h1:=hg.kj.el c iC;unfold gr;cases hw:jl s.Q c.task 70
     .have h2:((c.log.length:Int)==sz&&!jl s.Q c.task 70)=false:=by
       have:=hb.2;unfold fl at this;rw[qQ]at this;simpa using this c iC
      rw[hw]at h2;simp at h2;simp only[eI,dI,lT,uk,JP,h1.2.2.2,xx,Vt he,PG,PI,yN];omega
     .simp only[dF]
      exact⟨h1.2.2.1,h1.2.2.2⟩
    .simp only[dF]
     refine DO (cn:=s.cn) (C:=s.C) hc ⟨hg.snoc ug (by omega) hfr ⟨rfl,.inr rfl⟩,?_⟩
     intro _;have hfl:fl sz s.C s.Q=true:=by
      cases hf:fl sz s.C s.Q
      .rw[hf]at Gn
       simp at Gn
       have:busy s.Q=true:=Gn
       unfold busy at this;obtain⟨w,hw,eZ⟩:=rV.1 this;have:=nX ⟨w,hw,by simpa using eZ⟩
       rw[hf]at this;exact this
      .rfl
     refine apj hfl (λc hc=>hc) ?_
     intro w hw ho;rw[dj,yJ]at hw;rcases hw with hw |rfl
     .exact .inl hw
     .cases ho
   .have fG:op=70:=by have:=Vp he;omega
    subst fG;simp only[eZ,dI];obtain⟨A,c,B,hS,nV,hk⟩:=Gj (Gk he (.inr rfl));have OS:=BG hk;have eN:((A.length:Int)).toNat=A.length:=by omega
    have iC:c∈s.C:=DJ hk;rw[hk];simp only;have h1:=hg.kj.el c iC;cases iW:c.log with
    |cons x lg =>
     simp only;have e2:s.C.set (jR s.C t).toNat ⟨c.task,false,lg⟩=A++⟨c.task,false,lg⟩::B:=by rw[nV,eN,hS];exact Vr
     rw[e2];rw[iW]at h1;refine DO hc (Vy (hg.JA (ap5 (c:=c) (by rw[<-hS];exact hg.kj) rfl ?_) ?_))
     .have h2:=h1.2.2.1
      have h3:=h1.2.2.2;simp at h2 h3⊢;exact⟨by omega,h3.2⟩
     .intro w hw d hd hdt
      rw[hS,dj,dA]at hd;rw[dj,dA];rcases hd with hd |rfl |hd
      .exact .inl hd
      .exact absurd (hdt.symm.trans OS) (hfr w hw)
      .exact .inr (.inr hd)
    |nil =>
     simp only;have ug:=wOK (v:=0) (op:=70) hcb (by omega) rfl
     have hn:vY s.C (W.mk t 70 0 p (-1))=true:=(Gl hg.kj).2 ⟨⟨c,iC,OS,iW⟩,rfl⟩;have hG:=Vy (qn:=false) (hg.snoc ug (by omega) hfr ⟨rfl,.inl ⟨rfl,hn⟩⟩)
     cases got (cR sz false (s.Q++[W.mk t 70 0 p (-1)]) s.C).wn t with
     |none=>exact DO hc hG
     |some y=>exact DO hc hG
end Go.VS.Sp
namespace Go.VS.Sp
end Go.VS.Sp
namespace Go.VS.Sp
theorem aqc{sz:Int}{qn:Bool}{Q:List W}{C:List K}(h:lF Q<0\/fl sz C Q=true):cR sz qn Q C=⟨qn,Q,C,[]⟩:=by
 unfold cR gU;simp only;rw[aK h]
theorem aqd(sz:Int):∀(n:Nat)(a:Ad),∀x∈a.wn,x∈(gU sz n a).wn
 | 0,_,_,h=>h
 |n+1,a,x,h=>by
  unfold gU;split
  .exact h
  .split
   .exact h
   .apply aqd sz n
    simp only[Ad.step,dj];exact .inl h
theorem aqe{l:List cC}{t:Int}(h:got l t=none):∀w∈l,w.task≠t:=by
 rcases CM (p:=λw:cC=>w.task==t) l 0 with⟨_,g0⟩ |⟨i,w,g1,g2,_⟩
 .rw[J2]at g0
  intro w hw;simpa using g0 w hw
 .exfalso
  have BD:qJ l t=(i:Int):=by simpa[qJ]using g1
  have e:((i:Int)).toNat=i:=by omega
  unfold got at h;rw[BD,aD (by omega),e,g2]at h
  cases h
theorem aqf{sz:Int}{Q:List W}{C:List K}{w:W}(hw:w∈Q)(fG:w.op=70)(h:got (cR sz false Q C).wn w.task=none):cR sz false Q C=⟨false,Q,C,[]⟩:=by
 by_cases hc:lF Q<0\/fl sz C Q=true
 .exact aqc hc
 .exfalso
  rcases DF Q with⟨h1,_⟩ |⟨A,B,x,hQ,hp,eZ⟩
  .exact hc (.inl (by omega))
  .have e:((A.length:Int)).toNat=A.length:=by omega
   have hg:Q[(lF Q).toNat]?=some x:=by rw[hp,e,hQ];simp
   have e1:Q1 Q=A++B:=by rw[hQ];exact DG (by rw[<-hQ];exact hp)
   have xk:w∈A++B:=by
    rw[hQ,dj,dA]at hw;rw[dj];rcases hw with hw |rfl |hw
    .exact .inl hw
    .rw[fG]at eZ;cases eZ
    .exact .inr hw
   have hin:(⟨w.task,70,x.value⟩:cC)∈(cR sz false Q C).wn:=by
    unfold cR gU;simp only;rw[aD hc,hg];simp only;apply aqd;simp only[Ad.step,e1,dj,dA,mu];right;unfold pW;rw[gV];refine⟨w,pg.2 ⟨xk,by simpa using fG⟩,?_⟩
    simp[OK,fG]
   exact aqe h _ hin rfl
theorem aqg{k sz ot:Int}{s:S}{t op v p n:Int}(h:(ap k sz ot s t op v p n).2=0):fM k sz ot s=0/\jB s t op v p n=0:=by
 unfold ap at h;by_cases hc:fM k sz ot s=0
 .by_cases he:jB s t op v p n=0
  .exact⟨hc,he⟩
  .simp[hc,he]at h
 .simp[hc]at h
end Go.VS.Sp
namespace Go.VS.Sp
theorem aqh{s:S}(h:s.jr):s.wz:=by
 have h1:=h.h;have h2:=h.b;have h3:=h.q;have h4:=h.c;exact⟨by omega,by omega,by omega,by omega,λc hc=>⟨h.wf.k c hc,by have:=h.l c hc;omega⟩,h.qn,h.wf.c⟩
end Go.VS.Sp
namespace Go.VS.Sp
def aW(own:Int)(H:List Int):S:=⟨own,0,0,false,H,false,[],false,[],false,[],false,0⟩
theorem aqi{p:W->Bool}{x:W}:∀{l:List W},x∈l.takeWhile p->p x=true
 | [],h=>by simp at h
 |a::l,h=>by
  rw[oy]at h;split at h
  .rename_i ha
   rcases dA.1 h with rfl |h
   .exact ha
   .exact aqi h
  .simp at h
theorem VJ{sz ot own:Int}{H:List Int}(hn:dR 2 2 sz ot=0)(ho:own = -1\/(cY own=true/\H=[]))(h1:∀x∈H,cY x=true)(h2:R.gF H):cW 2 sz ot (aW own H)=true:=by
 have hH:tF none H=true:=(M6 H none).2 ⟨by simp,h2,h1⟩
 unfold cW gL gE iV ir okW CO aW;rcases ho with rfl |⟨ho,rfl⟩
 .simp[hn,ck,hH]
 .simp[hn,ck,hH,ho]
theorem aqj{sz ot now:Int}(hw0:0<=now/\now<=1099511627776){H:List Int}{w:W}(hn:dR 2 2 sz ot=0)(h1:∀x∈H,cY x=true)(h2:R.gF H)(hv:dO w=true)(hop:w.op=53)(aqk:w.task∉H):
  eD 2 sz ot (aW (-1) H) ⟨w.task,w.op,w.value,w.prio,now⟩=(aW (-1) (eR w.task H),0,true,0):=by
 have ht:=(sy hv).1;have hr:raw 2 sz ot (aW (-1) H) ⟨w.task,w.op,w.value,w.prio,now⟩=(aW (-1) (eR w.task H),0,true,0):=by
  have e:¬(-1=w.task):=by omega
  unfold raw eW;simp[hop,aW,gd,aqk,e]
 rw[uh (VJ hn (.inl rfl) h1 h2) (uj hv hw0) (by unfold dH;simp[hop]) (by unfold fit;simp[hop])]
 .exact hr
 .rw[hr]
theorem aql{sz ot now:Int}(hw0:0<=now/\now<=1099511627776){w:W}(hn:dR 2 2 sz ot=0)(hv:dO w=true)(hop:w.op=55):
  eD 2 sz ot (aW (-1) []) ⟨w.task,w.op,w.value,w.prio,now⟩=(aW w.task [],0,true,0):=by
 have ht:=(sy hv).1;have hr:raw 2 sz ot (aW (-1) []) ⟨w.task,w.op,w.value,w.prio,now⟩=(aW w.task [],0,true,0):=by
  have e:¬(-1=w.task):=by omega
  unfold raw eW;simp[hop,aW,gd,e]
 rw[uh (VJ hn (.inl rfl) (by simp) List.Pairwise.nil) (uj hv hw0) (by unfold dH;simp[hop]) (by unfold fit;simp[hop])]
 .exact hr
 .rw[hr]
theorem aqm{sz ot now:Int}(hw0:0<=now/\now<=1099511627776)(hn:dR 2 2 sz ot=0):∀(L:List W)(H:List Int),(∀w∈L,dO w=true/\w.op=53/\w.task∉H)->L.Pairwise (λa b=>a.task≠b.task)->(∀x∈H,cY x=true)->R.gF H ->
  ∀a:S,a.pl=aW (-1) H->(cZ 2 sz ot a (L.map (oq now))).2=true/\(cZ 2 sz ot a (L.map (oq now))).1.pl=aW (-1) (R.iY H L)
 | [],H,_,_,_,_,a,ha=>by simp[cZ,ha,R.iY]
 |w::r,H,hw,hd,h1,h2,a,ha=>by
  rw[gH]at hd;obtain⟨g1,g2,g3⟩:=hw w (by simp)
  have he:=aqj hw0 hn h1 h2 g1 g2 g3;rw[<-ha]at he;rw[gk,mo (x:=oq now w) he rfl rfl (.inl (by simp[oq,g2]))]
  have e:R.iY H (w::r)=R.iY (eR w.task H) r:=rfl;rw[e];have hm:∀x,x∈eR w.task H↔x=w.task\/x∈H:=λx=>R.Ga
  refine aqm hw0 hn r (eR w.task H) (λx hx=>?_) hd.2 (λx hx=>?_) (R.OE h2 g3) _ rfl
  .obtain⟨q1,q2,q3⟩:=hw x (by simp[hx])
   refine⟨q1,q2,λhin=>?_⟩
   rcases(hm _).1 hin with e |e
   .exact hd.1 x hx e.symm
   .exact q3 e
  .rcases(hm _).1 hx with e |e
   .have:=sy g1
    rw[e];unfold cY;simp;omega
   .exact h1 x e
theorem VK:∀{l:List Int}(k:Int),(∀x∈l,k<=x/\x<16)->l.Pairwise (·<·)->l.length<=(16 - k).toNat
 | [],_,_,_=>by simp
 |a::r,k,h,hp=>by
  rw[gH]at hp;have h1:=h a (by simp)
  have:=VK (a+1) (λx hx=>⟨hp.1 x hx,(h x (by simp[hx])).2⟩) hp.2
  simp only[iy];omega
theorem aqn{sz ot now:Int}(hw0:0<=now/\now<=1099511627776)(hn:dR 2 2 sz ot=0){own:Int}{H:List Int}{L:List W}(m2:∀x∈H,cY x=true)(m3:R.gF H)(OT:∀w∈L,R.Gb own H w)(hp6:L.Pairwise λa b=>a.task≠b.task):
  (R.jA own H L).2.2.2.Sublist L/\(R.jA own H L).2.2.1.length<=L.length/\∀a:S,a.pl=aW own H->(cZ 2 sz ot a ((R.jA own H L).2.2.2.map (oq now))).2=true/\(cZ 2 sz ot a ((R.jA own H L).2.2.2.map (oq now))).1.pl=aW (R.jA own H L).1 (R.jA own H L).2.1:=by
 cases L with
 |nil=>exact⟨by simp[R.jA],by simp[R.jA],λa ha=>by simp[cZ,R.jA,ha]⟩
 |cons w r =>
  rw[R.Jm];have hw:=OT w (by simp)
  rw[gH]at hp6;split
  .exact⟨by simp,by simp,λa ha=>by simp[cZ,ha]⟩
  .rename_i yq
   have ho:own = -1:=vC λh=>yq (.inl h)
   split
   .rename_i lH
    have hH:H=[]:=vC λh=>yq (.inr ⟨lH,h⟩)
    refine⟨by simp,by simp,λa ha=>?_⟩
    have he:=aql (sz:=sz) (ot:=ot) hw0 hn hw.v lH;rw[hH,ho]at ha;rw[<-ha]at he;simp only[WO];rw[mo (x:=oq now w) he rfl rfl (.inl (by simp[oq,lH]))]
    simp[cZ,hH];rfl
   .rename_i lH
    have CX:w.op=53:=hw.op.resolve_right lH;have hsub:(w::r.takeWhile λw=>w.op != 55).Sublist (w::r):=(WM _).cons_cons _
    refine⟨hsub,?_,λa ha=>?_⟩
    .have:=(PJ (λw:W=>w.op != 55) (l:=r)).length_le
     simp only[iy];omega
    .rw[ho]at ha⊢
     refine aqm hw0 hn _ H (λx hx=>?_) ((gH.2 hp6).sublist hsub) m2 m3 _ ha
     have mE:=OT x (hsub.subset hx);refine⟨mE.v,?_,mE.zV⟩;rcases dA.1 hx with rfl |hx
     .exact CX
     .have:=aqi hx
      exact mE.op.resolve_right (by simpa using this)
theorem aqo{own:Int}{H:List Int}{Q:List W}(h:R.MV own H Q):H.length<=16:=by
 obtain⟨v1,v2⟩:=R.Ve.1 h.vh;have:=VK 0 (λx hx=>by have:=v1 x hx;unfold R.cY at this;simpa using this) v2
 omega
theorem aqp{sz ot:Int}{s:S}:fD 2 sz ot s=0↔dR 2 2 sz ot=0/\R.MV s.own s.H s.Q/\s.cnt=0/\s.time=0/\s.B=[]/\s.C=[]/\s.cl=false/\s.val=0:=by
 have e:fD 2 sz ot s=ck (dR 2 2 sz ot) (OF s):=rfl;have e2:OF s=R.jI s.own s.cnt s.time s.H s.Q s.B (s.C.map K.row) s.cl s.val:=rfl;rw[e,BI,e2,R.Jg,B1]
end Go.VS.Sp
namespace Go.VS.Sp
end Go.VS.Sp
namespace Go.VS.Sp
structure Ry where
 st:S
 pk:Bool
 v:Int
 ok:Bool
 bw:Bool
 wl:List Wk
def Ry.row(r:Ry):List D:=[I' r.st.own,I' r.st.cnt,I' r.st.time,hD r.st.hn r.st.H,qD r.st.qn r.st.Q,hD r.st.bn r.st.B,cD r.st.cn r.st.C,.b r.st.cl,I' r.st.val,.b r.pk,I' r.v,.b r.ok,.sl 5 r.bw (r.wl.map Wk.row)]
def rU(x:Option ej)(e:Int)(r:Ry):Prop :=
 (e=0/\x=some (.val (.tu [.d (.ag r.row),.d (I' 0)]) []))\/(e≠0/\∃r1 r2 r3 r4 r5 r6 r7 r8 r9 BJ BK BL eV:D,x=some (.val (.tu [.d (.ag [r1,r2,r3,r4,r5,r6,r7,r8,r9,BJ,BK,BL,eV]),.d (I' e)]) []))
theorem rU.er{x:Option ej}{e:Int}{r:Ry}{r1 r2 r3 r4 r5 r6 r7 r8 r9 BJ BK BL eV:D}(he:e≠0)(h:x=some (.val (.tu [.d (.ag [r1,r2,r3,r4,r5,r6,r7,r8,r9,BJ,BK,BL,eV]),.d (I' e)]) [])):rU x e r :=
 .inr ⟨he,_,_,_,_,_,_,_,_,_,_,_,_,_,h⟩
theorem aqq(nl:Bool)(Q:List W)(w:W)(h0:dY Q=0)(h1:dO w=true)(h2:Q.length<96):
  ev P (.call Qu [.d (I' 1),.d (qD nl Q),.d (.ag w.row)] [])=some (.val (.tu [.d (qD false (Q++[w])),.d (I' 0)]) []):=by
 have hC:=uK nl Q;rw[h0]at hC;have hv:=E3 w.task w.op w.value w.prio w.case
 rw[W.eta,h1]at hv;have hC:ev P (.call qv [.d (I' 1),.d (qD nl Q)] [])=some (.val (.d (I' 0)) []):=hC;have hL:ev P (.loop 0 [0,1,5,9] RB [(0,.d (I' 1)),(1,.d (qD nl Q)),(5,.d (.ref [I' w.task,I' w.op,I' w.value,I' w.prio,I' w.case])),(9,.d (I' Q.length))] [])=some (.out (.exit 0) [(1,.d (qD nl Q)),(5,.d (.ref [I' w.task,I' w.op,I' w.value,I' w.prio,I' w.case])),(9,.d (I' Q.length))] []):=by
  rw[bS]
  conv=>lhs;arg 4;unfold RB
  simp
 rw[au aeh rfl];cases Q with
 |nil =>
  have hr:1<=room:=by decide
  simp at hL;simp[L9,W.row,hC,hv,hL,vX,hr]
 |cons a r =>
  simp at h2;have hw:IntKind.i64.wrap ((r.length:Int)+1+1)=r.length+1+1:=wrap_i64 (by omega) (by omega)
  have hr:r.length+1+1<=room:=by unfold room;omega
  have h5:((r.length:Int)+1==96)=false:=by simp;omega
  have h6:(0:Int)<=(r.length:Int)+1+1:=by omega
  have h7:((r.length:Int)+1+1).toNat=r.length+1+1:=by omega
  simp at hL;have h8:(r.length+1+1)*5<=16777216:=by omega
  have h9:(0:Int)<=(r.length:Int)+1:=by omega
  have Bp:r.length+1<=room:=by omega
  have ij:List.take (r.length+1) (r.map W.row++[[I' w.task,I' w.op,I' w.value,I' w.prio,I' w.case]])=r.map W.row++[[I' w.task,I' w.op,I' w.value,I' w.prio,I' w.case]]:=gC (by simp)
  simp[L9,W.row,hC,hv,hL,hw,hr,Bp,h8,h9,ij,h5,h6,h7,eK,fN,ak,cut,bt,an,bk,cI,cz,V.aZ]
def nM(cnt n:Int)(any:Bool)(Q:List W):Bool:=decide (n<=cnt)&&(any||Q.isEmpty)
theorem aqr(s:S)(cnt:Int)(nl:Bool)(Q:List W)(any:Bool)(n:Int)(h0:0<=n/\n<=1000)(hc:0<=cnt/\cnt<=1000):
  ev P (.call KL [.loc 0 0 0,.d (I' n)] [.aG 10 true [kP s cnt (qD nl Q) any]])=some (.val (.d (.b (nM cnt n any Q))) [.aG 10 true [kP s (if nM cnt n any Q=true then cnt - n else cnt) (qD nl Q) any]]):=by
 have hw:IntKind.i64.wrap (cnt - n)=cnt - n:=wrap_i64 (by omega) (by omega)
 rw[au aeg rfl];unfold nM;by_cases h:n<=cnt
 .have h':¬cnt<n:=by omega
  cases any
  .cases Q with
   |nil=>simp[EI,kP,h,h',hw,aq,az,sub,ak,cut,bt,an]
   |cons a r =>
    have h3:(0:Int)<(r.length:Int)+1:=by omega
    simp[EI,kP,h,h',h3,hw,aq,az,sub,ak,cut,bt,an]
  .simp[EI,kP,h,h',hw,aq,az,sub,ak,cut,bt,an]
 .have h':cnt<n:=by omega
  simp[EI,kP,h,h',az,sub,ak,cut,bt,an]
def cw(c:Cl):W:=⟨c.task,c.op,c.value,c.prio,-1⟩
theorem aqs(s:S)(cnt:Int)(nl:Bool)(Q:List W)(any:Bool)(c:Cl)(h0:0<=c.value/\c.value<=1000)(hc:0<=cnt/\cnt<=1000)(hq:dY Q=0)(hl:Q.length<96)(hw:dO (cw c)=true):
  ev P (.call Qt [.rf [.loc 0 0 0],.d (.ref c.row)] [.aG 10 true [kP s cnt (qD nl Q) any]]) =
   if nM cnt c.value any Q=true then some (.val (.d (F7 false true (.sl 5 true []))) [.aG 10 true [kP s (cnt - c.value) (qD nl Q) any]])
   else some (.val (.d (F7 true false (.sl 5 true []))) [.aG 10 true [kP s cnt (qD false (Q++[cw c])) any]]):=by
 have hT:=aqr s cnt nl Q any c.value h0 hc;have hP:=aqq nl Q _ hq hw hl;obtain⟨b1,q1,e1⟩:∃b r,qD nl Q = .sl 5 b r:=⟨_,_,rfl⟩;obtain⟨b2,q2,e2⟩:∃b r,qD false (Q++[cw c]) = .sl 5 b r:=⟨_,_,rfl⟩;rw[e1]at hT hP⊢;rw[e2]at hP⊢;simp only[W.row,cw]at hP;unfold kP at hT⊢;rw[au aef rfl];generalize nM cnt c.value any Q=b at *;cases b
 .rw[aD (by simp)]at hT⊢
  simp[L8,Cl.row,aA,sub,aE,back,hT,hP,az,aq,ak,cut,bt,an,V.aZ]
 .rw[aK rfl]at hT⊢
  simp[L8,Cl.row,aA,sub,aE,back,hT,az,aq,ak,cut,bt,an,V.aZ]
theorem aqt(s:S)(cnt:Int)(nl:Bool)(Q:List W)(any:Bool)(c:Cl)(h0:0<=c.value/\c.value<=1000)(hc:0<=cnt/\cnt<=1000):
  ev P (.call Qv [.rf [.loc 0 0 0],.d (.ref c.row)] [.aG 10 true [kP s cnt (qD nl Q) any]]) =
   some (.val (.d (F7 false (nM cnt c.value any Q) (.sl 5 true []))) [.aG 10 true [kP s (if nM cnt c.value any Q=true then cnt - c.value else cnt) (qD nl Q) any]]):=by
 have hT:=aqr s cnt nl Q any c.value h0 hc;obtain⟨b1,q1,e1⟩:∃b r,qD nl Q = .sl 5 b r:=⟨_,_,rfl⟩;rw[e1]at hT⊢;unfold kP at hT⊢;rw[au aei rfl];generalize nM cnt c.value any Q=b at *;generalize (if b=true then cnt - c.value else cnt)=n at *
 simp[RC,Cl.row,aA,sub,aE,back,hT,az,aq,ak,cut,bt,an,V.aZ]
def JB:List W->V
 | []=>.d (F7 false true (.sl 5 true []))
 |_::r=>.ag [.d (I' 0),.d (I' 0),.d (I' 0),.d (.sl 1 true []),.d (.sl 5 true []),.d (.sl 1 true []),.d (.sl 2 true []),.d (.b false),.d (I' 0),.d (.b false),.d (I' 0),.d (.b true),.aR 1 0 (r.length+1)]
theorem aqu(s:S)(cnt:Int)(nl:Bool)(Q:List W)(any:Bool)(c:Cl)(h0:0<=c.value/\c.value<=1000)(hc:0<=cnt/\cnt<=1000)(hq:Q.length<=500):
  ev P (.call Qw [.rf [.loc 0 0 0],.d (.ref c.row)] [.aG 10 true [kP s cnt (qD nl Q) any]]) =
   some (.val (JB (dX any ⟨false,cnt+c.value,[],[]⟩ Q).G) (.aG 10 true [kP s (dX any ⟨false,cnt+c.value,[],[]⟩ Q).left (qO (dX any ⟨false,cnt+c.value,[],[]⟩ Q).O) any]::wH (dX any ⟨false,cnt+c.value,[],[]⟩ Q).G)):=by
 have hS:=apu s (cnt+c.value) nl Q any hq (by omega)
 have hw:IntKind.i64.wrap (cnt+c.value)=cnt+c.value:=wrap_i64 (by omega) (by omega)
 generalize dX any ⟨false,cnt+c.value,[],[]⟩ Q=g at *;obtain⟨st,left,O,G⟩:=g;obtain⟨b1,q1,e1⟩:∃b r,qD nl Q = .sl 5 b r:=⟨_,_,rfl⟩;obtain⟨b2,q2,e2⟩:∃b r,qO O = .sl 5 b r:=⟨_,_,rfl⟩;simp only at hS⊢;rw[e1,e2]at hS;rw[e1,e2];unfold kP at hS⊢;rw[au aej rfl];cases G with
 |nil =>
  simp[wV,wH]at hS;simp[Ma,Cl.row,JB,wV,wH,hw,hS,aJ,aA,sub,aE,back,az,aq,ak,cut,bt,an,V.aZ,br,aY,bg,aN,aO,bk,cI,cz]
 |cons a r =>
  simp[wV,wH,zY]at hS;simp[Ma,Cl.row,JB,wV,wH,hw,hS,zY,aJ,aA,sub,aE,back,az,aq,ak,cut,bt,an,V.aZ,br,aY,bg,aN,aO,bk,cI,cz]
end Go.VS.Sp
namespace Go.VS.Sp
def DP(sz:Int)(s:S)(c:Cl):Int:=if cG c then 2 else if(c.op != 60&&c.op != 61&&c.op != 62)then 8 else if(decide (c.value<1)||decide (sz<c.value))then 2 else if(gQ s c.task||(c.op==62&&decide (sz<s.cnt+c.value)))then 17 else 0
theorem aqv(nm:D)(k sz ot:Int)(s:S)(c:Cl)(hz:sz<=100)(hc:0<=s.cnt/\s.cnt<=sz)(hn:s.Q.length<=1000000):
  ev P (.call Qr [.d (.ag [nm,I' k,I' sz,I' ot]),.d (.ag s.row),.d (.ag c.row)] [])=some (.val (.d (I' (DP sz s c))) []):=by
 obtain⟨i,hF⟩:=qg s c.task hn;rw[au aee rfl];unfold DP;simp only[S.row]at *;cases h1:cG c
 .unfold cG at h1
  cases h2:(c.op != 60&&c.op != 61&&c.op != 62)
  .cases h3:(decide (c.value<1)||decide (sz<c.value))
   .have h3':=h3
    simp at h3';have hw:IntKind.i64.wrap (s.cnt+c.value)=s.cnt+c.value:=wrap_i64 (by omega) (by omega)
    cases h5:gQ s c.task
    .rw[h5]at hF
     cases h4:(c.op==62&&decide (sz<s.cnt+c.value))
     .simp[AK,Cl.row,h1,h2,h3,hF,hw,h4]
     .simp[AK,Cl.row,h1,h2,h3,hF,hw,h4]
    .rw[h5]at hF
     simp[AK,Cl.row,h1,h2,h3,hF]
   .simp[AK,Cl.row,h1,h2,h3]
  .simp[AK,Cl.row,h1,h2]
 .unfold cG at h1
  simp[AK,Cl.row,h1]
def VL(ot:Int)(s:S)(c:Cl):Ry :=
 if c.op=60 then(if nM s.cnt c.value (ot==1) s.Q=true then⟨{s with cnt:=s.cnt - c.value},false,0,true,true,[]⟩else⟨{s with qn:=false,Q:=s.Q++[cw c]},true,0,false,true,[]⟩)
 else if c.op=61 then⟨{s with cnt:=if nM s.cnt c.value (ot==1) s.Q=true then s.cnt - c.value else s.cnt},false,0,nM s.cnt c.value (ot==1) s.Q,true,[]⟩
 else⟨s.rS (qM ot (s.cnt+c.value) s.Q).left (qM ot (s.cnt+c.value) s.Q).O,false,0,true,decide ((qM ot (s.cnt+c.value) s.Q).G=[]),(qM ot (s.cnt+c.value) s.Q).G.map vg⟩
theorem jf{b:Bool}{a r:Int}(ha:a≠0)(h:(if b=true then a else r)=0):b=false/\r=0:=by
 cases b
 .exact⟨rfl,by simpa using h⟩
 .exact absurd (by simpa using h) ha
set_option maxHeartbeats 4000000 in
theorem aqw(nm:D)(k sz ot:Int)(s:S)(c:Cl)(hz:sz<=100)(hc:0<=s.cnt/\s.cnt<=sz)(hq:dY s.Q=0)(hl:s.Q.length<96)(bZ:ev P (.call qu [.d (.ag [nm,I' k,I' sz,I' ot]),.d (.ag s.row)] [])=some (.val (.d (I' 0)) [])):
  rU (ev P (.call AB [.d (.ag [nm,I' k,I' sz,I' ot]),.d (.ag s.row),.d (.ag c.row)] [])) (DP sz s c) (VL ot s c):=by
 have bN:=aqv nm k sz ot s c hz hc (by omega)
 by_cases he:DP sz s c=0
 .refine .inl ⟨he,?_⟩
  rw[he]at bN;unfold DP at he;obtain⟨h1,he⟩:=jf (by decide) he
  obtain⟨h2,he⟩:=jf (by decide) he
  obtain⟨h3,_⟩:=jf (by decide) he
  simp at h3;have hv:0<=c.value/\c.value<=1000:=by omega
  have JC:0<=s.cnt/\s.cnt<=1000:=by omega
  have hop:c.op=60\/c.op=61\/c.op=62:=by simp at h2;omega
  rw[au Sx rfl];unfold VL;rcases hop with ho |ho |ho
  .have ug:dO (cw c)=true:=by
    unfold cG at h1;simp at h1;unfold dO kE cw;simp;omega
   have a1:=aqs s s.cnt s.qn s.Q (ot==1) c hv JC hq hl ug;rw[aK ho];obtain⟨b1,q1,e1⟩:∃b r,qD s.qn s.Q = .sl 5 b r:=⟨_,_,rfl⟩;obtain⟨b2,q2,e2⟩:∃b r,qD false (s.Q++[cw c]) = .sl 5 b r:=⟨_,_,rfl⟩;rw[e1]at a1;rw[e2]at a1;unfold kP at a1;simp only[S.row,e1]at bZ bN⊢;generalize nM s.cnt c.value (ot==1) s.Q=b at *;simp only[Cl.row,ho]at *;cases b
   .rw[aD (by simp)]at a1⊢
    simp only[Ry.row,e2];cases hb:ot==1<;>rw[hb]at a1 <;>
    simp[yZ,bZ,bN,hb,a1,aJ,aA,sub,aE,back,az,aq,ak,cut,bt,an,V.aZ]
   .rw[aK rfl]at a1⊢
    simp only[Ry.row,e1];cases hb:ot==1<;>rw[hb]at a1 <;>
    simp[yZ,bZ,bN,hb,a1,aJ,aA,sub,aE,back,az,aq,ak,cut,bt,an,V.aZ]
  .have a1:=aqt s s.cnt s.qn s.Q (ot==1) c hv JC
   rw[aD (by omega),aK ho]
   obtain⟨b1,q1,e1⟩:∃b r,qD s.qn s.Q = .sl 5 b r:=⟨_,_,rfl⟩;rw[e1]at a1;unfold kP at a1;simp only[S.row,e1]at bZ bN⊢;generalize nM s.cnt c.value (ot==1) s.Q=b at *;generalize (if b=true then s.cnt - c.value else s.cnt)=n at *
   simp only[Cl.row,ho,Ry.row,e1]at *;cases hb:ot==1<;>rw[hb]at a1 <;>
   simp[yZ,bZ,bN,hb,a1,aJ,aA,sub,aE,back,az,aq,ak,cut,bt,an,V.aZ]
  .have a1:=aqu s s.cnt s.qn s.Q (ot==1) c hv JC (by omega)
   have eg:dX (ot==1) ⟨false,s.cnt+c.value,[],[]⟩ s.Q=qM ot (s.cnt+c.value) s.Q:=rfl;rw[eg]at a1;rw[aD (by omega),aD (by omega)]
   generalize qM ot (s.cnt+c.value) s.Q=g at *;obtain⟨st,left,O,G⟩:=g;simp only[S.rS]at *;obtain⟨b1,q1,e1⟩:∃b r,qD s.qn s.Q = .sl 5 b r:=⟨_,_,rfl⟩;obtain⟨b2,q2,e2⟩:∃b r,qD (decide (O=[])) O = .sl 5 b r:=⟨_,_,rfl⟩;have e2':qO O = .sl 5 b2 q2:=e2;rw[e1,e2']at a1;unfold kP at a1;simp only[S.row,e1]at bZ bN⊢;simp only[Cl.row,ho,Ry.row,e2]at *;cases hb:ot==1<;>rw[hb]at a1;all_goals
    cases G with
    |nil =>
     simp only[JB,wH]at a1;simp[yZ,bZ,bN,hb,a1,aJ,aA,sub,aE,back,az,aq,ak,cut,bt,an,V.aZ]
    |cons a r =>
     simp[JB,wH,zY]at a1;simp[yZ,bZ,bN,hb,a1,vg,zY,Wk.row,aJ,aA,sub,aE,back,az,aq,ak,cut,bt,an,V.aZ,br,aY,bg,bk,cI,cz]
 .refine .inr ⟨he,?_⟩
  generalize DP sz s c=e at *;have he':(e != 0)=true:=by simpa using he
  have:ev P (.call AB [.d (.ag [nm,I' k,I' sz,I' ot]),.d (.ag s.row),.d (.ag c.row)] [])=some (.val (.tu [.d (.ag om),.d (I' e)]) []):=by
   rw[au Sx rfl];simp only[S.row,Cl.row]at *;simp[yZ,bZ,bN,he',az,aq]
  exact⟨_,_,_,_,_,_,_,_,_,_,_,_,_,this⟩
end Go.VS.Sp
namespace Go.VS.Sp
theorem o9{α β:Type}{f:α->β}{Q:List α}{x:β}:List.take (Q.length+1) (Q.map f++[x])=Q.map f++[x]:=gC (by simp)
def Aa(v:Int)(w:W):Wk:=⟨w.task,w.op,v,true,-1⟩
def fV:List W->V
 | []=>.d (.sl 5 true [])
 |_::r=>.aR 2 0 (r.length+1)
def BM(v:Int):List W->List O
 | []=>[]
 |a::r=>[.aG 5 true ((a::r).map λw=>(Aa v w).row)]
theorem aqx(c z:List D)(v:Int)(Q:List W)(b:Bool)(hQ:Q.length<=500):∀(suf pre:List W),Q=pre++suf ->
  ev P (.loop 0 [1,2,4,5,10,11,12] Mn [(1,.d (I' v)),(2,.loc 0 0 0),(4,.loc 1 0 0),(5,fV pre),(10,.d (qD b Q)),(11,.d (I' Q.length)),(12,.d (I' pre.length))] (.aG 9 true [c]::.aG 13 true [z]::BM v pre)) =
   some (.out (.exit 0) [(1,.d (I' v)),(2,.loc 0 0 0),(4,.loc 1 0 0),(5,fV Q)] (.aG 9 true [c]::.aG 13 true [z]::BM v Q)):=by
 intro suf;induction suf with
 |nil =>
  intro pre hl;have hlen:Q.length=pre.length:=by simp[hl]
  have e:pre=Q:=by simpa using hl.symm
  subst e;rw[bS]
  conv=>lhs;arg 4;unfold Mn
  cases pre<;>simp[fV,BM,aJ,aA,sub,aE,back,az,aq,ak,cut,bt,an,V.aZ,br,aY,bg,aN,aO,bk,cI,cz]
 |cons w suf ih =>
  intro pre hl;have hg:Q[pre.length]?=some w:=by simp[hl]
  have hlt:(pre.length:Int)<Q.length:=by simp[hl];omega
  have fm:pre.length<=500:=by omega
  have hnext:IntKind.i64.wrap ((pre.length:Int)+1)=pre.length+1:=wrap_i64 (by omega) (by omega)
  have jo:1<=room:=by decide
  have bB:=ih (pre++[w]) (by simp[hl])
  obtain⟨i,hi⟩:∃i,i=pre.length:=⟨_,rfl⟩;rw[show(pre++[w]).length=i+1 by simp[hi]]at bB
  rw[<-hi]at hg hlt hnext fm⊢;refine oA ?_ bB;clear bB;rw[bS]
  conv=>lhs;arg 4;unfold Mn
  cases pre with
  |nil=>simp[fV,BM,Aa,Wk.row,hlt,hg,W.row,hnext,jo,aJ,aA,sub,aE,back,az,aq,ak,cut,bt,an,V.aZ,br,aY,bg,aN,aO,bk,cI,cz]
  |cons a r =>
   have h1:r.length+1+1<=room:=by simp at hi;unfold room;omega
   clear hi;simp[fV,BM,Aa,Wk.row,hlt,hg,W.row,hnext,jo,h1,aJ,aA,sub,aE,back,az,aq,ak,cut,bt,an,V.aZ,br,aY,bg,aN,aO,bk,cI,cz]
theorem aqy(s:S)(v:Int)(hQ:s.Q.length<=500):ev P (.call QM [.d (.ag s.row),.d (I' v)] []) =
  some (.val (.d (.ag (Ry.row ⟨{s with cl:=true,val:=v,qn:=true,Q:=[]},false,0,true,decide (s.Q=[]),s.Q.map (Aa v)⟩))) []):=by
 have hL:=aqx s.row om v s.Q s.qn hQ s.Q [] rfl;rw[au aeN rfl];simp only[S.row,fV,BM,k9]at *;generalize hq:s.Q=Q at *;cases Q with
 |nil =>
  simp[fV,BM]at hL;simp[Mo,Ry.row,hL,aJ,aA,sub,aE,back,az,aq,ak,cut,bt,an,V.aZ,br,aY,bg,aN,aO]
 |cons a r =>
  simp[fV,BM,Aa,Wk.row]at hL;simp[Mo,Ry.row,Aa,Wk.row,hL,aJ,aA,sub,aE,back,az,aq,ak,cut,bt,an,V.aZ,br,aY,bg,aN,aO,bk,cI,cz]
theorem aqz(s:S)(c:Cl)(hq:s.qn=true->s.Q=[])(hQ:s.Q.length<=500):ev P (.call QN [.d (.ag s.row),.d (.ag c.row)] []) =
  some (.val (.d (.ag (Ry.row (if s.cl=true then⟨s,false,s.val,true,true,[]⟩else⟨{s with qn:=false,Q:=s.Q++[⟨c.task,74,0,c.prio,-1⟩]},true,0,false,true,[]⟩)))) []):=by
 have h0:=w7 s.qn s.Q hq (by omega)
 have hr:1<=room:=by decide
 have lM:s.Q.length+1<=room:=by unfold room;omega
 rw[au aeO rfl];obtain⟨own,cnt,time,hn',H,qn,Q,bn,B,cn,C,cl,val⟩:=s;simp only[S.row,Cl.row]at *;cases cl
 .rw[aD (by simp)]
  cases qn
  .rw[aD (by simp)]at h0
   simp[Hy,Ry.row,W.row,h0,hr,lM,o9,aJ,aA,sub,aE,back,az,aq,ak,cut,bt,an,V.aZ,br,aY,bg,aN,aO,bk,cI,cz]
  .rw[aK rfl]at h0
   obtain rfl:=hq rfl;simp[Hy,Ry.row,W.row,h0,hr,aJ,aA,sub,aE,back,az,aq,ak,cut,bt,an,V.aZ,br,aY,bg,aN,aO]
 .rw[aK rfl]
  simp[Hy,Ry.row,h0,hr,aJ,aA,sub,aE,back,az,aq,ak,cut,bt,an,V.aZ,br,aY,bg,aN,aO]
def VM(s:S)(c:Cl):Int:=if cG c then 2 else if(!(c.op==73)&&c.op != 74)then 8 else if(c.op==73&&!num c.value)then 2 else if(gQ s c.task||(c.op==73&&s.cl))then 17 else 0
def VN(s:S)(c:Cl):Ry :=
 if c.op=73 then⟨{s with cl:=true,val:=c.value,qn:=true,Q:=[]},false,0,true,decide (s.Q=[]),s.Q.map (Aa c.value)⟩
 else if s.cl=true then⟨s,false,s.val,true,true,[]⟩else⟨{s with qn:=false,Q:=s.Q++[⟨c.task,74,0,c.prio,-1⟩]},true,0,false,true,[]⟩
theorem aqA(s:S)(t:Int)(hn:s.Q.length<=1000000):ev P (.call KY [.d (.ag s.row),.d (I' t)] [])=some (.val (.d (.b (gQ s t))) []):=by
 obtain⟨i,hF⟩:=qg s t hn;rw[au aeM rfl];simp only[S.row]at *;simp[RT,hF]
theorem aqB(nm:D)(k sz ot:Int)(s:S)(c:Cl)(hq:s.qn=true->s.Q=[])(hQ:s.Q.length<=500)(bZ:ev P (.call pP [.d (.ag [nm,I' k,I' sz,I' ot]),.d (.ag s.row)] [])=some (.val (.d (I' 0)) [])):
  rU (ev P (.call Ck [.d (.ag [nm,I' k,I' sz,I' ot]),.d (.ag s.row),.d (.ag c.row)] [])) (VM s c) (VN s c):=by
 have hw:=aqA s c.task (by omega)
 have hc:=aqy s c.value hQ;have ha:=aqz s c hq hQ;rw[au XN rfl];unfold VM VN;generalize JC:(⟨{s with cl:=true,val:=c.value,qn:=true,Q:=[]},false,0,true,decide (s.Q=[]),s.Q.map (Aa c.value)⟩:Ry)=rc at *;generalize hra:(if s.cl=true then(⟨s,false,s.val,true,true,[]⟩:Ry)else⟨{s with qn:=false,Q:=s.Q++[⟨c.task,74,0,c.prio,-1⟩]},true,0,false,true,[]⟩)=ra at *
 clear JC hra;generalize gQ s c.task=b at *;simp only[S.row,Cl.row,Ry.row]at *;generalize bN:s.cl=cl at *;cases h1:cG c
 .rw[aD (by simp)]
  unfold cG at h1;cases h2:(!(c.op==73)&&c.op != 74)
  .rw[aD (by simp)]
   have ho:c.op=73\/c.op=74:=by simp at h2;omega
   rcases ho with ho |ho
   .rw[aK ho]
    cases h4:num c.value<;>cases b<;>cases cl<;>simp[Cy,CP,bZ,hw,hc,h1,ho,h4,aJ,aA,sub,aE,back,az,aq,ak,cut,bt,an,V.aZ,br,aY,bg,aN,aO]<;>first |exact .inl ⟨rfl,rfl⟩ |exact rU.er (by decide) rfl
   .rw[aD (show ¬c.op=73 by omega)]
    rw[ho]at ha;cases b<;>cases cl<;>simp[Cy,CP,bZ,hw,h1,ho,ha,aJ,aA,sub,aE,back,az,aq,ak,cut,bt,an,V.aZ,br,aY,bg,aN,aO]<;>first |exact .inl ⟨rfl,rfl⟩ |exact rU.er (by decide) rfl
  .rw[aK rfl]
   simp[Cy,bZ,h1,h2,aJ,aA,sub,aE,back,az,aq,ak,cut,bt,an,V.aZ,br,aY,bg,aN,aO];exact rU.er (by decide) rfl
 .rw[aK rfl]
  unfold cG at h1;simp[Cy,bZ,h1,aJ,aA,sub,aE,back,az,aq,ak,cut,bt,an,V.aZ,br,aY,bg,aN,aO];exact rU.er (by decide) rfl
end Go.VS.Sp
namespace Go.VS.Sp
theorem aqC(s:S)(t:Int)(hn:s.Q.length<=1000000):ev P (.call KN [.d (.ag s.row),.d (I' t)] [])=some (.val (.d (.b (gQ s t))) []):=by
 obtain⟨i,hF⟩:=qg s t hn;rw[au aep rfl];simp only[S.row]at *;simp[RF,hF]
theorem aqD(s:S)(c:Cl):ev P (.call K5 [.d (.ag s.row),.d (.ag c.row)] [])=some (.val (.d (.b (c.op==63))) []):=by
 rw[au aeZ rfl];simp[R3,S.row,Cl.row]
theorem aqE(s:S)(c:Cl):ev P (.call K6 [.d (.ag s.row),.d (.ag c.row)] [])=some (.val (.d (.b (decide (0<=c.task)&&decide (c.task<16)))) []):=by
 rw[au ae0 rfl];simp[R5,S.row,Cl.row]
theorem aqF(s:S)(c:Cl):ev P (.call K7 [.d (.ag s.row),.d (.ag c.row)] [])=some (.val (.d (.b (decide (0<=c.prio)&&decide (c.prio<=9)))) []):=by
 rw[au ae1 rfl];simp[R6,S.row,Cl.row]
theorem aqG(s:S)(c:Cl)(hn:s.Q.length<=1000000):ev P (.call K8 [.d (.ag s.row),.d (.ag c.row)] [])=some (.val (.d (.b (!gQ s c.task))) []):=by
 have h:=aqC s c.task hn;rw[au ae2 rfl];simp only[S.row,Cl.row]at *;simp[R7,h]
abbrev bRL:D:=.sl 2 false [[.fn K5 [] [],I' 8],[.fn K6 [] [],I' 2],[.fn K7 [] [],I' 2],[.fn K8 [] [],I' 17]]
theorem aqH:ev P (.call Qx [] [])=some (.val (.d bRL) []):=by
 rw[au aem rfl];simp[RD,az]
abbrev Ab(o:List D)(c:Cl)(i:Int):Env:=[(3,.d (.ref o)),(4,.loc 0 0 0),(5,.d (.ref c.row)),(6,.loc 1 0 0),(21,.d bRL),(22,.d (I' 4)),(23,.d (I' i))]
abbrev yC(s:S):List O:=[.aG 9 true [s.row],.aG 13 true [om]]
def xm(o:List D)(s:S)(c:Cl)(e:Int):Option ej :=
 if e=0 then some (.out (.exit 0) [(3,.d (.ref o)),(4,.loc 0 0 0),(5,.d (.ref c.row)),(6,.loc 1 0 0)] (yC s))else some (.out .ret [(6,.loc 0 0 0),(7,.d (I' e))] [.aG 13 true [om]])
def OU(s:S)(c:Cl):Int:=if gQ s c.task then 17 else 0
def OV(s:S)(c:Cl):Int:=if(decide (0<=c.prio)&&decide (c.prio<=9))=false then 2 else OU s c
def OW(s:S)(c:Cl):Int:=if(decide (0<=c.task)&&decide (c.task<16))=false then 2 else OV s c
def BN(s:S)(c:Cl):Int:=if(c.op==63)=false then 8 else OW s c
theorem aqI(o:List D)(s:S)(c:Cl)(hn:s.Q.length<=1000000):ev P (.loop 0 [3,4,5,6,21,22,23] rz (Ab o c 0) (yC s))=xm o s c (BN s c):=by
 have h1:=aqD s c;have h2:=aqE s c;have h3:=aqF s c;have h4:=aqG s c hn;have w1:IntKind.i64.wrap 1=1:=by decide
 have w2:IntKind.i64.wrap 2=2:=by decide
 have w3:IntKind.i64.wrap 3=3:=by decide
 have w4:IntKind.i64.wrap 4=4:=by decide
 simp only[S.row,Cl.row]at h1 h2 h3 h4;have g4:ev P (.loop 0 [3,4,5,6,21,22,23] rz (Ab o c 4) (yC s))=xm o s c 0:=by
  unfold xm;rw[aK rfl,bS]
  conv=>lhs;arg 4;unfold rz
  simp[ak,cut,bt,an]
 have g3:ev P (.loop 0 [3,4,5,6,21,22,23] rz (Ab o c 3) (yC s))=xm o s c (OU s c):=by
  unfold OU;cases hq:gQ s c.task
  .rw[hq]at h4
   rw[aD (by simp)]
   refine oA ?_ g4;rw[bS]
   conv=>lhs;arg 4;unfold rz
   simp[S.row,Cl.row,h4,w4,aJ,aA,sub,aE,back,az,aq,ak,cut,bt,an];rfl
  .rw[hq]at h4
   rw[aK rfl,bS]
   conv=>lhs;arg 4;unfold rz
   simp[xm,S.row,Cl.row,h4,aJ,aA,sub,aE,back,az,aq,ak,cut,bt,an]
 have g2:ev P (.loop 0 [3,4,5,6,21,22,23] rz (Ab o c 2) (yC s))=xm o s c (OV s c):=by
  unfold OV;cases hq:(decide (0<=c.prio)&&decide (c.prio<=9))
  .rw[hq]at h3
   rw[aK rfl,bS]
   conv=>lhs;arg 4;unfold rz
   simp[xm,S.row,Cl.row,h3,aJ,aA,sub,aE,back,az,aq,ak,cut,bt,an]
  .rw[hq]at h3
   rw[aD (by simp)]
   refine oA ?_ g3;rw[bS]
   conv=>lhs;arg 4;unfold rz
   simp[S.row,Cl.row,h3,w3,aJ,aA,sub,aE,back,az,aq,ak,cut,bt,an];rfl
 have g1:ev P (.loop 0 [3,4,5,6,21,22,23] rz (Ab o c 1) (yC s))=xm o s c (OW s c):=by
  unfold OW;cases hq:(decide (0<=c.task)&&decide (c.task<16))
  .rw[hq]at h2
   rw[aK rfl,bS]
   conv=>lhs;arg 4;unfold rz
   simp[xm,S.row,Cl.row,h2,aJ,aA,sub,aE,back,az,aq,ak,cut,bt,an]
  .rw[hq]at h2
   rw[aD (by simp)]
   refine oA ?_ g2;rw[bS]
   conv=>lhs;arg 4;unfold rz
   simp[S.row,Cl.row,h2,w2,aJ,aA,sub,aE,back,az,aq,ak,cut,bt,an];rfl
 unfold BN;cases hq:c.op==63
 .rw[hq]at h1
  rw[aK rfl,bS]
  conv=>lhs;arg 4;unfold rz
  simp[xm,S.row,Cl.row,h1,aJ,aA,sub,aE,back,az,aq,ak,cut,bt,an]
 .rw[hq]at h1
  rw[aD (by simp)]
  refine oA ?_ g1;rw[bS]
  conv=>lhs;arg 4;unfold rz
  simp[S.row,Cl.row,h1,w1,aJ,aA,sub,aE,back,az,aq,ak,cut,bt,an];rfl
end Go.VS.Sp
namespace Go.VS.Sp
def yD(i:Int)(w:W):Wk:=⟨w.task,63,i,true,-1⟩
abbrev VO(v:Int):O:=.aG 13 true [[I' 0,I' 0,I' 0,.sl 1 true [],.sl 5 true [],.sl 1 true [],.sl 2 true [],.b false,I' 0,.b false,I' v,.b true,.sl 5 true []]]
abbrev OX(v:Int)(i n:Nat):O:=.gJ 13 [[.d (I' 0),.d (I' 0),.d (I' 0),.d (.sl 1 true []),.d (.sl 5 true []),.d (.sl 1 true []),.d (.sl 2 true []),.d (.b false),.d (I' 0),.d (.b false),.d (I' v),.d (.b true),.aR i 0 n]]
def bO(v:Int):List Wk->List O
 | []=>[VO v]
 |a::r=>[OX v 1 (r.length+1),.aG 5 true ((a::r).map Wk.row)]
abbrev VP:O:=.lp [70,71] Hl Ho .normal [(11,.loc 1 0 0)]
def bL(v:Int):List Wk->List O
 | []=>[VP,VO v]
 |a::r=>[VP,OX v 2 (r.length+1),.aG 5 true ((a::r).map Wk.row)]
def bP(v:Int)(x:Wk):List Wk->List O
 | []=>[OX v 1 1,.aG 5 true [x.row]]
 |a::r=>[OX v 2 (r.length+1+1),.dead,.aG 5 true ((a::r).map Wk.row++[x.row])]
theorem aqJ(v i:Int)(w:W)(wn:List Wk)(hn:wn.length<=1000):
  ev P (.round [70,71] Hl Ho [.d (I' i),.d (.ag w.row)] [(11,.loc 0 0 0)] (bO v wn))=some (.out .normal [] (bP v (yD i w) wn)):=by
 have hr:1<=room:=by decide
 rw[P5];cases wn with
 |nil=>simp[Hl,Ho,Cf,Ce,bO,bP,yD,W.row,Wk.row,hr,aJ,aA,sub,aE,back,az,aq,ak,cut,bt,an,V.aZ,br,aY,bg,aN,aO,bk,cI,cz]
 |cons a r =>
  have h1:r.length+1+1<=room:=by simp at hn;unfold room;omega
  simp[Hl,Ho,Cf,Ce,bO,bP,yD,W.row,Wk.row,hr,h1,aJ,aA,sub,aE,back,az,aq,ak,cut,bt,an,V.aZ,br,aY,bg,aN,aO,bk,cI,cz]
end Go.VS.Sp
namespace Go.VS.Sp
def bws(k:Int):List W->List Wk
 | []=>[]
 |w::r=>yD k w::bws (k+1) r
theorem VQ:∀(l:List W)(k:Int),(bws k l).length=l.length
 | [],_=>rfl
 |_::r,k=>by simp[bws,VQ r]
theorem aqK(w:W):∀(l:List W)(k:Int),bws k (l++[w])=bws k l++[yD (k+l.length) w]
 | [],k=>by simp[bws]
 |a::r,k=>by
  simp only[sW,bws,aqK w r,iy]
  have:k+1+(r.length:Int)=k+((r.length+1:Nat):Int):=by omega
  rw[this]
theorem aqL(v:Int)(Q:List W)(b:Bool)(hQ:Q.length<=500):∀(suf pre:List W),Q=pre++suf ->
  ev P (.loop 2 [0,5,6,7] HB [(0,.jh 0),(5,.d (qD b Q)),(6,.d (I' Q.length)),(7,.d (I' pre.length))] (bL v (bws 0 pre)))=some (.out (.exit 0) [] (bL v (bws 0 Q))):=by
 intro suf;induction suf with
 |nil =>
  intro pre hl;have hlen:Q.length=pre.length:=by simp[hl]
  have e:pre=Q:=by simpa using hl.symm
  subst e;rw[bS]
  conv=>lhs;arg 4;unfold HB
  cases bws 0 pre<;>simp[bL,aJ,aA,sub,aE,back,az,aq,ak,cut,bt,an,V.aZ,br,aY,bg,aN,aO,bk,cI,cz]
 |cons w suf ih =>
  intro pre hl;have hg:Q[pre.length]?=some w:=by simp[hl]
  have hlt:(pre.length:Int)<Q.length:=by simp[hl];omega
  have fm:pre.length<=500:=by omega
  have hnext:IntKind.i64.wrap ((pre.length:Int)+1)=pre.length+1:=wrap_i64 (by omega) (by omega)
  have bB:=ih (pre++[w]) (by simp[hl])
  rw[aqK,Int.zero_add]at bB;have OY:=VQ pre 0;have hr:=aqJ v pre.length w (bws 0 pre) (by omega)
  obtain⟨i,hi⟩:∃i,i=pre.length:=⟨_,rfl⟩;rw[show(pre++[w]).length=i+1 by simp[hi]]at bB
  rw[<-hi]at hg hlt hnext fm hr bB⊢;refine oA ?_ bB;clear bB ih;rw[bS]
  conv=>lhs;arg 4;unfold HB
  cases hwn:bws 0 pre with
  |nil =>
   rw[hwn]at hr;simp[bO,bP,yD,W.row,Wk.row]at hr;simp[bL,hlt,hg,hr,yD,W.row,Wk.row,hnext,oD,aJ,aA,sub,aE,back,az,aq,ak,cut,bt,an,V.aZ,br,aY,bg,aN,aO,bk,cI,cz]
  |cons a r =>
   rw[hwn]at hr;simp[bO,bP,yD,W.row,Wk.row]at hr;simp[bL,hlt,hg,hr,yD,W.row,Wk.row,hnext,oD,aJ,aA,sub,aE,back,az,aq,ak,cut,bt,an,V.aZ,br,aY,bg,aN,aO,bk,cI,cz]
theorem aqM(v:Int)(Q:List W)(b:Bool)(hQ:Q.length<=500):
  ev P (.call K9 [.jh 0,.d (.ref [qD b Q])] (bL v []))=some (.val (.tu []) (bL v (bws 0 Q))):=by
 have hL:=aqL v Q b hQ Q [] rfl;rw[au ae3 rfl];have hL:ev P (.loop 2 [0,5,6,7] HB [(0,.jh 0),(5,.d (qD b Q)),(6,.d (I' Q.length)),(7,.d (I' 0))] [VP,VO v])=some (.out (.exit 0) [] (bL v (bws 0 Q))):=hL;cases hwn:bws 0 Q with
 |nil =>
  rw[hwn]at hL;simp only[bL]at hL;simp[Mw,bL,hL,aJ,aA,sub,aE,back,az,aq,ak,cut,bt,an,V.aZ,br,aY,bg,aN,aO]
 |cons a r =>
  rw[hwn]at hL;simp only[bL]at hL;simp[Mw,bL,hL,aJ,aA,sub,aE,back,az,aq,ak,cut,bt,an,V.aZ,br,aY,bg,aN,aO]
theorem aqN(b:Bool)(Q:List W):ev P (.call Qz [.d (qD b Q)] [])=some (.val (.d (.fn K9 [] [.ref [qD b Q]])) []):=by
 rw[au aeo rfl];simp[RE,az,ak,cut,bt,an]
def OZ(sz:Int)(s:S)(c:Cl):Int:=if BN s c≠0 then BN s c else if ¬((s.Q.length:Int)+1<sz)/\s.cnt=1099511627776 then 4 else 0
def O0(sz:Int)(s:S)(c:Cl):Ry :=
 if(s.Q.length:Int)+1<sz then⟨{s with qn:=false,Q:=s.Q++[⟨c.task,c.op,0,c.prio,-1⟩]},true,0,false,true,[]⟩
 else⟨{s with qn:=true,Q:=[],cnt:=s.cnt+1},false,sz - 1,true,decide (s.Q=[]),bws 0 s.Q⟩
theorem aqO(nm:D)(k sz ot:Int)(s:S)(c:Cl)(hz:1<=sz/\sz<=100)(hc:0<=s.cnt/\s.cnt<=1099511627776)(hq:s.qn=true->s.Q=[])(hQ:s.Q.length<=500)(bZ:ev P (.call oF [.d (.ag [nm,I' k,I' sz,I' ot]),.d (.ag s.row)] [])=some (.val (.d (I' 0)) [])):
  rU (ev P (.call Ci [.d (.ag [nm,I' k,I' sz,I' ot]),.d (.ag s.row),.d (.ag c.row)] [])) (OZ sz s c) (O0 sz s c):=by
 have hR:=aqH;have hL:=aqI [nm,I' k,I' sz,I' ot] s c (by omega)
 unfold xm at hL;have hw:IntKind.i64.wrap ((s.Q.length:Int)+1)=s.Q.length+1:=wrap_i64 (by omega) (by omega)
 rw[au XI rfl];unfold OZ;by_cases he:BN s c=0
 .rw[aD (by simpa using he)]
  rw[aK he]at hL;by_cases hlt:(s.Q.length:Int)+1<sz
  .rw[aD (λh=>h.1 hlt)]
   refine .inl ⟨rfl,?_⟩;unfold O0;rw[aK hlt];have h0:=w7 s.qn s.Q hq (by omega)
   have hr:1<=room:=by decide
   have lM:s.Q.length+1<=room:=by unfold room;omega
   obtain⟨own,cnt,time,hn',H,qn,Q,bn,B,cn,C,cl,val⟩:=s;simp only[yC,Ab,S.row,Cl.row,Ry.row]at *;cases qn
   .rw[aD (by simp)]at h0
    simp only[qD]at *;simp[y4,bZ,hR,hL,hw,hlt,h0,hr,lM,o9,W.row,aJ,aA,sub,aE,back,az,aq,ak,cut,bt,an,V.aZ,br,aY,bg,aN,aO,bk,cI,cz]
   .rw[aK rfl]at h0
    obtain rfl:=hq rfl;simp only[qD,gn]at *;simp at hlt;have w11:IntKind.i64.wrap 1=1:=by decide
    simp[y4,bZ,hR,hL,w11,hlt,h0,hr,lM,o9,W.row,aJ,aA,sub,aE,back,az,aq,ak,cut,bt,an,V.aZ,br,aY,bg,aN,aO,bk,cI,cz]
  .by_cases yj:s.cnt=1099511627776
   .rw[aK ⟨hlt,yj⟩]
    simp only[yC,Ab,S.row,Cl.row]at *;have O1:(s.cnt==1099511627776)=true:=by simpa using yj
    simp[y4,bZ,hR,hL,hw,hlt,O1,aJ,aA,sub,aE,back,az,aq,ak,cut,bt,an,V.aZ,br,aY,bg,aN,aO];exact rU.er (by decide) rfl
   .rw[aD (λh=>yj h.2)]
    refine .inl ⟨rfl,?_⟩;unfold O0;rw[aD hlt];have hN:=aqM (sz - 1) s.Q s.qn hQ;have hd:=aqN s.qn s.Q;have O1:(s.cnt==1099511627776)=false:=by simpa using yj
    have w1:IntKind.i64.wrap (sz - 1)=sz - 1:=wrap_i64 (by omega) (by omega)
    have w2:IntKind.i64.wrap (s.cnt+1)=s.cnt+1:=wrap_i64 (by omega) (by omega)
    have Iw:decide (s.Q=[])=decide (bws 0 s.Q=[]):=by cases s.Q<;>simp[bws]
    rw[Iw];simp only[yC,Ab,S.row,Cl.row,Ry.row]at *;generalize bws 0 s.Q=wn at *;cases wn with
    |nil =>
     simp only[bL]at hN;simp[y4,bZ,hR,hL,hw,hlt,O1,hN,hd,w1,w2,aJ,aA,sub,aE,back,az,aq,ak,cut,bt,an,V.aZ,br,aY,bg,aN,aO]
    |cons a r =>
     simp only[bL]at hN;simp[y4,bZ,hR,hL,hw,hlt,O1,hN,hd,w1,w2,aJ,aA,sub,aE,back,az,aq,ak,cut,bt,an,V.aZ,br,aY,bg,aN,aO,bk,cI,cz]
 .rw[aK he]
  rw[aD he]at hL;simp only[yC,Ab,S.row,Cl.row]at *;simp[y4,bZ,hR,hL,aJ,aA,sub,aE,back,az,aq,ak,cut,bt,an,V.aZ,br,aY,bg,aN,aO];exact rU.er he rfl
end Go.VS.Sp
namespace Go.VS.Sp
theorem aqP(q:List W)(hn:q.length<=1000000):
  ev P (.call Qy [.d (.sl 5 false (q.map W.row))] [])=some (.val (.d (.sl 5 false (q.map W.row))) []):=by
 have hr:q.length<=room:=by unfold room;omega
 rw[au aen rfl];cases q with
 |nil=>simp[Md,qw,eK,fN,ak,cut,az]
 |cons a r =>
  simp at hr;simp[Md,qw,eK,fN,ak,cut,hr,az,bk]
def pe(w:W):Wk:=⟨w.task,72,0,true,-1⟩
def eX:List W->Int->List W×Int×List W
 | [],n=>([],n,[])
 |w::r,n=>if w.value<=n then((eX r (n - w.value)).1,(eX r (n - w.value)).2.1,w::(eX r (n - w.value)).2.2)else(w::r,n,[])
abbrev lpL:O:=.lp [32,33] Hp Hq .normal [(4,.loc 2 0 0),(10,.loc 3 0 0)]
abbrev O2(i n:Nat):O:=.gJ 13 [[.d (I' 0),.d (I' 0),.d (I' 0),.d (.sl 1 true []),.d (.sl 5 true []),.d (.sl 1 true []),.d (.sl 2 true []),.d (.b false),.d (I' 0),.d (.b false),.d (I' 0),.d (.b false),.aR i 0 n]]
def lO(u:List D):List Wk->List O
 | []=>[.aG 9 true [u],.aG 13 true [om]]
 |a::r=>[.aG 9 true [u],O2 2 (r.length+1),.aG 5 true ((a::r).map Wk.row)]
def lL(t u:List D):List Wk->List O
 | []=>[lpL,.aG 9 true [t],.aG 9 true [u],.aG 13 true [om]]
 |a::r=>[lpL,.aG 9 true [t],.aG 9 true [u],O2 4 (r.length+1),.aG 5 true ((a::r).map Wk.row)]
def lP(u:List D)(x:Wk):List Wk->List O
 | []=>[.aG 9 true [u],O2 2 1,.aG 5 true [x.row]]
 |a::r=>[.aG 9 true [u],O2 3 (r.length+1+1),.dead,.aG 5 true ((a::r).map Wk.row++[x.row])]
theorem aqQ(w:W)(t u:S)(wn:List Wk)(hn:wn.length<=1000):
  ev P (.round [32,33] Hp Hq [.d (.ag w.row),.d (.ag t.row)] [(4,.loc 0 0 0),(10,.loc 1 0 0)] (lO u.row wn))=some (.out .normal [] (lP t.row (pe w) wn)):=by
 have hr:1<=room:=by decide
 rw[P5];cases wn with
 |nil=>simp[Hp,Hq,Cf,Ce,lO,lP,pe,S.row,W.row,Wk.row,hr,aJ,aA,sub,aE,back,az,aq,ak,cut,bt,an,V.aZ,br,aY,bg,aN,aO,bk,cI,cz]
 |cons a r =>
  have h1:r.length+1+1<=room:=by simp at hn;unfold room;omega
  simp[Hp,Hq,Cf,Ce,lO,lP,pe,S.row,W.row,Wk.row,hr,h1,aJ,aA,sub,aE,back,az,aq,ak,cut,bt,an,V.aZ,br,aY,bg,aN,aO,bk,cI,cz]
def S.lt(t:S)(Q:List W)(n:Int):S:={t with Q:=Q,cnt:=n}
theorem aqR(t:S):∀(Q:List W)(n:Int)(wn:List Wk),(t.qn=true->Q=[])->0<=n/\n<=1000->(∀w∈Q,0<=w.value/\w.value<=1000)->wn.length+Q.length<=500 ->
  ev P (.loop 4 [0,1] HC [(0,.jh 0),(1,.loc 1 0 0)] (lL (t.lt Q n).row (t.lt Q n).row wn)) =
   some (.out (.exit 0) [] (lL (t.lt (eX Q n).1 (eX Q n).2.1).row (t.lt (eX Q n).1 (eX Q n).2.1).row (wn++(eX Q n).2.2.map pe)))
 | [],n,wn,_,_,_,_=>by
  rw[bS]
  conv=>lhs;arg 4;unfold HC
  cases wn<;>simp[eX,lL,S.lt,S.row,aJ,aA,sub,aE,back,az,aq,ak,cut,bt,an,V.aZ,br,aY,bg,aN,aO]
 |w::r,n,wn,hq,hn,hv,hl=>by
  have yz:t.qn=false:=by
   cases h:t.qn
   .rfl
   .have:=hq h;simp at this
  have hlen:(0:Int)<(r.length:Int)+1:=by omega
  have sE:(1:Int)<=(r.length:Int)+1:=by omega
  have hw:=hv w (by simp)
  unfold eX;by_cases hle:w.value<=n
  .have bB:=aqR t r (n - w.value) (wn++[pe w]) (λh=>by rw[yz]at h;cases h) (by omega) (λx hx=>hv x (by simp[hx])) (by simp at hl⊢;omega)
   rw[aK hle];simp only[gk];rw[show wn++pe w::(eX r (n - w.value)).2.2.map pe=(wn++[pe w])++(eX r (n - w.value)).2.2.map pe by simp]
   refine oA ?_ bB;clear bB;have hc:=aqP r (by simp at hl;omega)
   have jm:IntKind.i64.wrap (n - w.value)=n - w.value:=wrap_i64 (by omega) (by omega)
   have hR:=aqQ w (t.lt r (n - w.value)) (t.lt (w::r) n) wn (by omega)
   rw[bS]
   conv=>lhs;arg 4;unfold HC
   cases wn with
   |nil =>
    simp[lO,lP,pe,S.lt,S.row,W.row,Wk.row,yz]at hR;simp[lL,pe,S.lt,S.row,W.row,Wk.row,yz,hR,hc,hle,hlen,sE,jm,oD,aJ,aA,sub,aE,back,az,aq,ak,cut,bt,an,V.aZ,br,aY,bg,aN,aO,bk,cI,cz]
   |cons a wn =>
    simp[lO,lP,pe,S.lt,S.row,W.row,Wk.row,yz]at hR;simp[lL,pe,S.lt,S.row,W.row,Wk.row,yz,hR,hc,hle,hlen,sE,jm,oD,aJ,aA,sub,aE,back,az,aq,ak,cut,bt,an,V.aZ,br,aY,bg,aN,aO,bk,cI,cz]
  .rw[aD hle]
   rw[bS]
   conv=>lhs;arg 4;unfold HC
   cases wn<;>simp[lL,S.lt,S.row,W.row,yz,hle,hlen,aJ,aA,sub,aE,back,az,aq,ak,cut,bt,an,V.aZ,br,aY,bg,aN,aO]
end Go.VS.Sp
namespace Go.VS.Sp
theorem aqS(s:S)(t:Int)(hn:s.Q.length<=1000000):ev P (.call KV [.d (.ag s.row),.d (I' t)] [])=some (.val (.d (.b (gQ s t))) []):=by
 obtain⟨i,hF⟩:=qg s t hn;rw[au aeK rfl];simp only[S.row]at *;simp[RQ,hF]
def Ac(sz:Int)(c:Cl):Bool:=decide (c.task<0)||decide (16<=c.task)||decide (c.prio<0)||decide (9<c.prio)||decide (c.value<1)||decide (sz<c.value)
def DQ(sz:Int)(s:S)(c:Cl):Int:=if(c.op != 72&&c.op != 75)then 8 else if(decide (c.now<s.time)||decide (1099511627776<c.now))then 2 else if c.op==75 then 0 else if Ac sz c then 2 else if gQ s c.task then 17 else 0
theorem aqT(nm:D)(k sz ot:Int)(s:S)(c:Cl)(hn:s.Q.length<=1000000)(bZ:ev P (.call nT [.d (.ag [nm,I' k,I' sz,I' ot]),.d (.ag s.row)] [])=some (.val (.d (I' 0)) [])):
  ev P (.call KU [.d (.ag [nm,I' k,I' sz,I' ot]),.d (.ag s.row),.d (.ag c.row)] [])=some (.val (.d (I' (DQ sz s c))) []):=by
 have hw:=aqS s c.task hn;rw[au X0 rfl];unfold DQ;simp only[S.row,Cl.row]at *;cases h1:(c.op != 72&&c.op != 75)
 .rw[aD (by simp)]
  cases h2:(decide (c.now<s.time)||decide (1099511627776<c.now))
  .rw[aD (by simp)]
   have ho:c.op=72\/c.op=75:=by simp at h1;omega
   rcases ho with ho |ho
   .cases h3:Ac sz c<;>unfold Ac at h3
    .cases h4:gQ s c.task<;>rw[h4]at hw<;>simp[AO,bZ,h1,h2,ho,h3,hw]
    .simp[AO,bZ,h1,h2,ho,h3]
   .simp[AO,bZ,h2,ho]
  .rw[aK rfl]
   simp[AO,bZ,h1,h2]
 .rw[aK rfl]
  simp[AO,bZ,h1]
theorem aqU(nm:D)(k sz ot now:Int)(s:S)(h1:0<=s.time/\s.time<=now/\now<=1099511627776)(h2:1<=ot/\ot<=1099511627776)(h3:0<=s.cnt/\s.cnt<=sz/\sz<=100):
  ev P (.call QK [.d (.ag (nm::I' k::I' sz::I' ot::s.row)),.d (I' now)] [])=some (.val (.d (.ag (tZ sz ot now s).row)) []):=by
 rw[au aeI rfl];obtain⟨k0,k1,k2⟩:=H7 (a:=now - s.time) (b:=ot) (by omega) h2.1
 have lG:¬ot=0:=by omega
 have w0:IntKind.i64.wrap (now - s.time)=now - s.time:=wrap_i64 (by omega) (by omega)
 have ht:(now - s.time).tdiv ot=(now - s.time) / ot:=Wv (by omega)
 unfold tZ;generalize hkk:(now - s.time) / ot=q at *;have w1:IntKind.i64.wrap q=q:=wrap_i64 (by omega) (by omega)
 have w3:IntKind.i64.wrap (s.cnt+q)=s.cnt+q:=wrap_i64 (by omega) (by omega)
 have h0q:0<=q*ot:=Gu k0 (by omega)
 have w4:IntKind.i64.wrap (q*ot)=q*ot:=wrap_i64 (by omega) (by omega)
 have w5:IntKind.i64.wrap (s.time+q*ot)=s.time+q*ot:=wrap_i64 (by omega) (by omega)
 by_cases h:sz<=s.cnt+q
 .rw[aK h]
  simp only[S.row]at *;simp[Mm,lG,w0,ht,w1,w3,w4,w5,h,aJ,aA,sub,aE,back,az,aq,ak,cut,bt,an,V.aZ,br,aY,bg,aN,aO]
 .rw[aD h]
  simp only[S.row]at *;simp[Mm,lG,w0,ht,w1,w3,w4,w5,h,aJ,aA,sub,aE,back,az,aq,ak,cut,bt,an,V.aZ,br,aY,bg,aN,aO]
theorem aqV(s:S):
  ev P (.call QL [.d (.ag s.row)] [])=some (.val (.fn Lg [] [.loc 0 0 0]) [.aG 9 true [s.row]]):=by
 rw[au aeJ rfl];simp only[S.row]at *;simp[RP,aJ,aA,sub,aE,back,az,aq,ak,cut,bt,an,V.aZ,br,aY,bg,aN,aO]
theorem aqW(t:S)(hq:t.qn=true->t.Q=[])(hn:0<=t.cnt/\t.cnt<=1000)(hv:∀w∈t.Q,0<=w.value/\w.value<=1000)(hl:t.Q.length<=500):
  ev P (.call Lg [.jh 0,.loc 1 0 0] (lL t.row t.row []))=some (.val (.tu []) (lL (t.lt (eX t.Q t.cnt).1 (eX t.Q t.cnt).2.1).row (t.lt (eX t.Q t.cnt).1 (eX t.Q t.cnt).2.1).row ((eX t.Q t.cnt).2.2.map pe))):=by
 have hL:=aqR t t.Q t.cnt [] hq hn hv (by simpa using hl)
 have e:t.lt t.Q t.cnt=t:=rfl;rw[e]at hL;rw[au afg rfl];simp only[mu]at hL;generalize (eX t.Q t.cnt).2.2.map pe=wn at *;generalize t.lt (eX t.Q t.cnt).1 (eX t.Q t.cnt).2.1=u at *;cases wn<;>simp only[lL,S.row]at hL<;>simp[Sh,lL,S.row,hL,aJ,aA,sub,aE,back,az,aq,ak,cut,bt,an,V.aZ,br,aY,bg,aN,aO]
def nK(t:S):S:=t.lt (eX t.Q t.cnt).1 (eX t.Q t.cnt).2.1
def JD(t:S):List Wk:=(eX t.Q t.cnt).2.2.map pe
def VR(t:S)(wn:List Wk)(c:Cl):Ry :=
 if c.op=75 then⟨t,false,0,true,decide (wn=[]),wn⟩
 else if t.Q=[]/\c.value<=t.cnt then⟨{t with cnt:=t.cnt - c.value},false,0,true,decide (wn=[]),wn⟩
 else⟨{t with qn:=false,Q:=t.Q++[⟨c.task,72,c.value,c.prio,-1⟩]},true,0,false,decide (wn=[]),wn⟩
def VT(sz ot:Int)(s:S)(c:Cl):Ry:=VR (nK (tZ sz ot c.now s)) (JD (tZ sz ot c.now s)) c
theorem aqX:∀(Q:List W)(n:Int),0<=n->(∀w∈Q,0<=w.value)->0<=(eX Q n).2.1/\(eX Q n).2.1<=n/\(eX Q n).1.length<=Q.length
 | [],n,h,_=>by simp[eX];omega
 |w::r,n,h,hv=>by
  unfold eX;have:=hv w (by simp)
  split
  .have:=aqX r (n - w.value) (by omega) λx hx=>hv x (by simp[hx])
   simp only[iy];omega
  .simp only;omega
theorem aqY(nm:D)(k sz ot:Int)(s:S)(c:Cl)(h2:1<=ot/\ot<=1099511627776)(h3:0<=s.cnt/\s.cnt<=sz/\sz<=100)(h1:0<=s.time)(hq:s.qn=true->s.Q=[])(hQ:s.Q.length<=500)(hv:∀w∈s.Q,0<=w.value/\w.value<=1000)
  (bZ:ev P (.call nT [.d (.ag [nm,I' k,I' sz,I' ot]),.d (.ag s.row)] [])=some (.val (.d (I' 0)) [])):
  rU (ev P (.call Cj [.d (.ag [nm,I' k,I' sz,I' ot]),.d (.ag s.row),.d (.ag c.row)] [])) (DQ sz s c) (VT sz ot s c):=by
 have hc:=aqT nm k sz ot s c (by omega) bZ
 rw[au XL rfl];by_cases he:DQ sz s c=0
 .refine .inl ⟨he,?_⟩
  rw[he]at hc;unfold DQ at he;obtain⟨e1,he⟩:=jf (by decide) he
  obtain⟨e2,he⟩:=jf (by decide) he
  simp at e1 e2;have hr:=aqU nm k sz ot c.now s ⟨h1,by omega,by omega⟩ h2 h3
  unfold VT;have ht:(tZ sz ot c.now s).Q=s.Q/\(tZ sz ot c.now s).qn=s.qn/\0<=(tZ sz ot c.now s).cnt/\(tZ sz ot c.now s).cnt<=sz:=by
   obtain⟨k0,-,-⟩:=H7 (a:=c.now - s.time) (b:=ot) (by omega) h2.1
   unfold tZ;split
   .exact⟨rfl,rfl,by simp only;omega⟩
   .exact⟨rfl,rfl,by simp only;omega⟩
  generalize tZ sz ot c.now s=t at *;obtain⟨t1,t2,t3⟩:=ht;have hs:=aqV t;have hy:=aqW t (by rw[t1,t2];exact hq) (by omega) (by rw[t1];exact hv) (by rw[t1];omega)
  have hb:=aqX t.Q t.cnt (by omega) (by rw[t1];exact λw hw=>(hv w hw).1)
  have hu:(nK t).Q.length<=500/\0<=(nK t).cnt/\(nK t).cnt<=sz/\((nK t).qn=true->(nK t).Q=[]):=by
   rw[t1]at hb;refine⟨?_,?_,?_,λh=>?_⟩
   .unfold nK S.lt;simp only;rw[t1];omega
   .unfold nK S.lt;simp only;rw[t1];omega
   .unfold nK S.lt;simp only;rw[t1];omega
   .have:t.Q=[]:=by rw[t1];exact hq (by rw[<-t2];exact h)
    unfold nK S.lt;simp[this,eX]
  have e3:t.lt (eX t.Q t.cnt).1 (eX t.Q t.cnt).2.1=nK t:=rfl;have e4:(eX t.Q t.cnt).2.2.map pe=JD t:=rfl;rw[e3,e4]at hy;obtain⟨u1,u2,u3,u4⟩:=hu;generalize nK t=u at *;generalize JD t=wn at *;have h0:=w7 u.qn u.Q u4 (by omega)
  have H8:1<=room:=by decide
  have VU:u.Q.length+1<=room:=by unfold room;omega
  unfold VR;rcases(show c.op=72\/c.op=75 by omega)with ho |ho
  .have jm:IntKind.i64.wrap (u.cnt - c.value)=u.cnt - c.value:=by
    unfold Ac at he;rw[ho]at he;simp at he;obtain⟨e5,_⟩:=jf (b:=Ac sz c) (a:=2) (by decide) (by unfold Ac;simpa using he)
    unfold Ac at e5;simp at e5;exact wrap_i64 (by omega) (by omega)
   rw[aD (by omega)]
   obtain⟨own,cnt,time,hn',H,qn,Q,bn,B,cn,C,cl,val⟩:=u;simp only[S.row,Cl.row,Ry.row,ho]at *;by_cases hle:c.value<=cnt
   .cases Q with
    |nil =>
     rw[aK ⟨rfl,hle⟩];cases wn<;>simp only[lL]at hy<;>simp[y5,hc,hr,hs,hy,hle,jm,aJ,aA,sub,aE,back,az,aq,ak,cut,bt,an,V.aZ,br,aY,bg,aN,aO,bk,cI,cz]
    |cons a r =>
     rw[aD (by simp)]
     have yz:qn=false:=by
      cases qn
      .rfl
      .have:=u4 rfl;simp at this
     subst yz;rw[aD (by simp)]at h0
     have hne:((r.length:Int)+1==0)=false:=by simp;omega
     simp only[qD]at *;simp[W.row]at h0;have aqZ:r.length+1+1<=room:=by simpa using VU
     cases wn<;>simp only[lL]at hy<;>simp[y5,hc,hr,hs,hy,hle,hne,h0,H8,aqZ,o9,W.row,aJ,aA,sub,aE,back,az,aq,ak,cut,bt,an,V.aZ,br,aY,bg,aN,aO,bk,cI,cz]
   .rw[aD (λh=>hle h.2)]
    cases qn
    .rw[aD (by simp)]at h0
     simp only[qD]at *;cases hz:((Q.length:Int)==0)<;>cases wn<;>simp only[lL]at hy<;>simp[y5,hc,hr,hs,hy,hle,hz,h0,H8,VU,o9,W.row,aJ,aA,sub,aE,back,az,aq,ak,cut,bt,an,V.aZ,br,aY,bg,aN,aO,bk,cI,cz]
    .rw[aK rfl]at h0
     obtain rfl:=u4 rfl;simp only[qD,gn]at *;cases wn<;>simp only[lL]at hy<;>simp[y5,hc,hr,hs,hy,hle,h0,H8,VU,o9,W.row,aJ,aA,sub,aE,back,az,aq,ak,cut,bt,an,V.aZ,br,aY,bg,aN,aO,bk,cI,cz]
  .rw[aK ho]
   simp only[S.row,Cl.row,Ry.row,ho]at *;cases wn<;>simp only[lL]at hy<;>simp[y5,hc,hr,hs,hy,aJ,aA,sub,aE,back,az,aq,ak,cut,bt,an,V.aZ,br,aY,bg,aN,aO,bk,cI,cz]
 .generalize DQ sz s c=e at *
  have he':(e != 0)=true:=by simpa using he
  simp only[S.row,Cl.row]at *;simp[y5,hc,he',aJ,aA,sub,aE,back,az,aq,ak,cut,bt,an,V.aZ,br,aY,bg,aN,aO];exact rU.er he rfl
end Go.VS.Sp
namespace Go.VS.Sp
theorem aq0(t a:Int)(b:Bool)(l:List Int)(c2 c3 c4 c5:D):ev P (.call GW [.d (.ag [I' a,hD b l]),.d (.ref [I' t,c2,c3,c4,c5])] [])=some (.val (.d (.b (a==t))) []):=by
 rw[au ad4 rfl];simp[Ru]
def iN(s:S)(c:Cl):Bool :=
 if c.op=70 then(match mD s.C c.task with |some x=>x.log.isEmpty |none=>true)else c.op==63||(c.op==65&&s.B.isEmpty)
def gB(c:Cl)(r:Ry):List Cp:=if r.pk=true then[]else[⟨c,⟨c.task,c.op,r.v,r.ok,-1⟩⟩]
def ng(k:Int)(s:S)(c:Cl)(r:Ry):List Cp :=
 if k=8 then⟨{c with op:=75},⟨c.task,75,0,true,-1⟩⟩::(r.wl.map (fJ s.Q c.now)++(if c.op=75 then[]else gB c r))
 else if iN s c=true then r.wl.map (fJ s.Q c.now)++gB c r else gB c r++r.wl.map (fJ s.Q c.now)
theorem O3{α:Type}(l:List α):((l.length:Int)==0)=l.isEmpty:=by cases l<;>simp;omega
set_option maxHeartbeats 4000000 in
theorem aq1(nm:D)(k sz ot:Int)(s:S)(c:Cl)(r:Ry)(hQ:s.Q.length<=500)(hC:s.C.length<=500)(hl:r.wl.length<=500):
  ev P (.call Qj [.d (.ag [nm,I' k,I' sz,I' ot]),.d (.ag s.row),.d (.ag c.row),.d (.ag r.row)] [])=some (.val (.d (m9 (decide (ng k s c r=[])) (ng k s c r))) []):=by
 have xh:=apB s c.now r.bw r.wl hQ hl;have JE:∀(b1 b2:Bool)(A B:List Cp),A.length+B.length<=600->ev P (.call Cm [.d (.sl 1 false [[m9 b1 A],[m9 b2 B]])] [])=some (.val (.d (m9 (decide (A++B=[])) (A++B))) []):=λb1 b2 A B h=>by
  have:=apI [(b1,A),(b2,B)] (by simp[tot];omega)
  simpa[cat,DM]using this
 have VV:∀(b1 b2 b3:Bool)(A B C:List Cp),A.length+B.length+C.length<=600->ev P (.call Cm [.d (.sl 1 false [[m9 b1 A],[m9 b2 B],[m9 b3 C]])] [])=some (.val (.d (m9 (decide (A++(B++C)=[])) (A++(B++C)))) []):=λb1 b2 b3 A B C h=>by
  have:=apI [(b1,A),(b2,B),(b3,C)] (by simp[tot];omega)
  simpa[cat,DM]using this
 have hI:=SK (f:=GW) (first:=[]) (caps:=[.ref c.row]) (p:=λx=>x.task==c.task) s.cn s.C (by omega) (by intro a b l;simp[Cl.row,aq0])
 have hI:ev P (.call Ef [.d (cD s.cn s.C),.d (.fn GW [] [.ref c.row])] [])=some (.val (.d (I' (jR s.C c.task))) []):=hI;have yd:(r.wl.map (fJ s.Q c.now)).length<=500:=by simpa using hl
 rw[au adP rfl];unfold ng;generalize r.wl.map (fJ s.Q c.now)=yE at *;have wL:c.op=70->(jR s.C c.task<0/\iN s c=true)\/∃(i:Nat)(x:K),jR s.C c.task=(i:Int)/\s.C[i]?=some x/\iN s c=x.log.isEmpty:=by
  intro ho;unfold iN;rw[aK ho];rcases M1 s.C c.task with⟨h1,h2⟩ |⟨i,x,h1,h2,h3⟩
  .left;rw[h2];exact⟨by omega,rfl⟩
  .right;rw[h3];exact⟨i,x,h1,h2,rfl⟩
 have c1:=JE (decide (r.wl=[])) true yE [] (by simp;omega)
 have c2:=JE true (decide (r.wl=[])) [] yE (by simp;omega)
 have c3:=λx=>JE (decide (r.wl=[])) false yE [x] (by simp;omega)
 have c4:=λx=>JE false (decide (r.wl=[])) [x] yE (by simp;omega)
 have c5:=λx=>VV false (decide (r.wl=[])) true [x] yE [] (by simp;omega)
 have c6:=λx y=>VV false (decide (r.wl=[])) false [x] yE [y] (by simp;omega)
 clear JE VV;generalize decide (r.wl=[])=bw at *;have c3:=c3 ⟨c,⟨c.task,c.op,r.v,r.ok,-1⟩⟩;have c4:=c4 ⟨c,⟨c.task,c.op,r.v,r.ok,-1⟩⟩;have c5:=c5 ⟨{c with op:=75},⟨c.task,75,0,true,-1⟩⟩;have c6:=c6 ⟨{c with op:=75},⟨c.task,75,0,true,-1⟩⟩ ⟨c,⟨c.task,c.op,r.v,r.ok,-1⟩⟩;simp[m9,Cp.row,Cl.row,Wk.row]at c1 c2 c3 c4 c5 c6;unfold gB;simp only[S.row,Cl.row,Ry.row]at *;obtain⟨last,hla⟩:∃l,iN s c=l:=⟨_,rfl⟩;rw[hla]at wL⊢;cases h8:k==8
 .have VW:¬k=8:=by simpa using h8
  rw[aD VW];by_cases fG:c.op=70
  .have h63:(c.op==63)=false:=by simp[fG]
   have sG:(c.op==65)=false:=by simp[fG]
   have vi:(c.op==70)=true:=by simpa using fG
   rcases wL fG with⟨h1,h2⟩ |⟨i,x,h1,h2,h3⟩
   .subst h2
    rw[aK rfl];cases hp:r.pk<;>simp[vN,h8,h63,sG,vi,xh,hI,h1,hp,c1,c3,m9,Cp.row,Cl.row,Wk.row,az,aq,ak,cut,bt,an]
   .have hi:¬((i:Int)<0):=by omega
    rw[h1]at hI;have hle:=O3 x.log;rw[<-h3]at hle;cases last
    .rw[aD (by simp)]
     cases hp:r.pk<;>simp[vN,h8,h63,sG,vi,xh,hI,hi,h2,hp,hle,K.row,c2,c4,m9,Cp.row,Cl.row,Wk.row,az,aq,ak,cut,bt,an]
    .rw[aK rfl]
     cases hp:r.pk<;>simp[vN,h8,h63,sG,vi,xh,hI,hi,h2,hp,hle,K.row,c1,c3,m9,Cp.row,Cl.row,Wk.row,az,aq,ak,cut,bt,an]
  .have vi:(c.op==70)=false:=by simpa using fG
   unfold iN at hla;rw[aD fG,<-O3]at hla;cases last
   .rw[aD (by simp)]
    cases hp:r.pk<;>simp[vN,h8,hla,vi,xh,hp,c2,c4,m9,Cp.row,Cl.row,Wk.row,az,aq,ak,cut,bt,an]
   .rw[aK rfl]
    cases hp:r.pk<;>simp[vN,h8,hla,vi,xh,hp,c1,c3,m9,Cp.row,Cl.row,Wk.row,az,aq,ak,cut,bt,an]
 .have VW:k=8:=by simpa using h8
  rw[aK VW];by_cases fG:c.op=70
  .have h63:(c.op==63)=false:=by simp[fG]
   have sG:(c.op==65)=false:=by simp[fG]
   have zp:(c.op==75)=false:=by simp[fG]
   have DR:¬c.op=75:=by omega
   have vi:(c.op==70)=true:=by simpa using fG
   rcases wL fG with⟨h1,h2⟩ |⟨i,x,h1,h2,h3⟩
   .cases hp:r.pk<;>simp[vN,h8,h63,sG,zp,DR,vi,xh,hI,h1,hp,c5,c6,m9,Cp.row,Cl.row,Wk.row,az,aq,ak,cut,bt,an]
   .have hi:¬((i:Int)<0):=by omega
    rw[h1]at hI;have hle:=O3 x.log;rw[<-h3]at hle;cases hp:r.pk<;>simp[vN,h8,h63,sG,zp,DR,vi,xh,hI,hi,h2,hp,hle,K.row,c5,c6,m9,Cp.row,Cl.row,Wk.row,az,aq,ak,cut,bt,an]
  .have vi:(c.op==70)=false:=by simpa using fG
   unfold iN at hla;rw[aD fG,<-O3]at hla;by_cases DR:c.op=75
   .have zp:(c.op==75)=true:=by simpa using DR
    rw[aK DR];cases hp:r.pk<;>simp[vN,h8,hla,vi,zp,xh,hp,c5,m9,Cp.row,Cl.row,Wk.row,az,aq,ak,cut,bt,an]
   .have zp:(c.op==75)=false:=by simpa using DR
    rw[aD DR];cases hp:r.pk<;>simp[vN,h8,hla,vi,zp,xh,hp,c5,c6,m9,Cp.row,Cl.row,Wk.row,az,aq,ak,cut,bt,an]
end Go.VS.Sp
namespace Go.VS.Sp
def iw(k sz ot:Int)(s:S)(L:List Cp)(s':S):Prop:=(cZ k sz ot (s.ab true) L).2=true/\(cZ k sz ot (s.ab true) L).1.pl=(s'.ab true).pl
def mq(x:Option ej)(k sz ot:Int)(s:S)(c:Cl):Prop :=
 (∃e,e≠0/\∃r1 r2 r3 r4 r5 r6 r7 r8 r9 BJ BK BL eV:D,x=some (.val (.tu [.d (.ag [r1,r2,r3,r4,r5,r6,r7,r8,r9,BJ,BK,BL,eV]),.d (I' e)]) [])) \/
 ∃r:Ry,x=some (.val (.tu [.d (.ag r.row),.d (I' 0)]) [])/\r.st.jr/\fD k sz ot s=0/\fD k sz ot r.st=0/\r.wl.length<=45/\iw k sz ot s (ng k s c r) r.st
theorem mq.of{x:Option ej}{k sz ot e:Int}{s:S}{c:Cl}{r:Ry}(h:rU x e r)(h0:e=0->r.st.jr/\fD k sz ot s=0/\fD k sz ot r.st=0/\r.wl.length<=45/\iw k sz ot s (ng k s c r) r.st):mq x k sz ot s c:=by
 rcases h with⟨he,hx⟩ |⟨he,hx⟩
 .exact .inr ⟨r,hx,h0 he⟩
 .exact .inl ⟨e,he,hx⟩
theorem mq.er{x:Option ej}{k sz ot e:Int}{s:S}{c:Cl}{r1 r2 r3 r4 r5 r6 r7 r8 r9 BJ BK BL eV:D}(he:e≠0)(h:x=some (.val (.tu [.d (.ag [r1,r2,r3,r4,r5,r6,r7,r8,r9,BJ,BK,BL,eV]),.d (I' e)]) [])):mq x k sz ot s c :=
 .inl ⟨e,he,_,_,_,_,_,_,_,_,_,_,_,_,_,h⟩
theorem Ae{k:Int}{s:S}{c:Cl}{r:Ry}(hk:k≠8)(hl:iN s c=false):ng k s c r=gB c r++r.wl.map (fJ s.Q c.now):=by
 unfold ng;rw[aD hk,hl,aD (by simp)]
theorem VX{k:Int}{s:S}{c:Cl}{r:Ry}(hk:k≠8)(hl:iN s c=true):ng k s c r=r.wl.map (fJ s.Q c.now)++gB c r:=by
 unfold ng;rw[aD hk,hl,aK rfl]
theorem vk{c:Cl}(h:cG c=false):0<=c.task/\c.task<16/\0<=c.prio/\c.prio<=9/\0<=c.now/\c.now<=1099511627776:=by
 unfold cG at h;simp at h;omega
theorem aq2{Q:List W}{w:W}(hd:Q.Pairwise λa b=>a.task≠b.task)(h:(Q.any λx=>x.task==w.task)=false):(Q++[w]).Pairwise λa b=>a.task≠b.task:=by
 rw[oz];refine⟨hd,by simp,λa ha b hb=>?_⟩
 simp at hb;subst hb;rw[qQ]at h;simpa using h a ha
theorem aq3{α:Type}{Q A B:List α}{x w:α}(e:Q++[x]=A++w::B):(A=Q/\w=x)\/∃B',Q=A++w::B':=by
 rcases Ak B with rfl |⟨B',b,rfl⟩
 .obtain⟨h1,h2⟩:=J5 e rfl
  simp at h2;exact .inl ⟨h1.symm,h2.symm⟩
 .rw[Gt,<-List.cons_append,<-List.append_assoc]at e
  obtain⟨h1,_⟩:=J5 e rfl;exact .inr ⟨B',h1⟩
def fQ(c:Cl)(v:Int)(ok:Bool):Cp:=⟨c,⟨c.task,c.op,v,ok,-1⟩⟩
theorem VY{sz ot n:Int}{c:Cl}(hn:iR 4 sz ot=0)(hb:cG c=false)(h:0<=n/\n<=sz)(hv:1<=c.value/\c.value<=sz)(ho:c.op=60\/c.op=61\/c.op=62)(he:(eS sz (aS n) c).2.2.2=0):eD 4 sz ot (aS n) c=eS sz (aS n) c :=
 uh (apP hn h) hb (by unfold dH;rcases ho with h |h |h<;>simp[h]) (by unfold fit;simp[hv]) he
theorem aq4(nm:D)(sz ot:Int)(s:S)(c:Cl)(hf:s.jr)(iZ:s.Q.length<=40):
  mq (ev P (.call AB [.d (.ag [nm,I' 4,I' sz,I' ot]),.d (.ag s.row),.d (.ag c.row)] [])) 4 sz ot s c:=by
 have bZ:=al5 nm 4 sz ot s hf.sm;have hG:fD 4 sz ot s=ck (iR 4 sz ot) (Dw sz ot s):=rfl;rw[<-hG]at bZ;by_cases hc:fD 4 sz ot s=0
 .obtain⟨hn,hs⟩:=OQ.1 hc
  obtain⟨aq5,hsz,lG⟩:=apR hn;have hlo:=hs.lo;have hhi:=hs.hi;have hfq:=hf.q;rw[hc]at bZ;refine mq.of (aqw nm 4 sz ot s c hsz ⟨hlo,hhi⟩ (yy.2 ⟨hs.len,λw hw=>(hs.w w hw).v⟩) (by omega) bZ) λhe=>?_
  unfold DP at he;obtain⟨hb,he⟩:=jf (by decide) he
  obtain⟨h2,he⟩:=jf (by decide) he
  obtain⟨h3,he⟩:=jf (by decide) he
  obtain⟨h4,_⟩:=jf (b:=(gQ s c.task||(c.op==62&&decide (sz<s.cnt+c.value)))) (a:=17) (r:=0) (by decide) he
  simp at h2 h3 h4;obtain⟨h4,h5⟩:=h4;have hop:c.op=60\/c.op=61\/c.op=62:=by omega
  have hv:1<=c.value/\c.value<=sz:=by omega
  have hbd:=vk hb;have hl:iN s c=false:=by
   unfold iN;rcases hop with h |h |h<;>simp[h]
  have fm:=apU hs;rw[Ae (by decide) hl]
  have aq6:∀m:Int,fD 4 sz ot {s with cnt:=m}=0↔Jy sz ot {s with cnt:=m}:=λm=>by rw[OQ];exact⟨λh=>h.2,λh=>⟨hn,h⟩⟩
  have iG:∀m:Int,({s with cnt:=m}:S).jr:=λm=>⟨⟨hf.wf.h,hf.wf.b,hf.wf.c,hf.wf.k⟩,hf.qn,hf.h,hf.q,hf.b,hf.c,hf.l⟩
  have JF:∀m:Int,(({s with cnt:=m}:S).ab true).pl=aS m:=λm=>by
   unfold S.ab S.pl aS;simp[hs.own,hs.tm,hs.h,hs.b,hs.c,hs.cl,hs.val]
  have take:nM s.cnt c.value (ot==1) s.Q=true->(c.op=60\/c.op=61)->fD 4 sz ot {s with cnt:=s.cnt - c.value}=0/\iw 4 sz ot s [fQ c 0 true] {s with cnt:=s.cnt - c.value}:=by
   intro ht ho;unfold nM at ht;simp at ht;obtain⟨hle,han⟩:=ht;refine⟨(aq6 _).2 ⟨hs.own,by simp only;omega,by simp only;omega,hs.tm,hs.h,hs.b,hs.c,hs.cl,hs.val,hs.len,hs.w,hs.tk,λA w B e=>?_⟩,?_⟩
   .have:=hs.st A w B e
    rcases this with h |h
    .exact .inl h
    .exact .inr (by simp only;omega)
   .have hE:eS sz (aS s.cnt) c=(aS (s.cnt - c.value),0,true,0):=by
     unfold eS;rcases ho with h |h<;>simp[h,aS,gd,hle]
    have he:=VY hn hb ⟨hlo,hhi⟩ hv (by omega) (by rw[hE])
    rw[hE,<-fm]at he;unfold iw;rw[mo (x:=fQ c 0 true) he rfl rfl (.inr (.inl rfl)),JF];simp[cZ];rfl
  unfold VL;rcases hop with ho |ho |ho
  .rw[aK ho]
   by_cases ht:nM s.cnt c.value (ot==1) s.Q=true
   .rw[aK ht]
    obtain⟨t1,t2⟩:=take ht (.inl ho);exact⟨iG _,hc,t1,by simp,by simpa[gB,fQ]using t2⟩
   .rw[aD ht]
    have hw:SW sz (cw c):=by
     refine⟨?_,ho,hv.1,hv.2,rfl⟩;unfold dO kE cw;simp;omega
    have ij:=aq2 (w:=cw c) hs.tk (by unfold gQ at h4;exact h4)
    have hlen:(s.Q++[cw c]).length=s.Q.length+1:=by simp
    have rG:fD 4 sz ot {s with qn:=false,Q:=s.Q++[cw c]}=0:=by
     refine OQ.2 ⟨hn,hs.own,hlo,hhi,hs.tm,hs.h,hs.b,hs.c,hs.cl,hs.val,by simp only;omega,λw hm=>?_,ij,λA w B e=>?_⟩
     .rcases dj.1 hm with hm |hm
      .exact hs.w w hm
      .simp at hm;rw[hm];exact hw
     .rcases aq3 e with⟨rfl,rfl⟩ |⟨B',e⟩
      .unfold nM at ht
       simp at ht;by_cases hle:c.value<=s.cnt
       .have:=ht hle
        exact .inl ⟨this.2,by omega⟩
       .exact .inr (by unfold cw;simp only;omega)
      .exact hs.st A w B' e
    refine⟨⟨⟨hf.wf.h,hf.wf.b,hf.wf.c,hf.wf.k⟩,by simp,hf.h,(show(s.Q++[cw c]).length<=41 by omega),hf.b,hf.c,hf.l⟩,hc,rG,by simp,?_⟩
    simp[gB,iw,cZ];rfl
  .rw[aD (by omega),aK ho]
   by_cases ht:nM s.cnt c.value (ot==1) s.Q=true
   .simp only[ht,dF]
    obtain⟨t1,t2⟩:=take ht (.inr ho);exact⟨iG _,hc,t1,by simp,by simpa[gB,fQ]using t2⟩
   .have ht':nM s.cnt c.value (ot==1) s.Q=false:=by simpa using ht
    rw[aD ht,ht'];refine⟨iG _,hc,hc,by simp,?_⟩
    have e:gB c ⟨{s with cnt:=s.cnt},false,0,false,true,[]⟩++List.map (fJ s.Q c.now) []=[fQ c 0 false]:=by simp[gB,fQ]
    show iw 4 sz ot s (gB c ⟨{s with cnt:=s.cnt},false,0,false,true,[]⟩++List.map (fJ s.Q c.now) []) s
    rw[e];have hE:∃r3:Bool,∃a3:S,eD 4 sz ot (s.ab true).pl c=(a3,0,r3,0)/\(ot≠0->r3=false/\a3=(s.ab true).pl):=by
     have hE:(eS sz (aS s.cnt) c)=if c.value<=s.cnt then(aS (s.cnt - c.value),0,true,0)else(aS s.cnt,0,false,0):=by
      unfold eS;by_cases h:c.value<=s.cnt<;>simp[ho,h,aS,gd,er]
     have he:=VY (ot:=ot) hn hb ⟨hlo,hhi⟩ hv (.inr (.inl ho)) (by rw[hE];split<;>rfl)
     rw[fm,he,hE];by_cases h:c.value<=s.cnt
     .rw[aK h]
      refine⟨_,_,rfl,λh1=>?_⟩
      exfalso;unfold nM at ht'
      have:ot=1:=by omega
      simp[h,this]at ht'
     .rw[aD h]
      exact⟨_,_,rfl,λ_=>⟨rfl,rfl⟩⟩
    obtain⟨r3,a3,hE,O4⟩:=hE;by_cases h0:ot=0
    .have e2:cZ 4 sz ot (s.ab true) [fQ c 0 false]=(s.ab true,true):=by
      show(let e:=eD 4 sz ot (s.ab true).pl c
       if e.2.2.2≠0 then(s.ab true,false)
       else if(c.op==61&&ot==0&&!false&&(0:Int)==0)=true then cZ 4 sz ot (s.ab true) []
       else if(e.2.1 != 0||e.2.2.1 != false)=true then(s.ab true,false)else cZ 4 sz ot e.1 [])=_
      rw[hE];simp[ho,h0,cZ]
     unfold iw;rw[e2];exact⟨rfl,rfl⟩
    .obtain⟨rfl,rfl⟩:=O4 h0
     unfold iw;rw[mo (x:=fQ c 0 false) hE rfl rfl (.inr (.inr h0))];simp only[cZ,true_and];exact VA _
  .rw[aD (by omega),aD (by omega)]
   have h6:s.cnt+c.value<=sz:=by
    have:=h5 ho;omega
   obtain⟨g1,g2,g3,g4⟩:=apS (n:=s.cnt+c.value) (now:=c.now) hn (by omega) hs (Am _) (by omega)
   have hlen:=g1.length_le;have sE:=g2.length_le;have xl:=VH c.now hs.tk g1 λw hw=>(hs.w w hw).cs
   refine⟨apW hf (by omega),hc,g3,by simp;omega,?_⟩
   have hE:eS sz (aS s.cnt) c=(aS (s.cnt+c.value),0,true,0):=by
    unfold eS
    have:¬sz<s.cnt+c.value:=by omega
    simp[ho,aS,gd,this]
   have he:=VY (ot:=ot) hn hb ⟨hlo,hhi⟩ hv (.inr (.inr ho)) (by rw[hE])
   rw[hE,<-fm]at he;simp only[gB,eI,dI,vE];rw[xl];unfold iw;rw[show(⟨c,⟨c.task,c.op,0,true,-1⟩⟩:Cp)=fQ c 0 true from rfl,mo (x:=fQ c 0 true) he rfl rfl (.inr (.inl rfl))]
   exact g4 _ rfl
 .have he:(fD 4 sz ot s != 0)=true:=by simpa using hc
  have hx:ev P (.call AB [.d (.ag [nm,I' 4,I' sz,I' ot]),.d (.ag s.row),.d (.ag c.row)] [])=some (.val (.tu [.d (.ag om),.d (I' 1)]) []):=by
   rw[au Sx rfl];simp only[S.row,Cl.row]at *;simp[yZ,bZ,he,az,aq]
  exact mq.er (by decide) hx
end Go.VS.Sp
namespace Go.VS.Sp
theorem VZ{f:List W->W->Bool}{g:W->Bool}(hf:∀pre w,f pre w=(g w&&!pre.any (λx=>x.task==w.task))){Q:List W}:eG f [] Q=true↔(∀w∈Q,g w=true)/\Q.Pairwise λa b=>a.task≠b.task:=by
 rw[VF,VG];have e:∀(A:List W)(w:W),(!A.any (λx:W=>x.task==w.task))=true↔∀x∈A,x.task≠w.task:=λA w=>by simp
 constructor
 .intro h
  refine⟨λw hw=>?_,λA w B eq=>?_⟩
  .obtain⟨A,B,eq⟩:=J3 hw
   have:=h A w B eq;rw[hf,bJ]at this;exact this.1
  .have:=h A w B eq
   rw[hf,bJ]at this;exact(e _ _).1 (by simpa using this.2)
 .rintro⟨h1,h2⟩ A w B eq
  rw[hf,bJ];exact⟨h1 w (by rw[eq];simp),by simpa using(e A w).2 (h2 A w B eq)⟩
structure WQ(op:Int)(p:W->Prop)(Q:List W):Prop where
 len:Q.length<=96
 w:∀w∈Q,dO w=true/\w.op=op/\w.case = -1/\p w
 tk:Q.Pairwise λa b=>a.task≠b.task
theorem WQ.sub{op:Int}{p:W->Prop}{Q R:List W}(h:WQ op p Q)(hs:R.Sublist Q):WQ op p R :=
 ⟨nh hs.length_le h.len,λw hw=>h.w w (hs.subset hw),h.tk.sublist hs⟩
theorem WQ.snoc{op:Int}{p:W->Prop}{Q:List W}{w:W}(h:WQ op p Q)(hl:Q.length<=40)(hw:dO w=true/\w.op=op/\w.case = -1/\p w)(ht:(Q.any λx=>x.task==w.task)=false):WQ op p (Q++[w]):=
 ⟨by simp;omega,λx hx=>by rcases dj.1 hx with hx |hx;exact h.w x hx;simp at hx;rw[hx];exact hw,aq2 h.tk ht⟩
theorem WQ.nil{op:Int}{p:W->Prop}:WQ op p []:=⟨by simp,by simp,List.Pairwise.nil⟩
structure FOK(s:S):Prop where
 own:s.own = -1
 cnt:s.cnt=0
 tm:s.time=0
 h:s.H=[]
 b:s.B=[]
 c:s.C=[]
 nv:num s.val=true
 q:WQ 74 (λw=>w.value=0) s.Q
 cl:s.cl=true->s.Q=[]
 op:s.cl=false->s.val=0
theorem V0{sz ot:Int}{s:S}:fD 9 sz ot s=0↔dR 9 9 sz ot=0/\FOK s:=by
 have e:fD 9 sz ot s=ck (dR 9 9 sz ot) (DA s):=rfl;rw[e,BI];refine J6 Iff.rfl ?_;unfold DA uP;have hq:=VZ (f:=fF) (g:=λw=>w.op==74&&(w.value==0&&w.case == -1)) (λpre w=>by
  unfold fF;rw[um];simp;constructor
  .rintro⟨⟨⟨h1,h2⟩,h3⟩,h4⟩;exact⟨⟨h2,h3,h4⟩,h1⟩
  .rintro⟨⟨h2,h3,h4⟩,h1⟩;exact⟨⟨⟨h1,h2⟩,h3⟩,h4⟩) (Q:=s.Q)
 simp only[bJ,dN,yy,hq,JO];constructor
 .rintro⟨⟨⟨⟨⟨⟨h1,h2⟩,h3⟩,h4⟩,h5⟩,h6⟩,h7,⟨⟨h8,h9⟩,iK,je⟩,h12⟩
  refine⟨h1,h2,h3,h4,h5,h6,h7,⟨iK,λw hw=>⟨je w hw,(h8 w hw).1,(h8 w hw).2.2,(h8 w hw).2.1⟩,h9⟩,λh=>?_,λh=>?_⟩
  .rw[h]at h12
   simp at h12
   have:s.Q.length=0:=by rw[h12];rfl
   exact vA (by omega)
  .rw[h]at h12
   simpa using h12
 .rintro⟨h1,h2,h3,h4,h5,h6,h7,⟨iK,h8,h9⟩,h12,kG⟩
  refine⟨⟨⟨⟨⟨⟨h1,h2⟩,h3⟩,h4⟩,h5⟩,h6⟩,h7,⟨⟨λw hw=>⟨(h8 w hw).2.1,(h8 w hw).2.2.2,(h8 w hw).2.2.1⟩,h9⟩,iK,λw hw=>(h8 w hw).1⟩,?_⟩
  cases hc:s.cl
  .simpa using kG hc
  .simp[h12 hc]
def aF(cl:Bool)(val:Int):S:=⟨-1,0,0,false,[],false,[],false,[],false,[],cl,val⟩
theorem aq7{sz ot val:Int}{cl:Bool}(hn:dR 9 9 sz ot=0)(h:num val=true)(hc:cl=true\/val=0):cW 9 sz ot (aF cl val)=true:=by
 unfold cW gL gE iV ir okF uP aF;rcases hc with rfl |rfl<;>simp[hn,ck,h]
theorem aq8{sz ot:Int}{c:Cl}(hn:dR 9 9 sz ot=0)(hb:cG c=false)(ho:c.op=73)(hv:num c.value=true):eD 9 sz ot (aF false 0) c=(aF true c.value,0,true,0):=by
 have hr:raw 9 sz ot (aF false 0) c=(aF true c.value,0,true,0):=by
  unfold raw eF;simp[ho,aF,gd]
 rw[uh (aq7 hn (by decide) (.inr rfl)) hb (by unfold dH;simp[ho]) (by unfold fit;simp[ho,hv]) (by rw[hr]),hr]
theorem aq9{sz ot v:Int}{c:Cl}(hn:dR 9 9 sz ot=0)(hb:cG c=false)(ho:c.op=74)(hv:num v=true):eD 9 sz ot (aF true v) c=(aF true v,v,true,0):=by
 have hr:raw 9 sz ot (aF true v) c=(aF true v,v,true,0):=by
  unfold raw eF;simp[ho,aF]
 rw[uh (aq7 hn hv (.inl rfl)) hb (by unfold dH;simp[ho]) (by unfold fit;simp[ho]) (by rw[hr]),hr]
theorem ara{sz ot now v:Int}(hn:dR 9 9 sz ot=0)(hw0:0<=now/\now<=1099511627776)(hv:num v=true):∀(L:List W),(∀w∈L,dO w=true/\w.op=74)->∀a:S,a.pl=aF true v ->
  (cZ 9 sz ot a (L.map λw=>⟨⟨w.task,w.op,w.value,w.prio,now⟩,⟨w.task,w.op,v,true,-1⟩⟩)).2=true/\(cZ 9 sz ot a (L.map λw=>⟨⟨w.task,w.op,w.value,w.prio,now⟩,⟨w.task,w.op,v,true,-1⟩⟩)).1.pl=aF true v
 | [],_,a,ha=>by simp[cZ,ha]
 |w::r,hw,a,ha=>by
  have hw1:=hw w (by simp)
  have he:=aq9 (c:=⟨w.task,w.op,w.value,w.prio,now⟩) (v:=v) hn (uj hw1.1 hw0) hw1.2 hv;rw[<-ha]at he;rw[gk,mo (x:=⟨⟨w.task,w.op,w.value,w.prio,now⟩,⟨w.task,w.op,v,true,-1⟩⟩) he rfl rfl (.inr (.inl rfl))];rw[ha];exact ara hn hw0 hv r (λx hx=>hw x (by simp[hx])) _ rfl
theorem arb{Q G:List W}(now v:Int)(hd:Q.Pairwise λa b=>a.task≠b.task)(hG:G.Sublist Q)(hc:∀w∈Q,w.case = -1):
  (G.map (Aa v)).map (fJ Q now)=G.map λw=>⟨⟨w.task,w.op,w.value,w.prio,now⟩,⟨w.task,w.op,v,true,-1⟩⟩:=by
 rw[kY];refine vo λw hw=>?_
 have hm:=hG.subset hw;exact DN now v true hd hm (hc w hm)
theorem arc(nm:D)(sz ot:Int)(s:S)(c:Cl)(hf:s.jr)(iZ:s.Q.length<=40):
  mq (ev P (.call Ck [.d (.ag [nm,I' 9,I' sz,I' ot]),.d (.ag s.row),.d (.ag c.row)] [])) 9 sz ot s c:=by
 have bZ:ev P (.call pP [.d (.ag [nm,I' 9,I' sz,I' ot]),.d (.ag s.row)] [])=some (.val (.d (I' (fD 9 sz ot s))) []):=amt nm 9 sz ot s hf.sm;by_cases hc:fD 9 sz ot s=0
 .obtain⟨hn,hs⟩:=V0.1 hc
  rw[hc]at bZ;refine mq.of (aqB nm 9 sz ot s c hf.qn (by omega) bZ) λhe=>?_
  unfold VM at he;obtain⟨hb,he⟩:=jf (by decide) he
  obtain⟨h2,he⟩:=jf (by decide) he
  obtain⟨h3,he⟩:=jf (by decide) he
  obtain⟨h4,_⟩:=jf (b:=(gQ s c.task||(c.op==73&&s.cl))) (a:=17) (r:=0) (by decide) he
  simp at h2 h3 h4;obtain⟨h4,h5⟩:=h4;have hbd:=vk hb;have hop:c.op=73\/c.op=74:=by omega
  have hl:iN s c=false:=by
   unfold iN;rcases hop with h |h<;>simp[h]
  have fm:(s.ab true).pl=aF s.cl s.val:=by
   unfold S.ab S.pl aF;simp[hs.own,hs.cnt,hs.tm,hs.h,hs.b,hs.c]
  rw[Ae (by decide) hl]
  unfold VN;rcases hop with ho |ho
  .rw[aK ho]
   have bN:=h5 ho;have hv:num c.value=true:=by have:=h3;simp[ho]at this;exact this
   refine⟨⟨⟨hf.wf.h,hf.wf.b,hf.wf.c,hf.wf.k⟩,by simp,hf.h,by simp,hf.b,hf.c,hf.l⟩,hc,V0.2 ⟨hn,hs.own,hs.cnt,hs.tm,hs.h,hs.b,hs.c,hv,WQ.nil,by simp,by simp⟩,by simp;omega,?_⟩
   have he:=aq8 hn hb ho hv;have V1:(s.ab true).pl=aF false 0:=by rw[fm,bN,hs.op bN]
   rw[<-V1]at he;simp only[gB,eI,dI,vE];rw[arb c.now c.value hs.q.tk (Am _) λw hw=>(hs.q.w w hw).2.2.1]
   unfold iw;rw[show(⟨c,⟨c.task,c.op,0,true,-1⟩⟩:Cp)=fQ c 0 true from rfl,mo (x:=fQ c 0 true) he rfl rfl (.inr (.inl rfl))]
   obtain⟨p1,p2⟩:=ara (now:=c.now) hn (by omega) hv s.Q (λw hw=>⟨(hs.q.w w hw).1,(hs.q.w w hw).2.1⟩) (aF true c.value) rfl
   refine⟨p1,p2.trans ?_⟩;unfold S.ab S.pl aF;simp[hs.own,hs.cnt,hs.tm,hs.h,hs.b,hs.c]
  .rw[aD (by omega)]
   cases bN:s.cl
   .rw[aD (by simp)]
    refine⟨⟨⟨hf.wf.h,hf.wf.b,hf.wf.c,hf.wf.k⟩,by simp,hf.h,by simp;omega,hf.b,hf.c,hf.l⟩,hc,V0.2 ⟨hn,hs.own,hs.cnt,hs.tm,hs.h,hs.b,hs.c,hs.nv,hs.q.snoc iZ ⟨?_,rfl,rfl,rfl⟩ (by unfold gQ at h4;exact h4),λh=>by simp[bN]at h,λ_=>hs.op bN⟩,by simp,?_⟩
    .unfold dO kE
     simp;omega
    .simp[gB,iw,cZ]
     unfold S.ab S.pl;simp[bN]
   .rw[aK rfl]
    refine⟨hf,hc,hc,by simp,?_⟩
    have he:=aq9 (v:=s.val) hn hb ho hs.nv;have V1:(s.ab true).pl=aF true s.val:=by rw[fm,bN]
    rw[<-V1]at he;simp only[gB,eI,dI,gn,nk];unfold iw;rw[show(⟨c,⟨c.task,c.op,s.val,true,-1⟩⟩:Cp)=fQ c s.val true from rfl,mo (x:=fQ c s.val true) he rfl rfl (.inr (.inl rfl))]
    exact⟨rfl,VA _⟩
 .have he:(fD 9 sz ot s != 0)=true:=by simpa using hc
  have hx:ev P (.call Ck [.d (.ag [nm,I' 9,I' sz,I' ot]),.d (.ag s.row),.d (.ag c.row)] [])=some (.val (.tu [.d (.ag om),.d (I' 1)]) []):=by
   rw[au XN rfl];simp only[S.row,Cl.row]at *;simp[Cy,bZ,he,az,aq]
  exact mq.er (by decide) hx
end Go.VS.Sp
namespace Go.VS.Sp
structure BOK(sz:Int)(s:S):Prop where
 own:s.own = -1
 lo:0<=s.cnt
 hi:s.cnt<=1099511627776
 len:(s.Q.length:Int)<sz
 tm:s.time=0
 val:s.val=0
 cl:s.cl=false
 h:s.H=[]
 b:s.B=[]
 c:s.C=[]
 q:WQ 63 (λw=>w.value=0) s.Q
theorem ard{α β γ:Type}{a:List α}{b:List β}{c:List γ}:decide ((0:Int)<(a.length:Int)+b.length+c.length)=false↔a=[]/\b=[]/\c=[]:=by
 cases a<;>cases b<;>cases c<;>simp<;>omega
theorem V2{sz ot:Int}{s:S}:fD 5 sz ot s=0↔iS 5 sz ot=0/\BOK sz s:=by
 have e:fD 5 sz ot s=ck (iS 5 sz ot) (Jb sz s):=rfl;rw[e,BI];refine J6 Iff.rfl ?_;unfold Jb I9 Ja;have hq:=VZ (f:=fB) (g:=λw=>!Dx w) (λpre w=>rfl) (Q:=s.Q)
 simp only[bJ,kX,BT,J4,ku,dN,yy,hq];rw[<-decide_eq_false_iff_not (p:=(0:Int)<_),ard];have lK:∀w:W,Dx w=false↔w.op=63/\w.value=0/\w.case = -1:=λw=>by unfold Dx;simp;exact⟨fun⟨⟨h1,h2⟩,h3⟩=>⟨h1,h2,h3⟩,fun⟨h1,h2,h3⟩=>⟨⟨h1,h2⟩,h3⟩⟩
 constructor
 .rintro⟨⟨⟨⟨h1,h2⟩,h3⟩,h4⟩,⟨⟨⟨h5,h6⟩,h7⟩,h8,h9,iK⟩,⟨je,h12⟩,kG,j9⟩
  exact⟨h1,by omega,by omega,by omega,h5,h6,h7,h8,h9,iK,⟨je,λw hw=>⟨h12 w hw,((lK w).1 (kG w hw)).1,((lK w).1 (kG w hw)).2.2,((lK w).1 (kG w hw)).2.1⟩,j9⟩⟩
 .rintro⟨h1,h2,h3,h4,h5,h6,h7,h8,h9,iK,⟨je,h12,j9⟩⟩
  exact⟨⟨⟨⟨h1,by omega⟩,by omega⟩,by omega⟩,⟨⟨⟨h5,h6⟩,h7⟩,h8,h9,iK⟩,⟨je,λw hw=>(h12 w hw).1⟩,λw hw=>(lK w).2 ⟨(h12 w hw).2.1,(h12 w hw).2.2.2,(h12 w hw).2.2.1⟩,j9⟩
def aB(cnt val:Int):S:=⟨-1,cnt,0,false,[],false,[],false,[],false,[],false,val⟩
theorem are{sz ot cnt val:Int}(hn:iS 5 sz ot=0)(h:0<=cnt/\cnt<=1099511627776)(hv:0<=val/\val<sz):cW 5 sz ot (aB cnt val)=true:=by
 unfold cW gL gE iV ir okB aB;simp[hn,ck];omega
theorem arf{sz ot cnt val:Int}{c:Cl}(hn:iS 5 sz ot=0)(h:0<=cnt/\cnt<=1099511627776)(hv:0<=val/\val<sz)(hb:cG c=false)(ho:c.op=63)(hm:val+1=sz->cnt≠1099511627776):
  eD 5 sz ot (aB cnt val) c=(if val+1=sz then aB (cnt+1) 0 else aB cnt (val+1),val,true,0):=by
 have hr:raw 5 sz ot (aB cnt val) c=(if val+1=sz then aB (cnt+1) 0 else aB cnt (val+1),val,true,0):=by
  unfold raw eB;by_cases h:val+1=sz
  .have:=hm h
   simp[aB,h,this]
  .simp[aB,h]
 rw[uh (are hn h hv) hb (by unfold dH;simp[ho]) (by unfold fit;simp[ho]) (by rw[hr]),hr]
def JG(now:Int):Int->List W->List Cp
 |_,[]=>[]
 |k,w::r=>⟨⟨w.task,w.op,w.value,w.prio,now⟩,⟨w.task,w.op,k,true,-1⟩⟩::JG now (k+1) r
theorem arh{Q:List W}(now:Int)(hd:Q.Pairwise λa b=>a.task≠b.task)(hc:∀w∈Q,w.case = -1/\w.op=63):∀(G:List W)(k:Int),(∀w∈G,w∈Q)->(bws k G).map (fJ Q now)=JG now k G
 | [],_,_=>rfl
 |w::r,k,h=>by
  have hm:=h w (by simp)
  have h1:=DN now k true hd hm (hc w hm).1;rw[bws,gk,JG,arh now hd hc r (k+1) λx hx=>h x (by simp[hx])]
  congr 1;unfold yD;rw[<-(hc w hm).2];exact h1
theorem ari{sz ot cnt now:Int}(hn:iS 5 sz ot=0)(h:0<=cnt/\cnt<=1099511627776)(hw0:0<=now/\now<=1099511627776):∀(L:List W)(k:Int)(R:List Cp),0<=k->k+L.length<sz->(∀w∈L,dO w=true/\w.op=63)->∀a:S,a.pl=aB cnt k ->
  ∃b:S,b.pl=aB cnt (k+L.length)/\cZ 5 sz ot a (JG now k L++R)=cZ 5 sz ot b R
 | [],k,R,_,_,_,a,ha=>⟨a,by simpa using ha,rfl⟩
 |w::r,k,R,h0,hl,hw,a,ha=>by
  have hw1:=hw w (by simp)
  simp only[iy]at hl;have hne:¬k+1=sz:=by omega
  have he:=arf (c:=⟨w.task,w.op,w.value,w.prio,now⟩) hn h (val:=k) (by omega) (uj hw1.1 hw0) hw1.2 (λh=>absurd h hne)
  rw[aD hne,<-ha]at he;obtain⟨b,b1,b2⟩:=ari hn h hw0 r (k+1) R (by omega) (by omega) (λx hx=>hw x (by simp[hx])) (aB cnt (k+1)) rfl
  refine⟨b,?_,?_⟩
  .rw[b1]
   congr 1;simp only[iy];omega
  .rw[<-b2]
   exact mo (x:=⟨⟨w.task,w.op,w.value,w.prio,now⟩,⟨w.task,w.op,k,true,-1⟩⟩) he rfl rfl (.inr (.inl rfl))
theorem arj(nm:D)(sz ot:Int)(s:S)(c:Cl)(hf:s.jr)(hc:¬fD 5 sz ot s=0):ev P (.call Ci [.d (.ag [nm,I' 5,I' sz,I' ot]),.d (.ag s.row),.d (.ag c.row)] [])=some (.val (.tu [.d (.ag om),.d (I' (fD 5 sz ot s))]) []):=by
 have bZ:ev P (.call oF [.d (.ag [nm,I' 5,I' sz,I' ot]),.d (.ag s.row)] [])=some (.val (.d (I' (fD 5 sz ot s))) []):=UX nm 5 sz ot s hf.sm;have he:(fD 5 sz ot s != 0)=true:=by simpa using hc
 rw[au XI rfl];simp only[S.row,Cl.row]at *;simp[y4,bZ,he,az,aq]
theorem ark(nm:D)(sz ot:Int)(s:S)(c:Cl)(hf:s.jr)(iZ:s.Q.length<=40)(hb:cG c=false):
  mq (ev P (.call Ci [.d (.ag [nm,I' 5,I' sz,I' ot]),.d (.ag s.row),.d (.ag c.row)] [])) 5 sz ot s c:=by
 have bZ:ev P (.call oF [.d (.ag [nm,I' 5,I' sz,I' ot]),.d (.ag s.row)] [])=some (.val (.d (I' (fD 5 sz ot s))) []):=UX nm 5 sz ot s hf.sm;by_cases hc:fD 5 sz ot s=0
 .obtain⟨hn,hs⟩:=V2.1 hc
  have hsz:1<=sz/\sz<=100:=by
   unfold iS at hn;simp at hn;omega
  rw[hc]at bZ;refine mq.of (aqO nm 5 sz ot s c hsz ⟨hs.lo,hs.hi⟩ hf.qn (by omega) bZ) λhe=>?_
  have hbd:=vk hb;have cj:BN s c=0:=by
   unfold OZ at he;by_cases h:BN s c=0
   .exact h
   .rw[aK h]at he;exact absurd he h
  have hop:c.op=63/\gQ s c.task=false:=by
   unfold BN at cj;cases h1:c.op==63
   .rw[h1]at cj;simp at cj
   .rw[h1,aD (by simp)]at cj
    unfold OW at cj;split at cj
    .cases cj
    .unfold OV at cj
     split at cj
     .cases cj
     .unfold OU at cj
      refine⟨by simpa using h1,?_⟩
      cases hq:gQ s c.task
      .rfl
      .rw[hq]at cj;simp at cj
  obtain⟨ho,h4⟩:=hop;have hl:iN s c=true:=by unfold iN;simp[ho]
  have fm:(s.ab true).pl=aB s.cnt 0:=by
   unfold S.ab S.pl aB;simp[hs.own,hs.tm,hs.h,hs.b,hs.c,hs.cl,hs.val]
  rw[VX (by decide) hl]
  unfold OZ at he;rw[cj]at he;simp only[ne_eq,J1,dI]at he;unfold O0;by_cases hlt:(s.Q.length:Int)+1<sz
  .rw[aK hlt]
   refine⟨⟨⟨hf.wf.h,hf.wf.b,hf.wf.c,hf.wf.k⟩,by simp,hf.h,by simp;omega,hf.b,hf.c,hf.l⟩,hc,V2.2 ⟨hn,hs.own,hs.lo,hs.hi,by simp;omega,hs.tm,hs.val,hs.cl,hs.h,hs.b,hs.c,hs.q.snoc iZ ⟨?_,ho,rfl,rfl⟩ (by unfold gQ at h4;exact h4)⟩,by simp,?_⟩
   .unfold dO kE
    simp;omega
   .simp[gB,iw,cZ]
    rfl
  .rw[aD hlt]
   have yj:s.cnt≠1099511627776:=λh=>by rw[aK ⟨hlt,h⟩]at he;cases he
   have hlen:=hs.len;have hlo:=hs.lo;have hhi:=hs.hi;have OY:=VQ s.Q 0;refine⟨⟨⟨hf.wf.h,hf.wf.b,hf.wf.c,hf.wf.k⟩,by simp,hf.h,by simp,hf.b,hf.c,hf.l⟩,hc,V2.2 ⟨hn,hs.own,by simp only;omega,by simp only;omega,by simp;omega,hs.tm,hs.val,hs.cl,hs.h,hs.b,hs.c,WQ.nil⟩,by simp only;omega,?_⟩
   simp only[gB,eI,dI];rw[arh c.now hs.q.tk (λw hw=>⟨(hs.q.w w hw).2.2.1,(hs.q.w w hw).2.1⟩) s.Q 0 λw hw=>hw]
   obtain⟨b,b1,b2⟩:=ari (sz:=sz) (ot:=ot) hn ⟨hlo,hhi⟩ (now:=c.now) (by omega) s.Q 0 [⟨c,⟨c.task,c.op,sz - 1,true,-1⟩⟩] (by omega) (by omega) (λw hw=>⟨(hs.q.w w hw).1,(hs.q.w w hw).2.1⟩) (s.ab true) fm
   have hk:(0:Int)+s.Q.length=sz - 1:=by omega
   rw[hk]at b1;have he:=arf hn ⟨hlo,hhi⟩ (val:=sz - 1) (by omega) hb ho (λ_=>yj)
   rw[aK (by omega),<-b1]at he
   unfold iw;rw[b2,show(⟨c,⟨c.task,c.op,sz - 1,true,-1⟩⟩:Cp)=fQ c (sz - 1) true from rfl,mo (x:=fQ c (sz - 1) true) he rfl rfl (.inr (.inl rfl))]
   refine⟨rfl,?_⟩;unfold S.ab S.pl aB;simp[cZ,hs.own,hs.tm,hs.h,hs.b,hs.c,hs.cl,hs.val]
 .exact mq.er hc (arj nm sz ot s c hf hc)
end Go.VS.Sp
