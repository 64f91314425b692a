import Derived.Test.YtifnkfombicejaaV09
import Derived.Test.YtifnkfombicejaaV06
import Derived.Test.YtifnkfombicejaaV08
set_option linter.all false
set_option maxHeartbeats 1000000
namespace Go.VS.Tp
theorem Af{α:Type}{t u:Int}{x:α}:∀{l:List (Int×α)},bB (dw t x l) u=if t=u then some x else bB l u
 | []=>rfl
 |p::r=>by
  have ih:=Af (t:=t) (u:=u) (x:=x) (l:=r);unfold dw;by_cases h:p.1=t
  .rw[aN h]
   unfold bB;simp only;by_cases h2:t=u
   .rw[aN h2,aN h2]
   .rw[aF h2,aF h2,aF (by omega)]
  .rw[aF h]
   unfold bB;by_cases h2:p.1=u
   .rw[aN h2,aN h2,aF (by omega)]
   .rw[aF h2,aF h2,ih]
theorem HA{α:Type}{t:Int}:∀{l:List (Int×α)},bB l t=none↔t∉l.map (·.1)
 | []=>by simp[bB]
 |p::r=>by
  have ih:=HA (t:=t) (l:=r);unfold bB;by_cases h:p.1=t
  .rw[aN h];simp[h]
  .rw[aF h,ih];simp;exact λ_ h2=>h h2.symm
theorem L8{α:Type}{t:Int}:∀{l:List (Int×α)},(dI t l).Sublist l
 | []=>pe _
 |p::r=>by
  unfold dI;split
  .exact yd _ _
  .exact(L8 (l:=r)).cons_cons _
theorem HB{α:Type}{t u:Int}:∀{l:List (Int×α)},(l.map (·.1)).Nodup->bB (dI t l) u=if t=u then none else bB l u
 | [],_=>by simp[dI,bB]
 |p::r,h=>by
  rw[cR,cy]at h;have ih:=HB (t:=t) (u:=u) h.2;unfold dI;by_cases h1:p.1=t
  .rw[aN h1]
   by_cases h2:t=u
   .rw[aN h2]
    subst h2;exact HA.2 (by rw[<-h1];exact h.1)
   .rw[aF h2]
    conv=>rhs;unfold bB
    rw[aF (by omega)]
  .rw[aF h1]
   unfold bB;by_cases h2:p.1=u
   .rw[aN h2,aN h2,aF (by omega)]
   .rw[aF h2,aF h2,ih]
theorem w9{α:Type}{t:Int}{x:α}:∀{l:List (Int×α)},bB l t=none->(dw t x l).map (·.1)=l.map (·.1)++[t]
 | [],_=>rfl
 |p::r,h=>by
  unfold bB at h;unfold dw;by_cases h1:p.1=t
  .rw[aN h1]at h;cases h
  .rw[aF h1]at h⊢
   simp[w9 h]
theorem L9{α:Type}{t:Int}:∀{l:List (Int×α)},(bB l t).isSome=true->(dI t l).length+1=l.length
 | [],h=>by simp[bB]at h
 |p::r,h=>by
  unfold bB at h;unfold dI;by_cases h1:p.1=t
  .rw[aN h1];simp
  .rw[aF h1]at h⊢
   simp[L9 h]
theorem HC{b:BB}{t v u:Int}:(b.get t v).gt u=b.gt u++(if t=u then[v]else[]):=by
 unfold BB.gt BB.get;simp only[Af];by_cases h:t=u
 .rw[aN h,aN h,h];rfl
 .rw[aF h,aF h];simp
theorem HD{v t:Int}:∀{d:List (Int×List Int)},bB (d.map λp=>(p.1,p.2++[v])) t=(bB d t).map (·++[v])
 | []=>rfl
 |p::r=>by
  have ih:=HD (v:=v) (t:=t) (d:=r);simp only[cR];unfold bB;simp only;split
  .rfl
  .exact ih
def gL(l:List Wk)(t:Int):List Int:=(l.filter λw=>w.op==70&&w.task==t).map (·.value)
theorem HE{a b:List Wk}{t:Int}:gL (a++b) t=gL a t++gL b t:=by simp[gL]
theorem Ah{w:Wk}{l:List Wk}{t:Int}:gL (w::l) t=(if w.op=70/\w.task=t then[w.value]else[])++gL l t:=by
 unfold gL;by_cases h:w.op=70/\w.task=t
 .rw[aN h];simp[h.1,h.2]
 .rw[aF h]
  rw[Jj]
  .rfl
  .simpa using h
def gj(l:List Wk):List Int:=(l.filter λw=>!(w.op==70)).map (·.task)
def xB(dF:List (Int×Int))(d:List (Int×List Int)):List Int->List (Int×List Int)
 | []=>d
 |t::r=>xB dF (d.map λp=>(p.1,p.2++[(bB dF t).getD 0])) r
theorem vk:∀(l:List Wk)(b:BB)(q:List Int),b.waiting=gj l++q->∃b',gK b l=some b'/\b'.due=xB b.dF b.due (gj l)/\b'.dF=b.dF/\b'.waiting=q/\∀t,b'.gt t=b.gt t++gL l t
 | [],b,q,h=>⟨b,rfl,rfl,rfl,by simpa[gj]using h,λt=>by simp[gL]⟩
 |w::r,b,q,h=>by
  unfold gK;by_cases ho:w.op=70
  .rw[aN ho]
   have e:gj (w::r)=gj r:=by simp[gj,ho]
   rw[e]at h⊢;obtain⟨b',h1,h2,h3,h4,h5⟩:=vk r (b.get w.task w.value) q h;refine⟨b',h1,h2,h3,h4,λt=>?_⟩
   rw[h5,HC,Ah,jX];by_cases ht:w.task=t<;>simp[ho,ht]
  .rw[aF ho]
   have e:gj (w::r)=w.task::gj r:=by simp[gj,ho]
   rw[e]at h⊢;rw[h];simp only[qJ,aU];obtain⟨b',h1,h2,h3,h4,h5⟩:=vk r ({b with waiting:=gj r++q}.cx ((bB b.dF w.task).getD 0)) q rfl;refine⟨b',h1,h2,h3,h4,λt=>?_⟩
   rw[h5,Ah];simp[ho,BB.cx,BB.gt]
structure Inv(due:List (Int×List Int))(g:Int->List Int)(dF:List (Int×Int))(waiting:List Int)(Q:List W)(C:List K):Prop where
 nd:(due.map (·.1)).Nodup
 len:due.length=C.length
 key:∀t,(bB due t).isSome=true->∃x∈C,x.task=t
 ok:∀x∈C,bB due x.task=some (g x.task++x.log)
 wt:waiting=(Q.filter λw=>w.op==68).map (·.task)
 wv:∀w∈Q,w.op=68->bB dF w.task=some w.value
theorem Ma{v t:Int}:∀{Q:List W},(tks Q).Nodup->gL (pW v Q) t=if eX Q t 70=true then[v]else[]
 | [],_=>rfl
 |w::Q,h=>by
  simp only[tks,cR,cy]at h;have ih:=Ma (v:=v) (t:=t) (Q:=Q) h.2;by_cases ho:w.op=70
  .have e:pW v (w::Q)=zX v w::pW v Q:=by simp[pW,ho]
   have e2:eX (w::Q) t 70=(w.task==t||eX Q t 70):=by simp[eX,ho]
   rw[e,Ah,ih,e2];by_cases ht:w.task=t
   .have hno:eX Q t 70=false:=by
     rw[Bool.eq_false_iff];intro hh;obtain⟨x,hx,oQ,_⟩:=Dn.1 hh;exact h.1 (by rw[ht,<-oQ];exact oZ hx)
    rw[aN ⟨ho,ht⟩,hno];simp[ht,zX]
   .rw[aF λh=>ht h.2]
    simp[ht]
  .have e:pW v (w::Q)=pW v Q:=by simp[pW,ho]
   have e2:eX (w::Q) t 70=eX Q t 70:=by simp[eX,ho]
   rw[e,ih,e2]
theorem HF{v:Int}{Q:List W}:gj (pW v Q)=[]:=by
 unfold gj pW;rw[Jk,vK];intro x hx;obtain⟨w,hw,rfl⟩:=dz.1 hx;have:=(lA.1 hw).2;simp at this;simp[zX,this]
theorem Tw{Q:List W}:(pO Q).filter (λw=>w.op==68)=Q.filter λw=>w.op==68:=by
 unfold pO;rw[Jd];refine List.filter_congr λw _=>?_
 by_cases h:w.op=68<;>simp[h]
theorem Inv.Mb{due:List (Int×List Int)}{g:Int->List Int}{dF:List (Int×Int)}{waiting:List Int}{Q:List W}{C:List K}(h:Inv due g dF waiting Q C){v:Int}(hq:(tks Q).Nodup)(hr:∀w∈Q,w.op=70->∀x∈C,x.task=w.task->x.log=[]):
  Inv (due.map λp=>(p.1,p.2++[v])) (λt=>g t++gL (pW v Q) t) dF waiting (pO Q) (C.map (cW Q v)) where
 nd:=by rw[x6];exact h.nd
 len:=by simpa using h.len
 key t ht:=by
  rw[HD]at ht;obtain⟨x,hx,oQ⟩:=h.key t (by simpa using ht)
  exact⟨cW Q v x,oZ hx,by rw[Dm];exact oQ⟩
 ok x hx:=by
  obtain⟨y,hy,rfl⟩:=dz.1 hx;rw[Dm,HD,h.ok y hy,Ma hq];simp only[fy,bF];unfold cW;by_cases hw:eX Q y.task 70=true
  .rw[aN hw,aN hw]
   obtain⟨w,hw1,kr,uZ⟩:=Dn.1 hw;rw[hr w hw1 uZ y hy kr.symm];simp
  .rw[aF hw,aF hw]
   simp
 wt:=by rw[Tw];exact h.wt
 wv w hw:=h.wv w (Dl hw).1
theorem Tx{A B:List W}{w:W}(h:cx (A++w::B)=(A.length:Int)):∀x∈A,¬x.op=68:=by
 have key:∀(l:List W)(k:Int)(x:W),x∈l->x.op=68->∀r:List W,idx (λw:W=>w.op==68) k (l++r)<k+l.length:=by
  intro l;induction l with
  |nil=>intro k x hx;simp at hx
  |cons a l ih =>
   intro k x hx ho r;simp only[qJ,idx,fT];by_cases ha:(a.op==68)=true
   .rw[aN ha];omega
   .rw[aF ha]
    rcases aY.1 hx with rfl |hx
    .simp at ha;exact absurd ho ha
    .have:=ih (k+1) x hx ho r
     omega
 intro x hx ho;have:=key A 0 x hx ho (w::B);unfold cx at h;omega
theorem Inv.aT{sz:Int}{dF:List (Int×Int)}:∀(n:Nat)(a:Ad)(due:List (Int×List Int))(g:Int->List Int)(waiting:List Int),Inv due g dF waiting a.Q a.C->lq sz a.Q a.C ->
  ∃(l:List Wk)(q:List Int),(dR sz n a).wn=a.wn++l/\waiting=gj l++q/\Inv (xB dF due (gj l)) (λt=>g t++gL l t) dF q (dR sz n a).Q (dR sz n a).C
 | 0,a,due,g,waiting,h,_=>⟨[],waiting,by simp[dR],rfl,by simpa[gj,xB,gL,dR]using h⟩
 |n+1,a,due,g,waiting,h,hg=>by
  unfold dR;by_cases hp:cx a.Q<0\/fl sz a.C a.Q=true
  .rw[aN hp]
   exact⟨[],waiting,by simp,rfl,by simpa[gj,xB,gL]using h⟩
  .rw[aF hp]
   simp only[dc,Bool.not_eq_true]at hp;rcases u6 a.Q with⟨h1,_⟩ |⟨A,B,w,hQ,Mc,cN⟩
   .omega
   have af:a.Q[(cx a.Q).toNat]?=some w:=by
    have:(cx a.Q).toNat=A.length:=by rw[Mc];simp
    rw[this,hQ];simp
   rw[af];simp only;have HG:=Mc;rw[hQ]at HG;have hA:=Tx HG;have jC:Q1 a.Q=A++B:=by rw[hQ];exact u7 HG
   have hw:=h.wt;have Md:A.filter (λw=>w.op==68)=[]:=by
    rw[vK];intro x hx;simpa using hA x hx
   rw[hQ,rZ,Md,jW,Jl (by simp[cN])]at hw
   have hsub:∀x∈A++B,x∈a.Q:=λx hx=>by
    rw[hQ];rcases aL.1 hx with hx |hx<;>simp[hx]
   have HH:=h.wv w (by rw[hQ];simp) cN
   have h1:Inv due g dF ((B.filter λw=>w.op==68).map (·.task)) (A++B) a.C :=
    ⟨h.nd,h.len,h.key,h.ok,by rw[rZ,Md,jW],λx hx=>h.wv x (hsub x hx)⟩
   have h2:=h1.Mb (v:=w.value) (LO (by rw[<-hQ];exact hg.nd)) (λx hx ho y hy vl=>by
    rcases(hg.cs x (hsub x hx)).2 with⟨_,hn⟩ |hn
    .obtain⟨⟨c,hc,jL,dO⟩,_⟩:=(xz hg.gZ).1 hn
     rw[hg.gZ.uniq hy hc (vl.trans jL.symm)];exact dO
    .omega)
   have mh:=hg.step hQ cN hp.2;have es:a.step w=⟨decide (pO (A++B)=[]),pO (A++B),a.C.map (cW (A++B) w.value),a.wn++⟨w.task,w.op,0⟩::pW w.value (A++B)⟩:=by
    unfold Ad.step;rw[jC]
   obtain⟨l,q,e1,e2,e3⟩:=Inv.aT n (a.step w) _ _ _ (by rw[es];exact h2) (by rw[es];exact mh)
   have ep:gj (⟨w.task,w.op,0⟩::pW w.value (A++B)++l)=w.task::gj l:=by
    have:gj (pW w.value (A++B)++l)=gj l:=by
     unfold gj;rw[rZ,nZ];have:=HF (v:=w.value) (Q:=A++B);unfold gj at this;rw[this,jW]
    unfold gj at this⊢;rw[qJ,Jl (by simp[cN]),cR,this]
   refine⟨⟨w.task,w.op,0⟩::pW w.value (A++B)++l,q,?_,?_,?_⟩
   .rw[e1,es];simp
   .rw[ep,hw,cR,e2];rfl
   .rw[ep]
    unfold xB;rw[HH];have eg:(λt=>g t++gL (⟨w.task,w.op,0⟩::pW w.value (A++B)++l) t)=λt=>g t++gL (pW w.value (A++B)) t++gL l t:=by
     funext t;rw[HE,Ah,aF (by simp only;omega)]
     simp
    rw[eg];exact e3
theorem HI(sz:Int):∀(n:Nat)(a:Ad),∀x∈(dR sz n a).wn,x∈a.wn\/∃w∈a.Q,w.task=x.task/\w.op=x.op
 | 0,a,x,hx=>.inl hx
 |n+1,a,x,hx=>by
  unfold dR at hx;split at hx
  .exact .inl hx
  .split at hx
   .exact .inl hx
   .rename_i w hw
    have hm:∀y∈Q1 a.Q,y∈a.Q:=λy hy=>(vI _ _).subset hy
    rcases HI sz n (a.step w) x hx with h |⟨y,hy,h1,h2⟩
    .unfold Ad.step at h
     simp only[aL,aY]at h;rcases h with h |rfl |h
     .exact .inl h
     .exact .inr ⟨w,dV hw,rfl,rfl⟩
     .unfold pW at h
      obtain⟨y,hy,rfl⟩:=dz.1 h;exact .inr ⟨y,hm y (lA.1 hy).1,rfl,rfl⟩
    .unfold Ad.step at hy
     exact .inr ⟨y,hm y (Dl hy).1,h1,h2⟩
theorem HJ{l:List Wk}{t:Int}(h:∀x∈l,x.task≠t):gL l t=[]:=by
 unfold gL;rw[Jk,vK];intro x hx;simp[h x hx]
theorem Me{α:Type}{t u:Int}(h:t≠u):∀{l:List (Int×α)},bB (dI t l) u=bB l u
 | []=>rfl
 |p::r=>by
  unfold dI;by_cases h1:p.1=t
  .rw[aN h1]
   conv=>rhs;unfold bB
   rw[aF (by omega)]
  .rw[aF h1]
   unfold bB;rw[Me h]
def tB(b:BB)(t op v:Int)(parked:Bool)(value:Int)(wn:List Wk):Option BB :=
 (
  if op=69 then some {b with due:=dw t [] b.due,got:=dw t [] b.got}else if op=71 then some {b with due:=dI t b.due,got:=dI t b.got}
  else if op=68 then(if parked=true then some {b with waiting:=b.waiting++[t],dF:=dw t v b.dF}else if b.waiting=[]then some (b.cx v)else none)else some b).bind
 λb1=>(gK b1 wn).map λb2=>if op=70/\parked=false then b2.get t value else b2
abbrev rQ(b:BB)(Q:List W)(C:List K):Prop:=Inv b.due b.gt b.dF b.waiting Q C
theorem Tz{l:List Wk}{t:Int}{x:Int×List Wk}(h:got l t=some x):∃(A B:List Wk)(w:Wk),l=A++w::B/\w.task=t/\x=(w.value,A++B):=by
 unfold got at h;rcases zO (p:=λw:Wk=>w.task==t) l 0 with⟨h1,_⟩ |⟨i,c,h1,h2,h3⟩
 .unfold nS at h
  have h1:idx (λw:Wk=>w.task==t) (0:Int) l = -1:=by simpa using h1
  rw[h1]at h;simp at h
 .have hf:nS l t=(i:Int):=by unfold nS;simpa using h1
  rw[hf]at h;rw[aF (by omega)]at h
  simp only[AX,h2,fy,bF]at h;obtain⟨hlt,he⟩:=dW.1 h2;refine⟨l.take i,l.drop (i+1),c,?_,by simpa using Es h3,?_⟩
  .rw[<-he];simp
  .rw[<-h,List.eraseIdx_eq_take_drop_succ]
theorem TC{k sz ot:Int}{s:S}{t op v p n:Int}{b:BB}(hc:gJ k sz ot s=0)(he:eY s t op v p n=0)(hl:s.Q.length<=90)(h:rQ b s.Q s.C):
  ∃b',tB b t op v (ap k sz ot s t op v p n).1.parked (ap k sz ot s t op v p n).1.value (ap k sz ot s t op v p n).1.wn=some b'/\rQ b' (ap k sz ot s t op v p n).1.st.Q (ap k sz ot s t op v p n).1.st.C:=by
 obtain⟨hm,_,_,hg,_⟩:=Dp.1 hc;have hfr:=LQ he;have hcb:=LL he;have TD:∀w∈s.Q,w.op=70->∀x∈s.C,x.task=w.task->x.log=[]:=λx hx ho y hy vl=>by
  rcases(hg.cs x hx).2 with⟨_,hn⟩ |hn
  .obtain⟨⟨c,hc,jL,dO⟩,_⟩:=(xz hg.gZ).1 hn
   rw[hg.gZ.uniq hy hc (vl.trans jL.symm)];exact dO
  .omega
 unfold ap tB;simp only[hc,he,ne_eq,AW,cB];by_cases k7:op=69
 .subst k7
  simp only[aU,eG,gK,fy];have hnt:=L7 he;have hno:bB b.due t=none:=by
   cases hd:bB b.due t with
   |none=>rfl
   |some x =>
    obtain⟨x,hx,oQ⟩:=h.key t (by rw[hd];rfl)
    exact absurd oQ (hnt x hx)
  refine⟨_,rfl,?_⟩;rw[aF (by simp)]
  have hmem:∀x,x∈gR s.C t->x=⟨t,true,[]⟩\/x∈s.C:=λx hx=>by
   unfold gR at hx;rw[aL,aY]at hx;rcases hx with hx |hx |hx
   .exact .inr (lC hx)
   .exact .inl hx
   .exact .inr (lD hx)
  refine⟨?_,?_,λu hu=>?_,λx hx=>?_,h.wt,h.wv⟩
  .simp only
   rw[w9 hno,fA];refine⟨h.nd,by simp,λa ha c hc=>?_⟩
   simp at hc;subst hc;exact λe=>HA.1 hno (e▸ha)
  .have:=congrArg List.length (w9 (x:=([]:List Int)) hno)
   simp at this;simp only[this];have:=h.len;unfold gR;simp
   have:(s.C.take (gh s.C t)).length+(s.C.drop (gh s.C t)).length=s.C.length:=by
    rw[<-List.length_append,Eu]
   simp at this;omega
  .simp only[Af]at hu
   by_cases e:t=u
   .exact⟨⟨t,true,[]⟩,by unfold gR;simp,e⟩
   .rw[aF e]at hu
    obtain⟨x,hx,oQ⟩:=h.key u hu;exact⟨x,Hz hx,oQ⟩
  .simp only[Af,BB.gt]
   rcases hmem x hx with rfl |hx
   .simp
   .have:=hnt x hx
    rw[aF λe=>this e.symm,aF λe=>this e.symm]
    exact h.ok x hx
 .simp only[k7,cB]
  by_cases k8:op=71
  .subst k8
   simp only[aU,eG];obtain⟨A,c,B,hS,l8,hk⟩:=xu (xx he (.inl rfl));have uH:del s.C t=A++B:=by
    have eN:((A.length:Int)).toNat=A.length:=by omega
    unfold del;rw[l8,eN,hS,yg (by omega)]
    simp
   have jL:=vh hk;have Ai:=hg.gZ;rw[hS]at Ai;have hne:∀x∈A++B,x.task≠t:=by
    have hp:=Ai.pw;rw[vN]at hp;obtain⟨_,h2,h3⟩:=hp;rw[r6]at h2;intro x hx;rcases aL.1 hx with hx |hx
    .have:=h3 x hx c (by simp);omega
    .have:=h2.1 x hx;omega
   have hsub:∀x∈A++B,x∈s.C:=λx hx=>by
    rw[hS];rcases aL.1 hx with hx |hx<;>simp[hx]
   have hcd:(bB b.due t).isSome=true:=by
    rw[<-jL,h.ok c (by rw[hS];simp)]
    rfl
   have hI:Inv (dI t b.due) (BB.gt {b with due:=dI t b.due,got:=dI t b.got}) b.dF b.waiting s.Q (A++B):=by
    refine⟨h.nd.sublist (L8.map _),?_,λu hu=>?_,λx hx=>?_,h.wt,h.wv⟩
    .have h1:=L9 hcd
     have h2:=h.len;rw[hS]at h2;simp at h2⊢;omega
    .rw[HB h.nd]at hu
     by_cases e:t=u
     .rw[aN e]at hu;cases hu
     .rw[aF e]at hu
      obtain⟨x,hx,oQ⟩:=h.key u hu;rw[hS,aL,aY]at hx;rcases hx with hx |rfl |hx
      .exact⟨x,by simp[hx],oQ⟩
      .exact absurd (jL.symm.trans oQ) e
      .exact⟨x,by simp[hx],oQ⟩
    .have hn:=hne x hx
     unfold BB.gt;simp only;rw[HB h.nd,aF λe=>hn e.symm,Me λe=>hn e.symm]
     exact h.ok x (hsub x hx)
   have mh:lq sz s.Q (A++B):=hg.Ae (L4 hg.gZ (by rw[hS];exact yc (pe A) (yd c B))) (by
    intro w hw d hd hdt;rw[hS,aL,aY]at hd;rw[aL];rcases hd with hd |rfl |hd
    .exact .inl hd
    .exact absurd (hdt.symm.trans jL) (hfr w hw)
    .exact .inr hd)
   rw[uH];obtain⟨l,q,e1,e2,e3⟩:=Inv.aT (s.Q.length+1) ⟨s.qn,s.Q,A++B,[]⟩ _ _ _ hI mh;have e1:(aT sz s.qn s.Q (A++B)).wn=l:=by simpa[aT]using e1
   obtain⟨b',k1,k2,k3,k4,k5⟩:=vk l {b with due:=dI t b.due,got:=dI t b.got} q e2;rw[e1,k1];refine⟨b',by simp,?_⟩
   unfold rQ;have eg:b'.gt=λu=>BB.gt {b with due:=dI t b.due,got:=dI t b.got} u++gL l u:=funext k5
   rw[eg,k2,k3,k4];exact e3
  .simp only[k8,cB]
   by_cases cN:op=68
   .subst cN
    simp only[aU];cases xA:(busy s.Q||fl sz s.C s.Q)
    .simp only[eD,cB]
     have hb:busy s.Q=false/\fl sz s.C s.Q=false:=by simpa using xA
     have hno:s.Q.filter (λw=>w.op==68)=[]:=by
      rw[vK];have:=hb.1;unfold busy at this;rw[yf]at this;exact this
     have hw0:b.waiting=[]:=by rw[h.wt,hno];rfl
     rw[aN hw0];simp only[eG];obtain⟨b',k1,k2,k3,k4,k5⟩:=vk (pW v s.Q) (b.cx v) [] (by rw[HF];exact hw0)
     rw[k1];refine⟨b',by simp,?_⟩
     unfold rQ;have eg:b'.gt=λu=>b.gt u++gL (pW v s.Q) u:=funext k5
     rw[eg,k2,k3,k4,HF];have:=h.Mb (v:=v) hg.nd TD;rw[hw0]at this;exact this
    .simp only[aU,eG,gK,fy]
     refine⟨_,rfl,?_⟩;rw[aF (by simp)]
     refine⟨h.nd,h.len,h.key,h.ok,?_,λw hw ho=>?_⟩
     .simp only
      rw[rZ,nZ,h.wt];rfl
     .simp only[Af]
      rcases aL.1 hw with hw |hw
      .rw[aF λe=>hfr w hw e.symm]
       exact h.wv w hw ho
      .simp at hw
       subst hw;rw[aN rfl]
   .have iz:op=70:=by have:=Hl he;omega
    subst iz;simp only[cN,cB,eG];obtain⟨A,c,B,hS,l8,hk⟩:=xu (xx he (.inr rfl));have jL:=vh hk;have eN:((A.length:Int)).toNat=A.length:=by omega
    have eZ:c∈s.C:=by rw[hS];simp
    rw[hk];simp only;have h1:=hg.gZ.el c eZ;cases gf:c.log with
    |cons x lg =>
     simp only;have e2:s.C.set (gI s.C t).toNat ⟨c.task,false,lg⟩=A++⟨c.task,false,lg⟩::B:=by rw[l8,eN,hS];exact Hp
     rw[e2];rw[gf]at h1;have Ai:=hg.gZ;rw[hS]at Ai;have hne:∀x∈A++B,x.task≠t:=by
      have hp:=Ai.pw;rw[vN]at hp;obtain⟨_,h2,h3⟩:=hp;rw[r6]at h2;intro x hx;rcases aL.1 hx with hx |hx
      .have:=h3 x hx c (by simp);omega
      .have:=h2.1 x hx;omega
     have mh:lq sz s.Q (A++⟨c.task,false,lg⟩::B):=hg.Ae (L5 (c:=c) (by rw[<-hS];exact hg.gZ) rfl (by
      have h2:=h1.2.2.1;have h3:=h1.2.2.2;simp at h2 h3⊢;exact⟨by omega,h3.2⟩)) (by
      intro w hw d hd hdt;rw[hS,aL,aY]at hd;rw[aL,aY];rcases hd with hd |rfl |hd
      .exact .inl hd
      .exact absurd (hdt.symm.trans jL) (hfr w hw)
      .exact .inr (.inr hd))
     have hI:Inv b.due (λu=>b.gt u++if t=u then[x]else[]) b.dF b.waiting s.Q (A++⟨c.task,false,lg⟩::B):=by
      refine⟨h.nd,by have:=h.len;rw[hS]at this;simpa using this,λu hu=>?_,λy hy=>?_,h.wt,h.wv⟩
      .obtain⟨y,hy,vl⟩:=h.key u hu
       rw[hS,aL,aY]at hy;rcases hy with hy |rfl |hy
       .exact⟨y,by simp[hy],vl⟩
       .exact⟨⟨y.task,false,lg⟩,by simp,vl⟩
       .exact⟨y,by simp[hy],vl⟩
      .rw[aL,aY]at hy
       have other:y∈A++B->bB b.due y.task=some ((b.gt y.task++if t=y.task then[x]else[])++y.log):=λhy=>by
        rw[aF λe=>hne y hy e.symm,o9]
        exact h.ok y (by rw[hS];rcases aL.1 hy with hy |hy<;>simp[hy])
       rcases hy with hy |rfl |hy
       .exact other (by simp[hy])
       .simp only
        rw[aN jL.symm,h.ok c eZ,gf];simp
       .exact other (by simp[hy])
     obtain⟨l,q,e1,e2,e3⟩:=Inv.aT (s.Q.length+1) ⟨s.qn,s.Q,A++⟨c.task,false,lg⟩::B,[]⟩ _ _ _ hI mh;have e1:(aT sz s.qn s.Q (A++⟨c.task,false,lg⟩::B)).wn=l:=by simpa[aT]using e1
     have hlt:∀y∈l,y.task≠t:=λy hy=>by
      have:=HI sz (s.Q.length+1) ⟨s.qn,s.Q,A++⟨c.task,false,lg⟩::B,[]⟩ y (by rw[<-e1]at hy;exact hy)
      rcases this with h |⟨w,hw,oM,_⟩
      .simp at h
      .rw[<-oM];exact hfr w hw
     obtain⟨b',k1,k2,k3,k4,k5⟩:=vk l b q e2;rw[e1,k1];refine⟨b'.get t x,by simp,?_⟩
     unfold rQ;have eg:(b'.get t x).gt=λu=>(b.gt u++if t=u then[x]else[])++gL l u:=funext λu=>by
      rw[HC,k5];by_cases hu:t=u
      .subst hu
       rw[HJ hlt];simp
      .simp[hu]
     rw[eg];show Inv b'.due _ b'.dF b'.waiting _ _
     rw[k2,k3,k4];exact e3
    |nil =>
     simp only;have vg:=Ht (v:=0) (op:=70) hcb (by omega) rfl
     have hn:nR s.C (W.mk t 70 0 p (-1))=true:=(xz hg.gZ).2 ⟨⟨c,eZ,jL,gf⟩,rfl⟩;have mh:=hg.snoc vg (by omega) hfr ⟨rfl,.inl ⟨rfl,hn⟩⟩
     have hI:Inv b.due b.gt b.dF b.waiting (s.Q++[W.mk t 70 0 p (-1)]) s.C:=by
      refine⟨h.nd,h.len,h.key,h.ok,?_,λw hw ho=>?_⟩
      .rw[rZ,nZ,h.wt]
       simp
      .rcases aL.1 hw with hw |hw
       .exact h.wv w hw ho
       .simp at hw;subst hw;cases ho
     obtain⟨l,q,e1,e2,e3⟩:=Inv.aT ((s.Q++[W.mk t 70 0 p (-1)]).length+1) ⟨false,s.Q++[W.mk t 70 0 p (-1)],s.C,[]⟩ _ _ _ hI mh;have e1:(aT sz false (s.Q++[W.mk t 70 0 p (-1)]) s.C).wn=l:=by simpa[aT]using e1
     have hnd:=LP sz ((s.Q++[W.mk t 70 0 p (-1)]).length+1) ⟨false,s.Q++[W.mk t 70 0 p (-1)],s.C,[]⟩ (by simpa using mh.nd)
     have hnd:(l.map (·.task)).Nodup:=by
      rw[<-e1];exact(fA.1 hnd).1
     cases Mf:got (aT sz false (s.Q++[W.mk t 70 0 p (-1)]) s.C).wn t with
     |none =>
      simp only;obtain⟨b',k1,k2,k3,k4,k5⟩:=vk l b q e2;rw[e1,k1];refine⟨b',by simp,?_⟩
      unfold rQ;have eg:b'.gt=λu=>b.gt u++gL l u:=funext k5
      rw[eg,k2,k3,k4];exact e3
     |some y =>
      simp only;rw[e1]at Mf;obtain⟨L1,L2,w,Dq,oM,rfl⟩:=Tz Mf;have Di:w.op=70:=by
       have:=HI sz ((s.Q++[W.mk t 70 0 p (-1)]).length+1) ⟨false,s.Q++[W.mk t 70 0 p (-1)],s.C,[]⟩ w (by
        have:w∈l:=by rw[Dq];simp
        rw[<-e1]at this;exact this)
       rcases this with h |⟨z,hz,TE,TF⟩
       .simp at h
       .rcases aL.1 hz with hz |hz
        .exact absurd (TE.trans oM) (hfr z hz)
        .simp at hz
         subst hz;exact TF.symm
      have ep:gj l=gj (L1++L2):=by
       rw[Dq];unfold gj;rw[rZ,rZ,Jj (by simp[Di])]
      rw[ep]at e2;obtain⟨b',k1,k2,k3,k4,k5⟩:=vk (L1++L2) b q e2;rw[k1];refine⟨b'.get t w.value,by simp,?_⟩
      unfold rQ;have hno:∀x∈L1++L2,x.task≠t:=by
       rw[Dq,nZ,cR,fA]at hnd;obtain⟨_,n2,n3⟩:=hnd;rw[cy]at n2;intro x hx e;rcases aL.1 hx with hx |hx
       .exact n3 _ (oZ hx) w.task (by simp) (e.trans oM.symm)
       .exact n2.1 (by rw[oM,<-e];exact oZ hx)
      have eg:(b'.get t w.value).gt=λu=>b.gt u++gL l u:=funext λu=>by
       rw[HC,k5,Dq,HE,HE,Ah,oM];by_cases hu:t=u
       .subst hu
        rw[HJ λx hx=>hno x (by simp[hx]),HJ (l:=L2) λx hx=>hno x (by simp[hx])]
        simp[Di]
       .simp[hu]
      rw[eg];show Inv b'.due _ b'.dF b'.waiting _ _
      rw[k2,k3,k4,<-ep];exact e3
def vm(b:BB)(C:List K):Bool:=C.length==b.due.length&&C.all λx=>match bB b.due x.task with
 |none=>false
 |some d=>b.gt x.task++x.log==d
theorem Inv.HK{b:BB}{Q:List W}{C:List K}(h:rQ b Q C):vm b C=true:=by
 unfold vm;rw[aA,bN,jG];refine⟨h.len.symm,λx hx=>?_⟩
 rw[h.ok x hx];simp
theorem Dr:∀(l:List Wk)(B B':BB)(N:Nat),Sz N B->gK B l=some B'->Sz (N+l.length) B'
 | [],B,B',N,hz,h=>by
  simp only[gK,bF]at h;subst h;exact hz
 |w::r,B,B',N,hz,h=>by
  rcases BB.LC h with⟨_,h'⟩ |⟨_,q,hq,h'⟩
  .exact(Dr r _ _ (N+1) (hz.put w.task w.value) h').mono (by simp;omega)
  .exact(Dr r _ _ (N+1) ((hz.wait (by have:=hz.w;rw[hq]at this;simp at this;omega)).cx _) h').mono (by simp;omega)
theorem xC{H:List O}{i:Nat}{x:BI}{B B':BB}{nl:Bool}{l:List Wk}{N:Nat}(b:aE H i x B)(lf:Lf H [i,x.n1,x.n2])(hz:Sz N B)(hN:N+l.length<=100)(hw:gK B l=some B'):
  ∃H' x',aW (ev P) H zm [.loc i 0 0,.d (kD nl l)]=some (.d (.b true),H')/\aE H' i x' B'/\Lf H' [i,x'.n1,x'.n2]/\H.length<=H'.length/\Sz (N+l.length) B':=by
 have iw:=hz.d;have fO:=hz.g;have mU:=Dr l B B' N hz hw;obtain⟨H3,x3,p1,p2,p3,p4,_⟩:=yW (rec:=ev P) (f:=zm) (B':=B') (as:=[kD nl l]) (r:=.d (.b true)) (λ_=>rfl) b lf ⟨by omega,by omega⟩
  (λh0 i0 x0 b0 l0 hlen=>by
   have:=b0.zL;exact Sy b0 l0 (by omega) (by omega) hz hN (mU.mono hN) hw)
 exact⟨H3,x3,p1,p2,p3,p4,mU⟩
theorem TG{H:List O}{i:Nat}{x:BI}{B:BB}{v:Int}{N:Nat}(b:aE H i x B)(lf:Lf H [i,x.n1,x.n2])(hz:Sz N B)(hN:N<=100):
  ∃H' x',aW (ev P) H uT [.loc i 0 0,.d (iK v)]=some (.tu [],H')/\aE H' i x' (B.cx v)/\Lf H' [i,x'.n1,x'.n2]/\H.length<=H'.length:=by
 have iw:=hz.d;have fO:=hz.g;obtain⟨H3,x3,p1,p2,p3,p4,_⟩:=yW (rec:=ev P) (f:=uT) (B':=B.cx v) (as:=[iK v]) (r:=.tu []) (λ_=>rfl) b lf ⟨by omega,by omega⟩
  (λh0 i0 x0 b0 l0 hlen=>by
   have:=b0.zL;exact K9 b0 l0 (by omega) ⟨by omega,by omega⟩ hz.nd (λe he=>by have:=hz.dl e he;omega))
 exact⟨H3,x3,p1,p2,p3,p4⟩
abbrev tC(t op v p n:Int):V:=.d (.ag [I' t,I' op,I' v,I' p,I' n])
section
variable {h0:List O}{i:Nat}{x:BI}{B B':BB}{t v p n:Int}{r:Rp}{N:Nat}
theorem TH(b:aE h0 i x B)(lf:Lf h0 [i,x.n1,x.n2])(hm:h0.length<=250)(hz:Sz N B)(hN:N+r.wn.length+3<=100)(hw:gK {B with due:=dw t [] B.due,got:=dw t [] B.got} r.wn=some B'):
  ∃h1 x1,ev P (.call oH [.loc i 0 0,tC t 69 v p n,.d (.ag r.row)] h0)=some (.val (.d (.b true)) h1)/\aE h1 i x1 B'/\Lf h1 [i,x1.n1,x1.n2]/\h0.length<=h1.length/\Sz (N+r.wn.length+2) B':=by
 have hi:=b.li;have hst:=b.st;obtain⟨o1,s1,k1,H1,kd,cd,bd,e1,e2,b1,l1,m1⟩:=b.RP lf t;obtain⟨o2,s2,k2,H2,kg,cg,bg,f1,f2,b2,l2,m2⟩:=b1.RQ l1 t;have fO:Sz (N+1) {B with due:=dw t [] B.due,got:=dw t [] B.got}:=by
  refine⟨by have:=hz.d;have:=w8 (t:=t) (y:=([]:List Int)) (l:=B.due);simp only;omega,by have:=hz.g;have:=w8 (t:=t) (y:=([]:List Int)) (l:=B.got);simp only;omega,λe he=>?_,λe he=>?_,by have:=hz.w;simp only;omega,Go.VS.w9 hz.nd⟩
  .rcases uY he with rfl |he
   .simp
   .have:=hz.dl e he;omega
  .rcases uY he with rfl |he
   .simp
   .have:=hz.gl e he;omega
 obtain⟨H3,x3,g1,b3,l3,m3,z3⟩:=xC (nl:=r.kn) b2 l2 fO (by omega) hw
 have q1:=z3.d;have q2:=z3.g;obtain⟨h1,x1,j1,j2,j3,j4⟩:=sU (v:=.b true) (m:=h0.length) b3 l3 ⟨by omega,by omega⟩ (by omega) hi (by omega)
 refine⟨h1,x1,?_,j2,j3,j4,z3.mono (by omega)⟩
 simp only at f1 f2;rw[bD w4 rfl];simp[rM,hst,e1,e2,f1,f2,g1,j1,-canon]
theorem TI(b:aE h0 i x B)(lf:Lf h0 [i,x.n1,x.n2])(hm:h0.length<=250)(hz:Sz N B)(hN:N+r.wn.length+3<=100)(hw:gK {B with due:=dI t B.due,got:=dI t B.got} r.wn=some B'):
  ∃h1 x1,ev P (.call oH [.loc i 0 0,tC t 71 v p n,.d (.ag r.row)] h0)=some (.val (.d (.b true)) h1)/\aE h1 i x1 B'/\Lf h1 [i,x1.n1,x1.n2]/\h0.length<=h1.length/\Sz (N+r.wn.length+2) B':=by
 have hi:=b.li;have hst:=b.st;obtain⟨H1,kd,bd,e1,b1,l1,m1⟩:=b.RR lf t;obtain⟨H2,kg,bg,f1,b2,l2,m2⟩:=b1.RS l1 t;have rP:=b1.st;have fO:Sz N {B with due:=dI t B.due,got:=dI t B.got}:=
  ⟨by have:=hz.d;have:=(oK (t:=t) (l:=B.due)).length_le;simp only;omega,by have:=hz.g;have:=(oK (t:=t) (l:=B.got)).length_le;simp only;omega,λe he=>hz.dl e (oK.subset he),λe he=>hz.gl e (oK.subset he),hz.w,hz.nd.sublist (oK.map _)⟩
 obtain⟨H3,x3,g1,b3,l3,m3,z3⟩:=xC (nl:=r.kn) b2 l2 fO (by omega) hw
 have q1:=z3.d;have q2:=z3.g;obtain⟨h1,x1,j1,j2,j3,j4⟩:=sU (v:=.b true) (m:=h0.length) b3 l3 ⟨by omega,by omega⟩ (by omega) hi (by omega)
 refine⟨h1,x1,?_,j2,j3,j4,z3.mono (by omega)⟩
 simp only at f1 rP;rw[bD w4 rfl];simp[rM,hst,e1,rP,f1,g1,j1,-canon,-pI]
theorem TJ(b:aE h0 i x B)(lf:Lf h0 [i,x.n1,x.n2])(hm:h0.length<=250)(hz:Sz N B)(hN:N+r.wn.length+3<=100)(hp:r.parked=true)(hw:gK {B with waiting:=B.waiting++[t],dF:=dw t v B.dF} r.wn=some B'):
  ∃h1 x1,ev P (.call oH [.loc i 0 0,tC t 68 v p n,.d (.ag r.row)] h0)=some (.val (.d (.b true)) h1)/\aE h1 i x1 B'/\Lf h1 [i,x1.n1,x1.n2]/\h0.length<=h1.length/\Sz (N+r.wn.length+2) B':=by
 have hi:=b.li;have hst:=b.st;obtain⟨w,k2,H1,e1,e2,e3,b1,l1,m1⟩:=b.push lf (by have:=hz.w;omega) t
 obtain⟨o2,s2,k3,H2,kw,cw,bw,f1,f2,b2,l2,m2⟩:=b1.RW l1 t v;have HL:=e2.trans hst;have fO:Sz (N+1) {B with waiting:=B.waiting++[t],dF:=dw t v B.dF}:=
  ⟨by have:=hz.d;simp only;omega,by have:=hz.g;simp only;omega,λe he=>by have:=hz.dl e he;omega,λe he=>by have:=hz.gl e he;omega,by have:=hz.w;simp;omega,hz.nd⟩
 obtain⟨H3,x3,g1,b3,l3,m3,z3⟩:=xC (nl:=r.kn) b2 l2 fO (by omega) hw
 have q1:=z3.d;have q2:=z3.g;obtain⟨h1,x1,j1,j2,j3,j4⟩:=sU (v:=.b true) (m:=h0.length) b3 l3 ⟨by omega,by omega⟩ (by omega) hi (by omega)
 refine⟨h1,x1,?_,j2,j3,j4,z3.mono (by omega)⟩
 simp only at f1 f2;rw[bD w4 rfl];simp[rM,hst,hp,e1,HL,e3,f1,f2,g1,j1,V.cC,-canon,-fW,-pg]
theorem TK(b:aE h0 i x B)(lf:Lf h0 [i,x.n1,x.n2])(hm:h0.length<=250)(hz:Sz N B)(hN:N+r.wn.length+3<=100)(hp:r.parked=false)(w7:B.waiting=[])(hw:gK (B.cx v) r.wn=some B'):
  ∃h1 x1,ev P (.call oH [.loc i 0 0,tC t 68 v p n,.d (.ag r.row)] h0)=some (.val (.d (.b true)) h1)/\aE h1 i x1 B'/\Lf h1 [i,x1.n1,x1.n2]/\h0.length<=h1.length/\Sz (N+r.wn.length+2) B':=by
 have hi:=b.li;have hst:=b.st;have kW:=b.Lm;rw[w7]at kW;obtain⟨H2,x2,f1,b2,l2,m2⟩:=TG (v:=v) b lf hz (by omega)
 obtain⟨H3,x3,g1,b3,l3,m3,z3⟩:=xC (nl:=r.kn) b2 l2 (hz.cx v) (by omega) hw
 have q1:=z3.d;have q2:=z3.g;obtain⟨h1,x1,j1,j2,j3,j4⟩:=sU (v:=.b true) (m:=h0.length) b3 l3 ⟨by omega,by omega⟩ (by omega) hi (by omega)
 refine⟨h1,x1,?_,j2,j3,j4,z3.mono (by omega)⟩
 rw[bD w4 rfl];simp[rM,hst,hp,kW,f1,g1,j1,-canon,-iT,-V.wk]
theorem TL(b:aE h0 i x B)(lf:Lf h0 [i,x.n1,x.n2])(hm:h0.length<=250)(hz:Sz N B)(hN:N+r.wn.length+3<=100)(hp:r.parked=false){B1:BB}(hw:gK B r.wn=some B1)(hB:B'=B1.get t r.value):
  ∃h1 x1,ev P (.call oH [.loc i 0 0,tC t 70 v p n,.d (.ag r.row)] h0)=some (.val (.d (.b true)) h1)/\aE h1 i x1 B'/\Lf h1 [i,x1.n1,x1.n2]/\h0.length<=h1.length/\Sz (N+r.wn.length+2) B':=by
 have hi:=b.li;have hst:=b.st;obtain⟨H3,x3,g1,b3,l3,m3,z3⟩:=xC (nl:=r.kn) b lf hz (by omega) hw
 obtain⟨old,v',h2,H4,kg,cg,bg,a1,a2,a3,a4,b4,l4,m4⟩:=b3.Lj l3 (λe he=>by have:=z3.gl e he;omega) t r.value
 have z4:=z3.put t r.value;have q1:=z4.d;have q2:=z4.g;obtain⟨h1,x1,j1,j2,j3,j4⟩:=sU (v:=.b true) (m:=h0.length) b4 l4 ⟨by omega,by omega⟩ (by omega) hi (by omega)
 refine⟨h1,x1,?_,by rw[hB];exact j2,j3,j4,by rw[hB];exact z4.mono (by omega)⟩
 have Mg:=b3.st;have TM:=a3.trans Mg;rw[bD w4 rfl];simp[rM,hp,g1,Mg,a1,a2,TM,a4,j1,V.cC,-canon,-eS,-fW,-kJ]
theorem TN{op:Int}(b:aE h0 i x B)(lf:Lf h0 [i,x.n1,x.n2])(hm:h0.length<=250)(hz:Sz N B)(hN:N+r.wn.length+3<=100)(h1:op≠69)(h2:op≠71)(h3:op≠68)(hp:¬(op=70/\r.parked=false))(hw:gK B r.wn=some B'):
  ∃h1 x1,ev P (.call oH [.loc i 0 0,tC t op v p n,.d (.ag r.row)] h0)=some (.val (.d (.b true)) h1)/\aE h1 i x1 B'/\Lf h1 [i,x1.n1,x1.n2]/\h0.length<=h1.length/\Sz (N+r.wn.length+2) B':=by
 have hi:=b.li;have hst:=b.st;obtain⟨H3,x3,g1,b3,l3,m3,z3⟩:=xC (nl:=r.kn) b lf hz (by omega) hw
 have q1:=z3.d;have q2:=z3.g;obtain⟨hh,x1,j1,j2,j3,j4⟩:=sU (v:=.b true) (m:=h0.length) b3 l3 ⟨by omega,by omega⟩ (by omega) hi (by omega)
 refine⟨hh,x1,?_,j2,j3,j4,z3.mono (by omega)⟩
 have c1:(op==69)=false:=by simpa using h1
 have c2:(op==71)=false:=by simpa using h2
 have c3:(op==68)=false:=by simpa using h3
 rw[bD w4 rfl];cases c4:op==70 with
 |false=>simp[rM,c1,c2,c3,c4,g1,j1,-canon]
 |true =>
  have:r.parked=true:=by
   cases hh:r.parked with
   |true=>rfl
   |false=>exact absurd ⟨by simpa using c4,hh⟩ hp
  simp[rM,c1,c2,c3,c4,this,g1,j1,-canon]
theorem TO{op:Int}(b:aE h0 i x B)(lf:Lf h0 [i,x.n1,x.n2])(hm:h0.length<=250)(hz:Sz N B)(hN:N+r.wn.length+3<=100)(hw:tB B t op v r.parked r.value r.wn=some B'):
  ∃h1 x1,ev P (.call oH [.loc i 0 0,tC t op v p n,.d (.ag r.row)] h0)=some (.val (.d (.b true)) h1)/\aE h1 i x1 B'/\Lf h1 [i,x1.n1,x1.n2]/\h0.length<=h1.length/\Sz (N+r.wn.length+2) B':=by
 have mid:∀{c:Prop} [Decidable c]{o:Option BB},¬c->(o.map λb2=>if c then b2.get t r.value else b2)=o:=by
  intro c _ o hc;cases o<;>simp[hc]
 unfold tB at hw;by_cases k7:op=69
 .subst k7
  simp only[aU,eG]at hw;rw[mid]at hw
  .exact TH b lf hm hz hN hw
  .simp
 rw[aF k7]at hw;by_cases k8:op=71
 .subst k8
  simp only[aU,eG]at hw;rw[mid]at hw
  .exact TI b lf hm hz hN hw
  .simp
 rw[aF k8]at hw;by_cases cN:op=68
 .subst cN
  simp only[aU]at hw;cases hp:r.parked with
  |true =>
   simp only[hp,aU,eG]at hw;rw[mid]at hw
   .exact TJ b lf hm hz hN hp hw
   .simp
  |false =>
   simp only[hp,eD,cB]at hw;split at hw
   .rename_i hn
    simp only[eG]at hw;rw[mid]at hw
    .exact TK b lf hm hz hN hp hn hw
    .simp
   .cases hw
 rw[aF cN]at hw;simp only[eG]at hw;cases hk:gK B r.wn with
 |none=>rw[hk]at hw;cases hw
 |some B1 =>
  rw[hk]at hw;simp only[fy,bF]at hw;split at hw
  .rename_i hc
   obtain⟨rfl,hp⟩:=hc;exact TL b lf hm hz hN hp hk hw.symm
  .rename_i hc
   subst hw;exact TN b lf hm hz hN k7 k8 cN hc hk
end
end Go.VS.Tp
namespace Go.VS.Tp
def xD:List D:=[I' 0]
abbrev rI(x:Int):List D:=[I' x]
theorem TP(A:List (List D))(b:Nat):aS (List.replicate (A.length+b) xD) 0 A=A++List.replicate b xD:=by
 simp[aS]
theorem TQ(A B:List (List D)):aS (A++List.replicate B.length xD) A.length B=A++B:=by
 simp[aS]
theorem TR(n:Nat)(h0:0<n)(hn:n<=1000):ev P (.call Cs [.d (.sl 1 true []),.d (I' n)] [])=some (.val (.aJ 0 0 0) [.an 1 true (List.replicate n xD)]):=by
 have h1:¬((n:Int)<0):=by omega
 have h2:IntKind.i64.wrap (n:Int)=n:=wrap_i64 (by omega) (by omega)
 have h3:(0:Int)<n:=by omega
 have h4:n<=room:=by unfold room;omega
 have h5:IntKind.i64.wrap 0=0:=by decide
 rw[bD K8 rfl];simp[h0,C3,h1,h2,h3,h4,h5,aQ,cut,xD,bp]
theorem TS:ev P (.call Cs [.d (.sl 1 true []),.d (I' 0)] [])=some (.val (.d (.sl 1 true [])) []):=by
 have h5:IntKind.i64.wrap 0=0:=by decide
 rw[bD K8 rfl];simp[C3,h5,bp]
theorem TT(n1 n2:Bool)(A B:List Int)(hA:A.length<=100)(hB:B.length<=100):
  ∃n,ev P (.call Gk [.d (.sl 1 false [[hD n1 A],[hD n2 B]])] [])=some (.val (.d (hD n (A++B))) []):=by
 have w0:IntKind.i64.wrap (A.length:Int)=A.length:=wrap_i64 (by omega) (by omega)
 have w1:IntKind.i64.wrap ((A.length:Int)+B.length)=(A.length+B.length:Nat):=by rw[wrap_i64 (by omega) (by omega)];simp
 have w2:¬((A.length:Int)<0):=by omega
 have w3:¬((A.length:Int)+B.length<0):=by omega
 have k1:IntKind.i64.wrap 1=1:=by decide
 have k2:IntKind.i64.wrap 2=2:=by decide
 have Ds:ev P (.loop 0 [0,3,9,10,11] zD [(0,.d (.sl 1 false [[hD n1 A],[hD n2 B]])),(3,.d (I' 0)),(9,.d (.sl 1 false [[hD n1 A],[hD n2 B]])),(10,.d (I' 2)),(11,.d (I' 0))] []) =
   some (.out (.exit 0) [(0,.d (.sl 1 false [[hD n1 A],[hD n2 B]])),(3,.d (I' (A.length+B.length:Nat)))] []):=by
  rw[cq]
  conv=>lhs;arg 4;unfold zD
  simp[w0,w2,k1];rw[cq]
  conv=>lhs;arg 4;unfold zD
  simp[w1,w3,k1,k2];rw[cq]
  conv=>lhs;arg 4;unfold zD
  simp
 rw[bD Rs rfl];by_cases h0:A.length+B.length=0
 .have ha:A=[]:=o7.1 (by omega)
  have hb:B=[]:=o7.1 (by omega)
  subst ha;subst hb;refine⟨true,?_⟩;have Dt:ev P (.loop 0 [6,25,26,27] mQ [(6,.d (.sl 1 true [])),(25,.d (.sl 1 false [[hD n1 []],[hD n2 []]])),(26,.d (I' 2)),(27,.d (I' 0))] []) =
    some (.out (.exit 2) [(6,.d (.sl 1 true []))] []):=by
   rw[cq]
   conv=>lhs;arg 4;unfold mQ
   simp[k1];rw[cq]
   conv=>lhs;arg 4;unfold mQ
   simp[k2];rw[cq]
   conv=>lhs;arg 4;unfold mQ
   simp
  simp at Ds Dt;simp[CW,Ds,Dt,TS,dU]
 .refine⟨false,?_⟩
  have hG:=TR (A.length+B.length) (by omega) (by omega)
  have o1:=TP (A.map rI) B.length;have o2:=TQ (A.map rI) (B.map rI);simp only[qG]at o1 o2;have Dt:ev P (.loop 0 [6,25,26,27] mQ [(6,.aJ 0 0 0),(25,.d (.sl 1 false [[hD n1 A],[hD n2 B]])),(26,.d (I' 2)),(27,.d (I' 0))] [.an 1 true (List.replicate (A.length+B.length) xD)]) =
    some (.out (.exit 2) [(6,.aJ 0 0 (A.length+B.length))] [.an 1 true (A.map rI++B.map rI)]):=by
   by_cases t1:A.length=0
   .have ha:A=[]:=o7.1 t1
    subst ha;cases B with
    |nil=>exact absurd rfl h0
    |cons b B =>
     rw[cq]
     conv=>lhs;arg 4;unfold mQ
     simp[aQ,cut,k1];rw[cq]
     conv=>lhs;arg 4;unfold mQ
     simp at o2;simp[aQ,cut,k1,k2];rw[cq]
     conv=>lhs;arg 4;unfold mQ
     simp[aQ,cut]
   .rw[cq]
    conv=>lhs;arg 4;unfold mQ
    simp[aQ,cut,k1,t1,o1];rw[cq]
    conv=>lhs;arg 4;unfold mQ
    cases B with
    |nil =>
     simp[aQ,cut,k1,k2];rw[cq]
     conv=>lhs;arg 4;unfold mQ
     simp[aQ,cut]
    |cons b B =>
     simp at o2;simp[aQ,cut,k1,k2,o2];rw[cq]
     conv=>lhs;arg 4;unfold mQ
     simp[aQ,cut]
  have t2:List.take (A.length+B.length) (A.map rI++B.map rI)=A.map rI++B.map rI:=fU (by simp)
  simp at Ds hG;simp[CW,Ds,Dt,hG,dU,t2,aQ,cut]
theorem TU(n1 n2:Bool)(l:List Int)(hl:l.length<=1000):∀(suf pre:List Int),l=pre++suf ->
  ev P (.loop 0 [0,1,12,13] CV [(0,.d (hD n1 l)),(1,.d (hD n2 l)),(12,.d (I' l.length)),(13,.d (I' pre.length))] [])=some (.out (.exit 0) [] []):=by
 intro suf;induction suf with
 |nil =>
  intro pre h;have hlen:¬((pre.length:Int)<(l.length:Int)):=by rw[h];simp
  rw[cq]
  conv=>lhs;arg 4;unfold CV
  simp[hlen]
 |cons a suf ih =>
  intro pre h;have hlt:((pre.length:Int)<(l.length:Int)):=by rw[h];simp;omega
  have hx:l[pre.length]?=some a:=by rw[h];simp
  have qZ:pre.length<l.length:=by omega
  have eF:IntKind.i64.wrap ((pre.length:Int)+1)=(pre.length:Int)+1:=wrap_i64 (by omega) (by omega)
  have ih:=ih (pre++[a]) (by rw[h];simp)
  have:(((pre++[a]).length:Nat):Int)=(pre.length:Int)+1:=by simp
  rw[this]at ih;rw[cq]
  conv=>lhs;arg 4;unfold CV
  simp[hlt,hx,eF,ih]
theorem TV(n1 n2:Bool)(l:List Int)(hl:l.length<=1000):ev P (.call Ck [.d (hD n1 l),.d (hD n2 l)] [])=some (.val (.d (.b true)) []):=by
 have hL:=TU n1 n2 l hl l [] rfl;simp at hL;rw[bD Rr rfl];simp[GL,hL]
theorem TX{h:List O}{n:Bool}{l:List Int}{v:V}{nl:Bool}(hv:b9 h v=some (hD nl l)):dr h [.d (hD n l),v]=some [hD n l,hD nl l]:=by
 simp[dr,b9,hv]
theorem TY{H:List O}{n:Bool}{l:List Int}{v:V}(hl:l.length<=1000)(hv:cF H v l):lR (ev P) H Ck [.d (hD n l),v]=some (.d (.b true)):=by
 obtain⟨nl,hd⟩:=hv.b9;have:=TV n nl l hl;unfold lR;rw[TX hd];simp[this,V.plain,D.so,D.plain]
theorem TZ{m i:Nat}{cn:Bool}{C:List K}{B:BB}(hi:i<m)(hm:m<=250)(dO:C.length<=1000)(hz:Sz 100 B):∀(rest done:List K)(H:List O)(x:BI),C=done++rest->aE H i x B->Lf H [i,x.n1,x.n2]->m<=H.length ->
  (∀c∈rest,c.log.length<=100/\bB B.due c.task=some ((bB B.got c.task).getD []++c.log)) ->
  ∃H' x',ev P (.loop m [0,19,20,21] CG [(0,.loc i 0 0),(19,.d (cD cn C)),(20,.d (I' C.length)),(21,.d (I' done.length))] H)=some (.out (.exit 0) [] H')/\aE H' i x' B/\Lf H' [i,x'.n1,x'.n2]/\m<=H'.length:=by
 have iw:=hz.d;have fO:=hz.g;intro rest;induction rest with
 |nil =>
  intro done H x hl b lf Ab _;obtain⟨H',x',e1,e2,e3,e4⟩:=b.head (m:=m) lf ⟨by omega,by omega⟩ Ab hi (live:=[]) (E:=[]) (by simp[bC]) (by simp[bC];omega)
  refine⟨H',x',?_,e2,e3,e4⟩;have hlen:¬((done.length:Int)<(C.length:Int)):=by rw[hl];simp
  rw[cq]
  conv=>lhs;arg 4;unfold CG
  simp[hlen,e1,-canon]
 |cons c rest ih =>
  intro done H x hl b lf Ab hall;have wz:done.length<C.length:=by rw[hl];simp
  have hlt:((done.length:Int)<(C.length:Int)):=by omega
  have hx:C[done.length]?=some c:=by rw[hl];simp
  have eF:IntKind.i64.wrap ((done.length:Int)+1)=(done.length:Int)+1:=wrap_i64 (by omega) (by omega)
  obtain⟨uJ,gE⟩:=hall c (by simp)
  have b1:aE (H++[.dead]) i x B:=b.app;have ve:Lf (H++[.dead]) [i,x.n1,x.n2]:=lf.app rfl;have rP:=b1.st;obtain⟨E2,sW⟩:∃E:List (Nat×V),E=[(0,.loc i 0 0),(19,.d (cD cn C)),(20,.d (I' C.length)),(21,.d (I' ((done.length:Int)+1)))]:=⟨_,rfl⟩;have vf:bC E2=[i]:=by rw[sW];simp[bC,V.ak]
  obtain⟨v,g1,g2⟩:=b1.due gE;obtain⟨nl,H2,k1,k2,k3,k4,k5⟩:=b1.TW ve c.task;have HL:=k2.st;obtain⟨T0,hC⟩:=TT nl c.nl ((bB B.got c.task).getD []) c.log (by
   cases hg:bB B.got c.task with
   |none=>simp
   |some z =>
    obtain⟨e,he,rfl⟩:=zK hg;exact hz.gl e he) uJ
  have hE:=TY (n:=T0) (by
   obtain⟨e,he,h⟩:=zK gE;have:=hz.dl e he;rw[<-h];omega) (k5 _ _ g2)
  rw[eC]at k4;obtain⟨H5,x5,d1,d2,d3,d4⟩:=k2.head (m:=m) k3 ⟨by omega,by omega⟩ (by omega) hi (live:=[0,19,20,21]) (E:=E2) (by rw[vf];simpa using hi) (by rw[vf];simp;omega)
  obtain⟨H',x',f1,f2,f3,f4⟩:=ih (done++[c]) H5 x5 (by rw[hl];simp) d2 d3 d4 (λc' mY=>hall c' (by simp[mY]))
  refine⟨H',x',?_,f2,f3,f4⟩;rw[cq]
  conv=>lhs;arg 4;unfold CG
  simp[hlt,hx,K.row,rP,g1,k1,HL,hC,hE,d1,sW,eF,-canon,-eS,-lR,-kK]
  have:(((done++[c]).length:Nat):Int)=(done.length:Int)+1:=by simp
  rw[this]at f1;exact f1
theorem Mi{B:BB}{C:List K}:vm B C=true↔C.length=B.due.length/\∀c∈C,bB B.due c.task=some ((bB B.got c.task).getD []++c.log):=by
 unfold vm;rw[aA,bN,jG];refine and_congr Iff.rfl (forall_congr' λc=>forall_congr' λ_=>?_)
 cases bB B.due c.task with
 |none=>simp
 |some d =>
  simp only[BB.gt,bN,bF];exact eq_comm
theorem T1{h0:List O}{i:Nat}{x:BI}{B:BB}{s:S}(b:aE h0 i x B)(lf:Lf h0 [i,x.n1,x.n2])(hm:h0.length<=250)(hz:Sz 100 B)(dO:s.C.length<=1000)(HN:∀c∈s.C,c.log.length<=100)(hf:vm B s.C=true):
  ∃h1 x1,ev P (.call zi [.loc i 0 0,.d (.ag s.row)] h0)=some (.val (.d (.b true)) h1)/\aE h1 i x1 B/\Lf h1 [i,x1.n1,x1.n2]/\h0.length<=h1.length:=by
 have hi:=b.li;have iw:=hz.d;have fO:=hz.g;have hst:=b.st;have T3:=b.md;have hlen:=b.rd.len;obtain⟨mN,HO⟩:=Mi.1 hf;rw[<-mN]at hlen;obtain⟨E,hE⟩:∃E:List (Nat×V),E=[(0,.loc i 0 0),(19,.d (cD s.cn s.C)),(20,.d (I' s.C.length)),(21,.d (I' (([]:List K).length:Nat)))]:=⟨_,rfl⟩;have rH:bC E=[i]:=by rw[hE];simp[bC,V.ak]
 obtain⟨H4,x4,c1,c2,c3,c4⟩:=b.head (m:=h0.length) lf ⟨by omega,by omega⟩ (bZ _) hi (live:=[0,19,20,21]) (E:=E) (by rw[rH];simpa using hi) (by rw[rH];simp;omega)
 obtain⟨H',x',f1,f2,f3,f4⟩:=TZ (cn:=s.cn) (C:=s.C) hi hm dO hz s.C [] H4 x4 rfl c2 c3 c4 (λc hc=>⟨HN c hc,HO c hc⟩)
 obtain⟨h1,x1,g1,g2,g3,g4⟩:=sU (v:=.b true) f2 f3 ⟨by omega,by omega⟩ f4 hi (by omega)
 refine⟨h1,x1,?_,g2,g3,g4⟩;rw[<-hE]at f1;rw[bD Q4 rfl];have xq:E=[(0,.loc i 0 0),(19,.d (cD s.cn s.C)),(20,.d (I' s.C.length)),(21,.d (I' 0))]:=hE;rw[xq]at c1 f1;simp[GA,hst,T3,hlen,c1,f1,g1,-canon]
theorem T4{a:Ad}{A B:List W}{w:W}(hQ:a.Q=A++w::B)(h:cx a.Q=(A.length:Int)):(a.step w).Q.length+(a.step w).wn.length<=a.Q.length+a.wn.length:=by
 have jC:Q1 a.Q=A++B:=by rw[hQ];exact u7 (by rw[<-hQ];exact h)
 have fM:=xj w.value (A++B);have xm:a.Q.length=A.length+(B.length+1):=by rw[hQ];simp
 simp only[eC]at fM;simp only[Ad.step,eC,fT];rw[jC];omega
theorem Mj(sz:Int):∀(n:Nat)(a:Ad),(dR sz n a).Q.length+(dR sz n a).wn.length<=a.Q.length+a.wn.length
 | 0,a=>bZ _
 |n+1,a=>by
  unfold dR;split
  .exact bZ _
  .rename_i hn
   rcases u6 a.Q with⟨h1,_⟩ |⟨A,B,w,hQ,hp,_⟩
   .exfalso;apply hn;left;omega
   .have e:((A.length:Int)).toNat=A.length:=by omega
    have hg:a.Q[(cx a.Q).toNat]?=some w:=by rw[hp,e,hQ];simp
    rw[hg];exact ig (Mj sz n _) (T4 hQ hp)
theorem HP(sz:Int)(qn:Bool)(Q:List W)(C:List K):(aT sz qn Q C).Q.length+(aT sz qn Q C).wn.length<=Q.length:=by
 have:=Mj sz (Q.length+1) ⟨qn,Q,C,[]⟩;simpa[aT]using this
theorem T5{k sz ot:Int}{s:S}{t op v p n:Int}(hc:gJ k sz ot s=0)(he:eY s t op v p n=0):(ap k sz ot s t op v p n).1.st.Q.length+(ap k sz ot s t op v p n).1.wn.length<=s.Q.length+1:=by
 unfold ap;simp only[hc,he,ne_eq,AW,cB];split
 .simp
 split
 .exact ig (HP sz s.qn s.Q (del s.C t)) (by omega)
 split
 .split
  .simp
  .exact ig (Nat.le_of_eq (xj v s.Q)) (by omega)
 .split
  .simp[jD,S0]
  .split
   .exact ig (HP sz s.qn s.Q _) (by omega)
   .have:=HP sz false (s.Q++[W.mk t op 0 p (-1)]) s.C
    simp only[eC,fT,lE]at this;split
    .exact this
    .rename_i hg
     have hl:=LS hg;exact ig (Jm hl _) this
structure DI(k sz ot:Int)(j:Nat)(s:S)(B:BB)(N:Nat):Prop where
 ck:gJ k sz ot s=0
 wf:s.mZ j j (j*21)
 inv:rQ B s.Q s.C
 z:Sz N B
 n:N+s.Q.length<=3*j
theorem T6{k sz ot:Int}{s:S}{t op v p n:Int}(h:(ap k sz ot s t op v p n).2=0):gJ k sz ot s=0/\eY s t op v p n=0:=by
 unfold ap at h;split at h
 .cases h
 .rename_i hc
  split at h
  .rename_i he;exact absurd h he
  .rename_i he;exact⟨by simpa using hc,by simpa using he⟩
theorem DI.mono{k sz ot:Int}{j:Nat}{s:S}{B:BB}{N:Nat}(h:DI k sz ot j s B N):DI k sz ot (j+1) s B N :=
 ⟨h.ck,h.wf.mono (by omega) (by omega) (by omega),h.inv,h.z,by have:=h.n;omega⟩
theorem DI.step{k sz ot:Int}{j:Nat}{s:S}{B:BB}{N:Nat}{t op v p n:Int}(h:DI k sz ot j s B N)(hj:j<20)(he:(ap k sz ot s t op v p n).2=0):
  ∃B',tB B t op v (ap k sz ot s t op v p n).1.parked (ap k sz ot s t op v p n).1.value (ap k sz ot s t op v p n).1.wn=some B'/\N+(ap k sz ot s t op v p n).1.wn.length+3<=100 /\
   (∀M,Sz M B'->M<=N+(ap k sz ot s t op v p n).1.wn.length+2->DI k sz ot (j+1) (ap k sz ot s t op v p n).1.st B' M):=by
 obtain⟨hc,hE⟩:=T6 he;have hq:=h.wf.q;obtain⟨B',h1,h2⟩:=TC hc hE (by omega) h.inv
 have h3:=T5 hc hE;have h4:=h.n;refine⟨B',h1,by omega,λM hM Zk=>⟨Tu hc hE (by omega),?_,h2,hM,by omega⟩⟩
 exact(LU (k:=k) (sz:=sz) (ot:=ot) (t:=t) (op:=op) (v:=v) (p:=p) (n:=n) h.wf).1.mono (by omega) (by omega) (by omega)
theorem DI.HK{k sz ot:Int}{j:Nat}{s:S}{B:BB}{N:Nat}(h:DI k sz ot j s B N)(hj:j<=20):vm B s.C=true/\Sz 100 B/\s.C.length<=1000/\∀c∈s.C,c.log.length<=100:=by
 have hf:=Inv.HK h.inv;have hn:=h.n;refine⟨hf,h.z.mono (by omega),by have:=h.wf.c;omega,λc hc=>?_⟩
 obtain⟨e,he,hh⟩:=zK ((Mi.1 hf).2 c hc);have:=h.z.dl e he;rw[hh,eC]at this;omega
theorem T7{k sz ot:Int}(hn:jA k sz ot=0):DI k sz ot 0 s0 ⟨[],[],[],[]⟩ 0:=by
 refine⟨Dp.2 ⟨hn,rfl,rfl,?_⟩,⟨by simp[s0],by simp[s0],by simp[s0],by simp[s0],by simp[s0],by simp[s0],by simp[s0]⟩,⟨by simp,rfl,by simp[bB],by simp[s0],rfl,by simp[s0]⟩,⟨by simp,by simp,by simp,by simp,by simp,by simp⟩,by simp[s0]⟩
 exact⟨⟨⟨List.Pairwise.nil,by simp[s0]⟩,by simp[s0],by simp[s0],by simp[s0,tks],by simp[s0]⟩,by simp[s0]⟩
theorem _root_.Go.VS.aE.HQ{H:List O}{i:Nat}{x:BI}{B:BB}(b:aE H i x B){j:Nat}{ex:Bool}{rows:List (List D)}(hj:af H j = .an 9 ex rows):j∉x.all i:=by
 intro hm;have sl:∀{v:V}{l:List Int},cF H v l->j∈v.ak->False:=λhs hn=>by
  rcases hs with⟨rfl,_⟩ |⟨n,off,e,r,rfl,h2,_⟩
  .simp[V.ak]at hn
  .simp[V.ak]at hn
   subst hn;rw[h2]at hj;simp at hj
 have mp:∀{kv:List (D×V)}{l:List (Int×List Int)},cE (cF H) kv l->j∈own kv->False:=fun{kv}=>by
  induction kv with
  |nil=>intro l _ hn;simp[own]at hn
  |cons p kv ih =>
   intro l hr hn;cases l with
   |nil=>exact hr.elim
   |cons q l =>
    rw[lW,aL]at hn;rcases hn with hn |hn
    .exact sl hr.2.1 hn
    .exact ih hr.2.2 hn
 simp only[BI.all,aY,aL]at hm;rcases hm with rfl |rfl |rfl |rfl |(h |h) |h
 .rw[b.st]at hj;cases hj
 .rw[b.md]at hj;cases hj
 .rw[b.mg]at hj;cases hj
 .rw[b.mw]at hj;cases hj
 .exact sl b.sw h
 .exact mp b.rd h
 .exact mp b.rg h
theorem _root_.Go.VS.aE.Du{H:List O}{i j:Nat}{x:BI}{B:BB}{o l n k:D}{row:List D}(b:aE H i x B)(lf:Lf H [i,x.n1,x.n2])(hsz:B.due.length<=300/\B.got.length<=300)(hj:af H j = .an 9 true [row]):
  ∃H' i' j' x',(∀env,cO [2,5,7,30,31,32] env=[(2,.d o),(5,.loc j 0 0),(7,.loc i 0 0),(30,.d l),(31,.d n),(32,.d k)]->canon 0 [2,5,7,30,31,32] env H=some ([(2,.d o),(5,.loc j' 0 0),(7,.loc i' 0 0),(30,.d l),(31,.d n),(32,.d k)],H')) /\
   aE H' i' x' B/\Lf H' [i',x'.n1,x'.n2]/\af H' j' = .an 9 true [row]:=by
 have wL:=b.li;have hjl:j<H.length:=by
  by_cases h:j<H.length
  .exact h
  .rw[tc (by omega)]at hj;cases hj
 obtain⟨L,c1,c2,_,c4,_,_,_,c8,c9,kX⟩:=b.cut (ex:=[]) lf (by simp) (by simp) hsz (m:=0) (by omega) (roots:=[j,i]) (by simpa using⟨hjl,wL⟩) (.inl (by simp)) (by simp)
 have hne:H≠[]:=λe=>by rw[e]at wL;simp at wL
 refine⟨sub H L,L.idxOf i,L.idxOf j,x.av (L.idxOf ·),λenv he=>?_,c8,by simpa[BI.av]using kX,by rw[c9 j (c4 j (by simp)),hj];rfl⟩
 have xE:bC [(2,(.d o:V)),(5,.loc j 0 0),(7,.loc i 0 0),(30,.d l),(31,.d n),(32,.d k)]=[j,i]:=by simp[bC,V.ak]
 rw[B8 he hne (by rw[xE];exact c1)]
 simp[eE,V.av]
theorem T8{B B':BB}{t op v value:Int}{parked:Bool}{wn:List Wk}{N:Nat}(hz:Sz N B)(hw:tB B t op v parked value wn=some B'):Sz (N+wn.length+2) B':=by
 unfold tB at hw;obtain⟨B1,h1,h2⟩:=ij.1 hw;have z1:Sz (N+1) B1:=by
  split at h1
  .cases h1
   refine⟨by have:=hz.d;have:=w8 (t:=t) (y:=([]:List Int)) (l:=B.due);simp only;omega,by have:=hz.g;have:=w8 (t:=t) (y:=([]:List Int)) (l:=B.got);simp only;omega,λe he=>?_,λe he=>?_,by have:=hz.w;simp only;omega,Go.VS.w9 hz.nd⟩
   .rcases uY he with rfl |he
    .simp
    .have:=hz.dl e he;omega
   .rcases uY he with rfl |he
    .simp
    .have:=hz.gl e he;omega
  split at h1
  .cases h1
   exact⟨by have:=hz.d;have:=(oK (t:=t) (l:=B.due)).length_le;simp only;omega,by have:=hz.g;have:=(oK (t:=t) (l:=B.got)).length_le;simp only;omega,λe he=>by have:=hz.dl e (oK.subset he);omega,λe he=>by have:=hz.gl e (oK.subset he);omega,by have:=hz.w;simp only;omega,hz.nd.sublist (oK.map _)⟩
  split at h1
  .split at h1
   .cases h1
    exact⟨by have:=hz.d;simp only;omega,by have:=hz.g;simp only;omega,λe he=>by have:=hz.dl e he;omega,λe he=>by have:=hz.gl e he;omega,by have:=hz.w;simp;omega,hz.nd⟩
   .split at h1
    .cases h1
     exact hz.cx v
    .cases h1
  .cases h1
   exact hz.mono (by omega)
 obtain⟨B2,h3,h4⟩:=cX.1 h2;have z2:=Dr wn B1 B2 (N+1) z1 h3;split at h4
 .subst h4
  exact(z2.put t value).mono (by omega)
 .subst h4
  exact z2.mono (by omega)
theorem T9{H:List O}{i:Nat}{x:BI}{B B':BB}{t op v p n:Int}{r:Rp}{N:Nat}(b:aE H i x B)(lf:Lf H [i,x.n1,x.n2])(hz:Sz N B)(hN:N+r.wn.length+3<=100)(hw:tB B t op v r.parked r.value r.wn=some B'):
  ∃H' x',aW (ev P) H oH [.loc i 0 0,tC t op v p n,.d (.ag r.row)]=some (.d (.b true),H')/\aE H' i x' B'/\Lf H' [i,x'.n1,x'.n2]/\Sz (N+r.wn.length+2) B'/\(∀k rows,af H k = .an 9 true rows->af H' k = .an 9 true rows):=by
 have iw:=hz.d;have fO:=hz.g;obtain⟨H3,x3,p1,p2,p3,p4,p5⟩:=yW (rec:=ev P) (f:=oH) (B':=B') (as:=[.ag [I' t,I' op,I' v,I' p,I' n],.ag r.row]) (r:=.d (.b true)) (λ_=>rfl) b lf ⟨by omega,by omega⟩
  (λh0 i0 x0 b0 l0 hlen=>by
   have:=b0.zL;obtain⟨h1,x1,g1,g2,g3,g4,_⟩:=TO (p:=p) (n:=n) b0 l0 (by omega) hz hN hw
   exact⟨h1,x1,g1,g2,g3,g4⟩)
 have pY:=T8 hz hw;refine⟨H3,x3,p1,p2,p3,pY,λk rows hk=>?_⟩
 have gG:k<H.length:=by
  by_cases h:k<H.length
  .exact h
  .rw[tc (by omega)]at hk;cases hk
 rw[p5 k gG (b.HQ hk),hk]
theorem Ua{H:List O}{i:Nat}{x:BI}{B:BB}{s:S}(b:aE H i x B)(lf:Lf H [i,x.n1,x.n2])(hz:Sz 100 B)(dO:s.C.length<=1000)(HN:∀c∈s.C,c.log.length<=100)(hf:vm B s.C=true):
  ∃H' x',aW (ev P) H zi [.loc i 0 0,.d (.ag s.row)]=some (.d (.b true),H')/\aE H' i x' B/\Lf H' [i,x'.n1,x'.n2]/\(∀k rows,af H k = .an 9 true rows->af H' k = .an 9 true rows):=by
 have iw:=hz.d;have fO:=hz.g;obtain⟨H3,x3,p1,p2,p3,p4,p5⟩:=yW (rec:=ev P) (f:=zi) (B':=B) (as:=[.ag s.row]) (r:=.d (.b true)) (λ_=>rfl) b lf ⟨by omega,by omega⟩
  (λh0 i0 x0 b0 l0 hlen=>by
   have:=b0.zL;exact T1 b0 l0 (by omega) hz dO HN hf)
 refine⟨H3,x3,p1,p2,p3,λk rows hk=>?_⟩
 have gG:k<H.length:=by
  by_cases h:k<H.length
  .exact h
  .rw[tc (by omega)]at hk;cases hk
 rw[p5 k gG (b.HQ hk),hk]
theorem Mk{H:List O}{a b:O}:af (H++[a,b]) (H.length+1)=b:=by simp[af,List.getD]
theorem Ub(nm:D)(k sz ot:Int)(cn:Bool)(l:List W)(tv:l.length<=20):∀(rest done:List W)(s:S)(B:BB)(N:Nat)(H:List O)(i j:Nat)(x:BI),l=done++rest->DI k sz ot done.length s B N->aE H i x B->Lf H [i,x.n1,x.n2]->af H j = .an 9 true [s.row] ->
  ev P (.loop 0 [2,5,7,30,31,32] zw [(2,.d (.ref [nm,I' k,I' sz,I' ot])),(5,.loc j 0 0),(7,.loc i 0 0),(30,.d (qD cn l)),(31,.d (I' l.length)),(32,.d (I' done.length))] H)=some (.out (.exit 0) [] []):=by
 intro rest;induction rest with
 |nil =>
  intro done s B N H i j x hl di b lf hj;have hlen:¬((done.length:Int)<(l.length:Int)):=by rw[hl];simp
  rw[cq]
  conv=>lhs;arg 4;unfold zw
  have hH:H≠[]:=λe=>by have:=b.li;rw[e]at this;simp at this
  cases H with
  |nil=>exact absurd rfl hH
  |cons o H=>simp[hlen,cut]
 |cons c rest ih =>
  intro done s B N H i j x hl di b lf hj;have wz:done.length<l.length:=by rw[hl];simp
  have hlt:((done.length:Int)<(l.length:Int)):=by omega
  have hx:l[done.length]?=some c:=by rw[hl];simp
  have eF:IntKind.i64.wrap ((done.length:Int)+1)=(done.length:Int)+1:=wrap_i64 (by omega) (by omega)
  have dO:(((done++[c]).length:Nat):Int)=(done.length:Int)+1:=by simp
  have hwf:=di.wf.wf (by omega) (by omega) (by omega)
  have hA:=Hr nm k sz ot s hwf c.task c.op c.value c.prio c.case
  have b1:aE (H++[.dead,.dead]) i x B:=by have:=(b.app (o:=.dead)).app (o:=.dead);rwa [jX]at this
  have ve:Lf (H++[.dead,.dead]) [i,x.n1,x.n2]:=by have:=(lf.app (o:=.dead) rfl).app (o:=.dead) rfl;rwa [jX]at this
  have hjl:j<H.length:=by
   by_cases h:j<H.length
   .exact h
   .rw[tc (by omega)]at hj;cases hj
  have hj0:af (H++[.dead]) j = .an 9 true [s.row]:=by rw[ke hjl,hj]
  have uP:af (H++[.dead,.dead]) j = .an 9 true [s.row]:=by rw[ke hjl,hj]
  have iw:=di.z.d;have fO:=di.z.g;have hn:=di.n;by_cases he:(ap k sz ot s c.task c.op c.value c.prio c.case).2=0
  .obtain⟨B',n1,n2,n3⟩:=di.step (t:=c.task) (op:=c.op) (v:=c.value) (p:=c.prio) (n:=c.case) (by omega) he
   generalize (ap k sz ot s c.task c.op c.value c.prio c.case)=ra at *
   obtain⟨r,e⟩:=ra;simp only at n1 n2 n3;obtain⟨H2,x2,p1,b2,Uc,p4,p5⟩:=T9 (p:=c.prio) (n:=c.case) b1 ve di.z n2 n1
   have Ml:=n3 _ p4 (bZ _);obtain⟨q1,q2,q3,q4⟩:=Ml.HK (by omega)
   obtain⟨H3,x3,r1,b3,Ud,r4⟩:=Ua b2 Uc q2 q3 q4 q1;have Dv:=r4 j _ (p5 j _ uP);have b4:aE (H3.set j (.an 9 true [r.st.row])) i x3 B':=b3.frame (λn hn=>eo λh=>b3.HQ Dv (h▸hn)) (by simp)
   have Ue:Lf (H3.set j (.an 9 true [r.st.row])) [i,x3.n1,x3.n2]:=Ud.set (.inl rfl);have Uf:af (H3.set j (.an 9 true [r.st.row])) j = .an 9 true [r.st.row]:=iu (by
    by_cases h:j<H3.length
    .exact h
    .rw[tc (by omega)]at Dv;cases Dv)
   have SA:=q2.d;have SB:=q2.g;obtain⟨H5,i5,j5,x5,d1,d2,d3,d4⟩:=b4.Du (o:=.ref [nm,I' k,I' sz,I' ot]) (l:=qD cn l) (n:=I' l.length) (k:=I' ((done.length:Int)+1)) Ue ⟨by omega,by omega⟩ Uf
   have f1:=ih (done++[c]) r.st B' _ H5 i5 j5 x5 (by rw[hl];simp) (by simpa using Ml) d2 d3 d4
   rw[dO]at f1;simp only at he;subst he;rw[cq]
   conv=>lhs;arg 4;unfold zw
   simp[hlt,hx,W.row,hj0,hA,eF,Rp.row,p1,r1,Dv,d1,Mk,-canon];exact f1
  .obtain⟨H4,i4,j4,x4,c1,c2,c3,c4⟩:=b1.Du (o:=.ref [nm,I' k,I' sz,I' ot]) (l:=qD cn l) (n:=I' l.length) (k:=I' done.length) ve ⟨by omega,by omega⟩ uP
   obtain⟨H5,i5,j5,x5,d1,d2,d3,d4⟩:=c2.Du (o:=.ref [nm,I' k,I' sz,I' ot]) (l:=qD cn l) (n:=I' l.length) (k:=I' ((done.length:Int)+1)) c3 ⟨by omega,by omega⟩ c4
   have f1:=ih (done++[c]) s B N H5 i5 j5 x5 (by rw[hl];simp) (by simpa using di.mono) d2 d3 d4
   rw[dO]at f1;generalize (ap k sz ot s c.task c.op c.value c.prio c.case)=ra at *
   obtain⟨r,e⟩:=ra;have xE:(e != 0)=true:=by simpa using he
   rw[cq]
   conv=>lhs;arg 4;unfold zw
   simp[hlt,hx,W.row,hj0,hA,xE,eF,Rp.row,c1,d1,Mk,-canon];exact f1
theorem Ug{nm:D}{k sz ot:Int}(h:jA k sz ot=0):ev P (.call wW [.d (.ag [nm,I' k,I' sz,I' ot])] [])=some (.val (.tu [.d (.ag l6),.d (I' 0)]) []):=by
 rw[tg,h];rfl
theorem Uh(nm:D)(k sz ot:Int)(cn:Bool)(l:List W):
  ev P (.call Cc [.d (.ag [nm,I' k,I' sz,I' ot]),.d (qD cn l)] [])=some (.val (.d (.b true)) []):=by
 have hN:=tg nm k sz ot;rw[bD QT rfl];by_cases h0:jA k sz ot=0
 .have hN:=Ug (nm:=nm) h0
  by_cases tv:l.length<=20
  .have hg:decide (20<(l.length:Int))=false:=by rw[Ev];omega
   have hg':¬(20<(l.length:Int)):=by omega
   have hb:aE [.an 9 true [l6],.mp [] 0 [],.mp [] 0 [],.mp [] 0 [],.cS 4 [[.mp 1,.mp 2,.mp 3,.d (.sl 1 true [])]]] 4 ⟨1,2,3,.d (.sl 1 true []),[],0,[],[],0,[],[],0,[]⟩ ⟨[],[],[],[]⟩:=
    ⟨rfl,rfl,rfl,rfl,trivial,trivial,trivial,.inl ⟨rfl,rfl⟩,by simp[V.ak],by decide,by decide,⟨rfl,List.Pairwise.nil,by simp⟩,⟨rfl,List.Pairwise.nil,by simp⟩,⟨rfl,List.Pairwise.nil,by simp⟩⟩
   have hlf:Lf [.an 9 true [l6],.mp [] 0 [],.mp [] 0 [],.mp [] 0 [],.cS 4 [[.mp 1,.mp 2,.mp 3,.d (.sl 1 true [])]]] [4,1,2]:=by
    intro n hn
    match n,hn with
    | 0,_=>rfl
    | 3,_=>rfl
    |n+5,_=>rfl
   obtain⟨H5,i5,j5,x5,d1,d2,d3,d4⟩:=hb.Du (o:=.ref [nm,I' k,I' sz,I' ot]) (l:=qD cn l) (n:=I' l.length) (k:=I' (([]:List W).length:Nat)) hlf ⟨by simp,by simp⟩ (j:=0) (row:=l6) rfl
   have hL:=Ub nm k sz ot cn l tv l [] s0 _ 0 H5 i5 j5 x5 rfl (T7 h0) d2 d3 d4;have e0:((0:Nat):Int)=0:=rfl;simp only[lE,e0,l6]at d1;simp only[lE,e0]at hL;simp[zx,hN,hg',Hw,l6,d1,hL,-canon]
  .have hg:(20<(l.length:Int)):=by omega
   simp[zx,hN,hg,Hw,l6]
 .have h1:(jA k sz ot != 0)=true:=by simpa using h0
  rw[aF h0]at hN;simp[zx,hN,h1,Hw,zN]
end Go.VS.Tp
