import Derived.Test.YtjpdopldkeodgaaGreatV02
import GoSem.Builtin.Copy
import GoSem.Builtin.Clear
import Derived.Laws.Externs
import Derived.KernelRfl
import Derived.Test.YtjpdopldkeodgaaGreatV01
import Derived.MapKept
import Derived.Laws.MakeOwn
import Derived.RangeFuncRecord
import Derived.OrdersIn
import Derived.TacticsIn
import Derived.Scope
import Derived.Test.YtjpdopldkeodgaaGreatV00
set_option linter.all false
set_option maxHeartbeats 1000000
namespace Go.VS
section
variable {P:Program}{φ:fj}
variable {nt m dB:Nat}{s:St}{g:Gh}{a:Act}{w:World}{K:Act->World->Prop}{Q:Exit->Act->World->Prop}{o:Oper}
theorem aiP(hs:cm φ nt m dB s g a w){rec:Rec}{d:Nat}{x:A}(hc:cL P φ nt o (.sX d x)=true)(hok:(aU rec (.sX d x) s).ok=true)
  (hK:eu φ nt m dB s g w (aU rec (.sX d x) s) o a K):o.wp P a w K Q:=by
 simp only[cL,bJ]at hc;obtain⟨hd,h⟩:=hc;split at h
 .rename_i y ho
  have rx:=eE hs h;simp only[aU]at hok hK;split at hK
  .rename_i cs hv
   rw[hv]at rx;have rx':=rx;simp only[aI,bR]at rx';obtain⟨b,off,he,_⟩:=rx';exact uX hs hd (v':=a.eval y) (by simp[execOp,ho,he]) rx hK
  .rename_i cs hv
   rw[hv]at rx;have rx':=rx;simp only[aI]at rx';obtain⟨b,off,us,he,_⟩:=rx';exact uX hs hd (v':=a.eval y) (by simp[execOp,ho,he]) rx hK
  .rename_i n r c hv
   rw[hv]at rx;have rx':=rx;simp only[aI]at rx';obtain⟨h1,h2,h3⟩:=rx';cases jx:a.eval y with
   |pointer ad =>
    cases ad with
    |some ad=>rw[jx]at rx;exact uX hs hd (v':=.pointer (some ad)) (by simp[execOp,ho,jx]) rx hK
    |none=>rw[jx]at h2;simp[Ij]at h2
   |_=>rw[jx]at h2;simp[Ij]at h2
  .rename_i t v hv
   rw[hv]at rx;have rx':=rx;simp only[aI,bR]at rx';obtain⟨y',he,_⟩:=rx';exact uX hs hd (v':=a.eval y) (by simp[execOp,ho,he]) rx hK
  .rename_i h1 h2 h3
   exfalso;revert hok;split<;>simp_all[St.fail]
 .simp at h
theorem Z4{t:TypeId}{n off:Nat}{ag:Bool}(lJ:wA P t ag=true)(hn:jw P t n=true){A:Array Value}{v':Value}
  (hv:if ag then n<=(A.toList.drop off).length/\v' = .agg ((A.toList.drop off).take n).toArray else(A.toList.drop off).head?=some v'):(part t A off).run P w = .ok v' w:=by
 have h1:=No (P:=P) (w:=w) lJ;have h2:=wI (P:=P) (w:=w) hn;cases ag
 .simp only[eI,dI,List.head?_drop]at hv
  have:A[off]?=some v':=by simpa using hv
  simp[part,h1,this]
 .simp only[dF]at hv
  have he:A.extract off (off+n)=((A.toList.drop off).take n).toArray:=by
   rw[<-Array.toList_inj];simp only[Array.toList_extract,List.extract_eq_take_drop];congr 1;omega
  simp[part,h1,h2,he,hv.2]
theorem aiQ(hs:cm φ nt m dB s g a w){rec:Rec}{d off n:Nat}{ag:Bool}{x:A}(hc:cL P φ nt o (.rY d x off n ag)=true)(hok:(aU rec (.rY d x off n ag) s).ok=true)
  (hK:eu φ nt m dB s g w (aU rec (.rY d x off n ag) s) o a K):o.wp P a w K Q:=by
 simp only[cL,bJ]at hc;obtain⟨hd,h⟩:=hc;split at h
 .rename_i t y k ho
  simp only[bJ]at h;obtain⟨hx,h⟩:=h;split at h
  .rename_i fs hfs
   split at h
   .rename_i f hf
    simp only[bJ,dN]at h;obtain⟨⟨rfl,hn⟩,lJ⟩:=h;have rx:=eE hs hx;simp only[aU]at hok hK;refine mI hs hd hok (λv hv=>?_) hK
    have fin:∀{A:Array Value}{cs:List V},a.eval y = .agg A->bT φ s.heap g w cs A.toList->(∀u∈A.toList,u.oneCell'=true)->pack n ag (cs.drop f.offset)=some v ->
      ∃v',(execOp a.eval o).run P w = .ok (.value v') w/\aI φ s.heap g w v v':=by
     intro A cs he hr h1 hp;obtain⟨v',h2,h3⟩:=Iq (Il hr f.offset) (λu hu=>h1 u (mO hu)) hp
     have:=Z4 (P:=P) (w:=w) (off:=f.offset) (A:=A) lJ hn h2;exact⟨v',by simp[execOp,ho,Instr.field,run_underlying hfs,hf,he,asAgg,this],h3⟩
    unfold Kj at hv;split at hv
    .rename_i cs fT
     rw[fT]at rx;simp only[aI,bR]at rx;obtain⟨A,he,hr,h1⟩:=rx;exact fin he (zx hr) h1 hv
    .rename_i cs fT
     rw[fT]at rx;simp only[aI]at rx;obtain⟨A,he,hr,h1⟩:=rx;exact fin he hr h1 hv
    .simp at hv
   .simp at h
  .simp at h
 .simp at h
theorem aiR{cap len l h mx:Nat}{k1 k2 k3:IntKind}(h1:l<=h)(h2:h<=mx)(h3:mx<=cap):
  (Instr.sliceBounds true len cap (some (.int k1 l)) (some (.int k2 h)) (some (.int k3 mx))).run P w = .ok (l,h,mx) w:=by
 have a1:¬((mx:Int)<0):=by omega
 have a2:¬((cap:Int)<mx):=by omega
 have a3:¬((h:Int)<0):=by omega
 have a4:¬((mx:Int)<h):=by omega
 have a5:¬((l:Int)<0):=by omega
 have a6:¬((h:Int)<l):=by omega
 simp[Instr.sliceBounds,Instr.sliceBound,asIntOf,h1,h2,h3]
theorem aiS(hs:cm φ nt m dB s g a w){rec:Rec}{d es:Nat}{x lo hi mx:A}(hc:cL P φ nt o (.qW d x lo hi mx es)=true)(hok:(aU rec (.qW d x lo hi mx es) s).ok=true)
  (hK:eu φ nt m dB s g w (aU rec (.qW d x lo hi mx es) s) o a K):o.wp P a w K Q:=by
 simp only[cL,bJ]at hc;obtain⟨hd,h⟩:=hc;split at h
 .rename_i t y lo' hi' Y4 ho
  simp only[bJ]at h;obtain⟨⟨⟨⟨hx,hlo⟩,hhi⟩,yj⟩,ht⟩:=h;split at ht
  .rename_i e hu
   have rx:=eE hs hx;simp only[aU]at hok hK;refine mI hs hd hok (λv hv=>?_) hK
   have num:∀{z:A}{z':Operand}{n:Int},dM φ z' z=true->asInt (s.get z)=some n->∃k,a.eval z' = .int k n:=by
    intro z z' n hz hn;have hr:=eE hs hz;cases hv:s.get z with
    |d q =>
     rw[hv]at hn hr;cases q with
     |i k q=>simp[asInt]at hn;subst hn;exact⟨k,nE (by simpa only[aI]using hr)⟩
     |_=>simp[asInt]at hn
    |_=>rw[hv]at hn;simp[asInt]at hn
   unfold Ki at hv;split at hv
   .rename_i l hh q hl Ix hq
    obtain⟨k1,e1⟩:=num hlo hl;obtain⟨k2,e2⟩:=num hhi Ix;obtain⟨k3,e3⟩:=num yj hq;have fin:∀{ad:Option Addr}{len cap:Nat},a.eval y = .slice ad len cap->0<=l->l<=hh->hh<=q->q<=cap->v = .u ->
      ∃v',(execOp a.eval o).run P w = .ok (.value v') w/\aI φ s.heap g w v v':=by
     intro ad len cap he h0 h1 h2 h3 hvu;subst hvu;have hb:=aiR (P:=P) (w:=w) (cap:=cap) (len:=len) (l:=l.toNat) (h:=hh.toNat) (mx:=q.toNat) (k1:=k1) (k2:=k2) (k3:=k3) (by omega) (by omega) (by omega)
     have i1:(l.toNat:Int)=l:=by omega
     have i2:(hh.toNat:Int)=hh:=by omega
     have i3:(q.toNat:Int)=q:=by omega
     rw[i1,i2,i3]at hb;have hsz:=wI (P:=P) (w:=w) ht;refine⟨_,by simp[execOp,ho,he,e1,e2,e3,Instr.sliceAt,Instr.slice,run_underlying hu,hb,hsz];rfl,by simp[aI]⟩
    split at hv
    .rename_i e' nl xs hp
     rw[hp]at rx;simp only[aI,bR]at rx;obtain⟨ad,cap,he,hlc,_⟩:=rx;split at hv
     .rename_i dV
      simp only[gw]at hv;exact fin he dV.2.1 dV.2.2.1 dV.2.2.2.1 (by omega) hv.symm
     .simp at hv
    .rename_i n off len hp
     rw[hp]at rx;simp only[aI]at rx;split at hv
     .rename_i dV
      simp only[gw]at hv;obtain⟨es',he'⟩:=Fh dV.1;obtain⟨cap,he,hlc,_⟩:=rx.2.2 es' he';exact fin he dV.2.1 dV.2.2.1 dV.2.2.2.1 (by omega) hv.symm
     .simp at hv
    .rename_i e' hp
     rw[hp]at rx;simp only[aI]at rx;obtain⟨ad,he⟩:=rx;split at hv
     .rename_i dV
      simp only[gw]at hv;obtain⟨_,rfl,rfl,rfl⟩:=dV;exact fin he (by omega) (by omega) (by omega) (by simp) hv.symm
     .simp at hv
    .simp at hv
   .simp at hv
  .simp at ht
 .simp at h
theorem Z5(hs:cm φ nt m dB s g a w){n p es:Nat}{rows ys:List (List D)}{news:List Value}{CS:Array Value}{T:TypeId}{ok:Bool}(hn:aV s.heap n = .aG es true rows)
  (hb:w.heap[g.β n]?=some (.cells CS T (0,0)))(oX:g.o n+es*rows.length<=CS.size)
  (dS:jE φ g.I w (g.β n) es (g.o n) rows)(hI:g.I (g.β n)<=g.o n)(hrd:cy φ g.I w ys.flatten news)(hone:∀u∈news,u.oneCell'=true)(hrl:∀r∈ys,r.length=es)(nH:news.length=ys.length*es)
  (hin:p+ys.length<=rows.length):
  (storeCells ⟨g.β n,g.o n+p*es,none⟩ news).run P w = .ok () (w.setRow (g.β n) (aq CS.toList (g.o n+p*es) news).toArray) /\
  cm φ nt m dB ⟨s.env,s.heap.set n (.aG es true (aq rows p ys)),ok⟩ g a (w.setRow (g.β n) (aq CS.toList (g.o n+p*es) news).toArray) /\
  Frame m s.heap g w (s.heap.set n (.aG es true (aq rows p ys))) g (w.setRow (g.β n) (aq CS.toList (g.o n+p*es) news).toArray):=by
 have hl:(aV s.heap n).live=true:=by rw[hn];rfl
 have hmul:(p+ys.length)*es<=rows.length*es:=lU es hin;rw[ni]at hmul;have Iz:es*rows.length=rows.length*es:=jg _ _;have oY:g.o n+p*es+news.length<=CS.size:=by omega
 have hst:=run_storeCells_at P (g.β n) (g.o n+p*es) T news 0 CS w hb (by simpa using oY) hone
 simp only[GB]at hst;obtain⟨ht,hw'⟩:=Nr (cs:=(aq CS.toList (g.o n+p*es) news).toArray) hb;have hE:Ext g.I w g.I (w.setRow (g.β n) (aq CS.toList (g.o n+p*es) news).toArray):=Iv ht hb oY hw' (by omega) (λ_=>gf _)
 have hsize:(aq CS.toList (g.o n+p*es) news).toArray.size=CS.size:=by
  have:=Bi (cs:=CS.toList) (new:=news) (o:=g.o n+p*es) (by simpa using oY)
  simpa using this
 have yd:(aq rows p ys).length=rows.length:=Bi hin;have hle:=wu (x:=.aG es true (aq rows p ys)) hs.heap hl ht hE
  (λes' he'=>⟨by rw[hn];simpa[O.gM]using he',by rw[hn];simp only[O.len,yd],λrH T' hc=>by
   rw[hb]at hc;simp at hc;obtain⟨rfl,rfl⟩:=hc;exact⟨_,_,hw',by rw[hsize];exact gf _,λh=>h.Bj hone⟩⟩) (λkv hk=>by simp at hk)
 have hH:=wx (x:=.aG es true (aq rows p ys)) hs.heap hl ht hle (λ_ _=>rfl)
  ⟨⟨_,T,hw',by rw[hsize,yd];exact oX⟩,ZB dS hE hrd hone hrl hin hb oX hw',by simpa[Gh.dZ]using hI⟩
 exact⟨hst,hs.x8 hl ht hle hH,wy _ hl ht hE (λ_ _=>rfl) hle⟩
theorem Z6{d:Option Nat}(hd:p5 nt o d=true){v:V}{v':Value}{hh:List O}{w':World}(hrun:(execOp a.eval o).run P w = .ok (.value v') w')(hS:cm φ nt m dB ⟨s.env,hh,s.ok⟩ g a w')(hF:Frame m s.heap g w hh g w')
  (hv:aI φ hh g w' v v')(hK:eu φ nt m dB s g w (s.lq d (some (v,hh))) o a K):o.wp P a w K Q:=by
 obtain⟨h1,h2⟩:=De hd;refine Fg hrun (hK g v' w' ?_ ?_)
 .rw[h1]
  cases d with
  |none=>exact hS
  |some d=>exact hS.wF (h2 d rfl) hv
 .cases d<;>exact hF
theorem Z7{I:Nat->Nat}{z:List D}{C:List Value}(hr:cy φ I w z C):∀n:Nat,cy φ I w (List.replicate n z).flatten (List.replicate n C).flatten
 | 0=>by simp[cy]
 |n+1=>by
  simp only[Pk,yL];exact zw hr (Z7 hr n)
theorem NJ{I:Nat->Nat}{z:List D}{C:Array Value}(hr:cy φ I w z C.toList)(h1:∀v∈C.toList,v.oneCell'=true)(hp:0<z.length)(n:Nat):
  cy φ I w (List.replicate n z).flatten (Builtin.zeroCells C n).toList/\(∀v∈(Builtin.zeroCells C n).toList,v.oneCell'=true)/\(Builtin.zeroCells C n).toList.length=n*z.length:=by
 have hl:=sH hr;have he:(Builtin.zeroCells C n).toList=(List.replicate n C.toList).flatten:=by
  have hcs:C.size=z.length:=by simpa using hl.symm
  unfold Builtin.zeroCells;rw[show n*C.size=n*z.length by rw[hcs]]
  exact Iu n z.length C hcs hp
 rw[he];refine⟨Z7 hr n,λv hv=>?_,by simp[hl]⟩
 simp only[List.mem_flatten,GD]at hv;obtain⟨l,⟨_,rfl⟩,hv⟩:=hv;exact h1 v hv
theorem Z8{es k n:Nat}{xa:Option Addr}{xc:Nat}{news:List Value}(hl:news.length=n*es)(hk:k<=n)(hc:news≠[]->∃b off,xa=some ⟨b,off,none⟩/\∀(j:Nat)(u:Value),news[j]?=some u->w.cell? ⟨b,off+j,none⟩=some u)
  : (Builtin.firstCells es k (.slice xa n xc)).run P w = .ok (news.take (k*es)).toArray w:=by
 have sJ:(news.take (k*es)).length=k*es:=by
  have:=lU es hk;simp;omega
 by_cases hne:news.take (k*es)=[]
 .rw[hne]at sJ⊢
  have h0:k*es=0:=by simpa using sJ.symm
  cases xa with
  |none=>simp[Builtin.firstCells]
  |some ad=>exact run_firstCells_some w es k ad n xc [] (by simp[h0]) (by simp)
 .have NL:news≠[]:=λh=>hne (by simp[h])
  obtain⟨b,off,rfl,h⟩:=hc NL;refine run_firstCells_some w es k _ n xc _ sJ λj v hj=>?_
  rw[qG];rw[yK]at hj;split at hj
  .exact h j v hj
  .simp at hj
theorem Z9{α:Type}{es:Nat}:∀{rows:List (List α)}(_:∀r∈rows,r.length=es)(n:Nat),(rows.take n).flatten=rows.flatten.take (n*es)
 | [],_,n=>by simp
 |r::rs,h,0=>by simp
 |r::rs,h,n+1=>by
  have hr:r.length=es:=h r (by simp)
  have ih:=Z9 (rows:=rs) (λx hx=>h x (by simp[hx])) n
  have e1:(n+1)*es - es=n*es:=by rw[qU];omega
  have e2:r.take ((n+1)*es)=r:=gC (by rw[qU];omega)
  simp only[Pr,yL,ih,GC,hr,e1,e2]
theorem aiT(hs:cm φ nt m dB s g a w){rec:Rec}{d:Option Nat}{es:Nat}{x:A}{z:List D}(hc:cL P φ nt o (.qp d x es z)=true)(hok:(aU rec (.qp d x es z) s).ok=true)
  (hK:eu φ nt m dB s g w (aU rec (.qp d x es z) s) o a K):o.wp P a w K Q:=by
 simp only[cL,bJ]at hc;obtain⟨hd,h⟩:=hc;split at h
 .rename_i c ho
  split at h
  .rename_i y t iu hargs p6
   simp only[bJ]at h;obtain⟨hx,h⟩:=h;split at h
   .rename_i e hu
    simp only[bJ,dN,fZ]at h;obtain⟨⟨hz,rfl⟩,hpos⟩:=h;obtain⟨i,v,hi,T7,rL,n9,hzs⟩:=Db (g:=g) (w:=w) hz;obtain⟨Fi,args,tys⟩:=c;simp only at iu hargs p6;have rJ:args=#[y]:=by rw[<-Array.toList_inj];exact hargs
    have wK:tys=#[t]:=by rw[<-Array.toList_inj];exact p6
    subst iu;subst rJ;subst wK;have rx:=eE hs hx;simp only[aU]at hok hK;obtain⟨r,hr⟩:=xC hok;rw[hr]at hK;simp only[gI]at hr;obtain⟨hh,hr,rfl⟩:=hr;have fin:∀{w':World},(Builtin.clear_ #[t] o.type #[a.eval y]).run P w = .ok (.tuple #[]) w'->cm φ nt m dB ⟨s.env,hh,s.ok⟩ g a w'->Frame m s.heap g w hh g w'->o.wp P a w K Q:=by
     intro w' h1 h2 h3;exact Z6 hd (v':=.tuple #[]) (by simp[execOp,ho,resolve,invoke,builtin,h1]) h2 h3 (by simp only[aI];exact⟨#[],rfl,by simp[bT]⟩) hK
    unfold Kl at hr;split at hr
    .rename_i e' nl fT
     simp only[gw]at hr;subst hr;rw[fT]at rx;simp only[aI,bR]at rx;obtain⟨ad,cap,he,_⟩:=rx;refine fin (w':=w) ?_ hs (Frame.refl _ _ _ _);cases ad<;>simp[Builtin.clear_,run_underlying hu,he]
    .rename_i n off len fT
     rw[fT]at rx;simp only[aI]at rx;have dD:=hs.heap.obj n;split at hr
     .rename_i e' ex rows hn
      rw[hn]at rx dD;split at hr
      .rename_i dV
       obtain⟨rfl,_,hin⟩:=dV;obtain⟨cap,he,hlc,_⟩:=rx.2.2 _ rfl;split at hr
       .rename_i h0
        simp only[gw]at hr;subst hr;subst h0;refine fin (w':=w) ?_ hs (Frame.refl _ _ _ _);simp[Builtin.clear_,run_underlying hu,he]
       .rename_i h0
        split at hr
        .rename_i hex
         subst hex;simp only[gw]at hr;subst hr;obtain⟨⟨CS,T,hb,hfit⟩,dS,hI⟩:=dD;simp only[dF]at hI;obtain⟨z1,z2,z3⟩:=NJ rL n9 hpos len;obtain⟨k1,k2,k3⟩:=Z5 (P:=P) hs (ok:=s.ok) (p:=off) (ys:=List.replicate len z) hn hb hfit dS hI z1 z2 (λr hr=>by rw[GD]at hr;rw[hr.2]) (by simpa using z3) (by simpa using hin)
         refine fin ?_ k2 k3;obtain⟨len,rfl⟩:∃k,len=k+1:=⟨len - 1,by omega⟩
         simp[Builtin.clear_,run_underlying hu,he,zeroValue,typeInfo,hi,T7,k1]
        .simp at hr
      .simp at hr
     .simp at hr
    .simp at hr
   .simp at h
  .simp at h
 .simp at h
theorem aiU(hs:cm φ nt m dB s g a w){rec:Rec}{d:Option Nat}{es:Nat}{x y:A}(hc:cL P φ nt o (.copy d x y es)=true)(hok:(aU rec (.copy d x y es) s).ok=true)
  (hK:eu φ nt m dB s g w (aU rec (.copy d x y es) s) o a K):o.wp P a w K Q:=by
 simp only[cL,bJ]at hc;obtain⟨hd,h⟩:=hc;split at h
 .rename_i c ho
  split at h
  .rename_i x' y' t t' iu hargs p6
   simp only[bJ,fZ]at h;obtain⟨⟨⟨hx,hy⟩,hpos⟩,h⟩:=h;split at h
   .rename_i e e' hu n8
    obtain⟨Fi,args,tys⟩:=c;simp only at iu hargs p6;have rJ:args=#[x',y']:=by rw[<-Array.toList_inj];exact hargs
    have wK:tys=#[t,t']:=by rw[<-Array.toList_inj];exact p6
    subst iu;subst rJ;subst wK;have rx:=Ik (eE hs hx);have ry:=eE hs hy;have hsz:=wI (P:=P) (w:=w) h;simp only[aU]at hok hK;obtain⟨r,hr⟩:=xC hok;rw[hr]at hK;have fin:∀{k:Nat}{w':World}{hh:List O},r=(.d (.i .i64 (k:Int)),hh)->(Builtin.copy_ #[t,t'] o.type #[a.eval x',a.eval y']).run P w = .ok (goInt k) w'->cm φ nt m dB ⟨s.env,hh,s.ok⟩ g a w'->Frame m s.heap g w hh g w'->o.wp P a w K Q:=by
     intro k w' hh dS h1 h2 h3;subst dS;exact Z6 hd (v':=goInt k) (by simp[execOp,ho,resolve,invoke,builtin,h1]) h2 h3 (by simp[aI,bR,goInt]) hK
    unfold copyV at hr;cases rM:At s.heap es (s.get y)with
    |none=>simp[rM]at hr
    |some ys =>
     simp only[rM]at hr;obtain⟨xa,xc,news,rO,hrl,hrd,hone,gi,hbase⟩:=Zx hs.heap ry rM;have nH:news.length=ys.length*es:=by rw[gi,jg]
     split at hr
     .rename_i n off len fT
      rw[fT]at rx;simp only[aI]at rx;have dD:=hs.heap.obj n;split at hr
      .rename_i e2 rows hn
       rw[hn]at rx dD;split at hr
       .rename_i dV
        obtain⟨rfl,hin⟩:=dV;simp only[gw]at hr;obtain⟨cap,he,hlc,_⟩:=rx.2.2 _ rfl;obtain⟨⟨CS,T,hb,hfit⟩,dS,hI⟩:=dD;simp only[dF]at hI;have hk:(ys.take len).length=min ys.length len:=by simp[Nat.min_comm]
        have hmul:min ys.length len*e2<=ys.length*e2:=lU _ (Nat.min_le_left _ _);have hfl:(ys.take len).flatten=ys.flatten.take (min ys.length len*e2):=by
         rw[Z9 hrl];rcases Nat.le_total len ys.length with hle |hle
         .rw[Nat.min_eq_right hle]
         .rw[JX hle,gC (by rw[x9 hrl,jg e2];exact lU _ hle),gC (by rw[x9 hrl,jg e2];exact gf _)]
        have hnt:(news.take (min ys.length len*e2)).length=min ys.length len*e2:=by simp;omega
        obtain⟨k1,k2,k3⟩:=Z5 (P:=P) hs (ok:=s.ok) (p:=off) (ys:=ys.take len) (news:=news.take (min ys.length len*e2)) hn hb hfit dS hI
         (by rw[hfl];exact Tt hrd _) (λu hu=>hone u (nN hu)) (λr hr=>hrl r (nN hr)) (by rw[hnt,hk]) (by rw[hk];omega)
        refine fin hr.symm ?_ k2 k3;have T8:=Z8 (P:=P) (es:=e2) (k:=min ys.length len) (n:=ys.length) (xc:=xc) nH (Nat.min_le_left _ _) (λhne=>hbase λh0=>hne (by subst h0;simpa using nH))
        simp[Builtin.copy_,run_underlying hu,he,rO,Builtin.lenOf,hsz,T8,k1]
       .simp at hr
      .simp at hr
     .rename_i e2 nl fT
      rw[fT]at rx;simp only[aI,bR]at rx;obtain⟨ad,cap,he,_⟩:=rx;simp only[gw]at hr;refine fin (k:=0) (w':=w) hr.symm ?_ hs (Frame.refl _ _ _ _);have T8:=Z8 (P:=P) (es:=es) (k:=0) (n:=ys.length) (xc:=xc) nH (BX _) (λhne=>hbase λh0=>hne (by subst h0;simpa using nH))
      cases ad<;>simp[Builtin.copy_,run_underlying hu,he,rO,Builtin.lenOf,hsz,T8,storeCells]
     .simp at hr
   .simp at h
  .simp at h
 .simp at h
end
end Go.VS
namespace Go.VS
section
variable {P:Program}{φ:fj}
variable {nt m dB:Nat}{s:St}{g:Gh}{a:Act}{w:World}{K:Act->World->Prop}{Q:Exit->Act->World->Prop}{o:Oper}
theorem aiV(hs:cm φ nt m dB s g a w){rec:Rec}{d:Nat}{x y:A}(hc:cL P φ nt o (.mx d x y)=true)(hok:(aU rec (.mx d x y) s).ok=true)
  (hK:eu φ nt m dB s g w (aU rec (.mx d x y) s) o a K):o.wp P a w K Q:=by
 simp only[cL,bJ]at hc;obtain⟨hd,h⟩:=hc;split at h
 .rename_i c ho
  split at h
  .rename_i x' y' iu hargs
   simp only[bJ]at h;obtain⟨hx,hy⟩:=h;obtain⟨Fi,args,tys⟩:=c;simp only at iu hargs;have rJ:args=#[x',y']:=by rw[<-Array.toList_inj];exact hargs
   subst iu;subst rJ;have rx:=eE hs hx;have ry:=eE hs hy;simp only[aU]at hok hK;refine mI hs hd hok (λv hv=>?_) hK
   unfold Kk at hv;split at hv
   .rename_i k p k' q h1 h2
    rw[h1]at rx;rw[h2]at ry;split at hv
    .rename_i hk
     subst hk;simp only[gw]at hv;subst hv;have e1:=nE (by simpa only[aI]using rx)
     have e2:=nE (by simpa only[aI]using ry)
     exact⟨_,by simp[execOp,ho,resolve,invoke,builtin,Builtin.max_,Builtin.max2,e1,e2];rfl,by simp[aI,bR]⟩
    .simp at hv
   .simp at hv
  .simp at h
 .simp at h
theorem aiW(hs:cm φ nt m dB s g a w){rec:Rec}{d t:Nat}{x:A}(hc:cL P φ nt o (.nr d t x)=true)(hok:(aU rec (.nr d t x) s).ok=true)
  (hK:eu φ nt m dB s g w (aU rec (.nr d t x) s) o a K):o.wp P a w K Q:=by
 simp only[cL,bJ]at hc;obtain⟨hd,h⟩:=hc;split at h
 .rename_i t' y ho
  simp only[bJ,dN]at h;obtain⟨⟨rfl,hx⟩,hu⟩:=h;have rx:=eE hs hx;simp only[aU]at hok hK;refine mI hs hd hok (λv hv=>?_) hK
  unfold ux at hv;split at hv
  .rename_i u fT
   rw[fT]at rx;simp only[gw]at hv;subst hv;refine⟨.iface t' (a.eval y),?_,by simp only[aI,bR];exact⟨_,rfl,by simpa only[aI]using rx⟩⟩
   split at hu
   .simp at hu
   .rename_i td hne l8
    simp only[execOp,ho,Instr.makeInterface,Sem.run_bind,run_underlying l8,Result.andThen_ok];rfl
   .simp at hu
  .simp at hv
 .simp at h
theorem aiX{n:Nat}{A:Array Value}(hA:A.size=n):∀{l:List FieldStep}{t:TypeId},Ip P n l t=true ->
  ∃xt td,(follow l t (.val (.agg A))).run P w = .ok (xt,.val (.agg A)) w/\P.underlying xt=some td/\∀e,td≠.pointer e
 | [],t,h=>by
  simp only[Ip]at h;split at h
  .simp at h
  .rename_i td hne l8
   exact⟨t,td,by simp[follow],l8,hne⟩
  .simp at h
 |s::r,t,h=>by
  simp only[Ip]at h;split at h
  .rename_i fs hfs
   split at h
   .rename_i f hf
    simp only[bJ,kX,dN]at h;obtain⟨⟨⟨⟨h1,h2⟩,h3⟩,h4⟩,h5⟩:=h;obtain⟨xt,td,k1,k2,k3⟩:=aiX hA h5;have hp:(part f.type A f.offset).run P w = .ok (.agg A) w:=by
     refine Z4 (ag:=true) h3 h4 ?_;simp only[dF,h2,List.drop_zero];refine⟨by simp[hA],?_⟩
     rw[gC (by simp[hA])]
    refine⟨xt,td,?_,k2,k3⟩;simp[follow,run_underlying hfs,hf,h1,hp,k1]
   .simp at h
  .simp at h
theorem aiY{nm:String}{t n f:Nat}(h:Tp P φ nm t n f=true){A:Array Value}(hA:A.size=n)(k:Nat):
  (method (k+1) t (.agg A) nm).run P w = .ok (φ f,.agg A) w:=by
 unfold Tp at h;split at h
 .rename_i i hi
  split at h
  .rename_i mm ze
   split at h
   .rename_i gg tP
    simp only[bJ,dN]at h;obtain⟨rfl,hp⟩:=h;obtain⟨xt,td,k1,k2,k3⟩:=aiX (w:=w) hA hp;have hti:(typeInfo t).run P w = .ok i w:=by simp[typeInfo,hi]
    simp only[method,Sem.run_bind,hti,Result.andThen_ok,ze,k1,tP];have hr:∀wr,(receiverAt xt (.val (.agg A)) false wr).run P w = .ok (.agg A) w:=by
     intro wr;simp only[receiverAt,Sem.run_bind,run_underlying k2,Result.andThen_ok];simp[Place.get]
    simp[hr]
   .simp at h
  .simp at h
 .simp at h
theorem aiZ{rec:Rec}(hq:l7 P φ rec)(hs:cm φ nt m dB s g a w){d:Option Nat}{nm:String}{j4:List (Nat×Nat×Nat)}{x:A}{xs:List A}(hc:cL P φ nt o (.inv d nm j4 x xs)=true)(hok:(aU rec (.inv d nm j4 x xs) s).ok=true)
  (hK:eu φ nt m dB s g w (aU rec (.inv d nm j4 x xs) s) o a K):o.wp P a w K Q:=by
 simp only[cL,bJ]at hc;obtain⟨hd,h⟩:=hc;split at h
 .rename_i c ho
  split at h
  .rename_i y nm' iu
   simp only[bJ,dN,yM]at h;obtain⟨⟨⟨rfl,hx⟩,hxs⟩,ai0⟩:=h;simp only[aU]at hok hK;have rx:=eE hs hx;have yc:=wE hs hxs;obtain⟨v,hv⟩:=Cc hok;have jx:=hv;unfold cV at jx;split at jx
   .rename_i t ds fT
    split at jx
    .rename_i e he
     split at jx
     .rename_i hlen
      have hmem:=Pu he;have het:e.1=t:=by have:=GF he;simpa using this
      have hm:=ai0 e hmem;rw[fT]at rx;simp only[aI,bR]at rx;obtain⟨yv,NM,A,rfl,hA,h1⟩:=rx;have hsz:A.size=e.2.1:=by rw[<-hlen];have:=sH hA;simpa using this.symm
      have hmr:=aiY (P:=P) (w:=w) (φ:=φ) hm hsz (P.types.size+99);refine TG hq hs hd (f:=e.2.2) (xs:=.d (.ag ds)::xs.map s.get) (args:=#[.agg A]++c.args.map a.eval) (ov:=cV (kC rec) j4 (s.get x) (xs.map s.get)) (by rw[hv,jx]) hok ?_ ?_ hK
      .simp only[Array.toList_append,D1,sW,mu,bT]
       exact⟨by simp only[aI,bR];exact⟨A,rfl,hA,h1⟩,yc⟩
      .simp only[execOp,ho,resolve,iu,Sem.run_bind,Sem.run_pure,Result.andThen_ok,invoke,NM]
       rw[het]at hmr;have h0:(#[Value.iface t (.agg A)]++Array.map a.eval c.args)[0]?=some (.iface t (.agg A)):=by simp[Array.getElem?_append]
       have h1:(Array.map a.eval c.args).extract 0 c.args.size=Array.map a.eval c.args:=by simp
       simp only[callMethod,Made.depth,h0]at *;simp[hmr,h1]
     .simp at jx
    .simp at jx
   .simp at jx
  .simp at h
 .simp at h
end
end Go.VS
namespace Go.VS
section
variable {P:Program}{φ:fj}
variable {nt m dB:Nat}{s:St}{g:Gh}{a:Act}{w:World}{K:Act->World->Prop}{Q:Exit->Act->World->Prop}{o:Oper}
theorem ai1(hs:cm φ nt m dB s g a w){rec:Rec}{d:Nat}{x:A}(hc:cL P φ nt o (.cap d x)=true)(hok:(aU rec (.cap d x) s).ok=true)
  (hK:eu φ nt m dB s g w (aU rec (.cap d x) s) o a K):o.wp P a w K Q:=by
 simp only[cL,bJ]at hc;obtain⟨hd,h⟩:=hc;split at h
 .rename_i c ho
  split at h
  .rename_i y t iu hargs p6
   simp only[bJ]at h;obtain⟨hx,ht⟩:=h;split at ht
   .rename_i e hu
    obtain⟨Fi,args,tys⟩:=c;simp only at iu hargs p6;have rJ:args=#[y]:=by rw[<-Array.toList_inj];exact hargs
    have wK:tys=#[t]:=by rw[<-Array.toList_inj];exact p6
    subst iu;subst rJ;subst wK;have rx:=eE hs hx;simp only[aU]at hok hK;refine mI hs hd hok (λv hv=>?_) hK
    have fin:∀{ad:Option Addr}{n cap:Nat},a.eval y = .slice ad n cap->v = .d (.i .i64 cap)->∃v',(execOp a.eval o).run P w = .ok (.value v') w/\aI φ s.heap g w v v':=by
     intro ad n cap he hv;subst hv;exact⟨.int .i64 cap,by simp[execOp,ho,resolve,invoke,builtin,he,Builtin.cap_,run_underlying hu,goInt],by simp[aI,bR]⟩
    unfold Ke at hv;split at hv
    .rename_i e' xs hp
     rw[hp]at rx;simp only[aI,bR]at rx;obtain⟨ad,cap,he,_,h1,_⟩:=rx;obtain⟨_,rfl⟩:=h1 trivial;simp at hv;exact fin he (by rw[<-hv];rfl)
    .rename_i e' hp
     rw[hp]at rx;simp only[aI]at rx;obtain⟨ad,he⟩:=rx;simp at hv;exact fin he (by rw[<-hv];rfl)
    .rename_i n off len hp
     rw[hp]at rx;simp only[aI]at rx;split at hv
     .rename_i e' ex rows hn
      split at hv
      .rename_i hle
       obtain⟨cap,he,hlc,hm,_⟩:=rx.2.2 e' (by rw[hn];rfl)
       rw[hn]at hm;simp only[O.len]at hm;simp at hv
       have:rows.length - off=cap:=by omega
       exact fin he (by rw[<-hv,this])
      .simp at hv
     .simp at hv
    .simp at hv
   .simp at ht
  .simp at h
 .simp at h
theorem ai2{t t' ty e:TypeId}{k':IntKind}{i:TypeInfo}{z:Value}(ht:P.underlying t=some (.slice e))(ht':P.underlying t'=some (.int k'))(hi:P.info? e=some i)(hz:i.zero=some z){sLen sCap n:Nat}{base:Option Addr}{olds:List Value}{q:IntKind}
  (hlo:olds.length=sLen*i.size)(TK:olds≠[]->∃b off,base=some ⟨b,off,none⟩/\∀(j:Nat)(u:Value),olds[j]?=some u->w.cell? ⟨b,off+j,none⟩=some u)
  (mJ:sCap<sLen+n)(hroom:sLen+n<=room)(hby:i.bytes<=16384)(hpos:0<i.size)(hn0:0<n):
  (Builtin.append_ #[t,t'] ty #[.slice base sLen sCap,.int q n]).run P w =
   .ok (.slice (some ⟨w.heap.size,0,none⟩) (sLen+n) (grownCap w (sLen+n) sCap e)) (w.drew.alloc (.cells (olds++(Builtin.zeroCells z.cells n).toList++(Builtin.zeroCells z.cells (grownCap w (sLen+n) sCap e - (sLen+n))).toList).toArray e)):=by
 have hn:¬(sLen+n<=sCap):=by omega
 have TL:sLen+n<=4294967296:=hroom;have h63':¬(9223372036854775807<((sLen:Int)+(n:Int))):=by omega
 have hmul:(sLen+n)*i.bytes<=4294967296*16384:=JV TL hby;have TM:¬(281474976710656<Builtin.nextslicecap (sLen+n) sCap*i.bytes):=by
  have:=growslice_fits (bytes:=i.bytes) mJ (by omega)
  omega
 have hfo:=Iy (P:=P) (w:=w.drew) (xa:=base) (xc:=sCap) hlo (λh=>by obtain⟨b,off,h1,h2⟩:=TK h;exact⟨b,off,h1,by simpa using h2⟩)
 have hwrap:IntKind.i64.wrap (n:Int)=n:=by
  have h1:(n:Int)<=4294967296:=by omega
  have e1:(n:Int) % (2 ^ (IntKind.i64.bits):Int)=n:=Int.emod_eq_of_lt (by omega) (Int.lt_of_le_of_lt h1 (by decide))
  have e2:¬((n:Int) ≥ (2 ^ (IntKind.i64.bits - 1):Int)):=by
   have:((2:Int) ^ (IntKind.i64.bits - 1))=9223372036854775808:=by decide
   rw[this];omega
  simp only[IntKind.wrap,e1,e2,decide_false,Bool.and_false,eI,dI]
 have hneg:¬((n:Int)<0):=by omega
 have ZE:n*i.bytes<=4294967296*16384:=JV (by omega) hby
 have ai3:¬((281474976710656:Int)<(n:Int)*(i.bytes:Int)):=by
  rw[<-Int.natCast_mul];omega
 have hns:¬(n*i.size=0):=Nat.ne_of_gt (Nat.mul_pos hn0 hpos);simp[Builtin.append_,run_underlying ht,run_underlying ht',sizeOf,typeInfo,zeroValue,hi,hz,Go.asInt,asIntOf,hwrap,hneg,ai3,hn,h63',TM,hns,Question.forced,hfo,newRow,grownCap];congr 2;apply Pq;simp[sU]
theorem ai4(hs:cm φ nt m dB s g a w){rec:Rec}{d es:Nat}{x k:A}{z:List D}(hc:cL P φ nt o (.qX d x k es z)=true)(hok:(aU rec (.qX d x k es z) s).ok=true)
  (hK:eu φ nt m dB s g w (aU rec (.qX d x k es z) s) o a K):o.wp P a w K Q:=by
 simp only[cL,bJ]at hc;obtain⟨hd,h⟩:=hc;split at h
 .rename_i c ho
  split at h
  .rename_i x' k' t t' iu hargs p6
   simp only[bJ,fZ]at h;obtain⟨⟨⟨hx,hk⟩,hpos⟩,ht⟩:=h;obtain⟨Fi,args,tys⟩:=c;simp only at iu hargs p6;have rJ:args=#[x',k']:=by rw[<-Array.toList_inj];exact hargs
   have wK:tys=#[t,t']:=by rw[<-Array.toList_inj];exact p6
   subst iu;subst rJ;subst wK;split at ht
   .rename_i e q hu n8
    simp only[bJ]at ht;obtain⟨T9,ht⟩:=ht;obtain⟨i,zv,hi,hz,rL,n9,hzs⟩:=Db (g:=g) (w:=w) T9;rw[hi]at ht;simp only[bJ,dN,fZ]at ht;obtain⟨hsz,hby⟩:=ht;subst hsz;have rx:=eE hs hx;have rk:=eE hs hk;simp only[aU]at hok hK;obtain⟨v,hh,hv⟩:=Bg hok;rw[hv]at hK;simp only[St.gh]at hK;unfold Kc at hv;cases hkv:asInt (s.get k)with
    |none=>simp[hkv]at hv
    |some kn =>
     simp only[hkv]at hv;have ia:∃q2,a.eval k' = .int q2 kn:=by
      cases hg:s.get k with
      |d z =>
       rw[hg]at hkv rk;cases z with
       |i q2 n=>simp[asInt]at hkv;subst hkv;exact⟨q2,nE (by simpa only[aI]using rk)⟩
       |_=>simp[asInt]at hkv
      |_=>rw[hg]at hkv;simp[asInt]at hkv
     obtain⟨q2,hke⟩:=ia;split at hv
     .rename_i dV
      obtain⟨p7,hzl⟩:=dV;have hkn:(kn.toNat:Int)=kn:=by omega
      have II:zv.cells.size=i.size:=by
       have:=sH rL;rw[hzl]at this;simpa using this.symm
      obtain⟨z1,z2,z3⟩:=NJ rL n9 (by rw[hzl];exact hpos) kn.toNat
      have fresh:∀{base:Option Addr}{sLen sCap:Nat}{olds:List Value}{ys:List (List D)},a.eval x' = .slice base sLen sCap->olds.length=sLen*i.size ->
        (olds≠[]->∃b off,base=some ⟨b,off,none⟩/\∀(j:Nat)(u:Value),olds[j]?=some u->w.cell? ⟨b,off+j,none⟩=some u)->sCap<sLen+kn.toNat->sLen+kn.toNat<=room ->
        (∀r∈ys,r.length=i.size)->ys.length=sLen->cy φ g.I w ys.flatten olds->(∀u∈olds,u.oneCell'=true)->v = .aR s.heap.length 0 (sLen+kn.toNat)->hh=s.heap++[.aG i.size true (ys++List.replicate kn.toNat z)]->o.wp P a w K Q:=by
       intro base sLen sCap olds ys he h1 h2 h3 h4 h5 h6 h7 h8 h9 iK;subst h9;subst iK;have hrun:=ai2 (P:=P) (w:=w) (ty:=o.type) (q:=q2) hu n8 hi hz h1 h2 h3 h4 hby hpos (by omega)
       rw[hkn]at hrun;have Di:=grownCap_ge w (sLen+kn.toNat) sCap e;have jG:(ys++List.replicate kn.toNat z).length=sLen+kn.toNat:=by simp[h6]
       have tE:(Builtin.zeroCells zv.cells (grownCap w (sLen+kn.toNat) sCap e - (sLen+kn.toNat))).toList.length=(grownCap w (sLen+kn.toNat) sCap e - (sLen+kn.toNat))*i.size:=by simp[size_zeroCells,II]
       have:=NB (P:=P) (K:=K) (Q:=Q) (o:=o) (a:=a) hs hd (es:=i.size) (ex:=true) (ys:=ys++List.replicate kn.toNat z) (C:=olds++(Builtin.zeroCells zv.cells kn.toNat).toList) (ok:=s.ok)
        (rest:=(Builtin.zeroCells zv.cells (grownCap w (sLen+kn.toNat) sCap e - (sLen+kn.toNat))).toList) (T:=e) (cap:=grownCap w (sLen+kn.toNat) sCap e)
        (by rw[jG];simp[execOp,ho,resolve,invoke,builtin,he,hke,hrun])
        (λr hr=>(dj.1 hr).elim (h5 r) (λh=>by rw[GD]at h;rw[h.2,hzl]))
        (by rw[D2];exact zw h7 z1) (λu hu=>(dj.1 hu).elim (h8 u) (z2 u)) (by rw[jG];exact Di) ?_ (NA n9 _)
       .refine this λg' v' w' k1 k2=>?_
        rw[jG]at k1;exact hK g' v' w' k1 k2
       .rw[lT,h1,tE,z3,hzl,<-Nat.add_mul,<-Nat.add_mul]
        exact lU _ (by omega)
      split at hv
      .rename_i e1 nl xs fT
       rw[fT]at rx;simp only[aI,bR]at rx;obtain⟨ad,cap,he,hlc,oS,_⟩:=rx;split at hv
       .rename_i gK
        obtain⟨rfl,rfl,hroom⟩:=gK;obtain⟨rfl,rfl⟩:=oS rfl;have hx0:xs.length=0:=by omega
        rw[hx0]at he;simp at hv;exact fresh (olds:=[]) (ys:=[]) he (by simp) (by simp) (by omega) (by omega) (by simp) rfl (by simp[cy]) (by simp) (by rw[nQ];exact hv.1.symm) (by simpa using hv.2.symm)
       .simp at hv
      .rename_i e1 fT
       rw[fT]at rx;simp only[aI]at rx;obtain⟨ad,he⟩:=rx;split at hv
       .rename_i gK
        obtain⟨rfl,hroom⟩:=gK;simp at hv;exact fresh (olds:=[]) (ys:=[]) he (by simp) (by simp) (by omega) (by omega) (by simp) rfl (by simp[cy]) (by simp) (by rw[nQ];exact hv.1.symm) (by simpa using hv.2.symm)
       .simp at hv
      .rename_i n off len fT
       rw[fT]at rx;simp only[aI]at rx;have dD:=hs.heap.obj n;split at hv
       .rename_i e1 ex rows hn
        rw[hn]at rx dD;split at hv
        .rename_i gK
         obtain⟨rfl,hle,mJ,hroom⟩:=gK;obtain⟨cap,he,hlc,hm,_⟩:=rx.2.2 _ rfl;simp only[O.len]at hm;simp at hv;have hlen:((rows.drop off).take len).length=len:=by simp;omega
         obtain⟨olds,o1,o2,o3,o4⟩:=zF (Dg dD.2.1 hle);rw[hlen]at o3;exact fresh (olds:=olds) (ys:=(rows.drop off).take len) he (by rw[o3,jg]) (λ_=>⟨_,_,rfl,o4⟩) (by omega) hroom
          (λr hr=>by
           obtain⟨j,hj,Dh⟩:=sS (mO (nN hr));exact(nY dD.2.1 (r:=j) (row:=r) (by simp[hj,Dh])).1) hlen o1 o2 hv.1.symm hv.2.symm
        .simp at hv
       .simp at hv
      .simp at hv
     .simp at hv
   .simp at ht
  .simp at h
 .simp at h
theorem ai5{fn:Func}(h:Tm fn=true):Extern.findNext fn=none/\Extern.find fn=some (Extern.SlicesOverlaps.overlaps fn.params fn.resultTypes):=by
 simp only[Tm,bJ,dN,Option.isNone_iff_eq_none]at h;obtain⟨⟨⟨⟨h0,h1⟩,h2⟩,h3⟩,h4⟩:=h;have n1 : Extern.allGenericRows.lookup "slices.overlaps" = none := by kernel_rfl
 have n2 : Extern.allTypedRows.lookup "slices.overlaps" = some Extern.SlicesOverlaps.overlaps := by kernel_rfl
 have n3 : Extern.allNextRows.lookup "slices.overlaps" = none := by kernel_rfl
 refine⟨?_,?_⟩
 .simp[Extern.findNext,h4,h0,n3]
 .simp[Extern.find,h1,h2,h3,h0,n1,n2]
theorem ai6(hP:True){tS e:TypeId}{par res:Array TypeId}(hp:par[0]?=some tS)(ht:P.underlying tS=some (.slice e)){size:Nat}(hz:(Go.sizeOf e).run P w = .ok size w)
  {a b:Addr}{la ca lb cb:Nat}{CA CB:Array Value}{TA TB:TypeId}{fa:Nat×Nat}(hA:w.heap[a.block]?=some (.cells CA TA fa))(hB:w.heap[b.block]?=some (.cells CB TB (0,0)))(hA0:CA.size≠0)
  (ai7:a.block=b.block->a.off+la*size<=b.off):
  (Extern.SlicesOverlaps.overlaps par res #[.slice (some a) la ca,.slice (some b) lb cb]).run P w = .ok (.bool false) w:=by
 rw[Extern.SlicesOverlaps.overlaps.eq_def,hp];change Sem.run P (α:=Value) (underlying tS >>= _) w=_;by_cases h0:la=0\/lb=0\/size=0
 .simp[hp,run_underlying ht,hz,h0]
 .have hsa:w.shape? a.block=some (TA,CA.size):=by simp[World.shape?,hA]
  have hsb:w.shape? b.block=some (TB,CB.size):=by simp[World.shape?,hB]
  have lK:∀k sp,w.frozen? {block:=b.block,off:=k,spot:=sp}=false:=by intro k sp;simp[World.frozen?,hB]
  have ai8:w.frozen? b=false:=by simp[World.frozen?,hB]
  obtain⟨n,hn⟩:∃n,CA.size=n+1:=⟨CA.size - 1,by omega⟩
  rw[hn]at hsa;by_cases hne:a.block=b.block
  .have h1:(a.block != b.block)=false:=by simpa using hne
   have h2:=ai7 hne;have h3:¬(b.off<a.off+la*size):=by omega
   simp[hp,run_underlying ht,hz,h0,h1,frozen,Sem.run,h3]
  .have h1:(a.block != b.block)=true:=by simpa using hne
   have h2:(a.block==b.block)=false:=by simpa using hne
   cases NN:w.frozen? a<;>cases nV:w.frozen? {block:=a.block,off:=n+1} <;>
    simp[hp,run_underlying ht,hz,h0,h1,h2,frozen,noView,viewAt,mayBeOne,stringish,shape,Sem.run,hsa,hsb,lK,ai8,NN,nV]
theorem ai9{tS e:TypeId}{par res:Array TypeId}(hp:par[0]?=some tS)(ht:P.underlying tS=some (.slice e)){size:Nat}(hz:(Go.sizeOf e).run P w = .ok size w)
  {b:Option Addr}{a:Option Addr}{la ca lb cb:Nat}(h0:a=none\/la=0):
  (Extern.SlicesOverlaps.overlaps par res #[.slice a la ca,.slice b lb cb]).run P w = .ok (.bool false) w:=by
 rw[Extern.SlicesOverlaps.overlaps.eq_def,hp];change Sem.run P (α:=Value) (underlying tS >>= _) w=_;rcases h0 with rfl |rfl
 .simp[hp,run_underlying ht,hz]
 .cases a<;>cases b<;>simp[hp,run_underlying ht,hz]
theorem aja(hs:cm φ nt m dB s g a w){rec:Rec}{d f es:Nat}{x y:A}(hc:cL P φ nt o (.qY d f x y es)=true)(hok:(aU rec (.qY d f x y es) s).ok=true)
  (hK:eu φ nt m dB s g w (aU rec (.qY d f x y es) s) o a K):o.wp P a w K Q:=by
 simp only[cL,bJ]at hc;obtain⟨hd,h⟩:=hc;split at h
 .rename_i c ho
  split at h
  .rename_i ff iu
   simp only[bJ,dN]at h;obtain⟨⟨rfl,hxy⟩,h⟩:=h;split at h
   .rename_i fn hfn
    simp only[bJ,kX]at h;obtain⟨⟨⟨hname,hbody⟩,nG⟩,h⟩:=h;split at h
    .rename_i t t2 hpar
     split at h
     .rename_i e hu
      simp only[bJ,fZ]at h;obtain⟨hpos,It⟩:=h;have hsz:=wI (P:=P) (w:=w) It;have Ua:fn.params[0]?=some t:=by
       rw[<-Array.getElem?_toList,hpar];rfl
      obtain⟨k1,k2⟩:=ai5 nG;have rr:=wE hs hxy;simp only[aU]at hok hK;refine mI hs hd hok (λv hv=>?_) hK
      obtain⟨x',y',hargs⟩:∃x' y',c.args.toList=[x',y']:=by
       match hq:c.args.toList,hxy with
       | [x',y'],_=>exact⟨x',y',rfl⟩
       | [],h=>simp[nZ]at h
       | [_],h=>simp[nZ]at h
       |_::_::_::_,h=>simp[nZ]at h
      rw[hargs]at rr;simp only[gk,gn,bT]at rr;obtain⟨rx,ry,_⟩:=rr;have rJ:c.args.map a.eval=#[a.eval x',a.eval y']:=by rw[<-Array.toList_inj];simp[hargs]
      have ajb:(execOp a.eval o).run P w=(callFunc (φ f) (c.args.map a.eval)).run P w:=by simp[execOp,ho,resolve,iu,Act.eval,Deferred.ofValue,invoke]
      have hrun:∀{u u':Value},a.eval x'=u->a.eval y'=u'->v = .d (.b false)->(Extern.SlicesOverlaps.overlaps fn.params fn.resultTypes #[u,u']).run P w = .ok (.bool false) w->∃v',(execOp a.eval o).run P w = .ok (.value v') w/\aI φ s.heap g w v v':=by
       intro u u' h1 h2 h3 h4;subst h3;refine⟨.bool false,?_,by simp[aI,bR]⟩
       rw[ajb,rJ,h1,h2,run_callFunc_extern hfn hname hbody k1 k2,h4];rfl
      unfold Kf at hv;split at hv
      .rename_i e1 nl xs n off len fT hyv
       have ry:=Ik ry;rw[fT]at rx;rw[hyv]at ry;simp only[aI,bR]at rx ry;obtain⟨ad,cap,hex,hlc,h1,h2⟩:=rx;have dD:=hs.heap.obj n;split at hv
       .rename_i e2 rows hn
        rw[hn]at ry dD;split at hv
        .rename_i hee
         subst hee;obtain⟨ajc,rO,_,_,CS,T,hB,hfit,_⟩:=ry.2.2 e2 rfl;simp only[gw]at hv;refine hrun hex rO hv.symm ?_;cases nl with
         |true=>exact ai9 Ua hu hsz (.inl (h1 rfl).1)
         |false =>
          obtain⟨Fu,rfl,h3⟩:=h2 rfl;cases xs with
          |nil=>exact ai9 Ua hu hsz (.inr rfl)
          |cons r rs =>
           obtain⟨hsp,hI,rM⟩:=h3 (by simp)
           obtain⟨hrl,hrc⟩:=nY rM (r:=0) (row:=r) rfl;have Bp:r[0]?=some r[0]:=by simp
           obtain⟨z,hz,_⟩:=Fb hrc Bp;simp only[World.cell?]at hz;split at hz
           .rename_i CA TA fa hA
            have hA0:CA.size≠0:=by
             intro h0
             have:CA=#[]:=Array.eq_empty_of_size_eq_zero h0
             subst this;simp at hz
            refine ai6 trivial Ua hu hsz hA hB hA0 λFD=>?_
            have IG:=dD.2.2;simp only[dF]at IG;simp only at FD;rw[FD]at hI;rw[jg];show Fu.off+e1*(r::rs).length<=g.o n+off*e2
            omega
           .simp at hz
        .simp at hv
       .simp at hv
      .simp at hv
     .simp at h
    .simp at h
   .simp at h
  .simp at h
 .simp at h
end
end Go.VS
namespace Go.VS
section
variable {P:Program}{φ:fj}
variable {nt m dB:Nat}{s:St}{g:Gh}{a:Act}{w:World}{K:Act->World->Prop}{Q:Exit->Act->World->Prop}{o:Oper}
theorem FE{k:CK}{x:D}{a:List D}(h:Av [k] x=some a):a=[x]/\∀cs,x≠.ag cs:=by
 cases x<;>simp[Av]at h<;>exact⟨h.symm,λcs hh=>by cases hh⟩
theorem FF{ks:List CK}{x:D}{a:List D}(hk:∀k,ks≠[k])(h:Av ks x=some a):x = .ag a:=by
 match ks,hk,h with
 | [],_,h=>cases x<;>simp[Av]at h<;>subst h<;>rfl
 | [k],hk,_=>exact absurd rfl (hk k)
 |_::_::_,_,h=>cases x<;>simp[Av]at h<;>subst h<;>rfl
theorem ajd{I:Nat->Nat}{kt:TypeId}{ks:List CK}(hk:wD P kt ks=true){x y:D}{b:Bool}(h:nS ks x y=some b){u v:Value}(hu:bR φ I w x u)(hv:bR φ I w y v):(Op.equal kt u v).run P w = .ok b w:=by
 simp only[nS,nP]at h;obtain⟨p,hp,q,hq,hf⟩:=h;unfold wD at hk;split at hk
 .rename_i k
  obtain⟨rfl,_⟩:=FE hp;obtain⟨rfl,_⟩:=FE hq;simp only[jN,nP,gI,gw]at hf;obtain⟨b1,h1,b2,rfl,rfl⟩:=hf;rw[Pw];exact Tu hk h1 hu hv 9999
 .rename_i hne
  have iJ:=FF (λk hh=>hne k hh) hp
  have ke:=FF (λk hh=>hne k hh) hq
  subst iJ;subst ke;simp only[bR]at hu hv;obtain⟨A,rfl,ra,_⟩:=hu;obtain⟨B,rfl,rb,_⟩:=hv;unfold Da at hk;split at hk
  .rename_i fs hfs
   simp only[bJ,kX]at hk;obtain⟨⟨oS,wJ⟩,Bf⟩:=hk;have hfo:P.fieldsOf kt=fs:=by simp[Program.fieldsOf,hfs]
   have hst:P.underlying kt=some (.struct (P.fieldsOf kt)):=by rw[hfo];exact hfs
   have Ub:=Tv (P:=P) (w:=w) 9998 Bf hf (by simpa using ra) (by simpa using rb)
   have he:=run_equalIn_struct (P:=P) w 9999 kt A B hst oS;rw[hfo,Ub]at he;exact he
  .simp at hk
theorem aje{h:List O}{kt:TypeId}{ks:List CK}(hk:wD P kt ks=true){k:D}{u:Value}(hu:bR φ g.I w k u):∀{kv:List (D×V)}{es:List MapEntry}{i:Nat},uV φ h g w kv es->(kv.all λp=>(nS ks k p.1).isSome)=true ->
  ∃r,(Instr.findAsking kt u es i).run P w = .ok r w /\
   match kv.findIdx? (lY ks k)with
   |some j=>∃e,es[j]?=some e/\r=some (i+j,e.val)
   |none=>r=none
 | [],[],i,_,_=>⟨none,by simp[Instr.findAsking],by simp⟩
 |p::kv,e::es,i,hr,hall=>by
  simp only[xx,bJ]at hall;obtain⟨b,hb⟩:=Px.1 hall.1;have hp:=hr.2 0 p e rfl rfl;have heq:=ajd (P:=P) (w:=w) hk hb hu hp.1;have Uc:uV φ h g w kv es:=⟨by have:=hr.1;simpa using this,λj q e' hq he=>hr.2 (j+1) q e' (by simpa using hq) (by simpa using he)⟩
  have hki:lY ks k p=b:=by simp[lY,hb]
  cases b with
  |true =>
   refine⟨some (i,e.val),by simp[Instr.findAsking,heq],?_⟩
   rw[xw,hki];exact⟨e,rfl,rfl⟩
  |false =>
   obtain⟨r,h1,h2⟩:=aje hk hu (i:=i+1) Uc hall.2;refine⟨r,by simp[Instr.findAsking,heq,h1],?_⟩
   rw[xw,hki];simp only[eI,dI];cases hf:kv.findIdx? (lY ks k)with
   |none=>rw[hf]at h2;simpa using h2
   |some j =>
    rw[hf]at h2;obtain⟨e',he',hr'⟩:=h2;refine⟨e',by simpa using he',?_⟩
    rw[hr'];show some (i+1+j,e'.val)=some (i+(j+1),e'.val)
    have:i+1+j=i+(j+1):=by omega
    rw[this]
 | [],_::_,_,hr,_=>by have:=hr.1;simp at this
 |_::_,[],_,hr,_=>by have:=hr.1;simp at this
theorem ajf{I:Nat->Nat}{ks:List CK}{kind:TypeDesc}{x y:D}{b c:Bool}(h:nS ks x y=some b){u v:Value}(hu:bR φ I w x u)(hv:bR φ I w y v)(hs:Instr.sameNow kind u v=some c):c=b:=by
 simp only[nS,nP]at h;obtain⟨p,hp,q,hq,hf⟩:=h;by_cases hone:∃k,ks=[k]
 .obtain⟨k,rfl⟩:=hone
  obtain⟨rfl,_⟩:=FE hp;obtain⟨rfl,_⟩:=FE hq;simp only[jN,nP,gI,gw]at hf;obtain⟨b1,h1,b2,rfl,rfl⟩:=hf;rw[Pw];unfold B7 at h1;split at h1<;>simp only[gw,reduceCtorEq,Pj]at h1
  .obtain⟨rfl,rfl⟩:=h1
   have hu:=nE hu;have hv:=nE hv;subst hu;subst hv;cases kind<;>simp[Instr.sameNow]at hs;exact hs.symm
  .subst h1
   have hu:=tM hu;have hv:=tM hv;subst hu;subst hv;cases kind<;>simp[Instr.sameNow]at hs;exact hs.symm
  .subst h1
   simp only[bR]at hu hv;obtain⟨bs,rfl,hb⟩:=hu;obtain⟨cs,rfl,hc⟩:=hv;cases kind<;>simp[Instr.sameNow]at hs;subst hs;subst hb;subst hc;exact beq_toListBytes _ _
 .have iJ:=FF (λk hh=>hone ⟨k,hh⟩) hp
  subst iJ;simp only[bR]at hu;obtain⟨A,rfl,_⟩:=hu;cases kind<;>simp[Instr.sameNow]at hs
theorem ajg{h:List O}{kind:TypeDesc}{ks:List CK}{k:D}{u:Value}(hu:bR φ g.I w k u):∀{kv:List (D×V)}{es:List MapEntry}{i:Nat}{r:Option (Nat×Value)},uV φ h g w kv es->(kv.all λp=>(nS ks k p.1).isSome)=true ->
  Instr.findNow kind u es i=some r ->
   match kv.findIdx? (lY ks k)with
   |some j=>∃e,es[j]?=some e/\r=some (i+j,e.val)
   |none=>r=none
 | [],[],i,r,_,_,hf=>by simp[Instr.findNow]at hf;simp[hf]
 |p::kv,e::es,i,r,hr,hall,hf=>by
  simp only[xx,bJ]at hall;obtain⟨b,hb⟩:=Px.1 hall.1;have hp:=hr.2 0 p e rfl rfl;have Uc:uV φ h g w kv es:=⟨by have:=hr.1;simpa using this,λj q e' hq he=>hr.2 (j+1) q e' (by simpa using hq) (by simpa using he)⟩
  have hki:lY ks k p=b:=by simp[lY,hb]
  simp only[Instr.findNow]at hf;split at hf
  .rename_i hs
   have:=ajf hb hu hp.1 hs;subst this;rw[xw,hki];simp at hf;exact⟨e,rfl,hf.symm⟩
  .rename_i hs
   have:=ajf hb hu hp.1 hs;subst this;have h2:=ajg hu Uc hall.2 hf;rw[xw,hki];simp only[eI,dI];cases hf:kv.findIdx? (lY ks k)with
   |none=>rw[hf]at h2;simpa using h2
   |some j =>
    rw[hf]at h2;obtain⟨e',he',hr'⟩:=h2;refine⟨e',by simpa using he',?_⟩
    rw[hr'];show some (i+1+j,e'.val)=some (i+(j+1),e'.val)
    have:i+1+j=i+(j+1):=by omega
    rw[this]
  .simp at hf
 | [],_::_,_,_,hr,_,_=>by have:=hr.1;simp at this
 |_::_,[],_,_,hr,_,_=>by have:=hr.1;simp at this
theorem ajh{kt:TypeId}{ks:List CK}(hk:wD P kt ks=true):∃d,P.underlying kt=some d:=by
 unfold wD wC Da at hk;cases h:P.underlying kt with
 |some d=>exact⟨d,rfl⟩
 |none=>split at hk<;>simp[h]at hk
theorem aji{h:List O}{kt:TypeId}{ks:List CK}(hk:wD P kt ks=true){k:D}{u:Value}(hu:bR φ g.I w k u){kv:List (D×V)}{es:List MapEntry}(hr:uV φ h g w kv es)(hall:(kv.all λp=>(nS ks k p.1).isSome)=true):
  ∃r,(Instr.findKey kt u es).run P w = .ok r w /\
   match kv.findIdx? (lY ks k)with
   |some j=>∃e,es[j]?=some e/\r=some (j,e.val)
   |none=>r=none:=by
 obtain⟨d,hd⟩:=ajh hk;cases hf:Instr.findNow d u es 0 with
 |some r =>
  refine⟨r,by simp[Instr.findKey,run_underlying hd,hf],?_⟩
  simpa only[nQ]using ajg hu hr hall hf
 |none =>
  obtain⟨r,h1,h2⟩:=aje hk hu (i:=0) hr hall;refine⟨r,by simp[Instr.findKey,run_underlying hd,hf,h1],?_⟩
  simpa only[nQ]using h2
end
end Go.VS
namespace Go.VS
section
variable {P:Program}{φ:fj}
variable {nt m dB:Nat}{s:St}{g:Gh}{a:Act}{w:World}{K:Act->World->Prop}{Q:Exit->Act->World->Prop}{o:Oper}
theorem ajj{kt:TypeId}{k:CK}(hk:wC P kt k=true)(e:Bool)(n:Nat)(u:Value):(Instr.checkKey e (n+1) kt u).run P w = .ok () w:=by
 unfold wC at hk;split at hk<;>simp at hk<;>rename_i hu<;>simp[Instr.checkKey,run_underlying hu]
theorem ajk{I:Nat->Nat}(e:Bool)(n:Nat){A:Array Value}:∀{fs:List Field}{ks:List CK}{off:Nat}{p q:List D}{b:Bool},x7 P off fs ks=true->jN ks p q=some b->cy φ I w p (A.toList.drop off) ->
  (forIn fs PUnit.unit (fun(f:Field)(_:PUnit)=>(do
   if f.name ≠ "_" then Instr.checkKey e (n + 1) f.type (← part f.type A f.offset)
   pure (ForInStep.yield PUnit.unit):Sem (ForInStep PUnit)))).run P w = .ok PUnit.unit w
 | [],[],_,_,_,_,_,_,_=>by simp
 |f::fs,k::ks,off,p,q,b,hc,hf,hp=>by
  simp only[x7,bJ,dN,JT]at hc;obtain⟨⟨⟨hn,rfl⟩,hk⟩,hr⟩:=hc;cases p with
  |nil=>simp[jN]at hf
  |cons x p =>
   cases q with
   |nil=>simp[jN]at hf
   |cons y q =>
    simp only[jN,nP,gI]at hf;obtain⟨b1,h1,b2,h2,rfl⟩:=hf;obtain⟨u,hu,ru⟩:=A8 hp (j:=0) rfl;have n8:A[f.offset]?=some u:=by simpa[pF]using hu
    have iJ:cy φ I w p (A.toList.drop (f.offset+1)):=by
     have:=Be hp 1;simpa[D0,qT]using this
    have ih:=ajk e n hr h2 iJ;have e1:=Ir (P:=P) (w:=w) hk n8;have e2:=ajj (P:=P) (w:=w) hk e n u;simp only[List.forIn_cons,ne_eq,hn,not_false_eq_true,dF,Sem.run_bind,e1,Result.andThen_ok,e2,Sem.run_pure];exact ih
 | [],_::_,_,_,_,_,hc,_,_=>by simp[x7]at hc
 |_::_,[],_,_,_,_,hc,_,_=>by simp[x7]at hc
theorem ajl{I:Nat->Nat}{kt:TypeId}{ks:List CK}(hk:wD P kt ks=true){k:D}(IJ:(nS ks k k).isSome=true){u:Value}(hu:bR φ I w k u)(e:Bool):(Instr.checkKey e 10000 kt u).run P w = .ok () w:=by
 obtain⟨b,hb⟩:=Px.1 IJ;unfold wD at hk;split at hk
 .exact ajj hk e 9999 u
 .rename_i hne
  simp only[nS,nP]at hb;obtain⟨p,hp,q,hq,hf⟩:=hb;have iJ:=FF (λk hh=>hne k hh) hp
  subst iJ;simp only[bR]at hu;obtain⟨A,rfl,ra,_⟩:=hu;unfold Da at hk;split at hk
  .rename_i fs hfs
   simp only[bJ,kX]at hk;have:=ajk (P:=P) (w:=w) e 9998 (A:=A) hk.2 hf (by simpa using ra)
   rw[Instr.checkKey];simp only[Sem.run_bind,run_underlying hfs,Result.andThen_ok,<-Array.forIn_toList];have e2 : ∀ (x : PUnit), (forIn fs.toList x fun f _ => if f.name ≠ "_" then(do
       let __do_lift <-part f.type A f.offset
       Instr.checkKey e 9999 f.type __do_lift
       pure (ForInStep.yield PUnit.unit))else(pure (ForInStep.yield PUnit.unit):Sem (ForInStep PUnit))).run P w = .ok PUnit.unit w:=λ_=>this
   rw[e2 PUnit.unit];rfl
  .simp at hk
theorem ajm(hs:cm φ nt m dB s g a w){rec:Rec}{d:Nat}(hc:cL P φ nt o (.mw d)=true)
  (hK:eu φ nt m dB s g w (aU rec (.mw d) s) o a K):o.wp P a w K Q:=by
 simp only[cL,bJ]at hc;obtain⟨hd,h⟩:=hc;split at h
 .rename_i t ho
  have hrun:(execOp a.eval o).run P w = .ok (.value (.map (some w.heap.size))) (w.alloc (.map #[] 0)):=by
   simp[execOp,ho,Instr.makeMap,newObj];rfl
  simp only[aU,St.gh]at hK;have hg:=gN.alloc w (.map #[] 0);have hb:=zD w (.map #[] 0);refine Is hs hd (b:=w.heap.size) (off:=0) (I':=g.I) hrun hg (λ_ _=>rfl) (λb hb=>hs.heap.new b (by simp at hb;omega)) (gf _) ?_ ?_ hK
  .exact⟨#[],0,hb,⟨by simp,λi p e hp=>by simp at hp⟩,hs.heap.new _ (gf _)⟩
  .simp only[aI]
   exact⟨by simp,rfl,λkv _=>by simp[Gh.add]⟩
 .simp at h
theorem ajn{I:Nat->Nat}{ks:List CK}{x y:D}(h:nS ks x y=some true){u v:Value}(hu:bR φ I w x u)(hv:bR φ I w y v):Instr.sameBits 10000 v u=true:=by
 simp only[nS,nP]at h;obtain⟨p,hp,q,hq,hf⟩:=h;have cell:∀{k:CK}{x y:D}{u v:Value}(n:Nat),B7 k x y=some true->bR φ I w x u->bR φ I w y v->Instr.sameBits n v u=true:=by
  intro k x y u v n h1 hu hv;unfold B7 at h1;split at h1<;>simp only[gw,reduceCtorEq,Pj]at h1
  .obtain⟨rfl,h1⟩:=h1
   have hu:=nE hu;have hv:=nE hv;subst hu;subst hv;have h1:=dN.1 h1;subst h1;cases n<;>simp[Instr.sameBits]
  .have hu:=tM hu;have hv:=tM hv;subst hu;subst hv
   have h1:=dN.1 h1;subst h1;cases n<;>simp[Instr.sameBits]
  .simp only[bR]at hu hv
   obtain⟨bs,rfl,hb⟩:=hu;obtain⟨cs,rfl,hc⟩:=hv;have h1:=dN.1 h1;subst hb;subst hc;have hb:(cs==bs)=true:=by rw[beq_toListBytes];exact dN.2 h1.symm
   cases n<;>simp only[Instr.sameBits]<;>exact hb
 by_cases hone:∃k,ks=[k]
 .obtain⟨k,rfl⟩:=hone
  obtain⟨rfl,_⟩:=FE hp;obtain⟨rfl,_⟩:=FE hq;simp only[jN,nP,gI,gw]at hf;obtain⟨b1,h1,b2,rfl,h2⟩:=hf;rw[Pw]at h2;subst h2;exact cell _ h1 hu hv
 .have iJ:=FF (λk hh=>hone ⟨k,hh⟩) hp
  have ke:=FF (λk hh=>hone ⟨k,hh⟩) hq
  subst iJ;subst ke;simp only[bR]at hu hv;obtain⟨A,rfl,ra,_⟩:=hu;obtain⟨B,rfl,rb,_⟩:=hv;have hl:∀{ks:List CK}{p q:List D}{A B:List Value},jN ks p q=some true->cy φ I w p A->cy φ I w q B->A.length=B.length/\((B.zip A).all λx=>Instr.sameBits 9999 x.1 x.2)=true:=by
   intro ks;induction ks with
   |nil =>
    intro p q A B hf ra rb;cases p<;>cases q<;>simp[jN]at hf;cases A<;>cases B<;>simp_all[cy]
   |cons k ks ih =>
    intro p q A B hf ra rb;cases p with
    |nil=>simp[jN]at hf
    |cons x p =>
     cases q with
     |nil=>simp[jN]at hf
     |cons y q =>
      cases A with
      |nil=>simp[cy]at ra
      |cons a A =>
       cases B with
       |nil=>simp[cy]at rb
       |cons b B =>
        simp only[jN,nP,gI]at hf;obtain⟨b1,h1,b2,h2,h3⟩:=hf;simp only[bJ]at h3;obtain⟨rfl,rfl⟩:=h3;simp only[cy]at ra rb;obtain⟨i1,i2⟩:=ih h2 ra.2 rb.2;exact⟨by simp[i1],by simp only[JY,xx,bJ];exact⟨cell 9999 h1 ra.1 rb.1,i2⟩⟩
  obtain⟨h1,h2⟩:=hl hf ra rb;have h1':B.size=A.size:=by simpa using h1.symm
  simp only[Instr.sameBits,h1',Py,Ai];exact h2
theorem ajo{ks:List CK}{k:D}:∀{kv:List (D×V)},GI ks k kv=match kv.findIdx? (lY ks k)with |some j=>(kv[j]?).map (·.2) |none=>none
 | []=>rfl
 |p::kv=>by
  simp only[GI,xw];split
  .simp
  .rw[ajo (kv:=kv)]
   cases kv.findIdx? (lY ks k)<;>simp
theorem Ud{ks:List CK}{k:D}{v:V}:∀{kv:List (D×V)},D7 ks k v kv=match kv.findIdx? (lY ks k)with |some j=>kv.set j (k,v) |none=>kv++[(k,v)]
 | []=>rfl
 |p::kv=>by
  simp only[D7,xw];split
  .simp
  .rw[Ud (kv:=kv)]
   cases kv.findIdx? (lY ks k)<;>simp
theorem ajp{ks:List CK}{k:D}{kv:List (D×V)}{j:Nat}(h:kv.findIdx? (lY ks k)=some j):j<kv.length/\∃p,kv[j]?=some p/\lY ks k p=true:=by
 obtain⟨h1,h2,_⟩:=Gr.1 h;exact⟨h1,kv[j],by simp[h1],h2⟩
theorem ajq{ks:List CK}{k:D}{p:D×V}(h:lY ks k p=true):nS ks k p.1=some true:=by
 unfold lY at h;cases hq:nS ks k p.1 with
 |none=>simp[hq]at h
 |some b=>simp[hq]at h;rw[h]
theorem ajr(hs:cm φ nt m dB s g a w){n:Nat}{kv kv':List (D×V)}{ES wO:Array MapEntry}{kK wP:Nat}{ok:Bool}(hn:aV s.heap n = .mp kv)(hb:w.heap[g.β n]?=some (.map ES kK))(hI:g.I (g.β n)=0)
  (hnew:∀{h':List O}{w':World},gS s.heap g w h' g w'->uV φ h' g w' kv' wO.toList):
  ∃w',(setObj (g.β n) (.map wO wP)).run P w = .ok () w'/\cm φ nt m dB ⟨s.env,s.heap.set n (.mp kv'),ok⟩ g a w'/\Frame m s.heap g w (s.heap.set n (.mp kv')) g w':=by
 have hl:(aV s.heap n).live=true:=by rw[hn];rfl
 have hlt:g.β n<w.heap.size:=hs.heap.block hl;refine⟨_,MapKept.run_setObj_map (P:=P) _ hb,?_⟩;have ht:jS w {w with heap:=w.heap.setIfInBounds (g.β n) (.map wO wP)} (g.β n):=
  ⟨by simp,λk hk=>by simp[GA (Ne.symm hk)],rfl,rfl,rfl⟩
 have hE:Ext g.I w g.I {w with heap:=w.heap.setIfInBounds (g.β n) (.map wO wP)}:=⟨λ_=>gf _,λb i hi=>by
  by_cases cJ:b=g.β n
  .subst cJ;omega
  .exact Im (ht.same b cJ) i⟩
 have hle:=wu (x:=.mp kv') hs.heap hl ht hE (λes he=>by simp[O.gM]at he) (λ_ _=>⟨kv,hn⟩)
 have hH:=wx (x:=.mp kv') hs.heap hl ht hle (λ_ _=>rfl) ⟨wO,wP,by simp[hlt],hnew hle,hI⟩
 exact⟨hs.x8 hl ht hle hH,wy (.mp kv') hl ht hE (λ_ _=>rfl) hle⟩
theorem ajs{ks:List CK}{k:D}{kv:List (D×V)}(h:B9 ks k kv=true):(nS ks k k).isSome=true/\(kv.all λp=>(nS ks k p.1).isSome)=true:=by
 simpa[B9]using h
theorem ajt{h:List O}(hH:eU φ h g w){n:Nat}{v:Value}{kv:List (D×V)}(hn:aV h n = .mp kv)(hr:aI φ h g w (.mp n) v):v = .map (some (g.β n))/\∃ES kK,w.heap[g.β n]?=some (.map ES kK)/\uV φ h g w kv ES.toList/\g.I (g.β n)=0:=by
 simp only[aI]at hr;have:=hH.obj n;rw[hn]at this;exact⟨hr.2.2 kv hn,this⟩
theorem aju{h:List O}{k:D}{v:Value}(hr:aI φ h g w (.d k) v):bR φ g.I w k v:=by simpa only[aI]using hr
theorem ajv(hs:cm φ nt m dB s g a w){rec:Rec}{x k v:A}{ks:List CK}(hc:cL P φ nt o (.fA x k v ks)=true)(hok:(aU rec (.fA x k v ks) s).ok=true)
  (hK:eu φ nt m dB s g w (aU rec (.fA x k v ks) s) o a K):o.wp P a w K Q:=by
 simp only[cL,bJ,dN]at hc;obtain⟨uY,hc⟩:=hc;have key:∀{t:TypeId}{x' k' v':Operand},(execOp a.eval o).run P w=(do Instr.mapUpdate t (a.eval x') (a.eval k') (a.eval v');pure .skip:Sem Next).run P w ->
   (dM φ x' x&&dM φ k' k&&dM φ v' v&&(match P.underlying t with |some (.map kt _)=>wD P kt ks |_=>false))=true->o.wp P a w K Q:=by
  intro t x' k' v' ho h;simp only[bJ]at h;obtain⟨⟨⟨hx,hk⟩,hv⟩,ht⟩:=h;split at ht
  .rename_i kt et FG
   have rx:=eE hs hx;have rk:=eE hs hk;have rv:=eE hs hv;simp only[aU]at hok hK;obtain⟨hh,hst⟩:=Zp hok;rw[hst]at hK;unfold Ko at hst;split at hst
   .rename_i n kd fT hkv
    rw[fT]at rx;rw[hkv]at rk;split at hst
    .rename_i kv hn
     split at hst
     .rename_i dV
      obtain⟨Ue,hvk⟩:=dV;simp only[gw]at hst;subst hst;obtain⟨IJ,hall⟩:=ajs Ue;obtain⟨ex,ES,kK,hb,zI,hI⟩:=ajt hs.heap hn rx;have qH:=aju rk;have e1:=ajl (P:=P) (w:=w) ht IJ qH false;obtain⟨r,e2,e3⟩:=aji (P:=P) ht qH zI hall;have fin:∀{kv':List (D×V)}{wO:Array MapEntry}{wP:Nat},D7 ks kd (s.get v) kv=kv'->(Instr.mapUpdate t (a.eval x') (a.eval k') (a.eval v')).run P w=(setObj (g.β n) (.map wO wP)).run P w ->
        (∀{h':List O}{w':World},gS s.heap g w h' g w'->uV φ h' g w' kv' wO.toList)->o.wp P a w K Q:=by
       intro kv' wO wP ajw hrun hnew;obtain⟨w',h1,h2,h3⟩:=ajr (P:=P) hs (ok:=s.ok) (wP:=wP) hn hb hI hnew;refine Y5 (w':=w') (by rw[ho];simp[hrun,h1]) ?_
       have:=hK g undef w';rw[uY]at this⊢;subst ajw;exact this h2 h3
      cases hf:kv.findIdx? (lY ks kd)with
      |none =>
       rw[hf]at e3;subst e3;refine fin (kv':=kv++[(kd,s.get v)]) (wO:=ES.push {key:=a.eval k',val:=a.eval v',born:=kK}) (wP:=kK+1) (by rw[Ud,hf]) ?_ λhle=>?_
       .simp[Instr.mapUpdate,run_underlying FG,ex,MapKept.run_getObj_map hb,e1,e2]
       .have hm:=Th hle zI
        refine⟨by simpa using hm.1,λi p e hp he=>?_⟩
        rw[Array.toList_push]at he;have hlen:=hm.1;rcases sR i kv.length with hi |hi |hi
        .rw[sQ hi]at hp
         rw[sQ (by omega)]at he
         exact hm.2 i p e hp he
        .subst hi
         rw[An (gf _)]at hp;rw[An (by omega)]at he
         rw[hlen]at he;simp at hp he;subst hp;subst he;exact⟨xY hle.ext qH,lI hle rv⟩
        .rw[nO (by simp;omega)]at hp
         simp at hp
      |some j =>
       rw[hf]at e3;obtain⟨e,he,rfl⟩:=e3;obtain⟨hj,p,hp,hpk⟩:=ajp hf;have IK:=ajn (w:=w) (ajq hpk) qH (zI.2 j p e hp he).1;have he':ES[j]?=some e:=by simpa using he
       refine fin (kv':=kv.set j (kd,s.get v)) (wO:=ES.modify j λe=>{e with key:=a.eval k',val:=a.eval v'}) (wP:=kK) (by rw[Ud,hf]) ?_ λhle=>?_
       .simp[Instr.mapUpdate,run_underlying FG,ex,MapKept.run_getObj_map hb,e1,e2,he',Instr.keyThatStays,IK]
       .have hm:=Th hle zI
        refine⟨by simpa using hm.1,λi p' e' iJ he'=>?_⟩
        rw[Array.toList_modify,List.getElem?_modify]at he';rw[JZ]at iJ;split at iJ
        .rename_i hij
         subst hij;simp[he]at he';simp only[hj,dF,gw]at iJ;subst iJ;subst he';exact⟨xY hle.ext qH,lI hle rv⟩
        .rename_i hij
         simp[hij]at he';exact hm.2 i p' e' iJ (by simpa using he')
     .simp at hst
    .simp at hst
   .simp at hst
  .simp at ht
 split at hc
 .rename_i t x' k' v' ho
  exact key (by simp[execOp,ho]) hc
 .rename_i t x' k' v' ho
  exact key (by simp[execOp,ho]) hc
 .simp at hc
theorem ajx(hs:cm φ nt m dB s g a w){rec:Rec}{d:Nat}{x k:A}{z:D}{c:Bool}{ks:List CK}(hc:cL P φ nt o (.pG d x k z c ks)=true)(hok:(aU rec (.pG d x k z c ks) s).ok=true)
  (hK:eu φ nt m dB s g w (aU rec (.pG d x k z c ks) s) o a K):o.wp P a w K Q:=by
 simp only[cL,bJ]at hc;obtain⟨hd,hc⟩:=hc;split at hc
 .rename_i t x' k' c' ho
  simp only[bJ,dN]at hc;obtain⟨⟨⟨hx,hk⟩,rfl⟩,ht⟩:=hc;split at ht
  .rename_i kt et FG
   simp only[bJ]at ht;obtain⟨ht,hz⟩:=ht;split at hz
   .rename_i info It
    split at hz
    .rename_i zv T7
     have rx:=eE hs hx;have rk:=eE hs hk;simp only[aU]at hok hK;refine mI hs hd hok (λv hv=>?_) hK
     have hzero:(zeroValue et).run P w = .ok zv w:=by simp[zeroValue,typeInfo,It,T7]
     have fin:∀{kd:D}{kv:List (D×V)}{ES:List MapEntry}{es:Array MapEntry},s.get k = .d kd->es.toList=ES->uV φ s.heap g w kv ES->GJ ks kd z c' kv=some v ->
       (a.eval x' = .map none/\es=#[]\/∃n kK,a.eval x' = .map (some n)/\w.heap[n]?=some (.map es kK)) ->
       ∃v',(execOp a.eval o).run P w = .ok (.value v') w/\aI φ s.heap g w v v':=by
      intro kd kv ES es qH jF zI hl hrun;rw[qH]at rk;have qH:=aju rk;unfold GJ at hl;split at hl
      .rename_i Ue
       obtain⟨IJ,hall⟩:=ajs Ue;have e1:=ajl (P:=P) (w:=w) ht IJ qH es.isEmpty;obtain⟨r,e2,e3⟩:=aji (P:=P) ht qH zI hall;rw[ajo]at hl;cases hf:kv.findIdx? (lY ks kd)with
       |none =>
        rw[hf]at e3 hl;subst e3;simp only[gw]at hl;subst hl;refine⟨if c' then .tuple #[zv,.bool false]else zv,?_,?_⟩
        .rcases hrun with⟨ex,rfl⟩ |⟨n,kK,ex,hb⟩
         .simp at jF
          subst jF;simp at e1 e2;simp[execOp,ho,Instr.lookup,ex,run_underlying FG,e1,e2,hzero]
         .simp[execOp,ho,Instr.lookup,ex,run_underlying FG,MapKept.run_getObj_map hb,e1,jF,e2,hzero]
        .have:=Y7 (w:=w) (I:=g.I) hz
         cases c' with
         |true=>simp only[dF,aI];exact⟨_,rfl,by simp[bT,aI,bR,this]⟩
         |false=>simp only[eI,dI,aI];exact this
       |some j =>
        rw[hf]at e3 hl;obtain⟨e,he,rfl⟩:=e3;obtain⟨hj,p,hp,hpk⟩:=ajp hf;simp only[hp,sV,gw]at hl;subst hl;have Bq:=(zI.2 j p e hp he).2;refine⟨if c' then .tuple #[e.val,.bool true]else e.val,?_,?_⟩
        .rcases hrun with⟨ex,rfl⟩ |⟨n,kK,ex,hb⟩
         .simp at jF
          subst jF;simp at he
         .simp[execOp,ho,Instr.lookup,ex,run_underlying FG,MapKept.run_getObj_map hb,e1,jF,e2]
        .cases c' with
         |true=>simp only[dF,aI];exact⟨_,rfl,by simp[bT,aI,bR,Bq]⟩
         |false=>simpa only[eI,dI]using Bq
      .simp at hl
     unfold Kn at hv;split at hv
     .rename_i kd qH
      split at hv
      .rename_i n fT
       rw[fT]at rx;split at hv
       .rename_i kv hn
        obtain⟨ex,ES,kK,hb,zI,hI⟩:=ajt hs.heap hn rx;exact fin (es:=ES) qH rfl zI hv (.inr ⟨_,_,ex,hb⟩)
       .simp at hv
      .rename_i fT
       rw[fT]at rx;have ex:a.eval x' = .map none:=by simpa[aI,bR]using rx
       exact fin (es:=#[]) (kv:=[]) qH rfl ⟨rfl,λi p e hp=>by simp at hp⟩ hv (.inl ⟨ex,rfl⟩)
      .simp at hv
     .simp at hv
    .simp at hz
   .simp at hz
  .simp at ht
 .simp at hc
end
end Go.VS
namespace Go.VS
section
variable {P:Program}{φ:fj}
variable {nt m dB:Nat}{s:St}{g:Gh}{a:Act}{w:World}{K:Act->World->Prop}{Q:Exit->Act->World->Prop}{o:Oper}
theorem ajy{V':Value}{x:V}{n:Int}{h:List O}(hv:asInt x=some n)(hr:aI φ h g w x V'):∃k,V' = .int k n:=by
 cases x with
 |d z =>
  cases z with
  |i q k=>simp[asInt]at hv;subst hv;exact⟨q,nE (by simpa only[aI]using hr)⟩
  |_=>simp[asInt]at hv
 |_=>simp[asInt]at hv
theorem ajz(hs:cm φ nt m dB s g a w){rec:Rec}{d es:Nat}{n k:A}{z:List D}(hc:cL P φ nt o (.vF d es z n k)=true)(hok:(aU rec (.vF d es z n k) s).ok=true)
  (hK:eu φ nt m dB s g w (aU rec (.vF d es z n k) s) o a K):o.wp P a w K Q:=by
 simp only[cL,bJ]at hc;obtain⟨hd,h⟩:=hc;split at h
 .rename_i t n' k' ho
  simp only[bJ,fZ]at h;obtain⟨⟨⟨hn,hk⟩,hpos⟩,ht⟩:=h;split at ht
  .rename_i e hu
   simp only[bJ]at ht;obtain⟨T9,ht⟩:=ht;obtain⟨i,zv,hi,hz,rL,n9,hzs⟩:=Db (g:=g) (w:=w) T9;rw[hi]at ht;simp only[bJ,dN,fZ]at ht;obtain⟨hsz,hby⟩:=ht;subst hsz;have rn:=eE hs hn;have rk:=eE hs hk;simp only[aU]at hok hK;obtain⟨v,hh,hv⟩:=Bg hok;rw[hv]at hK;simp only[St.gh]at hK;unfold Kd at hv;split at hv
   .rename_i nn kk Uf hkv
    split at hv
    .rename_i dV
     obtain⟨h0,hnk,hfit,hzl⟩:=dV;simp only[gw,ur]at hv;obtain⟨rfl,rfl⟩:=hv;obtain⟨kn,en⟩:=ajy Uf rn;obtain⟨kq,ek⟩:=ajy hkv rk;have II:zv.cells.size=i.size:=by
      have:=sH rL;rw[hzl]at this;simpa using this.symm
     have ajA:kk.toNat<=16777216:=nh (Nat.le_mul_of_pos_right _ hpos) hfit;have hbm:(i.bytes:Int)*kk<=281474976710656:=by
      have h1:i.bytes*kk.toNat<=16777216*16777216:=JV hby ajA;have h2:(kk.toNat:Int)=kk:=by omega
      rw[<-h2];have h3:((i.bytes*kk.toNat:Nat):Int)<=((16777216*16777216:Nat):Int):=Int.ofNat_le.2 h1;rw[Int.natCast_mul]at h3;exact h3
     have hrun:=run_makeSlice (P:=P) w t e i zv hu hi hz kn kq nn kk h0 hnk hfit hbm (by omega)
     obtain⟨z1,z2,z3⟩:=NJ rL n9 (by rw[hzl];exact hpos) nn.toNat
     obtain⟨y1,y2,y3⟩:=NJ rL n9 (by rw[hzl];exact hpos) (kk.toNat - nn.toNat)
     have ajB:madeCells zv.cells (kk.toNat*i.size)=((Builtin.zeroCells zv.cells nn.toNat).toList++(Builtin.zeroCells zv.cells (kk.toNat - nn.toNat)).toList).toArray:=by
      have e1:∀q:Nat,(Builtin.zeroCells zv.cells q).toList=(List.replicate q zv.cells.toList).flatten:=by
       intro q;unfold Builtin.zeroCells;rw[show q*zv.cells.size=q*i.size by rw[II]]
       exact Iu q i.size zv.cells II hpos
      apply Pq;rw[e1,e1];show(madeCells zv.cells (kk.toNat*i.size)).toList=_
      unfold madeCells;rw[Iu kk.toNat i.size zv.cells II hpos,<-List.flatten_append,List.replicate_append_replicate]
      have:nn.toNat+(kk.toNat - nn.toNat)=kk.toNat:=by omega
      rw[this]
     rw[ajB]at hrun;have jG:(List.replicate nn.toNat z).length=nn.toNat:=by simp
     have:=Zz (P:=P) (K:=K) (Q:=Q) (o:=o) (a:=a) hs hd (es:=i.size) (ex:=true) (ys:=List.replicate nn.toNat z) (C:=(Builtin.zeroCells zv.cells nn.toNat).toList) (ok:=s.ok) (gN.refl w) rfl
      (rest:=(Builtin.zeroCells zv.cells (kk.toNat - nn.toNat)).toList) (T:=e) (cap:=kk.toNat)
      (by rw[jG];simp only[execOp,ho,en,ek];simp[hrun]) (λr hr=>by rw[GD]at hr;rw[hr.2,hzl]) z1 z2 (by rw[jG];omega) ?_ y2
     .refine this λg' v' w' k1 k2=>?_
      rw[jG]at k1;exact hK g' v' w' k1 k2
     .rw[z3,y3,hzl,<-Nat.add_mul]
      exact lU _ (by omega)
    .simp at hv
   .simp at hv
  .simp at ht
 .simp at h
theorem ajC(hs:cm φ nt m dB s g a w){rec:Rec}{d len es:Nat}{x i:A}(hc:cL P φ nt o (.oB d x i len es)=true)(hok:(aU rec (.oB d x i len es) s).ok=true)
  (hK:eu φ nt m dB s g w (aU rec (.oB d x i len es) s) o a K):o.wp P a w K Q:=by
 simp only[cL,bJ]at hc;obtain⟨hd,h⟩:=hc;split at h
 .rename_i t y k ho
  simp only[bJ]at h;obtain⟨⟨hx,hi⟩,ht⟩:=h;have rx:=eE hs hx;have ri:=eE hs hi;refine mI hs hd hok (λv hv=>?_) hK
  split at ht
  .rename_i n e hu
   simp only[bJ,fZ,dN]at ht;obtain⟨⟨⟨rfl,h1⟩,hsz⟩,hpos⟩:=ht;have hsz':=wI (P:=P) (w:=w) hsz;have run:∀{b o':Nat}{q:IntKind}{j:Int},a.eval y = .pointer (some ⟨b,o',none⟩)->a.eval k = .int q j->0<=j->j<n->(execOp a.eval o).run P w = .ok (.value (.pointer (some ⟨b,o'+j.toNat*es,none⟩))) w:=by
    intro b o' q j he hk h0 hj;simp[execOp,ho,he,hk,Instr.indexAt,underlying,hu,Instr.sureAddr,asIntOf,h0,hj,hsz',qG]
   unfold oB at hv;split at hv
   .rename_i cs kk j hp hq
    rw[hp]at rx;rw[hq]at ri;have ei:=nE (by simpa only[aI]using ri)
    simp only[aI,bR]at rx;obtain⟨b,o',he,hI,hcs⟩:=rx;split at hv
    .rename_i dV
     obtain⟨h0,hj,hle⟩:=dV;simp only[gw]at hv;subst hv;refine⟨_,run he ei h0 hj,?_⟩;simp only[aI,bR];refine⟨b,o'+j.toNat*es,rfl,?_,Zd hcs _⟩
     have:j.toNat*es<=n*es:=lU _ (by omega)
     simp;omega
    .simp at hv
   .rename_i q r c kk j hp hq
    rw[hp]at rx;rw[hq]at ri;have ei:=nE (by simpa only[aI]using ri)
    simp only[aI]at rx;split at hv
    .rename_i dV
     obtain⟨h0,hj,ha⟩:=dV;simp only[gw]at hv;subst hv;obtain⟨es',jF⟩:=Fh ha;refine⟨_,run (rx.2.2 es' jF) ei h0 hj,?_⟩;simp only[aI];refine⟨rx.1,rfl,λajD he'=>?_⟩
     rw[jF]at he';simp at he';subst he';simp[pE]
    .simp at hv
   .simp at hv
  .simp at ht
 .simp at h
end
end Go.VS
namespace Go.VS
section
variable {P:Program}{φ:fj}
variable {nt m dB:Nat}{s:St}{g:Gh}{a:Act}{w:World}{K:Act->World->Prop}{Q:Exit->Act->World->Prop}{o:Oper}
theorem ajE{b:Nat}{cs:Array Value}{T:TypeId}{fr:Nat×Nat}(hb:w.heap[b]?=some (.cells cs T fr)):w.setRow b cs=w:=by
 have h:(w.setRow b cs).heap=w.heap:=by
  apply Array.ext_getElem?;intro k;by_cases hk:k=b
  .subst hk;rw[setRow_heap w k cs cs T fr hb,hb]
  .exact setRow_other w b k cs hk
 unfold World.setRow at h⊢;cases w;simp only at h;rw[h]
theorem ajF{α:Type}(cs:List α)(k:Nat):aq cs k []=cs:=by simp[aq]
theorem ajG(hs:cm φ nt m dB s g a w){rec:Rec}{d es:Nat}{x:A}{lo hi:Option A}(hc:cL P φ nt o (.sle d x lo hi es)=true)(hok:(aU rec (.sle d x lo hi es) s).ok=true)
  (hK:eu φ nt m dB s g w (aU rec (.sle d x lo hi es) s) o a K):o.wp P a w K Q:=by
 simp only[cL,bJ]at hc;obtain⟨hd,h⟩:=hc;split at h
 .rename_i t y lo' hi' ho
  simp only[bJ]at h;obtain⟨⟨⟨hx,hlo⟩,hhi⟩,ht⟩:=h;split at ht
  .rename_i e hu
   have rx:=eE hs hx;simp only[aU]at hok hK;obtain⟨v,h',hv⟩:=Bg hok;rw[hv]at hK;simp only[St.gh]at hK;unfold Kh at hv;split at hv
   .rename_i l hh hl Ix
    have bl:=Nz hs hlo hl;have bh:=Nz hs hhi Ix;have fin:∀{ad:Option Addr}{len cap:Nat},a.eval y = .slice ad len cap->Au (s.get x)=len->0<=l->l<=hh->hh<=cap ->
      (execOp a.eval o).run P w = .ok (.value (.slice (if cap=l.toNat then ad else ad.map (·.add (l.toNat*es))) (hh.toNat - l.toNat) (cap - l.toNat))) w:=by
     intro ad len cap he hlen h0 h1 h2;rw[hlen]at bh;have:=Zw (P:=P) (w:=w) hu ht bl bh (ad:=ad) (len:=len) (cap:=cap) h0 h1 h2;simp[execOp,ho,he,this]
    split at hv
    .rename_i n off len hp
     rw[hp]at rx fin;simp only[aI]at rx;split at hv
     .rename_i e' ex rows hn
      split at hv
      .rename_i dV
       obtain⟨rfl,h0,h1,h2⟩:=dV;obtain⟨cap,he,hlc,hm,CS,T,hb,hsz⟩:=rx.2.2 e' (by rw[hn];rfl)
       rw[hn]at hm;simp only[O.len]at hm;have hrun:=fin he rfl h0 h1 (by omega)
       split at hv
       .rename_i jG
        simp at hv;obtain⟨rfl,rfl⟩:=hv;refine uX hs hd hrun ?_ hK;simp only[aI];refine⟨rx.1,rfl,λes' he'=>?_⟩
        rw[hn]at he';simp[O.gM]at he';subst he';have hlen:(hh - l).toNat=hh.toNat - l.toNat:=by omega
        rw[hlen];refine⟨cap - l.toNat,?_,by omega,by rw[hn];simp only[O.len];omega,CS,T,hb,?_⟩
        .have dV:(if cap=l.toNat then(some ⟨g.β n,g.o n+off*e',none⟩:Option Addr)else(some ⟨g.β n,g.o n+off*e',none⟩:Option Addr).map (·.add (l.toNat*e')))=some ⟨g.β n,g.o n+(off+l.toNat)*e',none⟩:=by
          split
          .rename_i bN
           have:l.toNat=0:=by omega
           rw[this];simp
          .simp only[sV,qG]
           rw[ni,<-Nat.add_assoc]
         rw[dV]
        .have:off+l.toNat+(cap - l.toNat)=off+cap:=by omega
         rw[this];exact hsz
       .rename_i jG
        split at hv
        .rename_i hex
         subst hex;simp at hv;obtain⟨rfl,rfl⟩:=hv;have dD:=hs.heap.obj n;rw[hn]at dD;obtain⟨⟨rH,T',hb',oX⟩,dS,hI⟩:=dD;rw[hb]at hb';simp at hb';obtain⟨rfl,rfl⟩:=hb';have hz:hh.toNat - l.toNat=0:=by omega
         rw[hz]at hrun;have hlr:l.toNat<=cap:=by omega
         have nil:∀k:Nat,(rows.drop k).take 0++([]:List (List D))=[]:=by simp
         by_cases bN:cap=l.toNat
         .rw[aK bN,bN,Nat.sub_self]at hrun
          refine TQ (off:=off) (len:=0) (cap:=0) (ex:=true) (ys:=[]) (news:=[]) hs hd hn hb (nh (Nat.add_le_add_left (lU _ (by omega)) _) hsz.1) hsz.2 oX (by omega) dS hI (by simp[cy]) (by simp) (by simp) (by simp) (gf _) (.inl rfl) (λ_=>?_) ?_
          .rw[ajF]
           simp only[WC,ajE hb];exact hrun
          .rw[nil];exact hK
         .rw[aD bN]at hrun
          simp only[sV,qG]at hrun;rw[show g.o n+off*e'+l.toNat*e'=g.o n+(off+l.toNat)*e' by rw[ni];omega]at hrun
          refine TQ (off:=off+l.toNat) (len:=0) (cap:=cap - l.toNat) (ex:=true) (ys:=[]) (news:=[]) hs hd hn hb (by rw[show off+l.toNat+(cap - l.toNat)=off+cap by omega];exact hsz.1) hsz.2 oX (by omega) dS hI (by simp[cy]) (by simp) (by simp) (by simp) (BX _) (.inl rfl) (λ_=>?_) ?_
          .rw[ajF]
           simp only[WC,ajE hb];exact hrun
          .rw[nil];exact hK
        .simp at hv
      .simp at hv
     .simp at hv
    .simp at hv
   .simp at hv
  .simp at ht
 .simp at h
end
end Go.VS
namespace Go.VS
section
variable {P:Program}{φ:fj}
variable {nt m dB:Nat}{s:St}{g:Gh}{a:Act}{w:World}{K:Act->World->Prop}{Q:Exit->Act->World->Prop}{o:Oper}
theorem ajH(hs:cm φ nt m dB s g a w){rec:Rec}{d n:Nat}{ag:Bool}{x:A}(hc:cL P φ nt o (.sj d x n ag)=true)(hok:(aU rec (.sj d x n ag) s).ok=true)
  (hK:eu φ nt m dB s g w (aU rec (.sj d x n ag) s) o a K):o.wp P a w K Q:=by
 simp only[aU]at hok hK;obtain⟨v,hv⟩:=Nn hok;have he:yQ s.heap n ag (s.get x)=some v:=by
  unfold J' at hv;split at hv
  .rename_i cs hx;rw[hx];exact hv
  .rename_i cs hx;rw[hx];exact hv
  .simp at hv
 refine Za (rec:=rec) hs hc ?_ ?_
 .simp only[aU,he];rw[hv]at hok;exact hok
 .simp only[aU,he];rw[hv]at hK;exact hK
theorem ajI(hs:cm φ nt m dB s g a w){rec:Rec}{d off n:Nat}{x:A}(hc:cL P φ nt o (.pJ d x off n)=true)(hok:(aU rec (.pJ d x off n) s).ok=true)
  (hK:eu φ nt m dB s g w (aU rec (.pJ d x off n) s) o a K):o.wp P a w K Q:=by
 simp only[aU]at hok hK;obtain⟨v,hv⟩:=Nn hok;have he:fa s.heap off n (s.get x)=some v:=by
  unfold Ka at hv;split at hv
  .rename_i cs hx;rw[hx];exact hv
  .rename_i cs hx;rw[hx];exact hv
  .simp at hv
 refine Ze (rec:=rec) hs hc ?_ ?_
 .simp only[aU,he];rw[hv]at hok;exact hok
 .simp only[aU,he];rw[hv]at hK;exact hK
def I.NO:I->Bool
 | .pK ..=>true
 |_=>false
theorem ajJ{rec:Rec}(hq:l7 P φ rec)(hs:cm φ nt m dB s g a w){i:I}(hc:cL P φ nt o i=true)(hY:i.NO=false)(hok:(aU rec i s).ok=true)
  (hK:eu φ nt m dB s g w (aU rec i s) o a K):o.wp P a w K Q:=by
 cases i with
 |mv d x=>exact ahD hs hc hK
 |pick d c x y=>exact ahE hs hc hok hK
 |box d x n fz=>exact ah5 hs hc hok hK
 |new d z=>exact ah6 hs hc hK
 |build d z ps=>exact ah8 hs hc hok hK
 |lf d es n z ps fz=>exact ah9 hs hc hok hK
 |ld d x n ag=>exact Za hs hc hok hK
 |st x y n fz =>
  cases fz with
  |false=>exact aih hs hc hok hK
  |true=>exact aii hs hc hok hK
 |fa d x o n=>exact Ze hs hc hok hK
 |ji d x i es=>exact ahZ hs hc hok hK
 |bin d op x y=>exact ahG hs hc hok hK
 |eqv d neg x y ks=>exact ahN hs hc hok hK
 |rZ d neg x y=>exact ahO hs hc hok hK
 |qo d neg x k=>exact ahX hs hc hok hK
 |un d op x=>exact ahH hs hc hok hK
 |kB d k x=>exact ahI hs hc hok hK
 |len d x k=>exact ah3 hs hc hok hK
 |ext d x i=>exact ahJ hs hc hok hK
 |sl d x lo hi es=>exact aiq hs hc hok hK
 |sle d x lo hi es=>exact ajG hs hc hok hK
 |app d x y es=>exact ZG hs hc hok hK
 |sk d x y es=>exact aiJ hs hc hok hK
 |nq d f xs=>exact aiK hq hs hc hok hK
 |calls d f xs=>exact aiO hq hs hc hok hK
 |pK d x xs=>simp[I.NO]at hY
 |gY d f x y=>exact ahK hs hc hK
 |call d f xs=>exact aim hq hs hc hok hK
 |nR d x xs=>exact ain hq hs hc hok hK
 |inv d nm j4 x xs=>exact aiZ hq hs hc hok hK
 |nr d t x=>exact aiW hs hc hok hK
 |mx d x y=>exact aiV hs hc hok hK
 |mP d f xs=>exact T6 false hq hs hc hok hK
 |jd d f xs=>exact T6 true hq hs hc hok hK
 |pI d x xs=>exact aiI hq hs hc hok hK
 |sX d x=>exact aiP hs hc hok hK
 |rY d x off n ag=>exact aiQ hs hc hok hK
 |qW d x lo hi mz es=>exact aiS hs hc hok hK
 |qp d x es z=>exact aiT hs hc hok hK
 |copy d x y es=>exact aiU hs hc hok hK
 |cap d x=>exact ai1 hs hc hok hK
 |oB d x j len es=>exact ajC hs hc hok hK
 |vF d es z n k=>exact ajz hs hc hok hK
 |qX d x k es z=>exact ai4 hs hc hok hK
 |qY d f x y es=>exact aja hs hc hok hK
 |bad d=>simp[aU,St.fail]at hok
 |sj d x n ag=>exact ajH hs hc hok hK
 |pJ d x o n=>exact ajI hs hc hok hK
 |mw d=>exact ajm hs hc hK
 |fA m k v ks=>exact ajv hs hc hok hK
 |pG d m k z ok ks=>exact ajx hs hc hok hK
end
end Go.VS
namespace Go.VS
def Wd(r:Option Nat):Fence:={Fence.wide with round:=r}
section
variable {P:Program}{φ:fj}
variable {nt m dB:Nat}{s:St}{g:Gh}{a:Act}{w:World}{K:Act->World->Prop}{Q:Exit->Act->World->Prop}{o:Oper}
variable {r:Option Nat}{n:Nat}
theorem ajK{f:FuncId}{args:Array Value}{R:Ending->World->Prop}(h:Calls P f args w R):CallsIn (Wd r) n P f args w R:=(callsIn_wide (n:=n)).2 h
theorem ajL{row:String}{args:Array Value}{R:Value->World->Prop}(h:Rows P row args w R):RowsIn (Wd r) n P row args w R :=
 λc cs _=>let ⟨v,w',r,s⟩:=h c cs;⟨v,w',r,stepsIn_wide.2 s⟩
theorem NP:(Wd r).depth.isSome=true->1<=n:=λh=>by simp[Wd,Fence.wide]at h
theorem ajM(hd:∀c,o.op≠.defer c)(h:o.wp P a w K Q):o.wpIn (Wd r) n P a w K Q:=by
 refine⟨λ_ _=>trivial,?_⟩
 rw[Oper.semAt_eq _ _ _ hd];unfold Oper.wp at h;generalize (execOp a.eval o).run P w=res at h⊢;cases res with
 |ok x w' =>
  cases x<;>simp only[Oper.upon,Oper.uponIn]at h⊢
  case value=>exact h
  case skip=>exact h
  case defer=>exact h
  case enter=>exact⟨NP,ajK h⟩
  case row=>exact⟨NP,ajL h⟩
 |halt x w' =>
  cases x<;>simp only[Oper.upon,Oper.uponIn]at h⊢<;>exact h
theorem ajN{i:I}(h:cL P φ nt o i=true)(hb:∀d,i≠.bad d):∀c,o.op≠.defer c:=by
 intro c hc;cases i<;>simp[cL,hc]at h;all_goals exact absurd rfl (hb _)
theorem ajO{F:Fence}{c:Code}(h:c.wpIn F n P (Exit.noGoto Q) a w):(Code.scope c).wpIn F n P Q a w:=by
 intro b k cs hro hb hr;have h0:(lone (b.atR a (.code (.scope c)::k)) cs w).fenced P F:=fenced_calm hb hr rfl;have s1:step P (lone (b.atR a (.code (.scope c)::k)) cs w) = .next (lone (b.atR a (.code c::.inScope c::k)) cs w):=step_lone_go (by simp[stepG,stepG.exec,Frame.atR])
 have s2:∀{a:Act}{w:World},step P (lone (b.atR a (.inScope c::k)) cs w) = .next (lone (b.atR a k) cs w):=step_lone_go (by simp[stepG,stepG.exec,Frame.atR])
 obtain⟨e,a₁,w₁,hq,FH⟩:=h b (.inScope c::k) cs hro hb hr;cases e with
 |normal=>exact⟨.normal,a₁,w₁,hq,.head h0 s1 (StepsIn.trans FH (.one (fenced_calm hb hr rfl) s2))⟩
 |exit id =>
  have hx:exitTo id (.inScope c::k)=exitTo id k:=by simp[exitTo]
  exact⟨.exit id,a₁,w₁,hq,λk' hk=>.head h0 s1 (FH.1 k' (by rw[hx];exact hk)),
   λhr' hk=>let ⟨k₁,h1,h2⟩:=FH.2 hr' (by rw[hx];exact hk);⟨k₁,h1,.head h0 s1 h2⟩⟩
 |goto l=>exact hq.elim
 |ret=>exact⟨_,a₁,w₁,hq,.of_steps (.one h0 s1) FH⟩
 |panic ch=>exact⟨_,a₁,w₁,hq,.of_steps (.one h0 s1) FH⟩
 |outgrown=>exact⟨_,a₁,w₁,hq,.of_steps (.one h0 s1) FH⟩
def tQ:Obj->Bool
 | .cells ..=>true
 |_=>false
theorem Ug{b D i:Nat}{x:Obj}(h:b≠D):(w.putObj D x).cell? ⟨b,i,none⟩=w.cell? ⟨b,i,none⟩:=Im (World.putObj_heap_other h) i
theorem NQ{D i:Nat}{x:Obj}(h:w.heap[D]?=some x)(hx:tQ x=false):w.cell? ⟨D,i,none⟩=none:=by
 simp only[World.cell?,h];cases x<;>simp[tQ]at hx⊢
theorem Uh{I:Nat->Nat}{D:Nat}{x y:Obj}(h:w.heap[D]?=some x)(hx:tQ x=false)(hy:tQ y=false):Ext I w I (w.putObj D y):=
 ⟨λ_=>gf _,λb i _=>by
  by_cases hb:b=D
  .subst hb
   rw[NQ h hx,NQ (World.putObj_heap_same (Bc h)) hy]
  .exact Ug hb⟩
theorem Ui{h:List O}{D:Nat}{x y:Obj}(hh:w.heap[D]?=some x)(hx:tQ x=false)(hy:tQ y=false)(hn:∀k,(aV h k).live=true->g.β k≠D):gS h g w h g (w.putObj D y) where
 ext:=Uh hh hx hy
 len:=gf _
 arr n es _ he:=⟨he,rfl,rfl,rfl,nD.of_eq (World.putObj_heap_other (hn n (Ba he)))⟩
 mp n kv _ hk:=⟨⟨kv,hk⟩,rfl⟩
 lp n _ hk:=⟨hk,rfl⟩
theorem Uj{h:List O}{D:Nat}{x y:Obj}(hr:eU φ h g w)(hh:w.heap[D]?=some x)(hx:tQ x=false)(hy:tQ y=false)(hn:∀k,(aV h k).live=true->g.β k≠D):eU φ h g (w.putObj D y) where
 obj n:=by
  by_cases hl:(aV h n).live=true
  .exact C4 (Ui hh hx hy hn) (World.putObj_heap_other (hn n hl)) rfl (hr.obj n)
  .cases hq:aV h n<;>simp_all[O.live,gz]
 inj:=hr.inj
 new b hb:=hr.new b (by simpa using hb)
theorem Uk{h h':List O}{g':Gh}{w':World}{D:Nat}{x y:Obj}(hf:Frame m h g w h' g' w')(hh:w.heap[D]?=some x)(hy:tQ y=false)
  (hn:∀k,(aV h k).live=true->g.β k≠D):Frame m h g (w.putObj D y) h' g' (w'.putObj D y) where
 ext:=⟨hf.ext.le,λb i hi=>by
  by_cases hb:b=D
  .subst hb
   have h1:=Bc hh;rw[NQ (World.putObj_heap_same h1) hy,NQ (World.putObj_heap_same (pz h1 hf.size)) hy]
  .rw[Ug hb,Ug hb];exact hf.ext.cell b i hi⟩
 size:=by simpa using hf.size
 os:=hf.os
 tape:=hf.tape
 output:=hf.output
 oQ:=hf.oQ
 keep b hb hl:=by
  have h1:=hf.keep b (by simpa using hb) hl
  refine⟨?_,h1.2⟩;by_cases Ul:b=D
  .subst Ul
   have h2:=Bc hh;rw[World.putObj_heap_same h2,World.putObj_heap_same (pz h2 hf.size)]
  .rw[World.putObj_heap_other Ul,World.putObj_heap_other Ul];exact h1.1
 mG k hk:=by simpa using hf.mG k hk
 oR k hk:=by
  have h1:=hf.oR k hk;refine⟨λes he=>?_,h1.mp,h1.lp⟩
  obtain⟨k1,k2,k3⟩:=h1.arr es he;have hb:=hn k (Ba k1);have hb':g.β k≠D:=hb;refine⟨k1,k2,?_⟩;rw[World.putObj_heap_other hb',World.putObj_heap_other hb'];exact k3
theorem ajP{h h':List O}{g':Gh}{w':World}{D:Nat}{x y:Obj}(hf:Frame m h g w h' g' w')(hr:eU φ h g w)(hD:w.heap.size<=D)(hh:w'.heap[D]?=some x)(hx:tQ x=false)(hy:tQ y=false):
  Frame m h g w h' g' (w'.putObj D y) where
 ext:=hf.ext.trans (Uh hh hx hy)
 size:=by simpa using hf.size
 os:=hf.os
 tape:=hf.tape
 output:=hf.output
 oQ:=hf.oQ
 keep b hb hl:=by
  have h1:=hf.keep b hb hl;exact⟨by rw[World.putObj_heap_other (by omega)];exact h1.1,h1.2⟩
 mG k hk:=hf.mG k hk
 oR k hk:=by
  have h1:=hf.oR k hk;refine⟨λes he=>?_,h1.mp,h1.lp⟩
  obtain⟨k1,k2,k3⟩:=h1.arr es he;have hb:=hr.block (Ba k1);refine⟨k1,k2,?_⟩;rw[World.putObj_heap_other (by omega)]
  exact k3
theorem ajQ{D:Nat}{x y:Obj}:(w.putObj D x).putObj D y=w.putObj D y:=by
 simp[World.putObj]
theorem mH.put{h:List O}{ds:List Deferred}{D:Nat}{x y:Obj}(hd:mH dB h g ds w)(hh:w.heap[D]?=some x)(hx:∀l,x≠.deferred l):mH dB h g ds (w.putObj D y) where
 at_ d hm:=by
  obtain⟨E,h1,h2,h3,h4⟩:=hd.at_ d hm;refine⟨E,h1,h2,?_,h4⟩;rw[World.putObj_heap_other]
  .exact h3
  .intro he
   subst he;rw[hh]at h3;simp at h3;exact hx _ h3
 nodup:=hd.nodup
 le:=by simpa using hd.le
theorem cm.putObj{D:Nat}{x y:Obj}(hs:cm φ nt m dB s g a w)(hh:w.heap[D]?=some x)(hx:tQ x=false)(hd:∀l,x≠.deferred l)(hy:tQ y=false)(hn:∀k,(aV s.heap k).live=true->g.β k≠D):
  cm φ nt m dB s g a (w.putObj D y) where
 env k:=lI (Ui hh hx hy hn) (hs.env k)
 heap:=Uj hs.heap hh hx hy hn
 size:=hs.size
 defers:=hs.defers.put hh hd
 len:=hs.len
end
end Go.VS
namespace Go.VS
def tR(rc:Loop)(e:Ex):Loop:={rc with state:=if e = .normal then .ready else .done,pending:=wm e}
def tT(P:Program)(φ:fj)(rec:Rec):Prop :=
 ∀(ps:List Nat)(A B:C)(xs:List V)(env:List (Nat×V))(h:List O)(e:Ex)(env':List (Nat×V))(h1:List O),rec (.round ps A B xs env h)=some (.out e env' h1) ->
 ∀(n:Nat)(r:Option Nat)(g:Gh)(w:World)(l:Nat)(rc:Loop)(nt:Nat)(args:List Value),φ.lk ps A B rc.assign rc.body nt->nt<=rc.tmps.size->rc.params=ps.toArray->eU φ h g w ->
  bT φ h g w xs args->C2 φ h g w env rc.tmps->xs.length=ps.length->w.heap[l]?=some (.loop rc)->rc.state = .ready->(∀k,(aV h k).live=true->g.β k≠l) ->
  RoundIn (Wd r) n P l rc.fn ((rc.params.zip args.toArray).foldl (λtmps (t,a)=>tmps.setIfInBounds t a) rc.tmps) rc.assign rc.body w λe' w' =>
   ∃g',e' = .returned (.bool (wm e).isNone)/\eU φ h1 g' w'/\Frame h.length h g (w.putObj l (.loop (tR rc e))) h1 g' w'
section
variable {P:Program}{φ:fj}
variable {nt m dB:Nat}{s:St}{g:Gh}{a:Act}{w:World}{K:Act->World->Prop}{Q:Exit->Act->World->Prop}{o:Oper}
variable {r:Option Nat}{n:Nat}
theorem ajR{rec:Rec}{h:List O}{x:V}{xs:List V}{v2:V}{h2:List O}(hc:oD rec h x xs=some (v2,h2)):∃k ps A B env L e env' h1,x = .jh k/\aV h k = .lp ps A B .normal env/\xs.length=ps.length /\
  cut (h.set k .dead) 0 (V.gu xs++qZ env)=some L/\k∉L/\rec (.round ps A B (V.iI (L.idxOf ·) xs) (yP (L.idxOf ·) env) (sub (h.set k .dead) L))=some (.out e env' h1)/\L.length<=h1.length /\
  v2 = .d (.b (wm e).isNone)/\h2=mL (h.set k (.lp ps A B e env)) L h1:=by
 unfold oD at hc;split at hc<;>try (simp at hc;done)
 rename_i k;split at hc<;>try (simp at hc;done)
 rename_i ps A B env hk;split at hc<;>try (simp at hc;done)
 rename_i hlen;split at hc<;>try (simp at hc;done)
 rename_i L hL;split at hc<;>try (simp at hc;done)
 rename_i hn;split at hc<;>try (simp at hc;done)
 rename_i e env' h1 hr;split at hc<;>try (simp at hc;done)
 rename_i hle;simp only[gw,ur]at hc;refine⟨k,ps,A,B,env,L,e,env',h1,rfl,hk,hlen,hL,hn,hr,hle,?_,?_⟩
 .rw[<-hc.1];cases e<;>rfl
 .rw[<-hc.2];simp[mL]
theorem sub_congr{h h':List O}{L:List Nat}(he:∀n∈L,aV h n=aV h' n):sub h L=sub h' L:=by
 unfold sub;exact vo λn hn=>by rw[he n hn]
theorem ajS{D:Nat}{y:Obj}:jS w (w.putObj D y) D:=⟨by simp,λ_ hk=>World.putObj_heap_other hk,rfl,rfl,rfl⟩
theorem ajT{h:List O}{L:List Nat}{env:List (Nat×V)}{tmps:Array Value}(hl:∀n∈qZ env,n∈L)(hr:C2 φ h g w env tmps):C2 φ (sub h L) (iF g L) w (yP (L.idxOf ·) env) tmps:=by
 intro p hp;simp only[yP,gV]at hp;obtain⟨q,hq,rfl⟩:=hp;exact Fx (λn hn=>hl n (NC hq hn)) (hr q hq)
theorem ajU{h:List O}{L:List Nat}{k:Nat}(hr:eU φ h g w)(hk:k∉L)(hl:(aV h k).live=true):∀j,(aV (sub (h.set k .dead) L) j).live=true->(iF g L).β j≠g.β k:=by
 intro j hj hb;by_cases hlt:j<L.length
 .have hg:L[j]?=some L[j]:=by simp[hlt]
  have hne:L[j]≠k:=λhe=>hk (he▸vq hlt)
  rw[mK hg,wN,pZ hne]at hj;simp only[iF,List.getD,hg,vB]at hb;exact hne (hr.inj _ _ hj hl hb)
 .rw[Fw (by omega)]at hj;simp[O.live]at hj
theorem ajV{rec:Rec}(hy:tT P φ rec)(hs:cm φ nt m dB s g a w){d:Option Nat}{x:A}{xs:List A}(hc:cL P φ nt o (.pK d x xs)=true)(hok:(aU rec (.pK d x xs) s).ok=true)
  (hK:eu φ nt m dB s g w (aU rec (.pK d x xs) s) o a K):o.wpIn (Wd r) n P a w K Q:=by
 have hdf:=ajN hc (by simp)
 simp only[cL,bJ]at hc;obtain⟨hd,h⟩:=hc;split at h
 .rename_i c ho
  split at h
  .rename_i y iu
   simp only[bJ]at h;obtain⟨hx,hxs⟩:=h;simp only[aU]at hok hK;have rx:=eE hs hx;have yc:=wE hs hxs;obtain⟨⟨v2,h2⟩,hv⟩:=xC hok;rw[hv]at hK;obtain⟨k,ps,A,B,env,L,e,env',h1,hxk,hk,hlen,hL,hkL,gT,hle,rfl,rfl⟩:=ajR hv;rw[hxk]at rx;simp only[aI]at rx;have rO:=rx.2.2 (by rw[hk];rfl)
   have hl:(aV s.heap k).live=true:=by rw[hk];rfl
   have dD:=hs.heap.obj k;rw[hk]at dD;obtain⟨rc,yl,hb,hps,hlk,hnt,NR,hst,Bq,hI⟩:=dD;simp only[dF]at hst;have hal:(c.args.toList.map a.eval).length=ps.length:=by
    rw[<-oP yc];exact hlen
   refine⟨λ_ _=>trivial,?_⟩
   rw[Oper.semAt_eq _ _ _ hdf];have hyd:=run_yield (P:=P) hb (args:=c.args.map a.eval) (by rw[hps];simpa using hal)
   have hrun:(execOp a.eval o).run P w = .ok (.round (g.β k) rc.fn ((rc.params.zip (c.args.map a.eval)).foldl (λtmps (t,a)=>tmps.setIfInBounds t a) rc.tmps) rc.assign rc.body) w:=by
    simp[execOp,ho,resolve,iu,rO,Deferred.ofValue,invoke,hyd]
   rw[hrun,Oper.uponIn_round];refine⟨NP,?_⟩;obtain⟨hnd,yh,bN,_,_⟩:=Dj hL;obtain⟨kS,kF,kle⟩:=hs.kill hl s.ok;have ajW:=hy ps A B _ _ _ e env' h1 gT (n - 1) r (iF g L) w (g.β k) rc yl (c.args.toList.map a.eval) hlk hnt hps (Fy hL kS.heap)
    (yg (λn hn=>yh n (DZ _ hn)) (x6 kle yc)) (ajT (λn hn=>yh n (Gw _ hn)) (Ti kle NR))
    (by rw[IE];exact hlen) hb hst (ajU hs.heap hkL hl)
   have hargs:(c.args.toList.map a.eval).toArray=c.args.map a.eval:=by rw[<-Array.toList_map]
   rw[hargs]at ajW;refine RoundIn.mono ajW λe' w' hh=>?_
   obtain⟨g1,rfl,rN,hfr⟩:=hh;have ht:jS w (w.putObj (g.β k) (.loop (tR rc e))) (g.β k):=ajS;have hE:Ext g.I w g.I (w.putObj (g.β k) (.loop (tR rc e))):=Uh hb rfl rfl;have jT:gS s.heap g w (s.heap.set k (.lp ps A B e env)) (g.dZ g.I) (w.putObj (g.β k) (.loop (tR rc e))):=
    wu hs.heap hl ht hE (λes he=>by simp[O.gM]at he) (λkv hk=>by simp at hk) (λ_=>by rw[hk];rfl)
   have hH:eU φ (s.heap.set k (.lp ps A B e env)) (g.dZ g.I) (w.putObj (g.β k) (.loop (tR rc e))):=
    wx hs.heap hl ht jT (λ_ _=>rfl) ⟨tR rc e,yl,World.putObj_heap_same (Bc hb),hps,hlk,hnt,Ti jT NR,rfl,rfl,hI⟩
   have p8:=wy (m:=m) (.lp ps A B e env) hl ht hE (λ_ _=>rfl) jT
   have hsub:sub (s.heap.set k .dead) L=sub (s.heap.set k (.lp ps A B e env)) L:=sub_congr λn hn=>by
    have hne:n≠k:=λhe=>hkL (he▸hn)
    rw[pZ hne,pZ hne]
   rw[hsub,yf]at hfr;have M:jU φ (s.heap.set k (.lp ps A B e env)) L g (w.putObj (g.β k) (.loop (tR rc e))) h1 g1 w':=⟨hH,hnd,λn hn=>by simpa using(bN n hn).1,hle,rN,hfr⟩
   have hlen':m<=(s.heap.set k (.lp ps A B e env)).length:=by simpa using hs.len
   have hF:=p8.trans (M.frame hlen');have hS:∀ok,cm φ nt m dB ⟨s.env,mL (s.heap.set k (.lp ps A B e env)) L h1,ok⟩ (jH (s.heap.set k (.lp ps A B e env)) L g g1) a w':=λok =>
    ⟨λj=>lI (jT.trans M.hle) (hs.env j),M.fX,hs.size,hs.defers.frame hF,nh hlen' M.hle.len⟩
   obtain⟨e1,e2⟩:=De hd;refine hK (jH (s.heap.set k (.lp ps A B e env)) L g g1) (.bool (wm e).isNone) w' ?_ ?_
   .rw[e1]
    cases d with
    |none=>exact hS _
    |some d=>exact(hS s.ok).wF (e2 d rfl) (by simp[aI,bR])
   .cases d with
    |none=>exact hF
    |some d=>exact hF
  .simp at h
 .simp at h
theorem ajX{rec:Rec}(hq:l7 P φ rec)(hy:tT P φ rec)(hs:cm φ nt m dB s g a w){i:I}(hc:cL P φ nt o i=true)(hok:(aU rec i s).ok=true)
  (hK:eu φ nt m dB s g w (aU rec i s) o a K):o.wpIn (Wd r) n P a w K Q:=by
 by_cases hi:i.NO=true
 .cases i<;>simp[I.NO]at hi
  exact ajV hy hs hc hok hK
 .refine ajM (ajN hc λd he=>?_) (ajJ hq hs hc (by simpa using hi) hok hK)
  subst he;simp[aU,St.fail]at hok
end
end Go.VS
namespace Go.VS
def I.reads:I->List A
 | .mv _ x=>[x]
 | .pick _ c a b=>[c,a,b]
 | .box _ x _ _=>[x]
 | .new ..=>[]
 | .build _ _ ps=>ps.map λp=>p.2.2
 | .lf _ _ _ _ ps _=>ps.map λp=>p.2
 | .ld _ x _ _=>[x]
 | .st x y _ _=>[x,y]
 | .fa _ x _ _=>[x]
 | .ji _ x i _=>[x,i]
 | .oB _ x i _ _=>[x,i]
 | .rY _ x _ _ _=>[x]
 | .bin _ _ x y=>[x,y]
 | .eqv _ _ x y _=>[x,y]
 | .rZ _ _ x y=>[x,y]
 | .qo _ _ x _=>[x]
 | .un _ _ x=>[x]
 | .kB _ _ x=>[x]
 | .len _ x _=>[x]
 | .sl _ x lo hi _ | .sle _ x lo hi _=>x::(lo.toList++hi.toList)
 | .app _ x y _=>[x,y]
 | .qp _ x _ _=>[x]
 | .copy _ x y _=>[x,y]
 | .ext _ x _=>[x]
 | .gY _ _ a b=>a++b
 | .mw _=>[]
 | .fA m k v _=>[m,k,v]
 | .pG _ m k _ _ _=>[m,k]
 | .call _ _ xs=>xs
 | .mP _ _ xs=>xs
 | .jd _ _ xs=>xs
 | .nR _ x xs=>x::xs
 | .pI _ x xs=>x::xs
 | .sX _ x=>[x]
 | .qW _ x lo hi mz _=>[x,lo,hi,mz]
 | .cap _ x=>[x]
 | .qX _ x k _ _=>[x,k]
 | .qY _ _ x y _=>[x,y]
 | .bad _=>[]
 | .sj _ x _ _=>[x]
 | .pJ _ x _ _=>[x]
 | .pK _ x xs=>x::xs
 | .sk _ x y _=>[x,y]
 | .nq _ _ xs=>xs
 | .calls _ _ xs=>xs
 | .nr _ _ x=>[x]
 | .inv _ _ _ x xs=>x::xs
 | .mx _ x y=>[x,y]
 | .vF _ _ _ n k=>[n,k]
def I.quiet:I->Bool
 | .mv .. | .pick .. | .build .. | .ld .. | .fa .. | .ji .. | .oB .. | .rY .. | .bin .. | .eqv .. | .rZ .. | .qo .. | .un .. | .kB .. | .len .. | .sl .. | .ext .. | .gY .. | .pG ..
 | .call .. | .nR .. | .sX .. | .qW .. | .cap .. | .qY .. | .sj .. | .pJ .. | .calls .. | .nr .. | .inv .. | .mx ..=>true
 | .box _ _ _ fz=>fz
 | .lf _ _ _ _ _ fz=>fz
 |_=>false
def I.blind:I->Bool
 | .mv .. | .pick .. | .build .. | .rY .. | .bin .. | .eqv .. | .rZ .. | .un .. | .kB .. | .ext .. | .gY .. | .call .. | .nR .. | .sX .. | .sj .. | .pJ .. | .nr .. | .inv .. | .mx ..=>true
 | .box _ _ _ fz=>fz
 | .lf _ _ _ _ _ fz=>fz
 |_=>false
def W(d:Option Nat)(v:V):List (Nat×V):=
 match d with
 |some d=>[(d,v)]
 |none=>[]
def Alike(q:Bool)(d:Option Nat)(s s' r r':St):Prop :=
 r.ok=true->s'.ok=true->r'.ok=true/\∃v,r.env=W d v++s.env/\r'.env=W d v++s'.env/\((r.heap=s.heap/\r'.heap=s'.heap)\/(q=false/\r.heap=r'.heap))
section
variable {q:Bool}{s s':St}
theorem Alike.put{d:Nat}{v:V}:Alike q (some d) s s' (s.put d v) (s'.put d v):=λ_ h'=>⟨h',v,rfl,rfl,.inl ⟨rfl,rfl⟩⟩
theorem Alike.eJ{d:Nat}{o:Option V}:Alike q (some d) s s' (s.eJ d o) (s'.eJ d o):=by
 cases o with
 |none=>intro h;simp[St.eJ,St.fail]at h
 |some v=>exact Alike.put
theorem Alike.fail{d:Option Nat}{r:St}:Alike q d s s' s.fail r:=λh=>by simp[St.fail]at h
theorem Alike.skip{r:St}(hr:r=s'):Alike q none s s' s r:=by subst hr;exact λ_ h'=>⟨h',.u,rfl,rfl,.inl ⟨rfl,rfl⟩⟩
theorem Alike.gh{d:Nat}{o:Option (V×List O)}:Alike false (some d) s s' (s.gh d o) (s'.gh d o):=by
 cases o with
 |none=>intro h;simp[St.gh,St.fail]at h
 |some p=>exact λ_ h'=>⟨h',p.1,rfl,rfl,.inr ⟨rfl,rfl⟩⟩
theorem Alike.lq{d:Option Nat}{o:Option (V×List O)}:Alike false d s s' (s.lq d o) (s'.lq d o):=by
 cases o with
 |none=>intro h;simp[St.lq,St.fail]at h
 |some p =>
  cases d with
  |none=>exact λ_ h'=>⟨h',.u,rfl,rfl,.inr ⟨rfl,rfl⟩⟩
  |some d=>exact λ_ h'=>⟨h',p.1,rfl,rfl,.inr ⟨rfl,rfl⟩⟩
theorem Alike.mQ{d:Option Nat}{o:Option V}:Alike q d s s' (s.mQ d o) (s'.mQ d o):=by
 cases o with
 |none=>intro h;simp[St.mQ,St.fail]at h
 |some v =>
  cases d with
  |none=>exact λ_ h'=>⟨h',.u,rfl,rfl,.inl ⟨rfl,rfl⟩⟩
  |some d=>exact λ_ h'=>⟨h',v,rfl,rfl,.inl ⟨rfl,rfl⟩⟩
theorem Alike.so{o:Option (List O)}:Alike false none s s' (s.so o) (s'.so o):=by
 cases o with
 |none=>intro h;simp[St.so,St.fail]at h
 |some h=>exact λ_ h'=>⟨h',.u,rfl,rfl,.inr ⟨rfl,rfl⟩⟩
end
theorem wQ{s s':St}{xs:List A}(h:∀x∈xs,s.get x=s'.get x):xs.map s'.get=xs.map s.get:=vo λx hx=>(h x hx).symm
theorem NS{s s':St}{dflt:Int}{x:Option A}(h:∀a∈x.toList,s.get a=s'.get a):uw s' dflt x=uw s dflt x:=by
 cases x with
 |none=>rfl
 |some a=>simp[uw,h a (by simp)]
theorem NT{rec:Rec}{i:I}{s s':St}(h:∀x∈i.reads,s.get x=s'.get x)(hh:s.heap=s'.heap\/i.blind=true):Alike i.quiet i.wr s s' (aU rec i s) (aU rec i s'):=by
 cases i with
 |box d x n fz =>
  have hx:=h x (by simp[I.reads])
  simp only[aU,<-hx];split
  .cases fz with
   |true=>exact Alike.put
   |false=>simp[I.blind]at hh;simp only[<-hh,I.quiet,eI,dI];exact Alike.gh
  .exact Alike.fail
 |lf d es n z ps fz =>
  have hx:(ps.map λp=>(p.1,s'.get p.2))=ps.map λp=>(p.1,s.get p.2):=vo λp hp=>by rw[h p.2 (by simp only[I.reads];exact gV.2 ⟨p,hp,rfl⟩)]
  simp only[aU,hx];cases fz with
  |true=>exact Alike.eJ
  |false=>simp[I.blind]at hh;simp only[<-hh,I.quiet,eI,dI];exact Alike.gh
 |build d z ps =>
  have hx:(ps.map λp=>(p.1,p.2.1,s'.get p.2.2))=ps.map λp=>(p.1,p.2.1,s.get p.2.2):=vo λp hp=>by rw[h p.2.2 (by simp only[I.reads];exact gV.2 ⟨p,hp,rfl⟩)]
  simp only[aU,hx];exact Alike.eJ
 |st x y n fz =>
  have hx:=h x (by simp[I.reads])
  have hy:=h y (by simp[I.reads])
  simp[I.blind]at hh;simp only[aU,<-hx,<-hy,<-hh,I.quiet];cases fz with
  |false =>
   have:(I.st x y n false).wr=none:=by cases x<;>rfl
   rw[this];exact Alike.so
  |true =>
   cases x with
   |k z=>simp only[dF];exact Alike.fail
   |t d =>
    simp only[dF,I.wr];generalize s.get (.t d)=v;cases v with
    |loc m r c =>
     cases r with
     |succ r=>exact Alike.fail
     |zero =>
      cases c with
      |succ c=>exact Alike.fail
      |zero =>
       simp only;split
       .split
        .exact Alike.gh
        .exact Alike.fail
       .exact Alike.fail
    |_=>exact Alike.fail
 |pick d c a b =>
  have hc:=h c (by simp[I.reads]);have ha:=h a (by simp[I.reads]);have hb:=h b (by simp[I.reads])
  simp only[aU,<-hc,<-ha,<-hb];split
  .exact Alike.put
  .exact Alike.fail
 |sX d x =>
  have hx:=h x (by simp[I.reads])
  simp only[aU,<-hx];split<;>first |exact Alike.put |exact Alike.fail
 |gY d f a b =>
  have ha:=wQ (xs:=a) (λx hx=>h x (by simp[I.reads,hx]))
  have hb:=wQ (xs:=b) (λx hx=>h x (by simp[I.reads,hx]))
  simp only[aU,ha,hb];split<;>exact Alike.put
 |call d f xs =>
  simp only[aU,wQ (xs:=xs) h];exact Alike.mQ
 |nR d x xs =>
  have hx:=h x (by simp[I.reads])
  simp only[aU,<-hx,wQ (xs:=xs) (λy hy=>h y (by simp[I.reads,hy]))]
  exact Alike.mQ
 |inv d nm j4 x xs =>
  have hx:=h x (by simp[I.reads])
  simp only[aU,<-hx,wQ (xs:=xs) (λy hy=>h y (by simp[I.reads,hy]))]
  exact Alike.mQ
 |nr d t x=>have hx:=h x (by simp[I.reads]);simp only[aU,<-hx];exact Alike.eJ
 |mx d x y=>have hx:=h x (by simp[I.reads]);have hy:=h y (by simp[I.reads]);simp only[aU,<-hx,<-hy];exact Alike.eJ
 |mP d f xs =>
  simp[I.blind]at hh;simp only[aU,wQ (xs:=xs) h,<-hh];exact Alike.lq
 |jd d f xs =>
  simp[I.blind]at hh;simp only[aU,wQ (xs:=xs) h,<-hh];exact Alike.lq
 |pI d x xs =>
  have hx:=h x (by simp[I.reads])
  simp[I.blind]at hh;simp only[aU,<-hx,wQ (xs:=xs) (λy hy=>h y (by simp[I.reads,hy])),<-hh]
  exact Alike.lq
 |sk d x y es =>
  have hx:=h x (by simp[I.reads]);have hy:=h y (by simp[I.reads])
  simp[I.blind]at hh;simp only[aU,<-hx,<-hy,<-hh];exact Alike.gh
 |nq d f xs =>
  simp[I.blind]at hh;simp only[aU,wQ (xs:=xs) h,<-hh];exact Alike.gh
 |calls d f xs =>
  simp[I.blind]at hh;simp only[aU,wQ (xs:=xs) h,<-hh];exact Alike.mQ
 |pK d x xs =>
  have hx:=h x (by simp[I.reads])
  simp[I.blind]at hh;simp only[aU,<-hx,wQ (xs:=xs) (λy hy=>h y (by simp[I.reads,hy])),<-hh]
  exact Alike.lq
 |sl d x lo hi es =>
  have hx:=h x (by simp[I.reads])
  simp[I.blind]at hh;simp only[aU,<-hx,<-hh,NS (s:=s) (s':=s') (x:=lo) (λa ha=>h a (by simp only[I.reads];simp at ha;simp[ha])),NS (s:=s) (s':=s') (x:=hi) (λa ha=>h a (by simp only[I.reads];simp at ha;simp[ha]))]
  exact Alike.eJ
 |sle d x lo hi es =>
  have hx:=h x (by simp[I.reads])
  simp[I.blind]at hh;simp only[aU,<-hx,<-hh,NS (s:=s) (s':=s') (x:=lo) (λa ha=>h a (by simp only[I.reads];simp at ha;simp[ha])),NS (s:=s) (s':=s') (x:=hi) (λa ha=>h a (by simp only[I.reads];simp at ha;simp[ha]))]
  exact Alike.gh
 |new d z=>simp[I.blind]at hh;simp only[aU,<-hh];exact Alike.gh
 |mw d=>simp[I.blind]at hh;simp only[aU,<-hh];exact Alike.gh
 |app d x y es =>
  have hx:=h x (by simp[I.reads]);have hy:=h y (by simp[I.reads])
  simp[I.blind]at hh;simp only[aU,<-hx,<-hy,<-hh];exact Alike.gh
 |copy d x y es =>
  have hx:=h x (by simp[I.reads]);have hy:=h y (by simp[I.reads])
  simp[I.blind]at hh;simp only[aU,<-hx,<-hy,<-hh];exact Alike.lq
 |qp d x es z =>
  have hx:=h x (by simp[I.reads])
  simp[I.blind]at hh;simp only[aU,<-hx,<-hh];exact Alike.lq
 |fA a b c ks =>
  have ha:=h a (by simp[I.reads]);have hb:=h b (by simp[I.reads]);have hc:=h c (by simp[I.reads])
  simp[I.blind]at hh;simp only[aU,<-ha,<-hb,<-hc,<-hh];exact Alike.so
 |pG d a b z ok ks =>
  have ha:=h a (by simp[I.reads]);have hb:=h b (by simp[I.reads])
  simp[I.blind]at hh;simp only[aU,<-ha,<-hb,<-hh];exact Alike.eJ
 |ji d a b es =>
  have ha:=h a (by simp[I.reads]);have hb:=h b (by simp[I.reads])
  simp[I.blind]at hh;simp only[aU,<-ha,<-hb,<-hh];exact Alike.eJ
 |oB d a b es =>
  have ha:=h a (by simp[I.reads]);have hb:=h b (by simp[I.reads])
  simp[I.blind]at hh;simp only[aU,<-ha,<-hb,<-hh];exact Alike.eJ
 |bin d op a b =>
  have ha:=h a (by simp[I.reads]);have hb:=h b (by simp[I.reads])
  simp only[aU,<-ha,<-hb];exact Alike.eJ
 |eqv d neg a b ks =>
  have ha:=h a (by simp[I.reads]);have hb:=h b (by simp[I.reads])
  simp only[aU,<-ha,<-hb];exact Alike.eJ
 |rZ d neg a b =>
  have ha:=h a (by simp[I.reads]);have hb:=h b (by simp[I.reads])
  simp only[aU,<-ha,<-hb];exact Alike.eJ
 |ld d x n ag=>have hx:=h x (by simp[I.reads]);simp[I.blind]at hh;simp only[aU,<-hx,<-hh];exact Alike.eJ
 |fa d x n ag=>have hx:=h x (by simp[I.reads]);simp[I.blind]at hh;simp only[aU,<-hx,<-hh];exact Alike.eJ
 |qo d neg x k=>have hx:=h x (by simp[I.reads]);simp[I.blind]at hh;simp only[aU,<-hx,<-hh];exact Alike.eJ
 |len d x k=>have hx:=h x (by simp[I.reads]);simp[I.blind]at hh;simp only[aU,<-hx,<-hh];exact Alike.eJ
 |rY d x n k ag=>have hx:=h x (by simp[I.reads]);simp only[aU,<-hx];exact Alike.eJ
 |un d op x=>have hx:=h x (by simp[I.reads]);simp only[aU,<-hx];exact Alike.eJ
 |kB d k x=>have hx:=h x (by simp[I.reads]);simp only[aU,<-hx];exact Alike.eJ
 |ext d x i=>have hx:=h x (by simp[I.reads]);simp only[aU,<-hx];exact Alike.eJ
 |qW d x lo hi mz es =>
  have hx:=h x (by simp[I.reads]);have hl:=h lo (by simp[I.reads]);have hi:=h hi (by simp[I.reads]);have hm:=h mz (by simp[I.reads])
  simp[I.blind]at hh;simp only[aU,<-hx,<-hl,<-hi,<-hm,<-hh];exact Alike.eJ
 |cap d x=>have hx:=h x (by simp[I.reads]);simp[I.blind]at hh;simp only[aU,<-hx,<-hh];exact Alike.eJ
 |qX d x k es z =>
  have hx:=h x (by simp[I.reads]);have hk:=h k (by simp[I.reads])
  simp[I.blind]at hh;simp only[aU,<-hx,<-hk,<-hh];exact Alike.gh
 |vF d es z n k =>
  have hx:=h n (by simp[I.reads]);have hk:=h k (by simp[I.reads])
  simp[I.blind]at hh;simp only[aU,<-hx,<-hk,<-hh];exact Alike.gh
 |qY d f x y es =>
  have hx:=h x (by simp[I.reads]);have hy:=h y (by simp[I.reads])
  simp[I.blind]at hh;simp only[aU,<-hx,<-hy,<-hh];exact Alike.eJ
 |bad d=>exact Alike.fail
 |sj d x n ag=>have hx:=h x (by simp[I.reads]);simp only[aU,<-hx];exact Alike.eJ
 |pJ d x n ag=>have hx:=h x (by simp[I.reads]);simp only[aU,<-hx];exact Alike.eJ
 |mv d x=>have hx:=h x (by simp[I.reads]);simp only[aU,<-hx];exact Alike.put
end Go.VS
