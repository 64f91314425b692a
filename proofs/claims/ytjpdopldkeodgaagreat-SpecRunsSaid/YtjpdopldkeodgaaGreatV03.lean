import Derived.Test.YtjpdopldkeodgaaGreatV02
import GoSem.Builtin.Copy
import GoSem.Builtin.Clear
import Derived.Laws.Externs
import Derived.KernelRfl
import Derived.Test.YtjpdopldkeodgaaGreatV01
import Derived.MapKept
import Derived.Laws.MakeOwn
import Derived.RangeFuncRecord
import Derived.OrdersIn
import Derived.TacticsIn
import Derived.Scope
import Derived.Test.YtjpdopldkeodgaaGreatV00
set_option linter.all false
set_option maxHeartbeats 1000000
namespace Go.VS
section
variable {P:Program}{φ:fy}
variable {nt m dB:Nat}{s:St}{g:Gh}{a:Act}{w:World}{K:Act->World->Prop}{Q:Exit->Act->World->Prop}{o:Oper}
theorem aiy(hs:cm φ nt m dB s g a w){rec:Rec}{d:Nat}{x:A}(hc:cN P φ nt o (.sV d x)=true)(hok:(aR rec (.sV d x) s).ok=true)
  (hK:eG φ nt m dB s g w (aR rec (.sV d x) s) o a K):o.wp P a w K Q:=by
 simp only[cN,bE]at hc;obtain⟨hd,h⟩:=hc;split at h
 .rename_i y ho
  have rx:=eY hs h;simp only[aR]at hok hK;split at hK
  .rename_i cs hv
   rw[hv]at rx;have rx':=rx;simp only[aJ,bQ]at rx';obtain⟨b,off,he,_⟩:=rx';exact uW hs hd (v':=a.eval y) (by simp[execOp,ho,he]) rx hK
  .rename_i cs hv
   rw[hv]at rx;have rx':=rx;simp only[aJ]at rx';obtain⟨b,off,us,he,_⟩:=rx';exact uW hs hd (v':=a.eval y) (by simp[execOp,ho,he]) rx hK
  .rename_i n r c hv
   rw[hv]at rx;have rx':=rx;simp only[aJ]at rx';obtain⟨h1,h2,h3⟩:=rx';cases jx:a.eval y with
   |pointer ad =>
    cases ad with
    |some ad=>rw[jx]at rx;exact uW hs hd (v':=.pointer (some ad)) (by simp[execOp,ho,jx]) rx hK
    |none=>rw[jx]at h2;simp[Iu]at h2
   |_=>rw[jx]at h2;simp[Iu]at h2
  .rename_i t v hv
   rw[hv]at rx;have rx':=rx;simp only[aJ,bQ]at rx';obtain⟨y',he,_⟩:=rx';exact uW hs hd (v':=a.eval y) (by simp[execOp,ho,he]) rx hK
  .rename_i h1 h2 h3
   exfalso;revert hok;split<;>simp_all[St.fail]
 .simp at h
theorem ZU{t:TypeId}{n off:Nat}{ag:Bool}(lJ:wA P t ag=true)(hn:jw P t n=true){A:Array Value}{v':Value}
  (hv:if ag then n<=(A.toList.drop off).length/\v' = .agg ((A.toList.drop off).take n).toArray else(A.toList.drop off).head?=some v'):(part t A off).run P w = .ok v' w:=by
 have h1:=Nu (P:=P) (w:=w) lJ;have h2:=wJ (P:=P) (w:=w) hn;cases ag
 .simp only[eR,dG,List.head?_drop]at hv
  have:A[off]?=some v':=by simpa using hv
  simp[part,h1,this]
 .simp only[dH]at hv
  have he:A.extract off (off+n)=((A.toList.drop off).take n).toArray:=by
   rw[<-Array.toList_inj];simp only[Array.toList_extract,List.extract_eq_take_drop];congr 1;omega
  simp[part,h1,h2,he,hv.2]
theorem aiz(hs:cm φ nt m dB s g a w){rec:Rec}{d off n:Nat}{ag:Bool}{x:A}(hc:cN P φ nt o (.sj d x off n ag)=true)(hok:(aR rec (.sj d x off n ag) s).ok=true)
  (hK:eG φ nt m dB s g w (aR rec (.sj d x off n ag) s) o a K):o.wp P a w K Q:=by
 simp only[cN,bE]at hc;obtain⟨hd,h⟩:=hc;split at h
 .rename_i t y k ho
  simp only[bE]at h;obtain⟨hx,h⟩:=h;split at h
  .rename_i fs hfs
   split at h
   .rename_i f hf
    simp only[bE,dM]at h;obtain⟨⟨rfl,hn⟩,lJ⟩:=h;have rx:=eY hs hx;simp only[aR]at hok hK;refine mX hs hd hok (λv hv=>?_) hK
    have fin:∀{A:Array Value}{cs:List V},a.eval y = .agg A->bR φ s.heap g w cs A.toList->(∀u∈A.toList,u.oneCell'=true)->pack n ag (cs.drop f.offset)=some v ->
      ∃v',(execOp a.eval o).run P w = .ok (.value v') w/\aJ φ s.heap g w v v':=by
     intro A cs he hr h1 hp;obtain⟨v',h2,h3⟩:=IA (Iw hr f.offset) (λu hu=>h1 u (mN hu)) hp
     have:=ZU (P:=P) (w:=w) (off:=f.offset) (A:=A) lJ hn h2;exact⟨v',by simp[execOp,ho,Instr.field,run_underlying hfs,hf,he,asAgg,this],h3⟩
    unfold Kt at hv;split at hv
    .rename_i cs fX
     rw[fX]at rx;simp only[aJ,bQ]at rx;obtain⟨A,he,hr,h1⟩:=rx;exact fin he (zA hr) h1 hv
    .rename_i cs fX
     rw[fX]at rx;simp only[aJ]at rx;obtain⟨A,he,hr,h1⟩:=rx;exact fin he hr h1 hv
    .simp at hv
   .simp at h
  .simp at h
 .simp at h
theorem aiA{cap len l h mx:Nat}{k1 k2 k3:IntKind}(h1:l<=h)(h2:h<=mx)(h3:mx<=cap):
  (Instr.sliceBounds true len cap (some (.int k1 l)) (some (.int k2 h)) (some (.int k3 mx))).run P w = .ok (l,h,mx) w:=by
 have a1:¬((mx:Int)<0):=by omega
 have a2:¬((cap:Int)<mx):=by omega
 have a3:¬((h:Int)<0):=by omega
 have a4:¬((mx:Int)<h):=by omega
 have a5:¬((l:Int)<0):=by omega
 have a6:¬((h:Int)<l):=by omega
 simp[Instr.sliceBounds,Instr.sliceBound,asIntOf,h1,h2,h3]
theorem aiB(hs:cm φ nt m dB s g a w){rec:Rec}{d es:Nat}{x lo hi mx:A}(hc:cN P φ nt o (.qQ d x lo hi mx es)=true)(hok:(aR rec (.qQ d x lo hi mx es) s).ok=true)
  (hK:eG φ nt m dB s g w (aR rec (.qQ d x lo hi mx es) s) o a K):o.wp P a w K Q:=by
 simp only[cN,bE]at hc;obtain⟨hd,h⟩:=hc;split at h
 .rename_i t y lo' hi' YS ho
  simp only[bE]at h;obtain⟨⟨⟨⟨hx,hlo⟩,hhi⟩,yq⟩,ht⟩:=h;split at ht
  .rename_i e hu
   have rx:=eY hs hx;simp only[aR]at hok hK;refine mX hs hd hok (λv hv=>?_) hK
   have num:∀{z:A}{z':Operand}{n:Int},dP φ z' z=true->asInt (s.get z)=some n->∃k,a.eval z' = .int k n:=by
    intro z z' n hz hn;have hr:=eY hs hz;cases hv:s.get z with
    |d q =>
     rw[hv]at hn hr;cases q with
     |i k q=>simp[asInt]at hn;subst hn;exact⟨k,nD (by simpa only[aJ]using hr)⟩
     |_=>simp[asInt]at hn
    |_=>rw[hv]at hn;simp[asInt]at hn
   unfold Ks at hv;split at hv
   .rename_i l hh q hl II hq
    obtain⟨k1,e1⟩:=num hlo hl;obtain⟨k2,e2⟩:=num hhi II;obtain⟨k3,e3⟩:=num yq hq;have fin:∀{ad:Option Addr}{len cap:Nat},a.eval y = .slice ad len cap->0<=l->l<=hh->hh<=q->q<=cap->v = .u ->
      ∃v',(execOp a.eval o).run P w = .ok (.value v') w/\aJ φ s.heap g w v v':=by
     intro ad len cap he h0 h1 h2 h3 hvu;subst hvu;have hb:=aiA (P:=P) (w:=w) (cap:=cap) (len:=len) (l:=l.toNat) (h:=hh.toNat) (mx:=q.toNat) (k1:=k1) (k2:=k2) (k3:=k3) (by omega) (by omega) (by omega)
     have i1:(l.toNat:Int)=l:=by omega
     have i2:(hh.toNat:Int)=hh:=by omega
     have i3:(q.toNat:Int)=q:=by omega
     rw[i1,i2,i3]at hb;have hsz:=wJ (P:=P) (w:=w) ht;refine⟨_,by simp[execOp,ho,he,e1,e2,e3,Instr.sliceAt,Instr.slice,run_underlying hu,hb,hsz];rfl,by simp[aJ]⟩
    split at hv
    .rename_i e' nl xs hp
     rw[hp]at rx;simp only[aJ,bQ]at rx;obtain⟨ad,cap,he,hlc,_⟩:=rx;split at hv
     .rename_i dX
      simp only[gz]at hv;exact fin he dX.2.1 dX.2.2.1 dX.2.2.2.1 (by omega) hv.symm
     .simp at hv
    .rename_i n off len hp
     rw[hp]at rx;simp only[aJ]at rx;split at hv
     .rename_i dX
      simp only[gz]at hv;obtain⟨es',he'⟩:=Fv dX.1;obtain⟨cap,he,hlc,_⟩:=rx.2.2 es' he';exact fin he dX.2.1 dX.2.2.1 dX.2.2.2.1 (by omega) hv.symm
     .simp at hv
    .rename_i e' hp
     rw[hp]at rx;simp only[aJ]at rx;obtain⟨ad,he⟩:=rx;split at hv
     .rename_i dX
      simp only[gz]at hv;obtain⟨_,rfl,rfl,rfl⟩:=dX;exact fin he (by omega) (by omega) (by omega) (by simp) hv.symm
     .simp at hv
    .simp at hv
   .simp at hv
  .simp at ht
 .simp at h
theorem ZV(hs:cm φ nt m dB s g a w){n p es:Nat}{rows ys:List (List D)}{news:List Value}{CS:Array Value}{T:TypeId}{ok:Bool}(hn:aU s.heap n = .aG es true rows)
  (hb:w.heap[g.β n]?=some (.cells CS T (0,0)))(oU:g.o n+es*rows.length<=CS.size)
  (dV:jG φ g.I w (g.β n) es (g.o n) rows)(hI:g.I (g.β n)<=g.o n)(hrd:cy φ g.I w ys.flatten news)(hone:∀u∈news,u.oneCell'=true)(hrl:∀r∈ys,r.length=es)(nG:news.length=ys.length*es)
  (hin:p+ys.length<=rows.length):
  (storeCells ⟨g.β n,g.o n+p*es,none⟩ news).run P w = .ok () (w.setRow (g.β n) (aq CS.toList (g.o n+p*es) news).toArray) /\
  cm φ nt m dB ⟨s.env,s.heap.set n (.aG es true (aq rows p ys)),ok⟩ g a (w.setRow (g.β n) (aq CS.toList (g.o n+p*es) news).toArray) /\
  Frame m s.heap g w (s.heap.set n (.aG es true (aq rows p ys))) g (w.setRow (g.β n) (aq CS.toList (g.o n+p*es) news).toArray):=by
 have hl:(aU s.heap n).live=true:=by rw[hn];rfl
 have hmul:(p+ys.length)*es<=rows.length*es:=lU es hin;rw[nh]at hmul;have Zs:es*rows.length=rows.length*es:=ji _ _;have oX:g.o n+p*es+news.length<=CS.size:=by omega
 have hst:=run_storeCells_at P (g.β n) (g.o n+p*es) T news 0 CS w hb (by simpa using oX) hone
 simp only[GQ]at hst;obtain⟨ht,hw'⟩:=Nx (cs:=(aq CS.toList (g.o n+p*es) news).toArray) hb;have hE:Ext g.I w g.I (w.setRow (g.β n) (aq CS.toList (g.o n+p*es) news).toArray):=IF ht hb oX hw' (by omega) (λ_=>gj _)
 have hsize:(aq CS.toList (g.o n+p*es) news).toArray.size=CS.size:=by
  have:=Br (cs:=CS.toList) (new:=news) (o:=g.o n+p*es) (by simpa using oX)
  simpa using this
 have yj:(aq rows p ys).length=rows.length:=Br hin;have hle:=wv (x:=.aG es true (aq rows p ys)) hs.heap hl ht hE
  (λes' he'=>⟨by rw[hn];simpa[O.gL]using he',by rw[hn];simp only[O.len,yj],λrI T' hc=>by
   rw[hb]at hc;simp at hc;obtain⟨rfl,rfl⟩:=hc;exact⟨_,_,hw',by rw[hsize];exact gj _,λh=>h.Bs hone⟩⟩) (λkv hk=>by simp at hk)
 have hH:=wx (x:=.aG es true (aq rows p ys)) hs.heap hl ht hle (λ_ _=>rfl)
  ⟨⟨_,T,hw',by rw[hsize,yj];exact oU⟩,Zq dV hE hrd hone hrl hin hb oU hw',by simpa[Gh.eo]using hI⟩
 exact⟨hst,hs.yd hl ht hle hH,wy _ hl ht hE (λ_ _=>rfl) hle⟩
theorem ZW{d:Option Nat}(hd:pT nt o d=true){v:V}{v':Value}{hh:List O}{w':World}(hrun:(execOp a.eval o).run P w = .ok (.value v') w')(hS:cm φ nt m dB ⟨s.env,hh,s.ok⟩ g a w')(hF:Frame m s.heap g w hh g w')
  (hv:aJ φ hh g w' v v')(hK:eG φ nt m dB s g w (s.lz d (some (v,hh))) o a K):o.wp P a w K Q:=by
 obtain⟨h1,h2⟩:=Dk hd;refine Fu hrun (hK g v' w' ?_ ?_)
 .rw[h1]
  cases d with
  |none=>exact hS
  |some d=>exact hS.wF (h2 d rfl) hv
 .cases d<;>exact hF
theorem ZX{I:Nat->Nat}{z:List D}{C:List Value}(hr:cy φ I w z C):∀n:Nat,cy φ I w (List.replicate n z).flatten (List.replicate n C).flatten
 | 0=>by simp[cy]
 |n+1=>by
  simp only[Pr,yN];exact zy hr (ZX hr n)
theorem NQ{I:Nat->Nat}{z:List D}{C:Array Value}(hr:cy φ I w z C.toList)(h1:∀v∈C.toList,v.oneCell'=true)(hp:0<z.length)(n:Nat):
  cy φ I w (List.replicate n z).flatten (Builtin.zeroCells C n).toList/\(∀v∈(Builtin.zeroCells C n).toList,v.oneCell'=true)/\(Builtin.zeroCells C n).toList.length=n*z.length:=by
 have hl:=sF hr;have he:(Builtin.zeroCells C n).toList=(List.replicate n C.toList).flatten:=by
  have hcs:C.size=z.length:=by simpa using hl.symm
  unfold Builtin.zeroCells;rw[show n*C.size=n*z.length by rw[hcs]]
  exact IE n z.length C hcs hp
 rw[he];refine⟨ZX hr n,λv hv=>?_,by simp[hl]⟩
 simp only[List.mem_flatten,GU]at hv;obtain⟨l,⟨_,rfl⟩,hv⟩:=hv;exact h1 v hv
theorem ZY{es k n:Nat}{xa:Option Addr}{xc:Nat}{news:List Value}(hl:news.length=n*es)(hk:k<=n)(hc:news≠[]->∃b off,xa=some ⟨b,off,none⟩/\∀(j:Nat)(u:Value),news[j]?=some u->w.cell? ⟨b,off+j,none⟩=some u)
  : (Builtin.firstCells es k (.slice xa n xc)).run P w = .ok (news.take (k*es)).toArray w:=by
 have sI:(news.take (k*es)).length=k*es:=by
  have:=lU es hk;simp;omega
 by_cases hne:news.take (k*es)=[]
 .rw[hne]at sI⊢
  have h0:k*es=0:=by simpa using sI.symm
  cases xa with
  |none=>simp[Builtin.firstCells]
  |some ad=>exact run_firstCells_some w es k ad n xc [] (by simp[h0]) (by simp)
 .have NR:news≠[]:=λh=>hne (by simp[h])
  obtain⟨b,off,rfl,h⟩:=hc NR;refine run_firstCells_some w es k _ n xc _ sI λj v hj=>?_
  rw[qA];rw[yM]at hj;split at hj
  .exact h j v hj
  .simp at hj
theorem ZZ{α:Type}{es:Nat}:∀{rows:List (List α)}(_:∀r∈rows,r.length=es)(n:Nat),(rows.take n).flatten=rows.flatten.take (n*es)
 | [],_,n=>by simp
 |r::rs,h,0=>by simp
 |r::rs,h,n+1=>by
  have hr:r.length=es:=h r (by simp)
  have ih:=ZZ (rows:=rs) (λx hx=>h x (by simp[hx])) n
  have e1:(n+1)*es - es=n*es:=by rw[qP];omega
  have e2:r.take ((n+1)*es)=r:=gE (by rw[qP];omega)
  simp only[Pz,yN,ih,GR,hr,e1,e2]
theorem aiC(hs:cm φ nt m dB s g a w){rec:Rec}{d:Option Nat}{es:Nat}{x:A}{z:List D}(hc:cN P φ nt o (.qg d x es z)=true)(hok:(aR rec (.qg d x es z) s).ok=true)
  (hK:eG φ nt m dB s g w (aR rec (.qg d x es z) s) o a K):o.wp P a w K Q:=by
 simp only[cN,bE]at hc;obtain⟨hd,h⟩:=hc;split at h
 .rename_i c ho
  split at h
  .rename_i y t iD hargs pU
   simp only[bE]at h;obtain⟨hx,h⟩:=h;split at h
   .rename_i e hu
    simp only[bE,dM,gi]at h;obtain⟨⟨hz,rfl⟩,hpos⟩:=h;obtain⟨i,v,hi,Ub,rM,sH,hzs⟩:=Dh (g:=g) (w:=w) hz;obtain⟨Fw,args,tys⟩:=c;simp only at iD hargs pU;have rK:args=#[y]:=by rw[<-Array.toList_inj];exact hargs
    have wL:tys=#[t]:=by rw[<-Array.toList_inj];exact pU
    subst iD;subst rK;subst wL;have rx:=eY hs hx;simp only[aR]at hok hK;obtain⟨r,hr⟩:=xG hok;rw[hr]at hK;simp only[gJ]at hr;obtain⟨hh,hr,rfl⟩:=hr;have fin:∀{w':World},(Builtin.clear_ #[t] o.type #[a.eval y]).run P w = .ok (.tuple #[]) w'->cm φ nt m dB ⟨s.env,hh,s.ok⟩ g a w'->Frame m s.heap g w hh g w'->o.wp P a w K Q:=by
     intro w' h1 h2 h3;exact ZW hd (v':=.tuple #[]) (by simp[execOp,ho,resolve,invoke,builtin,h1]) h2 h3 (by simp only[aJ];exact⟨#[],rfl,by simp[bR]⟩) hK
    unfold Kv at hr;split at hr
    .rename_i e' nl fX
     simp only[gz]at hr;subst hr;rw[fX]at rx;simp only[aJ,bQ]at rx;obtain⟨ad,cap,he,_⟩:=rx;refine fin (w':=w) ?_ hs (Frame.refl _ _ _ _);cases ad<;>simp[Builtin.clear_,run_underlying hu,he]
    .rename_i n off len fX
     rw[fX]at rx;simp only[aJ]at rx;have dF:=hs.heap.obj n;split at hr
     .rename_i e' ex rows hn
      rw[hn]at rx dF;split at hr
      .rename_i dX
       obtain⟨rfl,_,hin⟩:=dX;obtain⟨cap,he,hlc,_⟩:=rx.2.2 _ rfl;split at hr
       .rename_i h0
        simp only[gz]at hr;subst hr;subst h0;refine fin (w':=w) ?_ hs (Frame.refl _ _ _ _);simp[Builtin.clear_,run_underlying hu,he]
       .rename_i h0
        split at hr
        .rename_i hex
         subst hex;simp only[gz]at hr;subst hr;obtain⟨⟨CS,T,hb,hfit⟩,dV,hI⟩:=dF;simp only[dH]at hI;obtain⟨z1,z2,z3⟩:=NQ rM sH hpos len;obtain⟨k1,k2,k3⟩:=ZV (P:=P) hs (ok:=s.ok) (p:=off) (ys:=List.replicate len z) hn hb hfit dV hI z1 z2 (λr hr=>by rw[GU]at hr;rw[hr.2]) (by simpa using z3) (by simpa using hin)
         refine fin ?_ k2 k3;obtain⟨len,rfl⟩:∃k,len=k+1:=⟨len - 1,by omega⟩
         simp[Builtin.clear_,run_underlying hu,he,zeroValue,typeInfo,hi,Ub,k1]
        .simp at hr
      .simp at hr
     .simp at hr
    .simp at hr
   .simp at h
  .simp at h
 .simp at h
theorem aiD(hs:cm φ nt m dB s g a w){rec:Rec}{d:Option Nat}{es:Nat}{x y:A}(hc:cN P φ nt o (.copy d x y es)=true)(hok:(aR rec (.copy d x y es) s).ok=true)
  (hK:eG φ nt m dB s g w (aR rec (.copy d x y es) s) o a K):o.wp P a w K Q:=by
 simp only[cN,bE]at hc;obtain⟨hd,h⟩:=hc;split at h
 .rename_i c ho
  split at h
  .rename_i x' y' t t' iD hargs pU
   simp only[bE,gi]at h;obtain⟨⟨⟨hx,hy⟩,hpos⟩,h⟩:=h;split at h
   .rename_i e e' hu n9
    obtain⟨Fw,args,tys⟩:=c;simp only at iD hargs pU;have rK:args=#[x',y']:=by rw[<-Array.toList_inj];exact hargs
    have wL:tys=#[t,t']:=by rw[<-Array.toList_inj];exact pU
    subst iD;subst rK;subst wL;have rx:=Iv (eY hs hx);have ry:=eY hs hy;have hsz:=wJ (P:=P) (w:=w) h;simp only[aR]at hok hK;obtain⟨r,hr⟩:=xG hok;rw[hr]at hK;have fin:∀{k:Nat}{w':World}{hh:List O},r=(.d (.i .i64 (k:Int)),hh)->(Builtin.copy_ #[t,t'] o.type #[a.eval x',a.eval y']).run P w = .ok (goInt k) w'->cm φ nt m dB ⟨s.env,hh,s.ok⟩ g a w'->Frame m s.heap g w hh g w'->o.wp P a w K Q:=by
     intro k w' hh dV h1 h2 h3;subst dV;exact ZW hd (v':=goInt k) (by simp[execOp,ho,resolve,invoke,builtin,h1]) h2 h3 (by simp[aJ,bQ,goInt]) hK
    unfold copyV at hr;cases rN:Az s.heap es (s.get y)with
    |none=>simp[rN]at hr
    |some ys =>
     simp only[rN]at hr;obtain⟨xa,xc,news,rP,hrl,hrd,hone,gm,hbase⟩:=Zm hs.heap ry rN;have nG:news.length=ys.length*es:=by rw[gm,ji]
     split at hr
     .rename_i n off len fX
      rw[fX]at rx;simp only[aJ]at rx;have dF:=hs.heap.obj n;split at hr
      .rename_i e2 rows hn
       rw[hn]at rx dF;split at hr
       .rename_i dX
        obtain⟨rfl,hin⟩:=dX;simp only[gz]at hr;obtain⟨cap,he,hlc,_⟩:=rx.2.2 _ rfl;obtain⟨⟨CS,T,hb,hfit⟩,dV,hI⟩:=dF;simp only[dH]at hI;have hk:(ys.take len).length=min ys.length len:=by simp[Nat.min_comm]
        have hmul:min ys.length len*e2<=ys.length*e2:=lU _ (Nat.min_le_left _ _);have hfl:(ys.take len).flatten=ys.flatten.take (min ys.length len*e2):=by
         rw[ZZ hrl];rcases Nat.le_total len ys.length with hle |hle
         .rw[Nat.min_eq_right hle]
         .rw[J8 hle,gE (by rw[yf hrl,ji e2];exact lU _ hle),gE (by rw[yf hrl,ji e2];exact gj _)]
        have hnt:(news.take (min ys.length len*e2)).length=min ys.length len*e2:=by simp;omega
        obtain⟨k1,k2,k3⟩:=ZV (P:=P) hs (ok:=s.ok) (p:=off) (ys:=ys.take len) (news:=news.take (min ys.length len*e2)) hn hb hfit dV hI
         (by rw[hfl];exact Tx hrd _) (λu hu=>hone u (nM hu)) (λr hr=>hrl r (nM hr)) (by rw[hnt,hk]) (by rw[hk];omega)
        refine fin hr.symm ?_ k2 k3;have Uc:=ZY (P:=P) (es:=e2) (k:=min ys.length len) (n:=ys.length) (xc:=xc) nG (Nat.min_le_left _ _) (λhne=>hbase λh0=>hne (by subst h0;simpa using nG))
        simp[Builtin.copy_,run_underlying hu,he,rP,Builtin.lenOf,hsz,Uc,k1]
       .simp at hr
      .simp at hr
     .rename_i e2 nl fX
      rw[fX]at rx;simp only[aJ,bQ]at rx;obtain⟨ad,cap,he,_⟩:=rx;simp only[gz]at hr;refine fin (k:=0) (w':=w) hr.symm ?_ hs (Frame.refl _ _ _ _);have Uc:=ZY (P:=P) (es:=es) (k:=0) (n:=ys.length) (xc:=xc) nG (B6 _) (λhne=>hbase λh0=>hne (by subst h0;simpa using nG))
      cases ad<;>simp[Builtin.copy_,run_underlying hu,he,rP,Builtin.lenOf,hsz,Uc,storeCells]
     .simp at hr
   .simp at h
  .simp at h
 .simp at h
end
end Go.VS
namespace Go.VS
section
variable {P:Program}{φ:fy}
variable {nt m dB:Nat}{s:St}{g:Gh}{a:Act}{w:World}{K:Act->World->Prop}{Q:Exit->Act->World->Prop}{o:Oper}
theorem aiE(hs:cm φ nt m dB s g a w){rec:Rec}{d:Nat}{x y:A}(hc:cN P φ nt o (.mx d x y)=true)(hok:(aR rec (.mx d x y) s).ok=true)
  (hK:eG φ nt m dB s g w (aR rec (.mx d x y) s) o a K):o.wp P a w K Q:=by
 simp only[cN,bE]at hc;obtain⟨hd,h⟩:=hc;split at h
 .rename_i c ho
  split at h
  .rename_i x' y' iD hargs
   simp only[bE]at h;obtain⟨hx,hy⟩:=h;obtain⟨Fw,args,tys⟩:=c;simp only at iD hargs;have rK:args=#[x',y']:=by rw[<-Array.toList_inj];exact hargs
   subst iD;subst rK;have rx:=eY hs hx;have ry:=eY hs hy;simp only[aR]at hok hK;refine mX hs hd hok (λv hv=>?_) hK
   unfold Ku at hv;split at hv
   .rename_i k p k' q h1 h2
    rw[h1]at rx;rw[h2]at ry;split at hv
    .rename_i hk
     subst hk;simp only[gz]at hv;subst hv;have e1:=nD (by simpa only[aJ]using rx)
     have e2:=nD (by simpa only[aJ]using ry)
     exact⟨_,by simp[execOp,ho,resolve,invoke,builtin,Builtin.max_,Builtin.max2,e1,e2];rfl,by simp[aJ,bQ]⟩
    .simp at hv
   .simp at hv
  .simp at h
 .simp at h
theorem aiF(hs:cm φ nt m dB s g a w){rec:Rec}{d t:Nat}{x:A}(hc:cN P φ nt o (.nk d t x)=true)(hok:(aR rec (.nk d t x) s).ok=true)
  (hK:eG φ nt m dB s g w (aR rec (.nk d t x) s) o a K):o.wp P a w K Q:=by
 simp only[cN,bE]at hc;obtain⟨hd,h⟩:=hc;split at h
 .rename_i t' y ho
  simp only[bE,dM]at h;obtain⟨⟨rfl,hx⟩,hu⟩:=h;have rx:=eY hs hx;simp only[aR]at hok hK;refine mX hs hd hok (λv hv=>?_) hK
  unfold ug at hv;split at hv
  .rename_i u fX
   rw[fX]at rx;simp only[gz]at hv;subst hv;refine⟨.iface t' (a.eval y),?_,by simp only[aJ,bQ];exact⟨_,rfl,by simpa only[aJ]using rx⟩⟩
   split at hu
   .simp at hu
   .rename_i td hne l8
    simp only[execOp,ho,Instr.makeInterface,Sem.run_bind,run_underlying l8,Result.andThen_ok];rfl
   .simp at hu
  .simp at hv
 .simp at h
theorem Z0{n:Nat}{A:Array Value}(hA:A.size=n):∀{l:List FieldStep}{t:TypeId},Iz P n l t=true ->
  ∃xt td,(follow l t (.val (.agg A))).run P w = .ok (xt,.val (.agg A)) w/\P.underlying xt=some td/\∀e,td≠.pointer e
 | [],t,h=>by
  simp only[Iz]at h;split at h
  .simp at h
  .rename_i td hne l8
   exact⟨t,td,by simp[follow],l8,hne⟩
  .simp at h
 |s::r,t,h=>by
  simp only[Iz]at h;split at h
  .rename_i fs hfs
   split at h
   .rename_i f hf
    simp only[bE,kZ,dM]at h;obtain⟨⟨⟨⟨h1,h2⟩,h3⟩,h4⟩,h5⟩:=h;obtain⟨xt,td,k1,k2,k3⟩:=Z0 hA h5;have hp:(part f.type A f.offset).run P w = .ok (.agg A) w:=by
     refine ZU (ag:=true) h3 h4 ?_;simp only[dH,h2,List.drop_zero];refine⟨by simp[hA],?_⟩
     rw[gE (by simp[hA])]
    refine⟨xt,td,?_,k2,k3⟩;simp[follow,run_underlying hfs,hf,h1,hp,k1]
   .simp at h
  .simp at h
theorem aiG{nm:String}{t n f:Nat}(h:Tu P φ nm t n f=true){A:Array Value}(hA:A.size=n)(k:Nat):
  (method (k+1) t (.agg A) nm).run P w = .ok (φ f,.agg A) w:=by
 unfold Tu at h;split at h
 .rename_i i hi
  split at h
  .rename_i mm zg
   split at h
   .rename_i gg tE
    simp only[bE,dM]at h;obtain⟨rfl,hp⟩:=h;obtain⟨xt,td,k1,k2,k3⟩:=Z0 (w:=w) hA hp;have hti:(typeInfo t).run P w = .ok i w:=by simp[typeInfo,hi]
    simp only[method,Sem.run_bind,hti,Result.andThen_ok,zg,k1,tE];have hr:∀wr,(receiverAt xt (.val (.agg A)) false wr).run P w = .ok (.agg A) w:=by
     intro wr;simp only[receiverAt,Sem.run_bind,run_underlying k2,Result.andThen_ok];simp[Place.get]
    simp[hr]
   .simp at h
  .simp at h
 .simp at h
theorem aiH{rec:Rec}(hq:l7 P φ rec)(hs:cm φ nt m dB s g a w){d:Option Nat}{nm:String}{j6:List (Nat×Nat×Nat)}{x:A}{xs:List A}(hc:cN P φ nt o (.inv d nm j6 x xs)=true)(hok:(aR rec (.inv d nm j6 x xs) s).ok=true)
  (hK:eG φ nt m dB s g w (aR rec (.inv d nm j6 x xs) s) o a K):o.wp P a w K Q:=by
 simp only[cN,bE]at hc;obtain⟨hd,h⟩:=hc;split at h
 .rename_i c ho
  split at h
  .rename_i y nm' iD
   simp only[bE,dM,yO]at h;obtain⟨⟨⟨rfl,hx⟩,hxs⟩,aiI⟩:=h;simp only[aR]at hok hK;have rx:=eY hs hx;have yh:=wE hs hxs;obtain⟨v,hv⟩:=Cm hok;have jx:=hv;unfold cV at jx;split at jx
   .rename_i t ds fX
    split at jx
    .rename_i e he
     split at jx
     .rename_i hlen
      have hmem:=PB he;have het:e.1=t:=by have:=GV he;simpa using this
      have hm:=aiI e hmem;rw[fX]at rx;simp only[aJ,bQ]at rx;obtain⟨yv,wP,A,rfl,hA,h1⟩:=rx;have hsz:A.size=e.2.1:=by rw[<-hlen];have:=sF hA;simpa using this.symm
      have hmr:=aiG (P:=P) (w:=w) (φ:=φ) hm hsz (P.types.size+99);refine TK hq hs hd (f:=e.2.2) (xs:=.d (.ag ds)::xs.map s.get) (args:=#[.agg A]++c.args.map a.eval) (ov:=cV (kG rec) j6 (s.get x) (xs.map s.get)) (by rw[hv,jx]) hok ?_ ?_ hK
      .simp only[Array.toList_append,D9,rZ,mu,bR]
       exact⟨by simp only[aJ,bQ];exact⟨A,rfl,hA,h1⟩,yh⟩
      .simp only[execOp,ho,resolve,iD,Sem.run_bind,Sem.run_pure,Result.andThen_ok,invoke,wP]
       rw[het]at hmr;have h0:(#[Value.iface t (.agg A)]++Array.map a.eval c.args)[0]?=some (.iface t (.agg A)):=by simp[Array.getElem?_append]
       have h1:(Array.map a.eval c.args).extract 0 c.args.size=Array.map a.eval c.args:=by simp
       simp only[callMethod,Made.depth,h0]at *;simp[hmr,h1]
     .simp at jx
    .simp at jx
   .simp at jx
  .simp at h
 .simp at h
end
end Go.VS
namespace Go.VS
section
variable {P:Program}{φ:fy}
variable {nt m dB:Nat}{s:St}{g:Gh}{a:Act}{w:World}{K:Act->World->Prop}{Q:Exit->Act->World->Prop}{o:Oper}
theorem aiJ(hs:cm φ nt m dB s g a w){rec:Rec}{d:Nat}{x:A}(hc:cN P φ nt o (.cap d x)=true)(hok:(aR rec (.cap d x) s).ok=true)
  (hK:eG φ nt m dB s g w (aR rec (.cap d x) s) o a K):o.wp P a w K Q:=by
 simp only[cN,bE]at hc;obtain⟨hd,h⟩:=hc;split at h
 .rename_i c ho
  split at h
  .rename_i y t iD hargs pU
   simp only[bE]at h;obtain⟨hx,ht⟩:=h;split at ht
   .rename_i e hu
    obtain⟨Fw,args,tys⟩:=c;simp only at iD hargs pU;have rK:args=#[y]:=by rw[<-Array.toList_inj];exact hargs
    have wL:tys=#[t]:=by rw[<-Array.toList_inj];exact pU
    subst iD;subst rK;subst wL;have rx:=eY hs hx;simp only[aR]at hok hK;refine mX hs hd hok (λv hv=>?_) hK
    have fin:∀{ad:Option Addr}{n cap:Nat},a.eval y = .slice ad n cap->v = .d (.i .i64 cap)->∃v',(execOp a.eval o).run P w = .ok (.value v') w/\aJ φ s.heap g w v v':=by
     intro ad n cap he hv;subst hv;exact⟨.int .i64 cap,by simp[execOp,ho,resolve,invoke,builtin,he,Builtin.cap_,run_underlying hu,goInt],by simp[aJ,bQ]⟩
    unfold Ko at hv;split at hv
    .rename_i e' xs hp
     rw[hp]at rx;simp only[aJ,bQ]at rx;obtain⟨ad,cap,he,_,h1,_⟩:=rx;obtain⟨_,rfl⟩:=h1 trivial;simp at hv;exact fin he (by rw[<-hv];rfl)
    .rename_i e' hp
     rw[hp]at rx;simp only[aJ]at rx;obtain⟨ad,he⟩:=rx;simp at hv;exact fin he (by rw[<-hv];rfl)
    .rename_i n off len hp
     rw[hp]at rx;simp only[aJ]at rx;split at hv
     .rename_i e' ex rows hn
      split at hv
      .rename_i hle
       obtain⟨cap,he,hlc,hm,_⟩:=rx.2.2 e' (by rw[hn];rfl)
       rw[hn]at hm;simp only[O.len]at hm;simp at hv
       have:rows.length - off=cap:=by omega
       exact fin he (by rw[<-hv,this])
      .simp at hv
     .simp at hv
    .simp at hv
   .simp at ht
  .simp at h
 .simp at h
theorem aiK{t t' ty e:TypeId}{k':IntKind}{i:TypeInfo}{z:Value}(ht:P.underlying t=some (.slice e))(ht':P.underlying t'=some (.int k'))(hi:P.info? e=some i)(hz:i.zero=some z){sLen sCap n:Nat}{base:Option Addr}{olds:List Value}{q:IntKind}
  (hlo:olds.length=sLen*i.size)(TO:olds≠[]->∃b off,base=some ⟨b,off,none⟩/\∀(j:Nat)(u:Value),olds[j]?=some u->w.cell? ⟨b,off+j,none⟩=some u)
  (mI:sCap<sLen+n)(hroom:sLen+n<=room)(hby:i.bytes<=16384)(hpos:0<i.size)(hn0:0<n):
  (Builtin.append_ #[t,t'] ty #[.slice base sLen sCap,.int q n]).run P w =
   .ok (.slice (some ⟨w.heap.size,0,none⟩) (sLen+n) (grownCap w (sLen+n) sCap e)) (w.drew.alloc (.cells (olds++(Builtin.zeroCells z.cells n).toList++(Builtin.zeroCells z.cells (grownCap w (sLen+n) sCap e - (sLen+n))).toList).toArray e)):=by
 have hn:¬(sLen+n<=sCap):=by omega
 have TP:sLen+n<=4294967296:=hroom;have h63':¬(9223372036854775807<((sLen:Int)+(n:Int))):=by omega
 have hmul:(sLen+n)*i.bytes<=4294967296*16384:=J6 TP hby;have TQ:¬(281474976710656<Builtin.nextslicecap (sLen+n) sCap*i.bytes):=by
  have:=growslice_fits (bytes:=i.bytes) mI (by omega)
  omega
 have hfo:=IJ (P:=P) (w:=w.drew) (xa:=base) (xc:=sCap) hlo (λh=>by obtain⟨b,off,h1,h2⟩:=TO h;exact⟨b,off,h1,by simpa using h2⟩)
 have hwrap:IntKind.i64.wrap (n:Int)=n:=by
  have h1:(n:Int)<=4294967296:=by omega
  have e1:(n:Int) % (2 ^ (IntKind.i64.bits):Int)=n:=Int.emod_eq_of_lt (by omega) (Int.lt_of_le_of_lt h1 (by decide))
  have e2:¬((n:Int) ≥ (2 ^ (IntKind.i64.bits - 1):Int)):=by
   have:((2:Int) ^ (IntKind.i64.bits - 1))=9223372036854775808:=by decide
   rw[this];omega
  simp only[IntKind.wrap,e1,e2,decide_false,Bool.and_false,eR,dG]
 have hneg:¬((n:Int)<0):=by omega
 have Zu:n*i.bytes<=4294967296*16384:=J6 (by omega) hby
 have aiL:¬((281474976710656:Int)<(n:Int)*(i.bytes:Int)):=by
  rw[<-Int.natCast_mul];omega
 have hns:¬(n*i.size=0):=Nat.ne_of_gt (Nat.mul_pos hn0 hpos);simp[Builtin.append_,run_underlying ht,run_underlying ht',sizeOf,typeInfo,zeroValue,hi,hz,Go.asInt,asIntOf,hwrap,hneg,aiL,hn,h63',TQ,hns,Question.forced,hfo,newRow,grownCap];congr 2;apply Py;simp[sS]
theorem aiM(hs:cm φ nt m dB s g a w){rec:Rec}{d es:Nat}{x k:A}{z:List D}(hc:cN P φ nt o (.qR d x k es z)=true)(hok:(aR rec (.qR d x k es z) s).ok=true)
  (hK:eG φ nt m dB s g w (aR rec (.qR d x k es z) s) o a K):o.wp P a w K Q:=by
 simp only[cN,bE]at hc;obtain⟨hd,h⟩:=hc;split at h
 .rename_i c ho
  split at h
  .rename_i x' k' t t' iD hargs pU
   simp only[bE,gi]at h;obtain⟨⟨⟨hx,hk⟩,hpos⟩,ht⟩:=h;obtain⟨Fw,args,tys⟩:=c;simp only at iD hargs pU;have rK:args=#[x',k']:=by rw[<-Array.toList_inj];exact hargs
   have wL:tys=#[t,t']:=by rw[<-Array.toList_inj];exact pU
   subst iD;subst rK;subst wL;split at ht
   .rename_i e q hu n9
    simp only[bE]at ht;obtain⟨Ud,ht⟩:=ht;obtain⟨i,zv,hi,hz,rM,sH,hzs⟩:=Dh (g:=g) (w:=w) Ud;rw[hi]at ht;simp only[bE,dM,gi]at ht;obtain⟨hsz,hby⟩:=ht;subst hsz;have rx:=eY hs hx;have rk:=eY hs hk;simp only[aR]at hok hK;obtain⟨v,hh,hv⟩:=Bp hok;rw[hv]at hK;simp only[St.gk]at hK;unfold Km at hv;cases hkv:asInt (s.get k)with
    |none=>simp[hkv]at hv
    |some kn =>
     simp only[hkv]at hv;have iw:∃q2,a.eval k' = .int q2 kn:=by
      cases hg:s.get k with
      |d z =>
       rw[hg]at hkv rk;cases z with
       |i q2 n=>simp[asInt]at hkv;subst hkv;exact⟨q2,nD (by simpa only[aJ]using rk)⟩
       |_=>simp[asInt]at hkv
      |_=>rw[hg]at hkv;simp[asInt]at hkv
     obtain⟨q2,hke⟩:=iw;split at hv
     .rename_i dX
      obtain⟨pX,hzl⟩:=dX;have hkn:(kn.toNat:Int)=kn:=by omega
      have IT:zv.cells.size=i.size:=by
       have:=sF rM;rw[hzl]at this;simpa using this.symm
      obtain⟨z1,z2,z3⟩:=NQ rM sH (by rw[hzl];exact hpos) kn.toNat
      have fresh:∀{base:Option Addr}{sLen sCap:Nat}{olds:List Value}{ys:List (List D)},a.eval x' = .slice base sLen sCap->olds.length=sLen*i.size ->
        (olds≠[]->∃b off,base=some ⟨b,off,none⟩/\∀(j:Nat)(u:Value),olds[j]?=some u->w.cell? ⟨b,off+j,none⟩=some u)->sCap<sLen+kn.toNat->sLen+kn.toNat<=room ->
        (∀r∈ys,r.length=i.size)->ys.length=sLen->cy φ g.I w ys.flatten olds->(∀u∈olds,u.oneCell'=true)->v = .aQ s.heap.length 0 (sLen+kn.toNat)->hh=s.heap++[.aG i.size true (ys++List.replicate kn.toNat z)]->o.wp P a w K Q:=by
       intro base sLen sCap olds ys he h1 h2 h3 h4 h5 h6 h7 h8 h9 iP;subst h9;subst iP;have hrun:=aiK (P:=P) (w:=w) (ty:=o.type) (q:=q2) hu n9 hi hz h1 h2 h3 h4 hby hpos (by omega)
       rw[hkn]at hrun;have Dp:=grownCap_ge w (sLen+kn.toNat) sCap e;have jI:(ys++List.replicate kn.toNat z).length=sLen+kn.toNat:=by simp[h6]
       have v5:(Builtin.zeroCells zv.cells (grownCap w (sLen+kn.toNat) sCap e - (sLen+kn.toNat))).toList.length=(grownCap w (sLen+kn.toNat) sCap e - (sLen+kn.toNat))*i.size:=by simp[size_zeroCells,IT]
       have:=NI (P:=P) (K:=K) (Q:=Q) (o:=o) (a:=a) hs hd (es:=i.size) (ex:=true) (ys:=ys++List.replicate kn.toNat z) (C:=olds++(Builtin.zeroCells zv.cells kn.toNat).toList) (ok:=s.ok)
        (rest:=(Builtin.zeroCells zv.cells (grownCap w (sLen+kn.toNat) sCap e - (sLen+kn.toNat))).toList) (T:=e) (cap:=grownCap w (sLen+kn.toNat) sCap e)
        (by rw[jI];simp[execOp,ho,resolve,invoke,builtin,he,hke,hrun])
        (λr hr=>(dc.1 hr).elim (h5 r) (λh=>by rw[GU]at h;rw[h.2,hzl]))
        (by rw[Ea];exact zy h7 z1) (λu hu=>(dc.1 hu).elim (h8 u) (z2 u)) (by rw[jI];exact Dp) ?_ (NH sH _)
       .refine this λg' v' w' k1 k2=>?_
        rw[jI]at k1;exact hK g' v' w' k1 k2
       .rw[lT,h1,v5,z3,hzl,<-Nat.add_mul,<-Nat.add_mul]
        exact lU _ (by omega)
      split at hv
      .rename_i e1 nl xs fX
       rw[fX]at rx;simp only[aJ,bQ]at rx;obtain⟨ad,cap,he,hlc,oa,_⟩:=rx;split at hv
       .rename_i ir
        obtain⟨rfl,rfl,hroom⟩:=ir;obtain⟨rfl,rfl⟩:=oa rfl;have hx0:xs.length=0:=by omega
        rw[hx0]at he;simp at hv;exact fresh (olds:=[]) (ys:=[]) he (by simp) (by simp) (by omega) (by omega) (by simp) rfl (by simp[cy]) (by simp) (by rw[nP];exact hv.1.symm) (by simpa using hv.2.symm)
       .simp at hv
      .rename_i e1 fX
       rw[fX]at rx;simp only[aJ]at rx;obtain⟨ad,he⟩:=rx;split at hv
       .rename_i ir
        obtain⟨rfl,hroom⟩:=ir;simp at hv;exact fresh (olds:=[]) (ys:=[]) he (by simp) (by simp) (by omega) (by omega) (by simp) rfl (by simp[cy]) (by simp) (by rw[nP];exact hv.1.symm) (by simpa using hv.2.symm)
       .simp at hv
      .rename_i n off len fX
       rw[fX]at rx;simp only[aJ]at rx;have dF:=hs.heap.obj n;split at hv
       .rename_i e1 ex rows hn
        rw[hn]at rx dF;split at hv
        .rename_i ir
         obtain⟨rfl,hle,mI,hroom⟩:=ir;obtain⟨cap,he,hlc,hm,_⟩:=rx.2.2 _ rfl;simp only[O.len]at hm;simp at hv;have hlen:((rows.drop off).take len).length=len:=by simp;omega
         obtain⟨olds,o1,o2,o3,o4⟩:=zH (Dm dF.2.1 hle);rw[hlen]at o3;exact fresh (olds:=olds) (ys:=(rows.drop off).take len) he (by rw[o3,ji]) (λ_=>⟨_,_,rfl,o4⟩) (by omega) hroom
          (λr hr=>by
           obtain⟨j,hj,Dn⟩:=sR (mN (nM hr));exact(n7 dF.2.1 (r:=j) (row:=r) (by simp[hj,Dn])).1) hlen o1 o2 hv.1.symm hv.2.symm
        .simp at hv
       .simp at hv
      .simp at hv
     .simp at hv
   .simp at ht
  .simp at h
 .simp at h
theorem aiN{fn:Func}(h:Tr fn=true):Extern.findNext fn=none/\Extern.find fn=some (Extern.SlicesOverlaps.overlaps fn.params fn.resultTypes):=by
 simp only[Tr,bE,dM,Option.isNone_iff_eq_none]at h;obtain⟨⟨⟨⟨h0,h1⟩,h2⟩,h3⟩,h4⟩:=h;have n1 : Extern.allGenericRows.lookup "slices.overlaps" = none := by kernel_rfl
 have n2 : Extern.allTypedRows.lookup "slices.overlaps" = some Extern.SlicesOverlaps.overlaps := by kernel_rfl
 have n3 : Extern.allNextRows.lookup "slices.overlaps" = none := by kernel_rfl
 refine⟨?_,?_⟩
 .simp[Extern.findNext,h4,h0,n3]
 .simp[Extern.find,h1,h2,h3,h0,n1,n2]
theorem aiO(hP:True){tS e:TypeId}{par res:Array TypeId}(hp:par[0]?=some tS)(ht:P.underlying tS=some (.slice e)){size:Nat}(hz:(Go.sizeOf e).run P w = .ok size w)
  {a b:Addr}{la ca lb cb:Nat}{CA CB:Array Value}{TA TB:TypeId}{fa:Nat×Nat}(hA:w.heap[a.block]?=some (.cells CA TA fa))(hB:w.heap[b.block]?=some (.cells CB TB (0,0)))(Z1:CA.size≠0)
  (aiP:a.block=b.block->a.off+la*size<=b.off):
  (Extern.SlicesOverlaps.overlaps par res #[.slice (some a) la ca,.slice (some b) lb cb]).run P w = .ok (.bool false) w:=by
 rw[Extern.SlicesOverlaps.overlaps.eq_def,hp];change Sem.run P (α:=Value) (underlying tS >>= _) w=_;by_cases h0:la=0\/lb=0\/size=0
 .simp[hp,run_underlying ht,hz,h0]
 .have hsa:w.shape? a.block=some (TA,CA.size):=by simp[World.shape?,hA]
  have hsb:w.shape? b.block=some (TB,CB.size):=by simp[World.shape?,hB]
  have lK:∀k sp,w.frozen? {block:=b.block,off:=k,spot:=sp}=false:=by intro k sp;simp[World.frozen?,hB]
  have aiQ:w.frozen? b=false:=by simp[World.frozen?,hB]
  obtain⟨n,hn⟩:∃n,CA.size=n+1:=⟨CA.size - 1,by omega⟩
  rw[hn]at hsa;by_cases hne:a.block=b.block
  .have h1:(a.block != b.block)=false:=by simpa using hne
   have h2:=aiP hne;have h3:¬(b.off<a.off+la*size):=by omega
   simp[hp,run_underlying ht,hz,h0,h1,frozen,Sem.run,h3]
  .have h1:(a.block != b.block)=true:=by simpa using hne
   have h2:(a.block==b.block)=false:=by simpa using hne
   cases NS:w.frozen? a<;>cases nX:w.frozen? {block:=a.block,off:=n+1} <;>
    simp[hp,run_underlying ht,hz,h0,h1,h2,frozen,noView,viewAt,mayBeOne,stringish,shape,Sem.run,hsa,hsb,lK,aiQ,NS,nX]
theorem Z2{tS e:TypeId}{par res:Array TypeId}(hp:par[0]?=some tS)(ht:P.underlying tS=some (.slice e)){size:Nat}(hz:(Go.sizeOf e).run P w = .ok size w)
  {b:Option Addr}{a:Option Addr}{la ca lb cb:Nat}(h0:a=none\/la=0):
  (Extern.SlicesOverlaps.overlaps par res #[.slice a la ca,.slice b lb cb]).run P w = .ok (.bool false) w:=by
 rw[Extern.SlicesOverlaps.overlaps.eq_def,hp];change Sem.run P (α:=Value) (underlying tS >>= _) w=_;rcases h0 with rfl |rfl
 .simp[hp,run_underlying ht,hz]
 .cases a<;>cases b<;>simp[hp,run_underlying ht,hz]
theorem aiR(hs:cm φ nt m dB s g a w){rec:Rec}{d f es:Nat}{x y:A}(hc:cN P φ nt o (.qT d f x y es)=true)(hok:(aR rec (.qT d f x y es) s).ok=true)
  (hK:eG φ nt m dB s g w (aR rec (.qT d f x y es) s) o a K):o.wp P a w K Q:=by
 simp only[cN,bE]at hc;obtain⟨hd,h⟩:=hc;split at h
 .rename_i c ho
  split at h
  .rename_i ff iD
   simp only[bE,dM]at h;obtain⟨⟨rfl,hxy⟩,h⟩:=h;split at h
   .rename_i fn hfn
    simp only[bE,kZ]at h;obtain⟨⟨⟨hname,hbody⟩,nF⟩,h⟩:=h;split at h
    .rename_i t t2 hpar
     split at h
     .rename_i e hu
      simp only[bE,gi]at h;obtain⟨hpos,ID⟩:=h;have hsz:=wJ (P:=P) (w:=w) ID;have Ue:fn.params[0]?=some t:=by
       rw[<-Array.getElem?_toList,hpar];rfl
      obtain⟨k1,k2⟩:=aiN nF;have rr:=wE hs hxy;simp only[aR]at hok hK;refine mX hs hd hok (λv hv=>?_) hK
      obtain⟨x',y',hargs⟩:∃x' y',c.args.toList=[x',y']:=by
       match hq:c.args.toList,hxy with
       | [x',y'],_=>exact⟨x',y',rfl⟩
       | [],h=>simp[n8]at h
       | [_],h=>simp[n8]at h
       |_::_::_::_,h=>simp[n8]at h
      rw[hargs]at rr;simp only[fT,gq,bR]at rr;obtain⟨rx,ry,_⟩:=rr;have rK:c.args.map a.eval=#[a.eval x',a.eval y']:=by rw[<-Array.toList_inj];simp[hargs]
      have aiS:(execOp a.eval o).run P w=(callFunc (φ f) (c.args.map a.eval)).run P w:=by simp[execOp,ho,resolve,iD,Act.eval,Deferred.ofValue,invoke]
      have hrun:∀{u u':Value},a.eval x'=u->a.eval y'=u'->v = .d (.b false)->(Extern.SlicesOverlaps.overlaps fn.params fn.resultTypes #[u,u']).run P w = .ok (.bool false) w->∃v',(execOp a.eval o).run P w = .ok (.value v') w/\aJ φ s.heap g w v v':=by
       intro u u' h1 h2 h3 h4;subst h3;refine⟨.bool false,?_,by simp[aJ,bQ]⟩
       rw[aiS,rK,h1,h2,run_callFunc_extern hfn hname hbody k1 k2,h4];rfl
      unfold Kp at hv;split at hv
      .rename_i e1 nl xs n off len fX hyv
       have ry:=Iv ry;rw[fX]at rx;rw[hyv]at ry;simp only[aJ,bQ]at rx ry;obtain⟨ad,cap,hex,hlc,h1,h2⟩:=rx;have dF:=hs.heap.obj n;split at hv
       .rename_i e2 rows hn
        rw[hn]at ry dF;split at hv
        .rename_i hee
         subst hee;obtain⟨Z3,rP,_,_,CS,T,hB,hfit,_⟩:=ry.2.2 e2 rfl;simp only[gz]at hv;refine hrun hex rP hv.symm ?_;cases nl with
         |true=>exact Z2 Ue hu hsz (.inl (h1 rfl).1)
         |false =>
          obtain⟨FF,rfl,h3⟩:=h2 rfl;cases xs with
          |nil=>exact Z2 Ue hu hsz (.inr rfl)
          |cons r rs =>
           obtain⟨hsp,hI,rN⟩:=h3 (by simp)
           obtain⟨hrl,hrc⟩:=n7 rN (r:=0) (row:=r) rfl;have By:r[0]?=some r[0]:=by simp
           obtain⟨z,hz,_⟩:=Fo hrc By;simp only[World.cell?]at hz;split at hz
           .rename_i CA TA fa hA
            have Z1:CA.size≠0:=by
             intro h0
             have:CA=#[]:=Array.eq_empty_of_size_eq_zero h0
             subst this;simp at hz
            refine aiO trivial Ue hu hsz hA hB Z1 λFO=>?_
            have IS:=dF.2.2;simp only[dH]at IS;simp only at FO;rw[FO]at hI;rw[ji];show FF.off+e1*(r::rs).length<=g.o n+off*e2
            omega
           .simp at hz
        .simp at hv
       .simp at hv
      .simp at hv
     .simp at h
    .simp at h
   .simp at h
  .simp at h
 .simp at h
end
end Go.VS
namespace Go.VS
section
variable {P:Program}{φ:fy}
variable {nt m dB:Nat}{s:St}{g:Gh}{a:Act}{w:World}{K:Act->World->Prop}{Q:Exit->Act->World->Prop}{o:Oper}
theorem FP{k:CK}{x:D}{a:List D}(h:AB [k] x=some a):a=[x]/\∀cs,x≠.ag cs:=by
 cases x<;>simp[AB]at h<;>exact⟨h.symm,λcs hh=>by cases hh⟩
theorem FQ{ks:List CK}{x:D}{a:List D}(hk:∀k,ks≠[k])(h:AB ks x=some a):x = .ag a:=by
 match ks,hk,h with
 | [],_,h=>cases x<;>simp[AB]at h<;>subst h<;>rfl
 | [k],hk,_=>exact absurd rfl (hk k)
 |_::_::_,_,h=>cases x<;>simp[AB]at h<;>subst h<;>rfl
theorem aiT{I:Nat->Nat}{kt:TypeId}{ks:List CK}(hk:wD P kt ks=true){x y:D}{b:Bool}(h:nT ks x y=some b){u v:Value}(hu:bQ φ I w x u)(hv:bQ φ I w y v):(Op.equal kt u v).run P w = .ok b w:=by
 simp only[nT,nO]at h;obtain⟨p,hp,q,hq,hf⟩:=h;unfold wD at hk;split at hk
 .rename_i k
  obtain⟨rfl,_⟩:=FP hp;obtain⟨rfl,_⟩:=FP hq;simp only[jQ,nO,gJ,gz]at hf;obtain⟨b1,h1,b2,rfl,rfl⟩:=hf;rw[PC];exact Tz hk h1 hu hv 9999
 .rename_i hne
  have iO:=FQ (λk hh=>hne k hh) hp
  have kg:=FQ (λk hh=>hne k hh) hq
  subst iO;subst kg;simp only[bQ]at hu hv;obtain⟨A,rfl,ra,_⟩:=hu;obtain⟨B,rfl,rb,_⟩:=hv;unfold Dg at hk;split at hk
  .rename_i fs hfs
   simp only[bE,kZ]at hk;obtain⟨⟨oa,wK⟩,Bo⟩:=hk;have hfo:P.fieldsOf kt=fs:=by simp[Program.fieldsOf,hfs]
   have hst:P.underlying kt=some (.struct (P.fieldsOf kt)):=by rw[hfo];exact hfs
   have Uf:=TC (P:=P) (w:=w) 9998 Bo hf (by simpa using ra) (by simpa using rb)
   have he:=run_equalIn_struct (P:=P) w 9999 kt A B hst oa;rw[hfo,Uf]at he;exact he
  .simp at hk
theorem Z4{h:List O}{kt:TypeId}{ks:List CK}(hk:wD P kt ks=true){k:D}{u:Value}(hu:bQ φ g.I w k u):∀{kv:List (D×V)}{es:List MapEntry}{i:Nat},uU φ h g w kv es->(kv.all λp=>(nT ks k p.1).isSome)=true ->
  ∃r,(Instr.findAsking kt u es i).run P w = .ok r w /\
   match kv.findIdx? (lW ks k)with
   |some j=>∃e,es[j]?=some e/\r=some (i+j,e.val)
   |none=>r=none
 | [],[],i,_,_=>⟨none,by simp[Instr.findAsking],by simp⟩
 |p::kv,e::es,i,hr,hall=>by
  simp only[xA,bE]at hall;obtain⟨b,hb⟩:=PD.1 hall.1;have hp:=hr.2 0 p e rfl rfl;have heq:=aiT (P:=P) (w:=w) hk hb hu hp.1;have Ug:uU φ h g w kv es:=⟨by have:=hr.1;simpa using this,λj q e' hq he=>hr.2 (j+1) q e' (by simpa using hq) (by simpa using he)⟩
  have hki:lW ks k p=b:=by simp[lW,hb]
  cases b with
  |true =>
   refine⟨some (i,e.val),by simp[Instr.findAsking,heq],?_⟩
   rw[xz,hki];exact⟨e,rfl,rfl⟩
  |false =>
   obtain⟨r,h1,h2⟩:=Z4 hk hu (i:=i+1) Ug hall.2;refine⟨r,by simp[Instr.findAsking,heq,h1],?_⟩
   rw[xz,hki];simp only[eR,dG];cases hf:kv.findIdx? (lW ks k)with
   |none=>rw[hf]at h2;simpa using h2
   |some j =>
    rw[hf]at h2;obtain⟨e',he',hr'⟩:=h2;refine⟨e',by simpa using he',?_⟩
    rw[hr'];show some (i+1+j,e'.val)=some (i+(j+1),e'.val)
    have:i+1+j=i+(j+1):=by omega
    rw[this]
 | [],_::_,_,hr,_=>by have:=hr.1;simp at this
 |_::_,[],_,hr,_=>by have:=hr.1;simp at this
theorem Z5{I:Nat->Nat}{ks:List CK}{kind:TypeDesc}{x y:D}{b c:Bool}(h:nT ks x y=some b){u v:Value}(hu:bQ φ I w x u)(hv:bQ φ I w y v)(hs:Instr.sameNow kind u v=some c):c=b:=by
 simp only[nT,nO]at h;obtain⟨p,hp,q,hq,hf⟩:=h;by_cases hone:∃k,ks=[k]
 .obtain⟨k,rfl⟩:=hone
  obtain⟨rfl,_⟩:=FP hp;obtain⟨rfl,_⟩:=FP hq;simp only[jQ,nO,gJ,gz]at hf;obtain⟨b1,h1,b2,rfl,rfl⟩:=hf;rw[PC];unfold Cg at h1;split at h1<;>simp only[gz,reduceCtorEq,Pq]at h1
  .obtain⟨rfl,rfl⟩:=h1
   have hu:=nD hu;have hv:=nD hv;subst hu;subst hv;cases kind<;>simp[Instr.sameNow]at hs;exact hs.symm
  .subst h1
   have hu:=wI hu;have hv:=wI hv;subst hu;subst hv;cases kind<;>simp[Instr.sameNow]at hs;exact hs.symm
  .subst h1
   simp only[bQ]at hu hv;obtain⟨bs,rfl,hb⟩:=hu;obtain⟨cs,rfl,hc⟩:=hv;cases kind<;>simp[Instr.sameNow]at hs;subst hs;subst hb;subst hc;exact beq_toListBytes _ _
 .have iO:=FQ (λk hh=>hone ⟨k,hh⟩) hp
  subst iO;simp only[bQ]at hu;obtain⟨A,rfl,_⟩:=hu;cases kind<;>simp[Instr.sameNow]at hs
theorem Z6{h:List O}{kind:TypeDesc}{ks:List CK}{k:D}{u:Value}(hu:bQ φ g.I w k u):∀{kv:List (D×V)}{es:List MapEntry}{i:Nat}{r:Option (Nat×Value)},uU φ h g w kv es->(kv.all λp=>(nT ks k p.1).isSome)=true ->
  Instr.findNow kind u es i=some r ->
   match kv.findIdx? (lW ks k)with
   |some j=>∃e,es[j]?=some e/\r=some (i+j,e.val)
   |none=>r=none
 | [],[],i,r,_,_,hf=>by simp[Instr.findNow]at hf;simp[hf]
 |p::kv,e::es,i,r,hr,hall,hf=>by
  simp only[xA,bE]at hall;obtain⟨b,hb⟩:=PD.1 hall.1;have hp:=hr.2 0 p e rfl rfl;have Ug:uU φ h g w kv es:=⟨by have:=hr.1;simpa using this,λj q e' hq he=>hr.2 (j+1) q e' (by simpa using hq) (by simpa using he)⟩
  have hki:lW ks k p=b:=by simp[lW,hb]
  simp only[Instr.findNow]at hf;split at hf
  .rename_i hs
   have:=Z5 hb hu hp.1 hs;subst this;rw[xz,hki];simp at hf;exact⟨e,rfl,hf.symm⟩
  .rename_i hs
   have:=Z5 hb hu hp.1 hs;subst this;have h2:=Z6 hu Ug hall.2 hf;rw[xz,hki];simp only[eR,dG];cases hf:kv.findIdx? (lW ks k)with
   |none=>rw[hf]at h2;simpa using h2
   |some j =>
    rw[hf]at h2;obtain⟨e',he',hr'⟩:=h2;refine⟨e',by simpa using he',?_⟩
    rw[hr'];show some (i+1+j,e'.val)=some (i+(j+1),e'.val)
    have:i+1+j=i+(j+1):=by omega
    rw[this]
  .simp at hf
 | [],_::_,_,_,hr,_,_=>by have:=hr.1;simp at this
 |_::_,[],_,_,hr,_,_=>by have:=hr.1;simp at this
theorem aiU{kt:TypeId}{ks:List CK}(hk:wD P kt ks=true):∃d,P.underlying kt=some d:=by
 unfold wD wC Dg at hk;cases h:P.underlying kt with
 |some d=>exact⟨d,rfl⟩
 |none=>split at hk<;>simp[h]at hk
theorem Z7{h:List O}{kt:TypeId}{ks:List CK}(hk:wD P kt ks=true){k:D}{u:Value}(hu:bQ φ g.I w k u){kv:List (D×V)}{es:List MapEntry}(hr:uU φ h g w kv es)(hall:(kv.all λp=>(nT ks k p.1).isSome)=true):
  ∃r,(Instr.findKey kt u es).run P w = .ok r w /\
   match kv.findIdx? (lW ks k)with
   |some j=>∃e,es[j]?=some e/\r=some (j,e.val)
   |none=>r=none:=by
 obtain⟨d,hd⟩:=aiU hk;cases hf:Instr.findNow d u es 0 with
 |some r =>
  refine⟨r,by simp[Instr.findKey,run_underlying hd,hf],?_⟩
  simpa only[nP]using Z6 hu hr hall hf
 |none =>
  obtain⟨r,h1,h2⟩:=Z4 hk hu (i:=0) hr hall;refine⟨r,by simp[Instr.findKey,run_underlying hd,hf,h1],?_⟩
  simpa only[nP]using h2
end
end Go.VS
namespace Go.VS
section
variable {P:Program}{φ:fy}
variable {nt m dB:Nat}{s:St}{g:Gh}{a:Act}{w:World}{K:Act->World->Prop}{Q:Exit->Act->World->Prop}{o:Oper}
theorem Z8{kt:TypeId}{k:CK}(hk:wC P kt k=true)(e:Bool)(n:Nat)(u:Value):(Instr.checkKey e (n+1) kt u).run P w = .ok () w:=by
 unfold wC at hk;split at hk<;>simp at hk<;>rename_i hu<;>simp[Instr.checkKey,run_underlying hu]
theorem Z9{I:Nat->Nat}(e:Bool)(n:Nat){A:Array Value}:∀{fs:List Field}{ks:List CK}{off:Nat}{p q:List D}{b:Bool},yc P off fs ks=true->jQ ks p q=some b->cy φ I w p (A.toList.drop off) ->
  (forIn fs PUnit.unit (fun(f:Field)(_:PUnit)=>(do
   if f.name ≠ "_" then Instr.checkKey e (n + 1) f.type (← part f.type A f.offset)
   pure (ForInStep.yield PUnit.unit):Sem (ForInStep PUnit)))).run P w = .ok PUnit.unit w
 | [],[],_,_,_,_,_,_,_=>by simp
 |f::fs,k::ks,off,p,q,b,hc,hf,hp=>by
  simp only[yc,bE,dM,J4]at hc;obtain⟨⟨⟨hn,rfl⟩,hk⟩,hr⟩:=hc;cases p with
  |nil=>simp[jQ]at hf
  |cons x p =>
   cases q with
   |nil=>simp[jQ]at hf
   |cons y q =>
    simp only[jQ,nO,gJ]at hf;obtain⟨b1,h1,b2,h2,rfl⟩:=hf;obtain⟨u,hu,ru⟩:=Bh hp (j:=0) rfl;have n9:A[f.offset]?=some u:=by simpa[pz]using hu
    have iO:cy φ I w p (A.toList.drop (f.offset+1)):=by
     have:=Bn hp 1;simpa[D8,qN]using this
    have ih:=Z9 e n hr h2 iO;have e1:=IB (P:=P) (w:=w) hk n9;have e2:=Z8 (P:=P) (w:=w) hk e n u;simp only[List.forIn_cons,B7,hn,not_false_eq_true,dH,Sem.run_bind,e1,Result.andThen_ok,e2,Sem.run_pure];exact ih
 | [],_::_,_,_,_,_,hc,_,_=>by simp[yc]at hc
 |_::_,[],_,_,_,_,hc,_,_=>by simp[yc]at hc
theorem aiV{I:Nat->Nat}{kt:TypeId}{ks:List CK}(hk:wD P kt ks=true){k:D}(IU:(nT ks k k).isSome=true){u:Value}(hu:bQ φ I w k u)(e:Bool):(Instr.checkKey e 10000 kt u).run P w = .ok () w:=by
 obtain⟨b,hb⟩:=PD.1 IU;unfold wD at hk;split at hk
 .exact Z8 hk e 9999 u
 .rename_i hne
  simp only[nT,nO]at hb;obtain⟨p,hp,q,hq,hf⟩:=hb;have iO:=FQ (λk hh=>hne k hh) hp
  subst iO;simp only[bQ]at hu;obtain⟨A,rfl,ra,_⟩:=hu;unfold Dg at hk;split at hk
  .rename_i fs hfs
   simp only[bE,kZ]at hk;have:=Z9 (P:=P) (w:=w) e 9998 (A:=A) hk.2 hf (by simpa using ra)
   rw[Instr.checkKey];simp only[Sem.run_bind,run_underlying hfs,Result.andThen_ok,<-Array.forIn_toList];have e2 : ∀ (x : PUnit), (forIn fs.toList x fun f _ => if f.name ≠ "_" then(do
       let __do_lift <-part f.type A f.offset
       Instr.checkKey e 9999 f.type __do_lift
       pure (ForInStep.yield PUnit.unit))else(pure (ForInStep.yield PUnit.unit):Sem (ForInStep PUnit))).run P w = .ok PUnit.unit w:=λ_=>this
   rw[e2 PUnit.unit];rfl
  .simp at hk
theorem aiW(hs:cm φ nt m dB s g a w){rec:Rec}{d:Nat}(hc:cN P φ nt o (.mB d)=true)
  (hK:eG φ nt m dB s g w (aR rec (.mB d) s) o a K):o.wp P a w K Q:=by
 simp only[cN,bE]at hc;obtain⟨hd,h⟩:=hc;split at h
 .rename_i t ho
  have hrun:(execOp a.eval o).run P w = .ok (.value (.map (some w.heap.size))) (w.alloc (.map #[] 0)):=by
   simp[execOp,ho,Instr.makeMap,newObj];rfl
  simp only[aR,St.gk]at hK;have hg:=gM.alloc w (.map #[] 0);have hb:=zF w (.map #[] 0);refine IC hs hd (b:=w.heap.size) (off:=0) (I':=g.I) hrun hg (λ_ _=>rfl) (λb hb=>hs.heap.new b (by simp at hb;omega)) (gj _) ?_ ?_ hK
  .exact⟨#[],0,hb,⟨by simp,λi p e hp=>by simp at hp⟩,hs.heap.new _ (gj _)⟩
  .simp only[aJ]
   exact⟨by simp,rfl,λkv _=>by simp[Gh.add]⟩
 .simp at h
theorem aiX{I:Nat->Nat}{ks:List CK}{x y:D}(h:nT ks x y=some true){u v:Value}(hu:bQ φ I w x u)(hv:bQ φ I w y v):Instr.sameBits 10000 v u=true:=by
 simp only[nT,nO]at h;obtain⟨p,hp,q,hq,hf⟩:=h;have cell:∀{k:CK}{x y:D}{u v:Value}(n:Nat),Cg k x y=some true->bQ φ I w x u->bQ φ I w y v->Instr.sameBits n v u=true:=by
  intro k x y u v n h1 hu hv;unfold Cg at h1;split at h1<;>simp only[gz,reduceCtorEq,Pq]at h1
  .obtain⟨rfl,h1⟩:=h1
   have hu:=nD hu;have hv:=nD hv;subst hu;subst hv;have h1:=dM.1 h1;subst h1;cases n<;>simp[Instr.sameBits]
  .have hu:=wI hu;have hv:=wI hv;subst hu;subst hv
   have h1:=dM.1 h1;subst h1;cases n<;>simp[Instr.sameBits]
  .simp only[bQ]at hu hv
   obtain⟨bs,rfl,hb⟩:=hu;obtain⟨cs,rfl,hc⟩:=hv;have h1:=dM.1 h1;subst hb;subst hc;have hb:(cs==bs)=true:=by rw[beq_toListBytes];exact dM.2 h1.symm
   cases n<;>simp only[Instr.sameBits]<;>exact hb
 by_cases hone:∃k,ks=[k]
 .obtain⟨k,rfl⟩:=hone
  obtain⟨rfl,_⟩:=FP hp;obtain⟨rfl,_⟩:=FP hq;simp only[jQ,nO,gJ,gz]at hf;obtain⟨b1,h1,b2,rfl,h2⟩:=hf;rw[PC]at h2;subst h2;exact cell _ h1 hu hv
 .have iO:=FQ (λk hh=>hone ⟨k,hh⟩) hp
  have kg:=FQ (λk hh=>hone ⟨k,hh⟩) hq
  subst iO;subst kg;simp only[bQ]at hu hv;obtain⟨A,rfl,ra,_⟩:=hu;obtain⟨B,rfl,rb,_⟩:=hv;have hl:∀{ks:List CK}{p q:List D}{A B:List Value},jQ ks p q=some true->cy φ I w p A->cy φ I w q B->A.length=B.length/\((B.zip A).all λx=>Instr.sameBits 9999 x.1 x.2)=true:=by
   intro ks;induction ks with
   |nil =>
    intro p q A B hf ra rb;cases p<;>cases q<;>simp[jQ]at hf;cases A<;>cases B<;>simp_all[cy]
   |cons k ks ih =>
    intro p q A B hf ra rb;cases p with
    |nil=>simp[jQ]at hf
    |cons x p =>
     cases q with
     |nil=>simp[jQ]at hf
     |cons y q =>
      cases A with
      |nil=>simp[cy]at ra
      |cons a A =>
       cases B with
       |nil=>simp[cy]at rb
       |cons b B =>
        simp only[jQ,nO,gJ]at hf;obtain⟨b1,h1,b2,h2,h3⟩:=hf;simp only[bE]at h3;obtain⟨rfl,rfl⟩:=h3;simp only[cy]at ra rb;obtain⟨i1,i2⟩:=ih h2 ra.2 rb.2;exact⟨by simp[i1],by simp only[J9,xA,bE];exact⟨cell 9999 h1 ra.1 rb.1,i2⟩⟩
  obtain⟨h1,h2⟩:=hl hf ra rb;have h1':B.size=A.size:=by simpa using h1.symm
  simp only[Instr.sameBits,h1',PE,Ao];exact h2
theorem aiY{ks:List CK}{k:D}:∀{kv:List (D×V)},GY ks k kv=match kv.findIdx? (lW ks k)with |some j=>(kv[j]?).map (·.2) |none=>none
 | []=>rfl
 |p::kv=>by
  simp only[GY,xz];split
  .simp
  .rw[aiY (kv:=kv)]
   cases kv.findIdx? (lW ks k)<;>simp
theorem Uh{ks:List CK}{k:D}{v:V}:∀{kv:List (D×V)},Eg ks k v kv=match kv.findIdx? (lW ks k)with |some j=>kv.set j (k,v) |none=>kv++[(k,v)]
 | []=>rfl
 |p::kv=>by
  simp only[Eg,xz];split
  .simp
  .rw[Uh (kv:=kv)]
   cases kv.findIdx? (lW ks k)<;>simp
theorem aiZ{ks:List CK}{k:D}{kv:List (D×V)}{j:Nat}(h:kv.findIdx? (lW ks k)=some j):j<kv.length/\∃p,kv[j]?=some p/\lW ks k p=true:=by
 obtain⟨h1,h2,_⟩:=GG.1 h;exact⟨h1,kv[j],by simp[h1],h2⟩
theorem ai0{ks:List CK}{k:D}{p:D×V}(h:lW ks k p=true):nT ks k p.1=some true:=by
 unfold lW at h;cases hq:nT ks k p.1 with
 |none=>simp[hq]at h
 |some b=>simp[hq]at h;rw[h]
theorem ai1(hs:cm φ nt m dB s g a w){n:Nat}{kv kv':List (D×V)}{ES wQ:Array MapEntry}{kM wR:Nat}{ok:Bool}(hn:aU s.heap n = .mp kv)(hb:w.heap[g.β n]?=some (.map ES kM))(hI:g.I (g.β n)=0)
  (hnew:∀{h':List O}{w':World},gU s.heap g w h' g w'->uU φ h' g w' kv' wQ.toList):
  ∃w',(setObj (g.β n) (.map wQ wR)).run P w = .ok () w'/\cm φ nt m dB ⟨s.env,s.heap.set n (.mp kv'),ok⟩ g a w'/\Frame m s.heap g w (s.heap.set n (.mp kv')) g w':=by
 have hl:(aU s.heap n).live=true:=by rw[hn];rfl
 have hlt:g.β n<w.heap.size:=hs.heap.block hl;refine⟨_,MapKept.run_setObj_map (P:=P) _ hb,?_⟩;have ht:jU w {w with heap:=w.heap.setIfInBounds (g.β n) (.map wQ wR)} (g.β n):=
  ⟨by simp,λk hk=>by simp[GP (Ne.symm hk)],rfl,rfl,rfl⟩
 have hE:Ext g.I w g.I {w with heap:=w.heap.setIfInBounds (g.β n) (.map wQ wR)}:=⟨λ_=>gj _,λb i hi=>by
  by_cases cJ:b=g.β n
  .subst cJ;omega
  .exact Ix (ht.same b cJ) i⟩
 have hle:=wv (x:=.mp kv') hs.heap hl ht hE (λes he=>by simp[O.gL]at he) (λ_ _=>⟨kv,hn⟩)
 have hH:=wx (x:=.mp kv') hs.heap hl ht hle (λ_ _=>rfl) ⟨wQ,wR,by simp[hlt],hnew hle,hI⟩
 exact⟨hs.yd hl ht hle hH,wy (.mp kv') hl ht hE (λ_ _=>rfl) hle⟩
theorem ai2{ks:List CK}{k:D}{kv:List (D×V)}(h:Ci ks k kv=true):(nT ks k k).isSome=true/\(kv.all λp=>(nT ks k p.1).isSome)=true:=by
 simpa[Ci]using h
theorem ai3{h:List O}(hH:eX φ h g w){n:Nat}{v:Value}{kv:List (D×V)}(hn:aU h n = .mp kv)(hr:aJ φ h g w (.mp n) v):v = .map (some (g.β n))/\∃ES kM,w.heap[g.β n]?=some (.map ES kM)/\uU φ h g w kv ES.toList/\g.I (g.β n)=0:=by
 simp only[aJ]at hr;have:=hH.obj n;rw[hn]at this;exact⟨hr.2.2 kv hn,this⟩
theorem ai4{h:List O}{k:D}{v:Value}(hr:aJ φ h g w (.d k) v):bQ φ g.I w k v:=by simpa only[aJ]using hr
theorem ai5(hs:cm φ nt m dB s g a w){rec:Rec}{x k v:A}{ks:List CK}(hc:cN P φ nt o (.fE x k v ks)=true)(hok:(aR rec (.fE x k v ks) s).ok=true)
  (hK:eG φ nt m dB s g w (aR rec (.fE x k v ks) s) o a K):o.wp P a w K Q:=by
 simp only[cN,bE,dM]at hc;obtain⟨uX,hc⟩:=hc;have key:∀{t:TypeId}{x' k' v':Operand},(execOp a.eval o).run P w=(do Instr.mapUpdate t (a.eval x') (a.eval k') (a.eval v');pure .skip:Sem Next).run P w ->
   (dP φ x' x&&dP φ k' k&&dP φ v' v&&(match P.underlying t with |some (.map kt _)=>wD P kt ks |_=>false))=true->o.wp P a w K Q:=by
  intro t x' k' v' ho h;simp only[bE]at h;obtain⟨⟨⟨hx,hk⟩,hv⟩,ht⟩:=h;split at ht
  .rename_i kt et FR
   have rx:=eY hs hx;have rk:=eY hs hk;have rv:=eY hs hv;simp only[aR]at hok hK;obtain⟨hh,hst⟩:=Ze hok;rw[hst]at hK;unfold Ky at hst;split at hst
   .rename_i n kd fX hkv
    rw[fX]at rx;rw[hkv]at rk;split at hst
    .rename_i kv hn
     split at hst
     .rename_i dX
      obtain⟨Ui,hvk⟩:=dX;simp only[gz]at hst;subst hst;obtain⟨IU,hall⟩:=ai2 Ui;obtain⟨ex,ES,kM,hb,zK,hI⟩:=ai3 hs.heap hn rx;have qB:=ai4 rk;have e1:=aiV (P:=P) (w:=w) ht IU qB false;obtain⟨r,e2,e3⟩:=Z7 (P:=P) ht qB zK hall;have fin:∀{kv':List (D×V)}{wQ:Array MapEntry}{wR:Nat},Eg ks kd (s.get v) kv=kv'->(Instr.mapUpdate t (a.eval x') (a.eval k') (a.eval v')).run P w=(setObj (g.β n) (.map wQ wR)).run P w ->
        (∀{h':List O}{w':World},gU s.heap g w h' g w'->uU φ h' g w' kv' wQ.toList)->o.wp P a w K Q:=by
       intro kv' wQ wR ai6 hrun hnew;obtain⟨w',h1,h2,h3⟩:=ai1 (P:=P) hs (ok:=s.ok) (wR:=wR) hn hb hI hnew;refine YT (w':=w') (by rw[ho];simp[hrun,h1]) ?_
       have:=hK g undef w';rw[uX]at this⊢;subst ai6;exact this h2 h3
      cases hf:kv.findIdx? (lW ks kd)with
      |none =>
       rw[hf]at e3;subst e3;refine fin (kv':=kv++[(kd,s.get v)]) (wQ:=ES.push {key:=a.eval k',val:=a.eval v',born:=kM}) (wR:=kM+1) (by rw[Uh,hf]) ?_ λhle=>?_
       .simp[Instr.mapUpdate,run_underlying FR,ex,MapKept.run_getObj_map hb,e1,e2]
       .have hm:=Tm hle zK
        refine⟨by simpa using hm.1,λi p e hp he=>?_⟩
        rw[Array.toList_push]at he;have hlen:=hm.1;rcases sQ i kv.length with hi |hi |hi
        .rw[sP hi]at hp
         rw[sP (by omega)]at he
         exact hm.2 i p e hp he
        .subst hi
         rw[At (gj _)]at hp;rw[At (by omega)]at he
         rw[hlen]at he;simp at hp he;subst hp;subst he;exact⟨x8 hle.ext qB,lI hle rv⟩
        .rw[nN (by simp;omega)]at hp
         simp at hp
      |some j =>
       rw[hf]at e3;obtain⟨e,he,rfl⟩:=e3;obtain⟨hj,p,hp,hpk⟩:=aiZ hf;have IV:=aiX (w:=w) (ai0 hpk) qB (zK.2 j p e hp he).1;have he':ES[j]?=some e:=by simpa using he
       refine fin (kv':=kv.set j (kd,s.get v)) (wQ:=ES.modify j λe=>{e with key:=a.eval k',val:=a.eval v'}) (wR:=kM) (by rw[Uh,hf]) ?_ λhle=>?_
       .simp[Instr.mapUpdate,run_underlying FR,ex,MapKept.run_getObj_map hb,e1,e2,he',Instr.keyThatStays,IV]
       .have hm:=Tm hle zK
        refine⟨by simpa using hm.1,λi p' e' iO he'=>?_⟩
        rw[Array.toList_modify,List.getElem?_modify]at he';rw[J']at iO;split at iO
        .rename_i hij
         subst hij;simp[he]at he';simp only[hj,dH,gz]at iO;subst iO;subst he';exact⟨x8 hle.ext qB,lI hle rv⟩
        .rename_i hij
         simp[hij]at he';exact hm.2 i p' e' iO (by simpa using he')
     .simp at hst
    .simp at hst
   .simp at hst
  .simp at ht
 split at hc
 .rename_i t x' k' v' ho
  exact key (by simp[execOp,ho]) hc
 .rename_i t x' k' v' ho
  exact key (by simp[execOp,ho]) hc
 .simp at hc
theorem ai7(hs:cm φ nt m dB s g a w){rec:Rec}{d:Nat}{x k:A}{z:D}{c:Bool}{ks:List CK}(hc:cN P φ nt o (.pE d x k z c ks)=true)(hok:(aR rec (.pE d x k z c ks) s).ok=true)
  (hK:eG φ nt m dB s g w (aR rec (.pE d x k z c ks) s) o a K):o.wp P a w K Q:=by
 simp only[cN,bE]at hc;obtain⟨hd,hc⟩:=hc;split at hc
 .rename_i t x' k' c' ho
  simp only[bE,dM]at hc;obtain⟨⟨⟨hx,hk⟩,rfl⟩,ht⟩:=hc;split at ht
  .rename_i kt et FR
   simp only[bE]at ht;obtain⟨ht,hz⟩:=ht;split at hz
   .rename_i info ID
    split at hz
    .rename_i zv Ub
     have rx:=eY hs hx;have rk:=eY hs hk;simp only[aR]at hok hK;refine mX hs hd hok (λv hv=>?_) hK
     have hzero:(zeroValue et).run P w = .ok zv w:=by simp[zeroValue,typeInfo,ID,Ub]
     have fin:∀{kd:D}{kv:List (D×V)}{ES:List MapEntry}{es:Array MapEntry},s.get k = .d kd->es.toList=ES->uU φ s.heap g w kv ES->GZ ks kd z c' kv=some v ->
       (a.eval x' = .map none/\es=#[]\/∃n kM,a.eval x' = .map (some n)/\w.heap[n]?=some (.map es kM)) ->
       ∃v',(execOp a.eval o).run P w = .ok (.value v') w/\aJ φ s.heap g w v v':=by
      intro kd kv ES es qB jH zK hl hrun;rw[qB]at rk;have qB:=ai4 rk;unfold GZ at hl;split at hl
      .rename_i Ui
       obtain⟨IU,hall⟩:=ai2 Ui;have e1:=aiV (P:=P) (w:=w) ht IU qB es.isEmpty;obtain⟨r,e2,e3⟩:=Z7 (P:=P) ht qB zK hall;rw[aiY]at hl;cases hf:kv.findIdx? (lW ks kd)with
       |none =>
        rw[hf]at e3 hl;subst e3;simp only[gz]at hl;subst hl;refine⟨if c' then .tuple #[zv,.bool false]else zv,?_,?_⟩
        .rcases hrun with⟨ex,rfl⟩ |⟨n,kM,ex,hb⟩
         .simp at jH
          subst jH;simp at e1 e2;simp[execOp,ho,Instr.lookup,ex,run_underlying FR,e1,e2,hzero]
         .simp[execOp,ho,Instr.lookup,ex,run_underlying FR,MapKept.run_getObj_map hb,e1,jH,e2,hzero]
        .have:=YV (w:=w) (I:=g.I) hz
         cases c' with
         |true=>simp only[dH,aJ];exact⟨_,rfl,by simp[bR,aJ,bQ,this]⟩
         |false=>simp only[eR,dG,aJ];exact this
       |some j =>
        rw[hf]at e3 hl;obtain⟨e,he,rfl⟩:=e3;obtain⟨hj,p,hp,hpk⟩:=aiZ hf;simp only[hp,sU,gz]at hl;subst hl;have Bz:=(zK.2 j p e hp he).2;refine⟨if c' then .tuple #[e.val,.bool true]else e.val,?_,?_⟩
        .rcases hrun with⟨ex,rfl⟩ |⟨n,kM,ex,hb⟩
         .simp at jH
          subst jH;simp at he
         .simp[execOp,ho,Instr.lookup,ex,run_underlying FR,MapKept.run_getObj_map hb,e1,jH,e2]
        .cases c' with
         |true=>simp only[dH,aJ];exact⟨_,rfl,by simp[bR,aJ,bQ,Bz]⟩
         |false=>simpa only[eR,dG]using Bz
      .simp at hl
     unfold Kx at hv;split at hv
     .rename_i kd qB
      split at hv
      .rename_i n fX
       rw[fX]at rx;split at hv
       .rename_i kv hn
        obtain⟨ex,ES,kM,hb,zK,hI⟩:=ai3 hs.heap hn rx;exact fin (es:=ES) qB rfl zK hv (.inr ⟨_,_,ex,hb⟩)
       .simp at hv
      .rename_i fX
       rw[fX]at rx;have ex:a.eval x' = .map none:=by simpa[aJ,bQ]using rx
       exact fin (es:=#[]) (kv:=[]) qB rfl ⟨rfl,λi p e hp=>by simp at hp⟩ hv (.inl ⟨ex,rfl⟩)
      .simp at hv
     .simp at hv
    .simp at hz
   .simp at hz
  .simp at ht
 .simp at hc
end
end Go.VS
namespace Go.VS
section
variable {P:Program}{φ:fy}
variable {nt m dB:Nat}{s:St}{g:Gh}{a:Act}{w:World}{K:Act->World->Prop}{Q:Exit->Act->World->Prop}{o:Oper}
theorem ai8{V':Value}{x:V}{n:Int}{h:List O}(hv:asInt x=some n)(hr:aJ φ h g w x V'):∃k,V' = .int k n:=by
 cases x with
 |d z =>
  cases z with
  |i q k=>simp[asInt]at hv;subst hv;exact⟨q,nD (by simpa only[aJ]using hr)⟩
  |_=>simp[asInt]at hv
 |_=>simp[asInt]at hv
theorem ai9(hs:cm φ nt m dB s g a w){rec:Rec}{d es:Nat}{n k:A}{z:List D}(hc:cN P φ nt o (.vH d es z n k)=true)(hok:(aR rec (.vH d es z n k) s).ok=true)
  (hK:eG φ nt m dB s g w (aR rec (.vH d es z n k) s) o a K):o.wp P a w K Q:=by
 simp only[cN,bE]at hc;obtain⟨hd,h⟩:=hc;split at h
 .rename_i t n' k' ho
  simp only[bE,gi]at h;obtain⟨⟨⟨hn,hk⟩,hpos⟩,ht⟩:=h;split at ht
  .rename_i e hu
   simp only[bE]at ht;obtain⟨Ud,ht⟩:=ht;obtain⟨i,zv,hi,hz,rM,sH,hzs⟩:=Dh (g:=g) (w:=w) Ud;rw[hi]at ht;simp only[bE,dM,gi]at ht;obtain⟨hsz,hby⟩:=ht;subst hsz;have rn:=eY hs hn;have rk:=eY hs hk;simp only[aR]at hok hK;obtain⟨v,hh,hv⟩:=Bp hok;rw[hv]at hK;simp only[St.gk]at hK;unfold Kn at hv;split at hv
   .rename_i nn kk Uj hkv
    split at hv
    .rename_i dX
     obtain⟨h0,hnk,hfit,hzl⟩:=dX;simp only[gz,ud]at hv;obtain⟨rfl,rfl⟩:=hv;obtain⟨kn,en⟩:=ai8 Uj rn;obtain⟨kq,ek⟩:=ai8 hkv rk;have IT:zv.cells.size=i.size:=by
      have:=sF rM;rw[hzl]at this;simpa using this.symm
     have aja:kk.toNat<=16777216:=ng (Nat.le_mul_of_pos_right _ hpos) hfit;have hbm:(i.bytes:Int)*kk<=281474976710656:=by
      have h1:i.bytes*kk.toNat<=16777216*16777216:=J6 hby aja;have h2:(kk.toNat:Int)=kk:=by omega
      rw[<-h2];have h3:((i.bytes*kk.toNat:Nat):Int)<=((16777216*16777216:Nat):Int):=Int.ofNat_le.2 h1;rw[Int.natCast_mul]at h3;exact h3
     have hrun:=run_makeSlice (P:=P) w t e i zv hu hi hz kn kq nn kk h0 hnk hfit hbm (by omega)
     obtain⟨z1,z2,z3⟩:=NQ rM sH (by rw[hzl];exact hpos) nn.toNat
     obtain⟨y1,y2,y3⟩:=NQ rM sH (by rw[hzl];exact hpos) (kk.toNat - nn.toNat)
     have ajb:madeCells zv.cells (kk.toNat*i.size)=((Builtin.zeroCells zv.cells nn.toNat).toList++(Builtin.zeroCells zv.cells (kk.toNat - nn.toNat)).toList).toArray:=by
      have e1:∀q:Nat,(Builtin.zeroCells zv.cells q).toList=(List.replicate q zv.cells.toList).flatten:=by
       intro q;unfold Builtin.zeroCells;rw[show q*zv.cells.size=q*i.size by rw[IT]]
       exact IE q i.size zv.cells IT hpos
      apply Py;rw[e1,e1];show(madeCells zv.cells (kk.toNat*i.size)).toList=_
      unfold madeCells;rw[IE kk.toNat i.size zv.cells IT hpos,<-List.flatten_append,List.replicate_append_replicate]
      have:nn.toNat+(kk.toNat - nn.toNat)=kk.toNat:=by omega
      rw[this]
     rw[ajb]at hrun;have jI:(List.replicate nn.toNat z).length=nn.toNat:=by simp
     have:=Zo (P:=P) (K:=K) (Q:=Q) (o:=o) (a:=a) hs hd (es:=i.size) (ex:=true) (ys:=List.replicate nn.toNat z) (C:=(Builtin.zeroCells zv.cells nn.toNat).toList) (ok:=s.ok) (gM.refl w) rfl
      (rest:=(Builtin.zeroCells zv.cells (kk.toNat - nn.toNat)).toList) (T:=e) (cap:=kk.toNat)
      (by rw[jI];simp only[execOp,ho,en,ek];simp[hrun]) (λr hr=>by rw[GU]at hr;rw[hr.2,hzl]) z1 z2 (by rw[jI];omega) ?_ y2
     .refine this λg' v' w' k1 k2=>?_
      rw[jI]at k1;exact hK g' v' w' k1 k2
     .rw[z3,y3,hzl,<-Nat.add_mul]
      exact lU _ (by omega)
    .simp at hv
   .simp at hv
  .simp at ht
 .simp at h
theorem ajc(hs:cm φ nt m dB s g a w){rec:Rec}{d len es:Nat}{x i:A}(hc:cN P φ nt o (.oC d x i len es)=true)(hok:(aR rec (.oC d x i len es) s).ok=true)
  (hK:eG φ nt m dB s g w (aR rec (.oC d x i len es) s) o a K):o.wp P a w K Q:=by
 simp only[cN,bE]at hc;obtain⟨hd,h⟩:=hc;split at h
 .rename_i t y k ho
  simp only[bE]at h;obtain⟨⟨hx,hi⟩,ht⟩:=h;have rx:=eY hs hx;have ri:=eY hs hi;refine mX hs hd hok (λv hv=>?_) hK
  split at ht
  .rename_i n e hu
   simp only[bE,gi,dM]at ht;obtain⟨⟨⟨rfl,h1⟩,hsz⟩,hpos⟩:=ht;have hsz':=wJ (P:=P) (w:=w) hsz;have run:∀{b o':Nat}{q:IntKind}{j:Int},a.eval y = .pointer (some ⟨b,o',none⟩)->a.eval k = .int q j->0<=j->j<n->(execOp a.eval o).run P w = .ok (.value (.pointer (some ⟨b,o'+j.toNat*es,none⟩))) w:=by
    intro b o' q j he hk h0 hj;simp[execOp,ho,he,hk,Instr.indexAt,underlying,hu,Instr.sureAddr,asIntOf,h0,hj,hsz',qA]
   unfold oC at hv;split at hv
   .rename_i cs kk j hp hq
    rw[hp]at rx;rw[hq]at ri;have ei:=nD (by simpa only[aJ]using ri)
    simp only[aJ,bQ]at rx;obtain⟨b,o',he,hI,hcs⟩:=rx;split at hv
    .rename_i dX
     obtain⟨h0,hj,hle⟩:=dX;simp only[gz]at hv;subst hv;refine⟨_,run he ei h0 hj,?_⟩;simp only[aJ,bQ];refine⟨b,o'+j.toNat*es,rfl,?_,Y2 hcs _⟩
     have:j.toNat*es<=n*es:=lU _ (by omega)
     simp;omega
    .simp at hv
   .rename_i q r c kk j hp hq
    rw[hp]at rx;rw[hq]at ri;have ei:=nD (by simpa only[aJ]using ri)
    simp only[aJ]at rx;split at hv
    .rename_i dX
     obtain⟨h0,hj,ha⟩:=dX;simp only[gz]at hv;subst hv;obtain⟨es',jH⟩:=Fv ha;refine⟨_,run (rx.2.2 es' jH) ei h0 hj,?_⟩;simp only[aJ];refine⟨rx.1,rfl,λajd he'=>?_⟩
     rw[jH]at he';simp at he';subst he';simp[p8]
    .simp at hv
   .simp at hv
  .simp at ht
 .simp at h
end
end Go.VS
namespace Go.VS
section
variable {P:Program}{φ:fy}
variable {nt m dB:Nat}{s:St}{g:Gh}{a:Act}{w:World}{K:Act->World->Prop}{Q:Exit->Act->World->Prop}{o:Oper}
theorem aje{b:Nat}{cs:Array Value}{T:TypeId}{fr:Nat×Nat}(hb:w.heap[b]?=some (.cells cs T fr)):w.setRow b cs=w:=by
 have h:(w.setRow b cs).heap=w.heap:=by
  apply Array.ext_getElem?;intro k;by_cases hk:k=b
  .subst hk;rw[setRow_heap w k cs cs T fr hb,hb]
  .exact setRow_other w b k cs hk
 unfold World.setRow at h⊢;cases w;simp only at h;rw[h]
theorem ajf{α:Type}(cs:List α)(k:Nat):aq cs k []=cs:=by simp[aq]
theorem ajg(hs:cm φ nt m dB s g a w){rec:Rec}{d es:Nat}{x:A}{lo hi:Option A}(hc:cN P φ nt o (.sle d x lo hi es)=true)(hok:(aR rec (.sle d x lo hi es) s).ok=true)
  (hK:eG φ nt m dB s g w (aR rec (.sle d x lo hi es) s) o a K):o.wp P a w K Q:=by
 simp only[cN,bE]at hc;obtain⟨hd,h⟩:=hc;split at h
 .rename_i t y lo' hi' ho
  simp only[bE]at h;obtain⟨⟨⟨hx,hlo⟩,hhi⟩,ht⟩:=h;split at ht
  .rename_i e hu
   have rx:=eY hs hx;simp only[aR]at hok hK;obtain⟨v,h',hv⟩:=Bp hok;rw[hv]at hK;simp only[St.gk]at hK;unfold Kr at hv;split at hv
   .rename_i l hh hl II
    have bl:=NG hs hlo hl;have bh:=NG hs hhi II;have fin:∀{ad:Option Addr}{len cap:Nat},a.eval y = .slice ad len cap->AA (s.get x)=len->0<=l->l<=hh->hh<=cap ->
      (execOp a.eval o).run P w = .ok (.value (.slice (if cap=l.toNat then ad else ad.map (·.add (l.toNat*es))) (hh.toNat - l.toNat) (cap - l.toNat))) w:=by
     intro ad len cap he hlen h0 h1 h2;rw[hlen]at bh;have:=Zl (P:=P) (w:=w) hu ht bl bh (ad:=ad) (len:=len) (cap:=cap) h0 h1 h2;simp[execOp,ho,he,this]
    split at hv
    .rename_i n off len hp
     rw[hp]at rx fin;simp only[aJ]at rx;split at hv
     .rename_i e' ex rows hn
      split at hv
      .rename_i dX
       obtain⟨rfl,h0,h1,h2⟩:=dX;obtain⟨cap,he,hlc,hm,CS,T,hb,hsz⟩:=rx.2.2 e' (by rw[hn];rfl)
       rw[hn]at hm;simp only[O.len]at hm;have hrun:=fin he rfl h0 h1 (by omega)
       split at hv
       .rename_i jI
        simp at hv;obtain⟨rfl,rfl⟩:=hv;refine uW hs hd hrun ?_ hK;simp only[aJ];refine⟨rx.1,rfl,λes' he'=>?_⟩
        rw[hn]at he';simp[O.gL]at he';subst he';have hlen:(hh - l).toNat=hh.toNat - l.toNat:=by omega
        rw[hlen];refine⟨cap - l.toNat,?_,by omega,by rw[hn];simp only[O.len];omega,CS,T,hb,?_⟩
        .have dX:(if cap=l.toNat then(some ⟨g.β n,g.o n+off*e',none⟩:Option Addr)else(some ⟨g.β n,g.o n+off*e',none⟩:Option Addr).map (·.add (l.toNat*e')))=some ⟨g.β n,g.o n+(off+l.toNat)*e',none⟩:=by
          split
          .rename_i bN
           have:l.toNat=0:=by omega
           rw[this];simp
          .simp only[sU,qA]
           rw[nh,<-Nat.add_assoc]
         rw[dX]
        .have:off+l.toNat+(cap - l.toNat)=off+cap:=by omega
         rw[this];exact hsz
       .rename_i jI
        split at hv
        .rename_i hex
         subst hex;simp at hv;obtain⟨rfl,rfl⟩:=hv;have dF:=hs.heap.obj n;rw[hn]at dF;obtain⟨⟨rI,T',hb',oU⟩,dV,hI⟩:=dF;rw[hb]at hb';simp at hb';obtain⟨rfl,rfl⟩:=hb';have hz:hh.toNat - l.toNat=0:=by omega
         rw[hz]at hrun;have hlr:l.toNat<=cap:=by omega
         have nil:∀k:Nat,(rows.drop k).take 0++([]:List (List D))=[]:=by simp
         by_cases bN:cap=l.toNat
         .rw[aK bN,bN,Nat.sub_self]at hrun
          refine TV (off:=off) (len:=0) (cap:=0) (ex:=true) (ys:=[]) (news:=[]) hs hd hn hb (ng (Nat.add_le_add_left (lU _ (by omega)) _) hsz.1) hsz.2 oU (by omega) dV hI (by simp[cy]) (by simp) (by simp) (by simp) (gj _) (.inl rfl) (λ_=>?_) ?_
          .rw[ajf]
           simp only[Ww,aje hb];exact hrun
          .rw[nil];exact hK
         .rw[aE bN]at hrun
          simp only[sU,qA]at hrun;rw[show g.o n+off*e'+l.toNat*e'=g.o n+(off+l.toNat)*e' by rw[nh];omega]at hrun
          refine TV (off:=off+l.toNat) (len:=0) (cap:=cap - l.toNat) (ex:=true) (ys:=[]) (news:=[]) hs hd hn hb (by rw[show off+l.toNat+(cap - l.toNat)=off+cap by omega];exact hsz.1) hsz.2 oU (by omega) dV hI (by simp[cy]) (by simp) (by simp) (by simp) (B6 _) (.inl rfl) (λ_=>?_) ?_
          .rw[ajf]
           simp only[Ww,aje hb];exact hrun
          .rw[nil];exact hK
        .simp at hv
      .simp at hv
     .simp at hv
    .simp at hv
   .simp at hv
  .simp at ht
 .simp at h
end
end Go.VS
namespace Go.VS
section
variable {P:Program}{φ:fy}
variable {nt m dB:Nat}{s:St}{g:Gh}{a:Act}{w:World}{K:Act->World->Prop}{Q:Exit->Act->World->Prop}{o:Oper}
theorem ajh(hs:cm φ nt m dB s g a w){rec:Rec}{d n:Nat}{ag:Bool}{x:A}(hc:cN P φ nt o (.sk d x n ag)=true)(hok:(aR rec (.sk d x n ag) s).ok=true)
  (hK:eG φ nt m dB s g w (aR rec (.sk d x n ag) s) o a K):o.wp P a w K Q:=by
 simp only[aR]at hok hK;obtain⟨v,hv⟩:=Nt hok;have he:yR s.heap n ag (s.get x)=some v:=by
  unfold Kj at hv;split at hv
  .rename_i cs hx;rw[hx];exact hv
  .rename_i cs hx;rw[hx];exact hv
  .simp at hv
 refine YZ (rec:=rec) hs hc ?_ ?_
 .simp only[aR,he];rw[hv]at hok;exact hok
 .simp only[aR,he];rw[hv]at hK;exact hK
theorem aji(hs:cm φ nt m dB s g a w){rec:Rec}{d off n:Nat}{x:A}(hc:cN P φ nt o (.nS d x off n)=true)(hok:(aR rec (.nS d x off n) s).ok=true)
  (hK:eG φ nt m dB s g w (aR rec (.nS d x off n) s) o a K):o.wp P a w K Q:=by
 simp only[aR]at hok hK;obtain⟨v,hv⟩:=Nt hok;have he:fa s.heap off n (s.get x)=some v:=by
  unfold Kk at hv;split at hv
  .rename_i cs hx;rw[hx];exact hv
  .rename_i cs hx;rw[hx];exact hv
  .simp at hv
 refine Y3 (rec:=rec) hs hc ?_ ?_
 .simp only[aR,he];rw[hv]at hok;exact hok
 .simp only[aR,he];rw[hv]at hK;exact hK
def I.NT:I->Bool
 | .pG ..=>true
 |_=>false
theorem ajj{rec:Rec}(hq:l7 P φ rec)(hs:cm φ nt m dB s g a w){i:I}(hc:cN P φ nt o i=true)(hY:i.NT=false)(hok:(aR rec i s).ok=true)
  (hK:eG φ nt m dB s g w (aR rec i s) o a K):o.wp P a w K Q:=by
 cases i with
 |mv d x=>exact ahn hs hc hK
 |pick d c x y=>exact aho hs hc hok hK
 |box d x n fz=>exact ahO hs hc hok hK
 |new d z=>exact ahP hs hc hK
 |build d z ps=>exact ahR hs hc hok hK
 |lq d es n z ps fz=>exact ahS hs hc hok hK
 |ld d x n ag=>exact YZ hs hc hok hK
 |st x y n fz =>
  cases fz with
  |false=>exact ahZ hs hc hok hK
  |true=>exact ah0 hs hc hok hK
 |fa d x o n=>exact Y3 hs hc hok hK
 |jk d x i es=>exact ahI hs hc hok hK
 |bin d op x y=>exact ahq hs hc hok hK
 |eqv d neg x y ks=>exact ahx hs hc hok hK
 |p9 d neg x k=>exact ahG hs hc hok hK
 |un d op x=>exact ahr hs hc hok hK
 |kE d k x=>exact ahs hs hc hok hK
 |len d x k=>exact ahM hs hc hok hK
 |ext d x i=>exact aht hs hc hok hK
 |sl d x lo hi es=>exact ah8 hs hc hok hK
 |sle d x lo hi es=>exact ajg hs hc hok hK
 |app d x y es=>exact Zw hs hc hok hK
 |sn d x y es=>exact ais hs hc hok hK
 |nj d f xs=>exact ait hq hs hc hok hK
 |calls d f xs=>exact aix hq hs hc hok hK
 |pG d x xs=>simp[I.NT]at hY
 |ij d f x y=>exact ahu hs hc hK
 |call d f xs=>exact ah4 hq hs hc hok hK
 |nR d x xs=>exact ah5 hq hs hc hok hK
 |inv d nm j6 x xs=>exact aiH hq hs hc hok hK
 |nk d t x=>exact aiF hs hc hok hK
 |mx d x y=>exact aiE hs hc hok hK
 |mO d f xs=>exact Ua false hq hs hc hok hK
 |jf d f xs=>exact Ua true hq hs hc hok hK
 |pF d x xs=>exact air hq hs hc hok hK
 |sV d x=>exact aiy hs hc hok hK
 |sj d x off n ag=>exact aiz hs hc hok hK
 |qQ d x lo hi mz es=>exact aiB hs hc hok hK
 |qg d x es z=>exact aiC hs hc hok hK
 |copy d x y es=>exact aiD hs hc hok hK
 |cap d x=>exact aiJ hs hc hok hK
 |oC d x j len es=>exact ajc hs hc hok hK
 |vH d es z n k=>exact ai9 hs hc hok hK
 |qR d x k es z=>exact aiM hs hc hok hK
 |qT d f x y es=>exact aiR hs hc hok hK
 |bad d=>simp[aR,St.fail]at hok
 |sk d x n ag=>exact ajh hs hc hok hK
 |nS d x o n=>exact aji hs hc hok hK
 |mB d=>exact aiW hs hc hK
 |fE m k v ks=>exact ai5 hs hc hok hK
 |pE d m k z ok ks=>exact ai7 hs hc hok hK
end
end Go.VS
namespace Go.VS
def Wd(r:Option Nat):Fence:={Fence.wide with round:=r}
section
variable {P:Program}{φ:fy}
variable {nt m dB:Nat}{s:St}{g:Gh}{a:Act}{w:World}{K:Act->World->Prop}{Q:Exit->Act->World->Prop}{o:Oper}
variable {r:Option Nat}{n:Nat}
theorem ajk{f:FuncId}{args:Array Value}{R:Ending->World->Prop}(h:Calls P f args w R):CallsIn (Wd r) n P f args w R:=(callsIn_wide (n:=n)).2 h
theorem ajl{row:String}{args:Array Value}{R:Value->World->Prop}(h:Rows P row args w R):RowsIn (Wd r) n P row args w R :=
 λc cs _=>let ⟨v,w',r,s⟩:=h c cs;⟨v,w',r,stepsIn_wide.2 s⟩
theorem NU:(Wd r).depth.isSome=true->1<=n:=λh=>by simp[Wd,Fence.wide]at h
theorem ajm(hd:∀c,o.op≠.defer c)(h:o.wp P a w K Q):o.wpIn (Wd r) n P a w K Q:=by
 refine⟨λ_ _=>trivial,?_⟩
 rw[Oper.semAt_eq _ _ _ hd];unfold Oper.wp at h;generalize (execOp a.eval o).run P w=res at h⊢;cases res with
 |ok x w' =>
  cases x<;>simp only[Oper.upon,Oper.uponIn]at h⊢
  case value=>exact h
  case skip=>exact h
  case defer=>exact h
  case enter=>exact⟨NU,ajk h⟩
  case row=>exact⟨NU,ajl h⟩
 |halt x w' =>
  cases x<;>simp only[Oper.upon,Oper.uponIn]at h⊢<;>exact h
theorem ajn{i:I}(h:cN P φ nt o i=true)(hb:∀d,i≠.bad d):∀c,o.op≠.defer c:=by
 intro c hc;cases i<;>simp[cN,hc]at h;all_goals exact absurd rfl (hb _)
theorem ajo{F:Fence}{c:Code}(h:c.wpIn F n P (Exit.noGoto Q) a w):(Code.scope c).wpIn F n P Q a w:=by
 intro b k cs hro hb hr;have h0:(lone (b.atR a (.code (.scope c)::k)) cs w).fenced P F:=fenced_calm hb hr rfl;have s1:step P (lone (b.atR a (.code (.scope c)::k)) cs w) = .next (lone (b.atR a (.code c::.inScope c::k)) cs w):=step_lone_go (by simp[stepG,stepG.exec,Frame.atR])
 have s2:∀{a:Act}{w:World},step P (lone (b.atR a (.inScope c::k)) cs w) = .next (lone (b.atR a k) cs w):=step_lone_go (by simp[stepG,stepG.exec,Frame.atR])
 obtain⟨e,a₁,w₁,hq,FT⟩:=h b (.inScope c::k) cs hro hb hr;cases e with
 |normal=>exact⟨.normal,a₁,w₁,hq,.head h0 s1 (StepsIn.trans FT (.one (fenced_calm hb hr rfl) s2))⟩
 |exit id =>
  have hx:exitTo id (.inScope c::k)=exitTo id k:=by simp[exitTo]
  exact⟨.exit id,a₁,w₁,hq,λk' hk=>.head h0 s1 (FT.1 k' (by rw[hx];exact hk)),
   λhr' hk=>let ⟨k₁,h1,h2⟩:=FT.2 hr' (by rw[hx];exact hk);⟨k₁,h1,.head h0 s1 h2⟩⟩
 |goto l=>exact hq.elim
 |ret=>exact⟨_,a₁,w₁,hq,.of_steps (.one h0 s1) FT⟩
 |panic ch=>exact⟨_,a₁,w₁,hq,.of_steps (.one h0 s1) FT⟩
 |outgrown=>exact⟨_,a₁,w₁,hq,.of_steps (.one h0 s1) FT⟩
def tF:Obj->Bool
 | .cells ..=>true
 |_=>false
theorem Uk{b D i:Nat}{x:Obj}(h:b≠D):(w.putObj D x).cell? ⟨b,i,none⟩=w.cell? ⟨b,i,none⟩:=Ix (World.putObj_heap_other h) i
theorem NV{D i:Nat}{x:Obj}(h:w.heap[D]?=some x)(hx:tF x=false):w.cell? ⟨D,i,none⟩=none:=by
 simp only[World.cell?,h];cases x<;>simp[tF]at hx⊢
theorem Ul{I:Nat->Nat}{D:Nat}{x y:Obj}(h:w.heap[D]?=some x)(hx:tF x=false)(hy:tF y=false):Ext I w I (w.putObj D y):=
 ⟨λ_=>gj _,λb i _=>by
  by_cases hb:b=D
  .subst hb
   rw[NV h hx,NV (World.putObj_heap_same (Bl h)) hy]
  .exact Uk hb⟩
theorem Um{h:List O}{D:Nat}{x y:Obj}(hh:w.heap[D]?=some x)(hx:tF x=false)(hy:tF y=false)(hn:∀k,(aU h k).live=true->g.β k≠D):gU h g w h g (w.putObj D y) where
 ext:=Ul hh hx hy
 len:=gj _
 arr n es _ he:=⟨he,rfl,rfl,rfl,nC.of_eq (World.putObj_heap_other (hn n (Bj he)))⟩
 mp n kv _ hk:=⟨⟨kv,hk⟩,rfl⟩
 lp n _ hk:=⟨hk,rfl⟩
theorem Un{h:List O}{D:Nat}{x y:Obj}(hr:eX φ h g w)(hh:w.heap[D]?=some x)(hx:tF x=false)(hy:tF y=false)(hn:∀k,(aU h k).live=true->g.β k≠D):eX φ h g (w.putObj D y) where
 obj n:=by
  by_cases hl:(aU h n).live=true
  .exact Da (Um hh hx hy hn) (World.putObj_heap_other (hn n hl)) rfl (hr.obj n)
  .cases hq:aU h n<;>simp_all[O.live,gC]
 inj:=hr.inj
 new b hb:=hr.new b (by simpa using hb)
theorem Uo{h h':List O}{g':Gh}{w':World}{D:Nat}{x y:Obj}(hf:Frame m h g w h' g' w')(hh:w.heap[D]?=some x)(hy:tF y=false)
  (hn:∀k,(aU h k).live=true->g.β k≠D):Frame m h g (w.putObj D y) h' g' (w'.putObj D y) where
 ext:=⟨hf.ext.le,λb i hi=>by
  by_cases hb:b=D
  .subst hb
   have h1:=Bl hh;rw[NV (World.putObj_heap_same h1) hy,NV (World.putObj_heap_same (pg h1 hf.size)) hy]
  .rw[Uk hb,Uk hb];exact hf.ext.cell b i hi⟩
 size:=by simpa using hf.size
 os:=hf.os
 tape:=hf.tape
 output:=hf.output
 oQ:=hf.oQ
 keep b hb hl:=by
  have h1:=hf.keep b (by simpa using hb) hl
  refine⟨?_,h1.2⟩;by_cases Up:b=D
  .subst Up
   have h2:=Bl hh;rw[World.putObj_heap_same h2,World.putObj_heap_same (pg h2 hf.size)]
  .rw[World.putObj_heap_other Up,World.putObj_heap_other Up];exact h1.1
 mG k hk:=by simpa using hf.mG k hk
 oR k hk:=by
  have h1:=hf.oR k hk;refine⟨λes he=>?_,h1.mp,h1.lp⟩
  obtain⟨k1,k2,k3⟩:=h1.arr es he;have hb:=hn k (Bj k1);have hb':g.β k≠D:=hb;refine⟨k1,k2,?_⟩;rw[World.putObj_heap_other hb',World.putObj_heap_other hb'];exact k3
theorem ajp{h h':List O}{g':Gh}{w':World}{D:Nat}{x y:Obj}(hf:Frame m h g w h' g' w')(hr:eX φ h g w)(hD:w.heap.size<=D)(hh:w'.heap[D]?=some x)(hx:tF x=false)(hy:tF y=false):
  Frame m h g w h' g' (w'.putObj D y) where
 ext:=hf.ext.trans (Ul hh hx hy)
 size:=by simpa using hf.size
 os:=hf.os
 tape:=hf.tape
 output:=hf.output
 oQ:=hf.oQ
 keep b hb hl:=by
  have h1:=hf.keep b hb hl;exact⟨by rw[World.putObj_heap_other (by omega)];exact h1.1,h1.2⟩
 mG k hk:=hf.mG k hk
 oR k hk:=by
  have h1:=hf.oR k hk;refine⟨λes he=>?_,h1.mp,h1.lp⟩
  obtain⟨k1,k2,k3⟩:=h1.arr es he;have hb:=hr.block (Bj k1);refine⟨k1,k2,?_⟩;rw[World.putObj_heap_other (by omega)]
  exact k3
theorem ajq{D:Nat}{x y:Obj}:(w.putObj D x).putObj D y=w.putObj D y:=by
 simp[World.putObj]
theorem mH.put{h:List O}{ds:List Deferred}{D:Nat}{x y:Obj}(hd:mH dB h g ds w)(hh:w.heap[D]?=some x)(hx:∀l,x≠.deferred l):mH dB h g ds (w.putObj D y) where
 at_ d hm:=by
  obtain⟨E,h1,h2,h3,h4⟩:=hd.at_ d hm;refine⟨E,h1,h2,?_,h4⟩;rw[World.putObj_heap_other]
  .exact h3
  .intro he
   subst he;rw[hh]at h3;simp at h3;exact hx _ h3
 nodup:=hd.nodup
 le:=by simpa using hd.le
theorem cm.putObj{D:Nat}{x y:Obj}(hs:cm φ nt m dB s g a w)(hh:w.heap[D]?=some x)(hx:tF x=false)(hd:∀l,x≠.deferred l)(hy:tF y=false)(hn:∀k,(aU s.heap k).live=true->g.β k≠D):
  cm φ nt m dB s g a (w.putObj D y) where
 env k:=lI (Um hh hx hy hn) (hs.env k)
 heap:=Un hs.heap hh hx hy hn
 size:=hs.size
 defers:=hs.defers.put hh hd
 len:=hs.len
end
end Go.VS
namespace Go.VS
def tG(rc:Loop)(e:Ex):Loop:={rc with state:=if e = .normal then .ready else .done,pending:=wq e}
def tH(P:Program)(φ:fy)(rec:Rec):Prop :=
 ∀(ps:List Nat)(A B:C)(xs:List V)(env:List (Nat×V))(h:List O)(e:Ex)(env':List (Nat×V))(h1:List O),rec (.round ps A B xs env h)=some (.out e env' h1) ->
 ∀(n:Nat)(r:Option Nat)(g:Gh)(w:World)(l:Nat)(rc:Loop)(nt:Nat)(args:List Value),φ.lk ps A B rc.assign rc.body nt->nt<=rc.tmps.size->rc.params=ps.toArray->eX φ h g w ->
  bR φ h g w xs args->C8 φ h g w env rc.tmps->xs.length=ps.length->w.heap[l]?=some (.loop rc)->rc.state = .ready->(∀k,(aU h k).live=true->g.β k≠l) ->
  RoundIn (Wd r) n P l rc.fn ((rc.params.zip args.toArray).foldl (λtmps (t,a)=>tmps.setIfInBounds t a) rc.tmps) rc.assign rc.body w λe' w' =>
   ∃g',e' = .returned (.bool (wq e).isNone)/\eX φ h1 g' w'/\Frame h.length h g (w.putObj l (.loop (tG rc e))) h1 g' w'
section
variable {P:Program}{φ:fy}
variable {nt m dB:Nat}{s:St}{g:Gh}{a:Act}{w:World}{K:Act->World->Prop}{Q:Exit->Act->World->Prop}{o:Oper}
variable {r:Option Nat}{n:Nat}
theorem ajr{rec:Rec}{h:List O}{x:V}{xs:List V}{v2:V}{h2:List O}(hc:oE rec h x xs=some (v2,h2)):∃k ps A B env L e env' h1,x = .jj k/\aU h k = .lp ps A B .normal env/\xs.length=ps.length /\
  cut (h.set k .dead) 0 (V.gA xs++qW env)=some L/\k∉L/\rec (.round ps A B (V.iL (L.idxOf ·) xs) (yQ (L.idxOf ·) env) (sub (h.set k .dead) L))=some (.out e env' h1)/\L.length<=h1.length /\
  v2 = .d (.b (wq e).isNone)/\h2=mK (h.set k (.lp ps A B e env)) L h1:=by
 unfold oE at hc;split at hc<;>try (simp at hc;done)
 rename_i k;split at hc<;>try (simp at hc;done)
 rename_i ps A B env hk;split at hc<;>try (simp at hc;done)
 rename_i hlen;split at hc<;>try (simp at hc;done)
 rename_i L hL;split at hc<;>try (simp at hc;done)
 rename_i hn;split at hc<;>try (simp at hc;done)
 rename_i e env' h1 hr;split at hc<;>try (simp at hc;done)
 rename_i hle;simp only[gz,ud]at hc;refine⟨k,ps,A,B,env,L,e,env',h1,rfl,hk,hlen,hL,hn,hr,hle,?_,?_⟩
 .rw[<-hc.1];cases e<;>rfl
 .rw[<-hc.2];simp[mK]
theorem sub_congr{h h':List O}{L:List Nat}(he:∀n∈L,aU h n=aU h' n):sub h L=sub h' L:=by
 unfold sub;exact vu λn hn=>by rw[he n hn]
theorem ajs{D:Nat}{y:Obj}:jU w (w.putObj D y) D:=⟨by simp,λ_ hk=>World.putObj_heap_other hk,rfl,rfl,rfl⟩
theorem ajt{h:List O}{L:List Nat}{env:List (Nat×V)}{tmps:Array Value}(hl:∀n∈qW env,n∈L)(hr:C8 φ h g w env tmps):C8 φ (sub h L) (iI g L) w (yQ (L.idxOf ·) env) tmps:=by
 intro p hp;simp only[yQ,gF]at hp;obtain⟨q,hq,rfl⟩:=hp;exact FI (λn hn=>hl n (NJ hq hn)) (hr q hq)
theorem aju{h:List O}{L:List Nat}{k:Nat}(hr:eX φ h g w)(hk:k∉L)(hl:(aU h k).live=true):∀j,(aU (sub (h.set k .dead) L) j).live=true->(iI g L).β j≠g.β k:=by
 intro j hj hb;by_cases hlt:j<L.length
 .have hg:L[j]?=some L[j]:=by simp[hlt]
  have hne:L[j]≠k:=λhe=>hk (he▸vw hlt)
  rw[mJ hg,wO,pS hne]at hj;simp only[iI,List.getD,hg,vD]at hb;exact hne (hr.inj _ _ hj hl hb)
 .rw[FH (by omega)]at hj;simp[O.live]at hj
theorem ajv{rec:Rec}(hy:tH P φ rec)(hs:cm φ nt m dB s g a w){d:Option Nat}{x:A}{xs:List A}(hc:cN P φ nt o (.pG d x xs)=true)(hok:(aR rec (.pG d x xs) s).ok=true)
  (hK:eG φ nt m dB s g w (aR rec (.pG d x xs) s) o a K):o.wpIn (Wd r) n P a w K Q:=by
 have hdf:=ajn hc (by simp)
 simp only[cN,bE]at hc;obtain⟨hd,h⟩:=hc;split at h
 .rename_i c ho
  split at h
  .rename_i y iD
   simp only[bE]at h;obtain⟨hx,hxs⟩:=h;simp only[aR]at hok hK;have rx:=eY hs hx;have yh:=wE hs hxs;obtain⟨⟨v2,h2⟩,hv⟩:=xG hok;rw[hv]at hK;obtain⟨k,ps,A,B,env,L,e,env',h1,hxk,hk,hlen,hL,hkL,gV,hle,rfl,rfl⟩:=ajr hv;rw[hxk]at rx;simp only[aJ]at rx;have rP:=rx.2.2 (by rw[hk];rfl)
   have hl:(aU s.heap k).live=true:=by rw[hk];rfl
   have dF:=hs.heap.obj k;rw[hk]at dF;obtain⟨rc,yt,hb,hps,hlk,hnt,NW,hst,Bz,hI⟩:=dF;simp only[dH]at hst;have hal:(c.args.toList.map a.eval).length=ps.length:=by
    rw[<-oP yh];exact hlen
   refine⟨λ_ _=>trivial,?_⟩
   rw[Oper.semAt_eq _ _ _ hdf];have hyd:=run_yield (P:=P) hb (args:=c.args.map a.eval) (by rw[hps];simpa using hal)
   have hrun:(execOp a.eval o).run P w = .ok (.round (g.β k) rc.fn ((rc.params.zip (c.args.map a.eval)).foldl (λtmps (t,a)=>tmps.setIfInBounds t a) rc.tmps) rc.assign rc.body) w:=by
    simp[execOp,ho,resolve,iD,rP,Deferred.ofValue,invoke,hyd]
   rw[hrun,Oper.uponIn_round];refine⟨NU,?_⟩;obtain⟨hnd,yp,bN,_,_⟩:=Dq hL;obtain⟨kS,kF,kle⟩:=hs.kill hl s.ok;have ajw:=hy ps A B _ _ _ e env' h1 gV (n - 1) r (iI g L) w (g.β k) rc yt (c.args.toList.map a.eval) hlk hnt hps (FJ hL kS.heap)
    (ym (λn hn=>yp n (D7 _ hn)) (ya kle yh)) (ajt (λn hn=>yp n (GL _ hn)) (Tn kle NW))
    (by rw[IP];exact hlen) hb hst (aju hs.heap hkL hl)
   have hargs:(c.args.toList.map a.eval).toArray=c.args.map a.eval:=by rw[<-Array.toList_map]
   rw[hargs]at ajw;refine RoundIn.mono ajw λe' w' hh=>?_
   obtain⟨g1,rfl,rO,hfr⟩:=hh;have ht:jU w (w.putObj (g.β k) (.loop (tG rc e))) (g.β k):=ajs;have hE:Ext g.I w g.I (w.putObj (g.β k) (.loop (tG rc e))):=Ul hb rfl rfl;have jV:gU s.heap g w (s.heap.set k (.lp ps A B e env)) (g.eo g.I) (w.putObj (g.β k) (.loop (tG rc e))):=
    wv hs.heap hl ht hE (λes he=>by simp[O.gL]at he) (λkv hk=>by simp at hk) (λ_=>by rw[hk];rfl)
   have hH:eX φ (s.heap.set k (.lp ps A B e env)) (g.eo g.I) (w.putObj (g.β k) (.loop (tG rc e))):=
    wx hs.heap hl ht jV (λ_ _=>rfl) ⟨tG rc e,yt,World.putObj_heap_same (Bl hb),hps,hlk,hnt,Tn jV NW,rfl,rfl,hI⟩
   have pY:=wy (m:=m) (.lp ps A B e env) hl ht hE (λ_ _=>rfl) jV
   have hsub:sub (s.heap.set k .dead) L=sub (s.heap.set k (.lp ps A B e env)) L:=sub_congr λn hn=>by
    have hne:n≠k:=λhe=>hkL (he▸hn)
    rw[pS hne,pS hne]
   rw[hsub,yl]at hfr;have M:jW φ (s.heap.set k (.lp ps A B e env)) L g (w.putObj (g.β k) (.loop (tG rc e))) h1 g1 w':=⟨hH,hnd,λn hn=>by simpa using(bN n hn).1,hle,rO,hfr⟩
   have hlen':m<=(s.heap.set k (.lp ps A B e env)).length:=by simpa using hs.len
   have hF:=pY.trans (M.frame hlen');have hS:∀ok,cm φ nt m dB ⟨s.env,mK (s.heap.set k (.lp ps A B e env)) L h1,ok⟩ (jJ (s.heap.set k (.lp ps A B e env)) L g g1) a w':=λok =>
    ⟨λj=>lI (jV.trans M.hle) (hs.env j),M.gf,hs.size,hs.defers.frame hF,ng hlen' M.hle.len⟩
   obtain⟨e1,e2⟩:=Dk hd;refine hK (jJ (s.heap.set k (.lp ps A B e env)) L g g1) (.bool (wq e).isNone) w' ?_ ?_
   .rw[e1]
    cases d with
    |none=>exact hS _
    |some d=>exact(hS s.ok).wF (e2 d rfl) (by simp[aJ,bQ])
   .cases d with
    |none=>exact hF
    |some d=>exact hF
  .simp at h
 .simp at h
theorem ajx{rec:Rec}(hq:l7 P φ rec)(hy:tH P φ rec)(hs:cm φ nt m dB s g a w){i:I}(hc:cN P φ nt o i=true)(hok:(aR rec i s).ok=true)
  (hK:eG φ nt m dB s g w (aR rec i s) o a K):o.wpIn (Wd r) n P a w K Q:=by
 by_cases hi:i.NT=true
 .cases i<;>simp[I.NT]at hi
  exact ajv hy hs hc hok hK
 .refine ajm (ajn hc λd he=>?_) (ajj hq hs hc (by simpa using hi) hok hK)
  subst he;simp[aR,St.fail]at hok
end
end Go.VS
namespace Go.VS
def I.reads:I->List A
 | .mv _ x=>[x]
 | .pick _ c a b=>[c,a,b]
 | .box _ x _ _=>[x]
 | .new ..=>[]
 | .build _ _ ps=>ps.map λp=>p.2.2
 | .lq _ _ _ _ ps _=>ps.map λp=>p.2
 | .ld _ x _ _=>[x]
 | .st x y _ _=>[x,y]
 | .fa _ x _ _=>[x]
 | .jk _ x i _=>[x,i]
 | .oC _ x i _ _=>[x,i]
 | .sj _ x _ _ _=>[x]
 | .bin _ _ x y=>[x,y]
 | .eqv _ _ x y _=>[x,y]
 | .p9 _ _ x _=>[x]
 | .un _ _ x=>[x]
 | .kE _ _ x=>[x]
 | .len _ x _=>[x]
 | .sl _ x lo hi _ | .sle _ x lo hi _=>x::(lo.toList++hi.toList)
 | .app _ x y _=>[x,y]
 | .qg _ x _ _=>[x]
 | .copy _ x y _=>[x,y]
 | .ext _ x _=>[x]
 | .ij _ _ a b=>a++b
 | .mB _=>[]
 | .fE m k v _=>[m,k,v]
 | .pE _ m k _ _ _=>[m,k]
 | .call _ _ xs=>xs
 | .mO _ _ xs=>xs
 | .jf _ _ xs=>xs
 | .nR _ x xs=>x::xs
 | .pF _ x xs=>x::xs
 | .sV _ x=>[x]
 | .qQ _ x lo hi mz _=>[x,lo,hi,mz]
 | .cap _ x=>[x]
 | .qR _ x k _ _=>[x,k]
 | .qT _ _ x y _=>[x,y]
 | .bad _=>[]
 | .sk _ x _ _=>[x]
 | .nS _ x _ _=>[x]
 | .pG _ x xs=>x::xs
 | .sn _ x y _=>[x,y]
 | .nj _ _ xs=>xs
 | .calls _ _ xs=>xs
 | .nk _ _ x=>[x]
 | .inv _ _ _ x xs=>x::xs
 | .mx _ x y=>[x,y]
 | .vH _ _ _ n k=>[n,k]
def I.quiet:I->Bool
 | .mv .. | .pick .. | .build .. | .ld .. | .fa .. | .jk .. | .oC .. | .sj .. | .bin .. | .eqv .. | .p9 .. | .un .. | .kE .. | .len .. | .sl .. | .ext .. | .ij .. | .pE ..
 | .call .. | .nR .. | .sV .. | .qQ .. | .cap .. | .qT .. | .sk .. | .nS .. | .calls .. | .nk .. | .inv .. | .mx ..=>true
 | .box _ _ _ fz=>fz
 | .lq _ _ _ _ _ fz=>fz
 |_=>false
def I.blind:I->Bool
 | .mv .. | .pick .. | .build .. | .sj .. | .bin .. | .eqv .. | .un .. | .kE .. | .ext .. | .ij .. | .call .. | .nR .. | .sV .. | .sk .. | .nS .. | .nk .. | .inv .. | .mx ..=>true
 | .box _ _ _ fz=>fz
 | .lq _ _ _ _ _ fz=>fz
 |_=>false
def W(d:Option Nat)(v:V):List (Nat×V):=
 match d with
 |some d=>[(d,v)]
 |none=>[]
def Alike(q:Bool)(d:Option Nat)(s s' r r':St):Prop :=
 r.ok=true->s'.ok=true->r'.ok=true/\∃v,r.env=W d v++s.env/\r'.env=W d v++s'.env/\((r.heap=s.heap/\r'.heap=s'.heap)\/(q=false/\r.heap=r'.heap))
section
variable {q:Bool}{s s':St}
theorem Alike.put{d:Nat}{v:V}:Alike q (some d) s s' (s.put d v) (s'.put d v):=λ_ h'=>⟨h',v,rfl,rfl,.inl ⟨rfl,rfl⟩⟩
theorem Alike.eZ{d:Nat}{o:Option V}:Alike q (some d) s s' (s.eZ d o) (s'.eZ d o):=by
 cases o with
 |none=>intro h;simp[St.eZ,St.fail]at h
 |some v=>exact Alike.put
theorem Alike.fail{d:Option Nat}{r:St}:Alike q d s s' s.fail r:=λh=>by simp[St.fail]at h
theorem Alike.skip{r:St}(hr:r=s'):Alike q none s s' s r:=by subst hr;exact λ_ h'=>⟨h',.u,rfl,rfl,.inl ⟨rfl,rfl⟩⟩
theorem Alike.gk{d:Nat}{o:Option (V×List O)}:Alike false (some d) s s' (s.gk d o) (s'.gk d o):=by
 cases o with
 |none=>intro h;simp[St.gk,St.fail]at h
 |some p=>exact λ_ h'=>⟨h',p.1,rfl,rfl,.inr ⟨rfl,rfl⟩⟩
theorem Alike.lz{d:Option Nat}{o:Option (V×List O)}:Alike false d s s' (s.lz d o) (s'.lz d o):=by
 cases o with
 |none=>intro h;simp[St.lz,St.fail]at h
 |some p =>
  cases d with
  |none=>exact λ_ h'=>⟨h',.u,rfl,rfl,.inr ⟨rfl,rfl⟩⟩
  |some d=>exact λ_ h'=>⟨h',p.1,rfl,rfl,.inr ⟨rfl,rfl⟩⟩
theorem Alike.mP{d:Option Nat}{o:Option V}:Alike q d s s' (s.mP d o) (s'.mP d o):=by
 cases o with
 |none=>intro h;simp[St.mP,St.fail]at h
 |some v =>
  cases d with
  |none=>exact λ_ h'=>⟨h',.u,rfl,rfl,.inl ⟨rfl,rfl⟩⟩
  |some d=>exact λ_ h'=>⟨h',v,rfl,rfl,.inl ⟨rfl,rfl⟩⟩
theorem Alike.so{o:Option (List O)}:Alike false none s s' (s.so o) (s'.so o):=by
 cases o with
 |none=>intro h;simp[St.so,St.fail]at h
 |some h=>exact λ_ h'=>⟨h',.u,rfl,rfl,.inr ⟨rfl,rfl⟩⟩
end
theorem wS{s s':St}{xs:List A}(h:∀x∈xs,s.get x=s'.get x):xs.map s'.get=xs.map s.get:=vu λx hx=>(h x hx).symm
theorem NX{s s':St}{dflt:Int}{x:Option A}(h:∀a∈x.toList,s.get a=s'.get a):uf s' dflt x=uf s dflt x:=by
 cases x with
 |none=>rfl
 |some a=>simp[uf,h a (by simp)]
theorem NY{rec:Rec}{i:I}{s s':St}(h:∀x∈i.reads,s.get x=s'.get x)(hh:s.heap=s'.heap\/i.blind=true):Alike i.quiet i.wr s s' (aR rec i s) (aR rec i s'):=by
 cases i with
 |box d x n fz =>
  have hx:=h x (by simp[I.reads])
  simp only[aR,<-hx];split
  .cases fz with
   |true=>exact Alike.put
   |false=>simp[I.blind]at hh;simp only[<-hh,I.quiet,eR,dG];exact Alike.gk
  .exact Alike.fail
 |lq d es n z ps fz =>
  have hx:(ps.map λp=>(p.1,s'.get p.2))=ps.map λp=>(p.1,s.get p.2):=vu λp hp=>by rw[h p.2 (by simp only[I.reads];exact gF.2 ⟨p,hp,rfl⟩)]
  simp only[aR,hx];cases fz with
  |true=>exact Alike.eZ
  |false=>simp[I.blind]at hh;simp only[<-hh,I.quiet,eR,dG];exact Alike.gk
 |build d z ps =>
  have hx:(ps.map λp=>(p.1,p.2.1,s'.get p.2.2))=ps.map λp=>(p.1,p.2.1,s.get p.2.2):=vu λp hp=>by rw[h p.2.2 (by simp only[I.reads];exact gF.2 ⟨p,hp,rfl⟩)]
  simp only[aR,hx];exact Alike.eZ
 |st x y n fz =>
  have hx:=h x (by simp[I.reads])
  have hy:=h y (by simp[I.reads])
  simp[I.blind]at hh;simp only[aR,<-hx,<-hy,<-hh,I.quiet];cases fz with
  |false =>
   have:(I.st x y n false).wr=none:=by cases x<;>rfl
   rw[this];exact Alike.so
  |true =>
   cases x with
   |k z=>simp only[dH];exact Alike.fail
   |t d =>
    simp only[dH,I.wr];generalize s.get (.t d)=v;cases v with
    |loc m r c =>
     cases r with
     |succ r=>exact Alike.fail
     |zero =>
      cases c with
      |succ c=>exact Alike.fail
      |zero =>
       simp only;split
       .split
        .exact Alike.gk
        .exact Alike.fail
       .exact Alike.fail
    |_=>exact Alike.fail
 |pick d c a b =>
  have hc:=h c (by simp[I.reads]);have ha:=h a (by simp[I.reads]);have hb:=h b (by simp[I.reads])
  simp only[aR,<-hc,<-ha,<-hb];split
  .exact Alike.put
  .exact Alike.fail
 |sV d x =>
  have hx:=h x (by simp[I.reads])
  simp only[aR,<-hx];split<;>first |exact Alike.put |exact Alike.fail
 |ij d f a b =>
  have ha:=wS (xs:=a) (λx hx=>h x (by simp[I.reads,hx]))
  have hb:=wS (xs:=b) (λx hx=>h x (by simp[I.reads,hx]))
  simp only[aR,ha,hb];split<;>exact Alike.put
 |call d f xs =>
  simp only[aR,wS (xs:=xs) h];exact Alike.mP
 |nR d x xs =>
  have hx:=h x (by simp[I.reads])
  simp only[aR,<-hx,wS (xs:=xs) (λy hy=>h y (by simp[I.reads,hy]))]
  exact Alike.mP
 |inv d nm j6 x xs =>
  have hx:=h x (by simp[I.reads])
  simp only[aR,<-hx,wS (xs:=xs) (λy hy=>h y (by simp[I.reads,hy]))]
  exact Alike.mP
 |nk d t x=>have hx:=h x (by simp[I.reads]);simp only[aR,<-hx];exact Alike.eZ
 |mx d x y=>have hx:=h x (by simp[I.reads]);have hy:=h y (by simp[I.reads]);simp only[aR,<-hx,<-hy];exact Alike.eZ
 |mO d f xs =>
  simp[I.blind]at hh;simp only[aR,wS (xs:=xs) h,<-hh];exact Alike.lz
 |jf d f xs =>
  simp[I.blind]at hh;simp only[aR,wS (xs:=xs) h,<-hh];exact Alike.lz
 |pF d x xs =>
  have hx:=h x (by simp[I.reads])
  simp[I.blind]at hh;simp only[aR,<-hx,wS (xs:=xs) (λy hy=>h y (by simp[I.reads,hy])),<-hh]
  exact Alike.lz
 |sn d x y es =>
  have hx:=h x (by simp[I.reads]);have hy:=h y (by simp[I.reads])
  simp[I.blind]at hh;simp only[aR,<-hx,<-hy,<-hh];exact Alike.gk
 |nj d f xs =>
  simp[I.blind]at hh;simp only[aR,wS (xs:=xs) h,<-hh];exact Alike.gk
 |calls d f xs =>
  simp[I.blind]at hh;simp only[aR,wS (xs:=xs) h,<-hh];exact Alike.mP
 |pG d x xs =>
  have hx:=h x (by simp[I.reads])
  simp[I.blind]at hh;simp only[aR,<-hx,wS (xs:=xs) (λy hy=>h y (by simp[I.reads,hy])),<-hh]
  exact Alike.lz
 |sl d x lo hi es =>
  have hx:=h x (by simp[I.reads])
  simp[I.blind]at hh;simp only[aR,<-hx,<-hh,NX (s:=s) (s':=s') (x:=lo) (λa ha=>h a (by simp only[I.reads];simp at ha;simp[ha])),NX (s:=s) (s':=s') (x:=hi) (λa ha=>h a (by simp only[I.reads];simp at ha;simp[ha]))]
  exact Alike.eZ
 |sle d x lo hi es =>
  have hx:=h x (by simp[I.reads])
  simp[I.blind]at hh;simp only[aR,<-hx,<-hh,NX (s:=s) (s':=s') (x:=lo) (λa ha=>h a (by simp only[I.reads];simp at ha;simp[ha])),NX (s:=s) (s':=s') (x:=hi) (λa ha=>h a (by simp only[I.reads];simp at ha;simp[ha]))]
  exact Alike.gk
 |new d z=>simp[I.blind]at hh;simp only[aR,<-hh];exact Alike.gk
 |mB d=>simp[I.blind]at hh;simp only[aR,<-hh];exact Alike.gk
 |app d x y es =>
  have hx:=h x (by simp[I.reads]);have hy:=h y (by simp[I.reads])
  simp[I.blind]at hh;simp only[aR,<-hx,<-hy,<-hh];exact Alike.gk
 |copy d x y es =>
  have hx:=h x (by simp[I.reads]);have hy:=h y (by simp[I.reads])
  simp[I.blind]at hh;simp only[aR,<-hx,<-hy,<-hh];exact Alike.lz
 |qg d x es z =>
  have hx:=h x (by simp[I.reads])
  simp[I.blind]at hh;simp only[aR,<-hx,<-hh];exact Alike.lz
 |fE a b c ks =>
  have ha:=h a (by simp[I.reads]);have hb:=h b (by simp[I.reads]);have hc:=h c (by simp[I.reads])
  simp[I.blind]at hh;simp only[aR,<-ha,<-hb,<-hc,<-hh];exact Alike.so
 |pE d a b z ok ks =>
  have ha:=h a (by simp[I.reads]);have hb:=h b (by simp[I.reads])
  simp[I.blind]at hh;simp only[aR,<-ha,<-hb,<-hh];exact Alike.eZ
 |jk d a b es =>
  have ha:=h a (by simp[I.reads]);have hb:=h b (by simp[I.reads])
  simp[I.blind]at hh;simp only[aR,<-ha,<-hb,<-hh];exact Alike.eZ
 |oC d a b es =>
  have ha:=h a (by simp[I.reads]);have hb:=h b (by simp[I.reads])
  simp[I.blind]at hh;simp only[aR,<-ha,<-hb,<-hh];exact Alike.eZ
 |bin d op a b =>
  have ha:=h a (by simp[I.reads]);have hb:=h b (by simp[I.reads])
  simp only[aR,<-ha,<-hb];exact Alike.eZ
 |eqv d neg a b ks =>
  have ha:=h a (by simp[I.reads]);have hb:=h b (by simp[I.reads])
  simp only[aR,<-ha,<-hb];exact Alike.eZ
 |ld d x n ag=>have hx:=h x (by simp[I.reads]);simp[I.blind]at hh;simp only[aR,<-hx,<-hh];exact Alike.eZ
 |fa d x n ag=>have hx:=h x (by simp[I.reads]);simp[I.blind]at hh;simp only[aR,<-hx,<-hh];exact Alike.eZ
 |p9 d neg x k=>have hx:=h x (by simp[I.reads]);simp[I.blind]at hh;simp only[aR,<-hx,<-hh];exact Alike.eZ
 |len d x k=>have hx:=h x (by simp[I.reads]);simp[I.blind]at hh;simp only[aR,<-hx,<-hh];exact Alike.eZ
 |sj d x n k ag=>have hx:=h x (by simp[I.reads]);simp only[aR,<-hx];exact Alike.eZ
 |un d op x=>have hx:=h x (by simp[I.reads]);simp only[aR,<-hx];exact Alike.eZ
 |kE d k x=>have hx:=h x (by simp[I.reads]);simp only[aR,<-hx];exact Alike.eZ
 |ext d x i=>have hx:=h x (by simp[I.reads]);simp only[aR,<-hx];exact Alike.eZ
 |qQ d x lo hi mz es =>
  have hx:=h x (by simp[I.reads]);have hl:=h lo (by simp[I.reads]);have hi:=h hi (by simp[I.reads]);have hm:=h mz (by simp[I.reads])
  simp[I.blind]at hh;simp only[aR,<-hx,<-hl,<-hi,<-hm,<-hh];exact Alike.eZ
 |cap d x=>have hx:=h x (by simp[I.reads]);simp[I.blind]at hh;simp only[aR,<-hx,<-hh];exact Alike.eZ
 |qR d x k es z =>
  have hx:=h x (by simp[I.reads]);have hk:=h k (by simp[I.reads])
  simp[I.blind]at hh;simp only[aR,<-hx,<-hk,<-hh];exact Alike.gk
 |vH d es z n k =>
  have hx:=h n (by simp[I.reads]);have hk:=h k (by simp[I.reads])
  simp[I.blind]at hh;simp only[aR,<-hx,<-hk,<-hh];exact Alike.gk
 |qT d f x y es =>
  have hx:=h x (by simp[I.reads]);have hy:=h y (by simp[I.reads])
  simp[I.blind]at hh;simp only[aR,<-hx,<-hy,<-hh];exact Alike.eZ
 |bad d=>exact Alike.fail
 |sk d x n ag=>have hx:=h x (by simp[I.reads]);simp only[aR,<-hx];exact Alike.eZ
 |nS d x n ag=>have hx:=h x (by simp[I.reads]);simp only[aR,<-hx];exact Alike.eZ
 |mv d x=>have hx:=h x (by simp[I.reads]);simp only[aR,<-hx];exact Alike.put
end Go.VS
