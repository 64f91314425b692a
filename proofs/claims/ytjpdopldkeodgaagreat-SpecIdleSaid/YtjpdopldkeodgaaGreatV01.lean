import Derived.Test.YtjpdopldkeodgaaGreatV00
import Derived.Laws.AppendOwn
import GoSem.Builtin.Copy
import GoSem.Builtin.Clear
import Derived.Laws.Externs
import Derived.KernelRfl
import Derived.MapKept
import Derived.Laws.MakeOwn
set_option linter.all false
set_option maxHeartbeats 1000000
namespace Go.VS
section
variable {P:Program}{φ:fD}
variable {nt m dB:Nat}{s:St}{g:Gh}{a:Act}{w:World}{K:Act->World->Prop}{Q:Exit->Act->World->Prop}{o:Oper}
theorem Jh{b:Nat}{w':World}(ht:jY w w' b){cur:Array Value}{T:TypeId}(hg:w.heap[b]?=some (.cells cur T (0,0))){p:Nat}{us:List Value}(hp:p+us.length<=cur.size)
  (hw':w'.heap[b]?=some (.cells (av cur.toList p us).toArray T (0,0))){I I':Nat->Nat}(hI:I b<=p)(yC:∀k,I k<=I' k):Ext I w I' w' :=
 ⟨yC,λk i hi=>by
  by_cases hk:k=b
  .subst hk
   have:=DB (cs:=cur.toList) (new:=us) (o:=p) (by simpa using hp) i
   simp only[World.cell?,hw',hg,Cs];rw[aN (by omega)]at this
   simpa using this
  .exact Ja (ht.same k hk) i⟩
theorem cj.yA(hs:cj φ nt m dB s g a w){n:Nat}{x:O}{w':World}{I':Nat->Nat}{ok:Bool}(hl:(aV s.heap n).live=true)(ht:jY w w' (g.β n))(hle:gT s.heap g w (s.heap.set n x) (g.ez I') w')(hr:fj φ (s.heap.set n x) (g.ez I') w'):
  cj φ nt m dB ⟨s.env,s.heap.set n x,ok⟩ (g.ez I') a w' :=
 ⟨λk=>lU hle (hs.env k),hr,hs.size,hs.defers.yA hl ht,by simpa using hs.len⟩
theorem Ux(hs:cj φ nt m dB s g a w){n r c es k:Nat}{rows:List (List V)}{row:List V}{xs:List V}{us:List Value}{t:TypeId}{v:Value}{x:O}{ok:Bool}
  (hl:(aV s.heap n).live=true)(jN:(aV s.heap n).gN=some es)(hlen:(aV s.heap n).len=rows.length)
  (dF:(∃CS T,w.heap[g.β n]?=some (.cells CS T (0,0))/\g.o n+es*rows.length<=CS.size)/\wE φ s.heap g w (g.β n) es (g.o n) rows/\g.I (g.β n)<=g.o n)
  (hrow:rows[r]?=some row)(hc:c+k<=row.length)(hxl:xs.length=k)(hsz:jD P t k=true)(hv:v.cells.size=k)(FT:v.cells.toList=us)
  (hx:bU φ s.heap g w xs us)(h1:∀u∈us,u.oneCell'=true)
  (Oe:x.gN=some es/\x.len=rows.length/\(∀kv,x≠.mp kv))
  (hxr:∀{h':List O}{g':Gh}{w':World},(∃CS T,w'.heap[g.β n]?=some (.cells CS T (0,0))/\g.o n+es*rows.length<=CS.size)->wE φ h' g' w' (g.β n) es (g.o n) (rows.set r (av row c xs))->g'.I (g.β n)<=g.o n->gC φ h' g' w' (g.β n) (g.o n) x):
  ∃w',(Instr.storeAt t (.pointer (some ⟨g.β n,g.o n+r*es+c,none⟩)) v).run P w = .ok () w'/\cj φ nt m dB ⟨s.env,s.heap.set n x,ok⟩ g a w'/\Frame m s.heap g w (s.heap.set n x) g w':=by
 obtain⟨⟨cur,T,hg,hfit⟩,dZ,hI⟩:=dF;have Uw:=pz hx;have hrl:row.length=es:=(dZ r row hrow).1;have FR:r<rows.length:=by
  rcases lG r rows.length with h2 |h2
  .exact h2
  .simp[oc h2]at hrow
 have hin:(r+1)*es<=es*rows.length:=by rw[jt es];exact l7 es FR
 rw[rM]at hin;obtain⟨w',hrun,ht,hw'⟩:=ah7 (P:=P) (w:=w) hsz (off:=g.o n+r*es+c) hg hv (by omega) (by rw[FT];exact h1)
 rw[FT]at hw';have hE:Ext g.I w g.I w':=Jh ht hg (by omega) hw' (by omega) (λ_=>gh _)
 have hsize:(av cur.toList (g.o n+r*es+c) us).toArray.size=cur.size:=by
  have:=BL (cs:=cur.toList) (new:=us) (o:=g.o n+r*es+c) (by simp;omega)
  simpa using this
 have hle:gT s.heap g w (s.heap.set n x) (g.ez g.I) w':=wJ hs.heap hl ht hE
  (λes' he'=>by
   rw[Oe.1]at he';simp at he';subst he';refine⟨jN,by rw[Oe.2.1,hlen],λCS T' hcs=>?_⟩
   rw[hg]at hcs;simp at hcs;obtain⟨rfl,rfl⟩:=hcs;exact⟨_,_,hw',by rw[hsize];exact gh _,λhone=>yx.BM hone h1⟩)
  (λkv hkv=>absurd hkv (Oe.2.2 kv)) (λhh=>by have he:=Oe.1;cases x<;>simp[O.tY,O.gN]at hh he)
 have hnew:=aia hle dZ hg hrow (xs:=xs) (by omega) hx h1 hfit hw'
 have hH:=wK (x:=x) hs.heap hl ht hle (λ_ _=>rfl) (hxr ⟨_,T,hw',by rw[hsize];exact hfit⟩ hnew hI)
 exact⟨w',hrun,hs.yA hl ht hle hH,wL x hl ht hE (λ_ _=>rfl) hle⟩
theorem aic{rows:List (List D)}{r:Nat}{y:List D}:(rows.set r y).map (λx=>x.map V.d)=(rows.map λx=>x.map V.d).set r (y.map V.d):=by
 rw[List.map_set]
theorem aid{ov:Option (List O)}(h:(s.sL ov).ok=true):∃hh,ov=some hh:=by
 cases ov with
 |none=>simp[St.sL,St.fail]at h
 |some hh=>exact⟨hh,rfl⟩
theorem aie{t:TypeId}{x y:Operand}{w':World}(ho:o.op = .store t x y)(vp:o.dst=none)(hrun:(Instr.storeAt t (a.eval x) (a.eval y)).run P w = .ok () w')(hk:K a w'):o.wp P a w K Q:=by
 refine Z8 (w':=w') (by simp[execOp,ho,hrun]) ?_
 rw[vp];exact hk
theorem aif(hs:cj φ nt m dB s g a w){rec:Rec}{n:Nat}{x y:A}(hc:cO P φ nt o (.st x y n false)=true)(hok:(aU rec (.st x y n false) s).ok=true)
  (hK:eU φ nt m dB s g w (aU rec (.st x y n false) s) o a K):o.wp P a w K Q:=by
 simp only[cO]at hc;split at hc
 .rename_i t x' y' ho
  simp only[bD,gf,dO]at hc;obtain⟨⟨⟨⟨⟨vp,hx⟩,hy⟩,hsz⟩,hpos⟩,_⟩:=hc;have rx:=fm hs hx;have ry:=fm hs hy;simp only[aU,fG,dK]at hok hK;obtain⟨hh,hst⟩:=aid hok;rw[hst]at hK;simp only[St.sL]at hK;have fin:∀{w':World},(Instr.storeAt t (a.eval x') (a.eval y')).run P w = .ok () w'->cj φ nt m dB ⟨s.env,hh,s.ok⟩ g a w'->Frame m s.heap g w hh g w'->o.wp P a w K Q:=by
   intro w' h1 h2 h3;refine aie ho vp h1 ?_;have:=hK g undef w';rw[vp]at this;exact this h2 h3
  unfold KW at hst;split at hst
  .rename_i q r c hp
   rw[hp]at rx;simp only[aK]at rx;have dF:=hs.heap.obj q;split at hst
   .rename_i es rows hq
    rw[hq]at rx dF;have ex:=rx.2.2 es rfl;split at hst
    .rename_i row hrow
     split at hst
     .rename_i eo
      obtain⟨rz,hvl,hkn⟩:=eo;obtain⟨rc,h1⟩:=FI ry hkn;have hvs:(a.eval y').cells.size=n:=by have:=pz rc;simp at this;omega
      have Of:(∃CS T,w.heap[g.β q]?=some (.cells CS T (0,0))/\g.o q+es*(rows.map λr=>r.map V.d).length<=CS.size)/\wE φ s.heap g w (g.β q) es (g.o q) (rows.map λr=>r.map V.d)/\g.I (g.β q)<=g.o q :=
       ⟨by simpa using dF.1,ah8 dF.2.1,by simpa using dF.2.2⟩
      have pI:(rows.map λr=>r.map V.d)[r]?=some (row.map V.d):=by simp[hrow]
      split at hst
      .rename_i ds hds
       simp at hst;subst hst;obtain⟨w',h2,h3,h4⟩:=Ux (P:=P) hs (x:=.aI es true (rows.set r (av row c ds))) (ok:=s.ok) (by rw[hq];rfl) (by rw[hq];rfl) (by rw[hq];simp[O.len]) Of pI (by simpa using rz) hvl hsz hvs rfl rc h1
        ⟨rfl,by simp[O.len],by simp⟩ (λhb hr hI=>⟨by simpa using hb,ah9 (by rw[aic,ah6,<-FH hds];exact hr),by simpa using hI⟩)
       exact fin (by rw[ex];exact h2) h3 h4
      .simp at hst
       subst hst;obtain⟨w',h2,h3,h4⟩:=Ux (P:=P) hs (x:=.gK es ((rows.map λx=>x.map V.d).set r (av (row.map V.d) c (s.get y).cells))) (ok:=s.ok) (by rw[hq];rfl) (by rw[hq];rfl) (by rw[hq];simp[O.len]) Of pI (by simpa using rz) hvl hsz hvs rfl rc h1
        ⟨rfl,by simp[O.len],by simp⟩ (λhb hr hI=>⟨by simpa using hb,hr,hI⟩)
       exact fin (by rw[ex];exact h2) h3 h4
     .simp at hst
    .simp at hst
   .rename_i es rows hq
    rw[hq]at rx dF;have ex:=rx.2.2 es rfl;split at hst
    .rename_i row hrow
     split at hst
     .rename_i eo
      obtain⟨rz,hvl,hkn⟩:=eo;obtain⟨rc,h1⟩:=FI ry hkn;have hvs:(a.eval y').cells.size=n:=by have:=pz rc;simp at this;omega
      simp at hst;subst hst;obtain⟨w',h2,h3,h4⟩:=Ux (P:=P) hs (x:=.gK es (rows.set r (av row c (s.get y).cells))) (ok:=s.ok) (by rw[hq];rfl) (by rw[hq];rfl) (by rw[hq];rfl) dF hrow rz hvl hsz hvs rfl rc h1
       ⟨rfl,by simp[O.len],by simp⟩ (λhb hr hI=>⟨by simpa using hb,hr,hI⟩)
      exact fin (by rw[ex];exact h2) h3 h4
     .simp at hst
    .simp at hst
   .simp at hst
  .simp at hst
 .simp at hc
theorem aih(hs:cj φ nt m dB s g a w){rec:Rec}{n:Nat}{x y:A}(hc:cO P φ nt o (.st x y n true)=true)(hok:(aU rec (.st x y n true) s).ok=true)
  (hK:eU φ nt m dB s g w (aU rec (.st x y n true) s) o a K):o.wp P a w K Q:=by
 simp only[cO]at hc;split at hc
 .rename_i t x' y' ho
  simp only[bD,gf,dO]at hc;obtain⟨⟨⟨⟨⟨vp,hx⟩,hy⟩,hsz⟩,hpos⟩,DC⟩:=hc;have rx:=fm hs hx;have ry:=fm hs hy;simp only[aU,dH]at hok hK;cases x with
  |k q=>simp[St.fail]at hok
  |t d =>
   simp only at DC;have hd:d<nt:=by simpa using DC
   cases hp:s.get (.t d)with
   |loc q r c =>
    rw[hp]at hok hK rx;cases r with
    |succ r=>simp[St.fail]at hok
    |zero =>
     cases c with
     |succ c=>simp[St.fail]at hok
     |zero =>
      simp only at hok hK;have dF:=hs.heap.obj q;cases hq:aV s.heap q with
      |aI es ex rows =>
       rw[hq]at hok hK dF;simp only[aK,hq]at rx;have exx:=rx.2.2 es rfl;cases ex with
       |false=>simp[St.fail]at hok
       |true =>
        match rows,dF,hok,hK,hq with
        | [],_,hok,_,_=>simp[St.fail]at hok
        |_::_::_,_,hok,_,_=>simp[St.fail]at hok
        | [z],dF,hok,hK,hq =>
         simp only at hok hK;split at hK
         .rename_i eo
          rw[aN eo]at hok;obtain⟨hzl,hvl,hkn⟩:=eo;obtain⟨v,hh,hv⟩:=BJ hok;rw[hv]at hK;simp only[gz,uC]at hv;obtain⟨rfl,rfl⟩:=hv;simp only[St.gi]at hK;obtain⟨rc,h1⟩:=FI ry hkn;have hvs:(a.eval y').cells.size=n:=by have:=pz rc;simp at this;omega
          obtain⟨⟨cur,T,hg,hfit⟩,dZ,hI⟩:=dF;simp only[dH]at hI;have aii:z.length=es:=(oB dZ (r:=0) rfl).1;simp only[ir,mY,oh,Qi]at hfit;obtain⟨w',hrun,ht,hw'⟩:=ah7 (P:=P) (w:=w) hsz (off:=g.o q) hg hvs (by omega) h1
          have Ji:=pz rc;have hE:Ext g.I w (iW g.I (g.β q) (g.o q+n)) w':=Jh ht hg (by simp;omega) hw' (by omega) (λk=>by simp only[iW];split<;>simp_all;omega)
          have hl:(aV s.heap q).live=true:=by rw[hq];rfl
          have hle:gT s.heap g w (s.heap.set q .dead) (g.ez (iW g.I (g.β q) (g.o q+n))) w':=wJ hs.heap hl ht hE (λes he=>by simp[O.gN]at he) (λkv hkv=>by simp at hkv)
          have hH:fj φ (s.heap.set q .dead) (g.ez (iW g.I (g.β q) (g.o q+n))) w':=wK hs.heap hl ht hle (λb hb=>by simp[iW,hb]) trivial
          have hS:=hs.yA (ok:=s.ok) hl ht hle hH;refine aie ho vp (w':=w') (by rw[exx];simpa using hrun) ?_
          have hk:=hK (g.ez (iW g.I (g.β q) (g.o q+n))) undef w';rw[vp]at hk;refine hk ?_ (wL .dead hl ht hE (λb hb=>by simp[iW,hb]) hle)
          refine⟨λk=>?_,hH,hs.size,hS.defers,by simpa using hs.len⟩
          simp only[cC];by_cases rA:d=k
          .subst rA
           rw[aN rfl];have DD:a.tmps.getD d undef = .pointer (some ⟨g.β q,g.o q,none⟩):=by
            cases x' with
            |tmp t =>
             simp[dW]at hx;subst hx;simpa[Act.eval]using exx
            |const v=>simp[dW]at hx
            |func f=>simp[dW]at hx
            |_=>simp[dW]at hx
           have aij:(a.put none undef).tmps.getD d undef = .pointer (some ⟨g.β q,g.o q,none⟩):=DD;rw[aij];have aik:∀(j:Nat)(u:Value),(a.eval y').cells.toList[j]?=some u->w'.cell? ⟨g.β q,g.o q+j,none⟩=some u:=by
            intro j u hj;have hjl:j<(a.eval y').cells.toList.length:=by
             rcases lG j (a.eval y').cells.toList.length with h2 |h2
             .exact h2
             .simp[oc h2]at hj
            have nR:=DB (cs:=cur.toList) (new:=(a.eval y').cells.toList) (o:=g.o q) (by simp;omega) (g.o q+j)
            rw[aG (by omega),aN (by omega),XB,hj]at nR
            simp only[World.cell?,hw',Cs];simpa using nR
           unfold mkRef;split
           .rename_i ds hds
            simp only[aK,bT,Gh.ez];have hdd:=Aj hds rc;have hdn:=sW hdd;simp at hdn;exact⟨g.β q,g.o q,rfl,by simp[iW];omega,N4 (vs:=(a.eval y').cells.toList) (Af hE hdd) aik h1⟩
           .simp only[aK,Gh.ez]
            simp at Ji;exact⟨g.β q,g.o q,(a.eval y').cells.toList,rfl,by simp[iW];omega,yy hle rc,λj u hj=>⟨aik j u hj,h1 u (lE hj)⟩⟩
          .rw[aG rA]
           exact hS.env k
         .rename_i eo
          rw[aG eo]at hok;simp[St.fail]at hok
      |_=>rw[hq]at hok;simp[St.fail]at hok
   |_=>rw[hp]at hok;simp[St.fail]at hok
 .simp at hc
end
end Go.VS
namespace Go.VS
section
variable {P:Program}{φ:fD}
variable {nt m dB:Nat}{s:St}{g:Gh}{a:Act}{w:World}{K:Act->World->Prop}{Q:Exit->Act->World->Prop}{o:Oper}
def mq(P:Program)(φ:fD)(rec:Rec):Prop :=
 ∀(f:Nat)(xs:List V)(h:List O)(v:V)(h1:List O),rec (.call f xs h)=some (.val v h1) ->
  (∃ fn, P.funcs[φ f]? = some fn ∧ (fn.name == "runtime.NumGoroutine") = false ∧ fn.body.isNone = false) ∧
  ∀(g:Gh)(w:World)(args:Array Value),fj φ h g w->bU φ h g w xs args.toList ->
   Calls P (φ f) args w λe w'=>∃v' g',e = .returned v'/\fj φ h1 g' w'/\aK φ h1 g' w' v v'/\Frame h.length h g w h1 g' w'
theorem Og{I:Nat->Nat}{w:World}(h0:∀b,w.heap.size<=b->I b=0):fj φ [] ⟨λ_=>0,λ_=>0,I⟩ w where
 obj n:=by simp[aV,gC]
 inj n k hn:=by simp[aV,O.live]at hn
 new:=h0
theorem ail{g':Gh}{w:World}(hg:g'.I=g.I){x:V}{v:Value}(hr:aK φ [] g w x v):aK φ [] g' w x v :=
 lU (h:=[]) (h':=[]) ⟨by rw[hg];exact Ext.refl _ _,gh _,λn es hn=>by simp at hn,λn kv hn=>by simp at hn,λn hn=>by simp at hn⟩ hr
theorem Oh{m:Nat}{g0 g2:Gh}{w w':World}{h2:List O}(hfr:Frame m [] g0 w h2 g2 w'):gO w w'/\∀b,b<w.heap.size->g2.I b=g0.I b:=by
 have hk:=λb hb=>hfr.keep b hb (λn hn=>by simp[aV,O.live]at hn)
 exact⟨⟨hfr.size,λb hb=>(hk b hb).1,hfr.os,hfr.tape,hfr.output⟩,λb hb=>(hk b hb).2⟩
mutual
theorem aim{h:List O}{g:Gh}{w:World}:∀{x:V}{v:Value},aK φ [] g w x v->aK φ h g w x v
 | .u,v,_=>by simp[aK]
 | .kN,v,hr=>by simpa[aK]using hr
 | .d x,v,hr=>by simpa only[aK]using hr
 | .loc n r c,v,hr=>by simp[aK]at hr
 | .aR n off len,v,hr=>by simp[aK]at hr
 | .jl n off len,v,hr=>by simp[aK]at hr
 | .jc _,v,hr=>by simpa only[aK]using hr
 | .mp n,v,hr=>by simp[aK]at hr
 | .ju n,v,hr=>by simp[aK]at hr
 | .rf cs,v,hr=>by
  simp only[aK]at hr⊢;obtain⟨b,off,us,h1,h2,h3,h4⟩:=hr;exact⟨b,off,us,h1,h2,FU h3,h4⟩
 | .fn f a b,v,hr=>by
  simp only[aK]at hr⊢;obtain⟨A,B,h1,h2,h3⟩:=hr;exact⟨A,B,h1,FU h2,FU h3⟩
 | .ag cs,v,hr=>by
  simp only[aK]at hr⊢;obtain⟨A,h1,h2,h3⟩:=hr;exact⟨A,h1,FU h2,h3⟩
 | .tu cs,v,hr=>by
  simp only[aK]at hr⊢;obtain⟨A,h1,h2⟩:=hr;exact⟨A,h1,FU h2⟩
theorem FU{h:List O}{g:Gh}{w:World}:∀{xs:List V}{vs:List Value},bU φ [] g w xs vs->bU φ h g w xs vs
 | [],[],_=>by simp[bU]
 |_::_,_::_,hr=>by
  simp only[bU]at hr⊢;exact⟨aim hr.1,FU hr.2⟩
 | [],_::_,hr=>by simp[bU]at hr
 |_::_,[],hr=>by simp[bU]at hr
end
theorem ain{rec:Rec}{f:Nat}{xs:List V}{v:V}(h:kQ rec f xs=some v):∃ds,eY xs=some ds/\rec (.call f xs [])=some (.val v []):=by
 unfold kQ at h;split at h
 .rename_i ds hds
  refine⟨ds,hds,?_⟩;split at h
  .rename_i v' hv
   simp at h;subst h;exact hv
  .simp at h
 .simp at h
theorem DE{d:Option Nat}(h:qt nt o d=true):o.dst=d/\∀k,d=some k->k<nt:=by
 simp only[qt,bD,dO]at h;refine⟨h.1,λk hk=>?_⟩
 subst hk;simpa using h.2
theorem Oi{f : Nat}{fn : Func}{args : Array Value}(hf : P.funcs[f]? = some fn)(hn : (fn.name == "runtime.NumGoroutine") = false)(hb : fn.body.isNone = false):
  (callFunc f args).run P w = .ok (.enter f args) w:=by
 have hn' : fn.name ≠ "runtime.NumGoroutine" := by simpa using hn
 have hb':fn.body≠none:=by intro h;simp[h]at hb
 simp[callFunc,hf,hn',hb']
theorem Uy{rec:Rec}(hq:mq P φ rec)(hs:cj φ nt m dB s g a w){d:Option Nat}(hd:qt nt o d=true){f:Nat}{xs:List V}{args:Array Value}{ov:Option V}(nR:ov=kQ rec f xs)
  (hok:(s.m8 d ov).ok=true)(hr:bU φ s.heap g w xs args.toList)
  (hrun:(execOp a.eval o).run P w=(callFunc (φ f) args).run P w)(hK:eU φ nt m dB s g w (s.m8 d ov) o a K):o.wp P a w K Q:=by
 obtain⟨v,hv⟩:=CG hok;obtain⟨ds,hds,gU⟩:=ain (by rw[<-nR];exact hv)
 obtain⟨⟨fn,hf,hn,hb⟩,pJ⟩:=hq f xs [] v [] gU;unfold Oper.wp;rw[hrun,Oi hf hn hb];simp only[Oper.upon];have hxs:bU φ [] ⟨λ_=>0,λ_=>0,g.I⟩ w xs args.toList:=by
  rw[FH hds];exact Ai (g:=⟨λ_=>0,λ_=>0,g.I⟩) (show cx φ g.I w ds args.toList from Aj hds hr)
 refine Calls.mono (pJ ⟨λ_=>0,λ_=>0,g.I⟩ w args (Og hs.heap.new) hxs) λe w' h=>?_
 obtain⟨v',g1,rfl,sw,fY,hfr⟩:=h;obtain⟨hg,hI⟩:=Oh hfr;have hnew:=sw.new;obtain⟨I',yC⟩:∃I',g1.I=I':=⟨_,rfl⟩;rw[yC]at hI hnew;obtain⟨h1,h2⟩:=DE hd;have hs':=hs.N8 (I':=I') hg hI hnew;have hrv:aK φ s.heap (g.ez I') w' v v':=aim (ail (g':=g.ez I') yC.symm fY);refine hK (g.ez I') v' w' ?_ ?_
 .rw[h1,hv]
  cases d with
  |none=>exact hs'
  |some d=>exact hs'.wQ (h2 d rfl) hrv
 .rw[hv]
  cases d with
  |none=>exact Dv m hs.heap hg hI
  |some d=>exact Dv m hs.heap hg hI
theorem aio{rec:Rec}(hq:mq P φ rec)(hs:cj φ nt m dB s g a w){d:Option Nat}{f:Nat}{xs:List A}(hc:cO P φ nt o (.call d f xs)=true)(hok:(aU rec (.call d f xs) s).ok=true)
  (hK:eU φ nt m dB s g w (aU rec (.call d f xs) s) o a K):o.wp P a w K Q:=by
 simp only[cO,bD]at hc;obtain⟨hd,h⟩:=hc;split at h
 .rename_i c ho
  split at h
  .rename_i ff iz
   simp only[bD,dO]at h;obtain⟨rfl,hx⟩:=h;simp only[aU]at hok hK;refine Uy hq hs hd (f:=f) (xs:=xs.map s.get) (args:=c.args.map a.eval) rfl hok (by simpa using wP hs hx) ?_ hK
   simp[execOp,ho,resolve,iz,Act.eval,Deferred.ofValue,invoke]
  .simp at h
 .simp at h
theorem BN{h:List O}{g:Gh}:∀{ds:List D}{vs:List Value},cx φ g.I w ds vs->bU φ h g w (ds.map V.d) vs
 | [],[],_=>by simp[bU]
 |_::_,_::_,hr=>by
  simp only[cx]at hr;simp only[gm,bU,aK];exact⟨hr.1,BN hr.2⟩
 | [],_::_,hr=>by simp[cx]at hr
 |_::_,[],hr=>by simp[cx]at hr
theorem aip{rec:Rec}(hq:mq P φ rec)(hs:cj φ nt m dB s g a w){d:Option Nat}{x:A}{xs:List A}(hc:cO P φ nt o (.nG d x xs)=true)(hok:(aU rec (.nG d x xs) s).ok=true)
  (hK:eU φ nt m dB s g w (aU rec (.nG d x xs) s) o a K):o.wp P a w K Q:=by
 simp only[cO,bD]at hc;obtain⟨hd,h⟩:=hc;split at h
 .rename_i c ho
  split at h
  .rename_i y iz
   simp only[bD]at h;obtain⟨hx,hxs⟩:=h;simp only[aU]at hok hK;have rx:=fm hs hx;have yD:=wP hs hxs;have key:∀{f:Nat}{A B:Array Value}{zs:List V},a.eval y = .func (.func (φ f)) A B->l9 (kQ rec) (s.get x) (xs.map s.get)=kQ rec f zs ->
     bU φ s.heap g w zs (A.toList++c.args.toList.map a.eval++B.toList)->o.wp P a w K Q:=by
    intro f A B zs he hz hr;refine Uy hq hs hd (f:=f) (xs:=zs) (args:=A++c.args.map a.eval++B) hz hok (by simpa using hr) ?_ hK
    simp[execOp,ho,resolve,iz,he,Deferred.ofValue,invoke]
   cases hv:s.get x with
   |d z =>
    cases z with
    |fn f first caps =>
     rw[hv]at rx;simp only[aK,bT]at rx;obtain⟨A,B,he,hA,hB⟩:=rx;exact key he (by rw[hv];rfl) (sn (sn (BN hA) yD) (BN hB))
    |_=>rw[hv]at hok;simp[l9,St.m8,St.fail]at hok
   |fn f first caps =>
    rw[hv]at rx;simp only[aK]at rx;obtain⟨A,B,he,hA,hB⟩:=rx;exact key he (by rw[hv];rfl) (sn (sn hA yD) hB)
   |_=>rw[hv]at hok;simp[l9,St.m8,St.fail]at hok
  .simp at h
 .simp at h
end
end Go.VS
namespace Go.VS
section
variable {P:Program}{φ:fD}
variable {nt m dB:Nat}{s:St}{g:Gh}{a:Act}{w:World}{K:Act->World->Prop}{Q:Exit->Act->World->Prop}{o:Oper}
def FV(x:Option Value)(dflt n:Int):Prop :=
 match x with
 |none=>n=dflt
 |some v=>∃k,v = .int k n
def Oj(cap len:Nat):Option Value->Sem Nat
 |some v=>Instr.sliceBound v cap .sliceAcap
 |none=>pure len
def Ok(h:Nat):Option Value->Sem Nat
 |some v=>Instr.sliceBound v h .sliceB
 |none=>pure 0
theorem aiq(cap len:Nat)(lo hi:Option Value):Instr.sliceBounds true len cap lo hi none=(do
  let hv <-Oj cap len hi
  let lv <-Ok hv lo
  pure (lv,hv,cap)):=by
 cases lo<;>cases hi<;>rfl
theorem air{t e:TypeId}{es:Nat}(ht:P.underlying t=some (.slice e))(jN:jD P e es=true){ad:Option Addr}{len cap:Nat}{lo hi:Option Value}{l h:Int}
  (hl:FV lo 0 l)(hh:FV hi len h)(h0:0<=l)(h1:l<=h)(h2:h<=cap):
  (Instr.sliceAt t (.slice ad len cap) lo hi none).run P w = .ok (.slice (if cap=l.toNat then ad else ad.map (·.add (l.toNat*es))) (h.toNat - l.toNat) (cap - l.toNat)) w:=by
 have hsz:=wS (P:=P) (w:=w) jN;have wW:0<=h:=by omega
 have eh:(Oj cap len hi).run P w = .ok h.toNat w:=by
  cases hi with
  |none=>simp only[FV]at hh;subst hh;simp[Oj]
  |some v =>
   obtain⟨k,rfl⟩:=hh;simp[Oj,Instr.sliceBound,asIntOf,wW,h2]
 have el:(Ok h.toNat lo).run P w = .ok l.toNat w:=by
  cases lo with
  |none=>simp only[FV]at hl;subst hl;simp[Ok]
  |some v =>
   obtain⟨k,rfl⟩:=hl
   have:¬max h 0<l:=by omega
   simp[Ok,Instr.sliceBound,asIntOf,h0,this]
 have eb:(Instr.sliceBounds true len cap lo hi none).run P w = .ok (l.toNat,h.toNat,cap) w:=by
  rw[aiq];simp only[Sem.run_bind,eh,Result.andThen_ok,el,Sem.run_pure]
 simp[Instr.sliceAt,Instr.slice,underlying,ht,eb,hsz]
theorem Ol(hs:cj φ nt m dB s g a w){x:Option Operand}{y:Option A}(hc:N7 φ x y=true){dflt n:Int}(hn:uF s dflt y=some n):FV (x.map a.eval) dflt n:=by
 unfold N7 at hc;split at hc
 .simp[uF]at hn;simp[FV,hn]
 .rename_i ox ay
  have hr:=fm hs hc;simp only[uF]at hn;cases hv:s.get ay with
  |d z =>
   rw[hv]at hn hr;cases z with
   |i k z=>simp[asInt]at hn;subst hn;exact⟨k,nQ (by simpa only[aK]using hr)⟩
   |_=>simp[asInt]at hn
  |_=>rw[hv]at hn;simp[asInt]at hn
 .simp at hc
theorem ais{α:Type}{xs:List α}{l h r:Nat}{y:α}(hy:((xs.take h).drop l)[r]?=some y):xs[l+r]?=some y:=by
 rw[pX,zf]at hy;split at hy
 .exact hy
 .simp at hy
theorem ait(hs:cj φ nt m dB s g a w){rec:Rec}{d es:Nat}{x:A}{lo hi:Option A}(hc:cO P φ nt o (.sl d x lo hi es)=true)(hok:(aU rec (.sl d x lo hi es) s).ok=true)
  (hK:eU φ nt m dB s g w (aU rec (.sl d x lo hi es) s) o a K):o.wp P a w K Q:=by
 simp only[cO,bD]at hc;obtain⟨hd,h⟩:=hc;split at h
 .rename_i t y lo' hi' ho
  simp only[bD]at h;obtain⟨⟨⟨hx,hlo⟩,hhi⟩,ht⟩:=h;split at ht
  .rename_i e hu
   have rx:=fm hs hx;refine nk hs hd hok (λv hv=>?_) hK
   unfold K1 at hv;split at hv
   .rename_i l hh hl Jj
    have bl:=Ol hs hlo hl;have bh:=Ol hs hhi Jj;have fin:∀{ad:Option Addr}{len cap:Nat},a.eval y = .slice ad len cap->AY (s.get x)=len->0<=l->l<=hh->hh<=cap ->
      (execOp a.eval o).run P w = .ok (.value (.slice (if cap=l.toNat then ad else ad.map (·.add (l.toNat*es))) (hh.toNat - l.toNat) (cap - l.toNat))) w:=by
     intro ad len cap he hlen h0 h1 h2;rw[hlen]at bh;have:=air (P:=P) (w:=w) hu ht bl bh (ad:=ad) (len:=len) (cap:=cap) h0 h1 h2;simp[execOp,ho,he,this]
    split at hv
    .rename_i e' nl xs hp
     rw[hp]at rx fin;simp only[aK,bT]at rx;obtain⟨ad,cap,he,hlc,pG,DF⟩:=rx;split at hv
     .rename_i eo
      obtain⟨rfl,h0,h1,h2⟩:=eo;simp at hv;subst hv;refine⟨_,fin he rfl h0 h1 (by omega),?_⟩
      simp only[aK,bT];have hlen:((xs.take hh.toNat).drop l.toNat).length=hh.toNat - l.toNat:=by simp;omega
      rw[hlen];refine⟨_,_,rfl,by omega,λhn=>?_,λhn=>?_⟩
      .obtain⟨rfl,rfl⟩:=pG hn
       simp
      .obtain⟨FW,rfl,hx'⟩:=DF hn
       by_cases bR:cap=l.toNat
       .rw[aN bR]
        refine⟨FW,rfl,λhne=>?_⟩
        exfalso;apply hne;apply AQ;rw[hlen];omega
       .rw[aG bR]
        refine⟨_,rfl,λhne=>?_⟩
        have hxs:xs≠[]:=by
         rintro rfl;simp at hne
        obtain⟨hsp,hI,dZ⟩:=hx' hxs;obtain⟨b,off,sp⟩:=FW;simp only at hsp hI dZ;subst hsp;simp only[rj];refine⟨trivial,?_,vk λr row hrow=>?_⟩
        .have h3:(hh.toNat - l.toNat)+l.toNat<=xs.length:=by omega
         have h4:e'*((hh.toNat - l.toNat)+l.toNat)<=e'*xs.length:=Qm _ h3;rw[Hh,jt e' l.toNat]at h4;omega
        .obtain⟨q1,q2⟩:=oB dZ (ais hrow)
         refine⟨q1,?_⟩;rw[nD,<-Nat.add_assoc]at q2;exact q2
     .simp at hv
    .rename_i n off len hp
     rw[hp]at rx fin;simp only[aK]at rx;split at hv
     .rename_i e' ex rows hn
      split at hv
      .rename_i eo
       obtain⟨rfl,h0,h1,h2⟩:=eo;obtain⟨cap,he,hlc,hm,CS,T,hb,hsz⟩:=rx.2.2 e' (by rw[hn];rfl)
       rw[hn]at hm;simp only[O.len]at hm;have hrun:=fin he rfl h0 h1 (by omega)
       refine⟨_,hrun,?_⟩;split at hv
       .rename_i jO
        simp at hv;subst hv;simp only[aK];refine⟨rx.1,rfl,λes' he'=>?_⟩
        rw[hn]at he';simp[O.gN]at he';subst he';have hlen:(hh - l).toNat=hh.toNat - l.toNat:=by omega
        rw[hlen];refine⟨cap - l.toNat,?_,by omega,by rw[hn];simp only[O.len];omega,CS,T,hb,?_⟩
        .have eo:(if cap=l.toNat then(some ⟨g.β n,g.o n+off*e',none⟩:Option Addr)else(some ⟨g.β n,g.o n+off*e',none⟩:Option Addr).map (·.add (l.toNat*e')))=some ⟨g.β n,g.o n+(off+l.toNat)*e',none⟩:=by
          split
          .rename_i bR
           have:l.toNat=0:=by omega
           rw[this];simp
          .simp only[tA,rj]
           rw[nD,<-Nat.add_assoc]
         rw[eo]
        .have:off+l.toNat+(cap - l.toNat)=off+cap:=by omega
         rw[this];exact hsz
       .rename_i jO
        simp at hv;subst hv;simp only[aK,bT];have hz:hh.toNat - l.toNat=0:=by omega
        rw[hz];refine⟨_,_,rfl,by simp,by simp,λ_=>?_⟩
        split
        .exact⟨_,rfl,by simp⟩
        .exact⟨_,rfl,by simp⟩
      .simp at hv
     .simp at hv
    .rename_i n off len hp
     rw[hp]at rx fin;simp only[aK]at rx;split at hv
     .rename_i e' ex rows hn
      split at hv
      .rename_i eo
       obtain⟨rfl,h0,h1,h2⟩:=eo;obtain⟨cap,he,hlc,hm,CS,T,hb,hsz⟩:=rx.2.2 e' (by rw[hn];rfl)
       rw[hn]at hm;simp only[O.len]at hm;have hrun:=fin he rfl h0 h1 (by omega)
       refine⟨_,hrun,?_⟩;split at hv
       .rename_i jO
        simp at hv;subst hv;simp only[aK];refine⟨rx.1,rfl,λes' he'=>?_⟩
        rw[hn]at he';simp[O.gN]at he';subst he';have hlen:(hh - l).toNat=hh.toNat - l.toNat:=by omega
        rw[hlen];refine⟨cap - l.toNat,?_,by omega,by rw[hn];simp only[O.len];omega,CS,T,hb,?_⟩
        .have eo:(if cap=l.toNat then(some ⟨g.β n,g.o n+off*e',none⟩:Option Addr)else(some ⟨g.β n,g.o n+off*e',none⟩:Option Addr).map (·.add (l.toNat*e')))=some ⟨g.β n,g.o n+(off+l.toNat)*e',none⟩:=by
          split
          .rename_i bR
           have:l.toNat=0:=by omega
           rw[this];simp
          .simp only[tA,rj]
           rw[nD,<-Nat.add_assoc]
         rw[eo]
        .have:off+l.toNat+(cap - l.toNat)=off+cap:=by omega
         rw[this];exact hsz
       .rename_i jO
        simp at hv;subst hv;simp only[aK,bT];have hz:hh.toNat - l.toNat=0:=by omega
        rw[hz];refine⟨_,_,rfl,by simp,by simp,λ_=>?_⟩
        split
        .exact⟨_,rfl,by simp⟩
        .exact⟨_,rfl,by simp⟩
      .simp at hv
     .simp at hv
    .rename_i e' hp
     rw[hp]at rx fin;simp only[aK]at rx;obtain⟨ad,he⟩:=rx;split at hv
     .rename_i eo
      obtain⟨rfl,rfl,rfl⟩:=eo;simp at hv;subst hv;have hrun:=fin he (by simp[AY]) (by omega) (by omega) (by omega)
      exact⟨_,hrun,by simp only[aK];exact⟨ad,by simp⟩⟩
     .simp at hv
    .simp at hv
   .simp at hv
  .simp at ht
 .simp at h
end
end Go.VS
namespace Go.VS
section
variable {P:Program}{φ:fD}
variable {nt m dB:Nat}{s:St}{g:Gh}{a:Act}{w:World}{K:Act->World->Prop}{Q:Exit->Act->World->Prop}{o:Oper}
end
end Go.VS
namespace Go.VS
section
variable {P:Program}{φ:fD}
variable {nt m dB:Nat}{s:St}{g:Gh}{a:Act}{w:World}{K:Act->World->Prop}{Q:Exit->Act->World->Prop}{o:Oper}
theorem Ap{I:Nat->Nat}{b es:Nat}:∀{off:Nat}{xs:List (List D)},jM φ I w b es off xs->∃vs:List Value,cx φ I w xs.flatten vs/\(∀v∈vs,v.oneCell'=true)/\vs.length=es*xs.length /\
  ∀(j:Nat)(v:Value),vs[j]?=some v->w.cell? ⟨b,off+j,none⟩=some v
 |off,[],_=>⟨[],by simp[cx],by simp,by simp,by simp⟩
 |off,x::xs,hr=>by
  simp only[jM]at hr;obtain⟨hl,hc,hr⟩:=hr;obtain⟨us,h1,h2,h3⟩:=I6 hc;obtain⟨vs,k1,k2,k3,k4⟩:=Ap hr;have Uw:=sW h1;refine⟨us++vs,by rw[zh];exact Ah h1 k1,λv hv=>(dm.1 hv).elim (h3 v) (k2 v),by rw[l6,k3,<-Uw,hl,ir,Ql];omega,λj v hj=>?_⟩
  by_cases hlt:j<us.length
  .rw[th hlt]at hj
   exact h2 j v hj
  .rw[AP (by omega)]at hj
   have:=k4 (j - us.length) v hj;have he:off+es+(j - us.length)=off+j:=by omega
   rwa [he]at this
theorem Uz{I:Nat->Nat}{b es:Nat}:∀{off:Nat}{xs:List (List D)}{vs:List Value},(∀r∈xs,r.length=es)->cx φ I w xs.flatten vs->(∀v∈vs,v.oneCell'=true) ->
  (∀(j:Nat)(v:Value),vs[j]?=some v->w.cell? ⟨b,off+j,none⟩=some v)->jM φ I w b es off xs:=by
 intro off xs vs hl hr h1 hc;refine vk λr row hrow=>⟨hl row (lE hrow),wD λj c hj=>?_⟩
 obtain⟨v,hv,hd⟩:=BB hr (FN hl hrow hj);exact⟨v,by rw[qF];exact hc _ v hv,h1 v (lE hv),hd⟩
theorem DG{I:Nat->Nat}{b es o off len:Nat}{rows:List (List D)}(hr:jM φ I w b es o rows)(hle:off+len<=rows.length):jM φ I w b es (o+off*es) ((rows.drop off).take len):=by
 refine vk λr row hrow=>?_
 have hlt:r<len:=by
  rcases lG r len with h |h
  .exact h
  .simp[zf,Nat.not_lt.2 h]at hrow
 rw[List.getElem?_take_of_lt hlt,pX]at hrow;obtain⟨h1,h2⟩:=oB hr hrow;refine⟨h1,?_⟩
 have:o+off*es+r*es=o+(off+r)*es:=by rw[nD];omega
 rw[this];exact h2
theorem aiu{h:List O}{es:Nat}{y:V}{v:Value}{ys:List (List D)}(hH:fj φ h g w)(hr:aK φ h g w y v)(hy:AX h es y=some ys):
  ∃(xa:Option Addr)(xc:Nat)(news:List Value),v = .slice xa ys.length xc/\(∀r∈ys,r.length=es)/\cx φ g.I w ys.flatten news/\(∀u∈news,u.oneCell'=true)/\news.length=es*ys.length /\
   (ys≠[]->∃b off,xa=some ⟨b,off,none⟩/\∀(j:Nat)(u:Value),news[j]?=some u->w.cell? ⟨b,off+j,none⟩=some u):=by
 have lens:∀{b off:Nat}{xs:List (List D)},jM φ g.I w b es off xs->∀r∈xs,r.length=es:=by
  intro b off xs dZ r hmem;obtain⟨j,hj,he⟩:=tv hmem;exact(oB dZ (r:=j) (row:=r) (by simp[hj,he])).1
 unfold AX at hy;split at hy
 .rename_i e nl xs
  split at hy
  .rename_i he
   subst he;simp at hy;subst hy;simp only[aK,bT]at hr;obtain⟨ad,cap,rfl,hlc,ht,hf⟩:=hr;by_cases hx:xs=[]
   .subst hx
    exact⟨ad,cap,[],rfl,by simp,by simp[cx],by simp,by simp,by simp⟩
   .cases nl with
    |true =>
     obtain⟨_,rfl⟩:=ht rfl
     have:xs.length=0:=by omega
     exact absurd (AQ this) hx
    |false =>
     obtain⟨FW,rfl,hx'⟩:=hf rfl;obtain⟨hsp,_,dZ⟩:=hx' hx;obtain⟨b,off,sp⟩:=FW;simp only at hsp dZ;subst hsp;obtain⟨vs,h1,h2,h3,h4⟩:=Ap dZ;exact⟨_,cap,vs,rfl,lens dZ,h1,h2,h3,λ_=>⟨b,off,rfl,h4⟩⟩
  .simp at hy
 .rename_i e
  simp at hy;subst hy;simp only[aK]at hr;obtain⟨ad,rfl⟩:=hr;exact⟨some ad,0,[],rfl,by simp,by simp[cx],by simp,by simp,by simp⟩
 .rename_i n off len
  split at hy
  .rename_i e ex rows hn
   split at hy
   .rename_i eo
    obtain⟨rfl,hle⟩:=eo;simp at hy;subst hy;simp only[aK]at hr;obtain⟨cap,rfl,hlc,_⟩:=hr.2.2 e (by rw[hn];rfl)
    have dF:=hH.obj n;rw[hn]at dF;have dZ:=DG dF.2.1 hle;have hlen:((rows.drop off).take len).length=len:=by simp;omega
    obtain⟨vs,h1,h2,h3,h4⟩:=Ap dZ;exact⟨_,cap,vs,by rw[hlen],lens dZ,h1,h2,h3,λ_=>⟨_,_,rfl,h4⟩⟩
   .simp at hy
  .simp at hy
 .rename_i n off len
  split at hy
  .rename_i e ex rows hn
   split at hy
   .rename_i eo
    obtain⟨rfl,hle⟩:=eo;simp at hy;subst hy;simp only[aK]at hr;obtain⟨cap,rfl,hlc,_⟩:=hr.2.2 e (by rw[hn];rfl)
    have dF:=hH.obj n;rw[hn]at dF;have dZ:=DG dF.2.1 hle;have hlen:((rows.drop off).take len).length=len:=by simp;omega
    obtain⟨vs,h1,h2,h3,h4⟩:=Ap dZ;exact⟨_,cap,vs,by rw[hlen],lens dZ,h1,h2,h3,λ_=>⟨_,_,rfl,h4⟩⟩
   .simp at hy
  .simp at hy
 .simp at hy
theorem Jk{es n:Nat}{xa:Option Addr}{xc:Nat}{news:List Value}(hl:news.length=n*es)(hc:news≠[]->∃b off,xa=some ⟨b,off,none⟩/\∀(j:Nat)(u:Value),news[j]?=some u->w.cell? ⟨b,off+j,none⟩=some u)
  : (Builtin.firstCells es n (.slice xa n xc)).run P w = .ok news.toArray w:=by
 by_cases hne:news=[]
 .subst hne
  cases xa with
  |none=>simp[Builtin.firstCells]
  |some ad=>exact run_firstCells_some w es n ad n xc [] hl (by simp)
 .obtain⟨b,off,rfl,h⟩:=hc hne
  exact run_firstCells_some w es n _ n xc news hl λj v hj=>by rw[rj];exact h j v hj
theorem UA{t t' ty e e':TypeId}{i:TypeInfo}(ht:P.underlying t=some (.slice e))(ht':P.underlying t'=some (.slice e'))(hi:P.info? e=some i){b off sLen sCap n xc:Nat}{xa:Option Addr}{news:List Value}
  (hl:news.length=n*i.size)(hc:news≠[]->∃b off,xa=some ⟨b,off,none⟩/\∀(j:Nat)(u:Value),news[j]?=some u->w.cell? ⟨b,off+j,none⟩=some u)
  (hle:sLen+n<=sCap){cur:Array Value}{T:TypeId}(hg:w.heap[b]?=some (.cells cur T (0,0)))(hfit:off+sLen*i.size+news.length<=cur.size)(h1:∀u∈news,u.oneCell'=true):
  (Builtin.append_ #[t,t'] ty #[.slice (some ⟨b,off,none⟩) sLen sCap,.slice xa n xc]).run P w = .ok (.slice (some ⟨b,off,none⟩) (sLen+n) sCap) (w.setRow b (av cur.toList (off+sLen*i.size) news).toArray):=by
 have hf:=Jk (P:=P) (w:=w) hl hc (xc:=xc);have hst:=run_storeCells_at P b (off+sLen*i.size) T news 0 cur w hg (by simpa using hfit) h1
 simp only[Hj]at hst;simp[Builtin.append_,run_underlying ht,run_underlying ht',sizeOf,typeInfo,hi,Builtin.lenOf,hle,hf,rj,hst,av]
theorem aiv{t t' ty e e':TypeId}{i:TypeInfo}(ht:P.underlying t=some (.slice e))(ht':P.underlying t'=some (.slice e'))(hi:P.info? e=some i){sLen sCap xc:Nat}{base xa:Option Addr}(hle:sLen<=sCap):
  (Builtin.append_ #[t,t'] ty #[.slice base sLen sCap,.slice xa 0 xc]).run P w = .ok (.slice base sLen sCap) w:=by
 have hf:=Jk (P:=P) (w:=w) (es:=i.size) (n:=0) (xa:=xa) (xc:=xc) (news:=[]) (by simp) (by simp)
 cases base with
 |none=>simp[Builtin.append_,run_underlying ht,run_underlying ht',sizeOf,typeInfo,hi,Builtin.lenOf,hle,hf]
 |some ad=>simp[Builtin.append_,run_underlying ht,run_underlying ht',sizeOf,typeInfo,hi,Builtin.lenOf,hle,hf,storeCells]
theorem UB{t t' ty e e':TypeId}{i:TypeInfo}{z:Value}(ht:P.underlying t=some (.slice e))(ht':P.underlying t'=some (.slice e'))(hi:P.info? e=some i)(hz:i.zero=some z){sLen sCap n sc xc:Nat}{base xa:Option Addr}{olds news:List Value}
  (hlo:olds.length=sLen*i.size)(UC:olds≠[]->∃b off,base=some ⟨b,off,none⟩/\∀(j:Nat)(u:Value),olds[j]?=some u->w.cell? ⟨b,off+j,none⟩=some u)
  (hl:news.length=n*i.size)(hc:news≠[]->∃b off,xa=some ⟨b,off,none⟩/\∀(j:Nat)(u:Value),news[j]?=some u->w.cell? ⟨b,off+j,none⟩=some u)
  (mO:sCap<sLen+n)(hroom:sLen+n<=room)(hby:i.bytes<=16384)(hsc:sc=sCap):
  (Builtin.append_ #[t,t'] ty #[.slice base sLen sc,.slice xa n xc]).run P w =
   .ok (.slice (some ⟨w.heap.size,0,none⟩) (sLen+n) (grownCap w (sLen+n) sCap e)) (w.drew.alloc (.cells (olds++news++(Builtin.zeroCells z.cells (grownCap w (sLen+n) sCap e - (sLen+n))).toList).toArray e)):=by
 subst hsc;have hn:¬(sLen+n<=sc):=by omega
 have UD:sLen+n<=4294967296:=hroom;have h63':¬(9223372036854775807<((sLen:Int)+(n:Int))):=by omega
 have hmul:(sLen+n)*i.bytes<=4294967296*16384:=KF UD hby;have UE:¬(281474976710656<Builtin.nextslicecap (sLen+n) sc*i.bytes):=by
  have:=growslice_fits (bytes:=i.bytes) mO (by omega)
  omega
 have hf:=Jk (P:=P) (w:=w.drew) (xa:=xa) (xc:=xc) hl (λh=>by obtain⟨b,off,h1,h2⟩:=hc h;exact⟨b,off,h1,by simpa using h2⟩)
 have hfo:=Jk (P:=P) (w:=w.drew) (xa:=base) (xc:=sc) hlo (λh=>by obtain⟨b,off,h1,h2⟩:=UC h;exact⟨b,off,h1,by simpa using h2⟩)
 simp[Builtin.append_,run_underlying ht,run_underlying ht',sizeOf,typeInfo,zeroValue,hi,hz,Builtin.lenOf,hn,h63',UE,Question.forced,hf,hfo,newRow,grownCap];congr 2;apply Qn;simp[tw]
end
end Go.VS
namespace Go.VS
section
variable {P:Program}{φ:fD}
variable {nt m dB:Nat}{s:St}{g:Gh}{a:Act}{w:World}{K:Act->World->Prop}{Q:Exit->Act->World->Prop}{o:Oper}
theorem jY.refl(w:World)(b:Nat):jY w w b:=⟨rfl,λ_ _=>rfl,rfl,rfl,rfl⟩
theorem aiw{h:List O}{B o':Nat}{x:O}(hr:fj φ h g w)(hB:∀k,(aV h k).live=true->g.β k≠B)(hx:gC φ (h++[x]) (g.add h.length B o' g.I) w B o' x):
  fj φ (h++[x]) (g.add h.length B o' g.I) w where
 obj n:=by
  rcases tr n h.length with hn |hn |hn
  .have hne:n≠h.length:=by omega
   rw[qo hn];by_cases hl:(aV h n).live=true
   .have:=Dt (Am (b:=B) (o:=o') x hr (gO.refl w) (λ_ _=>rfl)) rfl rfl (hr.obj n)
    simpa[Gh.add,hne]using this
   .cases hq:aV h n<;>simp_all[O.live,gC]
  .subst hn
   rw[Dw];simpa[Gh.add]using hx
  .rw[vn hn]
   trivial
 inj n k hn hk he:=by
  have key:∀n,(aV (h++[x]) n).live=true->n<=h.length:=λn hn=>by
   rcases lG h.length n with h1 |h1
   .rw[vn h1]at hn;simp[O.live]at hn
   .exact h1
  have kn:=key n hn;have kk:=key k hk;by_cases h1:n=h.length<;>by_cases h2:k=h.length
  .omega
  .have hlt:k<h.length:=by omega
   rw[qo hlt]at hk;have:=hB k hk;simp[Gh.add,h1,h2]at he;exact absurd he.symm this
  .have hlt:n<h.length:=by omega
   rw[qo hlt]at hn;have:=hB n hn;simp[Gh.add,h1,h2]at he;exact absurd he this
  .have hlt:n<h.length:=by omega
   have hlt':k<h.length:=by omega
   rw[qo hlt]at hn;rw[qo hlt']at hk;simp[Gh.add,h1,h2]at he;exact hr.inj n k hn hk he
 new:=hr.new
theorem aix{h':List O}{g':Gh}{w':World}{b es:Nat}{T:TypeId}{C:List Value}{rest:List Value}{ys:List (List D)}{ex:Bool}(hb:w'.heap[b]?=some (.cells (C++rest).toArray T (0,0)))
  (hl:∀r∈ys,r.length=es)(hr:cx φ g'.I w' ys.flatten C)(h1:∀v∈C,v.oneCell'=true)(hI:if ex then g'.I b<=0 else g'.I b=0+es*ys.length):gC φ h' g' w' b 0 (.aI es ex ys):=by
 have hlen:=sW hr;rw[yB hl]at hlen;refine⟨⟨_,T,hb,by simp;omega⟩,Uz hl hr h1 λj v hj=>?_,hI⟩
 simp only[World.cell?,hb,oh,Cs];rw[th]
 .simp[hj]
 .rcases lG j C.length with h2 |h2
  .exact h2
  .simp[oc h2]at hj
theorem Om{C:Array Value}(h:∀v∈C.toList,v.oneCell'=true)(n:Nat):∀v∈(Builtin.zeroCells C n).toList,v.oneCell'=true:=by
 intro v hv;simp only[Builtin.zeroCells,En,Array.toList_range,gY,KG]at hv;obtain⟨i,hi,rfl⟩:=hv;have hp:0<C.size:=by
  rcases XC C.size with h0 |h0
  .rw[h0]at hi;simp at hi
  .exact h0
 have hlt:=Nat.mod_lt i hp;rw[getElem!_pos C _ hlt];exact h _ (by simp)
theorem aiy(hs:cj φ nt m dB s g a w){d:Nat}(hd:gr nt o d=true){es cap:Nat}{T:TypeId}{C rest:List Value}{ys:List (List D)}{ex:Bool}{ok:Bool}{w1:World}(BO:gO w w1)(sX:w1.heap.size=w.heap.size)
  (hrun:(execOp a.eval o).run P w = .ok (.value (.slice (some ⟨w.heap.size,0,none⟩) ys.length cap)) (w1.alloc (.cells (C++rest).toArray T)))
  (hl:∀r∈ys,r.length=es)(hr:cx φ g.I w ys.flatten C)(h1:∀v∈C,v.oneCell'=true)(hcap:ys.length<=cap)(hfit:cap*es<=C.length+rest.length)(sj:∀v∈rest,v.oneCell'=true)
  (hK:∀g' v' w',cj φ nt m dB ⟨(d,.aR s.heap.length 0 ys.length)::s.env,s.heap++[.aI es ex ys],ok⟩ g' (a.put o.dst v') w'->Frame m s.heap g w (s.heap++[.aI es ex ys]) g' w'->K (a.put o.dst v') w'):o.wp P a w K Q:=by
 have hnew:=hs.heap.new;have hnew1:∀b,w1.heap.size<=b->g.I b=0:=λb hb=>hnew b (by omega)
 have hg:=BO.trans (gO.alloc w1 (.cells (C++rest).toArray T));have hb:(w1.alloc (.cells (C++rest).toArray T)).heap[w.heap.size]?=some (.cells (C++rest).toArray T):=by rw[<-sX];exact Ao w1 _
 have hI:∀b,b<w.heap.size->iW g.I w.heap.size (if ex then 0 else es*ys.length) b=g.I b:=λb hb=>FP hb
 have hE:=Du hg hI hnew;refine Je hs hd (b:=w.heap.size) (off:=0) (x:=.aI es ex ys) (I':=iW g.I w.heap.size (if ex then 0 else es*ys.length)) hrun hg hI (by rw[<-sX];exact Us (w:=w1) hnew1 _) (gh _) ?_ ?_ hK
 .refine aix hb hl (Af hE hr) h1 ?_
  cases ex<;>simp[Gh.add,iW]
 .simp only[aK]
  refine⟨by simp,rfl,λes' he'=>?_⟩
  rw[Dw]at he'⊢;simp[O.gN]at he';subst he';exact⟨cap,by simp[Gh.add],hcap,by simp[O.len];exact hcap,_,_,by simpa[Gh.add]using hb,by simp[Gh.add];exact hfit,λv hv=>by simp at hv;exact hv.elim (h1 v) (sj v)⟩
theorem On(hs:cj φ nt m dB s g a w){d:Nat}(hd:gr nt o d=true){es cap:Nat}{T:TypeId}{C rest:List Value}{ys:List (List D)}{ex:Bool}{ok:Bool}
  (hrun:(execOp a.eval o).run P w = .ok (.value (.slice (some ⟨w.heap.size,0,none⟩) ys.length cap)) (w.drew.alloc (.cells (C++rest).toArray T)))
  (hl:∀r∈ys,r.length=es)(hr:cx φ g.I w ys.flatten C)(h1:∀v∈C,v.oneCell'=true)(hcap:ys.length<=cap)(hfit:cap*es<=C.length+rest.length)(sj:∀v∈rest,v.oneCell'=true)
  (hK:∀g' v' w',cj φ nt m dB ⟨(d,.aR s.heap.length 0 ys.length)::s.env,s.heap++[.aI es ex ys],ok⟩ g' (a.put o.dst v') w'->Frame m s.heap g w (s.heap++[.aI es ex ys]) g' w'->K (a.put o.dst v') w'):o.wp P a w K Q :=
 aiy hs hd (gO.drew w) rfl hrun hl hr h1 hcap hfit sj hK
theorem cj.kill(hs:cj φ nt m dB s g a w){n:Nat}(hl:(aV s.heap n).live=true)(ok:Bool):cj φ nt m dB ⟨s.env,s.heap.set n .dead,ok⟩ g a w/\Frame m s.heap g w (s.heap.set n .dead) g w/\gT s.heap g w (s.heap.set n .dead) g w:=by
 have hle:gT s.heap g w (s.heap.set n .dead) (g.ez g.I) w:=wJ hs.heap hl (jY.refl _ _) (Ext.refl _ _) (λes he=>by simp[O.gN]at he) (λkv hk=>by simp at hk)
 have hr:fj φ (s.heap.set n .dead) (g.ez g.I) w:=wK hs.heap hl (jY.refl _ _) hle (λ_ _=>rfl) trivial
 exact⟨hs.yA hl (jY.refl _ _) hle hr,wL .dead hl (jY.refl _ _) (Ext.refl _ _) (λ_ _=>rfl) hle,hle⟩
theorem aiz{I:Nat->Nat}{cs ds:List D}{vs us:List Value}(h:cx φ I w cs vs)(k:cx φ I w ds us)(n:Nat):cx φ I w (av cs n ds) (av vs n us):=by
 unfold av;rw[sW k];exact Ah (Ah (Uo h n) k) (BH h _)
theorem aiA{α:Type}{es:Nat}{rows ys:List (List α)}(hl:∀r∈rows,r.length=es)(hy:∀r∈ys,r.length=es)(n:Nat):(av rows n ys).flatten=av rows.flatten (n*es) ys.flatten:=by
 have key:∀(rows:List (List α))(n:Nat),(∀r∈rows,r.length=es)->(rows.take n).flatten=rows.flatten.take (n*es)/\(rows.drop n).flatten=rows.flatten.drop (n*es):=by
  intro rows;induction rows with
  |nil=>intro n _;simp
  |cons r rs ih =>
   intro n h;have hr:r.length=es:=h r (by simp)
   cases n with
   |zero=>simp
   |succ n =>
    obtain⟨h1,h2⟩:=ih n (λx hx=>h x (by simp[hx]))
    simp only[Qo,zh,XD,h1,h2,Hl,List.drop_append,hr,rM];have e1:n*es+es - es=n*es:=by omega
    have e2:r.take (n*es+es)=r:=gD (by omega)
    have e3:r.drop (n*es+es)=[]:=qB (by omega)
    rw[e1,e2,e3];simp
 unfold av;rw[Eo,Eo,(key rows n hl).1,(key rows _ hl).2,yB hy];congr 2;rw[nD,jt ys.length]
theorem aiB{α:Type}{cs ds:List α}{n:Nat}{x:α}(h:x∈av cs n ds):x∈cs\/x∈ds:=by
 simp only[av,dm]at h;rcases h with(h |h) |h
 .exact .inl (oa h)
 .exact .inr h
 .exact .inl (mV h)
theorem aiC{I I':Nat->Nat}{w':World}{b es off n:Nat}{rows ys:List (List D)}{news:List Value}(hr:jM φ I w b es off rows)(hE:Ext I w I' w')(hy:cx φ I w ys.flatten news)(h1:∀v∈news,v.oneCell'=true)
  (UF:∀r∈ys,r.length=es)(hn:n+ys.length<=rows.length){cur:Array Value}{T:TypeId}(hg:w.heap[b]?=some (.cells cur T (0,0)))(hfit:off+es*rows.length<=cur.size)
  (hg':w'.heap[b]?=some (.cells (av cur.toList (off+n*es) news).toArray T (0,0))):jM φ I' w' b es off (av rows n ys):=by
 have hrl:∀r∈rows,r.length=es:=by
  intro r hmem;obtain⟨j,hj,he⟩:=tv hmem;exact(oB hr (r:=j) (row:=r) (by simp[hj,he])).1
 obtain⟨vs,k1,k2,k3,k4⟩:=Ap hr;have gj:=sW hy;rw[yB UF]at gj;have hmul:n*es+es*ys.length<=es*rows.length:=by
  have:=Qm es hn;rw[Hh,jt es n]at this;exact this
 refine Uz (vs:=av vs (n*es) news) (λr hr=>(aiB hr).elim (hrl r) (UF r)) ?_ (λv hv=>(aiB hv).elim (k2 v) (h1 v)) λj v hj=>?_
 .rw[aiA hrl UF]
  exact Af hE (aiz k1 hy _)
 .have nR:=DB (cs:=cur.toList) (new:=news) (o:=off+n*es) (by simp;omega) (off+j)
  rw[DB (by omega)]at hj
  have old:vs[j]?=some v->cur.toList[off+j]?=some v:=λh=>by
   have:=k4 j v h;simpa[World.cell?,hg]using this
  simp only[World.cell?,hg',Cs];rw[nR];by_cases c1:j<n*es
  .rw[aN c1]at hj
   rw[aN (show off+j<off+n*es by omega)]
   exact old hj
  .rw[aG c1]at hj
   rw[aG (show ¬off+j<off+n*es by omega)]
   by_cases c2:j<n*es+news.length
   .rw[aN c2]at hj
    rw[aN (show off+j<off+n*es+news.length by omega)]
    have:off+j - (off+n*es)=j - n*es:=by omega
    rw[this];exact hj
   .rw[aG c2]at hj
    rw[aG (show ¬off+j<off+n*es+news.length by omega)]
    exact old hj
def UG(b:Bool)(n off len:Nat):V:=if b then .jl n off len else .aR n off len
theorem aiD(bx:Bool)(hs:cj φ nt m dB s g a w){d n off len cap es:Nat}{x':Operand}{rows ys:List (List D)}{news:List Value}{CS:Array Value}{T:TypeId}(hd:gr nt o d=true)(hn:aV s.heap n = .aI es true rows)
  (hb:w.heap[g.β n]?=some (.cells CS T (0,0)))(hfit:g.o n+(off+cap)*es<=CS.size)(hcs:yx CS)(pK:g.o n+es*rows.length<=CS.size)(hm:if bx then rows.length=off+cap else rows.length<=off+cap)(he:a.eval x' = .slice (some ⟨g.β n,g.o n+off*es,none⟩) len cap)
  (dZ:jM φ g.I w (g.β n) es (g.o n) rows)(hI:g.I (g.β n)<=g.o n)(hrd:cx φ g.I w ys.flatten news)(hone:∀u∈news,u.oneCell'=true)(hrl:∀r∈ys,r.length=es)(nS:news.length=ys.length*es)
  (hin:off+len+ys.length<=rows.length)
  (hrun:len+ys.length<=cap->g.o n+off*es+len*es+news.length<=CS.size->(execOp a.eval o).run P w = .ok (.value (.slice (some ⟨g.β n,g.o n+off*es,none⟩) (len+ys.length) cap)) (w.setRow (g.β n) (av CS.toList (g.o n+off*es+len*es) news).toArray))
  (hK:eU φ nt m dB s g w ⟨(d,UG bx n off (len+ys.length))::s.env,s.heap.set n (.aI es true (av rows (off+len) ys)),s.ok⟩ o a K):o.wp P a w K Q:=by
 have hl:(aV s.heap n).live=true:=by rw[hn];rfl
 have hm':rows.length<=off+cap:=by cases bx<;>simp at hm<;>omega
 have hmul:(off+len+ys.length)*es<=rows.length*es:=l7 es hin;rw[nD,nD]at hmul;have hc1:es*rows.length=rows.length*es:=jt _ _;have pL:g.o n+off*es+len*es+news.length<=CS.size:=by omega
 have UH:=hrun (by omega) pL
 obtain⟨ht,hw'⟩:=Od (cs:=(av CS.toList (g.o n+off*es+len*es) news).toArray) hb;have hE:Ext g.I w g.I (w.setRow (g.β n) (av CS.toList (g.o n+off*es+len*es) news).toArray):=Jh ht hb pL hw' (by omega) (λ_=>gh _)
 have hsize:(av CS.toList (g.o n+off*es+len*es) news).toArray.size=CS.size:=by
  have:=BL (cs:=CS.toList) (new:=news) (o:=g.o n+off*es+len*es) (by simpa using pL)
  simpa using this
 have DH:(av rows (off+len) ys).length=rows.length:=BL hin;have hle:=wJ (x:=.aI es true (av rows (off+len) ys)) hs.heap hl ht hE
  (λes' he'=>⟨by rw[hn];simpa[O.gN]using he',by rw[hn];simp only[O.len,DH],λsk T' hc=>by
   rw[hb]at hc;simp at hc;obtain⟨rfl,rfl⟩:=hc;exact⟨_,_,hw',by rw[hsize];exact gh _,λh=>h.BM hone⟩⟩) (λkv hk=>by simp at hk)
 have e1:g.o n+off*es+len*es=g.o n+(off+len)*es:=by rw[nD];omega
 have hH:=wK (x:=.aI es true (av rows (off+len) ys)) hs.heap hl ht hle (λ_ _=>rfl)
  ⟨⟨_,T,hw',by rw[hsize,DH];exact pK⟩,aiC dZ hE hrd hone hrl hin hb pK (by rw[<-e1];exact hw'),by simpa[Gh.ez]using hI⟩
 have hS:=hs.yA (ok:=s.ok) hl ht hle hH;obtain⟨h1,h2⟩:=BG hd;refine FK UH (hK _ _ _ ?_ (wL _ hl ht hE (λ_ _=>rfl) hle))
 rw[h1];refine hS.wQ h2 ?_;cases bx with
 |false =>
  simp only[UG,fG,dK,aK];refine⟨by simpa using BC hl,rfl,λes' he'=>?_⟩
  rw[wI (BC hl)]at he'⊢;simp[O.gN]at he';subst he';exact⟨cap,rfl,by omega,by simp only[O.len,DH];exact hm',_,_,hw',by rw[hsize];exact hfit,hcs.BM hone⟩
 |true =>
  simp only[dH]at hm;simp only[UG,dH,aK];refine⟨by simpa using BC hl,rfl,λes' he'=>?_⟩
  rw[wI (BC hl)]at he'⊢;simp[O.gN]at he';subst he';exact⟨cap,rfl,by omega,by simp only[O.len,DH];exact hm,_,_,hw',by rw[hsize];exact hfit,hcs.BM hone⟩
theorem UI(hs:cj φ nt m dB s g a w){d n off len cap es:Nat}{ex:Bool}{rows ys:List (List D)}{news:List Value}{CS:Array Value}{T:TypeId}(hd:gr nt o d=true)(hn:aV s.heap n = .aI es ex rows)
  (hb:w.heap[g.β n]?=some (.cells CS T (0,0)))(hfit:g.o n+(off+cap)*es<=CS.size)(hcs:yx CS)(pK:g.o n+es*rows.length<=CS.size)(aiE:off+len<=rows.length)
  (dZ:jM φ g.I w (g.β n) es (g.o n) rows)(hI:if ex then g.I (g.β n)<=g.o n else g.I (g.β n)=g.o n+es*rows.length)(hrd:cx φ g.I w ys.flatten news)(hone:∀u∈news,u.oneCell'=true)(hrl:∀r∈ys,r.length=es)(nS:news.length=ys.length*es)
  (hcap:len+ys.length<=cap)(hex:ex=true\/off+len=rows.length)
  (hrun:g.o n+off*es+len*es+news.length<=CS.size->(execOp a.eval o).run P w = .ok (.value (.slice (some ⟨g.β n,g.o n+off*es,none⟩) (len+ys.length) cap)) (w.setRow (g.β n) (av CS.toList (g.o n+off*es+len*es) news).toArray))
  (hK:eU φ nt m dB s g w ⟨(d,.aR s.heap.length 0 (len+ys.length))::s.env,s.heap.set n .dead++[.aI es ex ((rows.drop off).take len++ys)],s.ok⟩ o a K):o.wp P a w K Q:=by
 have hl:(aV s.heap n).live=true:=by rw[hn];rfl
 have hmul:(len+ys.length)*es<=cap*es:=l7 es hcap;have aiF:(off+len)*es<=rows.length*es:=l7 es aiE;rw[nD]at hmul aiF;have aiG:=hfit;rw[nD]at aiG;have hc1:es*rows.length=rows.length*es:=jt _ _;have gF:es*len=len*es:=jt _ _;have wX:es*ys.length=ys.length*es:=jt _ _;have pL:g.o n+off*es+len*es+news.length<=CS.size:=by omega
 have UH:=hrun pL;obtain⟨ht,hw'⟩:=Od (cs:=(av CS.toList (g.o n+off*es+len*es) news).toArray) hb;generalize hwg:w.setRow (g.β n) (av CS.toList (g.o n+off*es+len*es) news).toArray=w' at *;have hlen:((rows.drop off).take len).length=len:=by simp;omega
 have jO:((rows.drop off).take len++ys).length=len+ys.length:=by simp;omega
 have hIp:g.I (g.β n)<=g.o n+off*es+len*es:=by
  cases ex with
  |true=>simp only[dH]at hI;omega
  |false =>
   simp at hI hex
   have:rows.length*es=off*es+len*es:=by rw[<-hex,nD]
   omega
 have hE:Ext g.I w (if ex then g.I else iW g.I (g.β n) (g.o n+off*es+es*(len+ys.length))) w':=Jh ht hb pL hw' hIp (λk=>by
  cases ex with
  |true=>simp
  |false =>
   simp only[fG,dK,iW];split
   .rename_i hk;subst hk;rw[Hh];omega
   .exact gh _)
 generalize hIg:(if ex then g.I else iW g.I (g.β n) (g.o n+off*es+es*(len+ys.length)))=I' at hE
 have yC:∀b,b≠g.β n->I' b=g.I b:=by
  intro b hb;rw[<-hIg];cases ex<;>simp[iW,hb]
 have hsize:(av CS.toList (g.o n+off*es+len*es) news).toArray.size=CS.size:=by
  have:=BL (cs:=CS.toList) (new:=news) (o:=g.o n+off*es+len*es) (by simpa using pL)
  simpa using this
 have jZ:=wJ (x:=.dead) hs.heap hl ht hE (λes he=>by simp[O.gN]at he) (λkv hk=>by simp at hk)
 have sw:=wK (x:=.dead) hs.heap hl ht jZ yC trivial;have tZ:=hs.yA (ok:=s.ok) hl ht jZ sw;have hB:∀k,(aV (s.heap.set n .dead) k).live=true->(g.ez I').β k≠g.β n:=by
  intro k hk BP;by_cases hkn:k=n
  .subst hkn;rw[wI (BC hl)]at hk;simp[O.live]at hk
  .rw[qp hkn]at hk;exact hkn (hs.heap.inj k n hk hl BP)
 have FX:=Am (b:=g.β n) (o:=g.o n+off*es) (.aI es ex ((rows.drop off).take len++ys)) sw (gO.refl w') (I':=I') (λ_ _=>rfl)
 obtain⟨olds,o1,o2,o3,o4⟩:=Ap (DG dZ aiE);rw[hlen]at o3;have Jl:∀r∈(rows.drop off).take len++ys,r.length=es:=by
  intro r hr;rcases dm.1 hr with h1 |h1
  .obtain⟨j,hj,DI⟩:=tv (mV (oa h1))
   exact(oB dZ (r:=j) (row:=r) (by simp[hj,DI])).1
  .exact hrl r h1
 have UJ:jM φ I' w' (g.β n) es (g.o n+off*es) ((rows.drop off).take len++ys):=by
  refine Uz (vs:=olds++news) Jl (by rw[Eo];exact Af hE (Ah o1 hrd)) (λv hv=>(dm.1 hv).elim (o2 v) (hone v)) λj v hj=>?_
  have nR:=DB (cs:=CS.toList) (new:=news) (o:=g.o n+off*es+len*es) (by simpa using pL) (g.o n+off*es+j)
  simp only[World.cell?,hw',Cs];rw[nR];by_cases c1:j<olds.length
  .rw[th c1]at hj
   rw[aN (show g.o n+off*es+j<g.o n+off*es+len*es by omega)]
   have:=o4 j v hj;simpa[World.cell?,hb]using this
  .rw[AP (by omega)]at hj
   have hjl:j - olds.length<news.length:=by
    rcases lG (j - olds.length) news.length with h2 |h2
    .exact h2
    .simp[oc h2]at hj
   rw[aG (show ¬g.o n+off*es+j<g.o n+off*es+len*es by omega),aN (show g.o n+off*es+j<g.o n+off*es+len*es+news.length by omega)]
   have:g.o n+off*es+j - (g.o n+off*es+len*es)=j - olds.length:=by omega
   rw[this];exact hj
 have UK:gC φ (s.heap.set n .dead++[.aI es ex ((rows.drop off).take len++ys)]) ((g.ez I').add (s.heap.set n .dead).length (g.β n) (g.o n+off*es) I') w' (g.β n) (g.o n+off*es) (.aI es ex ((rows.drop off).take len++ys)):=by
  refine⟨⟨_,T,hw',by rw[hsize,jO,Hh];omega⟩,UJ,?_⟩
  rw[jO];show if ex=true then I' (g.β n)<=_ else I' (g.β n)=_
  rw[<-hIg];cases ex with
  |true=>simp at hI⊢;omega
  |false=>simp[iW]
 have UL:=aiw sw hB UK;have Jm:cj φ nt m dB ⟨s.env,s.heap.set n .dead++[.aI es ex ((rows.drop off).take len++ys)],s.ok⟩ ((g.ez I').add (s.heap.set n .dead).length (g.β n) (g.o n+off*es) I') a w' :=
  ⟨λk=>lU FX (tZ.env k),UL,tZ.size,hs.defers.reuse hl tZ.defers,by have:=hs.len;simp;omega⟩
 have UM:(s.heap.set n .dead).length=s.heap.length:=by simp
 have qw:=wL (m:=m) .dead hl ht hE yC jZ;obtain⟨h1,h2⟩:=BG hd;refine FK UH (hK ((g.ez I').add (s.heap.set n .dead).length (g.β n) (g.o n+off*es) I') _ _ ?_ ⟨hE,qw.size,qw.os,qw.tape,qw.output,λk hk=>?_,qw.keep,λk hk=>?_,λk hk=>?_⟩)
 .rw[h1]
  refine Jm.wQ h2 ?_;simp only[aK];refine⟨by simp,rfl,λes' he'=>?_⟩
  rw[<-UM,Dw]at he'⊢;simp[O.gN]at he';subst he';refine⟨cap,by simp[Gh.add],hcap,by simp only[O.len,jO];omega,_,_,by simp only[Gh.add,dH];exact hw',?_,hcs.BM hone⟩
  simp only[Gh.add,dH];rw[hsize,oh];omega
 .have hne:k≠s.heap.length:=by have:=hs.len;omega
  simp[Gh.add,hne,Gh.ez]
 .rcases tr k (s.heap.set n .dead).length with hk' |hk' |hk'
  .rw[qo hk']at hk
   have hne:k≠s.heap.length:=by omega
   have:=qw.mL k hk;simpa[Gh.add,hne]using this
  .exact .inl ⟨n,hl,by simp[Gh.add,hk']⟩
  .rw[vn hk']at hk;simp[O.live]at hk
 .have hk1:k<s.heap.length:=pU hk hs.len
  exact(jZ.at hk1).trans (FX.at (by rw[UM];exact hk1)) rfl
theorem aiH(hs:cj φ nt m dB s g a w){rec:Rec}{d es:Nat}{x y:A}(hc:cO P φ nt o (.app d x y es)=true)(hok:(aU rec (.app d x y es) s).ok=true)
  (hK:eU φ nt m dB s g w (aU rec (.app d x y es) s) o a K):o.wp P a w K Q:=by
 simp only[cO,bD]at hc;obtain⟨hd,h⟩:=hc;split at h
 .rename_i c ho
  split at h
  .rename_i x' y' t t' iz hargs qu
   simp only[bD,gf]at h;obtain⟨⟨⟨hx,hy⟩,hpos⟩,ht⟩:=h;obtain⟨FM,args,tys⟩:=c;simp only at iz hargs qu;have so:args=#[x',y']:=by rw[<-Array.toList_inj];exact hargs
   have wU:tys=#[t,t']:=by rw[<-Array.toList_inj];exact qu
   subst iz;subst so;subst wU;split at ht
   .rename_i e e' hu oD
    split at ht
    .rename_i i hi
     simp only[bD,dO,gf]at ht;obtain⟨⟨hsz,hby⟩,BQ⟩:=ht;split at BQ
     .rename_i z hz
      simp only[bD,dO,zi]at BQ;obtain⟨BQ,sX⟩:=BQ;subst hsz;have rx:=fm hs hx;have ry:=fm hs hy;have fin:∀{u u':Value}{r:Value}{w':World},a.eval x'=u->a.eval y'=u'->(Builtin.append_ #[t,t'] o.type #[u,u']).run P w = .ok r w'->(execOp a.eval o).run P w = .ok (.value r) w':=by
       intro u u' r w' h1 h2 h3;simp[execOp,ho,resolve,invoke,builtin,h1,h2,h3]
      simp only[aU]at hok hK;obtain⟨v,hh,hv⟩:=BJ hok;rw[hv]at hK;simp only[St.gi]at hK;have same:∀{v':Value},(execOp a.eval o).run P w = .ok (.value v') w->hh=s.heap->aK φ s.heap g w v v'->o.wp P a w K Q:=by
       intro v' h1 h2 h3;subst h2;exact vo hs hd h1 h3 hK
      unfold Eu at hv;cases sv:AX s.heap i.size (s.get y)with
      |none=>simp[sv]at hv
      |some ys =>
       simp only[sv]at hv;obtain⟨xa,xc,news,sx,hrl,hrd,hone,gj,hbase⟩:=aiu hs.heap ry sv;have nS:news.length=ys.length*i.size:=by rw[gj,jt]
       have jy:news≠[]->∃b off,xa=some ⟨b,off,none⟩/\∀(j:Nat)(u:Value),news[j]?=some u->w.cell? ⟨b,off+j,none⟩=some u:=by
        intro hne;refine hbase λh=>hne ?_
        subst h;exact AQ (by simpa using gj)
       have zero:ys.length=0->∀{ad:Option Addr}{len cap:Nat},len<=cap->a.eval x' = .slice ad len cap->(execOp a.eval o).run P w = .ok (.value (.slice ad len cap)) w:=by
        intro h0 ad len cap hle he;rw[h0]at sx;exact fin he sx (aiv hu oD hi hle)
       have fresh:∀{ad:Option Addr},a.eval x' = .slice ad 0 0->ys.length≠0->ys.length<=room->v = .aR s.heap.length 0 ys.length->hh=s.heap++[.aI i.size true ys]->o.wp P a w K Q:=by
        intro ad he h0 hroom UN hv2;subst UN;subst hv2;have hrun:=UB (P:=P) (w:=w) (ty:=o.type) hu oD hi hz (sLen:=0) (sCap:=0) (sc:=0) (base:=ad) (olds:=[]) (by simp) (by simp) nS jy (xc:=xc) (by omega) (by omega) hby rfl
        simp only[oh,mX]at hrun;have DJ:=grownCap_ge w ys.length 0 e;refine On hs hd (es:=i.size) (ex:=true) (rest:=(Builtin.zeroCells z.cells (grownCap w ys.length 0 e - ys.length)).toList) (fin he sx hrun) hrl hrd hone DJ ?_ (Om sX _) hK;rw[nS];have wv:(Builtin.zeroCells z.cells (grownCap w ys.length 0 e - ys.length)).toList.length=(grownCap w ys.length 0 e - ys.length)*i.size:=by simp[size_zeroCells,BQ]
        rw[wv,<-Nat.add_mul];exact l7 _ (by omega)
       cases fU:s.get x with
       |d xd =>
        cases xd with
        |sl e1 nl xs =>
         rw[fU]at hv rx;simp only at hv;split at hv
         .rename_i jN
          subst jN;simp only[aK,bT]at rx;obtain⟨ad,cap,he,hlc,pG,DF⟩:=rx;split at hv
          .rename_i h0
           simp at hv;obtain⟨rfl,rfl⟩:=hv;exact same (zero h0 hlc he) rfl (by simp only[aK,bT];exact⟨ad,cap,rfl,hlc,pG,DF⟩)
          .rename_i h0
           split at hv
           .rename_i hnr
            simp at hv;obtain⟨rfl,rfl⟩:=pG hnr.1
            have:xs.length=0:=by omega
            rw[this]at he;exact fresh he h0 hnr.2 hv.1.symm hv.2.symm
           .simp at hv
         .simp at hv
        |_=>rw[fU]at hv;simp at hv
       |jc e1 =>
        rw[fU]at hv rx;simp only at hv;simp only[aK]at rx;obtain⟨ad,he⟩:=rx;split at hv
        .rename_i h0
         simp at hv;obtain⟨rfl,rfl⟩:=hv;exact same (zero h0 (gh _) he) rfl (by simp[aK,bT])
        .rename_i h0
         split at hv
         .rename_i hroom
          simp at hv;exact fresh he h0 hroom hv.1.symm hv.2.symm
         .simp at hv
       |aR n off len =>
        rw[fU]at hv rx;simp only at hv;split at hv
        .rename_i e1 ex rows hn
         split at hv
         .rename_i eo
          obtain⟨rfl,hle⟩:=eo;have rx':=rx;simp only[aK]at rx;obtain⟨cap,he,hlc,hm,CS,T,hb,hfit,hcs⟩:=rx.2.2 i.size (by rw[hn];rfl)
          rw[hn]at hm;simp only[O.len]at hm;have hl:(aV s.heap n).live=true:=by rw[hn];rfl
          have dF:=hs.heap.obj n;rw[hn]at dF;obtain⟨⟨sk,T',hb',pK⟩,dZ,hI⟩:=dF;rw[hb]at hb';simp at hb';obtain⟨rfl,rfl⟩:=hb';split at hv
          .rename_i h0
           simp at hv;obtain⟨rfl,rfl⟩:=hv;exact same (zero h0 hlc he) rfl (by rw[he]at rx';exact rx')
          .rename_i h0
           split at hv
           .rename_i hin
            split at hv
            .rename_i hex
             subst hex;simp at hv;obtain⟨rfl,rfl⟩:=hv;simp only[dH]at hI;exact aiD false hs hd hn hb hfit hcs pK (by simpa using hm) he dZ hI hrd hone hrl nS (by omega) (λFX pL=>fin he sx (UA hu oD hi nS jy FX hb pL hone)) hK
            .simp at hv
           .rename_i hin
            split at hv
            .rename_i aiI
             simp at hv;obtain⟨rfl,rfl⟩:=hv;by_cases hcap:len+ys.length<=cap
             .exact UI hs hd hn hb hfit hcs pK hle dZ hI hrd hone hrl nS hcap aiI.1 (λpL=>fin he sx (UA hu oD hi nS jy hcap hb pL hone)) hK
             .obtain⟨k1,k2,k3⟩:=hs.kill hl s.ok
              have hlen:((rows.drop off).take len).length=len:=by simp;omega
              obtain⟨olds,o1,o2,o3,o4⟩:=Ap (DG dZ hle);rw[hlen]at o3;have hrun:=UB (P:=P) (w:=w) (ty:=o.type) hu oD hi hz (sLen:=len) (sCap:=cap) (sc:=cap) (base:=some ⟨g.β n,g.o n+off*i.size,none⟩) (olds:=olds) (by rw[o3,jt]) (λ_=>⟨_,_,rfl,o4⟩) nS jy (xc:=xc) (by omega) aiI.2 hby rfl
              have DJ:=grownCap_ge w (len+ys.length) cap e;have jO:((rows.drop off).take len++ys).length=len+ys.length:=by simp;omega
              have wv:(Builtin.zeroCells z.cells (grownCap w (len+ys.length) cap e - (len+ys.length))).toList.length=(grownCap w (len+ys.length) cap e - (len+ys.length))*i.size:=by simp[size_zeroCells,BQ]
              have Jl:∀r∈(rows.drop off).take len++ys,r.length=i.size:=by
               intro r hr;rcases dm.1 hr with h1 |h1
               .obtain⟨j,hj,DI⟩:=tv (mV (oa h1))
                exact(oB dZ (r:=j) (row:=r) (by simp[hj,DI])).1
               .exact hrl r h1
              have bR:(s.heap.set n .dead).length=s.heap.length:=by simp
              refine On (s:=⟨s.env,s.heap.set n .dead,s.ok⟩) k1 hd (es:=i.size) (ex:=ex) (ys:=(rows.drop off).take len++ys) (C:=olds++news) (ok:=s.ok)
               (rest:=(Builtin.zeroCells z.cells (grownCap w (len+ys.length) cap e - (len+ys.length))).toList) (by rw[jO];exact fin he sx hrun) Jl (by rw[Eo];exact Ah o1 hrd)
               (λv hv=>(dm.1 hv).elim (o2 v) (hone v)) (by rw[jO];exact DJ) ?_ (Om sX _) λg' v' w' h1 h2=>?_
              .rw[l6,o3,nS,wv,jt i.size,<-Nat.add_mul,<-Nat.add_mul]
               exact l7 _ (by omega)
              .simp only[bR,jO]at h1 h2
               exact hK g' v' w' h1 (k2.trans h2)
            .simp at hv
         .simp at hv
        .simp at hv
       |jl n off len =>
        rw[fU]at hv rx;simp only at hv;split at hv
        .rename_i e1 ex rows hn
         split at hv
         .rename_i eo
          obtain⟨rfl,hle⟩:=eo;have rx':=rx;simp only[aK]at rx;obtain⟨cap,he,hlc,hm,CS,T,hb,hfit,hcs⟩:=rx.2.2 i.size (by rw[hn];rfl)
          rw[hn]at hm;simp only[O.len]at hm;have hl:(aV s.heap n).live=true:=by rw[hn];rfl
          have dF:=hs.heap.obj n;rw[hn]at dF;obtain⟨⟨sk,T',hb',pK⟩,dZ,hI⟩:=dF;rw[hb]at hb';simp at hb';obtain⟨rfl,rfl⟩:=hb';split at hv
          .rename_i h0
           simp at hv;obtain⟨rfl,rfl⟩:=hv;exact same (zero h0 hlc he) rfl (by rw[he]at rx';exact rx')
          .rename_i h0
           split at hv
           .rename_i hin
            split at hv
            .rename_i hex
             subst hex;simp at hv;obtain⟨rfl,rfl⟩:=hv;simp only[dH]at hI;exact aiD true hs hd hn hb hfit hcs pK (by simpa using hm) he dZ hI hrd hone hrl nS (by omega) (λFX pL=>fin he sx (UA hu oD hi nS jy FX hb pL hone)) hK
            .simp at hv
           .rename_i hin
            split at hv
            .rename_i hroom
             simp at hv;obtain⟨rfl,rfl⟩:=hv;have hlen:((rows.drop off).take len).length=len:=by simp;omega
             obtain⟨olds,o1,o2,o3,o4⟩:=Ap (DG dZ hle);rw[hlen]at o3;have hrun:=UB (P:=P) (w:=w) (ty:=o.type) hu oD hi hz (sLen:=len) (sCap:=cap) (sc:=cap) (base:=some ⟨g.β n,g.o n+off*i.size,none⟩) (olds:=olds) (by rw[o3,jt]) (λ_=>⟨_,_,rfl,o4⟩) nS jy (xc:=xc) (by omega) hroom hby rfl
             have DJ:=grownCap_ge w (len+ys.length) cap e;have jO:((rows.drop off).take len++ys).length=len+ys.length:=by simp;omega
             have wv:(Builtin.zeroCells z.cells (grownCap w (len+ys.length) cap e - (len+ys.length))).toList.length=(grownCap w (len+ys.length) cap e - (len+ys.length))*i.size:=by simp[size_zeroCells,BQ]
             have Jl:∀r∈(rows.drop off).take len++ys,r.length=i.size:=by
              intro r hr;rcases dm.1 hr with h1 |h1
              .obtain⟨j,hj,DI⟩:=tv (mV (oa h1))
               exact(oB dZ (r:=j) (row:=r) (by simp[hj,DI])).1
              .exact hrl r h1
             refine On hs hd (es:=i.size) (ex:=true) (ys:=(rows.drop off).take len++ys) (C:=olds++news) (ok:=s.ok)
              (rest:=(Builtin.zeroCells z.cells (grownCap w (len+ys.length) cap e - (len+ys.length))).toList) (by rw[jO];exact fin he sx hrun) Jl (by rw[Eo];exact Ah o1 hrd)
              (λv hv=>(dm.1 hv).elim (o2 v) (hone v)) (by rw[jO];exact DJ) ?_ (Om sX _) λg' v' w' h1 h2=>?_
             .rw[l6,o3,nS,wv,jt i.size,<-Nat.add_mul,<-Nat.add_mul]
              exact l7 _ (by omega)
             .simp only[jO]at h1 h2
              exact hK g' v' w' h1 h2
            .simp at hv
         .simp at hv
        .simp at hv
       |_=>rw[fU]at hv;simp at hv
     .simp at BQ
    .simp at ht
   .simp at ht
  .simp at h
 .simp at h
end
end Go.VS
namespace Go.VS
section
variable {φ:fD}
theorem DK{h:List O}{m:Nat}{roots L:List Nat}(hc:cut h m roots=some L):L.Nodup/\(∀n∈roots,n∈L)/\(∀n∈L,n<h.length/\∀k∈(aV h n).dy,k∈L)/\m<=L.length/\∀k,k<m->L[k]?=some k:=by
 unfold cut at hc;simp only at hc;split at hc
 .rename_i eo
  obtain⟨h1,h2,h3⟩:=eo;simp only[gz]at hc;rw[hc]at h1 h2 h3;simp only[zi,gf,Bool.decide_and,bD]at h2 h3;refine⟨h1,h2,h3,?_,λk hk=>?_⟩
  .rw[<-hc];simp
  .rw[<-hc,th (by simpa using hk)]
   simp[hk]
 .simp at hc
def iM(g:Gh)(L:List Nat):Gh:=⟨λk=>g.β (L.getD k 0),λk=>g.o (L.getD k 0),g.I⟩
theorem yE{h:List O}{L:List Nat}:(sub h L).length=L.length:=by simp[sub]
theorem mP{h:List O}{L:List Nat}{k n:Nat}(hk:L[k]?=some n):aV (sub h L) k=(aV h n).dP (L.idxOf ·):=by
 simp[sub,aV,List.getD,hk]
theorem FY{h:List O}{L:List Nat}{k:Nat}(hk:L.length<=k):aV (sub h L) k = .dead:=by
 have:(sub h L).length<=k:=by rw[yE];exact hk
 simp[aV,List.getD,oc this]
theorem Aq{o:O}{f:Nat->Nat}:(o.dP f).gN=o.gN:=by cases o<;>rfl
theorem DL{o:O}{f:Nat->Nat}:(o.dP f).len=o.len:=by cases o<;>simp[O.dP,O.len]
theorem wY{o:O}{f:Nat->Nat}:(o.dP f).live=o.live:=by cases o<;>rfl
theorem Jn{o:O}{f:Nat->Nat}:(o.dP f).tY=o.tY:=by cases o<;>rfl
theorem Oo{t:Nat}:∀{env:List (Nat×V)}{p:Nat×V},p∈env->t∈p.2.dy->t∈rP env
 | [],_,h,_=>by simp at h
 |q::r,p,h,ht=>by
  simp only[rP,dm];rcases dD.1 h with h1 |h1
  .subst h1;exact .inl ht
  .exact .inr (Oo h1 ht)
theorem BR{L:List Nat}{n:Nat}(hn:n∈L):L[L.idxOf n]?=some n:=by
 have hlt:=xO hn;simp[qE hlt]
mutual
theorem FZ{h:List O}{g:Gh}{w:World}{L:List Nat}:∀{x:V}{v:Value},(∀n∈x.dy,n∈L)->aK φ h g w x v->aK φ (sub h L) (iM g L) w (x.dP (L.idxOf ·)) v
 | .u,v,_,_=>by simp[V.dP,aK]
 | .kN,v,_,hr=>by simpa[V.dP,aK]using hr
 | .d x,v,_,hr=>by simp only[V.dP,aK]at hr⊢;exact hr
 | .loc n r c,v,hl,hr=>by
  have hn:=hl n (by simp[V.dy])
  have hg:=BR hn;simp only[V.dP,aK]at hr⊢;refine⟨by rw[yE];exact xO hn,hr.2.1,λes he=>?_⟩
  rw[mP hg,Aq]at he;have:=hr.2.2 es he;simpa[iM,List.getD,hg]using this
 | .aR n off len,v,hl,hr=>by
  have hn:=hl n (by simp[V.dy])
  have hg:=BR hn;simp only[V.dP,aK]at hr⊢;refine⟨by rw[yE];exact xO hn,hr.2.1,λes he=>?_⟩
  rw[mP hg,Aq]at he;rw[mP hg,DL];have:=hr.2.2 es he;simpa[iM,List.getD,hg]using this
 | .jl n off len,v,hl,hr=>by
  have hn:=hl n (by simp[V.dy])
  have hg:=BR hn;simp only[V.dP,aK]at hr⊢;refine⟨by rw[yE];exact xO hn,hr.2.1,λes he=>?_⟩
  rw[mP hg,Aq]at he;rw[mP hg,DL];have:=hr.2.2 es he;simpa[iM,List.getD,hg]using this
 | .jc _,v,_,hr=>by simpa only[V.dP,aK]using hr
 | .mp n,v,hl,hr=>by
  have hn:=hl n (by simp[V.dy])
  have hg:=BR hn;simp only[V.dP,aK]at hr⊢;refine⟨by rw[yE];exact xO hn,hr.2.1,λkv he=>?_⟩
  rw[mP hg]at he;have h2:(iM g L).β (L.idxOf n)=g.β n:=by simp[iM,List.getD,hg]
  rw[h2];cases ho:aV h n with
  |mp Jo=>exact hr.2.2 Jo ho
  |_=>rw[ho]at he;simp[O.dP]at he
 | .rf cs,v,hl,hr=>by
  simp only[V.dP,aK]at hr⊢;obtain⟨b,off,us,h1,h2,h3,h4⟩:=hr;refine⟨b,off,us,h1,?_,yF (λn hn=>hl n (by simpa[V.dy]using hn)) h3,h4⟩
  have hlen:∀{f:Nat->Nat}{xs:List V},(V.iQ f xs).length=xs.length:=by
   intro f xs;induction xs with
   |nil=>rfl
   |cons x xs ih=>simp[V.iQ,ih]
  rw[hlen];exact h2
 | .ju n,v,hl,hr=>by
  have hn:=hl n (by simp[V.dy])
  have hg:=BR hn;simp only[V.dP,aK]at hr⊢;refine⟨by rw[yE];exact xO hn,hr.2.1,λhe=>?_⟩
  rw[mP hg,Jn]at he;have h2:(iM g L).β (L.idxOf n)=g.β n:=by simp[iM,List.getD,hg]
  rw[h2];exact hr.2.2 he
 | .fn f a b,v,hl,hr=>by
  simp only[V.dP,aK]at hr⊢;obtain⟨A,B,h1,h2,h3⟩:=hr;exact⟨A,B,h1,yF (λn hn=>hl n (by simp[V.dy,hn])) h2,yF (λn hn=>hl n (by simp[V.dy,hn])) h3⟩
 | .ag cs,v,hl,hr=>by
  simp only[V.dP,aK]at hr⊢;obtain⟨A,h1,h2,h3⟩:=hr;exact⟨A,h1,yF (λn hn=>hl n (by simpa[V.dy]using hn)) h2,h3⟩
 | .tu cs,v,hl,hr=>by
  simp only[V.dP,aK]at hr⊢;obtain⟨A,h1,h2⟩:=hr;exact⟨A,h1,yF (λn hn=>hl n (by simpa[V.dy]using hn)) h2⟩
theorem yF{h:List O}{g:Gh}{w:World}{L:List Nat}:∀{xs:List V}{vs:List Value},(∀n∈V.gA xs,n∈L)->bU φ h g w xs vs->bU φ (sub h L) (iM g L) w (V.iQ (L.idxOf ·) xs) vs
 | [],[],_,_=>by simp[V.iQ,bU]
 |x::xs,v::vs,hl,hr=>by
  simp only[V.iQ,bU]at hr⊢;exact⟨FZ (λn hn=>hl n (by simp[V.gA,hn])) hr.1,yF (λn hn=>hl n (by simp[V.gA,hn])) hr.2⟩
 | [],_::_,_,hr=>by simp[bU]at hr
 |_::_,[],_,hr=>by simp[bU]at hr
end
theorem aiJ{xs:List V}{x:V}{n:Nat}(hx:x∈xs)(hn:n∈x.dy):n∈V.gA xs:=by
 induction xs with
 |nil=>simp at hx
 |cons y ys ih =>
  simp only[V.gA,dm];rcases dD.1 hx with h |h
  .subst h;exact .inl hn
  .exact .inr (ih h)
theorem UO{f:Nat->Nat}:∀{xs:List V}{j:Nat},(V.iQ f xs)[j]?=(xs[j]?).map (V.dP f)
 | [],j=>by simp[V.iQ]
 |x::xs,0=>by simp[V.iQ]
 |x::xs,j+1=>by simpa[V.iQ]using UO (xs:=xs) (j:=j)
theorem Jp{f:Nat->Nat}:∀{xs:List V},(V.iQ f xs).length=xs.length
 | []=>rfl
 |x::xs=>by simp[V.iQ,Jp (xs:=xs)]
theorem aiK{h:List O}{g:Gh}{w:World}{L:List Nat}{b o:Nat}{x:O}(hl:∀n∈x.dy,n∈L)(hr:gC φ h g w b o x):gC φ (sub h L) (iM g L) w b o (x.dP (L.idxOf ·)):=by
 cases x with
 |dead=>trivial
 |aI es ex rows=>exact hr
 |gK es rows =>
  simp only[O.dP,gC]at hr⊢;refine⟨by simpa using hr.1,λr row hrow=>?_,hr.2.2⟩
  rw[vP,gI]at hrow;obtain⟨Oq,h0,rfl⟩:=hrow;obtain⟨h1,h2⟩:=hr.2.1 r Oq h0;refine⟨by rw[Jp];exact h1,λj c hj=>?_⟩
  rw[UO,gI]at hj;obtain⟨c0,hc0,rfl⟩:=hj;obtain⟨v,h3,h4,h5⟩:=h2 j c0 hc0;refine⟨v,h3,h4,FZ (λn hn=>hl n ?_) h5⟩
  simp only[O.dy,AR];exact⟨Oq,lE h0,aiJ (lE hc0) hn⟩
 |mp kv =>
  simp only[O.dP,gC]at hr⊢;obtain⟨ES,kZ,h1,h2,h3⟩:=hr;refine⟨ES,kZ,h1,⟨by simpa using h2.1,λi p e hp he=>?_⟩,h3⟩
  rw[vP,gI]at hp;obtain⟨p0,nq,rfl⟩:=hp;obtain⟨h4,h5⟩:=h2.2 i p0 e nq he;refine⟨h4,FZ (λn hn=>hl n ?_) h5⟩
  simp only[O.dy,AR];exact⟨p0,lE nq,hn⟩
 |lp ps a c e env =>
  simp only[O.dP,gC]at hr⊢;obtain⟨r,nt,h1,h0,h2,h3,h4,h5⟩:=hr;refine⟨r,nt,h1,h0,h2,h3,λp hp=>?_,h5⟩
  simp only[zk,gY]at hp;obtain⟨q,hq,rfl⟩:=hp;exact FZ (λn hn=>hl n (by simp only[O.dy];exact Oo hq hn)) (h4 q hq)
theorem F0{h:List O}{g:Gh}{w:World}{m:Nat}{roots L:List Nat}(hc:cut h m roots=some L)(hr:fj φ h g w):fj φ (sub h L) (iM g L) w:=by
 obtain⟨hnd,_,bR,_,_⟩:=DK hc;have hout:∀k,¬k<L.length->aV (sub h L) k = .dead:=λk hk=>FY (by omega)
 refine⟨λk=>?_,λa b ha hb he=>?_,hr.new⟩
 .by_cases hk:k<L.length
  .have hg:L[k]?=some L[k]:=by simp[hk]
   rw[mP hg];have:=aiK (L:=L) (bR L[k] (vN hk)).2 (hr.obj L[k]);simpa[iM,List.getD,hg]using this
  .rw[hout k hk];trivial
 .have ka:a<L.length:=by
   by_cases hk:a<L.length
   .exact hk
   .rw[hout a hk]at ha;simp[O.live]at ha
  have kb:b<L.length:=by
   by_cases hk:b<L.length
   .exact hk
   .rw[hout b hk]at hb;simp[O.live]at hb
  have ga:L[a]?=some L[a]:=by simp[ka]
  have gb:L[b]?=some L[b]:=by simp[kb]
  rw[mP ga,wY]at ha;rw[mP gb,wY]at hb
  have:L[a]=L[b]:=hr.inj _ _ ha hb (by simpa[iM,List.getD,ga,gb]using he)
  have i1:=Qp hnd a ka;have i2:=Qp hnd b kb;rw[this]at i1;omega
theorem Ot{h:List O}{g:Gh}{w:World}{m:Nat}{roots L:List Nat}(hc:cut h m roots=some L):Frame m h g w (sub h L) (iM g L) w:=by
 obtain⟨hnd,_,bR,hm,F1⟩:=DK hc;refine⟨Ext.refl _ _,gh _,rfl,rfl,rfl,λn hn=>?_,λb _ _=>⟨rfl,rfl⟩,λn hn=>?_,λn hn=>⟨λes he=>?_,λkv hk=>?_,λhk=>?_⟩⟩
 .simp[iM,List.getD,F1 n hn]
 .by_cases hk:n<L.length
  .have hg:L[n]?=some L[n]:=by simp[hk]
   rw[mP hg,wY]at hn;exact .inl ⟨L[n],hn,by simp[iM,List.getD,hg]⟩
  .rw[FY (by omega)]at hn;simp[O.live]at hn
 .rw[mP (F1 n hn),Aq]at he
  rw[mP (F1 n hn),DL];refine⟨he,rfl,?_⟩
  have:(iM g L).β n=g.β n:=by simp[iM,List.getD,F1 n hn]
  exact nP.of_eq rfl
 .rw[mP (F1 n hn)]at hk
  cases ho:aV h n with
  |mp Jo=>exact⟨Jo,rfl⟩
  |_=>rw[ho]at hk;simp[O.dP]at hk
 .rw[mP (F1 n hn),Jn]at hk
  exact hk
theorem aiL{live:List Nat}{e:List (Nat×V)}{t:Nat}:cC (jS live e) t=if t∈live then cC e t else .u:=by
 unfold jS;induction live with
 |nil=>simp[cC]
 |cons d ds ih =>
  simp only[gm,cC,dD,ih];by_cases h:d=t
  .simp[h]
  .have h':¬t=d:=λe=>h e.symm
   simp[h,h']
theorem aiM{f:Nat->Nat}{t:Nat}:∀{e:List (Nat×V)},cC (e.map λp=>(p.1,p.2.dP f)) t=(cC e t).dP f
 | []=>rfl
 |p::e=>by
  simp only[gm,cC];split
  .rfl
  .exact aiM
theorem aiN{t n:Nat}:∀{e:List (Nat×V)},n∈(cC e t).dy->n∈rP e
 | [],h=>by simp[cC,V.dy]at h
 |p::e,h=>by
  simp only[rP,dm];simp only[cC]at h;split at h
  .exact .inl h
  .exact .inr (aiN h)
theorem UP{nt m dB:Nat}{s:St}{g:Gh}{a:Act}{w:World}(hs:cj φ nt m dB s g a w){live:List Nat}{p:List (Nat×V)×List O}(hc:canon m live s.env s.heap=some p)(ok:Bool):
  ∃g',cj φ nt m dB ⟨p.1,p.2,ok⟩ g' a w/\Frame m s.heap g w p.2 g' w:=by
 have key:∀{h:List O}{g:Gh}{t:Nat},aK φ h g w (cC s.env t) (a.tmps.getD t undef)->aK φ h g w (cC (jS live s.env) t) (a.tmps.getD t undef):=by
  intro h g t hr;rw[aiL];split
  .exact hr
  .simp[aK]
 unfold canon at hc;split at hc
 .rename_i hh
  simp only[gz]at hc;subst hc;rw[<-hh];exact⟨g,⟨λt=>key (hs.env t),hs.heap,hs.size,hs.defers,hs.len⟩,Frame.refl _ _ _ _⟩
 .simp only[gI]at hc
  obtain⟨L,hL,rfl⟩:=hc;obtain⟨_,yG,_,hm,_⟩:=DK hL;refine⟨iM g L,⟨λt=>?_,F0 hL hs.heap,hs.size,hs.defers.frame (Ot hL),by rw[yE];exact hm⟩,Ot hL⟩
  rw[aiM];exact FZ (λn hn=>yG n (aiN hn)) (key (hs.env t))
end
end Go.VS
namespace Go.VS
section
variable {φ:fD}
theorem aiO{h:List O}{n es:Nat}{ex:Bool}{rows:List (List D)}(hn:aV h n = .aI es ex rows):bg h n=h.set n (.aI es false rows):=by
 simp[bg,hn]
theorem aiP{h:List O}{n:Nat}(hn:∀es ex rows,aV h n≠.aI es ex rows):bg h n=h:=by
 unfold bg;split
 .rename_i es ex rows hh
  exact absurd hh (hn es ex rows)
 .rfl
theorem aiQ{h:List O}{n k:Nat}:(∃es ex rows,k=n/\aV h k = .aI es ex rows/\aV (bg h n) k = .aI es false rows)\/aV (bg h n) k=aV h k/\(k=n->∀es ex rows,aV h k≠.aI es ex rows):=by
 by_cases hx:∃es ex rows,aV h n = .aI es ex rows
 .obtain⟨es,ex,rows,hn⟩:=hx
  rw[aiO hn];by_cases hk:k=n
  .subst hk
   exact .inl ⟨es,ex,rows,rfl,hn,wI (BC (by rw[hn];rfl))⟩
  .exact .inr ⟨qp hk,λh=>absurd h hk⟩
 .have hne:∀es ex rows,aV h n≠.aI es ex rows:=λes ex rows hh=>hx ⟨es,ex,rows,hh⟩
  rw[aiP hne];exact .inr ⟨rfl,λh=>by subst h;exact hne⟩
theorem aiR{h:List O}{g:Gh}{w:World}(m n:Nat)(hr:fj φ h g w):∃I',fj φ (bg h n) (g.ez I') w/\gT h g w (bg h n) (g.ez I') w/\Frame m h g w (bg h n) (g.ez I') w:=by
 by_cases hx:∃es ex rows,aV h n = .aI es ex rows
 .obtain⟨es,ex,rows,hn⟩:=hx
  rw[aiO hn];have hl:(aV h n).live=true:=by rw[hn];rfl
  have dF:=hr.obj n;rw[hn]at dF;obtain⟨⟨CS,T,hb,hfit⟩,dZ,hI⟩:=dF;have aiS:g.I (g.β n)<=g.o n+es*rows.length:=by
   cases ex<;>simp at hI<;>omega
  have hE:Ext g.I w (iW g.I (g.β n) (g.o n+es*rows.length)) w:=⟨λb=>by simp only[iW];split<;>simp_all,λ_ _ _=>rfl⟩
  have yC:∀b,b≠g.β n->iW g.I (g.β n) (g.o n+es*rows.length) b=g.I b:=λb hb=>by simp[iW,hb]
  have hle:gT h g w (h.set n (.aI es false rows)) (g.ez (iW g.I (g.β n) (g.o n+es*rows.length))) w:=wJ hr hl (jY.refl _ _) hE
   (λes' he'=>⟨by rw[hn];simpa[O.gN]using he',by rw[hn];rfl,nP.of_eq rfl⟩) (λkv hk=>by simp at hk)
  refine⟨_,wK hr hl (jY.refl _ _) hle yC ⟨⟨CS,T,hb,hfit⟩,Z5 hE (λ_=>rfl) dZ,by simp[Gh.ez,iW]⟩,hle,wL _ hl (jY.refl _ _) hE yC hle⟩
 .have hne:∀es ex rows,aV h n≠.aI es ex rows:=λes ex rows hh=>hx ⟨es,ex,rows,hh⟩
  rw[aiP hne];exact⟨g.I,hr,gT.refl h g w,Frame.refl m h g w⟩
theorem gT.trans{h h' h'':List O}{g g' g'':Gh}{w w' w'':World}(a:gT h g w h' g' w')(b:gT h' g' w' h'' g'' w''):gT h g w h'' g'' w'' where
 ext:=a.ext.trans b.ext
 len:=mE a.len b.len
 arr n es hn he:=by
  obtain⟨h1,h2,h3,h4,h5⟩:=b.arr n es (pU hn a.len) he;obtain⟨k1,k2,k3,k4,k5⟩:=a.arr n es hn h1;rw[k2]at h5;exact⟨k1,h2.trans k2,h3.trans k3,h4.trans k4,k5.trans h5⟩
 mp n kv hn hk:=by
  obtain⟨⟨kv',h1⟩,h2⟩:=b.mp n kv (pU hn a.len) hk;obtain⟨k1,k2⟩:=a.mp n kv' hn h1;exact⟨k1,h2.trans k2⟩
 lp n hn hk:=by
  obtain⟨h1,h2⟩:=b.lp n (pU hn a.len) hk;obtain⟨k1,k2⟩:=a.lp n hn h1;exact⟨k1,h2.trans k2⟩
theorem aiT{w:World}(m:Nat):∀(ns:List Nat){h:List O}{g:Gh},fj φ h g w->∃I',fj φ (aX h ns) (g.ez I') w/\gT h g w (aX h ns) (g.ez I') w/\Frame m h g w (aX h ns) (g.ez I') w
 | [],h,g,hr=>⟨g.I,hr,gT.refl h g w,Frame.refl m h g w⟩
 |n::ns,h,g,hr=>by
  obtain⟨I1,h1,h2,h3⟩:=aiR m n hr;obtain⟨I2,k1,k2,k3⟩:=aiT m ns h1;exact⟨I2,k1,h2.trans k2,h3.trans k3⟩
theorem Ou:∀(ns:List Nat){h:List O}{k:Nat},aV (aX h ns) k=aV h k/\(k∈ns->∀es rows,aV h k≠.aI es true rows)\/∃es ex rows,aV h k = .aI es ex rows/\aV (aX h ns) k = .aI es false rows
 | [],h,k=>.inl ⟨rfl,by simp⟩
 |n::ns,h,k=>by
  simp only[aX];rcases Ou ns (h:=bg h n) (k:=k)with⟨h1,h2⟩ |⟨es,ex,rows,h1,h2⟩
  .rcases aiQ (h:=h) (n:=n) (k:=k)with⟨es,ex,rows,e1,e2,e3⟩ |⟨e1,e2⟩
   .exact .inr ⟨es,ex,rows,e2,h1.trans e3⟩
   .refine .inl ⟨h1.trans e1,λhk es rows=>?_⟩
    rcases dD.1 hk with hk |hk
    .exact e2 hk es true rows
    .rw[<-e1];exact h2 hk es rows
  .rcases aiQ (h:=h) (n:=n) (k:=k)with⟨es',ex',iH,e1,e2,e3⟩ |⟨e1,e2⟩
   .rw[e3]at h1
    simp only[O.aI.injEq]at h1;obtain⟨rfl,_,rfl⟩:=h1;exact .inr ⟨es',ex',iH,e2,h2⟩
   .exact .inr ⟨es,ex,rows,by rw[<-e1];exact h1,h2⟩
def UQ(h:List O)(ns:List Nat):Prop:=∀n∈ns,∀es ex rows,aV h n = .aI es ex rows->ex=false
mutual
theorem aiU{h:List O}{g:Gh}{w:World}(hr:fj φ h g w):∀{x:V}{v:Value}{d:D},UQ h x.dy->eG h x=some d->aK φ h g w x v->bT φ g.I w d v
 | .u,v,d,_,ht,_=>by simp[eG]at ht
 | .kN,v,d,_,ht,_=>by simp[eG]at ht
 | .d x,v,d,_,ht,hv=>by simp[eG]at ht;subst ht;simpa only[aK]using hv
 | .loc n r c,v,d,hf,ht,hv=>by
  simp only[eG]at ht;split at ht
  .rename_i es ex rows hn
   have hex:=hf n (by simp[V.dy]) es ex rows hn
   subst hex;simp only[og]at ht;obtain⟨row,hrow,ht⟩:=ht;split at ht
   .rename_i hc
    simp at ht;subst ht;have dF:=hr.obj n;rw[hn]at dF;obtain⟨_,dZ,hI⟩:=dF;simp at hI;simp only[aK]at hv;have jE:=hv.2.2 es (by rw[hn];rfl)
    obtain⟨h1,h2⟩:=oB dZ hrow;have FR:r<rows.length:=by
     rcases lG r rows.length with h3 |h3
     .exact h3
     .simp[oc h3]at hrow
    have hin:(r+1)*es<=es*rows.length:=by rw[jt es];exact l7 es FR
    rw[rM]at hin;simp only[bT];refine⟨_,_,jE,by simp;omega,wD λj x hj=>?_⟩
    rw[pX]at hj;have:=FG h2 hj
    rwa [<-Nat.add_assoc]at this
   .simp at ht
  .simp at ht
 | .aR n off len,v,d,hf,ht,hv=>by
  simp only[eG]at ht;split at ht
  .rename_i es ex rows hn
   have hex:=hf n (by simp[V.dy]) es ex rows hn
   subst hex;split at ht
   .rename_i hc
    simp at ht;subst ht;have dF:=hr.obj n;rw[hn]at dF;obtain⟨_,dZ,hI⟩:=dF;simp at hI;simp only[aK]at hv;obtain⟨cap,jE,hlc,_⟩:=hv.2.2 es (by rw[hn];rfl)
    simp only[bT];have hlen:((rows.drop off).take len).length=len:=by simp;omega
    refine⟨_,cap,by rw[hlen];exact jE,by rw[hlen];exact hlc,λh=>by simp at h,λ_=>⟨_,rfl,λ_=>⟨rfl,?_,DG dZ hc⟩⟩⟩
    rw[hlen,hI];have h1:(off+len)*es<=es*rows.length:=by rw[jt es];exact l7 es hc
    rw[nD]at h1
    have:es*len=len*es:=jt _ _
    simp only;omega
   .simp at ht
  .simp at ht
 | .jc es,v,d,_,ht,hv=>by
  simp[eG]at ht;subst ht;simp only[aK]at hv;obtain⟨ad,rfl⟩:=hv;simp only[bT];exact⟨some ad,0,rfl,by simp,by simp,λ_=>⟨ad,rfl,by simp⟩⟩
 | .mp n,v,d,_,ht,_=>by simp[eG]at ht
 | .ju n,v,d,_,ht,_=>by simp[eG]at ht
 | .rf cs,v,d,hf,ht,hv=>by
  simp only[eG,gI]at ht;obtain⟨x,hx,rfl⟩:=ht;simp only[aK]at hv;obtain⟨b,off,us,h1,h2,h3,h4⟩:=hv;have hd:=F2 hr (λn hn=>hf n (by simpa[V.dy]using hn)) hx h3
  have e1:=pz h3;have e2:=sW hd;simp only[bT];exact⟨b,off,h1,by omega,N4 hd (λj u hj=>(h4 j u hj).1) (λu hu=>let ⟨j,hj,he⟩:=tv hu;(h4 j u (by simp[hj,he])).2)⟩
 | .fn f a b,v,d,hf,ht,hv=>by
  simp only[eG,og,gI]at ht;obtain⟨x,hx,y,hy,rfl⟩:=ht;simp only[aK]at hv;obtain⟨A,B,h1,h2,h3⟩:=hv;simp only[bT];exact⟨A,B,h1,F2 hr (λn hn=>hf n (by simp[V.dy,hn])) hx h2,F2 hr (λn hn=>hf n (by simp[V.dy,hn])) hy h3⟩
 | .ag cs,v,d,hf,ht,hv=>by
  simp only[eG,gI]at ht;obtain⟨x,hx,rfl⟩:=ht;simp only[aK]at hv;obtain⟨A,h1,h2,h3⟩:=hv;simp only[bT];exact⟨A,h1,F2 hr (λn hn=>hf n (by simpa[V.dy]using hn)) hx h2,h3⟩
 | .tu cs,v,d,_,ht,_=>by simp[eG]at ht
theorem F2{h:List O}{g:Gh}{w:World}(hr:fj φ h g w):∀{xs:List V}{vs:List Value}{ds:List D},UQ h (V.gA xs)->gZ h xs=some ds->bU φ h g w xs vs->cx φ g.I w ds vs
 | [],[],ds,_,ht,_=>by simp[gZ]at ht;subst ht;simp[cx]
 |x::xs,v::vs,ds,hf,ht,hv=>by
  simp only[gZ,og,gI]at ht;obtain⟨y,hy,ys,hys,rfl⟩:=ht;simp only[bU]at hv;simp only[cx];exact⟨aiU hr (λn hn=>hf n (by simp[V.gA,hn])) hy hv.1,F2 hr (λn hn=>hf n (by simp[V.gA,hn])) hys hv.2⟩
 | [],_::_,_,_,_,hv=>by simp[bU]at hv
 |_::_,[],_,_,_,hv=>by simp[bU]at hv
end
def UR(h h':List O):Prop:=∀k,aV h' k=aV h k\/∃es ex ex' rows,aV h k = .aI es ex rows/\aV h' k = .aI es ex' rows
mutual
theorem aiV{h h':List O}(hs:UR h h'):∀(x:V),eG h' x=eG h x
 | .u=>by simp[eG]
 | .kN=>by simp[eG]
 | .d x=>by simp[eG]
 | .loc n r c=>by
  simp only[eG];rcases hs n with h1 |⟨es,ex,ex',rows,h1,h2⟩
  .rw[h1]
  .rw[h1,h2]
 | .aR n off len=>by
  simp only[eG];rcases hs n with h1 |⟨es,ex,ex',rows,h1,h2⟩
  .rw[h1]
  .rw[h1,h2]
 | .jl n off len=>by simp[eG]
 | .jc _=>by simp[eG]
 | .mp n=>by simp[eG]
 | .ju n=>by simp[eG]
 | .rf cs=>by simp only[eG,F3 hs cs]
 | .fn f a b=>by simp only[eG,F3 hs a,F3 hs b]
 | .ag cs=>by simp only[eG,F3 hs cs]
 | .tu cs=>by simp[eG]
theorem F3{h h':List O}(hs:UR h h'):∀(xs:List V),gZ h' xs=gZ h xs
 | []=>by simp[gZ]
 |x::xs=>by simp only[gZ,aiV hs x,F3 hs xs]
end
theorem aiW(ns:List Nat)(h:List O):UR h (aX h ns):=λk=>by
 rcases Ou ns (h:=h) (k:=k)with⟨h1,_⟩ |⟨es,ex,rows,h1,h2⟩
 .exact .inl h1
 .exact .inr ⟨es,ex,false,rows,h1,h2⟩
theorem aiX(ns:List Nat)(h:List O):UQ (aX h ns) ns:=λn hn es ex rows he=>by
 rcases Ou ns (h:=h) (k:=n)with⟨h1,h2⟩ |⟨es',ex',iH,h1,h2⟩
 .cases ex with
  |false=>rfl
  |true=>rw[h1]at he;exact absurd he (h2 hn es rows)
 .rw[h2]at he
  simp at he;exact he.2.1
theorem cj.frozen{nt m dB:Nat}{s:St}{g:Gh}{a:Act}{w:World}(hs:cj φ nt m dB s g a w)(ns:List Nat)(ok:Bool):∃I',cj φ nt m dB ⟨s.env,aX s.heap ns,ok⟩ (g.ez I') a w/\gT s.heap g w (aX s.heap ns) (g.ez I') w/\Frame m s.heap g w (aX s.heap ns) (g.ez I') w:=by
 obtain⟨I',h1,h2,h3⟩:=aiT m ns hs.heap;exact⟨I',⟨λk=>lU h2 (hs.env k),h1,hs.size,hs.defers.frame h3,mE hs.len h2.len⟩,h2,h3⟩
theorem Ov{nt m dB:Nat}{s:St}{g:Gh}{a:Act}{w:World}(hs:cj φ nt m dB s g a w){xs:List V}{vs:List Value}{ds:List D}(ht:gZ s.heap xs=some ds)(hv:bU φ s.heap g w xs vs)(ok:Bool):
  ∃I',cj φ nt m dB ⟨s.env,aX s.heap (V.gA xs),ok⟩ (g.ez I') a w/\Frame m s.heap g w (aX s.heap (V.gA xs)) (g.ez I') w/\cx φ I' w ds vs:=by
 obtain⟨I',h1,h2,h3⟩:=hs.frozen (V.gA xs) ok;exact⟨I',h1,h3,F2 h1.heap (aiX _ _) (by rw[F3 (aiW _ _)];exact ht) (yy h2 hv)⟩
theorem US{nt m dB:Nat}{a:Act}{w:World}:∀(ds:List Nat){s:St}{g:Gh},cj φ nt m dB s g a w->(vV s ds).ok=true->∃g',cj φ nt m dB (vV s ds) g' a w/\Frame m s.heap g w (vV s ds).heap g' w
 | [],s,g,hs,_=>⟨g,hs,Frame.refl _ _ _ _⟩
 |d::ds,s,g,hs,hok=>by
  simp only[vV]at hok⊢;have UT:=Hw ds hok;obtain⟨v,hh,hv⟩:=BJ UT;rw[hv]at hok⊢;simp only[gI,bt,uC]at hv;obtain⟨p,⟨x,hx,rfl⟩,rfl,rfl⟩:=hv;simp only[St.gi]at hok⊢;have hr:=hs.env d;have hL:V.gA [s.get (.t d)]=(s.get (.t d)).dy:=by simp[V.gA]
  obtain⟨I',h1,h2,h3⟩:=Ov hs (xs:=[s.get (.t d)]) (vs:=[a.tmps.getD d undef]) (ds:=[x]) (by simp[gZ,hx]) (by simp only[bU];exact⟨hr,trivial⟩) s.ok
  rw[hL]at h1 h2;simp only[cx]at h3;have hs':cj φ nt m dB ⟨(d,.d x)::s.env,aX s.heap (s.get (.t d)).dy,s.ok⟩ (g.ez I') a w:=by
   refine⟨λk=>?_,h1.heap,h1.size,h1.defers,h1.len⟩
   simp only[cC];by_cases hk:d=k
   .subst hk;rw[aN rfl];simp only[aK];exact h3.1
   .rw[aG hk];exact h1.env k
  obtain⟨g',k1,k2⟩:=US ds hs' hok;exact⟨g',k1,h2.trans k2⟩
end
end Go.VS
namespace Go.VS
section
variable {P:Program}{φ:fD}
variable {nt m dB:Nat}{s:St}{g:Gh}{a:Act}{w:World}{K:Act->World->Prop}{Q:Exit->Act->World->Prop}{o:Oper}
theorem F4:∀{L:List Nat}{os:List O}{h:List O},(aE h L os).length=h.length
 | [],_,_=>by simp[aE]
 |n::L,[],_=>by simp[aE]
 |n::L,o::os,h=>by simp[aE,F4 (L:=L)]
theorem UU:∀{L:List Nat}{os:List O}{h:List O}{k:Nat},k∉L->aV (aE h L os) k=aV h k
 | [],_,_,_,_=>by simp[aE]
 |n::L,[],_,_,_=>by simp[aE]
 |n::L,o::os,h,k,hk=>by
  simp only[dD,nE]at hk;rw[aE,UU hk.2,qp hk.1]
theorem aiY:∀{L:List Nat}{os:List O}{h:List O},L.Nodup->(∀n∈L,n<h.length)->L.length<=os.length->∀{i n:Nat},L[i]?=some n->aV (aE h L os) n=aV os i
 | [],_,_,_,_,_,_,_,hi=>by simp at hi
 |n::L,[],_,_,_,hl,_,_,_=>by simp at hl
 |n::L,o::os,h,hnd,hlt,hl,i,k,hi=>by
  simp only[Ep]at hnd;simp only[ir]at hl;cases i with
  |zero =>
   simp at hi;subst hi;rw[aE,UU hnd.1,wI (hlt n (by simp))]
   rfl
  |succ i =>
   rw[aE,aiY hnd.2 (λx hx=>by simpa using hlt x (by simp[hx])) (by omega) (i:=i) (by simpa using hi)]
   rfl
theorem aiZ{h h':List O}{n:Nat}(hn:n<h.length):aV (h++h') n=aV h n:=by simp[aV,List.getD,th hn]
theorem ai0{h h':List O}{n:Nat}(hn:h.length<=n):aV (h++h') n=aV h' (n - h.length):=by simp[aV,List.getD,AP hn]
theorem ai1{h:List O}{f:O->O}(hf:f .dead = .dead){n:Nat}:aV (h.map f) n=f (aV h n):=by
 simp only[aV,List.getD,vP];cases h[n]? with
 |none=>exact hf.symm
 |some o=>rfl
theorem ai2{h:List O}{k n:Nat}:aV (h.drop k) n=aV h (k+n):=by simp[aV,List.getD]
def mQ(h:List O)(L:List Nat)(h1:List O):List O:=aE h L (h1.map (O.dP (back L h.length)))++(h1.drop L.length).map (O.dP (back L h.length))
def jP(h:List O)(L:List Nat)(g g1:Gh):Gh:=⟨λk=>if k<h.length then g.β k else g1.β (k - h.length+L.length),λk=>if k<h.length then g.o k else g1.o (k - h.length+L.length),g1.I⟩
structure j0(φ:fD)(h:List O)(L:List Nat)(g:Gh)(w:World)(h1:List O)(g1:Gh)(w1:World):Prop where
 hr:fj φ h g w
 nodup:L.Nodup
 lt:∀n∈L,n<h.length
 len:L.length<=h1.length
 jX:fj φ h1 g1 w1
 fr:Frame L.length (sub h L) (iM g L) w h1 g1 w1
section
variable {h h1:List O}{L:List Nat}{g1:Gh}{w1:World}
theorem ai3:(mQ h L h1).length=h.length+(h1.length - L.length):=by simp[mQ,F4]
theorem j0.old(_:j0 φ h L g w h1 g1 w1){k:Nat}(hk:k<h.length)(hL:k∉L):aV (mQ h L h1) k=aV h k:=by
 rw[mQ,aiZ (by rw[F4];exact hk),UU hL]
theorem j0.Jq(M:j0 φ h L g w h1 g1 w1){i:Nat}(hi:i<h1.length):back L h.length i<(mQ h L h1).length:=by
 rw[ai3,back];split
 .rename_i hlt
  have:L.getD i 0=L[i]:=by simp[List.getD,hlt]
  rw[this];have:=M.lt L[i] (vN hlt);omega
 .omega
theorem j0.at(M:j0 φ h L g w h1 g1 w1)(i:Nat):aV (mQ h L h1) (back L h.length i)=(aV h1 i).dP (back L h.length):=by
 have hm:∀(hh:List O)(n:Nat),aV (hh.map (O.dP (back L h.length))) n=(aV hh n).dP (back L h.length):=λhh n=>ai1 rfl
 by_cases hi:i<L.length
 .have hg:L[i]?=some L[i]:=by simp[hi]
  have hb:back L h.length i=L[i]:=by simp[back,hi,List.getD]
  rw[hb,mQ,aiZ (by rw[F4];exact M.lt _ (vN hi)),aiY M.nodup M.lt (by simpa using M.len) hg,hm]
 .have hb:back L h.length i=h.length+(i - L.length):=by simp[back,hi]
  rw[hb,mQ,ai0 (by rw[F4];omega),F4,XB,hm,ai2]
  congr 2;omega
theorem j0.gb(M:j0 φ h L g w h1 g1 w1)(i:Nat):(jP h L g g1).β (back L h.length i)=g1.β i/\(jP h L g g1).o (back L h.length i)=g1.o i:=by
 by_cases hi:i<L.length
 .have hg:L[i]?=some L[i]:=by simp[hi]
  have hb:back L h.length i=L[i]:=by simp[back,hi,List.getD]
  have hlt:=M.lt _ (vN hi);have hp:=M.fr.pE i hi;simp only[iM,List.getD,hg,vQ]at hp;simp[jP,hb,hlt,hp]
 .have hb:back L h.length i=h.length+(i - L.length):=by simp[back,hi]
  have e:i - L.length+L.length=i:=by omega
  have e2:¬h.length+(i - L.length)<h.length:=by omega
  simp[jP,hb,e,e2]
theorem j0.split(M:j0 φ h L g w h1 g1 w1)(k:Nat):(k<h.length/\k∉L)\/∃i,k=back L h.length i:=by
 by_cases hk:k<h.length
 .by_cases hL:k∈L
  .refine .inr ⟨L.idxOf k,?_⟩
   have h1:=xO hL;simp[back,h1,List.getD]
  .exact .inl ⟨hk,hL⟩
 .refine .inr ⟨L.length+(k - h.length),?_⟩
  rw[back,aG (by omega)]
  omega
theorem j0.apart(M:j0 φ h L g w h1 g1 w1){k:Nat}(hL:k∉L)(hl:(aV h k).live=true):∀i,(aV (sub h L) i).live=true->(iM g L).β i≠g.β k:=by
 intro i hi hb;by_cases hlt:i<L.length
 .have hg:L[i]?=some L[i]:=by simp[hlt]
  rw[mP hg,wY]at hi;simp only[iM,List.getD,hg,vQ]at hb;have:=M.hr.inj _ _ hi hl hb;exact hL (this▸vN hlt)
 .rw[FY (by omega)]at hi;simp[O.live]at hi
theorem j0.hle(M:j0 φ h L g w h1 g1 w1):gT h g w (mQ h L h1) (jP h L g g1) w1 where
 ext:=M.fr.ext
 len:=by rw[ai3];omega
 arr n es hn he:=by
  refine⟨?_,by simp[jP,hn],by simp[jP,hn],?_⟩
  all_goals
   by_cases hL:n∈L
   .have hi:=xO hL
    have hg:=BR hL;have hb:back L h.length (L.idxOf n)=n:=by simp[back,hi,List.getD]
    have e1:=M.at (L.idxOf n);rw[hb]at e1;rw[e1,Aq]at he;obtain⟨k1,k2,k3⟩:=(M.fr.pF _ hi).arr es he;rw[mP hg]at k1 k2;rw[Aq]at k1;rw[DL]at k2;simp only[iM,List.getD,hg,vQ]at k3
    first
     |exact k1
     |(rw[e1,DL];exact⟨k2,k3⟩)
   .rw[M.old hn hL]at he
    have hl:=BD he;have hk:=M.fr.keep (g.β n) (M.hr.block hl) (M.apart hL hl)
    first
     |exact he
     |(rw[M.old hn hL];exact⟨rfl,nP.of_eq hk.1⟩)
 mp n kv hn hk:=by
  refine⟨?_,by simp[jP,hn]⟩
  by_cases hL:n∈L
  .have hi:=xO hL
   have hg:=BR hL;have hb:back L h.length (L.idxOf n)=n:=by simp[back,hi,List.getD]
   have e1:=M.at (L.idxOf n);rw[hb,hk]at e1;cases ho:aV h1 (L.idxOf n)with
   |mp kv1 =>
    obtain⟨kv2,h2⟩:=(M.fr.pF _ hi).mp kv1 ho;rw[mP hg]at h2;cases hq:aV h n with
    |mp kv3=>exact⟨kv3,rfl⟩
    |_=>rw[hq]at h2;simp[O.dP]at h2
   |_=>rw[ho]at e1;simp[O.dP]at e1
  .rw[M.old hn hL]at hk
   exact⟨kv,hk⟩
 lp n hn hk:=by
  refine⟨?_,by simp[jP,hn]⟩
  by_cases hL:n∈L
  .have hi:=xO hL
   have hg:=BR hL;have hb:back L h.length (L.idxOf n)=n:=by simp[back,hi,List.getD]
   have e1:=M.at (L.idxOf n);rw[hb]at e1;rw[e1,Jn]at hk;have h2:=(M.fr.pF _ hi).lp hk
   rwa [mP hg,Jn]at h2
  .rwa [M.old hn hL]at hk
mutual
theorem j0.aK(M:j0 φ h L g w h1 g1 w1):∀{x:V}{v:Value},aK φ h1 g1 w1 x v->aK φ (mQ h L h1) (jP h L g g1) w1 (x.dP (back L h.length)) v
 | .u,v,_=>by simp[V.dP,VS.aK]
 | .kN,v,hr=>by simpa[V.dP,VS.aK]using hr
 | .d x,v,hr=>by simp only[V.dP,VS.aK]at hr⊢;exact hr
 | .loc n r c,v,hr=>by
  simp only[V.dP,VS.aK]at hr⊢;refine⟨M.Jq hr.1,hr.2.1,λes he=>?_⟩
  rw[M.at,Aq]at he;rw[(M.gb n).1,(M.gb n).2];exact hr.2.2 es he
 | .aR n off len,v,hr=>by
  simp only[V.dP,VS.aK]at hr⊢;refine⟨M.Jq hr.1,hr.2.1,λes he=>?_⟩
  rw[M.at,Aq]at he;rw[(M.gb n).1,(M.gb n).2,M.at,DL];exact hr.2.2 es he
 | .jl n off len,v,hr=>by
  simp only[V.dP,VS.aK]at hr⊢;refine⟨M.Jq hr.1,hr.2.1,λes he=>?_⟩
  rw[M.at,Aq]at he;rw[(M.gb n).1,(M.gb n).2,M.at,DL];exact hr.2.2 es he
 | .jc _,v,hr=>by simpa only[V.dP,VS.aK]using hr
 | .mp n,v,hr=>by
  simp only[V.dP,VS.aK]at hr⊢;refine⟨M.Jq hr.1,hr.2.1,λkv he=>?_⟩
  rw[M.at]at he;rw[(M.gb n).1];cases ho:aV h1 n with
  |mp Jo=>exact hr.2.2 Jo ho
  |_=>rw[ho]at he;simp[O.dP]at he
 | .rf cs,v,hr=>by
  simp only[V.dP,VS.aK]at hr⊢;obtain⟨b,off,us,h1,h2,h3,h4⟩:=hr;exact⟨b,off,us,h1,by rw[Jp];exact h2,M.bU h3,h4⟩
 | .ju n,v,hr=>by
  simp only[V.dP,VS.aK]at hr⊢;refine⟨M.Jq hr.1,hr.2.1,λhe=>?_⟩
  rw[M.at,Jn]at he;rw[(M.gb n).1];exact hr.2.2 he
 | .fn f a b,v,hr=>by
  simp only[V.dP,VS.aK]at hr⊢;obtain⟨A,B,h1,h2,h3⟩:=hr;exact⟨A,B,h1,M.bU h2,M.bU h3⟩
 | .ag cs,v,hr=>by
  simp only[V.dP,VS.aK]at hr⊢;obtain⟨A,h1,h2,h3⟩:=hr;exact⟨A,h1,M.bU h2,h3⟩
 | .tu cs,v,hr=>by
  simp only[V.dP,VS.aK]at hr⊢;obtain⟨A,h1,h2⟩:=hr;exact⟨A,h1,M.bU h2⟩
theorem j0.bU(M:j0 φ h L g w h1 g1 w1):∀{xs:List V}{vs:List Value},bU φ h1 g1 w1 xs vs->bU φ (mQ h L h1) (jP h L g g1) w1 (V.iQ (back L h.length) xs) vs
 | [],[],_=>by simp[V.iQ,VS.bU]
 |x::xs,v::vs,hr=>by
  simp only[V.iQ,VS.bU]at hr⊢;exact⟨M.aK hr.1,M.bU hr.2⟩
 | [],_::_,hr=>by simp[VS.bU]at hr
 |_::_,[],hr=>by simp[VS.bU]at hr
end
theorem j0.obj(M:j0 φ h L g w h1 g1 w1){b o:Nat}{x:O}(hr:gC φ h1 g1 w1 b o x):gC φ (mQ h L h1) (jP h L g g1) w1 b o (x.dP (back L h.length)):=by
 cases x with
 |dead=>trivial
 |aI es ex rows=>exact hr
 |gK es rows =>
  simp only[O.dP,gC]at hr⊢;refine⟨by simpa using hr.1,λr row hrow=>?_,hr.2.2⟩
  rw[vP,gI]at hrow;obtain⟨Oq,h0,rfl⟩:=hrow;obtain⟨k1,k2⟩:=hr.2.1 r Oq h0;refine⟨by rw[Jp];exact k1,λj c hj=>?_⟩
  rw[UO,gI]at hj;obtain⟨c0,hc0,rfl⟩:=hj;obtain⟨v,h3,h4,h5⟩:=k2 j c0 hc0;exact⟨v,h3,h4,M.aK h5⟩
 |mp kv =>
  simp only[O.dP,gC]at hr⊢;obtain⟨ES,kZ,k1,k2,k3⟩:=hr;refine⟨ES,kZ,k1,⟨by simpa using k2.1,λi p e hp he=>?_⟩,k3⟩
  rw[vP,gI]at hp;obtain⟨p0,nq,rfl⟩:=hp;obtain⟨h4,h5⟩:=k2.2 i p0 e nq he;exact⟨h4,M.aK h5⟩
 |lp ps a c e env =>
  simp only[O.dP,gC]at hr⊢;obtain⟨r,nt,k1,k0,k2,k3,k4,k5⟩:=hr;refine⟨r,nt,k1,k0,k2,k3,λp hp=>?_,k5⟩
  simp only[zk,gY]at hp;obtain⟨q,hq,rfl⟩:=hp;exact M.aK (k4 q hq)
theorem j0.fY(M:j0 φ h L g w h1 g1 w1):fj φ (mQ h L h1) (jP h L g g1) w1 where
 obj k:=by
  rcases M.split k with⟨hk,hL⟩ |⟨i,rfl⟩
  .rw[M.old hk hL]
   by_cases hl:(aV h k).live=true
   .have hkeep:=M.fr.keep (g.β k) (M.hr.block hl) (M.apart hL hl)
    have:=Dt M.hle hkeep.1 hkeep.2 (M.hr.obj k);simpa[jP,hk]using this
   .cases hx:aV h k<;>simp_all[O.live,gC]
  .rw[M.at,(M.gb i).1,(M.gb i).2]
   exact M.obj (M.jX.obj i)
 inj x y hx hy he:=by
  have ai4:∀{k i:Nat},k<h.length->k∉L->(aV h k).live=true->(aV h1 i).live=true->g.β k≠g1.β i:=by
   intro k i hk hL hl hi hb;rcases M.fr.mL i hi with⟨j,hj,Ow⟩ |hs
   .exact M.apart hL hl j hj (Ow.trans hb.symm)
   .have:=M.hr.block hl;omega
  rcases M.split x with⟨kx,Lx⟩ |⟨i,rfl⟩<;>rcases M.split y with⟨ky,Ly⟩ |⟨j,rfl⟩
  .rw[M.old kx Lx]at hx
   rw[M.old ky Ly]at hy;exact M.hr.inj x y hx hy (by simpa[jP,kx,ky]using he)
  .rw[M.old kx Lx]at hx
   rw[M.at,wY]at hy;rw[(M.gb j).1]at he;exact absurd (by simpa[jP,kx]using he) (ai4 kx Lx hx hy)
  .rw[M.old ky Ly]at hy
   rw[M.at,wY]at hx;rw[(M.gb i).1]at he;exact absurd (by simpa[jP,ky]using he.symm) (ai4 ky Ly hy hx)
  .rw[M.at,wY]at hx hy
   rw[(M.gb i).1,(M.gb j).1]at he;rw[M.jX.inj i j hx hy he]
 new:=M.jX.new
theorem j0.frame(M:j0 φ h L g w h1 g1 w1){m:Nat}(hm:m<=h.length):Frame m h g w (mQ h L h1) (jP h L g g1) w1 where
 ext:=M.fr.ext
 size:=M.fr.size
 os:=M.fr.os
 tape:=M.fr.tape
 output:=M.fr.output
 pE n hn:=by
  have:n<h.length:=by omega
  simp[jP,this]
 keep b hb hn:=M.fr.keep b hb λi hi hbi=>by
  by_cases hlt:i<L.length
  .have hg:L[i]?=some L[i]:=by simp[hlt]
   rw[mP hg,wY]at hi;simp only[iM,List.getD,hg,vQ]at hbi;exact hn _ hi hbi
  .rw[FY (by omega)]at hi;simp[O.live]at hi
 mL k hk:=by
  rcases M.split k with⟨kk,Lk⟩ |⟨i,rfl⟩
  .rw[M.old kk Lk]at hk
   exact .inl ⟨k,hk,by simp[jP,kk]⟩
  .rw[M.at,wY]at hk
   rw[(M.gb i).1];rcases M.fr.mL i hk with⟨j,hj,Ow⟩ |hs
   .by_cases hlt:j<L.length
    .have hg:L[j]?=some L[j]:=by simp[hlt]
     rw[mP hg,wY]at hj;simp only[iM,List.getD,hg,vQ]at Ow;exact .inl ⟨L[j],hj,Ow⟩
    .rw[FY (by omega)]at hj;simp[O.live]at hj
   .exact .inr hs
 pF n hn:=M.hle.at (by omega)
end
theorem ai5{rec:Rec}{h:List O}{f:Nat}{xs:List V}{v2:V}{h2:List O}(hc:aD rec h f xs=some (v2,h2)):∃L v h1,cut h 0 (V.gA xs)=some L /\
  rec (.call f (V.iQ (L.idxOf ·) xs) (sub h L))=some (.val v h1)/\L.length<=h1.length/\v2=v.dP (back L h.length)/\h2=mQ h L h1:=by
 unfold aD at hc;split at hc
 .rename_i L hL
  split at hc
  .rename_i v h1 hr
   split at hc
   .rename_i hl
    simp only[gz,uC]at hc;exact⟨L,v,h1,hL,hr,hl,hc.1.symm,hc.2.symm⟩
   .simp at hc
  .simp at hc
 .simp at hc
theorem ai6(h:List O):cut h 0 []=some []:=by simp[cut,reach]
theorem ai7:∀{xs:List V}{ds:List D},eY xs=some ds->V.gA xs=[]:=by
 intro xs ds hd;rw[FH hd];clear hd;induction ds with
 |nil=>rfl
 |cons d ds ih=>simp[V.gA,V.dy,ih]
theorem ai8{f:Nat->Nat}:∀{xs:List V}{ds:List D},eY xs=some ds->V.iQ f xs=xs:=by
 intro xs ds hd;rw[FH hd];clear hd;induction ds with
 |nil=>rfl
 |cons d ds ih=>simp[V.iQ,V.dP,ih]
theorem ai9(m:Nat):back [] m=(m+·):=by
 funext i;simp[back]
theorem UW{rec:Rec}(hq:mq P φ rec)(hs:cj φ nt m dB s g a w){d:Option Nat}(hd:qt nt o d=true){f:Nat}{xs:List V}{args:Array Value}{v2:V}{h2:List O}(nR:aD rec s.heap f xs=some (v2,h2))
  (hr:bU φ s.heap g w xs args.toList)
  (hrun:(execOp a.eval o).run P w=(callFunc (φ f) args).run P w)(hK:eU φ nt m dB s g w (s.lH d (some (v2,h2))) o a K):o.wp P a w K Q:=by
 obtain⟨L,v,h1,hL,gU,hlen,rfl,rfl⟩:=ai5 nR;obtain⟨hnd,yG,bR,_,_⟩:=DK hL;obtain⟨⟨fn,hf,hn,hb⟩,pJ⟩:=hq f _ _ v h1 gU;unfold Oper.wp;rw[hrun,Oi hf hn hb];simp only[Oper.upon];refine Calls.mono (pJ (iM g L) w args (F0 hL hs.heap) (yF yG hr)) λe w' h=>?_
 obtain⟨v',g1,rfl,sw,fY,hfr⟩:=h;rw[yE]at hfr;have M:j0 φ s.heap L g w h1 g1 w':=⟨hs.heap,hnd,λn hn=>(bR n hn).1,hlen,sw,hfr⟩
 obtain⟨e1,e2⟩:=DE hd;have hs':∀ok,cj φ nt m dB ⟨s.env,mQ s.heap L h1,ok⟩ (jP s.heap L g g1) a w':=λok =>
  ⟨λk=>lU M.hle (hs.env k),M.fY,hs.size,hs.defers.frame (M.frame hs.len),mE hs.len M.hle.len⟩
 refine hK (jP s.heap L g g1) v' w' ?_ ?_
 .rw[e1]
  cases d with
  |none=>exact hs' _
  |some d=>exact(hs' s.ok).wQ (e2 d rfl) (M.aK fY)
 .cases d with
  |none=>exact M.frame hs.len
  |some d=>exact M.frame hs.len
theorem aja{rec:Rec}{h:List O}{f:Nat}{xs:List V}{r:V×List O}(hc:aJ rec h f xs=some r):aD rec h f xs=some r:=by
 unfold aJ at hc;split at hc
 .rename_i ds hds
  unfold aD;rw[ai7 hds,ai6];simp only[ai8 hds];have hsub:sub h []=[]:=rfl;rw[hsub];split at hc
  .rename_i v h1 hr
   simp only[gz]at hc;simp only[hr,hc.symm];simp[ai9,aE]
  .simp at hc
 .simp at hc
theorem UX(r:Bool){rec:Rec}(hq:mq P φ rec)(hs:cj φ nt m dB s g a w){d:Option Nat}{f:Nat}{xs:List A}(hc:cO P φ nt o (if r then .jo d f xs else .nF d f xs)=true)(hok:(aU rec (if r then .jo d f xs else .nF d f xs) s).ok=true)
  (hK:eU φ nt m dB s g w (aU rec (if r then .jo d f xs else .nF d f xs) s) o a K):o.wp P a w K Q:=by
 have Ar:(qt nt o d&&(match o.op with
  | .call c=>(match c.callee with | .value (.func g)=>φ f==g&&oC φ c.args.toList xs |_=>false)
  |_=>false))=true:=by cases r<;>exact hc
 simp only[bD]at Ar;obtain⟨hd,h⟩:=Ar;split at h
 .rename_i c ho
  split at h
  .rename_i ff iz
   simp only[bD,dO]at h;obtain⟨rfl,hx⟩:=h;have hrun:(execOp a.eval o).run P w=(callFunc (φ f) (c.args.map a.eval)).run P w:=by simp[execOp,ho,resolve,iz,Act.eval,Deferred.ofValue,invoke]
   have hr:bU φ s.heap g w (xs.map s.get) (c.args.map a.eval).toList:=by simpa using wP hs hx
   cases r with
   |true =>
    simp only[dH,aU]at hok hK;obtain⟨⟨v2,h2⟩,hv⟩:=xV hok;rw[hv]at hK;exact UW hq hs hd hv hr hrun hK
   |false =>
    simp only[fG,dK,aU]at hok hK;obtain⟨⟨v2,h2⟩,hv⟩:=xV hok;rw[hv]at hK;exact UW hq hs hd (aja hv) hr hrun hK
  .simp at h
 .simp at h
theorem ajb{rec:Rec}(hq:mq P φ rec)(hs:cj φ nt m dB s g a w){d:Option Nat}{x:A}{xs:List A}(hc:cO P φ nt o (.pZ d x xs)=true)(hok:(aU rec (.pZ d x xs) s).ok=true)
  (hK:eU φ nt m dB s g w (aU rec (.pZ d x xs) s) o a K):o.wp P a w K Q:=by
 simp only[cO,bD]at hc;obtain⟨hd,h⟩:=hc;split at h
 .rename_i c ho
  split at h
  .rename_i y iz
   simp only[bD]at h;obtain⟨hx,hxs⟩:=h;simp only[aU]at hok hK;have rx:=fm hs hx;have yD:=wP hs hxs;obtain⟨⟨v2,h2⟩,hv⟩:=xV hok;rw[hv]at hK;have key:∀{f:Nat}{A B:Array Value}{zs:List V},a.eval y = .func (.func (φ f)) A B->aD rec s.heap f zs=some (v2,h2) ->
     bU φ s.heap g w zs (A.toList++c.args.toList.map a.eval++B.toList)->o.wp P a w K Q:=by
    intro f A B zs he hz hr;refine UW hq hs hd (f:=f) (xs:=zs) (args:=A++c.args.map a.eval++B) hz (by simpa using hr) ?_ hK
    simp[execOp,ho,resolve,iz,he,Deferred.ofValue,invoke]
   cases fU:s.get x with
   |d z =>
    cases z with
    |fn f first caps =>
     rw[fU]at rx hv;simp only[aK,bT]at rx;obtain⟨A,B,he,hA,hB⟩:=rx;exact key he hv (sn (sn (BN hA) yD) (BN hB))
    |_=>rw[fU]at hv;simp[l9]at hv
   |fn f first caps =>
    rw[fU]at rx hv;simp only[aK]at rx;obtain⟨A,B,he,hA,hB⟩:=rx;exact key he hv (sn (sn hA yD) hB)
   |_=>rw[fU]at hv;simp[l9]at hv
  .simp at h
 .simp at h
end
end Go.VS
namespace Go.VS
section
variable {P:Program}{φ:fD}
variable {nt m dB:Nat}{s:St}{g:Gh}{a:Act}{w:World}{K:Act->World->Prop}{Q:Exit->Act->World->Prop}{o:Oper}
end
end Go.VS
namespace Go.VS
section
variable {P:Program}{φ:fD}
variable {nt m dB:Nat}{s:St}{g:Gh}{a:Act}{w:World}{K:Act->World->Prop}{Q:Exit->Act->World->Prop}{o:Oper}
theorem ajc{d:Nat}{v:V}{h1:List O}{x:D}{h2:List O}(hd:gr nt o d=true)(ht:bt h1 v=some (x,h2))(hK:eU φ nt m dB s g w ⟨(d,.d x)::s.env,h2,s.ok⟩ o a K):
  eU φ nt m dB s g w ⟨(d,v)::s.env,h1,s.ok⟩ o a K:=by
 intro g' v' w' hs' hf';obtain⟨e1,e2⟩:=BG hd;simp only[bt,gI,uC]at ht;obtain⟨y,hy,rfl,rfl⟩:=ht;have hL:V.gA [v]=v.dy:=by simp[V.gA]
 have fY:=hs'.env d;simp only[cC,dH]at fY;obtain⟨I',k1,k2,k3⟩:=Ov hs' (xs:=[v]) (vs:=[(a.put o.dst v').tmps.getD d undef]) (ds:=[y]) (by simp[gZ,hy]) (by simp only[bU];exact⟨fY,trivial⟩) s.ok
 rw[hL]at k1 k2;refine hK (g'.ez I') v' w' ⟨λk=>?_,k1.heap,k1.size,k1.defers,k1.len⟩ (hf'.trans k2)
 have h0:=k1.env k;simp only[cC]at h0⊢;by_cases hk:d=k
 .subst hk
  rw[aN rfl];simp only[cx]at k3;simpa only[aK,Gh.ez]using k3.1
 .rw[aG hk]at h0⊢
  exact h0
theorem ajd{ov:Option (V×List O)}{r:V×List O}(h:zm ov=some r):∃v h1 x h2,ov=some (v,h1)/\bt h1 v=some (x,h2)/\r=(.d x,h2):=by
 cases ov with
 |none=>simp[zm]at h
 |some p =>
  obtain⟨v,h1⟩:=p;simp only[zm,uB,gI]at h;obtain⟨q,hq,rfl⟩:=h;exact⟨v,h1,q.1,q.2,rfl,hq,rfl⟩
theorem aje(hs:cj φ nt m dB s g a w){rec:Rec}{d es:Nat}{x y:A}(hc:cO P φ nt o (.sJ d x y es)=true)(hok:(aU rec (.sJ d x y es) s).ok=true)
  (hK:eU φ nt m dB s g w (aU rec (.sJ d x y es) s) o a K):o.wp P a w K Q:=by
 simp only[aU]at hok hK;have hd:gr nt o d=true:=by simp only[cO,bD]at hc;exact hc.1
 obtain⟨v,hh,hv⟩:=BJ hok;rw[hv]at hK hok;obtain⟨v1,h1,z,h2,k1,k2,k3⟩:=ajd hv;simp only[uC]at k3;obtain⟨rfl,rfl⟩:=k3;have Ar:cO P φ nt o (.app d x y es)=true:=hc;refine aiH (rec:=rec) hs Ar ?_ ?_
 .simp only[aU,k1,St.gi];exact hok
 .simp only[aU,k1]
  exact ajc hd k2 hK
theorem ajf{rec:Rec}(hq:mq P φ rec)(hs:cj φ nt m dB s g a w){d:Nat}{f:Nat}{xs:List A}(hc:cO P φ nt o (.nH d f xs)=true)(hok:(aU rec (.nH d f xs) s).ok=true)
  (hK:eU φ nt m dB s g w (aU rec (.nH d f xs) s) o a K):o.wp P a w K Q:=by
 simp only[aU]at hok hK;simp only[cO,bD]at hc;obtain⟨hd,h⟩:=hc;obtain⟨e1,e2⟩:=BG hd;have Ar:cO P φ nt o (if true then .jo (some d) f xs else .nF (some d) f xs)=true:=by
  simp only[dH,cO,bD];exact⟨by simp only[qt,bD,dO,e1,Option.all_some,gf];exact⟨trivial,e2⟩,h⟩
 obtain⟨v,hh,hv⟩:=BJ hok;rw[hv]at hK hok;obtain⟨v1,h1,z,h2,k1,k2,k3⟩:=ajd hv;simp only[uC]at k3;obtain⟨rfl,rfl⟩:=k3;refine UX (rec:=rec) true hq hs Ar ?_ ?_
 .simp only[dH,aU,k1,St.lH];exact hok
 .simp only[dH,aU,k1]
  exact ajc hd k2 hK
theorem ajg{I I':Nat->Nat}{w':World}{x:D}{v:Value}(hp:x.plain=true)(hr:bT φ I w x v):bT φ I' w' x v:=by
 cases x<;>simp[D.plain]at hp<;>simpa only[bT]using hr
theorem ajh{I I':Nat->Nat}{w':World}:∀{cs:List D}{vs:List Value},cs.all D.plain=true->cx φ I w cs vs->cx φ I' w' cs vs
 | [],[],_,_=>by simp[cx]
 |c::cs,v::vs,hp,hr=>by
  simp only[xK,bD]at hp;simp only[cx]at hr⊢;exact⟨ajg hp.1 hr.1,ajh hp.2 hr.2⟩
 | [],_::_,_,hr=>by simp[cx]at hr
 |_::_,[],_,hr=>by simp[cx]at hr
theorem aji{I I':Nat->Nat}{w':World}{y:D}{v:Value}(hp:y.CE=true)(hr:bT φ I w y v):bT φ I' w' y v:=by
 cases y with
 |ag cs =>
  simp only[D.CE]at hp;simp only[bT]at hr⊢;obtain⟨A,h1,h2,h3⟩:=hr;exact⟨A,h1,ajh hp h2,h3⟩
 |b x=>simpa only[bT]using hr
 |i k x=>simpa only[bT]using hr
 |s x=>simpa only[bT]using hr
 |_=>simp[D.CE,D.plain]at hp
theorem ajj{h:List O}{g':Gh}{w':World}{x:V}{v:Value}(hp:x.plain=true)(hr:aK φ [] g w x v):aK φ h g' w' x v:=by
 cases x with
 |d y =>
  simp only[V.plain]at hp;simp only[aK]at hr⊢;exact aji hp hr
 |tu vs =>
  simp only[V.plain]at hp;simp only[aK]at hr⊢;obtain⟨A,h1,h2⟩:=hr;refine⟨A,h1,?_⟩;have key:∀{vs:List V}{us:List Value},vs.all (λv=>match v with | .d x=>x.CE |_=>false)=true->bU φ [] g w vs us->bU φ h g' w' vs us:=by
   intro vs;induction vs with
   |nil=>intro us _ hr;cases us<;>simp_all[bU]
   |cons v vs ih =>
    intro us hp hr;cases us with
    |nil=>simp[bU]at hr
    |cons u us =>
     simp only[xK,bD]at hp;simp only[bU]at hr⊢;refine⟨?_,ih hp.2 hr.2⟩;cases v with
     |d x=>simp only[aK]at hr⊢;exact aji hp.1 hr.1
     |_=>simp at hp
  exact key hp h2
 |_=>simp[V.plain]at hp
theorem ajk{rec:Rec}{h:List O}{f:Nat}{xs:List V}{v:V}(hc:vU rec h f xs=some v):∃ds,gZ h xs=some ds/\rec (.call f (ds.map V.d) [])=some (.val v [])/\v.plain=true:=by
 unfold vU at hc;split at hc
 .rename_i ds hds
  split at hc
  .rename_i v' hr
   split at hc
   .rename_i hp
    simp at hc;subst hc;exact⟨ds,hds,hr,hp⟩
   .simp at hc
  .simp at hc
 .simp at hc
theorem ajl{rec:Rec}(hq:mq P φ rec)(hs:cj φ nt m dB s g a w){d:Option Nat}{f:Nat}{xs:List A}(hc:cO P φ nt o (.calls d f xs)=true)(hok:(aU rec (.calls d f xs) s).ok=true)
  (hK:eU φ nt m dB s g w (aU rec (.calls d f xs) s) o a K):o.wp P a w K Q:=by
 simp only[cO,bD]at hc;obtain⟨hd,h⟩:=hc;split at h
 .rename_i c ho
  split at h
  .rename_i ff iz
   simp only[bD,dO]at h;obtain⟨rfl,hx⟩:=h;simp only[aU]at hok hK;obtain⟨v,hv⟩:=CG hok;rw[hv]at hK;obtain⟨ds,hds,gU,hp⟩:=ajk hv;obtain⟨⟨fn,hf,hn,hb⟩,pJ⟩:=hq f _ [] v [] gU;have hr:bU φ s.heap g w (xs.map s.get) (c.args.map a.eval).toList:=by simpa using wP hs hx
   obtain⟨I',k1,_,k3⟩:=Ov hs hds hr s.ok;have hrun:(execOp a.eval o).run P w = .ok (.enter (φ f) (c.args.map a.eval)) w:=by
    rw[<-Oi (P:=P) (w:=w) (args:=c.args.map a.eval) hf hn hb];simp[execOp,ho,resolve,iz,Act.eval,Deferred.ofValue,invoke]
   unfold Oper.wp;rw[hrun];simp only[Oper.upon];refine Calls.mono (pJ ⟨λ_=>0,λ_=>0,I'⟩ w (c.args.map a.eval) (Og k1.heap.new) (Ai (g:=⟨λ_=>0,λ_=>0,I'⟩) k3)) λe w' hh=>?_
   obtain⟨v',g1,rfl,sw,fY,hfr⟩:=hh;obtain⟨hg,_⟩:=Oh hfr;have Jr:∀b,b<w.heap.size->(λb=>if b<w.heap.size then g.I b else g1.I b) b=g.I b:=λb hb=>by simp[hb]
   have hnew2:∀b,w'.heap.size<=b->(λb=>if b<w.heap.size then g.I b else g1.I b) b=0:=λb hb=>by
    have:=hg.size;have hnb:¬b<w.heap.size:=by omega
    simp only[hnb,dK];exact sw.new b hb
   obtain⟨h1,h2⟩:=DE hd;have hs':=hs.N8 hg Jr hnew2;refine hK (g.ez λb=>if b<w.heap.size then g.I b else g1.I b) v' w' ?_ ?_
   .rw[h1]
    cases d with
    |none=>exact hs'
    |some d=>exact hs'.wQ (h2 d rfl) (ajj hp fY)
   .cases d with
    |none=>exact Dv m hs.heap hg Jr
    |some d=>exact Dv m hs.heap hg Jr
  .simp at h
 .simp at h
end
end Go.VS
namespace Go.VS
section
variable {P:Program}{φ:fD}
variable {nt m dB:Nat}{s:St}{g:Gh}{a:Act}{w:World}{K:Act->World->Prop}{Q:Exit->Act->World->Prop}{o:Oper}
theorem ajm(hs:cj φ nt m dB s g a w){rec:Rec}{d:Nat}{x:A}(hc:cO P φ nt o (.tD d x)=true)(hok:(aU rec (.tD d x) s).ok=true)
  (hK:eU φ nt m dB s g w (aU rec (.tD d x) s) o a K):o.wp P a w K Q:=by
 simp only[cO,bD]at hc;obtain⟨hd,h⟩:=hc;split at h
 .rename_i y ho
  have rx:=fm hs h;simp only[aU]at hok hK;split at hK
  .rename_i cs hv
   rw[hv]at rx;have rx':=rx;simp only[aK,bT]at rx';obtain⟨b,off,he,_⟩:=rx';exact vo hs hd (v':=a.eval y) (by simp[execOp,ho,he]) rx hK
  .rename_i cs hv
   rw[hv]at rx;have rx':=rx;simp only[aK]at rx';obtain⟨b,off,us,he,_⟩:=rx';exact vo hs hd (v':=a.eval y) (by simp[execOp,ho,he]) rx hK
  .rename_i n r c hv
   rw[hv]at rx;have rx':=rx;simp only[aK]at rx';obtain⟨h1,h2,h3⟩:=rx';cases jE:a.eval y with
   |pointer ad =>
    cases ad with
    |some ad=>rw[jE]at rx;exact vo hs hd (v':=.pointer (some ad)) (by simp[execOp,ho,jE]) rx hK
    |none=>rw[jE]at h2;simp[I7]at h2
   |_=>rw[jE]at h2;simp[I7]at h2
  .rename_i t v hv
   rw[hv]at rx;have rx':=rx;simp only[aK,bT]at rx';obtain⟨y',he,_⟩:=rx';exact vo hs hd (v':=a.eval y) (by simp[execOp,ho,he]) rx hK
  .rename_i h1 h2 h3
   exfalso;revert hok;split<;>simp_all[St.fail]
 .simp at h
theorem ajn{t:TypeId}{n off:Nat}{ag:Bool}(lW:wM P t ag=true)(hn:jD P t n=true){A:Array Value}{v':Value}
  (hv:if ag then n<=(A.toList.drop off).length/\v' = .agg ((A.toList.drop off).take n).toArray else(A.toList.drop off).head?=some v'):(part t A off).run P w = .ok v' w:=by
 have h1:=Oa (P:=P) (w:=w) lW;have h2:=wS (P:=P) (w:=w) hn;cases ag
 .simp only[fG,dK,List.head?_drop]at hv
  have:A[off]?=some v':=by simpa using hv
  simp[part,h1,this]
 .simp only[dH]at hv
  have he:A.extract off (off+n)=((A.toList.drop off).take n).toArray:=by
   rw[<-Array.toList_inj];simp only[Array.toList_extract,List.extract_eq_take_drop];congr 1;omega
  simp[part,h1,h2,he,hv.2]
theorem ajo(hs:cj φ nt m dB s g a w){rec:Rec}{d off n:Nat}{ag:Bool}{x:A}(hc:cO P φ nt o (.sG d x off n ag)=true)(hok:(aU rec (.sG d x off n ag) s).ok=true)
  (hK:eU φ nt m dB s g w (aU rec (.sG d x off n ag) s) o a K):o.wp P a w K Q:=by
 simp only[cO,bD]at hc;obtain⟨hd,h⟩:=hc;split at h
 .rename_i t y k ho
  simp only[bD]at h;obtain⟨hx,h⟩:=h;split at h
  .rename_i fs hfs
   split at h
   .rename_i f hf
    simp only[bD,dO]at h;obtain⟨⟨rfl,hn⟩,lW⟩:=h;have rx:=fm hs hx;simp only[aU]at hok hK;refine nk hs hd hok (λv hv=>?_) hK
    have fin:∀{A:Array Value}{cs:List V},a.eval y = .agg A->bU φ s.heap g w cs A.toList->(∀u∈A.toList,u.oneCell'=true)->pack n ag (cs.drop f.offset)=some v ->
      ∃v',(execOp a.eval o).run P w = .ok (.value v') w/\aK φ s.heap g w v v':=by
     intro A cs he hr h1 hp;obtain⟨v',h2,h3⟩:=Jc (I9 hr f.offset) (λu hu=>h1 u (mV hu)) hp
     have:=ajn (P:=P) (w:=w) (off:=f.offset) (A:=A) lW hn h2;exact⟨v',by simp[execOp,ho,Instr.field,run_underlying hfs,hf,he,asAgg,this],h3⟩
    unfold K4 at hv;split at hv
    .rename_i cs fU
     rw[fU]at rx;simp only[aK,bT]at rx;obtain⟨A,he,hr,h1⟩:=rx;exact fin he (Ai hr) h1 hv
    .rename_i cs fU
     rw[fU]at rx;simp only[aK]at rx;obtain⟨A,he,hr,h1⟩:=rx;exact fin he hr h1 hv
    .simp at hv
   .simp at h
  .simp at h
 .simp at h
theorem ajp{cap len l h mx:Nat}{k1 k2 k3:IntKind}(h1:l<=h)(h2:h<=mx)(h3:mx<=cap):
  (Instr.sliceBounds true len cap (some (.int k1 l)) (some (.int k2 h)) (some (.int k3 mx))).run P w = .ok (l,h,mx) w:=by
 have a1:¬((mx:Int)<0):=by omega
 have a2:¬((cap:Int)<mx):=by omega
 have a3:¬((h:Int)<0):=by omega
 have a4:¬((mx:Int)<h):=by omega
 have a5:¬((l:Int)<0):=by omega
 have a6:¬((h:Int)<l):=by omega
 simp[Instr.sliceBounds,Instr.sliceBound,asIntOf,h1,h2,h3]
theorem ajq(hs:cj φ nt m dB s g a w){rec:Rec}{d es:Nat}{x lo hi mx:A}(hc:cO P φ nt o (.rN d x lo hi mx es)=true)(hok:(aU rec (.rN d x lo hi mx es) s).ok=true)
  (hK:eU φ nt m dB s g w (aU rec (.rN d x lo hi mx es) s) o a K):o.wp P a w K Q:=by
 simp only[cO,bD]at hc;obtain⟨hd,h⟩:=hc;split at h
 .rename_i t y lo' hi' Z7 ho
  simp only[bD]at h;obtain⟨⟨⟨⟨hx,hlo⟩,hhi⟩,yH⟩,ht⟩:=h;split at ht
  .rename_i e hu
   have rx:=fm hs hx;simp only[aU]at hok hK;refine nk hs hd hok (λv hv=>?_) hK
   have num:∀{z:A}{z':Operand}{n:Int},dW φ z' z=true->asInt (s.get z)=some n->∃k,a.eval z' = .int k n:=by
    intro z z' n hz hn;have hr:=fm hs hz;cases hv:s.get z with
    |d q =>
     rw[hv]at hn hr;cases q with
     |i k q=>simp[asInt]at hn;subst hn;exact⟨k,nQ (by simpa only[aK]using hr)⟩
     |_=>simp[asInt]at hn
    |_=>rw[hv]at hn;simp[asInt]at hn
   unfold K3 at hv;split at hv
   .rename_i l hh q hl Jj hq
    obtain⟨k1,e1⟩:=num hlo hl;obtain⟨k2,e2⟩:=num hhi Jj;obtain⟨k3,e3⟩:=num yH hq;have fin:∀{ad:Option Addr}{len cap:Nat},a.eval y = .slice ad len cap->0<=l->l<=hh->hh<=q->q<=cap->v = .u ->
      ∃v',(execOp a.eval o).run P w = .ok (.value v') w/\aK φ s.heap g w v v':=by
     intro ad len cap he h0 h1 h2 h3 hvu;subst hvu;have hb:=ajp (P:=P) (w:=w) (cap:=cap) (len:=len) (l:=l.toNat) (h:=hh.toNat) (mx:=q.toNat) (k1:=k1) (k2:=k2) (k3:=k3) (by omega) (by omega) (by omega)
     have i1:(l.toNat:Int)=l:=by omega
     have i2:(hh.toNat:Int)=hh:=by omega
     have i3:(q.toNat:Int)=q:=by omega
     rw[i1,i2,i3]at hb;have hsz:=wS (P:=P) (w:=w) ht;refine⟨_,by simp[execOp,ho,he,e1,e2,e3,Instr.sliceAt,Instr.slice,run_underlying hu,hb,hsz];rfl,by simp[aK]⟩
    split at hv
    .rename_i e' nl xs hp
     rw[hp]at rx;simp only[aK,bT]at rx;obtain⟨ad,cap,he,hlc,_⟩:=rx;split at hv
     .rename_i eo
      simp only[gz]at hv;exact fin he eo.2.1 eo.2.2.1 eo.2.2.2.1 (by omega) hv.symm
     .simp at hv
    .rename_i n off len hp
     rw[hp]at rx;simp only[aK]at rx;split at hv
     .rename_i eo
      simp only[gz]at hv;obtain⟨es',he'⟩:=FL eo.1;obtain⟨cap,he,hlc,_⟩:=rx.2.2 es' he';exact fin he eo.2.1 eo.2.2.1 eo.2.2.2.1 (by omega) hv.symm
     .simp at hv
    .rename_i e' hp
     rw[hp]at rx;simp only[aK]at rx;obtain⟨ad,he⟩:=rx;split at hv
     .rename_i eo
      simp only[gz]at hv;obtain⟨_,rfl,rfl,rfl⟩:=eo;exact fin he (by omega) (by omega) (by omega) (by simp) hv.symm
     .simp at hv
    .simp at hv
   .simp at hv
  .simp at ht
 .simp at h
theorem ajr(hs:cj φ nt m dB s g a w){n p es:Nat}{rows ys:List (List D)}{news:List Value}{CS:Array Value}{T:TypeId}{ok:Bool}(hn:aV s.heap n = .aI es true rows)
  (hb:w.heap[g.β n]?=some (.cells CS T (0,0)))(pK:g.o n+es*rows.length<=CS.size)
  (dZ:jM φ g.I w (g.β n) es (g.o n) rows)(hI:g.I (g.β n)<=g.o n)(hrd:cx φ g.I w ys.flatten news)(hone:∀u∈news,u.oneCell'=true)(hrl:∀r∈ys,r.length=es)(nS:news.length=ys.length*es)
  (hin:p+ys.length<=rows.length):
  (storeCells ⟨g.β n,g.o n+p*es,none⟩ news).run P w = .ok () (w.setRow (g.β n) (av CS.toList (g.o n+p*es) news).toArray) /\
  cj φ nt m dB ⟨s.env,s.heap.set n (.aI es true (av rows p ys)),ok⟩ g a (w.setRow (g.β n) (av CS.toList (g.o n+p*es) news).toArray) /\
  Frame m s.heap g w (s.heap.set n (.aI es true (av rows p ys))) g (w.setRow (g.β n) (av CS.toList (g.o n+p*es) news).toArray):=by
 have hl:(aV s.heap n).live=true:=by rw[hn];rfl
 have hmul:(p+ys.length)*es<=rows.length*es:=l7 es hin;rw[nD]at hmul;have hc1:es*rows.length=rows.length*es:=jt _ _;have pL:g.o n+p*es+news.length<=CS.size:=by omega
 have hst:=run_storeCells_at P (g.β n) (g.o n+p*es) T news 0 CS w hb (by simpa using pL) hone
 simp only[Hj]at hst;obtain⟨ht,hw'⟩:=Od (cs:=(av CS.toList (g.o n+p*es) news).toArray) hb;have hE:Ext g.I w g.I (w.setRow (g.β n) (av CS.toList (g.o n+p*es) news).toArray):=Jh ht hb pL hw' (by omega) (λ_=>gh _)
 have hsize:(av CS.toList (g.o n+p*es) news).toArray.size=CS.size:=by
  have:=BL (cs:=CS.toList) (new:=news) (o:=g.o n+p*es) (by simpa using pL)
  simpa using this
 have DH:(av rows p ys).length=rows.length:=BL hin;have hle:=wJ (x:=.aI es true (av rows p ys)) hs.heap hl ht hE
  (λes' he'=>⟨by rw[hn];simpa[O.gN]using he',by rw[hn];simp only[O.len,DH],λsk T' hc=>by
   rw[hb]at hc;simp at hc;obtain⟨rfl,rfl⟩:=hc;exact⟨_,_,hw',by rw[hsize];exact gh _,λh=>h.BM hone⟩⟩) (λkv hk=>by simp at hk)
 have hH:=wK (x:=.aI es true (av rows p ys)) hs.heap hl ht hle (λ_ _=>rfl)
  ⟨⟨_,T,hw',by rw[hsize,DH];exact pK⟩,aiC dZ hE hrd hone hrl hin hb pK hw',by simpa[Gh.ez]using hI⟩
 exact⟨hst,hs.yA hl ht hle hH,wL _ hl ht hE (λ_ _=>rfl) hle⟩
theorem ajs{d:Option Nat}(hd:qt nt o d=true){v:V}{v':Value}{hh:List O}{w':World}(hrun:(execOp a.eval o).run P w = .ok (.value v') w')(hS:cj φ nt m dB ⟨s.env,hh,s.ok⟩ g a w')(hF:Frame m s.heap g w hh g w')
  (hv:aK φ hh g w' v v')(hK:eU φ nt m dB s g w (s.lH d (some (v,hh))) o a K):o.wp P a w K Q:=by
 obtain⟨h1,h2⟩:=DE hd;refine FK hrun (hK g v' w' ?_ ?_)
 .rw[h1]
  cases d with
  |none=>exact hS
  |some d=>exact hS.wQ (h2 d rfl) hv
 .cases d<;>exact hF
theorem ajt{I:Nat->Nat}{z:List D}{C:List Value}(hr:cx φ I w z C):∀n:Nat,cx φ I w (List.replicate n z).flatten (List.replicate n C).flatten
 | 0=>by simp[cx]
 |n+1=>by
  simp only[Qk,zh];exact Ah hr (ajt hr n)
theorem Ox{I:Nat->Nat}{z:List D}{C:Array Value}(hr:cx φ I w z C.toList)(h1:∀v∈C.toList,v.oneCell'=true)(hp:0<z.length)(n:Nat):
  cx φ I w (List.replicate n z).flatten (Builtin.zeroCells C n).toList/\(∀v∈(Builtin.zeroCells C n).toList,v.oneCell'=true)/\(Builtin.zeroCells C n).toList.length=n*z.length:=by
 have hl:=sW hr;have he:(Builtin.zeroCells C n).toList=(List.replicate n C.toList).flatten:=by
  have hcs:C.size=z.length:=by simpa using hl.symm
  unfold Builtin.zeroCells;rw[show n*C.size=n*z.length by rw[hcs]]
  exact Jg n z.length C hcs hp
 rw[he];refine⟨ajt hr n,λv hv=>?_,by simp[hl]⟩
 simp only[List.mem_flatten,Ho]at hv;obtain⟨l,⟨_,rfl⟩,hv⟩:=hv;exact h1 v hv
theorem aju{es k n:Nat}{xa:Option Addr}{xc:Nat}{news:List Value}(hl:news.length=n*es)(hk:k<=n)(hc:news≠[]->∃b off,xa=some ⟨b,off,none⟩/\∀(j:Nat)(u:Value),news[j]?=some u->w.cell? ⟨b,off+j,none⟩=some u)
  : (Builtin.firstCells es k (.slice xa n xc)).run P w = .ok (news.take (k*es)).toArray w:=by
 have rB:(news.take (k*es)).length=k*es:=by
  have:=l7 es hk;simp;omega
 by_cases hne:news.take (k*es)=[]
 .rw[hne]at rB⊢
  have h0:k*es=0:=by simpa using rB.symm
  cases xa with
  |none=>simp[Builtin.firstCells]
  |some ad=>exact run_firstCells_some w es k ad n xc [] (by simp[h0]) (by simp)
 .have Oy:news≠[]:=λh=>hne (by simp[h])
  obtain⟨b,off,rfl,h⟩:=hc Oy;refine run_firstCells_some w es k _ n xc _ rB λj v hj=>?_
  rw[rj];rw[zf]at hj;split at hj
  .exact h j v hj
  .simp at hj
theorem ajv{α:Type}{es:Nat}:∀{rows:List (List α)}(_:∀r∈rows,r.length=es)(n:Nat),(rows.take n).flatten=rows.flatten.take (n*es)
 | [],_,n=>by simp
 |r::rs,h,0=>by simp
 |r::rs,h,n+1=>by
  have hr:r.length=es:=h r (by simp)
  have ih:=ajv (rows:=rs) (λx hx=>h x (by simp[hx])) n
  have e1:(n+1)*es - es=n*es:=by rw[rM];omega
  have e2:r.take ((n+1)*es)=r:=gD (by rw[rM];omega)
  simp only[Qo,zh,ih,Hl,hr,e1,e2]
theorem ajw(hs:cj φ nt m dB s g a w){rec:Rec}{d:Option Nat}{es:Nat}{x:A}{z:List D}(hc:cO P φ nt o (.qI d x es z)=true)(hok:(aU rec (.qI d x es z) s).ok=true)
  (hK:eU φ nt m dB s g w (aU rec (.qI d x es z) s) o a K):o.wp P a w K Q:=by
 simp only[cO,bD]at hc;obtain⟨hd,h⟩:=hc;split at h
 .rename_i c ho
  split at h
  .rename_i y t iz hargs qu
   simp only[bD]at h;obtain⟨hx,h⟩:=h;split at h
   .rename_i e hu
    simp only[bD,dO,gf]at h;obtain⟨⟨hz,rfl⟩,hpos⟩:=h;obtain⟨i,v,hi,UY,su,sX,hzs⟩:=DA (g:=g) (w:=w) hz;obtain⟨FM,args,tys⟩:=c;simp only at iz hargs qu;have so:args=#[y]:=by rw[<-Array.toList_inj];exact hargs
    have wU:tys=#[t]:=by rw[<-Array.toList_inj];exact qu
    subst iz;subst so;subst wU;have rx:=fm hs hx;simp only[aU]at hok hK;obtain⟨r,hr⟩:=xV hok;rw[hr]at hK;simp only[gI]at hr;obtain⟨hh,hr,rfl⟩:=hr;have fin:∀{w':World},(Builtin.clear_ #[t] o.type #[a.eval y]).run P w = .ok (.tuple #[]) w'->cj φ nt m dB ⟨s.env,hh,s.ok⟩ g a w'->Frame m s.heap g w hh g w'->o.wp P a w K Q:=by
     intro w' h1 h2 h3;exact ajs hd (v':=.tuple #[]) (by simp[execOp,ho,resolve,invoke,builtin,h1]) h2 h3 (by simp only[aK];exact⟨#[],rfl,by simp[bU]⟩) hK
    unfold K6 at hr;split at hr
    .rename_i e' nl fU
     simp only[gz]at hr;subst hr;rw[fU]at rx;simp only[aK,bT]at rx;obtain⟨ad,cap,he,_⟩:=rx;refine fin (w':=w) ?_ hs (Frame.refl _ _ _ _);cases ad<;>simp[Builtin.clear_,run_underlying hu,he]
    .rename_i n off len fU
     rw[fU]at rx;simp only[aK]at rx;have dF:=hs.heap.obj n;split at hr
     .rename_i e' ex rows hn
      rw[hn]at rx dF;split at hr
      .rename_i eo
       obtain⟨rfl,_,hin⟩:=eo;obtain⟨cap,he,hlc,_⟩:=rx.2.2 _ rfl;split at hr
       .rename_i h0
        simp only[gz]at hr;subst hr;subst h0;refine fin (w':=w) ?_ hs (Frame.refl _ _ _ _);simp[Builtin.clear_,run_underlying hu,he]
       .rename_i h0
        split at hr
        .rename_i hex
         subst hex;simp only[gz]at hr;subst hr;obtain⟨⟨CS,T,hb,hfit⟩,dZ,hI⟩:=dF;simp only[dH]at hI;obtain⟨z1,z2,z3⟩:=Ox su sX hpos len;obtain⟨k1,k2,k3⟩:=ajr (P:=P) hs (ok:=s.ok) (p:=off) (ys:=List.replicate len z) hn hb hfit dZ hI z1 z2 (λr hr=>by rw[Ho]at hr;rw[hr.2]) (by simpa using z3) (by simpa using hin)
         refine fin ?_ k2 k3;obtain⟨len,rfl⟩:∃k,len=k+1:=⟨len - 1,by omega⟩
         simp[Builtin.clear_,run_underlying hu,he,zeroValue,typeInfo,hi,UY,k1]
        .simp at hr
      .simp at hr
     .simp at hr
    .simp at hr
   .simp at h
  .simp at h
 .simp at h
theorem ajx(hs:cj φ nt m dB s g a w){rec:Rec}{d:Option Nat}{es:Nat}{x y:A}(hc:cO P φ nt o (.copy d x y es)=true)(hok:(aU rec (.copy d x y es) s).ok=true)
  (hK:eU φ nt m dB s g w (aU rec (.copy d x y es) s) o a K):o.wp P a w K Q:=by
 simp only[cO,bD]at hc;obtain⟨hd,h⟩:=hc;split at h
 .rename_i c ho
  split at h
  .rename_i x' y' t t' iz hargs qu
   simp only[bD,gf]at h;obtain⟨⟨⟨hx,hy⟩,hpos⟩,h⟩:=h;split at h
   .rename_i e e' hu oD
    obtain⟨FM,args,tys⟩:=c;simp only at iz hargs qu;have so:args=#[x',y']:=by rw[<-Array.toList_inj];exact hargs
    have wU:tys=#[t,t']:=by rw[<-Array.toList_inj];exact qu
    subst iz;subst so;subst wU;have rx:=I8 (fm hs hx);have ry:=fm hs hy;have hsz:=wS (P:=P) (w:=w) h;simp only[aU]at hok hK;obtain⟨r,hr⟩:=xV hok;rw[hr]at hK;have fin:∀{k:Nat}{w':World}{hh:List O},r=(.d (.i .i64 (k:Int)),hh)->(Builtin.copy_ #[t,t'] o.type #[a.eval x',a.eval y']).run P w = .ok (goInt k) w'->cj φ nt m dB ⟨s.env,hh,s.ok⟩ g a w'->Frame m s.heap g w hh g w'->o.wp P a w K Q:=by
     intro k w' hh dZ h1 h2 h3;subst dZ;exact ajs hd (v':=goInt k) (by simp[execOp,ho,resolve,invoke,builtin,h1]) h2 h3 (by simp[aK,bT,goInt]) hK
    unfold copyV at hr;cases sv:AX s.heap es (s.get y)with
    |none=>simp[sv]at hr
    |some ys =>
     simp only[sv]at hr;obtain⟨xa,xc,news,sx,hrl,hrd,hone,gj,hbase⟩:=aiu hs.heap ry sv;have nS:news.length=ys.length*es:=by rw[gj,jt]
     split at hr
     .rename_i n off len fU
      rw[fU]at rx;simp only[aK]at rx;have dF:=hs.heap.obj n;split at hr
      .rename_i e2 rows hn
       rw[hn]at rx dF;split at hr
       .rename_i eo
        obtain⟨rfl,hin⟩:=eo;simp only[gz]at hr;obtain⟨cap,he,hlc,_⟩:=rx.2.2 _ rfl;obtain⟨⟨CS,T,hb,hfit⟩,dZ,hI⟩:=dF;simp only[dH]at hI;have hk:(ys.take len).length=min ys.length len:=by simp[Nat.min_comm]
        have hmul:min ys.length len*e2<=ys.length*e2:=l7 _ (Nat.min_le_left _ _);have hfl:(ys.take len).flatten=ys.flatten.take (min ys.length len*e2):=by
         rw[ajv hrl];rcases Nat.le_total len ys.length with hle |hle
         .rw[Nat.min_eq_right hle]
         .rw[KH hle,gD (by rw[yB hrl,jt e2];exact l7 _ hle),gD (by rw[yB hrl,jt e2];exact gh _)]
        have hnt:(news.take (min ys.length len*e2)).length=min ys.length len*e2:=by simp;omega
        obtain⟨k1,k2,k3⟩:=ajr (P:=P) hs (ok:=s.ok) (p:=off) (ys:=ys.take len) (news:=news.take (min ys.length len*e2)) hn hb hfit dZ hI
         (by rw[hfl];exact Uo hrd _) (λu hu=>hone u (oa hu)) (λr hr=>hrl r (oa hr)) (by rw[hnt,hk]) (by rw[hk];omega)
        refine fin hr.symm ?_ k2 k3;have Js:=aju (P:=P) (es:=e2) (k:=min ys.length len) (n:=ys.length) (xc:=xc) nS (Nat.min_le_left _ _) (λhne=>hbase λh0=>hne (by subst h0;simpa using nS))
        simp[Builtin.copy_,run_underlying hu,he,sx,Builtin.lenOf,hsz,Js,k1]
       .simp at hr
      .simp at hr
     .rename_i e2 nl fU
      rw[fU]at rx;simp only[aK,bT]at rx;obtain⟨ad,cap,he,_⟩:=rx;simp only[gz]at hr;refine fin (k:=0) (w':=w) hr.symm ?_ hs (Frame.refl _ _ _ _);have Js:=aju (P:=P) (es:=es) (k:=0) (n:=ys.length) (xc:=xc) nS (Cq _) (λhne=>hbase λh0=>hne (by subst h0;simpa using nS))
      cases ad<;>simp[Builtin.copy_,run_underlying hu,he,sx,Builtin.lenOf,hsz,Js,storeCells]
     .simp at hr
   .simp at h
  .simp at h
 .simp at h
end
end Go.VS
namespace Go.VS
section
variable {P:Program}{φ:fD}
variable {nt m dB:Nat}{s:St}{g:Gh}{a:Act}{w:World}{K:Act->World->Prop}{Q:Exit->Act->World->Prop}{o:Oper}
theorem ajy(hs:cj φ nt m dB s g a w){rec:Rec}{d:Nat}{x y:A}(hc:cO P φ nt o (.mx d x y)=true)(hok:(aU rec (.mx d x y) s).ok=true)
  (hK:eU φ nt m dB s g w (aU rec (.mx d x y) s) o a K):o.wp P a w K Q:=by
 simp only[cO,bD]at hc;obtain⟨hd,h⟩:=hc;split at h
 .rename_i c ho
  split at h
  .rename_i x' y' iz hargs
   simp only[bD]at h;obtain⟨hx,hy⟩:=h;obtain⟨FM,args,tys⟩:=c;simp only at iz hargs;have so:args=#[x',y']:=by rw[<-Array.toList_inj];exact hargs
   subst iz;subst so;have rx:=fm hs hx;have ry:=fm hs hy;simp only[aU]at hok hK;refine nk hs hd hok (λv hv=>?_) hK
   unfold K5 at hv;split at hv
   .rename_i k p k' q h1 h2
    rw[h1]at rx;rw[h2]at ry;split at hv
    .rename_i hk
     subst hk;simp only[gz]at hv;subst hv;have e1:=nQ (by simpa only[aK]using rx)
     have e2:=nQ (by simpa only[aK]using ry)
     exact⟨_,by simp[execOp,ho,resolve,invoke,builtin,Builtin.max_,Builtin.max2,e1,e2];rfl,by simp[aK,bT]⟩
    .simp at hv
   .simp at hv
  .simp at h
 .simp at h
theorem ajz(hs:cj φ nt m dB s g a w){rec:Rec}{d t:Nat}{x:A}(hc:cO P φ nt o (.nI d t x)=true)(hok:(aU rec (.nI d t x) s).ok=true)
  (hK:eU φ nt m dB s g w (aU rec (.nI d t x) s) o a K):o.wp P a w K Q:=by
 simp only[cO,bD]at hc;obtain⟨hd,h⟩:=hc;split at h
 .rename_i t' y ho
  simp only[bD,dO]at h;obtain⟨⟨rfl,hx⟩,hu⟩:=h;have rx:=fm hs hx;simp only[aU]at hok hK;refine nk hs hd hok (λv hv=>?_) hK
  unfold uG at hv;split at hv
  .rename_i u fU
   rw[fU]at rx;simp only[gz]at hv;subst hv;refine⟨.iface t' (a.eval y),?_,by simp only[aK,bT];exact⟨_,rfl,by simpa only[aK]using rx⟩⟩
   split at hu
   .simp at hu
   .rename_i td hne mu
    simp only[execOp,ho,Instr.makeInterface,Sem.run_bind,run_underlying mu,Result.andThen_ok];rfl
   .simp at hu
  .simp at hv
 .simp at h
theorem ajA{n:Nat}{A:Array Value}(hA:A.size=n):∀{l:List FieldStep}{t:TypeId},Jb P n l t=true ->
  ∃xt td,(follow l t (.val (.agg A))).run P w = .ok (xt,.val (.agg A)) w/\P.underlying xt=some td/\∀e,td≠.pointer e
 | [],t,h=>by
  simp only[Jb]at h;split at h
  .simp at h
  .rename_i td hne mu
   exact⟨t,td,by simp[follow],mu,hne⟩
  .simp at h
 |s::r,t,h=>by
  simp only[Jb]at h;split at h
  .rename_i fs hfs
   split at h
   .rename_i f hf
    simp only[bD,iZ,dO]at h;obtain⟨⟨⟨⟨h1,h2⟩,h3⟩,h4⟩,h5⟩:=h;obtain⟨xt,td,k1,k2,k3⟩:=ajA hA h5;have hp:(part f.type A f.offset).run P w = .ok (.agg A) w:=by
     refine ajn (ag:=true) h3 h4 ?_;simp only[dH,h2,List.drop_zero];refine⟨by simp[hA],?_⟩
     rw[gD (by simp[hA])]
    refine⟨xt,td,?_,k2,k3⟩;simp[follow,run_underlying hfs,hf,h1,hp,k1]
   .simp at h
  .simp at h
theorem ajB{nm:String}{t n f:Nat}(h:Ul P φ nm t n f=true){A:Array Value}(hA:A.size=n)(k:Nat):
  (method (k+1) t (.agg A) nm).run P w = .ok (φ f,.agg A) w:=by
 unfold Ul at h;split at h
 .rename_i i hi
  split at h
  .rename_i mm zO
   split at h
   .rename_i gg pM
    simp only[bD,dO]at h;obtain⟨rfl,hp⟩:=h;obtain⟨xt,td,k1,k2,k3⟩:=ajA (w:=w) hA hp;have hti:(typeInfo t).run P w = .ok i w:=by simp[typeInfo,hi]
    simp only[method,Sem.run_bind,hti,Result.andThen_ok,zO,k1,pM];have hr:∀wr,(receiverAt xt (.val (.agg A)) false wr).run P w = .ok (.agg A) w:=by
     intro wr;simp only[receiverAt,Sem.run_bind,run_underlying k2,Result.andThen_ok];simp[Place.get]
    simp[hr]
   .simp at h
  .simp at h
 .simp at h
theorem ajC{rec:Rec}(hq:mq P φ rec)(hs:cj φ nt m dB s g a w){d:Option Nat}{nm:String}{kg:List (Nat×Nat×Nat)}{x:A}{xs:List A}(hc:cO P φ nt o (.inv d nm kg x xs)=true)(hok:(aU rec (.inv d nm kg x xs) s).ok=true)
  (hK:eU φ nt m dB s g w (aU rec (.inv d nm kg x xs) s) o a K):o.wp P a w K Q:=by
 simp only[cO,bD]at hc;obtain⟨hd,h⟩:=hc;split at h
 .rename_i c ho
  split at h
  .rename_i y nm' iz
   simp only[bD,dO,zi]at h;obtain⟨⟨⟨rfl,hx⟩,hxs⟩,ajD⟩:=h;simp only[aU]at hok hK;have rx:=fm hs hx;have yD:=wP hs hxs;obtain⟨v,hv⟩:=CG hok;have jE:=hv;unfold cQ at jE;split at jE
   .rename_i t ds fU
    split at jE
    .rename_i e he
     split at jE
     .rename_i hlen
      have hmem:=Qq he;have het:e.1=t:=by have:=Hp he;simpa using this
      have hm:=ajD e hmem;rw[fU]at rx;simp only[aK,bT]at rx;obtain⟨yv,Oz,A,rfl,hA,h1⟩:=rx;have hsz:A.size=e.2.1:=by rw[<-hlen];have:=sW hA;simpa using this.symm
      have hmr:=ajB (P:=P) (w:=w) (φ:=φ) hm hsz (P.types.size+99);refine Uy hq hs hd (f:=e.2.2) (xs:=.d (.ag ds)::xs.map s.get) (args:=#[.agg A]++c.args.map a.eval) (ov:=cQ (kQ rec) kg (s.get x) (xs.map s.get)) (by rw[hv,jE]) hok ?_ ?_ hK
      .simp only[Array.toList_append,En,tB,mX,bU]
       exact⟨by simp only[aK,bT];exact⟨A,rfl,hA,h1⟩,yD⟩
      .simp only[execOp,ho,resolve,iz,Sem.run_bind,Sem.run_pure,Result.andThen_ok,invoke,Oz]
       rw[het]at hmr;have h0:(#[Value.iface t (.agg A)]++Array.map a.eval c.args)[0]?=some (.iface t (.agg A)):=by simp[Array.getElem?_append]
       have h1:(Array.map a.eval c.args).extract 0 c.args.size=Array.map a.eval c.args:=by simp
       simp only[callMethod,Made.depth,h0]at *;simp[hmr,h1]
     .simp at jE
    .simp at jE
   .simp at jE
  .simp at h
 .simp at h
end
end Go.VS
namespace Go.VS
section
variable {P:Program}{φ:fD}
variable {nt m dB:Nat}{s:St}{g:Gh}{a:Act}{w:World}{K:Act->World->Prop}{Q:Exit->Act->World->Prop}{o:Oper}
theorem ajE(hs:cj φ nt m dB s g a w){rec:Rec}{d:Nat}{x:A}(hc:cO P φ nt o (.cap d x)=true)(hok:(aU rec (.cap d x) s).ok=true)
  (hK:eU φ nt m dB s g w (aU rec (.cap d x) s) o a K):o.wp P a w K Q:=by
 simp only[cO,bD]at hc;obtain⟨hd,h⟩:=hc;split at h
 .rename_i c ho
  split at h
  .rename_i y t iz hargs qu
   simp only[bD]at h;obtain⟨hx,ht⟩:=h;split at ht
   .rename_i e hu
    obtain⟨FM,args,tys⟩:=c;simp only at iz hargs qu;have so:args=#[y]:=by rw[<-Array.toList_inj];exact hargs
    have wU:tys=#[t]:=by rw[<-Array.toList_inj];exact qu
    subst iz;subst so;subst wU;have rx:=fm hs hx;simp only[aU]at hok hK;refine nk hs hd hok (λv hv=>?_) hK
    have fin:∀{ad:Option Addr}{n cap:Nat},a.eval y = .slice ad n cap->v = .d (.i .i64 cap)->∃v',(execOp a.eval o).run P w = .ok (.value v') w/\aK φ s.heap g w v v':=by
     intro ad n cap he hv;subst hv;exact⟨.int .i64 cap,by simp[execOp,ho,resolve,invoke,builtin,he,Builtin.cap_,run_underlying hu,goInt],by simp[aK,bT]⟩
    unfold KZ at hv;split at hv
    .rename_i e' xs hp
     rw[hp]at rx;simp only[aK,bT]at rx;obtain⟨ad,cap,he,_,h1,_⟩:=rx;obtain⟨_,rfl⟩:=h1 trivial;simp at hv;exact fin he (by rw[<-hv];rfl)
    .rename_i e' hp
     rw[hp]at rx;simp only[aK]at rx;obtain⟨ad,he⟩:=rx;simp at hv;exact fin he (by rw[<-hv];rfl)
    .rename_i n off len hp
     rw[hp]at rx;simp only[aK]at rx;split at hv
     .rename_i e' ex rows hn
      split at hv
      .rename_i hle
       obtain⟨cap,he,hlc,hm,_⟩:=rx.2.2 e' (by rw[hn];rfl)
       rw[hn]at hm;simp only[O.len]at hm;simp at hv
       have:rows.length - off=cap:=by omega
       exact fin he (by rw[<-hv,this])
      .simp at hv
     .simp at hv
    .simp at hv
   .simp at ht
  .simp at h
 .simp at h
theorem ajF{t t' ty e:TypeId}{k':IntKind}{i:TypeInfo}{z:Value}(ht:P.underlying t=some (.slice e))(ht':P.underlying t'=some (.int k'))(hi:P.info? e=some i)(hz:i.zero=some z){sLen sCap n:Nat}{base:Option Addr}{olds:List Value}{q:IntKind}
  (hlo:olds.length=sLen*i.size)(UC:olds≠[]->∃b off,base=some ⟨b,off,none⟩/\∀(j:Nat)(u:Value),olds[j]?=some u->w.cell? ⟨b,off+j,none⟩=some u)
  (mO:sCap<sLen+n)(hroom:sLen+n<=room)(hby:i.bytes<=16384)(hpos:0<i.size)(hn0:0<n):
  (Builtin.append_ #[t,t'] ty #[.slice base sLen sCap,.int q n]).run P w =
   .ok (.slice (some ⟨w.heap.size,0,none⟩) (sLen+n) (grownCap w (sLen+n) sCap e)) (w.drew.alloc (.cells (olds++(Builtin.zeroCells z.cells n).toList++(Builtin.zeroCells z.cells (grownCap w (sLen+n) sCap e - (sLen+n))).toList).toArray e)):=by
 have hn:¬(sLen+n<=sCap):=by omega
 have UD:sLen+n<=4294967296:=hroom;have h63':¬(9223372036854775807<((sLen:Int)+(n:Int))):=by omega
 have hmul:(sLen+n)*i.bytes<=4294967296*16384:=KF UD hby;have UE:¬(281474976710656<Builtin.nextslicecap (sLen+n) sCap*i.bytes):=by
  have:=growslice_fits (bytes:=i.bytes) mO (by omega)
  omega
 have hfo:=Jk (P:=P) (w:=w.drew) (xa:=base) (xc:=sCap) hlo (λh=>by obtain⟨b,off,h1,h2⟩:=UC h;exact⟨b,off,h1,by simpa using h2⟩)
 have hwrap:IntKind.i64.wrap (n:Int)=n:=by
  have h1:(n:Int)<=4294967296:=by omega
  have e1:(n:Int) % (2 ^ (IntKind.i64.bits):Int)=n:=Int.emod_eq_of_lt (by omega) (Int.lt_of_le_of_lt h1 (by decide))
  have e2:¬((n:Int) ≥ (2 ^ (IntKind.i64.bits - 1):Int)):=by
   have:((2:Int) ^ (IntKind.i64.bits - 1))=9223372036854775808:=by decide
   rw[this];omega
  simp only[IntKind.wrap,e1,e2,decide_false,Bool.and_false,fG,dK]
 have hneg:¬((n:Int)<0):=by omega
 have aiF:n*i.bytes<=4294967296*16384:=KF (by omega) hby
 have ajG:¬((281474976710656:Int)<(n:Int)*(i.bytes:Int)):=by
  rw[<-Int.natCast_mul];omega
 have hns:¬(n*i.size=0):=Nat.ne_of_gt (Nat.mul_pos hn0 hpos);simp[Builtin.append_,run_underlying ht,run_underlying ht',sizeOf,typeInfo,zeroValue,hi,hz,Go.asInt,asIntOf,hwrap,hneg,ajG,hn,h63',UE,hns,Question.forced,hfo,newRow,grownCap];congr 2;apply Qn;simp[tw]
theorem ajH(hs:cj φ nt m dB s g a w){rec:Rec}{d es:Nat}{x k:A}{z:List D}(hc:cO P φ nt o (.sH d x k es z)=true)(hok:(aU rec (.sH d x k es z) s).ok=true)
  (hK:eU φ nt m dB s g w (aU rec (.sH d x k es z) s) o a K):o.wp P a w K Q:=by
 simp only[cO,bD]at hc;obtain⟨hd,h⟩:=hc;split at h
 .rename_i c ho
  split at h
  .rename_i x' k' t t' iz hargs qu
   simp only[bD,gf]at h;obtain⟨⟨⟨hx,hk⟩,hpos⟩,ht⟩:=h;obtain⟨FM,args,tys⟩:=c;simp only at iz hargs qu;have so:args=#[x',k']:=by rw[<-Array.toList_inj];exact hargs
   have wU:tys=#[t,t']:=by rw[<-Array.toList_inj];exact qu
   subst iz;subst so;subst wU;split at ht
   .rename_i e q hu oD
    simp only[bD]at ht;obtain⟨UZ,ht⟩:=ht;obtain⟨i,zv,hi,hz,su,sX,hzs⟩:=DA (g:=g) (w:=w) UZ;rw[hi]at ht;simp only[bD,dO,gf]at ht;obtain⟨hsz,hby⟩:=ht;subst hsz;have rx:=fm hs hx;have rk:=fm hs hk;simp only[aU]at hok hK;obtain⟨v,hh,hv⟩:=BJ hok;rw[hv]at hK;simp only[St.gi]at hK;unfold KX at hv;cases hkv:asInt (s.get k)with
    |none=>simp[hkv]at hv
    |some kn =>
     simp only[hkv]at hv;have iu:∃q2,a.eval k' = .int q2 kn:=by
      cases hg:s.get k with
      |d z =>
       rw[hg]at hkv rk;cases z with
       |i q2 n=>simp[asInt]at hkv;subst hkv;exact⟨q2,nQ (by simpa only[aK]using rk)⟩
       |_=>simp[asInt]at hkv
      |_=>rw[hg]at hkv;simp[asInt]at hkv
     obtain⟨q2,hke⟩:=iu;split at hv
     .rename_i eo
      obtain⟨qv,hzl⟩:=eo;have hkn:(kn.toNat:Int)=kn:=by omega
      have Jt:zv.cells.size=i.size:=by
       have:=sW su;rw[hzl]at this;simpa using this.symm
      obtain⟨z1,z2,z3⟩:=Ox su sX (by rw[hzl];exact hpos) kn.toNat
      have fresh:∀{base:Option Addr}{sLen sCap:Nat}{olds:List Value}{ys:List (List D)},a.eval x' = .slice base sLen sCap->olds.length=sLen*i.size ->
        (olds≠[]->∃b off,base=some ⟨b,off,none⟩/\∀(j:Nat)(u:Value),olds[j]?=some u->w.cell? ⟨b,off+j,none⟩=some u)->sCap<sLen+kn.toNat->sLen+kn.toNat<=room ->
        (∀r∈ys,r.length=i.size)->ys.length=sLen->cx φ g.I w ys.flatten olds->(∀u∈olds,u.oneCell'=true)->v = .aR s.heap.length 0 (sLen+kn.toNat)->hh=s.heap++[.aI i.size true (ys++List.replicate kn.toNat z)]->o.wp P a w K Q:=by
       intro base sLen sCap olds ys he h1 h2 h3 h4 h5 h6 h7 h8 h9 iV;subst h9;subst iV;have hrun:=ajF (P:=P) (w:=w) (ty:=o.type) (q:=q2) hu oD hi hz h1 h2 h3 h4 hby hpos (by omega)
       rw[hkn]at hrun;have DJ:=grownCap_ge w (sLen+kn.toNat) sCap e;have jO:(ys++List.replicate kn.toNat z).length=sLen+kn.toNat:=by simp[h6]
       have wv:(Builtin.zeroCells zv.cells (grownCap w (sLen+kn.toNat) sCap e - (sLen+kn.toNat))).toList.length=(grownCap w (sLen+kn.toNat) sCap e - (sLen+kn.toNat))*i.size:=by simp[size_zeroCells,Jt]
       have:=On (P:=P) (K:=K) (Q:=Q) (o:=o) (a:=a) hs hd (es:=i.size) (ex:=true) (ys:=ys++List.replicate kn.toNat z) (C:=olds++(Builtin.zeroCells zv.cells kn.toNat).toList) (ok:=s.ok)
        (rest:=(Builtin.zeroCells zv.cells (grownCap w (sLen+kn.toNat) sCap e - (sLen+kn.toNat))).toList) (T:=e) (cap:=grownCap w (sLen+kn.toNat) sCap e)
        (by rw[jO];simp[execOp,ho,resolve,invoke,builtin,he,hke,hrun])
        (λr hr=>(dm.1 hr).elim (h5 r) (λh=>by rw[Ho]at h;rw[h.2,hzl]))
        (by rw[Eo];exact Ah h7 z1) (λu hu=>(dm.1 hu).elim (h8 u) (z2 u)) (by rw[jO];exact DJ) ?_ (Om sX _)
       .refine this λg' v' w' k1 k2=>?_
        rw[jO]at k1;exact hK g' v' w' k1 k2
       .rw[l6,h1,wv,z3,hzl,<-Nat.add_mul,<-Nat.add_mul]
        exact l7 _ (by omega)
      split at hv
      .rename_i e1 nl xs fU
       rw[fU]at rx;simp only[aK,bT]at rx;obtain⟨ad,cap,he,hlc,pG,_⟩:=rx;split at hv
       .rename_i gF
        obtain⟨rfl,rfl,hroom⟩:=gF;obtain⟨rfl,rfl⟩:=pG rfl;have hx0:xs.length=0:=by omega
        rw[hx0]at he;simp at hv;exact fresh (olds:=[]) (ys:=[]) he (by simp) (by simp) (by omega) (by omega) (by simp) rfl (by simp[cx]) (by simp) (by rw[oh];exact hv.1.symm) (by simpa using hv.2.symm)
       .simp at hv
      .rename_i e1 fU
       rw[fU]at rx;simp only[aK]at rx;obtain⟨ad,he⟩:=rx;split at hv
       .rename_i gF
        obtain⟨rfl,hroom⟩:=gF;simp at hv;exact fresh (olds:=[]) (ys:=[]) he (by simp) (by simp) (by omega) (by omega) (by simp) rfl (by simp[cx]) (by simp) (by rw[oh];exact hv.1.symm) (by simpa using hv.2.symm)
       .simp at hv
      .rename_i n off len fU
       rw[fU]at rx;simp only[aK]at rx;have dF:=hs.heap.obj n;split at hv
       .rename_i e1 ex rows hn
        rw[hn]at rx dF;split at hv
        .rename_i gF
         obtain⟨rfl,hle,mO,hroom⟩:=gF;obtain⟨cap,he,hlc,hm,_⟩:=rx.2.2 _ rfl;simp only[O.len]at hm;simp at hv;have hlen:((rows.drop off).take len).length=len:=by simp;omega
         obtain⟨olds,o1,o2,o3,o4⟩:=Ap (DG dF.2.1 hle);rw[hlen]at o3;exact fresh (olds:=olds) (ys:=(rows.drop off).take len) he (by rw[o3,jt]) (λ_=>⟨_,_,rfl,o4⟩) (by omega) hroom
          (λr hr=>by
           obtain⟨j,hj,DI⟩:=tv (mV (oa hr));exact(oB dF.2.1 (r:=j) (row:=r) (by simp[hj,DI])).1) hlen o1 o2 hv.1.symm hv.2.symm
        .simp at hv
       .simp at hv
      .simp at hv
     .simp at hv
   .simp at ht
  .simp at h
 .simp at h
theorem ajI{fn:Func}(h:Ui fn=true):Extern.findNext fn=none/\Extern.find fn=some (Extern.SlicesOverlaps.overlaps fn.params fn.resultTypes):=by
 simp only[Ui,bD,dO,Option.isNone_iff_eq_none]at h;obtain⟨⟨⟨⟨h0,h1⟩,h2⟩,h3⟩,h4⟩:=h;have n1 : Extern.allGenericRows.lookup "slices.overlaps" = none := by kernel_rfl
 have n2 : Extern.allTypedRows.lookup "slices.overlaps" = some Extern.SlicesOverlaps.overlaps := by kernel_rfl
 have n3 : Extern.allNextRows.lookup "slices.overlaps" = none := by kernel_rfl
 refine⟨?_,?_⟩
 .simp[Extern.findNext,h4,h0,n3]
 .simp[Extern.find,h1,h2,h3,h0,n1,n2]
theorem ajJ(hP:True){tS e:TypeId}{par res:Array TypeId}(hp:par[0]?=some tS)(ht:P.underlying tS=some (.slice e)){size:Nat}(hz:(Go.sizeOf e).run P w = .ok size w)
  {a b:Addr}{la ca lb cb:Nat}{CA CB:Array Value}{TA TB:TypeId}{fa:Nat×Nat}(hA:w.heap[a.block]?=some (.cells CA TA fa))(hB:w.heap[b.block]?=some (.cells CB TB (0,0)))(hA0:CA.size≠0)
  (ajK:a.block=b.block->a.off+la*size<=b.off):
  (Extern.SlicesOverlaps.overlaps par res #[.slice (some a) la ca,.slice (some b) lb cb]).run P w = .ok (.bool false) w:=by
 rw[Extern.SlicesOverlaps.overlaps.eq_def,hp];change Sem.run P (α:=Value) (underlying tS >>= _) w=_;by_cases h0:la=0\/lb=0\/size=0
 .simp[hp,run_underlying ht,hz,h0]
 .have hsa:w.shape? a.block=some (TA,CA.size):=by simp[World.shape?,hA]
  have hsb:w.shape? b.block=some (TB,CB.size):=by simp[World.shape?,hB]
  have kG:∀k sp,w.frozen? {block:=b.block,off:=k,spot:=sp}=false:=by intro k sp;simp[World.frozen?,hB]
  have ajL:w.frozen? b=false:=by simp[World.frozen?,hB]
  obtain⟨n,hn⟩:∃n,CA.size=n+1:=⟨CA.size - 1,by omega⟩
  rw[hn]at hsa;by_cases hne:a.block=b.block
  .have h1:(a.block != b.block)=false:=by simpa using hne
   have h2:=ajK hne;have h3:¬(b.off<a.off+la*size):=by omega
   simp[hp,run_underlying ht,hz,h0,h1,frozen,Sem.run,h3]
  .have h1:(a.block != b.block)=true:=by simpa using hne
   have h2:(a.block==b.block)=false:=by simpa using hne
   cases OA:w.frozen? a<;>cases oz:w.frozen? {block:=a.block,off:=n+1} <;>
    simp[hp,run_underlying ht,hz,h0,h1,h2,frozen,noView,viewAt,mayBeOne,stringish,shape,Sem.run,hsa,hsb,kG,ajL,OA,oz]
theorem ajM{tS e:TypeId}{par res:Array TypeId}(hp:par[0]?=some tS)(ht:P.underlying tS=some (.slice e)){size:Nat}(hz:(Go.sizeOf e).run P w = .ok size w)
  {b:Option Addr}{a:Option Addr}{la ca lb cb:Nat}(h0:a=none\/la=0):
  (Extern.SlicesOverlaps.overlaps par res #[.slice a la ca,.slice b lb cb]).run P w = .ok (.bool false) w:=by
 rw[Extern.SlicesOverlaps.overlaps.eq_def,hp];change Sem.run P (α:=Value) (underlying tS >>= _) w=_;rcases h0 with rfl |rfl
 .simp[hp,run_underlying ht,hz]
 .cases a<;>cases b<;>simp[hp,run_underlying ht,hz]
theorem ajN(hs:cj φ nt m dB s g a w){rec:Rec}{d f es:Nat}{x y:A}(hc:cO P φ nt o (.rO d f x y es)=true)(hok:(aU rec (.rO d f x y es) s).ok=true)
  (hK:eU φ nt m dB s g w (aU rec (.rO d f x y es) s) o a K):o.wp P a w K Q:=by
 simp only[cO,bD]at hc;obtain⟨hd,h⟩:=hc;split at h
 .rename_i c ho
  split at h
  .rename_i ff iz
   simp only[bD,dO]at h;obtain⟨⟨rfl,hxy⟩,h⟩:=h;split at h
   .rename_i fn hfn
    simp only[bD,iZ]at h;obtain⟨⟨⟨hname,hbody⟩,nR⟩,h⟩:=h;split at h
    .rename_i t t2 hpar
     split at h
     .rename_i e hu
      simp only[bD,gf]at h;obtain⟨hpos,Jf⟩:=h;have hsz:=wS (P:=P) (w:=w) Jf;have U0:fn.params[0]?=some t:=by
       rw[<-Array.getElem?_toList,hpar];rfl
      obtain⟨k1,k2⟩:=ajI nR;have rr:=wP hs hxy;simp only[aU]at hok hK;refine nk hs hd hok (λv hv=>?_) hK
      obtain⟨x',y',hargs⟩:∃x' y',c.args.toList=[x',y']:=by
       match hq:c.args.toList,hxy with
       | [x',y'],_=>exact⟨x',y',rfl⟩
       | [],h=>simp[oC]at h
       | [_],h=>simp[oC]at h
       |_::_::_::_,h=>simp[oC]at h
      rw[hargs]at rr;simp only[gm,gQ,bU]at rr;obtain⟨rx,ry,_⟩:=rr;have so:c.args.map a.eval=#[a.eval x',a.eval y']:=by rw[<-Array.toList_inj];simp[hargs]
      have ajO:(execOp a.eval o).run P w=(callFunc (φ f) (c.args.map a.eval)).run P w:=by simp[execOp,ho,resolve,iz,Act.eval,Deferred.ofValue,invoke]
      have hrun:∀{u u':Value},a.eval x'=u->a.eval y'=u'->v = .d (.b false)->(Extern.SlicesOverlaps.overlaps fn.params fn.resultTypes #[u,u']).run P w = .ok (.bool false) w->∃v',(execOp a.eval o).run P w = .ok (.value v') w/\aK φ s.heap g w v v':=by
       intro u u' h1 h2 h3 h4;subst h3;refine⟨.bool false,?_,by simp[aK,bT]⟩
       rw[ajO,so,h1,h2,run_callFunc_extern hfn hname hbody k1 k2,h4];rfl
      unfold K0 at hv;split at hv
      .rename_i e1 nl xs n off len fU hyv
       have ry:=I8 ry;rw[fU]at rx;rw[hyv]at ry;simp only[aK,bT]at rx ry;obtain⟨ad,cap,hex,hlc,h1,h2⟩:=rx;have dF:=hs.heap.obj n;split at hv
       .rename_i e2 rows hn
        rw[hn]at ry dF;split at hv
        .rename_i hee
         subst hee;obtain⟨ajP,sx,_,_,CS,T,hB,hfit,_⟩:=ry.2.2 e2 rfl;simp only[gz]at hv;refine hrun hex sx hv.symm ?_;cases nl with
         |true=>exact ajM U0 hu hsz (.inl (h1 rfl).1)
         |false =>
          obtain⟨FW,rfl,h3⟩:=h2 rfl;cases xs with
          |nil=>exact ajM U0 hu hsz (.inr rfl)
          |cons r rs =>
           obtain⟨hsp,hI,sv⟩:=h3 (by simp)
           obtain⟨hrl,hrc⟩:=oB sv (r:=0) (row:=r) rfl;have BS:r[0]?=some r[0]:=by simp
           obtain⟨z,hz,_⟩:=FG hrc BS;simp only[World.cell?]at hz;split at hz
           .rename_i CA TA fa hA
            have hA0:CA.size≠0:=by
             intro h0
             have:CA=#[]:=Array.eq_empty_of_size_eq_zero h0
             subst this;simp at hz
            refine ajJ trivial U0 hu hsz hA hB hA0 λF5=>?_
            have Jr:=dF.2.2;simp only[dH]at Jr;simp only at F5;rw[F5]at hI;rw[jt];show FW.off+e1*(r::rs).length<=g.o n+off*e2
            omega
           .simp at hz
        .simp at hv
       .simp at hv
      .simp at hv
     .simp at h
    .simp at h
   .simp at h
  .simp at h
 .simp at h
end
end Go.VS
namespace Go.VS
section
variable {P:Program}{φ:fD}
variable {nt m dB:Nat}{s:St}{g:Gh}{a:Act}{w:World}{K:Act->World->Prop}{Q:Exit->Act->World->Prop}{o:Oper}
theorem F6{k:CK}{x:D}{a:List D}(h:AZ [k] x=some a):a=[x]/\∀cs,x≠.ag cs:=by
 cases x<;>simp[AZ]at h<;>exact⟨h.symm,λcs hh=>by cases hh⟩
theorem F7{ks:List CK}{x:D}{a:List D}(hk:∀k,ks≠[k])(h:AZ ks x=some a):x = .ag a:=by
 match ks,hk,h with
 | [],_,h=>cases x<;>simp[AZ]at h<;>subst h<;>rfl
 | [k],hk,_=>exact absurd rfl (hk k)
 |_::_::_,_,h=>cases x<;>simp[AZ]at h<;>subst h<;>rfl
theorem ajQ{I:Nat->Nat}{kt:TypeId}{ks:List CK}(hk:wO P kt ks=true){x y:D}{b:Bool}(h:om ks x y=some b){u v:Value}(hu:bT φ I w x u)(hv:bT φ I w y v):(Op.equal kt u v).run P w = .ok b w:=by
 simp only[om,og]at h;obtain⟨p,hp,q,hq,hf⟩:=h;unfold wO at hk;split at hk
 .rename_i k
  obtain⟨rfl,_⟩:=F6 hp;obtain⟨rfl,_⟩:=F6 hq;simp only[jT,og,gI,gz]at hf;obtain⟨b1,h1,b2,rfl,rfl⟩:=hf;rw[Qr];exact Up hk h1 hu hv 9999
 .rename_i hne
  have iT:=F7 (λk hh=>hne k hh) hp
  have kE:=F7 (λk hh=>hne k hh) hq
  subst iT;subst kE;simp only[bT]at hu hv;obtain⟨A,rfl,ra,_⟩:=hu;obtain⟨B,rfl,rb,_⟩:=hv;unfold Dz at hk;split at hk
  .rename_i fs hfs
   simp only[bD,iZ]at hk;obtain⟨⟨pG,wT⟩,BI⟩:=hk;have hfo:P.fieldsOf kt=fs:=by simp[Program.fieldsOf,hfs]
   have hst:P.underlying kt=some (.struct (P.fieldsOf kt)):=by rw[hfo];exact hfs
   have U1:=Uq (P:=P) (w:=w) 9998 BI hf (by simpa using ra) (by simpa using rb)
   have he:=run_equalIn_struct (P:=P) w 9999 kt A B hst pG;rw[hfo,U1]at he;exact he
  .simp at hk
theorem ajR{h:List O}{kt:TypeId}{ks:List CK}(hk:wO P kt ks=true){k:D}{u:Value}(hu:bT φ g.I w k u):∀{kv:List (D×V)}{es:List MapEntry}{i:Nat},vm φ h g w kv es->(kv.all λp=>(om ks k p.1).isSome)=true ->
  ∃r,(Instr.findAsking kt u es i).run P w = .ok r w /\
   match kv.findIdx? (l8 ks k)with
   |some j=>∃e,es[j]?=some e/\r=some (i+j,e.val)
   |none=>r=none
 | [],[],i,_,_=>⟨none,by simp[Instr.findAsking],by simp⟩
 |p::kv,e::es,i,hr,hall=>by
  simp only[xK,bD]at hall;obtain⟨b,hb⟩:=Qt.1 hall.1;have hp:=hr.2 0 p e rfl rfl;have heq:=ajQ (P:=P) (w:=w) hk hb hu hp.1;have U2:vm φ h g w kv es:=⟨by have:=hr.1;simpa using this,λj q e' hq he=>hr.2 (j+1) q e' (by simpa using hq) (by simpa using he)⟩
  have hki:l8 ks k p=b:=by simp[l8,hb]
  cases b with
  |true =>
   refine⟨some (i,e.val),by simp[Instr.findAsking,heq],?_⟩
   rw[xJ,hki];exact⟨e,rfl,rfl⟩
  |false =>
   obtain⟨r,h1,h2⟩:=ajR hk hu (i:=i+1) U2 hall.2;refine⟨r,by simp[Instr.findAsking,heq,h1],?_⟩
   rw[xJ,hki];simp only[fG,dK];cases hf:kv.findIdx? (l8 ks k)with
   |none=>rw[hf]at h2;simpa using h2
   |some j =>
    rw[hf]at h2;obtain⟨e',he',hr'⟩:=h2;refine⟨e',by simpa using he',?_⟩
    rw[hr'];show some (i+1+j,e'.val)=some (i+(j+1),e'.val)
    have:i+1+j=i+(j+1):=by omega
    rw[this]
 | [],_::_,_,hr,_=>by have:=hr.1;simp at this
 |_::_,[],_,hr,_=>by have:=hr.1;simp at this
theorem ajS{I:Nat->Nat}{ks:List CK}{kind:TypeDesc}{x y:D}{b c:Bool}(h:om ks x y=some b){u v:Value}(hu:bT φ I w x u)(hv:bT φ I w y v)(hs:Instr.sameNow kind u v=some c):c=b:=by
 simp only[om,og]at h;obtain⟨p,hp,q,hq,hf⟩:=h;by_cases hone:∃k,ks=[k]
 .obtain⟨k,rfl⟩:=hone
  obtain⟨rfl,_⟩:=F6 hp;obtain⟨rfl,_⟩:=F6 hq;simp only[jT,og,gI,gz]at hf;obtain⟨b1,h1,b2,rfl,rfl⟩:=hf;rw[Qr];unfold Cz at h1;split at h1<;>simp only[gz,reduceCtorEq,Qj]at h1
  .obtain⟨rfl,rfl⟩:=h1
   have hu:=nQ hu;have hv:=nQ hv;subst hu;subst hv;cases kind<;>simp[Instr.sameNow]at hs;exact hs.symm
  .subst h1
   have hu:=wR hu;have hv:=wR hv;subst hu;subst hv;cases kind<;>simp[Instr.sameNow]at hs;exact hs.symm
  .subst h1
   simp only[bT]at hu hv;obtain⟨bs,rfl,hb⟩:=hu;obtain⟨cs,rfl,hc⟩:=hv;cases kind<;>simp[Instr.sameNow]at hs;subst hs;subst hb;subst hc;exact beq_toListBytes _ _
 .have iT:=F7 (λk hh=>hone ⟨k,hh⟩) hp
  subst iT;simp only[bT]at hu;obtain⟨A,rfl,_⟩:=hu;cases kind<;>simp[Instr.sameNow]at hs
theorem ajT{h:List O}{kind:TypeDesc}{ks:List CK}{k:D}{u:Value}(hu:bT φ g.I w k u):∀{kv:List (D×V)}{es:List MapEntry}{i:Nat}{r:Option (Nat×Value)},vm φ h g w kv es->(kv.all λp=>(om ks k p.1).isSome)=true ->
  Instr.findNow kind u es i=some r ->
   match kv.findIdx? (l8 ks k)with
   |some j=>∃e,es[j]?=some e/\r=some (i+j,e.val)
   |none=>r=none
 | [],[],i,r,_,_,hf=>by simp[Instr.findNow]at hf;simp[hf]
 |p::kv,e::es,i,r,hr,hall,hf=>by
  simp only[xK,bD]at hall;obtain⟨b,hb⟩:=Qt.1 hall.1;have hp:=hr.2 0 p e rfl rfl;have U2:vm φ h g w kv es:=⟨by have:=hr.1;simpa using this,λj q e' hq he=>hr.2 (j+1) q e' (by simpa using hq) (by simpa using he)⟩
  have hki:l8 ks k p=b:=by simp[l8,hb]
  simp only[Instr.findNow]at hf;split at hf
  .rename_i hs
   have:=ajS hb hu hp.1 hs;subst this;rw[xJ,hki];simp at hf;exact⟨e,rfl,hf.symm⟩
  .rename_i hs
   have:=ajS hb hu hp.1 hs;subst this;have h2:=ajT hu U2 hall.2 hf;rw[xJ,hki];simp only[fG,dK];cases hf:kv.findIdx? (l8 ks k)with
   |none=>rw[hf]at h2;simpa using h2
   |some j =>
    rw[hf]at h2;obtain⟨e',he',hr'⟩:=h2;refine⟨e',by simpa using he',?_⟩
    rw[hr'];show some (i+1+j,e'.val)=some (i+(j+1),e'.val)
    have:i+1+j=i+(j+1):=by omega
    rw[this]
  .simp at hf
 | [],_::_,_,_,hr,_,_=>by have:=hr.1;simp at this
 |_::_,[],_,_,hr,_,_=>by have:=hr.1;simp at this
theorem ajU{kt:TypeId}{ks:List CK}(hk:wO P kt ks=true):∃d,P.underlying kt=some d:=by
 unfold wO wN Dz at hk;cases h:P.underlying kt with
 |some d=>exact⟨d,rfl⟩
 |none=>split at hk<;>simp[h]at hk
theorem ajV{h:List O}{kt:TypeId}{ks:List CK}(hk:wO P kt ks=true){k:D}{u:Value}(hu:bT φ g.I w k u){kv:List (D×V)}{es:List MapEntry}(hr:vm φ h g w kv es)(hall:(kv.all λp=>(om ks k p.1).isSome)=true):
  ∃r,(Instr.findKey kt u es).run P w = .ok r w /\
   match kv.findIdx? (l8 ks k)with
   |some j=>∃e,es[j]?=some e/\r=some (j,e.val)
   |none=>r=none:=by
 obtain⟨d,hd⟩:=ajU hk;cases hf:Instr.findNow d u es 0 with
 |some r =>
  refine⟨r,by simp[Instr.findKey,run_underlying hd,hf],?_⟩
  simpa only[oh]using ajT hu hr hall hf
 |none =>
  obtain⟨r,h1,h2⟩:=ajR hk hu (i:=0) hr hall;refine⟨r,by simp[Instr.findKey,run_underlying hd,hf,h1],?_⟩
  simpa only[oh]using h2
end
end Go.VS
namespace Go.VS
section
variable {P:Program}{φ:fD}
variable {nt m dB:Nat}{s:St}{g:Gh}{a:Act}{w:World}{K:Act->World->Prop}{Q:Exit->Act->World->Prop}{o:Oper}
theorem ajW{kt:TypeId}{k:CK}(hk:wN P kt k=true)(e:Bool)(n:Nat)(u:Value):(Instr.checkKey e (n+1) kt u).run P w = .ok () w:=by
 unfold wN at hk;split at hk<;>simp at hk<;>rename_i hu<;>simp[Instr.checkKey,run_underlying hu]
theorem ajX{I:Nat->Nat}(e:Bool)(n:Nat){A:Array Value}:∀{fs:List Field}{ks:List CK}{off:Nat}{p q:List D}{b:Bool},yz P off fs ks=true->jT ks p q=some b->cx φ I w p (A.toList.drop off) ->
  (forIn fs PUnit.unit (fun(f:Field)(_:PUnit)=>(do
   if f.name ≠ "_" then Instr.checkKey e (n + 1) f.type (← part f.type A f.offset)
   pure (ForInStep.yield PUnit.unit):Sem (ForInStep PUnit)))).run P w = .ok PUnit.unit w
 | [],[],_,_,_,_,_,_,_=>by simp
 |f::fs,k::ks,off,p,q,b,hc,hf,hp=>by
  simp only[yz,bD,dO,KD]at hc;obtain⟨⟨⟨hn,rfl⟩,hk⟩,hr⟩:=hc;cases p with
  |nil=>simp[jT]at hf
  |cons x p =>
   cases q with
   |nil=>simp[jT]at hf
   |cons y q =>
    simp only[jT,og,gI]at hf;obtain⟨b1,h1,b2,h2,rfl⟩:=hf;obtain⟨u,hu,ru⟩:=BB hp (j:=0) rfl;have oD:A[f.offset]?=some u:=by simpa[pX]using hu
    have iT:cx φ I w p (A.toList.drop (f.offset+1)):=by
     have:=BH hp 1;simpa[Em,rL]using this
    have ih:=ajX e n hr h2 iT;have e1:=Jd (P:=P) (w:=w) hk oD;have e2:=ajW (P:=P) (w:=w) hk e n u;simp only[List.forIn_cons,zg,hn,not_false_eq_true,dH,Sem.run_bind,e1,Result.andThen_ok,e2,Sem.run_pure];exact ih
 | [],_::_,_,_,_,_,hc,_,_=>by simp[yz]at hc
 |_::_,[],_,_,_,_,hc,_,_=>by simp[yz]at hc
theorem ajY{I:Nat->Nat}{kt:TypeId}{ks:List CK}(hk:wO P kt ks=true){k:D}(Ju:(om ks k k).isSome=true){u:Value}(hu:bT φ I w k u)(e:Bool):(Instr.checkKey e 10000 kt u).run P w = .ok () w:=by
 obtain⟨b,hb⟩:=Qt.1 Ju;unfold wO at hk;split at hk
 .exact ajW hk e 9999 u
 .rename_i hne
  simp only[om,og]at hb;obtain⟨p,hp,q,hq,hf⟩:=hb;have iT:=F7 (λk hh=>hne k hh) hp
  subst iT;simp only[bT]at hu;obtain⟨A,rfl,ra,_⟩:=hu;unfold Dz at hk;split at hk
  .rename_i fs hfs
   simp only[bD,iZ]at hk;have:=ajX (P:=P) (w:=w) e 9998 (A:=A) hk.2 hf (by simpa using ra)
   rw[Instr.checkKey];simp only[Sem.run_bind,run_underlying hfs,Result.andThen_ok,<-Array.forIn_toList];have e2 : ∀ (x : PUnit), (forIn fs.toList x fun f _ => if f.name ≠ "_" then(do
       let __do_lift <-part f.type A f.offset
       Instr.checkKey e 9999 f.type __do_lift
       pure (ForInStep.yield PUnit.unit))else(pure (ForInStep.yield PUnit.unit):Sem (ForInStep PUnit))).run P w = .ok PUnit.unit w:=λ_=>this
   rw[e2 PUnit.unit];rfl
  .simp at hk
theorem ajZ(hs:cj φ nt m dB s g a w){rec:Rec}{d:Nat}(hc:cO P φ nt o (.mF d)=true)
  (hK:eU φ nt m dB s g w (aU rec (.mF d) s) o a K):o.wp P a w K Q:=by
 simp only[cO,bD]at hc;obtain⟨hd,h⟩:=hc;split at h
 .rename_i t ho
  have hrun:(execOp a.eval o).run P w = .ok (.value (.map (some w.heap.size))) (w.alloc (.map #[] 0)):=by
   simp[execOp,ho,Instr.makeMap,newObj];rfl
  simp only[aU,St.gi]at hK;have hg:=gO.alloc w (.map #[] 0);have hb:=Ao w (.map #[] 0);refine Je hs hd (b:=w.heap.size) (off:=0) (I':=g.I) hrun hg (λ_ _=>rfl) (λb hb=>hs.heap.new b (by simp at hb;omega)) (gh _) ?_ ?_ hK
  .exact⟨#[],0,hb,⟨by simp,λi p e hp=>by simp at hp⟩,hs.heap.new _ (gh _)⟩
  .simp only[aK]
   exact⟨by simp,rfl,λkv _=>by simp[Gh.add]⟩
 .simp at h
theorem aj0{I:Nat->Nat}{ks:List CK}{x y:D}(h:om ks x y=some true){u v:Value}(hu:bT φ I w x u)(hv:bT φ I w y v):Instr.sameBits 10000 v u=true:=by
 simp only[om,og]at h;obtain⟨p,hp,q,hq,hf⟩:=h;have cell:∀{k:CK}{x y:D}{u v:Value}(n:Nat),Cz k x y=some true->bT φ I w x u->bT φ I w y v->Instr.sameBits n v u=true:=by
  intro k x y u v n h1 hu hv;unfold Cz at h1;split at h1<;>simp only[gz,reduceCtorEq,Qj]at h1
  .obtain⟨rfl,h1⟩:=h1
   have hu:=nQ hu;have hv:=nQ hv;subst hu;subst hv;have h1:=dO.1 h1;subst h1;cases n<;>simp[Instr.sameBits]
  .have hu:=wR hu;have hv:=wR hv;subst hu;subst hv
   have h1:=dO.1 h1;subst h1;cases n<;>simp[Instr.sameBits]
  .simp only[bT]at hu hv
   obtain⟨bs,rfl,hb⟩:=hu;obtain⟨cs,rfl,hc⟩:=hv;have h1:=dO.1 h1;subst hb;subst hc;have hb:(cs==bs)=true:=by rw[beq_toListBytes];exact dO.2 h1.symm
   cases n<;>simp only[Instr.sameBits]<;>exact hb
 by_cases hone:∃k,ks=[k]
 .obtain⟨k,rfl⟩:=hone
  obtain⟨rfl,_⟩:=F6 hp;obtain⟨rfl,_⟩:=F6 hq;simp only[jT,og,gI,gz]at hf;obtain⟨b1,h1,b2,rfl,h2⟩:=hf;rw[Qr]at h2;subst h2;exact cell _ h1 hu hv
 .have iT:=F7 (λk hh=>hone ⟨k,hh⟩) hp
  have kE:=F7 (λk hh=>hone ⟨k,hh⟩) hq
  subst iT;subst kE;simp only[bT]at hu hv;obtain⟨A,rfl,ra,_⟩:=hu;obtain⟨B,rfl,rb,_⟩:=hv;have hl:∀{ks:List CK}{p q:List D}{A B:List Value},jT ks p q=some true->cx φ I w p A->cx φ I w q B->A.length=B.length/\((B.zip A).all λx=>Instr.sameBits 9999 x.1 x.2)=true:=by
   intro ks;induction ks with
   |nil =>
    intro p q A B hf ra rb;cases p<;>cases q<;>simp[jT]at hf;cases A<;>cases B<;>simp_all[cx]
   |cons k ks ih =>
    intro p q A B hf ra rb;cases p with
    |nil=>simp[jT]at hf
    |cons x p =>
     cases q with
     |nil=>simp[jT]at hf
     |cons y q =>
      cases A with
      |nil=>simp[cx]at ra
      |cons a A =>
       cases B with
       |nil=>simp[cx]at rb
       |cons b B =>
        simp only[jT,og,gI]at hf;obtain⟨b1,h1,b2,h2,h3⟩:=hf;simp only[bD]at h3;obtain⟨rfl,rfl⟩:=h3;simp only[cx]at ra rb;obtain⟨i1,i2⟩:=ih h2 ra.2 rb.2;exact⟨by simp[i1],by simp only[KI,xK,bD];exact⟨cell 9999 h1 ra.1 rb.1,i2⟩⟩
  obtain⟨h1,h2⟩:=hl hf ra rb;have h1':B.size=A.size:=by simpa using h1.symm
  simp only[Instr.sameBits,h1',KJ,xI];exact h2
theorem aj1{ks:List CK}{k:D}:∀{kv:List (D×V)},Ht ks k kv=match kv.findIdx? (l8 ks k)with |some j=>(kv[j]?).map (·.2) |none=>none
 | []=>rfl
 |p::kv=>by
  simp only[Ht,xJ];split
  .simp
  .rw[aj1 (kv:=kv)]
   cases kv.findIdx? (l8 ks k)<;>simp
theorem U3{ks:List CK}{k:D}{v:V}:∀{kv:List (D×V)},Ev ks k v kv=match kv.findIdx? (l8 ks k)with |some j=>kv.set j (k,v) |none=>kv++[(k,v)]
 | []=>rfl
 |p::kv=>by
  simp only[Ev,xJ];split
  .simp
  .rw[U3 (kv:=kv)]
   cases kv.findIdx? (l8 ks k)<;>simp
theorem aj2{ks:List CK}{k:D}{kv:List (D×V)}{j:Nat}(h:kv.findIdx? (l8 ks k)=some j):j<kv.length/\∃p,kv[j]?=some p/\l8 ks k p=true:=by
 obtain⟨h1,h2,_⟩:=G5.1 h;exact⟨h1,kv[j],by simp[h1],h2⟩
theorem aj3{ks:List CK}{k:D}{p:D×V}(h:l8 ks k p=true):om ks k p.1=some true:=by
 unfold l8 at h;cases hq:om ks k p.1 with
 |none=>simp[hq]at h
 |some b=>simp[hq]at h;rw[h]
theorem aj4(hs:cj φ nt m dB s g a w){n:Nat}{kv kv':List (D×V)}{ES wZ:Array MapEntry}{kZ w7:Nat}{ok:Bool}(hn:aV s.heap n = .mp kv)(hb:w.heap[g.β n]?=some (.map ES kZ))(hI:g.I (g.β n)=0)
  (hnew:∀{h':List O}{w':World},gT s.heap g w h' g w'->vm φ h' g w' kv' wZ.toList):
  ∃w',(setObj (g.β n) (.map wZ w7)).run P w = .ok () w'/\cj φ nt m dB ⟨s.env,s.heap.set n (.mp kv'),ok⟩ g a w'/\Frame m s.heap g w (s.heap.set n (.mp kv')) g w':=by
 have hl:(aV s.heap n).live=true:=by rw[hn];rfl
 have hlt:g.β n<w.heap.size:=hs.heap.block hl;refine⟨_,MapKept.run_setObj_map (P:=P) _ hb,?_⟩;have ht:jY w {w with heap:=w.heap.setIfInBounds (g.β n) (.map wZ w7)} (g.β n):=
  ⟨by simp,λk hk=>by simp[Hi (Ne.symm hk)],rfl,rfl,rfl⟩
 have hE:Ext g.I w g.I {w with heap:=w.heap.setIfInBounds (g.β n) (.map wZ w7)}:=⟨λ_=>gh _,λb i hi=>by
  by_cases cJ:b=g.β n
  .subst cJ;omega
  .exact Ja (ht.same b cJ) i⟩
 have hle:=wJ (x:=.mp kv') hs.heap hl ht hE (λes he=>by simp[O.gN]at he) (λ_ _=>⟨kv,hn⟩)
 have hH:=wK (x:=.mp kv') hs.heap hl ht hle (λ_ _=>rfl) ⟨wZ,w7,by simp[hlt],hnew hle,hI⟩
 exact⟨hs.yA hl ht hle hH,wL (.mp kv') hl ht hE (λ_ _=>rfl) hle⟩
theorem aj5{ks:List CK}{k:D}{kv:List (D×V)}(h:CD ks k kv=true):(om ks k k).isSome=true/\(kv.all λp=>(om ks k p.1).isSome)=true:=by
 simpa[CD]using h
theorem aj6{h:List O}(hH:fj φ h g w){n:Nat}{v:Value}{kv:List (D×V)}(hn:aV h n = .mp kv)(hr:aK φ h g w (.mp n) v):v = .map (some (g.β n))/\∃ES kZ,w.heap[g.β n]?=some (.map ES kZ)/\vm φ h g w kv ES.toList/\g.I (g.β n)=0:=by
 simp only[aK]at hr;have:=hH.obj n;rw[hn]at this;exact⟨hr.2.2 kv hn,this⟩
theorem aj7{h:List O}{k:D}{v:Value}(hr:aK φ h g w (.d k) v):bT φ g.I w k v:=by simpa only[aK]using hr
theorem aj8(hs:cj φ nt m dB s g a w){rec:Rec}{x k v:A}{ks:List CK}(hc:cO P φ nt o (.fI x k v ks)=true)(hok:(aU rec (.fI x k v ks) s).ok=true)
  (hK:eU φ nt m dB s g w (aU rec (.fI x k v ks) s) o a K):o.wp P a w K Q:=by
 simp only[cO,bD,dO]at hc;obtain⟨vp,hc⟩:=hc;have key:∀{t:TypeId}{x' k' v':Operand},(execOp a.eval o).run P w=(do Instr.mapUpdate t (a.eval x') (a.eval k') (a.eval v');pure .skip:Sem Next).run P w ->
   (dW φ x' x&&dW φ k' k&&dW φ v' v&&(match P.underlying t with |some (.map kt _)=>wO P kt ks |_=>false))=true->o.wp P a w K Q:=by
  intro t x' k' v' ho h;simp only[bD]at h;obtain⟨⟨⟨hx,hk⟩,hv⟩,ht⟩:=h;split at ht
  .rename_i kt et F8
   have rx:=fm hs hx;have rk:=fm hs hk;have rv:=fm hs hv;simp only[aU]at hok hK;obtain⟨hh,hst⟩:=aid hok;rw[hst]at hK;unfold K9 at hst;split at hst
   .rename_i n kd fU hkv
    rw[fU]at rx;rw[hkv]at rk;split at hst
    .rename_i kv hn
     split at hst
     .rename_i eo
      obtain⟨U4,hvk⟩:=eo;simp only[gz]at hst;subst hst;obtain⟨Ju,hall⟩:=aj5 U4;obtain⟨ex,ES,kZ,hb,As,hI⟩:=aj6 hs.heap hn rx;have rA:=aj7 rk;have e1:=ajY (P:=P) (w:=w) ht Ju rA false;obtain⟨r,e2,e3⟩:=ajV (P:=P) ht rA As hall;have fin:∀{kv':List (D×V)}{wZ:Array MapEntry}{w7:Nat},Ev ks kd (s.get v) kv=kv'->(Instr.mapUpdate t (a.eval x') (a.eval k') (a.eval v')).run P w=(setObj (g.β n) (.map wZ w7)).run P w ->
        (∀{h':List O}{w':World},gT s.heap g w h' g w'->vm φ h' g w' kv' wZ.toList)->o.wp P a w K Q:=by
       intro kv' wZ w7 aj9 hrun hnew;obtain⟨w',h1,h2,h3⟩:=aj4 (P:=P) hs (ok:=s.ok) (w7:=w7) hn hb hI hnew;refine Z8 (w':=w') (by rw[ho];simp[hrun,h1]) ?_
       have:=hK g undef w';rw[vp]at this⊢;subst aj9;exact this h2 h3
      cases hf:kv.findIdx? (l8 ks kd)with
      |none =>
       rw[hf]at e3;subst e3;refine fin (kv':=kv++[(kd,s.get v)]) (wZ:=ES.push {key:=a.eval k',val:=a.eval v',born:=kZ}) (w7:=kZ+1) (by rw[U3,hf]) ?_ λhle=>?_
       .simp[Instr.mapUpdate,run_underlying F8,ex,MapKept.run_getObj_map hb,e1,e2]
       .have hm:=Ud hle As
        refine⟨by simpa using hm.1,λi p e hp he=>?_⟩
        rw[Array.toList_push]at he;have hlen:=hm.1;rcases tr i kv.length with hi |hi |hi
        .rw[th hi]at hp
         rw[th (by omega)]at he
         exact hm.2 i p e hp he
        .subst hi
         rw[AP (gh _)]at hp;rw[AP (by omega)]at he
         rw[hlen]at he;simp at hp he;subst hp;subst he;exact⟨yw hle.ext rA,lU hle rv⟩
        .rw[oc (by simp;omega)]at hp
         simp at hp
      |some j =>
       rw[hf]at e3;obtain⟨e,he,rfl⟩:=e3;obtain⟨hj,p,hp,hpk⟩:=aj2 hf;have Jv:=aj0 (w:=w) (aj3 hpk) rA (As.2 j p e hp he).1;have he':ES[j]?=some e:=by simpa using he
       refine fin (kv':=kv.set j (kd,s.get v)) (wZ:=ES.modify j λe=>{e with key:=a.eval k',val:=a.eval v'}) (w7:=kZ) (by rw[U3,hf]) ?_ λhle=>?_
       .simp[Instr.mapUpdate,run_underlying F8,ex,MapKept.run_getObj_map hb,e1,e2,he',Instr.keyThatStays,Jv]
       .have hm:=Ud hle As
        refine⟨by simpa using hm.1,λi p' e' iT he'=>?_⟩
        rw[Array.toList_modify,List.getElem?_modify]at he';rw[KK]at iT;split at iT
        .rename_i hij
         subst hij;simp[he]at he';simp only[hj,dH,gz]at iT;subst iT;subst he';exact⟨yw hle.ext rA,lU hle rv⟩
        .rename_i hij
         simp[hij]at he';exact hm.2 i p' e' iT (by simpa using he')
     .simp at hst
    .simp at hst
   .simp at hst
  .simp at ht
 split at hc
 .rename_i t x' k' v' ho
  exact key (by simp[execOp,ho]) hc
 .rename_i t x' k' v' ho
  exact key (by simp[execOp,ho]) hc
 .simp at hc
theorem aka(hs:cj φ nt m dB s g a w){rec:Rec}{d:Nat}{x k:A}{z:D}{c:Bool}{ks:List CK}(hc:cO P φ nt o (.pY d x k z c ks)=true)(hok:(aU rec (.pY d x k z c ks) s).ok=true)
  (hK:eU φ nt m dB s g w (aU rec (.pY d x k z c ks) s) o a K):o.wp P a w K Q:=by
 simp only[cO,bD]at hc;obtain⟨hd,hc⟩:=hc;split at hc
 .rename_i t x' k' c' ho
  simp only[bD,dO]at hc;obtain⟨⟨⟨hx,hk⟩,rfl⟩,ht⟩:=hc;split at ht
  .rename_i kt et F8
   simp only[bD]at ht;obtain⟨ht,hz⟩:=ht;split at hz
   .rename_i info Jf
    split at hz
    .rename_i zv UY
     have rx:=fm hs hx;have rk:=fm hs hk;simp only[aU]at hok hK;refine nk hs hd hok (λv hv=>?_) hK
     have hzero:(zeroValue et).run P w = .ok zv w:=by simp[zeroValue,typeInfo,Jf,UY]
     have fin:∀{kd:D}{kv:List (D×V)}{ES:List MapEntry}{es:Array MapEntry},s.get k = .d kd->es.toList=ES->vm φ s.heap g w kv ES->Hu ks kd z c' kv=some v ->
       (a.eval x' = .map none/\es=#[]\/∃n kZ,a.eval x' = .map (some n)/\w.heap[n]?=some (.map es kZ)) ->
       ∃v',(execOp a.eval o).run P w = .ok (.value v') w/\aK φ s.heap g w v v':=by
      intro kd kv ES es rA jN As hl hrun;rw[rA]at rk;have rA:=aj7 rk;unfold Hu at hl;split at hl
      .rename_i U4
       obtain⟨Ju,hall⟩:=aj5 U4;have e1:=ajY (P:=P) (w:=w) ht Ju rA es.isEmpty;obtain⟨r,e2,e3⟩:=ajV (P:=P) ht rA As hall;rw[aj1]at hl;cases hf:kv.findIdx? (l8 ks kd)with
       |none =>
        rw[hf]at e3 hl;subst e3;simp only[gz]at hl;subst hl;refine⟨if c' then .tuple #[zv,.bool false]else zv,?_,?_⟩
        .rcases hrun with⟨ex,rfl⟩ |⟨n,kZ,ex,hb⟩
         .simp at jN
          subst jN;simp at e1 e2;simp[execOp,ho,Instr.lookup,ex,run_underlying F8,e1,e2,hzero]
         .simp[execOp,ho,Instr.lookup,ex,run_underlying F8,MapKept.run_getObj_map hb,e1,jN,e2,hzero]
        .have:=ahi (w:=w) (I:=g.I) hz
         cases c' with
         |true=>simp only[dH,aK];exact⟨_,rfl,by simp[bU,aK,bT,this]⟩
         |false=>simp only[fG,dK,aK];exact this
       |some j =>
        rw[hf]at e3 hl;obtain⟨e,he,rfl⟩:=e3;obtain⟨hj,p,hp,hpk⟩:=aj2 hf;simp only[hp,tA,gz]at hl;subst hl;have BT:=(As.2 j p e hp he).2;refine⟨if c' then .tuple #[e.val,.bool true]else e.val,?_,?_⟩
        .rcases hrun with⟨ex,rfl⟩ |⟨n,kZ,ex,hb⟩
         .simp at jN
          subst jN;simp at he
         .simp[execOp,ho,Instr.lookup,ex,run_underlying F8,MapKept.run_getObj_map hb,e1,jN,e2]
        .cases c' with
         |true=>simp only[dH,aK];exact⟨_,rfl,by simp[bU,aK,bT,BT]⟩
         |false=>simpa only[fG,dK]using BT
      .simp at hl
     unfold K8 at hv;split at hv
     .rename_i kd rA
      split at hv
      .rename_i n fU
       rw[fU]at rx;split at hv
       .rename_i kv hn
        obtain⟨ex,ES,kZ,hb,As,hI⟩:=aj6 hs.heap hn rx;exact fin (es:=ES) rA rfl As hv (.inr ⟨_,_,ex,hb⟩)
       .simp at hv
      .rename_i fU
       rw[fU]at rx;have ex:a.eval x' = .map none:=by simpa[aK,bT]using rx
       exact fin (es:=#[]) (kv:=[]) rA rfl ⟨rfl,λi p e hp=>by simp at hp⟩ hv (.inl ⟨ex,rfl⟩)
      .simp at hv
     .simp at hv
    .simp at hz
   .simp at hz
  .simp at ht
 .simp at hc
end
end Go.VS
namespace Go.VS
section
variable {P:Program}{φ:fD}
variable {nt m dB:Nat}{s:St}{g:Gh}{a:Act}{w:World}{K:Act->World->Prop}{Q:Exit->Act->World->Prop}{o:Oper}
theorem akb{V':Value}{x:V}{n:Int}{h:List O}(hv:asInt x=some n)(hr:aK φ h g w x V'):∃k,V' = .int k n:=by
 cases x with
 |d z =>
  cases z with
  |i q k=>simp[asInt]at hv;subst hv;exact⟨q,nQ (by simpa only[aK]using hr)⟩
  |_=>simp[asInt]at hv
 |_=>simp[asInt]at hv
theorem akc(hs:cj φ nt m dB s g a w){rec:Rec}{d es:Nat}{n k:A}{z:List D}(hc:cO P φ nt o (.vS d es z n k)=true)(hok:(aU rec (.vS d es z n k) s).ok=true)
  (hK:eU φ nt m dB s g w (aU rec (.vS d es z n k) s) o a K):o.wp P a w K Q:=by
 simp only[cO,bD]at hc;obtain⟨hd,h⟩:=hc;split at h
 .rename_i t n' k' ho
  simp only[bD,gf]at h;obtain⟨⟨⟨hn,hk⟩,hpos⟩,ht⟩:=h;split at ht
  .rename_i e hu
   simp only[bD]at ht;obtain⟨UZ,ht⟩:=ht;obtain⟨i,zv,hi,hz,su,sX,hzs⟩:=DA (g:=g) (w:=w) UZ;rw[hi]at ht;simp only[bD,dO,gf]at ht;obtain⟨hsz,hby⟩:=ht;subst hsz;have rn:=fm hs hn;have rk:=fm hs hk;simp only[aU]at hok hK;obtain⟨v,hh,hv⟩:=BJ hok;rw[hv]at hK;simp only[St.gi]at hK;unfold KY at hv;split at hv
   .rename_i nn kk U5 hkv
    split at hv
    .rename_i eo
     obtain⟨h0,hnk,hfit,hzl⟩:=eo;simp only[gz,uC]at hv;obtain⟨rfl,rfl⟩:=hv;obtain⟨kn,en⟩:=akb U5 rn;obtain⟨kq,ek⟩:=akb hkv rk;have Jt:zv.cells.size=i.size:=by
      have:=sW su;rw[hzl]at this;simpa using this.symm
     have akd:kk.toNat<=16777216:=mE (Nat.le_mul_of_pos_right _ hpos) hfit;have hbm:(i.bytes:Int)*kk<=281474976710656:=by
      have h1:i.bytes*kk.toNat<=16777216*16777216:=KF hby akd;have h2:(kk.toNat:Int)=kk:=by omega
      rw[<-h2];have h3:((i.bytes*kk.toNat:Nat):Int)<=((16777216*16777216:Nat):Int):=Int.ofNat_le.2 h1;rw[Int.natCast_mul]at h3;exact h3
     have hrun:=run_makeSlice (P:=P) w t e i zv hu hi hz kn kq nn kk h0 hnk hfit hbm (by omega)
     obtain⟨z1,z2,z3⟩:=Ox su sX (by rw[hzl];exact hpos) nn.toNat
     obtain⟨y1,y2,y3⟩:=Ox su sX (by rw[hzl];exact hpos) (kk.toNat - nn.toNat)
     have ake:madeCells zv.cells (kk.toNat*i.size)=((Builtin.zeroCells zv.cells nn.toNat).toList++(Builtin.zeroCells zv.cells (kk.toNat - nn.toNat)).toList).toArray:=by
      have e1:∀q:Nat,(Builtin.zeroCells zv.cells q).toList=(List.replicate q zv.cells.toList).flatten:=by
       intro q;unfold Builtin.zeroCells;rw[show q*zv.cells.size=q*i.size by rw[Jt]]
       exact Jg q i.size zv.cells Jt hpos
      apply Qn;rw[e1,e1];show(madeCells zv.cells (kk.toNat*i.size)).toList=_
      unfold madeCells;rw[Jg kk.toNat i.size zv.cells Jt hpos,<-List.flatten_append,List.replicate_append_replicate]
      have:nn.toNat+(kk.toNat - nn.toNat)=kk.toNat:=by omega
      rw[this]
     rw[ake]at hrun;have jO:(List.replicate nn.toNat z).length=nn.toNat:=by simp
     have:=aiy (P:=P) (K:=K) (Q:=Q) (o:=o) (a:=a) hs hd (es:=i.size) (ex:=true) (ys:=List.replicate nn.toNat z) (C:=(Builtin.zeroCells zv.cells nn.toNat).toList) (ok:=s.ok) (gO.refl w) rfl
      (rest:=(Builtin.zeroCells zv.cells (kk.toNat - nn.toNat)).toList) (T:=e) (cap:=kk.toNat)
      (by rw[jO];simp only[execOp,ho,en,ek];simp[hrun]) (λr hr=>by rw[Ho]at hr;rw[hr.2,hzl]) z1 z2 (by rw[jO];omega) ?_ y2
     .refine this λg' v' w' k1 k2=>?_
      rw[jO]at k1;exact hK g' v' w' k1 k2
     .rw[z3,y3,hzl,<-Nat.add_mul]
      exact l7 _ (by omega)
    .simp at hv
   .simp at hv
  .simp at ht
 .simp at h
theorem akf(hs:cj φ nt m dB s g a w){rec:Rec}{d len es:Nat}{x i:A}(hc:cO P φ nt o (.oP d x i len es)=true)(hok:(aU rec (.oP d x i len es) s).ok=true)
  (hK:eU φ nt m dB s g w (aU rec (.oP d x i len es) s) o a K):o.wp P a w K Q:=by
 simp only[cO,bD]at hc;obtain⟨hd,h⟩:=hc;split at h
 .rename_i t y k ho
  simp only[bD]at h;obtain⟨⟨hx,hi⟩,ht⟩:=h;have rx:=fm hs hx;have ri:=fm hs hi;refine nk hs hd hok (λv hv=>?_) hK
  split at ht
  .rename_i n e hu
   simp only[bD,gf,dO]at ht;obtain⟨⟨⟨rfl,h1⟩,hsz⟩,hpos⟩:=ht;have hsz':=wS (P:=P) (w:=w) hsz;have run:∀{b o':Nat}{q:IntKind}{j:Int},a.eval y = .pointer (some ⟨b,o',none⟩)->a.eval k = .int q j->0<=j->j<n->(execOp a.eval o).run P w = .ok (.value (.pointer (some ⟨b,o'+j.toNat*es,none⟩))) w:=by
    intro b o' q j he hk h0 hj;simp[execOp,ho,he,hk,Instr.indexAt,underlying,hu,Instr.sureAddr,asIntOf,h0,hj,hsz',rj]
   unfold oP at hv;split at hv
   .rename_i cs kk j hp hq
    rw[hp]at rx;rw[hq]at ri;have ei:=nQ (by simpa only[aK]using ri)
    simp only[aK,bT]at rx;obtain⟨b,o',he,hI,hcs⟩:=rx;split at hv
    .rename_i eo
     obtain⟨h0,hj,hle⟩:=eo;simp only[gz]at hv;subst hv;refine⟨_,run he ei h0 hj,?_⟩;simp only[aK,bT];refine⟨b,o'+j.toNat*es,rfl,?_,ahJ hcs _⟩
     have:j.toNat*es<=n*es:=l7 _ (by omega)
     simp;omega
    .simp at hv
   .rename_i q r c kk j hp hq
    rw[hp]at rx;rw[hq]at ri;have ei:=nQ (by simpa only[aK]using ri)
    simp only[aK]at rx;split at hv
    .rename_i eo
     obtain⟨h0,hj,ha⟩:=eo;simp only[gz]at hv;subst hv;obtain⟨es',jN⟩:=FL ha;refine⟨_,run (rx.2.2 es' jN) ei h0 hj,?_⟩;simp only[aK];refine⟨rx.1,rfl,λakg he'=>?_⟩
     rw[jN]at he';simp at he';subst he';simp[qF]
    .simp at hv
   .simp at hv
  .simp at ht
 .simp at h
end
end Go.VS
namespace Go.VS
section
variable {P:Program}{φ:fD}
variable {nt m dB:Nat}{s:St}{g:Gh}{a:Act}{w:World}{K:Act->World->Prop}{Q:Exit->Act->World->Prop}{o:Oper}
theorem akh{b:Nat}{cs:Array Value}{T:TypeId}{fr:Nat×Nat}(hb:w.heap[b]?=some (.cells cs T fr)):w.setRow b cs=w:=by
 have h:(w.setRow b cs).heap=w.heap:=by
  apply Array.ext_getElem?;intro k;by_cases hk:k=b
  .subst hk;rw[setRow_heap w k cs cs T fr hb,hb]
  .exact setRow_other w b k cs hk
 unfold World.setRow at h⊢;cases w;simp only at h;rw[h]
theorem aki{α:Type}(cs:List α)(k:Nat):av cs k []=cs:=by simp[av]
theorem akj(hs:cj φ nt m dB s g a w){rec:Rec}{d es:Nat}{x:A}{lo hi:Option A}(hc:cO P φ nt o (.sle d x lo hi es)=true)(hok:(aU rec (.sle d x lo hi es) s).ok=true)
  (hK:eU φ nt m dB s g w (aU rec (.sle d x lo hi es) s) o a K):o.wp P a w K Q:=by
 simp only[cO,bD]at hc;obtain⟨hd,h⟩:=hc;split at h
 .rename_i t y lo' hi' ho
  simp only[bD]at h;obtain⟨⟨⟨hx,hlo⟩,hhi⟩,ht⟩:=h;split at ht
  .rename_i e hu
   have rx:=fm hs hx;simp only[aU]at hok hK;obtain⟨v,h',hv⟩:=BJ hok;rw[hv]at hK;simp only[St.gi]at hK;unfold K2 at hv;split at hv
   .rename_i l hh hl Jj
    have bl:=Ol hs hlo hl;have bh:=Ol hs hhi Jj;have fin:∀{ad:Option Addr}{len cap:Nat},a.eval y = .slice ad len cap->AY (s.get x)=len->0<=l->l<=hh->hh<=cap ->
      (execOp a.eval o).run P w = .ok (.value (.slice (if cap=l.toNat then ad else ad.map (·.add (l.toNat*es))) (hh.toNat - l.toNat) (cap - l.toNat))) w:=by
     intro ad len cap he hlen h0 h1 h2;rw[hlen]at bh;have:=air (P:=P) (w:=w) hu ht bl bh (ad:=ad) (len:=len) (cap:=cap) h0 h1 h2;simp[execOp,ho,he,this]
    split at hv
    .rename_i n off len hp
     rw[hp]at rx fin;simp only[aK]at rx;split at hv
     .rename_i e' ex rows hn
      split at hv
      .rename_i eo
       obtain⟨rfl,h0,h1,h2⟩:=eo;obtain⟨cap,he,hlc,hm,CS,T,hb,hsz⟩:=rx.2.2 e' (by rw[hn];rfl)
       rw[hn]at hm;simp only[O.len]at hm;have hrun:=fin he rfl h0 h1 (by omega)
       split at hv
       .rename_i jO
        simp at hv;obtain⟨rfl,rfl⟩:=hv;refine vo hs hd hrun ?_ hK;simp only[aK];refine⟨rx.1,rfl,λes' he'=>?_⟩
        rw[hn]at he';simp[O.gN]at he';subst he';have hlen:(hh - l).toNat=hh.toNat - l.toNat:=by omega
        rw[hlen];refine⟨cap - l.toNat,?_,by omega,by rw[hn];simp only[O.len];omega,CS,T,hb,?_⟩
        .have eo:(if cap=l.toNat then(some ⟨g.β n,g.o n+off*e',none⟩:Option Addr)else(some ⟨g.β n,g.o n+off*e',none⟩:Option Addr).map (·.add (l.toNat*e')))=some ⟨g.β n,g.o n+(off+l.toNat)*e',none⟩:=by
          split
          .rename_i bR
           have:l.toNat=0:=by omega
           rw[this];simp
          .simp only[tA,rj]
           rw[nD,<-Nat.add_assoc]
         rw[eo]
        .have:off+l.toNat+(cap - l.toNat)=off+cap:=by omega
         rw[this];exact hsz
       .rename_i jO
        split at hv
        .rename_i hex
         subst hex;simp at hv;obtain⟨rfl,rfl⟩:=hv;have dF:=hs.heap.obj n;rw[hn]at dF;obtain⟨⟨sk,T',hb',pK⟩,dZ,hI⟩:=dF;rw[hb]at hb';simp at hb';obtain⟨rfl,rfl⟩:=hb';have hz:hh.toNat - l.toNat=0:=by omega
         rw[hz]at hrun;have hlr:l.toNat<=cap:=by omega
         have nil:∀k:Nat,(rows.drop k).take 0++([]:List (List D))=[]:=by simp
         by_cases bR:cap=l.toNat
         .rw[aN bR,bR,Nat.sub_self]at hrun
          refine UI (off:=off) (len:=0) (cap:=0) (ex:=true) (ys:=[]) (news:=[]) hs hd hn hb (mE (Nat.add_le_add_left (l7 _ (by omega)) _) hsz.1) hsz.2 pK (by omega) dZ hI (by simp[cx]) (by simp) (by simp) (by simp) (gh _) (.inl rfl) (λ_=>?_) ?_
          .rw[aki]
           simp only[XE,akh hb];exact hrun
          .rw[nil];exact hK
         .rw[aG bR]at hrun
          simp only[tA,rj]at hrun;rw[show g.o n+off*e'+l.toNat*e'=g.o n+(off+l.toNat)*e' by rw[nD];omega]at hrun
          refine UI (off:=off+l.toNat) (len:=0) (cap:=cap - l.toNat) (ex:=true) (ys:=[]) (news:=[]) hs hd hn hb (by rw[show off+l.toNat+(cap - l.toNat)=off+cap by omega];exact hsz.1) hsz.2 pK (by omega) dZ hI (by simp[cx]) (by simp) (by simp) (by simp) (Cq _) (.inl rfl) (λ_=>?_) ?_
          .rw[aki]
           simp only[XE,akh hb];exact hrun
          .rw[nil];exact hK
        .simp at hv
      .simp at hv
     .simp at hv
    .simp at hv
   .simp at hv
  .simp at ht
 .simp at h
end
end Go.VS
