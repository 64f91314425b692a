import Derived.Test.YtjpdopldkeodgaaGreatV01
import Derived.Laws.AppendOwn
set_option linter.all false
set_option maxHeartbeats 1000000
namespace Go.VS
section
variable {P:Program}{φ:fy}
variable {nt m dB:Nat}{s:St}{g:Gh}{a:Act}{w:World}{K:Act->World->Prop}{Q:Exit->Act->World->Prop}{o:Oper}
def FE(x:Option Value)(dflt n:Int):Prop :=
 match x with
 |none=>n=dflt
 |some v=>∃k,v = .int k n
def ND(cap len:Nat):Option Value->Sem Nat
 |some v=>Instr.sliceBound v cap .sliceAcap
 |none=>pure len
def NF(h:Nat):Option Value->Sem Nat
 |some v=>Instr.sliceBound v h .sliceB
 |none=>pure 0
theorem ah6(cap len:Nat)(lo hi:Option Value):Instr.sliceBounds true len cap lo hi none=(do
  let hv <-ND cap len hi
  let lv <-NF hv lo
  pure (lv,hv,cap)):=by
 cases lo<;>cases hi<;>rfl
theorem Zl{t e:TypeId}{es:Nat}(ht:P.underlying t=some (.slice e))(jH:jw P e es=true){ad:Option Addr}{len cap:Nat}{lo hi:Option Value}{l h:Int}
  (hl:FE lo 0 l)(hh:FE hi len h)(h0:0<=l)(h1:l<=h)(h2:h<=cap):
  (Instr.sliceAt t (.slice ad len cap) lo hi none).run P w = .ok (.slice (if cap=l.toNat then ad else ad.map (·.add (l.toNat*es))) (h.toNat - l.toNat) (cap - l.toNat)) w:=by
 have hsz:=wJ (P:=P) (w:=w) jH;have zG:0<=h:=by omega
 have eh:(ND cap len hi).run P w = .ok h.toNat w:=by
  cases hi with
  |none=>simp only[FE]at hh;subst hh;simp[ND]
  |some v =>
   obtain⟨k,rfl⟩:=hh;simp[ND,Instr.sliceBound,asIntOf,zG,h2]
 have el:(NF h.toNat lo).run P w = .ok l.toNat w:=by
  cases lo with
  |none=>simp only[FE]at hl;subst hl;simp[NF]
  |some v =>
   obtain⟨k,rfl⟩:=hl
   have:¬max h 0<l:=by omega
   simp[NF,Instr.sliceBound,asIntOf,h0,this]
 have eb:(Instr.sliceBounds true len cap lo hi none).run P w = .ok (l.toNat,h.toNat,cap) w:=by
  rw[ah6];simp only[Sem.run_bind,eh,Result.andThen_ok,el,Sem.run_pure]
 simp[Instr.sliceAt,Instr.slice,underlying,ht,eb,hsz]
theorem NG(hs:cm φ nt m dB s g a w){x:Option Operand}{y:Option A}(hc:Nr φ x y=true){dflt n:Int}(hn:uf s dflt y=some n):FE (x.map a.eval) dflt n:=by
 unfold Nr at hc;split at hc
 .simp[uf]at hn;simp[FE,hn]
 .rename_i ox ay
  have hr:=eY hs hc;simp only[uf]at hn;cases hv:s.get ay with
  |d z =>
   rw[hv]at hn hr;cases z with
   |i k z=>simp[asInt]at hn;subst hn;exact⟨k,nD (by simpa only[aJ]using hr)⟩
   |_=>simp[asInt]at hn
  |_=>rw[hv]at hn;simp[asInt]at hn
 .simp at hc
theorem ah7{α:Type}{xs:List α}{l h r:Nat}{y:α}(hy:((xs.take h).drop l)[r]?=some y):xs[l+r]?=some y:=by
 rw[pz,yM]at hy;split at hy
 .exact hy
 .simp at hy
theorem ah8(hs:cm φ nt m dB s g a w){rec:Rec}{d es:Nat}{x:A}{lo hi:Option A}(hc:cN P φ nt o (.sl d x lo hi es)=true)(hok:(aR rec (.sl d x lo hi es) s).ok=true)
  (hK:eG φ nt m dB s g w (aR rec (.sl d x lo hi es) s) o a K):o.wp P a w K Q:=by
 simp only[cN,bE]at hc;obtain⟨hd,h⟩:=hc;split at h
 .rename_i t y lo' hi' ho
  simp only[bE]at h;obtain⟨⟨⟨hx,hlo⟩,hhi⟩,ht⟩:=h;split at ht
  .rename_i e hu
   have rx:=eY hs hx;refine mX hs hd hok (λv hv=>?_) hK
   unfold Kq at hv;split at hv
   .rename_i l hh hl II
    have bl:=NG hs hlo hl;have bh:=NG hs hhi II;have fin:∀{ad:Option Addr}{len cap:Nat},a.eval y = .slice ad len cap->AA (s.get x)=len->0<=l->l<=hh->hh<=cap ->
      (execOp a.eval o).run P w = .ok (.value (.slice (if cap=l.toNat then ad else ad.map (·.add (l.toNat*es))) (hh.toNat - l.toNat) (cap - l.toNat))) w:=by
     intro ad len cap he hlen h0 h1 h2;rw[hlen]at bh;have:=Zl (P:=P) (w:=w) hu ht bl bh (ad:=ad) (len:=len) (cap:=cap) h0 h1 h2;simp[execOp,ho,he,this]
    split at hv
    .rename_i e' nl xs hp
     rw[hp]at rx fin;simp only[aJ,bQ]at rx;obtain⟨ad,cap,he,hlc,oa,Dl⟩:=rx;split at hv
     .rename_i dX
      obtain⟨rfl,h0,h1,h2⟩:=dX;simp at hv;subst hv;refine⟨_,fin he rfl h0 h1 (by omega),?_⟩
      simp only[aJ,bQ];have hlen:((xs.take hh.toNat).drop l.toNat).length=hh.toNat - l.toNat:=by simp;omega
      rw[hlen];refine⟨_,_,rfl,by omega,λhn=>?_,λhn=>?_⟩
      .obtain⟨rfl,rfl⟩:=oa hn
       simp
      .obtain⟨FF,rfl,hx'⟩:=Dl hn
       by_cases bN:cap=l.toNat
       .rw[aK bN]
        refine⟨FF,rfl,λhne=>?_⟩
        exfalso;apply hne;apply vC;rw[hlen];omega
       .rw[aE bN]
        refine⟨_,rfl,λhne=>?_⟩
        have hxs:xs≠[]:=by
         rintro rfl;simp at hne
        obtain⟨hsp,hI,dV⟩:=hx' hxs;obtain⟨b,off,sp⟩:=FF;simp only at hsp hI dV;subst hsp;simp only[qA];refine⟨trivial,?_,uT λr row hrow=>?_⟩
        .have h3:(hh.toNat - l.toNat)+l.toNat<=xs.length:=by omega
         have h4:e'*((hh.toNat - l.toNat)+l.toNat)<=e'*xs.length:=Px _ h3;rw[GO,ji e' l.toNat]at h4;omega
        .obtain⟨q1,q2⟩:=n7 dV (ah7 hrow)
         refine⟨q1,?_⟩;rw[nh,<-Nat.add_assoc]at q2;exact q2
     .simp at hv
    .rename_i n off len hp
     rw[hp]at rx fin;simp only[aJ]at rx;split at hv
     .rename_i e' ex rows hn
      split at hv
      .rename_i dX
       obtain⟨rfl,h0,h1,h2⟩:=dX;obtain⟨cap,he,hlc,hm,CS,T,hb,hsz⟩:=rx.2.2 e' (by rw[hn];rfl)
       rw[hn]at hm;simp only[O.len]at hm;have hrun:=fin he rfl h0 h1 (by omega)
       refine⟨_,hrun,?_⟩;split at hv
       .rename_i jI
        simp at hv;subst hv;simp only[aJ];refine⟨rx.1,rfl,λes' he'=>?_⟩
        rw[hn]at he';simp[O.gL]at he';subst he';have hlen:(hh - l).toNat=hh.toNat - l.toNat:=by omega
        rw[hlen];refine⟨cap - l.toNat,?_,by omega,by rw[hn];simp only[O.len];omega,CS,T,hb,?_⟩
        .have dX:(if cap=l.toNat then(some ⟨g.β n,g.o n+off*e',none⟩:Option Addr)else(some ⟨g.β n,g.o n+off*e',none⟩:Option Addr).map (·.add (l.toNat*e')))=some ⟨g.β n,g.o n+(off+l.toNat)*e',none⟩:=by
          split
          .rename_i bN
           have:l.toNat=0:=by omega
           rw[this];simp
          .simp only[sU,qA]
           rw[nh,<-Nat.add_assoc]
         rw[dX]
        .have:off+l.toNat+(cap - l.toNat)=off+cap:=by omega
         rw[this];exact hsz
       .rename_i jI
        simp at hv;subst hv;simp only[aJ,bQ];have hz:hh.toNat - l.toNat=0:=by omega
        rw[hz];refine⟨_,_,rfl,by simp,by simp,λ_=>?_⟩
        split
        .exact⟨_,rfl,by simp⟩
        .exact⟨_,rfl,by simp⟩
      .simp at hv
     .simp at hv
    .rename_i n off len hp
     rw[hp]at rx fin;simp only[aJ]at rx;split at hv
     .rename_i e' ex rows hn
      split at hv
      .rename_i dX
       obtain⟨rfl,h0,h1,h2⟩:=dX;obtain⟨cap,he,hlc,hm,CS,T,hb,hsz⟩:=rx.2.2 e' (by rw[hn];rfl)
       rw[hn]at hm;simp only[O.len]at hm;have hrun:=fin he rfl h0 h1 (by omega)
       refine⟨_,hrun,?_⟩;split at hv
       .rename_i jI
        simp at hv;subst hv;simp only[aJ];refine⟨rx.1,rfl,λes' he'=>?_⟩
        rw[hn]at he';simp[O.gL]at he';subst he';have hlen:(hh - l).toNat=hh.toNat - l.toNat:=by omega
        rw[hlen];refine⟨cap - l.toNat,?_,by omega,by rw[hn];simp only[O.len];omega,CS,T,hb,?_⟩
        .have dX:(if cap=l.toNat then(some ⟨g.β n,g.o n+off*e',none⟩:Option Addr)else(some ⟨g.β n,g.o n+off*e',none⟩:Option Addr).map (·.add (l.toNat*e')))=some ⟨g.β n,g.o n+(off+l.toNat)*e',none⟩:=by
          split
          .rename_i bN
           have:l.toNat=0:=by omega
           rw[this];simp
          .simp only[sU,qA]
           rw[nh,<-Nat.add_assoc]
         rw[dX]
        .have:off+l.toNat+(cap - l.toNat)=off+cap:=by omega
         rw[this];exact hsz
       .rename_i jI
        simp at hv;subst hv;simp only[aJ,bQ];have hz:hh.toNat - l.toNat=0:=by omega
        rw[hz];refine⟨_,_,rfl,by simp,by simp,λ_=>?_⟩
        split
        .exact⟨_,rfl,by simp⟩
        .exact⟨_,rfl,by simp⟩
      .simp at hv
     .simp at hv
    .rename_i e' hp
     rw[hp]at rx fin;simp only[aJ]at rx;obtain⟨ad,he⟩:=rx;split at hv
     .rename_i dX
      obtain⟨rfl,rfl,rfl⟩:=dX;simp at hv;subst hv;have hrun:=fin he (by simp[AA]) (by omega) (by omega) (by omega)
      exact⟨_,hrun,by simp only[aJ];exact⟨ad,by simp⟩⟩
     .simp at hv
    .simp at hv
   .simp at hv
  .simp at ht
 .simp at h
end
end Go.VS
namespace Go.VS
section
variable {P:Program}{φ:fy}
variable {nt m dB:Nat}{s:St}{g:Gh}{a:Act}{w:World}{K:Act->World->Prop}{Q:Exit->Act->World->Prop}{o:Oper}
end
end Go.VS
namespace Go.VS
section
variable {P:Program}{φ:fy}
variable {nt m dB:Nat}{s:St}{g:Gh}{a:Act}{w:World}{K:Act->World->Prop}{Q:Exit->Act->World->Prop}{o:Oper}
theorem zH{I:Nat->Nat}{b es:Nat}:∀{off:Nat}{xs:List (List D)},jG φ I w b es off xs->∃vs:List Value,cy φ I w xs.flatten vs/\(∀v∈vs,v.oneCell'=true)/\vs.length=es*xs.length /\
  ∀(j:Nat)(v:Value),vs[j]?=some v->w.cell? ⟨b,off+j,none⟩=some v
 |off,[],_=>⟨[],by simp[cy],by simp,by simp,by simp⟩
 |off,x::xs,hr=>by
  simp only[jG]at hr;obtain⟨hl,hc,hr⟩:=hr;obtain⟨us,h1,h2,h3⟩:=It hc;obtain⟨vs,k1,k2,k3,k4⟩:=zH hr;have TI:=sF h1;refine⟨us++vs,by rw[yN];exact zy h1 k1,λv hv=>(dc.1 hv).elim (h3 v) (k2 v),by rw[lT,k3,<-TI,hl,gX,Pt];omega,λj v hj=>?_⟩
  by_cases hlt:j<us.length
  .rw[sP hlt]at hj
   exact h2 j v hj
  .rw[At (by omega)]at hj
   have:=k4 (j - us.length) v hj;have he:off+es+(j - us.length)=off+j:=by omega
   rwa [he]at this
theorem TL{I:Nat->Nat}{b es:Nat}:∀{off:Nat}{xs:List (List D)}{vs:List Value},(∀r∈xs,r.length=es)->cy φ I w xs.flatten vs->(∀v∈vs,v.oneCell'=true) ->
  (∀(j:Nat)(v:Value),vs[j]?=some v->w.cell? ⟨b,off+j,none⟩=some v)->jG φ I w b es off xs:=by
 intro off xs vs hl hr h1 hc;refine uT λr row hrow=>⟨hl row (kY hrow),wj λj c hj=>?_⟩
 obtain⟨v,hv,hd⟩:=Bh hr (Fx hl hrow hj);exact⟨v,by rw[p8];exact hc _ v hv,h1 v (kY hv),hd⟩
theorem Dm{I:Nat->Nat}{b es o off len:Nat}{rows:List (List D)}(hr:jG φ I w b es o rows)(hle:off+len<=rows.length):jG φ I w b es (o+off*es) ((rows.drop off).take len):=by
 refine uT λr row hrow=>?_
 have hlt:r<len:=by
  rcases k9 r len with h |h
  .exact h
  .simp[yM,Nat.not_lt.2 h]at hrow
 rw[List.getElem?_take_of_lt hlt,pz]at hrow;obtain⟨h1,h2⟩:=n7 hr hrow;refine⟨h1,?_⟩
 have:o+off*es+r*es=o+(off+r)*es:=by rw[nh];omega
 rw[this];exact h2
theorem Zm{h:List O}{es:Nat}{y:V}{v:Value}{ys:List (List D)}(hH:eX φ h g w)(hr:aJ φ h g w y v)(hy:Az h es y=some ys):
  ∃(xa:Option Addr)(xc:Nat)(news:List Value),v = .slice xa ys.length xc/\(∀r∈ys,r.length=es)/\cy φ g.I w ys.flatten news/\(∀u∈news,u.oneCell'=true)/\news.length=es*ys.length /\
   (ys≠[]->∃b off,xa=some ⟨b,off,none⟩/\∀(j:Nat)(u:Value),news[j]?=some u->w.cell? ⟨b,off+j,none⟩=some u):=by
 have lens:∀{b off:Nat}{xs:List (List D)},jG φ g.I w b es off xs->∀r∈xs,r.length=es:=by
  intro b off xs dV r hmem;obtain⟨j,hj,he⟩:=sR hmem;exact(n7 dV (r:=j) (row:=r) (by simp[hj,he])).1
 unfold Az at hy;split at hy
 .rename_i e nl xs
  split at hy
  .rename_i he
   subst he;simp at hy;subst hy;simp only[aJ,bQ]at hr;obtain⟨ad,cap,rfl,hlc,ht,hf⟩:=hr;by_cases hx:xs=[]
   .subst hx
    exact⟨ad,cap,[],rfl,by simp,by simp[cy],by simp,by simp,by simp⟩
   .cases nl with
    |true =>
     obtain⟨_,rfl⟩:=ht rfl
     have:xs.length=0:=by omega
     exact absurd (vC this) hx
    |false =>
     obtain⟨FF,rfl,hx'⟩:=hf rfl;obtain⟨hsp,_,dV⟩:=hx' hx;obtain⟨b,off,sp⟩:=FF;simp only at hsp dV;subst hsp;obtain⟨vs,h1,h2,h3,h4⟩:=zH dV;exact⟨_,cap,vs,rfl,lens dV,h1,h2,h3,λ_=>⟨b,off,rfl,h4⟩⟩
  .simp at hy
 .rename_i e
  simp at hy;subst hy;simp only[aJ]at hr;obtain⟨ad,rfl⟩:=hr;exact⟨some ad,0,[],rfl,by simp,by simp[cy],by simp,by simp,by simp⟩
 .rename_i n off len
  split at hy
  .rename_i e ex rows hn
   split at hy
   .rename_i dX
    obtain⟨rfl,hle⟩:=dX;simp at hy;subst hy;simp only[aJ]at hr;obtain⟨cap,rfl,hlc,_⟩:=hr.2.2 e (by rw[hn];rfl)
    have dF:=hH.obj n;rw[hn]at dF;have dV:=Dm dF.2.1 hle;have hlen:((rows.drop off).take len).length=len:=by simp;omega
    obtain⟨vs,h1,h2,h3,h4⟩:=zH dV;exact⟨_,cap,vs,by rw[hlen],lens dV,h1,h2,h3,λ_=>⟨_,_,rfl,h4⟩⟩
   .simp at hy
  .simp at hy
 .rename_i n off len
  split at hy
  .rename_i e ex rows hn
   split at hy
   .rename_i dX
    obtain⟨rfl,hle⟩:=dX;simp at hy;subst hy;simp only[aJ]at hr;obtain⟨cap,rfl,hlc,_⟩:=hr.2.2 e (by rw[hn];rfl)
    have dF:=hH.obj n;rw[hn]at dF;have dV:=Dm dF.2.1 hle;have hlen:((rows.drop off).take len).length=len:=by simp;omega
    obtain⟨vs,h1,h2,h3,h4⟩:=zH dV;exact⟨_,cap,vs,by rw[hlen],lens dV,h1,h2,h3,λ_=>⟨_,_,rfl,h4⟩⟩
   .simp at hy
  .simp at hy
 .simp at hy
theorem IJ{es n:Nat}{xa:Option Addr}{xc:Nat}{news:List Value}(hl:news.length=n*es)(hc:news≠[]->∃b off,xa=some ⟨b,off,none⟩/\∀(j:Nat)(u:Value),news[j]?=some u->w.cell? ⟨b,off+j,none⟩=some u)
  : (Builtin.firstCells es n (.slice xa n xc)).run P w = .ok news.toArray w:=by
 by_cases hne:news=[]
 .subst hne
  cases xa with
  |none=>simp[Builtin.firstCells]
  |some ad=>exact run_firstCells_some w es n ad n xc [] hl (by simp)
 .obtain⟨b,off,rfl,h⟩:=hc hne
  exact run_firstCells_some w es n _ n xc news hl λj v hj=>by rw[qA];exact h j v hj
theorem TM{t t' ty e e':TypeId}{i:TypeInfo}(ht:P.underlying t=some (.slice e))(ht':P.underlying t'=some (.slice e'))(hi:P.info? e=some i){b off sLen sCap n xc:Nat}{xa:Option Addr}{news:List Value}
  (hl:news.length=n*i.size)(hc:news≠[]->∃b off,xa=some ⟨b,off,none⟩/\∀(j:Nat)(u:Value),news[j]?=some u->w.cell? ⟨b,off+j,none⟩=some u)
  (hle:sLen+n<=sCap){cur:Array Value}{T:TypeId}(hg:w.heap[b]?=some (.cells cur T (0,0)))(hfit:off+sLen*i.size+news.length<=cur.size)(h1:∀u∈news,u.oneCell'=true):
  (Builtin.append_ #[t,t'] ty #[.slice (some ⟨b,off,none⟩) sLen sCap,.slice xa n xc]).run P w = .ok (.slice (some ⟨b,off,none⟩) (sLen+n) sCap) (w.setRow b (aq cur.toList (off+sLen*i.size) news).toArray):=by
 have hf:=IJ (P:=P) (w:=w) hl hc (xc:=xc);have hst:=run_storeCells_at P b (off+sLen*i.size) T news 0 cur w hg (by simpa using hfit) h1
 simp only[GQ]at hst;simp[Builtin.append_,run_underlying ht,run_underlying ht',sizeOf,typeInfo,hi,Builtin.lenOf,hle,hf,qA,hst,aq]
theorem ah9{t t' ty e e':TypeId}{i:TypeInfo}(ht:P.underlying t=some (.slice e))(ht':P.underlying t'=some (.slice e'))(hi:P.info? e=some i){sLen sCap xc:Nat}{base xa:Option Addr}(hle:sLen<=sCap):
  (Builtin.append_ #[t,t'] ty #[.slice base sLen sCap,.slice xa 0 xc]).run P w = .ok (.slice base sLen sCap) w:=by
 have hf:=IJ (P:=P) (w:=w) (es:=i.size) (n:=0) (xa:=xa) (xc:=xc) (news:=[]) (by simp) (by simp)
 cases base with
 |none=>simp[Builtin.append_,run_underlying ht,run_underlying ht',sizeOf,typeInfo,hi,Builtin.lenOf,hle,hf]
 |some ad=>simp[Builtin.append_,run_underlying ht,run_underlying ht',sizeOf,typeInfo,hi,Builtin.lenOf,hle,hf,storeCells]
theorem TN{t t' ty e e':TypeId}{i:TypeInfo}{z:Value}(ht:P.underlying t=some (.slice e))(ht':P.underlying t'=some (.slice e'))(hi:P.info? e=some i)(hz:i.zero=some z){sLen sCap n sc xc:Nat}{base xa:Option Addr}{olds news:List Value}
  (hlo:olds.length=sLen*i.size)(TO:olds≠[]->∃b off,base=some ⟨b,off,none⟩/\∀(j:Nat)(u:Value),olds[j]?=some u->w.cell? ⟨b,off+j,none⟩=some u)
  (hl:news.length=n*i.size)(hc:news≠[]->∃b off,xa=some ⟨b,off,none⟩/\∀(j:Nat)(u:Value),news[j]?=some u->w.cell? ⟨b,off+j,none⟩=some u)
  (mI:sCap<sLen+n)(hroom:sLen+n<=room)(hby:i.bytes<=16384)(hsc:sc=sCap):
  (Builtin.append_ #[t,t'] ty #[.slice base sLen sc,.slice xa n xc]).run P w =
   .ok (.slice (some ⟨w.heap.size,0,none⟩) (sLen+n) (grownCap w (sLen+n) sCap e)) (w.drew.alloc (.cells (olds++news++(Builtin.zeroCells z.cells (grownCap w (sLen+n) sCap e - (sLen+n))).toList).toArray e)):=by
 subst hsc;have hn:¬(sLen+n<=sc):=by omega
 have TP:sLen+n<=4294967296:=hroom;have h63':¬(9223372036854775807<((sLen:Int)+(n:Int))):=by omega
 have hmul:(sLen+n)*i.bytes<=4294967296*16384:=J6 TP hby;have TQ:¬(281474976710656<Builtin.nextslicecap (sLen+n) sc*i.bytes):=by
  have:=growslice_fits (bytes:=i.bytes) mI (by omega)
  omega
 have hf:=IJ (P:=P) (w:=w.drew) (xa:=xa) (xc:=xc) hl (λh=>by obtain⟨b,off,h1,h2⟩:=hc h;exact⟨b,off,h1,by simpa using h2⟩)
 have hfo:=IJ (P:=P) (w:=w.drew) (xa:=base) (xc:=sc) hlo (λh=>by obtain⟨b,off,h1,h2⟩:=TO h;exact⟨b,off,h1,by simpa using h2⟩)
 simp[Builtin.append_,run_underlying ht,run_underlying ht',sizeOf,typeInfo,zeroValue,hi,hz,Builtin.lenOf,hn,h63',TQ,Question.forced,hf,hfo,newRow,grownCap];congr 2;apply Py;simp[sS]
end
end Go.VS
namespace Go.VS
section
variable {P:Program}{φ:fy}
variable {nt m dB:Nat}{s:St}{g:Gh}{a:Act}{w:World}{K:Act->World->Prop}{Q:Exit->Act->World->Prop}{o:Oper}
theorem jU.refl(w:World)(b:Nat):jU w w b:=⟨rfl,λ_ _=>rfl,rfl,rfl,rfl⟩
theorem Zn{h:List O}{B o':Nat}{x:O}(hr:eX φ h g w)(hB:∀k,(aU h k).live=true->g.β k≠B)(hx:gC φ (h++[x]) (g.add h.length B o' g.I) w B o' x):
  eX φ (h++[x]) (g.add h.length B o' g.I) w where
 obj n:=by
  rcases sQ n h.length with hn |hn |hn
  .have hne:n≠h.length:=by omega
   rw[pQ hn];by_cases hl:(aU h n).live=true
   .have:=Da (zE (b:=B) (o:=o') x hr (gM.refl w) (λ_ _=>rfl)) rfl rfl (hr.obj n)
    simpa[Gh.add,hne]using this
   .cases hq:aU h n<;>simp_all[O.live,gC]
  .subst hn
   rw[Dd];simpa[Gh.add]using hx
  .rw[uV hn]
   trivial
 inj n k hn hk he:=by
  have key:∀n,(aU (h++[x]) n).live=true->n<=h.length:=λn hn=>by
   rcases k9 h.length n with h1 |h1
   .rw[uV h1]at hn;simp[O.live]at hn
   .exact h1
  have kn:=key n hn;have kk:=key k hk;by_cases h1:n=h.length<;>by_cases h2:k=h.length
  .omega
  .have hlt:k<h.length:=by omega
   rw[pQ hlt]at hk;have:=hB k hk;simp[Gh.add,h1,h2]at he;exact absurd he.symm this
  .have hlt:n<h.length:=by omega
   rw[pQ hlt]at hn;have:=hB n hn;simp[Gh.add,h1,h2]at he;exact absurd he this
  .have hlt:n<h.length:=by omega
   have hlt':k<h.length:=by omega
   rw[pQ hlt]at hn;rw[pQ hlt']at hk;simp[Gh.add,h1,h2]at he;exact hr.inj n k hn hk he
 new:=hr.new
theorem aia{h':List O}{g':Gh}{w':World}{b es:Nat}{T:TypeId}{C:List Value}{rest:List Value}{ys:List (List D)}{ex:Bool}(hb:w'.heap[b]?=some (.cells (C++rest).toArray T (0,0)))
  (hl:∀r∈ys,r.length=es)(hr:cy φ g'.I w' ys.flatten C)(h1:∀v∈C,v.oneCell'=true)(hI:if ex then g'.I b<=0 else g'.I b=0+es*ys.length):gC φ h' g' w' b 0 (.aG es ex ys):=by
 have hlen:=sF hr;rw[yf hl]at hlen;refine⟨⟨_,T,hb,by simp;omega⟩,TL hl hr h1 λj v hj=>?_,hI⟩
 simp only[World.cell?,hb,nP,B9];rw[sP]
 .simp[hj]
 .rcases k9 j C.length with h2 |h2
  .exact h2
  .simp[nN h2]at hj
theorem NH{C:Array Value}(h:∀v∈C.toList,v.oneCell'=true)(n:Nat):∀v∈(Builtin.zeroCells C n).toList,v.oneCell'=true:=by
 intro v hv;simp only[Builtin.zeroCells,D9,Array.toList_range,gF,J7]at hv;obtain⟨i,hi,rfl⟩:=hv;have hp:0<C.size:=by
  rcases Wu C.size with h0 |h0
  .rw[h0]at hi;simp at hi
  .exact h0
 have hlt:=Nat.mod_lt i hp;rw[getElem!_pos C _ hlt];exact h _ (by simp)
theorem Zo(hs:cm φ nt m dB s g a w){d:Nat}(hd:gp nt o d=true){es cap:Nat}{T:TypeId}{C rest:List Value}{ys:List (List D)}{ex:Bool}{ok:Bool}{w1:World}(Bu:gM w w1)(sH:w1.heap.size=w.heap.size)
  (hrun:(execOp a.eval o).run P w = .ok (.value (.slice (some ⟨w.heap.size,0,none⟩) ys.length cap)) (w1.alloc (.cells (C++rest).toArray T)))
  (hl:∀r∈ys,r.length=es)(hr:cy φ g.I w ys.flatten C)(h1:∀v∈C,v.oneCell'=true)(hcap:ys.length<=cap)(hfit:cap*es<=C.length+rest.length)(rF:∀v∈rest,v.oneCell'=true)
  (hK:∀g' v' w',cm φ nt m dB ⟨(d,.aQ s.heap.length 0 ys.length)::s.env,s.heap++[.aG es ex ys],ok⟩ g' (a.put o.dst v') w'->Frame m s.heap g w (s.heap++[.aG es ex ys]) g' w'->K (a.put o.dst v') w'):o.wp P a w K Q:=by
 have hnew:=hs.heap.new;have hnew1:∀b,w1.heap.size<=b->g.I b=0:=λb hb=>hnew b (by omega)
 have hg:=Bu.trans (gM.alloc w1 (.cells (C++rest).toArray T));have hb:(w1.alloc (.cells (C++rest).toArray T)).heap[w.heap.size]?=some (.cells (C++rest).toArray T):=by rw[<-sH];exact zF w1 _
 have hI:∀b,b<w.heap.size->iQ g.I w.heap.size (if ex then 0 else es*ys.length) b=g.I b:=λb hb=>Fz hb
 have hE:=Db hg hI hnew;refine IC hs hd (b:=w.heap.size) (off:=0) (x:=.aG es ex ys) (I':=iQ g.I w.heap.size (if ex then 0 else es*ys.length)) hrun hg hI (by rw[<-sH];exact TE (w:=w1) hnew1 _) (gj _) ?_ ?_ hK
 .refine aia hb hl (zx hE hr) h1 ?_
  cases ex<;>simp[Gh.add,iQ]
 .simp only[aJ]
  refine⟨by simp,rfl,λes' he'=>?_⟩
  rw[Dd]at he'⊢;simp[O.gL]at he';subst he';exact⟨cap,by simp[Gh.add],hcap,by simp[O.len];exact hcap,_,_,by simpa[Gh.add]using hb,by simp[Gh.add];exact hfit,λv hv=>by simp at hv;exact hv.elim (h1 v) (rF v)⟩
theorem NI(hs:cm φ nt m dB s g a w){d:Nat}(hd:gp nt o d=true){es cap:Nat}{T:TypeId}{C rest:List Value}{ys:List (List D)}{ex:Bool}{ok:Bool}
  (hrun:(execOp a.eval o).run P w = .ok (.value (.slice (some ⟨w.heap.size,0,none⟩) ys.length cap)) (w.drew.alloc (.cells (C++rest).toArray T)))
  (hl:∀r∈ys,r.length=es)(hr:cy φ g.I w ys.flatten C)(h1:∀v∈C,v.oneCell'=true)(hcap:ys.length<=cap)(hfit:cap*es<=C.length+rest.length)(rF:∀v∈rest,v.oneCell'=true)
  (hK:∀g' v' w',cm φ nt m dB ⟨(d,.aQ s.heap.length 0 ys.length)::s.env,s.heap++[.aG es ex ys],ok⟩ g' (a.put o.dst v') w'->Frame m s.heap g w (s.heap++[.aG es ex ys]) g' w'->K (a.put o.dst v') w'):o.wp P a w K Q :=
 Zo hs hd (gM.drew w) rfl hrun hl hr h1 hcap hfit rF hK
theorem cm.kill(hs:cm φ nt m dB s g a w){n:Nat}(hl:(aU s.heap n).live=true)(ok:Bool):cm φ nt m dB ⟨s.env,s.heap.set n .dead,ok⟩ g a w/\Frame m s.heap g w (s.heap.set n .dead) g w/\gU s.heap g w (s.heap.set n .dead) g w:=by
 have hle:gU s.heap g w (s.heap.set n .dead) (g.eo g.I) w:=wv hs.heap hl (jU.refl _ _) (Ext.refl _ _) (λes he=>by simp[O.gL]at he) (λkv hk=>by simp at hk)
 have hr:eX φ (s.heap.set n .dead) (g.eo g.I) w:=wx hs.heap hl (jU.refl _ _) hle (λ_ _=>rfl) trivial
 exact⟨hs.yd hl (jU.refl _ _) hle hr,wy .dead hl (jU.refl _ _) (Ext.refl _ _) (λ_ _=>rfl) hle,hle⟩
theorem aib{I:Nat->Nat}{cs ds:List D}{vs us:List Value}(h:cy φ I w cs vs)(k:cy φ I w ds us)(n:Nat):cy φ I w (aq cs n ds) (aq vs n us):=by
 unfold aq;rw[sF k];exact zy (zy (Tx h n) k) (Bn h _)
theorem aic{α:Type}{es:Nat}{rows ys:List (List α)}(hl:∀r∈rows,r.length=es)(hy:∀r∈ys,r.length=es)(n:Nat):(aq rows n ys).flatten=aq rows.flatten (n*es) ys.flatten:=by
 have key:∀(rows:List (List α))(n:Nat),(∀r∈rows,r.length=es)->(rows.take n).flatten=rows.flatten.take (n*es)/\(rows.drop n).flatten=rows.flatten.drop (n*es):=by
  intro rows;induction rows with
  |nil=>intro n _;simp
  |cons r rs ih =>
   intro n h;have hr:r.length=es:=h r (by simp)
   cases n with
   |zero=>simp
   |succ n =>
    obtain⟨h1,h2⟩:=ih n (λx hx=>h x (by simp[hx]))
    simp only[Pz,yN,Wv,h1,h2,GR,Pu,hr,qP];have e1:n*es+es - es=n*es:=by omega
    have e2:r.take (n*es+es)=r:=gE (by omega)
    have e3:r.drop (n*es+es)=[]:=qK (by omega)
    rw[e1,e2,e3];simp
 unfold aq;rw[Ea,Ea,(key rows n hl).1,(key rows _ hl).2,yf hy];congr 2;rw[nh,ji ys.length]
theorem Zp{α:Type}{cs ds:List α}{n:Nat}{x:α}(h:x∈aq cs n ds):x∈cs\/x∈ds:=by
 simp only[aq,dc]at h;rcases h with(h |h) |h
 .exact .inl (nM h)
 .exact .inr h
 .exact .inl (mN h)
theorem Zq{I I':Nat->Nat}{w':World}{b es off n:Nat}{rows ys:List (List D)}{news:List Value}(hr:jG φ I w b es off rows)(hE:Ext I w I' w')(hy:cy φ I w ys.flatten news)(h1:∀v∈news,v.oneCell'=true)
  (TS:∀r∈ys,r.length=es)(hn:n+ys.length<=rows.length){cur:Array Value}{T:TypeId}(hg:w.heap[b]?=some (.cells cur T (0,0)))(hfit:off+es*rows.length<=cur.size)
  (hg':w'.heap[b]?=some (.cells (aq cur.toList (off+n*es) news).toArray T (0,0))):jG φ I' w' b es off (aq rows n ys):=by
 have hrl:∀r∈rows,r.length=es:=by
  intro r hmem;obtain⟨j,hj,he⟩:=sR hmem;exact(n7 hr (r:=j) (row:=r) (by simp[hj,he])).1
 obtain⟨vs,k1,k2,k3,k4⟩:=zH hr;have gm:=sF hy;rw[yf TS]at gm;have hmul:n*es+es*ys.length<=es*rows.length:=by
  have:=Px es hn;rw[GO,ji es n]at this;exact this
 refine TL (vs:=aq vs (n*es) news) (λr hr=>(Zp hr).elim (hrl r) (TS r)) ?_ (λv hv=>(Zp hv).elim (k2 v) (h1 v)) λj v hj=>?_
 .rw[aic hrl TS]
  exact zx hE (aib k1 hy _)
 .have nF:=Di (cs:=cur.toList) (new:=news) (o:=off+n*es) (by simp;omega) (off+j)
  rw[Di (by omega)]at hj
  have old:vs[j]?=some v->cur.toList[off+j]?=some v:=λh=>by
   have:=k4 j v h;simpa[World.cell?,hg]using this
  simp only[World.cell?,hg',B9];rw[nF];by_cases c1:j<n*es
  .rw[aK c1]at hj
   rw[aK (show off+j<off+n*es by omega)]
   exact old hj
  .rw[aE c1]at hj
   rw[aE (show ¬off+j<off+n*es by omega)]
   by_cases c2:j<n*es+news.length
   .rw[aK c2]at hj
    rw[aK (show off+j<off+n*es+news.length by omega)]
    have:off+j - (off+n*es)=j - n*es:=by omega
    rw[this];exact hj
   .rw[aE c2]at hj
    rw[aE (show ¬off+j<off+n*es+news.length by omega)]
    exact old hj
def TT(b:Bool)(n off len:Nat):V:=if b then .je n off len else .aQ n off len
theorem Zr(bx:Bool)(hs:cm φ nt m dB s g a w){d n off len cap es:Nat}{x':Operand}{rows ys:List (List D)}{news:List Value}{CS:Array Value}{T:TypeId}(hd:gp nt o d=true)(hn:aU s.heap n = .aG es true rows)
  (hb:w.heap[g.β n]?=some (.cells CS T (0,0)))(hfit:g.o n+(off+cap)*es<=CS.size)(hcs:x9 CS)(oU:g.o n+es*rows.length<=CS.size)(hm:if bx then rows.length=off+cap else rows.length<=off+cap)(he:a.eval x' = .slice (some ⟨g.β n,g.o n+off*es,none⟩) len cap)
  (dV:jG φ g.I w (g.β n) es (g.o n) rows)(hI:g.I (g.β n)<=g.o n)(hrd:cy φ g.I w ys.flatten news)(hone:∀u∈news,u.oneCell'=true)(hrl:∀r∈ys,r.length=es)(nG:news.length=ys.length*es)
  (hin:off+len+ys.length<=rows.length)
  (hrun:len+ys.length<=cap->g.o n+off*es+len*es+news.length<=CS.size->(execOp a.eval o).run P w = .ok (.value (.slice (some ⟨g.β n,g.o n+off*es,none⟩) (len+ys.length) cap)) (w.setRow (g.β n) (aq CS.toList (g.o n+off*es+len*es) news).toArray))
  (hK:eG φ nt m dB s g w ⟨(d,TT bx n off (len+ys.length))::s.env,s.heap.set n (.aG es true (aq rows (off+len) ys)),s.ok⟩ o a K):o.wp P a w K Q:=by
 have hl:(aU s.heap n).live=true:=by rw[hn];rfl
 have hm':rows.length<=off+cap:=by cases bx<;>simp at hm<;>omega
 have hmul:(off+len+ys.length)*es<=rows.length*es:=lU es hin;rw[nh,nh]at hmul;have Zs:es*rows.length=rows.length*es:=ji _ _;have oX:g.o n+off*es+len*es+news.length<=CS.size:=by omega
 have TU:=hrun (by omega) oX
 obtain⟨ht,hw'⟩:=Nx (cs:=(aq CS.toList (g.o n+off*es+len*es) news).toArray) hb;have hE:Ext g.I w g.I (w.setRow (g.β n) (aq CS.toList (g.o n+off*es+len*es) news).toArray):=IF ht hb oX hw' (by omega) (λ_=>gj _)
 have hsize:(aq CS.toList (g.o n+off*es+len*es) news).toArray.size=CS.size:=by
  have:=Br (cs:=CS.toList) (new:=news) (o:=g.o n+off*es+len*es) (by simpa using oX)
  simpa using this
 have yj:(aq rows (off+len) ys).length=rows.length:=Br hin;have hle:=wv (x:=.aG es true (aq rows (off+len) ys)) hs.heap hl ht hE
  (λes' he'=>⟨by rw[hn];simpa[O.gL]using he',by rw[hn];simp only[O.len,yj],λrI T' hc=>by
   rw[hb]at hc;simp at hc;obtain⟨rfl,rfl⟩:=hc;exact⟨_,_,hw',by rw[hsize];exact gj _,λh=>h.Bs hone⟩⟩) (λkv hk=>by simp at hk)
 have e1:g.o n+off*es+len*es=g.o n+(off+len)*es:=by rw[nh];omega
 have hH:=wx (x:=.aG es true (aq rows (off+len) ys)) hs.heap hl ht hle (λ_ _=>rfl)
  ⟨⟨_,T,hw',by rw[hsize,yj];exact oU⟩,Zq dV hE hrd hone hrl hin hb oU (by rw[<-e1];exact hw'),by simpa[Gh.eo]using hI⟩
 have hS:=hs.yd (ok:=s.ok) hl ht hle hH;obtain⟨h1,h2⟩:=Bm hd;refine Fu TU (hK _ _ _ ?_ (wy _ hl ht hE (λ_ _=>rfl) hle))
 rw[h1];refine hS.wF h2 ?_;cases bx with
 |false =>
  simp only[TT,eR,dG,aJ];refine⟨by simpa using Bi hl,rfl,λes' he'=>?_⟩
  rw[wu (Bi hl)]at he'⊢;simp[O.gL]at he';subst he';exact⟨cap,rfl,by omega,by simp only[O.len,yj];exact hm',_,_,hw',by rw[hsize];exact hfit,hcs.Bs hone⟩
 |true =>
  simp only[dH]at hm;simp only[TT,dH,aJ];refine⟨by simpa using Bi hl,rfl,λes' he'=>?_⟩
  rw[wu (Bi hl)]at he'⊢;simp[O.gL]at he';subst he';exact⟨cap,rfl,by omega,by simp only[O.len,yj];exact hm,_,_,hw',by rw[hsize];exact hfit,hcs.Bs hone⟩
theorem TV(hs:cm φ nt m dB s g a w){d n off len cap es:Nat}{ex:Bool}{rows ys:List (List D)}{news:List Value}{CS:Array Value}{T:TypeId}(hd:gp nt o d=true)(hn:aU s.heap n = .aG es ex rows)
  (hb:w.heap[g.β n]?=some (.cells CS T (0,0)))(hfit:g.o n+(off+cap)*es<=CS.size)(hcs:x9 CS)(oU:g.o n+es*rows.length<=CS.size)(Zt:off+len<=rows.length)
  (dV:jG φ g.I w (g.β n) es (g.o n) rows)(hI:if ex then g.I (g.β n)<=g.o n else g.I (g.β n)=g.o n+es*rows.length)(hrd:cy φ g.I w ys.flatten news)(hone:∀u∈news,u.oneCell'=true)(hrl:∀r∈ys,r.length=es)(nG:news.length=ys.length*es)
  (hcap:len+ys.length<=cap)(hex:ex=true\/off+len=rows.length)
  (hrun:g.o n+off*es+len*es+news.length<=CS.size->(execOp a.eval o).run P w = .ok (.value (.slice (some ⟨g.β n,g.o n+off*es,none⟩) (len+ys.length) cap)) (w.setRow (g.β n) (aq CS.toList (g.o n+off*es+len*es) news).toArray))
  (hK:eG φ nt m dB s g w ⟨(d,.aQ s.heap.length 0 (len+ys.length))::s.env,s.heap.set n .dead++[.aG es ex ((rows.drop off).take len++ys)],s.ok⟩ o a K):o.wp P a w K Q:=by
 have hl:(aU s.heap n).live=true:=by rw[hn];rfl
 have hmul:(len+ys.length)*es<=cap*es:=lU es hcap;have Zu:(off+len)*es<=rows.length*es:=lU es Zt;rw[nh]at hmul Zu;have aid:=hfit;rw[nh]at aid;have Zs:es*rows.length=rows.length*es:=ji _ _;have ir:es*len=len*es:=ji _ _;have wN:es*ys.length=ys.length*es:=ji _ _;have oX:g.o n+off*es+len*es+news.length<=CS.size:=by omega
 have TU:=hrun oX;obtain⟨ht,hw'⟩:=Nx (cs:=(aq CS.toList (g.o n+off*es+len*es) news).toArray) hb;generalize hwg:w.setRow (g.β n) (aq CS.toList (g.o n+off*es+len*es) news).toArray=w' at *;have hlen:((rows.drop off).take len).length=len:=by simp;omega
 have jI:((rows.drop off).take len++ys).length=len+ys.length:=by simp;omega
 have hIp:g.I (g.β n)<=g.o n+off*es+len*es:=by
  cases ex with
  |true=>simp only[dH]at hI;omega
  |false =>
   simp at hI hex
   have:rows.length*es=off*es+len*es:=by rw[<-hex,nh]
   omega
 have hE:Ext g.I w (if ex then g.I else iQ g.I (g.β n) (g.o n+off*es+es*(len+ys.length))) w':=IF ht hb oX hw' hIp (λk=>by
  cases ex with
  |true=>simp
  |false =>
   simp only[eR,dG,iQ];split
   .rename_i hk;subst hk;rw[GO];omega
   .exact gj _)
 generalize Zv:(if ex then g.I else iQ g.I (g.β n) (g.o n+off*es+es*(len+ys.length)))=I' at hE
 have yg:∀b,b≠g.β n->I' b=g.I b:=by
  intro b hb;rw[<-Zv];cases ex<;>simp[iQ,hb]
 have hsize:(aq CS.toList (g.o n+off*es+len*es) news).toArray.size=CS.size:=by
  have:=Br (cs:=CS.toList) (new:=news) (o:=g.o n+off*es+len*es) (by simpa using oX)
  simpa using this
 have jV:=wv (x:=.dead) hs.heap hl ht hE (λes he=>by simp[O.gL]at he) (λkv hk=>by simp at hk)
 have rO:=wx (x:=.dead) hs.heap hl ht jV yg trivial;have tD:=hs.yd (ok:=s.ok) hl ht jV rO;have hB:∀k,(aU (s.heap.set n .dead) k).live=true->(g.eo I').β k≠g.β n:=by
  intro k hk Bv;by_cases hkn:k=n
  .subst hkn;rw[wu (Bi hl)]at hk;simp[O.live]at hk
  .rw[pS hkn]at hk;exact hkn (hs.heap.inj k n hk hl Bv)
 have FG:=zE (b:=g.β n) (o:=g.o n+off*es) (.aG es ex ((rows.drop off).take len++ys)) rO (gM.refl w') (I':=I') (λ_ _=>rfl)
 obtain⟨olds,o1,o2,o3,o4⟩:=zH (Dm dV Zt);rw[hlen]at o3;have IK:∀r∈(rows.drop off).take len++ys,r.length=es:=by
  intro r hr;rcases dc.1 hr with h1 |h1
  .obtain⟨j,hj,Dn⟩:=sR (mN (nM h1))
   exact(n7 dV (r:=j) (row:=r) (by simp[hj,Dn])).1
  .exact hrl r h1
 have TW:jG φ I' w' (g.β n) es (g.o n+off*es) ((rows.drop off).take len++ys):=by
  refine TL (vs:=olds++news) IK (by rw[Ea];exact zx hE (zy o1 hrd)) (λv hv=>(dc.1 hv).elim (o2 v) (hone v)) λj v hj=>?_
  have nF:=Di (cs:=CS.toList) (new:=news) (o:=g.o n+off*es+len*es) (by simpa using oX) (g.o n+off*es+j)
  simp only[World.cell?,hw',B9];rw[nF];by_cases c1:j<olds.length
  .rw[sP c1]at hj
   rw[aK (show g.o n+off*es+j<g.o n+off*es+len*es by omega)]
   have:=o4 j v hj;simpa[World.cell?,hb]using this
  .rw[At (by omega)]at hj
   have hjl:j - olds.length<news.length:=by
    rcases k9 (j - olds.length) news.length with h2 |h2
    .exact h2
    .simp[nN h2]at hj
   rw[aE (show ¬g.o n+off*es+j<g.o n+off*es+len*es by omega),aK (show g.o n+off*es+j<g.o n+off*es+len*es+news.length by omega)]
   have:g.o n+off*es+j - (g.o n+off*es+len*es)=j - olds.length:=by omega
   rw[this];exact hj
 have TX:gC φ (s.heap.set n .dead++[.aG es ex ((rows.drop off).take len++ys)]) ((g.eo I').add (s.heap.set n .dead).length (g.β n) (g.o n+off*es) I') w' (g.β n) (g.o n+off*es) (.aG es ex ((rows.drop off).take len++ys)):=by
  refine⟨⟨_,T,hw',by rw[hsize,jI,GO];omega⟩,TW,?_⟩
  rw[jI];show if ex=true then I' (g.β n)<=_ else I' (g.β n)=_
  rw[<-Zv];cases ex with
  |true=>simp at hI⊢;omega
  |false=>simp[iQ]
 have TY:=Zn rO hB TX;have IL:cm φ nt m dB ⟨s.env,s.heap.set n .dead++[.aG es ex ((rows.drop off).take len++ys)],s.ok⟩ ((g.eo I').add (s.heap.set n .dead).length (g.β n) (g.o n+off*es) I') a w' :=
  ⟨λk=>lI FG (tD.env k),TY,tD.size,hs.defers.reuse hl tD.defers,by have:=hs.len;simp;omega⟩
 have TZ:(s.heap.set n .dead).length=s.heap.length:=by simp
 have pY:=wy (m:=m) .dead hl ht hE yg jV;obtain⟨h1,h2⟩:=Bm hd;refine Fu TU (hK ((g.eo I').add (s.heap.set n .dead).length (g.β n) (g.o n+off*es) I') _ _ ?_ ⟨hE,pY.size,pY.os,pY.tape,pY.output,λk hk=>?_,pY.keep,λk hk=>?_,λk hk=>?_⟩)
 .rw[h1]
  refine IL.wF h2 ?_;simp only[aJ];refine⟨by simp,rfl,λes' he'=>?_⟩
  rw[<-TZ,Dd]at he'⊢;simp[O.gL]at he';subst he';refine⟨cap,by simp[Gh.add],hcap,by simp only[O.len,jI];omega,_,_,by simp only[Gh.add,dH];exact hw',?_,hcs.Bs hone⟩
  simp only[Gh.add,dH];rw[hsize,nP];omega
 .have hne:k≠s.heap.length:=by have:=hs.len;omega
  simp[Gh.add,hne,Gh.eo]
 .rcases sQ k (s.heap.set n .dead).length with hk' |hk' |hk'
  .rw[pQ hk']at hk
   have hne:k≠s.heap.length:=by omega
   have:=pY.mG k hk;simpa[Gh.add,hne]using this
  .exact .inl ⟨n,hl,by simp[Gh.add,hk']⟩
  .rw[uV hk']at hk;simp[O.live]at hk
 .have hk1:k<s.heap.length:=pg hk hs.len
  exact(jV.at hk1).trans (FG.at (by rw[TZ];exact hk1)) rfl
theorem Zw(hs:cm φ nt m dB s g a w){rec:Rec}{d es:Nat}{x y:A}(hc:cN P φ nt o (.app d x y es)=true)(hok:(aR rec (.app d x y es) s).ok=true)
  (hK:eG φ nt m dB s g w (aR rec (.app d x y es) s) o a K):o.wp P a w K Q:=by
 simp only[cN,bE]at hc;obtain⟨hd,h⟩:=hc;split at h
 .rename_i c ho
  split at h
  .rename_i x' y' t t' iD hargs pU
   simp only[bE,gi]at h;obtain⟨⟨⟨hx,hy⟩,hpos⟩,ht⟩:=h;obtain⟨Fw,args,tys⟩:=c;simp only at iD hargs pU;have rK:args=#[x',y']:=by rw[<-Array.toList_inj];exact hargs
   have wL:tys=#[t,t']:=by rw[<-Array.toList_inj];exact pU
   subst iD;subst rK;subst wL;split at ht
   .rename_i e e' hu n9
    split at ht
    .rename_i i hi
     simp only[bE,dM,gi]at ht;obtain⟨⟨hsz,hby⟩,Bw⟩:=ht;split at Bw
     .rename_i z hz
      simp only[bE,dM,yO]at Bw;obtain⟨Bw,sH⟩:=Bw;subst hsz;have rx:=eY hs hx;have ry:=eY hs hy;have fin:∀{u u':Value}{r:Value}{w':World},a.eval x'=u->a.eval y'=u'->(Builtin.append_ #[t,t'] o.type #[u,u']).run P w = .ok r w'->(execOp a.eval o).run P w = .ok (.value r) w':=by
       intro u u' r w' h1 h2 h3;simp[execOp,ho,resolve,invoke,builtin,h1,h2,h3]
      simp only[aR]at hok hK;obtain⟨v,hh,hv⟩:=Bp hok;rw[hv]at hK;simp only[St.gk]at hK;have same:∀{v':Value},(execOp a.eval o).run P w = .ok (.value v') w->hh=s.heap->aJ φ s.heap g w v v'->o.wp P a w K Q:=by
       intro v' h1 h2 h3;subst h2;exact uW hs hd h1 h3 hK
      unfold Ef at hv;cases rN:Az s.heap i.size (s.get y)with
      |none=>simp[rN]at hv
      |some ys =>
       simp only[rN]at hv;obtain⟨xa,xc,news,rP,hrl,hrd,hone,gm,hbase⟩:=Zm hs.heap ry rN;have nG:news.length=ys.length*i.size:=by rw[gm,ji]
       have jr:news≠[]->∃b off,xa=some ⟨b,off,none⟩/\∀(j:Nat)(u:Value),news[j]?=some u->w.cell? ⟨b,off+j,none⟩=some u:=by
        intro hne;refine hbase λh=>hne ?_
        subst h;exact vC (by simpa using gm)
       have zero:ys.length=0->∀{ad:Option Addr}{len cap:Nat},len<=cap->a.eval x' = .slice ad len cap->(execOp a.eval o).run P w = .ok (.value (.slice ad len cap)) w:=by
        intro h0 ad len cap hle he;rw[h0]at rP;exact fin he rP (ah9 hu n9 hi hle)
       have fresh:∀{ad:Option Addr},a.eval x' = .slice ad 0 0->ys.length≠0->ys.length<=room->v = .aQ s.heap.length 0 ys.length->hh=s.heap++[.aG i.size true ys]->o.wp P a w K Q:=by
        intro ad he h0 hroom T0 hv2;subst T0;subst hv2;have hrun:=TN (P:=P) (w:=w) (ty:=o.type) hu n9 hi hz (sLen:=0) (sCap:=0) (sc:=0) (base:=ad) (olds:=[]) (by simp) (by simp) nG jr (xc:=xc) (by omega) (by omega) hby rfl
        simp only[nP,mu]at hrun;have Dp:=grownCap_ge w ys.length 0 e;refine NI hs hd (es:=i.size) (ex:=true) (rest:=(Builtin.zeroCells z.cells (grownCap w ys.length 0 e - ys.length)).toList) (fin he rP hrun) hrl hrd hone Dp ?_ (NH sH _) hK;rw[nG];have v5:(Builtin.zeroCells z.cells (grownCap w ys.length 0 e - ys.length)).toList.length=(grownCap w ys.length 0 e - ys.length)*i.size:=by simp[size_zeroCells,Bw]
        rw[v5,<-Nat.add_mul];exact lU _ (by omega)
       cases fX:s.get x with
       |d xd =>
        cases xd with
        |sl e1 nl xs =>
         rw[fX]at hv rx;simp only at hv;split at hv
         .rename_i jH
          subst jH;simp only[aJ,bQ]at rx;obtain⟨ad,cap,he,hlc,oa,Dl⟩:=rx;split at hv
          .rename_i h0
           simp at hv;obtain⟨rfl,rfl⟩:=hv;exact same (zero h0 hlc he) rfl (by simp only[aJ,bQ];exact⟨ad,cap,rfl,hlc,oa,Dl⟩)
          .rename_i h0
           split at hv
           .rename_i Zx
            simp at hv;obtain⟨rfl,rfl⟩:=oa Zx.1
            have:xs.length=0:=by omega
            rw[this]at he;exact fresh he h0 Zx.2 hv.1.symm hv.2.symm
           .simp at hv
         .simp at hv
        |_=>rw[fX]at hv;simp at hv
       |iT e1 =>
        rw[fX]at hv rx;simp only at hv;simp only[aJ]at rx;obtain⟨ad,he⟩:=rx;split at hv
        .rename_i h0
         simp at hv;obtain⟨rfl,rfl⟩:=hv;exact same (zero h0 (gj _) he) rfl (by simp[aJ,bQ])
        .rename_i h0
         split at hv
         .rename_i hroom
          simp at hv;exact fresh he h0 hroom hv.1.symm hv.2.symm
         .simp at hv
       |aQ n off len =>
        rw[fX]at hv rx;simp only at hv;split at hv
        .rename_i e1 ex rows hn
         split at hv
         .rename_i dX
          obtain⟨rfl,hle⟩:=dX;have rx':=rx;simp only[aJ]at rx;obtain⟨cap,he,hlc,hm,CS,T,hb,hfit,hcs⟩:=rx.2.2 i.size (by rw[hn];rfl)
          rw[hn]at hm;simp only[O.len]at hm;have hl:(aU s.heap n).live=true:=by rw[hn];rfl
          have dF:=hs.heap.obj n;rw[hn]at dF;obtain⟨⟨rI,T',hb',oU⟩,dV,hI⟩:=dF;rw[hb]at hb';simp at hb';obtain⟨rfl,rfl⟩:=hb';split at hv
          .rename_i h0
           simp at hv;obtain⟨rfl,rfl⟩:=hv;exact same (zero h0 hlc he) rfl (by rw[he]at rx';exact rx')
          .rename_i h0
           split at hv
           .rename_i hin
            split at hv
            .rename_i hex
             subst hex;simp at hv;obtain⟨rfl,rfl⟩:=hv;simp only[dH]at hI;exact Zr false hs hd hn hb hfit hcs oU (by simpa using hm) he dV hI hrd hone hrl nG (by omega) (λFG oX=>fin he rP (TM hu n9 hi nG jr FG hb oX hone)) hK
            .simp at hv
           .rename_i hin
            split at hv
            .rename_i Zy
             simp at hv;obtain⟨rfl,rfl⟩:=hv;by_cases hcap:len+ys.length<=cap
             .exact TV hs hd hn hb hfit hcs oU hle dV hI hrd hone hrl nG hcap Zy.1 (λoX=>fin he rP (TM hu n9 hi nG jr hcap hb oX hone)) hK
             .obtain⟨k1,k2,k3⟩:=hs.kill hl s.ok
              have hlen:((rows.drop off).take len).length=len:=by simp;omega
              obtain⟨olds,o1,o2,o3,o4⟩:=zH (Dm dV hle);rw[hlen]at o3;have hrun:=TN (P:=P) (w:=w) (ty:=o.type) hu n9 hi hz (sLen:=len) (sCap:=cap) (sc:=cap) (base:=some ⟨g.β n,g.o n+off*i.size,none⟩) (olds:=olds) (by rw[o3,ji]) (λ_=>⟨_,_,rfl,o4⟩) nG jr (xc:=xc) (by omega) Zy.2 hby rfl
              have Dp:=grownCap_ge w (len+ys.length) cap e;have jI:((rows.drop off).take len++ys).length=len+ys.length:=by simp;omega
              have v5:(Builtin.zeroCells z.cells (grownCap w (len+ys.length) cap e - (len+ys.length))).toList.length=(grownCap w (len+ys.length) cap e - (len+ys.length))*i.size:=by simp[size_zeroCells,Bw]
              have IK:∀r∈(rows.drop off).take len++ys,r.length=i.size:=by
               intro r hr;rcases dc.1 hr with h1 |h1
               .obtain⟨j,hj,Dn⟩:=sR (mN (nM h1))
                exact(n7 dV (r:=j) (row:=r) (by simp[hj,Dn])).1
               .exact hrl r h1
              have bN:(s.heap.set n .dead).length=s.heap.length:=by simp
              refine NI (s:=⟨s.env,s.heap.set n .dead,s.ok⟩) k1 hd (es:=i.size) (ex:=ex) (ys:=(rows.drop off).take len++ys) (C:=olds++news) (ok:=s.ok)
               (rest:=(Builtin.zeroCells z.cells (grownCap w (len+ys.length) cap e - (len+ys.length))).toList) (by rw[jI];exact fin he rP hrun) IK (by rw[Ea];exact zy o1 hrd)
               (λv hv=>(dc.1 hv).elim (o2 v) (hone v)) (by rw[jI];exact Dp) ?_ (NH sH _) λg' v' w' h1 h2=>?_
              .rw[lT,o3,nG,v5,ji i.size,<-Nat.add_mul,<-Nat.add_mul]
               exact lU _ (by omega)
              .simp only[bN,jI]at h1 h2
               exact hK g' v' w' h1 (k2.trans h2)
            .simp at hv
         .simp at hv
        .simp at hv
       |je n off len =>
        rw[fX]at hv rx;simp only at hv;split at hv
        .rename_i e1 ex rows hn
         split at hv
         .rename_i dX
          obtain⟨rfl,hle⟩:=dX;have rx':=rx;simp only[aJ]at rx;obtain⟨cap,he,hlc,hm,CS,T,hb,hfit,hcs⟩:=rx.2.2 i.size (by rw[hn];rfl)
          rw[hn]at hm;simp only[O.len]at hm;have hl:(aU s.heap n).live=true:=by rw[hn];rfl
          have dF:=hs.heap.obj n;rw[hn]at dF;obtain⟨⟨rI,T',hb',oU⟩,dV,hI⟩:=dF;rw[hb]at hb';simp at hb';obtain⟨rfl,rfl⟩:=hb';split at hv
          .rename_i h0
           simp at hv;obtain⟨rfl,rfl⟩:=hv;exact same (zero h0 hlc he) rfl (by rw[he]at rx';exact rx')
          .rename_i h0
           split at hv
           .rename_i hin
            split at hv
            .rename_i hex
             subst hex;simp at hv;obtain⟨rfl,rfl⟩:=hv;simp only[dH]at hI;exact Zr true hs hd hn hb hfit hcs oU (by simpa using hm) he dV hI hrd hone hrl nG (by omega) (λFG oX=>fin he rP (TM hu n9 hi nG jr FG hb oX hone)) hK
            .simp at hv
           .rename_i hin
            split at hv
            .rename_i hroom
             simp at hv;obtain⟨rfl,rfl⟩:=hv;have hlen:((rows.drop off).take len).length=len:=by simp;omega
             obtain⟨olds,o1,o2,o3,o4⟩:=zH (Dm dV hle);rw[hlen]at o3;have hrun:=TN (P:=P) (w:=w) (ty:=o.type) hu n9 hi hz (sLen:=len) (sCap:=cap) (sc:=cap) (base:=some ⟨g.β n,g.o n+off*i.size,none⟩) (olds:=olds) (by rw[o3,ji]) (λ_=>⟨_,_,rfl,o4⟩) nG jr (xc:=xc) (by omega) hroom hby rfl
             have Dp:=grownCap_ge w (len+ys.length) cap e;have jI:((rows.drop off).take len++ys).length=len+ys.length:=by simp;omega
             have v5:(Builtin.zeroCells z.cells (grownCap w (len+ys.length) cap e - (len+ys.length))).toList.length=(grownCap w (len+ys.length) cap e - (len+ys.length))*i.size:=by simp[size_zeroCells,Bw]
             have IK:∀r∈(rows.drop off).take len++ys,r.length=i.size:=by
              intro r hr;rcases dc.1 hr with h1 |h1
              .obtain⟨j,hj,Dn⟩:=sR (mN (nM h1))
               exact(n7 dV (r:=j) (row:=r) (by simp[hj,Dn])).1
              .exact hrl r h1
             refine NI hs hd (es:=i.size) (ex:=true) (ys:=(rows.drop off).take len++ys) (C:=olds++news) (ok:=s.ok)
              (rest:=(Builtin.zeroCells z.cells (grownCap w (len+ys.length) cap e - (len+ys.length))).toList) (by rw[jI];exact fin he rP hrun) IK (by rw[Ea];exact zy o1 hrd)
              (λv hv=>(dc.1 hv).elim (o2 v) (hone v)) (by rw[jI];exact Dp) ?_ (NH sH _) λg' v' w' h1 h2=>?_
             .rw[lT,o3,nG,v5,ji i.size,<-Nat.add_mul,<-Nat.add_mul]
              exact lU _ (by omega)
             .simp only[jI]at h1 h2
              exact hK g' v' w' h1 h2
            .simp at hv
         .simp at hv
        .simp at hv
       |_=>rw[fX]at hv;simp at hv
     .simp at Bw
    .simp at ht
   .simp at ht
  .simp at h
 .simp at h
end
end Go.VS
namespace Go.VS
section
variable {φ:fy}
theorem Dq{h:List O}{m:Nat}{roots L:List Nat}(hc:cut h m roots=some L):L.Nodup/\(∀n∈roots,n∈L)/\(∀n∈L,n<h.length/\∀k∈(aU h n).dn,k∈L)/\m<=L.length/\∀k,k<m->L[k]?=some k:=by
 unfold cut at hc;simp only at hc;split at hc
 .rename_i dX
  obtain⟨h1,h2,h3⟩:=dX;simp only[gz]at hc;rw[hc]at h1 h2 h3;simp only[yO,gi,Bool.decide_and,bE]at h2 h3;refine⟨h1,h2,h3,?_,λk hk=>?_⟩
  .rw[<-hc];simp
  .rw[<-hc,sP (by simpa using hk)]
   simp[hk]
 .simp at hc
def iI(g:Gh)(L:List Nat):Gh:=⟨λk=>g.β (L.getD k 0),λk=>g.o (L.getD k 0),g.I⟩
theorem yl{h:List O}{L:List Nat}:(sub h L).length=L.length:=by simp[sub]
theorem mJ{h:List O}{L:List Nat}{k n:Nat}(hk:L[k]?=some n):aU (sub h L) k=(aU h n).dI (L.idxOf ·):=by
 simp[sub,aU,List.getD,hk]
theorem FH{h:List O}{L:List Nat}{k:Nat}(hk:L.length<=k):aU (sub h L) k = .dead:=by
 have:(sub h L).length<=k:=by rw[yl];exact hk
 simp[aU,List.getD,nN this]
theorem zI{o:O}{f:Nat->Nat}:(o.dI f).gL=o.gL:=by cases o<;>rfl
theorem Dr{o:O}{f:Nat->Nat}:(o.dI f).len=o.len:=by cases o<;>simp[O.dI,O.len]
theorem wO{o:O}{f:Nat->Nat}:(o.dI f).live=o.live:=by cases o<;>rfl
theorem IM{o:O}{f:Nat->Nat}:(o.dI f).tB=o.tB:=by cases o<;>rfl
theorem NJ{t:Nat}:∀{env:List (Nat×V)}{p:Nat×V},p∈env->t∈p.2.dn->t∈qW env
 | [],_,h,_=>by simp at h
 |q::r,p,h,ht=>by
  simp only[qW,dc];rcases dA.1 h with h1 |h1
  .subst h1;exact .inl ht
  .exact .inr (NJ h1 ht)
theorem Bx{L:List Nat}{n:Nat}(hn:n∈L):L[L.idxOf n]?=some n:=by
 have hlt:=xC hn;simp[qM hlt]
mutual
theorem FI{h:List O}{g:Gh}{w:World}{L:List Nat}:∀{x:V}{v:Value},(∀n∈x.dn,n∈L)->aJ φ h g w x v->aJ φ (sub h L) (iI g L) w (x.dI (L.idxOf ·)) v
 | .u,v,_,_=>by simp[V.dI,aJ]
 | .kC,v,_,hr=>by simpa[V.dI,aJ]using hr
 | .d x,v,_,hr=>by simp only[V.dI,aJ]at hr⊢;exact hr
 | .loc n r c,v,hl,hr=>by
  have hn:=hl n (by simp[V.dn])
  have hg:=Bx hn;simp only[V.dI,aJ]at hr⊢;refine⟨by rw[yl];exact xC hn,hr.2.1,λes he=>?_⟩
  rw[mJ hg,zI]at he;have:=hr.2.2 es he;simpa[iI,List.getD,hg]using this
 | .aQ n off len,v,hl,hr=>by
  have hn:=hl n (by simp[V.dn])
  have hg:=Bx hn;simp only[V.dI,aJ]at hr⊢;refine⟨by rw[yl];exact xC hn,hr.2.1,λes he=>?_⟩
  rw[mJ hg,zI]at he;rw[mJ hg,Dr];have:=hr.2.2 es he;simpa[iI,List.getD,hg]using this
 | .je n off len,v,hl,hr=>by
  have hn:=hl n (by simp[V.dn])
  have hg:=Bx hn;simp only[V.dI,aJ]at hr⊢;refine⟨by rw[yl];exact xC hn,hr.2.1,λes he=>?_⟩
  rw[mJ hg,zI]at he;rw[mJ hg,Dr];have:=hr.2.2 es he;simpa[iI,List.getD,hg]using this
 | .iT _,v,_,hr=>by simpa only[V.dI,aJ]using hr
 | .mp n,v,hl,hr=>by
  have hn:=hl n (by simp[V.dn])
  have hg:=Bx hn;simp only[V.dI,aJ]at hr⊢;refine⟨by rw[yl];exact xC hn,hr.2.1,λkv he=>?_⟩
  rw[mJ hg]at he;have h2:(iI g L).β (L.idxOf n)=g.β n:=by simp[iI,List.getD,hg]
  rw[h2];cases ho:aU h n with
  |mp IN=>exact hr.2.2 IN ho
  |_=>rw[ho]at he;simp[O.dI]at he
 | .rf cs,v,hl,hr=>by
  simp only[V.dI,aJ]at hr⊢;obtain⟨b,off,us,h1,h2,h3,h4⟩:=hr;refine⟨b,off,us,h1,?_,ym (λn hn=>hl n (by simpa[V.dn]using hn)) h3,h4⟩
  have hlen:∀{f:Nat->Nat}{xs:List V},(V.iL f xs).length=xs.length:=by
   intro f xs;induction xs with
   |nil=>rfl
   |cons x xs ih=>simp[V.iL,ih]
  rw[hlen];exact h2
 | .jj n,v,hl,hr=>by
  have hn:=hl n (by simp[V.dn])
  have hg:=Bx hn;simp only[V.dI,aJ]at hr⊢;refine⟨by rw[yl];exact xC hn,hr.2.1,λhe=>?_⟩
  rw[mJ hg,IM]at he;have h2:(iI g L).β (L.idxOf n)=g.β n:=by simp[iI,List.getD,hg]
  rw[h2];exact hr.2.2 he
 | .fn f a b,v,hl,hr=>by
  simp only[V.dI,aJ]at hr⊢;obtain⟨A,B,h1,h2,h3⟩:=hr;exact⟨A,B,h1,ym (λn hn=>hl n (by simp[V.dn,hn])) h2,ym (λn hn=>hl n (by simp[V.dn,hn])) h3⟩
 | .ag cs,v,hl,hr=>by
  simp only[V.dI,aJ]at hr⊢;obtain⟨A,h1,h2,h3⟩:=hr;exact⟨A,h1,ym (λn hn=>hl n (by simpa[V.dn]using hn)) h2,h3⟩
 | .tu cs,v,hl,hr=>by
  simp only[V.dI,aJ]at hr⊢;obtain⟨A,h1,h2⟩:=hr;exact⟨A,h1,ym (λn hn=>hl n (by simpa[V.dn]using hn)) h2⟩
theorem ym{h:List O}{g:Gh}{w:World}{L:List Nat}:∀{xs:List V}{vs:List Value},(∀n∈V.gA xs,n∈L)->bR φ h g w xs vs->bR φ (sub h L) (iI g L) w (V.iL (L.idxOf ·) xs) vs
 | [],[],_,_=>by simp[V.iL,bR]
 |x::xs,v::vs,hl,hr=>by
  simp only[V.iL,bR]at hr⊢;exact⟨FI (λn hn=>hl n (by simp[V.gA,hn])) hr.1,ym (λn hn=>hl n (by simp[V.gA,hn])) hr.2⟩
 | [],_::_,_,hr=>by simp[bR]at hr
 |_::_,[],_,hr=>by simp[bR]at hr
end
theorem Zz{xs:List V}{x:V}{n:Nat}(hx:x∈xs)(hn:n∈x.dn):n∈V.gA xs:=by
 induction xs with
 |nil=>simp at hx
 |cons y ys ih =>
  simp only[V.gA,dc];rcases dA.1 hx with h |h
  .subst h;exact .inl hn
  .exact .inr (ih h)
theorem T1{f:Nat->Nat}:∀{xs:List V}{j:Nat},(V.iL f xs)[j]?=(xs[j]?).map (V.dI f)
 | [],j=>by simp[V.iL]
 |x::xs,0=>by simp[V.iL]
 |x::xs,j+1=>by simpa[V.iL]using T1 (xs:=xs) (j:=j)
theorem IP{f:Nat->Nat}:∀{xs:List V},(V.iL f xs).length=xs.length
 | []=>rfl
 |x::xs=>by simp[V.iL,IP (xs:=xs)]
theorem aie{h:List O}{g:Gh}{w:World}{L:List Nat}{b o:Nat}{x:O}(hl:∀n∈x.dn,n∈L)(hr:gC φ h g w b o x):gC φ (sub h L) (iI g L) w b o (x.dI (L.idxOf ·)):=by
 cases x with
 |dead=>trivial
 |aG es ex rows=>exact hr
 |gK es rows =>
  simp only[O.dI,gC]at hr⊢;refine⟨by simpa using hr.1,λr row hrow=>?_,hr.2.2⟩
  rw[vB,gJ]at hrow;obtain⟨NL,h0,rfl⟩:=hrow;obtain⟨h1,h2⟩:=hr.2.1 r NL h0;refine⟨by rw[IP];exact h1,λj c hj=>?_⟩
  rw[T1,gJ]at hj;obtain⟨c0,hc0,rfl⟩:=hj;obtain⟨v,h3,h4,h5⟩:=h2 j c0 hc0;refine⟨v,h3,h4,FI (λn hn=>hl n ?_) h5⟩
  simp only[O.dn,Au];exact⟨NL,kY h0,Zz (kY hc0) hn⟩
 |mp kv =>
  simp only[O.dI,gC]at hr⊢;obtain⟨ES,kM,h1,h2,h3⟩:=hr;refine⟨ES,kM,h1,⟨by simpa using h2.1,λi p e hp he=>?_⟩,h3⟩
  rw[vB,gJ]at hp;obtain⟨p0,mY,rfl⟩:=hp;obtain⟨h4,h5⟩:=h2.2 i p0 e mY he;refine⟨h4,FI (λn hn=>hl n ?_) h5⟩
  simp only[O.dn,Au];exact⟨p0,kY mY,hn⟩
 |lp ps a c e env =>
  simp only[O.dI,gC]at hr⊢;obtain⟨r,nt,h1,h0,h2,h3,h4,h5⟩:=hr;refine⟨r,nt,h1,h0,h2,h3,λp hp=>?_,h5⟩
  simp only[yQ,gF]at hp;obtain⟨q,hq,rfl⟩:=hp;exact FI (λn hn=>hl n (by simp only[O.dn];exact NJ hq hn)) (h4 q hq)
theorem FJ{h:List O}{g:Gh}{w:World}{m:Nat}{roots L:List Nat}(hc:cut h m roots=some L)(hr:eX φ h g w):eX φ (sub h L) (iI g L) w:=by
 obtain⟨hnd,_,bN,_,_⟩:=Dq hc;have hout:∀k,¬k<L.length->aU (sub h L) k = .dead:=λk hk=>FH (by omega)
 refine⟨λk=>?_,λa b ha hb he=>?_,hr.new⟩
 .by_cases hk:k<L.length
  .have hg:L[k]?=some L[k]:=by simp[hk]
   rw[mJ hg];have:=aie (L:=L) (bN L[k] (vw hk)).2 (hr.obj L[k]);simpa[iI,List.getD,hg]using this
  .rw[hout k hk];trivial
 .have ka:a<L.length:=by
   by_cases hk:a<L.length
   .exact hk
   .rw[hout a hk]at ha;simp[O.live]at ha
  have kb:b<L.length:=by
   by_cases hk:b<L.length
   .exact hk
   .rw[hout b hk]at hb;simp[O.live]at hb
  have ga:L[a]?=some L[a]:=by simp[ka]
  have gb:L[b]?=some L[b]:=by simp[kb]
  rw[mJ ga,wO]at ha;rw[mJ gb,wO]at hb
  have:L[a]=L[b]:=hr.inj _ _ ha hb (by simpa[iI,List.getD,ga,gb]using he)
  have i1:=PA hnd a ka;have i2:=PA hnd b kb;rw[this]at i1;omega
theorem NM{h:List O}{g:Gh}{w:World}{m:Nat}{roots L:List Nat}(hc:cut h m roots=some L):Frame m h g w (sub h L) (iI g L) w:=by
 obtain⟨hnd,_,bN,hm,FK⟩:=Dq hc;refine⟨Ext.refl _ _,gj _,rfl,rfl,rfl,λn hn=>?_,λb _ _=>⟨rfl,rfl⟩,λn hn=>?_,λn hn=>⟨λes he=>?_,λkv hk=>?_,λhk=>?_⟩⟩
 .simp[iI,List.getD,FK n hn]
 .by_cases hk:n<L.length
  .have hg:L[n]?=some L[n]:=by simp[hk]
   rw[mJ hg,wO]at hn;exact .inl ⟨L[n],hn,by simp[iI,List.getD,hg]⟩
  .rw[FH (by omega)]at hn;simp[O.live]at hn
 .rw[mJ (FK n hn),zI]at he
  rw[mJ (FK n hn),Dr];refine⟨he,rfl,?_⟩
  have:(iI g L).β n=g.β n:=by simp[iI,List.getD,FK n hn]
  exact nC.of_eq rfl
 .rw[mJ (FK n hn)]at hk
  cases ho:aU h n with
  |mp IN=>exact⟨IN,rfl⟩
  |_=>rw[ho]at hk;simp[O.dI]at hk
 .rw[mJ (FK n hn),IM]at hk
  exact hk
theorem aif{live:List Nat}{e:List (Nat×V)}{t:Nat}:cA (jP live e) t=if t∈live then cA e t else .u:=by
 unfold jP;induction live with
 |nil=>simp[cA]
 |cons d ds ih =>
  simp only[fT,cA,dA,ih];by_cases h:d=t
  .simp[h]
  .have h':¬t=d:=λe=>h e.symm
   simp[h,h']
theorem ZA{f:Nat->Nat}{t:Nat}:∀{e:List (Nat×V)},cA (e.map λp=>(p.1,p.2.dI f)) t=(cA e t).dI f
 | []=>rfl
 |p::e=>by
  simp only[fT,cA];split
  .rfl
  .exact ZA
theorem ZB{t n:Nat}:∀{e:List (Nat×V)},n∈(cA e t).dn->n∈qW e
 | [],h=>by simp[cA,V.dn]at h
 |p::e,h=>by
  simp only[qW,dc];simp only[cA]at h;split at h
  .exact .inl h
  .exact .inr (ZB h)
theorem T3{nt m dB:Nat}{s:St}{g:Gh}{a:Act}{w:World}(hs:cm φ nt m dB s g a w){live:List Nat}{p:List (Nat×V)×List O}(hc:canon m live s.env s.heap=some p)(ok:Bool):
  ∃g',cm φ nt m dB ⟨p.1,p.2,ok⟩ g' a w/\Frame m s.heap g w p.2 g' w:=by
 have key:∀{h:List O}{g:Gh}{t:Nat},aJ φ h g w (cA s.env t) (a.tmps.getD t undef)->aJ φ h g w (cA (jP live s.env) t) (a.tmps.getD t undef):=by
  intro h g t hr;rw[aif];split
  .exact hr
  .simp[aJ]
 unfold canon at hc;split at hc
 .rename_i hh
  simp only[gz]at hc;subst hc;rw[<-hh];exact⟨g,⟨λt=>key (hs.env t),hs.heap,hs.size,hs.defers,hs.len⟩,Frame.refl _ _ _ _⟩
 .simp only[gJ]at hc
  obtain⟨L,hL,rfl⟩:=hc;obtain⟨_,yp,_,hm,_⟩:=Dq hL;refine⟨iI g L,⟨λt=>?_,FJ hL hs.heap,hs.size,hs.defers.frame (NM hL),by rw[yl];exact hm⟩,NM hL⟩
  rw[ZA];exact FI (λn hn=>yp n (ZB hn)) (key (hs.env t))
end
end Go.VS
namespace Go.VS
section
variable {φ:fy}
theorem ZC{h:List O}{n es:Nat}{ex:Bool}{rows:List (List D)}(hn:aU h n = .aG es ex rows):aZ h n=h.set n (.aG es false rows):=by
 simp[aZ,hn]
theorem ZD{h:List O}{n:Nat}(hn:∀es ex rows,aU h n≠.aG es ex rows):aZ h n=h:=by
 unfold aZ;split
 .rename_i es ex rows hh
  exact absurd hh (hn es ex rows)
 .rfl
theorem ZE{h:List O}{n k:Nat}:(∃es ex rows,k=n/\aU h k = .aG es ex rows/\aU (aZ h n) k = .aG es false rows)\/aU (aZ h n) k=aU h k/\(k=n->∀es ex rows,aU h k≠.aG es ex rows):=by
 by_cases hx:∃es ex rows,aU h n = .aG es ex rows
 .obtain⟨es,ex,rows,hn⟩:=hx
  rw[ZC hn];by_cases hk:k=n
  .subst hk
   exact .inl ⟨es,ex,rows,rfl,hn,wu (Bi (by rw[hn];rfl))⟩
  .exact .inr ⟨pS hk,λh=>absurd h hk⟩
 .have hne:∀es ex rows,aU h n≠.aG es ex rows:=λes ex rows hh=>hx ⟨es,ex,rows,hh⟩
  rw[ZD hne];exact .inr ⟨rfl,λh=>by subst h;exact hne⟩
theorem aih{h:List O}{g:Gh}{w:World}(m n:Nat)(hr:eX φ h g w):∃I',eX φ (aZ h n) (g.eo I') w/\gU h g w (aZ h n) (g.eo I') w/\Frame m h g w (aZ h n) (g.eo I') w:=by
 by_cases hx:∃es ex rows,aU h n = .aG es ex rows
 .obtain⟨es,ex,rows,hn⟩:=hx
  rw[ZC hn];have hl:(aU h n).live=true:=by rw[hn];rfl
  have dF:=hr.obj n;rw[hn]at dF;obtain⟨⟨CS,T,hb,hfit⟩,dV,hI⟩:=dF;have aii:g.I (g.β n)<=g.o n+es*rows.length:=by
   cases ex<;>simp at hI<;>omega
  have hE:Ext g.I w (iQ g.I (g.β n) (g.o n+es*rows.length)) w:=⟨λb=>by simp only[iQ];split<;>simp_all,λ_ _ _=>rfl⟩
  have yg:∀b,b≠g.β n->iQ g.I (g.β n) (g.o n+es*rows.length) b=g.I b:=λb hb=>by simp[iQ,hb]
  have hle:gU h g w (h.set n (.aG es false rows)) (g.eo (iQ g.I (g.β n) (g.o n+es*rows.length))) w:=wv hr hl (jU.refl _ _) hE
   (λes' he'=>⟨by rw[hn];simpa[O.gL]using he',by rw[hn];rfl,nC.of_eq rfl⟩) (λkv hk=>by simp at hk)
  refine⟨_,wx hr hl (jU.refl _ _) hle yg ⟨⟨CS,T,hb,hfit⟩,YQ hE (λ_=>rfl) dV,by simp[Gh.eo,iQ]⟩,hle,wy _ hl (jU.refl _ _) hE yg hle⟩
 .have hne:∀es ex rows,aU h n≠.aG es ex rows:=λes ex rows hh=>hx ⟨es,ex,rows,hh⟩
  rw[ZD hne];exact⟨g.I,hr,gU.refl h g w,Frame.refl m h g w⟩
theorem gU.trans{h h' h'':List O}{g g' g'':Gh}{w w' w'':World}(a:gU h g w h' g' w')(b:gU h' g' w' h'' g'' w''):gU h g w h'' g'' w'' where
 ext:=a.ext.trans b.ext
 len:=ng a.len b.len
 arr n es hn he:=by
  obtain⟨h1,h2,h3,h4,h5⟩:=b.arr n es (pg hn a.len) he;obtain⟨k1,k2,k3,k4,k5⟩:=a.arr n es hn h1;rw[k2]at h5;exact⟨k1,h2.trans k2,h3.trans k3,h4.trans k4,k5.trans h5⟩
 mp n kv hn hk:=by
  obtain⟨⟨kv',h1⟩,h2⟩:=b.mp n kv (pg hn a.len) hk;obtain⟨k1,k2⟩:=a.mp n kv' hn h1;exact⟨k1,h2.trans k2⟩
 lp n hn hk:=by
  obtain⟨h1,h2⟩:=b.lp n (pg hn a.len) hk;obtain⟨k1,k2⟩:=a.lp n hn h1;exact⟨k1,h2.trans k2⟩
theorem ZF{w:World}(m:Nat):∀(ns:List Nat){h:List O}{g:Gh},eX φ h g w->∃I',eX φ (aX h ns) (g.eo I') w/\gU h g w (aX h ns) (g.eo I') w/\Frame m h g w (aX h ns) (g.eo I') w
 | [],h,g,hr=>⟨g.I,hr,gU.refl h g w,Frame.refl m h g w⟩
 |n::ns,h,g,hr=>by
  obtain⟨I1,h1,h2,h3⟩:=aih m n hr;obtain⟨I2,k1,k2,k3⟩:=ZF m ns h1;exact⟨I2,k1,h2.trans k2,h3.trans k3⟩
theorem NN:∀(ns:List Nat){h:List O}{k:Nat},aU (aX h ns) k=aU h k/\(k∈ns->∀es rows,aU h k≠.aG es true rows)\/∃es ex rows,aU h k = .aG es ex rows/\aU (aX h ns) k = .aG es false rows
 | [],h,k=>.inl ⟨rfl,by simp⟩
 |n::ns,h,k=>by
  simp only[aX];rcases NN ns (h:=aZ h n) (k:=k)with⟨h1,h2⟩ |⟨es,ex,rows,h1,h2⟩
  .rcases ZE (h:=h) (n:=n) (k:=k)with⟨es,ex,rows,e1,e2,e3⟩ |⟨e1,e2⟩
   .exact .inr ⟨es,ex,rows,e2,h1.trans e3⟩
   .refine .inl ⟨h1.trans e1,λhk es rows=>?_⟩
    rcases dA.1 hk with hk |hk
    .exact e2 hk es true rows
    .rw[<-e1];exact h2 hk es rows
  .rcases ZE (h:=h) (n:=n) (k:=k)with⟨es',ex',iE,e1,e2,e3⟩ |⟨e1,e2⟩
   .rw[e3]at h1
    simp only[O.aG.injEq]at h1;obtain⟨rfl,_,rfl⟩:=h1;exact .inr ⟨es',ex',iE,e2,h2⟩
   .exact .inr ⟨es,ex,rows,by rw[<-e1];exact h1,h2⟩
def T4(h:List O)(ns:List Nat):Prop:=∀n∈ns,∀es ex rows,aU h n = .aG es ex rows->ex=false
mutual
theorem ZG{h:List O}{g:Gh}{w:World}(hr:eX φ h g w):∀{x:V}{v:Value}{d:D},T4 h x.dn->eE h x=some d->aJ φ h g w x v->bQ φ g.I w d v
 | .u,v,d,_,ht,_=>by simp[eE]at ht
 | .kC,v,d,_,ht,_=>by simp[eE]at ht
 | .d x,v,d,_,ht,hv=>by simp[eE]at ht;subst ht;simpa only[aJ]using hv
 | .loc n r c,v,d,hf,ht,hv=>by
  simp only[eE]at ht;split at ht
  .rename_i es ex rows hn
   have hex:=hf n (by simp[V.dn]) es ex rows hn
   subst hex;simp only[nO]at ht;obtain⟨row,hrow,ht⟩:=ht;split at ht
   .rename_i hc
    simp at ht;subst ht;have dF:=hr.obj n;rw[hn]at dF;obtain⟨_,dV,hI⟩:=dF;simp at hI;simp only[aJ]at hv;have jx:=hv.2.2 es (by rw[hn];rfl)
    obtain⟨h1,h2⟩:=n7 dV hrow;have FB:r<rows.length:=by
     rcases k9 r rows.length with h3 |h3
     .exact h3
     .simp[nN h3]at hrow
    have hin:(r+1)*es<=es*rows.length:=by rw[ji es];exact lU es FB
    rw[qP]at hin;simp only[bQ];refine⟨_,_,jx,by simp;omega,wj λj x hj=>?_⟩
    rw[pz]at hj;have:=Fo h2 hj
    rwa [<-Nat.add_assoc]at this
   .simp at ht
  .simp at ht
 | .aQ n off len,v,d,hf,ht,hv=>by
  simp only[eE]at ht;split at ht
  .rename_i es ex rows hn
   have hex:=hf n (by simp[V.dn]) es ex rows hn
   subst hex;split at ht
   .rename_i hc
    simp at ht;subst ht;have dF:=hr.obj n;rw[hn]at dF;obtain⟨_,dV,hI⟩:=dF;simp at hI;simp only[aJ]at hv;obtain⟨cap,jx,hlc,_⟩:=hv.2.2 es (by rw[hn];rfl)
    simp only[bQ];have hlen:((rows.drop off).take len).length=len:=by simp;omega
    refine⟨_,cap,by rw[hlen];exact jx,by rw[hlen];exact hlc,λh=>by simp at h,λ_=>⟨_,rfl,λ_=>⟨rfl,?_,Dm dV hc⟩⟩⟩
    rw[hlen,hI];have h1:(off+len)*es<=es*rows.length:=by rw[ji es];exact lU es hc
    rw[nh]at h1
    have:es*len=len*es:=ji _ _
    simp only;omega
   .simp at ht
  .simp at ht
 | .iT es,v,d,_,ht,hv=>by
  simp[eE]at ht;subst ht;simp only[aJ]at hv;obtain⟨ad,rfl⟩:=hv;simp only[bQ];exact⟨some ad,0,rfl,by simp,by simp,λ_=>⟨ad,rfl,by simp⟩⟩
 | .mp n,v,d,_,ht,_=>by simp[eE]at ht
 | .jj n,v,d,_,ht,_=>by simp[eE]at ht
 | .rf cs,v,d,hf,ht,hv=>by
  simp only[eE,gJ]at ht;obtain⟨x,hx,rfl⟩:=ht;simp only[aJ]at hv;obtain⟨b,off,us,h1,h2,h3,h4⟩:=hv;have hd:=FL hr (λn hn=>hf n (by simpa[V.dn]using hn)) hx h3
  have e1:=oP h3;have e2:=sF hd;simp only[bQ];exact⟨b,off,h1,by omega,No hd (λj u hj=>(h4 j u hj).1) (λu hu=>let ⟨j,hj,he⟩:=sR hu;(h4 j u (by simp[hj,he])).2)⟩
 | .fn f a b,v,d,hf,ht,hv=>by
  simp only[eE,nO,gJ]at ht;obtain⟨x,hx,y,hy,rfl⟩:=ht;simp only[aJ]at hv;obtain⟨A,B,h1,h2,h3⟩:=hv;simp only[bQ];exact⟨A,B,h1,FL hr (λn hn=>hf n (by simp[V.dn,hn])) hx h2,FL hr (λn hn=>hf n (by simp[V.dn,hn])) hy h3⟩
 | .ag cs,v,d,hf,ht,hv=>by
  simp only[eE,gJ]at ht;obtain⟨x,hx,rfl⟩:=ht;simp only[aJ]at hv;obtain⟨A,h1,h2,h3⟩:=hv;simp only[bQ];exact⟨A,h1,FL hr (λn hn=>hf n (by simpa[V.dn]using hn)) hx h2,h3⟩
 | .tu cs,v,d,_,ht,_=>by simp[eE]at ht
theorem FL{h:List O}{g:Gh}{w:World}(hr:eX φ h g w):∀{xs:List V}{vs:List Value}{ds:List D},T4 h (V.gA xs)->iq h xs=some ds->bR φ h g w xs vs->cy φ g.I w ds vs
 | [],[],ds,_,ht,_=>by simp[iq]at ht;subst ht;simp[cy]
 |x::xs,v::vs,ds,hf,ht,hv=>by
  simp only[iq,nO,gJ]at ht;obtain⟨y,hy,ys,hys,rfl⟩:=ht;simp only[bR]at hv;simp only[cy];exact⟨ZG hr (λn hn=>hf n (by simp[V.gA,hn])) hy hv.1,FL hr (λn hn=>hf n (by simp[V.gA,hn])) hys hv.2⟩
 | [],_::_,_,_,_,hv=>by simp[bR]at hv
 |_::_,[],_,_,_,hv=>by simp[bR]at hv
end
def T5(h h':List O):Prop:=∀k,aU h' k=aU h k\/∃es ex ex' rows,aU h k = .aG es ex rows/\aU h' k = .aG es ex' rows
mutual
theorem ZH{h h':List O}(hs:T5 h h'):∀(x:V),eE h' x=eE h x
 | .u=>by simp[eE]
 | .kC=>by simp[eE]
 | .d x=>by simp[eE]
 | .loc n r c=>by
  simp only[eE];rcases hs n with h1 |⟨es,ex,ex',rows,h1,h2⟩
  .rw[h1]
  .rw[h1,h2]
 | .aQ n off len=>by
  simp only[eE];rcases hs n with h1 |⟨es,ex,ex',rows,h1,h2⟩
  .rw[h1]
  .rw[h1,h2]
 | .je n off len=>by simp[eE]
 | .iT _=>by simp[eE]
 | .mp n=>by simp[eE]
 | .jj n=>by simp[eE]
 | .rf cs=>by simp only[eE,FM hs cs]
 | .fn f a b=>by simp only[eE,FM hs a,FM hs b]
 | .ag cs=>by simp only[eE,FM hs cs]
 | .tu cs=>by simp[eE]
theorem FM{h h':List O}(hs:T5 h h'):∀(xs:List V),iq h' xs=iq h xs
 | []=>by simp[iq]
 |x::xs=>by simp only[iq,ZH hs x,FM hs xs]
end
theorem ZI(ns:List Nat)(h:List O):T5 h (aX h ns):=λk=>by
 rcases NN ns (h:=h) (k:=k)with⟨h1,_⟩ |⟨es,ex,rows,h1,h2⟩
 .exact .inl h1
 .exact .inr ⟨es,ex,false,rows,h1,h2⟩
theorem ZJ(ns:List Nat)(h:List O):T4 (aX h ns) ns:=λn hn es ex rows he=>by
 rcases NN ns (h:=h) (k:=n)with⟨h1,h2⟩ |⟨es',ex',iE,h1,h2⟩
 .cases ex with
  |false=>rfl
  |true=>rw[h1]at he;exact absurd he (h2 hn es rows)
 .rw[h2]at he
  simp at he;exact he.2.1
theorem cm.frozen{nt m dB:Nat}{s:St}{g:Gh}{a:Act}{w:World}(hs:cm φ nt m dB s g a w)(ns:List Nat)(ok:Bool):∃I',cm φ nt m dB ⟨s.env,aX s.heap ns,ok⟩ (g.eo I') a w/\gU s.heap g w (aX s.heap ns) (g.eo I') w/\Frame m s.heap g w (aX s.heap ns) (g.eo I') w:=by
 obtain⟨I',h1,h2,h3⟩:=ZF m ns hs.heap;exact⟨I',⟨λk=>lI h2 (hs.env k),h1,hs.size,hs.defers.frame h3,ng hs.len h2.len⟩,h2,h3⟩
theorem NO{nt m dB:Nat}{s:St}{g:Gh}{a:Act}{w:World}(hs:cm φ nt m dB s g a w){xs:List V}{vs:List Value}{ds:List D}(ht:iq s.heap xs=some ds)(hv:bR φ s.heap g w xs vs)(ok:Bool):
  ∃I',cm φ nt m dB ⟨s.env,aX s.heap (V.gA xs),ok⟩ (g.eo I') a w/\Frame m s.heap g w (aX s.heap (V.gA xs)) (g.eo I') w/\cy φ I' w ds vs:=by
 obtain⟨I',h1,h2,h3⟩:=hs.frozen (V.gA xs) ok;exact⟨I',h1,h3,FL h1.heap (ZJ _ _) (by rw[FM (ZI _ _)];exact ht) (ya h2 hv)⟩
theorem T6{nt m dB:Nat}{a:Act}{w:World}:∀(ds:List Nat){s:St}{g:Gh},cm φ nt m dB s g a w->(vK s ds).ok=true->∃g',cm φ nt m dB (vK s ds) g' a w/\Frame m s.heap g w (vK s ds).heap g' w
 | [],s,g,hs,_=>⟨g,hs,Frame.refl _ _ _ _⟩
 |d::ds,s,g,hs,hok=>by
  simp only[vK]at hok⊢;have T7:=G1 ds hok;obtain⟨v,hh,hv⟩:=Bp T7;rw[hv]at hok⊢;simp only[gJ,bp,ud]at hv;obtain⟨p,⟨x,hx,rfl⟩,rfl,rfl⟩:=hv;simp only[St.gk]at hok⊢;have hr:=hs.env d;have hL:V.gA [s.get (.t d)]=(s.get (.t d)).dn:=by simp[V.gA]
  obtain⟨I',h1,h2,h3⟩:=NO hs (xs:=[s.get (.t d)]) (vs:=[a.tmps.getD d undef]) (ds:=[x]) (by simp[iq,hx]) (by simp only[bR];exact⟨hr,trivial⟩) s.ok
  rw[hL]at h1 h2;simp only[cy]at h3;have hs':cm φ nt m dB ⟨(d,.d x)::s.env,aX s.heap (s.get (.t d)).dn,s.ok⟩ (g.eo I') a w:=by
   refine⟨λk=>?_,h1.heap,h1.size,h1.defers,h1.len⟩
   simp only[cA];by_cases hk:d=k
   .subst hk;rw[aK rfl];simp only[aJ];exact h3.1
   .rw[aE hk];exact h1.env k
  obtain⟨g',k1,k2⟩:=T6 ds hs' hok;exact⟨g',k1,h2.trans k2⟩
end
end Go.VS
namespace Go.VS
section
variable {P:Program}{φ:fy}
variable {nt m dB:Nat}{s:St}{g:Gh}{a:Act}{w:World}{K:Act->World->Prop}{Q:Exit->Act->World->Prop}{o:Oper}
theorem FN:∀{L:List Nat}{os:List O}{h:List O},(aD h L os).length=h.length
 | [],_,_=>by simp[aD]
 |n::L,[],_=>by simp[aD]
 |n::L,o::os,h=>by simp[aD,FN (L:=L)]
theorem T8:∀{L:List Nat}{os:List O}{h:List O}{k:Nat},k∉L->aU (aD h L os) k=aU h k
 | [],_,_,_,_=>by simp[aD]
 |n::L,[],_,_,_=>by simp[aD]
 |n::L,o::os,h,k,hk=>by
  simp only[dA,nQ]at hk;rw[aD,T8 hk.2,pS hk.1]
theorem ZK:∀{L:List Nat}{os:List O}{h:List O},L.Nodup->(∀n∈L,n<h.length)->L.length<=os.length->∀{i n:Nat},L[i]?=some n->aU (aD h L os) n=aU os i
 | [],_,_,_,_,_,_,_,hi=>by simp at hi
 |n::L,[],_,_,_,hl,_,_,_=>by simp at hl
 |n::L,o::os,h,hnd,hlt,hl,i,k,hi=>by
  simp only[Eb]at hnd;simp only[gX]at hl;cases i with
  |zero =>
   simp at hi;subst hi;rw[aD,T8 hnd.1,wu (hlt n (by simp))]
   rfl
  |succ i =>
   rw[aD,ZK hnd.2 (λx hx=>by simpa using hlt x (by simp[hx])) (by omega) (i:=i) (by simpa using hi)]
   rfl
theorem ZL{h h':List O}{n:Nat}(hn:n<h.length):aU (h++h') n=aU h n:=by simp[aU,List.getD,sP hn]
theorem aij{h h':List O}{n:Nat}(hn:h.length<=n):aU (h++h') n=aU h' (n - h.length):=by simp[aU,List.getD,At hn]
theorem aik{h:List O}{f:O->O}(hf:f .dead = .dead){n:Nat}:aU (h.map f) n=f (aU h n):=by
 simp only[aU,List.getD,vB];cases h[n]? with
 |none=>exact hf.symm
 |some o=>rfl
theorem ail{h:List O}{k n:Nat}:aU (h.drop k) n=aU h (k+n):=by simp[aU,List.getD]
def mK(h:List O)(L:List Nat)(h1:List O):List O:=aD h L (h1.map (O.dI (back L h.length)))++(h1.drop L.length).map (O.dI (back L h.length))
def jJ(h:List O)(L:List Nat)(g g1:Gh):Gh:=⟨λk=>if k<h.length then g.β k else g1.β (k - h.length+L.length),λk=>if k<h.length then g.o k else g1.o (k - h.length+L.length),g1.I⟩
structure jW(φ:fy)(h:List O)(L:List Nat)(g:Gh)(w:World)(h1:List O)(g1:Gh)(w1:World):Prop where
 hr:eX φ h g w
 nodup:L.Nodup
 lt:∀n∈L,n<h.length
 len:L.length<=h1.length
 iH:eX φ h1 g1 w1
 fr:Frame L.length (sub h L) (iI g L) w h1 g1 w1
section
variable {h h1:List O}{L:List Nat}{g1:Gh}{w1:World}
theorem ZM:(mK h L h1).length=h.length+(h1.length - L.length):=by simp[mK,FN]
theorem jW.old(_:jW φ h L g w h1 g1 w1){k:Nat}(hk:k<h.length)(hL:k∉L):aU (mK h L h1) k=aU h k:=by
 rw[mK,ZL (by rw[FN];exact hk),T8 hL]
theorem jW.IQ(M:jW φ h L g w h1 g1 w1){i:Nat}(hi:i<h1.length):back L h.length i<(mK h L h1).length:=by
 rw[ZM,back];split
 .rename_i hlt
  have:L.getD i 0=L[i]:=by simp[List.getD,hlt]
  rw[this];have:=M.lt L[i] (vw hlt);omega
 .omega
theorem jW.at(M:jW φ h L g w h1 g1 w1)(i:Nat):aU (mK h L h1) (back L h.length i)=(aU h1 i).dI (back L h.length):=by
 have hm:∀(hh:List O)(n:Nat),aU (hh.map (O.dI (back L h.length))) n=(aU hh n).dI (back L h.length):=λhh n=>aik rfl
 by_cases hi:i<L.length
 .have hg:L[i]?=some L[i]:=by simp[hi]
  have hb:back L h.length i=L[i]:=by simp[back,hi,List.getD]
  rw[hb,mK,ZL (by rw[FN];exact M.lt _ (vw hi)),ZK M.nodup M.lt (by simpa using M.len) hg,hm]
 .have hb:back L h.length i=h.length+(i - L.length):=by simp[back,hi]
  rw[hb,mK,aij (by rw[FN];omega),FN,Pw,hm,ail]
  congr 2;omega
theorem jW.gb(M:jW φ h L g w h1 g1 w1)(i:Nat):(jJ h L g g1).β (back L h.length i)=g1.β i/\(jJ h L g g1).o (back L h.length i)=g1.o i:=by
 by_cases hi:i<L.length
 .have hg:L[i]?=some L[i]:=by simp[hi]
  have hb:back L h.length i=L[i]:=by simp[back,hi,List.getD]
  have hlt:=M.lt _ (vw hi);have hp:=M.fr.oQ i hi;simp only[iI,List.getD,hg,vD]at hp;simp[jJ,hb,hlt,hp]
 .have hb:back L h.length i=h.length+(i - L.length):=by simp[back,hi]
  have e:i - L.length+L.length=i:=by omega
  have e2:¬h.length+(i - L.length)<h.length:=by omega
  simp[jJ,hb,e,e2]
theorem jW.split(M:jW φ h L g w h1 g1 w1)(k:Nat):(k<h.length/\k∉L)\/∃i,k=back L h.length i:=by
 by_cases hk:k<h.length
 .by_cases hL:k∈L
  .refine .inr ⟨L.idxOf k,?_⟩
   have h1:=xC hL;simp[back,h1,List.getD]
  .exact .inl ⟨hk,hL⟩
 .refine .inr ⟨L.length+(k - h.length),?_⟩
  rw[back,aE (by omega)]
  omega
theorem jW.apart(M:jW φ h L g w h1 g1 w1){k:Nat}(hL:k∉L)(hl:(aU h k).live=true):∀i,(aU (sub h L) i).live=true->(iI g L).β i≠g.β k:=by
 intro i hi hb;by_cases hlt:i<L.length
 .have hg:L[i]?=some L[i]:=by simp[hlt]
  rw[mJ hg,wO]at hi;simp only[iI,List.getD,hg,vD]at hb;have:=M.hr.inj _ _ hi hl hb;exact hL (this▸vw hlt)
 .rw[FH (by omega)]at hi;simp[O.live]at hi
theorem jW.hle(M:jW φ h L g w h1 g1 w1):gU h g w (mK h L h1) (jJ h L g g1) w1 where
 ext:=M.fr.ext
 len:=by rw[ZM];omega
 arr n es hn he:=by
  refine⟨?_,by simp[jJ,hn],by simp[jJ,hn],?_⟩
  all_goals
   by_cases hL:n∈L
   .have hi:=xC hL
    have hg:=Bx hL;have hb:back L h.length (L.idxOf n)=n:=by simp[back,hi,List.getD]
    have e1:=M.at (L.idxOf n);rw[hb]at e1;rw[e1,zI]at he;obtain⟨k1,k2,k3⟩:=(M.fr.oR _ hi).arr es he;rw[mJ hg]at k1 k2;rw[zI]at k1;rw[Dr]at k2;simp only[iI,List.getD,hg,vD]at k3
    first
     |exact k1
     |(rw[e1,Dr];exact⟨k2,k3⟩)
   .rw[M.old hn hL]at he
    have hl:=Bj he;have hk:=M.fr.keep (g.β n) (M.hr.block hl) (M.apart hL hl)
    first
     |exact he
     |(rw[M.old hn hL];exact⟨rfl,nC.of_eq hk.1⟩)
 mp n kv hn hk:=by
  refine⟨?_,by simp[jJ,hn]⟩
  by_cases hL:n∈L
  .have hi:=xC hL
   have hg:=Bx hL;have hb:back L h.length (L.idxOf n)=n:=by simp[back,hi,List.getD]
   have e1:=M.at (L.idxOf n);rw[hb,hk]at e1;cases ho:aU h1 (L.idxOf n)with
   |mp kv1 =>
    obtain⟨kv2,h2⟩:=(M.fr.oR _ hi).mp kv1 ho;rw[mJ hg]at h2;cases hq:aU h n with
    |mp kv3=>exact⟨kv3,rfl⟩
    |_=>rw[hq]at h2;simp[O.dI]at h2
   |_=>rw[ho]at e1;simp[O.dI]at e1
  .rw[M.old hn hL]at hk
   exact⟨kv,hk⟩
 lp n hn hk:=by
  refine⟨?_,by simp[jJ,hn]⟩
  by_cases hL:n∈L
  .have hi:=xC hL
   have hg:=Bx hL;have hb:back L h.length (L.idxOf n)=n:=by simp[back,hi,List.getD]
   have e1:=M.at (L.idxOf n);rw[hb]at e1;rw[e1,IM]at hk;have h2:=(M.fr.oR _ hi).lp hk
   rwa [mJ hg,IM]at h2
  .rwa [M.old hn hL]at hk
mutual
theorem jW.aJ(M:jW φ h L g w h1 g1 w1):∀{x:V}{v:Value},aJ φ h1 g1 w1 x v->aJ φ (mK h L h1) (jJ h L g g1) w1 (x.dI (back L h.length)) v
 | .u,v,_=>by simp[V.dI,VS.aJ]
 | .kC,v,hr=>by simpa[V.dI,VS.aJ]using hr
 | .d x,v,hr=>by simp only[V.dI,VS.aJ]at hr⊢;exact hr
 | .loc n r c,v,hr=>by
  simp only[V.dI,VS.aJ]at hr⊢;refine⟨M.IQ hr.1,hr.2.1,λes he=>?_⟩
  rw[M.at,zI]at he;rw[(M.gb n).1,(M.gb n).2];exact hr.2.2 es he
 | .aQ n off len,v,hr=>by
  simp only[V.dI,VS.aJ]at hr⊢;refine⟨M.IQ hr.1,hr.2.1,λes he=>?_⟩
  rw[M.at,zI]at he;rw[(M.gb n).1,(M.gb n).2,M.at,Dr];exact hr.2.2 es he
 | .je n off len,v,hr=>by
  simp only[V.dI,VS.aJ]at hr⊢;refine⟨M.IQ hr.1,hr.2.1,λes he=>?_⟩
  rw[M.at,zI]at he;rw[(M.gb n).1,(M.gb n).2,M.at,Dr];exact hr.2.2 es he
 | .iT _,v,hr=>by simpa only[V.dI,VS.aJ]using hr
 | .mp n,v,hr=>by
  simp only[V.dI,VS.aJ]at hr⊢;refine⟨M.IQ hr.1,hr.2.1,λkv he=>?_⟩
  rw[M.at]at he;rw[(M.gb n).1];cases ho:aU h1 n with
  |mp IN=>exact hr.2.2 IN ho
  |_=>rw[ho]at he;simp[O.dI]at he
 | .rf cs,v,hr=>by
  simp only[V.dI,VS.aJ]at hr⊢;obtain⟨b,off,us,h1,h2,h3,h4⟩:=hr;exact⟨b,off,us,h1,by rw[IP];exact h2,M.bR h3,h4⟩
 | .jj n,v,hr=>by
  simp only[V.dI,VS.aJ]at hr⊢;refine⟨M.IQ hr.1,hr.2.1,λhe=>?_⟩
  rw[M.at,IM]at he;rw[(M.gb n).1];exact hr.2.2 he
 | .fn f a b,v,hr=>by
  simp only[V.dI,VS.aJ]at hr⊢;obtain⟨A,B,h1,h2,h3⟩:=hr;exact⟨A,B,h1,M.bR h2,M.bR h3⟩
 | .ag cs,v,hr=>by
  simp only[V.dI,VS.aJ]at hr⊢;obtain⟨A,h1,h2,h3⟩:=hr;exact⟨A,h1,M.bR h2,h3⟩
 | .tu cs,v,hr=>by
  simp only[V.dI,VS.aJ]at hr⊢;obtain⟨A,h1,h2⟩:=hr;exact⟨A,h1,M.bR h2⟩
theorem jW.bR(M:jW φ h L g w h1 g1 w1):∀{xs:List V}{vs:List Value},bR φ h1 g1 w1 xs vs->bR φ (mK h L h1) (jJ h L g g1) w1 (V.iL (back L h.length) xs) vs
 | [],[],_=>by simp[V.iL,VS.bR]
 |x::xs,v::vs,hr=>by
  simp only[V.iL,VS.bR]at hr⊢;exact⟨M.aJ hr.1,M.bR hr.2⟩
 | [],_::_,hr=>by simp[VS.bR]at hr
 |_::_,[],hr=>by simp[VS.bR]at hr
end
theorem jW.obj(M:jW φ h L g w h1 g1 w1){b o:Nat}{x:O}(hr:gC φ h1 g1 w1 b o x):gC φ (mK h L h1) (jJ h L g g1) w1 b o (x.dI (back L h.length)):=by
 cases x with
 |dead=>trivial
 |aG es ex rows=>exact hr
 |gK es rows =>
  simp only[O.dI,gC]at hr⊢;refine⟨by simpa using hr.1,λr row hrow=>?_,hr.2.2⟩
  rw[vB,gJ]at hrow;obtain⟨NL,h0,rfl⟩:=hrow;obtain⟨k1,k2⟩:=hr.2.1 r NL h0;refine⟨by rw[IP];exact k1,λj c hj=>?_⟩
  rw[T1,gJ]at hj;obtain⟨c0,hc0,rfl⟩:=hj;obtain⟨v,h3,h4,h5⟩:=k2 j c0 hc0;exact⟨v,h3,h4,M.aJ h5⟩
 |mp kv =>
  simp only[O.dI,gC]at hr⊢;obtain⟨ES,kM,k1,k2,k3⟩:=hr;refine⟨ES,kM,k1,⟨by simpa using k2.1,λi p e hp he=>?_⟩,k3⟩
  rw[vB,gJ]at hp;obtain⟨p0,mY,rfl⟩:=hp;obtain⟨h4,h5⟩:=k2.2 i p0 e mY he;exact⟨h4,M.aJ h5⟩
 |lp ps a c e env =>
  simp only[O.dI,gC]at hr⊢;obtain⟨r,nt,k1,k0,k2,k3,k4,k5⟩:=hr;refine⟨r,nt,k1,k0,k2,k3,λp hp=>?_,k5⟩
  simp only[yQ,gF]at hp;obtain⟨q,hq,rfl⟩:=hp;exact M.aJ (k4 q hq)
theorem jW.gf(M:jW φ h L g w h1 g1 w1):eX φ (mK h L h1) (jJ h L g g1) w1 where
 obj k:=by
  rcases M.split k with⟨hk,hL⟩ |⟨i,rfl⟩
  .rw[M.old hk hL]
   by_cases hl:(aU h k).live=true
   .have hkeep:=M.fr.keep (g.β k) (M.hr.block hl) (M.apart hL hl)
    have:=Da M.hle hkeep.1 hkeep.2 (M.hr.obj k);simpa[jJ,hk]using this
   .cases hx:aU h k<;>simp_all[O.live,gC]
  .rw[M.at,(M.gb i).1,(M.gb i).2]
   exact M.obj (M.iH.obj i)
 inj x y hx hy he:=by
  have ZN:∀{k i:Nat},k<h.length->k∉L->(aU h k).live=true->(aU h1 i).live=true->g.β k≠g1.β i:=by
   intro k i hk hL hl hi hb;rcases M.fr.mG i hi with⟨j,hj,NP⟩ |hs
   .exact M.apart hL hl j hj (NP.trans hb.symm)
   .have:=M.hr.block hl;omega
  rcases M.split x with⟨kx,Lx⟩ |⟨i,rfl⟩<;>rcases M.split y with⟨ky,Ly⟩ |⟨j,rfl⟩
  .rw[M.old kx Lx]at hx
   rw[M.old ky Ly]at hy;exact M.hr.inj x y hx hy (by simpa[jJ,kx,ky]using he)
  .rw[M.old kx Lx]at hx
   rw[M.at,wO]at hy;rw[(M.gb j).1]at he;exact absurd (by simpa[jJ,kx]using he) (ZN kx Lx hx hy)
  .rw[M.old ky Ly]at hy
   rw[M.at,wO]at hx;rw[(M.gb i).1]at he;exact absurd (by simpa[jJ,ky]using he.symm) (ZN ky Ly hy hx)
  .rw[M.at,wO]at hx hy
   rw[(M.gb i).1,(M.gb j).1]at he;rw[M.iH.inj i j hx hy he]
 new:=M.iH.new
theorem jW.frame(M:jW φ h L g w h1 g1 w1){m:Nat}(hm:m<=h.length):Frame m h g w (mK h L h1) (jJ h L g g1) w1 where
 ext:=M.fr.ext
 size:=M.fr.size
 os:=M.fr.os
 tape:=M.fr.tape
 output:=M.fr.output
 oQ n hn:=by
  have:n<h.length:=by omega
  simp[jJ,this]
 keep b hb hn:=M.fr.keep b hb λi hi ZO=>by
  by_cases hlt:i<L.length
  .have hg:L[i]?=some L[i]:=by simp[hlt]
   rw[mJ hg,wO]at hi;simp only[iI,List.getD,hg,vD]at ZO;exact hn _ hi ZO
  .rw[FH (by omega)]at hi;simp[O.live]at hi
 mG k hk:=by
  rcases M.split k with⟨kk,Lk⟩ |⟨i,rfl⟩
  .rw[M.old kk Lk]at hk
   exact .inl ⟨k,hk,by simp[jJ,kk]⟩
  .rw[M.at,wO]at hk
   rw[(M.gb i).1];rcases M.fr.mG i hk with⟨j,hj,NP⟩ |hs
   .by_cases hlt:j<L.length
    .have hg:L[j]?=some L[j]:=by simp[hlt]
     rw[mJ hg,wO]at hj;simp only[iI,List.getD,hg,vD]at NP;exact .inl ⟨L[j],hj,NP⟩
    .rw[FH (by omega)]at hj;simp[O.live]at hj
   .exact .inr hs
 oR n hn:=M.hle.at (by omega)
end
theorem ZP{rec:Rec}{h:List O}{f:Nat}{xs:List V}{v2:V}{h2:List O}(hc:az rec h f xs=some (v2,h2)):∃L v h1,cut h 0 (V.gA xs)=some L /\
  rec (.call f (V.iL (L.idxOf ·) xs) (sub h L))=some (.val v h1)/\L.length<=h1.length/\v2=v.dI (back L h.length)/\h2=mK h L h1:=by
 unfold az at hc;split at hc
 .rename_i L hL
  split at hc
  .rename_i v h1 hr
   split at hc
   .rename_i hl
    simp only[gz,ud]at hc;exact⟨L,v,h1,hL,hr,hl,hc.1.symm,hc.2.symm⟩
   .simp at hc
  .simp at hc
 .simp at hc
theorem aim(h:List O):cut h 0 []=some []:=by simp[cut,reach]
theorem ain:∀{xs:List V}{ds:List D},fA xs=some ds->V.gA xs=[]:=by
 intro xs ds hd;rw[Fp hd];clear hd;induction ds with
 |nil=>rfl
 |cons d ds ih=>simp[V.gA,V.dn,ih]
theorem aio{f:Nat->Nat}:∀{xs:List V}{ds:List D},fA xs=some ds->V.iL f xs=xs:=by
 intro xs ds hd;rw[Fp hd];clear hd;induction ds with
 |nil=>rfl
 |cons d ds ih=>simp[V.iL,V.dI,ih]
theorem aip(m:Nat):back [] m=(m+·):=by
 funext i;simp[back]
theorem T9{rec:Rec}(hq:l7 P φ rec)(hs:cm φ nt m dB s g a w){d:Option Nat}(hd:pT nt o d=true){f:Nat}{xs:List V}{args:Array Value}{v2:V}{h2:List O}(nF:az rec s.heap f xs=some (v2,h2))
  (hr:bR φ s.heap g w xs args.toList)
  (hrun:(execOp a.eval o).run P w=(callFunc (φ f) args).run P w)(hK:eG φ nt m dB s g w (s.lz d (some (v2,h2))) o a K):o.wp P a w K Q:=by
 obtain⟨L,v,h1,hL,gV,hlen,rfl,rfl⟩:=ZP nF;obtain⟨hnd,yp,bN,_,_⟩:=Dq hL;obtain⟨⟨fn,hf,hn,hb⟩,oT⟩:=hq f _ _ v h1 gV;unfold Oper.wp;rw[hrun,NC hf hn hb];simp only[Oper.upon];refine Calls.mono (oT (iI g L) w args (FJ hL hs.heap) (ym yp hr)) λe w' h=>?_
 obtain⟨v',g1,rfl,rO,gf,hfr⟩:=h;rw[yl]at hfr;have M:jW φ s.heap L g w h1 g1 w':=⟨hs.heap,hnd,λn hn=>(bN n hn).1,hlen,rO,hfr⟩
 obtain⟨e1,e2⟩:=Dk hd;have hs':∀ok,cm φ nt m dB ⟨s.env,mK s.heap L h1,ok⟩ (jJ s.heap L g g1) a w':=λok =>
  ⟨λk=>lI M.hle (hs.env k),M.gf,hs.size,hs.defers.frame (M.frame hs.len),ng hs.len M.hle.len⟩
 refine hK (jJ s.heap L g g1) v' w' ?_ ?_
 .rw[e1]
  cases d with
  |none=>exact hs' _
  |some d=>exact(hs' s.ok).wF (e2 d rfl) (M.aJ gf)
 .cases d with
  |none=>exact M.frame hs.len
  |some d=>exact M.frame hs.len
theorem aiq{rec:Rec}{h:List O}{f:Nat}{xs:List V}{r:V×List O}(hc:aI rec h f xs=some r):az rec h f xs=some r:=by
 unfold aI at hc;split at hc
 .rename_i ds hds
  unfold az;rw[ain hds,aim];simp only[aio hds];have hsub:sub h []=[]:=rfl;rw[hsub];split at hc
  .rename_i v h1 hr
   simp only[gz]at hc;simp only[hr,hc.symm];simp[aip,aD]
  .simp at hc
 .simp at hc
theorem Ua(r:Bool){rec:Rec}(hq:l7 P φ rec)(hs:cm φ nt m dB s g a w){d:Option Nat}{f:Nat}{xs:List A}(hc:cN P φ nt o (if r then .jf d f xs else .mO d f xs)=true)(hok:(aR rec (if r then .jf d f xs else .mO d f xs) s).ok=true)
  (hK:eG φ nt m dB s g w (aR rec (if r then .jf d f xs else .mO d f xs) s) o a K):o.wp P a w K Q:=by
 have zJ:(pT nt o d&&(match o.op with
  | .call c=>(match c.callee with | .value (.func g)=>φ f==g&&n8 φ c.args.toList xs |_=>false)
  |_=>false))=true:=by cases r<;>exact hc
 simp only[bE]at zJ;obtain⟨hd,h⟩:=zJ;split at h
 .rename_i c ho
  split at h
  .rename_i ff iD
   simp only[bE,dM]at h;obtain⟨rfl,hx⟩:=h;have hrun:(execOp a.eval o).run P w=(callFunc (φ f) (c.args.map a.eval)).run P w:=by simp[execOp,ho,resolve,iD,Act.eval,Deferred.ofValue,invoke]
   have hr:bR φ s.heap g w (xs.map s.get) (c.args.map a.eval).toList:=by simpa using wE hs hx
   cases r with
   |true =>
    simp only[dH,aR]at hok hK;obtain⟨⟨v2,h2⟩,hv⟩:=xG hok;rw[hv]at hK;exact T9 hq hs hd hv hr hrun hK
   |false =>
    simp only[eR,dG,aR]at hok hK;obtain⟨⟨v2,h2⟩,hv⟩:=xG hok;rw[hv]at hK;exact T9 hq hs hd (aiq hv) hr hrun hK
  .simp at h
 .simp at h
theorem air{rec:Rec}(hq:l7 P φ rec)(hs:cm φ nt m dB s g a w){d:Option Nat}{x:A}{xs:List A}(hc:cN P φ nt o (.pF d x xs)=true)(hok:(aR rec (.pF d x xs) s).ok=true)
  (hK:eG φ nt m dB s g w (aR rec (.pF d x xs) s) o a K):o.wp P a w K Q:=by
 simp only[cN,bE]at hc;obtain⟨hd,h⟩:=hc;split at h
 .rename_i c ho
  split at h
  .rename_i y iD
   simp only[bE]at h;obtain⟨hx,hxs⟩:=h;simp only[aR]at hok hK;have rx:=eY hs hx;have yh:=wE hs hxs;obtain⟨⟨v2,h2⟩,hv⟩:=xG hok;rw[hv]at hK;have key:∀{f:Nat}{A B:Array Value}{zs:List V},a.eval y = .func (.func (φ f)) A B->az rec s.heap f zs=some (v2,h2) ->
     bR φ s.heap g w zs (A.toList++c.args.toList.map a.eval++B.toList)->o.wp P a w K Q:=by
    intro f A B zs he hz hr;refine T9 hq hs hd (f:=f) (xs:=zs) (args:=A++c.args.map a.eval++B) hz (by simpa using hr) ?_ hK
    simp[execOp,ho,resolve,iD,he,Deferred.ofValue,invoke]
   cases fX:s.get x with
   |d z =>
    cases z with
    |fn f first caps =>
     rw[fX]at rx hv;simp only[aJ,bQ]at rx;obtain⟨A,B,he,hA,hB⟩:=rx;exact key he hv (rJ (rJ (Bt hA) yh) (Bt hB))
    |_=>rw[fX]at hv;simp[lX]at hv
   |fn f first caps =>
    rw[fX]at rx hv;simp only[aJ]at rx;obtain⟨A,B,he,hA,hB⟩:=rx;exact key he hv (rJ (rJ hA yh) hB)
   |_=>rw[fX]at hv;simp[lX]at hv
  .simp at h
 .simp at h
end
end Go.VS
namespace Go.VS
section
variable {P:Program}{φ:fy}
variable {nt m dB:Nat}{s:St}{g:Gh}{a:Act}{w:World}{K:Act->World->Prop}{Q:Exit->Act->World->Prop}{o:Oper}
end
end Go.VS
namespace Go.VS
section
variable {P:Program}{φ:fy}
variable {nt m dB:Nat}{s:St}{g:Gh}{a:Act}{w:World}{K:Act->World->Prop}{Q:Exit->Act->World->Prop}{o:Oper}
theorem ZQ{d:Nat}{v:V}{h1:List O}{x:D}{h2:List O}(hd:gp nt o d=true)(ht:bp h1 v=some (x,h2))(hK:eG φ nt m dB s g w ⟨(d,.d x)::s.env,h2,s.ok⟩ o a K):
  eG φ nt m dB s g w ⟨(d,v)::s.env,h1,s.ok⟩ o a K:=by
 intro g' v' w' hs' hf';obtain⟨e1,e2⟩:=Bm hd;simp only[bp,gJ,ud]at ht;obtain⟨y,hy,rfl,rfl⟩:=ht;have hL:V.gA [v]=v.dn:=by simp[V.gA]
 have gf:=hs'.env d;simp only[cA,dH]at gf;obtain⟨I',k1,k2,k3⟩:=NO hs' (xs:=[v]) (vs:=[(a.put o.dst v').tmps.getD d undef]) (ds:=[y]) (by simp[iq,hy]) (by simp only[bR];exact⟨gf,trivial⟩) s.ok
 rw[hL]at k1 k2;refine hK (g'.eo I') v' w' ⟨λk=>?_,k1.heap,k1.size,k1.defers,k1.len⟩ (hf'.trans k2)
 have h0:=k1.env k;simp only[cA]at h0⊢;by_cases hk:d=k
 .subst hk
  rw[aK rfl];simp only[cy]at k3;simpa only[aJ,Gh.eo]using k3.1
 .rw[aE hk]at h0⊢
  exact h0
theorem ZR{ov:Option (V×List O)}{r:V×List O}(h:yS ov=some r):∃v h1 x h2,ov=some (v,h1)/\bp h1 v=some (x,h2)/\r=(.d x,h2):=by
 cases ov with
 |none=>simp[yS]at h
 |some p =>
  obtain⟨v,h1⟩:=p;simp only[yS,rY,gJ]at h;obtain⟨q,hq,rfl⟩:=h;exact⟨v,h1,q.1,q.2,rfl,hq,rfl⟩
theorem ais(hs:cm φ nt m dB s g a w){rec:Rec}{d es:Nat}{x y:A}(hc:cN P φ nt o (.sn d x y es)=true)(hok:(aR rec (.sn d x y es) s).ok=true)
  (hK:eG φ nt m dB s g w (aR rec (.sn d x y es) s) o a K):o.wp P a w K Q:=by
 simp only[aR]at hok hK;have hd:gp nt o d=true:=by simp only[cN,bE]at hc;exact hc.1
 obtain⟨v,hh,hv⟩:=Bp hok;rw[hv]at hK hok;obtain⟨v1,h1,z,h2,k1,k2,k3⟩:=ZR hv;simp only[ud]at k3;obtain⟨rfl,rfl⟩:=k3;have zJ:cN P φ nt o (.app d x y es)=true:=hc;refine Zw (rec:=rec) hs zJ ?_ ?_
 .simp only[aR,k1,St.gk];exact hok
 .simp only[aR,k1]
  exact ZQ hd k2 hK
theorem ait{rec:Rec}(hq:l7 P φ rec)(hs:cm φ nt m dB s g a w){d:Nat}{f:Nat}{xs:List A}(hc:cN P φ nt o (.nj d f xs)=true)(hok:(aR rec (.nj d f xs) s).ok=true)
  (hK:eG φ nt m dB s g w (aR rec (.nj d f xs) s) o a K):o.wp P a w K Q:=by
 simp only[aR]at hok hK;simp only[cN,bE]at hc;obtain⟨hd,h⟩:=hc;obtain⟨e1,e2⟩:=Bm hd;have zJ:cN P φ nt o (if true then .jf (some d) f xs else .mO (some d) f xs)=true:=by
  simp only[dH,cN,bE];exact⟨by simp only[pT,bE,dM,e1,Option.all_some,gi];exact⟨trivial,e2⟩,h⟩
 obtain⟨v,hh,hv⟩:=Bp hok;rw[hv]at hK hok;obtain⟨v1,h1,z,h2,k1,k2,k3⟩:=ZR hv;simp only[ud]at k3;obtain⟨rfl,rfl⟩:=k3;refine Ua (rec:=rec) true hq hs zJ ?_ ?_
 .simp only[dH,aR,k1,St.lz];exact hok
 .simp only[dH,aR,k1]
  exact ZQ hd k2 hK
theorem aiu{I I':Nat->Nat}{w':World}{x:D}{v:Value}(hp:x.plain=true)(hr:bQ φ I w x v):bQ φ I' w' x v:=by
 cases x<;>simp[D.plain]at hp<;>simpa only[bQ]using hr
theorem ZS{I I':Nat->Nat}{w':World}:∀{cs:List D}{vs:List Value},cs.all D.plain=true->cy φ I w cs vs->cy φ I' w' cs vs
 | [],[],_,_=>by simp[cy]
 |c::cs,v::vs,hp,hr=>by
  simp only[xA,bE]at hp;simp only[cy]at hr⊢;exact⟨aiu hp.1 hr.1,ZS hp.2 hr.2⟩
 | [],_::_,_,hr=>by simp[cy]at hr
 |_::_,[],_,hr=>by simp[cy]at hr
theorem ZT{I I':Nat->Nat}{w':World}{y:D}{v:Value}(hp:y.Cj=true)(hr:bQ φ I w y v):bQ φ I' w' y v:=by
 cases y with
 |ag cs =>
  simp only[D.Cj]at hp;simp only[bQ]at hr⊢;obtain⟨A,h1,h2,h3⟩:=hr;exact⟨A,h1,ZS hp h2,h3⟩
 |b x=>simpa only[bQ]using hr
 |i k x=>simpa only[bQ]using hr
 |s x=>simpa only[bQ]using hr
 |_=>simp[D.Cj,D.plain]at hp
theorem aiv{h:List O}{g':Gh}{w':World}{x:V}{v:Value}(hp:x.plain=true)(hr:aJ φ [] g w x v):aJ φ h g' w' x v:=by
 cases x with
 |d y =>
  simp only[V.plain]at hp;simp only[aJ]at hr⊢;exact ZT hp hr
 |tu vs =>
  simp only[V.plain]at hp;simp only[aJ]at hr⊢;obtain⟨A,h1,h2⟩:=hr;refine⟨A,h1,?_⟩;have key:∀{vs:List V}{us:List Value},vs.all (λv=>match v with | .d x=>x.Cj |_=>false)=true->bR φ [] g w vs us->bR φ h g' w' vs us:=by
   intro vs;induction vs with
   |nil=>intro us _ hr;cases us<;>simp_all[bR]
   |cons v vs ih =>
    intro us hp hr;cases us with
    |nil=>simp[bR]at hr
    |cons u us =>
     simp only[xA,bE]at hp;simp only[bR]at hr⊢;refine⟨?_,ih hp.2 hr.2⟩;cases v with
     |d x=>simp only[aJ]at hr⊢;exact ZT hp.1 hr.1
     |_=>simp at hp
  exact key hp h2
 |_=>simp[V.plain]at hp
theorem aiw{rec:Rec}{h:List O}{f:Nat}{xs:List V}{v:V}(hc:vJ rec h f xs=some v):∃ds,iq h xs=some ds/\rec (.call f (ds.map V.d) [])=some (.val v [])/\v.plain=true:=by
 unfold vJ at hc;split at hc
 .rename_i ds hds
  split at hc
  .rename_i v' hr
   split at hc
   .rename_i hp
    simp at hc;subst hc;exact⟨ds,hds,hr,hp⟩
   .simp at hc
  .simp at hc
 .simp at hc
theorem aix{rec:Rec}(hq:l7 P φ rec)(hs:cm φ nt m dB s g a w){d:Option Nat}{f:Nat}{xs:List A}(hc:cN P φ nt o (.calls d f xs)=true)(hok:(aR rec (.calls d f xs) s).ok=true)
  (hK:eG φ nt m dB s g w (aR rec (.calls d f xs) s) o a K):o.wp P a w K Q:=by
 simp only[cN,bE]at hc;obtain⟨hd,h⟩:=hc;split at h
 .rename_i c ho
  split at h
  .rename_i ff iD
   simp only[bE,dM]at h;obtain⟨rfl,hx⟩:=h;simp only[aR]at hok hK;obtain⟨v,hv⟩:=Cm hok;rw[hv]at hK;obtain⟨ds,hds,gV,hp⟩:=aiw hv;obtain⟨⟨fn,hf,hn,hb⟩,oT⟩:=hq f _ [] v [] gV;have hr:bR φ s.heap g w (xs.map s.get) (c.args.map a.eval).toList:=by simpa using wE hs hx
   obtain⟨I',k1,_,k3⟩:=NO hs hds hr s.ok;have hrun:(execOp a.eval o).run P w = .ok (.enter (φ f) (c.args.map a.eval)) w:=by
    rw[<-NC (P:=P) (w:=w) (args:=c.args.map a.eval) hf hn hb];simp[execOp,ho,resolve,iD,Act.eval,Deferred.ofValue,invoke]
   unfold Oper.wp;rw[hrun];simp only[Oper.upon];refine Calls.mono (oT ⟨λ_=>0,λ_=>0,I'⟩ w (c.args.map a.eval) (NA k1.heap.new) (zA (g:=⟨λ_=>0,λ_=>0,I'⟩) k3)) λe w' hh=>?_
   obtain⟨v',g1,rfl,rO,gf,hfr⟩:=hh;obtain⟨hg,_⟩:=NB hfr;have IS:∀b,b<w.heap.size->(λb=>if b<w.heap.size then g.I b else g1.I b) b=g.I b:=λb hb=>by simp[hb]
   have hnew2:∀b,w'.heap.size<=b->(λb=>if b<w.heap.size then g.I b else g1.I b) b=0:=λb hb=>by
    have:=hg.size;have hnb:¬b<w.heap.size:=by omega
    simp only[hnb,dG];exact rO.new b hb
   obtain⟨h1,h2⟩:=Dk hd;have hs':=hs.Ns hg IS hnew2;refine hK (g.eo λb=>if b<w.heap.size then g.I b else g1.I b) v' w' ?_ ?_
   .rw[h1]
    cases d with
    |none=>exact hs'
    |some d=>exact hs'.wF (h2 d rfl) (aiv hp gf)
   .cases d with
    |none=>exact Dc m hs.heap hg IS
    |some d=>exact Dc m hs.heap hg IS
  .simp at h
 .simp at h
end
end Go.VS
