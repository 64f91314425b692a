import Derived.Test.YtjpdopldkeodgaaGreatV01
import Derived.Laws.AppendOwn
set_option linter.all false
set_option maxHeartbeats 1000000
namespace Go.VS
section
variable {P:Program}{φ:fj}
variable {nt m dB:Nat}{s:St}{g:Gh}{a:Act}{w:World}{K:Act->World->Prop}{Q:Exit->Act->World->Prop}{o:Oper}
def Ft(x:Option Value)(dflt n:Int):Prop :=
 match x with
 |none=>n=dflt
 |some v=>∃k,v = .int k n
def Nx(cap len:Nat):Option Value->Sem Nat
 |some v=>Instr.sliceBound v cap .sliceAcap
 |none=>pure len
def Ny(h:Nat):Option Value->Sem Nat
 |some v=>Instr.sliceBound v h .sliceB
 |none=>pure 0
theorem aio(cap len:Nat)(lo hi:Option Value):Instr.sliceBounds true len cap lo hi none=(do
  let hv <-Nx cap len hi
  let lv <-Ny hv lo
  pure (lv,hv,cap)):=by
 cases lo<;>cases hi<;>rfl
theorem Zw{t e:TypeId}{es:Nat}(ht:P.underlying t=some (.slice e))(jF:jw P e es=true){ad:Option Addr}{len cap:Nat}{lo hi:Option Value}{l h:Int}
  (hl:Ft lo 0 l)(hh:Ft hi len h)(h0:0<=l)(h1:l<=h)(h2:h<=cap):
  (Instr.sliceAt t (.slice ad len cap) lo hi none).run P w = .ok (.slice (if cap=l.toNat then ad else ad.map (·.add (l.toNat*es))) (h.toNat - l.toNat) (cap - l.toNat)) w:=by
 have hsz:=wI (P:=P) (w:=w) jF;have zE:0<=h:=by omega
 have eh:(Nx cap len hi).run P w = .ok h.toNat w:=by
  cases hi with
  |none=>simp only[Ft]at hh;subst hh;simp[Nx]
  |some v =>
   obtain⟨k,rfl⟩:=hh;simp[Nx,Instr.sliceBound,asIntOf,zE,h2]
 have el:(Ny h.toNat lo).run P w = .ok l.toNat w:=by
  cases lo with
  |none=>simp only[Ft]at hl;subst hl;simp[Ny]
  |some v =>
   obtain⟨k,rfl⟩:=hl
   have:¬max h 0<l:=by omega
   simp[Ny,Instr.sliceBound,asIntOf,h0,this]
 have eb:(Instr.sliceBounds true len cap lo hi none).run P w = .ok (l.toNat,h.toNat,cap) w:=by
  rw[aio];simp only[Sem.run_bind,eh,Result.andThen_ok,el,Sem.run_pure]
 simp[Instr.sliceAt,Instr.slice,underlying,ht,eb,hsz]
theorem Nz(hs:cm φ nt m dB s g a w){x:Option Operand}{y:Option A}(hc:Nl φ x y=true){dflt n:Int}(hn:uw s dflt y=some n):Ft (x.map a.eval) dflt n:=by
 unfold Nl at hc;split at hc
 .simp[uw]at hn;simp[Ft,hn]
 .rename_i ox ay
  have hr:=eE hs hc;simp only[uw]at hn;cases hv:s.get ay with
  |d z =>
   rw[hv]at hn hr;cases z with
   |i k z=>simp[asInt]at hn;subst hn;exact⟨k,nE (by simpa only[aI]using hr)⟩
   |_=>simp[asInt]at hn
  |_=>rw[hv]at hn;simp[asInt]at hn
 .simp at hc
theorem aip{α:Type}{xs:List α}{l h r:Nat}{y:α}(hy:((xs.take h).drop l)[r]?=some y):xs[l+r]?=some y:=by
 rw[pF,yK]at hy;split at hy
 .exact hy
 .simp at hy
theorem aiq(hs:cm φ nt m dB s g a w){rec:Rec}{d es:Nat}{x:A}{lo hi:Option A}(hc:cL P φ nt o (.sl d x lo hi es)=true)(hok:(aU rec (.sl d x lo hi es) s).ok=true)
  (hK:eu φ nt m dB s g w (aU rec (.sl d x lo hi es) s) o a K):o.wp P a w K Q:=by
 simp only[cL,bJ]at hc;obtain⟨hd,h⟩:=hc;split at h
 .rename_i t y lo' hi' ho
  simp only[bJ]at h;obtain⟨⟨⟨hx,hlo⟩,hhi⟩,ht⟩:=h;split at ht
  .rename_i e hu
   have rx:=eE hs hx;refine mI hs hd hok (λv hv=>?_) hK
   unfold Kg at hv;split at hv
   .rename_i l hh hl Ix
    have bl:=Nz hs hlo hl;have bh:=Nz hs hhi Ix;have fin:∀{ad:Option Addr}{len cap:Nat},a.eval y = .slice ad len cap->Au (s.get x)=len->0<=l->l<=hh->hh<=cap ->
      (execOp a.eval o).run P w = .ok (.value (.slice (if cap=l.toNat then ad else ad.map (·.add (l.toNat*es))) (hh.toNat - l.toNat) (cap - l.toNat))) w:=by
     intro ad len cap he hlen h0 h1 h2;rw[hlen]at bh;have:=Zw (P:=P) (w:=w) hu ht bl bh (ad:=ad) (len:=len) (cap:=cap) h0 h1 h2;simp[execOp,ho,he,this]
    split at hv
    .rename_i e' nl xs hp
     rw[hp]at rx fin;simp only[aI,bR]at rx;obtain⟨ad,cap,he,hlc,oS,Df⟩:=rx;split at hv
     .rename_i dV
      obtain⟨rfl,h0,h1,h2⟩:=dV;simp at hv;subst hv;refine⟨_,fin he rfl h0 h1 (by omega),?_⟩
      simp only[aI,bR];have hlen:((xs.take hh.toNat).drop l.toNat).length=hh.toNat - l.toNat:=by simp;omega
      rw[hlen];refine⟨_,_,rfl,by omega,λhn=>?_,λhn=>?_⟩
      .obtain⟨rfl,rfl⟩:=oS hn
       simp
      .obtain⟨Fu,rfl,hx'⟩:=Df hn
       by_cases bN:cap=l.toNat
       .rw[aK bN]
        refine⟨Fu,rfl,λhne=>?_⟩
        exfalso;apply hne;apply vA;rw[hlen];omega
       .rw[aD bN]
        refine⟨_,rfl,λhne=>?_⟩
        have hxs:xs≠[]:=by
         rintro rfl;simp at hne
        obtain⟨hsp,hI,dS⟩:=hx' hxs;obtain⟨b,off,sp⟩:=Fu;simp only at hsp hI dS;subst hsp;simp only[qG];refine⟨trivial,?_,uU λr row hrow=>?_⟩
        .have h3:(hh.toNat - l.toNat)+l.toNat<=xs.length:=by omega
         have h4:e'*((hh.toNat - l.toNat)+l.toNat)<=e'*xs.length:=Pp _ h3;rw[Gz,jg e' l.toNat]at h4;omega
        .obtain⟨q1,q2⟩:=nY dS (aip hrow)
         refine⟨q1,?_⟩;rw[ni,<-Nat.add_assoc]at q2;exact q2
     .simp at hv
    .rename_i n off len hp
     rw[hp]at rx fin;simp only[aI]at rx;split at hv
     .rename_i e' ex rows hn
      split at hv
      .rename_i dV
       obtain⟨rfl,h0,h1,h2⟩:=dV;obtain⟨cap,he,hlc,hm,CS,T,hb,hsz⟩:=rx.2.2 e' (by rw[hn];rfl)
       rw[hn]at hm;simp only[O.len]at hm;have hrun:=fin he rfl h0 h1 (by omega)
       refine⟨_,hrun,?_⟩;split at hv
       .rename_i jG
        simp at hv;subst hv;simp only[aI];refine⟨rx.1,rfl,λes' he'=>?_⟩
        rw[hn]at he';simp[O.gM]at he';subst he';have hlen:(hh - l).toNat=hh.toNat - l.toNat:=by omega
        rw[hlen];refine⟨cap - l.toNat,?_,by omega,by rw[hn];simp only[O.len];omega,CS,T,hb,?_⟩
        .have dV:(if cap=l.toNat then(some ⟨g.β n,g.o n+off*e',none⟩:Option Addr)else(some ⟨g.β n,g.o n+off*e',none⟩:Option Addr).map (·.add (l.toNat*e')))=some ⟨g.β n,g.o n+(off+l.toNat)*e',none⟩:=by
          split
          .rename_i bN
           have:l.toNat=0:=by omega
           rw[this];simp
          .simp only[sV,qG]
           rw[ni,<-Nat.add_assoc]
         rw[dV]
        .have:off+l.toNat+(cap - l.toNat)=off+cap:=by omega
         rw[this];exact hsz
       .rename_i jG
        simp at hv;subst hv;simp only[aI,bR];have hz:hh.toNat - l.toNat=0:=by omega
        rw[hz];refine⟨_,_,rfl,by simp,by simp,λ_=>?_⟩
        split
        .exact⟨_,rfl,by simp⟩
        .exact⟨_,rfl,by simp⟩
      .simp at hv
     .simp at hv
    .rename_i n off len hp
     rw[hp]at rx fin;simp only[aI]at rx;split at hv
     .rename_i e' ex rows hn
      split at hv
      .rename_i dV
       obtain⟨rfl,h0,h1,h2⟩:=dV;obtain⟨cap,he,hlc,hm,CS,T,hb,hsz⟩:=rx.2.2 e' (by rw[hn];rfl)
       rw[hn]at hm;simp only[O.len]at hm;have hrun:=fin he rfl h0 h1 (by omega)
       refine⟨_,hrun,?_⟩;split at hv
       .rename_i jG
        simp at hv;subst hv;simp only[aI];refine⟨rx.1,rfl,λes' he'=>?_⟩
        rw[hn]at he';simp[O.gM]at he';subst he';have hlen:(hh - l).toNat=hh.toNat - l.toNat:=by omega
        rw[hlen];refine⟨cap - l.toNat,?_,by omega,by rw[hn];simp only[O.len];omega,CS,T,hb,?_⟩
        .have dV:(if cap=l.toNat then(some ⟨g.β n,g.o n+off*e',none⟩:Option Addr)else(some ⟨g.β n,g.o n+off*e',none⟩:Option Addr).map (·.add (l.toNat*e')))=some ⟨g.β n,g.o n+(off+l.toNat)*e',none⟩:=by
          split
          .rename_i bN
           have:l.toNat=0:=by omega
           rw[this];simp
          .simp only[sV,qG]
           rw[ni,<-Nat.add_assoc]
         rw[dV]
        .have:off+l.toNat+(cap - l.toNat)=off+cap:=by omega
         rw[this];exact hsz
       .rename_i jG
        simp at hv;subst hv;simp only[aI,bR];have hz:hh.toNat - l.toNat=0:=by omega
        rw[hz];refine⟨_,_,rfl,by simp,by simp,λ_=>?_⟩
        split
        .exact⟨_,rfl,by simp⟩
        .exact⟨_,rfl,by simp⟩
      .simp at hv
     .simp at hv
    .rename_i e' hp
     rw[hp]at rx fin;simp only[aI]at rx;obtain⟨ad,he⟩:=rx;split at hv
     .rename_i dV
      obtain⟨rfl,rfl,rfl⟩:=dV;simp at hv;subst hv;have hrun:=fin he (by simp[Au]) (by omega) (by omega) (by omega)
      exact⟨_,hrun,by simp only[aI];exact⟨ad,by simp⟩⟩
     .simp at hv
    .simp at hv
   .simp at hv
  .simp at ht
 .simp at h
end
end Go.VS
namespace Go.VS
section
variable {P:Program}{φ:fj}
variable {nt m dB:Nat}{s:St}{g:Gh}{a:Act}{w:World}{K:Act->World->Prop}{Q:Exit->Act->World->Prop}{o:Oper}
end
end Go.VS
namespace Go.VS
section
variable {P:Program}{φ:fj}
variable {nt m dB:Nat}{s:St}{g:Gh}{a:Act}{w:World}{K:Act->World->Prop}{Q:Exit->Act->World->Prop}{o:Oper}
theorem zF{I:Nat->Nat}{b es:Nat}:∀{off:Nat}{xs:List (List D)},jE φ I w b es off xs->∃vs:List Value,cy φ I w xs.flatten vs/\(∀v∈vs,v.oneCell'=true)/\vs.length=es*xs.length /\
  ∀(j:Nat)(v:Value),vs[j]?=some v->w.cell? ⟨b,off+j,none⟩=some v
 |off,[],_=>⟨[],by simp[cy],by simp,by simp,by simp⟩
 |off,x::xs,hr=>by
  simp only[jE]at hr;obtain⟨hl,hc,hr⟩:=hr;obtain⟨us,h1,h2,h3⟩:=Ii hc;obtain⟨vs,k1,k2,k3,k4⟩:=zF hr;have TE:=sH h1;refine⟨us++vs,by rw[yL];exact zw h1 k1,λv hv=>(dj.1 hv).elim (h3 v) (k2 v),by rw[lT,k3,<-TE,hl,iy,Pm];omega,λj v hj=>?_⟩
  by_cases hlt:j<us.length
  .rw[sQ hlt]at hj
   exact h2 j v hj
  .rw[An (by omega)]at hj
   have:=k4 (j - us.length) v hj;have he:off+es+(j - us.length)=off+j:=by omega
   rwa [he]at this
theorem TH{I:Nat->Nat}{b es:Nat}:∀{off:Nat}{xs:List (List D)}{vs:List Value},(∀r∈xs,r.length=es)->cy φ I w xs.flatten vs->(∀v∈vs,v.oneCell'=true) ->
  (∀(j:Nat)(v:Value),vs[j]?=some v->w.cell? ⟨b,off+j,none⟩=some v)->jE φ I w b es off xs:=by
 intro off xs vs hl hr h1 hc;refine uU λr row hrow=>⟨hl row (kU hrow),wh λj c hj=>?_⟩
 obtain⟨v,hv,hd⟩:=A8 hr (Fj hl hrow hj);exact⟨v,by rw[pE];exact hc _ v hv,h1 v (kU hv),hd⟩
theorem Dg{I:Nat->Nat}{b es o off len:Nat}{rows:List (List D)}(hr:jE φ I w b es o rows)(hle:off+len<=rows.length):jE φ I w b es (o+off*es) ((rows.drop off).take len):=by
 refine uU λr row hrow=>?_
 have hlt:r<len:=by
  rcases kZ r len with h |h
  .exact h
  .simp[yK,Nat.not_lt.2 h]at hrow
 rw[List.getElem?_take_of_lt hlt,pF]at hrow;obtain⟨h1,h2⟩:=nY hr hrow;refine⟨h1,?_⟩
 have:o+off*es+r*es=o+(off+r)*es:=by rw[ni];omega
 rw[this];exact h2
theorem Zx{h:List O}{es:Nat}{y:V}{v:Value}{ys:List (List D)}(hH:eU φ h g w)(hr:aI φ h g w y v)(hy:At h es y=some ys):
  ∃(xa:Option Addr)(xc:Nat)(news:List Value),v = .slice xa ys.length xc/\(∀r∈ys,r.length=es)/\cy φ g.I w ys.flatten news/\(∀u∈news,u.oneCell'=true)/\news.length=es*ys.length /\
   (ys≠[]->∃b off,xa=some ⟨b,off,none⟩/\∀(j:Nat)(u:Value),news[j]?=some u->w.cell? ⟨b,off+j,none⟩=some u):=by
 have lens:∀{b off:Nat}{xs:List (List D)},jE φ g.I w b es off xs->∀r∈xs,r.length=es:=by
  intro b off xs dS r hmem;obtain⟨j,hj,he⟩:=sS hmem;exact(nY dS (r:=j) (row:=r) (by simp[hj,he])).1
 unfold At at hy;split at hy
 .rename_i e nl xs
  split at hy
  .rename_i he
   subst he;simp at hy;subst hy;simp only[aI,bR]at hr;obtain⟨ad,cap,rfl,hlc,ht,hf⟩:=hr;by_cases hx:xs=[]
   .subst hx
    exact⟨ad,cap,[],rfl,by simp,by simp[cy],by simp,by simp,by simp⟩
   .cases nl with
    |true =>
     obtain⟨_,rfl⟩:=ht rfl
     have:xs.length=0:=by omega
     exact absurd (vA this) hx
    |false =>
     obtain⟨Fu,rfl,hx'⟩:=hf rfl;obtain⟨hsp,_,dS⟩:=hx' hx;obtain⟨b,off,sp⟩:=Fu;simp only at hsp dS;subst hsp;obtain⟨vs,h1,h2,h3,h4⟩:=zF dS;exact⟨_,cap,vs,rfl,lens dS,h1,h2,h3,λ_=>⟨b,off,rfl,h4⟩⟩
  .simp at hy
 .rename_i e
  simp at hy;subst hy;simp only[aI]at hr;obtain⟨ad,rfl⟩:=hr;exact⟨some ad,0,[],rfl,by simp,by simp[cy],by simp,by simp,by simp⟩
 .rename_i n off len
  split at hy
  .rename_i e ex rows hn
   split at hy
   .rename_i dV
    obtain⟨rfl,hle⟩:=dV;simp at hy;subst hy;simp only[aI]at hr;obtain⟨cap,rfl,hlc,_⟩:=hr.2.2 e (by rw[hn];rfl)
    have dD:=hH.obj n;rw[hn]at dD;have dS:=Dg dD.2.1 hle;have hlen:((rows.drop off).take len).length=len:=by simp;omega
    obtain⟨vs,h1,h2,h3,h4⟩:=zF dS;exact⟨_,cap,vs,by rw[hlen],lens dS,h1,h2,h3,λ_=>⟨_,_,rfl,h4⟩⟩
   .simp at hy
  .simp at hy
 .rename_i n off len
  split at hy
  .rename_i e ex rows hn
   split at hy
   .rename_i dV
    obtain⟨rfl,hle⟩:=dV;simp at hy;subst hy;simp only[aI]at hr;obtain⟨cap,rfl,hlc,_⟩:=hr.2.2 e (by rw[hn];rfl)
    have dD:=hH.obj n;rw[hn]at dD;have dS:=Dg dD.2.1 hle;have hlen:((rows.drop off).take len).length=len:=by simp;omega
    obtain⟨vs,h1,h2,h3,h4⟩:=zF dS;exact⟨_,cap,vs,by rw[hlen],lens dS,h1,h2,h3,λ_=>⟨_,_,rfl,h4⟩⟩
   .simp at hy
  .simp at hy
 .simp at hy
theorem Iy{es n:Nat}{xa:Option Addr}{xc:Nat}{news:List Value}(hl:news.length=n*es)(hc:news≠[]->∃b off,xa=some ⟨b,off,none⟩/\∀(j:Nat)(u:Value),news[j]?=some u->w.cell? ⟨b,off+j,none⟩=some u)
  : (Builtin.firstCells es n (.slice xa n xc)).run P w = .ok news.toArray w:=by
 by_cases hne:news=[]
 .subst hne
  cases xa with
  |none=>simp[Builtin.firstCells]
  |some ad=>exact run_firstCells_some w es n ad n xc [] hl (by simp)
 .obtain⟨b,off,rfl,h⟩:=hc hne
  exact run_firstCells_some w es n _ n xc news hl λj v hj=>by rw[qG];exact h j v hj
theorem TI{t t' ty e e':TypeId}{i:TypeInfo}(ht:P.underlying t=some (.slice e))(ht':P.underlying t'=some (.slice e'))(hi:P.info? e=some i){b off sLen sCap n xc:Nat}{xa:Option Addr}{news:List Value}
  (hl:news.length=n*i.size)(hc:news≠[]->∃b off,xa=some ⟨b,off,none⟩/\∀(j:Nat)(u:Value),news[j]?=some u->w.cell? ⟨b,off+j,none⟩=some u)
  (hle:sLen+n<=sCap){cur:Array Value}{T:TypeId}(hg:w.heap[b]?=some (.cells cur T (0,0)))(hfit:off+sLen*i.size+news.length<=cur.size)(h1:∀u∈news,u.oneCell'=true):
  (Builtin.append_ #[t,t'] ty #[.slice (some ⟨b,off,none⟩) sLen sCap,.slice xa n xc]).run P w = .ok (.slice (some ⟨b,off,none⟩) (sLen+n) sCap) (w.setRow b (aq cur.toList (off+sLen*i.size) news).toArray):=by
 have hf:=Iy (P:=P) (w:=w) hl hc (xc:=xc);have hst:=run_storeCells_at P b (off+sLen*i.size) T news 0 cur w hg (by simpa using hfit) h1
 simp only[GB]at hst;simp[Builtin.append_,run_underlying ht,run_underlying ht',sizeOf,typeInfo,hi,Builtin.lenOf,hle,hf,qG,hst,aq]
theorem air{t t' ty e e':TypeId}{i:TypeInfo}(ht:P.underlying t=some (.slice e))(ht':P.underlying t'=some (.slice e'))(hi:P.info? e=some i){sLen sCap xc:Nat}{base xa:Option Addr}(hle:sLen<=sCap):
  (Builtin.append_ #[t,t'] ty #[.slice base sLen sCap,.slice xa 0 xc]).run P w = .ok (.slice base sLen sCap) w:=by
 have hf:=Iy (P:=P) (w:=w) (es:=i.size) (n:=0) (xa:=xa) (xc:=xc) (news:=[]) (by simp) (by simp)
 cases base with
 |none=>simp[Builtin.append_,run_underlying ht,run_underlying ht',sizeOf,typeInfo,hi,Builtin.lenOf,hle,hf]
 |some ad=>simp[Builtin.append_,run_underlying ht,run_underlying ht',sizeOf,typeInfo,hi,Builtin.lenOf,hle,hf,storeCells]
theorem TJ{t t' ty e e':TypeId}{i:TypeInfo}{z:Value}(ht:P.underlying t=some (.slice e))(ht':P.underlying t'=some (.slice e'))(hi:P.info? e=some i)(hz:i.zero=some z){sLen sCap n sc xc:Nat}{base xa:Option Addr}{olds news:List Value}
  (hlo:olds.length=sLen*i.size)(TK:olds≠[]->∃b off,base=some ⟨b,off,none⟩/\∀(j:Nat)(u:Value),olds[j]?=some u->w.cell? ⟨b,off+j,none⟩=some u)
  (hl:news.length=n*i.size)(hc:news≠[]->∃b off,xa=some ⟨b,off,none⟩/\∀(j:Nat)(u:Value),news[j]?=some u->w.cell? ⟨b,off+j,none⟩=some u)
  (mJ:sCap<sLen+n)(hroom:sLen+n<=room)(hby:i.bytes<=16384)(hsc:sc=sCap):
  (Builtin.append_ #[t,t'] ty #[.slice base sLen sc,.slice xa n xc]).run P w =
   .ok (.slice (some ⟨w.heap.size,0,none⟩) (sLen+n) (grownCap w (sLen+n) sCap e)) (w.drew.alloc (.cells (olds++news++(Builtin.zeroCells z.cells (grownCap w (sLen+n) sCap e - (sLen+n))).toList).toArray e)):=by
 subst hsc;have hn:¬(sLen+n<=sc):=by omega
 have TL:sLen+n<=4294967296:=hroom;have h63':¬(9223372036854775807<((sLen:Int)+(n:Int))):=by omega
 have hmul:(sLen+n)*i.bytes<=4294967296*16384:=JV TL hby;have TM:¬(281474976710656<Builtin.nextslicecap (sLen+n) sc*i.bytes):=by
  have:=growslice_fits (bytes:=i.bytes) mJ (by omega)
  omega
 have hf:=Iy (P:=P) (w:=w.drew) (xa:=xa) (xc:=xc) hl (λh=>by obtain⟨b,off,h1,h2⟩:=hc h;exact⟨b,off,h1,by simpa using h2⟩)
 have hfo:=Iy (P:=P) (w:=w.drew) (xa:=base) (xc:=sc) hlo (λh=>by obtain⟨b,off,h1,h2⟩:=TK h;exact⟨b,off,h1,by simpa using h2⟩)
 simp[Builtin.append_,run_underlying ht,run_underlying ht',sizeOf,typeInfo,zeroValue,hi,hz,Builtin.lenOf,hn,h63',TM,Question.forced,hf,hfo,newRow,grownCap];congr 2;apply Pq;simp[sU]
end
end Go.VS
namespace Go.VS
section
variable {P:Program}{φ:fj}
variable {nt m dB:Nat}{s:St}{g:Gh}{a:Act}{w:World}{K:Act->World->Prop}{Q:Exit->Act->World->Prop}{o:Oper}
theorem jS.refl(w:World)(b:Nat):jS w w b:=⟨rfl,λ_ _=>rfl,rfl,rfl,rfl⟩
theorem Zy{h:List O}{B o':Nat}{x:O}(hr:eU φ h g w)(hB:∀k,(aV h k).live=true->g.β k≠B)(hx:gz φ (h++[x]) (g.add h.length B o' g.I) w B o' x):
  eU φ (h++[x]) (g.add h.length B o' g.I) w where
 obj n:=by
  rcases sR n h.length with hn |hn |hn
  .have hne:n≠h.length:=by omega
   rw[pY hn];by_cases hl:(aV h n).live=true
   .have:=C4 (zC (b:=B) (o:=o') x hr (gN.refl w) (λ_ _=>rfl)) rfl rfl (hr.obj n)
    simpa[Gh.add,hne]using this
   .cases hq:aV h n<;>simp_all[O.live,gz]
  .subst hn
   rw[C7];simpa[Gh.add]using hx
  .rw[uW hn]
   trivial
 inj n k hn hk he:=by
  have key:∀n,(aV (h++[x]) n).live=true->n<=h.length:=λn hn=>by
   rcases kZ h.length n with h1 |h1
   .rw[uW h1]at hn;simp[O.live]at hn
   .exact h1
  have kn:=key n hn;have kk:=key k hk;by_cases h1:n=h.length<;>by_cases h2:k=h.length
  .omega
  .have hlt:k<h.length:=by omega
   rw[pY hlt]at hk;have:=hB k hk;simp[Gh.add,h1,h2]at he;exact absurd he.symm this
  .have hlt:n<h.length:=by omega
   rw[pY hlt]at hn;have:=hB n hn;simp[Gh.add,h1,h2]at he;exact absurd he this
  .have hlt:n<h.length:=by omega
   have hlt':k<h.length:=by omega
   rw[pY hlt]at hn;rw[pY hlt']at hk;simp[Gh.add,h1,h2]at he;exact hr.inj n k hn hk he
 new:=hr.new
theorem ais{h':List O}{g':Gh}{w':World}{b es:Nat}{T:TypeId}{C:List Value}{rest:List Value}{ys:List (List D)}{ex:Bool}(hb:w'.heap[b]?=some (.cells (C++rest).toArray T (0,0)))
  (hl:∀r∈ys,r.length=es)(hr:cy φ g'.I w' ys.flatten C)(h1:∀v∈C,v.oneCell'=true)(hI:if ex then g'.I b<=0 else g'.I b=0+es*ys.length):gz φ h' g' w' b 0 (.aG es ex ys):=by
 have hlen:=sH hr;rw[x9 hl]at hlen;refine⟨⟨_,T,hb,by simp;omega⟩,TH hl hr h1 λj v hj=>?_,hI⟩
 simp only[World.cell?,hb,nQ,BZ];rw[sQ]
 .simp[hj]
 .rcases kZ j C.length with h2 |h2
  .exact h2
  .simp[nO h2]at hj
theorem NA{C:Array Value}(h:∀v∈C.toList,v.oneCell'=true)(n:Nat):∀v∈(Builtin.zeroCells C n).toList,v.oneCell'=true:=by
 intro v hv;simp only[Builtin.zeroCells,D1,Array.toList_range,gV,JW]at hv;obtain⟨i,hi,rfl⟩:=hv;have hp:0<C.size:=by
  rcases WA C.size with h0 |h0
  .rw[h0]at hi;simp at hi
  .exact h0
 have hlt:=Nat.mod_lt i hp;rw[getElem!_pos C _ hlt];exact h _ (by simp)
theorem Zz(hs:cm φ nt m dB s g a w){d:Nat}(hd:gj nt o d=true){es cap:Nat}{T:TypeId}{C rest:List Value}{ys:List (List D)}{ex:Bool}{ok:Bool}{w1:World}(Bl:gN w w1)(n9:w1.heap.size=w.heap.size)
  (hrun:(execOp a.eval o).run P w = .ok (.value (.slice (some ⟨w.heap.size,0,none⟩) ys.length cap)) (w1.alloc (.cells (C++rest).toArray T)))
  (hl:∀r∈ys,r.length=es)(hr:cy φ g.I w ys.flatten C)(h1:∀v∈C,v.oneCell'=true)(hcap:ys.length<=cap)(hfit:cap*es<=C.length+rest.length)(rG:∀v∈rest,v.oneCell'=true)
  (hK:∀g' v' w',cm φ nt m dB ⟨(d,.aR s.heap.length 0 ys.length)::s.env,s.heap++[.aG es ex ys],ok⟩ g' (a.put o.dst v') w'->Frame m s.heap g w (s.heap++[.aG es ex ys]) g' w'->K (a.put o.dst v') w'):o.wp P a w K Q:=by
 have hnew:=hs.heap.new;have hnew1:∀b,w1.heap.size<=b->g.I b=0:=λb hb=>hnew b (by omega)
 have hg:=Bl.trans (gN.alloc w1 (.cells (C++rest).toArray T));have hb:(w1.alloc (.cells (C++rest).toArray T)).heap[w.heap.size]?=some (.cells (C++rest).toArray T):=by rw[<-n9];exact zD w1 _
 have hI:∀b,b<w.heap.size->iL g.I w.heap.size (if ex then 0 else es*ys.length) b=g.I b:=λb hb=>Fl hb
 have hE:=C5 hg hI hnew;refine Is hs hd (b:=w.heap.size) (off:=0) (x:=.aG es ex ys) (I':=iL g.I w.heap.size (if ex then 0 else es*ys.length)) hrun hg hI (by rw[<-n9];exact Tx (w:=w1) hnew1 _) (gf _) ?_ ?_ hK
 .refine ais hb hl (zu hE hr) h1 ?_
  cases ex<;>simp[Gh.add,iL]
 .simp only[aI]
  refine⟨by simp,rfl,λes' he'=>?_⟩
  rw[C7]at he'⊢;simp[O.gM]at he';subst he';exact⟨cap,by simp[Gh.add],hcap,by simp[O.len];exact hcap,_,_,by simpa[Gh.add]using hb,by simp[Gh.add];exact hfit,λv hv=>by simp at hv;exact hv.elim (h1 v) (rG v)⟩
theorem NB(hs:cm φ nt m dB s g a w){d:Nat}(hd:gj nt o d=true){es cap:Nat}{T:TypeId}{C rest:List Value}{ys:List (List D)}{ex:Bool}{ok:Bool}
  (hrun:(execOp a.eval o).run P w = .ok (.value (.slice (some ⟨w.heap.size,0,none⟩) ys.length cap)) (w.drew.alloc (.cells (C++rest).toArray T)))
  (hl:∀r∈ys,r.length=es)(hr:cy φ g.I w ys.flatten C)(h1:∀v∈C,v.oneCell'=true)(hcap:ys.length<=cap)(hfit:cap*es<=C.length+rest.length)(rG:∀v∈rest,v.oneCell'=true)
  (hK:∀g' v' w',cm φ nt m dB ⟨(d,.aR s.heap.length 0 ys.length)::s.env,s.heap++[.aG es ex ys],ok⟩ g' (a.put o.dst v') w'->Frame m s.heap g w (s.heap++[.aG es ex ys]) g' w'->K (a.put o.dst v') w'):o.wp P a w K Q :=
 Zz hs hd (gN.drew w) rfl hrun hl hr h1 hcap hfit rG hK
theorem cm.kill(hs:cm φ nt m dB s g a w){n:Nat}(hl:(aV s.heap n).live=true)(ok:Bool):cm φ nt m dB ⟨s.env,s.heap.set n .dead,ok⟩ g a w/\Frame m s.heap g w (s.heap.set n .dead) g w/\gS s.heap g w (s.heap.set n .dead) g w:=by
 have hle:gS s.heap g w (s.heap.set n .dead) (g.dZ g.I) w:=wu hs.heap hl (jS.refl _ _) (Ext.refl _ _) (λes he=>by simp[O.gM]at he) (λkv hk=>by simp at hk)
 have hr:eU φ (s.heap.set n .dead) (g.dZ g.I) w:=wx hs.heap hl (jS.refl _ _) hle (λ_ _=>rfl) trivial
 exact⟨hs.x8 hl (jS.refl _ _) hle hr,wy .dead hl (jS.refl _ _) (Ext.refl _ _) (λ_ _=>rfl) hle,hle⟩
theorem ait{I:Nat->Nat}{cs ds:List D}{vs us:List Value}(h:cy φ I w cs vs)(k:cy φ I w ds us)(n:Nat):cy φ I w (aq cs n ds) (aq vs n us):=by
 unfold aq;rw[sH k];exact zw (zw (Tt h n) k) (Be h _)
theorem aiu{α:Type}{es:Nat}{rows ys:List (List α)}(hl:∀r∈rows,r.length=es)(hy:∀r∈ys,r.length=es)(n:Nat):(aq rows n ys).flatten=aq rows.flatten (n*es) ys.flatten:=by
 have key:∀(rows:List (List α))(n:Nat),(∀r∈rows,r.length=es)->(rows.take n).flatten=rows.flatten.take (n*es)/\(rows.drop n).flatten=rows.flatten.drop (n*es):=by
  intro rows;induction rows with
  |nil=>intro n _;simp
  |cons r rs ih =>
   intro n h;have hr:r.length=es:=h r (by simp)
   cases n with
   |zero=>simp
   |succ n =>
    obtain⟨h1,h2⟩:=ih n (λx hx=>h x (by simp[hx]))
    simp only[Pr,yL,WB,h1,h2,GC,Pn,hr,qU];have e1:n*es+es - es=n*es:=by omega
    have e2:r.take (n*es+es)=r:=gC (by omega)
    have e3:r.drop (n*es+es)=[]:=qP (by omega)
    rw[e1,e2,e3];simp
 unfold aq;rw[D2,D2,(key rows n hl).1,(key rows _ hl).2,x9 hy];congr 2;rw[ni,jg ys.length]
theorem ZA{α:Type}{cs ds:List α}{n:Nat}{x:α}(h:x∈aq cs n ds):x∈cs\/x∈ds:=by
 simp only[aq,dj]at h;rcases h with(h |h) |h
 .exact .inl (nN h)
 .exact .inr h
 .exact .inl (mO h)
theorem ZB{I I':Nat->Nat}{w':World}{b es off n:Nat}{rows ys:List (List D)}{news:List Value}(hr:jE φ I w b es off rows)(hE:Ext I w I' w')(hy:cy φ I w ys.flatten news)(h1:∀v∈news,v.oneCell'=true)
  (TN:∀r∈ys,r.length=es)(hn:n+ys.length<=rows.length){cur:Array Value}{T:TypeId}(hg:w.heap[b]?=some (.cells cur T (0,0)))(hfit:off+es*rows.length<=cur.size)
  (hg':w'.heap[b]?=some (.cells (aq cur.toList (off+n*es) news).toArray T (0,0))):jE φ I' w' b es off (aq rows n ys):=by
 have hrl:∀r∈rows,r.length=es:=by
  intro r hmem;obtain⟨j,hj,he⟩:=sS hmem;exact(nY hr (r:=j) (row:=r) (by simp[hj,he])).1
 obtain⟨vs,k1,k2,k3,k4⟩:=zF hr;have gi:=sH hy;rw[x9 TN]at gi;have hmul:n*es+es*ys.length<=es*rows.length:=by
  have:=Pp es hn;rw[Gz,jg es n]at this;exact this
 refine TH (vs:=aq vs (n*es) news) (λr hr=>(ZA hr).elim (hrl r) (TN r)) ?_ (λv hv=>(ZA hv).elim (k2 v) (h1 v)) λj v hj=>?_
 .rw[aiu hrl TN]
  exact zu hE (ait k1 hy _)
 .have nG:=Dc (cs:=cur.toList) (new:=news) (o:=off+n*es) (by simp;omega) (off+j)
  rw[Dc (by omega)]at hj
  have old:vs[j]?=some v->cur.toList[off+j]?=some v:=λh=>by
   have:=k4 j v h;simpa[World.cell?,hg]using this
  simp only[World.cell?,hg',BZ];rw[nG];by_cases c1:j<n*es
  .rw[aK c1]at hj
   rw[aK (show off+j<off+n*es by omega)]
   exact old hj
  .rw[aD c1]at hj
   rw[aD (show ¬off+j<off+n*es by omega)]
   by_cases c2:j<n*es+news.length
   .rw[aK c2]at hj
    rw[aK (show off+j<off+n*es+news.length by omega)]
    have:off+j - (off+n*es)=j - n*es:=by omega
    rw[this];exact hj
   .rw[aD c2]at hj
    rw[aD (show ¬off+j<off+n*es+news.length by omega)]
    exact old hj
def TO(b:Bool)(n off len:Nat):V:=if b then .jc n off len else .aR n off len
theorem ZC(bx:Bool)(hs:cm φ nt m dB s g a w){d n off len cap es:Nat}{x':Operand}{rows ys:List (List D)}{news:List Value}{CS:Array Value}{T:TypeId}(hd:gj nt o d=true)(hn:aV s.heap n = .aG es true rows)
  (hb:w.heap[g.β n]?=some (.cells CS T (0,0)))(hfit:g.o n+(off+cap)*es<=CS.size)(hcs:xZ CS)(oX:g.o n+es*rows.length<=CS.size)(hm:if bx then rows.length=off+cap else rows.length<=off+cap)(he:a.eval x' = .slice (some ⟨g.β n,g.o n+off*es,none⟩) len cap)
  (dS:jE φ g.I w (g.β n) es (g.o n) rows)(hI:g.I (g.β n)<=g.o n)(hrd:cy φ g.I w ys.flatten news)(hone:∀u∈news,u.oneCell'=true)(hrl:∀r∈ys,r.length=es)(nH:news.length=ys.length*es)
  (hin:off+len+ys.length<=rows.length)
  (hrun:len+ys.length<=cap->g.o n+off*es+len*es+news.length<=CS.size->(execOp a.eval o).run P w = .ok (.value (.slice (some ⟨g.β n,g.o n+off*es,none⟩) (len+ys.length) cap)) (w.setRow (g.β n) (aq CS.toList (g.o n+off*es+len*es) news).toArray))
  (hK:eu φ nt m dB s g w ⟨(d,TO bx n off (len+ys.length))::s.env,s.heap.set n (.aG es true (aq rows (off+len) ys)),s.ok⟩ o a K):o.wp P a w K Q:=by
 have hl:(aV s.heap n).live=true:=by rw[hn];rfl
 have hm':rows.length<=off+cap:=by cases bx<;>simp at hm<;>omega
 have hmul:(off+len+ys.length)*es<=rows.length*es:=lU es hin;rw[ni,ni]at hmul;have Iz:es*rows.length=rows.length*es:=jg _ _;have oY:g.o n+off*es+len*es+news.length<=CS.size:=by omega
 have TP:=hrun (by omega) oY
 obtain⟨ht,hw'⟩:=Nr (cs:=(aq CS.toList (g.o n+off*es+len*es) news).toArray) hb;have hE:Ext g.I w g.I (w.setRow (g.β n) (aq CS.toList (g.o n+off*es+len*es) news).toArray):=Iv ht hb oY hw' (by omega) (λ_=>gf _)
 have hsize:(aq CS.toList (g.o n+off*es+len*es) news).toArray.size=CS.size:=by
  have:=Bi (cs:=CS.toList) (new:=news) (o:=g.o n+off*es+len*es) (by simpa using oY)
  simpa using this
 have yd:(aq rows (off+len) ys).length=rows.length:=Bi hin;have hle:=wu (x:=.aG es true (aq rows (off+len) ys)) hs.heap hl ht hE
  (λes' he'=>⟨by rw[hn];simpa[O.gM]using he',by rw[hn];simp only[O.len,yd],λrH T' hc=>by
   rw[hb]at hc;simp at hc;obtain⟨rfl,rfl⟩:=hc;exact⟨_,_,hw',by rw[hsize];exact gf _,λh=>h.Bj hone⟩⟩) (λkv hk=>by simp at hk)
 have e1:g.o n+off*es+len*es=g.o n+(off+len)*es:=by rw[ni];omega
 have hH:=wx (x:=.aG es true (aq rows (off+len) ys)) hs.heap hl ht hle (λ_ _=>rfl)
  ⟨⟨_,T,hw',by rw[hsize,yd];exact oX⟩,ZB dS hE hrd hone hrl hin hb oX (by rw[<-e1];exact hw'),by simpa[Gh.dZ]using hI⟩
 have hS:=hs.x8 (ok:=s.ok) hl ht hle hH;obtain⟨h1,h2⟩:=Bd hd;refine Fg TP (hK _ _ _ ?_ (wy _ hl ht hE (λ_ _=>rfl) hle))
 rw[h1];refine hS.wF h2 ?_;cases bx with
 |false =>
  simp only[TO,eI,dI,aI];refine⟨by simpa using A9 hl,rfl,λes' he'=>?_⟩
  rw[wq (A9 hl)]at he'⊢;simp[O.gM]at he';subst he';exact⟨cap,rfl,by omega,by simp only[O.len,yd];exact hm',_,_,hw',by rw[hsize];exact hfit,hcs.Bj hone⟩
 |true =>
  simp only[dF]at hm;simp only[TO,dF,aI];refine⟨by simpa using A9 hl,rfl,λes' he'=>?_⟩
  rw[wq (A9 hl)]at he'⊢;simp[O.gM]at he';subst he';exact⟨cap,rfl,by omega,by simp only[O.len,yd];exact hm,_,_,hw',by rw[hsize];exact hfit,hcs.Bj hone⟩
theorem TQ(hs:cm φ nt m dB s g a w){d n off len cap es:Nat}{ex:Bool}{rows ys:List (List D)}{news:List Value}{CS:Array Value}{T:TypeId}(hd:gj nt o d=true)(hn:aV s.heap n = .aG es ex rows)
  (hb:w.heap[g.β n]?=some (.cells CS T (0,0)))(hfit:g.o n+(off+cap)*es<=CS.size)(hcs:xZ CS)(oX:g.o n+es*rows.length<=CS.size)(ZD:off+len<=rows.length)
  (dS:jE φ g.I w (g.β n) es (g.o n) rows)(hI:if ex then g.I (g.β n)<=g.o n else g.I (g.β n)=g.o n+es*rows.length)(hrd:cy φ g.I w ys.flatten news)(hone:∀u∈news,u.oneCell'=true)(hrl:∀r∈ys,r.length=es)(nH:news.length=ys.length*es)
  (hcap:len+ys.length<=cap)(hex:ex=true\/off+len=rows.length)
  (hrun:g.o n+off*es+len*es+news.length<=CS.size->(execOp a.eval o).run P w = .ok (.value (.slice (some ⟨g.β n,g.o n+off*es,none⟩) (len+ys.length) cap)) (w.setRow (g.β n) (aq CS.toList (g.o n+off*es+len*es) news).toArray))
  (hK:eu φ nt m dB s g w ⟨(d,.aR s.heap.length 0 (len+ys.length))::s.env,s.heap.set n .dead++[.aG es ex ((rows.drop off).take len++ys)],s.ok⟩ o a K):o.wp P a w K Q:=by
 have hl:(aV s.heap n).live=true:=by rw[hn];rfl
 have hmul:(len+ys.length)*es<=cap*es:=lU es hcap;have ZE:(off+len)*es<=rows.length*es:=lU es ZD;rw[ni]at hmul ZE;have aiv:=hfit;rw[ni]at aiv;have Iz:es*rows.length=rows.length*es:=jg _ _;have gK:es*len=len*es:=jg _ _;have wM:es*ys.length=ys.length*es:=jg _ _;have oY:g.o n+off*es+len*es+news.length<=CS.size:=by omega
 have TP:=hrun oY;obtain⟨ht,hw'⟩:=Nr (cs:=(aq CS.toList (g.o n+off*es+len*es) news).toArray) hb;generalize hwg:w.setRow (g.β n) (aq CS.toList (g.o n+off*es+len*es) news).toArray=w' at *;have hlen:((rows.drop off).take len).length=len:=by simp;omega
 have jG:((rows.drop off).take len++ys).length=len+ys.length:=by simp;omega
 have hIp:g.I (g.β n)<=g.o n+off*es+len*es:=by
  cases ex with
  |true=>simp only[dF]at hI;omega
  |false =>
   simp at hI hex
   have:rows.length*es=off*es+len*es:=by rw[<-hex,ni]
   omega
 have hE:Ext g.I w (if ex then g.I else iL g.I (g.β n) (g.o n+off*es+es*(len+ys.length))) w':=Iv ht hb oY hw' hIp (λk=>by
  cases ex with
  |true=>simp
  |false =>
   simp only[eI,dI,iL];split
   .rename_i hk;subst hk;rw[Gz];omega
   .exact gf _)
 generalize ZF:(if ex then g.I else iL g.I (g.β n) (g.o n+off*es+es*(len+ys.length)))=I' at hE
 have ya:∀b,b≠g.β n->I' b=g.I b:=by
  intro b hb;rw[<-ZF];cases ex<;>simp[iL,hb]
 have hsize:(aq CS.toList (g.o n+off*es+len*es) news).toArray.size=CS.size:=by
  have:=Bi (cs:=CS.toList) (new:=news) (o:=g.o n+off*es+len*es) (by simpa using oY)
  simpa using this
 have jT:=wu (x:=.dead) hs.heap hl ht hE (λes he=>by simp[O.gM]at he) (λkv hk=>by simp at hk)
 have rN:=wx (x:=.dead) hs.heap hl ht jT ya trivial;have tN:=hs.x8 (ok:=s.ok) hl ht jT rN;have hB:∀k,(aV (s.heap.set n .dead) k).live=true->(g.dZ I').β k≠g.β n:=by
  intro k hk Bm;by_cases hkn:k=n
  .subst hkn;rw[wq (A9 hl)]at hk;simp[O.live]at hk
  .rw[pZ hkn]at hk;exact hkn (hs.heap.inj k n hk hl Bm)
 have Fv:=zC (b:=g.β n) (o:=g.o n+off*es) (.aG es ex ((rows.drop off).take len++ys)) rN (gN.refl w') (I':=I') (λ_ _=>rfl)
 obtain⟨olds,o1,o2,o3,o4⟩:=zF (Dg dS ZD);rw[hlen]at o3;have IA:∀r∈(rows.drop off).take len++ys,r.length=es:=by
  intro r hr;rcases dj.1 hr with h1 |h1
  .obtain⟨j,hj,Dh⟩:=sS (mO (nN h1))
   exact(nY dS (r:=j) (row:=r) (by simp[hj,Dh])).1
  .exact hrl r h1
 have TS:jE φ I' w' (g.β n) es (g.o n+off*es) ((rows.drop off).take len++ys):=by
  refine TH (vs:=olds++news) IA (by rw[D2];exact zu hE (zw o1 hrd)) (λv hv=>(dj.1 hv).elim (o2 v) (hone v)) λj v hj=>?_
  have nG:=Dc (cs:=CS.toList) (new:=news) (o:=g.o n+off*es+len*es) (by simpa using oY) (g.o n+off*es+j)
  simp only[World.cell?,hw',BZ];rw[nG];by_cases c1:j<olds.length
  .rw[sQ c1]at hj
   rw[aK (show g.o n+off*es+j<g.o n+off*es+len*es by omega)]
   have:=o4 j v hj;simpa[World.cell?,hb]using this
  .rw[An (by omega)]at hj
   have hjl:j - olds.length<news.length:=by
    rcases kZ (j - olds.length) news.length with h2 |h2
    .exact h2
    .simp[nO h2]at hj
   rw[aD (show ¬g.o n+off*es+j<g.o n+off*es+len*es by omega),aK (show g.o n+off*es+j<g.o n+off*es+len*es+news.length by omega)]
   have:g.o n+off*es+j - (g.o n+off*es+len*es)=j - olds.length:=by omega
   rw[this];exact hj
 have TT:gz φ (s.heap.set n .dead++[.aG es ex ((rows.drop off).take len++ys)]) ((g.dZ I').add (s.heap.set n .dead).length (g.β n) (g.o n+off*es) I') w' (g.β n) (g.o n+off*es) (.aG es ex ((rows.drop off).take len++ys)):=by
  refine⟨⟨_,T,hw',by rw[hsize,jG,Gz];omega⟩,TS,?_⟩
  rw[jG];show if ex=true then I' (g.β n)<=_ else I' (g.β n)=_
  rw[<-ZF];cases ex with
  |true=>simp at hI⊢;omega
  |false=>simp[iL]
 have TU:=Zy rN hB TT;have IB:cm φ nt m dB ⟨s.env,s.heap.set n .dead++[.aG es ex ((rows.drop off).take len++ys)],s.ok⟩ ((g.dZ I').add (s.heap.set n .dead).length (g.β n) (g.o n+off*es) I') a w' :=
  ⟨λk=>lI Fv (tN.env k),TU,tN.size,hs.defers.reuse hl tN.defers,by have:=hs.len;simp;omega⟩
 have TV:(s.heap.set n .dead).length=s.heap.length:=by simp
 have p8:=wy (m:=m) .dead hl ht hE ya jT;obtain⟨h1,h2⟩:=Bd hd;refine Fg TP (hK ((g.dZ I').add (s.heap.set n .dead).length (g.β n) (g.o n+off*es) I') _ _ ?_ ⟨hE,p8.size,p8.os,p8.tape,p8.output,λk hk=>?_,p8.keep,λk hk=>?_,λk hk=>?_⟩)
 .rw[h1]
  refine IB.wF h2 ?_;simp only[aI];refine⟨by simp,rfl,λes' he'=>?_⟩
  rw[<-TV,C7]at he'⊢;simp[O.gM]at he';subst he';refine⟨cap,by simp[Gh.add],hcap,by simp only[O.len,jG];omega,_,_,by simp only[Gh.add,dF];exact hw',?_,hcs.Bj hone⟩
  simp only[Gh.add,dF];rw[hsize,nQ];omega
 .have hne:k≠s.heap.length:=by have:=hs.len;omega
  simp[Gh.add,hne,Gh.dZ]
 .rcases sR k (s.heap.set n .dead).length with hk' |hk' |hk'
  .rw[pY hk']at hk
   have hne:k≠s.heap.length:=by omega
   have:=p8.mG k hk;simpa[Gh.add,hne]using this
  .exact .inl ⟨n,hl,by simp[Gh.add,hk']⟩
  .rw[uW hk']at hk;simp[O.live]at hk
 .have hk1:k<s.heap.length:=pz hk hs.len
  exact(jT.at hk1).trans (Fv.at (by rw[TV];exact hk1)) rfl
theorem ZG(hs:cm φ nt m dB s g a w){rec:Rec}{d es:Nat}{x y:A}(hc:cL P φ nt o (.app d x y es)=true)(hok:(aU rec (.app d x y es) s).ok=true)
  (hK:eu φ nt m dB s g w (aU rec (.app d x y es) s) o a K):o.wp P a w K Q:=by
 simp only[cL,bJ]at hc;obtain⟨hd,h⟩:=hc;split at h
 .rename_i c ho
  split at h
  .rename_i x' y' t t' iu hargs p6
   simp only[bJ,fZ]at h;obtain⟨⟨⟨hx,hy⟩,hpos⟩,ht⟩:=h;obtain⟨Fi,args,tys⟩:=c;simp only at iu hargs p6;have rJ:args=#[x',y']:=by rw[<-Array.toList_inj];exact hargs
   have wK:tys=#[t,t']:=by rw[<-Array.toList_inj];exact p6
   subst iu;subst rJ;subst wK;split at ht
   .rename_i e e' hu n8
    split at ht
    .rename_i i hi
     simp only[bJ,dN,fZ]at ht;obtain⟨⟨hsz,hby⟩,Bn⟩:=ht;split at Bn
     .rename_i z hz
      simp only[bJ,dN,yM]at Bn;obtain⟨Bn,n9⟩:=Bn;subst hsz;have rx:=eE hs hx;have ry:=eE hs hy;have fin:∀{u u':Value}{r:Value}{w':World},a.eval x'=u->a.eval y'=u'->(Builtin.append_ #[t,t'] o.type #[u,u']).run P w = .ok r w'->(execOp a.eval o).run P w = .ok (.value r) w':=by
       intro u u' r w' h1 h2 h3;simp[execOp,ho,resolve,invoke,builtin,h1,h2,h3]
      simp only[aU]at hok hK;obtain⟨v,hh,hv⟩:=Bg hok;rw[hv]at hK;simp only[St.gh]at hK;have same:∀{v':Value},(execOp a.eval o).run P w = .ok (.value v') w->hh=s.heap->aI φ s.heap g w v v'->o.wp P a w K Q:=by
       intro v' h1 h2 h3;subst h2;exact uX hs hd h1 h3 hK
      unfold D6 at hv;cases rM:At s.heap i.size (s.get y)with
      |none=>simp[rM]at hv
      |some ys =>
       simp only[rM]at hv;obtain⟨xa,xc,news,rO,hrl,hrd,hone,gi,hbase⟩:=Zx hs.heap ry rM;have nH:news.length=ys.length*i.size:=by rw[gi,jg]
       have jq:news≠[]->∃b off,xa=some ⟨b,off,none⟩/\∀(j:Nat)(u:Value),news[j]?=some u->w.cell? ⟨b,off+j,none⟩=some u:=by
        intro hne;refine hbase λh=>hne ?_
        subst h;exact vA (by simpa using gi)
       have zero:ys.length=0->∀{ad:Option Addr}{len cap:Nat},len<=cap->a.eval x' = .slice ad len cap->(execOp a.eval o).run P w = .ok (.value (.slice ad len cap)) w:=by
        intro h0 ad len cap hle he;rw[h0]at rO;exact fin he rO (air hu n8 hi hle)
       have fresh:∀{ad:Option Addr},a.eval x' = .slice ad 0 0->ys.length≠0->ys.length<=room->v = .aR s.heap.length 0 ys.length->hh=s.heap++[.aG i.size true ys]->o.wp P a w K Q:=by
        intro ad he h0 hroom TW hv2;subst TW;subst hv2;have hrun:=TJ (P:=P) (w:=w) (ty:=o.type) hu n8 hi hz (sLen:=0) (sCap:=0) (sc:=0) (base:=ad) (olds:=[]) (by simp) (by simp) nH jq (xc:=xc) (by omega) (by omega) hby rfl
        simp only[nQ,mu]at hrun;have Di:=grownCap_ge w ys.length 0 e;refine NB hs hd (es:=i.size) (ex:=true) (rest:=(Builtin.zeroCells z.cells (grownCap w ys.length 0 e - ys.length)).toList) (fin he rO hrun) hrl hrd hone Di ?_ (NA n9 _) hK;rw[nH];have tE:(Builtin.zeroCells z.cells (grownCap w ys.length 0 e - ys.length)).toList.length=(grownCap w ys.length 0 e - ys.length)*i.size:=by simp[size_zeroCells,Bn]
        rw[tE,<-Nat.add_mul];exact lU _ (by omega)
       cases fT:s.get x with
       |d xd =>
        cases xd with
        |sl e1 nl xs =>
         rw[fT]at hv rx;simp only at hv;split at hv
         .rename_i jF
          subst jF;simp only[aI,bR]at rx;obtain⟨ad,cap,he,hlc,oS,Df⟩:=rx;split at hv
          .rename_i h0
           simp at hv;obtain⟨rfl,rfl⟩:=hv;exact same (zero h0 hlc he) rfl (by simp only[aI,bR];exact⟨ad,cap,rfl,hlc,oS,Df⟩)
          .rename_i h0
           split at hv
           .rename_i ZH
            simp at hv;obtain⟨rfl,rfl⟩:=oS ZH.1
            have:xs.length=0:=by omega
            rw[this]at he;exact fresh he h0 ZH.2 hv.1.symm hv.2.symm
           .simp at hv
         .simp at hv
        |_=>rw[fT]at hv;simp at hv
       |iO e1 =>
        rw[fT]at hv rx;simp only at hv;simp only[aI]at rx;obtain⟨ad,he⟩:=rx;split at hv
        .rename_i h0
         simp at hv;obtain⟨rfl,rfl⟩:=hv;exact same (zero h0 (gf _) he) rfl (by simp[aI,bR])
        .rename_i h0
         split at hv
         .rename_i hroom
          simp at hv;exact fresh he h0 hroom hv.1.symm hv.2.symm
         .simp at hv
       |aR n off len =>
        rw[fT]at hv rx;simp only at hv;split at hv
        .rename_i e1 ex rows hn
         split at hv
         .rename_i dV
          obtain⟨rfl,hle⟩:=dV;have rx':=rx;simp only[aI]at rx;obtain⟨cap,he,hlc,hm,CS,T,hb,hfit,hcs⟩:=rx.2.2 i.size (by rw[hn];rfl)
          rw[hn]at hm;simp only[O.len]at hm;have hl:(aV s.heap n).live=true:=by rw[hn];rfl
          have dD:=hs.heap.obj n;rw[hn]at dD;obtain⟨⟨rH,T',hb',oX⟩,dS,hI⟩:=dD;rw[hb]at hb';simp at hb';obtain⟨rfl,rfl⟩:=hb';split at hv
          .rename_i h0
           simp at hv;obtain⟨rfl,rfl⟩:=hv;exact same (zero h0 hlc he) rfl (by rw[he]at rx';exact rx')
          .rename_i h0
           split at hv
           .rename_i hin
            split at hv
            .rename_i hex
             subst hex;simp at hv;obtain⟨rfl,rfl⟩:=hv;simp only[dF]at hI;exact ZC false hs hd hn hb hfit hcs oX (by simpa using hm) he dS hI hrd hone hrl nH (by omega) (λFv oY=>fin he rO (TI hu n8 hi nH jq Fv hb oY hone)) hK
            .simp at hv
           .rename_i hin
            split at hv
            .rename_i ZI
             simp at hv;obtain⟨rfl,rfl⟩:=hv;by_cases hcap:len+ys.length<=cap
             .exact TQ hs hd hn hb hfit hcs oX hle dS hI hrd hone hrl nH hcap ZI.1 (λoY=>fin he rO (TI hu n8 hi nH jq hcap hb oY hone)) hK
             .obtain⟨k1,k2,k3⟩:=hs.kill hl s.ok
              have hlen:((rows.drop off).take len).length=len:=by simp;omega
              obtain⟨olds,o1,o2,o3,o4⟩:=zF (Dg dS hle);rw[hlen]at o3;have hrun:=TJ (P:=P) (w:=w) (ty:=o.type) hu n8 hi hz (sLen:=len) (sCap:=cap) (sc:=cap) (base:=some ⟨g.β n,g.o n+off*i.size,none⟩) (olds:=olds) (by rw[o3,jg]) (λ_=>⟨_,_,rfl,o4⟩) nH jq (xc:=xc) (by omega) ZI.2 hby rfl
              have Di:=grownCap_ge w (len+ys.length) cap e;have jG:((rows.drop off).take len++ys).length=len+ys.length:=by simp;omega
              have tE:(Builtin.zeroCells z.cells (grownCap w (len+ys.length) cap e - (len+ys.length))).toList.length=(grownCap w (len+ys.length) cap e - (len+ys.length))*i.size:=by simp[size_zeroCells,Bn]
              have IA:∀r∈(rows.drop off).take len++ys,r.length=i.size:=by
               intro r hr;rcases dj.1 hr with h1 |h1
               .obtain⟨j,hj,Dh⟩:=sS (mO (nN h1))
                exact(nY dS (r:=j) (row:=r) (by simp[hj,Dh])).1
               .exact hrl r h1
              have bN:(s.heap.set n .dead).length=s.heap.length:=by simp
              refine NB (s:=⟨s.env,s.heap.set n .dead,s.ok⟩) k1 hd (es:=i.size) (ex:=ex) (ys:=(rows.drop off).take len++ys) (C:=olds++news) (ok:=s.ok)
               (rest:=(Builtin.zeroCells z.cells (grownCap w (len+ys.length) cap e - (len+ys.length))).toList) (by rw[jG];exact fin he rO hrun) IA (by rw[D2];exact zw o1 hrd)
               (λv hv=>(dj.1 hv).elim (o2 v) (hone v)) (by rw[jG];exact Di) ?_ (NA n9 _) λg' v' w' h1 h2=>?_
              .rw[lT,o3,nH,tE,jg i.size,<-Nat.add_mul,<-Nat.add_mul]
               exact lU _ (by omega)
              .simp only[bN,jG]at h1 h2
               exact hK g' v' w' h1 (k2.trans h2)
            .simp at hv
         .simp at hv
        .simp at hv
       |jc n off len =>
        rw[fT]at hv rx;simp only at hv;split at hv
        .rename_i e1 ex rows hn
         split at hv
         .rename_i dV
          obtain⟨rfl,hle⟩:=dV;have rx':=rx;simp only[aI]at rx;obtain⟨cap,he,hlc,hm,CS,T,hb,hfit,hcs⟩:=rx.2.2 i.size (by rw[hn];rfl)
          rw[hn]at hm;simp only[O.len]at hm;have hl:(aV s.heap n).live=true:=by rw[hn];rfl
          have dD:=hs.heap.obj n;rw[hn]at dD;obtain⟨⟨rH,T',hb',oX⟩,dS,hI⟩:=dD;rw[hb]at hb';simp at hb';obtain⟨rfl,rfl⟩:=hb';split at hv
          .rename_i h0
           simp at hv;obtain⟨rfl,rfl⟩:=hv;exact same (zero h0 hlc he) rfl (by rw[he]at rx';exact rx')
          .rename_i h0
           split at hv
           .rename_i hin
            split at hv
            .rename_i hex
             subst hex;simp at hv;obtain⟨rfl,rfl⟩:=hv;simp only[dF]at hI;exact ZC true hs hd hn hb hfit hcs oX (by simpa using hm) he dS hI hrd hone hrl nH (by omega) (λFv oY=>fin he rO (TI hu n8 hi nH jq Fv hb oY hone)) hK
            .simp at hv
           .rename_i hin
            split at hv
            .rename_i hroom
             simp at hv;obtain⟨rfl,rfl⟩:=hv;have hlen:((rows.drop off).take len).length=len:=by simp;omega
             obtain⟨olds,o1,o2,o3,o4⟩:=zF (Dg dS hle);rw[hlen]at o3;have hrun:=TJ (P:=P) (w:=w) (ty:=o.type) hu n8 hi hz (sLen:=len) (sCap:=cap) (sc:=cap) (base:=some ⟨g.β n,g.o n+off*i.size,none⟩) (olds:=olds) (by rw[o3,jg]) (λ_=>⟨_,_,rfl,o4⟩) nH jq (xc:=xc) (by omega) hroom hby rfl
             have Di:=grownCap_ge w (len+ys.length) cap e;have jG:((rows.drop off).take len++ys).length=len+ys.length:=by simp;omega
             have tE:(Builtin.zeroCells z.cells (grownCap w (len+ys.length) cap e - (len+ys.length))).toList.length=(grownCap w (len+ys.length) cap e - (len+ys.length))*i.size:=by simp[size_zeroCells,Bn]
             have IA:∀r∈(rows.drop off).take len++ys,r.length=i.size:=by
              intro r hr;rcases dj.1 hr with h1 |h1
              .obtain⟨j,hj,Dh⟩:=sS (mO (nN h1))
               exact(nY dS (r:=j) (row:=r) (by simp[hj,Dh])).1
              .exact hrl r h1
             refine NB hs hd (es:=i.size) (ex:=true) (ys:=(rows.drop off).take len++ys) (C:=olds++news) (ok:=s.ok)
              (rest:=(Builtin.zeroCells z.cells (grownCap w (len+ys.length) cap e - (len+ys.length))).toList) (by rw[jG];exact fin he rO hrun) IA (by rw[D2];exact zw o1 hrd)
              (λv hv=>(dj.1 hv).elim (o2 v) (hone v)) (by rw[jG];exact Di) ?_ (NA n9 _) λg' v' w' h1 h2=>?_
             .rw[lT,o3,nH,tE,jg i.size,<-Nat.add_mul,<-Nat.add_mul]
              exact lU _ (by omega)
             .simp only[jG]at h1 h2
              exact hK g' v' w' h1 h2
            .simp at hv
         .simp at hv
        .simp at hv
       |_=>rw[fT]at hv;simp at hv
     .simp at Bn
    .simp at ht
   .simp at ht
  .simp at h
 .simp at h
end
end Go.VS
namespace Go.VS
section
variable {φ:fj}
theorem Dj{h:List O}{m:Nat}{roots L:List Nat}(hc:cut h m roots=some L):L.Nodup/\(∀n∈roots,n∈L)/\(∀n∈L,n<h.length/\∀k∈(aV h n).dw,k∈L)/\m<=L.length/\∀k,k<m->L[k]?=some k:=by
 unfold cut at hc;simp only at hc;split at hc
 .rename_i dV
  obtain⟨h1,h2,h3⟩:=dV;simp only[gw]at hc;rw[hc]at h1 h2 h3;simp only[yM,fZ,Bool.decide_and,bJ]at h2 h3;refine⟨h1,h2,h3,?_,λk hk=>?_⟩
  .rw[<-hc];simp
  .rw[<-hc,sQ (by simpa using hk)]
   simp[hk]
 .simp at hc
def iF(g:Gh)(L:List Nat):Gh:=⟨λk=>g.β (L.getD k 0),λk=>g.o (L.getD k 0),g.I⟩
theorem yf{h:List O}{L:List Nat}:(sub h L).length=L.length:=by simp[sub]
theorem mK{h:List O}{L:List Nat}{k n:Nat}(hk:L[k]?=some n):aV (sub h L) k=(aV h n).dJ (L.idxOf ·):=by
 simp[sub,aV,List.getD,hk]
theorem Fw{h:List O}{L:List Nat}{k:Nat}(hk:L.length<=k):aV (sub h L) k = .dead:=by
 have:(sub h L).length<=k:=by rw[yf];exact hk
 simp[aV,List.getD,nO this]
theorem zG{o:O}{f:Nat->Nat}:(o.dJ f).gM=o.gM:=by cases o<;>rfl
theorem Dk{o:O}{f:Nat->Nat}:(o.dJ f).len=o.len:=by cases o<;>simp[O.dJ,O.len]
theorem wN{o:O}{f:Nat->Nat}:(o.dJ f).live=o.live:=by cases o<;>rfl
theorem IC{o:O}{f:Nat->Nat}:(o.dJ f).tL=o.tL:=by cases o<;>rfl
theorem NC{t:Nat}:∀{env:List (Nat×V)}{p:Nat×V},p∈env->t∈p.2.dw->t∈qZ env
 | [],_,h,_=>by simp at h
 |q::r,p,h,ht=>by
  simp only[qZ,dj];rcases dA.1 h with h1 |h1
  .subst h1;exact .inl ht
  .exact .inr (NC h1 ht)
theorem Bo{L:List Nat}{n:Nat}(hn:n∈L):L[L.idxOf n]?=some n:=by
 have hlt:=xz hn;simp[qR hlt]
mutual
theorem Fx{h:List O}{g:Gh}{w:World}{L:List Nat}:∀{x:V}{v:Value},(∀n∈x.dw,n∈L)->aI φ h g w x v->aI φ (sub h L) (iF g L) w (x.dJ (L.idxOf ·)) v
 | .u,v,_,_=>by simp[V.dJ,aI]
 | .kA,v,_,hr=>by simpa[V.dJ,aI]using hr
 | .d x,v,_,hr=>by simp only[V.dJ,aI]at hr⊢;exact hr
 | .loc n r c,v,hl,hr=>by
  have hn:=hl n (by simp[V.dw])
  have hg:=Bo hn;simp only[V.dJ,aI]at hr⊢;refine⟨by rw[yf];exact xz hn,hr.2.1,λes he=>?_⟩
  rw[mK hg,zG]at he;have:=hr.2.2 es he;simpa[iF,List.getD,hg]using this
 | .aR n off len,v,hl,hr=>by
  have hn:=hl n (by simp[V.dw])
  have hg:=Bo hn;simp only[V.dJ,aI]at hr⊢;refine⟨by rw[yf];exact xz hn,hr.2.1,λes he=>?_⟩
  rw[mK hg,zG]at he;rw[mK hg,Dk];have:=hr.2.2 es he;simpa[iF,List.getD,hg]using this
 | .jc n off len,v,hl,hr=>by
  have hn:=hl n (by simp[V.dw])
  have hg:=Bo hn;simp only[V.dJ,aI]at hr⊢;refine⟨by rw[yf];exact xz hn,hr.2.1,λes he=>?_⟩
  rw[mK hg,zG]at he;rw[mK hg,Dk];have:=hr.2.2 es he;simpa[iF,List.getD,hg]using this
 | .iO _,v,_,hr=>by simpa only[V.dJ,aI]using hr
 | .mp n,v,hl,hr=>by
  have hn:=hl n (by simp[V.dw])
  have hg:=Bo hn;simp only[V.dJ,aI]at hr⊢;refine⟨by rw[yf];exact xz hn,hr.2.1,λkv he=>?_⟩
  rw[mK hg]at he;have h2:(iF g L).β (L.idxOf n)=g.β n:=by simp[iF,List.getD,hg]
  rw[h2];cases ho:aV h n with
  |mp ID=>exact hr.2.2 ID ho
  |_=>rw[ho]at he;simp[O.dJ]at he
 | .rf cs,v,hl,hr=>by
  simp only[V.dJ,aI]at hr⊢;obtain⟨b,off,us,h1,h2,h3,h4⟩:=hr;refine⟨b,off,us,h1,?_,yg (λn hn=>hl n (by simpa[V.dw]using hn)) h3,h4⟩
  have hlen:∀{f:Nat->Nat}{xs:List V},(V.iI f xs).length=xs.length:=by
   intro f xs;induction xs with
   |nil=>rfl
   |cons x xs ih=>simp[V.iI,ih]
  rw[hlen];exact h2
 | .jh n,v,hl,hr=>by
  have hn:=hl n (by simp[V.dw])
  have hg:=Bo hn;simp only[V.dJ,aI]at hr⊢;refine⟨by rw[yf];exact xz hn,hr.2.1,λhe=>?_⟩
  rw[mK hg,IC]at he;have h2:(iF g L).β (L.idxOf n)=g.β n:=by simp[iF,List.getD,hg]
  rw[h2];exact hr.2.2 he
 | .fn f a b,v,hl,hr=>by
  simp only[V.dJ,aI]at hr⊢;obtain⟨A,B,h1,h2,h3⟩:=hr;exact⟨A,B,h1,yg (λn hn=>hl n (by simp[V.dw,hn])) h2,yg (λn hn=>hl n (by simp[V.dw,hn])) h3⟩
 | .ag cs,v,hl,hr=>by
  simp only[V.dJ,aI]at hr⊢;obtain⟨A,h1,h2,h3⟩:=hr;exact⟨A,h1,yg (λn hn=>hl n (by simpa[V.dw]using hn)) h2,h3⟩
 | .tu cs,v,hl,hr=>by
  simp only[V.dJ,aI]at hr⊢;obtain⟨A,h1,h2⟩:=hr;exact⟨A,h1,yg (λn hn=>hl n (by simpa[V.dw]using hn)) h2⟩
theorem yg{h:List O}{g:Gh}{w:World}{L:List Nat}:∀{xs:List V}{vs:List Value},(∀n∈V.gu xs,n∈L)->bT φ h g w xs vs->bT φ (sub h L) (iF g L) w (V.iI (L.idxOf ·) xs) vs
 | [],[],_,_=>by simp[V.iI,bT]
 |x::xs,v::vs,hl,hr=>by
  simp only[V.iI,bT]at hr⊢;exact⟨Fx (λn hn=>hl n (by simp[V.gu,hn])) hr.1,yg (λn hn=>hl n (by simp[V.gu,hn])) hr.2⟩
 | [],_::_,_,hr=>by simp[bT]at hr
 |_::_,[],_,hr=>by simp[bT]at hr
end
theorem ZJ{xs:List V}{x:V}{n:Nat}(hx:x∈xs)(hn:n∈x.dw):n∈V.gu xs:=by
 induction xs with
 |nil=>simp at hx
 |cons y ys ih =>
  simp only[V.gu,dj];rcases dA.1 hx with h |h
  .subst h;exact .inl hn
  .exact .inr (ih h)
theorem TX{f:Nat->Nat}:∀{xs:List V}{j:Nat},(V.iI f xs)[j]?=(xs[j]?).map (V.dJ f)
 | [],j=>by simp[V.iI]
 |x::xs,0=>by simp[V.iI]
 |x::xs,j+1=>by simpa[V.iI]using TX (xs:=xs) (j:=j)
theorem IE{f:Nat->Nat}:∀{xs:List V},(V.iI f xs).length=xs.length
 | []=>rfl
 |x::xs=>by simp[V.iI,IE (xs:=xs)]
theorem aiw{h:List O}{g:Gh}{w:World}{L:List Nat}{b o:Nat}{x:O}(hl:∀n∈x.dw,n∈L)(hr:gz φ h g w b o x):gz φ (sub h L) (iF g L) w b o (x.dJ (L.idxOf ·)):=by
 cases x with
 |dead=>trivial
 |aG es ex rows=>exact hr
 |gJ es rows =>
  simp only[O.dJ,gz]at hr⊢;refine⟨by simpa using hr.1,λr row hrow=>?_,hr.2.2⟩
  rw[vu,gI]at hrow;obtain⟨ND,h0,rfl⟩:=hrow;obtain⟨h1,h2⟩:=hr.2.1 r ND h0;refine⟨by rw[IE];exact h1,λj c hj=>?_⟩
  rw[TX,gI]at hj;obtain⟨c0,hc0,rfl⟩:=hj;obtain⟨v,h3,h4,h5⟩:=h2 j c0 hc0;refine⟨v,h3,h4,Fx (λn hn=>hl n ?_) h5⟩
  simp only[O.dw,Ao];exact⟨ND,kU h0,ZJ (kU hc0) hn⟩
 |mp kv =>
  simp only[O.dJ,gz]at hr⊢;obtain⟨ES,kK,h1,h2,h3⟩:=hr;refine⟨ES,kK,h1,⟨by simpa using h2.1,λi p e hp he=>?_⟩,h3⟩
  rw[vu,gI]at hp;obtain⟨p0,mY,rfl⟩:=hp;obtain⟨h4,h5⟩:=h2.2 i p0 e mY he;refine⟨h4,Fx (λn hn=>hl n ?_) h5⟩
  simp only[O.dw,Ao];exact⟨p0,kU mY,hn⟩
 |lp ps a c e env =>
  simp only[O.dJ,gz]at hr⊢;obtain⟨r,nt,h1,h0,h2,h3,h4,h5⟩:=hr;refine⟨r,nt,h1,h0,h2,h3,λp hp=>?_,h5⟩
  simp only[yP,gV]at hp;obtain⟨q,hq,rfl⟩:=hp;exact Fx (λn hn=>hl n (by simp only[O.dw];exact NC hq hn)) (h4 q hq)
theorem Fy{h:List O}{g:Gh}{w:World}{m:Nat}{roots L:List Nat}(hc:cut h m roots=some L)(hr:eU φ h g w):eU φ (sub h L) (iF g L) w:=by
 obtain⟨hnd,_,bN,_,_⟩:=Dj hc;have hout:∀k,¬k<L.length->aV (sub h L) k = .dead:=λk hk=>Fw (by omega)
 refine⟨λk=>?_,λa b ha hb he=>?_,hr.new⟩
 .by_cases hk:k<L.length
  .have hg:L[k]?=some L[k]:=by simp[hk]
   rw[mK hg];have:=aiw (L:=L) (bN L[k] (vq hk)).2 (hr.obj L[k]);simpa[iF,List.getD,hg]using this
  .rw[hout k hk];trivial
 .have ka:a<L.length:=by
   by_cases hk:a<L.length
   .exact hk
   .rw[hout a hk]at ha;simp[O.live]at ha
  have kb:b<L.length:=by
   by_cases hk:b<L.length
   .exact hk
   .rw[hout b hk]at hb;simp[O.live]at hb
  have ga:L[a]?=some L[a]:=by simp[ka]
  have gb:L[b]?=some L[b]:=by simp[kb]
  rw[mK ga,wN]at ha;rw[mK gb,wN]at hb
  have:L[a]=L[b]:=hr.inj _ _ ha hb (by simpa[iF,List.getD,ga,gb]using he)
  have i1:=Pt hnd a ka;have i2:=Pt hnd b kb;rw[this]at i1;omega
theorem NF{h:List O}{g:Gh}{w:World}{m:Nat}{roots L:List Nat}(hc:cut h m roots=some L):Frame m h g w (sub h L) (iF g L) w:=by
 obtain⟨hnd,_,bN,hm,Fz⟩:=Dj hc;refine⟨Ext.refl _ _,gf _,rfl,rfl,rfl,λn hn=>?_,λb _ _=>⟨rfl,rfl⟩,λn hn=>?_,λn hn=>⟨λes he=>?_,λkv hk=>?_,λhk=>?_⟩⟩
 .simp[iF,List.getD,Fz n hn]
 .by_cases hk:n<L.length
  .have hg:L[n]?=some L[n]:=by simp[hk]
   rw[mK hg,wN]at hn;exact .inl ⟨L[n],hn,by simp[iF,List.getD,hg]⟩
  .rw[Fw (by omega)]at hn;simp[O.live]at hn
 .rw[mK (Fz n hn),zG]at he
  rw[mK (Fz n hn),Dk];refine⟨he,rfl,?_⟩
  have:(iF g L).β n=g.β n:=by simp[iF,List.getD,Fz n hn]
  exact nD.of_eq rfl
 .rw[mK (Fz n hn)]at hk
  cases ho:aV h n with
  |mp ID=>exact⟨ID,rfl⟩
  |_=>rw[ho]at hk;simp[O.dJ]at hk
 .rw[mK (Fz n hn),IC]at hk
  exact hk
theorem aix{live:List Nat}{e:List (Nat×V)}{t:Nat}:cA (jM live e) t=if t∈live then cA e t else .u:=by
 unfold jM;induction live with
 |nil=>simp[cA]
 |cons d ds ih =>
  simp only[gk,cA,dA,ih];by_cases h:d=t
  .simp[h]
  .have h':¬t=d:=λe=>h e.symm
   simp[h,h']
theorem ZK{f:Nat->Nat}{t:Nat}:∀{e:List (Nat×V)},cA (e.map λp=>(p.1,p.2.dJ f)) t=(cA e t).dJ f
 | []=>rfl
 |p::e=>by
  simp only[gk,cA];split
  .rfl
  .exact ZK
theorem ZL{t n:Nat}:∀{e:List (Nat×V)},n∈(cA e t).dw->n∈qZ e
 | [],h=>by simp[cA,V.dw]at h
 |p::e,h=>by
  simp only[qZ,dj];simp only[cA]at h;split at h
  .exact .inl h
  .exact .inr (ZL h)
theorem TY{nt m dB:Nat}{s:St}{g:Gh}{a:Act}{w:World}(hs:cm φ nt m dB s g a w){live:List Nat}{p:List (Nat×V)×List O}(hc:canon m live s.env s.heap=some p)(ok:Bool):
  ∃g',cm φ nt m dB ⟨p.1,p.2,ok⟩ g' a w/\Frame m s.heap g w p.2 g' w:=by
 have key:∀{h:List O}{g:Gh}{t:Nat},aI φ h g w (cA s.env t) (a.tmps.getD t undef)->aI φ h g w (cA (jM live s.env) t) (a.tmps.getD t undef):=by
  intro h g t hr;rw[aix];split
  .exact hr
  .simp[aI]
 unfold canon at hc;split at hc
 .rename_i hh
  simp only[gw]at hc;subst hc;rw[<-hh];exact⟨g,⟨λt=>key (hs.env t),hs.heap,hs.size,hs.defers,hs.len⟩,Frame.refl _ _ _ _⟩
 .simp only[gI]at hc
  obtain⟨L,hL,rfl⟩:=hc;obtain⟨_,yh,_,hm,_⟩:=Dj hL;refine⟨iF g L,⟨λt=>?_,Fy hL hs.heap,hs.size,hs.defers.frame (NF hL),by rw[yf];exact hm⟩,NF hL⟩
  rw[ZK];exact Fx (λn hn=>yh n (ZL hn)) (key (hs.env t))
end
end Go.VS
namespace Go.VS
section
variable {φ:fj}
theorem ZM{h:List O}{n es:Nat}{ex:Bool}{rows:List (List D)}(hn:aV h n = .aG es ex rows):bg h n=h.set n (.aG es false rows):=by
 simp[bg,hn]
theorem ZN{h:List O}{n:Nat}(hn:∀es ex rows,aV h n≠.aG es ex rows):bg h n=h:=by
 unfold bg;split
 .rename_i es ex rows hh
  exact absurd hh (hn es ex rows)
 .rfl
theorem ZO{h:List O}{n k:Nat}:(∃es ex rows,k=n/\aV h k = .aG es ex rows/\aV (bg h n) k = .aG es false rows)\/aV (bg h n) k=aV h k/\(k=n->∀es ex rows,aV h k≠.aG es ex rows):=by
 by_cases hx:∃es ex rows,aV h n = .aG es ex rows
 .obtain⟨es,ex,rows,hn⟩:=hx
  rw[ZM hn];by_cases hk:k=n
  .subst hk
   exact .inl ⟨es,ex,rows,rfl,hn,wq (A9 (by rw[hn];rfl))⟩
  .exact .inr ⟨pZ hk,λh=>absurd h hk⟩
 .have hne:∀es ex rows,aV h n≠.aG es ex rows:=λes ex rows hh=>hx ⟨es,ex,rows,hh⟩
  rw[ZN hne];exact .inr ⟨rfl,λh=>by subst h;exact hne⟩
theorem aiy{h:List O}{g:Gh}{w:World}(m n:Nat)(hr:eU φ h g w):∃I',eU φ (bg h n) (g.dZ I') w/\gS h g w (bg h n) (g.dZ I') w/\Frame m h g w (bg h n) (g.dZ I') w:=by
 by_cases hx:∃es ex rows,aV h n = .aG es ex rows
 .obtain⟨es,ex,rows,hn⟩:=hx
  rw[ZM hn];have hl:(aV h n).live=true:=by rw[hn];rfl
  have dD:=hr.obj n;rw[hn]at dD;obtain⟨⟨CS,T,hb,hfit⟩,dS,hI⟩:=dD;have aiz:g.I (g.β n)<=g.o n+es*rows.length:=by
   cases ex<;>simp at hI<;>omega
  have hE:Ext g.I w (iL g.I (g.β n) (g.o n+es*rows.length)) w:=⟨λb=>by simp only[iL];split<;>simp_all,λ_ _ _=>rfl⟩
  have ya:∀b,b≠g.β n->iL g.I (g.β n) (g.o n+es*rows.length) b=g.I b:=λb hb=>by simp[iL,hb]
  have hle:gS h g w (h.set n (.aG es false rows)) (g.dZ (iL g.I (g.β n) (g.o n+es*rows.length))) w:=wu hr hl (jS.refl _ _) hE
   (λes' he'=>⟨by rw[hn];simpa[O.gM]using he',by rw[hn];rfl,nD.of_eq rfl⟩) (λkv hk=>by simp at hk)
  refine⟨_,wx hr hl (jS.refl _ _) hle ya ⟨⟨CS,T,hb,hfit⟩,Y2 hE (λ_=>rfl) dS,by simp[Gh.dZ,iL]⟩,hle,wy _ hl (jS.refl _ _) hE ya hle⟩
 .have hne:∀es ex rows,aV h n≠.aG es ex rows:=λes ex rows hh=>hx ⟨es,ex,rows,hh⟩
  rw[ZN hne];exact⟨g.I,hr,gS.refl h g w,Frame.refl m h g w⟩
theorem gS.trans{h h' h'':List O}{g g' g'':Gh}{w w' w'':World}(a:gS h g w h' g' w')(b:gS h' g' w' h'' g'' w''):gS h g w h'' g'' w'' where
 ext:=a.ext.trans b.ext
 len:=nh a.len b.len
 arr n es hn he:=by
  obtain⟨h1,h2,h3,h4,h5⟩:=b.arr n es (pz hn a.len) he;obtain⟨k1,k2,k3,k4,k5⟩:=a.arr n es hn h1;rw[k2]at h5;exact⟨k1,h2.trans k2,h3.trans k3,h4.trans k4,k5.trans h5⟩
 mp n kv hn hk:=by
  obtain⟨⟨kv',h1⟩,h2⟩:=b.mp n kv (pz hn a.len) hk;obtain⟨k1,k2⟩:=a.mp n kv' hn h1;exact⟨k1,h2.trans k2⟩
 lp n hn hk:=by
  obtain⟨h1,h2⟩:=b.lp n (pz hn a.len) hk;obtain⟨k1,k2⟩:=a.lp n hn h1;exact⟨k1,h2.trans k2⟩
theorem ZP{w:World}(m:Nat):∀(ns:List Nat){h:List O}{g:Gh},eU φ h g w->∃I',eU φ (aY h ns) (g.dZ I') w/\gS h g w (aY h ns) (g.dZ I') w/\Frame m h g w (aY h ns) (g.dZ I') w
 | [],h,g,hr=>⟨g.I,hr,gS.refl h g w,Frame.refl m h g w⟩
 |n::ns,h,g,hr=>by
  obtain⟨I1,h1,h2,h3⟩:=aiy m n hr;obtain⟨I2,k1,k2,k3⟩:=ZP m ns h1;exact⟨I2,k1,h2.trans k2,h3.trans k3⟩
theorem NG:∀(ns:List Nat){h:List O}{k:Nat},aV (aY h ns) k=aV h k/\(k∈ns->∀es rows,aV h k≠.aG es true rows)\/∃es ex rows,aV h k = .aG es ex rows/\aV (aY h ns) k = .aG es false rows
 | [],h,k=>.inl ⟨rfl,by simp⟩
 |n::ns,h,k=>by
  simp only[aY];rcases NG ns (h:=bg h n) (k:=k)with⟨h1,h2⟩ |⟨es,ex,rows,h1,h2⟩
  .rcases ZO (h:=h) (n:=n) (k:=k)with⟨es,ex,rows,e1,e2,e3⟩ |⟨e1,e2⟩
   .exact .inr ⟨es,ex,rows,e2,h1.trans e3⟩
   .refine .inl ⟨h1.trans e1,λhk es rows=>?_⟩
    rcases dA.1 hk with hk |hk
    .exact e2 hk es true rows
    .rw[<-e1];exact h2 hk es rows
  .rcases ZO (h:=h) (n:=n) (k:=k)with⟨es',ex',iB,e1,e2,e3⟩ |⟨e1,e2⟩
   .rw[e3]at h1
    simp only[O.aG.injEq]at h1;obtain⟨rfl,_,rfl⟩:=h1;exact .inr ⟨es',ex',iB,e2,h2⟩
   .exact .inr ⟨es,ex,rows,by rw[<-e1];exact h1,h2⟩
def TZ(h:List O)(ns:List Nat):Prop:=∀n∈ns,∀es ex rows,aV h n = .aG es ex rows->ex=false
mutual
theorem ZQ{h:List O}{g:Gh}{w:World}(hr:eU φ h g w):∀{x:V}{v:Value}{d:D},TZ h x.dw->ez h x=some d->aI φ h g w x v->bR φ g.I w d v
 | .u,v,d,_,ht,_=>by simp[ez]at ht
 | .kA,v,d,_,ht,_=>by simp[ez]at ht
 | .d x,v,d,_,ht,hv=>by simp[ez]at ht;subst ht;simpa only[aI]using hv
 | .loc n r c,v,d,hf,ht,hv=>by
  simp only[ez]at ht;split at ht
  .rename_i es ex rows hn
   have hex:=hf n (by simp[V.dw]) es ex rows hn
   subst hex;simp only[nP]at ht;obtain⟨row,hrow,ht⟩:=ht;split at ht
   .rename_i hc
    simp at ht;subst ht;have dD:=hr.obj n;rw[hn]at dD;obtain⟨_,dS,hI⟩:=dD;simp at hI;simp only[aI]at hv;have jx:=hv.2.2 es (by rw[hn];rfl)
    obtain⟨h1,h2⟩:=nY dS hrow;have Fo:r<rows.length:=by
     rcases kZ r rows.length with h3 |h3
     .exact h3
     .simp[nO h3]at hrow
    have hin:(r+1)*es<=es*rows.length:=by rw[jg es];exact lU es Fo
    rw[qU]at hin;simp only[bR];refine⟨_,_,jx,by simp;omega,wh λj x hj=>?_⟩
    rw[pF]at hj;have:=Fb h2 hj
    rwa [<-Nat.add_assoc]at this
   .simp at ht
  .simp at ht
 | .aR n off len,v,d,hf,ht,hv=>by
  simp only[ez]at ht;split at ht
  .rename_i es ex rows hn
   have hex:=hf n (by simp[V.dw]) es ex rows hn
   subst hex;split at ht
   .rename_i hc
    simp at ht;subst ht;have dD:=hr.obj n;rw[hn]at dD;obtain⟨_,dS,hI⟩:=dD;simp at hI;simp only[aI]at hv;obtain⟨cap,jx,hlc,_⟩:=hv.2.2 es (by rw[hn];rfl)
    simp only[bR];have hlen:((rows.drop off).take len).length=len:=by simp;omega
    refine⟨_,cap,by rw[hlen];exact jx,by rw[hlen];exact hlc,λh=>by simp at h,λ_=>⟨_,rfl,λ_=>⟨rfl,?_,Dg dS hc⟩⟩⟩
    rw[hlen,hI];have h1:(off+len)*es<=es*rows.length:=by rw[jg es];exact lU es hc
    rw[ni]at h1
    have:es*len=len*es:=jg _ _
    simp only;omega
   .simp at ht
  .simp at ht
 | .iO es,v,d,_,ht,hv=>by
  simp[ez]at ht;subst ht;simp only[aI]at hv;obtain⟨ad,rfl⟩:=hv;simp only[bR];exact⟨some ad,0,rfl,by simp,by simp,λ_=>⟨ad,rfl,by simp⟩⟩
 | .mp n,v,d,_,ht,_=>by simp[ez]at ht
 | .jh n,v,d,_,ht,_=>by simp[ez]at ht
 | .rf cs,v,d,hf,ht,hv=>by
  simp only[ez,gI]at ht;obtain⟨x,hx,rfl⟩:=ht;simp only[aI]at hv;obtain⟨b,off,us,h1,h2,h3,h4⟩:=hv;have hd:=FA hr (λn hn=>hf n (by simpa[V.dw]using hn)) hx h3
  have e1:=oP h3;have e2:=sH hd;simp only[bR];exact⟨b,off,h1,by omega,Ni hd (λj u hj=>(h4 j u hj).1) (λu hu=>let ⟨j,hj,he⟩:=sS hu;(h4 j u (by simp[hj,he])).2)⟩
 | .fn f a b,v,d,hf,ht,hv=>by
  simp only[ez,nP,gI]at ht;obtain⟨x,hx,y,hy,rfl⟩:=ht;simp only[aI]at hv;obtain⟨A,B,h1,h2,h3⟩:=hv;simp only[bR];exact⟨A,B,h1,FA hr (λn hn=>hf n (by simp[V.dw,hn])) hx h2,FA hr (λn hn=>hf n (by simp[V.dw,hn])) hy h3⟩
 | .ag cs,v,d,hf,ht,hv=>by
  simp only[ez,gI]at ht;obtain⟨x,hx,rfl⟩:=ht;simp only[aI]at hv;obtain⟨A,h1,h2,h3⟩:=hv;simp only[bR];exact⟨A,h1,FA hr (λn hn=>hf n (by simpa[V.dw]using hn)) hx h2,h3⟩
 | .tu cs,v,d,_,ht,_=>by simp[ez]at ht
theorem FA{h:List O}{g:Gh}{w:World}(hr:eU φ h g w):∀{xs:List V}{vs:List Value}{ds:List D},TZ h (V.gu xs)->gZ h xs=some ds->bT φ h g w xs vs->cy φ g.I w ds vs
 | [],[],ds,_,ht,_=>by simp[gZ]at ht;subst ht;simp[cy]
 |x::xs,v::vs,ds,hf,ht,hv=>by
  simp only[gZ,nP,gI]at ht;obtain⟨y,hy,ys,hys,rfl⟩:=ht;simp only[bT]at hv;simp only[cy];exact⟨ZQ hr (λn hn=>hf n (by simp[V.gu,hn])) hy hv.1,FA hr (λn hn=>hf n (by simp[V.gu,hn])) hys hv.2⟩
 | [],_::_,_,_,_,hv=>by simp[bT]at hv
 |_::_,[],_,_,_,hv=>by simp[bT]at hv
end
def T0(h h':List O):Prop:=∀k,aV h' k=aV h k\/∃es ex ex' rows,aV h k = .aG es ex rows/\aV h' k = .aG es ex' rows
mutual
theorem ZR{h h':List O}(hs:T0 h h'):∀(x:V),ez h' x=ez h x
 | .u=>by simp[ez]
 | .kA=>by simp[ez]
 | .d x=>by simp[ez]
 | .loc n r c=>by
  simp only[ez];rcases hs n with h1 |⟨es,ex,ex',rows,h1,h2⟩
  .rw[h1]
  .rw[h1,h2]
 | .aR n off len=>by
  simp only[ez];rcases hs n with h1 |⟨es,ex,ex',rows,h1,h2⟩
  .rw[h1]
  .rw[h1,h2]
 | .jc n off len=>by simp[ez]
 | .iO _=>by simp[ez]
 | .mp n=>by simp[ez]
 | .jh n=>by simp[ez]
 | .rf cs=>by simp only[ez,FB hs cs]
 | .fn f a b=>by simp only[ez,FB hs a,FB hs b]
 | .ag cs=>by simp only[ez,FB hs cs]
 | .tu cs=>by simp[ez]
theorem FB{h h':List O}(hs:T0 h h'):∀(xs:List V),gZ h' xs=gZ h xs
 | []=>by simp[gZ]
 |x::xs=>by simp only[gZ,ZR hs x,FB hs xs]
end
theorem ZS(ns:List Nat)(h:List O):T0 h (aY h ns):=λk=>by
 rcases NG ns (h:=h) (k:=k)with⟨h1,_⟩ |⟨es,ex,rows,h1,h2⟩
 .exact .inl h1
 .exact .inr ⟨es,ex,false,rows,h1,h2⟩
theorem ZT(ns:List Nat)(h:List O):TZ (aY h ns) ns:=λn hn es ex rows he=>by
 rcases NG ns (h:=h) (k:=n)with⟨h1,h2⟩ |⟨es',ex',iB,h1,h2⟩
 .cases ex with
  |false=>rfl
  |true=>rw[h1]at he;exact absurd he (h2 hn es rows)
 .rw[h2]at he
  simp at he;exact he.2.1
theorem cm.frozen{nt m dB:Nat}{s:St}{g:Gh}{a:Act}{w:World}(hs:cm φ nt m dB s g a w)(ns:List Nat)(ok:Bool):∃I',cm φ nt m dB ⟨s.env,aY s.heap ns,ok⟩ (g.dZ I') a w/\gS s.heap g w (aY s.heap ns) (g.dZ I') w/\Frame m s.heap g w (aY s.heap ns) (g.dZ I') w:=by
 obtain⟨I',h1,h2,h3⟩:=ZP m ns hs.heap;exact⟨I',⟨λk=>lI h2 (hs.env k),h1,hs.size,hs.defers.frame h3,nh hs.len h2.len⟩,h2,h3⟩
theorem NH{nt m dB:Nat}{s:St}{g:Gh}{a:Act}{w:World}(hs:cm φ nt m dB s g a w){xs:List V}{vs:List Value}{ds:List D}(ht:gZ s.heap xs=some ds)(hv:bT φ s.heap g w xs vs)(ok:Bool):
  ∃I',cm φ nt m dB ⟨s.env,aY s.heap (V.gu xs),ok⟩ (g.dZ I') a w/\Frame m s.heap g w (aY s.heap (V.gu xs)) (g.dZ I') w/\cy φ I' w ds vs:=by
 obtain⟨I',h1,h2,h3⟩:=hs.frozen (V.gu xs) ok;exact⟨I',h1,h3,FA h1.heap (ZT _ _) (by rw[FB (ZS _ _)];exact ht) (x6 h2 hv)⟩
theorem T1{nt m dB:Nat}{a:Act}{w:World}:∀(ds:List Nat){s:St}{g:Gh},cm φ nt m dB s g a w->(vI s ds).ok=true->∃g',cm φ nt m dB (vI s ds) g' a w/\Frame m s.heap g w (vI s ds).heap g' w
 | [],s,g,hs,_=>⟨g,hs,Frame.refl _ _ _ _⟩
 |d::ds,s,g,hs,hok=>by
  simp only[vI]at hok⊢;have T3:=GL ds hok;obtain⟨v,hh,hv⟩:=Bg T3;rw[hv]at hok⊢;simp only[gI,br,ur]at hv;obtain⟨p,⟨x,hx,rfl⟩,rfl,rfl⟩:=hv;simp only[St.gh]at hok⊢;have hr:=hs.env d;have hL:V.gu [s.get (.t d)]=(s.get (.t d)).dw:=by simp[V.gu]
  obtain⟨I',h1,h2,h3⟩:=NH hs (xs:=[s.get (.t d)]) (vs:=[a.tmps.getD d undef]) (ds:=[x]) (by simp[gZ,hx]) (by simp only[bT];exact⟨hr,trivial⟩) s.ok
  rw[hL]at h1 h2;simp only[cy]at h3;have hs':cm φ nt m dB ⟨(d,.d x)::s.env,aY s.heap (s.get (.t d)).dw,s.ok⟩ (g.dZ I') a w:=by
   refine⟨λk=>?_,h1.heap,h1.size,h1.defers,h1.len⟩
   simp only[cA];by_cases hk:d=k
   .subst hk;rw[aK rfl];simp only[aI];exact h3.1
   .rw[aD hk];exact h1.env k
  obtain⟨g',k1,k2⟩:=T1 ds hs' hok;exact⟨g',k1,h2.trans k2⟩
end
end Go.VS
namespace Go.VS
section
variable {P:Program}{φ:fj}
variable {nt m dB:Nat}{s:St}{g:Gh}{a:Act}{w:World}{K:Act->World->Prop}{Q:Exit->Act->World->Prop}{o:Oper}
theorem FC:∀{L:List Nat}{os:List O}{h:List O},(aE h L os).length=h.length
 | [],_,_=>by simp[aE]
 |n::L,[],_=>by simp[aE]
 |n::L,o::os,h=>by simp[aE,FC (L:=L)]
theorem T4:∀{L:List Nat}{os:List O}{h:List O}{k:Nat},k∉L->aV (aE h L os) k=aV h k
 | [],_,_,_,_=>by simp[aE]
 |n::L,[],_,_,_=>by simp[aE]
 |n::L,o::os,h,k,hk=>by
  simp only[dA,nj]at hk;rw[aE,T4 hk.2,pZ hk.1]
theorem ZU:∀{L:List Nat}{os:List O}{h:List O},L.Nodup->(∀n∈L,n<h.length)->L.length<=os.length->∀{i n:Nat},L[i]?=some n->aV (aE h L os) n=aV os i
 | [],_,_,_,_,_,_,_,hi=>by simp at hi
 |n::L,[],_,_,_,hl,_,_,_=>by simp at hl
 |n::L,o::os,h,hnd,hlt,hl,i,k,hi=>by
  simp only[D3]at hnd;simp only[iy]at hl;cases i with
  |zero =>
   simp at hi;subst hi;rw[aE,T4 hnd.1,wq (hlt n (by simp))]
   rfl
  |succ i =>
   rw[aE,ZU hnd.2 (λx hx=>by simpa using hlt x (by simp[hx])) (by omega) (i:=i) (by simpa using hi)]
   rfl
theorem ZV{h h':List O}{n:Nat}(hn:n<h.length):aV (h++h') n=aV h n:=by simp[aV,List.getD,sQ hn]
theorem aiA{h h':List O}{n:Nat}(hn:h.length<=n):aV (h++h') n=aV h' (n - h.length):=by simp[aV,List.getD,An hn]
theorem aiB{h:List O}{f:O->O}(hf:f .dead = .dead){n:Nat}:aV (h.map f) n=f (aV h n):=by
 simp only[aV,List.getD,vu];cases h[n]? with
 |none=>exact hf.symm
 |some o=>rfl
theorem aiC{h:List O}{k n:Nat}:aV (h.drop k) n=aV h (k+n):=by simp[aV,List.getD]
def mL(h:List O)(L:List Nat)(h1:List O):List O:=aE h L (h1.map (O.dJ (back L h.length)))++(h1.drop L.length).map (O.dJ (back L h.length))
def jH(h:List O)(L:List Nat)(g g1:Gh):Gh:=⟨λk=>if k<h.length then g.β k else g1.β (k - h.length+L.length),λk=>if k<h.length then g.o k else g1.o (k - h.length+L.length),g1.I⟩
structure jU(φ:fj)(h:List O)(L:List Nat)(g:Gh)(w:World)(h1:List O)(g1:Gh)(w1:World):Prop where
 hr:eU φ h g w
 nodup:L.Nodup
 lt:∀n∈L,n<h.length
 len:L.length<=h1.length
 jo:eU φ h1 g1 w1
 fr:Frame L.length (sub h L) (iF g L) w h1 g1 w1
section
variable {h h1:List O}{L:List Nat}{g1:Gh}{w1:World}
theorem ZW:(mL h L h1).length=h.length+(h1.length - L.length):=by simp[mL,FC]
theorem jU.old(_:jU φ h L g w h1 g1 w1){k:Nat}(hk:k<h.length)(hL:k∉L):aV (mL h L h1) k=aV h k:=by
 rw[mL,ZV (by rw[FC];exact hk),T4 hL]
theorem jU.IF(M:jU φ h L g w h1 g1 w1){i:Nat}(hi:i<h1.length):back L h.length i<(mL h L h1).length:=by
 rw[ZW,back];split
 .rename_i hlt
  have:L.getD i 0=L[i]:=by simp[List.getD,hlt]
  rw[this];have:=M.lt L[i] (vq hlt);omega
 .omega
theorem jU.at(M:jU φ h L g w h1 g1 w1)(i:Nat):aV (mL h L h1) (back L h.length i)=(aV h1 i).dJ (back L h.length):=by
 have hm:∀(hh:List O)(n:Nat),aV (hh.map (O.dJ (back L h.length))) n=(aV hh n).dJ (back L h.length):=λhh n=>aiB rfl
 by_cases hi:i<L.length
 .have hg:L[i]?=some L[i]:=by simp[hi]
  have hb:back L h.length i=L[i]:=by simp[back,hi,List.getD]
  rw[hb,mL,ZV (by rw[FC];exact M.lt _ (vq hi)),ZU M.nodup M.lt (by simpa using M.len) hg,hm]
 .have hb:back L h.length i=h.length+(i - L.length):=by simp[back,hi]
  rw[hb,mL,aiA (by rw[FC];omega),FC,Po,hm,aiC]
  congr 2;omega
theorem jU.gb(M:jU φ h L g w h1 g1 w1)(i:Nat):(jH h L g g1).β (back L h.length i)=g1.β i/\(jH h L g g1).o (back L h.length i)=g1.o i:=by
 by_cases hi:i<L.length
 .have hg:L[i]?=some L[i]:=by simp[hi]
  have hb:back L h.length i=L[i]:=by simp[back,hi,List.getD]
  have hlt:=M.lt _ (vq hi);have hp:=M.fr.oQ i hi;simp only[iF,List.getD,hg,vB]at hp;simp[jH,hb,hlt,hp]
 .have hb:back L h.length i=h.length+(i - L.length):=by simp[back,hi]
  have e:i - L.length+L.length=i:=by omega
  have e2:¬h.length+(i - L.length)<h.length:=by omega
  simp[jH,hb,e,e2]
theorem jU.split(M:jU φ h L g w h1 g1 w1)(k:Nat):(k<h.length/\k∉L)\/∃i,k=back L h.length i:=by
 by_cases hk:k<h.length
 .by_cases hL:k∈L
  .refine .inr ⟨L.idxOf k,?_⟩
   have h1:=xz hL;simp[back,h1,List.getD]
  .exact .inl ⟨hk,hL⟩
 .refine .inr ⟨L.length+(k - h.length),?_⟩
  rw[back,aD (by omega)]
  omega
theorem jU.apart(M:jU φ h L g w h1 g1 w1){k:Nat}(hL:k∉L)(hl:(aV h k).live=true):∀i,(aV (sub h L) i).live=true->(iF g L).β i≠g.β k:=by
 intro i hi hb;by_cases hlt:i<L.length
 .have hg:L[i]?=some L[i]:=by simp[hlt]
  rw[mK hg,wN]at hi;simp only[iF,List.getD,hg,vB]at hb;have:=M.hr.inj _ _ hi hl hb;exact hL (this▸vq hlt)
 .rw[Fw (by omega)]at hi;simp[O.live]at hi
theorem jU.hle(M:jU φ h L g w h1 g1 w1):gS h g w (mL h L h1) (jH h L g g1) w1 where
 ext:=M.fr.ext
 len:=by rw[ZW];omega
 arr n es hn he:=by
  refine⟨?_,by simp[jH,hn],by simp[jH,hn],?_⟩
  all_goals
   by_cases hL:n∈L
   .have hi:=xz hL
    have hg:=Bo hL;have hb:back L h.length (L.idxOf n)=n:=by simp[back,hi,List.getD]
    have e1:=M.at (L.idxOf n);rw[hb]at e1;rw[e1,zG]at he;obtain⟨k1,k2,k3⟩:=(M.fr.oR _ hi).arr es he;rw[mK hg]at k1 k2;rw[zG]at k1;rw[Dk]at k2;simp only[iF,List.getD,hg,vB]at k3
    first
     |exact k1
     |(rw[e1,Dk];exact⟨k2,k3⟩)
   .rw[M.old hn hL]at he
    have hl:=Ba he;have hk:=M.fr.keep (g.β n) (M.hr.block hl) (M.apart hL hl)
    first
     |exact he
     |(rw[M.old hn hL];exact⟨rfl,nD.of_eq hk.1⟩)
 mp n kv hn hk:=by
  refine⟨?_,by simp[jH,hn]⟩
  by_cases hL:n∈L
  .have hi:=xz hL
   have hg:=Bo hL;have hb:back L h.length (L.idxOf n)=n:=by simp[back,hi,List.getD]
   have e1:=M.at (L.idxOf n);rw[hb,hk]at e1;cases ho:aV h1 (L.idxOf n)with
   |mp kv1 =>
    obtain⟨kv2,h2⟩:=(M.fr.oR _ hi).mp kv1 ho;rw[mK hg]at h2;cases hq:aV h n with
    |mp kv3=>exact⟨kv3,rfl⟩
    |_=>rw[hq]at h2;simp[O.dJ]at h2
   |_=>rw[ho]at e1;simp[O.dJ]at e1
  .rw[M.old hn hL]at hk
   exact⟨kv,hk⟩
 lp n hn hk:=by
  refine⟨?_,by simp[jH,hn]⟩
  by_cases hL:n∈L
  .have hi:=xz hL
   have hg:=Bo hL;have hb:back L h.length (L.idxOf n)=n:=by simp[back,hi,List.getD]
   have e1:=M.at (L.idxOf n);rw[hb]at e1;rw[e1,IC]at hk;have h2:=(M.fr.oR _ hi).lp hk
   rwa [mK hg,IC]at h2
  .rwa [M.old hn hL]at hk
mutual
theorem jU.aI(M:jU φ h L g w h1 g1 w1):∀{x:V}{v:Value},aI φ h1 g1 w1 x v->aI φ (mL h L h1) (jH h L g g1) w1 (x.dJ (back L h.length)) v
 | .u,v,_=>by simp[V.dJ,VS.aI]
 | .kA,v,hr=>by simpa[V.dJ,VS.aI]using hr
 | .d x,v,hr=>by simp only[V.dJ,VS.aI]at hr⊢;exact hr
 | .loc n r c,v,hr=>by
  simp only[V.dJ,VS.aI]at hr⊢;refine⟨M.IF hr.1,hr.2.1,λes he=>?_⟩
  rw[M.at,zG]at he;rw[(M.gb n).1,(M.gb n).2];exact hr.2.2 es he
 | .aR n off len,v,hr=>by
  simp only[V.dJ,VS.aI]at hr⊢;refine⟨M.IF hr.1,hr.2.1,λes he=>?_⟩
  rw[M.at,zG]at he;rw[(M.gb n).1,(M.gb n).2,M.at,Dk];exact hr.2.2 es he
 | .jc n off len,v,hr=>by
  simp only[V.dJ,VS.aI]at hr⊢;refine⟨M.IF hr.1,hr.2.1,λes he=>?_⟩
  rw[M.at,zG]at he;rw[(M.gb n).1,(M.gb n).2,M.at,Dk];exact hr.2.2 es he
 | .iO _,v,hr=>by simpa only[V.dJ,VS.aI]using hr
 | .mp n,v,hr=>by
  simp only[V.dJ,VS.aI]at hr⊢;refine⟨M.IF hr.1,hr.2.1,λkv he=>?_⟩
  rw[M.at]at he;rw[(M.gb n).1];cases ho:aV h1 n with
  |mp ID=>exact hr.2.2 ID ho
  |_=>rw[ho]at he;simp[O.dJ]at he
 | .rf cs,v,hr=>by
  simp only[V.dJ,VS.aI]at hr⊢;obtain⟨b,off,us,h1,h2,h3,h4⟩:=hr;exact⟨b,off,us,h1,by rw[IE];exact h2,M.bT h3,h4⟩
 | .jh n,v,hr=>by
  simp only[V.dJ,VS.aI]at hr⊢;refine⟨M.IF hr.1,hr.2.1,λhe=>?_⟩
  rw[M.at,IC]at he;rw[(M.gb n).1];exact hr.2.2 he
 | .fn f a b,v,hr=>by
  simp only[V.dJ,VS.aI]at hr⊢;obtain⟨A,B,h1,h2,h3⟩:=hr;exact⟨A,B,h1,M.bT h2,M.bT h3⟩
 | .ag cs,v,hr=>by
  simp only[V.dJ,VS.aI]at hr⊢;obtain⟨A,h1,h2,h3⟩:=hr;exact⟨A,h1,M.bT h2,h3⟩
 | .tu cs,v,hr=>by
  simp only[V.dJ,VS.aI]at hr⊢;obtain⟨A,h1,h2⟩:=hr;exact⟨A,h1,M.bT h2⟩
theorem jU.bT(M:jU φ h L g w h1 g1 w1):∀{xs:List V}{vs:List Value},bT φ h1 g1 w1 xs vs->bT φ (mL h L h1) (jH h L g g1) w1 (V.iI (back L h.length) xs) vs
 | [],[],_=>by simp[V.iI,VS.bT]
 |x::xs,v::vs,hr=>by
  simp only[V.iI,VS.bT]at hr⊢;exact⟨M.aI hr.1,M.bT hr.2⟩
 | [],_::_,hr=>by simp[VS.bT]at hr
 |_::_,[],hr=>by simp[VS.bT]at hr
end
theorem jU.obj(M:jU φ h L g w h1 g1 w1){b o:Nat}{x:O}(hr:gz φ h1 g1 w1 b o x):gz φ (mL h L h1) (jH h L g g1) w1 b o (x.dJ (back L h.length)):=by
 cases x with
 |dead=>trivial
 |aG es ex rows=>exact hr
 |gJ es rows =>
  simp only[O.dJ,gz]at hr⊢;refine⟨by simpa using hr.1,λr row hrow=>?_,hr.2.2⟩
  rw[vu,gI]at hrow;obtain⟨ND,h0,rfl⟩:=hrow;obtain⟨k1,k2⟩:=hr.2.1 r ND h0;refine⟨by rw[IE];exact k1,λj c hj=>?_⟩
  rw[TX,gI]at hj;obtain⟨c0,hc0,rfl⟩:=hj;obtain⟨v,h3,h4,h5⟩:=k2 j c0 hc0;exact⟨v,h3,h4,M.aI h5⟩
 |mp kv =>
  simp only[O.dJ,gz]at hr⊢;obtain⟨ES,kK,k1,k2,k3⟩:=hr;refine⟨ES,kK,k1,⟨by simpa using k2.1,λi p e hp he=>?_⟩,k3⟩
  rw[vu,gI]at hp;obtain⟨p0,mY,rfl⟩:=hp;obtain⟨h4,h5⟩:=k2.2 i p0 e mY he;exact⟨h4,M.aI h5⟩
 |lp ps a c e env =>
  simp only[O.dJ,gz]at hr⊢;obtain⟨r,nt,k1,k0,k2,k3,k4,k5⟩:=hr;refine⟨r,nt,k1,k0,k2,k3,λp hp=>?_,k5⟩
  simp only[yP,gV]at hp;obtain⟨q,hq,rfl⟩:=hp;exact M.aI (k4 q hq)
theorem jU.fX(M:jU φ h L g w h1 g1 w1):eU φ (mL h L h1) (jH h L g g1) w1 where
 obj k:=by
  rcases M.split k with⟨hk,hL⟩ |⟨i,rfl⟩
  .rw[M.old hk hL]
   by_cases hl:(aV h k).live=true
   .have hkeep:=M.fr.keep (g.β k) (M.hr.block hl) (M.apart hL hl)
    have:=C4 M.hle hkeep.1 hkeep.2 (M.hr.obj k);simpa[jH,hk]using this
   .cases hx:aV h k<;>simp_all[O.live,gz]
  .rw[M.at,(M.gb i).1,(M.gb i).2]
   exact M.obj (M.jo.obj i)
 inj x y hx hy he:=by
  have ZX:∀{k i:Nat},k<h.length->k∉L->(aV h k).live=true->(aV h1 i).live=true->g.β k≠g1.β i:=by
   intro k i hk hL hl hi hb;rcases M.fr.mG i hi with⟨j,hj,NI⟩ |hs
   .exact M.apart hL hl j hj (NI.trans hb.symm)
   .have:=M.hr.block hl;omega
  rcases M.split x with⟨kx,Lx⟩ |⟨i,rfl⟩<;>rcases M.split y with⟨ky,Ly⟩ |⟨j,rfl⟩
  .rw[M.old kx Lx]at hx
   rw[M.old ky Ly]at hy;exact M.hr.inj x y hx hy (by simpa[jH,kx,ky]using he)
  .rw[M.old kx Lx]at hx
   rw[M.at,wN]at hy;rw[(M.gb j).1]at he;exact absurd (by simpa[jH,kx]using he) (ZX kx Lx hx hy)
  .rw[M.old ky Ly]at hy
   rw[M.at,wN]at hx;rw[(M.gb i).1]at he;exact absurd (by simpa[jH,ky]using he.symm) (ZX ky Ly hy hx)
  .rw[M.at,wN]at hx hy
   rw[(M.gb i).1,(M.gb j).1]at he;rw[M.jo.inj i j hx hy he]
 new:=M.jo.new
theorem jU.frame(M:jU φ h L g w h1 g1 w1){m:Nat}(hm:m<=h.length):Frame m h g w (mL h L h1) (jH h L g g1) w1 where
 ext:=M.fr.ext
 size:=M.fr.size
 os:=M.fr.os
 tape:=M.fr.tape
 output:=M.fr.output
 oQ n hn:=by
  have:n<h.length:=by omega
  simp[jH,this]
 keep b hb hn:=M.fr.keep b hb λi hi ZY=>by
  by_cases hlt:i<L.length
  .have hg:L[i]?=some L[i]:=by simp[hlt]
   rw[mK hg,wN]at hi;simp only[iF,List.getD,hg,vB]at ZY;exact hn _ hi ZY
  .rw[Fw (by omega)]at hi;simp[O.live]at hi
 mG k hk:=by
  rcases M.split k with⟨kk,Lk⟩ |⟨i,rfl⟩
  .rw[M.old kk Lk]at hk
   exact .inl ⟨k,hk,by simp[jH,kk]⟩
  .rw[M.at,wN]at hk
   rw[(M.gb i).1];rcases M.fr.mG i hk with⟨j,hj,NI⟩ |hs
   .by_cases hlt:j<L.length
    .have hg:L[j]?=some L[j]:=by simp[hlt]
     rw[mK hg,wN]at hj;simp only[iF,List.getD,hg,vB]at NI;exact .inl ⟨L[j],hj,NI⟩
    .rw[Fw (by omega)]at hj;simp[O.live]at hj
   .exact .inr hs
 oR n hn:=M.hle.at (by omega)
end
theorem ZZ{rec:Rec}{h:List O}{f:Nat}{xs:List V}{v2:V}{h2:List O}(hc:aA rec h f xs=some (v2,h2)):∃L v h1,cut h 0 (V.gu xs)=some L /\
  rec (.call f (V.iI (L.idxOf ·) xs) (sub h L))=some (.val v h1)/\L.length<=h1.length/\v2=v.dJ (back L h.length)/\h2=mL h L h1:=by
 unfold aA at hc;split at hc
 .rename_i L hL
  split at hc
  .rename_i v h1 hr
   split at hc
   .rename_i hl
    simp only[gw,ur]at hc;exact⟨L,v,h1,hL,hr,hl,hc.1.symm,hc.2.symm⟩
   .simp at hc
  .simp at hc
 .simp at hc
theorem aiD(h:List O):cut h 0 []=some []:=by simp[cut,reach]
theorem aiE:∀{xs:List V}{ds:List D},fu xs=some ds->V.gu xs=[]:=by
 intro xs ds hd;rw[Fc hd];clear hd;induction ds with
 |nil=>rfl
 |cons d ds ih=>simp[V.gu,V.dw,ih]
theorem aiF{f:Nat->Nat}:∀{xs:List V}{ds:List D},fu xs=some ds->V.iI f xs=xs:=by
 intro xs ds hd;rw[Fc hd];clear hd;induction ds with
 |nil=>rfl
 |cons d ds ih=>simp[V.iI,V.dJ,ih]
theorem aiG(m:Nat):back [] m=(m+·):=by
 funext i;simp[back]
theorem T5{rec:Rec}(hq:l7 P φ rec)(hs:cm φ nt m dB s g a w){d:Option Nat}(hd:p5 nt o d=true){f:Nat}{xs:List V}{args:Array Value}{v2:V}{h2:List O}(nG:aA rec s.heap f xs=some (v2,h2))
  (hr:bT φ s.heap g w xs args.toList)
  (hrun:(execOp a.eval o).run P w=(callFunc (φ f) args).run P w)(hK:eu φ nt m dB s g w (s.lq d (some (v2,h2))) o a K):o.wp P a w K Q:=by
 obtain⟨L,v,h1,hL,gT,hlen,rfl,rfl⟩:=ZZ nG;obtain⟨hnd,yh,bN,_,_⟩:=Dj hL;obtain⟨⟨fn,hf,hn,hb⟩,oU⟩:=hq f _ _ v h1 gT;unfold Oper.wp;rw[hrun,Nw hf hn hb];simp only[Oper.upon];refine Calls.mono (oU (iF g L) w args (Fy hL hs.heap) (yg yh hr)) λe w' h=>?_
 obtain⟨v',g1,rfl,rN,fX,hfr⟩:=h;rw[yf]at hfr;have M:jU φ s.heap L g w h1 g1 w':=⟨hs.heap,hnd,λn hn=>(bN n hn).1,hlen,rN,hfr⟩
 obtain⟨e1,e2⟩:=De hd;have hs':∀ok,cm φ nt m dB ⟨s.env,mL s.heap L h1,ok⟩ (jH s.heap L g g1) a w':=λok =>
  ⟨λk=>lI M.hle (hs.env k),M.fX,hs.size,hs.defers.frame (M.frame hs.len),nh hs.len M.hle.len⟩
 refine hK (jH s.heap L g g1) v' w' ?_ ?_
 .rw[e1]
  cases d with
  |none=>exact hs' _
  |some d=>exact(hs' s.ok).wF (e2 d rfl) (M.aI fX)
 .cases d with
  |none=>exact M.frame hs.len
  |some d=>exact M.frame hs.len
theorem aiH{rec:Rec}{h:List O}{f:Nat}{xs:List V}{r:V×List O}(hc:aJ rec h f xs=some r):aA rec h f xs=some r:=by
 unfold aJ at hc;split at hc
 .rename_i ds hds
  unfold aA;rw[aiE hds,aiD];simp only[aiF hds];have hsub:sub h []=[]:=rfl;rw[hsub];split at hc
  .rename_i v h1 hr
   simp only[gw]at hc;simp only[hr,hc.symm];simp[aiG,aE]
  .simp at hc
 .simp at hc
theorem T6(r:Bool){rec:Rec}(hq:l7 P φ rec)(hs:cm φ nt m dB s g a w){d:Option Nat}{f:Nat}{xs:List A}(hc:cL P φ nt o (if r then .jd d f xs else .mP d f xs)=true)(hok:(aU rec (if r then .jd d f xs else .mP d f xs) s).ok=true)
  (hK:eu φ nt m dB s g w (aU rec (if r then .jd d f xs else .mP d f xs) s) o a K):o.wp P a w K Q:=by
 have zH:(p5 nt o d&&(match o.op with
  | .call c=>(match c.callee with | .value (.func g)=>φ f==g&&nZ φ c.args.toList xs |_=>false)
  |_=>false))=true:=by cases r<;>exact hc
 simp only[bJ]at zH;obtain⟨hd,h⟩:=zH;split at h
 .rename_i c ho
  split at h
  .rename_i ff iu
   simp only[bJ,dN]at h;obtain⟨rfl,hx⟩:=h;have hrun:(execOp a.eval o).run P w=(callFunc (φ f) (c.args.map a.eval)).run P w:=by simp[execOp,ho,resolve,iu,Act.eval,Deferred.ofValue,invoke]
   have hr:bT φ s.heap g w (xs.map s.get) (c.args.map a.eval).toList:=by simpa using wE hs hx
   cases r with
   |true =>
    simp only[dF,aU]at hok hK;obtain⟨⟨v2,h2⟩,hv⟩:=xC hok;rw[hv]at hK;exact T5 hq hs hd hv hr hrun hK
   |false =>
    simp only[eI,dI,aU]at hok hK;obtain⟨⟨v2,h2⟩,hv⟩:=xC hok;rw[hv]at hK;exact T5 hq hs hd (aiH hv) hr hrun hK
  .simp at h
 .simp at h
theorem aiI{rec:Rec}(hq:l7 P φ rec)(hs:cm φ nt m dB s g a w){d:Option Nat}{x:A}{xs:List A}(hc:cL P φ nt o (.pI d x xs)=true)(hok:(aU rec (.pI d x xs) s).ok=true)
  (hK:eu φ nt m dB s g w (aU rec (.pI d x xs) s) o a K):o.wp P a w K Q:=by
 simp only[cL,bJ]at hc;obtain⟨hd,h⟩:=hc;split at h
 .rename_i c ho
  split at h
  .rename_i y iu
   simp only[bJ]at h;obtain⟨hx,hxs⟩:=h;simp only[aU]at hok hK;have rx:=eE hs hx;have yc:=wE hs hxs;obtain⟨⟨v2,h2⟩,hv⟩:=xC hok;rw[hv]at hK;have key:∀{f:Nat}{A B:Array Value}{zs:List V},a.eval y = .func (.func (φ f)) A B->aA rec s.heap f zs=some (v2,h2) ->
     bT φ s.heap g w zs (A.toList++c.args.toList.map a.eval++B.toList)->o.wp P a w K Q:=by
    intro f A B zs he hz hr;refine T5 hq hs hd (f:=f) (xs:=zs) (args:=A++c.args.map a.eval++B) hz (by simpa using hr) ?_ hK
    simp[execOp,ho,resolve,iu,he,Deferred.ofValue,invoke]
   cases fT:s.get x with
   |d z =>
    cases z with
    |fn f first caps =>
     rw[fT]at rx hv;simp only[aI,bR]at rx;obtain⟨A,B,he,hA,hB⟩:=rx;exact key he hv (rI (rI (Bk hA) yc) (Bk hB))
    |_=>rw[fT]at hv;simp[lZ]at hv
   |fn f first caps =>
    rw[fT]at rx hv;simp only[aI]at rx;obtain⟨A,B,he,hA,hB⟩:=rx;exact key he hv (rI (rI hA yc) hB)
   |_=>rw[fT]at hv;simp[lZ]at hv
  .simp at h
 .simp at h
end
end Go.VS
namespace Go.VS
section
variable {P:Program}{φ:fj}
variable {nt m dB:Nat}{s:St}{g:Gh}{a:Act}{w:World}{K:Act->World->Prop}{Q:Exit->Act->World->Prop}{o:Oper}
end
end Go.VS
namespace Go.VS
section
variable {P:Program}{φ:fj}
variable {nt m dB:Nat}{s:St}{g:Gh}{a:Act}{w:World}{K:Act->World->Prop}{Q:Exit->Act->World->Prop}{o:Oper}
theorem Z0{d:Nat}{v:V}{h1:List O}{x:D}{h2:List O}(hd:gj nt o d=true)(ht:br h1 v=some (x,h2))(hK:eu φ nt m dB s g w ⟨(d,.d x)::s.env,h2,s.ok⟩ o a K):
  eu φ nt m dB s g w ⟨(d,v)::s.env,h1,s.ok⟩ o a K:=by
 intro g' v' w' hs' hf';obtain⟨e1,e2⟩:=Bd hd;simp only[br,gI,ur]at ht;obtain⟨y,hy,rfl,rfl⟩:=ht;have hL:V.gu [v]=v.dw:=by simp[V.gu]
 have fX:=hs'.env d;simp only[cA,dF]at fX;obtain⟨I',k1,k2,k3⟩:=NH hs' (xs:=[v]) (vs:=[(a.put o.dst v').tmps.getD d undef]) (ds:=[y]) (by simp[gZ,hy]) (by simp only[bT];exact⟨fX,trivial⟩) s.ok
 rw[hL]at k1 k2;refine hK (g'.dZ I') v' w' ⟨λk=>?_,k1.heap,k1.size,k1.defers,k1.len⟩ (hf'.trans k2)
 have h0:=k1.env k;simp only[cA]at h0⊢;by_cases hk:d=k
 .subst hk
  rw[aK rfl];simp only[cy]at k3;simpa only[aI,Gh.dZ]using k3.1
 .rw[aD hk]at h0⊢
  exact h0
theorem Z1{ov:Option (V×List O)}{r:V×List O}(h:yR ov=some r):∃v h1 x h2,ov=some (v,h1)/\br h1 v=some (x,h2)/\r=(.d x,h2):=by
 cases ov with
 |none=>simp[yR]at h
 |some p =>
  obtain⟨v,h1⟩:=p;simp only[yR,uq,gI]at h;obtain⟨q,hq,rfl⟩:=h;exact⟨v,h1,q.1,q.2,rfl,hq,rfl⟩
theorem aiJ(hs:cm φ nt m dB s g a w){rec:Rec}{d es:Nat}{x y:A}(hc:cL P φ nt o (.sk d x y es)=true)(hok:(aU rec (.sk d x y es) s).ok=true)
  (hK:eu φ nt m dB s g w (aU rec (.sk d x y es) s) o a K):o.wp P a w K Q:=by
 simp only[aU]at hok hK;have hd:gj nt o d=true:=by simp only[cL,bJ]at hc;exact hc.1
 obtain⟨v,hh,hv⟩:=Bg hok;rw[hv]at hK hok;obtain⟨v1,h1,z,h2,k1,k2,k3⟩:=Z1 hv;simp only[ur]at k3;obtain⟨rfl,rfl⟩:=k3;have zH:cL P φ nt o (.app d x y es)=true:=hc;refine ZG (rec:=rec) hs zH ?_ ?_
 .simp only[aU,k1,St.gh];exact hok
 .simp only[aU,k1]
  exact Z0 hd k2 hK
theorem aiK{rec:Rec}(hq:l7 P φ rec)(hs:cm φ nt m dB s g a w){d:Nat}{f:Nat}{xs:List A}(hc:cL P φ nt o (.nq d f xs)=true)(hok:(aU rec (.nq d f xs) s).ok=true)
  (hK:eu φ nt m dB s g w (aU rec (.nq d f xs) s) o a K):o.wp P a w K Q:=by
 simp only[aU]at hok hK;simp only[cL,bJ]at hc;obtain⟨hd,h⟩:=hc;obtain⟨e1,e2⟩:=Bd hd;have zH:cL P φ nt o (if true then .jd (some d) f xs else .mP (some d) f xs)=true:=by
  simp only[dF,cL,bJ];exact⟨by simp only[p5,bJ,dN,e1,Option.all_some,fZ];exact⟨trivial,e2⟩,h⟩
 obtain⟨v,hh,hv⟩:=Bg hok;rw[hv]at hK hok;obtain⟨v1,h1,z,h2,k1,k2,k3⟩:=Z1 hv;simp only[ur]at k3;obtain⟨rfl,rfl⟩:=k3;refine T6 (rec:=rec) true hq hs zH ?_ ?_
 .simp only[dF,aU,k1,St.lq];exact hok
 .simp only[dF,aU,k1]
  exact Z0 hd k2 hK
theorem aiL{I I':Nat->Nat}{w':World}{x:D}{v:Value}(hp:x.plain=true)(hr:bR φ I w x v):bR φ I' w' x v:=by
 cases x<;>simp[D.plain]at hp<;>simpa only[bR]using hr
theorem Z2{I I':Nat->Nat}{w':World}:∀{cs:List D}{vs:List Value},cs.all D.plain=true->cy φ I w cs vs->cy φ I' w' cs vs
 | [],[],_,_=>by simp[cy]
 |c::cs,v::vs,hp,hr=>by
  simp only[xx,bJ]at hp;simp only[cy]at hr⊢;exact⟨aiL hp.1 hr.1,Z2 hp.2 hr.2⟩
 | [],_::_,_,hr=>by simp[cy]at hr
 |_::_,[],_,hr=>by simp[cy]at hr
theorem Z3{I I':Nat->Nat}{w':World}{y:D}{v:Value}(hp:y.Ca=true)(hr:bR φ I w y v):bR φ I' w' y v:=by
 cases y with
 |ag cs =>
  simp only[D.Ca]at hp;simp only[bR]at hr⊢;obtain⟨A,h1,h2,h3⟩:=hr;exact⟨A,h1,Z2 hp h2,h3⟩
 |b x=>simpa only[bR]using hr
 |i k x=>simpa only[bR]using hr
 |s x=>simpa only[bR]using hr
 |_=>simp[D.Ca,D.plain]at hp
theorem aiM{h:List O}{g':Gh}{w':World}{x:V}{v:Value}(hp:x.plain=true)(hr:aI φ [] g w x v):aI φ h g' w' x v:=by
 cases x with
 |d y =>
  simp only[V.plain]at hp;simp only[aI]at hr⊢;exact Z3 hp hr
 |tu vs =>
  simp only[V.plain]at hp;simp only[aI]at hr⊢;obtain⟨A,h1,h2⟩:=hr;refine⟨A,h1,?_⟩;have key:∀{vs:List V}{us:List Value},vs.all (λv=>match v with | .d x=>x.Ca |_=>false)=true->bT φ [] g w vs us->bT φ h g' w' vs us:=by
   intro vs;induction vs with
   |nil=>intro us _ hr;cases us<;>simp_all[bT]
   |cons v vs ih =>
    intro us hp hr;cases us with
    |nil=>simp[bT]at hr
    |cons u us =>
     simp only[xx,bJ]at hp;simp only[bT]at hr⊢;refine⟨?_,ih hp.2 hr.2⟩;cases v with
     |d x=>simp only[aI]at hr⊢;exact Z3 hp.1 hr.1
     |_=>simp at hp
  exact key hp h2
 |_=>simp[V.plain]at hp
theorem aiN{rec:Rec}{h:List O}{f:Nat}{xs:List V}{v:V}(hc:vH rec h f xs=some v):∃ds,gZ h xs=some ds/\rec (.call f (ds.map V.d) [])=some (.val v [])/\v.plain=true:=by
 unfold vH at hc;split at hc
 .rename_i ds hds
  split at hc
  .rename_i v' hr
   split at hc
   .rename_i hp
    simp at hc;subst hc;exact⟨ds,hds,hr,hp⟩
   .simp at hc
  .simp at hc
 .simp at hc
theorem aiO{rec:Rec}(hq:l7 P φ rec)(hs:cm φ nt m dB s g a w){d:Option Nat}{f:Nat}{xs:List A}(hc:cL P φ nt o (.calls d f xs)=true)(hok:(aU rec (.calls d f xs) s).ok=true)
  (hK:eu φ nt m dB s g w (aU rec (.calls d f xs) s) o a K):o.wp P a w K Q:=by
 simp only[cL,bJ]at hc;obtain⟨hd,h⟩:=hc;split at h
 .rename_i c ho
  split at h
  .rename_i ff iu
   simp only[bJ,dN]at h;obtain⟨rfl,hx⟩:=h;simp only[aU]at hok hK;obtain⟨v,hv⟩:=Cc hok;rw[hv]at hK;obtain⟨ds,hds,gT,hp⟩:=aiN hv;obtain⟨⟨fn,hf,hn,hb⟩,oU⟩:=hq f _ [] v [] gT;have hr:bT φ s.heap g w (xs.map s.get) (c.args.map a.eval).toList:=by simpa using wE hs hx
   obtain⟨I',k1,_,k3⟩:=NH hs hds hr s.ok;have hrun:(execOp a.eval o).run P w = .ok (.enter (φ f) (c.args.map a.eval)) w:=by
    rw[<-Nw (P:=P) (w:=w) (args:=c.args.map a.eval) hf hn hb];simp[execOp,ho,resolve,iu,Act.eval,Deferred.ofValue,invoke]
   unfold Oper.wp;rw[hrun];simp only[Oper.upon];refine Calls.mono (oU ⟨λ_=>0,λ_=>0,I'⟩ w (c.args.map a.eval) (Nu k1.heap.new) (zx (g:=⟨λ_=>0,λ_=>0,I'⟩) k3)) λe w' hh=>?_
   obtain⟨v',g1,rfl,rN,fX,hfr⟩:=hh;obtain⟨hg,_⟩:=Nv hfr;have IG:∀b,b<w.heap.size->(λb=>if b<w.heap.size then g.I b else g1.I b) b=g.I b:=λb hb=>by simp[hb]
   have hnew2:∀b,w'.heap.size<=b->(λb=>if b<w.heap.size then g.I b else g1.I b) b=0:=λb hb=>by
    have:=hg.size;have hnb:¬b<w.heap.size:=by omega
    simp only[hnb,dI];exact rN.new b hb
   obtain⟨h1,h2⟩:=De hd;have hs':=hs.Nm hg IG hnew2;refine hK (g.dZ λb=>if b<w.heap.size then g.I b else g1.I b) v' w' ?_ ?_
   .rw[h1]
    cases d with
    |none=>exact hs'
    |some d=>exact hs'.wF (h2 d rfl) (aiM hp fX)
   .cases d with
    |none=>exact C6 m hs.heap hg IG
    |some d=>exact C6 m hs.heap hg IG
  .simp at h
 .simp at h
end
end Go.VS
