import Derived.Test.YtifnkfombicejaaV04
import Derived.Test.YtifnkfombicejaaV03
import Derived.Scope
import Derived.WalkKit
import Derived.ProofKit
import Derived.OpenShut
import Derived.Carry
set_option linter.all false
set_option maxHeartbeats 1000000
namespace Go.VS
section
variable {P:Program}{φ:bX}
variable {nt m dB:Nat}{s:St}{g:Gh}{a:Act}{w:World}{K:Act->World->Prop}{Q:Exit->Act->World->Prop}{o:Oper}{ops:Array Oper}{r:Option Nat}{n:Nat}
theorem aI.congr{s':St}(hs:aI φ nt m dB s' g a w)(he:∀t,aK s.env t=aK s'.env t)(hh:s.heap=s'.heap):aI φ nt m dB s g a w where
 env k:=by rw[he,hh];exact hs.env k
 heap:=by rw[hh];exact hs.heap
 size:=hs.size
 defers:=by rw[hh];exact hs.defers
 len:=by rw[hh];exact hs.len
theorem aI.forget(hs:aI φ nt m dB s g a w)(fl:List Nat)(ok:Bool):aI φ nt m dB ⟨jK fl s.env,s.heap,ok⟩ g a w where
 env k:=by
  simp only[xK];split
  .simp[ah]
  .exact hs.env k
 heap:=hs.heap
 size:=hs.size
 defers:=hs.defers
 len:=hs.len
theorem aI.drew(hs:aI φ nt m dB s g a w):aI φ nt m dB s g a w.drew/\Frame m s.heap g w s.heap g w.drew:=by
 have hg:=cU.drew w;refine⟨?_,?_⟩
 .have:=hs.Bo (I':=g.I) hg (λ_ _=>rfl) (λb hb=>hs.heap.new b hb)
  exact this
 .exact qV m hs.heap hg (λ_ _=>rfl)
structure Nu(P:Program)(φ:bX)(nt:Nat)(ops:Array Oper)(perm:List Nat)(xs:List X):Prop where
 len:perm.length=ops.size
 nodup:perm.Nodup
 has:∀i,i<ops.size->i∈perm
 ID:perm.length=xs.length
 place:∀k i x,perm[k]?=some i->xs[k]?=some x->(∃o,ops[i]?=some o/\aR P φ nt o x.i=true/\xM ops o x=true/\∀e∈o.after,e.on<ops.size)/\∀r∈vu ops perm i,r<k
def xS(ops:Array Oper)(perm:List Nat):List (List Nat):=perm.map (vu ops perm)
theorem Nv{perm:List Nat}{p i:Nat}(h:perm[p]?=some i):(xS ops perm).getD p []=vu ops perm i:=by
 simp[xS,List.getD,h]
structure DU(φ:bX)(nt m dB:Nat)(ops:Array Oper)(perm:List Nat)(rec:Rec)(xs:List X)(s0:St)(g0:Gh)(w0:World)(fuel:Nat)(listed:Array Bool)(a:Act)(w:World)(E Rm:List Nat)(g:Gh):Prop where
 size:listed.size=ops.size
 xT:∀p i,perm[p]?=some i->(p∈E↔listed.getD i false=true)
 lt:∀p∈E,p<xs.length
 closed:∀p∈E,∀r∈(xS ops perm).getD p [],r∈E
 rest:∀p,p<xs.length->p∉E->p∈Rm
 fuel:Rm.length<=fuel
 rel:aI φ nt m dB (sigma rec xs s0 E) g a w
 frame:Frame m s0.heap g0 w0 (sigma rec xs s0 E).heap g w
theorem DV{perm:List Nat}(h:perm.Nodup){p i:Nat}(hp:perm[p]?=some i):perm.idxOf i=p:=by
 have hlt:p<perm.length:=by
  rcases eH p perm.length with h1 |h1
  .exact h1
  .simp[dL h1]at hp
 have he:perm[p]=i:=by simpa[lH hlt]using hp
 rw[<-he];exact n7 h p hlt
theorem Vt{rec:Rec}(hq:gW P φ rec)(hy:m7 P φ rec){perm:List Nat}{xs:List X}{s0:St}{g0:Gh}{w0:World}{R:List (Nat×I)}(hO:Nu P φ nt ops perm xs)
  (hok:(bV rec xs s0).ok=true)(lu:∀p q x y,p<q->xs[p]?=some x->xs[q]?=some y->xO (xS ops perm) R xs.length xs p q x y)
  (hR:∀k i,(k,i)∈R->Ix rec (fm rec xs s0 k) i)(hQ:Post φ nt m dB s0 g0 w0 (bV rec xs s0) (Q .normal)):
  ∀(fuel:Nat)(listed:Array Bool)(a:Act)(w:World)(E Rm:List Nat)(g:Gh),DU φ nt m dB ops perm rec xs s0 g0 w0 fuel listed a w E Rm g->wpAnyIn (Wd r) n P .any ops Q fuel listed a w:=by
 have DW:∀i,i<ops.size->∃p,perm[p]?=some i/\p<xs.length:=by
  intro i hi;obtain⟨p,hp,he⟩:=jf (hO.has i hi);exact⟨p,by simp[hp,he],by rw[<-hO.ID];exact hp⟩
 have af:∀(p:Nat)(hp:p<xs.length),xs[p]?=some xs[p]:=λp hp=>by simp[hp]
 have Vu:∀(p:Nat),p<xs.length->∃i,perm[p]?=some i:=λp hp=>by
  have:p<perm.length:=by rw[hO.ID];exact hp
  exact⟨perm[p],by simp[this]⟩
 have Nw:∀{fuel:Nat}{listed:Array Bool}{a:Act}{w:World}{E Rm:List Nat}{g:Gh},DU φ nt m dB ops perm rec xs s0 g0 w0 fuel listed a w E Rm g->∀{p i:Nat}{o:Oper},perm[p]?=some i->p<xs.length->ops[i]?=some o ->
   ((∀e∈o.after,Region.binds .any e=true->listed.getD e.on false=true)↔∀r∈(xS ops perm).getD p [],r∈E):=by
  intro fuel listed a w E Rm g inv p i o hp hpx ho;rw[Nv hp];simp only[vu,ho];have IE:∀e∈o.after,e.on<ops.size:=by
   obtain⟨⟨o',ho',_,_,h⟩,_⟩:=hO.place p i xs[p] hp (af p hpx);rw[ho]at ho';simp at ho';subst ho';exact h
  constructor
  .intro h r hr
   simp only[dz,lA,Jp]at hr;obtain⟨e,⟨he,hb⟩,rfl⟩:=hr;obtain⟨q,jC,Vv⟩:=DW e.on (IE e he);rw[DV hO.nodup jC];exact(inv.xT q e.on jC).2 (h e he hb)
  .intro h e he hb
   obtain⟨q,jC,Vv⟩:=DW e.on (IE e he);have:=h q (by
    simp only[dz,lA,Jp];exact⟨e,⟨he,hb⟩,DV hO.nodup jC⟩)
   exact(inv.xT q e.on jC).1 this
 have done:∀{fuel:Nat}{listed:Array Bool}{a:Act}{w:World}{E Rm:List Nat}{g:Gh},DU φ nt m dB ops perm rec xs s0 g0 w0 fuel listed a w E Rm g->(∀p,p<xs.length->p∈E)->Q .normal a w:=by
  intro fuel listed a w E Rm g inv hall;have hmem:∀p,p<xs.length->(p∈(List.range xs.length).reverse↔p∈E):=λp hp=>⟨λ_=>hall p hp,λ_=>by simpa using hp⟩
  have hu:∀t p q,p<xs.length->q<xs.length->kA xs p=some t->kA xs q=some t->p=q:=by
   intro t p q hp hq h1 h2;simp only[kA,af p hp,af q hq,eG]at h1 h2;rcases lB p q with h |h |h
   .exact absurd h2 ((lu p q _ _ h (af p hp) (af q hq)).uniq t h1)
   .exact h
   .exact absurd h1 ((lu q p _ _ h (af q hq) (af p hp)).uniq t h2)
  have oX:(bV rec xs s0).heap=(sigma rec xs s0 E).heap:=by
   rw[<-Nb (rec:=rec) (xs:=xs) (s0:=s0)];simp only[sigma];refine DM hok (It λp hp _=>inv.lt p hp) (bZ _) λr h1 h2=>?_
   cases nV:iQ xs r with
   |false=>rfl
   |true=>have:=As nV (hall r h2);omega
  refine hQ g a w (inv.rel.congr (λt=>?_) oX) (by rw[oX];exact inv.frame)
  rw[<-Nb (rec:=rec) (xs:=xs) (s0:=s0),At hok _ (bZ _)];exact Is (n:=xs.length) (λp q hp hq=>hu t p q hp hq) (λp hp=>by simpa using hp) inv.lt λp hp _=>hmem p hp
 have empty:∀{fuel:Nat}{listed:Array Bool}{a:Act}{w:World}{E Rm:List Nat}{g:Gh},DU φ nt m dB ops perm rec xs s0 g0 w0 fuel listed a w E Rm g->Region.ready .any ops listed=[]->Q .normal a w:=by
  intro fuel listed a w E Rm g inv hr;refine done inv λp=>?_
  induction p using Nat.strongRecOn with
  |_ p ih =>
   intro hp;apply Jq;intro hne;obtain⟨i,hi⟩:=Vu p hp;obtain⟨⟨o,ho,_⟩,hd⟩:=hO.place p i xs[p] hi (af p hp);have hun:listed.getD i true=false:=by
    have hsz:i<listed.size:=by rw[inv.size];exact(vO.1 ho).1
    cases h1:listed.getD i true with
    |false=>rfl
    |true =>
     exfalso;apply hne;rw[inv.xT p i hi];simpa[hsz]using h1
   have:i∈Region.ready .any ops listed:=mem_ready.2 ⟨hun,o,ho,(Nw inv hi hp ho).2 λr hr=>by
    rw[Nv hi]at hr;have:=hd r hr;exact ih r this (by omega)⟩
   rw[hr]at this;simp at this
 intro fuel;induction fuel with
 |zero =>
  intro listed a w E Rm g inv;have hall:∀p,p<xs.length->p∈E:=by
   intro p hp;apply Jq;intro hne;have h1:=inv.rest p hp hne;have h2:=inv.fuel
   have:Rm=[]:=by simpa using h2
   rw[this]at h1;simp at h1
  refine⟨?_,done inv hall⟩;rw[List.eq_nil_iff_forall_not_mem];intro i hi;obtain⟨hun,o,ho,_⟩:=mem_ready.1 hi;obtain⟨p,hp,hpx⟩:=DW i (vO.1 ho).1;have h1:=(inv.xT p i hp).1 (hall p hpx);have hsz:i<listed.size:=by rw[inv.size];exact(vO.1 ho).1
  simp[hsz]at hun h1;rw[hun]at h1;simp at h1
 |succ fuel ih =>
  intro listed a w E Rm g inv;refine⟨empty inv,λi hi=>?_⟩
  obtain⟨hun,o,ho,hall⟩:=mem_ready.1 hi;obtain⟨j,hj,Au⟩:=DW i (vO.1 ho).1;obtain⟨⟨o',ho',Nx,Vw,IE⟩,hd⟩:=hO.place j i xs[j] hj (af j Au);rw[ho]at ho';simp at ho';subst ho';have hsz:i<listed.size:=by rw[inv.size];exact(vO.1 ho).1
  have Dz:j∉E:=by
   intro h;have:=(inv.xT j i hj).1 h;simp[hsz]at this hun;rw[hun]at this;simp at this
  have DN:=(Nw inv hj Au ho).1 hall;have hfind:=find hok lu hR inv.lt inv.closed (af j Au) Dz DN;have next:∀g' a' w',aI φ nt m dB (fj rec xs[j] (sigma rec xs s0 E)) g' a' w'->Frame m (sigma rec xs s0 E).heap g w (fj rec xs[j] (sigma rec xs s0 E)).heap g' w' ->
    wpAnyIn (Wd r) n P .any ops Q fuel (listed.setIfInBounds i true) a' w':=by
   intro g' a' w' hs' hf';rw[hfind]at hs' hf';refine ih _ a' w' (j::E) (Rm.filter (·≠j)) g' ⟨by simp[inv.size],λp i' hp=>?_,λp hp=>?_,λp hp r hr=>?_,λp hp Aq=>?_,?_,hs',inv.frame.trans hf'⟩
   .by_cases vp:p=j
    .subst vp
     have:i'=i:=by rw[hj]at hp;simpa using hp.symm
     subst this;simp[hsz]
    .have hne:i≠i':=by
      intro h;subst h;have h1:=DV hO.nodup hj;have h2:=DV hO.nodup hp;omega
     rw[getD_set_ne false hne,aY,inv.xT p i' hp];simp[vp]
   .rcases aY.1 hp with h |h
    .subst h;exact Au
    .exact inv.lt p h
   .rcases aY.1 hp with h |h
    .subst h;exact vD _ (DN r hr)
    .exact vD _ (inv.closed p h r hr)
   .simp only[aY,dc]at Aq
    rw[lA];exact⟨inv.rest p hp Aq.2,by simpa using Aq.1⟩
   .have hlen:(Rm.filter (·≠j)).length<Rm.length:=Je.2 ⟨j,inv.rest j Au Dz,by simp⟩
    have:=inv.fuel;omega
  have nU:(fj rec xs[j] (sigma rec xs s0 E)).ok=true:=by rw[hfind];rfl
  have j9:=M0 Nx;unfold wpOpIn;simp only[ho];have hG:=M3 (K:=wpAnyIn (Wd r) n P .any ops Q fuel (listed.setIfInBounds i true)) (X:=o.wpIn (Wd r) n P a w (wpAnyIn (Wd r) n P .any ops Q fuel (listed.setIfInBounds i true)) Q) inv.rel Vw j9.1 j9.2 nU
   (λhe hk=>MS hq hy inv.rel Nx hk λg' v' w' hs' hf=>next g' _ w' (by rw[he];exact hs') (by rw[he];exact hf))
   (λhe hs'=>next g _ w (by rw[he];exact hs') (by rw[he];exact Frame.refl _ _ _ _))
  split
  .rename_i hw;rw[aN hw]at hG;exact hG
  .rename_i hw;rw[aF hw]at hG;exact⟨λ_ _=>trivial,hG⟩
theorem Vx{perm:List Nat}{js:List J}(h:DT P φ nt ops perm js=true):J.nT true [] [] js=true/\Nu P φ nt ops perm (J.dK none js) /\
  ∀p q x y,p<q->(J.dK none js)[p]?=some x->(J.dK none js)[q]?=some y->xO (xS ops perm) (J.xQ js) (J.dK none js).length (J.dK none js) p q x y:=by
 simp only[DT,aA,fu,bN]at h;obtain⟨⟨⟨⟨⟨h1,h2⟩,h3⟩,h8⟩,h4⟩,h5⟩:=h;obtain⟨h6,h7⟩:=Nt h4;refine⟨h1,⟨h2,h3,λi hi=>by simpa using jG.1 h8 i (o8.2 hi),h6,λk i x hk hx=>?_⟩,λp q x y hpq hx hy=>?_⟩
 .have:=h7 k i x hk hx
  rwa [iR]at this
 .have:=Ns h5 p q x y hpq hx hy
  rwa [iR,iR]at this
theorem Vy{rec:Rec}(hm:P.follows .mixedOrders=true)(hq:gW P φ rec)(hy:m7 P φ rec){fl perm:List Nat}{js:List J}(hs:aI φ nt m dB s g a w)(hc:DT P φ nt ops perm js=true)
  (hok:(cL rec js ⟨jK fl s.env,s.heap,s.ok⟩).ok=true){id:Nat}(hQ:Post φ nt m dB s g w (cL rec js ⟨jK fl s.env,s.heap,s.ok⟩) (Q .normal)):(Code.region id ops true).wpIn (Wd r) n P Q a w:=by
 obtain⟨hf,hO,lu⟩:=Vx hc;have hs0:=(hs.forget fl s.ok).drew;have iG:=DH (rec:=rec) (g:=none) hf (Ag.refl (ny hok)) (λ_ _ h=>by simp at h) trivial hok
 have Vz:=Nm (rec:=rec) hf (Ag.refl (ny hok)) hok;refine wpIn_region_any hm ?_;refine Vt (m:=m) (s0:=⟨jK fl s.env,s.heap,s.ok⟩) (g0:=g) (w0:=w.drew) hq hy hO iG.ok lu Vz (λg' a' w' hs' hfr=>hQ g' a' w' (hs'.low iG) ?_)
  ops.size _ a w.drew [] (List.range ops.size) g ⟨by simp,λp i hp=>?_,by simp,by simp,λp hp _=>?_,by simp,?_,?_⟩
 .rw[iG.heap]
  exact hs0.2.trans hfr
 .simp only[rY,false_iff]
  rcases eH i ops.size with h |h<;>simp[h]
 .rw[o8,<-hO.len,hO.ID];exact hp
 .exact hs0.1.congr (λt=>rfl) (by simp[sigma,iP,fm,bV])
 .have:(sigma rec (J.dK none js) ⟨jK fl s.env,s.heap,s.ok⟩ []).heap=s.heap:=by simp[sigma,iP,fm,bV]
  rw[this];exact Frame.refl _ _ _ _
end
end Go.VS
namespace Go.VS
section
variable (P:Program)(φ:Nat->Nat)(nt:Nat)
def DX(ops:Array Oper)(d d2 it:Nat):Bool :=
 match ops.toList with
 | [o1,o2]=>o1.guard.isNone&&o2.guard.isNone&&cQ nt o1 d&&(match o1.op with | .next x false=>bE φ x (.t it) |_=>false)&&aR P φ nt o2 (.ext d2 (.t d) 0)
 |_=>false
end
section
variable {P:Program}{φ:bX}
variable {nt m dB:Nat}{s:St}{g:Gh}{a:Act}{w:World}{Q:Exit->Act->World->Prop}{r:Option Nat}{n:Nat}{ops:Array Oper}
theorem VA(hs:aI φ nt m dB s g a w){d d2 it:Nat}(hc:DX P φ nt ops d d2 it=true)(hok:s.ok=true){L:List (Bool×List O)}(hL:sn s.heap (aK s.env it)=some L){id:Nat}
  (hQ:∀p∈L,Post φ nt m dB s g w ⟨(d2,.d (.b p.1))::(d,.u)::s.env,p.2,true⟩ (Q .normal)):(Code.region id ops false).wpIn (Wd r) n P Q a w:=by
 unfold DX at hc;split at hc
 .rename_i o1 o2 IB
  simp only[aA]at hc;obtain⟨⟨⟨⟨iW,mh⟩,uE⟩,Av⟩,xE⟩:=hc;obtain⟨Ny,Nz⟩:=pQ uE;refine wpIn_region_list ?_;rw[IB];refine Ip ?_;rw[aN (by simp only[Region.wanted];cases tA:o1.guard<;>simp[tA]at iW⊢)]
  split at Av
  .rename_i x ho
   have rx:=b7 hs Av;have rx:ah φ s.heap g w (aK s.env it) (a.eval x):=rx;refine H9 (λc hc=>by rw[ho]at hc;cases hc) ?_
   have second:∀{g1:Gh}{w1:World}{v1:Value}{h1:List O}{bs:List V}{b:Bool},aI φ nt m dB ⟨(d,.tu (.d (.b b)::bs))::s.env,h1,true⟩ g1 (a.put (some d) v1) w1->Frame m s.heap g w h1 g1 w1->(b,h1)∈L->wpListIn (Wd r) n P ops Q [o2] (a.put (some d) v1) w1:=by
    intro g1 w1 v1 h1 bs b h2 h3 h4;refine Ip ?_;rw[aN (by simp only[Region.wanted];cases tA:o2.guard<;>simp[tA]at mh⊢)]
    refine H9 (Ia xE λ_ h=>by cases h) (JR (rec:=λ_=>none) h2 xE (by simp[aj,St.get,aK,ue,St.cr,St.put]) ?_)
    intro g2 v2 w2 k1 k2;refine wpListIn_nil (hQ _ h4 g2 _ w2 ?_ ?_)
    .have e:(aj (λ_=>none) (.ext d2 (.t d) 0) ⟨(d,.tu (.d (.b b)::bs))::s.env,h1,true⟩)=⟨(d2,.d (.b b))::(d,.tu (.d (.b b)::bs))::s.env,h1,true⟩:=by simp[aj,St.get,aK,ue,St.cr,St.put]
     rw[e]at k1;refine⟨λk=>?_,k1.heap,k1.size,k1.defers,k1.len⟩
     have:=k1.env k;simp only[aK]at this⊢;split
     .rename_i hk;rw[aN hk]at this;exact this
     .rename_i hk
      rw[aF hk]at this;split
      .simp[ah]
      .rename_i hk2;rw[aF hk2]at this;exact this
    .have e:(aj (λ_=>none) (.ext d2 (.t d) 0) ⟨(d,.tu (.d (.b b)::bs))::s.env,h1,true⟩).heap=h1:=by simp[aj,St.get,aK,ue,St.cr,St.put]
     rw[e]at k2;exact h3.trans k2
   unfold sn at hL;split at hL
   .rename_i n' cj
    rw[cj]at rx;split at hL
    .rename_i k since seen hn
     split at hL
     .rename_i kv cz bs hk
      split at hL
      .rename_i bP
       obtain⟨rfl,hall⟩:=bP;obtain⟨ex,VB,hit,hI,gG,ES,hb,hkv,gX⟩:=ML hs.heap hn hk rx;have hold:∀e∈ES.toList,e.born<cz:=λe he=>by
        rw[jG]at hall;have:=hall e.born (by rw[<-gX];exact oZ he)
        simpa using this
       have hleft:(leftOf ES seen.toArray).toList.map (·.born)=bs.filter λb=>!seen.contains b:=by
        unfold leftOf;rw[Array.toList_filter,<-gX,List.filter_map];congr 1;simp[Function.comp_def]
       rcases run_next_at (P:=P) w o1.type (g.β n') (g.β k) cz cz seen.toArray ES cz hit hb hold (bZ _)with⟨h0,hrun⟩ |⟨e,he,w1,hw1,hrun⟩
       .have VC:bs.filter (λb=>!seen.contains b)=[]:=by
         rw[<-hleft]
         have:(leftOf ES seen.toArray).toList.length=0:=by simpa using h0
         rw[o7.1 this];rfl
        rw[aN VC]at hL;simp only[bF]at hL;subst hL;refine pN (v':=.tuple #[.bool false]) (w':=w) (by simp only[execOp,ho,ex];simp[hrun]) ?_
        rw[Ny];have h2:=hs.lT (v:=.tu [.d (.b false)]) (v':=.tuple #[.bool false]) (ok:=true) Nz (by simp only[ah];exact⟨_,rfl,by simp[aB,ah,aC]⟩)
        exact second h2 (Frame.refl _ _ _ _) (by simp)
       .have hmem:e.born∈bs.filter λb=>!seen.contains b:=by rw[<-hleft];exact oZ he
        have hne:¬bs.filter (λb=>!seen.contains b)=[]:=λh=>by rw[h]at hmem;simp at hmem
        rw[aF hne]at hL;simp only[bF]at hL;have hl:(af s.heap n').live=true:=by rw[hn];rfl
        have hlt:g.β n'<w.heap.size:=hs.heap.block hl;have iW:cU w w1:=by
         rcases hw1 with h |h
         .rw[h];exact cU.refl _
         .rw[h];exact cU.drew w
        have hsz:w1.heap.size=w.heap.size:=by rcases hw1 with rfl |rfl<;>rfl
        have hsame:w1.heap=w.heap:=by rcases hw1 with rfl |rfl<;>rfl
        have oG:aI φ nt m dB s g a w1:=by
         have hle:=Bj hs.heap iW (I':=g.I) (λ_ _=>rfl)
         have hH:=JL hs.heap iW (I':=g.I) (λ_ _=>rfl) (λb hb=>hs.heap.new b (by omega))
         exact⟨λk=>fF hle (hs.env k),hH,hs.size,hs.defers.frame (qV m hs.heap iW (I':=g.I) (λ_ _=>rfl)),hs.len⟩
        have iX:Frame m s.heap g w s.heap g w1:=qV m hs.heap iW (I':=g.I) (λ_ _=>rfl)
        have ht:fG w1 (Go.ChangeMaps.setBlock w1 (g.β n') (.mapIter (some (g.β k)) cz (seen.toArray.push e.born) cz)) (g.β n'):=
         ⟨by simp[Go.ChangeMaps.setBlock],λj hj=>by simp[Go.ChangeMaps.setBlock,vE (tL hj)],rfl,rfl,rfl⟩
        have hE:Ext g.I w1 g.I (Go.ChangeMaps.setBlock w1 (g.β n') (.mapIter (some (g.β k)) cz (seen.toArray.push e.born) cz)):=⟨λ_=>bZ _,λb i hi=>by
         by_cases yI:b=g.β n'
         .subst yI;omega
         .exact v5 (ht.same b yI) i⟩
        have hle:=nF (x:=.it k cz (seen++[e.born])) oG.heap hl ht hE (λes he=>by
         rw[hn];exact⟨he,rfl,λCS T hc=>by rw[hsame,hit]at hc;cases hc⟩) (λhh=>by simp[O.fL]at hh)
        have hkn:k≠n':=λh=>by rw[h,hn]at hk;cases hk
        have hH:=nG (x:=.it k cz (seen++[e.born])) oG.heap hl ht hle (λ_ _=>rfl) ⟨g.β k,by simp[Go.ChangeMaps.setBlock,hsz,hlt],by simpa using gG,λ_=>rfl,VB,hI⟩
        have kY:=oG.oy (ok:=true) hl ht hle hH;have xU:=iX.trans (nH (m:=m) (.it k cz (seen++[e.born])) hl ht hE (λ_ _=>rfl) hle)
        refine pN (v':=.tuple #[.bool true,e.key,e.val]) (w':=Go.ChangeMaps.setBlock w1 (g.β n') (.mapIter (some (g.β k)) cz (seen.toArray.push e.born) cz)) (by simp only[execOp,ho,ex];simp[hrun]) ?_
        rw[Ny];have h2:=kY.lT (v:=.tu [.d (.b true),.u,.u]) (v':=.tuple #[.bool true,e.key,e.val]) (ok:=true) Nz (by simp only[ah];exact⟨_,rfl,by simp[aB,ah,aC]⟩)
        exact second h2 xU (by rw[<-hL];exact dz.2 ⟨e.born,hmem,rfl⟩)
      .simp at hL
     .simp at hL
    .simp at hL
   .simp at hL
  .simp at Av
 .simp at hc
end
end Go.VS
namespace Go.VS
def C.fS:C->Bool
 | .seq a b=>a.fS&&b.fS
 | .ite _ a b=>a.fS&&b.fS
 | .bL _ a=>a.fS
 | .loop _ a=>a.fS
 | .sj _ _ _ _ a=>a.fS
 | .r8 ..=>false
 |_=>true
section
variable (P:Program)(φ:Nat->Nat)(nt:Nat)
def ia:Code->C->Bool
 | .skip,.skip=>true
 | .label _,.skip=>true
 | .ret,.ret=>true
 | .exit i,.exit j=>i==j
 | .region _ ops draw,.bG js=>!draw&&J.nT true [] [] js&&vo P φ nt ops ops.toList (J.dK none js)
 | .region _ ops draw,.jk _ perm js=>draw&&DT P φ nt ops perm js
 | .seq x y,.seq a b=>ia x a&&ia y b
 | .cond c x y,.ite d a b=>bE φ c d&&ia x a&&ia y b
 | .block i x,.bL j a=>i==j&&ia x a
 | .loop x,.loop _ a=>ia x a
 | .loop (.seq (.region _ ops draw) y),.sj _ d d2 it b=>!draw&&DX P φ nt ops d d2 it&&ia y b
 | .rangeFunc f ps x y,.r8 g _ ps' a b=>bE φ f g&&ps.toList==ps'&&(decide ps'.Nodup&&ps'.all (λp=>decide (p<nt))&&a.fS&&b.fS&&ia x a&&ia y b)
 | .scope x,.seq .skip a=>ia x a
 |x,.seq a (.kG _)=>ia x a
 |x,.seq (.kG _) a=>ia x a
 |x,.seq (.keep _) a=>ia x a
 |x,.seq (.r9 _ _) a=>ia x a
 |_,_=>false
termination_by structural _ c=>c
def DY(ps:List Nat)(a b:C)(x y:Code)(nt:Nat):Bool:=decide ps.Nodup&&ps.all (λp=>decide (p<nt))&&a.fS&&b.fS&&ia P φ nt x a&&ia P φ nt y b
end
section
variable {P:Program}{φ:bX}
variable {nt m dB:Nat}{s:St}{g:Gh}{a:Act}{w:World}{Q:Exit->Act->World->Prop}{r:Option Nat}{n:Nat}
def rW:Ex->Exit
 | .normal=>.normal
 | .exit id=>.exit id
 | .ret=>.ret
def vw(P:Program)(φ:bX)(rec:Rec):Prop :=
 (∀(nt m dB:Nat)(live:List Nat)(x:Code)(c:C)(env:List (Nat×V))(h:List O)(e:Ex)(env':List (Nat×V))(h':List O),ia P φ nt x c=true ->
  rec (.loop m live c env h)=some (.out e env' h')->∀(n:Nat)(r:Option Nat),(r=none\/c.fS=true)->∀(g:Gh)(a:Act)(w:World)(Q:Exit->Act->World->Prop),aI φ nt m dB ⟨env,h,true⟩ g a w ->
   Post φ nt m dB ⟨env,h,true⟩ g w ⟨env',h',true⟩ (Q (rW e))->(Code.loop x).wpIn (Wd r) n P Q a w) /\
 (∀(nt m dB:Nat)(live:List Nat)(d d2 it id:Nat)(ops:Array Oper)(x:Code)(c:C)(env:List (Nat×V))(h:List O)(e:Ex)(env':List (Nat×V))(h':List O),DX P φ nt ops d d2 it=true->ia P φ nt x c=true ->
  rec (.lP m live d d2 it c env h)=some (.out e env' h')->∀(n:Nat)(r:Option Nat),(r=none\/c.fS=true)->∀(g:Gh)(a:Act)(w:World)(Q:Exit->Act->World->Prop),aI φ nt m dB ⟨env,h,true⟩ g a w ->
   Post φ nt m dB ⟨env,h,true⟩ g w ⟨env',h',true⟩ (Q (rW e))->(Code.loop (.seq (.region id ops false) x)).wpIn (Wd r) n P Q a w)
def oY(P:Program)(φ:bX):Prop:=∀ps A B x y nt,φ.lk ps A B x y nt↔DY P φ ps A B x y nt=true
theorem Post.mono{s':St}{R R':Act->World->Prop}(h:Post φ nt m dB s g w s' R)(hr:∀a w,R a w->R' a w):Post φ nt m dB s g w s' R':=λg' a' w' h1 h2=>hr _ _ (h g' a' w' h1 h2)
theorem VD{h:List O}{b o es:Nat}{rows:List (List V)}(hr:cP φ h g w b o (.cS es rows)):cP φ h g w b o (cK es rows):=by
 unfold cK;split
 .rename_i ds hds
  have he:=wh hds;obtain⟨h1,h2,h3⟩:=hr;refine⟨by rw[he]at h1;simpa using h1,nD λr row hrow=>?_,by simpa using h3⟩
  have ju:rows[r]?=some (row.map V.d):=by rw[he];simp[hrow]
  obtain⟨k1,k2⟩:=h2 r _ ju;refine⟨by simpa using k1,om λj c hj=>?_⟩
  obtain⟨x,hx,hx1,zJ⟩:=k2 j (.d c) (by simp[hj])
  exact⟨x,hx,hx1,by simpa only[ah]using zJ⟩
 .exact hr
theorem VE:∀(ns:List Nat){h:List O}{n es:Nat}{rows:List (List V)},af h n = .cS es rows->af (bO h ns) n = .cS es rows:=by
 intro ns h n es rows hn;rcases Dw ns (h:=h) (k:=n)with⟨h1,_⟩ |⟨es',ex,dN,h1,_⟩
 .rw[h1];exact hn
 .rw[hn]at h1;simp at h1
theorem VF(hs:aI φ nt m dB s g a w){k:Nat}{p:V}{v:Value}(hp:ah φ s.heap g w p v){h1:List O}(hz:ug s.heap k p=some h1):
  ∃g',aI φ nt m dB ⟨s.env,h1,s.ok⟩ g' a w/\Frame m s.heap g w h1 g' w:=by
 unfold ug at hz;split at hz
 .rename_i n r c
  split at hz
  .simp at hz;subst hz;exact⟨g,⟨hs.env,hs.heap,hs.size,hs.defers,hs.len⟩,Frame.refl _ _ _ _⟩
  .rename_i es rows hn
   split at hz
   .rename_i row hrow
    split at hz
    .rename_i cv Ap
     simp only[cX]at hz;obtain⟨x,hx,rfl⟩:=hz;obtain⟨I',k1,k2,k3⟩:=hs.frozen cv.ak s.ok;have hn2:=VE cv.ak hn;have fM:(af (bO s.heap cv.ak) n).live=true:=by rw[hn2];rfl
     have bA:=k1.heap.obj n;simp only[hn2]at bA;have VG:∀{u:Value},ah φ (bO s.heap cv.ak) (g.bM I') w cv u->aC φ I' w x u:=λhu=>by
      exact Mq k1.heap (Mt _ _) (by rw[Mr (Ms _ _)];exact hx) hu
     have hnew:cP φ (bO s.heap cv.ak) (g.bM I') w (g.β n) (g.o n) (.cS es (rows.set r (row.set (c+k) (.d x)))):=by
      obtain⟨q1,q2,q3⟩:=bA;refine⟨by rw[nh];exact q1,λr2 VH gd=>?_,q3⟩
      rw[vG]at gd;split at gd
      .rename_i bJ
       subst bJ;split at gd
       .simp at gd
        subst gd;obtain⟨p1,p2⟩:=q2 r row hrow;refine⟨by simpa using p1,λj cc hj=>?_⟩
        rw[vG]at hj;split at hj
        .rename_i VI
         split at hj
         .simp at hj
          subst hj;subst VI;obtain⟨u,u1,u2,u3⟩:=p2 (c+k) cv Ap;exact⟨u,u1,u2,by simp only[ah];exact VG u3⟩
         .simp at hj
        .exact p2 j cc hj
       .simp at gd
      .exact q2 r2 VH gd
     have gn:(cK es (rows.set r (row.set (c+k) (.d x)))).dg=some es/\(cK es (rows.set r (row.set (c+k) (.d x)))).len=rows.length/\(cK es (rows.set r (row.set (c+k) (.d x)))).fL=false/\(cK es (rows.set r (row.set (c+k) (.d x)))).mJ=false:=by
      unfold cK;split
      .rename_i ds hds
       have:=congrArg List.length (wh hds);simp at this;exact⟨rfl,by simp[O.len,<-this],rfl,rfl⟩
      .exact⟨rfl,by simp[O.len],rfl,rfl⟩
     generalize hmk:cK es (rows.set r (row.set (c+k) (.d x)))=mk at *;have hle:=nF (x:=mk) (w':=w) (I':=I') k1.heap fM (fG.refl _ _) (Ext.refl _ _) (λes' he'=>by
       rw[gn.1]at he';simp at he';subst he';exact⟨by rw[hn2];rfl,by rw[gn.2.1,hn2];rfl,iF.of_eq rfl⟩) (λhk=>by rw[gn.2.2.1]at hk;cases hk) (λhh=>by rw[gn.2.2.2]at hh;simp at hh)
     have Fv:cP φ ((bO s.heap cv.ak).set n mk) (g.bM I') w (g.β n) (g.o n) mk:=by
      have:=ur hle (g':=g.bM I') rfl rfl hnew;have h2:=VD this;rw[hmk]at h2;exact h2
     have hH:=nG (x:=mk) k1.heap fM (fG.refl _ _) hle (λ_ _=>rfl) Fv
     refine⟨g.bM I',k1.oy fM (fG.refl _ _) hle hH,k3.trans (nH mk fM (fG.refl _ _) (Ext.refl _ _) (λ_ _=>rfl) hle)⟩
    .simp at hz
   .simp at hz
  .simp at hz
 .simp at hz
theorem VJ{rec:Rec}(hq:gW P φ rec){ps:List Nat}{A B:C}{x y:Code}(hlk:φ.lk ps A B x y nt){f:Operand}{gx:VS.A}(hf:bE φ f gx=true)(hs:aI φ nt m dB s g a w){Aw:Array Tmp}(hps:Aw=ps.toArray)
  {live:List Nat}{v2:V}{h2:List O}(jv:gM (aW rec (s.heap++[.lp ps A B .normal (cO live s.env)])) (s.get gx) [.fC s.heap.length]=some (v2,h2))
  {ps2:List Nat}{A2 B2:C}{e:Ex}{NA:List (Nat×V)}(jV:af h2 s.heap.length = .lp ps2 A2 B2 e NA)
  (hQ:Post φ nt m dB s g w ⟨s.env,h2.set s.heap.length .dead,s.ok⟩ (Q (rW e))):(Code.rangeFunc f Aw x y).wpIn (Wd none) n P Q a w:=by
 refine wpIn_rangeFunc λfn _=>?_
 let Ax:Loop:={state:=.ready,pending:=none,fn,tmps:=a.tmps,params:=Aw,assign:=x,body:=y,defers:=w.heap.size}
 obtain⟨w1,hw1⟩:∃w1,w1=(w.alloc (.deferred (some []))).alloc (.loop Ax):=⟨_,rfl⟩;have hg:cU w w1:=by rw[hw1];exact(cU.alloc w _).trans (cU.alloc _ _)
 have hsz:w1.heap.size=w.heap.size+2:=by rw[hw1];simp
 have gV:w1.heap[w.heap.size+1]?=some (.loop Ax):=by
  rw[hw1];have:=World.alloc_heap_new (w.alloc (.deferred (some []))) (.loop Ax);rwa [World.size_alloc]at this
 have VK:w1.heap[w.heap.size]?=some (.deferred (some [])):=by
  rw[hw1,(cU.alloc (w.alloc (.deferred (some []))) (.loop Ax)).same _ (by simp)];exact World.alloc_heap_new w _
 have VL:(Instr.enterLoop fn a.tmps Aw x y none).run P w = .ok (w.heap.size+1,[{target:=.collected w.heap.size,args:=#[]}]) w1:=by
  rw[hw1];exact run_enterLoop_outer _ _ _ _ _
 obtain⟨gz,tF⟩:∃gz,gz=s.heap++[.lp ps A B .normal (cO live s.env)]:=⟨_,rfl⟩;obtain⟨g1,iW⟩:∃g1,g1=g.add s.heap.length (w.heap.size+1) 0 g.I:=⟨_,rfl⟩;have hnew:∀b,w1.heap.size<=b->g.I b=0:=λb hb=>hs.heap.new b (by omega)
 have fN:cT s.heap g w gz g1 w1:=by rw[tF,iW];exact qW _ hs.heap hg (λ_ _=>rfl)
 have iJ:bT φ gz g1 w1:=by
  have bA:cP φ gz g1 w1 (w.heap.size+1) 0 (.lp ps A B .normal (cO live s.env)):=by
   refine⟨Ax,nt,gV,hps,hlk,hs.size,λp hp=>?_,rfl,rfl,?_⟩
   .simp only[cO,dz]at hp
    obtain⟨t,_,rfl⟩:=hp;exact fF fN (hs.env t)
   .rw[iW];exact hs.heap.new _ (by omega)
  rw[tF,iW]at bA⊢;exact JM hs.heap hg (λ_ _=>rfl) hnew (by omega) bA
 have iX:Frame m s.heap g w gz g1 w1:=by rw[tF,iW];exact EO _ hs.heap hg (λ_ _=>rfl) (by omega) hs.len
 have Fx:gz.length=s.heap.length+1:=by rw[tF];simp
 have Zn:af gz s.heap.length = .lp ps A B .normal (cO live s.env):=by rw[tF,uw]
 have uD:g1.β s.heap.length=w.heap.size+1:=by rw[iW];simp[Gh.add]
 have VM:∀k,(af gz k).live=true->g1.β k≠w.heap.size:=by
  intro k hk;rcases lB k s.heap.length with hlt |rfl |hgt
  .rw[tF,jM hlt]at hk
   have:=hs.heap.block hk;rw[iW];simp[Gh.add,Nat.ne_of_lt hlt];omega
  .rw[uD];omega
  .rw[tF,nE hgt]at hk;simp[O.live]at hk
 obtain⟨a',ha'⟩:∃a':Act,a'={a with defers:=[{target:=.collected w.heap.size,args:=#[]}]++a.defers}:=⟨_,rfl⟩;have hD:gU dB gz g1 a'.defers w1:=by
  have h0:=hs.defers.frame iX;rw[ha'];refine⟨λd hd=>?_,?_,h0.le⟩
  .simp only[qJ,jW,aY]at hd
   rcases hd with rfl |hd
   .exact⟨_,rfl,hs.defers.le,VK,VM⟩
   .exact h0.at_ d hd
  .simp only[qJ,jW,cy]
   refine⟨λhd=>?_,h0.nodup⟩
   obtain⟨D,e1,_,e3,_⟩:=hs.defers.at_ _ hd;have:=sE e3;simp at e1;omega
 have oD:aI φ nt m dB ⟨s.env,gz,s.ok⟩ g1 a' w1:=by
  have hm:m<=gz.length:=by have:=hs.len;omega
  rw[ha']at hD⊢;exact⟨λk=>fF fN (hs.env k),iJ,hs.size,hD,hm⟩
 have key:∀{F:Nat}{A' B':Array Value}{zs:List V},a.eval f = .func (.func (φ F)) A' B'->aW rec gz F zs=some (v2,h2) ->
   aB φ gz g1 w1 zs (A'.toList++[Value.func (.yield (w.heap.size+1)) #[] #[]]++B'.toList) ->
   ∃(l:Nat)(mark:List Deferred)(w₁:World)(d:Deferred)(w₁':World)(NB:FuncId)(args:Array Value)(w₂:World),
   (Instr.enterLoop fn a.tmps Aw x y (Wd none).round).run P w = .ok (l,mark) w₁ /\
   (resolve a.eval (rangeCall f l) 0).run P w₁ = .ok d w₁' /\
   (∀f',Target.leads P w₁' d.target d.args=some f'->(Wd none).fn f') /\
   (invoke d.target d.args).run P w₁' = .ok (.enter NB args) w₂ /\
   ((Wd none).depth.isSome=true->1<=n) /\
   CallsIn (Wd none) (n - 1) P NB args w₂ (rangePost (Wd none) n P l Q {a with defers:=mark++a.defers}):=by
  intro F A' B' zs he VN hzs;obtain⟨L,v,h1',hL,dH,hlen,rfl,rfl⟩:=My VN;obtain⟨hnd,p6,dO,_,_⟩:=uM hL;obtain⟨⟨fn',hfn,hn,hb⟩,VO⟩:=hq F _ _ v h1' dH;have VP:aB φ gz g1 w1 zs (A'++#[Value.func (.yield (w.heap.size+1)) #[] #[]]++B').toList:=by simpa using hzs
  refine⟨w.heap.size+1,[{target:=.collected w.heap.size,args:=#[]}],w1,{target:=.fn (.func (φ F)) B',args:=A'++#[Value.func (.yield (w.heap.size+1)) #[] #[]]},w1,φ F,
   A'++#[Value.func (.yield (w.heap.size+1)) #[] #[]]++B',w1,VL,?_,λ_ _=>trivial,?_,DB,MO ?_⟩
  .have ec:∀v,a.eval (.const v)=v:=λ_=>rfl
   simp[resolve,rangeCall,he,Deferred.ofValue,ec]
  .simp only[invoke];exact BA hfn hn hb
  .refine Calls.mono (VO (dP g1 L) w1 _ (wJ hL iJ) (pZ p6 VP)) λe' w' hh=>?_
   obtain⟨v',g2,rfl,Fw,_,hfr⟩:=hh;rw[iy]at hfr;have M:fR φ gz L g1 w1 h1' g2 w':=⟨iJ,hnd,λn hn=>(dO n hn).1,hlen,Fw,hfr⟩
   have hm:m<=gz.length:=oD.len;have NC:=M.frame hm;have yR:aI φ nt m dB ⟨s.env,hU gz L h1',s.ok⟩ (fK gz L g1 g2) a' w':=⟨λk=>fF M.hle (oD.env k),M.cM,oD.size,oD.defers.frame NC,ig hm M.hle.len⟩
   have sL:(fK gz L g1 g2).β s.heap.length=w.heap.size+1:=by
    have:s.heap.length<gz.length:=by omega
    simp[fK,this,uD]
   have bA:=M.cM.obj s.heap.length;rw[jV,sL]at bA;obtain⟨rc,Zo,k1,_,_,_,_,k5,k6,_⟩:=bA;have VQ:rc.state≠.busy:=by rw[k5];split<;>simp
   have hend:=run_endLoop (P:=P) k1 VQ;have hlv:(af (hU gz L h1') s.heap.length).live=true:=by rw[jV];rfl
   obtain⟨DZ,D0,_⟩:=yR.kill hlv s.ok;have hun:∀k,(af ((hU gz L h1').set s.heap.length .dead) k).live=true->(fK gz L g1 g2).β k≠w.heap.size+1:=by
    intro k hk rD;by_cases hkn:k=s.heap.length
    .subst hkn;rw[ow (sy hlv)]at hk;simp[O.live]at hk
    .rw[jN hkn]at hk
     exact hkn (M.cM.inj k _ hk hlv (by rw[rD,sL]))
   have VR:=DZ.putObj (y:=.loop {rc with state:=.exhausted}) k1 rfl (by simp) rfl hun
   have VT:=MP (y:=.loop {rc with state:=.exhausted}) ((iX.trans NC).trans D0) hs.heap (D:=w.heap.size+1) (by omega) k1 rfl rfl
   have Ay:=hQ _ a' _ VR VT;refine⟨rc.pending,_,hend,?_⟩;rw[k6]at Ay⊢;rw[ha']at Ay;cases e with
   |normal=>exact Ay
   |exit id=>exact wpIn_exit Ay
   |ret=>exact wpIn_ret Ay
 have rx:=fF fN (b7 hs hf);have ry:aB φ gz g1 w1 [.fC s.heap.length] [Value.func (.yield (w.heap.size+1)) #[] #[]]:=by
  simp only[aB,ah,jd];exact⟨by omega,rfl,λ_=>by rw[uD]⟩
 rw[<-tF]at jv;cases cj:s.get gx with
 |d z =>
  cases z with
  |fn ff first caps =>
   rw[cj]at rx jv;simp only[ah,aC]at rx;obtain⟨A',B',he,hA,hB⟩:=rx;exact key he jv (kP (kP (sH hA) ry) (sH hB))
  |_=>rw[cj]at jv;simp[gM]at jv
 |fn ff first caps =>
  rw[cj]at rx jv;simp only[ah]at rx;obtain⟨A',B',he,hA,hB⟩:=rx;exact key he jv (kP (kP hA ry) hB)
 |_=>rw[cj]at jv;simp[gM]at jv
theorem xV{rec:Rec}(hm:P.follows .mixedOrders=true)(hk:oY P φ)(hq:gW P φ rec)(hl:vw P φ rec)(hy:m7 P φ rec):∀(x:Code)(c:C),(r=none\/c.fS=true)->∀{s:St}{g:Gh}{a:Act}{w:World}{Q:Exit->Act->World->Prop},ia P φ nt x c=true ->
  aI φ nt m dB s g a w->(aO rec m c s).2.ok=true->Post φ nt m dB s g w (aO rec m c s).2 (Q (rW (aO rec m c s).1))->x.wpIn (Wd r) n P Q a w:=by
 intro x c hr;have VU:∀{x:Code}{b:C}{ds:List Nat}{s:St}{g:Gh}{a:Act}{w:World}{Q:Exit->Act->World->Prop},
   (∀{Q:Exit->Act->World->Prop},(aO rec m b s).2.ok=true->Post φ nt m dB s g w (aO rec m b s).2 (Q (rW (aO rec m b s).1))->x.wpIn (Wd r) n P Q a w) ->
   (aO rec m (.seq b (.kG ds)) s).2.ok=true->Post φ nt m dB s g w (aO rec m (.seq b (.kG ds)) s).2 (Q (rW (aO rec m (.seq b (.kG ds)) s).1))->x.wpIn (Wd r) n P Q a w:=by
  intro x b ds s g a w Q ih hok hQ;simp only[aO]at hok hQ;cases hb:aO rec m b s with
  |mk e s' =>
   rw[hb]at hok hQ ih;cases e with
   |normal =>
    simp only at hok hQ;refine ih (yl ds hok) λg' a' w' h1 h2=>?_
    obtain⟨g2,k1,k2⟩:=HT ds h1 hok;exact hQ g2 a' w' k1 (h2.trans k2)
   |exit id=>exact ih hok hQ
   |ret=>exact ih hok hQ
 have VV:∀{x:Code}{b:C}{ds:List Nat}{s:St}{g:Gh}{a:Act}{w:World}{Q:Exit->Act->World->Prop},aI φ nt m dB s g a w ->
   (∀{s:St}{g:Gh}{Q:Exit->Act->World->Prop},aI φ nt m dB s g a w->(aO rec m b s).2.ok=true->Post φ nt m dB s g w (aO rec m b s).2 (Q (rW (aO rec m b s).1))->x.wpIn (Wd r) n P Q a w) ->
   (aO rec m (.seq (.kG ds) b) s).2.ok=true->Post φ nt m dB s g w (aO rec m (.seq (.kG ds) b) s).2 (Q (rW (aO rec m (.seq (.kG ds) b) s).1))->x.wpIn (Wd r) n P Q a w:=by
  intro x b ds s g a w Q hs ih hok hQ;simp only[aO]at hok hQ;obtain⟨g2,k1,k2⟩:=HT ds hs (qP hok);exact ih k1 hok λg' a' w' h1 h2=>hQ g' a' w' h1 (k2.trans h2)
 fun_induction ia P φ nt x c with
 |case1=>intro s g a w Q _ hs _ hQ;exact wpIn_skip (hQ g a w hs (Frame.refl _ _ _ _))
 |case2=>intro s g a w Q _ hs _ hQ;exact wpIn_label (hQ g a w hs (Frame.refl _ _ _ _))
 |case3=>intro s g a w Q _ hs _ hQ;exact wpIn_ret (hQ g a w hs (Frame.refl _ _ _ _))
 |case4 i j =>
  intro s g a w Q hc hs _ hQ;simp at hc;subst hc;exact wpIn_exit (hQ g a w hs (Frame.refl _ _ _ _))
 |case5 id ops draw js =>
  intro s g a w Q hc hs hok hQ;simp only[aA,lF]at hc;obtain⟨⟨rfl,h2⟩,h3⟩:=hc;exact Vh hq hy hs h2 h3 hok hQ
 |case6 id ops draw fl perm js =>
  intro s g a w Q hc hs hok hQ;simp only[aA]at hc;obtain⟨rfl,h3⟩:=hc;exact Vy hm hq hy hs h3 hok hQ
 |case7 x y b c ih1 ih2 =>
  intro s g a w Q hc hs hok hQ;simp only[aA]at hc;refine wpIn_seq (ih1 (hr.imp id λh=>by simp[C.fS]at h;exact h.1) hc.1 hs ?_ λg' a' w' h1 h2=>?_)
  .simp only[aO]at hok
   split at hok
   .rename_i s' he;rw[he];exact qP hok
   .exact hok
  .simp only[aO]at hok hQ
   cases he:aO rec m b s with
   |mk e s' =>
    rw[he]at hok hQ h1 h2;cases e with
    |normal=>exact ih2 (hr.imp id λh=>by simp[C.fS]at h;exact h.2) hc.2 h1 hok λg2 a2 w2 k1 k2=>hQ g2 a2 w2 k1 (h2.trans k2)
    |exit id=>exact hQ g' a' w' h1 h2
    |ret=>exact hQ g' a' w' h1 h2
 |case8 c x y d b e ih1 ih2 =>
  intro s g a w Q hc hs hok hQ;simp only[aA]at hc;obtain⟨⟨h1,h2⟩,h3⟩:=hc;have rc:=b7 hs h1;simp only[aO]at hok hQ;split at hok
  .rename_i v hv
   rw[hv]at rc;have hb:=oz (by simpa only[ah]using rc)
   simp only[hv]at hQ;cases v with
   |true=>exact wpIn_cond_true hb (ih1 (hr.imp id λh=>by simp[C.fS]at h;exact h.1) h2 hs hok hQ)
   |false=>exact wpIn_cond_false hb (ih2 (hr.imp id λh=>by simp[C.fS]at h;exact h.2) h3 hs hok hQ)
  .simp at hok
 |case9 i x j b ih =>
  intro s g a w Q hc hs hok hQ;simp only[aA,bN]at hc;obtain⟨rfl,h2⟩:=hc;simp only[aO]at hok hQ;cases he:aO rec m b s with
  |mk e s' =>
   rw[he]at hok hQ;refine wpIn_block (ih (hr.imp id λh=>by simpa[C.fS]using h) h2 hs ?_ λg' a' w' h3 h4=>?_)
   .rw[he]
    cases e with
    |normal=>exact hok
    |exit k=>simp only at hok;split at hok<;>exact hok
    |ret=>exact hok
   .rw[he]at h3 h4⊢
    cases e with
    |normal=>exact hQ g' a' w' h3 h4
    |exit k =>
     simp only[rW,Exit.inBlock]at *;split
     .rename_i hk
      rw[aN hk]at hQ;exact hQ g' a' w' h3 h4
     .rename_i hk
      rw[aF hk]at hQ;exact hQ g' a' w' h3 h4
    |ret=>exact hQ g' a' w' h3 h4
 |case10 x live b ih =>
  intro s g a w Q hc hs hok hQ;simp only[aO]at hok hQ;split at hok
  .rename_i p hp
   simp only[hp]at hQ;split at hok
   .rename_i e env h bJ
    simp only[bJ]at hQ;obtain⟨g',k1,k2⟩:=yU hs hp true;refine hl.1 nt m dB live x b p.1 p.2 e env h hc bJ n r (hr.imp id (by simp[C.fS])) g' a w Q k1 λg2 a2 w2 h1 h2=>hQ g2 a2 w2 ⟨h1.env,h1.heap,h1.size,h1.defers,h1.len⟩ (k2.trans h2)
   .simp at hok
  .simp at hok
 |case11 id ops draw y live d d2 it b ih =>
  intro s g a w Q hc hs hok hQ;simp only[aA,lF]at hc;obtain⟨⟨rfl,h1⟩,h2⟩:=hc;simp only[aO]at hok hQ;split at hok
  .rename_i p hp
   simp only[hp]at hQ;split at hok
   .rename_i e env h bJ
    simp only[bJ]at hQ;obtain⟨g',k1,k2⟩:=yU hs hp true;refine hl.2 nt m dB live d d2 it id ops y b p.1 p.2 e env h h1 h2 bJ n r (hr.imp _root_.id (by simp[C.fS])) g' a w Q k1 λg2 a2 w2 h1 h2=>hQ g2 a2 w2 ⟨h1.env,h1.heap,h1.size,h1.defers,h1.len⟩ (k2.trans h2)
   .simp at hok
  .simp at hok
 |case12 f ps x y gx live ps' b c ih1 ih2 =>
  intro s g a w Q hc hs hok hQ;simp only[aA,bN]at hc;obtain⟨⟨h1,h2⟩,h3⟩:=hc;rcases hr with rfl |hr
  rotate_left
  .simp[C.fS]at hr
  have hlk:φ.lk ps' b c x y nt:=(hk ps' b c x y nt).2 (by simp only[DY,aA];exact h3)
  simp only[aO]at hok hQ;split at hok
  .rename_i v2 Zp jv
   simp only[jv]at hQ;split at hok
   .rename_i ps2 A2 B2 e NA jV
    simp only[jV]at hQ;exact VJ hq hlk h1 hs (by rw[<-h2]) jv jV hQ
   .simp at hok
  .simp at hok
 |case13 x b ih =>
  intro s g a w Q hc hs hok hQ;simp only[aO]at hok hQ;refine U5 (ih (hr.imp id λh=>by simp[C.fS]at h;exact h) hc hs hok λg' a' w' h1 h2=>?_)
  have:=hQ g' a' w' h1 h2;cases he:(aO rec m b s).1<;>rw[he]at this<;>exact this
 |case14 x b ds _ _ ih =>
  intro s g a w Q hc hs hok hQ;exact VU (λh1 h2=>ih (hr.imp id λh=>by simp[C.fS]at h;exact h) hc hs h1 h2) hok hQ
 |case15 x ds b _ _ ih =>
  intro s g a w Q hc hs hok hQ;exact VV hs (λh1 h2 h3=>ih (hr.imp id λh=>by simp[C.fS]at h;exact h) hc h1 h2 h3) hok hQ
 |case16 x ds b _ _ ih =>
  intro s g a w Q hc hs hok hQ;simp only[aO]at hok hQ;cases hp:canon m ds s.env s.heap with
  |none =>
   rw[hp]at hok;simp only at hok;have:=qP hok;simp at this
  |some p =>
   rw[hp]at hok hQ;simp only at hok hQ;obtain⟨g2,k1,k2⟩:=yU hs hp s.ok;exact ih (hr.imp id λh=>by simp[C.fS]at h;exact h) hc k1 hok λg' a' w' h1 h2=>hQ g' a' w' h1 (k2.trans h2)
 |case17 x d k b _ _ ih =>
  intro s g a w Q hc hs hok hQ;simp only[aO]at hok hQ;cases hp:ug s.heap k (s.get (.t d))with
  |none =>
   rw[hp]at hok;simp only at hok;have:=qP hok;simp at this
  |some p =>
   rw[hp]at hok hQ;simp only at hok hQ;obtain⟨g2,k1,k2⟩:=VF hs (hs.env d) hp;exact ih (hr.imp id λh=>by simp[C.fS]at h;exact h) hc k1 hok λg' a' w' h1 h2=>hQ g' a' w' h1 (k2.trans h2)
 |case18=>intro s g a w Q hc;simp at hc
end
end Go.VS
namespace Go.VS
section
variable {P:Program}{φ:bX}
variable {nt m dB:Nat}{s:St}{g:Gh}{a:Act}{w:World}
theorem VW{h:List O}{p:V}{v:Value}{n:Nat}{ag:Bool}{x:V}(hH:bT φ h g w)(rx:ah φ h g w p v)(hv:qL h n ag p=some x):
  ∃(b off:Nat)(vs:List Value)(v':Value),v = .pointer (some ⟨b,off,none⟩)/\(∀(j:Nat)(u:Value),vs[j]?=some u->w.cell? ⟨b,off+j,none⟩=some u) /\
   (if ag then n<=vs.length/\v' = .agg (vs.take n).toArray else vs.head?=some v')/\ah φ h g w x v':=by
 generalize hp:p=q at rx;unfold qL at hv;split at hv
 .rename_i cs
  subst hp;simp only[ah,aC]at rx;obtain⟨b,off,he,hI,hcs⟩:=rx;obtain⟨vs,hvs,eK,h1⟩:=yx hcs;obtain⟨v',h2,h3⟩:=Bq (h:=h) hvs h1 hv;exact⟨b,off,vs,v',he,eK,h2,h3⟩
 .rename_i cs
  subst hp;simp only[ah]at rx;obtain⟨b,off,us,he,hI,hcs,eK⟩:=rx;obtain⟨v',h2,h3⟩:=Br hcs (λv hv=>let ⟨j,hj,hh⟩:=jf hv;(eK j v (by simp[hj,hh])).2) hv
  exact⟨b,off,us,v',he,(λj u hj=>(eK j u hj).1),h2,h3⟩
 .rename_i k r c
  subst hp;simp only[ah]at rx;obtain⟨hlt,_,rx⟩:=rx;have bA:=hH.obj k;split at hv
  .rename_i es ex rows hk
   rw[hk]at bA rx;have he:=rx es rfl;cases hrow:rows[r]? with
   |none=>simp[hrow]at hv
   |some row =>
    simp[hrow]at hv;obtain⟨_,h2,_⟩:=bA;obtain⟨_,hcs⟩:=iV h2 hrow;obtain⟨vs,hvs,eK,h1⟩:=yx hcs;obtain⟨v',h2,h3⟩:=Bq (h:=h) (v9 hvs c) (λv hv=>h1 v (lD hv)) hv
    refine⟨_,_,_,v',he,(λj u hj=>?_),h2,h3⟩
    have:=eK (c+j) u (by simpa[jI]using hj)
    rwa [<-Nat.add_assoc]at this
  .rename_i es rows hk
   rw[hk]at bA rx;have he:=rx es rfl;cases hrow:rows[r]? with
   |none=>simp[hrow]at hv
   |some row =>
    simp[hrow]at hv;obtain⟨_,h2,_⟩:=bA;obtain⟨vs,hvs,eK,h1⟩:=JS h2 hrow;obtain⟨v',h2,h3⟩:=Br (Bi hvs c) (λv hv=>h1 v (lD hv)) hv
    refine⟨_,_,_,v',he,(λj u hj=>?_),h2,h3⟩
    have:=eK (c+j) u (by simpa[jI]using hj)
    rwa [<-Nat.add_assoc]at this
  .simp at hv
 .simp at hv
theorem VX{t:TypeId}{n:Nat}{ag:Bool}(iG:sD P t ag=true)(hn:gN P t n=true){b off:Nat}{vs:List Value}
  (hc:∀(j:Nat)(v:Value),vs[j]?=some v->w.cell? ⟨b,off+j,none⟩=some v){v':Value}
  (hv:if ag then n<=vs.length/\v' = .agg (vs.take n).toArray else vs.head?=some v'):
  (loadVar t ⟨b,off,none⟩).run P w = .ok v' w:=by
 have h1:=EY (P:=P) (w:=w) iG;have h2:=qY (P:=P) (w:=w) hn;cases ag
 .simp only[eD,cB]at hv
  have:=hc 0 v' (by simpa[IV]using hv)
  simp only[x8]at this;simp[loadVar,h1,this]
 .simp only[aU]at hv
  have hl:=run_loadCells_list (P:=P) w ⟨b,off,none⟩ (vs.take n) (λj v hj=>by
   rw[kQ];exact hc j v (by rw[tM]at hj;split at hj<;>simp_all))
  have hlen:(vs.take n).length=n:=by simp;omega
  rw[hlen]at hl;simp[loadVar,h1,h2,hl,hv.2]
def nW(P:Program):List ResultVar->List RV->Bool
 | [],[]=>true
 | .tmp t::r,.t n::r'=>t==n&&nW P r r'
 | .cell t ty::r,.c n k ag::r'=>t==n&&sD P ty ag&&gN P ty k&&nW P r r'
 |_,_=>false
def vA(tmps:Array Value):ResultVar->Sem Value
 | .tmp t=>pure (tmps.getD t undef)
 | .cell a t=>do loadVar t (<-asAddr (tmps.getD a undef))
theorem D1(hs:aI φ nt m dB s g a w):∀{rs:List ResultVar}{rv:List RV}{vs:List V},nW P rs rv=true->qN s rv=some vs ->
  ∃us:List Value,(rs.mapM (vA a.tmps)).run P w = .ok us w/\aB φ s.heap g w vs us
 | [],[],vs,_,hv=>by
  simp[qN]at hv;subst hv;exact⟨[],by simp,by simp[aB]⟩
 | .tmp t::r,.t n::r',vs,hc,hv=>by
  simp only[nW,aA,bN]at hc;obtain⟨rfl,hc⟩:=hc;simp only[qN,yj,eG,cX]at hv;obtain⟨ws,IF,rfl⟩:=hv;obtain⟨us,h1,h2⟩:=D1 hs hc IF;exact⟨a.tmps.getD t undef::us,by simp[vA,h1],by simp only[aB];exact⟨hs.env t,h2⟩⟩
 | .cell t ty::r,.c n k ag::r',vs,hc,hv=>by
  simp only[nW,aA,bN]at hc;obtain⟨⟨⟨rfl,iG⟩,hn⟩,hc⟩:=hc;simp only[qN,yj,ij,cX]at hv;obtain⟨x,hx,ws,IF,rfl⟩:=hv;obtain⟨us,h1,h2⟩:=D1 hs hc IF;obtain⟨b,off,zs,v',he,eK,jt,cM⟩:=VW hs.heap (hs.env t) hx;have hl:=VX (P:=P) (w:=w) iG hn eK jt;exact⟨v'::us,by simp[vA,he,asAddr,hl,h1],by simp only[aB];exact⟨cM,h2⟩⟩
 | [],_::_,_,hc,_=>by simp[nW]at hc
 | .tmp _::_,[],_,hc,_=>by simp[nW]at hc
 | .cell _ _::_,[],_,hc,_=>by simp[nW]at hc
 | .tmp _::_,.c _ _ _::_,_,hc,_=>by simp[nW]at hc
 | .cell _ _::_,.t _::_,_,hc,_=>by simp[nW]at hc
end
end Go.VS
namespace Go.VS
section
variable {P:Program}{φ:bX}
variable {nt m dB:Nat}{s:St}{g:Gh}{a:Act}{w:World}
theorem results_eq(fn:Func)(tmps:Array Value):results fn tmps=(do
  let vs <-fn.results.mapM (vA tmps)
  pure (if h:vs.size=1 then vs[0]else .tuple vs)):=rfl
def D2:List Value->Value
 | [v]=>v
 |us=>.tuple us.toArray
theorem ND{fn:Func}{tmps:Array Value}{us:List Value}(h:(fn.results.toList.mapM (vA tmps)).run P w = .ok us w):
  (results fn tmps).run P w = .ok (D2 us) w:=by
 rw[results_eq];have he:fn.results.mapM (vA tmps)=Functor.map List.toArray (fn.results.toList.mapM (vA tmps)):=by
  conv=>lhs;rw[<-Array.toArray_toList (xs:=fn.results)]
  rw[List.mapM_toArray]
 rw[he];simp only[map_eq_pure_bind,bind_assoc,pure_bind,Sem.run_bind,h,Result.andThen_ok,Sem.run_pure]
 match us with
 | []=>rfl
 | [v]=>rfl
 |v::u::r=>simp[D2]
theorem least{J:Nat->Prop}(h:∃k,J k):∃k,J k/\∀j,j<k->¬J j:=by
 obtain⟨k,hk⟩:=h;induction k using Nat.strongRecOn with
 |_ k ih =>
  by_cases hx:∃j,j<k/\J j
  .obtain⟨j,h1,h2⟩:=hx;exact ih j h1 h2
  .exact⟨k,hk,λj hj hJ=>hx ⟨j,hj,hJ⟩⟩
open Classical in
noncomputable def tG (J:Nat->Prop):Nat:=if h:∃k,J k then Classical.choose (least h)else 0
theorem D3{J:Nat->Prop}(h:∃k,J k):J (tG J)/\∀j,J j->tG J<=j:=by
 have hc:=tJ (least h);have he:tG J=Classical.choose (least h):=by simp[tG,h]
 rw[he];exact⟨hc.1,λj hj=>Nat.le_of_not_lt λhlt=>hc.2 j hlt hj⟩
theorem VY(hm:P.follows .mixedOrders=true)(hk:oY P φ){Pv:Prog}{n:Nat}(ih:∀k,k<n->gW P φ (iter Pv k)/\vw P φ (iter Pv k)/\m7 P φ (iter Pv k)):vw P φ (iter Pv n):=by
 refine⟨?_,?_⟩
 .intro nt m dB live x c env h e env' h' hc dH fuel r tD g a w Q hs hQ
  let J:Act->World->Nat->Prop:=λa' w' k=>k<=n/\∃qz h1 g1,iter Pv k (.loop m live c qz h1)=some (.out e env' h')/\aI φ nt m dB ⟨qz,h1,true⟩ g1 a' w'/\Frame m h g w h1 g1 w'
  refine wpIn_loop (λa' w'=>∃k,J a' w' k) (λa' w'=>tG (J a' w')) ⟨n,bZ _,env,h,g,dH,hs,Frame.refl _ _ _ _⟩ λa' w' hI=>?_
  obtain⟨hJ,hmin⟩:=D3 hI;generalize tG (J a' w')=k at *;obtain⟨hkn,qz,h1,g1,hr,oG,mN⟩:=hJ;cases k with
  |zero=>simp[iter]at hr
  |succ k =>
   obtain⟨hq,hl,hy⟩:=ih k (by omega)
   simp only[iter,fY]at hr;cases he:aO (iter Pv k) m c ⟨qz,h1,true⟩with
   |mk ex s' =>
    rw[he]at hr;have hok:s'.ok=true:=by
     cases hs':s'.ok with
     |true=>rfl
     |false=>cases ex<;>simp[hs']at hr
    refine xV hm hk hq hl hy x c tD hc oG (by rw[he];exact hok) λg2 a2 w2 k1 k2=>?_
    rw[he]at k1 k2⊢;cases ex with
    |normal =>
     simp only[hok,aU,ij]at hr;obtain⟨p,hp,hr⟩:=hr;obtain⟨g3,k3,k4⟩:=yU k1 hp true;have vB:J a2 w2 k:=⟨by omega,p.1,p.2,g3,hr,k3,mN.trans (k2.trans k4)⟩
     refine⟨⟨k,vB⟩,?_⟩;have:=(D3 ⟨k,vB⟩).2 k vB;omega
    |exit id =>
     simp only[hok,aU,bF,dA.out.injEq]at hr;obtain⟨rfl,rfl,rfl⟩:=hr;exact hQ g2 a2 w2 ⟨k1.env,k1.heap,k1.size,k1.defers,k1.len⟩ (mN.trans k2)
    |ret =>
     simp only[hok,aU,bF,dA.out.injEq]at hr;obtain⟨rfl,rfl,rfl⟩:=hr;exact hQ g2 a2 w2 ⟨k1.env,k1.heap,k1.size,k1.defers,k1.len⟩ (mN.trans k2)
 .intro nt m dB live d d2 it id ops x c env h e env' h' Av hc dH fuel r tD g a w Q hs hQ
  let J:Act->World->Nat->Prop:=λa' w' k=>k<=n/\∃qz h1 g1,iter Pv k (.lP m live d d2 it c qz h1)=some (.out e env' h')/\aI φ nt m dB ⟨qz,h1,true⟩ g1 a' w'/\Frame m h g w h1 g1 w'
  refine wpIn_loop (λa' w'=>∃k,J a' w' k) (λa' w'=>tG (J a' w')) ⟨n,bZ _,env,h,g,dH,hs,Frame.refl _ _ _ _⟩ λa' w' hI=>?_
  obtain⟨hJ,hmin⟩:=D3 hI;generalize tG (J a' w')=k at *;obtain⟨hkn,qz,h1,g1,hr,oG,mN⟩:=hJ;cases k with
  |zero=>simp[iter]at hr
  |succ k =>
   obtain⟨hq,hl,hy⟩:=ih k (by omega)
   simp only[iter,fY]at hr;cases hpk:sn h1 (aK qz it)with
   |none=>rw[hpk]at hr;simp at hr
   |some L =>
    rw[hpk]at hr;simp only[eG]at hr;obtain⟨_,hall⟩:=Bd.1 hr;refine wpIn_seq (VA oG Av rfl hpk λp hp g0 a0 w0 j1 j2=>?_)
    have hr:=hall _ (dz.2 ⟨p,hp,rfl⟩);unfold og at hr;cases he:aO (iter Pv k) m c ⟨(d2,.d (.b p.1))::(d,.u)::qz,p.2,true⟩with
    |mk ex s' =>
     rw[he]at hr;have hok:s'.ok=true:=by
      cases hs':s'.ok with
      |true=>rfl
      |false=>cases ex<;>simp[hs']at hr
     refine xV hm hk hq hl hy x c tD hc j1 (by rw[he];exact hok) λg2 a2 w2 k1 k2=>?_
     rw[he]at k1 k2⊢;cases ex with
     |normal =>
      simp only[hok,aU,ij]at hr;obtain⟨p,hp,hr⟩:=hr;obtain⟨g3,k3,k4⟩:=yU k1 hp true;have vB:J a2 w2 k:=⟨by omega,p.1,p.2,g3,hr,k3,mN.trans (j2.trans (k2.trans k4))⟩
      refine⟨⟨k,vB⟩,?_⟩;have:=(D3 ⟨k,vB⟩).2 k vB;omega
     |exit id =>
      simp only[hok,aU,bF,dA.out.injEq]at hr;obtain⟨rfl,rfl,rfl⟩:=hr;exact hQ g2 a2 w2 ⟨k1.env,k1.heap,k1.size,k1.defers,k1.len⟩ (mN.trans (j2.trans k2))
     |ret =>
      simp only[hok,aU,bF,dA.out.injEq]at hr;obtain⟨rfl,rfl,rfl⟩:=hr;exact hQ g2 a2 w2 ⟨k1.env,k1.heap,k1.size,k1.defers,k1.len⟩ (mN.trans (j2.trans k2))
def D4(P:Program)(φ:bX)(f:Nat)(F:F):Prop :=
 ∃ fn c, P.funcs[φ f]? = some fn ∧ (fn.name == "runtime.NumGoroutine") = false ∧ fn.body = some c ∧ ia P φ fn.ntmps c F.code = true ∧ nW P fn.results.toList F.res = true
def NF(P:Program)(φ:bX)(f:Nat)(p:List V->List O->Option (V×List O)):Prop :=
 ∀(xs:List V)(h:List O)(v:V)(h1:List O),p xs h=some (v,h1) ->
  (∃ fn, P.funcs[φ f]? = some fn ∧ (fn.name == "runtime.NumGoroutine") = false ∧ fn.body.isNone = false) ∧
  ∀(g:Gh)(w:World)(args:Array Value),bT φ h g w->aB φ h g w xs args.toList ->
   Calls P (φ f) args w λe w'=>∃v' g',e = .returned v'/\bT φ h1 g' w'/\ah φ h1 g' w' v v'/\Frame h.length h g w h1 g' w'
def xW(P:Program)(φ:bX)(f:Nat)(F:F):Prop:=(F.sk=none/\D4 P φ f F)\/∃p,F.sk=some p/\NF P φ f p
theorem NG:∀{xs:List V}{k t:Nat},aK (jm k xs) t=if k<=t then(xs[t - k]?).getD .u else .u
 | [],k,t=>by simp[jm,aK]
 |x::xs,k,t=>by
  simp only[jm,aK,NG (xs:=xs)];by_cases h:k=t
  .subst h;simp
  .rw[aF h]
   by_cases h2:k<=t
   .have h3:k+1<=t:=by omega
    rw[aN h2,aN h3]
    have:t - k=(t - (k+1))+1:=by omega
    rw[this,List.getElem?_cons_succ]
   .rw[aF h2,aF (by omega)]
theorem NH{h:List O}{xs:List V}{args:Array Value}(VZ:dB<=w.heap.size)(hH:bT φ h g w)(hr:aB φ h g w xs args.toList)(nt:Nat):
  aI φ nt h.length dB ⟨jm 0 xs,h,true⟩ g {tmps:=args++Array.replicate (nt - args.size) undef,defers:=[]} w where
 env k:=by
  rw[NG];simp only[tK,aU,Nat.sub_zero];cases hx:xs[k]? with
  |none=>simp[ah]
  |some x =>
   obtain⟨v,hv,cM⟩:=uq hr hx;have hk:k<args.size:=by
    rcases eH k args.size with h1 |h1
    .exact h1
    .simp[AH h1]at hv
   have:(args++Array.replicate (nt - args.size) undef).getD k undef=v:=by
    rw[r7,Array.getElem?_append_left hk];simp at hv;simp[hv]
   rw[this];exact cM
 heap:=hH
 size:=by simp;omega
 defers:=gU.nil VZ
 len:=bZ _
theorem NI{h:List O}{zs:List V}{us:List Value}(hr:aB φ h g w zs us):ah φ h g w (tuple zs) (D2 us):=by
 match zs,us,hr with
 | [],[],_=>simp only[tuple,ah];exact⟨#[],rfl,by simp[aB]⟩
 | [z],[u],hr=>simp only[aB]at hr;exact hr.1
 |z::z'::zs,u::u'::us,hr=>simp only[tuple,ah];exact⟨(u::u'::us).toArray,rfl,by simpa using hr⟩
 | [],_::_,hr=>simp[aB]at hr
 |_::_,[],hr=>simp[aB]at hr
 | [_],_::_::_,hr=>simp[aB]at hr
 |_::_::_,[_],hr=>simp[aB]at hr
theorem NJ{fn:Func}{tmps:Array Value}{R:Ending->World->Prop}{h:List O}{fuel:Nat}(Inv:World->Prop)
  (hstep:∀w D,Inv w->dB<=D->w.heap[D]?=some (.deferred (some []))->(∀k,(af h k).live=true->g.β k≠D)->Inv (w.putObj D (.deferred none)))
  (hend:∀w,Inv w->LeavesIn (Wd none) fuel P fn tmps R [] .returning w):∀(ds:List Deferred){w:World},Inv w->gU dB h g ds w->LeavesInM (Wd none) fuel P fn tmps R ds .returning w
 | [],w,hI,_=>hend w hI
 |d::ds,w,hI,hd=>by
  obtain⟨D,rfl,h2,h3,h4⟩:=hd.at_ d (by simp)
  refine⟨by simp,.inl ⟨D,_,rfl,run_takeDeferred h3,NJ Inv hstep hend ds (hstep w D hI h2 h3 h4) ⟨λd' hd'=>?_,?_,by simpa using hd.le⟩⟩⟩
  .obtain⟨E,e1,e2,e3,e4⟩:=hd.at_ d' (by simp[hd'])
   refine⟨E,e1,e2,?_,e4⟩;rw[World.putObj_heap_other]
   .exact e3
   .intro he
    subst he;have:=hd.nodup;simp only[cy]at this;rw[e1]at hd';exact this.1 hd'
  .have:=hd.nodup
   simp only[cy]at this;exact this.2
theorem NL{fn:Func}{R:Ending->World->Prop}{h:List O}{g':Gh}{a':Act}{w':World}(hH:bT φ h g w)(hs':aI φ nt m w.heap.size s g' a' w')(hf':Frame m h g w s.heap g' w')
  (hpost:∀w1,aI φ nt m w.heap.size s g' {tmps:=a'.tmps,defers:=[]} w1->Frame m h g w s.heap g' w1->∃v',(results fn a'.tmps).run P w1 = .ok v' w1/\R (.returned v') w1):
  LeavesInM (Wd none) 0 P fn a'.tmps R a'.defers .returning w':=by
 refine NJ (h:=s.heap) (g:=g') (dB:=w.heap.size) (λw'=>aI φ nt m w.heap.size s g' {tmps:=a'.tmps,defers:=[]} w'/\Frame m h g w s.heap g' w') (λw1 D hI hD h3 h4=>?_) (λw1 hI=>?_) a'.defers
  ⟨⟨hs'.env,hs'.heap,hs'.size,gU.nil hs'.defers.le,hs'.len⟩,hf'⟩ hs'.defers
 .obtain⟨hS,V0⟩:=hI
  have hle:=Ie (y:=.deferred none) h3 rfl rfl h4;exact⟨⟨λk=>fF hle (hS.env k),Ig hS.heap h3 rfl rfl h4,hS.size,gU.nil (by simpa using hS.defers.le),hS.len⟩,MP V0 hH hD h3 rfl rfl⟩
 .obtain⟨v',hr,hR⟩:=hpost w1 hI.1 hI.2
  exact⟨v',hr,hR⟩
theorem V1(hm:P.follows .mixedOrders=true)(hk:oY P φ){Pv:Prog}(hF:∀f F,Pv f=some F->xW P φ f F){n:Nat}(ih:gW P φ (iter Pv n)/\vw P φ (iter Pv n)/\m7 P φ (iter Pv n)):gW P φ (iter Pv (n+1)):=by
 intro f xs h v h1 dH;simp only[iter,fY]at dH;cases hfn:Pv f with
 |none=>rw[hfn]at dH;simp at dH
 |some F =>
  rw[hfn]at dH;rcases hF f F hfn with⟨V2,fn,c,k1,k2,k3,k4,k5⟩ |⟨p,hp,hok⟩
  rotate_left
  .simp only at dH
   simp only[hp,cX,dA.val.injEq]at dH;obtain⟨⟨v',h'⟩,hr,rfl,rfl⟩:=dH;exact hok xs h v' h' hr
  simp only[V2]at dH;refine⟨⟨fn,k1,k2,by simp[k3]⟩,λg w args hH hargs=>?_⟩
  cases he:aO (iter Pv n) h.length F.code ⟨jm 0 xs,h,true⟩with
  |mk e s =>
   rw[he]at dH;have jV:finish F.res F.keep h.length s=some (.val v h1)/\(e = .normal\/e = .ret):=by
    cases e with
    |normal=>exact⟨dH,.inl rfl⟩
    |ret=>exact⟨dH,.inr rfl⟩
    |exit id=>simp at dH
   obtain⟨jV,hee⟩:=jV;have hok:=EC jV;refine(callsIn_wide (n:=0)).1 (callsIn_of_wp_marks (F:=Wd none) k1 k3 trivial (xV hm hk ih.1 ih.2.1 ih.2.2 c F.code (.inl rfl) k4 (NH (bZ _) hH hargs fn.ntmps) (by rw[he];exact hok) λg' a' w' hs' hf'=>?_))
   rw[he]at hs' hf'⊢;have hpost:∀w',aI φ fn.ntmps h.length w.heap.size s g' {tmps:=a'.tmps,defers:=[]} w'->Frame h.length h g w s.heap g' w'->∃v',(results fn a'.tmps).run P w' = .ok v' w'/\∃v'' g'',Ending.returned v' = .returned v''/\bT φ h1 g'' w'/\ah φ h1 g'' w' v v''/\Frame h.length h g w h1 g'' w':=by
    intro w' hs' hf';simp only[finish,hok,aU,ij,cX]at jV;obtain⟨vs',⟨vs,hvs,rfl⟩,jV⟩:=jV;obtain⟨us,wy,cM⟩:=D1 hs' k5 hvs;have cM:=OI cM;refine⟨_,ND wy,D2 us,?_⟩;split at jV
    .rename_i hm0
     simp only[cX,dA.val.injEq]at jV;obtain⟨zs,hzs,rfl,rfl⟩:=jV;obtain⟨I',k1,k2,k3⟩:=Dx hs' hzs cM true;have hh:h=[]:=AT hm0.1;subst hh;have hfr:=hf'.trans k2;obtain⟨q1,q2⟩:=Bz hfr;refine⟨⟨λ_=>0,λ_=>0,I'⟩,rfl,By k1.heap.new,?_,?_⟩
     .exact NI (sH k3)
     .exact⟨hfr.ext,hfr.size,hfr.os,hfr.tape,hfr.output,λn hn=>by simp at hn,hfr.keep,λn hn=>by simp[af,O.live]at hn,λn hn=>by simp at hn⟩
    .simp only[cX,dA.val.injEq]at jV
     obtain⟨L,hL,rfl,rfl⟩:=jV;have IG:=wJ hL hs'.heap;obtain⟨_,p6,_⟩:=uM hL;have FF:=pZ (L:=L) p6 cM;exact⟨dP g' L,rfl,IG,NI FF,hf'.trans (BQ hL)⟩
   have NM:LeavesInM (Wd none) 0 P fn a'.tmps (λe w'=>∃v' g',e = .returned v'/\bT φ h1 g' w'/\ah φ h1 g' w' v v'/\Frame h.length h g w h1 g' w') a'.defers .returning w':=by
    exact NL hH hs' hf' λw1 h1 h2=>let ⟨v',hr,hR⟩:=hpost w1 h1 h2;⟨v',hr,hR⟩
   rcases hee with rfl |rfl
   .exact NM
   .exact NM
theorem NN:∀(l:List (Tmp×Value))(t:Array Value),(l.foldl (λtmps (t,a)=>tmps.setIfInBounds t a) t).size=t.size
 | [],_=>rfl
 |p::l,t=>by rw[AL,NN l];simp
theorem NO{k:Nat}:∀(l:List (Tmp×Value))(t:Array Value),(∀p∈l,p.1≠k)->(l.foldl (λtmps (t,a)=>tmps.setIfInBounds t a) t).getD k undef=t.getD k undef
 | [],_,_=>rfl
 |p::l,t,h=>by
  rw[AL,NO l _ (λq hq=>h q (by simp[hq]))]
  have:=h p (by simp)
  simp[r7,vE this]
theorem D5{h:List O}{qw:Nat}{rc:List (Nat×V)}:∀(ps:List Nat)(xs:List V)(args:List Value)(t:Array Value),ps.Nodup->(∀p∈ps,p<t.size)->aB φ h g w xs args ->
  (∀k,ah φ h g w (aK rc k) (t.getD k undef))->∀k,ah φ h g w (aK (ps.zip xs++rc) k) (((ps.zip args).foldl (λtmps (t,a)=>tmps.setIfInBounds t a) t).getD k undef)
 | [],_,_,_,_,_,_,hr,k=>by simpa using hr k
 |p::ps,[],[],_,_,_,_,hr,k=>by simpa using hr k
 |p::ps,x::xs,v::vs,t,hnd,hlt,hx,hr,k=>by
  simp only[aB]at hx;simp only[cy]at hnd;simp only[AO,qJ,aK,AL];by_cases hk:p=k
  .subst hk
   rw[aN rfl,NO _ _ (λq hq he=>hnd.1 (by obtain⟨q1,q2⟩:=q;have:=(List.of_mem_zip hq).1;simp only at he;rwa [he]at this))]
   have:=hlt p (by simp)
   simpa[r7,this]using hx.1
  .rw[aF hk]
   have ih:=D5 (qw:=qw) (rc:=rc) ps xs vs (t.setIfInBounds p v) hnd.2 (λq hq=>by simpa using hlt q (by simp[hq])) hx.2
   by_cases Zq:k∈ps
   ·
    have ih2:=D5 (qw:=qw) (rc:=(p,.u)::rc) ps xs vs (t.setIfInBounds p v) hnd.2 (λq hq=>by simpa using hlt q (by simp[hq])) hx.2 (λj=>by
     simp only[aK];by_cases hj:p=j
     .rw[aN hj];simp[ah]
     .rw[aF hj];simpa[r7,vE hj]using hr j) k
    have he:∀(ps:List Nat)(xs:List V),aK (ps.zip xs++(p,V.u)::rc) k=aK (ps.zip xs++rc) k:=by
     intro ps;induction ps with
     |nil=>intro xs;simp[aK,hk]
     |cons q qs II =>
      intro xs;cases xs with
      |nil=>simp[aK,hk]
      |cons z zs=>simp only[AO,qJ,aK,II]
    rw[he]at ih2;exact ih2
   .have ih2:=D5 (qw:=qw) (rc:=(p,.u)::rc) ps xs vs (t.setIfInBounds p v) hnd.2 (λq hq=>by simpa using hlt q (by simp[hq])) hx.2 (λj=>by
     simp only[aK];by_cases hj:p=j
     .rw[aN hj];simp[ah]
     .rw[aF hj];simpa[r7,vE hj]using hr j) k
    have he:∀(ps:List Nat)(xs:List V),aK (ps.zip xs++(p,V.u)::rc) k=aK (ps.zip xs++rc) k:=by
     intro ps;induction ps with
     |nil=>intro xs;simp[aK,hk]
     |cons q qs II =>
      intro xs;cases xs with
      |nil=>simp[aK,hk]
      |cons z zs=>simp only[AO,qJ,aK,II]
    rw[he]at ih2;exact ih2
 |_::_,[],_::_,_,_,_,hx,_,_=>by simp[aB]at hx
 |_::_,_::_,[],_,_,_,hx,_,_=>by simp[aB]at hx
theorem NP{k:Nat}:∀{env:List (Nat×V)},aK env k = .u\/∃p∈env,p.1=k/\aK env k=p.2
 | []=>.inl rfl
 |p::env=>by
  simp only[aK];by_cases hk:p.1=k
  .rw[aN hk];exact .inr ⟨p,by simp,hk,rfl⟩
  .rw[aF hk]
   rcases NP (env:=env) (k:=k)with h |⟨q,hq,h1,h2⟩
   .exact .inl h
   .exact .inr ⟨q,by simp[hq],h1,h2⟩
theorem IJ{h h':List O}{g':Gh}{w':World}{l:Nat}(hf:Frame m h g w h' g' w')(hl:l<w.heap.size)(hu:∀k,(af h k).live=true->g.β k≠l):∀k,(af h' k).live=true->g'.β k≠l:=by
 intro k hk he;rcases hf.gT k hk with⟨j,hj,hb⟩ |hs
 .exact hu j hj (hb.trans he)
 .omega
theorem V3(hm:P.follows .mixedOrders=true)(hk:oY P φ){Pv:Prog}{n:Nat}(ih:gW P φ (iter Pv n)/\vw P φ (iter Pv n)/\m7 P φ (iter Pv n)):m7 P φ (iter Pv (n+1)):=by
 intro ps A B xs env h e env' h1 dH fuel r g w l rc nt args hlk hnt hps hH hxs DD hlen hl hst hun;simp only[iter,fY]at dH;cases hA:aO (iter Pv n) h.length A ⟨ps.zip xs++env,h,true⟩with
 |mk eA s1 =>
 rw[hA]at dH;cases eA<;>simp only at dH<;>try (simp at dH;done)
 cases hB:aO (iter Pv n) h.length B s1 with
 |mk eB s2 =>
 rw[hB]at dH;simp only at dH;split at dH
 rotate_left
 .simp at dH
 rename_i sr;simp only[cX,dA.out.injEq]at dH;obtain⟨L,hL,rfl,_,rfl⟩:=dH;have HU:s1.ok=true:=qP (rec:=iter Pv n) (m:=h.length) (c:=B) (by rw[hB];exact sr)
 have hlt:=sE hl;have NQ:=(hk ps A B rc.assign rc.body nt).1 hlk;simp only[DY,aA,fu,jG]at NQ;obtain⟨⟨⟨⟨⟨q1,q2⟩,q3⟩,q4⟩,q5⟩,q6⟩:=NQ;have V4:rc.params.zip args.toArray=(ps.zip args).toArray:=by rw[hps];simp
 rw[V4];simp only[List.foldl_toArray'];have hs0:aI φ nt h.length 0 ⟨ps.zip xs++env,h,true⟩ g {tmps:=(ps.zip args).foldl (λtmps (t,a)=>tmps.setIfInBounds t a) rc.tmps,defers:=[]} w:=by
  refine⟨D5 (qw:=nt) ps xs args rc.tmps q1 (λp hp=>je (q2 p hp) hnt) hxs (λk=>?_),hH,by rw[NN];exact hnt,gU.nil (tK _),bZ _⟩
  rcases NP (env:=env) (k:=k)with h0 |⟨p,hp,rfl,h2⟩
  .rw[h0];simp[ah]
  .rw[h2];exact DD p hp
 refine roundIn_of_wpIn trivial ?_;refine xV (r:=some l) hm hk ih.1 ih.2.1 ih.2.2 rc.assign A (.inr q3) q5 hs0 (by rw[hA];exact HU) λg1 a1 w1 oD iX=>?_
 rw[hA]at oD iX⊢;have D6:=IJ iX hlt hun;have gV:w1.heap[l]?=some (.loop rc):=by rw[(iX.keep l hlt hun).1];exact hl
 show ∃w₂,(Instr.beginRound l).run P w1 = .ok () w₂/\_
 refine⟨_,run_beginRound gV hst,?_⟩;have yR:=oD.putObj (y:=.loop {rc with state:=.busy}) gV rfl (by simp) rfl D6
 refine xV (r:=some l) hm hk ih.1 ih.2.1 ih.2.2 rc.body B (.inr q4) q6 yR (by rw[hB];exact sr) λg2 a2 w2 DZ xU=>?_
 rw[hB]at DZ xU⊢;have D7:l<(w1.putObj l (.loop {rc with state:=.busy})).heap.size:=by have:=iX.size;simp;omega
 have NR:=IJ xU D7 D6;have fM:w2.heap[l]?=some (.loop {rc with state:=.busy}):=by rw[(xU.keep l D7 D6).1];exact World.putObj_heap_same (by simpa using D7)
 have IG:=wJ hL DZ.heap;have D0:=BQ hL (g:=g2) (w:=w2);have V5:=IJ D0 (by have:=sE fM;omega) NR
 have fin:∃v w',(Instr.endRound l (ou eB)).run P w2 = .ok v w'/\∃g',Ending.returned v = .returned (.bool (ou eB).isNone)/\bT φ (sub s2.heap L) g' w'/\Frame h.length h g (w.putObj l (.loop (m6 rc eB))) (sub s2.heap L) g' w':=by
  refine⟨_,_,run_endRound (ou eB) fM,dP g2 L,rfl,?_,?_⟩
  .exact Ig IG fM rfl rfl V5
  .have hfr:(.loop {({rc with state:=.busy}:Loop)with state:=if(ou eB).isNone then .ready else .done,pending:=ou eB}:Obj) = .loop (m6 rc eB):=by
    cases eB<;>simp[m6,ou]
   rw[hfr];have f1:=Ih (y:=.loop (m6 rc eB)) iX hl rfl hun;have f2:=Ih (y:=.loop (m6 rc eB)) xU (World.putObj_heap_same (by simpa using D7)) rfl D6
   have f3:=Ih (y:=.loop (m6 rc eB)) D0 fM rfl NR;rw[U6]at f2;exact(f1.trans f2).trans f3
 cases eB with
 |normal=>exact fin
 |exit id=>exact fin
 |ret=>exact fin
theorem Az(hm:P.follows .mixedOrders=true)(hk:oY P φ){Pv:Prog}(hF:∀f F,Pv f=some F->xW P φ f F)(n:Nat):gW P φ (iter Pv n)/\vw P φ (iter Pv n)/\m7 P φ (iter Pv n):=by
 induction n using Nat.strongRecOn with
 |_ n ih =>
  refine⟨?_,VY hm hk ih,?_⟩
  .cases n with
   |zero=>intro f xs hp v h1 h;simp[iter]at h
   |succ n=>exact V1 hm hk hF (ih n (by omega))
  .cases n with
   |zero=>intro ps A B xs env h e env' h1 h;simp[iter]at h
   |succ n=>exact V3 hm hk (ih n (by omega))
theorem V6(hm:P.follows .mixedOrders=true)(hk:oY P φ){Pv:Prog}(hF:∀f F,Pv f=some F->xW P φ f F):gW P φ (ev Pv)/\vw P φ (ev Pv)/\m7 P φ (ev Pv):=
 ⟨λf xs h v h1 he=>let ⟨n,hn⟩:=uh.1 he;(Az hm hk hF n).1 f xs h v h1 hn,
  ⟨λnt m dB live x c env h e env' h' hc he=>let ⟨n,hn⟩:=uh.1 he;(Az hm hk hF n).2.1.1 nt m dB live x c env h e env' h' hc hn,
  λnt m dB live d d2 it id ops x c env h e env' h' hx hc he=>let ⟨n,hn⟩:=uh.1 he;(Az hm hk hF n).2.1.2 nt m dB live d d2 it id ops x c env h e env' h' hx hc hn⟩,
  λps A B xs env h e env' h1 he=>let ⟨n,hn⟩:=uh.1 he;(Az hm hk hF n).2.2 ps A B xs env h e env' h1 hn⟩
theorem V7(hm:P.follows .mixedOrders=true)(hk:oY P φ){Pv:Prog}(hF:∀f F,Pv f=some F->xW P φ f F){f:Nat}{ds:List D}{v:V}(h:ev Pv (.call f (ds.map V.d) [])=some (.val v []))
  {I:Nat->Nat}{args:Array Value}(hI:∀b,w.heap.size<=b->I b=0)(hr:aM φ I w ds args.toList):
  Calls P (φ f) args w λe w'=>∃v' I',e = .returned v'/\cU w w'/\(∀b,b<w.heap.size->I' b=I b)/\(∀b,w'.heap.size<=b->I' b=0)/\∀g:Gh,g.I=I'->ah φ [] g w' v v':=by
 obtain⟨n,hn⟩:=uh.1 h;refine Calls.mono (((Az hm hk hF n).1 f _ [] v [] hn).2 ⟨λ_=>0,λ_=>0,I⟩ w args (By hI) (sv hr)) λe w' hh=>?_
 obtain⟨v',g',rfl,hH,cM,hfr⟩:=hh;obtain⟨q1,q2⟩:=Bz hfr;exact⟨v',g'.I,rfl,q1,q2,hH.new,λgg hg=>Kb hg cM⟩
end
end Go.VS
namespace Go.VS
open Go.ChangeShapes Go.WideShapes Go.ChangeAt Go.RowKit
inductive Ty where
 |b
 |i(k:IntKind)
 |s
 |sl(es:Nat)(e:Ty)
 |st(fs:List Ty)
mutual
def Ty.size:Ty->Nat
 | .st fs=>Ty.sizes fs
 |_=>1
def Ty.sizes:List Ty->Nat
 | []=>0
 |t::ts=>t.size+Ty.sizes ts
end
def NS(k:IntKind)(n:Int):Prop:=k.min<=n/\n<=k.max
mutual
def WT:Ty->List D->Prop
 | .b,cs=>∃x,cs=[.b x]
 | .i k,cs=>∃n,cs=[.i k n]/\NS k n
 | .s,cs=>∃x,cs=[.s x]/\x.length<=maxLen
 | .sl es e,cs=>∃nl rows,cs=[.sl es nl rows]/\(nl=true->rows=[])/\rows.length<=maxLen/\∀r∈rows,WT e r
 | .st fs,cs=>nX fs cs
def nX:List Ty->List D->Prop
 | [],cs=>cs=[]
 |t::ts,cs=>∃a b,cs=a++b/\WT t a/\nX ts b
end
def WV:Ty->D->Prop
 | .st fs,x=>∃cs,x = .ag cs/\nX fs cs
 |t,x=>WT t [x]
def vC:List Ty->List D->Prop
 | [],xs=>xs=[]
 |t::ts,xs=>∃x r,xs=x::r/\WV t x/\vC ts r
section
variable (P:Program)
mutual
def lz:Ty->TypeId->Bool
 | .b,t=>match P.underlying t with |some .bool=>true |_=>false
 | .i k,t=>match P.underlying t with |some (.int k')=>k==k' |_=>false
 | .s,t=>match P.underlying t with |some .string=>true |_=>false
 | .sl es e,t=>match P.underlying t with |some (.slice u)=>P.cellsOf u==es&&decide (0<es)&&e.size==es&&lz e u |_=>false
 | .st fs,t=>match P.underlying t with |some (.struct gs)=>P.cellsOf t==Ty.sizes fs&&AA fs gs.toList 0 |_=>false
def AA:List Ty->List Field->Nat->Bool
 | [],[],_=>true
 |t::ts,g::gs,o=>g.offset==o&&P.cellsOf g.type==t.size&&lz t g.type&&AA ts gs (o+t.size)
 |_,_,_=>false
end
end
mutual
theorem NT:∀{t:Ty}{cs:List D},WT t cs->cs.length=t.size
 | .b,cs,h=>by simp only[WT]at h;obtain⟨x,rfl⟩:=h;rfl
 | .i k,cs,h=>by simp only[WT]at h;obtain⟨x,rfl,_⟩:=h;rfl
 | .s,cs,h=>by simp only[WT]at h;obtain⟨x,rfl,_⟩:=h;rfl
 | .sl es e,cs,h=>by simp only[WT]at h;obtain⟨x,r,rfl,_⟩:=h;rfl
 | .st fs,cs,h=>by simp only[WT]at h;simpa[Ty.size]using NU h
theorem NU:∀{ts:List Ty}{cs:List D},nX ts cs->cs.length=Ty.sizes ts
 | [],cs,h=>by simp only[nX]at h;subst h;rfl
 |t::ts,cs,h=>by
  simp only[nX]at h;obtain⟨a,b,rfl,h1,h2⟩:=h;simp[Ty.sizes,NT h1,NU h2]
end
def I0(w:World)(b:Nat):Nat:=match w.heap[b]? with |some (.cells c _ _)=>c.size |_=>0
theorem V8(w:World):∀b,w.heap.size<=b->I0 w b=0:=by
 intro b hb;simp[I0,AH hb]
theorem V9{w:World}{b i:Nat}{v:Value}(h:w.cell? ⟨b,i,none⟩=some v):i<I0 w b:=by
 simp only[World.cell?]at h;unfold I0;split at h
 .rename_i c T f hb
  rw[hb];simp only[Option.isSome_none,eD,cB]at h;exact(vO.1 h).1
 .simp at h
section
variable {H:Type}{enc:TypeId×Value->H}{P:Program}{w:World}{φ:bX}
theorem Wa{a:Addr}{n:Nat}{cs:List Value}(h:w.cells? 0 a n=some cs):cs.length=n/\∀i,i<n->∃v,cs[i]?=some v/\w.cell? (a.add i)=some v:=by
 simp only[World.cells?,tK,aU]at h;have h1:=mapM_some_length h;simp only[Ey]at h1;refine⟨h1,λi hi=>?_⟩
 have h2:=mapM_some_get h i i (by simp[hi])
 have hv:cs[i]?=some cs[i]:=by simp
 exact⟨_,hv,h2.trans hv⟩
theorem NV(a:Addr)(n:Nat)(h:a.spot=none):a.add n=⟨a.block,a.off+n,none⟩:=by
 obtain⟨b,o,s⟩:=a;simp only at h;subst h;exact kQ b o n
theorem Wb{a:Addr}{v:Value}(h:w.cell? a=some v):a.spot=none:=by
 simp only[World.cell?]at h;split at h
 .cases hs:a.spot with
  |none=>rfl
  |some x=>simp[hs]at h
 .simp at h
theorem Wc(sp:Nat->Bool):∀(fuel:Nat){ty:Ty}{t:TypeId}{cs:List Value}{x:DataW H×List MemPlace},lz P ty t=true->DataW.trod enc P w 0 sp true fuel t cs=some x ->
  ∃xs,WT ty xs/\aM φ (I0 w) w xs cs/\∀v∈cs,v.oneCell'=true:=by
 intro fuel;induction fuel with
 |zero=>intro ty t cs x _ h;simp[DataW.trod]at h
 |succ fuel ih =>
  intro ty t cs x hc h;cases ty with
  |b =>
   simp only[lz]at hc;split at hc
   .rename_i hu
    obtain⟨b,rfl,_⟩:=DataW.trod_bool hu h;exact⟨[.b b],by simp only[WT];exact⟨b,rfl⟩,by simp[aM,aC],by simp[Value.oneCell']⟩
   .simp at hc
  |i k =>
   simp only[lz]at hc;split at hc
   .rename_i k' hu
    rw[bN]at hc;subst hc;obtain⟨n,rfl,_,hw⟩:=DataW.trod_int hu h;refine⟨[.i k n],?_,by simp[aM,aC],by simp[Value.oneCell']⟩
    simp only[WT];exact⟨n,rfl,by simpa[Lit.wf,NS]using hw⟩
   .simp at hc
  |s =>
   simp only[lz]at hc;split at hc
   .rename_i hu
    obtain⟨s,rfl,_,hs⟩:=DataW.trod_string hu h;refine⟨[.s s.toList],?_,by simp[aM,aC],by simp[Value.oneCell']⟩
    simp only[WT];refine⟨s.toList,rfl,?_⟩
    have:s.toList.length=s.size:=by simp[ByteArray.toList_eq]
    omega
   .simp at hc
  |sl es e =>
   simp only[lz]at hc;split at hc
   .rename_i u hu
    simp only[aA,bN,fu]at hc;obtain⟨⟨⟨gn,hpos⟩,hsz⟩,hce⟩:=hc;rcases DataW.trod_slice hu h with⟨rfl,_⟩ |⟨a,len,cap,elems,rest,n,hn,rfl,_,_,hlc,eZ,hel,hcell,_,_⟩
    .refine⟨[.sl es true []],?_,by simp[aM,aC],by simp[Value.oneCell']⟩
     simp only[WT];exact⟨true,[],rfl,λ_=>rfl,by simp,by simp⟩
    .obtain rfl:fuel=n:=by omega
     rw[gn]at hcell;have hrow:∀i,i<len->∃row vs,WT e row/\aM φ (I0 w) w row vs/\(∀v∈vs,v.oneCell'=true)/\vs.length=es/\∀j v,vs[j]?=some v->w.cell? ((a.add (i*es)).add j)=some v:=by
      intro i hi;have hy:=hcell i hi;rw[show elems[i]?=some elems[i]by simp]at hy
      simp only[ij]at hy;obtain⟨vs,hvs,ht⟩:=hy;obtain⟨row,k1,k2,k3⟩:=ih (ty:=e) hce ht;obtain⟨l1,l2⟩:=Wa hvs;refine⟨row,vs,k1,k2,k3,l1,λj v hj=>?_⟩
      have hj':j<es:=by
       rw[<-l1];exact(dW.1 hj).1
      obtain⟨v',jt,mY⟩:=l2 j hj';rw[jt]at hj;simp at hj;subst hj;exact mY
     let row:Nat->List D:=λi=>if h:i<len then Classical.choose (hrow i h)else[]
     have xh:∀i,i<len->∃vs,WT e (row i)/\aM φ (I0 w) w (row i) vs/\(∀v∈vs,v.oneCell'=true)/\vs.length=es/\∀j v,vs[j]?=some v->w.cell? ((a.add (i*es)).add j)=some v:=by
      intro i hi;have:=tJ (hrow i hi);simpa only[row,hi,dite_true]using this
     clear_value row
     refine⟨[.sl es false ((List.range len).map row)],?_,?_,by simp[Value.oneCell']⟩
     .simp only[WT]
      refine⟨false,_,rfl,by simp,by simp;omega,λr hr=>?_⟩
      simp only[dz,o8]at hr;obtain⟨i,hi,rfl⟩:=hr;exact(xh i hi).choose_spec.1
     .simp only[aM,jd,aC]
      refine⟨some a,cap,by simp,by simpa using hlc,by simp,λ_=>⟨a,rfl,λhne=>?_⟩⟩
      have KO:0<len:=by
       rcases I7 len with h0 |h0
       .subst h0;simp at hne
       .exact h0
      have IK:a.spot=none:=by
       obtain⟨vs,_,_,_,hl,hcell⟩:=xh 0 KO;have hv:vs[0]?=some vs[0]:=by simp
       have:=Wb (hcell 0 _ hv);simpa[Addr.add]using this
      have We:∀i,∀vs,(∀j v,vs[j]?=some v->w.cell? ((a.add (i*es)).add j)=some v)->aM φ (I0 w) w (row i) vs->(∀v∈vs,v.oneCell'=true)->iE φ (I0 w) w a.block (a.off+i*es) (row i):=by
       intro i vs hcell hr h1;refine Bh hr (λj v hj=>?_) h1
       have:=hcell j v hj;rw[NV _ _ IK]at this
       rwa [kQ]at this
      refine⟨IK,?_,nD λr rw' hr=>?_⟩
      .obtain⟨vs,_,_,_,hl,hcell⟩:=xh (len - 1) (by omega)
       have hv:vs[es - 1]?=some vs[es - 1]:=by simp
       have:=hcell _ _ hv;rw[NV _ _ IK,kQ]at this;have:=V9 this;simp only[qG,Ey];have e1:es*len=(len - 1)*es+es:=by
        obtain⟨k,rfl⟩:∃k,len=k+1:=⟨len - 1,by omega⟩
        simp[Ee,eI]
       omega
      .simp only[jg,cX]at hr
       obtain⟨i,hi,rfl⟩:=hr;obtain⟨hrl,NW⟩:=dW.1 hi;simp only[IW]at NW;subst NW;simp only[Ey]at hrl;obtain⟨vs,k1,k2,k3,k4,k5⟩:=xh r hrl;exact⟨by rw[NT k1,hsz],We r vs k5 k2 k3⟩
   .simp at hc
  |st fs =>
   simp only[lz]at hc;split at hc
   .rename_i gs hu
    simp only[aA,bN]at hc;obtain⟨hsz,hcs⟩:=hc;obtain⟨xs,n,hn,_,hl,Bu,hxs⟩:=DataW.trod_struct hu h;obtain rfl:fuel=n:=by omega
    rw[hsz]at hl;have key:∀(fs:List Ty)(gl:List Field)(o:Nat),AA P fs gl o=true->(∀f∈gl,∃x,DataW.trod enc P w 0 sp true fuel f.type ((cs.drop f.offset).take (P.cellsOf f.type))=some x) ->
      o+Ty.sizes fs=cs.length->∃ys,nX fs ys/\aM φ (I0 w) w ys (cs.drop o)/\∀v∈cs.drop o,v.oneCell'=true:=by
     intro fs;induction fs with
     |nil =>
      intro gl o h1 _ h3;simp only[Ty.sizes]at h3
      have:cs.drop o=[]:=qH (by omega)
      rw[this];exact⟨[],by simp[nX],by simp[aM],by simp⟩
     |cons ty fs Wf =>
      intro gl o h1 h2 h3;cases gl with
      |nil=>simp[AA]at h1
      |cons g gl =>
       simp only[AA,aA,bN]at h1;obtain⟨⟨⟨ho,Wg⟩,hgt⟩,mI⟩:=h1;obtain⟨y,hy⟩:=h2 g (by simp)
       rw[ho,Wg]at hy;obtain⟨a,a1,a2,a3⟩:=ih (ty:=ty) hgt hy;simp only[Ty.sizes]at h3;obtain⟨b,b1,b2,b3⟩:=Wf gl (o+ty.size) mI (λf hf=>h2 f (by simp[hf])) (by omega)
       have hsplit:cs.drop o=(cs.drop o).take ty.size++cs.drop (o+ty.size):=by
        rw[<-List.drop_drop,Eu]
       refine⟨a++b,by simp only[nX];exact⟨a,b,rfl,a1,b1⟩,?_,λv hv=>?_⟩
       .rw[hsplit];exact qR a2 b2
       .rw[hsplit]at hv
        exact(aL.1 hv).elim (a3 v) (b3 v)
    obtain⟨ys,y1,y2,y3⟩:=key fs gs.toList 0 hcs (λf hf=>by
     obtain⟨i,hi,rfl⟩:=jf hf;have hi':i<gs.size:=by simpa using hi
     have:=hxs i gs[i] (by simp)
     have hx:xs[i]?=some (xs[i]'(by omega)):=by simp
     exact⟨_,by simpa using this.trans hx⟩) (by simpa using hl.symm)
    exact⟨ys,by simpa only[WT]using y1,by simpa using y2,by simpa using y3⟩
   .simp at hc
theorem Wh{sp:Nat->Bool}{ty:Ty}{t:TypeId}{v:Value}{d:DataW H}{ps:List MemPlace}{base:Nat}(hc:lz P ty t=true)(hok:Value.okWide P w .any base t v)(h:DataW.Trod enc P w 0 sp true t v d ps):
  ∃x,WV ty x/\aC φ (I0 w) w x v:=by
 obtain⟨fuel,h⟩:=h;obtain⟨xs,h1,h2,h3⟩:=Wc (φ:=φ) sp fuel hc h;have one:v.cells.toList=[v]->∃x,xs=[x]/\aC φ (I0 w) w x v:=by
  intro he;rw[he]at h2
  match xs,h2 with
  | [x],h2=>simp only[aM,jd]at h2;exact⟨x,rfl,h2⟩
  | [],h2=>simp[aM]at h2
  |_::_::_,h2=>simp[aM]at h2
 cases ty with
 |st fs =>
  simp only[lz]at hc;split at hc
  .rename_i gs hu
   obtain⟨A,rfl,_⟩:=okWide_struct hu hok;refine⟨.ag xs,by simp only[WV];exact⟨xs,rfl,by simpa only[WT]using h1⟩,?_⟩
   simp only[aC];exact⟨A,rfl,h2,h3⟩
  .simp at hc
 |b =>
  simp only[lz]at hc;split at hc
  .rename_i hu
   obtain⟨b,rfl⟩:=okWide_bool hu hok;obtain⟨x,rfl,h⟩:=one rfl;exact⟨x,h1,h⟩
  .simp at hc
 |i k =>
  simp only[lz]at hc;split at hc
  .rename_i k' hu
   obtain⟨b,rfl⟩:=okWide_int hu hok;obtain⟨x,rfl,h⟩:=one rfl;exact⟨x,h1,h⟩
  .simp at hc
 |s =>
  simp only[lz]at hc;split at hc
  .rename_i hu
   obtain⟨b,rfl⟩:=okWide_string hu hok;obtain⟨x,rfl,h⟩:=one rfl;exact⟨x,h1,h⟩
  .simp at hc
 |sl es e =>
  simp only[lz]at hc;split at hc
  .rename_i u hu
   obtain⟨a,l,c,rfl⟩:=okWide_slice hu hok;obtain⟨x,rfl,h⟩:=one rfl;exact⟨x,h1,h⟩
  .simp at hc
def qA(P:Program):List Ty->List TypeId->Bool
 | [],[]=>true
 |ty::tys,t::ts=>lz P ty t&&P.readableRec t&&decide (t<P.types.size)&&qA P tys ts
 |_,_=>false
theorem NX{sp:Nat->Bool}{base:Nat}:∀{tys:List Ty}{ts:List TypeId}{vs:List Value}{ds:List (DataW H)}{ps:List MemPlace},qA P tys ts=true ->
  (∀(j:Nat) t v,ts[j]?=some t->vs[j]?=some v->Value.okWide P w .any base t v)->DataW.TrodAll enc P w 0 sp true ts vs ds ps->ds.length=tys.length/\∃xs,vC tys xs/\aM φ (I0 w) w xs vs
 | [],[],[],[],ps,_,_,_=>⟨rfl,[],by simp[vC],by simp[aM]⟩
 |ty::tys,t::ts,v::vs,d::ds,ps,hc,hok,h=>by
  simp only[qA,aA]at hc;simp only[DataW.TrodAll]at h;obtain⟨p,q,h1,h2,_⟩:=h;obtain⟨x,k1,k2⟩:=Wh (φ:=φ) hc.1.1.1 (hok 0 t v rfl rfl) h1;obtain⟨hl,xs,l1,l2⟩:=NX hc.2 (λj t v ht hv=>hok (j+1) t v (by simpa using ht) (by simpa using hv)) h2
  exact⟨by simp[hl],x::xs,by simp only[vC];exact⟨x,xs,rfl,k1,l1⟩,by simp only[aM];exact⟨k2,l2⟩⟩
 | [],_::_,_,_,_,hc,_,_=>by simp[qA]at hc
 |_::_,[],_,_,_,hc,_,_=>by simp[qA]at hc
 | [],[],_::_,_,_,_,_,h=>by simp[DataW.TrodAll]at h
 | [],[],[],_::_,_,_,_,h=>by simp[DataW.TrodAll]at h
 |_::_,_::_,[],_,_,_,_,h=>by simp[DataW.TrodAll]at h
 |_::_,_::_,_::_,[],_,_,_,h=>by simp[DataW.TrodAll]at h
theorem NY(hl:laidOutB P=true){W':World}(hb:Below w.heap.size w W'):∀{tys:List Ty}{ts:List TypeId}{vs:List Value}{ds:List (DataW H)}{ps:List MemPlace},qA P tys ts=true ->
  DataW.TrodAll enc P w 0 (λ_=>true) true ts vs ds ps->(∀x∈ps,x.block<w.heap.size)->DataW.TrodAll enc P W' 0 (λb=>decide (b<w.heap.size)) true ts vs ds ps
 | [],[],[],[],ps,_,h,_=>h
 |ty::tys,t::ts,v::vs,d::ds,ps,hc,h,hlt=>by
  simp only[qA,aA,fu]at hc;simp only[DataW.TrodAll]at h⊢;obtain⟨p,q,h1,h2,rfl⟩:=h;exact⟨p,q,Below.trod hl hc.1.1.2 hc.1.2 h1 hb (λx hx=>hlt x (by simp[hx])),NY hl hb hc.2 h2 (λx hx=>hlt x (by simp[hx])),rfl⟩
 | [],_::_,_,_,_,hc,_,_=>by simp[qA]at hc
 |_::_,[],_,_,_,hc,_,_=>by simp[qA]at hc
 | [],[],_::_,_,_,_,h,_=>by simp[DataW.TrodAll]at h
 | [],[],[],_::_,_,_,h,_=>by simp[DataW.TrodAll]at h
 |_::_,_::_,[],_,_,_,h,_=>by simp[DataW.TrodAll]at h
 |_::_,_::_,_::_,[],_,_,h,_=>by simp[DataW.TrodAll]at h
end
theorem Wi{P:Program}{φ:bX}{Pv:Prog}{f:Nat}{fn:Func}{s:ChangeSpec}{tys:List Ty}{rt:TypeId}(hm:P.follows .mixedOrders=true)(hk:oY P φ)(hF:∀f F,Pv f=some F->xW P φ f F)(hl:laidOutB P=true)
  (hps:qA P tys fn.params.toList=true)(Wj:fn.resultTypes=#[rt])(hu:P.underlying rt=some .bool)(hvars:s.vars=[])
  (hs:∀(H:Type)(ds:List (DataW H)),ds.length=tys.length->s.fn H ds={results:=[.lit (.bool true)],args:=ds,vars:=[]})
  (law:∀xs,vC tys xs->ev Pv (.call f (xs.map V.d) [])=some (.val (.d (.b true)) []))
  {H:Type}{enc:TypeId×Value->H}{W:World}{base:Nat}{args:Array Value}{ds gs:List (DataW H)}{before:List MemPlace}
  (hval:∀(j:Nat) t v,fn.params[j]?=some t->args[j]?=some v->Value.okWide P W .any base t v)
  (hW:DataW.Whole enc P fn.params.toList s.vars false W args.toList ds gs before):
  Calls P (φ f) args W λe W'=>∃v,e = .returned v/\s.post enc P fn false true false false W args v W':=by
 have NZ:=hW;obtain⟨p,q,hA,hV,rfl,hfz,hnd⟩:=hW;rw[hvars]at hV;obtain⟨rfl,rfl⟩:=trodVars_none hV;obtain⟨wz,xs,h1,h2⟩:=NX (φ:=φ) hps (λj t v ht hv=>hval j t v (by simpa using ht) (by simpa using hv)) hA
 refine(V7 hm hk hF (law xs h1) (V8 W) h2).mono λe W' h=>?_
 obtain⟨v',I',rfl,hg,_,_,hr⟩:=h;have hv:=hr ⟨λ_=>0,λ_=>0,I'⟩ rfl
 have jt:=oz (by simpa only[ah]using hv)
 subst jt;have hB:Below W.heap.size W W':=⟨hg.os,hg.tape,hg.output,hg.size,hg.same⟩;have hlt:∀x∈p,x.block<W.heap.size:=λx hx=>by simpa using NZ.lt x (by simp[hx])
 have IL:=hs H ds wz;refine⟨_,rfl,ds,[],p++[],[],p,[],NZ,?_,?_,?_,hB.frame _,λh=>by simp at h⟩
 .rw[o9,IL,Wj]
  exact trodAll_mk1 (shut_bool hu true)
 .rw[o9,IL]
  exact NY hl hB hps hA hlt
 .rw[hvars,o9,IL]
  exact(rfl:([]:List MemPlace)=[])
end Go.VS
