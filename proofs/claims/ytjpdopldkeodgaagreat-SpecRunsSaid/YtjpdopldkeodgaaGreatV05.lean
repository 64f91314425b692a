import Derived.Test.YtjpdopldkeodgaaGreatV04
import Derived.WalkKit
import Derived.ProofKit
import Derived.OpenShut
import Derived.Carry
set_option linter.all false
set_option maxHeartbeats 1000000
namespace Go.VS
open Go.ChangeShapes Go.WideShapes Go.ChangeAt Go.RowKit
inductive Ty where
 |b
 |i(k:IntKind)
 |s
 |sl(es:Nat)(e:Ty)
 |st(fs:List Ty)
mutual
def Ty.size:Ty->Nat
 | .st fs=>Ty.sizes fs
 |_=>1
def Ty.sizes:List Ty->Nat
 | []=>0
 |t::ts=>t.size+Ty.sizes ts
end
def InK(k:IntKind)(n:Int):Prop:=k.min<=n/\n<=k.max
mutual
def WT:Ty->List D->Prop
 | .b,cs=>∃x,cs=[.b x]
 | .i k,cs=>∃n,cs=[.i k n]/\InK k n
 | .s,cs=>∃x,cs=[.s x]/\x.length<=maxLen
 | .sl es e,cs=>∃nl rows,cs=[.sl es nl rows]/\(nl=true->rows=[])/\rows.length<=maxLen/\∀r∈rows,WT e r
 | .st fs,cs=>u7 fs cs
def u7:List Ty->List D->Prop
 | [],cs=>cs=[]
 |t::ts,cs=>∃a b,cs=a++b/\WT t a/\u7 ts b
end
def WV:Ty->D->Prop
 | .st fs,x=>∃cs,x = .ag cs/\u7 fs cs
 |t,x=>WT t [x]
def DB:List Ty->List D->Prop
 | [],xs=>xs=[]
 |t::ts,xs=>∃x r,xs=x::r/\WV t x/\DB ts r
section
variable (P:Program)
mutual
def rR:Ty->TypeId->Bool
 | .b,t=>match P.underlying t with |some .bool=>true |_=>false
 | .i k,t=>match P.underlying t with |some (.int k')=>k==k' |_=>false
 | .s,t=>match P.underlying t with |some .string=>true |_=>false
 | .sl es e,t=>match P.underlying t with |some (.slice u)=>P.cellsOf u==es&&decide (0<es)&&e.size==es&&rR e u |_=>false
 | .st fs,t=>match P.underlying t with |some (.struct gs)=>P.cellsOf t==Ty.sizes fs&&Je fs gs.toList 0 |_=>false
def Je:List Ty->List Field->Nat->Bool
 | [],[],_=>true
 |t::ts,g::gs,o=>g.offset==o&&P.cellsOf g.type==t.size&&rR t g.type&&Je ts gs (o+t.size)
 |_,_,_=>false
end
end
mutual
theorem akX:∀{t:Ty}{cs:List D},WT t cs->cs.length=t.size
 | .b,cs,h=>by simp only[WT]at h;obtain⟨x,rfl⟩:=h;rfl
 | .i k,cs,h=>by simp only[WT]at h;obtain⟨x,rfl,_⟩:=h;rfl
 | .s,cs,h=>by simp only[WT]at h;obtain⟨x,rfl,_⟩:=h;rfl
 | .sl es e,cs,h=>by simp only[WT]at h;obtain⟨x,r,rfl,_⟩:=h;rfl
 | .st fs,cs,h=>by simp only[WT]at h;simpa[Ty.size]using akY h
theorem akY:∀{ts:List Ty}{cs:List D},u7 ts cs->cs.length=Ty.sizes ts
 | [],cs,h=>by simp only[u7]at h;subst h;rfl
 |t::ts,cs,h=>by
  simp only[u7]at h;obtain⟨a,b,rfl,h1,h2⟩:=h;simp[Ty.sizes,akX h1,akY h2]
end
def I0(w:World)(b:Nat):Nat:=match w.heap[b]? with |some (.cells c _ _)=>c.size |_=>0
theorem akZ(w:World):∀b,w.heap.size<=b->I0 w b=0:=by
 intro b hb;simp[I0,J2 hb]
theorem ak0{w:World}{b i:Nat}{v:Value}(h:w.cell? ⟨b,i,none⟩=some v):i<I0 w b:=by
 simp only[World.cell?]at h;unfold I0;split at h
 .rename_i c T f hb
  rw[hb];simp only[Aw,eR,dG]at h;exact(Ec.1 h).1
 .simp at h
section
variable {H:Type}{enc:TypeId×Value->H}{P:Program}{w:World}{φ:fy}
theorem ak1{a:Addr}{n:Nat}{cs:List Value}(h:w.cells? 0 a n=some cs):cs.length=n/\∀i,i<n->∃v,cs[i]?=some v/\w.cell? (a.add i)=some v:=by
 simp only[World.cells?,B6,dH]at h;have h1:=mapM_some_length h;simp only[PI]at h1;refine⟨h1,λi hi=>?_⟩
 have h2:=mapM_some_get h i i (by simp[hi])
 have hv:cs[i]?=some cs[i]:=by simp
 exact⟨_,hv,h2.trans hv⟩
theorem ak2(a:Addr)(n:Nat)(h:a.spot=none):a.add n=⟨a.block,a.off+n,none⟩:=by
 obtain⟨b,o,s⟩:=a;simp only at h;subst h;exact qA b o n
theorem ak3{a:Addr}{v:Value}(h:w.cell? a=some v):a.spot=none:=by
 simp only[World.cell?]at h;split at h
 .cases hs:a.spot with
  |none=>rfl
  |some x=>simp[hs]at h
 .simp at h
theorem ak4(sp:Nat->Bool):∀(fuel:Nat){ty:Ty}{t:TypeId}{cs:List Value}{x:DataW H×List MemPlace},rR P ty t=true->DataW.trod enc P w 0 sp true fuel t cs=some x ->
  ∃xs,WT ty xs/\cy φ (I0 w) w xs cs/\∀v∈cs,v.oneCell'=true:=by
 intro fuel;induction fuel with
 |zero=>intro ty t cs x _ h;simp[DataW.trod]at h
 |succ fuel ih =>
  intro ty t cs x hc h;cases ty with
  |b =>
   simp only[rR]at hc;split at hc
   .rename_i hu
    obtain⟨b,rfl,_⟩:=DataW.trod_bool hu h;exact⟨[.b b],by simp only[WT];exact⟨b,rfl⟩,by simp[cy,bQ],by simp[Value.oneCell']⟩
   .simp at hc
  |i k =>
   simp only[rR]at hc;split at hc
   .rename_i k' hu
    rw[dM]at hc;subst hc;obtain⟨n,rfl,_,hw⟩:=DataW.trod_int hu h;refine⟨[.i k n],?_,by simp[cy,bQ],by simp[Value.oneCell']⟩
    simp only[WT];exact⟨n,rfl,by simpa[Lit.wf,InK]using hw⟩
   .simp at hc
  |s =>
   simp only[rR]at hc;split at hc
   .rename_i hu
    obtain⟨s,rfl,_,hs⟩:=DataW.trod_string hu h;refine⟨[.s s.toList],?_,by simp[cy,bQ],by simp[Value.oneCell']⟩
    simp only[WT];refine⟨s.toList,rfl,?_⟩
    have:s.toList.length=s.size:=by simp[ByteArray.toList_eq]
    omega
   .simp at hc
  |sl es e =>
   simp only[rR]at hc;split at hc
   .rename_i u hu
    simp only[bE,dM,gi]at hc;obtain⟨⟨⟨jH,hpos⟩,hsz⟩,hce⟩:=hc;rcases DataW.trod_slice hu h with⟨rfl,_⟩ |⟨a,len,cap,elems,rest,n,hn,rfl,_,_,hlc,iF,hel,hcell,_,_⟩
    .refine⟨[.sl es true []],?_,by simp[cy,bQ],by simp[Value.oneCell']⟩
     simp only[WT];exact⟨true,[],rfl,λ_=>rfl,by simp,by simp⟩
    .obtain rfl:fuel=n:=by omega
     rw[jH]at hcell;have hrow:∀i,i<len->∃row vs,WT e row/\cy φ (I0 w) w row vs/\(∀v∈vs,v.oneCell'=true)/\vs.length=es/\∀j v,vs[j]?=some v->w.cell? ((a.add (i*es)).add j)=some v:=by
      intro i hi;have hy:=hcell i hi;rw[show elems[i]?=some elems[i]by simp]at hy
      simp only[nO]at hy;obtain⟨vs,hvs,ht⟩:=hy;obtain⟨row,k1,k2,k3⟩:=ih (ty:=e) hce ht;obtain⟨l1,l2⟩:=ak1 hvs;refine⟨row,vs,k1,k2,k3,l1,λj v hj=>?_⟩
      have hj':j<es:=by
       rw[<-l1];exact(rW.1 hj).1
      obtain⟨v',jx,zJ⟩:=l2 j hj';rw[jx]at hj;simp at hj;subst hj;exact zJ
     let row:Nat->List D:=λi=>if h:i<len then Classical.choose (hrow i h)else[]
     have F5:∀i,i<len->∃vs,WT e (row i)/\cy φ (I0 w) w (row i) vs/\(∀v∈vs,v.oneCell'=true)/\vs.length=es/\∀j v,vs[j]?=some v->w.cell? ((a.add (i*es)).add j)=some v:=by
      intro i hi;have:=B0 (hrow i hi);simpa only[row,hi,dite_true]using this
     clear_value row
     refine⟨[.sl es false ((List.range len).map row)],?_,?_,by simp[Value.oneCell']⟩
     .simp only[WT]
      refine⟨false,_,rfl,by simp,by simp;omega,λr hr=>?_⟩
      simp only[gF,J7]at hr;obtain⟨i,hi,rfl⟩:=hr;exact(F5 i hi).choose_spec.1
     .simp only[cy,xD,bQ]
      refine⟨some a,cap,by simp,by simpa using hlc,by simp,λ_=>⟨a,rfl,λhne=>?_⟩⟩
      have sJ:0<len:=by
       rcases Wu len with h0 |h0
       .subst h0;simp at hne
       .exact h0
      have UO:a.spot=none:=by
       obtain⟨vs,_,_,_,hl,hcell⟩:=F5 0 sJ;have hv:vs[0]?=some vs[0]:=by simp
       have:=ak3 (hcell 0 _ hv);simpa[Addr.add]using this
      have ak5:∀i,∀vs,(∀j v,vs[j]?=some v->w.cell? ((a.add (i*es)).add j)=some v)->cy φ (I0 w) w (row i) vs->(∀v∈vs,v.oneCell'=true)->nA φ (I0 w) w a.block (a.off+i*es) (row i):=by
       intro i vs hcell hr h1;refine No hr (λj v hj=>?_) h1
       have:=hcell j v hj;rw[ak2 _ _ UO]at this
       rwa [qA]at this
      refine⟨UO,?_,uT λr rw' hr=>?_⟩
      .obtain⟨vs,_,_,_,hl,hcell⟩:=F5 (len - 1) (by omega)
       have hv:vs[es - 1]?=some vs[es - 1]:=by simp
       have:=hcell _ _ hv;rw[ak2 _ _ UO,qA]at this;have:=ak0 this;simp only[yK,PI];have e1:es*len=(len - 1)*es+es:=by
        obtain⟨k,rfl⟩:∃k,len=k+1:=⟨len - 1,by omega⟩
        simp[Pt,ji]
       omega
      .simp only[vB,gJ]at hr
       obtain⟨i,hi,rfl⟩:=hr;obtain⟨hrl,hri⟩:=rW.1 hi;simp only[Wt]at hri;subst hri;simp only[PI]at hrl;obtain⟨vs,k1,k2,k3,k4,k5⟩:=F5 r hrl;exact⟨by rw[akX k1,hsz],ak5 r vs k5 k2 k3⟩
   .simp at hc
  |st fs =>
   simp only[rR]at hc;split at hc
   .rename_i gs hu
    simp only[bE,dM]at hc;obtain⟨hsz,hcs⟩:=hc;obtain⟨xs,n,hn,_,hl,hxl,hxs⟩:=DataW.trod_struct hu h;obtain rfl:fuel=n:=by omega
    rw[hsz]at hl;have key:∀(fs:List Ty)(gl:List Field)(o:Nat),Je P fs gl o=true->(∀f∈gl,∃x,DataW.trod enc P w 0 sp true fuel f.type ((cs.drop f.offset).take (P.cellsOf f.type))=some x) ->
      o+Ty.sizes fs=cs.length->∃ys,u7 fs ys/\cy φ (I0 w) w ys (cs.drop o)/\∀v∈cs.drop o,v.oneCell'=true:=by
     intro fs;induction fs with
     |nil =>
      intro gl o h1 _ h3;simp only[Ty.sizes]at h3
      have:cs.drop o=[]:=qK (by omega)
      rw[this];exact⟨[],by simp[u7],by simp[cy],by simp⟩
     |cons ty fs ihf =>
      intro gl o h1 h2 h3;cases gl with
      |nil=>simp[Je]at h1
      |cons g gl =>
       simp only[Je,bE,dM]at h1;obtain⟨⟨⟨ho,F6⟩,hgt⟩,rF⟩:=h1;obtain⟨y,hy⟩:=h2 g (by simp)
       rw[ho,F6]at hy;obtain⟨a,a1,a2,a3⟩:=ih (ty:=ty) hgt hy;simp only[Ty.sizes]at h3;obtain⟨b,b1,b2,b3⟩:=ihf gl (o+ty.size) rF (λf hf=>h2 f (by simp[hf])) (by omega)
       have hsplit:cs.drop o=(cs.drop o).take ty.size++cs.drop (o+ty.size):=by
        rw[<-List.drop_drop,Ar]
       refine⟨a++b,by simp only[u7];exact⟨a,b,rfl,a1,b1⟩,?_,λv hv=>?_⟩
       .rw[hsplit];exact zy a2 b2
       .rw[hsplit]at hv
        exact(dc.1 hv).elim (a3 v) (b3 v)
    obtain⟨ys,y1,y2,y3⟩:=key fs gs.toList 0 hcs (λf hf=>by
     obtain⟨i,hi,rfl⟩:=sR hf;have hi':i<gs.size:=by simpa using hi
     have:=hxs i gs[i] (by simp)
     have hx:xs[i]?=some (xs[i]'(by omega)):=by simp
     exact⟨_,by simpa using this.trans hx⟩) (by simpa using hl.symm)
    exact⟨ys,by simpa only[WT]using y1,by simpa using y2,by simpa using y3⟩
   .simp at hc
theorem ak6{sp:Nat->Bool}{ty:Ty}{t:TypeId}{v:Value}{d:DataW H}{ps:List MemPlace}{base:Nat}(hc:rR P ty t=true)(hok:Value.okWide P w .any base t v)(h:DataW.Trod enc P w 0 sp true t v d ps):
  ∃x,WV ty x/\bQ φ (I0 w) w x v:=by
 obtain⟨fuel,h⟩:=h;obtain⟨xs,h1,h2,h3⟩:=ak4 (φ:=φ) sp fuel hc h;have one:v.cells.toList=[v]->∃x,xs=[x]/\bQ φ (I0 w) w x v:=by
  intro he;rw[he]at h2
  match xs,h2 with
  | [x],h2=>simp only[cy,xD]at h2;exact⟨x,rfl,h2⟩
  | [],h2=>simp[cy]at h2
  |_::_::_,h2=>simp[cy]at h2
 cases ty with
 |st fs =>
  simp only[rR]at hc;split at hc
  .rename_i gs hu
   obtain⟨A,rfl,_⟩:=okWide_struct hu hok;refine⟨.ag xs,by simp only[WV];exact⟨xs,rfl,by simpa only[WT]using h1⟩,?_⟩
   simp only[bQ];exact⟨A,rfl,h2,h3⟩
  .simp at hc
 |b =>
  simp only[rR]at hc;split at hc
  .rename_i hu
   obtain⟨b,rfl⟩:=okWide_bool hu hok;obtain⟨x,rfl,h⟩:=one rfl;exact⟨x,h1,h⟩
  .simp at hc
 |i k =>
  simp only[rR]at hc;split at hc
  .rename_i k' hu
   obtain⟨b,rfl⟩:=okWide_int hu hok;obtain⟨x,rfl,h⟩:=one rfl;exact⟨x,h1,h⟩
  .simp at hc
 |s =>
  simp only[rR]at hc;split at hc
  .rename_i hu
   obtain⟨b,rfl⟩:=okWide_string hu hok;obtain⟨x,rfl,h⟩:=one rfl;exact⟨x,h1,h⟩
  .simp at hc
 |sl es e =>
  simp only[rR]at hc;split at hc
  .rename_i u hu
   obtain⟨a,l,c,rfl⟩:=okWide_slice hu hok;obtain⟨x,rfl,h⟩:=one rfl;exact⟨x,h1,h⟩
  .simp at hc
def yy(P:Program):List Ty->List TypeId->Bool
 | [],[]=>true
 |ty::tys,t::ts=>rR P ty t&&P.readableRec t&&decide (t<P.types.size)&&yy P tys ts
 |_,_=>false
theorem ak7{sp:Nat->Bool}{base:Nat}:∀{tys:List Ty}{ts:List TypeId}{vs:List Value}{ds:List (DataW H)}{ps:List MemPlace},yy P tys ts=true ->
  (∀(j:Nat) t v,ts[j]?=some t->vs[j]?=some v->Value.okWide P w .any base t v)->DataW.TrodAll enc P w 0 sp true ts vs ds ps->ds.length=tys.length/\∃xs,DB tys xs/\cy φ (I0 w) w xs vs
 | [],[],[],[],ps,_,_,_=>⟨rfl,[],by simp[DB],by simp[cy]⟩
 |ty::tys,t::ts,v::vs,d::ds,ps,hc,hok,h=>by
  simp only[yy,bE]at hc;simp only[DataW.TrodAll]at h;obtain⟨p,q,h1,h2,_⟩:=h;obtain⟨x,k1,k2⟩:=ak6 (φ:=φ) hc.1.1.1 (hok 0 t v rfl rfl) h1;obtain⟨hl,xs,l1,l2⟩:=ak7 hc.2 (λj t v ht hv=>hok (j+1) t v (by simpa using ht) (by simpa using hv)) h2
  exact⟨by simp[hl],x::xs,by simp only[DB];exact⟨x,xs,rfl,k1,l1⟩,by simp only[cy];exact⟨k2,l2⟩⟩
 | [],_::_,_,_,_,hc,_,_=>by simp[yy]at hc
 |_::_,[],_,_,_,hc,_,_=>by simp[yy]at hc
 | [],[],_::_,_,_,_,_,h=>by simp[DataW.TrodAll]at h
 | [],[],[],_::_,_,_,_,h=>by simp[DataW.TrodAll]at h
 |_::_,_::_,[],_,_,_,_,h=>by simp[DataW.TrodAll]at h
 |_::_,_::_,_::_,[],_,_,_,h=>by simp[DataW.TrodAll]at h
theorem ak8(hl:laidOutB P=true){W':World}(hb:Below w.heap.size w W'):∀{tys:List Ty}{ts:List TypeId}{vs:List Value}{ds:List (DataW H)}{ps:List MemPlace},yy P tys ts=true ->
  DataW.TrodAll enc P w 0 (λ_=>true) true ts vs ds ps->(∀x∈ps,x.block<w.heap.size)->DataW.TrodAll enc P W' 0 (λb=>decide (b<w.heap.size)) true ts vs ds ps
 | [],[],[],[],ps,_,h,_=>h
 |ty::tys,t::ts,v::vs,d::ds,ps,hc,h,hlt=>by
  simp only[yy,bE,gi]at hc;simp only[DataW.TrodAll]at h⊢;obtain⟨p,q,h1,h2,rfl⟩:=h;exact⟨p,q,Below.trod hl hc.1.1.2 hc.1.2 h1 hb (λx hx=>hlt x (by simp[hx])),ak8 hl hb hc.2 h2 (λx hx=>hlt x (by simp[hx])),rfl⟩
 | [],_::_,_,_,_,hc,_,_=>by simp[yy]at hc
 |_::_,[],_,_,_,hc,_,_=>by simp[yy]at hc
 | [],[],_::_,_,_,_,h,_=>by simp[DataW.TrodAll]at h
 | [],[],[],_::_,_,_,h,_=>by simp[DataW.TrodAll]at h
 |_::_,_::_,[],_,_,_,h,_=>by simp[DataW.TrodAll]at h
 |_::_,_::_,_::_,[],_,_,h,_=>by simp[DataW.TrodAll]at h
end
theorem ak9{P:Program}{φ:fy}{Pv:Prog}{f:Nat}{fn:Func}{s:ChangeSpec}{tys:List Ty}{rt:TypeId}(hm:P.follows .mixedOrders=true)(hk:w7 P φ)(hF:∀f F,Pv f=some F->F4 P φ f F)(hl:laidOutB P=true)
  (hps:yy P tys fn.params.toList=true)(hrt:fn.resultTypes=#[rt])(hu:P.underlying rt=some .bool)(hvars:s.vars=[])
  (hs:∀(H:Type)(ds:List (DataW H)),ds.length=tys.length->s.fn H ds={results:=[.lit (.bool true)],args:=ds,vars:=[]})
  (law:∀xs,DB tys xs->ev Pv (.call f (xs.map V.d) [])=some (.val (.d (.b true)) []))
  {H:Type}{enc:TypeId×Value->H}{W:World}{base:Nat}{args:Array Value}{ds gs:List (DataW H)}{before:List MemPlace}
  (hval:∀(j:Nat) t v,fn.params[j]?=some t->args[j]?=some v->Value.okWide P W .any base t v)
  (hW:DataW.Whole enc P fn.params.toList s.vars false W args.toList ds gs before):
  Calls P (φ f) args W λe W'=>∃v,e = .returned v/\s.post enc P fn false true false false W args v W':=by
 have hW':=hW;obtain⟨p,q,hA,hV,rfl,hfz,hnd⟩:=hW;rw[hvars]at hV;obtain⟨rfl,rfl⟩:=trodVars_none hV;obtain⟨IG,xs,h1,h2⟩:=ak7 (φ:=φ) hps (λj t v ht hv=>hval j t v (by simpa using ht) (by simpa using hv)) hA
 refine(akW hm hk hF (law xs h1) (akZ W) h2).mono λe W' h=>?_
 obtain⟨v',I',rfl,hg,_,_,hr⟩:=h;have hv:=hr ⟨λ_=>0,λ_=>0,I'⟩ rfl
 have jx:=wI (by simpa only[aJ]using hv)
 subst jx;have hB:Below W.heap.size W W':=⟨hg.os,hg.tape,hg.output,hg.size,hg.same⟩;have hlt:∀x∈p,x.block<W.heap.size:=λx hx=>by simpa using hW'.lt x (by simp[hx])
 have UP:=hs H ds IG;refine⟨_,rfl,ds,[],p++[],[],p,[],hW',?_,?_,?_,hB.frame _,λh=>by simp at h⟩
 .rw[ni,UP,hrt]
  exact trodAll_mk1 (shut_bool hu true)
 .rw[ni,UP]
  exact ak8 hl hB hps hA hlt
 .rw[hvars,ni,UP]
  exact(rfl:([]:List MemPlace)=[])
end Go.VS
