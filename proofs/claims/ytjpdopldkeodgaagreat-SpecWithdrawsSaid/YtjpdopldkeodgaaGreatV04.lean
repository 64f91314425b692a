import Derived.Test.YtjpdopldkeodgaaGreatV03
import Derived.WalkKit
import Derived.ProofKit
import Derived.OpenShut
import Derived.Carry
set_option linter.all false
namespace Go.VS
open Go.ChangeShapes Go.WideShapes Go.ChangeAt Go.RowKit
inductive Ty where
 | b
 | i (k:IntKind)
 | s
 | sl (es:Nat) (e:Ty)
 | st (fs:List Ty)
mutual
def Ty.size:Ty→Nat
 | .st fs=>Ty.sizes fs
 | _=>1
def Ty.sizes:List Ty→Nat
 | []=>0
 | t::ts=>t.size+Ty.sizes ts
end
def InK (k:IntKind) (n:Int):Prop:=k.min≤n∧n≤k.max
mutual
def WT:Ty→List D→Prop
 | .b,cs=>∃x,cs=[.b x]
 | .i k,cs=>∃n,cs=[.i k n]∧InK k n
 | .s,cs=>∃x,cs=[.s x]∧x.length≤maxLen
 | .sl es e,cs=>∃nl rows,cs=[.sl es nl rows]∧(nl=true→rows=[])∧rows.length≤maxLen∧∀r∈rows,WT e r
 | .st fs,cs=>WTs fs cs
def WTs:List Ty→List D→Prop
 | [],cs=>cs=[]
 | t::ts,cs=>∃a b,cs=a++b∧WT t a∧WTs ts b
end
def WV:Ty→D→Prop
 | .st fs,x=>∃cs,x = .ag cs∧WTs fs cs
 | t,x=>WT t [x]
def WVs:List Ty→List D→Prop
 | [],xs=>xs=[]
 | t::ts,xs=>∃x r,xs=x::r∧WV t x∧WVs ts r
section
variable (P:Program)
mutual
def chkTy:Ty→TypeId→Bool
 | .b,t=>match P.underlying t with | some .bool=>true | _=>false
 | .i k,t=>match P.underlying t with | some (.int k')=>k==k' | _=>false
 | .s,t=>match P.underlying t with | some .string=>true | _=>false
 | .sl es e,t=>match P.underlying t with | some (.slice u)=>P.cellsOf u==es&&decide (0<es)&&e.size==es&&chkTy e u | _=>false
 | .st fs,t=>match P.underlying t with | some (.struct gs)=>P.cellsOf t==Ty.sizes fs&&chkTys fs gs.toList 0 | _=>false
def chkTys:List Ty→List Field→Nat→Bool
 | [],[],_=>true
 | t::ts,g::gs,o=>g.offset==o&&P.cellsOf g.type==t.size&&chkTy t g.type&&chkTys ts gs (o+t.size)
 | _,_,_=>false
end
end
mutual
theorem WT_length:∀{t:Ty} {cs:List D},WT t cs→cs.length=t.size
 | .b,cs,h=>by simp only [WT] at h;obtain ⟨x,rfl⟩:=h;rfl
 | .i k,cs,h=>by simp only [WT] at h;obtain ⟨x,rfl,_⟩:=h;rfl
 | .s,cs,h=>by simp only [WT] at h;obtain ⟨x,rfl,_⟩:=h;rfl
 | .sl es e,cs,h=>by simp only [WT] at h;obtain ⟨x,r,rfl,_⟩:=h;rfl
 | .st fs,cs,h=>by simp only [WT] at h;simpa [Ty.size] using WTs_length h
theorem WTs_length:∀{ts:List Ty} {cs:List D},WTs ts cs→cs.length=Ty.sizes ts
 | [],cs,h=>by simp only [WTs] at h;subst h;rfl
 | t::ts,cs,h=>by
  simp only [WTs] at h
  obtain ⟨a,b,rfl,h1,h2⟩:=h
  simp [Ty.sizes,WT_length h1,WTs_length h2]
end
def I0 (w:World) (b:Nat):Nat:=match w.heap[b]? with | some (.cells c _ _)=>c.size | _=>0
theorem I0_new (w:World):∀b,w.heap.size≤b→I0 w b=0:=by
 intro b hb
 simp [I0,Array.getElem?_eq_none hb]
theorem cell_I0 {w:World} {b i:Nat} {v:Value} (h:w.cell? ⟨b,i,none⟩=some v):i<I0 w b:=by
 simp only [World.cell?] at h
 unfold I0
 split at h
 ·rename_i c T f hb
  rw [hb]
  simp only [Option.isSome_none,Bool.false_eq_true,if_false] at h
  exact (Array.getElem?_eq_some_iff.1 h).1
 ·simp at h
section
variable {H:Type} {enc:TypeId×Value→H} {P:Program} {w:World} {φ:Phi}
theorem cells_get {a:Addr} {n:Nat} {cs:List Value} (h:w.cells? 0 a n=some cs):cs.length=n∧∀i,i<n→∃v,cs[i]?=some v∧w.cell? (a.add i)=some v:=by
 simp only [World.cells?,Nat.zero_le,if_true] at h
 have h1:=mapM_some_length h
 simp only [List.length_range] at h1
 refine ⟨h1,fun i hi=>?_⟩
 have h2:=mapM_some_get h i i (by simp [hi])
 have hv:cs[i]?=some cs[i]:=by simp
 exact ⟨_,hv,h2.trans hv⟩
theorem add_none (a:Addr) (n:Nat) (h:a.spot=none):a.add n=⟨a.block,a.off+n,none⟩:=by
 obtain ⟨b,o,s⟩:=a
 simp only at h
 subst h
 exact addr_add b o n
theorem cell_spot {a:Addr} {v:Value} (h:w.cell? a=some v):a.spot=none:=by
 simp only [World.cell?] at h
 split at h
 ·cases hs:a.spot with
  | none=>rfl
  | some x=>simp [hs] at h
 ·simp at h
theorem trod_rel (sp:Nat→Bool):∀(fuel:Nat) {ty:Ty} {t:TypeId} {cs:List Value} {x:DataW H×List MemPlace},chkTy P ty t=true→DataW.trod enc P w 0 sp true fuel t cs=some x →
  ∃xs,WT ty xs∧relDs φ (I0 w) w xs cs∧∀v∈cs,v.oneCell'=true:=by
 intro fuel
 induction fuel with
 | zero=>intro ty t cs x _ h;simp [DataW.trod] at h
 | succ fuel ih =>
  intro ty t cs x hc h
  cases ty with
  | b =>
   simp only [chkTy] at hc
   split at hc
   ·rename_i hu
    obtain ⟨b,rfl,_⟩:=DataW.trod_bool hu h
    exact ⟨[.b b],by simp only [WT];exact ⟨b,rfl⟩,by simp [relDs,relD],by simp [Value.oneCell']⟩
   ·simp at hc
  | i k =>
   simp only [chkTy] at hc
   split at hc
   ·rename_i k' hu
    rw [beq_iff_eq] at hc
    subst hc
    obtain ⟨n,rfl,_,hw⟩:=DataW.trod_int hu h
    refine ⟨[.i k n],?_,by simp [relDs,relD],by simp [Value.oneCell']⟩
    simp only [WT]
    exact ⟨n,rfl,by simpa [Lit.wf,InK] using hw⟩
   ·simp at hc
  | s =>
   simp only [chkTy] at hc
   split at hc
   ·rename_i hu
    obtain ⟨s,rfl,_,hs⟩:=DataW.trod_string hu h
    refine ⟨[.s s.toList],?_,by simp [relDs,relD],by simp [Value.oneCell']⟩
    simp only [WT]
    refine ⟨s.toList,rfl,?_⟩
    have:s.toList.length=s.size:=by simp [ByteArray.toList_eq]
    omega
   ·simp at hc
  | sl es e =>
   simp only [chkTy] at hc
   split at hc
   ·rename_i u hu
    simp only [Bool.and_eq_true,beq_iff_eq,decide_eq_true_eq] at hc
    obtain ⟨⟨⟨hes,hpos⟩,hsz⟩,hce⟩:=hc
    rcases DataW.trod_slice hu h with ⟨rfl,_⟩ | ⟨a,len,cap,elems,rest,n,hn,rfl,_,_,hlc,hcm,hel,hcell,_,_⟩
    ·refine ⟨[.sl es true []],?_,by simp [relDs,relD],by simp [Value.oneCell']⟩
     simp only [WT]
     exact ⟨true,[],rfl,fun _=>rfl,by simp,by simp⟩
    ·obtain rfl:fuel=n:=by omega
     rw [hes] at hcell
     have hrow:∀i,i<len→∃row vs,WT e row∧relDs φ (I0 w) w row vs∧(∀v∈vs,v.oneCell'=true)∧vs.length=es∧∀j v,vs[j]?=some v→w.cell? ((a.add (i*es)).add j)=some v:=by
      intro i hi
      have hy:=hcell i hi
      rw [show elems[i]?=some elems[i] by simp] at hy
      simp only [Option.bind_eq_some_iff] at hy
      obtain ⟨vs,hvs,ht⟩:=hy
      obtain ⟨row,k1,k2,k3⟩:=ih (ty:=e) hce ht
      obtain ⟨l1,l2⟩:=cells_get hvs
      refine ⟨row,vs,k1,k2,k3,l1,fun j v hj=>?_⟩
      have hj':j<es:=by
       rw [←l1]
       exact (List.getElem?_eq_some_iff.1 hj).1
      obtain ⟨v',hv',hc'⟩:=l2 j hj'
      rw [hv'] at hj
      simp at hj
      subst hj
      exact hc'
     let row:Nat→List D:=fun i=>if h:i<len then Classical.choose (hrow i h) else []
     have hrow2:∀i,i<len→∃vs,WT e (row i)∧relDs φ (I0 w) w (row i) vs∧(∀v∈vs,v.oneCell'=true)∧vs.length=es∧∀j v,vs[j]?=some v→w.cell? ((a.add (i*es)).add j)=some v:=by
      intro i hi
      have:=Classical.choose_spec (hrow i hi)
      simpa only [row,hi,dite_true] using this
     clear_value row
     refine ⟨[.sl es false ((List.range len).map row)],?_,?_,by simp [Value.oneCell']⟩
     ·simp only [WT]
      refine ⟨false,_,rfl,by simp,by simp;omega,fun r hr=>?_⟩
      simp only [List.mem_map,List.mem_range] at hr
      obtain ⟨i,hi,rfl⟩:=hr
      exact (hrow2 i hi).choose_spec.1
     ·simp only [relDs,and_true,relD]
      refine ⟨some a,cap,by simp,by simpa using hlc,by simp,fun _=>⟨a,rfl,fun hne=>?_⟩⟩
      have hl0:0<len:=by
       rcases Nat.eq_zero_or_pos len with h0 | h0
       ·subst h0;simp at hne
       ·exact h0
      have hspot:a.spot=none:=by
       obtain ⟨vs,_,_,_,hl,hcell⟩:=hrow2 0 hl0
       have hv:vs[0]?=some vs[0]:=by simp
       have:=cell_spot (hcell 0 _ hv)
       simpa [Addr.add] using this
      have hcellAt:∀i,∀vs,(∀j v,vs[j]?=some v→w.cell? ((a.add (i*es)).add j)=some v)→relDs φ (I0 w) w (row i) vs→(∀v∈vs,v.oneCell'=true)→relCells φ (I0 w) w a.block (a.off+i*es) (row i):=by
       intro i vs hcell hr h1
       refine relCells_of_vals hr (fun j v hj=>?_) h1
       have:=hcell j v hj
       rw [add_none _ _ hspot] at this
       rwa [addr_add] at this
      refine ⟨hspot,?_,relRows_of fun r rw' hr=>?_⟩
      ·obtain ⟨vs,_,_,_,hl,hcell⟩:=hrow2 (len - 1) (by omega)
       have hv:vs[es - 1]?=some vs[es - 1]:=by simp
       have:=hcell _ _ hv
       rw [add_none _ _ hspot,addr_add] at this
       have:=cell_I0 this
       simp only [List.length_map,List.length_range]
       have e1:es*len=(len - 1)*es+es:=by
        obtain ⟨k,rfl⟩:∃k,len=k+1:=⟨len - 1,by omega⟩
        simp [Nat.mul_succ,Nat.mul_comm]
       omega
      ·simp only [List.getElem?_map,Option.map_eq_some_iff] at hr
       obtain ⟨i,hi,rfl⟩:=hr
       obtain ⟨hrl,hri⟩:=List.getElem?_eq_some_iff.1 hi
       simp only [List.getElem_range] at hri
       subst hri
       simp only [List.length_range] at hrl
       obtain ⟨vs,k1,k2,k3,k4,k5⟩:=hrow2 r hrl
       exact ⟨by rw [WT_length k1,hsz],hcellAt r vs k5 k2 k3⟩
   ·simp at hc
  | st fs =>
   simp only [chkTy] at hc
   split at hc
   ·rename_i gs hu
    simp only [Bool.and_eq_true,beq_iff_eq] at hc
    obtain ⟨hsz,hcs⟩:=hc
    obtain ⟨xs,n,hn,_,hl,hxl,hxs⟩:=DataW.trod_struct hu h
    obtain rfl:fuel=n:=by omega
    rw [hsz] at hl
    have key:∀(fs:List Ty) (gl:List Field) (o:Nat),chkTys P fs gl o=true→(∀f∈gl,∃x,DataW.trod enc P w 0 sp true fuel f.type ((cs.drop f.offset).take (P.cellsOf f.type))=some x) →
      o+Ty.sizes fs=cs.length→∃ys,WTs fs ys∧relDs φ (I0 w) w ys (cs.drop o)∧∀v∈cs.drop o,v.oneCell'=true:=by
     intro fs
     induction fs with
     | nil =>
      intro gl o h1 _ h3
      simp only [Ty.sizes] at h3
      have:cs.drop o=[]:=List.drop_eq_nil_of_le (by omega)
      rw [this]
      exact ⟨[],by simp [WTs],by simp [relDs],by simp⟩
     | cons ty fs ihf =>
      intro gl o h1 h2 h3
      cases gl with
      | nil=>simp [chkTys] at h1
      | cons g gl =>
       simp only [chkTys,Bool.and_eq_true,beq_iff_eq] at h1
       obtain ⟨⟨⟨ho,hgs⟩,hgt⟩,hrest⟩:=h1
       obtain ⟨y,hy⟩:=h2 g (by simp)
       rw [ho,hgs] at hy
       obtain ⟨a,a1,a2,a3⟩:=ih (ty:=ty) hgt hy
       simp only [Ty.sizes] at h3
       obtain ⟨b,b1,b2,b3⟩:=ihf gl (o+ty.size) hrest (fun f hf=>h2 f (by simp [hf])) (by omega)
       have hsplit:cs.drop o=(cs.drop o).take ty.size++cs.drop (o+ty.size):=by
        rw [←List.drop_drop,List.take_append_drop]
       refine ⟨a++b,by simp only [WTs];exact ⟨a,b,rfl,a1,b1⟩,?_,fun v hv=>?_⟩
       ·rw [hsplit];exact relDs_append a2 b2
       ·rw [hsplit] at hv
        exact (List.mem_append.1 hv).elim (a3 v) (b3 v)
    obtain ⟨ys,y1,y2,y3⟩:=key fs gs.toList 0 hcs (fun f hf=>by
     obtain ⟨i,hi,rfl⟩:=List.getElem_of_mem hf
     have hi':i<gs.size:=by simpa using hi
     have:=hxs i gs[i] (by simp)
     have hx:xs[i]?=some (xs[i]'(by omega)):=by simp
     exact ⟨_,by simpa using this.trans hx⟩) (by simpa using hl.symm)
    exact ⟨ys,by simpa only [WT] using y1,by simpa using y2,by simpa using y3⟩
   ·simp at hc
theorem param_rel {sp:Nat→Bool} {ty:Ty} {t:TypeId} {v:Value} {d:DataW H} {ps:List MemPlace} {base:Nat} (hc:chkTy P ty t=true) (hok:Value.okWide P w .any base t v) (h:DataW.Trod enc P w 0 sp true t v d ps) :
  ∃x,WV ty x∧relD φ (I0 w) w x v:=by
 obtain ⟨fuel,h⟩:=h
 obtain ⟨xs,h1,h2,h3⟩:=trod_rel (φ:=φ) sp fuel hc h
 have one:v.cells.toList=[v]→∃x,xs=[x]∧relD φ (I0 w) w x v:=by
  intro he
  rw [he] at h2
  match xs,h2 with
  | [x],h2=>simp only [relDs,and_true] at h2;exact ⟨x,rfl,h2⟩
  | [],h2=>simp [relDs] at h2
  | _::_::_,h2=>simp [relDs] at h2
 cases ty with
 | st fs =>
  simp only [chkTy] at hc
  split at hc
  ·rename_i gs hu
   obtain ⟨A,rfl,_⟩:=okWide_struct hu hok
   refine ⟨.ag xs,by simp only [WV];exact ⟨xs,rfl,by simpa only [WT] using h1⟩,?_⟩
   simp only [relD]
   exact ⟨A,rfl,h2,h3⟩
  ·simp at hc
 | b =>
  simp only [chkTy] at hc
  split at hc
  ·rename_i hu
   obtain ⟨b,rfl⟩:=okWide_bool hu hok
   obtain ⟨x,rfl,h⟩:=one rfl
   exact ⟨x,h1,h⟩
  ·simp at hc
 | i k =>
  simp only [chkTy] at hc
  split at hc
  ·rename_i k' hu
   obtain ⟨b,rfl⟩:=okWide_int hu hok
   obtain ⟨x,rfl,h⟩:=one rfl
   exact ⟨x,h1,h⟩
  ·simp at hc
 | s =>
  simp only [chkTy] at hc
  split at hc
  ·rename_i hu
   obtain ⟨b,rfl⟩:=okWide_string hu hok
   obtain ⟨x,rfl,h⟩:=one rfl
   exact ⟨x,h1,h⟩
  ·simp at hc
 | sl es e =>
  simp only [chkTy] at hc
  split at hc
  ·rename_i u hu
   obtain ⟨a,l,c,rfl⟩:=okWide_slice hu hok
   obtain ⟨x,rfl,h⟩:=one rfl
   exact ⟨x,h1,h⟩
  ·simp at hc
def chkParams (P:Program):List Ty→List TypeId→Bool
 | [],[]=>true
 | ty::tys,t::ts=>chkTy P ty t&&P.readableRec t&&decide (t<P.types.size)&&chkParams P tys ts
 | _,_=>false
theorem params_rel {sp:Nat→Bool} {base:Nat}:∀{tys:List Ty} {ts:List TypeId} {vs:List Value} {ds:List (DataW H)} {ps:List MemPlace},chkParams P tys ts=true →
  (∀(j:Nat) t v,ts[j]?=some t→vs[j]?=some v→Value.okWide P w .any base t v)→DataW.TrodAll enc P w 0 sp true ts vs ds ps→ds.length=tys.length∧∃xs,WVs tys xs∧relDs φ (I0 w) w xs vs
 | [],[],[],[],ps,_,_,_=>⟨rfl,[],by simp [WVs],by simp [relDs]⟩
 | ty::tys,t::ts,v::vs,d::ds,ps,hc,hok,h=>by
  simp only [chkParams,Bool.and_eq_true] at hc
  simp only [DataW.TrodAll] at h
  obtain ⟨p,q,h1,h2,_⟩:=h
  obtain ⟨x,k1,k2⟩:=param_rel (φ:=φ) hc.1.1.1 (hok 0 t v rfl rfl) h1
  obtain ⟨hl,xs,l1,l2⟩:=params_rel hc.2 (fun j t v ht hv=>hok (j+1) t v (by simpa using ht) (by simpa using hv)) h2
  exact ⟨by simp [hl],x::xs,by simp only [WVs];exact ⟨x,xs,rfl,k1,l1⟩,by simp only [relDs];exact ⟨k2,l2⟩⟩
 | [],_::_,_,_,_,hc,_,_=>by simp [chkParams] at hc
 | _::_,[],_,_,_,hc,_,_=>by simp [chkParams] at hc
 | [],[],_::_,_,_,_,_,h=>by simp [DataW.TrodAll] at h
 | [],[],[],_::_,_,_,_,h=>by simp [DataW.TrodAll] at h
 | _::_,_::_,[],_,_,_,_,h=>by simp [DataW.TrodAll] at h
 | _::_,_::_,_::_,[],_,_,_,h=>by simp [DataW.TrodAll] at h
theorem params_stay (hl:laidOutB P=true) {W':World} (hb:Below w.heap.size w W'):∀{tys:List Ty} {ts:List TypeId} {vs:List Value} {ds:List (DataW H)} {ps:List MemPlace},chkParams P tys ts=true →
  DataW.TrodAll enc P w 0 (fun _=>true) true ts vs ds ps→(∀x∈ps,x.block<w.heap.size)→DataW.TrodAll enc P W' 0 (fun b=>decide (b<w.heap.size)) true ts vs ds ps
 | [],[],[],[],ps,_,h,_=>h
 | ty::tys,t::ts,v::vs,d::ds,ps,hc,h,hlt=>by
  simp only [chkParams,Bool.and_eq_true,decide_eq_true_eq] at hc
  simp only [DataW.TrodAll] at h ⊢
  obtain ⟨p,q,h1,h2,rfl⟩:=h
  exact ⟨p,q,Below.trod hl hc.1.1.2 hc.1.2 h1 hb (fun x hx=>hlt x (by simp [hx])),params_stay hl hb hc.2 h2 (fun x hx=>hlt x (by simp [hx])),rfl⟩
 | [],_::_,_,_,_,hc,_,_=>by simp [chkParams] at hc
 | _::_,[],_,_,_,hc,_,_=>by simp [chkParams] at hc
 | [],[],_::_,_,_,_,h,_=>by simp [DataW.TrodAll] at h
 | [],[],[],_::_,_,_,h,_=>by simp [DataW.TrodAll] at h
 | _::_,_::_,[],_,_,_,h,_=>by simp [DataW.TrodAll] at h
 | _::_,_::_,_::_,[],_,_,h,_=>by simp [DataW.TrodAll] at h
end
theorem law_contract {P:Program} {φ:Phi} {Pv:Prog} {f:Nat} {fn:Func} {s:ChangeSpec} {tys:List Ty} {rt:TypeId} (hm:P.follows .mixedOrders=true) (hk:LkOk P φ) (hF:∀f F,Pv f=some F→FnOk P φ f F) (hl:laidOutB P=true)
  (hps:chkParams P tys fn.params.toList=true) (hrt:fn.resultTypes=#[rt]) (hu:P.underlying rt=some .bool) (hvars:s.vars=[])
  (hs:∀(H:Type) (ds:List (DataW H)),ds.length=tys.length→s.fn H ds={ results:=[.lit (.bool true)],args:=ds,vars:=[] })
  (law:∀xs,WVs tys xs→ev Pv (.call f (xs.map V.d) [])=some (.val (.d (.b true)) []))
  {H:Type} {enc:TypeId×Value→H} {W:World} {base:Nat} {args:Array Value} {ds gs:List (DataW H)} {before:List MemPlace}
  (hval:∀(j:Nat) t v,fn.params[j]?=some t→args[j]?=some v→Value.okWide P W .any base t v)
  (hW:DataW.Whole enc P fn.params.toList s.vars false W args.toList ds gs before) :
  Calls P (φ f) args W fun e W'=>∃v,e = .returned v∧s.post enc P fn false true false false W args v W':=by
 have hW':=hW
 obtain ⟨p,q,hA,hV,rfl,hfz,hnd⟩:=hW
 rw [hvars] at hV
 obtain ⟨rfl,rfl⟩:=trodVars_none hV
 obtain ⟨hdl,xs,h1,h2⟩:=params_rel (φ:=φ) hps (fun j t v ht hv=>hval j t v (by simpa using ht) (by simpa using hv)) hA
 refine (calls_of_ev hm hk hF (law xs h1) (I0_new W) h2).mono fun e W' h=>?_
 obtain ⟨v',I',rfl,hg,_,_,hr⟩:=h
 have hv:=hr ⟨fun _=>0,fun _=>0,I'⟩ rfl
 have hv':=relD_bool (by simpa only [relV] using hv)
 subst hv'
 have hB:Below W.heap.size W W':=⟨hg.os,hg.tape,hg.output,hg.size,hg.same⟩
 have hlt:∀x∈p,x.block<W.heap.size:=fun x hx=>by simpa using hW'.lt x (by simp [hx])
 have hspec:=hs H ds hdl
 refine ⟨_,rfl,ds,[],p++[],[],p,[],hW',?_,?_,?_,hB.frame _,fun h=>by simp at h⟩
 ·rw [List.append_nil,hspec,hrt]
  exact trodAll_mk1 (shut_bool hu true)
 ·rw [List.append_nil,hspec]
  exact params_stay hl hB hps hA hlt
 ·rw [hvars,List.append_nil,hspec]
  exact (rfl:([]:List MemPlace)=[])
end Go.VS
