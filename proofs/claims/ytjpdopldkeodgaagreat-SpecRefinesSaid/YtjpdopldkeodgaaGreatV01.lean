import Derived.Test.YtjpdopldkeodgaaGreatV00
import Derived.Laws.Sem
import GoSem.Extern.Table
import Derived.Laws.Cover3
import Derived.ChangeKeysEq
import Derived.WideLaws
set_option linter.all false
set_option maxHeartbeats 1000000
namespace Go.VS
section
variable (P:Program)(φ:Nat->Nat)(nt:Nat)
def Nj(v:Value)(x:D):Bool :=
 match v,x with
 | .bool a,.b b=>a==b
 | .int k n,.i k' n'=>k==k'&&n==n'
 | .string s,.s x=>s.toList==x
 | .pointer none,.nil=>true
 | .slice none 0 0,.sl _ true []=>true
 | .map none,.uu=>true
 | .nilFunc,.cN=>true
 | .nilIface,.B3=>true
 | .func (.func f) a b,.fn g [] []=>φ g==f&&a.isEmpty&&b.isEmpty
 |_,_=>false
def C8:List Value->List D->Bool
 | [],[]=>true
 |v::vs,x::xs=>Nj φ v x&&C8 vs xs
 |_,_=>false
def Nk(v:Value)(x:D):Bool :=
 match v,x with
 | .agg A,.ag ds=>C8 φ A.toList ds
 |v,x=>Nj φ v x
def ahC(v:Value)(z:List D):Bool:=C8 φ v.cells.toList z
def dM(o:Operand)(a:A):Bool :=
 match o,a with
 | .tmp t,.t n=>t==n
 | .const v,.k x=>Nk φ v x
 | .func f,.k (.fn g [] [])=>φ g==f
 |_,_=>false
def nZ:List Operand->List A->Bool
 | [],[]=>true
 |o::os,a::as=>dM φ o a&&nZ os as
 |_,_=>false
def Nl:Option Operand->Option A->Bool
 |none,none=>true
 |some o,some a=>dM φ o a
 |_,_=>false
def jw(t:TypeId)(n:Nat):Bool:=(P.info? t).map (·.size)==some n
def wA(t:TypeId)(ag:Bool):Bool :=
 match P.underlying t with
 |some (.struct _) |some (.array ..)=>ag
 |some _=>!ag
 |none=>false
def Bb(t:TypeId)(z:List D):Bool :=
 match P.info? t with
 |some i=>match i.zero with
  |some v=>ahC φ v z&&i.size==z.length
  |none=>false
 |none=>false
def gj(o:Oper)(d:Nat):Bool:=o.dst==some d&&decide (d<nt)
def p5(o:Oper)(d:Option Nat):Bool:=o.dst==d&&d.all (λd=>decide (d<nt))
def C9(fs:Array Field):List (Nat×Operand)->List (Nat×Nat×A)->Bool
 | [],[]=>true
 |(i,x)::r,(o,n,a)::r'=>(match fs[i]? with |some f=>f.offset==o&&jw P f.type n |none=>false)&&dM φ x a&&C9 fs r r'
 |_,_=>false
def Ff:List (Nat×Operand)->List (Nat×A)->Bool
 | [],[]=>true
 |(i,x)::r,(j,a)::r'=>i==j&&dM φ x a&&Ff r r'
 |_,_=>false
def wC(t:TypeId)(k:CK):Bool :=
 match P.underlying t,k with
 |some .bool,.b |some (.int _),.i |some .string,.s=>true
 |_,_=>false
def x7:Nat->List Field->List CK->Bool
 |_,[],[]=>true
 |off, f :: r, k :: ks => f.name != "_" && f.offset == off && wC P f.type k && x7 (off + 1) r ks
 |_,_,_=>false
def Da(t:TypeId)(ks:List CK):Bool :=
 match P.underlying t with
 |some (.struct fs)=>!P.stoodInHeld t&&!P.eqGuardType P.depth t&&x7 P 0 fs.toList ks
 |_=>false
def wD(kt:TypeId)(ks:List CK):Bool :=
 match ks with
 | [k]=>wC P kt k
 |_=>Da P kt ks
def Tl(t:TypeId)(v:Value)(k:NK):Bool :=
 match P.underlying t,v,k with
 |some (.slice _),.slice none 0 0,.sl |some (.map ..),.map none,.mp |some (.func ..),.nilFunc,.fn |some (.pointer _),.pointer none,.pt |some (.interface _),.nilIface,.lW=>true
 |_,_,_=>false
def Tm(fn:Func):Bool :=
 fn.origin == "slices.overlaps" && (Extern.allGenericRows.lookup fn.name).isNone && (Extern.allTypedRows.lookup fn.name).isNone && (Extern.allRows.lookup fn.name).isNone && (Extern.allNextRows.lookup fn.name).isNone
def Tn (k n : Nat) (e : TypeId) : Array Field := ((List.range k).map fun i => ({ name := "", type := e, offset := i * n, embedded := false, tag := "", pkgPath := "", byteOffset := 0 } : Field)).toArray
def To(t:TypeId)(ks:List CK):Bool :=
 match P.underlying t with
 |some (.array n e)=>!P.eqGuardType P.depth t&&(match ks with |k::_=>decide (ks=List.replicate n k)&&wC P e k&&jw P e 1 | []=>false)
 |_=>false
def Ip(n:Nat):List FieldStep->TypeId->Bool
 | [],t=>match P.underlying t with |some (.pointer _)=>false |some _=>true |none=>false
 |s::r,_=>match P.underlying s.struct with
  |some (.struct fs)=>(match fs[s.index]? with |some f=>!s.deref&&f.offset==0&&wA P f.type true&&jw P f.type n&&Ip n r f.type |none=>false)
  |_=>false
def Tp(nm:String)(t n f:Nat):Bool :=
 match P.info? t with
 |some i=>(match i.methods.find? (·.name==nm)with
  |some m=>(match m.func with |some (g,false)=>φ f==g&&Ip P n m.path.toList t |_=>false)
  |none=>false)
 |none=>false
def cL(o:Oper)(i:I):Bool :=
 match i with
 | .mv d x=>gj nt o d&&(match o.op with | .move y | .assign y=>dM φ y x |_=>false)
 | .pick d c a b=>gj nt o d&&(match o.op with | .pick c' a' b'=>dM φ c' c&&dM φ a' a&&dM φ b' b |_=>false)
 | .box d x _ _=>gj nt o d&&(match o.op with | .box _ y=>dM φ y x |_=>false)
 | .new d z=>gj nt o d&&(match o.op with | .alloc t=>Bb P φ t z |_=>false)
 | .build d z ps=>gj nt o d&&(match o.op with
  | .build t qs=>Bb P φ t z&&(match P.underlying t with |some (.struct fs)=>C9 P φ fs qs.toList ps&&fs.all (λf=>(P.info? f.type).isSome) |some (.array k e)=>(match P.info? e with |some i=>C9 P φ (Tn k i.size e) qs.toList ps |none=>false) |_=>false)
  |_=>false)
 | .lf d es n z ps _=>gj nt o d&&(match o.op with
  | .buildSlice t k qs=>k==n&&decide (n*es<=16777216)&&decide (0<es)&&(match P.underlying t with |some (.slice e)=>Bb P φ e z&&z.length==es&&Ff φ qs.toList ps |_=>false)
  |_=>false)
 | .ld d x n ag | .sj d x n ag=>gj nt o d&&(match o.op with | .load t y=>dM φ y x&&wA P t ag&&jw P t n |_=>false)
 | .st x y n fz=>(match o.op with | .store t x' y'=>o.dst==none&&dM φ x' x&&dM φ y' y&&jw P t n&&decide (0<n)&&(match x,fz with | .t d,true=>decide (d<nt) |_,b=>!b) |_=>false)
 | .fa d x off n | .pJ d x off n=>gj nt o d&&(match o.op with
  | .fieldAddr t y k=>dM φ y x&&decide (0<n)&&(match P.underlying t with |some (.struct fs)=>(match fs[k]? with |some f=>f.offset==off&&jw P f.type n |none=>false) |_=>false)
  |_=>false)
 | .ji d x j es=>gj nt o d&&(match o.op with
  | .indexAddr t y k=>dM φ y x&&dM φ k j&&(match P.underlying t with |some (.slice e)=>jw P e es&&decide (0<es) |_=>false)
  |_=>false)
 | .oB d x j len es=>gj nt o d&&(match o.op with
  | .indexAddr t y k=>dM φ y x&&dM φ k j&&(match P.underlying t with |some (.array n e)=>n==len&&decide (1<len)&&jw P e es&&decide (0<es) |_=>false)
  |_=>false)
 | .vF d es z n k=>gj nt o d&&(match o.op with
  | .makeSlice t n' k'=>dM φ n' n&&dM φ k' k&&decide (0<es)&&(match P.underlying t with
   |some (.slice e)=>Bb P φ e z&&(match P.info? e with |some i=>i.size==es&&decide (i.bytes<=16777216) |none=>false)
   |_=>false)
  |_=>false)
 | .rY d x off n ag=>gj nt o d&&(match o.op with
  | .field t y k=>dM φ y x&&(match P.underlying t with |some (.struct fs)=>(match fs[k]? with |some f=>f.offset==off&&jw P f.type n&&wA P f.type ag |none=>false) |_=>false)
  |_=>false)
 | .sX d x=>gj nt o d&&(match o.op with | .nilCheck y=>dM φ y x |_=>false)
 | .qW d x lo hi mx es=>gj nt o d&&(match o.op with
  | .slice t y (some lo') (some hi') (some Y4)=>dM φ y x&&dM φ lo' lo&&dM φ hi' hi&&dM φ Y4 mx&&(match P.underlying t with |some (.slice e)=>jw P e es |_=>false)
  |_=>false)
 | .mx d x y=>gj nt o d&&(match o.op with
  | .call c=>(match c.callee,c.args.toList with
   | .builtin .max,[x',y']=>dM φ x' x&&dM φ y' y
   |_,_=>false)
  |_=>false)
 | .nr d t x=>gj nt o d&&(match o.op with
  | .makeInterface t' y=>t'==t&&dM φ y x&&(match P.underlying t with |some (.interface _)=>false |some _=>true |none=>false)
  |_=>false)
 | .inv d nm j4 x xs=>p5 nt o d&&(match o.op with
  | .call c=>(match c.callee with
   | .invoke y nm'=>nm'==nm&&dM φ y x&&nZ φ c.args.toList xs&&j4.all (λe=>Tp P φ nm e.1 e.2.1 e.2.2)
   |_=>false)
  |_=>false)
 | .bad d=>p5 nt o d
 | .cap d x=>gj nt o d&&(match o.op with
  | .call c=>(match c.callee,c.args.toList,c.argTypes.toList with
   | .builtin .cap,[y],[t]=>dM φ y x&&(match P.underlying t with |some (.slice _)=>true |_=>false)
   |_,_,_=>false)
  |_=>false)
 | .qX d x k es z=>gj nt o d&&(match o.op with
  | .call c=>(match c.callee,c.args.toList,c.argTypes.toList with
   | .builtin .append,[x',k'],[t,t']=>dM φ x' x&&dM φ k' k&&decide (0<es)&&(match P.underlying t,P.underlying t' with
    |some (.slice e),some (.int _)=>Bb P φ e z&&(match P.info? e with |some i=>i.size==es&&decide (i.bytes<=16384) |none=>false)
    |_,_=>false)
   |_,_,_=>false)
  |_=>false)
 | .qY d f x y es=>gj nt o d&&(match o.op with
  | .call c=>(match c.callee with
   | .value (.func g)=>φ f==g&&nZ φ c.args.toList [x,y]&&(match P.funcs[g]? with
    |some fn => !(fn.name == "runtime.NumGoroutine") && fn.body.isNone && Tm fn && (match fn.params.toList with
     | [t,_]=>(match P.underlying t with |some (.slice e)=>decide (0<es)&&jw P e es |_=>false)
     |_=>false)
    |none=>false)
   |_=>false)
  |_=>false)
 | .qp d x es z=>p5 nt o d&&(match o.op with
  | .call c=>(match c.callee,c.args.toList,c.argTypes.toList with
   | .builtin .clear,[y],[t]=>dM φ y x&&(match P.underlying t with |some (.slice e)=>Bb P φ e z&&z.length==es&&decide (0<es) |_=>false)
   |_,_,_=>false)
  |_=>false)
 | .copy d x y es=>p5 nt o d&&(match o.op with
  | .call c=>(match c.callee,c.args.toList,c.argTypes.toList with
   | .builtin .copy,[x',y'],[t,t']=>dM φ x' x&&dM φ y' y&&decide (0<es)&&(match P.underlying t,P.underlying t' with
    |some (.slice e),some (.slice _)=>jw P e es
    |_,_=>false)
   |_,_,_=>false)
  |_=>false)
 | .bin d op x y=>gj nt o d&&(match o.op with
  | .binOp op' t x' y' _=>op'==op&&dM φ x' x&&dM φ y' y&&(match P.underlying t with |some (.int _) |some .string=>true |_=>false)
  |_=>false)
 | .eqv d neg x y ks=>gj nt o d&&(match o.op with
  | .binOp op' t x' y' _=>op'==(if neg then .neq else .eql)&&dM φ x' x&&dM φ y' y&&(Da P t ks||To P t ks)
  |_=>false)
 | .rZ d neg x y=>gj nt o d&&(match o.op with
  | .binOp op' t x' y' _=>op'==(if neg then .neq else .eql)&&dM φ x' x&&dM φ y' y&&(match P.underlying t with |some .bool=>true |_=>false)
  |_=>false)
 | .qo d neg x k=>gj nt o d&&(match o.op with
  | .binOp op' t x' (.const v) _=>op'==(if neg then .neq else .eql)&&dM φ x' x&&Tl P t v k
  |_=>false)
 | .un d op x=>gj nt o d&&(match o.op with | .unOp op' _ y=>op'==op&&dM φ y x |_=>false)
 | .kB d k x=>gj nt o d&&(match o.op with
  | .convert s t y=>dM φ y x&&(match P.underlying s,P.underlying t with |some (.int _),some (.int k')=>k'==k |_,_=>false)
  |_=>false)
 | .len d x k=>gj nt o d&&(match o.op with
  | .call c=>(match c.callee,c.args.toList,c.argTypes.toList with
   | .builtin .len,[y],[t]=>dM φ y x&&(match P.underlying t,k with |some (.slice _),.sl |some .string,.s |some (.map ..),.mp=>true |_,_=>false)
   |_,_,_=>false)
  |_=>false)
 | .sl d x lo hi es | .sle d x lo hi es=>gj nt o d&&(match o.op with
  | .slice t y lo' hi' none=>dM φ y x&&Nl φ lo' lo&&Nl φ hi' hi&&(match P.underlying t with |some (.slice e)=>jw P e es |_=>false)
  |_=>false)
 | .app d x y es | .sk d x y es=>gj nt o d&&(match o.op with
  | .call c=>(match c.callee,c.args.toList,c.argTypes.toList with
   | .builtin .append,[x',y'],[t,t']=>dM φ x' x&&dM φ y' y&&decide (0<es)&&(match P.underlying t,P.underlying t' with
    |some (.slice e),some (.slice _)=>(match P.info? e with |some i=>i.size==es&&decide (i.bytes<=16384)&&(match i.zero with |some z=>z.cells.size==i.size&&z.cells.toList.all (·.oneCell') |none=>false) |none=>false)
    |_,_=>false)
   |_,_,_=>false)
  |_=>false)
 | .mw d=>gj nt o d&&(match o.op with | .makeMap _ none=>true |_=>false)
 | .fA m k v ks=>o.dst==none&&(match o.op with
  | .insert t m' k' v' | .mapUpdate t m' k' v'=>dM φ m' m&&dM φ k' k&&dM φ v' v&&(match P.underlying t with |some (.map kt _)=>wD P kt ks |_=>false)
  |_=>false)
 | .pG d m k z ok ks=>gj nt o d&&(match o.op with
  | .lookup t m' k' ok'=>dM φ m' m&&dM φ k' k&&ok'==ok&&(match P.underlying t with
   |some (.map kt et)=>wD P kt ks&&(match P.info? et with |some i=>(match i.zero with |some v=>Nk φ v z |none=>false) |none=>false)
   |_=>false)
  |_=>false)
 | .ext d x j=>gj nt o d&&(match o.op with | .extract y k=>k==j&&dM φ y x |_=>false)
 | .gY d f a b=>gj nt o d&&(match o.op with | .makeFunc (.func g) a' b'=>φ f==g&&nZ φ a'.toList a&&nZ φ b'.toList b |_=>false)
 | .call d f xs | .calls d f xs=>p5 nt o d&&(match o.op with
  | .call c=>(match c.callee with | .value (.func g)=>φ f==g&&nZ φ c.args.toList xs |_=>false)
  |_=>false)
 | .nq d f xs=>gj nt o d&&(match o.op with
  | .call c=>(match c.callee with | .value (.func g)=>φ f==g&&nZ φ c.args.toList xs |_=>false)
  |_=>false)
 | .mP d f xs | .jd d f xs=>p5 nt o d&&(match o.op with
  | .call c=>(match c.callee with | .value (.func g)=>φ f==g&&nZ φ c.args.toList xs |_=>false)
  |_=>false)
 | .pI d x xs=>p5 nt o d&&(match o.op with
  | .call c=>(match c.callee with | .value y=>dM φ y x&&nZ φ c.args.toList xs |_=>false)
  |_=>false)
 | .pK d x xs=>p5 nt o d&&(match o.op with
  | .call c=>(match c.callee with | .value y=>dM φ y x&&nZ φ c.args.toList xs |_=>false)
  |_=>false)
 | .nR d x xs=>p5 nt o d&&(match o.op with
  | .call c=>(match c.callee with | .value y=>dM φ y x&&nZ φ c.args.toList xs |_=>false)
  |_=>false)
end
end Go.VS
namespace Go.VS
section
variable {P:Program}{φ:fj}
structure mH(dB:Nat)(h:List O)(g:Gh)(ds:List Deferred)(w:World):Prop where
 at_:∀d∈ds,∃D,d={target:=.collected D,args:=#[]}/\dB<=D/\w.heap[D]?=some (.deferred (some []))/\∀n,(aV h n).live=true->g.β n≠D
 nodup:ds.Nodup
 le:dB<=w.heap.size
theorem Bc{w:World}{D:Nat}{o:Obj}(h:w.heap[D]?=some o):D<w.heap.size:=by
 rcases kZ D w.heap.size with hlt |hge
 .exact hlt
 .simp[JR hge]at h
theorem mH.nil{dB:Nat}{h:List O}{g:Gh}{w:World}(hl:dB<=w.heap.size):mH dB h g [] w:=⟨by simp,by simp,hl⟩
theorem mH.frame{dB m:Nat}{h h':List O}{g g':Gh}{ds:List Deferred}{w w':World}(hd:mH dB h g ds w)(hf:Frame m h g w h' g' w'):mH dB h' g' ds w' where
 at_ d hm:=by
  obtain⟨D,h1,h2,h3,h4⟩:=hd.at_ d hm;have hlt:=Bc h3;refine⟨D,h1,h2,by rw[(hf.keep D hlt h4).1];exact h3,λn hn he=>?_⟩
  rcases hf.mG n hn with⟨k,hk,hb⟩ |hs
  .exact h4 k hk (hb.trans he)
  .omega
 nodup:=hd.nodup
 le:=nh hd.le hf.size
theorem mH.x8{dB:Nat}{h:List O}{g:Gh}{ds:List Deferred}{w w':World}{n:Nat}{x:O}{I':Nat->Nat}(hd:mH dB h g ds w)(hl:(aV h n).live=true)(ht:jS w w' (g.β n)):
  mH dB (h.set n x) (g.dZ I') ds w' where
 at_ d hm:=by
  obtain⟨D,h1,h2,h3,h4⟩:=hd.at_ d hm;refine⟨D,h1,h2,by rw[ht.same D (λe=>h4 n hl e.symm)];exact h3,λk hk=>?_⟩
  by_cases hkn:k=n
  .subst hkn;exact h4 k hl
  .rw[pZ hkn]at hk;exact h4 k hk
 nodup:=hd.nodup
 le:=by rw[ht.size];exact hd.le
theorem mH.reuse{dB:Nat}{h:List O}{g:Gh}{ds:List Deferred}{w w':World}{n o:Nat}{x:O}{I':Nat->Nat}(hd:mH dB h g ds w)(hl:(aV h n).live=true)(h1:mH dB (h.set n .dead) (g.dZ I') ds w'):
  mH dB (h.set n .dead++[x]) ((g.dZ I').add (h.set n .dead).length (g.β n) o I') ds w' where
 at_ d hm:=by
  obtain⟨D,e1,e2,e3,e4⟩:=h1.at_ d hm;obtain⟨D',k1,_,_,k4⟩:=hd.at_ d hm;have hD:D=D':=by rw[e1]at k1;simpa using k1
  subst hD;refine⟨D,e1,e2,e3,λk hk=>?_⟩
  simp only[Gh.add];split
  .exact k4 n hl
  .rename_i hne
   have hlt:k<(h.set n .dead).length:=by
    rcases kZ (h.set n .dead).length k with h5 |h5
    .rw[uW h5]at hk;simp[O.live]at hk
    .omega
   rw[pY hlt]at hk;exact e4 k hk
 nodup:=hd.nodup
 le:=h1.le
structure cm(φ:fj)(nt m dB:Nat)(s:St)(g:Gh)(a:Act)(w:World):Prop where
 env:∀k,aI φ s.heap g w (cA s.env k) (a.tmps.getD k undef)
 heap:eU φ s.heap g w
 size:nt<=a.tmps.size
 defers:mH dB s.heap g a.defers w
 len:m<=s.heap.length
def eu(φ:fj)(nt m dB:Nat)(s:St)(g:Gh)(w:World)(s':St)(o:Oper)(a:Act)(K:Act->World->Prop):Prop :=
 ∀g' v' w',cm φ nt m dB s' g' (a.put o.dst v') w'->Frame m s.heap g w s'.heap g' w'->K (a.put o.dst v') w'
variable {nt m dB:Nat}{s:St}{g:Gh}{a:Act}{w:World}{K:Act->World->Prop}{Q:Exit->Act->World->Prop}{o:Oper}
theorem Fg{v':Value}{w':World}(hrun:(execOp a.eval o).run P w = .ok (.value v') w')(hk:K (a.put o.dst v') w'):o.wp P a w K Q:=by
 unfold Oper.wp;rw[hrun];exact hk
theorem Y5{w':World}(hrun:(execOp a.eval o).run P w = .ok .skip w')(hk:K (a.put o.dst undef) w'):o.wp P a w K Q:=by
 unfold Oper.wp;rw[hrun];exact hk
theorem Y6{I:Nat->Nat}{v:Value}{x:D}(h:Nj φ v x=true):bR φ I w x v/\v.oneCell'=true:=by
 unfold Nj at h;split at h
 case h_1=>simp at h;subst h;exact⟨by simp[bR],rfl⟩
 case h_2=>simp at h;obtain⟨rfl,rfl⟩:=h;exact⟨by simp[bR],rfl⟩
 case h_3=>simp at h;exact⟨by simp only[bR];exact⟨_,rfl,h⟩,rfl⟩
 case h_4=>exact⟨by simp[bR],rfl⟩
 case h_5=>exact⟨by simp[bR],rfl⟩
 case h_6=>exact⟨by simp[bR],rfl⟩
 case h_7=>exact⟨by simp[bR],rfl⟩
 case h_8=>exact⟨by simp[bR],rfl⟩
 case h_9 =>
  rename_i f A B gg;simp at h;obtain⟨⟨h1,h2⟩,h3⟩:=h;subst h2;subst h3;exact⟨by simp only[bR];exact⟨#[],#[],by rw[h1],by simp[cy],by simp[cy]⟩,rfl⟩
 case h_10=>simp at h
theorem Tq{I:Nat->Nat}:∀{vs:List Value}{xs:List D},C8 φ vs xs=true->cy φ I w xs vs/\∀v∈vs,v.oneCell'=true
 | [],[],_=>by simp[cy]
 |v::vs,x::xs,h=>by
  simp only[C8,bJ]at h;have h1:=Y6 (w:=w) (I:=I) h.1;have h2:=Tq (I:=I) h.2;exact⟨by simp only[cy];exact⟨h1.1,h2.1⟩,by simpa using⟨h1.2,h2.2⟩⟩
 | [],_::_,h=>by simp[C8]at h
 |_::_,[],h=>by simp[C8]at h
theorem Y7{I:Nat->Nat}{v:Value}{x:D}(h:Nk φ v x=true):bR φ I w x v:=by
 unfold Nk at h;split at h
 .have:=Tq (w:=w) (I:=I) h
  simp only[bR];exact⟨_,rfl,this.1,this.2⟩
 .exact(Y6 h).1
theorem eE(hs:cm φ nt m dB s g a w){x:Operand}{y:A}(h:dM φ x y=true):aI φ s.heap g w (s.get y) (a.eval x):=by
 unfold dM at h;split at h
 .simp at h;subst h;exact hs.env _
 .simp only[St.get,aI];exact Y7 h
 .simp at h
  simp only[St.get,aI,bR,Act.eval];exact⟨#[],#[],by rw[h],by simp[cy],by simp[cy]⟩
 .simp at h
theorem wE(hs:cm φ nt m dB s g a w):∀{xs:List Operand}{ys:List A},nZ φ xs ys=true->bT φ s.heap g w (ys.map s.get) (xs.map a.eval)
 | [],[],_=>by simp[bT]
 |x::xs,y::ys,h=>by
  simp only[nZ,bJ]at h;simp only[gk,bT];exact⟨eE hs h.1,wE hs h.2⟩
 | [],_::_,h=>by simp[nZ]at h
 |_::_,[],h=>by simp[nZ]at h
theorem cm.wF(hs:cm φ nt m dB s g a w){d:Nat}(hd:d<nt){v:V}{v':Value}(hv:aI φ s.heap g w v v'){ok:Bool}:
  cm φ nt m dB ⟨(d,v)::s.env,s.heap,ok⟩ g (a.put (some d) v') w where
 env k:=by
  simp only[cA,Act.put];by_cases hk:d=k
  .subst hk
   simp[pz hd hs.size,hv]
  .rw[aD hk]
   have:=hs.env k;simpa[GA hk]using this
 heap:=hs.heap
 size:=by simp only[Act.put,Array.size_setIfInBounds];exact hs.size
 defers:=hs.defers
 len:=hs.len
theorem cm.Nm(hs:cm φ nt m dB s g a w){w':World}{I':Nat->Nat}(hg:gN w w')(hI:∀b,b<w.heap.size->I' b=g.I b)
  (hnew:∀b,w'.heap.size<=b->I' b=0):cm φ nt m dB s (g.dZ I') a w' where
 env k:=lI (Tj hs.heap hg hI) (hs.env k)
 heap:=ahB hs.heap hg hI hnew
 size:=hs.size
 defers:=hs.defers.frame (C6 m hs.heap hg hI)
 len:=hs.len
theorem Bd{d:Nat}(h:gj nt o d=true):o.dst=some d/\d<nt:=by
 simpa[gj]using h
theorem Nn{d:Nat}{ov:Option V}(h:(s.eJ d ov).ok=true):∃v,ov=some v:=by
 cases ov
 .simp[St.eJ,St.fail]at h
 .exact⟨_,rfl⟩
theorem uX(hs:cm φ nt m dB s g a w){d:Nat}(hd:gj nt o d=true){v:V}{v':Value}{ok:Bool}
  (hrun:(execOp a.eval o).run P w = .ok (.value v') w)(hv:aI φ s.heap g w v v')
  (hK:eu φ nt m dB s g w ⟨(d,v)::s.env,s.heap,ok⟩ o a K):o.wp P a w K Q:=by
 obtain⟨h1,h2⟩:=Bd hd;refine Fg hrun (hK g v' w ?_ (Frame.refl _ _ _ _));rw[h1];exact hs.wF h2 hv
theorem mI(hs:cm φ nt m dB s g a w){d:Nat}(hd:gj nt o d=true){ov:Option V}(hok:(s.eJ d ov).ok=true)
  (hop:∀v,ov=some v->∃v',(execOp a.eval o).run P w = .ok (.value v') w/\aI φ s.heap g w v v')
  (hK:eu φ nt m dB s g w (s.eJ d ov) o a K):o.wp P a w K Q:=by
 obtain⟨v,rfl⟩:=Nn hok;obtain⟨v',hrun,hv⟩:=hop v rfl;exact uX hs hd hrun hv hK
theorem Y8(hs:cm φ nt m dB s g a w){d:Nat}(hd:gj nt o d=true){v:V}{v':Value}{w':World}{I':Nat->Nat}{ok:Bool}
  (hrun:(execOp a.eval o).run P w = .ok (.value v') w')(hg:gN w w')(hI:∀b,b<w.heap.size->I' b=g.I b)(hnew:∀b,w'.heap.size<=b->I' b=0)
  (hv:aI φ s.heap (g.dZ I') w' v v')(hK:eu φ nt m dB s g w ⟨(d,v)::s.env,s.heap,ok⟩ o a K):o.wp P a w K Q:=by
 obtain⟨h1,h2⟩:=Bd hd;refine Fg hrun (hK (g.dZ I') v' w' ?_ (C6 m hs.heap hg hI));rw[h1];exact(hs.Nm hg hI hnew).wF h2 hv
theorem tM{I:Nat->Nat}{v:Value}{x:Bool}(h:bR φ I w (.b x) v):v = .bool x:=by simpa[bR]using h
theorem nE{I:Nat->Nat}{v:Value}{k:IntKind}{n:Int}(h:bR φ I w (.i k n) v):v = .int k n:=by simpa[bR]using h
theorem ahD(hs:cm φ nt m dB s g a w){rec:Rec}{d:Nat}{x:A}(hc:cL P φ nt o (.mv d x)=true)
  (hK:eu φ nt m dB s g w (aU rec (.mv d x) s) o a K):o.wp P a w K Q:=by
 simp only[cL,bJ]at hc;obtain⟨hd,h⟩:=hc;split at h
 .rename_i y ho
  exact uX hs hd (v':=a.eval y) (by simp[execOp,ho]) (eE hs h) hK
 .rename_i y ho
  exact uX hs hd (v':=a.eval y) (by simp[execOp,ho]) (eE hs h) hK
 .simp at h
theorem ahE(hs:cm φ nt m dB s g a w){rec:Rec}{d:Nat}{c x y:A}(hc:cL P φ nt o (.pick d c x y)=true)(hok:(aU rec (.pick d c x y) s).ok=true)
  (hK:eu φ nt m dB s g w (aU rec (.pick d c x y) s) o a K):o.wp P a w K Q:=by
 simp only[cL,bJ]at hc;obtain⟨hd,h⟩:=hc;split at h
 .rename_i c' x' y' ho
  simp only[bJ]at h;have rc:=eE hs h.1.1;simp only[aU]at hok hK;split at hK
  .rename_i b hb
   rw[hb]at rc;have hb':=tM (by simpa only[aI]using rc)
   refine uX hs hd (v':=if b then a.eval x' else a.eval y') (by simp[execOp,ho,hb',asBool]) ?_ hK
   cases b
   .exact eE hs h.2
   .exact eE hs h.1.2
  .rename_i hne
   split at hok
   .rename_i b hb;exact absurd hb (hne b)
   .simp[St.fail]at hok
 .simp at h
theorem ahF{op:BinOp}{k:IntKind}{x y:Int}{v:V}{t:TypeId}(h:B6 op (.d (.i k x)) (.d (.i k y))=some v):
  ∃v',(binOp op t (.int k x) (.int k y)).run P w = .ok v' w/\∀(hh:List O)(g:Gh),aI φ hh g w v v':=by
 cases op<;>simp[B6,arith]at h<;>try (subst h;refine⟨_,by simp[binOp,Op.intArith,Op.intCmp];rfl,λ_ _=>by simp[aI,bR]⟩)
 case quo=>obtain⟨h0,rfl⟩:=h;exact⟨_,by simp[binOp,Op.intDiv,h0];rfl,λ_ _=>by simp[aI,bR]⟩
 case rem=>obtain⟨h0,rfl⟩:=h;exact⟨_,by simp[binOp,Op.intDiv,h0];rfl,λ_ _=>by simp[aI,bR]⟩
 case shl=>obtain⟨h0,rfl⟩:=h;exact⟨_,by simp[binOp,Op.shift,JS.2 h0];rfl,λ_ _=>by simp[aI,bR]⟩
 case shr=>obtain⟨h0,rfl⟩:=h;exact⟨_,by simp[binOp,Op.shift,JS.2 h0];rfl,λ_ _=>by simp[aI,bR]⟩
end
end Go.VS
namespace Go.VS
section
variable {P:Program}{φ:fj}
variable {nt m dB:Nat}{s:St}{g:Gh}{a:Act}{w:World}{K:Act->World->Prop}{Q:Exit->Act->World->Prop}{o:Oper}
theorem Tr{op:BinOp}{t:TypeId}{x y:Operand}{u v:Value}(hu:u≠.nilIface)(hv:∀A,u≠.agg A):(eqGuard op t x y u v).run P w = .ok () w:=by
 cases u<;>first |exact absurd rfl hu |exact absurd rfl (hv _) |(cases op<;>rfl)
theorem ahG(hs:cm φ nt m dB s g a w){rec:Rec}{d:Nat}{op:BinOp}{x y:A}(hc:cL P φ nt o (.bin d op x y)=true)(hok:(aU rec (.bin d op x y) s).ok=true)
  (hK:eu φ nt m dB s g w (aU rec (.bin d op x y) s) o a K):o.wp P a w K Q:=by
 simp only[cL,bJ]at hc;obtain⟨hd,h⟩:=hc;split at h
 .rename_i op' t x' y' ty ho
  simp only[bJ,dN]at h;obtain⟨⟨⟨rfl,hx⟩,hy⟩,ht⟩:=h;have rx:=eE hs hx;have ry:=eE hs hy;refine mI hs hd hok (λv hv=>?_) hK
  have key:∀{u u':Value}{v':Value},a.eval x'=u->a.eval y'=u'->u≠.nilIface->(∀A,u≠.agg A)->(binOp op' t u u').run P w = .ok v' w->(execOp a.eval o).run P w = .ok (.value v') w:=by
   intro u u' v' h1 h2 h3 h4 h5;simp[execOp,ho,h1,h2,Tr (P:=P) (w:=w) (op:=op') (t:=t) (x:=x') (y:=y') (v:=u') h3 h4,h5]
  unfold B6 at hv;split at hv
  ·
   rename_i k p k' q hp hq;rw[hp]at rx;rw[hq]at ry;have ex:=nE (by simpa only[aI]using rx)
   have ey:=nE (by simpa only[aI]using ry)
   by_cases hkk:k=k'
   .subst hkk
    obtain⟨v',hr,fX⟩:=ahF (P:=P) (w:=w) (φ:=φ) (op:=op') (k:=k) (x:=p) (y:=q) (v:=v) (t:=t) (by unfold B6;exact hv)
    exact⟨v',key ex ey (by simp) (by simp) hr,fX _ _⟩
   .cases op'<;>simp[hkk]at hv
    case shl=>obtain⟨h0,rfl⟩:=hv;exact⟨_,key ex ey (by simp) (by simp) (by simp[binOp,Op.shift,JS.2 h0];rfl),by simp[aI,bR]⟩
    case shr=>obtain⟨h0,rfl⟩:=hv;exact⟨_,key ex ey (by simp) (by simp) (by simp[binOp,Op.shift,JS.2 h0];rfl),by simp[aI,bR]⟩
  ·
   rename_i p q hp hq;rw[hp]at rx;rw[hq]at ry;simp only[aI,bR]at rx ry;obtain⟨bx,ex,Ts⟩:=rx;obtain⟨by',ey,hby⟩:=ry
   cases op'<;>simp at hv<;>subst hv
   .exact⟨_,key ex ey (by simp) (by simp) (by simp[binOp,Op.stringOp,Ts,hby];rfl),by simp[aI,bR]⟩
   .exact⟨_,key ex ey (by simp) (by simp) (by simp[binOp,Op.stringOp,Ts,hby];rfl),by simp[aI,bR]⟩
   .exact⟨_,key ex ey (by simp) (by simp) (by simp[binOp,Op.stringOp,Ts,hby];rfl),by simp[aI,bR]⟩
  .simp at hv
 .simp at h
theorem ahH(hs:cm φ nt m dB s g a w){rec:Rec}{d:Nat}{op:UnOp}{x:A}(hc:cL P φ nt o (.un d op x)=true)(hok:(aU rec (.un d op x) s).ok=true)
  (hK:eu φ nt m dB s g w (aU rec (.un d op x) s) o a K):o.wp P a w K Q:=by
 simp only[cL,bJ]at hc;obtain⟨hd,h⟩:=hc;split at h
 .rename_i op' t y ho
  simp only[bJ,dN]at h;obtain⟨rfl,hx⟩:=h;have rx:=eE hs hx;refine mI hs hd hok (λv hv=>?_) hK
  unfold J9 at hv;split at hv
  .rename_i b hb
   rw[hb]at rx;have ex:=tM (by simpa only[aI]using rx)
   cases op'<;>simp at hv;subst hv;exact⟨.bool (!b),by simp[execOp,ho,ex,Op.unary],by simp[aI,bR]⟩
  .rename_i k n hb
   rw[hb]at rx;have ex:=nE (by simpa only[aI]using rx)
   cases op'<;>simp at hv;subst hv;exact⟨.int k (k.wrap (0 - n)),by simp[execOp,ho,ex,Op.unary,Op.intArith],by simp[aI,bR]⟩
  .simp at hv
 .simp at h
theorem ahI(hs:cm φ nt m dB s g a w){rec:Rec}{d:Nat}{k:IntKind}{x:A}(hc:cL P φ nt o (.kB d k x)=true)(hok:(aU rec (.kB d k x) s).ok=true)
  (hK:eu φ nt m dB s g w (aU rec (.kB d k x) s) o a K):o.wp P a w K Q:=by
 simp only[cL,bJ]at hc;obtain⟨hd,h⟩:=hc;split at h
 .rename_i sc t y ho
  simp only[bJ]at h;have rx:=eE hs h.1;refine mI hs hd hok (λv hv=>?_) hK
  unfold kB at hv;split at hv
  .rename_i k' n hb
   rw[hb]at rx;have ex:=nE (by simpa only[aI]using rx)
   simp at hv;subst hv;have h2:=h.2;split at h2
   .rename_i ks kt hks nF
    simp at h2;subst h2;exact⟨.int kt (kt.wrap n),by simp[execOp,ho,ex,convert,underlying,hks,nF,Conv.intToInt],by simp[aI,bR]⟩
   .simp at h2
  .simp at hv
 .simp at h
theorem ahJ(hs:cm φ nt m dB s g a w){rec:Rec}{d j:Nat}{x:A}(hc:cL P φ nt o (.ext d x j)=true)(hok:(aU rec (.ext d x j) s).ok=true)
  (hK:eu φ nt m dB s g w (aU rec (.ext d x j) s) o a K):o.wp P a w K Q:=by
 simp only[cL,bJ]at hc;obtain⟨hd,h⟩:=hc;split at h
 .rename_i y k ho
  simp only[bJ,dN]at h;obtain⟨rfl,hx⟩:=h;have rx:=eE hs hx;refine mI hs hd hok (λv hv=>?_) hK
  unfold Km at hv;split at hv
  .rename_i vs hb
   rw[hb]at rx;simp only[aI]at rx;obtain⟨A,ex,hr⟩:=rx;obtain⟨v',h1,h2⟩:=C3 hr hv;exact⟨v',by simp only[execOp,ho,ex,Instr.extract];simp at h1;simp[h1],h2⟩
  .simp at hv
 .simp at h
theorem ahK(hs:cm φ nt m dB s g a w){rec:Rec}{d f:Nat}{x y:List A}(hc:cL P φ nt o (.gY d f x y)=true)
  (hK:eu φ nt m dB s g w (aU rec (.gY d f x y) s) o a K):o.wp P a w K Q:=by
 simp only[cL,bJ]at hc;obtain⟨hd,h⟩:=hc;split at h
 .rename_i ff x' y' ho
  simp only[bJ,dN]at h;obtain⟨⟨rfl,hx⟩,hy⟩:=h;have rx:=wE hs hx;have ry:=wE hs hy;have hrun:(execOp a.eval o).run P w = .ok (.value (.func (.func (φ f)) (x'.map a.eval) (y'.map a.eval))) w:=by simp[execOp,ho,Instr.makeFunc]
  simp only[aU]at hK;split at hK
  .rename_i p q hp hq
   exact uX hs hd hrun (by simp only[aI,bR];exact⟨_,_,rfl,by simpa using zy hp rx,by simpa using zy hq ry⟩) hK
  .exact uX hs hd hrun (by simp only[aI];exact⟨_,_,rfl,by simpa using rx,by simpa using ry⟩) hK
 .simp at h
theorem No{t:TypeId}{ag:Bool}(h:wA P t ag=true):(isAgg t).run P w = .ok ag w:=by
 unfold wA at h;split at h
 .rename_i hu;subst h;simp[isAgg,underlying,hu]
 .rename_i hu;subst h;simp[isAgg,underlying,hu]
 .rename_i dd h1 h2 hu
  simp at h;subst h;cases dd<;>simp[isAgg,underlying,hu]<;>first |exact absurd rfl (h1 _) |exact absurd rfl (h2 _ _)
 .simp at h
theorem wI{t:TypeId}{n:Nat}(h:jw P t n=true):(sizeOf t).run P w = .ok n w:=by
 unfold jw at h;cases hi:P.info? t with
 |none=>simp[hi]at h
 |some i=>simp[hi]at h;simp[sizeOf,typeInfo,hi,h]
theorem qG(b o j:Nat):(⟨b,o,none⟩:Addr).add j=⟨b,o+j,none⟩:=by unfold Addr.add;split<;>simp_all
theorem ahL{t:TypeId}{n:Nat}{ag:Bool}(lJ:wA P t ag=true)(hn:jw P t n=true){b off:Nat}{vs:List Value}
  (hc:∀(j:Nat)(v:Value),vs[j]?=some v->w.cell? ⟨b,off+j,none⟩=some v){v':Value}
  (hv:if ag then n<=vs.length/\v' = .agg (vs.take n).toArray else vs.head?=some v'):
  (Instr.loadAt t (.pointer (some ⟨b,off,none⟩))).run P w = .ok v' w:=by
 have h1:=No (P:=P) (w:=w) lJ;have h2:=wI (P:=P) (w:=w) hn;cases ag
 .simp only[eI,dI]at hv
  have:=hc 0 v' (by simpa[Wy]using hv)
  simp only[GB]at this;simp[Instr.loadAt,Instr.sureAddr,loadVar,h1,this]
 .simp only[dF]at hv
  have hl:=run_loadCells_list (P:=P) w ⟨b,off,none⟩ (vs.take n) (λj v hj=>by
   rw[qG];exact hc j v (by rw[yK]at hj;split at hj<;>simp_all))
  have hlen:(vs.take n).length=n:=by simp;omega
  rw[hlen]at hl;simp[Instr.loadAt,Instr.sureAddr,loadVar,h1,h2,hl,hv.2]
theorem Tt{I:Nat->Nat}{cs:List D}{vs:List Value}(h:cy φ I w cs vs)(n:Nat):cy φ I w (cs.take n) (vs.take n):=by
 induction cs generalizing vs n with
 |nil=>cases vs<;>simp_all[cy]
 |cons c cs ih=>cases vs<;>cases n<;>simp_all[cy]
theorem Np{h:List O}{I:Gh}{n:Nat}{ag:Bool}{cs:List D}{vs:List Value}(hr:cy φ I.I w cs vs)(h1:∀v∈vs,v.oneCell'=true){v:V}(hp:B8 n ag cs=some v):
  ∃v',(if ag then n<=vs.length/\v' = .agg (vs.take n).toArray else vs.head?=some v')/\aI φ h I w v v':=by
 have hlen:=sH hr;cases ag
 .simp only[B8,eI,dI]at hp⊢
  cases cs with
  |nil=>simp at hp
  |cons c cs =>
   cases vs with
   |nil=>simp[cy]at hr
   |cons u us =>
    simp at hp;subst hp;simp only[cy]at hr;exact⟨u,rfl,by simpa only[aI]using hr.1⟩
 .simp only[B8,dF]at hp⊢
  split at hp
  .rename_i hn
   simp at hp;subst hp;refine⟨_,⟨by omega,rfl⟩,?_⟩
   simp only[aI,bR];exact⟨_,rfl,by simpa using Tt hr n,λx hx=>h1 x (nN (by simpa using hx))⟩
  .simp at hp
theorem Iq{h:List O}{g:Gh}{n:Nat}{ag:Bool}{cs:List V}{vs:List Value}(hr:bT φ h g w cs vs)(h1:∀v∈vs,v.oneCell'=true){v:V}(hp:pack n ag cs=some v):
  ∃v',(if ag then n<=vs.length/\v' = .agg (vs.take n).toArray else vs.head?=some v')/\aI φ h g w v v':=by
 have hlen:=oP hr;cases ag
 .simp only[pack,eI,dI]at hp⊢
  cases cs with
  |nil=>simp at hp
  |cons c cs =>
   cases vs with
   |nil=>simp[bT]at hr
   |cons u us =>
    simp at hp;subst hp;simp only[bT]at hr;exact⟨u,rfl,hr.1⟩
 .simp only[pack,dF]at hp⊢
  split at hp
  .rename_i hn
   simp at hp;subst hp;refine⟨_,⟨by omega,rfl⟩,?_⟩
   have ht:=Y1 hr n;have h1':∀x∈(vs.take n).toArray.toList,x.oneCell'=true:=λx hx=>h1 x (nN (by simpa using hx))
   unfold B5;split
   .rename_i ds hds
    simp only[aI,bR];exact⟨_,rfl,by simpa using zy hds ht,h1'⟩
   .simp only[aI]
    exact⟨_,rfl,by simpa using ht,h1'⟩
  .simp at hp
theorem Y9{h:List O}{g:Gh}{b es o:Nat}{rows:List (List V)}(hr:wj φ h g w b es o rows){r:Nat}{row:List V}(hrow:rows[r]?=some row):
  ∃vs:List Value,bT φ h g w row vs/\(∀(j:Nat)(v:Value),vs[j]?=some v->w.cell? ⟨b,o+r*es+j,none⟩=some v)/\∀v∈vs,v.oneCell'=true:=by
 obtain⟨_,h2⟩:=hr r row hrow;have key:∀(cs:List V)(k:Nat),(∀(j:Nat)(c:V),cs[j]?=some c->∃x,w.cell? ⟨b,o+r*es+(k+j),none⟩=some x/\x.oneCell'=true/\aI φ h g w c x) ->
   ∃vs:List Value,bT φ h g w cs vs/\(∀(j:Nat)(v:Value),vs[j]?=some v->w.cell? ⟨b,o+r*es+(k+j),none⟩=some v)/\∀v∈vs,v.oneCell'=true:=by
  intro cs;induction cs with
  |nil=>intro k _;exact⟨[],by simp[bT],by simp,by simp⟩
  |cons c cs ih =>
   intro k hk;obtain⟨x,hx,h1,hd⟩:=hk 0 c rfl;obtain⟨vs,hv,hc,ho⟩:=ih (k+1) (λj c hj=>by
    have:=hk (j+1) c (by simpa using hj)
    rwa [show k+(j+1)=k+1+j from by omega]at this)
   refine⟨x::vs,by simp only[bT];exact⟨hd,hv⟩,λj v hj=>?_,by simpa using⟨h1,ho⟩⟩
   cases j with
   |zero=>simp at hj;subst hj;simpa using hx
   |succ j =>
    have:=hc j v (by simpa using hj)
    rwa [show k+1+j=k+(j+1)from by omega]at this
 have:=key row 0 (λj c hj=>by simpa using h2 j c hj)
 simpa using this
theorem Be{I:Nat->Nat}{cs:List D}{vs:List Value}(h:cy φ I w cs vs)(n:Nat):cy φ I w (cs.drop n) (vs.drop n):=by
 induction cs generalizing vs n with
 |nil=>cases vs<;>simp_all[cy]
 |cons c cs ih=>cases vs<;>cases n<;>simp_all[cy]
theorem Za(hs:cm φ nt m dB s g a w){rec:Rec}{d n:Nat}{ag:Bool}{x:A}(hc:cL P φ nt o (.ld d x n ag)=true)(hok:(aU rec (.ld d x n ag) s).ok=true)
  (hK:eu φ nt m dB s g w (aU rec (.ld d x n ag) s) o a K):o.wp P a w K Q:=by
 simp only[cL,bJ]at hc;obtain⟨hd,h⟩:=hc;split at h
 .rename_i t y ho
  simp only[bJ]at h;obtain⟨⟨hx,lJ⟩,hn⟩:=h;have rx:=eE hs hx;refine mI hs hd hok (λv hv=>?_) hK
  have fin:∀{b off:Nat}{vs:List Value}{v':Value},a.eval y = .pointer (some ⟨b,off,none⟩)->(∀(j:Nat)(u:Value),vs[j]?=some u->w.cell? ⟨b,off+j,none⟩=some u) ->
    (if ag then n<=vs.length/\v' = .agg (vs.take n).toArray else vs.head?=some v')->(execOp a.eval o).run P w = .ok (.value v') w:=by
   intro b off vs v' he jq jx;have:=ahL (P:=P) (w:=w) lJ hn jq jx;simp[execOp,ho,he,this]
  unfold yQ at hv;split at hv
  .rename_i cs hb
   rw[hb]at rx;simp only[aI,bR]at rx;obtain⟨b,off,he,hI,hcs⟩:=rx;obtain⟨vs,hvs,jq,h1⟩:=Ii hcs;obtain⟨v',h2,h3⟩:=Np (h:=s.heap) hvs h1 hv;exact⟨v',fin he jq h2,h3⟩
  .rename_i cs hb
   rw[hb]at rx;simp only[aI]at rx;obtain⟨b,off,us,he,hI,hcs,jq⟩:=rx;obtain⟨v',h2,h3⟩:=Iq hcs (λv hv=>let ⟨j,hj,hh⟩:=sS hv;(jq j v (by simp[hj,hh])).2) hv
   exact⟨v',fin he (λj u hj=>(jq j u hj).1) h2,h3⟩
  .rename_i k r c hb
   rw[hb]at rx;simp only[aI]at rx;obtain⟨hlt,_,rx⟩:=rx;have dD:=hs.heap.obj k;split at hv
   .rename_i es ex rows hk
    rw[hk]at dD rx;have he:=rx es rfl;cases hrow:rows[r]? with
    |none=>simp[hrow]at hv
    |some row =>
     simp[hrow]at hv;obtain⟨_,h2,_⟩:=dD;obtain⟨_,hcs⟩:=nY h2 hrow;obtain⟨vs,hvs,jq,h1⟩:=Ii hcs;obtain⟨v',h2,h3⟩:=Np (h:=s.heap) (Be hvs c) (λv hv=>h1 v (mO hv)) hv
     refine⟨v',fin he (λj u hj=>?_) h2,h3⟩
     have:=jq (c+j) u (by simpa[pF]using hj)
     rwa [<-Nat.add_assoc]at this
   .rename_i es rows hk
    rw[hk]at dD rx;have he:=rx es rfl;cases hrow:rows[r]? with
    |none=>simp[hrow]at hv
    |some row =>
     simp[hrow]at hv;obtain⟨_,h2,_⟩:=dD;obtain⟨vs,hvs,jq,h1⟩:=Y9 h2 hrow;obtain⟨v',h2,h3⟩:=Iq (Il hvs c) (λv hv=>h1 v (mO hv)) hv
     refine⟨v',fin he (λj u hj=>?_) h2,h3⟩
     have:=jq (c+j) u (by simpa[pF]using hj)
     rwa [<-Nat.add_assoc]at this
   .simp at hv
  .simp at hv
 .simp at h
end
end Go.VS
namespace Go.VS
section
variable {P:Program}{φ:fj}
variable {nt m dB:Nat}{s:St}{g:Gh}{a:Act}{w:World}{K:Act->World->Prop}{Q:Exit->Act->World->Prop}{o:Oper}
theorem Tu{I:Nat->Nat}{t:TypeId}{k:CK}(hk:wC P t k=true){x y:D}{b:Bool}(h:B7 k x y=some b){u v:Value}(hu:bR φ I w x u)(hv:bR φ I w y v)(d:Nat):
  (Op.equalIn (d+1) t u v).run P w = .ok b w:=by
 unfold wC at hk;unfold B7 at h;split at h<;>simp only[gw,reduceCtorEq,Pj]at h
 .obtain⟨rfl,rfl⟩:=h
  have hu:=nE hu;have hv:=nE hv;subst hu;subst hv;split at hk<;>simp_all;exact run_equalIn_int w d t _ _ _ _ (by assumption)
 .subst h
  have hu:=tM hu;have hv:=tM hv;subst hu;subst hv;split at hk<;>simp_all;exact run_equalIn_bool w d t _ _ (by assumption)
 .subst h
  simp only[bR]at hu hv;obtain⟨bs,rfl,hb⟩:=hu;obtain⟨cs,rfl,hc⟩:=hv;split at hk<;>simp_all;rw[run_equalIn_string w d t _ _ (by assumption),hb,hc]
theorem Ir{t:TypeId}{k:CK}(hk:wC P t k=true){xs:Array Value}{off:Nat}{v:Value}(hv:xs[off]?=some v):(part t xs off).run P w = .ok v w:=by
 have lJ:wA P t false=true:=by
  unfold wC at hk;unfold wA;split at hk<;>simp_all
 have h1:=No (P:=P) (w:=w) lJ;simp[part,h1,hv]
theorem Tv{I:Nat->Nat}(d:Nat){xs ys:Array Value}:∀{fs:List Field}{ks:List CK}{off:Nat}{p q:List D}{b:Bool},x7 P off fs ks=true->jN ks p q=some b ->
  cy φ I w p (xs.toList.drop off)->cy φ I w q (ys.toList.drop off)->(Op.eqFields (d+1) xs ys fs).run P w = .ok b w
 | [],[],_,p,q,b,_,hf,_,_=>by
  cases p<;>cases q<;>simp[jN]at hf;subst hf;simp[Op.eqFields]
 |f::fs,k::ks,off,p,q,b,hc,hf,hp,hq=>by
  simp only[x7,bJ,dN,JT]at hc;obtain⟨⟨⟨hn,rfl⟩,hk⟩,hr⟩:=hc;cases p with
  |nil=>simp[jN]at hf
  |cons x p =>
   cases q with
   |nil=>simp[jN]at hf
   |cons y q =>
    simp only[jN,nP,gI]at hf;obtain⟨b1,h1,b2,h2,rfl⟩:=hf;obtain⟨u,hu,ru⟩:=A8 hp (j:=0) rfl;obtain⟨v,hv,rv⟩:=A8 hq (j:=0) rfl;have n8:xs[f.offset]?=some u:=by simpa[pF]using hu
    have jx:ys[f.offset]?=some v:=by simpa[pF]using hv
    have iJ:cy φ I w p (xs.toList.drop (f.offset+1)):=by
     have:=Be hp 1;simpa[D0,qT]using this
    have ke:cy φ I w q (ys.toList.drop (f.offset+1)):=by
     have:=Be hq 1;simpa[D0,qT]using this
    have ih:=Tv d hr h2 iJ ke;have he:=Tu (P:=P) hk h1 ru rv d;have e1:=Ir (P:=P) (w:=w) hk n8;have e2:=Ir (P:=P) (w:=w) hk jx;simp only[Op.eqFields,hn,ne_eq,not_false_eq_true,dF,Sem.run_bind,e1,e2,Result.andThen_ok,he,Sem.run_ite,Sem.run_pure,ih];cases b1<;>simp
 | [],_::_,_,_,_,_,hc,_,_,_=>by simp[x7]at hc
 |_::_,[],_,_,_,_,hc,_,_,_=>by simp[x7]at hc
theorem Zb{I:Nat->Nat}(d:Nat){e:TypeId}{k:CK}(hk:wC P e k=true){xs ys:Array Value}:∀{m off:Nat}{p q:List D}{b:Bool},jN (List.replicate m k) p q=some b ->
  cy φ I w p (xs.toList.drop off)->cy φ I w q (ys.toList.drop off)->(Op.eqItems (d+1) e 1 xs ys (List.range' off m)).run P w = .ok b w
 | 0,off,p,q,b,hf,_,_=>by
  cases p<;>cases q<;>simp[jN]at hf;subst hf;simp[Op.eqItems]
 |m+1,off,p,q,b,hf,hp,hq=>by
  rw[Pk]at hf;cases p with
  |nil=>simp[jN]at hf
  |cons x p =>
   cases q with
   |nil=>simp[jN]at hf
   |cons y q =>
    simp only[jN,nP,gI]at hf;obtain⟨b1,h1,b2,h2,rfl⟩:=hf;obtain⟨u,hu,ru⟩:=A8 hp (j:=0) rfl;obtain⟨v,hv,rv⟩:=A8 hq (j:=0) rfl;have n8:xs[off]?=some u:=by simpa[pF]using hu
    have jx:ys[off]?=some v:=by simpa[pF]using hv
    have iJ:cy φ I w p (xs.toList.drop (off+1)):=by
     have:=Be hp 1;simpa[D0,qT]using this
    have ke:cy φ I w q (ys.toList.drop (off+1)):=by
     have:=Be hq 1;simpa[D0,qT]using this
    have ih:=Zb d hk h2 iJ ke;have he:=Tu (P:=P) hk h1 ru rv d;have e1:=Ir (P:=P) (w:=w) hk n8;have e2:=Ir (P:=P) (w:=w) hk jx;simp only[List.range'_succ,Op.eqItems,Ph,Sem.run_bind,e1,e2,Result.andThen_ok,he,Sem.run_ite,Sem.run_pure,ih];cases b1<;>simp
theorem ahM{t:TypeId}{ks:List CK}(ht:(Da P t ks||To P t ks)=true){p q:List D}{b:Bool}(hb:jN ks p q=some b){A B:Array Value}{I:Nat->Nat}(ra:cy φ I w p A.toList)(rb:cy φ I w q B.toList):
  (Op.equalIn 10000 t (.agg A) (.agg B)).run P w = .ok b w/\P.eqGuardType P.depth t=false:=by
 simp only[BY]at ht;rcases ht with ht |ht
 .unfold Da at ht
  split at ht
  .rename_i fs hfs
   simp only[bJ,kX]at ht;obtain⟨⟨oS,wJ⟩,Bf⟩:=ht;have hfo:P.fieldsOf t=fs:=by simp[Program.fieldsOf,hfs]
   have hst:P.underlying t=some (.struct (P.fieldsOf t)):=by rw[hfo];exact hfs
   have hf:=Tv (P:=P) (w:=w) 9998 Bf hb (by simpa using ra) (by simpa using rb)
   have he:=run_equalIn_struct (P:=P) w 9999 t A B hst oS;rw[hfo,hf]at he;exact⟨he,wJ⟩
  .simp at ht
 .unfold To at ht
  split at ht
  .rename_i n e hu
   simp only[bJ,kX]at ht;obtain⟨wJ,Bf⟩:=ht;split at Bf
   .rename_i k r
    simp only[bJ,fZ]at Bf;obtain⟨⟨h1,h2⟩,h3⟩:=Bf;unfold jw at h3;cases hi:P.info? e with
    |none=>simp[hi]at h3
    |some i =>
     simp[hi]at h3;have hc:P.cellsOf e=1:=by simp[Program.cellsOf,hi,h3]
     have he:=run_equalIn_array (P:=P) w 9999 A B hu hi;rw[h1]at hb;have hf:=Zb (P:=P) (w:=w) 9998 h2 (off:=0) hb (by simpa using ra) (by simpa using rb)
     rw[hc,List.range_eq_range',hf]at he;exact⟨he,wJ⟩
   .simp at Bf
  .simp at ht
theorem ahN(hs:cm φ nt m dB s g a w){rec:Rec}{d:Nat}{neg:Bool}{x y:A}{ks:List CK}(hc:cL P φ nt o (.eqv d neg x y ks)=true)(hok:(aU rec (.eqv d neg x y ks) s).ok=true)
  (hK:eu φ nt m dB s g w (aU rec (.eqv d neg x y ks) s) o a K):o.wp P a w K Q:=by
 simp only[cL,bJ]at hc;obtain⟨hd,h⟩:=hc;split at h
 .rename_i op' t x' y' ty ho
  simp only[bJ,dN]at h;obtain⟨⟨⟨hop,hx⟩,hy⟩,ht⟩:=h;have rx:=eE hs hx;have ry:=eE hs hy;refine mI hs hd hok (λv hv=>?_) hK
  unfold J7 at hv;split at hv
  .rename_i p q hp hq
   rw[hp]at rx;rw[hq]at ry;simp only[aI,bR]at rx ry;obtain⟨A,ex,ra,_⟩:=rx;obtain⟨B,ey,rb,_⟩:=ry;simp only[gI]at hv;obtain⟨b,hb,rfl⟩:=hv;refine⟨.bool (b != neg),?_,by simp[aI,bR]⟩
   obtain⟨he,wJ⟩:=ahM (P:=P) (w:=w) (φ:=φ) ht hb (by simpa using ra) (by simpa using rb)
   have hgd:=run_eqGuard_agg (P:=P) w op' t x' y' A B wJ;cases neg
   .simp only[eI,dI]at hop
    subst hop;have:=run_eql_struct (P:=P) w t A B;rw[he]at this;simp[execOp,ho,ex,ey,hgd,this]
   .simp only[dF]at hop
    subst hop;have:=run_neq_struct (P:=P) w t A B;rw[he]at this;simp[execOp,ho,ex,ey,hgd,this]
  .simp at hv
 .simp at h
theorem ahO(hs:cm φ nt m dB s g a w){rec:Rec}{d:Nat}{neg:Bool}{x y:A}(hc:cL P φ nt o (.rZ d neg x y)=true)(hok:(aU rec (.rZ d neg x y) s).ok=true)
  (hK:eu φ nt m dB s g w (aU rec (.rZ d neg x y) s) o a K):o.wp P a w K Q:=by
 simp only[cL,bJ]at hc;obtain⟨hd,h⟩:=hc;split at h
 .rename_i op' t x' y' ty ho
  simp only[bJ,dN]at h;obtain⟨⟨⟨hop,hx⟩,hy⟩,ht⟩:=h;have rx:=eE hs hx;have ry:=eE hs hy;refine mI hs hd hok (λv hv=>?_) hK
  unfold J8 at hv;split at hv
  .rename_i p q hp hq
   rw[hp]at rx;rw[hq]at ry;have ex:=tM (by simpa only[aI]using rx)
   have ey:=tM (by simpa only[aI]using ry)
   simp at hv;subst hv;refine⟨.bool ((p==q) != neg),?_,by simp[aI,bR]⟩
   split at ht
   .rename_i hu
    have he:=run_equal_bool (P:=P) w t p q hu;have hgd:=Tr (P:=P) (w:=w) (op:=op') (t:=t) (x:=x') (y:=y') (u:=.bool p) (v:=.bool q) (by simp) (by simp)
    cases neg
    .simp only[eI,dI]at hop
     subst hop;simp[execOp,ho,ex,ey,hgd,binOp,he]
    .simp only[dF]at hop
     subst hop;simp[execOp,ho,ex,ey,hgd,binOp,he]
   .simp at ht
  .simp at hv
 .simp at h
theorem ahP(d:Nat){t e:TypeId}(a:Option Addr)(l c:Nat)(h:P.underlying t=some (.slice e)):(Op.equalIn (d+1) t (.slice a l c) (.slice none 0 0)).run P w = .ok a.isNone w:=by
 cases a<;>simp[Op.equalIn,run_underlying h]
theorem ahQ(d:Nat){t k e:TypeId}(a:Option Nat)(h:P.underlying t=some (.map k e)):(Op.equalIn (d+1) t (.map a) (.map none)).run P w = .ok a.isNone w:=by
 cases a<;>simp[Op.equalIn,run_underlying h]
theorem ahR(d:Nat){t e:TypeId}(a:Option Addr)(h:P.underlying t=some (.pointer e)):(Op.equalIn (d+1) t (.pointer a) (.pointer none)).run P w = .ok a.isNone w:=by
 cases a<;>simp[Op.equalIn,run_underlying h]
theorem ahS(d:Nat){t:TypeId}{ps rs:Array TypeId}{vr:Bool}(fn:Fn)(A B:Array Value)(h:P.underlying t=some (.func ps rs vr)):(Op.equalIn (d+1) t (.func fn A B) .nilFunc).run P w = .ok false w:=by
 simp[Op.equalIn,run_underlying h]
theorem ahT(d:Nat){t:TypeId}{ps rs:Array TypeId}{vr:Bool}(h:P.underlying t=some (.func ps rs vr)):(Op.equalIn (d+1) t .nilFunc .nilFunc).run P w = .ok true w:=by
 simp[Op.equalIn,run_underlying h]
theorem ahU(d:Nat){t u:TypeId}{ms:Array (String×TypeId)}(x:Value)(h:P.underlying t=some (.interface ms)):(Op.equalIn (d+1) t (.iface u x) .nilIface).run P w = .ok false w:=by
 simp[Op.equalIn,run_underlying h]
theorem ahV(d:Nat){t:TypeId}{ms:Array (String×TypeId)}(h:P.underlying t=some (.interface ms)):(Op.equalIn (d+1) t .nilIface .nilIface).run P w = .ok true w:=by
 simp[Op.equalIn,run_underlying h]
theorem Fh{h:List O}{n:Nat}(ha:vG h n=true):∃es,(aV h n).gM=some es:=by
 unfold vG at ha;split at ha<;>simp_all[O.gM]
theorem ahW{t:TypeId}{v u:Value}{k:NK}(hn:Tl P t v k=true){x:V}{h:List O}{g:Gh}(hr:aI φ h g w x u){r:Bool}(hb:isNil h k x=some r)(xo:Operand):
  (∀op,(op = .eql\/op = .neq)->(eqGuard op t xo (.const v) u v).run P w = .ok () w)/\(binOp .eql t u v).run P w = .ok (.bool r) w/\(binOp .neq t u v).run P w = .ok (.bool (!r)) w:=by
 have guard:∀{u v:Value},u≠.nilIface->(∀A,u≠.agg A)->∀op,(op = .eql\/op = .neq)->(eqGuard op t xo (.const v) u v).run P w = .ok () w:=λh1 h2 op _=>Tr h1 h2
 unfold Tl at hn;split at hn
 .rename_i e hu
  have key:∀(a:Option Addr)(l c:Nat)(r:Bool),a.isNone=r->(∀op,(op = .eql\/op = .neq)->(eqGuard op t xo (.const (.slice none 0 0)) (.slice a l c) (.slice none 0 0)).run P w = .ok () w) /\
    (binOp .eql t (.slice a l c) (.slice none 0 0)).run P w = .ok (.bool r) w/\(binOp .neq t (.slice a l c) (.slice none 0 0)).run P w = .ok (.bool (!r)) w:=by
   intro a l c r hr
   have:(Op.equal t (.slice a l c) (.slice none 0 0)).run P w = .ok r w:=hr▸ahP 9999 a l c hu
   refine⟨guard (by simp) (by simp),?_,?_⟩<;>simp only[binOp]<;>simp[this]
  cases x with
  |d y =>
   cases y<;>simp[isNil]at hb;rename_i es nl xs;subst hb;simp only[aI,bR]at hr;obtain⟨a,cap,rfl,hl,h1,h2⟩:=hr;cases nl
   .obtain⟨ad,rfl,_⟩:=h2 rfl
    exact key _ _ _ _ rfl
   .obtain⟨rfl,_⟩:=h1 rfl
    exact key _ _ _ _ rfl
  |aR n off len =>
   simp[isNil]at hb;obtain⟨ha,rfl⟩:=hb;obtain⟨es,he⟩:=Fh ha;simp only[aI]at hr;obtain⟨cap,rfl,_⟩:=hr.2.2 es he;exact key _ _ _ _ rfl
  |iO es =>
   simp[isNil]at hb;subst hb;simp only[aI]at hr;obtain⟨ad,rfl⟩:=hr;exact key _ _ _ _ rfl
  |_=>simp[isNil]at hb
 .rename_i kt et hu
  have key:∀(a:Option Nat)(r:Bool),a.isNone=r->(∀op,(op = .eql\/op = .neq)->(eqGuard op t xo (.const (.map none)) (.map a) (.map none)).run P w = .ok () w) /\
    (binOp .eql t (.map a) (.map none)).run P w = .ok (.bool r) w/\(binOp .neq t (.map a) (.map none)).run P w = .ok (.bool (!r)) w:=by
   intro a r hr
   have:(Op.equal t (.map a) (.map none)).run P w = .ok r w:=hr▸ahQ 9999 a hu
   refine⟨guard (by simp) (by simp),?_,?_⟩<;>simp only[binOp]<;>simp[this]
  cases x with
  |d y =>
   cases y<;>simp[isNil]at hb;subst hb;simp only[aI,bR]at hr;subst hr;exact key _ _ rfl
  |mp n =>
   simp only[isNil]at hb;split at hb<;>simp at hb;rename_i kv hk;subst hb;simp only[aI]at hr;rw[hr.2.2 kv hk];exact key _ _ rfl
  |_=>simp[isNil]at hb
 .rename_i ps rs vr hu
  have key:∀(u:Value)(r:Bool),(u = .nilFunc/\r=true\/(∃fn A B,u = .func fn A B)/\r=false)->(∀op,(op = .eql\/op = .neq)->(eqGuard op t xo (.const .nilFunc) u .nilFunc).run P w = .ok () w) /\
    (binOp .eql t u .nilFunc).run P w = .ok (.bool r) w/\(binOp .neq t u .nilFunc).run P w = .ok (.bool (!r)) w:=by
   rintro u r (⟨rfl,rfl⟩ |⟨⟨fn,A,B,rfl⟩,rfl⟩)
   .have:(Op.equal t .nilFunc .nilFunc).run P w = .ok true w:=ahT 9999 hu
    refine⟨guard (by simp) (by simp),?_,?_⟩<;>simp only[binOp]<;>simp[this]
   .have:(Op.equal t (.func fn A B) .nilFunc).run P w = .ok false w:=ahS 9999 fn A B hu
    refine⟨guard (by simp) (by simp),?_,?_⟩<;>simp only[binOp]<;>simp[this]
  cases x with
  |d y =>
   cases y<;>simp[isNil]at hb
   .subst hb
    simp only[aI,bR]at hr;obtain⟨A,B,rfl,_⟩:=hr;exact key _ _ (.inr ⟨⟨_,_,_,rfl⟩,rfl⟩)
   .subst hb
    simp only[aI,bR]at hr;subst hr;exact key _ _ (.inl ⟨rfl,rfl⟩)
  |fn f A B =>
   simp[isNil]at hb;subst hb;simp only[aI]at hr;obtain⟨A,B,rfl,_⟩:=hr;exact key _ _ (.inr ⟨⟨_,_,_,rfl⟩,rfl⟩)
  |_=>simp[isNil]at hb
 .rename_i e hu
  have key:∀(a:Option Addr)(r:Bool),a.isNone=r->(∀op,(op = .eql\/op = .neq)->(eqGuard op t xo (.const (.pointer none)) (.pointer a) (.pointer none)).run P w = .ok () w) /\
    (binOp .eql t (.pointer a) (.pointer none)).run P w = .ok (.bool r) w/\(binOp .neq t (.pointer a) (.pointer none)).run P w = .ok (.bool (!r)) w:=by
   intro a r hr
   have:(Op.equal t (.pointer a) (.pointer none)).run P w = .ok r w:=hr▸ahR 9999 a hu
   refine⟨guard (by simp) (by simp),?_,?_⟩<;>simp only[binOp]<;>simp[this]
  cases x with
  |d y =>
   cases y<;>simp[isNil]at hb
   .subst hb
    simp only[aI,bR]at hr;subst hr;exact key _ _ rfl
   .subst hb
    simp only[aI,bR]at hr;obtain⟨b,off,rfl,_⟩:=hr;exact key _ _ rfl
  |loc n r' c =>
   simp[isNil]at hb;obtain⟨ha,rfl⟩:=hb;obtain⟨es,he⟩:=Fh ha;simp only[aI]at hr;rw[hr.2.2 es he];exact key _ _ rfl
  |rf cs =>
   simp[isNil]at hb;subst hb;simp only[aI]at hr;obtain⟨b,off,us,rfl,_⟩:=hr;exact key _ _ rfl
  |_=>simp[isNil]at hb
 .rename_i ms hu
  cases x with
  |d y =>
   cases y<;>simp[isNil]at hb
   .subst hb
    simp only[aI,bR]at hr;obtain⟨z,rfl,_⟩:=hr
    have:∀tt zz,(Op.equal t (.iface tt zz) .nilIface).run P w = .ok false w:=λtt zz=>ahU 9999 zz hu
    refine⟨guard (by simp) (by simp),?_,?_⟩<;>simp only[binOp]<;>simp[this]
   .subst hb
    simp only[aI,bR]at hr;subst hr
    have:(Op.equal t .nilIface .nilIface).run P w = .ok true w:=ahV 9999 hu
    refine⟨λop hop=>?_,?_,?_⟩
    .rcases hop with rfl |rfl<;>simp[eqGuard]
    .simp only[binOp];simp[this]
    .simp only[binOp];simp[this]
  |_=>simp[isNil]at hb
 .simp at hn
theorem ahX(hs:cm φ nt m dB s g a w){rec:Rec}{d:Nat}{neg:Bool}{x:A}{k:NK}(hc:cL P φ nt o (.qo d neg x k)=true)(hok:(aU rec (.qo d neg x k) s).ok=true)
  (hK:eu φ nt m dB s g w (aU rec (.qo d neg x k) s) o a K):o.wp P a w K Q:=by
 simp only[cL,bJ]at hc;obtain⟨hd,h⟩:=hc;split at h
 .rename_i op' t x' v' ty ho
  simp only[bJ,dN]at h;obtain⟨⟨hop,hx⟩,ht⟩:=h;have rx:=eE hs hx;refine mI hs hd hok (λv hv=>?_) hK
  simp only[gI]at hv;obtain⟨r,hr,rfl⟩:=hv;obtain⟨h1,h2,h3⟩:=ahW (P:=P) ht rx hr x';refine⟨.bool (r != neg),?_,by simp[aI,bR]⟩
  have Zc:a.eval (.const v')=v':=rfl;cases neg
  .simp only[eI,dI]at hop
   subst hop;simp[execOp,ho,Zc,h1 .eql (.inl rfl),h2]
  .simp only[dF]at hop
   subst hop;simp[execOp,ho,Zc,h1 .neq (.inr rfl),h3]
 .simp at h
theorem Zd{I:Nat->Nat}{b off:Nat}{cs:List D}(h:nC φ I w b off cs)(n:Nat):nC φ I w b (off+n) (cs.drop n):=
 wh λj c hj=>by
  have:=Fb h (j:=n+j) (by simpa[pF]using hj)
  rwa [<-Nat.add_assoc]at this
theorem Ze(hs:cm φ nt m dB s g a w){rec:Rec}{d off n:Nat}{x:A}(hc:cL P φ nt o (.fa d x off n)=true)(hok:(aU rec (.fa d x off n) s).ok=true)
  (hK:eu φ nt m dB s g w (aU rec (.fa d x off n) s) o a K):o.wp P a w K Q:=by
 simp only[cL,bJ]at hc;obtain⟨hd,h⟩:=hc;split at h
 .rename_i t y k ho
  simp only[bJ,fZ]at h;obtain⟨⟨hx,hn⟩,ht⟩:=h;have rx:=eE hs hx;refine mI hs hd hok (λv hv=>?_) hK
  split at ht
  .rename_i fs hfs
   split at ht
   .rename_i f hf
    simp only[bJ,dN]at ht;obtain⟨rfl,hsz⟩:=ht;have hsz':=wI (P:=P) (w:=w) hsz;have run:∀{b o':Nat},a.eval y = .pointer (some ⟨b,o',none⟩)->(execOp a.eval o).run P w = .ok (.value (.pointer (some ⟨b,o'+f.offset,none⟩))) w:=by
     intro b o' he;have hne:n≠0:=by omega
     simp[execOp,ho,he,Instr.fieldAt,underlying,hfs,hf,Instr.sureAddr,fieldPlace,hsz',hne,qG]
    unfold fa at hv;split at hv
    .rename_i cs hb
     rw[hb]at rx;simp only[aI,bR]at rx;obtain⟨b,o',he,hI,hcs⟩:=rx;split at hv
     .rename_i hle
      simp at hv;subst hv;refine⟨_,run he,?_⟩;simp only[aI,bR];exact⟨b,o'+f.offset,rfl,by simp;omega,Zd hcs _⟩
     .simp at hv
    .rename_i cs hb
     rw[hb]at rx;simp only[aI]at rx;obtain⟨b,o',us,he,hI,hcs,jq⟩:=rx;split at hv
     .rename_i hle
      simp at hv;subst hv;refine⟨_,run he,?_⟩;simp only[aI];refine⟨b,o'+f.offset,us.drop f.offset,rfl,by simp;omega,Il hcs _,λj u hj=>?_⟩
      rw[pE];exact jq _ u (by simpa[pF]using hj)
     .simp at hv
    .rename_i q r c hb
     rw[hb]at rx;simp only[aI]at rx;simp at hv;obtain⟨ha,rfl⟩:=hv;obtain⟨es,jF⟩:=Fh ha;refine⟨_,run (rx.2.2 es jF),?_⟩;simp only[aI];refine⟨rx.1,rfl,λes' he'=>?_⟩
     rw[jF]at he';simp at he';subst he';simp[pE]
    .simp at hv
   .simp at ht
  .simp at ht
 .simp at h
end
end Go.VS
namespace Go.VS
section
variable {P:Program}{φ:fj}
variable {nt m dB:Nat}{s:St}{g:Gh}{a:Act}{w:World}{K:Act->World->Prop}{Q:Exit->Act->World->Prop}{o:Oper}
theorem Zf{t e:TypeId}{es:Nat}(ht:P.underlying t=some (.slice e))(jF:jw P e es=true){b off len cap:Nat}{k:IntKind}{j:Int}(h0:0<=j)(hj:j<len):
  (Instr.indexAt t (.slice (some ⟨b,off,none⟩) len cap) (.int k j)).run P w = .ok (.pointer (some ⟨b,off+j.toNat*es,none⟩)) w:=by
 have h1:=wI (P:=P) (w:=w) jF;simp[Instr.indexAt,asIntOf,underlying,ht,h0,hj,h1,qG]
theorem ahY{j:Int}{n es:Nat}(h:j.toNat<n):(j.toNat+1)*es<=es*n:=by
 rw[jg es n];exact lU es h
theorem ahZ(hs:cm φ nt m dB s g a w){rec:Rec}{d es:Nat}{x i:A}(hc:cL P φ nt o (.ji d x i es)=true)(hok:(aU rec (.ji d x i es) s).ok=true)
  (hK:eu φ nt m dB s g w (aU rec (.ji d x i es) s) o a K):o.wp P a w K Q:=by
 simp only[cL,bJ]at hc;obtain⟨hd,h⟩:=hc;split at h
 .rename_i t y k ho
  simp only[bJ]at h;obtain⟨⟨hx,hi⟩,ht⟩:=h;have rx:=eE hs hx;have ri:=eE hs hi;refine mI hs hd hok (λv hv=>?_) hK
  split at ht
  .rename_i e hu
   simp only[bJ,fZ]at ht;obtain⟨hsz,hpos⟩:=ht;unfold ji at hv;split at hv
   .rename_i es' nl xs kk j hp hq
    rw[hp]at rx;rw[hq]at ri;have ei:=nE (by simpa only[aI]using ri)
    simp at hv;obtain⟨⟨h0,rfl⟩,row,hrow,rfl⟩:=hv;simp only[aI,bR]at rx;obtain⟨ao,cap,ex,hl,hnt,hnf⟩:=rx;have hlt:j.toNat<xs.length:=by
     rcases kZ j.toNat xs.length with h1 |h1
     .exact h1
     .simp[nO h1]at hrow
    have hne:xs≠[]:=by intro hx;simp[hx]at hlt
    cases nl with
    |true =>
     obtain⟨_,hc0⟩:=hnt rfl;omega
    |false =>
     obtain⟨ad,rfl,hx⟩:=hnf rfl;obtain⟨hsp,hI,hr⟩:=hx hne;obtain⟨b,off,sp⟩:=ad;simp at hsp;subst hsp;simp only at hI hr;obtain⟨hrl,hcs⟩:=nY hr hrow;refine⟨_,by simp only[execOp,ho,ex,ei];simp[Zf (P:=P) (w:=w) hu hsz h0 (show j<(xs.length:Int)by omega)];rfl,?_⟩
     simp only[aI,bR];have:=ahY (es:=es') hlt;rw[qU]at this;exact⟨b,off+j.toNat*es',rfl,by omega,hcs⟩
   .rename_i n off len kk j hp hq
    rw[hp]at rx;rw[hq]at ri;have ei:=nE (by simpa only[aI]using ri)
    simp only[aI]at rx;have key:∀e',(aV s.heap n).gM=some e'->(0<=j/\j<len/\e'=es)->v = .loc n (off+j.toNat) 0->∃v',(execOp a.eval o).run P w = .ok (.value v') w/\aI φ s.heap g w v v':=by
     rintro e' he ⟨h0,hj,rfl⟩ rfl;obtain⟨cap,ex,_⟩:=rx.2.2 e' he;refine⟨_,by simp only[execOp,ho,ex,ei];simp[Zf (P:=P) (w:=w) hu hsz h0 hj];rfl,?_⟩
     simp only[aI];refine⟨rx.1,rfl,λes' he'=>?_⟩
     rw[he]at he';simp at he';subst he';simp[ni,pE]
    split at hv
    .rename_i e' ex' rows hk
     simp at hv;exact key e' (by rw[hk];rfl) hv.1 hv.2.symm
    .rename_i e' rows hk
     simp at hv;exact key e' (by rw[hk];rfl) hv.1 hv.2.symm
    .simp at hv
   .simp at hv
  .simp at ht
 .simp at h
theorem ah0{h:List O}{v r:V}(hv:q9 h .sl v=some r):(∃es nl xs,v = .d (.sl es nl xs)/\r = .d (.i .i64 xs.length))\/(∃n off len,v = .aR n off len/\vG h n=true/\r = .d (.i .i64 len))\/(∃es,v = .iO es/\r = .d (.i .i64 (0:Nat))):=by
 cases v with
 |d y=>cases y<;>simp[q9]at hv;exact .inl ⟨_,_,_,rfl,hv.symm⟩
 |aR n off len=>simp[q9]at hv;exact .inr (.inl ⟨_,_,_,rfl,hv.1,hv.2.symm⟩)
 |iO es=>simp[q9]at hv;exact .inr (.inr ⟨_,rfl,hv.symm⟩)
 |_=>simp[q9]at hv
theorem ah1{h:List O}{v r:V}(hv:q9 h .s v=some r):∃x,v = .d (.s x)/\r = .d (.i .i64 x.length):=by
 cases v with
 |d y=>cases y<;>simp[q9]at hv;exact⟨_,rfl,hv.symm⟩
 |_=>simp[q9]at hv
theorem ah2{h:List O}{v r:V}(hv:q9 h .mp v=some r):(v = .d .uu/\r = .d (.i .i64 0))\/(∃n kv,v = .mp n/\aV h n = .mp kv/\r = .d (.i .i64 kv.length)):=by
 cases v with
 |d y=>cases y<;>simp[q9]at hv;exact .inl ⟨rfl,hv.symm⟩
 |mp n =>
  simp only[q9]at hv;split at hv
  .rename_i kv hk;simp at hv;exact .inr ⟨n,kv,rfl,hk,hv.symm⟩
  .simp at hv
 |_=>simp[q9]at hv
theorem ah3(hs:cm φ nt m dB s g a w){rec:Rec}{d:Nat}{x:A}{k:LK}(hc:cL P φ nt o (.len d x k)=true)(hok:(aU rec (.len d x k) s).ok=true)
  (hK:eu φ nt m dB s g w (aU rec (.len d x k) s) o a K):o.wp P a w K Q:=by
 simp only[cL,bJ]at hc;obtain⟨hd,h⟩:=hc;split at h
 .rename_i c ho
  split at h
  .rename_i y t iu hargs p6
   simp only[bJ]at h;obtain⟨hx,ht⟩:=h;have rx:=Ik (eE hs hx);refine mI hs hd hok (λv hv=>?_) hK
   obtain⟨Fi,args,tys⟩:=c;simp only at iu hargs p6;have rJ:args=#[y]:=by rw[<-Array.toList_inj];exact hargs
   have wK:tys=#[t]:=by rw[<-Array.toList_inj];exact p6
   subst iu;subst rJ;subst wK;have fin:∀{u:Value}{n:Nat},v = .d (.i .i64 n)->a.eval y=u->(Builtin.len_ #[t] o.type #[u]).run P w = .ok (.int .i64 n) w->∃v',(execOp a.eval o).run P w = .ok (.value v') w/\aI φ s.heap g w v v':=by
    intro u n hv he hr;subst hv;exact⟨.int .i64 n,by simp[execOp,ho,resolve,invoke,builtin,he,hr],by simp[aI,bR]⟩
   split at ht
   .rename_i e hu
    have slice:∀(ad:Option Addr)(n c:Nat),(Builtin.len_ #[t] o.type #[.slice ad n c]).run P w = .ok (.int .i64 n) w:=λad n c=>by
     simp[Builtin.len_,underlying,hu,goInt]
    rcases ah0 hv with⟨es,nl,xs,hp,rfl⟩ |⟨n,off,len,hp,ha,rfl⟩ |⟨es,hp,rfl⟩
    .rw[hp]at rx
     simp only[aI,bR]at rx;obtain⟨ad,cap,ex,_⟩:=rx;exact fin rfl ex (slice _ _ _)
    .rw[hp]at rx
     simp only[aI]at rx;obtain⟨es,he⟩:=Fh ha;obtain⟨cap,ex,_⟩:=rx.2.2 es he;exact fin rfl ex (slice _ _ _)
    .rw[hp]at rx
     simp only[aI]at rx;obtain⟨ad,ex⟩:=rx;exact fin rfl ex (slice _ _ _)
   .rename_i hu
    obtain⟨z,hp,rfl⟩:=ah1 hv;rw[hp]at rx;simp only[aI,bR]at rx;obtain⟨bs,ex,hb⟩:=rx;have hlen:bs.size=z.length:=by rw[<-hb,ByteArray.toList_eq];simp
    exact fin rfl ex (by simp[Builtin.len_,underlying,hu,goInt,hlen])
   .rename_i kt et hu
    rcases ah2 hv with⟨hp,rfl⟩ |⟨n,kv,hp,hk,rfl⟩
    .rw[hp]at rx
     simp only[aI,bR]at rx;exact fin (n:=0) rfl rx (by simp[Builtin.len_,underlying,hu,goInt])
    .rw[hp]at rx
     simp only[aI]at rx;have ex:=rx.2.2 kv hk;have dD:=hs.heap.obj n;rw[hk]at dD;obtain⟨ES,kK,hb,hkv,_⟩:=dD;have hl:ES.size=kv.length:=by have:=hkv.1;simp at this;omega
     exact fin rfl ex (by simp[Builtin.len_,underlying,hu,goInt,getObj,Sem.run,hb,hl])
   .simp at ht
  .simp at h
 .simp at h
end
end Go.VS
namespace Go.VS
section
variable {P:Program}{φ:fj}
variable {nt m dB:Nat}{s:St}{g:Gh}{a:Act}{w:World}{K:Act->World->Prop}{Q:Exit->Act->World->Prop}{o:Oper}
theorem Fj{α:Type}{es:Nat}:∀{rows:List (List α)},(∀r∈rows,r.length=es)->∀{r:Nat}{row:List α}{j:Nat}{c:α},rows[r]?=some row->row[j]?=some c->rows.flatten[r*es+j]?=some c
 | [],_,r,row,j,c,h,_=>by simp at h
 |x::xs,hl,r,row,j,c,h,hj=>by
  have hx:x.length=es:=hl x (by simp)
  cases r with
  |zero =>
   simp at h;subst h;have hlt:j<x.length:=by
    rcases kZ j x.length with h1 |h1
    .exact h1
    .simp[nO h1]at hj
   simp[sQ hlt,hj]
  |succ r =>
   have ih:=Fj (rows:=xs) (λr hr=>hl r (by simp[hr])) (r:=r) (by simpa using h) hj
   rw[yL,An (by rw[hx,qU];omega)]
   rw[<-ih];congr 1;rw[hx,qU];omega
theorem x9{α:Type}{es:Nat}:∀{rows:List (List α)},(∀r∈rows,r.length=es)->rows.flatten.length=es*rows.length
 | [],_=>rfl
 |x::xs,hl=>by
  rw[yL,lT,x9 (λr hr=>hl r (by simp[hr])),hl x (by simp),iy,Pm]
  omega
theorem Fk:∀{rows:List (List V)}{ds:List (List D)},fN rows=some ds->rows=ds.map λr=>r.map V.d
 | [],ds,h=>by simp[fN]at h;subst h;rfl
 |r::rs,ds,h=>by
  simp only[fN,nP,gI]at h;obtain⟨x,hx,y,hy,rfl⟩:=h;simp[Fk hy,Fc hx]
theorem Tw{h h':List O}{g':Gh}{w':World}{b es:Nat}{T:TypeId}{rows:List (List V)}{C:Array Value}(hb:w'.heap[b]?=some (.cells C T (0,0)))
  (hl:∀r∈rows,r.length=es)(hr:bT φ h g w rows.flatten C.toList)(h1:∀v∈C.toList,v.oneCell'=true)(hle:gS h g w h' g' w')(hI:g'.I b=0):
  gz φ h' g' w' b 0 (eK es rows):=by
 have hcell:∀(i:Nat)(v:Value),C.toList[i]?=some v->w'.cell? ⟨b,i,none⟩=some v:=λi v hi=>by
  simp only[World.cell?,hb];simpa using hi
 have hlen:=oP hr;have hsz:0+es*rows.length<=C.size:=by
  rw[x9 hl]at hlen;simp at hlen;omega
 unfold eK;split
 .rename_i ds hds
  have he:=Fk hds;refine⟨⟨C,T,hb,by rw[he]at hsz;simpa using hsz⟩,uU λr row hrow=>?_,by simp[hI]⟩
  have oT:rows[r]?=some (row.map V.d):=by rw[he];simp[hrow]
  have hrl:row.length=es:=by
   have:=hl _ (kU oT);simpa using this
  refine⟨hrl,wh λj c hj=>?_⟩
  have hf:=Fj hl oT (j:=j) (c:=.d c) (by simp[hj])
  obtain⟨v,hv,hd⟩:=C3 hr hf;exact⟨v,by rw[nQ];exact hcell _ v hv,h1 v (kU hv),xY hle.ext (by simpa only[aI]using hd)⟩
 .refine⟨⟨C,T,hb,hsz⟩,λr row hrow=>?_,by rw[hI];exact gf _⟩
  refine⟨hl _ (kU hrow),λj c hj=>?_⟩
  have hf:=Fj hl hrow hj;obtain⟨v,hv,hd⟩:=C3 hr hf;exact⟨v,by rw[nQ];exact hcell _ v hv,h1 v (kU hv),lI hle hd⟩
theorem zD(w:World)(ob:Obj):(w.alloc ob).heap[w.heap.size]?=some ob:=heap_alloc_new w ob
theorem Is(hs:cm φ nt m dB s g a w){d:Nat}(hd:gj nt o d=true){v:V}{v':Value}{w':World}{x:O}{b off:Nat}{ok:Bool}{I':Nat->Nat}
  (hrun:(execOp a.eval o).run P w = .ok (.value v') w')(hg:gN w w')(hI:∀b,b<w.heap.size->I' b=g.I b)(hnew:∀b,w'.heap.size<=b->I' b=0)(hb:w.heap.size<=b)
  (hx:gz φ (s.heap++[x]) (g.add s.heap.length b off I') w' b off x)(hv:aI φ (s.heap++[x]) (g.add s.heap.length b off I') w' v v')
  (hK:eu φ nt m dB s g w ⟨(d,v)::s.env,s.heap++[x],ok⟩ o a K):o.wp P a w K Q:=by
 obtain⟨h1,h2⟩:=Bd hd;refine Fg hrun (hK (g.add s.heap.length b off I') v' w' ?_ (Tk x hs.heap hg hI hb hs.len));rw[h1];have hs':cm φ nt m dB ⟨s.env,s.heap++[x],ok⟩ (g.add s.heap.length b off I') a w':=⟨λk=>lI (zC x hs.heap hg hI) (hs.env k),Y3 hs.heap hg hI hnew hb hx,hs.size,hs.defers.frame (Tk x hs.heap hg hI hb hs.len),by simp;have:=hs.len;omega⟩
 exact hs'.wF h2 hv
theorem Bg{d:Nat}{ov:Option (V×List O)}(h:(s.gh d ov).ok=true):∃v hh,ov=some (v,hh):=by
 cases ov with
 |none=>simp[St.gh,St.fail]at h
 |some p=>exact⟨p.1,p.2,rfl⟩
theorem Fl{I:Nat->Nat}{n k b:Nat}(h:b<n):iL I n k b=I b:=by simp[iL,Nat.ne_of_lt h]
theorem ah4{ds:List D}{C:Array Value}{T:TypeId}(hr:eU φ s.heap g w)(hd:cy φ g.I w ds C.toList)(h1:∀v∈C.toList,v.oneCell'=true):
  bR φ (iL g.I w.heap.size C.size) (w.alloc (.cells C T)) (.ref ds) (.pointer (some ⟨w.heap.size,0,none⟩)):=by
 simp only[bR];have hlen:=sH hd;simp at hlen;refine⟨w.heap.size,0,rfl,by simp[iL];omega,Ni (vs:=C.toList) (zu (C5 (gN.alloc w _) (λb hb=>Fl hb) hr.new) hd) (λj v hj=>?_) h1⟩
 simp only[World.cell?,zD];simpa using hj
theorem Tx{w:World}{ob:Obj}{I:Nat->Nat}(h:∀b,w.heap.size<=b->I b=0)(k:Nat):∀b,(w.alloc ob).heap.size<=b->iL I w.heap.size k b=0:=by
 intro b hb;simp at hb
 have:b≠w.heap.size:=by omega
 simp[iL,this];exact h b (by omega)
theorem ah5(hs:cm φ nt m dB s g a w){rec:Rec}{d n:Nat}{x:A}{fz:Bool}(hc:cL P φ nt o (.box d x n fz)=true)(hok:(aU rec (.box d x n fz) s).ok=true)
  (hK:eu φ nt m dB s g w (aU rec (.box d x n fz) s) o a K):o.wp P a w K Q:=by
 simp only[cL,bJ]at hc;obtain⟨hd,h⟩:=hc;split at h
 .rename_i t y ho
  have rx:=eE hs h;have hrun:(execOp a.eval o).run P w = .ok (.value (.pointer (some ⟨w.heap.size,0,none⟩))) (w.alloc (.cells (a.eval y).cells t)):=by
   simp[execOp,ho,Instr.box,newVar,newRow]
  by_cases hk:(s.get x).cells.length=n/\(s.get x).known=true
  .obtain⟨rc,h1⟩:=Fe rx hk.2
   simp only[aU,aK hk]at hok hK;cases fz with
   |true =>
    simp only[dF]at hok hK;refine Y8 hs hd (I':=iL g.I w.heap.size (a.eval y).cells.size) hrun (gN.alloc w _) (λb hb=>Fl hb) (Tx hs.heap.new _) ?_ hK
    unfold mkRef;split
    .rename_i ds hds
     simp only[aI,Gh.dZ];exact ah4 hs.heap (zy hds rc) h1
    .simp only[aI]
     have hl:=oP rc;refine⟨_,0,(a.eval y).cells.toList,rfl,by simp[Gh.dZ,iL];simp at hl;omega,x6 (Tj hs.heap (gN.alloc w _) (λb hb=>Fl hb)) rc,λj u hj=>⟨?_,h1 u (kU hj)⟩⟩
     simp only[World.cell?,zD,nQ];simpa using hj
   |false =>
    simp only[eI,dI,St.gh]at hok hK;have hg:=gN.alloc w (.cells (a.eval y).cells t);refine Is hs hd (b:=w.heap.size) (off:=0) (I':=g.I) hrun hg (λ_ _=>rfl) (λb hb=>hs.heap.new b (by simp at hb;omega)) (gf _) ?_ ?_ hK
    .exact Tw (h:=s.heap) (zD w _) (by simp[hk.1]) (by simpa using rc) h1 (zC _ hs.heap hg (λ_ _=>rfl)) (hs.heap.new _ (gf _))
    .simp only[aI]
     refine⟨by simp,rfl,λes he=>?_⟩
     simp[Gh.add]
  .simp only[aU,aD hk]at hok
   simp[St.fail]at hok
 .simp at h
theorem Db{t:TypeId}{z:List D}(h:Bb P φ t z=true):∃i v,P.info? t=some i/\i.zero=some v/\cy φ g.I w z v.cells.toList/\(∀x∈v.cells.toList,x.oneCell'=true)/\i.size=z.length:=by
 unfold Bb at h;split at h
 .rename_i i hi
  split at h
  .rename_i v hv
   simp only[bJ,dN]at h;have:=Tq (w:=w) (I:=g.I) h.1;exact⟨i,v,hi,hv,this.1,this.2,h.2⟩
  .simp at h
 .simp at h
theorem ah6(hs:cm φ nt m dB s g a w){rec:Rec}{d:Nat}{z:List D}(hc:cL P φ nt o (.new d z)=true)
  (hK:eu φ nt m dB s g w (aU rec (.new d z) s) o a K):o.wp P a w K Q:=by
 simp only[cL,bJ]at hc;obtain⟨hd,h⟩:=hc;split at h
 .rename_i t ho
  obtain⟨i,v,hi,hv,hz,h1,_⟩:=Db (g:=g) (w:=w) h;have hrun:(execOp a.eval o).run P w = .ok (.value (.pointer (some ⟨w.heap.size,0,none⟩))) (w.alloc (.cells v.cells t)):=by
   simp[execOp,ho,Instr.alloc,zeroValue,typeInfo,hi,hv,newVar,newRow]
  simp only[aU,St.gh]at hK;have hg:=gN.alloc w (.cells v.cells t);refine Is hs hd (b:=w.heap.size) (off:=0) (I':=g.I) hrun hg (λ_ _=>rfl) (λb hb=>hs.heap.new b (by simp at hb;omega)) (gf _) ?_ ?_ hK
  .have hm:eK z.length [z.map V.d] = .aG z.length true [z]:=by simp[eK,fN,ahw]
   rw[<-hm];exact Tw (h:=s.heap) (zD w _) (by simp) (by simpa using zx (h:=s.heap) hz) h1 (zC _ hs.heap hg (λ_ _=>rfl)) (hs.heap.new _ (gf _))
  .simp only[aI]
   refine⟨by simp,rfl,λes he=>?_⟩
   simp[Gh.add]
 .simp at h
theorem Zg(off:Nat):∀(l:List Value)(k:Nat)(C:Array Value),off+k+l.length<=C.size ->
  ((l.zipIdx k).foldl (λcs p=>cs.setIfInBounds (off+p.2) p.1) C).toList=C.toList.take (off+k)++l++C.toList.drop (off+k+l.length)
 | [],k,C,_=>by simp
 |v::l,k,C,h=>by
  simp only[iy]at h;rw[List.zipIdx_cons,JU,Zg off l (k+1) _ (by simp;omega)]
  have e:=list_seg_step C.toList (off+k) v l (by simp;omega)
  simpa[Array.toList_setIfInBounds,pE]using e
theorem Zh(off:Nat)(v:Value)(C:Array Value)(h:off+v.cells.size<=C.size):
  (v.cells.zipIdx.foldl (λcs p=>cs.setIfInBounds (off+p.2) p.1) C).toList=aq C.toList off v.cells.toList:=by
 have:=Zg off v.cells.toList 0 C (by simpa using h)
 rw[<-Array.foldl_toList,Array.toList_zipIdx];simpa[aq]using this
theorem Zi{h:List O}{cs:List V}{vs:List Value}(hr:bT φ h g w cs vs){o:Nat}{xs:List V}{us:List Value}(hx:bT φ h g w xs us):bT φ h g w (aq cs o xs) (aq vs o us):=by
 unfold aq;rw[oP hx];exact rI (rI (Y1 hr o) hx) (Il hr _)
theorem Zj{vs us:List Value}{o:Nat}(h1:∀v∈vs,v.oneCell'=true)(h2:∀v∈us,v.oneCell'=true):∀v∈aq vs o us,v.oneCell'=true:=by
 intro v hv;simp only[aq,dj]at hv;rcases hv with(hv |hv) |hv
 .exact h1 v (nN hv)
 .exact h2 v hv
 .exact h1 v (mO hv)
theorem Tz(hs:cm φ nt m dB s g a w){fs:Array Field}{place:Nat->Option (Nat×Nat)}(fm:∀i f n,fs[i]?=some f->jw P f.type n=true->place i=some (f.offset,n)):
  ∀{ps:List (Nat×Operand)}{qs:List (Nat×Nat×A)},C9 P φ fs ps qs=true->∀{cs cs':List V}{C:Array Value},fill cs (qs.map λp=>(p.1,p.2.1,s.get p.2.2))=some cs' ->
   bT φ s.heap g w cs C.toList->(∀v∈C.toList,v.oneCell'=true) ->
   ∃C',Instr.fill place C (ps.map λp=>(p.1,a.eval p.2))=some C'/\bT φ s.heap g w cs' C'.toList/\∀v∈C'.toList,v.oneCell'=true
 | [],[],_,cs,cs',C,hf,hr,h1=>by
  simp[fill]at hf;subst hf;exact⟨C,rfl,hr,h1⟩
 |(i,x)::ps,(oo,n,y)::qs,hc,cs,cs',C,hf,hr,h1=>by
  simp only[C9,bJ]at hc;obtain⟨⟨hfl,hx⟩,rG⟩:=hc;split at hfl
  .rename_i f Bh
   simp only[bJ,dN]at hfl;obtain⟨rfl,hsz⟩:=hfl;simp only[gk,fill]at hf;split at hf
   .rename_i dV
    obtain⟨hl,hle,hkn⟩:=dV;obtain⟨rc,r1⟩:=Fe (eE hs hx) hkn;have hlen:=oP rc;have sE:=oP hr;simp at hlen sE;have hfit:f.offset+(a.eval x).cells.size<=C.size:=by omega
    have nG:=Zh f.offset (a.eval x) C hfit;obtain⟨C',rK,hr',h1'⟩:=Tz hs fm rG (C:=((a.eval x).cells.zipIdx.foldl (λcs p=>cs.setIfInBounds (f.offset+p.2) p.1) C)) hf
     (by rw[nG];exact Zi hr rc) (by rw[nG];exact Zj h1 r1)
    refine⟨C',?_,hr',h1'⟩;simp only[gk,Instr.fill,fm i f n Bh hsz];have hno:¬((a.eval x).cells.size≠n||f.offset+(a.eval x).cells.size > C.size)=true:=by simp;omega
    rw[aD hno];exact rK
   .simp at hf
  .simp at hfl
 | [],_::_,hc,_,_,_,_,_,_=>by simp[C9]at hc
 |_::_,[],hc,_,_,_,_,_,_=>by simp[C9]at hc
end
end Go.VS
namespace Go.VS
section
variable {P:Program}{φ:fj}
variable {nt m dB:Nat}{s:St}{g:Gh}{a:Act}{w:World}{K:Act->World->Prop}{Q:Exit->Act->World->Prop}{o:Oper}
theorem Zk{α β:Type}(f:α->Sem β)(g:α->β):∀(l:List α),(∀x∈l,(f x).run P w = .ok (g x) w)->(l.mapM f).run P w = .ok (l.map g) w
 | [],_=>by simp
 |x::l,h=>by
  have h1:=h x (by simp)
  have h2:=Zk f g l λy hy=>h y (by simp[hy])
  simp[List.mapM_cons,h1,h2]
theorem ah7{α β:Type}(f:α->Sem β)(g:α->β)(l:Array α)(h:∀x∈l,(f x).run P w = .ok (g x) w):(l.mapM f).run P w = .ok (l.map g) w:=by
 have h1:=Zk (P:=P) (w:=w) f g l.toList (λx hx=>h x (by simpa using hx))
 rw[Array.mapM_eq_mapM_toList];simp only[Sem.run_map,h1,Result.andThen_ok];congr 1;rw[<-Array.toList_map]
theorem ah8(hs:cm φ nt m dB s g a w){rec:Rec}{d:Nat}{z:List D}{ps:List (Nat×Nat×A)}(hc:cL P φ nt o (.build d z ps)=true)(hok:(aU rec (.build d z ps) s).ok=true)
  (hK:eu φ nt m dB s g w (aU rec (.build d z ps) s) o a K):o.wp P a w K Q:=by
 simp only[cL,bJ]at hc;obtain⟨hd,h⟩:=hc;split at h
 .rename_i t qs ho
  simp only[bJ]at h;obtain⟨hz,h⟩:=h;split at h
  .rename_i fs hfs
   simp only[bJ]at h;obtain⟨hps,It⟩:=h;obtain⟨i,v,hi,hv,rL,h1,_⟩:=Db (g:=g) (w:=w) hz;refine mI hs hd hok (λr hr=>?_) hK
   simp only[gI]at hr;obtain⟨cs,hcs,rfl⟩:=hr;have fm:∀(i:Nat)(f:Field)(n:Nat),fs[i]?=some f->jw P f.type n=true->(fs.map λf=>(f.offset,((P.info? f.type).map (·.size)).getD 0))[i]?=some (f.offset,n):=by
    intro i f n hf hn;unfold jw at hn;cases hq:P.info? f.type with
    |none=>simp[hq]at hn
    |some inf=>simp[hq]at hn;simp[hf,hq,hn]
   obtain⟨C',hC,fX,hone⟩:=Tz hs fm hps hcs (C:=v.cells) (zx rL) h1;have hm:(fs.mapM λf=>(do pure (f.offset,<-sizeOf f.type):Sem (Nat×Nat))).run P w = .ok (fs.map λf=>(f.offset,((P.info? f.type).map (·.size)).getD 0)) w :=
    ah7 _ _ fs λf hf=>by
     have:=Array.all_eq_true.1 It;obtain⟨k,hk,rfl⟩:=Array.mem_iff_getElem.1 hf;have hs:=this k hk;cases hq:P.info? fs[k].type with
     |none=>simp[hq]at hs
     |some inf=>simp[sizeOf,typeInfo,hq]
   refine⟨.agg C',?_,?_⟩
   .simp only[execOp,ho,Instr.build]
    simp only[Sem.run_bind,zeroValue,typeInfo,run_program,Result.andThen_ok,hi,hv,Sem.run_pure,run_underlying hfs,hm,hC,D1]
   .unfold B5
    split
    .rename_i ds hds
     simp only[aI,bR];exact⟨_,rfl,zy hds fX,hone⟩
    .simp only[aI]
     exact⟨_,rfl,fX,hone⟩
  .rename_i len e hfs
   split at h
   .rename_i ie Nq
    obtain⟨i,v,hi,hv,rL,h1,_⟩:=Db (g:=g) (w:=w) hz;refine mI hs hd hok (λr hr=>?_) hK
    simp only[gI]at hr;obtain⟨cs,hcs,rfl⟩:=hr;have fm:∀(i:Nat)(f:Field)(n:Nat),(Tn len ie.size e)[i]?=some f->jw P f.type n=true->(λi=>some (i*ie.size,ie.size)) i=some (f.offset,n):=by
     intro i f n hf hn;unfold Tn at hf;simp only[BZ,vu,gI]at hf;obtain⟨j,hj,rfl⟩:=hf;have hj':j=i:=by
      obtain⟨h1,h2⟩:=rW.1 hj;rw[Wz]at h2;exact h2.symm
     subst hj';unfold jw at hn;simp[Nq]at hn;simp[hn]
    obtain⟨C',hC,fX,hone⟩:=Tz hs fm h hcs (C:=v.cells) (zx rL) h1;refine⟨.agg C',?_,?_⟩
    .simp only[execOp,ho,Instr.build]
     have hse:(sizeOf e).run P w = .ok ie.size w:=by simp[sizeOf,typeInfo,Nq]
     simp only[Sem.run_bind,zeroValue,typeInfo,run_program,Result.andThen_ok,hi,hv,Sem.run_pure,run_underlying hfs,hse,hC,D1]
    .unfold B5
     split
     .rename_i ds hds
      simp only[aI,bR];exact⟨_,rfl,zy hds fX,hone⟩
     .simp only[aI]
      exact⟨_,rfl,fX,hone⟩
   .simp at h
  .simp at h
 .simp at h
theorem Iu(n es:Nat)(Z:Array Value)(hz:Z.size=es)(hp:0<es):((Array.range (n*es)).map (λi=>Z[i % Z.size]!)).toList=(List.replicate n Z.toList).flatten:=by
 apply List.ext_getElem?;intro i;have hfl:(List.replicate n Z.toList).flatten.length=es*n:=by
  rw[x9 (es:=es)]
  .simp
  .intro r hr;simp at hr;rw[hr.2];simpa using hz
 by_cases hi:i<n*es
 .have hdiv:i / es<n:=Nat.div_lt_of_lt_mul (by rwa [jg])
  have hmod:i % es<es:=Nat.mod_lt _ hp;have hlt:i % es<Z.size:=by omega
  have hr:=Fj (rows:=List.replicate n Z.toList) (es:=es) (by intro r hr;simp at hr;rw[hr.2];simpa using hz) (r:=i / es) (row:=Z.toList) (j:=i % es) (c:=Z[i % es]) (by simp[hdiv]) (by simp[hlt])
  rw[Nat.div_add_mod' i es]at hr;rw[hr];have hb:Z[i % es]! = Z[i % es]:=getElem!_pos Z (i % es) hlt;simp[hi,hz,hb]
 .rw[nO (by simp;omega),nO (by rw[hfl,jg];omega)]
theorem Zl{α:Type}{es:Nat}:∀{rows:List (List α)}{i:Nat}{r:List α},(∀x∈rows,x.length=es)->i<rows.length->r.length=es->(rows.set i r).flatten=aq rows.flatten (i*es) r
 | [],i,r,_,hi,_=>by simp at hi
 |x::xs,0,r,hl,_,hr=>by
  have hx:x.length=es:=hl x (by simp)
  simp only[List.set_cons_zero,yL,aq,Nat.zero_mul,List.take_zero,mu,nQ];rw[hr,<-hx,List.drop_left]
 |x::xs,i+1,r,hl,hi,hr=>by
  have hx:x.length=es:=hl x (by simp)
  have ih:=Zl (rows:=xs) (i:=i) (r:=r) (λy hy=>hl y (by simp[hy])) (by simpa using hi) hr
  simp only[List.set_cons_succ,yL,ih,aq];rw[qU];have e1:(x++xs.flatten).take (i*es+es)=x++xs.flatten.take (i*es):=by
   rw[GC,gC (by omega)];congr 2;omega
  have e2:(x++xs.flatten).drop (i*es+es+r.length)=xs.flatten.drop (i*es+r.length):=by
   rw[Pn,List.drop_of_length_le (by omega),mu];congr 1;omega
  rw[e1,e2];simp[sU]
theorem Zm(hs:cm φ nt m dB s g a w){es n:Nat}:
  ∀{ps:List (Nat×Operand)}{qs:List (Nat×A)},Ff φ ps qs=true->∀{rows iB:List (List V)}{C:Array Value},xB rows es (qs.map λp=>(p.1,s.get p.2))=some iB ->
   (∀r∈rows,r.length=es)->rows.length=n->bT φ s.heap g w rows.flatten C.toList->(∀v∈C.toList,v.oneCell'=true) ->
   ∃C',Instr.fill (λi=>some (i*es,es)) C (ps.map λp=>(p.1,a.eval p.2))=some C'/\bT φ s.heap g w iB.flatten C'.toList/\(∀v∈C'.toList,v.oneCell'=true)/\(∀r∈iB,r.length=es)/\iB.length=n
 | [],[],_,rows,iB,C,hf,hl,hn,hr,h1=>by
  simp[xB]at hf;subst hf;exact⟨C,rfl,hr,h1,hl,hn⟩
 |(i,x)::ps,(j,y)::qs,hc,rows,iB,C,hf,hl,hn,hr,h1=>by
  simp only[Ff,bJ,dN]at hc;obtain⟨⟨rfl,hx⟩,rG⟩:=hc;simp only[gk,xB]at hf;split at hf
  .rename_i dV
   obtain⟨hlen,hi,hkn⟩:=dV;obtain⟨rc,r1⟩:=Fe (eE hs hx) hkn;have pT:=oP rc;have kL:=oP hr;rw[x9 hl]at kL;simp at pT kL;have hfit:i*es+(a.eval x).cells.size<=C.size:=by
    have:(i+1)*es<=es*rows.length:=by rw[jg es];exact lU es hi
    rw[qU]at this;omega
   have nG:=Zh (i*es) (a.eval x) C hfit;obtain⟨C',rK,h2,h3,h4,h5⟩:=Zm hs rG (n:=n) (C:=((a.eval x).cells.zipIdx.foldl (λcs p=>cs.setIfInBounds (i*es+p.2) p.1) C)) hf
    (λr hr'=>by
     rcases JQ hr' with h |h
     .exact hl r h
     .rw[h];exact hlen) (by simpa using hn)
    (by rw[nG,Zl hl hi hlen];exact Zi hr rc) (by rw[nG];exact Zj h1 r1)
   refine⟨C',?_,h2,h3,h4,h5⟩;simp only[gk,Instr.fill];have hno:¬((a.eval x).cells.size≠es||i*es+(a.eval x).cells.size > C.size)=true:=by simp;omega
   rw[aD hno];exact rK
  .simp at hf
 | [],_::_,hc,_,_,_,_,_,_,_,_=>by simp[Ff]at hc
 |_::_,[],hc,_,_,_,_,_,_,_,_=>by simp[Ff]at hc
theorem ah9(hs:cm φ nt m dB s g a w){rec:Rec}{d es n:Nat}{z:List D}{ps:List (Nat×A)}{fz:Bool}(hc:cL P φ nt o (.lf d es n z ps fz)=true)(hok:(aU rec (.lf d es n z ps fz) s).ok=true)
  (hK:eu φ nt m dB s g w (aU rec (.lf d es n z ps fz) s) o a K):o.wp P a w K Q:=by
 simp only[cL,bJ]at hc;obtain⟨hd,h⟩:=hc;split at h
 .rename_i t k qs ho
  simp only[bJ,fZ,dN]at h;obtain⟨⟨⟨rfl,hsmall⟩,hpos⟩,h⟩:=h;split at h
  .rename_i e hu
   simp only[bJ,dN]at h;obtain⟨⟨hz,hzl⟩,hps⟩:=h;obtain⟨i,v,hi,hv,rL,h1,hsz⟩:=Db (g:=g) (w:=w) hz;have hzs:v.cells.size=es:=by have:=sH rL;simp at this;omega
   have rM:∃rows,xB (List.replicate k (z.map V.d)) es (ps.map λp=>(p.1,s.get p.2))=some rows:=by
    cases hq:xB (List.replicate k (z.map V.d)) es (ps.map λp=>(p.1,s.get p.2))with
    |some rows=>exact⟨rows,rfl⟩
    |none=>simp only[aU,hq]at hok;cases fz<;>simp[St.eJ,St.gh,St.fail]at hok
   obtain⟨rows,rM⟩:=rM;have hstart:bT φ s.heap g w (List.replicate k (z.map V.d)).flatten ((Array.range (k*es)).map (λi=>v.cells[i % v.cells.size]!)).toList:=by
    rw[Iu k es v.cells hzs hpos];clear hsmall hps rM hK hok ho;induction k with
    |zero=>simp[bT]
    |succ k ih=>simp only[Pk,yL];exact rI (zx rL) ih
   have hone:∀x∈((Array.range (k*es)).map (λi=>v.cells[i % v.cells.size]!)).toList,x.oneCell'=true:=by
    rw[Iu k es v.cells hzs hpos];intro x hx;simp only[List.mem_flatten,GD]at hx;obtain⟨l,⟨_,rfl⟩,hx⟩:=hx;exact h1 x hx
   obtain⟨C',hC,fX,TC,hrl,Fm⟩:=Zm hs (n:=k) hps rM (by intro r hr;simp at hr;rw[hr.2];simpa using hzl) (by simp) hstart hone
   have hrun:(execOp a.eval o).run P w = .ok (.value (.slice (some ⟨w.heap.size,0,none⟩) k k)) (w.alloc (.cells C' e)):=by
    have hsz':i.size=es:=by rw[hsz];exact hzl
    simp only[execOp,ho,Instr.buildSlice];have hle:¬(k*es > 2 ^ 24):=by omega
    simp only[Sem.run_bind,run_underlying hu,Result.andThen_ok,sizeOf,typeInfo,run_program,hi,Sem.run_pure,hsz',Sem.run_ite];rw[aD hle];by_cases p7:k*es=0
    .have hk:k=0:=by
      rcases Nat.mul_eq_zero.1 p7 with h |h
      .exact h
      .omega
     subst hk;simp only[Nat.zero_mul,dF];have e0:((Array.range 0).map (λi=>(#[]:Array Value)[i % (#[]:Array Value).size]!))=((Array.range (0*es)).map (λi=>v.cells[i % v.cells.size]!)):=by simp
     rw[e0,D1,hC];simp[newRow]
    .rw[aD p7]
     simp only[Sem.run_bind,zeroValue,typeInfo,run_program,Result.andThen_ok,hi,hv,Sem.run_pure];rw[D1,hC];simp[newRow]
   have hlen:=oP fX;rw[x9 hrl,Fm]at hlen;simp at hlen;have hg:=gN.alloc w (.cells C' e);simp only[aU,rM]at hok hK;cases fz with
   |true =>
    simp only[dF]at hok hK;obtain⟨r,hr⟩:=Nn hok;rw[hr]at hK;simp only[uq,gI]at hr;obtain⟨ds,hds,rfl⟩:=hr;have he:=Fk hds;have Zn:ds.length=k:=by rw[he]at Fm;simpa using Fm
    refine Y8 hs hd (I':=iL g.I w.heap.size C'.size) hrun hg (λb hb=>Fl hb) (Tx hs.heap.new _) ?_ hK
    simp only[aI,bR,Gh.dZ];refine⟨some ⟨w.heap.size,0,none⟩,k,by rw[Zn],by omega,by simp,λ_=>⟨_,rfl,λ_=>⟨rfl,by simp[iL];rw[Zn];omega,?_⟩⟩⟩
    simp only;refine uU λr row hrow=>?_
    have oT:rows[r]?=some (row.map V.d):=by rw[he];simp[hrow]
    have TD:row.length=es:=by have:=hrl _ (kU oT);simpa using this
    refine⟨TD,wh λj c hj=>?_⟩
    have hf:=Fj hrl oT (j:=j) (c:=.d c) (by simp[hj])
    obtain⟨u,n8,hd'⟩:=C3 fX hf;refine⟨u,?_,TC u (kU n8),xY (C5 hg (λb hb=>Fl hb) hs.heap.new) (by simpa only[aI]using hd')⟩
    simp only[World.cell?,zD,nQ];simpa using n8
   |false =>
    simp only[eI,dI,sV,St.gh]at hok hK;refine Is hs hd (b:=w.heap.size) (off:=0) (I':=g.I) hrun hg (λ_ _=>rfl) (λb hb=>hs.heap.new b (by simp at hb;omega)) (gf _) ?_ ?_ hK
    .exact Tw (h:=s.heap) (zD w _) hrl fX TC (zC _ hs.heap hg (λ_ _=>rfl)) (hs.heap.new _ (gf _))
    .simp only[aI]
     refine⟨by simp,rfl,λes' he'=>⟨k,by simp[Gh.add],gf _,?_,C',e,by have:=zD w (.cells C' e);simpa only[Gh.add,dF]using this,?_⟩⟩
     .rw[C7]
      unfold eK;split
      .rename_i ds hds
       have he:=Fk hds
       have:ds.length=k:=by rw[he]at Fm;simpa using Fm
       simp[O.len,this]
      .simp[O.len,Fm]
     .have:es'=es:=by
       rw[C7]at he';unfold eK at he';split at he'<;>simp[O.gM]at he'<;>exact he'.symm
      subst this;refine⟨?_,TC⟩;simp[Gh.add];rw[jg];omega
  .simp at h
 .simp at h
end
end Go.VS
namespace Go.VS
section
variable {P:Program}{φ:fj}
variable {nt m dB:Nat}{s:St}{g:Gh}{a:Act}{w:World}{K:Act->World->Prop}{Q:Exit->Act->World->Prop}{o:Oper}
theorem Dc{α:Type}{cs new:List α}{o:Nat}(h:o+new.length<=cs.length)(i:Nat):
  (aq cs o new)[i]?=if i<o then cs[i]? else if i<o+new.length then new[i - o]? else cs[i]?:=by
 unfold aq;have ht:(cs.take o).length=o:=by simp;omega
 by_cases h1:i<o
 .rw[aK h1,sU,sQ (by omega),yK,aK h1]
 .rw[aD h1,sU,An (by omega),ht]
  by_cases h2:i<o+new.length
  .rw[aK h2,sQ (by omega)]
  .rw[aD h2,An (by omega),pF]
   congr 1;omega
theorem Bi{α:Type}{cs new:List α}{o:Nat}(h:o+new.length<=cs.length):(aq cs o new).length=cs.length:=by
 unfold aq;simp;omega
theorem xZ.Bj{CS:Array Value}(h:xZ CS){p:Nat}{us:List Value}(h1:∀u∈us,u.oneCell'=true):xZ (aq CS.toList p us).toArray:=λx hx=>by
 simp only[aq,dj]at hx;rcases hx with(hx |hx) |hx
 .exact h x (nN hx)
 .exact h1 x hx
 .exact h x (mO hx)
theorem aia{α β:Type}(f:α->β)(cs new:List α)(o:Nat):(aq cs o new).map f=aq (cs.map f) o (new.map f):=by
 simp[aq]
theorem Nr{b:Nat}{cur cs:Array Value}{T:TypeId}(hg:w.heap[b]?=some (.cells cur T (0,0))):jS w (w.setRow b cs) b/\(w.setRow b cs).heap[b]?=some (.cells cs T (0,0)):=by
 refine⟨⟨size_setRow w b cs,λk hk=>?_,rfl,rfl,rfl⟩,setRow_heap w b cur cs T (0,0) hg⟩
 simp only[World.setRow,Array.getElem?_modify];rw[aD (by omega)]
theorem Zo{t:TypeId}{n:Nat}(hsz:jw P t n=true){b off:Nat}{cur:Array Value}{T:TypeId}(hg:w.heap[b]?=some (.cells cur T (0,0))){v:Value}(hv:v.cells.size=n)
  (hfit:off+n<=cur.size)(h1:∀x∈v.cells.toList,x.oneCell'=true):
  ∃w',(Instr.storeAt t (.pointer (some ⟨b,off,none⟩)) v).run P w = .ok () w'/\jS w w' b/\w'.heap[b]?=some (.cells (aq cur.toList off v.cells.toList).toArray T (0,0)):=by
 have h2:=wI (P:=P) (w:=w) hsz;have h3:=run_storeCells_at P b off T v.cells.toList 0 cur w hg (by simp;omega) h1
 obtain⟨h4,h5⟩:=Nr (cs:=(aq cur.toList off v.cells.toList).toArray) hg;refine⟨w.setRow b (aq cur.toList off v.cells.toList).toArray,?_,h4,h5⟩;simp only[GB]at h3;simp only[Instr.storeAt,Instr.sureAddr,Sem.run_bind,Sem.run_pure,Result.andThen_ok,storeVar,h2,hv];simp[h3,aq]
theorem aib{h:List O}{b es off:Nat}{rows:List (List D)}(hr:jE φ g.I w b es off rows):wj φ h g w b es off (rows.map λr=>r.map V.d):=by
 intro r row hrow;simp only[vu,gI]at hrow;obtain⟨x,hx,rfl⟩:=hrow;obtain⟨h1,h2⟩:=nY hr hx;refine⟨by simpa using h1,λj c hj=>?_⟩
 simp only[vu,gI]at hj;obtain⟨y,hy,rfl⟩:=hj;obtain⟨v,h3,h4,h5⟩:=Fb h2 hy;exact⟨v,h3,h4,by simpa only[aI]using h5⟩
theorem aic{h:List O}{b es off:Nat}{rows:List (List D)}(hr:wj φ h g w b es off (rows.map λr=>r.map V.d)):jE φ g.I w b es off rows :=
 uU λr row hrow=>by
  obtain⟨h1,h2⟩:=hr r (row.map V.d) (by simp[hrow])
  refine⟨by simpa using h1,wh λj c hj=>?_⟩
  obtain⟨v,h3,h4,h5⟩:=h2 j (.d c) (by simp[hj])
  exact⟨v,h3,h4,by simpa only[aI]using h5⟩
theorem aid{h h':List O}{g':Gh}{w':World}{b es off:Nat}{rows:List (List V)}(hle:gS h g w h' g' w')(hr:wj φ h g w b es off rows)
  {cur:Array Value}{T:TypeId}(hg:w.heap[b]?=some (.cells cur T (0,0))){r c:Nat}{row xs:List V}{us:List Value}(hrow:rows[r]?=some row)(hc:c+xs.length<=row.length)
  (hx:bT φ h g w xs us)(h1:∀u∈us,u.oneCell'=true)(hfit:off+es*rows.length<=cur.size)
  (hw':w'.heap[b]?=some (.cells (aq cur.toList (off+r*es+c) us).toArray T (0,0))):wj φ h' g' w' b es off (rows.set r (aq row c xs)):=by
 have TE:=oP hx;have hrl:row.length=es:=(hr r row hrow).1;have Fo:r<rows.length:=by
  rcases kZ r rows.length with h2 |h2
  .exact h2
  .simp[nO h2]at hrow
 have hin:(r+1)*es<=es*rows.length:=by rw[jg es];exact lU es Fo
 rw[qU]at hin;have nG:off+r*es+c+us.length<=cur.toList.length:=by simp;omega
 have cell:∀i,w'.cell? ⟨b,i,none⟩=if i<off+r*es+c then w.cell? ⟨b,i,none⟩else if i<off+r*es+c+us.length then us[i - (off+r*es+c)]? else w.cell? ⟨b,i,none⟩:=by
  intro i;have:=Dc nG i;simp only[World.cell?,hw',hg,BZ];simpa using this
 have old:∀i x,¬(off+r*es+c<=i/\i<off+r*es+c+us.length)->w.cell? ⟨b,i,none⟩=some x->w'.cell? ⟨b,i,none⟩=some x:=by
  intro i x hi hx;rw[cell];split
  .exact hx
  .rw[aD (by omega)];exact hx
 intro r' row' oT;by_cases dS:r'=r
 .subst dS
  rw[List.getElem?_set_self Fo]at oT;simp at oT;subst oT;refine⟨by rw[Bi hc];exact hrl,λj y hj=>?_⟩
  rw[Dc hc]at hj;have keep:row[j]?=some y->¬(c<=j/\j<c+xs.length)->∃x,w'.cell? ⟨b,off+r'*es+j,none⟩=some x/\x.oneCell'=true/\aI φ h' g' w' y x:=by
   intro hj hn;obtain⟨x,h2,h3,h4⟩:=(hr r' row hrow).2 j y hj;exact⟨x,old _ _ (by omega) h2,h3,lI hle h4⟩
  split at hj
  .exact keep hj (by omega)
  .split at hj
   .rename_i h2 h3
    obtain⟨u,hu,hru⟩:=C3 hx hj;refine⟨u,?_,h1 u (kU hu),lI hle hru⟩;rw[cell,aD (by omega),aK (by omega)]
    rw[<-hu];congr 1;omega
   .exact keep hj (by omega)
 .rw[List.getElem?_set_ne (Ne.symm dS)]at oT
  refine⟨(hr r' row' oT).1,λj y hj=>?_⟩
  obtain⟨x,h2,h3,h4⟩:=(hr r' row' oT).2 j y hj;have hjl:j<es:=by
   have:=(hr r' row' oT).1;rcases kZ j row'.length with h5 |h5
   .omega
   .simp[nO h5]at hj
  refine⟨x,old _ _ ?_ h2,h3,lI hle h4⟩;intro aie;rcases Nat.lt_or_gt_of_ne dS with h5 |h5
  .have:(r'+1)*es<=r*es:=lU es h5
   rw[qU]at this;omega
  .have:(r+1)*es<=r'*es:=lU es h5
   rw[qU]at this;omega
end
end Go.VS
namespace Go.VS
section
variable {P:Program}{φ:fj}
variable {nt m dB:Nat}{s:St}{g:Gh}{a:Act}{w:World}{K:Act->World->Prop}{Q:Exit->Act->World->Prop}{o:Oper}
theorem Iv{b:Nat}{w':World}(ht:jS w w' b){cur:Array Value}{T:TypeId}(hg:w.heap[b]?=some (.cells cur T (0,0))){p:Nat}{us:List Value}(hp:p+us.length<=cur.size)
  (hw':w'.heap[b]?=some (.cells (aq cur.toList p us).toArray T (0,0))){I I':Nat->Nat}(hI:I b<=p)(ya:∀k,I k<=I' k):Ext I w I' w' :=
 ⟨ya,λk i hi=>by
  by_cases hk:k=b
  .subst hk
   have:=Dc (cs:=cur.toList) (new:=us) (o:=p) (by simpa using hp) i
   simp only[World.cell?,hw',hg,BZ];rw[aK (by omega)]at this
   simpa using this
  .exact Im (ht.same k hk) i⟩
theorem cm.x8(hs:cm φ nt m dB s g a w){n:Nat}{x:O}{w':World}{I':Nat->Nat}{ok:Bool}(hl:(aV s.heap n).live=true)(ht:jS w w' (g.β n))(hle:gS s.heap g w (s.heap.set n x) (g.dZ I') w')(hr:eU φ (s.heap.set n x) (g.dZ I') w'):
  cm φ nt m dB ⟨s.env,s.heap.set n x,ok⟩ (g.dZ I') a w' :=
 ⟨λk=>lI hle (hs.env k),hr,hs.size,hs.defers.x8 hl ht,by simpa using hs.len⟩
theorem TF(hs:cm φ nt m dB s g a w){n r c es k:Nat}{rows:List (List V)}{row:List V}{xs:List V}{us:List Value}{t:TypeId}{v:Value}{x:O}{ok:Bool}
  (hl:(aV s.heap n).live=true)(jF:(aV s.heap n).gM=some es)(hlen:(aV s.heap n).len=rows.length)
  (dD:(∃CS T,w.heap[g.β n]?=some (.cells CS T (0,0))/\g.o n+es*rows.length<=CS.size)/\wj φ s.heap g w (g.β n) es (g.o n) rows/\g.I (g.β n)<=g.o n)
  (hrow:rows[r]?=some row)(hc:c+k<=row.length)(hxl:xs.length=k)(hsz:jw P t k=true)(hv:v.cells.size=k)(Fp:v.cells.toList=us)
  (hx:bT φ s.heap g w xs us)(h1:∀u∈us,u.oneCell'=true)
  (Ns:x.gM=some es/\x.len=rows.length/\(∀kv,x≠.mp kv))
  (hxr:∀{h':List O}{g':Gh}{w':World},(∃CS T,w'.heap[g.β n]?=some (.cells CS T (0,0))/\g.o n+es*rows.length<=CS.size)->wj φ h' g' w' (g.β n) es (g.o n) (rows.set r (aq row c xs))->g'.I (g.β n)<=g.o n->gz φ h' g' w' (g.β n) (g.o n) x):
  ∃w',(Instr.storeAt t (.pointer (some ⟨g.β n,g.o n+r*es+c,none⟩)) v).run P w = .ok () w'/\cm φ nt m dB ⟨s.env,s.heap.set n x,ok⟩ g a w'/\Frame m s.heap g w (s.heap.set n x) g w':=by
 obtain⟨⟨cur,T,hg,hfit⟩,dS,hI⟩:=dD;have TE:=oP hx;have hrl:row.length=es:=(dS r row hrow).1;have Fo:r<rows.length:=by
  rcases kZ r rows.length with h2 |h2
  .exact h2
  .simp[nO h2]at hrow
 have hin:(r+1)*es<=es*rows.length:=by rw[jg es];exact lU es Fo
 rw[qU]at hin;obtain⟨w',hrun,ht,hw'⟩:=Zo (P:=P) (w:=w) hsz (off:=g.o n+r*es+c) hg hv (by omega) (by rw[Fp];exact h1)
 rw[Fp]at hw';have hE:Ext g.I w g.I w':=Iv ht hg (by omega) hw' (by omega) (λ_=>gf _)
 have hsize:(aq cur.toList (g.o n+r*es+c) us).toArray.size=cur.size:=by
  have:=Bi (cs:=cur.toList) (new:=us) (o:=g.o n+r*es+c) (by simp;omega)
  simpa using this
 have hle:gS s.heap g w (s.heap.set n x) (g.dZ g.I) w':=wu hs.heap hl ht hE
  (λes' he'=>by
   rw[Ns.1]at he';simp at he';subst he';refine⟨jF,by rw[Ns.2.1,hlen],λCS T' hcs=>?_⟩
   rw[hg]at hcs;simp at hcs;obtain⟨rfl,rfl⟩:=hcs;exact⟨_,_,hw',by rw[hsize];exact gf _,λhone=>xZ.Bj hone h1⟩)
  (λkv hkv=>absurd hkv (Ns.2.2 kv)) (λhh=>by have he:=Ns.1;cases x<;>simp[O.tL,O.gM]at hh he)
 have hnew:=aid hle dS hg hrow (xs:=xs) (by omega) hx h1 hfit hw'
 have hH:=wx (x:=x) hs.heap hl ht hle (λ_ _=>rfl) (hxr ⟨_,T,hw',by rw[hsize];exact hfit⟩ hnew hI)
 exact⟨w',hrun,hs.x8 hl ht hle hH,wy x hl ht hE (λ_ _=>rfl) hle⟩
theorem aif{rows:List (List D)}{r:Nat}{y:List D}:(rows.set r y).map (λx=>x.map V.d)=(rows.map λx=>x.map V.d).set r (y.map V.d):=by
 rw[List.map_set]
theorem Zp{ov:Option (List O)}(h:(s.so ov).ok=true):∃hh,ov=some hh:=by
 cases ov with
 |none=>simp[St.so,St.fail]at h
 |some hh=>exact⟨hh,rfl⟩
theorem Zq{t:TypeId}{x y:Operand}{w':World}(ho:o.op = .store t x y)(uY:o.dst=none)(hrun:(Instr.storeAt t (a.eval x) (a.eval y)).run P w = .ok () w')(hk:K a w'):o.wp P a w K Q:=by
 refine Y5 (w':=w') (by simp[execOp,ho,hrun]) ?_
 rw[uY];exact hk
theorem aih(hs:cm φ nt m dB s g a w){rec:Rec}{n:Nat}{x y:A}(hc:cL P φ nt o (.st x y n false)=true)(hok:(aU rec (.st x y n false) s).ok=true)
  (hK:eu φ nt m dB s g w (aU rec (.st x y n false) s) o a K):o.wp P a w K Q:=by
 simp only[cL]at hc;split at hc
 .rename_i t x' y' ho
  simp only[bJ,fZ,dN]at hc;obtain⟨⟨⟨⟨⟨uY,hx⟩,hy⟩,hsz⟩,hpos⟩,_⟩:=hc;have rx:=eE hs hx;have ry:=eE hs hy;simp only[aU,eI,dI]at hok hK;obtain⟨hh,hst⟩:=Zp hok;rw[hst]at hK;simp only[St.so]at hK;have fin:∀{w':World},(Instr.storeAt t (a.eval x') (a.eval y')).run P w = .ok () w'->cm φ nt m dB ⟨s.env,hh,s.ok⟩ g a w'->Frame m s.heap g w hh g w'->o.wp P a w K Q:=by
   intro w' h1 h2 h3;refine Zq ho uY h1 ?_;have:=hK g undef w';rw[uY]at this;exact this h2 h3
  unfold Kb at hst;split at hst
  .rename_i q r c hp
   rw[hp]at rx;simp only[aI]at rx;have dD:=hs.heap.obj q;split at hst
   .rename_i es rows hq
    rw[hq]at rx dD;have ex:=rx.2.2 es rfl;split at hst
    .rename_i row hrow
     split at hst
     .rename_i dV
      obtain⟨sI,hvl,hkn⟩:=dV;obtain⟨rc,h1⟩:=Fe ry hkn;have hvs:(a.eval y').cells.size=n:=by have:=oP rc;simp at this;omega
      have Nt:(∃CS T,w.heap[g.β q]?=some (.cells CS T (0,0))/\g.o q+es*(rows.map λr=>r.map V.d).length<=CS.size)/\wj φ s.heap g w (g.β q) es (g.o q) (rows.map λr=>r.map V.d)/\g.I (g.β q)<=g.o q :=
       ⟨by simpa using dD.1,aib dD.2.1,by simpa using dD.2.2⟩
      have oT:(rows.map λr=>r.map V.d)[r]?=some (row.map V.d):=by simp[hrow]
      split at hst
      .rename_i ds hds
       simp at hst;subst hst;obtain⟨w',h2,h3,h4⟩:=TF (P:=P) hs (x:=.aG es true (rows.set r (aq row c ds))) (ok:=s.ok) (by rw[hq];rfl) (by rw[hq];rfl) (by rw[hq];simp[O.len]) Nt oT (by simpa using sI) hvl hsz hvs rfl rc h1
        ⟨rfl,by simp[O.len],by simp⟩ (λhb hr hI=>⟨by simpa using hb,aic (by rw[aif,aia,<-Fc hds];exact hr),by simpa using hI⟩)
       exact fin (by rw[ex];exact h2) h3 h4
      .simp at hst
       subst hst;obtain⟨w',h2,h3,h4⟩:=TF (P:=P) hs (x:=.gJ es ((rows.map λx=>x.map V.d).set r (aq (row.map V.d) c (s.get y).cells))) (ok:=s.ok) (by rw[hq];rfl) (by rw[hq];rfl) (by rw[hq];simp[O.len]) Nt oT (by simpa using sI) hvl hsz hvs rfl rc h1
        ⟨rfl,by simp[O.len],by simp⟩ (λhb hr hI=>⟨by simpa using hb,hr,hI⟩)
       exact fin (by rw[ex];exact h2) h3 h4
     .simp at hst
    .simp at hst
   .rename_i es rows hq
    rw[hq]at rx dD;have ex:=rx.2.2 es rfl;split at hst
    .rename_i row hrow
     split at hst
     .rename_i dV
      obtain⟨sI,hvl,hkn⟩:=dV;obtain⟨rc,h1⟩:=Fe ry hkn;have hvs:(a.eval y').cells.size=n:=by have:=oP rc;simp at this;omega
      simp at hst;subst hst;obtain⟨w',h2,h3,h4⟩:=TF (P:=P) hs (x:=.gJ es (rows.set r (aq row c (s.get y).cells))) (ok:=s.ok) (by rw[hq];rfl) (by rw[hq];rfl) (by rw[hq];rfl) dD hrow sI hvl hsz hvs rfl rc h1
       ⟨rfl,by simp[O.len],by simp⟩ (λhb hr hI=>⟨by simpa using hb,hr,hI⟩)
      exact fin (by rw[ex];exact h2) h3 h4
     .simp at hst
    .simp at hst
   .simp at hst
  .simp at hst
 .simp at hc
theorem aii(hs:cm φ nt m dB s g a w){rec:Rec}{n:Nat}{x y:A}(hc:cL P φ nt o (.st x y n true)=true)(hok:(aU rec (.st x y n true) s).ok=true)
  (hK:eu φ nt m dB s g w (aU rec (.st x y n true) s) o a K):o.wp P a w K Q:=by
 simp only[cL]at hc;split at hc
 .rename_i t x' y' ho
  simp only[bJ,fZ,dN]at hc;obtain⟨⟨⟨⟨⟨uY,hx⟩,hy⟩,hsz⟩,hpos⟩,wL⟩:=hc;have rx:=eE hs hx;have ry:=eE hs hy;simp only[aU,dF]at hok hK;cases x with
  |k q=>simp[St.fail]at hok
  |t d =>
   simp only at wL;have hd:d<nt:=by simpa using wL
   cases hp:s.get (.t d)with
   |loc q r c =>
    rw[hp]at hok hK rx;cases r with
    |succ r=>simp[St.fail]at hok
    |zero =>
     cases c with
     |succ c=>simp[St.fail]at hok
     |zero =>
      simp only at hok hK;have dD:=hs.heap.obj q;cases hq:aV s.heap q with
      |aG es ex rows =>
       rw[hq]at hok hK dD;simp only[aI,hq]at rx;have Zr:=rx.2.2 es rfl;cases ex with
       |false=>simp[St.fail]at hok
       |true =>
        match rows,dD,hok,hK,hq with
        | [],_,hok,_,_=>simp[St.fail]at hok
        |_::_::_,_,hok,_,_=>simp[St.fail]at hok
        | [z],dD,hok,hK,hq =>
         simp only at hok hK;split at hK
         .rename_i dV
          rw[aK dV]at hok;obtain⟨hzl,hvl,hkn⟩:=dV;obtain⟨v,hh,hv⟩:=Bg hok;rw[hv]at hK;simp only[gw,ur]at hv;obtain⟨rfl,rfl⟩:=hv;simp only[St.gh]at hK;obtain⟨rc,h1⟩:=Fe ry hkn;have hvs:(a.eval y').cells.size=n:=by have:=oP rc;simp at this;omega
          obtain⟨⟨cur,T,hg,hfit⟩,dS,hI⟩:=dD;simp only[dF]at hI;have aij:z.length=es:=(nY dS (r:=0) rfl).1;simp only[iy,k9,nQ,Ph]at hfit;obtain⟨w',hrun,ht,hw'⟩:=Zo (P:=P) (w:=w) hsz (off:=g.o q) hg hvs (by omega) h1
          have Iw:=oP rc;have hE:Ext g.I w (iL g.I (g.β q) (g.o q+n)) w':=Iv ht hg (by simp;omega) hw' (by omega) (λk=>by simp only[iL];split<;>simp_all;omega)
          have hl:(aV s.heap q).live=true:=by rw[hq];rfl
          have hle:gS s.heap g w (s.heap.set q .dead) (g.dZ (iL g.I (g.β q) (g.o q+n))) w':=wu hs.heap hl ht hE (λes he=>by simp[O.gM]at he) (λkv hkv=>by simp at hkv)
          have hH:eU φ (s.heap.set q .dead) (g.dZ (iL g.I (g.β q) (g.o q+n))) w':=wx hs.heap hl ht hle (λb hb=>by simp[iL,hb]) trivial
          have hS:=hs.x8 (ok:=s.ok) hl ht hle hH;refine Zq ho uY (w':=w') (by rw[Zr];simpa using hrun) ?_
          have hk:=hK (g.dZ (iL g.I (g.β q) (g.o q+n))) undef w';rw[uY]at hk;refine hk ?_ (wy .dead hl ht hE (λb hb=>by simp[iL,hb]) hle)
          refine⟨λk=>?_,hH,hs.size,hS.defers,by simpa using hs.len⟩
          simp only[cA];by_cases qH:d=k
          .subst qH
           rw[aK rfl];have Dd:a.tmps.getD d undef = .pointer (some ⟨g.β q,g.o q,none⟩):=by
            cases x' with
            |tmp t =>
             simp[dM]at hx;subst hx;simpa[Act.eval]using Zr
            |const v=>simp[dM]at hx
            |func f=>simp[dM]at hx
            |_=>simp[dM]at hx
           have aik:(a.put none undef).tmps.getD d undef = .pointer (some ⟨g.β q,g.o q,none⟩):=Dd;rw[aik];have Zs:∀(j:Nat)(u:Value),(a.eval y').cells.toList[j]?=some u->w'.cell? ⟨g.β q,g.o q+j,none⟩=some u:=by
            intro j u hj;have hjl:j<(a.eval y').cells.toList.length:=by
             rcases kZ j (a.eval y').cells.toList.length with h2 |h2
             .exact h2
             .simp[nO h2]at hj
            have nG:=Dc (cs:=cur.toList) (new:=(a.eval y').cells.toList) (o:=g.o q) (by simp;omega) (g.o q+j)
            rw[aD (by omega),aK (by omega),Po,hj]at nG
            simp only[World.cell?,hw',BZ];simpa using nG
           unfold mkRef;split
           .rename_i ds hds
            simp only[aI,bR,Gh.dZ];have Zt:=zy hds rc;have hdn:=sH Zt;simp at hdn;exact⟨g.β q,g.o q,rfl,by simp[iL];omega,Ni (vs:=(a.eval y').cells.toList) (zu hE Zt) Zs h1⟩
           .simp only[aI,Gh.dZ]
            simp at Iw;exact⟨g.β q,g.o q,(a.eval y').cells.toList,rfl,by simp[iL];omega,x6 hle rc,λj u hj=>⟨Zs j u hj,h1 u (kU hj)⟩⟩
          .rw[aD qH]
           exact hS.env k
         .rename_i dV
          rw[aD dV]at hok;simp[St.fail]at hok
      |_=>rw[hq]at hok;simp[St.fail]at hok
   |_=>rw[hp]at hok;simp[St.fail]at hok
 .simp at hc
end
end Go.VS
namespace Go.VS
section
variable {P:Program}{φ:fj}
variable {nt m dB:Nat}{s:St}{g:Gh}{a:Act}{w:World}{K:Act->World->Prop}{Q:Exit->Act->World->Prop}{o:Oper}
def l7(P:Program)(φ:fj)(rec:Rec):Prop :=
 ∀(f:Nat)(xs:List V)(h:List O)(v:V)(h1:List O),rec (.call f xs h)=some (.val v h1) ->
  (∃ fn, P.funcs[φ f]? = some fn ∧ (fn.name == "runtime.NumGoroutine") = false ∧ fn.body.isNone = false) ∧
  ∀(g:Gh)(w:World)(args:Array Value),eU φ h g w->bT φ h g w xs args.toList ->
   Calls P (φ f) args w λe w'=>∃v' g',e = .returned v'/\eU φ h1 g' w'/\aI φ h1 g' w' v v'/\Frame h.length h g w h1 g' w'
theorem Nu{I:Nat->Nat}{w:World}(h0:∀b,w.heap.size<=b->I b=0):eU φ [] ⟨λ_=>0,λ_=>0,I⟩ w where
 obj n:=by simp[aV,gz]
 inj n k hn:=by simp[aV,O.live]at hn
 new:=h0
theorem Zu{g':Gh}{w:World}(hg:g'.I=g.I){x:V}{v:Value}(hr:aI φ [] g w x v):aI φ [] g' w x v :=
 lI (h:=[]) (h':=[]) ⟨by rw[hg];exact Ext.refl _ _,gf _,λn es hn=>by simp at hn,λn kv hn=>by simp at hn,λn hn=>by simp at hn⟩ hr
theorem Nv{m:Nat}{g0 g2:Gh}{w w':World}{h2:List O}(hfr:Frame m [] g0 w h2 g2 w'):gN w w'/\∀b,b<w.heap.size->g2.I b=g0.I b:=by
 have hk:=λb hb=>hfr.keep b hb (λn hn=>by simp[aV,O.live]at hn)
 exact⟨⟨hfr.size,λb hb=>(hk b hb).1,hfr.os,hfr.tape,hfr.output⟩,λb hb=>(hk b hb).2⟩
mutual
theorem Zv{h:List O}{g:Gh}{w:World}:∀{x:V}{v:Value},aI φ [] g w x v->aI φ h g w x v
 | .u,v,_=>by simp[aI]
 | .kA,v,hr=>by simpa[aI]using hr
 | .d x,v,hr=>by simpa only[aI]using hr
 | .loc n r c,v,hr=>by simp[aI]at hr
 | .aR n off len,v,hr=>by simp[aI]at hr
 | .jc n off len,v,hr=>by simp[aI]at hr
 | .iO _,v,hr=>by simpa only[aI]using hr
 | .mp n,v,hr=>by simp[aI]at hr
 | .jh n,v,hr=>by simp[aI]at hr
 | .rf cs,v,hr=>by
  simp only[aI]at hr⊢;obtain⟨b,off,us,h1,h2,h3,h4⟩:=hr;exact⟨b,off,us,h1,h2,Fq h3,h4⟩
 | .fn f a b,v,hr=>by
  simp only[aI]at hr⊢;obtain⟨A,B,h1,h2,h3⟩:=hr;exact⟨A,B,h1,Fq h2,Fq h3⟩
 | .ag cs,v,hr=>by
  simp only[aI]at hr⊢;obtain⟨A,h1,h2,h3⟩:=hr;exact⟨A,h1,Fq h2,h3⟩
 | .tu cs,v,hr=>by
  simp only[aI]at hr⊢;obtain⟨A,h1,h2⟩:=hr;exact⟨A,h1,Fq h2⟩
theorem Fq{h:List O}{g:Gh}{w:World}:∀{xs:List V}{vs:List Value},bT φ [] g w xs vs->bT φ h g w xs vs
 | [],[],_=>by simp[bT]
 |_::_,_::_,hr=>by
  simp only[bT]at hr⊢;exact⟨Zv hr.1,Fq hr.2⟩
 | [],_::_,hr=>by simp[bT]at hr
 |_::_,[],hr=>by simp[bT]at hr
end
theorem ail{rec:Rec}{f:Nat}{xs:List V}{v:V}(h:kC rec f xs=some v):∃ds,fu xs=some ds/\rec (.call f xs [])=some (.val v []):=by
 unfold kC at h;split at h
 .rename_i ds hds
  refine⟨ds,hds,?_⟩;split at h
  .rename_i v' hv
   simp at h;subst h;exact hv
  .simp at h
 .simp at h
theorem De{d:Option Nat}(h:p5 nt o d=true):o.dst=d/\∀k,d=some k->k<nt:=by
 simp only[p5,bJ,dN]at h;refine⟨h.1,λk hk=>?_⟩
 subst hk;simpa using h.2
theorem Nw{f : Nat}{fn : Func}{args : Array Value}(hf : P.funcs[f]? = some fn)(hn : (fn.name == "runtime.NumGoroutine") = false)(hb : fn.body.isNone = false):
  (callFunc f args).run P w = .ok (.enter f args) w:=by
 have hn' : fn.name ≠ "runtime.NumGoroutine" := by simpa using hn
 have hb':fn.body≠none:=by intro h;simp[h]at hb
 simp[callFunc,hf,hn',hb']
theorem TG{rec:Rec}(hq:l7 P φ rec)(hs:cm φ nt m dB s g a w){d:Option Nat}(hd:p5 nt o d=true){f:Nat}{xs:List V}{args:Array Value}{ov:Option V}(nG:ov=kC rec f xs)
  (hok:(s.mQ d ov).ok=true)(hr:bT φ s.heap g w xs args.toList)
  (hrun:(execOp a.eval o).run P w=(callFunc (φ f) args).run P w)(hK:eu φ nt m dB s g w (s.mQ d ov) o a K):o.wp P a w K Q:=by
 obtain⟨v,hv⟩:=Cc hok;obtain⟨ds,hds,gT⟩:=ail (by rw[<-nG];exact hv)
 obtain⟨⟨fn,hf,hn,hb⟩,oU⟩:=hq f xs [] v [] gT;unfold Oper.wp;rw[hrun,Nw hf hn hb];simp only[Oper.upon];have hxs:bT φ [] ⟨λ_=>0,λ_=>0,g.I⟩ w xs args.toList:=by
  rw[Fc hds];exact zx (g:=⟨λ_=>0,λ_=>0,g.I⟩) (show cy φ g.I w ds args.toList from zy hds hr)
 refine Calls.mono (oU ⟨λ_=>0,λ_=>0,g.I⟩ w args (Nu hs.heap.new) hxs) λe w' h=>?_
 obtain⟨v',g1,rfl,rN,fX,hfr⟩:=h;obtain⟨hg,hI⟩:=Nv hfr;have hnew:=rN.new;obtain⟨I',ya⟩:∃I',g1.I=I':=⟨_,rfl⟩;rw[ya]at hI hnew;obtain⟨h1,h2⟩:=De hd;have hs':=hs.Nm (I':=I') hg hI hnew;have hrv:aI φ s.heap (g.dZ I') w' v v':=Zv (Zu (g':=g.dZ I') ya.symm fX);refine hK (g.dZ I') v' w' ?_ ?_
 .rw[h1,hv]
  cases d with
  |none=>exact hs'
  |some d=>exact hs'.wF (h2 d rfl) hrv
 .rw[hv]
  cases d with
  |none=>exact C6 m hs.heap hg hI
  |some d=>exact C6 m hs.heap hg hI
theorem aim{rec:Rec}(hq:l7 P φ rec)(hs:cm φ nt m dB s g a w){d:Option Nat}{f:Nat}{xs:List A}(hc:cL P φ nt o (.call d f xs)=true)(hok:(aU rec (.call d f xs) s).ok=true)
  (hK:eu φ nt m dB s g w (aU rec (.call d f xs) s) o a K):o.wp P a w K Q:=by
 simp only[cL,bJ]at hc;obtain⟨hd,h⟩:=hc;split at h
 .rename_i c ho
  split at h
  .rename_i ff iu
   simp only[bJ,dN]at h;obtain⟨rfl,hx⟩:=h;simp only[aU]at hok hK;refine TG hq hs hd (f:=f) (xs:=xs.map s.get) (args:=c.args.map a.eval) rfl hok (by simpa using wE hs hx) ?_ hK
   simp[execOp,ho,resolve,iu,Act.eval,Deferred.ofValue,invoke]
  .simp at h
 .simp at h
theorem Bk{h:List O}{g:Gh}:∀{ds:List D}{vs:List Value},cy φ g.I w ds vs->bT φ h g w (ds.map V.d) vs
 | [],[],_=>by simp[bT]
 |_::_,_::_,hr=>by
  simp only[cy]at hr;simp only[gk,bT,aI];exact⟨hr.1,Bk hr.2⟩
 | [],_::_,hr=>by simp[cy]at hr
 |_::_,[],hr=>by simp[cy]at hr
theorem ain{rec:Rec}(hq:l7 P φ rec)(hs:cm φ nt m dB s g a w){d:Option Nat}{x:A}{xs:List A}(hc:cL P φ nt o (.nR d x xs)=true)(hok:(aU rec (.nR d x xs) s).ok=true)
  (hK:eu φ nt m dB s g w (aU rec (.nR d x xs) s) o a K):o.wp P a w K Q:=by
 simp only[cL,bJ]at hc;obtain⟨hd,h⟩:=hc;split at h
 .rename_i c ho
  split at h
  .rename_i y iu
   simp only[bJ]at h;obtain⟨hx,hxs⟩:=h;simp only[aU]at hok hK;have rx:=eE hs hx;have yc:=wE hs hxs;have key:∀{f:Nat}{A B:Array Value}{zs:List V},a.eval y = .func (.func (φ f)) A B->lZ (kC rec) (s.get x) (xs.map s.get)=kC rec f zs ->
     bT φ s.heap g w zs (A.toList++c.args.toList.map a.eval++B.toList)->o.wp P a w K Q:=by
    intro f A B zs he hz hr;refine TG hq hs hd (f:=f) (xs:=zs) (args:=A++c.args.map a.eval++B) hz hok (by simpa using hr) ?_ hK
    simp[execOp,ho,resolve,iu,he,Deferred.ofValue,invoke]
   cases hv:s.get x with
   |d z =>
    cases z with
    |fn f first caps =>
     rw[hv]at rx;simp only[aI,bR]at rx;obtain⟨A,B,he,hA,hB⟩:=rx;exact key he (by rw[hv];rfl) (rI (rI (Bk hA) yc) (Bk hB))
    |_=>rw[hv]at hok;simp[lZ,St.mQ,St.fail]at hok
   |fn f first caps =>
    rw[hv]at rx;simp only[aI]at rx;obtain⟨A,B,he,hA,hB⟩:=rx;exact key he (by rw[hv];rfl) (rI (rI hA yc) hB)
   |_=>rw[hv]at hok;simp[lZ,St.mQ,St.fail]at hok
  .simp at h
 .simp at h
end
end Go.VS
