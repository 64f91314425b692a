import Derived.Test.YtjpdopldkeodgaaGreatV00
import Derived.Laws.Sem
import GoSem.Extern.Table
import Derived.Laws.Cover3
import Derived.ChangeKeysEq
import Derived.WideLaws
set_option linter.all false
set_option maxHeartbeats 1000000
namespace Go.VS
section
variable (P:Program)(φ:Nat->Nat)(nt:Nat)
def Np(v:Value)(x:D):Bool :=
 match v,x with
 | .bool a,.b b=>a==b
 | .int k n,.i k' n'=>k==k'&&n==n'
 | .string s,.s x=>s.toList==x
 | .pointer none,.nil=>true
 | .slice none 0 0,.sl _ true []=>true
 | .map none,.ue=>true
 | .nilFunc,.cM=>true
 | .nilIface,.Cc=>true
 | .func (.func f) a b,.fn g [] []=>φ g==f&&a.isEmpty&&b.isEmpty
 |_,_=>false
def De:List Value->List D->Bool
 | [],[]=>true
 |v::vs,x::xs=>Np φ v x&&De vs xs
 |_,_=>false
def Nq(v:Value)(x:D):Bool :=
 match v,x with
 | .agg A,.ag ds=>De φ A.toList ds
 |v,x=>Np φ v x
def ahm(v:Value)(z:List D):Bool:=De φ v.cells.toList z
def dP(o:Operand)(a:A):Bool :=
 match o,a with
 | .tmp t,.t n=>t==n
 | .const v,.k x=>Nq φ v x
 | .func f,.k (.fn g [] [])=>φ g==f
 |_,_=>false
def n8:List Operand->List A->Bool
 | [],[]=>true
 |o::os,a::as=>dP φ o a&&n8 os as
 |_,_=>false
def Nr:Option Operand->Option A->Bool
 |none,none=>true
 |some o,some a=>dP φ o a
 |_,_=>false
def jw(t:TypeId)(n:Nat):Bool:=(P.info? t).map (·.size)==some n
def wA(t:TypeId)(ag:Bool):Bool :=
 match P.underlying t with
 |some (.struct _) |some (.array ..)=>ag
 |some _=>!ag
 |none=>false
def Bk(t:TypeId)(z:List D):Bool :=
 match P.info? t with
 |some i=>match i.zero with
  |some v=>ahm φ v z&&i.size==z.length
  |none=>false
 |none=>false
def gp(o:Oper)(d:Nat):Bool:=o.dst==some d&&decide (d<nt)
def pT(o:Oper)(d:Option Nat):Bool:=o.dst==d&&d.all (λd=>decide (d<nt))
def Df(fs:Array Field):List (Nat×Operand)->List (Nat×Nat×A)->Bool
 | [],[]=>true
 |(i,x)::r,(o,n,a)::r'=>(match fs[i]? with |some f=>f.offset==o&&jw P f.type n |none=>false)&&dP φ x a&&Df fs r r'
 |_,_=>false
def Ft:List (Nat×Operand)->List (Nat×A)->Bool
 | [],[]=>true
 |(i,x)::r,(j,a)::r'=>i==j&&dP φ x a&&Ft r r'
 |_,_=>false
def wC(t:TypeId)(k:CK):Bool :=
 match P.underlying t,k with
 |some .bool,.b |some (.int _),.i |some .string,.s=>true
 |_,_=>false
def yc:Nat->List Field->List CK->Bool
 |_,[],[]=>true
 |off, f :: r, k :: ks => f.name != "_" && f.offset == off && wC P f.type k && yc (off + 1) r ks
 |_,_,_=>false
def Dg(t:TypeId)(ks:List CK):Bool :=
 match P.underlying t with
 |some (.struct fs)=>!P.stoodInHeld t&&!P.eqGuardType P.depth t&&yc P 0 fs.toList ks
 |_=>false
def wD(kt:TypeId)(ks:List CK):Bool :=
 match ks with
 | [k]=>wC P kt k
 |_=>Dg P kt ks
def Tq(t:TypeId)(v:Value)(k:NK):Bool :=
 match P.underlying t,v,k with
 |some (.slice _),.slice none 0 0,.sl |some (.map ..),.map none,.mp |some (.func ..),.nilFunc,.fn |some (.pointer _),.pointer none,.pt |some (.interface _),.nilIface,.mw=>true
 |_,_,_=>false
def Tr(fn:Func):Bool :=
 fn.origin == "slices.overlaps" && (Extern.allGenericRows.lookup fn.name).isNone && (Extern.allTypedRows.lookup fn.name).isNone && (Extern.allRows.lookup fn.name).isNone && (Extern.allNextRows.lookup fn.name).isNone
def Ts (k n : Nat) (e : TypeId) : Array Field := ((List.range k).map fun i => ({ name := "", type := e, offset := i * n, embedded := false, tag := "", pkgPath := "", byteOffset := 0 } : Field)).toArray
def Tt(t:TypeId)(ks:List CK):Bool :=
 match P.underlying t with
 |some (.array n e)=>!P.eqGuardType P.depth t&&(match ks with |k::_=>decide (ks=List.replicate n k)&&wC P e k&&jw P e 1 | []=>false)
 |_=>false
def Iz(n:Nat):List FieldStep->TypeId->Bool
 | [],t=>match P.underlying t with |some (.pointer _)=>false |some _=>true |none=>false
 |s::r,_=>match P.underlying s.struct with
  |some (.struct fs)=>(match fs[s.index]? with |some f=>!s.deref&&f.offset==0&&wA P f.type true&&jw P f.type n&&Iz n r f.type |none=>false)
  |_=>false
def Tu(nm:String)(t n f:Nat):Bool :=
 match P.info? t with
 |some i=>(match i.methods.find? (·.name==nm)with
  |some m=>(match m.func with |some (g,false)=>φ f==g&&Iz P n m.path.toList t |_=>false)
  |none=>false)
 |none=>false
def cN(o:Oper)(i:I):Bool :=
 match i with
 | .mv d x=>gp nt o d&&(match o.op with | .move y | .assign y=>dP φ y x |_=>false)
 | .pick d c a b=>gp nt o d&&(match o.op with | .pick c' a' b'=>dP φ c' c&&dP φ a' a&&dP φ b' b |_=>false)
 | .box d x _ _=>gp nt o d&&(match o.op with | .box _ y=>dP φ y x |_=>false)
 | .new d z=>gp nt o d&&(match o.op with | .alloc t=>Bk P φ t z |_=>false)
 | .build d z ps=>gp nt o d&&(match o.op with
  | .build t qs=>Bk P φ t z&&(match P.underlying t with |some (.struct fs)=>Df P φ fs qs.toList ps&&fs.all (λf=>(P.info? f.type).isSome) |some (.array k e)=>(match P.info? e with |some i=>Df P φ (Ts k i.size e) qs.toList ps |none=>false) |_=>false)
  |_=>false)
 | .lq d es n z ps _=>gp nt o d&&(match o.op with
  | .buildSlice t k qs=>k==n&&decide (n*es<=16777216)&&decide (0<es)&&(match P.underlying t with |some (.slice e)=>Bk P φ e z&&z.length==es&&Ft φ qs.toList ps |_=>false)
  |_=>false)
 | .ld d x n ag | .sk d x n ag=>gp nt o d&&(match o.op with | .load t y=>dP φ y x&&wA P t ag&&jw P t n |_=>false)
 | .st x y n fz=>(match o.op with | .store t x' y'=>o.dst==none&&dP φ x' x&&dP φ y' y&&jw P t n&&decide (0<n)&&(match x,fz with | .t d,true=>decide (d<nt) |_,b=>!b) |_=>false)
 | .fa d x off n | .nS d x off n=>gp nt o d&&(match o.op with
  | .fieldAddr t y k=>dP φ y x&&decide (0<n)&&(match P.underlying t with |some (.struct fs)=>(match fs[k]? with |some f=>f.offset==off&&jw P f.type n |none=>false) |_=>false)
  |_=>false)
 | .jk d x j es=>gp nt o d&&(match o.op with
  | .indexAddr t y k=>dP φ y x&&dP φ k j&&(match P.underlying t with |some (.slice e)=>jw P e es&&decide (0<es) |_=>false)
  |_=>false)
 | .oC d x j len es=>gp nt o d&&(match o.op with
  | .indexAddr t y k=>dP φ y x&&dP φ k j&&(match P.underlying t with |some (.array n e)=>n==len&&decide (1<len)&&jw P e es&&decide (0<es) |_=>false)
  |_=>false)
 | .vH d es z n k=>gp nt o d&&(match o.op with
  | .makeSlice t n' k'=>dP φ n' n&&dP φ k' k&&decide (0<es)&&(match P.underlying t with
   |some (.slice e)=>Bk P φ e z&&(match P.info? e with |some i=>i.size==es&&decide (i.bytes<=16777216) |none=>false)
   |_=>false)
  |_=>false)
 | .sj d x off n ag=>gp nt o d&&(match o.op with
  | .field t y k=>dP φ y x&&(match P.underlying t with |some (.struct fs)=>(match fs[k]? with |some f=>f.offset==off&&jw P f.type n&&wA P f.type ag |none=>false) |_=>false)
  |_=>false)
 | .sV d x=>gp nt o d&&(match o.op with | .nilCheck y=>dP φ y x |_=>false)
 | .qQ d x lo hi mx es=>gp nt o d&&(match o.op with
  | .slice t y (some lo') (some hi') (some YS)=>dP φ y x&&dP φ lo' lo&&dP φ hi' hi&&dP φ YS mx&&(match P.underlying t with |some (.slice e)=>jw P e es |_=>false)
  |_=>false)
 | .mx d x y=>gp nt o d&&(match o.op with
  | .call c=>(match c.callee,c.args.toList with
   | .builtin .max,[x',y']=>dP φ x' x&&dP φ y' y
   |_,_=>false)
  |_=>false)
 | .nk d t x=>gp nt o d&&(match o.op with
  | .makeInterface t' y=>t'==t&&dP φ y x&&(match P.underlying t with |some (.interface _)=>false |some _=>true |none=>false)
  |_=>false)
 | .inv d nm j6 x xs=>pT nt o d&&(match o.op with
  | .call c=>(match c.callee with
   | .invoke y nm'=>nm'==nm&&dP φ y x&&n8 φ c.args.toList xs&&j6.all (λe=>Tu P φ nm e.1 e.2.1 e.2.2)
   |_=>false)
  |_=>false)
 | .bad d=>pT nt o d
 | .cap d x=>gp nt o d&&(match o.op with
  | .call c=>(match c.callee,c.args.toList,c.argTypes.toList with
   | .builtin .cap,[y],[t]=>dP φ y x&&(match P.underlying t with |some (.slice _)=>true |_=>false)
   |_,_,_=>false)
  |_=>false)
 | .qR d x k es z=>gp nt o d&&(match o.op with
  | .call c=>(match c.callee,c.args.toList,c.argTypes.toList with
   | .builtin .append,[x',k'],[t,t']=>dP φ x' x&&dP φ k' k&&decide (0<es)&&(match P.underlying t,P.underlying t' with
    |some (.slice e),some (.int _)=>Bk P φ e z&&(match P.info? e with |some i=>i.size==es&&decide (i.bytes<=16384) |none=>false)
    |_,_=>false)
   |_,_,_=>false)
  |_=>false)
 | .qT d f x y es=>gp nt o d&&(match o.op with
  | .call c=>(match c.callee with
   | .value (.func g)=>φ f==g&&n8 φ c.args.toList [x,y]&&(match P.funcs[g]? with
    |some fn => !(fn.name == "runtime.NumGoroutine") && fn.body.isNone && Tr fn && (match fn.params.toList with
     | [t,_]=>(match P.underlying t with |some (.slice e)=>decide (0<es)&&jw P e es |_=>false)
     |_=>false)
    |none=>false)
   |_=>false)
  |_=>false)
 | .qg d x es z=>pT nt o d&&(match o.op with
  | .call c=>(match c.callee,c.args.toList,c.argTypes.toList with
   | .builtin .clear,[y],[t]=>dP φ y x&&(match P.underlying t with |some (.slice e)=>Bk P φ e z&&z.length==es&&decide (0<es) |_=>false)
   |_,_,_=>false)
  |_=>false)
 | .copy d x y es=>pT nt o d&&(match o.op with
  | .call c=>(match c.callee,c.args.toList,c.argTypes.toList with
   | .builtin .copy,[x',y'],[t,t']=>dP φ x' x&&dP φ y' y&&decide (0<es)&&(match P.underlying t,P.underlying t' with
    |some (.slice e),some (.slice _)=>jw P e es
    |_,_=>false)
   |_,_,_=>false)
  |_=>false)
 | .bin d op x y=>gp nt o d&&(match o.op with
  | .binOp op' t x' y' _=>op'==op&&dP φ x' x&&dP φ y' y&&(match P.underlying t with |some (.int _) |some .string=>true |_=>false)
  |_=>false)
 | .eqv d neg x y ks=>gp nt o d&&(match o.op with
  | .binOp op' t x' y' _=>op'==(if neg then .neq else .eql)&&dP φ x' x&&dP φ y' y&&(Dg P t ks||Tt P t ks)
  |_=>false)
 | .p9 d neg x k=>gp nt o d&&(match o.op with
  | .binOp op' t x' (.const v) _=>op'==(if neg then .neq else .eql)&&dP φ x' x&&Tq P t v k
  |_=>false)
 | .un d op x=>gp nt o d&&(match o.op with | .unOp op' _ y=>op'==op&&dP φ y x |_=>false)
 | .kE d k x=>gp nt o d&&(match o.op with
  | .convert s t y=>dP φ y x&&(match P.underlying s,P.underlying t with |some (.int _),some (.int k')=>k'==k |_,_=>false)
  |_=>false)
 | .len d x k=>gp nt o d&&(match o.op with
  | .call c=>(match c.callee,c.args.toList,c.argTypes.toList with
   | .builtin .len,[y],[t]=>dP φ y x&&(match P.underlying t,k with |some (.slice _),.sl |some .string,.s |some (.map ..),.mp=>true |_,_=>false)
   |_,_,_=>false)
  |_=>false)
 | .sl d x lo hi es | .sle d x lo hi es=>gp nt o d&&(match o.op with
  | .slice t y lo' hi' none=>dP φ y x&&Nr φ lo' lo&&Nr φ hi' hi&&(match P.underlying t with |some (.slice e)=>jw P e es |_=>false)
  |_=>false)
 | .app d x y es | .sn d x y es=>gp nt o d&&(match o.op with
  | .call c=>(match c.callee,c.args.toList,c.argTypes.toList with
   | .builtin .append,[x',y'],[t,t']=>dP φ x' x&&dP φ y' y&&decide (0<es)&&(match P.underlying t,P.underlying t' with
    |some (.slice e),some (.slice _)=>(match P.info? e with |some i=>i.size==es&&decide (i.bytes<=16384)&&(match i.zero with |some z=>z.cells.size==i.size&&z.cells.toList.all (·.oneCell') |none=>false) |none=>false)
    |_,_=>false)
   |_,_,_=>false)
  |_=>false)
 | .mB d=>gp nt o d&&(match o.op with | .makeMap _ none=>true |_=>false)
 | .fE m k v ks=>o.dst==none&&(match o.op with
  | .insert t m' k' v' | .mapUpdate t m' k' v'=>dP φ m' m&&dP φ k' k&&dP φ v' v&&(match P.underlying t with |some (.map kt _)=>wD P kt ks |_=>false)
  |_=>false)
 | .pE d m k z ok ks=>gp nt o d&&(match o.op with
  | .lookup t m' k' ok'=>dP φ m' m&&dP φ k' k&&ok'==ok&&(match P.underlying t with
   |some (.map kt et)=>wD P kt ks&&(match P.info? et with |some i=>(match i.zero with |some v=>Nq φ v z |none=>false) |none=>false)
   |_=>false)
  |_=>false)
 | .ext d x j=>gp nt o d&&(match o.op with | .extract y k=>k==j&&dP φ y x |_=>false)
 | .ij d f a b=>gp nt o d&&(match o.op with | .makeFunc (.func g) a' b'=>φ f==g&&n8 φ a'.toList a&&n8 φ b'.toList b |_=>false)
 | .call d f xs | .calls d f xs=>pT nt o d&&(match o.op with
  | .call c=>(match c.callee with | .value (.func g)=>φ f==g&&n8 φ c.args.toList xs |_=>false)
  |_=>false)
 | .nj d f xs=>gp nt o d&&(match o.op with
  | .call c=>(match c.callee with | .value (.func g)=>φ f==g&&n8 φ c.args.toList xs |_=>false)
  |_=>false)
 | .mO d f xs | .jf d f xs=>pT nt o d&&(match o.op with
  | .call c=>(match c.callee with | .value (.func g)=>φ f==g&&n8 φ c.args.toList xs |_=>false)
  |_=>false)
 | .pF d x xs=>pT nt o d&&(match o.op with
  | .call c=>(match c.callee with | .value y=>dP φ y x&&n8 φ c.args.toList xs |_=>false)
  |_=>false)
 | .pG d x xs=>pT nt o d&&(match o.op with
  | .call c=>(match c.callee with | .value y=>dP φ y x&&n8 φ c.args.toList xs |_=>false)
  |_=>false)
 | .nR d x xs=>pT nt o d&&(match o.op with
  | .call c=>(match c.callee with | .value y=>dP φ y x&&n8 φ c.args.toList xs |_=>false)
  |_=>false)
end
end Go.VS
namespace Go.VS
section
variable {P:Program}{φ:fy}
structure mH(dB:Nat)(h:List O)(g:Gh)(ds:List Deferred)(w:World):Prop where
 at_:∀d∈ds,∃D,d={target:=.collected D,args:=#[]}/\dB<=D/\w.heap[D]?=some (.deferred (some []))/\∀n,(aU h n).live=true->g.β n≠D
 nodup:ds.Nodup
 le:dB<=w.heap.size
theorem Bl{w:World}{D:Nat}{o:Obj}(h:w.heap[D]?=some o):D<w.heap.size:=by
 rcases k9 D w.heap.size with hlt |hge
 .exact hlt
 .simp[J2 hge]at h
theorem mH.nil{dB:Nat}{h:List O}{g:Gh}{w:World}(hl:dB<=w.heap.size):mH dB h g [] w:=⟨by simp,by simp,hl⟩
theorem mH.frame{dB m:Nat}{h h':List O}{g g':Gh}{ds:List Deferred}{w w':World}(hd:mH dB h g ds w)(hf:Frame m h g w h' g' w'):mH dB h' g' ds w' where
 at_ d hm:=by
  obtain⟨D,h1,h2,h3,h4⟩:=hd.at_ d hm;have hlt:=Bl h3;refine⟨D,h1,h2,by rw[(hf.keep D hlt h4).1];exact h3,λn hn he=>?_⟩
  rcases hf.mG n hn with⟨k,hk,hb⟩ |hs
  .exact h4 k hk (hb.trans he)
  .omega
 nodup:=hd.nodup
 le:=ng hd.le hf.size
theorem mH.yd{dB:Nat}{h:List O}{g:Gh}{ds:List Deferred}{w w':World}{n:Nat}{x:O}{I':Nat->Nat}(hd:mH dB h g ds w)(hl:(aU h n).live=true)(ht:jU w w' (g.β n)):
  mH dB (h.set n x) (g.eo I') ds w' where
 at_ d hm:=by
  obtain⟨D,h1,h2,h3,h4⟩:=hd.at_ d hm;refine⟨D,h1,h2,by rw[ht.same D (λe=>h4 n hl e.symm)];exact h3,λk hk=>?_⟩
  by_cases hkn:k=n
  .subst hkn;exact h4 k hl
  .rw[pS hkn]at hk;exact h4 k hk
 nodup:=hd.nodup
 le:=by rw[ht.size];exact hd.le
theorem mH.reuse{dB:Nat}{h:List O}{g:Gh}{ds:List Deferred}{w w':World}{n o:Nat}{x:O}{I':Nat->Nat}(hd:mH dB h g ds w)(hl:(aU h n).live=true)(h1:mH dB (h.set n .dead) (g.eo I') ds w'):
  mH dB (h.set n .dead++[x]) ((g.eo I').add (h.set n .dead).length (g.β n) o I') ds w' where
 at_ d hm:=by
  obtain⟨D,e1,e2,e3,e4⟩:=h1.at_ d hm;obtain⟨D',k1,_,_,k4⟩:=hd.at_ d hm;have hD:D=D':=by rw[e1]at k1;simpa using k1
  subst hD;refine⟨D,e1,e2,e3,λk hk=>?_⟩
  simp only[Gh.add];split
  .exact k4 n hl
  .rename_i hne
   have hlt:k<(h.set n .dead).length:=by
    rcases k9 (h.set n .dead).length k with h5 |h5
    .rw[uV h5]at hk;simp[O.live]at hk
    .omega
   rw[pQ hlt]at hk;exact e4 k hk
 nodup:=hd.nodup
 le:=h1.le
structure cm(φ:fy)(nt m dB:Nat)(s:St)(g:Gh)(a:Act)(w:World):Prop where
 env:∀k,aJ φ s.heap g w (cA s.env k) (a.tmps.getD k undef)
 heap:eX φ s.heap g w
 size:nt<=a.tmps.size
 defers:mH dB s.heap g a.defers w
 len:m<=s.heap.length
def eG(φ:fy)(nt m dB:Nat)(s:St)(g:Gh)(w:World)(s':St)(o:Oper)(a:Act)(K:Act->World->Prop):Prop :=
 ∀g' v' w',cm φ nt m dB s' g' (a.put o.dst v') w'->Frame m s.heap g w s'.heap g' w'->K (a.put o.dst v') w'
variable {nt m dB:Nat}{s:St}{g:Gh}{a:Act}{w:World}{K:Act->World->Prop}{Q:Exit->Act->World->Prop}{o:Oper}
theorem Fu{v':Value}{w':World}(hrun:(execOp a.eval o).run P w = .ok (.value v') w')(hk:K (a.put o.dst v') w'):o.wp P a w K Q:=by
 unfold Oper.wp;rw[hrun];exact hk
theorem YT{w':World}(hrun:(execOp a.eval o).run P w = .ok .skip w')(hk:K (a.put o.dst undef) w'):o.wp P a w K Q:=by
 unfold Oper.wp;rw[hrun];exact hk
theorem YU{I:Nat->Nat}{v:Value}{x:D}(h:Np φ v x=true):bQ φ I w x v/\v.oneCell'=true:=by
 unfold Np at h;split at h
 case h_1=>simp at h;subst h;exact⟨by simp[bQ],rfl⟩
 case h_2=>simp at h;obtain⟨rfl,rfl⟩:=h;exact⟨by simp[bQ],rfl⟩
 case h_3=>simp at h;exact⟨by simp only[bQ];exact⟨_,rfl,h⟩,rfl⟩
 case h_4=>exact⟨by simp[bQ],rfl⟩
 case h_5=>exact⟨by simp[bQ],rfl⟩
 case h_6=>exact⟨by simp[bQ],rfl⟩
 case h_7=>exact⟨by simp[bQ],rfl⟩
 case h_8=>exact⟨by simp[bQ],rfl⟩
 case h_9 =>
  rename_i f A B gg;simp at h;obtain⟨⟨h1,h2⟩,h3⟩:=h;subst h2;subst h3;exact⟨by simp only[bQ];exact⟨#[],#[],by rw[h1],by simp[cy],by simp[cy]⟩,rfl⟩
 case h_10=>simp at h
theorem Tv{I:Nat->Nat}:∀{vs:List Value}{xs:List D},De φ vs xs=true->cy φ I w xs vs/\∀v∈vs,v.oneCell'=true
 | [],[],_=>by simp[cy]
 |v::vs,x::xs,h=>by
  simp only[De,bE]at h;have h1:=YU (w:=w) (I:=I) h.1;have h2:=Tv (I:=I) h.2;exact⟨by simp only[cy];exact⟨h1.1,h2.1⟩,by simpa using⟨h1.2,h2.2⟩⟩
 | [],_::_,h=>by simp[De]at h
 |_::_,[],h=>by simp[De]at h
theorem YV{I:Nat->Nat}{v:Value}{x:D}(h:Nq φ v x=true):bQ φ I w x v:=by
 unfold Nq at h;split at h
 .have:=Tv (w:=w) (I:=I) h
  simp only[bQ];exact⟨_,rfl,this.1,this.2⟩
 .exact(YU h).1
theorem eY(hs:cm φ nt m dB s g a w){x:Operand}{y:A}(h:dP φ x y=true):aJ φ s.heap g w (s.get y) (a.eval x):=by
 unfold dP at h;split at h
 .simp at h;subst h;exact hs.env _
 .simp only[St.get,aJ];exact YV h
 .simp at h
  simp only[St.get,aJ,bQ,Act.eval];exact⟨#[],#[],by rw[h],by simp[cy],by simp[cy]⟩
 .simp at h
theorem wE(hs:cm φ nt m dB s g a w):∀{xs:List Operand}{ys:List A},n8 φ xs ys=true->bR φ s.heap g w (ys.map s.get) (xs.map a.eval)
 | [],[],_=>by simp[bR]
 |x::xs,y::ys,h=>by
  simp only[n8,bE]at h;simp only[fT,bR];exact⟨eY hs h.1,wE hs h.2⟩
 | [],_::_,h=>by simp[n8]at h
 |_::_,[],h=>by simp[n8]at h
theorem cm.wF(hs:cm φ nt m dB s g a w){d:Nat}(hd:d<nt){v:V}{v':Value}(hv:aJ φ s.heap g w v v'){ok:Bool}:
  cm φ nt m dB ⟨(d,v)::s.env,s.heap,ok⟩ g (a.put (some d) v') w where
 env k:=by
  simp only[cA,Act.put];by_cases hk:d=k
  .subst hk
   simp[pg hd hs.size,hv]
  .rw[aE hk]
   have:=hs.env k;simpa[GP hk]using this
 heap:=hs.heap
 size:=by simp only[Act.put,Array.size_setIfInBounds];exact hs.size
 defers:=hs.defers
 len:=hs.len
theorem cm.Ns(hs:cm φ nt m dB s g a w){w':World}{I':Nat->Nat}(hg:gM w w')(hI:∀b,b<w.heap.size->I' b=g.I b)
  (hnew:∀b,w'.heap.size<=b->I' b=0):cm φ nt m dB s (g.eo I') a w' where
 env k:=lI (To hs.heap hg hI) (hs.env k)
 heap:=ahl hs.heap hg hI hnew
 size:=hs.size
 defers:=hs.defers.frame (Dc m hs.heap hg hI)
 len:=hs.len
theorem Bm{d:Nat}(h:gp nt o d=true):o.dst=some d/\d<nt:=by
 simpa[gp]using h
theorem Nt{d:Nat}{ov:Option V}(h:(s.eZ d ov).ok=true):∃v,ov=some v:=by
 cases ov
 .simp[St.eZ,St.fail]at h
 .exact⟨_,rfl⟩
theorem uW(hs:cm φ nt m dB s g a w){d:Nat}(hd:gp nt o d=true){v:V}{v':Value}{ok:Bool}
  (hrun:(execOp a.eval o).run P w = .ok (.value v') w)(hv:aJ φ s.heap g w v v')
  (hK:eG φ nt m dB s g w ⟨(d,v)::s.env,s.heap,ok⟩ o a K):o.wp P a w K Q:=by
 obtain⟨h1,h2⟩:=Bm hd;refine Fu hrun (hK g v' w ?_ (Frame.refl _ _ _ _));rw[h1];exact hs.wF h2 hv
theorem mX(hs:cm φ nt m dB s g a w){d:Nat}(hd:gp nt o d=true){ov:Option V}(hok:(s.eZ d ov).ok=true)
  (hop:∀v,ov=some v->∃v',(execOp a.eval o).run P w = .ok (.value v') w/\aJ φ s.heap g w v v')
  (hK:eG φ nt m dB s g w (s.eZ d ov) o a K):o.wp P a w K Q:=by
 obtain⟨v,rfl⟩:=Nt hok;obtain⟨v',hrun,hv⟩:=hop v rfl;exact uW hs hd hrun hv hK
theorem YW(hs:cm φ nt m dB s g a w){d:Nat}(hd:gp nt o d=true){v:V}{v':Value}{w':World}{I':Nat->Nat}{ok:Bool}
  (hrun:(execOp a.eval o).run P w = .ok (.value v') w')(hg:gM w w')(hI:∀b,b<w.heap.size->I' b=g.I b)(hnew:∀b,w'.heap.size<=b->I' b=0)
  (hv:aJ φ s.heap (g.eo I') w' v v')(hK:eG φ nt m dB s g w ⟨(d,v)::s.env,s.heap,ok⟩ o a K):o.wp P a w K Q:=by
 obtain⟨h1,h2⟩:=Bm hd;refine Fu hrun (hK (g.eo I') v' w' ?_ (Dc m hs.heap hg hI));rw[h1];exact(hs.Ns hg hI hnew).wF h2 hv
theorem wI{I:Nat->Nat}{v:Value}{x:Bool}(h:bQ φ I w (.b x) v):v = .bool x:=by simpa[bQ]using h
theorem nD{I:Nat->Nat}{v:Value}{k:IntKind}{n:Int}(h:bQ φ I w (.i k n) v):v = .int k n:=by simpa[bQ]using h
theorem ahn(hs:cm φ nt m dB s g a w){rec:Rec}{d:Nat}{x:A}(hc:cN P φ nt o (.mv d x)=true)
  (hK:eG φ nt m dB s g w (aR rec (.mv d x) s) o a K):o.wp P a w K Q:=by
 simp only[cN,bE]at hc;obtain⟨hd,h⟩:=hc;split at h
 .rename_i y ho
  exact uW hs hd (v':=a.eval y) (by simp[execOp,ho]) (eY hs h) hK
 .rename_i y ho
  exact uW hs hd (v':=a.eval y) (by simp[execOp,ho]) (eY hs h) hK
 .simp at h
theorem aho(hs:cm φ nt m dB s g a w){rec:Rec}{d:Nat}{c x y:A}(hc:cN P φ nt o (.pick d c x y)=true)(hok:(aR rec (.pick d c x y) s).ok=true)
  (hK:eG φ nt m dB s g w (aR rec (.pick d c x y) s) o a K):o.wp P a w K Q:=by
 simp only[cN,bE]at hc;obtain⟨hd,h⟩:=hc;split at h
 .rename_i c' x' y' ho
  simp only[bE]at h;have rc:=eY hs h.1.1;simp only[aR]at hok hK;split at hK
  .rename_i b hb
   rw[hb]at rc;have hb':=wI (by simpa only[aJ]using rc)
   refine uW hs hd (v':=if b then a.eval x' else a.eval y') (by simp[execOp,ho,hb',asBool]) ?_ hK
   cases b
   .exact eY hs h.2
   .exact eY hs h.1.2
  .rename_i hne
   split at hok
   .rename_i b hb;exact absurd hb (hne b)
   .simp[St.fail]at hok
 .simp at h
theorem ahp{op:BinOp}{k:IntKind}{x y:Int}{v:V}{t:TypeId}(h:Cf op (.d (.i k x)) (.d (.i k y))=some v):
  ∃v',(binOp op t (.int k x) (.int k y)).run P w = .ok v' w/\∀(hh:List O)(g:Gh),aJ φ hh g w v v':=by
 cases op<;>simp[Cf,arith]at h<;>try (subst h;refine⟨_,by simp[binOp,Op.intArith,Op.intCmp];rfl,λ_ _=>by simp[aJ,bQ]⟩)
 case quo=>obtain⟨h0,rfl⟩:=h;exact⟨_,by simp[binOp,Op.intDiv,h0];rfl,λ_ _=>by simp[aJ,bQ]⟩
 case rem=>obtain⟨h0,rfl⟩:=h;exact⟨_,by simp[binOp,Op.intDiv,h0];rfl,λ_ _=>by simp[aJ,bQ]⟩
 case shl=>obtain⟨h0,rfl⟩:=h;exact⟨_,by simp[binOp,Op.shift,J3.2 h0];rfl,λ_ _=>by simp[aJ,bQ]⟩
 case shr=>obtain⟨h0,rfl⟩:=h;exact⟨_,by simp[binOp,Op.shift,J3.2 h0];rfl,λ_ _=>by simp[aJ,bQ]⟩
end
end Go.VS
namespace Go.VS
section
variable {P:Program}{φ:fy}
variable {nt m dB:Nat}{s:St}{g:Gh}{a:Act}{w:World}{K:Act->World->Prop}{Q:Exit->Act->World->Prop}{o:Oper}
theorem YX{op:BinOp}{t:TypeId}{x y:Operand}{u v:Value}(hu:u≠.nilIface)(hv:∀A,u≠.agg A):(eqGuard op t x y u v).run P w = .ok () w:=by
 cases u<;>first |exact absurd rfl hu |exact absurd rfl (hv _) |(cases op<;>rfl)
theorem ahq(hs:cm φ nt m dB s g a w){rec:Rec}{d:Nat}{op:BinOp}{x y:A}(hc:cN P φ nt o (.bin d op x y)=true)(hok:(aR rec (.bin d op x y) s).ok=true)
  (hK:eG φ nt m dB s g w (aR rec (.bin d op x y) s) o a K):o.wp P a w K Q:=by
 simp only[cN,bE]at hc;obtain⟨hd,h⟩:=hc;split at h
 .rename_i op' t x' y' ty ho
  simp only[bE,dM]at h;obtain⟨⟨⟨rfl,hx⟩,hy⟩,ht⟩:=h;have rx:=eY hs hx;have ry:=eY hs hy;refine mX hs hd hok (λv hv=>?_) hK
  have key:∀{u u':Value}{v':Value},a.eval x'=u->a.eval y'=u'->u≠.nilIface->(∀A,u≠.agg A)->(binOp op' t u u').run P w = .ok v' w->(execOp a.eval o).run P w = .ok (.value v') w:=by
   intro u u' v' h1 h2 h3 h4 h5;simp[execOp,ho,h1,h2,YX (P:=P) (w:=w) (op:=op') (t:=t) (x:=x') (y:=y') (v:=u') h3 h4,h5]
  unfold Cf at hv;split at hv
  ·
   rename_i k p k' q hp hq;rw[hp]at rx;rw[hq]at ry;have ex:=nD (by simpa only[aJ]using rx)
   have ey:=nD (by simpa only[aJ]using ry)
   by_cases hkk:k=k'
   .subst hkk
    obtain⟨v',hr,gf⟩:=ahp (P:=P) (w:=w) (φ:=φ) (op:=op') (k:=k) (x:=p) (y:=q) (v:=v) (t:=t) (by unfold Cf;exact hv)
    exact⟨v',key ex ey (by simp) (by simp) hr,gf _ _⟩
   .cases op'<;>simp[hkk]at hv
    case shl=>obtain⟨h0,rfl⟩:=hv;exact⟨_,key ex ey (by simp) (by simp) (by simp[binOp,Op.shift,J3.2 h0];rfl),by simp[aJ,bQ]⟩
    case shr=>obtain⟨h0,rfl⟩:=hv;exact⟨_,key ex ey (by simp) (by simp) (by simp[binOp,Op.shift,J3.2 h0];rfl),by simp[aJ,bQ]⟩
  ·
   rename_i p q hp hq;rw[hp]at rx;rw[hq]at ry;simp only[aJ,bQ]at rx ry;obtain⟨bx,ex,Tw⟩:=rx;obtain⟨by',ey,hby⟩:=ry
   cases op'<;>simp at hv<;>subst hv
   .exact⟨_,key ex ey (by simp) (by simp) (by simp[binOp,Op.stringOp,Tw,hby];rfl),by simp[aJ,bQ]⟩
   .exact⟨_,key ex ey (by simp) (by simp) (by simp[binOp,Op.stringOp,Tw,hby];rfl),by simp[aJ,bQ]⟩
   .exact⟨_,key ex ey (by simp) (by simp) (by simp[binOp,Op.stringOp,Tw,hby];rfl),by simp[aJ,bQ]⟩
  .simp at hv
 .simp at h
theorem ahr(hs:cm φ nt m dB s g a w){rec:Rec}{d:Nat}{op:UnOp}{x:A}(hc:cN P φ nt o (.un d op x)=true)(hok:(aR rec (.un d op x) s).ok=true)
  (hK:eG φ nt m dB s g w (aR rec (.un d op x) s) o a K):o.wp P a w K Q:=by
 simp only[cN,bE]at hc;obtain⟨hd,h⟩:=hc;split at h
 .rename_i op' t y ho
  simp only[bE,dM]at h;obtain⟨rfl,hx⟩:=h;have rx:=eY hs hx;refine mX hs hd hok (λv hv=>?_) hK
  unfold Ki at hv;split at hv
  .rename_i b hb
   rw[hb]at rx;have ex:=wI (by simpa only[aJ]using rx)
   cases op'<;>simp at hv;subst hv;exact⟨.bool (!b),by simp[execOp,ho,ex,Op.unary],by simp[aJ,bQ]⟩
  .rename_i k n hb
   rw[hb]at rx;have ex:=nD (by simpa only[aJ]using rx)
   cases op'<;>simp at hv;subst hv;exact⟨.int k (k.wrap (0 - n)),by simp[execOp,ho,ex,Op.unary,Op.intArith],by simp[aJ,bQ]⟩
  .simp at hv
 .simp at h
theorem ahs(hs:cm φ nt m dB s g a w){rec:Rec}{d:Nat}{k:IntKind}{x:A}(hc:cN P φ nt o (.kE d k x)=true)(hok:(aR rec (.kE d k x) s).ok=true)
  (hK:eG φ nt m dB s g w (aR rec (.kE d k x) s) o a K):o.wp P a w K Q:=by
 simp only[cN,bE]at hc;obtain⟨hd,h⟩:=hc;split at h
 .rename_i sc t y ho
  simp only[bE]at h;have rx:=eY hs h.1;refine mX hs hd hok (λv hv=>?_) hK
  unfold kE at hv;split at hv
  .rename_i k' n hb
   rw[hb]at rx;have ex:=nD (by simpa only[aJ]using rx)
   simp at hv;subst hv;have h2:=h.2;split at h2
   .rename_i ks kt hks nE
    simp at h2;subst h2;exact⟨.int kt (kt.wrap n),by simp[execOp,ho,ex,convert,underlying,hks,nE,Conv.intToInt],by simp[aJ,bQ]⟩
   .simp at h2
  .simp at hv
 .simp at h
theorem aht(hs:cm φ nt m dB s g a w){rec:Rec}{d j:Nat}{x:A}(hc:cN P φ nt o (.ext d x j)=true)(hok:(aR rec (.ext d x j) s).ok=true)
  (hK:eG φ nt m dB s g w (aR rec (.ext d x j) s) o a K):o.wp P a w K Q:=by
 simp only[cN,bE]at hc;obtain⟨hd,h⟩:=hc;split at h
 .rename_i y k ho
  simp only[bE,dM]at h;obtain⟨rfl,hx⟩:=h;have rx:=eY hs hx;refine mX hs hd hok (λv hv=>?_) hK
  unfold Kw at hv;split at hv
  .rename_i vs hb
   rw[hb]at rx;simp only[aJ]at rx;obtain⟨A,ex,hr⟩:=rx;obtain⟨v',h1,h2⟩:=C9 hr hv;exact⟨v',by simp only[execOp,ho,ex,Instr.extract];simp at h1;simp[h1],h2⟩
  .simp at hv
 .simp at h
theorem ahu(hs:cm φ nt m dB s g a w){rec:Rec}{d f:Nat}{x y:List A}(hc:cN P φ nt o (.ij d f x y)=true)
  (hK:eG φ nt m dB s g w (aR rec (.ij d f x y) s) o a K):o.wp P a w K Q:=by
 simp only[cN,bE]at hc;obtain⟨hd,h⟩:=hc;split at h
 .rename_i ff x' y' ho
  simp only[bE,dM]at h;obtain⟨⟨rfl,hx⟩,hy⟩:=h;have rx:=wE hs hx;have ry:=wE hs hy;have hrun:(execOp a.eval o).run P w = .ok (.value (.func (.func (φ f)) (x'.map a.eval) (y'.map a.eval))) w:=by simp[execOp,ho,Instr.makeFunc]
  simp only[aR]at hK;split at hK
  .rename_i p q hp hq
   exact uW hs hd hrun (by simp only[aJ,bQ];exact⟨_,_,rfl,by simpa using zB hp rx,by simpa using zB hq ry⟩) hK
  .exact uW hs hd hrun (by simp only[aJ];exact⟨_,_,rfl,by simpa using rx,by simpa using ry⟩) hK
 .simp at h
theorem Nu{t:TypeId}{ag:Bool}(h:wA P t ag=true):(isAgg t).run P w = .ok ag w:=by
 unfold wA at h;split at h
 .rename_i hu;subst h;simp[isAgg,underlying,hu]
 .rename_i hu;subst h;simp[isAgg,underlying,hu]
 .rename_i dd h1 h2 hu
  simp at h;subst h;cases dd<;>simp[isAgg,underlying,hu]<;>first |exact absurd rfl (h1 _) |exact absurd rfl (h2 _ _)
 .simp at h
theorem wJ{t:TypeId}{n:Nat}(h:jw P t n=true):(sizeOf t).run P w = .ok n w:=by
 unfold jw at h;cases hi:P.info? t with
 |none=>simp[hi]at h
 |some i=>simp[hi]at h;simp[sizeOf,typeInfo,hi,h]
theorem qA(b o j:Nat):(⟨b,o,none⟩:Addr).add j=⟨b,o+j,none⟩:=by unfold Addr.add;split<;>simp_all
theorem ahv{t:TypeId}{n:Nat}{ag:Bool}(lJ:wA P t ag=true)(hn:jw P t n=true){b off:Nat}{vs:List Value}
  (hc:∀(j:Nat)(v:Value),vs[j]?=some v->w.cell? ⟨b,off+j,none⟩=some v){v':Value}
  (hv:if ag then n<=vs.length/\v' = .agg (vs.take n).toArray else vs.head?=some v'):
  (Instr.loadAt t (.pointer (some ⟨b,off,none⟩))).run P w = .ok v' w:=by
 have h1:=Nu (P:=P) (w:=w) lJ;have h2:=wJ (P:=P) (w:=w) hn;cases ag
 .simp only[eR,dG]at hv
  have:=hc 0 v' (by simpa[Ws]using hv)
  simp only[GQ]at this;simp[Instr.loadAt,Instr.sureAddr,loadVar,h1,this]
 .simp only[dH]at hv
  have hl:=run_loadCells_list (P:=P) w ⟨b,off,none⟩ (vs.take n) (λj v hj=>by
   rw[qA];exact hc j v (by rw[yM]at hj;split at hj<;>simp_all))
  have hlen:(vs.take n).length=n:=by simp;omega
  rw[hlen]at hl;simp[Instr.loadAt,Instr.sureAddr,loadVar,h1,h2,hl,hv.2]
theorem Tx{I:Nat->Nat}{cs:List D}{vs:List Value}(h:cy φ I w cs vs)(n:Nat):cy φ I w (cs.take n) (vs.take n):=by
 induction cs generalizing vs n with
 |nil=>cases vs<;>simp_all[cy]
 |cons c cs ih=>cases vs<;>cases n<;>simp_all[cy]
theorem Nv{h:List O}{I:Gh}{n:Nat}{ag:Bool}{cs:List D}{vs:List Value}(hr:cy φ I.I w cs vs)(h1:∀v∈vs,v.oneCell'=true){v:V}(hp:Ch n ag cs=some v):
  ∃v',(if ag then n<=vs.length/\v' = .agg (vs.take n).toArray else vs.head?=some v')/\aJ φ h I w v v':=by
 have hlen:=sF hr;cases ag
 .simp only[Ch,eR,dG]at hp⊢
  cases cs with
  |nil=>simp at hp
  |cons c cs =>
   cases vs with
   |nil=>simp[cy]at hr
   |cons u us =>
    simp at hp;subst hp;simp only[cy]at hr;exact⟨u,rfl,by simpa only[aJ]using hr.1⟩
 .simp only[Ch,dH]at hp⊢
  split at hp
  .rename_i hn
   simp at hp;subst hp;refine⟨_,⟨by omega,rfl⟩,?_⟩
   simp only[aJ,bQ];exact⟨_,rfl,by simpa using Tx hr n,λx hx=>h1 x (nM (by simpa using hx))⟩
  .simp at hp
theorem IA{h:List O}{g:Gh}{n:Nat}{ag:Bool}{cs:List V}{vs:List Value}(hr:bR φ h g w cs vs)(h1:∀v∈vs,v.oneCell'=true){v:V}(hp:pack n ag cs=some v):
  ∃v',(if ag then n<=vs.length/\v' = .agg (vs.take n).toArray else vs.head?=some v')/\aJ φ h g w v v':=by
 have hlen:=oP hr;cases ag
 .simp only[pack,eR,dG]at hp⊢
  cases cs with
  |nil=>simp at hp
  |cons c cs =>
   cases vs with
   |nil=>simp[bR]at hr
   |cons u us =>
    simp at hp;subst hp;simp only[bR]at hr;exact⟨u,rfl,hr.1⟩
 .simp only[pack,dH]at hp⊢
  split at hp
  .rename_i hn
   simp at hp;subst hp;refine⟨_,⟨by omega,rfl⟩,?_⟩
   have ht:=YP hr n;have h1':∀x∈(vs.take n).toArray.toList,x.oneCell'=true:=λx hx=>h1 x (nM (by simpa using hx))
   unfold Ce;split
   .rename_i ds hds
    simp only[aJ,bQ];exact⟨_,rfl,by simpa using zB hds ht,h1'⟩
   .simp only[aJ]
    exact⟨_,rfl,by simpa using ht,h1'⟩
  .simp at hp
theorem YY{h:List O}{g:Gh}{b es o:Nat}{rows:List (List V)}(hr:wm φ h g w b es o rows){r:Nat}{row:List V}(hrow:rows[r]?=some row):
  ∃vs:List Value,bR φ h g w row vs/\(∀(j:Nat)(v:Value),vs[j]?=some v->w.cell? ⟨b,o+r*es+j,none⟩=some v)/\∀v∈vs,v.oneCell'=true:=by
 obtain⟨_,h2⟩:=hr r row hrow;have key:∀(cs:List V)(k:Nat),(∀(j:Nat)(c:V),cs[j]?=some c->∃x,w.cell? ⟨b,o+r*es+(k+j),none⟩=some x/\x.oneCell'=true/\aJ φ h g w c x) ->
   ∃vs:List Value,bR φ h g w cs vs/\(∀(j:Nat)(v:Value),vs[j]?=some v->w.cell? ⟨b,o+r*es+(k+j),none⟩=some v)/\∀v∈vs,v.oneCell'=true:=by
  intro cs;induction cs with
  |nil=>intro k _;exact⟨[],by simp[bR],by simp,by simp⟩
  |cons c cs ih =>
   intro k hk;obtain⟨x,hx,h1,hd⟩:=hk 0 c rfl;obtain⟨vs,hv,hc,ho⟩:=ih (k+1) (λj c hj=>by
    have:=hk (j+1) c (by simpa using hj)
    rwa [show k+(j+1)=k+1+j from by omega]at this)
   refine⟨x::vs,by simp only[bR];exact⟨hd,hv⟩,λj v hj=>?_,by simpa using⟨h1,ho⟩⟩
   cases j with
   |zero=>simp at hj;subst hj;simpa using hx
   |succ j =>
    have:=hc j v (by simpa using hj)
    rwa [show k+1+j=k+(j+1)from by omega]at this
 have:=key row 0 (λj c hj=>by simpa using h2 j c hj)
 simpa using this
theorem Bn{I:Nat->Nat}{cs:List D}{vs:List Value}(h:cy φ I w cs vs)(n:Nat):cy φ I w (cs.drop n) (vs.drop n):=by
 induction cs generalizing vs n with
 |nil=>cases vs<;>simp_all[cy]
 |cons c cs ih=>cases vs<;>cases n<;>simp_all[cy]
theorem YZ(hs:cm φ nt m dB s g a w){rec:Rec}{d n:Nat}{ag:Bool}{x:A}(hc:cN P φ nt o (.ld d x n ag)=true)(hok:(aR rec (.ld d x n ag) s).ok=true)
  (hK:eG φ nt m dB s g w (aR rec (.ld d x n ag) s) o a K):o.wp P a w K Q:=by
 simp only[cN,bE]at hc;obtain⟨hd,h⟩:=hc;split at h
 .rename_i t y ho
  simp only[bE]at h;obtain⟨⟨hx,lJ⟩,hn⟩:=h;have rx:=eY hs hx;refine mX hs hd hok (λv hv=>?_) hK
  have fin:∀{b off:Nat}{vs:List Value}{v':Value},a.eval y = .pointer (some ⟨b,off,none⟩)->(∀(j:Nat)(u:Value),vs[j]?=some u->w.cell? ⟨b,off+j,none⟩=some u) ->
    (if ag then n<=vs.length/\v' = .agg (vs.take n).toArray else vs.head?=some v')->(execOp a.eval o).run P w = .ok (.value v') w:=by
   intro b off vs v' he jr jx;have:=ahv (P:=P) (w:=w) lJ hn jr jx;simp[execOp,ho,he,this]
  unfold yR at hv;split at hv
  .rename_i cs hb
   rw[hb]at rx;simp only[aJ,bQ]at rx;obtain⟨b,off,he,hI,hcs⟩:=rx;obtain⟨vs,hvs,jr,h1⟩:=It hcs;obtain⟨v',h2,h3⟩:=Nv (h:=s.heap) hvs h1 hv;exact⟨v',fin he jr h2,h3⟩
  .rename_i cs hb
   rw[hb]at rx;simp only[aJ]at rx;obtain⟨b,off,us,he,hI,hcs,jr⟩:=rx;obtain⟨v',h2,h3⟩:=IA hcs (λv hv=>let ⟨j,hj,hh⟩:=sR hv;(jr j v (by simp[hj,hh])).2) hv
   exact⟨v',fin he (λj u hj=>(jr j u hj).1) h2,h3⟩
  .rename_i k r c hb
   rw[hb]at rx;simp only[aJ]at rx;obtain⟨hlt,_,rx⟩:=rx;have dF:=hs.heap.obj k;split at hv
   .rename_i es ex rows hk
    rw[hk]at dF rx;have he:=rx es rfl;cases hrow:rows[r]? with
    |none=>simp[hrow]at hv
    |some row =>
     simp[hrow]at hv;obtain⟨_,h2,_⟩:=dF;obtain⟨_,hcs⟩:=n7 h2 hrow;obtain⟨vs,hvs,jr,h1⟩:=It hcs;obtain⟨v',h2,h3⟩:=Nv (h:=s.heap) (Bn hvs c) (λv hv=>h1 v (mN hv)) hv
     refine⟨v',fin he (λj u hj=>?_) h2,h3⟩
     have:=jr (c+j) u (by simpa[pz]using hj)
     rwa [<-Nat.add_assoc]at this
   .rename_i es rows hk
    rw[hk]at dF rx;have he:=rx es rfl;cases hrow:rows[r]? with
    |none=>simp[hrow]at hv
    |some row =>
     simp[hrow]at hv;obtain⟨_,h2,_⟩:=dF;obtain⟨vs,hvs,jr,h1⟩:=YY h2 hrow;obtain⟨v',h2,h3⟩:=IA (Iw hvs c) (λv hv=>h1 v (mN hv)) hv
     refine⟨v',fin he (λj u hj=>?_) h2,h3⟩
     have:=jr (c+j) u (by simpa[pz]using hj)
     rwa [<-Nat.add_assoc]at this
   .simp at hv
  .simp at hv
 .simp at h
end
end Go.VS
namespace Go.VS
section
variable {P:Program}{φ:fy}
variable {nt m dB:Nat}{s:St}{g:Gh}{a:Act}{w:World}{K:Act->World->Prop}{Q:Exit->Act->World->Prop}{o:Oper}
theorem Tz{I:Nat->Nat}{t:TypeId}{k:CK}(hk:wC P t k=true){x y:D}{b:Bool}(h:Cg k x y=some b){u v:Value}(hu:bQ φ I w x u)(hv:bQ φ I w y v)(d:Nat):
  (Op.equalIn (d+1) t u v).run P w = .ok b w:=by
 unfold wC at hk;unfold Cg at h;split at h<;>simp only[gz,reduceCtorEq,Pq]at h
 .obtain⟨rfl,rfl⟩:=h
  have hu:=nD hu;have hv:=nD hv;subst hu;subst hv;split at hk<;>simp_all;exact run_equalIn_int w d t _ _ _ _ (by assumption)
 .subst h
  have hu:=wI hu;have hv:=wI hv;subst hu;subst hv;split at hk<;>simp_all;exact run_equalIn_bool w d t _ _ (by assumption)
 .subst h
  simp only[bQ]at hu hv;obtain⟨bs,rfl,hb⟩:=hu;obtain⟨cs,rfl,hc⟩:=hv;split at hk<;>simp_all;rw[run_equalIn_string w d t _ _ (by assumption),hb,hc]
theorem IB{t:TypeId}{k:CK}(hk:wC P t k=true){xs:Array Value}{off:Nat}{v:Value}(hv:xs[off]?=some v):(part t xs off).run P w = .ok v w:=by
 have lJ:wA P t false=true:=by
  unfold wC at hk;unfold wA;split at hk<;>simp_all
 have h1:=Nu (P:=P) (w:=w) lJ;simp[part,h1,hv]
theorem TC{I:Nat->Nat}(d:Nat){xs ys:Array Value}:∀{fs:List Field}{ks:List CK}{off:Nat}{p q:List D}{b:Bool},yc P off fs ks=true->jQ ks p q=some b ->
  cy φ I w p (xs.toList.drop off)->cy φ I w q (ys.toList.drop off)->(Op.eqFields (d+1) xs ys fs).run P w = .ok b w
 | [],[],_,p,q,b,_,hf,_,_=>by
  cases p<;>cases q<;>simp[jQ]at hf;subst hf;simp[Op.eqFields]
 |f::fs,k::ks,off,p,q,b,hc,hf,hp,hq=>by
  simp only[yc,bE,dM,J4]at hc;obtain⟨⟨⟨hn,rfl⟩,hk⟩,hr⟩:=hc;cases p with
  |nil=>simp[jQ]at hf
  |cons x p =>
   cases q with
   |nil=>simp[jQ]at hf
   |cons y q =>
    simp only[jQ,nO,gJ]at hf;obtain⟨b1,h1,b2,h2,rfl⟩:=hf;obtain⟨u,hu,ru⟩:=Bh hp (j:=0) rfl;obtain⟨v,hv,rv⟩:=Bh hq (j:=0) rfl;have n9:xs[f.offset]?=some u:=by simpa[pz]using hu
    have jx:ys[f.offset]?=some v:=by simpa[pz]using hv
    have iO:cy φ I w p (xs.toList.drop (f.offset+1)):=by
     have:=Bn hp 1;simpa[D8,qN]using this
    have kg:cy φ I w q (ys.toList.drop (f.offset+1)):=by
     have:=Bn hq 1;simpa[D8,qN]using this
    have ih:=TC d hr h2 iO kg;have he:=Tz (P:=P) hk h1 ru rv d;have e1:=IB (P:=P) (w:=w) hk n9;have e2:=IB (P:=P) (w:=w) hk jx;simp only[Op.eqFields,hn,B7,not_false_eq_true,dH,Sem.run_bind,e1,e2,Result.andThen_ok,he,Sem.run_ite,Sem.run_pure,ih];cases b1<;>simp
 | [],_::_,_,_,_,_,hc,_,_,_=>by simp[yc]at hc
 |_::_,[],_,_,_,_,hc,_,_,_=>by simp[yc]at hc
theorem Y0{I:Nat->Nat}(d:Nat){e:TypeId}{k:CK}(hk:wC P e k=true){xs ys:Array Value}:∀{m off:Nat}{p q:List D}{b:Bool},jQ (List.replicate m k) p q=some b ->
  cy φ I w p (xs.toList.drop off)->cy φ I w q (ys.toList.drop off)->(Op.eqItems (d+1) e 1 xs ys (List.range' off m)).run P w = .ok b w
 | 0,off,p,q,b,hf,_,_=>by
  cases p<;>cases q<;>simp[jQ]at hf;subst hf;simp[Op.eqItems]
 |m+1,off,p,q,b,hf,hp,hq=>by
  rw[Pr]at hf;cases p with
  |nil=>simp[jQ]at hf
  |cons x p =>
   cases q with
   |nil=>simp[jQ]at hf
   |cons y q =>
    simp only[jQ,nO,gJ]at hf;obtain⟨b1,h1,b2,h2,rfl⟩:=hf;obtain⟨u,hu,ru⟩:=Bh hp (j:=0) rfl;obtain⟨v,hv,rv⟩:=Bh hq (j:=0) rfl;have n9:xs[off]?=some u:=by simpa[pz]using hu
    have jx:ys[off]?=some v:=by simpa[pz]using hv
    have iO:cy φ I w p (xs.toList.drop (off+1)):=by
     have:=Bn hp 1;simpa[D8,qN]using this
    have kg:cy φ I w q (ys.toList.drop (off+1)):=by
     have:=Bn hq 1;simpa[D8,qN]using this
    have ih:=Y0 d hk h2 iO kg;have he:=Tz (P:=P) hk h1 ru rv d;have e1:=IB (P:=P) (w:=w) hk n9;have e2:=IB (P:=P) (w:=w) hk jx;simp only[List.range'_succ,Op.eqItems,Pp,Sem.run_bind,e1,e2,Result.andThen_ok,he,Sem.run_ite,Sem.run_pure,ih];cases b1<;>simp
theorem ahw{t:TypeId}{ks:List CK}(ht:(Dg P t ks||Tt P t ks)=true){p q:List D}{b:Bool}(hb:jQ ks p q=some b){A B:Array Value}{I:Nat->Nat}(ra:cy φ I w p A.toList)(rb:cy φ I w q B.toList):
  (Op.equalIn 10000 t (.agg A) (.agg B)).run P w = .ok b w/\P.eqGuardType P.depth t=false:=by
 simp only[B8]at ht;rcases ht with ht |ht
 .unfold Dg at ht
  split at ht
  .rename_i fs hfs
   simp only[bE,kZ]at ht;obtain⟨⟨oa,wK⟩,Bo⟩:=ht;have hfo:P.fieldsOf t=fs:=by simp[Program.fieldsOf,hfs]
   have hst:P.underlying t=some (.struct (P.fieldsOf t)):=by rw[hfo];exact hfs
   have hf:=TC (P:=P) (w:=w) 9998 Bo hb (by simpa using ra) (by simpa using rb)
   have he:=run_equalIn_struct (P:=P) w 9999 t A B hst oa;rw[hfo,hf]at he;exact⟨he,wK⟩
  .simp at ht
 .unfold Tt at ht
  split at ht
  .rename_i n e hu
   simp only[bE,kZ]at ht;obtain⟨wK,Bo⟩:=ht;split at Bo
   .rename_i k r
    simp only[bE,gi]at Bo;obtain⟨⟨h1,h2⟩,h3⟩:=Bo;unfold jw at h3;cases hi:P.info? e with
    |none=>simp[hi]at h3
    |some i =>
     simp[hi]at h3;have hc:P.cellsOf e=1:=by simp[Program.cellsOf,hi,h3]
     have he:=run_equalIn_array (P:=P) w 9999 A B hu hi;rw[h1]at hb;have hf:=Y0 (P:=P) (w:=w) 9998 h2 (off:=0) hb (by simpa using ra) (by simpa using rb)
     rw[hc,List.range_eq_range',hf]at he;exact⟨he,wK⟩
   .simp at Bo
  .simp at ht
theorem ahx(hs:cm φ nt m dB s g a w){rec:Rec}{d:Nat}{neg:Bool}{x y:A}{ks:List CK}(hc:cN P φ nt o (.eqv d neg x y ks)=true)(hok:(aR rec (.eqv d neg x y ks) s).ok=true)
  (hK:eG φ nt m dB s g w (aR rec (.eqv d neg x y ks) s) o a K):o.wp P a w K Q:=by
 simp only[cN,bE]at hc;obtain⟨hd,h⟩:=hc;split at h
 .rename_i op' t x' y' ty ho
  simp only[bE,dM]at h;obtain⟨⟨⟨hop,hx⟩,hy⟩,ht⟩:=h;have rx:=eY hs hx;have ry:=eY hs hy;refine mX hs hd hok (λv hv=>?_) hK
  unfold Kh at hv;split at hv
  .rename_i p q hp hq
   rw[hp]at rx;rw[hq]at ry;simp only[aJ,bQ]at rx ry;obtain⟨A,ex,ra,_⟩:=rx;obtain⟨B,ey,rb,_⟩:=ry;simp only[gJ]at hv;obtain⟨b,hb,rfl⟩:=hv;refine⟨.bool (b != neg),?_,by simp[aJ,bQ]⟩
   obtain⟨he,wK⟩:=ahw (P:=P) (w:=w) (φ:=φ) ht hb (by simpa using ra) (by simpa using rb)
   have hgd:=run_eqGuard_agg (P:=P) w op' t x' y' A B wK;cases neg
   .simp only[eR,dG]at hop
    subst hop;have:=run_eql_struct (P:=P) w t A B;rw[he]at this;simp[execOp,ho,ex,ey,hgd,this]
   .simp only[dH]at hop
    subst hop;have:=run_neq_struct (P:=P) w t A B;rw[he]at this;simp[execOp,ho,ex,ey,hgd,this]
  .simp at hv
 .simp at h
theorem ahy(d:Nat){t e:TypeId}(a:Option Addr)(l c:Nat)(h:P.underlying t=some (.slice e)):(Op.equalIn (d+1) t (.slice a l c) (.slice none 0 0)).run P w = .ok a.isNone w:=by
 cases a<;>simp[Op.equalIn,run_underlying h]
theorem ahz(d:Nat){t k e:TypeId}(a:Option Nat)(h:P.underlying t=some (.map k e)):(Op.equalIn (d+1) t (.map a) (.map none)).run P w = .ok a.isNone w:=by
 cases a<;>simp[Op.equalIn,run_underlying h]
theorem ahA(d:Nat){t e:TypeId}(a:Option Addr)(h:P.underlying t=some (.pointer e)):(Op.equalIn (d+1) t (.pointer a) (.pointer none)).run P w = .ok a.isNone w:=by
 cases a<;>simp[Op.equalIn,run_underlying h]
theorem ahB(d:Nat){t:TypeId}{ps rs:Array TypeId}{vr:Bool}(fn:Fn)(A B:Array Value)(h:P.underlying t=some (.func ps rs vr)):(Op.equalIn (d+1) t (.func fn A B) .nilFunc).run P w = .ok false w:=by
 simp[Op.equalIn,run_underlying h]
theorem ahC(d:Nat){t:TypeId}{ps rs:Array TypeId}{vr:Bool}(h:P.underlying t=some (.func ps rs vr)):(Op.equalIn (d+1) t .nilFunc .nilFunc).run P w = .ok true w:=by
 simp[Op.equalIn,run_underlying h]
theorem ahD(d:Nat){t u:TypeId}{ms:Array (String×TypeId)}(x:Value)(h:P.underlying t=some (.interface ms)):(Op.equalIn (d+1) t (.iface u x) .nilIface).run P w = .ok false w:=by
 simp[Op.equalIn,run_underlying h]
theorem ahE(d:Nat){t:TypeId}{ms:Array (String×TypeId)}(h:P.underlying t=some (.interface ms)):(Op.equalIn (d+1) t .nilIface .nilIface).run P w = .ok true w:=by
 simp[Op.equalIn,run_underlying h]
theorem Fv{h:List O}{n:Nat}(ha:vI h n=true):∃es,(aU h n).gL=some es:=by
 unfold vI at ha;split at ha<;>simp_all[O.gL]
theorem ahF{t:TypeId}{v u:Value}{k:NK}(hn:Tq P t v k=true){x:V}{h:List O}{g:Gh}(hr:aJ φ h g w x u){r:Bool}(hb:isNil h k x=some r)(xo:Operand):
  (∀op,(op = .eql\/op = .neq)->(eqGuard op t xo (.const v) u v).run P w = .ok () w)/\(binOp .eql t u v).run P w = .ok (.bool r) w/\(binOp .neq t u v).run P w = .ok (.bool (!r)) w:=by
 have guard:∀{u v:Value},u≠.nilIface->(∀A,u≠.agg A)->∀op,(op = .eql\/op = .neq)->(eqGuard op t xo (.const v) u v).run P w = .ok () w:=λh1 h2 op _=>YX h1 h2
 unfold Tq at hn;split at hn
 .rename_i e hu
  have key:∀(a:Option Addr)(l c:Nat)(r:Bool),a.isNone=r->(∀op,(op = .eql\/op = .neq)->(eqGuard op t xo (.const (.slice none 0 0)) (.slice a l c) (.slice none 0 0)).run P w = .ok () w) /\
    (binOp .eql t (.slice a l c) (.slice none 0 0)).run P w = .ok (.bool r) w/\(binOp .neq t (.slice a l c) (.slice none 0 0)).run P w = .ok (.bool (!r)) w:=by
   intro a l c r hr
   have:(Op.equal t (.slice a l c) (.slice none 0 0)).run P w = .ok r w:=hr▸ahy 9999 a l c hu
   refine⟨guard (by simp) (by simp),?_,?_⟩<;>simp only[binOp]<;>simp[this]
  cases x with
  |d y =>
   cases y<;>simp[isNil]at hb;rename_i es nl xs;subst hb;simp only[aJ,bQ]at hr;obtain⟨a,cap,rfl,hl,h1,h2⟩:=hr;cases nl
   .obtain⟨ad,rfl,_⟩:=h2 rfl
    exact key _ _ _ _ rfl
   .obtain⟨rfl,_⟩:=h1 rfl
    exact key _ _ _ _ rfl
  |aQ n off len =>
   simp[isNil]at hb;obtain⟨ha,rfl⟩:=hb;obtain⟨es,he⟩:=Fv ha;simp only[aJ]at hr;obtain⟨cap,rfl,_⟩:=hr.2.2 es he;exact key _ _ _ _ rfl
  |iT es =>
   simp[isNil]at hb;subst hb;simp only[aJ]at hr;obtain⟨ad,rfl⟩:=hr;exact key _ _ _ _ rfl
  |_=>simp[isNil]at hb
 .rename_i kt et hu
  have key:∀(a:Option Nat)(r:Bool),a.isNone=r->(∀op,(op = .eql\/op = .neq)->(eqGuard op t xo (.const (.map none)) (.map a) (.map none)).run P w = .ok () w) /\
    (binOp .eql t (.map a) (.map none)).run P w = .ok (.bool r) w/\(binOp .neq t (.map a) (.map none)).run P w = .ok (.bool (!r)) w:=by
   intro a r hr
   have:(Op.equal t (.map a) (.map none)).run P w = .ok r w:=hr▸ahz 9999 a hu
   refine⟨guard (by simp) (by simp),?_,?_⟩<;>simp only[binOp]<;>simp[this]
  cases x with
  |d y =>
   cases y<;>simp[isNil]at hb;subst hb;simp only[aJ,bQ]at hr;subst hr;exact key _ _ rfl
  |mp n =>
   simp only[isNil]at hb;split at hb<;>simp at hb;rename_i kv hk;subst hb;simp only[aJ]at hr;rw[hr.2.2 kv hk];exact key _ _ rfl
  |_=>simp[isNil]at hb
 .rename_i ps rs vr hu
  have key:∀(u:Value)(r:Bool),(u = .nilFunc/\r=true\/(∃fn A B,u = .func fn A B)/\r=false)->(∀op,(op = .eql\/op = .neq)->(eqGuard op t xo (.const .nilFunc) u .nilFunc).run P w = .ok () w) /\
    (binOp .eql t u .nilFunc).run P w = .ok (.bool r) w/\(binOp .neq t u .nilFunc).run P w = .ok (.bool (!r)) w:=by
   rintro u r (⟨rfl,rfl⟩ |⟨⟨fn,A,B,rfl⟩,rfl⟩)
   .have:(Op.equal t .nilFunc .nilFunc).run P w = .ok true w:=ahC 9999 hu
    refine⟨guard (by simp) (by simp),?_,?_⟩<;>simp only[binOp]<;>simp[this]
   .have:(Op.equal t (.func fn A B) .nilFunc).run P w = .ok false w:=ahB 9999 fn A B hu
    refine⟨guard (by simp) (by simp),?_,?_⟩<;>simp only[binOp]<;>simp[this]
  cases x with
  |d y =>
   cases y<;>simp[isNil]at hb
   .subst hb
    simp only[aJ,bQ]at hr;obtain⟨A,B,rfl,_⟩:=hr;exact key _ _ (.inr ⟨⟨_,_,_,rfl⟩,rfl⟩)
   .subst hb
    simp only[aJ,bQ]at hr;subst hr;exact key _ _ (.inl ⟨rfl,rfl⟩)
  |fn f A B =>
   simp[isNil]at hb;subst hb;simp only[aJ]at hr;obtain⟨A,B,rfl,_⟩:=hr;exact key _ _ (.inr ⟨⟨_,_,_,rfl⟩,rfl⟩)
  |_=>simp[isNil]at hb
 .rename_i e hu
  have key:∀(a:Option Addr)(r:Bool),a.isNone=r->(∀op,(op = .eql\/op = .neq)->(eqGuard op t xo (.const (.pointer none)) (.pointer a) (.pointer none)).run P w = .ok () w) /\
    (binOp .eql t (.pointer a) (.pointer none)).run P w = .ok (.bool r) w/\(binOp .neq t (.pointer a) (.pointer none)).run P w = .ok (.bool (!r)) w:=by
   intro a r hr
   have:(Op.equal t (.pointer a) (.pointer none)).run P w = .ok r w:=hr▸ahA 9999 a hu
   refine⟨guard (by simp) (by simp),?_,?_⟩<;>simp only[binOp]<;>simp[this]
  cases x with
  |d y =>
   cases y<;>simp[isNil]at hb
   .subst hb
    simp only[aJ,bQ]at hr;subst hr;exact key _ _ rfl
   .subst hb
    simp only[aJ,bQ]at hr;obtain⟨b,off,rfl,_⟩:=hr;exact key _ _ rfl
  |loc n r' c =>
   simp[isNil]at hb;obtain⟨ha,rfl⟩:=hb;obtain⟨es,he⟩:=Fv ha;simp only[aJ]at hr;rw[hr.2.2 es he];exact key _ _ rfl
  |rf cs =>
   simp[isNil]at hb;subst hb;simp only[aJ]at hr;obtain⟨b,off,us,rfl,_⟩:=hr;exact key _ _ rfl
  |_=>simp[isNil]at hb
 .rename_i ms hu
  cases x with
  |d y =>
   cases y<;>simp[isNil]at hb
   .subst hb
    simp only[aJ,bQ]at hr;obtain⟨z,rfl,_⟩:=hr
    have:∀tt zz,(Op.equal t (.iface tt zz) .nilIface).run P w = .ok false w:=λtt zz=>ahD 9999 zz hu
    refine⟨guard (by simp) (by simp),?_,?_⟩<;>simp only[binOp]<;>simp[this]
   .subst hb
    simp only[aJ,bQ]at hr;subst hr
    have:(Op.equal t .nilIface .nilIface).run P w = .ok true w:=ahE 9999 hu
    refine⟨λop hop=>?_,?_,?_⟩
    .rcases hop with rfl |rfl<;>simp[eqGuard]
    .simp only[binOp];simp[this]
    .simp only[binOp];simp[this]
  |_=>simp[isNil]at hb
 .simp at hn
theorem ahG(hs:cm φ nt m dB s g a w){rec:Rec}{d:Nat}{neg:Bool}{x:A}{k:NK}(hc:cN P φ nt o (.p9 d neg x k)=true)(hok:(aR rec (.p9 d neg x k) s).ok=true)
  (hK:eG φ nt m dB s g w (aR rec (.p9 d neg x k) s) o a K):o.wp P a w K Q:=by
 simp only[cN,bE]at hc;obtain⟨hd,h⟩:=hc;split at h
 .rename_i op' t x' v' ty ho
  simp only[bE,dM]at h;obtain⟨⟨hop,hx⟩,ht⟩:=h;have rx:=eY hs hx;refine mX hs hd hok (λv hv=>?_) hK
  simp only[gJ]at hv;obtain⟨r,hr,rfl⟩:=hv;obtain⟨h1,h2,h3⟩:=ahF (P:=P) ht rx hr x';refine⟨.bool (r != neg),?_,by simp[aJ,bQ]⟩
  have Y1:a.eval (.const v')=v':=rfl;cases neg
  .simp only[eR,dG]at hop
   subst hop;simp[execOp,ho,Y1,h1 .eql (.inl rfl),h2]
  .simp only[dH]at hop
   subst hop;simp[execOp,ho,Y1,h1 .neq (.inr rfl),h3]
 .simp at h
theorem Y2{I:Nat->Nat}{b off:Nat}{cs:List D}(h:nA φ I w b off cs)(n:Nat):nA φ I w b (off+n) (cs.drop n):=
 wj λj c hj=>by
  have:=Fo h (j:=n+j) (by simpa[pz]using hj)
  rwa [<-Nat.add_assoc]at this
theorem Y3(hs:cm φ nt m dB s g a w){rec:Rec}{d off n:Nat}{x:A}(hc:cN P φ nt o (.fa d x off n)=true)(hok:(aR rec (.fa d x off n) s).ok=true)
  (hK:eG φ nt m dB s g w (aR rec (.fa d x off n) s) o a K):o.wp P a w K Q:=by
 simp only[cN,bE]at hc;obtain⟨hd,h⟩:=hc;split at h
 .rename_i t y k ho
  simp only[bE,gi]at h;obtain⟨⟨hx,hn⟩,ht⟩:=h;have rx:=eY hs hx;refine mX hs hd hok (λv hv=>?_) hK
  split at ht
  .rename_i fs hfs
   split at ht
   .rename_i f hf
    simp only[bE,dM]at ht;obtain⟨rfl,hsz⟩:=ht;have hsz':=wJ (P:=P) (w:=w) hsz;have run:∀{b o':Nat},a.eval y = .pointer (some ⟨b,o',none⟩)->(execOp a.eval o).run P w = .ok (.value (.pointer (some ⟨b,o'+f.offset,none⟩))) w:=by
     intro b o' he;have hne:n≠0:=by omega
     simp[execOp,ho,he,Instr.fieldAt,underlying,hfs,hf,Instr.sureAddr,fieldPlace,hsz',hne,qA]
    unfold fa at hv;split at hv
    .rename_i cs hb
     rw[hb]at rx;simp only[aJ,bQ]at rx;obtain⟨b,o',he,hI,hcs⟩:=rx;split at hv
     .rename_i hle
      simp at hv;subst hv;refine⟨_,run he,?_⟩;simp only[aJ,bQ];exact⟨b,o'+f.offset,rfl,by simp;omega,Y2 hcs _⟩
     .simp at hv
    .rename_i cs hb
     rw[hb]at rx;simp only[aJ]at rx;obtain⟨b,o',us,he,hI,hcs,jr⟩:=rx;split at hv
     .rename_i hle
      simp at hv;subst hv;refine⟨_,run he,?_⟩;simp only[aJ];refine⟨b,o'+f.offset,us.drop f.offset,rfl,by simp;omega,Iw hcs _,λj u hj=>?_⟩
      rw[p8];exact jr _ u (by simpa[pz]using hj)
     .simp at hv
    .rename_i q r c hb
     rw[hb]at rx;simp only[aJ]at rx;simp at hv;obtain⟨ha,rfl⟩:=hv;obtain⟨es,jH⟩:=Fv ha;refine⟨_,run (rx.2.2 es jH),?_⟩;simp only[aJ];refine⟨rx.1,rfl,λes' he'=>?_⟩
     rw[jH]at he';simp at he';subst he';simp[p8]
    .simp at hv
   .simp at ht
  .simp at ht
 .simp at h
end
end Go.VS
namespace Go.VS
section
variable {P:Program}{φ:fy}
variable {nt m dB:Nat}{s:St}{g:Gh}{a:Act}{w:World}{K:Act->World->Prop}{Q:Exit->Act->World->Prop}{o:Oper}
theorem Y4{t e:TypeId}{es:Nat}(ht:P.underlying t=some (.slice e))(jH:jw P e es=true){b off len cap:Nat}{k:IntKind}{j:Int}(h0:0<=j)(hj:j<len):
  (Instr.indexAt t (.slice (some ⟨b,off,none⟩) len cap) (.int k j)).run P w = .ok (.pointer (some ⟨b,off+j.toNat*es,none⟩)) w:=by
 have h1:=wJ (P:=P) (w:=w) jH;simp[Instr.indexAt,asIntOf,underlying,ht,h0,hj,h1,qA]
theorem ahH{j:Int}{n es:Nat}(h:j.toNat<n):(j.toNat+1)*es<=es*n:=by
 rw[ji es n];exact lU es h
theorem ahI(hs:cm φ nt m dB s g a w){rec:Rec}{d es:Nat}{x i:A}(hc:cN P φ nt o (.jk d x i es)=true)(hok:(aR rec (.jk d x i es) s).ok=true)
  (hK:eG φ nt m dB s g w (aR rec (.jk d x i es) s) o a K):o.wp P a w K Q:=by
 simp only[cN,bE]at hc;obtain⟨hd,h⟩:=hc;split at h
 .rename_i t y k ho
  simp only[bE]at h;obtain⟨⟨hx,hi⟩,ht⟩:=h;have rx:=eY hs hx;have ri:=eY hs hi;refine mX hs hd hok (λv hv=>?_) hK
  split at ht
  .rename_i e hu
   simp only[bE,gi]at ht;obtain⟨hsz,hpos⟩:=ht;unfold jk at hv;split at hv
   .rename_i es' nl xs kk j hp hq
    rw[hp]at rx;rw[hq]at ri;have ei:=nD (by simpa only[aJ]using ri)
    simp at hv;obtain⟨⟨h0,rfl⟩,row,hrow,rfl⟩:=hv;simp only[aJ,bQ]at rx;obtain⟨ao,cap,ex,hl,hnt,hnf⟩:=rx;have hlt:j.toNat<xs.length:=by
     rcases k9 j.toNat xs.length with h1 |h1
     .exact h1
     .simp[nN h1]at hrow
    have hne:xs≠[]:=by intro hx;simp[hx]at hlt
    cases nl with
    |true =>
     obtain⟨_,hc0⟩:=hnt rfl;omega
    |false =>
     obtain⟨ad,rfl,hx⟩:=hnf rfl;obtain⟨hsp,hI,hr⟩:=hx hne;obtain⟨b,off,sp⟩:=ad;simp at hsp;subst hsp;simp only at hI hr;obtain⟨hrl,hcs⟩:=n7 hr hrow;refine⟨_,by simp only[execOp,ho,ex,ei];simp[Y4 (P:=P) (w:=w) hu hsz h0 (show j<(xs.length:Int)by omega)];rfl,?_⟩
     simp only[aJ,bQ];have:=ahH (es:=es') hlt;rw[qP]at this;exact⟨b,off+j.toNat*es',rfl,by omega,hcs⟩
   .rename_i n off len kk j hp hq
    rw[hp]at rx;rw[hq]at ri;have ei:=nD (by simpa only[aJ]using ri)
    simp only[aJ]at rx;have key:∀e',(aU s.heap n).gL=some e'->(0<=j/\j<len/\e'=es)->v = .loc n (off+j.toNat) 0->∃v',(execOp a.eval o).run P w = .ok (.value v') w/\aJ φ s.heap g w v v':=by
     rintro e' he ⟨h0,hj,rfl⟩ rfl;obtain⟨cap,ex,_⟩:=rx.2.2 e' he;refine⟨_,by simp only[execOp,ho,ex,ei];simp[Y4 (P:=P) (w:=w) hu hsz h0 hj];rfl,?_⟩
     simp only[aJ];refine⟨rx.1,rfl,λes' he'=>?_⟩
     rw[he]at he';simp at he';subst he';simp[nh,p8]
    split at hv
    .rename_i e' ex' rows hk
     simp at hv;exact key e' (by rw[hk];rfl) hv.1 hv.2.symm
    .rename_i e' rows hk
     simp at hv;exact key e' (by rw[hk];rfl) hv.1 hv.2.symm
    .simp at hv
   .simp at hv
  .simp at ht
 .simp at h
theorem ahJ{h:List O}{v r:V}(hv:qX h .sl v=some r):(∃es nl xs,v = .d (.sl es nl xs)/\r = .d (.i .i64 xs.length))\/(∃n off len,v = .aQ n off len/\vI h n=true/\r = .d (.i .i64 len))\/(∃es,v = .iT es/\r = .d (.i .i64 (0:Nat))):=by
 cases v with
 |d y=>cases y<;>simp[qX]at hv;exact .inl ⟨_,_,_,rfl,hv.symm⟩
 |aQ n off len=>simp[qX]at hv;exact .inr (.inl ⟨_,_,_,rfl,hv.1,hv.2.symm⟩)
 |iT es=>simp[qX]at hv;exact .inr (.inr ⟨_,rfl,hv.symm⟩)
 |_=>simp[qX]at hv
theorem ahK{h:List O}{v r:V}(hv:qX h .s v=some r):∃x,v = .d (.s x)/\r = .d (.i .i64 x.length):=by
 cases v with
 |d y=>cases y<;>simp[qX]at hv;exact⟨_,rfl,hv.symm⟩
 |_=>simp[qX]at hv
theorem ahL{h:List O}{v r:V}(hv:qX h .mp v=some r):(v = .d .ue/\r = .d (.i .i64 0))\/(∃n kv,v = .mp n/\aU h n = .mp kv/\r = .d (.i .i64 kv.length)):=by
 cases v with
 |d y=>cases y<;>simp[qX]at hv;exact .inl ⟨rfl,hv.symm⟩
 |mp n =>
  simp only[qX]at hv;split at hv
  .rename_i kv hk;simp at hv;exact .inr ⟨n,kv,rfl,hk,hv.symm⟩
  .simp at hv
 |_=>simp[qX]at hv
theorem ahM(hs:cm φ nt m dB s g a w){rec:Rec}{d:Nat}{x:A}{k:LK}(hc:cN P φ nt o (.len d x k)=true)(hok:(aR rec (.len d x k) s).ok=true)
  (hK:eG φ nt m dB s g w (aR rec (.len d x k) s) o a K):o.wp P a w K Q:=by
 simp only[cN,bE]at hc;obtain⟨hd,h⟩:=hc;split at h
 .rename_i c ho
  split at h
  .rename_i y t iD hargs pU
   simp only[bE]at h;obtain⟨hx,ht⟩:=h;have rx:=Iv (eY hs hx);refine mX hs hd hok (λv hv=>?_) hK
   obtain⟨Fw,args,tys⟩:=c;simp only at iD hargs pU;have rK:args=#[y]:=by rw[<-Array.toList_inj];exact hargs
   have wL:tys=#[t]:=by rw[<-Array.toList_inj];exact pU
   subst iD;subst rK;subst wL;have fin:∀{u:Value}{n:Nat},v = .d (.i .i64 n)->a.eval y=u->(Builtin.len_ #[t] o.type #[u]).run P w = .ok (.int .i64 n) w->∃v',(execOp a.eval o).run P w = .ok (.value v') w/\aJ φ s.heap g w v v':=by
    intro u n hv he hr;subst hv;exact⟨.int .i64 n,by simp[execOp,ho,resolve,invoke,builtin,he,hr],by simp[aJ,bQ]⟩
   split at ht
   .rename_i e hu
    have slice:∀(ad:Option Addr)(n c:Nat),(Builtin.len_ #[t] o.type #[.slice ad n c]).run P w = .ok (.int .i64 n) w:=λad n c=>by
     simp[Builtin.len_,underlying,hu,goInt]
    rcases ahJ hv with⟨es,nl,xs,hp,rfl⟩ |⟨n,off,len,hp,ha,rfl⟩ |⟨es,hp,rfl⟩
    .rw[hp]at rx
     simp only[aJ,bQ]at rx;obtain⟨ad,cap,ex,_⟩:=rx;exact fin rfl ex (slice _ _ _)
    .rw[hp]at rx
     simp only[aJ]at rx;obtain⟨es,he⟩:=Fv ha;obtain⟨cap,ex,_⟩:=rx.2.2 es he;exact fin rfl ex (slice _ _ _)
    .rw[hp]at rx
     simp only[aJ]at rx;obtain⟨ad,ex⟩:=rx;exact fin rfl ex (slice _ _ _)
   .rename_i hu
    obtain⟨z,hp,rfl⟩:=ahK hv;rw[hp]at rx;simp only[aJ,bQ]at rx;obtain⟨bs,ex,hb⟩:=rx;have hlen:bs.size=z.length:=by rw[<-hb,ByteArray.toList_eq];simp
    exact fin rfl ex (by simp[Builtin.len_,underlying,hu,goInt,hlen])
   .rename_i kt et hu
    rcases ahL hv with⟨hp,rfl⟩ |⟨n,kv,hp,hk,rfl⟩
    .rw[hp]at rx
     simp only[aJ,bQ]at rx;exact fin (n:=0) rfl rx (by simp[Builtin.len_,underlying,hu,goInt])
    .rw[hp]at rx
     simp only[aJ]at rx;have ex:=rx.2.2 kv hk;have dF:=hs.heap.obj n;rw[hk]at dF;obtain⟨ES,kM,hb,hkv,_⟩:=dF;have hl:ES.size=kv.length:=by have:=hkv.1;simp at this;omega
     exact fin rfl ex (by simp[Builtin.len_,underlying,hu,goInt,getObj,Sem.run,hb,hl])
   .simp at ht
  .simp at h
 .simp at h
end
end Go.VS
namespace Go.VS
section
variable {P:Program}{φ:fy}
variable {nt m dB:Nat}{s:St}{g:Gh}{a:Act}{w:World}{K:Act->World->Prop}{Q:Exit->Act->World->Prop}{o:Oper}
theorem Fx{α:Type}{es:Nat}:∀{rows:List (List α)},(∀r∈rows,r.length=es)->∀{r:Nat}{row:List α}{j:Nat}{c:α},rows[r]?=some row->row[j]?=some c->rows.flatten[r*es+j]?=some c
 | [],_,r,row,j,c,h,_=>by simp at h
 |x::xs,hl,r,row,j,c,h,hj=>by
  have hx:x.length=es:=hl x (by simp)
  cases r with
  |zero =>
   simp at h;subst h;have hlt:j<x.length:=by
    rcases k9 j x.length with h1 |h1
    .exact h1
    .simp[nN h1]at hj
   simp[sP hlt,hj]
  |succ r =>
   have ih:=Fx (rows:=xs) (λr hr=>hl r (by simp[hr])) (r:=r) (by simpa using h) hj
   rw[yN,At (by rw[hx,qP];omega)]
   rw[<-ih];congr 1;rw[hx,qP];omega
theorem yf{α:Type}{es:Nat}:∀{rows:List (List α)},(∀r∈rows,r.length=es)->rows.flatten.length=es*rows.length
 | [],_=>rfl
 |x::xs,hl=>by
  rw[yN,lT,yf (λr hr=>hl r (by simp[hr])),hl x (by simp),gX,Pt]
  omega
theorem Fy:∀{rows:List (List V)}{ds:List (List D)},fO rows=some ds->rows=ds.map λr=>r.map V.d
 | [],ds,h=>by simp[fO]at h;subst h;rfl
 |r::rs,ds,h=>by
  simp only[fO,nO,gJ]at h;obtain⟨x,hx,y,hy,rfl⟩:=h;simp[Fy hy,Fp hx]
theorem TD{h h':List O}{g':Gh}{w':World}{b es:Nat}{T:TypeId}{rows:List (List V)}{C:Array Value}(hb:w'.heap[b]?=some (.cells C T (0,0)))
  (hl:∀r∈rows,r.length=es)(hr:bR φ h g w rows.flatten C.toList)(h1:∀v∈C.toList,v.oneCell'=true)(hle:gU h g w h' g' w')(hI:g'.I b=0):
  gC φ h' g' w' b 0 (eK es rows):=by
 have hcell:∀(i:Nat)(v:Value),C.toList[i]?=some v->w'.cell? ⟨b,i,none⟩=some v:=λi v hi=>by
  simp only[World.cell?,hb];simpa using hi
 have hlen:=oP hr;have hsz:0+es*rows.length<=C.size:=by
  rw[yf hl]at hlen;simp at hlen;omega
 unfold eK;split
 .rename_i ds hds
  have he:=Fy hds;refine⟨⟨C,T,hb,by rw[he]at hsz;simpa using hsz⟩,uT λr row hrow=>?_,by simp[hI]⟩
  have oS:rows[r]?=some (row.map V.d):=by rw[he];simp[hrow]
  have hrl:row.length=es:=by
   have:=hl _ (kY oS);simpa using this
  refine⟨hrl,wj λj c hj=>?_⟩
  have hf:=Fx hl oS (j:=j) (c:=.d c) (by simp[hj])
  obtain⟨v,hv,hd⟩:=C9 hr hf;exact⟨v,by rw[nP];exact hcell _ v hv,h1 v (kY hv),x8 hle.ext (by simpa only[aJ]using hd)⟩
 .refine⟨⟨C,T,hb,hsz⟩,λr row hrow=>?_,by rw[hI];exact gj _⟩
  refine⟨hl _ (kY hrow),λj c hj=>?_⟩
  have hf:=Fx hl hrow hj;obtain⟨v,hv,hd⟩:=C9 hr hf;exact⟨v,by rw[nP];exact hcell _ v hv,h1 v (kY hv),lI hle hd⟩
theorem zF(w:World)(ob:Obj):(w.alloc ob).heap[w.heap.size]?=some ob:=heap_alloc_new w ob
theorem IC(hs:cm φ nt m dB s g a w){d:Nat}(hd:gp nt o d=true){v:V}{v':Value}{w':World}{x:O}{b off:Nat}{ok:Bool}{I':Nat->Nat}
  (hrun:(execOp a.eval o).run P w = .ok (.value v') w')(hg:gM w w')(hI:∀b,b<w.heap.size->I' b=g.I b)(hnew:∀b,w'.heap.size<=b->I' b=0)(hb:w.heap.size<=b)
  (hx:gC φ (s.heap++[x]) (g.add s.heap.length b off I') w' b off x)(hv:aJ φ (s.heap++[x]) (g.add s.heap.length b off I') w' v v')
  (hK:eG φ nt m dB s g w ⟨(d,v)::s.env,s.heap++[x],ok⟩ o a K):o.wp P a w K Q:=by
 obtain⟨h1,h2⟩:=Bm hd;refine Fu hrun (hK (g.add s.heap.length b off I') v' w' ?_ (Tp x hs.heap hg hI hb hs.len));rw[h1];have hs':cm φ nt m dB ⟨s.env,s.heap++[x],ok⟩ (g.add s.heap.length b off I') a w':=⟨λk=>lI (zE x hs.heap hg hI) (hs.env k),YR hs.heap hg hI hnew hb hx,hs.size,hs.defers.frame (Tp x hs.heap hg hI hb hs.len),by simp;have:=hs.len;omega⟩
 exact hs'.wF h2 hv
theorem Bp{d:Nat}{ov:Option (V×List O)}(h:(s.gk d ov).ok=true):∃v hh,ov=some (v,hh):=by
 cases ov with
 |none=>simp[St.gk,St.fail]at h
 |some p=>exact⟨p.1,p.2,rfl⟩
theorem Fz{I:Nat->Nat}{n k b:Nat}(h:b<n):iQ I n k b=I b:=by simp[iQ,Nat.ne_of_lt h]
theorem ahN{ds:List D}{C:Array Value}{T:TypeId}(hr:eX φ s.heap g w)(hd:cy φ g.I w ds C.toList)(h1:∀v∈C.toList,v.oneCell'=true):
  bQ φ (iQ g.I w.heap.size C.size) (w.alloc (.cells C T)) (.ref ds) (.pointer (some ⟨w.heap.size,0,none⟩)):=by
 simp only[bQ];have hlen:=sF hd;simp at hlen;refine⟨w.heap.size,0,rfl,by simp[iQ];omega,No (vs:=C.toList) (zx (Db (gM.alloc w _) (λb hb=>Fz hb) hr.new) hd) (λj v hj=>?_) h1⟩
 simp only[World.cell?,zF];simpa using hj
theorem TE{w:World}{ob:Obj}{I:Nat->Nat}(h:∀b,w.heap.size<=b->I b=0)(k:Nat):∀b,(w.alloc ob).heap.size<=b->iQ I w.heap.size k b=0:=by
 intro b hb;simp at hb
 have:b≠w.heap.size:=by omega
 simp[iQ,this];exact h b (by omega)
theorem ahO(hs:cm φ nt m dB s g a w){rec:Rec}{d n:Nat}{x:A}{fz:Bool}(hc:cN P φ nt o (.box d x n fz)=true)(hok:(aR rec (.box d x n fz) s).ok=true)
  (hK:eG φ nt m dB s g w (aR rec (.box d x n fz) s) o a K):o.wp P a w K Q:=by
 simp only[cN,bE]at hc;obtain⟨hd,h⟩:=hc;split at h
 .rename_i t y ho
  have rx:=eY hs h;have hrun:(execOp a.eval o).run P w = .ok (.value (.pointer (some ⟨w.heap.size,0,none⟩))) (w.alloc (.cells (a.eval y).cells t)):=by
   simp[execOp,ho,Instr.box,newVar,newRow]
  by_cases hk:(s.get x).cells.length=n/\(s.get x).known=true
  .obtain⟨rc,h1⟩:=Fq rx hk.2
   simp only[aR,aK hk]at hok hK;cases fz with
   |true =>
    simp only[dH]at hok hK;refine YW hs hd (I':=iQ g.I w.heap.size (a.eval y).cells.size) hrun (gM.alloc w _) (λb hb=>Fz hb) (TE hs.heap.new _) ?_ hK
    unfold mkRef;split
    .rename_i ds hds
     simp only[aJ,Gh.eo];exact ahN hs.heap (zB hds rc) h1
    .simp only[aJ]
     have hl:=oP rc;refine⟨_,0,(a.eval y).cells.toList,rfl,by simp[Gh.eo,iQ];simp at hl;omega,ya (To hs.heap (gM.alloc w _) (λb hb=>Fz hb)) rc,λj u hj=>⟨?_,h1 u (kY hj)⟩⟩
     simp only[World.cell?,zF,nP];simpa using hj
   |false =>
    simp only[eR,dG,St.gk]at hok hK;have hg:=gM.alloc w (.cells (a.eval y).cells t);refine IC hs hd (b:=w.heap.size) (off:=0) (I':=g.I) hrun hg (λ_ _=>rfl) (λb hb=>hs.heap.new b (by simp at hb;omega)) (gj _) ?_ ?_ hK
    .exact TD (h:=s.heap) (zF w _) (by simp[hk.1]) (by simpa using rc) h1 (zE _ hs.heap hg (λ_ _=>rfl)) (hs.heap.new _ (gj _))
    .simp only[aJ]
     refine⟨by simp,rfl,λes he=>?_⟩
     simp[Gh.add]
  .simp only[aR,aE hk]at hok
   simp[St.fail]at hok
 .simp at h
theorem Dh{t:TypeId}{z:List D}(h:Bk P φ t z=true):∃i v,P.info? t=some i/\i.zero=some v/\cy φ g.I w z v.cells.toList/\(∀x∈v.cells.toList,x.oneCell'=true)/\i.size=z.length:=by
 unfold Bk at h;split at h
 .rename_i i hi
  split at h
  .rename_i v hv
   simp only[bE,dM]at h;have:=Tv (w:=w) (I:=g.I) h.1;exact⟨i,v,hi,hv,this.1,this.2,h.2⟩
  .simp at h
 .simp at h
theorem ahP(hs:cm φ nt m dB s g a w){rec:Rec}{d:Nat}{z:List D}(hc:cN P φ nt o (.new d z)=true)
  (hK:eG φ nt m dB s g w (aR rec (.new d z) s) o a K):o.wp P a w K Q:=by
 simp only[cN,bE]at hc;obtain⟨hd,h⟩:=hc;split at h
 .rename_i t ho
  obtain⟨i,v,hi,hv,hz,h1,_⟩:=Dh (g:=g) (w:=w) h;have hrun:(execOp a.eval o).run P w = .ok (.value (.pointer (some ⟨w.heap.size,0,none⟩))) (w.alloc (.cells v.cells t)):=by
   simp[execOp,ho,Instr.alloc,zeroValue,typeInfo,hi,hv,newVar,newRow]
  simp only[aR,St.gk]at hK;have hg:=gM.alloc w (.cells v.cells t);refine IC hs hd (b:=w.heap.size) (off:=0) (I':=g.I) hrun hg (λ_ _=>rfl) (λb hb=>hs.heap.new b (by simp at hb;omega)) (gj _) ?_ ?_ hK
  .have hm:eK z.length [z.map V.d] = .aG z.length true [z]:=by simp[eK,fO,ahg]
   rw[<-hm];exact TD (h:=s.heap) (zF w _) (by simp) (by simpa using zA (h:=s.heap) hz) h1 (zE _ hs.heap hg (λ_ _=>rfl)) (hs.heap.new _ (gj _))
  .simp only[aJ]
   refine⟨by simp,rfl,λes he=>?_⟩
   simp[Gh.add]
 .simp at h
theorem Y5(off:Nat):∀(l:List Value)(k:Nat)(C:Array Value),off+k+l.length<=C.size ->
  ((l.zipIdx k).foldl (λcs p=>cs.setIfInBounds (off+p.2) p.1) C).toList=C.toList.take (off+k)++l++C.toList.drop (off+k+l.length)
 | [],k,C,_=>by simp
 |v::l,k,C,h=>by
  simp only[gX]at h;rw[List.zipIdx_cons,J5,Y5 off l (k+1) _ (by simp;omega)]
  have e:=list_seg_step C.toList (off+k) v l (by simp;omega)
  simpa[Array.toList_setIfInBounds,p8]using e
theorem Y6(off:Nat)(v:Value)(C:Array Value)(h:off+v.cells.size<=C.size):
  (v.cells.zipIdx.foldl (λcs p=>cs.setIfInBounds (off+p.2) p.1) C).toList=aq C.toList off v.cells.toList:=by
 have:=Y5 off v.cells.toList 0 C (by simpa using h)
 rw[<-Array.foldl_toList,Array.toList_zipIdx];simpa[aq]using this
theorem Y7{h:List O}{cs:List V}{vs:List Value}(hr:bR φ h g w cs vs){o:Nat}{xs:List V}{us:List Value}(hx:bR φ h g w xs us):bR φ h g w (aq cs o xs) (aq vs o us):=by
 unfold aq;rw[oP hx];exact rJ (rJ (YP hr o) hx) (Iw hr _)
theorem Y8{vs us:List Value}{o:Nat}(h1:∀v∈vs,v.oneCell'=true)(h2:∀v∈us,v.oneCell'=true):∀v∈aq vs o us,v.oneCell'=true:=by
 intro v hv;simp only[aq,dc]at hv;rcases hv with(hv |hv) |hv
 .exact h1 v (nM hv)
 .exact h2 v hv
 .exact h1 v (mN hv)
theorem TF(hs:cm φ nt m dB s g a w){fs:Array Field}{place:Nat->Option (Nat×Nat)}(eH:∀i f n,fs[i]?=some f->jw P f.type n=true->place i=some (f.offset,n)):
  ∀{ps:List (Nat×Operand)}{qs:List (Nat×Nat×A)},Df P φ fs ps qs=true->∀{cs cs':List V}{C:Array Value},fill cs (qs.map λp=>(p.1,p.2.1,s.get p.2.2))=some cs' ->
   bR φ s.heap g w cs C.toList->(∀v∈C.toList,v.oneCell'=true) ->
   ∃C',Instr.fill place C (ps.map λp=>(p.1,a.eval p.2))=some C'/\bR φ s.heap g w cs' C'.toList/\∀v∈C'.toList,v.oneCell'=true
 | [],[],_,cs,cs',C,hf,hr,h1=>by
  simp[fill]at hf;subst hf;exact⟨C,rfl,hr,h1⟩
 |(i,x)::ps,(oo,n,y)::qs,hc,cs,cs',C,hf,hr,h1=>by
  simp only[Df,bE]at hc;obtain⟨⟨hfl,hx⟩,rF⟩:=hc;split at hfl
  .rename_i f Bq
   simp only[bE,dM]at hfl;obtain⟨rfl,hsz⟩:=hfl;simp only[fT,fill]at hf;split at hf
   .rename_i dX
    obtain⟨hl,hle,hkn⟩:=dX;obtain⟨rc,r1⟩:=Fq (eY hs hx) hkn;have hlen:=oP rc;have sC:=oP hr;simp at hlen sC;have hfit:f.offset+(a.eval x).cells.size<=C.size:=by omega
    have nF:=Y6 f.offset (a.eval x) C hfit;obtain⟨C',rL,hr',h1'⟩:=TF hs eH rF (C:=((a.eval x).cells.zipIdx.foldl (λcs p=>cs.setIfInBounds (f.offset+p.2) p.1) C)) hf
     (by rw[nF];exact Y7 hr rc) (by rw[nF];exact Y8 h1 r1)
    refine⟨C',?_,hr',h1'⟩;simp only[fT,Instr.fill,eH i f n Bq hsz];have hno:¬((a.eval x).cells.size≠n||f.offset+(a.eval x).cells.size > C.size)=true:=by simp;omega
    rw[aE hno];exact rL
   .simp at hf
  .simp at hfl
 | [],_::_,hc,_,_,_,_,_,_=>by simp[Df]at hc
 |_::_,[],hc,_,_,_,_,_,_=>by simp[Df]at hc
end
end Go.VS
namespace Go.VS
section
variable {P:Program}{φ:fy}
variable {nt m dB:Nat}{s:St}{g:Gh}{a:Act}{w:World}{K:Act->World->Prop}{Q:Exit->Act->World->Prop}{o:Oper}
theorem Y9{α β:Type}(f:α->Sem β)(g:α->β):∀(l:List α),(∀x∈l,(f x).run P w = .ok (g x) w)->(l.mapM f).run P w = .ok (l.map g) w
 | [],_=>by simp
 |x::l,h=>by
  have h1:=h x (by simp)
  have h2:=Y9 f g l λy hy=>h y (by simp[hy])
  simp[List.mapM_cons,h1,h2]
theorem ahQ{α β:Type}(f:α->Sem β)(g:α->β)(l:Array α)(h:∀x∈l,(f x).run P w = .ok (g x) w):(l.mapM f).run P w = .ok (l.map g) w:=by
 have h1:=Y9 (P:=P) (w:=w) f g l.toList (λx hx=>h x (by simpa using hx))
 rw[Array.mapM_eq_mapM_toList];simp only[Sem.run_map,h1,Result.andThen_ok];congr 1;rw[<-Array.toList_map]
theorem ahR(hs:cm φ nt m dB s g a w){rec:Rec}{d:Nat}{z:List D}{ps:List (Nat×Nat×A)}(hc:cN P φ nt o (.build d z ps)=true)(hok:(aR rec (.build d z ps) s).ok=true)
  (hK:eG φ nt m dB s g w (aR rec (.build d z ps) s) o a K):o.wp P a w K Q:=by
 simp only[cN,bE]at hc;obtain⟨hd,h⟩:=hc;split at h
 .rename_i t qs ho
  simp only[bE]at h;obtain⟨hz,h⟩:=h;split at h
  .rename_i fs hfs
   simp only[bE]at h;obtain⟨hps,ID⟩:=h;obtain⟨i,v,hi,hv,rM,h1,_⟩:=Dh (g:=g) (w:=w) hz;refine mX hs hd hok (λr hr=>?_) hK
   simp only[gJ]at hr;obtain⟨cs,hcs,rfl⟩:=hr;have eH:∀(i:Nat)(f:Field)(n:Nat),fs[i]?=some f->jw P f.type n=true->(fs.map λf=>(f.offset,((P.info? f.type).map (·.size)).getD 0))[i]?=some (f.offset,n):=by
    intro i f n hf hn;unfold jw at hn;cases hq:P.info? f.type with
    |none=>simp[hq]at hn
    |some inf=>simp[hq]at hn;simp[hf,hq,hn]
   obtain⟨C',hC,gf,hone⟩:=TF hs eH hps hcs (C:=v.cells) (zA rM) h1;have hm:(fs.mapM λf=>(do pure (f.offset,<-sizeOf f.type):Sem (Nat×Nat))).run P w = .ok (fs.map λf=>(f.offset,((P.info? f.type).map (·.size)).getD 0)) w :=
    ahQ _ _ fs λf hf=>by
     have:=Array.all_eq_true.1 ID;obtain⟨k,hk,rfl⟩:=Array.mem_iff_getElem.1 hf;have hs:=this k hk;cases hq:P.info? fs[k].type with
     |none=>simp[hq]at hs
     |some inf=>simp[sizeOf,typeInfo,hq]
   refine⟨.agg C',?_,?_⟩
   .simp only[execOp,ho,Instr.build]
    simp only[Sem.run_bind,zeroValue,typeInfo,run_program,Result.andThen_ok,hi,hv,Sem.run_pure,run_underlying hfs,hm,hC,D9]
   .unfold Ce
    split
    .rename_i ds hds
     simp only[aJ,bQ];exact⟨_,rfl,zB hds gf,hone⟩
    .simp only[aJ]
     exact⟨_,rfl,gf,hone⟩
  .rename_i len e hfs
   split at h
   .rename_i ie Nw
    obtain⟨i,v,hi,hv,rM,h1,_⟩:=Dh (g:=g) (w:=w) hz;refine mX hs hd hok (λr hr=>?_) hK
    simp only[gJ]at hr;obtain⟨cs,hcs,rfl⟩:=hr;have eH:∀(i:Nat)(f:Field)(n:Nat),(Ts len ie.size e)[i]?=some f->jw P f.type n=true->(λi=>some (i*ie.size,ie.size)) i=some (f.offset,n):=by
     intro i f n hf hn;unfold Ts at hf;simp only[B9,vB,gJ]at hf;obtain⟨j,hj,rfl⟩:=hf;have hj':j=i:=by
      obtain⟨h1,h2⟩:=rW.1 hj;rw[Wt]at h2;exact h2.symm
     subst hj';unfold jw at hn;simp[Nw]at hn;simp[hn]
    obtain⟨C',hC,gf,hone⟩:=TF hs eH h hcs (C:=v.cells) (zA rM) h1;refine⟨.agg C',?_,?_⟩
    .simp only[execOp,ho,Instr.build]
     have hse:(sizeOf e).run P w = .ok ie.size w:=by simp[sizeOf,typeInfo,Nw]
     simp only[Sem.run_bind,zeroValue,typeInfo,run_program,Result.andThen_ok,hi,hv,Sem.run_pure,run_underlying hfs,hse,hC,D9]
    .unfold Ce
     split
     .rename_i ds hds
      simp only[aJ,bQ];exact⟨_,rfl,zB hds gf,hone⟩
     .simp only[aJ]
      exact⟨_,rfl,gf,hone⟩
   .simp at h
  .simp at h
 .simp at h
theorem IE(n es:Nat)(Z:Array Value)(hz:Z.size=es)(hp:0<es):((Array.range (n*es)).map (λi=>Z[i % Z.size]!)).toList=(List.replicate n Z.toList).flatten:=by
 apply List.ext_getElem?;intro i;have hfl:(List.replicate n Z.toList).flatten.length=es*n:=by
  rw[yf (es:=es)]
  .simp
  .intro r hr;simp at hr;rw[hr.2];simpa using hz
 by_cases hi:i<n*es
 .have hdiv:i / es<n:=Nat.div_lt_of_lt_mul (by rwa [ji])
  have hmod:i % es<es:=Nat.mod_lt _ hp;have hlt:i % es<Z.size:=by omega
  have hr:=Fx (rows:=List.replicate n Z.toList) (es:=es) (by intro r hr;simp at hr;rw[hr.2];simpa using hz) (r:=i / es) (row:=Z.toList) (j:=i % es) (c:=Z[i % es]) (by simp[hdiv]) (by simp[hlt])
  rw[Nat.div_add_mod' i es]at hr;rw[hr];have hb:Z[i % es]! = Z[i % es]:=getElem!_pos Z (i % es) hlt;simp[hi,hz,hb]
 .rw[nN (by simp;omega),nN (by rw[hfl,ji];omega)]
theorem Za{α:Type}{es:Nat}:∀{rows:List (List α)}{i:Nat}{r:List α},(∀x∈rows,x.length=es)->i<rows.length->r.length=es->(rows.set i r).flatten=aq rows.flatten (i*es) r
 | [],i,r,_,hi,_=>by simp at hi
 |x::xs,0,r,hl,_,hr=>by
  have hx:x.length=es:=hl x (by simp)
  simp only[List.set_cons_zero,yN,aq,Nat.zero_mul,List.take_zero,mu,nP];rw[hr,<-hx,List.drop_left]
 |x::xs,i+1,r,hl,hi,hr=>by
  have hx:x.length=es:=hl x (by simp)
  have ih:=Za (rows:=xs) (i:=i) (r:=r) (λy hy=>hl y (by simp[hy])) (by simpa using hi) hr
  simp only[List.set_cons_succ,yN,ih,aq];rw[qP];have e1:(x++xs.flatten).take (i*es+es)=x++xs.flatten.take (i*es):=by
   rw[GR,gE (by omega)];congr 2;omega
  have e2:(x++xs.flatten).drop (i*es+es+r.length)=xs.flatten.drop (i*es+r.length):=by
   rw[Pu,List.drop_of_length_le (by omega),mu];congr 1;omega
  rw[e1,e2];simp[sS]
theorem Zb(hs:cm φ nt m dB s g a w){es n:Nat}:
  ∀{ps:List (Nat×Operand)}{qs:List (Nat×A)},Ft φ ps qs=true->∀{rows iE:List (List V)}{C:Array Value},xF rows es (qs.map λp=>(p.1,s.get p.2))=some iE ->
   (∀r∈rows,r.length=es)->rows.length=n->bR φ s.heap g w rows.flatten C.toList->(∀v∈C.toList,v.oneCell'=true) ->
   ∃C',Instr.fill (λi=>some (i*es,es)) C (ps.map λp=>(p.1,a.eval p.2))=some C'/\bR φ s.heap g w iE.flatten C'.toList/\(∀v∈C'.toList,v.oneCell'=true)/\(∀r∈iE,r.length=es)/\iE.length=n
 | [],[],_,rows,iE,C,hf,hl,hn,hr,h1=>by
  simp[xF]at hf;subst hf;exact⟨C,rfl,hr,h1,hl,hn⟩
 |(i,x)::ps,(j,y)::qs,hc,rows,iE,C,hf,hl,hn,hr,h1=>by
  simp only[Ft,bE,dM]at hc;obtain⟨⟨rfl,hx⟩,rF⟩:=hc;simp only[fT,xF]at hf;split at hf
  .rename_i dX
   obtain⟨hlen,hi,hkn⟩:=dX;obtain⟨rc,r1⟩:=Fq (eY hs hx) hkn;have pN:=oP rc;have kN:=oP hr;rw[yf hl]at kN;simp at pN kN;have hfit:i*es+(a.eval x).cells.size<=C.size:=by
    have:(i+1)*es<=es*rows.length:=by rw[ji es];exact lU es hi
    rw[qP]at this;omega
   have nF:=Y6 (i*es) (a.eval x) C hfit;obtain⟨C',rL,h2,h3,h4,h5⟩:=Zb hs rF (n:=n) (C:=((a.eval x).cells.zipIdx.foldl (λcs p=>cs.setIfInBounds (i*es+p.2) p.1) C)) hf
    (λr hr'=>by
     rcases J1 hr' with h |h
     .exact hl r h
     .rw[h];exact hlen) (by simpa using hn)
    (by rw[nF,Za hl hi hlen];exact Y7 hr rc) (by rw[nF];exact Y8 h1 r1)
   refine⟨C',?_,h2,h3,h4,h5⟩;simp only[fT,Instr.fill];have hno:¬((a.eval x).cells.size≠es||i*es+(a.eval x).cells.size > C.size)=true:=by simp;omega
   rw[aE hno];exact rL
  .simp at hf
 | [],_::_,hc,_,_,_,_,_,_,_,_=>by simp[Ft]at hc
 |_::_,[],hc,_,_,_,_,_,_,_,_=>by simp[Ft]at hc
theorem ahS(hs:cm φ nt m dB s g a w){rec:Rec}{d es n:Nat}{z:List D}{ps:List (Nat×A)}{fz:Bool}(hc:cN P φ nt o (.lq d es n z ps fz)=true)(hok:(aR rec (.lq d es n z ps fz) s).ok=true)
  (hK:eG φ nt m dB s g w (aR rec (.lq d es n z ps fz) s) o a K):o.wp P a w K Q:=by
 simp only[cN,bE]at hc;obtain⟨hd,h⟩:=hc;split at h
 .rename_i t k qs ho
  simp only[bE,gi,dM]at h;obtain⟨⟨⟨rfl,hsmall⟩,hpos⟩,h⟩:=h;split at h
  .rename_i e hu
   simp only[bE,dM]at h;obtain⟨⟨hz,hzl⟩,hps⟩:=h;obtain⟨i,v,hi,hv,rM,h1,hsz⟩:=Dh (g:=g) (w:=w) hz;have hzs:v.cells.size=es:=by have:=sF rM;simp at this;omega
   have rN:∃rows,xF (List.replicate k (z.map V.d)) es (ps.map λp=>(p.1,s.get p.2))=some rows:=by
    cases hq:xF (List.replicate k (z.map V.d)) es (ps.map λp=>(p.1,s.get p.2))with
    |some rows=>exact⟨rows,rfl⟩
    |none=>simp only[aR,hq]at hok;cases fz<;>simp[St.eZ,St.gk,St.fail]at hok
   obtain⟨rows,rN⟩:=rN;have hstart:bR φ s.heap g w (List.replicate k (z.map V.d)).flatten ((Array.range (k*es)).map (λi=>v.cells[i % v.cells.size]!)).toList:=by
    rw[IE k es v.cells hzs hpos];clear hsmall hps rN hK hok ho;induction k with
    |zero=>simp[bR]
    |succ k ih=>simp only[Pr,yN];exact rJ (zA rM) ih
   have hone:∀x∈((Array.range (k*es)).map (λi=>v.cells[i % v.cells.size]!)).toList,x.oneCell'=true:=by
    rw[IE k es v.cells hzs hpos];intro x hx;simp only[List.mem_flatten,GU]at hx;obtain⟨l,⟨_,rfl⟩,hx⟩:=hx;exact h1 x hx
   obtain⟨C',hC,gf,TG,hrl,FA⟩:=Zb hs (n:=k) hps rN (by intro r hr;simp at hr;rw[hr.2];simpa using hzl) (by simp) hstart hone
   have hrun:(execOp a.eval o).run P w = .ok (.value (.slice (some ⟨w.heap.size,0,none⟩) k k)) (w.alloc (.cells C' e)):=by
    have hsz':i.size=es:=by rw[hsz];exact hzl
    simp only[execOp,ho,Instr.buildSlice];have hle:¬(k*es > 2 ^ 24):=by omega
    simp only[Sem.run_bind,run_underlying hu,Result.andThen_ok,sizeOf,typeInfo,run_program,hi,Sem.run_pure,hsz',Sem.run_ite];rw[aE hle];by_cases pX:k*es=0
    .have hk:k=0:=by
      rcases Nat.mul_eq_zero.1 pX with h |h
      .exact h
      .omega
     subst hk;simp only[Nat.zero_mul,dH];have e0:((Array.range 0).map (λi=>(#[]:Array Value)[i % (#[]:Array Value).size]!))=((Array.range (0*es)).map (λi=>v.cells[i % v.cells.size]!)):=by simp
     rw[e0,D9,hC];simp[newRow]
    .rw[aE pX]
     simp only[Sem.run_bind,zeroValue,typeInfo,run_program,Result.andThen_ok,hi,hv,Sem.run_pure];rw[D9,hC];simp[newRow]
   have hlen:=oP gf;rw[yf hrl,FA]at hlen;simp at hlen;have hg:=gM.alloc w (.cells C' e);simp only[aR,rN]at hok hK;cases fz with
   |true =>
    simp only[dH]at hok hK;obtain⟨r,hr⟩:=Nt hok;rw[hr]at hK;simp only[rY,gJ]at hr;obtain⟨ds,hds,rfl⟩:=hr;have he:=Fy hds;have Zc:ds.length=k:=by rw[he]at FA;simpa using FA
    refine YW hs hd (I':=iQ g.I w.heap.size C'.size) hrun hg (λb hb=>Fz hb) (TE hs.heap.new _) ?_ hK
    simp only[aJ,bQ,Gh.eo];refine⟨some ⟨w.heap.size,0,none⟩,k,by rw[Zc],by omega,by simp,λ_=>⟨_,rfl,λ_=>⟨rfl,by simp[iQ];rw[Zc];omega,?_⟩⟩⟩
    simp only;refine uT λr row hrow=>?_
    have oS:rows[r]?=some (row.map V.d):=by rw[he];simp[hrow]
    have TH:row.length=es:=by have:=hrl _ (kY oS);simpa using this
    refine⟨TH,wj λj c hj=>?_⟩
    have hf:=Fx hrl oS (j:=j) (c:=.d c) (by simp[hj])
    obtain⟨u,n9,hd'⟩:=C9 gf hf;refine⟨u,?_,TG u (kY n9),x8 (Db hg (λb hb=>Fz hb) hs.heap.new) (by simpa only[aJ]using hd')⟩
    simp only[World.cell?,zF,nP];simpa using n9
   |false =>
    simp only[eR,dG,sU,St.gk]at hok hK;refine IC hs hd (b:=w.heap.size) (off:=0) (I':=g.I) hrun hg (λ_ _=>rfl) (λb hb=>hs.heap.new b (by simp at hb;omega)) (gj _) ?_ ?_ hK
    .exact TD (h:=s.heap) (zF w _) hrl gf TG (zE _ hs.heap hg (λ_ _=>rfl)) (hs.heap.new _ (gj _))
    .simp only[aJ]
     refine⟨by simp,rfl,λes' he'=>⟨k,by simp[Gh.add],gj _,?_,C',e,by have:=zF w (.cells C' e);simpa only[Gh.add,dH]using this,?_⟩⟩
     .rw[Dd]
      unfold eK;split
      .rename_i ds hds
       have he:=Fy hds
       have:ds.length=k:=by rw[he]at FA;simpa using FA
       simp[O.len,this]
      .simp[O.len,FA]
     .have:es'=es:=by
       rw[Dd]at he';unfold eK at he';split at he'<;>simp[O.gL]at he'<;>exact he'.symm
      subst this;refine⟨?_,TG⟩;simp[Gh.add];rw[ji];omega
  .simp at h
 .simp at h
end
end Go.VS
namespace Go.VS
section
variable {P:Program}{φ:fy}
variable {nt m dB:Nat}{s:St}{g:Gh}{a:Act}{w:World}{K:Act->World->Prop}{Q:Exit->Act->World->Prop}{o:Oper}
theorem Di{α:Type}{cs new:List α}{o:Nat}(h:o+new.length<=cs.length)(i:Nat):
  (aq cs o new)[i]?=if i<o then cs[i]? else if i<o+new.length then new[i - o]? else cs[i]?:=by
 unfold aq;have ht:(cs.take o).length=o:=by simp;omega
 by_cases h1:i<o
 .rw[aK h1,sS,sP (by omega),yM,aK h1]
 .rw[aE h1,sS,At (by omega),ht]
  by_cases h2:i<o+new.length
  .rw[aK h2,sP (by omega)]
  .rw[aE h2,At (by omega),pz]
   congr 1;omega
theorem Br{α:Type}{cs new:List α}{o:Nat}(h:o+new.length<=cs.length):(aq cs o new).length=cs.length:=by
 unfold aq;simp;omega
theorem x9.Bs{CS:Array Value}(h:x9 CS){p:Nat}{us:List Value}(h1:∀u∈us,u.oneCell'=true):x9 (aq CS.toList p us).toArray:=λx hx=>by
 simp only[aq,dc]at hx;rcases hx with(hx |hx) |hx
 .exact h x (nM hx)
 .exact h1 x hx
 .exact h x (mN hx)
theorem ahT{α β:Type}(f:α->β)(cs new:List α)(o:Nat):(aq cs o new).map f=aq (cs.map f) o (new.map f):=by
 simp[aq]
theorem Nx{b:Nat}{cur cs:Array Value}{T:TypeId}(hg:w.heap[b]?=some (.cells cur T (0,0))):jU w (w.setRow b cs) b/\(w.setRow b cs).heap[b]?=some (.cells cs T (0,0)):=by
 refine⟨⟨size_setRow w b cs,λk hk=>?_,rfl,rfl,rfl⟩,setRow_heap w b cur cs T (0,0) hg⟩
 simp only[World.setRow,Array.getElem?_modify];rw[aE (by omega)]
theorem Zd{t:TypeId}{n:Nat}(hsz:jw P t n=true){b off:Nat}{cur:Array Value}{T:TypeId}(hg:w.heap[b]?=some (.cells cur T (0,0))){v:Value}(hv:v.cells.size=n)
  (hfit:off+n<=cur.size)(h1:∀x∈v.cells.toList,x.oneCell'=true):
  ∃w',(Instr.storeAt t (.pointer (some ⟨b,off,none⟩)) v).run P w = .ok () w'/\jU w w' b/\w'.heap[b]?=some (.cells (aq cur.toList off v.cells.toList).toArray T (0,0)):=by
 have h2:=wJ (P:=P) (w:=w) hsz;have h3:=run_storeCells_at P b off T v.cells.toList 0 cur w hg (by simp;omega) h1
 obtain⟨h4,h5⟩:=Nx (cs:=(aq cur.toList off v.cells.toList).toArray) hg;refine⟨w.setRow b (aq cur.toList off v.cells.toList).toArray,?_,h4,h5⟩;simp only[GQ]at h3;simp only[Instr.storeAt,Instr.sureAddr,Sem.run_bind,Sem.run_pure,Result.andThen_ok,storeVar,h2,hv];simp[h3,aq]
theorem ahU{h:List O}{b es off:Nat}{rows:List (List D)}(hr:jG φ g.I w b es off rows):wm φ h g w b es off (rows.map λr=>r.map V.d):=by
 intro r row hrow;simp only[vB,gJ]at hrow;obtain⟨x,hx,rfl⟩:=hrow;obtain⟨h1,h2⟩:=n7 hr hx;refine⟨by simpa using h1,λj c hj=>?_⟩
 simp only[vB,gJ]at hj;obtain⟨y,hy,rfl⟩:=hj;obtain⟨v,h3,h4,h5⟩:=Fo h2 hy;exact⟨v,h3,h4,by simpa only[aJ]using h5⟩
theorem ahV{h:List O}{b es off:Nat}{rows:List (List D)}(hr:wm φ h g w b es off (rows.map λr=>r.map V.d)):jG φ g.I w b es off rows :=
 uT λr row hrow=>by
  obtain⟨h1,h2⟩:=hr r (row.map V.d) (by simp[hrow])
  refine⟨by simpa using h1,wj λj c hj=>?_⟩
  obtain⟨v,h3,h4,h5⟩:=h2 j (.d c) (by simp[hj])
  exact⟨v,h3,h4,by simpa only[aJ]using h5⟩
theorem ahW{h h':List O}{g':Gh}{w':World}{b es off:Nat}{rows:List (List V)}(hle:gU h g w h' g' w')(hr:wm φ h g w b es off rows)
  {cur:Array Value}{T:TypeId}(hg:w.heap[b]?=some (.cells cur T (0,0))){r c:Nat}{row xs:List V}{us:List Value}(hrow:rows[r]?=some row)(hc:c+xs.length<=row.length)
  (hx:bR φ h g w xs us)(h1:∀u∈us,u.oneCell'=true)(hfit:off+es*rows.length<=cur.size)
  (hw':w'.heap[b]?=some (.cells (aq cur.toList (off+r*es+c) us).toArray T (0,0))):wm φ h' g' w' b es off (rows.set r (aq row c xs)):=by
 have TI:=oP hx;have hrl:row.length=es:=(hr r row hrow).1;have FB:r<rows.length:=by
  rcases k9 r rows.length with h2 |h2
  .exact h2
  .simp[nN h2]at hrow
 have hin:(r+1)*es<=es*rows.length:=by rw[ji es];exact lU es FB
 rw[qP]at hin;have nF:off+r*es+c+us.length<=cur.toList.length:=by simp;omega
 have cell:∀i,w'.cell? ⟨b,i,none⟩=if i<off+r*es+c then w.cell? ⟨b,i,none⟩else if i<off+r*es+c+us.length then us[i - (off+r*es+c)]? else w.cell? ⟨b,i,none⟩:=by
  intro i;have:=Di nF i;simp only[World.cell?,hw',hg,B9];simpa using this
 have old:∀i x,¬(off+r*es+c<=i/\i<off+r*es+c+us.length)->w.cell? ⟨b,i,none⟩=some x->w'.cell? ⟨b,i,none⟩=some x:=by
  intro i x hi hx;rw[cell];split
  .exact hx
  .rw[aE (by omega)];exact hx
 intro r' row' oS;by_cases dV:r'=r
 .subst dV
  rw[List.getElem?_set_self FB]at oS;simp at oS;subst oS;refine⟨by rw[Br hc];exact hrl,λj y hj=>?_⟩
  rw[Di hc]at hj;have keep:row[j]?=some y->¬(c<=j/\j<c+xs.length)->∃x,w'.cell? ⟨b,off+r'*es+j,none⟩=some x/\x.oneCell'=true/\aJ φ h' g' w' y x:=by
   intro hj hn;obtain⟨x,h2,h3,h4⟩:=(hr r' row hrow).2 j y hj;exact⟨x,old _ _ (by omega) h2,h3,lI hle h4⟩
  split at hj
  .exact keep hj (by omega)
  .split at hj
   .rename_i h2 h3
    obtain⟨u,hu,hru⟩:=C9 hx hj;refine⟨u,?_,h1 u (kY hu),lI hle hru⟩;rw[cell,aE (by omega),aK (by omega)]
    rw[<-hu];congr 1;omega
   .exact keep hj (by omega)
 .rw[List.getElem?_set_ne (Ne.symm dV)]at oS
  refine⟨(hr r' row' oS).1,λj y hj=>?_⟩
  obtain⟨x,h2,h3,h4⟩:=(hr r' row' oS).2 j y hj;have hjl:j<es:=by
   have:=(hr r' row' oS).1;rcases k9 j row'.length with h5 |h5
   .omega
   .simp[nN h5]at hj
  refine⟨x,old _ _ ?_ h2,h3,lI hle h4⟩;intro ahX;rcases Nat.lt_or_gt_of_ne dV with h5 |h5
  .have:(r'+1)*es<=r*es:=lU es h5
   rw[qP]at this;omega
  .have:(r+1)*es<=r'*es:=lU es h5
   rw[qP]at this;omega
end
end Go.VS
namespace Go.VS
section
variable {P:Program}{φ:fy}
variable {nt m dB:Nat}{s:St}{g:Gh}{a:Act}{w:World}{K:Act->World->Prop}{Q:Exit->Act->World->Prop}{o:Oper}
theorem IF{b:Nat}{w':World}(ht:jU w w' b){cur:Array Value}{T:TypeId}(hg:w.heap[b]?=some (.cells cur T (0,0))){p:Nat}{us:List Value}(hp:p+us.length<=cur.size)
  (hw':w'.heap[b]?=some (.cells (aq cur.toList p us).toArray T (0,0))){I I':Nat->Nat}(hI:I b<=p)(yg:∀k,I k<=I' k):Ext I w I' w' :=
 ⟨yg,λk i hi=>by
  by_cases hk:k=b
  .subst hk
   have:=Di (cs:=cur.toList) (new:=us) (o:=p) (by simpa using hp) i
   simp only[World.cell?,hw',hg,B9];rw[aK (by omega)]at this
   simpa using this
  .exact Ix (ht.same k hk) i⟩
theorem cm.yd(hs:cm φ nt m dB s g a w){n:Nat}{x:O}{w':World}{I':Nat->Nat}{ok:Bool}(hl:(aU s.heap n).live=true)(ht:jU w w' (g.β n))(hle:gU s.heap g w (s.heap.set n x) (g.eo I') w')(hr:eX φ (s.heap.set n x) (g.eo I') w'):
  cm φ nt m dB ⟨s.env,s.heap.set n x,ok⟩ (g.eo I') a w' :=
 ⟨λk=>lI hle (hs.env k),hr,hs.size,hs.defers.yd hl ht,by simpa using hs.len⟩
theorem TJ(hs:cm φ nt m dB s g a w){n r c es k:Nat}{rows:List (List V)}{row:List V}{xs:List V}{us:List Value}{t:TypeId}{v:Value}{x:O}{ok:Bool}
  (hl:(aU s.heap n).live=true)(jH:(aU s.heap n).gL=some es)(hlen:(aU s.heap n).len=rows.length)
  (dF:(∃CS T,w.heap[g.β n]?=some (.cells CS T (0,0))/\g.o n+es*rows.length<=CS.size)/\wm φ s.heap g w (g.β n) es (g.o n) rows/\g.I (g.β n)<=g.o n)
  (hrow:rows[r]?=some row)(hc:c+k<=row.length)(hxl:xs.length=k)(hsz:jw P t k=true)(hv:v.cells.size=k)(FC:v.cells.toList=us)
  (hx:bR φ s.heap g w xs us)(h1:∀u∈us,u.oneCell'=true)
  (Ny:x.gL=some es/\x.len=rows.length/\(∀kv,x≠.mp kv))
  (hxr:∀{h':List O}{g':Gh}{w':World},(∃CS T,w'.heap[g.β n]?=some (.cells CS T (0,0))/\g.o n+es*rows.length<=CS.size)->wm φ h' g' w' (g.β n) es (g.o n) (rows.set r (aq row c xs))->g'.I (g.β n)<=g.o n->gC φ h' g' w' (g.β n) (g.o n) x):
  ∃w',(Instr.storeAt t (.pointer (some ⟨g.β n,g.o n+r*es+c,none⟩)) v).run P w = .ok () w'/\cm φ nt m dB ⟨s.env,s.heap.set n x,ok⟩ g a w'/\Frame m s.heap g w (s.heap.set n x) g w':=by
 obtain⟨⟨cur,T,hg,hfit⟩,dV,hI⟩:=dF;have TI:=oP hx;have hrl:row.length=es:=(dV r row hrow).1;have FB:r<rows.length:=by
  rcases k9 r rows.length with h2 |h2
  .exact h2
  .simp[nN h2]at hrow
 have hin:(r+1)*es<=es*rows.length:=by rw[ji es];exact lU es FB
 rw[qP]at hin;obtain⟨w',hrun,ht,hw'⟩:=Zd (P:=P) (w:=w) hsz (off:=g.o n+r*es+c) hg hv (by omega) (by rw[FC];exact h1)
 rw[FC]at hw';have hE:Ext g.I w g.I w':=IF ht hg (by omega) hw' (by omega) (λ_=>gj _)
 have hsize:(aq cur.toList (g.o n+r*es+c) us).toArray.size=cur.size:=by
  have:=Br (cs:=cur.toList) (new:=us) (o:=g.o n+r*es+c) (by simp;omega)
  simpa using this
 have hle:gU s.heap g w (s.heap.set n x) (g.eo g.I) w':=wv hs.heap hl ht hE
  (λes' he'=>by
   rw[Ny.1]at he';simp at he';subst he';refine⟨jH,by rw[Ny.2.1,hlen],λCS T' hcs=>?_⟩
   rw[hg]at hcs;simp at hcs;obtain⟨rfl,rfl⟩:=hcs;exact⟨_,_,hw',by rw[hsize];exact gj _,λhone=>x9.Bs hone h1⟩)
  (λkv hkv=>absurd hkv (Ny.2.2 kv)) (λhh=>by have he:=Ny.1;cases x<;>simp[O.tB,O.gL]at hh he)
 have hnew:=ahW hle dV hg hrow (xs:=xs) (by omega) hx h1 hfit hw'
 have hH:=wx (x:=x) hs.heap hl ht hle (λ_ _=>rfl) (hxr ⟨_,T,hw',by rw[hsize];exact hfit⟩ hnew hI)
 exact⟨w',hrun,hs.yd hl ht hle hH,wy x hl ht hE (λ_ _=>rfl) hle⟩
theorem ahY{rows:List (List D)}{r:Nat}{y:List D}:(rows.set r y).map (λx=>x.map V.d)=(rows.map λx=>x.map V.d).set r (y.map V.d):=by
 rw[List.map_set]
theorem Ze{ov:Option (List O)}(h:(s.so ov).ok=true):∃hh,ov=some hh:=by
 cases ov with
 |none=>simp[St.so,St.fail]at h
 |some hh=>exact⟨hh,rfl⟩
theorem Zf{t:TypeId}{x y:Operand}{w':World}(ho:o.op = .store t x y)(uX:o.dst=none)(hrun:(Instr.storeAt t (a.eval x) (a.eval y)).run P w = .ok () w')(hk:K a w'):o.wp P a w K Q:=by
 refine YT (w':=w') (by simp[execOp,ho,hrun]) ?_
 rw[uX];exact hk
theorem ahZ(hs:cm φ nt m dB s g a w){rec:Rec}{n:Nat}{x y:A}(hc:cN P φ nt o (.st x y n false)=true)(hok:(aR rec (.st x y n false) s).ok=true)
  (hK:eG φ nt m dB s g w (aR rec (.st x y n false) s) o a K):o.wp P a w K Q:=by
 simp only[cN]at hc;split at hc
 .rename_i t x' y' ho
  simp only[bE,gi,dM]at hc;obtain⟨⟨⟨⟨⟨uX,hx⟩,hy⟩,hsz⟩,hpos⟩,_⟩:=hc;have rx:=eY hs hx;have ry:=eY hs hy;simp only[aR,eR,dG]at hok hK;obtain⟨hh,hst⟩:=Ze hok;rw[hst]at hK;simp only[St.so]at hK;have fin:∀{w':World},(Instr.storeAt t (a.eval x') (a.eval y')).run P w = .ok () w'->cm φ nt m dB ⟨s.env,hh,s.ok⟩ g a w'->Frame m s.heap g w hh g w'->o.wp P a w K Q:=by
   intro w' h1 h2 h3;refine Zf ho uX h1 ?_;have:=hK g undef w';rw[uX]at this;exact this h2 h3
  unfold Kl at hst;split at hst
  .rename_i q r c hp
   rw[hp]at rx;simp only[aJ]at rx;have dF:=hs.heap.obj q;split at hst
   .rename_i es rows hq
    rw[hq]at rx dF;have ex:=rx.2.2 es rfl;split at hst
    .rename_i row hrow
     split at hst
     .rename_i dX
      obtain⟨sG,hvl,hkn⟩:=dX;obtain⟨rc,h1⟩:=Fq ry hkn;have hvs:(a.eval y').cells.size=n:=by have:=oP rc;simp at this;omega
      have Nz:(∃CS T,w.heap[g.β q]?=some (.cells CS T (0,0))/\g.o q+es*(rows.map λr=>r.map V.d).length<=CS.size)/\wm φ s.heap g w (g.β q) es (g.o q) (rows.map λr=>r.map V.d)/\g.I (g.β q)<=g.o q :=
       ⟨by simpa using dF.1,ahU dF.2.1,by simpa using dF.2.2⟩
      have oS:(rows.map λr=>r.map V.d)[r]?=some (row.map V.d):=by simp[hrow]
      split at hst
      .rename_i ds hds
       simp at hst;subst hst;obtain⟨w',h2,h3,h4⟩:=TJ (P:=P) hs (x:=.aG es true (rows.set r (aq row c ds))) (ok:=s.ok) (by rw[hq];rfl) (by rw[hq];rfl) (by rw[hq];simp[O.len]) Nz oS (by simpa using sG) hvl hsz hvs rfl rc h1
        ⟨rfl,by simp[O.len],by simp⟩ (λhb hr hI=>⟨by simpa using hb,ahV (by rw[ahY,ahT,<-Fp hds];exact hr),by simpa using hI⟩)
       exact fin (by rw[ex];exact h2) h3 h4
      .simp at hst
       subst hst;obtain⟨w',h2,h3,h4⟩:=TJ (P:=P) hs (x:=.gK es ((rows.map λx=>x.map V.d).set r (aq (row.map V.d) c (s.get y).cells))) (ok:=s.ok) (by rw[hq];rfl) (by rw[hq];rfl) (by rw[hq];simp[O.len]) Nz oS (by simpa using sG) hvl hsz hvs rfl rc h1
        ⟨rfl,by simp[O.len],by simp⟩ (λhb hr hI=>⟨by simpa using hb,hr,hI⟩)
       exact fin (by rw[ex];exact h2) h3 h4
     .simp at hst
    .simp at hst
   .rename_i es rows hq
    rw[hq]at rx dF;have ex:=rx.2.2 es rfl;split at hst
    .rename_i row hrow
     split at hst
     .rename_i dX
      obtain⟨sG,hvl,hkn⟩:=dX;obtain⟨rc,h1⟩:=Fq ry hkn;have hvs:(a.eval y').cells.size=n:=by have:=oP rc;simp at this;omega
      simp at hst;subst hst;obtain⟨w',h2,h3,h4⟩:=TJ (P:=P) hs (x:=.gK es (rows.set r (aq row c (s.get y).cells))) (ok:=s.ok) (by rw[hq];rfl) (by rw[hq];rfl) (by rw[hq];rfl) dF hrow sG hvl hsz hvs rfl rc h1
       ⟨rfl,by simp[O.len],by simp⟩ (λhb hr hI=>⟨by simpa using hb,hr,hI⟩)
      exact fin (by rw[ex];exact h2) h3 h4
     .simp at hst
    .simp at hst
   .simp at hst
  .simp at hst
 .simp at hc
theorem ah0(hs:cm φ nt m dB s g a w){rec:Rec}{n:Nat}{x y:A}(hc:cN P φ nt o (.st x y n true)=true)(hok:(aR rec (.st x y n true) s).ok=true)
  (hK:eG φ nt m dB s g w (aR rec (.st x y n true) s) o a K):o.wp P a w K Q:=by
 simp only[cN]at hc;split at hc
 .rename_i t x' y' ho
  simp only[bE,gi,dM]at hc;obtain⟨⟨⟨⟨⟨uX,hx⟩,hy⟩,hsz⟩,hpos⟩,wM⟩:=hc;have rx:=eY hs hx;have ry:=eY hs hy;simp only[aR,dH]at hok hK;cases x with
  |k q=>simp[St.fail]at hok
  |t d =>
   simp only at wM;have hd:d<nt:=by simpa using wM
   cases hp:s.get (.t d)with
   |loc q r c =>
    rw[hp]at hok hK rx;cases r with
    |succ r=>simp[St.fail]at hok
    |zero =>
     cases c with
     |succ c=>simp[St.fail]at hok
     |zero =>
      simp only at hok hK;have dF:=hs.heap.obj q;cases hq:aU s.heap q with
      |aG es ex rows =>
       rw[hq]at hok hK dF;simp only[aJ,hq]at rx;have Zg:=rx.2.2 es rfl;cases ex with
       |false=>simp[St.fail]at hok
       |true =>
        match rows,dF,hok,hK,hq with
        | [],_,hok,_,_=>simp[St.fail]at hok
        |_::_::_,_,hok,_,_=>simp[St.fail]at hok
        | [z],dF,hok,hK,hq =>
         simp only at hok hK;split at hK
         .rename_i dX
          rw[aK dX]at hok;obtain⟨hzl,hvl,hkn⟩:=dX;obtain⟨v,hh,hv⟩:=Bp hok;rw[hv]at hK;simp only[gz,ud]at hv;obtain⟨rfl,rfl⟩:=hv;simp only[St.gk]at hK;obtain⟨rc,h1⟩:=Fq ry hkn;have hvs:(a.eval y').cells.size=n:=by have:=oP rc;simp at this;omega
          obtain⟨⟨cur,T,hg,hfit⟩,dV,hI⟩:=dF;simp only[dH]at hI;have ah1:z.length=es:=(n7 dV (r:=0) rfl).1;simp only[gX,lf,nP,Pp]at hfit;obtain⟨w',hrun,ht,hw'⟩:=Zd (P:=P) (w:=w) hsz (off:=g.o q) hg hvs (by omega) h1
          have IG:=oP rc;have hE:Ext g.I w (iQ g.I (g.β q) (g.o q+n)) w':=IF ht hg (by simp;omega) hw' (by omega) (λk=>by simp only[iQ];split<;>simp_all;omega)
          have hl:(aU s.heap q).live=true:=by rw[hq];rfl
          have hle:gU s.heap g w (s.heap.set q .dead) (g.eo (iQ g.I (g.β q) (g.o q+n))) w':=wv hs.heap hl ht hE (λes he=>by simp[O.gL]at he) (λkv hkv=>by simp at hkv)
          have hH:eX φ (s.heap.set q .dead) (g.eo (iQ g.I (g.β q) (g.o q+n))) w':=wx hs.heap hl ht hle (λb hb=>by simp[iQ,hb]) trivial
          have hS:=hs.yd (ok:=s.ok) hl ht hle hH;refine Zf ho uX (w':=w') (by rw[Zg];simpa using hrun) ?_
          have hk:=hK (g.eo (iQ g.I (g.β q) (g.o q+n))) undef w';rw[uX]at hk;refine hk ?_ (wy .dead hl ht hE (λb hb=>by simp[iQ,hb]) hle)
          refine⟨λk=>?_,hH,hs.size,hS.defers,by simpa using hs.len⟩
          simp only[cA];by_cases qB:d=k
          .subst qB
           rw[aK rfl];have Dj:a.tmps.getD d undef = .pointer (some ⟨g.β q,g.o q,none⟩):=by
            cases x' with
            |tmp t =>
             simp[dP]at hx;subst hx;simpa[Act.eval]using Zg
            |const v=>simp[dP]at hx
            |func f=>simp[dP]at hx
            |_=>simp[dP]at hx
           have ah2:(a.put none undef).tmps.getD d undef = .pointer (some ⟨g.β q,g.o q,none⟩):=Dj;rw[ah2];have Zh:∀(j:Nat)(u:Value),(a.eval y').cells.toList[j]?=some u->w'.cell? ⟨g.β q,g.o q+j,none⟩=some u:=by
            intro j u hj;have hjl:j<(a.eval y').cells.toList.length:=by
             rcases k9 j (a.eval y').cells.toList.length with h2 |h2
             .exact h2
             .simp[nN h2]at hj
            have nF:=Di (cs:=cur.toList) (new:=(a.eval y').cells.toList) (o:=g.o q) (by simp;omega) (g.o q+j)
            rw[aE (by omega),aK (by omega),Pw,hj]at nF
            simp only[World.cell?,hw',B9];simpa using nF
           unfold mkRef;split
           .rename_i ds hds
            simp only[aJ,bQ,Gh.eo];have Zi:=zB hds rc;have hdn:=sF Zi;simp at hdn;exact⟨g.β q,g.o q,rfl,by simp[iQ];omega,No (vs:=(a.eval y').cells.toList) (zx hE Zi) Zh h1⟩
           .simp only[aJ,Gh.eo]
            simp at IG;exact⟨g.β q,g.o q,(a.eval y').cells.toList,rfl,by simp[iQ];omega,ya hle rc,λj u hj=>⟨Zh j u hj,h1 u (kY hj)⟩⟩
          .rw[aE qB]
           exact hS.env k
         .rename_i dX
          rw[aE dX]at hok;simp[St.fail]at hok
      |_=>rw[hq]at hok;simp[St.fail]at hok
   |_=>rw[hp]at hok;simp[St.fail]at hok
 .simp at hc
end
end Go.VS
namespace Go.VS
section
variable {P:Program}{φ:fy}
variable {nt m dB:Nat}{s:St}{g:Gh}{a:Act}{w:World}{K:Act->World->Prop}{Q:Exit->Act->World->Prop}{o:Oper}
def l7(P:Program)(φ:fy)(rec:Rec):Prop :=
 ∀(f:Nat)(xs:List V)(h:List O)(v:V)(h1:List O),rec (.call f xs h)=some (.val v h1) ->
  (∃ fn, P.funcs[φ f]? = some fn ∧ (fn.name == "runtime.NumGoroutine") = false ∧ fn.body.isNone = false) ∧
  ∀(g:Gh)(w:World)(args:Array Value),eX φ h g w->bR φ h g w xs args.toList ->
   Calls P (φ f) args w λe w'=>∃v' g',e = .returned v'/\eX φ h1 g' w'/\aJ φ h1 g' w' v v'/\Frame h.length h g w h1 g' w'
theorem NA{I:Nat->Nat}{w:World}(h0:∀b,w.heap.size<=b->I b=0):eX φ [] ⟨λ_=>0,λ_=>0,I⟩ w where
 obj n:=by simp[aU,gC]
 inj n k hn:=by simp[aU,O.live]at hn
 new:=h0
theorem Zj{g':Gh}{w:World}(hg:g'.I=g.I){x:V}{v:Value}(hr:aJ φ [] g w x v):aJ φ [] g' w x v :=
 lI (h:=[]) (h':=[]) ⟨by rw[hg];exact Ext.refl _ _,gj _,λn es hn=>by simp at hn,λn kv hn=>by simp at hn,λn hn=>by simp at hn⟩ hr
theorem NB{m:Nat}{g0 g2:Gh}{w w':World}{h2:List O}(hfr:Frame m [] g0 w h2 g2 w'):gM w w'/\∀b,b<w.heap.size->g2.I b=g0.I b:=by
 have hk:=λb hb=>hfr.keep b hb (λn hn=>by simp[aU,O.live]at hn)
 exact⟨⟨hfr.size,λb hb=>(hk b hb).1,hfr.os,hfr.tape,hfr.output⟩,λb hb=>(hk b hb).2⟩
mutual
theorem Zk{h:List O}{g:Gh}{w:World}:∀{x:V}{v:Value},aJ φ [] g w x v->aJ φ h g w x v
 | .u,v,_=>by simp[aJ]
 | .kC,v,hr=>by simpa[aJ]using hr
 | .d x,v,hr=>by simpa only[aJ]using hr
 | .loc n r c,v,hr=>by simp[aJ]at hr
 | .aQ n off len,v,hr=>by simp[aJ]at hr
 | .je n off len,v,hr=>by simp[aJ]at hr
 | .iT _,v,hr=>by simpa only[aJ]using hr
 | .mp n,v,hr=>by simp[aJ]at hr
 | .jj n,v,hr=>by simp[aJ]at hr
 | .rf cs,v,hr=>by
  simp only[aJ]at hr⊢;obtain⟨b,off,us,h1,h2,h3,h4⟩:=hr;exact⟨b,off,us,h1,h2,FD h3,h4⟩
 | .fn f a b,v,hr=>by
  simp only[aJ]at hr⊢;obtain⟨A,B,h1,h2,h3⟩:=hr;exact⟨A,B,h1,FD h2,FD h3⟩
 | .ag cs,v,hr=>by
  simp only[aJ]at hr⊢;obtain⟨A,h1,h2,h3⟩:=hr;exact⟨A,h1,FD h2,h3⟩
 | .tu cs,v,hr=>by
  simp only[aJ]at hr⊢;obtain⟨A,h1,h2⟩:=hr;exact⟨A,h1,FD h2⟩
theorem FD{h:List O}{g:Gh}{w:World}:∀{xs:List V}{vs:List Value},bR φ [] g w xs vs->bR φ h g w xs vs
 | [],[],_=>by simp[bR]
 |_::_,_::_,hr=>by
  simp only[bR]at hr⊢;exact⟨Zk hr.1,FD hr.2⟩
 | [],_::_,hr=>by simp[bR]at hr
 |_::_,[],hr=>by simp[bR]at hr
end
theorem ah3{rec:Rec}{f:Nat}{xs:List V}{v:V}(h:kG rec f xs=some v):∃ds,fA xs=some ds/\rec (.call f xs [])=some (.val v []):=by
 unfold kG at h;split at h
 .rename_i ds hds
  refine⟨ds,hds,?_⟩;split at h
  .rename_i v' hv
   simp at h;subst h;exact hv
  .simp at h
 .simp at h
theorem Dk{d:Option Nat}(h:pT nt o d=true):o.dst=d/\∀k,d=some k->k<nt:=by
 simp only[pT,bE,dM]at h;refine⟨h.1,λk hk=>?_⟩
 subst hk;simpa using h.2
theorem NC{f : Nat}{fn : Func}{args : Array Value}(hf : P.funcs[f]? = some fn)(hn : (fn.name == "runtime.NumGoroutine") = false)(hb : fn.body.isNone = false):
  (callFunc f args).run P w = .ok (.enter f args) w:=by
 have hn' : fn.name ≠ "runtime.NumGoroutine" := by simpa using hn
 have hb':fn.body≠none:=by intro h;simp[h]at hb
 simp[callFunc,hf,hn',hb']
theorem TK{rec:Rec}(hq:l7 P φ rec)(hs:cm φ nt m dB s g a w){d:Option Nat}(hd:pT nt o d=true){f:Nat}{xs:List V}{args:Array Value}{ov:Option V}(nF:ov=kG rec f xs)
  (hok:(s.mP d ov).ok=true)(hr:bR φ s.heap g w xs args.toList)
  (hrun:(execOp a.eval o).run P w=(callFunc (φ f) args).run P w)(hK:eG φ nt m dB s g w (s.mP d ov) o a K):o.wp P a w K Q:=by
 obtain⟨v,hv⟩:=Cm hok;obtain⟨ds,hds,gV⟩:=ah3 (by rw[<-nF];exact hv)
 obtain⟨⟨fn,hf,hn,hb⟩,oT⟩:=hq f xs [] v [] gV;unfold Oper.wp;rw[hrun,NC hf hn hb];simp only[Oper.upon];have hxs:bR φ [] ⟨λ_=>0,λ_=>0,g.I⟩ w xs args.toList:=by
  rw[Fp hds];exact zA (g:=⟨λ_=>0,λ_=>0,g.I⟩) (show cy φ g.I w ds args.toList from zB hds hr)
 refine Calls.mono (oT ⟨λ_=>0,λ_=>0,g.I⟩ w args (NA hs.heap.new) hxs) λe w' h=>?_
 obtain⟨v',g1,rfl,rO,gf,hfr⟩:=h;obtain⟨hg,hI⟩:=NB hfr;have hnew:=rO.new;obtain⟨I',yg⟩:∃I',g1.I=I':=⟨_,rfl⟩;rw[yg]at hI hnew;obtain⟨h1,h2⟩:=Dk hd;have hs':=hs.Ns (I':=I') hg hI hnew;have hrv:aJ φ s.heap (g.eo I') w' v v':=Zk (Zj (g':=g.eo I') yg.symm gf);refine hK (g.eo I') v' w' ?_ ?_
 .rw[h1,hv]
  cases d with
  |none=>exact hs'
  |some d=>exact hs'.wF (h2 d rfl) hrv
 .rw[hv]
  cases d with
  |none=>exact Dc m hs.heap hg hI
  |some d=>exact Dc m hs.heap hg hI
theorem ah4{rec:Rec}(hq:l7 P φ rec)(hs:cm φ nt m dB s g a w){d:Option Nat}{f:Nat}{xs:List A}(hc:cN P φ nt o (.call d f xs)=true)(hok:(aR rec (.call d f xs) s).ok=true)
  (hK:eG φ nt m dB s g w (aR rec (.call d f xs) s) o a K):o.wp P a w K Q:=by
 simp only[cN,bE]at hc;obtain⟨hd,h⟩:=hc;split at h
 .rename_i c ho
  split at h
  .rename_i ff iD
   simp only[bE,dM]at h;obtain⟨rfl,hx⟩:=h;simp only[aR]at hok hK;refine TK hq hs hd (f:=f) (xs:=xs.map s.get) (args:=c.args.map a.eval) rfl hok (by simpa using wE hs hx) ?_ hK
   simp[execOp,ho,resolve,iD,Act.eval,Deferred.ofValue,invoke]
  .simp at h
 .simp at h
theorem Bt{h:List O}{g:Gh}:∀{ds:List D}{vs:List Value},cy φ g.I w ds vs->bR φ h g w (ds.map V.d) vs
 | [],[],_=>by simp[bR]
 |_::_,_::_,hr=>by
  simp only[cy]at hr;simp only[fT,bR,aJ];exact⟨hr.1,Bt hr.2⟩
 | [],_::_,hr=>by simp[cy]at hr
 |_::_,[],hr=>by simp[cy]at hr
theorem ah5{rec:Rec}(hq:l7 P φ rec)(hs:cm φ nt m dB s g a w){d:Option Nat}{x:A}{xs:List A}(hc:cN P φ nt o (.nR d x xs)=true)(hok:(aR rec (.nR d x xs) s).ok=true)
  (hK:eG φ nt m dB s g w (aR rec (.nR d x xs) s) o a K):o.wp P a w K Q:=by
 simp only[cN,bE]at hc;obtain⟨hd,h⟩:=hc;split at h
 .rename_i c ho
  split at h
  .rename_i y iD
   simp only[bE]at h;obtain⟨hx,hxs⟩:=h;simp only[aR]at hok hK;have rx:=eY hs hx;have yh:=wE hs hxs;have key:∀{f:Nat}{A B:Array Value}{zs:List V},a.eval y = .func (.func (φ f)) A B->lX (kG rec) (s.get x) (xs.map s.get)=kG rec f zs ->
     bR φ s.heap g w zs (A.toList++c.args.toList.map a.eval++B.toList)->o.wp P a w K Q:=by
    intro f A B zs he hz hr;refine TK hq hs hd (f:=f) (xs:=zs) (args:=A++c.args.map a.eval++B) hz hok (by simpa using hr) ?_ hK
    simp[execOp,ho,resolve,iD,he,Deferred.ofValue,invoke]
   cases hv:s.get x with
   |d z =>
    cases z with
    |fn f first caps =>
     rw[hv]at rx;simp only[aJ,bQ]at rx;obtain⟨A,B,he,hA,hB⟩:=rx;exact key he (by rw[hv];rfl) (rJ (rJ (Bt hA) yh) (Bt hB))
    |_=>rw[hv]at hok;simp[lX,St.mP,St.fail]at hok
   |fn f first caps =>
    rw[hv]at rx;simp only[aJ]at rx;obtain⟨A,B,he,hA,hB⟩:=rx;exact key he (by rw[hv];rfl) (rJ (rJ hA yh) hB)
   |_=>rw[hv]at hok;simp[lX,St.mP,St.fail]at hok
  .simp at h
 .simp at h
end
end Go.VS
