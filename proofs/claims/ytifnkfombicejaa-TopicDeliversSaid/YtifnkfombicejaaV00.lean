import GoSem.Step
import Derived.WalkKit
set_option linter.all false
set_option maxHeartbeats 1000000
namespace Go.VS
def aU:=@if_true
def cB:=@if_false
def aF:=@if_neg
def aA:=@Bool.and_eq_true
def aN:=@if_pos
def aY:=@List.mem_cons
def vD:=@List.mem_cons_of_mem
def eG:=@Option.bind_some
def dz:=@List.mem_map
def tJ:=@Classical.choose_spec
def cR:=@List.map_cons
def nZ:=@List.map_append
def rX:=@List.flatMap_cons
def AD:=@List.flatMap_map
def Ed:=@List.map_flatMap
def qB:=@true_and
def mj:=@List.map_congr_left
def dG:=@List.mem_flatMap
def jd:=@and_true
def oZ:=@List.mem_map_of_mem
def aL:=@List.mem_append
def cy:=@List.nodup_cons
def eH:=@Nat.lt_or_ge
def AE:=@List.map_id
def jF:=@List.map_nil
def lA:=@List.mem_filter
def jG:=@List.all_eq_true
def IT:=@forall_exists_index
def IU:=@forall_apply_eq_imp_iff₂
def fu:=@decide_eq_true_eq
def bF:=@Option.some.injEq
def aZ:=@List.idxOf_cons
def AF:=@Bool.eq_iff_iff
def bN:=@beq_iff_eq
def x6:=@List.map_map
def fy:=@Option.map_some
def gS:=@Prod.mk.injEq
def o7:=@List.length_eq_zero_iff
def fT:=@List.length_cons
def AG:=@List.nodup_range
def o8:=@List.mem_range
def fA:=@List.nodup_append
def eC:=@List.length_append
def jH:=@List.getElem?_append_left
def bZ:=@Nat.le_refl
def ig:=@Nat.le_trans
def je:=@Nat.lt_of_lt_of_le
def x7:=@Nat.mul_add
def kB:=@Nat.add_assoc
def mm:=@Nat.add_comm
def kC:=@Nat.succ_mul
def dV:=@List.mem_of_getElem?
def dW:=@List.getElem?_eq_some_iff
def dL:=@List.getElem?_eq_none
def AH:=@Array.getElem?_eq_none
def tK:=@Nat.zero_le
def lB:=@Nat.lt_trichotomy
def tL:=@Ne.symm
def vE:=@Array.getElem?_setIfInBounds_ne
def AI:=@Int.not_lt
def eD:=@Bool.false_eq_true
def IV:=@List.head?_eq_getElem?
def x8:=@Nat.add_zero
def tM:=@List.getElem?_take
def lC:=@List.mem_of_mem_take
def jf:=@List.getElem_of_mem
def lD:=@List.mem_of_mem_drop
def jI:=@List.getElem?_drop
def x9:=@Option.ite_none_right_eq_some
def AJ:=@bne_iff_ne
def ij:=@Option.bind_eq_some_iff
def cX:=@Option.map_eq_some_iff
def AK:=@List.drop_drop
def eI:=@Nat.mul_comm
def iq:=@Nat.mul_le_mul_right
def iA:=@Nat.add_mul
def qC:=@List.flatten_cons
def n5:=@List.getElem?_append_right
def Ee:=@Nat.mul_succ
def iR:=@Nat.zero_add
def AL:=@List.foldl_cons
def ya:=@Array.toList_map
def tN:=@List.getElem?_toArray
def jg:=@List.getElem?_map
def IW:=@List.getElem_range
def qE:=@List.ext_getElem?
def jW:=@List.nil_append
def Ef:=@List.take_append
def fU:=@List.take_of_length_le
def jX:=@List.append_assoc
def IX:=@List.mem_or_eq_of_mem_set
def IY:=@List.replicate_succ
def AM:=@List.mem_replicate
def IZ:=@List.getElem?_set_self
def I3:=@List.getElem?_set_ne
def lE:=@List.length_nil
def I4:=@Nat.add_sub_cancel_left
def AN:=@Bool.and_true
def lF:=@Bool.not_eq_true'
def qF:=@List.all_cons
def Eg:=@Option.isSome_iff_exists
def n6:=@List.findIdx?_cons
def AO:=@List.zip_cons_cons
def AP:=@Bool.true_and
def tP:=@List.findIdx?_eq_some_iff_getElem
def AQ:=@List.getElem?_modify
def Eh:=@List.getElem?_eraseIdx
def vF:=@Array.toList_modify
def vG:=@List.getElem?_set
def qG:=@List.length_map
def AR:=@List.length_eraseIdx
def jY:=@Option.getD_some
def AS:=@List.pairwise_iff_getElem
def vH:=@and_self
def Ei:=@List.flatMap_nil
def o9:=@List.append_nil
def dc:=@not_or
def lG:=@List.mem_singleton
def I5:=@List.singleton_append
def pe:=@List.Sublist.refl
def I6:=@List.sublist_append_right
def yc:=@List.Sublist.append
def vI:=@List.eraseIdx_sublist
def AT:=@List.eq_nil_of_length_eq_zero
def Ej:=@Nat.mul_le_mul_left
def Ek:=@Nat.mul_le_mul
def I7:=@Nat.eq_zero_or_pos
def I8:=@List.take_succ_cons
def qH:=@List.drop_eq_nil_of_le
def vJ:=@List.flatten_append
def gA:=@List.idxOf_lt_length_of_mem
def lH:=@List.getElem?_eq_getElem
def m9:=@List.getElem_mem
def n7:=@List.Nodup.idxOf_getElem
def El:=@List.sum_cons
def tQ:=@List.getElem_idxOf
def AU:=@List.length_drop
def tR:=@List.getD_eq_getElem?_getD
def rY:=@List.not_mem_nil
def tT:=@or_false
def Em:=@Option.getD_none
def I9:=@List.getElem?_mapIdx
def Ja:=@List.nodup_iff_pairwise_ne
def Jb:=@List.getLast?_append
def Jc:=@List.getLast?_singleton
def nh:=@List.length_set
def Jd:=@List.filter_filter
def En:=@List.contains_eq_mem
def Je:=@List.length_filter_lt_length_iff_exists
def vK:=@List.filter_eq_nil_iff
def vL:=@List.length_pos_iff
def yd:=@List.sublist_cons_self
def Jf:=@List.eq_nil_or_concat
def Jg:=@List.findIdx?_eq_none_iff
def yf:=@List.any_eq_false
def qI:=@List.any_eq_true
def AV:=@Bool.or_false
def Eo:=@Bool.or_true
def tU:=@List.length_singleton
def Ep:=@Option.any_some
def vM:=@Nat.not_succ_le_self
def Er:=@List.length_eq_one_iff
def tV:=@List.take_left'
def Es:=@List.find?_some
def yg:=@List.eraseIdx_append_of_length_le
def Et:=@List.length_filter_le
def rZ:=@List.filter_append
def AW:=@not_true
def r6:=@List.pairwise_cons
def Jh:=@List.find?_eq_none
def vN:=@List.pairwise_append
def Ji:=@List.dropWhile_sublist
def Jj:=@List.filter_cons_of_neg
def qJ:=@List.cons_append
def Jk:=@List.map_eq_nil_iff
def Jl:=@List.filter_cons_of_pos
def AX:=@Int.toNat_natCast
def Eu:=@List.take_append_drop
def Jm:=@Nat.add_le_add_left
def Ev:=@decide_eq_false_iff_not
def AY:=@Nat.min_eq_left
def Jn:=@Array.toArray_toList
def Jo:=@List.mem_append_left
def r7:=@Array.getD_eq_getD_getElem?
def Ew:=@Bool.or_eq_true
def Jp:=@Array.mem_toList_iff
def Jq:=@Classical.byContradiction
def vO:=@Array.getElem?_eq_some_iff
def Ey:=@List.length_range
def tX:=@List.take_take
def vP:=@List.take_append_of_le_length
def Ez:=@Nat.min_self
def Jr:=@List.length_replicate
def Js:=@List.getElem_replicate
inductive D where
 |b(x:Bool)
 |i(k:IntKind)(n:Int)
 |s(x:List UInt8)
 |nil
 |ref(cs:List D)
 |sl(es:Nat)(nl:Bool)(xs:List (List D))
 |fn(f:Nat)(first caps:List D)
 |vQ
 |mo(t:Nat)(x:D)
 |AZ
 |n8
 |ag(cs:List D)
 |tY
 deriving Inhabited
inductive V where
 |u
 |fB
 |d(x:D)
 |loc(n r c:Nat)
 |aJ(n off len:Nat)
 |dX(n off len:Nat)
 |dS(es:Nat)
 |mp(n:Nat)
 |fn(f:Nat)(first caps:List V)
 |ag(cs:List V)
 |tu(vs:List V)
 |fC(n:Nat)
 |rf(cs:List V)
 deriving Inhabited
inductive A where
 |t(n:Nat)
 |k(x:D)
inductive CK where
 |b |i |s
 deriving DecidableEq
inductive LK where
 |sl |s |mp
 deriving DecidableEq
inductive NK where
 |sl |mp |fn |pt |mo
 deriving DecidableEq
inductive I where
 |mv(d:Nat)(x:A)
 |pick(d:Nat)(c a b:A)
 |box(d:Nat)(x:A)(n:Nat)(fz:Bool)
 |new(d:Nat)(z:List D)
 |build(d:Nat)(z:List D)(ps:List (Nat×Nat×A))
 |jh(d:Nat)(es n:Nat)(z:List D)(ps:List (Nat×A))(fz:Bool)
 |ld(d:Nat)(x:A)(n:Nat)(ag:Bool)
 |st(x y:A)(n:Nat)(fz:Bool)
 |fa(d:Nat)(x:A)(o n:Nat)
 |fD(d:Nat)(x i:A)(es:Nat)
 |bin(d:Nat)(op:BinOp)(x y:A)
 |jZ(d:Nat)(neg:Bool)(x:A)(k:NK)
 |un(d:Nat)(op:UnOp)(x:A)
 |len(d:Nat)(x:A)(k:LK)
 |sl(d:Nat)(x:A)(lo hi:Option A)(es:Nat)
 |app(d:Nat)(x y:A)(es:Nat)
 |lI(d:Option Nat)(x:A)(es:Nat)(z:List D)
 |copy(d:Option Nat)(x y:A)(es:Nat)
 |ext(d:Nat)(x:A)(i:Nat)
 |iB(d:Nat)(f:Nat)(first caps:List A)
 |mq(d:Nat)
 |ji(m k v:A)(ks:List CK)
 |jj(d:Nat)(m k:A)(z:D)(ok:Bool)(ks:List CK)
 |iC(m k:A)(ks:List CK)
 |mu(d:Nat)(m k:A)(z:D)(ks:List CK)
 |lJ(m st v:A)
 |n9(d:Nat)(x:A)
 |ni(d:Nat)(x:A)
 |call(d:Option Nat)(f:Nat)(xs:List A)
 |jJ(d:Option Nat)(f:Nat)(xs:List A)
 |iS(d:Option Nat)(f:Nat)(xs:List A)
 |j0(d:Option Nat)(x:A)(xs:List A)
 |lK(d:Option Nat)(x:A)(xs:List A)
 |mB(d:Nat)(x:A)
 |lM(d:Nat)(x lo hi mx:A)(es:Nat)
 |cap(d:Nat)(x:A)
 |mC(d:Nat)(x k:A)(es:Nat)(z:List D)
 |sle(d:Nat)(x:A)(lo hi:Option A)(es:Nat)
 |mD(d:Nat)(f:Nat)(x y:A)(es:Nat)
 |bad(d:Option Nat)
 |lN(d:Nat)(x:A)(n:Nat)(ag:Bool)
 |mE(d:Nat)(x:A)(o n:Nat)
 |kE(d:Option Nat)(x:A)(xs:List A)
 |nj(d:Nat)(x y:A)(es:Nat)
 |lO(d:Nat)(f:Nat)(xs:List A)
 |calls(d:Option Nat)(f:Nat)(xs:List A)
 |oa(d:Nat)(m k:A)(z:D)(ks:List CK)
inductive J where
 |op(i:I)
 |sc(cm:Bool)(d c:Nat)(body:List J)(x:A)
 |re(i:I)
inductive C where
 |skip
 |bG(js:List J)
 |jk(fl perm:List Nat)(js:List J)
 |seq(a b:C)
 |ite(c:A)(a b:C)
 |bL(id:Nat)(c:C)
 |loop(live:List Nat)(c:C)
 |exit(id:Nat)
 |ret
 |kG(ds:List Nat)
 |keep(ds:List Nat)
 |r8(x:A)(live:List Nat)(ps:List Nat)(a b:C)
 |r9(d k:Nat)
 |sj(live:List Nat)(d d2 it:Nat)(c:C)
inductive RV where
 |t(n:Nat)
 |c(n cells:Nat)(ag:Bool)
inductive Ex where
 |normal
 |exit(id:Nat)
 |ret
 deriving DecidableEq
inductive O where
 |an(es:Nat)(ex:Bool)(rows:List (List D))
 |cS(es:Nat)(rows:List (List V))
 |mp(kv:List (D×V))(ck:Nat)(bs:List Nat)
 |lp(ps:List Nat)(a b:C)(e:Ex)(env:List (Nat×V))
 |it(m since:Nat)(seen:List Nat)
 |dead
 deriving Inhabited
structure St where
 env:List (Nat×V)
 heap:List O
 ok:Bool
inductive qK where
 |call(f:Nat)(xs:List V)(h:List O)
 |loop(m:Nat)(live:List Nat)(c:C)(env:List (Nat×V))(h:List O)
 |round(ps:List Nat)(a b:C)(xs:List V)(env:List (Nat×V))(h:List O)
 |lP(m:Nat)(live:List Nat)(d d2 it:Nat)(c:C)(env:List (Nat×V))(h:List O)
inductive dA where
 |val(v:V)(h:List O)
 |out(e:Ex)(env:List (Nat×V))(h:List O)
structure F where
 code:C
 res:List RV
 keep:Bool:=false
 sk:Option (List V->List O->Option (V×List O)):=none
def aK:List (Nat×V)->Nat->V
 | [],_=>.u
 |(k,v)::r,n=>if k=n then v else aK r n
def St.get(s:St):A->V
 | .t n=>aK s.env n
 | .k x=>.d x
def St.put(s:St)(d:Nat)(v:V):St:=⟨(d,v)::s.env,s.heap,s.ok⟩
def St.fail(s:St):St:=⟨s.env,s.heap,false⟩
def St.cr(s:St)(d:Nat):Option V->St
 |some v=>s.put d v
 |none=>s.fail
def St.ct(s:St)(d:Nat):Option (V×List O)->St
 |some (v,h)=>⟨(d,v)::s.env,h,s.ok⟩
 |none=>s.fail
def St.gC(s:St)(d:Option Nat):Option (V×List O)->St
 |some (v,h)=>match d with
  |some d=>⟨(d,v)::s.env,h,s.ok⟩
  |none=>⟨s.env,h,s.ok⟩
 |none=>s.fail
def St.jl(s:St):Option (List O)->St
 |some h=>⟨s.env,h,s.ok⟩
 |none=>s.fail
def af(h:List O)(n:Nat):O:=h.getD n .dead
def O.row(o:O)(r:Nat):Option (List V):=
 match o with
 | .an _ _ rows=>(rows[r]?).map λcs=>cs.map .d
 | .cS _ rows=>rows[r]?
 |_=>none
def dY:List V->Option (List D)
 | []=>some []
 | .d x::r=>(dY r).map (x::·)
 |_::_=>none
def V.cells:V->List V
 | .d (.ag cs)=>cs.map .d
 | .ag cs=>cs
 |v=>[v]
def V.known:V->Bool
 | .u | .fB | .tu _ | .d .tY=>false
 |_=>true
def tZ(cs:List V):V :=
 match dY cs with
 |some ds=>.d (.ag ds)
 |none=>.ag cs
def mkRef(cs:List V):V :=
 match dY cs with
 |some ds=>.d (.ref ds)
 |none=>.rf cs
def D.cells:D->List D
 | .ag cs=>cs
 |x=>[x]
mutual
def b9(h:List O):V->Option D
 | .d x=>some x
 | .dS es=>some (.sl es false [])
 | .aJ n off len =>
  match af h n with
  | .an es _ rows=>if off+len<=rows.length then some (.sl es false ((rows.drop off).take len))else none
  |_=>none
 | .loc n r c =>
  match af h n with
  | .an _ _ rows=>(rows[r]?).bind λrow=>if c<=row.length then some (.ref (row.drop c))else none
  |_=>none
 | .ag cs=>(dr h cs).map .ag
 | .rf cs=>(dr h cs).map .ref
 | .fn f a b=>(dr h a).bind λx=>(dr h b).map λy=>.fn f x y
 |_=>none
def dr(h:List O):List V->Option (List D)
 | []=>some []
 |v::r=>(b9 h v).bind λx=>(dr h r).map (x::·)
end
mutual
def V.ak:V->List Nat
 | .loc n _ _=>[n]
 | .aJ n _ _=>[n]
 | .dX n _ _=>[n]
 | .mp n=>[n]
 | .fC n=>[n]
 | .fn _ a b=>V.bW a++V.bW b
 | .ag cs=>V.bW cs
 | .rf cs=>V.bW cs
 | .tu vs=>V.bW vs
 |_=>[]
def V.bW:List V->List Nat
 | []=>[]
 |v::r=>v.ak++V.bW r
end
def bS(h:List O)(n:Nat):List O :=
 match af h n with
 | .an es _ rows=>h.set n (.an es false rows)
 |_=>h
def bO(h:List O):List Nat->List O
 | []=>h
 |n::r=>bO (bS h n) r
def gk(h:List O)(v:V):Option (D×List O):=(b9 h v).map λx=>(x,bO h v.ak)
mutual
def V.av(g:Nat->Nat):V->V
 | .loc n r c=>.loc (g n) r c
 | .aJ n o l=>.aJ (g n) o l
 | .dX n o l=>.dX (g n) o l
 | .mp n=>.mp (g n)
 | .fC n=>.fC (g n)
 | .fn f a b=>.fn f (V.cu g a) (V.cu g b)
 | .ag cs=>.ag (V.cu g cs)
 | .rf cs=>.rf (V.cu g cs)
 | .tu vs=>.tu (V.cu g vs)
 |v=>v
def V.cu(g:Nat->Nat):List V->List V
 | []=>[]
 |v::r=>v.av g::V.cu g r
end
def eE(g:Nat->Nat)(env:List (Nat×V)):List (Nat×V):=env.map λp=>(p.1,p.2.av g)
def bC:List (Nat×V)->List Nat
 | []=>[]
 |p::r=>p.2.ak++bC r
def O.av(g:Nat->Nat):O->O
 | .cS es rows=>.cS es (rows.map (V.cu g))
 | .mp kv ck bs=>.mp (kv.map λp=>(p.1,p.2.av g)) ck bs
 | .it m c l=>.it (g m) c l
 | .lp ps a b e env=>.lp ps a b e (eE g env)
 |o=>o
def O.ak:O->List Nat
 | .cS _ rows=>rows.flatMap V.bW
 | .mp kv _ _=>kv.flatMap λp=>p.2.ak
 | .it m _ _=>[m]
 | .lp _ _ _ _ env=>bC env
 |_=>[]
def reach(h:List O):Nat->List Nat->List Nat->List Nat
 | 0,_,acc=>acc
 |_+1,[],acc=>acc
 |f+1,n::t,acc=>if n∈acc then reach h f t acc else reach h f (t++(af h n).ak) (acc++[n])
def sub(h:List O)(L:List Nat):List O:=L.map λn=>(af h n).av (L.idxOf ·)
def cut(h:List O)(m:Nat)(roots:List Nat):Option (List Nat):=
 let L:=List.range m++(reach h 1000 (List.range m++roots) []).filter (m<=·)
 if L.Nodup/\roots.all (·∈L)/\L.all (λn=>n<h.length/\(af h n).ak.all (·∈L))then some L else none
def cO(live:List Nat)(env:List (Nat×V)):List (Nat×V):=live.map λn=>(n,aK env n)
def canon(m:Nat)(live:List Nat)(env:List (Nat×V))(h:List O):Option (List (Nat×V)×List O):=
 match h with
 | []=>some (cO live env,[])
 |_=>(cut h m (bC (cO live env))).map λL=>((cO live env).map λp=>(p.1,p.2.av (L.idxOf ·)),sub h L)
def V.wk:V->V
 | .dX n off len=>.aJ n off len
 |v=>v
def arith(op:BinOp)(k:IntKind)(x y:Int):Option V :=
 match op with
 | .add=>some (.d (.i k (k.wrap (x+y))))
 | .sub=>some (.d (.i k (k.wrap (x - y))))
 | .mul=>some (.d (.i k (k.wrap (x*y))))
 | .quo=>if y=0 then none else some (.d (.i k (k.wrap (x.tdiv y))))
 | .rem=>if y=0 then none else some (.d (.i k (x.tmod y)))
 | .eql=>some (.d (.b (x==y)))
 | .neq=>some (.d (.b (x != y)))
 | .lss=>some (.d (.b (decide (x<y))))
 | .leq=>some (.d (.b (decide (x<=y))))
 | .gtr=>some (.d (.b (decide (y<x))))
 | .geq=>some (.d (.b (decide (y<=x))))
 |_=>none
def uc(op:BinOp):V->V->Option V
 | .d (.i k x),.d (.i k' y) =>
  match op with
  | .shl=>if 0<=y then some (.d (.i k (k.wrap (x*2 ^ (min y.toNat k.bits)))))else none
  | .shr=>if 0<=y then some (.d (.i k (x.fdiv (2 ^ (min y.toNat k.bits)))))else none
  |_=>if k=k' then arith op k x y else none
 | .d (.s x),.d (.s y) =>
  match op with
  | .eql=>some (.d (.b (x==y)))
  | .neq=>some (.d (.b (!(x==y))))
  | .lss=>some (.d (.b (Op.bytesLess x y)))
  |_=>none
 |_,_=>none
def nk:CK->D->D->Option Bool
 | .i,.i k x,.i k' y=>if k=k' then some (x==y)else none
 | .b,.b x,.b y=>some (x==y)
 | .s,.s x,.s y=>some (x==y)
 |_,_,_=>none
def fV:List CK->List D->List D->Option Bool
 | [],[],[]=>some true
 |k::ks,x::xs,y::ys=>(nk k x y).bind λp=>(fV ks xs ys).map λq=>p&&q
 |_,_,_=>none
def N8(ks:List CK)(neg:Bool):V->V->Option V
 | .d (.ag x),.d (.ag y)=>(fV ks x y).map λp=>.d (.b (p != neg))
 |_,_=>none
def N9(neg:Bool):V->V->Option V
 | .d (.b x),.d (.b y)=>some (.d (.b ((x==y) != neg)))
 |_,_=>none
def nq(h:List O)(n:Nat):Bool:=match af h n with | .an .. | .cS ..=>true |_=>false
def isNil(h:List O):NK->V->Option Bool
 | .sl,.d (.sl _ nl _)=>some nl
 | .sl,.aJ n _ _=>if nq h n then some false else none
 | .sl,.dS _=>some false
 | .mp,.d .n8=>some true
 | .mp,.mp n=>match af h n with | .mp ..=>some false |_=>none
 | .fn,.d .vQ=>some true
 | .fn,.d (.fn ..)=>some false
 | .fn,.fn ..=>some false
 | .pt,.d .nil=>some true
 | .pt,.d (.ref _)=>some false
 | .pt,.rf _=>some false
 | .pt,.loc n _ _=>if nq h n then some false else none
 | .mo,.d .AZ=>some true
 | .mo,.d (.mo ..)=>some false
 |_,_=>none
def A0(op:UnOp):V->Option V
 | .d (.b x)=>match op with | .not=>some (.d (.b (!x))) |_=>none
 | .d (.i k x)=>match op with | .neg=>some (.d (.i k (k.wrap (0 - x)))) |_=>none
 |_=>none
def Oa(k:IntKind):V->Option V
 | .d (.i _ x)=>some (.d (.i k (k.wrap x)))
 |_=>none
def iT(h:List O):LK->V->Option V
 | .sl,.d (.sl _ _ xs)=>some (.d (.i .i64 xs.length))
 | .sl,.aJ n _ len=>if nq h n then some (.d (.i .i64 len))else none
 | .sl,.dS _=>some (.d (.i .i64 0))
 | .s,.d (.s x)=>some (.d (.i .i64 x.length))
 | .mp,.d .n8=>some (.d (.i .i64 0))
 | .mp,.mp n=>match af h n with | .mp kv _ _=>some (.d (.i .i64 kv.length)) |_=>none
 |_,_=>none
def asInt:V->Option Int
 | .d (.i _ n)=>some n
 |_=>none
def fD(es:Nat)(x i:V)(h:List O):Option V :=
 match x,i with
 | .d (.sl e _ xs),.d (.i _ j)=>if 0<=j/\e=es then(xs[j.toNat]?).map λrow=>.d (.ref row)else none
 | .aJ n off len,.d (.i _ j) =>
  match af h n with
  | .an e _ _ | .cS e _=>if 0<=j/\j<len/\e=es then some (.loc n (off+j.toNat) 0)else none
  |_=>none
 |_,_=>none
def Ob(h:List O)(len es:Nat)(x i:V):Option V :=
 match x,i with
 | .d (.ref cs),.d (.i _ j)=>if 0<=j/\j<len/\len*es<=cs.length then some (.d (.ref (cs.drop (j.toNat*es))))else none
 | .loc n r c,.d (.i _ j)=>if 0<=j/\j<len/\nq h n=true then some (.loc n r (c+j.toNat*es))else none
 |_,_=>none
def fa(h:List O)(o n:Nat):V->Option V
 | .d (.ref cs)=>if o+n<=cs.length then some (.d (.ref (cs.drop o)))else none
 | .rf cs=>if o+n<=cs.length then some (.rf (cs.drop o))else none
 | .loc m r c=>if nq h m then some (.loc m r (c+o))else none
 |_=>none
def pack(n:Nat)(ag:Bool)(cs:List V):Option V :=
 if ag then(if n<=cs.length then some (tZ (cs.take n))else none)else cs.head?
def ud(n:Nat)(ag:Bool)(cs:List D):Option V :=
 if ag then(if n<=cs.length then some (.d (.ag (cs.take n)))else none)else cs.head?.map .d
def qL(h:List O)(n:Nat)(ag:Bool):V->Option V
 | .d (.ref cs)=>ud n ag cs
 | .rf cs=>pack n ag cs
 | .loc m r c =>
  match af h m with
  | .an _ _ rows=>(rows[r]?).bind λrow=>ud n ag (row.drop c)
  | .cS _ rows=>(rows[r]?).bind λrow=>pack n ag (row.drop c)
  |_=>none
 |_=>none
def A1(n:Nat)(ag:Bool):V->Option V
 | .d (.ref cs)=>ud n ag cs
 | .rf cs=>pack n ag cs
 |_=>none
def A3(o n:Nat):V->Option V
 | .d (.ref cs)=>if o+n<=cs.length then some (.d (.ref (cs.drop o)))else none
 | .rf cs=>if o+n<=cs.length then some (.rf (cs.drop o))else none
 |_=>none
def aS{α:Type}(cs:List α)(o:Nat)(new:List α):List α:=cs.take o++new++cs.drop (o+new.length)
def pg(h:List O)(n:Nat)(p v:V):Option (List O):=
 match p with
 | .loc m r c =>
  match af h m with
  | .an es true rows =>
   match rows[r]? with
   |some row =>
    if c+n<=row.length/\v.cells.length=n/\v.known=true then
     match dY v.cells with
     |some ds=>some (h.set m (.an es true (rows.set r (aS row c ds))))
     |none=>some (h.set m (.cS es ((rows.map λx=>x.map V.d).set r (aS (row.map V.d) c v.cells))))
    else none
   |none=>none
  | .cS es rows =>
   match rows[r]? with
   |some row=>if c+n<=row.length/\v.cells.length=n/\v.known=true then some (h.set m (.cS es (rows.set r (aS row c v.cells))))else none
   |none=>none
  |_=>none
 |_=>none
def kI(h:List O)(es:Nat):V->Option (List (List D))
 | .d (.sl e _ xs)=>if e=es then some xs else none
 | .dS _=>some []
 | .aJ n off len =>
  match af h n with
  | .an e _ rows=>if e=es/\off+len<=rows.length then some ((rows.drop off).take len)else none
  |_=>none
 | .dX n off len =>
  match af h n with
  | .an e _ rows=>if e=es/\off+len<=rows.length then some ((rows.drop off).take len)else none
  |_=>none
 |_=>none
def room:Nat:=4294967296
def fW(h:List O)(es:Nat)(x y:V):Option (V×List O):=
 match kI h es y with
 |none=>none
 |some ys =>
  match x with
  | .d (.sl e nl _) =>
   if e=es then
    if ys.length=0 then some (x,h)
    else if nl/\ys.length<=room then some (.aJ h.length 0 ys.length,h++[.an es true ys])else none
   else none
  | .dS _=>if ys.length=0 then some (.dS es,h)else if ys.length<=room then some (.aJ h.length 0 ys.length,h++[.an es true ys])else none
  | .aJ n off len =>
   match af h n with
   | .an e ex rows =>
    if e=es/\off+len<=rows.length then
     if ys.length=0 then some (x,h)
     else if off+len+ys.length<=rows.length then
      if ex then some (.aJ n off (len+ys.length),h.set n (.an es ex (aS rows (off+len) ys)))else none
     else if(ex\/off+len=rows.length)/\len+ys.length<=room then
      some (.aJ h.length 0 (len+ys.length),h.set n .dead++[.an es ex ((rows.drop off).take len++ys)])
     else none
    else none
   |_=>none
  | .dX n off len =>
   match af h n with
   | .an e ex rows =>
    if e=es/\off+len<=rows.length then
     if ys.length=0 then some (x,h)
     else if off+len+ys.length<=rows.length then
      if ex then some (.dX n off (len+ys.length),h.set n (.an es ex (aS rows (off+len) ys)))else none
     else if len+ys.length<=room then some (.aJ h.length 0 (len+ys.length),h++[.an es true ((rows.drop off).take len++ys)])else none
    else none
   |_=>none
  |_=>none
def Oc(h:List O)(es:Nat)(x y:V):Option V :=
 match kI h es y with
 |none=>none
 |some ys =>
  match x with
  | .d (.sl e nl [])=>if e=es/\nl=true/\ys.length<=room then some (.d (.sl es (decide (ys.length=0)) ys))else none
  | .dS _=>if ys.length<=room then some (.d (.sl es false ys))else none
  |_=>none
def A4(h:List O)(es:Nat)(z:List D)(x:V)(k:Option Int):Option (V×List O):=
 match k with
 |none=>none
 |some k =>
  if 0<k/\z.length=es then
   match x with
   | .d (.sl e nl _)=>if e=es/\nl=true/\k.toNat<=room then some (.aJ h.length 0 k.toNat,h++[.an es true (List.replicate k.toNat z)])else none
   | .dS e=>if e=es/\k.toNat<=room then some (.aJ h.length 0 k.toNat,h++[.an es true (List.replicate k.toNat z)])else none
   | .dX n off len =>
    match af h n with
    | .an e _ rows =>
     if e=es/\off+len<=rows.length/\rows.length<off+len+k.toNat/\len+k.toNat<=room then
      some (.aJ h.length 0 (len+k.toNat),h++[.an es true ((rows.drop off).take len++List.replicate k.toNat z)])else none
    |_=>none
   |_=>none
  else none
def Od(h:List O)(es:Nat)(z:List D)(n k:Option Int):Option (V×List O):=
 match n,k with
 |some n,some k=>if 0<=n/\n<=k/\k.toNat*es<=16777216/\z.length=es then some (.aJ h.length 0 n.toNat,h++[.an es true (List.replicate n.toNat z)])else none
 |_,_=>none
def A5(h:List O):V->Option V
 | .d (.sl _ true _)=>some (.d (.i .i64 0))
 | .dS _=>some (.d (.i .i64 0))
 | .dX n off _=>match af h n with | .an _ _ rows=>if off<=rows.length then some (.d (.i .i64 (rows.length - off:Nat)))else none |_=>none
 |_=>none
def A6(h:List O)(es:Nat)(x y:V):Option V :=
 match x,y.wk with
 | .d (.sl e _ _),.aJ n _ _=>match af h n with | .an _ true _=>if e=es then some (.d (.b false))else none |_=>none
 |_,_=>none
def nr(s:St)(dflt:Int):Option A->Option Int
 |none=>some dflt
 |some a=>asInt (s.get a)
def A7(h:List O)(es:Nat)(x:V)(lo hi:Option Int):Option V :=
 match lo,hi with
 |some lo,some hi =>
  match x with
  | .d (.sl e nl xs)=>if e=es/\0<=lo/\lo<=hi/\hi<=xs.length then some (.d (.sl es nl ((xs.take hi.toNat).drop lo.toNat)))else none
  | .aJ n off _ =>
   match af h n with
   | .an e _ rows=>if e=es/\0<=lo/\lo<=hi/\off+hi<=rows.length then(if lo=0\/lo<hi then some (.aJ n (off+lo.toNat) (hi - lo).toNat)else some (.d (.sl es false [])))else none
   |_=>none
  | .dX n off _ =>
   match af h n with
   | .an e _ rows=>if e=es/\0<=lo/\lo<=hi/\off+hi<=rows.length then(if lo=0\/lo<hi then some (.dX n (off+lo.toNat) (hi - lo).toNat)else some (.d (.sl es false [])))else none
   |_=>none
  | .dS e=>if e=es/\lo=0/\hi=0 then some (.dS es)else none
  |_=>none
 |_,_=>none
def pz(h:List O)(es:Nat)(x:V)(lo hi:Option Int):Option (V×List O):=
 match lo,hi with
 |some lo,some hi =>
  match x with
  | .aJ n off _ =>
   match af h n with
   | .an e ex rows =>
    if e=es/\0<=lo/\lo<=hi/\off+hi<=rows.length then
     if lo=0\/lo<hi then some (.aJ n (off+lo.toNat) (hi - lo).toNat,h)
     else if ex=true then some (.aJ h.length 0 0,h.set n .dead++[.an es ex []])else none
    else none
   |_=>none
  |_=>none
 |_,_=>none
def A8(h:List O)(es:Nat)(x:V)(lo hi mx:Option Int):Option V :=
 match lo,hi,mx with
 |some lo,some hi,some mx =>
  match x with
  | .d (.sl e _ xs)=>if e=es/\0<=lo/\lo<=hi/\hi<=mx/\mx<=xs.length then some .u else none
  | .aJ n _ len=>if nq h n=true/\0<=lo/\lo<=hi/\hi<=mx/\mx<=len then some .u else none
  | .dS e=>if e=es/\lo=0/\hi=0/\mx=0 then some .u else none
  |_=>none
 |_,_,_=>none
def Oe(o n:Nat)(ag:Bool):V->Option V
 | .d (.ag cs)=>pack n ag ((cs.map V.d).drop o)
 | .ag cs=>pack n ag (cs.drop o)
 |_=>none
def Of:V->V->Option V
 | .d (.i k x),.d (.i k' y)=>if k=k' then some (.d (.i k (if y<x then y else x)))else none
 |_,_=>none
def Og:V->V->Option V
 | .d (.i k x),.d (.i k' y)=>if k=k' then some (.d (.i k (if y > x then y else x)))else none
 |_,_=>none
def Oh(t:Nat):V->Option V
 | .d v=>some (.d (.mo t v))
 |_=>none
def Oi{R:Type}(k:Nat->List V->Option R)(Oj:List (Nat×Nat×Nat))(x:V)(xs:List V):Option R :=
 match x with
 | .d (.mo t (.ag ds)) =>
  match Oj.find? (λe=>e.1==t)with
  |some e=>if ds.length=e.2.1 then k e.2.2 (.d (.ag ds)::xs)else none
  |none=>none
 |_=>none
def Ok(h:List O)(es:Nat):V->Option V
 | .d (.sl e nl _)=>if e=es then some (if nl then .d (.sl es true [])else .dS es)else none
 | .aJ n _ _=>if nq h n then some (.dS es)else none
 | .dS _=>some (.dS es)
 |_=>none
def mF(x:V):Int :=
 match x with
 | .d (.sl _ _ xs)=>xs.length
 | .aJ _ _ len=>len
 | .dX _ _ len=>len
 | .d (.s x)=>x.length
 |_=>0
def A9(h:List O)(es:Nat)(z:List D):V->Option (List O)
 | .d (.sl _ _ [])=>some h
 | .aJ n off len =>
  match af h n with
  | .an e ex rows =>
   if e=es/\z.length=es/\off+len<=rows.length then
    if len=0 then some h else if ex then some (h.set n (.an es ex (aS rows off (List.replicate len z))))else none
   else none
  |_=>none
 |_=>none
def copyV(h:List O)(es:Nat)(x y:V):Option (V×List O):=
 match kI h es y with
 |none=>none
 |some ys =>
  match x.wk with
  | .aJ n off len =>
   match af h n with
   | .an e true rows =>
    if e=es/\off+len<=rows.length then
     some (.d (.i .i64 (min ys.length len:Nat)),h.set n (.an es true (aS rows off (ys.take len))))else none
   |_=>none
  | .d (.sl _ _ [])=>some (.d (.i .i64 0),h)
  |_=>none
def ue(i:Nat):V->Option V
 | .tu vs=>vs[i]?
 |_=>none
def fill(cs:List V):List (Nat×Nat×V)->Option (List V)
 | []=>some cs
 |(o,n,v)::r=>if v.cells.length=n/\o+n<=cs.length/\v.known=true then fill (aS cs o v.cells) r else none
def pE(rows:List (List V))(es:Nat):List (Nat×V)->Option (List (List V))
 | []=>some rows
 |(i,v)::r=>if v.cells.length=es/\i<rows.length/\v.known=true then pE (rows.set i v.cells) es r else none
def dM:List (List V)->Option (List (List D))
 | []=>some []
 |r::rs=>(dY r).bind λx=>(dM rs).map (x::·)
def cK(es:Nat)(rows:List (List V)):O :=
 match dM rows with
 |some ds=>.an es true ds
 |none=>.cS es rows
def mG:List CK->D->Option (List D)
 | [_],.ag _=>none
 | [_],x=>some [x]
 |_,.ag cs=>some cs
 |_,_=>none
def gD(ks:List CK)(k p:D):Option Bool:=(mG ks k).bind λa=>(mG ks p).bind λb=>fV ks a b
def dD(ks:List CK)(k:D)(p:D×V):Bool:=(gD ks k p.1).getD false
def nu(ks:List CK)(k:D)(kv:List (D×V)):Bool:=(gD ks k k).isSome&&kv.all λp=>(gD ks k p.1).isSome
def vR(ks:List CK)(k:D):List (D×V)->Option V
 | []=>none
 |p::r=>if dD ks k p then some p.2 else vR ks k r
def vS(ks:List CK)(k:D)(v:V):List (D×V)->List (D×V)
 | []=>[(k,v)]
 |p::r=>if dD ks k p then(k,v)::r else p::vS ks k v r
def iC(ks:List CK)(k:D):List (D×V)->List (D×V)
 | []=>[]
 |p::r=>if dD ks k p then r else p::iC ks k r
def pF(ks:List CK)(k:D)(z:D)(ok:Bool)(kv:List (D×V)):Option V :=
 if nu ks k kv then
  match vR ks k kv with
  |some v=>some (if ok then .tu [v,.d (.b true)]else v)
  |none=>some (if ok then .tu [.d z,.d (.b false)]else .d z)
 else none
def eS(ks:List CK)(h:List O)(m k:V)(z:D)(ok:Bool):Option V :=
 match k with
 | .d k =>
  match m with
  | .mp n=>match af h n with | .mp kv _ _=>pF ks k z ok kv |_=>none
  | .d .n8=>pF ks k z ok []
  |_=>none
 |_=>none
def vT(ks:List CK)(k:D):List (D×V)->List Nat->List Nat
 |p::r,b::bs=>if dD ks k p then bs else b::vT ks k r bs
 |_,bs=>bs
def yh(ks:List CK)(k:D)(v:V)(kv:List (D×V))(ck:Nat)(bs:List Nat):O :=
 if(vR ks k kv).isSome then .mp (vS ks k v kv) ck bs else .mp (vS ks k v kv) (ck+1) (bs++[ck])
def pG(ks:List CK)(h:List O)(m k:V)(z:D):Option (V×List O):=
 match m,k with
 | .mp n,.d k=>match af h n with
  | .mp kv ck bs =>
   if nu ks k kv then
    match kv.findIdx? (dD ks k)with
    |some j=>(bs[j]?).bind λb=>(kv[j]?).map λp=>(.tu [p.2,.d (.i .i64 b)],h.set n (.mp (kv.set j (k,p.2)) ck bs))
    |none=>some (.tu [.d z,.d (.i .i64 ck)],h.set n (.mp (kv++[(k,.d z)]) (ck+1) (bs++[ck])))
   else none
  |_=>none
 |_,_=>none
def qM(h:List O)(m st v:V):Option (List O):=
 match m,st with
 | .mp n,.d (.i .i64 b)=>match af h n with
  | .mp kv ck bs =>
   if v.known=true then
    match bs.findIdx? (fun(x:Nat)=>((x:Nat):Int)==b)with
    |some j=>(kv[j]?).map λp=>h.set n (.mp (kv.set j (p.1,v)) ck bs)
    |none=>none
   else none
  |_=>none
 |_,_=>none
def kJ(ks:List CK)(h:List O)(m k v:V):Option (List O):=
 match m,k with
 | .mp n,.d k=>match af h n with | .mp kv ck bs=>if nu ks k kv/\v.known=true then some (h.set n (yh ks k v kv ck bs))else none |_=>none
 |_,_=>none
def pI(ks:List CK)(h:List O)(m k:V):Option (List O):=
 match m,k with
 | .mp n,.d k=>match af h n with | .mp kv ck bs=>if nu ks k kv then some (h.set n (.mp (iC ks k kv) ck (vT ks k kv bs)))else none |_=>none
 | .d .n8,.d k=>if nu ks k []then some h else none
 |_,_=>none
def vU(h:List O):V->Option (V×List O)
 | .mp n=>match af h n with | .mp _ ck _=>some (.loc h.length 0 0,h++[.it n ck []]) |_=>none
 |_=>none
def uf(h:List O):V->Option V
 | .loc n 0 0=>match af h n with
  | .it m since seen=>match af h m with
   | .mp kv ck bs=>if ck=since/\bs.Nodup then(seen.getLast?).bind λb=>(bs.findIdx? (·==b)).bind λj=>(kv[j]?).map λp=>.tu [.d p.1,p.2]else none
   |_=>none
  |_=>none
 |_=>none
def sn(h:List O):V->Option (List (Bool×List O))
 | .loc n 0 0=>match af h n with
  | .it m since seen=>match af h m with
   | .mp _ ck bs =>
    if ck=since/\bs.all (·<ck)=true then
     if bs.filter (λb=>!seen.contains b)=[]then some [(false,h)]
     else some ((bs.filter λb=>!seen.contains b).map λb=>(true,h.set n (.it m since (seen++[b]))))
    else none
   |_=>none
  |_=>none
 |_=>none
abbrev Rec:=qK->Option dA
def dU(rec:Rec)(h:List O)(f:Nat)(xs:List V):Option (V×List O):=
 match dY xs with
 |some _ =>
  match rec (.call f xs [])with
  |some (.val v h1)=>some (v.av (h.length+·),h++h1.map (O.av (h.length+·)))
  |_=>none
 |none=>none
def back(L:List Nat)(m:Nat)(i:Nat):Nat:=if i<L.length then L.getD i 0 else m+(i - L.length)
def bz(h:List O):List Nat->List O->List O
 |n::L,o::os=>bz (h.set n o) L os
 |_,_=>h
def aW(rec:Rec)(h:List O)(f:Nat)(xs:List V):Option (V×List O):=
 match cut h 0 (V.bW xs)with
 |some L =>
  match rec (.call f (V.cu (L.idxOf ·) xs) (sub h L))with
  |some (.val v h1) =>
   if L.length<=h1.length then
    some (v.av (back L h.length),bz h L (h1.map (O.av (back L h.length)))++(h1.drop L.length).map (O.av (back L h.length)))
   else none
  |_=>none
 |none=>none
def iD(rec:Rec)(f:Nat)(xs:List V):Option V :=
 match dY xs with
 |some _ =>
  match rec (.call f xs [])with
  |some (.val v [])=>some v
  |_=>none
 |none=>none
def gM{R:Type}(k:Nat->List V->Option R)(x:V)(xs:List V):Option R :=
 match x with
 | .d (.fn f first caps)=>k f (first.map V.d++xs++caps.map V.d)
 | .fn f first caps=>k f (first++xs++caps)
 |_=>none
def lQ(rec:Rec)(h:List O)(x:V)(xs:List V):Option (V×List O):=
 match x with
 | .fC n =>
  match af h n with
  | .lp ps a b .normal env =>
   if xs.length=ps.length then
    match cut (h.set n .dead) 0 (V.bW xs++bC env)with
    |some L =>
     if n∈L then none else
      match rec (.round ps a b (V.cu (L.idxOf ·) xs) (eE (L.idxOf ·) env) (sub (h.set n .dead) L))with
      |some (.out e _ h1) =>
       if L.length<=h1.length then
        some (.d (.b (e == .normal)),bz (h.set n (.lp ps a b e env)) L (h1.map (O.av (back L h.length)))++(h1.drop L.length).map (O.av (back L h.length)))
       else none
      |_=>none
    |none=>none
   else none
  |_=>none
 |_=>none
def St.iU(s:St)(d:Option Nat):Option V->St
 |some v=>match d with
  |some d=>⟨(d,v)::s.env,s.heap,s.ok⟩
  |none=>s
 |none=>s.fail
def D.plain:D->Bool
 | .b _ | .i .. | .s _=>true
 |_=>false
def D.so:D->Bool
 | .ag cs=>cs.all D.plain
 |x=>x.plain
def V.plain:V->Bool
 | .d x=>x.so
 | .tu vs=>vs.all λv=>match v with | .d x=>x.so |_=>false
 |_=>false
def lR(rec:Rec)(h:List O)(f:Nat)(xs:List V):Option V :=
 match dr h xs with
 |some ds =>
  match rec (.call f (ds.map V.d) [])with
  |some (.val v [])=>if v.plain then some v else none
  |_=>none
 |none=>none
def kK(o:Option (V×List O)):Option (V×List O):=o.bind λr=>(gk r.2 r.1).map λp=>(.d p.1,p.2)
def oc(s:St):List Nat->St
 | []=>s
 |d::r=>oc (s.ct d ((gk s.heap (s.get (.t d))).map λp=>(.d p.1,p.2))) r
def ug(h:List O)(k:Nat):V->Option (List O)
 | .loc n r c =>
  match af h n with
  | .an ..=>some h
  | .cS es rows =>
   match rows[r]? with
   |some row =>
    match row[c+k]? with
    |some v=>(b9 h v).map λx=>(bO h v.ak).set n (cK es (rows.set r (row.set (c+k) (.d x))))
    |none=>none
   |none=>none
  |_=>none
 |_=>none
def aj(rec:Rec)(i:I)(s:St):St :=
 match i with
 | .mv d x=>s.put d (s.get x)
 | .pick d c a b=>match s.get c with | .d (.b x)=>s.put d (if x then s.get a else s.get b) |_=>s.fail
 | .box d x n fz =>
  if(s.get x).cells.length=n/\(s.get x).known=true then
   if fz then s.put d (mkRef (s.get x).cells)
   else s.ct d (some (.loc s.heap.length 0 0,s.heap++[cK n [(s.get x).cells]]))
  else s.fail
 | .new d z=>s.ct d (some (.loc s.heap.length 0 0,s.heap++[.an z.length true [z]]))
 | .build d z ps=>s.cr d ((fill (z.map .d) (ps.map λp=>(p.1,p.2.1,s.get p.2.2))).map tZ)
 | .jh d es n z ps fz =>
  let rows:=pE (List.replicate n (z.map V.d)) es (ps.map λp=>(p.1,s.get p.2))
  if fz then s.cr d ((rows.bind dM).map λrows=>.d (.sl es false rows))
  else s.ct d (rows.map λrows=>(.aJ s.heap.length 0 n,s.heap++[cK es rows]))
 | .ld d x n ag=>s.cr d (qL s.heap n ag (s.get x))
 | .st x y n fz =>
  if fz then
   match x,s.get x with
   | .t d,.loc m 0 0 =>
    match af s.heap m with
    | .an _ true [z]=>if z.length=n/\(s.get y).cells.length=n/\(s.get y).known=true then
      s.ct d (some (mkRef (s.get y).cells,s.heap.set m .dead))else s.fail
    |_=>s.fail
   |_,_=>s.fail
  else s.jl (pg s.heap n (s.get x) (s.get y))
 | .fa d x o n=>s.cr d (fa s.heap o n (s.get x))
 | .fD d x i es=>s.cr d (fD es (s.get x) (s.get i) s.heap)
 | .bin d op x y=>s.cr d (uc op (s.get x) (s.get y))
 | .jZ d neg x k=>s.cr d ((isNil s.heap k (s.get x)).map λp=>.d (.b (p != neg)))
 | .un d op x=>s.cr d (A0 op (s.get x))
 | .len d x k=>s.cr d (iT s.heap k (s.get x).wk)
 | .sl d x lo hi es=>s.cr d (A7 s.heap es (s.get x) (nr s 0 lo) (nr s (mF (s.get x)) hi))
 | .app d x y es=>s.ct d (fW s.heap es (s.get x) (s.get y))
 | .lI d x es z=>s.gC d ((A9 s.heap es z (s.get x)).map λh=>(.tu [],h))
 | .copy d x y es=>s.gC d (copyV s.heap es (s.get x) (s.get y))
 | .ext d x i=>s.cr d (ue i (s.get x))
 | .iB d f a b =>
  match dY (a.map s.get),dY (b.map s.get)with
  |some x,some y=>s.put d (.d (.fn f x y))
  |_,_=>s.put d (.fn f (a.map s.get) (b.map s.get))
 | .mq d=>s.ct d (some (.mp s.heap.length,s.heap++[.mp [] 0 []]))
 | .ji m k v ks=>s.jl (kJ ks s.heap (s.get m) (s.get k) (s.get v))
 | .jj d m k z ok ks=>s.cr d (eS ks s.heap (s.get m) (s.get k) z ok)
 | .iC m k ks=>s.jl (pI ks s.heap (s.get m) (s.get k))
 | .mu d m k z ks=>s.ct d (pG ks s.heap (s.get m) (s.get k) z)
 | .lJ m st v=>s.jl (qM s.heap (s.get m) (s.get st) (s.get v))
 | .n9 d x=>s.ct d (vU s.heap (s.get x))
 | .ni d x=>s.cr d (uf s.heap (s.get x))
 | .call d f xs=>s.iU d (iD rec f (xs.map s.get))
 | .jJ d f xs=>s.gC d (dU rec s.heap f (xs.map s.get))
 | .iS d f xs=>s.gC d (aW rec s.heap f (xs.map s.get))
 | .j0 d x xs=>s.iU d (gM (iD rec) (s.get x) (xs.map s.get))
 | .lK d x xs=>s.gC d (gM (aW rec s.heap) (s.get x) (xs.map s.get))
 | .mB d x =>
  match s.get x with
  | .d (.ref cs)=>s.put d (.d (.ref cs))
  | .rf cs=>s.put d (.rf cs)
  | .loc n r c=>s.put d (.loc n r c)
  | .d (.mo t v)=>s.put d (.d (.mo t v))
  |_=>s.fail
 | .lM d x lo hi mx es=>s.cr d (A8 s.heap es (s.get x) (asInt (s.get lo)) (asInt (s.get hi)) (asInt (s.get mx)))
 | .cap d x=>s.cr d (A5 s.heap (s.get x))
 | .sle d x lo hi es=>s.ct d (pz s.heap es (s.get x) (nr s 0 lo) (nr s (mF (s.get x)) hi))
 | .mC d x k es z=>s.ct d (A4 s.heap es z (s.get x) (asInt (s.get k)))
 | .mD d _ x y es=>s.cr d (A6 s.heap es (s.get x) (s.get y))
 | .bad _=>s.fail
 | .lN d x n ag=>s.cr d (A1 n ag (s.get x))
 | .mE d x o n=>s.cr d (A3 o n (s.get x))
 | .kE d x xs=>s.gC d (lQ rec s.heap (s.get x) (xs.map s.get))
 | .oa d m k z ks=>s.ct d (kK ((eS ks s.heap (s.get m) (s.get k) z false).map λv=>(v,s.heap)))
 | .nj d x y es=>s.ct d (kK (fW s.heap es (s.get x) (s.get y)))
 | .lO d f xs=>s.ct d (kK (aW rec s.heap f (xs.map s.get)))
 | .calls d f xs=>s.iU d (lR rec s.heap f (xs.map s.get))
def I.dst:I->Option Nat
 | .mv d _ | .pick d .. | .box d .. | .new d _ | .build d .. | .jh d .. | .ld d .. | .fa d .. | .fD d .. | .bin d .. | .jZ d .. | .un d ..
 | .len d .. | .sl d .. | .sle d .. | .app d .. | .ext d .. | .iB d .. | .mq d | .mu d .. | .n9 d .. | .ni d .. | .jj d .. | .mB d .. | .lM d .. | .cap d .. | .mC d .. | .mD d .. | .lN d .. | .mE d .. | .oa d .. | .nj d .. | .lO d ..=>some d
 | .lI d .. | .copy d .. | .call d .. | .jJ d .. | .iS d .. | .j0 d .. | .lK d .. | .bad d | .kE d .. | .calls d ..=>d
 | .st .. | .ji .. | .iC .. | .lJ ..=>none
def I.wr:I->Option Nat
 | .st (.t d) _ _ true=>some d
 |i=>i.dst
mutual
def J.kL:J->List Nat
 | .op i=>i.wr.toList
 | .sc _ d _ body _=>d::J.fX body
 | .re _=>[]
def J.fX:List J->List Nat
 | []=>[]
 |j::r=>j.kL++J.fX r
end
def jK(ds:List Nat)(e:List (Nat×V)):List (Nat×V):=
 match ds with
 | []=>e
 |d::r=>(d,V.u)::jK r e
open Classical in
noncomputable def V.same (a b:V):Bool:=decide (a=b)
theorem V.cC(a:V):V.same a a=true:=by simp[V.same]
theorem V.nx{a b:V}(h:V.same a b=true):a=b:=by simpa[V.same]using h
noncomputable def again (d:Option Nat)(s s':St):St :=
 match d with
 |some d=>if s'.ok&&V.same (aK s'.env d) (aK s.env d)then s else s.fail
 |none=>s.fail
mutual
noncomputable def eJ (rec:Rec):J->St->St
 | .op i,s=>aj rec i s
 | .sc cm d c body x,s =>
  match s.get (.t c)with
  | .d (.b g) =>
   if g=cm then⟨(d,.d (.b cm))::jK (J.fX body) s.env,s.heap,s.ok⟩
   else
    match(cL rec body s).get x with
    | .d (.b y)=>⟨(d,.d (.b y))::jK (J.fX body) s.env,(cL rec body s).heap,(cL rec body s).ok⟩
    |_=>s.fail
  |_=>s.fail
 | .re i,s=>again i.dst s (aj rec i s)
noncomputable def cL (rec:Rec):List J->St->St
 | [],s=>s
 |j::r,s=>cL rec r (eJ rec j s)
end
open Classical in
noncomputable def sq {R:Type}:List (Option R)->Option R
 | []=>none
 | [x]=>x
 |x::y::r=>if x=sq (y::r)then x else none
noncomputable def aO (rec:Rec)(m:Nat):C->St->Ex×St
 | .skip,s=>(.normal,s)
 | .bG js,s=>(.normal,cL rec js s)
 | .jk fl _ js,s=>(.normal,cL rec js ⟨jK fl s.env,s.heap,s.ok⟩)
 | .seq a b,s =>
  match aO rec m a s with
  |(.normal,s')=>aO rec m b s'
  |r=>r
 | .ite c a b,s =>
  match s.get c with
  | .d (.b x)=>if x then aO rec m a s else aO rec m b s
  |_=>(.normal,s.fail)
 | .bL id c,s =>
  match aO rec m c s with
  |(.exit j,s')=>if j=id then(.normal,s')else(.exit j,s')
  |r=>r
 | .loop live c,s =>
  match canon m live s.env s.heap with
  |some p =>
   match rec (.loop m live c p.1 p.2)with
   |some (.out e env h)=>(e,⟨env,h,s.ok⟩)
   |_=>(.normal,s.fail)
  |none=>(.normal,s.fail)
 | .r8 x live ps a b,s =>
  match gM (aW rec (s.heap++[.lp ps a b .normal (cO live s.env)])) (s.get x) [.fC s.heap.length]with
  |some (_,h) =>
   match af h s.heap.length with
   | .lp _ _ _ e _=>(e,⟨s.env,h.set s.heap.length .dead,s.ok⟩)
   |_=>(.normal,s.fail)
  |none=>(.normal,s.fail)
 | .r9 d k,s =>
  match ug s.heap k (s.get (.t d))with
  |some h=>(.normal,⟨s.env,h,s.ok⟩)
  |none=>(.normal,s.fail)
 | .sj live d d2 it c,s =>
  match canon m live s.env s.heap with
  |some p =>
   match rec (.lP m live d d2 it c p.1 p.2)with
   |some (.out e env h)=>(e,⟨env,h,s.ok⟩)
   |_=>(.normal,s.fail)
  |none=>(.normal,s.fail)
 | .exit id,s=>(.exit id,s)
 | .ret,s=>(.ret,s)
 | .kG ds,s=>(.normal,oc s ds)
 | .keep ds,s =>
  match canon m ds s.env s.heap with
  |some p=>(.normal,⟨p.1,p.2,s.ok⟩)
  |none=>(.normal,s.fail)
def tuple:List V->V
 | [v]=>v
 |vs=>.tu vs
def yj(s:St):RV->Option V
 | .t n=>some (s.get (.t n))
 | .c n k ag=>qL s.heap k ag (s.get (.t n))
def qN(s:St):List RV->Option (List V)
 | []=>some []
 |r::rs=>(yj s r).bind λv=>(qN s rs).map (v::·)
def finish(res:List RV)(keep:Bool)(m:Nat)(s:St):Option dA :=
 if s.ok then
  ((
   qN s res).map (·.map V.wk)).bind λvs =>
   if m=0/\keep=false then(dr s.heap vs).map λds=>.val (tuple (ds.map V.d)) []
   else(cut s.heap m (V.bW vs)).map λL=>.val (tuple (V.cu (L.idxOf ·) vs)) (sub s.heap L)
 else none
def jm:Nat->List V->List (Nat×V)
 |_,[]=>[]
 |n,v::r=>(n,v)::jm (n+1) r
abbrev Prog:=Nat->Option F
noncomputable def og (rec:Rec)(m:Nat)(live:List Nat)(d d2 it:Nat)(c:C)(env:List (Nat×V))(p:Bool×List O):Option dA :=
 match aO rec m c ⟨(d2,.d (.b p.1))::(d,.u)::env,p.2,true⟩with
 |(.normal,s)=>if s.ok then(canon m live s.env s.heap).bind λp=>rec (.lP m live d d2 it c p.1 p.2)else none
 |(e,s)=>if s.ok then some (.out e s.env s.heap)else none
noncomputable def fY (P:Prog)(rec:Rec):qK->Option dA
 | .call f xs h =>
  match P f with
  |some fn =>
   match fn.sk with
   |some p=>(p xs h).map λr=>.val r.1 r.2
   |none =>
   match aO rec h.length fn.code ⟨jm 0 xs,h,true⟩with
   |(.normal,s) |(.ret,s)=>finish fn.res fn.keep h.length s
   |_=>none
  |none=>none
 | .loop m live c env h =>
  match aO rec m c ⟨env,h,true⟩with
  |(.normal,s)=>if s.ok then(canon m live s.env s.heap).bind λp=>rec (.loop m live c p.1 p.2)else none
  |(e,s)=>if s.ok then some (.out e s.env s.heap)else none
 | .lP m live d d2 it c env h=>(sn h (aK env it)).bind λL=>sq (L.map (og rec m live d d2 it c env))
 | .round ps a b xs env h =>
  match aO rec h.length a ⟨ps.zip xs++env,h,true⟩with
  |(.normal,s) =>
   match aO rec h.length b s with
   |(e,s')=>if s'.ok then(cut s'.heap h.length []).map λL=>.out e [] (sub s'.heap L)else none
  |_=>none
noncomputable def iter (P:Prog):Nat->qK->Option dA
 | 0,_=>none
 |n+1,r=>fY P (iter P n) r
end Go.VS
namespace Go.VS
def Le(a b:Rec):Prop:=∀r x,a r=some x->b r=some x
@[simp] theorem St.WS(s:St)(d:Nat)(v:V):(s.put d v).ok=s.ok:=rfl
@[simp] theorem St.WU(s:St):s.fail.ok=false:=rfl
theorem St.Ol{s:St}{d:Nat}{o:Option V}(h:(s.cr d o).ok=true):s.ok=true:=by
 cases o<;>simp_all[St.cr,St.put,St.fail]
theorem St.Jt{s:St}{d:Nat}{o:Option (V×List O)}(h:(s.ct d o).ok=true):s.ok=true:=by
 cases o<;>simp_all[St.ct,St.fail]
theorem St.Om{s:St}{d:Option Nat}{o:Option (V×List O)}(h:(s.gC d o).ok=true):s.ok=true:=by
 cases o<;>cases d<;>simp_all[St.gC,St.fail]
theorem St.On{s:St}{o:Option (List O)}(h:(s.jl o).ok=true):s.ok=true:=by
 cases o<;>simp_all[St.jl,St.fail]
theorem St.Oo{s:St}{d:Option Nat}{o:Option V}(h:(s.iU d o).ok=true):s.ok=true:=by
 cases o<;>cases d<;>simp_all[St.iU,St.fail]
theorem yl:∀(ds:List Nat){s:St},(oc s ds).ok=true->s.ok=true
 | [],_,h=>h
 |_::r,_,h=>St.Jt (yl r h)
theorem Ba{rec:Rec}{i:I}{s:St}(h:(aj rec i s).ok=true):s.ok=true:=by
 cases i<;>simp only[aj]at h<;>(repeat' (split at h)) <;>
  first
   |exact h
   |exact St.Ol h
   |exact St.Jt h
   |exact St.Om h
   |exact St.Oo h
   |exact St.On h
   |(simp at h;done)
theorem Oq{a b:Rec}(hab:Le a b){h:List O}{f:Nat}{xs:List V}{r:V×List O}(hr:dU a h f xs=some r):dU b h f xs=some r:=by
 unfold dU at *;split at hr<;>try (simp at hr;done)
 rename_i ds hds;cases hc:a (.call f xs [])with
 |none=>simp[hc]at hr
 |some x=>rw[hab _ _ hc];rw[hc]at hr;exact hr
theorem Bb{a b:Rec}(hab:Le a b){h:List O}{f:Nat}{xs:List V}{r:V×List O}(hr:aW a h f xs=some r):aW b h f xs=some r:=by
 unfold aW at *;cases hL:cut h 0 (V.bW xs)with
 |none=>simp[hL]at hr
 |some L =>
  simp only[hL]at hr⊢;cases hc:a (.call f (V.cu (L.idxOf ·) xs) (sub h L))with
  |none=>simp[hc]at hr
  |some x=>rw[hab _ _ hc];rw[hc]at hr;exact hr
theorem Ju{a b:Rec}(hab:Le a b){f:Nat}{xs:List V}{r:V}(hr:iD a f xs=some r):iD b f xs=some r:=by
 unfold iD at *;split at hr<;>try (simp at hr;done)
 rename_i ds hds;cases hc:a (.call f xs [])with
 |none=>simp[hc]at hr
 |some x=>rw[hab _ _ hc];rw[hc]at hr;exact hr
theorem EA{R:Type}{k k':Nat->List V->Option R}(hk:∀f xs r,k f xs=some r->k' f xs=some r)
  {x:V}{xs:List V}{r:R}(hr:gM k x xs=some r):gM k' x xs=some r:=by
 unfold gM at *;split at hr<;>first |exact hk _ _ _ hr |(simp at hr;done)
theorem Ot{a b:Rec}(hab:Le a b){h:List O}{f:Nat}{xs:List V}{r:V}(hr:lR a h f xs=some r):lR b h f xs=some r:=by
 unfold lR at *;split at hr<;>try (simp at hr;done)
 rename_i ds hds;cases hc:a (.call f (ds.map V.d) [])with
 |none=>simp[hc]at hr
 |some x=>rw[hab _ _ hc];rw[hc]at hr;exact hr
theorem Ou{a b:Rec}(hab:Le a b){h:List O}{x:V}{xs:List V}{r:V×List O}(hr:lQ a h x xs=some r):lQ b h x xs=some r:=by
 unfold lQ at *;split at hr<;>try (simp at hr;done)
 split at hr<;>try (simp at hr;done)
 split at hr<;>try (simp at hr;done)
 rename_i hlen;simp only[hlen,aU];split at hr<;>try (simp at hr;done)
 split at hr<;>try (simp at hr;done)
 rename_i hn;simp only[hn,cB];split at hr<;>try (simp at hr;done)
 rename_i e env' h1 hc;rw[hab _ _ hc];exact hr
theorem ym{s:St}{d:Option Nat}{o:Option V}(h:(s.iU d o).ok=true):∃r,o=some r:=by
 cases o
 .simp[St.iU,St.fail]at h
 .exact⟨_,rfl⟩
theorem pJ{s:St}{d:Option Nat}{o:Option (V×List O)}(h:(s.gC d o).ok=true):∃r,o=some r:=by
 cases o
 .simp[St.gC,St.fail]at h
 .exact⟨_,rfl⟩
theorem Jv{a b:Rec}(hab:Le a b){i:I}{s:St}(h:(aj a i s).ok=true):aj b i s=aj a i s:=by
 cases i<;>try rfl
 case call d f xs =>
  simp only[aj]at *;obtain⟨r,hr⟩:=ym h;rw[hr,Ju hab hr]
 case jJ d f xs =>
  simp only[aj]at *;obtain⟨r,hr⟩:=pJ h;rw[hr,Oq hab hr]
 case iS d f xs =>
  simp only[aj]at *;obtain⟨r,hr⟩:=pJ h;rw[hr,Bb hab hr]
 case j0 d f xs =>
  simp only[aj]at *;obtain⟨r,hr⟩:=ym h;rw[hr,EA (λ_ _ _=>Ju hab) hr]
 case lK d f xs =>
  simp only[aj]at *;obtain⟨r,hr⟩:=pJ h;rw[hr,EA (λ_ _ _=>Bb hab) hr]
 case kE d f xs =>
  simp only[aj]at *;obtain⟨r,hr⟩:=pJ h;rw[hr,Ou hab hr]
 case lO d f xs =>
  simp only[aj]at *;cases hr:aW a s.heap f (xs.map s.get)with
  |none=>rw[hr]at h;simp[kK,St.ct,St.fail]at h
  |some r=>rw[Bb hab hr]
 case calls d f xs =>
  simp only[aj]at *;obtain⟨r,hr⟩:=ym h;rw[hr,Ot hab hr]
mutual
theorem Ov{rec:Rec}:∀{j:J}{s:St},(eJ rec j s).ok=true->s.ok=true
 | .op i,s,h=>Ba (by simpa[eJ]using h)
 | .sc cm d c body x,s,h=>by
  simp only[eJ]at h;split at h
  .split at h
   .simpa using h
   .split at h
    .exact ny (by simpa using h)
    .simp at h
  .simp at h
 | .re i,s,h=>by
  simp only[eJ,again]at h;split at h
  .split at h
   .exact h
   .simp at h
  .simp at h
theorem ny{rec:Rec}:∀{js:List J}{s:St},(cL rec js s).ok=true->s.ok=true
 | [],s,h=>by simpa[cL]using h
 |j::r,s,h=>by
  simp only[cL]at h;exact Ov (ny h)
end
mutual
theorem Ow{a b:Rec}(hab:Le a b):∀{j:J}{s:St},(eJ a j s).ok=true->eJ b j s=eJ a j s
 | .op i,s,h=>by simp only[eJ]at *;exact Jv hab h
 | .sc cm d c body x,s,h=>by
  simp only[eJ]at h⊢;split
  .rename_i g hg
   simp only[hg]at h;split
   .rfl
   .rename_i hne
    rw[aF hne]at h;have hb:(cL a body s).ok=true:=by
     split at h
     .simpa using h
     .simp at h
    rw[Bc hab hb]
  .rfl
 | .re i,s,h=>by
  have hi:(aj a i s).ok=true:=by
   simp only[eJ,again]at h;split at h
   .split at h
    .rename_i hc
     simp only[aA]at hc;exact hc.1
    .simp at h
   .simp at h
  simp only[eJ];rw[Jv hab hi]
theorem Bc{a b:Rec}(hab:Le a b):∀{js:List J}{s:St},(cL a js s).ok=true->cL b js s=cL a js s
 | [],_,_=>by simp[cL]
 |j::r,s,h=>by
  simp only[cL]at *;have hj:(eJ a j s).ok=true:=ny h;rw[Ow hab hj,Bc hab h]
end
theorem qP{rec:Rec}{m:Nat}:∀{c:C}{s:St},(aO rec m c s).2.ok=true->s.ok=true:=by
 intro c;induction c with
 |skip=>intro s h;exact h
 |bG js=>intro s h;exact ny h
 |jk fl pm js=>intro s h;exact(ny h:(⟨_,_,_⟩:St).ok=true)
 |seq a b iha ihb =>
  intro s h;simp only[aO]at h;split at h
  .rename_i s' hs
   have:=ihb h;exact iha (by rw[hs];exact this)
  .exact iha h
 |ite c a b iha ihb =>
  intro s h;simp only[aO]at h;split at h
  .split at h
   .exact iha h
   .exact ihb h
  .simp at h
 |bL id c ih =>
  intro s h;simp only[aO]at h;split at h
  .rename_i j s' hs
   apply ih;rw[hs];split at h<;>exact h
  .exact ih h
 |loop live c ih =>
  intro s h;simp only[aO]at h;split at h
  .split at h
   .exact h
   .simp at h
  .simp at h
 |sj live d d2 it c ih =>
  intro s h;simp only[aO]at h;split at h
  .split at h
   .exact h
   .simp at h
  .simp at h
 |exit id=>intro s h;exact h
 |ret=>intro s h;exact h
 |kG ds=>intro s h;exact yl ds h
 |keep ds =>
  intro s h;simp only[aO]at h;split at h
  .exact h
  .simp at h
 |r9 d k =>
  intro s h;simp only[aO]at h;split at h
  .exact h
  .simp at h
 |r8 x live ps a b iha ihb =>
  intro s h;simp only[aO]at h;split at h
  .split at h
   .exact h
   .simp at h
  .simp at h
theorem yp{a b:Rec}(hab:Le a b){m:Nat}:∀{c:C}{s:St},(aO a m c s).2.ok=true->aO b m c s=aO a m c s:=by
 intro c;induction c with
 |skip=>intro s h;rfl
 |bG js=>intro s h;simp only[aO]at *;rw[Bc hab h]
 |jk fl pm js=>intro s h;simp only[aO]at *;rw[Bc hab h]
 |seq x y EB yq =>
  intro s h;simp only[aO]at h⊢;cases hx:aO a m x s with
  |mk e s' =>
   rw[hx]at h;have hok:s'.ok=true:=by
    cases e
    .exact qP h
    .exact h
    .exact h
   have hb:aO b m x s=(e,s'):=by rw[EB (by rw[hx];exact hok),hx]
   rw[hb];cases e
   .exact yq h
   .rfl
   .rfl
 |ite c x y EB yq =>
  intro s h;simp only[aO]at h⊢;split
  .rename_i v hv
   simp only[hv]at h;split
   .rename_i hx;rw[aN hx]at h;exact EB h
   .rename_i hx;rw[aF hx]at h;exact yq h
  .rfl
 |bL id c ih =>
  intro s h;simp only[aO]at h⊢;cases hx:aO a m c s with
  |mk e s' =>
   rw[hx]at h;have hok:s'.ok=true:=by
    cases e
    .exact h
    .simp only at h;split at h<;>exact h
    .exact h
   rw[ih (by rw[hx];exact hok),hx]
 |loop live c ih =>
  intro s h;simp only[aO]at h⊢;cases hp:canon m live s.env s.heap with
  |none=>rfl
  |some p =>
   simp only[hp]at h⊢;cases hr:a (.loop m live c p.1 p.2)with
   |none=>rw[hr]at h;simp at h
   |some x=>rw[hab _ _ hr]
 |sj live d d2 it c ih =>
  intro s h;simp only[aO]at h⊢;cases hp:canon m live s.env s.heap with
  |none=>rfl
  |some p =>
   simp only[hp]at h⊢;cases hr:a (.lP m live d d2 it c p.1 p.2)with
   |none=>rw[hr]at h;simp at h
   |some x=>rw[hab _ _ hr]
 |exit id=>intro s h;rfl
 |ret=>intro s h;rfl
 |kG ds=>intro s h;rfl
 |keep ds=>intro s h;rfl
 |r9 d k=>intro s h;rfl
 |r8 x live ps y z yq Ox =>
  intro s h;simp only[aO]at h⊢;cases hc:gM (aW a (s.heap++[.lp ps y z .normal (cO live s.env)])) (s.get x) [.fC s.heap.length]with
  |none=>rw[hc]at h;simp at h
  |some r=>rw[EA (λ_ _ _=>Bb hab) hc]
theorem EC{res:List RV}{keep:Bool}{m:Nat}{s:St}{r:dA}(h:finish res keep m s=some r):s.ok=true:=by
 unfold finish at h;split at h
 .assumption
 .simp at h
theorem Bd{R:Type}{x:R}:∀{L:List (Option R)},sq L=some x↔L≠[]/\∀y∈L,y=some x
 | []=>by simp[sq]
 | [y]=>by simp[sq]
 |y::z::r=>by
  have ih:=Bd (x:=x) (L:=z::r);unfold sq;constructor
  .intro h
   split at h
   .rename_i he
    rw[he]at h;obtain⟨_,h2⟩:=ih.1 h;refine⟨by simp,λv hv=>?_⟩
    rcases aY.1 hv with rfl |hv
    .rw[he];exact h
    .exact h2 v hv
   .simp at h
  .rintro⟨_,h⟩
   have h1:=ih.2 ⟨by simp,λv hv=>h v (vD _ hv)⟩
   have h2:=h y (by simp)
   rw[aN (by rw[h1,h2]),h2]
theorem Oy{a b:Rec}(hab:Le a b){m:Nat}{live:List Nat}{d d2 it:Nat}{c:C}{env:List (Nat×V)}{p:Bool×List O}{x:dA}(h:og a m live d d2 it c env p=some x):og b m live d d2 it c env p=some x:=by
 unfold og at h⊢;cases hc:aO a m c ⟨(d2,.d (.b p.1))::(d,.u)::env,p.2,true⟩with
 |mk e s =>
  rw[hc]at h;have hok:s.ok=true:=by
   cases hs:s.ok with
   |true=>rfl
   |false=>cases e<;>simp[hs]at h
  rw[yp hab (by rw[hc];exact hok),hc]
  cases e
  .simp only[hok,aU]at h⊢
   cases hp:canon m live s.env s.heap with
   |none=>rw[hp]at h;simp at h
   |some p =>
    rw[hp]at h;exact hab _ _ h
  .exact h
  .exact h
theorem Oz{P:Prog}{a b:Rec}(hab:Le a b):Le (fY P a) (fY P b):=by
 intro r x h;cases r with
 |call f xs hp =>
  simp only[fY]at h⊢;cases hf:P f with
  |none=>rw[hf]at h;simp at h
  |some fn =>
   rw[hf]at h;simp only at h⊢;cases Jw:fn.sk with
   |some p=>rw[Jw]at h;exact h
   |none =>
   rw[Jw]at h;simp only at h⊢;cases hc:aO a hp.length fn.code ⟨jm 0 xs,hp,true⟩with
   |mk e s =>
    rw[hc]at h;have hok:s.ok=true:=by
     cases e
     .exact EC h
     .simp at h
     .exact EC h
    rw[yp hab (by rw[hc];exact hok),hc]
    exact h
 |loop m live c env hp =>
  simp only[fY]at h⊢;cases hc:aO a m c ⟨env,hp,true⟩with
  |mk e s =>
   rw[hc]at h;have hok:s.ok=true:=by
    cases hs:s.ok with
    |true=>rfl
    |false=>cases e<;>simp[hs]at h
   rw[yp hab (by rw[hc];exact hok),hc]
   cases e
   .simp only[hok,aU]at h⊢
    cases hp:canon m live s.env s.heap with
    |none=>rw[hp]at h;simp at h
    |some p =>
     rw[hp]at h;exact hab _ _ h
   .exact h
   .exact h
 |lP m live d d2 it c env hp =>
  simp only[fY]at h⊢;cases hk:sn hp (aK env it)with
  |none=>rw[hk]at h;simp at h
  |some L =>
   rw[hk]at h;simp only[eG]at h⊢;rw[Bd]at h⊢;refine⟨by simpa using h.1,λy hy=>?_⟩
   obtain⟨p,ED,rfl⟩:=dz.1 hy;exact Oy hab (h.2 _ (dz.2 ⟨p,ED,rfl⟩))
 |round ps y z xs env hp =>
  simp only[fY]at h⊢;cases hc:aO a hp.length y ⟨ps.zip xs++env,hp,true⟩with
  |mk e s =>
   rw[hc]at h;cases e<;>simp only at h<;>try (simp at h;done)
   cases gE:aO a hp.length z s with
   |mk e2 s2 =>
    rw[gE]at h;simp only at h;have sr:s2.ok=true:=by
     cases hs:s2.ok with
     |true=>rfl
     |false=>simp[hs]at h
    have hok:s.ok=true:=qP (rec:=a) (m:=hp.length) (c:=z) (by rw[gE];exact sr)
    rw[yp hab (by rw[hc];exact hok),hc]
    simp only;rw[yp hab (by rw[gE];exact sr),gE]
    exact h
theorem Jx(P:Prog):∀n,Le (iter P n) (iter P (n+1))
 | 0=>by intro r x h;simp[iter]at h
 |n+1=>Oz (Jx P n)
theorem EE(P:Prog){n m:Nat}(h:n<=m):Le (iter P n) (iter P m):=by
 induction h with
 |refl=>exact λ_ _ h=>h
 |step _ ih=>exact λr x h=>Jx P _ r x (ih r x h)
open Classical in
noncomputable def ev (P:Prog)(r:qK):Option dA :=
 if h:∃n x,iter P n r=some x then some (Classical.choose (tJ h))else none
theorem uh{P:Prog}{r:qK}{x:dA}:ev P r=some x↔∃n,iter P n r=some x:=by
 unfold ev;constructor
 .intro h
  split at h
  .rename_i hex
   refine⟨Classical.choose hex,?_⟩;rw[<-h];exact tJ (tJ hex)
  .simp at h
 .rintro⟨n,hn⟩
  have hex:∃n x,iter P n r=some x:=⟨n,x,hn⟩;rw[dif_pos hex];have h1:=tJ (tJ hex);have h2:=EE P (Nat.le_max_left n (Classical.choose hex)) _ _ hn;have h3:=EE P (Nat.le_max_right n (Classical.choose hex)) _ _ h1;rw[h2]at h3;exact h3.symm
theorem OA{P:Prog}{r:qK}{x:dA}(n:Nat)(h:iter P n r=some x):ev P r=some x:=uh.2 ⟨n,h⟩
theorem near(P:Prog)(r:qK):∃n,∀m,n<=m->iter P m r=ev P r:=by
 cases h:ev P r with
 |none =>
  refine⟨0,λm _=>?_⟩
  cases hm:iter P m r with
  |none=>rfl
  |some x=>rw[OA m hm]at h;simp at h
 |some x =>
  obtain⟨n,hn⟩:=uh.1 h;exact⟨n,λm hm=>EE P hm _ _ hn⟩
theorem OB(P:Prog)(h:List O)(f:Nat)(xs:List V):∃n,∀m,n<=m->dU (iter P m) h f xs=dU (ev P) h f xs:=by
 obtain⟨n,hn⟩:=near P (.call f xs []);exact⟨n,λm hm=>by unfold dU;rw[hn m hm]⟩
theorem Be(P:Prog)(h:List O)(f:Nat)(xs:List V):∃n,∀m,n<=m->aW (iter P m) h f xs=aW (ev P) h f xs:=by
 unfold aW;cases hL:cut h 0 (V.bW xs)with
 |none=>exact⟨0,λ_ _=>rfl⟩
 |some L =>
  obtain⟨n,hn⟩:=near P (.call f (V.cu (L.idxOf ·) xs) (sub h L))
  exact⟨n,λm hm=>by simp only[hn m hm]⟩
theorem OC(P:Prog)(h:List O)(f:Nat)(xs:List V):∃n,∀m,n<=m->lR (iter P m) h f xs=lR (ev P) h f xs:=by
 unfold lR;cases hd:dr h xs with
 |none=>exact⟨0,λ_ _=>rfl⟩
 |some ds =>
  obtain⟨n,hn⟩:=near P (.call f (ds.map V.d) []);exact⟨n,λm hm=>by simp only[hn m hm]⟩
theorem OD(P:Prog)(h:List O)(x:V)(xs:List V):∃n,∀m,n<=m->lQ (iter P m) h x xs=lQ (ev P) h x xs:=by
 unfold lQ;split
 .rename_i k
  split
  .rename_i ps a b env hk
   split
   .cases hL:cut (h.set k .dead) 0 (V.bW xs++bC env)with
    |none=>exact⟨0,λ_ _=>rfl⟩
    |some L =>
     obtain⟨n,hn⟩:=near P (.round ps a b (V.cu (L.idxOf ·) xs) (eE (L.idxOf ·) env) (sub (h.set k .dead) L))
     exact⟨n,λm hm=>by simp only[hn m hm]⟩
   .exact⟨0,λ_ _=>rfl⟩
  .exact⟨0,λ_ _=>rfl⟩
 .exact⟨0,λ_ _=>rfl⟩
theorem Jy(P:Prog)(f:Nat)(xs:List V):∃n,∀m,n<=m->iD (iter P m) f xs=iD (ev P) f xs:=by
 obtain⟨n,hn⟩:=near P (.call f xs []);exact⟨n,λm hm=>by unfold iD;rw[hn m hm]⟩
theorem EF{R:Type}{k:Nat->Nat->List V->Option R}{k':Nat->List V->Option R}
  (hk:∀f xs,∃n,∀m,n<=m->k m f xs=k' f xs)(x:V)(xs:List V):
  ∃n,∀m,n<=m->gM (k m) x xs=gM k' x xs:=by
 unfold gM;split
 .exact hk _ _
 .exact hk _ _
 .exact⟨0,λ_ _=>rfl⟩
theorem Jz(P:Prog)(i:I)(s:St):∃n,∀m,n<=m->aj (iter P m) i s=aj (ev P) i s:=by
 cases i<;>try exact⟨0,λ_ _=>rfl⟩
 case call d f xs=>obtain⟨n,hn⟩:=Jy P f (xs.map s.get);exact⟨n,λm hm=>by simp only[aj,hn m hm]⟩
 case jJ d f xs=>obtain⟨n,hn⟩:=OB P s.heap f (xs.map s.get);exact⟨n,λm hm=>by simp only[aj,hn m hm]⟩
 case iS d f xs=>obtain⟨n,hn⟩:=Be P s.heap f (xs.map s.get);exact⟨n,λm hm=>by simp only[aj,hn m hm]⟩
 case j0 d f xs =>
  obtain⟨n,hn⟩:=EF (k:=λm=>iD (iter P m)) (k':=iD (ev P)) (Jy P) (s.get f) (xs.map s.get)
  exact⟨n,λm hm=>by simp only[aj,hn m hm]⟩
 case lK d f xs =>
  obtain⟨n,hn⟩:=EF (k:=λm=>aW (iter P m) s.heap) (k':=aW (ev P) s.heap) (Be P s.heap) (s.get f) (xs.map s.get)
  exact⟨n,λm hm=>by simp only[aj,hn m hm]⟩
 case lO d f xs=>obtain⟨n,hn⟩:=Be P s.heap f (xs.map s.get);exact⟨n,λm hm=>by simp only[aj,hn m hm]⟩
 case calls d f xs=>obtain⟨n,hn⟩:=OC P s.heap f (xs.map s.get);exact⟨n,λm hm=>by simp only[aj,hn m hm]⟩
 case kE d f xs=>obtain⟨n,hn⟩:=OD P s.heap (s.get f) (xs.map s.get);exact⟨n,λm hm=>by simp only[aj,hn m hm]⟩
mutual
theorem OE(P:Prog):∀(j:J)(s:St),∃n,∀m,n<=m->eJ (iter P m) j s=eJ (ev P) j s
 | .op i,s=>by simpa only[eJ]using Jz P i s
 | .sc cm d c body x,s=>by
  obtain⟨n,hn⟩:=Bf P body s;exact⟨n,λm hm=>by simp only[eJ,hn m hm]⟩
 | .re i,s=>by
  obtain⟨n,hn⟩:=Jz P i s;exact⟨n,λm hm=>by simp only[eJ,hn m hm]⟩
theorem Bf(P:Prog):∀(js:List J)(s:St),∃n,∀m,n<=m->cL (iter P m) js s=cL (ev P) js s
 | [],s=>⟨0,λ_ _=>by simp only[cL]⟩
 |j::r,s=>by
  obtain⟨n,hn⟩:=OE P j s;obtain⟨k,hk⟩:=Bf P r (eJ (ev P) j s);exact⟨max n k,λm hm=>by simp only[cL];rw[hn m (by omega),hk m (by omega)]⟩
end
theorem yt(P:Prog)(q:Nat)(c:C):∀(s:St),∃n,∀m,n<=m->aO (iter P m) q c s=aO (ev P) q c s:=by
 induction c with
 |skip=>exact λs=>⟨0,λ_ _=>rfl⟩
 |bG js=>intro s;obtain⟨n,hn⟩:=Bf P js s;exact⟨n,λm hm=>by simp only[aO,hn m hm]⟩
 |jk fl pm js=>intro s;obtain⟨n,hn⟩:=Bf P js ⟨jK fl s.env,s.heap,s.ok⟩;exact⟨n,λm hm=>by simp only[aO,hn m hm]⟩
 |seq a b iha ihb =>
  intro s;obtain⟨n,hn⟩:=iha s;cases hx:aO (ev P) q a s with
  |mk e s' =>
   obtain⟨k,hk⟩:=ihb s';refine⟨max n k,λm hm=>?_⟩
   simp only[aO];rw[hn m (by omega),hx]
   cases e
   .exact hk m (by omega)
   .rfl
   .rfl
 |ite c a b iha ihb =>
  intro s;obtain⟨n,hn⟩:=iha s;obtain⟨k,hk⟩:=ihb s;refine⟨max n k,λm hm=>?_⟩
  simp only[aO];rw[hn m (by omega),hk m (by omega)]
 |bL id c ih=>intro s;obtain⟨n,hn⟩:=ih s;exact⟨n,λm hm=>by simp only[aO,hn m hm]⟩
 |loop live c ih =>
  intro s;cases hp:canon q live s.env s.heap with
  |none=>exact⟨0,λm _=>by simp only[aO,hp]⟩
  |some p =>
   obtain⟨n,hn⟩:=near P (.loop q live c p.1 p.2);exact⟨n,λm hm=>by simp only[aO,hp,hn m hm]⟩
 |sj live d d2 it c ih =>
  intro s;cases hp:canon q live s.env s.heap with
  |none=>exact⟨0,λm _=>by simp only[aO,hp]⟩
  |some p =>
   obtain⟨n,hn⟩:=near P (.lP q live d d2 it c p.1 p.2);exact⟨n,λm hm=>by simp only[aO,hp,hn m hm]⟩
 |exit id=>exact λs=>⟨0,λ_ _=>rfl⟩
 |ret=>exact λs=>⟨0,λ_ _=>rfl⟩
 |kG ds=>exact λs=>⟨0,λ_ _=>rfl⟩
 |keep ds=>exact λs=>⟨0,λ_ _=>rfl⟩
 |r9 d k=>exact λs=>⟨0,λ_ _=>rfl⟩
 |r8 x live ps y z yq Ox =>
  intro s;obtain⟨n,hn⟩:=EF (k:=λm=>aW (iter P m) (s.heap++[.lp ps y z .normal (cO live s.env)])) (k':=aW (ev P) (s.heap++[.lp ps y z .normal (cO live s.env)]))
   (Be P (s.heap++[.lp ps y z .normal (cO live s.env)])) (s.get x) [.fC s.heap.length]
  exact⟨n,λm hm=>by simp only[aO,hn m hm]⟩
theorem OF(P:Prog)(q:Nat)(live:List Nat)(d d2 it:Nat)(c:C)(env:List (Nat×V))(p:Bool×List O):∃n,∀m,n<=m->og (iter P m) q live d d2 it c env p=og (ev P) q live d d2 it c env p:=by
 obtain⟨n,hn⟩:=yt P q c ⟨(d2,.d (.b p.1))::(d,.u)::env,p.2,true⟩;unfold og;cases hx:aO (ev P) q c ⟨(d2,.d (.b p.1))::(d,.u)::env,p.2,true⟩with
 |mk e s =>
  cases hp:canon q live s.env s.heap with
  |none =>
   refine⟨n,λm hm=>?_⟩
   rw[hn m (by omega),hx]
   cases e
   .simp[hp]
   .rfl
   .rfl
  |some p =>
   obtain⟨k,hk⟩:=near P (.lP q live d d2 it c p.1 p.2);refine⟨max n k,λm hm=>?_⟩
   rw[hn m (by omega),hx]
   cases e
   .simp[hp,hk m (by omega)]
   .rfl
   .rfl
theorem JA(P:Prog)(q:Nat)(live:List Nat)(d d2 it:Nat)(c:C)(env:List (Nat×V)):∀(L:List (Bool×List O)),∃n,∀m,n<=m->L.map (og (iter P m) q live d d2 it c env)=L.map (og (ev P) q live d d2 it c env)
 | []=>⟨0,λ_ _=>rfl⟩
 |p::L=>by
  obtain⟨n,hn⟩:=OF P q live d d2 it c env p;obtain⟨k,hk⟩:=JA P q live d d2 it c env L;exact⟨max n k,λm hm=>by rw[cR,cR,hn m (by omega),hk m (by omega)]⟩
theorem OG(P:Prog)(r:qK):∃n,∀m,n<=m->fY P (iter P m) r=fY P (ev P) r:=by
 cases r with
 |call f xs h =>
  cases hf:P f with
  |none=>exact⟨0,λm _=>by simp only[fY,hf]⟩
  |some fn =>
   obtain⟨n,hn⟩:=yt P h.length fn.code ⟨jm 0 xs,h,true⟩;exact⟨n,λm hm=>by simp only[fY,hf,hn m hm]⟩
 |loop q live c env h =>
  obtain⟨n,hn⟩:=yt P q c ⟨env,h,true⟩;cases hx:aO (ev P) q c ⟨env,h,true⟩with
  |mk e s =>
   cases hp:canon q live s.env s.heap with
   |none =>
    refine⟨n,λm hm=>?_⟩
    simp only[fY];rw[hn m (by omega),hx]
    cases e
    .simp[hp]
    .rfl
    .rfl
   |some p =>
    obtain⟨k,hk⟩:=near P (.loop q live c p.1 p.2);refine⟨max n k,λm hm=>?_⟩
    simp only[fY];rw[hn m (by omega),hx]
    cases e
    .simp[hp,hk m (by omega)]
    .rfl
    .rfl
 |lP q live d d2 it c env h =>
  cases hk:sn h (aK env it)with
  |none=>exact⟨0,λm _=>by simp only[fY,hk,Option.bind_none]⟩
  |some L =>
   obtain⟨n,hn⟩:=JA P q live d d2 it c env L;exact⟨n,λm hm=>by simp only[fY,hk,eG,hn m hm]⟩
 |round ps y z xs env h =>
  obtain⟨n,hn⟩:=yt P h.length y ⟨ps.zip xs++env,h,true⟩;cases hx:aO (ev P) h.length y ⟨ps.zip xs++env,h,true⟩with
  |mk e s =>
   obtain⟨k,hk⟩:=yt P h.length z s;refine⟨max n k,λm hm=>?_⟩
   simp only[fY];rw[hn m (by omega),hx]
   cases e
   .simp only;rw[hk m (by omega)]
   .rfl
   .rfl
theorem ev_eq(P:Prog)(r:qK):ev P r=fY P (ev P) r:=by
 obtain⟨n,hn⟩:=OG P r;obtain⟨k,hk⟩:=near P r;rw[<-hn (max n k) (by omega)]
 have:=hk (max n k+1) (by omega)
 rw[<-this];rfl
end Go.VS
namespace Go.VS
mutual
theorem V.mH(f:Nat->Nat):∀(v:V),(v.av f).ak=v.ak.map f
 | .u | .fB | .d _ | .dS _=>rfl
 | .loc .. | .aJ .. | .dX .. | .mp _ | .fC _=>rfl
 | .fn _ a b=>by simp[V.av,V.ak,V.uj f a,V.uj f b]
 | .ag cs=>by simp[V.av,V.ak,V.uj f cs]
 | .rf cs=>by simp[V.av,V.ak,V.uj f cs]
 | .tu cs=>by simp[V.av,V.ak,V.uj f cs]
theorem V.uj(f:Nat->Nat):∀(vs:List V),V.bW (V.cu f vs)=(V.bW vs).map f
 | []=>rfl
 |v::r=>by simp[V.cu,V.bW,V.mH f v,V.uj f r]
end
mutual
theorem V.yu(f g:Nat->Nat):∀(v:V),(v.av f).av g=v.av λn=>g (f n)
 | .u | .fB | .d _ | .dS _=>rfl
 | .loc .. | .aJ .. | .dX .. | .mp _ | .fC _=>rfl
 | .fn _ a b=>by simp[V.av,V.uk f g a,V.uk f g b]
 | .ag cs=>by simp[V.av,V.uk f g cs]
 | .rf cs=>by simp[V.av,V.uk f g cs]
 | .tu cs=>by simp[V.av,V.uk f g cs]
theorem V.uk(f g:Nat->Nat):∀(vs:List V),V.cu g (V.cu f vs)=V.cu (λn=>g (f n)) vs
 | []=>rfl
 |v::r=>by simp[V.cu,V.yu f g v,V.uk f g r]
end
mutual
theorem V.vV{f g:Nat->Nat}:∀(v:V),(∀n∈v.ak,f n=g n)->v.av f=v.av g
 | .u,_ | .fB,_ | .d _,_ | .dS _,_=>rfl
 | .loc n r c,h=>by simp[V.av,h n (by simp[V.ak])]
 | .aJ n r c,h=>by simp[V.av,h n (by simp[V.ak])]
 | .dX n r c,h=>by simp[V.av,h n (by simp[V.ak])]
 | .mp n,h=>by simp[V.av,h n (by simp[V.ak])]
 | .fC n,h=>by simp[V.av,h n (by simp[V.ak])]
 | .fn _ a b,h=>by
  simp only[V.av];rw[V.um a λn hn=>h n (by simp[V.ak,hn]),V.um b λn hn=>h n (by simp[V.ak,hn])]
 | .ag cs,h=>by simp only[V.av];rw[V.um cs h]
 | .rf cs,h=>by simp only[V.av];rw[V.um cs h]
 | .tu cs,h=>by simp only[V.av];rw[V.um cs h]
theorem V.um{f g:Nat->Nat}:∀(vs:List V),(∀n∈V.bW vs,f n=g n)->V.cu f vs=V.cu g vs
 | [],_=>rfl
 |v::r,h=>by simp only[V.cu];rw[V.vV v λn hn=>h n (by simp[V.bW,hn]),V.um r λn hn=>h n (by simp[V.bW,hn])]
end
theorem EG(f:Nat->Nat):∀(e:List (Nat×V)),bC (eE f e)=(bC e).map f
 | []=>rfl
 |p::e=>by
  have:=EG f e;simp only[eE,cR,bC,nZ,V.mH]at this⊢;rw[this]
theorem JB(f g:Nat->Nat)(e:List (Nat×V)):eE g (eE f e)=eE (λn=>g (f n)) e:=by
 simp[eE,V.yu]
theorem EH{f g:Nat->Nat}:∀(e:List (Nat×V)),(∀n∈bC e,f n=g n)->eE f e=eE g e
 | [],_=>rfl
 |p::e,h=>by
  have:=EH e λn hn=>h n (by simp[bC,hn])
  simp only[eE,cR]at this⊢;rw[this,V.vV p.2 λn hn=>h n (by simp[bC,hn])]
theorem Bg{α β:Type}{f g:α->List β}:∀{l:List α},(∀a∈l,f a=g a)->l.flatMap f=l.flatMap g
 | [],_=>rfl
 |a::l,h=>by simp only[rX];rw[h a (by simp),Bg λb hb=>h b (by simp[hb])]
theorem O.mH(f:Nat->Nat)(o:O):(o.av f).ak=o.ak.map f:=by
 cases o with
 |cS es rows =>
  simp only[O.av,O.ak,AD,Ed];exact Bg λr _=>V.uj f r
 |mp kv ck bs =>
  simp only[O.av,O.ak,AD,Ed];exact Bg λp _=>V.mH f p.2
 |lp ps a b e env=>simp only[O.av,O.ak];exact EG f env
 |_=>rfl
theorem O.yu(f g:Nat->Nat)(o:O):(o.av f).av g=o.av λn=>g (f n):=by
 cases o with
 |cS es rows=>simp[O.av,V.uk]
 |mp kv ck bs=>simp[O.av,V.yu]
 |lp ps a b e env=>simp[O.av,JB]
 |_=>rfl
theorem O.vV{f g:Nat->Nat}(o:O)(h:∀n∈o.ak,f n=g n):o.av f=o.av g:=by
 cases o with
 |cS es rows =>
  simp only[O.av,O.cS.injEq,qB];exact mj λr hr=>V.um r λn hn=>h n (by simp only[O.ak,dG];exact⟨r,hr,hn⟩)
 |mp kv ck bs =>
  simp only[O.av,O.mp.injEq,jd];exact mj λp hp=>by rw[V.vV p.2 λn hn=>h n (by simp only[O.ak,dG];exact⟨p,hp,hn⟩)]
 |lp ps a b e env=>simp only[O.av];rw[EH env h]
 |it m c l=>simp[O.av,h m (by simp[O.ak])]
 |_=>rfl
structure kM(dom:Nat->Prop)(π:Nat->Nat)(h1 h2:List O):Prop where
 inj:∀a b,dom a->dom b->π a=π b->a=b
 cl:∀n,dom n->∀k∈(af h1 n).ak,dom k
 ob:∀n,dom n->af h2 (π n)=(af h1 n).av π
 lt:∀n,dom n->(π n<h2.length↔n<h1.length)
section
variable {dom:Nat->Prop}{π:Nat->Nat}{h1 h2:List O}
theorem kM.mem(I:kM dom π h1 h2){n:Nat}{l:List Nat}(hn:dom n)(hl:∀k∈l,dom k):π n∈l.map π↔n∈l:=by
 constructor
 .intro h
  obtain⟨k,hk,he⟩:=dz.1 h
  rwa [<-I.inj k n (hl k hk) hn he]
 .exact λh=>oZ h
theorem kM.reach(I:kM dom π h1 h2):∀(f:Nat)(t acc:List Nat),(∀n∈t,dom n)->(∀n∈acc,dom n)->reach h2 f (t.map π) (acc.map π)=(VS.reach h1 f t acc).map π/\∀n∈VS.reach h1 f t acc,dom n
 | 0,t,acc,_,ha=>⟨rfl,ha⟩
 |f+1,[],acc,_,ha=>⟨rfl,ha⟩
 |f+1,n::t,acc,ht,ha=>by
  have hn:=ht n (by simp)
  have ht':∀k∈t,dom k:=λk hk=>ht k (by simp[hk])
  simp only[cR,VS.reach];by_cases hm:n∈acc
  .rw[aN hm,aN ((I.mem hn ha).2 hm)]
   exact I.reach f t acc ht' ha
  .rw[aF hm,aF λh=>hm ((I.mem hn ha).1 h)]
   have:=I.reach f (t++(af h1 n).ak) (acc++[n]) (λk hk=>by
    rcases aL.1 hk with hk |hk
    .exact ht' k hk
    .exact I.cl n hn k hk) (λk hk=>by
    rcases aL.1 hk with hk |hk
    .exact ha k hk
    .simp at hk;subst hk;exact hn)
   rw[I.ob n hn,O.mH,<-List.map_append];simpa using this
theorem JC{l:List Nat}(hi:∀a∈l,∀b∈l,π a=π b->a=b):(l.map π).Nodup↔l.Nodup:=by
 induction l with
 |nil=>simp
 |cons a l ih =>
  have ih:=ih λa ha b hb=>hi a (by simp[ha]) b (by simp[hb])
  simp only[cR,cy,ih];refine and_congr_left λ_=>not_congr ⟨λh=>?_,λh=>oZ h⟩
  obtain⟨b,hb,he⟩:=dz.1 h
  rwa [<-hi b (by simp[hb]) a (by simp) he]
theorem kM.filter(I:kM dom π h1 h2){m:Nat}(hm:∀k,k<m->dom k/\π k=k):∀{l:List Nat},(∀n∈l,dom n)->(l.map π).filter (m<=·)=(l.filter (m<=·)).map π
 | [],_=>rfl
 |n::l,h=>by
  have ih:=I.filter hm (l:=l) λk hk=>h k (by simp[hk])
  have hn:=h n (by simp)
  have e:m<=π n↔m<=n:=by
   constructor
   .intro h1
    rcases eH n m with h2 |h2
    .rw[(hm n h2).2]at h1;omega
    .exact h2
   .intro h1
    rcases eH (π n) m with h2 |h2
    .have h3:=hm (π n) h2
     have:=I.inj (π n) n h3.1 hn h3.2;omega
    .exact h2
  simp only[cR,List.filter_cons,ih];by_cases hmn:m<=n
  .simp[hmn,e.2 hmn]
  .have h3:¬m<=π n:=λh=>hmn (e.1 h)
   rw[aF (by simpa using h3),aF (by simpa using hmn)]
theorem kM.cut(I:kM dom π h1 h2){m:Nat}(hm:∀k,k<m->dom k/\π k=k){roots:List Nat}(hr:∀n∈roots,dom n):cut h2 m (roots.map π)=(VS.cut h1 m roots).map (·.map π)/\∀L,VS.cut h1 m roots=some L->∀n∈L,dom n:=by
 have EI:∀n∈List.range m++roots,dom n:=λn hn=>by
  rcases aL.1 hn with h |h
  .exact(hm n (by simpa using h)).1
  .exact hr n h
 have er:(List.range m).map π=List.range m:=by
  refine(mj λk hk=>(hm k (by simpa using hk)).2).trans (AE _)
 obtain⟨r1,r2⟩:=I.reach 1000 (List.range m++roots) [] EI (by simp)
 rw[nZ,er,jF]at r1;unfold VS.cut;simp only;rw[r1,I.filter hm r2];have hL:∀n∈List.range m++(VS.reach h1 1000 (List.range m++roots) []).filter (m<=·),dom n:=λn hn=>by
  rcases aL.1 hn with h |h
  .exact(hm n (by simpa using h)).1
  .exact r2 n (lA.1 h).1
 have eL:List.range m++((VS.reach h1 1000 (List.range m++roots) []).filter (m<=·)).map π=(List.range m++(VS.reach h1 1000 (List.range m++roots) []).filter (m<=·)).map π:=by
  rw[nZ,er]
 rw[eL];generalize List.range m++(VS.reach h1 1000 (List.range m++roots) []).filter (m<=·)=L at hL⊢
 have hc:((L.map π).Nodup/\(roots.map π).all (·∈L.map π)/\(L.map π).all (λn=>n<h2.length/\(af h2 n).ak.all (·∈L.map π)))↔(L.Nodup/\roots.all (·∈L)/\L.all (λn=>n<h1.length/\(af h1 n).ak.all (·∈L))):=by
  refine and_congr (JC λa ha b hb=>I.inj a b (hL a ha) (hL b hb)) (and_congr ?_ ?_)
  .simp only[jG,dz,IT,and_imp,IU,fu]
   refine forall_congr' λn=>⟨λh hn=>?_,λh hn=>?_⟩
   .have:=h hn
    rw[<-List.mem_map]at this;exact(I.mem (hr n hn) hL).1 this
   .exact⟨n,h hn,rfl⟩
  .simp only[jG,dz,IT,and_imp,IU,fu]
   refine forall_congr' λn=>⟨λh hn=>?_,λh hn=>?_⟩
   .obtain⟨k1,k2⟩:=h hn
    refine⟨(I.lt n (hL n hn)).1 k1,λk hk=>?_⟩
    have eT:=I.cl n (hL n hn) k hk;have:=k2 (π k) (by rw[I.ob n (hL n hn),O.mH];exact oZ hk)
    rw[<-List.mem_map]at this;exact(I.mem eT hL).1 this
   .obtain⟨k1,k2⟩:=h hn
    refine⟨(I.lt n (hL n hn)).2 k1,λk hk=>?_⟩
    rw[I.ob n (hL n hn),O.mH]at hk;obtain⟨j,hj,rfl⟩:=dz.1 hk;exact⟨j,k2 j hj,rfl⟩
 by_cases hh:L.Nodup/\roots.all (·∈L)/\L.all (λn=>n<h1.length/\(af h1 n).ak.all (·∈L))
 .rw[aN hh,aN (hc.2 hh)]
  exact⟨rfl,λL' e=>by simp only[bF]at e;subst e;exact hL⟩
 .rw[aF hh,aF λh=>hh (hc.1 h)]
  exact⟨rfl,λL' e=>by cases e⟩
theorem kM.idx(I:kM dom π h1 h2){L:List Nat}(hL:∀n∈L,dom n){n:Nat}(hn:dom n):(L.map π).idxOf (π n)=L.idxOf n:=by
 induction L with
 |nil=>rfl
 |cons a L ih =>
  have ih:=ih λk hk=>hL k (by simp[hk])
  simp only[cR,aZ,ih];have e:(π a==π n)=(a==n):=by
   rw[AF,bN,bN];exact⟨I.inj a n (hL a (by simp)) hn,λh=>by rw[h]⟩
  rw[e]
theorem kM.sub(I:kM dom π h1 h2){L:List Nat}(hL:∀n∈L,dom n):sub h2 (L.map π)=VS.sub h1 L:=by
 unfold VS.sub;rw[x6];refine mj λn hn=>?_
 simp only[Function.comp_apply];rw[I.ob n (hL n hn),O.yu];exact O.vV _ λk hk=>I.idx hL (I.cl n (hL n hn) k hk)
theorem kM.canon(I:kM dom π h1 h2){m:Nat}(hm:∀k,k<m->dom k/\π k=k){live:List Nat}{e1 e2:List (Nat×V)}(he:cO live e2=eE π (cO live e1))(hd:∀n∈bC (cO live e1),dom n)(hn1:h1≠[])(hn2:h2≠[]):
  canon m live e2 h2=VS.canon m live e1 h1:=by
 obtain⟨c1,c2⟩:=I.cut hm hd;have u:∀(e:List (Nat×V))(h:List O),h≠[]->VS.canon m live e h=(VS.cut h m (bC (cO live e))).map λL=>((cO live e).map λp=>(p.1,p.2.av (L.idxOf ·)),VS.sub h L):=by
  intro e h hh;unfold VS.canon;cases h with
  |nil=>exact absurd rfl hh
  |cons _ _=>rfl
 rw[u e2 h2 hn2,u e1 h1 hn1,he,EG,c1];cases hc:VS.cut h1 m (bC (cO live e1))with
 |none=>rfl
 |some L =>
  simp only[fy,bF,gS];refine⟨?_,I.sub (c2 L hc)⟩
  have:∀e:List (Nat×V),(∀n∈bC e,dom n)->((eE π e).map λp=>(p.1,p.2.av ((L.map π).idxOf ·)))=e.map λp=>(p.1,p.2.av (L.idxOf ·)):=by
   intro e he;have h1:=JB π ((L.map π).idxOf ·) e
   have h2:=EH (f:=λn=>(L.map π).idxOf (π n)) (g:=(L.idxOf ·)) e λn hn=>I.idx (c2 L hc) (he n hn)
   rw[h2]at h1;exact h1
  exact this _ hd
end
def oh(h:List O)(acc:List Nat)(l:List Nat):Nat:=((l.filter λn=>!acc.contains n).map λn=>(af h n).ak.length).sum
theorem yw{h:List O}{acc:List Nat}{a:Nat}{l:List Nat}:oh h acc (a::l)=(if acc.contains a then 0 else(af h a).ak.length)+oh h acc l:=by
 unfold oh;rw[List.filter_cons];cases ha:acc.contains a<;>simp
theorem JD{h:List O}{acc:List Nat}{n:Nat}:∀{l:List Nat},n∉l->oh h (acc++[n]) l=oh h acc l
 | [],_=>rfl
 |a::l,hn=>by
  simp at hn;rw[yw,yw,JD hn.2];have e:(acc++[n]).contains a=acc.contains a:=by
   rw[AF];simp;exact λh=>absurd h.symm hn.1
  rw[e]
theorem JE{h:List O}{acc:List Nat}{n:Nat}(ha:n∉acc):∀{l:List Nat},l.Nodup->n∈l->oh h (acc++[n]) l+(af h n).ak.length=oh h acc l
 | [],_,hn=>by simp at hn
 |a::l,hd,hn=>by
  rw[cy]at hd;rw[yw,yw];by_cases e:a=n
  .subst e
   rw[JD hd.1];simp[ha];omega
  .have hl:n∈l:=by
    rcases aY.1 hn with h |h
    .exact absurd h.symm e
    .exact h
   have ih:=JE (h:=h) ha hd.2 hl;have e2:(acc++[n]).contains a=acc.contains a:=by
    rw[AF];simp;exact λh=>absurd h e
   rw[e2];omega
theorem EJ{h:List O}(hw:∀n,n<h.length->∀k∈(af h n).ak,k<h.length):∀(f:Nat)(t acc:List Nat),acc.Nodup->(∀n∈t,n<h.length)->(∀n∈acc,n<h.length) ->
  (∀n∈acc,∀k∈(af h n).ak,k∈acc\/k∈t)->t.length+oh h acc (List.range h.length)<=f ->
  (VS.reach h f t acc).Nodup/\(∀n∈acc,n∈VS.reach h f t acc)/\(∀n∈t,n∈VS.reach h f t acc)/\(∀n∈VS.reach h f t acc,n<h.length)/\∀n∈VS.reach h f t acc,∀k∈(af h n).ak,k∈VS.reach h f t acc
 | 0,t,acc,hd,ht,ha,hc,hf=>by
  have:t=[]:=o7.1 (by omega)
  subst this;exact⟨hd,λn hn=>hn,by simp,ha,λn hn k hk=>(hc n hn k hk).resolve_right (by simp)⟩
 |f+1,[],acc,hd,ht,ha,hc,hf=>⟨hd,λn hn=>hn,by simp,ha,λn hn k hk=>(hc n hn k hk).resolve_right (by simp)⟩
 |f+1,n::t,acc,hd,ht,ha,hc,hf=>by
  simp only[fT]at hf;simp only[VS.reach];by_cases hm:n∈acc
  .rw[aN hm]
   obtain⟨r1,r2,r3,r4,r5⟩:=EJ hw f t acc hd (λk hk=>ht k (by simp[hk])) ha (λa su k hk=>(hc a su k hk).elim .inl λh=>by
    rcases aY.1 h with rfl |h
    .exact .inl hm
    .exact .inr h) (by omega)
   exact⟨r1,r2,λk hk=>by
    rcases aY.1 hk with rfl |hk
    .exact r2 _ hm
    .exact r3 k hk,r4,r5⟩
  .rw[aF hm]
   have hn:=ht n (by simp)
   have jL:=JE (h:=h) (acc:=acc) hm AG (o8.2 hn);obtain⟨r1,r2,r3,r4,r5⟩:=EJ hw f (t++(af h n).ak) (acc++[n]) (by
     rw[fA];exact⟨hd,by simp,λa ha b hb=>by simp at hb;subst hb;exact λe=>hm (e▸ha)⟩) (λk hk=>by
     rcases aL.1 hk with hk |hk
     .exact ht k (by simp[hk])
     .exact hw n hn k hk) (λk hk=>by
     rcases aL.1 hk with hk |hk
     .exact ha k hk
     .simp at hk;subst hk;exact hn) (λa su k hk=>by
     rcases aL.1 su with su |su
     .rcases hc a su k hk with h |h
      .exact .inl (by simp[h])
      .rcases aY.1 h with rfl |h
       .exact .inl (by simp)
       .exact .inr (by simp[h])
     .simp at su;subst su;exact .inr (by simp[hk])) (by simp only[eC];omega)
   exact⟨r1,λk hk=>r2 k (by simp[hk]),λk hk=>by
    rcases aY.1 hk with rfl |hk
    .exact r2 _ (by simp)
    .exact r3 k (by simp[hk]),r4,r5⟩
theorem JF{h:List O}{m:Nat}{roots:List Nat}(hw:∀n,n<h.length->∀k∈(af h n).ak,k<h.length)(hm:m<=h.length)(hr:∀n∈roots,n<h.length)(hc:m+roots.length+oh h [] (List.range h.length)<=1000):
  ∃L,VS.cut h m roots=some L/\L.Nodup/\(∀k,k<m->L[k]?=some k)/\(∀n∈roots,n∈L)/\(∀n∈L,n<h.length)/\∀n∈L,∀k∈(af h n).ak,k∈L:=by
 obtain⟨r1,_,r3,r4,r5⟩:=EJ hw 1000 (List.range m++roots) [] (by simp) (λn hn=>by
  rcases aL.1 hn with h |h
  .have:=o8.1 h;omega
  .exact hr n h) (by simp) (by simp) (by simp;omega)
 have hmem:∀n,n∈VS.reach h 1000 (List.range m++roots) []->n∈List.range m++(VS.reach h 1000 (List.range m++roots) []).filter (m<=·):=λn hn=>by
  rcases eH n m with h |h
  .exact aL.2 (.inl (o8.2 h))
  .exact aL.2 (.inr (lA.2 ⟨hn,by simpa using h⟩))
 have hin:∀n,n∈List.range m++(VS.reach h 1000 (List.range m++roots) []).filter (m<=·)->n∈VS.reach h 1000 (List.range m++roots) []:=λn hn=>by
  rcases aL.1 hn with h |h
  .exact r3 n (aL.2 (.inl h))
  .exact(lA.1 h).1
 have hnd:(List.range m++(VS.reach h 1000 (List.range m++roots) []).filter (m<=·)).Nodup:=by
  rw[fA];refine⟨AG,r1.filter _,λa ha b hb=>?_⟩
  have h1:=o8.1 ha;have h2:=(lA.1 hb).2;simp at h2;omega
 refine⟨_,?_,hnd,λk hk=>?_,λn hn=>hmem n (r3 n (aL.2 (.inr hn))),λn hn=>r4 n (hin n hn),λn hn k hk=>hmem k (r5 n (hin n hn) k hk)⟩
 .unfold VS.cut
  simp only;rw[aN];refine⟨hnd,?_,?_⟩
  .simp only[jG,fu]
   exact λn hn=>hmem n (r3 n (aL.2 (.inr hn)))
  .simp only[jG,fu]
   exact λn hn=>⟨r4 n (hin n hn),λk hk=>hmem k (r5 n (hin n hn) k hk)⟩
 .rw[jH (by simpa using hk)]
  simp[hk]
end Go.VS
namespace Go.VS
structure Gh where
 β:Nat->Nat
 o:Nat->Nat
 I:Nat->Nat
structure bX where
 fn:Nat->Nat
 lk:List Nat->C->C->Code->Code->Nat->Prop
instance:CoeFun bX (λ_=>Nat->Nat):=⟨bX.fn⟩
instance:Coe bX (Nat->Nat):=⟨bX.fn⟩
section
variable (φ:bX)
mutual
def aC(I:Nat->Nat)(w:World):D->Value->Prop
 | .b x,v=>v = .bool x
 | .i k n,v=>v = .int k n
 | .s x,v=>∃bs:ByteArray,v = .string bs/\bs.toList=x
 | .nil,v=>v = .pointer none
 | .ref cs,v=>∃b off,v = .pointer (some ⟨b,off,none⟩)/\off+cs.length<=I b/\iE I w b off cs
 | .sl es nl xs,v=>∃a cap,v = .slice a xs.length cap/\xs.length<=cap/\(nl=true->a=none/\cap=0) /\
   (nl=false->∃ad:Addr,a=some ad/\(xs≠[]->ad.spot=none/\ad.off+es*xs.length<=I ad.block/\fE I w ad.block es ad.off xs))
 | .fn f a b,v=>∃A B,v = .func (.func (φ f)) A B/\aM I w a A.toList/\aM I w b B.toList
 | .vQ,v=>v = .nilFunc
 | .mo t x,v=>∃y,v = .iface t y/\aC I w x y
 | .AZ,v=>v = .nilIface
 | .n8,v=>v = .map none
 | .ag cs,v=>∃A,v = .agg A/\aM I w cs A.toList/\∀x∈A.toList,x.oneCell'=true
 | .tY,_=>True
def iE(I:Nat->Nat)(w:World)(b:Nat):Nat->List D->Prop
 |_,[]=>True
 |off,c::cs=>(∃x,w.cell? ⟨b,off,none⟩=some x/\x.oneCell'=true/\aC I w c x)/\iE I w b (off+1) cs
def fE(I:Nat->Nat)(w:World)(b es:Nat):Nat->List (List D)->Prop
 |_,[]=>True
 |off,r::rs=>r.length=es/\iE I w b off r/\fE I w b es (off+es) rs
def aM(I:Nat->Nat)(w:World):List D->List Value->Prop
 | [],[]=>True
 |c::cs,v::vs=>aC I w c v/\aM I w cs vs
 |_,_=>False
end
structure Ext(I:Nat->Nat)(w:World)(I':Nat->Nat)(w':World):Prop where
 le:∀b,I b<=I' b
 cell:∀b i,i<I b->w'.cell? ⟨b,i,none⟩=w.cell? ⟨b,i,none⟩
theorem Ext.refl(I:Nat->Nat)(w:World):Ext I w I w:=⟨λ_=>bZ _,λ_ _ _=>rfl⟩
theorem Ext.trans{I I' JG:Nat->Nat}{w w' w'':World}(h:Ext I w I' w')(k:Ext I' w' JG w''):Ext I w JG w'' :=
 ⟨λb=>ig (h.le b) (k.le b),λb i hi=>(k.cell b i (je hi (h.le b))).trans (h.cell b i hi)⟩
variable {φ}
mutual
theorem nA{I I':Nat->Nat}{w w':World}(h:Ext I w I' w'):∀{x:D}{v:Value},aC φ I w x v->aC φ I' w' x v
 | .b x,v,hr=>by simpa[aC]using hr
 | .i k n,v,hr=>by simpa[aC]using hr
 | .s x,v,hr=>by simpa[aC]using hr
 | .nil,v,hr=>by simpa[aC]using hr
 | .ref cs,v,hr=>by
  simp only[aC]at hr⊢;obtain⟨b,off,rfl,hI,hc⟩:=hr;exact⟨b,off,rfl,ig hI (h.le b),EK h hI hc⟩
 | .sl es nl xs,v,hr=>by
  simp only[aC]at hr⊢;obtain⟨a,cap,rfl,hl,ht,hf⟩:=hr;refine⟨a,cap,rfl,hl,ht,λgF=>?_⟩
  obtain⟨ad,ha,hx⟩:=hf gF;refine⟨ad,ha,λhne=>?_⟩
  obtain⟨hs,hI,hr⟩:=hx hne;exact⟨hs,ig hI (h.le _),JH h hI hr⟩
 | .fn f a b,v,hr=>by
  simp only[aC]at hr⊢;obtain⟨A,B,rfl,ha,hb⟩:=hr;exact⟨A,B,rfl,qQ h ha,qQ h hb⟩
 | .vQ,v,hr=>by simpa[aC]using hr
 | .mo t x,v,hr=>by
  simp only[aC]at hr⊢;obtain⟨y,rfl,hx⟩:=hr;exact⟨y,rfl,nA h hx⟩
 | .AZ,v,hr=>by simpa[aC]using hr
 | .n8,v,hr=>by simpa[aC]using hr
 | .ag cs,v,hr=>by
  simp only[aC]at hr⊢;obtain⟨A,rfl,ha,h1⟩:=hr;exact⟨A,rfl,qQ h ha,h1⟩
 | .tY,v,hr=>by simp[aC]
theorem EK{I I':Nat->Nat}{w w':World}(h:Ext I w I' w'){b:Nat}:∀{off:Nat}{cs:List D},off+cs.length<=I b->iE φ I w b off cs->iE φ I' w' b off cs
 |_,[],_,_=>by simp[iE]
 |off,c::cs,hI,hr=>by
  simp only[iE]at hr⊢;simp only[fT]at hI;obtain⟨⟨x,hx,h1,hd⟩,mI⟩:=hr;exact⟨⟨x,by rw[h.cell b off (by omega)];exact hx,h1,nA h hd⟩,EK h (by omega) mI⟩
theorem JH{I I':Nat->Nat}{w w':World}(h:Ext I w I' w'){b es:Nat}:∀{off:Nat}{xs:List (List D)},off+es*xs.length<=I b->fE φ I w b es off xs->fE φ I' w' b es off xs
 |_,[],_,_=>by simp[fE]
 |off,r::rs,hI,hr=>by
  simp only[fE]at hr⊢;simp only[fT,x7,Nat.mul_one]at hI;obtain⟨hl,hc,mI⟩:=hr;exact⟨hl,EK h (by omega) hc,JH h (by omega) mI⟩
theorem qQ{I I':Nat->Nat}{w w':World}(h:Ext I w I' w'):∀{cs:List D}{vs:List Value},aM φ I w cs vs->aM φ I' w' cs vs
 | [],[],_=>by simp[aM]
 |c::cs,v::vs,hr=>by
  simp only[aM]at hr⊢;exact⟨nA h hr.1,qQ h hr.2⟩
 | [],_::_,hr=>by simp[aM]at hr
 |_::_,[],hr=>by simp[aM]at hr
end
theorem nC{I:Nat->Nat}{w:World}:∀{cs:List D}{vs:List Value},aM φ I w cs vs->cs.length=vs.length
 | [],[],_=>rfl
 |_::_,_::_,h=>by simp only[aM]at h;simp[nC h.2]
 | [],_::_,h=>by simp[aM]at h
 |_::_,[],h=>by simp[aM]at h
theorem vW{I:Nat->Nat}{w:World}:∀{cs:List D}{vs:List Value},aM φ I w cs vs->∀{j:Nat}{c:D},cs[j]?=some c->∃v,vs[j]?=some v/\aC φ I w c v
 | [],_,_,j,c,hc=>by simp at hc
 |c::cs,[],h,_,_,_=>by simp[aM]at h
 |c::cs,v::vs,h,j,x,hx=>by
  simp only[aM]at h;cases j with
  |zero=>simp at hx;subst hx;exact⟨v,rfl,h.1⟩
  |succ j=>simpa using vW h.2 (j:=j) (by simpa using hx)
theorem qR{I:Nat->Nat}{w:World}{cs ds:List D}{vs us:List Value}(h:aM φ I w cs vs)(k:aM φ I w ds us):aM φ I w (cs++ds) (vs++us):=by
 induction cs generalizing vs with
 |nil=>cases vs<;>simp_all[aM]
 |cons c cs ih=>cases vs<;>simp_all[aM]
theorem vX{I:Nat->Nat}{w:World}{b:Nat}:∀{off:Nat}{cs:List D},iE φ I w b off cs->∀{j:Nat}{c:D},cs[j]?=some c ->
  ∃x,w.cell? ⟨b,off+j,none⟩=some x/\x.oneCell'=true/\aC φ I w c x
 |off,[],_,j,c,hc=>by simp at hc
 |off,c::cs,h,j,x,hx=>by
  simp only[iE]at h;cases j with
  |zero=>simp at hx;subst hx;exact h.1
  |succ j =>
   have:=vX h.2 (j:=j) (by simpa using hx)
   rwa [kB,mm 1 j]at this
theorem om{I:Nat->Nat}{w:World}{b:Nat}:∀{off:Nat}{cs:List D},(∀(j:Nat)(c:D),cs[j]?=some c->∃x,w.cell? ⟨b,off+j,none⟩=some x/\x.oneCell'=true/\aC φ I w c x)->iE φ I w b off cs
 |off,[],_=>by simp[iE]
 |off,c::cs,h=>by
  simp only[iE];refine⟨h 0 c rfl,om λj x hx=>?_⟩
  have:=h (j+1) x (by simpa using hx)
  rwa [<-Nat.add_assoc,Nat.add_right_comm]at this
theorem iV{I:Nat->Nat}{w:World}{b es:Nat}:∀{off:Nat}{xs:List (List D)},fE φ I w b es off xs->∀{r:Nat}{row:List D},xs[r]?=some row ->
  row.length=es/\iE φ I w b (off+r*es) row
 |off,[],_,r,row,hc=>by simp at hc
 |off,x::xs,h,r,row,hx=>by
  simp only[fE]at h;cases r with
  |zero=>simp at hx;subst hx;simpa using⟨h.1,h.2.1⟩
  |succ r =>
   have:=iV h.2.2 (r:=r) (by simpa using hx)
   rw[kC]
   rwa [kB,mm es]at this
theorem nD{I:Nat->Nat}{w:World}{b es:Nat}:∀{off:Nat}{xs:List (List D)},(∀(r:Nat)(row:List D),xs[r]?=some row->row.length=es/\iE φ I w b (off+r*es) row)->fE φ I w b es off xs
 |off,[],_=>by simp[fE]
 |off,x::xs,h=>by
  simp only[fE];have h0:=h 0 x rfl;refine⟨h0.1,by simpa using h0.2,nD λr row hr=>?_⟩
  have:=h (r+1) row (by simpa using hr)
  rw[kC]at this
  rwa [kB,mm es]
theorem yx{I:Nat->Nat}{w:World}{b off:Nat}{cs:List D}(h:iE φ I w b off cs):
  ∃vs:List Value,aM φ I w cs vs/\(∀(j:Nat)(v:Value),vs[j]?=some v->w.cell? ⟨b,off+j,none⟩=some v)/\∀v∈vs,v.oneCell'=true:=by
 induction cs generalizing off with
 |nil=>exact⟨[],by simp[aM],by simp,by simp⟩
 |cons c cs ih =>
  simp only[iE]at h;obtain⟨⟨x,hx,h1,hd⟩,hr⟩:=h;obtain⟨vs,hv,hc,ho⟩:=ih hr;refine⟨x::vs,by simp only[aM];exact⟨hd,hv⟩,λj v hj=>?_,by simpa using⟨h1,ho⟩⟩
  cases j with
  |zero=>simp at hj;subst hj;simpa using hx
  |succ j =>
   have:=hc j v (by simpa using hj)
   rwa [kB,mm 1 j]at this
theorem Bh{I:Nat->Nat}{w:World}{b off:Nat}{cs:List D}{vs:List Value}(h:aM φ I w cs vs)
  (hc:∀(j:Nat)(v:Value),vs[j]?=some v->w.cell? ⟨b,off+j,none⟩=some v)(h1:∀v∈vs,v.oneCell'=true):iE φ I w b off cs :=
 om λ_ _ hj =>
  let ⟨v,hv,hd⟩:=vW h hj
  ⟨v,hc _ v hv,h1 v (dV hv),hd⟩
end
end Go.VS
namespace Go.VS
def O.dg:O->Option Nat
 | .an es _ _=>some es
 | .cS es _=>some es
 | .it ..=>some 1
 |_=>none
def O.len:O->Nat
 | .an _ _ rows=>rows.length
 | .cS _ rows=>rows.length
 |_=>0
def O.mJ:O->Bool
 | .lp ..=>true
 |_=>false
def O.fL:O->Bool
 | .mp ..=>true
 |_=>false
def O.live:O->Bool
 | .dead=>false
 |_=>true
def pK(CS:Array Value):Prop:=∀x∈CS.toList,x.oneCell'=true
def iF(o o':Option Obj):Prop:=∀CS T,o=some (.cells CS T (0,0))->∃kN T',o'=some (.cells kN T' (0,0))/\CS.size<=kN.size/\(pK CS->pK kN)
theorem iF.of_eq{o o':Option Obj}(h:o'=o):iF o o':=λCS T hc=>⟨CS,T,by rw[h];exact hc,bZ _,id⟩
theorem iF.trans{o o' JI:Option Obj}(a:iF o o')(b:iF o' JI):iF o JI:=λCS T hc =>
 let ⟨kN,T',h1,h2,h3⟩:=a CS T hc
 let ⟨EL,T2,k1,k2,k3⟩:=b kN T' h1
 ⟨EL,T2,k1,ig h2 k2,λh=>k3 (h3 h)⟩
def yy:Value->Bool
 | .pointer (some _)=>true
 |_=>false
theorem OH{v:Value}(h:yy v=true):v.oneCell'=true:=by
 cases v<;>simp[yy]at h;rfl
section
variable (φ:bX)
mutual
def ah(h:List O)(g:Gh)(w:World):V->Value->Prop
 | .u,_=>True
 | .fB,v=>v=undef
 | .d x,v=>aC φ g.I w x v
 | .loc n r c,v=>n<h.length/\yy v=true/\∀es,(af h n).dg=some es->v = .pointer (some ⟨g.β n,g.o n+r*es+c,none⟩)
 | .aJ n off len,v=>n<h.length/\v.oneCell'=true/\∀es,(af h n).dg=some es->∃cap,v = .slice (some ⟨g.β n,g.o n+off*es,none⟩) len cap/\len<=cap/\(af h n).len<=off+cap /\
   ∃CS T,w.heap[g.β n]?=some (.cells CS T (0,0))/\g.o n+(off+cap)*es<=CS.size/\pK CS
 | .dX n off len,v=>n<h.length/\v.oneCell'=true/\∀es,(af h n).dg=some es->∃cap,v = .slice (some ⟨g.β n,g.o n+off*es,none⟩) len cap/\len<=cap/\(af h n).len=off+cap /\
   ∃CS T,w.heap[g.β n]?=some (.cells CS T (0,0))/\g.o n+(off+cap)*es<=CS.size/\pK CS
 | .dS _,v=>∃ad:Addr,v = .slice (some ad) 0 0
 | .mp n,v=>n<h.length/\v.oneCell'=true/\((af h n).fL=true->v = .map (some (g.β n)))
 | .rf cs,v=>∃b off us,v = .pointer (some ⟨b,off,none⟩)/\off+cs.length<=g.I b/\aB h g w cs us/\∀(j:Nat)(u:Value),us[j]?=some u->w.cell? ⟨b,off+j,none⟩=some u/\u.oneCell'=true
 | .fC n,v=>n<h.length/\v.oneCell'=true/\((af h n).mJ=true->v = .func (.yield (g.β n)) #[] #[])
 | .fn f a b,v=>∃A B,v = .func (.func (φ f)) A B/\aB h g w a A.toList/\aB h g w b B.toList
 | .ag cs,v=>∃A,v = .agg A/\aB h g w cs A.toList/\∀x∈A.toList,x.oneCell'=true
 | .tu vs,v=>∃A,v = .tuple A/\aB h g w vs A.toList
def aB(h:List O)(g:Gh)(w:World):List V->List Value->Prop
 | [],[]=>True
 |c::cs,v::vs=>ah h g w c v/\aB h g w cs vs
 |_,_=>False
end
def oq(h:List O)(g:Gh)(w:World)(b es o:Nat)(rows:List (List V)):Prop :=
 ∀(r:Nat)(row:List V),rows[r]?=some row->row.length=es /\
  ∀(j:Nat)(c:V),row[j]?=some c->∃x,w.cell? ⟨b,o+r*es+j,none⟩=some x/\x.oneCell'=true/\ah φ h g w c x
def kO(h:List O)(g:Gh)(w:World)(kv:List (D×V))(es:List MapEntry):Prop :=
 kv.length=es.length/\∀(i:Nat)(p:D×V)(e:MapEntry),kv[i]?=some p->es[i]?=some e->aC φ g.I w p.1 e.key/\ah φ h g w p.2 e.val
def ou:Ex->Option Code
 | .normal=>none
 | .exit id=>some (.exit id)
 | .ret=>some .ret
def uo(h:List O)(g:Gh)(w:World)(env:List (Nat×V))(tmps:Array Value):Prop:=∀p∈env,ah φ h g w p.2 (tmps.getD p.1 undef)
def cP(h:List O)(g:Gh)(w:World)(b o:Nat):O->Prop
 | .an es ex rows=>(∃CS T,w.heap[b]?=some (.cells CS T (0,0))/\o+es*rows.length<=CS.size)/\fE φ g.I w b es o rows /\
   (if ex then g.I b<=o else g.I b=o+es*rows.length)
 | .cS es rows=>(∃CS T,w.heap[b]?=some (.cells CS T (0,0))/\o+es*rows.length<=CS.size)/\oq φ h g w b es o rows/\g.I b<=o
 | .mp kv ck bs=>∃ES,w.heap[b]?=some (.map ES ck)/\kO φ h g w kv ES.toList/\ES.toList.map (·.born)=bs/\g.I b=0
 | .lp ps a c e env=>∃(r:Loop)(nt:Nat),w.heap[b]?=some (.loop r)/\r.params=ps.toArray/\φ.lk ps a c r.assign r.body nt/\nt<=r.tmps.size/\uo φ h g w env r.tmps /\
   r.state=(if e = .normal then .ready else .done)/\r.pending=ou e/\g.I b=0
 | .it k since seen=>∃r,w.heap[b]?=some (.mapIter (some r) since seen.toArray since)/\k<h.length/\((af h k).fL=true->r=g.β k)/\o=0/\g.I b=0
 | .dead=>True
structure bT(h:List O)(g:Gh)(w:World):Prop where
 obj:∀n,cP φ h g w (g.β n) (g.o n) (af h n)
 inj:∀n m,(af h n).live=true->(af h m).live=true->g.β n=g.β m->n=m
 new:∀b,w.heap.size<=b->g.I b=0
structure cT(h:List O)(g:Gh)(w:World)(h':List O)(g':Gh)(w':World):Prop where
 ext:Ext g.I w g'.I w'
 len:h.length<=h'.length
 arr:∀n es,n<h.length->(af h' n).dg=some es->(af h n).dg=some es/\g'.β n=g.β n/\g'.o n=g.o n/\(af h' n).len=(af h n).len/\iF w.heap[g.β n]? w'.heap[g.β n]?
 mp:∀n,n<h.length->(af h' n).fL=true->(af h n).fL=true/\g'.β n=g.β n
 lp:∀n,n<h.length->(af h' n).mJ=true->(af h n).mJ=true/\g'.β n=g.β n
variable {φ}
theorem cT.refl(h:List O)(g:Gh)(w:World):cT h g w h g w :=
 ⟨Ext.refl _ _,bZ _,λ_ _ _ he=>⟨he,rfl,rfl,rfl,iF.of_eq rfl⟩,λ_ _ hk=>⟨hk,rfl⟩,λ_ _ hk=>⟨hk,rfl⟩⟩
mutual
theorem fF{h h':List O}{g g':Gh}{w w':World}(hle:cT h g w h' g' w'):∀{x:V}{v:Value},ah φ h g w x v->ah φ h' g' w' x v
 | .u,v,_=>by simp[ah]
 | .fB,v,hr=>by simpa[ah]using hr
 | .d x,v,hr=>by simp only[ah]at hr⊢;exact nA hle.ext hr
 | .loc n r c,v,hr=>by
  simp only[ah]at hr⊢;refine⟨je hr.1 hle.len,hr.2.1,λes he=>?_⟩
  obtain⟨h1,h2,h3,_⟩:=hle.arr n es hr.1 he;rw[h2,h3];exact hr.2.2 es h1
 | .aJ n off len,v,hr=>by
  simp only[ah]at hr⊢;refine⟨je hr.1 hle.len,hr.2.1,λes he=>?_⟩
  obtain⟨h1,h2,h3,h4,h5⟩:=hle.arr n es hr.1 he;obtain⟨cap,hv,hl,hm,CS,T,hb,hs,h1c⟩:=hr.2.2 es h1;obtain⟨kN,T',hb',hs',EM⟩:=h5 CS T hb;refine⟨cap,by rw[h2,h3];exact hv,hl,by rw[h4];exact hm,kN,T',by rw[h2];exact hb',by rw[h3];exact ig hs hs',EM h1c⟩
 | .dX n off len,v,hr=>by
  simp only[ah]at hr⊢;refine⟨je hr.1 hle.len,hr.2.1,λes he=>?_⟩
  obtain⟨h1,h2,h3,h4,h5⟩:=hle.arr n es hr.1 he;obtain⟨cap,hv,hl,hm,CS,T,hb,hs,h1c⟩:=hr.2.2 es h1;obtain⟨kN,T',hb',hs',EM⟩:=h5 CS T hb;refine⟨cap,by rw[h2,h3];exact hv,hl,by rw[h4];exact hm,kN,T',by rw[h2];exact hb',by rw[h3];exact ig hs hs',EM h1c⟩
 | .dS _,v,hr=>by simpa only[ah]using hr
 | .mp n,v,hr=>by
  simp only[ah]at hr⊢;refine⟨je hr.1 hle.len,hr.2.1,λhk=>?_⟩
  obtain⟨hk',h2⟩:=hle.mp n hr.1 hk;rw[h2];exact hr.2.2 hk'
 | .rf cs,v,hr=>by
  simp only[ah]at hr⊢;obtain⟨b,off,us,rfl,hI,hv,hc⟩:=hr;have hl:∀{xs:List V}{vs:List Value},aB φ h g w xs vs->xs.length=vs.length:=by
   intro xs;induction xs with
   |nil=>intro vs hr;cases vs<;>simp_all[aB]
   |cons x xs ih=>intro vs hr;cases vs<;>simp_all[aB];exact ih hr.2
  refine⟨b,off,us,rfl,ig hI (hle.ext.le b),pL hle hv,λj u hj=>?_⟩
  have hj':j<us.length:=(dW.1 hj).1;have:=hl hv;rw[hle.ext.cell b (off+j) (by omega)]
  exact hc j u hj
 | .fC n,v,hr=>by
  simp only[ah]at hr⊢;refine⟨je hr.1 hle.len,hr.2.1,λhk=>?_⟩
  obtain⟨hk',h2⟩:=hle.lp n hr.1 hk;rw[h2];exact hr.2.2 hk'
 | .fn f a b,v,hr=>by
  simp only[ah]at hr⊢;obtain⟨A,B,rfl,ha,hb⟩:=hr;exact⟨A,B,rfl,pL hle ha,pL hle hb⟩
 | .ag cs,v,hr=>by
  simp only[ah]at hr⊢;obtain⟨A,rfl,ha,h1⟩:=hr;exact⟨A,rfl,pL hle ha,h1⟩
 | .tu cs,v,hr=>by
  simp only[ah]at hr⊢;obtain⟨A,rfl,ha⟩:=hr;exact⟨A,rfl,pL hle ha⟩
theorem pL{h h':List O}{g g':Gh}{w w':World}(hle:cT h g w h' g' w'):∀{xs:List V}{vs:List Value},aB φ h g w xs vs->aB φ h' g' w' xs vs
 | [],[],_=>by simp[aB]
 |c::cs,v::vs,hr=>by
  simp only[aB]at hr⊢;exact⟨fF hle hr.1,pL hle hr.2⟩
 | [],_::_,hr=>by simp[aB]at hr
 |_::_,[],hr=>by simp[aB]at hr
end
theorem jo{h:List O}{g:Gh}{w:World}:∀{cs:List V}{vs:List Value},aB φ h g w cs vs->cs.length=vs.length
 | [],[],_=>rfl
 |_::_,_::_,h=>by simp only[aB]at h;simp[jo h.2]
 | [],_::_,h=>by simp[aB]at h
 |_::_,[],h=>by simp[aB]at h
theorem uq{h:List O}{g:Gh}{w:World}:∀{cs:List V}{vs:List Value},aB φ h g w cs vs->∀{j:Nat}{c:V},cs[j]?=some c->∃v,vs[j]?=some v/\ah φ h g w c v
 | [],_,_,j,c,hc=>by simp at hc
 |c::cs,[],h,_,_,_=>by simp[aB]at h
 |c::cs,v::vs,h,j,x,hx=>by
  simp only[aB]at h;cases j with
  |zero=>simp at hx;subst hx;exact⟨v,rfl,h.1⟩
  |succ j=>simpa using uq h.2 (j:=j) (by simpa using hx)
theorem yz{h:List O}{g:Gh}{w:World}{x:V}{v:Value}(hr:ah φ h g w x v):ah φ h g w x.wk v:=by
 cases x with
 |dX n off len =>
  simp only[V.wk,ah]at hr⊢;refine⟨hr.1,hr.2.1,λes he=>?_⟩
  obtain⟨cap,h1,h2,h3,h4⟩:=hr.2.2 es he;exact⟨cap,h1,h2,by omega,h4⟩
 |_=>exact hr
theorem OI{h:List O}{g:Gh}{w:World}{cs:List V}{vs:List Value}(hr:aB φ h g w cs vs):aB φ h g w (cs.map V.wk) vs:=by
 induction cs generalizing vs with
 |nil=>cases vs<;>simp_all[aB]
 |cons c cs ih =>
  cases vs with
  |nil=>simp[aB]at hr
  |cons v vs =>
   simp only[aB]at hr;simp only[cR,aB];exact⟨yz hr.1,ih hr.2⟩
theorem kP{h:List O}{g:Gh}{w:World}{cs ds:List V}{vs us:List Value}(hr:aB φ h g w cs vs)(k:aB φ h g w ds us):aB φ h g w (cs++ds) (vs++us):=by
 induction cs generalizing vs with
 |nil=>cases vs<;>simp_all[aB]
 |cons c cs ih=>cases vs<;>simp_all[aB]
theorem JJ{h:List O}{g:Gh}{w:World}{cs:List V}{vs:List Value}(hr:aB φ h g w cs vs)(n:Nat):aB φ h g w (cs.take n) (vs.take n):=by
 induction cs generalizing vs n with
 |nil=>cases vs<;>simp_all[aB]
 |cons c cs ih=>cases vs<;>cases n<;>simp_all[aB]
theorem Bi{h:List O}{g:Gh}{w:World}{cs:List V}{vs:List Value}(hr:aB φ h g w cs vs)(n:Nat):aB φ h g w (cs.drop n) (vs.drop n):=by
 induction cs generalizing vs n with
 |nil=>cases vs<;>simp_all[aB]
 |cons c cs ih=>cases vs<;>cases n<;>simp_all[aB]
theorem sv{h:List O}{g:Gh}{w:World}{cs:List D}{vs:List Value}(hr:aM φ g.I w cs vs):aB φ h g w (cs.map V.d) vs:=by
 induction cs generalizing vs with
 |nil=>cases vs<;>simp_all[aM,aB]
 |cons c cs ih=>cases vs<;>simp_all[aM,aB,ah]
theorem qS{h:List O}{g:Gh}{w:World}:∀{cs:List V}{ds:List D}{vs:List Value},dY cs=some ds->aB φ h g w cs vs->aM φ g.I w ds vs
 | [],ds,vs,hd,hr=>by simp[dY]at hd;subst hd;cases vs<;>simp_all[aB,aM]
 |c::cs,ds,[],_,hr=>by simp[aB]at hr
 |c::cs,ds,v::vs,hd,hr=>by
  cases c<;>simp only[dY,reduceCtorEq]at hd;rename_i x;cases hq:dY cs with
  |none=>simp[hq]at hd
  |some es =>
   simp[hq]at hd;subst hd;simp only[aB,ah,aM]at hr⊢;exact⟨hr.1,qS hq hr.2⟩
theorem OJ(ds:List D):dY (ds.map V.d)=some ds:=by
 induction ds with
 |nil=>rfl
 |cons d ds ih=>simp[dY,ih]
theorem vY:∀{cs:List V}{ds:List D},dY cs=some ds->cs=ds.map V.d
 | [],ds,h=>by simp[dY]at h;subst h;rfl
 |c::cs,ds,h=>by
  cases c<;>simp only[dY,reduceCtorEq]at h;cases hq:dY cs with
  |none=>simp[hq]at h
  |some es=>simp[hq]at h;subst h;simp[vY hq]
theorem OK{v:Value}(h:v.oneCell'=true):v.cells=#[v]:=by
 cases v<;>first |rfl |simp[Value.oneCell']at h
theorem OL{I:Nat->Nat}{w:World}{x:D}{v:Value}(hr:aC φ I w x v)(hx:∀cs,x≠.ag cs)(hj:x≠.tY):v.oneCell'=true:=by
 cases x<;>simp only[aC]at hr
 case ag cs=>exact absurd rfl (hx cs)
 case tY=>exact absurd rfl hj
 all_goals first
  |(subst hr;rfl)
  |(obtain⟨_,rfl,_⟩:=hr;rfl)
  |(obtain⟨_,_,rfl,_⟩:=hr;rfl)
theorem qT{h:List O}{g:Gh}{w:World}{x:V}{v:Value}(hr:ah φ h g w x v)(hx:x.cells=[x])(h1:v.oneCell'=true):
  aB φ h g w x.cells v.cells.toList/\∀y∈v.cells.toList,y.oneCell'=true:=by
 rw[hx,OK h1];exact⟨by simpa[aB]using hr,by simpa using h1⟩
theorem vZ{h:List O}{g:Gh}{w:World}{x:V}{v:Value}(hr:ah φ h g w x v)(hx:x.known=true):
  aB φ h g w x.cells v.cells.toList/\∀y∈v.cells.toList,y.oneCell'=true:=by
 cases x with
 |u=>simp[V.known]at hx
 |fB=>simp[V.known]at hx
 |tu vs=>simp[V.known]at hx
 |d y =>
  cases y with
  |ag cs =>
   simp only[ah,aC]at hr;obtain⟨A,rfl,ha,h1⟩:=hr;exact⟨sv ha,h1⟩
  |tY=>simp[V.known]at hx
  |_=>exact qT hr rfl (OL (by simpa only[ah]using hr) (by intro _ hh;cases hh) (by intro hh;cases hh))
 |loc n r c=>exact qT hr rfl (by simp only[ah]at hr;exact OH hr.2.1)
 |aJ n off len=>exact qT hr rfl (by simp only[ah]at hr;exact hr.2.1)
 |dX n off len=>exact qT hr rfl (by simp only[ah]at hr;exact hr.2.1)
 |mp n=>exact qT hr rfl (by simp only[ah]at hr;exact hr.2.1)
 |fC n=>exact qT hr rfl (by simp only[ah]at hr;exact hr.2.1)
 |rf cs =>
  refine qT hr rfl ?_;simp only[ah]at hr;obtain⟨b,off,us,rfl,_⟩:=hr;rfl
 |dS es =>
  refine qT hr rfl ?_;simp only[ah]at hr;obtain⟨ad,rfl⟩:=hr;rfl
 |fn f a b =>
  refine qT hr rfl ?_;simp only[ah]at hr;obtain⟨A,B,rfl,_⟩:=hr;rfl
 |ag cs =>
  simp only[ah]at hr;obtain⟨A,rfl,ha,h1⟩:=hr;exact⟨ha,h1⟩
structure qU(h:List O)(g:Gh)(w:World)(h':List O)(w':World)(n:Nat):Prop where
 arr:∀es,(af h' n).dg=some es->(af h n).dg=some es/\(af h' n).len=(af h n).len/\iF w.heap[g.β n]? w'.heap[g.β n]?
 mp:(af h' n).fL=true->(af h n).fL=true
 lp:(af h' n).mJ=true->(af h n).mJ=true
theorem qU.refl(h:List O)(g:Gh)(w:World)(n:Nat):qU h g w h w n:=⟨λ_ he=>⟨he,rfl,iF.of_eq rfl⟩,id,id⟩
theorem qU.trans{h h' h'':List O}{g g':Gh}{w w' w'':World}{n:Nat}(a:qU h g w h' w' n)(b:qU h' g' w' h'' w'' n)(hb:g'.β n=g.β n):qU h g w h'' w'' n where
 arr es he:=by
  obtain⟨h1,h2,h3⟩:=b.arr es he;obtain⟨k1,k2,k3⟩:=a.arr es h1;rw[hb]at h3;exact⟨k1,h2.trans k2,k3.trans h3⟩
 mp hk:=a.mp (b.mp hk)
 lp hk:=a.lp (b.lp hk)
theorem cT.at{h h':List O}{g g':Gh}{w w':World}(hle:cT h g w h' g' w'){n:Nat}(hn:n<h.length):qU h g w h' w' n :=
 ⟨λes he=>let ⟨h1,_,_,h2,h3⟩:=hle.arr n es hn he;⟨h1,h2,h3⟩,λhk=>(hle.mp n hn hk).1,λhk=>(hle.lp n hn hk).1⟩
structure Frame(m:Nat)(h:List O)(g:Gh)(w:World)(h':List O)(g':Gh)(w':World):Prop where
 ext:Ext g.I w g'.I w'
 size:w.heap.size<=w'.heap.size
 os:w'.os=w.os
 tape:w'.tape=w.tape
 output:w'.output=w.output
 eU:∀n,n<m->g'.β n=g.β n/\g'.o n=g.o n
 keep:∀b,b<w.heap.size->(∀n,(af h n).live=true->g.β n≠b)->w'.heap[b]?=w.heap[b]?/\g'.I b=g.I b
 gT:∀n,(af h' n).live=true->(∃k,(af h k).live=true/\g.β k=g'.β n)\/w.heap.size<=g'.β n
 jq:∀n,n<m->qU h g w h' w' n
theorem Frame.refl(m:Nat)(h:List O)(g:Gh)(w:World):Frame m h g w h g w :=
 ⟨Ext.refl _ _,bZ _,rfl,rfl,rfl,λ_ _=>⟨rfl,rfl⟩,λ_ _ _=>⟨rfl,rfl⟩,λn hn=>.inl ⟨n,hn,rfl⟩,λn _=>qU.refl _ _ _ n⟩
theorem Frame.trans{m:Nat}{h h' h'':List O}{g g' g'':Gh}{w w' w'':World}(a:Frame m h g w h' g' w')(b:Frame m h' g' w' h'' g'' w''):Frame m h g w h'' g'' w'' where
 ext:=a.ext.trans b.ext
 size:=ig a.size b.size
 os:=b.os.trans a.os
 tape:=b.tape.trans a.tape
 output:=b.output.trans a.output
 eU n hn:=⟨(b.eU n hn).1.trans (a.eU n hn).1,(b.eU n hn).2.trans (a.eU n hn).2⟩
 keep k hk hn:=by
  have h1:=a.keep k hk hn;have h2:=b.keep k (je hk a.size) (λn hl he=>by
   rcases a.gT n hl with⟨j,hj,hb⟩ |hs
   .exact hn j hj (hb.trans he)
   .omega)
  exact⟨h2.1.trans h1.1,h2.2.trans h1.2⟩
 gT n hn:=by
  rcases b.gT n hn with⟨k,hk,hb⟩ |hs
  .rcases a.gT k hk with⟨j,hj,hc⟩ |hs'
   .exact .inl ⟨j,hj,hc.trans hb⟩
   .exact .inr (by omega)
  .exact .inr (by have:=a.size;omega)
 jq n hn:=(a.jq n hn).trans (b.jq n hn) (a.eU n hn).1
end
end Go.VS
