import GoSem.Step
import Derived.WalkKit
import Derived.Laws.Sem
import GoSem.Extern.Table
import Derived.Laws.Cover3
import Derived.ChangeKeysEq
import Derived.WideLaws
set_option linter.all false
set_option maxHeartbeats 1000000
namespace Go.VS
def aN:=@if_pos
def dH:=@if_true
def dK:=@if_false
def aG:=@if_neg
def bD:=@Bool.and_eq_true
def Cm:=@Classical.choose_spec
def xI:=@Bool.true_and
def AM:=@Bool.false_and
def fG:=@Bool.false_eq_true
def vM:=@List.map_congr_left
def th:=@List.getElem?_append_left
def AN:=@List.eq_nil_or_concat
def gD:=@List.take_of_length_le
def qB:=@List.drop_eq_nil_of_le
def xJ:=@List.findIdx?_cons
def Kx:=@List.findIdx?_eq_none_iff
def oK:=@List.any_eq_false
def G5:=@List.findIdx?_eq_some_iff_getElem
def qC:=@List.any_eq_true
def vN:=@List.getElem_mem
def xK:=@List.all_cons
def Xs:=@List.getLast?_append
def Xt:=@List.getLast?_singleton
def G6:=@Bool.or_false
def Qb:=@Bool.or_true
def G7:=@List.concat_eq_append
def l6:=@List.length_append
def vO:=@List.length_singleton
def Qc:=@Option.any_some
def Xu:=@List.findIdx?_append
def dD:=@List.mem_cons
def y9:=@Bool.eq_iff_iff
def oL:=@List.takeWhile_cons
def gE:=@List.pairwise_cons
def lE:=@List.mem_of_getElem?
def Qd:=@Int.fdiv_eq_ediv_of_nonneg
def qE:=@List.getElem?_eq_getElem
def za:=@Option.some.inj
def Xv:=@List.getElem?_cons_succ
def Qe:=@List.filter_eq_self
def AO:=@List.take_append_drop
def dm:=@List.mem_append
def iZ:=@Bool.not_eq_true'
def xL:=@Bool.or_eq_false_iff
def Qf:=@Bool.not_eq_false'
def zb:=@List.mem_cons_of_mem
def gY:=@List.mem_map
def Qg:=@List.mem_map_of_mem
def gf:=@decide_eq_true_eq
def kM:=@decide_eq_false_iff_not
def Xw:=@Int.tdiv_eq_ediv_of_nonneg
def G8:=@Int.mul_nonneg
def G9:=@List.length_eq_one_iff
def uA:=@List.take_left'
def sF:=@List.getElem?_eq_some_iff
def Xx:=@List.drop_eq_getElem_cons
def Cn:=@List.map_take
def Co:=@List.map_drop
def aq:=@List.idxOf_cons
def xM:=@List.length_map
def cy:=@Nat.not_succ_le_self
def vP:=@List.getElem?_map
def ke:=@List.map_map
def oa:=@List.mem_of_mem_take
def mV:=@List.mem_of_mem_drop
def Ek:=@List.drop_left'
def El:=@List.mem_append_left
def He:=@List.mem_append_right
def dO:=@beq_iff_eq
def Ky:=@List.isEmpty_iff
def rK:=@List.length_pos_iff
def Xy:=@List.Pairwise.sublist
def xN:=@List.filter_sublist
def lF:=@List.mem_filter
def ze:=@List.mem_singleton
def Qh:=@decide_eq_true
def Hf:=@List.Sublist.append
def tj:=@List.Sublist.refl
def Hg:=@List.sublist_cons_self
def ir:=@List.length_cons
def Kz:=@List.all_append
def oM:=@List.length_filter_le
def KA:=@List.mem_or_eq_of_mem_set
def uB:=@Option.bind_some
def gm:=@List.map_cons
def gQ:=@List.map_nil
def gh:=@Nat.le_refl
def mE:=@Nat.le_trans
def pU:=@Nat.lt_of_lt_of_le
def Hh:=@Nat.mul_add
def Qi:=@Nat.mul_one
def qF:=@Nat.add_assoc
def rL:=@Nat.add_comm
def rM:=@Nat.succ_mul
def lG:=@Nat.lt_or_ge
def oc:=@List.getElem?_eq_none
def KB:=@Array.getElem?_eq_none
def Cq:=@Nat.zero_le
def tr:=@Nat.lt_trichotomy
def Hi:=@Array.getElem?_setIfInBounds_ne
def KC:=@Int.not_lt
def Xz:=@List.head?_eq_getElem?
def Hj:=@Nat.add_zero
def zf:=@List.getElem?_take
def tv:=@List.getElem_of_mem
def pX:=@List.getElem?_drop
def gz:=@Option.some.injEq
def Qj:=@Option.ite_none_right_eq_some
def KD:=@bne_iff_ne
def og:=@Option.bind_eq_some_iff
def gI:=@Option.map_eq_some_iff
def Em:=@List.drop_drop
def zg:=@ne_eq
def Qk:=@List.replicate_succ
def Cr:=@Bool.or_eq_true
def jt:=@Nat.mul_comm
def l7:=@Nat.mul_le_mul_right
def nD:=@Nat.add_mul
def zh:=@List.flatten_cons
def AP:=@List.getElem?_append_right
def Ql:=@Nat.mul_succ
def oh:=@Nat.zero_add
def KE:=@List.foldl_cons
def En:=@Array.toList_map
def Cs:=@List.getElem?_toArray
def XA:=@List.getElem_range
def mX:=@List.nil_append
def Hl:=@List.take_append
def tw:=@List.append_assoc
def Ho:=@List.mem_replicate
def tA:=@Option.map_some
def uC:=@Prod.mk.injEq
def mY:=@List.length_nil
def XB:=@Nat.add_sub_cancel_left
def AQ:=@List.eq_nil_of_length_eq_zero
def Qm:=@Nat.mul_le_mul_left
def KF:=@Nat.mul_le_mul
def Qn:=@Array.ext'
def KG:=@List.mem_range
def XC:=@Nat.eq_zero_or_pos
def Qo:=@List.take_succ_cons
def XD:=@List.drop_succ_cons
def Eo:=@List.flatten_append
def zi:=@List.all_eq_true
def xO:=@List.idxOf_lt_length_of_mem
def AR:=@List.mem_flatMap
def Qp:=@List.Nodup.idxOf_getElem
def nE:=@not_or
def Ep:=@List.nodup_cons
def vQ:=@Option.getD_some
def KH:=@Nat.min_eq_left
def Qq:=@List.mem_of_find?_eq_some
def Hp:=@List.find?_some
def tB:=@List.cons_append
def Qr:=@Bool.and_true
def Qt:=@Option.isSome_iff_exists
def KI:=@List.zip_cons_cons
def KJ:=@beq_self_eq_true
def KK:=@List.getElem?_set
def XE:=@Array.toArray_toList
def XF:=@List.contains_eq_mem
def AS:=@Array.getD_eq_getD_getElem?
def Qu:=@List.flatMap_cons
def bA:=@List.range_succ
def qG:=@List.append_nil
def xP:=@and_true
def XG:=@Array.mem_toList_iff
def vR:=@Classical.byContradiction
def Er:=@Array.getElem?_eq_some_iff
def AT:=@Option.isSome_none
def Qv:=@List.length_range
def AU:=@List.take_take
def Ct:=@List.take_append_of_le_length
def KL:=@Nat.min_self
def Qw:=@List.length_drop
def Qx:=@Int.toNat_natCast
def XH:=@List.length_replicate
def XI:=@List.getElem_replicate
def Cu:=@List.map_eq_nil_iff
def xQ:=@List.map_append
def Qy:=@Bool.not_false
def xR:=@List.singleton_append
def XJ:=@List.filter_append
def oN:=@List.pairwise_append
def Qz:=@Int.le_of_lt
def XK:=@List.dropWhile_cons
def xS:=@List.length_eq_zero_iff
def XL:=@List.pairwise_singleton
def QA:=@List.takeWhile_append_dropWhile
def XM:=@List.head?_dropWhile_not
def Es:=@List.eraseIdx_append_of_length_le
def XN:=@List.takeWhile_sublist
def XO:=@List.eraseIdx_sublist
def Cv:=@not_true
def Hq:=@List.pairwise_map
def QB:=@List.all_nil
def QC:=@Bool.and_self
def KM:=@List.find?_eq_none
def uD:=@Eq.trans
def XP:=@List.filter_cons_of_neg
def KN:=@Bool.not_eq_true
def Et:=@List.append_of_mem
def KO:=@bne_eq_false_iff_eq
def XQ:=@List.mem_iff_getElem?
def QD:=@List.dropWhile_sublist
def XR:=@Bool.true_eq_false
def KP:=@List.append_inj'
def KQ:=@true_and
def KR:=@and_congr
def Hr:=@Option.isSome_some
inductive D where
 |b(x:Bool)
 |i(k:IntKind)(n:Int)
 |s(x:List UInt8)
 |nil
 |ref(cs:List D)
 |sl(es:Nat)(nl:Bool)(xs:List (List D))
 |fn(f:Nat)(first caps:List D)
 |cN
 |kf(t:Nat)(x:D)
 |AV
 |uE
 |ag(cs:List D)
 |Cw
 deriving Inhabited
inductive V where
 |u
 |kN
 |d(x:D)
 |loc(n r c:Nat)
 |aR(n off len:Nat)
 |jl(n off len:Nat)
 |jc(es:Nat)
 |mp(n:Nat)
 |fn(f:Nat)(first caps:List V)
 |ag(cs:List V)
 |tu(vs:List V)
 |ju(n:Nat)
 |rf(cs:List V)
 deriving Inhabited
inductive A where
 |t(n:Nat)
 |k(x:D)
inductive CK where
 |b |i |s
 deriving DecidableEq
inductive LK where
 |sl |s |mp
 deriving DecidableEq
inductive NK where
 |sl |mp |fn |pt |kf
 deriving DecidableEq
inductive I where
 |mv(d:Nat)(x:A)
 |pick(d:Nat)(c a b:A)
 |box(d:Nat)(x:A)(n:Nat)(fz:Bool)
 |new(d:Nat)(z:List D)
 |build(d:Nat)(z:List D)(ps:List (Nat×Nat×A))
 |mZ(d:Nat)(es n:Nat)(z:List D)(ps:List (Nat×A))(fz:Bool)
 |ld(d:Nat)(x:A)(n:Nat)(ag:Bool)
 |st(x y:A)(n:Nat)(fz:Bool)
 |fa(d:Nat)(x:A)(o n:Nat)
 |jm(d:Nat)(x i:A)(es:Nat)
 |oP(d:Nat)(x i:A)(len es:Nat)
 |sG(d:Nat)(x:A)(o n:Nat)(ag:Bool)
 |bin(d:Nat)(op:BinOp)(x y:A)
 |eqv(d:Nat)(neg:Bool)(x y:A)(ks:List CK)
 |qH(d:Nat)(neg:Bool)(x:A)(k:NK)
 |un(d:Nat)(op:UnOp)(x:A)
 |kP(d:Nat)(k:IntKind)(x:A)
 |len(d:Nat)(x:A)(k:LK)
 |sl(d:Nat)(x:A)(lo hi:Option A)(es:Nat)
 |app(d:Nat)(x y:A)(es:Nat)
 |qI(d:Option Nat)(x:A)(es:Nat)(z:List D)
 |copy(d:Option Nat)(x y:A)(es:Nat)
 |ext(d:Nat)(x:A)(i:Nat)
 |gJ(d:Nat)(f:Nat)(first caps:List A)
 |mF(d:Nat)
 |fI(m k v:A)(ks:List CK)
 |pY(d:Nat)(m k:A)(z:D)(ok:Bool)(ks:List CK)
 |call(d:Option Nat)(f:Nat)(xs:List A)
 |nF(d:Option Nat)(f:Nat)(xs:List A)
 |jo(d:Option Nat)(f:Nat)(xs:List A)
 |nG(d:Option Nat)(x:A)(xs:List A)
 |pZ(d:Option Nat)(x:A)(xs:List A)
 |tD(d:Nat)(x:A)
 |rN(d:Nat)(x lo hi mx:A)(es:Nat)
 |cap(d:Nat)(x:A)
 |sH(d:Nat)(x k:A)(es:Nat)(z:List D)
 |sle(d:Nat)(x:A)(lo hi:Option A)(es:Nat)
 |rO(d:Nat)(f:Nat)(x y:A)(es:Nat)
 |bad(d:Option Nat)
 |sI(d:Nat)(x:A)(n:Nat)(ag:Bool)
 |p5(d:Nat)(x:A)(o n:Nat)
 |p6(d:Option Nat)(x:A)(xs:List A)
 |sJ(d:Nat)(x y:A)(es:Nat)
 |nH(d:Nat)(f:Nat)(xs:List A)
 |calls(d:Option Nat)(f:Nat)(xs:List A)
 |nI(d t:Nat)(x:A)
 |inv(d:Option Nat)(nm:String)(kg:List (Nat×Nat×Nat))(x:A)(xs:List A)
 |mx(d:Nat)(x y:A)
 |vS(d es:Nat)(z:List D)(n k:A)
inductive J where
 |op(i:I)
 |sc(fM:Bool)(d c:Nat)(body:List J)(x:A)
 |re(i:I)
inductive C where
 |skip
 |cB(js:List J)
 |mG(fl perm:List Nat)(js:List J)
 |seq(a b:C)
 |ite(c:A)(a b:C)
 |cr(id:Nat)(c:C)
 |loop(live:List Nat)(c:C)
 |exit(id:Nat)
 |ret
 |qJ(ds:List Nat)
 |keep(ds:List Nat)
 |sK(x:A)(live:List Nat)(ps:List Nat)(a b:C)
 |xT(d k:Nat)
inductive RV where
 |t(n:Nat)
 |c(n cells:Nat)(ag:Bool)
inductive Ex where
 |normal
 |exit(id:Nat)
 |ret
 deriving DecidableEq
inductive O where
 |aI(es:Nat)(ex:Bool)(rows:List (List D))
 |gK(es:Nat)(rows:List (List V))
 |mp(kv:List (D×V))
 |lp(ps:List Nat)(a b:C)(e:Ex)(env:List (Nat×V))
 |dead
 deriving Inhabited
structure St where
 env:List (Nat×V)
 heap:List O
 ok:Bool
inductive zj where
 |call(f:Nat)(xs:List V)(h:List O)
 |loop(m:Nat)(live:List Nat)(c:C)(env:List (Nat×V))(h:List O)
 |round(ps:List Nat)(a b:C)(xs:List V)(env:List (Nat×V))(h:List O)
inductive dL where
 |val(v:V)(h:List O)
 |out(e:Ex)(env:List (Nat×V))(h:List O)
structure F where
 code:C
 res:List RV
 keep:Bool:=false
 AW:Option (List V->List O->Option (V×List O)):=none
def cC:List (Nat×V)->Nat->V
 | [],_=>.u
 |(k,v)::r,n=>if k=n then v else cC r n
def St.get(s:St):A->V
 | .t n=>cC s.env n
 | .k x=>.d x
def St.put(s:St)(d:Nat)(v:V):St:=⟨(d,v)::s.env,s.heap,s.ok⟩
def St.fail(s:St):St:=⟨s.env,s.heap,false⟩
def St.fu(s:St)(d:Nat):Option V->St
 |some v=>s.put d v
 |none=>s.fail
def St.gi(s:St)(d:Nat):Option (V×List O)->St
 |some (v,h)=>⟨(d,v)::s.env,h,s.ok⟩
 |none=>s.fail
def St.lH(s:St)(d:Option Nat):Option (V×List O)->St
 |some (v,h)=>match d with
  |some d=>⟨(d,v)::s.env,h,s.ok⟩
  |none=>⟨s.env,h,s.ok⟩
 |none=>s.fail
def St.sL(s:St):Option (List O)->St
 |some h=>⟨s.env,h,s.ok⟩
 |none=>s.fail
def aV(h:List O)(n:Nat):O:=h.getD n .dead
def O.row(o:O)(r:Nat):Option (List V):=
 match o with
 | .aI _ _ rows=>(rows[r]?).map λcs=>cs.map .d
 | .gK _ rows=>rows[r]?
 |_=>none
def eY:List V->Option (List D)
 | []=>some []
 | .d x::r=>(eY r).map (x::·)
 |_::_=>none
def V.cells:V->List V
 | .d (.ag cs)=>cs.map .d
 | .ag cs=>cs
 |v=>[v]
def V.known:V->Bool
 | .u | .kN | .tu _ | .d .Cw=>false
 |_=>true
def Cx(cs:List V):V :=
 match eY cs with
 |some ds=>.d (.ag ds)
 |none=>.ag cs
def mkRef(cs:List V):V :=
 match eY cs with
 |some ds=>.d (.ref ds)
 |none=>.rf cs
def D.cells:D->List D
 | .ag cs=>cs
 |x=>[x]
mutual
def eG(h:List O):V->Option D
 | .d x=>some x
 | .jc es=>some (.sl es false [])
 | .aR n off len =>
  match aV h n with
  | .aI es _ rows=>if off+len<=rows.length then some (.sl es false ((rows.drop off).take len))else none
  |_=>none
 | .loc n r c =>
  match aV h n with
  | .aI _ _ rows=>(rows[r]?).bind λrow=>if c<=row.length then some (.ref (row.drop c))else none
  |_=>none
 | .ag cs=>(gZ h cs).map .ag
 | .rf cs=>(gZ h cs).map .ref
 | .fn f a b=>(gZ h a).bind λx=>(gZ h b).map λy=>.fn f x y
 |_=>none
def gZ(h:List O):List V->Option (List D)
 | []=>some []
 |v::r=>(eG h v).bind λx=>(gZ h r).map (x::·)
end
mutual
def V.dy:V->List Nat
 | .loc n _ _=>[n]
 | .aR n _ _=>[n]
 | .jl n _ _=>[n]
 | .mp n=>[n]
 | .ju n=>[n]
 | .fn _ a b=>V.gA a++V.gA b
 | .ag cs=>V.gA cs
 | .rf cs=>V.gA cs
 | .tu vs=>V.gA vs
 |_=>[]
def V.gA:List V->List Nat
 | []=>[]
 |v::r=>v.dy++V.gA r
end
def bg(h:List O)(n:Nat):List O :=
 match aV h n with
 | .aI es _ rows=>h.set n (.aI es false rows)
 |_=>h
def aX(h:List O):List Nat->List O
 | []=>h
 |n::r=>aX (bg h n) r
def bt(h:List O)(v:V):Option (D×List O):=(eG h v).map λx=>(x,aX h v.dy)
mutual
def V.dP(g:Nat->Nat):V->V
 | .loc n r c=>.loc (g n) r c
 | .aR n o l=>.aR (g n) o l
 | .jl n o l=>.jl (g n) o l
 | .mp n=>.mp (g n)
 | .ju n=>.ju (g n)
 | .fn f a b=>.fn f (V.iQ g a) (V.iQ g b)
 | .ag cs=>.ag (V.iQ g cs)
 | .rf cs=>.rf (V.iQ g cs)
 | .tu vs=>.tu (V.iQ g vs)
 |v=>v
def V.iQ(g:Nat->Nat):List V->List V
 | []=>[]
 |v::r=>v.dP g::V.iQ g r
end
def zk(g:Nat->Nat)(env:List (Nat×V)):List (Nat×V):=env.map λp=>(p.1,p.2.dP g)
def rP:List (Nat×V)->List Nat
 | []=>[]
 |p::r=>p.2.dy++rP r
def O.dP(g:Nat->Nat):O->O
 | .gK es rows=>.gK es (rows.map (V.iQ g))
 | .mp kv=>.mp (kv.map λp=>(p.1,p.2.dP g))
 | .lp ps a b e env=>.lp ps a b e (zk g env)
 |o=>o
def O.dy:O->List Nat
 | .gK _ rows=>rows.flatMap V.gA
 | .mp kv=>kv.flatMap λp=>p.2.dy
 | .lp _ _ _ _ env=>rP env
 |_=>[]
def reach(h:List O):Nat->List Nat->List Nat->List Nat
 | 0,_,acc=>acc
 |_+1,[],acc=>acc
 |f+1,n::t,acc=>if n∈acc then reach h f t acc else reach h f (t++(aV h n).dy) (acc++[n])
def sub(h:List O)(L:List Nat):List O:=L.map λn=>(aV h n).dP (L.idxOf ·)
def cut(h:List O)(m:Nat)(roots:List Nat):Option (List Nat):=
 let L:=List.range m++(reach h 1000 (List.range m++roots) []).filter (m<=·)
 if L.Nodup/\roots.all (·∈L)/\L.all (λn=>n<h.length/\(aV h n).dy.all (·∈L))then some L else none
def jS(live:List Nat)(env:List (Nat×V)):List (Nat×V):=live.map λn=>(n,cC env n)
def canon(m:Nat)(live:List Nat)(env:List (Nat×V))(h:List O):Option (List (Nat×V)×List O):=
 match h with
 | []=>some (jS live env,[])
 |_=>(cut h m (rP (jS live env))).map λL=>((jS live env).map λp=>(p.1,p.2.dP (L.idxOf ·)),sub h L)
def V.wk:V->V
 | .jl n off len=>.aR n off len
 |v=>v
def arith(op:BinOp)(k:IntKind)(x y:Int):Option V :=
 match op with
 | .add=>some (.d (.i k (k.wrap (x+y))))
 | .sub=>some (.d (.i k (k.wrap (x - y))))
 | .mul=>some (.d (.i k (k.wrap (x*y))))
 | .quo=>if y=0 then none else some (.d (.i k (k.wrap (x.tdiv y))))
 | .rem=>if y=0 then none else some (.d (.i k (x.tmod y)))
 | .eql=>some (.d (.b (x==y)))
 | .neq=>some (.d (.b (x != y)))
 | .lss=>some (.d (.b (decide (x<y))))
 | .leq=>some (.d (.b (decide (x<=y))))
 | .gtr=>some (.d (.b (decide (y<x))))
 | .geq=>some (.d (.b (decide (y<=x))))
 |_=>none
def Cy(op:BinOp):V->V->Option V
 | .d (.i k x),.d (.i k' y) =>
  match op with
  | .shl=>if 0<=y then some (.d (.i k (k.wrap (x*2 ^ (min y.toNat k.bits)))))else none
  | .shr=>if 0<=y then some (.d (.i k (x.fdiv (2 ^ (min y.toNat k.bits)))))else none
  |_=>if k=k' then arith op k x y else none
 | .d (.s x),.d (.s y) =>
  match op with
  | .eql=>some (.d (.b (x==y)))
  | .neq=>some (.d (.b (!(x==y))))
  | .lss=>some (.d (.b (Op.bytesLess x y)))
  |_=>none
 |_,_=>none
def Cz:CK->D->D->Option Bool
 | .i,.i k x,.i k' y=>if k=k' then some (x==y)else none
 | .b,.b x,.b y=>some (x==y)
 | .s,.s x,.s y=>some (x==y)
 |_,_,_=>none
def jT:List CK->List D->List D->Option Bool
 | [],[],[]=>some true
 |k::ks,x::xs,y::ys=>(Cz k x y).bind λp=>(jT ks xs ys).map λq=>p&&q
 |_,_,_=>none
def KS(ks:List CK)(neg:Bool):V->V->Option V
 | .d (.ag x),.d (.ag y)=>(jT ks x y).map λp=>.d (.b (p != neg))
 |_,_=>none
def eqB(neg:Bool):V->V->Option V
 | .d (.b x),.d (.b y)=>some (.d (.b ((x==y) != neg)))
 |_,_=>none
def vT(h:List O)(n:Nat):Bool:=match aV h n with | .aI .. | .gK ..=>true |_=>false
def isNil(h:List O):NK->V->Option Bool
 | .sl,.d (.sl _ nl _)=>some nl
 | .sl,.aR n _ _=>if vT h n then some false else none
 | .sl,.jc _=>some false
 | .mp,.d .uE=>some true
 | .mp,.mp n=>match aV h n with | .mp _=>some false |_=>none
 | .fn,.d .cN=>some true
 | .fn,.d (.fn ..)=>some false
 | .fn,.fn ..=>some false
 | .pt,.d .nil=>some true
 | .pt,.d (.ref _)=>some false
 | .pt,.rf _=>some false
 | .pt,.loc n _ _=>if vT h n then some false else none
 | .kf,.d .AV=>some true
 | .kf,.d (.kf ..)=>some false
 |_,_=>none
def KT(op:UnOp):V->Option V
 | .d (.b x)=>match op with | .not=>some (.d (.b (!x))) |_=>none
 | .d (.i k x)=>match op with | .neg=>some (.d (.i k (k.wrap (0 - x)))) |_=>none
 |_=>none
def kP(k:IntKind):V->Option V
 | .d (.i _ x)=>some (.d (.i k (k.wrap x)))
 |_=>none
def rQ(h:List O):LK->V->Option V
 | .sl,.d (.sl _ _ xs)=>some (.d (.i .i64 xs.length))
 | .sl,.aR n _ len=>if vT h n then some (.d (.i .i64 len))else none
 | .sl,.jc _=>some (.d (.i .i64 0))
 | .s,.d (.s x)=>some (.d (.i .i64 x.length))
 | .mp,.d .uE=>some (.d (.i .i64 0))
 | .mp,.mp n=>match aV h n with | .mp kv=>some (.d (.i .i64 kv.length)) |_=>none
 |_,_=>none
def asInt:V->Option Int
 | .d (.i _ n)=>some n
 |_=>none
def jm(es:Nat)(x i:V)(h:List O):Option V :=
 match x,i with
 | .d (.sl e _ xs),.d (.i _ j)=>if 0<=j/\e=es then(xs[j.toNat]?).map λrow=>.d (.ref row)else none
 | .aR n off len,.d (.i _ j) =>
  match aV h n with
  | .aI e _ _ | .gK e _=>if 0<=j/\j<len/\e=es then some (.loc n (off+j.toNat) 0)else none
  |_=>none
 |_,_=>none
def oP(h:List O)(len es:Nat)(x i:V):Option V :=
 match x,i with
 | .d (.ref cs),.d (.i _ j)=>if 0<=j/\j<len/\len*es<=cs.length then some (.d (.ref (cs.drop (j.toNat*es))))else none
 | .loc n r c,.d (.i _ j)=>if 0<=j/\j<len/\vT h n=true then some (.loc n r (c+j.toNat*es))else none
 |_,_=>none
def fa(h:List O)(o n:Nat):V->Option V
 | .d (.ref cs)=>if o+n<=cs.length then some (.d (.ref (cs.drop o)))else none
 | .rf cs=>if o+n<=cs.length then some (.rf (cs.drop o))else none
 | .loc m r c=>if vT h m then some (.loc m r (c+o))else none
 |_=>none
def pack(n:Nat)(ag:Bool)(cs:List V):Option V :=
 if ag then(if n<=cs.length then some (Cx (cs.take n))else none)else cs.head?
def CC(n:Nat)(ag:Bool)(cs:List D):Option V :=
 if ag then(if n<=cs.length then some (.d (.ag (cs.take n)))else none)else cs.head?.map .d
def zl(h:List O)(n:Nat)(ag:Bool):V->Option V
 | .d (.ref cs)=>CC n ag cs
 | .rf cs=>pack n ag cs
 | .loc m r c =>
  match aV h m with
  | .aI _ _ rows=>(rows[r]?).bind λrow=>CC n ag (row.drop c)
  | .gK _ rows=>(rows[r]?).bind λrow=>pack n ag (row.drop c)
  |_=>none
 |_=>none
def KU(n:Nat)(ag:Bool):V->Option V
 | .d (.ref cs)=>CC n ag cs
 | .rf cs=>pack n ag cs
 |_=>none
def KV(o n:Nat):V->Option V
 | .d (.ref cs)=>if o+n<=cs.length then some (.d (.ref (cs.drop o)))else none
 | .rf cs=>if o+n<=cs.length then some (.rf (cs.drop o))else none
 |_=>none
def av{α:Type}(cs:List α)(o:Nat)(new:List α):List α:=cs.take o++new++cs.drop (o+new.length)
def KW(h:List O)(n:Nat)(p v:V):Option (List O):=
 match p with
 | .loc m r c =>
  match aV h m with
  | .aI es true rows =>
   match rows[r]? with
   |some row =>
    if c+n<=row.length/\v.cells.length=n/\v.known=true then
     match eY v.cells with
     |some ds=>some (h.set m (.aI es true (rows.set r (av row c ds))))
     |none=>some (h.set m (.gK es ((rows.map λx=>x.map V.d).set r (av (row.map V.d) c v.cells))))
    else none
   |none=>none
  | .gK es rows =>
   match rows[r]? with
   |some row=>if c+n<=row.length/\v.cells.length=n/\v.known=true then some (h.set m (.gK es (rows.set r (av row c v.cells))))else none
   |none=>none
  |_=>none
 |_=>none
def AX(h:List O)(es:Nat):V->Option (List (List D))
 | .d (.sl e _ xs)=>if e=es then some xs else none
 | .jc _=>some []
 | .aR n off len =>
  match aV h n with
  | .aI e _ rows=>if e=es/\off+len<=rows.length then some ((rows.drop off).take len)else none
  |_=>none
 | .jl n off len =>
  match aV h n with
  | .aI e _ rows=>if e=es/\off+len<=rows.length then some ((rows.drop off).take len)else none
  |_=>none
 |_=>none
def room:Nat:=4294967296
def Eu(h:List O)(es:Nat)(x y:V):Option (V×List O):=
 match AX h es y with
 |none=>none
 |some ys =>
  match x with
  | .d (.sl e nl _) =>
   if e=es then
    if ys.length=0 then some (x,h)
    else if nl/\ys.length<=room then some (.aR h.length 0 ys.length,h++[.aI es true ys])else none
   else none
  | .jc _=>if ys.length=0 then some (.jc es,h)else if ys.length<=room then some (.aR h.length 0 ys.length,h++[.aI es true ys])else none
  | .aR n off len =>
   match aV h n with
   | .aI e ex rows =>
    if e=es/\off+len<=rows.length then
     if ys.length=0 then some (x,h)
     else if off+len+ys.length<=rows.length then
      if ex then some (.aR n off (len+ys.length),h.set n (.aI es ex (av rows (off+len) ys)))else none
     else if(ex\/off+len=rows.length)/\len+ys.length<=room then
      some (.aR h.length 0 (len+ys.length),h.set n .dead++[.aI es ex ((rows.drop off).take len++ys)])
     else none
    else none
   |_=>none
  | .jl n off len =>
   match aV h n with
   | .aI e ex rows =>
    if e=es/\off+len<=rows.length then
     if ys.length=0 then some (x,h)
     else if off+len+ys.length<=rows.length then
      if ex then some (.jl n off (len+ys.length),h.set n (.aI es ex (av rows (off+len) ys)))else none
     else if len+ys.length<=room then some (.aR h.length 0 (len+ys.length),h++[.aI es true ((rows.drop off).take len++ys)])else none
    else none
   |_=>none
  |_=>none
def aaa(h:List O)(es:Nat)(x y:V):Option V :=
 match AX h es y with
 |none=>none
 |some ys =>
  match x with
  | .d (.sl e nl [])=>if e=es/\nl=true/\ys.length<=room then some (.d (.sl es (decide (ys.length=0)) ys))else none
  | .jc _=>if ys.length<=room then some (.d (.sl es false ys))else none
  |_=>none
def KX(h:List O)(es:Nat)(z:List D)(x:V)(k:Option Int):Option (V×List O):=
 match k with
 |none=>none
 |some k =>
  if 0<k/\z.length=es then
   match x with
   | .d (.sl e nl _)=>if e=es/\nl=true/\k.toNat<=room then some (.aR h.length 0 k.toNat,h++[.aI es true (List.replicate k.toNat z)])else none
   | .jc e=>if e=es/\k.toNat<=room then some (.aR h.length 0 k.toNat,h++[.aI es true (List.replicate k.toNat z)])else none
   | .jl n off len =>
    match aV h n with
    | .aI e _ rows =>
     if e=es/\off+len<=rows.length/\rows.length<off+len+k.toNat/\len+k.toNat<=room then
      some (.aR h.length 0 (len+k.toNat),h++[.aI es true ((rows.drop off).take len++List.replicate k.toNat z)])else none
    |_=>none
   |_=>none
  else none
def KY(h:List O)(es:Nat)(z:List D)(n k:Option Int):Option (V×List O):=
 match n,k with
 |some n,some k=>if 0<=n/\n<=k/\k.toNat*es<=16777216/\z.length=es then some (.aR h.length 0 n.toNat,h++[.aI es true (List.replicate n.toNat z)])else none
 |_,_=>none
def KZ(h:List O):V->Option V
 | .d (.sl _ true _)=>some (.d (.i .i64 0))
 | .jc _=>some (.d (.i .i64 0))
 | .jl n off _=>match aV h n with | .aI _ _ rows=>if off<=rows.length then some (.d (.i .i64 (rows.length - off:Nat)))else none |_=>none
 |_=>none
def K0(h:List O)(es:Nat)(x y:V):Option V :=
 match x,y.wk with
 | .d (.sl e _ _),.aR n _ _=>match aV h n with | .aI _ true _=>if e=es then some (.d (.b false))else none |_=>none
 |_,_=>none
def uF(s:St)(dflt:Int):Option A->Option Int
 |none=>some dflt
 |some a=>asInt (s.get a)
def K1(h:List O)(es:Nat)(x:V)(lo hi:Option Int):Option V :=
 match lo,hi with
 |some lo,some hi =>
  match x with
  | .d (.sl e nl xs)=>if e=es/\0<=lo/\lo<=hi/\hi<=xs.length then some (.d (.sl es nl ((xs.take hi.toNat).drop lo.toNat)))else none
  | .aR n off _ =>
   match aV h n with
   | .aI e _ rows=>if e=es/\0<=lo/\lo<=hi/\off+hi<=rows.length then(if lo=0\/lo<hi then some (.aR n (off+lo.toNat) (hi - lo).toNat)else some (.d (.sl es false [])))else none
   |_=>none
  | .jl n off _ =>
   match aV h n with
   | .aI e _ rows=>if e=es/\0<=lo/\lo<=hi/\off+hi<=rows.length then(if lo=0\/lo<hi then some (.jl n (off+lo.toNat) (hi - lo).toNat)else some (.d (.sl es false [])))else none
   |_=>none
  | .jc e=>if e=es/\lo=0/\hi=0 then some (.jc es)else none
  |_=>none
 |_,_=>none
def K2(h:List O)(es:Nat)(x:V)(lo hi:Option Int):Option (V×List O):=
 match lo,hi with
 |some lo,some hi =>
  match x with
  | .aR n off _ =>
   match aV h n with
   | .aI e ex rows =>
    if e=es/\0<=lo/\lo<=hi/\off+hi<=rows.length then
     if lo=0\/lo<hi then some (.aR n (off+lo.toNat) (hi - lo).toNat,h)
     else if ex=true then some (.aR h.length 0 0,h.set n .dead++[.aI es ex []])else none
    else none
   |_=>none
  |_=>none
 |_,_=>none
def K3(h:List O)(es:Nat)(x:V)(lo hi mx:Option Int):Option V :=
 match lo,hi,mx with
 |some lo,some hi,some mx =>
  match x with
  | .d (.sl e _ xs)=>if e=es/\0<=lo/\lo<=hi/\hi<=mx/\mx<=xs.length then some .u else none
  | .aR n _ len=>if vT h n=true/\0<=lo/\lo<=hi/\hi<=mx/\mx<=len then some .u else none
  | .jc e=>if e=es/\lo=0/\hi=0/\mx=0 then some .u else none
  |_=>none
 |_,_,_=>none
def K4(o n:Nat)(ag:Bool):V->Option V
 | .d (.ag cs)=>pack n ag ((cs.map V.d).drop o)
 | .ag cs=>pack n ag (cs.drop o)
 |_=>none
def mnV:V->V->Option V
 | .d (.i k x),.d (.i k' y)=>if k=k' then some (.d (.i k (if y<x then y else x)))else none
 |_,_=>none
def K5:V->V->Option V
 | .d (.i k x),.d (.i k' y)=>if k=k' then some (.d (.i k (if y > x then y else x)))else none
 |_,_=>none
def uG(t:Nat):V->Option V
 | .d v=>some (.d (.kf t v))
 |_=>none
def cQ{R:Type}(k:Nat->List V->Option R)(kg:List (Nat×Nat×Nat))(x:V)(xs:List V):Option R :=
 match x with
 | .d (.kf t (.ag ds)) =>
  match kg.find? (λe=>e.1==t)with
  |some e=>if ds.length=e.2.1 then k e.2.2 (.d (.ag ds)::xs)else none
  |none=>none
 |_=>none
def aab(h:List O)(es:Nat):V->Option V
 | .d (.sl e nl _)=>if e=es then some (if nl then .d (.sl es true [])else .jc es)else none
 | .aR n _ _=>if vT h n then some (.jc es)else none
 | .jc _=>some (.jc es)
 |_=>none
def AY(x:V):Int :=
 match x with
 | .d (.sl _ _ xs)=>xs.length
 | .aR _ _ len=>len
 | .jl _ _ len=>len
 | .d (.s x)=>x.length
 |_=>0
def K6(h:List O)(es:Nat)(z:List D):V->Option (List O)
 | .d (.sl _ _ [])=>some h
 | .aR n off len =>
  match aV h n with
  | .aI e ex rows =>
   if e=es/\z.length=es/\off+len<=rows.length then
    if len=0 then some h else if ex then some (h.set n (.aI es ex (av rows off (List.replicate len z))))else none
   else none
  |_=>none
 |_=>none
def copyV(h:List O)(es:Nat)(x y:V):Option (V×List O):=
 match AX h es y with
 |none=>none
 |some ys =>
  match x.wk with
  | .aR n off len =>
   match aV h n with
   | .aI e true rows =>
    if e=es/\off+len<=rows.length then
     some (.d (.i .i64 (min ys.length len:Nat)),h.set n (.aI es true (av rows off (ys.take len))))else none
   |_=>none
  | .d (.sl _ _ [])=>some (.d (.i .i64 0),h)
  |_=>none
def K7(i:Nat):V->Option V
 | .tu vs=>vs[i]?
 |_=>none
def fill(cs:List V):List (Nat×Nat×V)->Option (List V)
 | []=>some cs
 |(o,n,v)::r=>if v.cells.length=n/\o+n<=cs.length/\v.known=true then fill (av cs o v.cells) r else none
def xU(rows:List (List V))(es:Nat):List (Nat×V)->Option (List (List V))
 | []=>some rows
 |(i,v)::r=>if v.cells.length=es/\i<rows.length/\v.known=true then xU (rows.set i v.cells) es r else none
def fQ:List (List V)->Option (List (List D))
 | []=>some []
 |r::rs=>(eY r).bind λx=>(fQ rs).map (x::·)
def eP(es:Nat)(rows:List (List V)):O :=
 match fQ rows with
 |some ds=>.aI es true ds
 |none=>.gK es rows
def AZ:List CK->D->Option (List D)
 | [_],.ag _=>none
 | [_],x=>some [x]
 |_,.ag cs=>some cs
 |_,_=>none
def om(ks:List CK)(k p:D):Option Bool:=(AZ ks k).bind λa=>(AZ ks p).bind λb=>jT ks a b
def l8(ks:List CK)(k:D)(p:D×V):Bool:=(om ks k p.1).getD false
def CD(ks:List CK)(k:D)(kv:List (D×V)):Bool:=(om ks k k).isSome&&kv.all λp=>(om ks k p.1).isSome
def Ht(ks:List CK)(k:D):List (D×V)->Option V
 | []=>none
 |p::r=>if l8 ks k p then some p.2 else Ht ks k r
def Ev(ks:List CK)(k:D)(v:V):List (D×V)->List (D×V)
 | []=>[(k,v)]
 |p::r=>if l8 ks k p then(k,v)::r else p::Ev ks k v r
def QE(ks:List CK)(k:D):List (D×V)->List (D×V)
 | []=>[]
 |p::r=>if l8 ks k p then r else p::QE ks k r
def Hu(ks:List CK)(k:D)(z:D)(ok:Bool)(kv:List (D×V)):Option V :=
 if CD ks k kv then
  match Ht ks k kv with
  |some v=>some (if ok then .tu [v,.d (.b true)]else v)
  |none=>some (if ok then .tu [.d z,.d (.b false)]else .d z)
 else none
def K8(ks:List CK)(h:List O)(m k:V)(z:D)(ok:Bool):Option V :=
 match k with
 | .d k =>
  match m with
  | .mp n=>match aV h n with | .mp kv=>Hu ks k z ok kv |_=>none
  | .d .uE=>Hu ks k z ok []
  |_=>none
 |_=>none
def K9(ks:List CK)(h:List O)(m k v:V):Option (List O):=
 match m,k with
 | .mp n,.d k=>match aV h n with | .mp kv=>if CD ks k kv/\v.known=true then some (h.set n (.mp (Ev ks k v kv)))else none |_=>none
 |_,_=>none
def aac(ks:List CK)(h:List O)(m k:V):Option (List O):=
 match m,k with
 | .mp n,.d k=>match aV h n with | .mp kv=>if CD ks k kv then some (h.set n (.mp (QE ks k kv)))else none |_=>none
 | .d .uE,.d k=>if CD ks k []then some h else none
 |_,_=>none
abbrev Rec:=zj->Option dL
def aJ(rec:Rec)(h:List O)(f:Nat)(xs:List V):Option (V×List O):=
 match eY xs with
 |some _ =>
  match rec (.call f xs [])with
  |some (.val v h1)=>some (v.dP (h.length+·),h++h1.map (O.dP (h.length+·)))
  |_=>none
 |none=>none
def back(L:List Nat)(m:Nat)(i:Nat):Nat:=if i<L.length then L.getD i 0 else m+(i - L.length)
def aE(h:List O):List Nat->List O->List O
 |n::L,o::os=>aE (h.set n o) L os
 |_,_=>h
def aD(rec:Rec)(h:List O)(f:Nat)(xs:List V):Option (V×List O):=
 match cut h 0 (V.gA xs)with
 |some L =>
  match rec (.call f (V.iQ (L.idxOf ·) xs) (sub h L))with
  |some (.val v h1) =>
   if L.length<=h1.length then
    some (v.dP (back L h.length),aE h L (h1.map (O.dP (back L h.length)))++(h1.drop L.length).map (O.dP (back L h.length)))
   else none
  |_=>none
 |none=>none
def kQ(rec:Rec)(f:Nat)(xs:List V):Option V :=
 match eY xs with
 |some _ =>
  match rec (.call f xs [])with
  |some (.val v [])=>some v
  |_=>none
 |none=>none
def l9{R:Type}(k:Nat->List V->Option R)(x:V)(xs:List V):Option R :=
 match x with
 | .d (.fn f first caps)=>k f (first.map V.d++xs++caps.map V.d)
 | .fn f first caps=>k f (first++xs++caps)
 |_=>none
def oQ(rec:Rec)(h:List O)(x:V)(xs:List V):Option (V×List O):=
 match x with
 | .ju n =>
  match aV h n with
  | .lp ps a b .normal env =>
   if xs.length=ps.length then
    match cut (h.set n .dead) 0 (V.gA xs++rP env)with
    |some L =>
     if n∈L then none else
      match rec (.round ps a b (V.iQ (L.idxOf ·) xs) (zk (L.idxOf ·) env) (sub (h.set n .dead) L))with
      |some (.out e _ h1) =>
       if L.length<=h1.length then
        some (.d (.b (e == .normal)),aE (h.set n (.lp ps a b e env)) L (h1.map (O.dP (back L h.length)))++(h1.drop L.length).map (O.dP (back L h.length)))
       else none
      |_=>none
    |none=>none
   else none
  |_=>none
 |_=>none
def St.m8(s:St)(d:Option Nat):Option V->St
 |some v=>match d with
  |some d=>⟨(d,v)::s.env,s.heap,s.ok⟩
  |none=>s
 |none=>s.fail
def D.plain:D->Bool
 | .b _ | .i .. | .s _=>true
 |_=>false
def D.CE:D->Bool
 | .ag cs=>cs.all D.plain
 |x=>x.plain
def V.plain:V->Bool
 | .d x=>x.CE
 | .tu vs=>vs.all λv=>match v with | .d x=>x.CE |_=>false
 |_=>false
def vU(rec:Rec)(h:List O)(f:Nat)(xs:List V):Option V :=
 match gZ h xs with
 |some ds =>
  match rec (.call f (ds.map V.d) [])with
  |some (.val v [])=>if v.plain then some v else none
  |_=>none
 |none=>none
def zm(o:Option (V×List O)):Option (V×List O):=o.bind λr=>(bt r.2 r.1).map λp=>(.d p.1,p.2)
def vV(s:St):List Nat->St
 | []=>s
 |d::r=>vV (s.gi d ((bt s.heap (s.get (.t d))).map λp=>(.d p.1,p.2))) r
def CF(h:List O)(k:Nat):V->Option (List O)
 | .loc n r c =>
  match aV h n with
  | .aI ..=>some h
  | .gK es rows =>
   match rows[r]? with
   |some row =>
    match row[c+k]? with
    |some v=>(eG h v).map λx=>(aX h v.dy).set n (eP es (rows.set r (row.set (c+k) (.d x))))
    |none=>none
   |none=>none
  |_=>none
 |_=>none
def aU(rec:Rec)(i:I)(s:St):St :=
 match i with
 | .mv d x=>s.put d (s.get x)
 | .pick d c a b=>match s.get c with | .d (.b x)=>s.put d (if x then s.get a else s.get b) |_=>s.fail
 | .box d x n fz =>
  if(s.get x).cells.length=n/\(s.get x).known=true then
   if fz then s.put d (mkRef (s.get x).cells)
   else s.gi d (some (.loc s.heap.length 0 0,s.heap++[eP n [(s.get x).cells]]))
  else s.fail
 | .new d z=>s.gi d (some (.loc s.heap.length 0 0,s.heap++[.aI z.length true [z]]))
 | .build d z ps=>s.fu d ((fill (z.map .d) (ps.map λp=>(p.1,p.2.1,s.get p.2.2))).map Cx)
 | .mZ d es n z ps fz =>
  let rows:=xU (List.replicate n (z.map V.d)) es (ps.map λp=>(p.1,s.get p.2))
  if fz then s.fu d ((rows.bind fQ).map λrows=>.d (.sl es false rows))
  else s.gi d (rows.map λrows=>(.aR s.heap.length 0 n,s.heap++[eP es rows]))
 | .ld d x n ag=>s.fu d (zl s.heap n ag (s.get x))
 | .st x y n fz =>
  if fz then
   match x,s.get x with
   | .t d,.loc m 0 0 =>
    match aV s.heap m with
    | .aI _ true [z]=>if z.length=n/\(s.get y).cells.length=n/\(s.get y).known=true then
      s.gi d (some (mkRef (s.get y).cells,s.heap.set m .dead))else s.fail
    |_=>s.fail
   |_,_=>s.fail
  else s.sL (KW s.heap n (s.get x) (s.get y))
 | .fa d x o n=>s.fu d (fa s.heap o n (s.get x))
 | .jm d x i es=>s.fu d (jm es (s.get x) (s.get i) s.heap)
 | .oP d x i len es=>s.fu d (oP s.heap len es (s.get x) (s.get i))
 | .sG d x o n ag=>s.fu d (K4 o n ag (s.get x))
 | .bin d op x y=>s.fu d (Cy op (s.get x) (s.get y))
 | .eqv d neg x y ks=>s.fu d (KS ks neg (s.get x) (s.get y))
 | .qH d neg x k=>s.fu d ((isNil s.heap k (s.get x)).map λp=>.d (.b (p != neg)))
 | .un d op x=>s.fu d (KT op (s.get x))
 | .kP d k x=>s.fu d (kP k (s.get x))
 | .len d x k=>s.fu d (rQ s.heap k (s.get x).wk)
 | .sl d x lo hi es=>s.fu d (K1 s.heap es (s.get x) (uF s 0 lo) (uF s (AY (s.get x)) hi))
 | .app d x y es=>s.gi d (Eu s.heap es (s.get x) (s.get y))
 | .qI d x es z=>s.lH d ((K6 s.heap es z (s.get x)).map λh=>(.tu [],h))
 | .copy d x y es=>s.lH d (copyV s.heap es (s.get x) (s.get y))
 | .ext d x i=>s.fu d (K7 i (s.get x))
 | .gJ d f a b =>
  match eY (a.map s.get),eY (b.map s.get)with
  |some x,some y=>s.put d (.d (.fn f x y))
  |_,_=>s.put d (.fn f (a.map s.get) (b.map s.get))
 | .mF d=>s.gi d (some (.mp s.heap.length,s.heap++[.mp []]))
 | .fI m k v ks=>s.sL (K9 ks s.heap (s.get m) (s.get k) (s.get v))
 | .pY d m k z ok ks=>s.fu d (K8 ks s.heap (s.get m) (s.get k) z ok)
 | .call d f xs=>s.m8 d (kQ rec f (xs.map s.get))
 | .nF d f xs=>s.lH d (aJ rec s.heap f (xs.map s.get))
 | .jo d f xs=>s.lH d (aD rec s.heap f (xs.map s.get))
 | .nG d x xs=>s.m8 d (l9 (kQ rec) (s.get x) (xs.map s.get))
 | .pZ d x xs=>s.lH d (l9 (aD rec s.heap) (s.get x) (xs.map s.get))
 | .tD d x =>
  match s.get x with
  | .d (.ref cs)=>s.put d (.d (.ref cs))
  | .rf cs=>s.put d (.rf cs)
  | .loc n r c=>s.put d (.loc n r c)
  | .d (.kf t v)=>s.put d (.d (.kf t v))
  |_=>s.fail
 | .rN d x lo hi mx es=>s.fu d (K3 s.heap es (s.get x) (asInt (s.get lo)) (asInt (s.get hi)) (asInt (s.get mx)))
 | .cap d x=>s.fu d (KZ s.heap (s.get x))
 | .sle d x lo hi es=>s.gi d (K2 s.heap es (s.get x) (uF s 0 lo) (uF s (AY (s.get x)) hi))
 | .sH d x k es z=>s.gi d (KX s.heap es z (s.get x) (asInt (s.get k)))
 | .rO d _ x y es=>s.fu d (K0 s.heap es (s.get x) (s.get y))
 | .bad _=>s.fail
 | .sI d x n ag=>s.fu d (KU n ag (s.get x))
 | .p5 d x o n=>s.fu d (KV o n (s.get x))
 | .p6 d x xs=>s.lH d (oQ rec s.heap (s.get x) (xs.map s.get))
 | .sJ d x y es=>s.gi d (zm (Eu s.heap es (s.get x) (s.get y)))
 | .nH d f xs=>s.gi d (zm (aD rec s.heap f (xs.map s.get)))
 | .calls d f xs=>s.m8 d (vU rec s.heap f (xs.map s.get))
 | .nI d t x=>s.fu d (uG t (s.get x))
 | .inv d _ kg x xs=>s.m8 d (cQ (kQ rec) kg (s.get x) (xs.map s.get))
 | .mx d x y=>s.fu d (K5 (s.get x) (s.get y))
 | .vS d es z n k=>s.gi d (KY s.heap es z (asInt (s.get n)) (asInt (s.get k)))
def I.dst:I->Option Nat
 | .mv d _ | .pick d .. | .box d .. | .new d _ | .build d .. | .mZ d .. | .ld d .. | .fa d .. | .jm d .. | .oP d .. | .sG d .. | .bin d .. | .eqv d .. | .qH d .. | .un d ..
 | .kP d .. | .len d .. | .sl d .. | .sle d .. | .app d .. | .ext d .. | .gJ d .. | .mF d | .pY d .. | .tD d .. | .rN d .. | .cap d .. | .sH d .. | .rO d .. | .sI d .. | .p5 d .. | .sJ d .. | .nH d .. | .nI d .. | .mx d .. | .vS d ..=>some d
 | .qI d .. | .copy d .. | .call d .. | .nF d .. | .jo d .. | .nG d .. | .pZ d .. | .bad d | .p6 d .. | .calls d .. | .inv d ..=>d
 | .st .. | .fI ..=>none
def I.wr:I->Option Nat
 | .st (.t d) _ _ true=>some d
 |i=>i.dst
mutual
def J.rR:J->List Nat
 | .op i=>i.wr.toList
 | .sc _ d _ body _=>d::J.kj body
 | .re _=>[]
def J.kj:List J->List Nat
 | []=>[]
 |j::r=>j.rR++J.kj r
end
def p7(ds:List Nat)(e:List (Nat×V)):List (Nat×V):=
 match ds with
 | []=>e
 |d::r=>(d,V.u)::p7 r e
open Classical in
noncomputable def V.same (a b:V):Bool:=decide (a=b)
theorem V.aY(a:V):V.same a a=true:=by simp[V.same]
theorem V.uH{a b:V}(h:V.same a b=true):a=b:=by simpa[V.same]using h
noncomputable def again (d:Option Nat)(s s':St):St :=
 match d with
 |some d=>if s'.ok&&V.same (cC s'.env d) (cC s.env d)then s else s.fail
 |none=>s.fail
mutual
noncomputable def jv (rec:Rec):J->St->St
 | .op i,s=>aU rec i s
 | .sc fM d c body x,s =>
  match s.get (.t c)with
  | .d (.b g) =>
   if g=fM then⟨(d,.d (.b fM))::p7 (J.kj body) s.env,s.heap,s.ok⟩
   else
    match(fX rec body s).get x with
    | .d (.b y)=>⟨(d,.d (.b y))::p7 (J.kj body) s.env,(fX rec body s).heap,(fX rec body s).ok⟩
    |_=>s.fail
  |_=>s.fail
 | .re i,s=>again i.dst s (aU rec i s)
noncomputable def fX (rec:Rec):List J->St->St
 | [],s=>s
 |j::r,s=>fX rec r (jv rec j s)
end
noncomputable def cS (rec:Rec)(m:Nat):C->St->Ex×St
 | .skip,s=>(.normal,s)
 | .cB js,s=>(.normal,fX rec js s)
 | .mG fl _ js,s=>(.normal,fX rec js ⟨p7 fl s.env,s.heap,s.ok⟩)
 | .seq a b,s =>
  match cS rec m a s with
  |(.normal,s')=>cS rec m b s'
  |r=>r
 | .ite c a b,s =>
  match s.get c with
  | .d (.b x)=>if x then cS rec m a s else cS rec m b s
  |_=>(.normal,s.fail)
 | .cr id c,s =>
  match cS rec m c s with
  |(.exit j,s')=>if j=id then(.normal,s')else(.exit j,s')
  |r=>r
 | .loop live c,s =>
  match canon m live s.env s.heap with
  |some p =>
   match rec (.loop m live c p.1 p.2)with
   |some (.out e env h)=>(e,⟨env,h,s.ok⟩)
   |_=>(.normal,s.fail)
  |none=>(.normal,s.fail)
 | .sK x live ps a b,s =>
  match l9 (aD rec (s.heap++[.lp ps a b .normal (jS live s.env)])) (s.get x) [.ju s.heap.length]with
  |some (_,h) =>
   match aV h s.heap.length with
   | .lp _ _ _ e _=>(e,⟨s.env,h.set s.heap.length .dead,s.ok⟩)
   |_=>(.normal,s.fail)
  |none=>(.normal,s.fail)
 | .xT d k,s =>
  match CF s.heap k (s.get (.t d))with
  |some h=>(.normal,⟨s.env,h,s.ok⟩)
  |none=>(.normal,s.fail)
 | .exit id,s=>(.exit id,s)
 | .ret,s=>(.ret,s)
 | .qJ ds,s=>(.normal,vV s ds)
 | .keep ds,s =>
  match canon m ds s.env s.heap with
  |some p=>(.normal,⟨p.1,p.2,s.ok⟩)
  |none=>(.normal,s.fail)
def tuple:List V->V
 | [v]=>v
 |vs=>.tu vs
def Hv(s:St):RV->Option V
 | .t n=>some (s.get (.t n))
 | .c n k ag=>zl s.heap k ag (s.get (.t n))
def zo(s:St):List RV->Option (List V)
 | []=>some []
 |r::rs=>(Hv s r).bind λv=>(zo s rs).map (v::·)
def finish(res:List RV)(keep:Bool)(m:Nat)(s:St):Option dL :=
 if s.ok then
  ((
   zo s res).map (·.map V.wk)).bind λvs =>
   if m=0/\keep=false then(gZ s.heap vs).map λds=>.val (tuple (ds.map V.d)) []
   else(cut s.heap m (V.gA vs)).map λL=>.val (tuple (V.iQ (L.idxOf ·) vs)) (sub s.heap L)
 else none
def oR:Nat->List V->List (Nat×V)
 |_,[]=>[]
 |n,v::r=>(n,v)::oR (n+1) r
abbrev Prog:=Nat->Option F
noncomputable def m9 (P:Prog)(rec:Rec):zj->Option dL
 | .call f xs h =>
  match P f with
  |some fn =>
   match fn.AW with
   |some p=>(p xs h).map λr=>.val r.1 r.2
   |none =>
   match cS rec h.length fn.code ⟨oR 0 xs,h,true⟩with
   |(.normal,s) |(.ret,s)=>finish fn.res fn.keep h.length s
   |_=>none
  |none=>none
 | .loop m live c env h =>
  match cS rec m c ⟨env,h,true⟩with
  |(.normal,s)=>if s.ok then(canon m live s.env s.heap).bind λp=>rec (.loop m live c p.1 p.2)else none
  |(e,s)=>if s.ok then some (.out e s.env s.heap)else none
 | .round ps a b xs env h =>
  match cS rec h.length a ⟨ps.zip xs++env,h,true⟩with
  |(.normal,s) =>
   match cS rec h.length b s with
   |(e,s')=>if s'.ok then(cut s'.heap h.length []).map λL=>.out e [] (sub s'.heap L)else none
  |_=>none
noncomputable def iter (P:Prog):Nat->zj->Option dL
 | 0,_=>none
 |n+1,r=>m9 P (iter P n) r
end Go.VS
namespace Go.VS
def Le(a b:Rec):Prop:=∀r x,a r=some x->b r=some x
@[simp] theorem St.aad(s:St)(d:Nat)(v:V):(s.put d v).ok=s.ok:=rfl
@[simp] theorem St.aae(s:St):s.fail.ok=false:=rfl
theorem St.aaf{s:St}{d:Nat}{o:Option V}(h:(s.fu d o).ok=true):s.ok=true:=by
 cases o<;>simp_all[St.fu,St.put,St.fail]
theorem St.XS{s:St}{d:Nat}{o:Option (V×List O)}(h:(s.gi d o).ok=true):s.ok=true:=by
 cases o<;>simp_all[St.gi,St.fail]
theorem St.aag{s:St}{d:Option Nat}{o:Option (V×List O)}(h:(s.lH d o).ok=true):s.ok=true:=by
 cases o<;>cases d<;>simp_all[St.lH,St.fail]
theorem St.aah{s:St}{o:Option (List O)}(h:(s.sL o).ok=true):s.ok=true:=by
 cases o<;>simp_all[St.sL,St.fail]
theorem St.aai{s:St}{d:Option Nat}{o:Option V}(h:(s.m8 d o).ok=true):s.ok=true:=by
 cases o<;>cases d<;>simp_all[St.m8,St.fail]
theorem Hw:∀(ds:List Nat){s:St},(vV s ds).ok=true->s.ok=true
 | [],_,h=>h
 |_::r,_,h=>St.XS (Hw r h)
theorem La{rec:Rec}{i:I}{s:St}(h:(aU rec i s).ok=true):s.ok=true:=by
 cases i<;>simp only[aU]at h<;>(repeat' (split at h)) <;>
  first
   |exact h
   |exact St.aaf h
   |exact St.XS h
   |exact St.aag h
   |exact St.aai h
   |exact St.aah h
   |(simp at h;done)
theorem aaj{a b:Rec}(hab:Le a b){h:List O}{f:Nat}{xs:List V}{r:V×List O}(hr:aJ a h f xs=some r):aJ b h f xs=some r:=by
 unfold aJ at *;split at hr<;>try (simp at hr;done)
 rename_i ds hds;cases hc:a (.call f xs [])with
 |none=>simp[hc]at hr
 |some x=>rw[hab _ _ hc];rw[hc]at hr;exact hr
theorem Lb{a b:Rec}(hab:Le a b){h:List O}{f:Nat}{xs:List V}{r:V×List O}(hr:aD a h f xs=some r):aD b h f xs=some r:=by
 unfold aD at *;cases hL:cut h 0 (V.gA xs)with
 |none=>simp[hL]at hr
 |some L =>
  simp only[hL]at hr⊢;cases hc:a (.call f (V.iQ (L.idxOf ·) xs) (sub h L))with
  |none=>simp[hc]at hr
  |some x=>rw[hab _ _ hc];rw[hc]at hr;exact hr
theorem QF{a b:Rec}(hab:Le a b){f:Nat}{xs:List V}{r:V}(hr:kQ a f xs=some r):kQ b f xs=some r:=by
 unfold kQ at *;split at hr<;>try (simp at hr;done)
 rename_i ds hds;cases hc:a (.call f xs [])with
 |none=>simp[hc]at hr
 |some x=>rw[hab _ _ hc];rw[hc]at hr;exact hr
theorem QG{R:Type}{k k':Nat->List V->Option R}(hk:∀f xs r,k f xs=some r->k' f xs=some r)
  {x:V}{xs:List V}{r:R}(hr:l9 k x xs=some r):l9 k' x xs=some r:=by
 unfold l9 at *;split at hr<;>first |exact hk _ _ _ hr |(simp at hr;done)
theorem aak{R:Type}{k k':Nat->List V->Option R}(hk:∀f xs r,k f xs=some r->k' f xs=some r)
  {kg:List (Nat×Nat×Nat)}{x:V}{xs:List V}{r:R}(hr:cQ k kg x xs=some r):cQ k' kg x xs=some r:=by
 unfold cQ at *;split at hr
 .split at hr
  .split at hr
   .rename_i h1;simp only[aN h1];exact hk _ _ _ hr
   .simp at hr
  .simp at hr
 .simp at hr
theorem aal{a b:Rec}(hab:Le a b){h:List O}{f:Nat}{xs:List V}{r:V}(hr:vU a h f xs=some r):vU b h f xs=some r:=by
 unfold vU at *;split at hr<;>try (simp at hr;done)
 rename_i ds hds;cases hc:a (.call f (ds.map V.d) [])with
 |none=>simp[hc]at hr
 |some x=>rw[hab _ _ hc];rw[hc]at hr;exact hr
theorem aam{a b:Rec}(hab:Le a b){h:List O}{x:V}{xs:List V}{r:V×List O}(hr:oQ a h x xs=some r):oQ b h x xs=some r:=by
 unfold oQ at *;split at hr<;>try (simp at hr;done)
 split at hr<;>try (simp at hr;done)
 split at hr<;>try (simp at hr;done)
 rename_i hlen;simp only[hlen,dH];split at hr<;>try (simp at hr;done)
 split at hr<;>try (simp at hr;done)
 rename_i hn;simp only[hn,dK];split at hr<;>try (simp at hr;done)
 rename_i e env' h1 hc;rw[hab _ _ hc];exact hr
theorem CG{s:St}{d:Option Nat}{o:Option V}(h:(s.m8 d o).ok=true):∃r,o=some r:=by
 cases o
 .simp[St.m8,St.fail]at h
 .exact⟨_,rfl⟩
theorem xV{s:St}{d:Option Nat}{o:Option (V×List O)}(h:(s.lH d o).ok=true):∃r,o=some r:=by
 cases o
 .simp[St.lH,St.fail]at h
 .exact⟨_,rfl⟩
theorem XT{a b:Rec}(hab:Le a b){i:I}{s:St}(h:(aU a i s).ok=true):aU b i s=aU a i s:=by
 cases i<;>try rfl
 case call d f xs =>
  simp only[aU]at *;obtain⟨r,hr⟩:=CG h;rw[hr,QF hab hr]
 case nF d f xs =>
  simp only[aU]at *;obtain⟨r,hr⟩:=xV h;rw[hr,aaj hab hr]
 case jo d f xs =>
  simp only[aU]at *;obtain⟨r,hr⟩:=xV h;rw[hr,Lb hab hr]
 case nG d f xs =>
  simp only[aU]at *;obtain⟨r,hr⟩:=CG h;rw[hr,QG (λ_ _ _=>QF hab) hr]
 case inv d nm kg f xs =>
  simp only[aU]at *;obtain⟨r,hr⟩:=CG h;rw[hr,aak (λ_ _ _=>QF hab) hr]
 case pZ d f xs =>
  simp only[aU]at *;obtain⟨r,hr⟩:=xV h;rw[hr,QG (λ_ _ _=>Lb hab) hr]
 case p6 d f xs =>
  simp only[aU]at *;obtain⟨r,hr⟩:=xV h;rw[hr,aam hab hr]
 case nH d f xs =>
  simp only[aU]at *;cases hr:aD a s.heap f (xs.map s.get)with
  |none=>rw[hr]at h;simp[zm,St.gi,St.fail]at h
  |some r=>rw[Lb hab hr]
 case calls d f xs =>
  simp only[aU]at *;obtain⟨r,hr⟩:=CG h;rw[hr,aal hab hr]
mutual
theorem aan{rec:Rec}:∀{j:J}{s:St},(jv rec j s).ok=true->s.ok=true
 | .op i,s,h=>La (by simpa[jv]using h)
 | .sc fM d c body x,s,h=>by
  simp only[jv]at h;split at h
  .split at h
   .simpa using h
   .split at h
    .exact uI (by simpa using h)
    .simp at h
  .simp at h
 | .re i,s,h=>by
  simp only[jv,again]at h;split at h
  .split at h
   .exact h
   .simp at h
  .simp at h
theorem uI{rec:Rec}:∀{js:List J}{s:St},(fX rec js s).ok=true->s.ok=true
 | [],s,h=>by simpa[fX]using h
 |j::r,s,h=>by
  simp only[fX]at h;exact aan (uI h)
end
mutual
theorem aao{a b:Rec}(hab:Le a b):∀{j:J}{s:St},(jv a j s).ok=true->jv b j s=jv a j s
 | .op i,s,h=>by simp only[jv]at *;exact XT hab h
 | .sc fM d c body x,s,h=>by
  simp only[jv]at h⊢;split
  .rename_i g hg
   simp only[hg]at h;split
   .rfl
   .rename_i hne
    rw[aG hne]at h;have hb:(fX a body s).ok=true:=by
     split at h
     .simpa using h
     .simp at h
    rw[Lc hab hb]
  .rfl
 | .re i,s,h=>by
  have hi:(aU a i s).ok=true:=by
   simp only[jv,again]at h;split at h
   .split at h
    .rename_i hc
     simp only[bD]at hc;exact hc.1
    .simp at h
   .simp at h
  simp only[jv];rw[XT hab hi]
theorem Lc{a b:Rec}(hab:Le a b):∀{js:List J}{s:St},(fX a js s).ok=true->fX b js s=fX a js s
 | [],_,_=>by simp[fX]
 |j::r,s,h=>by
  simp only[fX]at *;have hj:(jv a j s).ok=true:=uI h;rw[aao hab hj,Lc hab h]
end
theorem zp{rec:Rec}{m:Nat}:∀{c:C}{s:St},(cS rec m c s).2.ok=true->s.ok=true:=by
 intro c;induction c with
 |skip=>intro s h;exact h
 |cB js=>intro s h;exact uI h
 |mG fl pm js=>intro s h;exact(uI h:(⟨_,_,_⟩:St).ok=true)
 |seq a b iha ihb =>
  intro s h;simp only[cS]at h;split at h
  .rename_i s' hs
   have:=ihb h;exact iha (by rw[hs];exact this)
  .exact iha h
 |ite c a b iha ihb =>
  intro s h;simp only[cS]at h;split at h
  .split at h
   .exact iha h
   .exact ihb h
  .simp at h
 |cr id c ih =>
  intro s h;simp only[cS]at h;split at h
  .rename_i j s' hs
   apply ih;rw[hs];split at h<;>exact h
  .exact ih h
 |loop live c ih =>
  intro s h;simp only[cS]at h;split at h
  .split at h
   .exact h
   .simp at h
  .simp at h
 |exit id=>intro s h;exact h
 |ret=>intro s h;exact h
 |qJ ds=>intro s h;exact Hw ds h
 |keep ds =>
  intro s h;simp only[cS]at h;split at h
  .exact h
  .simp at h
 |xT d k =>
  intro s h;simp only[cS]at h;split at h
  .exact h
  .simp at h
 |sK x live ps a b iha ihb =>
  intro s h;simp only[cS]at h;split at h
  .split at h
   .exact h
   .simp at h
  .simp at h
theorem Ld{a b:Rec}(hab:Le a b){m:Nat}:∀{c:C}{s:St},(cS a m c s).2.ok=true->cS b m c s=cS a m c s:=by
 intro c;induction c with
 |skip=>intro s h;rfl
 |cB js=>intro s h;simp only[cS]at *;rw[Lc hab h]
 |mG fl pm js=>intro s h;simp only[cS]at *;rw[Lc hab h]
 |seq x y QH Hx =>
  intro s h;simp only[cS]at h⊢;cases hx:cS a m x s with
  |mk e s' =>
   rw[hx]at h;have hok:s'.ok=true:=by
    cases e
    .exact zp h
    .exact h
    .exact h
   have hb:cS b m x s=(e,s'):=by rw[QH (by rw[hx];exact hok),hx]
   rw[hb];cases e
   .exact Hx h
   .rfl
   .rfl
 |ite c x y QH Hx =>
  intro s h;simp only[cS]at h⊢;split
  .rename_i v hv
   simp only[hv]at h;split
   .rename_i hx;rw[aN hx]at h;exact QH h
   .rename_i hx;rw[aG hx]at h;exact Hx h
  .rfl
 |cr id c ih =>
  intro s h;simp only[cS]at h⊢;cases hx:cS a m c s with
  |mk e s' =>
   rw[hx]at h;have hok:s'.ok=true:=by
    cases e
    .exact h
    .simp only at h;split at h<;>exact h
    .exact h
   rw[ih (by rw[hx];exact hok),hx]
 |loop live c ih =>
  intro s h;simp only[cS]at h⊢;cases hp:canon m live s.env s.heap with
  |none=>rfl
  |some p =>
   simp only[hp]at h⊢;cases hr:a (.loop m live c p.1 p.2)with
   |none=>rw[hr]at h;simp at h
   |some x=>rw[hab _ _ hr]
 |exit id=>intro s h;rfl
 |ret=>intro s h;rfl
 |qJ ds=>intro s h;rfl
 |keep ds=>intro s h;rfl
 |xT d k=>intro s h;rfl
 |sK x live ps y z Hx ihz =>
  intro s h;simp only[cS]at h⊢;cases hc:l9 (aD a (s.heap++[.lp ps y z .normal (jS live s.env)])) (s.get x) [.ju s.heap.length]with
  |none=>rw[hc]at h;simp at h
  |some r=>rw[QG (λ_ _ _=>Lb hab) hc]
theorem QI{res:List RV}{keep:Bool}{m:Nat}{s:St}{r:dL}(h:finish res keep m s=some r):s.ok=true:=by
 unfold finish at h;split at h
 .assumption
 .simp at h
theorem aap{P:Prog}{a b:Rec}(hab:Le a b):Le (m9 P a) (m9 P b):=by
 intro r x h;cases r with
 |call f xs hp =>
  simp only[m9]at h⊢;cases hf:P f with
  |none=>rw[hf]at h;simp at h
  |some fn =>
   rw[hf]at h;simp only at h⊢;cases XU:fn.AW with
   |some p=>rw[XU]at h;exact h
   |none =>
   rw[XU]at h;simp only at h⊢;cases hc:cS a hp.length fn.code ⟨oR 0 xs,hp,true⟩with
   |mk e s =>
    rw[hc]at h;have hok:s.ok=true:=by
     cases e
     .exact QI h
     .simp at h
     .exact QI h
    rw[Ld hab (by rw[hc];exact hok),hc]
    exact h
 |loop m live c env hp =>
  simp only[m9]at h⊢;cases hc:cS a m c ⟨env,hp,true⟩with
  |mk e s =>
   rw[hc]at h;have hok:s.ok=true:=by
    cases hs:s.ok with
    |true=>rfl
    |false=>cases e<;>simp[hs]at h
   rw[Ld hab (by rw[hc];exact hok),hc]
   cases e
   .simp only[hok,dH]at h⊢
    cases hp:canon m live s.env s.heap with
    |none=>rw[hp]at h;simp at h
    |some p =>
     rw[hp]at h;exact hab _ _ h
   .exact h
   .exact h
 |round ps y z xs env hp =>
  simp only[m9]at h⊢;cases hc:cS a hp.length y ⟨ps.zip xs++env,hp,true⟩with
  |mk e s =>
   rw[hc]at h;cases e<;>simp only at h<;>try (simp at h;done)
   cases gF:cS a hp.length z s with
   |mk e2 s2 =>
    rw[gF]at h;simp only at h;have A0:s2.ok=true:=by
     cases hs:s2.ok with
     |true=>rfl
     |false=>simp[hs]at h
    have hok:s.ok=true:=zp (rec:=a) (m:=hp.length) (c:=z) (by rw[gF];exact A0)
    rw[Ld hab (by rw[hc];exact hok),hc]
    simp only;rw[Ld hab (by rw[gF];exact A0),gF]
    exact h
theorem XV(P:Prog):∀n,Le (iter P n) (iter P (n+1))
 | 0=>by intro r x h;simp[iter]at h
 |n+1=>aap (XV P n)
theorem QJ(P:Prog){n m:Nat}(h:n<=m):Le (iter P n) (iter P m):=by
 induction h with
 |refl=>exact λ_ _ h=>h
 |step _ ih=>exact λr x h=>XV P _ r x (ih r x h)
open Classical in
noncomputable def ev (P:Prog)(r:zj):Option dL :=
 if h:∃n x,iter P n r=some x then some (Classical.choose (Cm h))else none
theorem Ew{P:Prog}{r:zj}{x:dL}:ev P r=some x↔∃n,iter P n r=some x:=by
 unfold ev;constructor
 .intro h
  split at h
  .rename_i hex
   refine⟨Classical.choose hex,?_⟩;rw[<-h];exact Cm (Cm hex)
  .simp at h
 .rintro⟨n,hn⟩
  have hex:∃n x,iter P n r=some x:=⟨n,x,hn⟩;rw[dif_pos hex];have h1:=Cm (Cm hex);have h2:=QJ P (Nat.le_max_left n (Classical.choose hex)) _ _ hn;have h3:=QJ P (Nat.le_max_right n (Classical.choose hex)) _ _ h1;rw[h2]at h3;exact h3.symm
theorem aaq{P:Prog}{r:zj}{x:dL}(n:Nat)(h:iter P n r=some x):ev P r=some x:=Ew.2 ⟨n,h⟩
theorem near(P:Prog)(r:zj):∃n,∀m,n<=m->iter P m r=ev P r:=by
 cases h:ev P r with
 |none =>
  refine⟨0,λm _=>?_⟩
  cases hm:iter P m r with
  |none=>rfl
  |some x=>rw[aaq m hm]at h;simp at h
 |some x =>
  obtain⟨n,hn⟩:=Ew.1 h;exact⟨n,λm hm=>QJ P hm _ _ hn⟩
theorem aar(P:Prog)(h:List O)(f:Nat)(xs:List V):∃n,∀m,n<=m->aJ (iter P m) h f xs=aJ (ev P) h f xs:=by
 obtain⟨n,hn⟩:=near P (.call f xs []);exact⟨n,λm hm=>by unfold aJ;rw[hn m hm]⟩
theorem Lf(P:Prog)(h:List O)(f:Nat)(xs:List V):∃n,∀m,n<=m->aD (iter P m) h f xs=aD (ev P) h f xs:=by
 unfold aD;cases hL:cut h 0 (V.gA xs)with
 |none=>exact⟨0,λ_ _=>rfl⟩
 |some L =>
  obtain⟨n,hn⟩:=near P (.call f (V.iQ (L.idxOf ·) xs) (sub h L))
  exact⟨n,λm hm=>by simp only[hn m hm]⟩
theorem aas(P:Prog)(h:List O)(f:Nat)(xs:List V):∃n,∀m,n<=m->vU (iter P m) h f xs=vU (ev P) h f xs:=by
 unfold vU;cases hd:gZ h xs with
 |none=>exact⟨0,λ_ _=>rfl⟩
 |some ds =>
  obtain⟨n,hn⟩:=near P (.call f (ds.map V.d) []);exact⟨n,λm hm=>by simp only[hn m hm]⟩
theorem aat(P:Prog)(h:List O)(x:V)(xs:List V):∃n,∀m,n<=m->oQ (iter P m) h x xs=oQ (ev P) h x xs:=by
 unfold oQ;split
 .rename_i k
  split
  .rename_i ps a b env hk
   split
   .cases hL:cut (h.set k .dead) 0 (V.gA xs++rP env)with
    |none=>exact⟨0,λ_ _=>rfl⟩
    |some L =>
     obtain⟨n,hn⟩:=near P (.round ps a b (V.iQ (L.idxOf ·) xs) (zk (L.idxOf ·) env) (sub (h.set k .dead) L))
     exact⟨n,λm hm=>by simp only[hn m hm]⟩
   .exact⟨0,λ_ _=>rfl⟩
  .exact⟨0,λ_ _=>rfl⟩
 .exact⟨0,λ_ _=>rfl⟩
theorem QK(P:Prog)(f:Nat)(xs:List V):∃n,∀m,n<=m->kQ (iter P m) f xs=kQ (ev P) f xs:=by
 obtain⟨n,hn⟩:=near P (.call f xs []);exact⟨n,λm hm=>by unfold kQ;rw[hn m hm]⟩
theorem QL{R:Type}{k:Nat->Nat->List V->Option R}{k':Nat->List V->Option R}
  (hk:∀f xs,∃n,∀m,n<=m->k m f xs=k' f xs)(x:V)(xs:List V):
  ∃n,∀m,n<=m->l9 (k m) x xs=l9 k' x xs:=by
 unfold l9;split
 .exact hk _ _
 .exact hk _ _
 .exact⟨0,λ_ _=>rfl⟩
theorem aau{R:Type}{k:Nat->Nat->List V->Option R}{k':Nat->List V->Option R}
  (hk:∀f xs,∃n,∀m,n<=m->k m f xs=k' f xs)(kg:List (Nat×Nat×Nat))(x:V)(xs:List V):
  ∃n,∀m,n<=m->cQ (k m) kg x xs=cQ k' kg x xs:=by
 unfold cQ;split
 .split
  .split
   .exact hk _ _
   .exact⟨0,λ_ _=>rfl⟩
  .exact⟨0,λ_ _=>rfl⟩
 .exact⟨0,λ_ _=>rfl⟩
theorem XW(P:Prog)(i:I)(s:St):∃n,∀m,n<=m->aU (iter P m) i s=aU (ev P) i s:=by
 cases i<;>try exact⟨0,λ_ _=>rfl⟩
 case call d f xs=>obtain⟨n,hn⟩:=QK P f (xs.map s.get);exact⟨n,λm hm=>by simp only[aU,hn m hm]⟩
 case nF d f xs=>obtain⟨n,hn⟩:=aar P s.heap f (xs.map s.get);exact⟨n,λm hm=>by simp only[aU,hn m hm]⟩
 case jo d f xs=>obtain⟨n,hn⟩:=Lf P s.heap f (xs.map s.get);exact⟨n,λm hm=>by simp only[aU,hn m hm]⟩
 case nG d f xs =>
  obtain⟨n,hn⟩:=QL (k:=λm=>kQ (iter P m)) (k':=kQ (ev P)) (QK P) (s.get f) (xs.map s.get)
  exact⟨n,λm hm=>by simp only[aU,hn m hm]⟩
 case inv d nm kg f xs =>
  obtain⟨n,hn⟩:=aau (k:=λm=>kQ (iter P m)) (k':=kQ (ev P)) (QK P) kg (s.get f) (xs.map s.get)
  exact⟨n,λm hm=>by simp only[aU,hn m hm]⟩
 case pZ d f xs =>
  obtain⟨n,hn⟩:=QL (k:=λm=>aD (iter P m) s.heap) (k':=aD (ev P) s.heap) (Lf P s.heap) (s.get f) (xs.map s.get)
  exact⟨n,λm hm=>by simp only[aU,hn m hm]⟩
 case nH d f xs=>obtain⟨n,hn⟩:=Lf P s.heap f (xs.map s.get);exact⟨n,λm hm=>by simp only[aU,hn m hm]⟩
 case calls d f xs=>obtain⟨n,hn⟩:=aas P s.heap f (xs.map s.get);exact⟨n,λm hm=>by simp only[aU,hn m hm]⟩
 case p6 d f xs=>obtain⟨n,hn⟩:=aat P s.heap (s.get f) (xs.map s.get);exact⟨n,λm hm=>by simp only[aU,hn m hm]⟩
mutual
theorem aav(P:Prog):∀(j:J)(s:St),∃n,∀m,n<=m->jv (iter P m) j s=jv (ev P) j s
 | .op i,s=>by simpa only[jv]using XW P i s
 | .sc fM d c body x,s=>by
  obtain⟨n,hn⟩:=Lg P body s;exact⟨n,λm hm=>by simp only[jv,hn m hm]⟩
 | .re i,s=>by
  obtain⟨n,hn⟩:=XW P i s;exact⟨n,λm hm=>by simp only[jv,hn m hm]⟩
theorem Lg(P:Prog):∀(js:List J)(s:St),∃n,∀m,n<=m->fX (iter P m) js s=fX (ev P) js s
 | [],s=>⟨0,λ_ _=>by simp only[fX]⟩
 |j::r,s=>by
  obtain⟨n,hn⟩:=aav P j s;obtain⟨k,hk⟩:=Lg P r (jv (ev P) j s);exact⟨max n k,λm hm=>by simp only[fX];rw[hn m (by omega),hk m (by omega)]⟩
end
theorem Lh(P:Prog)(q:Nat)(c:C):∀(s:St),∃n,∀m,n<=m->cS (iter P m) q c s=cS (ev P) q c s:=by
 induction c with
 |skip=>exact λs=>⟨0,λ_ _=>rfl⟩
 |cB js=>intro s;obtain⟨n,hn⟩:=Lg P js s;exact⟨n,λm hm=>by simp only[cS,hn m hm]⟩
 |mG fl pm js=>intro s;obtain⟨n,hn⟩:=Lg P js ⟨p7 fl s.env,s.heap,s.ok⟩;exact⟨n,λm hm=>by simp only[cS,hn m hm]⟩
 |seq a b iha ihb =>
  intro s;obtain⟨n,hn⟩:=iha s;cases hx:cS (ev P) q a s with
  |mk e s' =>
   obtain⟨k,hk⟩:=ihb s';refine⟨max n k,λm hm=>?_⟩
   simp only[cS];rw[hn m (by omega),hx]
   cases e
   .exact hk m (by omega)
   .rfl
   .rfl
 |ite c a b iha ihb =>
  intro s;obtain⟨n,hn⟩:=iha s;obtain⟨k,hk⟩:=ihb s;refine⟨max n k,λm hm=>?_⟩
  simp only[cS];rw[hn m (by omega),hk m (by omega)]
 |cr id c ih=>intro s;obtain⟨n,hn⟩:=ih s;exact⟨n,λm hm=>by simp only[cS,hn m hm]⟩
 |loop live c ih =>
  intro s;cases hp:canon q live s.env s.heap with
  |none=>exact⟨0,λm _=>by simp only[cS,hp]⟩
  |some p =>
   obtain⟨n,hn⟩:=near P (.loop q live c p.1 p.2);exact⟨n,λm hm=>by simp only[cS,hp,hn m hm]⟩
 |exit id=>exact λs=>⟨0,λ_ _=>rfl⟩
 |ret=>exact λs=>⟨0,λ_ _=>rfl⟩
 |qJ ds=>exact λs=>⟨0,λ_ _=>rfl⟩
 |keep ds=>exact λs=>⟨0,λ_ _=>rfl⟩
 |xT d k=>exact λs=>⟨0,λ_ _=>rfl⟩
 |sK x live ps y z Hx ihz =>
  intro s;obtain⟨n,hn⟩:=QL (k:=λm=>aD (iter P m) (s.heap++[.lp ps y z .normal (jS live s.env)])) (k':=aD (ev P) (s.heap++[.lp ps y z .normal (jS live s.env)]))
   (Lf P (s.heap++[.lp ps y z .normal (jS live s.env)])) (s.get x) [.ju s.heap.length]
  exact⟨n,λm hm=>by simp only[cS,hn m hm]⟩
theorem aaw(P:Prog)(r:zj):∃n,∀m,n<=m->m9 P (iter P m) r=m9 P (ev P) r:=by
 cases r with
 |call f xs h =>
  cases hf:P f with
  |none=>exact⟨0,λm _=>by simp only[m9,hf]⟩
  |some fn =>
   obtain⟨n,hn⟩:=Lh P h.length fn.code ⟨oR 0 xs,h,true⟩;exact⟨n,λm hm=>by simp only[m9,hf,hn m hm]⟩
 |loop q live c env h =>
  obtain⟨n,hn⟩:=Lh P q c ⟨env,h,true⟩;cases hx:cS (ev P) q c ⟨env,h,true⟩with
  |mk e s =>
   cases hp:canon q live s.env s.heap with
   |none =>
    refine⟨n,λm hm=>?_⟩
    simp only[m9];rw[hn m (by omega),hx]
    cases e
    .simp[hp]
    .rfl
    .rfl
   |some p =>
    obtain⟨k,hk⟩:=near P (.loop q live c p.1 p.2);refine⟨max n k,λm hm=>?_⟩
    simp only[m9];rw[hn m (by omega),hx]
    cases e
    .simp[hp,hk m (by omega)]
    .rfl
    .rfl
 |round ps y z xs env h =>
  obtain⟨n,hn⟩:=Lh P h.length y ⟨ps.zip xs++env,h,true⟩;cases hx:cS (ev P) h.length y ⟨ps.zip xs++env,h,true⟩with
  |mk e s =>
   obtain⟨k,hk⟩:=Lh P h.length z s;refine⟨max n k,λm hm=>?_⟩
   simp only[m9];rw[hn m (by omega),hx]
   cases e
   .simp only;rw[hk m (by omega)]
   .rfl
   .rfl
theorem ev_eq(P:Prog)(r:zj):ev P r=m9 P (ev P) r:=by
 obtain⟨n,hn⟩:=aaw P r;obtain⟨k,hk⟩:=near P r;rw[<-hn (max n k) (by omega)]
 have:=hk (max n k+1) (by omega)
 rw[<-this];rfl
end Go.VS
namespace Go.VS
structure Gh where
 β:Nat->Nat
 o:Nat->Nat
 I:Nat->Nat
structure fD where
 fn:Nat->Nat
 lk:List Nat->C->C->Code->Code->Nat->Prop
instance:CoeFun fD (λ_=>Nat->Nat):=⟨fD.fn⟩
instance:Coe fD (Nat->Nat):=⟨fD.fn⟩
section
variable (φ:fD)
mutual
def bT(I:Nat->Nat)(w:World):D->Value->Prop
 | .b x,v=>v = .bool x
 | .i k n,v=>v = .int k n
 | .s x,v=>∃bs:ByteArray,v = .string bs/\bs.toList=x
 | .nil,v=>v = .pointer none
 | .ref cs,v=>∃b off,v = .pointer (some ⟨b,off,none⟩)/\off+cs.length<=I b/\nO I w b off cs
 | .sl es nl xs,v=>∃a cap,v = .slice a xs.length cap/\xs.length<=cap/\(nl=true->a=none/\cap=0) /\
   (nl=false->∃ad:Addr,a=some ad/\(xs≠[]->ad.spot=none/\ad.off+es*xs.length<=I ad.block/\jM I w ad.block es ad.off xs))
 | .fn f a b,v=>∃A B,v = .func (.func (φ f)) A B/\cx I w a A.toList/\cx I w b B.toList
 | .cN,v=>v = .nilFunc
 | .kf t x,v=>∃y,v = .iface t y/\bT I w x y
 | .AV,v=>v = .nilIface
 | .uE,v=>v = .map none
 | .ag cs,v=>∃A,v = .agg A/\cx I w cs A.toList/\∀x∈A.toList,x.oneCell'=true
 | .Cw,_=>True
def nO(I:Nat->Nat)(w:World)(b:Nat):Nat->List D->Prop
 |_,[]=>True
 |off,c::cs=>(∃x,w.cell? ⟨b,off,none⟩=some x/\x.oneCell'=true/\bT I w c x)/\nO I w b (off+1) cs
def jM(I:Nat->Nat)(w:World)(b es:Nat):Nat->List (List D)->Prop
 |_,[]=>True
 |off,r::rs=>r.length=es/\nO I w b off r/\jM I w b es (off+es) rs
def cx(I:Nat->Nat)(w:World):List D->List Value->Prop
 | [],[]=>True
 |c::cs,v::vs=>bT I w c v/\cx I w cs vs
 |_,_=>False
end
structure Ext(I:Nat->Nat)(w:World)(I':Nat->Nat)(w':World):Prop where
 le:∀b,I b<=I' b
 cell:∀b i,i<I b->w'.cell? ⟨b,i,none⟩=w.cell? ⟨b,i,none⟩
theorem Ext.refl(I:Nat->Nat)(w:World):Ext I w I w:=⟨λ_=>gh _,λ_ _ _=>rfl⟩
theorem Ext.trans{I I' Z1:Nat->Nat}{w w' w'':World}(h:Ext I w I' w')(k:Ext I' w' Z1 w''):Ext I w Z1 w'' :=
 ⟨λb=>mE (h.le b) (k.le b),λb i hi=>(k.cell b i (pU hi (h.le b))).trans (h.cell b i hi)⟩
variable {φ}
mutual
theorem yw{I I':Nat->Nat}{w w':World}(h:Ext I w I' w'):∀{x:D}{v:Value},bT φ I w x v->bT φ I' w' x v
 | .b x,v,hr=>by simpa[bT]using hr
 | .i k n,v,hr=>by simpa[bT]using hr
 | .s x,v,hr=>by simpa[bT]using hr
 | .nil,v,hr=>by simpa[bT]using hr
 | .ref cs,v,hr=>by
  simp only[bT]at hr⊢;obtain⟨b,off,rfl,hI,hc⟩:=hr;exact⟨b,off,rfl,mE hI (h.le b),Ua h hI hc⟩
 | .sl es nl xs,v,hr=>by
  simp only[bT]at hr⊢;obtain⟨a,cap,rfl,hl,ht,hf⟩:=hr;refine⟨a,cap,rfl,hl,ht,λgj=>?_⟩
  obtain⟨ad,ha,hx⟩:=hf gj;refine⟨ad,ha,λhne=>?_⟩
  obtain⟨hs,hI,hr⟩:=hx hne;exact⟨hs,mE hI (h.le _),Z2 h hI hr⟩
 | .fn f a b,v,hr=>by
  simp only[bT]at hr⊢;obtain⟨A,B,rfl,ha,hb⟩:=hr;exact⟨A,B,rfl,Af h ha,Af h hb⟩
 | .cN,v,hr=>by simpa[bT]using hr
 | .kf t x,v,hr=>by
  simp only[bT]at hr⊢;obtain⟨y,rfl,hx⟩:=hr;exact⟨y,rfl,yw h hx⟩
 | .AV,v,hr=>by simpa[bT]using hr
 | .uE,v,hr=>by simpa[bT]using hr
 | .ag cs,v,hr=>by
  simp only[bT]at hr⊢;obtain⟨A,rfl,ha,h1⟩:=hr;exact⟨A,rfl,Af h ha,h1⟩
 | .Cw,v,hr=>by simp[bT]
theorem Ua{I I':Nat->Nat}{w w':World}(h:Ext I w I' w'){b:Nat}:∀{off:Nat}{cs:List D},off+cs.length<=I b->nO φ I w b off cs->nO φ I' w' b off cs
 |_,[],_,_=>by simp[nO]
 |off,c::cs,hI,hr=>by
  simp only[nO]at hr⊢;simp only[ir]at hI;obtain⟨⟨x,hx,h1,hd⟩,sj⟩:=hr;exact⟨⟨x,by rw[h.cell b off (by omega)];exact hx,h1,yw h hd⟩,Ua h (by omega) sj⟩
theorem Z2{I I':Nat->Nat}{w w':World}(h:Ext I w I' w'){b es:Nat}:∀{off:Nat}{xs:List (List D)},off+es*xs.length<=I b->jM φ I w b es off xs->jM φ I' w' b es off xs
 |_,[],_,_=>by simp[jM]
 |off,r::rs,hI,hr=>by
  simp only[jM]at hr⊢;simp only[ir,Hh,Qi]at hI;obtain⟨hl,hc,sj⟩:=hr;exact⟨hl,Ua h (by omega) hc,Z2 h (by omega) sj⟩
theorem Af{I I':Nat->Nat}{w w':World}(h:Ext I w I' w'):∀{cs:List D}{vs:List Value},cx φ I w cs vs->cx φ I' w' cs vs
 | [],[],_=>by simp[cx]
 |c::cs,v::vs,hr=>by
  simp only[cx]at hr⊢;exact⟨yw h hr.1,Af h hr.2⟩
 | [],_::_,hr=>by simp[cx]at hr
 |_::_,[],hr=>by simp[cx]at hr
end
theorem sW{I:Nat->Nat}{w:World}:∀{cs:List D}{vs:List Value},cx φ I w cs vs->cs.length=vs.length
 | [],[],_=>rfl
 |_::_,_::_,h=>by simp only[cx]at h;simp[sW h.2]
 | [],_::_,h=>by simp[cx]at h
 |_::_,[],h=>by simp[cx]at h
theorem BB{I:Nat->Nat}{w:World}:∀{cs:List D}{vs:List Value},cx φ I w cs vs->∀{j:Nat}{c:D},cs[j]?=some c->∃v,vs[j]?=some v/\bT φ I w c v
 | [],_,_,j,c,hc=>by simp at hc
 |c::cs,[],h,_,_,_=>by simp[cx]at h
 |c::cs,v::vs,h,j,x,hx=>by
  simp only[cx]at h;cases j with
  |zero=>simp at hx;subst hx;exact⟨v,rfl,h.1⟩
  |succ j=>simpa using BB h.2 (j:=j) (by simpa using hx)
theorem Ah{I:Nat->Nat}{w:World}{cs ds:List D}{vs us:List Value}(h:cx φ I w cs vs)(k:cx φ I w ds us):cx φ I w (cs++ds) (vs++us):=by
 induction cs generalizing vs with
 |nil=>cases vs<;>simp_all[cx]
 |cons c cs ih=>cases vs<;>simp_all[cx]
theorem FG{I:Nat->Nat}{w:World}{b:Nat}:∀{off:Nat}{cs:List D},nO φ I w b off cs->∀{j:Nat}{c:D},cs[j]?=some c ->
  ∃x,w.cell? ⟨b,off+j,none⟩=some x/\x.oneCell'=true/\bT φ I w c x
 |off,[],_,j,c,hc=>by simp at hc
 |off,c::cs,h,j,x,hx=>by
  simp only[nO]at h;cases j with
  |zero=>simp at hx;subst hx;exact h.1
  |succ j =>
   have:=FG h.2 (j:=j) (by simpa using hx)
   rwa [qF,rL 1 j]at this
theorem wD{I:Nat->Nat}{w:World}{b:Nat}:∀{off:Nat}{cs:List D},(∀(j:Nat)(c:D),cs[j]?=some c->∃x,w.cell? ⟨b,off+j,none⟩=some x/\x.oneCell'=true/\bT φ I w c x)->nO φ I w b off cs
 |off,[],_=>by simp[nO]
 |off,c::cs,h=>by
  simp only[nO];refine⟨h 0 c rfl,wD λj x hx=>?_⟩
  have:=h (j+1) x (by simpa using hx)
  rwa [<-Nat.add_assoc,Nat.add_right_comm]at this
theorem oB{I:Nat->Nat}{w:World}{b es:Nat}:∀{off:Nat}{xs:List (List D)},jM φ I w b es off xs->∀{r:Nat}{row:List D},xs[r]?=some row ->
  row.length=es/\nO φ I w b (off+r*es) row
 |off,[],_,r,row,hc=>by simp at hc
 |off,x::xs,h,r,row,hx=>by
  simp only[jM]at h;cases r with
  |zero=>simp at hx;subst hx;simpa using⟨h.1,h.2.1⟩
  |succ r =>
   have:=oB h.2.2 (r:=r) (by simpa using hx)
   rw[rM]
   rwa [qF,rL es]at this
theorem vk{I:Nat->Nat}{w:World}{b es:Nat}:∀{off:Nat}{xs:List (List D)},(∀(r:Nat)(row:List D),xs[r]?=some row->row.length=es/\nO φ I w b (off+r*es) row)->jM φ I w b es off xs
 |off,[],_=>by simp[jM]
 |off,x::xs,h=>by
  simp only[jM];have h0:=h 0 x rfl;refine⟨h0.1,by simpa using h0.2,vk λr row hr=>?_⟩
  have:=h (r+1) row (by simpa using hr)
  rw[rM]at this
  rwa [qF,rL es]
theorem I6{I:Nat->Nat}{w:World}{b off:Nat}{cs:List D}(h:nO φ I w b off cs):
  ∃vs:List Value,cx φ I w cs vs/\(∀(j:Nat)(v:Value),vs[j]?=some v->w.cell? ⟨b,off+j,none⟩=some v)/\∀v∈vs,v.oneCell'=true:=by
 induction cs generalizing off with
 |nil=>exact⟨[],by simp[cx],by simp,by simp⟩
 |cons c cs ih =>
  simp only[nO]at h;obtain⟨⟨x,hx,h1,hd⟩,hr⟩:=h;obtain⟨vs,hv,hc,ho⟩:=ih hr;refine⟨x::vs,by simp only[cx];exact⟨hd,hv⟩,λj v hj=>?_,by simpa using⟨h1,ho⟩⟩
  cases j with
  |zero=>simp at hj;subst hj;simpa using hx
  |succ j =>
   have:=hc j v (by simpa using hj)
   rwa [qF,rL 1 j]at this
theorem N4{I:Nat->Nat}{w:World}{b off:Nat}{cs:List D}{vs:List Value}(h:cx φ I w cs vs)
  (hc:∀(j:Nat)(v:Value),vs[j]?=some v->w.cell? ⟨b,off+j,none⟩=some v)(h1:∀v∈vs,v.oneCell'=true):nO φ I w b off cs :=
 wD λ_ _ hj =>
  let ⟨v,hv,hd⟩:=BB h hj
  ⟨v,hc _ v hv,h1 v (lE hv),hd⟩
end
end Go.VS
namespace Go.VS
def O.gN:O->Option Nat
 | .aI es _ _=>some es
 | .gK es _=>some es
 |_=>none
def O.len:O->Nat
 | .aI _ _ rows=>rows.length
 | .gK _ rows=>rows.length
 |_=>0
def O.tY:O->Bool
 | .lp ..=>true
 |_=>false
def O.live:O->Bool
 | .dead=>false
 |_=>true
def yx(CS:Array Value):Prop:=∀x∈CS.toList,x.oneCell'=true
def nP(o o':Option Obj):Prop:=∀CS T,o=some (.cells CS T (0,0))->∃sk T',o'=some (.cells sk T' (0,0))/\CS.size<=sk.size/\(yx CS->yx sk)
theorem nP.of_eq{o o':Option Obj}(h:o'=o):nP o o':=λCS T hc=>⟨CS,T,by rw[h];exact hc,gh _,id⟩
theorem nP.trans{o o' Z3:Option Obj}(a:nP o o')(b:nP o' Z3):nP o Z3:=λCS T hc =>
 let ⟨sk,T',h1,h2,h3⟩:=a CS T hc
 let ⟨Ub,T2,k1,k2,k3⟩:=b sk T' h1
 ⟨Ub,T2,k1,mE h2 k2,λh=>k3 (h3 h)⟩
def I7:Value->Bool
 | .pointer (some _)=>true
 |_=>false
theorem ag9{v:Value}(h:I7 v=true):v.oneCell'=true:=by
 cases v<;>simp[I7]at h;rfl
section
variable (φ:fD)
mutual
def aK(h:List O)(g:Gh)(w:World):V->Value->Prop
 | .u,_=>True
 | .kN,v=>v=undef
 | .d x,v=>bT φ g.I w x v
 | .loc n r c,v=>n<h.length/\I7 v=true/\∀es,(aV h n).gN=some es->v = .pointer (some ⟨g.β n,g.o n+r*es+c,none⟩)
 | .aR n off len,v=>n<h.length/\v.oneCell'=true/\∀es,(aV h n).gN=some es->∃cap,v = .slice (some ⟨g.β n,g.o n+off*es,none⟩) len cap/\len<=cap/\(aV h n).len<=off+cap /\
   ∃CS T,w.heap[g.β n]?=some (.cells CS T (0,0))/\g.o n+(off+cap)*es<=CS.size/\yx CS
 | .jl n off len,v=>n<h.length/\v.oneCell'=true/\∀es,(aV h n).gN=some es->∃cap,v = .slice (some ⟨g.β n,g.o n+off*es,none⟩) len cap/\len<=cap/\(aV h n).len=off+cap /\
   ∃CS T,w.heap[g.β n]?=some (.cells CS T (0,0))/\g.o n+(off+cap)*es<=CS.size/\yx CS
 | .jc _,v=>∃ad:Addr,v = .slice (some ad) 0 0
 | .mp n,v=>n<h.length/\v.oneCell'=true/\∀kv,aV h n = .mp kv->v = .map (some (g.β n))
 | .rf cs,v=>∃b off us,v = .pointer (some ⟨b,off,none⟩)/\off+cs.length<=g.I b/\bU h g w cs us/\∀(j:Nat)(u:Value),us[j]?=some u->w.cell? ⟨b,off+j,none⟩=some u/\u.oneCell'=true
 | .ju n,v=>n<h.length/\v.oneCell'=true/\((aV h n).tY=true->v = .func (.yield (g.β n)) #[] #[])
 | .fn f a b,v=>∃A B,v = .func (.func (φ f)) A B/\bU h g w a A.toList/\bU h g w b B.toList
 | .ag cs,v=>∃A,v = .agg A/\bU h g w cs A.toList/\∀x∈A.toList,x.oneCell'=true
 | .tu vs,v=>∃A,v = .tuple A/\bU h g w vs A.toList
def bU(h:List O)(g:Gh)(w:World):List V->List Value->Prop
 | [],[]=>True
 |c::cs,v::vs=>aK h g w c v/\bU h g w cs vs
 |_,_=>False
end
def wE(h:List O)(g:Gh)(w:World)(b es o:Nat)(rows:List (List V)):Prop :=
 ∀(r:Nat)(row:List V),rows[r]?=some row->row.length=es /\
  ∀(j:Nat)(c:V),row[j]?=some c->∃x,w.cell? ⟨b,o+r*es+j,none⟩=some x/\x.oneCell'=true/\aK φ h g w c x
def vm(h:List O)(g:Gh)(w:World)(kv:List (D×V))(es:List MapEntry):Prop :=
 kv.length=es.length/\∀(i:Nat)(p:D×V)(e:MapEntry),kv[i]?=some p->es[i]?=some e->bT φ g.I w p.1 e.key/\aK φ h g w p.2 e.val
def wF:Ex->Option Code
 | .normal=>none
 | .exit id=>some (.exit id)
 | .ret=>some .ret
def Dr(h:List O)(g:Gh)(w:World)(env:List (Nat×V))(tmps:Array Value):Prop:=∀p∈env,aK φ h g w p.2 (tmps.getD p.1 undef)
def gC(h:List O)(g:Gh)(w:World)(b o:Nat):O->Prop
 | .aI es ex rows=>(∃CS T,w.heap[b]?=some (.cells CS T (0,0))/\o+es*rows.length<=CS.size)/\jM φ g.I w b es o rows /\
   (if ex then g.I b<=o else g.I b=o+es*rows.length)
 | .gK es rows=>(∃CS T,w.heap[b]?=some (.cells CS T (0,0))/\o+es*rows.length<=CS.size)/\wE φ h g w b es o rows/\g.I b<=o
 | .mp kv=>∃ES kZ,w.heap[b]?=some (.map ES kZ)/\vm φ h g w kv ES.toList/\g.I b=0
 | .lp ps a c e env=>∃(r:Loop)(nt:Nat),w.heap[b]?=some (.loop r)/\r.params=ps.toArray/\φ.lk ps a c r.assign r.body nt/\nt<=r.tmps.size/\Dr φ h g w env r.tmps /\
   r.state=(if e = .normal then .ready else .done)/\r.pending=wF e/\g.I b=0
 | .dead=>True
structure fj(h:List O)(g:Gh)(w:World):Prop where
 obj:∀n,gC φ h g w (g.β n) (g.o n) (aV h n)
 inj:∀n m,(aV h n).live=true->(aV h m).live=true->g.β n=g.β m->n=m
 new:∀b,w.heap.size<=b->g.I b=0
structure gT(h:List O)(g:Gh)(w:World)(h':List O)(g':Gh)(w':World):Prop where
 ext:Ext g.I w g'.I w'
 len:h.length<=h'.length
 arr:∀n es,n<h.length->(aV h' n).gN=some es->(aV h n).gN=some es/\g'.β n=g.β n/\g'.o n=g.o n/\(aV h' n).len=(aV h n).len/\nP w.heap[g.β n]? w'.heap[g.β n]?
 mp:∀n kv,n<h.length->aV h' n = .mp kv->(∃kv',aV h n = .mp kv')/\g'.β n=g.β n
 lp:∀n,n<h.length->(aV h' n).tY=true->(aV h n).tY=true/\g'.β n=g.β n
variable {φ}
theorem gT.refl(h:List O)(g:Gh)(w:World):gT h g w h g w :=
 ⟨Ext.refl _ _,gh _,λ_ _ _ he=>⟨he,rfl,rfl,rfl,nP.of_eq rfl⟩,λ_ kv _ hk=>⟨⟨kv,hk⟩,rfl⟩,λ_ _ hk=>⟨hk,rfl⟩⟩
mutual
theorem lU{h h':List O}{g g':Gh}{w w':World}(hle:gT h g w h' g' w'):∀{x:V}{v:Value},aK φ h g w x v->aK φ h' g' w' x v
 | .u,v,_=>by simp[aK]
 | .kN,v,hr=>by simpa[aK]using hr
 | .d x,v,hr=>by simp only[aK]at hr⊢;exact yw hle.ext hr
 | .loc n r c,v,hr=>by
  simp only[aK]at hr⊢;refine⟨pU hr.1 hle.len,hr.2.1,λes he=>?_⟩
  obtain⟨h1,h2,h3,_⟩:=hle.arr n es hr.1 he;rw[h2,h3];exact hr.2.2 es h1
 | .aR n off len,v,hr=>by
  simp only[aK]at hr⊢;refine⟨pU hr.1 hle.len,hr.2.1,λes he=>?_⟩
  obtain⟨h1,h2,h3,h4,h5⟩:=hle.arr n es hr.1 he;obtain⟨cap,hv,hl,hm,CS,T,hb,hs,h1c⟩:=hr.2.2 es h1;obtain⟨sk,T',hb',hs',Uc⟩:=h5 CS T hb;refine⟨cap,by rw[h2,h3];exact hv,hl,by rw[h4];exact hm,sk,T',by rw[h2];exact hb',by rw[h3];exact mE hs hs',Uc h1c⟩
 | .jl n off len,v,hr=>by
  simp only[aK]at hr⊢;refine⟨pU hr.1 hle.len,hr.2.1,λes he=>?_⟩
  obtain⟨h1,h2,h3,h4,h5⟩:=hle.arr n es hr.1 he;obtain⟨cap,hv,hl,hm,CS,T,hb,hs,h1c⟩:=hr.2.2 es h1;obtain⟨sk,T',hb',hs',Uc⟩:=h5 CS T hb;refine⟨cap,by rw[h2,h3];exact hv,hl,by rw[h4];exact hm,sk,T',by rw[h2];exact hb',by rw[h3];exact mE hs hs',Uc h1c⟩
 | .jc _,v,hr=>by simpa only[aK]using hr
 | .mp n,v,hr=>by
  simp only[aK]at hr⊢;refine⟨pU hr.1 hle.len,hr.2.1,λkv hk=>?_⟩
  obtain⟨⟨kv',hk'⟩,h2⟩:=hle.mp n kv hr.1 hk;rw[h2];exact hr.2.2 kv' hk'
 | .rf cs,v,hr=>by
  simp only[aK]at hr⊢;obtain⟨b,off,us,rfl,hI,hv,hc⟩:=hr;have hl:∀{xs:List V}{vs:List Value},bU φ h g w xs vs->xs.length=vs.length:=by
   intro xs;induction xs with
   |nil=>intro vs hr;cases vs<;>simp_all[bU]
   |cons x xs ih=>intro vs hr;cases vs<;>simp_all[bU];exact ih hr.2
  refine⟨b,off,us,rfl,mE hI (hle.ext.le b),yy hle hv,λj u hj=>?_⟩
  have hj':j<us.length:=(sF.1 hj).1;have:=hl hv;rw[hle.ext.cell b (off+j) (by omega)]
  exact hc j u hj
 | .ju n,v,hr=>by
  simp only[aK]at hr⊢;refine⟨pU hr.1 hle.len,hr.2.1,λhk=>?_⟩
  obtain⟨hk',h2⟩:=hle.lp n hr.1 hk;rw[h2];exact hr.2.2 hk'
 | .fn f a b,v,hr=>by
  simp only[aK]at hr⊢;obtain⟨A,B,rfl,ha,hb⟩:=hr;exact⟨A,B,rfl,yy hle ha,yy hle hb⟩
 | .ag cs,v,hr=>by
  simp only[aK]at hr⊢;obtain⟨A,rfl,ha,h1⟩:=hr;exact⟨A,rfl,yy hle ha,h1⟩
 | .tu cs,v,hr=>by
  simp only[aK]at hr⊢;obtain⟨A,rfl,ha⟩:=hr;exact⟨A,rfl,yy hle ha⟩
theorem yy{h h':List O}{g g':Gh}{w w':World}(hle:gT h g w h' g' w'):∀{xs:List V}{vs:List Value},bU φ h g w xs vs->bU φ h' g' w' xs vs
 | [],[],_=>by simp[bU]
 |c::cs,v::vs,hr=>by
  simp only[bU]at hr⊢;exact⟨lU hle hr.1,yy hle hr.2⟩
 | [],_::_,hr=>by simp[bU]at hr
 |_::_,[],hr=>by simp[bU]at hr
end
theorem pz{h:List O}{g:Gh}{w:World}:∀{cs:List V}{vs:List Value},bU φ h g w cs vs->cs.length=vs.length
 | [],[],_=>rfl
 |_::_,_::_,h=>by simp only[bU]at h;simp[pz h.2]
 | [],_::_,h=>by simp[bU]at h
 |_::_,[],h=>by simp[bU]at h
theorem Ds{h:List O}{g:Gh}{w:World}:∀{cs:List V}{vs:List Value},bU φ h g w cs vs->∀{j:Nat}{c:V},cs[j]?=some c->∃v,vs[j]?=some v/\aK φ h g w c v
 | [],_,_,j,c,hc=>by simp at hc
 |c::cs,[],h,_,_,_=>by simp[bU]at h
 |c::cs,v::vs,h,j,x,hx=>by
  simp only[bU]at h;cases j with
  |zero=>simp at hx;subst hx;exact⟨v,rfl,h.1⟩
  |succ j=>simpa using Ds h.2 (j:=j) (by simpa using hx)
theorem I8{h:List O}{g:Gh}{w:World}{x:V}{v:Value}(hr:aK φ h g w x v):aK φ h g w x.wk v:=by
 cases x with
 |jl n off len =>
  simp only[V.wk,aK]at hr⊢;refine⟨hr.1,hr.2.1,λes he=>?_⟩
  obtain⟨cap,h1,h2,h3,h4⟩:=hr.2.2 es he;exact⟨cap,h1,h2,by omega,h4⟩
 |_=>exact hr
theorem aha{h:List O}{g:Gh}{w:World}{cs:List V}{vs:List Value}(hr:bU φ h g w cs vs):bU φ h g w (cs.map V.wk) vs:=by
 induction cs generalizing vs with
 |nil=>cases vs<;>simp_all[bU]
 |cons c cs ih =>
  cases vs with
  |nil=>simp[bU]at hr
  |cons v vs =>
   simp only[bU]at hr;simp only[gm,bU];exact⟨I8 hr.1,ih hr.2⟩
theorem sn{h:List O}{g:Gh}{w:World}{cs ds:List V}{vs us:List Value}(hr:bU φ h g w cs vs)(k:bU φ h g w ds us):bU φ h g w (cs++ds) (vs++us):=by
 induction cs generalizing vs with
 |nil=>cases vs<;>simp_all[bU]
 |cons c cs ih=>cases vs<;>simp_all[bU]
theorem Z4{h:List O}{g:Gh}{w:World}{cs:List V}{vs:List Value}(hr:bU φ h g w cs vs)(n:Nat):bU φ h g w (cs.take n) (vs.take n):=by
 induction cs generalizing vs n with
 |nil=>cases vs<;>simp_all[bU]
 |cons c cs ih=>cases vs<;>cases n<;>simp_all[bU]
theorem I9{h:List O}{g:Gh}{w:World}{cs:List V}{vs:List Value}(hr:bU φ h g w cs vs)(n:Nat):bU φ h g w (cs.drop n) (vs.drop n):=by
 induction cs generalizing vs n with
 |nil=>cases vs<;>simp_all[bU]
 |cons c cs ih=>cases vs<;>cases n<;>simp_all[bU]
theorem Ai{h:List O}{g:Gh}{w:World}{cs:List D}{vs:List Value}(hr:cx φ g.I w cs vs):bU φ h g w (cs.map V.d) vs:=by
 induction cs generalizing vs with
 |nil=>cases vs<;>simp_all[cx,bU]
 |cons c cs ih=>cases vs<;>simp_all[cx,bU,aK]
theorem Aj{h:List O}{g:Gh}{w:World}:∀{cs:List V}{ds:List D}{vs:List Value},eY cs=some ds->bU φ h g w cs vs->cx φ g.I w ds vs
 | [],ds,vs,hd,hr=>by simp[eY]at hd;subst hd;cases vs<;>simp_all[bU,cx]
 |c::cs,ds,[],_,hr=>by simp[bU]at hr
 |c::cs,ds,v::vs,hd,hr=>by
  cases c<;>simp only[eY,reduceCtorEq]at hd;rename_i x;cases hq:eY cs with
  |none=>simp[hq]at hd
  |some es =>
   simp[hq]at hd;subst hd;simp only[bU,aK,cx]at hr⊢;exact⟨hr.1,Aj hq hr.2⟩
theorem ahb(ds:List D):eY (ds.map V.d)=some ds:=by
 induction ds with
 |nil=>rfl
 |cons d ds ih=>simp[eY,ih]
theorem FH:∀{cs:List V}{ds:List D},eY cs=some ds->cs=ds.map V.d
 | [],ds,h=>by simp[eY]at h;subst h;rfl
 |c::cs,ds,h=>by
  cases c<;>simp only[eY,reduceCtorEq]at h;cases hq:eY cs with
  |none=>simp[hq]at h
  |some es=>simp[hq]at h;subst h;simp[FH hq]
theorem ahc{v:Value}(h:v.oneCell'=true):v.cells=#[v]:=by
 cases v<;>first |rfl |simp[Value.oneCell']at h
theorem ahd{I:Nat->Nat}{w:World}{x:D}{v:Value}(hr:bT φ I w x v)(hx:∀cs,x≠.ag cs)(hj:x≠.Cw):v.oneCell'=true:=by
 cases x<;>simp only[bT]at hr
 case ag cs=>exact absurd rfl (hx cs)
 case Cw=>exact absurd rfl hj
 all_goals first
  |(subst hr;rfl)
  |(obtain⟨_,rfl,_⟩:=hr;rfl)
  |(obtain⟨_,_,rfl,_⟩:=hr;rfl)
theorem Ak{h:List O}{g:Gh}{w:World}{x:V}{v:Value}(hr:aK φ h g w x v)(hx:x.cells=[x])(h1:v.oneCell'=true):
  bU φ h g w x.cells v.cells.toList/\∀y∈v.cells.toList,y.oneCell'=true:=by
 rw[hx,ahc h1];exact⟨by simpa[bU]using hr,by simpa using h1⟩
theorem FI{h:List O}{g:Gh}{w:World}{x:V}{v:Value}(hr:aK φ h g w x v)(hx:x.known=true):
  bU φ h g w x.cells v.cells.toList/\∀y∈v.cells.toList,y.oneCell'=true:=by
 cases x with
 |u=>simp[V.known]at hx
 |kN=>simp[V.known]at hx
 |tu vs=>simp[V.known]at hx
 |d y =>
  cases y with
  |ag cs =>
   simp only[aK,bT]at hr;obtain⟨A,rfl,ha,h1⟩:=hr;exact⟨Ai ha,h1⟩
  |Cw=>simp[V.known]at hx
  |_=>exact Ak hr rfl (ahd (by simpa only[aK]using hr) (by intro _ hh;cases hh) (by intro hh;cases hh))
 |loc n r c=>exact Ak hr rfl (by simp only[aK]at hr;exact ag9 hr.2.1)
 |aR n off len=>exact Ak hr rfl (by simp only[aK]at hr;exact hr.2.1)
 |jl n off len=>exact Ak hr rfl (by simp only[aK]at hr;exact hr.2.1)
 |mp n=>exact Ak hr rfl (by simp only[aK]at hr;exact hr.2.1)
 |ju n=>exact Ak hr rfl (by simp only[aK]at hr;exact hr.2.1)
 |rf cs =>
  refine Ak hr rfl ?_;simp only[aK]at hr;obtain⟨b,off,us,rfl,_⟩:=hr;rfl
 |jc es =>
  refine Ak hr rfl ?_;simp only[aK]at hr;obtain⟨ad,rfl⟩:=hr;rfl
 |fn f a b =>
  refine Ak hr rfl ?_;simp only[aK]at hr;obtain⟨A,B,rfl,_⟩:=hr;rfl
 |ag cs =>
  simp only[aK]at hr;obtain⟨A,rfl,ha,h1⟩:=hr;exact⟨ha,h1⟩
structure Al(h:List O)(g:Gh)(w:World)(h':List O)(w':World)(n:Nat):Prop where
 arr:∀es,(aV h' n).gN=some es->(aV h n).gN=some es/\(aV h' n).len=(aV h n).len/\nP w.heap[g.β n]? w'.heap[g.β n]?
 mp:∀kv,aV h' n = .mp kv->∃kv',aV h n = .mp kv'
 lp:(aV h' n).tY=true->(aV h n).tY=true
theorem Al.refl(h:List O)(g:Gh)(w:World)(n:Nat):Al h g w h w n:=⟨λ_ he=>⟨he,rfl,nP.of_eq rfl⟩,λkv hk=>⟨kv,hk⟩,id⟩
theorem Al.trans{h h' h'':List O}{g g':Gh}{w w' w'':World}{n:Nat}(a:Al h g w h' w' n)(b:Al h' g' w' h'' w'' n)(hb:g'.β n=g.β n):Al h g w h'' w'' n where
 arr es he:=by
  obtain⟨h1,h2,h3⟩:=b.arr es he;obtain⟨k1,k2,k3⟩:=a.arr es h1;rw[hb]at h3;exact⟨k1,h2.trans k2,k3.trans h3⟩
 mp kv hk:=let ⟨kv',h1⟩:=b.mp kv hk;a.mp kv' h1
 lp hk:=a.lp (b.lp hk)
theorem gT.at{h h':List O}{g g':Gh}{w w':World}(hle:gT h g w h' g' w'){n:Nat}(hn:n<h.length):Al h g w h' w' n :=
 ⟨λes he=>let ⟨h1,_,_,h2,h3⟩:=hle.arr n es hn he;⟨h1,h2,h3⟩,λkv hk=>(hle.mp n kv hn hk).1,λhk=>(hle.lp n hn hk).1⟩
structure Frame(m:Nat)(h:List O)(g:Gh)(w:World)(h':List O)(g':Gh)(w':World):Prop where
 ext:Ext g.I w g'.I w'
 size:w.heap.size<=w'.heap.size
 os:w'.os=w.os
 tape:w'.tape=w.tape
 output:w'.output=w.output
 pE:∀n,n<m->g'.β n=g.β n/\g'.o n=g.o n
 keep:∀b,b<w.heap.size->(∀n,(aV h n).live=true->g.β n≠b)->w'.heap[b]?=w.heap[b]?/\g'.I b=g.I b
 mL:∀n,(aV h' n).live=true->(∃k,(aV h k).live=true/\g.β k=g'.β n)\/w.heap.size<=g'.β n
 pF:∀n,n<m->Al h g w h' w' n
theorem Frame.refl(m:Nat)(h:List O)(g:Gh)(w:World):Frame m h g w h g w :=
 ⟨Ext.refl _ _,gh _,rfl,rfl,rfl,λ_ _=>⟨rfl,rfl⟩,λ_ _ _=>⟨rfl,rfl⟩,λn hn=>.inl ⟨n,hn,rfl⟩,λn _=>Al.refl _ _ _ n⟩
theorem Frame.trans{m:Nat}{h h' h'':List O}{g g' g'':Gh}{w w' w'':World}(a:Frame m h g w h' g' w')(b:Frame m h' g' w' h'' g'' w''):Frame m h g w h'' g'' w'' where
 ext:=a.ext.trans b.ext
 size:=mE a.size b.size
 os:=b.os.trans a.os
 tape:=b.tape.trans a.tape
 output:=b.output.trans a.output
 pE n hn:=⟨(b.pE n hn).1.trans (a.pE n hn).1,(b.pE n hn).2.trans (a.pE n hn).2⟩
 keep k hk hn:=by
  have h1:=a.keep k hk hn;have h2:=b.keep k (pU hk a.size) (λn hl he=>by
   rcases a.mL n hl with⟨j,hj,hb⟩ |hs
   .exact hn j hj (hb.trans he)
   .omega)
  exact⟨h2.1.trans h1.1,h2.2.trans h1.2⟩
 mL n hn:=by
  rcases b.mL n hn with⟨k,hk,hb⟩ |hs
  .rcases a.mL k hk with⟨j,hj,hc⟩ |hs'
   .exact .inl ⟨j,hj,hc.trans hb⟩
   .exact .inr (by omega)
  .exact .inr (by have:=a.size;omega)
 pF n hn:=(a.pF n hn).trans (b.pF n hn) (a.pE n hn).1
end
end Go.VS
namespace Go.VS
section
variable {φ:fD}
theorem Ja{w w':World}{b:Nat}(h:w'.heap[b]?=w.heap[b]?)(i:Nat):w'.cell? ⟨b,i,none⟩=w.cell? ⟨b,i,none⟩:=by
 simp only[World.cell?,h]
theorem BC{h:List O}{n:Nat}(hl:(aV h n).live=true):n<h.length:=by
 rcases lG n h.length with hlt |hge
 .exact hlt
 .simp[aV,List.getD,oc hge,O.live]at hl
theorem BD{o:O}{es:Nat}(h:o.gN=some es):o.live=true:=by cases o<;>simp_all[O.gN,O.live]
theorem Z5{I I':Nat->Nat}{w w':World}(hE:Ext I w I' w'){b es o:Nat}{xs:List (List D)}(hc:∀i,w'.cell? ⟨b,i,none⟩=w.cell? ⟨b,i,none⟩)
  (h:jM φ I w b es o xs):jM φ I' w' b es o xs :=
 vk λ_ _ hr =>
  let ⟨h1,h2⟩:=oB h hr
  ⟨h1,wD λ_ _ hj =>
   let ⟨x,hx,h3,h4⟩:=FG h2 hj
   ⟨x,by rw[hc];exact hx,h3,yw hE h4⟩⟩
theorem ahe{h h':List O}{g g':Gh}{w w':World}(hle:gT h g w h' g' w'){b es o:Nat}{rows:List (List V)}
  (hc:∀i,w'.cell? ⟨b,i,none⟩=w.cell? ⟨b,i,none⟩)(hr:wE φ h g w b es o rows):wE φ h' g' w' b es o rows:=λr row hrow =>
 let ⟨h1,h2⟩:=hr r row hrow
 ⟨h1,λj c hj =>
  let ⟨x,hx,h3,h4⟩:=h2 j c hj
  ⟨x,by rw[hc];exact hx,h3,lU hle h4⟩⟩
theorem Ud{h h':List O}{g g':Gh}{w w':World}(hle:gT h g w h' g' w'){kv:List (D×V)}{es:List MapEntry}
  (hr:vm φ h g w kv es):vm φ h' g' w' kv es :=
 ⟨hr.1,λi p e hp he=>let ⟨h1,h2⟩:=hr.2 i p e hp he;⟨yw hle.ext h1,lU hle h2⟩⟩
theorem Ue{h h':List O}{g g':Gh}{w w':World}(hle:gT h g w h' g' w'){env:List (Nat×V)}{tmps:Array Value}
  (hr:Dr φ h g w env tmps):Dr φ h' g' w' env tmps:=λp hp=>lU hle (hr p hp)
theorem Dt{h h':List O}{g g':Gh}{w w':World}(hle:gT h g w h' g' w'){b o:Nat}{x:O}(hb:w'.heap[b]?=w.heap[b]?)(hI:g'.I b=g.I b)
  (hr:gC φ h g w b o x):gC φ h' g' w' b o x:=by
 have hc:=Ja hb;cases x with
 |dead=>trivial
 |aI es ex rows =>
  obtain⟨h1,h2,h3⟩:=hr;exact⟨by rw[hb];exact h1,Z5 hle.ext hc h2,by rw[hI];exact h3⟩
 |gK es rows =>
  obtain⟨h1,h2,h3⟩:=hr;exact⟨by rw[hb];exact h1,ahe hle hc h2,by rw[hI];exact h3⟩
 |mp kv =>
  obtain⟨ES,kZ,h1,h2,h3⟩:=hr;exact⟨ES,kZ,by rw[hb];exact h1,Ud hle h2,by rw[hI];exact h3⟩
 |lp ps a c e env =>
  obtain⟨r,nt,h1,h0,h2,h3,h4,h5,h6,h7⟩:=hr;exact⟨r,nt,by rw[hb];exact h1,h0,h2,h3,Ue hle h4,h5,h6,by rw[hI];exact h7⟩
theorem ahf{h:List O}{g:Gh}{w:World}{b o:Nat}{x:O}(hr:gC φ h g w b o x)(hl:x.live=true):b<w.heap.size:=by
 have key:∀{y:Obj},w.heap[b]?=some y->b<w.heap.size:=λhy=>by
  rcases lG b w.heap.size with hlt |hge
  .exact hlt
  .simp[KB hge]at hy
 cases x with
 |dead=>simp[O.live]at hl
 |aI es ex rows=>obtain⟨⟨CS,T,h1,_⟩,_⟩:=hr;exact key h1
 |gK es rows=>obtain⟨⟨CS,T,h1,_⟩,_⟩:=hr;exact key h1
 |mp kv=>obtain⟨ES,kZ,h1,_⟩:=hr;exact key h1
 |lp ps a c e env=>obtain⟨r,nt,h1,_⟩:=hr;exact key h1
theorem fj.block{h:List O}{g:Gh}{w:World}(hr:fj φ h g w){n:Nat}(hl:(aV h n).live=true):g.β n<w.heap.size:=ahf (hr.obj n) hl
structure gO(w w':World):Prop where
 size:w.heap.size<=w'.heap.size
 same:∀b,b<w.heap.size->w'.heap[b]?=w.heap[b]?
 os:w'.os=w.os
 tape:w'.tape=w.tape
 output:w'.output=w.output
theorem gO.refl(w:World):gO w w:=⟨gh _,λ_ _=>rfl,rfl,rfl,rfl⟩
theorem gO.trans{a b c:World}(h:gO a b)(k:gO b c):gO a c :=
 ⟨mE h.size k.size,λi hi=>(k.same i (pU hi h.size)).trans (h.same i hi),k.os.trans h.os,k.tape.trans h.tape,k.output.trans h.output⟩
theorem gO.alloc(w:World)(o:Obj):gO w (w.alloc o):=
 ⟨by simp,λb hb=>RowKit.Below.heap_alloc w o b hb,rfl,rfl,rfl⟩
theorem gO.drew(w:World):gO w w.drew:=⟨gh _,λ_ _=>rfl,rfl,rfl,rfl⟩
def Gh.ez(g:Gh)(I:Nat->Nat):Gh:=⟨g.β,g.o,I⟩
def iW(I:Nat->Nat)(b k:Nat):Nat->Nat:=λx=>if x=b then k else I x
theorem Du{I I':Nat->Nat}{w w':World}(hg:gO w w')(hI:∀b,b<w.heap.size->I' b=I b)(h0:∀b,w.heap.size<=b->I b=0):Ext I w I' w' :=
 ⟨λb=>by
  rcases lG b w.heap.size with h |h
  .rw[hI b h];exact gh _
  .rw[h0 b h];exact Cq _,
  λb i hi=>by
  rcases lG b w.heap.size with h |h
  .exact Ja (hg.same b h) i
  .rw[h0 b h]at hi;omega⟩
theorem Uf{h:List O}{g:Gh}{w w':World}{I':Nat->Nat}(hr:fj φ h g w)(hg:gO w w')(hI:∀b,b<w.heap.size->I' b=g.I b):gT h g w h (g.ez I') w' where
 ext:=Du hg hI hr.new
 len:=gh _
 arr n es _ he:=⟨he,rfl,rfl,rfl,nP.of_eq (hg.same _ (hr.block (BD he)))⟩
 mp n kv _ hk:=⟨⟨kv,hk⟩,rfl⟩
 lp n _ hk:=⟨hk,rfl⟩
theorem ahg{h:List O}{g:Gh}{w w':World}{I':Nat->Nat}(hr:fj φ h g w)(hg:gO w w')(hI:∀b,b<w.heap.size->I' b=g.I b)
  (hnew:∀b,w'.heap.size<=b->I' b=0):fj φ h (g.ez I') w' where
 obj n:=by
  by_cases hl:(aV h n).live=true
  .have hb:=hr.block hl
   exact Dt (Uf hr hg hI) (hg.same _ hb) (hI _ hb) (hr.obj n)
  .cases hx:aV h n<;>simp_all[O.live,gC]
 inj:=hr.inj
 new:=hnew
theorem Dv(m:Nat){h:List O}{g:Gh}{w w':World}{I':Nat->Nat}(hr:fj φ h g w)(hg:gO w w')(hI:∀b,b<w.heap.size->I' b=g.I b):Frame m h g w h (g.ez I') w' where
 ext:=Du hg hI hr.new
 size:=hg.size
 os:=hg.os
 tape:=hg.tape
 output:=hg.output
 pE _ _:=⟨rfl,rfl⟩
 keep b hb _:=⟨hg.same b hb,hI b hb⟩
 mL n hn:=.inl ⟨n,hn,rfl⟩
 pF n _:=⟨λ_ he=>⟨he,rfl,nP.of_eq (hg.same _ (hr.block (BD he)))⟩,λkv hk=>⟨kv,hk⟩,id⟩
def Gh.add(g:Gh)(n b o:Nat)(I:Nat->Nat):Gh:=⟨λk=>if k=n then b else g.β k,λk=>if k=n then o else g.o k,I⟩
theorem qo{h:List O}{x:O}{n:Nat}(hn:n<h.length):aV (h++[x]) n=aV h n:=by
 simp[aV,List.getD,th hn]
theorem Dw{h:List O}{x:O}:aV (h++[x]) h.length=x:=by simp[aV,List.getD]
theorem vn{h:List O}{x:O}{n:Nat}(hn:h.length<n):aV (h++[x]) n = .dead:=by
 have:(h++[x]).length<=n:=by simp;omega
 simp[aV,List.getD,oc this]
theorem Am{h:List O}{g:Gh}{w w':World}{I':Nat->Nat}{b o:Nat}(x:O)(hr:fj φ h g w)(hg:gO w w')(hI:∀b,b<w.heap.size->I' b=g.I b):
  gT h g w (h++[x]) (g.add h.length b o I') w' where
 ext:=Du hg hI hr.new
 len:=by simp
 arr n es hn he:=by
  rw[qo hn]at he⊢;have hne:n≠h.length:=by omega
  exact⟨he,by simp[Gh.add,hne],by simp[Gh.add,hne],rfl,nP.of_eq (hg.same _ (hr.block (BD he)))⟩
 mp n kv hn hk:=by
  rw[qo hn]at hk;have hne:n≠h.length:=by omega
  exact⟨⟨kv,hk⟩,by simp[Gh.add,hne]⟩
 lp n hn hk:=by
  rw[qo hn]at hk;have hne:n≠h.length:=by omega
  exact⟨hk,by simp[Gh.add,hne]⟩
theorem Z6{h:List O}{g:Gh}{w w':World}{I':Nat->Nat}{b o:Nat}{x:O}(hr:fj φ h g w)(hg:gO w w')(hI:∀b,b<w.heap.size->I' b=g.I b)
  (hnew:∀b,w'.heap.size<=b->I' b=0)(hb:w.heap.size<=b)(hx:gC φ (h++[x]) (g.add h.length b o I') w' b o x):fj φ (h++[x]) (g.add h.length b o I') w' where
 obj n:=by
  rcases tr n h.length with hn |hn |hn
  .have hne:n≠h.length:=by omega
   rw[qo hn];by_cases hl:(aV h n).live=true
   .have hb':=hr.block hl
    have:=Dt (Am (b:=b) (o:=o) x hr hg hI) (hg.same _ hb') (hI _ hb') (hr.obj n);simpa[Gh.add,hne]using this
   .cases hq:aV h n<;>simp_all[O.live,gC]
  .subst hn
   rw[Dw];simpa[Gh.add]using hx
  .rw[vn hn]
   trivial
 inj n k hn hk he:=by
  have key:∀n,(aV (h++[x]) n).live=true->n<=h.length:=λn hn=>by
   rcases lG h.length n with h1 |h1
   .rw[vn h1]at hn;simp[O.live]at hn
   .exact h1
  have kn:=key n hn;have kk:=key k hk;by_cases h1:n=h.length<;>by_cases h2:k=h.length
  .omega
  .have hlt:k<h.length:=by omega
   rw[qo hlt]at hk;have:=hr.block hk;simp[Gh.add,h1,h2]at he;omega
  .have hlt:n<h.length:=by omega
   rw[qo hlt]at hn;have:=hr.block hn;simp[Gh.add,h1,h2]at he;omega
  .have hlt:n<h.length:=by omega
   have hlt':k<h.length:=by omega
   rw[qo hlt]at hn;rw[qo hlt']at hk;simp[Gh.add,h1,h2]at he;exact hr.inj n k hn hk he
 new:=hnew
theorem Ug{m:Nat}{h:List O}{g:Gh}{w w':World}{I':Nat->Nat}{b o:Nat}(x:O)(hr:fj φ h g w)(hg:gO w w')(hI:∀b,b<w.heap.size->I' b=g.I b)
  (hb:w.heap.size<=b)(hm:m<=h.length):Frame m h g w (h++[x]) (g.add h.length b o I') w' where
 ext:=Du hg hI hr.new
 size:=hg.size
 os:=hg.os
 tape:=hg.tape
 output:=hg.output
 pE n hn:=by
  have hne:n≠h.length:=by omega
  simp[Gh.add,hne]
 keep b hb _:=⟨hg.same b hb,hI b hb⟩
 mL n hn:=by
  rcases tr n h.length with h1 |h1 |h1
  .have hne:n≠h.length:=by omega
   rw[qo h1]at hn;exact .inl ⟨n,hn,by simp[Gh.add,hne]⟩
  .exact .inr (by simp[Gh.add,h1];exact hb)
  .rw[vn h1]at hn;simp[O.live]at hn
 pF n hn:=(Am x hr hg hI (b:=b) (o:=o)).at (pU hn hm)
structure jY(w w':World)(b:Nat):Prop where
 size:w'.heap.size=w.heap.size
 same:∀k,k≠b->w'.heap[k]?=w.heap[k]?
 os:w'.os=w.os
 tape:w'.tape=w.tape
 output:w'.output=w.output
theorem wI{h:List O}{x:O}{n:Nat}(hn:n<h.length):aV (h.set n x) n=x:=by simp[aV,List.getD,hn]
theorem qp{h:List O}{x:O}{n k:Nat}(hk:k≠n):aV (h.set n x) k=aV h k:=by
 simp[aV,List.getD,Ne.symm hk]
theorem wJ{h:List O}{g:Gh}{w w':World}{I':Nat->Nat}{n:Nat}{x:O}(hr:fj φ h g w)(hl:(aV h n).live=true)(ht:jY w w' (g.β n))
  (hE:Ext g.I w I' w')
  (hx:∀es,x.gN=some es->(aV h n).gN=some es/\x.len=(aV h n).len/\nP w.heap[g.β n]? w'.heap[g.β n]?)
  (hmp:∀kv,x = .mp kv->∃kv',aV h n = .mp kv')(An:x.tY=true->(aV h n).tY=true:=by intro hh;simp[O.tY]at hh):gT h g w (h.set n x) (g.ez I') w' where
 ext:=hE
 len:=by simp
 arr k es hk he:=by
  by_cases hkn:k=n
  .subst hkn
   rw[wI hk]at he⊢;exact⟨(hx es he).1,rfl,rfl,(hx es he).2.1,(hx es he).2.2⟩
  .rw[qp hkn]at he⊢
   have hb:g.β k≠g.β n:=λe=>hkn (hr.inj k n (BD he) hl e)
   exact⟨he,rfl,rfl,rfl,nP.of_eq (ht.same _ hb)⟩
 mp k kv hk hq:=by
  by_cases hkn:k=n
  .subst hkn
   rw[wI hk]at hq;exact⟨hmp kv hq,rfl⟩
  .rw[qp hkn]at hq
   exact⟨⟨kv,hq⟩,rfl⟩
 lp k hk hq:=by
  by_cases hkn:k=n
  .subst hkn
   rw[wI hk]at hq;exact⟨An hq,rfl⟩
  .rw[qp hkn]at hq
   exact⟨hq,rfl⟩
theorem wK{h:List O}{g:Gh}{w w':World}{I':Nat->Nat}{n:Nat}{x:O}(hr:fj φ h g w)(hl:(aV h n).live=true)(ht:jY w w' (g.β n))
  (hle:gT h g w (h.set n x) (g.ez I') w')(hI:∀b,b≠g.β n->I' b=g.I b)
  (hx:gC φ (h.set n x) (g.ez I') w' (g.β n) (g.o n) x):fj φ (h.set n x) (g.ez I') w' where
 obj k:=by
  by_cases hkn:k=n
  .subst hkn
   rw[wI (BC hl)];exact hx
  .rw[qp hkn]
   by_cases hk:(aV h k).live=true
   .have hb:g.β k≠g.β n:=λe=>hkn (hr.inj k n hk hl e)
    exact Dt hle (ht.same _ hb) (hI _ hb) (hr.obj k)
   .cases hq:aV h k<;>simp_all[O.live,gC]
 inj a b ha hb he:=by
  have key:∀k,(aV (h.set n x) k).live=true->(aV h k).live=true:=λk hk=>by
   by_cases hkn:k=n
   .subst hkn;exact hl
   .rwa [qp hkn]at hk
  exact hr.inj a b (key a ha) (key b hb) he
 new b hb:=by
  have h1:w.heap.size<=b:=by rw[<-ht.size];exact hb
  have h2:=hr.block hl;show I' b=0
  rw[hI b (by omega)]
  exact hr.new b h1
theorem wL{m:Nat}{h:List O}{g:Gh}{w w':World}{I':Nat->Nat}{n:Nat}(x:O)(hl:(aV h n).live=true)(ht:jY w w' (g.β n))
  (hE:Ext g.I w I' w')(hI:∀b,b≠g.β n->I' b=g.I b)(hle:gT h g w (h.set n x) (g.ez I') w'):Frame m h g w (h.set n x) (g.ez I') w' where
 ext:=hE
 size:=by rw[ht.size];exact gh _
 os:=ht.os
 tape:=ht.tape
 output:=ht.output
 pE _ _:=⟨rfl,rfl⟩
 keep b _ hn:=⟨ht.same b (λe=>hn n hl e.symm),hI b (λe=>hn n hl e.symm)⟩
 mL k hk:=by
  by_cases hkn:k=n
  .subst hkn;exact .inl ⟨k,hl,rfl⟩
  .rw[qp hkn]at hk;exact .inl ⟨k,hk,rfl⟩
 pF k _:=by
  rcases lG k h.length with h1 |h1
  .exact hle.at h1
  .have h2:aV (h.set n x) k = .dead:=by
    have:(h.set n x).length<=k:=by simpa using h1
    simp[aV,List.getD,oc this]
   exact⟨λes he=>by rw[h2]at he;simp[O.gN]at he,λkv hk=>by rw[h2]at hk;simp at hk,λhk=>by rw[h2]at hk;simp[O.tY]at hk⟩
end
end Go.VS
namespace Go.VS
section
variable (P:Program)(φ:Nat->Nat)(nt:Nat)
def N5(v:Value)(x:D):Bool :=
 match v,x with
 | .bool a,.b b=>a==b
 | .int k n,.i k' n'=>k==k'&&n==n'
 | .string s,.s x=>s.toList==x
 | .pointer none,.nil=>true
 | .slice none 0 0,.sl _ true []=>true
 | .map none,.uE=>true
 | .nilFunc,.cN=>true
 | .nilIface,.AV=>true
 | .func (.func f) a b,.fn g [] []=>φ g==f&&a.isEmpty&&b.isEmpty
 |_,_=>false
def Dx:List Value->List D->Bool
 | [],[]=>true
 |v::vs,x::xs=>N5 φ v x&&Dx vs xs
 |_,_=>false
def N6(v:Value)(x:D):Bool :=
 match v,x with
 | .agg A,.ag ds=>Dx φ A.toList ds
 |v,x=>N5 φ v x
def ahh(v:Value)(z:List D):Bool:=Dx φ v.cells.toList z
def dW(o:Operand)(a:A):Bool :=
 match o,a with
 | .tmp t,.t n=>t==n
 | .const v,.k x=>N6 φ v x
 | .func f,.k (.fn g [] [])=>φ g==f
 |_,_=>false
def oC:List Operand->List A->Bool
 | [],[]=>true
 |o::os,a::as=>dW φ o a&&oC os as
 |_,_=>false
def N7:Option Operand->Option A->Bool
 |none,none=>true
 |some o,some a=>dW φ o a
 |_,_=>false
def jD(t:TypeId)(n:Nat):Bool:=(P.info? t).map (·.size)==some n
def wM(t:TypeId)(ag:Bool):Bool :=
 match P.underlying t with
 |some (.struct _) |some (.array ..)=>ag
 |some _=>!ag
 |none=>false
def BE(t:TypeId)(z:List D):Bool :=
 match P.info? t with
 |some i=>match i.zero with
  |some v=>ahh φ v z&&i.size==z.length
  |none=>false
 |none=>false
def gr(o:Oper)(d:Nat):Bool:=o.dst==some d&&decide (d<nt)
def qt(o:Oper)(d:Option Nat):Bool:=o.dst==d&&d.all (λd=>decide (d<nt))
def Dy(fs:Array Field):List (Nat×Operand)->List (Nat×Nat×A)->Bool
 | [],[]=>true
 |(i,x)::r,(o,n,a)::r'=>(match fs[i]? with |some f=>f.offset==o&&jD P f.type n |none=>false)&&dW φ x a&&Dy fs r r'
 |_,_=>false
def FJ:List (Nat×Operand)->List (Nat×A)->Bool
 | [],[]=>true
 |(i,x)::r,(j,a)::r'=>i==j&&dW φ x a&&FJ r r'
 |_,_=>false
def wN(t:TypeId)(k:CK):Bool :=
 match P.underlying t,k with
 |some .bool,.b |some (.int _),.i |some .string,.s=>true
 |_,_=>false
def yz:Nat->List Field->List CK->Bool
 |_,[],[]=>true
 |off, f :: r, k :: ks => f.name != "_" && f.offset == off && wN P f.type k && yz (off + 1) r ks
 |_,_,_=>false
def Dz(t:TypeId)(ks:List CK):Bool :=
 match P.underlying t with
 |some (.struct fs)=>!P.stoodInHeld t&&!P.eqGuardType P.depth t&&yz P 0 fs.toList ks
 |_=>false
def wO(kt:TypeId)(ks:List CK):Bool :=
 match ks with
 | [k]=>wN P kt k
 |_=>Dz P kt ks
def Uh(t:TypeId)(v:Value)(k:NK):Bool :=
 match P.underlying t,v,k with
 |some (.slice _),.slice none 0 0,.sl |some (.map ..),.map none,.mp |some (.func ..),.nilFunc,.fn |some (.pointer _),.pointer none,.pt |some (.interface _),.nilIface,.kf=>true
 |_,_,_=>false
def Ui(fn:Func):Bool :=
 fn.origin == "slices.overlaps" && (Extern.allGenericRows.lookup fn.name).isNone && (Extern.allTypedRows.lookup fn.name).isNone && (Extern.allRows.lookup fn.name).isNone && (Extern.allNextRows.lookup fn.name).isNone
def Uj (k n : Nat) (e : TypeId) : Array Field := ((List.range k).map fun i => ({ name := "", type := e, offset := i * n, embedded := false, tag := "", pkgPath := "", byteOffset := 0 } : Field)).toArray
def Uk(t:TypeId)(ks:List CK):Bool :=
 match P.underlying t with
 |some (.array n e)=>!P.eqGuardType P.depth t&&(match ks with |k::_=>decide (ks=List.replicate n k)&&wN P e k&&jD P e 1 | []=>false)
 |_=>false
def Jb(n:Nat):List FieldStep->TypeId->Bool
 | [],t=>match P.underlying t with |some (.pointer _)=>false |some _=>true |none=>false
 |s::r,_=>match P.underlying s.struct with
  |some (.struct fs)=>(match fs[s.index]? with |some f=>!s.deref&&f.offset==0&&wM P f.type true&&jD P f.type n&&Jb n r f.type |none=>false)
  |_=>false
def Ul(nm:String)(t n f:Nat):Bool :=
 match P.info? t with
 |some i=>(match i.methods.find? (·.name==nm)with
  |some m=>(match m.func with |some (g,false)=>φ f==g&&Jb P n m.path.toList t |_=>false)
  |none=>false)
 |none=>false
def cO(o:Oper)(i:I):Bool :=
 match i with
 | .mv d x=>gr nt o d&&(match o.op with | .move y | .assign y=>dW φ y x |_=>false)
 | .pick d c a b=>gr nt o d&&(match o.op with | .pick c' a' b'=>dW φ c' c&&dW φ a' a&&dW φ b' b |_=>false)
 | .box d x _ _=>gr nt o d&&(match o.op with | .box _ y=>dW φ y x |_=>false)
 | .new d z=>gr nt o d&&(match o.op with | .alloc t=>BE P φ t z |_=>false)
 | .build d z ps=>gr nt o d&&(match o.op with
  | .build t qs=>BE P φ t z&&(match P.underlying t with |some (.struct fs)=>Dy P φ fs qs.toList ps&&fs.all (λf=>(P.info? f.type).isSome) |some (.array k e)=>(match P.info? e with |some i=>Dy P φ (Uj k i.size e) qs.toList ps |none=>false) |_=>false)
  |_=>false)
 | .mZ d es n z ps _=>gr nt o d&&(match o.op with
  | .buildSlice t k qs=>k==n&&decide (n*es<=16777216)&&decide (0<es)&&(match P.underlying t with |some (.slice e)=>BE P φ e z&&z.length==es&&FJ φ qs.toList ps |_=>false)
  |_=>false)
 | .ld d x n ag | .sI d x n ag=>gr nt o d&&(match o.op with | .load t y=>dW φ y x&&wM P t ag&&jD P t n |_=>false)
 | .st x y n fz=>(match o.op with | .store t x' y'=>o.dst==none&&dW φ x' x&&dW φ y' y&&jD P t n&&decide (0<n)&&(match x,fz with | .t d,true=>decide (d<nt) |_,b=>!b) |_=>false)
 | .fa d x off n | .p5 d x off n=>gr nt o d&&(match o.op with
  | .fieldAddr t y k=>dW φ y x&&decide (0<n)&&(match P.underlying t with |some (.struct fs)=>(match fs[k]? with |some f=>f.offset==off&&jD P f.type n |none=>false) |_=>false)
  |_=>false)
 | .jm d x j es=>gr nt o d&&(match o.op with
  | .indexAddr t y k=>dW φ y x&&dW φ k j&&(match P.underlying t with |some (.slice e)=>jD P e es&&decide (0<es) |_=>false)
  |_=>false)
 | .oP d x j len es=>gr nt o d&&(match o.op with
  | .indexAddr t y k=>dW φ y x&&dW φ k j&&(match P.underlying t with |some (.array n e)=>n==len&&decide (1<len)&&jD P e es&&decide (0<es) |_=>false)
  |_=>false)
 | .vS d es z n k=>gr nt o d&&(match o.op with
  | .makeSlice t n' k'=>dW φ n' n&&dW φ k' k&&decide (0<es)&&(match P.underlying t with
   |some (.slice e)=>BE P φ e z&&(match P.info? e with |some i=>i.size==es&&decide (i.bytes<=16777216) |none=>false)
   |_=>false)
  |_=>false)
 | .sG d x off n ag=>gr nt o d&&(match o.op with
  | .field t y k=>dW φ y x&&(match P.underlying t with |some (.struct fs)=>(match fs[k]? with |some f=>f.offset==off&&jD P f.type n&&wM P f.type ag |none=>false) |_=>false)
  |_=>false)
 | .tD d x=>gr nt o d&&(match o.op with | .nilCheck y=>dW φ y x |_=>false)
 | .rN d x lo hi mx es=>gr nt o d&&(match o.op with
  | .slice t y (some lo') (some hi') (some Z7)=>dW φ y x&&dW φ lo' lo&&dW φ hi' hi&&dW φ Z7 mx&&(match P.underlying t with |some (.slice e)=>jD P e es |_=>false)
  |_=>false)
 | .mx d x y=>gr nt o d&&(match o.op with
  | .call c=>(match c.callee,c.args.toList with
   | .builtin .max,[x',y']=>dW φ x' x&&dW φ y' y
   |_,_=>false)
  |_=>false)
 | .nI d t x=>gr nt o d&&(match o.op with
  | .makeInterface t' y=>t'==t&&dW φ y x&&(match P.underlying t with |some (.interface _)=>false |some _=>true |none=>false)
  |_=>false)
 | .inv d nm kg x xs=>qt nt o d&&(match o.op with
  | .call c=>(match c.callee with
   | .invoke y nm'=>nm'==nm&&dW φ y x&&oC φ c.args.toList xs&&kg.all (λe=>Ul P φ nm e.1 e.2.1 e.2.2)
   |_=>false)
  |_=>false)
 | .bad d=>qt nt o d
 | .cap d x=>gr nt o d&&(match o.op with
  | .call c=>(match c.callee,c.args.toList,c.argTypes.toList with
   | .builtin .cap,[y],[t]=>dW φ y x&&(match P.underlying t with |some (.slice _)=>true |_=>false)
   |_,_,_=>false)
  |_=>false)
 | .sH d x k es z=>gr nt o d&&(match o.op with
  | .call c=>(match c.callee,c.args.toList,c.argTypes.toList with
   | .builtin .append,[x',k'],[t,t']=>dW φ x' x&&dW φ k' k&&decide (0<es)&&(match P.underlying t,P.underlying t' with
    |some (.slice e),some (.int _)=>BE P φ e z&&(match P.info? e with |some i=>i.size==es&&decide (i.bytes<=16384) |none=>false)
    |_,_=>false)
   |_,_,_=>false)
  |_=>false)
 | .rO d f x y es=>gr nt o d&&(match o.op with
  | .call c=>(match c.callee with
   | .value (.func g)=>φ f==g&&oC φ c.args.toList [x,y]&&(match P.funcs[g]? with
    |some fn => !(fn.name == "runtime.NumGoroutine") && fn.body.isNone && Ui fn && (match fn.params.toList with
     | [t,_]=>(match P.underlying t with |some (.slice e)=>decide (0<es)&&jD P e es |_=>false)
     |_=>false)
    |none=>false)
   |_=>false)
  |_=>false)
 | .qI d x es z=>qt nt o d&&(match o.op with
  | .call c=>(match c.callee,c.args.toList,c.argTypes.toList with
   | .builtin .clear,[y],[t]=>dW φ y x&&(match P.underlying t with |some (.slice e)=>BE P φ e z&&z.length==es&&decide (0<es) |_=>false)
   |_,_,_=>false)
  |_=>false)
 | .copy d x y es=>qt nt o d&&(match o.op with
  | .call c=>(match c.callee,c.args.toList,c.argTypes.toList with
   | .builtin .copy,[x',y'],[t,t']=>dW φ x' x&&dW φ y' y&&decide (0<es)&&(match P.underlying t,P.underlying t' with
    |some (.slice e),some (.slice _)=>jD P e es
    |_,_=>false)
   |_,_,_=>false)
  |_=>false)
 | .bin d op x y=>gr nt o d&&(match o.op with
  | .binOp op' t x' y' _=>op'==op&&dW φ x' x&&dW φ y' y&&(match P.underlying t with |some (.int _) |some .string=>true |_=>false)
  |_=>false)
 | .eqv d neg x y ks=>gr nt o d&&(match o.op with
  | .binOp op' t x' y' _=>op'==(if neg then .neq else .eql)&&dW φ x' x&&dW φ y' y&&(Dz P t ks||Uk P t ks)
  |_=>false)
 | .qH d neg x k=>gr nt o d&&(match o.op with
  | .binOp op' t x' (.const v) _=>op'==(if neg then .neq else .eql)&&dW φ x' x&&Uh P t v k
  |_=>false)
 | .un d op x=>gr nt o d&&(match o.op with | .unOp op' _ y=>op'==op&&dW φ y x |_=>false)
 | .kP d k x=>gr nt o d&&(match o.op with
  | .convert s t y=>dW φ y x&&(match P.underlying s,P.underlying t with |some (.int _),some (.int k')=>k'==k |_,_=>false)
  |_=>false)
 | .len d x k=>gr nt o d&&(match o.op with
  | .call c=>(match c.callee,c.args.toList,c.argTypes.toList with
   | .builtin .len,[y],[t]=>dW φ y x&&(match P.underlying t,k with |some (.slice _),.sl |some .string,.s |some (.map ..),.mp=>true |_,_=>false)
   |_,_,_=>false)
  |_=>false)
 | .sl d x lo hi es | .sle d x lo hi es=>gr nt o d&&(match o.op with
  | .slice t y lo' hi' none=>dW φ y x&&N7 φ lo' lo&&N7 φ hi' hi&&(match P.underlying t with |some (.slice e)=>jD P e es |_=>false)
  |_=>false)
 | .app d x y es | .sJ d x y es=>gr nt o d&&(match o.op with
  | .call c=>(match c.callee,c.args.toList,c.argTypes.toList with
   | .builtin .append,[x',y'],[t,t']=>dW φ x' x&&dW φ y' y&&decide (0<es)&&(match P.underlying t,P.underlying t' with
    |some (.slice e),some (.slice _)=>(match P.info? e with |some i=>i.size==es&&decide (i.bytes<=16384)&&(match i.zero with |some z=>z.cells.size==i.size&&z.cells.toList.all (·.oneCell') |none=>false) |none=>false)
    |_,_=>false)
   |_,_,_=>false)
  |_=>false)
 | .mF d=>gr nt o d&&(match o.op with | .makeMap _ none=>true |_=>false)
 | .fI m k v ks=>o.dst==none&&(match o.op with
  | .insert t m' k' v' | .mapUpdate t m' k' v'=>dW φ m' m&&dW φ k' k&&dW φ v' v&&(match P.underlying t with |some (.map kt _)=>wO P kt ks |_=>false)
  |_=>false)
 | .pY d m k z ok ks=>gr nt o d&&(match o.op with
  | .lookup t m' k' ok'=>dW φ m' m&&dW φ k' k&&ok'==ok&&(match P.underlying t with
   |some (.map kt et)=>wO P kt ks&&(match P.info? et with |some i=>(match i.zero with |some v=>N6 φ v z |none=>false) |none=>false)
   |_=>false)
  |_=>false)
 | .ext d x j=>gr nt o d&&(match o.op with | .extract y k=>k==j&&dW φ y x |_=>false)
 | .gJ d f a b=>gr nt o d&&(match o.op with | .makeFunc (.func g) a' b'=>φ f==g&&oC φ a'.toList a&&oC φ b'.toList b |_=>false)
 | .call d f xs | .calls d f xs=>qt nt o d&&(match o.op with
  | .call c=>(match c.callee with | .value (.func g)=>φ f==g&&oC φ c.args.toList xs |_=>false)
  |_=>false)
 | .nH d f xs=>gr nt o d&&(match o.op with
  | .call c=>(match c.callee with | .value (.func g)=>φ f==g&&oC φ c.args.toList xs |_=>false)
  |_=>false)
 | .nF d f xs | .jo d f xs=>qt nt o d&&(match o.op with
  | .call c=>(match c.callee with | .value (.func g)=>φ f==g&&oC φ c.args.toList xs |_=>false)
  |_=>false)
 | .pZ d x xs=>qt nt o d&&(match o.op with
  | .call c=>(match c.callee with | .value y=>dW φ y x&&oC φ c.args.toList xs |_=>false)
  |_=>false)
 | .p6 d x xs=>qt nt o d&&(match o.op with
  | .call c=>(match c.callee with | .value y=>dW φ y x&&oC φ c.args.toList xs |_=>false)
  |_=>false)
 | .nG d x xs=>qt nt o d&&(match o.op with
  | .call c=>(match c.callee with | .value y=>dW φ y x&&oC φ c.args.toList xs |_=>false)
  |_=>false)
end
end Go.VS
namespace Go.VS
section
variable {P:Program}{φ:fD}
structure mM(dB:Nat)(h:List O)(g:Gh)(ds:List Deferred)(w:World):Prop where
 at_:∀d∈ds,∃D,d={target:=.collected D,args:=#[]}/\dB<=D/\w.heap[D]?=some (.deferred (some []))/\∀n,(aV h n).live=true->g.β n≠D
 nodup:ds.Nodup
 le:dB<=w.heap.size
theorem BF{w:World}{D:Nat}{o:Obj}(h:w.heap[D]?=some o):D<w.heap.size:=by
 rcases lG D w.heap.size with hlt |hge
 .exact hlt
 .simp[KB hge]at h
theorem mM.nil{dB:Nat}{h:List O}{g:Gh}{w:World}(hl:dB<=w.heap.size):mM dB h g [] w:=⟨by simp,by simp,hl⟩
theorem mM.frame{dB m:Nat}{h h':List O}{g g':Gh}{ds:List Deferred}{w w':World}(hd:mM dB h g ds w)(hf:Frame m h g w h' g' w'):mM dB h' g' ds w' where
 at_ d hm:=by
  obtain⟨D,h1,h2,h3,h4⟩:=hd.at_ d hm;have hlt:=BF h3;refine⟨D,h1,h2,by rw[(hf.keep D hlt h4).1];exact h3,λn hn he=>?_⟩
  rcases hf.mL n hn with⟨k,hk,hb⟩ |hs
  .exact h4 k hk (hb.trans he)
  .omega
 nodup:=hd.nodup
 le:=mE hd.le hf.size
theorem mM.yA{dB:Nat}{h:List O}{g:Gh}{ds:List Deferred}{w w':World}{n:Nat}{x:O}{I':Nat->Nat}(hd:mM dB h g ds w)(hl:(aV h n).live=true)(ht:jY w w' (g.β n)):
  mM dB (h.set n x) (g.ez I') ds w' where
 at_ d hm:=by
  obtain⟨D,h1,h2,h3,h4⟩:=hd.at_ d hm;refine⟨D,h1,h2,by rw[ht.same D (λe=>h4 n hl e.symm)];exact h3,λk hk=>?_⟩
  by_cases hkn:k=n
  .subst hkn;exact h4 k hl
  .rw[qp hkn]at hk;exact h4 k hk
 nodup:=hd.nodup
 le:=by rw[ht.size];exact hd.le
theorem mM.reuse{dB:Nat}{h:List O}{g:Gh}{ds:List Deferred}{w w':World}{n o:Nat}{x:O}{I':Nat->Nat}(hd:mM dB h g ds w)(hl:(aV h n).live=true)(h1:mM dB (h.set n .dead) (g.ez I') ds w'):
  mM dB (h.set n .dead++[x]) ((g.ez I').add (h.set n .dead).length (g.β n) o I') ds w' where
 at_ d hm:=by
  obtain⟨D,e1,e2,e3,e4⟩:=h1.at_ d hm;obtain⟨D',k1,_,_,k4⟩:=hd.at_ d hm;have hD:D=D':=by rw[e1]at k1;simpa using k1
  subst hD;refine⟨D,e1,e2,e3,λk hk=>?_⟩
  simp only[Gh.add];split
  .exact k4 n hl
  .rename_i hne
   have hlt:k<(h.set n .dead).length:=by
    rcases lG (h.set n .dead).length k with h5 |h5
    .rw[vn h5]at hk;simp[O.live]at hk
    .omega
   rw[qo hlt]at hk;exact e4 k hk
 nodup:=hd.nodup
 le:=h1.le
structure cj(φ:fD)(nt m dB:Nat)(s:St)(g:Gh)(a:Act)(w:World):Prop where
 env:∀k,aK φ s.heap g w (cC s.env k) (a.tmps.getD k undef)
 heap:fj φ s.heap g w
 size:nt<=a.tmps.size
 defers:mM dB s.heap g a.defers w
 len:m<=s.heap.length
def eU(φ:fD)(nt m dB:Nat)(s:St)(g:Gh)(w:World)(s':St)(o:Oper)(a:Act)(K:Act->World->Prop):Prop :=
 ∀g' v' w',cj φ nt m dB s' g' (a.put o.dst v') w'->Frame m s.heap g w s'.heap g' w'->K (a.put o.dst v') w'
variable {nt m dB:Nat}{s:St}{g:Gh}{a:Act}{w:World}{K:Act->World->Prop}{Q:Exit->Act->World->Prop}{o:Oper}
theorem FK{v':Value}{w':World}(hrun:(execOp a.eval o).run P w = .ok (.value v') w')(hk:K (a.put o.dst v') w'):o.wp P a w K Q:=by
 unfold Oper.wp;rw[hrun];exact hk
theorem Z8{w':World}(hrun:(execOp a.eval o).run P w = .ok .skip w')(hk:K (a.put o.dst undef) w'):o.wp P a w K Q:=by
 unfold Oper.wp;rw[hrun];exact hk
theorem Z9{I:Nat->Nat}{v:Value}{x:D}(h:N5 φ v x=true):bT φ I w x v/\v.oneCell'=true:=by
 unfold N5 at h;split at h
 case h_1=>simp at h;subst h;exact⟨by simp[bT],rfl⟩
 case h_2=>simp at h;obtain⟨rfl,rfl⟩:=h;exact⟨by simp[bT],rfl⟩
 case h_3=>simp at h;exact⟨by simp only[bT];exact⟨_,rfl,h⟩,rfl⟩
 case h_4=>exact⟨by simp[bT],rfl⟩
 case h_5=>exact⟨by simp[bT],rfl⟩
 case h_6=>exact⟨by simp[bT],rfl⟩
 case h_7=>exact⟨by simp[bT],rfl⟩
 case h_8=>exact⟨by simp[bT],rfl⟩
 case h_9 =>
  rename_i f A B gg;simp at h;obtain⟨⟨h1,h2⟩,h3⟩:=h;subst h2;subst h3;exact⟨by simp only[bT];exact⟨#[],#[],by rw[h1],by simp[cx],by simp[cx]⟩,rfl⟩
 case h_10=>simp at h
theorem Um{I:Nat->Nat}:∀{vs:List Value}{xs:List D},Dx φ vs xs=true->cx φ I w xs vs/\∀v∈vs,v.oneCell'=true
 | [],[],_=>by simp[cx]
 |v::vs,x::xs,h=>by
  simp only[Dx,bD]at h;have h1:=Z9 (w:=w) (I:=I) h.1;have h2:=Um (I:=I) h.2;exact⟨by simp only[cx];exact⟨h1.1,h2.1⟩,by simpa using⟨h1.2,h2.2⟩⟩
 | [],_::_,h=>by simp[Dx]at h
 |_::_,[],h=>by simp[Dx]at h
theorem ahi{I:Nat->Nat}{v:Value}{x:D}(h:N6 φ v x=true):bT φ I w x v:=by
 unfold N6 at h;split at h
 .have:=Um (w:=w) (I:=I) h
  simp only[bT];exact⟨_,rfl,this.1,this.2⟩
 .exact(Z9 h).1
theorem fm(hs:cj φ nt m dB s g a w){x:Operand}{y:A}(h:dW φ x y=true):aK φ s.heap g w (s.get y) (a.eval x):=by
 unfold dW at h;split at h
 .simp at h;subst h;exact hs.env _
 .simp only[St.get,aK];exact ahi h
 .simp at h
  simp only[St.get,aK,bT,Act.eval];exact⟨#[],#[],by rw[h],by simp[cx],by simp[cx]⟩
 .simp at h
theorem wP(hs:cj φ nt m dB s g a w):∀{xs:List Operand}{ys:List A},oC φ xs ys=true->bU φ s.heap g w (ys.map s.get) (xs.map a.eval)
 | [],[],_=>by simp[bU]
 |x::xs,y::ys,h=>by
  simp only[oC,bD]at h;simp only[gm,bU];exact⟨fm hs h.1,wP hs h.2⟩
 | [],_::_,h=>by simp[oC]at h
 |_::_,[],h=>by simp[oC]at h
theorem cj.wQ(hs:cj φ nt m dB s g a w){d:Nat}(hd:d<nt){v:V}{v':Value}(hv:aK φ s.heap g w v v'){ok:Bool}:
  cj φ nt m dB ⟨(d,v)::s.env,s.heap,ok⟩ g (a.put (some d) v') w where
 env k:=by
  simp only[cC,Act.put];by_cases hk:d=k
  .subst hk
   simp[pU hd hs.size,hv]
  .rw[aG hk]
   have:=hs.env k;simpa[Hi hk]using this
 heap:=hs.heap
 size:=by simp only[Act.put,Array.size_setIfInBounds];exact hs.size
 defers:=hs.defers
 len:=hs.len
theorem cj.N8(hs:cj φ nt m dB s g a w){w':World}{I':Nat->Nat}(hg:gO w w')(hI:∀b,b<w.heap.size->I' b=g.I b)
  (hnew:∀b,w'.heap.size<=b->I' b=0):cj φ nt m dB s (g.ez I') a w' where
 env k:=lU (Uf hs.heap hg hI) (hs.env k)
 heap:=ahg hs.heap hg hI hnew
 size:=hs.size
 defers:=hs.defers.frame (Dv m hs.heap hg hI)
 len:=hs.len
theorem BG{d:Nat}(h:gr nt o d=true):o.dst=some d/\d<nt:=by
 simpa[gr]using h
theorem N9{d:Nat}{ov:Option V}(h:(s.fu d ov).ok=true):∃v,ov=some v:=by
 cases ov
 .simp[St.fu,St.fail]at h
 .exact⟨_,rfl⟩
theorem vo(hs:cj φ nt m dB s g a w){d:Nat}(hd:gr nt o d=true){v:V}{v':Value}{ok:Bool}
  (hrun:(execOp a.eval o).run P w = .ok (.value v') w)(hv:aK φ s.heap g w v v')
  (hK:eU φ nt m dB s g w ⟨(d,v)::s.env,s.heap,ok⟩ o a K):o.wp P a w K Q:=by
 obtain⟨h1,h2⟩:=BG hd;refine FK hrun (hK g v' w ?_ (Frame.refl _ _ _ _));rw[h1];exact hs.wQ h2 hv
theorem nk(hs:cj φ nt m dB s g a w){d:Nat}(hd:gr nt o d=true){ov:Option V}(hok:(s.fu d ov).ok=true)
  (hop:∀v,ov=some v->∃v',(execOp a.eval o).run P w = .ok (.value v') w/\aK φ s.heap g w v v')
  (hK:eU φ nt m dB s g w (s.fu d ov) o a K):o.wp P a w K Q:=by
 obtain⟨v,rfl⟩:=N9 hok;obtain⟨v',hrun,hv⟩:=hop v rfl;exact vo hs hd hrun hv hK
theorem ahj(hs:cj φ nt m dB s g a w){d:Nat}(hd:gr nt o d=true){v:V}{v':Value}{w':World}{I':Nat->Nat}{ok:Bool}
  (hrun:(execOp a.eval o).run P w = .ok (.value v') w')(hg:gO w w')(hI:∀b,b<w.heap.size->I' b=g.I b)(hnew:∀b,w'.heap.size<=b->I' b=0)
  (hv:aK φ s.heap (g.ez I') w' v v')(hK:eU φ nt m dB s g w ⟨(d,v)::s.env,s.heap,ok⟩ o a K):o.wp P a w K Q:=by
 obtain⟨h1,h2⟩:=BG hd;refine FK hrun (hK (g.ez I') v' w' ?_ (Dv m hs.heap hg hI));rw[h1];exact(hs.N8 hg hI hnew).wQ h2 hv
theorem wR{I:Nat->Nat}{v:Value}{x:Bool}(h:bT φ I w (.b x) v):v = .bool x:=by simpa[bT]using h
theorem nQ{I:Nat->Nat}{v:Value}{k:IntKind}{n:Int}(h:bT φ I w (.i k n) v):v = .int k n:=by simpa[bT]using h
theorem ahk(hs:cj φ nt m dB s g a w){rec:Rec}{d:Nat}{x:A}(hc:cO P φ nt o (.mv d x)=true)
  (hK:eU φ nt m dB s g w (aU rec (.mv d x) s) o a K):o.wp P a w K Q:=by
 simp only[cO,bD]at hc;obtain⟨hd,h⟩:=hc;split at h
 .rename_i y ho
  exact vo hs hd (v':=a.eval y) (by simp[execOp,ho]) (fm hs h) hK
 .rename_i y ho
  exact vo hs hd (v':=a.eval y) (by simp[execOp,ho]) (fm hs h) hK
 .simp at h
theorem ahl(hs:cj φ nt m dB s g a w){rec:Rec}{d:Nat}{c x y:A}(hc:cO P φ nt o (.pick d c x y)=true)(hok:(aU rec (.pick d c x y) s).ok=true)
  (hK:eU φ nt m dB s g w (aU rec (.pick d c x y) s) o a K):o.wp P a w K Q:=by
 simp only[cO,bD]at hc;obtain⟨hd,h⟩:=hc;split at h
 .rename_i c' x' y' ho
  simp only[bD]at h;have rc:=fm hs h.1.1;simp only[aU]at hok hK;split at hK
  .rename_i b hb
   rw[hb]at rc;have hb':=wR (by simpa only[aK]using rc)
   refine vo hs hd (v':=if b then a.eval x' else a.eval y') (by simp[execOp,ho,hb',asBool]) ?_ hK
   cases b
   .exact fm hs h.2
   .exact fm hs h.1.2
  .rename_i hne
   split at hok
   .rename_i b hb;exact absurd hb (hne b)
   .simp[St.fail]at hok
 .simp at h
theorem ahm{op:BinOp}{k:IntKind}{x y:Int}{v:V}{t:TypeId}(h:Cy op (.d (.i k x)) (.d (.i k y))=some v):
  ∃v',(binOp op t (.int k x) (.int k y)).run P w = .ok v' w/\∀(hh:List O)(g:Gh),aK φ hh g w v v':=by
 cases op<;>simp[Cy,arith]at h<;>try (subst h;refine⟨_,by simp[binOp,Op.intArith,Op.intCmp];rfl,λ_ _=>by simp[aK,bT]⟩)
 case quo=>obtain⟨h0,rfl⟩:=h;exact⟨_,by simp[binOp,Op.intDiv,h0];rfl,λ_ _=>by simp[aK,bT]⟩
 case rem=>obtain⟨h0,rfl⟩:=h;exact⟨_,by simp[binOp,Op.intDiv,h0];rfl,λ_ _=>by simp[aK,bT]⟩
 case shl=>obtain⟨h0,rfl⟩:=h;exact⟨_,by simp[binOp,Op.shift,KC.2 h0];rfl,λ_ _=>by simp[aK,bT]⟩
 case shr=>obtain⟨h0,rfl⟩:=h;exact⟨_,by simp[binOp,Op.shift,KC.2 h0];rfl,λ_ _=>by simp[aK,bT]⟩
end
end Go.VS
namespace Go.VS
section
variable {P:Program}{φ:fD}
variable {nt m dB:Nat}{s:St}{g:Gh}{a:Act}{w:World}{K:Act->World->Prop}{Q:Exit->Act->World->Prop}{o:Oper}
theorem ahn{op:BinOp}{t:TypeId}{x y:Operand}{u v:Value}(hu:u≠.nilIface)(hv:∀A,u≠.agg A):(eqGuard op t x y u v).run P w = .ok () w:=by
 cases u<;>first |exact absurd rfl hu |exact absurd rfl (hv _) |(cases op<;>rfl)
theorem aho(hs:cj φ nt m dB s g a w){rec:Rec}{d:Nat}{op:BinOp}{x y:A}(hc:cO P φ nt o (.bin d op x y)=true)(hok:(aU rec (.bin d op x y) s).ok=true)
  (hK:eU φ nt m dB s g w (aU rec (.bin d op x y) s) o a K):o.wp P a w K Q:=by
 simp only[cO,bD]at hc;obtain⟨hd,h⟩:=hc;split at h
 .rename_i op' t x' y' ty ho
  simp only[bD,dO]at h;obtain⟨⟨⟨rfl,hx⟩,hy⟩,ht⟩:=h;have rx:=fm hs hx;have ry:=fm hs hy;refine nk hs hd hok (λv hv=>?_) hK
  have key:∀{u u':Value}{v':Value},a.eval x'=u->a.eval y'=u'->u≠.nilIface->(∀A,u≠.agg A)->(binOp op' t u u').run P w = .ok v' w->(execOp a.eval o).run P w = .ok (.value v') w:=by
   intro u u' v' h1 h2 h3 h4 h5;simp[execOp,ho,h1,h2,ahn (P:=P) (w:=w) (op:=op') (t:=t) (x:=x') (y:=y') (v:=u') h3 h4,h5]
  unfold Cy at hv;split at hv
  ·
   rename_i k p k' q hp hq;rw[hp]at rx;rw[hq]at ry;have ex:=nQ (by simpa only[aK]using rx)
   have ey:=nQ (by simpa only[aK]using ry)
   by_cases hkk:k=k'
   .subst hkk
    obtain⟨v',hr,fY⟩:=ahm (P:=P) (w:=w) (φ:=φ) (op:=op') (k:=k) (x:=p) (y:=q) (v:=v) (t:=t) (by unfold Cy;exact hv)
    exact⟨v',key ex ey (by simp) (by simp) hr,fY _ _⟩
   .cases op'<;>simp[hkk]at hv
    case shl=>obtain⟨h0,rfl⟩:=hv;exact⟨_,key ex ey (by simp) (by simp) (by simp[binOp,Op.shift,KC.2 h0];rfl),by simp[aK,bT]⟩
    case shr=>obtain⟨h0,rfl⟩:=hv;exact⟨_,key ex ey (by simp) (by simp) (by simp[binOp,Op.shift,KC.2 h0];rfl),by simp[aK,bT]⟩
  ·
   rename_i p q hp hq;rw[hp]at rx;rw[hq]at ry;simp only[aK,bT]at rx ry;obtain⟨bx,ex,Un⟩:=rx;obtain⟨by',ey,hby⟩:=ry
   cases op'<;>simp at hv<;>subst hv
   .exact⟨_,key ex ey (by simp) (by simp) (by simp[binOp,Op.stringOp,Un,hby];rfl),by simp[aK,bT]⟩
   .exact⟨_,key ex ey (by simp) (by simp) (by simp[binOp,Op.stringOp,Un,hby];rfl),by simp[aK,bT]⟩
   .exact⟨_,key ex ey (by simp) (by simp) (by simp[binOp,Op.stringOp,Un,hby];rfl),by simp[aK,bT]⟩
  .simp at hv
 .simp at h
theorem ahp(hs:cj φ nt m dB s g a w){rec:Rec}{d:Nat}{op:UnOp}{x:A}(hc:cO P φ nt o (.un d op x)=true)(hok:(aU rec (.un d op x) s).ok=true)
  (hK:eU φ nt m dB s g w (aU rec (.un d op x) s) o a K):o.wp P a w K Q:=by
 simp only[cO,bD]at hc;obtain⟨hd,h⟩:=hc;split at h
 .rename_i op' t y ho
  simp only[bD,dO]at h;obtain⟨rfl,hx⟩:=h;have rx:=fm hs hx;refine nk hs hd hok (λv hv=>?_) hK
  unfold KT at hv;split at hv
  .rename_i b hb
   rw[hb]at rx;have ex:=wR (by simpa only[aK]using rx)
   cases op'<;>simp at hv;subst hv;exact⟨.bool (!b),by simp[execOp,ho,ex,Op.unary],by simp[aK,bT]⟩
  .rename_i k n hb
   rw[hb]at rx;have ex:=nQ (by simpa only[aK]using rx)
   cases op'<;>simp at hv;subst hv;exact⟨.int k (k.wrap (0 - n)),by simp[execOp,ho,ex,Op.unary,Op.intArith],by simp[aK,bT]⟩
  .simp at hv
 .simp at h
theorem ahq(hs:cj φ nt m dB s g a w){rec:Rec}{d:Nat}{k:IntKind}{x:A}(hc:cO P φ nt o (.kP d k x)=true)(hok:(aU rec (.kP d k x) s).ok=true)
  (hK:eU φ nt m dB s g w (aU rec (.kP d k x) s) o a K):o.wp P a w K Q:=by
 simp only[cO,bD]at hc;obtain⟨hd,h⟩:=hc;split at h
 .rename_i sc t y ho
  simp only[bD]at h;have rx:=fm hs h.1;refine nk hs hd hok (λv hv=>?_) hK
  unfold kP at hv;split at hv
  .rename_i k' n hb
   rw[hb]at rx;have ex:=nQ (by simpa only[aK]using rx)
   simp at hv;subst hv;have h2:=h.2;split at h2
   .rename_i ks kt hks mN
    simp at h2;subst h2;exact⟨.int kt (kt.wrap n),by simp[execOp,ho,ex,convert,underlying,hks,mN,Conv.intToInt],by simp[aK,bT]⟩
   .simp at h2
  .simp at hv
 .simp at h
theorem ahr(hs:cj φ nt m dB s g a w){rec:Rec}{d j:Nat}{x:A}(hc:cO P φ nt o (.ext d x j)=true)(hok:(aU rec (.ext d x j) s).ok=true)
  (hK:eU φ nt m dB s g w (aU rec (.ext d x j) s) o a K):o.wp P a w K Q:=by
 simp only[cO,bD]at hc;obtain⟨hd,h⟩:=hc;split at h
 .rename_i y k ho
  simp only[bD,dO]at h;obtain⟨rfl,hx⟩:=h;have rx:=fm hs hx;refine nk hs hd hok (λv hv=>?_) hK
  unfold K7 at hv;split at hv
  .rename_i vs hb
   rw[hb]at rx;simp only[aK]at rx;obtain⟨A,ex,hr⟩:=rx;obtain⟨v',h1,h2⟩:=Ds hr hv;exact⟨v',by simp only[execOp,ho,ex,Instr.extract];simp at h1;simp[h1],h2⟩
  .simp at hv
 .simp at h
theorem ahs(hs:cj φ nt m dB s g a w){rec:Rec}{d f:Nat}{x y:List A}(hc:cO P φ nt o (.gJ d f x y)=true)
  (hK:eU φ nt m dB s g w (aU rec (.gJ d f x y) s) o a K):o.wp P a w K Q:=by
 simp only[cO,bD]at hc;obtain⟨hd,h⟩:=hc;split at h
 .rename_i ff x' y' ho
  simp only[bD,dO]at h;obtain⟨⟨rfl,hx⟩,hy⟩:=h;have rx:=wP hs hx;have ry:=wP hs hy;have hrun:(execOp a.eval o).run P w = .ok (.value (.func (.func (φ f)) (x'.map a.eval) (y'.map a.eval))) w:=by simp[execOp,ho,Instr.makeFunc]
  simp only[aU]at hK;split at hK
  .rename_i p q hp hq
   exact vo hs hd hrun (by simp only[aK,bT];exact⟨_,_,rfl,by simpa using Aj hp rx,by simpa using Aj hq ry⟩) hK
  .exact vo hs hd hrun (by simp only[aK];exact⟨_,_,rfl,by simpa using rx,by simpa using ry⟩) hK
 .simp at h
theorem Oa{t:TypeId}{ag:Bool}(h:wM P t ag=true):(isAgg t).run P w = .ok ag w:=by
 unfold wM at h;split at h
 .rename_i hu;subst h;simp[isAgg,underlying,hu]
 .rename_i hu;subst h;simp[isAgg,underlying,hu]
 .rename_i dd h1 h2 hu
  simp at h;subst h;cases dd<;>simp[isAgg,underlying,hu]<;>first |exact absurd rfl (h1 _) |exact absurd rfl (h2 _ _)
 .simp at h
theorem wS{t:TypeId}{n:Nat}(h:jD P t n=true):(sizeOf t).run P w = .ok n w:=by
 unfold jD at h;cases hi:P.info? t with
 |none=>simp[hi]at h
 |some i=>simp[hi]at h;simp[sizeOf,typeInfo,hi,h]
theorem rj(b o j:Nat):(⟨b,o,none⟩:Addr).add j=⟨b,o+j,none⟩:=by unfold Addr.add;split<;>simp_all
theorem aht{t:TypeId}{n:Nat}{ag:Bool}(lW:wM P t ag=true)(hn:jD P t n=true){b off:Nat}{vs:List Value}
  (hc:∀(j:Nat)(v:Value),vs[j]?=some v->w.cell? ⟨b,off+j,none⟩=some v){v':Value}
  (hv:if ag then n<=vs.length/\v' = .agg (vs.take n).toArray else vs.head?=some v'):
  (Instr.loadAt t (.pointer (some ⟨b,off,none⟩))).run P w = .ok v' w:=by
 have h1:=Oa (P:=P) (w:=w) lW;have h2:=wS (P:=P) (w:=w) hn;cases ag
 .simp only[fG,dK]at hv
  have:=hc 0 v' (by simpa[Xz]using hv)
  simp only[Hj]at this;simp[Instr.loadAt,Instr.sureAddr,loadVar,h1,this]
 .simp only[dH]at hv
  have hl:=run_loadCells_list (P:=P) w ⟨b,off,none⟩ (vs.take n) (λj v hj=>by
   rw[rj];exact hc j v (by rw[zf]at hj;split at hj<;>simp_all))
  have hlen:(vs.take n).length=n:=by simp;omega
  rw[hlen]at hl;simp[Instr.loadAt,Instr.sureAddr,loadVar,h1,h2,hl,hv.2]
theorem Uo{I:Nat->Nat}{cs:List D}{vs:List Value}(h:cx φ I w cs vs)(n:Nat):cx φ I w (cs.take n) (vs.take n):=by
 induction cs generalizing vs n with
 |nil=>cases vs<;>simp_all[cx]
 |cons c cs ih=>cases vs<;>cases n<;>simp_all[cx]
theorem Ob{h:List O}{I:Gh}{n:Nat}{ag:Bool}{cs:List D}{vs:List Value}(hr:cx φ I.I w cs vs)(h1:∀v∈vs,v.oneCell'=true){v:V}(hp:CC n ag cs=some v):
  ∃v',(if ag then n<=vs.length/\v' = .agg (vs.take n).toArray else vs.head?=some v')/\aK φ h I w v v':=by
 have hlen:=sW hr;cases ag
 .simp only[CC,fG,dK]at hp⊢
  cases cs with
  |nil=>simp at hp
  |cons c cs =>
   cases vs with
   |nil=>simp[cx]at hr
   |cons u us =>
    simp at hp;subst hp;simp only[cx]at hr;exact⟨u,rfl,by simpa only[aK]using hr.1⟩
 .simp only[CC,dH]at hp⊢
  split at hp
  .rename_i hn
   simp at hp;subst hp;refine⟨_,⟨by omega,rfl⟩,?_⟩
   simp only[aK,bT];exact⟨_,rfl,by simpa using Uo hr n,λx hx=>h1 x (oa (by simpa using hx))⟩
  .simp at hp
theorem Jc{h:List O}{g:Gh}{n:Nat}{ag:Bool}{cs:List V}{vs:List Value}(hr:bU φ h g w cs vs)(h1:∀v∈vs,v.oneCell'=true){v:V}(hp:pack n ag cs=some v):
  ∃v',(if ag then n<=vs.length/\v' = .agg (vs.take n).toArray else vs.head?=some v')/\aK φ h g w v v':=by
 have hlen:=pz hr;cases ag
 .simp only[pack,fG,dK]at hp⊢
  cases cs with
  |nil=>simp at hp
  |cons c cs =>
   cases vs with
   |nil=>simp[bU]at hr
   |cons u us =>
    simp at hp;subst hp;simp only[bU]at hr;exact⟨u,rfl,hr.1⟩
 .simp only[pack,dH]at hp⊢
  split at hp
  .rename_i hn
   simp at hp;subst hp;refine⟨_,⟨by omega,rfl⟩,?_⟩
   have ht:=Z4 hr n;have h1':∀x∈(vs.take n).toArray.toList,x.oneCell'=true:=λx hx=>h1 x (oa (by simpa using hx))
   unfold Cx;split
   .rename_i ds hds
    simp only[aK,bT];exact⟨_,rfl,by simpa using Aj hds ht,h1'⟩
   .simp only[aK]
    exact⟨_,rfl,by simpa using ht,h1'⟩
  .simp at hp
theorem ahu{h:List O}{g:Gh}{b es o:Nat}{rows:List (List V)}(hr:wE φ h g w b es o rows){r:Nat}{row:List V}(hrow:rows[r]?=some row):
  ∃vs:List Value,bU φ h g w row vs/\(∀(j:Nat)(v:Value),vs[j]?=some v->w.cell? ⟨b,o+r*es+j,none⟩=some v)/\∀v∈vs,v.oneCell'=true:=by
 obtain⟨_,h2⟩:=hr r row hrow;have key:∀(cs:List V)(k:Nat),(∀(j:Nat)(c:V),cs[j]?=some c->∃x,w.cell? ⟨b,o+r*es+(k+j),none⟩=some x/\x.oneCell'=true/\aK φ h g w c x) ->
   ∃vs:List Value,bU φ h g w cs vs/\(∀(j:Nat)(v:Value),vs[j]?=some v->w.cell? ⟨b,o+r*es+(k+j),none⟩=some v)/\∀v∈vs,v.oneCell'=true:=by
  intro cs;induction cs with
  |nil=>intro k _;exact⟨[],by simp[bU],by simp,by simp⟩
  |cons c cs ih =>
   intro k hk;obtain⟨x,hx,h1,hd⟩:=hk 0 c rfl;obtain⟨vs,hv,hc,ho⟩:=ih (k+1) (λj c hj=>by
    have:=hk (j+1) c (by simpa using hj)
    rwa [show k+(j+1)=k+1+j from by omega]at this)
   refine⟨x::vs,by simp only[bU];exact⟨hd,hv⟩,λj v hj=>?_,by simpa using⟨h1,ho⟩⟩
   cases j with
   |zero=>simp at hj;subst hj;simpa using hx
   |succ j =>
    have:=hc j v (by simpa using hj)
    rwa [show k+1+j=k+(j+1)from by omega]at this
 have:=key row 0 (λj c hj=>by simpa using h2 j c hj)
 simpa using this
theorem BH{I:Nat->Nat}{cs:List D}{vs:List Value}(h:cx φ I w cs vs)(n:Nat):cx φ I w (cs.drop n) (vs.drop n):=by
 induction cs generalizing vs n with
 |nil=>cases vs<;>simp_all[cx]
 |cons c cs ih=>cases vs<;>cases n<;>simp_all[cx]
theorem ahv(hs:cj φ nt m dB s g a w){rec:Rec}{d n:Nat}{ag:Bool}{x:A}(hc:cO P φ nt o (.ld d x n ag)=true)(hok:(aU rec (.ld d x n ag) s).ok=true)
  (hK:eU φ nt m dB s g w (aU rec (.ld d x n ag) s) o a K):o.wp P a w K Q:=by
 simp only[cO,bD]at hc;obtain⟨hd,h⟩:=hc;split at h
 .rename_i t y ho
  simp only[bD]at h;obtain⟨⟨hx,lW⟩,hn⟩:=h;have rx:=fm hs hx;refine nk hs hd hok (λv hv=>?_) hK
  have fin:∀{b off:Nat}{vs:List Value}{v':Value},a.eval y = .pointer (some ⟨b,off,none⟩)->(∀(j:Nat)(u:Value),vs[j]?=some u->w.cell? ⟨b,off+j,none⟩=some u) ->
    (if ag then n<=vs.length/\v' = .agg (vs.take n).toArray else vs.head?=some v')->(execOp a.eval o).run P w = .ok (.value v') w:=by
   intro b off vs v' he jy jE;have:=aht (P:=P) (w:=w) lW hn jy jE;simp[execOp,ho,he,this]
  unfold zl at hv;split at hv
  .rename_i cs hb
   rw[hb]at rx;simp only[aK,bT]at rx;obtain⟨b,off,he,hI,hcs⟩:=rx;obtain⟨vs,hvs,jy,h1⟩:=I6 hcs;obtain⟨v',h2,h3⟩:=Ob (h:=s.heap) hvs h1 hv;exact⟨v',fin he jy h2,h3⟩
  .rename_i cs hb
   rw[hb]at rx;simp only[aK]at rx;obtain⟨b,off,us,he,hI,hcs,jy⟩:=rx;obtain⟨v',h2,h3⟩:=Jc hcs (λv hv=>let ⟨j,hj,hh⟩:=tv hv;(jy j v (by simp[hj,hh])).2) hv
   exact⟨v',fin he (λj u hj=>(jy j u hj).1) h2,h3⟩
  .rename_i k r c hb
   rw[hb]at rx;simp only[aK]at rx;obtain⟨hlt,_,rx⟩:=rx;have dF:=hs.heap.obj k;split at hv
   .rename_i es ex rows hk
    rw[hk]at dF rx;have he:=rx es rfl;cases hrow:rows[r]? with
    |none=>simp[hrow]at hv
    |some row =>
     simp[hrow]at hv;obtain⟨_,h2,_⟩:=dF;obtain⟨_,hcs⟩:=oB h2 hrow;obtain⟨vs,hvs,jy,h1⟩:=I6 hcs;obtain⟨v',h2,h3⟩:=Ob (h:=s.heap) (BH hvs c) (λv hv=>h1 v (mV hv)) hv
     refine⟨v',fin he (λj u hj=>?_) h2,h3⟩
     have:=jy (c+j) u (by simpa[pX]using hj)
     rwa [<-Nat.add_assoc]at this
   .rename_i es rows hk
    rw[hk]at dF rx;have he:=rx es rfl;cases hrow:rows[r]? with
    |none=>simp[hrow]at hv
    |some row =>
     simp[hrow]at hv;obtain⟨_,h2,_⟩:=dF;obtain⟨vs,hvs,jy,h1⟩:=ahu h2 hrow;obtain⟨v',h2,h3⟩:=Jc (I9 hvs c) (λv hv=>h1 v (mV hv)) hv
     refine⟨v',fin he (λj u hj=>?_) h2,h3⟩
     have:=jy (c+j) u (by simpa[pX]using hj)
     rwa [<-Nat.add_assoc]at this
   .simp at hv
  .simp at hv
 .simp at h
end
end Go.VS
namespace Go.VS
section
variable {P:Program}{φ:fD}
variable {nt m dB:Nat}{s:St}{g:Gh}{a:Act}{w:World}{K:Act->World->Prop}{Q:Exit->Act->World->Prop}{o:Oper}
theorem Up{I:Nat->Nat}{t:TypeId}{k:CK}(hk:wN P t k=true){x y:D}{b:Bool}(h:Cz k x y=some b){u v:Value}(hu:bT φ I w x u)(hv:bT φ I w y v)(d:Nat):
  (Op.equalIn (d+1) t u v).run P w = .ok b w:=by
 unfold wN at hk;unfold Cz at h;split at h<;>simp only[gz,reduceCtorEq,Qj]at h
 .obtain⟨rfl,rfl⟩:=h
  have hu:=nQ hu;have hv:=nQ hv;subst hu;subst hv;split at hk<;>simp_all;exact run_equalIn_int w d t _ _ _ _ (by assumption)
 .subst h
  have hu:=wR hu;have hv:=wR hv;subst hu;subst hv;split at hk<;>simp_all;exact run_equalIn_bool w d t _ _ (by assumption)
 .subst h
  simp only[bT]at hu hv;obtain⟨bs,rfl,hb⟩:=hu;obtain⟨cs,rfl,hc⟩:=hv;split at hk<;>simp_all;rw[run_equalIn_string w d t _ _ (by assumption),hb,hc]
theorem Jd{t:TypeId}{k:CK}(hk:wN P t k=true){xs:Array Value}{off:Nat}{v:Value}(hv:xs[off]?=some v):(part t xs off).run P w = .ok v w:=by
 have lW:wM P t false=true:=by
  unfold wN at hk;unfold wM;split at hk<;>simp_all
 have h1:=Oa (P:=P) (w:=w) lW;simp[part,h1,hv]
theorem Uq{I:Nat->Nat}(d:Nat){xs ys:Array Value}:∀{fs:List Field}{ks:List CK}{off:Nat}{p q:List D}{b:Bool},yz P off fs ks=true->jT ks p q=some b ->
  cx φ I w p (xs.toList.drop off)->cx φ I w q (ys.toList.drop off)->(Op.eqFields (d+1) xs ys fs).run P w = .ok b w
 | [],[],_,p,q,b,_,hf,_,_=>by
  cases p<;>cases q<;>simp[jT]at hf;subst hf;simp[Op.eqFields]
 |f::fs,k::ks,off,p,q,b,hc,hf,hp,hq=>by
  simp only[yz,bD,dO,KD]at hc;obtain⟨⟨⟨hn,rfl⟩,hk⟩,hr⟩:=hc;cases p with
  |nil=>simp[jT]at hf
  |cons x p =>
   cases q with
   |nil=>simp[jT]at hf
   |cons y q =>
    simp only[jT,og,gI]at hf;obtain⟨b1,h1,b2,h2,rfl⟩:=hf;obtain⟨u,hu,ru⟩:=BB hp (j:=0) rfl;obtain⟨v,hv,rv⟩:=BB hq (j:=0) rfl;have oD:xs[f.offset]?=some u:=by simpa[pX]using hu
    have jE:ys[f.offset]?=some v:=by simpa[pX]using hv
    have iT:cx φ I w p (xs.toList.drop (f.offset+1)):=by
     have:=BH hp 1;simpa[Em,rL]using this
    have kE:cx φ I w q (ys.toList.drop (f.offset+1)):=by
     have:=BH hq 1;simpa[Em,rL]using this
    have ih:=Uq d hr h2 iT kE;have he:=Up (P:=P) hk h1 ru rv d;have e1:=Jd (P:=P) (w:=w) hk oD;have e2:=Jd (P:=P) (w:=w) hk jE;simp only[Op.eqFields,hn,zg,not_false_eq_true,dH,Sem.run_bind,e1,e2,Result.andThen_ok,he,Sem.run_ite,Sem.run_pure,ih];cases b1<;>simp
 | [],_::_,_,_,_,_,hc,_,_,_=>by simp[yz]at hc
 |_::_,[],_,_,_,_,hc,_,_,_=>by simp[yz]at hc
theorem ahw{I:Nat->Nat}(d:Nat){e:TypeId}{k:CK}(hk:wN P e k=true){xs ys:Array Value}:∀{m off:Nat}{p q:List D}{b:Bool},jT (List.replicate m k) p q=some b ->
  cx φ I w p (xs.toList.drop off)->cx φ I w q (ys.toList.drop off)->(Op.eqItems (d+1) e 1 xs ys (List.range' off m)).run P w = .ok b w
 | 0,off,p,q,b,hf,_,_=>by
  cases p<;>cases q<;>simp[jT]at hf;subst hf;simp[Op.eqItems]
 |m+1,off,p,q,b,hf,hp,hq=>by
  rw[Qk]at hf;cases p with
  |nil=>simp[jT]at hf
  |cons x p =>
   cases q with
   |nil=>simp[jT]at hf
   |cons y q =>
    simp only[jT,og,gI]at hf;obtain⟨b1,h1,b2,h2,rfl⟩:=hf;obtain⟨u,hu,ru⟩:=BB hp (j:=0) rfl;obtain⟨v,hv,rv⟩:=BB hq (j:=0) rfl;have oD:xs[off]?=some u:=by simpa[pX]using hu
    have jE:ys[off]?=some v:=by simpa[pX]using hv
    have iT:cx φ I w p (xs.toList.drop (off+1)):=by
     have:=BH hp 1;simpa[Em,rL]using this
    have kE:cx φ I w q (ys.toList.drop (off+1)):=by
     have:=BH hq 1;simpa[Em,rL]using this
    have ih:=ahw d hk h2 iT kE;have he:=Up (P:=P) hk h1 ru rv d;have e1:=Jd (P:=P) (w:=w) hk oD;have e2:=Jd (P:=P) (w:=w) hk jE;simp only[List.range'_succ,Op.eqItems,Qi,Sem.run_bind,e1,e2,Result.andThen_ok,he,Sem.run_ite,Sem.run_pure,ih];cases b1<;>simp
theorem ahx{t:TypeId}{ks:List CK}(ht:(Dz P t ks||Uk P t ks)=true){p q:List D}{b:Bool}(hb:jT ks p q=some b){A B:Array Value}{I:Nat->Nat}(ra:cx φ I w p A.toList)(rb:cx φ I w q B.toList):
  (Op.equalIn 10000 t (.agg A) (.agg B)).run P w = .ok b w/\P.eqGuardType P.depth t=false:=by
 simp only[Cr]at ht;rcases ht with ht |ht
 .unfold Dz at ht
  split at ht
  .rename_i fs hfs
   simp only[bD,iZ]at ht;obtain⟨⟨pG,wT⟩,BI⟩:=ht;have hfo:P.fieldsOf t=fs:=by simp[Program.fieldsOf,hfs]
   have hst:P.underlying t=some (.struct (P.fieldsOf t)):=by rw[hfo];exact hfs
   have hf:=Uq (P:=P) (w:=w) 9998 BI hb (by simpa using ra) (by simpa using rb)
   have he:=run_equalIn_struct (P:=P) w 9999 t A B hst pG;rw[hfo,hf]at he;exact⟨he,wT⟩
  .simp at ht
 .unfold Uk at ht
  split at ht
  .rename_i n e hu
   simp only[bD,iZ]at ht;obtain⟨wT,BI⟩:=ht;split at BI
   .rename_i k r
    simp only[bD,gf]at BI;obtain⟨⟨h1,h2⟩,h3⟩:=BI;unfold jD at h3;cases hi:P.info? e with
    |none=>simp[hi]at h3
    |some i =>
     simp[hi]at h3;have hc:P.cellsOf e=1:=by simp[Program.cellsOf,hi,h3]
     have he:=run_equalIn_array (P:=P) w 9999 A B hu hi;rw[h1]at hb;have hf:=ahw (P:=P) (w:=w) 9998 h2 (off:=0) hb (by simpa using ra) (by simpa using rb)
     rw[hc,List.range_eq_range',hf]at he;exact⟨he,wT⟩
   .simp at BI
  .simp at ht
theorem ahy(hs:cj φ nt m dB s g a w){rec:Rec}{d:Nat}{neg:Bool}{x y:A}{ks:List CK}(hc:cO P φ nt o (.eqv d neg x y ks)=true)(hok:(aU rec (.eqv d neg x y ks) s).ok=true)
  (hK:eU φ nt m dB s g w (aU rec (.eqv d neg x y ks) s) o a K):o.wp P a w K Q:=by
 simp only[cO,bD]at hc;obtain⟨hd,h⟩:=hc;split at h
 .rename_i op' t x' y' ty ho
  simp only[bD,dO]at h;obtain⟨⟨⟨hop,hx⟩,hy⟩,ht⟩:=h;have rx:=fm hs hx;have ry:=fm hs hy;refine nk hs hd hok (λv hv=>?_) hK
  unfold KS at hv;split at hv
  .rename_i p q hp hq
   rw[hp]at rx;rw[hq]at ry;simp only[aK,bT]at rx ry;obtain⟨A,ex,ra,_⟩:=rx;obtain⟨B,ey,rb,_⟩:=ry;simp only[gI]at hv;obtain⟨b,hb,rfl⟩:=hv;refine⟨.bool (b != neg),?_,by simp[aK,bT]⟩
   obtain⟨he,wT⟩:=ahx (P:=P) (w:=w) (φ:=φ) ht hb (by simpa using ra) (by simpa using rb)
   have hgd:=run_eqGuard_agg (P:=P) w op' t x' y' A B wT;cases neg
   .simp only[fG,dK]at hop
    subst hop;have:=run_eql_struct (P:=P) w t A B;rw[he]at this;simp[execOp,ho,ex,ey,hgd,this]
   .simp only[dH]at hop
    subst hop;have:=run_neq_struct (P:=P) w t A B;rw[he]at this;simp[execOp,ho,ex,ey,hgd,this]
  .simp at hv
 .simp at h
theorem ahz(d:Nat){t e:TypeId}(a:Option Addr)(l c:Nat)(h:P.underlying t=some (.slice e)):(Op.equalIn (d+1) t (.slice a l c) (.slice none 0 0)).run P w = .ok a.isNone w:=by
 cases a<;>simp[Op.equalIn,run_underlying h]
theorem ahA(d:Nat){t k e:TypeId}(a:Option Nat)(h:P.underlying t=some (.map k e)):(Op.equalIn (d+1) t (.map a) (.map none)).run P w = .ok a.isNone w:=by
 cases a<;>simp[Op.equalIn,run_underlying h]
theorem ahB(d:Nat){t e:TypeId}(a:Option Addr)(h:P.underlying t=some (.pointer e)):(Op.equalIn (d+1) t (.pointer a) (.pointer none)).run P w = .ok a.isNone w:=by
 cases a<;>simp[Op.equalIn,run_underlying h]
theorem ahC(d:Nat){t:TypeId}{ps rs:Array TypeId}{vr:Bool}(fn:Fn)(A B:Array Value)(h:P.underlying t=some (.func ps rs vr)):(Op.equalIn (d+1) t (.func fn A B) .nilFunc).run P w = .ok false w:=by
 simp[Op.equalIn,run_underlying h]
theorem ahD(d:Nat){t:TypeId}{ps rs:Array TypeId}{vr:Bool}(h:P.underlying t=some (.func ps rs vr)):(Op.equalIn (d+1) t .nilFunc .nilFunc).run P w = .ok true w:=by
 simp[Op.equalIn,run_underlying h]
theorem ahE(d:Nat){t u:TypeId}{ms:Array (String×TypeId)}(x:Value)(h:P.underlying t=some (.interface ms)):(Op.equalIn (d+1) t (.iface u x) .nilIface).run P w = .ok false w:=by
 simp[Op.equalIn,run_underlying h]
theorem ahF(d:Nat){t:TypeId}{ms:Array (String×TypeId)}(h:P.underlying t=some (.interface ms)):(Op.equalIn (d+1) t .nilIface .nilIface).run P w = .ok true w:=by
 simp[Op.equalIn,run_underlying h]
theorem FL{h:List O}{n:Nat}(ha:vT h n=true):∃es,(aV h n).gN=some es:=by
 unfold vT at ha;split at ha<;>simp_all[O.gN]
theorem ahG{t:TypeId}{v u:Value}{k:NK}(hn:Uh P t v k=true){x:V}{h:List O}{g:Gh}(hr:aK φ h g w x u){r:Bool}(hb:isNil h k x=some r)(xo:Operand):
  (∀op,(op = .eql\/op = .neq)->(eqGuard op t xo (.const v) u v).run P w = .ok () w)/\(binOp .eql t u v).run P w = .ok (.bool r) w/\(binOp .neq t u v).run P w = .ok (.bool (!r)) w:=by
 have guard:∀{u v:Value},u≠.nilIface->(∀A,u≠.agg A)->∀op,(op = .eql\/op = .neq)->(eqGuard op t xo (.const v) u v).run P w = .ok () w:=λh1 h2 op _=>ahn h1 h2
 unfold Uh at hn;split at hn
 .rename_i e hu
  have key:∀(a:Option Addr)(l c:Nat)(r:Bool),a.isNone=r->(∀op,(op = .eql\/op = .neq)->(eqGuard op t xo (.const (.slice none 0 0)) (.slice a l c) (.slice none 0 0)).run P w = .ok () w) /\
    (binOp .eql t (.slice a l c) (.slice none 0 0)).run P w = .ok (.bool r) w/\(binOp .neq t (.slice a l c) (.slice none 0 0)).run P w = .ok (.bool (!r)) w:=by
   intro a l c r hr
   have:(Op.equal t (.slice a l c) (.slice none 0 0)).run P w = .ok r w:=hr▸ahz 9999 a l c hu
   refine⟨guard (by simp) (by simp),?_,?_⟩<;>simp only[binOp]<;>simp[this]
  cases x with
  |d y =>
   cases y<;>simp[isNil]at hb;rename_i es nl xs;subst hb;simp only[aK,bT]at hr;obtain⟨a,cap,rfl,hl,h1,h2⟩:=hr;cases nl
   .obtain⟨ad,rfl,_⟩:=h2 rfl
    exact key _ _ _ _ rfl
   .obtain⟨rfl,_⟩:=h1 rfl
    exact key _ _ _ _ rfl
  |aR n off len =>
   simp[isNil]at hb;obtain⟨ha,rfl⟩:=hb;obtain⟨es,he⟩:=FL ha;simp only[aK]at hr;obtain⟨cap,rfl,_⟩:=hr.2.2 es he;exact key _ _ _ _ rfl
  |jc es =>
   simp[isNil]at hb;subst hb;simp only[aK]at hr;obtain⟨ad,rfl⟩:=hr;exact key _ _ _ _ rfl
  |_=>simp[isNil]at hb
 .rename_i kt et hu
  have key:∀(a:Option Nat)(r:Bool),a.isNone=r->(∀op,(op = .eql\/op = .neq)->(eqGuard op t xo (.const (.map none)) (.map a) (.map none)).run P w = .ok () w) /\
    (binOp .eql t (.map a) (.map none)).run P w = .ok (.bool r) w/\(binOp .neq t (.map a) (.map none)).run P w = .ok (.bool (!r)) w:=by
   intro a r hr
   have:(Op.equal t (.map a) (.map none)).run P w = .ok r w:=hr▸ahA 9999 a hu
   refine⟨guard (by simp) (by simp),?_,?_⟩<;>simp only[binOp]<;>simp[this]
  cases x with
  |d y =>
   cases y<;>simp[isNil]at hb;subst hb;simp only[aK,bT]at hr;subst hr;exact key _ _ rfl
  |mp n =>
   simp only[isNil]at hb;split at hb<;>simp at hb;rename_i kv hk;subst hb;simp only[aK]at hr;rw[hr.2.2 kv hk];exact key _ _ rfl
  |_=>simp[isNil]at hb
 .rename_i ps rs vr hu
  have key:∀(u:Value)(r:Bool),(u = .nilFunc/\r=true\/(∃fn A B,u = .func fn A B)/\r=false)->(∀op,(op = .eql\/op = .neq)->(eqGuard op t xo (.const .nilFunc) u .nilFunc).run P w = .ok () w) /\
    (binOp .eql t u .nilFunc).run P w = .ok (.bool r) w/\(binOp .neq t u .nilFunc).run P w = .ok (.bool (!r)) w:=by
   rintro u r (⟨rfl,rfl⟩ |⟨⟨fn,A,B,rfl⟩,rfl⟩)
   .have:(Op.equal t .nilFunc .nilFunc).run P w = .ok true w:=ahD 9999 hu
    refine⟨guard (by simp) (by simp),?_,?_⟩<;>simp only[binOp]<;>simp[this]
   .have:(Op.equal t (.func fn A B) .nilFunc).run P w = .ok false w:=ahC 9999 fn A B hu
    refine⟨guard (by simp) (by simp),?_,?_⟩<;>simp only[binOp]<;>simp[this]
  cases x with
  |d y =>
   cases y<;>simp[isNil]at hb
   .subst hb
    simp only[aK,bT]at hr;obtain⟨A,B,rfl,_⟩:=hr;exact key _ _ (.inr ⟨⟨_,_,_,rfl⟩,rfl⟩)
   .subst hb
    simp only[aK,bT]at hr;subst hr;exact key _ _ (.inl ⟨rfl,rfl⟩)
  |fn f A B =>
   simp[isNil]at hb;subst hb;simp only[aK]at hr;obtain⟨A,B,rfl,_⟩:=hr;exact key _ _ (.inr ⟨⟨_,_,_,rfl⟩,rfl⟩)
  |_=>simp[isNil]at hb
 .rename_i e hu
  have key:∀(a:Option Addr)(r:Bool),a.isNone=r->(∀op,(op = .eql\/op = .neq)->(eqGuard op t xo (.const (.pointer none)) (.pointer a) (.pointer none)).run P w = .ok () w) /\
    (binOp .eql t (.pointer a) (.pointer none)).run P w = .ok (.bool r) w/\(binOp .neq t (.pointer a) (.pointer none)).run P w = .ok (.bool (!r)) w:=by
   intro a r hr
   have:(Op.equal t (.pointer a) (.pointer none)).run P w = .ok r w:=hr▸ahB 9999 a hu
   refine⟨guard (by simp) (by simp),?_,?_⟩<;>simp only[binOp]<;>simp[this]
  cases x with
  |d y =>
   cases y<;>simp[isNil]at hb
   .subst hb
    simp only[aK,bT]at hr;subst hr;exact key _ _ rfl
   .subst hb
    simp only[aK,bT]at hr;obtain⟨b,off,rfl,_⟩:=hr;exact key _ _ rfl
  |loc n r' c =>
   simp[isNil]at hb;obtain⟨ha,rfl⟩:=hb;obtain⟨es,he⟩:=FL ha;simp only[aK]at hr;rw[hr.2.2 es he];exact key _ _ rfl
  |rf cs =>
   simp[isNil]at hb;subst hb;simp only[aK]at hr;obtain⟨b,off,us,rfl,_⟩:=hr;exact key _ _ rfl
  |_=>simp[isNil]at hb
 .rename_i ms hu
  cases x with
  |d y =>
   cases y<;>simp[isNil]at hb
   .subst hb
    simp only[aK,bT]at hr;obtain⟨z,rfl,_⟩:=hr
    have:∀tt zz,(Op.equal t (.iface tt zz) .nilIface).run P w = .ok false w:=λtt zz=>ahE 9999 zz hu
    refine⟨guard (by simp) (by simp),?_,?_⟩<;>simp only[binOp]<;>simp[this]
   .subst hb
    simp only[aK,bT]at hr;subst hr
    have:(Op.equal t .nilIface .nilIface).run P w = .ok true w:=ahF 9999 hu
    refine⟨λop hop=>?_,?_,?_⟩
    .rcases hop with rfl |rfl<;>simp[eqGuard]
    .simp only[binOp];simp[this]
    .simp only[binOp];simp[this]
  |_=>simp[isNil]at hb
 .simp at hn
theorem ahH(hs:cj φ nt m dB s g a w){rec:Rec}{d:Nat}{neg:Bool}{x:A}{k:NK}(hc:cO P φ nt o (.qH d neg x k)=true)(hok:(aU rec (.qH d neg x k) s).ok=true)
  (hK:eU φ nt m dB s g w (aU rec (.qH d neg x k) s) o a K):o.wp P a w K Q:=by
 simp only[cO,bD]at hc;obtain⟨hd,h⟩:=hc;split at h
 .rename_i op' t x' v' ty ho
  simp only[bD,dO]at h;obtain⟨⟨hop,hx⟩,ht⟩:=h;have rx:=fm hs hx;refine nk hs hd hok (λv hv=>?_) hK
  simp only[gI]at hv;obtain⟨r,hr,rfl⟩:=hv;obtain⟨h1,h2,h3⟩:=ahG (P:=P) ht rx hr x';refine⟨.bool (r != neg),?_,by simp[aK,bT]⟩
  have ahI:a.eval (.const v')=v':=rfl;cases neg
  .simp only[fG,dK]at hop
   subst hop;simp[execOp,ho,ahI,h1 .eql (.inl rfl),h2]
  .simp only[dH]at hop
   subst hop;simp[execOp,ho,ahI,h1 .neq (.inr rfl),h3]
 .simp at h
theorem ahJ{I:Nat->Nat}{b off:Nat}{cs:List D}(h:nO φ I w b off cs)(n:Nat):nO φ I w b (off+n) (cs.drop n):=
 wD λj c hj=>by
  have:=FG h (j:=n+j) (by simpa[pX]using hj)
  rwa [<-Nat.add_assoc]at this
theorem ahK(hs:cj φ nt m dB s g a w){rec:Rec}{d off n:Nat}{x:A}(hc:cO P φ nt o (.fa d x off n)=true)(hok:(aU rec (.fa d x off n) s).ok=true)
  (hK:eU φ nt m dB s g w (aU rec (.fa d x off n) s) o a K):o.wp P a w K Q:=by
 simp only[cO,bD]at hc;obtain⟨hd,h⟩:=hc;split at h
 .rename_i t y k ho
  simp only[bD,gf]at h;obtain⟨⟨hx,hn⟩,ht⟩:=h;have rx:=fm hs hx;refine nk hs hd hok (λv hv=>?_) hK
  split at ht
  .rename_i fs hfs
   split at ht
   .rename_i f hf
    simp only[bD,dO]at ht;obtain⟨rfl,hsz⟩:=ht;have hsz':=wS (P:=P) (w:=w) hsz;have run:∀{b o':Nat},a.eval y = .pointer (some ⟨b,o',none⟩)->(execOp a.eval o).run P w = .ok (.value (.pointer (some ⟨b,o'+f.offset,none⟩))) w:=by
     intro b o' he;have hne:n≠0:=by omega
     simp[execOp,ho,he,Instr.fieldAt,underlying,hfs,hf,Instr.sureAddr,fieldPlace,hsz',hne,rj]
    unfold fa at hv;split at hv
    .rename_i cs hb
     rw[hb]at rx;simp only[aK,bT]at rx;obtain⟨b,o',he,hI,hcs⟩:=rx;split at hv
     .rename_i hle
      simp at hv;subst hv;refine⟨_,run he,?_⟩;simp only[aK,bT];exact⟨b,o'+f.offset,rfl,by simp;omega,ahJ hcs _⟩
     .simp at hv
    .rename_i cs hb
     rw[hb]at rx;simp only[aK]at rx;obtain⟨b,o',us,he,hI,hcs,jy⟩:=rx;split at hv
     .rename_i hle
      simp at hv;subst hv;refine⟨_,run he,?_⟩;simp only[aK];refine⟨b,o'+f.offset,us.drop f.offset,rfl,by simp;omega,I9 hcs _,λj u hj=>?_⟩
      rw[qF];exact jy _ u (by simpa[pX]using hj)
     .simp at hv
    .rename_i q r c hb
     rw[hb]at rx;simp only[aK]at rx;simp at hv;obtain⟨ha,rfl⟩:=hv;obtain⟨es,jN⟩:=FL ha;refine⟨_,run (rx.2.2 es jN),?_⟩;simp only[aK];refine⟨rx.1,rfl,λes' he'=>?_⟩
     rw[jN]at he';simp at he';subst he';simp[qF]
    .simp at hv
   .simp at ht
  .simp at ht
 .simp at h
end
end Go.VS
namespace Go.VS
section
variable {P:Program}{φ:fD}
variable {nt m dB:Nat}{s:St}{g:Gh}{a:Act}{w:World}{K:Act->World->Prop}{Q:Exit->Act->World->Prop}{o:Oper}
theorem ahL{t e:TypeId}{es:Nat}(ht:P.underlying t=some (.slice e))(jN:jD P e es=true){b off len cap:Nat}{k:IntKind}{j:Int}(h0:0<=j)(hj:j<len):
  (Instr.indexAt t (.slice (some ⟨b,off,none⟩) len cap) (.int k j)).run P w = .ok (.pointer (some ⟨b,off+j.toNat*es,none⟩)) w:=by
 have h1:=wS (P:=P) (w:=w) jN;simp[Instr.indexAt,asIntOf,underlying,ht,h0,hj,h1,rj]
theorem ahM{j:Int}{n es:Nat}(h:j.toNat<n):(j.toNat+1)*es<=es*n:=by
 rw[jt es n];exact l7 es h
theorem ahN(hs:cj φ nt m dB s g a w){rec:Rec}{d es:Nat}{x i:A}(hc:cO P φ nt o (.jm d x i es)=true)(hok:(aU rec (.jm d x i es) s).ok=true)
  (hK:eU φ nt m dB s g w (aU rec (.jm d x i es) s) o a K):o.wp P a w K Q:=by
 simp only[cO,bD]at hc;obtain⟨hd,h⟩:=hc;split at h
 .rename_i t y k ho
  simp only[bD]at h;obtain⟨⟨hx,hi⟩,ht⟩:=h;have rx:=fm hs hx;have ri:=fm hs hi;refine nk hs hd hok (λv hv=>?_) hK
  split at ht
  .rename_i e hu
   simp only[bD,gf]at ht;obtain⟨hsz,hpos⟩:=ht;unfold jm at hv;split at hv
   .rename_i es' nl xs kk j hp hq
    rw[hp]at rx;rw[hq]at ri;have ei:=nQ (by simpa only[aK]using ri)
    simp at hv;obtain⟨⟨h0,rfl⟩,row,hrow,rfl⟩:=hv;simp only[aK,bT]at rx;obtain⟨ao,cap,ex,hl,hnt,hnf⟩:=rx;have hlt:j.toNat<xs.length:=by
     rcases lG j.toNat xs.length with h1 |h1
     .exact h1
     .simp[oc h1]at hrow
    have hne:xs≠[]:=by intro hx;simp[hx]at hlt
    cases nl with
    |true =>
     obtain⟨_,hc0⟩:=hnt rfl;omega
    |false =>
     obtain⟨ad,rfl,hx⟩:=hnf rfl;obtain⟨hsp,hI,hr⟩:=hx hne;obtain⟨b,off,sp⟩:=ad;simp at hsp;subst hsp;simp only at hI hr;obtain⟨hrl,hcs⟩:=oB hr hrow;refine⟨_,by simp only[execOp,ho,ex,ei];simp[ahL (P:=P) (w:=w) hu hsz h0 (show j<(xs.length:Int)by omega)];rfl,?_⟩
     simp only[aK,bT];have:=ahM (es:=es') hlt;rw[rM]at this;exact⟨b,off+j.toNat*es',rfl,by omega,hcs⟩
   .rename_i n off len kk j hp hq
    rw[hp]at rx;rw[hq]at ri;have ei:=nQ (by simpa only[aK]using ri)
    simp only[aK]at rx;have key:∀e',(aV s.heap n).gN=some e'->(0<=j/\j<len/\e'=es)->v = .loc n (off+j.toNat) 0->∃v',(execOp a.eval o).run P w = .ok (.value v') w/\aK φ s.heap g w v v':=by
     rintro e' he ⟨h0,hj,rfl⟩ rfl;obtain⟨cap,ex,_⟩:=rx.2.2 e' he;refine⟨_,by simp only[execOp,ho,ex,ei];simp[ahL (P:=P) (w:=w) hu hsz h0 hj];rfl,?_⟩
     simp only[aK];refine⟨rx.1,rfl,λes' he'=>?_⟩
     rw[he]at he';simp at he';subst he';simp[nD,qF]
    split at hv
    .rename_i e' ex' rows hk
     simp at hv;exact key e' (by rw[hk];rfl) hv.1 hv.2.symm
    .rename_i e' rows hk
     simp at hv;exact key e' (by rw[hk];rfl) hv.1 hv.2.symm
    .simp at hv
   .simp at hv
  .simp at ht
 .simp at h
theorem ahO{h:List O}{v r:V}(hv:rQ h .sl v=some r):(∃es nl xs,v = .d (.sl es nl xs)/\r = .d (.i .i64 xs.length))\/(∃n off len,v = .aR n off len/\vT h n=true/\r = .d (.i .i64 len))\/(∃es,v = .jc es/\r = .d (.i .i64 (0:Nat))):=by
 cases v with
 |d y=>cases y<;>simp[rQ]at hv;exact .inl ⟨_,_,_,rfl,hv.symm⟩
 |aR n off len=>simp[rQ]at hv;exact .inr (.inl ⟨_,_,_,rfl,hv.1,hv.2.symm⟩)
 |jc es=>simp[rQ]at hv;exact .inr (.inr ⟨_,rfl,hv.symm⟩)
 |_=>simp[rQ]at hv
theorem ahP{h:List O}{v r:V}(hv:rQ h .s v=some r):∃x,v = .d (.s x)/\r = .d (.i .i64 x.length):=by
 cases v with
 |d y=>cases y<;>simp[rQ]at hv;exact⟨_,rfl,hv.symm⟩
 |_=>simp[rQ]at hv
theorem ahQ{h:List O}{v r:V}(hv:rQ h .mp v=some r):(v = .d .uE/\r = .d (.i .i64 0))\/(∃n kv,v = .mp n/\aV h n = .mp kv/\r = .d (.i .i64 kv.length)):=by
 cases v with
 |d y=>cases y<;>simp[rQ]at hv;exact .inl ⟨rfl,hv.symm⟩
 |mp n =>
  simp only[rQ]at hv;split at hv
  .rename_i kv hk;simp at hv;exact .inr ⟨n,kv,rfl,hk,hv.symm⟩
  .simp at hv
 |_=>simp[rQ]at hv
theorem ahR(hs:cj φ nt m dB s g a w){rec:Rec}{d:Nat}{x:A}{k:LK}(hc:cO P φ nt o (.len d x k)=true)(hok:(aU rec (.len d x k) s).ok=true)
  (hK:eU φ nt m dB s g w (aU rec (.len d x k) s) o a K):o.wp P a w K Q:=by
 simp only[cO,bD]at hc;obtain⟨hd,h⟩:=hc;split at h
 .rename_i c ho
  split at h
  .rename_i y t iz hargs qu
   simp only[bD]at h;obtain⟨hx,ht⟩:=h;have rx:=I8 (fm hs hx);refine nk hs hd hok (λv hv=>?_) hK
   obtain⟨FM,args,tys⟩:=c;simp only at iz hargs qu;have so:args=#[y]:=by rw[<-Array.toList_inj];exact hargs
   have wU:tys=#[t]:=by rw[<-Array.toList_inj];exact qu
   subst iz;subst so;subst wU;have fin:∀{u:Value}{n:Nat},v = .d (.i .i64 n)->a.eval y=u->(Builtin.len_ #[t] o.type #[u]).run P w = .ok (.int .i64 n) w->∃v',(execOp a.eval o).run P w = .ok (.value v') w/\aK φ s.heap g w v v':=by
    intro u n hv he hr;subst hv;exact⟨.int .i64 n,by simp[execOp,ho,resolve,invoke,builtin,he,hr],by simp[aK,bT]⟩
   split at ht
   .rename_i e hu
    have slice:∀(ad:Option Addr)(n c:Nat),(Builtin.len_ #[t] o.type #[.slice ad n c]).run P w = .ok (.int .i64 n) w:=λad n c=>by
     simp[Builtin.len_,underlying,hu,goInt]
    rcases ahO hv with⟨es,nl,xs,hp,rfl⟩ |⟨n,off,len,hp,ha,rfl⟩ |⟨es,hp,rfl⟩
    .rw[hp]at rx
     simp only[aK,bT]at rx;obtain⟨ad,cap,ex,_⟩:=rx;exact fin rfl ex (slice _ _ _)
    .rw[hp]at rx
     simp only[aK]at rx;obtain⟨es,he⟩:=FL ha;obtain⟨cap,ex,_⟩:=rx.2.2 es he;exact fin rfl ex (slice _ _ _)
    .rw[hp]at rx
     simp only[aK]at rx;obtain⟨ad,ex⟩:=rx;exact fin rfl ex (slice _ _ _)
   .rename_i hu
    obtain⟨z,hp,rfl⟩:=ahP hv;rw[hp]at rx;simp only[aK,bT]at rx;obtain⟨bs,ex,hb⟩:=rx;have hlen:bs.size=z.length:=by rw[<-hb,ByteArray.toList_eq];simp
    exact fin rfl ex (by simp[Builtin.len_,underlying,hu,goInt,hlen])
   .rename_i kt et hu
    rcases ahQ hv with⟨hp,rfl⟩ |⟨n,kv,hp,hk,rfl⟩
    .rw[hp]at rx
     simp only[aK,bT]at rx;exact fin (n:=0) rfl rx (by simp[Builtin.len_,underlying,hu,goInt])
    .rw[hp]at rx
     simp only[aK]at rx;have ex:=rx.2.2 kv hk;have dF:=hs.heap.obj n;rw[hk]at dF;obtain⟨ES,kZ,hb,hkv,_⟩:=dF;have hl:ES.size=kv.length:=by have:=hkv.1;simp at this;omega
     exact fin rfl ex (by simp[Builtin.len_,underlying,hu,goInt,getObj,Sem.run,hb,hl])
   .simp at ht
  .simp at h
 .simp at h
end
end Go.VS
namespace Go.VS
section
variable {P:Program}{φ:fD}
variable {nt m dB:Nat}{s:St}{g:Gh}{a:Act}{w:World}{K:Act->World->Prop}{Q:Exit->Act->World->Prop}{o:Oper}
theorem FN{α:Type}{es:Nat}:∀{rows:List (List α)},(∀r∈rows,r.length=es)->∀{r:Nat}{row:List α}{j:Nat}{c:α},rows[r]?=some row->row[j]?=some c->rows.flatten[r*es+j]?=some c
 | [],_,r,row,j,c,h,_=>by simp at h
 |x::xs,hl,r,row,j,c,h,hj=>by
  have hx:x.length=es:=hl x (by simp)
  cases r with
  |zero =>
   simp at h;subst h;have hlt:j<x.length:=by
    rcases lG j x.length with h1 |h1
    .exact h1
    .simp[oc h1]at hj
   simp[th hlt,hj]
  |succ r =>
   have ih:=FN (rows:=xs) (λr hr=>hl r (by simp[hr])) (r:=r) (by simpa using h) hj
   rw[zh,AP (by rw[hx,rM];omega)]
   rw[<-ih];congr 1;rw[hx,rM];omega
theorem yB{α:Type}{es:Nat}:∀{rows:List (List α)},(∀r∈rows,r.length=es)->rows.flatten.length=es*rows.length
 | [],_=>rfl
 |x::xs,hl=>by
  rw[zh,l6,yB (λr hr=>hl r (by simp[hr])),hl x (by simp),ir,Ql]
  omega
theorem FO:∀{rows:List (List V)}{ds:List (List D)},fQ rows=some ds->rows=ds.map λr=>r.map V.d
 | [],ds,h=>by simp[fQ]at h;subst h;rfl
 |r::rs,ds,h=>by
  simp only[fQ,og,gI]at h;obtain⟨x,hx,y,hy,rfl⟩:=h;simp[FO hy,FH hx]
theorem Ur{h h':List O}{g':Gh}{w':World}{b es:Nat}{T:TypeId}{rows:List (List V)}{C:Array Value}(hb:w'.heap[b]?=some (.cells C T (0,0)))
  (hl:∀r∈rows,r.length=es)(hr:bU φ h g w rows.flatten C.toList)(h1:∀v∈C.toList,v.oneCell'=true)(hle:gT h g w h' g' w')(hI:g'.I b=0):
  gC φ h' g' w' b 0 (eP es rows):=by
 have hcell:∀(i:Nat)(v:Value),C.toList[i]?=some v->w'.cell? ⟨b,i,none⟩=some v:=λi v hi=>by
  simp only[World.cell?,hb];simpa using hi
 have hlen:=pz hr;have hsz:0+es*rows.length<=C.size:=by
  rw[yB hl]at hlen;simp at hlen;omega
 unfold eP;split
 .rename_i ds hds
  have he:=FO hds;refine⟨⟨C,T,hb,by rw[he]at hsz;simpa using hsz⟩,vk λr row hrow=>?_,by simp[hI]⟩
  have pI:rows[r]?=some (row.map V.d):=by rw[he];simp[hrow]
  have hrl:row.length=es:=by
   have:=hl _ (lE pI);simpa using this
  refine⟨hrl,wD λj c hj=>?_⟩
  have hf:=FN hl pI (j:=j) (c:=.d c) (by simp[hj])
  obtain⟨v,hv,hd⟩:=Ds hr hf;exact⟨v,by rw[oh];exact hcell _ v hv,h1 v (lE hv),yw hle.ext (by simpa only[aK]using hd)⟩
 .refine⟨⟨C,T,hb,hsz⟩,λr row hrow=>?_,by rw[hI];exact gh _⟩
  refine⟨hl _ (lE hrow),λj c hj=>?_⟩
  have hf:=FN hl hrow hj;obtain⟨v,hv,hd⟩:=Ds hr hf;exact⟨v,by rw[oh];exact hcell _ v hv,h1 v (lE hv),lU hle hd⟩
theorem Ao(w:World)(ob:Obj):(w.alloc ob).heap[w.heap.size]?=some ob:=heap_alloc_new w ob
theorem Je(hs:cj φ nt m dB s g a w){d:Nat}(hd:gr nt o d=true){v:V}{v':Value}{w':World}{x:O}{b off:Nat}{ok:Bool}{I':Nat->Nat}
  (hrun:(execOp a.eval o).run P w = .ok (.value v') w')(hg:gO w w')(hI:∀b,b<w.heap.size->I' b=g.I b)(hnew:∀b,w'.heap.size<=b->I' b=0)(hb:w.heap.size<=b)
  (hx:gC φ (s.heap++[x]) (g.add s.heap.length b off I') w' b off x)(hv:aK φ (s.heap++[x]) (g.add s.heap.length b off I') w' v v')
  (hK:eU φ nt m dB s g w ⟨(d,v)::s.env,s.heap++[x],ok⟩ o a K):o.wp P a w K Q:=by
 obtain⟨h1,h2⟩:=BG hd;refine FK hrun (hK (g.add s.heap.length b off I') v' w' ?_ (Ug x hs.heap hg hI hb hs.len));rw[h1];have hs':cj φ nt m dB ⟨s.env,s.heap++[x],ok⟩ (g.add s.heap.length b off I') a w':=⟨λk=>lU (Am x hs.heap hg hI) (hs.env k),Z6 hs.heap hg hI hnew hb hx,hs.size,hs.defers.frame (Ug x hs.heap hg hI hb hs.len),by simp;have:=hs.len;omega⟩
 exact hs'.wQ h2 hv
theorem BJ{d:Nat}{ov:Option (V×List O)}(h:(s.gi d ov).ok=true):∃v hh,ov=some (v,hh):=by
 cases ov with
 |none=>simp[St.gi,St.fail]at h
 |some p=>exact⟨p.1,p.2,rfl⟩
theorem FP{I:Nat->Nat}{n k b:Nat}(h:b<n):iW I n k b=I b:=by simp[iW,Nat.ne_of_lt h]
theorem ahS{ds:List D}{C:Array Value}{T:TypeId}(hr:fj φ s.heap g w)(hd:cx φ g.I w ds C.toList)(h1:∀v∈C.toList,v.oneCell'=true):
  bT φ (iW g.I w.heap.size C.size) (w.alloc (.cells C T)) (.ref ds) (.pointer (some ⟨w.heap.size,0,none⟩)):=by
 simp only[bT];have hlen:=sW hd;simp at hlen;refine⟨w.heap.size,0,rfl,by simp[iW];omega,N4 (vs:=C.toList) (Af (Du (gO.alloc w _) (λb hb=>FP hb) hr.new) hd) (λj v hj=>?_) h1⟩
 simp only[World.cell?,Ao];simpa using hj
theorem Us{w:World}{ob:Obj}{I:Nat->Nat}(h:∀b,w.heap.size<=b->I b=0)(k:Nat):∀b,(w.alloc ob).heap.size<=b->iW I w.heap.size k b=0:=by
 intro b hb;simp at hb
 have:b≠w.heap.size:=by omega
 simp[iW,this];exact h b (by omega)
theorem ahT(hs:cj φ nt m dB s g a w){rec:Rec}{d n:Nat}{x:A}{fz:Bool}(hc:cO P φ nt o (.box d x n fz)=true)(hok:(aU rec (.box d x n fz) s).ok=true)
  (hK:eU φ nt m dB s g w (aU rec (.box d x n fz) s) o a K):o.wp P a w K Q:=by
 simp only[cO,bD]at hc;obtain⟨hd,h⟩:=hc;split at h
 .rename_i t y ho
  have rx:=fm hs h;have hrun:(execOp a.eval o).run P w = .ok (.value (.pointer (some ⟨w.heap.size,0,none⟩))) (w.alloc (.cells (a.eval y).cells t)):=by
   simp[execOp,ho,Instr.box,newVar,newRow]
  by_cases hk:(s.get x).cells.length=n/\(s.get x).known=true
  .obtain⟨rc,h1⟩:=FI rx hk.2
   simp only[aU,aN hk]at hok hK;cases fz with
   |true =>
    simp only[dH]at hok hK;refine ahj hs hd (I':=iW g.I w.heap.size (a.eval y).cells.size) hrun (gO.alloc w _) (λb hb=>FP hb) (Us hs.heap.new _) ?_ hK
    unfold mkRef;split
    .rename_i ds hds
     simp only[aK,Gh.ez];exact ahS hs.heap (Aj hds rc) h1
    .simp only[aK]
     have hl:=pz rc;refine⟨_,0,(a.eval y).cells.toList,rfl,by simp[Gh.ez,iW];simp at hl;omega,yy (Uf hs.heap (gO.alloc w _) (λb hb=>FP hb)) rc,λj u hj=>⟨?_,h1 u (lE hj)⟩⟩
     simp only[World.cell?,Ao,oh];simpa using hj
   |false =>
    simp only[fG,dK,St.gi]at hok hK;have hg:=gO.alloc w (.cells (a.eval y).cells t);refine Je hs hd (b:=w.heap.size) (off:=0) (I':=g.I) hrun hg (λ_ _=>rfl) (λb hb=>hs.heap.new b (by simp at hb;omega)) (gh _) ?_ ?_ hK
    .exact Ur (h:=s.heap) (Ao w _) (by simp[hk.1]) (by simpa using rc) h1 (Am _ hs.heap hg (λ_ _=>rfl)) (hs.heap.new _ (gh _))
    .simp only[aK]
     refine⟨by simp,rfl,λes he=>?_⟩
     simp[Gh.add]
  .simp only[aU,aG hk]at hok
   simp[St.fail]at hok
 .simp at h
theorem DA{t:TypeId}{z:List D}(h:BE P φ t z=true):∃i v,P.info? t=some i/\i.zero=some v/\cx φ g.I w z v.cells.toList/\(∀x∈v.cells.toList,x.oneCell'=true)/\i.size=z.length:=by
 unfold BE at h;split at h
 .rename_i i hi
  split at h
  .rename_i v hv
   simp only[bD,dO]at h;have:=Um (w:=w) (I:=g.I) h.1;exact⟨i,v,hi,hv,this.1,this.2,h.2⟩
  .simp at h
 .simp at h
theorem ahU(hs:cj φ nt m dB s g a w){rec:Rec}{d:Nat}{z:List D}(hc:cO P φ nt o (.new d z)=true)
  (hK:eU φ nt m dB s g w (aU rec (.new d z) s) o a K):o.wp P a w K Q:=by
 simp only[cO,bD]at hc;obtain⟨hd,h⟩:=hc;split at h
 .rename_i t ho
  obtain⟨i,v,hi,hv,hz,h1,_⟩:=DA (g:=g) (w:=w) h;have hrun:(execOp a.eval o).run P w = .ok (.value (.pointer (some ⟨w.heap.size,0,none⟩))) (w.alloc (.cells v.cells t)):=by
   simp[execOp,ho,Instr.alloc,zeroValue,typeInfo,hi,hv,newVar,newRow]
  simp only[aU,St.gi]at hK;have hg:=gO.alloc w (.cells v.cells t);refine Je hs hd (b:=w.heap.size) (off:=0) (I':=g.I) hrun hg (λ_ _=>rfl) (λb hb=>hs.heap.new b (by simp at hb;omega)) (gh _) ?_ ?_ hK
  .have hm:eP z.length [z.map V.d] = .aI z.length true [z]:=by simp[eP,fQ,ahb]
   rw[<-hm];exact Ur (h:=s.heap) (Ao w _) (by simp) (by simpa using Ai (h:=s.heap) hz) h1 (Am _ hs.heap hg (λ_ _=>rfl)) (hs.heap.new _ (gh _))
  .simp only[aK]
   refine⟨by simp,rfl,λes he=>?_⟩
   simp[Gh.add]
 .simp at h
theorem ahV(off:Nat):∀(l:List Value)(k:Nat)(C:Array Value),off+k+l.length<=C.size ->
  ((l.zipIdx k).foldl (λcs p=>cs.setIfInBounds (off+p.2) p.1) C).toList=C.toList.take (off+k)++l++C.toList.drop (off+k+l.length)
 | [],k,C,_=>by simp
 |v::l,k,C,h=>by
  simp only[ir]at h;rw[List.zipIdx_cons,KE,ahV off l (k+1) _ (by simp;omega)]
  have e:=list_seg_step C.toList (off+k) v l (by simp;omega)
  simpa[Array.toList_setIfInBounds,qF]using e
theorem ahW(off:Nat)(v:Value)(C:Array Value)(h:off+v.cells.size<=C.size):
  (v.cells.zipIdx.foldl (λcs p=>cs.setIfInBounds (off+p.2) p.1) C).toList=av C.toList off v.cells.toList:=by
 have:=ahV off v.cells.toList 0 C (by simpa using h)
 rw[<-Array.foldl_toList,Array.toList_zipIdx];simpa[av]using this
theorem ahX{h:List O}{cs:List V}{vs:List Value}(hr:bU φ h g w cs vs){o:Nat}{xs:List V}{us:List Value}(hx:bU φ h g w xs us):bU φ h g w (av cs o xs) (av vs o us):=by
 unfold av;rw[pz hx];exact sn (sn (Z4 hr o) hx) (I9 hr _)
theorem ahY{vs us:List Value}{o:Nat}(h1:∀v∈vs,v.oneCell'=true)(h2:∀v∈us,v.oneCell'=true):∀v∈av vs o us,v.oneCell'=true:=by
 intro v hv;simp only[av,dm]at hv;rcases hv with(hv |hv) |hv
 .exact h1 v (oa hv)
 .exact h2 v hv
 .exact h1 v (mV hv)
theorem Ut(hs:cj φ nt m dB s g a w){fs:Array Field}{place:Nat->Option (Nat×Nat)}(fN:∀i f n,fs[i]?=some f->jD P f.type n=true->place i=some (f.offset,n)):
  ∀{ps:List (Nat×Operand)}{qs:List (Nat×Nat×A)},Dy P φ fs ps qs=true->∀{cs cs':List V}{C:Array Value},fill cs (qs.map λp=>(p.1,p.2.1,s.get p.2.2))=some cs' ->
   bU φ s.heap g w cs C.toList->(∀v∈C.toList,v.oneCell'=true) ->
   ∃C',Instr.fill place C (ps.map λp=>(p.1,a.eval p.2))=some C'/\bU φ s.heap g w cs' C'.toList/\∀v∈C'.toList,v.oneCell'=true
 | [],[],_,cs,cs',C,hf,hr,h1=>by
  simp[fill]at hf;subst hf;exact⟨C,rfl,hr,h1⟩
 |(i,x)::ps,(oo,n,y)::qs,hc,cs,cs',C,hf,hr,h1=>by
  simp only[Dy,bD]at hc;obtain⟨⟨hfl,hx⟩,sj⟩:=hc;split at hfl
  .rename_i f BK
   simp only[bD,dO]at hfl;obtain⟨rfl,hsz⟩:=hfl;simp only[gm,fill]at hf;split at hf
   .rename_i eo
    obtain⟨hl,hle,hkn⟩:=eo;obtain⟨rc,r1⟩:=FI (fm hs hx) hkn;have hlen:=pz rc;have rY:=pz hr;simp at hlen rY;have hfit:f.offset+(a.eval x).cells.size<=C.size:=by omega
    have nR:=ahW f.offset (a.eval x) C hfit;obtain⟨C',sq,hr',h1'⟩:=Ut hs fN sj (C:=((a.eval x).cells.zipIdx.foldl (λcs p=>cs.setIfInBounds (f.offset+p.2) p.1) C)) hf
     (by rw[nR];exact ahX hr rc) (by rw[nR];exact ahY h1 r1)
    refine⟨C',?_,hr',h1'⟩;simp only[gm,Instr.fill,fN i f n BK hsz];have hno:¬((a.eval x).cells.size≠n||f.offset+(a.eval x).cells.size > C.size)=true:=by simp;omega
    rw[aG hno];exact sq
   .simp at hf
  .simp at hfl
 | [],_::_,hc,_,_,_,_,_,_=>by simp[Dy]at hc
 |_::_,[],hc,_,_,_,_,_,_=>by simp[Dy]at hc
end
end Go.VS
namespace Go.VS
section
variable {P:Program}{φ:fD}
variable {nt m dB:Nat}{s:St}{g:Gh}{a:Act}{w:World}{K:Act->World->Prop}{Q:Exit->Act->World->Prop}{o:Oper}
theorem ahZ{α β:Type}(f:α->Sem β)(g:α->β):∀(l:List α),(∀x∈l,(f x).run P w = .ok (g x) w)->(l.mapM f).run P w = .ok (l.map g) w
 | [],_=>by simp
 |x::l,h=>by
  have h1:=h x (by simp)
  have h2:=ahZ f g l λy hy=>h y (by simp[hy])
  simp[List.mapM_cons,h1,h2]
theorem ah0{α β:Type}(f:α->Sem β)(g:α->β)(l:Array α)(h:∀x∈l,(f x).run P w = .ok (g x) w):(l.mapM f).run P w = .ok (l.map g) w:=by
 have h1:=ahZ (P:=P) (w:=w) f g l.toList (λx hx=>h x (by simpa using hx))
 rw[Array.mapM_eq_mapM_toList];simp only[Sem.run_map,h1,Result.andThen_ok];congr 1;rw[<-Array.toList_map]
theorem ah1(hs:cj φ nt m dB s g a w){rec:Rec}{d:Nat}{z:List D}{ps:List (Nat×Nat×A)}(hc:cO P φ nt o (.build d z ps)=true)(hok:(aU rec (.build d z ps) s).ok=true)
  (hK:eU φ nt m dB s g w (aU rec (.build d z ps) s) o a K):o.wp P a w K Q:=by
 simp only[cO,bD]at hc;obtain⟨hd,h⟩:=hc;split at h
 .rename_i t qs ho
  simp only[bD]at h;obtain⟨hz,h⟩:=h;split at h
  .rename_i fs hfs
   simp only[bD]at h;obtain⟨hps,Jf⟩:=h;obtain⟨i,v,hi,hv,su,h1,_⟩:=DA (g:=g) (w:=w) hz;refine nk hs hd hok (λr hr=>?_) hK
   simp only[gI]at hr;obtain⟨cs,hcs,rfl⟩:=hr;have fN:∀(i:Nat)(f:Field)(n:Nat),fs[i]?=some f->jD P f.type n=true->(fs.map λf=>(f.offset,((P.info? f.type).map (·.size)).getD 0))[i]?=some (f.offset,n):=by
    intro i f n hf hn;unfold jD at hn;cases hq:P.info? f.type with
    |none=>simp[hq]at hn
    |some inf=>simp[hq]at hn;simp[hf,hq,hn]
   obtain⟨C',hC,fY,hone⟩:=Ut hs fN hps hcs (C:=v.cells) (Ai su) h1;have hm:(fs.mapM λf=>(do pure (f.offset,<-sizeOf f.type):Sem (Nat×Nat))).run P w = .ok (fs.map λf=>(f.offset,((P.info? f.type).map (·.size)).getD 0)) w :=
    ah0 _ _ fs λf hf=>by
     have:=Array.all_eq_true.1 Jf;obtain⟨k,hk,rfl⟩:=Array.mem_iff_getElem.1 hf;have hs:=this k hk;cases hq:P.info? fs[k].type with
     |none=>simp[hq]at hs
     |some inf=>simp[sizeOf,typeInfo,hq]
   refine⟨.agg C',?_,?_⟩
   .simp only[execOp,ho,Instr.build]
    simp only[Sem.run_bind,zeroValue,typeInfo,run_program,Result.andThen_ok,hi,hv,Sem.run_pure,run_underlying hfs,hm,hC,En]
   .unfold Cx
    split
    .rename_i ds hds
     simp only[aK,bT];exact⟨_,rfl,Aj hds fY,hone⟩
    .simp only[aK]
     exact⟨_,rfl,fY,hone⟩
  .rename_i len e hfs
   split at h
   .rename_i ie Oc
    obtain⟨i,v,hi,hv,su,h1,_⟩:=DA (g:=g) (w:=w) hz;refine nk hs hd hok (λr hr=>?_) hK
    simp only[gI]at hr;obtain⟨cs,hcs,rfl⟩:=hr;have fN:∀(i:Nat)(f:Field)(n:Nat),(Uj len ie.size e)[i]?=some f->jD P f.type n=true->(λi=>some (i*ie.size,ie.size)) i=some (f.offset,n):=by
     intro i f n hf hn;unfold Uj at hf;simp only[Cs,vP,gI]at hf;obtain⟨j,hj,rfl⟩:=hf;have hj':j=i:=by
      obtain⟨h1,h2⟩:=sF.1 hj;rw[XA]at h2;exact h2.symm
     subst hj';unfold jD at hn;simp[Oc]at hn;simp[hn]
    obtain⟨C',hC,fY,hone⟩:=Ut hs fN h hcs (C:=v.cells) (Ai su) h1;refine⟨.agg C',?_,?_⟩
    .simp only[execOp,ho,Instr.build]
     have hse:(sizeOf e).run P w = .ok ie.size w:=by simp[sizeOf,typeInfo,Oc]
     simp only[Sem.run_bind,zeroValue,typeInfo,run_program,Result.andThen_ok,hi,hv,Sem.run_pure,run_underlying hfs,hse,hC,En]
    .unfold Cx
     split
     .rename_i ds hds
      simp only[aK,bT];exact⟨_,rfl,Aj hds fY,hone⟩
     .simp only[aK]
      exact⟨_,rfl,fY,hone⟩
   .simp at h
  .simp at h
 .simp at h
theorem Jg(n es:Nat)(Z:Array Value)(hz:Z.size=es)(hp:0<es):((Array.range (n*es)).map (λi=>Z[i % Z.size]!)).toList=(List.replicate n Z.toList).flatten:=by
 apply List.ext_getElem?;intro i;have hfl:(List.replicate n Z.toList).flatten.length=es*n:=by
  rw[yB (es:=es)]
  .simp
  .intro r hr;simp at hr;rw[hr.2];simpa using hz
 by_cases hi:i<n*es
 .have hdiv:i / es<n:=Nat.div_lt_of_lt_mul (by rwa [jt])
  have hmod:i % es<es:=Nat.mod_lt _ hp;have hlt:i % es<Z.size:=by omega
  have hr:=FN (rows:=List.replicate n Z.toList) (es:=es) (by intro r hr;simp at hr;rw[hr.2];simpa using hz) (r:=i / es) (row:=Z.toList) (j:=i % es) (c:=Z[i % es]) (by simp[hdiv]) (by simp[hlt])
  rw[Nat.div_add_mod' i es]at hr;rw[hr];have hb:Z[i % es]! = Z[i % es]:=getElem!_pos Z (i % es) hlt;simp[hi,hz,hb]
 .rw[oc (by simp;omega),oc (by rw[hfl,jt];omega)]
theorem ah2{α:Type}{es:Nat}:∀{rows:List (List α)}{i:Nat}{r:List α},(∀x∈rows,x.length=es)->i<rows.length->r.length=es->(rows.set i r).flatten=av rows.flatten (i*es) r
 | [],i,r,_,hi,_=>by simp at hi
 |x::xs,0,r,hl,_,hr=>by
  have hx:x.length=es:=hl x (by simp)
  simp only[List.set_cons_zero,zh,av,Nat.zero_mul,List.take_zero,mX,oh];rw[hr,<-hx,List.drop_left]
 |x::xs,i+1,r,hl,hi,hr=>by
  have hx:x.length=es:=hl x (by simp)
  have ih:=ah2 (rows:=xs) (i:=i) (r:=r) (λy hy=>hl y (by simp[hy])) (by simpa using hi) hr
  simp only[List.set_cons_succ,zh,ih,av];rw[rM];have e1:(x++xs.flatten).take (i*es+es)=x++xs.flatten.take (i*es):=by
   rw[Hl,gD (by omega)];congr 2;omega
  have e2:(x++xs.flatten).drop (i*es+es+r.length)=xs.flatten.drop (i*es+r.length):=by
   rw[List.drop_append,List.drop_of_length_le (by omega),mX];congr 1;omega
  rw[e1,e2];simp[tw]
theorem ah3(hs:cj φ nt m dB s g a w){es n:Nat}:
  ∀{ps:List (Nat×Operand)}{qs:List (Nat×A)},FJ φ ps qs=true->∀{rows iH:List (List V)}{C:Array Value},xU rows es (qs.map λp=>(p.1,s.get p.2))=some iH ->
   (∀r∈rows,r.length=es)->rows.length=n->bU φ s.heap g w rows.flatten C.toList->(∀v∈C.toList,v.oneCell'=true) ->
   ∃C',Instr.fill (λi=>some (i*es,es)) C (ps.map λp=>(p.1,a.eval p.2))=some C'/\bU φ s.heap g w iH.flatten C'.toList/\(∀v∈C'.toList,v.oneCell'=true)/\(∀r∈iH,r.length=es)/\iH.length=n
 | [],[],_,rows,iH,C,hf,hl,hn,hr,h1=>by
  simp[xU]at hf;subst hf;exact⟨C,rfl,hr,h1,hl,hn⟩
 |(i,x)::ps,(j,y)::qs,hc,rows,iH,C,hf,hl,hn,hr,h1=>by
  simp only[FJ,bD,dO]at hc;obtain⟨⟨rfl,hx⟩,sj⟩:=hc;simp only[gm,xU]at hf;split at hf
  .rename_i eo
   obtain⟨hlen,hi,hkn⟩:=eo;obtain⟨rc,r1⟩:=FI (fm hs hx) hkn;have ql:=pz rc;have k8:=pz hr;rw[yB hl]at k8;simp at ql k8;have hfit:i*es+(a.eval x).cells.size<=C.size:=by
    have:(i+1)*es<=es*rows.length:=by rw[jt es];exact l7 es hi
    rw[rM]at this;omega
   have nR:=ahW (i*es) (a.eval x) C hfit;obtain⟨C',sq,h2,h3,h4,h5⟩:=ah3 hs sj (n:=n) (C:=((a.eval x).cells.zipIdx.foldl (λcs p=>cs.setIfInBounds (i*es+p.2) p.1) C)) hf
    (λr hr'=>by
     rcases KA hr' with h |h
     .exact hl r h
     .rw[h];exact hlen) (by simpa using hn)
    (by rw[nR,ah2 hl hi hlen];exact ahX hr rc) (by rw[nR];exact ahY h1 r1)
   refine⟨C',?_,h2,h3,h4,h5⟩;simp only[gm,Instr.fill];have hno:¬((a.eval x).cells.size≠es||i*es+(a.eval x).cells.size > C.size)=true:=by simp;omega
   rw[aG hno];exact sq
  .simp at hf
 | [],_::_,hc,_,_,_,_,_,_,_,_=>by simp[FJ]at hc
 |_::_,[],hc,_,_,_,_,_,_,_,_=>by simp[FJ]at hc
theorem ah4(hs:cj φ nt m dB s g a w){rec:Rec}{d es n:Nat}{z:List D}{ps:List (Nat×A)}{fz:Bool}(hc:cO P φ nt o (.mZ d es n z ps fz)=true)(hok:(aU rec (.mZ d es n z ps fz) s).ok=true)
  (hK:eU φ nt m dB s g w (aU rec (.mZ d es n z ps fz) s) o a K):o.wp P a w K Q:=by
 simp only[cO,bD]at hc;obtain⟨hd,h⟩:=hc;split at h
 .rename_i t k qs ho
  simp only[bD,gf,dO]at h;obtain⟨⟨⟨rfl,hsmall⟩,hpos⟩,h⟩:=h;split at h
  .rename_i e hu
   simp only[bD,dO]at h;obtain⟨⟨hz,hzl⟩,hps⟩:=h;obtain⟨i,v,hi,hv,su,h1,hsz⟩:=DA (g:=g) (w:=w) hz;have hzs:v.cells.size=es:=by have:=sW su;simp at this;omega
   have sv:∃rows,xU (List.replicate k (z.map V.d)) es (ps.map λp=>(p.1,s.get p.2))=some rows:=by
    cases hq:xU (List.replicate k (z.map V.d)) es (ps.map λp=>(p.1,s.get p.2))with
    |some rows=>exact⟨rows,rfl⟩
    |none=>simp only[aU,hq]at hok;cases fz<;>simp[St.fu,St.gi,St.fail]at hok
   obtain⟨rows,sv⟩:=sv;have hstart:bU φ s.heap g w (List.replicate k (z.map V.d)).flatten ((Array.range (k*es)).map (λi=>v.cells[i % v.cells.size]!)).toList:=by
    rw[Jg k es v.cells hzs hpos];clear hsmall hps sv hK hok ho;induction k with
    |zero=>simp[bU]
    |succ k ih=>simp only[Qk,zh];exact sn (Ai su) ih
   have hone:∀x∈((Array.range (k*es)).map (λi=>v.cells[i % v.cells.size]!)).toList,x.oneCell'=true:=by
    rw[Jg k es v.cells hzs hpos];intro x hx;simp only[List.mem_flatten,Ho]at hx;obtain⟨l,⟨_,rfl⟩,hx⟩:=hx;exact h1 x hx
   obtain⟨C',hC,fY,Uu,hrl,FQ⟩:=ah3 hs (n:=k) hps sv (by intro r hr;simp at hr;rw[hr.2];simpa using hzl) (by simp) hstart hone
   have hrun:(execOp a.eval o).run P w = .ok (.value (.slice (some ⟨w.heap.size,0,none⟩) k k)) (w.alloc (.cells C' e)):=by
    have hsz':i.size=es:=by rw[hsz];exact hzl
    simp only[execOp,ho,Instr.buildSlice];have hle:¬(k*es > 2 ^ 24):=by omega
    simp only[Sem.run_bind,run_underlying hu,Result.andThen_ok,sizeOf,typeInfo,run_program,hi,Sem.run_pure,hsz',Sem.run_ite];rw[aG hle];by_cases qv:k*es=0
    .have hk:k=0:=by
      rcases Nat.mul_eq_zero.1 qv with h |h
      .exact h
      .omega
     subst hk;simp only[Nat.zero_mul,dH];have e0:((Array.range 0).map (λi=>(#[]:Array Value)[i % (#[]:Array Value).size]!))=((Array.range (0*es)).map (λi=>v.cells[i % v.cells.size]!)):=by simp
     rw[e0,En,hC];simp[newRow]
    .rw[aG qv]
     simp only[Sem.run_bind,zeroValue,typeInfo,run_program,Result.andThen_ok,hi,hv,Sem.run_pure];rw[En,hC];simp[newRow]
   have hlen:=pz fY;rw[yB hrl,FQ]at hlen;simp at hlen;have hg:=gO.alloc w (.cells C' e);simp only[aU,sv]at hok hK;cases fz with
   |true =>
    simp only[dH]at hok hK;obtain⟨r,hr⟩:=N9 hok;rw[hr]at hK;simp only[uB,gI]at hr;obtain⟨ds,hds,rfl⟩:=hr;have he:=FO hds;have ah5:ds.length=k:=by rw[he]at FQ;simpa using FQ
    refine ahj hs hd (I':=iW g.I w.heap.size C'.size) hrun hg (λb hb=>FP hb) (Us hs.heap.new _) ?_ hK
    simp only[aK,bT,Gh.ez];refine⟨some ⟨w.heap.size,0,none⟩,k,by rw[ah5],by omega,by simp,λ_=>⟨_,rfl,λ_=>⟨rfl,by simp[iW];rw[ah5];omega,?_⟩⟩⟩
    simp only;refine vk λr row hrow=>?_
    have pI:rows[r]?=some (row.map V.d):=by rw[he];simp[hrow]
    have Uv:row.length=es:=by have:=hrl _ (lE pI);simpa using this
    refine⟨Uv,wD λj c hj=>?_⟩
    have hf:=FN hrl pI (j:=j) (c:=.d c) (by simp[hj])
    obtain⟨u,oD,hd'⟩:=Ds fY hf;refine⟨u,?_,Uu u (lE oD),yw (Du hg (λb hb=>FP hb) hs.heap.new) (by simpa only[aK]using hd')⟩
    simp only[World.cell?,Ao,oh];simpa using oD
   |false =>
    simp only[fG,dK,tA,St.gi]at hok hK;refine Je hs hd (b:=w.heap.size) (off:=0) (I':=g.I) hrun hg (λ_ _=>rfl) (λb hb=>hs.heap.new b (by simp at hb;omega)) (gh _) ?_ ?_ hK
    .exact Ur (h:=s.heap) (Ao w _) hrl fY Uu (Am _ hs.heap hg (λ_ _=>rfl)) (hs.heap.new _ (gh _))
    .simp only[aK]
     refine⟨by simp,rfl,λes' he'=>⟨k,by simp[Gh.add],gh _,?_,C',e,by have:=Ao w (.cells C' e);simpa only[Gh.add,dH]using this,?_⟩⟩
     .rw[Dw]
      unfold eP;split
      .rename_i ds hds
       have he:=FO hds
       have:ds.length=k:=by rw[he]at FQ;simpa using FQ
       simp[O.len,this]
      .simp[O.len,FQ]
     .have:es'=es:=by
       rw[Dw]at he';unfold eP at he';split at he'<;>simp[O.gN]at he'<;>exact he'.symm
      subst this;refine⟨?_,Uu⟩;simp[Gh.add];rw[jt];omega
  .simp at h
 .simp at h
end
end Go.VS
namespace Go.VS
section
variable {P:Program}{φ:fD}
variable {nt m dB:Nat}{s:St}{g:Gh}{a:Act}{w:World}{K:Act->World->Prop}{Q:Exit->Act->World->Prop}{o:Oper}
theorem DB{α:Type}{cs new:List α}{o:Nat}(h:o+new.length<=cs.length)(i:Nat):
  (av cs o new)[i]?=if i<o then cs[i]? else if i<o+new.length then new[i - o]? else cs[i]?:=by
 unfold av;have ht:(cs.take o).length=o:=by simp;omega
 by_cases h1:i<o
 .rw[aN h1,tw,th (by omega),zf,aN h1]
 .rw[aG h1,tw,AP (by omega),ht]
  by_cases h2:i<o+new.length
  .rw[aN h2,th (by omega)]
  .rw[aG h2,AP (by omega),pX]
   congr 1;omega
theorem BL{α:Type}{cs new:List α}{o:Nat}(h:o+new.length<=cs.length):(av cs o new).length=cs.length:=by
 unfold av;simp;omega
theorem yx.BM{CS:Array Value}(h:yx CS){p:Nat}{us:List Value}(h1:∀u∈us,u.oneCell'=true):yx (av CS.toList p us).toArray:=λx hx=>by
 simp only[av,dm]at hx;rcases hx with(hx |hx) |hx
 .exact h x (oa hx)
 .exact h1 x hx
 .exact h x (mV hx)
theorem ah6{α β:Type}(f:α->β)(cs new:List α)(o:Nat):(av cs o new).map f=av (cs.map f) o (new.map f):=by
 simp[av]
theorem Od{b:Nat}{cur cs:Array Value}{T:TypeId}(hg:w.heap[b]?=some (.cells cur T (0,0))):jY w (w.setRow b cs) b/\(w.setRow b cs).heap[b]?=some (.cells cs T (0,0)):=by
 refine⟨⟨size_setRow w b cs,λk hk=>?_,rfl,rfl,rfl⟩,setRow_heap w b cur cs T (0,0) hg⟩
 simp only[World.setRow,Array.getElem?_modify];rw[aG (by omega)]
theorem ah7{t:TypeId}{n:Nat}(hsz:jD P t n=true){b off:Nat}{cur:Array Value}{T:TypeId}(hg:w.heap[b]?=some (.cells cur T (0,0))){v:Value}(hv:v.cells.size=n)
  (hfit:off+n<=cur.size)(h1:∀x∈v.cells.toList,x.oneCell'=true):
  ∃w',(Instr.storeAt t (.pointer (some ⟨b,off,none⟩)) v).run P w = .ok () w'/\jY w w' b/\w'.heap[b]?=some (.cells (av cur.toList off v.cells.toList).toArray T (0,0)):=by
 have h2:=wS (P:=P) (w:=w) hsz;have h3:=run_storeCells_at P b off T v.cells.toList 0 cur w hg (by simp;omega) h1
 obtain⟨h4,h5⟩:=Od (cs:=(av cur.toList off v.cells.toList).toArray) hg;refine⟨w.setRow b (av cur.toList off v.cells.toList).toArray,?_,h4,h5⟩;simp only[Hj]at h3;simp only[Instr.storeAt,Instr.sureAddr,Sem.run_bind,Sem.run_pure,Result.andThen_ok,storeVar,h2,hv];simp[h3,av]
theorem ah8{h:List O}{b es off:Nat}{rows:List (List D)}(hr:jM φ g.I w b es off rows):wE φ h g w b es off (rows.map λr=>r.map V.d):=by
 intro r row hrow;simp only[vP,gI]at hrow;obtain⟨x,hx,rfl⟩:=hrow;obtain⟨h1,h2⟩:=oB hr hx;refine⟨by simpa using h1,λj c hj=>?_⟩
 simp only[vP,gI]at hj;obtain⟨y,hy,rfl⟩:=hj;obtain⟨v,h3,h4,h5⟩:=FG h2 hy;exact⟨v,h3,h4,by simpa only[aK]using h5⟩
theorem ah9{h:List O}{b es off:Nat}{rows:List (List D)}(hr:wE φ h g w b es off (rows.map λr=>r.map V.d)):jM φ g.I w b es off rows :=
 vk λr row hrow=>by
  obtain⟨h1,h2⟩:=hr r (row.map V.d) (by simp[hrow])
  refine⟨by simpa using h1,wD λj c hj=>?_⟩
  obtain⟨v,h3,h4,h5⟩:=h2 j (.d c) (by simp[hj])
  exact⟨v,h3,h4,by simpa only[aK]using h5⟩
theorem aia{h h':List O}{g':Gh}{w':World}{b es off:Nat}{rows:List (List V)}(hle:gT h g w h' g' w')(hr:wE φ h g w b es off rows)
  {cur:Array Value}{T:TypeId}(hg:w.heap[b]?=some (.cells cur T (0,0))){r c:Nat}{row xs:List V}{us:List Value}(hrow:rows[r]?=some row)(hc:c+xs.length<=row.length)
  (hx:bU φ h g w xs us)(h1:∀u∈us,u.oneCell'=true)(hfit:off+es*rows.length<=cur.size)
  (hw':w'.heap[b]?=some (.cells (av cur.toList (off+r*es+c) us).toArray T (0,0))):wE φ h' g' w' b es off (rows.set r (av row c xs)):=by
 have Uw:=pz hx;have hrl:row.length=es:=(hr r row hrow).1;have FR:r<rows.length:=by
  rcases lG r rows.length with h2 |h2
  .exact h2
  .simp[oc h2]at hrow
 have hin:(r+1)*es<=es*rows.length:=by rw[jt es];exact l7 es FR
 rw[rM]at hin;have nR:off+r*es+c+us.length<=cur.toList.length:=by simp;omega
 have cell:∀i,w'.cell? ⟨b,i,none⟩=if i<off+r*es+c then w.cell? ⟨b,i,none⟩else if i<off+r*es+c+us.length then us[i - (off+r*es+c)]? else w.cell? ⟨b,i,none⟩:=by
  intro i;have:=DB nR i;simp only[World.cell?,hw',hg,Cs];simpa using this
 have old:∀i x,¬(off+r*es+c<=i/\i<off+r*es+c+us.length)->w.cell? ⟨b,i,none⟩=some x->w'.cell? ⟨b,i,none⟩=some x:=by
  intro i x hi hx;rw[cell];split
  .exact hx
  .rw[aG (by omega)];exact hx
 intro r' row' pI;by_cases dZ:r'=r
 .subst dZ
  rw[List.getElem?_set_self FR]at pI;simp at pI;subst pI;refine⟨by rw[BL hc];exact hrl,λj y hj=>?_⟩
  rw[DB hc]at hj;have keep:row[j]?=some y->¬(c<=j/\j<c+xs.length)->∃x,w'.cell? ⟨b,off+r'*es+j,none⟩=some x/\x.oneCell'=true/\aK φ h' g' w' y x:=by
   intro hj hn;obtain⟨x,h2,h3,h4⟩:=(hr r' row hrow).2 j y hj;exact⟨x,old _ _ (by omega) h2,h3,lU hle h4⟩
  split at hj
  .exact keep hj (by omega)
  .split at hj
   .rename_i h2 h3
    obtain⟨u,hu,hru⟩:=Ds hx hj;refine⟨u,?_,h1 u (lE hu),lU hle hru⟩;rw[cell,aG (by omega),aN (by omega)]
    rw[<-hu];congr 1;omega
   .exact keep hj (by omega)
 .rw[List.getElem?_set_ne (Ne.symm dZ)]at pI
  refine⟨(hr r' row' pI).1,λj y hj=>?_⟩
  obtain⟨x,h2,h3,h4⟩:=(hr r' row' pI).2 j y hj;have hjl:j<es:=by
   have:=(hr r' row' pI).1;rcases lG j row'.length with h5 |h5
   .omega
   .simp[oc h5]at hj
  refine⟨x,old _ _ ?_ h2,h3,lU hle h4⟩;intro aib;rcases Nat.lt_or_gt_of_ne dZ with h5 |h5
  .have:(r'+1)*es<=r*es:=l7 es h5
   rw[rM]at this;omega
  .have:(r+1)*es<=r'*es:=l7 es h5
   rw[rM]at this;omega
end
end Go.VS
