import GoSem.Step
import Derived.WalkKit
set_option linter.all false
set_option maxHeartbeats 1000000
namespace Go.VS
def aK:=@if_pos
def dF:=@if_true
def dI:=@if_false
def aD:=@if_neg
def bJ:=@Bool.and_eq_true
def BS:=@Classical.choose_spec
def Ai:=@Bool.true_and
def Aj:=@Bool.false_and
def eI:=@Bool.false_eq_true
def vo:=@List.map_congr_left
def sQ:=@List.getElem?_append_left
def Ak:=@List.eq_nil_or_concat
def gC:=@List.take_of_length_le
def qP:=@List.drop_eq_nil_of_le
def xw:=@List.findIdx?_cons
def JN:=@List.findIdx?_eq_none_iff
def qQ:=@List.any_eq_false
def Gr:=@List.findIdx?_eq_some_iff_getElem
def rV:=@List.any_eq_true
def vq:=@List.getElem_mem
def xx:=@List.all_cons
def Wq:=@List.getLast?_append
def Wr:=@List.getLast?_singleton
def Gs:=@Bool.or_false
def Pb:=@Bool.or_true
def Gt:=@List.concat_eq_append
def lT:=@List.length_append
def uk:=@List.length_singleton
def Pc:=@Option.any_some
def Ws:=@List.findIdx?_append
def dA:=@List.mem_cons
def um:=@Bool.eq_iff_iff
def xy:=@List.length_eq_zero_iff
def oy:=@List.takeWhile_cons
def gH:=@List.pairwise_cons
def kU:=@List.mem_of_getElem?
def Pd:=@Int.fdiv_eq_ediv_of_nonneg
def qR:=@List.getElem?_eq_getElem
def yG:=@Option.some.inj
def Wt:=@List.getElem?_cons_succ
def Pe:=@List.filter_eq_self
def Al:=@List.take_append_drop
def dj:=@List.mem_append
def kX:=@Bool.not_eq_true'
def BT:=@Bool.or_eq_false_iff
def Wu:=@Bool.not_eq_false'
def yH:=@List.mem_cons_of_mem
def gV:=@List.mem_map
def Pf:=@List.mem_map_of_mem
def fZ:=@decide_eq_true_eq
def ku:=@decide_eq_false_iff_not
def Wv:=@Int.tdiv_eq_ediv_of_nonneg
def Gu:=@Int.mul_nonneg
def Gv:=@List.length_eq_one_iff
def uo:=@List.take_left'
def rW:=@List.getElem?_eq_some_iff
def Ww:=@List.drop_eq_getElem_cons
def BU:=@List.map_take
def BV:=@List.map_drop
def an:=@List.idxOf_cons
def yI:=@List.length_map
def cz:=@Nat.not_succ_le_self
def vu:=@List.getElem?_map
def kY:=@List.map_map
def nN:=@List.mem_of_mem_take
def mO:=@List.mem_of_mem_drop
def DY:=@List.drop_left'
def DZ:=@List.mem_append_left
def Gw:=@List.mem_append_right
def dN:=@beq_iff_eq
def JO:=@List.isEmpty_iff
def rX:=@List.length_pos_iff
def Wx:=@List.Pairwise.sublist
def BW:=@List.filter_sublist
def pg:=@List.mem_filter
def yJ:=@List.mem_singleton
def Pg:=@decide_eq_true
def Gx:=@List.Sublist.append
def Am:=@List.Sublist.refl
def Gy:=@List.sublist_cons_self
def iy:=@List.length_cons
def JP:=@List.all_append
def vw:=@List.length_filter_le
def JQ:=@List.mem_or_eq_of_mem_set
def uq:=@Option.bind_some
def gk:=@List.map_cons
def gn:=@List.map_nil
def gf:=@Nat.le_refl
def nh:=@Nat.le_trans
def pz:=@Nat.lt_of_lt_of_le
def Gz:=@Nat.mul_add
def Ph:=@Nat.mul_one
def pE:=@Nat.add_assoc
def qT:=@Nat.add_comm
def qU:=@Nat.succ_mul
def kZ:=@Nat.lt_or_ge
def nO:=@List.getElem?_eq_none
def JR:=@Array.getElem?_eq_none
def BX:=@Nat.zero_le
def sR:=@Nat.lt_trichotomy
def GA:=@Array.getElem?_setIfInBounds_ne
def JS:=@Int.not_lt
def Wy:=@List.head?_eq_getElem?
def GB:=@Nat.add_zero
def yK:=@List.getElem?_take
def sS:=@List.getElem_of_mem
def pF:=@List.getElem?_drop
def gw:=@Option.some.injEq
def Pj:=@Option.ite_none_right_eq_some
def JT:=@bne_iff_ne
def nP:=@Option.bind_eq_some_iff
def gI:=@Option.map_eq_some_iff
def D0:=@List.drop_drop
def Pk:=@List.replicate_succ
def BY:=@Bool.or_eq_true
def jg:=@Nat.mul_comm
def lU:=@Nat.mul_le_mul_right
def ni:=@Nat.add_mul
def yL:=@List.flatten_cons
def An:=@List.getElem?_append_right
def Pm:=@Nat.mul_succ
def nQ:=@Nat.zero_add
def JU:=@List.foldl_cons
def D1:=@Array.toList_map
def BZ:=@List.getElem?_toArray
def Wz:=@List.getElem_range
def mu:=@List.nil_append
def GC:=@List.take_append
def Pn:=@List.drop_append
def sU:=@List.append_assoc
def GD:=@List.mem_replicate
def sV:=@Option.map_some
def ur:=@Prod.mk.injEq
def k9:=@List.length_nil
def Po:=@Nat.add_sub_cancel_left
def vA:=@List.eq_nil_of_length_eq_zero
def Pp:=@Nat.mul_le_mul_left
def JV:=@Nat.mul_le_mul
def Pq:=@Array.ext'
def JW:=@List.mem_range
def WA:=@Nat.eq_zero_or_pos
def Pr:=@List.take_succ_cons
def WB:=@List.drop_succ_cons
def D2:=@List.flatten_append
def yM:=@List.all_eq_true
def xz:=@List.idxOf_lt_length_of_mem
def Ao:=@List.mem_flatMap
def Pt:=@List.Nodup.idxOf_getElem
def nj:=@not_or
def D3:=@List.nodup_cons
def vB:=@Option.getD_some
def JX:=@Nat.min_eq_left
def Pu:=@List.mem_of_find?_eq_some
def GF:=@List.find?_some
def sW:=@List.cons_append
def Pw:=@Bool.and_true
def Px:=@Option.isSome_iff_exists
def JY:=@List.zip_cons_cons
def Py:=@beq_self_eq_true
def JZ:=@List.getElem?_set
def WC:=@Array.toArray_toList
def WD:=@List.contains_eq_mem
def Ap:=@Array.getD_eq_getD_getElem?
def Pz:=@List.flatMap_cons
def bt:=@List.range_succ
def nk:=@List.append_nil
def yN:=@and_true
def WE:=@Array.mem_toList_iff
def vC:=@Classical.byContradiction
def D4:=@Array.getElem?_eq_some_iff
def Aq:=@Option.isSome_none
def PA:=@List.length_range
def Ar:=@List.take_take
def B0:=@List.take_append_of_le_length
def J0:=@Nat.min_self
def PB:=@List.length_drop
def PC:=@Int.toNat_natCast
def WG:=@List.length_replicate
def WH:=@List.getElem_replicate
def B1:=@List.map_eq_nil_iff
def vD:=@List.map_append
def PD:=@Bool.not_false
def vE:=@List.singleton_append
def WI:=@List.filter_append
def oz:=@List.pairwise_append
def PE:=@Int.le_of_lt
def WJ:=@List.dropWhile_cons
def WK:=@List.pairwise_singleton
def PF:=@List.takeWhile_append_dropWhile
def WL:=@List.head?_dropWhile_not
def D5:=@List.eraseIdx_append_of_length_le
def WM:=@List.takeWhile_sublist
def WN:=@List.eraseIdx_sublist
def J1:=@not_true
def GG:=@List.pairwise_map
def PG:=@List.all_nil
def PI:=@Bool.and_self
def J2:=@List.find?_eq_none
def oA:=@Eq.trans
def WO:=@List.map_singleton
def J3:=@List.append_of_mem
def J4:=@bne_eq_false_iff_eq
def WR:=@List.mem_iff_getElem?
def PJ:=@List.dropWhile_sublist
def J5:=@List.append_inj'
def J6:=@and_congr
def GH:=@Option.isSome_some
inductive D where
 |b(x:Bool)
 |i(k:IntKind)(n:Int)
 |s(x:List UInt8)
 |nil
 |ref(cs:List D)
 |sl(es:Nat)(nl:Bool)(xs:List (List D))
 |fn(f:Nat)(first caps:List D)
 |cN
 |lW(t:Nat)(x:D)
 |B3
 |uu
 |ag(cs:List D)
 |B4
 deriving Inhabited
inductive V where
 |u
 |kA
 |d(x:D)
 |loc(n r c:Nat)
 |aR(n off len:Nat)
 |jc(n off len:Nat)
 |iO(es:Nat)
 |mp(n:Nat)
 |fn(f:Nat)(first caps:List V)
 |ag(cs:List V)
 |tu(vs:List V)
 |jh(n:Nat)
 |rf(cs:List V)
 deriving Inhabited
inductive A where
 |t(n:Nat)
 |k(x:D)
inductive CK where
 |b |i |s
 deriving DecidableEq
inductive LK where
 |sl |s |mp
 deriving DecidableEq
inductive NK where
 |sl |mp |fn |pt |lW
 deriving DecidableEq
inductive I where
 |mv(d:Nat)(x:A)
 |pick(d:Nat)(c a b:A)
 |box(d:Nat)(x:A)(n:Nat)(fz:Bool)
 |new(d:Nat)(z:List D)
 |build(d:Nat)(z:List D)(ps:List (Nat×Nat×A))
 |lf(d:Nat)(es n:Nat)(z:List D)(ps:List (Nat×A))(fz:Bool)
 |ld(d:Nat)(x:A)(n:Nat)(ag:Bool)
 |st(x y:A)(n:Nat)(fz:Bool)
 |fa(d:Nat)(x:A)(o n:Nat)
 |ji(d:Nat)(x i:A)(es:Nat)
 |oB(d:Nat)(x i:A)(len es:Nat)
 |rY(d:Nat)(x:A)(o n:Nat)(ag:Bool)
 |bin(d:Nat)(op:BinOp)(x y:A)
 |eqv(d:Nat)(neg:Bool)(x y:A)(ks:List CK)
 |rZ(d:Nat)(neg:Bool)(x y:A)
 |qo(d:Nat)(neg:Bool)(x:A)(k:NK)
 |un(d:Nat)(op:UnOp)(x:A)
 |kB(d:Nat)(k:IntKind)(x:A)
 |len(d:Nat)(x:A)(k:LK)
 |sl(d:Nat)(x:A)(lo hi:Option A)(es:Nat)
 |app(d:Nat)(x y:A)(es:Nat)
 |qp(d:Option Nat)(x:A)(es:Nat)(z:List D)
 |copy(d:Option Nat)(x y:A)(es:Nat)
 |ext(d:Nat)(x:A)(i:Nat)
 |gY(d:Nat)(f:Nat)(first caps:List A)
 |mw(d:Nat)
 |fA(m k v:A)(ks:List CK)
 |pG(d:Nat)(m k:A)(z:D)(ok:Bool)(ks:List CK)
 |call(d:Option Nat)(f:Nat)(xs:List A)
 |mP(d:Option Nat)(f:Nat)(xs:List A)
 |jd(d:Option Nat)(f:Nat)(xs:List A)
 |nR(d:Option Nat)(x:A)(xs:List A)
 |pI(d:Option Nat)(x:A)(xs:List A)
 |sX(d:Nat)(x:A)
 |qW(d:Nat)(x lo hi mx:A)(es:Nat)
 |cap(d:Nat)(x:A)
 |qX(d:Nat)(x k:A)(es:Nat)(z:List D)
 |sle(d:Nat)(x:A)(lo hi:Option A)(es:Nat)
 |qY(d:Nat)(f:Nat)(x y:A)(es:Nat)
 |bad(d:Option Nat)
 |sj(d:Nat)(x:A)(n:Nat)(ag:Bool)
 |pJ(d:Nat)(x:A)(o n:Nat)
 |pK(d:Option Nat)(x:A)(xs:List A)
 |sk(d:Nat)(x y:A)(es:Nat)
 |nq(d:Nat)(f:Nat)(xs:List A)
 |calls(d:Option Nat)(f:Nat)(xs:List A)
 |nr(d t:Nat)(x:A)
 |inv(d:Option Nat)(nm:String)(j4:List (Nat×Nat×Nat))(x:A)(xs:List A)
 |mx(d:Nat)(x y:A)
 |vF(d es:Nat)(z:List D)(n k:A)
inductive J where
 |op(i:I)
 |sc(fE:Bool)(d c:Nat)(body:List J)(x:A)
 |re(i:I)
inductive C where
 |skip
 |cr(js:List J)
 |lX(fl perm:List Nat)(js:List J)
 |seq(a b:C)
 |ite(c:A)(a b:C)
 |bV(id:Nat)(c:C)
 |loop(live:List Nat)(c:C)
 |exit(id:Nat)
 |ret
 |oC(ds:List Nat)
 |keep(ds:List Nat)
 |sn(x:A)(live:List Nat)(ps:List Nat)(a b:C)
 |xA(d k:Nat)
inductive RV where
 |t(n:Nat)
 |c(n cells:Nat)(ag:Bool)
inductive Ex where
 |normal
 |exit(id:Nat)
 |ret
 deriving DecidableEq
inductive O where
 |aG(es:Nat)(ex:Bool)(rows:List (List D))
 |gJ(es:Nat)(rows:List (List V))
 |mp(kv:List (D×V))
 |lp(ps:List Nat)(a b:C)(e:Ex)(env:List (Nat×V))
 |dead
 deriving Inhabited
structure St where
 env:List (Nat×V)
 heap:List O
 ok:Bool
inductive yO where
 |call(f:Nat)(xs:List V)(h:List O)
 |loop(m:Nat)(live:List Nat)(c:C)(env:List (Nat×V))(h:List O)
 |round(ps:List Nat)(a b:C)(xs:List V)(env:List (Nat×V))(h:List O)
inductive ej where
 |val(v:V)(h:List O)
 |out(e:Ex)(env:List (Nat×V))(h:List O)
structure F where
 code:C
 res:List RV
 keep:Bool:=false
 As:Option (List V->List O->Option (V×List O)):=none
def cA:List (Nat×V)->Nat->V
 | [],_=>.u
 |(k,v)::r,n=>if k=n then v else cA r n
def St.get(s:St):A->V
 | .t n=>cA s.env n
 | .k x=>.d x
def St.put(s:St)(d:Nat)(v:V):St:=⟨(d,v)::s.env,s.heap,s.ok⟩
def St.fail(s:St):St:=⟨s.env,s.heap,false⟩
def St.eJ(s:St)(d:Nat):Option V->St
 |some v=>s.put d v
 |none=>s.fail
def St.gh(s:St)(d:Nat):Option (V×List O)->St
 |some (v,h)=>⟨(d,v)::s.env,h,s.ok⟩
 |none=>s.fail
def St.lq(s:St)(d:Option Nat):Option (V×List O)->St
 |some (v,h)=>match d with
  |some d=>⟨(d,v)::s.env,h,s.ok⟩
  |none=>⟨s.env,h,s.ok⟩
 |none=>s.fail
def St.so(s:St):Option (List O)->St
 |some h=>⟨s.env,h,s.ok⟩
 |none=>s.fail
def aV(h:List O)(n:Nat):O:=h.getD n .dead
def O.row(o:O)(r:Nat):Option (List V):=
 match o with
 | .aG _ _ rows=>(rows[r]?).map λcs=>cs.map .d
 | .gJ _ rows=>rows[r]?
 |_=>none
def fu:List V->Option (List D)
 | []=>some []
 | .d x::r=>(fu r).map (x::·)
 |_::_=>none
def V.cells:V->List V
 | .d (.ag cs)=>cs.map .d
 | .ag cs=>cs
 |v=>[v]
def V.known:V->Bool
 | .u | .kA | .tu _ | .d .B4=>false
 |_=>true
def B5(cs:List V):V :=
 match fu cs with
 |some ds=>.d (.ag ds)
 |none=>.ag cs
def mkRef(cs:List V):V :=
 match fu cs with
 |some ds=>.d (.ref ds)
 |none=>.rf cs
def D.cells:D->List D
 | .ag cs=>cs
 |x=>[x]
mutual
def ez(h:List O):V->Option D
 | .d x=>some x
 | .iO es=>some (.sl es false [])
 | .aR n off len =>
  match aV h n with
  | .aG es _ rows=>if off+len<=rows.length then some (.sl es false ((rows.drop off).take len))else none
  |_=>none
 | .loc n r c =>
  match aV h n with
  | .aG _ _ rows=>(rows[r]?).bind λrow=>if c<=row.length then some (.ref (row.drop c))else none
  |_=>none
 | .ag cs=>(gZ h cs).map .ag
 | .rf cs=>(gZ h cs).map .ref
 | .fn f a b=>(gZ h a).bind λx=>(gZ h b).map λy=>.fn f x y
 |_=>none
def gZ(h:List O):List V->Option (List D)
 | []=>some []
 |v::r=>(ez h v).bind λx=>(gZ h r).map (x::·)
end
mutual
def V.dw:V->List Nat
 | .loc n _ _=>[n]
 | .aR n _ _=>[n]
 | .jc n _ _=>[n]
 | .mp n=>[n]
 | .jh n=>[n]
 | .fn _ a b=>V.gu a++V.gu b
 | .ag cs=>V.gu cs
 | .rf cs=>V.gu cs
 | .tu vs=>V.gu vs
 |_=>[]
def V.gu:List V->List Nat
 | []=>[]
 |v::r=>v.dw++V.gu r
end
def bg(h:List O)(n:Nat):List O :=
 match aV h n with
 | .aG es _ rows=>h.set n (.aG es false rows)
 |_=>h
def aY(h:List O):List Nat->List O
 | []=>h
 |n::r=>aY (bg h n) r
def br(h:List O)(v:V):Option (D×List O):=(ez h v).map λx=>(x,aY h v.dw)
mutual
def V.dJ(g:Nat->Nat):V->V
 | .loc n r c=>.loc (g n) r c
 | .aR n o l=>.aR (g n) o l
 | .jc n o l=>.jc (g n) o l
 | .mp n=>.mp (g n)
 | .jh n=>.jh (g n)
 | .fn f a b=>.fn f (V.iI g a) (V.iI g b)
 | .ag cs=>.ag (V.iI g cs)
 | .rf cs=>.rf (V.iI g cs)
 | .tu vs=>.tu (V.iI g vs)
 |v=>v
def V.iI(g:Nat->Nat):List V->List V
 | []=>[]
 |v::r=>v.dJ g::V.iI g r
end
def yP(g:Nat->Nat)(env:List (Nat×V)):List (Nat×V):=env.map λp=>(p.1,p.2.dJ g)
def qZ:List (Nat×V)->List Nat
 | []=>[]
 |p::r=>p.2.dw++qZ r
def O.dJ(g:Nat->Nat):O->O
 | .gJ es rows=>.gJ es (rows.map (V.iI g))
 | .mp kv=>.mp (kv.map λp=>(p.1,p.2.dJ g))
 | .lp ps a b e env=>.lp ps a b e (yP g env)
 |o=>o
def O.dw:O->List Nat
 | .gJ _ rows=>rows.flatMap V.gu
 | .mp kv=>kv.flatMap λp=>p.2.dw
 | .lp _ _ _ _ env=>qZ env
 |_=>[]
def reach(h:List O):Nat->List Nat->List Nat->List Nat
 | 0,_,acc=>acc
 |_+1,[],acc=>acc
 |f+1,n::t,acc=>if n∈acc then reach h f t acc else reach h f (t++(aV h n).dw) (acc++[n])
def sub(h:List O)(L:List Nat):List O:=L.map λn=>(aV h n).dJ (L.idxOf ·)
def cut(h:List O)(m:Nat)(roots:List Nat):Option (List Nat):=
 let L:=List.range m++(reach h 1000 (List.range m++roots) []).filter (m<=·)
 if L.Nodup/\roots.all (·∈L)/\L.all (λn=>n<h.length/\(aV h n).dw.all (·∈L))then some L else none
def jM(live:List Nat)(env:List (Nat×V)):List (Nat×V):=live.map λn=>(n,cA env n)
def canon(m:Nat)(live:List Nat)(env:List (Nat×V))(h:List O):Option (List (Nat×V)×List O):=
 match h with
 | []=>some (jM live env,[])
 |_=>(cut h m (qZ (jM live env))).map λL=>((jM live env).map λp=>(p.1,p.2.dJ (L.idxOf ·)),sub h L)
def V.wk:V->V
 | .jc n off len=>.aR n off len
 |v=>v
def arith(op:BinOp)(k:IntKind)(x y:Int):Option V :=
 match op with
 | .add=>some (.d (.i k (k.wrap (x+y))))
 | .sub=>some (.d (.i k (k.wrap (x - y))))
 | .mul=>some (.d (.i k (k.wrap (x*y))))
 | .quo=>if y=0 then none else some (.d (.i k (k.wrap (x.tdiv y))))
 | .rem=>if y=0 then none else some (.d (.i k (x.tmod y)))
 | .eql=>some (.d (.b (x==y)))
 | .neq=>some (.d (.b (x != y)))
 | .lss=>some (.d (.b (decide (x<y))))
 | .leq=>some (.d (.b (decide (x<=y))))
 | .gtr=>some (.d (.b (decide (y<x))))
 | .geq=>some (.d (.b (decide (y<=x))))
 |_=>none
def B6(op:BinOp):V->V->Option V
 | .d (.i k x),.d (.i k' y) =>
  match op with
  | .shl=>if 0<=y then some (.d (.i k (k.wrap (x*2 ^ (min y.toNat k.bits)))))else none
  | .shr=>if 0<=y then some (.d (.i k (x.fdiv (2 ^ (min y.toNat k.bits)))))else none
  |_=>if k=k' then arith op k x y else none
 | .d (.s x),.d (.s y) =>
  match op with
  | .eql=>some (.d (.b (x==y)))
  | .neq=>some (.d (.b (!(x==y))))
  | .lss=>some (.d (.b (Op.bytesLess x y)))
  |_=>none
 |_,_=>none
def B7:CK->D->D->Option Bool
 | .i,.i k x,.i k' y=>if k=k' then some (x==y)else none
 | .b,.b x,.b y=>some (x==y)
 | .s,.s x,.s y=>some (x==y)
 |_,_,_=>none
def jN:List CK->List D->List D->Option Bool
 | [],[],[]=>some true
 |k::ks,x::xs,y::ys=>(B7 k x y).bind λp=>(jN ks xs ys).map λq=>p&&q
 |_,_,_=>none
def J7(ks:List CK)(neg:Bool):V->V->Option V
 | .d (.ag x),.d (.ag y)=>(jN ks x y).map λp=>.d (.b (p != neg))
 |_,_=>none
def J8(neg:Bool):V->V->Option V
 | .d (.b x),.d (.b y)=>some (.d (.b ((x==y) != neg)))
 |_,_=>none
def vG(h:List O)(n:Nat):Bool:=match aV h n with | .aG .. | .gJ ..=>true |_=>false
def isNil(h:List O):NK->V->Option Bool
 | .sl,.d (.sl _ nl _)=>some nl
 | .sl,.aR n _ _=>if vG h n then some false else none
 | .sl,.iO _=>some false
 | .mp,.d .uu=>some true
 | .mp,.mp n=>match aV h n with | .mp _=>some false |_=>none
 | .fn,.d .cN=>some true
 | .fn,.d (.fn ..)=>some false
 | .fn,.fn ..=>some false
 | .pt,.d .nil=>some true
 | .pt,.d (.ref _)=>some false
 | .pt,.rf _=>some false
 | .pt,.loc n _ _=>if vG h n then some false else none
 | .lW,.d .B3=>some true
 | .lW,.d (.lW ..)=>some false
 |_,_=>none
def J9(op:UnOp):V->Option V
 | .d (.b x)=>match op with | .not=>some (.d (.b (!x))) |_=>none
 | .d (.i k x)=>match op with | .neg=>some (.d (.i k (k.wrap (0 - x)))) |_=>none
 |_=>none
def kB(k:IntKind):V->Option V
 | .d (.i _ x)=>some (.d (.i k (k.wrap x)))
 |_=>none
def q9(h:List O):LK->V->Option V
 | .sl,.d (.sl _ _ xs)=>some (.d (.i .i64 xs.length))
 | .sl,.aR n _ len=>if vG h n then some (.d (.i .i64 len))else none
 | .sl,.iO _=>some (.d (.i .i64 0))
 | .s,.d (.s x)=>some (.d (.i .i64 x.length))
 | .mp,.d .uu=>some (.d (.i .i64 0))
 | .mp,.mp n=>match aV h n with | .mp kv=>some (.d (.i .i64 kv.length)) |_=>none
 |_,_=>none
def asInt:V->Option Int
 | .d (.i _ n)=>some n
 |_=>none
def ji(es:Nat)(x i:V)(h:List O):Option V :=
 match x,i with
 | .d (.sl e _ xs),.d (.i _ j)=>if 0<=j/\e=es then(xs[j.toNat]?).map λrow=>.d (.ref row)else none
 | .aR n off len,.d (.i _ j) =>
  match aV h n with
  | .aG e _ _ | .gJ e _=>if 0<=j/\j<len/\e=es then some (.loc n (off+j.toNat) 0)else none
  |_=>none
 |_,_=>none
def oB(h:List O)(len es:Nat)(x i:V):Option V :=
 match x,i with
 | .d (.ref cs),.d (.i _ j)=>if 0<=j/\j<len/\len*es<=cs.length then some (.d (.ref (cs.drop (j.toNat*es))))else none
 | .loc n r c,.d (.i _ j)=>if 0<=j/\j<len/\vG h n=true then some (.loc n r (c+j.toNat*es))else none
 |_,_=>none
def fa(h:List O)(o n:Nat):V->Option V
 | .d (.ref cs)=>if o+n<=cs.length then some (.d (.ref (cs.drop o)))else none
 | .rf cs=>if o+n<=cs.length then some (.rf (cs.drop o))else none
 | .loc m r c=>if vG h m then some (.loc m r (c+o))else none
 |_=>none
def pack(n:Nat)(ag:Bool)(cs:List V):Option V :=
 if ag then(if n<=cs.length then some (B5 (cs.take n))else none)else cs.head?
def B8(n:Nat)(ag:Bool)(cs:List D):Option V :=
 if ag then(if n<=cs.length then some (.d (.ag (cs.take n)))else none)else cs.head?.map .d
def yQ(h:List O)(n:Nat)(ag:Bool):V->Option V
 | .d (.ref cs)=>B8 n ag cs
 | .rf cs=>pack n ag cs
 | .loc m r c =>
  match aV h m with
  | .aG _ _ rows=>(rows[r]?).bind λrow=>B8 n ag (row.drop c)
  | .gJ _ rows=>(rows[r]?).bind λrow=>pack n ag (row.drop c)
  |_=>none
 |_=>none
def J'(n:Nat)(ag:Bool):V->Option V
 | .d (.ref cs)=>B8 n ag cs
 | .rf cs=>pack n ag cs
 |_=>none
def Ka(o n:Nat):V->Option V
 | .d (.ref cs)=>if o+n<=cs.length then some (.d (.ref (cs.drop o)))else none
 | .rf cs=>if o+n<=cs.length then some (.rf (cs.drop o))else none
 |_=>none
def aq{α:Type}(cs:List α)(o:Nat)(new:List α):List α:=cs.take o++new++cs.drop (o+new.length)
def Kb(h:List O)(n:Nat)(p v:V):Option (List O):=
 match p with
 | .loc m r c =>
  match aV h m with
  | .aG es true rows =>
   match rows[r]? with
   |some row =>
    if c+n<=row.length/\v.cells.length=n/\v.known=true then
     match fu v.cells with
     |some ds=>some (h.set m (.aG es true (rows.set r (aq row c ds))))
     |none=>some (h.set m (.gJ es ((rows.map λx=>x.map V.d).set r (aq (row.map V.d) c v.cells))))
    else none
   |none=>none
  | .gJ es rows =>
   match rows[r]? with
   |some row=>if c+n<=row.length/\v.cells.length=n/\v.known=true then some (h.set m (.gJ es (rows.set r (aq row c v.cells))))else none
   |none=>none
  |_=>none
 |_=>none
def At(h:List O)(es:Nat):V->Option (List (List D))
 | .d (.sl e _ xs)=>if e=es then some xs else none
 | .iO _=>some []
 | .aR n off len =>
  match aV h n with
  | .aG e _ rows=>if e=es/\off+len<=rows.length then some ((rows.drop off).take len)else none
  |_=>none
 | .jc n off len =>
  match aV h n with
  | .aG e _ rows=>if e=es/\off+len<=rows.length then some ((rows.drop off).take len)else none
  |_=>none
 |_=>none
def room:Nat:=4294967296
def D6(h:List O)(es:Nat)(x y:V):Option (V×List O):=
 match At h es y with
 |none=>none
 |some ys =>
  match x with
  | .d (.sl e nl _) =>
   if e=es then
    if ys.length=0 then some (x,h)
    else if nl/\ys.length<=room then some (.aR h.length 0 ys.length,h++[.aG es true ys])else none
   else none
  | .iO _=>if ys.length=0 then some (.iO es,h)else if ys.length<=room then some (.aR h.length 0 ys.length,h++[.aG es true ys])else none
  | .aR n off len =>
   match aV h n with
   | .aG e ex rows =>
    if e=es/\off+len<=rows.length then
     if ys.length=0 then some (x,h)
     else if off+len+ys.length<=rows.length then
      if ex then some (.aR n off (len+ys.length),h.set n (.aG es ex (aq rows (off+len) ys)))else none
     else if(ex\/off+len=rows.length)/\len+ys.length<=room then
      some (.aR h.length 0 (len+ys.length),h.set n .dead++[.aG es ex ((rows.drop off).take len++ys)])
     else none
    else none
   |_=>none
  | .jc n off len =>
   match aV h n with
   | .aG e ex rows =>
    if e=es/\off+len<=rows.length then
     if ys.length=0 then some (x,h)
     else if off+len+ys.length<=rows.length then
      if ex then some (.jc n off (len+ys.length),h.set n (.aG es ex (aq rows (off+len) ys)))else none
     else if len+ys.length<=room then some (.aR h.length 0 (len+ys.length),h++[.aG es true ((rows.drop off).take len++ys)])else none
    else none
   |_=>none
  |_=>none
def aaa(h:List O)(es:Nat)(x y:V):Option V :=
 match At h es y with
 |none=>none
 |some ys =>
  match x with
  | .d (.sl e nl [])=>if e=es/\nl=true/\ys.length<=room then some (.d (.sl es (decide (ys.length=0)) ys))else none
  | .iO _=>if ys.length<=room then some (.d (.sl es false ys))else none
  |_=>none
def Kc(h:List O)(es:Nat)(z:List D)(x:V)(k:Option Int):Option (V×List O):=
 match k with
 |none=>none
 |some k =>
  if 0<k/\z.length=es then
   match x with
   | .d (.sl e nl _)=>if e=es/\nl=true/\k.toNat<=room then some (.aR h.length 0 k.toNat,h++[.aG es true (List.replicate k.toNat z)])else none
   | .iO e=>if e=es/\k.toNat<=room then some (.aR h.length 0 k.toNat,h++[.aG es true (List.replicate k.toNat z)])else none
   | .jc n off len =>
    match aV h n with
    | .aG e _ rows =>
     if e=es/\off+len<=rows.length/\rows.length<off+len+k.toNat/\len+k.toNat<=room then
      some (.aR h.length 0 (len+k.toNat),h++[.aG es true ((rows.drop off).take len++List.replicate k.toNat z)])else none
    |_=>none
   |_=>none
  else none
def Kd(h:List O)(es:Nat)(z:List D)(n k:Option Int):Option (V×List O):=
 match n,k with
 |some n,some k=>if 0<=n/\n<=k/\k.toNat*es<=16777216/\z.length=es then some (.aR h.length 0 n.toNat,h++[.aG es true (List.replicate n.toNat z)])else none
 |_,_=>none
def Ke(h:List O):V->Option V
 | .d (.sl _ true _)=>some (.d (.i .i64 0))
 | .iO _=>some (.d (.i .i64 0))
 | .jc n off _=>match aV h n with | .aG _ _ rows=>if off<=rows.length then some (.d (.i .i64 (rows.length - off:Nat)))else none |_=>none
 |_=>none
def Kf(h:List O)(es:Nat)(x y:V):Option V :=
 match x,y.wk with
 | .d (.sl e _ _),.aR n _ _=>match aV h n with | .aG _ true _=>if e=es then some (.d (.b false))else none |_=>none
 |_,_=>none
def uw(s:St)(dflt:Int):Option A->Option Int
 |none=>some dflt
 |some a=>asInt (s.get a)
def Kg(h:List O)(es:Nat)(x:V)(lo hi:Option Int):Option V :=
 match lo,hi with
 |some lo,some hi =>
  match x with
  | .d (.sl e nl xs)=>if e=es/\0<=lo/\lo<=hi/\hi<=xs.length then some (.d (.sl es nl ((xs.take hi.toNat).drop lo.toNat)))else none
  | .aR n off _ =>
   match aV h n with
   | .aG e _ rows=>if e=es/\0<=lo/\lo<=hi/\off+hi<=rows.length then(if lo=0\/lo<hi then some (.aR n (off+lo.toNat) (hi - lo).toNat)else some (.d (.sl es false [])))else none
   |_=>none
  | .jc n off _ =>
   match aV h n with
   | .aG e _ rows=>if e=es/\0<=lo/\lo<=hi/\off+hi<=rows.length then(if lo=0\/lo<hi then some (.jc n (off+lo.toNat) (hi - lo).toNat)else some (.d (.sl es false [])))else none
   |_=>none
  | .iO e=>if e=es/\lo=0/\hi=0 then some (.iO es)else none
  |_=>none
 |_,_=>none
def Kh(h:List O)(es:Nat)(x:V)(lo hi:Option Int):Option (V×List O):=
 match lo,hi with
 |some lo,some hi =>
  match x with
  | .aR n off _ =>
   match aV h n with
   | .aG e ex rows =>
    if e=es/\0<=lo/\lo<=hi/\off+hi<=rows.length then
     if lo=0\/lo<hi then some (.aR n (off+lo.toNat) (hi - lo).toNat,h)
     else if ex=true then some (.aR h.length 0 0,h.set n .dead++[.aG es ex []])else none
    else none
   |_=>none
  |_=>none
 |_,_=>none
def Ki(h:List O)(es:Nat)(x:V)(lo hi mx:Option Int):Option V :=
 match lo,hi,mx with
 |some lo,some hi,some mx =>
  match x with
  | .d (.sl e _ xs)=>if e=es/\0<=lo/\lo<=hi/\hi<=mx/\mx<=xs.length then some .u else none
  | .aR n _ len=>if vG h n=true/\0<=lo/\lo<=hi/\hi<=mx/\mx<=len then some .u else none
  | .iO e=>if e=es/\lo=0/\hi=0/\mx=0 then some .u else none
  |_=>none
 |_,_,_=>none
def Kj(o n:Nat)(ag:Bool):V->Option V
 | .d (.ag cs)=>pack n ag ((cs.map V.d).drop o)
 | .ag cs=>pack n ag (cs.drop o)
 |_=>none
def mnV:V->V->Option V
 | .d (.i k x),.d (.i k' y)=>if k=k' then some (.d (.i k (if y<x then y else x)))else none
 |_,_=>none
def Kk:V->V->Option V
 | .d (.i k x),.d (.i k' y)=>if k=k' then some (.d (.i k (if y > x then y else x)))else none
 |_,_=>none
def ux(t:Nat):V->Option V
 | .d v=>some (.d (.lW t v))
 |_=>none
def cV{R:Type}(k:Nat->List V->Option R)(j4:List (Nat×Nat×Nat))(x:V)(xs:List V):Option R :=
 match x with
 | .d (.lW t (.ag ds)) =>
  match j4.find? (λe=>e.1==t)with
  |some e=>if ds.length=e.2.1 then k e.2.2 (.d (.ag ds)::xs)else none
  |none=>none
 |_=>none
def aab(h:List O)(es:Nat):V->Option V
 | .d (.sl e nl _)=>if e=es then some (if nl then .d (.sl es true [])else .iO es)else none
 | .aR n _ _=>if vG h n then some (.iO es)else none
 | .iO _=>some (.iO es)
 |_=>none
def Au(x:V):Int :=
 match x with
 | .d (.sl _ _ xs)=>xs.length
 | .aR _ _ len=>len
 | .jc _ _ len=>len
 | .d (.s x)=>x.length
 |_=>0
def Kl(h:List O)(es:Nat)(z:List D):V->Option (List O)
 | .d (.sl _ _ [])=>some h
 | .aR n off len =>
  match aV h n with
  | .aG e ex rows =>
   if e=es/\z.length=es/\off+len<=rows.length then
    if len=0 then some h else if ex then some (h.set n (.aG es ex (aq rows off (List.replicate len z))))else none
   else none
  |_=>none
 |_=>none
def copyV(h:List O)(es:Nat)(x y:V):Option (V×List O):=
 match At h es y with
 |none=>none
 |some ys =>
  match x.wk with
  | .aR n off len =>
   match aV h n with
   | .aG e true rows =>
    if e=es/\off+len<=rows.length then
     some (.d (.i .i64 (min ys.length len:Nat)),h.set n (.aG es true (aq rows off (ys.take len))))else none
   |_=>none
  | .d (.sl _ _ [])=>some (.d (.i .i64 0),h)
  |_=>none
def Km(i:Nat):V->Option V
 | .tu vs=>vs[i]?
 |_=>none
def fill(cs:List V):List (Nat×Nat×V)->Option (List V)
 | []=>some cs
 |(o,n,v)::r=>if v.cells.length=n/\o+n<=cs.length/\v.known=true then fill (aq cs o v.cells) r else none
def xB(rows:List (List V))(es:Nat):List (Nat×V)->Option (List (List V))
 | []=>some rows
 |(i,v)::r=>if v.cells.length=es/\i<rows.length/\v.known=true then xB (rows.set i v.cells) es r else none
def fN:List (List V)->Option (List (List D))
 | []=>some []
 |r::rs=>(fu r).bind λx=>(fN rs).map (x::·)
def eK(es:Nat)(rows:List (List V)):O :=
 match fN rows with
 |some ds=>.aG es true ds
 |none=>.gJ es rows
def Av:List CK->D->Option (List D)
 | [_],.ag _=>none
 | [_],x=>some [x]
 |_,.ag cs=>some cs
 |_,_=>none
def nS(ks:List CK)(k p:D):Option Bool:=(Av ks k).bind λa=>(Av ks p).bind λb=>jN ks a b
def lY(ks:List CK)(k:D)(p:D×V):Bool:=(nS ks k p.1).getD false
def B9(ks:List CK)(k:D)(kv:List (D×V)):Bool:=(nS ks k k).isSome&&kv.all λp=>(nS ks k p.1).isSome
def GI(ks:List CK)(k:D):List (D×V)->Option V
 | []=>none
 |p::r=>if lY ks k p then some p.2 else GI ks k r
def D7(ks:List CK)(k:D)(v:V):List (D×V)->List (D×V)
 | []=>[(k,v)]
 |p::r=>if lY ks k p then(k,v)::r else p::D7 ks k v r
def PK(ks:List CK)(k:D):List (D×V)->List (D×V)
 | []=>[]
 |p::r=>if lY ks k p then r else p::PK ks k r
def GJ(ks:List CK)(k:D)(z:D)(ok:Bool)(kv:List (D×V)):Option V :=
 if B9 ks k kv then
  match GI ks k kv with
  |some v=>some (if ok then .tu [v,.d (.b true)]else v)
  |none=>some (if ok then .tu [.d z,.d (.b false)]else .d z)
 else none
def Kn(ks:List CK)(h:List O)(m k:V)(z:D)(ok:Bool):Option V :=
 match k with
 | .d k =>
  match m with
  | .mp n=>match aV h n with | .mp kv=>GJ ks k z ok kv |_=>none
  | .d .uu=>GJ ks k z ok []
  |_=>none
 |_=>none
def Ko(ks:List CK)(h:List O)(m k v:V):Option (List O):=
 match m,k with
 | .mp n,.d k=>match aV h n with | .mp kv=>if B9 ks k kv/\v.known=true then some (h.set n (.mp (D7 ks k v kv)))else none |_=>none
 |_,_=>none
def aac(ks:List CK)(h:List O)(m k:V):Option (List O):=
 match m,k with
 | .mp n,.d k=>match aV h n with | .mp kv=>if B9 ks k kv then some (h.set n (.mp (PK ks k kv)))else none |_=>none
 | .d .uu,.d k=>if B9 ks k []then some h else none
 |_,_=>none
abbrev Rec:=yO->Option ej
def aJ(rec:Rec)(h:List O)(f:Nat)(xs:List V):Option (V×List O):=
 match fu xs with
 |some _ =>
  match rec (.call f xs [])with
  |some (.val v h1)=>some (v.dJ (h.length+·),h++h1.map (O.dJ (h.length+·)))
  |_=>none
 |none=>none
def back(L:List Nat)(m:Nat)(i:Nat):Nat:=if i<L.length then L.getD i 0 else m+(i - L.length)
def aE(h:List O):List Nat->List O->List O
 |n::L,o::os=>aE (h.set n o) L os
 |_,_=>h
def aA(rec:Rec)(h:List O)(f:Nat)(xs:List V):Option (V×List O):=
 match cut h 0 (V.gu xs)with
 |some L =>
  match rec (.call f (V.iI (L.idxOf ·) xs) (sub h L))with
  |some (.val v h1) =>
   if L.length<=h1.length then
    some (v.dJ (back L h.length),aE h L (h1.map (O.dJ (back L h.length)))++(h1.drop L.length).map (O.dJ (back L h.length)))
   else none
  |_=>none
 |none=>none
def kC(rec:Rec)(f:Nat)(xs:List V):Option V :=
 match fu xs with
 |some _ =>
  match rec (.call f xs [])with
  |some (.val v [])=>some v
  |_=>none
 |none=>none
def lZ{R:Type}(k:Nat->List V->Option R)(x:V)(xs:List V):Option R :=
 match x with
 | .d (.fn f first caps)=>k f (first.map V.d++xs++caps.map V.d)
 | .fn f first caps=>k f (first++xs++caps)
 |_=>none
def oD(rec:Rec)(h:List O)(x:V)(xs:List V):Option (V×List O):=
 match x with
 | .jh n =>
  match aV h n with
  | .lp ps a b .normal env =>
   if xs.length=ps.length then
    match cut (h.set n .dead) 0 (V.gu xs++qZ env)with
    |some L =>
     if n∈L then none else
      match rec (.round ps a b (V.iI (L.idxOf ·) xs) (yP (L.idxOf ·) env) (sub (h.set n .dead) L))with
      |some (.out e _ h1) =>
       if L.length<=h1.length then
        some (.d (.b (e == .normal)),aE (h.set n (.lp ps a b e env)) L (h1.map (O.dJ (back L h.length)))++(h1.drop L.length).map (O.dJ (back L h.length)))
       else none
      |_=>none
    |none=>none
   else none
  |_=>none
 |_=>none
def St.mQ(s:St)(d:Option Nat):Option V->St
 |some v=>match d with
  |some d=>⟨(d,v)::s.env,s.heap,s.ok⟩
  |none=>s
 |none=>s.fail
def D.plain:D->Bool
 | .b _ | .i .. | .s _=>true
 |_=>false
def D.Ca:D->Bool
 | .ag cs=>cs.all D.plain
 |x=>x.plain
def V.plain:V->Bool
 | .d x=>x.Ca
 | .tu vs=>vs.all λv=>match v with | .d x=>x.Ca |_=>false
 |_=>false
def vH(rec:Rec)(h:List O)(f:Nat)(xs:List V):Option V :=
 match gZ h xs with
 |some ds =>
  match rec (.call f (ds.map V.d) [])with
  |some (.val v [])=>if v.plain then some v else none
  |_=>none
 |none=>none
def yR(o:Option (V×List O)):Option (V×List O):=o.bind λr=>(br r.2 r.1).map λp=>(.d p.1,p.2)
def vI(s:St):List Nat->St
 | []=>s
 |d::r=>vI (s.gh d ((br s.heap (s.get (.t d))).map λp=>(.d p.1,p.2))) r
def Cb(h:List O)(k:Nat):V->Option (List O)
 | .loc n r c =>
  match aV h n with
  | .aG ..=>some h
  | .gJ es rows =>
   match rows[r]? with
   |some row =>
    match row[c+k]? with
    |some v=>(ez h v).map λx=>(aY h v.dw).set n (eK es (rows.set r (row.set (c+k) (.d x))))
    |none=>none
   |none=>none
  |_=>none
 |_=>none
def aU(rec:Rec)(i:I)(s:St):St :=
 match i with
 | .mv d x=>s.put d (s.get x)
 | .pick d c a b=>match s.get c with | .d (.b x)=>s.put d (if x then s.get a else s.get b) |_=>s.fail
 | .box d x n fz =>
  if(s.get x).cells.length=n/\(s.get x).known=true then
   if fz then s.put d (mkRef (s.get x).cells)
   else s.gh d (some (.loc s.heap.length 0 0,s.heap++[eK n [(s.get x).cells]]))
  else s.fail
 | .new d z=>s.gh d (some (.loc s.heap.length 0 0,s.heap++[.aG z.length true [z]]))
 | .build d z ps=>s.eJ d ((fill (z.map .d) (ps.map λp=>(p.1,p.2.1,s.get p.2.2))).map B5)
 | .lf d es n z ps fz =>
  let rows:=xB (List.replicate n (z.map V.d)) es (ps.map λp=>(p.1,s.get p.2))
  if fz then s.eJ d ((rows.bind fN).map λrows=>.d (.sl es false rows))
  else s.gh d (rows.map λrows=>(.aR s.heap.length 0 n,s.heap++[eK es rows]))
 | .ld d x n ag=>s.eJ d (yQ s.heap n ag (s.get x))
 | .st x y n fz =>
  if fz then
   match x,s.get x with
   | .t d,.loc m 0 0 =>
    match aV s.heap m with
    | .aG _ true [z]=>if z.length=n/\(s.get y).cells.length=n/\(s.get y).known=true then
      s.gh d (some (mkRef (s.get y).cells,s.heap.set m .dead))else s.fail
    |_=>s.fail
   |_,_=>s.fail
  else s.so (Kb s.heap n (s.get x) (s.get y))
 | .fa d x o n=>s.eJ d (fa s.heap o n (s.get x))
 | .ji d x i es=>s.eJ d (ji es (s.get x) (s.get i) s.heap)
 | .oB d x i len es=>s.eJ d (oB s.heap len es (s.get x) (s.get i))
 | .rY d x o n ag=>s.eJ d (Kj o n ag (s.get x))
 | .bin d op x y=>s.eJ d (B6 op (s.get x) (s.get y))
 | .eqv d neg x y ks=>s.eJ d (J7 ks neg (s.get x) (s.get y))
 | .rZ d neg x y=>s.eJ d (J8 neg (s.get x) (s.get y))
 | .qo d neg x k=>s.eJ d ((isNil s.heap k (s.get x)).map λp=>.d (.b (p != neg)))
 | .un d op x=>s.eJ d (J9 op (s.get x))
 | .kB d k x=>s.eJ d (kB k (s.get x))
 | .len d x k=>s.eJ d (q9 s.heap k (s.get x).wk)
 | .sl d x lo hi es=>s.eJ d (Kg s.heap es (s.get x) (uw s 0 lo) (uw s (Au (s.get x)) hi))
 | .app d x y es=>s.gh d (D6 s.heap es (s.get x) (s.get y))
 | .qp d x es z=>s.lq d ((Kl s.heap es z (s.get x)).map λh=>(.tu [],h))
 | .copy d x y es=>s.lq d (copyV s.heap es (s.get x) (s.get y))
 | .ext d x i=>s.eJ d (Km i (s.get x))
 | .gY d f a b =>
  match fu (a.map s.get),fu (b.map s.get)with
  |some x,some y=>s.put d (.d (.fn f x y))
  |_,_=>s.put d (.fn f (a.map s.get) (b.map s.get))
 | .mw d=>s.gh d (some (.mp s.heap.length,s.heap++[.mp []]))
 | .fA m k v ks=>s.so (Ko ks s.heap (s.get m) (s.get k) (s.get v))
 | .pG d m k z ok ks=>s.eJ d (Kn ks s.heap (s.get m) (s.get k) z ok)
 | .call d f xs=>s.mQ d (kC rec f (xs.map s.get))
 | .mP d f xs=>s.lq d (aJ rec s.heap f (xs.map s.get))
 | .jd d f xs=>s.lq d (aA rec s.heap f (xs.map s.get))
 | .nR d x xs=>s.mQ d (lZ (kC rec) (s.get x) (xs.map s.get))
 | .pI d x xs=>s.lq d (lZ (aA rec s.heap) (s.get x) (xs.map s.get))
 | .sX d x =>
  match s.get x with
  | .d (.ref cs)=>s.put d (.d (.ref cs))
  | .rf cs=>s.put d (.rf cs)
  | .loc n r c=>s.put d (.loc n r c)
  | .d (.lW t v)=>s.put d (.d (.lW t v))
  |_=>s.fail
 | .qW d x lo hi mx es=>s.eJ d (Ki s.heap es (s.get x) (asInt (s.get lo)) (asInt (s.get hi)) (asInt (s.get mx)))
 | .cap d x=>s.eJ d (Ke s.heap (s.get x))
 | .sle d x lo hi es=>s.gh d (Kh s.heap es (s.get x) (uw s 0 lo) (uw s (Au (s.get x)) hi))
 | .qX d x k es z=>s.gh d (Kc s.heap es z (s.get x) (asInt (s.get k)))
 | .qY d _ x y es=>s.eJ d (Kf s.heap es (s.get x) (s.get y))
 | .bad _=>s.fail
 | .sj d x n ag=>s.eJ d (J' n ag (s.get x))
 | .pJ d x o n=>s.eJ d (Ka o n (s.get x))
 | .pK d x xs=>s.lq d (oD rec s.heap (s.get x) (xs.map s.get))
 | .sk d x y es=>s.gh d (yR (D6 s.heap es (s.get x) (s.get y)))
 | .nq d f xs=>s.gh d (yR (aA rec s.heap f (xs.map s.get)))
 | .calls d f xs=>s.mQ d (vH rec s.heap f (xs.map s.get))
 | .nr d t x=>s.eJ d (ux t (s.get x))
 | .inv d _ j4 x xs=>s.mQ d (cV (kC rec) j4 (s.get x) (xs.map s.get))
 | .mx d x y=>s.eJ d (Kk (s.get x) (s.get y))
 | .vF d es z n k=>s.gh d (Kd s.heap es z (asInt (s.get n)) (asInt (s.get k)))
def I.dst:I->Option Nat
 | .mv d _ | .pick d .. | .box d .. | .new d _ | .build d .. | .lf d .. | .ld d .. | .fa d .. | .ji d .. | .oB d .. | .rY d .. | .bin d .. | .eqv d .. | .rZ d .. | .qo d .. | .un d ..
 | .kB d .. | .len d .. | .sl d .. | .sle d .. | .app d .. | .ext d .. | .gY d .. | .mw d | .pG d .. | .sX d .. | .qW d .. | .cap d .. | .qX d .. | .qY d .. | .sj d .. | .pJ d .. | .sk d .. | .nq d .. | .nr d .. | .mx d .. | .vF d ..=>some d
 | .qp d .. | .copy d .. | .call d .. | .mP d .. | .jd d .. | .nR d .. | .pI d .. | .bad d | .pK d .. | .calls d .. | .inv d ..=>d
 | .st .. | .fA ..=>none
def I.wr:I->Option Nat
 | .st (.t d) _ _ true=>some d
 |i=>i.dst
mutual
def J.rj:J->List Nat
 | .op i=>i.wr.toList
 | .sc _ d _ body _=>d::J.j5 body
 | .re _=>[]
def J.j5:List J->List Nat
 | []=>[]
 |j::r=>j.rj++J.j5 r
end
def pL(ds:List Nat)(e:List (Nat×V)):List (Nat×V):=
 match ds with
 | []=>e
 |d::r=>(d,V.u)::pL r e
open Classical in
noncomputable def V.same (a b:V):Bool:=decide (a=b)
theorem V.aZ(a:V):V.same a a=true:=by simp[V.same]
theorem V.uy{a b:V}(h:V.same a b=true):a=b:=by simpa[V.same]using h
noncomputable def again (d:Option Nat)(s s':St):St :=
 match d with
 |some d=>if s'.ok&&V.same (cA s'.env d) (cA s.env d)then s else s.fail
 |none=>s.fail
mutual
noncomputable def jj (rec:Rec):J->St->St
 | .op i,s=>aU rec i s
 | .sc fE d c body x,s =>
  match s.get (.t c)with
  | .d (.b g) =>
   if g=fE then⟨(d,.d (.b fE))::pL (J.j5 body) s.env,s.heap,s.ok⟩
   else
    match(fU rec body s).get x with
    | .d (.b y)=>⟨(d,.d (.b y))::pL (J.j5 body) s.env,(fU rec body s).heap,(fU rec body s).ok⟩
    |_=>s.fail
  |_=>s.fail
 | .re i,s=>again i.dst s (aU rec i s)
noncomputable def fU (rec:Rec):List J->St->St
 | [],s=>s
 |j::r,s=>fU rec r (jj rec j s)
end
noncomputable def cQ (rec:Rec)(m:Nat):C->St->Ex×St
 | .skip,s=>(.normal,s)
 | .cr js,s=>(.normal,fU rec js s)
 | .lX fl _ js,s=>(.normal,fU rec js ⟨pL fl s.env,s.heap,s.ok⟩)
 | .seq a b,s =>
  match cQ rec m a s with
  |(.normal,s')=>cQ rec m b s'
  |r=>r
 | .ite c a b,s =>
  match s.get c with
  | .d (.b x)=>if x then cQ rec m a s else cQ rec m b s
  |_=>(.normal,s.fail)
 | .bV id c,s =>
  match cQ rec m c s with
  |(.exit j,s')=>if j=id then(.normal,s')else(.exit j,s')
  |r=>r
 | .loop live c,s =>
  match canon m live s.env s.heap with
  |some p =>
   match rec (.loop m live c p.1 p.2)with
   |some (.out e env h)=>(e,⟨env,h,s.ok⟩)
   |_=>(.normal,s.fail)
  |none=>(.normal,s.fail)
 | .sn x live ps a b,s =>
  match lZ (aA rec (s.heap++[.lp ps a b .normal (jM live s.env)])) (s.get x) [.jh s.heap.length]with
  |some (_,h) =>
   match aV h s.heap.length with
   | .lp _ _ _ e _=>(e,⟨s.env,h.set s.heap.length .dead,s.ok⟩)
   |_=>(.normal,s.fail)
  |none=>(.normal,s.fail)
 | .xA d k,s =>
  match Cb s.heap k (s.get (.t d))with
  |some h=>(.normal,⟨s.env,h,s.ok⟩)
  |none=>(.normal,s.fail)
 | .exit id,s=>(.exit id,s)
 | .ret,s=>(.ret,s)
 | .oC ds,s=>(.normal,vI s ds)
 | .keep ds,s =>
  match canon m ds s.env s.heap with
  |some p=>(.normal,⟨p.1,p.2,s.ok⟩)
  |none=>(.normal,s.fail)
def tuple:List V->V
 | [v]=>v
 |vs=>.tu vs
def GK(s:St):RV->Option V
 | .t n=>some (s.get (.t n))
 | .c n k ag=>yQ s.heap k ag (s.get (.t n))
def yS(s:St):List RV->Option (List V)
 | []=>some []
 |r::rs=>(GK s r).bind λv=>(yS s rs).map (v::·)
def finish(res:List RV)(keep:Bool)(m:Nat)(s:St):Option ej :=
 if s.ok then
  ((
   yS s res).map (·.map V.wk)).bind λvs =>
   if m=0/\keep=false then(gZ s.heap vs).map λds=>.val (tuple (ds.map V.d)) []
   else(cut s.heap m (V.gu vs)).map λL=>.val (tuple (V.iI (L.idxOf ·) vs)) (sub s.heap L)
 else none
def oE:Nat->List V->List (Nat×V)
 |_,[]=>[]
 |n,v::r=>(n,v)::oE (n+1) r
abbrev Prog:=Nat->Option F
noncomputable def mR (P:Prog)(rec:Rec):yO->Option ej
 | .call f xs h =>
  match P f with
  |some fn =>
   match fn.As with
   |some p=>(p xs h).map λr=>.val r.1 r.2
   |none =>
   match cQ rec h.length fn.code ⟨oE 0 xs,h,true⟩with
   |(.normal,s) |(.ret,s)=>finish fn.res fn.keep h.length s
   |_=>none
  |none=>none
 | .loop m live c env h =>
  match cQ rec m c ⟨env,h,true⟩with
  |(.normal,s)=>if s.ok then(canon m live s.env s.heap).bind λp=>rec (.loop m live c p.1 p.2)else none
  |(e,s)=>if s.ok then some (.out e s.env s.heap)else none
 | .round ps a b xs env h =>
  match cQ rec h.length a ⟨ps.zip xs++env,h,true⟩with
  |(.normal,s) =>
   match cQ rec h.length b s with
   |(e,s')=>if s'.ok then(cut s'.heap h.length []).map λL=>.out e [] (sub s'.heap L)else none
  |_=>none
noncomputable def iter (P:Prog):Nat->yO->Option ej
 | 0,_=>none
 |n+1,r=>mR P (iter P n) r
end Go.VS
namespace Go.VS
def Le(a b:Rec):Prop:=∀r x,a r=some x->b r=some x
@[simp] theorem St.aad(s:St)(d:Nat)(v:V):(s.put d v).ok=s.ok:=rfl
@[simp] theorem St.aae(s:St):s.fail.ok=false:=rfl
theorem St.aaf{s:St}{d:Nat}{o:Option V}(h:(s.eJ d o).ok=true):s.ok=true:=by
 cases o<;>simp_all[St.eJ,St.put,St.fail]
theorem St.WS{s:St}{d:Nat}{o:Option (V×List O)}(h:(s.gh d o).ok=true):s.ok=true:=by
 cases o<;>simp_all[St.gh,St.fail]
theorem St.aag{s:St}{d:Option Nat}{o:Option (V×List O)}(h:(s.lq d o).ok=true):s.ok=true:=by
 cases o<;>cases d<;>simp_all[St.lq,St.fail]
theorem St.aah{s:St}{o:Option (List O)}(h:(s.so o).ok=true):s.ok=true:=by
 cases o<;>simp_all[St.so,St.fail]
theorem St.aai{s:St}{d:Option Nat}{o:Option V}(h:(s.mQ d o).ok=true):s.ok=true:=by
 cases o<;>cases d<;>simp_all[St.mQ,St.fail]
theorem GL:∀(ds:List Nat){s:St},(vI s ds).ok=true->s.ok=true
 | [],_,h=>h
 |_::r,_,h=>St.WS (GL r h)
theorem Kp{rec:Rec}{i:I}{s:St}(h:(aU rec i s).ok=true):s.ok=true:=by
 cases i<;>simp only[aU]at h<;>(repeat' (split at h)) <;>
  first
   |exact h
   |exact St.aaf h
   |exact St.WS h
   |exact St.aag h
   |exact St.aai h
   |exact St.aah h
   |(simp at h;done)
theorem aaj{a b:Rec}(hab:Le a b){h:List O}{f:Nat}{xs:List V}{r:V×List O}(hr:aJ a h f xs=some r):aJ b h f xs=some r:=by
 unfold aJ at *;split at hr<;>try (simp at hr;done)
 rename_i ds hds;cases hc:a (.call f xs [])with
 |none=>simp[hc]at hr
 |some x=>rw[hab _ _ hc];rw[hc]at hr;exact hr
theorem Kq{a b:Rec}(hab:Le a b){h:List O}{f:Nat}{xs:List V}{r:V×List O}(hr:aA a h f xs=some r):aA b h f xs=some r:=by
 unfold aA at *;cases hL:cut h 0 (V.gu xs)with
 |none=>simp[hL]at hr
 |some L =>
  simp only[hL]at hr⊢;cases hc:a (.call f (V.iI (L.idxOf ·) xs) (sub h L))with
  |none=>simp[hc]at hr
  |some x=>rw[hab _ _ hc];rw[hc]at hr;exact hr
theorem PL{a b:Rec}(hab:Le a b){f:Nat}{xs:List V}{r:V}(hr:kC a f xs=some r):kC b f xs=some r:=by
 unfold kC at *;split at hr<;>try (simp at hr;done)
 rename_i ds hds;cases hc:a (.call f xs [])with
 |none=>simp[hc]at hr
 |some x=>rw[hab _ _ hc];rw[hc]at hr;exact hr
theorem PM{R:Type}{k k':Nat->List V->Option R}(hk:∀f xs r,k f xs=some r->k' f xs=some r)
  {x:V}{xs:List V}{r:R}(hr:lZ k x xs=some r):lZ k' x xs=some r:=by
 unfold lZ at *;split at hr<;>first |exact hk _ _ _ hr |(simp at hr;done)
theorem aak{R:Type}{k k':Nat->List V->Option R}(hk:∀f xs r,k f xs=some r->k' f xs=some r)
  {j4:List (Nat×Nat×Nat)}{x:V}{xs:List V}{r:R}(hr:cV k j4 x xs=some r):cV k' j4 x xs=some r:=by
 unfold cV at *;split at hr
 .split at hr
  .split at hr
   .rename_i h1;simp only[aK h1];exact hk _ _ _ hr
   .simp at hr
  .simp at hr
 .simp at hr
theorem aal{a b:Rec}(hab:Le a b){h:List O}{f:Nat}{xs:List V}{r:V}(hr:vH a h f xs=some r):vH b h f xs=some r:=by
 unfold vH at *;split at hr<;>try (simp at hr;done)
 rename_i ds hds;cases hc:a (.call f (ds.map V.d) [])with
 |none=>simp[hc]at hr
 |some x=>rw[hab _ _ hc];rw[hc]at hr;exact hr
theorem aam{a b:Rec}(hab:Le a b){h:List O}{x:V}{xs:List V}{r:V×List O}(hr:oD a h x xs=some r):oD b h x xs=some r:=by
 unfold oD at *;split at hr<;>try (simp at hr;done)
 split at hr<;>try (simp at hr;done)
 split at hr<;>try (simp at hr;done)
 rename_i hlen;simp only[hlen,dF];split at hr<;>try (simp at hr;done)
 split at hr<;>try (simp at hr;done)
 rename_i hn;simp only[hn,dI];split at hr<;>try (simp at hr;done)
 rename_i e env' h1 hc;rw[hab _ _ hc];exact hr
theorem Cc{s:St}{d:Option Nat}{o:Option V}(h:(s.mQ d o).ok=true):∃r,o=some r:=by
 cases o
 .simp[St.mQ,St.fail]at h
 .exact⟨_,rfl⟩
theorem xC{s:St}{d:Option Nat}{o:Option (V×List O)}(h:(s.lq d o).ok=true):∃r,o=some r:=by
 cases o
 .simp[St.lq,St.fail]at h
 .exact⟨_,rfl⟩
theorem WU{a b:Rec}(hab:Le a b){i:I}{s:St}(h:(aU a i s).ok=true):aU b i s=aU a i s:=by
 cases i<;>try rfl
 case call d f xs =>
  simp only[aU]at *;obtain⟨r,hr⟩:=Cc h;rw[hr,PL hab hr]
 case mP d f xs =>
  simp only[aU]at *;obtain⟨r,hr⟩:=xC h;rw[hr,aaj hab hr]
 case jd d f xs =>
  simp only[aU]at *;obtain⟨r,hr⟩:=xC h;rw[hr,Kq hab hr]
 case nR d f xs =>
  simp only[aU]at *;obtain⟨r,hr⟩:=Cc h;rw[hr,PM (λ_ _ _=>PL hab) hr]
 case inv d nm j4 f xs =>
  simp only[aU]at *;obtain⟨r,hr⟩:=Cc h;rw[hr,aak (λ_ _ _=>PL hab) hr]
 case pI d f xs =>
  simp only[aU]at *;obtain⟨r,hr⟩:=xC h;rw[hr,PM (λ_ _ _=>Kq hab) hr]
 case pK d f xs =>
  simp only[aU]at *;obtain⟨r,hr⟩:=xC h;rw[hr,aam hab hr]
 case nq d f xs =>
  simp only[aU]at *;cases hr:aA a s.heap f (xs.map s.get)with
  |none=>rw[hr]at h;simp[yR,St.gh,St.fail]at h
  |some r=>rw[Kq hab hr]
 case calls d f xs =>
  simp only[aU]at *;obtain⟨r,hr⟩:=Cc h;rw[hr,aal hab hr]
mutual
theorem aan{rec:Rec}:∀{j:J}{s:St},(jj rec j s).ok=true->s.ok=true
 | .op i,s,h=>Kp (by simpa[jj]using h)
 | .sc fE d c body x,s,h=>by
  simp only[jj]at h;split at h
  .split at h
   .simpa using h
   .split at h
    .exact uz (by simpa using h)
    .simp at h
  .simp at h
 | .re i,s,h=>by
  simp only[jj,again]at h;split at h
  .split at h
   .exact h
   .simp at h
  .simp at h
theorem uz{rec:Rec}:∀{js:List J}{s:St},(fU rec js s).ok=true->s.ok=true
 | [],s,h=>by simpa[fU]using h
 |j::r,s,h=>by
  simp only[fU]at h;exact aan (uz h)
end
mutual
theorem aao{a b:Rec}(hab:Le a b):∀{j:J}{s:St},(jj a j s).ok=true->jj b j s=jj a j s
 | .op i,s,h=>by simp only[jj]at *;exact WU hab h
 | .sc fE d c body x,s,h=>by
  simp only[jj]at h⊢;split
  .rename_i g hg
   simp only[hg]at h;split
   .rfl
   .rename_i hne
    rw[aD hne]at h;have hb:(fU a body s).ok=true:=by
     split at h
     .simpa using h
     .simp at h
    rw[Kr hab hb]
  .rfl
 | .re i,s,h=>by
  have hi:(aU a i s).ok=true:=by
   simp only[jj,again]at h;split at h
   .split at h
    .rename_i hc
     simp only[bJ]at hc;exact hc.1
    .simp at h
   .simp at h
  simp only[jj];rw[WU hab hi]
theorem Kr{a b:Rec}(hab:Le a b):∀{js:List J}{s:St},(fU a js s).ok=true->fU b js s=fU a js s
 | [],_,_=>by simp[fU]
 |j::r,s,h=>by
  simp only[fU]at *;have hj:(jj a j s).ok=true:=uz h;rw[aao hab hj,Kr hab h]
end
theorem yT{rec:Rec}{m:Nat}:∀{c:C}{s:St},(cQ rec m c s).2.ok=true->s.ok=true:=by
 intro c;induction c with
 |skip=>intro s h;exact h
 |cr js=>intro s h;exact uz h
 |lX fl pm js=>intro s h;exact(uz h:(⟨_,_,_⟩:St).ok=true)
 |seq a b iha ihb =>
  intro s h;simp only[cQ]at h;split at h
  .rename_i s' hs
   have:=ihb h;exact iha (by rw[hs];exact this)
  .exact iha h
 |ite c a b iha ihb =>
  intro s h;simp only[cQ]at h;split at h
  .split at h
   .exact iha h
   .exact ihb h
  .simp at h
 |bV id c ih =>
  intro s h;simp only[cQ]at h;split at h
  .rename_i j s' hs
   apply ih;rw[hs];split at h<;>exact h
  .exact ih h
 |loop live c ih =>
  intro s h;simp only[cQ]at h;split at h
  .split at h
   .exact h
   .simp at h
  .simp at h
 |exit id=>intro s h;exact h
 |ret=>intro s h;exact h
 |oC ds=>intro s h;exact GL ds h
 |keep ds =>
  intro s h;simp only[cQ]at h;split at h
  .exact h
  .simp at h
 |xA d k =>
  intro s h;simp only[cQ]at h;split at h
  .exact h
  .simp at h
 |sn x live ps a b iha ihb =>
  intro s h;simp only[cQ]at h;split at h
  .split at h
   .exact h
   .simp at h
  .simp at h
theorem Ks{a b:Rec}(hab:Le a b){m:Nat}:∀{c:C}{s:St},(cQ a m c s).2.ok=true->cQ b m c s=cQ a m c s:=by
 intro c;induction c with
 |skip=>intro s h;rfl
 |cr js=>intro s h;simp only[cQ]at *;rw[Kr hab h]
 |lX fl pm js=>intro s h;simp only[cQ]at *;rw[Kr hab h]
 |seq x y PN GM =>
  intro s h;simp only[cQ]at h⊢;cases hx:cQ a m x s with
  |mk e s' =>
   rw[hx]at h;have hok:s'.ok=true:=by
    cases e
    .exact yT h
    .exact h
    .exact h
   have hb:cQ b m x s=(e,s'):=by rw[PN (by rw[hx];exact hok),hx]
   rw[hb];cases e
   .exact GM h
   .rfl
   .rfl
 |ite c x y PN GM =>
  intro s h;simp only[cQ]at h⊢;split
  .rename_i v hv
   simp only[hv]at h;split
   .rename_i hx;rw[aK hx]at h;exact PN h
   .rename_i hx;rw[aD hx]at h;exact GM h
  .rfl
 |bV id c ih =>
  intro s h;simp only[cQ]at h⊢;cases hx:cQ a m c s with
  |mk e s' =>
   rw[hx]at h;have hok:s'.ok=true:=by
    cases e
    .exact h
    .simp only at h;split at h<;>exact h
    .exact h
   rw[ih (by rw[hx];exact hok),hx]
 |loop live c ih =>
  intro s h;simp only[cQ]at h⊢;cases hp:canon m live s.env s.heap with
  |none=>rfl
  |some p =>
   simp only[hp]at h⊢;cases hr:a (.loop m live c p.1 p.2)with
   |none=>rw[hr]at h;simp at h
   |some x=>rw[hab _ _ hr]
 |exit id=>intro s h;rfl
 |ret=>intro s h;rfl
 |oC ds=>intro s h;rfl
 |keep ds=>intro s h;rfl
 |xA d k=>intro s h;rfl
 |sn x live ps y z GM ihz =>
  intro s h;simp only[cQ]at h⊢;cases hc:lZ (aA a (s.heap++[.lp ps y z .normal (jM live s.env)])) (s.get x) [.jh s.heap.length]with
  |none=>rw[hc]at h;simp at h
  |some r=>rw[PM (λ_ _ _=>Kq hab) hc]
theorem PO{res:List RV}{keep:Bool}{m:Nat}{s:St}{r:ej}(h:finish res keep m s=some r):s.ok=true:=by
 unfold finish at h;split at h
 .assumption
 .simp at h
theorem aap{P:Prog}{a b:Rec}(hab:Le a b):Le (mR P a) (mR P b):=by
 intro r x h;cases r with
 |call f xs hp =>
  simp only[mR]at h⊢;cases hf:P f with
  |none=>rw[hf]at h;simp at h
  |some fn =>
   rw[hf]at h;simp only at h⊢;cases WW:fn.As with
   |some p=>rw[WW]at h;exact h
   |none =>
   rw[WW]at h;simp only at h⊢;cases hc:cQ a hp.length fn.code ⟨oE 0 xs,hp,true⟩with
   |mk e s =>
    rw[hc]at h;have hok:s.ok=true:=by
     cases e
     .exact PO h
     .simp at h
     .exact PO h
    rw[Ks hab (by rw[hc];exact hok),hc]
    exact h
 |loop m live c env hp =>
  simp only[mR]at h⊢;cases hc:cQ a m c ⟨env,hp,true⟩with
  |mk e s =>
   rw[hc]at h;have hok:s.ok=true:=by
    cases hs:s.ok with
    |true=>rfl
    |false=>cases e<;>simp[hs]at h
   rw[Ks hab (by rw[hc];exact hok),hc]
   cases e
   .simp only[hok,dF]at h⊢
    cases hp:canon m live s.env s.heap with
    |none=>rw[hp]at h;simp at h
    |some p =>
     rw[hp]at h;exact hab _ _ h
   .exact h
   .exact h
 |round ps y z xs env hp =>
  simp only[mR]at h⊢;cases hc:cQ a hp.length y ⟨ps.zip xs++env,hp,true⟩with
  |mk e s =>
   rw[hc]at h;cases e<;>simp only at h<;>try (simp at h;done)
   cases gK:cQ a hp.length z s with
   |mk e2 s2 =>
    rw[gK]at h;simp only at h;have Aw:s2.ok=true:=by
     cases hs:s2.ok with
     |true=>rfl
     |false=>simp[hs]at h
    have hok:s.ok=true:=yT (rec:=a) (m:=hp.length) (c:=z) (by rw[gK];exact Aw)
    rw[Ks hab (by rw[hc];exact hok),hc]
    simp only;rw[Ks hab (by rw[gK];exact Aw),gK]
    exact h
theorem WX(P:Prog):∀n,Le (iter P n) (iter P (n+1))
 | 0=>by intro r x h;simp[iter]at h
 |n+1=>aap (WX P n)
theorem PR(P:Prog){n m:Nat}(h:n<=m):Le (iter P n) (iter P m):=by
 induction h with
 |refl=>exact λ_ _ h=>h
 |step _ ih=>exact λr x h=>WX P _ r x (ih r x h)
open Classical in
noncomputable def ev (P:Prog)(r:yO):Option ej :=
 if h:∃n x,iter P n r=some x then some (Classical.choose (BS h))else none
theorem D8{P:Prog}{r:yO}{x:ej}:ev P r=some x↔∃n,iter P n r=some x:=by
 unfold ev;constructor
 .intro h
  split at h
  .rename_i hex
   refine⟨Classical.choose hex,?_⟩;rw[<-h];exact BS (BS hex)
  .simp at h
 .rintro⟨n,hn⟩
  have hex:∃n x,iter P n r=some x:=⟨n,x,hn⟩;rw[dif_pos hex];have h1:=BS (BS hex);have h2:=PR P (Nat.le_max_left n (Classical.choose hex)) _ _ hn;have h3:=PR P (Nat.le_max_right n (Classical.choose hex)) _ _ h1;rw[h2]at h3;exact h3.symm
theorem aaq{P:Prog}{r:yO}{x:ej}(n:Nat)(h:iter P n r=some x):ev P r=some x:=D8.2 ⟨n,h⟩
theorem near(P:Prog)(r:yO):∃n,∀m,n<=m->iter P m r=ev P r:=by
 cases h:ev P r with
 |none =>
  refine⟨0,λm _=>?_⟩
  cases hm:iter P m r with
  |none=>rfl
  |some x=>rw[aaq m hm]at h;simp at h
 |some x =>
  obtain⟨n,hn⟩:=D8.1 h;exact⟨n,λm hm=>PR P hm _ _ hn⟩
theorem aar(P:Prog)(h:List O)(f:Nat)(xs:List V):∃n,∀m,n<=m->aJ (iter P m) h f xs=aJ (ev P) h f xs:=by
 obtain⟨n,hn⟩:=near P (.call f xs []);exact⟨n,λm hm=>by unfold aJ;rw[hn m hm]⟩
theorem Kt(P:Prog)(h:List O)(f:Nat)(xs:List V):∃n,∀m,n<=m->aA (iter P m) h f xs=aA (ev P) h f xs:=by
 unfold aA;cases hL:cut h 0 (V.gu xs)with
 |none=>exact⟨0,λ_ _=>rfl⟩
 |some L =>
  obtain⟨n,hn⟩:=near P (.call f (V.iI (L.idxOf ·) xs) (sub h L))
  exact⟨n,λm hm=>by simp only[hn m hm]⟩
theorem aas(P:Prog)(h:List O)(f:Nat)(xs:List V):∃n,∀m,n<=m->vH (iter P m) h f xs=vH (ev P) h f xs:=by
 unfold vH;cases hd:gZ h xs with
 |none=>exact⟨0,λ_ _=>rfl⟩
 |some ds =>
  obtain⟨n,hn⟩:=near P (.call f (ds.map V.d) []);exact⟨n,λm hm=>by simp only[hn m hm]⟩
theorem aat(P:Prog)(h:List O)(x:V)(xs:List V):∃n,∀m,n<=m->oD (iter P m) h x xs=oD (ev P) h x xs:=by
 unfold oD;split
 .rename_i k
  split
  .rename_i ps a b env hk
   split
   .cases hL:cut (h.set k .dead) 0 (V.gu xs++qZ env)with
    |none=>exact⟨0,λ_ _=>rfl⟩
    |some L =>
     obtain⟨n,hn⟩:=near P (.round ps a b (V.iI (L.idxOf ·) xs) (yP (L.idxOf ·) env) (sub (h.set k .dead) L))
     exact⟨n,λm hm=>by simp only[hn m hm]⟩
   .exact⟨0,λ_ _=>rfl⟩
  .exact⟨0,λ_ _=>rfl⟩
 .exact⟨0,λ_ _=>rfl⟩
theorem PS(P:Prog)(f:Nat)(xs:List V):∃n,∀m,n<=m->kC (iter P m) f xs=kC (ev P) f xs:=by
 obtain⟨n,hn⟩:=near P (.call f xs []);exact⟨n,λm hm=>by unfold kC;rw[hn m hm]⟩
theorem PT{R:Type}{k:Nat->Nat->List V->Option R}{k':Nat->List V->Option R}
  (hk:∀f xs,∃n,∀m,n<=m->k m f xs=k' f xs)(x:V)(xs:List V):
  ∃n,∀m,n<=m->lZ (k m) x xs=lZ k' x xs:=by
 unfold lZ;split
 .exact hk _ _
 .exact hk _ _
 .exact⟨0,λ_ _=>rfl⟩
theorem aau{R:Type}{k:Nat->Nat->List V->Option R}{k':Nat->List V->Option R}
  (hk:∀f xs,∃n,∀m,n<=m->k m f xs=k' f xs)(j4:List (Nat×Nat×Nat))(x:V)(xs:List V):
  ∃n,∀m,n<=m->cV (k m) j4 x xs=cV k' j4 x xs:=by
 unfold cV;split
 .split
  .split
   .exact hk _ _
   .exact⟨0,λ_ _=>rfl⟩
  .exact⟨0,λ_ _=>rfl⟩
 .exact⟨0,λ_ _=>rfl⟩
theorem WY(P:Prog)(i:I)(s:St):∃n,∀m,n<=m->aU (iter P m) i s=aU (ev P) i s:=by
 cases i<;>try exact⟨0,λ_ _=>rfl⟩
 case call d f xs=>obtain⟨n,hn⟩:=PS P f (xs.map s.get);exact⟨n,λm hm=>by simp only[aU,hn m hm]⟩
 case mP d f xs=>obtain⟨n,hn⟩:=aar P s.heap f (xs.map s.get);exact⟨n,λm hm=>by simp only[aU,hn m hm]⟩
 case jd d f xs=>obtain⟨n,hn⟩:=Kt P s.heap f (xs.map s.get);exact⟨n,λm hm=>by simp only[aU,hn m hm]⟩
 case nR d f xs =>
  obtain⟨n,hn⟩:=PT (k:=λm=>kC (iter P m)) (k':=kC (ev P)) (PS P) (s.get f) (xs.map s.get)
  exact⟨n,λm hm=>by simp only[aU,hn m hm]⟩
 case inv d nm j4 f xs =>
  obtain⟨n,hn⟩:=aau (k:=λm=>kC (iter P m)) (k':=kC (ev P)) (PS P) j4 (s.get f) (xs.map s.get)
  exact⟨n,λm hm=>by simp only[aU,hn m hm]⟩
 case pI d f xs =>
  obtain⟨n,hn⟩:=PT (k:=λm=>aA (iter P m) s.heap) (k':=aA (ev P) s.heap) (Kt P s.heap) (s.get f) (xs.map s.get)
  exact⟨n,λm hm=>by simp only[aU,hn m hm]⟩
 case nq d f xs=>obtain⟨n,hn⟩:=Kt P s.heap f (xs.map s.get);exact⟨n,λm hm=>by simp only[aU,hn m hm]⟩
 case calls d f xs=>obtain⟨n,hn⟩:=aas P s.heap f (xs.map s.get);exact⟨n,λm hm=>by simp only[aU,hn m hm]⟩
 case pK d f xs=>obtain⟨n,hn⟩:=aat P s.heap (s.get f) (xs.map s.get);exact⟨n,λm hm=>by simp only[aU,hn m hm]⟩
mutual
theorem aav(P:Prog):∀(j:J)(s:St),∃n,∀m,n<=m->jj (iter P m) j s=jj (ev P) j s
 | .op i,s=>by simpa only[jj]using WY P i s
 | .sc fE d c body x,s=>by
  obtain⟨n,hn⟩:=Ku P body s;exact⟨n,λm hm=>by simp only[jj,hn m hm]⟩
 | .re i,s=>by
  obtain⟨n,hn⟩:=WY P i s;exact⟨n,λm hm=>by simp only[jj,hn m hm]⟩
theorem Ku(P:Prog):∀(js:List J)(s:St),∃n,∀m,n<=m->fU (iter P m) js s=fU (ev P) js s
 | [],s=>⟨0,λ_ _=>by simp only[fU]⟩
 |j::r,s=>by
  obtain⟨n,hn⟩:=aav P j s;obtain⟨k,hk⟩:=Ku P r (jj (ev P) j s);exact⟨max n k,λm hm=>by simp only[fU];rw[hn m (by omega),hk m (by omega)]⟩
end
theorem Kv(P:Prog)(q:Nat)(c:C):∀(s:St),∃n,∀m,n<=m->cQ (iter P m) q c s=cQ (ev P) q c s:=by
 induction c with
 |skip=>exact λs=>⟨0,λ_ _=>rfl⟩
 |cr js=>intro s;obtain⟨n,hn⟩:=Ku P js s;exact⟨n,λm hm=>by simp only[cQ,hn m hm]⟩
 |lX fl pm js=>intro s;obtain⟨n,hn⟩:=Ku P js ⟨pL fl s.env,s.heap,s.ok⟩;exact⟨n,λm hm=>by simp only[cQ,hn m hm]⟩
 |seq a b iha ihb =>
  intro s;obtain⟨n,hn⟩:=iha s;cases hx:cQ (ev P) q a s with
  |mk e s' =>
   obtain⟨k,hk⟩:=ihb s';refine⟨max n k,λm hm=>?_⟩
   simp only[cQ];rw[hn m (by omega),hx]
   cases e
   .exact hk m (by omega)
   .rfl
   .rfl
 |ite c a b iha ihb =>
  intro s;obtain⟨n,hn⟩:=iha s;obtain⟨k,hk⟩:=ihb s;refine⟨max n k,λm hm=>?_⟩
  simp only[cQ];rw[hn m (by omega),hk m (by omega)]
 |bV id c ih=>intro s;obtain⟨n,hn⟩:=ih s;exact⟨n,λm hm=>by simp only[cQ,hn m hm]⟩
 |loop live c ih =>
  intro s;cases hp:canon q live s.env s.heap with
  |none=>exact⟨0,λm _=>by simp only[cQ,hp]⟩
  |some p =>
   obtain⟨n,hn⟩:=near P (.loop q live c p.1 p.2);exact⟨n,λm hm=>by simp only[cQ,hp,hn m hm]⟩
 |exit id=>exact λs=>⟨0,λ_ _=>rfl⟩
 |ret=>exact λs=>⟨0,λ_ _=>rfl⟩
 |oC ds=>exact λs=>⟨0,λ_ _=>rfl⟩
 |keep ds=>exact λs=>⟨0,λ_ _=>rfl⟩
 |xA d k=>exact λs=>⟨0,λ_ _=>rfl⟩
 |sn x live ps y z GM ihz =>
  intro s;obtain⟨n,hn⟩:=PT (k:=λm=>aA (iter P m) (s.heap++[.lp ps y z .normal (jM live s.env)])) (k':=aA (ev P) (s.heap++[.lp ps y z .normal (jM live s.env)]))
   (Kt P (s.heap++[.lp ps y z .normal (jM live s.env)])) (s.get x) [.jh s.heap.length]
  exact⟨n,λm hm=>by simp only[cQ,hn m hm]⟩
theorem aaw(P:Prog)(r:yO):∃n,∀m,n<=m->mR P (iter P m) r=mR P (ev P) r:=by
 cases r with
 |call f xs h =>
  cases hf:P f with
  |none=>exact⟨0,λm _=>by simp only[mR,hf]⟩
  |some fn =>
   obtain⟨n,hn⟩:=Kv P h.length fn.code ⟨oE 0 xs,h,true⟩;exact⟨n,λm hm=>by simp only[mR,hf,hn m hm]⟩
 |loop q live c env h =>
  obtain⟨n,hn⟩:=Kv P q c ⟨env,h,true⟩;cases hx:cQ (ev P) q c ⟨env,h,true⟩with
  |mk e s =>
   cases hp:canon q live s.env s.heap with
   |none =>
    refine⟨n,λm hm=>?_⟩
    simp only[mR];rw[hn m (by omega),hx]
    cases e
    .simp[hp]
    .rfl
    .rfl
   |some p =>
    obtain⟨k,hk⟩:=near P (.loop q live c p.1 p.2);refine⟨max n k,λm hm=>?_⟩
    simp only[mR];rw[hn m (by omega),hx]
    cases e
    .simp[hp,hk m (by omega)]
    .rfl
    .rfl
 |round ps y z xs env h =>
  obtain⟨n,hn⟩:=Kv P h.length y ⟨ps.zip xs++env,h,true⟩;cases hx:cQ (ev P) h.length y ⟨ps.zip xs++env,h,true⟩with
  |mk e s =>
   obtain⟨k,hk⟩:=Kv P h.length z s;refine⟨max n k,λm hm=>?_⟩
   simp only[mR];rw[hn m (by omega),hx]
   cases e
   .simp only;rw[hk m (by omega)]
   .rfl
   .rfl
theorem ev_eq(P:Prog)(r:yO):ev P r=mR P (ev P) r:=by
 obtain⟨n,hn⟩:=aaw P r;obtain⟨k,hk⟩:=near P r;rw[<-hn (max n k) (by omega)]
 have:=hk (max n k+1) (by omega)
 rw[<-this];rfl
end Go.VS
namespace Go.VS
structure Gh where
 β:Nat->Nat
 o:Nat->Nat
 I:Nat->Nat
structure fj where
 fn:Nat->Nat
 lk:List Nat->C->C->Code->Code->Nat->Prop
instance:CoeFun fj (λ_=>Nat->Nat):=⟨fj.fn⟩
instance:Coe fj (Nat->Nat):=⟨fj.fn⟩
section
variable (φ:fj)
mutual
def bR(I:Nat->Nat)(w:World):D->Value->Prop
 | .b x,v=>v = .bool x
 | .i k n,v=>v = .int k n
 | .s x,v=>∃bs:ByteArray,v = .string bs/\bs.toList=x
 | .nil,v=>v = .pointer none
 | .ref cs,v=>∃b off,v = .pointer (some ⟨b,off,none⟩)/\off+cs.length<=I b/\nC I w b off cs
 | .sl es nl xs,v=>∃a cap,v = .slice a xs.length cap/\xs.length<=cap/\(nl=true->a=none/\cap=0) /\
   (nl=false->∃ad:Addr,a=some ad/\(xs≠[]->ad.spot=none/\ad.off+es*xs.length<=I ad.block/\jE I w ad.block es ad.off xs))
 | .fn f a b,v=>∃A B,v = .func (.func (φ f)) A B/\cy I w a A.toList/\cy I w b B.toList
 | .cN,v=>v = .nilFunc
 | .lW t x,v=>∃y,v = .iface t y/\bR I w x y
 | .B3,v=>v = .nilIface
 | .uu,v=>v = .map none
 | .ag cs,v=>∃A,v = .agg A/\cy I w cs A.toList/\∀x∈A.toList,x.oneCell'=true
 | .B4,_=>True
def nC(I:Nat->Nat)(w:World)(b:Nat):Nat->List D->Prop
 |_,[]=>True
 |off,c::cs=>(∃x,w.cell? ⟨b,off,none⟩=some x/\x.oneCell'=true/\bR I w c x)/\nC I w b (off+1) cs
def jE(I:Nat->Nat)(w:World)(b es:Nat):Nat->List (List D)->Prop
 |_,[]=>True
 |off,r::rs=>r.length=es/\nC I w b off r/\jE I w b es (off+es) rs
def cy(I:Nat->Nat)(w:World):List D->List Value->Prop
 | [],[]=>True
 |c::cs,v::vs=>bR I w c v/\cy I w cs vs
 |_,_=>False
end
structure Ext(I:Nat->Nat)(w:World)(I':Nat->Nat)(w':World):Prop where
 le:∀b,I b<=I' b
 cell:∀b i,i<I b->w'.cell? ⟨b,i,none⟩=w.cell? ⟨b,i,none⟩
theorem Ext.refl(I:Nat->Nat)(w:World):Ext I w I w:=⟨λ_=>gf _,λ_ _ _=>rfl⟩
theorem Ext.trans{I I' YY:Nat->Nat}{w w' w'':World}(h:Ext I w I' w')(k:Ext I' w' YY w''):Ext I w YY w'' :=
 ⟨λb=>nh (h.le b) (k.le b),λb i hi=>(k.cell b i (pz hi (h.le b))).trans (h.cell b i hi)⟩
variable {φ}
mutual
theorem xY{I I':Nat->Nat}{w w':World}(h:Ext I w I' w'):∀{x:D}{v:Value},bR φ I w x v->bR φ I' w' x v
 | .b x,v,hr=>by simpa[bR]using hr
 | .i k n,v,hr=>by simpa[bR]using hr
 | .s x,v,hr=>by simpa[bR]using hr
 | .nil,v,hr=>by simpa[bR]using hr
 | .ref cs,v,hr=>by
  simp only[bR]at hr⊢;obtain⟨b,off,rfl,hI,hc⟩:=hr;exact⟨b,off,rfl,nh hI (h.le b),Te h hI hc⟩
 | .sl es nl xs,v,hr=>by
  simp only[bR]at hr⊢;obtain⟨a,cap,rfl,hl,ht,hf⟩:=hr;refine⟨a,cap,rfl,hl,ht,λgi=>?_⟩
  obtain⟨ad,ha,hx⟩:=hf gi;refine⟨ad,ha,λhne=>?_⟩
  obtain⟨hs,hI,hr⟩:=hx hne;exact⟨hs,nh hI (h.le _),YZ h hI hr⟩
 | .fn f a b,v,hr=>by
  simp only[bR]at hr⊢;obtain⟨A,B,rfl,ha,hb⟩:=hr;exact⟨A,B,rfl,zu h ha,zu h hb⟩
 | .cN,v,hr=>by simpa[bR]using hr
 | .lW t x,v,hr=>by
  simp only[bR]at hr⊢;obtain⟨y,rfl,hx⟩:=hr;exact⟨y,rfl,xY h hx⟩
 | .B3,v,hr=>by simpa[bR]using hr
 | .uu,v,hr=>by simpa[bR]using hr
 | .ag cs,v,hr=>by
  simp only[bR]at hr⊢;obtain⟨A,rfl,ha,h1⟩:=hr;exact⟨A,rfl,zu h ha,h1⟩
 | .B4,v,hr=>by simp[bR]
theorem Te{I I':Nat->Nat}{w w':World}(h:Ext I w I' w'){b:Nat}:∀{off:Nat}{cs:List D},off+cs.length<=I b->nC φ I w b off cs->nC φ I' w' b off cs
 |_,[],_,_=>by simp[nC]
 |off,c::cs,hI,hr=>by
  simp only[nC]at hr⊢;simp only[iy]at hI;obtain⟨⟨x,hx,h1,hd⟩,rG⟩:=hr;exact⟨⟨x,by rw[h.cell b off (by omega)];exact hx,h1,xY h hd⟩,Te h (by omega) rG⟩
theorem YZ{I I':Nat->Nat}{w w':World}(h:Ext I w I' w'){b es:Nat}:∀{off:Nat}{xs:List (List D)},off+es*xs.length<=I b->jE φ I w b es off xs->jE φ I' w' b es off xs
 |_,[],_,_=>by simp[jE]
 |off,r::rs,hI,hr=>by
  simp only[jE]at hr⊢;simp only[iy,Gz,Ph]at hI;obtain⟨hl,hc,rG⟩:=hr;exact⟨hl,Te h (by omega) hc,YZ h (by omega) rG⟩
theorem zu{I I':Nat->Nat}{w w':World}(h:Ext I w I' w'):∀{cs:List D}{vs:List Value},cy φ I w cs vs->cy φ I' w' cs vs
 | [],[],_=>by simp[cy]
 |c::cs,v::vs,hr=>by
  simp only[cy]at hr⊢;exact⟨xY h hr.1,zu h hr.2⟩
 | [],_::_,hr=>by simp[cy]at hr
 |_::_,[],hr=>by simp[cy]at hr
end
theorem sH{I:Nat->Nat}{w:World}:∀{cs:List D}{vs:List Value},cy φ I w cs vs->cs.length=vs.length
 | [],[],_=>rfl
 |_::_,_::_,h=>by simp only[cy]at h;simp[sH h.2]
 | [],_::_,h=>by simp[cy]at h
 |_::_,[],h=>by simp[cy]at h
theorem A8{I:Nat->Nat}{w:World}:∀{cs:List D}{vs:List Value},cy φ I w cs vs->∀{j:Nat}{c:D},cs[j]?=some c->∃v,vs[j]?=some v/\bR φ I w c v
 | [],_,_,j,c,hc=>by simp at hc
 |c::cs,[],h,_,_,_=>by simp[cy]at h
 |c::cs,v::vs,h,j,x,hx=>by
  simp only[cy]at h;cases j with
  |zero=>simp at hx;subst hx;exact⟨v,rfl,h.1⟩
  |succ j=>simpa using A8 h.2 (j:=j) (by simpa using hx)
theorem zw{I:Nat->Nat}{w:World}{cs ds:List D}{vs us:List Value}(h:cy φ I w cs vs)(k:cy φ I w ds us):cy φ I w (cs++ds) (vs++us):=by
 induction cs generalizing vs with
 |nil=>cases vs<;>simp_all[cy]
 |cons c cs ih=>cases vs<;>simp_all[cy]
theorem Fb{I:Nat->Nat}{w:World}{b:Nat}:∀{off:Nat}{cs:List D},nC φ I w b off cs->∀{j:Nat}{c:D},cs[j]?=some c ->
  ∃x,w.cell? ⟨b,off+j,none⟩=some x/\x.oneCell'=true/\bR φ I w c x
 |off,[],_,j,c,hc=>by simp at hc
 |off,c::cs,h,j,x,hx=>by
  simp only[nC]at h;cases j with
  |zero=>simp at hx;subst hx;exact h.1
  |succ j =>
   have:=Fb h.2 (j:=j) (by simpa using hx)
   rwa [pE,qT 1 j]at this
theorem wh{I:Nat->Nat}{w:World}{b:Nat}:∀{off:Nat}{cs:List D},(∀(j:Nat)(c:D),cs[j]?=some c->∃x,w.cell? ⟨b,off+j,none⟩=some x/\x.oneCell'=true/\bR φ I w c x)->nC φ I w b off cs
 |off,[],_=>by simp[nC]
 |off,c::cs,h=>by
  simp only[nC];refine⟨h 0 c rfl,wh λj x hx=>?_⟩
  have:=h (j+1) x (by simpa using hx)
  rwa [<-Nat.add_assoc,Nat.add_right_comm]at this
theorem nY{I:Nat->Nat}{w:World}{b es:Nat}:∀{off:Nat}{xs:List (List D)},jE φ I w b es off xs->∀{r:Nat}{row:List D},xs[r]?=some row ->
  row.length=es/\nC φ I w b (off+r*es) row
 |off,[],_,r,row,hc=>by simp at hc
 |off,x::xs,h,r,row,hx=>by
  simp only[jE]at h;cases r with
  |zero=>simp at hx;subst hx;simpa using⟨h.1,h.2.1⟩
  |succ r =>
   have:=nY h.2.2 (r:=r) (by simpa using hx)
   rw[qU]
   rwa [pE,qT es]at this
theorem uU{I:Nat->Nat}{w:World}{b es:Nat}:∀{off:Nat}{xs:List (List D)},(∀(r:Nat)(row:List D),xs[r]?=some row->row.length=es/\nC φ I w b (off+r*es) row)->jE φ I w b es off xs
 |off,[],_=>by simp[jE]
 |off,x::xs,h=>by
  simp only[jE];have h0:=h 0 x rfl;refine⟨h0.1,by simpa using h0.2,uU λr row hr=>?_⟩
  have:=h (r+1) row (by simpa using hr)
  rw[qU]at this
  rwa [pE,qT es]
theorem Ii{I:Nat->Nat}{w:World}{b off:Nat}{cs:List D}(h:nC φ I w b off cs):
  ∃vs:List Value,cy φ I w cs vs/\(∀(j:Nat)(v:Value),vs[j]?=some v->w.cell? ⟨b,off+j,none⟩=some v)/\∀v∈vs,v.oneCell'=true:=by
 induction cs generalizing off with
 |nil=>exact⟨[],by simp[cy],by simp,by simp⟩
 |cons c cs ih =>
  simp only[nC]at h;obtain⟨⟨x,hx,h1,hd⟩,hr⟩:=h;obtain⟨vs,hv,hc,ho⟩:=ih hr;refine⟨x::vs,by simp only[cy];exact⟨hd,hv⟩,λj v hj=>?_,by simpa using⟨h1,ho⟩⟩
  cases j with
  |zero=>simp at hj;subst hj;simpa using hx
  |succ j =>
   have:=hc j v (by simpa using hj)
   rwa [pE,qT 1 j]at this
theorem Ni{I:Nat->Nat}{w:World}{b off:Nat}{cs:List D}{vs:List Value}(h:cy φ I w cs vs)
  (hc:∀(j:Nat)(v:Value),vs[j]?=some v->w.cell? ⟨b,off+j,none⟩=some v)(h1:∀v∈vs,v.oneCell'=true):nC φ I w b off cs :=
 wh λ_ _ hj =>
  let ⟨v,hv,hd⟩:=A8 h hj
  ⟨v,hc _ v hv,h1 v (kU hv),hd⟩
end
end Go.VS
namespace Go.VS
def O.gM:O->Option Nat
 | .aG es _ _=>some es
 | .gJ es _=>some es
 |_=>none
def O.len:O->Nat
 | .aG _ _ rows=>rows.length
 | .gJ _ rows=>rows.length
 |_=>0
def O.tL:O->Bool
 | .lp ..=>true
 |_=>false
def O.live:O->Bool
 | .dead=>false
 |_=>true
def xZ(CS:Array Value):Prop:=∀x∈CS.toList,x.oneCell'=true
def nD(o o':Option Obj):Prop:=∀CS T,o=some (.cells CS T (0,0))->∃rH T',o'=some (.cells rH T' (0,0))/\CS.size<=rH.size/\(xZ CS->xZ rH)
theorem nD.of_eq{o o':Option Obj}(h:o'=o):nD o o':=λCS T hc=>⟨CS,T,by rw[h];exact hc,gf _,id⟩
theorem nD.trans{o o' Y0:Option Obj}(a:nD o o')(b:nD o' Y0):nD o Y0:=λCS T hc =>
 let ⟨rH,T',h1,h2,h3⟩:=a CS T hc
 let ⟨Tf,T2,k1,k2,k3⟩:=b rH T' h1
 ⟨Tf,T2,k1,nh h2 k2,λh=>k3 (h3 h)⟩
def Ij:Value->Bool
 | .pointer (some _)=>true
 |_=>false
theorem ahu{v:Value}(h:Ij v=true):v.oneCell'=true:=by
 cases v<;>simp[Ij]at h;rfl
section
variable (φ:fj)
mutual
def aI(h:List O)(g:Gh)(w:World):V->Value->Prop
 | .u,_=>True
 | .kA,v=>v=undef
 | .d x,v=>bR φ g.I w x v
 | .loc n r c,v=>n<h.length/\Ij v=true/\∀es,(aV h n).gM=some es->v = .pointer (some ⟨g.β n,g.o n+r*es+c,none⟩)
 | .aR n off len,v=>n<h.length/\v.oneCell'=true/\∀es,(aV h n).gM=some es->∃cap,v = .slice (some ⟨g.β n,g.o n+off*es,none⟩) len cap/\len<=cap/\(aV h n).len<=off+cap /\
   ∃CS T,w.heap[g.β n]?=some (.cells CS T (0,0))/\g.o n+(off+cap)*es<=CS.size/\xZ CS
 | .jc n off len,v=>n<h.length/\v.oneCell'=true/\∀es,(aV h n).gM=some es->∃cap,v = .slice (some ⟨g.β n,g.o n+off*es,none⟩) len cap/\len<=cap/\(aV h n).len=off+cap /\
   ∃CS T,w.heap[g.β n]?=some (.cells CS T (0,0))/\g.o n+(off+cap)*es<=CS.size/\xZ CS
 | .iO _,v=>∃ad:Addr,v = .slice (some ad) 0 0
 | .mp n,v=>n<h.length/\v.oneCell'=true/\∀kv,aV h n = .mp kv->v = .map (some (g.β n))
 | .rf cs,v=>∃b off us,v = .pointer (some ⟨b,off,none⟩)/\off+cs.length<=g.I b/\bT h g w cs us/\∀(j:Nat)(u:Value),us[j]?=some u->w.cell? ⟨b,off+j,none⟩=some u/\u.oneCell'=true
 | .jh n,v=>n<h.length/\v.oneCell'=true/\((aV h n).tL=true->v = .func (.yield (g.β n)) #[] #[])
 | .fn f a b,v=>∃A B,v = .func (.func (φ f)) A B/\bT h g w a A.toList/\bT h g w b B.toList
 | .ag cs,v=>∃A,v = .agg A/\bT h g w cs A.toList/\∀x∈A.toList,x.oneCell'=true
 | .tu vs,v=>∃A,v = .tuple A/\bT h g w vs A.toList
def bT(h:List O)(g:Gh)(w:World):List V->List Value->Prop
 | [],[]=>True
 |c::cs,v::vs=>aI h g w c v/\bT h g w cs vs
 |_,_=>False
end
def wj(h:List O)(g:Gh)(w:World)(b es o:Nat)(rows:List (List V)):Prop :=
 ∀(r:Nat)(row:List V),rows[r]?=some row->row.length=es /\
  ∀(j:Nat)(c:V),row[j]?=some c->∃x,w.cell? ⟨b,o+r*es+j,none⟩=some x/\x.oneCell'=true/\aI φ h g w c x
def uV(h:List O)(g:Gh)(w:World)(kv:List (D×V))(es:List MapEntry):Prop :=
 kv.length=es.length/\∀(i:Nat)(p:D×V)(e:MapEntry),kv[i]?=some p->es[i]?=some e->bR φ g.I w p.1 e.key/\aI φ h g w p.2 e.val
def wm:Ex->Option Code
 | .normal=>none
 | .exit id=>some (.exit id)
 | .ret=>some .ret
def C2(h:List O)(g:Gh)(w:World)(env:List (Nat×V))(tmps:Array Value):Prop:=∀p∈env,aI φ h g w p.2 (tmps.getD p.1 undef)
def gz(h:List O)(g:Gh)(w:World)(b o:Nat):O->Prop
 | .aG es ex rows=>(∃CS T,w.heap[b]?=some (.cells CS T (0,0))/\o+es*rows.length<=CS.size)/\jE φ g.I w b es o rows /\
   (if ex then g.I b<=o else g.I b=o+es*rows.length)
 | .gJ es rows=>(∃CS T,w.heap[b]?=some (.cells CS T (0,0))/\o+es*rows.length<=CS.size)/\wj φ h g w b es o rows/\g.I b<=o
 | .mp kv=>∃ES kK,w.heap[b]?=some (.map ES kK)/\uV φ h g w kv ES.toList/\g.I b=0
 | .lp ps a c e env=>∃(r:Loop)(nt:Nat),w.heap[b]?=some (.loop r)/\r.params=ps.toArray/\φ.lk ps a c r.assign r.body nt/\nt<=r.tmps.size/\C2 φ h g w env r.tmps /\
   r.state=(if e = .normal then .ready else .done)/\r.pending=wm e/\g.I b=0
 | .dead=>True
structure eU(h:List O)(g:Gh)(w:World):Prop where
 obj:∀n,gz φ h g w (g.β n) (g.o n) (aV h n)
 inj:∀n m,(aV h n).live=true->(aV h m).live=true->g.β n=g.β m->n=m
 new:∀b,w.heap.size<=b->g.I b=0
structure gS(h:List O)(g:Gh)(w:World)(h':List O)(g':Gh)(w':World):Prop where
 ext:Ext g.I w g'.I w'
 len:h.length<=h'.length
 arr:∀n es,n<h.length->(aV h' n).gM=some es->(aV h n).gM=some es/\g'.β n=g.β n/\g'.o n=g.o n/\(aV h' n).len=(aV h n).len/\nD w.heap[g.β n]? w'.heap[g.β n]?
 mp:∀n kv,n<h.length->aV h' n = .mp kv->(∃kv',aV h n = .mp kv')/\g'.β n=g.β n
 lp:∀n,n<h.length->(aV h' n).tL=true->(aV h n).tL=true/\g'.β n=g.β n
variable {φ}
theorem gS.refl(h:List O)(g:Gh)(w:World):gS h g w h g w :=
 ⟨Ext.refl _ _,gf _,λ_ _ _ he=>⟨he,rfl,rfl,rfl,nD.of_eq rfl⟩,λ_ kv _ hk=>⟨⟨kv,hk⟩,rfl⟩,λ_ _ hk=>⟨hk,rfl⟩⟩
mutual
theorem lI{h h':List O}{g g':Gh}{w w':World}(hle:gS h g w h' g' w'):∀{x:V}{v:Value},aI φ h g w x v->aI φ h' g' w' x v
 | .u,v,_=>by simp[aI]
 | .kA,v,hr=>by simpa[aI]using hr
 | .d x,v,hr=>by simp only[aI]at hr⊢;exact xY hle.ext hr
 | .loc n r c,v,hr=>by
  simp only[aI]at hr⊢;refine⟨pz hr.1 hle.len,hr.2.1,λes he=>?_⟩
  obtain⟨h1,h2,h3,_⟩:=hle.arr n es hr.1 he;rw[h2,h3];exact hr.2.2 es h1
 | .aR n off len,v,hr=>by
  simp only[aI]at hr⊢;refine⟨pz hr.1 hle.len,hr.2.1,λes he=>?_⟩
  obtain⟨h1,h2,h3,h4,h5⟩:=hle.arr n es hr.1 he;obtain⟨cap,hv,hl,hm,CS,T,hb,hs,h1c⟩:=hr.2.2 es h1;obtain⟨rH,T',hb',hs',Tg⟩:=h5 CS T hb;refine⟨cap,by rw[h2,h3];exact hv,hl,by rw[h4];exact hm,rH,T',by rw[h2];exact hb',by rw[h3];exact nh hs hs',Tg h1c⟩
 | .jc n off len,v,hr=>by
  simp only[aI]at hr⊢;refine⟨pz hr.1 hle.len,hr.2.1,λes he=>?_⟩
  obtain⟨h1,h2,h3,h4,h5⟩:=hle.arr n es hr.1 he;obtain⟨cap,hv,hl,hm,CS,T,hb,hs,h1c⟩:=hr.2.2 es h1;obtain⟨rH,T',hb',hs',Tg⟩:=h5 CS T hb;refine⟨cap,by rw[h2,h3];exact hv,hl,by rw[h4];exact hm,rH,T',by rw[h2];exact hb',by rw[h3];exact nh hs hs',Tg h1c⟩
 | .iO _,v,hr=>by simpa only[aI]using hr
 | .mp n,v,hr=>by
  simp only[aI]at hr⊢;refine⟨pz hr.1 hle.len,hr.2.1,λkv hk=>?_⟩
  obtain⟨⟨kv',hk'⟩,h2⟩:=hle.mp n kv hr.1 hk;rw[h2];exact hr.2.2 kv' hk'
 | .rf cs,v,hr=>by
  simp only[aI]at hr⊢;obtain⟨b,off,us,rfl,hI,hv,hc⟩:=hr;have hl:∀{xs:List V}{vs:List Value},bT φ h g w xs vs->xs.length=vs.length:=by
   intro xs;induction xs with
   |nil=>intro vs hr;cases vs<;>simp_all[bT]
   |cons x xs ih=>intro vs hr;cases vs<;>simp_all[bT];exact ih hr.2
  refine⟨b,off,us,rfl,nh hI (hle.ext.le b),x6 hle hv,λj u hj=>?_⟩
  have hj':j<us.length:=(rW.1 hj).1;have:=hl hv;rw[hle.ext.cell b (off+j) (by omega)]
  exact hc j u hj
 | .jh n,v,hr=>by
  simp only[aI]at hr⊢;refine⟨pz hr.1 hle.len,hr.2.1,λhk=>?_⟩
  obtain⟨hk',h2⟩:=hle.lp n hr.1 hk;rw[h2];exact hr.2.2 hk'
 | .fn f a b,v,hr=>by
  simp only[aI]at hr⊢;obtain⟨A,B,rfl,ha,hb⟩:=hr;exact⟨A,B,rfl,x6 hle ha,x6 hle hb⟩
 | .ag cs,v,hr=>by
  simp only[aI]at hr⊢;obtain⟨A,rfl,ha,h1⟩:=hr;exact⟨A,rfl,x6 hle ha,h1⟩
 | .tu cs,v,hr=>by
  simp only[aI]at hr⊢;obtain⟨A,rfl,ha⟩:=hr;exact⟨A,rfl,x6 hle ha⟩
theorem x6{h h':List O}{g g':Gh}{w w':World}(hle:gS h g w h' g' w'):∀{xs:List V}{vs:List Value},bT φ h g w xs vs->bT φ h' g' w' xs vs
 | [],[],_=>by simp[bT]
 |c::cs,v::vs,hr=>by
  simp only[bT]at hr⊢;exact⟨lI hle hr.1,x6 hle hr.2⟩
 | [],_::_,hr=>by simp[bT]at hr
 |_::_,[],hr=>by simp[bT]at hr
end
theorem oP{h:List O}{g:Gh}{w:World}:∀{cs:List V}{vs:List Value},bT φ h g w cs vs->cs.length=vs.length
 | [],[],_=>rfl
 |_::_,_::_,h=>by simp only[bT]at h;simp[oP h.2]
 | [],_::_,h=>by simp[bT]at h
 |_::_,[],h=>by simp[bT]at h
theorem C3{h:List O}{g:Gh}{w:World}:∀{cs:List V}{vs:List Value},bT φ h g w cs vs->∀{j:Nat}{c:V},cs[j]?=some c->∃v,vs[j]?=some v/\aI φ h g w c v
 | [],_,_,j,c,hc=>by simp at hc
 |c::cs,[],h,_,_,_=>by simp[bT]at h
 |c::cs,v::vs,h,j,x,hx=>by
  simp only[bT]at h;cases j with
  |zero=>simp at hx;subst hx;exact⟨v,rfl,h.1⟩
  |succ j=>simpa using C3 h.2 (j:=j) (by simpa using hx)
theorem Ik{h:List O}{g:Gh}{w:World}{x:V}{v:Value}(hr:aI φ h g w x v):aI φ h g w x.wk v:=by
 cases x with
 |jc n off len =>
  simp only[V.wk,aI]at hr⊢;refine⟨hr.1,hr.2.1,λes he=>?_⟩
  obtain⟨cap,h1,h2,h3,h4⟩:=hr.2.2 es he;exact⟨cap,h1,h2,by omega,h4⟩
 |_=>exact hr
theorem ahv{h:List O}{g:Gh}{w:World}{cs:List V}{vs:List Value}(hr:bT φ h g w cs vs):bT φ h g w (cs.map V.wk) vs:=by
 induction cs generalizing vs with
 |nil=>cases vs<;>simp_all[bT]
 |cons c cs ih =>
  cases vs with
  |nil=>simp[bT]at hr
  |cons v vs =>
   simp only[bT]at hr;simp only[gk,bT];exact⟨Ik hr.1,ih hr.2⟩
theorem rI{h:List O}{g:Gh}{w:World}{cs ds:List V}{vs us:List Value}(hr:bT φ h g w cs vs)(k:bT φ h g w ds us):bT φ h g w (cs++ds) (vs++us):=by
 induction cs generalizing vs with
 |nil=>cases vs<;>simp_all[bT]
 |cons c cs ih=>cases vs<;>simp_all[bT]
theorem Y1{h:List O}{g:Gh}{w:World}{cs:List V}{vs:List Value}(hr:bT φ h g w cs vs)(n:Nat):bT φ h g w (cs.take n) (vs.take n):=by
 induction cs generalizing vs n with
 |nil=>cases vs<;>simp_all[bT]
 |cons c cs ih=>cases vs<;>cases n<;>simp_all[bT]
theorem Il{h:List O}{g:Gh}{w:World}{cs:List V}{vs:List Value}(hr:bT φ h g w cs vs)(n:Nat):bT φ h g w (cs.drop n) (vs.drop n):=by
 induction cs generalizing vs n with
 |nil=>cases vs<;>simp_all[bT]
 |cons c cs ih=>cases vs<;>cases n<;>simp_all[bT]
theorem zx{h:List O}{g:Gh}{w:World}{cs:List D}{vs:List Value}(hr:cy φ g.I w cs vs):bT φ h g w (cs.map V.d) vs:=by
 induction cs generalizing vs with
 |nil=>cases vs<;>simp_all[cy,bT]
 |cons c cs ih=>cases vs<;>simp_all[cy,bT,aI]
theorem zy{h:List O}{g:Gh}{w:World}:∀{cs:List V}{ds:List D}{vs:List Value},fu cs=some ds->bT φ h g w cs vs->cy φ g.I w ds vs
 | [],ds,vs,hd,hr=>by simp[fu]at hd;subst hd;cases vs<;>simp_all[bT,cy]
 |c::cs,ds,[],_,hr=>by simp[bT]at hr
 |c::cs,ds,v::vs,hd,hr=>by
  cases c<;>simp only[fu,reduceCtorEq]at hd;rename_i x;cases hq:fu cs with
  |none=>simp[hq]at hd
  |some es =>
   simp[hq]at hd;subst hd;simp only[bT,aI,cy]at hr⊢;exact⟨hr.1,zy hq hr.2⟩
theorem ahw(ds:List D):fu (ds.map V.d)=some ds:=by
 induction ds with
 |nil=>rfl
 |cons d ds ih=>simp[fu,ih]
theorem Fc:∀{cs:List V}{ds:List D},fu cs=some ds->cs=ds.map V.d
 | [],ds,h=>by simp[fu]at h;subst h;rfl
 |c::cs,ds,h=>by
  cases c<;>simp only[fu,reduceCtorEq]at h;cases hq:fu cs with
  |none=>simp[hq]at h
  |some es=>simp[hq]at h;subst h;simp[Fc hq]
theorem ahx{v:Value}(h:v.oneCell'=true):v.cells=#[v]:=by
 cases v<;>first |rfl |simp[Value.oneCell']at h
theorem ahy{I:Nat->Nat}{w:World}{x:D}{v:Value}(hr:bR φ I w x v)(hx:∀cs,x≠.ag cs)(hj:x≠.B4):v.oneCell'=true:=by
 cases x<;>simp only[bR]at hr
 case ag cs=>exact absurd rfl (hx cs)
 case B4=>exact absurd rfl hj
 all_goals first
  |(subst hr;rfl)
  |(obtain⟨_,rfl,_⟩:=hr;rfl)
  |(obtain⟨_,_,rfl,_⟩:=hr;rfl)
theorem zA{h:List O}{g:Gh}{w:World}{x:V}{v:Value}(hr:aI φ h g w x v)(hx:x.cells=[x])(h1:v.oneCell'=true):
  bT φ h g w x.cells v.cells.toList/\∀y∈v.cells.toList,y.oneCell'=true:=by
 rw[hx,ahx h1];exact⟨by simpa[bT]using hr,by simpa using h1⟩
theorem Fe{h:List O}{g:Gh}{w:World}{x:V}{v:Value}(hr:aI φ h g w x v)(hx:x.known=true):
  bT φ h g w x.cells v.cells.toList/\∀y∈v.cells.toList,y.oneCell'=true:=by
 cases x with
 |u=>simp[V.known]at hx
 |kA=>simp[V.known]at hx
 |tu vs=>simp[V.known]at hx
 |d y =>
  cases y with
  |ag cs =>
   simp only[aI,bR]at hr;obtain⟨A,rfl,ha,h1⟩:=hr;exact⟨zx ha,h1⟩
  |B4=>simp[V.known]at hx
  |_=>exact zA hr rfl (ahy (by simpa only[aI]using hr) (by intro _ hh;cases hh) (by intro hh;cases hh))
 |loc n r c=>exact zA hr rfl (by simp only[aI]at hr;exact ahu hr.2.1)
 |aR n off len=>exact zA hr rfl (by simp only[aI]at hr;exact hr.2.1)
 |jc n off len=>exact zA hr rfl (by simp only[aI]at hr;exact hr.2.1)
 |mp n=>exact zA hr rfl (by simp only[aI]at hr;exact hr.2.1)
 |jh n=>exact zA hr rfl (by simp only[aI]at hr;exact hr.2.1)
 |rf cs =>
  refine zA hr rfl ?_;simp only[aI]at hr;obtain⟨b,off,us,rfl,_⟩:=hr;rfl
 |iO es =>
  refine zA hr rfl ?_;simp only[aI]at hr;obtain⟨ad,rfl⟩:=hr;rfl
 |fn f a b =>
  refine zA hr rfl ?_;simp only[aI]at hr;obtain⟨A,B,rfl,_⟩:=hr;rfl
 |ag cs =>
  simp only[aI]at hr;obtain⟨A,rfl,ha,h1⟩:=hr;exact⟨ha,h1⟩
structure zB(h:List O)(g:Gh)(w:World)(h':List O)(w':World)(n:Nat):Prop where
 arr:∀es,(aV h' n).gM=some es->(aV h n).gM=some es/\(aV h' n).len=(aV h n).len/\nD w.heap[g.β n]? w'.heap[g.β n]?
 mp:∀kv,aV h' n = .mp kv->∃kv',aV h n = .mp kv'
 lp:(aV h' n).tL=true->(aV h n).tL=true
theorem zB.refl(h:List O)(g:Gh)(w:World)(n:Nat):zB h g w h w n:=⟨λ_ he=>⟨he,rfl,nD.of_eq rfl⟩,λkv hk=>⟨kv,hk⟩,id⟩
theorem zB.trans{h h' h'':List O}{g g':Gh}{w w' w'':World}{n:Nat}(a:zB h g w h' w' n)(b:zB h' g' w' h'' w'' n)(hb:g'.β n=g.β n):zB h g w h'' w'' n where
 arr es he:=by
  obtain⟨h1,h2,h3⟩:=b.arr es he;obtain⟨k1,k2,k3⟩:=a.arr es h1;rw[hb]at h3;exact⟨k1,h2.trans k2,k3.trans h3⟩
 mp kv hk:=let ⟨kv',h1⟩:=b.mp kv hk;a.mp kv' h1
 lp hk:=a.lp (b.lp hk)
theorem gS.at{h h':List O}{g g':Gh}{w w':World}(hle:gS h g w h' g' w'){n:Nat}(hn:n<h.length):zB h g w h' w' n :=
 ⟨λes he=>let ⟨h1,_,_,h2,h3⟩:=hle.arr n es hn he;⟨h1,h2,h3⟩,λkv hk=>(hle.mp n kv hn hk).1,λhk=>(hle.lp n hn hk).1⟩
structure Frame(m:Nat)(h:List O)(g:Gh)(w:World)(h':List O)(g':Gh)(w':World):Prop where
 ext:Ext g.I w g'.I w'
 size:w.heap.size<=w'.heap.size
 os:w'.os=w.os
 tape:w'.tape=w.tape
 output:w'.output=w.output
 oQ:∀n,n<m->g'.β n=g.β n/\g'.o n=g.o n
 keep:∀b,b<w.heap.size->(∀n,(aV h n).live=true->g.β n≠b)->w'.heap[b]?=w.heap[b]?/\g'.I b=g.I b
 mG:∀n,(aV h' n).live=true->(∃k,(aV h k).live=true/\g.β k=g'.β n)\/w.heap.size<=g'.β n
 oR:∀n,n<m->zB h g w h' w' n
theorem Frame.refl(m:Nat)(h:List O)(g:Gh)(w:World):Frame m h g w h g w :=
 ⟨Ext.refl _ _,gf _,rfl,rfl,rfl,λ_ _=>⟨rfl,rfl⟩,λ_ _ _=>⟨rfl,rfl⟩,λn hn=>.inl ⟨n,hn,rfl⟩,λn _=>zB.refl _ _ _ n⟩
theorem Frame.trans{m:Nat}{h h' h'':List O}{g g' g'':Gh}{w w' w'':World}(a:Frame m h g w h' g' w')(b:Frame m h' g' w' h'' g'' w''):Frame m h g w h'' g'' w'' where
 ext:=a.ext.trans b.ext
 size:=nh a.size b.size
 os:=b.os.trans a.os
 tape:=b.tape.trans a.tape
 output:=b.output.trans a.output
 oQ n hn:=⟨(b.oQ n hn).1.trans (a.oQ n hn).1,(b.oQ n hn).2.trans (a.oQ n hn).2⟩
 keep k hk hn:=by
  have h1:=a.keep k hk hn;have h2:=b.keep k (pz hk a.size) (λn hl he=>by
   rcases a.mG n hl with⟨j,hj,hb⟩ |hs
   .exact hn j hj (hb.trans he)
   .omega)
  exact⟨h2.1.trans h1.1,h2.2.trans h1.2⟩
 mG n hn:=by
  rcases b.mG n hn with⟨k,hk,hb⟩ |hs
  .rcases a.mG k hk with⟨j,hj,hc⟩ |hs'
   .exact .inl ⟨j,hj,hc.trans hb⟩
   .exact .inr (by omega)
  .exact .inr (by have:=a.size;omega)
 oR n hn:=(a.oR n hn).trans (b.oR n hn) (a.oQ n hn).1
end
end Go.VS
namespace Go.VS
section
variable {φ:fj}
theorem Im{w w':World}{b:Nat}(h:w'.heap[b]?=w.heap[b]?)(i:Nat):w'.cell? ⟨b,i,none⟩=w.cell? ⟨b,i,none⟩:=by
 simp only[World.cell?,h]
theorem A9{h:List O}{n:Nat}(hl:(aV h n).live=true):n<h.length:=by
 rcases kZ n h.length with hlt |hge
 .exact hlt
 .simp[aV,List.getD,nO hge,O.live]at hl
theorem Ba{o:O}{es:Nat}(h:o.gM=some es):o.live=true:=by cases o<;>simp_all[O.gM,O.live]
theorem Y2{I I':Nat->Nat}{w w':World}(hE:Ext I w I' w'){b es o:Nat}{xs:List (List D)}(hc:∀i,w'.cell? ⟨b,i,none⟩=w.cell? ⟨b,i,none⟩)
  (h:jE φ I w b es o xs):jE φ I' w' b es o xs :=
 uU λ_ _ hr =>
  let ⟨h1,h2⟩:=nY h hr
  ⟨h1,wh λ_ _ hj =>
   let ⟨x,hx,h3,h4⟩:=Fb h2 hj
   ⟨x,by rw[hc];exact hx,h3,xY hE h4⟩⟩
theorem ahz{h h':List O}{g g':Gh}{w w':World}(hle:gS h g w h' g' w'){b es o:Nat}{rows:List (List V)}
  (hc:∀i,w'.cell? ⟨b,i,none⟩=w.cell? ⟨b,i,none⟩)(hr:wj φ h g w b es o rows):wj φ h' g' w' b es o rows:=λr row hrow =>
 let ⟨h1,h2⟩:=hr r row hrow
 ⟨h1,λj c hj =>
  let ⟨x,hx,h3,h4⟩:=h2 j c hj
  ⟨x,by rw[hc];exact hx,h3,lI hle h4⟩⟩
theorem Th{h h':List O}{g g':Gh}{w w':World}(hle:gS h g w h' g' w'){kv:List (D×V)}{es:List MapEntry}
  (hr:uV φ h g w kv es):uV φ h' g' w' kv es :=
 ⟨hr.1,λi p e hp he=>let ⟨h1,h2⟩:=hr.2 i p e hp he;⟨xY hle.ext h1,lI hle h2⟩⟩
theorem Ti{h h':List O}{g g':Gh}{w w':World}(hle:gS h g w h' g' w'){env:List (Nat×V)}{tmps:Array Value}
  (hr:C2 φ h g w env tmps):C2 φ h' g' w' env tmps:=λp hp=>lI hle (hr p hp)
theorem C4{h h':List O}{g g':Gh}{w w':World}(hle:gS h g w h' g' w'){b o:Nat}{x:O}(hb:w'.heap[b]?=w.heap[b]?)(hI:g'.I b=g.I b)
  (hr:gz φ h g w b o x):gz φ h' g' w' b o x:=by
 have hc:=Im hb;cases x with
 |dead=>trivial
 |aG es ex rows =>
  obtain⟨h1,h2,h3⟩:=hr;exact⟨by rw[hb];exact h1,Y2 hle.ext hc h2,by rw[hI];exact h3⟩
 |gJ es rows =>
  obtain⟨h1,h2,h3⟩:=hr;exact⟨by rw[hb];exact h1,ahz hle hc h2,by rw[hI];exact h3⟩
 |mp kv =>
  obtain⟨ES,kK,h1,h2,h3⟩:=hr;exact⟨ES,kK,by rw[hb];exact h1,Th hle h2,by rw[hI];exact h3⟩
 |lp ps a c e env =>
  obtain⟨r,nt,h1,h0,h2,h3,h4,h5,h6,h7⟩:=hr;exact⟨r,nt,by rw[hb];exact h1,h0,h2,h3,Ti hle h4,h5,h6,by rw[hI];exact h7⟩
theorem ahA{h:List O}{g:Gh}{w:World}{b o:Nat}{x:O}(hr:gz φ h g w b o x)(hl:x.live=true):b<w.heap.size:=by
 have key:∀{y:Obj},w.heap[b]?=some y->b<w.heap.size:=λhy=>by
  rcases kZ b w.heap.size with hlt |hge
  .exact hlt
  .simp[JR hge]at hy
 cases x with
 |dead=>simp[O.live]at hl
 |aG es ex rows=>obtain⟨⟨CS,T,h1,_⟩,_⟩:=hr;exact key h1
 |gJ es rows=>obtain⟨⟨CS,T,h1,_⟩,_⟩:=hr;exact key h1
 |mp kv=>obtain⟨ES,kK,h1,_⟩:=hr;exact key h1
 |lp ps a c e env=>obtain⟨r,nt,h1,_⟩:=hr;exact key h1
theorem eU.block{h:List O}{g:Gh}{w:World}(hr:eU φ h g w){n:Nat}(hl:(aV h n).live=true):g.β n<w.heap.size:=ahA (hr.obj n) hl
structure gN(w w':World):Prop where
 size:w.heap.size<=w'.heap.size
 same:∀b,b<w.heap.size->w'.heap[b]?=w.heap[b]?
 os:w'.os=w.os
 tape:w'.tape=w.tape
 output:w'.output=w.output
theorem gN.refl(w:World):gN w w:=⟨gf _,λ_ _=>rfl,rfl,rfl,rfl⟩
theorem gN.trans{a b c:World}(h:gN a b)(k:gN b c):gN a c :=
 ⟨nh h.size k.size,λi hi=>(k.same i (pz hi h.size)).trans (h.same i hi),k.os.trans h.os,k.tape.trans h.tape,k.output.trans h.output⟩
theorem gN.alloc(w:World)(o:Obj):gN w (w.alloc o):=
 ⟨by simp,λb hb=>RowKit.Below.heap_alloc w o b hb,rfl,rfl,rfl⟩
theorem gN.drew(w:World):gN w w.drew:=⟨gf _,λ_ _=>rfl,rfl,rfl,rfl⟩
def Gh.dZ(g:Gh)(I:Nat->Nat):Gh:=⟨g.β,g.o,I⟩
def iL(I:Nat->Nat)(b k:Nat):Nat->Nat:=λx=>if x=b then k else I x
theorem C5{I I':Nat->Nat}{w w':World}(hg:gN w w')(hI:∀b,b<w.heap.size->I' b=I b)(h0:∀b,w.heap.size<=b->I b=0):Ext I w I' w' :=
 ⟨λb=>by
  rcases kZ b w.heap.size with h |h
  .rw[hI b h];exact gf _
  .rw[h0 b h];exact BX _,
  λb i hi=>by
  rcases kZ b w.heap.size with h |h
  .exact Im (hg.same b h) i
  .rw[h0 b h]at hi;omega⟩
theorem Tj{h:List O}{g:Gh}{w w':World}{I':Nat->Nat}(hr:eU φ h g w)(hg:gN w w')(hI:∀b,b<w.heap.size->I' b=g.I b):gS h g w h (g.dZ I') w' where
 ext:=C5 hg hI hr.new
 len:=gf _
 arr n es _ he:=⟨he,rfl,rfl,rfl,nD.of_eq (hg.same _ (hr.block (Ba he)))⟩
 mp n kv _ hk:=⟨⟨kv,hk⟩,rfl⟩
 lp n _ hk:=⟨hk,rfl⟩
theorem ahB{h:List O}{g:Gh}{w w':World}{I':Nat->Nat}(hr:eU φ h g w)(hg:gN w w')(hI:∀b,b<w.heap.size->I' b=g.I b)
  (hnew:∀b,w'.heap.size<=b->I' b=0):eU φ h (g.dZ I') w' where
 obj n:=by
  by_cases hl:(aV h n).live=true
  .have hb:=hr.block hl
   exact C4 (Tj hr hg hI) (hg.same _ hb) (hI _ hb) (hr.obj n)
  .cases hx:aV h n<;>simp_all[O.live,gz]
 inj:=hr.inj
 new:=hnew
theorem C6(m:Nat){h:List O}{g:Gh}{w w':World}{I':Nat->Nat}(hr:eU φ h g w)(hg:gN w w')(hI:∀b,b<w.heap.size->I' b=g.I b):Frame m h g w h (g.dZ I') w' where
 ext:=C5 hg hI hr.new
 size:=hg.size
 os:=hg.os
 tape:=hg.tape
 output:=hg.output
 oQ _ _:=⟨rfl,rfl⟩
 keep b hb _:=⟨hg.same b hb,hI b hb⟩
 mG n hn:=.inl ⟨n,hn,rfl⟩
 oR n _:=⟨λ_ he=>⟨he,rfl,nD.of_eq (hg.same _ (hr.block (Ba he)))⟩,λkv hk=>⟨kv,hk⟩,id⟩
def Gh.add(g:Gh)(n b o:Nat)(I:Nat->Nat):Gh:=⟨λk=>if k=n then b else g.β k,λk=>if k=n then o else g.o k,I⟩
theorem pY{h:List O}{x:O}{n:Nat}(hn:n<h.length):aV (h++[x]) n=aV h n:=by
 simp[aV,List.getD,sQ hn]
theorem C7{h:List O}{x:O}:aV (h++[x]) h.length=x:=by simp[aV,List.getD]
theorem uW{h:List O}{x:O}{n:Nat}(hn:h.length<n):aV (h++[x]) n = .dead:=by
 have:(h++[x]).length<=n:=by simp;omega
 simp[aV,List.getD,nO this]
theorem zC{h:List O}{g:Gh}{w w':World}{I':Nat->Nat}{b o:Nat}(x:O)(hr:eU φ h g w)(hg:gN w w')(hI:∀b,b<w.heap.size->I' b=g.I b):
  gS h g w (h++[x]) (g.add h.length b o I') w' where
 ext:=C5 hg hI hr.new
 len:=by simp
 arr n es hn he:=by
  rw[pY hn]at he⊢;have hne:n≠h.length:=by omega
  exact⟨he,by simp[Gh.add,hne],by simp[Gh.add,hne],rfl,nD.of_eq (hg.same _ (hr.block (Ba he)))⟩
 mp n kv hn hk:=by
  rw[pY hn]at hk;have hne:n≠h.length:=by omega
  exact⟨⟨kv,hk⟩,by simp[Gh.add,hne]⟩
 lp n hn hk:=by
  rw[pY hn]at hk;have hne:n≠h.length:=by omega
  exact⟨hk,by simp[Gh.add,hne]⟩
theorem Y3{h:List O}{g:Gh}{w w':World}{I':Nat->Nat}{b o:Nat}{x:O}(hr:eU φ h g w)(hg:gN w w')(hI:∀b,b<w.heap.size->I' b=g.I b)
  (hnew:∀b,w'.heap.size<=b->I' b=0)(hb:w.heap.size<=b)(hx:gz φ (h++[x]) (g.add h.length b o I') w' b o x):eU φ (h++[x]) (g.add h.length b o I') w' where
 obj n:=by
  rcases sR n h.length with hn |hn |hn
  .have hne:n≠h.length:=by omega
   rw[pY hn];by_cases hl:(aV h n).live=true
   .have hb':=hr.block hl
    have:=C4 (zC (b:=b) (o:=o) x hr hg hI) (hg.same _ hb') (hI _ hb') (hr.obj n);simpa[Gh.add,hne]using this
   .cases hq:aV h n<;>simp_all[O.live,gz]
  .subst hn
   rw[C7];simpa[Gh.add]using hx
  .rw[uW hn]
   trivial
 inj n k hn hk he:=by
  have key:∀n,(aV (h++[x]) n).live=true->n<=h.length:=λn hn=>by
   rcases kZ h.length n with h1 |h1
   .rw[uW h1]at hn;simp[O.live]at hn
   .exact h1
  have kn:=key n hn;have kk:=key k hk;by_cases h1:n=h.length<;>by_cases h2:k=h.length
  .omega
  .have hlt:k<h.length:=by omega
   rw[pY hlt]at hk;have:=hr.block hk;simp[Gh.add,h1,h2]at he;omega
  .have hlt:n<h.length:=by omega
   rw[pY hlt]at hn;have:=hr.block hn;simp[Gh.add,h1,h2]at he;omega
  .have hlt:n<h.length:=by omega
   have hlt':k<h.length:=by omega
   rw[pY hlt]at hn;rw[pY hlt']at hk;simp[Gh.add,h1,h2]at he;exact hr.inj n k hn hk he
 new:=hnew
theorem Tk{m:Nat}{h:List O}{g:Gh}{w w':World}{I':Nat->Nat}{b o:Nat}(x:O)(hr:eU φ h g w)(hg:gN w w')(hI:∀b,b<w.heap.size->I' b=g.I b)
  (hb:w.heap.size<=b)(hm:m<=h.length):Frame m h g w (h++[x]) (g.add h.length b o I') w' where
 ext:=C5 hg hI hr.new
 size:=hg.size
 os:=hg.os
 tape:=hg.tape
 output:=hg.output
 oQ n hn:=by
  have hne:n≠h.length:=by omega
  simp[Gh.add,hne]
 keep b hb _:=⟨hg.same b hb,hI b hb⟩
 mG n hn:=by
  rcases sR n h.length with h1 |h1 |h1
  .have hne:n≠h.length:=by omega
   rw[pY h1]at hn;exact .inl ⟨n,hn,by simp[Gh.add,hne]⟩
  .exact .inr (by simp[Gh.add,h1];exact hb)
  .rw[uW h1]at hn;simp[O.live]at hn
 oR n hn:=(zC x hr hg hI (b:=b) (o:=o)).at (pz hn hm)
structure jS(w w':World)(b:Nat):Prop where
 size:w'.heap.size=w.heap.size
 same:∀k,k≠b->w'.heap[k]?=w.heap[k]?
 os:w'.os=w.os
 tape:w'.tape=w.tape
 output:w'.output=w.output
theorem wq{h:List O}{x:O}{n:Nat}(hn:n<h.length):aV (h.set n x) n=x:=by simp[aV,List.getD,hn]
theorem pZ{h:List O}{x:O}{n k:Nat}(hk:k≠n):aV (h.set n x) k=aV h k:=by
 simp[aV,List.getD,Ne.symm hk]
theorem wu{h:List O}{g:Gh}{w w':World}{I':Nat->Nat}{n:Nat}{x:O}(hr:eU φ h g w)(hl:(aV h n).live=true)(ht:jS w w' (g.β n))
  (hE:Ext g.I w I' w')
  (hx:∀es,x.gM=some es->(aV h n).gM=some es/\x.len=(aV h n).len/\nD w.heap[g.β n]? w'.heap[g.β n]?)
  (hmp:∀kv,x = .mp kv->∃kv',aV h n = .mp kv')(Io:x.tL=true->(aV h n).tL=true:=by intro hh;simp[O.tL]at hh):gS h g w (h.set n x) (g.dZ I') w' where
 ext:=hE
 len:=by simp
 arr k es hk he:=by
  by_cases hkn:k=n
  .subst hkn
   rw[wq hk]at he⊢;exact⟨(hx es he).1,rfl,rfl,(hx es he).2.1,(hx es he).2.2⟩
  .rw[pZ hkn]at he⊢
   have hb:g.β k≠g.β n:=λe=>hkn (hr.inj k n (Ba he) hl e)
   exact⟨he,rfl,rfl,rfl,nD.of_eq (ht.same _ hb)⟩
 mp k kv hk hq:=by
  by_cases hkn:k=n
  .subst hkn
   rw[wq hk]at hq;exact⟨hmp kv hq,rfl⟩
  .rw[pZ hkn]at hq
   exact⟨⟨kv,hq⟩,rfl⟩
 lp k hk hq:=by
  by_cases hkn:k=n
  .subst hkn
   rw[wq hk]at hq;exact⟨Io hq,rfl⟩
  .rw[pZ hkn]at hq
   exact⟨hq,rfl⟩
theorem wx{h:List O}{g:Gh}{w w':World}{I':Nat->Nat}{n:Nat}{x:O}(hr:eU φ h g w)(hl:(aV h n).live=true)(ht:jS w w' (g.β n))
  (hle:gS h g w (h.set n x) (g.dZ I') w')(hI:∀b,b≠g.β n->I' b=g.I b)
  (hx:gz φ (h.set n x) (g.dZ I') w' (g.β n) (g.o n) x):eU φ (h.set n x) (g.dZ I') w' where
 obj k:=by
  by_cases hkn:k=n
  .subst hkn
   rw[wq (A9 hl)];exact hx
  .rw[pZ hkn]
   by_cases hk:(aV h k).live=true
   .have hb:g.β k≠g.β n:=λe=>hkn (hr.inj k n hk hl e)
    exact C4 hle (ht.same _ hb) (hI _ hb) (hr.obj k)
   .cases hq:aV h k<;>simp_all[O.live,gz]
 inj a b ha hb he:=by
  have key:∀k,(aV (h.set n x) k).live=true->(aV h k).live=true:=λk hk=>by
   by_cases hkn:k=n
   .subst hkn;exact hl
   .rwa [pZ hkn]at hk
  exact hr.inj a b (key a ha) (key b hb) he
 new b hb:=by
  have h1:w.heap.size<=b:=by rw[<-ht.size];exact hb
  have h2:=hr.block hl;show I' b=0
  rw[hI b (by omega)]
  exact hr.new b h1
theorem wy{m:Nat}{h:List O}{g:Gh}{w w':World}{I':Nat->Nat}{n:Nat}(x:O)(hl:(aV h n).live=true)(ht:jS w w' (g.β n))
  (hE:Ext g.I w I' w')(hI:∀b,b≠g.β n->I' b=g.I b)(hle:gS h g w (h.set n x) (g.dZ I') w'):Frame m h g w (h.set n x) (g.dZ I') w' where
 ext:=hE
 size:=by rw[ht.size];exact gf _
 os:=ht.os
 tape:=ht.tape
 output:=ht.output
 oQ _ _:=⟨rfl,rfl⟩
 keep b _ hn:=⟨ht.same b (λe=>hn n hl e.symm),hI b (λe=>hn n hl e.symm)⟩
 mG k hk:=by
  by_cases hkn:k=n
  .subst hkn;exact .inl ⟨k,hl,rfl⟩
  .rw[pZ hkn]at hk;exact .inl ⟨k,hk,rfl⟩
 oR k _:=by
  rcases kZ k h.length with h1 |h1
  .exact hle.at h1
  .have h2:aV (h.set n x) k = .dead:=by
    have:(h.set n x).length<=k:=by simpa using h1
    simp[aV,List.getD,nO this]
   exact⟨λes he=>by rw[h2]at he;simp[O.gM]at he,λkv hk=>by rw[h2]at hk;simp at hk,λhk=>by rw[h2]at hk;simp[O.tL]at hk⟩
end
end Go.VS
