import GoSem.Step
import Derived.WalkKit
set_option linter.all false
set_option maxHeartbeats 1000000
namespace Go.VS
def aK:=@if_pos
def dH:=@if_true
def dG:=@if_false
def aE:=@if_neg
def bE:=@Bool.and_eq_true
def B0:=@Classical.choose_spec
def Ao:=@Bool.true_and
def Ap:=@Bool.false_and
def eR:=@Bool.false_eq_true
def vu:=@List.map_congr_left
def sP:=@List.getElem?_append_left
def Aq:=@List.eq_nil_or_concat
def gE:=@List.take_of_length_le
def qK:=@List.drop_eq_nil_of_le
def xz:=@List.findIdx?_cons
def JY:=@List.findIdx?_eq_none_iff
def qL:=@List.any_eq_false
def GG:=@List.findIdx?_eq_some_iff_getElem
def rV:=@List.any_eq_true
def vw:=@List.getElem_mem
def xA:=@List.all_cons
def Wh:=@List.getLast?_append
def Wi:=@List.getLast?_singleton
def GH:=@Bool.or_false
def Ph:=@Bool.or_true
def GI:=@List.concat_eq_append
def lT:=@List.length_append
def tY:=@List.length_singleton
def Pj:=@Option.any_some
def Wj:=@List.findIdx?_append
def dA:=@List.mem_cons
def xB:=@Bool.eq_iff_iff
def oz:=@List.takeWhile_cons
def gI:=@List.pairwise_cons
def kY:=@List.mem_of_getElem?
def Pk:=@Int.fdiv_eq_ediv_of_nonneg
def qM:=@List.getElem?_eq_getElem
def yJ:=@Option.some.inj
def Wl:=@List.getElem?_cons_succ
def Pm:=@List.filter_eq_self
def Ar:=@List.take_append_drop
def dc:=@List.mem_append
def kZ:=@Bool.not_eq_true'
def B1:=@Bool.or_eq_false_iff
def Wm:=@Bool.not_eq_false'
def vA:=@List.mem_cons_of_mem
def gF:=@List.mem_map
def Pn:=@List.mem_map_of_mem
def gi:=@decide_eq_true_eq
def kA:=@decide_eq_false_iff_not
def Wp:=@Int.tdiv_eq_ediv_of_nonneg
def GJ:=@Int.mul_nonneg
def GK:=@List.length_eq_one_iff
def tZ:=@List.take_left'
def rW:=@List.getElem?_eq_some_iff
def Wq:=@List.drop_eq_getElem_cons
def B3:=@List.map_take
def B4:=@List.map_drop
def an:=@List.idxOf_cons
def yK:=@List.length_map
def cz:=@Nat.not_succ_le_self
def vB:=@List.getElem?_map
def kB:=@List.map_map
def nM:=@List.mem_of_mem_take
def mN:=@List.mem_of_mem_drop
def D6:=@List.drop_left'
def D7:=@List.mem_append_left
def GL:=@List.mem_append_right
def dM:=@beq_iff_eq
def JZ:=@List.isEmpty_iff
def rX:=@List.length_pos_iff
def Wr:=@List.Pairwise.sublist
def B5:=@List.filter_sublist
def pe:=@List.mem_filter
def yL:=@List.mem_singleton
def Po:=@decide_eq_true
def GM:=@List.Sublist.append
def As:=@List.Sublist.refl
def GN:=@List.sublist_cons_self
def gX:=@List.length_cons
def J0:=@List.all_append
def uc:=@List.length_filter_le
def J1:=@List.mem_or_eq_of_mem_set
def rY:=@Option.bind_some
def fT:=@List.map_cons
def gq:=@List.map_nil
def gj:=@Nat.le_refl
def ng:=@Nat.le_trans
def pg:=@Nat.lt_of_lt_of_le
def GO:=@Nat.mul_add
def Pp:=@Nat.mul_one
def p8:=@Nat.add_assoc
def qN:=@Nat.add_comm
def qP:=@Nat.succ_mul
def k9:=@Nat.lt_or_ge
def nN:=@List.getElem?_eq_none
def J2:=@Array.getElem?_eq_none
def B6:=@Nat.zero_le
def sQ:=@Nat.lt_trichotomy
def GP:=@Array.getElem?_setIfInBounds_ne
def J3:=@Int.not_lt
def Ws:=@List.head?_eq_getElem?
def GQ:=@Nat.add_zero
def yM:=@List.getElem?_take
def sR:=@List.getElem_of_mem
def pz:=@List.getElem?_drop
def gz:=@Option.some.injEq
def Pq:=@Option.ite_none_right_eq_some
def J4:=@bne_iff_ne
def nO:=@Option.bind_eq_some_iff
def gJ:=@Option.map_eq_some_iff
def D8:=@List.drop_drop
def B7:=@ne_eq
def Pr:=@List.replicate_succ
def B8:=@Bool.or_eq_true
def ji:=@Nat.mul_comm
def lU:=@Nat.mul_le_mul_right
def nh:=@Nat.add_mul
def yN:=@List.flatten_cons
def At:=@List.getElem?_append_right
def Pt:=@Nat.mul_succ
def nP:=@Nat.zero_add
def J5:=@List.foldl_cons
def D9:=@Array.toList_map
def B9:=@List.getElem?_toArray
def Wt:=@List.getElem_range
def mu:=@List.nil_append
def GR:=@List.take_append
def Pu:=@List.drop_append
def sS:=@List.append_assoc
def GU:=@List.mem_replicate
def sU:=@Option.map_some
def ud:=@Prod.mk.injEq
def lf:=@List.length_nil
def Pw:=@Nat.add_sub_cancel_left
def vC:=@List.eq_nil_of_length_eq_zero
def Px:=@Nat.mul_le_mul_left
def J6:=@Nat.mul_le_mul
def Py:=@Array.ext'
def J7:=@List.mem_range
def Wu:=@Nat.eq_zero_or_pos
def Pz:=@List.take_succ_cons
def Wv:=@List.drop_succ_cons
def Ea:=@List.flatten_append
def yO:=@List.all_eq_true
def xC:=@List.idxOf_lt_length_of_mem
def Au:=@List.mem_flatMap
def PA:=@List.Nodup.idxOf_getElem
def nQ:=@not_or
def Eb:=@List.nodup_cons
def vD:=@Option.getD_some
def J8:=@Nat.min_eq_left
def PB:=@List.mem_of_find?_eq_some
def GV:=@List.find?_some
def rZ:=@List.cons_append
def PC:=@Bool.and_true
def PD:=@Option.isSome_iff_exists
def J9:=@List.zip_cons_cons
def PE:=@beq_self_eq_true
def J':=@List.getElem?_set
def Ww:=@Array.toArray_toList
def Wx:=@List.contains_eq_mem
def Av:=@Array.getD_eq_getD_getElem?
def PF:=@List.flatMap_cons
def bt:=@List.range_succ
def ni:=@List.append_nil
def xD:=@and_true
def Wy:=@Array.mem_toList_iff
def vE:=@Classical.byContradiction
def Ec:=@Array.getElem?_eq_some_iff
def PG:=@List.not_mem_nil
def Aw:=@Option.isSome_none
def PI:=@List.length_range
def Ax:=@List.take_take
def Ca:=@List.take_append_of_le_length
def Ka:=@Nat.min_self
def PJ:=@List.length_drop
def PK:=@Int.toNat_natCast
def Wz:=@List.length_replicate
def WA:=@List.getElem_replicate
def vF:=@List.map_append
def PL:=@Bool.not_false
def vG:=@List.singleton_append
def WB:=@List.filter_append
def oA:=@List.pairwise_append
def PM:=@Int.le_of_lt
def WC:=@List.dropWhile_cons
def Cb:=@List.length_eq_zero_iff
def WD:=@List.pairwise_singleton
def PN:=@List.takeWhile_append_dropWhile
def WE:=@List.head?_dropWhile_not
def Ed:=@List.eraseIdx_append_of_length_le
def WG:=@List.takeWhile_sublist
def WH:=@List.eraseIdx_sublist
def GW:=@not_true
def Ee:=@List.pairwise_map
def PO:=@List.all_nil
def PR:=@Bool.and_self
def Kb:=@List.find?_eq_none
def oB:=@Eq.trans
def WI:=@List.map_singleton
def Kc:=@List.append_of_mem
def Kd:=@bne_eq_false_iff_eq
def WJ:=@List.mem_iff_getElem?
def PS:=@List.dropWhile_sublist
def WK:=@List.map_eq_nil_iff
def Ke:=@List.append_inj'
def Kf:=@true_and
def Kg:=@and_congr
def GX:=@Option.isSome_some
inductive D where
 |b(x:Bool)
 |i(k:IntKind)(n:Int)
 |s(x:List UInt8)
 |nil
 |ref(cs:List D)
 |sl(es:Nat)(nl:Bool)(xs:List (List D))
 |fn(f:Nat)(first caps:List D)
 |cM
 |mw(t:Nat)(x:D)
 |Cc
 |ue
 |ag(cs:List D)
 |Cd
 deriving Inhabited
inductive V where
 |u
 |kC
 |d(x:D)
 |loc(n r c:Nat)
 |aQ(n off len:Nat)
 |je(n off len:Nat)
 |iT(es:Nat)
 |mp(n:Nat)
 |fn(f:Nat)(first caps:List V)
 |ag(cs:List V)
 |tu(vs:List V)
 |jj(n:Nat)
 |rf(cs:List V)
 deriving Inhabited
inductive A where
 |t(n:Nat)
 |k(x:D)
inductive CK where
 |b |i |s
 deriving DecidableEq
inductive LK where
 |sl |s |mp
 deriving DecidableEq
inductive NK where
 |sl |mp |fn |pt |mw
 deriving DecidableEq
inductive I where
 |mv(d:Nat)(x:A)
 |pick(d:Nat)(c a b:A)
 |box(d:Nat)(x:A)(n:Nat)(fz:Bool)
 |new(d:Nat)(z:List D)
 |build(d:Nat)(z:List D)(ps:List (Nat×Nat×A))
 |lq(d:Nat)(es n:Nat)(z:List D)(ps:List (Nat×A))(fz:Bool)
 |ld(d:Nat)(x:A)(n:Nat)(ag:Bool)
 |st(x y:A)(n:Nat)(fz:Bool)
 |fa(d:Nat)(x:A)(o n:Nat)
 |jk(d:Nat)(x i:A)(es:Nat)
 |oC(d:Nat)(x i:A)(len es:Nat)
 |sj(d:Nat)(x:A)(o n:Nat)(ag:Bool)
 |bin(d:Nat)(op:BinOp)(x y:A)
 |eqv(d:Nat)(neg:Bool)(x y:A)(ks:List CK)
 |p9(d:Nat)(neg:Bool)(x:A)(k:NK)
 |un(d:Nat)(op:UnOp)(x:A)
 |kE(d:Nat)(k:IntKind)(x:A)
 |len(d:Nat)(x:A)(k:LK)
 |sl(d:Nat)(x:A)(lo hi:Option A)(es:Nat)
 |app(d:Nat)(x y:A)(es:Nat)
 |qg(d:Option Nat)(x:A)(es:Nat)(z:List D)
 |copy(d:Option Nat)(x y:A)(es:Nat)
 |ext(d:Nat)(x:A)(i:Nat)
 |ij(d:Nat)(f:Nat)(first caps:List A)
 |mB(d:Nat)
 |fE(m k v:A)(ks:List CK)
 |pE(d:Nat)(m k:A)(z:D)(ok:Bool)(ks:List CK)
 |call(d:Option Nat)(f:Nat)(xs:List A)
 |mO(d:Option Nat)(f:Nat)(xs:List A)
 |jf(d:Option Nat)(f:Nat)(xs:List A)
 |nR(d:Option Nat)(x:A)(xs:List A)
 |pF(d:Option Nat)(x:A)(xs:List A)
 |sV(d:Nat)(x:A)
 |qQ(d:Nat)(x lo hi mx:A)(es:Nat)
 |cap(d:Nat)(x:A)
 |qR(d:Nat)(x k:A)(es:Nat)(z:List D)
 |sle(d:Nat)(x:A)(lo hi:Option A)(es:Nat)
 |qT(d:Nat)(f:Nat)(x y:A)(es:Nat)
 |bad(d:Option Nat)
 |sk(d:Nat)(x:A)(n:Nat)(ag:Bool)
 |nS(d:Nat)(x:A)(o n:Nat)
 |pG(d:Option Nat)(x:A)(xs:List A)
 |sn(d:Nat)(x y:A)(es:Nat)
 |nj(d:Nat)(f:Nat)(xs:List A)
 |calls(d:Option Nat)(f:Nat)(xs:List A)
 |nk(d t:Nat)(x:A)
 |inv(d:Option Nat)(nm:String)(j6:List (Nat×Nat×Nat))(x:A)(xs:List A)
 |mx(d:Nat)(x y:A)
 |vH(d es:Nat)(z:List D)(n k:A)
inductive J where
 |op(i:I)
 |sc(fG:Bool)(d c:Nat)(body:List J)(x:A)
 |re(i:I)
inductive C where
 |skip
 |cq(js:List J)
 |lu(fl perm:List Nat)(js:List J)
 |seq(a b:C)
 |ite(c:A)(a b:C)
 |bY(id:Nat)(c:C)
 |loop(live:List Nat)(c:C)
 |exit(id:Nat)
 |ret
 |oD(ds:List Nat)
 |keep(ds:List Nat)
 |qU(x:A)(live:List Nat)(ps:List Nat)(a b:C)
 |xE(d k:Nat)
inductive RV where
 |t(n:Nat)
 |c(n cells:Nat)(ag:Bool)
inductive Ex where
 |normal
 |exit(id:Nat)
 |ret
 deriving DecidableEq
inductive O where
 |aG(es:Nat)(ex:Bool)(rows:List (List D))
 |gK(es:Nat)(rows:List (List V))
 |mp(kv:List (D×V))
 |lp(ps:List Nat)(a b:C)(e:Ex)(env:List (Nat×V))
 |dead
 deriving Inhabited
structure St where
 env:List (Nat×V)
 heap:List O
 ok:Bool
inductive yP where
 |call(f:Nat)(xs:List V)(h:List O)
 |loop(m:Nat)(live:List Nat)(c:C)(env:List (Nat×V))(h:List O)
 |round(ps:List Nat)(a b:C)(xs:List V)(env:List (Nat×V))(h:List O)
inductive dN where
 |val(v:V)(h:List O)
 |out(e:Ex)(env:List (Nat×V))(h:List O)
structure F where
 code:C
 res:List RV
 keep:Bool:=false
 Ay:Option (List V->List O->Option (V×List O)):=none
def cA:List (Nat×V)->Nat->V
 | [],_=>.u
 |(k,v)::r,n=>if k=n then v else cA r n
def St.get(s:St):A->V
 | .t n=>cA s.env n
 | .k x=>.d x
def St.put(s:St)(d:Nat)(v:V):St:=⟨(d,v)::s.env,s.heap,s.ok⟩
def St.fail(s:St):St:=⟨s.env,s.heap,false⟩
def St.eZ(s:St)(d:Nat):Option V->St
 |some v=>s.put d v
 |none=>s.fail
def St.gk(s:St)(d:Nat):Option (V×List O)->St
 |some (v,h)=>⟨(d,v)::s.env,h,s.ok⟩
 |none=>s.fail
def St.lz(s:St)(d:Option Nat):Option (V×List O)->St
 |some (v,h)=>match d with
  |some d=>⟨(d,v)::s.env,h,s.ok⟩
  |none=>⟨s.env,h,s.ok⟩
 |none=>s.fail
def St.so(s:St):Option (List O)->St
 |some h=>⟨s.env,h,s.ok⟩
 |none=>s.fail
def aU(h:List O)(n:Nat):O:=h.getD n .dead
def O.row(o:O)(r:Nat):Option (List V):=
 match o with
 | .aG _ _ rows=>(rows[r]?).map λcs=>cs.map .d
 | .gK _ rows=>rows[r]?
 |_=>none
def fA:List V->Option (List D)
 | []=>some []
 | .d x::r=>(fA r).map (x::·)
 |_::_=>none
def V.cells:V->List V
 | .d (.ag cs)=>cs.map .d
 | .ag cs=>cs
 |v=>[v]
def V.known:V->Bool
 | .u | .kC | .tu _ | .d .Cd=>false
 |_=>true
def Ce(cs:List V):V :=
 match fA cs with
 |some ds=>.d (.ag ds)
 |none=>.ag cs
def mkRef(cs:List V):V :=
 match fA cs with
 |some ds=>.d (.ref ds)
 |none=>.rf cs
def D.cells:D->List D
 | .ag cs=>cs
 |x=>[x]
mutual
def eE(h:List O):V->Option D
 | .d x=>some x
 | .iT es=>some (.sl es false [])
 | .aQ n off len =>
  match aU h n with
  | .aG es _ rows=>if off+len<=rows.length then some (.sl es false ((rows.drop off).take len))else none
  |_=>none
 | .loc n r c =>
  match aU h n with
  | .aG _ _ rows=>(rows[r]?).bind λrow=>if c<=row.length then some (.ref (row.drop c))else none
  |_=>none
 | .ag cs=>(iq h cs).map .ag
 | .rf cs=>(iq h cs).map .ref
 | .fn f a b=>(iq h a).bind λx=>(iq h b).map λy=>.fn f x y
 |_=>none
def iq(h:List O):List V->Option (List D)
 | []=>some []
 |v::r=>(eE h v).bind λx=>(iq h r).map (x::·)
end
mutual
def V.dn:V->List Nat
 | .loc n _ _=>[n]
 | .aQ n _ _=>[n]
 | .je n _ _=>[n]
 | .mp n=>[n]
 | .jj n=>[n]
 | .fn _ a b=>V.gA a++V.gA b
 | .ag cs=>V.gA cs
 | .rf cs=>V.gA cs
 | .tu vs=>V.gA vs
 |_=>[]
def V.gA:List V->List Nat
 | []=>[]
 |v::r=>v.dn++V.gA r
end
def aZ(h:List O)(n:Nat):List O :=
 match aU h n with
 | .aG es _ rows=>h.set n (.aG es false rows)
 |_=>h
def aX(h:List O):List Nat->List O
 | []=>h
 |n::r=>aX (aZ h n) r
def bp(h:List O)(v:V):Option (D×List O):=(eE h v).map λx=>(x,aX h v.dn)
mutual
def V.dI(g:Nat->Nat):V->V
 | .loc n r c=>.loc (g n) r c
 | .aQ n o l=>.aQ (g n) o l
 | .je n o l=>.je (g n) o l
 | .mp n=>.mp (g n)
 | .jj n=>.jj (g n)
 | .fn f a b=>.fn f (V.iL g a) (V.iL g b)
 | .ag cs=>.ag (V.iL g cs)
 | .rf cs=>.rf (V.iL g cs)
 | .tu vs=>.tu (V.iL g vs)
 |v=>v
def V.iL(g:Nat->Nat):List V->List V
 | []=>[]
 |v::r=>v.dI g::V.iL g r
end
def yQ(g:Nat->Nat)(env:List (Nat×V)):List (Nat×V):=env.map λp=>(p.1,p.2.dI g)
def qW:List (Nat×V)->List Nat
 | []=>[]
 |p::r=>p.2.dn++qW r
def O.dI(g:Nat->Nat):O->O
 | .gK es rows=>.gK es (rows.map (V.iL g))
 | .mp kv=>.mp (kv.map λp=>(p.1,p.2.dI g))
 | .lp ps a b e env=>.lp ps a b e (yQ g env)
 |o=>o
def O.dn:O->List Nat
 | .gK _ rows=>rows.flatMap V.gA
 | .mp kv=>kv.flatMap λp=>p.2.dn
 | .lp _ _ _ _ env=>qW env
 |_=>[]
def reach(h:List O):Nat->List Nat->List Nat->List Nat
 | 0,_,acc=>acc
 |_+1,[],acc=>acc
 |f+1,n::t,acc=>if n∈acc then reach h f t acc else reach h f (t++(aU h n).dn) (acc++[n])
def sub(h:List O)(L:List Nat):List O:=L.map λn=>(aU h n).dI (L.idxOf ·)
def cut(h:List O)(m:Nat)(roots:List Nat):Option (List Nat):=
 let L:=List.range m++(reach h 1000 (List.range m++roots) []).filter (m<=·)
 if L.Nodup/\roots.all (·∈L)/\L.all (λn=>n<h.length/\(aU h n).dn.all (·∈L))then some L else none
def jP(live:List Nat)(env:List (Nat×V)):List (Nat×V):=live.map λn=>(n,cA env n)
def canon(m:Nat)(live:List Nat)(env:List (Nat×V))(h:List O):Option (List (Nat×V)×List O):=
 match h with
 | []=>some (jP live env,[])
 |_=>(cut h m (qW (jP live env))).map λL=>((jP live env).map λp=>(p.1,p.2.dI (L.idxOf ·)),sub h L)
def V.wk:V->V
 | .je n off len=>.aQ n off len
 |v=>v
def arith(op:BinOp)(k:IntKind)(x y:Int):Option V :=
 match op with
 | .add=>some (.d (.i k (k.wrap (x+y))))
 | .sub=>some (.d (.i k (k.wrap (x - y))))
 | .mul=>some (.d (.i k (k.wrap (x*y))))
 | .quo=>if y=0 then none else some (.d (.i k (k.wrap (x.tdiv y))))
 | .rem=>if y=0 then none else some (.d (.i k (x.tmod y)))
 | .eql=>some (.d (.b (x==y)))
 | .neq=>some (.d (.b (x != y)))
 | .lss=>some (.d (.b (decide (x<y))))
 | .leq=>some (.d (.b (decide (x<=y))))
 | .gtr=>some (.d (.b (decide (y<x))))
 | .geq=>some (.d (.b (decide (y<=x))))
 |_=>none
def Cf(op:BinOp):V->V->Option V
 | .d (.i k x),.d (.i k' y) =>
  match op with
  | .shl=>if 0<=y then some (.d (.i k (k.wrap (x*2 ^ (min y.toNat k.bits)))))else none
  | .shr=>if 0<=y then some (.d (.i k (x.fdiv (2 ^ (min y.toNat k.bits)))))else none
  |_=>if k=k' then arith op k x y else none
 | .d (.s x),.d (.s y) =>
  match op with
  | .eql=>some (.d (.b (x==y)))
  | .neq=>some (.d (.b (!(x==y))))
  | .lss=>some (.d (.b (Op.bytesLess x y)))
  |_=>none
 |_,_=>none
def Cg:CK->D->D->Option Bool
 | .i,.i k x,.i k' y=>if k=k' then some (x==y)else none
 | .b,.b x,.b y=>some (x==y)
 | .s,.s x,.s y=>some (x==y)
 |_,_,_=>none
def jQ:List CK->List D->List D->Option Bool
 | [],[],[]=>some true
 |k::ks,x::xs,y::ys=>(Cg k x y).bind λp=>(jQ ks xs ys).map λq=>p&&q
 |_,_,_=>none
def Kh(ks:List CK)(neg:Bool):V->V->Option V
 | .d (.ag x),.d (.ag y)=>(jQ ks x y).map λp=>.d (.b (p != neg))
 |_,_=>none
def eqB(neg:Bool):V->V->Option V
 | .d (.b x),.d (.b y)=>some (.d (.b ((x==y) != neg)))
 |_,_=>none
def vI(h:List O)(n:Nat):Bool:=match aU h n with | .aG .. | .gK ..=>true |_=>false
def isNil(h:List O):NK->V->Option Bool
 | .sl,.d (.sl _ nl _)=>some nl
 | .sl,.aQ n _ _=>if vI h n then some false else none
 | .sl,.iT _=>some false
 | .mp,.d .ue=>some true
 | .mp,.mp n=>match aU h n with | .mp _=>some false |_=>none
 | .fn,.d .cM=>some true
 | .fn,.d (.fn ..)=>some false
 | .fn,.fn ..=>some false
 | .pt,.d .nil=>some true
 | .pt,.d (.ref _)=>some false
 | .pt,.rf _=>some false
 | .pt,.loc n _ _=>if vI h n then some false else none
 | .mw,.d .Cc=>some true
 | .mw,.d (.mw ..)=>some false
 |_,_=>none
def Ki(op:UnOp):V->Option V
 | .d (.b x)=>match op with | .not=>some (.d (.b (!x))) |_=>none
 | .d (.i k x)=>match op with | .neg=>some (.d (.i k (k.wrap (0 - x)))) |_=>none
 |_=>none
def kE(k:IntKind):V->Option V
 | .d (.i _ x)=>some (.d (.i k (k.wrap x)))
 |_=>none
def qX(h:List O):LK->V->Option V
 | .sl,.d (.sl _ _ xs)=>some (.d (.i .i64 xs.length))
 | .sl,.aQ n _ len=>if vI h n then some (.d (.i .i64 len))else none
 | .sl,.iT _=>some (.d (.i .i64 0))
 | .s,.d (.s x)=>some (.d (.i .i64 x.length))
 | .mp,.d .ue=>some (.d (.i .i64 0))
 | .mp,.mp n=>match aU h n with | .mp kv=>some (.d (.i .i64 kv.length)) |_=>none
 |_,_=>none
def asInt:V->Option Int
 | .d (.i _ n)=>some n
 |_=>none
def jk(es:Nat)(x i:V)(h:List O):Option V :=
 match x,i with
 | .d (.sl e _ xs),.d (.i _ j)=>if 0<=j/\e=es then(xs[j.toNat]?).map λrow=>.d (.ref row)else none
 | .aQ n off len,.d (.i _ j) =>
  match aU h n with
  | .aG e _ _ | .gK e _=>if 0<=j/\j<len/\e=es then some (.loc n (off+j.toNat) 0)else none
  |_=>none
 |_,_=>none
def oC(h:List O)(len es:Nat)(x i:V):Option V :=
 match x,i with
 | .d (.ref cs),.d (.i _ j)=>if 0<=j/\j<len/\len*es<=cs.length then some (.d (.ref (cs.drop (j.toNat*es))))else none
 | .loc n r c,.d (.i _ j)=>if 0<=j/\j<len/\vI h n=true then some (.loc n r (c+j.toNat*es))else none
 |_,_=>none
def fa(h:List O)(o n:Nat):V->Option V
 | .d (.ref cs)=>if o+n<=cs.length then some (.d (.ref (cs.drop o)))else none
 | .rf cs=>if o+n<=cs.length then some (.rf (cs.drop o))else none
 | .loc m r c=>if vI h m then some (.loc m r (c+o))else none
 |_=>none
def pack(n:Nat)(ag:Bool)(cs:List V):Option V :=
 if ag then(if n<=cs.length then some (Ce (cs.take n))else none)else cs.head?
def Ch(n:Nat)(ag:Bool)(cs:List D):Option V :=
 if ag then(if n<=cs.length then some (.d (.ag (cs.take n)))else none)else cs.head?.map .d
def yR(h:List O)(n:Nat)(ag:Bool):V->Option V
 | .d (.ref cs)=>Ch n ag cs
 | .rf cs=>pack n ag cs
 | .loc m r c =>
  match aU h m with
  | .aG _ _ rows=>(rows[r]?).bind λrow=>Ch n ag (row.drop c)
  | .gK _ rows=>(rows[r]?).bind λrow=>pack n ag (row.drop c)
  |_=>none
 |_=>none
def Kj(n:Nat)(ag:Bool):V->Option V
 | .d (.ref cs)=>Ch n ag cs
 | .rf cs=>pack n ag cs
 |_=>none
def Kk(o n:Nat):V->Option V
 | .d (.ref cs)=>if o+n<=cs.length then some (.d (.ref (cs.drop o)))else none
 | .rf cs=>if o+n<=cs.length then some (.rf (cs.drop o))else none
 |_=>none
def aq{α:Type}(cs:List α)(o:Nat)(new:List α):List α:=cs.take o++new++cs.drop (o+new.length)
def Kl(h:List O)(n:Nat)(p v:V):Option (List O):=
 match p with
 | .loc m r c =>
  match aU h m with
  | .aG es true rows =>
   match rows[r]? with
   |some row =>
    if c+n<=row.length/\v.cells.length=n/\v.known=true then
     match fA v.cells with
     |some ds=>some (h.set m (.aG es true (rows.set r (aq row c ds))))
     |none=>some (h.set m (.gK es ((rows.map λx=>x.map V.d).set r (aq (row.map V.d) c v.cells))))
    else none
   |none=>none
  | .gK es rows =>
   match rows[r]? with
   |some row=>if c+n<=row.length/\v.cells.length=n/\v.known=true then some (h.set m (.gK es (rows.set r (aq row c v.cells))))else none
   |none=>none
  |_=>none
 |_=>none
def Az(h:List O)(es:Nat):V->Option (List (List D))
 | .d (.sl e _ xs)=>if e=es then some xs else none
 | .iT _=>some []
 | .aQ n off len =>
  match aU h n with
  | .aG e _ rows=>if e=es/\off+len<=rows.length then some ((rows.drop off).take len)else none
  |_=>none
 | .je n off len =>
  match aU h n with
  | .aG e _ rows=>if e=es/\off+len<=rows.length then some ((rows.drop off).take len)else none
  |_=>none
 |_=>none
def room:Nat:=4294967296
def Ef(h:List O)(es:Nat)(x y:V):Option (V×List O):=
 match Az h es y with
 |none=>none
 |some ys =>
  match x with
  | .d (.sl e nl _) =>
   if e=es then
    if ys.length=0 then some (x,h)
    else if nl/\ys.length<=room then some (.aQ h.length 0 ys.length,h++[.aG es true ys])else none
   else none
  | .iT _=>if ys.length=0 then some (.iT es,h)else if ys.length<=room then some (.aQ h.length 0 ys.length,h++[.aG es true ys])else none
  | .aQ n off len =>
   match aU h n with
   | .aG e ex rows =>
    if e=es/\off+len<=rows.length then
     if ys.length=0 then some (x,h)
     else if off+len+ys.length<=rows.length then
      if ex then some (.aQ n off (len+ys.length),h.set n (.aG es ex (aq rows (off+len) ys)))else none
     else if(ex\/off+len=rows.length)/\len+ys.length<=room then
      some (.aQ h.length 0 (len+ys.length),h.set n .dead++[.aG es ex ((rows.drop off).take len++ys)])
     else none
    else none
   |_=>none
  | .je n off len =>
   match aU h n with
   | .aG e ex rows =>
    if e=es/\off+len<=rows.length then
     if ys.length=0 then some (x,h)
     else if off+len+ys.length<=rows.length then
      if ex then some (.je n off (len+ys.length),h.set n (.aG es ex (aq rows (off+len) ys)))else none
     else if len+ys.length<=room then some (.aQ h.length 0 (len+ys.length),h++[.aG es true ((rows.drop off).take len++ys)])else none
    else none
   |_=>none
  |_=>none
def aaa(h:List O)(es:Nat)(x y:V):Option V :=
 match Az h es y with
 |none=>none
 |some ys =>
  match x with
  | .d (.sl e nl [])=>if e=es/\nl=true/\ys.length<=room then some (.d (.sl es (decide (ys.length=0)) ys))else none
  | .iT _=>if ys.length<=room then some (.d (.sl es false ys))else none
  |_=>none
def Km(h:List O)(es:Nat)(z:List D)(x:V)(k:Option Int):Option (V×List O):=
 match k with
 |none=>none
 |some k =>
  if 0<k/\z.length=es then
   match x with
   | .d (.sl e nl _)=>if e=es/\nl=true/\k.toNat<=room then some (.aQ h.length 0 k.toNat,h++[.aG es true (List.replicate k.toNat z)])else none
   | .iT e=>if e=es/\k.toNat<=room then some (.aQ h.length 0 k.toNat,h++[.aG es true (List.replicate k.toNat z)])else none
   | .je n off len =>
    match aU h n with
    | .aG e _ rows =>
     if e=es/\off+len<=rows.length/\rows.length<off+len+k.toNat/\len+k.toNat<=room then
      some (.aQ h.length 0 (len+k.toNat),h++[.aG es true ((rows.drop off).take len++List.replicate k.toNat z)])else none
    |_=>none
   |_=>none
  else none
def Kn(h:List O)(es:Nat)(z:List D)(n k:Option Int):Option (V×List O):=
 match n,k with
 |some n,some k=>if 0<=n/\n<=k/\k.toNat*es<=16777216/\z.length=es then some (.aQ h.length 0 n.toNat,h++[.aG es true (List.replicate n.toNat z)])else none
 |_,_=>none
def Ko(h:List O):V->Option V
 | .d (.sl _ true _)=>some (.d (.i .i64 0))
 | .iT _=>some (.d (.i .i64 0))
 | .je n off _=>match aU h n with | .aG _ _ rows=>if off<=rows.length then some (.d (.i .i64 (rows.length - off:Nat)))else none |_=>none
 |_=>none
def Kp(h:List O)(es:Nat)(x y:V):Option V :=
 match x,y.wk with
 | .d (.sl e _ _),.aQ n _ _=>match aU h n with | .aG _ true _=>if e=es then some (.d (.b false))else none |_=>none
 |_,_=>none
def uf(s:St)(dflt:Int):Option A->Option Int
 |none=>some dflt
 |some a=>asInt (s.get a)
def Kq(h:List O)(es:Nat)(x:V)(lo hi:Option Int):Option V :=
 match lo,hi with
 |some lo,some hi =>
  match x with
  | .d (.sl e nl xs)=>if e=es/\0<=lo/\lo<=hi/\hi<=xs.length then some (.d (.sl es nl ((xs.take hi.toNat).drop lo.toNat)))else none
  | .aQ n off _ =>
   match aU h n with
   | .aG e _ rows=>if e=es/\0<=lo/\lo<=hi/\off+hi<=rows.length then(if lo=0\/lo<hi then some (.aQ n (off+lo.toNat) (hi - lo).toNat)else some (.d (.sl es false [])))else none
   |_=>none
  | .je n off _ =>
   match aU h n with
   | .aG e _ rows=>if e=es/\0<=lo/\lo<=hi/\off+hi<=rows.length then(if lo=0\/lo<hi then some (.je n (off+lo.toNat) (hi - lo).toNat)else some (.d (.sl es false [])))else none
   |_=>none
  | .iT e=>if e=es/\lo=0/\hi=0 then some (.iT es)else none
  |_=>none
 |_,_=>none
def Kr(h:List O)(es:Nat)(x:V)(lo hi:Option Int):Option (V×List O):=
 match lo,hi with
 |some lo,some hi =>
  match x with
  | .aQ n off _ =>
   match aU h n with
   | .aG e ex rows =>
    if e=es/\0<=lo/\lo<=hi/\off+hi<=rows.length then
     if lo=0\/lo<hi then some (.aQ n (off+lo.toNat) (hi - lo).toNat,h)
     else if ex=true then some (.aQ h.length 0 0,h.set n .dead++[.aG es ex []])else none
    else none
   |_=>none
  |_=>none
 |_,_=>none
def Ks(h:List O)(es:Nat)(x:V)(lo hi mx:Option Int):Option V :=
 match lo,hi,mx with
 |some lo,some hi,some mx =>
  match x with
  | .d (.sl e _ xs)=>if e=es/\0<=lo/\lo<=hi/\hi<=mx/\mx<=xs.length then some .u else none
  | .aQ n _ len=>if vI h n=true/\0<=lo/\lo<=hi/\hi<=mx/\mx<=len then some .u else none
  | .iT e=>if e=es/\lo=0/\hi=0/\mx=0 then some .u else none
  |_=>none
 |_,_,_=>none
def Kt(o n:Nat)(ag:Bool):V->Option V
 | .d (.ag cs)=>pack n ag ((cs.map V.d).drop o)
 | .ag cs=>pack n ag (cs.drop o)
 |_=>none
def mnV:V->V->Option V
 | .d (.i k x),.d (.i k' y)=>if k=k' then some (.d (.i k (if y<x then y else x)))else none
 |_,_=>none
def Ku:V->V->Option V
 | .d (.i k x),.d (.i k' y)=>if k=k' then some (.d (.i k (if y > x then y else x)))else none
 |_,_=>none
def ug(t:Nat):V->Option V
 | .d v=>some (.d (.mw t v))
 |_=>none
def cV{R:Type}(k:Nat->List V->Option R)(j6:List (Nat×Nat×Nat))(x:V)(xs:List V):Option R :=
 match x with
 | .d (.mw t (.ag ds)) =>
  match j6.find? (λe=>e.1==t)with
  |some e=>if ds.length=e.2.1 then k e.2.2 (.d (.ag ds)::xs)else none
  |none=>none
 |_=>none
def aab(h:List O)(es:Nat):V->Option V
 | .d (.sl e nl _)=>if e=es then some (if nl then .d (.sl es true [])else .iT es)else none
 | .aQ n _ _=>if vI h n then some (.iT es)else none
 | .iT _=>some (.iT es)
 |_=>none
def AA(x:V):Int :=
 match x with
 | .d (.sl _ _ xs)=>xs.length
 | .aQ _ _ len=>len
 | .je _ _ len=>len
 | .d (.s x)=>x.length
 |_=>0
def Kv(h:List O)(es:Nat)(z:List D):V->Option (List O)
 | .d (.sl _ _ [])=>some h
 | .aQ n off len =>
  match aU h n with
  | .aG e ex rows =>
   if e=es/\z.length=es/\off+len<=rows.length then
    if len=0 then some h else if ex then some (h.set n (.aG es ex (aq rows off (List.replicate len z))))else none
   else none
  |_=>none
 |_=>none
def copyV(h:List O)(es:Nat)(x y:V):Option (V×List O):=
 match Az h es y with
 |none=>none
 |some ys =>
  match x.wk with
  | .aQ n off len =>
   match aU h n with
   | .aG e true rows =>
    if e=es/\off+len<=rows.length then
     some (.d (.i .i64 (min ys.length len:Nat)),h.set n (.aG es true (aq rows off (ys.take len))))else none
   |_=>none
  | .d (.sl _ _ [])=>some (.d (.i .i64 0),h)
  |_=>none
def Kw(i:Nat):V->Option V
 | .tu vs=>vs[i]?
 |_=>none
def fill(cs:List V):List (Nat×Nat×V)->Option (List V)
 | []=>some cs
 |(o,n,v)::r=>if v.cells.length=n/\o+n<=cs.length/\v.known=true then fill (aq cs o v.cells) r else none
def xF(rows:List (List V))(es:Nat):List (Nat×V)->Option (List (List V))
 | []=>some rows
 |(i,v)::r=>if v.cells.length=es/\i<rows.length/\v.known=true then xF (rows.set i v.cells) es r else none
def fO:List (List V)->Option (List (List D))
 | []=>some []
 |r::rs=>(fA r).bind λx=>(fO rs).map (x::·)
def eK(es:Nat)(rows:List (List V)):O :=
 match fO rows with
 |some ds=>.aG es true ds
 |none=>.gK es rows
def AB:List CK->D->Option (List D)
 | [_],.ag _=>none
 | [_],x=>some [x]
 |_,.ag cs=>some cs
 |_,_=>none
def nT(ks:List CK)(k p:D):Option Bool:=(AB ks k).bind λa=>(AB ks p).bind λb=>jQ ks a b
def lW(ks:List CK)(k:D)(p:D×V):Bool:=(nT ks k p.1).getD false
def Ci(ks:List CK)(k:D)(kv:List (D×V)):Bool:=(nT ks k k).isSome&&kv.all λp=>(nT ks k p.1).isSome
def GY(ks:List CK)(k:D):List (D×V)->Option V
 | []=>none
 |p::r=>if lW ks k p then some p.2 else GY ks k r
def Eg(ks:List CK)(k:D)(v:V):List (D×V)->List (D×V)
 | []=>[(k,v)]
 |p::r=>if lW ks k p then(k,v)::r else p::Eg ks k v r
def PT(ks:List CK)(k:D):List (D×V)->List (D×V)
 | []=>[]
 |p::r=>if lW ks k p then r else p::PT ks k r
def GZ(ks:List CK)(k:D)(z:D)(ok:Bool)(kv:List (D×V)):Option V :=
 if Ci ks k kv then
  match GY ks k kv with
  |some v=>some (if ok then .tu [v,.d (.b true)]else v)
  |none=>some (if ok then .tu [.d z,.d (.b false)]else .d z)
 else none
def Kx(ks:List CK)(h:List O)(m k:V)(z:D)(ok:Bool):Option V :=
 match k with
 | .d k =>
  match m with
  | .mp n=>match aU h n with | .mp kv=>GZ ks k z ok kv |_=>none
  | .d .ue=>GZ ks k z ok []
  |_=>none
 |_=>none
def Ky(ks:List CK)(h:List O)(m k v:V):Option (List O):=
 match m,k with
 | .mp n,.d k=>match aU h n with | .mp kv=>if Ci ks k kv/\v.known=true then some (h.set n (.mp (Eg ks k v kv)))else none |_=>none
 |_,_=>none
def aac(ks:List CK)(h:List O)(m k:V):Option (List O):=
 match m,k with
 | .mp n,.d k=>match aU h n with | .mp kv=>if Ci ks k kv then some (h.set n (.mp (PT ks k kv)))else none |_=>none
 | .d .ue,.d k=>if Ci ks k []then some h else none
 |_,_=>none
abbrev Rec:=yP->Option dN
def aI(rec:Rec)(h:List O)(f:Nat)(xs:List V):Option (V×List O):=
 match fA xs with
 |some _ =>
  match rec (.call f xs [])with
  |some (.val v h1)=>some (v.dI (h.length+·),h++h1.map (O.dI (h.length+·)))
  |_=>none
 |none=>none
def back(L:List Nat)(m:Nat)(i:Nat):Nat:=if i<L.length then L.getD i 0 else m+(i - L.length)
def aD(h:List O):List Nat->List O->List O
 |n::L,o::os=>aD (h.set n o) L os
 |_,_=>h
def az(rec:Rec)(h:List O)(f:Nat)(xs:List V):Option (V×List O):=
 match cut h 0 (V.gA xs)with
 |some L =>
  match rec (.call f (V.iL (L.idxOf ·) xs) (sub h L))with
  |some (.val v h1) =>
   if L.length<=h1.length then
    some (v.dI (back L h.length),aD h L (h1.map (O.dI (back L h.length)))++(h1.drop L.length).map (O.dI (back L h.length)))
   else none
  |_=>none
 |none=>none
def kG(rec:Rec)(f:Nat)(xs:List V):Option V :=
 match fA xs with
 |some _ =>
  match rec (.call f xs [])with
  |some (.val v [])=>some v
  |_=>none
 |none=>none
def lX{R:Type}(k:Nat->List V->Option R)(x:V)(xs:List V):Option R :=
 match x with
 | .d (.fn f first caps)=>k f (first.map V.d++xs++caps.map V.d)
 | .fn f first caps=>k f (first++xs++caps)
 |_=>none
def oE(rec:Rec)(h:List O)(x:V)(xs:List V):Option (V×List O):=
 match x with
 | .jj n =>
  match aU h n with
  | .lp ps a b .normal env =>
   if xs.length=ps.length then
    match cut (h.set n .dead) 0 (V.gA xs++qW env)with
    |some L =>
     if n∈L then none else
      match rec (.round ps a b (V.iL (L.idxOf ·) xs) (yQ (L.idxOf ·) env) (sub (h.set n .dead) L))with
      |some (.out e _ h1) =>
       if L.length<=h1.length then
        some (.d (.b (e == .normal)),aD (h.set n (.lp ps a b e env)) L (h1.map (O.dI (back L h.length)))++(h1.drop L.length).map (O.dI (back L h.length)))
       else none
      |_=>none
    |none=>none
   else none
  |_=>none
 |_=>none
def St.mP(s:St)(d:Option Nat):Option V->St
 |some v=>match d with
  |some d=>⟨(d,v)::s.env,s.heap,s.ok⟩
  |none=>s
 |none=>s.fail
def D.plain:D->Bool
 | .b _ | .i .. | .s _=>true
 |_=>false
def D.Cj:D->Bool
 | .ag cs=>cs.all D.plain
 |x=>x.plain
def V.plain:V->Bool
 | .d x=>x.Cj
 | .tu vs=>vs.all λv=>match v with | .d x=>x.Cj |_=>false
 |_=>false
def vJ(rec:Rec)(h:List O)(f:Nat)(xs:List V):Option V :=
 match iq h xs with
 |some ds =>
  match rec (.call f (ds.map V.d) [])with
  |some (.val v [])=>if v.plain then some v else none
  |_=>none
 |none=>none
def yS(o:Option (V×List O)):Option (V×List O):=o.bind λr=>(bp r.2 r.1).map λp=>(.d p.1,p.2)
def vK(s:St):List Nat->St
 | []=>s
 |d::r=>vK (s.gk d ((bp s.heap (s.get (.t d))).map λp=>(.d p.1,p.2))) r
def Ck(h:List O)(k:Nat):V->Option (List O)
 | .loc n r c =>
  match aU h n with
  | .aG ..=>some h
  | .gK es rows =>
   match rows[r]? with
   |some row =>
    match row[c+k]? with
    |some v=>(eE h v).map λx=>(aX h v.dn).set n (eK es (rows.set r (row.set (c+k) (.d x))))
    |none=>none
   |none=>none
  |_=>none
 |_=>none
def aR(rec:Rec)(i:I)(s:St):St :=
 match i with
 | .mv d x=>s.put d (s.get x)
 | .pick d c a b=>match s.get c with | .d (.b x)=>s.put d (if x then s.get a else s.get b) |_=>s.fail
 | .box d x n fz =>
  if(s.get x).cells.length=n/\(s.get x).known=true then
   if fz then s.put d (mkRef (s.get x).cells)
   else s.gk d (some (.loc s.heap.length 0 0,s.heap++[eK n [(s.get x).cells]]))
  else s.fail
 | .new d z=>s.gk d (some (.loc s.heap.length 0 0,s.heap++[.aG z.length true [z]]))
 | .build d z ps=>s.eZ d ((fill (z.map .d) (ps.map λp=>(p.1,p.2.1,s.get p.2.2))).map Ce)
 | .lq d es n z ps fz =>
  let rows:=xF (List.replicate n (z.map V.d)) es (ps.map λp=>(p.1,s.get p.2))
  if fz then s.eZ d ((rows.bind fO).map λrows=>.d (.sl es false rows))
  else s.gk d (rows.map λrows=>(.aQ s.heap.length 0 n,s.heap++[eK es rows]))
 | .ld d x n ag=>s.eZ d (yR s.heap n ag (s.get x))
 | .st x y n fz =>
  if fz then
   match x,s.get x with
   | .t d,.loc m 0 0 =>
    match aU s.heap m with
    | .aG _ true [z]=>if z.length=n/\(s.get y).cells.length=n/\(s.get y).known=true then
      s.gk d (some (mkRef (s.get y).cells,s.heap.set m .dead))else s.fail
    |_=>s.fail
   |_,_=>s.fail
  else s.so (Kl s.heap n (s.get x) (s.get y))
 | .fa d x o n=>s.eZ d (fa s.heap o n (s.get x))
 | .jk d x i es=>s.eZ d (jk es (s.get x) (s.get i) s.heap)
 | .oC d x i len es=>s.eZ d (oC s.heap len es (s.get x) (s.get i))
 | .sj d x o n ag=>s.eZ d (Kt o n ag (s.get x))
 | .bin d op x y=>s.eZ d (Cf op (s.get x) (s.get y))
 | .eqv d neg x y ks=>s.eZ d (Kh ks neg (s.get x) (s.get y))
 | .p9 d neg x k=>s.eZ d ((isNil s.heap k (s.get x)).map λp=>.d (.b (p != neg)))
 | .un d op x=>s.eZ d (Ki op (s.get x))
 | .kE d k x=>s.eZ d (kE k (s.get x))
 | .len d x k=>s.eZ d (qX s.heap k (s.get x).wk)
 | .sl d x lo hi es=>s.eZ d (Kq s.heap es (s.get x) (uf s 0 lo) (uf s (AA (s.get x)) hi))
 | .app d x y es=>s.gk d (Ef s.heap es (s.get x) (s.get y))
 | .qg d x es z=>s.lz d ((Kv s.heap es z (s.get x)).map λh=>(.tu [],h))
 | .copy d x y es=>s.lz d (copyV s.heap es (s.get x) (s.get y))
 | .ext d x i=>s.eZ d (Kw i (s.get x))
 | .ij d f a b =>
  match fA (a.map s.get),fA (b.map s.get)with
  |some x,some y=>s.put d (.d (.fn f x y))
  |_,_=>s.put d (.fn f (a.map s.get) (b.map s.get))
 | .mB d=>s.gk d (some (.mp s.heap.length,s.heap++[.mp []]))
 | .fE m k v ks=>s.so (Ky ks s.heap (s.get m) (s.get k) (s.get v))
 | .pE d m k z ok ks=>s.eZ d (Kx ks s.heap (s.get m) (s.get k) z ok)
 | .call d f xs=>s.mP d (kG rec f (xs.map s.get))
 | .mO d f xs=>s.lz d (aI rec s.heap f (xs.map s.get))
 | .jf d f xs=>s.lz d (az rec s.heap f (xs.map s.get))
 | .nR d x xs=>s.mP d (lX (kG rec) (s.get x) (xs.map s.get))
 | .pF d x xs=>s.lz d (lX (az rec s.heap) (s.get x) (xs.map s.get))
 | .sV d x =>
  match s.get x with
  | .d (.ref cs)=>s.put d (.d (.ref cs))
  | .rf cs=>s.put d (.rf cs)
  | .loc n r c=>s.put d (.loc n r c)
  | .d (.mw t v)=>s.put d (.d (.mw t v))
  |_=>s.fail
 | .qQ d x lo hi mx es=>s.eZ d (Ks s.heap es (s.get x) (asInt (s.get lo)) (asInt (s.get hi)) (asInt (s.get mx)))
 | .cap d x=>s.eZ d (Ko s.heap (s.get x))
 | .sle d x lo hi es=>s.gk d (Kr s.heap es (s.get x) (uf s 0 lo) (uf s (AA (s.get x)) hi))
 | .qR d x k es z=>s.gk d (Km s.heap es z (s.get x) (asInt (s.get k)))
 | .qT d _ x y es=>s.eZ d (Kp s.heap es (s.get x) (s.get y))
 | .bad _=>s.fail
 | .sk d x n ag=>s.eZ d (Kj n ag (s.get x))
 | .nS d x o n=>s.eZ d (Kk o n (s.get x))
 | .pG d x xs=>s.lz d (oE rec s.heap (s.get x) (xs.map s.get))
 | .sn d x y es=>s.gk d (yS (Ef s.heap es (s.get x) (s.get y)))
 | .nj d f xs=>s.gk d (yS (az rec s.heap f (xs.map s.get)))
 | .calls d f xs=>s.mP d (vJ rec s.heap f (xs.map s.get))
 | .nk d t x=>s.eZ d (ug t (s.get x))
 | .inv d _ j6 x xs=>s.mP d (cV (kG rec) j6 (s.get x) (xs.map s.get))
 | .mx d x y=>s.eZ d (Ku (s.get x) (s.get y))
 | .vH d es z n k=>s.gk d (Kn s.heap es z (asInt (s.get n)) (asInt (s.get k)))
def I.dst:I->Option Nat
 | .mv d _ | .pick d .. | .box d .. | .new d _ | .build d .. | .lq d .. | .ld d .. | .fa d .. | .jk d .. | .oC d .. | .sj d .. | .bin d .. | .eqv d .. | .p9 d .. | .un d ..
 | .kE d .. | .len d .. | .sl d .. | .sle d .. | .app d .. | .ext d .. | .ij d .. | .mB d | .pE d .. | .sV d .. | .qQ d .. | .cap d .. | .qR d .. | .qT d .. | .sk d .. | .nS d .. | .sn d .. | .nj d .. | .nk d .. | .mx d .. | .vH d ..=>some d
 | .qg d .. | .copy d .. | .call d .. | .mO d .. | .jf d .. | .nR d .. | .pF d .. | .bad d | .pG d .. | .calls d .. | .inv d ..=>d
 | .st .. | .fE ..=>none
def I.wr:I->Option Nat
 | .st (.t d) _ _ true=>some d
 |i=>i.dst
mutual
def J.qY:J->List Nat
 | .op i=>i.wr.toList
 | .sc _ d _ body _=>d::J.j7 body
 | .re _=>[]
def J.j7:List J->List Nat
 | []=>[]
 |j::r=>j.qY++J.j7 r
end
def pI(ds:List Nat)(e:List (Nat×V)):List (Nat×V):=
 match ds with
 | []=>e
 |d::r=>(d,V.u)::pI r e
open Classical in
noncomputable def V.same (a b:V):Bool:=decide (a=b)
theorem V.aV(a:V):V.same a a=true:=by simp[V.same]
theorem V.uh{a b:V}(h:V.same a b=true):a=b:=by simpa[V.same]using h
noncomputable def again (d:Option Nat)(s s':St):St :=
 match d with
 |some d=>if s'.ok&&V.same (cA s'.env d) (cA s.env d)then s else s.fail
 |none=>s.fail
mutual
noncomputable def jl (rec:Rec):J->St->St
 | .op i,s=>aR rec i s
 | .sc fG d c body x,s =>
  match s.get (.t c)with
  | .d (.b g) =>
   if g=fG then⟨(d,.d (.b fG))::pI (J.j7 body) s.env,s.heap,s.ok⟩
   else
    match(fY rec body s).get x with
    | .d (.b y)=>⟨(d,.d (.b y))::pI (J.j7 body) s.env,(fY rec body s).heap,(fY rec body s).ok⟩
    |_=>s.fail
  |_=>s.fail
 | .re i,s=>again i.dst s (aR rec i s)
noncomputable def fY (rec:Rec):List J->St->St
 | [],s=>s
 |j::r,s=>fY rec r (jl rec j s)
end
noncomputable def cP (rec:Rec)(m:Nat):C->St->Ex×St
 | .skip,s=>(.normal,s)
 | .cq js,s=>(.normal,fY rec js s)
 | .lu fl _ js,s=>(.normal,fY rec js ⟨pI fl s.env,s.heap,s.ok⟩)
 | .seq a b,s =>
  match cP rec m a s with
  |(.normal,s')=>cP rec m b s'
  |r=>r
 | .ite c a b,s =>
  match s.get c with
  | .d (.b x)=>if x then cP rec m a s else cP rec m b s
  |_=>(.normal,s.fail)
 | .bY id c,s =>
  match cP rec m c s with
  |(.exit j,s')=>if j=id then(.normal,s')else(.exit j,s')
  |r=>r
 | .loop live c,s =>
  match canon m live s.env s.heap with
  |some p =>
   match rec (.loop m live c p.1 p.2)with
   |some (.out e env h)=>(e,⟨env,h,s.ok⟩)
   |_=>(.normal,s.fail)
  |none=>(.normal,s.fail)
 | .qU x live ps a b,s =>
  match lX (az rec (s.heap++[.lp ps a b .normal (jP live s.env)])) (s.get x) [.jj s.heap.length]with
  |some (_,h) =>
   match aU h s.heap.length with
   | .lp _ _ _ e _=>(e,⟨s.env,h.set s.heap.length .dead,s.ok⟩)
   |_=>(.normal,s.fail)
  |none=>(.normal,s.fail)
 | .xE d k,s =>
  match Ck s.heap k (s.get (.t d))with
  |some h=>(.normal,⟨s.env,h,s.ok⟩)
  |none=>(.normal,s.fail)
 | .exit id,s=>(.exit id,s)
 | .ret,s=>(.ret,s)
 | .oD ds,s=>(.normal,vK s ds)
 | .keep ds,s =>
  match canon m ds s.env s.heap with
  |some p=>(.normal,⟨p.1,p.2,s.ok⟩)
  |none=>(.normal,s.fail)
def tuple:List V->V
 | [v]=>v
 |vs=>.tu vs
def G0(s:St):RV->Option V
 | .t n=>some (s.get (.t n))
 | .c n k ag=>yR s.heap k ag (s.get (.t n))
def yT(s:St):List RV->Option (List V)
 | []=>some []
 |r::rs=>(G0 s r).bind λv=>(yT s rs).map (v::·)
def finish(res:List RV)(keep:Bool)(m:Nat)(s:St):Option dN :=
 if s.ok then
  ((
   yT s res).map (·.map V.wk)).bind λvs =>
   if m=0/\keep=false then(iq s.heap vs).map λds=>.val (tuple (ds.map V.d)) []
   else(cut s.heap m (V.gA vs)).map λL=>.val (tuple (V.iL (L.idxOf ·) vs)) (sub s.heap L)
 else none
def oF:Nat->List V->List (Nat×V)
 |_,[]=>[]
 |n,v::r=>(n,v)::oF (n+1) r
abbrev Prog:=Nat->Option F
noncomputable def mQ (P:Prog)(rec:Rec):yP->Option dN
 | .call f xs h =>
  match P f with
  |some fn =>
   match fn.Ay with
   |some p=>(p xs h).map λr=>.val r.1 r.2
   |none =>
   match cP rec h.length fn.code ⟨oF 0 xs,h,true⟩with
   |(.normal,s) |(.ret,s)=>finish fn.res fn.keep h.length s
   |_=>none
  |none=>none
 | .loop m live c env h =>
  match cP rec m c ⟨env,h,true⟩with
  |(.normal,s)=>if s.ok then(canon m live s.env s.heap).bind λp=>rec (.loop m live c p.1 p.2)else none
  |(e,s)=>if s.ok then some (.out e s.env s.heap)else none
 | .round ps a b xs env h =>
  match cP rec h.length a ⟨ps.zip xs++env,h,true⟩with
  |(.normal,s) =>
   match cP rec h.length b s with
   |(e,s')=>if s'.ok then(cut s'.heap h.length []).map λL=>.out e [] (sub s'.heap L)else none
  |_=>none
noncomputable def iter (P:Prog):Nat->yP->Option dN
 | 0,_=>none
 |n+1,r=>mQ P (iter P n) r
end Go.VS
namespace Go.VS
def Le(a b:Rec):Prop:=∀r x,a r=some x->b r=some x
@[simp] theorem St.aad(s:St)(d:Nat)(v:V):(s.put d v).ok=s.ok:=rfl
@[simp] theorem St.aae(s:St):s.fail.ok=false:=rfl
theorem St.aaf{s:St}{d:Nat}{o:Option V}(h:(s.eZ d o).ok=true):s.ok=true:=by
 cases o<;>simp_all[St.eZ,St.put,St.fail]
theorem St.WL{s:St}{d:Nat}{o:Option (V×List O)}(h:(s.gk d o).ok=true):s.ok=true:=by
 cases o<;>simp_all[St.gk,St.fail]
theorem St.aag{s:St}{d:Option Nat}{o:Option (V×List O)}(h:(s.lz d o).ok=true):s.ok=true:=by
 cases o<;>cases d<;>simp_all[St.lz,St.fail]
theorem St.aah{s:St}{o:Option (List O)}(h:(s.so o).ok=true):s.ok=true:=by
 cases o<;>simp_all[St.so,St.fail]
theorem St.aai{s:St}{d:Option Nat}{o:Option V}(h:(s.mP d o).ok=true):s.ok=true:=by
 cases o<;>cases d<;>simp_all[St.mP,St.fail]
theorem G1:∀(ds:List Nat){s:St},(vK s ds).ok=true->s.ok=true
 | [],_,h=>h
 |_::r,_,h=>St.WL (G1 r h)
theorem Kz{rec:Rec}{i:I}{s:St}(h:(aR rec i s).ok=true):s.ok=true:=by
 cases i<;>simp only[aR]at h<;>(repeat' (split at h)) <;>
  first
   |exact h
   |exact St.aaf h
   |exact St.WL h
   |exact St.aag h
   |exact St.aai h
   |exact St.aah h
   |(simp at h;done)
theorem aaj{a b:Rec}(hab:Le a b){h:List O}{f:Nat}{xs:List V}{r:V×List O}(hr:aI a h f xs=some r):aI b h f xs=some r:=by
 unfold aI at *;split at hr<;>try (simp at hr;done)
 rename_i ds hds;cases hc:a (.call f xs [])with
 |none=>simp[hc]at hr
 |some x=>rw[hab _ _ hc];rw[hc]at hr;exact hr
theorem KA{a b:Rec}(hab:Le a b){h:List O}{f:Nat}{xs:List V}{r:V×List O}(hr:az a h f xs=some r):az b h f xs=some r:=by
 unfold az at *;cases hL:cut h 0 (V.gA xs)with
 |none=>simp[hL]at hr
 |some L =>
  simp only[hL]at hr⊢;cases hc:a (.call f (V.iL (L.idxOf ·) xs) (sub h L))with
  |none=>simp[hc]at hr
  |some x=>rw[hab _ _ hc];rw[hc]at hr;exact hr
theorem PU{a b:Rec}(hab:Le a b){f:Nat}{xs:List V}{r:V}(hr:kG a f xs=some r):kG b f xs=some r:=by
 unfold kG at *;split at hr<;>try (simp at hr;done)
 rename_i ds hds;cases hc:a (.call f xs [])with
 |none=>simp[hc]at hr
 |some x=>rw[hab _ _ hc];rw[hc]at hr;exact hr
theorem PV{R:Type}{k k':Nat->List V->Option R}(hk:∀f xs r,k f xs=some r->k' f xs=some r)
  {x:V}{xs:List V}{r:R}(hr:lX k x xs=some r):lX k' x xs=some r:=by
 unfold lX at *;split at hr<;>first |exact hk _ _ _ hr |(simp at hr;done)
theorem aak{R:Type}{k k':Nat->List V->Option R}(hk:∀f xs r,k f xs=some r->k' f xs=some r)
  {j6:List (Nat×Nat×Nat)}{x:V}{xs:List V}{r:R}(hr:cV k j6 x xs=some r):cV k' j6 x xs=some r:=by
 unfold cV at *;split at hr
 .split at hr
  .split at hr
   .rename_i h1;simp only[aK h1];exact hk _ _ _ hr
   .simp at hr
  .simp at hr
 .simp at hr
theorem aal{a b:Rec}(hab:Le a b){h:List O}{f:Nat}{xs:List V}{r:V}(hr:vJ a h f xs=some r):vJ b h f xs=some r:=by
 unfold vJ at *;split at hr<;>try (simp at hr;done)
 rename_i ds hds;cases hc:a (.call f (ds.map V.d) [])with
 |none=>simp[hc]at hr
 |some x=>rw[hab _ _ hc];rw[hc]at hr;exact hr
theorem aam{a b:Rec}(hab:Le a b){h:List O}{x:V}{xs:List V}{r:V×List O}(hr:oE a h x xs=some r):oE b h x xs=some r:=by
 unfold oE at *;split at hr<;>try (simp at hr;done)
 split at hr<;>try (simp at hr;done)
 split at hr<;>try (simp at hr;done)
 rename_i hlen;simp only[hlen,dH];split at hr<;>try (simp at hr;done)
 split at hr<;>try (simp at hr;done)
 rename_i hn;simp only[hn,dG];split at hr<;>try (simp at hr;done)
 rename_i e env' h1 hc;rw[hab _ _ hc];exact hr
theorem Cm{s:St}{d:Option Nat}{o:Option V}(h:(s.mP d o).ok=true):∃r,o=some r:=by
 cases o
 .simp[St.mP,St.fail]at h
 .exact⟨_,rfl⟩
theorem xG{s:St}{d:Option Nat}{o:Option (V×List O)}(h:(s.lz d o).ok=true):∃r,o=some r:=by
 cases o
 .simp[St.lz,St.fail]at h
 .exact⟨_,rfl⟩
theorem WM{a b:Rec}(hab:Le a b){i:I}{s:St}(h:(aR a i s).ok=true):aR b i s=aR a i s:=by
 cases i<;>try rfl
 case call d f xs =>
  simp only[aR]at *;obtain⟨r,hr⟩:=Cm h;rw[hr,PU hab hr]
 case mO d f xs =>
  simp only[aR]at *;obtain⟨r,hr⟩:=xG h;rw[hr,aaj hab hr]
 case jf d f xs =>
  simp only[aR]at *;obtain⟨r,hr⟩:=xG h;rw[hr,KA hab hr]
 case nR d f xs =>
  simp only[aR]at *;obtain⟨r,hr⟩:=Cm h;rw[hr,PV (λ_ _ _=>PU hab) hr]
 case inv d nm j6 f xs =>
  simp only[aR]at *;obtain⟨r,hr⟩:=Cm h;rw[hr,aak (λ_ _ _=>PU hab) hr]
 case pF d f xs =>
  simp only[aR]at *;obtain⟨r,hr⟩:=xG h;rw[hr,PV (λ_ _ _=>KA hab) hr]
 case pG d f xs =>
  simp only[aR]at *;obtain⟨r,hr⟩:=xG h;rw[hr,aam hab hr]
 case nj d f xs =>
  simp only[aR]at *;cases hr:az a s.heap f (xs.map s.get)with
  |none=>rw[hr]at h;simp[yS,St.gk,St.fail]at h
  |some r=>rw[KA hab hr]
 case calls d f xs =>
  simp only[aR]at *;obtain⟨r,hr⟩:=Cm h;rw[hr,aal hab hr]
mutual
theorem aan{rec:Rec}:∀{j:J}{s:St},(jl rec j s).ok=true->s.ok=true
 | .op i,s,h=>Kz (by simpa[jl]using h)
 | .sc fG d c body x,s,h=>by
  simp only[jl]at h;split at h
  .split at h
   .simpa using h
   .split at h
    .exact uj (by simpa using h)
    .simp at h
  .simp at h
 | .re i,s,h=>by
  simp only[jl,again]at h;split at h
  .split at h
   .exact h
   .simp at h
  .simp at h
theorem uj{rec:Rec}:∀{js:List J}{s:St},(fY rec js s).ok=true->s.ok=true
 | [],s,h=>by simpa[fY]using h
 |j::r,s,h=>by
  simp only[fY]at h;exact aan (uj h)
end
mutual
theorem aao{a b:Rec}(hab:Le a b):∀{j:J}{s:St},(jl a j s).ok=true->jl b j s=jl a j s
 | .op i,s,h=>by simp only[jl]at *;exact WM hab h
 | .sc fG d c body x,s,h=>by
  simp only[jl]at h⊢;split
  .rename_i g hg
   simp only[hg]at h;split
   .rfl
   .rename_i hne
    rw[aE hne]at h;have hb:(fY a body s).ok=true:=by
     split at h
     .simpa using h
     .simp at h
    rw[KB hab hb]
  .rfl
 | .re i,s,h=>by
  have hi:(aR a i s).ok=true:=by
   simp only[jl,again]at h;split at h
   .split at h
    .rename_i hc
     simp only[bE]at hc;exact hc.1
    .simp at h
   .simp at h
  simp only[jl];rw[WM hab hi]
theorem KB{a b:Rec}(hab:Le a b):∀{js:List J}{s:St},(fY a js s).ok=true->fY b js s=fY a js s
 | [],_,_=>by simp[fY]
 |j::r,s,h=>by
  simp only[fY]at *;have hj:(jl a j s).ok=true:=uj h;rw[aao hab hj,KB hab h]
end
theorem yU{rec:Rec}{m:Nat}:∀{c:C}{s:St},(cP rec m c s).2.ok=true->s.ok=true:=by
 intro c;induction c with
 |skip=>intro s h;exact h
 |cq js=>intro s h;exact uj h
 |lu fl pm js=>intro s h;exact(uj h:(⟨_,_,_⟩:St).ok=true)
 |seq a b iha ihb =>
  intro s h;simp only[cP]at h;split at h
  .rename_i s' hs
   have:=ihb h;exact iha (by rw[hs];exact this)
  .exact iha h
 |ite c a b iha ihb =>
  intro s h;simp only[cP]at h;split at h
  .split at h
   .exact iha h
   .exact ihb h
  .simp at h
 |bY id c ih =>
  intro s h;simp only[cP]at h;split at h
  .rename_i j s' hs
   apply ih;rw[hs];split at h<;>exact h
  .exact ih h
 |loop live c ih =>
  intro s h;simp only[cP]at h;split at h
  .split at h
   .exact h
   .simp at h
  .simp at h
 |exit id=>intro s h;exact h
 |ret=>intro s h;exact h
 |oD ds=>intro s h;exact G1 ds h
 |keep ds =>
  intro s h;simp only[cP]at h;split at h
  .exact h
  .simp at h
 |xE d k =>
  intro s h;simp only[cP]at h;split at h
  .exact h
  .simp at h
 |qU x live ps a b iha ihb =>
  intro s h;simp only[cP]at h;split at h
  .split at h
   .exact h
   .simp at h
  .simp at h
theorem KC{a b:Rec}(hab:Le a b){m:Nat}:∀{c:C}{s:St},(cP a m c s).2.ok=true->cP b m c s=cP a m c s:=by
 intro c;induction c with
 |skip=>intro s h;rfl
 |cq js=>intro s h;simp only[cP]at *;rw[KB hab h]
 |lu fl pm js=>intro s h;simp only[cP]at *;rw[KB hab h]
 |seq x y PW G2 =>
  intro s h;simp only[cP]at h⊢;cases hx:cP a m x s with
  |mk e s' =>
   rw[hx]at h;have hok:s'.ok=true:=by
    cases e
    .exact yU h
    .exact h
    .exact h
   have hb:cP b m x s=(e,s'):=by rw[PW (by rw[hx];exact hok),hx]
   rw[hb];cases e
   .exact G2 h
   .rfl
   .rfl
 |ite c x y PW G2 =>
  intro s h;simp only[cP]at h⊢;split
  .rename_i v hv
   simp only[hv]at h;split
   .rename_i hx;rw[aK hx]at h;exact PW h
   .rename_i hx;rw[aE hx]at h;exact G2 h
  .rfl
 |bY id c ih =>
  intro s h;simp only[cP]at h⊢;cases hx:cP a m c s with
  |mk e s' =>
   rw[hx]at h;have hok:s'.ok=true:=by
    cases e
    .exact h
    .simp only at h;split at h<;>exact h
    .exact h
   rw[ih (by rw[hx];exact hok),hx]
 |loop live c ih =>
  intro s h;simp only[cP]at h⊢;cases hp:canon m live s.env s.heap with
  |none=>rfl
  |some p =>
   simp only[hp]at h⊢;cases hr:a (.loop m live c p.1 p.2)with
   |none=>rw[hr]at h;simp at h
   |some x=>rw[hab _ _ hr]
 |exit id=>intro s h;rfl
 |ret=>intro s h;rfl
 |oD ds=>intro s h;rfl
 |keep ds=>intro s h;rfl
 |xE d k=>intro s h;rfl
 |qU x live ps y z G2 ihz =>
  intro s h;simp only[cP]at h⊢;cases hc:lX (az a (s.heap++[.lp ps y z .normal (jP live s.env)])) (s.get x) [.jj s.heap.length]with
  |none=>rw[hc]at h;simp at h
  |some r=>rw[PV (λ_ _ _=>KA hab) hc]
theorem PX{res:List RV}{keep:Bool}{m:Nat}{s:St}{r:dN}(h:finish res keep m s=some r):s.ok=true:=by
 unfold finish at h;split at h
 .assumption
 .simp at h
theorem aap{P:Prog}{a b:Rec}(hab:Le a b):Le (mQ P a) (mQ P b):=by
 intro r x h;cases r with
 |call f xs hp =>
  simp only[mQ]at h⊢;cases hf:P f with
  |none=>rw[hf]at h;simp at h
  |some fn =>
   rw[hf]at h;simp only at h⊢;cases WN:fn.Ay with
   |some p=>rw[WN]at h;exact h
   |none =>
   rw[WN]at h;simp only at h⊢;cases hc:cP a hp.length fn.code ⟨oF 0 xs,hp,true⟩with
   |mk e s =>
    rw[hc]at h;have hok:s.ok=true:=by
     cases e
     .exact PX h
     .simp at h
     .exact PX h
    rw[KC hab (by rw[hc];exact hok),hc]
    exact h
 |loop m live c env hp =>
  simp only[mQ]at h⊢;cases hc:cP a m c ⟨env,hp,true⟩with
  |mk e s =>
   rw[hc]at h;have hok:s.ok=true:=by
    cases hs:s.ok with
    |true=>rfl
    |false=>cases e<;>simp[hs]at h
   rw[KC hab (by rw[hc];exact hok),hc]
   cases e
   .simp only[hok,dH]at h⊢
    cases hp:canon m live s.env s.heap with
    |none=>rw[hp]at h;simp at h
    |some p =>
     rw[hp]at h;exact hab _ _ h
   .exact h
   .exact h
 |round ps y z xs env hp =>
  simp only[mQ]at h⊢;cases hc:cP a hp.length y ⟨ps.zip xs++env,hp,true⟩with
  |mk e s =>
   rw[hc]at h;cases e<;>simp only at h<;>try (simp at h;done)
   cases ir:cP a hp.length z s with
   |mk e2 s2 =>
    rw[ir]at h;simp only at h;have AD:s2.ok=true:=by
     cases hs:s2.ok with
     |true=>rfl
     |false=>simp[hs]at h
    have hok:s.ok=true:=yU (rec:=a) (m:=hp.length) (c:=z) (by rw[ir];exact AD)
    rw[KC hab (by rw[hc];exact hok),hc]
    simp only;rw[KC hab (by rw[ir];exact AD),ir]
    exact h
theorem WO(P:Prog):∀n,Le (iter P n) (iter P (n+1))
 | 0=>by intro r x h;simp[iter]at h
 |n+1=>aap (WO P n)
theorem PY(P:Prog){n m:Nat}(h:n<=m):Le (iter P n) (iter P m):=by
 induction h with
 |refl=>exact λ_ _ h=>h
 |step _ ih=>exact λr x h=>WO P _ r x (ih r x h)
open Classical in
noncomputable def ev (P:Prog)(r:yP):Option dN :=
 if h:∃n x,iter P n r=some x then some (Classical.choose (B0 h))else none
theorem Eh{P:Prog}{r:yP}{x:dN}:ev P r=some x↔∃n,iter P n r=some x:=by
 unfold ev;constructor
 .intro h
  split at h
  .rename_i hex
   refine⟨Classical.choose hex,?_⟩;rw[<-h];exact B0 (B0 hex)
  .simp at h
 .rintro⟨n,hn⟩
  have hex:∃n x,iter P n r=some x:=⟨n,x,hn⟩;rw[dif_pos hex];have h1:=B0 (B0 hex);have h2:=PY P (Nat.le_max_left n (Classical.choose hex)) _ _ hn;have h3:=PY P (Nat.le_max_right n (Classical.choose hex)) _ _ h1;rw[h2]at h3;exact h3.symm
theorem aaq{P:Prog}{r:yP}{x:dN}(n:Nat)(h:iter P n r=some x):ev P r=some x:=Eh.2 ⟨n,h⟩
theorem near(P:Prog)(r:yP):∃n,∀m,n<=m->iter P m r=ev P r:=by
 cases h:ev P r with
 |none =>
  refine⟨0,λm _=>?_⟩
  cases hm:iter P m r with
  |none=>rfl
  |some x=>rw[aaq m hm]at h;simp at h
 |some x =>
  obtain⟨n,hn⟩:=Eh.1 h;exact⟨n,λm hm=>PY P hm _ _ hn⟩
theorem aar(P:Prog)(h:List O)(f:Nat)(xs:List V):∃n,∀m,n<=m->aI (iter P m) h f xs=aI (ev P) h f xs:=by
 obtain⟨n,hn⟩:=near P (.call f xs []);exact⟨n,λm hm=>by unfold aI;rw[hn m hm]⟩
theorem KD(P:Prog)(h:List O)(f:Nat)(xs:List V):∃n,∀m,n<=m->az (iter P m) h f xs=az (ev P) h f xs:=by
 unfold az;cases hL:cut h 0 (V.gA xs)with
 |none=>exact⟨0,λ_ _=>rfl⟩
 |some L =>
  obtain⟨n,hn⟩:=near P (.call f (V.iL (L.idxOf ·) xs) (sub h L))
  exact⟨n,λm hm=>by simp only[hn m hm]⟩
theorem aas(P:Prog)(h:List O)(f:Nat)(xs:List V):∃n,∀m,n<=m->vJ (iter P m) h f xs=vJ (ev P) h f xs:=by
 unfold vJ;cases hd:iq h xs with
 |none=>exact⟨0,λ_ _=>rfl⟩
 |some ds =>
  obtain⟨n,hn⟩:=near P (.call f (ds.map V.d) []);exact⟨n,λm hm=>by simp only[hn m hm]⟩
theorem aat(P:Prog)(h:List O)(x:V)(xs:List V):∃n,∀m,n<=m->oE (iter P m) h x xs=oE (ev P) h x xs:=by
 unfold oE;split
 .rename_i k
  split
  .rename_i ps a b env hk
   split
   .cases hL:cut (h.set k .dead) 0 (V.gA xs++qW env)with
    |none=>exact⟨0,λ_ _=>rfl⟩
    |some L =>
     obtain⟨n,hn⟩:=near P (.round ps a b (V.iL (L.idxOf ·) xs) (yQ (L.idxOf ·) env) (sub (h.set k .dead) L))
     exact⟨n,λm hm=>by simp only[hn m hm]⟩
   .exact⟨0,λ_ _=>rfl⟩
  .exact⟨0,λ_ _=>rfl⟩
 .exact⟨0,λ_ _=>rfl⟩
theorem PZ(P:Prog)(f:Nat)(xs:List V):∃n,∀m,n<=m->kG (iter P m) f xs=kG (ev P) f xs:=by
 obtain⟨n,hn⟩:=near P (.call f xs []);exact⟨n,λm hm=>by unfold kG;rw[hn m hm]⟩
theorem P0{R:Type}{k:Nat->Nat->List V->Option R}{k':Nat->List V->Option R}
  (hk:∀f xs,∃n,∀m,n<=m->k m f xs=k' f xs)(x:V)(xs:List V):
  ∃n,∀m,n<=m->lX (k m) x xs=lX k' x xs:=by
 unfold lX;split
 .exact hk _ _
 .exact hk _ _
 .exact⟨0,λ_ _=>rfl⟩
theorem aau{R:Type}{k:Nat->Nat->List V->Option R}{k':Nat->List V->Option R}
  (hk:∀f xs,∃n,∀m,n<=m->k m f xs=k' f xs)(j6:List (Nat×Nat×Nat))(x:V)(xs:List V):
  ∃n,∀m,n<=m->cV (k m) j6 x xs=cV k' j6 x xs:=by
 unfold cV;split
 .split
  .split
   .exact hk _ _
   .exact⟨0,λ_ _=>rfl⟩
  .exact⟨0,λ_ _=>rfl⟩
 .exact⟨0,λ_ _=>rfl⟩
theorem WR(P:Prog)(i:I)(s:St):∃n,∀m,n<=m->aR (iter P m) i s=aR (ev P) i s:=by
 cases i<;>try exact⟨0,λ_ _=>rfl⟩
 case call d f xs=>obtain⟨n,hn⟩:=PZ P f (xs.map s.get);exact⟨n,λm hm=>by simp only[aR,hn m hm]⟩
 case mO d f xs=>obtain⟨n,hn⟩:=aar P s.heap f (xs.map s.get);exact⟨n,λm hm=>by simp only[aR,hn m hm]⟩
 case jf d f xs=>obtain⟨n,hn⟩:=KD P s.heap f (xs.map s.get);exact⟨n,λm hm=>by simp only[aR,hn m hm]⟩
 case nR d f xs =>
  obtain⟨n,hn⟩:=P0 (k:=λm=>kG (iter P m)) (k':=kG (ev P)) (PZ P) (s.get f) (xs.map s.get)
  exact⟨n,λm hm=>by simp only[aR,hn m hm]⟩
 case inv d nm j6 f xs =>
  obtain⟨n,hn⟩:=aau (k:=λm=>kG (iter P m)) (k':=kG (ev P)) (PZ P) j6 (s.get f) (xs.map s.get)
  exact⟨n,λm hm=>by simp only[aR,hn m hm]⟩
 case pF d f xs =>
  obtain⟨n,hn⟩:=P0 (k:=λm=>az (iter P m) s.heap) (k':=az (ev P) s.heap) (KD P s.heap) (s.get f) (xs.map s.get)
  exact⟨n,λm hm=>by simp only[aR,hn m hm]⟩
 case nj d f xs=>obtain⟨n,hn⟩:=KD P s.heap f (xs.map s.get);exact⟨n,λm hm=>by simp only[aR,hn m hm]⟩
 case calls d f xs=>obtain⟨n,hn⟩:=aas P s.heap f (xs.map s.get);exact⟨n,λm hm=>by simp only[aR,hn m hm]⟩
 case pG d f xs=>obtain⟨n,hn⟩:=aat P s.heap (s.get f) (xs.map s.get);exact⟨n,λm hm=>by simp only[aR,hn m hm]⟩
mutual
theorem aav(P:Prog):∀(j:J)(s:St),∃n,∀m,n<=m->jl (iter P m) j s=jl (ev P) j s
 | .op i,s=>by simpa only[jl]using WR P i s
 | .sc fG d c body x,s=>by
  obtain⟨n,hn⟩:=KE P body s;exact⟨n,λm hm=>by simp only[jl,hn m hm]⟩
 | .re i,s=>by
  obtain⟨n,hn⟩:=WR P i s;exact⟨n,λm hm=>by simp only[jl,hn m hm]⟩
theorem KE(P:Prog):∀(js:List J)(s:St),∃n,∀m,n<=m->fY (iter P m) js s=fY (ev P) js s
 | [],s=>⟨0,λ_ _=>by simp only[fY]⟩
 |j::r,s=>by
  obtain⟨n,hn⟩:=aav P j s;obtain⟨k,hk⟩:=KE P r (jl (ev P) j s);exact⟨max n k,λm hm=>by simp only[fY];rw[hn m (by omega),hk m (by omega)]⟩
end
theorem KF(P:Prog)(q:Nat)(c:C):∀(s:St),∃n,∀m,n<=m->cP (iter P m) q c s=cP (ev P) q c s:=by
 induction c with
 |skip=>exact λs=>⟨0,λ_ _=>rfl⟩
 |cq js=>intro s;obtain⟨n,hn⟩:=KE P js s;exact⟨n,λm hm=>by simp only[cP,hn m hm]⟩
 |lu fl pm js=>intro s;obtain⟨n,hn⟩:=KE P js ⟨pI fl s.env,s.heap,s.ok⟩;exact⟨n,λm hm=>by simp only[cP,hn m hm]⟩
 |seq a b iha ihb =>
  intro s;obtain⟨n,hn⟩:=iha s;cases hx:cP (ev P) q a s with
  |mk e s' =>
   obtain⟨k,hk⟩:=ihb s';refine⟨max n k,λm hm=>?_⟩
   simp only[cP];rw[hn m (by omega),hx]
   cases e
   .exact hk m (by omega)
   .rfl
   .rfl
 |ite c a b iha ihb =>
  intro s;obtain⟨n,hn⟩:=iha s;obtain⟨k,hk⟩:=ihb s;refine⟨max n k,λm hm=>?_⟩
  simp only[cP];rw[hn m (by omega),hk m (by omega)]
 |bY id c ih=>intro s;obtain⟨n,hn⟩:=ih s;exact⟨n,λm hm=>by simp only[cP,hn m hm]⟩
 |loop live c ih =>
  intro s;cases hp:canon q live s.env s.heap with
  |none=>exact⟨0,λm _=>by simp only[cP,hp]⟩
  |some p =>
   obtain⟨n,hn⟩:=near P (.loop q live c p.1 p.2);exact⟨n,λm hm=>by simp only[cP,hp,hn m hm]⟩
 |exit id=>exact λs=>⟨0,λ_ _=>rfl⟩
 |ret=>exact λs=>⟨0,λ_ _=>rfl⟩
 |oD ds=>exact λs=>⟨0,λ_ _=>rfl⟩
 |keep ds=>exact λs=>⟨0,λ_ _=>rfl⟩
 |xE d k=>exact λs=>⟨0,λ_ _=>rfl⟩
 |qU x live ps y z G2 ihz =>
  intro s;obtain⟨n,hn⟩:=P0 (k:=λm=>az (iter P m) (s.heap++[.lp ps y z .normal (jP live s.env)])) (k':=az (ev P) (s.heap++[.lp ps y z .normal (jP live s.env)]))
   (KD P (s.heap++[.lp ps y z .normal (jP live s.env)])) (s.get x) [.jj s.heap.length]
  exact⟨n,λm hm=>by simp only[cP,hn m hm]⟩
theorem aaw(P:Prog)(r:yP):∃n,∀m,n<=m->mQ P (iter P m) r=mQ P (ev P) r:=by
 cases r with
 |call f xs h =>
  cases hf:P f with
  |none=>exact⟨0,λm _=>by simp only[mQ,hf]⟩
  |some fn =>
   obtain⟨n,hn⟩:=KF P h.length fn.code ⟨oF 0 xs,h,true⟩;exact⟨n,λm hm=>by simp only[mQ,hf,hn m hm]⟩
 |loop q live c env h =>
  obtain⟨n,hn⟩:=KF P q c ⟨env,h,true⟩;cases hx:cP (ev P) q c ⟨env,h,true⟩with
  |mk e s =>
   cases hp:canon q live s.env s.heap with
   |none =>
    refine⟨n,λm hm=>?_⟩
    simp only[mQ];rw[hn m (by omega),hx]
    cases e
    .simp[hp]
    .rfl
    .rfl
   |some p =>
    obtain⟨k,hk⟩:=near P (.loop q live c p.1 p.2);refine⟨max n k,λm hm=>?_⟩
    simp only[mQ];rw[hn m (by omega),hx]
    cases e
    .simp[hp,hk m (by omega)]
    .rfl
    .rfl
 |round ps y z xs env h =>
  obtain⟨n,hn⟩:=KF P h.length y ⟨ps.zip xs++env,h,true⟩;cases hx:cP (ev P) h.length y ⟨ps.zip xs++env,h,true⟩with
  |mk e s =>
   obtain⟨k,hk⟩:=KF P h.length z s;refine⟨max n k,λm hm=>?_⟩
   simp only[mQ];rw[hn m (by omega),hx]
   cases e
   .simp only;rw[hk m (by omega)]
   .rfl
   .rfl
theorem ev_eq(P:Prog)(r:yP):ev P r=mQ P (ev P) r:=by
 obtain⟨n,hn⟩:=aaw P r;obtain⟨k,hk⟩:=near P r;rw[<-hn (max n k) (by omega)]
 have:=hk (max n k+1) (by omega)
 rw[<-this];rfl
end Go.VS
namespace Go.VS
structure Gh where
 β:Nat->Nat
 o:Nat->Nat
 I:Nat->Nat
structure fy where
 fn:Nat->Nat
 lk:List Nat->C->C->Code->Code->Nat->Prop
instance:CoeFun fy (λ_=>Nat->Nat):=⟨fy.fn⟩
instance:Coe fy (Nat->Nat):=⟨fy.fn⟩
section
variable (φ:fy)
mutual
def bQ(I:Nat->Nat)(w:World):D->Value->Prop
 | .b x,v=>v = .bool x
 | .i k n,v=>v = .int k n
 | .s x,v=>∃bs:ByteArray,v = .string bs/\bs.toList=x
 | .nil,v=>v = .pointer none
 | .ref cs,v=>∃b off,v = .pointer (some ⟨b,off,none⟩)/\off+cs.length<=I b/\nA I w b off cs
 | .sl es nl xs,v=>∃a cap,v = .slice a xs.length cap/\xs.length<=cap/\(nl=true->a=none/\cap=0) /\
   (nl=false->∃ad:Addr,a=some ad/\(xs≠[]->ad.spot=none/\ad.off+es*xs.length<=I ad.block/\jG I w ad.block es ad.off xs))
 | .fn f a b,v=>∃A B,v = .func (.func (φ f)) A B/\cy I w a A.toList/\cy I w b B.toList
 | .cM,v=>v = .nilFunc
 | .mw t x,v=>∃y,v = .iface t y/\bQ I w x y
 | .Cc,v=>v = .nilIface
 | .ue,v=>v = .map none
 | .ag cs,v=>∃A,v = .agg A/\cy I w cs A.toList/\∀x∈A.toList,x.oneCell'=true
 | .Cd,_=>True
def nA(I:Nat->Nat)(w:World)(b:Nat):Nat->List D->Prop
 |_,[]=>True
 |off,c::cs=>(∃x,w.cell? ⟨b,off,none⟩=some x/\x.oneCell'=true/\bQ I w c x)/\nA I w b (off+1) cs
def jG(I:Nat->Nat)(w:World)(b es:Nat):Nat->List (List D)->Prop
 |_,[]=>True
 |off,r::rs=>r.length=es/\nA I w b off r/\jG I w b es (off+es) rs
def cy(I:Nat->Nat)(w:World):List D->List Value->Prop
 | [],[]=>True
 |c::cs,v::vs=>bQ I w c v/\cy I w cs vs
 |_,_=>False
end
structure Ext(I:Nat->Nat)(w:World)(I':Nat->Nat)(w':World):Prop where
 le:∀b,I b<=I' b
 cell:∀b i,i<I b->w'.cell? ⟨b,i,none⟩=w.cell? ⟨b,i,none⟩
theorem Ext.refl(I:Nat->Nat)(w:World):Ext I w I w:=⟨λ_=>gj _,λ_ _ _=>rfl⟩
theorem Ext.trans{I I' YM:Nat->Nat}{w w' w'':World}(h:Ext I w I' w')(k:Ext I' w' YM w''):Ext I w YM w'' :=
 ⟨λb=>ng (h.le b) (k.le b),λb i hi=>(k.cell b i (pg hi (h.le b))).trans (h.cell b i hi)⟩
variable {φ}
mutual
theorem x8{I I':Nat->Nat}{w w':World}(h:Ext I w I' w'):∀{x:D}{v:Value},bQ φ I w x v->bQ φ I' w' x v
 | .b x,v,hr=>by simpa[bQ]using hr
 | .i k n,v,hr=>by simpa[bQ]using hr
 | .s x,v,hr=>by simpa[bQ]using hr
 | .nil,v,hr=>by simpa[bQ]using hr
 | .ref cs,v,hr=>by
  simp only[bQ]at hr⊢;obtain⟨b,off,rfl,hI,hc⟩:=hr;exact⟨b,off,rfl,ng hI (h.le b),Tj h hI hc⟩
 | .sl es nl xs,v,hr=>by
  simp only[bQ]at hr⊢;obtain⟨a,cap,rfl,hl,ht,hf⟩:=hr;refine⟨a,cap,rfl,hl,ht,λgm=>?_⟩
  obtain⟨ad,ha,hx⟩:=hf gm;refine⟨ad,ha,λhne=>?_⟩
  obtain⟨hs,hI,hr⟩:=hx hne;exact⟨hs,ng hI (h.le _),YN h hI hr⟩
 | .fn f a b,v,hr=>by
  simp only[bQ]at hr⊢;obtain⟨A,B,rfl,ha,hb⟩:=hr;exact⟨A,B,rfl,zx h ha,zx h hb⟩
 | .cM,v,hr=>by simpa[bQ]using hr
 | .mw t x,v,hr=>by
  simp only[bQ]at hr⊢;obtain⟨y,rfl,hx⟩:=hr;exact⟨y,rfl,x8 h hx⟩
 | .Cc,v,hr=>by simpa[bQ]using hr
 | .ue,v,hr=>by simpa[bQ]using hr
 | .ag cs,v,hr=>by
  simp only[bQ]at hr⊢;obtain⟨A,rfl,ha,h1⟩:=hr;exact⟨A,rfl,zx h ha,h1⟩
 | .Cd,v,hr=>by simp[bQ]
theorem Tj{I I':Nat->Nat}{w w':World}(h:Ext I w I' w'){b:Nat}:∀{off:Nat}{cs:List D},off+cs.length<=I b->nA φ I w b off cs->nA φ I' w' b off cs
 |_,[],_,_=>by simp[nA]
 |off,c::cs,hI,hr=>by
  simp only[nA]at hr⊢;simp only[gX]at hI;obtain⟨⟨x,hx,h1,hd⟩,rF⟩:=hr;exact⟨⟨x,by rw[h.cell b off (by omega)];exact hx,h1,x8 h hd⟩,Tj h (by omega) rF⟩
theorem YN{I I':Nat->Nat}{w w':World}(h:Ext I w I' w'){b es:Nat}:∀{off:Nat}{xs:List (List D)},off+es*xs.length<=I b->jG φ I w b es off xs->jG φ I' w' b es off xs
 |_,[],_,_=>by simp[jG]
 |off,r::rs,hI,hr=>by
  simp only[jG]at hr⊢;simp only[gX,GO,Pp]at hI;obtain⟨hl,hc,rF⟩:=hr;exact⟨hl,Tj h (by omega) hc,YN h (by omega) rF⟩
theorem zx{I I':Nat->Nat}{w w':World}(h:Ext I w I' w'):∀{cs:List D}{vs:List Value},cy φ I w cs vs->cy φ I' w' cs vs
 | [],[],_=>by simp[cy]
 |c::cs,v::vs,hr=>by
  simp only[cy]at hr⊢;exact⟨x8 h hr.1,zx h hr.2⟩
 | [],_::_,hr=>by simp[cy]at hr
 |_::_,[],hr=>by simp[cy]at hr
end
theorem sF{I:Nat->Nat}{w:World}:∀{cs:List D}{vs:List Value},cy φ I w cs vs->cs.length=vs.length
 | [],[],_=>rfl
 |_::_,_::_,h=>by simp only[cy]at h;simp[sF h.2]
 | [],_::_,h=>by simp[cy]at h
 |_::_,[],h=>by simp[cy]at h
theorem Bh{I:Nat->Nat}{w:World}:∀{cs:List D}{vs:List Value},cy φ I w cs vs->∀{j:Nat}{c:D},cs[j]?=some c->∃v,vs[j]?=some v/\bQ φ I w c v
 | [],_,_,j,c,hc=>by simp at hc
 |c::cs,[],h,_,_,_=>by simp[cy]at h
 |c::cs,v::vs,h,j,x,hx=>by
  simp only[cy]at h;cases j with
  |zero=>simp at hx;subst hx;exact⟨v,rfl,h.1⟩
  |succ j=>simpa using Bh h.2 (j:=j) (by simpa using hx)
theorem zy{I:Nat->Nat}{w:World}{cs ds:List D}{vs us:List Value}(h:cy φ I w cs vs)(k:cy φ I w ds us):cy φ I w (cs++ds) (vs++us):=by
 induction cs generalizing vs with
 |nil=>cases vs<;>simp_all[cy]
 |cons c cs ih=>cases vs<;>simp_all[cy]
theorem Fo{I:Nat->Nat}{w:World}{b:Nat}:∀{off:Nat}{cs:List D},nA φ I w b off cs->∀{j:Nat}{c:D},cs[j]?=some c ->
  ∃x,w.cell? ⟨b,off+j,none⟩=some x/\x.oneCell'=true/\bQ φ I w c x
 |off,[],_,j,c,hc=>by simp at hc
 |off,c::cs,h,j,x,hx=>by
  simp only[nA]at h;cases j with
  |zero=>simp at hx;subst hx;exact h.1
  |succ j =>
   have:=Fo h.2 (j:=j) (by simpa using hx)
   rwa [p8,qN 1 j]at this
theorem wj{I:Nat->Nat}{w:World}{b:Nat}:∀{off:Nat}{cs:List D},(∀(j:Nat)(c:D),cs[j]?=some c->∃x,w.cell? ⟨b,off+j,none⟩=some x/\x.oneCell'=true/\bQ φ I w c x)->nA φ I w b off cs
 |off,[],_=>by simp[nA]
 |off,c::cs,h=>by
  simp only[nA];refine⟨h 0 c rfl,wj λj x hx=>?_⟩
  have:=h (j+1) x (by simpa using hx)
  rwa [<-Nat.add_assoc,Nat.add_right_comm]at this
theorem n7{I:Nat->Nat}{w:World}{b es:Nat}:∀{off:Nat}{xs:List (List D)},jG φ I w b es off xs->∀{r:Nat}{row:List D},xs[r]?=some row ->
  row.length=es/\nA φ I w b (off+r*es) row
 |off,[],_,r,row,hc=>by simp at hc
 |off,x::xs,h,r,row,hx=>by
  simp only[jG]at h;cases r with
  |zero=>simp at hx;subst hx;simpa using⟨h.1,h.2.1⟩
  |succ r =>
   have:=n7 h.2.2 (r:=r) (by simpa using hx)
   rw[qP]
   rwa [p8,qN es]at this
theorem uT{I:Nat->Nat}{w:World}{b es:Nat}:∀{off:Nat}{xs:List (List D)},(∀(r:Nat)(row:List D),xs[r]?=some row->row.length=es/\nA φ I w b (off+r*es) row)->jG φ I w b es off xs
 |off,[],_=>by simp[jG]
 |off,x::xs,h=>by
  simp only[jG];have h0:=h 0 x rfl;refine⟨h0.1,by simpa using h0.2,uT λr row hr=>?_⟩
  have:=h (r+1) row (by simpa using hr)
  rw[qP]at this
  rwa [p8,qN es]
theorem It{I:Nat->Nat}{w:World}{b off:Nat}{cs:List D}(h:nA φ I w b off cs):
  ∃vs:List Value,cy φ I w cs vs/\(∀(j:Nat)(v:Value),vs[j]?=some v->w.cell? ⟨b,off+j,none⟩=some v)/\∀v∈vs,v.oneCell'=true:=by
 induction cs generalizing off with
 |nil=>exact⟨[],by simp[cy],by simp,by simp⟩
 |cons c cs ih =>
  simp only[nA]at h;obtain⟨⟨x,hx,h1,hd⟩,hr⟩:=h;obtain⟨vs,hv,hc,ho⟩:=ih hr;refine⟨x::vs,by simp only[cy];exact⟨hd,hv⟩,λj v hj=>?_,by simpa using⟨h1,ho⟩⟩
  cases j with
  |zero=>simp at hj;subst hj;simpa using hx
  |succ j =>
   have:=hc j v (by simpa using hj)
   rwa [p8,qN 1 j]at this
theorem No{I:Nat->Nat}{w:World}{b off:Nat}{cs:List D}{vs:List Value}(h:cy φ I w cs vs)
  (hc:∀(j:Nat)(v:Value),vs[j]?=some v->w.cell? ⟨b,off+j,none⟩=some v)(h1:∀v∈vs,v.oneCell'=true):nA φ I w b off cs :=
 wj λ_ _ hj =>
  let ⟨v,hv,hd⟩:=Bh h hj
  ⟨v,hc _ v hv,h1 v (kY hv),hd⟩
end
end Go.VS
namespace Go.VS
def O.gL:O->Option Nat
 | .aG es _ _=>some es
 | .gK es _=>some es
 |_=>none
def O.len:O->Nat
 | .aG _ _ rows=>rows.length
 | .gK _ rows=>rows.length
 |_=>0
def O.tB:O->Bool
 | .lp ..=>true
 |_=>false
def O.live:O->Bool
 | .dead=>false
 |_=>true
def x9(CS:Array Value):Prop:=∀x∈CS.toList,x.oneCell'=true
def nC(o o':Option Obj):Prop:=∀CS T,o=some (.cells CS T (0,0))->∃rI T',o'=some (.cells rI T' (0,0))/\CS.size<=rI.size/\(x9 CS->x9 rI)
theorem nC.of_eq{o o':Option Obj}(h:o'=o):nC o o':=λCS T hc=>⟨CS,T,by rw[h];exact hc,gj _,id⟩
theorem nC.trans{o o' YO:Option Obj}(a:nC o o')(b:nC o' YO):nC o YO:=λCS T hc =>
 let ⟨rI,T',h1,h2,h3⟩:=a CS T hc
 let ⟨Tk,T2,k1,k2,k3⟩:=b rI T' h1
 ⟨Tk,T2,k1,ng h2 k2,λh=>k3 (h3 h)⟩
def Iu:Value->Bool
 | .pointer (some _)=>true
 |_=>false
theorem ahe{v:Value}(h:Iu v=true):v.oneCell'=true:=by
 cases v<;>simp[Iu]at h;rfl
section
variable (φ:fy)
mutual
def aJ(h:List O)(g:Gh)(w:World):V->Value->Prop
 | .u,_=>True
 | .kC,v=>v=undef
 | .d x,v=>bQ φ g.I w x v
 | .loc n r c,v=>n<h.length/\Iu v=true/\∀es,(aU h n).gL=some es->v = .pointer (some ⟨g.β n,g.o n+r*es+c,none⟩)
 | .aQ n off len,v=>n<h.length/\v.oneCell'=true/\∀es,(aU h n).gL=some es->∃cap,v = .slice (some ⟨g.β n,g.o n+off*es,none⟩) len cap/\len<=cap/\(aU h n).len<=off+cap /\
   ∃CS T,w.heap[g.β n]?=some (.cells CS T (0,0))/\g.o n+(off+cap)*es<=CS.size/\x9 CS
 | .je n off len,v=>n<h.length/\v.oneCell'=true/\∀es,(aU h n).gL=some es->∃cap,v = .slice (some ⟨g.β n,g.o n+off*es,none⟩) len cap/\len<=cap/\(aU h n).len=off+cap /\
   ∃CS T,w.heap[g.β n]?=some (.cells CS T (0,0))/\g.o n+(off+cap)*es<=CS.size/\x9 CS
 | .iT _,v=>∃ad:Addr,v = .slice (some ad) 0 0
 | .mp n,v=>n<h.length/\v.oneCell'=true/\∀kv,aU h n = .mp kv->v = .map (some (g.β n))
 | .rf cs,v=>∃b off us,v = .pointer (some ⟨b,off,none⟩)/\off+cs.length<=g.I b/\bR h g w cs us/\∀(j:Nat)(u:Value),us[j]?=some u->w.cell? ⟨b,off+j,none⟩=some u/\u.oneCell'=true
 | .jj n,v=>n<h.length/\v.oneCell'=true/\((aU h n).tB=true->v = .func (.yield (g.β n)) #[] #[])
 | .fn f a b,v=>∃A B,v = .func (.func (φ f)) A B/\bR h g w a A.toList/\bR h g w b B.toList
 | .ag cs,v=>∃A,v = .agg A/\bR h g w cs A.toList/\∀x∈A.toList,x.oneCell'=true
 | .tu vs,v=>∃A,v = .tuple A/\bR h g w vs A.toList
def bR(h:List O)(g:Gh)(w:World):List V->List Value->Prop
 | [],[]=>True
 |c::cs,v::vs=>aJ h g w c v/\bR h g w cs vs
 |_,_=>False
end
def wm(h:List O)(g:Gh)(w:World)(b es o:Nat)(rows:List (List V)):Prop :=
 ∀(r:Nat)(row:List V),rows[r]?=some row->row.length=es /\
  ∀(j:Nat)(c:V),row[j]?=some c->∃x,w.cell? ⟨b,o+r*es+j,none⟩=some x/\x.oneCell'=true/\aJ φ h g w c x
def uU(h:List O)(g:Gh)(w:World)(kv:List (D×V))(es:List MapEntry):Prop :=
 kv.length=es.length/\∀(i:Nat)(p:D×V)(e:MapEntry),kv[i]?=some p->es[i]?=some e->bQ φ g.I w p.1 e.key/\aJ φ h g w p.2 e.val
def wq:Ex->Option Code
 | .normal=>none
 | .exit id=>some (.exit id)
 | .ret=>some .ret
def C8(h:List O)(g:Gh)(w:World)(env:List (Nat×V))(tmps:Array Value):Prop:=∀p∈env,aJ φ h g w p.2 (tmps.getD p.1 undef)
def gC(h:List O)(g:Gh)(w:World)(b o:Nat):O->Prop
 | .aG es ex rows=>(∃CS T,w.heap[b]?=some (.cells CS T (0,0))/\o+es*rows.length<=CS.size)/\jG φ g.I w b es o rows /\
   (if ex then g.I b<=o else g.I b=o+es*rows.length)
 | .gK es rows=>(∃CS T,w.heap[b]?=some (.cells CS T (0,0))/\o+es*rows.length<=CS.size)/\wm φ h g w b es o rows/\g.I b<=o
 | .mp kv=>∃ES kM,w.heap[b]?=some (.map ES kM)/\uU φ h g w kv ES.toList/\g.I b=0
 | .lp ps a c e env=>∃(r:Loop)(nt:Nat),w.heap[b]?=some (.loop r)/\r.params=ps.toArray/\φ.lk ps a c r.assign r.body nt/\nt<=r.tmps.size/\C8 φ h g w env r.tmps /\
   r.state=(if e = .normal then .ready else .done)/\r.pending=wq e/\g.I b=0
 | .dead=>True
structure eX(h:List O)(g:Gh)(w:World):Prop where
 obj:∀n,gC φ h g w (g.β n) (g.o n) (aU h n)
 inj:∀n m,(aU h n).live=true->(aU h m).live=true->g.β n=g.β m->n=m
 new:∀b,w.heap.size<=b->g.I b=0
structure gU(h:List O)(g:Gh)(w:World)(h':List O)(g':Gh)(w':World):Prop where
 ext:Ext g.I w g'.I w'
 len:h.length<=h'.length
 arr:∀n es,n<h.length->(aU h' n).gL=some es->(aU h n).gL=some es/\g'.β n=g.β n/\g'.o n=g.o n/\(aU h' n).len=(aU h n).len/\nC w.heap[g.β n]? w'.heap[g.β n]?
 mp:∀n kv,n<h.length->aU h' n = .mp kv->(∃kv',aU h n = .mp kv')/\g'.β n=g.β n
 lp:∀n,n<h.length->(aU h' n).tB=true->(aU h n).tB=true/\g'.β n=g.β n
variable {φ}
theorem gU.refl(h:List O)(g:Gh)(w:World):gU h g w h g w :=
 ⟨Ext.refl _ _,gj _,λ_ _ _ he=>⟨he,rfl,rfl,rfl,nC.of_eq rfl⟩,λ_ kv _ hk=>⟨⟨kv,hk⟩,rfl⟩,λ_ _ hk=>⟨hk,rfl⟩⟩
mutual
theorem lI{h h':List O}{g g':Gh}{w w':World}(hle:gU h g w h' g' w'):∀{x:V}{v:Value},aJ φ h g w x v->aJ φ h' g' w' x v
 | .u,v,_=>by simp[aJ]
 | .kC,v,hr=>by simpa[aJ]using hr
 | .d x,v,hr=>by simp only[aJ]at hr⊢;exact x8 hle.ext hr
 | .loc n r c,v,hr=>by
  simp only[aJ]at hr⊢;refine⟨pg hr.1 hle.len,hr.2.1,λes he=>?_⟩
  obtain⟨h1,h2,h3,_⟩:=hle.arr n es hr.1 he;rw[h2,h3];exact hr.2.2 es h1
 | .aQ n off len,v,hr=>by
  simp only[aJ]at hr⊢;refine⟨pg hr.1 hle.len,hr.2.1,λes he=>?_⟩
  obtain⟨h1,h2,h3,h4,h5⟩:=hle.arr n es hr.1 he;obtain⟨cap,hv,hl,hm,CS,T,hb,hs,h1c⟩:=hr.2.2 es h1;obtain⟨rI,T',hb',hs',Tl⟩:=h5 CS T hb;refine⟨cap,by rw[h2,h3];exact hv,hl,by rw[h4];exact hm,rI,T',by rw[h2];exact hb',by rw[h3];exact ng hs hs',Tl h1c⟩
 | .je n off len,v,hr=>by
  simp only[aJ]at hr⊢;refine⟨pg hr.1 hle.len,hr.2.1,λes he=>?_⟩
  obtain⟨h1,h2,h3,h4,h5⟩:=hle.arr n es hr.1 he;obtain⟨cap,hv,hl,hm,CS,T,hb,hs,h1c⟩:=hr.2.2 es h1;obtain⟨rI,T',hb',hs',Tl⟩:=h5 CS T hb;refine⟨cap,by rw[h2,h3];exact hv,hl,by rw[h4];exact hm,rI,T',by rw[h2];exact hb',by rw[h3];exact ng hs hs',Tl h1c⟩
 | .iT _,v,hr=>by simpa only[aJ]using hr
 | .mp n,v,hr=>by
  simp only[aJ]at hr⊢;refine⟨pg hr.1 hle.len,hr.2.1,λkv hk=>?_⟩
  obtain⟨⟨kv',hk'⟩,h2⟩:=hle.mp n kv hr.1 hk;rw[h2];exact hr.2.2 kv' hk'
 | .rf cs,v,hr=>by
  simp only[aJ]at hr⊢;obtain⟨b,off,us,rfl,hI,hv,hc⟩:=hr;have hl:∀{xs:List V}{vs:List Value},bR φ h g w xs vs->xs.length=vs.length:=by
   intro xs;induction xs with
   |nil=>intro vs hr;cases vs<;>simp_all[bR]
   |cons x xs ih=>intro vs hr;cases vs<;>simp_all[bR];exact ih hr.2
  refine⟨b,off,us,rfl,ng hI (hle.ext.le b),ya hle hv,λj u hj=>?_⟩
  have hj':j<us.length:=(rW.1 hj).1;have:=hl hv;rw[hle.ext.cell b (off+j) (by omega)]
  exact hc j u hj
 | .jj n,v,hr=>by
  simp only[aJ]at hr⊢;refine⟨pg hr.1 hle.len,hr.2.1,λhk=>?_⟩
  obtain⟨hk',h2⟩:=hle.lp n hr.1 hk;rw[h2];exact hr.2.2 hk'
 | .fn f a b,v,hr=>by
  simp only[aJ]at hr⊢;obtain⟨A,B,rfl,ha,hb⟩:=hr;exact⟨A,B,rfl,ya hle ha,ya hle hb⟩
 | .ag cs,v,hr=>by
  simp only[aJ]at hr⊢;obtain⟨A,rfl,ha,h1⟩:=hr;exact⟨A,rfl,ya hle ha,h1⟩
 | .tu cs,v,hr=>by
  simp only[aJ]at hr⊢;obtain⟨A,rfl,ha⟩:=hr;exact⟨A,rfl,ya hle ha⟩
theorem ya{h h':List O}{g g':Gh}{w w':World}(hle:gU h g w h' g' w'):∀{xs:List V}{vs:List Value},bR φ h g w xs vs->bR φ h' g' w' xs vs
 | [],[],_=>by simp[bR]
 |c::cs,v::vs,hr=>by
  simp only[bR]at hr⊢;exact⟨lI hle hr.1,ya hle hr.2⟩
 | [],_::_,hr=>by simp[bR]at hr
 |_::_,[],hr=>by simp[bR]at hr
end
theorem oP{h:List O}{g:Gh}{w:World}:∀{cs:List V}{vs:List Value},bR φ h g w cs vs->cs.length=vs.length
 | [],[],_=>rfl
 |_::_,_::_,h=>by simp only[bR]at h;simp[oP h.2]
 | [],_::_,h=>by simp[bR]at h
 |_::_,[],h=>by simp[bR]at h
theorem C9{h:List O}{g:Gh}{w:World}:∀{cs:List V}{vs:List Value},bR φ h g w cs vs->∀{j:Nat}{c:V},cs[j]?=some c->∃v,vs[j]?=some v/\aJ φ h g w c v
 | [],_,_,j,c,hc=>by simp at hc
 |c::cs,[],h,_,_,_=>by simp[bR]at h
 |c::cs,v::vs,h,j,x,hx=>by
  simp only[bR]at h;cases j with
  |zero=>simp at hx;subst hx;exact⟨v,rfl,h.1⟩
  |succ j=>simpa using C9 h.2 (j:=j) (by simpa using hx)
theorem Iv{h:List O}{g:Gh}{w:World}{x:V}{v:Value}(hr:aJ φ h g w x v):aJ φ h g w x.wk v:=by
 cases x with
 |je n off len =>
  simp only[V.wk,aJ]at hr⊢;refine⟨hr.1,hr.2.1,λes he=>?_⟩
  obtain⟨cap,h1,h2,h3,h4⟩:=hr.2.2 es he;exact⟨cap,h1,h2,by omega,h4⟩
 |_=>exact hr
theorem ahf{h:List O}{g:Gh}{w:World}{cs:List V}{vs:List Value}(hr:bR φ h g w cs vs):bR φ h g w (cs.map V.wk) vs:=by
 induction cs generalizing vs with
 |nil=>cases vs<;>simp_all[bR]
 |cons c cs ih =>
  cases vs with
  |nil=>simp[bR]at hr
  |cons v vs =>
   simp only[bR]at hr;simp only[fT,bR];exact⟨Iv hr.1,ih hr.2⟩
theorem rJ{h:List O}{g:Gh}{w:World}{cs ds:List V}{vs us:List Value}(hr:bR φ h g w cs vs)(k:bR φ h g w ds us):bR φ h g w (cs++ds) (vs++us):=by
 induction cs generalizing vs with
 |nil=>cases vs<;>simp_all[bR]
 |cons c cs ih=>cases vs<;>simp_all[bR]
theorem YP{h:List O}{g:Gh}{w:World}{cs:List V}{vs:List Value}(hr:bR φ h g w cs vs)(n:Nat):bR φ h g w (cs.take n) (vs.take n):=by
 induction cs generalizing vs n with
 |nil=>cases vs<;>simp_all[bR]
 |cons c cs ih=>cases vs<;>cases n<;>simp_all[bR]
theorem Iw{h:List O}{g:Gh}{w:World}{cs:List V}{vs:List Value}(hr:bR φ h g w cs vs)(n:Nat):bR φ h g w (cs.drop n) (vs.drop n):=by
 induction cs generalizing vs n with
 |nil=>cases vs<;>simp_all[bR]
 |cons c cs ih=>cases vs<;>cases n<;>simp_all[bR]
theorem zA{h:List O}{g:Gh}{w:World}{cs:List D}{vs:List Value}(hr:cy φ g.I w cs vs):bR φ h g w (cs.map V.d) vs:=by
 induction cs generalizing vs with
 |nil=>cases vs<;>simp_all[cy,bR]
 |cons c cs ih=>cases vs<;>simp_all[cy,bR,aJ]
theorem zB{h:List O}{g:Gh}{w:World}:∀{cs:List V}{ds:List D}{vs:List Value},fA cs=some ds->bR φ h g w cs vs->cy φ g.I w ds vs
 | [],ds,vs,hd,hr=>by simp[fA]at hd;subst hd;cases vs<;>simp_all[bR,cy]
 |c::cs,ds,[],_,hr=>by simp[bR]at hr
 |c::cs,ds,v::vs,hd,hr=>by
  cases c<;>simp only[fA,reduceCtorEq]at hd;rename_i x;cases hq:fA cs with
  |none=>simp[hq]at hd
  |some es =>
   simp[hq]at hd;subst hd;simp only[bR,aJ,cy]at hr⊢;exact⟨hr.1,zB hq hr.2⟩
theorem ahg(ds:List D):fA (ds.map V.d)=some ds:=by
 induction ds with
 |nil=>rfl
 |cons d ds ih=>simp[fA,ih]
theorem Fp:∀{cs:List V}{ds:List D},fA cs=some ds->cs=ds.map V.d
 | [],ds,h=>by simp[fA]at h;subst h;rfl
 |c::cs,ds,h=>by
  cases c<;>simp only[fA,reduceCtorEq]at h;cases hq:fA cs with
  |none=>simp[hq]at h
  |some es=>simp[hq]at h;subst h;simp[Fp hq]
theorem ahh{v:Value}(h:v.oneCell'=true):v.cells=#[v]:=by
 cases v<;>first |rfl |simp[Value.oneCell']at h
theorem ahi{I:Nat->Nat}{w:World}{x:D}{v:Value}(hr:bQ φ I w x v)(hx:∀cs,x≠.ag cs)(hj:x≠.Cd):v.oneCell'=true:=by
 cases x<;>simp only[bQ]at hr
 case ag cs=>exact absurd rfl (hx cs)
 case Cd=>exact absurd rfl hj
 all_goals first
  |(subst hr;rfl)
  |(obtain⟨_,rfl,_⟩:=hr;rfl)
  |(obtain⟨_,_,rfl,_⟩:=hr;rfl)
theorem zC{h:List O}{g:Gh}{w:World}{x:V}{v:Value}(hr:aJ φ h g w x v)(hx:x.cells=[x])(h1:v.oneCell'=true):
  bR φ h g w x.cells v.cells.toList/\∀y∈v.cells.toList,y.oneCell'=true:=by
 rw[hx,ahh h1];exact⟨by simpa[bR]using hr,by simpa using h1⟩
theorem Fq{h:List O}{g:Gh}{w:World}{x:V}{v:Value}(hr:aJ φ h g w x v)(hx:x.known=true):
  bR φ h g w x.cells v.cells.toList/\∀y∈v.cells.toList,y.oneCell'=true:=by
 cases x with
 |u=>simp[V.known]at hx
 |kC=>simp[V.known]at hx
 |tu vs=>simp[V.known]at hx
 |d y =>
  cases y with
  |ag cs =>
   simp only[aJ,bQ]at hr;obtain⟨A,rfl,ha,h1⟩:=hr;exact⟨zA ha,h1⟩
  |Cd=>simp[V.known]at hx
  |_=>exact zC hr rfl (ahi (by simpa only[aJ]using hr) (by intro _ hh;cases hh) (by intro hh;cases hh))
 |loc n r c=>exact zC hr rfl (by simp only[aJ]at hr;exact ahe hr.2.1)
 |aQ n off len=>exact zC hr rfl (by simp only[aJ]at hr;exact hr.2.1)
 |je n off len=>exact zC hr rfl (by simp only[aJ]at hr;exact hr.2.1)
 |mp n=>exact zC hr rfl (by simp only[aJ]at hr;exact hr.2.1)
 |jj n=>exact zC hr rfl (by simp only[aJ]at hr;exact hr.2.1)
 |rf cs =>
  refine zC hr rfl ?_;simp only[aJ]at hr;obtain⟨b,off,us,rfl,_⟩:=hr;rfl
 |iT es =>
  refine zC hr rfl ?_;simp only[aJ]at hr;obtain⟨ad,rfl⟩:=hr;rfl
 |fn f a b =>
  refine zC hr rfl ?_;simp only[aJ]at hr;obtain⟨A,B,rfl,_⟩:=hr;rfl
 |ag cs =>
  simp only[aJ]at hr;obtain⟨A,rfl,ha,h1⟩:=hr;exact⟨ha,h1⟩
structure zD(h:List O)(g:Gh)(w:World)(h':List O)(w':World)(n:Nat):Prop where
 arr:∀es,(aU h' n).gL=some es->(aU h n).gL=some es/\(aU h' n).len=(aU h n).len/\nC w.heap[g.β n]? w'.heap[g.β n]?
 mp:∀kv,aU h' n = .mp kv->∃kv',aU h n = .mp kv'
 lp:(aU h' n).tB=true->(aU h n).tB=true
theorem zD.refl(h:List O)(g:Gh)(w:World)(n:Nat):zD h g w h w n:=⟨λ_ he=>⟨he,rfl,nC.of_eq rfl⟩,λkv hk=>⟨kv,hk⟩,id⟩
theorem zD.trans{h h' h'':List O}{g g':Gh}{w w' w'':World}{n:Nat}(a:zD h g w h' w' n)(b:zD h' g' w' h'' w'' n)(hb:g'.β n=g.β n):zD h g w h'' w'' n where
 arr es he:=by
  obtain⟨h1,h2,h3⟩:=b.arr es he;obtain⟨k1,k2,k3⟩:=a.arr es h1;rw[hb]at h3;exact⟨k1,h2.trans k2,k3.trans h3⟩
 mp kv hk:=let ⟨kv',h1⟩:=b.mp kv hk;a.mp kv' h1
 lp hk:=a.lp (b.lp hk)
theorem gU.at{h h':List O}{g g':Gh}{w w':World}(hle:gU h g w h' g' w'){n:Nat}(hn:n<h.length):zD h g w h' w' n :=
 ⟨λes he=>let ⟨h1,_,_,h2,h3⟩:=hle.arr n es hn he;⟨h1,h2,h3⟩,λkv hk=>(hle.mp n kv hn hk).1,λhk=>(hle.lp n hn hk).1⟩
structure Frame(m:Nat)(h:List O)(g:Gh)(w:World)(h':List O)(g':Gh)(w':World):Prop where
 ext:Ext g.I w g'.I w'
 size:w.heap.size<=w'.heap.size
 os:w'.os=w.os
 tape:w'.tape=w.tape
 output:w'.output=w.output
 oQ:∀n,n<m->g'.β n=g.β n/\g'.o n=g.o n
 keep:∀b,b<w.heap.size->(∀n,(aU h n).live=true->g.β n≠b)->w'.heap[b]?=w.heap[b]?/\g'.I b=g.I b
 mG:∀n,(aU h' n).live=true->(∃k,(aU h k).live=true/\g.β k=g'.β n)\/w.heap.size<=g'.β n
 oR:∀n,n<m->zD h g w h' w' n
theorem Frame.refl(m:Nat)(h:List O)(g:Gh)(w:World):Frame m h g w h g w :=
 ⟨Ext.refl _ _,gj _,rfl,rfl,rfl,λ_ _=>⟨rfl,rfl⟩,λ_ _ _=>⟨rfl,rfl⟩,λn hn=>.inl ⟨n,hn,rfl⟩,λn _=>zD.refl _ _ _ n⟩
theorem Frame.trans{m:Nat}{h h' h'':List O}{g g' g'':Gh}{w w' w'':World}(a:Frame m h g w h' g' w')(b:Frame m h' g' w' h'' g'' w''):Frame m h g w h'' g'' w'' where
 ext:=a.ext.trans b.ext
 size:=ng a.size b.size
 os:=b.os.trans a.os
 tape:=b.tape.trans a.tape
 output:=b.output.trans a.output
 oQ n hn:=⟨(b.oQ n hn).1.trans (a.oQ n hn).1,(b.oQ n hn).2.trans (a.oQ n hn).2⟩
 keep k hk hn:=by
  have h1:=a.keep k hk hn;have h2:=b.keep k (pg hk a.size) (λn hl he=>by
   rcases a.mG n hl with⟨j,hj,hb⟩ |hs
   .exact hn j hj (hb.trans he)
   .omega)
  exact⟨h2.1.trans h1.1,h2.2.trans h1.2⟩
 mG n hn:=by
  rcases b.mG n hn with⟨k,hk,hb⟩ |hs
  .rcases a.mG k hk with⟨j,hj,hc⟩ |hs'
   .exact .inl ⟨j,hj,hc.trans hb⟩
   .exact .inr (by omega)
  .exact .inr (by have:=a.size;omega)
 oR n hn:=(a.oR n hn).trans (b.oR n hn) (a.oQ n hn).1
end
end Go.VS
namespace Go.VS
section
variable {φ:fy}
theorem Ix{w w':World}{b:Nat}(h:w'.heap[b]?=w.heap[b]?)(i:Nat):w'.cell? ⟨b,i,none⟩=w.cell? ⟨b,i,none⟩:=by
 simp only[World.cell?,h]
theorem Bi{h:List O}{n:Nat}(hl:(aU h n).live=true):n<h.length:=by
 rcases k9 n h.length with hlt |hge
 .exact hlt
 .simp[aU,List.getD,nN hge,O.live]at hl
theorem Bj{o:O}{es:Nat}(h:o.gL=some es):o.live=true:=by cases o<;>simp_all[O.gL,O.live]
theorem YQ{I I':Nat->Nat}{w w':World}(hE:Ext I w I' w'){b es o:Nat}{xs:List (List D)}(hc:∀i,w'.cell? ⟨b,i,none⟩=w.cell? ⟨b,i,none⟩)
  (h:jG φ I w b es o xs):jG φ I' w' b es o xs :=
 uT λ_ _ hr =>
  let ⟨h1,h2⟩:=n7 h hr
  ⟨h1,wj λ_ _ hj =>
   let ⟨x,hx,h3,h4⟩:=Fo h2 hj
   ⟨x,by rw[hc];exact hx,h3,x8 hE h4⟩⟩
theorem ahj{h h':List O}{g g':Gh}{w w':World}(hle:gU h g w h' g' w'){b es o:Nat}{rows:List (List V)}
  (hc:∀i,w'.cell? ⟨b,i,none⟩=w.cell? ⟨b,i,none⟩)(hr:wm φ h g w b es o rows):wm φ h' g' w' b es o rows:=λr row hrow =>
 let ⟨h1,h2⟩:=hr r row hrow
 ⟨h1,λj c hj =>
  let ⟨x,hx,h3,h4⟩:=h2 j c hj
  ⟨x,by rw[hc];exact hx,h3,lI hle h4⟩⟩
theorem Tm{h h':List O}{g g':Gh}{w w':World}(hle:gU h g w h' g' w'){kv:List (D×V)}{es:List MapEntry}
  (hr:uU φ h g w kv es):uU φ h' g' w' kv es :=
 ⟨hr.1,λi p e hp he=>let ⟨h1,h2⟩:=hr.2 i p e hp he;⟨x8 hle.ext h1,lI hle h2⟩⟩
theorem Tn{h h':List O}{g g':Gh}{w w':World}(hle:gU h g w h' g' w'){env:List (Nat×V)}{tmps:Array Value}
  (hr:C8 φ h g w env tmps):C8 φ h' g' w' env tmps:=λp hp=>lI hle (hr p hp)
theorem Da{h h':List O}{g g':Gh}{w w':World}(hle:gU h g w h' g' w'){b o:Nat}{x:O}(hb:w'.heap[b]?=w.heap[b]?)(hI:g'.I b=g.I b)
  (hr:gC φ h g w b o x):gC φ h' g' w' b o x:=by
 have hc:=Ix hb;cases x with
 |dead=>trivial
 |aG es ex rows =>
  obtain⟨h1,h2,h3⟩:=hr;exact⟨by rw[hb];exact h1,YQ hle.ext hc h2,by rw[hI];exact h3⟩
 |gK es rows =>
  obtain⟨h1,h2,h3⟩:=hr;exact⟨by rw[hb];exact h1,ahj hle hc h2,by rw[hI];exact h3⟩
 |mp kv =>
  obtain⟨ES,kM,h1,h2,h3⟩:=hr;exact⟨ES,kM,by rw[hb];exact h1,Tm hle h2,by rw[hI];exact h3⟩
 |lp ps a c e env =>
  obtain⟨r,nt,h1,h0,h2,h3,h4,h5,h6,h7⟩:=hr;exact⟨r,nt,by rw[hb];exact h1,h0,h2,h3,Tn hle h4,h5,h6,by rw[hI];exact h7⟩
theorem ahk{h:List O}{g:Gh}{w:World}{b o:Nat}{x:O}(hr:gC φ h g w b o x)(hl:x.live=true):b<w.heap.size:=by
 have key:∀{y:Obj},w.heap[b]?=some y->b<w.heap.size:=λhy=>by
  rcases k9 b w.heap.size with hlt |hge
  .exact hlt
  .simp[J2 hge]at hy
 cases x with
 |dead=>simp[O.live]at hl
 |aG es ex rows=>obtain⟨⟨CS,T,h1,_⟩,_⟩:=hr;exact key h1
 |gK es rows=>obtain⟨⟨CS,T,h1,_⟩,_⟩:=hr;exact key h1
 |mp kv=>obtain⟨ES,kM,h1,_⟩:=hr;exact key h1
 |lp ps a c e env=>obtain⟨r,nt,h1,_⟩:=hr;exact key h1
theorem eX.block{h:List O}{g:Gh}{w:World}(hr:eX φ h g w){n:Nat}(hl:(aU h n).live=true):g.β n<w.heap.size:=ahk (hr.obj n) hl
structure gM(w w':World):Prop where
 size:w.heap.size<=w'.heap.size
 same:∀b,b<w.heap.size->w'.heap[b]?=w.heap[b]?
 os:w'.os=w.os
 tape:w'.tape=w.tape
 output:w'.output=w.output
theorem gM.refl(w:World):gM w w:=⟨gj _,λ_ _=>rfl,rfl,rfl,rfl⟩
theorem gM.trans{a b c:World}(h:gM a b)(k:gM b c):gM a c :=
 ⟨ng h.size k.size,λi hi=>(k.same i (pg hi h.size)).trans (h.same i hi),k.os.trans h.os,k.tape.trans h.tape,k.output.trans h.output⟩
theorem gM.alloc(w:World)(o:Obj):gM w (w.alloc o):=
 ⟨by simp,λb hb=>RowKit.Below.heap_alloc w o b hb,rfl,rfl,rfl⟩
theorem gM.drew(w:World):gM w w.drew:=⟨gj _,λ_ _=>rfl,rfl,rfl,rfl⟩
def Gh.eo(g:Gh)(I:Nat->Nat):Gh:=⟨g.β,g.o,I⟩
def iQ(I:Nat->Nat)(b k:Nat):Nat->Nat:=λx=>if x=b then k else I x
theorem Db{I I':Nat->Nat}{w w':World}(hg:gM w w')(hI:∀b,b<w.heap.size->I' b=I b)(h0:∀b,w.heap.size<=b->I b=0):Ext I w I' w' :=
 ⟨λb=>by
  rcases k9 b w.heap.size with h |h
  .rw[hI b h];exact gj _
  .rw[h0 b h];exact B6 _,
  λb i hi=>by
  rcases k9 b w.heap.size with h |h
  .exact Ix (hg.same b h) i
  .rw[h0 b h]at hi;omega⟩
theorem To{h:List O}{g:Gh}{w w':World}{I':Nat->Nat}(hr:eX φ h g w)(hg:gM w w')(hI:∀b,b<w.heap.size->I' b=g.I b):gU h g w h (g.eo I') w' where
 ext:=Db hg hI hr.new
 len:=gj _
 arr n es _ he:=⟨he,rfl,rfl,rfl,nC.of_eq (hg.same _ (hr.block (Bj he)))⟩
 mp n kv _ hk:=⟨⟨kv,hk⟩,rfl⟩
 lp n _ hk:=⟨hk,rfl⟩
theorem ahl{h:List O}{g:Gh}{w w':World}{I':Nat->Nat}(hr:eX φ h g w)(hg:gM w w')(hI:∀b,b<w.heap.size->I' b=g.I b)
  (hnew:∀b,w'.heap.size<=b->I' b=0):eX φ h (g.eo I') w' where
 obj n:=by
  by_cases hl:(aU h n).live=true
  .have hb:=hr.block hl
   exact Da (To hr hg hI) (hg.same _ hb) (hI _ hb) (hr.obj n)
  .cases hx:aU h n<;>simp_all[O.live,gC]
 inj:=hr.inj
 new:=hnew
theorem Dc(m:Nat){h:List O}{g:Gh}{w w':World}{I':Nat->Nat}(hr:eX φ h g w)(hg:gM w w')(hI:∀b,b<w.heap.size->I' b=g.I b):Frame m h g w h (g.eo I') w' where
 ext:=Db hg hI hr.new
 size:=hg.size
 os:=hg.os
 tape:=hg.tape
 output:=hg.output
 oQ _ _:=⟨rfl,rfl⟩
 keep b hb _:=⟨hg.same b hb,hI b hb⟩
 mG n hn:=.inl ⟨n,hn,rfl⟩
 oR n _:=⟨λ_ he=>⟨he,rfl,nC.of_eq (hg.same _ (hr.block (Bj he)))⟩,λkv hk=>⟨kv,hk⟩,id⟩
def Gh.add(g:Gh)(n b o:Nat)(I:Nat->Nat):Gh:=⟨λk=>if k=n then b else g.β k,λk=>if k=n then o else g.o k,I⟩
theorem pQ{h:List O}{x:O}{n:Nat}(hn:n<h.length):aU (h++[x]) n=aU h n:=by
 simp[aU,List.getD,sP hn]
theorem Dd{h:List O}{x:O}:aU (h++[x]) h.length=x:=by simp[aU,List.getD]
theorem uV{h:List O}{x:O}{n:Nat}(hn:h.length<n):aU (h++[x]) n = .dead:=by
 have:(h++[x]).length<=n:=by simp;omega
 simp[aU,List.getD,nN this]
theorem zE{h:List O}{g:Gh}{w w':World}{I':Nat->Nat}{b o:Nat}(x:O)(hr:eX φ h g w)(hg:gM w w')(hI:∀b,b<w.heap.size->I' b=g.I b):
  gU h g w (h++[x]) (g.add h.length b o I') w' where
 ext:=Db hg hI hr.new
 len:=by simp
 arr n es hn he:=by
  rw[pQ hn]at he⊢;have hne:n≠h.length:=by omega
  exact⟨he,by simp[Gh.add,hne],by simp[Gh.add,hne],rfl,nC.of_eq (hg.same _ (hr.block (Bj he)))⟩
 mp n kv hn hk:=by
  rw[pQ hn]at hk;have hne:n≠h.length:=by omega
  exact⟨⟨kv,hk⟩,by simp[Gh.add,hne]⟩
 lp n hn hk:=by
  rw[pQ hn]at hk;have hne:n≠h.length:=by omega
  exact⟨hk,by simp[Gh.add,hne]⟩
theorem YR{h:List O}{g:Gh}{w w':World}{I':Nat->Nat}{b o:Nat}{x:O}(hr:eX φ h g w)(hg:gM w w')(hI:∀b,b<w.heap.size->I' b=g.I b)
  (hnew:∀b,w'.heap.size<=b->I' b=0)(hb:w.heap.size<=b)(hx:gC φ (h++[x]) (g.add h.length b o I') w' b o x):eX φ (h++[x]) (g.add h.length b o I') w' where
 obj n:=by
  rcases sQ n h.length with hn |hn |hn
  .have hne:n≠h.length:=by omega
   rw[pQ hn];by_cases hl:(aU h n).live=true
   .have hb':=hr.block hl
    have:=Da (zE (b:=b) (o:=o) x hr hg hI) (hg.same _ hb') (hI _ hb') (hr.obj n);simpa[Gh.add,hne]using this
   .cases hq:aU h n<;>simp_all[O.live,gC]
  .subst hn
   rw[Dd];simpa[Gh.add]using hx
  .rw[uV hn]
   trivial
 inj n k hn hk he:=by
  have key:∀n,(aU (h++[x]) n).live=true->n<=h.length:=λn hn=>by
   rcases k9 h.length n with h1 |h1
   .rw[uV h1]at hn;simp[O.live]at hn
   .exact h1
  have kn:=key n hn;have kk:=key k hk;by_cases h1:n=h.length<;>by_cases h2:k=h.length
  .omega
  .have hlt:k<h.length:=by omega
   rw[pQ hlt]at hk;have:=hr.block hk;simp[Gh.add,h1,h2]at he;omega
  .have hlt:n<h.length:=by omega
   rw[pQ hlt]at hn;have:=hr.block hn;simp[Gh.add,h1,h2]at he;omega
  .have hlt:n<h.length:=by omega
   have hlt':k<h.length:=by omega
   rw[pQ hlt]at hn;rw[pQ hlt']at hk;simp[Gh.add,h1,h2]at he;exact hr.inj n k hn hk he
 new:=hnew
theorem Tp{m:Nat}{h:List O}{g:Gh}{w w':World}{I':Nat->Nat}{b o:Nat}(x:O)(hr:eX φ h g w)(hg:gM w w')(hI:∀b,b<w.heap.size->I' b=g.I b)
  (hb:w.heap.size<=b)(hm:m<=h.length):Frame m h g w (h++[x]) (g.add h.length b o I') w' where
 ext:=Db hg hI hr.new
 size:=hg.size
 os:=hg.os
 tape:=hg.tape
 output:=hg.output
 oQ n hn:=by
  have hne:n≠h.length:=by omega
  simp[Gh.add,hne]
 keep b hb _:=⟨hg.same b hb,hI b hb⟩
 mG n hn:=by
  rcases sQ n h.length with h1 |h1 |h1
  .have hne:n≠h.length:=by omega
   rw[pQ h1]at hn;exact .inl ⟨n,hn,by simp[Gh.add,hne]⟩
  .exact .inr (by simp[Gh.add,h1];exact hb)
  .rw[uV h1]at hn;simp[O.live]at hn
 oR n hn:=(zE x hr hg hI (b:=b) (o:=o)).at (pg hn hm)
structure jU(w w':World)(b:Nat):Prop where
 size:w'.heap.size=w.heap.size
 same:∀k,k≠b->w'.heap[k]?=w.heap[k]?
 os:w'.os=w.os
 tape:w'.tape=w.tape
 output:w'.output=w.output
theorem wu{h:List O}{x:O}{n:Nat}(hn:n<h.length):aU (h.set n x) n=x:=by simp[aU,List.getD,hn]
theorem pS{h:List O}{x:O}{n k:Nat}(hk:k≠n):aU (h.set n x) k=aU h k:=by
 simp[aU,List.getD,Ne.symm hk]
theorem wv{h:List O}{g:Gh}{w w':World}{I':Nat->Nat}{n:Nat}{x:O}(hr:eX φ h g w)(hl:(aU h n).live=true)(ht:jU w w' (g.β n))
  (hE:Ext g.I w I' w')
  (hx:∀es,x.gL=some es->(aU h n).gL=some es/\x.len=(aU h n).len/\nC w.heap[g.β n]? w'.heap[g.β n]?)
  (hmp:∀kv,x = .mp kv->∃kv',aU h n = .mp kv')(Iy:x.tB=true->(aU h n).tB=true:=by intro hh;simp[O.tB]at hh):gU h g w (h.set n x) (g.eo I') w' where
 ext:=hE
 len:=by simp
 arr k es hk he:=by
  by_cases hkn:k=n
  .subst hkn
   rw[wu hk]at he⊢;exact⟨(hx es he).1,rfl,rfl,(hx es he).2.1,(hx es he).2.2⟩
  .rw[pS hkn]at he⊢
   have hb:g.β k≠g.β n:=λe=>hkn (hr.inj k n (Bj he) hl e)
   exact⟨he,rfl,rfl,rfl,nC.of_eq (ht.same _ hb)⟩
 mp k kv hk hq:=by
  by_cases hkn:k=n
  .subst hkn
   rw[wu hk]at hq;exact⟨hmp kv hq,rfl⟩
  .rw[pS hkn]at hq
   exact⟨⟨kv,hq⟩,rfl⟩
 lp k hk hq:=by
  by_cases hkn:k=n
  .subst hkn
   rw[wu hk]at hq;exact⟨Iy hq,rfl⟩
  .rw[pS hkn]at hq
   exact⟨hq,rfl⟩
theorem wx{h:List O}{g:Gh}{w w':World}{I':Nat->Nat}{n:Nat}{x:O}(hr:eX φ h g w)(hl:(aU h n).live=true)(ht:jU w w' (g.β n))
  (hle:gU h g w (h.set n x) (g.eo I') w')(hI:∀b,b≠g.β n->I' b=g.I b)
  (hx:gC φ (h.set n x) (g.eo I') w' (g.β n) (g.o n) x):eX φ (h.set n x) (g.eo I') w' where
 obj k:=by
  by_cases hkn:k=n
  .subst hkn
   rw[wu (Bi hl)];exact hx
  .rw[pS hkn]
   by_cases hk:(aU h k).live=true
   .have hb:g.β k≠g.β n:=λe=>hkn (hr.inj k n hk hl e)
    exact Da hle (ht.same _ hb) (hI _ hb) (hr.obj k)
   .cases hq:aU h k<;>simp_all[O.live,gC]
 inj a b ha hb he:=by
  have key:∀k,(aU (h.set n x) k).live=true->(aU h k).live=true:=λk hk=>by
   by_cases hkn:k=n
   .subst hkn;exact hl
   .rwa [pS hkn]at hk
  exact hr.inj a b (key a ha) (key b hb) he
 new b hb:=by
  have h1:w.heap.size<=b:=by rw[<-ht.size];exact hb
  have h2:=hr.block hl;show I' b=0
  rw[hI b (by omega)]
  exact hr.new b h1
theorem wy{m:Nat}{h:List O}{g:Gh}{w w':World}{I':Nat->Nat}{n:Nat}(x:O)(hl:(aU h n).live=true)(ht:jU w w' (g.β n))
  (hE:Ext g.I w I' w')(hI:∀b,b≠g.β n->I' b=g.I b)(hle:gU h g w (h.set n x) (g.eo I') w'):Frame m h g w (h.set n x) (g.eo I') w' where
 ext:=hE
 size:=by rw[ht.size];exact gj _
 os:=ht.os
 tape:=ht.tape
 output:=ht.output
 oQ _ _:=⟨rfl,rfl⟩
 keep b _ hn:=⟨ht.same b (λe=>hn n hl e.symm),hI b (λe=>hn n hl e.symm)⟩
 mG k hk:=by
  by_cases hkn:k=n
  .subst hkn;exact .inl ⟨k,hl,rfl⟩
  .rw[pS hkn]at hk;exact .inl ⟨k,hk,rfl⟩
 oR k _:=by
  rcases k9 k h.length with h1 |h1
  .exact hle.at h1
  .have h2:aU (h.set n x) k = .dead:=by
    have:(h.set n x).length<=k:=by simpa using h1
    simp[aU,List.getD,nN this]
   exact⟨λes he=>by rw[h2]at he;simp[O.gL]at he,λkv hk=>by rw[h2]at hk;simp at hk,λhk=>by rw[h2]at hk;simp[O.tB]at hk⟩
end
end Go.VS
