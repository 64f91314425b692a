import GoSem.Step
import Derived.WalkKit
import Derived.Laws.Sem
import GoSem.Extern.Table
set_option linter.all false
namespace Go.VS
inductive D where
 | b (x:Bool)
 | i (k:IntKind) (n:Int)
 | s (x:List UInt8)
 | nil
 | ref (cs:List D)
 | sl (es:Nat) (nl:Bool) (xs:List (List D))
 | fn (f:Nat) (first caps:List D)
 | nilfn
 | ifc (t:Nat) (x:D)
 | nilifc
 | nilmap
 | ag (cs:List D)
 | junk
 deriving Inhabited
inductive V where
 | u
 | skp
 | d (x:D)
 | loc (n r c:Nat)
 | asl (n off len:Nat)
 | aslx (n off len:Nat)
 | sl0 (es:Nat)
 | mp (n:Nat)
 | fn (f:Nat) (first caps:List V)
 | ag (cs:List V)
 | tu (vs:List V)
 | yld (n:Nat)
 | rf (cs:List V)
 deriving Inhabited
inductive A where
 | t (n:Nat)
 | k (x:D)
inductive CK where
 | b | i | s
 deriving DecidableEq
inductive LK where
 | sl | s | mp
 deriving DecidableEq
inductive NK where
 | sl | mp | fn | pt | ifc
 deriving DecidableEq
inductive I where
 | mv (d:Nat) (x:A)
 | pick (d:Nat) (c a b:A)
 | box (d:Nat) (x:A) (n:Nat) (fz:Bool)
 | new (d:Nat) (z:List D)
 | build (d:Nat) (z:List D) (ps:List (Nat×Nat×A))
 | buildSl (d:Nat) (es n:Nat) (z:List D) (ps:List (Nat×A)) (fz:Bool)
 | ld (d:Nat) (x:A) (n:Nat) (ag:Bool)
 | st (x y:A) (n:Nat) (fz:Bool)
 | fa (d:Nat) (x:A) (o n:Nat)
 | ixs (d:Nat) (x i:A) (es:Nat)
 | ixa (d:Nat) (x i:A) (len es:Nat)
 | fld (d:Nat) (x:A) (o n:Nat) (ag:Bool)
 | bin (d:Nat) (op:BinOp) (x y:A)
 | eqv (d:Nat) (neg:Bool) (x y:A) (ks:List CK)
 | eqb (d:Nat) (neg:Bool) (x y:A)
 | isnil (d:Nat) (neg:Bool) (x:A) (k:NK)
 | un (d:Nat) (op:UnOp) (x:A)
 | cvi (d:Nat) (k:IntKind) (x:A)
 | len (d:Nat) (x:A) (k:LK)
 | sl (d:Nat) (x:A) (lo hi:Option A) (es:Nat)
 | app (d:Nat) (x y:A) (es:Nat)
 | clr (d:Option Nat) (x:A) (es:Nat) (z:List D)
 | copy (d:Option Nat) (x y:A) (es:Nat)
 | ext (d:Nat) (x:A) (i:Nat)
 | mkf (d:Nat) (f:Nat) (first caps:List A)
 | mkm (d:Nat)
 | mput (m k v:A) (ks:List CK)
 | mget (d:Nat) (m k:A) (z:D) (ok:Bool) (ks:List CK)
 | mdel (m k:A) (ks:List CK)
 | call (d:Option Nat) (f:Nat) (xs:List A)
 | callk (d:Option Nat) (f:Nat) (xs:List A)
 | callr (d:Option Nat) (f:Nat) (xs:List A)
 | callv (d:Option Nat) (x:A) (xs:List A)
 | callvr (d:Option Nat) (x:A) (xs:List A)
 | nck (d:Nat) (x:A)
 | newf (d n:Nat)
 | cl0 (d:Nat) (x:A) (es:Nat)
 | stf (d:Nat) (y:A) (n:Nat) (fz:Bool)
 | sl3 (d:Nat) (x lo hi mx:A) (es:Nat)
 | mn (d:Nat) (x y:A)
 | cap (d:Nat) (x:A)
 | appz (d:Nat) (x k:A) (es:Nat) (z:List D)
 | ovl (d:Nat) (f:Nat) (x y:A) (es:Nat)
 | bad (d:Option Nat)
 | ldd (d:Nat) (x:A) (n:Nat) (ag:Bool)
 | fad (d:Nat) (x:A) (o n:Nat)
 | cally (d:Option Nat) (x:A) (xs:List A)
 | appf (d:Nat) (x y:A) (es:Nat)
 | lit0 (d es:Nat) (z:List D)
 | ldz (d:Nat) (x:A) (n:Nat) (ag:Bool)
 | apk (d:Nat) (x y:A) (es:Nat)
 | callz (d:Nat) (f:Nat) (xs:List A)
 | calls (d:Option Nat) (f:Nat) (xs:List A)
 | mki (d t:Nat) (x:A)
 | inv (d:Option Nat) (nm:String) (tbl:List (Nat×Nat×Nat)) (x:A) (xs:List A)
 | mx (d:Nat) (x y:A)
 | mks (d es:Nat) (z:List D) (n k:A)
inductive J where
 | op (i:I)
 | sc (isOr:Bool) (d c:Nat) (body:List J) (x:A)
 | re (i:I)
inductive C where
 | skip
 | reg (js:List J)
 | drw (fl perm:List Nat) (js:List J)
 | seq (a b:C)
 | ite (c:A) (a b:C)
 | blk (id:Nat) (c:C)
 | loop (live:List Nat) (c:C)
 | exit (id:Nat)
 | ret
 | frz (ds:List Nat)
 | keep (ds:List Nat)
 | rng (x:A) (live:List Nat) (ps:List Nat) (a b:C)
 | fzc (d k:Nat)
inductive RV where
 | t (n:Nat)
 | c (n cells:Nat) (ag:Bool)
inductive Ex where
 | normal
 | exit (id:Nat)
 | ret
 deriving DecidableEq
inductive O where
 | arrD (es:Nat) (ex:Bool) (rows:List (List D))
 | arrV (es:Nat) (rows:List (List V))
 | mp (kv:List (D×V))
 | lp (ps:List Nat) (a b:C) (e:Ex) (env:List (Nat×V))
 | dead
 deriving Inhabited
structure St where
 env:List (Nat×V)
 heap:List O
 ok:Bool
inductive Req where
 | call (f:Nat) (xs:List V) (h:List O)
 | loop (m:Nat) (live:List Nat) (c:C) (env:List (Nat×V)) (h:List O)
 | round (ps:List Nat) (a b:C) (xs:List V) (env:List (Nat×V)) (h:List O)
inductive Res where
 | val (v:V) (h:List O)
 | out (e:Ex) (env:List (Nat×V)) (h:List O)
structure F where
 code:C
 res:List RV
 keep:Bool:=false
 prim:Option (List V→List O→Option (V×List O)):=none
def envGet:List (Nat×V)→Nat→V
 | [],_=>.u
 | (k,v)::r,n=>if k=n then v else envGet r n
def St.get (s:St):A→V
 | .t n=>envGet s.env n
 | .k x=>.d x
def St.put (s:St) (d:Nat) (v:V):St:=⟨(d,v)::s.env,s.heap,s.ok⟩
def St.fail (s:St):St:=⟨s.env,s.heap,false⟩
def St.putO (s:St) (d:Nat):Option V→St
 | some v=>s.put d v
 | none=>s.fail
def St.putH (s:St) (d:Nat):Option (V×List O)→St
 | some (v,h)=>⟨(d,v)::s.env,h,s.ok⟩
 | none=>s.fail
def St.putHO (s:St) (d:Option Nat):Option (V×List O)→St
 | some (v,h)=>match d with
  | some d=>⟨(d,v)::s.env,h,s.ok⟩
  | none=>⟨s.env,h,s.ok⟩
 | none=>s.fail
def St.setHeap (s:St):Option (List O)→St
 | some h=>⟨s.env,h,s.ok⟩
 | none=>s.fail
def hget (h:List O) (n:Nat):O:=h.getD n .dead
def O.row (o:O) (r:Nat):Option (List V) :=
 match o with
 | .arrD _ _ rows=>(rows[r]?).map fun cs=>cs.map .d
 | .arrV _ rows=>rows[r]?
 | _=>none
def allD:List V→Option (List D)
 | []=>some []
 | .d x::r=>(allD r).map (x::·)
 | _::_=>none
def V.cells:V→List V
 | .d (.ag cs)=>cs.map .d
 | .ag cs=>cs
 | v=>[v]
def V.known:V→Bool
 | .u | .skp | .tu _ | .d .junk=>false
 | _=>true
def mkAg (cs:List V):V :=
 match allD cs with
 | some ds=>.d (.ag ds)
 | none=>.ag cs
def mkRef (cs:List V):V :=
 match allD cs with
 | some ds=>.d (.ref ds)
 | none=>.rf cs
def D.cells:D→List D
 | .ag cs=>cs
 | x=>[x]
mutual
def toD (h:List O):V→Option D
 | .d x=>some x
 | .sl0 es=>some (.sl es false [])
 | .asl n off len =>
  match hget h n with
  | .arrD es _ rows=>if off+len≤rows.length then some (.sl es false ((rows.drop off).take len)) else none
  | _=>none
 | .loc n r c =>
  match hget h n with
  | .arrD _ _ rows=>(rows[r]?).bind fun row=>if c≤row.length then some (.ref (row.drop c)) else none
  | _=>none
 | .ag cs=>(toDs h cs).map .ag
 | .rf cs=>(toDs h cs).map .ref
 | .fn f a b=>(toDs h a).bind fun x=>(toDs h b).map fun y=>.fn f x y
 | _=>none
def toDs (h:List O):List V→Option (List D)
 | []=>some []
 | v::r=>(toD h v).bind fun x=>(toDs h r).map (x::·)
end
mutual
def V.locs:V→List Nat
 | .loc n _ _=>[n]
 | .asl n _ _=>[n]
 | .aslx n _ _=>[n]
 | .mp n=>[n]
 | .yld n=>[n]
 | .fn _ a b=>V.locsL a++V.locsL b
 | .ag cs=>V.locsL cs
 | .rf cs=>V.locsL cs
 | .tu vs=>V.locsL vs
 | _=>[]
def V.locsL:List V→List Nat
 | []=>[]
 | v::r=>v.locs++V.locsL r
end
def freeze1 (h:List O) (n:Nat):List O :=
 match hget h n with
 | .arrD es _ rows=>h.set n (.arrD es false rows)
 | _=>h
def freezeAll (h:List O):List Nat→List O
 | []=>h
 | n::r=>freezeAll (freeze1 h n) r
def thaw (h:List O) (v:V):Option (D×List O):=(toD h v).map fun x=>(x,freezeAll h v.locs)
mutual
def V.ren (g:Nat→Nat):V→V
 | .loc n r c=>.loc (g n) r c
 | .asl n o l=>.asl (g n) o l
 | .aslx n o l=>.aslx (g n) o l
 | .mp n=>.mp (g n)
 | .yld n=>.yld (g n)
 | .fn f a b=>.fn f (V.renL g a) (V.renL g b)
 | .ag cs=>.ag (V.renL g cs)
 | .rf cs=>.rf (V.renL g cs)
 | .tu vs=>.tu (V.renL g vs)
 | v=>v
def V.renL (g:Nat→Nat):List V→List V
 | []=>[]
 | v::r=>v.ren g::V.renL g r
end
def envRen (g:Nat→Nat) (env:List (Nat×V)):List (Nat×V):=env.map fun p=>(p.1,p.2.ren g)
def envLocs:List (Nat×V)→List Nat
 | []=>[]
 | p::r=>p.2.locs++envLocs r
def O.ren (g:Nat→Nat):O→O
 | .arrV es rows=>.arrV es (rows.map (V.renL g))
 | .mp kv=>.mp (kv.map fun p=>(p.1,p.2.ren g))
 | .lp ps a b e env=>.lp ps a b e (envRen g env)
 | o=>o
def O.locs:O→List Nat
 | .arrV _ rows=>rows.flatMap V.locsL
 | .mp kv=>kv.flatMap fun p=>p.2.locs
 | .lp _ _ _ _ env=>envLocs env
 | _=>[]
def reach (h:List O):Nat→List Nat→List Nat→List Nat
 | 0,_,acc=>acc
 | _+1,[],acc=>acc
 | f+1,n::t,acc=>if n∈acc then reach h f t acc else reach h f (t++(hget h n).locs) (acc++[n])
def sub (h:List O) (L:List Nat):List O:=L.map fun n=>(hget h n).ren (L.idxOf ·)
def cut (h:List O) (m:Nat) (roots:List Nat):Option (List Nat) :=
 let L:=List.range m++(reach h 1000 (List.range m++roots) []).filter (m≤·)
 if L.Nodup∧roots.all (·∈L)∧L.all (fun n=>n<h.length∧(hget h n).locs.all (·∈L)) then some L else none
def canonEnv (live:List Nat) (env:List (Nat×V)):List (Nat×V):=live.map fun n=>(n,envGet env n)
def canon (m:Nat) (live:List Nat) (env:List (Nat×V)) (h:List O):Option (List (Nat×V)×List O) :=
 match h with
 | []=>some (canonEnv live env,[])
 | _=>(cut h m (envLocs (canonEnv live env))).map fun L=>((canonEnv live env).map fun p=>(p.1,p.2.ren (L.idxOf ·)),sub h L)
def V.wk:V→V
 | .aslx n off len=>.asl n off len
 | v=>v
def arith (op:BinOp) (k:IntKind) (x y:Int):Option V :=
 match op with
 | .add=>some (.d (.i k (k.wrap (x+y))))
 | .sub=>some (.d (.i k (k.wrap (x - y))))
 | .mul=>some (.d (.i k (k.wrap (x*y))))
 | .quo=>if y=0 then none else some (.d (.i k (k.wrap (x.tdiv y))))
 | .rem=>if y=0 then none else some (.d (.i k (x.tmod y)))
 | .eql=>some (.d (.b (x==y)))
 | .neq=>some (.d (.b (x != y)))
 | .lss=>some (.d (.b (decide (x<y))))
 | .leq=>some (.d (.b (decide (x≤y))))
 | .gtr=>some (.d (.b (decide (y<x))))
 | .geq=>some (.d (.b (decide (y≤x))))
 | _=>none
def binV (op:BinOp):V→V→Option V
 | .d (.i k x),.d (.i k' y) =>
  match op with
  | .shl=>if 0≤y then some (.d (.i k (k.wrap (x*2 ^ (min y.toNat k.bits))))) else none
  | .shr=>if 0≤y then some (.d (.i k (x.fdiv (2 ^ (min y.toNat k.bits))))) else none
  | _=>if k=k' then arith op k x y else none
 | .d (.s x),.d (.s y) =>
  match op with
  | .eql=>some (.d (.b (x==y)))
  | .neq=>some (.d (.b (!(x==y))))
  | .lss=>some (.d (.b (Op.bytesLess x y)))
  | _=>none
 | _,_=>none
def cellEq:CK→D→D→Option Bool
 | .i,.i k x,.i k' y=>if k=k' then some (x==y) else none
 | .b,.b x,.b y=>some (x==y)
 | .s,.s x,.s y=>some (x==y)
 | _,_,_=>none
def flatEq:List CK→List D→List D→Option Bool
 | [],[],[]=>some true
 | k::ks,x::xs,y::ys=>(cellEq k x y).bind fun p=>(flatEq ks xs ys).map fun q=>p&&q
 | _,_,_=>none
def eqV (ks:List CK) (neg:Bool):V→V→Option V
 | .d (.ag x),.d (.ag y)=>(flatEq ks x y).map fun p=>.d (.b (p != neg))
 | _,_=>none
def eqB (neg:Bool):V→V→Option V
 | .d (.b x),.d (.b y)=>some (.d (.b ((x==y) != neg)))
 | _,_=>none
def arrAt (h:List O) (n:Nat):Bool:=match hget h n with | .arrD .. | .arrV ..=>true | _=>false
def isNil (h:List O):NK→V→Option Bool
 | .sl,.d (.sl _ nl _)=>some nl
 | .sl,.asl n _ _=>if arrAt h n then some false else none
 | .sl,.sl0 _=>some false
 | .mp,.d .nilmap=>some true
 | .mp,.mp n=>match hget h n with | .mp _=>some false | _=>none
 | .fn,.d .nilfn=>some true
 | .fn,.d (.fn ..)=>some false
 | .fn,.fn ..=>some false
 | .pt,.d .nil=>some true
 | .pt,.d (.ref _)=>some false
 | .pt,.rf _=>some false
 | .pt,.loc n _ _=>if arrAt h n then some false else none
 | .ifc,.d .nilifc=>some true
 | .ifc,.d (.ifc ..)=>some false
 | _,_=>none
def unV (op:UnOp):V→Option V
 | .d (.b x)=>match op with | .not=>some (.d (.b (!x))) | _=>none
 | .d (.i k x)=>match op with | .neg=>some (.d (.i k (k.wrap (0 - x)))) | _=>none
 | _=>none
def cvi (k:IntKind):V→Option V
 | .d (.i _ x)=>some (.d (.i k (k.wrap x)))
 | _=>none
def lenV (h:List O):LK→V→Option V
 | .sl,.d (.sl _ _ xs)=>some (.d (.i .i64 xs.length))
 | .sl,.asl n _ len=>if arrAt h n then some (.d (.i .i64 len)) else none
 | .sl,.sl0 _=>some (.d (.i .i64 0))
 | .s,.d (.s x)=>some (.d (.i .i64 x.length))
 | .mp,.d .nilmap=>some (.d (.i .i64 0))
 | .mp,.mp n=>match hget h n with | .mp kv=>some (.d (.i .i64 kv.length)) | _=>none
 | _,_=>none
def asInt:V→Option Int
 | .d (.i _ n)=>some n
 | _=>none
def ixs (es:Nat) (x i:V) (h:List O):Option V :=
 match x,i with
 | .d (.sl e _ xs),.d (.i _ j)=>if 0≤j∧e=es then (xs[j.toNat]?).map fun row=>.d (.ref row) else none
 | .asl n off len,.d (.i _ j) =>
  match hget h n with
  | .arrD e _ _ | .arrV e _=>if 0≤j∧j<len∧e=es then some (.loc n (off+j.toNat) 0) else none
  | _=>none
 | _,_=>none
def ixa (h:List O) (len es:Nat) (x i:V):Option V :=
 match x,i with
 | .d (.ref cs),.d (.i _ j)=>if 0≤j∧j<len∧len*es≤cs.length then some (.d (.ref (cs.drop (j.toNat*es)))) else none
 | .loc n r c,.d (.i _ j)=>if 0≤j∧j<len∧arrAt h n=true then some (.loc n r (c+j.toNat*es)) else none
 | _,_=>none
def fa (h:List O) (o n:Nat):V→Option V
 | .d (.ref cs)=>if o+n≤cs.length then some (.d (.ref (cs.drop o))) else none
 | .rf cs=>if o+n≤cs.length then some (.rf (cs.drop o)) else none
 | .loc m r c=>if arrAt h m then some (.loc m r (c+o)) else none
 | _=>none
def pack (n:Nat) (ag:Bool) (cs:List V):Option V :=
 if ag then (if n≤cs.length then some (mkAg (cs.take n)) else none) else cs.head?
def packD (n:Nat) (ag:Bool) (cs:List D):Option V :=
 if ag then (if n≤cs.length then some (.d (.ag (cs.take n))) else none) else cs.head?.map .d
def ldV (h:List O) (n:Nat) (ag:Bool):V→Option V
 | .d (.ref cs)=>packD n ag cs
 | .rf cs=>pack n ag cs
 | .loc m r c =>
  match hget h m with
  | .arrD _ _ rows=>(rows[r]?).bind fun row=>packD n ag (row.drop c)
  | .arrV _ rows=>(rows[r]?).bind fun row=>pack n ag (row.drop c)
  | _=>none
 | _=>none
def lddV (n:Nat) (ag:Bool):V→Option V
 | .d (.ref cs)=>packD n ag cs
 | .rf cs=>pack n ag cs
 | _=>none
def fadV (o n:Nat):V→Option V
 | .d (.ref cs)=>if o+n≤cs.length then some (.d (.ref (cs.drop o))) else none
 | .rf cs=>if o+n≤cs.length then some (.rf (cs.drop o)) else none
 | _=>none
def overlay {α:Type} (cs:List α) (o:Nat) (new:List α):List α:=cs.take o++new++cs.drop (o+new.length)
def stH (h:List O) (n:Nat) (p v:V):Option (List O) :=
 match p with
 | .loc m r c =>
  match hget h m with
  | .arrD es true rows =>
   match rows[r]? with
   | some row =>
    if c+n≤row.length∧v.cells.length=n∧v.known=true then
     match allD v.cells with
     | some ds=>some (h.set m (.arrD es true (rows.set r (overlay row c ds))))
     | none=>some (h.set m (.arrV es ((rows.map fun x=>x.map V.d).set r (overlay (row.map V.d) c v.cells))))
    else none
   | none=>none
  | .arrV es rows =>
   match rows[r]? with
   | some row=>if c+n≤row.length∧v.cells.length=n∧v.known=true then some (h.set m (.arrV es (rows.set r (overlay row c v.cells)))) else none
   | none=>none
  | _=>none
 | _=>none
def rowsD (h:List O) (es:Nat):V→Option (List (List D))
 | .d (.sl e _ xs)=>if e=es then some xs else none
 | .sl0 _=>some []
 | .asl n off len =>
  match hget h n with
  | .arrD e _ rows=>if e=es∧off+len≤rows.length then some ((rows.drop off).take len) else none
  | _=>none
 | .aslx n off len =>
  match hget h n with
  | .arrD e _ rows=>if e=es∧off+len≤rows.length then some ((rows.drop off).take len) else none
  | _=>none
 | _=>none
def room:Nat:=4294967296
def appV (h:List O) (es:Nat) (x y:V):Option (V×List O) :=
 match rowsD h es y with
 | none=>none
 | some ys =>
  match x with
  | .d (.sl e nl _) =>
   if e=es then
    if ys.length=0 then some (x,h)
    else if nl∧ys.length≤room then some (.asl h.length 0 ys.length,h++[.arrD es true ys]) else none
   else none
  | .sl0 _=>if ys.length=0 then some (.sl0 es,h) else if ys.length≤room then some (.asl h.length 0 ys.length,h++[.arrD es true ys]) else none
  | .asl n off len =>
   match hget h n with
   | .arrD e ex rows =>
    if e=es∧off+len≤rows.length then
     if ys.length=0 then some (x,h)
     else if off+len+ys.length≤rows.length then
      if ex then some (.asl n off (len+ys.length),h.set n (.arrD es ex (overlay rows (off+len) ys))) else none
     else if (ex∨off+len=rows.length)∧len+ys.length≤room then
      some (.asl h.length 0 (len+ys.length),h.set n .dead++[.arrD es ex ((rows.drop off).take len++ys)])
     else none
    else none
   | _=>none
  | .aslx n off len =>
   match hget h n with
   | .arrD e ex rows =>
    if e=es∧off+len≤rows.length then
     if ys.length=0 then some (x,h)
     else if off+len+ys.length≤rows.length then
      if ex then some (.aslx n off (len+ys.length),h.set n (.arrD es ex (overlay rows (off+len) ys))) else none
     else if len+ys.length≤room then some (.asl h.length 0 (len+ys.length),h++[.arrD es true ((rows.drop off).take len++ys)]) else none
    else none
   | _=>none
  | _=>none
def appfV (h:List O) (es:Nat) (x y:V):Option V :=
 match rowsD h es y with
 | none=>none
 | some ys =>
  match x with
  | .d (.sl e nl [])=>if e=es∧nl=true∧ys.length≤room then some (.d (.sl es (decide (ys.length=0)) ys)) else none
  | .sl0 _=>if ys.length≤room then some (.d (.sl es false ys)) else none
  | _=>none
def appzV (h:List O) (es:Nat) (z:List D) (x:V) (k:Option Int):Option (V×List O) :=
 match k with
 | none=>none
 | some k =>
  if 0<k∧z.length=es then
   match x with
   | .d (.sl e nl _)=>if e=es∧nl=true∧k.toNat≤room then some (.asl h.length 0 k.toNat,h++[.arrD es true (List.replicate k.toNat z)]) else none
   | .sl0 e=>if e=es∧k.toNat≤room then some (.asl h.length 0 k.toNat,h++[.arrD es true (List.replicate k.toNat z)]) else none
   | .aslx n off len =>
    match hget h n with
    | .arrD e _ rows =>
     if e=es∧off+len≤rows.length∧rows.length<off+len+k.toNat∧len+k.toNat≤room then
      some (.asl h.length 0 (len+k.toNat),h++[.arrD es true ((rows.drop off).take len++List.replicate k.toNat z)]) else none
    | _=>none
   | _=>none
  else none
def mksV (h:List O) (es:Nat) (z:List D) (n k:Option Int):Option (V×List O) :=
 match n,k with
 | some n,some k=>if 0≤n∧n≤k∧k.toNat*es≤16777216∧z.length=es then some (.asl h.length 0 n.toNat,h++[.arrD es true (List.replicate n.toNat z)]) else none
 | _,_=>none
def capV (h:List O):V→Option V
 | .d (.sl _ true _)=>some (.d (.i .i64 0))
 | .sl0 _=>some (.d (.i .i64 0))
 | .aslx n off _=>match hget h n with | .arrD _ _ rows=>if off≤rows.length then some (.d (.i .i64 (rows.length - off:Nat))) else none | _=>none
 | _=>none
def ovlV (h:List O) (es:Nat) (x y:V):Option V :=
 match x,y.wk with
 | .d (.sl e _ _),.asl n _ _=>match hget h n with | .arrD _ true _=>if e=es then some (.d (.b false)) else none | _=>none
 | _,_=>none
def intOr (s:St) (dflt:Int):Option A→Option Int
 | none=>some dflt
 | some a=>asInt (s.get a)
def slV (h:List O) (es:Nat) (x:V) (lo hi:Option Int):Option V :=
 match lo,hi with
 | some lo,some hi =>
  match x with
  | .d (.sl e nl xs)=>if e=es∧0≤lo∧lo≤hi∧hi≤xs.length then some (.d (.sl es nl ((xs.take hi.toNat).drop lo.toNat))) else none
  | .asl n off _ =>
   match hget h n with
   | .arrD e _ rows=>if e=es∧0≤lo∧lo≤hi∧off+hi≤rows.length then (if lo=0∨lo<hi then some (.asl n (off+lo.toNat) (hi - lo).toNat) else some (.d (.sl es false []))) else none
   | _=>none
  | .aslx n off _ =>
   match hget h n with
   | .arrD e _ rows=>if e=es∧0≤lo∧lo≤hi∧off+hi≤rows.length then (if lo=0∨lo<hi then some (.aslx n (off+lo.toNat) (hi - lo).toNat) else some (.d (.sl es false []))) else none
   | _=>none
  | .sl0 e=>if e=es∧lo=0∧hi=0 then some (.sl0 es) else none
  | _=>none
 | _,_=>none
def sl3V (h:List O) (es:Nat) (x:V) (lo hi mx:Option Int):Option V :=
 match lo,hi,mx with
 | some lo,some hi,some mx =>
  match x with
  | .d (.sl e _ xs)=>if e=es∧0≤lo∧lo≤hi∧hi≤mx∧mx≤xs.length then some .u else none
  | .asl n _ len=>if arrAt h n=true∧0≤lo∧lo≤hi∧hi≤mx∧mx≤len then some .u else none
  | .sl0 e=>if e=es∧lo=0∧hi=0∧mx=0 then some .u else none
  | _=>none
 | _,_,_=>none
def fldV (o n:Nat) (ag:Bool):V→Option V
 | .d (.ag cs)=>pack n ag ((cs.map V.d).drop o)
 | .ag cs=>pack n ag (cs.drop o)
 | _=>none
def mnV:V→V→Option V
 | .d (.i k x),.d (.i k' y)=>if k=k' then some (.d (.i k (if y<x then y else x))) else none
 | _,_=>none
def mxV:V→V→Option V
 | .d (.i k x),.d (.i k' y)=>if k=k' then some (.d (.i k (if y > x then y else x))) else none
 | _,_=>none
def mkiV (t:Nat):V→Option V
 | .d v=>some (.d (.ifc t v))
 | _=>none
def invV {R:Type} (k:Nat→List V→Option R) (tbl:List (Nat×Nat×Nat)) (x:V) (xs:List V):Option R :=
 match x with
 | .d (.ifc t (.ag ds)) =>
  match tbl.find? (fun e=>e.1==t) with
  | some e=>if ds.length=e.2.1 then k e.2.2 (.d (.ag ds)::xs) else none
  | none=>none
 | _=>none
def cl0V (h:List O) (es:Nat):V→Option V
 | .d (.sl e nl _)=>if e=es then some (if nl then .d (.sl es true []) else .sl0 es) else none
 | .asl n _ _=>if arrAt h n then some (.sl0 es) else none
 | .sl0 _=>some (.sl0 es)
 | _=>none
def lenI (x:V):Int :=
 match x with
 | .d (.sl _ _ xs)=>xs.length
 | .asl _ _ len=>len
 | .aslx _ _ len=>len
 | .d (.s x)=>x.length
 | _=>0
def clrH (h:List O) (es:Nat) (z:List D):V→Option (List O)
 | .d (.sl _ _ [])=>some h
 | .asl n off len =>
  match hget h n with
  | .arrD e ex rows =>
   if e=es∧z.length=es∧off+len≤rows.length then
    if len=0 then some h else if ex then some (h.set n (.arrD es ex (overlay rows off (List.replicate len z)))) else none
   else none
  | _=>none
 | _=>none
def copyV (h:List O) (es:Nat) (x y:V):Option (V×List O) :=
 match rowsD h es y with
 | none=>none
 | some ys =>
  match x.wk with
  | .asl n off len =>
   match hget h n with
   | .arrD e true rows =>
    if e=es∧off+len≤rows.length then
     some (.d (.i .i64 (min ys.length len:Nat)),h.set n (.arrD es true (overlay rows off (ys.take len)))) else none
   | _=>none
  | .d (.sl _ _ [])=>some (.d (.i .i64 0),h)
  | _=>none
def extV (i:Nat):V→Option V
 | .tu vs=>vs[i]?
 | _=>none
def fill (cs:List V):List (Nat×Nat×V)→Option (List V)
 | []=>some cs
 | (o,n,v)::r=>if v.cells.length=n∧o+n≤cs.length∧v.known=true then fill (overlay cs o v.cells) r else none
def fillRows (rows:List (List V)) (es:Nat):List (Nat×V)→Option (List (List V))
 | []=>some rows
 | (i,v)::r=>if v.cells.length=es∧i<rows.length∧v.known=true then fillRows (rows.set i v.cells) es r else none
def allDs:List (List V)→Option (List (List D))
 | []=>some []
 | r::rs=>(allD r).bind fun x=>(allDs rs).map (x::·)
def mkRows (es:Nat) (rows:List (List V)):O :=
 match allDs rows with
 | some ds=>.arrD es true ds
 | none=>.arrV es rows
def keyCells:List CK→D→Option (List D)
 | [_],.ag _=>none
 | [_],x=>some [x]
 | _,.ag cs=>some cs
 | _,_=>none
def keyEq (ks:List CK) (k p:D):Option Bool:=(keyCells ks k).bind fun a=>(keyCells ks p).bind fun b=>flatEq ks a b
def keyIs (ks:List CK) (k:D) (p:D×V):Bool:=(keyEq ks k p.1).getD false
def keyOk (ks:List CK) (k:D) (kv:List (D×V)):Bool:=(keyEq ks k k).isSome&&kv.all fun p=>(keyEq ks k p.1).isSome
def mfind (ks:List CK) (k:D):List (D×V)→Option V
 | []=>none
 | p::r=>if keyIs ks k p then some p.2 else mfind ks k r
def mset (ks:List CK) (k:D) (v:V):List (D×V)→List (D×V)
 | []=>[(k,v)]
 | p::r=>if keyIs ks k p then (k,v)::r else p::mset ks k v r
def mdel (ks:List CK) (k:D):List (D×V)→List (D×V)
 | []=>[]
 | p::r=>if keyIs ks k p then r else p::mdel ks k r
def mlook (ks:List CK) (k:D) (z:D) (ok:Bool) (kv:List (D×V)):Option V :=
 if keyOk ks k kv then
  match mfind ks k kv with
  | some v=>some (if ok then .tu [v,.d (.b true)] else v)
  | none=>some (if ok then .tu [.d z,.d (.b false)] else .d z)
 else none
def mgetV (ks:List CK) (h:List O) (m k:V) (z:D) (ok:Bool):Option V :=
 match k with
 | .d k =>
  match m with
  | .mp n=>match hget h n with | .mp kv=>mlook ks k z ok kv | _=>none
  | .d .nilmap=>mlook ks k z ok []
  | _=>none
 | _=>none
def mputH (ks:List CK) (h:List O) (m k v:V):Option (List O) :=
 match m,k with
 | .mp n,.d k=>match hget h n with | .mp kv=>if keyOk ks k kv∧v.known=true then some (h.set n (.mp (mset ks k v kv))) else none | _=>none
 | _,_=>none
def mdelH (ks:List CK) (h:List O) (m k:V):Option (List O) :=
 match m,k with
 | .mp n,.d k=>match hget h n with | .mp kv=>if keyOk ks k kv then some (h.set n (.mp (mdel ks k kv))) else none | _=>none
 | .d .nilmap,.d k=>if keyOk ks k [] then some h else none
 | _,_=>none
abbrev Rec:=Req→Option Res
def callD (rec:Rec) (h:List O) (f:Nat) (xs:List V):Option (V×List O) :=
 match allD xs with
 | some _ =>
  match rec (.call f xs []) with
  | some (.val v h1)=>some (v.ren (h.length+·),h++h1.map (O.ren (h.length+·)))
  | _=>none
 | none=>none
def back (L:List Nat) (m:Nat) (i:Nat):Nat:=if i<L.length then L.getD i 0 else m+(i - L.length)
def setAll (h:List O):List Nat→List O→List O
 | n::L,o::os=>setAll (h.set n o) L os
 | _,_=>h
def callR (rec:Rec) (h:List O) (f:Nat) (xs:List V):Option (V×List O) :=
 match cut h 0 (V.locsL xs) with
 | some L =>
  match rec (.call f (V.renL (L.idxOf ·) xs) (sub h L)) with
  | some (.val v h1) =>
   if L.length≤h1.length then
    some (v.ren (back L h.length),setAll h L (h1.map (O.ren (back L h.length)))++(h1.drop L.length).map (O.ren (back L h.length)))
   else none
  | _=>none
 | none=>none
def callQ (rec:Rec) (f:Nat) (xs:List V):Option V :=
 match allD xs with
 | some _ =>
  match rec (.call f xs []) with
  | some (.val v [])=>some v
  | _=>none
 | none=>none
def callVal {R:Type} (k:Nat→List V→Option R) (x:V) (xs:List V):Option R :=
 match x with
 | .d (.fn f first caps)=>k f (first.map V.d++xs++caps.map V.d)
 | .fn f first caps=>k f (first++xs++caps)
 | _=>none
def callY (rec:Rec) (h:List O) (x:V) (xs:List V):Option (V×List O) :=
 match x with
 | .yld n =>
  match hget h n with
  | .lp ps a b .normal env =>
   if xs.length=ps.length then
    match cut (h.set n .dead) 0 (V.locsL xs++envLocs env) with
    | some L =>
     if n∈L then none else
      match rec (.round ps a b (V.renL (L.idxOf ·) xs) (envRen (L.idxOf ·) env) (sub (h.set n .dead) L)) with
      | some (.out e _ h1) =>
       if L.length≤h1.length then
        some (.d (.b (e == .normal)),setAll (h.set n (.lp ps a b e env)) L (h1.map (O.ren (back L h.length)))++(h1.drop L.length).map (O.ren (back L h.length)))
       else none
      | _=>none
    | none=>none
   else none
  | _=>none
 | _=>none
def St.putQ (s:St) (d:Option Nat):Option V→St
 | some v=>match d with
  | some d=>⟨(d,v)::s.env,s.heap,s.ok⟩
  | none=>s
 | none=>s.fail
def D.plain:D→Bool
 | .b _ | .i .. | .s _=>true
 | _=>false
def V.plain:V→Bool
 | .d (.ag cs)=>cs.all D.plain
 | .d x=>x.plain
 | .tu vs=>vs.all fun v=>match v with | .d x=>x.plain | _=>false
 | _=>false
def callS (rec:Rec) (h:List O) (f:Nat) (xs:List V):Option V :=
 match toDs h xs with
 | some ds =>
  match rec (.call f (ds.map V.d) []) with
  | some (.val v [])=>if v.plain then some v else none
  | _=>none
 | none=>none
def thawV (o:Option (V×List O)):Option (V×List O):=o.bind fun r=>(thaw r.2 r.1).map fun p=>(.d p.1,p.2)
def thawSlots (s:St):List Nat→St
 | []=>s
 | d::r=>thawSlots (s.putH d ((thaw s.heap (s.get (.t d))).map fun p=>(.d p.1,p.2))) r
def fzcH (h:List O) (k:Nat):V→Option (List O)
 | .loc n r c =>
  match hget h n with
  | .arrD ..=>some h
  | .arrV es rows =>
   match rows[r]? with
   | some row =>
    match row[c+k]? with
    | some v=>(toD h v).map fun x=>(freezeAll h v.locs).set n (mkRows es (rows.set r (row.set (c+k) (.d x))))
    | none=>none
   | none=>none
  | _=>none
 | _=>none
def evI (rec:Rec) (i:I) (s:St):St :=
 match i with
 | .mv d x=>s.put d (s.get x)
 | .pick d c a b=>match s.get c with | .d (.b x)=>s.put d (if x then s.get a else s.get b) | _=>s.fail
 | .box d x n fz =>
  if (s.get x).cells.length=n∧(s.get x).known=true then
   if fz then s.put d (mkRef (s.get x).cells)
   else s.putH d (some (.loc s.heap.length 0 0,s.heap++[mkRows n [(s.get x).cells]]))
  else s.fail
 | .new d z=>s.putH d (some (.loc s.heap.length 0 0,s.heap++[.arrD z.length true [z]]))
 | .build d z ps=>s.putO d ((fill (z.map .d) (ps.map fun p=>(p.1,p.2.1,s.get p.2.2))).map mkAg)
 | .buildSl d es n z ps fz =>
  let rows:=fillRows (List.replicate n (z.map V.d)) es (ps.map fun p=>(p.1,s.get p.2))
  if fz then s.putO d ((rows.bind allDs).map fun rows=>.d (.sl es false rows))
  else s.putH d (rows.map fun rows=>(.asl s.heap.length 0 n,s.heap++[mkRows es rows]))
 | .ld d x n ag=>s.putO d (ldV s.heap n ag (s.get x))
 | .st x y n fz =>
  if fz then
   match x,s.get x with
   | .t d,.loc m 0 0 =>
    match hget s.heap m with
    | .arrD _ true [z]=>if z.length=n∧(s.get y).cells.length=n∧(s.get y).known=true then
      s.putH d (some (mkRef (s.get y).cells,s.heap.set m .dead)) else s.fail
    | _=>s.fail
   | _,_=>s.fail
  else s.setHeap (stH s.heap n (s.get x) (s.get y))
 | .fa d x o n=>s.putO d (fa s.heap o n (s.get x))
 | .ixs d x i es=>s.putO d (ixs es (s.get x) (s.get i) s.heap)
 | .ixa d x i len es=>s.putO d (ixa s.heap len es (s.get x) (s.get i))
 | .fld d x o n ag=>s.putO d (fldV o n ag (s.get x))
 | .bin d op x y=>s.putO d (binV op (s.get x) (s.get y))
 | .eqv d neg x y ks=>s.putO d (eqV ks neg (s.get x) (s.get y))
 | .eqb d neg x y=>s.putO d (eqB neg (s.get x) (s.get y))
 | .isnil d neg x k=>s.putO d ((isNil s.heap k (s.get x)).map fun p=>.d (.b (p != neg)))
 | .un d op x=>s.putO d (unV op (s.get x))
 | .cvi d k x=>s.putO d (cvi k (s.get x))
 | .len d x k=>s.putO d (lenV s.heap k (s.get x).wk)
 | .sl d x lo hi es=>s.putO d (slV s.heap es (s.get x) (intOr s 0 lo) (intOr s (lenI (s.get x)) hi))
 | .app d x y es=>s.putH d (appV s.heap es (s.get x) (s.get y))
 | .clr d x es z=>s.putHO d ((clrH s.heap es z (s.get x)).map fun h=>(.tu [],h))
 | .copy d x y es=>s.putHO d (copyV s.heap es (s.get x) (s.get y))
 | .ext d x i=>s.putO d (extV i (s.get x))
 | .mkf d f a b =>
  match allD (a.map s.get),allD (b.map s.get) with
  | some x,some y=>s.put d (.d (.fn f x y))
  | _,_=>s.put d (.fn f (a.map s.get) (b.map s.get))
 | .mkm d=>s.putH d (some (.mp s.heap.length,s.heap++[.mp []]))
 | .mput m k v ks=>s.setHeap (mputH ks s.heap (s.get m) (s.get k) (s.get v))
 | .mget d m k z ok ks=>s.putO d (mgetV ks s.heap (s.get m) (s.get k) z ok)
 | .mdel m k ks=>s.setHeap (mdelH ks s.heap (s.get m) (s.get k))
 | .call d f xs=>s.putQ d (callQ rec f (xs.map s.get))
 | .callk d f xs=>s.putHO d (callD rec s.heap f (xs.map s.get))
 | .callr d f xs=>s.putHO d (callR rec s.heap f (xs.map s.get))
 | .callv d x xs=>s.putQ d (callVal (callQ rec) (s.get x) (xs.map s.get))
 | .callvr d x xs=>s.putHO d (callVal (callR rec s.heap) (s.get x) (xs.map s.get))
 | .nck d x =>
  match s.get x with
  | .d (.ref cs)=>s.put d (.d (.ref cs))
  | .rf cs=>s.put d (.rf cs)
  | .loc n r c=>s.put d (.loc n r c)
  | .d (.ifc t v)=>s.put d (.d (.ifc t v))
  | _=>s.fail
 | .newf _ _=>s
 | .cl0 d x es=>s.putO d (cl0V s.heap es (s.get x))
 | .stf d x n fz =>
  if (s.get x).cells.length=n∧(s.get x).known=true then
   if fz then s.putO d ((allD (s.get x).cells).map fun cs=>.d (.ref cs))
   else s.putH d (some (.loc s.heap.length 0 0,s.heap++[mkRows n [(s.get x).cells]]))
  else s.fail
 | .sl3 d x lo hi mx es=>s.putO d (sl3V s.heap es (s.get x) (asInt (s.get lo)) (asInt (s.get hi)) (asInt (s.get mx)))
 | .mn d x y=>s.putO d (mnV (s.get x) (s.get y))
 | .cap d x=>s.putO d (capV s.heap (s.get x))
 | .appz d x k es z=>s.putH d (appzV s.heap es z (s.get x) (asInt (s.get k)))
 | .ovl d _ x y es=>s.putO d (ovlV s.heap es (s.get x) (s.get y))
 | .bad _=>s.fail
 | .ldd d x n ag=>s.putO d (lddV n ag (s.get x))
 | .fad d x o n=>s.putO d (fadV o n (s.get x))
 | .cally d x xs=>s.putHO d (callY rec s.heap (s.get x) (xs.map s.get))
 | .appf d x y es=>s.putO d (appfV s.heap es (s.get x) (s.get y))
 | .lit0 d es _=>s.put d (.sl0 es)
 | .ldz d x n ag=>s.putH d (thawV ((ldV s.heap n ag (s.get x)).map fun v=>(v,s.heap)))
 | .apk d x y es=>s.putH d (thawV (appV s.heap es (s.get x) (s.get y)))
 | .callz d f xs=>s.putH d (thawV (callR rec s.heap f (xs.map s.get)))
 | .calls d f xs=>s.putQ d (callS rec s.heap f (xs.map s.get))
 | .mki d t x=>s.putO d (mkiV t (s.get x))
 | .inv d _ tbl x xs=>s.putQ d (invV (callQ rec) tbl (s.get x) (xs.map s.get))
 | .mx d x y=>s.putO d (mxV (s.get x) (s.get y))
 | .mks d es z n k=>s.putH d (mksV s.heap es z (asInt (s.get n)) (asInt (s.get k)))
def I.dst:I→Option Nat
 | .mv d _ | .pick d .. | .box d .. | .new d _ | .build d .. | .buildSl d .. | .ld d .. | .fa d .. | .ixs d .. | .ixa d .. | .fld d .. | .bin d .. | .eqv d .. | .eqb d .. | .isnil d .. | .un d ..
 | .cvi d .. | .len d .. | .sl d .. | .app d .. | .ext d .. | .mkf d .. | .mkm d | .mget d .. | .nck d .. | .cl0 d .. | .sl3 d .. | .mn d .. | .cap d .. | .appz d .. | .ovl d .. | .ldd d .. | .fad d .. | .appf d .. | .lit0 d .. | .ldz d .. | .apk d .. | .callz d .. | .mki d .. | .mx d .. | .mks d ..=>some d
 | .clr d .. | .copy d .. | .call d .. | .callk d .. | .callr d .. | .callv d .. | .callvr d .. | .bad d | .cally d .. | .calls d .. | .inv d ..=>d
 | .st .. | .mput .. | .mdel .. | .newf .. | .stf ..=>none
def I.wr:I→Option Nat
 | .st (.t d) _ _ true=>some d
 | .stf d _ _ _=>some d
 | i=>i.dst
mutual
def J.dsts:J→List Nat
 | .op i=>i.wr.toList
 | .sc _ d _ body _=>d::J.dstsL body
 | .re _=>[]
def J.dstsL:List J→List Nat
 | []=>[]
 | j::r=>j.dsts++J.dstsL r
end
def forgetEnv (ds:List Nat) (e:List (Nat×V)):List (Nat×V) :=
 match ds with
 | []=>e
 | d::r=>(d,V.u)::forgetEnv r e
open Classical in
noncomputable def V.same (a b:V):Bool:=decide (a=b)
theorem V.same_self (a:V):V.same a a=true:=by simp [V.same]
theorem V.same_spec {a b:V} (h:V.same a b=true):a=b:=by simpa [V.same] using h
noncomputable def again (d:Option Nat) (s s':St):St :=
 match d with
 | some d=>if s'.ok&&V.same (envGet s'.env d) (envGet s.env d) then s else s.fail
 | none=>s.fail
mutual
noncomputable def evJ (rec:Rec):J→St→St
 | .op i,s=>evI rec i s
 | .sc isOr d c body x,s =>
  match s.get (.t c) with
  | .d (.b g) =>
   if g=isOr then ⟨(d,.d (.b isOr))::forgetEnv (J.dstsL body) s.env,s.heap,s.ok⟩
   else
    match (evJs rec body s).get x with
    | .d (.b y)=>⟨(d,.d (.b y))::forgetEnv (J.dstsL body) s.env,(evJs rec body s).heap,(evJs rec body s).ok⟩
    | _=>s.fail
  | _=>s.fail
 | .re i,s=>again i.dst s (evI rec i s)
noncomputable def evJs (rec:Rec):List J→St→St
 | [],s=>s
 | j::r,s=>evJs rec r (evJ rec j s)
end
noncomputable def evC (rec:Rec) (m:Nat):C→St→Ex×St
 | .skip,s=>(.normal,s)
 | .reg js,s=>(.normal,evJs rec js s)
 | .drw fl _ js,s=>(.normal,evJs rec js ⟨forgetEnv fl s.env,s.heap,s.ok⟩)
 | .seq a b,s =>
  match evC rec m a s with
  | (.normal,s')=>evC rec m b s'
  | r=>r
 | .ite c a b,s =>
  match s.get c with
  | .d (.b x)=>if x then evC rec m a s else evC rec m b s
  | _=>(.normal,s.fail)
 | .blk id c,s =>
  match evC rec m c s with
  | (.exit j,s')=>if j=id then (.normal,s') else (.exit j,s')
  | r=>r
 | .loop live c,s =>
  match canon m live s.env s.heap with
  | some p =>
   match rec (.loop m live c p.1 p.2) with
   | some (.out e env h)=>(e,⟨env,h,s.ok⟩)
   | _=>(.normal,s.fail)
  | none=>(.normal,s.fail)
 | .rng x live ps a b,s =>
  match callVal (callR rec (s.heap++[.lp ps a b .normal (canonEnv live s.env)])) (s.get x) [.yld s.heap.length] with
  | some (_,h) =>
   match hget h s.heap.length with
   | .lp _ _ _ e _=>(e,⟨s.env,h.set s.heap.length .dead,s.ok⟩)
   | _=>(.normal,s.fail)
  | none=>(.normal,s.fail)
 | .fzc d k,s =>
  match fzcH s.heap k (s.get (.t d)) with
  | some h=>(.normal,⟨s.env,h,s.ok⟩)
  | none=>(.normal,s.fail)
 | .exit id,s=>(.exit id,s)
 | .ret,s=>(.ret,s)
 | .frz ds,s=>(.normal,thawSlots s ds)
 | .keep ds,s =>
  match canon m ds s.env s.heap with
  | some p=>(.normal,⟨p.1,p.2,s.ok⟩)
  | none=>(.normal,s.fail)
def tuple:List V→V
 | [v]=>v
 | vs=>.tu vs
def readRV (s:St):RV→Option V
 | .t n=>some (s.get (.t n))
 | .c n k ag=>ldV s.heap k ag (s.get (.t n))
def readRVs (s:St):List RV→Option (List V)
 | []=>some []
 | r::rs=>(readRV s r).bind fun v=>(readRVs s rs).map (v::·)
def finish (res:List RV) (keep:Bool) (m:Nat) (s:St):Option Res :=
 if s.ok then
  ((
   readRVs s res).map (·.map V.wk)).bind fun vs =>
   if m=0∧keep=false then (toDs s.heap vs).map fun ds=>.val (tuple (ds.map V.d)) []
   else (cut s.heap m (V.locsL vs)).map fun L=>.val (tuple (V.renL (L.idxOf ·) vs)) (sub s.heap L)
 else none
def argEnv:Nat→List V→List (Nat×V)
 | _,[]=>[]
 | n,v::r=>(n,v)::argEnv (n+1) r
abbrev Prog:=Nat→Option F
noncomputable def stepR (P:Prog) (rec:Rec):Req→Option Res
 | .call f xs h =>
  match P f with
  | some fn =>
   match fn.prim with
   | some p=>(p xs h).map fun r=>.val r.1 r.2
   | none =>
   match evC rec h.length fn.code ⟨argEnv 0 xs,h,true⟩ with
   | (.normal,s) | (.ret,s)=>finish fn.res fn.keep h.length s
   | _=>none
  | none=>none
 | .loop m live c env h =>
  match evC rec m c ⟨env,h,true⟩ with
  | (.normal,s)=>if s.ok then (canon m live s.env s.heap).bind fun p=>rec (.loop m live c p.1 p.2) else none
  | (e,s)=>if s.ok then some (.out e s.env s.heap) else none
 | .round ps a b xs env h =>
  match evC rec h.length a ⟨ps.zip xs++env,h,true⟩ with
  | (.normal,s) =>
   match evC rec h.length b s with
   | (e,s')=>if s'.ok then (cut s'.heap h.length []).map fun L=>.out e [] (sub s'.heap L) else none
  | _=>none
noncomputable def iter (P:Prog):Nat→Req→Option Res
 | 0,_=>none
 | n+1,r=>stepR P (iter P n) r
end Go.VS
namespace Go.VS
def Le (a b:Rec):Prop:=∀r x,a r=some x→b r=some x
@[simp] theorem St.put_ok (s:St) (d:Nat) (v:V):(s.put d v).ok=s.ok:=rfl
@[simp] theorem St.fail_ok (s:St):s.fail.ok=false:=rfl
theorem St.putO_ok {s:St} {d:Nat} {o:Option V} (h:(s.putO d o).ok=true):s.ok=true:=by
 cases o<;>simp_all [St.putO,St.put,St.fail]
theorem St.putH_ok {s:St} {d:Nat} {o:Option (V×List O)} (h:(s.putH d o).ok=true):s.ok=true:=by
 cases o<;>simp_all [St.putH,St.fail]
theorem St.putHO_ok {s:St} {d:Option Nat} {o:Option (V×List O)} (h:(s.putHO d o).ok=true):s.ok=true:=by
 cases o<;>cases d<;>simp_all [St.putHO,St.fail]
theorem St.setHeap_ok {s:St} {o:Option (List O)} (h:(s.setHeap o).ok=true):s.ok=true:=by
 cases o<;>simp_all [St.setHeap,St.fail]
theorem St.putQ_ok {s:St} {d:Option Nat} {o:Option V} (h:(s.putQ d o).ok=true):s.ok=true:=by
 cases o<;>cases d<;>simp_all [St.putQ,St.fail]
theorem thawSlots_ok:∀(ds:List Nat) {s:St},(thawSlots s ds).ok=true→s.ok=true
 | [],_,h=>h
 | _::r,_,h=>St.putH_ok (thawSlots_ok r h)
theorem evI_ok {rec:Rec} {i:I} {s:St} (h:(evI rec i s).ok=true):s.ok=true:=by
 cases i<;>simp only [evI] at h<;>(repeat' (split at h)) <;>
  first
   | exact h
   | exact St.putO_ok h
   | exact St.putH_ok h
   | exact St.putHO_ok h
   | exact St.putQ_ok h
   | exact St.setHeap_ok h
   | (simp at h;done)
theorem callD_mono {a b:Rec} (hab:Le a b) {h:List O} {f:Nat} {xs:List V} {r:V×List O} (hr:callD a h f xs=some r):callD b h f xs=some r:=by
 unfold callD at *
 split at hr<;>try (simp at hr;done)
 rename_i ds hds
 cases hc:a (.call f xs []) with
 | none=>simp [hc] at hr
 | some x=>rw [hab _ _ hc];rw [hc] at hr;exact hr
theorem callR_mono {a b:Rec} (hab:Le a b) {h:List O} {f:Nat} {xs:List V} {r:V×List O} (hr:callR a h f xs=some r):callR b h f xs=some r:=by
 unfold callR at *
 cases hL:cut h 0 (V.locsL xs) with
 | none=>simp [hL] at hr
 | some L =>
  simp only [hL] at hr ⊢
  cases hc:a (.call f (V.renL (L.idxOf ·) xs) (sub h L)) with
  | none=>simp [hc] at hr
  | some x=>rw [hab _ _ hc];rw [hc] at hr;exact hr
theorem callQ_mono {a b:Rec} (hab:Le a b) {f:Nat} {xs:List V} {r:V} (hr:callQ a f xs=some r):callQ b f xs=some r:=by
 unfold callQ at *
 split at hr<;>try (simp at hr;done)
 rename_i ds hds
 cases hc:a (.call f xs []) with
 | none=>simp [hc] at hr
 | some x=>rw [hab _ _ hc];rw [hc] at hr;exact hr
theorem callVal_mono {R:Type} {k k':Nat→List V→Option R} (hk:∀f xs r,k f xs=some r→k' f xs=some r)
  {x:V} {xs:List V} {r:R} (hr:callVal k x xs=some r):callVal k' x xs=some r:=by
 unfold callVal at *
 split at hr<;>first | exact hk _ _ _ hr | (simp at hr;done)
theorem invV_mono {R:Type} {k k':Nat→List V→Option R} (hk:∀f xs r,k f xs=some r→k' f xs=some r)
  {tbl:List (Nat×Nat×Nat)} {x:V} {xs:List V} {r:R} (hr:invV k tbl x xs=some r):invV k' tbl x xs=some r:=by
 unfold invV at *
 split at hr
 ·split at hr
  ·split at hr
   ·rename_i h1;simp only [if_pos h1];exact hk _ _ _ hr
   ·simp at hr
  ·simp at hr
 ·simp at hr
theorem callS_mono {a b:Rec} (hab:Le a b) {h:List O} {f:Nat} {xs:List V} {r:V} (hr:callS a h f xs=some r):callS b h f xs=some r:=by
 unfold callS at *
 split at hr<;>try (simp at hr;done)
 rename_i ds hds
 cases hc:a (.call f (ds.map V.d) []) with
 | none=>simp [hc] at hr
 | some x=>rw [hab _ _ hc];rw [hc] at hr;exact hr
theorem callY_mono {a b:Rec} (hab:Le a b) {h:List O} {x:V} {xs:List V} {r:V×List O} (hr:callY a h x xs=some r):callY b h x xs=some r:=by
 unfold callY at *
 split at hr<;>try (simp at hr;done)
 split at hr<;>try (simp at hr;done)
 split at hr<;>try (simp at hr;done)
 rename_i hlen
 simp only [hlen,if_true]
 split at hr<;>try (simp at hr;done)
 split at hr<;>try (simp at hr;done)
 rename_i hn
 simp only [hn,if_false]
 split at hr<;>try (simp at hr;done)
 rename_i e env' h1 hc
 rw [hab _ _ hc]
 exact hr
theorem putQ_some {s:St} {d:Option Nat} {o:Option V} (h:(s.putQ d o).ok=true):∃r,o=some r:=by
 cases o
 ·simp [St.putQ,St.fail] at h
 ·exact ⟨_,rfl⟩
theorem putHO_some {s:St} {d:Option Nat} {o:Option (V×List O)} (h:(s.putHO d o).ok=true):∃r,o=some r:=by
 cases o
 ·simp [St.putHO,St.fail] at h
 ·exact ⟨_,rfl⟩
theorem evI_mono {a b:Rec} (hab:Le a b) {i:I} {s:St} (h:(evI a i s).ok=true):evI b i s=evI a i s:=by
 cases i<;>try rfl
 case call d f xs =>
  simp only [evI] at *
  obtain ⟨r,hr⟩:=putQ_some h
  rw [hr,callQ_mono hab hr]
 case callk d f xs =>
  simp only [evI] at *
  obtain ⟨r,hr⟩:=putHO_some h
  rw [hr,callD_mono hab hr]
 case callr d f xs =>
  simp only [evI] at *
  obtain ⟨r,hr⟩:=putHO_some h
  rw [hr,callR_mono hab hr]
 case callv d f xs =>
  simp only [evI] at *
  obtain ⟨r,hr⟩:=putQ_some h
  rw [hr,callVal_mono (fun _ _ _=>callQ_mono hab) hr]
 case inv d nm tbl f xs =>
  simp only [evI] at *
  obtain ⟨r,hr⟩:=putQ_some h
  rw [hr,invV_mono (fun _ _ _=>callQ_mono hab) hr]
 case callvr d f xs =>
  simp only [evI] at *
  obtain ⟨r,hr⟩:=putHO_some h
  rw [hr,callVal_mono (fun _ _ _=>callR_mono hab) hr]
 case cally d f xs =>
  simp only [evI] at *
  obtain ⟨r,hr⟩:=putHO_some h
  rw [hr,callY_mono hab hr]
 case callz d f xs =>
  simp only [evI] at *
  cases hr:callR a s.heap f (xs.map s.get) with
  | none=>rw [hr] at h;simp [thawV,St.putH,St.fail] at h
  | some r=>rw [callR_mono hab hr]
 case calls d f xs =>
  simp only [evI] at *
  obtain ⟨r,hr⟩:=putQ_some h
  rw [hr,callS_mono hab hr]
mutual
theorem evJ_ok {rec:Rec}:∀{j:J} {s:St},(evJ rec j s).ok=true→s.ok=true
 | .op i,s,h=>evI_ok (by simpa [evJ] using h)
 | .sc isOr d c body x,s,h=>by
  simp only [evJ] at h
  split at h
  ·split at h
   ·simpa using h
   ·split at h
    ·exact evJs_ok (by simpa using h)
    ·simp at h
  ·simp at h
 | .re i,s,h=>by
  simp only [evJ,again] at h
  split at h
  ·split at h
   ·exact h
   ·simp at h
  ·simp at h
theorem evJs_ok {rec:Rec}:∀{js:List J} {s:St},(evJs rec js s).ok=true→s.ok=true
 | [],s,h=>by simpa [evJs] using h
 | j::r,s,h=>by
  simp only [evJs] at h
  exact evJ_ok (evJs_ok h)
end
mutual
theorem evJ_mono {a b:Rec} (hab:Le a b):∀{j:J} {s:St},(evJ a j s).ok=true→evJ b j s=evJ a j s
 | .op i,s,h=>by simp only [evJ] at *;exact evI_mono hab h
 | .sc isOr d c body x,s,h=>by
  simp only [evJ] at h ⊢
  split
  ·rename_i g hg
   simp only [hg] at h
   split
   ·rfl
   ·rename_i hne
    rw [if_neg hne] at h
    have hb:(evJs a body s).ok=true:=by
     split at h
     ·simpa using h
     ·simp at h
    rw [evJs_mono hab hb]
  ·rfl
 | .re i,s,h=>by
  have hi:(evI a i s).ok=true:=by
   simp only [evJ,again] at h
   split at h
   ·split at h
    ·rename_i hc
     simp only [Bool.and_eq_true] at hc
     exact hc.1
    ·simp at h
   ·simp at h
  simp only [evJ]
  rw [evI_mono hab hi]
theorem evJs_mono {a b:Rec} (hab:Le a b):∀{js:List J} {s:St},(evJs a js s).ok=true→evJs b js s=evJs a js s
 | [],_,_=>by simp [evJs]
 | j::r,s,h=>by
  simp only [evJs] at *
  have hj:(evJ a j s).ok=true:=evJs_ok h
  rw [evJ_mono hab hj,evJs_mono hab h]
end
theorem evC_ok {rec:Rec} {m:Nat}:∀{c:C} {s:St},(evC rec m c s).2.ok=true→s.ok=true:=by
 intro c
 induction c with
 | skip=>intro s h;exact h
 | reg js=>intro s h;exact evJs_ok h
 | drw fl pm js=>intro s h;exact (evJs_ok h:(⟨_,_,_⟩:St).ok=true)
 | seq a b iha ihb =>
  intro s h
  simp only [evC] at h
  split at h
  ·rename_i s' hs
   have:=ihb h
   exact iha (by rw [hs];exact this)
  ·exact iha h
 | ite c a b iha ihb =>
  intro s h
  simp only [evC] at h
  split at h
  ·split at h
   ·exact iha h
   ·exact ihb h
  ·simp at h
 | blk id c ih =>
  intro s h
  simp only [evC] at h
  split at h
  ·rename_i j s' hs
   apply ih
   rw [hs]
   split at h<;>exact h
  ·exact ih h
 | loop live c ih =>
  intro s h
  simp only [evC] at h
  split at h
  ·split at h
   ·exact h
   ·simp at h
  ·simp at h
 | exit id=>intro s h;exact h
 | ret=>intro s h;exact h
 | frz ds=>intro s h;exact thawSlots_ok ds h
 | keep ds =>
  intro s h
  simp only [evC] at h
  split at h
  ·exact h
  ·simp at h
 | fzc d k =>
  intro s h
  simp only [evC] at h
  split at h
  ·exact h
  ·simp at h
 | rng x live ps a b iha ihb =>
  intro s h
  simp only [evC] at h
  split at h
  ·split at h
   ·exact h
   ·simp at h
  ·simp at h
theorem evC_mono {a b:Rec} (hab:Le a b) {m:Nat}:∀{c:C} {s:St},(evC a m c s).2.ok=true→evC b m c s=evC a m c s:=by
 intro c
 induction c with
 | skip=>intro s h;rfl
 | reg js=>intro s h;simp only [evC] at *;rw [evJs_mono hab h]
 | drw fl pm js=>intro s h;simp only [evC] at *;rw [evJs_mono hab h]
 | seq x y ihx ihy =>
  intro s h
  simp only [evC] at h ⊢
  cases hx:evC a m x s with
  | mk e s' =>
   rw [hx] at h
   have hok:s'.ok=true:=by
    cases e
    ·exact evC_ok h
    ·exact h
    ·exact h
   have hb:evC b m x s=(e,s'):=by rw [ihx (by rw [hx];exact hok),hx]
   rw [hb]
   cases e
   ·exact ihy h
   ·rfl
   ·rfl
 | ite c x y ihx ihy =>
  intro s h
  simp only [evC] at h ⊢
  split
  ·rename_i v hv
   simp only [hv] at h
   split
   ·rename_i hx;rw [if_pos hx] at h;exact ihx h
   ·rename_i hx;rw [if_neg hx] at h;exact ihy h
  ·rfl
 | blk id c ih =>
  intro s h
  simp only [evC] at h ⊢
  cases hx:evC a m c s with
  | mk e s' =>
   rw [hx] at h
   have hok:s'.ok=true:=by
    cases e
    ·exact h
    ·simp only at h;split at h<;>exact h
    ·exact h
   rw [ih (by rw [hx];exact hok),hx]
 | loop live c ih =>
  intro s h
  simp only [evC] at h ⊢
  cases hp:canon m live s.env s.heap with
  | none=>rfl
  | some p =>
   simp only [hp] at h ⊢
   cases hr:a (.loop m live c p.1 p.2) with
   | none=>rw [hr] at h;simp at h
   | some x=>rw [hab _ _ hr]
 | exit id=>intro s h;rfl
 | ret=>intro s h;rfl
 | frz ds=>intro s h;rfl
 | keep ds=>intro s h;rfl
 | fzc d k=>intro s h;rfl
 | rng x live ps y z ihy ihz =>
  intro s h
  simp only [evC] at h ⊢
  cases hc:callVal (callR a (s.heap++[.lp ps y z .normal (canonEnv live s.env)])) (s.get x) [.yld s.heap.length] with
  | none=>rw [hc] at h;simp at h
  | some r=>rw [callVal_mono (fun _ _ _=>callR_mono hab) hc]
theorem finish_ok {res:List RV} {keep:Bool} {m:Nat} {s:St} {r:Res} (h:finish res keep m s=some r):s.ok=true:=by
 unfold finish at h
 split at h
 ·assumption
 ·simp at h
theorem stepR_mono {P:Prog} {a b:Rec} (hab:Le a b):Le (stepR P a) (stepR P b):=by
 intro r x h
 cases r with
 | call f xs hp =>
  simp only [stepR] at h ⊢
  cases hf:P f with
  | none=>rw [hf] at h;simp at h
  | some fn =>
   rw [hf] at h
   simp only at h ⊢
   cases hpr:fn.prim with
   | some p=>rw [hpr] at h;exact h
   | none =>
   rw [hpr] at h
   simp only at h ⊢
   cases hc:evC a hp.length fn.code ⟨argEnv 0 xs,hp,true⟩ with
   | mk e s =>
    rw [hc] at h
    have hok:s.ok=true:=by
     cases e
     ·exact finish_ok h
     ·simp at h
     ·exact finish_ok h
    rw [evC_mono hab (by rw [hc];exact hok),hc]
    exact h
 | loop m live c env hp =>
  simp only [stepR] at h ⊢
  cases hc:evC a m c ⟨env,hp,true⟩ with
  | mk e s =>
   rw [hc] at h
   have hok:s.ok=true:=by
    cases hs:s.ok with
    | true=>rfl
    | false=>cases e<;>simp [hs] at h
   rw [evC_mono hab (by rw [hc];exact hok),hc]
   cases e
   ·simp only [hok,if_true] at h ⊢
    cases hp:canon m live s.env s.heap with
    | none=>rw [hp] at h;simp at h
    | some p =>
     rw [hp] at h
     exact hab _ _ h
   ·exact h
   ·exact h
 | round ps y z xs env hp =>
  simp only [stepR] at h ⊢
  cases hc:evC a hp.length y ⟨ps.zip xs++env,hp,true⟩ with
  | mk e s =>
   rw [hc] at h
   cases e<;>simp only at h<;>try (simp at h;done)
   cases hc2:evC a hp.length z s with
   | mk e2 s2 =>
    rw [hc2] at h
    simp only at h
    have hok2:s2.ok=true:=by
     cases hs:s2.ok with
     | true=>rfl
     | false=>simp [hs] at h
    have hok:s.ok=true:=evC_ok (rec:=a) (m:=hp.length) (c:=z) (by rw [hc2];exact hok2)
    rw [evC_mono hab (by rw [hc];exact hok),hc]
    simp only
    rw [evC_mono hab (by rw [hc2];exact hok2),hc2]
    exact h
theorem iter_mono (P:Prog):∀n,Le (iter P n) (iter P (n+1))
 | 0=>by intro r x h;simp [iter] at h
 | n+1=>stepR_mono (iter_mono P n)
theorem iter_le (P:Prog) {n m:Nat} (h:n≤m):Le (iter P n) (iter P m):=by
 induction h with
 | refl=>exact fun _ _ h=>h
 | step _ ih=>exact fun r x h=>iter_mono P _ r x (ih r x h)
open Classical in
noncomputable def ev (P:Prog) (r:Req):Option Res :=
 if h:∃n x,iter P n r=some x then some (Classical.choose (Classical.choose_spec h)) else none
theorem ev_some {P:Prog} {r:Req} {x:Res}:ev P r=some x↔∃n,iter P n r=some x:=by
 unfold ev
 constructor
 ·intro h
  split at h
  ·rename_i hex
   refine ⟨Classical.choose hex,?_⟩
   rw [←h]
   exact Classical.choose_spec (Classical.choose_spec hex)
  ·simp at h
 ·rintro ⟨n,hn⟩
  have hex:∃n x,iter P n r=some x:=⟨n,x,hn⟩
  rw [dif_pos hex]
  have h1:=Classical.choose_spec (Classical.choose_spec hex)
  have h2:=iter_le P (Nat.le_max_left n (Classical.choose hex)) _ _ hn
  have h3:=iter_le P (Nat.le_max_right n (Classical.choose hex)) _ _ h1
  rw [h2] at h3
  exact h3.symm
theorem ev_of_iter {P:Prog} {r:Req} {x:Res} (n:Nat) (h:iter P n r=some x):ev P r=some x:=ev_some.2 ⟨n,h⟩
theorem near (P:Prog) (r:Req):∃n,∀m,n≤m→iter P m r=ev P r:=by
 cases h:ev P r with
 | none =>
  refine ⟨0,fun m _=>?_⟩
  cases hm:iter P m r with
  | none=>rfl
  | some x=>rw [ev_of_iter m hm] at h;simp at h
 | some x =>
  obtain ⟨n,hn⟩:=ev_some.1 h
  exact ⟨n,fun m hm=>iter_le P hm _ _ hn⟩
theorem near_callD (P:Prog) (h:List O) (f:Nat) (xs:List V):∃n,∀m,n≤m→callD (iter P m) h f xs=callD (ev P) h f xs:=by
 obtain ⟨n,hn⟩:=near P (.call f xs [])
 exact ⟨n,fun m hm=>by unfold callD;rw [hn m hm]⟩
theorem near_callR (P:Prog) (h:List O) (f:Nat) (xs:List V):∃n,∀m,n≤m→callR (iter P m) h f xs=callR (ev P) h f xs:=by
 unfold callR
 cases hL:cut h 0 (V.locsL xs) with
 | none=>exact ⟨0,fun _ _=>rfl⟩
 | some L =>
  obtain ⟨n,hn⟩:=near P (.call f (V.renL (L.idxOf ·) xs) (sub h L))
  exact ⟨n,fun m hm=>by simp only [hn m hm]⟩
theorem near_callS (P:Prog) (h:List O) (f:Nat) (xs:List V):∃n,∀m,n≤m→callS (iter P m) h f xs=callS (ev P) h f xs:=by
 unfold callS
 cases hd:toDs h xs with
 | none=>exact ⟨0,fun _ _=>rfl⟩
 | some ds =>
  obtain ⟨n,hn⟩:=near P (.call f (ds.map V.d) [])
  exact ⟨n,fun m hm=>by simp only [hn m hm]⟩
theorem near_callY (P:Prog) (h:List O) (x:V) (xs:List V):∃n,∀m,n≤m→callY (iter P m) h x xs=callY (ev P) h x xs:=by
 unfold callY
 split
 ·rename_i k
  split
  ·rename_i ps a b env hk
   split
   ·cases hL:cut (h.set k .dead) 0 (V.locsL xs++envLocs env) with
    | none=>exact ⟨0,fun _ _=>rfl⟩
    | some L =>
     obtain ⟨n,hn⟩:=near P (.round ps a b (V.renL (L.idxOf ·) xs) (envRen (L.idxOf ·) env) (sub (h.set k .dead) L))
     exact ⟨n,fun m hm=>by simp only [hn m hm]⟩
   ·exact ⟨0,fun _ _=>rfl⟩
  ·exact ⟨0,fun _ _=>rfl⟩
 ·exact ⟨0,fun _ _=>rfl⟩
theorem near_callQ (P:Prog) (f:Nat) (xs:List V):∃n,∀m,n≤m→callQ (iter P m) f xs=callQ (ev P) f xs:=by
 obtain ⟨n,hn⟩:=near P (.call f xs [])
 exact ⟨n,fun m hm=>by unfold callQ;rw [hn m hm]⟩
theorem near_callVal {R:Type} {k:Nat→Nat→List V→Option R} {k':Nat→List V→Option R}
  (hk:∀f xs,∃n,∀m,n≤m→k m f xs=k' f xs) (x:V) (xs:List V) :
  ∃n,∀m,n≤m→callVal (k m) x xs=callVal k' x xs:=by
 unfold callVal
 split
 ·exact hk _ _
 ·exact hk _ _
 ·exact ⟨0,fun _ _=>rfl⟩
theorem near_invV {R:Type} {k:Nat→Nat→List V→Option R} {k':Nat→List V→Option R}
  (hk:∀f xs,∃n,∀m,n≤m→k m f xs=k' f xs) (tbl:List (Nat×Nat×Nat)) (x:V) (xs:List V) :
  ∃n,∀m,n≤m→invV (k m) tbl x xs=invV k' tbl x xs:=by
 unfold invV
 split
 ·split
  ·split
   ·exact hk _ _
   ·exact ⟨0,fun _ _=>rfl⟩
  ·exact ⟨0,fun _ _=>rfl⟩
 ·exact ⟨0,fun _ _=>rfl⟩
theorem near_I (P:Prog) (i:I) (s:St):∃n,∀m,n≤m→evI (iter P m) i s=evI (ev P) i s:=by
 cases i<;>try exact ⟨0,fun _ _=>rfl⟩
 case call d f xs=>obtain ⟨n,hn⟩:=near_callQ P f (xs.map s.get);exact ⟨n,fun m hm=>by simp only [evI,hn m hm]⟩
 case callk d f xs=>obtain ⟨n,hn⟩:=near_callD P s.heap f (xs.map s.get);exact ⟨n,fun m hm=>by simp only [evI,hn m hm]⟩
 case callr d f xs=>obtain ⟨n,hn⟩:=near_callR P s.heap f (xs.map s.get);exact ⟨n,fun m hm=>by simp only [evI,hn m hm]⟩
 case callv d f xs =>
  obtain ⟨n,hn⟩:=near_callVal (k:=fun m=>callQ (iter P m)) (k':=callQ (ev P)) (near_callQ P) (s.get f) (xs.map s.get)
  exact ⟨n,fun m hm=>by simp only [evI,hn m hm]⟩
 case inv d nm tbl f xs =>
  obtain ⟨n,hn⟩:=near_invV (k:=fun m=>callQ (iter P m)) (k':=callQ (ev P)) (near_callQ P) tbl (s.get f) (xs.map s.get)
  exact ⟨n,fun m hm=>by simp only [evI,hn m hm]⟩
 case callvr d f xs =>
  obtain ⟨n,hn⟩:=near_callVal (k:=fun m=>callR (iter P m) s.heap) (k':=callR (ev P) s.heap) (near_callR P s.heap) (s.get f) (xs.map s.get)
  exact ⟨n,fun m hm=>by simp only [evI,hn m hm]⟩
 case callz d f xs=>obtain ⟨n,hn⟩:=near_callR P s.heap f (xs.map s.get);exact ⟨n,fun m hm=>by simp only [evI,hn m hm]⟩
 case calls d f xs=>obtain ⟨n,hn⟩:=near_callS P s.heap f (xs.map s.get);exact ⟨n,fun m hm=>by simp only [evI,hn m hm]⟩
 case cally d f xs=>obtain ⟨n,hn⟩:=near_callY P s.heap (s.get f) (xs.map s.get);exact ⟨n,fun m hm=>by simp only [evI,hn m hm]⟩
mutual
theorem near_J (P:Prog):∀(j:J) (s:St),∃n,∀m,n≤m→evJ (iter P m) j s=evJ (ev P) j s
 | .op i,s=>by simpa only [evJ] using near_I P i s
 | .sc isOr d c body x,s=>by
  obtain ⟨n,hn⟩:=near_Js P body s
  exact ⟨n,fun m hm=>by simp only [evJ,hn m hm]⟩
 | .re i,s=>by
  obtain ⟨n,hn⟩:=near_I P i s
  exact ⟨n,fun m hm=>by simp only [evJ,hn m hm]⟩
theorem near_Js (P:Prog):∀(js:List J) (s:St),∃n,∀m,n≤m→evJs (iter P m) js s=evJs (ev P) js s
 | [],s=>⟨0,fun _ _=>by simp only [evJs]⟩
 | j::r,s=>by
  obtain ⟨n,hn⟩:=near_J P j s
  obtain ⟨k,hk⟩:=near_Js P r (evJ (ev P) j s)
  exact ⟨max n k,fun m hm=>by simp only [evJs];rw [hn m (by omega),hk m (by omega)]⟩
end
theorem near_C (P:Prog) (q:Nat) (c:C):∀(s:St),∃n,∀m,n≤m→evC (iter P m) q c s=evC (ev P) q c s:=by
 induction c with
 | skip=>exact fun s=>⟨0,fun _ _=>rfl⟩
 | reg js=>intro s;obtain ⟨n,hn⟩:=near_Js P js s;exact ⟨n,fun m hm=>by simp only [evC,hn m hm]⟩
 | drw fl pm js=>intro s;obtain ⟨n,hn⟩:=near_Js P js ⟨forgetEnv fl s.env,s.heap,s.ok⟩;exact ⟨n,fun m hm=>by simp only [evC,hn m hm]⟩
 | seq a b iha ihb =>
  intro s
  obtain ⟨n,hn⟩:=iha s
  cases hx:evC (ev P) q a s with
  | mk e s' =>
   obtain ⟨k,hk⟩:=ihb s'
   refine ⟨max n k,fun m hm=>?_⟩
   simp only [evC]
   rw [hn m (by omega),hx]
   cases e
   ·exact hk m (by omega)
   ·rfl
   ·rfl
 | ite c a b iha ihb =>
  intro s
  obtain ⟨n,hn⟩:=iha s
  obtain ⟨k,hk⟩:=ihb s
  refine ⟨max n k,fun m hm=>?_⟩
  simp only [evC]
  rw [hn m (by omega),hk m (by omega)]
 | blk id c ih=>intro s;obtain ⟨n,hn⟩:=ih s;exact ⟨n,fun m hm=>by simp only [evC,hn m hm]⟩
 | loop live c ih =>
  intro s
  cases hp:canon q live s.env s.heap with
  | none=>exact ⟨0,fun m _=>by simp only [evC,hp]⟩
  | some p =>
   obtain ⟨n,hn⟩:=near P (.loop q live c p.1 p.2)
   exact ⟨n,fun m hm=>by simp only [evC,hp,hn m hm]⟩
 | exit id=>exact fun s=>⟨0,fun _ _=>rfl⟩
 | ret=>exact fun s=>⟨0,fun _ _=>rfl⟩
 | frz ds=>exact fun s=>⟨0,fun _ _=>rfl⟩
 | keep ds=>exact fun s=>⟨0,fun _ _=>rfl⟩
 | fzc d k=>exact fun s=>⟨0,fun _ _=>rfl⟩
 | rng x live ps y z ihy ihz =>
  intro s
  obtain ⟨n,hn⟩:=near_callVal (k:=fun m=>callR (iter P m) (s.heap++[.lp ps y z .normal (canonEnv live s.env)])) (k':=callR (ev P) (s.heap++[.lp ps y z .normal (canonEnv live s.env)]))
   (near_callR P (s.heap++[.lp ps y z .normal (canonEnv live s.env)])) (s.get x) [.yld s.heap.length]
  exact ⟨n,fun m hm=>by simp only [evC,hn m hm]⟩
theorem near_step (P:Prog) (r:Req):∃n,∀m,n≤m→stepR P (iter P m) r=stepR P (ev P) r:=by
 cases r with
 | call f xs h =>
  cases hf:P f with
  | none=>exact ⟨0,fun m _=>by simp only [stepR,hf]⟩
  | some fn =>
   obtain ⟨n,hn⟩:=near_C P h.length fn.code ⟨argEnv 0 xs,h,true⟩
   exact ⟨n,fun m hm=>by simp only [stepR,hf,hn m hm]⟩
 | loop q live c env h =>
  obtain ⟨n,hn⟩:=near_C P q c ⟨env,h,true⟩
  cases hx:evC (ev P) q c ⟨env,h,true⟩ with
  | mk e s =>
   cases hp:canon q live s.env s.heap with
   | none =>
    refine ⟨n,fun m hm=>?_⟩
    simp only [stepR]
    rw [hn m (by omega),hx]
    cases e
    ·simp [hp]
    ·rfl
    ·rfl
   | some p =>
    obtain ⟨k,hk⟩:=near P (.loop q live c p.1 p.2)
    refine ⟨max n k,fun m hm=>?_⟩
    simp only [stepR]
    rw [hn m (by omega),hx]
    cases e
    ·simp [hp,hk m (by omega)]
    ·rfl
    ·rfl
 | round ps y z xs env h =>
  obtain ⟨n,hn⟩:=near_C P h.length y ⟨ps.zip xs++env,h,true⟩
  cases hx:evC (ev P) h.length y ⟨ps.zip xs++env,h,true⟩ with
  | mk e s =>
   obtain ⟨k,hk⟩:=near_C P h.length z s
   refine ⟨max n k,fun m hm=>?_⟩
   simp only [stepR]
   rw [hn m (by omega),hx]
   cases e
   ·simp only;rw [hk m (by omega)]
   ·rfl
   ·rfl
theorem ev_eq (P:Prog) (r:Req):ev P r=stepR P (ev P) r:=by
 obtain ⟨n,hn⟩:=near_step P r
 obtain ⟨k,hk⟩:=near P r
 rw [←hn (max n k) (by omega)]
 have:=hk (max n k+1) (by omega)
 rw [←this]
 rfl
end Go.VS
namespace Go.VS
structure Gh where
 β:Nat→Nat
 o:Nat→Nat
 I:Nat→Nat
structure Phi where
 fn:Nat→Nat
 lk:List Nat→C→C→Code→Code→Nat→Prop
instance:CoeFun Phi (fun _=>Nat→Nat):=⟨Phi.fn⟩
instance:Coe Phi (Nat→Nat):=⟨Phi.fn⟩
section
variable (φ:Phi)
mutual
def relD (I:Nat→Nat) (w:World):D→Value→Prop
 | .b x,v=>v = .bool x
 | .i k n,v=>v = .int k n
 | .s x,v=>∃bs:ByteArray,v = .string bs∧bs.toList=x
 | .nil,v=>v = .pointer none
 | .ref cs,v=>∃b off,v = .pointer (some ⟨b,off,none⟩)∧off+cs.length≤I b∧relCells I w b off cs
 | .sl es nl xs,v=>∃a cap,v = .slice a xs.length cap∧xs.length≤cap∧(nl=true→a=none∧cap=0) ∧
   (nl=false→∃ad:Addr,a=some ad∧(xs≠[]→ad.spot=none∧ad.off+es*xs.length≤I ad.block∧relRows I w ad.block es ad.off xs))
 | .fn f a b,v=>∃A B,v = .func (.func (φ f)) A B∧relDs I w a A.toList∧relDs I w b B.toList
 | .nilfn,v=>v = .nilFunc
 | .ifc t x,v=>∃y,v = .iface t y∧relD I w x y
 | .nilifc,v=>v = .nilIface
 | .nilmap,v=>v = .map none
 | .ag cs,v=>∃A,v = .agg A∧relDs I w cs A.toList∧∀x∈A.toList,x.oneCell'=true
 | .junk,_=>True
def relCells (I:Nat→Nat) (w:World) (b:Nat):Nat→List D→Prop
 | _,[]=>True
 | off,c::cs=>(∃x,w.cell? ⟨b,off,none⟩=some x∧x.oneCell'=true∧relD I w c x)∧relCells I w b (off+1) cs
def relRows (I:Nat→Nat) (w:World) (b es:Nat):Nat→List (List D)→Prop
 | _,[]=>True
 | off,r::rs=>r.length=es∧relCells I w b off r∧relRows I w b es (off+es) rs
def relDs (I:Nat→Nat) (w:World):List D→List Value→Prop
 | [],[]=>True
 | c::cs,v::vs=>relD I w c v∧relDs I w cs vs
 | _,_=>False
end
structure Ext (I:Nat→Nat) (w:World) (I':Nat→Nat) (w':World):Prop where
 le:∀b,I b≤I' b
 cell:∀b i,i<I b→w'.cell? ⟨b,i,none⟩=w.cell? ⟨b,i,none⟩
theorem Ext.refl (I:Nat→Nat) (w:World):Ext I w I w:=⟨fun _=>Nat.le_refl _,fun _ _ _=>rfl⟩
theorem Ext.trans {I I' I'':Nat→Nat} {w w' w'':World} (h:Ext I w I' w') (k:Ext I' w' I'' w''):Ext I w I'' w'' :=
 ⟨fun b=>Nat.le_trans (h.le b) (k.le b),fun b i hi=>(k.cell b i (Nat.lt_of_lt_of_le hi (h.le b))).trans (h.cell b i hi)⟩
variable {φ}
mutual
theorem relD_ext {I I':Nat→Nat} {w w':World} (h:Ext I w I' w'):∀{x:D} {v:Value},relD φ I w x v→relD φ I' w' x v
 | .b x,v,hr=>by simpa [relD] using hr
 | .i k n,v,hr=>by simpa [relD] using hr
 | .s x,v,hr=>by simpa [relD] using hr
 | .nil,v,hr=>by simpa [relD] using hr
 | .ref cs,v,hr=>by
  simp only [relD] at hr ⊢
  obtain ⟨b,off,rfl,hI,hc⟩:=hr
  exact ⟨b,off,rfl,Nat.le_trans hI (h.le b),relCells_ext h hI hc⟩
 | .sl es nl xs,v,hr=>by
  simp only [relD] at hr ⊢
  obtain ⟨a,cap,rfl,hl,ht,hf⟩:=hr
  refine ⟨a,cap,rfl,hl,ht,fun hnl=>?_⟩
  obtain ⟨ad,ha,hx⟩:=hf hnl
  refine ⟨ad,ha,fun hne=>?_⟩
  obtain ⟨hs,hI,hr⟩:=hx hne
  exact ⟨hs,Nat.le_trans hI (h.le _),relRows_ext h hI hr⟩
 | .fn f a b,v,hr=>by
  simp only [relD] at hr ⊢
  obtain ⟨A,B,rfl,ha,hb⟩:=hr
  exact ⟨A,B,rfl,relDs_ext h ha,relDs_ext h hb⟩
 | .nilfn,v,hr=>by simpa [relD] using hr
 | .ifc t x,v,hr=>by
  simp only [relD] at hr ⊢
  obtain ⟨y,rfl,hx⟩:=hr
  exact ⟨y,rfl,relD_ext h hx⟩
 | .nilifc,v,hr=>by simpa [relD] using hr
 | .nilmap,v,hr=>by simpa [relD] using hr
 | .ag cs,v,hr=>by
  simp only [relD] at hr ⊢
  obtain ⟨A,rfl,ha,h1⟩:=hr
  exact ⟨A,rfl,relDs_ext h ha,h1⟩
 | .junk,v,hr=>by simp [relD]
theorem relCells_ext {I I':Nat→Nat} {w w':World} (h:Ext I w I' w') {b:Nat}:∀{off:Nat} {cs:List D},off+cs.length≤I b→relCells φ I w b off cs→relCells φ I' w' b off cs
 | _,[],_,_=>by simp [relCells]
 | off,c::cs,hI,hr=>by
  simp only [relCells] at hr ⊢
  simp only [List.length_cons] at hI
  obtain ⟨⟨x,hx,h1,hd⟩,hrest⟩:=hr
  exact ⟨⟨x,by rw [h.cell b off (by omega)];exact hx,h1,relD_ext h hd⟩,relCells_ext h (by omega) hrest⟩
theorem relRows_ext {I I':Nat→Nat} {w w':World} (h:Ext I w I' w') {b es:Nat}:∀{off:Nat} {xs:List (List D)},off+es*xs.length≤I b→relRows φ I w b es off xs→relRows φ I' w' b es off xs
 | _,[],_,_=>by simp [relRows]
 | off,r::rs,hI,hr=>by
  simp only [relRows] at hr ⊢
  simp only [List.length_cons,Nat.mul_add,Nat.mul_one] at hI
  obtain ⟨hl,hc,hrest⟩:=hr
  exact ⟨hl,relCells_ext h (by omega) hc,relRows_ext h (by omega) hrest⟩
theorem relDs_ext {I I':Nat→Nat} {w w':World} (h:Ext I w I' w'):∀{cs:List D} {vs:List Value},relDs φ I w cs vs→relDs φ I' w' cs vs
 | [],[],_=>by simp [relDs]
 | c::cs,v::vs,hr=>by
  simp only [relDs] at hr ⊢
  exact ⟨relD_ext h hr.1,relDs_ext h hr.2⟩
 | [],_::_,hr=>by simp [relDs] at hr
 | _::_,[],hr=>by simp [relDs] at hr
end
theorem relDs_length {I:Nat→Nat} {w:World}:∀{cs:List D} {vs:List Value},relDs φ I w cs vs→cs.length=vs.length
 | [],[],_=>rfl
 | _::_,_::_,h=>by simp only [relDs] at h;simp [relDs_length h.2]
 | [],_::_,h=>by simp [relDs] at h
 | _::_,[],h=>by simp [relDs] at h
theorem relDs_get {I:Nat→Nat} {w:World}:∀{cs:List D} {vs:List Value},relDs φ I w cs vs→∀{j:Nat} {c:D},cs[j]?=some c→∃v,vs[j]?=some v∧relD φ I w c v
 | [],_,_,j,c,hc=>by simp at hc
 | c::cs,[],h,_,_,_=>by simp [relDs] at h
 | c::cs,v::vs,h,j,x,hx=>by
  simp only [relDs] at h
  cases j with
  | zero=>simp at hx;subst hx;exact ⟨v,rfl,h.1⟩
  | succ j=>simpa using relDs_get h.2 (j:=j) (by simpa using hx)
theorem relDs_append {I:Nat→Nat} {w:World} {cs ds:List D} {vs us:List Value} (h:relDs φ I w cs vs) (k:relDs φ I w ds us):relDs φ I w (cs++ds) (vs++us):=by
 induction cs generalizing vs with
 | nil=>cases vs<;>simp_all [relDs]
 | cons c cs ih=>cases vs<;>simp_all [relDs]
theorem relCells_get {I:Nat→Nat} {w:World} {b:Nat}:∀{off:Nat} {cs:List D},relCells φ I w b off cs→∀{j:Nat} {c:D},cs[j]?=some c →
  ∃x,w.cell? ⟨b,off+j,none⟩=some x∧x.oneCell'=true∧relD φ I w c x
 | off,[],_,j,c,hc=>by simp at hc
 | off,c::cs,h,j,x,hx=>by
  simp only [relCells] at h
  cases j with
  | zero=>simp at hx;subst hx;exact h.1
  | succ j =>
   have:=relCells_get h.2 (j:=j) (by simpa using hx)
   rwa [Nat.add_assoc,Nat.add_comm 1 j] at this
theorem relCells_of {I:Nat→Nat} {w:World} {b:Nat}:∀{off:Nat} {cs:List D},(∀(j:Nat) (c:D),cs[j]?=some c→∃x,w.cell? ⟨b,off+j,none⟩=some x∧x.oneCell'=true∧relD φ I w c x)→relCells φ I w b off cs
 | off,[],_=>by simp [relCells]
 | off,c::cs,h=>by
  simp only [relCells]
  refine ⟨h 0 c rfl,relCells_of fun j x hx=>?_⟩
  have:=h (j+1) x (by simpa using hx)
  rwa [←Nat.add_assoc,Nat.add_right_comm] at this
theorem relRows_get {I:Nat→Nat} {w:World} {b es:Nat}:∀{off:Nat} {xs:List (List D)},relRows φ I w b es off xs→∀{r:Nat} {row:List D},xs[r]?=some row →
  row.length=es∧relCells φ I w b (off+r*es) row
 | off,[],_,r,row,hc=>by simp at hc
 | off,x::xs,h,r,row,hx=>by
  simp only [relRows] at h
  cases r with
  | zero=>simp at hx;subst hx;simpa using ⟨h.1,h.2.1⟩
  | succ r =>
   have:=relRows_get h.2.2 (r:=r) (by simpa using hx)
   rw [Nat.succ_mul]
   rwa [Nat.add_assoc,Nat.add_comm es] at this
theorem relRows_of {I:Nat→Nat} {w:World} {b es:Nat}:∀{off:Nat} {xs:List (List D)},(∀(r:Nat) (row:List D),xs[r]?=some row→row.length=es∧relCells φ I w b (off+r*es) row)→relRows φ I w b es off xs
 | off,[],_=>by simp [relRows]
 | off,x::xs,h=>by
  simp only [relRows]
  have h0:=h 0 x rfl
  refine ⟨h0.1,by simpa using h0.2,relRows_of fun r row hr=>?_⟩
  have:=h (r+1) row (by simpa using hr)
  rw [Nat.succ_mul] at this
  rwa [Nat.add_assoc,Nat.add_comm es]
theorem relCells_vals {I:Nat→Nat} {w:World} {b off:Nat} {cs:List D} (h:relCells φ I w b off cs) :
  ∃vs:List Value,relDs φ I w cs vs∧(∀(j:Nat) (v:Value),vs[j]?=some v→w.cell? ⟨b,off+j,none⟩=some v)∧∀v∈vs,v.oneCell'=true:=by
 induction cs generalizing off with
 | nil=>exact ⟨[],by simp [relDs],by simp,by simp⟩
 | cons c cs ih =>
  simp only [relCells] at h
  obtain ⟨⟨x,hx,h1,hd⟩,hr⟩:=h
  obtain ⟨vs,hv,hc,ho⟩:=ih hr
  refine ⟨x::vs,by simp only [relDs];exact ⟨hd,hv⟩,fun j v hj=>?_,by simpa using ⟨h1,ho⟩⟩
  cases j with
  | zero=>simp at hj;subst hj;simpa using hx
  | succ j =>
   have:=hc j v (by simpa using hj)
   rwa [Nat.add_assoc,Nat.add_comm 1 j] at this
theorem relCells_of_vals {I:Nat→Nat} {w:World} {b off:Nat} {cs:List D} {vs:List Value} (h:relDs φ I w cs vs)
  (hc:∀(j:Nat) (v:Value),vs[j]?=some v→w.cell? ⟨b,off+j,none⟩=some v) (h1:∀v∈vs,v.oneCell'=true):relCells φ I w b off cs :=
 relCells_of fun _ _ hj =>
  let ⟨v,hv,hd⟩:=relDs_get h hj
  ⟨v,hc _ v hv,h1 v (List.mem_of_getElem? hv),hd⟩
end
end Go.VS
namespace Go.VS
def O.es?:O→Option Nat
 | .arrD es _ _=>some es
 | .arrV es _=>some es
 | _=>none
def O.len:O→Nat
 | .arrD _ _ rows=>rows.length
 | .arrV _ rows=>rows.length
 | _=>0
def O.isLp:O→Bool
 | .lp ..=>true
 | _=>false
def O.live:O→Bool
 | .dead=>false
 | _=>true
def OneC (CS:Array Value):Prop:=∀x∈CS.toList,x.oneCell'=true
def Stays (o o':Option Obj):Prop:=∀CS T,o=some (.cells CS T (0,0))→∃CS' T',o'=some (.cells CS' T' (0,0))∧CS.size≤CS'.size∧(OneC CS→OneC CS')
theorem Stays.of_eq {o o':Option Obj} (h:o'=o):Stays o o':=fun CS T hc=>⟨CS,T,by rw [h];exact hc,Nat.le_refl _,id⟩
theorem Stays.trans {o o' o'':Option Obj} (a:Stays o o') (b:Stays o' o''):Stays o o'':=fun CS T hc =>
 let ⟨CS',T',h1,h2,h3⟩:=a CS T hc
 let ⟨CS2,T2,k1,k2,k3⟩:=b CS' T' h1
 ⟨CS2,T2,k1,Nat.le_trans h2 k2,fun h=>k3 (h3 h)⟩
def isPtr:Value→Bool
 | .pointer (some _)=>true
 | _=>false
theorem isPtr_one {v:Value} (h:isPtr v=true):v.oneCell'=true:=by
 cases v<;>simp [isPtr] at h
 rfl
section
variable (φ:Phi)
mutual
def relV (h:List O) (g:Gh) (w:World):V→Value→Prop
 | .u,_=>True
 | .skp,v=>v=undef
 | .d x,v=>relD φ g.I w x v
 | .loc n r c,v=>n<h.length∧isPtr v=true∧∀es,(hget h n).es?=some es→v = .pointer (some ⟨g.β n,g.o n+r*es+c,none⟩)
 | .asl n off len,v=>n<h.length∧v.oneCell'=true∧∀es,(hget h n).es?=some es→∃cap,v = .slice (some ⟨g.β n,g.o n+off*es,none⟩) len cap∧len≤cap∧(hget h n).len≤off+cap ∧
   ∃CS T,w.heap[g.β n]?=some (.cells CS T (0,0))∧g.o n+(off+cap)*es≤CS.size∧OneC CS
 | .aslx n off len,v=>n<h.length∧v.oneCell'=true∧∀es,(hget h n).es?=some es→∃cap,v = .slice (some ⟨g.β n,g.o n+off*es,none⟩) len cap∧len≤cap∧(hget h n).len=off+cap ∧
   ∃CS T,w.heap[g.β n]?=some (.cells CS T (0,0))∧g.o n+(off+cap)*es≤CS.size∧OneC CS
 | .sl0 _,v=>∃ad:Addr,v = .slice (some ad) 0 0
 | .mp n,v=>n<h.length∧v.oneCell'=true∧∀kv,hget h n = .mp kv→v = .map (some (g.β n))
 | .rf cs,v=>∃b off us,v = .pointer (some ⟨b,off,none⟩)∧off+cs.length≤g.I b∧relVs h g w cs us∧∀(j:Nat) (u:Value),us[j]?=some u→w.cell? ⟨b,off+j,none⟩=some u∧u.oneCell'=true
 | .yld n,v=>n<h.length∧v.oneCell'=true∧((hget h n).isLp=true→v = .func (.yield (g.β n)) #[] #[])
 | .fn f a b,v=>∃A B,v = .func (.func (φ f)) A B∧relVs h g w a A.toList∧relVs h g w b B.toList
 | .ag cs,v=>∃A,v = .agg A∧relVs h g w cs A.toList∧∀x∈A.toList,x.oneCell'=true
 | .tu vs,v=>∃A,v = .tuple A∧relVs h g w vs A.toList
def relVs (h:List O) (g:Gh) (w:World):List V→List Value→Prop
 | [],[]=>True
 | c::cs,v::vs=>relV h g w c v∧relVs h g w cs vs
 | _,_=>False
end
def relRowsV (h:List O) (g:Gh) (w:World) (b es o:Nat) (rows:List (List V)):Prop :=
 ∀(r:Nat) (row:List V),rows[r]?=some row→row.length=es ∧
  ∀(j:Nat) (c:V),row[j]?=some c→∃x,w.cell? ⟨b,o+r*es+j,none⟩=some x∧x.oneCell'=true∧relV φ h g w c x
def relKV (h:List O) (g:Gh) (w:World) (kv:List (D×V)) (es:List MapEntry):Prop :=
 kv.length=es.length∧∀(i:Nat) (p:D×V) (e:MapEntry),kv[i]?=some p→es[i]?=some e→relD φ g.I w p.1 e.key∧relV φ h g w p.2 e.val
def exCode:Ex→Option Code
 | .normal=>none
 | .exit id=>some (.exit id)
 | .ret=>some .ret
def relEnv (h:List O) (g:Gh) (w:World) (env:List (Nat×V)) (tmps:Array Value):Prop:=∀p∈env,relV φ h g w p.2 (tmps.getD p.1 undef)
def objRel (h:List O) (g:Gh) (w:World) (b o:Nat):O→Prop
 | .arrD es ex rows=>(∃CS T,w.heap[b]?=some (.cells CS T (0,0))∧o+es*rows.length≤CS.size)∧relRows φ g.I w b es o rows ∧
   (if ex then g.I b≤o else g.I b=o+es*rows.length)
 | .arrV es rows=>(∃CS T,w.heap[b]?=some (.cells CS T (0,0))∧o+es*rows.length≤CS.size)∧relRowsV φ h g w b es o rows∧g.I b≤o
 | .mp kv=>∃ES clk,w.heap[b]?=some (.map ES clk)∧relKV φ h g w kv ES.toList∧g.I b=0
 | .lp ps a c e env=>∃(r:Loop) (nt:Nat),w.heap[b]?=some (.loop r)∧r.params=ps.toArray∧φ.lk ps a c r.assign r.body nt∧nt≤r.tmps.size∧relEnv φ h g w env r.tmps ∧
   r.state=(if e = .normal then .ready else .done)∧r.pending=exCode e∧g.I b=0
 | .dead=>True
structure HRel (h:List O) (g:Gh) (w:World):Prop where
 obj:∀n,objRel φ h g w (g.β n) (g.o n) (hget h n)
 inj:∀n m,(hget h n).live=true→(hget h m).live=true→g.β n=g.β m→n=m
 new:∀b,w.heap.size≤b→g.I b=0
structure HLe (h:List O) (g:Gh) (w:World) (h':List O) (g':Gh) (w':World):Prop where
 ext:Ext g.I w g'.I w'
 len:h.length≤h'.length
 arr:∀n es,n<h.length→(hget h' n).es?=some es→(hget h n).es?=some es∧g'.β n=g.β n∧g'.o n=g.o n∧(hget h' n).len=(hget h n).len∧Stays w.heap[g.β n]? w'.heap[g.β n]?
 mp:∀n kv,n<h.length→hget h' n = .mp kv→(∃kv',hget h n = .mp kv')∧g'.β n=g.β n
 lp:∀n,n<h.length→(hget h' n).isLp=true→(hget h n).isLp=true∧g'.β n=g.β n
variable {φ}
theorem HLe.refl (h:List O) (g:Gh) (w:World):HLe h g w h g w :=
 ⟨Ext.refl _ _,Nat.le_refl _,fun _ _ _ he=>⟨he,rfl,rfl,rfl,Stays.of_eq rfl⟩,fun _ kv _ hk=>⟨⟨kv,hk⟩,rfl⟩,fun _ _ hk=>⟨hk,rfl⟩⟩
mutual
theorem relV_le {h h':List O} {g g':Gh} {w w':World} (hle:HLe h g w h' g' w'):∀{x:V} {v:Value},relV φ h g w x v→relV φ h' g' w' x v
 | .u,v,_=>by simp [relV]
 | .skp,v,hr=>by simpa [relV] using hr
 | .d x,v,hr=>by simp only [relV] at hr ⊢;exact relD_ext hle.ext hr
 | .loc n r c,v,hr=>by
  simp only [relV] at hr ⊢
  refine ⟨Nat.lt_of_lt_of_le hr.1 hle.len,hr.2.1,fun es he=>?_⟩
  obtain ⟨h1,h2,h3,_⟩:=hle.arr n es hr.1 he
  rw [h2,h3]
  exact hr.2.2 es h1
 | .asl n off len,v,hr=>by
  simp only [relV] at hr ⊢
  refine ⟨Nat.lt_of_lt_of_le hr.1 hle.len,hr.2.1,fun es he=>?_⟩
  obtain ⟨h1,h2,h3,h4,h5⟩:=hle.arr n es hr.1 he
  obtain ⟨cap,hv,hl,hm,CS,T,hb,hs,h1c⟩:=hr.2.2 es h1
  obtain ⟨CS',T',hb',hs',h2c⟩:=h5 CS T hb
  refine ⟨cap,by rw [h2,h3];exact hv,hl,by rw [h4];exact hm,CS',T',by rw [h2];exact hb',by rw [h3];exact Nat.le_trans hs hs',h2c h1c⟩
 | .aslx n off len,v,hr=>by
  simp only [relV] at hr ⊢
  refine ⟨Nat.lt_of_lt_of_le hr.1 hle.len,hr.2.1,fun es he=>?_⟩
  obtain ⟨h1,h2,h3,h4,h5⟩:=hle.arr n es hr.1 he
  obtain ⟨cap,hv,hl,hm,CS,T,hb,hs,h1c⟩:=hr.2.2 es h1
  obtain ⟨CS',T',hb',hs',h2c⟩:=h5 CS T hb
  refine ⟨cap,by rw [h2,h3];exact hv,hl,by rw [h4];exact hm,CS',T',by rw [h2];exact hb',by rw [h3];exact Nat.le_trans hs hs',h2c h1c⟩
 | .sl0 _,v,hr=>by simpa only [relV] using hr
 | .mp n,v,hr=>by
  simp only [relV] at hr ⊢
  refine ⟨Nat.lt_of_lt_of_le hr.1 hle.len,hr.2.1,fun kv hk=>?_⟩
  obtain ⟨⟨kv',hk'⟩,h2⟩:=hle.mp n kv hr.1 hk
  rw [h2]
  exact hr.2.2 kv' hk'
 | .rf cs,v,hr=>by
  simp only [relV] at hr ⊢
  obtain ⟨b,off,us,rfl,hI,hv,hc⟩:=hr
  have hl:∀{xs:List V} {vs:List Value},relVs φ h g w xs vs→xs.length=vs.length:=by
   intro xs
   induction xs with
   | nil=>intro vs hr;cases vs<;>simp_all [relVs]
   | cons x xs ih=>intro vs hr;cases vs<;>simp_all [relVs];exact ih hr.2
  refine ⟨b,off,us,rfl,Nat.le_trans hI (hle.ext.le b),relVs_le hle hv,fun j u hj=>?_⟩
  have hj':j<us.length:=(List.getElem?_eq_some_iff.1 hj).1
  have:=hl hv
  rw [hle.ext.cell b (off+j) (by omega)]
  exact hc j u hj
 | .yld n,v,hr=>by
  simp only [relV] at hr ⊢
  refine ⟨Nat.lt_of_lt_of_le hr.1 hle.len,hr.2.1,fun hk=>?_⟩
  obtain ⟨hk',h2⟩:=hle.lp n hr.1 hk
  rw [h2]
  exact hr.2.2 hk'
 | .fn f a b,v,hr=>by
  simp only [relV] at hr ⊢
  obtain ⟨A,B,rfl,ha,hb⟩:=hr
  exact ⟨A,B,rfl,relVs_le hle ha,relVs_le hle hb⟩
 | .ag cs,v,hr=>by
  simp only [relV] at hr ⊢
  obtain ⟨A,rfl,ha,h1⟩:=hr
  exact ⟨A,rfl,relVs_le hle ha,h1⟩
 | .tu cs,v,hr=>by
  simp only [relV] at hr ⊢
  obtain ⟨A,rfl,ha⟩:=hr
  exact ⟨A,rfl,relVs_le hle ha⟩
theorem relVs_le {h h':List O} {g g':Gh} {w w':World} (hle:HLe h g w h' g' w'):∀{xs:List V} {vs:List Value},relVs φ h g w xs vs→relVs φ h' g' w' xs vs
 | [],[],_=>by simp [relVs]
 | c::cs,v::vs,hr=>by
  simp only [relVs] at hr ⊢
  exact ⟨relV_le hle hr.1,relVs_le hle hr.2⟩
 | [],_::_,hr=>by simp [relVs] at hr
 | _::_,[],hr=>by simp [relVs] at hr
end
theorem relVs_length {h:List O} {g:Gh} {w:World}:∀{cs:List V} {vs:List Value},relVs φ h g w cs vs→cs.length=vs.length
 | [],[],_=>rfl
 | _::_,_::_,h=>by simp only [relVs] at h;simp [relVs_length h.2]
 | [],_::_,h=>by simp [relVs] at h
 | _::_,[],h=>by simp [relVs] at h
theorem relVs_get {h:List O} {g:Gh} {w:World}:∀{cs:List V} {vs:List Value},relVs φ h g w cs vs→∀{j:Nat} {c:V},cs[j]?=some c→∃v,vs[j]?=some v∧relV φ h g w c v
 | [],_,_,j,c,hc=>by simp at hc
 | c::cs,[],h,_,_,_=>by simp [relVs] at h
 | c::cs,v::vs,h,j,x,hx=>by
  simp only [relVs] at h
  cases j with
  | zero=>simp at hx;subst hx;exact ⟨v,rfl,h.1⟩
  | succ j=>simpa using relVs_get h.2 (j:=j) (by simpa using hx)
theorem relV_wk {h:List O} {g:Gh} {w:World} {x:V} {v:Value} (hr:relV φ h g w x v):relV φ h g w x.wk v:=by
 cases x with
 | aslx n off len =>
  simp only [V.wk,relV] at hr ⊢
  refine ⟨hr.1,hr.2.1,fun es he=>?_⟩
  obtain ⟨cap,h1,h2,h3,h4⟩:=hr.2.2 es he
  exact ⟨cap,h1,h2,by omega,h4⟩
 | _=>exact hr
theorem relVs_wk {h:List O} {g:Gh} {w:World} {cs:List V} {vs:List Value} (hr:relVs φ h g w cs vs):relVs φ h g w (cs.map V.wk) vs:=by
 induction cs generalizing vs with
 | nil=>cases vs<;>simp_all [relVs]
 | cons c cs ih =>
  cases vs with
  | nil=>simp [relVs] at hr
  | cons v vs =>
   simp only [relVs] at hr
   simp only [List.map_cons,relVs]
   exact ⟨relV_wk hr.1,ih hr.2⟩
theorem relVs_append {h:List O} {g:Gh} {w:World} {cs ds:List V} {vs us:List Value} (hr:relVs φ h g w cs vs) (k:relVs φ h g w ds us):relVs φ h g w (cs++ds) (vs++us):=by
 induction cs generalizing vs with
 | nil=>cases vs<;>simp_all [relVs]
 | cons c cs ih=>cases vs<;>simp_all [relVs]
theorem relVs_take {h:List O} {g:Gh} {w:World} {cs:List V} {vs:List Value} (hr:relVs φ h g w cs vs) (n:Nat):relVs φ h g w (cs.take n) (vs.take n):=by
 induction cs generalizing vs n with
 | nil=>cases vs<;>simp_all [relVs]
 | cons c cs ih=>cases vs<;>cases n<;>simp_all [relVs]
theorem relVs_drop {h:List O} {g:Gh} {w:World} {cs:List V} {vs:List Value} (hr:relVs φ h g w cs vs) (n:Nat):relVs φ h g w (cs.drop n) (vs.drop n):=by
 induction cs generalizing vs n with
 | nil=>cases vs<;>simp_all [relVs]
 | cons c cs ih=>cases vs<;>cases n<;>simp_all [relVs]
theorem relDs_V {h:List O} {g:Gh} {w:World} {cs:List D} {vs:List Value} (hr:relDs φ g.I w cs vs):relVs φ h g w (cs.map V.d) vs:=by
 induction cs generalizing vs with
 | nil=>cases vs<;>simp_all [relDs,relVs]
 | cons c cs ih=>cases vs<;>simp_all [relDs,relVs,relV]
theorem relVs_D {h:List O} {g:Gh} {w:World}:∀{cs:List V} {ds:List D} {vs:List Value},allD cs=some ds→relVs φ h g w cs vs→relDs φ g.I w ds vs
 | [],ds,vs,hd,hr=>by simp [allD] at hd;subst hd;cases vs<;>simp_all [relVs,relDs]
 | c::cs,ds,[],_,hr=>by simp [relVs] at hr
 | c::cs,ds,v::vs,hd,hr=>by
  cases c<;>simp only [allD,reduceCtorEq] at hd
  rename_i x
  cases hq:allD cs with
  | none=>simp [hq] at hd
  | some es =>
   simp [hq] at hd
   subst hd
   simp only [relVs,relV,relDs] at hr ⊢
   exact ⟨hr.1,relVs_D hq hr.2⟩
theorem allD_map (ds:List D):allD (ds.map V.d)=some ds:=by
 induction ds with
 | nil=>rfl
 | cons d ds ih=>simp [allD,ih]
theorem allD_eq:∀{cs:List V} {ds:List D},allD cs=some ds→cs=ds.map V.d
 | [],ds,h=>by simp [allD] at h;subst h;rfl
 | c::cs,ds,h=>by
  cases c<;>simp only [allD,reduceCtorEq] at h
  cases hq:allD cs with
  | none=>simp [hq] at h
  | some es=>simp [hq] at h;subst h;simp [allD_eq hq]
theorem cells_one {v:Value} (h:v.oneCell'=true):v.cells=#[v]:=by
 cases v<;>first | rfl | simp [Value.oneCell'] at h
theorem relD_one {I:Nat→Nat} {w:World} {x:D} {v:Value} (hr:relD φ I w x v) (hx:∀cs,x≠.ag cs) (hj:x≠.junk):v.oneCell'=true:=by
 cases x<;>simp only [relD] at hr
 case ag cs=>exact absurd rfl (hx cs)
 case junk=>exact absurd rfl hj
 all_goals first
  | (subst hr;rfl)
  | (obtain ⟨_,rfl,_⟩:=hr;rfl)
  | (obtain ⟨_,_,rfl,_⟩:=hr;rfl)
theorem cells_of_one {h:List O} {g:Gh} {w:World} {x:V} {v:Value} (hr:relV φ h g w x v) (hx:x.cells=[x]) (h1:v.oneCell'=true) :
  relVs φ h g w x.cells v.cells.toList∧∀y∈v.cells.toList,y.oneCell'=true:=by
 rw [hx,cells_one h1]
 exact ⟨by simpa [relVs] using hr,by simpa using h1⟩
theorem relV_cells {h:List O} {g:Gh} {w:World} {x:V} {v:Value} (hr:relV φ h g w x v) (hx:x.known=true) :
  relVs φ h g w x.cells v.cells.toList∧∀y∈v.cells.toList,y.oneCell'=true:=by
 cases x with
 | u=>simp [V.known] at hx
 | skp=>simp [V.known] at hx
 | tu vs=>simp [V.known] at hx
 | d y =>
  cases y with
  | ag cs =>
   simp only [relV,relD] at hr
   obtain ⟨A,rfl,ha,h1⟩:=hr
   exact ⟨relDs_V ha,h1⟩
  | junk=>simp [V.known] at hx
  | _=>exact cells_of_one hr rfl (relD_one (by simpa only [relV] using hr) (by intro _ hh;cases hh) (by intro hh;cases hh))
 | loc n r c=>exact cells_of_one hr rfl (by simp only [relV] at hr;exact isPtr_one hr.2.1)
 | asl n off len=>exact cells_of_one hr rfl (by simp only [relV] at hr;exact hr.2.1)
 | aslx n off len=>exact cells_of_one hr rfl (by simp only [relV] at hr;exact hr.2.1)
 | mp n=>exact cells_of_one hr rfl (by simp only [relV] at hr;exact hr.2.1)
 | yld n=>exact cells_of_one hr rfl (by simp only [relV] at hr;exact hr.2.1)
 | rf cs =>
  refine cells_of_one hr rfl ?_
  simp only [relV] at hr;obtain ⟨b,off,us,rfl,_⟩:=hr;rfl
 | sl0 es =>
  refine cells_of_one hr rfl ?_
  simp only [relV] at hr;obtain ⟨ad,rfl⟩:=hr;rfl
 | fn f a b =>
  refine cells_of_one hr rfl ?_
  simp only [relV] at hr;obtain ⟨A,B,rfl,_⟩:=hr;rfl
 | ag cs =>
  simp only [relV] at hr
  obtain ⟨A,rfl,ha,h1⟩:=hr
  exact ⟨ha,h1⟩
structure LeAt (h:List O) (g:Gh) (w:World) (h':List O) (w':World) (n:Nat):Prop where
 arr:∀es,(hget h' n).es?=some es→(hget h n).es?=some es∧(hget h' n).len=(hget h n).len∧Stays w.heap[g.β n]? w'.heap[g.β n]?
 mp:∀kv,hget h' n = .mp kv→∃kv',hget h n = .mp kv'
 lp:(hget h' n).isLp=true→(hget h n).isLp=true
theorem LeAt.refl (h:List O) (g:Gh) (w:World) (n:Nat):LeAt h g w h w n:=⟨fun _ he=>⟨he,rfl,Stays.of_eq rfl⟩,fun kv hk=>⟨kv,hk⟩,id⟩
theorem LeAt.trans {h h' h'':List O} {g g':Gh} {w w' w'':World} {n:Nat} (a:LeAt h g w h' w' n) (b:LeAt h' g' w' h'' w'' n) (hb:g'.β n=g.β n):LeAt h g w h'' w'' n where
 arr es he:=by
  obtain ⟨h1,h2,h3⟩:=b.arr es he
  obtain ⟨k1,k2,k3⟩:=a.arr es h1
  rw [hb] at h3
  exact ⟨k1,h2.trans k2,k3.trans h3⟩
 mp kv hk:=let ⟨kv',h1⟩:=b.mp kv hk;a.mp kv' h1
 lp hk:=a.lp (b.lp hk)
theorem HLe.at {h h':List O} {g g':Gh} {w w':World} (hle:HLe h g w h' g' w') {n:Nat} (hn:n<h.length):LeAt h g w h' w' n :=
 ⟨fun es he=>let ⟨h1,_,_,h2,h3⟩:=hle.arr n es hn he;⟨h1,h2,h3⟩,fun kv hk=>(hle.mp n kv hn hk).1,fun hk=>(hle.lp n hn hk).1⟩
structure Frame (m:Nat) (h:List O) (g:Gh) (w:World) (h':List O) (g':Gh) (w':World):Prop where
 ext:Ext g.I w g'.I w'
 size:w.heap.size≤w'.heap.size
 os:w'.os=w.os
 tape:w'.tape=w.tape
 output:w'.output=w.output
 pin:∀n,n<m→g'.β n=g.β n∧g'.o n=g.o n
 keep:∀b,b<w.heap.size→(∀n,(hget h n).live=true→g.β n≠b)→w'.heap[b]?=w.heap[b]?∧g'.I b=g.I b
 lives:∀n,(hget h' n).live=true→(∃k,(hget h k).live=true∧g.β k=g'.β n)∨w.heap.size≤g'.β n
 les:∀n,n<m→LeAt h g w h' w' n
theorem Frame.refl (m:Nat) (h:List O) (g:Gh) (w:World):Frame m h g w h g w :=
 ⟨Ext.refl _ _,Nat.le_refl _,rfl,rfl,rfl,fun _ _=>⟨rfl,rfl⟩,fun _ _ _=>⟨rfl,rfl⟩,fun n hn=>.inl ⟨n,hn,rfl⟩,fun n _=>LeAt.refl _ _ _ n⟩
theorem Frame.trans {m:Nat} {h h' h'':List O} {g g' g'':Gh} {w w' w'':World} (a:Frame m h g w h' g' w') (b:Frame m h' g' w' h'' g'' w''):Frame m h g w h'' g'' w'' where
 ext:=a.ext.trans b.ext
 size:=Nat.le_trans a.size b.size
 os:=b.os.trans a.os
 tape:=b.tape.trans a.tape
 output:=b.output.trans a.output
 pin n hn:=⟨(b.pin n hn).1.trans (a.pin n hn).1,(b.pin n hn).2.trans (a.pin n hn).2⟩
 keep k hk hn:=by
  have h1:=a.keep k hk hn
  have h2:=b.keep k (Nat.lt_of_lt_of_le hk a.size) (fun n hl he=>by
   rcases a.lives n hl with ⟨j,hj,hb⟩ | hs
   ·exact hn j hj (hb.trans he)
   ·omega)
  exact ⟨h2.1.trans h1.1,h2.2.trans h1.2⟩
 lives n hn:=by
  rcases b.lives n hn with ⟨k,hk,hb⟩ | hs
  ·rcases a.lives k hk with ⟨j,hj,hc⟩ | hs'
   ·exact .inl ⟨j,hj,hc.trans hb⟩
   ·exact .inr (by omega)
  ·exact .inr (by have:=a.size;omega)
 les n hn:=(a.les n hn).trans (b.les n hn) (a.pin n hn).1
end
end Go.VS
namespace Go.VS
section
variable {φ:Phi}
theorem cell_of_heap {w w':World} {b:Nat} (h:w'.heap[b]?=w.heap[b]?) (i:Nat):w'.cell? ⟨b,i,none⟩=w.cell? ⟨b,i,none⟩:=by
 simp only [World.cell?,h]
theorem hget_lt {h:List O} {n:Nat} (hl:(hget h n).live=true):n<h.length:=by
 rcases Nat.lt_or_ge n h.length with hlt | hge
 ·exact hlt
 ·simp [hget,List.getD,List.getElem?_eq_none hge,O.live] at hl
theorem es_live {o:O} {es:Nat} (h:o.es?=some es):o.live=true:=by cases o<;>simp_all [O.es?,O.live]
theorem relRows_move {I I':Nat→Nat} {w w':World} (hE:Ext I w I' w') {b es o:Nat} {xs:List (List D)} (hc:∀i,w'.cell? ⟨b,i,none⟩=w.cell? ⟨b,i,none⟩)
  (h:relRows φ I w b es o xs):relRows φ I' w' b es o xs :=
 relRows_of fun _ _ hr =>
  let ⟨h1,h2⟩:=relRows_get h hr
  ⟨h1,relCells_of fun _ _ hj =>
   let ⟨x,hx,h3,h4⟩:=relCells_get h2 hj
   ⟨x,by rw [hc];exact hx,h3,relD_ext hE h4⟩⟩
theorem relRowsV_move {h h':List O} {g g':Gh} {w w':World} (hle:HLe h g w h' g' w') {b es o:Nat} {rows:List (List V)}
  (hc:∀i,w'.cell? ⟨b,i,none⟩=w.cell? ⟨b,i,none⟩) (hr:relRowsV φ h g w b es o rows):relRowsV φ h' g' w' b es o rows:=fun r row hrow =>
 let ⟨h1,h2⟩:=hr r row hrow
 ⟨h1,fun j c hj =>
  let ⟨x,hx,h3,h4⟩:=h2 j c hj
  ⟨x,by rw [hc];exact hx,h3,relV_le hle h4⟩⟩
theorem relKV_move {h h':List O} {g g':Gh} {w w':World} (hle:HLe h g w h' g' w') {kv:List (D×V)} {es:List MapEntry}
  (hr:relKV φ h g w kv es):relKV φ h' g' w' kv es :=
 ⟨hr.1,fun i p e hp he=>let ⟨h1,h2⟩:=hr.2 i p e hp he;⟨relD_ext hle.ext h1,relV_le hle h2⟩⟩
theorem relEnv_move {h h':List O} {g g':Gh} {w w':World} (hle:HLe h g w h' g' w') {env:List (Nat×V)} {tmps:Array Value}
  (hr:relEnv φ h g w env tmps):relEnv φ h' g' w' env tmps:=fun p hp=>relV_le hle (hr p hp)
theorem objRel_move {h h':List O} {g g':Gh} {w w':World} (hle:HLe h g w h' g' w') {b o:Nat} {x:O} (hb:w'.heap[b]?=w.heap[b]?) (hI:g'.I b=g.I b)
  (hr:objRel φ h g w b o x):objRel φ h' g' w' b o x:=by
 have hc:=cell_of_heap hb
 cases x with
 | dead=>trivial
 | arrD es ex rows =>
  obtain ⟨h1,h2,h3⟩:=hr
  exact ⟨by rw [hb];exact h1,relRows_move hle.ext hc h2,by rw [hI];exact h3⟩
 | arrV es rows =>
  obtain ⟨h1,h2,h3⟩:=hr
  exact ⟨by rw [hb];exact h1,relRowsV_move hle hc h2,by rw [hI];exact h3⟩
 | mp kv =>
  obtain ⟨ES,clk,h1,h2,h3⟩:=hr
  exact ⟨ES,clk,by rw [hb];exact h1,relKV_move hle h2,by rw [hI];exact h3⟩
 | lp ps a c e env =>
  obtain ⟨r,nt,h1,h0,h2,h3,h4,h5,h6,h7⟩:=hr
  exact ⟨r,nt,by rw [hb];exact h1,h0,h2,h3,relEnv_move hle h4,h5,h6,by rw [hI];exact h7⟩
theorem obj_block {h:List O} {g:Gh} {w:World} {b o:Nat} {x:O} (hr:objRel φ h g w b o x) (hl:x.live=true):b<w.heap.size:=by
 have key:∀{y:Obj},w.heap[b]?=some y→b<w.heap.size:=fun hy=>by
  rcases Nat.lt_or_ge b w.heap.size with hlt | hge
  ·exact hlt
  ·simp [Array.getElem?_eq_none hge] at hy
 cases x with
 | dead=>simp [O.live] at hl
 | arrD es ex rows=>obtain ⟨⟨CS,T,h1,_⟩,_⟩:=hr;exact key h1
 | arrV es rows=>obtain ⟨⟨CS,T,h1,_⟩,_⟩:=hr;exact key h1
 | mp kv=>obtain ⟨ES,clk,h1,_⟩:=hr;exact key h1
 | lp ps a c e env=>obtain ⟨r,nt,h1,_⟩:=hr;exact key h1
theorem HRel.block {h:List O} {g:Gh} {w:World} (hr:HRel φ h g w) {n:Nat} (hl:(hget h n).live=true):g.β n<w.heap.size:=obj_block (hr.obj n) hl
structure Grew (w w':World):Prop where
 size:w.heap.size≤w'.heap.size
 same:∀b,b<w.heap.size→w'.heap[b]?=w.heap[b]?
 os:w'.os=w.os
 tape:w'.tape=w.tape
 output:w'.output=w.output
theorem Grew.refl (w:World):Grew w w:=⟨Nat.le_refl _,fun _ _=>rfl,rfl,rfl,rfl⟩
theorem Grew.trans {a b c:World} (h:Grew a b) (k:Grew b c):Grew a c :=
 ⟨Nat.le_trans h.size k.size,fun i hi=>(k.same i (Nat.lt_of_lt_of_le hi h.size)).trans (h.same i hi),k.os.trans h.os,k.tape.trans h.tape,k.output.trans h.output⟩
theorem Grew.alloc (w:World) (o:Obj):Grew w (w.alloc o) :=
 ⟨by simp,fun b hb=>RowKit.Below.heap_alloc w o b hb,rfl,rfl,rfl⟩
theorem Grew.drew (w:World):Grew w w.drew:=⟨Nat.le_refl _,fun _ _=>rfl,rfl,rfl,rfl⟩
def Gh.setI (g:Gh) (I:Nat→Nat):Gh:=⟨g.β,g.o,I⟩
def updI (I:Nat→Nat) (b k:Nat):Nat→Nat:=fun x=>if x=b then k else I x
theorem ext_grew {I I':Nat→Nat} {w w':World} (hg:Grew w w') (hI:∀b,b<w.heap.size→I' b=I b) (h0:∀b,w.heap.size≤b→I b=0):Ext I w I' w' :=
 ⟨fun b=>by
  rcases Nat.lt_or_ge b w.heap.size with h | h
  ·rw [hI b h];exact Nat.le_refl _
  ·rw [h0 b h];exact Nat.zero_le _,
  fun b i hi=>by
  rcases Nat.lt_or_ge b w.heap.size with h | h
  ·exact cell_of_heap (hg.same b h) i
  ·rw [h0 b h] at hi;omega⟩
theorem hle_grew {h:List O} {g:Gh} {w w':World} {I':Nat→Nat} (hr:HRel φ h g w) (hg:Grew w w') (hI:∀b,b<w.heap.size→I' b=g.I b):HLe h g w h (g.setI I') w' where
 ext:=ext_grew hg hI hr.new
 len:=Nat.le_refl _
 arr n es _ he:=⟨he,rfl,rfl,rfl,Stays.of_eq (hg.same _ (hr.block (es_live he)))⟩
 mp n kv _ hk:=⟨⟨kv,hk⟩,rfl⟩
 lp n _ hk:=⟨hk,rfl⟩
theorem hrel_grew {h:List O} {g:Gh} {w w':World} {I':Nat→Nat} (hr:HRel φ h g w) (hg:Grew w w') (hI:∀b,b<w.heap.size→I' b=g.I b)
  (hnew:∀b,w'.heap.size≤b→I' b=0):HRel φ h (g.setI I') w' where
 obj n:=by
  by_cases hl:(hget h n).live=true
  ·have hb:=hr.block hl
   exact objRel_move (hle_grew hr hg hI) (hg.same _ hb) (hI _ hb) (hr.obj n)
  ·cases hx:hget h n<;>simp_all [O.live,objRel]
 inj:=hr.inj
 new:=hnew
theorem frame_grew (m:Nat) {h:List O} {g:Gh} {w w':World} {I':Nat→Nat} (hr:HRel φ h g w) (hg:Grew w w') (hI:∀b,b<w.heap.size→I' b=g.I b):Frame m h g w h (g.setI I') w' where
 ext:=ext_grew hg hI hr.new
 size:=hg.size
 os:=hg.os
 tape:=hg.tape
 output:=hg.output
 pin _ _:=⟨rfl,rfl⟩
 keep b hb _:=⟨hg.same b hb,hI b hb⟩
 lives n hn:=.inl ⟨n,hn,rfl⟩
 les n _:=⟨fun _ he=>⟨he,rfl,Stays.of_eq (hg.same _ (hr.block (es_live he)))⟩,fun kv hk=>⟨kv,hk⟩,id⟩
def Gh.add (g:Gh) (n b o:Nat) (I:Nat→Nat):Gh:=⟨fun k=>if k=n then b else g.β k,fun k=>if k=n then o else g.o k,I⟩
theorem hget_append_old {h:List O} {x:O} {n:Nat} (hn:n<h.length):hget (h++[x]) n=hget h n:=by
 simp [hget,List.getD,List.getElem?_append_left hn]
theorem hget_append_new {h:List O} {x:O}:hget (h++[x]) h.length=x:=by simp [hget,List.getD]
theorem hget_append_out {h:List O} {x:O} {n:Nat} (hn:h.length<n):hget (h++[x]) n = .dead:=by
 have:(h++[x]).length≤n:=by simp;omega
 simp [hget,List.getD,List.getElem?_eq_none this]
theorem hle_new {h:List O} {g:Gh} {w w':World} {I':Nat→Nat} {b o:Nat} (x:O) (hr:HRel φ h g w) (hg:Grew w w') (hI:∀b,b<w.heap.size→I' b=g.I b) :
  HLe h g w (h++[x]) (g.add h.length b o I') w' where
 ext:=ext_grew hg hI hr.new
 len:=by simp
 arr n es hn he:=by
  rw [hget_append_old hn] at he ⊢
  have hne:n≠h.length:=by omega
  exact ⟨he,by simp [Gh.add,hne],by simp [Gh.add,hne],rfl,Stays.of_eq (hg.same _ (hr.block (es_live he)))⟩
 mp n kv hn hk:=by
  rw [hget_append_old hn] at hk
  have hne:n≠h.length:=by omega
  exact ⟨⟨kv,hk⟩,by simp [Gh.add,hne]⟩
 lp n hn hk:=by
  rw [hget_append_old hn] at hk
  have hne:n≠h.length:=by omega
  exact ⟨hk,by simp [Gh.add,hne]⟩
theorem hrel_new {h:List O} {g:Gh} {w w':World} {I':Nat→Nat} {b o:Nat} {x:O} (hr:HRel φ h g w) (hg:Grew w w') (hI:∀b,b<w.heap.size→I' b=g.I b)
  (hnew:∀b,w'.heap.size≤b→I' b=0) (hb:w.heap.size≤b) (hx:objRel φ (h++[x]) (g.add h.length b o I') w' b o x):HRel φ (h++[x]) (g.add h.length b o I') w' where
 obj n:=by
  rcases Nat.lt_trichotomy n h.length with hn | hn | hn
  ·have hne:n≠h.length:=by omega
   rw [hget_append_old hn]
   by_cases hl:(hget h n).live=true
   ·have hb':=hr.block hl
    have:=objRel_move (hle_new (b:=b) (o:=o) x hr hg hI) (hg.same _ hb') (hI _ hb') (hr.obj n)
    simpa [Gh.add,hne] using this
   ·cases hq:hget h n<;>simp_all [O.live,objRel]
  ·subst hn
   rw [hget_append_new]
   simpa [Gh.add] using hx
  ·rw [hget_append_out hn]
   trivial
 inj n k hn hk he:=by
  have key:∀n,(hget (h++[x]) n).live=true→n≤h.length:=fun n hn=>by
   rcases Nat.lt_or_ge h.length n with h1 | h1
   ·rw [hget_append_out h1] at hn;simp [O.live] at hn
   ·exact h1
  have kn:=key n hn
  have kk:=key k hk
  by_cases h1:n=h.length<;>by_cases h2:k=h.length
  ·omega
  ·have hlt:k<h.length:=by omega
   rw [hget_append_old hlt] at hk
   have:=hr.block hk
   simp [Gh.add,h1,h2] at he
   omega
  ·have hlt:n<h.length:=by omega
   rw [hget_append_old hlt] at hn
   have:=hr.block hn
   simp [Gh.add,h1,h2] at he
   omega
  ·have hlt:n<h.length:=by omega
   have hlt':k<h.length:=by omega
   rw [hget_append_old hlt] at hn
   rw [hget_append_old hlt'] at hk
   simp [Gh.add,h1,h2] at he
   exact hr.inj n k hn hk he
 new:=hnew
theorem frame_new {m:Nat} {h:List O} {g:Gh} {w w':World} {I':Nat→Nat} {b o:Nat} (x:O) (hr:HRel φ h g w) (hg:Grew w w') (hI:∀b,b<w.heap.size→I' b=g.I b)
  (hb:w.heap.size≤b) (hm:m≤h.length):Frame m h g w (h++[x]) (g.add h.length b o I') w' where
 ext:=ext_grew hg hI hr.new
 size:=hg.size
 os:=hg.os
 tape:=hg.tape
 output:=hg.output
 pin n hn:=by
  have hne:n≠h.length:=by omega
  simp [Gh.add,hne]
 keep b hb _:=⟨hg.same b hb,hI b hb⟩
 lives n hn:=by
  rcases Nat.lt_trichotomy n h.length with h1 | h1 | h1
  ·have hne:n≠h.length:=by omega
   rw [hget_append_old h1] at hn
   exact .inl ⟨n,hn,by simp [Gh.add,hne]⟩
  ·exact .inr (by simp [Gh.add,h1];exact hb)
  ·rw [hget_append_out h1] at hn;simp [O.live] at hn
 les n hn:=(hle_new x hr hg hI (b:=b) (o:=o)).at (Nat.lt_of_lt_of_le hn hm)
structure Turned (w w':World) (b:Nat):Prop where
 size:w'.heap.size=w.heap.size
 same:∀k,k≠b→w'.heap[k]?=w.heap[k]?
 os:w'.os=w.os
 tape:w'.tape=w.tape
 output:w'.output=w.output
theorem hget_set_same {h:List O} {x:O} {n:Nat} (hn:n<h.length):hget (h.set n x) n=x:=by simp [hget,List.getD,hn]
theorem hget_set_other {h:List O} {x:O} {n k:Nat} (hk:k≠n):hget (h.set n x) k=hget h k:=by
 simp [hget,List.getD,Ne.symm hk]
theorem hle_turn {h:List O} {g:Gh} {w w':World} {I':Nat→Nat} {n:Nat} {x:O} (hr:HRel φ h g w) (hl:(hget h n).live=true) (ht:Turned w w' (g.β n))
  (hE:Ext g.I w I' w')
  (hx:∀es,x.es?=some es→(hget h n).es?=some es∧x.len=(hget h n).len∧Stays w.heap[g.β n]? w'.heap[g.β n]?)
  (hmp:∀kv,x = .mp kv→∃kv',hget h n = .mp kv') (hlp:x.isLp=true→(hget h n).isLp=true:=by intro hh;simp [O.isLp] at hh):HLe h g w (h.set n x) (g.setI I') w' where
 ext:=hE
 len:=by simp
 arr k es hk he:=by
  by_cases hkn:k=n
  ·subst hkn
   rw [hget_set_same hk] at he ⊢
   exact ⟨(hx es he).1,rfl,rfl,(hx es he).2.1,(hx es he).2.2⟩
  ·rw [hget_set_other hkn] at he ⊢
   have hb:g.β k≠g.β n:=fun e=>hkn (hr.inj k n (es_live he) hl e)
   exact ⟨he,rfl,rfl,rfl,Stays.of_eq (ht.same _ hb)⟩
 mp k kv hk hq:=by
  by_cases hkn:k=n
  ·subst hkn
   rw [hget_set_same hk] at hq
   exact ⟨hmp kv hq,rfl⟩
  ·rw [hget_set_other hkn] at hq
   exact ⟨⟨kv,hq⟩,rfl⟩
 lp k hk hq:=by
  by_cases hkn:k=n
  ·subst hkn
   rw [hget_set_same hk] at hq
   exact ⟨hlp hq,rfl⟩
  ·rw [hget_set_other hkn] at hq
   exact ⟨hq,rfl⟩
theorem hrel_turn {h:List O} {g:Gh} {w w':World} {I':Nat→Nat} {n:Nat} {x:O} (hr:HRel φ h g w) (hl:(hget h n).live=true) (ht:Turned w w' (g.β n))
  (hle:HLe h g w (h.set n x) (g.setI I') w') (hI:∀b,b≠g.β n→I' b=g.I b)
  (hx:objRel φ (h.set n x) (g.setI I') w' (g.β n) (g.o n) x):HRel φ (h.set n x) (g.setI I') w' where
 obj k:=by
  by_cases hkn:k=n
  ·subst hkn
   rw [hget_set_same (hget_lt hl)]
   exact hx
  ·rw [hget_set_other hkn]
   by_cases hk:(hget h k).live=true
   ·have hb:g.β k≠g.β n:=fun e=>hkn (hr.inj k n hk hl e)
    exact objRel_move hle (ht.same _ hb) (hI _ hb) (hr.obj k)
   ·cases hq:hget h k<;>simp_all [O.live,objRel]
 inj a b ha hb he:=by
  have key:∀k,(hget (h.set n x) k).live=true→(hget h k).live=true:=fun k hk=>by
   by_cases hkn:k=n
   ·subst hkn;exact hl
   ·rwa [hget_set_other hkn] at hk
  exact hr.inj a b (key a ha) (key b hb) he
 new b hb:=by
  have h1:w.heap.size≤b:=by rw [←ht.size];exact hb
  have h2:=hr.block hl
  show I' b=0
  rw [hI b (by omega)]
  exact hr.new b h1
theorem frame_turn {m:Nat} {h:List O} {g:Gh} {w w':World} {I':Nat→Nat} {n:Nat} (x:O) (hl:(hget h n).live=true) (ht:Turned w w' (g.β n))
  (hE:Ext g.I w I' w') (hI:∀b,b≠g.β n→I' b=g.I b) (hle:HLe h g w (h.set n x) (g.setI I') w'):Frame m h g w (h.set n x) (g.setI I') w' where
 ext:=hE
 size:=by rw [ht.size];exact Nat.le_refl _
 os:=ht.os
 tape:=ht.tape
 output:=ht.output
 pin _ _:=⟨rfl,rfl⟩
 keep b _ hn:=⟨ht.same b (fun e=>hn n hl e.symm),hI b (fun e=>hn n hl e.symm)⟩
 lives k hk:=by
  by_cases hkn:k=n
  ·subst hkn;exact .inl ⟨k,hl,rfl⟩
  ·rw [hget_set_other hkn] at hk;exact .inl ⟨k,hk,rfl⟩
 les k _:=by
  rcases Nat.lt_or_ge k h.length with h1 | h1
  ·exact hle.at h1
  ·have h2:hget (h.set n x) k = .dead:=by
    have:(h.set n x).length≤k:=by simpa using h1
    simp [hget,List.getD,List.getElem?_eq_none this]
   exact ⟨fun es he=>by rw [h2] at he;simp [O.es?] at he,fun kv hk=>by rw [h2] at hk;simp at hk,fun hk=>by rw [h2] at hk;simp [O.isLp] at hk⟩
end
end Go.VS
namespace Go.VS
section
variable (P:Program) (φ:Nat→Nat) (nt:Nat)
def chkLit (v:Value) (x:D):Bool :=
 match v,x with
 | .bool a,.b b=>a==b
 | .int k n,.i k' n'=>k==k'&&n==n'
 | .string s,.s x=>s.toList==x
 | .pointer none,.nil=>true
 | .slice none 0 0,.sl _ true []=>true
 | .map none,.nilmap=>true
 | .nilFunc,.nilfn=>true
 | .nilIface,.nilifc=>true
 | .func (.func f) a b,.fn g [] []=>φ g==f&&a.isEmpty&&b.isEmpty
 | _,_=>false
def chkLits:List Value→List D→Bool
 | [],[]=>true
 | v::vs,x::xs=>chkLit φ v x&&chkLits vs xs
 | _,_=>false
def chkVal (v:Value) (x:D):Bool :=
 match v,x with
 | .agg A,.ag ds=>chkLits φ A.toList ds
 | v,x=>chkLit φ v x
def chkCells (v:Value) (z:List D):Bool:=chkLits φ v.cells.toList z
def chkA (o:Operand) (a:A):Bool :=
 match o,a with
 | .tmp t,.t n=>t==n
 | .const v,.k x=>chkVal φ v x
 | .func f,.k (.fn g [] [])=>φ g==f
 | _,_=>false
def chkAs:List Operand→List A→Bool
 | [],[]=>true
 | o::os,a::as=>chkA φ o a&&chkAs os as
 | _,_=>false
def chkO:Option Operand→Option A→Bool
 | none,none=>true
 | some o,some a=>chkA φ o a
 | _,_=>false
def sizeIs (t:TypeId) (n:Nat):Bool:=(P.info? t).map (·.size)==some n
def aggIs (t:TypeId) (ag:Bool):Bool :=
 match P.underlying t with
 | some (.struct _) | some (.array ..)=>ag
 | some _=>!ag
 | none=>false
def zeroIs (t:TypeId) (z:List D):Bool :=
 match P.info? t with
 | some i=>match i.zero with
  | some v=>chkCells φ v z&&i.size==z.length
  | none=>false
 | none=>false
def dstIs (o:Oper) (d:Nat):Bool:=o.dst==some d&&decide (d<nt)
def dstMay (o:Oper) (d:Option Nat):Bool:=o.dst==d&&d.all (fun d=>decide (d<nt))
def chkParts (fs:Array Field):List (Nat×Operand)→List (Nat×Nat×A)→Bool
 | [],[]=>true
 | (i,x)::r,(o,n,a)::r'=>(match fs[i]? with | some f=>f.offset==o&&sizeIs P f.type n | none=>false)&&chkA φ x a&&chkParts fs r r'
 | _,_=>false
def chkElems:List (Nat×Operand)→List (Nat×A)→Bool
 | [],[]=>true
 | (i,x)::r,(j,a)::r'=>i==j&&chkA φ x a&&chkElems r r'
 | _,_=>false
def ckIs (t:TypeId) (k:CK):Bool :=
 match P.underlying t,k with
 | some .bool,.b | some (.int _),.i | some .string,.s=>true
 | _,_=>false
def ckFields:Nat→List Field→List CK→Bool
 | _,[],[]=>true
 | off, f :: r, k :: ks => f.name != "_" && f.offset == off && ckIs P f.type k && ckFields (off + 1) r ks
 | _,_,_=>false
def flatIs (t:TypeId) (ks:List CK):Bool :=
 match P.underlying t with
 | some (.struct fs)=>!P.stoodInHeld t&&!P.eqGuardType P.depth t&&ckFields P 0 fs.toList ks
 | _=>false
def keyTy (kt:TypeId) (ks:List CK):Bool :=
 match ks with
 | [k]=>ckIs P kt k
 | _=>flatIs P kt ks
def nilIs (t:TypeId) (v:Value) (k:NK):Bool :=
 match P.underlying t,v,k with
 | some (.slice _),.slice none 0 0,.sl | some (.map ..),.map none,.mp | some (.func ..),.nilFunc,.fn | some (.pointer _),.pointer none,.pt | some (.interface _),.nilIface,.ifc=>true
 | _,_,_=>false
def isOverlaps (fn:Func):Bool :=
 fn.origin == "slices.overlaps" && (Extern.allGenericRows.lookup fn.name).isNone && (Extern.allTypedRows.lookup fn.name).isNone && (Extern.allRows.lookup fn.name).isNone && (Extern.allNextRows.lookup fn.name).isNone
def arrFs (k n : Nat) (e : TypeId) : Array Field := ((List.range k).map fun i => ({ name := "", type := e, offset := i * n, embedded := false, tag := "", pkgPath := "", byteOffset := 0 } : Field)).toArray
def arrIs (t:TypeId) (ks:List CK):Bool :=
 match P.underlying t with
 | some (.array n e)=>!P.eqGuardType P.depth t&&(match ks with | k::_=>decide (ks=List.replicate n k)&&ckIs P e k&&sizeIs P e 1 | []=>false)
 | _=>false
def pathIs (n:Nat):List FieldStep→TypeId→Bool
 | [],t=>match P.underlying t with | some (.pointer _)=>false | some _=>true | none=>false
 | s::r,_=>match P.underlying s.struct with
  | some (.struct fs)=>(match fs[s.index]? with | some f=>!s.deref&&f.offset==0&&aggIs P f.type true&&sizeIs P f.type n&&pathIs n r f.type | none=>false)
  | _=>false
def mthIs (nm:String) (t n f:Nat):Bool :=
 match P.info? t with
 | some i=>(match i.methods.find? (·.name==nm) with
  | some m=>(match m.func with | some (g,false)=>φ f==g&&pathIs P n m.path.toList t | _=>false)
  | none=>false)
 | none=>false
def chkI (o:Oper) (i:I):Bool :=
 match i with
 | .mv d x=>dstIs nt o d&&(match o.op with | .move y | .assign y=>chkA φ y x | _=>false)
 | .pick d c a b=>dstIs nt o d&&(match o.op with | .pick c' a' b'=>chkA φ c' c&&chkA φ a' a&&chkA φ b' b | _=>false)
 | .box d x _ _=>dstIs nt o d&&(match o.op with | .box _ y=>chkA φ y x | _=>false)
 | .new d z=>dstIs nt o d&&(match o.op with | .alloc t=>zeroIs P φ t z | _=>false)
 | .build d z ps=>dstIs nt o d&&(match o.op with
  | .build t qs=>zeroIs P φ t z&&(match P.underlying t with | some (.struct fs)=>chkParts P φ fs qs.toList ps&&fs.all (fun f=>(P.info? f.type).isSome) | some (.array k e)=>(match P.info? e with | some i=>chkParts P φ (arrFs k i.size e) qs.toList ps | none=>false) | _=>false)
  | _=>false)
 | .buildSl d es n z ps _=>dstIs nt o d&&(match o.op with
  | .buildSlice t k qs=>k==n&&decide (n*es≤16777216)&&decide (0<es)&&(match P.underlying t with | some (.slice e)=>zeroIs P φ e z&&z.length==es&&chkElems φ qs.toList ps | _=>false)
  | _=>false)
 | .lit0 d es z=>dstIs nt o d&&(match o.op with
  | .buildSlice t k qs=>k==0&&qs.isEmpty&&decide (0<es)&&(match P.underlying t with | some (.slice e)=>zeroIs P φ e z&&z.length==es | _=>false)
  | _=>false)
 | .ld d x n ag | .ldd d x n ag | .ldz d x n ag=>dstIs nt o d&&(match o.op with | .load t y=>chkA φ y x&&aggIs P t ag&&sizeIs P t n | _=>false)
 | .st x y n fz=>(match o.op with | .store t x' y'=>o.dst==none&&chkA φ x' x&&chkA φ y' y&&sizeIs P t n&&decide (0<n)&&(match x,fz with | .t d,true=>decide (d<nt) | _,b=>!b) | _=>false)
 | .fa d x off n | .fad d x off n=>dstIs nt o d&&(match o.op with
  | .fieldAddr t y k=>chkA φ y x&&decide (0<n)&&(match P.underlying t with | some (.struct fs)=>(match fs[k]? with | some f=>f.offset==off&&sizeIs P f.type n | none=>false) | _=>false)
  | _=>false)
 | .ixs d x j es=>dstIs nt o d&&(match o.op with
  | .indexAddr t y k=>chkA φ y x&&chkA φ k j&&(match P.underlying t with | some (.slice e)=>sizeIs P e es&&decide (0<es) | _=>false)
  | _=>false)
 | .ixa d x j len es=>dstIs nt o d&&(match o.op with
  | .indexAddr t y k=>chkA φ y x&&chkA φ k j&&(match P.underlying t with | some (.array n e)=>n==len&&decide (1<len)&&sizeIs P e es&&decide (0<es) | _=>false)
  | _=>false)
 | .mks d es z n k=>dstIs nt o d&&(match o.op with
  | .makeSlice t n' k'=>chkA φ n' n&&chkA φ k' k&&decide (0<es)&&(match P.underlying t with
   | some (.slice e)=>zeroIs P φ e z&&(match P.info? e with | some i=>i.size==es&&decide (i.bytes≤16777216) | none=>false)
   | _=>false)
  | _=>false)
 | .fld d x off n ag=>dstIs nt o d&&(match o.op with
  | .field t y k=>chkA φ y x&&(match P.underlying t with | some (.struct fs)=>(match fs[k]? with | some f=>f.offset==off&&sizeIs P f.type n&&aggIs P f.type ag | none=>false) | _=>false)
  | _=>false)
 | .nck d x=>dstIs nt o d&&(match o.op with | .nilCheck y=>chkA φ y x | _=>false)
 | .sl3 d x lo hi mx es=>dstIs nt o d&&(match o.op with
  | .slice t y (some lo') (some hi') (some mx')=>chkA φ y x&&chkA φ lo' lo&&chkA φ hi' hi&&chkA φ mx' mx&&(match P.underlying t with | some (.slice e)=>sizeIs P e es | _=>false)
  | _=>false)
 | .mn d x y=>dstIs nt o d&&(match o.op with
  | .call c=>(match c.callee,c.args.toList with
   | .builtin .min,[x',y']=>chkA φ x' x&&chkA φ y' y
   | _,_=>false)
  | _=>false)
 | .mx d x y=>dstIs nt o d&&(match o.op with
  | .call c=>(match c.callee,c.args.toList with
   | .builtin .max,[x',y']=>chkA φ x' x&&chkA φ y' y
   | _,_=>false)
  | _=>false)
 | .mki d t x=>dstIs nt o d&&(match o.op with
  | .makeInterface t' y=>t'==t&&chkA φ y x&&(match P.underlying t with | some (.interface _)=>false | some _=>true | none=>false)
  | _=>false)
 | .inv d nm tbl x xs=>dstMay nt o d&&(match o.op with
  | .call c=>(match c.callee with
   | .invoke y nm'=>nm'==nm&&chkA φ y x&&chkAs φ c.args.toList xs&&tbl.all (fun e=>mthIs P φ nm e.1 e.2.1 e.2.2)
   | _=>false)
  | _=>false)
 | .bad d=>dstMay nt o d
 | .cap d x=>dstIs nt o d&&(match o.op with
  | .call c=>(match c.callee,c.args.toList,c.argTypes.toList with
   | .builtin .cap,[y],[t]=>chkA φ y x&&(match P.underlying t with | some (.slice _)=>true | _=>false)
   | _,_,_=>false)
  | _=>false)
 | .appz d x k es z=>dstIs nt o d&&(match o.op with
  | .call c=>(match c.callee,c.args.toList,c.argTypes.toList with
   | .builtin .append,[x',k'],[t,t']=>chkA φ x' x&&chkA φ k' k&&decide (0<es)&&(match P.underlying t,P.underlying t' with
    | some (.slice e),some (.int _)=>zeroIs P φ e z&&(match P.info? e with | some i=>i.size==es&&decide (i.bytes≤16384) | none=>false)
    | _,_=>false)
   | _,_,_=>false)
  | _=>false)
 | .ovl d f x y es=>dstIs nt o d&&(match o.op with
  | .call c=>(match c.callee with
   | .value (.func g)=>φ f==g&&chkAs φ c.args.toList [x,y]&&(match P.funcs[g]? with
    | some fn => !(fn.name == "runtime.NumGoroutine") && fn.body.isNone && isOverlaps fn && (match fn.params.toList with
     | [t,_]=>(match P.underlying t with | some (.slice e)=>decide (0<es)&&sizeIs P e es | _=>false)
     | _=>false)
    | none=>false)
   | _=>false)
  | _=>false)
 | .clr d x es z=>dstMay nt o d&&(match o.op with
  | .call c=>(match c.callee,c.args.toList,c.argTypes.toList with
   | .builtin .clear,[y],[t]=>chkA φ y x&&(match P.underlying t with | some (.slice e)=>zeroIs P φ e z&&z.length==es&&decide (0<es) | _=>false)
   | _,_,_=>false)
  | _=>false)
 | .copy d x y es=>dstMay nt o d&&(match o.op with
  | .call c=>(match c.callee,c.args.toList,c.argTypes.toList with
   | .builtin .copy,[x',y'],[t,t']=>chkA φ x' x&&chkA φ y' y&&decide (0<es)&&(match P.underlying t,P.underlying t' with
    | some (.slice e),some (.slice _)=>sizeIs P e es
    | _,_=>false)
   | _,_,_=>false)
  | _=>false)
 | .bin d op x y=>dstIs nt o d&&(match o.op with
  | .binOp op' t x' y' _=>op'==op&&chkA φ x' x&&chkA φ y' y&&(match P.underlying t with | some (.int _) | some .string=>true | _=>false)
  | _=>false)
 | .eqv d neg x y ks=>dstIs nt o d&&(match o.op with
  | .binOp op' t x' y' _=>op'==(if neg then .neq else .eql)&&chkA φ x' x&&chkA φ y' y&&(flatIs P t ks||arrIs P t ks)
  | _=>false)
 | .eqb d neg x y=>dstIs nt o d&&(match o.op with
  | .binOp op' t x' y' _=>op'==(if neg then .neq else .eql)&&chkA φ x' x&&chkA φ y' y&&(match P.underlying t with | some .bool=>true | _=>false)
  | _=>false)
 | .isnil d neg x k=>dstIs nt o d&&(match o.op with
  | .binOp op' t x' (.const v) _=>op'==(if neg then .neq else .eql)&&chkA φ x' x&&nilIs P t v k
  | _=>false)
 | .un d op x=>dstIs nt o d&&(match o.op with | .unOp op' _ y=>op'==op&&chkA φ y x | _=>false)
 | .cvi d k x=>dstIs nt o d&&(match o.op with
  | .convert s t y=>chkA φ y x&&(match P.underlying s,P.underlying t with | some (.int _),some (.int k')=>k'==k | _,_=>false)
  | _=>false)
 | .len d x k=>dstIs nt o d&&(match o.op with
  | .call c=>(match c.callee,c.args.toList,c.argTypes.toList with
   | .builtin .len,[y],[t]=>chkA φ y x&&(match P.underlying t,k with | some (.slice _),.sl | some .string,.s | some (.map ..),.mp=>true | _,_=>false)
   | _,_,_=>false)
  | _=>false)
 | .sl d x lo hi es=>dstIs nt o d&&(match o.op with
  | .slice t y lo' hi' none=>chkA φ y x&&chkO φ lo' lo&&chkO φ hi' hi&&(match P.underlying t with | some (.slice e)=>sizeIs P e es | _=>false)
  | _=>false)
 | .cl0 d x es=>dstIs nt o d&&(match o.op with
  | .slice t y (some (.const (.int _ 0))) (some (.const (.int _ 0))) (some (.const (.int _ 0)))=>chkA φ y x&&(match P.underlying t with | some (.slice e)=>sizeIs P e es | _=>false)
  | _=>false)
 | .app d x y es | .apk d x y es=>dstIs nt o d&&(match o.op with
  | .call c=>(match c.callee,c.args.toList,c.argTypes.toList with
   | .builtin .append,[x',y'],[t,t']=>chkA φ x' x&&chkA φ y' y&&decide (0<es)&&(match P.underlying t,P.underlying t' with
    | some (.slice e),some (.slice _)=>(match P.info? e with | some i=>i.size==es&&decide (i.bytes≤16384)&&(match i.zero with | some z=>z.cells.size==i.size&&z.cells.toList.all (·.oneCell') | none=>false) | none=>false)
    | _,_=>false)
   | _,_,_=>false)
  | _=>false)
 | .mkm d=>dstIs nt o d&&(match o.op with | .makeMap _ none=>true | _=>false)
 | .mput m k v ks=>o.dst==none&&(match o.op with
  | .insert t m' k' v' | .mapUpdate t m' k' v'=>chkA φ m' m&&chkA φ k' k&&chkA φ v' v&&(match P.underlying t with | some (.map kt _)=>keyTy P kt ks | _=>false)
  | _=>false)
 | .mget d m k z ok ks=>dstIs nt o d&&(match o.op with
  | .lookup t m' k' ok'=>chkA φ m' m&&chkA φ k' k&&ok'==ok&&(match P.underlying t with
   | some (.map kt et)=>keyTy P kt ks&&(match P.info? et with | some i=>(match i.zero with | some v=>chkVal φ v z | none=>false) | none=>false)
   | _=>false)
  | _=>false)
 | .mdel m k ks=>o.dst==none&&(match o.op with
  | .call c=>(match c.callee,c.args.toList,c.argTypes.toList with
   | .builtin .delete,[m',k'],[t,_]=>chkA φ m' m&&chkA φ k' k&&(match P.underlying t with | some (.map kt _)=>keyTy P kt ks | _=>false)
   | _,_,_=>false)
  | _=>false)
 | .ext d x j=>dstIs nt o d&&(match o.op with | .extract y k=>k==j&&chkA φ y x | _=>false)
 | .mkf d f a b=>dstIs nt o d&&(match o.op with | .makeFunc (.func g) a' b'=>φ f==g&&chkAs φ a'.toList a&&chkAs φ b'.toList b | _=>false)
 | .call d f xs | .calls d f xs=>dstMay nt o d&&(match o.op with
  | .call c=>(match c.callee with | .value (.func g)=>φ f==g&&chkAs φ c.args.toList xs | _=>false)
  | _=>false)
 | .callz d f xs=>dstIs nt o d&&(match o.op with
  | .call c=>(match c.callee with | .value (.func g)=>φ f==g&&chkAs φ c.args.toList xs | _=>false)
  | _=>false)
 | .callk d f xs | .callr d f xs=>dstMay nt o d&&(match o.op with
  | .call c=>(match c.callee with | .value (.func g)=>φ f==g&&chkAs φ c.args.toList xs | _=>false)
  | _=>false)
 | .callvr d x xs=>dstMay nt o d&&(match o.op with
  | .call c=>(match c.callee with | .value y=>chkA φ y x&&chkAs φ c.args.toList xs | _=>false)
  | _=>false)
 | .cally d x xs=>dstMay nt o d&&(match o.op with
  | .call c=>(match c.callee with | .value y=>chkA φ y x&&chkAs φ c.args.toList xs | _=>false)
  | _=>false)
 | .appf d x y es=>dstIs nt o d&&(match o.op with
  | .call c=>(match c.callee,c.args.toList,c.argTypes.toList with
   | .builtin .append,[x',y'],[t,t']=>chkA φ x' x&&chkA φ y' y&&decide (0<es)&&(match P.underlying t,P.underlying t' with
    | some (.slice e),some (.slice _)=>(match P.info? e with | some i=>i.size==es&&decide (i.bytes≤16384)&&(match i.zero with | some z=>z.cells.size==i.size&&z.cells.toList.all (·.oneCell') | none=>false) | none=>false)
    | _,_=>false)
   | _,_,_=>false)
  | _=>false)
 | .callv d x xs=>dstMay nt o d&&(match o.op with
  | .call c=>(match c.callee with | .value y=>chkA φ y x&&chkAs φ c.args.toList xs | _=>false)
  | _=>false)
 | _=>false
end
end Go.VS
namespace Go.VS
section
variable {P:Program} {φ:Phi}
structure DefOk (dB:Nat) (h:List O) (g:Gh) (ds:List Deferred) (w:World):Prop where
 at_:∀d∈ds,∃D,d={ target:=.collected D,args:=#[] }∧dB≤D∧w.heap[D]?=some (.deferred (some []))∧∀n,(hget h n).live=true→g.β n≠D
 nodup:ds.Nodup
 le:dB≤w.heap.size
theorem heap_lt {w:World} {D:Nat} {o:Obj} (h:w.heap[D]?=some o):D<w.heap.size:=by
 rcases Nat.lt_or_ge D w.heap.size with hlt | hge
 ·exact hlt
 ·simp [Array.getElem?_eq_none hge] at h
theorem DefOk.nil {dB:Nat} {h:List O} {g:Gh} {w:World} (hl:dB≤w.heap.size):DefOk dB h g [] w:=⟨by simp,by simp,hl⟩
theorem DefOk.frame {dB m:Nat} {h h':List O} {g g':Gh} {ds:List Deferred} {w w':World} (hd:DefOk dB h g ds w) (hf:Frame m h g w h' g' w'):DefOk dB h' g' ds w' where
 at_ d hm:=by
  obtain ⟨D,h1,h2,h3,h4⟩:=hd.at_ d hm
  have hlt:=heap_lt h3
  refine ⟨D,h1,h2,by rw [(hf.keep D hlt h4).1];exact h3,fun n hn he=>?_⟩
  rcases hf.lives n hn with ⟨k,hk,hb⟩ | hs
  ·exact h4 k hk (hb.trans he)
  ·omega
 nodup:=hd.nodup
 le:=Nat.le_trans hd.le hf.size
theorem DefOk.turn {dB:Nat} {h:List O} {g:Gh} {ds:List Deferred} {w w':World} {n:Nat} {x:O} {I':Nat→Nat} (hd:DefOk dB h g ds w) (hl:(hget h n).live=true) (ht:Turned w w' (g.β n)) :
  DefOk dB (h.set n x) (g.setI I') ds w' where
 at_ d hm:=by
  obtain ⟨D,h1,h2,h3,h4⟩:=hd.at_ d hm
  refine ⟨D,h1,h2,by rw [ht.same D (fun e=>h4 n hl e.symm)];exact h3,fun k hk=>?_⟩
  by_cases hkn:k=n
  ·subst hkn;exact h4 k hl
  ·rw [hget_set_other hkn] at hk;exact h4 k hk
 nodup:=hd.nodup
 le:=by rw [ht.size];exact hd.le
theorem DefOk.reuse {dB:Nat} {h:List O} {g:Gh} {ds:List Deferred} {w w':World} {n o:Nat} {x:O} {I':Nat→Nat} (hd:DefOk dB h g ds w) (hl:(hget h n).live=true) (h1:DefOk dB (h.set n .dead) (g.setI I') ds w') :
  DefOk dB (h.set n .dead++[x]) ((g.setI I').add (h.set n .dead).length (g.β n) o I') ds w' where
 at_ d hm:=by
  obtain ⟨D,e1,e2,e3,e4⟩:=h1.at_ d hm
  obtain ⟨D',k1,_,_,k4⟩:=hd.at_ d hm
  have hD:D=D':=by rw [e1] at k1;simpa using k1
  subst hD
  refine ⟨D,e1,e2,e3,fun k hk=>?_⟩
  simp only [Gh.add]
  split
  ·exact k4 n hl
  ·rename_i hne
   have hlt:k<(h.set n .dead).length:=by
    rcases Nat.lt_or_ge (h.set n .dead).length k with h5 | h5
    ·rw [hget_append_out h5] at hk;simp [O.live] at hk
    ·omega
   rw [hget_append_old hlt] at hk
   exact e4 k hk
 nodup:=hd.nodup
 le:=h1.le
structure SRel (φ:Phi) (nt m dB:Nat) (s:St) (g:Gh) (a:Act) (w:World):Prop where
 env:∀k,relV φ s.heap g w (envGet s.env k) (a.tmps.getD k undef)
 heap:HRel φ s.heap g w
 size:nt≤a.tmps.size
 defers:DefOk dB s.heap g a.defers w
 len:m≤s.heap.length
def After (φ:Phi) (nt m dB:Nat) (s:St) (g:Gh) (w:World) (s':St) (o:Oper) (a:Act) (K:Act→World→Prop):Prop :=
 ∀g' v' w',SRel φ nt m dB s' g' (a.put o.dst v') w'→Frame m s.heap g w s'.heap g' w'→K (a.put o.dst v') w'
variable {nt m dB:Nat} {s:St} {g:Gh} {a:Act} {w:World} {K:Act→World→Prop} {Q:Exit→Act→World→Prop} {o:Oper}
theorem wp_val {v':Value} {w':World} (hrun:(execOp a.eval o).run P w = .ok (.value v') w') (hk:K (a.put o.dst v') w'):o.wp P a w K Q:=by
 unfold Oper.wp
 rw [hrun]
 exact hk
theorem wp_skip' {w':World} (hrun:(execOp a.eval o).run P w = .ok .skip w') (hk:K (a.put o.dst undef) w'):o.wp P a w K Q:=by
 unfold Oper.wp
 rw [hrun]
 exact hk
theorem chkLit_rel {I:Nat→Nat} {v:Value} {x:D} (h:chkLit φ v x=true):relD φ I w x v∧v.oneCell'=true:=by
 unfold chkLit at h
 split at h
 case h_1=>simp at h;subst h;exact ⟨by simp [relD],rfl⟩
 case h_2=>simp at h;obtain ⟨rfl,rfl⟩:=h;exact ⟨by simp [relD],rfl⟩
 case h_3=>simp at h;exact ⟨by simp only [relD];exact ⟨_,rfl,h⟩,rfl⟩
 case h_4=>exact ⟨by simp [relD],rfl⟩
 case h_5=>exact ⟨by simp [relD],rfl⟩
 case h_6=>exact ⟨by simp [relD],rfl⟩
 case h_7=>exact ⟨by simp [relD],rfl⟩
 case h_8=>exact ⟨by simp [relD],rfl⟩
 case h_9 =>
  rename_i f A B gg
  simp at h
  obtain ⟨⟨h1,h2⟩,h3⟩:=h
  subst h2;subst h3
  exact ⟨by simp only [relD];exact ⟨#[],#[],by rw [h1],by simp [relDs],by simp [relDs]⟩,rfl⟩
 case h_10=>simp at h
theorem chkLits_rel {I:Nat→Nat}:∀{vs:List Value} {xs:List D},chkLits φ vs xs=true→relDs φ I w xs vs∧∀v∈vs,v.oneCell'=true
 | [],[],_=>by simp [relDs]
 | v::vs,x::xs,h=>by
  simp only [chkLits,Bool.and_eq_true] at h
  have h1:=chkLit_rel (w:=w) (I:=I) h.1
  have h2:=chkLits_rel (I:=I) h.2
  exact ⟨by simp only [relDs];exact ⟨h1.1,h2.1⟩,by simpa using ⟨h1.2,h2.2⟩⟩
 | [],_::_,h=>by simp [chkLits] at h
 | _::_,[],h=>by simp [chkLits] at h
theorem chkVal_rel {I:Nat→Nat} {v:Value} {x:D} (h:chkVal φ v x=true):relD φ I w x v:=by
 unfold chkVal at h
 split at h
 ·have:=chkLits_rel (w:=w) (I:=I) h
  simp only [relD]
  exact ⟨_,rfl,this.1,this.2⟩
 ·exact (chkLit_rel h).1
theorem chkA_rel (hs:SRel φ nt m dB s g a w) {x:Operand} {y:A} (h:chkA φ x y=true):relV φ s.heap g w (s.get y) (a.eval x):=by
 unfold chkA at h
 split at h
 ·simp at h;subst h;exact hs.env _
 ·simp only [St.get,relV];exact chkVal_rel h
 ·simp at h
  simp only [St.get,relV,relD,Act.eval]
  exact ⟨#[],#[],by rw [h],by simp [relDs],by simp [relDs]⟩
 ·simp at h
theorem chkAs_rel (hs:SRel φ nt m dB s g a w):∀{xs:List Operand} {ys:List A},chkAs φ xs ys=true→relVs φ s.heap g w (ys.map s.get) (xs.map a.eval)
 | [],[],_=>by simp [relVs]
 | x::xs,y::ys,h=>by
  simp only [chkAs,Bool.and_eq_true] at h
  simp only [List.map_cons,relVs]
  exact ⟨chkA_rel hs h.1,chkAs_rel hs h.2⟩
 | [],_::_,h=>by simp [chkAs] at h
 | _::_,[],h=>by simp [chkAs] at h
theorem SRel.putV (hs:SRel φ nt m dB s g a w) {d:Nat} (hd:d<nt) {v:V} {v':Value} (hv:relV φ s.heap g w v v') {ok:Bool} :
  SRel φ nt m dB ⟨(d,v)::s.env,s.heap,ok⟩ g (a.put (some d) v') w where
 env k:=by
  simp only [envGet,Act.put]
  by_cases hk:d=k
  ·subst hk
   simp [Nat.lt_of_lt_of_le hd hs.size,hv]
  ·rw [if_neg hk]
   have:=hs.env k
   simpa [Array.getElem?_setIfInBounds_ne hk] using this
 heap:=hs.heap
 size:=by simp only [Act.put,Array.size_setIfInBounds];exact hs.size
 defers:=hs.defers
 len:=hs.len
theorem SRel.grew (hs:SRel φ nt m dB s g a w) {w':World} {I':Nat→Nat} (hg:Grew w w') (hI:∀b,b<w.heap.size→I' b=g.I b)
  (hnew:∀b,w'.heap.size≤b→I' b=0):SRel φ nt m dB s (g.setI I') a w' where
 env k:=relV_le (hle_grew hs.heap hg hI) (hs.env k)
 heap:=hrel_grew hs.heap hg hI hnew
 size:=hs.size
 defers:=hs.defers.frame (frame_grew m hs.heap hg hI)
 len:=hs.len
theorem dstIs_spec {d:Nat} (h:dstIs nt o d=true):o.dst=some d∧d<nt:=by
 simpa [dstIs] using h
theorem putO_spec {d:Nat} {ov:Option V} (h:(s.putO d ov).ok=true):∃v,ov=some v:=by
 cases ov
 ·simp [St.putO,St.fail] at h
 ·exact ⟨_,rfl⟩
theorem sim_pure (hs:SRel φ nt m dB s g a w) {d:Nat} (hd:dstIs nt o d=true) {v:V} {v':Value} {ok:Bool}
  (hrun:(execOp a.eval o).run P w = .ok (.value v') w) (hv:relV φ s.heap g w v v')
  (hK:After φ nt m dB s g w ⟨(d,v)::s.env,s.heap,ok⟩ o a K):o.wp P a w K Q:=by
 obtain ⟨h1,h2⟩:=dstIs_spec hd
 refine wp_val hrun (hK g v' w ?_ (Frame.refl _ _ _ _))
 rw [h1]
 exact hs.putV h2 hv
theorem sim_putO (hs:SRel φ nt m dB s g a w) {d:Nat} (hd:dstIs nt o d=true) {ov:Option V} (hok:(s.putO d ov).ok=true)
  (hop:∀v,ov=some v→∃v',(execOp a.eval o).run P w = .ok (.value v') w∧relV φ s.heap g w v v')
  (hK:After φ nt m dB s g w (s.putO d ov) o a K):o.wp P a w K Q:=by
 obtain ⟨v,rfl⟩:=putO_spec hok
 obtain ⟨v',hrun,hv⟩:=hop v rfl
 exact sim_pure hs hd hrun hv hK
theorem sim_grew (hs:SRel φ nt m dB s g a w) {d:Nat} (hd:dstIs nt o d=true) {v:V} {v':Value} {w':World} {I':Nat→Nat} {ok:Bool}
  (hrun:(execOp a.eval o).run P w = .ok (.value v') w') (hg:Grew w w') (hI:∀b,b<w.heap.size→I' b=g.I b) (hnew:∀b,w'.heap.size≤b→I' b=0)
  (hv:relV φ s.heap (g.setI I') w' v v') (hK:After φ nt m dB s g w ⟨(d,v)::s.env,s.heap,ok⟩ o a K):o.wp P a w K Q:=by
 obtain ⟨h1,h2⟩:=dstIs_spec hd
 refine wp_val hrun (hK (g.setI I') v' w' ?_ (frame_grew m hs.heap hg hI))
 rw [h1]
 exact (hs.grew hg hI hnew).putV h2 hv
theorem relD_bool {I:Nat→Nat} {v:Value} {x:Bool} (h:relD φ I w (.b x) v):v = .bool x:=by simpa [relD] using h
theorem relD_int {I:Nat→Nat} {v:Value} {k:IntKind} {n:Int} (h:relD φ I w (.i k n) v):v = .int k n:=by simpa [relD] using h
theorem sim_mv (hs:SRel φ nt m dB s g a w) {rec:Rec} {d:Nat} {x:A} (hc:chkI P φ nt o (.mv d x)=true)
  (hK:After φ nt m dB s g w (evI rec (.mv d x) s) o a K):o.wp P a w K Q:=by
 simp only [chkI,Bool.and_eq_true] at hc
 obtain ⟨hd,h⟩:=hc
 split at h
 ·rename_i y ho
  exact sim_pure hs hd (v':=a.eval y) (by simp [execOp,ho]) (chkA_rel hs h) hK
 ·rename_i y ho
  exact sim_pure hs hd (v':=a.eval y) (by simp [execOp,ho]) (chkA_rel hs h) hK
 ·simp at h
theorem sim_pick (hs:SRel φ nt m dB s g a w) {rec:Rec} {d:Nat} {c x y:A} (hc:chkI P φ nt o (.pick d c x y)=true) (hok:(evI rec (.pick d c x y) s).ok=true)
  (hK:After φ nt m dB s g w (evI rec (.pick d c x y) s) o a K):o.wp P a w K Q:=by
 simp only [chkI,Bool.and_eq_true] at hc
 obtain ⟨hd,h⟩:=hc
 split at h
 ·rename_i c' x' y' ho
  simp only [Bool.and_eq_true] at h
  have rc:=chkA_rel hs h.1.1
  simp only [evI] at hok hK
  split at hK
  ·rename_i b hb
   rw [hb] at rc
   have hb':=relD_bool (by simpa only [relV] using rc)
   refine sim_pure hs hd (v':=if b then a.eval x' else a.eval y') (by simp [execOp,ho,hb',asBool]) ?_ hK
   cases b
   ·exact chkA_rel hs h.2
   ·exact chkA_rel hs h.1.2
  ·rename_i hne
   split at hok
   ·rename_i b hb;exact absurd hb (hne b)
   ·simp [St.fail] at hok
 ·simp at h
theorem arith_run {op:BinOp} {k:IntKind} {x y:Int} {v:V} {t:TypeId} (h:binV op (.d (.i k x)) (.d (.i k y))=some v) :
  ∃v',(binOp op t (.int k x) (.int k y)).run P w = .ok v' w∧∀(hh:List O) (g:Gh),relV φ hh g w v v':=by
 cases op<;>simp [binV,arith] at h<;>try (subst h;refine ⟨_,by simp [binOp,Op.intArith,Op.intCmp];rfl,fun _ _=>by simp [relV,relD]⟩)
 case quo=>obtain ⟨h0,rfl⟩:=h;exact ⟨_,by simp [binOp,Op.intDiv,h0];rfl,fun _ _=>by simp [relV,relD]⟩
 case rem=>obtain ⟨h0,rfl⟩:=h;exact ⟨_,by simp [binOp,Op.intDiv,h0];rfl,fun _ _=>by simp [relV,relD]⟩
 case shl=>obtain ⟨h0,rfl⟩:=h;exact ⟨_,by simp [binOp,Op.shift,Int.not_lt.2 h0];rfl,fun _ _=>by simp [relV,relD]⟩
 case shr=>obtain ⟨h0,rfl⟩:=h;exact ⟨_,by simp [binOp,Op.shift,Int.not_lt.2 h0];rfl,fun _ _=>by simp [relV,relD]⟩
end
end Go.VS
namespace Go.VS
section
variable {P:Program} {φ:Phi}
variable {nt m dB:Nat} {s:St} {g:Gh} {a:Act} {w:World} {K:Act→World→Prop} {Q:Exit→Act→World→Prop} {o:Oper}
theorem eqGuard_lit {op:BinOp} {t:TypeId} {x y:Operand} {u v:Value} (hu:u≠.nilIface) (hv:∀A,u≠.agg A):(eqGuard op t x y u v).run P w = .ok () w:=by
 cases u<;>first | exact absurd rfl hu | exact absurd rfl (hv _) | (cases op<;>rfl)
theorem sim_bin (hs:SRel φ nt m dB s g a w) {rec:Rec} {d:Nat} {op:BinOp} {x y:A} (hc:chkI P φ nt o (.bin d op x y)=true) (hok:(evI rec (.bin d op x y) s).ok=true)
  (hK:After φ nt m dB s g w (evI rec (.bin d op x y) s) o a K):o.wp P a w K Q:=by
 simp only [chkI,Bool.and_eq_true] at hc
 obtain ⟨hd,h⟩:=hc
 split at h
 ·rename_i op' t x' y' ty ho
  simp only [Bool.and_eq_true,beq_iff_eq] at h
  obtain ⟨⟨⟨rfl,hx⟩,hy⟩,ht⟩:=h
  have rx:=chkA_rel hs hx
  have ry:=chkA_rel hs hy
  refine sim_putO hs hd hok (fun v hv=>?_) hK
  have key:∀{u u':Value} {v':Value},a.eval x'=u→a.eval y'=u'→u≠.nilIface→(∀A,u≠.agg A)→(binOp op' t u u').run P w = .ok v' w→(execOp a.eval o).run P w = .ok (.value v') w:=by
   intro u u' v' h1 h2 h3 h4 h5
   simp [execOp,ho,h1,h2,eqGuard_lit (P:=P) (w:=w) (op:=op') (t:=t) (x:=x') (y:=y') (v:=u') h3 h4,h5]
  unfold binV at hv
  split at hv
  ·
   rename_i k p k' q hp hq
   rw [hp] at rx;rw [hq] at ry
   have ex:=relD_int (by simpa only [relV] using rx)
   have ey:=relD_int (by simpa only [relV] using ry)
   by_cases hkk:k=k'
   ·subst hkk
    obtain ⟨v',hr,hrel⟩:=arith_run (P:=P) (w:=w) (φ:=φ) (op:=op') (k:=k) (x:=p) (y:=q) (v:=v) (t:=t) (by unfold binV;exact hv)
    exact ⟨v',key ex ey (by simp) (by simp) hr,hrel _ _⟩
   ·cases op'<;>simp [hkk] at hv
    case shl=>obtain ⟨h0,rfl⟩:=hv;exact ⟨_,key ex ey (by simp) (by simp) (by simp [binOp,Op.shift,Int.not_lt.2 h0];rfl),by simp [relV,relD]⟩
    case shr=>obtain ⟨h0,rfl⟩:=hv;exact ⟨_,key ex ey (by simp) (by simp) (by simp [binOp,Op.shift,Int.not_lt.2 h0];rfl),by simp [relV,relD]⟩
  ·
   rename_i p q hp hq
   rw [hp] at rx;rw [hq] at ry
   simp only [relV,relD] at rx ry
   obtain ⟨bx,ex,hbx⟩:=rx
   obtain ⟨by',ey,hby⟩:=ry
   cases op'<;>simp at hv<;>subst hv
   ·exact ⟨_,key ex ey (by simp) (by simp) (by simp [binOp,Op.stringOp,hbx,hby];rfl),by simp [relV,relD]⟩
   ·exact ⟨_,key ex ey (by simp) (by simp) (by simp [binOp,Op.stringOp,hbx,hby];rfl),by simp [relV,relD]⟩
   ·exact ⟨_,key ex ey (by simp) (by simp) (by simp [binOp,Op.stringOp,hbx,hby];rfl),by simp [relV,relD]⟩
  ·simp at hv
 ·simp at h
theorem sim_un (hs:SRel φ nt m dB s g a w) {rec:Rec} {d:Nat} {op:UnOp} {x:A} (hc:chkI P φ nt o (.un d op x)=true) (hok:(evI rec (.un d op x) s).ok=true)
  (hK:After φ nt m dB s g w (evI rec (.un d op x) s) o a K):o.wp P a w K Q:=by
 simp only [chkI,Bool.and_eq_true] at hc
 obtain ⟨hd,h⟩:=hc
 split at h
 ·rename_i op' t y ho
  simp only [Bool.and_eq_true,beq_iff_eq] at h
  obtain ⟨rfl,hx⟩:=h
  have rx:=chkA_rel hs hx
  refine sim_putO hs hd hok (fun v hv=>?_) hK
  unfold unV at hv
  split at hv
  ·rename_i b hb
   rw [hb] at rx
   have ex:=relD_bool (by simpa only [relV] using rx)
   cases op'<;>simp at hv
   subst hv
   exact ⟨.bool (!b),by simp [execOp,ho,ex,Op.unary],by simp [relV,relD]⟩
  ·rename_i k n hb
   rw [hb] at rx
   have ex:=relD_int (by simpa only [relV] using rx)
   cases op'<;>simp at hv
   subst hv
   exact ⟨.int k (k.wrap (0 - n)),by simp [execOp,ho,ex,Op.unary,Op.intArith],by simp [relV,relD]⟩
  ·simp at hv
 ·simp at h
theorem sim_cvi (hs:SRel φ nt m dB s g a w) {rec:Rec} {d:Nat} {k:IntKind} {x:A} (hc:chkI P φ nt o (.cvi d k x)=true) (hok:(evI rec (.cvi d k x) s).ok=true)
  (hK:After φ nt m dB s g w (evI rec (.cvi d k x) s) o a K):o.wp P a w K Q:=by
 simp only [chkI,Bool.and_eq_true] at hc
 obtain ⟨hd,h⟩:=hc
 split at h
 ·rename_i sc t y ho
  simp only [Bool.and_eq_true] at h
  have rx:=chkA_rel hs h.1
  refine sim_putO hs hd hok (fun v hv=>?_) hK
  unfold cvi at hv
  split at hv
  ·rename_i k' n hb
   rw [hb] at rx
   have ex:=relD_int (by simpa only [relV] using rx)
   simp at hv
   subst hv
   have h2:=h.2
   split at h2
   ·rename_i ks kt hks hkt
    simp at h2
    subst h2
    exact ⟨.int kt (kt.wrap n),by simp [execOp,ho,ex,convert,underlying,hks,hkt,Conv.intToInt],by simp [relV,relD]⟩
   ·simp at h2
  ·simp at hv
 ·simp at h
theorem sim_ext (hs:SRel φ nt m dB s g a w) {rec:Rec} {d j:Nat} {x:A} (hc:chkI P φ nt o (.ext d x j)=true) (hok:(evI rec (.ext d x j) s).ok=true)
  (hK:After φ nt m dB s g w (evI rec (.ext d x j) s) o a K):o.wp P a w K Q:=by
 simp only [chkI,Bool.and_eq_true] at hc
 obtain ⟨hd,h⟩:=hc
 split at h
 ·rename_i y k ho
  simp only [Bool.and_eq_true,beq_iff_eq] at h
  obtain ⟨rfl,hx⟩:=h
  have rx:=chkA_rel hs hx
  refine sim_putO hs hd hok (fun v hv=>?_) hK
  unfold extV at hv
  split at hv
  ·rename_i vs hb
   rw [hb] at rx
   simp only [relV] at rx
   obtain ⟨A,ex,hr⟩:=rx
   obtain ⟨v',h1,h2⟩:=relVs_get hr hv
   exact ⟨v',by simp only [execOp,ho,ex,Instr.extract];simp at h1;simp [h1],h2⟩
  ·simp at hv
 ·simp at h
theorem sim_mkf (hs:SRel φ nt m dB s g a w) {rec:Rec} {d f:Nat} {x y:List A} (hc:chkI P φ nt o (.mkf d f x y)=true)
  (hK:After φ nt m dB s g w (evI rec (.mkf d f x y) s) o a K):o.wp P a w K Q:=by
 simp only [chkI,Bool.and_eq_true] at hc
 obtain ⟨hd,h⟩:=hc
 split at h
 ·rename_i ff x' y' ho
  simp only [Bool.and_eq_true,beq_iff_eq] at h
  obtain ⟨⟨rfl,hx⟩,hy⟩:=h
  have rx:=chkAs_rel hs hx
  have ry:=chkAs_rel hs hy
  have hrun:(execOp a.eval o).run P w = .ok (.value (.func (.func (φ f)) (x'.map a.eval) (y'.map a.eval))) w:=by simp [execOp,ho,Instr.makeFunc]
  simp only [evI] at hK
  split at hK
  ·rename_i p q hp hq
   exact sim_pure hs hd hrun (by simp only [relV,relD];exact ⟨_,_,rfl,by simpa using relVs_D hp rx,by simpa using relVs_D hq ry⟩) hK
  ·exact sim_pure hs hd hrun (by simp only [relV];exact ⟨_,_,rfl,by simpa using rx,by simpa using ry⟩) hK
 ·simp at h
theorem run_isAgg {t:TypeId} {ag:Bool} (h:aggIs P t ag=true):(isAgg t).run P w = .ok ag w:=by
 unfold aggIs at h
 split at h
 ·rename_i hu;subst h;simp [isAgg,underlying,hu]
 ·rename_i hu;subst h;simp [isAgg,underlying,hu]
 ·rename_i dd h1 h2 hu
  simp at h;subst h
  cases dd<;>simp [isAgg,underlying,hu]<;>first | exact absurd rfl (h1 _) | exact absurd rfl (h2 _ _)
 ·simp at h
theorem run_size {t:TypeId} {n:Nat} (h:sizeIs P t n=true):(sizeOf t).run P w = .ok n w:=by
 unfold sizeIs at h
 cases hi:P.info? t with
 | none=>simp [hi] at h
 | some i=>simp [hi] at h;simp [sizeOf,typeInfo,hi,h]
theorem addr_add (b o j:Nat):(⟨b,o,none⟩:Addr).add j=⟨b,o+j,none⟩:=by unfold Addr.add;split<;>simp_all
theorem run_loadAt {t:TypeId} {n:Nat} {ag:Bool} (hag:aggIs P t ag=true) (hn:sizeIs P t n=true) {b off:Nat} {vs:List Value}
  (hc:∀(j:Nat) (v:Value),vs[j]?=some v→w.cell? ⟨b,off+j,none⟩=some v) {v':Value}
  (hv:if ag then n≤vs.length∧v' = .agg (vs.take n).toArray else vs.head?=some v') :
  (Instr.loadAt t (.pointer (some ⟨b,off,none⟩))).run P w = .ok v' w:=by
 have h1:=run_isAgg (P:=P) (w:=w) hag
 have h2:=run_size (P:=P) (w:=w) hn
 cases ag
 ·simp only [Bool.false_eq_true,if_false] at hv
  have:=hc 0 v' (by simpa [List.head?_eq_getElem?] using hv)
  simp only [Nat.add_zero] at this
  simp [Instr.loadAt,Instr.sureAddr,loadVar,h1,this]
 ·simp only [if_true] at hv
  have hl:=run_loadCells_list (P:=P) w ⟨b,off,none⟩ (vs.take n) (fun j v hj=>by
   rw [addr_add]
   exact hc j v (by rw [List.getElem?_take] at hj;split at hj<;>simp_all))
  have hlen:(vs.take n).length=n:=by simp;omega
  rw [hlen] at hl
  simp [Instr.loadAt,Instr.sureAddr,loadVar,h1,h2,hl,hv.2]
theorem relDs_take {I:Nat→Nat} {cs:List D} {vs:List Value} (h:relDs φ I w cs vs) (n:Nat):relDs φ I w (cs.take n) (vs.take n):=by
 induction cs generalizing vs n with
 | nil=>cases vs<;>simp_all [relDs]
 | cons c cs ih=>cases vs<;>cases n<;>simp_all [relDs]
theorem packD_rel {h:List O} {I:Gh} {n:Nat} {ag:Bool} {cs:List D} {vs:List Value} (hr:relDs φ I.I w cs vs) (h1:∀v∈vs,v.oneCell'=true) {v:V} (hp:packD n ag cs=some v) :
  ∃v',(if ag then n≤vs.length∧v' = .agg (vs.take n).toArray else vs.head?=some v')∧relV φ h I w v v':=by
 have hlen:=relDs_length hr
 cases ag
 ·simp only [packD,Bool.false_eq_true,if_false] at hp ⊢
  cases cs with
  | nil=>simp at hp
  | cons c cs =>
   cases vs with
   | nil=>simp [relDs] at hr
   | cons u us =>
    simp at hp
    subst hp
    simp only [relDs] at hr
    exact ⟨u,rfl,by simpa only [relV] using hr.1⟩
 ·simp only [packD,if_true] at hp ⊢
  split at hp
  ·rename_i hn
   simp at hp
   subst hp
   refine ⟨_,⟨by omega,rfl⟩,?_⟩
   simp only [relV,relD]
   exact ⟨_,rfl,by simpa using relDs_take hr n,fun x hx=>h1 x (List.mem_of_mem_take (by simpa using hx))⟩
  ·simp at hp
theorem pack_rel {h:List O} {g:Gh} {n:Nat} {ag:Bool} {cs:List V} {vs:List Value} (hr:relVs φ h g w cs vs) (h1:∀v∈vs,v.oneCell'=true) {v:V} (hp:pack n ag cs=some v) :
  ∃v',(if ag then n≤vs.length∧v' = .agg (vs.take n).toArray else vs.head?=some v')∧relV φ h g w v v':=by
 have hlen:=relVs_length hr
 cases ag
 ·simp only [pack,Bool.false_eq_true,if_false] at hp ⊢
  cases cs with
  | nil=>simp at hp
  | cons c cs =>
   cases vs with
   | nil=>simp [relVs] at hr
   | cons u us =>
    simp at hp
    subst hp
    simp only [relVs] at hr
    exact ⟨u,rfl,hr.1⟩
 ·simp only [pack,if_true] at hp ⊢
  split at hp
  ·rename_i hn
   simp at hp
   subst hp
   refine ⟨_,⟨by omega,rfl⟩,?_⟩
   have ht:=relVs_take hr n
   have h1':∀x∈(vs.take n).toArray.toList,x.oneCell'=true:=fun x hx=>h1 x (List.mem_of_mem_take (by simpa using hx))
   unfold mkAg
   split
   ·rename_i ds hds
    simp only [relV,relD]
    exact ⟨_,rfl,by simpa using relVs_D hds ht,h1'⟩
   ·simp only [relV]
    exact ⟨_,rfl,by simpa using ht,h1'⟩
  ·simp at hp
theorem relRowsV_vals {h:List O} {g:Gh} {b es o:Nat} {rows:List (List V)} (hr:relRowsV φ h g w b es o rows) {r:Nat} {row:List V} (hrow:rows[r]?=some row) :
  ∃vs:List Value,relVs φ h g w row vs∧(∀(j:Nat) (v:Value),vs[j]?=some v→w.cell? ⟨b,o+r*es+j,none⟩=some v)∧∀v∈vs,v.oneCell'=true:=by
 obtain ⟨_,h2⟩:=hr r row hrow
 have key:∀(cs:List V) (k:Nat),(∀(j:Nat) (c:V),cs[j]?=some c→∃x,w.cell? ⟨b,o+r*es+(k+j),none⟩=some x∧x.oneCell'=true∧relV φ h g w c x) →
   ∃vs:List Value,relVs φ h g w cs vs∧(∀(j:Nat) (v:Value),vs[j]?=some v→w.cell? ⟨b,o+r*es+(k+j),none⟩=some v)∧∀v∈vs,v.oneCell'=true:=by
  intro cs
  induction cs with
  | nil=>intro k _;exact ⟨[],by simp [relVs],by simp,by simp⟩
  | cons c cs ih =>
   intro k hk
   obtain ⟨x,hx,h1,hd⟩:=hk 0 c rfl
   obtain ⟨vs,hv,hc,ho⟩:=ih (k+1) (fun j c hj=>by
    have:=hk (j+1) c (by simpa using hj)
    rwa [show k+(j+1)=k+1+j from by omega] at this)
   refine ⟨x::vs,by simp only [relVs];exact ⟨hd,hv⟩,fun j v hj=>?_,by simpa using ⟨h1,ho⟩⟩
   cases j with
   | zero=>simp at hj;subst hj;simpa using hx
   | succ j =>
    have:=hc j v (by simpa using hj)
    rwa [show k+1+j=k+(j+1) from by omega] at this
 have:=key row 0 (fun j c hj=>by simpa using h2 j c hj)
 simpa using this
theorem relDs_drop {I:Nat→Nat} {cs:List D} {vs:List Value} (h:relDs φ I w cs vs) (n:Nat):relDs φ I w (cs.drop n) (vs.drop n):=by
 induction cs generalizing vs n with
 | nil=>cases vs<;>simp_all [relDs]
 | cons c cs ih=>cases vs<;>cases n<;>simp_all [relDs]
theorem sim_ld (hs:SRel φ nt m dB s g a w) {rec:Rec} {d n:Nat} {ag:Bool} {x:A} (hc:chkI P φ nt o (.ld d x n ag)=true) (hok:(evI rec (.ld d x n ag) s).ok=true)
  (hK:After φ nt m dB s g w (evI rec (.ld d x n ag) s) o a K):o.wp P a w K Q:=by
 simp only [chkI,Bool.and_eq_true] at hc
 obtain ⟨hd,h⟩:=hc
 split at h
 ·rename_i t y ho
  simp only [Bool.and_eq_true] at h
  obtain ⟨⟨hx,hag⟩,hn⟩:=h
  have rx:=chkA_rel hs hx
  refine sim_putO hs hd hok (fun v hv=>?_) hK
  have fin:∀{b off:Nat} {vs:List Value} {v':Value},a.eval y = .pointer (some ⟨b,off,none⟩)→(∀(j:Nat) (u:Value),vs[j]?=some u→w.cell? ⟨b,off+j,none⟩=some u) →
    (if ag then n≤vs.length∧v' = .agg (vs.take n).toArray else vs.head?=some v')→(execOp a.eval o).run P w = .ok (.value v') w:=by
   intro b off vs v' he hcells hv'
   have:=run_loadAt (P:=P) (w:=w) hag hn hcells hv'
   simp [execOp,ho,he,this]
  unfold ldV at hv
  split at hv
  ·rename_i cs hb
   rw [hb] at rx
   simp only [relV,relD] at rx
   obtain ⟨b,off,he,hI,hcs⟩:=rx
   obtain ⟨vs,hvs,hcells,h1⟩:=relCells_vals hcs
   obtain ⟨v',h2,h3⟩:=packD_rel (h:=s.heap) hvs h1 hv
   exact ⟨v',fin he hcells h2,h3⟩
  ·rename_i cs hb
   rw [hb] at rx
   simp only [relV] at rx
   obtain ⟨b,off,us,he,hI,hcs,hcells⟩:=rx
   obtain ⟨v',h2,h3⟩:=pack_rel hcs (fun v hv=>let ⟨j,hj,hh⟩:=List.getElem_of_mem hv;(hcells j v (by simp [hj,hh])).2) hv
   exact ⟨v',fin he (fun j u hj=>(hcells j u hj).1) h2,h3⟩
  ·rename_i k r c hb
   rw [hb] at rx
   simp only [relV] at rx
   obtain ⟨hlt,_,rx⟩:=rx
   have hobj:=hs.heap.obj k
   split at hv
   ·rename_i es ex rows hk
    rw [hk] at hobj rx
    have he:=rx es rfl
    cases hrow:rows[r]? with
    | none=>simp [hrow] at hv
    | some row =>
     simp [hrow] at hv
     obtain ⟨_,h2,_⟩:=hobj
     obtain ⟨_,hcs⟩:=relRows_get h2 hrow
     obtain ⟨vs,hvs,hcells,h1⟩:=relCells_vals hcs
     obtain ⟨v',h2,h3⟩:=packD_rel (h:=s.heap) (relDs_drop hvs c) (fun v hv=>h1 v (List.mem_of_mem_drop hv)) hv
     refine ⟨v',fin he (fun j u hj=>?_) h2,h3⟩
     have:=hcells (c+j) u (by simpa [List.getElem?_drop] using hj)
     rwa [←Nat.add_assoc] at this
   ·rename_i es rows hk
    rw [hk] at hobj rx
    have he:=rx es rfl
    cases hrow:rows[r]? with
    | none=>simp [hrow] at hv
    | some row =>
     simp [hrow] at hv
     obtain ⟨_,h2,_⟩:=hobj
     obtain ⟨vs,hvs,hcells,h1⟩:=relRowsV_vals h2 hrow
     obtain ⟨v',h2,h3⟩:=pack_rel (relVs_drop hvs c) (fun v hv=>h1 v (List.mem_of_mem_drop hv)) hv
     refine ⟨v',fin he (fun j u hj=>?_) h2,h3⟩
     have:=hcells (c+j) u (by simpa [List.getElem?_drop] using hj)
     rwa [←Nat.add_assoc] at this
   ·simp at hv
  ·simp at hv
 ·simp at h
end
end Go.VS
