import Derived.Test.YtifnkfombicejaaV03
import Derived.Laws.Externs
import Derived.KernelRfl
import Derived.Test.YtifnkfombicejaaV02
import Derived.Maps.RangeRun
import Derived.Laws.MakeOwn
import Derived.RangeFuncRecord
import Derived.OrdersIn
import Derived.TacticsIn
import Derived.Scope
import Derived.Test.YtifnkfombicejaaV00
import Derived.Tactics
import Derived.Orders
set_option linter.all false
set_option maxHeartbeats 1000000
namespace Go.VS
section
variable {P:Program}{φ:bX}
variable {nt m dB:Nat}{s:St}{g:Gh}{a:Act}{w:World}{K:Act->World->Prop}{Q:Exit->Act->World->Prop}{o:Oper}
theorem UF(hs:aI φ nt m dB s g a w){rec:Rec}{d:Nat}{x:A}(hc:aR P φ nt o (.cap d x)=true)(hok:(aj rec (.cap d x) s).ok=true)
  (hK:bY φ nt m dB s g w (aj rec (.cap d x) s) o a K):o.wp P a w K Q:=by
 simp only[aR,aA]at hc;obtain⟨hd,h⟩:=hc;split at h
 .rename_i c ho
  split at h
  .rename_i y t dZ hargs iH
   simp only[aA]at h;obtain⟨hx,ht⟩:=h;split at ht
   .rename_i e hu
    obtain⟨we,args,tys⟩:=c;simp only at dZ hargs iH;have kR:args=#[y]:=by rw[<-Array.toList_inj];exact hargs
    have mL:tys=#[t]:=by rw[<-Array.toList_inj];exact iH
    subst dZ;subst kR;subst mL;have rx:=b7 hs hx;simp only[aj]at hok hK;refine j7 hs hd hok (λv hv=>?_) hK
    have fin:∀{ad:Option Addr}{n cap:Nat},a.eval y = .slice ad n cap->v = .d (.i .i64 cap)->∃v',(execOp a.eval o).run P w = .ok (.value v') w/\ah φ s.heap g w v v':=by
     intro ad n cap he hv;subst hv;exact⟨.int .i64 cap,by simp[execOp,ho,resolve,invoke,builtin,he,Builtin.cap_,run_underlying hu,goInt],by simp[ah,aC]⟩
    unfold A5 at hv;split at hv
    .rename_i e' xs hp
     rw[hp]at rx;simp only[ah,aC]at rx;obtain⟨ad,cap,he,_,h1,_⟩:=rx;obtain⟨_,rfl⟩:=h1 trivial;simp at hv;exact fin he (by rw[<-hv];rfl)
    .rename_i e' hp
     rw[hp]at rx;simp only[ah]at rx;obtain⟨ad,he⟩:=rx;simp at hv;exact fin he (by rw[<-hv];rfl)
    .rename_i n off len hp
     rw[hp]at rx;simp only[ah]at rx;split at hv
     .rename_i e' ex rows hn
      split at hv
      .rename_i hle
       obtain⟨cap,he,hlc,hm,_⟩:=rx.2.2 e' (by rw[hn];rfl)
       rw[hn]at hm;simp only[O.len]at hm;simp at hv
       have:rows.length - off=cap:=by omega
       exact fin he (by rw[<-hv,this])
      .simp at hv
     .simp at hv
    .simp at hv
   .simp at ht
  .simp at h
 .simp at h
theorem UG{t t' ty e:TypeId}{k':IntKind}{i:TypeInfo}{z:Value}(ht:P.underlying t=some (.slice e))(ht':P.underlying t'=some (.int k'))(hi:P.info? e=some i)(hz:i.zero=some z){sLen sCap n:Nat}{base:Option Addr}{olds:List Value}{q:IntKind}
  (hlo:olds.length=sLen*i.size)(Fl:olds≠[]->∃b off,base=some ⟨b,off,none⟩/\∀(j:Nat)(u:Value),olds[j]?=some u->w.cell? ⟨b,off+j,none⟩=some u)
  (gY:sCap<sLen+n)(hroom:sLen+n<=room)(hby:i.bytes<=16384)(hpos:0<i.size)(hn0:0<n):
  (Builtin.append_ #[t,t'] ty #[.slice base sLen sCap,.int q n]).run P w =
   .ok (.slice (some ⟨w.heap.size,0,none⟩) (sLen+n) (grownCap w (sLen+n) sCap e)) (w.drew.alloc (.cells (olds++(Builtin.zeroCells z.cells n).toList++(Builtin.zeroCells z.cells (grownCap w (sLen+n) sCap e - (sLen+n))).toList).toArray e)):=by
 have hn:¬(sLen+n<=sCap):=by omega
 have Fm:sLen+n<=4294967296:=hroom;have h63':¬(9223372036854775807<((sLen:Int)+(n:Int))):=by omega
 have hmul:(sLen+n)*i.bytes<=4294967296*16384:=Ek Fm hby;have Fo:¬(281474976710656<Builtin.nextslicecap (sLen+n) sCap*i.bytes):=by
  have:=growslice_fits (bytes:=i.bytes) gY (by omega)
  omega
 have hfo:=yP (P:=P) (w:=w.drew) (xa:=base) (xc:=sCap) hlo (λh=>by obtain⟨b,off,h1,h2⟩:=Fl h;exact⟨b,off,h1,by simpa using h2⟩)
 have hwrap:IntKind.i64.wrap (n:Int)=n:=by
  have h1:(n:Int)<=4294967296:=by omega
  have e1:(n:Int) % (2 ^ (IntKind.i64.bits):Int)=n:=Int.emod_eq_of_lt (by omega) (Int.lt_of_le_of_lt h1 (by decide))
  have e2:¬((n:Int) ≥ (2 ^ (IntKind.i64.bits - 1):Int)):=by
   have:((2:Int) ^ (IntKind.i64.bits - 1))=9223372036854775808:=by decide
   rw[this];omega
  simp only[IntKind.wrap,e1,e2,decide_false,Bool.and_false,eD,cB]
 have hneg:¬((n:Int)<0):=by omega
 have Kx:n*i.bytes<=4294967296*16384:=Ek (by omega) hby
 have UH:¬((281474976710656:Int)<(n:Int)*(i.bytes:Int)):=by
  rw[<-Int.natCast_mul];omega
 have FG:¬(n*i.size=0):=Nat.ne_of_gt (Nat.mul_pos hn0 hpos);simp[Builtin.append_,run_underlying ht,run_underlying ht',sizeOf,typeInfo,zeroValue,hi,hz,Go.asInt,asIntOf,hwrap,hneg,UH,hn,h63',Fo,FG,Question.forced,hfo,newRow,grownCap];congr 2;apply Array.ext';simp[jX]
theorem UI(hs:aI φ nt m dB s g a w){rec:Rec}{d es:Nat}{x k:A}{z:List D}(hc:aR P φ nt o (.mC d x k es z)=true)(hok:(aj rec (.mC d x k es z) s).ok=true)
  (hK:bY φ nt m dB s g w (aj rec (.mC d x k es z) s) o a K):o.wp P a w K Q:=by
 simp only[aR,aA]at hc;obtain⟨hd,h⟩:=hc;split at h
 .rename_i c ho
  split at h
  .rename_i x' k' t t' dZ hargs iH
   simp only[aA,fu]at h;obtain⟨⟨⟨hx,hk⟩,hpos⟩,ht⟩:=h;obtain⟨we,args,tys⟩:=c;simp only at dZ hargs iH;have kR:args=#[x',k']:=by rw[<-Array.toList_inj];exact hargs
   have mL:tys=#[t,t']:=by rw[<-Array.toList_inj];exact iH
   subst dZ;subst kR;subst mL;split at ht
   .rename_i e q hu ir
    simp only[aA]at ht;obtain⟨UJ,ht⟩:=ht;obtain⟨i,zv,hi,hz,oB,iw,hzs⟩:=wq (g:=g) (w:=w) UJ;rw[hi]at ht;simp only[aA,bN,fu]at ht;obtain⟨hsz,hby⟩:=ht;subst hsz;have rx:=b7 hs hx;have rk:=b7 hs hk;simp only[aj]at hok hK;obtain⟨v,hh,hv⟩:=pU hok;rw[hv]at hK;simp only[St.ct]at hK;unfold A4 at hv;cases hkv:asInt (s.get k)with
    |none=>simp[hkv]at hv
    |some kn =>
     simp only[hkv]at hv;have dJ:∃q2,a.eval k' = .int q2 kn:=by
      cases hg:s.get k with
      |d z =>
       rw[hg]at hkv rk;cases z with
       |i q2 n=>simp[asInt]at hkv;subst hkv;exact⟨q2,lU (by simpa only[ah]using rk)⟩
       |_=>simp[asInt]at hkv
      |_=>rw[hg]at hkv;simp[asInt]at hkv
     obtain⟨q2,FJ⟩:=dJ;split at hv
     .rename_i bP
      obtain⟨j8,hzl⟩:=bP;have hkn:(kn.toNat:Int)=kn:=by omega
      have UK:zv.cells.size=i.size:=by
       have:=nC oB;rw[hzl]at this;simpa using this.symm
      obtain⟨z1,z2,z3⟩:=ME oB iw (by rw[hzl];exact hpos) kn.toNat
      have fresh:∀{base:Option Addr}{sLen sCap:Nat}{olds:List Value}{ys:List (List D)},a.eval x' = .slice base sLen sCap->olds.length=sLen*i.size ->
        (olds≠[]->∃b off,base=some ⟨b,off,none⟩/\∀(j:Nat)(u:Value),olds[j]?=some u->w.cell? ⟨b,off+j,none⟩=some u)->sCap<sLen+kn.toNat->sLen+kn.toNat<=room ->
        (∀r∈ys,r.length=i.size)->ys.length=sLen->aM φ g.I w ys.flatten olds->(∀u∈olds,u.oneCell'=true)->v = .aJ s.heap.length 0 (sLen+kn.toNat)->hh=s.heap++[.an i.size true (ys++List.replicate kn.toNat z)]->o.wp P a w K Q:=by
       intro base sLen sCap olds ys he h1 h2 h3 h4 h5 h6 h7 h8 h9 u5;subst h9;subst u5;have hrun:=UG (P:=P) (w:=w) (ty:=o.type) (q:=q2) hu ir hi hz h1 h2 h3 h4 hby hpos (by omega)
       rw[hkn]at hrun;have uL:=grownCap_ge w (sLen+kn.toNat) sCap e;have gH:(ys++List.replicate kn.toNat z).length=sLen+kn.toNat:=by simp[h6]
       have fO:(Builtin.zeroCells zv.cells (grownCap w (sLen+kn.toNat) sCap e - (sLen+kn.toNat))).toList.length=(grownCap w (sLen+kn.toNat) sCap e - (sLen+kn.toNat))*i.size:=by simp[size_zeroCells,UK]
       have:=BM (P:=P) (K:=K) (Q:=Q) (o:=o) (a:=a) hs hd (es:=i.size) (ex:=true) (ys:=ys++List.replicate kn.toNat z) (C:=olds++(Builtin.zeroCells zv.cells kn.toNat).toList) (ok:=s.ok)
        (rest:=(Builtin.zeroCells zv.cells (grownCap w (sLen+kn.toNat) sCap e - (sLen+kn.toNat))).toList) (T:=e) (cap:=grownCap w (sLen+kn.toNat) sCap e)
        (by rw[gH];simp[execOp,ho,resolve,invoke,builtin,he,FJ,hrun])
        (λr hr=>(aL.1 hr).elim (h5 r) (λh=>by rw[AM]at h;rw[h.2,hzl]))
        (by rw[vJ];exact qR h7 z1) (λu hu=>(aL.1 hu).elim (h8 u) (z2 u)) (by rw[gH];exact uL) ?_ (BL iw _)
       .refine this λg' v' w' k1 k2=>?_
        rw[gH]at k1;exact hK g' v' w' k1 k2
       .rw[eC,h1,fO,z3,hzl,<-Nat.add_mul,<-Nat.add_mul]
        exact iq _ (by omega)
      split at hv
      .rename_i e1 nl xs cj
       rw[cj]at rx;simp only[ah,aC]at rx;obtain⟨ad,cap,he,hlc,sJ,_⟩:=rx;split at hv
       .rename_i gE
        obtain⟨rfl,rfl,hroom⟩:=gE;obtain⟨rfl,rfl⟩:=sJ rfl;have hx0:xs.length=0:=by omega
        rw[hx0]at he;simp at hv;exact fresh (olds:=[]) (ys:=[]) he (by simp) (by simp) (by omega) (by omega) (by simp) rfl (by simp[aM]) (by simp) (by rw[iR];exact hv.1.symm) (by simpa using hv.2.symm)
       .simp at hv
      .rename_i e1 cj
       rw[cj]at rx;simp only[ah]at rx;obtain⟨ad,he⟩:=rx;split at hv
       .rename_i gE
        obtain⟨rfl,hroom⟩:=gE;simp at hv;exact fresh (olds:=[]) (ys:=[]) he (by simp) (by simp) (by omega) (by omega) (by simp) rfl (by simp[aM]) (by simp) (by rw[iR];exact hv.1.symm) (by simpa using hv.2.symm)
       .simp at hv
      .rename_i n off len cj
       rw[cj]at rx;simp only[ah]at rx;have bA:=hs.heap.obj n;split at hv
       .rename_i e1 ex rows hn
        rw[hn]at rx bA;split at hv
        .rename_i gE
         obtain⟨rfl,hle,gY,hroom⟩:=gE;obtain⟨cap,he,hlc,hm,_⟩:=rx.2.2 _ rfl;simp only[O.len]at hm;simp at hv;have hlen:((rows.drop off).take len).length=len:=by simp;omega
         obtain⟨olds,o1,o2,o3,o4⟩:=rj (uI bA.2.1 hle);rw[hlen]at o3;exact fresh (olds:=olds) (ys:=(rows.drop off).take len) he (by rw[o3,eI]) (λ_=>⟨_,_,rfl,o4⟩) (by omega) hroom
          (λr hr=>by
           obtain⟨j,hj,nK⟩:=jf (lD (lC hr));exact(iV bA.2.1 (r:=j) (row:=r) (by simp[hj,nK])).1) hlen o1 o2 hv.1.symm hv.2.symm
        .simp at hv
       .simp at hv
      .simp at hv
     .simp at hv
   .simp at ht
  .simp at h
 .simp at h
theorem UL{fn:Func}(h:ER fn=true):Extern.findNext fn=none/\Extern.find fn=some (Extern.SlicesOverlaps.overlaps fn.params fn.resultTypes):=by
 simp only[ER,aA,bN,Option.isNone_iff_eq_none]at h;obtain⟨⟨⟨⟨h0,h1⟩,h2⟩,h3⟩,h4⟩:=h;have n1 : Extern.allGenericRows.lookup "slices.overlaps" = none := by kernel_rfl
 have n2 : Extern.allTypedRows.lookup "slices.overlaps" = some Extern.SlicesOverlaps.overlaps := by kernel_rfl
 have n3 : Extern.allNextRows.lookup "slices.overlaps" = none := by kernel_rfl
 refine⟨?_,?_⟩
 .simp[Extern.findNext,h4,h0,n3]
 .simp[Extern.find,h1,h2,h3,h0,n1,n2]
theorem UM(hP:True){tS e:TypeId}{par res:Array TypeId}(hp:par[0]?=some tS)(ht:P.underlying tS=some (.slice e)){size:Nat}(hz:(Go.sizeOf e).run P w = .ok size w)
  {a b:Addr}{la ca lb cb:Nat}{CA CB:Array Value}{TA TB:TypeId}{fa:Nat×Nat}(hA:w.heap[a.block]?=some (.cells CA TA fa))(hB:w.heap[b.block]?=some (.cells CB TB (0,0)))(MH:CA.size≠0)
  (UN:a.block=b.block->a.off+la*size<=b.off):
  (Extern.SlicesOverlaps.overlaps par res #[.slice (some a) la ca,.slice (some b) lb cb]).run P w = .ok (.bool false) w:=by
 rw[Extern.SlicesOverlaps.overlaps.eq_def,hp];change Sem.run P (α:=Value) (underlying tS >>= _) w=_;by_cases h0:la=0\/lb=0\/size=0
 .simp[hp,run_underlying ht,hz,h0]
 .have hsa:w.shape? a.block=some (TA,CA.size):=by simp[World.shape?,hA]
  have hsb:w.shape? b.block=some (TB,CB.size):=by simp[World.shape?,hB]
  have UO:∀k sp,w.frozen? {block:=b.block,off:=k,spot:=sp}=false:=by intro k sp;simp[World.frozen?,hB]
  have UP:w.frozen? b=false:=by simp[World.frozen?,hB]
  obtain⟨n,hn⟩:∃n,CA.size=n+1:=⟨CA.size - 1,by omega⟩
  rw[hn]at hsa;by_cases hne:a.block=b.block
  .have h1:(a.block != b.block)=false:=by simpa using hne
   have h2:=UN hne;have h3:¬(b.off<a.off+la*size):=by omega
   simp[hp,run_underlying ht,hz,h0,h1,frozen,Sem.run,h3]
  .have h1:(a.block != b.block)=true:=by simpa using hne
   have h2:(a.block==b.block)=false:=by simpa using hne
   cases UQ:w.frozen? a<;>cases l8:w.frozen? {block:=a.block,off:=n+1} <;>
    simp[hp,run_underlying ht,hz,h0,h1,h2,frozen,noView,viewAt,mayBeOne,stringish,shape,Sem.run,hsa,hsb,UO,UP,UQ,l8]
theorem MI{tS e:TypeId}{par res:Array TypeId}(hp:par[0]?=some tS)(ht:P.underlying tS=some (.slice e)){size:Nat}(hz:(Go.sizeOf e).run P w = .ok size w)
  {b:Option Addr}{a:Option Addr}{la ca lb cb:Nat}(h0:a=none\/la=0):
  (Extern.SlicesOverlaps.overlaps par res #[.slice a la ca,.slice b lb cb]).run P w = .ok (.bool false) w:=by
 rw[Extern.SlicesOverlaps.overlaps.eq_def,hp];change Sem.run P (α:=Value) (underlying tS >>= _) w=_;rcases h0 with rfl |rfl
 .simp[hp,run_underlying ht,hz]
 .cases a<;>cases b<;>simp[hp,run_underlying ht,hz]
theorem UR(hs:aI φ nt m dB s g a w){rec:Rec}{d f es:Nat}{x y:A}(hc:aR P φ nt o (.mD d f x y es)=true)(hok:(aj rec (.mD d f x y es) s).ok=true)
  (hK:bY φ nt m dB s g w (aj rec (.mD d f x y es) s) o a K):o.wp P a w K Q:=by
 simp only[aR,aA]at hc;obtain⟨hd,h⟩:=hc;split at h
 .rename_i c ho
  split at h
  .rename_i ff dZ
   simp only[aA,bN]at h;obtain⟨⟨rfl,hxy⟩,h⟩:=h;split at h
   .rename_i fn hfn
    simp only[aA,lF]at h;obtain⟨⟨⟨hname,hbody⟩,iI⟩,h⟩:=h;split at h
    .rename_i t t2 hpar
     split at h
     .rename_i e hu
      simp only[aA,fu]at h;obtain⟨hpos,uA⟩:=h;have hsz:=qY (P:=P) (w:=w) uA;have H8:fn.params[0]?=some t:=by
       rw[<-Array.getElem?_toList,hpar];rfl
      obtain⟨k1,k2⟩:=UL iI;have rr:=pP hs hxy;simp only[aj]at hok hK;refine j7 hs hd hok (λv hv=>?_) hK
      obtain⟨x',y',hargs⟩:∃x' y',c.args.toList=[x',y']:=by
       match hq:c.args.toList,hxy with
       | [x',y'],_=>exact⟨x',y',rfl⟩
       | [],h=>simp[jr]at h
       | [_],h=>simp[jr]at h
       |_::_::_::_,h=>simp[jr]at h
      rw[hargs]at rr;simp only[cR,jF,aB]at rr;obtain⟨rx,ry,_⟩:=rr;have kR:c.args.map a.eval=#[a.eval x',a.eval y']:=by rw[<-Array.toList_inj];simp[hargs]
      have US:(execOp a.eval o).run P w=(callFunc (φ f) (c.args.map a.eval)).run P w:=by simp[execOp,ho,resolve,dZ,Act.eval,Deferred.ofValue,invoke]
      have hrun:∀{u u':Value},a.eval x'=u->a.eval y'=u'->v = .d (.b false)->(Extern.SlicesOverlaps.overlaps fn.params fn.resultTypes #[u,u']).run P w = .ok (.bool false) w->∃v',(execOp a.eval o).run P w = .ok (.value v') w/\ah φ s.heap g w v v':=by
       intro u u' h1 h2 h3 h4;subst h3;refine⟨.bool false,?_,by simp[ah,aC]⟩
       rw[US,kR,h1,h2,run_callFunc_extern hfn hname hbody k1 k2,h4];rfl
      unfold A6 at hv;split at hv
      .rename_i e1 nl xs n off len cj UT
       have ry:=yz ry;rw[cj]at rx;rw[UT]at ry;simp only[ah,aC]at rx ry;obtain⟨ad,cap,hex,hlc,h1,h2⟩:=rx;have bA:=hs.heap.obj n;split at hv
       .rename_i e2 rows hn
        rw[hn]at ry bA;split at hv
        .rename_i hee
         subst hee;obtain⟨MJ,kV,_,_,CS,T,hB,hfit,_⟩:=ry.2.2 e2 rfl;simp only[bF]at hv;refine hrun hex kV hv.symm ?_;cases nl with
         |true=>exact MI H8 hu hsz (.inl (h1 rfl).1)
         |false =>
          obtain⟨wG,rfl,h3⟩:=h2 rfl;cases xs with
          |nil=>exact MI H8 hu hsz (.inr rfl)
          |cons r rs =>
           obtain⟨hsp,hI,kT⟩:=h3 (by simp)
           obtain⟨hrl,hrc⟩:=iV kT (r:=0) (row:=r) rfl;have tD:r[0]?=some r[0]:=by simp
           obtain⟨z,hz,_⟩:=vX hrc tD;simp only[World.cell?]at hz;split at hz
           .rename_i CA TA fa hA
            have MH:CA.size≠0:=by
             intro h0
             have:CA=#[]:=Array.eq_empty_of_size_eq_zero h0
             subst this;simp at hz
            refine UM trivial H8 hu hsz hA hB MH λMK=>?_
            have Aj:=bA.2.2;simp only[aU]at Aj;simp only at MK;rw[MK]at hI;rw[eI];show wG.off+e1*(r::rs).length<=g.o n+off*e2
            omega
           .simp at hz
        .simp at hv
       .simp at hv
      .simp at hv
     .simp at h
    .simp at h
   .simp at h
  .simp at h
 .simp at h
end
end Go.VS
namespace Go.VS
section
variable {P:Program}{φ:bX}
variable {nt m dB:Nat}{s:St}{g:Gh}{a:Act}{w:World}{K:Act->World->Prop}{Q:Exit->Act->World->Prop}{o:Oper}
theorem UU(hs:aI φ nt m dB s g a w){rec:Rec}{d:Nat}{x:A}(hc:aR P φ nt o (.n9 d x)=true)(hok:(aj rec (.n9 d x) s).ok=true)
  (hK:bY φ nt m dB s g w (aj rec (.n9 d x) s) o a K):o.wp P a w K Q:=by
 simp only[aR,aA]at hc;obtain⟨hd,hc⟩:=hc;split at hc
 .rename_i t x' ho
  simp only[aA]at hc;obtain⟨hx,ht⟩:=hc;split at ht
  .rename_i kt et kU
   have rx:=b7 hs hx;simp only[aj]at hok hK;obtain⟨vv,hh,hst⟩:=pU hok;rw[hst]at hK;simp only[St.ct]at hK;unfold vU at hst;split at hst
   .rename_i n cj
    rw[cj]at rx;split at hst
    .rename_i kv cz bs hn
     simp only[bF,gS]at hst;obtain⟨rfl,rfl⟩:=hst;have hlt:n<s.heap.length:=by simp only[ah]at rx;exact rx.1
     obtain⟨ex,ES,hb,_⟩:=wE hs.heap hn rx;have hrun:(execOp a.eval o).run P w = .ok (.value (.pointer (some ⟨w.heap.size,0,none⟩))) (w.alloc (.mapIter (some (g.β n)) cz #[] cz)):=by
      simp[execOp,ho,Instr.range,run_underlying kU,ex,MapKept.run_getObj_map hb,newObj];rfl
     have hg:=cU.alloc w (.mapIter (some (g.β n)) cz #[] cz);have zV:=pT w (.mapIter (some (g.β n)) cz #[] cz);have hne:n≠s.heap.length:=by omega
     refine wj hs hd (b:=w.heap.size) (off:=0) (I':=g.I) hrun hg (λ_ _=>rfl) (λb hb=>hs.heap.new b (by simp at hb;omega)) (bZ _) ?_ ?_ hK
     .exact⟨g.β n,zV,by simp;omega,λ_=>by simp[Gh.add,hne],rfl,hs.heap.new _ (bZ _)⟩
     .simp only[ah]
      exact⟨by simp,rfl,λes _=>by simp[Gh.add]⟩
    .simp at hst
   .simp at hst
  .simp at ht
 .simp at hc
theorem ML{h:List O}(hH:bT φ h g w){n k since:Nat}{seen:List Nat}{kv:List (D×V)}{cz:Nat}{bs:List Nat}{v:Value}(hn:af h n = .it k since seen)(hk:af h k = .mp kv cz bs)(hr:ah φ h g w (.loc n 0 0) v):
  v = .pointer (some ⟨g.β n,0,none⟩)/\g.o n=0/\w.heap[g.β n]?=some (.mapIter (some (g.β k)) since seen.toArray since)/\g.I (g.β n)=0/\k<h.length/\∃ES,w.heap[g.β k]?=some (.map ES cz)/\kO φ h g w kv ES.toList/\ES.toList.map (·.born)=bs:=by
 simp only[ah]at hr;have h1:=hH.obj n;rw[hn]at h1;obtain⟨r,h2,h3,h4,h5,h6⟩:=h1;have h7:=hH.obj k;rw[hk]at h7;obtain⟨ES,k1,k2,k3,_⟩:=h7;have h8:=hr.2.2 1 (by rw[hn];rfl)
 rw[h5]at h8;have h9:=h4 (by rw[hk];rfl)
 subst h9;exact⟨by simpa using h8,h5,h2,h6,h3,ES,k1,k2,k3⟩
theorem UW(hs:aI φ nt m dB s g a w){rec:Rec}{d:Nat}{x:A}(hc:aR P φ nt o (.ni d x)=true)(hok:(aj rec (.ni d x) s).ok=true)
  (hK:bY φ nt m dB s g w (aj rec (.ni d x) s) o a K):o.wp P a w K Q:=by
 simp only[aR,aA]at hc;obtain⟨hd,hc⟩:=hc;split at hc
 .rename_i x' ho
  have rx:=b7 hs hc;simp only[aj]at hok hK;refine j7 hs hd hok (λv hv=>?_) hK
  unfold uf at hv;split at hv
  .rename_i n cj
   rw[cj]at rx;split at hv
   .rename_i k since seen hn
    split at hv
    .rename_i kv cz bs hk
     split at hv
     .rename_i bP
      obtain⟨rfl,hnd⟩:=bP;obtain⟨ex,_,hit,_,_,ES,hb,hkv,gX⟩:=ML hs.heap hn hk rx;simp only[ij,cX]at hv;obtain⟨b,yC,j,hj,p,hp,rfl⟩:=hv;have UX:=tP.1 hj;obtain⟨hjl,sQ,_⟩:=UX;have Dz:j<ES.toList.length:=by rw[<-gX,qG]at hjl;exact hjl
      have UY:ES.toList[j].born=b:=by
       have:bs[j]=b:=by simpa using sQ
       rw[<-this];simp only[<-gX,List.getElem_map]
      have UZ:seen.toArray=(seen.dropLast.toArray).push b:=by
       obtain⟨l,hl⟩:∃l,seen=l++[b]:=by
        rw[List.getLast?_eq_some_iff]at yC;exact yC
       subst hl;simp
      have hrun:=run_entry_at (P:=P) w (g.β n) (g.β k) cz seen.dropLast.toArray ES cz ES.toList[j] (by rw[UY,<-UZ];exact hit) hb (m9 Dz) (by rw[gX];exact hnd)
      have jO:=hkv.2 j p ES.toList[j] hp (by simp)
      refine⟨.tuple #[ES.toList[j].key,ES.toList[j].val],by simp only[execOp,ho,ex];simp[hrun],?_⟩
      simp only[ah];exact⟨_,rfl,by simp only[aB,ah,jd];exact⟨jO.1,jO.2⟩⟩
     .simp at hv
    .simp at hv
   .simp at hv
  .simp at hv
 .simp at hc
end
end Go.VS
namespace Go.VS
section
variable {P:Program}{φ:bX}
variable {nt m dB:Nat}{s:St}{g:Gh}{a:Act}{w:World}{K:Act->World->Prop}{Q:Exit->Act->World->Prop}{o:Oper}
end
end Go.VS
namespace Go.VS
section
variable {P:Program}{φ:bX}
variable {nt m dB:Nat}{s:St}{g:Gh}{a:Act}{w:World}{K:Act->World->Prop}{Q:Exit->Act->World->Prop}{o:Oper}
theorem MM{b:Nat}{cs:Array Value}{T:TypeId}{fr:Nat×Nat}(hb:w.heap[b]?=some (.cells cs T fr)):w.setRow b cs=w:=by
 have h:(w.setRow b cs).heap=w.heap:=by
  apply Array.ext_getElem?;intro k;by_cases hk:k=b
  .subst hk;rw[setRow_heap w k cs cs T fr hb,hb]
  .exact setRow_other w b k cs hk
 unfold World.setRow at h⊢;cases w;simp only at h;rw[h]
theorem MN{α:Type}(cs:List α)(k:Nat):aS cs k []=cs:=by simp[aS]
theorem U0(hs:aI φ nt m dB s g a w){rec:Rec}{d es:Nat}{x:A}{lo hi:Option A}(hc:aR P φ nt o (.sle d x lo hi es)=true)(hok:(aj rec (.sle d x lo hi es) s).ok=true)
  (hK:bY φ nt m dB s g w (aj rec (.sle d x lo hi es) s) o a K):o.wp P a w K Q:=by
 simp only[aR,aA]at hc;obtain⟨hd,h⟩:=hc;split at h
 .rename_i t y lo' hi' ho
  simp only[aA]at h;obtain⟨⟨⟨hx,hlo⟩,hhi⟩,ht⟩:=h;split at ht
  .rename_i e hu
   have rx:=b7 hs hx;simp only[aj]at hok hK;obtain⟨v,h',hv⟩:=pU hok;rw[hv]at hK;simp only[St.ct]at hK;unfold pz at hv;split at hv
   .rename_i l hh hl yO
    have bl:=BK hs hlo hl;have bh:=BK hs hhi yO;have fin:∀{ad:Option Addr}{len cap:Nat},a.eval y = .slice ad len cap->mF (s.get x)=len->0<=l->l<=hh->hh<=cap ->
      (execOp a.eval o).run P w = .ok (.value (.slice (if cap=l.toNat then ad else ad.map (·.add (l.toNat*es))) (hh.toNat - l.toNat) (cap - l.toNat))) w:=by
     intro ad len cap he hlen h0 h1 h2;rw[hlen]at bh;have:=Kq (P:=P) (w:=w) hu ht bl bh (ad:=ad) (len:=len) (cap:=cap) h0 h1 h2;simp[execOp,ho,he,this]
    split at hv
    .rename_i n off len hp
     rw[hp]at rx fin;simp only[ah]at rx;split at hv
     .rename_i e' ex rows hn
      split at hv
      .rename_i bP
       obtain⟨rfl,h0,h1,h2⟩:=bP;obtain⟨cap,he,hlc,hm,CS,T,hb,hsz⟩:=rx.2.2 e' (by rw[hn];rfl)
       rw[hn]at hm;simp only[O.len]at hm;have hrun:=fin he rfl h0 h1 (by omega)
       split at hv
       .rename_i gH
        simp at hv;obtain⟨rfl,rfl⟩:=hv;refine nI hs hd hrun ?_ hK;simp only[ah];refine⟨rx.1,rfl,λes' he'=>?_⟩
        rw[hn]at he';simp[O.dg]at he';subst he';have hlen:(hh - l).toNat=hh.toNat - l.toNat:=by omega
        rw[hlen];refine⟨cap - l.toNat,?_,by omega,by rw[hn];simp only[O.len];omega,CS,T,hb,?_⟩
        .have bP:(if cap=l.toNat then(some ⟨g.β n,g.o n+off*e',none⟩:Option Addr)else(some ⟨g.β n,g.o n+off*e',none⟩:Option Addr).map (·.add (l.toNat*e')))=some ⟨g.β n,g.o n+(off+l.toNat)*e',none⟩:=by
          split
          .rename_i dO
           have:l.toNat=0:=by omega
           rw[this];simp
          .simp only[fy,kQ]
           rw[iA,<-Nat.add_assoc]
         rw[bP]
        .have:off+l.toNat+(cap - l.toNat)=off+cap:=by omega
         rw[this];exact hsz
       .rename_i gH
        split at hv
        .rename_i hex
         subst hex;simp at hv;obtain⟨rfl,rfl⟩:=hv;have bA:=hs.heap.obj n;rw[hn]at bA;obtain⟨⟨kN,T',hb',jw⟩,bJ,hI⟩:=bA;rw[hb]at hb';simp at hb';obtain⟨rfl,rfl⟩:=hb';have hz:hh.toNat - l.toNat=0:=by omega
         rw[hz]at hrun;have hlr:l.toNat<=cap:=by omega
         have nil:∀k:Nat,(rows.drop k).take 0++([]:List (List D))=[]:=by simp
         by_cases dO:cap=l.toNat
         .rw[aN dO,dO,Nat.sub_self]at hrun
          refine Fu (off:=off) (len:=0) (cap:=0) (ex:=true) (ys:=[]) (news:=[]) hs hd hn hb (ig (Jm (iq _ (by omega)) _) hsz.1) hsz.2 jw (by omega) bJ hI (by simp[aM]) (by simp) (by simp) (by simp) (bZ _) (.inl rfl) (λ_=>?_) ?_
          .rw[MN]
           simp only[Jn,MM hb];exact hrun
          .rw[nil];exact hK
         .rw[aF dO]at hrun
          simp only[fy,kQ]at hrun;rw[show g.o n+off*e'+l.toNat*e'=g.o n+(off+l.toNat)*e' by rw[iA];omega]at hrun
          refine Fu (off:=off+l.toNat) (len:=0) (cap:=cap - l.toNat) (ex:=true) (ys:=[]) (news:=[]) hs hd hn hb (by rw[show off+l.toNat+(cap - l.toNat)=off+cap by omega];exact hsz.1) hsz.2 jw (by omega) bJ hI (by simp[aM]) (by simp) (by simp) (by simp) (tK _) (.inl rfl) (λ_=>?_) ?_
          .rw[MN]
           simp only[Jn,MM hb];exact hrun
          .rw[nil];exact hK
        .simp at hv
      .simp at hv
     .simp at hv
    .simp at hv
   .simp at hv
  .simp at ht
 .simp at h
end
end Go.VS
namespace Go.VS
section
variable {P:Program}{φ:bX}
variable {nt m dB:Nat}{s:St}{g:Gh}{a:Act}{w:World}{K:Act->World->Prop}{Q:Exit->Act->World->Prop}{o:Oper}
theorem U1(hs:aI φ nt m dB s g a w){rec:Rec}{d n:Nat}{ag:Bool}{x:A}(hc:aR P φ nt o (.lN d x n ag)=true)(hok:(aj rec (.lN d x n ag) s).ok=true)
  (hK:bY φ nt m dB s g w (aj rec (.lN d x n ag) s) o a K):o.wp P a w K Q:=by
 simp only[aj]at hok hK;obtain⟨v,hv⟩:=Bp hok;have he:qL s.heap n ag (s.get x)=some v:=by
  unfold A1 at hv;split at hv
  .rename_i cs hx;rw[hx];exact hv
  .rename_i cs hx;rw[hx];exact hv
  .simp at hv
 refine JT (rec:=rec) hs hc ?_ ?_
 .simp only[aj,he];rw[hv]at hok;exact hok
 .simp only[aj,he];rw[hv]at hK;exact hK
theorem U2(hs:aI φ nt m dB s g a w){rec:Rec}{d off n:Nat}{x:A}(hc:aR P φ nt o (.mE d x off n)=true)(hok:(aj rec (.mE d x off n) s).ok=true)
  (hK:bY φ nt m dB s g w (aj rec (.mE d x off n) s) o a K):o.wp P a w K Q:=by
 simp only[aj]at hok hK;obtain⟨v,hv⟩:=Bp hok;have he:fa s.heap off n (s.get x)=some v:=by
  unfold A3 at hv;split at hv
  .rename_i cs hx;rw[hx];exact hv
  .rename_i cs hx;rw[hx];exact hv
  .simp at hv
 refine JX (rec:=rec) hs hc ?_ ?_
 .simp only[aj,he];rw[hv]at hok;exact hok
 .simp only[aj,he];rw[hv]at hK;exact hK
def I.DA:I->Bool
 | .kE ..=>true
 |_=>false
theorem U3{rec:Rec}(hq:gW P φ rec)(hs:aI φ nt m dB s g a w){i:I}(hc:aR P φ nt o i=true)(hY:i.DA=false)(hok:(aj rec i s).ok=true)
  (hK:bY φ nt m dB s g w (aj rec i s) o a K):o.wp P a w K Q:=by
 cases i with
 |mv d x=>exact OQ hs hc hK
 |pick d c x y=>exact OR hs hc hok hK
 |box d x n fz=>exact Pe hs hc hok hK
 |new d z=>exact Pf hs hc hK
 |build d z ps=>exact Ph hs hc hok hK
 |jh d es n z ps fz=>exact Pk hs hc hok hK
 |ld d x n ag=>exact JT hs hc hok hK
 |st x y n fz =>
  cases fz with
  |false=>exact Pw hs hc hok hK
  |true=>exact Px hs hc hok hK
 |fa d x o n=>exact JX hs hc hok hK
 |fD d x i es=>exact O8 hs hc hok hK
 |bin d op x y=>exact OT hs hc hok hK
 |jZ d neg x k=>exact O5 hs hc hok hK
 |un d op x=>exact OU hs hc hok hK
 |len d x k=>exact Pc hs hc hok hK
 |ext d x i=>exact JR hs hc hok hK
 |sl d x lo hi es=>exact P1 hs hc hok hK
 |sle d x lo hi es=>exact U0 hs hc hok hK
 |app d x y es=>exact Kz hs hc hok hK
 |oa d m k z ks=>exact Us hs hc hok hK
 |nj d x y es=>exact Ut hs hc hok hK
 |lO d f xs=>exact Uu hq hs hc hok hK
 |calls d f xs=>exact Uy hq hs hc hok hK
 |kE d x xs=>simp[I.DA]at hY
 |iB d f x y=>exact OV hs hc hK
 |call d f xs=>exact PB hq hs hc hok hK
 |j0 d x xs=>exact PC hq hs hc hok hK
 |jJ d f xs=>exact HX false hq hs hc hok hK
 |iS d f xs=>exact HX true hq hs hc hok hK
 |lK d x xs=>exact Ur hq hs hc hok hK
 |mB d x=>exact Uz hs hc hok hK
 |lM d x lo hi mz es=>exact UB hs hc hok hK
 |lI d x es z=>exact UD hs hc hok hK
 |copy d x y es=>exact UE hs hc hok hK
 |cap d x=>exact UF hs hc hok hK
 |mC d x k es z=>exact UI hs hc hok hK
 |mD d f x y es=>exact UR hs hc hok hK
 |bad d=>simp[aj,St.fail]at hok
 |lN d x n ag=>exact U1 hs hc hok hK
 |mE d x o n=>exact U2 hs hc hok hK
 |mq d=>exact PI hs hc hK
 |ji m k v ks=>exact PK hs hc hok hK
 |jj d m k z ok ks=>exact Km hs hc hok hK
 |iC m k ks=>exact PM hs hc hok hK
 |mu d m k z ks=>exact PO hs hc hok hK
 |lJ m st v=>exact PS hs hc hok hK
 |n9 d x=>exact UU hs hc hok hK
 |ni d x=>exact UW hs hc hok hK
end
end Go.VS
namespace Go.VS
def Wd(r:Option Nat):Fence:={Fence.wide with round:=r}
section
variable {P:Program}{φ:bX}
variable {nt m dB:Nat}{s:St}{g:Gh}{a:Act}{w:World}{K:Act->World->Prop}{Q:Exit->Act->World->Prop}{o:Oper}
variable {r:Option Nat}{n:Nat}
theorem MO{f:FuncId}{args:Array Value}{R:Ending->World->Prop}(h:Calls P f args w R):CallsIn (Wd r) n P f args w R:=(callsIn_wide (n:=n)).2 h
theorem U4{row:String}{args:Array Value}{R:Value->World->Prop}(h:Rows P row args w R):RowsIn (Wd r) n P row args w R :=
 λc cs _=>let ⟨v,w',r,s⟩:=h c cs;⟨v,w',r,stepsIn_wide.2 s⟩
theorem DB:(Wd r).depth.isSome=true->1<=n:=λh=>by simp[Wd,Fence.wide]at h
theorem H9(hd:∀c,o.op≠.defer c)(h:o.wp P a w K Q):o.wpIn (Wd r) n P a w K Q:=by
 refine⟨λ_ _=>trivial,?_⟩
 rw[Oper.semAt_eq _ _ _ hd];unfold Oper.wp at h;generalize (execOp a.eval o).run P w=res at h⊢;cases res with
 |ok x w' =>
  cases x<;>simp only[Oper.upon,Oper.uponIn]at h⊢
  case value=>exact h
  case skip=>exact h
  case defer=>exact h
  case enter=>exact⟨DB,MO h⟩
  case row=>exact⟨DB,U4 h⟩
 |halt x w' =>
  cases x<;>simp only[Oper.upon,Oper.uponIn]at h⊢<;>exact h
theorem Ia{i:I}(h:aR P φ nt o i=true)(hb:∀d,i≠.bad d):∀c,o.op≠.defer c:=by
 intro c hc;cases i<;>simp[aR,hc]at h;all_goals exact absurd rfl (hb _)
theorem U5{F:Fence}{c:Code}(h:c.wpIn F n P (Exit.noGoto Q) a w):(Code.scope c).wpIn F n P Q a w:=by
 intro b k cs hro hb hr;have h0:(lone (b.atR a (.code (.scope c)::k)) cs w).fenced P F:=fenced_calm hb hr rfl;have s1:step P (lone (b.atR a (.code (.scope c)::k)) cs w) = .next (lone (b.atR a (.code c::.inScope c::k)) cs w):=step_lone_go (by simp[stepG,stepG.exec,Frame.atR])
 have s2:∀{a:Act}{w:World},step P (lone (b.atR a (.inScope c::k)) cs w) = .next (lone (b.atR a k) cs w):=step_lone_go (by simp[stepG,stepG.exec,Frame.atR])
 obtain⟨e,a₁,w₁,hq,xJ⟩:=h b (.inScope c::k) cs hro hb hr;cases e with
 |normal=>exact⟨.normal,a₁,w₁,hq,.head h0 s1 (StepsIn.trans xJ (.one (fenced_calm hb hr rfl) s2))⟩
 |exit id =>
  have hx:exitTo id (.inScope c::k)=exitTo id k:=by simp[exitTo]
  exact⟨.exit id,a₁,w₁,hq,λk' hk=>.head h0 s1 (xJ.1 k' (by rw[hx];exact hk)),
   λhr' hk=>let ⟨k₁,h1,h2⟩:=xJ.2 hr' (by rw[hx];exact hk);⟨k₁,h1,.head h0 s1 h2⟩⟩
 |goto l=>exact hq.elim
 |ret=>exact⟨_,a₁,w₁,hq,.of_steps (.one h0 s1) xJ⟩
 |panic ch=>exact⟨_,a₁,w₁,hq,.of_steps (.one h0 s1) xJ⟩
 |outgrown=>exact⟨_,a₁,w₁,hq,.of_steps (.one h0 s1) xJ⟩
def m0:Obj->Bool
 | .cells ..=>true
 |_=>false
theorem Ib{b D i:Nat}{x:Obj}(h:b≠D):(w.putObj D x).cell? ⟨b,i,none⟩=w.cell? ⟨b,i,none⟩:=v5 (World.putObj_heap_other h) i
theorem DC{D i:Nat}{x:Obj}(h:w.heap[D]?=some x)(hx:m0 x=false):w.cell? ⟨D,i,none⟩=none:=by
 simp only[World.cell?,h];cases x<;>simp[m0]at hx⊢
theorem Ic{I:Nat->Nat}{D:Nat}{x y:Obj}(h:w.heap[D]?=some x)(hx:m0 x=false)(hy:m0 y=false):Ext I w I (w.putObj D y):=
 ⟨λ_=>bZ _,λb i _=>by
  by_cases hb:b=D
  .subst hb
   rw[DC h hx,DC (World.putObj_heap_same (sE h)) hy]
  .exact Ib hb⟩
theorem Ie{h:List O}{D:Nat}{x y:Obj}(hh:w.heap[D]?=some x)(hx:m0 x=false)(hy:m0 y=false)(hn:∀k,(af h k).live=true->g.β k≠D):cT h g w h g (w.putObj D y) where
 ext:=Ic hh hx hy
 len:=bZ _
 arr n es _ he:=⟨he,rfl,rfl,rfl,iF.of_eq (World.putObj_heap_other (hn n (sA he)))⟩
 mp n _ hk:=⟨hk,rfl⟩
 lp n _ hk:=⟨hk,rfl⟩
theorem Ig{h:List O}{D:Nat}{x y:Obj}(hr:bT φ h g w)(hh:w.heap[D]?=some x)(hx:m0 x=false)(hy:m0 y=false)(hn:∀k,(af h k).live=true->g.β k≠D):bT φ h g (w.putObj D y) where
 obj n:=by
  by_cases hl:(af h n).live=true
  .exact ur (Ie hh hx hy hn) (World.putObj_heap_other (hn n hl)) rfl (hr.obj n)
  .cases hq:af h n<;>simp_all[O.live,cP]
 inj:=hr.inj
 new b hb:=hr.new b (by simpa using hb)
theorem Ih{h h':List O}{g':Gh}{w':World}{D:Nat}{x y:Obj}(hf:Frame m h g w h' g' w')(hh:w.heap[D]?=some x)(hy:m0 y=false)
  (hn:∀k,(af h k).live=true->g.β k≠D):Frame m h g (w.putObj D y) h' g' (w'.putObj D y) where
 ext:=⟨hf.ext.le,λb i hi=>by
  by_cases hb:b=D
  .subst hb
   have h1:=sE hh;rw[DC (World.putObj_heap_same h1) hy,DC (World.putObj_heap_same (je h1 hf.size)) hy]
  .rw[Ib hb,Ib hb];exact hf.ext.cell b i hi⟩
 size:=by simpa using hf.size
 os:=hf.os
 tape:=hf.tape
 output:=hf.output
 eU:=hf.eU
 keep b hb hl:=by
  have h1:=hf.keep b (by simpa using hb) hl
  refine⟨?_,h1.2⟩;by_cases Ii:b=D
  .subst Ii
   have h2:=sE hh;rw[World.putObj_heap_same h2,World.putObj_heap_same (je h2 hf.size)]
  .rw[World.putObj_heap_other Ii,World.putObj_heap_other Ii];exact h1.1
 gT k hk:=by simpa using hf.gT k hk
 jq k hk:=by
  have h1:=hf.jq k hk;refine⟨λes he=>?_,h1.mp,h1.lp⟩
  obtain⟨k1,k2,k3⟩:=h1.arr es he;have hb:=hn k (sA k1);have hb':g.β k≠D:=hb;refine⟨k1,k2,?_⟩;rw[World.putObj_heap_other hb',World.putObj_heap_other hb'];exact k3
theorem MP{h h':List O}{g':Gh}{w':World}{D:Nat}{x y:Obj}(hf:Frame m h g w h' g' w')(hr:bT φ h g w)(hD:w.heap.size<=D)(hh:w'.heap[D]?=some x)(hx:m0 x=false)(hy:m0 y=false):
  Frame m h g w h' g' (w'.putObj D y) where
 ext:=hf.ext.trans (Ic hh hx hy)
 size:=by simpa using hf.size
 os:=hf.os
 tape:=hf.tape
 output:=hf.output
 eU:=hf.eU
 keep b hb hl:=by
  have h1:=hf.keep b hb hl;exact⟨by rw[World.putObj_heap_other (by omega)];exact h1.1,h1.2⟩
 gT k hk:=hf.gT k hk
 jq k hk:=by
  have h1:=hf.jq k hk;refine⟨λes he=>?_,h1.mp,h1.lp⟩
  obtain⟨k1,k2,k3⟩:=h1.arr es he;have hb:=hr.block (sA k1);refine⟨k1,k2,?_⟩;rw[World.putObj_heap_other (by omega)]
  exact k3
theorem U6{D:Nat}{x y:Obj}:(w.putObj D x).putObj D y=w.putObj D y:=by
 simp[World.putObj]
theorem gU.put{h:List O}{ds:List Deferred}{D:Nat}{x y:Obj}(hd:gU dB h g ds w)(hh:w.heap[D]?=some x)(hx:∀l,x≠.deferred l):gU dB h g ds (w.putObj D y) where
 at_ d hm:=by
  obtain⟨E,h1,h2,h3,h4⟩:=hd.at_ d hm;refine⟨E,h1,h2,?_,h4⟩;rw[World.putObj_heap_other]
  .exact h3
  .intro he
   subst he;rw[hh]at h3;simp at h3;exact hx _ h3
 nodup:=hd.nodup
 le:=by simpa using hd.le
theorem aI.putObj{D:Nat}{x y:Obj}(hs:aI φ nt m dB s g a w)(hh:w.heap[D]?=some x)(hx:m0 x=false)(hd:∀l,x≠.deferred l)(hy:m0 y=false)(hn:∀k,(af s.heap k).live=true->g.β k≠D):
  aI φ nt m dB s g a (w.putObj D y) where
 env k:=fF (Ie hh hx hy hn) (hs.env k)
 heap:=Ig hs.heap hh hx hy hn
 size:=hs.size
 defers:=hs.defers.put hh hd
 len:=hs.len
end
end Go.VS
namespace Go.VS
def m6(rc:Loop)(e:Ex):Loop:={rc with state:=if e = .normal then .ready else .done,pending:=ou e}
def m7(P:Program)(φ:bX)(rec:Rec):Prop :=
 ∀(ps:List Nat)(A B:C)(xs:List V)(env:List (Nat×V))(h:List O)(e:Ex)(env':List (Nat×V))(h1:List O),rec (.round ps A B xs env h)=some (.out e env' h1) ->
 ∀(n:Nat)(r:Option Nat)(g:Gh)(w:World)(l:Nat)(rc:Loop)(nt:Nat)(args:List Value),φ.lk ps A B rc.assign rc.body nt->nt<=rc.tmps.size->rc.params=ps.toArray->bT φ h g w ->
  aB φ h g w xs args->uo φ h g w env rc.tmps->xs.length=ps.length->w.heap[l]?=some (.loop rc)->rc.state = .ready->(∀k,(af h k).live=true->g.β k≠l) ->
  RoundIn (Wd r) n P l rc.fn ((rc.params.zip args.toArray).foldl (λtmps (t,a)=>tmps.setIfInBounds t a) rc.tmps) rc.assign rc.body w λe' w' =>
   ∃g',e' = .returned (.bool (ou e).isNone)/\bT φ h1 g' w'/\Frame h.length h g (w.putObj l (.loop (m6 rc e))) h1 g' w'
section
variable {P:Program}{φ:bX}
variable {nt m dB:Nat}{s:St}{g:Gh}{a:Act}{w:World}{K:Act->World->Prop}{Q:Exit->Act->World->Prop}{o:Oper}
variable {r:Option Nat}{n:Nat}
theorem U7{rec:Rec}{h:List O}{x:V}{xs:List V}{v2:V}{h2:List O}(hc:lQ rec h x xs=some (v2,h2)):∃k ps A B env L e env' h1,x = .fC k/\af h k = .lp ps A B .normal env/\xs.length=ps.length /\
  cut (h.set k .dead) 0 (V.bW xs++bC env)=some L/\k∉L/\rec (.round ps A B (V.cu (L.idxOf ·) xs) (eE (L.idxOf ·) env) (sub (h.set k .dead) L))=some (.out e env' h1)/\L.length<=h1.length /\
  v2 = .d (.b (ou e).isNone)/\h2=hU (h.set k (.lp ps A B e env)) L h1:=by
 unfold lQ at hc;split at hc<;>try (simp at hc;done)
 rename_i k;split at hc<;>try (simp at hc;done)
 rename_i ps A B env hk;split at hc<;>try (simp at hc;done)
 rename_i hlen;split at hc<;>try (simp at hc;done)
 rename_i L hL;split at hc<;>try (simp at hc;done)
 rename_i hn;split at hc<;>try (simp at hc;done)
 rename_i e env' h1 hr;split at hc<;>try (simp at hc;done)
 rename_i hle;simp only[bF,gS]at hc;refine⟨k,ps,A,B,env,L,e,env',h1,rfl,hk,hlen,hL,hn,hr,hle,?_,?_⟩
 .rw[<-hc.1];cases e<;>rfl
 .rw[<-hc.2];simp[hU]
theorem sub_congr{h h':List O}{L:List Nat}(he:∀n∈L,af h n=af h' n):sub h L=sub h' L:=by
 unfold sub;exact mj λn hn=>by rw[he n hn]
theorem U8{D:Nat}{y:Obj}:fG w (w.putObj D y) D:=⟨by simp,λ_ hk=>World.putObj_heap_other hk,rfl,rfl,rfl⟩
theorem U9{h:List O}{L:List Nat}{env:List (Nat×V)}{tmps:Array Value}(hl:∀n∈bC env,n∈L)(hr:uo φ h g w env tmps):uo φ (sub h L) (dP g L) w (eE (L.idxOf ·) env) tmps:=by
 intro p hp;simp only[eE,dz]at hp;obtain⟨q,hq,rfl⟩:=hp;exact wI (λn hn=>hl n (BN hq hn)) (hr q hq)
theorem U'{h:List O}{L:List Nat}{k:Nat}(hr:bT φ h g w)(hk:k∉L)(hl:(af h k).live=true):∀j,(af (sub (h.set k .dead) L) j).live=true->(dP g L).β j≠g.β k:=by
 intro j hj hb;by_cases hlt:j<L.length
 .have hg:L[j]?=some L[j]:=by simp[hlt]
  have hne:L[j]≠k:=λhe=>hk (he▸m9 hlt)
  rw[fP hg,oE,jN hne]at hj;simp only[dP,List.getD,hg,jY]at hb;exact hne (hr.inj _ _ hj hl hb)
 .rw[rm (by omega)]at hj;simp[O.live]at hj
theorem Va{rec:Rec}(hy:m7 P φ rec)(hs:aI φ nt m dB s g a w){d:Option Nat}{x:A}{xs:List A}(hc:aR P φ nt o (.kE d x xs)=true)(hok:(aj rec (.kE d x xs) s).ok=true)
  (hK:bY φ nt m dB s g w (aj rec (.kE d x xs) s) o a K):o.wpIn (Wd r) n P a w K Q:=by
 have hdf:=Ia hc (by simp)
 simp only[aR,aA]at hc;obtain⟨hd,h⟩:=hc;split at h
 .rename_i c ho
  split at h
  .rename_i y dZ
   simp only[aA]at h;obtain⟨hx,hxs⟩:=h;simp only[aj]at hok hK;have rx:=b7 hs hx;have sI:=pP hs hxs;obtain⟨⟨v2,h2⟩,hv⟩:=pJ hok;rw[hv]at hK;obtain⟨k,ps,A,B,env,L,e,env',h1,Vb,hk,hlen,hL,BW,dH,hle,rfl,rfl⟩:=U7 hv;rw[Vb]at rx;simp only[ah]at rx;have kV:=rx.2.2 (by rw[hk];rfl)
   have hl:(af s.heap k).live=true:=by rw[hk];rfl
   have bA:=hs.heap.obj k;rw[hk]at bA;obtain⟨rc,qw,hb,hps,hlk,hnt,DD,hst,jO,hI⟩:=bA;simp only[aU]at hst;have mO:(c.args.toList.map a.eval).length=ps.length:=by
    rw[<-jo sI];exact hlen
   refine⟨λ_ _=>trivial,?_⟩
   rw[Oper.semAt_eq _ _ _ hdf];have Vc:=run_yield (P:=P) hb (args:=c.args.map a.eval) (by rw[hps];simpa using mO)
   have hrun:(execOp a.eval o).run P w = .ok (.round (g.β k) rc.fn ((rc.params.zip (c.args.map a.eval)).foldl (λtmps (t,a)=>tmps.setIfInBounds t a) rc.tmps) rc.assign rc.body) w:=by
    simp[execOp,ho,resolve,dZ,kV,Deferred.ofValue,invoke,Vc]
   rw[hrun,Oper.uponIn_round];refine⟨DB,?_⟩;obtain⟨hnd,p6,dO,_,_⟩:=uM hL;obtain⟨kS,kF,MQ⟩:=hs.kill hl s.ok;have MR:=hy ps A B _ _ _ e env' h1 dH (n - 1) r (dP g L) w (g.β k) rc qw (c.args.toList.map a.eval) hlk hnt hps (wJ hL kS.heap)
    (pZ (λn hn=>p6 n (Jo _ hn)) (pL MQ sI)) (U9 (λn hn=>p6 n (List.mem_append_right _ hn)) (EN MQ DD))
    (by rw[yT];exact hlen) hb hst (U' hs.heap BW hl)
   have hargs:(c.args.toList.map a.eval).toArray=c.args.map a.eval:=by rw[<-Array.toList_map]
   rw[hargs]at MR;refine RoundIn.mono MR λe' w' hh=>?_
   obtain⟨g1,rfl,iJ,hfr⟩:=hh;have ht:fG w (w.putObj (g.β k) (.loop (m6 rc e))) (g.β k):=U8;have hE:Ext g.I w g.I (w.putObj (g.β k) (.loop (m6 rc e))):=Ic hb rfl rfl;have fN:cT s.heap g w (s.heap.set k (.lp ps A B e env)) (g.bM g.I) (w.putObj (g.β k) (.loop (m6 rc e))):=
    nF hs.heap hl ht hE (λes he=>by simp[O.dg]at he) (λhk=>by simp[O.fL]at hk) (λ_=>by rw[hk];rfl)
   have hH:bT φ (s.heap.set k (.lp ps A B e env)) (g.bM g.I) (w.putObj (g.β k) (.loop (m6 rc e))):=
    nG hs.heap hl ht fN (λ_ _=>rfl) ⟨m6 rc e,qw,World.putObj_heap_same (sE hb),hps,hlk,hnt,EN fN DD,rfl,rfl,hI⟩
   have iX:=nH (m:=m) (.lp ps A B e env) hl ht hE (λ_ _=>rfl) fN
   have hsub:sub (s.heap.set k .dead) L=sub (s.heap.set k (.lp ps A B e env)) L:=sub_congr λn hn=>by
    have hne:n≠k:=λhe=>BW (he▸hn)
    rw[jN hne,jN hne]
   rw[hsub,iy]at hfr;have M:fR φ (s.heap.set k (.lp ps A B e env)) L g (w.putObj (g.β k) (.loop (m6 rc e))) h1 g1 w':=⟨hH,hnd,λn hn=>by simpa using(dO n hn).1,hle,iJ,hfr⟩
   have hlen':m<=(s.heap.set k (.lp ps A B e env)).length:=by simpa using hs.len
   have hF:=iX.trans (M.frame hlen');have hS:∀ok,aI φ nt m dB ⟨s.env,hU (s.heap.set k (.lp ps A B e env)) L h1,ok⟩ (fK (s.heap.set k (.lp ps A B e env)) L g g1) a w':=λok =>
    ⟨λj=>fF (fN.trans M.hle) (hs.env j),M.cM,hs.size,hs.defers.frame hF,ig hlen' M.hle.len⟩
   obtain⟨e1,e2⟩:=uC hd;refine hK (fK (s.heap.set k (.lp ps A B e env)) L g g1) (.bool (ou e).isNone) w' ?_ ?_
   .rw[e1]
    cases d with
    |none=>exact hS _
    |some d=>exact(hS s.ok).lT (e2 d rfl) (by simp[ah,aC])
   .cases d with
    |none=>exact hF
    |some d=>exact hF
  .simp at h
 .simp at h
theorem MS{rec:Rec}(hq:gW P φ rec)(hy:m7 P φ rec)(hs:aI φ nt m dB s g a w){i:I}(hc:aR P φ nt o i=true)(hok:(aj rec i s).ok=true)
  (hK:bY φ nt m dB s g w (aj rec i s) o a K):o.wpIn (Wd r) n P a w K Q:=by
 by_cases hi:i.DA=true
 .cases i<;>simp[I.DA]at hi
  exact Va hy hs hc hok hK
 .refine H9 (Ia hc λd he=>?_) (U3 hq hs hc (by simpa using hi) hok hK)
  subst he;simp[aj,St.fail]at hok
end
end Go.VS
namespace Go.VS
def I.reads:I->List A
 | .mv _ x=>[x]
 | .pick _ c a b=>[c,a,b]
 | .box _ x _ _=>[x]
 | .new ..=>[]
 | .build _ _ ps=>ps.map λp=>p.2.2
 | .jh _ _ _ _ ps _=>ps.map λp=>p.2
 | .ld _ x _ _=>[x]
 | .st x y _ _=>[x,y]
 | .fa _ x _ _=>[x]
 | .fD _ x i _=>[x,i]
 | .bin _ _ x y=>[x,y]
 | .jZ _ _ x _=>[x]
 | .un _ _ x=>[x]
 | .len _ x _=>[x]
 | .sl _ x lo hi _ | .sle _ x lo hi _=>x::(lo.toList++hi.toList)
 | .app _ x y _=>[x,y]
 | .lI _ x _ _=>[x]
 | .copy _ x y _=>[x,y]
 | .ext _ x _=>[x]
 | .iB _ _ a b=>a++b
 | .mq _=>[]
 | .ji m k v _=>[m,k,v]
 | .jj _ m k _ _ _=>[m,k]
 | .iC m k _=>[m,k]
 | .mu _ m k _ _=>[m,k]
 | .lJ m k v=>[m,k,v]
 | .n9 _ x=>[x]
 | .ni _ x=>[x]
 | .call _ _ xs=>xs
 | .jJ _ _ xs=>xs
 | .iS _ _ xs=>xs
 | .j0 _ x xs=>x::xs
 | .lK _ x xs=>x::xs
 | .mB _ x=>[x]
 | .lM _ x lo hi mz _=>[x,lo,hi,mz]
 | .cap _ x=>[x]
 | .mC _ x k _ _=>[x,k]
 | .mD _ _ x y _=>[x,y]
 | .bad _=>[]
 | .lN _ x _ _=>[x]
 | .mE _ x _ _=>[x]
 | .kE _ x xs=>x::xs
 | .oa _ m k _ _=>[m,k]
 | .nj _ x y _=>[x,y]
 | .lO _ _ xs=>xs
 | .calls _ _ xs=>xs
def I.quiet:I->Bool
 | .mv .. | .pick .. | .build .. | .ld .. | .fa .. | .fD .. | .bin .. | .jZ .. | .un .. | .len .. | .sl .. | .ext .. | .iB .. | .jj .. | .ni ..
 | .call .. | .j0 .. | .mB .. | .lM .. | .cap .. | .mD .. | .lN .. | .mE .. | .calls ..=>true
 | .box _ _ _ fz=>fz
 | .jh _ _ _ _ _ fz=>fz
 |_=>false
def I.blind:I->Bool
 | .mv .. | .pick .. | .build .. | .bin .. | .un .. | .ext .. | .iB .. | .call .. | .j0 .. | .mB .. | .lN .. | .mE ..=>true
 | .box _ _ _ fz=>fz
 | .jh _ _ _ _ _ fz=>fz
 |_=>false
def W(d:Option Nat)(v:V):List (Nat×V):=
 match d with
 |some d=>[(d,v)]
 |none=>[]
def Alike(q:Bool)(d:Option Nat)(s s' r r':St):Prop :=
 r.ok=true->s'.ok=true->r'.ok=true/\∃v,r.env=W d v++s.env/\r'.env=W d v++s'.env/\((r.heap=s.heap/\r'.heap=s'.heap)\/(q=false/\r.heap=r'.heap))
section
variable {q:Bool}{s s':St}
theorem Alike.put{d:Nat}{v:V}:Alike q (some d) s s' (s.put d v) (s'.put d v):=λ_ h'=>⟨h',v,rfl,rfl,.inl ⟨rfl,rfl⟩⟩
theorem Alike.cr{d:Nat}{o:Option V}:Alike q (some d) s s' (s.cr d o) (s'.cr d o):=by
 cases o with
 |none=>intro h;simp[St.cr,St.fail]at h
 |some v=>exact Alike.put
theorem Alike.fail{d:Option Nat}{r:St}:Alike q d s s' s.fail r:=λh=>by simp[St.fail]at h
theorem Alike.skip{r:St}(hr:r=s'):Alike q none s s' s r:=by subst hr;exact λ_ h'=>⟨h',.u,rfl,rfl,.inl ⟨rfl,rfl⟩⟩
theorem Alike.ct{d:Nat}{o:Option (V×List O)}:Alike false (some d) s s' (s.ct d o) (s'.ct d o):=by
 cases o with
 |none=>intro h;simp[St.ct,St.fail]at h
 |some p=>exact λ_ h'=>⟨h',p.1,rfl,rfl,.inr ⟨rfl,rfl⟩⟩
theorem Alike.gC{d:Option Nat}{o:Option (V×List O)}:Alike false d s s' (s.gC d o) (s'.gC d o):=by
 cases o with
 |none=>intro h;simp[St.gC,St.fail]at h
 |some p =>
  cases d with
  |none=>exact λ_ h'=>⟨h',.u,rfl,rfl,.inr ⟨rfl,rfl⟩⟩
  |some d=>exact λ_ h'=>⟨h',p.1,rfl,rfl,.inr ⟨rfl,rfl⟩⟩
theorem Alike.iU{d:Option Nat}{o:Option V}:Alike q d s s' (s.iU d o) (s'.iU d o):=by
 cases o with
 |none=>intro h;simp[St.iU,St.fail]at h
 |some v =>
  cases d with
  |none=>exact λ_ h'=>⟨h',.u,rfl,rfl,.inl ⟨rfl,rfl⟩⟩
  |some d=>exact λ_ h'=>⟨h',v,rfl,rfl,.inl ⟨rfl,rfl⟩⟩
theorem Alike.jl{o:Option (List O)}:Alike false none s s' (s.jl o) (s'.jl o):=by
 cases o with
 |none=>intro h;simp[St.jl,St.fail]at h
 |some h=>exact λ_ h'=>⟨h',.u,rfl,rfl,.inr ⟨rfl,rfl⟩⟩
end
theorem qx{s s':St}{xs:List A}(h:∀x∈xs,s.get x=s'.get x):xs.map s'.get=xs.map s.get:=mj λx hx=>(h x hx).symm
theorem DE{s s':St}{dflt:Int}{x:Option A}(h:∀a∈x.toList,s.get a=s'.get a):nr s' dflt x=nr s dflt x:=by
 cases x with
 |none=>rfl
 |some a=>simp[nr,h a (by simp)]
theorem DF{rec:Rec}{i:I}{s s':St}(h:∀x∈i.reads,s.get x=s'.get x)(hh:s.heap=s'.heap\/i.blind=true):Alike i.quiet i.wr s s' (aj rec i s) (aj rec i s'):=by
 cases i with
 |box d x n fz =>
  have hx:=h x (by simp[I.reads])
  simp only[aj,<-hx];split
  .cases fz with
   |true=>exact Alike.put
   |false=>simp[I.blind]at hh;simp only[<-hh,I.quiet,eD,cB];exact Alike.ct
  .exact Alike.fail
 |jh d es n z ps fz =>
  have hx:(ps.map λp=>(p.1,s'.get p.2))=ps.map λp=>(p.1,s.get p.2):=mj λp hp=>by rw[h p.2 (by simp only[I.reads];exact dz.2 ⟨p,hp,rfl⟩)]
  simp only[aj,hx];cases fz with
  |true=>exact Alike.cr
  |false=>simp[I.blind]at hh;simp only[<-hh,I.quiet,eD,cB];exact Alike.ct
 |build d z ps =>
  have hx:(ps.map λp=>(p.1,p.2.1,s'.get p.2.2))=ps.map λp=>(p.1,p.2.1,s.get p.2.2):=mj λp hp=>by rw[h p.2.2 (by simp only[I.reads];exact dz.2 ⟨p,hp,rfl⟩)]
  simp only[aj,hx];exact Alike.cr
 |st x y n fz =>
  have hx:=h x (by simp[I.reads])
  have hy:=h y (by simp[I.reads])
  simp[I.blind]at hh;simp only[aj,<-hx,<-hy,<-hh,I.quiet];cases fz with
  |false =>
   have:(I.st x y n false).wr=none:=by cases x<;>rfl
   rw[this];exact Alike.jl
  |true =>
   cases x with
   |k z=>simp only[aU];exact Alike.fail
   |t d =>
    simp only[aU,I.wr];generalize s.get (.t d)=v;cases v with
    |loc m r c =>
     cases r with
     |succ r=>exact Alike.fail
     |zero =>
      cases c with
      |succ c=>exact Alike.fail
      |zero =>
       simp only;split
       .split
        .exact Alike.ct
        .exact Alike.fail
       .exact Alike.fail
    |_=>exact Alike.fail
 |pick d c a b =>
  have hc:=h c (by simp[I.reads]);have ha:=h a (by simp[I.reads]);have hb:=h b (by simp[I.reads])
  simp only[aj,<-hc,<-ha,<-hb];split
  .exact Alike.put
  .exact Alike.fail
 |mB d x =>
  have hx:=h x (by simp[I.reads])
  simp only[aj,<-hx];split<;>first |exact Alike.put |exact Alike.fail
 |iB d f a b =>
  have ha:=qx (xs:=a) (λx hx=>h x (by simp[I.reads,hx]))
  have hb:=qx (xs:=b) (λx hx=>h x (by simp[I.reads,hx]))
  simp only[aj,ha,hb];split<;>exact Alike.put
 |call d f xs =>
  simp only[aj,qx (xs:=xs) h];exact Alike.iU
 |j0 d x xs =>
  have hx:=h x (by simp[I.reads])
  simp only[aj,<-hx,qx (xs:=xs) (λy hy=>h y (by simp[I.reads,hy]))]
  exact Alike.iU
 |jJ d f xs =>
  simp[I.blind]at hh;simp only[aj,qx (xs:=xs) h,<-hh];exact Alike.gC
 |iS d f xs =>
  simp[I.blind]at hh;simp only[aj,qx (xs:=xs) h,<-hh];exact Alike.gC
 |lK d x xs =>
  have hx:=h x (by simp[I.reads])
  simp[I.blind]at hh;simp only[aj,<-hx,qx (xs:=xs) (λy hy=>h y (by simp[I.reads,hy])),<-hh]
  exact Alike.gC
 |nj d x y es =>
  have hx:=h x (by simp[I.reads]);have hy:=h y (by simp[I.reads])
  simp[I.blind]at hh;simp only[aj,<-hx,<-hy,<-hh];exact Alike.ct
 |lO d f xs =>
  simp[I.blind]at hh;simp only[aj,qx (xs:=xs) h,<-hh];exact Alike.ct
 |calls d f xs =>
  simp[I.blind]at hh;simp only[aj,qx (xs:=xs) h,<-hh];exact Alike.iU
 |kE d x xs =>
  have hx:=h x (by simp[I.reads])
  simp[I.blind]at hh;simp only[aj,<-hx,qx (xs:=xs) (λy hy=>h y (by simp[I.reads,hy])),<-hh]
  exact Alike.gC
 |sl d x lo hi es =>
  have hx:=h x (by simp[I.reads])
  simp[I.blind]at hh;simp only[aj,<-hx,<-hh,DE (s:=s) (s':=s') (x:=lo) (λa ha=>h a (by simp only[I.reads];simp at ha;simp[ha])),DE (s:=s) (s':=s') (x:=hi) (λa ha=>h a (by simp only[I.reads];simp at ha;simp[ha]))]
  exact Alike.cr
 |sle d x lo hi es =>
  have hx:=h x (by simp[I.reads])
  simp[I.blind]at hh;simp only[aj,<-hx,<-hh,DE (s:=s) (s':=s') (x:=lo) (λa ha=>h a (by simp only[I.reads];simp at ha;simp[ha])),DE (s:=s) (s':=s') (x:=hi) (λa ha=>h a (by simp only[I.reads];simp at ha;simp[ha]))]
  exact Alike.ct
 |new d z=>simp[I.blind]at hh;simp only[aj,<-hh];exact Alike.ct
 |mq d=>simp[I.blind]at hh;simp only[aj,<-hh];exact Alike.ct
 |app d x y es =>
  have hx:=h x (by simp[I.reads]);have hy:=h y (by simp[I.reads])
  simp[I.blind]at hh;simp only[aj,<-hx,<-hy,<-hh];exact Alike.ct
 |copy d x y es =>
  have hx:=h x (by simp[I.reads]);have hy:=h y (by simp[I.reads])
  simp[I.blind]at hh;simp only[aj,<-hx,<-hy,<-hh];exact Alike.gC
 |lI d x es z =>
  have hx:=h x (by simp[I.reads])
  simp[I.blind]at hh;simp only[aj,<-hx,<-hh];exact Alike.gC
 |ji a b c ks =>
  have ha:=h a (by simp[I.reads]);have hb:=h b (by simp[I.reads]);have hc:=h c (by simp[I.reads])
  simp[I.blind]at hh;simp only[aj,<-ha,<-hb,<-hc,<-hh];exact Alike.jl
 |n9 d x =>
  have hx:=h x (by simp[I.reads])
  simp[I.blind]at hh;simp only[aj,<-hx,<-hh];exact Alike.ct
 |ni d x =>
  have hx:=h x (by simp[I.reads])
  simp[I.blind]at hh;simp only[aj,<-hx,<-hh];exact Alike.cr
 |lJ a b c =>
  have ha:=h a (by simp[I.reads]);have hb:=h b (by simp[I.reads]);have hc:=h c (by simp[I.reads])
  simp[I.blind]at hh;simp only[aj,<-ha,<-hb,<-hc,<-hh];exact Alike.jl
 |mu d a b z ks =>
  have ha:=h a (by simp[I.reads]);have hb:=h b (by simp[I.reads])
  simp[I.blind]at hh;simp only[aj,<-ha,<-hb,<-hh];exact Alike.ct
 |iC a b ks =>
  have ha:=h a (by simp[I.reads]);have hb:=h b (by simp[I.reads])
  simp[I.blind]at hh;simp only[aj,<-ha,<-hb,<-hh];exact Alike.jl
 |oa d a b z ks =>
  have ha:=h a (by simp[I.reads]);have hb:=h b (by simp[I.reads])
  simp[I.blind]at hh;simp only[aj,<-ha,<-hb,<-hh];exact Alike.ct
 |jj d a b z ok ks =>
  have ha:=h a (by simp[I.reads]);have hb:=h b (by simp[I.reads])
  simp[I.blind]at hh;simp only[aj,<-ha,<-hb,<-hh];exact Alike.cr
 |fD d a b es =>
  have ha:=h a (by simp[I.reads]);have hb:=h b (by simp[I.reads])
  simp[I.blind]at hh;simp only[aj,<-ha,<-hb,<-hh];exact Alike.cr
 |bin d op a b =>
  have ha:=h a (by simp[I.reads]);have hb:=h b (by simp[I.reads])
  simp only[aj,<-ha,<-hb];exact Alike.cr
 |ld d x n ag=>have hx:=h x (by simp[I.reads]);simp[I.blind]at hh;simp only[aj,<-hx,<-hh];exact Alike.cr
 |fa d x n ag=>have hx:=h x (by simp[I.reads]);simp[I.blind]at hh;simp only[aj,<-hx,<-hh];exact Alike.cr
 |jZ d neg x k=>have hx:=h x (by simp[I.reads]);simp[I.blind]at hh;simp only[aj,<-hx,<-hh];exact Alike.cr
 |len d x k=>have hx:=h x (by simp[I.reads]);simp[I.blind]at hh;simp only[aj,<-hx,<-hh];exact Alike.cr
 |un d op x=>have hx:=h x (by simp[I.reads]);simp only[aj,<-hx];exact Alike.cr
 |ext d x i=>have hx:=h x (by simp[I.reads]);simp only[aj,<-hx];exact Alike.cr
 |lM d x lo hi mz es =>
  have hx:=h x (by simp[I.reads]);have hl:=h lo (by simp[I.reads]);have hi:=h hi (by simp[I.reads]);have hm:=h mz (by simp[I.reads])
  simp[I.blind]at hh;simp only[aj,<-hx,<-hl,<-hi,<-hm,<-hh];exact Alike.cr
 |cap d x=>have hx:=h x (by simp[I.reads]);simp[I.blind]at hh;simp only[aj,<-hx,<-hh];exact Alike.cr
 |mC d x k es z =>
  have hx:=h x (by simp[I.reads]);have hk:=h k (by simp[I.reads])
  simp[I.blind]at hh;simp only[aj,<-hx,<-hk,<-hh];exact Alike.ct
 |mD d f x y es =>
  have hx:=h x (by simp[I.reads]);have hy:=h y (by simp[I.reads])
  simp[I.blind]at hh;simp only[aj,<-hx,<-hy,<-hh];exact Alike.cr
 |bad d=>exact Alike.fail
 |lN d x n ag=>have hx:=h x (by simp[I.reads]);simp only[aj,<-hx];exact Alike.cr
 |mE d x n ag=>have hx:=h x (by simp[I.reads]);simp only[aj,<-hx];exact Alike.cr
 |mv d x=>have hx:=h x (by simp[I.reads]);simp only[aj,<-hx];exact Alike.put
end Go.VS
namespace Go.VS
structure X where
 i:I
 g:Option (Nat×Bool)
mutual
def J.flat(g:Option (Nat×Bool)):J->List X
 | .op i=>[⟨i,g⟩]
 | .sc cm d c body x=>J.dK (some (c,!cm)) body++[⟨.pick d (.t c) (if cm then .k (.b true)else x) (if cm then x else .k (.b false)),g⟩]
 | .re _=>[]
def J.dK(g:Option (Nat×Bool)):List J->List X
 | []=>[]
 |j::r=>j.flat g++J.dK g r
end
def rR(i:I)(s:St):St:=⟨W i.wr .fB++s.env,s.heap,s.ok⟩
def fj(rec:Rec)(x:X)(s:St):St :=
 match x.g with
 |none=>aj rec x.i s
 |some (c,want) =>
  match aK s.env c with
  | .d (.b b)=>if b=want then aj rec x.i s else rR x.i s
  | .fB=>rR x.i s
  |_=>s.fail
def bV(rec:Rec):List X->St->St
 | [],s=>s
 |x::r,s=>bV rec r (fj rec x s)
theorem qy{rec:Rec}:∀(xs ys:List X)(s:St),bV rec (xs++ys) s=bV rec ys (bV rec xs s)
 | [],_,_=>rfl
 |x::xs,ys,s=>by simp only[qJ,bV];exact qy xs ys _
theorem Vd{rec:Rec}{x:X}{s:St}(h:(fj rec x s).ok=true):s.ok=true:=by
 unfold fj at h;split at h
 .exact Ba h
 .split at h
  .split at h
   .exact Ba h
   .exact h
  .exact h
  .simp at h
theorem Ak{rec:Rec}:∀{xs:List X}{s:St},(bV rec xs s).ok=true->s.ok=true
 | [],_,h=>h
 |_::_,_,h=>Vd (Ak (by simpa only[bV]using h))
theorem rS{d:Option Nat}{v:V}{e:List (Nat×V)}{t:Nat}(h:t∉d.toList):aK (W d v++e) t=aK e t:=by
 cases d with
 |none=>rfl
 |some d =>
  have:d≠t:=λh1=>h (by simp[h1])
  simp[W,aK,this]
theorem rT{d:Option Nat}{v:V}{e:List (Nat×V)}{t:Nat}(h:t∈d.toList):aK (W d v++e) t=v:=by
 cases d with
 |none=>simp at h
 |some d =>
  have:t=d:=by simpa using h
  simp[W,aK,this]
theorem xK{e:List (Nat×V)}{t:Nat}:∀{ds:List Nat},aK (jK ds e) t=if t∈ds then .u else aK e t
 | []=>by simp[jK]
 |d::ds=>by
  simp only[jK,aK,xK (ds:=ds),aY];by_cases h:d=t
  .simp[h]
  .have h':¬t=d:=λe=>h e.symm
   simp[h,h']
theorem MT{rec:Rec}{i:I}{s:St}(h:(aj rec i s).ok=true):∃v,(aj rec i s).env=W i.wr v++s.env/\(i.quiet=true->(aj rec i s).heap=s.heap):=by
 obtain⟨_,v,he,_,hh⟩:=DF (rec:=rec) (i:=i) (s:=s) (s':=s) (λ_ _=>rfl) (.inl rfl) h (Ba h)
 refine⟨v,he,λhq=>?_⟩
 rcases hh with h1 |h1
 .exact h1.1
 .rw[hq]at h1;simp at h1
theorem DG{rec:Rec}{x:X}{s:St}(h:(fj rec x s).ok=true):∃v,(fj rec x s).env=W x.i.wr v++s.env/\(x.i.quiet=true->(fj rec x s).heap=s.heap):=by
 cases x with
 |mk i g =>
  cases g with
  |none=>exact MT h
  |some p =>
   obtain⟨c,want⟩:=p;simp only[fj]at h⊢;generalize aK s.env c=v at *;cases v with
   |d y =>
    cases y with
    |b b =>
     simp only at h⊢;split at h
     .rename_i hw;rw[aN hw];exact MT h
     .rename_i hw;rw[aF hw];exact⟨.fB,rfl,λ_=>rfl⟩
    |_=>simp at h
   |fB=>exact⟨.fB,rfl,λ_=>rfl⟩
   |_=>simp at h
def J.xL:J->List Nat
 | .sc _ _ _ body _=>J.fX body
 |_=>[]
def J.Al:List J->List Nat
 | []=>[]
 |j::r=>J.Al r++j.xL
def A.slots:A->List Nat
 | .t n=>[n]
 | .k _=>[]
def m8(xs T:List Nat):Bool:=xs.all λx=>!T.contains x
def I.slots(i:I):List Nat:=i.reads.flatMap A.slots
mutual
def J.tE(top:Bool)(T S:List Nat):J->Bool
 | .op i=>m8 i.slots T&&(top||(match i with | .st ..=>false |_=>true))
 | .sc _ d c body x=>!T.contains c&&!(J.fX body).contains c&&J.nT false T [] body&&m8 x.slots (J.Al body++T)&&(top||S.contains c)&&d != c
 | .re i=>top&&m8 i.slots T&&i.quiet&&(match i.wr with |some d=>!T.contains d |none=>false)
def J.nT(top:Bool)(T S:List Nat):List J->Bool
 | []=>true
 |j::r=>J.tE top T S j&&J.nT top (j.xL++T) (S++j.kL) r
end
structure Ag(T:List Nat)(s s':St):Prop where
 heap:s.heap=s'.heap
 ok:s'.ok=true
 env:∀t,t∉T->aK s.env t=aK s'.env t
 low:∀t,aK s.env t = .u\/aK s.env t=aK s'.env t
theorem Am{xs T:List Nat}(h:m8 xs T=true){x:Nat}(hx:x∈xs):x∉T:=by
 simp only[m8,jG]at h;simpa using h x hx
theorem Ag.get{T:List Nat}{s s':St}(h:Ag T s s'){x:A}(hx:m8 x.slots T=true):s.get x=s'.get x:=by
 cases x with
 |k y=>rfl
 |t n=>exact h.env n (Am hx (by simp[A.slots]))
theorem Ag.reads{T:List Nat}{s s':St}(h:Ag T s s'){i:I}(hi:m8 i.slots T=true):∀x∈i.reads,s.get x=s'.get x:=by
 intro x hx;refine h.get ?_;simp only[m8,jG]at hi⊢;intro n hn;exact hi n (by simp only[I.slots];exact dG.2 ⟨x,hx,hn⟩)
theorem Ag.op{T:List Nat}{s s':St}(h:Ag T s s'){rec:Rec}{i:I}(hi:m8 i.slots T=true)(hok:(aj rec i s).ok=true):Ag T (aj rec i s) (aj rec i s'):=by
 obtain⟨h1,v,h2,h3,h4⟩:=DF (rec:=rec) (h.reads hi) (.inl h.heap) hok h.ok;refine⟨?_,h1,λt ht=>?_,λt=>?_⟩
 .rcases h4 with h4 |h4
  .rw[h4.1,h4.2];exact h.heap
  .exact h4.2
 .rw[h2,h3]
  by_cases hw:t∈i.wr.toList
  .rw[rT hw,rT hw]
  .rw[rS hw,rS hw];exact h.env t ht
 .rw[h2,h3]
  by_cases hw:t∈i.wr.toList
  .rw[rT hw,rT hw];exact .inr rfl
  .rw[rS hw,rS hw];exact h.low t
def oS(g:Option (Nat×Bool))(s:St):Prop :=
 match g with
 |none=>True
 |some (c,want)=>aK s.env c = .d (.b want)
def oT(g:Option (Nat×Bool))(s:St):Prop :=
 match g with
 |none=>False
 |some (c,want)=>aK s.env c = .d (.b (!want))\/aK s.env c = .fB
theorem Ij{rec:Rec}{i:I}{g:Option (Nat×Bool)}{s:St}(h:oS g s):fj rec ⟨i,g⟩ s=aj rec i s:=by
 unfold fj;cases g with
 |none=>rfl
 |some p =>
  obtain⟨c,want⟩:=p;simp only[oS]at h;simp[h]
theorem MU{rec:Rec}{i:I}{g:Option (Nat×Bool)}{s:St}(h:oT g s):fj rec ⟨i,g⟩ s=rR i s:=by
 unfold fj;cases g with
 |none=>exact h.elim
 |some p =>
  obtain⟨c,want⟩:=p;simp only[oT]at h;rcases h with h |h<;>simp[h]
def An(g:Option (Nat×Bool))(ds:List Nat):Prop:=∀c want,g=some (c,want)->c∉ds
mutual
theorem MV{rec:Rec}:∀{j:J}{g:Option (Nat×Bool)}{s:St},(bV rec (j.flat g) s).ok=true->∀t,t∉j.kL->aK (bV rec (j.flat g) s).env t=aK s.env t
 | .op i,g,s,h,t,ht=>by
  simp only[J.flat,bV,J.kL]at *;obtain⟨v,he,_⟩:=DG h;rw[he,rS ht]
 | .re i,g,s,h,t,ht=>by simp[J.flat,bV]
 | .sc cm d c body x,g,s,h,t,ht=>by
  simp only[J.flat,qy,J.kL,aY,dc]at *;have h1:=Ak h;simp only[bV]at h⊢;obtain⟨v,he,_⟩:=DG h;rw[he,rS (by simp[I.wr,I.dst];exact ht.1)]
  exact Ik h1 t ht.2
theorem Ik{rec:Rec}:∀{js:List J}{g:Option (Nat×Bool)}{s:St},(bV rec (J.dK g js) s).ok=true->∀t,t∉J.fX js->aK (bV rec (J.dK g js) s).env t=aK s.env t
 | [],g,s,h,t,ht=>by simp[J.dK,bV]
 |j::r,g,s,h,t,ht=>by
  simp only[J.dK,qy,J.fX,aL,dc]at *;rw[Ik h t ht.2,MV (Ak h) t ht.1]
end
theorem oS.mono{g:Option (Nat×Bool)}{s s':St}(h:oS g s)(he:∀c want,g=some (c,want)->aK s'.env c=aK s.env c):oS g s':=by
 cases g with
 |none=>trivial
 |some p=>simp only[oS]at *;rw[he p.1 p.2 rfl];exact h
theorem oT.mono{g:Option (Nat×Bool)}{s s':St}(h:oT g s)(he:∀c want,g=some (c,want)->aK s'.env c=aK s.env c):oT g s':=by
 cases g with
 |none=>exact h
 |some p=>simp only[oT]at *;rw[he p.1 p.2 rfl];exact h
theorem MW{i:I}{s:St}(t:Nat):aK (rR i s).env t=if t∈i.wr.toList then .fB else aK s.env t:=by
 simp only[rR];split
 .rename_i h;exact rT h
 .rename_i h;exact rS h
structure MX(ds:List Nat)(s s':St):Prop where
 heap:s'.heap=s.heap
 ok:s'.ok=true
 env:∀t,aK s'.env t=if t∈ds then .fB else aK s.env t
mutual
theorem Ve{rec:Rec}:∀{j:J}{T S:List Nat}{g:Option (Nat×Bool)}{s:St},J.tE false T S j=true->(∀t∈S,aK s.env t = .fB)->s.ok=true->An g j.kL->oT g s ->
  MX j.kL s (bV rec (j.flat g) s)
 | .op i,T,S,g,s,hf,hS,hok,hg,ho=>by
  simp only[J.flat,bV,J.kL];rw[MU ho];exact⟨rfl,hok,λt=>MW t⟩
 | .re i,T,S,g,s,hf,hS,hok,hg,ho=>by simp[J.tE]at hf
 | .sc cm d c body x,T,S,g,s,hf,hS,hok,hg,ho=>by
  simp only[J.tE,aA,Bool.false_or,lF,En,fu,Ev,AJ]at hf;obtain⟨⟨⟨⟨⟨h1,h2⟩,h3⟩,h4⟩,h5⟩,h6⟩:=hf;have hb:=Il (rec:=rec) (g:=some (c,!cm)) (s:=s) h3 (by simp) hok (λc' w he=>by simp at he;rw[<-he.1];exact h2) (by simp only[oT];exact .inr (hS c h5))
  simp only[J.flat,qy,J.kL];have ho':oT g (bV rec (J.dK (some (c,!cm)) body) s):=ho.mono λc' w he=>by
   have:=hg c' w he;simp only[J.kL,aY,dc]at this;rw[hb.env,aF this.2]
  simp only[bV];rw[MU ho'];refine⟨hb.heap,hb.ok,λt=>?_⟩
  rw[MW,hb.env];simp only[I.wr,I.dst,Option.mem_toList,bF,aY];by_cases jc:d=t
  .simp[jc]
  .have:¬t=d:=λe=>jc e.symm
   simp[jc,this]
theorem Il{rec:Rec}:∀{js:List J}{T S:List Nat}{g:Option (Nat×Bool)}{s:St},J.nT false T S js=true->(∀t∈S,aK s.env t = .fB)->s.ok=true->An g (J.fX js)->oT g s ->
  MX (J.fX js) s (bV rec (J.dK g js) s)
 | [],T,S,g,s,hf,hS,hok,hg,ho=>by simp only[J.dK,bV,J.fX];exact⟨rfl,hok,λt=>by simp⟩
 |j::r,T,S,g,s,hf,hS,hok,hg,ho=>by
  simp only[J.nT,aA]at hf;have hj:=Ve (rec:=rec) hf.1 hS hok (λc w he=>by have:=hg c w he;simp only[J.fX,aL,dc]at this;exact this.1) ho
  have hr:=Il (rec:=rec) (g:=g) (s:=bV rec (j.flat g) s) hf.2 (λt ht=>by
    rw[hj.env];rcases aL.1 ht with h1 |h1
    .rw[hS t h1];simp
    .rw[aN h1]) hj.ok (λc w he=>by have:=hg c w he;simp only[J.fX,aL,dc]at this;exact this.2)
   (ho.mono λc w he=>by have:=hg c w he;simp only[J.fX,aL,dc]at this;rw[hj.env,aF this.1])
  simp only[J.dK,qy,J.fX];refine⟨hr.heap.trans hj.heap,hr.ok,λt=>?_⟩
  rw[hr.env,hj.env];by_cases h1:t∈J.fX r<;>by_cases h2:t∈j.kL<;>simp[h1,h2]
end
mutual
theorem MY{rec:Rec}:∀{j:J}{top:Bool}{T S:List Nat}{g:Option (Nat×Bool)}{s s':St},J.tE top T S j=true->Ag T s s'->An g j.kL->oS g s'->(eJ rec j s).ok=true ->
  Ag (j.xL++T) (eJ rec j s) (bV rec (j.flat g) s')
 | .op i,top,T,S,g,s,s',hf,ha,hg,hact,hok=>by
  simp only[J.tE,aA]at hf;simp only[J.flat,bV,eJ,J.xL,jW]at *;rw[Ij hact];exact ha.op hf.1 hok
 | .re i,top,T,S,g,s,s',hf,ha,hg,hact,hok=>by
  simp only[J.flat,bV,eJ,J.xL,jW]at *;unfold again at *;split at hok
  .split at hok
   .rename_i h;rw[aN h];exact ha
   .simp at hok
  .simp at hok
 | .sc cm d c body x,top,T,S,g,s,s',hf,ha,hg,hact,hok=>by
  simp only[J.tE,aA,lF,En,fu,Ev,AJ]at hf;obtain⟨⟨⟨⟨⟨h1,h2⟩,h3⟩,h4⟩,h5⟩,h6⟩:=hf;have hc:s.get (.t c)=aK s'.env c:=ha.env c h1;have MZ:An (some (c,!cm)) (J.fX body):=λc' w he=>by simp at he;rw[<-he.1];exact h2
  simp only[J.flat,qy,eJ,J.xL]at *;split at hok
  .rename_i gv Ao
   rw[hc]at Ao;split at hok
   ·
    rename_i heq;subst heq;rw[aN rfl];have hb:=Il (rec:=rec) (g:=some (c,!gv)) (s:=s') h3 (by simp) ha.ok MZ (by simp only[oT];exact .inl (by simpa using Ao))
    have Im:oS g (bV rec (J.dK (some (c,!gv)) body) s'):=hact.mono λc' w he=>by
     have:=hg c' w he;simp only[J.kL,aY,dc]at this;rw[hb.env,aF this.2]
    have Ap:St.get (bV rec (J.dK (some (c,!gv)) body) s') (.t c) = .d (.b gv):=by
     show aK _ c=_
     rw[hb.env,aF h2,Ao]
    simp only[bV];rw[Ij Im];have hp:aj rec (.pick d (.t c) (if gv then .k (.b true)else x) (if gv then x else .k (.b false))) (bV rec (J.dK (some (c,!gv)) body) s') =
      (bV rec (J.dK (some (c,!gv)) body) s').put d (.d (.b gv)):=by
     simp only[aj,Ap];cases gv<;>simp[St.get]
    rw[hp];refine⟨by rw[St.put];exact ha.heap.trans hb.heap.symm,hb.ok,λt ht=>?_,λt=>?_⟩
    .simp only[aL,dc]at ht
     simp only[St.put,aK];by_cases jc:d=t
     .simp[jc]
     .rw[aF jc,aF jc,xK,aF ht.1,hb.env,aF ht.1]
      exact ha.env t ht.2
    .simp only[St.put,aK]
     by_cases jc:d=t
     .simp[jc]
     .rw[aF jc,aF jc,xK,hb.env]
      by_cases hm:t∈J.fX body
      .rw[aN hm];exact .inl rfl
      .rw[aF hm,aF hm];exact ha.low t
   ·
    rename_i hne;rw[aF hne];have Vf:gv=!cm:=by cases gv<;>cases cm<;>simp_all
    subst Vf;split at hok
    .rename_i y hy
     have hb:=DH (rec:=rec) (g:=some (c,!cm)) (s:=s) (s':=s') h3 ha MZ (by simp only[oS];exact Ao) hok
     have hw:=Ik (rec:=rec) hb.ok;have Im:oS g (bV rec (J.dK (some (c,!cm)) body) s'):=hact.mono λc' w he=>by
      have:=hg c' w he;simp only[J.kL,aY,dc]at this;rw[hw c' this.2]
     have Ap:St.get (bV rec (J.dK (some (c,!cm)) body) s') (.t c) = .d (.b (!cm)):=by
      show aK _ c=_
      rw[hw c h2,Ao]
     have cj:St.get (bV rec (J.dK (some (c,!cm)) body) s') x = .d (.b y):=by rw[<-hb.get h4];exact hy
     simp only[bV];rw[Ij Im];have hp:aj rec (.pick d (.t c) (if cm then .k (.b true)else x) (if cm then x else .k (.b false))) (bV rec (J.dK (some (c,!cm)) body) s') =
       (bV rec (J.dK (some (c,!cm)) body) s').put d (.d (.b y)):=by
      have key:∀z:St,z.get (.t c) = .d (.b (!cm))->z.get x = .d (.b y)->aj rec (.pick d (.t c) (if cm then .k (.b true)else x) (if cm then x else .k (.b false))) z=z.put d (.d (.b y)):=by
       intro z h1 h2;simp only[aj,h1];cases cm<;>simp[h2]
      exact key _ Ap cj
     rw[hp];refine⟨hb.heap,hb.ok,λt ht=>?_,λt=>?_⟩
     .simp only[aL,dc]at ht
      simp only[St.put,aK];by_cases jc:d=t
      .simp[jc]
      .rw[aF jc,aF jc,xK,aF ht.1,hw t ht.1]
       exact ha.env t ht.2
     .simp only[St.put,aK]
      by_cases jc:d=t
      .simp[jc]
      .rw[aF jc,aF jc,xK]
       by_cases hm:t∈J.fX body
       .rw[aN hm];exact .inl rfl
       .rw[aF hm,hw t hm];exact ha.low t
    .simp at hok
  .simp at hok
theorem DH{rec:Rec}:∀{js:List J}{top:Bool}{T S:List Nat}{g:Option (Nat×Bool)}{s s':St},J.nT top T S js=true->Ag T s s'->An g (J.fX js)->oS g s'->(cL rec js s).ok=true ->
  Ag (J.Al js++T) (cL rec js s) (bV rec (J.dK g js) s')
 | [],top,T,S,g,s,s',hf,ha,hg,hact,hok=>by simpa only[J.dK,bV,cL,J.Al,jW]using ha
 |j::r,top,T,S,g,s,s',hf,ha,hg,hact,hok=>by
  simp only[J.nT,aA]at hf;simp only[cL]at hok;have hj:=MY (rec:=rec) hf.1 ha (λc w he=>by have:=hg c w he;simp only[J.fX,aL,dc]at this;exact this.1) hact (ny hok)
  have hr:=DH (rec:=rec) (g:=g) hf.2 hj (λc w he=>by have:=hg c w he;simp only[J.fX,aL,dc]at this;exact this.2)
   (hact.mono λc w he=>by have:=hg c w he;simp only[J.fX,aL,dc]at this;exact MV hj.ok c this.1) hok
  simp only[J.dK,qy,cL,J.Al,jX];exact hr
end
end Go.VS
namespace Go.VS
section
variable {P:Program}{φ:bX}
variable {nt m dB:Nat}{s:St}{g:Gh}{a:Act}{w:World}{K:Act->World->Prop}{Q:Exit->Act->World->Prop}{o:Oper}{ops:Array Oper}{r:Option Nat}{n:Nat}
theorem M0{i:I}(h:aR P φ nt o i=true):o.dst=i.dst/\∀d,i.dst=some d->d<nt:=by
 have key:∀{d:Nat}{b:Bool},(cQ nt o d&&b)=true->o.dst=some d/\∀k,some d=some k->k<nt:=by
  intro d b h;simp only[aA]at h;obtain⟨h1,h2⟩:=pQ h.1;exact⟨h1,λk hk=>by simp at hk;omega⟩
 have rU:∀{d:Option Nat}{b:Bool},(j6 nt o d&&b)=true->o.dst=d/\∀k,d=some k->k<nt:=by
  intro d b h;simp only[aA]at h;exact uC h.1
 cases i with
 |st x y n fz =>
  simp only[aR]at h;split at h
  .simp only[aA,bN]at h
   exact⟨h.1.1.1.1.1,λd hd=>by simp[I.dst]at hd⟩
  .simp at h
 |call d f xs=>exact rU h
 |j0 d x xs=>exact rU h
 |jJ d f xs=>exact rU h
 |iS d f xs=>exact rU h
 |lK d x xs=>exact rU h
 |kE d x xs=>exact rU h
 |calls d f xs=>exact rU h
 |lI d x es z=>exact rU h
 |bad d=>simp only[aR]at h;exact uC h
 |copy d x y es=>exact rU h
 |ji m k v ks =>
  simp only[aR,aA,bN]at h;exact⟨h.1,λd hd=>by simp[I.dst]at hd⟩
 |lJ m st v =>
  simp only[aR,aA,bN]at h;exact⟨h.1,λd hd=>by simp[I.dst]at hd⟩
 |iC m k ks =>
  simp only[aR,aA,bN]at h;exact⟨h.1,λd hd=>by simp[I.dst]at hd⟩
 |_=>first |exact key h |simp[aR]at h
def xM(ops:Array Oper)(o:Oper)(x:X):Bool :=
 match x.g,o.guard with
 |none,none=>true
 |some (c,want),some (j,w')=>want==w'&&((ops[j]?).bind (·.dst))==some c&&(match x.i with | .st ..=>false |_=>true)
 |_,_=>false
theorem M1(hs:aI φ nt m dB s g a w){i:I}(eF:i.wr=i.dst)(hd:o.dst=i.dst)(hlt:∀d,i.dst=some d->d<nt):aI φ nt m dB (rR i s) g (a.put o.dst undef) w:=by
 rw[hd];unfold rR;rw[eF];cases h:i.dst with
 |none=>exact hs
 |some d=>exact hs.lT (hlt d h) (by simp[ah])
theorem M3(hs:aI φ nt m dB s g a w){x:X}{rec:Rec}(hg:xM ops o x=true)(hd:o.dst=x.i.dst)(hlt:∀d,x.i.dst=some d->d<nt)(hok:(fj rec x s).ok=true)
  {X:Prop}(hop:(fj rec x s)=aj rec x.i s->(aj rec x.i s).ok=true->X)
  (vn:fj rec x s=rR x.i s->aI φ nt m dB (rR x.i s) g (a.put o.dst undef) w->K (a.put o.dst undef) w):
  if Region.wanted o (yielded ops a.tmps)then X else K (a.put o.dst undef) w:=by
 unfold xM at hg;unfold fj at hok hop vn;split at hg
 .rename_i h1 h2
  simp only[h1]at hok hop;rw[aN (by simp[Region.wanted,h2])]
  exact hop trivial hok
 .rename_i c want j w' h1 h2
  simp only[aA,bN]at hg;obtain⟨⟨rfl,hj⟩,hk⟩:=hg;have eF:x.i.wr=x.i.dst:=by
   cases hi:x.i<;>simp_all[I.wr]
  simp only[h1]at hok hop vn;have hc:=hs.env c;have HH:Region.wanted o (yielded ops a.tmps)=(yielded ops a.tmps j==some want):=by simp[Region.wanted,h2]
  have Vg:yielded ops a.tmps j=match a.tmps[c]? with |some (.bool b)=>some b |_=>none:=by simp only[yielded,hj,eG];rfl
  rw[HH,Vg];cases hv:aK s.env c with
  |d y =>
   cases y with
   |b b =>
    rw[hv]at hc;have hb:=oz (by simpa only[ah]using hc)
    have hsome:a.tmps[c]?=some (.bool b):=by
     cases hq:a.tmps[c]? with
     |none=>simp[r7,hq,undef]at hb
     |some v=>simp[r7,hq]at hb;rw[hb]
    simp only[hsome];simp only[hv]at hok hop vn;by_cases Io:b=want
    .subst Io
     simp only[aU]at hok hop;simp only[beq_self_eq_true,aU];exact hop trivial hok
    .have:(some b==some want)=false:=by simpa using Io
     simp only[this,eD,cB];simp only[Io,cB]at vn;exact vn trivial (M1 hs eF hd hlt)
   |_=>simp[hv]at hok
  |fB =>
   rw[hv]at hc;have hb:a.tmps.getD c undef=undef:=by simpa only[ah]using hc
   have hnone:(match a.tmps[c]? with |some (.bool b)=>some b |_=>none)=(none:Option Bool):=by
    cases hq:a.tmps[c]? with
    |none=>rfl
    |some v =>
     simp[r7,hq]at hb;rw[hb];rfl
   simp only[hnone];simp only[hv]at vn;exact vn trivial (M1 hs eF hd hlt)
  |_=>simp[hv]at hok
 .simp at hg
def vo(P:Program)(φ:Nat->Nat)(nt:Nat)(ops:Array Oper):List Oper->List X->Bool
 | [],[]=>true
 |o::os,x::xs=>aR P φ nt o x.i&&xM ops o x&&vo P φ nt ops os xs
 |_,_=>false
theorem Ip{o:Oper}{rest:List Oper}(h:if Region.wanted o (yielded ops a.tmps)then o.wpIn (Wd r) n P a w (wpListIn (Wd r) n P ops Q rest) Q else wpListIn (Wd r) n P ops Q rest (a.put o.dst undef) w):wpListIn (Wd r) n P ops Q (o::rest) a w:=by
 unfold wpListIn;split
 .rename_i hw;rw[aN hw]at h;exact h
 .rename_i hw;rw[aF hw]at h;exact⟨λ_ _=>trivial,h⟩
theorem M4{rec:Rec}(hq:gW P φ rec)(hy:m7 P φ rec):∀{l:List Oper}{xs:List X}{s:St}{g:Gh}{a:Act}{w:World},vo P φ nt ops l xs=true->aI φ nt m dB s g a w->(bV rec xs s).ok=true ->
  (∀g' a' w',aI φ nt m dB (bV rec xs s) g' a' w'->Frame m s.heap g w (bV rec xs s).heap g' w'->Q .normal a' w')->wpListIn (Wd r) n P ops Q l a w
 | [],[],s,g,a,w,_,hs,_,hQ=>wpListIn_nil (hQ g a w hs (Frame.refl _ _ _ _))
 |o::l,x::xs,s,g,a,w,hc,hs,hok,hQ=>by
  simp only[vo,aA]at hc;obtain⟨⟨h1,h2⟩,h3⟩:=hc;simp only[bV]at hok hQ;have hd:=M0 h1;have next:∀g' a' w',aI φ nt m dB (fj rec x s) g' a' w'->Frame m s.heap g w (fj rec x s).heap g' w'->wpListIn (Wd r) n P ops Q l a' w':=λg' a' w' hs' hf =>
   M4 hq hy h3 hs' hok λg2 a2 w2 kY HO=>hQ g2 a2 w2 kY (hf.trans HO)
  refine Ip (M3 hs h2 hd.1 hd.2 (Ak hok) (λhe nU=>MS hq hy hs h1 nU λg' v' w' hs' hf=>?_) (λhe hs'=>?_))
  .exact next g' _ w' (by rw[he];exact hs') (by rw[he];exact hf)
  .exact next g _ w (by rw[he];exact hs') (by rw[he];exact Frame.refl _ _ _ _)
 | [],_::_,_,_,_,_,hc,_,_,_=>by simp[vo]at hc
 |_::_,[],_,_,_,_,hc,_,_,_=>by simp[vo]at hc
theorem aI.low{s':St}(hs:aI φ nt m dB s' g a w){T:List Nat}(h:Ag T s s'):aI φ nt m dB s g a w where
 env k:=by
  rcases h.low k with h1 |h1
  .rw[h1];simp[ah]
  .rw[h1,h.heap];exact hs.env k
 heap:=by rw[h.heap];exact hs.heap
 size:=hs.size
 defers:=by rw[h.heap];exact hs.defers
 len:=by rw[h.heap];exact hs.len
theorem Ag.refl(h:s.ok=true):Ag [] s s:=⟨rfl,h,λ_ _=>rfl,λ_=>.inr rfl⟩
def Post(φ:bX)(nt m dB:Nat)(s:St)(g:Gh)(w:World)(s':St)(R:Act->World->Prop):Prop :=
 ∀g' a' w',aI φ nt m dB s' g' a' w'->Frame m s.heap g w s'.heap g' w'->R a' w'
theorem Vh{rec:Rec}(hq:gW P φ rec)(hy:m7 P φ rec){js:List J}(hs:aI φ nt m dB s g a w)(hf:J.nT true [] [] js=true)(hc:vo P φ nt ops ops.toList (J.dK none js)=true)
  (hok:(cL rec js s).ok=true){id:Nat}(hQ:Post φ nt m dB s g w (cL rec js s) (Q .normal)):(Code.region id ops false).wpIn (Wd r) n P Q a w:=by
 have iG:=DH (rec:=rec) (g:=none) hf (Ag.refl (ny hok)) (λ_ _ h=>by simp at h) trivial hok
 exact wpIn_region_list (M4 hq hy hc hs iG.ok λg' a' w' hs' hfr=>hQ g' a' w' (hs'.low iG) (by rw[iG.heap];exact hfr))
end
end Go.VS
namespace Go.VS
def M5(acc dp:List Nat):Nat:=dp.foldl (λm r=>m |||(2 ^ r |||acc.getD r 0)) 0
def xN:List Nat->List (List Nat)->List Nat
 |acc,[]=>acc
 |acc,dp::r=>xN (acc++[if dp.all (·<acc.length)then M5 acc dp else 0]) r
def masks(ds:List (List Nat)):List Nat:=xN [] ds
theorem M6{acc:List Nat}{q:Nat}:∀{dp:List Nat}{m:Nat},(dp.foldl (λm r=>m |||(2 ^ r |||acc.getD r 0)) m).testBit q=true->m.testBit q=true\/∃r∈dp,q=r\/(acc.getD r 0).testBit q=true
 | [],m,h=>.inl h
 |r::dp,m,h=>by
  rcases M6 (dp:=dp) h with h |⟨r',h1,h2⟩
  .rw[Nat.testBit_or,Nat.testBit_or,Nat.testBit_two_pow]at h
   simp only[Ew,fu]at h;rcases h with h |h |h
   .exact .inl h
   .exact .inr ⟨r,by simp,.inl h.symm⟩
   .exact .inr ⟨r,by simp,.inr h⟩
  .exact .inr ⟨r',by simp[h1],h2⟩
def DJ(D:List (List Nat))(acc:List Nat):Prop :=
 ∀p q,p<acc.length->(acc.getD p 0).testBit q=true->∃r∈D.getD p [],r<p/\(q=r\/(acc.getD r 0).testBit q=true)
theorem Iq{α:Type}{l:List α}{x d:α}{p:Nat}(h:p<l.length):(l++[x]).getD p d=l.getD p d:=by
 simp[List.getD,jH h]
theorem Vi{α:Type}{l:List α}{x d:α}:(l++[x]).getD l.length d=x:=by
 simp[List.getD]
theorem M7{D:List (List Nat)}:∀{ds:List (List Nat)}{acc:List Nat},(∀k,ds[k]?=D[acc.length+k]?)->DJ D acc->DJ D (xN acc ds)/\(xN acc ds).length=acc.length+ds.length
 | [],acc,_,h=>⟨h,by simp[xN]⟩
 |dp::ds,acc,hd,h=>by
  have h0:D.getD acc.length []=dp:=by have:=hd 0;simp at this;simp[List.getD,<-this]
  have key:DJ D (acc++[if dp.all (·<acc.length)then M5 acc dp else 0]):=by
   intro p q hp hq;by_cases hlt:p<acc.length
   .rw[Iq hlt]at hq
    obtain⟨r,h1,h2,h3⟩:=h p q hlt hq;exact⟨r,h1,h2,by rw[Iq (by omega)];exact h3⟩
   .have dh:p=acc.length:=by simp at hp;omega
    subst dh;rw[Vi]at hq;split at hq
    .rename_i hall
     rcases M6 hq with h1 |⟨r,h1,h2⟩
     .simp at h1
     .have hr:r<acc.length:=by simpa using jG.1 hall r h1
      exact⟨r,by rw[h0];exact h1,hr,by rw[Iq hr];exact h2⟩
    .simp at hq
  have:=M7 (ds:=ds) (λk=>by have:=hd (k+1);simp at this⊢;rw[this];congr 1;omega) key
  refine⟨this.1,?_⟩;rw[xN,this.2];simp;omega
def gy(ms:List Nat)(p q:Nat):Bool:=(ms.getD q 0).testBit p
theorem Vj(D:List (List Nat)):DJ D (masks D):=(M7 (D:=D) (ds:=D) (acc:=[]) (by simp) (λp q hp=>by simp at hp)).1
theorem M8{D:List (List Nat)}{p q:Nat}(h:gy (masks D) q p=true):∃r∈D.getD p [],r<p/\(q=r\/gy (masks D) q r=true):=by
 by_cases hp:p<(masks D).length
 .exact Vj D p q hp h
 .have:(masks D).getD p 0=0:=by simp[List.getD,dL (Nat.le_of_not_lt hp)]
  unfold gy at h;rw[this]at h;simp at h
theorem DK{D:List (List Nat)}:∀{p q:Nat},gy (masks D) q p=true->q<p:=by
 intro p;induction p using Nat.strongRecOn with
 |_ p ih =>
  intro q h;obtain⟨r,_,h2,h3⟩:=M8 h;rcases h3 with h3 |h3
  .omega
  .have:=ih r h2 h3;omega
theorem M9{D:List (List Nat)}{E:List Nat}(hE:∀p∈E,∀r∈D.getD p [],r∈E):∀{p q:Nat},(∀r∈D.getD p [],r∈E)->gy (masks D) q p=true->q∈E:=by
 intro p;induction p using Nat.strongRecOn with
 |_ p ih =>
  intro q hp h;obtain⟨r,h1,h2,h3⟩:=M8 h;have hr:=hp r h1;rcases h3 with h3 |h3
  .rw[h3];exact hr
  .exact ih r h2 (hE r hr) h3
section
variable (wr:Nat->Option Nat)(val:Nat->V)(e0:List (Nat×V))
def oU(E:List Nat):List (Nat×V):=E.flatMap (λp=>W (wr p) (val p))++e0
variable {wr val e0}
theorem Ir{t:Nat}:∀{E:List Nat},(∀p∈E,wr p≠some t)->aK (oU wr val e0 E) t=aK e0 t
 | [],_=>rfl
 |p::E,h=>by
  have hp:t∉(wr p).toList:=by
   intro hm;cases hw:wr p with
   |none=>rw[hw]at hm;simp at hm
   |some d=>rw[hw]at hm;simp at hm;exact h p (by simp) (by rw[hw,hm])
  have:=Ir (E:=E) (λq hq=>h q (by simp[hq]))
  simp only[oU,rX,jX]at this⊢;rw[rS hp];exact this
theorem DL{t p:Nat}(hp:wr p=some t):∀{E:List Nat},p∈E->(∀q∈E,wr q=some t->q=p)->aK (oU wr val e0 E) t=val p
 | [],h,_=>by simp at h
 |q::E,h,hu=>by
  simp only[oU,rX,jX];by_cases hq:wr q=some t
  .have:q=p:=hu q (by simp) hq
   subst this;exact rT (by rw[hq];simp)
  .have mK:t∉(wr q).toList:=by
    intro hm;cases hw:wr q with
    |none=>rw[hw]at hm;simp at hm
    |some d=>rw[hw]at hm;simp at hm;exact hq (by rw[hw,hm])
   rw[rS mK];have Aq:p∈E:=by
    rcases aY.1 h with h1 |h1
    .subst h1;exact absurd hp hq
    .exact h1
   exact DL hp Aq (λq hq=>hu q (by simp[hq]))
theorem Is{n t:Nat}{E E':List Nat}(hu:∀p q,p<n->q<n->wr p=some t->wr q=some t->p=q)(hE:∀p∈E,p<n)(xq:∀p∈E',p<n)
  (h:∀p,p<n->wr p=some t->(p∈E↔p∈E')):aK (oU wr val e0 E) t=aK (oU wr val e0 E') t:=by
 by_cases hex:∃p,p∈E/\wr p=some t
 .obtain⟨p,hp,hw⟩:=hex
  have dh:=(h p (hE p hp) hw).1 hp;rw[DL hw hp (λq hq Ar=>hu q p (hE q hq) (hE p hp) Ar hw),DL hw dh (λq hq Ar=>hu q p (xq q hq) (hE p hp) Ar hw)]
 .rw[Ir (λp hp hw=>hex ⟨p,hp,hw⟩),Ir (λp hp hw=>hex ⟨p,(h p (xq p hp) hw).2 hp,hw⟩)]
end
def iP(ef:Nat->Bool):List Nat->Nat
 | []=>0
 |p::E=>if ef p then max (p+1) (iP ef E)else iP ef E
theorem It{ef:Nat->Bool}{k:Nat}:∀{E:List Nat},(∀p∈E,ef p=true->p<k)->iP ef E<=k
 | [],_=>by simp[iP]
 |p::E,h=>by
  have:=It (E:=E) (λq hq=>h q (by simp[hq]))
  simp only[iP];split
  .rename_i hp;have:=h p (by simp) hp;omega
  .exact this
theorem As{ef:Nat->Bool}{p:Nat}(he:ef p=true):∀{E:List Nat},p∈E->p+1<=iP ef E
 | [],h=>by simp at h
 |q::E,h=>by
  simp only[iP];rcases aY.1 h with h1 |h1
  .subst h1;rw[aN he];omega
  .have:=As he h1
   split<;>omega
theorem Na{ef:Nat->Bool}:∀(E:List Nat),iP ef E=0\/∃p∈E,ef p=true/\iP ef E=p+1
 | []=>.inl rfl
 |p::E=>by
  simp only[iP];have ih:=Na (ef:=ef) E;split
  .rename_i hp
   rcases ih with h |⟨q,h1,h2,h3⟩
   .exact .inr ⟨p,by simp,hp,by omega⟩
   .by_cases hlt:q<=p
    .exact .inr ⟨p,by simp,hp,by omega⟩
    .exact .inr ⟨q,by simp[h1],h2,by omega⟩
  .rcases ih with h |⟨q,h1,h2,h3⟩
   .exact .inl h
   .exact .inr ⟨q,by simp[h1],h2,h3⟩
end Go.VS
namespace Go.VS
def X.slots(x:X):List Nat:=x.i.slots++(match x.g with |some (c,_)=>[c] |none=>[])
def fm(rec:Rec)(xs:List X)(s0:St)(p:Nat):St:=bV rec (xs.take p) s0
theorem Iu{rec:Rec}{xs:List X}{s0:St}{p:Nat}{x:X}(h:xs[p]?=some x):fm rec xs s0 (p+1)=fj rec x (fm rec xs s0 p):=by
 unfold fm;rw[List.take_add_one,h];simp[qy,bV]
theorem Nb{rec:Rec}{xs:List X}{s0:St}:fm rec xs s0 xs.length=bV rec xs s0:=by simp[fm]
theorem Iv{rec:Rec}{xs:List X}{s0:St}(h:(bV rec xs s0).ok=true)(p:Nat):(fm rec xs s0 p).ok=true:=by
 have:bV rec xs s0=bV rec (xs.drop p) (bV rec (xs.take p) s0):=by rw[<-qy,Eu]
 rw[this]at h;exact Ak h
theorem Iw{rec:Rec}{x:X}{s s':St}(h:∀t∈x.slots,aK s.env t=aK s'.env t)(hh:s.heap=s'.heap\/x.i.blind=true):Alike x.i.quiet x.i.wr s s' (fj rec x s) (fj rec x s'):=by
 have hr:∀y∈x.i.reads,s.get y=s'.get y:=by
  intro y hy;cases y with
  |k z=>rfl
  |t n=>exact h n (by simp only[X.slots,I.slots];exact Jo _ (dG.2 ⟨_,hy,by simp[A.slots]⟩))
 cases x with
 |mk i g =>
  cases g with
  |none=>exact DF hr hh
  |some p =>
   obtain⟨c,want⟩:=p;have hc:=h c (by simp[X.slots])
   simp only[fj,<-hc];generalize aK s.env c=v;cases v with
   |d y =>
    cases y with
    |b b =>
     simp only;split
     .exact DF hr hh
     .intro h1 h2;exact⟨h2,.fB,rfl,rfl,.inl ⟨rfl,rfl⟩⟩
    |_=>exact Alike.fail
   |fB=>intro h1 h2;exact⟨h2,.fB,rfl,rfl,.inl ⟨rfl,rfl⟩⟩
   |_=>exact Alike.fail
def Ix(rec:Rec)(s:St)(i:I):Prop:=∃d,i.wr=some d/\(aj rec i s).ok=true/\aK (aj rec i s).env d=aK s.env d
section
variable {rec:Rec}{xs:List X}{s0:St}{D:List (List Nat)}{R:List (Nat×I)}
structure xO(D:List (List Nat))(R:List (Nat×I))(n:Nat)(xs:List X)(p q:Nat)(x y:X):Prop where
 uniq:∀t,x.i.wr=some t->y.i.wr≠some t
 rw:gy (masks D) p q=false->(∀t,x.i.wr=some t->t∉y.slots)/\(∀t,y.i.wr=some t->t∉x.slots)
 Nc:gy (masks D) p q=false->x.i.quiet=true\/y.i.quiet=true
 left:gy (masks D) p q=false->x.i.quiet=false->y.i.blind=true
 right:gy (masks D) p q=false->y.i.quiet=false->x.i.blind=true\/(x.g=none/\(q+1,x.i)∈R /\
  ∀r z t,xs[r]?=some z->z.i.wr=some t->t∈x.slots->gy (masks D) r p=true\/q<r)
noncomputable def valOf (rec:Rec)(xs:List X)(s0:St)(p:Nat):V :=
 match xs[p]? with
 |some x=>match x.i.wr with
  |some d=>aK (fm rec xs s0 (p+1)).env d
  |none=>.u
 |none=>.u
def kA(xs:List X)(p:Nat):Option Nat:=(xs[p]?).bind (·.i.wr)
def iQ(xs:List X)(p:Nat):Bool:=((xs[p]?).map (!·.i.quiet)).getD false
noncomputable def sigma (rec:Rec)(xs:List X)(s0:St)(E:List Nat):St:=⟨oU (kA xs) (valOf rec xs s0) s0.env E,(fm rec xs s0 (iP (iQ xs) E)).heap,true⟩
theorem Nd{d:Option Nat}{v v':V}(h:∀t,d=some t->v=v'):W d v=W d v':=by
 cases d with
 |none=>rfl
 |some t=>rw[h t rfl]
theorem At(hok:(bV rec xs s0).ok=true):∀p,p<=xs.length->(fm rec xs s0 p).env=oU (kA xs) (valOf rec xs s0) s0.env (List.range p).reverse
 | 0,_=>by simp[fm,bV,oU]
 |p+1,hp=>by
  have hx:xs[p]?=some xs[p]:=by simp
  have h1:=Iu (rec:=rec) (s0:=s0) hx;have nU:=Iv hok (p+1);rw[h1]at nU;obtain⟨v,hv,_⟩:=DG nU;have hw:kA xs p=xs[p].i.wr:=by simp only[kA,hx,eG]
  have hval:∀t,xs[p].i.wr=some t->v=valOf rec xs s0 p:=by
   intro t ht;simp only[valOf,hx,ht,h1,hv];rw[rT (by simp)]
  rw[h1,hv,At hok p (by omega),List.range_succ,List.reverse_append]
  simp only[oU,List.reverse_singleton,List.flatMap_append,rX,Ei,o9,jX,hw];rw[Nd hval]
theorem DM(hok:(bV rec xs s0).ok=true){p:Nat}:∀{q:Nat},p<=q->q<=xs.length->(∀r,p<=r->r<q->iQ xs r=false)->(fm rec xs s0 q).heap=(fm rec xs s0 p).heap:=by
 intro q hpq;induction hpq with
 |refl=>intro _ _;rfl
 |step h ih =>
  rename_i k;intro hk hq;have hx:xs[k]?=some xs[k]:=by simp
  have h1:=Iu (rec:=rec) (s0:=s0) hx;have nU:=Iv hok (k+1);rw[h1]at nU;obtain⟨v,_,hh⟩:=DG nU;have dJ:xs[k].i.quiet=true:=by
   have:=hq k h (Nat.lt_succ_self k);simpa only[iQ,hx,fy,jY,Bool.not_eq_false']using this
  rw[h1,hh dJ];exact ih (by omega) (λr h1 h2=>hq r h1 (by omega))
theorem find(hok:(bV rec xs s0).ok=true)(lu:∀p q x y,p<q->xs[p]?=some x->xs[q]?=some y->xO D R xs.length xs p q x y)
  (hR:∀k i,(k,i)∈R->Ix rec (fm rec xs s0 k) i)
  {E:List Nat}(hE:∀p∈E,p<xs.length)(hclosed:∀p∈E,∀r∈D.getD p [],r∈E){j:Nat}{x:X}(hx:xs[j]?=some x)(hj:j∉E)(DN:∀r∈D.getD j [],r∈E):
  fj rec x (sigma rec xs s0 E)=sigma rec xs s0 (j::E):=by
 have Vk:j<xs.length:=by
  rcases eH j xs.length with h |h
  .exact h
  .simp[dL h]at hx
 have af:∀(p:Nat)(hp:p<xs.length),xs[p]?=some xs[p]:=λp hp=>by simp[hp]
 have before:∀p,gy (masks D) p j=true->p∈E:=λp h=>M9 hclosed DN h
 have after:∀p,gy (masks D) j p=true->p∉E:=λp h hp=>hj (M9 hclosed (hclosed p hp) h)
 have Iy:∀t p q,p<xs.length->q<xs.length->kA xs p=some t->kA xs q=some t->p=q:=by
  intro t p q hp hq h1 h2;simp only[kA,af p hp,af q hq,eG]at h1 h2;rcases lB p q with h |h |h
  .exact absurd h2 ((lu p q _ _ h (af p hp) (af q hq)).uniq t h1)
  .exact h
  .exact absurd h1 ((lu q p _ _ h (af q hq) (af p hp)).uniq t h2)
 have Nf:∀t,t∈x.slots->∀p,p<xs.length->p≠j->kA xs p=some t->gy (masks D) p j=true\/gy (masks D) j p=true:=by
  intro t ht p hp vp hw;simp only[kA,af p hp,eG]at hw;rcases lB p j with h |h |h
  .cases hb:gy (masks D) p j
   .exact absurd ht (((lu p j _ _ h (af p hp) hx).rw hb).1 t hw)
   .exact .inl rfl
  .exact absurd h vp
  .cases hb:gy (masks D) j p
   .exact absurd ht (((lu j p _ _ h hx (af p hp)).rw hb).2 t hw)
   .exact .inr rfl
 have vq:∀{p k:Nat},p∈(List.range k).reverse↔p<k:=by simp
 have Iz:∀k,k<=xs.length->∀p∈(List.range k).reverse,p<xs.length:=λk hk p hp=>by have:=vq.1 hp;omega
 have Ng:∀t,t∈x.slots->aK (fm rec xs s0 j).env t=aK (sigma rec xs s0 E).env t:=by
  intro t ht;rw[At hok j (by omega)]
  refine Is (n:=xs.length) (λp q hp hq h1 h2=>Iy t p q hp hq h1 h2) (Iz j (by omega)) hE λp hp hw=>?_
  by_cases vp:p=j
  .subst vp;exact⟨λh=>absurd (vq.1 h) (by omega),λh=>absurd h hj⟩
  .rcases Nf t ht p hp vp hw with h |h
   .exact⟨λ_=>before p h,λ_=>vq.2 (DK h)⟩
   .have:=DK h
    exact⟨λh1=>absurd (vq.1 h1) (by omega),λh1=>absurd h1 (after p h)⟩
 have hstep:=Iu (rec:=rec) (s0:=s0) hx;have rV:=Iv hok (j+1);rw[hstep]at rV;have IA:kA xs j=x.i.wr:=by simp[kA,hx]
 have Nh:iQ xs j=!x.i.quiet:=by simp[iQ,hx]
 have finish:∀{r:St}{v:V},r.ok=true->r.env=W x.i.wr v++(sigma rec xs s0 E).env->(∀t,x.i.wr=some t->v=valOf rec xs s0 j)->r.heap=(fm rec xs s0 (iP (iQ xs) (j::E))).heap->r=sigma rec xs s0 (j::E):=by
  intro r v h1 h2 h3 h4;cases r with
  |mk e h o =>
   simp only at h1 h2 h4;subst h1;simp only[sigma,St.mk.injEq,jd];refine⟨?_,h4⟩;rw[h2,Nd h3];simp[sigma,oU,IA]
 have Ni:∀{v:V},(fj rec x (fm rec xs s0 j)).env=W x.i.wr v++(fm rec xs s0 j).env->∀t,x.i.wr=some t->v=valOf rec xs s0 j:=by
  intro v hv t ht;simp only[valOf,hx,ht,hstep,hv];rw[rT (by simp)]
 by_cases hq:x.i.quiet=true
 ·
  have DO:iP (iQ xs) (j::E)=iP (iQ xs) E:=by simp[iP,Nh,hq]
  have direct:((fm rec xs s0 j).heap=(sigma rec xs s0 E).heap\/x.i.blind=true)->fj rec x (sigma rec xs s0 E)=sigma rec xs s0 (j::E):=by
   intro hh;obtain⟨h1,v,h2,h3,h4⟩:=Iw (rec:=rec) Ng hh rV rfl;refine finish h1 h3 (Ni h2) ?_;rcases h4 with h4 |h4
   .rw[h4.2,DO];rfl
   .rw[hq]at h4;simp at h4
  by_cases hb:x.i.blind=true
  .exact direct (.inr hb)
  .rcases Na (ef:=iQ xs) E with h0 |⟨k,hk,Vl,eR⟩
   ·
    refine direct (.inl ?_);simp only[sigma,h0];refine DM hok (tK _) (by omega) λr _ hr=>?_
    cases nV:iQ xs r with
    |false=>rfl
    |true =>
     exfalso;have hr':r<xs.length:=by omega
     have xP:xs[r].i.quiet=false:=by simpa only[iQ,af r hr',fy,jY,lF]using nV
     cases oW:gy (masks D) r j with
     |true=>have:=As nV (before r oW);omega
     |false=>exact hb ((lu r j _ _ hr (af r hr') hx).left oW xP)
   .by_cases Zm:k<j
    .refine direct (.inl ?_)
     simp only[sigma,eR];refine DM hok (by omega) (by omega) λr oR gd=>?_
     cases nV:iQ xs r with
     |false=>rfl
     |true =>
      exfalso;have hr':r<xs.length:=by omega
      have xP:xs[r].i.quiet=false:=by simpa only[iQ,af r hr',fy,jY,lF]using nV
      cases oW:gy (masks D) r j with
      |true=>have:=As nV (before r oW);omega
      |false=>exact hb ((lu r j _ _ gd (af r hr') hx).left oW xP)
    .have Ca:j<k:=by
      have:k≠j:=λh=>hj (h▸hk)
      omega
     have Nj:=hE k hk;have Vm:xs[k].i.quiet=false:=by simpa only[iQ,af k Nj,fy,jY,lF]using Vl
     have hnb:gy (masks D) j k=false:=by
      cases sL:gy (masks D) j k with
      |false=>rfl
      |true=>exact absurd hk (after k sL)
     rcases(lu j k _ _ Ca hx (af k Nj)).right hnb Vm with h |⟨hg,hin,IB⟩
     .exact absurd h hb
     .obtain⟨d,hd,nU,hsame⟩:=hR _ _ hin
      have Nk:∀s,fj rec x s=aj rec x.i s:=λs=>by simp[fj,hg]
      have Vn:∀t,t∈x.slots->aK (fm rec xs s0 (k+1)).env t=aK (sigma rec xs s0 E).env t:=by
       intro t ht;rw[At hok (k+1) (by omega)]
       refine Is (n:=xs.length) (λp q hp hq h1 h2=>Iy t p q hp hq h1 h2) (Iz (k+1) (by omega)) hE λp hp hw=>?_
       have hw':xs[p].i.wr=some t:=by simpa only[kA,af p hp,eG]using hw
       rcases IB p _ t (af p hp) hw' ht with h |h
       .have:=DK h
        exact⟨λ_=>before p h,λ_=>vq.2 (by omega)⟩
       .refine⟨λh1=>absurd (vq.1 h1) (by omega),λh1=>?_⟩
        rcases Nf t ht p hp (by omega) hw with h2 |h2
        .have:=DK h2;omega
        .exact absurd h1 (after p h2)
      have oX:(fm rec xs s0 (k+1)).heap=(sigma rec xs s0 E).heap:=by simp only[sigma,eR]
      rw[<-Nk]at nU;obtain⟨h1,v,h2,h3,h4⟩:=Iw (rec:=rec) Vn (.inl oX) nU rfl;refine finish h1 h3 (λt ht=>?_) ?_
      .rw[hd]at ht
       have:d=t:=by simpa using ht
       subst this;rw[<-Nk,h2,rT (by rw[hd];simp),At hok (k+1) (by omega)]at hsame
       rw[hsame,DL (wr:=kA xs) (p:=j) (by rw[IA,hd]) (vq.2 (by omega)) (λq hq Ar=>Iy d q j (Iz (k+1) (by omega) q hq) Vk Ar (by rw[IA,hd]))]
      .rcases h4 with h4 |h4
       .rw[h4.2,DO];rfl
       .rw[hq]at h4;simp at h4
 ·
  have mK:x.i.quiet=false:=by simpa using hq
  have Nl:∀r,iQ xs r=true->r≠j->r<xs.length->(r∈E↔r<j):=by
   intro r nV Vo hr';have xP:xs[r].i.quiet=false:=by simpa only[iQ,af r hr',fy,jY,lF]using nV
   rcases lB r j with h |h |h
   .refine⟨λ_=>h,λ_=>?_⟩
    cases oW:gy (masks D) r j with
    |true=>exact before r oW
    |false =>
     rcases(lu r j _ _ h (af r hr') hx).Nc oW with h1 |h1
     .rw[xP]at h1;simp at h1
     .rw[mK]at h1;simp at h1
   .exact absurd h Vo
   .refine⟨λhm=>?_,λhlt=>by omega⟩
    cases oW:gy (masks D) j r with
    |true=>exact absurd hm (after r oW)
    |false =>
     rcases(lu j r _ _ h hx (af r hr')).Nc oW with h1 |h1
     .rw[mK]at h1;simp at h1
     .rw[xP]at h1;simp at h1
  have DO:iP (iQ xs) E<=j:=It λp hp Vp=>(Nl p Vp (λh=>hj (h▸hp)) (hE p hp)).1 hp
  have oX:(fm rec xs s0 j).heap=(sigma rec xs s0 E).heap:=by
   simp only[sigma];refine DM hok DO (by omega) λr oR gd=>?_
   cases nV:iQ xs r with
   |false=>rfl
   |true =>
    exfalso;have:=As nV ((Nl r nV (by omega) (by omega)).2 gd)
    omega
  obtain⟨h1,v,h2,h3,h4⟩:=Iw (rec:=rec) Ng (.inl oX) rV rfl;refine finish h1 h3 (Ni h2) ?_;have Vq:iP (iQ xs) (j::E)=j+1:=by simp only[iP,Nh,mK];simp;omega
  rw[Vq,hstep];rcases h4 with h4 |h4
  .rw[h4.1,h4.2];exact oX.symm
  .exact h4.2.symm
end
end Go.VS
namespace Go.VS
def J.xQ:List J->List (Nat×I)
 | []=>[]
 |j::r=>(match j with | .re i=>[(0,i)] |_=>[])++(J.xQ r).map λp=>((j.flat none).length+p.1,p.2)
theorem Nm{rec:Rec}:∀{js:List J}{T S:List Nat}{s s':St},J.nT true T S js=true->Ag T s s'->(cL rec js s).ok=true->∀k i,(k,i)∈J.xQ js->Ix rec (fm rec (J.dK none js) s' k) i
 | [],_,_,_,_,_,_,_,_,_,h=>by simp[J.xQ]at h
 |j::r,T,S,s,s',hf,ha,hok,k,i,hin=>by
  simp only[J.nT,aA]at hf;simp only[cL]at hok;simp only[J.xQ,aL,dz]at hin;rcases hin with hin |⟨⟨k',i'⟩,hin,heq⟩
  .cases j with
   |re i' =>
    simp at hin;obtain⟨rfl,rfl⟩:=hin;have hj:=hf.1;simp only[J.tE,aA,AP]at hj;obtain⟨⟨h1,h2⟩,h3⟩:=hj;have rV:=ny hok;simp only[eJ,again]at rV;have Nn:i.wr=i.dst:=by cases i<;>first |rfl |simp[I.quiet]at h2
    cases hd:i.dst with
    |none=>simp[hd]at rV
    |some d =>
     simp only[hd]at rV;split at rV
     .rename_i hc
      simp only[aA]at hc;have iG:=ha.op (rec:=rec) h1 hc.1;rw[Nn,hd]at h3;have No:d∉T:=by simpa using h3
      refine⟨d,by rw[Nn,hd],iG.ok,?_⟩
      have e1:=V.nx hc.2;rw[iG.env d No,ha.env d No]at e1;simpa[fm,bV]using e1
     .simp at rV
   |op _=>simp at hin
   |sc _ _ _ _ _=>simp at hin
  .simp only[gS]at heq
   obtain⟨rfl,rfl⟩:=heq;have hj:=MY (rec:=rec) (g:=none) hf.1 ha (λ_ _ h=>by simp at h) trivial (ny hok)
   have ih:=Nm hf.2 hj hok k' i' hin
   have:fm rec (J.dK none (j::r)) s' ((j.flat none).length+k')=fm rec (J.dK none r) (bV rec (j.flat none) s') k':=by
    simp only[fm,J.dK,List.take_length_add_append,qy]
   rw[this];exact ih
def A.same:A->A->Bool
 | .t n,.t m=>n==m
 | .k (.i q n),.k (.i q' n')=>q==q'&&n==n'
 |_,_=>false
theorem A.nx{a b:A}(h:A.same a b=true):a=b:=by
 unfold A.same at h;split at h
 .simp at h;rw[h]
 .simp at h;rw[h.1,h.2]
 .simp at h
def A.DP:Option A->Option A->Bool
 |none,none=>true
 |some a,some b=>A.same a b
 |_,_=>false
theorem A.Np{a b:Option A}(h:A.DP a b=true):a=b:=by
 unfold A.DP at h;split at h
 .rfl
 .rw[A.nx h]
 .simp at h
def I.same:I->I->Bool
 | .sl d x l h es,.sl d' x' l' h' es'=>d==d'&&A.same x x'&&A.DP l l'&&A.DP h h'&&es==es'
 | .ld d x n ag,.ld d' x' n' Vr=>d==d'&&A.same x x'&&n==n'&&ag==Vr
 | .fa d x n k,.fa d' x' n' k'=>d==d'&&A.same x x'&&n==n'&&k==k'
 | .fD d x n k,.fD d' x' n' k'=>d==d'&&A.same x x'&&A.same n n'&&k==k'
 | .len d x k,.len d' x' k'=>d==d'&&A.same x x'&&k==k'
 | .jZ d n x k,.jZ d' n' x' k'=>d==d'&&n==n'&&A.same x x'&&k==k'
 |_,_=>false
theorem I.nx{a b:I}(h:I.same a b=true):a=b:=by
 unfold I.same at h;split at h
 .simp only[aA,bN]at h;obtain⟨⟨⟨⟨rfl,h2⟩,h3⟩,h4⟩,rfl⟩:=h;rw[A.nx h2,A.Np h3,A.Np h4]
 .simp only[aA,bN]at h;obtain⟨⟨⟨rfl,h2⟩,rfl⟩,rfl⟩:=h;rw[A.nx h2]
 .simp only[aA,bN]at h;obtain⟨⟨⟨rfl,h2⟩,rfl⟩,rfl⟩:=h;rw[A.nx h2]
 .simp only[aA,bN]at h;obtain⟨⟨⟨rfl,h2⟩,h3⟩,rfl⟩:=h;rw[A.nx h2,A.nx h3]
 .simp only[aA,bN]at h;obtain⟨⟨rfl,h2⟩,rfl⟩:=h;rw[A.nx h2]
 .simp only[aA,bN]at h;obtain⟨⟨⟨rfl,rfl⟩,h2⟩,rfl⟩:=h;rw[A.nx h2]
 .simp at h
def DQ(ms:List Nat)(p q:Nat)(x:X):Nat->List X->Bool
 |_,[]=>true
 |r,z::zs=>(m8 z.i.wr.toList x.slots||gy ms r p||decide (q<r))&&DQ ms p q x (r+1) zs
def IC(ms:List Nat)(R:List (Nat×I))(xs:List X)(p q:Nat)(x y:X):Bool :=
 m8 x.i.wr.toList y.i.wr.toList &&
 (gy ms p q ||
  (m8 x.i.wr.toList y.slots&&m8 y.i.wr.toList x.slots&&(x.i.quiet||(y.i.quiet&&y.i.blind)) &&
   (y.i.quiet||x.i.blind||(x.g.isNone&&R.any (λr=>r.1==q+1&&I.same r.2 x.i)&&DQ ms p q x 0 xs))))
def DR(ms:List Nat)(R:List (Nat×I))(xs:List X)(p:Nat)(x:X):Nat->List X->Bool
 |_,[]=>true
 |q,y::ys=>IC ms R xs p q x y&&DR ms R xs p x (q+1) ys
def DS(ms:List Nat)(R:List (Nat×I))(xs:List X):Nat->List X->Bool
 |_,[]=>true
 |p,x::r=>DR ms R xs p x (p+1) r&&DS ms R xs (p+1) r
theorem Nq{ms:List Nat}{p q:Nat}{x:X}:∀{zs:List X}{r:Nat},DQ ms p q x r zs=true->∀k z t,zs[k]?=some z->z.i.wr=some t->t∈x.slots->gy ms (r+k) p=true\/q<r+k
 | [],_,_,_,_,_,h,_,_=>by simp at h
 |z::zs,r,h,k,z',t,hz,hw,ht=>by
  simp only[DQ,aA,Ew,fu]at h;cases k with
  |zero =>
   simp at hz;subst hz;rcases h.1 with(h1 |h1) |h1
   .exact absurd ht (Am h1 (by rw[hw];simp))
   .exact .inl h1
   .exact .inr h1
  |succ k =>
   have:=Nq h.2 k z' t (by simpa using hz) hw ht
   rwa [kB,mm 1 k]at this
theorem Vs{D:List (List Nat)}{R:List (Nat×I)}{xs:List X}{p q:Nat}{x y:X}(h:IC (masks D) R xs p q x y=true):xO D R xs.length xs p q x y:=by
 simp only[IC,aA,Ew]at h;obtain⟨h0,h⟩:=h;refine⟨λt hx hy=>absurd (show t∈y.i.wr.toList by rw[hy];simp) (Am h0 (by rw[hx];simp)),λhb=>?_,λhb=>?_,λhb=>?_,λhb=>?_⟩ <;>
  rw[hb]at h<;>simp only[eD,false_or]at h<;>obtain⟨⟨⟨h1,h2⟩,h3⟩,h4⟩:=h
 .exact⟨λt hx=>Am h1 (by rw[hx];simp),λt hy=>Am h2 (by rw[hy];simp)⟩
 .exact h3.imp id (·.1)
 .intro hx
  rcases h3 with h3 |h3
  .rw[hx]at h3;simp at h3
  .exact h3.2
 .intro hy
  rcases h4 with(h4 |h4) |h4
  .rw[hy]at h4;simp at h4
  .exact .inl h4
  .refine .inr ⟨by simpa using h4.1.1,?_,λr z t hz hw ht=>by simpa using Nq h4.2 r z t hz hw ht⟩
   have:=h4.1.2;simp only[qI,aA,bN]at this;obtain⟨⟨k,i⟩,hin,hk,hi⟩:=this;simp only at hk hi;rw[<-I.nx hi,<-hk];exact hin
theorem Nr{D:List (List Nat)}{R:List (Nat×I)}{xs:List X}{p:Nat}{x:X}:∀{ys:List X}{q:Nat},DR (masks D) R xs p x q ys=true->∀k y,ys[k]?=some y->xO D R xs.length xs p (q+k) x y
 | [],_,_,_,_,h=>by simp at h
 |y::ys,q,h,k,y',hy=>by
  simp only[DR,aA]at h;cases k with
  |zero=>simp at hy;subst hy;exact Vs h.1
  |succ k =>
   have:=Nr h.2 k y' (by simpa using hy)
   rwa [kB,mm 1 k]at this
theorem Ns{D:List (List Nat)}{R:List (Nat×I)}{xs:List X}:∀{ys:List X}{p:Nat},DS (masks D) R xs p ys=true->∀i j x y,i<j->ys[i]?=some x->ys[j]?=some y->xO D R xs.length xs (p+i) (p+j) x y
 | [],_,_,_,_,_,_,_,h,_=>by simp at h
 |z::ys,p,h,i,j,x,y,hij,hx,hy=>by
  simp only[DS,aA]at h;cases j with
  |zero=>omega
  |succ j =>
   cases i with
   |zero =>
    simp at hx;subst hx;have:=Nr h.1 j y (by simpa using hy)
    rwa [kB,mm 1 j]at this
   |succ i =>
    have:=Ns h.2 i j x y (by omega) (by simpa using hx) (by simpa using hy)
    rwa [kB,mm 1 i,kB,mm 1 j]at this
section
variable (P:Program)(φ:Nat->Nat)(nt:Nat)
def vu(ops:Array Oper)(perm:List Nat)(i:Nat):List Nat :=
 match ops[i]? with
 |some o=>(o.after.toList.filter λe=>Region.binds .any e).map λe=>perm.idxOf e.on
 |none=>[]
def xR(ops:Array Oper)(perm:List Nat):Nat->List Nat->List X->Bool
 |_,[],[]=>true
 |p,i::is,x::xs=>(match ops[i]? with |some o=>aR P φ nt o x.i&&xM ops o x&&o.after.all (λe=>decide (e.on<ops.size)) |none=>false)&&(vu ops perm i).all (·<p)&&xR ops perm (p+1) is xs
 |_,_,_=>false
def DT(ops:Array Oper)(perm:List Nat)(js:List J):Bool :=
 J.nT true [] [] js&&perm.length==ops.size&&decide perm.Nodup&&(List.range ops.size).all (perm.contains ·)&&xR P φ nt ops perm 0 perm (J.dK none js) &&
  DS (masks (perm.map (vu ops perm))) (J.xQ js) (J.dK none js) 0 (J.dK none js)
variable {P φ nt}
theorem Nt{ops:Array Oper}{perm:List Nat}:∀{is:List Nat}{xs:List X}{p:Nat},xR P φ nt ops perm p is xs=true->is.length=xs.length /\
  ∀k i x,is[k]?=some i->xs[k]?=some x->(∃o,ops[i]?=some o/\aR P φ nt o x.i=true/\xM ops o x=true/\∀e∈o.after,e.on<ops.size)/\∀r∈vu ops perm i,r<p+k
 | [],[],p,_=>⟨rfl,λk i x h=>by simp at h⟩
 |i::is,x::xs,p,h=>by
  simp only[xR,aA]at h;obtain⟨⟨h1,h2⟩,h3⟩:=h;obtain⟨hl,ih⟩:=Nt h3;refine⟨by simp[hl],λk i' x' hi hx=>?_⟩
  cases k with
  |zero =>
   simp at hi hx;subst hi;subst hx;refine⟨?_,by simpa using h2⟩
   split at h1
   .rename_i o ho
    simp only[aA,Array.all_eq_true_iff_forall_mem,fu]at h1;exact⟨o,ho,h1.1.1,h1.1.2,h1.2⟩
   .simp at h1
  |succ k =>
   have:=ih k i' x' (by simpa using hi) (by simpa using hx)
   rwa [kB,mm 1 k]at this
 | [],_::_,_,h=>by simp[xR]at h
 |_::_,[],_,h=>by simp[xR]at h
end
end Go.VS
