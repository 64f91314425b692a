import Derived.Test.YtifnkfombicejaaV00
import Derived.Laws.Sem
import GoSem.Extern.Table
import Derived.Laws.Cover3
import Derived.ChangeKeysEq
import Derived.WideLaws
set_option linter.all false
set_option maxHeartbeats 1000000
namespace Go.VS
section
variable {φ:bX}
theorem v5{w w':World}{b:Nat}(h:w'.heap[b]?=w.heap[b]?)(i:Nat):w'.cell? ⟨b,i,none⟩=w.cell? ⟨b,i,none⟩:=by
 simp only[World.cell?,h]
theorem sy{h:List O}{n:Nat}(hl:(af h n).live=true):n<h.length:=by
 rcases eH n h.length with hlt |hge
 .exact hlt
 .simp[af,List.getD,dL hge,O.live]at hl
theorem sA{o:O}{es:Nat}(h:o.dg=some es):o.live=true:=by cases o<;>simp_all[O.dg,O.live]
theorem JK{I I':Nat->Nat}{w w':World}(hE:Ext I w I' w'){b es o:Nat}{xs:List (List D)}(hc:∀i,w'.cell? ⟨b,i,none⟩=w.cell? ⟨b,i,none⟩)
  (h:fE φ I w b es o xs):fE φ I' w' b es o xs :=
 nD λ_ _ hr =>
  let ⟨h1,h2⟩:=iV h hr
  ⟨h1,om λ_ _ hj =>
   let ⟨x,hx,h3,h4⟩:=vX h2 hj
   ⟨x,by rw[hc];exact hx,h3,nA hE h4⟩⟩
theorem OM{h h':List O}{g g':Gh}{w w':World}(hle:cT h g w h' g' w'){b es o:Nat}{rows:List (List V)}
  (hc:∀i,w'.cell? ⟨b,i,none⟩=w.cell? ⟨b,i,none⟩)(hr:oq φ h g w b es o rows):oq φ h' g' w' b es o rows:=λr row hrow =>
 let ⟨h1,h2⟩:=hr r row hrow
 ⟨h1,λj c hj =>
  let ⟨x,hx,h3,h4⟩:=h2 j c hj
  ⟨x,by rw[hc];exact hx,h3,fF hle h4⟩⟩
theorem sC{h h':List O}{g g':Gh}{w w':World}(hle:cT h g w h' g' w'){kv:List (D×V)}{es:List MapEntry}
  (hr:kO φ h g w kv es):kO φ h' g' w' kv es :=
 ⟨hr.1,λi p e hp he=>let ⟨h1,h2⟩:=hr.2 i p e hp he;⟨nA hle.ext h1,fF hle h2⟩⟩
theorem EN{h h':List O}{g g':Gh}{w w':World}(hle:cT h g w h' g' w'){env:List (Nat×V)}{tmps:Array Value}
  (hr:uo φ h g w env tmps):uo φ h' g' w' env tmps:=λp hp=>fF hle (hr p hp)
theorem ur{h h':List O}{g g':Gh}{w w':World}(hle:cT h g w h' g' w'){b o:Nat}{x:O}(hb:w'.heap[b]?=w.heap[b]?)(hI:g'.I b=g.I b)
  (hr:cP φ h g w b o x):cP φ h' g' w' b o x:=by
 have hc:=v5 hb;cases x with
 |dead=>trivial
 |an es ex rows =>
  obtain⟨h1,h2,h3⟩:=hr;exact⟨by rw[hb];exact h1,JK hle.ext hc h2,by rw[hI];exact h3⟩
 |cS es rows =>
  obtain⟨h1,h2,h3⟩:=hr;exact⟨by rw[hb];exact h1,OM hle hc h2,by rw[hI];exact h3⟩
 |mp kv ck bs =>
  obtain⟨ES,h1,h2,h4,h3⟩:=hr;exact⟨ES,by rw[hb];exact h1,sC hle h2,h4,by rw[hI];exact h3⟩
 |it k since seen =>
  obtain⟨r,h1,h2,h3,h4,h5⟩:=hr;refine⟨r,by rw[hb];exact h1,je h2 hle.len,λhm=>?_,h4,by rw[hI];exact h5⟩
  obtain⟨k1,k2⟩:=hle.mp k h2 hm;rw[k2];exact h3 k1
 |lp ps a c e env =>
  obtain⟨r,nt,h1,h0,h2,h3,h4,h5,h6,h7⟩:=hr;exact⟨r,nt,by rw[hb];exact h1,h0,h2,h3,EN hle h4,h5,h6,by rw[hI];exact h7⟩
theorem ON{h:List O}{g:Gh}{w:World}{b o:Nat}{x:O}(hr:cP φ h g w b o x)(hl:x.live=true):b<w.heap.size:=by
 have key:∀{y:Obj},w.heap[b]?=some y->b<w.heap.size:=λhy=>by
  rcases eH b w.heap.size with hlt |hge
  .exact hlt
  .simp[AH hge]at hy
 cases x with
 |dead=>simp[O.live]at hl
 |an es ex rows=>obtain⟨⟨CS,T,h1,_⟩,_⟩:=hr;exact key h1
 |cS es rows=>obtain⟨⟨CS,T,h1,_⟩,_⟩:=hr;exact key h1
 |mp kv ck bs=>obtain⟨ES,h1,_⟩:=hr;exact key h1
 |it k since seen=>obtain⟨r,h1,_⟩:=hr;exact key h1
 |lp ps a c e env=>obtain⟨r,nt,h1,_⟩:=hr;exact key h1
theorem bT.block{h:List O}{g:Gh}{w:World}(hr:bT φ h g w){n:Nat}(hl:(af h n).live=true):g.β n<w.heap.size:=ON (hr.obj n) hl
structure cU(w w':World):Prop where
 size:w.heap.size<=w'.heap.size
 same:∀b,b<w.heap.size->w'.heap[b]?=w.heap[b]?
 os:w'.os=w.os
 tape:w'.tape=w.tape
 output:w'.output=w.output
theorem cU.refl(w:World):cU w w:=⟨bZ _,λ_ _=>rfl,rfl,rfl,rfl⟩
theorem cU.trans{a b c:World}(h:cU a b)(k:cU b c):cU a c :=
 ⟨ig h.size k.size,λi hi=>(k.same i (je hi h.size)).trans (h.same i hi),k.os.trans h.os,k.tape.trans h.tape,k.output.trans h.output⟩
theorem cU.alloc(w:World)(o:Obj):cU w (w.alloc o):=
 ⟨by simp,λb hb=>RowKit.Below.heap_alloc w o b hb,rfl,rfl,rfl⟩
theorem cU.drew(w:World):cU w w.drew:=⟨bZ _,λ_ _=>rfl,rfl,rfl,rfl⟩
def Gh.bM(g:Gh)(I:Nat->Nat):Gh:=⟨g.β,g.o,I⟩
def eu(I:Nat->Nat)(b k:Nat):Nat->Nat:=λx=>if x=b then k else I x
theorem uu{I I':Nat->Nat}{w w':World}(hg:cU w w')(hI:∀b,b<w.heap.size->I' b=I b)(h0:∀b,w.heap.size<=b->I b=0):Ext I w I' w' :=
 ⟨λb=>by
  rcases eH b w.heap.size with h |h
  .rw[hI b h];exact bZ _
  .rw[h0 b h];exact tK _,
  λb i hi=>by
  rcases eH b w.heap.size with h |h
  .exact v5 (hg.same b h) i
  .rw[h0 b h]at hi;omega⟩
theorem Bj{h:List O}{g:Gh}{w w':World}{I':Nat->Nat}(hr:bT φ h g w)(hg:cU w w')(hI:∀b,b<w.heap.size->I' b=g.I b):cT h g w h (g.bM I') w' where
 ext:=uu hg hI hr.new
 len:=bZ _
 arr n es _ he:=⟨he,rfl,rfl,rfl,iF.of_eq (hg.same _ (hr.block (sA he)))⟩
 mp n _ hk:=⟨hk,rfl⟩
 lp n _ hk:=⟨hk,rfl⟩
theorem JL{h:List O}{g:Gh}{w w':World}{I':Nat->Nat}(hr:bT φ h g w)(hg:cU w w')(hI:∀b,b<w.heap.size->I' b=g.I b)
  (hnew:∀b,w'.heap.size<=b->I' b=0):bT φ h (g.bM I') w' where
 obj n:=by
  by_cases hl:(af h n).live=true
  .have hb:=hr.block hl
   exact ur (Bj hr hg hI) (hg.same _ hb) (hI _ hb) (hr.obj n)
  .cases hx:af h n<;>simp_all[O.live,cP]
 inj:=hr.inj
 new:=hnew
theorem qV(m:Nat){h:List O}{g:Gh}{w w':World}{I':Nat->Nat}(hr:bT φ h g w)(hg:cU w w')(hI:∀b,b<w.heap.size->I' b=g.I b):Frame m h g w h (g.bM I') w' where
 ext:=uu hg hI hr.new
 size:=hg.size
 os:=hg.os
 tape:=hg.tape
 output:=hg.output
 eU _ _:=⟨rfl,rfl⟩
 keep b hb _:=⟨hg.same b hb,hI b hb⟩
 gT n hn:=.inl ⟨n,hn,rfl⟩
 jq n _:=⟨λ_ he=>⟨he,rfl,iF.of_eq (hg.same _ (hr.block (sA he)))⟩,id,id⟩
def Gh.add(g:Gh)(n b o:Nat)(I:Nat->Nat):Gh:=⟨λk=>if k=n then b else g.β k,λk=>if k=n then o else g.o k,I⟩
theorem jM{h:List O}{x:O}{n:Nat}(hn:n<h.length):af (h++[x]) n=af h n:=by
 simp[af,List.getD,jH hn]
theorem uw{h:List O}{x:O}:af (h++[x]) h.length=x:=by simp[af,List.getD]
theorem nE{h:List O}{x:O}{n:Nat}(hn:h.length<n):af (h++[x]) n = .dead:=by
 have:(h++[x]).length<=n:=by simp;omega
 simp[af,List.getD,dL this]
theorem qW{h:List O}{g:Gh}{w w':World}{I':Nat->Nat}{b o:Nat}(x:O)(hr:bT φ h g w)(hg:cU w w')(hI:∀b,b<w.heap.size->I' b=g.I b):
  cT h g w (h++[x]) (g.add h.length b o I') w' where
 ext:=uu hg hI hr.new
 len:=by simp
 arr n es hn he:=by
  rw[jM hn]at he⊢;have hne:n≠h.length:=by omega
  exact⟨he,by simp[Gh.add,hne],by simp[Gh.add,hne],rfl,iF.of_eq (hg.same _ (hr.block (sA he)))⟩
 mp n hn hk:=by
  rw[jM hn]at hk;have hne:n≠h.length:=by omega
  exact⟨hk,by simp[Gh.add,hne]⟩
 lp n hn hk:=by
  rw[jM hn]at hk;have hne:n≠h.length:=by omega
  exact⟨hk,by simp[Gh.add,hne]⟩
theorem JM{h:List O}{g:Gh}{w w':World}{I':Nat->Nat}{b o:Nat}{x:O}(hr:bT φ h g w)(hg:cU w w')(hI:∀b,b<w.heap.size->I' b=g.I b)
  (hnew:∀b,w'.heap.size<=b->I' b=0)(hb:w.heap.size<=b)(hx:cP φ (h++[x]) (g.add h.length b o I') w' b o x):bT φ (h++[x]) (g.add h.length b o I') w' where
 obj n:=by
  rcases lB n h.length with hn |hn |hn
  .have hne:n≠h.length:=by omega
   rw[jM hn];by_cases hl:(af h n).live=true
   .have hb':=hr.block hl
    have:=ur (qW (b:=b) (o:=o) x hr hg hI) (hg.same _ hb') (hI _ hb') (hr.obj n);simpa[Gh.add,hne]using this
   .cases hq:af h n<;>simp_all[O.live,cP]
  .subst hn
   rw[uw];simpa[Gh.add]using hx
  .rw[nE hn]
   trivial
 inj n k hn hk he:=by
  have key:∀n,(af (h++[x]) n).live=true->n<=h.length:=λn hn=>by
   rcases eH h.length n with h1 |h1
   .rw[nE h1]at hn;simp[O.live]at hn
   .exact h1
  have kn:=key n hn;have kk:=key k hk;by_cases h1:n=h.length<;>by_cases h2:k=h.length
  .omega
  .have hlt:k<h.length:=by omega
   rw[jM hlt]at hk;have:=hr.block hk;simp[Gh.add,h1,h2]at he;omega
  .have hlt:n<h.length:=by omega
   rw[jM hlt]at hn;have:=hr.block hn;simp[Gh.add,h1,h2]at he;omega
  .have hlt:n<h.length:=by omega
   have hlt':k<h.length:=by omega
   rw[jM hlt]at hn;rw[jM hlt']at hk;simp[Gh.add,h1,h2]at he;exact hr.inj n k hn hk he
 new:=hnew
theorem EO{m:Nat}{h:List O}{g:Gh}{w w':World}{I':Nat->Nat}{b o:Nat}(x:O)(hr:bT φ h g w)(hg:cU w w')(hI:∀b,b<w.heap.size->I' b=g.I b)
  (hb:w.heap.size<=b)(hm:m<=h.length):Frame m h g w (h++[x]) (g.add h.length b o I') w' where
 ext:=uu hg hI hr.new
 size:=hg.size
 os:=hg.os
 tape:=hg.tape
 output:=hg.output
 eU n hn:=by
  have hne:n≠h.length:=by omega
  simp[Gh.add,hne]
 keep b hb _:=⟨hg.same b hb,hI b hb⟩
 gT n hn:=by
  rcases lB n h.length with h1 |h1 |h1
  .have hne:n≠h.length:=by omega
   rw[jM h1]at hn;exact .inl ⟨n,hn,by simp[Gh.add,hne]⟩
  .exact .inr (by simp[Gh.add,h1];exact hb)
  .rw[nE h1]at hn;simp[O.live]at hn
 jq n hn:=(qW x hr hg hI (b:=b) (o:=o)).at (je hn hm)
structure fG(w w':World)(b:Nat):Prop where
 size:w'.heap.size=w.heap.size
 same:∀k,k≠b->w'.heap[k]?=w.heap[k]?
 os:w'.os=w.os
 tape:w'.tape=w.tape
 output:w'.output=w.output
theorem ow{h:List O}{x:O}{n:Nat}(hn:n<h.length):af (h.set n x) n=x:=by simp[af,List.getD,hn]
theorem jN{h:List O}{x:O}{n k:Nat}(hk:k≠n):af (h.set n x) k=af h k:=by
 simp[af,List.getD,tL hk]
theorem nF{h:List O}{g:Gh}{w w':World}{I':Nat->Nat}{n:Nat}{x:O}(hr:bT φ h g w)(hl:(af h n).live=true)(ht:fG w w' (g.β n))
  (hE:Ext g.I w I' w')
  (hx:∀es,x.dg=some es->(af h n).dg=some es/\x.len=(af h n).len/\iF w.heap[g.β n]? w'.heap[g.β n]?)
  (hmp:x.fL=true->(af h n).fL=true)(OO:x.mJ=true->(af h n).mJ=true:=by intro hh;simp[O.mJ]at hh):cT h g w (h.set n x) (g.bM I') w' where
 ext:=hE
 len:=by simp
 arr k es hk he:=by
  by_cases hkn:k=n
  .subst hkn
   rw[ow hk]at he⊢;exact⟨(hx es he).1,rfl,rfl,(hx es he).2.1,(hx es he).2.2⟩
  .rw[jN hkn]at he⊢
   have hb:g.β k≠g.β n:=λe=>hkn (hr.inj k n (sA he) hl e)
   exact⟨he,rfl,rfl,rfl,iF.of_eq (ht.same _ hb)⟩
 mp k hk hq:=by
  by_cases hkn:k=n
  .subst hkn
   rw[ow hk]at hq;exact⟨hmp hq,rfl⟩
  .rw[jN hkn]at hq
   exact⟨hq,rfl⟩
 lp k hk hq:=by
  by_cases hkn:k=n
  .subst hkn
   rw[ow hk]at hq;exact⟨OO hq,rfl⟩
  .rw[jN hkn]at hq
   exact⟨hq,rfl⟩
theorem nG{h:List O}{g:Gh}{w w':World}{I':Nat->Nat}{n:Nat}{x:O}(hr:bT φ h g w)(hl:(af h n).live=true)(ht:fG w w' (g.β n))
  (hle:cT h g w (h.set n x) (g.bM I') w')(hI:∀b,b≠g.β n->I' b=g.I b)
  (hx:cP φ (h.set n x) (g.bM I') w' (g.β n) (g.o n) x):bT φ (h.set n x) (g.bM I') w' where
 obj k:=by
  by_cases hkn:k=n
  .subst hkn
   rw[ow (sy hl)];exact hx
  .rw[jN hkn]
   by_cases hk:(af h k).live=true
   .have hb:g.β k≠g.β n:=λe=>hkn (hr.inj k n hk hl e)
    exact ur hle (ht.same _ hb) (hI _ hb) (hr.obj k)
   .cases hq:af h k<;>simp_all[O.live,cP]
 inj a b ha hb he:=by
  have key:∀k,(af (h.set n x) k).live=true->(af h k).live=true:=λk hk=>by
   by_cases hkn:k=n
   .subst hkn;exact hl
   .rwa [jN hkn]at hk
  exact hr.inj a b (key a ha) (key b hb) he
 new b hb:=by
  have h1:w.heap.size<=b:=by rw[<-ht.size];exact hb
  have h2:=hr.block hl;show I' b=0
  rw[hI b (by omega)]
  exact hr.new b h1
theorem nH{m:Nat}{h:List O}{g:Gh}{w w':World}{I':Nat->Nat}{n:Nat}(x:O)(hl:(af h n).live=true)(ht:fG w w' (g.β n))
  (hE:Ext g.I w I' w')(hI:∀b,b≠g.β n->I' b=g.I b)(hle:cT h g w (h.set n x) (g.bM I') w'):Frame m h g w (h.set n x) (g.bM I') w' where
 ext:=hE
 size:=by rw[ht.size];exact bZ _
 os:=ht.os
 tape:=ht.tape
 output:=ht.output
 eU _ _:=⟨rfl,rfl⟩
 keep b _ hn:=⟨ht.same b (λe=>hn n hl e.symm),hI b (λe=>hn n hl e.symm)⟩
 gT k hk:=by
  by_cases hkn:k=n
  .subst hkn;exact .inl ⟨k,hl,rfl⟩
  .rw[jN hkn]at hk;exact .inl ⟨k,hk,rfl⟩
 jq k _:=by
  rcases eH k h.length with h1 |h1
  .exact hle.at h1
  .have h2:af (h.set n x) k = .dead:=by
    have:(h.set n x).length<=k:=by simpa using h1
    simp[af,List.getD,dL this]
   exact⟨λes he=>by rw[h2]at he;simp[O.dg]at he,λhk=>by rw[h2]at hk;simp[O.fL]at hk,λhk=>by rw[h2]at hk;simp[O.mJ]at hk⟩
end
end Go.VS
namespace Go.VS
section
variable (P:Program)(φ:Nat->Nat)(nt:Nat)
def Bk(v:Value)(x:D):Bool :=
 match v,x with
 | .bool a,.b b=>a==b
 | .int k n,.i k' n'=>k==k'&&n==n'
 | .string s,.s x=>s.toList==x
 | .pointer none,.nil=>true
 | .slice none 0 0,.sl _ true []=>true
 | .map none,.n8=>true
 | .nilFunc,.vQ=>true
 | .nilIface,.AZ=>true
 | .func (.func f) a b,.fn g [] []=>φ g==f&&a.isEmpty&&b.isEmpty
 |_,_=>false
def ux:List Value->List D->Bool
 | [],[]=>true
 |v::vs,x::xs=>Bk φ v x&&ux vs xs
 |_,_=>false
def v7(v:Value)(x:D):Bool :=
 match v,x with
 | .agg A,.ag ds=>ux φ A.toList ds
 |v,x=>Bk φ v x
def OP(v:Value)(z:List D):Bool:=ux φ v.cells.toList z
def bE(o:Operand)(a:A):Bool :=
 match o,a with
 | .tmp t,.t n=>t==n
 | .const v,.k x=>v7 φ v x
 | .func f,.k (.fn g [] [])=>φ g==f
 |_,_=>false
def jr:List Operand->List A->Bool
 | [],[]=>true
 |o::os,a::as=>bE φ o a&&jr os as
 |_,_=>false
def Bl:Option Operand->Option A->Bool
 |none,none=>true
 |some o,some a=>bE φ o a
 |_,_=>false
def gN(t:TypeId)(n:Nat):Bool:=(P.info? t).map (·.size)==some n
def sD(t:TypeId)(ag:Bool):Bool :=
 match P.underlying t with
 |some (.struct _) |some (.array ..)=>ag
 |some _=>!ag
 |none=>false
def uy(t:TypeId)(z:List D):Bool :=
 match P.info? t with
 |some i=>match i.zero with
  |some v=>OP φ v z&&i.size==z.length
  |none=>false
 |none=>false
def cQ(o:Oper)(d:Nat):Bool:=o.dst==some d&&decide (d<nt)
def j6(o:Oper)(d:Option Nat):Bool:=o.dst==d&&d.all (λd=>decide (d<nt))
def uz(fs:Array Field):List (Nat×Operand)->List (Nat×Nat×A)->Bool
 | [],[]=>true
 |(i,x)::r,(o,n,a)::r'=>(match fs[i]? with |some f=>f.offset==o&&gN P f.type n |none=>false)&&bE φ x a&&uz fs r r'
 |_,_=>false
def v8:List (Nat×Operand)->List (Nat×A)->Bool
 | [],[]=>true
 |(i,x)::r,(j,a)::r'=>i==j&&bE φ x a&&v8 r r'
 |_,_=>false
def qX(t:TypeId)(k:CK):Bool :=
 match P.underlying t,k with
 |some .bool,.b |some (.int _),.i |some .string,.s=>true
 |_,_=>false
def pM:Nat->List Field->List CK->Bool
 |_,[],[]=>true
 |off, f :: r, k :: ks => f.name != "_" && f.offset == off && qX P f.type k && pM (off + 1) r ks
 |_,_,_=>false
def Bm(t:TypeId)(ks:List CK):Bool :=
 match P.underlying t with
 |some (.struct fs)=>!P.stoodInHeld t&&!P.eqGuardType P.depth t&&pM P 0 fs.toList ks
 |_=>false
def lS(kt:TypeId)(ks:List CK):Bool :=
 match ks with
 | [k]=>qX P kt k
 |_=>Bm P kt ks
def EP(t:TypeId)(v:Value)(k:NK):Bool :=
 match P.underlying t,v,k with
 |some (.slice _),.slice none 0 0,.sl |some (.map ..),.map none,.mp |some (.func ..),.nilFunc,.fn |some (.pointer _),.pointer none,.pt |some (.interface _),.nilIface,.mo=>true
 |_,_,_=>false
def ER(fn:Func):Bool :=
 fn.origin == "slices.overlaps" && (Extern.allGenericRows.lookup fn.name).isNone && (Extern.allTypedRows.lookup fn.name).isNone && (Extern.allRows.lookup fn.name).isNone && (Extern.allNextRows.lookup fn.name).isNone
def ET (k n : Nat) (e : TypeId) : Array Field := ((List.range k).map fun i => ({ name := "", type := e, offset := i * n, embedded := false, tag := "", pkgPath := "", byteOffset := 0 } : Field)).toArray
def aR(o:Oper)(i:I):Bool :=
 match i with
 | .mv d x=>cQ nt o d&&(match o.op with | .move y | .assign y=>bE φ y x |_=>false)
 | .pick d c a b=>cQ nt o d&&(match o.op with | .pick c' a' b'=>bE φ c' c&&bE φ a' a&&bE φ b' b |_=>false)
 | .box d x _ _=>cQ nt o d&&(match o.op with | .box _ y=>bE φ y x |_=>false)
 | .new d z=>cQ nt o d&&(match o.op with | .alloc t=>uy P φ t z |_=>false)
 | .build d z ps=>cQ nt o d&&(match o.op with
  | .build t qs=>uy P φ t z&&(match P.underlying t with |some (.struct fs)=>uz P φ fs qs.toList ps&&fs.all (λf=>(P.info? f.type).isSome) |some (.array k e)=>(match P.info? e with |some i=>uz P φ (ET k i.size e) qs.toList ps |none=>false) |_=>false)
  |_=>false)
 | .jh d es n z ps _=>cQ nt o d&&(match o.op with
  | .buildSlice t k qs=>k==n&&decide (n*es<=16777216)&&decide (0<es)&&(match P.underlying t with |some (.slice e)=>uy P φ e z&&z.length==es&&v8 φ qs.toList ps |_=>false)
  |_=>false)
 | .ld d x n ag | .lN d x n ag=>cQ nt o d&&(match o.op with | .load t y=>bE φ y x&&sD P t ag&&gN P t n |_=>false)
 | .st x y n fz=>(match o.op with | .store t x' y'=>o.dst==none&&bE φ x' x&&bE φ y' y&&gN P t n&&decide (0<n)&&(match x,fz with | .t d,true=>decide (d<nt) |_,b=>!b) |_=>false)
 | .fa d x off n | .mE d x off n=>cQ nt o d&&(match o.op with
  | .fieldAddr t y k=>bE φ y x&&decide (0<n)&&(match P.underlying t with |some (.struct fs)=>(match fs[k]? with |some f=>f.offset==off&&gN P f.type n |none=>false) |_=>false)
  |_=>false)
 | .fD d x j es=>cQ nt o d&&(match o.op with
  | .indexAddr t y k=>bE φ y x&&bE φ k j&&(match P.underlying t with |some (.slice e)=>gN P e es&&decide (0<es) |_=>false)
  |_=>false)
 | .mB d x=>cQ nt o d&&(match o.op with | .nilCheck y=>bE φ y x |_=>false)
 | .lM d x lo hi mx es=>cQ nt o d&&(match o.op with
  | .slice t y (some lo') (some hi') (some JN)=>bE φ y x&&bE φ lo' lo&&bE φ hi' hi&&bE φ JN mx&&(match P.underlying t with |some (.slice e)=>gN P e es |_=>false)
  |_=>false)
 | .bad d=>j6 nt o d
 | .cap d x=>cQ nt o d&&(match o.op with
  | .call c=>(match c.callee,c.args.toList,c.argTypes.toList with
   | .builtin .cap,[y],[t]=>bE φ y x&&(match P.underlying t with |some (.slice _)=>true |_=>false)
   |_,_,_=>false)
  |_=>false)
 | .mC d x k es z=>cQ nt o d&&(match o.op with
  | .call c=>(match c.callee,c.args.toList,c.argTypes.toList with
   | .builtin .append,[x',k'],[t,t']=>bE φ x' x&&bE φ k' k&&decide (0<es)&&(match P.underlying t,P.underlying t' with
    |some (.slice e),some (.int _)=>uy P φ e z&&(match P.info? e with |some i=>i.size==es&&decide (i.bytes<=16384) |none=>false)
    |_,_=>false)
   |_,_,_=>false)
  |_=>false)
 | .mD d f x y es=>cQ nt o d&&(match o.op with
  | .call c=>(match c.callee with
   | .value (.func g)=>φ f==g&&jr φ c.args.toList [x,y]&&(match P.funcs[g]? with
    |some fn => !(fn.name == "runtime.NumGoroutine") && fn.body.isNone && ER fn && (match fn.params.toList with
     | [t,_]=>(match P.underlying t with |some (.slice e)=>decide (0<es)&&gN P e es |_=>false)
     |_=>false)
    |none=>false)
   |_=>false)
  |_=>false)
 | .lI d x es z=>j6 nt o d&&(match o.op with
  | .call c=>(match c.callee,c.args.toList,c.argTypes.toList with
   | .builtin .clear,[y],[t]=>bE φ y x&&(match P.underlying t with |some (.slice e)=>uy P φ e z&&z.length==es&&decide (0<es) |_=>false)
   |_,_,_=>false)
  |_=>false)
 | .copy d x y es=>j6 nt o d&&(match o.op with
  | .call c=>(match c.callee,c.args.toList,c.argTypes.toList with
   | .builtin .copy,[x',y'],[t,t']=>bE φ x' x&&bE φ y' y&&decide (0<es)&&(match P.underlying t,P.underlying t' with
    |some (.slice e),some (.slice _)=>gN P e es
    |_,_=>false)
   |_,_,_=>false)
  |_=>false)
 | .bin d op x y=>cQ nt o d&&(match o.op with
  | .binOp op' t x' y' _=>op'==op&&bE φ x' x&&bE φ y' y&&(match P.underlying t with |some (.int _) |some .string=>true |_=>false)
  |_=>false)
 | .jZ d neg x k=>cQ nt o d&&(match o.op with
  | .binOp op' t x' (.const v) _=>op'==(if neg then .neq else .eql)&&bE φ x' x&&EP P t v k
  |_=>false)
 | .un d op x=>cQ nt o d&&(match o.op with | .unOp op' _ y=>op'==op&&bE φ y x |_=>false)
 | .len d x k=>cQ nt o d&&(match o.op with
  | .call c=>(match c.callee,c.args.toList,c.argTypes.toList with
   | .builtin .len,[y],[t]=>bE φ y x&&(match P.underlying t,k with |some (.slice _),.sl |some .string,.s |some (.map ..),.mp=>true |_,_=>false)
   |_,_,_=>false)
  |_=>false)
 | .sl d x lo hi es | .sle d x lo hi es=>cQ nt o d&&(match o.op with
  | .slice t y lo' hi' none=>bE φ y x&&Bl φ lo' lo&&Bl φ hi' hi&&(match P.underlying t with |some (.slice e)=>gN P e es |_=>false)
  |_=>false)
 | .app d x y es | .nj d x y es=>cQ nt o d&&(match o.op with
  | .call c=>(match c.callee,c.args.toList,c.argTypes.toList with
   | .builtin .append,[x',y'],[t,t']=>bE φ x' x&&bE φ y' y&&decide (0<es)&&(match P.underlying t,P.underlying t' with
    |some (.slice e),some (.slice _)=>(match P.info? e with |some i=>i.size==es&&decide (i.bytes<=16384)&&(match i.zero with |some z=>z.cells.size==i.size&&z.cells.toList.all (·.oneCell') |none=>false) |none=>false)
    |_,_=>false)
   |_,_,_=>false)
  |_=>false)
 | .mq d=>cQ nt o d&&(match o.op with | .makeMap _ none=>true |_=>false)
 | .ji m k v ks=>o.dst==none&&(match o.op with
  | .insert t m' k' v' | .mapUpdate t m' k' v'=>bE φ m' m&&bE φ k' k&&bE φ v' v&&(match P.underlying t with |some (.map kt _)=>lS P kt ks |_=>false)
  |_=>false)
 | .jj d m k z ok ks=>cQ nt o d&&(match o.op with
  | .lookup t m' k' EU=>bE φ m' m&&bE φ k' k&&EU==ok&&(match P.underlying t with
   |some (.map kt et)=>lS P kt ks&&(match P.info? et with |some i=>(match i.zero with |some v=>v7 φ v z |none=>false) |none=>false)
   |_=>false)
  |_=>false)
 | .oa d m k z ks=>cQ nt o d&&(match o.op with
  | .lookup t m' k' EU=>bE φ m' m&&bE φ k' k&&EU==false&&(match P.underlying t with
   |some (.map kt et)=>lS P kt ks&&(match P.info? et with |some i=>(match i.zero with |some v=>v7 φ v z |none=>false) |none=>false)
   |_=>false)
  |_=>false)
 | .mu d m k z ks=>cQ nt o d&&(match o.op with
  | .mapEntry t m' k'=>bE φ m' m&&bE φ k' k&&(match P.underlying t with
   |some (.map kt et)=>lS P kt ks&&(match P.info? et with |some i=>(match i.zero with |some v=>v7 φ v z |none=>false) |none=>false)
   |_=>false)
  |_=>false)
 | .n9 d x=>cQ nt o d&&(match o.op with
  | .range t x'=>bE φ x' x&&(match P.underlying t with |some (.map ..)=>true |_=>false)
  |_=>false)
 | .ni d x=>cQ nt o d&&(match o.op with | .entry x'=>bE φ x' x |_=>false)
 | .lJ m st v=>o.dst==none&&(match o.op with
  | .entryStore _ m' s' v'=>bE φ m' m&&bE φ s' st&&bE φ v' v
  |_=>false)
 | .iC m k ks=>o.dst==none&&(match o.op with
  | .call c=>(match c.callee,c.args.toList,c.argTypes.toList with
   | .builtin .delete,[m',k'],[t,_]=>bE φ m' m&&bE φ k' k&&(match P.underlying t with |some (.map kt _)=>lS P kt ks |_=>false)
   |_,_,_=>false)
  |_=>false)
 | .ext d x j=>cQ nt o d&&(match o.op with | .extract y k=>k==j&&bE φ y x |_=>false)
 | .iB d f a b=>cQ nt o d&&(match o.op with | .makeFunc (.func g) a' b'=>φ f==g&&jr φ a'.toList a&&jr φ b'.toList b |_=>false)
 | .call d f xs | .calls d f xs=>j6 nt o d&&(match o.op with
  | .call c=>(match c.callee with | .value (.func g)=>φ f==g&&jr φ c.args.toList xs |_=>false)
  |_=>false)
 | .lO d f xs=>cQ nt o d&&(match o.op with
  | .call c=>(match c.callee with | .value (.func g)=>φ f==g&&jr φ c.args.toList xs |_=>false)
  |_=>false)
 | .jJ d f xs | .iS d f xs=>j6 nt o d&&(match o.op with
  | .call c=>(match c.callee with | .value (.func g)=>φ f==g&&jr φ c.args.toList xs |_=>false)
  |_=>false)
 | .lK d x xs=>j6 nt o d&&(match o.op with
  | .call c=>(match c.callee with | .value y=>bE φ y x&&jr φ c.args.toList xs |_=>false)
  |_=>false)
 | .kE d x xs=>j6 nt o d&&(match o.op with
  | .call c=>(match c.callee with | .value y=>bE φ y x&&jr φ c.args.toList xs |_=>false)
  |_=>false)
 | .j0 d x xs=>j6 nt o d&&(match o.op with
  | .call c=>(match c.callee with | .value y=>bE φ y x&&jr φ c.args.toList xs |_=>false)
  |_=>false)
end
end Go.VS
namespace Go.VS
section
variable {P:Program}{φ:bX}
structure gU(dB:Nat)(h:List O)(g:Gh)(ds:List Deferred)(w:World):Prop where
 at_:∀d∈ds,∃D,d={target:=.collected D,args:=#[]}/\dB<=D/\w.heap[D]?=some (.deferred (some []))/\∀n,(af h n).live=true->g.β n≠D
 nodup:ds.Nodup
 le:dB<=w.heap.size
theorem sE{w:World}{D:Nat}{o:Obj}(h:w.heap[D]?=some o):D<w.heap.size:=by
 rcases eH D w.heap.size with hlt |hge
 .exact hlt
 .simp[AH hge]at h
theorem gU.nil{dB:Nat}{h:List O}{g:Gh}{w:World}(hl:dB<=w.heap.size):gU dB h g [] w:=⟨by simp,by simp,hl⟩
theorem gU.frame{dB m:Nat}{h h':List O}{g g':Gh}{ds:List Deferred}{w w':World}(hd:gU dB h g ds w)(hf:Frame m h g w h' g' w'):gU dB h' g' ds w' where
 at_ d hm:=by
  obtain⟨D,h1,h2,h3,h4⟩:=hd.at_ d hm;have hlt:=sE h3;refine⟨D,h1,h2,by rw[(hf.keep D hlt h4).1];exact h3,λn hn he=>?_⟩
  rcases hf.gT n hn with⟨k,hk,hb⟩ |hs
  .exact h4 k hk (hb.trans he)
  .omega
 nodup:=hd.nodup
 le:=ig hd.le hf.size
theorem gU.oy{dB:Nat}{h:List O}{g:Gh}{ds:List Deferred}{w w':World}{n:Nat}{x:O}{I':Nat->Nat}(hd:gU dB h g ds w)(hl:(af h n).live=true)(ht:fG w w' (g.β n)):
  gU dB (h.set n x) (g.bM I') ds w' where
 at_ d hm:=by
  obtain⟨D,h1,h2,h3,h4⟩:=hd.at_ d hm;refine⟨D,h1,h2,by rw[ht.same D (λe=>h4 n hl e.symm)];exact h3,λk hk=>?_⟩
  by_cases hkn:k=n
  .subst hkn;exact h4 k hl
  .rw[jN hkn]at hk;exact h4 k hk
 nodup:=hd.nodup
 le:=by rw[ht.size];exact hd.le
theorem gU.reuse{dB:Nat}{h:List O}{g:Gh}{ds:List Deferred}{w w':World}{n o:Nat}{x:O}{I':Nat->Nat}(hd:gU dB h g ds w)(hl:(af h n).live=true)(h1:gU dB (h.set n .dead) (g.bM I') ds w'):
  gU dB (h.set n .dead++[x]) ((g.bM I').add (h.set n .dead).length (g.β n) o I') ds w' where
 at_ d hm:=by
  obtain⟨D,e1,e2,e3,e4⟩:=h1.at_ d hm;obtain⟨D',k1,_,_,k4⟩:=hd.at_ d hm;have hD:D=D':=by rw[e1]at k1;simpa using k1
  subst hD;refine⟨D,e1,e2,e3,λk hk=>?_⟩
  simp only[Gh.add];split
  .exact k4 n hl
  .rename_i hne
   have hlt:k<(h.set n .dead).length:=by
    rcases eH (h.set n .dead).length k with h5 |h5
    .rw[nE h5]at hk;simp[O.live]at hk
    .omega
   rw[jM hlt]at hk;exact e4 k hk
 nodup:=hd.nodup
 le:=h1.le
structure aI(φ:bX)(nt m dB:Nat)(s:St)(g:Gh)(a:Act)(w:World):Prop where
 env:∀k,ah φ s.heap g w (aK s.env k) (a.tmps.getD k undef)
 heap:bT φ s.heap g w
 size:nt<=a.tmps.size
 defers:gU dB s.heap g a.defers w
 len:m<=s.heap.length
def bY(φ:bX)(nt m dB:Nat)(s:St)(g:Gh)(w:World)(s':St)(o:Oper)(a:Act)(K:Act->World->Prop):Prop :=
 ∀g' v' w',aI φ nt m dB s' g' (a.put o.dst v') w'->Frame m s.heap g w s'.heap g' w'->K (a.put o.dst v') w'
variable {nt m dB:Nat}{s:St}{g:Gh}{a:Act}{w:World}{K:Act->World->Prop}{Q:Exit->Act->World->Prop}{o:Oper}
theorem pN{v':Value}{w':World}(hrun:(execOp a.eval o).run P w = .ok (.value v') w')(hk:K (a.put o.dst v') w'):o.wp P a w K Q:=by
 unfold Oper.wp;rw[hrun];exact hk
theorem EV{w':World}(hrun:(execOp a.eval o).run P w = .ok .skip w')(hk:K (a.put o.dst undef) w'):o.wp P a w K Q:=by
 unfold Oper.wp;rw[hrun];exact hk
theorem JO{I:Nat->Nat}{v:Value}{x:D}(h:Bk φ v x=true):aC φ I w x v/\v.oneCell'=true:=by
 unfold Bk at h;split at h
 case h_1=>simp at h;subst h;exact⟨by simp[aC],rfl⟩
 case h_2=>simp at h;obtain⟨rfl,rfl⟩:=h;exact⟨by simp[aC],rfl⟩
 case h_3=>simp at h;exact⟨by simp only[aC];exact⟨_,rfl,h⟩,rfl⟩
 case h_4=>exact⟨by simp[aC],rfl⟩
 case h_5=>exact⟨by simp[aC],rfl⟩
 case h_6=>exact⟨by simp[aC],rfl⟩
 case h_7=>exact⟨by simp[aC],rfl⟩
 case h_8=>exact⟨by simp[aC],rfl⟩
 case h_9 =>
  rename_i f A B gg;simp at h;obtain⟨⟨h1,h2⟩,h3⟩:=h;subst h2;subst h3;exact⟨by simp only[aC];exact⟨#[],#[],by rw[h1],by simp[aM],by simp[aM]⟩,rfl⟩
 case h_10=>simp at h
theorem EW{I:Nat->Nat}:∀{vs:List Value}{xs:List D},ux φ vs xs=true->aM φ I w xs vs/\∀v∈vs,v.oneCell'=true
 | [],[],_=>by simp[aM]
 |v::vs,x::xs,h=>by
  simp only[ux,aA]at h;have h1:=JO (w:=w) (I:=I) h.1;have h2:=EW (I:=I) h.2;exact⟨by simp only[aM];exact⟨h1.1,h2.1⟩,by simpa using⟨h1.2,h2.2⟩⟩
 | [],_::_,h=>by simp[ux]at h
 |_::_,[],h=>by simp[ux]at h
theorem Bn{I:Nat->Nat}{v:Value}{x:D}(h:v7 φ v x=true):aC φ I w x v:=by
 unfold v7 at h;split at h
 .have:=EW (w:=w) (I:=I) h
  simp only[aC];exact⟨_,rfl,this.1,this.2⟩
 .exact(JO h).1
theorem b7(hs:aI φ nt m dB s g a w){x:Operand}{y:A}(h:bE φ x y=true):ah φ s.heap g w (s.get y) (a.eval x):=by
 unfold bE at h;split at h
 .simp at h;subst h;exact hs.env _
 .simp only[St.get,ah];exact Bn h
 .simp at h
  simp only[St.get,ah,aC,Act.eval];exact⟨#[],#[],by rw[h],by simp[aM],by simp[aM]⟩
 .simp at h
theorem pP(hs:aI φ nt m dB s g a w):∀{xs:List Operand}{ys:List A},jr φ xs ys=true->aB φ s.heap g w (ys.map s.get) (xs.map a.eval)
 | [],[],_=>by simp[aB]
 |x::xs,y::ys,h=>by
  simp only[jr,aA]at h;simp only[cR,aB];exact⟨b7 hs h.1,pP hs h.2⟩
 | [],_::_,h=>by simp[jr]at h
 |_::_,[],h=>by simp[jr]at h
theorem aI.lT(hs:aI φ nt m dB s g a w){d:Nat}(hd:d<nt){v:V}{v':Value}(hv:ah φ s.heap g w v v'){ok:Bool}:
  aI φ nt m dB ⟨(d,v)::s.env,s.heap,ok⟩ g (a.put (some d) v') w where
 env k:=by
  simp only[aK,Act.put];by_cases hk:d=k
  .subst hk
   simp[je hd hs.size,hv]
  .rw[aF hk]
   have:=hs.env k;simpa[vE hk]using this
 heap:=hs.heap
 size:=by simp only[Act.put,Array.size_setIfInBounds];exact hs.size
 defers:=hs.defers
 len:=hs.len
theorem aI.Bo(hs:aI φ nt m dB s g a w){w':World}{I':Nat->Nat}(hg:cU w w')(hI:∀b,b<w.heap.size->I' b=g.I b)
  (hnew:∀b,w'.heap.size<=b->I' b=0):aI φ nt m dB s (g.bM I') a w' where
 env k:=fF (Bj hs.heap hg hI) (hs.env k)
 heap:=JL hs.heap hg hI hnew
 size:=hs.size
 defers:=hs.defers.frame (qV m hs.heap hg hI)
 len:=hs.len
theorem pQ{d:Nat}(h:cQ nt o d=true):o.dst=some d/\d<nt:=by
 simpa[cQ]using h
theorem Bp{d:Nat}{ov:Option V}(h:(s.cr d ov).ok=true):∃v,ov=some v:=by
 cases ov
 .simp[St.cr,St.fail]at h
 .exact⟨_,rfl⟩
theorem nI(hs:aI φ nt m dB s g a w){d:Nat}(hd:cQ nt o d=true){v:V}{v':Value}{ok:Bool}
  (hrun:(execOp a.eval o).run P w = .ok (.value v') w)(hv:ah φ s.heap g w v v')
  (hK:bY φ nt m dB s g w ⟨(d,v)::s.env,s.heap,ok⟩ o a K):o.wp P a w K Q:=by
 obtain⟨h1,h2⟩:=pQ hd;refine pN hrun (hK g v' w ?_ (Frame.refl _ _ _ _));rw[h1];exact hs.lT h2 hv
theorem j7(hs:aI φ nt m dB s g a w){d:Nat}(hd:cQ nt o d=true){ov:Option V}(hok:(s.cr d ov).ok=true)
  (hop:∀v,ov=some v->∃v',(execOp a.eval o).run P w = .ok (.value v') w/\ah φ s.heap g w v v')
  (hK:bY φ nt m dB s g w (s.cr d ov) o a K):o.wp P a w K Q:=by
 obtain⟨v,rfl⟩:=Bp hok;obtain⟨v',hrun,hv⟩:=hop v rfl;exact nI hs hd hrun hv hK
theorem JP(hs:aI φ nt m dB s g a w){d:Nat}(hd:cQ nt o d=true){v:V}{v':Value}{w':World}{I':Nat->Nat}{ok:Bool}
  (hrun:(execOp a.eval o).run P w = .ok (.value v') w')(hg:cU w w')(hI:∀b,b<w.heap.size->I' b=g.I b)(hnew:∀b,w'.heap.size<=b->I' b=0)
  (hv:ah φ s.heap (g.bM I') w' v v')(hK:bY φ nt m dB s g w ⟨(d,v)::s.env,s.heap,ok⟩ o a K):o.wp P a w K Q:=by
 obtain⟨h1,h2⟩:=pQ hd;refine pN hrun (hK (g.bM I') v' w' ?_ (qV m hs.heap hg hI));rw[h1];exact(hs.Bo hg hI hnew).lT h2 hv
theorem oz{I:Nat->Nat}{v:Value}{x:Bool}(h:aC φ I w (.b x) v):v = .bool x:=by simpa[aC]using h
theorem lU{I:Nat->Nat}{v:Value}{k:IntKind}{n:Int}(h:aC φ I w (.i k n) v):v = .int k n:=by simpa[aC]using h
theorem OQ(hs:aI φ nt m dB s g a w){rec:Rec}{d:Nat}{x:A}(hc:aR P φ nt o (.mv d x)=true)
  (hK:bY φ nt m dB s g w (aj rec (.mv d x) s) o a K):o.wp P a w K Q:=by
 simp only[aR,aA]at hc;obtain⟨hd,h⟩:=hc;split at h
 .rename_i y ho
  exact nI hs hd (v':=a.eval y) (by simp[execOp,ho]) (b7 hs h) hK
 .rename_i y ho
  exact nI hs hd (v':=a.eval y) (by simp[execOp,ho]) (b7 hs h) hK
 .simp at h
theorem OR(hs:aI φ nt m dB s g a w){rec:Rec}{d:Nat}{c x y:A}(hc:aR P φ nt o (.pick d c x y)=true)(hok:(aj rec (.pick d c x y) s).ok=true)
  (hK:bY φ nt m dB s g w (aj rec (.pick d c x y) s) o a K):o.wp P a w K Q:=by
 simp only[aR,aA]at hc;obtain⟨hd,h⟩:=hc;split at h
 .rename_i c' x' y' ho
  simp only[aA]at h;have rc:=b7 hs h.1.1;simp only[aj]at hok hK;split at hK
  .rename_i b hb
   rw[hb]at rc;have hb':=oz (by simpa only[ah]using rc)
   refine nI hs hd (v':=if b then a.eval x' else a.eval y') (by simp[execOp,ho,hb',asBool]) ?_ hK
   cases b
   .exact b7 hs h.2
   .exact b7 hs h.1.2
  .rename_i hne
   split at hok
   .rename_i b hb;exact absurd hb (hne b)
   .simp[St.fail]at hok
 .simp at h
theorem OS{op:BinOp}{k:IntKind}{x y:Int}{v:V}{t:TypeId}(h:uc op (.d (.i k x)) (.d (.i k y))=some v):
  ∃v',(binOp op t (.int k x) (.int k y)).run P w = .ok v' w/\∀(hh:List O)(g:Gh),ah φ hh g w v v':=by
 cases op<;>simp[uc,arith]at h<;>try (subst h;refine⟨_,by simp[binOp,Op.intArith,Op.intCmp];rfl,λ_ _=>by simp[ah,aC]⟩)
 case quo=>obtain⟨h0,rfl⟩:=h;exact⟨_,by simp[binOp,Op.intDiv,h0];rfl,λ_ _=>by simp[ah,aC]⟩
 case rem=>obtain⟨h0,rfl⟩:=h;exact⟨_,by simp[binOp,Op.intDiv,h0];rfl,λ_ _=>by simp[ah,aC]⟩
 case shl=>obtain⟨h0,rfl⟩:=h;exact⟨_,by simp[binOp,Op.shift,AI.2 h0];rfl,λ_ _=>by simp[ah,aC]⟩
 case shr=>obtain⟨h0,rfl⟩:=h;exact⟨_,by simp[binOp,Op.shift,AI.2 h0];rfl,λ_ _=>by simp[ah,aC]⟩
end
end Go.VS
namespace Go.VS
section
variable {P:Program}{φ:bX}
variable {nt m dB:Nat}{s:St}{g:Gh}{a:Act}{w:World}{K:Act->World->Prop}{Q:Exit->Act->World->Prop}{o:Oper}
theorem JQ{op:BinOp}{t:TypeId}{x y:Operand}{u v:Value}(hu:u≠.nilIface)(hv:∀A,u≠.agg A):(eqGuard op t x y u v).run P w = .ok () w:=by
 cases u<;>first |exact absurd rfl hu |exact absurd rfl (hv _) |(cases op<;>rfl)
theorem OT(hs:aI φ nt m dB s g a w){rec:Rec}{d:Nat}{op:BinOp}{x y:A}(hc:aR P φ nt o (.bin d op x y)=true)(hok:(aj rec (.bin d op x y) s).ok=true)
  (hK:bY φ nt m dB s g w (aj rec (.bin d op x y) s) o a K):o.wp P a w K Q:=by
 simp only[aR,aA]at hc;obtain⟨hd,h⟩:=hc;split at h
 .rename_i op' t x' y' ty ho
  simp only[aA,bN]at h;obtain⟨⟨⟨rfl,hx⟩,hy⟩,ht⟩:=h;have rx:=b7 hs hx;have ry:=b7 hs hy;refine j7 hs hd hok (λv hv=>?_) hK
  have key:∀{u u':Value}{v':Value},a.eval x'=u->a.eval y'=u'->u≠.nilIface->(∀A,u≠.agg A)->(binOp op' t u u').run P w = .ok v' w->(execOp a.eval o).run P w = .ok (.value v') w:=by
   intro u u' v' h1 h2 h3 h4 h5;simp[execOp,ho,h1,h2,JQ (P:=P) (w:=w) (op:=op') (t:=t) (x:=x') (y:=y') (v:=u') h3 h4,h5]
  unfold uc at hv;split at hv
  ·
   rename_i k p k' q hp hq;rw[hp]at rx;rw[hq]at ry;have ex:=lU (by simpa only[ah]using rx)
   have ey:=lU (by simpa only[ah]using ry)
   by_cases hkk:k=k'
   .subst hkk
    obtain⟨v',hr,cM⟩:=OS (P:=P) (w:=w) (φ:=φ) (op:=op') (k:=k) (x:=p) (y:=q) (v:=v) (t:=t) (by unfold uc;exact hv)
    exact⟨v',key ex ey (by simp) (by simp) hr,cM _ _⟩
   .cases op'<;>simp[hkk]at hv
    case shl=>obtain⟨h0,rfl⟩:=hv;exact⟨_,key ex ey (by simp) (by simp) (by simp[binOp,Op.shift,AI.2 h0];rfl),by simp[ah,aC]⟩
    case shr=>obtain⟨h0,rfl⟩:=hv;exact⟨_,key ex ey (by simp) (by simp) (by simp[binOp,Op.shift,AI.2 h0];rfl),by simp[ah,aC]⟩
  ·
   rename_i p q hp hq;rw[hp]at rx;rw[hq]at ry;simp only[ah,aC]at rx ry;obtain⟨bx,ex,EX⟩:=rx;obtain⟨WW,ey,hby⟩:=ry;cases op'<;>simp at hv<;>subst hv
   .exact⟨_,key ex ey (by simp) (by simp) (by simp[binOp,Op.stringOp,EX,hby];rfl),by simp[ah,aC]⟩
   .exact⟨_,key ex ey (by simp) (by simp) (by simp[binOp,Op.stringOp,EX,hby];rfl),by simp[ah,aC]⟩
   .exact⟨_,key ex ey (by simp) (by simp) (by simp[binOp,Op.stringOp,EX,hby];rfl),by simp[ah,aC]⟩
  .simp at hv
 .simp at h
theorem OU(hs:aI φ nt m dB s g a w){rec:Rec}{d:Nat}{op:UnOp}{x:A}(hc:aR P φ nt o (.un d op x)=true)(hok:(aj rec (.un d op x) s).ok=true)
  (hK:bY φ nt m dB s g w (aj rec (.un d op x) s) o a K):o.wp P a w K Q:=by
 simp only[aR,aA]at hc;obtain⟨hd,h⟩:=hc;split at h
 .rename_i op' t y ho
  simp only[aA,bN]at h;obtain⟨rfl,hx⟩:=h;have rx:=b7 hs hx;refine j7 hs hd hok (λv hv=>?_) hK
  unfold A0 at hv;split at hv
  .rename_i b hb
   rw[hb]at rx;have ex:=oz (by simpa only[ah]using rx)
   cases op'<;>simp at hv;subst hv;exact⟨.bool (!b),by simp[execOp,ho,ex,Op.unary],by simp[ah,aC]⟩
  .rename_i k n hb
   rw[hb]at rx;have ex:=lU (by simpa only[ah]using rx)
   cases op'<;>simp at hv;subst hv;exact⟨.int k (k.wrap (0 - n)),by simp[execOp,ho,ex,Op.unary,Op.intArith],by simp[ah,aC]⟩
  .simp at hv
 .simp at h
theorem JR(hs:aI φ nt m dB s g a w){rec:Rec}{d j:Nat}{x:A}(hc:aR P φ nt o (.ext d x j)=true)(hok:(aj rec (.ext d x j) s).ok=true)
  (hK:bY φ nt m dB s g w (aj rec (.ext d x j) s) o a K):o.wp P a w K Q:=by
 simp only[aR,aA]at hc;obtain⟨hd,h⟩:=hc;split at h
 .rename_i y k ho
  simp only[aA,bN]at h;obtain⟨rfl,hx⟩:=h;have rx:=b7 hs hx;refine j7 hs hd hok (λv hv=>?_) hK
  unfold ue at hv;split at hv
  .rename_i vs hb
   rw[hb]at rx;simp only[ah]at rx;obtain⟨A,ex,hr⟩:=rx;obtain⟨v',h1,h2⟩:=uq hr hv;exact⟨v',by simp only[execOp,ho,ex,Instr.extract];simp at h1;simp[h1],h2⟩
  .simp at hv
 .simp at h
theorem OV(hs:aI φ nt m dB s g a w){rec:Rec}{d f:Nat}{x y:List A}(hc:aR P φ nt o (.iB d f x y)=true)
  (hK:bY φ nt m dB s g w (aj rec (.iB d f x y) s) o a K):o.wp P a w K Q:=by
 simp only[aR,aA]at hc;obtain⟨hd,h⟩:=hc;split at h
 .rename_i ff x' y' ho
  simp only[aA,bN]at h;obtain⟨⟨rfl,hx⟩,hy⟩:=h;have rx:=pP hs hx;have ry:=pP hs hy;have hrun:(execOp a.eval o).run P w = .ok (.value (.func (.func (φ f)) (x'.map a.eval) (y'.map a.eval))) w:=by simp[execOp,ho,Instr.makeFunc]
  simp only[aj]at hK;split at hK
  .rename_i p q hp hq
   exact nI hs hd hrun (by simp only[ah,aC];exact⟨_,_,rfl,by simpa using qS hp rx,by simpa using qS hq ry⟩) hK
  .exact nI hs hd hrun (by simp only[ah];exact⟨_,_,rfl,by simpa using rx,by simpa using ry⟩) hK
 .simp at h
theorem EY{t:TypeId}{ag:Bool}(h:sD P t ag=true):(isAgg t).run P w = .ok ag w:=by
 unfold sD at h;split at h
 .rename_i hu;subst h;simp[isAgg,underlying,hu]
 .rename_i hu;subst h;simp[isAgg,underlying,hu]
 .rename_i dd h1 h2 hu
  simp at h;subst h;cases dd<;>simp[isAgg,underlying,hu]<;>first |exact absurd rfl (h1 _) |exact absurd rfl (h2 _ _)
 .simp at h
theorem qY{t:TypeId}{n:Nat}(h:gN P t n=true):(sizeOf t).run P w = .ok n w:=by
 unfold gN at h;cases hi:P.info? t with
 |none=>simp[hi]at h
 |some i=>simp[hi]at h;simp[sizeOf,typeInfo,hi,h]
theorem kQ(b o j:Nat):(⟨b,o,none⟩:Addr).add j=⟨b,o+j,none⟩:=by unfold Addr.add;split<;>simp_all
theorem OW{t:TypeId}{n:Nat}{ag:Bool}(iG:sD P t ag=true)(hn:gN P t n=true){b off:Nat}{vs:List Value}
  (hc:∀(j:Nat)(v:Value),vs[j]?=some v->w.cell? ⟨b,off+j,none⟩=some v){v':Value}
  (hv:if ag then n<=vs.length/\v' = .agg (vs.take n).toArray else vs.head?=some v'):
  (Instr.loadAt t (.pointer (some ⟨b,off,none⟩))).run P w = .ok v' w:=by
 have h1:=EY (P:=P) (w:=w) iG;have h2:=qY (P:=P) (w:=w) hn;cases ag
 .simp only[eD,cB]at hv
  have:=hc 0 v' (by simpa[IV]using hv)
  simp only[x8]at this;simp[Instr.loadAt,Instr.sureAddr,loadVar,h1,this]
 .simp only[aU]at hv
  have hl:=run_loadCells_list (P:=P) w ⟨b,off,none⟩ (vs.take n) (λj v hj=>by
   rw[kQ];exact hc j v (by rw[tM]at hj;split at hj<;>simp_all))
  have hlen:(vs.take n).length=n:=by simp;omega
  rw[hlen]at hl;simp[Instr.loadAt,Instr.sureAddr,loadVar,h1,h2,hl,hv.2]
theorem EZ{I:Nat->Nat}{cs:List D}{vs:List Value}(h:aM φ I w cs vs)(n:Nat):aM φ I w (cs.take n) (vs.take n):=by
 induction cs generalizing vs n with
 |nil=>cases vs<;>simp_all[aM]
 |cons c cs ih=>cases vs<;>cases n<;>simp_all[aM]
theorem Bq{h:List O}{I:Gh}{n:Nat}{ag:Bool}{cs:List D}{vs:List Value}(hr:aM φ I.I w cs vs)(h1:∀v∈vs,v.oneCell'=true){v:V}(hp:ud n ag cs=some v):
  ∃v',(if ag then n<=vs.length/\v' = .agg (vs.take n).toArray else vs.head?=some v')/\ah φ h I w v v':=by
 have hlen:=nC hr;cases ag
 .simp only[ud,eD,cB]at hp⊢
  cases cs with
  |nil=>simp at hp
  |cons c cs =>
   cases vs with
   |nil=>simp[aM]at hr
   |cons u us =>
    simp at hp;subst hp;simp only[aM]at hr;exact⟨u,rfl,by simpa only[ah]using hr.1⟩
 .simp only[ud,aU]at hp⊢
  split at hp
  .rename_i hn
   simp at hp;subst hp;refine⟨_,⟨by omega,rfl⟩,?_⟩
   simp only[ah,aC];exact⟨_,rfl,by simpa using EZ hr n,λx hx=>h1 x (lC (by simpa using hx))⟩
  .simp at hp
theorem Br{h:List O}{g:Gh}{n:Nat}{ag:Bool}{cs:List V}{vs:List Value}(hr:aB φ h g w cs vs)(h1:∀v∈vs,v.oneCell'=true){v:V}(hp:pack n ag cs=some v):
  ∃v',(if ag then n<=vs.length/\v' = .agg (vs.take n).toArray else vs.head?=some v')/\ah φ h g w v v':=by
 have hlen:=jo hr;cases ag
 .simp only[pack,eD,cB]at hp⊢
  cases cs with
  |nil=>simp at hp
  |cons c cs =>
   cases vs with
   |nil=>simp[aB]at hr
   |cons u us =>
    simp at hp;subst hp;simp only[aB]at hr;exact⟨u,rfl,hr.1⟩
 .simp only[pack,aU]at hp⊢
  split at hp
  .rename_i hn
   simp at hp;subst hp;refine⟨_,⟨by omega,rfl⟩,?_⟩
   have ht:=JJ hr n;have h1':∀x∈(vs.take n).toArray.toList,x.oneCell'=true:=λx hx=>h1 x (lC (by simpa using hx))
   unfold tZ;split
   .rename_i ds hds
    simp only[ah,aC];exact⟨_,rfl,by simpa using qS hds ht,h1'⟩
   .simp only[ah]
    exact⟨_,rfl,by simpa using ht,h1'⟩
  .simp at hp
theorem JS{h:List O}{g:Gh}{b es o:Nat}{rows:List (List V)}(hr:oq φ h g w b es o rows){r:Nat}{row:List V}(hrow:rows[r]?=some row):
  ∃vs:List Value,aB φ h g w row vs/\(∀(j:Nat)(v:Value),vs[j]?=some v->w.cell? ⟨b,o+r*es+j,none⟩=some v)/\∀v∈vs,v.oneCell'=true:=by
 obtain⟨_,h2⟩:=hr r row hrow;have key:∀(cs:List V)(k:Nat),(∀(j:Nat)(c:V),cs[j]?=some c->∃x,w.cell? ⟨b,o+r*es+(k+j),none⟩=some x/\x.oneCell'=true/\ah φ h g w c x) ->
   ∃vs:List Value,aB φ h g w cs vs/\(∀(j:Nat)(v:Value),vs[j]?=some v->w.cell? ⟨b,o+r*es+(k+j),none⟩=some v)/\∀v∈vs,v.oneCell'=true:=by
  intro cs;induction cs with
  |nil=>intro k _;exact⟨[],by simp[aB],by simp,by simp⟩
  |cons c cs ih =>
   intro k hk;obtain⟨x,hx,h1,hd⟩:=hk 0 c rfl;obtain⟨vs,hv,hc,ho⟩:=ih (k+1) (λj c hj=>by
    have:=hk (j+1) c (by simpa using hj)
    rwa [show k+(j+1)=k+1+j from by omega]at this)
   refine⟨x::vs,by simp only[aB];exact⟨hd,hv⟩,λj v hj=>?_,by simpa using⟨h1,ho⟩⟩
   cases j with
   |zero=>simp at hj;subst hj;simpa using hx
   |succ j =>
    have:=hc j v (by simpa using hj)
    rwa [show k+1+j=k+(j+1)from by omega]at this
 have:=key row 0 (λj c hj=>by simpa using h2 j c hj)
 simpa using this
theorem v9{I:Nat->Nat}{cs:List D}{vs:List Value}(h:aM φ I w cs vs)(n:Nat):aM φ I w (cs.drop n) (vs.drop n):=by
 induction cs generalizing vs n with
 |nil=>cases vs<;>simp_all[aM]
 |cons c cs ih=>cases vs<;>cases n<;>simp_all[aM]
theorem JT(hs:aI φ nt m dB s g a w){rec:Rec}{d n:Nat}{ag:Bool}{x:A}(hc:aR P φ nt o (.ld d x n ag)=true)(hok:(aj rec (.ld d x n ag) s).ok=true)
  (hK:bY φ nt m dB s g w (aj rec (.ld d x n ag) s) o a K):o.wp P a w K Q:=by
 simp only[aR,aA]at hc;obtain⟨hd,h⟩:=hc;split at h
 .rename_i t y ho
  simp only[aA]at h;obtain⟨⟨hx,iG⟩,hn⟩:=h;have rx:=b7 hs hx;refine j7 hs hd hok (λv hv=>?_) hK
  have fin:∀{b off:Nat}{vs:List Value}{v':Value},a.eval y = .pointer (some ⟨b,off,none⟩)->(∀(j:Nat)(u:Value),vs[j]?=some u->w.cell? ⟨b,off+j,none⟩=some u) ->
    (if ag then n<=vs.length/\v' = .agg (vs.take n).toArray else vs.head?=some v')->(execOp a.eval o).run P w = .ok (.value v') w:=by
   intro b off vs v' he eK jt;have:=OW (P:=P) (w:=w) iG hn eK jt;simp[execOp,ho,he,this]
  unfold qL at hv;split at hv
  .rename_i cs hb
   rw[hb]at rx;simp only[ah,aC]at rx;obtain⟨b,off,he,hI,hcs⟩:=rx;obtain⟨vs,hvs,eK,h1⟩:=yx hcs;obtain⟨v',h2,h3⟩:=Bq (h:=s.heap) hvs h1 hv;exact⟨v',fin he eK h2,h3⟩
  .rename_i cs hb
   rw[hb]at rx;simp only[ah]at rx;obtain⟨b,off,us,he,hI,hcs,eK⟩:=rx;obtain⟨v',h2,h3⟩:=Br hcs (λv hv=>let ⟨j,hj,hh⟩:=jf hv;(eK j v (by simp[hj,hh])).2) hv
   exact⟨v',fin he (λj u hj=>(eK j u hj).1) h2,h3⟩
  .rename_i k r c hb
   rw[hb]at rx;simp only[ah]at rx;obtain⟨hlt,_,rx⟩:=rx;have bA:=hs.heap.obj k;split at hv
   .rename_i es ex rows hk
    rw[hk]at bA rx;have he:=rx es rfl;cases hrow:rows[r]? with
    |none=>simp[hrow]at hv
    |some row =>
     simp[hrow]at hv;obtain⟨_,h2,_⟩:=bA;obtain⟨_,hcs⟩:=iV h2 hrow;obtain⟨vs,hvs,eK,h1⟩:=yx hcs;obtain⟨v',h2,h3⟩:=Bq (h:=s.heap) (v9 hvs c) (λv hv=>h1 v (lD hv)) hv
     refine⟨v',fin he (λj u hj=>?_) h2,h3⟩
     have:=eK (c+j) u (by simpa[jI]using hj)
     rwa [<-Nat.add_assoc]at this
   .rename_i es rows hk
    rw[hk]at bA rx;have he:=rx es rfl;cases hrow:rows[r]? with
    |none=>simp[hrow]at hv
    |some row =>
     simp[hrow]at hv;obtain⟨_,h2,_⟩:=bA;obtain⟨vs,hvs,eK,h1⟩:=JS h2 hrow;obtain⟨v',h2,h3⟩:=Br (Bi hvs c) (λv hv=>h1 v (lD hv)) hv
     refine⟨v',fin he (λj u hj=>?_) h2,h3⟩
     have:=eK (c+j) u (by simpa[jI]using hj)
     rwa [<-Nat.add_assoc]at this
   .simp at hv
  .simp at hv
 .simp at h
end
end Go.VS
namespace Go.VS
section
variable {P:Program}{φ:bX}
variable {nt m dB:Nat}{s:St}{g:Gh}{a:Act}{w:World}{K:Act->World->Prop}{Q:Exit->Act->World->Prop}{o:Oper}
theorem JU{I:Nat->Nat}{t:TypeId}{k:CK}(hk:qX P t k=true){x y:D}{b:Bool}(h:nk k x y=some b){u v:Value}(hu:aC φ I w x u)(hv:aC φ I w y v)(d:Nat):
  (Op.equalIn (d+1) t u v).run P w = .ok b w:=by
 unfold qX at hk;unfold nk at h;split at h<;>simp only[bF,reduceCtorEq,x9]at h
 .obtain⟨rfl,rfl⟩:=h
  have hu:=lU hu;have hv:=lU hv;subst hu;subst hv;split at hk<;>simp_all;exact run_equalIn_int w d t _ _ _ _ (by assumption)
 .subst h
  have hu:=oz hu;have hv:=oz hv;subst hu;subst hv;split at hk<;>simp_all;exact run_equalIn_bool w d t _ _ (by assumption)
 .subst h
  simp only[aC]at hu hv;obtain⟨bs,rfl,hb⟩:=hu;obtain⟨cs,rfl,hc⟩:=hv;split at hk<;>simp_all;rw[run_equalIn_string w d t _ _ (by assumption),hb,hc]
theorem E0{t:TypeId}{k:CK}(hk:qX P t k=true){xs:Array Value}{off:Nat}{v:Value}(hv:xs[off]?=some v):(part t xs off).run P w = .ok v w:=by
 have iG:sD P t false=true:=by
  unfold qX at hk;unfold sD;split at hk<;>simp_all
 have h1:=EY (P:=P) (w:=w) iG;simp[part,h1,hv]
theorem JV{I:Nat->Nat}(d:Nat){xs ys:Array Value}:∀{fs:List Field}{ks:List CK}{off:Nat}{p q:List D}{b:Bool},pM P off fs ks=true->fV ks p q=some b ->
  aM φ I w p (xs.toList.drop off)->aM φ I w q (ys.toList.drop off)->(Op.eqFields (d+1) xs ys fs).run P w = .ok b w
 | [],[],_,p,q,b,_,hf,_,_=>by
  cases p<;>cases q<;>simp[fV]at hf;subst hf;simp[Op.eqFields]
 |f::fs,k::ks,off,p,q,b,hc,hf,hp,hq=>by
  simp only[pM,aA,bN,AJ]at hc;obtain⟨⟨⟨hn,rfl⟩,hk⟩,hr⟩:=hc;cases p with
  |nil=>simp[fV]at hf
  |cons x p =>
   cases q with
   |nil=>simp[fV]at hf
   |cons y q =>
    simp only[fV,ij,cX]at hf;obtain⟨b1,h1,b2,h2,rfl⟩:=hf;obtain⟨u,hu,ru⟩:=vW hp (j:=0) rfl;obtain⟨v,hv,rv⟩:=vW hq (j:=0) rfl;have ir:xs[f.offset]?=some u:=by simpa[jI]using hu
    have jt:ys[f.offset]?=some v:=by simpa[jI]using hv
    have dh:aM φ I w p (xs.toList.drop (f.offset+1)):=by
     have:=v9 hp 1;simpa[AK,mm]using this
    have mK:aM φ I w q (ys.toList.drop (f.offset+1)):=by
     have:=v9 hq 1;simpa[AK,mm]using this
    have ih:=JV d hr h2 dh mK;have he:=JU (P:=P) hk h1 ru rv d;have e1:=E0 (P:=P) (w:=w) hk ir;have e2:=E0 (P:=P) (w:=w) hk jt;simp only[Op.eqFields,hn,ne_eq,not_false_eq_true,aU,Sem.run_bind,e1,e2,Result.andThen_ok,he,Sem.run_ite,Sem.run_pure,ih];cases b1<;>simp
 | [],_::_,_,_,_,_,hc,_,_,_=>by simp[pM]at hc
 |_::_,[],_,_,_,_,hc,_,_,_=>by simp[pM]at hc
theorem OX(d:Nat){t e:TypeId}(a:Option Addr)(l c:Nat)(h:P.underlying t=some (.slice e)):(Op.equalIn (d+1) t (.slice a l c) (.slice none 0 0)).run P w = .ok a.isNone w:=by
 cases a<;>simp[Op.equalIn,run_underlying h]
theorem OY(d:Nat){t k e:TypeId}(a:Option Nat)(h:P.underlying t=some (.map k e)):(Op.equalIn (d+1) t (.map a) (.map none)).run P w = .ok a.isNone w:=by
 cases a<;>simp[Op.equalIn,run_underlying h]
theorem OZ(d:Nat){t e:TypeId}(a:Option Addr)(h:P.underlying t=some (.pointer e)):(Op.equalIn (d+1) t (.pointer a) (.pointer none)).run P w = .ok a.isNone w:=by
 cases a<;>simp[Op.equalIn,run_underlying h]
theorem O0(d:Nat){t:TypeId}{ps rs:Array TypeId}{vr:Bool}(fn:Fn)(A B:Array Value)(h:P.underlying t=some (.func ps rs vr)):(Op.equalIn (d+1) t (.func fn A B) .nilFunc).run P w = .ok false w:=by
 simp[Op.equalIn,run_underlying h]
theorem O1(d:Nat){t:TypeId}{ps rs:Array TypeId}{vr:Bool}(h:P.underlying t=some (.func ps rs vr)):(Op.equalIn (d+1) t .nilFunc .nilFunc).run P w = .ok true w:=by
 simp[Op.equalIn,run_underlying h]
theorem O2(d:Nat){t u:TypeId}{ms:Array (String×TypeId)}(x:Value)(h:P.underlying t=some (.interface ms)):(Op.equalIn (d+1) t (.iface u x) .nilIface).run P w = .ok false w:=by
 simp[Op.equalIn,run_underlying h]
theorem O3(d:Nat){t:TypeId}{ms:Array (String×TypeId)}(h:P.underlying t=some (.interface ms)):(Op.equalIn (d+1) t .nilIface .nilIface).run P w = .ok true w:=by
 simp[Op.equalIn,run_underlying h]
theorem yA{h:List O}{n:Nat}(ha:nq h n=true):∃es,(af h n).dg=some es:=by
 unfold nq at ha;split at ha<;>simp_all[O.dg]
theorem O4{t:TypeId}{v u:Value}{k:NK}(hn:EP P t v k=true){x:V}{h:List O}{g:Gh}(hr:ah φ h g w x u){r:Bool}(hb:isNil h k x=some r)(xo:Operand):
  (∀op,(op = .eql\/op = .neq)->(eqGuard op t xo (.const v) u v).run P w = .ok () w)/\(binOp .eql t u v).run P w = .ok (.bool r) w/\(binOp .neq t u v).run P w = .ok (.bool (!r)) w:=by
 have guard:∀{u v:Value},u≠.nilIface->(∀A,u≠.agg A)->∀op,(op = .eql\/op = .neq)->(eqGuard op t xo (.const v) u v).run P w = .ok () w:=λh1 h2 op _=>JQ h1 h2
 unfold EP at hn;split at hn
 .rename_i e hu
  have key:∀(a:Option Addr)(l c:Nat)(r:Bool),a.isNone=r->(∀op,(op = .eql\/op = .neq)->(eqGuard op t xo (.const (.slice none 0 0)) (.slice a l c) (.slice none 0 0)).run P w = .ok () w) /\
    (binOp .eql t (.slice a l c) (.slice none 0 0)).run P w = .ok (.bool r) w/\(binOp .neq t (.slice a l c) (.slice none 0 0)).run P w = .ok (.bool (!r)) w:=by
   intro a l c r hr
   have:(Op.equal t (.slice a l c) (.slice none 0 0)).run P w = .ok r w:=hr▸OX 9999 a l c hu
   refine⟨guard (by simp) (by simp),?_,?_⟩<;>simp only[binOp]<;>simp[this]
  cases x with
  |d y =>
   cases y<;>simp[isNil]at hb;rename_i es nl xs;subst hb;simp only[ah,aC]at hr;obtain⟨a,cap,rfl,hl,h1,h2⟩:=hr;cases nl
   .obtain⟨ad,rfl,_⟩:=h2 rfl
    exact key _ _ _ _ rfl
   .obtain⟨rfl,_⟩:=h1 rfl
    exact key _ _ _ _ rfl
  |aJ n off len =>
   simp[isNil]at hb;obtain⟨ha,rfl⟩:=hb;obtain⟨es,he⟩:=yA ha;simp only[ah]at hr;obtain⟨cap,rfl,_⟩:=hr.2.2 es he;exact key _ _ _ _ rfl
  |dS es =>
   simp[isNil]at hb;subst hb;simp only[ah]at hr;obtain⟨ad,rfl⟩:=hr;exact key _ _ _ _ rfl
  |_=>simp[isNil]at hb
 .rename_i kt et hu
  have key:∀(a:Option Nat)(r:Bool),a.isNone=r->(∀op,(op = .eql\/op = .neq)->(eqGuard op t xo (.const (.map none)) (.map a) (.map none)).run P w = .ok () w) /\
    (binOp .eql t (.map a) (.map none)).run P w = .ok (.bool r) w/\(binOp .neq t (.map a) (.map none)).run P w = .ok (.bool (!r)) w:=by
   intro a r hr
   have:(Op.equal t (.map a) (.map none)).run P w = .ok r w:=hr▸OY 9999 a hu
   refine⟨guard (by simp) (by simp),?_,?_⟩<;>simp only[binOp]<;>simp[this]
  cases x with
  |d y =>
   cases y<;>simp[isNil]at hb;subst hb;simp only[ah,aC]at hr;subst hr;exact key _ _ rfl
  |mp n =>
   simp only[isNil]at hb;split at hb<;>simp at hb;rename_i kv _ _ hk;subst hb;simp only[ah]at hr;rw[hr.2.2 (by rw[hk];rfl)]
   exact key _ _ rfl
  |_=>simp[isNil]at hb
 .rename_i ps rs vr hu
  have key:∀(u:Value)(r:Bool),(u = .nilFunc/\r=true\/(∃fn A B,u = .func fn A B)/\r=false)->(∀op,(op = .eql\/op = .neq)->(eqGuard op t xo (.const .nilFunc) u .nilFunc).run P w = .ok () w) /\
    (binOp .eql t u .nilFunc).run P w = .ok (.bool r) w/\(binOp .neq t u .nilFunc).run P w = .ok (.bool (!r)) w:=by
   rintro u r (⟨rfl,rfl⟩ |⟨⟨fn,A,B,rfl⟩,rfl⟩)
   .have:(Op.equal t .nilFunc .nilFunc).run P w = .ok true w:=O1 9999 hu
    refine⟨guard (by simp) (by simp),?_,?_⟩<;>simp only[binOp]<;>simp[this]
   .have:(Op.equal t (.func fn A B) .nilFunc).run P w = .ok false w:=O0 9999 fn A B hu
    refine⟨guard (by simp) (by simp),?_,?_⟩<;>simp only[binOp]<;>simp[this]
  cases x with
  |d y =>
   cases y<;>simp[isNil]at hb
   .subst hb
    simp only[ah,aC]at hr;obtain⟨A,B,rfl,_⟩:=hr;exact key _ _ (.inr ⟨⟨_,_,_,rfl⟩,rfl⟩)
   .subst hb
    simp only[ah,aC]at hr;subst hr;exact key _ _ (.inl ⟨rfl,rfl⟩)
  |fn f A B =>
   simp[isNil]at hb;subst hb;simp only[ah]at hr;obtain⟨A,B,rfl,_⟩:=hr;exact key _ _ (.inr ⟨⟨_,_,_,rfl⟩,rfl⟩)
  |_=>simp[isNil]at hb
 .rename_i e hu
  have key:∀(a:Option Addr)(r:Bool),a.isNone=r->(∀op,(op = .eql\/op = .neq)->(eqGuard op t xo (.const (.pointer none)) (.pointer a) (.pointer none)).run P w = .ok () w) /\
    (binOp .eql t (.pointer a) (.pointer none)).run P w = .ok (.bool r) w/\(binOp .neq t (.pointer a) (.pointer none)).run P w = .ok (.bool (!r)) w:=by
   intro a r hr
   have:(Op.equal t (.pointer a) (.pointer none)).run P w = .ok r w:=hr▸OZ 9999 a hu
   refine⟨guard (by simp) (by simp),?_,?_⟩<;>simp only[binOp]<;>simp[this]
  cases x with
  |d y =>
   cases y<;>simp[isNil]at hb
   .subst hb
    simp only[ah,aC]at hr;subst hr;exact key _ _ rfl
   .subst hb
    simp only[ah,aC]at hr;obtain⟨b,off,rfl,_⟩:=hr;exact key _ _ rfl
  |loc n r' c =>
   simp[isNil]at hb;obtain⟨ha,rfl⟩:=hb;obtain⟨es,he⟩:=yA ha;simp only[ah]at hr;rw[hr.2.2 es he];exact key _ _ rfl
  |rf cs =>
   simp[isNil]at hb;subst hb;simp only[ah]at hr;obtain⟨b,off,us,rfl,_⟩:=hr;exact key _ _ rfl
  |_=>simp[isNil]at hb
 .rename_i ms hu
  cases x with
  |d y =>
   cases y<;>simp[isNil]at hb
   .subst hb
    simp only[ah,aC]at hr;obtain⟨z,rfl,_⟩:=hr
    have:∀tt zz,(Op.equal t (.iface tt zz) .nilIface).run P w = .ok false w:=λtt zz=>O2 9999 zz hu
    refine⟨guard (by simp) (by simp),?_,?_⟩<;>simp only[binOp]<;>simp[this]
   .subst hb
    simp only[ah,aC]at hr;subst hr
    have:(Op.equal t .nilIface .nilIface).run P w = .ok true w:=O3 9999 hu
    refine⟨λop hop=>?_,?_,?_⟩
    .rcases hop with rfl |rfl<;>simp[eqGuard]
    .simp only[binOp];simp[this]
    .simp only[binOp];simp[this]
  |_=>simp[isNil]at hb
 .simp at hn
theorem O5(hs:aI φ nt m dB s g a w){rec:Rec}{d:Nat}{neg:Bool}{x:A}{k:NK}(hc:aR P φ nt o (.jZ d neg x k)=true)(hok:(aj rec (.jZ d neg x k) s).ok=true)
  (hK:bY φ nt m dB s g w (aj rec (.jZ d neg x k) s) o a K):o.wp P a w K Q:=by
 simp only[aR,aA]at hc;obtain⟨hd,h⟩:=hc;split at h
 .rename_i op' t x' v' ty ho
  simp only[aA,bN]at h;obtain⟨⟨hop,hx⟩,ht⟩:=h;have rx:=b7 hs hx;refine j7 hs hd hok (λv hv=>?_) hK
  simp only[cX]at hv;obtain⟨r,hr,rfl⟩:=hv;obtain⟨h1,h2,h3⟩:=O4 (P:=P) ht rx hr x';refine⟨.bool (r != neg),?_,by simp[ah,aC]⟩
  have JW:a.eval (.const v')=v':=rfl;cases neg
  .simp only[eD,cB]at hop
   subst hop;simp[execOp,ho,JW,h1 .eql (.inl rfl),h2]
  .simp only[aU]at hop
   subst hop;simp[execOp,ho,JW,h1 .neq (.inr rfl),h3]
 .simp at h
theorem O6{I:Nat->Nat}{b off:Nat}{cs:List D}(h:iE φ I w b off cs)(n:Nat):iE φ I w b (off+n) (cs.drop n):=
 om λj c hj=>by
  have:=vX h (j:=n+j) (by simpa[jI]using hj)
  rwa [<-Nat.add_assoc]at this
theorem JX(hs:aI φ nt m dB s g a w){rec:Rec}{d off n:Nat}{x:A}(hc:aR P φ nt o (.fa d x off n)=true)(hok:(aj rec (.fa d x off n) s).ok=true)
  (hK:bY φ nt m dB s g w (aj rec (.fa d x off n) s) o a K):o.wp P a w K Q:=by
 simp only[aR,aA]at hc;obtain⟨hd,h⟩:=hc;split at h
 .rename_i t y k ho
  simp only[aA,fu]at h;obtain⟨⟨hx,hn⟩,ht⟩:=h;have rx:=b7 hs hx;refine j7 hs hd hok (λv hv=>?_) hK
  split at ht
  .rename_i fs hfs
   split at ht
   .rename_i f hf
    simp only[aA,bN]at ht;obtain⟨rfl,hsz⟩:=ht;have hsz':=qY (P:=P) (w:=w) hsz;have run:∀{b o':Nat},a.eval y = .pointer (some ⟨b,o',none⟩)->(execOp a.eval o).run P w = .ok (.value (.pointer (some ⟨b,o'+f.offset,none⟩))) w:=by
     intro b o' he;have hne:n≠0:=by omega
     simp[execOp,ho,he,Instr.fieldAt,underlying,hfs,hf,Instr.sureAddr,fieldPlace,hsz',hne,kQ]
    unfold fa at hv;split at hv
    .rename_i cs hb
     rw[hb]at rx;simp only[ah,aC]at rx;obtain⟨b,o',he,hI,hcs⟩:=rx;split at hv
     .rename_i hle
      simp at hv;subst hv;refine⟨_,run he,?_⟩;simp only[ah,aC];exact⟨b,o'+f.offset,rfl,by simp;omega,O6 hcs _⟩
     .simp at hv
    .rename_i cs hb
     rw[hb]at rx;simp only[ah]at rx;obtain⟨b,o',us,he,hI,hcs,eK⟩:=rx;split at hv
     .rename_i hle
      simp at hv;subst hv;refine⟨_,run he,?_⟩;simp only[ah];refine⟨b,o'+f.offset,us.drop f.offset,rfl,by simp;omega,Bi hcs _,λj u hj=>?_⟩
      rw[kB];exact eK _ u (by simpa[jI]using hj)
     .simp at hv
    .rename_i q r c hb
     rw[hb]at rx;simp only[ah]at rx;simp at hv;obtain⟨ha,rfl⟩:=hv;obtain⟨es,gn⟩:=yA ha;refine⟨_,run (rx.2.2 es gn),?_⟩;simp only[ah];refine⟨rx.1,rfl,λes' he'=>?_⟩
     rw[gn]at he';simp at he';subst he';simp[kB]
    .simp at hv
   .simp at ht
  .simp at ht
 .simp at h
end
end Go.VS
namespace Go.VS
section
variable {P:Program}{φ:bX}
variable {nt m dB:Nat}{s:St}{g:Gh}{a:Act}{w:World}{K:Act->World->Prop}{Q:Exit->Act->World->Prop}{o:Oper}
theorem JY{t e:TypeId}{es:Nat}(ht:P.underlying t=some (.slice e))(gn:gN P e es=true){b off len cap:Nat}{k:IntKind}{j:Int}(h0:0<=j)(hj:j<len):
  (Instr.indexAt t (.slice (some ⟨b,off,none⟩) len cap) (.int k j)).run P w = .ok (.pointer (some ⟨b,off+j.toNat*es,none⟩)) w:=by
 have h1:=qY (P:=P) (w:=w) gn;simp[Instr.indexAt,asIntOf,underlying,ht,h0,hj,h1,kQ]
theorem O7{j:Int}{n es:Nat}(h:j.toNat<n):(j.toNat+1)*es<=es*n:=by
 rw[eI es n];exact iq es h
theorem O8(hs:aI φ nt m dB s g a w){rec:Rec}{d es:Nat}{x i:A}(hc:aR P φ nt o (.fD d x i es)=true)(hok:(aj rec (.fD d x i es) s).ok=true)
  (hK:bY φ nt m dB s g w (aj rec (.fD d x i es) s) o a K):o.wp P a w K Q:=by
 simp only[aR,aA]at hc;obtain⟨hd,h⟩:=hc;split at h
 .rename_i t y k ho
  simp only[aA]at h;obtain⟨⟨hx,hi⟩,ht⟩:=h;have rx:=b7 hs hx;have ri:=b7 hs hi;refine j7 hs hd hok (λv hv=>?_) hK
  split at ht
  .rename_i e hu
   simp only[aA,fu]at ht;obtain⟨hsz,hpos⟩:=ht;unfold fD at hv;split at hv
   .rename_i es' nl xs kk j hp hq
    rw[hp]at rx;rw[hq]at ri;have ei:=lU (by simpa only[ah]using ri)
    simp at hv;obtain⟨⟨h0,rfl⟩,row,hrow,rfl⟩:=hv;simp only[ah,aC]at rx;obtain⟨ao,cap,ex,hl,hnt,hnf⟩:=rx;have hlt:j.toNat<xs.length:=by
     rcases eH j.toNat xs.length with h1 |h1
     .exact h1
     .simp[dL h1]at hrow
    have hne:xs≠[]:=by intro hx;simp[hx]at hlt
    cases nl with
    |true =>
     obtain⟨_,hc0⟩:=hnt rfl;omega
    |false =>
     obtain⟨ad,rfl,hx⟩:=hnf rfl;obtain⟨hsp,hI,hr⟩:=hx hne;obtain⟨b,off,sp⟩:=ad;simp at hsp;subst hsp;simp only at hI hr;obtain⟨hrl,hcs⟩:=iV hr hrow;refine⟨_,by simp only[execOp,ho,ex,ei];simp[JY (P:=P) (w:=w) hu hsz h0 (show j<(xs.length:Int)by omega)];rfl,?_⟩
     simp only[ah,aC];have:=O7 (es:=es') hlt;rw[kC]at this;exact⟨b,off+j.toNat*es',rfl,by omega,hcs⟩
   .rename_i n off len kk j hp hq
    rw[hp]at rx;rw[hq]at ri;have ei:=lU (by simpa only[ah]using ri)
    simp only[ah]at rx;have key:∀e',(af s.heap n).dg=some e'->(0<=j/\j<len/\e'=es)->v = .loc n (off+j.toNat) 0->∃v',(execOp a.eval o).run P w = .ok (.value v') w/\ah φ s.heap g w v v':=by
     rintro e' he ⟨h0,hj,rfl⟩ rfl;obtain⟨cap,ex,_⟩:=rx.2.2 e' he;refine⟨_,by simp only[execOp,ho,ex,ei];simp[JY (P:=P) (w:=w) hu hsz h0 hj];rfl,?_⟩
     simp only[ah];refine⟨rx.1,rfl,λes' he'=>?_⟩
     rw[he]at he';simp at he';subst he';simp[iA,kB]
    split at hv
    .rename_i e' ex' rows hk
     simp at hv;exact key e' (by rw[hk];rfl) hv.1 hv.2.symm
    .rename_i e' rows hk
     simp at hv;exact key e' (by rw[hk];rfl) hv.1 hv.2.symm
    .simp at hv
   .simp at hv
  .simp at ht
 .simp at h
theorem O9{h:List O}{v r:V}(hv:iT h .sl v=some r):(∃es nl xs,v = .d (.sl es nl xs)/\r = .d (.i .i64 xs.length))\/(∃n off len,v = .aJ n off len/\nq h n=true/\r = .d (.i .i64 len))\/(∃es,v = .dS es/\r = .d (.i .i64 (0:Nat))):=by
 cases v with
 |d y=>cases y<;>simp[iT]at hv;exact .inl ⟨_,_,_,rfl,hv.symm⟩
 |aJ n off len=>simp[iT]at hv;exact .inr (.inl ⟨_,_,_,rfl,hv.1,hv.2.symm⟩)
 |dS es=>simp[iT]at hv;exact .inr (.inr ⟨_,rfl,hv.symm⟩)
 |_=>simp[iT]at hv
theorem Pa{h:List O}{v r:V}(hv:iT h .s v=some r):∃x,v = .d (.s x)/\r = .d (.i .i64 x.length):=by
 cases v with
 |d y=>cases y<;>simp[iT]at hv;exact⟨_,rfl,hv.symm⟩
 |_=>simp[iT]at hv
theorem Pb{h:List O}{v r:V}(hv:iT h .mp v=some r):(v = .d .n8/\r = .d (.i .i64 0))\/(∃n kv ck bs,v = .mp n/\af h n = .mp kv ck bs/\r = .d (.i .i64 kv.length)):=by
 cases v with
 |d y=>cases y<;>simp[iT]at hv;exact .inl ⟨rfl,hv.symm⟩
 |mp n =>
  simp only[iT]at hv;split at hv
  .rename_i kv ck bs hk;simp at hv;exact .inr ⟨n,kv,ck,bs,rfl,hk,hv.symm⟩
  .simp at hv
 |_=>simp[iT]at hv
theorem Pc(hs:aI φ nt m dB s g a w){rec:Rec}{d:Nat}{x:A}{k:LK}(hc:aR P φ nt o (.len d x k)=true)(hok:(aj rec (.len d x k) s).ok=true)
  (hK:bY φ nt m dB s g w (aj rec (.len d x k) s) o a K):o.wp P a w K Q:=by
 simp only[aR,aA]at hc;obtain⟨hd,h⟩:=hc;split at h
 .rename_i c ho
  split at h
  .rename_i y t dZ hargs iH
   simp only[aA]at h;obtain⟨hx,ht⟩:=h;have rx:=yz (b7 hs hx);refine j7 hs hd hok (λv hv=>?_) hK
   obtain⟨we,args,tys⟩:=c;simp only at dZ hargs iH;have kR:args=#[y]:=by rw[<-Array.toList_inj];exact hargs
   have mL:tys=#[t]:=by rw[<-Array.toList_inj];exact iH
   subst dZ;subst kR;subst mL;have fin:∀{u:Value}{n:Nat},v = .d (.i .i64 n)->a.eval y=u->(Builtin.len_ #[t] o.type #[u]).run P w = .ok (.int .i64 n) w->∃v',(execOp a.eval o).run P w = .ok (.value v') w/\ah φ s.heap g w v v':=by
    intro u n hv he hr;subst hv;exact⟨.int .i64 n,by simp[execOp,ho,resolve,invoke,builtin,he,hr],by simp[ah,aC]⟩
   split at ht
   .rename_i e hu
    have slice:∀(ad:Option Addr)(n c:Nat),(Builtin.len_ #[t] o.type #[.slice ad n c]).run P w = .ok (.int .i64 n) w:=λad n c=>by
     simp[Builtin.len_,underlying,hu,goInt]
    rcases O9 hv with⟨es,nl,xs,hp,rfl⟩ |⟨n,off,len,hp,ha,rfl⟩ |⟨es,hp,rfl⟩
    .rw[hp]at rx
     simp only[ah,aC]at rx;obtain⟨ad,cap,ex,_⟩:=rx;exact fin rfl ex (slice _ _ _)
    .rw[hp]at rx
     simp only[ah]at rx;obtain⟨es,he⟩:=yA ha;obtain⟨cap,ex,_⟩:=rx.2.2 es he;exact fin rfl ex (slice _ _ _)
    .rw[hp]at rx
     simp only[ah]at rx;obtain⟨ad,ex⟩:=rx;exact fin rfl ex (slice _ _ _)
   .rename_i hu
    obtain⟨z,hp,rfl⟩:=Pa hv;rw[hp]at rx;simp only[ah,aC]at rx;obtain⟨bs,ex,hb⟩:=rx;have hlen:bs.size=z.length:=by rw[<-hb,ByteArray.toList_eq];simp
    exact fin rfl ex (by simp[Builtin.len_,underlying,hu,goInt,hlen])
   .rename_i kt et hu
    rcases Pb hv with⟨hp,rfl⟩ |⟨n,kv,ck,bs,hp,hk,rfl⟩
    .rw[hp]at rx
     simp only[ah,aC]at rx;exact fin (n:=0) rfl rx (by simp[Builtin.len_,underlying,hu,goInt])
    .rw[hp]at rx
     simp only[ah]at rx;have ex:=rx.2.2 (by rw[hk];rfl)
     have bA:=hs.heap.obj n;rw[hk]at bA;obtain⟨ES,hb,hkv,_⟩:=bA;have hl:ES.size=kv.length:=by have:=hkv.1;simp at this;omega
     exact fin rfl ex (by simp[Builtin.len_,underlying,hu,goInt,getObj,Sem.run,hb,hl])
   .simp at ht
  .simp at h
 .simp at h
end
end Go.VS
namespace Go.VS
section
variable {P:Program}{φ:bX}
variable {nt m dB:Nat}{s:St}{g:Gh}{a:Act}{w:World}{K:Act->World->Prop}{Q:Exit->Act->World->Prop}{o:Oper}
theorem wg{α:Type}{es:Nat}:∀{rows:List (List α)},(∀r∈rows,r.length=es)->∀{r:Nat}{row:List α}{j:Nat}{c:α},rows[r]?=some row->row[j]?=some c->rows.flatten[r*es+j]?=some c
 | [],_,r,row,j,c,h,_=>by simp at h
 |x::xs,hl,r,row,j,c,h,hj=>by
  have hx:x.length=es:=hl x (by simp)
  cases r with
  |zero =>
   simp at h;subst h;have hlt:j<x.length:=by
    rcases eH j x.length with h1 |h1
    .exact h1
    .simp[dL h1]at hj
   simp[jH hlt,hj]
  |succ r =>
   have ih:=wg (rows:=xs) (λr hr=>hl r (by simp[hr])) (r:=r) (by simpa using h) hj
   rw[qC,n5 (by rw[hx,kC];omega)]
   rw[<-ih];congr 1;rw[hx,kC];omega
theorem pS{α:Type}{es:Nat}:∀{rows:List (List α)},(∀r∈rows,r.length=es)->rows.flatten.length=es*rows.length
 | [],_=>rfl
 |x::xs,hl=>by
  rw[qC,eC,pS (λr hr=>hl r (by simp[hr])),hl x (by simp),fT,Ee]
  omega
theorem wh:∀{rows:List (List V)}{ds:List (List D)},dM rows=some ds->rows=ds.map λr=>r.map V.d
 | [],ds,h=>by simp[dM]at h;subst h;rfl
 |r::rs,ds,h=>by
  simp only[dM,ij,cX]at h;obtain⟨x,hx,y,hy,rfl⟩:=h;simp[wh hy,vY hx]
theorem E1{h h':List O}{g':Gh}{w':World}{b es:Nat}{T:TypeId}{rows:List (List V)}{C:Array Value}(hb:w'.heap[b]?=some (.cells C T (0,0)))
  (hl:∀r∈rows,r.length=es)(hr:aB φ h g w rows.flatten C.toList)(h1:∀v∈C.toList,v.oneCell'=true)(hle:cT h g w h' g' w')(hI:g'.I b=0):
  cP φ h' g' w' b 0 (cK es rows):=by
 have hcell:∀(i:Nat)(v:Value),C.toList[i]?=some v->w'.cell? ⟨b,i,none⟩=some v:=λi v hi=>by
  simp only[World.cell?,hb];simpa using hi
 have hlen:=jo hr;have hsz:0+es*rows.length<=C.size:=by
  rw[pS hl]at hlen;simp at hlen;omega
 unfold cK;split
 .rename_i ds hds
  have he:=wh hds;refine⟨⟨C,T,hb,by rw[he]at hsz;simpa using hsz⟩,nD λr row hrow=>?_,by simp[hI]⟩
  have ju:rows[r]?=some (row.map V.d):=by rw[he];simp[hrow]
  have hrl:row.length=es:=by
   have:=hl _ (dV ju);simpa using this
  refine⟨hrl,om λj c hj=>?_⟩
  have hf:=wg hl ju (j:=j) (c:=.d c) (by simp[hj])
  obtain⟨v,hv,hd⟩:=uq hr hf;exact⟨v,by rw[iR];exact hcell _ v hv,h1 v (dV hv),nA hle.ext (by simpa only[ah]using hd)⟩
 .refine⟨⟨C,T,hb,hsz⟩,λr row hrow=>?_,by rw[hI];exact bZ _⟩
  refine⟨hl _ (dV hrow),λj c hj=>?_⟩
  have hf:=wg hl hrow hj;obtain⟨v,hv,hd⟩:=uq hr hf;exact⟨v,by rw[iR];exact hcell _ v hv,h1 v (dV hv),fF hle hd⟩
theorem pT(w:World)(ob:Obj):(w.alloc ob).heap[w.heap.size]?=some ob:=heap_alloc_new w ob
theorem wj(hs:aI φ nt m dB s g a w){d:Nat}(hd:cQ nt o d=true){v:V}{v':Value}{w':World}{x:O}{b off:Nat}{ok:Bool}{I':Nat->Nat}
  (hrun:(execOp a.eval o).run P w = .ok (.value v') w')(hg:cU w w')(hI:∀b,b<w.heap.size->I' b=g.I b)(hnew:∀b,w'.heap.size<=b->I' b=0)(hb:w.heap.size<=b)
  (hx:cP φ (s.heap++[x]) (g.add s.heap.length b off I') w' b off x)(hv:ah φ (s.heap++[x]) (g.add s.heap.length b off I') w' v v')
  (hK:bY φ nt m dB s g w ⟨(d,v)::s.env,s.heap++[x],ok⟩ o a K):o.wp P a w K Q:=by
 obtain⟨h1,h2⟩:=pQ hd;refine pN hrun (hK (g.add s.heap.length b off I') v' w' ?_ (EO x hs.heap hg hI hb hs.len));rw[h1];have hs':aI φ nt m dB ⟨s.env,s.heap++[x],ok⟩ (g.add s.heap.length b off I') a w':=⟨λk=>fF (qW x hs.heap hg hI) (hs.env k),JM hs.heap hg hI hnew hb hx,hs.size,hs.defers.frame (EO x hs.heap hg hI hb hs.len),by simp;have:=hs.len;omega⟩
 exact hs'.lT h2 hv
theorem pU{d:Nat}{ov:Option (V×List O)}(h:(s.ct d ov).ok=true):∃v hh,ov=some (v,hh):=by
 cases ov with
 |none=>simp[St.ct,St.fail]at h
 |some p=>exact⟨p.1,p.2,rfl⟩
theorem wm{I:Nat->Nat}{n k b:Nat}(h:b<n):eu I n k b=I b:=by simp[eu,Nat.ne_of_lt h]
theorem Pd{ds:List D}{C:Array Value}{T:TypeId}(hr:bT φ s.heap g w)(hd:aM φ g.I w ds C.toList)(h1:∀v∈C.toList,v.oneCell'=true):
  aC φ (eu g.I w.heap.size C.size) (w.alloc (.cells C T)) (.ref ds) (.pointer (some ⟨w.heap.size,0,none⟩)):=by
 simp only[aC];have hlen:=nC hd;simp at hlen;refine⟨w.heap.size,0,rfl,by simp[eu];omega,Bh (vs:=C.toList) (qQ (uu (cU.alloc w _) (λb hb=>wm hb) hr.new) hd) (λj v hj=>?_) h1⟩
 simp only[World.cell?,pT];simpa using hj
theorem E3{w:World}{ob:Obj}{I:Nat->Nat}(h:∀b,w.heap.size<=b->I b=0)(k:Nat):∀b,(w.alloc ob).heap.size<=b->eu I w.heap.size k b=0:=by
 intro b hb;simp at hb
 have:b≠w.heap.size:=by omega
 simp[eu,this];exact h b (by omega)
theorem Pe(hs:aI φ nt m dB s g a w){rec:Rec}{d n:Nat}{x:A}{fz:Bool}(hc:aR P φ nt o (.box d x n fz)=true)(hok:(aj rec (.box d x n fz) s).ok=true)
  (hK:bY φ nt m dB s g w (aj rec (.box d x n fz) s) o a K):o.wp P a w K Q:=by
 simp only[aR,aA]at hc;obtain⟨hd,h⟩:=hc;split at h
 .rename_i t y ho
  have rx:=b7 hs h;have hrun:(execOp a.eval o).run P w = .ok (.value (.pointer (some ⟨w.heap.size,0,none⟩))) (w.alloc (.cells (a.eval y).cells t)):=by
   simp[execOp,ho,Instr.box,newVar,newRow]
  by_cases hk:(s.get x).cells.length=n/\(s.get x).known=true
  .obtain⟨rc,h1⟩:=vZ rx hk.2
   simp only[aj,aN hk]at hok hK;cases fz with
   |true =>
    simp only[aU]at hok hK;refine JP hs hd (I':=eu g.I w.heap.size (a.eval y).cells.size) hrun (cU.alloc w _) (λb hb=>wm hb) (E3 hs.heap.new _) ?_ hK
    unfold mkRef;split
    .rename_i ds hds
     simp only[ah,Gh.bM];exact Pd hs.heap (qS hds rc) h1
    .simp only[ah]
     have hl:=jo rc;refine⟨_,0,(a.eval y).cells.toList,rfl,by simp[Gh.bM,eu];simp at hl;omega,pL (Bj hs.heap (cU.alloc w _) (λb hb=>wm hb)) rc,λj u hj=>⟨?_,h1 u (dV hj)⟩⟩
     simp only[World.cell?,pT,iR];simpa using hj
   |false =>
    simp only[eD,cB,St.ct]at hok hK;have hg:=cU.alloc w (.cells (a.eval y).cells t);refine wj hs hd (b:=w.heap.size) (off:=0) (I':=g.I) hrun hg (λ_ _=>rfl) (λb hb=>hs.heap.new b (by simp at hb;omega)) (bZ _) ?_ ?_ hK
    .exact E1 (h:=s.heap) (pT w _) (by simp[hk.1]) (by simpa using rc) h1 (qW _ hs.heap hg (λ_ _=>rfl)) (hs.heap.new _ (bZ _))
    .simp only[ah]
     refine⟨by simp,rfl,λes he=>?_⟩
     simp[Gh.add]
  .simp only[aj,aF hk]at hok
   simp[St.fail]at hok
 .simp at h
theorem wq{t:TypeId}{z:List D}(h:uy P φ t z=true):∃i v,P.info? t=some i/\i.zero=some v/\aM φ g.I w z v.cells.toList/\(∀x∈v.cells.toList,x.oneCell'=true)/\i.size=z.length:=by
 unfold uy at h;split at h
 .rename_i i hi
  split at h
  .rename_i v hv
   simp only[aA,bN]at h;have:=EW (w:=w) (I:=g.I) h.1;exact⟨i,v,hi,hv,this.1,this.2,h.2⟩
  .simp at h
 .simp at h
theorem Pf(hs:aI φ nt m dB s g a w){rec:Rec}{d:Nat}{z:List D}(hc:aR P φ nt o (.new d z)=true)
  (hK:bY φ nt m dB s g w (aj rec (.new d z) s) o a K):o.wp P a w K Q:=by
 simp only[aR,aA]at hc;obtain⟨hd,h⟩:=hc;split at h
 .rename_i t ho
  obtain⟨i,v,hi,hv,hz,h1,_⟩:=wq (g:=g) (w:=w) h;have hrun:(execOp a.eval o).run P w = .ok (.value (.pointer (some ⟨w.heap.size,0,none⟩))) (w.alloc (.cells v.cells t)):=by
   simp[execOp,ho,Instr.alloc,zeroValue,typeInfo,hi,hv,newVar,newRow]
  simp only[aj,St.ct]at hK;have hg:=cU.alloc w (.cells v.cells t);refine wj hs hd (b:=w.heap.size) (off:=0) (I':=g.I) hrun hg (λ_ _=>rfl) (λb hb=>hs.heap.new b (by simp at hb;omega)) (bZ _) ?_ ?_ hK
  .have hm:cK z.length [z.map V.d] = .an z.length true [z]:=by simp[cK,dM,OJ]
   rw[<-hm];exact E1 (h:=s.heap) (pT w _) (by simp) (by simpa using sv (h:=s.heap) hz) h1 (qW _ hs.heap hg (λ_ _=>rfl)) (hs.heap.new _ (bZ _))
  .simp only[ah]
   refine⟨by simp,rfl,λes he=>?_⟩
   simp[Gh.add]
 .simp at h
theorem JZ(off:Nat):∀(l:List Value)(k:Nat)(C:Array Value),off+k+l.length<=C.size ->
  ((l.zipIdx k).foldl (λcs p=>cs.setIfInBounds (off+p.2) p.1) C).toList=C.toList.take (off+k)++l++C.toList.drop (off+k+l.length)
 | [],k,C,_=>by simp
 |v::l,k,C,h=>by
  simp only[fT]at h;rw[List.zipIdx_cons,AL,JZ off l (k+1) _ (by simp;omega)]
  have e:=list_seg_step C.toList (off+k) v l (by simp;omega)
  simpa[Array.toList_setIfInBounds,kB]using e
theorem J0(off:Nat)(v:Value)(C:Array Value)(h:off+v.cells.size<=C.size):
  (v.cells.zipIdx.foldl (λcs p=>cs.setIfInBounds (off+p.2) p.1) C).toList=aS C.toList off v.cells.toList:=by
 have:=JZ off v.cells.toList 0 C (by simpa using h)
 rw[<-Array.foldl_toList,Array.toList_zipIdx];simpa[aS]using this
theorem J1{h:List O}{cs:List V}{vs:List Value}(hr:aB φ h g w cs vs){o:Nat}{xs:List V}{us:List Value}(hx:aB φ h g w xs us):aB φ h g w (aS cs o xs) (aS vs o us):=by
 unfold aS;rw[jo hx];exact kP (kP (JJ hr o) hx) (Bi hr _)
theorem J2{vs us:List Value}{o:Nat}(h1:∀v∈vs,v.oneCell'=true)(h2:∀v∈us,v.oneCell'=true):∀v∈aS vs o us,v.oneCell'=true:=by
 intro v hv;simp only[aS,aL]at hv;rcases hv with(hv |hv) |hv
 .exact h1 v (lC hv)
 .exact h2 v hv
 .exact h1 v (lD hv)
theorem E4(hs:aI φ nt m dB s g a w){fs:Array Field}{place:Nat->Option (Nat×Nat)}(qZ:∀i f n,fs[i]?=some f->gN P f.type n=true->place i=some (f.offset,n)):
  ∀{ps:List (Nat×Operand)}{qs:List (Nat×Nat×A)},uz P φ fs ps qs=true->∀{cs cs':List V}{C:Array Value},fill cs (qs.map λp=>(p.1,p.2.1,s.get p.2.2))=some cs' ->
   aB φ s.heap g w cs C.toList->(∀v∈C.toList,v.oneCell'=true) ->
   ∃C',Instr.fill place C (ps.map λp=>(p.1,a.eval p.2))=some C'/\aB φ s.heap g w cs' C'.toList/\∀v∈C'.toList,v.oneCell'=true
 | [],[],_,cs,cs',C,hf,hr,h1=>by
  simp[fill]at hf;subst hf;exact⟨C,rfl,hr,h1⟩
 |(i,x)::ps,(oo,n,y)::qs,hc,cs,cs',C,hf,hr,h1=>by
  simp only[uz,aA]at hc;obtain⟨⟨hfl,hx⟩,mI⟩:=hc;split at hfl
  .rename_i f nJ
   simp only[aA,bN]at hfl;obtain⟨rfl,hsz⟩:=hfl;simp only[cR,fill]at hf;split at hf
   .rename_i bP
    obtain⟨hl,hle,hkn⟩:=bP;obtain⟨rc,r1⟩:=vZ (b7 hs hx) hkn;have hlen:=jo rc;have E5:=jo hr;simp at hlen E5;have hfit:f.offset+(a.eval x).cells.size<=C.size:=by omega
    have iI:=J0 f.offset (a.eval x) C hfit;obtain⟨C',oA,hr',h1'⟩:=E4 hs qZ mI (C:=((a.eval x).cells.zipIdx.foldl (λcs p=>cs.setIfInBounds (f.offset+p.2) p.1) C)) hf
     (by rw[iI];exact J1 hr rc) (by rw[iI];exact J2 h1 r1)
    refine⟨C',?_,hr',h1'⟩;simp only[cR,Instr.fill,qZ i f n nJ hsz];have hno:¬((a.eval x).cells.size≠n||f.offset+(a.eval x).cells.size > C.size)=true:=by simp;omega
    rw[aF hno];exact oA
   .simp at hf
  .simp at hfl
 | [],_::_,hc,_,_,_,_,_,_=>by simp[uz]at hc
 |_::_,[],hc,_,_,_,_,_,_=>by simp[uz]at hc
end
end Go.VS
namespace Go.VS
section
variable {P:Program}{φ:bX}
variable {nt m dB:Nat}{s:St}{g:Gh}{a:Act}{w:World}{K:Act->World->Prop}{Q:Exit->Act->World->Prop}{o:Oper}
theorem J3{α β:Type}(f:α->Sem β)(g:α->β):∀(l:List α),(∀x∈l,(f x).run P w = .ok (g x) w)->(l.mapM f).run P w = .ok (l.map g) w
 | [],_=>by simp
 |x::l,h=>by
  have h1:=h x (by simp)
  have h2:=J3 f g l λy hy=>h y (by simp[hy])
  simp[List.mapM_cons,h1,h2]
theorem Pg{α β:Type}(f:α->Sem β)(g:α->β)(l:Array α)(h:∀x∈l,(f x).run P w = .ok (g x) w):(l.mapM f).run P w = .ok (l.map g) w:=by
 have h1:=J3 (P:=P) (w:=w) f g l.toList (λx hx=>h x (by simpa using hx))
 rw[Array.mapM_eq_mapM_toList];simp only[Sem.run_map,h1,Result.andThen_ok];congr 1;rw[<-Array.toList_map]
theorem Ph(hs:aI φ nt m dB s g a w){rec:Rec}{d:Nat}{z:List D}{ps:List (Nat×Nat×A)}(hc:aR P φ nt o (.build d z ps)=true)(hok:(aj rec (.build d z ps) s).ok=true)
  (hK:bY φ nt m dB s g w (aj rec (.build d z ps) s) o a K):o.wp P a w K Q:=by
 simp only[aR,aA]at hc;obtain⟨hd,h⟩:=hc;split at h
 .rename_i t qs ho
  simp only[aA]at h;obtain⟨hz,h⟩:=h;split at h
  .rename_i fs hfs
   simp only[aA]at h;obtain⟨hps,uA⟩:=h;obtain⟨i,v,hi,hv,oB,h1,_⟩:=wq (g:=g) (w:=w) hz;refine j7 hs hd hok (λr hr=>?_) hK
   simp only[cX]at hr;obtain⟨cs,hcs,rfl⟩:=hr;have qZ:∀(i:Nat)(f:Field)(n:Nat),fs[i]?=some f->gN P f.type n=true->(fs.map λf=>(f.offset,((P.info? f.type).map (·.size)).getD 0))[i]?=some (f.offset,n):=by
    intro i f n hf hn;unfold gN at hn;cases hq:P.info? f.type with
    |none=>simp[hq]at hn
    |some inf=>simp[hq]at hn;simp[hf,hq,hn]
   obtain⟨C',hC,cM,hone⟩:=E4 hs qZ hps hcs (C:=v.cells) (sv oB) h1;have hm:(fs.mapM λf=>(do pure (f.offset,<-sizeOf f.type):Sem (Nat×Nat))).run P w = .ok (fs.map λf=>(f.offset,((P.info? f.type).map (·.size)).getD 0)) w :=
    Pg _ _ fs λf hf=>by
     have:=Array.all_eq_true.1 uA;obtain⟨k,hk,rfl⟩:=Array.mem_iff_getElem.1 hf;have hs:=this k hk;cases hq:P.info? fs[k].type with
     |none=>simp[hq]at hs
     |some inf=>simp[sizeOf,typeInfo,hq]
   refine⟨.agg C',?_,?_⟩
   .simp only[execOp,ho,Instr.build]
    simp only[Sem.run_bind,zeroValue,typeInfo,run_program,Result.andThen_ok,hi,hv,Sem.run_pure,run_underlying hfs,hm,hC,ya]
   .unfold tZ
    split
    .rename_i ds hds
     simp only[ah,aC];exact⟨_,rfl,qS hds cM,hone⟩
    .simp only[ah]
     exact⟨_,rfl,cM,hone⟩
  .rename_i len e hfs
   split at h
   .rename_i ie Bs
    obtain⟨i,v,hi,hv,oB,h1,_⟩:=wq (g:=g) (w:=w) hz;refine j7 hs hd hok (λr hr=>?_) hK
    simp only[cX]at hr;obtain⟨cs,hcs,rfl⟩:=hr;have qZ:∀(i:Nat)(f:Field)(n:Nat),(ET len ie.size e)[i]?=some f->gN P f.type n=true->(λi=>some (i*ie.size,ie.size)) i=some (f.offset,n):=by
     intro i f n hf hn;unfold ET at hf;simp only[tN,jg,cX]at hf;obtain⟨j,hj,rfl⟩:=hf;have hj':j=i:=by
      obtain⟨h1,h2⟩:=dW.1 hj;rw[IW]at h2;exact h2.symm
     subst hj';unfold gN at hn;simp[Bs]at hn;simp[hn]
    obtain⟨C',hC,cM,hone⟩:=E4 hs qZ h hcs (C:=v.cells) (sv oB) h1;refine⟨.agg C',?_,?_⟩
    .simp only[execOp,ho,Instr.build]
     have Pj:(sizeOf e).run P w = .ok ie.size w:=by simp[sizeOf,typeInfo,Bs]
     simp only[Sem.run_bind,zeroValue,typeInfo,run_program,Result.andThen_ok,hi,hv,Sem.run_pure,run_underlying hfs,Pj,hC,ya]
    .unfold tZ
     split
     .rename_i ds hds
      simp only[ah,aC];exact⟨_,rfl,qS hds cM,hone⟩
     .simp only[ah]
      exact⟨_,rfl,cM,hone⟩
   .simp at h
  .simp at h
 .simp at h
theorem E6(n es:Nat)(Z:Array Value)(hz:Z.size=es)(hp:0<es):((Array.range (n*es)).map (λi=>Z[i % Z.size]!)).toList=(List.replicate n Z.toList).flatten:=by
 apply qE;intro i;have hfl:(List.replicate n Z.toList).flatten.length=es*n:=by
  rw[pS (es:=es)]
  .simp
  .intro r hr;simp at hr;rw[hr.2];simpa using hz
 by_cases hi:i<n*es
 .have hdiv:i / es<n:=Nat.div_lt_of_lt_mul (by rwa [eI])
  have hmod:i % es<es:=Nat.mod_lt _ hp;have hlt:i % es<Z.size:=by omega
  have hr:=wg (rows:=List.replicate n Z.toList) (es:=es) (by intro r hr;simp at hr;rw[hr.2];simpa using hz) (r:=i / es) (row:=Z.toList) (j:=i % es) (c:=Z[i % es]) (by simp[hdiv]) (by simp[hlt])
  rw[Nat.div_add_mod' i es]at hr;rw[hr];have hb:Z[i % es]! = Z[i % es]:=getElem!_pos Z (i % es) hlt;simp[hi,hz,hb]
 .rw[dL (by simp;omega),dL (by rw[hfl,eI];omega)]
theorem J4{α:Type}{es:Nat}:∀{rows:List (List α)}{i:Nat}{r:List α},(∀x∈rows,x.length=es)->i<rows.length->r.length=es->(rows.set i r).flatten=aS rows.flatten (i*es) r
 | [],i,r,_,hi,_=>by simp at hi
 |x::xs,0,r,hl,_,hr=>by
  have hx:x.length=es:=hl x (by simp)
  simp only[List.set_cons_zero,qC,aS,Nat.zero_mul,List.take_zero,jW,iR];rw[hr,<-hx,List.drop_left]
 |x::xs,i+1,r,hl,hi,hr=>by
  have hx:x.length=es:=hl x (by simp)
  have ih:=J4 (rows:=xs) (i:=i) (r:=r) (λy hy=>hl y (by simp[hy])) (by simpa using hi) hr
  simp only[List.set_cons_succ,qC,ih,aS];rw[kC];have e1:(x++xs.flatten).take (i*es+es)=x++xs.flatten.take (i*es):=by
   rw[Ef,fU (by omega)];congr 2;omega
  have e2:(x++xs.flatten).drop (i*es+es+r.length)=xs.flatten.drop (i*es+r.length):=by
   rw[List.drop_append,List.drop_of_length_le (by omega),jW];congr 1;omega
  rw[e1,e2];simp[jX]
theorem J5(hs:aI φ nt m dB s g a w){es n:Nat}:
  ∀{ps:List (Nat×Operand)}{qs:List (Nat×A)},v8 φ ps qs=true->∀{rows dN:List (List V)}{C:Array Value},pE rows es (qs.map λp=>(p.1,s.get p.2))=some dN ->
   (∀r∈rows,r.length=es)->rows.length=n->aB φ s.heap g w rows.flatten C.toList->(∀v∈C.toList,v.oneCell'=true) ->
   ∃C',Instr.fill (λi=>some (i*es,es)) C (ps.map λp=>(p.1,a.eval p.2))=some C'/\aB φ s.heap g w dN.flatten C'.toList/\(∀v∈C'.toList,v.oneCell'=true)/\(∀r∈dN,r.length=es)/\dN.length=n
 | [],[],_,rows,dN,C,hf,hl,hn,hr,h1=>by
  simp[pE]at hf;subst hf;exact⟨C,rfl,hr,h1,hl,hn⟩
 |(i,x)::ps,(j,y)::qs,hc,rows,dN,C,hf,hl,hn,hr,h1=>by
  simp only[v8,aA,bN]at hc;obtain⟨⟨rfl,hx⟩,mI⟩:=hc;simp only[cR,pE]at hf;split at hf
  .rename_i bP
   obtain⟨hlen,hi,hkn⟩:=bP;obtain⟨rc,r1⟩:=vZ (b7 hs hx) hkn;have gV:=jo rc;have fM:=jo hr;rw[pS hl]at fM;simp at gV fM;have hfit:i*es+(a.eval x).cells.size<=C.size:=by
    have:(i+1)*es<=es*rows.length:=by rw[eI es];exact iq es hi
    rw[kC]at this;omega
   have iI:=J0 (i*es) (a.eval x) C hfit;obtain⟨C',oA,h2,h3,h4,h5⟩:=J5 hs mI (n:=n) (C:=((a.eval x).cells.zipIdx.foldl (λcs p=>cs.setIfInBounds (i*es+p.2) p.1) C)) hf
    (λr hr'=>by
     rcases IX hr' with h |h
     .exact hl r h
     .rw[h];exact hlen) (by simpa using hn)
    (by rw[iI,J4 hl hi hlen];exact J1 hr rc) (by rw[iI];exact J2 h1 r1)
   refine⟨C',?_,h2,h3,h4,h5⟩;simp only[cR,Instr.fill];have hno:¬((a.eval x).cells.size≠es||i*es+(a.eval x).cells.size > C.size)=true:=by simp;omega
   rw[aF hno];exact oA
  .simp at hf
 | [],_::_,hc,_,_,_,_,_,_,_,_=>by simp[v8]at hc
 |_::_,[],hc,_,_,_,_,_,_,_,_=>by simp[v8]at hc
theorem Pk(hs:aI φ nt m dB s g a w){rec:Rec}{d es n:Nat}{z:List D}{ps:List (Nat×A)}{fz:Bool}(hc:aR P φ nt o (.jh d es n z ps fz)=true)(hok:(aj rec (.jh d es n z ps fz) s).ok=true)
  (hK:bY φ nt m dB s g w (aj rec (.jh d es n z ps fz) s) o a K):o.wp P a w K Q:=by
 simp only[aR,aA]at hc;obtain⟨hd,h⟩:=hc;split at h
 .rename_i t k qs ho
  simp only[aA,fu,bN]at h;obtain⟨⟨⟨rfl,hsmall⟩,hpos⟩,h⟩:=h;split at h
  .rename_i e hu
   simp only[aA,bN]at h;obtain⟨⟨hz,hzl⟩,hps⟩:=h;obtain⟨i,v,hi,hv,oB,h1,hsz⟩:=wq (g:=g) (w:=w) hz;have hzs:v.cells.size=es:=by have:=nC oB;simp at this;omega
   have kT:∃rows,pE (List.replicate k (z.map V.d)) es (ps.map λp=>(p.1,s.get p.2))=some rows:=by
    cases hq:pE (List.replicate k (z.map V.d)) es (ps.map λp=>(p.1,s.get p.2))with
    |some rows=>exact⟨rows,rfl⟩
    |none=>simp only[aj,hq]at hok;cases fz<;>simp[St.cr,St.ct,St.fail]at hok
   obtain⟨rows,kT⟩:=kT;have hstart:aB φ s.heap g w (List.replicate k (z.map V.d)).flatten ((Array.range (k*es)).map (λi=>v.cells[i % v.cells.size]!)).toList:=by
    rw[E6 k es v.cells hzs hpos];clear hsmall hps kT hK hok ho;induction k with
    |zero=>simp[aB]
    |succ k ih=>simp only[IY,qC];exact kP (sv oB) ih
   have hone:∀x∈((Array.range (k*es)).map (λi=>v.cells[i % v.cells.size]!)).toList,x.oneCell'=true:=by
    rw[E6 k es v.cells hzs hpos];intro x hx;simp only[List.mem_flatten,AM]at hx;obtain⟨l,⟨_,rfl⟩,hx⟩:=hx;exact h1 x hx
   obtain⟨C',hC,cM,E7,hrl,wu⟩:=J5 hs (n:=k) hps kT (by intro r hr;simp at hr;rw[hr.2];simpa using hzl) (by simp) hstart hone
   have hrun:(execOp a.eval o).run P w = .ok (.value (.slice (some ⟨w.heap.size,0,none⟩) k k)) (w.alloc (.cells C' e)):=by
    have hsz':i.size=es:=by rw[hsz];exact hzl
    simp only[execOp,ho,Instr.buildSlice];have hle:¬(k*es > 2 ^ 24):=by omega
    simp only[Sem.run_bind,run_underlying hu,Result.andThen_ok,sizeOf,typeInfo,run_program,hi,Sem.run_pure,hsz',Sem.run_ite];rw[aF hle];by_cases j8:k*es=0
    .have hk:k=0:=by
      rcases Nat.mul_eq_zero.1 j8 with h |h
      .exact h
      .omega
     subst hk;simp only[Nat.zero_mul,aU];have e0:((Array.range 0).map (λi=>(#[]:Array Value)[i % (#[]:Array Value).size]!))=((Array.range (0*es)).map (λi=>v.cells[i % v.cells.size]!)):=by simp
     rw[e0,ya,hC];simp[newRow]
    .rw[aF j8]
     simp only[Sem.run_bind,zeroValue,typeInfo,run_program,Result.andThen_ok,hi,hv,Sem.run_pure];rw[ya,hC];simp[newRow]
   have hlen:=jo cM;rw[pS hrl,wu]at hlen;simp at hlen;have hg:=cU.alloc w (.cells C' e);simp only[aj,kT]at hok hK;cases fz with
   |true =>
    simp only[aU]at hok hK;obtain⟨r,hr⟩:=Bp hok;rw[hr]at hK;simp only[eG,cX]at hr;obtain⟨ds,hds,rfl⟩:=hr;have he:=wh hds;have J6:ds.length=k:=by rw[he]at wu;simpa using wu
    refine JP hs hd (I':=eu g.I w.heap.size C'.size) hrun hg (λb hb=>wm hb) (E3 hs.heap.new _) ?_ hK
    simp only[ah,aC,Gh.bM];refine⟨some ⟨w.heap.size,0,none⟩,k,by rw[J6],by omega,by simp,λ_=>⟨_,rfl,λ_=>⟨rfl,by simp[eu];rw[J6];omega,?_⟩⟩⟩
    simp only;refine nD λr row hrow=>?_
    have ju:rows[r]?=some (row.map V.d):=by rw[he];simp[hrow]
    have E8:row.length=es:=by have:=hrl _ (dV ju);simpa using this
    refine⟨E8,om λj c hj=>?_⟩
    have hf:=wg hrl ju (j:=j) (c:=.d c) (by simp[hj])
    obtain⟨u,ir,hd'⟩:=uq cM hf;refine⟨u,?_,E7 u (dV ir),nA (uu hg (λb hb=>wm hb) hs.heap.new) (by simpa only[ah]using hd')⟩
    simp only[World.cell?,pT,iR];simpa using ir
   |false =>
    simp only[eD,cB,fy,St.ct]at hok hK;refine wj hs hd (b:=w.heap.size) (off:=0) (I':=g.I) hrun hg (λ_ _=>rfl) (λb hb=>hs.heap.new b (by simp at hb;omega)) (bZ _) ?_ ?_ hK
    .exact E1 (h:=s.heap) (pT w _) hrl cM E7 (qW _ hs.heap hg (λ_ _=>rfl)) (hs.heap.new _ (bZ _))
    .simp only[ah]
     refine⟨by simp,rfl,λes' he'=>⟨k,by simp[Gh.add],bZ _,?_,C',e,by have:=pT w (.cells C' e);simpa only[Gh.add,aU]using this,?_⟩⟩
     .rw[uw]
      unfold cK;split
      .rename_i ds hds
       have he:=wh hds
       have:ds.length=k:=by rw[he]at wu;simpa using wu
       simp[O.len,this]
      .simp[O.len,wu]
     .have:es'=es:=by
       rw[uw]at he';unfold cK at he';split at he'<;>simp[O.dg]at he'<;>exact he'.symm
      subst this;refine⟨?_,E7⟩;simp[Gh.add];rw[eI];omega
  .simp at h
 .simp at h
end
end Go.VS
namespace Go.VS
section
variable {P:Program}{φ:bX}
variable {nt m dB:Nat}{s:St}{g:Gh}{a:Act}{w:World}{K:Act->World->Prop}{Q:Exit->Act->World->Prop}{o:Oper}
theorem uB{α:Type}{cs new:List α}{o:Nat}(h:o+new.length<=cs.length)(i:Nat):
  (aS cs o new)[i]?=if i<o then cs[i]? else if i<o+new.length then new[i - o]? else cs[i]?:=by
 unfold aS;have ht:(cs.take o).length=o:=by simp;omega
 by_cases h1:i<o
 .rw[aN h1,jX,jH (by omega),tM,aN h1]
 .rw[aF h1,jX,n5 (by omega),ht]
  by_cases h2:i<o+new.length
  .rw[aN h2,jH (by omega)]
  .rw[aF h2,n5 (by omega),jI]
   congr 1;omega
theorem sF{α:Type}{cs new:List α}{o:Nat}(h:o+new.length<=cs.length):(aS cs o new).length=cs.length:=by
 unfold aS;simp;omega
theorem pK.sG{CS:Array Value}(h:pK CS){p:Nat}{us:List Value}(h1:∀u∈us,u.oneCell'=true):pK (aS CS.toList p us).toArray:=λx hx=>by
 simp only[aS,aL]at hx;rcases hx with(hx |hx) |hx
 .exact h x (lC hx)
 .exact h1 x hx
 .exact h x (lD hx)
theorem Pm{α β:Type}(f:α->β)(cs new:List α)(o:Nat):(aS cs o new).map f=aS (cs.map f) o (new.map f):=by
 simp[aS]
theorem Bt{b:Nat}{cur cs:Array Value}{T:TypeId}(hg:w.heap[b]?=some (.cells cur T (0,0))):fG w (w.setRow b cs) b/\(w.setRow b cs).heap[b]?=some (.cells cs T (0,0)):=by
 refine⟨⟨size_setRow w b cs,λk hk=>?_,rfl,rfl,rfl⟩,setRow_heap w b cur cs T (0,0) hg⟩
 simp only[World.setRow,Array.getElem?_modify];rw[aF (by omega)]
theorem J7{t:TypeId}{n:Nat}(hsz:gN P t n=true){b off:Nat}{cur:Array Value}{T:TypeId}(hg:w.heap[b]?=some (.cells cur T (0,0))){v:Value}(hv:v.cells.size=n)
  (hfit:off+n<=cur.size)(h1:∀x∈v.cells.toList,x.oneCell'=true):
  ∃w',(Instr.storeAt t (.pointer (some ⟨b,off,none⟩)) v).run P w = .ok () w'/\fG w w' b/\w'.heap[b]?=some (.cells (aS cur.toList off v.cells.toList).toArray T (0,0)):=by
 have h2:=qY (P:=P) (w:=w) hsz;have h3:=run_storeCells_at P b off T v.cells.toList 0 cur w hg (by simp;omega) h1
 obtain⟨h4,h5⟩:=Bt (cs:=(aS cur.toList off v.cells.toList).toArray) hg;refine⟨w.setRow b (aS cur.toList off v.cells.toList).toArray,?_,h4,h5⟩;simp only[x8]at h3;simp only[Instr.storeAt,Instr.sureAddr,Sem.run_bind,Sem.run_pure,Result.andThen_ok,storeVar,h2,hv];simp[h3,aS]
theorem Pn{h:List O}{b es off:Nat}{rows:List (List D)}(hr:fE φ g.I w b es off rows):oq φ h g w b es off (rows.map λr=>r.map V.d):=by
 intro r row hrow;simp only[jg,cX]at hrow;obtain⟨x,hx,rfl⟩:=hrow;obtain⟨h1,h2⟩:=iV hr hx;refine⟨by simpa using h1,λj c hj=>?_⟩
 simp only[jg,cX]at hj;obtain⟨y,hy,rfl⟩:=hj;obtain⟨v,h3,h4,h5⟩:=vX h2 hy;exact⟨v,h3,h4,by simpa only[ah]using h5⟩
theorem Po{h:List O}{b es off:Nat}{rows:List (List D)}(hr:oq φ h g w b es off (rows.map λr=>r.map V.d)):fE φ g.I w b es off rows :=
 nD λr row hrow=>by
  obtain⟨h1,h2⟩:=hr r (row.map V.d) (by simp[hrow])
  refine⟨by simpa using h1,om λj c hj=>?_⟩
  obtain⟨v,h3,h4,h5⟩:=h2 j (.d c) (by simp[hj])
  exact⟨v,h3,h4,by simpa only[ah]using h5⟩
theorem Pp{h h':List O}{g':Gh}{w':World}{b es off:Nat}{rows:List (List V)}(hle:cT h g w h' g' w')(hr:oq φ h g w b es off rows)
  {cur:Array Value}{T:TypeId}(hg:w.heap[b]?=some (.cells cur T (0,0))){r c:Nat}{row xs:List V}{us:List Value}(hrow:rows[r]?=some row)(hc:c+xs.length<=row.length)
  (hx:aB φ h g w xs us)(h1:∀u∈us,u.oneCell'=true)(hfit:off+es*rows.length<=cur.size)
  (hw':w'.heap[b]?=some (.cells (aS cur.toList (off+r*es+c) us).toArray T (0,0))):oq φ h' g' w' b es off (rows.set r (aS row c xs)):=by
 have E9:=jo hx;have hrl:row.length=es:=(hr r row hrow).1;have wx:r<rows.length:=by
  rcases eH r rows.length with h2 |h2
  .exact h2
  .simp[dL h2]at hrow
 have hin:(r+1)*es<=es*rows.length:=by rw[eI es];exact iq es wx
 rw[kC]at hin;have iI:off+r*es+c+us.length<=cur.toList.length:=by simp;omega
 have cell:∀i,w'.cell? ⟨b,i,none⟩=if i<off+r*es+c then w.cell? ⟨b,i,none⟩else if i<off+r*es+c+us.length then us[i - (off+r*es+c)]? else w.cell? ⟨b,i,none⟩:=by
  intro i;have:=uB iI i;simp only[World.cell?,hw',hg,tN];simpa using this
 have old:∀i x,¬(off+r*es+c<=i/\i<off+r*es+c+us.length)->w.cell? ⟨b,i,none⟩=some x->w'.cell? ⟨b,i,none⟩=some x:=by
  intro i x hi hx;rw[cell];split
  .exact hx
  .rw[aF (by omega)];exact hx
 intro r' row' ju;by_cases bJ:r'=r
 .subst bJ
  rw[IZ wx]at ju;simp at ju;subst ju;refine⟨by rw[sF hc];exact hrl,λj y hj=>?_⟩
  rw[uB hc]at hj;have keep:row[j]?=some y->¬(c<=j/\j<c+xs.length)->∃x,w'.cell? ⟨b,off+r'*es+j,none⟩=some x/\x.oneCell'=true/\ah φ h' g' w' y x:=by
   intro hj hn;obtain⟨x,h2,h3,h4⟩:=(hr r' row hrow).2 j y hj;exact⟨x,old _ _ (by omega) h2,h3,fF hle h4⟩
  split at hj
  .exact keep hj (by omega)
  .split at hj
   .rename_i h2 h3
    obtain⟨u,hu,Pq⟩:=uq hx hj;refine⟨u,?_,h1 u (dV hu),fF hle Pq⟩;rw[cell,aF (by omega),aN (by omega)]
    rw[<-hu];congr 1;omega
   .exact keep hj (by omega)
 .rw[I3 (tL bJ)]at ju
  refine⟨(hr r' row' ju).1,λj y hj=>?_⟩
  obtain⟨x,h2,h3,h4⟩:=(hr r' row' ju).2 j y hj;have hjl:j<es:=by
   have:=(hr r' row' ju).1;rcases eH j row'.length with h5 |h5
   .omega
   .simp[dL h5]at hj
  refine⟨x,old _ _ ?_ h2,h3,fF hle h4⟩;intro WX;rcases Nat.lt_or_gt_of_ne bJ with h5 |h5
  .have:(r'+1)*es<=r*es:=iq es h5
   rw[kC]at this;omega
  .have:(r+1)*es<=r'*es:=iq es h5
   rw[kC]at this;omega
end
end Go.VS
namespace Go.VS
section
variable {P:Program}{φ:bX}
variable {nt m dB:Nat}{s:St}{g:Gh}{a:Act}{w:World}{K:Act->World->Prop}{Q:Exit->Act->World->Prop}{o:Oper}
theorem yB{b:Nat}{w':World}(ht:fG w w' b){cur:Array Value}{T:TypeId}(hg:w.heap[b]?=some (.cells cur T (0,0))){p:Nat}{us:List Value}(hp:p+us.length<=cur.size)
  (hw':w'.heap[b]?=some (.cells (aS cur.toList p us).toArray T (0,0))){I I':Nat->Nat}(hI:I b<=p)(pV:∀k,I k<=I' k):Ext I w I' w' :=
 ⟨pV,λk i hi=>by
  by_cases hk:k=b
  .subst hk
   have:=uB (cs:=cur.toList) (new:=us) (o:=p) (by simpa using hp) i
   simp only[World.cell?,hw',hg,tN];rw[aN (by omega)]at this
   simpa using this
  .exact v5 (ht.same k hk) i⟩
theorem aI.oy(hs:aI φ nt m dB s g a w){n:Nat}{x:O}{w':World}{I':Nat->Nat}{ok:Bool}(hl:(af s.heap n).live=true)(ht:fG w w' (g.β n))(hle:cT s.heap g w (s.heap.set n x) (g.bM I') w')(hr:bT φ (s.heap.set n x) (g.bM I') w'):
  aI φ nt m dB ⟨s.env,s.heap.set n x,ok⟩ (g.bM I') a w' :=
 ⟨λk=>fF hle (hs.env k),hr,hs.size,hs.defers.oy hl ht,by simpa using hs.len⟩
theorem Fa(hs:aI φ nt m dB s g a w){n r c es k:Nat}{rows:List (List V)}{row:List V}{xs:List V}{us:List Value}{t:TypeId}{v:Value}{x:O}{ok:Bool}
  (hl:(af s.heap n).live=true)(gn:(af s.heap n).dg=some es)(hlen:(af s.heap n).len=rows.length)
  (bA:(∃CS T,w.heap[g.β n]?=some (.cells CS T (0,0))/\g.o n+es*rows.length<=CS.size)/\oq φ s.heap g w (g.β n) es (g.o n) rows/\g.I (g.β n)<=g.o n)
  (hrow:rows[r]?=some row)(hc:c+k<=row.length)(Bu:xs.length=k)(hsz:gN P t k=true)(hv:v.cells.size=k)(wy:v.cells.toList=us)
  (hx:aB φ s.heap g w xs us)(h1:∀u∈us,u.oneCell'=true)
  (Bv:x.dg=some es/\x.len=rows.length/\x.fL=false)
  (Pt:∀{h':List O}{g':Gh}{w':World},(∃CS T,w'.heap[g.β n]?=some (.cells CS T (0,0))/\g.o n+es*rows.length<=CS.size)->oq φ h' g' w' (g.β n) es (g.o n) (rows.set r (aS row c xs))->g'.I (g.β n)<=g.o n->cP φ h' g' w' (g.β n) (g.o n) x):
  ∃w',(Instr.storeAt t (.pointer (some ⟨g.β n,g.o n+r*es+c,none⟩)) v).run P w = .ok () w'/\aI φ nt m dB ⟨s.env,s.heap.set n x,ok⟩ g a w'/\Frame m s.heap g w (s.heap.set n x) g w':=by
 obtain⟨⟨cur,T,hg,hfit⟩,bJ,hI⟩:=bA;have E9:=jo hx;have hrl:row.length=es:=(bJ r row hrow).1;have wx:r<rows.length:=by
  rcases eH r rows.length with h2 |h2
  .exact h2
  .simp[dL h2]at hrow
 have hin:(r+1)*es<=es*rows.length:=by rw[eI es];exact iq es wx
 rw[kC]at hin;obtain⟨w',hrun,ht,hw'⟩:=J7 (P:=P) (w:=w) hsz (off:=g.o n+r*es+c) hg hv (by omega) (by rw[wy];exact h1)
 rw[wy]at hw';have hE:Ext g.I w g.I w':=yB ht hg (by omega) hw' (by omega) (λ_=>bZ _)
 have hsize:(aS cur.toList (g.o n+r*es+c) us).toArray.size=cur.size:=by
  have:=sF (cs:=cur.toList) (new:=us) (o:=g.o n+r*es+c) (by simp;omega)
  simpa using this
 have hle:cT s.heap g w (s.heap.set n x) (g.bM g.I) w':=nF hs.heap hl ht hE
  (λes' he'=>by
   rw[Bv.1]at he';simp at he';subst he';refine⟨gn,by rw[Bv.2.1,hlen],λCS T' hcs=>?_⟩
   rw[hg]at hcs;simp at hcs;obtain⟨rfl,rfl⟩:=hcs;exact⟨_,_,hw',by rw[hsize];exact bZ _,λhone=>pK.sG hone h1⟩)
  (λhkv=>by rw[Bv.2.2]at hkv;cases hkv) (λhh=>by have he:=Bv.1;cases x<;>simp[O.mJ,O.dg]at hh he)
 have hnew:=Pp hle bJ hg hrow (xs:=xs) (by omega) hx h1 hfit hw'
 have hH:=nG (x:=x) hs.heap hl ht hle (λ_ _=>rfl) (Pt ⟨_,T,hw',by rw[hsize];exact hfit⟩ hnew hI)
 exact⟨w',hrun,hs.oy hl ht hle hH,nH x hl ht hE (λ_ _=>rfl) hle⟩
theorem Pu{rows:List (List D)}{r:Nat}{y:List D}:(rows.set r y).map (λx=>x.map V.d)=(rows.map λx=>x.map V.d).set r (y.map V.d):=by
 rw[List.map_set]
theorem Bw{ov:Option (List O)}(h:(s.jl ov).ok=true):∃hh,ov=some hh:=by
 cases ov with
 |none=>simp[St.jl,St.fail]at h
 |some hh=>exact⟨hh,rfl⟩
theorem J8{t:TypeId}{x y:Operand}{w':World}(ho:o.op = .store t x y)(j9:o.dst=none)(hrun:(Instr.storeAt t (a.eval x) (a.eval y)).run P w = .ok () w')(hk:K a w'):o.wp P a w K Q:=by
 refine EV (w':=w') (by simp[execOp,ho,hrun]) ?_
 rw[j9];exact hk
theorem Pw(hs:aI φ nt m dB s g a w){rec:Rec}{n:Nat}{x y:A}(hc:aR P φ nt o (.st x y n false)=true)(hok:(aj rec (.st x y n false) s).ok=true)
  (hK:bY φ nt m dB s g w (aj rec (.st x y n false) s) o a K):o.wp P a w K Q:=by
 simp only[aR]at hc;split at hc
 .rename_i t x' y' ho
  simp only[aA,fu,bN]at hc;obtain⟨⟨⟨⟨⟨j9,hx⟩,hy⟩,hsz⟩,hpos⟩,_⟩:=hc;have rx:=b7 hs hx;have ry:=b7 hs hy;simp only[aj,eD,cB]at hok hK;obtain⟨hh,hst⟩:=Bw hok;rw[hst]at hK;simp only[St.jl]at hK;have fin:∀{w':World},(Instr.storeAt t (a.eval x') (a.eval y')).run P w = .ok () w'->aI φ nt m dB ⟨s.env,hh,s.ok⟩ g a w'->Frame m s.heap g w hh g w'->o.wp P a w K Q:=by
   intro w' h1 h2 h3;refine J8 ho j9 h1 ?_;have:=hK g undef w';rw[j9]at this;exact this h2 h3
  unfold pg at hst;split at hst
  .rename_i q r c hp
   rw[hp]at rx;simp only[ah]at rx;have bA:=hs.heap.obj q;split at hst
   .rename_i es rows hq
    rw[hq]at rx bA;have ex:=rx.2.2 es rfl;split at hst
    .rename_i row hrow
     split at hst
     .rename_i bP
      obtain⟨lV,hvl,hkn⟩:=bP;obtain⟨rc,h1⟩:=vZ ry hkn;have hvs:(a.eval y').cells.size=n:=by have:=jo rc;simp at this;omega
      have Bx:(∃CS T,w.heap[g.β q]?=some (.cells CS T (0,0))/\g.o q+es*(rows.map λr=>r.map V.d).length<=CS.size)/\oq φ s.heap g w (g.β q) es (g.o q) (rows.map λr=>r.map V.d)/\g.I (g.β q)<=g.o q :=
       ⟨by simpa using bA.1,Pn bA.2.1,by simpa using bA.2.2⟩
      have ju:(rows.map λr=>r.map V.d)[r]?=some (row.map V.d):=by simp[hrow]
      split at hst
      .rename_i ds hds
       simp at hst;subst hst;obtain⟨w',h2,h3,h4⟩:=Fa (P:=P) hs (x:=.an es true (rows.set r (aS row c ds))) (ok:=s.ok) (by rw[hq];rfl) (by rw[hq];rfl) (by rw[hq];simp[O.len]) Bx ju (by simpa using lV) hvl hsz hvs rfl rc h1
        ⟨rfl,by simp[O.len],rfl⟩ (λhb hr hI=>⟨by simpa using hb,Po (by rw[Pu,Pm,<-vY hds];exact hr),by simpa using hI⟩)
       exact fin (by rw[ex];exact h2) h3 h4
      .simp at hst
       subst hst;obtain⟨w',h2,h3,h4⟩:=Fa (P:=P) hs (x:=.cS es ((rows.map λx=>x.map V.d).set r (aS (row.map V.d) c (s.get y).cells))) (ok:=s.ok) (by rw[hq];rfl) (by rw[hq];rfl) (by rw[hq];simp[O.len]) Bx ju (by simpa using lV) hvl hsz hvs rfl rc h1
        ⟨rfl,by simp[O.len],rfl⟩ (λhb hr hI=>⟨by simpa using hb,hr,hI⟩)
       exact fin (by rw[ex];exact h2) h3 h4
     .simp at hst
    .simp at hst
   .rename_i es rows hq
    rw[hq]at rx bA;have ex:=rx.2.2 es rfl;split at hst
    .rename_i row hrow
     split at hst
     .rename_i bP
      obtain⟨lV,hvl,hkn⟩:=bP;obtain⟨rc,h1⟩:=vZ ry hkn;have hvs:(a.eval y').cells.size=n:=by have:=jo rc;simp at this;omega
      simp at hst;subst hst;obtain⟨w',h2,h3,h4⟩:=Fa (P:=P) hs (x:=.cS es (rows.set r (aS row c (s.get y).cells))) (ok:=s.ok) (by rw[hq];rfl) (by rw[hq];rfl) (by rw[hq];rfl) bA hrow lV hvl hsz hvs rfl rc h1
       ⟨rfl,by simp[O.len],rfl⟩ (λhb hr hI=>⟨by simpa using hb,hr,hI⟩)
      exact fin (by rw[ex];exact h2) h3 h4
     .simp at hst
    .simp at hst
   .simp at hst
  .simp at hst
 .simp at hc
theorem Px(hs:aI φ nt m dB s g a w){rec:Rec}{n:Nat}{x y:A}(hc:aR P φ nt o (.st x y n true)=true)(hok:(aj rec (.st x y n true) s).ok=true)
  (hK:bY φ nt m dB s g w (aj rec (.st x y n true) s) o a K):o.wp P a w K Q:=by
 simp only[aR]at hc;split at hc
 .rename_i t x' y' ho
  simp only[aA,fu,bN]at hc;obtain⟨⟨⟨⟨⟨j9,hx⟩,hy⟩,hsz⟩,hpos⟩,yC⟩:=hc;have rx:=b7 hs hx;have ry:=b7 hs hy;simp only[aj,aU]at hok hK;cases x with
  |k q=>simp[St.fail]at hok
  |t d =>
   simp only at yC;have hd:d<nt:=by simpa using yC
   cases hp:s.get (.t d)with
   |loc q r c =>
    rw[hp]at hok hK rx;cases r with
    |succ r=>simp[St.fail]at hok
    |zero =>
     cases c with
     |succ c=>simp[St.fail]at hok
     |zero =>
      simp only at hok hK;have bA:=hs.heap.obj q;cases hq:af s.heap q with
      |an es ex rows =>
       rw[hq]at hok hK bA;simp only[ah,hq]at rx;have J9:=rx.2.2 es rfl;cases ex with
       |false=>simp[St.fail]at hok
       |true =>
        match rows,bA,hok,hK,hq with
        | [],_,hok,_,_=>simp[St.fail]at hok
        |_::_::_,_,hok,_,_=>simp[St.fail]at hok
        | [z],bA,hok,hK,hq =>
         simp only at hok hK;split at hK
         .rename_i bP
          rw[aN bP]at hok;obtain⟨hzl,hvl,hkn⟩:=bP;obtain⟨v,hh,hv⟩:=pU hok;rw[hv]at hK;simp only[bF,gS]at hv;obtain⟨rfl,rfl⟩:=hv;simp only[St.ct]at hK;obtain⟨rc,h1⟩:=vZ ry hkn;have hvs:(a.eval y').cells.size=n:=by have:=jo rc;simp at this;omega
          obtain⟨⟨cur,T,hg,hfit⟩,bJ,hI⟩:=bA;simp only[aU]at hI;have WY:z.length=es:=(iV bJ (r:=0) rfl).1;simp only[fT,lE,iR,Nat.mul_one]at hfit;obtain⟨w',hrun,ht,hw'⟩:=J7 (P:=P) (w:=w) hsz (off:=g.o q) hg hvs (by omega) h1
          have wz:=jo rc;have hE:Ext g.I w (eu g.I (g.β q) (g.o q+n)) w':=yB ht hg (by simp;omega) hw' (by omega) (λk=>by simp only[eu];split<;>simp_all;omega)
          have hl:(af s.heap q).live=true:=by rw[hq];rfl
          have hle:cT s.heap g w (s.heap.set q .dead) (g.bM (eu g.I (g.β q) (g.o q+n))) w':=nF hs.heap hl ht hE (λes he=>by simp[O.dg]at he) (λhkv=>by simp[O.fL]at hkv)
          have hH:bT φ (s.heap.set q .dead) (g.bM (eu g.I (g.β q) (g.o q+n))) w':=nG hs.heap hl ht hle (λb hb=>by simp[eu,hb]) trivial
          have hS:=hs.oy (ok:=s.ok) hl ht hle hH;refine J8 ho j9 (w':=w') (by rw[J9];simpa using hrun) ?_
          have hk:=hK (g.bM (eu g.I (g.β q) (g.o q+n))) undef w';rw[j9]at hk;refine hk ?_ (nH .dead hl ht hE (λb hb=>by simp[eu,hb]) hle)
          refine⟨λk=>?_,hH,hs.size,hS.defers,by simpa using hs.len⟩
          simp only[aK];by_cases eT:d=k
          .subst eT
           rw[aN rfl];have yD:a.tmps.getD d undef = .pointer (some ⟨g.β q,g.o q,none⟩):=by
            cases x' with
            |tmp t =>
             simp[bE]at hx;subst hx;simpa[Act.eval]using J9
            |const v=>simp[bE]at hx
            |func f=>simp[bE]at hx
            |_=>simp[bE]at hx
           have Py:(a.put none undef).tmps.getD d undef = .pointer (some ⟨g.β q,g.o q,none⟩):=yD;rw[Py];have J':∀(j:Nat)(u:Value),(a.eval y').cells.toList[j]?=some u->w'.cell? ⟨g.β q,g.o q+j,none⟩=some u:=by
            intro j u hj;have hjl:j<(a.eval y').cells.toList.length:=by
             rcases eH j (a.eval y').cells.toList.length with h2 |h2
             .exact h2
             .simp[dL h2]at hj
            have iI:=uB (cs:=cur.toList) (new:=(a.eval y').cells.toList) (o:=g.o q) (by simp;omega) (g.o q+j)
            rw[aF (by omega),aN (by omega),I4,hj]at iI
            simp only[World.cell?,hw',tN];simpa using iI
           unfold mkRef;split
           .rename_i ds hds
            simp only[ah,aC,Gh.bM];have Ka:=qS hds rc;have hdn:=nC Ka;simp at hdn;exact⟨g.β q,g.o q,rfl,by simp[eu];omega,Bh (vs:=(a.eval y').cells.toList) (qQ hE Ka) J' h1⟩
           .simp only[ah,Gh.bM]
            simp at wz;exact⟨g.β q,g.o q,(a.eval y').cells.toList,rfl,by simp[eu];omega,pL hle rc,λj u hj=>⟨J' j u hj,h1 u (dV hj)⟩⟩
          .rw[aF eT]
           exact hS.env k
         .rename_i bP
          rw[aF bP]at hok;simp[St.fail]at hok
      |_=>rw[hq]at hok;simp[St.fail]at hok
   |_=>rw[hp]at hok;simp[St.fail]at hok
 .simp at hc
end
end Go.VS
