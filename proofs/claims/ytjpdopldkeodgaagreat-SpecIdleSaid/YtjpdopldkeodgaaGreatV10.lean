import Derived.Test.YtjpdopldkeodgaaGreatV04
import Derived.Test.YtjpdopldkeodgaaGreatV02
import Derived.Test.YtjpdopldkeodgaaGreatV03
import Derived.KernelRfl
import Derived.Test.YtjpdopldkeodgaaGreatChecked
import Derived.Test.YtjpdopldkeodgaaGreatV05
import Derived.Test.YtjpdopldkeodgaaGreatV06
import Derived.Test.YtjpdopldkeodgaaGreatV09
set_option linter.all false
set_option maxHeartbeats 1000000
open Go.Proofs
namespace Go.VS
def Pc(n:Nat):Nat:=n % 10000
def Pd:fD:=⟨Pc,λps A B x y nt=>OX Tryz.prog Pc ps A B x y nt=true⟩
theorem Pe:xl Tryz.prog Pd:=λ_ _ _ _ _ _=>Iff.rfl
noncomputable def ck (f:Nat)(F:F):Bool :=
 match Tryz.prog.funcs[Pc f]? with
 |some fn => !(fn.name == "runtime.NumGoroutine") && (match fn.body with |some c => nV Tryz.prog Pc fn.ntmps c F.code && vA Tryz.prog fn.results.toList F.res |none => false)
 |none=>false
theorem okT:NB.all (λp=>ck p.1 p.2)=true:=by kernel_rfl
theorem amw:ck 263 adb=true:=by kernel_rfl
theorem amx:ck 237 ac9=true:=by kernel_rfl
theorem amy:ck 260 ada=true:=by kernel_rfl
theorem amz{α:Type}{l:List (Nat×α)}{n:Nat}{x:α}(h:l.lookup n=some x):(n,x)∈l:=by
 induction l with
 |nil=>simp at h
 |cons p r ih =>
  obtain⟨a,b⟩:=p;rw[List.lookup_cons]at h;split at h
  .rename_i hb
   have:n=a:=by simpa using hb
   subst this;cases h;simp
  .exact List.mem_cons_of_mem _ (ih h)
theorem amA:∀p∈NB,p.2.AW=none:=by
 have h:NB.all (λp=>p.2.AW.isNone)=true:=by kernel_rfl
 rw[List.all_eq_true]at h;exact λp hp=>by simpa using h p hp
theorem Pf{f:Nat}{F:F}(h:ck f F=true):O3 Tryz.prog Pd f F:=by
 unfold ck at h;split at h
 .rename_i fn hf
  split at h
  .rename_i c hc
   simp only[Bool.and_eq_true,Bool.not_eq_true']at h;exact⟨fn,c,hf,h.1,hc,h.2.1,h.2.2⟩
  .simp at h
 .cases h
theorem mixed:Tryz.prog.follows .mixedOrders=true:=by kernel_rfl
theorem laid:laidOutB Tryz.prog=true:=by kernel_rfl
set_option maxRecDepth 100000 in
theorem hF:∀f F,P f=some F->Gm Tryz.prog Pd f F:=by
 intro f F h;unfold P at h;split at h
 .rename_i F' h1
  simp only[Option.some.injEq]at h;subst h;have hm:=amz h1;have hk:=okT;rw[List.all_eq_true]at hk;exact .inl ⟨amA _ hm,Pf (hk _ hm)⟩
 .split at h
  .cases h;exact .inr ⟨_,rfl,VE mixed Pe (Pf amw) rfl rfl rfl (by decide)⟩
  .cases h;exact .inr ⟨_,rfl,VE mixed Pe (Pf amx) rfl rfl rfl (by decide)⟩
  .cases h;exact .inr ⟨_,rfl,VE mixed Pe (Pf amy) rfl rfl rfl (by decide)⟩
  .cases h
end Go.VS
namespace Go.VS.Sp
abbrev tI:Ty:=.i .i64
def tW:Ty:=.st [tI,tI,tI,tI,tI]
def VH:Ty:=.st [tI,.sl 1 tI]
def tS:Ty:=.st [tI,tI,tI,.sl 1 tI,.sl 5 tW,.sl 1 tI,.sl 2 VH,.b,tI]
def tO:Ty:=.st [.s,tI,tI,tI]
def tC:Ty:=.st [tI,tI,tI,tI,tI]
theorem sZ{cs:List D}(h:WT tI cs):∃n,cs=[I' n]:=by
 simp only[tI,WT]at h;obtain⟨n,rfl,_⟩:=h;exact⟨n,rfl⟩
theorem VI{rows:List (List D)}(h:∀r∈rows,WT tI r):∃hs:List Int,rows=bW hs:=by
 induction rows with
 |nil=>exact⟨[],rfl⟩
 |cons r rs ih =>
  obtain⟨n,rfl⟩:=sZ (h r (by simp))
  obtain⟨hs,rfl⟩:=ih λx hx=>h x (by simp[hx])
  exact⟨n::hs,rfl⟩
theorem amB{cs:List D}(h:sY [tI,tI,tI,tI,tI] cs):∃a b c d e,cs=[I' a,I' b,I' c,I' d,I' e]:=by
 simp only[sY]at h;obtain⟨_,_,rfl,h1,_,_,rfl,h2,_,_,rfl,h3,_,_,rfl,h4,_,_,rfl,h5,rfl⟩:=h;obtain⟨a,rfl⟩:=sZ h1;obtain⟨b,rfl⟩:=sZ h2;obtain⟨c,rfl⟩:=sZ h3;obtain⟨d,rfl⟩:=sZ h4;obtain⟨e,rfl⟩:=sZ h5;exact⟨a,b,c,d,e,rfl⟩
theorem amC{rows:List (List D)}(h:∀r∈rows,WT tW r):∃q:List W,rows=q.map W.row:=by
 induction rows with
 |nil=>exact⟨[],rfl⟩
 |cons r rs ih =>
  have h1:=h r (by simp)
  simp only[tW,WT]at h1;obtain⟨a,b,c,d,e,rfl⟩:=amB h1;obtain⟨q,rfl⟩:=ih λx hx=>h x (by simp[hx])
  exact⟨⟨a,b,c,d,e⟩::q,rfl⟩
theorem Pg{es:Nat}{t:Ty}{cs:List D}(h:WT (.sl es t) cs):∃nl rows,cs=[.sl es nl rows]/\(nl=true->rows=[])/\∀r∈rows,WT t r:=by
 simp only[WT]at h;obtain⟨nl,rows,rfl,h1,_,h2⟩:=h;exact⟨nl,rows,rfl,h1,h2⟩
theorem amD{rows:List (List D)}(h:∀r∈rows,WT VH r):∃C:List K,rows=C.map K.row/\∀c∈C,c.nl=true->c.log=[]:=by
 induction rows with
 |nil=>exact⟨[],rfl,by simp⟩
 |cons r rs ih =>
  have h1:=h r (by simp)
  simp only[VH,WT,sY]at h1;obtain⟨_,_,rfl,⟨n,rfl,_⟩,_,_,rfl,⟨nb,r,rfl,n1,_,k1⟩,rfl⟩:=h1;obtain⟨hs,rfl⟩:=VI (by simpa[tI,WT]using k1)
  obtain⟨C,rfl,hC⟩:=ih λx hx=>h x (by simp[hx])
  refine⟨⟨n,nb,hs⟩::C,rfl,?_⟩;intro c hc;rcases dD.1 hc with rfl |hc
  .intro e
   exact Cu.1 (n1 e)
  .exact hC c hc
theorem amE{s:D}(h:WV tO s):∃nm k sz ot,s = .ag [nm,I' k,I' sz,I' ot]:=by
 simp only[tO,WV,sY]at h;obtain⟨cs,rfl,_,_,rfl,h1,_,_,rfl,h2,_,_,rfl,h3,_,_,rfl,h4,rfl⟩:=h;simp only[WT]at h1;obtain⟨nm,rfl,_⟩:=h1;obtain⟨a,rfl⟩:=sZ h2;obtain⟨b,rfl⟩:=sZ h3;obtain⟨c,rfl⟩:=sZ h4;exact⟨_,a,b,c,rfl⟩
theorem amF{s:D}(h:WV tC s):∃c:Cl,s = .ag c.row:=by
 simp only[tC,WV]at h;obtain⟨cs,rfl,h⟩:=h;obtain⟨a,b,c,d,e,rfl⟩:=amB h;exact⟨⟨a,b,c,d,e⟩,rfl⟩
theorem amG{s:D}(h:WV tI s):∃n,s=I' n:=by
 simp only[tI,WV]at h;obtain⟨n,hn⟩:=sZ h;exact⟨n,by simpa using hn⟩
theorem aos{s:D}(h:WV tS s):∃x:S,s = .ag x.row/\x.wf/\(x.qn=true->x.Q=[]):=by
 simp only[tS,WV]at h;obtain⟨cs,rfl,h⟩:=h;simp only[sY]at h;obtain⟨_,_,rfl,h1,_,_,rfl,h2,_,_,rfl,h3,_,_,rfl,h4,_,_,rfl,h5,_,_,rfl,h6,_,_,rfl,h7,_,_,rfl,h8,_,_,rfl,h9,rfl⟩:=h;obtain⟨own,rfl⟩:=sZ h1;obtain⟨cnt,rfl⟩:=sZ h2;obtain⟨time,rfl⟩:=sZ h3;obtain⟨hn,r4,rfl,n4,k4⟩:=Pg h4;obtain⟨hs,rfl⟩:=VI k4;obtain⟨qn,r5,rfl,n5,k5⟩:=Pg h5;obtain⟨q,rfl⟩:=amC k5;obtain⟨bn,r6,rfl,n6,k6⟩:=Pg h6;obtain⟨bs,rfl⟩:=VI k6;obtain⟨cn,r7,rfl,n7,k7⟩:=Pg h7;obtain⟨C,rfl,hC⟩:=amD k7;simp only[WT]at h8;obtain⟨cl,rfl⟩:=h8;obtain⟨val,rfl⟩:=sZ h9;exact⟨⟨own,cnt,time,hn,hs,qn,q,bn,bs,cn,C,cl,val⟩,rfl,⟨λh=>Cu.1 (n4 h),λh=>Cu.1 (n6 h),λh=>Cu.1 (n7 h),hC⟩,λh=>Cu.1 (n5 h)⟩
theorem auw(xs:List D)(h:DV [tO,tS,tC,tI] xs):ev P (.call EC (xs.map V.d) [])=some (.val (.d (.b true)) []):=by
 simp only[DV]at h;obtain⟨o,_,rfl,ho,s,_,rfl,hs,c,_,rfl,hc,i,_,rfl,hi,rfl⟩:=h;obtain⟨nm,k,sz,ot,rfl⟩:=amE ho;obtain⟨x,rfl,hx,hq⟩:=aos hs;obtain⟨t,rfl⟩:=amF hc;obtain⟨n,rfl⟩:=amG hi;exact auv nm k sz ot x t n hx hq
end Go.VS.Sp
