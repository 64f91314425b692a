import Derived.Test.YtifnkfombicejaaV08
import Derived.Test.YtifnkfombicejaaV05
import Derived.Test.YtifnkfombicejaaV07
import Derived.KernelRfl
import Derived.Test.YtifnkfombicejaaChecked
import Derived.Test.YtifnkfombicejaaV09
import Derived.Test.YtifnkfombicejaaV10
set_option linter.all false
set_option maxHeartbeats 1000000
open Go.Proofs
namespace Go.VS
def Eb(n:Nat):Nat:=n % 10000
def Ec:bX:=⟨Eb,λps A B x y nt=>DY Try.prog Eb ps A B x y nt=true⟩
theorem N6:oY Try.prog Ec:=λ_ _ _ _ _ _=>Iff.rfl
noncomputable def ck (f:Nat)(F:F):Bool :=
 match Try.prog.funcs[Eb f]? with
 |some fn => !(fn.name == "runtime.NumGoroutine") && (match fn.body with |some c => ia Try.prog Eb fn.ntmps c F.code && nW Try.prog fn.results.toList F.res |none => false)
 |none=>false
theorem WG:C6.all (λp=>ck p.1 p.2)=true:=by kernel_rfl
theorem WH:ck 80 QL=true:=by kernel_rfl
theorem WI{α:Type}{l:List (Nat×α)}{n:Nat}{x:α}(h:l.lookup n=some x):(n,x)∈l:=by
 induction l with
 |nil=>simp at h
 |cons p r ih =>
  obtain⟨a,b⟩:=p;rw[List.lookup_cons]at h;split at h
  .rename_i hb
   have:n=a:=by simpa using hb
   subst this;cases h;simp
  .exact List.mem_cons_of_mem _ (ih h)
theorem WJ:∀p∈C6,p.2.sk=none:=by
 have h:C6.all (λp=>p.2.sk.isNone)=true:=by kernel_rfl
 rw[List.all_eq_true]at h;exact λp hp=>by simpa using h p hp
theorem N7{f:Nat}{F:F}(h:ck f F=true):D4 Try.prog Ec f F:=by
 unfold ck at h;split at h
 .rename_i fn hf
  split at h
  .rename_i c hc
   simp only[Bool.and_eq_true,Bool.not_eq_true']at h;exact⟨fn,c,hf,h.1,hc,h.2.1,h.2.2⟩
  .simp at h
 .cases h
theorem mixed:Try.prog.follows .mixedOrders=true:=by kernel_rfl
theorem laid:laidOutB Try.prog=true:=by kernel_rfl
set_option maxRecDepth 100000 in
theorem hF:∀f F,P f=some F->xW Try.prog Ec f F:=by
 intro f F h;unfold P at h;split at h
 .rename_i F' h1
  simp only[Option.some.injEq]at h;subst h;have hm:=WI h1;have hk:=WG;rw[List.all_eq_true]at hk;exact .inl ⟨WJ _ hm,N7 (hk _ hm)⟩
 .split at h
  .cases h;exact .inr ⟨_,rfl,Wz mixed N6 (N7 WH) rfl rfl rfl (by decide)⟩
  .cases h
end Go.VS
namespace Go.VS.Tp
abbrev tI:Ty:=.i .i64
def tW:Ty:=.st [tI,tI,tI,tI,tI]
def WK:Ty:=.st [tI,.sl 1 tI]
def tS:Ty:=.st [tI,tI,tI,.sl 1 tI,.sl 5 tW,.sl 1 tI,.sl 2 WK,.b,tI]
def tO:Ty:=.st [.s,tI,tI,tI]
theorem tH{cs:List D}(h:WT tI cs):∃n,cs=[I' n]:=by
 simp only[tI,WT]at h;obtain⟨n,rfl,_⟩:=h;exact⟨n,rfl⟩
theorem WL{cs:List D}(h:nX [tI,tI,tI,tI,tI] cs):∃a b c d e,cs=[I' a,I' b,I' c,I' d,I' e]:=by
 simp only[nX]at h;obtain⟨_,_,rfl,h1,_,_,rfl,h2,_,_,rfl,h3,_,_,rfl,h4,_,_,rfl,h5,rfl⟩:=h;obtain⟨a,rfl⟩:=tH h1;obtain⟨b,rfl⟩:=tH h2;obtain⟨c,rfl⟩:=tH h3;obtain⟨d,rfl⟩:=tH h4;obtain⟨e,rfl⟩:=tH h5;exact⟨a,b,c,d,e,rfl⟩
theorem WM{rows:List (List D)}(h:∀r∈rows,WT tW r):∃q:List W,rows=q.map W.row:=by
 induction rows with
 |nil=>exact⟨[],rfl⟩
 |cons r rs ih =>
  have h1:=h r (by simp)
  simp only[tW,WT]at h1;obtain⟨a,b,c,d,e,rfl⟩:=WL h1;obtain⟨q,rfl⟩:=ih λx hx=>h x (by simp[hx])
  exact⟨⟨a,b,c,d,e⟩::q,rfl⟩
theorem WN{es:Nat}{t:Ty}{cs:List D}(h:WT (.sl es t) cs):∃nl rows,cs=[.sl es nl rows]/\(nl=true->rows=[])/\∀r∈rows,WT t r:=by
 simp only[WT]at h;obtain⟨nl,rows,rfl,h1,_,h2⟩:=h;exact⟨nl,rows,rfl,h1,h2⟩
theorem WO{s:D}(h:WV tO s):∃nm k sz ot,s = .ag [nm,I' k,I' sz,I' ot]:=by
 simp only[tO,WV,nX]at h;obtain⟨cs,rfl,_,_,rfl,h1,_,_,rfl,h2,_,_,rfl,h3,_,_,rfl,h4,rfl⟩:=h;simp only[WT]at h1;obtain⟨nm,rfl,_⟩:=h1;obtain⟨a,rfl⟩:=tH h2;obtain⟨b,rfl⟩:=tH h3;obtain⟨c,rfl⟩:=tH h4;exact⟨_,a,b,c,rfl⟩
def IS:Ty:=.sl 5 tW
theorem WQ(xs:List D)(h:vC [tO,IS] xs):ev P (.call Cc (xs.map V.d) [])=some (.val (.d (.b true)) []):=by
 simp only[vC]at h;obtain⟨o,_,rfl,ho,s,_,rfl,hs,rfl⟩:=h;obtain⟨nm,k,sz,ot,rfl⟩:=WO ho;simp only[IS,WV]at hs;obtain⟨nl,rows,oG,_,hr⟩:=WN hs;obtain rfl:s = .sl 5 nl rows:=by simpa using oG
 obtain⟨l,rfl⟩:=WM hr;exact Uh nm k sz ot nl l
end Go.VS.Tp
