import Derived.Test.YtjpdopldkeodgaaGreatV07
import Derived.Test.YtjpdopldkeodgaaGreatV05
import Derived.Test.YtjpdopldkeodgaaGreatV06
import Derived.KernelRfl
import Derived.Test.YtjpdopldkeodgaaGreatChecked
import Derived.Test.YtjpdopldkeodgaaGreatV09
import Derived.Test.YtjpdopldkeodgaaGreatV11
import Derived.Test.YtjpdopldkeodgaaGreatV15
set_option linter.all false
set_option maxHeartbeats 1000000
open Go.Proofs
namespace Go.VS
def Ox(n:Nat):Nat:=n % 10000
def Oy:fy:=⟨Ox,λps A B x y nt=>Of Tryz.prog Ox ps A B x y nt=true⟩
theorem Oz:w7 Tryz.prog Oy:=λ_ _ _ _ _ _=>Iff.rfl
noncomputable def ck (f:Nat)(F:F):Bool :=
 match Tryz.prog.funcs[Ox f]? with
 |some fn => !(fn.name == "runtime.NumGoroutine") && (match fn.body with |some c => nK Tryz.prog Ox fn.ntmps c F.code && u6 Tryz.prog fn.results.toList F.res |none => false)
 |none=>false
theorem okT:MQ.all (λp=>ck p.1 p.2)=true:=by kernel_rfl
theorem als:ck 263 adq=true:=by kernel_rfl
theorem alu:ck 237 ado=true:=by kernel_rfl
theorem alv:ck 260 adp=true:=by kernel_rfl
theorem alw{α:Type}{l:List (Nat×α)}{n:Nat}{x:α}(h:l.lookup n=some x):(n,x)∈l:=by
 induction l with
 |nil=>simp at h
 |cons p r ih =>
  obtain⟨a,b⟩:=p;rw[List.lookup_cons]at h;split at h
  .rename_i hb
   have:n=a:=by simpa using hb
   subst this;cases h;simp
  .exact List.mem_cons_of_mem _ (ih h)
theorem alx:∀p∈MQ,p.2.Ay=none:=by
 have h:MQ.all (λp=>p.2.Ay.isNone)=true:=by kernel_rfl
 rw[List.all_eq_true]at h;exact λp hp=>by simpa using h p hp
theorem OA{f:Nat}{F:F}(h:ck f F=true):Ol Tryz.prog Oy f F:=by
 unfold ck at h;split at h
 .rename_i fn hf
  split at h
  .rename_i c hc
   simp only[Bool.and_eq_true,Bool.not_eq_true']at h;exact⟨fn,c,hf,h.1,hc,h.2.1,h.2.2⟩
  .simp at h
 .cases h
theorem mixed:Tryz.prog.follows .mixedOrders=true:=by kernel_rfl
theorem laid:laidOutB Tryz.prog=true:=by kernel_rfl
set_option maxRecDepth 100000 in
theorem hF:∀f F,P f=some F->F4 Tryz.prog Oy f F:=by
 intro f F h;unfold P at h;split at h
 .rename_i F' h1
  simp only[Option.some.injEq]at h;subst h;have hm:=alw h1;have hk:=okT;rw[List.all_eq_true]at hk;exact .inl ⟨alx _ hm,OA (hk _ hm)⟩
 .split at h
  .cases h;exact .inr ⟨_,rfl,UT mixed Oz (OA als) rfl rfl rfl (by decide)⟩
  .cases h;exact .inr ⟨_,rfl,UT mixed Oz (OA alu) rfl rfl rfl (by decide)⟩
  .cases h;exact .inr ⟨_,rfl,UT mixed Oz (OA alv) rfl rfl rfl (by decide)⟩
  .cases h
end Go.VS
namespace Go.VS.Sp
abbrev tI:Ty:=.i .i64
def tW:Ty:=.st [tI,tI,tI,tI,tI]
def aly:Ty:=.st [tI,.sl 1 tI]
def tS:Ty:=.st [tI,tI,tI,.sl 1 tI,.sl 5 tW,.sl 1 tI,.sl 2 aly,.b,tI]
def tO:Ty:=.st [.s,tI,tI,tI]
def tC:Ty:=.st [tI,tI,tI,tI,tI]
theorem BD{cs:List D}(h:WT tI cs):∃n,cs=[I' n]:=by
 simp only[tI,WT]at h;obtain⟨n,rfl,_⟩:=h;exact⟨n,rfl⟩
theorem alz{cs:List D}(h:u7 [tI,tI,tI,tI,tI] cs):∃a b c d e,cs=[I' a,I' b,I' c,I' d,I' e]:=by
 simp only[u7]at h;obtain⟨_,_,rfl,h1,_,_,rfl,h2,_,_,rfl,h3,_,_,rfl,h4,_,_,rfl,h5,rfl⟩:=h;obtain⟨a,rfl⟩:=BD h1;obtain⟨b,rfl⟩:=BD h2;obtain⟨c,rfl⟩:=BD h3;obtain⟨d,rfl⟩:=BD h4;obtain⟨e,rfl⟩:=BD h5;exact⟨a,b,c,d,e,rfl⟩
theorem alA{s:D}(h:WV tO s):∃nm k sz ot,s = .ag [nm,I' k,I' sz,I' ot]:=by
 simp only[tO,WV,u7]at h;obtain⟨cs,rfl,_,_,rfl,h1,_,_,rfl,h2,_,_,rfl,h3,_,_,rfl,h4,rfl⟩:=h;simp only[WT]at h1;obtain⟨nm,rfl,_⟩:=h1;obtain⟨a,rfl⟩:=BD h2;obtain⟨b,rfl⟩:=BD h3;obtain⟨c,rfl⟩:=BD h4;exact⟨_,a,b,c,rfl⟩
abbrev tLC:Ty:=.sl 5 tC
theorem alB{rows:List (List D)}(h:∀r∈rows,WT tC r):∃q:List Cl,rows=q.map Cl.row:=by
 induction rows with
 |nil=>exact⟨[],rfl⟩
 |cons r rs ih =>
  have h1:=h r (by simp)
  simp only[tC,WT]at h1;obtain⟨a,b,c,d,e,rfl⟩:=alz h1;obtain⟨q,rfl⟩:=ih λx hx=>h x (by simp[hx])
  exact⟨⟨a,b,c,d,e⟩::q,rfl⟩
theorem alC{es:Nat}{t:Ty}{d:D}(h:WV (.sl es t) d):∃nl rows,d = .sl es nl rows/\∀r∈rows,WT t r:=by
 simp only[WV,WT]at h;obtain⟨nl,rows,h1,_,_,h2⟩:=h;exact⟨nl,rows,by simpa using h1,h2⟩
end Go.VS.Sp
namespace Go.VS.Sp
end Go.VS.Sp
namespace Go.VS.Sp
theorem atf(xs:List D)(h:DB [tO,tLC] xs):ev P (.call Em (xs.map V.d) [])=some (.val (.d (.b true)) []):=by
 simp only[DB]at h;obtain⟨o,_,rfl,ho,s,_,rfl,hs,rfl⟩:=h;obtain⟨nm,k,sz,ot,rfl⟩:=alA ho;obtain⟨ln,rows,rfl,h1⟩:=alC hs;obtain⟨l,rfl⟩:=alB h1;exact ate nm k sz ot ln l
end Go.VS.Sp
