import Derived.Test.YtjpdopldkeodgaaGreatV06
import Derived.Test.YtjpdopldkeodgaaGreatV04
import Derived.Test.YtjpdopldkeodgaaGreatV05
import Derived.KernelRfl
import Derived.Test.YtjpdopldkeodgaaGreatChecked
import Derived.Test.YtjpdopldkeodgaaGreatV08
import Derived.Test.YtjpdopldkeodgaaGreatV09
import Derived.Test.YtjpdopldkeodgaaGreatV10
set_option linter.all false
open Go.Proofs
namespace Go.VS
def phiN (n:Nat):Nat:=n % 10000
def phi:Phi:=⟨phiN,fun ps A B x y nt=>lkB Tryz.prog phiN ps A B x y nt=true⟩
theorem lkok:LkOk Tryz.prog phi:=fun _ _ _ _ _ _=>Iff.rfl
noncomputable def ck (f:Nat) (F:F):Bool :=
 match Tryz.prog.funcs[phiN f]? with
 | some fn => !(fn.name == "runtime.NumGoroutine") && (match fn.body with | some c => chkC Tryz.prog phiN fn.ntmps c F.code && chkR Tryz.prog fn.results.toList F.res | none => false)
 | none=>false
theorem okT:tab.all (fun p=>ck p.1 p.2)=true:=by kernel_rfl
theorem okR_z_263:ck 263 R_z_263=true:=by kernel_rfl
theorem okR_z_237:ck 237 R_z_237=true:=by kernel_rfl
theorem okR_z_260:ck 260 R_z_260=true:=by kernel_rfl
theorem lookup_mem {α:Type} {l:List (Nat×α)} {n:Nat} {x:α} (h:l.lookup n=some x):(n,x)∈l:=by
 induction l with
 | nil=>simp at h
 | cons p r ih =>
  obtain ⟨a,b⟩:=p
  rw [List.lookup_cons] at h
  split at h
  ·rename_i hb
   have:n=a:=by simpa using hb
   subst this
   cases h
   simp
  ·exact List.mem_cons_of_mem _ (ih h)
theorem tabP:∀p∈tab,p.2.prim=none:=by
 have h:tab.all (fun p=>p.2.prim.isNone)=true:=by kernel_rfl
 rw [List.all_eq_true] at h
 exact fun p hp=>by simpa using h p hp
theorem code_of_ck {f:Nat} {F:F} (h:ck f F=true):FnCode Tryz.prog phi f F:=by
 unfold ck at h
 split at h
 ·rename_i fn hf
  split at h
  ·rename_i c hc
   simp only [Bool.and_eq_true,Bool.not_eq_true'] at h
   exact ⟨fn,c,hf,h.1,hc,h.2.1,h.2.2⟩
  ·simp at h
 ·cases h
theorem mixed:Tryz.prog.follows .mixedOrders=true:=by kernel_rfl
theorem laid:laidOutB Tryz.prog=true:=by kernel_rfl
set_option maxRecDepth 100000 in
theorem hF:∀f F,P f=some F→FnOk Tryz.prog phi f F:=by
 intro f F h
 unfold P at h
 split at h
 ·rename_i F' h1
  simp only [Option.some.injEq] at h
  subst h
  have hm:=lookup_mem h1
  have hk:=okT
  rw [List.all_eq_true] at hk
  exact .inl ⟨tabP _ hm,code_of_ck (hk _ hm)⟩
 ·split at h
  ·cases h;exact .inr ⟨_,rfl,ins_ok mixed lkok (code_of_ck okR_z_263) rfl rfl rfl (by decide)⟩
  ·cases h;exact .inr ⟨_,rfl,ins_ok mixed lkok (code_of_ck okR_z_237) rfl rfl rfl (by decide)⟩
  ·cases h;exact .inr ⟨_,rfl,ins_ok mixed lkok (code_of_ck okR_z_260) rfl rfl rfl (by decide)⟩
  ·cases h
end Go.VS
namespace Go.VS.Sp
abbrev tI:Ty:=.i .i64
def tW:Ty:=.st [tI,tI,tI,tI,tI]
def tCur:Ty:=.st [tI,.sl 1 tI]
def tS:Ty:=.st [tI,tI,tI,.sl 1 tI,.sl 5 tW,.sl 1 tI,.sl 2 tCur,.b,tI]
def tO:Ty:=.st [.s,tI,tI,tI]
theorem wt_i {cs:List D} (h:WT tI cs):∃n,cs=[I' n]:=by
 simp only [tI,WT] at h
 obtain ⟨n,rfl,_⟩:=h
 exact ⟨n,rfl⟩
theorem ints_of {rows:List (List D)} (h:∀r∈rows,WT tI r):∃hs:List Int,rows=rows1 hs:=by
 induction rows with
 | nil=>exact ⟨[],rfl⟩
 | cons r rs ih =>
  obtain ⟨n,rfl⟩:=wt_i (h r (by simp))
  obtain ⟨hs,rfl⟩:=ih fun x hx=>h x (by simp [hx])
  exact ⟨n::hs,rfl⟩
theorem five_of {cs:List D} (h:WTs [tI,tI,tI,tI,tI] cs):∃a b c d e,cs=[I' a,I' b,I' c,I' d,I' e]:=by
 simp only [WTs] at h
 obtain ⟨_,_,rfl,h1,_,_,rfl,h2,_,_,rfl,h3,_,_,rfl,h4,_,_,rfl,h5,rfl⟩:=h
 obtain ⟨a,rfl⟩:=wt_i h1
 obtain ⟨b,rfl⟩:=wt_i h2
 obtain ⟨c,rfl⟩:=wt_i h3
 obtain ⟨d,rfl⟩:=wt_i h4
 obtain ⟨e,rfl⟩:=wt_i h5
 exact ⟨a,b,c,d,e,rfl⟩
theorem waiters_of {rows:List (List D)} (h:∀r∈rows,WT tW r):∃q:List W,rows=q.map W.row:=by
 induction rows with
 | nil=>exact ⟨[],rfl⟩
 | cons r rs ih =>
  have h1:=h r (by simp)
  simp only [tW,WT] at h1
  obtain ⟨a,b,c,d,e,rfl⟩:=five_of h1
  obtain ⟨q,rfl⟩:=ih fun x hx=>h x (by simp [hx])
  exact ⟨⟨a,b,c,d,e⟩::q,rfl⟩
theorem wt_sl {es:Nat} {t:Ty} {cs:List D} (h:WT (.sl es t) cs):∃nl rows,cs=[.sl es nl rows]∧(nl=true→rows=[])∧∀r∈rows,WT t r:=by
 simp only [WT] at h
 obtain ⟨nl,rows,rfl,h1,_,h2⟩:=h
 exact ⟨nl,rows,rfl,h1,h2⟩
theorem cursors_of {rows:List (List D)} (h:∀r∈rows,WT tCur r):∃C:List K,rows=C.map K.row∧∀c∈C,c.nl=true→c.log=[]:=by
 induction rows with
 | nil=>exact ⟨[],rfl,by simp⟩
 | cons r rs ih =>
  have h1:=h r (by simp)
  simp only [tCur,WT,WTs] at h1
  obtain ⟨_,_,rfl,⟨n,rfl,_⟩,_,_,rfl,⟨nb,r,rfl,n1,_,k1⟩,rfl⟩:=h1
  obtain ⟨hs,rfl⟩:=ints_of (by simpa [tI,WT] using k1)
  obtain ⟨C,rfl,hC⟩:=ih fun x hx=>h x (by simp [hx])
  refine ⟨⟨n,nb,hs⟩::C,rfl,?_⟩
  intro c hc
  rcases List.mem_cons.1 hc with rfl | hc
  ·intro e
   exact List.map_eq_nil_iff.1 (n1 e)
  ·exact hC c hc
theorem object_of {s:D} (h:WV tO s):∃nm k sz ot,s = .ag [nm,I' k,I' sz,I' ot]:=by
 simp only [tO,WV,WTs] at h
 obtain ⟨cs,rfl,_,_,rfl,h1,_,_,rfl,h2,_,_,rfl,h3,_,_,rfl,h4,rfl⟩:=h
 simp only [WT] at h1
 obtain ⟨nm,rfl,_⟩:=h1
 obtain ⟨a,rfl⟩:=wt_i h2
 obtain ⟨b,rfl⟩:=wt_i h3
 obtain ⟨c,rfl⟩:=wt_i h4
 exact ⟨_,a,b,c,rfl⟩
theorem int_of {s:D} (h:WV tI s):∃n,s=I' n:=by
 simp only [tI,WV] at h
 obtain ⟨n,hn⟩:=wt_i h
 exact ⟨n,by simpa using hn⟩
end Go.VS.Sp
namespace Go.VS.Sp
theorem state_of2 {s:D} (h:WV tS s):∃x:S,s = .ag x.row∧x.wf∧(x.qn=true→x.Q=[]):=by
 simp only [tS,WV] at h
 obtain ⟨cs,rfl,h⟩:=h
 simp only [WTs] at h
 obtain ⟨_,_,rfl,h1,_,_,rfl,h2,_,_,rfl,h3,_,_,rfl,h4,_,_,rfl,h5,_,_,rfl,h6,_,_,rfl,h7,_,_,rfl,h8,_,_,rfl,h9,rfl⟩:=h
 obtain ⟨own,rfl⟩:=wt_i h1
 obtain ⟨cnt,rfl⟩:=wt_i h2
 obtain ⟨time,rfl⟩:=wt_i h3
 obtain ⟨hn,r4,rfl,n4,k4⟩:=wt_sl h4
 obtain ⟨hs,rfl⟩:=ints_of k4
 obtain ⟨qn,r5,rfl,n5,k5⟩:=wt_sl h5
 obtain ⟨q,rfl⟩:=waiters_of k5
 obtain ⟨bn,r6,rfl,n6,k6⟩:=wt_sl h6
 obtain ⟨bs,rfl⟩:=ints_of k6
 obtain ⟨cn,r7,rfl,n7,k7⟩:=wt_sl h7
 obtain ⟨C,rfl,hC⟩:=cursors_of k7
 simp only [WT] at h8
 obtain ⟨cl,rfl⟩:=h8
 obtain ⟨val,rfl⟩:=wt_i h9
 exact ⟨⟨own,cnt,time,hn,hs,qn,q,bn,bs,cn,C,cl,val⟩,rfl,⟨fun h=>List.map_eq_nil_iff.1 (n4 h),fun h=>List.map_eq_nil_iff.1 (n6 h),fun h=>List.map_eq_nil_iff.1 (n7 h),hC⟩,fun h=>List.map_eq_nil_iff.1 (n5 h)⟩
end Go.VS.Sp
namespace Go.VS.Sp
theorem l_Withdraws (xs:List D) (h:WVs [tO,tS,tI] xs):ev P (.call z_8 (xs.map V.d) [])=some (.val (.d (.b true)) []):=by
 simp only [WVs] at h
 obtain ⟨o,_,rfl,ho,s,_,rfl,hs,c,_,rfl,hc,rfl⟩:=h
 obtain ⟨nm,k,sz,ot,rfl⟩:=object_of ho
 obtain ⟨x,rfl,hx,hq⟩:=state_of2 hs
 obtain ⟨t,rfl⟩:=int_of hc
 exact law_Withdraws nm k sz ot x t hx hq
end Go.VS.Sp
