import Derived.Test.YtjpdopldkeodgaaGreatV08
set_option linter.all false
namespace Go.VS.R
open Go.VS.Sp
theorem ev_isNaN (n:Int):ev P (.call z_281 [.d (I' n)] [])=some (.val (.d (.b false)) []):=by
 rw [ev_call P_z_281 rfl]
 simp [F_z_281]
theorem ev_sNaN (n:Int):ev P (.call z_285 [.d (I' n)] [])=some (.val (.d (.b false)) []):=by
 rw [ev_call P_z_285 rfl]
 simp [F_z_285]
theorem ev_Less (a b:Int):ev P (.call z_284 [.d (I' a),.d (I' b)] [])=some (.val (.d (.b (decide (a<b)))) []):=by
 rw [ev_call P_z_284 rfl]
 by_cases h:a<b<;>simp [F_z_284,ev_isNaN,h]
def Asc (l:List Int):Prop:=l.Pairwise (·≤·)
def bI (t:Int) (l:List Int):Nat:=(l.takeWhile fun x=>decide (x<t)).length
theorem bI_le (t:Int):∀(l:List Int),bI t l≤l.length
 | []=>by simp [bI]
 | w::q=>by
  have:=bI_le t q
  unfold bI at *
  simp only [List.takeWhile_cons]
  split<;>simp;omega
theorem bI_lt {t x:Int}:∀{l:List Int} {k:Nat},Asc l→l[k]?=some x→(k<bI t l↔x<t)
 | [],k,_,h=>by simp at h
 | a::q,0,_,h=>by
  have:a=x:=by simpa using h
  subst this
  by_cases hp:a<t<;>simp [bI,List.takeWhile_cons,hp]
 | a::q,k+1,hd,h=>by
  have hd':=List.pairwise_cons.1 hd
  have hq:q[k]?=some x:=by simpa using h
  have hw:x∈q:=List.mem_of_getElem? hq
  have h1:=hd'.1 x hw
  have ih:=bI_lt (t:=t) (k:=k) hd'.2 hq
  by_cases hp:a<t
  ·have:bI t (a::q)=bI t q+1:=by simp [bI,List.takeWhile_cons,hp]
   rw [this,←ih];omega
  ·have:bI t (a::q)=0:=by simp [bI,List.takeWhile_cons,hp]
   rw [this];constructor<;>intro h3<;>omega
theorem mid_eq {i j:Nat} (h:i+j≤4000000):IntKind.i64.wrap ((IntKind.u64.wrap ((i:Int)+j)).fdiv (2 ^ min 1 IntKind.u64.bits))=(((i+j) / 2:Nat):Int):=by
 have h1:IntKind.u64.wrap ((i:Int)+j)=(i:Int)+j:=by
  have e0:IntKind.u64.bits=64:=rfl
  simp only [IntKind.wrap,e0,IntKind.signed,Bool.false_and,Bool.false_eq_true,if_false]
  omega
 have h2:(2:Int) ^ min 1 IntKind.u64.bits=2:=by decide
 rw [h1,h2,Int.fdiv_eq_ediv_of_nonneg _ (by omega),wrap_i64 (by omega) (by omega)]
 omega
theorem getR {l:List Int} {R:List (List D)} {m:Nat} {x:Int} (hR:l.length≤R.length) (hT:R.take l.length=rows1 l) (hx:l[m]?=some x):R[m]?=some [I' x]∧m<l.length:=by
 have hm:m<l.length:=(List.getElem?_eq_some_iff.1 hx).1
 refine ⟨?_,hm⟩
 have h1:(R.take l.length)[m]?=some [I' x]:=by rw [hT];simp [hx]
 rw [List.getElem?_take] at h1
 simpa [hm] using h1
theorem loop_BS (l:List Int) (R:List (List D)) (t:Int) (hn:l.length≤1000000) (hR:l.length≤R.length) (hT:R.take l.length=rows1 l) (hA:Asc l):∀(n i j:Nat),j - i≤n→i≤bI t l→bI t l≤j→j≤l.length →
  ev P (.loop 1 [0,1,6,7,8] F_z_262q_L0 [(0,.asl 0 0 l.length),(1,.d (I' t)),(6,.d (I' l.length)),(7,.d (I' i)),(8,.d (I' j))] [.arrD 1 true R]) =
   some (.out (.exit 0) [(0,.asl 0 0 l.length),(1,.d (I' t)),(6,.d (I' l.length)),(7,.d (I' (bI t l)))] [.arrD 1 true R]):=by
 intro n
 induction n with
 | zero =>
  intro i j h1 h2 h3 h4
  have e1:i=bI t l:=by omega
  have e2:j=bI t l:=by omega
  rw [ev_loop]
  conv=>lhs;arg 4;unfold F_z_262q_L0
  simp [e1,e2,reachC,cut]
 | succ n ih =>
  intro i j h1 h2 h3 h4
  by_cases hij:i=j
  ·have e1:i=bI t l:=by omega
   have e2:j=bI t l:=by omega
   rw [ev_loop]
   conv=>lhs;arg 4;unfold F_z_262q_L0
   simp [e1,e2,reachC,cut]
  ·have hlt:i<j:=by omega
   have hw1:IntKind.i64.wrap ((i:Int)+j)=i+j:=wrap_i64 (by omega) (by omega)
   have hm:=mid_eq (i:=i) (j:=j) (by omega)
   generalize hmm:(i+j) / 2=m at hm
   have hm1:i≤m:=by omega
   have hm2:m<j:=by omega
   obtain ⟨x,hx⟩:∃x,l[m]?=some x:=⟨l[m]'(by omega),by simp⟩
   have hb:=bI_lt (t:=t) hA hx
   obtain ⟨hg,hml⟩:=getR hR hT hx
   have hm3:IntKind.i64.wrap ((m:Int)+1)=m+1:=wrap_i64 (by omega) (by omega)
   have hml2:(m:Int)<l.length:=by omega
   have hmR:m<R.length:=by omega
   have hgg:R[m]=[I' x]:=by rw [List.getElem?_eq_getElem hmR] at hg;exact Option.some.inj hg
   rw [ev_loop]
   conv=>lhs;arg 4;unfold F_z_262q_L0
   by_cases hp:x<t
   ·have ih':=ih (m+1) j (by omega) (by omega) (by omega) h4
    simp at ih'
    simp [hlt,hw1,hm,hm3,hml,hml2,hmR,hgg,ev_Less,hp,reachC,cut]
    exact ih'
   ·have ih':=ih i m (by omega) (by omega) (by omega) (by omega)
    simp [hlt,hw1,hm,hml,hml2,hmR,hgg,ev_Less,hp,reachC,cut]
    exact ih'
theorem ev_BS (l:List Int) (R:List (List D)) (t:Int) (hn:l.length≤1000000) (hR:l.length≤R.length) (hT:R.take l.length=rows1 l) (hA:Asc l) :
  ∃b,ev P (.call z_262q [.asl 0 0 l.length,.d (I' t)] [.arrD 1 true R])=some (.val (.tu [.d (I' (bI t l)),.d (.b b)]) [.arrD 1 true R]):=by
 have hb:=bI_le t l
 have hl:=loop_BS l R t hn hR hT hA l.length 0 l.length (by omega) (by omega) hb (by omega)
 simp at hl
 by_cases h:bI t l<l.length
 ·obtain ⟨x,hx⟩:∃x,l[bI t l]?=some x:=⟨l[bI t l],by simp⟩
  obtain ⟨hg,_⟩:=getR hR hT hx
  have hbR:bI t l<R.length:=by omega
  have hgg:R[bI t l]=[I' x]:=by rw [List.getElem?_eq_getElem hbR] at hg;exact Option.some.inj hg
  have h2:(bI t l:Int)<l.length:=by omega
  generalize bI t l=B at *
  by_cases hxt:x=t
  ·refine ⟨true,?_⟩
   subst hxt
   rw [ev_call P_z_262q rfl]
   simp [F_z_262q,hl,h,h2,hbR,hgg,reachC,cut,endH]
  ·refine ⟨false,?_⟩
   have hxt2:(x==t)=false:=by simpa using hxt
   rw [ev_call P_z_262q rfl]
   simp [F_z_262q,hl,h,h2,hbR,hgg,ev_sNaN,hxt2,reachC,cut,endH]
 ·have h2:¬(bI t l:Int)<l.length:=by omega
  refine ⟨false,?_⟩
  rw [ev_call P_z_262q rfl]
  simp [F_z_262q,hl,h,h2,reachC,cut,endH]
theorem ev_BS0 (t:Int):ev P (.call z_262q [.d (.sl 1 true []),.d (I' t)] [])=some (.val (.tu [.d (I' 0),.d (.b false)]) []):=by
 have hl:ev P (.loop 0 [0,1,6,7,8] F_z_262q_L0 [(0,.d (.sl 1 true [])),(1,.d (I' t)),(6,.d (I' 0)),(7,.d (I' 0)),(8,.d (I' 0))] []) =
   some (.out (.exit 0) [(0,.d (.sl 1 true [])),(1,.d (I' t)),(6,.d (I' 0)),(7,.d (I' 0))] []):=by
  rw [ev_loop]
  conv=>lhs;arg 4;unfold F_z_262q_L0
  simp
 rw [ev_call P_z_262q rfl]
 simp [F_z_262q,hl,endH]
end Go.VS.R
namespace Go.VS.R
open Go.VS.Sp
def row1 (x:Int):List D:=[I' x]
def jdx (p:Int→Bool):Nat→List Int→Option Nat
 | _,[]=>none
 | k,w::r=>if p w=true then some k else jdx p (k+1) r
theorem loop_IF {f:Nat} {first caps:List D} {p:Int→Bool} (l:List Int) (hn:l.length≤1000000)
  (hp:∀a,ev P (.call f (first.map V.d++[.d (I' a)]++caps.map V.d) [])=some (.val (.d (.b (p a))) [])) :
  ∀(suf pre:List Int),l=pre++suf →
  ev P (.loop 1 [0,1,7,8] F_z_217q_L0 [(0,.asl 0 0 l.length),(1,.d (.fn f first caps)),(7,.d (I' l.length)),(8,.d (I' pre.length))] [.arrD 1 true (l.map row1)]) =
   match jdx p pre.length suf with
   | none=>some (.out (.exit 0) [] [.arrD 1 true (l.map row1)])
   | some k=>some (.out .ret [(4,.d (I' k))] [.arrD 1 true (l.map row1)]):=by
 intro suf
 induction suf with
 | nil =>
  intro pre hl
  have:l.length=pre.length:=by simp [hl]
  rw [ev_loop]
  conv=>lhs;arg 4;unfold F_z_217q_L0
  simp [this,jdx,reachC,cut]
 | cons w suf ih =>
  intro pre hl
  have hg:l[pre.length]?=some w:=by simp [hl]
  have hlt:(pre.length:Int)<l.length:=by simp [hl];omega
  have hlt2:pre.length<l.length:=by simp [hl]
  have hgg:l[pre.length]=w:=by simpa [List.getElem?_eq_getElem hlt2] using hg
  have hnext:IntKind.i64.wrap ((pre.length:Int)+1)=pre.length+1:=wrap_i64 (by omega) (by omega)
  have ih':=ih (pre++[w]) (by simp [hl])
  simp at ih' hp
  rw [ev_loop]
  conv=>lhs;arg 4;unfold F_z_217q_L0
  cases hw:p w
  ·simp [hlt,hlt2,hgg,row1,hp,allD_mid,hw,hnext,jdx,reachC,cut]
   exact ih'
  ·simp [hlt,hlt2,hgg,row1,hp,allD_mid,hw,jdx,reachC,cut]
theorem ev_IF {f:Nat} {first caps:List D} {p:Int→Bool} (l:List Int) (hn:l.length≤1000000)
  (hp:∀a,ev P (.call f (first.map V.d++[.d (I' a)]++caps.map V.d) [])=some (.val (.d (.b (p a))) [])) :
  ev P (.call z_217q [.asl 0 0 l.length,.d (.fn f first caps)] [.arrD 1 true (l.map row1)]) =
   some (.val (.d (I' (match jdx p 0 l with | none=>-1 | some k=>k))) [.arrD 1 true (l.map row1)]):=by
 have hl:=loop_IF l hn hp l [] rfl
 simp at hl
 rw [ev_call P_z_217q rfl]
 simp [F_z_217q,hl,reachC,cut]
 cases jdx p 0 l<;>simp [endH,reachC,cut]
 done
theorem loop_DF {f:Nat} {first caps:List D} {p:Int→Bool} (l:List Int) (hn:l.length≤1000000)
  (hp:∀a,ev P (.call f (first.map V.d++[.d (I' a)]++caps.map V.d) [])=some (.val (.d (.b (p a))) [])) :
  ∀(suf pre:List Int) (R:List (List D)),l=pre++suf→R.length=l.length→(∀r,r∈R→r.length=1)→R.take (pre.filter fun w=>!p w).length=(pre.filter fun w=>!p w).map row1→R.drop pre.length=suf.map row1 →
  ∃R',R'.length=l.length∧(∀r,r∈R'→r.length=1)∧R'.take (l.filter fun w=>!p w).length=(l.filter fun w=>!p w).map row1 ∧
  ev P (.loop 1 [0,1,5,6] F_z_138_L0 [(0,.asl 0 0 l.length),(1,.d (.fn f first caps)),(5,.d (I' (pre.filter fun w=>!p w).length)),(6,.d (I' pre.length))] [.arrD 1 true R]) =
   some (.out (.exit 0) [(0,.asl 0 0 l.length),(5,.d (I' (l.filter fun w=>!p w).length))] [.arrD 1 true R']):=by
 intro suf
 induction suf with
 | nil =>
  intro pre R hl hR hR3 h1 h2
  have hlp:l=pre:=by simp [hl]
  subst hlp
  refine ⟨R,hR,hR3,h1,?_⟩
  rw [ev_loop]
  conv=>lhs;arg 4;unfold F_z_138_L0
  simp [reachC,cut]
 | cons w suf ih =>
  intro pre R hl hR hR3 h1 h2
  have hlt:(pre.length:Int)<l.length:=by simp [hl];omega
  have hlt2:pre.length<l.length:=by simp [hl]
  have hnext:IntKind.i64.wrap ((pre.length:Int)+1)=pre.length+1:=wrap_i64 (by omega) (by omega)
  have hkl:(pre.filter fun w=>!p w).length≤pre.length:=List.length_filter_le _ _
  have hRw:R[pre.length]?=some (row1 w):=by
   have:=congrArg (fun x=>x[0]?) h2
   simpa using this
  have hlR:pre.length<R.length:=by omega
  have hRg:R[pre.length]=row1 w:=by simpa [List.getElem?_eq_getElem hlR] using hRw
  have hd:R.drop (pre.length+1)=suf.map row1:=by
   rw [←List.drop_drop,h2];simp
  simp at hp
  generalize hk:(pre.filter fun w=>!p w)=kp at *
  cases hw:p w
  ·have hnext2:IntKind.i64.wrap ((kp.length:Int)+1)=kp.length+1:=wrap_i64 (by omega) (by omega)
   obtain ⟨R',k1,k0,k2,k3⟩:=ih (pre++[w]) (R.set kp.length (row1 w)) (by simp [hl]) (by simpa using hR) (fun r hr=>by rcases List.mem_or_eq_of_mem_set hr with h | h;exact hR3 r h;rw [h];rfl)
    (by
     simp [hk,hw]
     rw [List.take_succ_eq_append_getElem (by simp;omega)]
     rw [List.take_set_of_le (Nat.le_refl _),h1]
     simp)
    (by simp;rw [List.drop_set_of_lt (by omega)];exact hd)
   refine ⟨R',k1,k0,k2,?_⟩
   simp [hk,hw,row1] at k3
   have hltk:kp.length<l.length:=by omega
   have hltR:kp.length<R.length:=by omega
   have h3:(R[kp.length]).length=1:=hR3 _ (List.getElem_mem hltR)
   have h3d:List.drop 1 R[kp.length]=[]:=List.drop_eq_nil_of_le (by omega)
   rw [ev_loop]
   conv=>lhs;arg 4;unfold F_z_138_L0
   simp [hlt,hlt2,hRg,hR,row1,hp,allD_mid,hw,hnext,hnext2,hltk,h3,h3d,reachC,cut]
   exact k3
  ·obtain ⟨R',k1,k0,k2,k3⟩:=ih (pre++[w]) R (by simp [hl]) hR hR3 (by simpa [hk,hw] using h1) (by simpa using hd)
   refine ⟨R',k1,k0,k2,?_⟩
   simp [hk,hw] at k3
   rw [ev_loop]
   conv=>lhs;arg 4;unfold F_z_138_L0
   simp [hlt,hlt2,hRg,hR,row1,hp,allD_mid,hw,hnext,reachC,cut]
   exact k3
theorem jdx_spec {p:Int→Bool}:∀(l pre:List Int),(∀w,w∈pre→p w=false)→match jdx p pre.length l with
  | none=>∀w,w∈pre++l→p w=false
  | some k=>∃a w b,pre++l=a++w::b∧a.length=k∧p w=true∧(∀x,x∈a→p x=false)
 | [],pre,h=>by simpa [jdx] using h
 | w::r,pre,h=>by
  unfold jdx
  cases hw:p w
  ·have ih:=jdx_spec r (pre++[w]) (by intro x hx;rcases List.mem_append.1 hx with hx | hx;exact h x hx;simp at hx;rw [hx];exact hw)
   simp at ih ⊢
   exact ih
  ·simp only [if_true]
   exact ⟨pre,w,r,rfl,rfl,hw,h⟩
theorem ev_DF {f:Nat} {first caps:List D} {p:Int→Bool} (l:List Int) (hn:l.length≤1000000)
  (hp:∀a,ev P (.call f (first.map V.d++[.d (I' a)]++caps.map V.d) [])=some (.val (.d (.b (p a))) [])) :
  ∃R',(l.filter fun w=>!p w).length≤R'.length∧R'.take (l.filter fun w=>!p w).length=(l.filter fun w=>!p w).map row1 ∧
  ev P (.call z_138 [.asl 0 0 l.length,.d (.fn f first caps)] [.arrD 1 true (l.map row1)]) =
   some (.val (.asl 0 0 (l.filter fun w=>!p w).length) [.arrD 1 true R']):=by
 have hi:=ev_IF l hn hp
 have hs:=jdx_spec (p:=p) l [] (by simp)
 rw [ev_call P_z_138 rfl]
 cases hx:jdx p 0 l with
 | none =>
  rw [hx] at hi
  simp only [List.length_nil,hx,List.nil_append] at hs
  have hf:(l.filter fun w=>!p w)=l:=by
   rw [List.filter_eq_self]
   intro a ha
   simp [hs a ha]
  refine ⟨l.map row1,by rw [hf];simp,by rw [hf];simp [take_map_len],?_⟩
  rw [hf]
  simp [F_z_138,callR,hi,reachC,cut,sub,setAll,back,endH]
 | some k =>
  rw [hx] at hi
  simp only [List.length_nil,hx,List.nil_append] at hs
  obtain ⟨a,w,b,hl,hk,hw,ha⟩:=hs
  have hfa:((a++[w]).filter fun w=>!p w)=a:=by
   have:(a.filter fun w=>!p w)=a:=by
    rw [List.filter_eq_self]
    intro x hx
    simp [ha x hx]
   simp [this,hw]
  obtain ⟨R',k1,k0,k2,k3⟩:=loop_DF l hn hp b (a++[w]) (l.map row1) (by simp [hl]) (by simp) (by
    intro r hr
    obtain ⟨x,_,rfl⟩:=List.mem_map.1 hr
    rfl) (by rw [hfa,hl];simp) (by rw [show l=(a++[w])++b by simp [hl],List.map_append];exact List.drop_left' (by simp))
  rw [hfa,hk] at k3
  have hak:k+1≤l.length:=by rw [hl,←hk,List.length_append,List.length_cons];omega
  have hnext:IntKind.i64.wrap ((k:Int)+1)=k+1:=wrap_i64 (by omega) (by omega)
  have hkn:((k:Int) == -1)=false:=by simp
  simp only [List.length_append,List.length_singleton,hk] at k3
  have hfl:(l.filter fun w=>!p w).length<l.length:=by
   have h1:=List.length_filter_le (fun w=>!p w) a
   have h2:=List.length_filter_le (fun w=>!p w) b
   rw [hl]
   simp [List.filter_append,hw]
   omega
  generalize (l.filter fun w=>!p w)=fl at *
  refine ⟨R'.take fl.length++List.replicate (R'.length - fl.length) [I' 0],by simp;omega,?_,?_⟩
  ·rw [List.take_append_of_le_length (by simp;omega),List.take_take,Nat.min_self,k2]
  ·have hz:¬(l.length - fl.length=0):=by omega
   have hdr:List.drop l.length R'=[]:=List.drop_eq_nil_of_le (by omega)
   simp at k3
   simp [hz,hdr,F_z_138,callR,hi,reachC,cut,sub,setAll,back,endH,hkn,hnext,k3,hfl,Nat.le_of_lt hfl,k1]
   done
theorem ev_ApplyC1 (t a b c d x:Int):ev P (.call z_139 [.d (I' x),.d (.ref [I' t,I' a,I' b,I' c,I' d])] [])=some (.val (.d (.b (x==t))) []):=by
 rw [ev_call P_z_139 rfl]
 simp [F_z_139]
theorem ev_CloneI (nl:Bool) (q:List Int) (hnl:nl=true→q=[]) (hn:q.length≤1000000) :
  ev P (.call z_214 [.d (hD nl q)] [])=if nl=true then some (.val (.d (.sl 1 true [])) []) else some (.val (.asl 0 0 q.length) [.arrD 1 true (rows1 q)]):=by
 rw [ev_call P_z_214 rfl]
 cases nl
 ·have hr:q.length≤room:=by unfold room;omega
  cases q with
  | nil=>simp [F_z_214,mkRows,allDs,reachC,cut,endH]
  | cons a r =>
   simp at hr
   simp [F_z_214,mkRows,allDs,reachC,cut,hr,endH]
 ·simp [F_z_214,endH]
theorem ev_Clone (nl:Bool) (q:List Sp.W) (hnl:nl=true→q=[]) (hn:q.length≤1000000) :
  ev P (.call z_153 [.d (qD nl q)] [])=if nl=true then some (.val (.d (.sl 5 true [])) []) else some (.val (.asl 0 0 q.length) [.arrD 5 true (q.map Sp.W.row)]):=by
 rw [ev_call P_z_153 rfl]
 cases nl
 ·have hr:q.length≤room:=by unfold room;omega
  cases q with
  | nil=>simp [F_z_153,mkRows,allDs,reachC,cut,endH]
  | cons a r =>
   simp at hr
   simp [F_z_153,mkRows,allDs,reachC,cut,hr,endH]
 ·simp [F_z_153,endH]
end Go.VS.R
namespace Go.VS.R
open Go.VS.Sp
def hV:Option (List (List D)×Nat)→Nat→V
 | none,_=>.d (.sl 1 true [])
 | some (_,n),i=>.asl i 0 n
def hO:Option (List (List D)×Nat)→List O
 | none=>[]
 | some (R,_)=>[.arrD 1 true R]
def qV:Bool ⊕ (List (List D)×Nat×Nat)→Nat→V
 | .inl nl,_=>.d (.sl 5 nl [])
 | .inr (_,off,len),i=>.asl i off len
def qO:Bool ⊕ (List (List D)×Nat×Nat)→List O
 | .inl _=>[]
 | .inr (R,_,_)=>[.arrD 5 true R]
def kV:Option (List (List D))→Nat→V
 | none,_=>.d (.sl 5 true [])
 | some R,i=>.asl i 0 R.length
def kO:Option (List (List D))→List O
 | none=>[]
 | some R=>[.arrD 5 true R]
structure Z where
 c1:D
 c2:D
 c5:D
 c6:D
 c7:D
 c8:D
def lk (z:Z) (own:Int) (h q k:V):O:=.arrV 10 [[.d (I' own),.d z.c1,.d z.c2,h,q,.d z.c5,.d z.c6,.d z.c7,.d z.c8,k]]
def heap3 (z:Z) (own:Int) (H:Option (List (List D)×Nat)) (Q:Bool ⊕ (List (List D)×Nat×Nat)) (K:Option (List (List D))):List O :=
 lk z own (hV H 1) (qV Q (1+(hO H).length)) (kV K (1+(hO H).length+(qO Q).length))::(hO H++(qO Q++kO K))
def hlen:Option (List (List D)×Nat)→Nat
 | none=>0
 | some (_,n)=>n
theorem rg2:List.range 2=[0,1]:=rfl
theorem rg3:List.range 3=[0,1,2]:=rfl
theorem rg4:List.range 4=[0,1,2,3]:=rfl
theorem rg5:List.range 5=[0,1,2,3,4]:=rfl
theorem ev_writes (z:Z) (own:Int) (H) (Q) (K):ev P (.call z_136 [.loc 0 0 0] (heap3 z own H Q K))=some (.val (.d (.b (own != -1))) (heap3 z own H Q K)):=by
 rw [ev_call P_z_136 rfl]
 rcases H with _ | ⟨R,n⟩<;>rcases Q with nl | ⟨S,off,len⟩<;>rcases K with _ | T <;>
  simp [F_z_136,heap3,lk,hV,hO,qV,qO,kV,kO,reachC,cut,rg2,rg3,rg4,rg5,List.idxOf_cons,endH]
theorem ev_free (z:Z) (own:Int) (H) (Q) (K):ev P (.call z_135 [.loc 0 0 0] (heap3 z own H Q K))=some (.val (.d (.b (own == -1&&(hlen H:Int)==0))) (heap3 z own H Q K)):=by
 have hW:=ev_writes z own H Q K
 rw [ev_call P_z_135 rfl]
 cases ho:own == -1
 ·have ho2:(own != -1)=true:=by simp [bne,ho]
  rw [ho2] at hW
  rcases H with _ | ⟨R,n⟩<;>rcases Q with nl | ⟨S,off,len⟩<;>rcases K with _ | T <;>
   (
    simp [heap3,lk,hV,hO,qV,qO,kV,kO] at hW
    simp [F_z_135,heap3,lk,hV,hO,qV,qO,kV,kO,reachC,cut,rg2,rg3,rg4,rg5,List.idxOf_cons,endH,callR,sub,setAll,back,hW,hlen])
 ·have ho2:(own != -1)=false:=by simp [bne,ho]
  rw [ho2] at hW
  rcases H with _ | ⟨R,n⟩<;>rcases Q with nl | ⟨S,off,len⟩<;>rcases K with _ | T <;>
   (
    simp [heap3,lk,hV,hO,qV,qO,kV,kO] at hW
    simp [F_z_135,heap3,lk,hV,hO,qV,qO,kV,kO,reachC,cut,rg2,rg3,rg4,rg5,List.idxOf_cons,endH,callR,sub,setAll,back,hW,hlen])
end Go.VS.R
namespace Go.VS.R
open Go.VS.Sp
def insI (t:Int) (l:List Int):List Int:=l.take (bI t l)++t::l.drop (bI t l)
theorem insI_len (t:Int) (l:List Int):(insI t l).length=l.length+1:=by
 have:=bI_le t l
 unfold insI;simp;omega
def hX:Option (List (List D)×Nat)→List O
 | none=>[]
 | some _=>[.dead]
theorem ev_grantW (z:Z) (own t:Int) (H) (Q) (K):ev P (.call z_216 [.loc 0 0 0,.d (I' t),.d (I' 55)] (heap3 z own H Q K))=some (.val (.tu []) (heap3 z t H Q K)):=by
 rw [ev_call P_z_216 rfl]
 rcases H with _ | ⟨R,n⟩<;>rcases Q with nl | ⟨S,off,len⟩<;>rcases K with _ | T <;>
  simp [F_z_216,heap3,lk,hV,hO,qV,qO,kV,kO,reachC,cut,rg2,rg3,rg4,rg5,List.idxOf_cons,endH,overlay]
def heapG (z:Z) (own:Int) (H:Option (List (List D)×Nat)) (Q:Bool ⊕ (List (List D)×Nat×Nat)) (K:Option (List (List D))) (R:List (List D)):List O :=
 lk z own (.asl (1+(hO H).length+(qO Q).length+(kO K).length) 0 R.length) (qV Q (1+(hO H).length)) (kV K (1+(hO H).length+(qO Q).length))::(hX H++(qO Q++(kO K++[.arrD 1 true R])))
theorem ev_grant0 (z:Z) (own t o:Int) (Q) (K) (ho:o≠55):ev P (.call z_216 [.loc 0 0 0,.d (I' t),.d (I' o)] (heap3 z own none Q K))=some (.val (.tu []) (heapG z own none Q K [[I' t]])):=by
 have hI:=ev_prim P_z_263 (p:=insP 1) rfl
 have ho2:(o==55)=false:=by simpa using ho
 have r1:1≤room:=by decide
 rw [ev_call P_z_216 rfl]
 rcases Q with nl | ⟨S,off,len⟩<;>rcases K with _ | T <;>
  simp [F_z_216,ho2,ev_BS0,hI,insP,insRows,r1,heap3,heapG,lk,hV,hO,hX,qV,qO,kV,kO,callR,sub,setAll,back,reachC,cut,rg2,rg3,rg4,rg5,List.idxOf_cons,endH,overlay]
theorem ev_grant1 (z:Z) (own t o:Int) (l:List Int) (R:List (List D)) (Q) (K) (ho:o≠55) (hn:l.length≤1000000) (hR:l.length≤R.length) (hT:R.take l.length=rows1 l) (hA:Asc l) :
  ev P (.call z_216 [.loc 0 0 0,.d (I' t),.d (I' o)] (heap3 z own (some (R,l.length)) Q K))=some (.val (.tu []) (heapG z own (some (R,l.length)) Q K (rows1 (insI t l)))):=by
 have hI:=ev_prim P_z_263 (p:=insP 1) rfl
 have ho2:(o==55)=false:=by simpa using ho
 obtain ⟨b,hB⟩:=ev_BS l R t hn hR hT hA
 have hb:=bI_le t l
 have r1:l.length+1≤room:=by unfold room;omega
 have hlen:(insI t l).length=l.length+1:=insI_len t l
 have hrow:rows1 (insI t l)=(rows1 l).take (bI t l)++[I' t]::(rows1 l).drop (bI t l):=by unfold insI rows1;simp [List.map_take,List.map_drop]
 rw [hrow]
 have hlen2:((rows1 l).take (bI t l)++[I' t]::(rows1 l).drop (bI t l)).length=l.length+1:=by simp;omega
 have hT':R.take l.length=rows1 l:=hT
 generalize bI t l=B at *
 generalize hrr:rows1 l=rr at *
 unfold heapG
 rw [hlen2]
 rw [ev_call P_z_216 rfl]
 rcases Q with nl | ⟨S,off,len⟩<;>rcases K with _ | T <;>
  simp [F_z_216,ho2,hB,hb,hI,insP,insRows,r1,hR,hT',heap3,lk,hV,hO,hX,qV,qO,kV,kO,callR,sub,setAll,back,reachC,cut,rg2,rg3,rg4,rg5,List.idxOf_cons,endH,overlay]
end Go.VS.R
namespace Go.VS.R
open Go.VS.Sp
theorem bI_split (t:Int):∀{l:List Int},Asc l→(∀x,x∈l.take (bI t l)→x<t)∧(∀x,x∈l.drop (bI t l)→t≤x)
 | [],_=>by simp
 | a::q,hs=>by
  have hs':=List.pairwise_cons.1 hs
  by_cases hp:a<t
  ·have e:bI t (a::q)=bI t q+1:=by simp [bI,List.takeWhile_cons,hp]
   obtain ⟨h1,h2⟩:=bI_split t hs'.2
   rw [e]
   constructor
   ·intro w hw
    rw [List.take_succ_cons] at hw
    rcases List.mem_cons.1 hw with rfl | hw
    ·exact hp
    ·exact h1 w hw
   ·intro w hw
    rw [List.drop_succ_cons] at hw
    exact h2 w hw
  ·have e:bI t (a::q)=0:=by simp [bI,List.takeWhile_cons,hp]
   rw [e]
   refine ⟨by simp,?_⟩
   intro w hw
   rw [List.drop_zero] at hw
   rcases List.mem_cons.1 hw with rfl | hw
   ·omega
   ·have:=hs'.1 w hw;omega
theorem asc_ins {t:Int} {l:List Int} (h:Asc l):Asc (insI t l):=by
 obtain ⟨h1,h2⟩:=bI_split t h
 unfold insI Asc
 rw [List.pairwise_append]
 refine ⟨h.sublist (List.take_sublist _ _),List.pairwise_cons.2 ⟨h2,h.sublist (List.drop_sublist _ _)⟩,?_⟩
 intro a ha b hb
 rcases List.mem_cons.1 hb with rfl | hb
 ·exact Int.le_of_lt (h1 a ha)
 ·exact Int.le_trans (Int.le_of_lt (h1 a ha)) (h2 b hb)
theorem take_snoc {α:Type} {l:List α} {x:α}:List.take (l.length+1) (l++[x])=l++[x]:=List.take_of_length_le (by simp)
def wk (w:Sp.W):List D:=[I' w.task,I' w.op,I' 0,.b true,I' (-1)]
def insA (l:List Int) (q:List Sp.W):List Int:=q.foldl (fun l w=>insI w.task l) l
def qcV (i off:Nat):List Sp.W→V
 | []=>.d (.sl 5 false [])
 | r=>.asl i off r.length
def heapL (z:Z) (own:Int) (pre:List O) (S:List (List D)) (off:Nat) (r:List Sp.W) (l:List Int) (k:List (List D)):List O :=
 lk z own (.asl (pre.length+2) 0 l.length) (qcV (pre.length+1) off r) (.asl (pre.length+3) 0 k.length)::(pre++[.arrD 5 true S,.arrD 1 true (rows1 l),.arrD 5 true k])
theorem loop_serveG (z:Z) (pre:List O) (hpre:pre=[]∨pre=[.dead]) (S:List (List D)):∀(r:List Sp.W) (off:Nat) (l:List Int) (k:List (List D)),Asc l→l.length+r.length≤100000→k.length+r.length≤100000→l≠[]→k≠[]→S.drop off=r.map Sp.W.row →
  ev P (.loop (pre.length+2) [0] F_z_140_L0 [(0,.loc 0 0 0)] (heapL z (-1) pre S off r l k)) =
   some (.out (.exit 0) [] (heapL z (-1) pre S (off+(r.takeWhile fun w=>w.op != 55).length) (r.dropWhile fun w=>w.op != 55) (insA l (r.takeWhile fun w=>w.op != 55)) (k++(r.takeWhile fun w=>w.op != 55).map wk))):=by
 intro r
 induction r with
 | nil =>
  intro off l k hA hn hk hl0 hk0 hS
  rw [ev_loop]
  conv=>lhs;arg 4;unfold F_z_140_L0
  rcases hpre with rfl | rfl <;>
   simp [heapL,lk,qcV,insA,reachC,cut,rg2,rg3,rg4,rg5,List.idxOf_cons]
 | cons w r ih =>
  intro off l k hA hn hk hl0 hk0 hS
  simp at hn hk
  have hSl:S.length=off+(r.length+1):=by
   have:=congrArg List.length hS
   simp at this
   omega
  have hoff:off<S.length:=by omega
  have hS0:S[off]=w.row:=by
   have:=congrArg (fun x=>x[0]?) hS
   simpa [List.getElem?_eq_getElem hoff] using this
  have hS1:S.drop (off+1)=r.map Sp.W.row:=by
   have:=congrArg (fun x=>x.drop 1) hS
   simpa [List.drop_drop] using this
  have hl1:¬((l.length:Int)==0)=true:=by
   simp;exact hl0
  have hl2:((l.length:Int)==0)=false:=by simpa using hl1
  by_cases ho:w.op=55
  ·have hF:=ev_free z (-1) (some (rows1 l,l.length)) (.inr (S,off,r.length+1)) (some k)
   have hW:=ev_writes z (-1) (some (rows1 l,l.length)) (.inr (S,off,r.length+1)) (some k)
   simp [hlen,hl2,heap3,lk,hV,hO,qV,qO,kV,kO] at hF hW
   have e1:((w::r).takeWhile fun w=>w.op != 55)=[]:=by simp [List.takeWhile_cons,ho]
   have e2:((w::r).dropWhile fun w=>w.op != 55)=w::r:=by simp [List.dropWhile_cons,ho]
   rw [e1,e2]
   rw [ev_loop]
   conv=>lhs;arg 4;unfold F_z_140_L0
   rcases hpre with rfl | rfl <;>
    simp [heapL,lk,qcV,insA,reachC,cut,rg2,rg3,rg4,rg5,List.idxOf_cons,hoff,hS0,hSl,Sp.W.row,ho,callR,hF,hW,sub,setAll,back]
  ·have ho2:(w.op==55)=false:=by simpa using ho
   have e1:((w::r).takeWhile fun w=>w.op != 55)=w::r.takeWhile fun w=>w.op != 55:=by simp [List.takeWhile_cons,ho]
   have e2:((w::r).dropWhile fun w=>w.op != 55)=r.dropWhile fun w=>w.op != 55:=by simp [List.dropWhile_cons,ho]
   have hil:=insI_len w.task l
   have ih':=ih (off+1) (insI w.task l) (k++[wk w]) (asc_ins hA) (by omega) (by simp;omega) (by intro h;rw [h] at hil;simp at hil) (by simp) hS1
   have e3:insA l ((w::r).takeWhile fun w=>w.op != 55)=insA (insI w.task l) (r.takeWhile fun w=>w.op != 55):=by rw [e1];rfl
   have e4:k++((w::r).takeWhile fun w=>w.op != 55).map wk=k++[wk w]++(r.takeWhile fun w=>w.op != 55).map wk:=by rw [e1];simp
   have e5:off+((w::r).takeWhile fun w=>w.op != 55).length=off+1+(r.takeWhile fun w=>w.op != 55).length:=by rw [e1];simp;omega
   rw [e2,e3,e4,e5]
   generalize hRR:some (Res.out (.exit 0) [] (heapL z (-1) pre S (off+1+(r.takeWhile fun w=>w.op != 55).length) (r.dropWhile fun w=>w.op != 55) (insA (insI w.task l) (r.takeWhile fun w=>w.op != 55)) (k++[wk w]++(r.takeWhile fun w=>w.op != 55).map wk)))=RR at *
   have hkr:k.length+1≤room:=by unfold room;omega
   have hk3:k.length+1≤100000:=by omega
   cases r with
   | nil =>
    have hW:=ev_writes z (-1) (some (rows1 l,l.length)) (.inr (S,off,1)) (some k)
    have hG:=ev_grant1 z (-1) w.task w.op l (rows1 l) (.inl false) (some k) ho (by omega) (by simp) (by simp [rows1,take_map_len]) hA
    simp [heap3,heapG,lk,hV,hO,hX,qV,qO,kV,kO,hil] at hW hG
    simp at hSl
    simp [heapL,lk,qcV,hil] at ih'
    rw [ev_loop]
    conv=>lhs;arg 4;unfold F_z_140_L0
    rcases hpre with rfl | rfl
    ·simp [heapL,lk,qcV,insA,reachC,cut,rg2,rg3,rg4,rg5,List.idxOf_cons,hoff,hS0,hSl,Sp.W.row,ho2,callR,hW,hG,sub,setAll,back,hkr,Nat.not_succ_le_self,take_snoc,wk] at ih' ⊢
     exact ih'
    ·simp [heapL,lk,qcV,insA,reachC,cut,rg2,rg3,rg4,rg5,List.idxOf_cons,hoff,hS0,hSl,Sp.W.row,ho2,callR,hW,hG,sub,setAll,back,hkr,Nat.not_succ_le_self,take_snoc,wk] at ih' ⊢
     exact ih'
   | cons w2 r =>
    have hW:=ev_writes z (-1) (some (rows1 l,l.length)) (.inr (S,off,r.length+1+1)) (some k)
    have hG:=ev_grant1 z (-1) w.task w.op l (rows1 l) (.inr (S,off+1,r.length+1)) (some k) ho (by omega) (by simp) (by simp [rows1,take_map_len]) hA
    simp [heap3,heapG,lk,hV,hO,hX,qV,qO,kV,kO,hil] at hW hG
    simp at hSl
    simp [heapL,lk,qcV,hil] at ih'
    have q1:(0:Int)<r.length+1+1:=by omega
    have q2:(1:Int)≤r.length+1+1:=by omega
    have q3:(1:Int)<r.length+1+1:=by omega
    have q4:((r.length:Int)+1+1 - 1).toNat=r.length+1:=by omega
    have hle:off+(r.length+1+1)≤S.length:=by omega
    have hsub:off+(r.length+1+1) - (off+1)=r.length+1:=by omega
    rw [ev_loop]
    conv=>lhs;arg 4;unfold F_z_140_L0
    rcases hpre with rfl | rfl
    ·simp [heapL,lk,qcV,insA,reachC,cut,rg2,rg3,rg4,rg5,List.idxOf_cons,hoff,q1,q2,q3,q4,hS0,hSl,Sp.W.row,ho2,callR,hW,hG,sub,setAll,back,hkr,Nat.not_succ_le_self,take_snoc,wk] at ih' ⊢
     exact ih'
    ·simp [heapL,lk,qcV,insA,reachC,cut,rg2,rg3,rg4,rg5,List.idxOf_cons,hoff,q1,q2,q3,q4,hS0,hSl,Sp.W.row,ho2,callR,hW,hG,sub,setAll,back,hkr,Nat.not_succ_le_self,take_snoc,wk] at ih' ⊢
     exact ih'
end Go.VS.R
namespace Go.VS.R
open Go.VS.Sp
theorem ev_serve0 (z:Z) (own:Int) (H) (nl:Bool):ev P (.call z_140 [.loc 0 0 0] (heap3 z own H (.inl nl) none))=some (.val (.tu []) (heap3 z own H (.inl nl) none)):=by
 have hL:ev P (.loop (1+(hO H).length) [0] F_z_140_L0 [(0,.loc 0 0 0)] (heap3 z own H (.inl nl) none))=some (.out (.exit 0) [] (heap3 z own H (.inl nl) none)):=by
  rw [ev_loop]
  conv=>lhs;arg 4;unfold F_z_140_L0
  rcases H with _ | ⟨R,n⟩<;>simp [heap3,lk,hV,hO,qV,qO,kV,kO,reachC,cut,rg2,rg3,rg4,rg5,List.idxOf_cons]
 rw [ev_call P_z_140 rfl]
 rcases H with _ | ⟨R,n⟩<;>simp [heap3,lk,hV,hO,qV,qO,kV,kO] at hL <;>
  simp [F_z_140,hL,heap3,lk,hV,hO,qV,qO,kV,kO,reachC,cut,rg2,rg3,rg4,rg5,List.idxOf_cons,endH]
theorem ev_serve00 (z:Z) (own:Int) (H) (S:List (List D)):ev P (.call z_140 [.loc 0 0 0] (heap3 z own H (.inr (S,0,0)) none))=some (.val (.tu []) (heap3 z own H (.inr (S,0,0)) none)):=by
 have hL:ev P (.loop (2+(hO H).length) [0] F_z_140_L0 [(0,.loc 0 0 0)] (heap3 z own H (.inr (S,0,0)) none))=some (.out (.exit 0) [] (heap3 z own H (.inr (S,0,0)) none)):=by
  rw [ev_loop]
  conv=>lhs;arg 4;unfold F_z_140_L0
  rcases H with _ | ⟨R,n⟩<;>simp [heap3,lk,hV,hO,qV,qO,kV,kO,reachC,cut,rg2,rg3,rg4,rg5,List.idxOf_cons]
 rw [ev_call P_z_140 rfl]
 rcases H with _ | ⟨R,n⟩<;>simp [heap3,lk,hV,hO,qV,qO,kV,kO] at hL <;>
  simp [F_z_140,hL,heap3,lk,hV,hO,qV,qO,kV,kO,reachC,cut,rg2,rg3,rg4,rg5,List.idxOf_cons,endH]
theorem ev_serve1 (z:Z) (own:Int) (H) (w:Sp.W) (r:List Sp.W) (h:own≠-1∨(w.op=55∧hlen H≠0)) :
  ev P (.call z_140 [.loc 0 0 0] (heap3 z own H (.inr ((w::r).map Sp.W.row,0,r.length+1)) none))=some (.val (.tu []) (heap3 z own H (.inr ((w::r).map Sp.W.row,0,r.length+1)) none)):=by
 have hW:=ev_writes z own H (.inr ((w::r).map Sp.W.row,0,r.length+1)) none
 have hF:=ev_free z own H (.inr ((w::r).map Sp.W.row,0,r.length+1)) none
 have hL:ev P (.loop (2+(hO H).length) [0] F_z_140_L0 [(0,.loc 0 0 0)] (heap3 z own H (.inr ((w::r).map Sp.W.row,0,r.length+1)) none))=some (.out (.exit 0) [] (heap3 z own H (.inr ((w::r).map Sp.W.row,0,r.length+1)) none)):=by
  rw [ev_loop]
  conv=>lhs;arg 4;unfold F_z_140_L0
  cases ho:own != -1
  ·have ho2:own = -1:=by simpa using ho
   subst ho2
   obtain ⟨h1,h2⟩:w.op=55∧hlen H≠0:=by simpa using h
   have h3:((hlen H:Int)==0)=false:=by simpa using h2
   rw [ho] at hW
   rw [h3] at hF
   rcases H with _ | ⟨R,n⟩<;>simp [heap3,lk,hV,hO,qV,qO,kV,kO,Sp.W.row,h1] at hW hF <;>
    simp [heap3,lk,hV,hO,qV,qO,kV,kO,reachC,cut,rg2,rg3,rg4,rg5,List.idxOf_cons,callR,hW,hF,h1,sub,setAll,back,Sp.W.row]
  ·rw [ho] at hW
   rcases H with _ | ⟨R,n⟩<;>simp [heap3,lk,hV,hO,qV,qO,kV,kO,Sp.W.row] at hW <;>
    simp [heap3,lk,hV,hO,qV,qO,kV,kO,reachC,cut,rg2,rg3,rg4,rg5,List.idxOf_cons,callR,hW,sub,setAll,back,Sp.W.row]
 rw [ev_call P_z_140 rfl]
 rcases H with _ | ⟨R,n⟩<;>simp [heap3,lk,hV,hO,qV,qO,kV,kO] at hL <;>
  simp [F_z_140,hL,heap3,lk,hV,hO,qV,qO,kV,kO,reachC,cut,rg2,rg3,rg4,rg5,List.idxOf_cons,endH]
def heapW (z:Z) (own:Int) (H:Option (List (List D)×Nat)) (S:List (List D)) (r:List Sp.W) (k:List D):List O :=
 lk z own (hV H 1) (qcV (1+(hO H).length) 1 r) (.asl (2+(hO H).length) 0 1)::(hO H++[.arrD 5 true S,.arrD 5 true [k]])
theorem ev_serve2 (z:Z) (H) (w:Sp.W) (r:List Sp.W) (h:w.op=55) (hH:hlen H=0) (ht:w.task≠-1) :
  ev P (.call z_140 [.loc 0 0 0] (heap3 z (-1) H (.inr ((w::r).map Sp.W.row,0,r.length+1)) none))=some (.val (.tu []) (heapW z w.task H ((w::r).map Sp.W.row) r (wk w))):=by
 have r1:1≤room:=by decide
 have ht2:(w.task != -1)=true:=by simpa using ht
 have hL:ev P (.loop (2+(hO H).length) [0] F_z_140_L0 [(0,.loc 0 0 0)] (heap3 z (-1) H (.inr ((w::r).map Sp.W.row,0,r.length+1)) none))=some (.out (.exit 0) [] (heapW z w.task H ((w::r).map Sp.W.row) r (wk w))):=by
  have hW:=ev_writes z (-1) H (.inr ((w::r).map Sp.W.row,0,r.length+1)) none
  have hF:=ev_free z (-1) H (.inr ((w::r).map Sp.W.row,0,r.length+1)) none
  have hFt:((-1:Int) == -1&&((hlen H:Nat):Int)==0)=true:=by rw [hH];decide
  rw [hFt] at hF
  cases r with
  | nil =>
   have hG:=ev_grantW z (-1) w.task H (.inl false) none
   rw [ev_loop]
   conv=>lhs;arg 4;unfold F_z_140_L0
   rcases H with _ | ⟨R,n⟩
   ·simp [heap3,lk,hV,hO,qV,qO,kV,kO,Sp.W.row,h] at hW hF hG
    simp [heap3,heapW,lk,hV,hO,qV,qO,kV,kO,qcV,reachC,cut,rg2,rg3,rg4,rg5,List.idxOf_cons,callR,hW,hF,hG,h,r1,sub,setAll,back,Sp.W.row,wk]
    rw [ev_loop]
    conv=>lhs;arg 4;unfold F_z_140_L0
    simp [reachC,cut,rg2,rg3,rg4,rg5,List.idxOf_cons]
   ·simp [heap3,lk,hV,hO,qV,qO,kV,kO,Sp.W.row,h] at hW hF hG
    simp [heap3,heapW,lk,hV,hO,qV,qO,kV,kO,qcV,reachC,cut,rg2,rg3,rg4,rg5,List.idxOf_cons,callR,hW,hF,hG,h,r1,sub,setAll,back,Sp.W.row,wk]
    rw [ev_loop]
    conv=>lhs;arg 4;unfold F_z_140_L0
    simp [reachC,cut,rg2,rg3,rg4,rg5,List.idxOf_cons]
  | cons w2 r =>
   have hG:=ev_grantW z (-1) w.task H (.inr ((w::w2::r).map Sp.W.row,1,r.length+1)) none
   have hW2:=ev_writes z w.task H (.inr ((w::w2::r).map Sp.W.row,1,r.length+1)) (some [wk w])
   rw [ht2] at hW2
   have q1:(0:Int)<r.length+1+1:=by omega
   have q2:(1:Int)≤r.length+1+1:=by omega
   have q3:(1:Int)<r.length+1+1:=by omega
   have q4:((r.length:Int)+1+1 - 1).toNat=r.length+1:=by omega
   rw [ev_loop]
   conv=>lhs;arg 4;unfold F_z_140_L0
   rcases H with _ | ⟨R,n⟩
   ·simp [heap3,lk,hV,hO,qV,qO,kV,kO,Sp.W.row,wk,h] at hW hF hG hW2
    simp [heap3,heapW,lk,hV,hO,qV,qO,kV,kO,qcV,reachC,cut,rg2,rg3,rg4,rg5,List.idxOf_cons,callR,hW,hF,hG,h,q1,q2,q3,q4,r1,sub,setAll,back,Sp.W.row,wk]
    rw [ev_loop]
    conv=>lhs;arg 4;unfold F_z_140_L0
    simp [reachC,cut,rg2,rg3,rg4,rg5,List.idxOf_cons,callR,hW2,sub,setAll,back]
   ·simp [heap3,lk,hV,hO,qV,qO,kV,kO,Sp.W.row,wk,h] at hW hF hG hW2
    simp [heap3,heapW,lk,hV,hO,qV,qO,kV,kO,qcV,reachC,cut,rg2,rg3,rg4,rg5,List.idxOf_cons,callR,hW,hF,hG,h,q1,q2,q3,q4,r1,sub,setAll,back,Sp.W.row,wk]
    rw [ev_loop]
    conv=>lhs;arg 4;unfold F_z_140_L0
    simp [reachC,cut,rg2,rg3,rg4,rg5,List.idxOf_cons,callR,hW2,sub,setAll,back]
 rw [ev_call P_z_140 rfl]
 cases r<;>rcases H with _ | ⟨R,n⟩<;>simp [heap3,heapW,lk,hV,hO,qV,qO,kV,kO,qcV,wk] at hL <;>
  simp [F_z_140,hL,heap3,heapW,lk,hV,hO,qV,qO,kV,kO,qcV,wk,reachC,cut,rg2,rg3,rg4,rg5,List.idxOf_cons,endH]
def hL:Option (List (List D)×Nat)→List Int→Prop
 | none,l=>l=[]
 | some (R,n),l=>n=l.length∧l.length≤R.length∧R.take l.length=rows1 l
theorem ev_serve3 (z:Z) (H) (l:List Int) (w:Sp.W) (r:List Sp.W) (h:w.op≠55) (hH:hL H l) (hA:Asc l) (h1:l.length≤1000) (h2:r.length≤1000) :
  ev P (.call z_140 [.loc 0 0 0] (heap3 z (-1) H (.inr ((w::r).map Sp.W.row,0,r.length+1)) none)) =
   some (.val (.tu []) (heapL z (-1) (hX H) ((w::r).map Sp.W.row) (1+(r.takeWhile fun w=>w.op != 55).length) (r.dropWhile fun w=>w.op != 55) (insA (insI w.task l) (r.takeWhile fun w=>w.op != 55)) (wk w::(r.takeWhile fun w=>w.op != 55).map wk))):=by
 have r1:1≤room:=by decide
 have ho2:(w.op==55)=false:=by simpa using h
 have hil:=insI_len w.task l
 have hG:=loop_serveG z (hX H) (by cases H;exact .inl rfl;exact .inr rfl) ((w::r).map Sp.W.row) r 1 (insI w.task l) [wk w] (asc_ins hA) (by omega) (by simp;omega) (by intro h;rw [h] at hil;simp at hil) (by simp) (by simp)
 have hL:ev P (.loop (2+(hO H).length) [0] F_z_140_L0 [(0,.loc 0 0 0)] (heap3 z (-1) H (.inr ((w::r).map Sp.W.row,0,r.length+1)) none)) =
   some (.out (.exit 0) [] (heapL z (-1) (hX H) ((w::r).map Sp.W.row) (1+(r.takeWhile fun w=>w.op != 55).length) (r.dropWhile fun w=>w.op != 55) (insA (insI w.task l) (r.takeWhile fun w=>w.op != 55)) (wk w::(r.takeWhile fun w=>w.op != 55).map wk))):=by
  have e1:[wk w]++(r.takeWhile fun w=>w.op != 55).map wk=wk w::(r.takeWhile fun w=>w.op != 55).map wk:=rfl
  rw [e1] at hG
  generalize some (Res.out (.exit 0) [] (heapL z (-1) (hX H) ((w::r).map Sp.W.row) (1+(r.takeWhile fun w=>w.op != 55).length) (r.dropWhile fun w=>w.op != 55) (insA (insI w.task l) (r.takeWhile fun w=>w.op != 55)) (wk w::(r.takeWhile fun w=>w.op != 55).map wk)))=RR at *
  have hW:=ev_writes z (-1) H (.inr ((w::r).map Sp.W.row,0,r.length+1)) none
  rcases H with _ | ⟨R,n⟩
  ·obtain rfl:l=[]:=hH
   have e0:insI w.task []=[w.task]:=rfl
   cases r with
   | nil =>
    have hGr:=ev_grant0 z (-1) w.task w.op (.inl false) none h
    simp [heap3,heapG,heapL,lk,hV,hO,hX,qV,qO,kV,kO,qcV,Sp.W.row,wk,e0] at hW hGr hG
    rw [ev_loop]
    conv=>lhs;arg 4;unfold F_z_140_L0
    simp [heap3,lk,hV,hO,qV,qO,kV,kO,reachC,cut,rg2,rg3,rg4,rg5,List.idxOf_cons,callR,hW,hGr,ho2,r1,sub,setAll,back,Sp.W.row]
    exact hG
   | cons w2 r =>
    have hGr:=ev_grant0 z (-1) w.task w.op (.inr ((w::w2::r).map Sp.W.row,1,r.length+1)) none h
    have q1:(0:Int)<r.length+1+1:=by omega
    have q2:(1:Int)≤r.length+1+1:=by omega
    have q3:(1:Int)<r.length+1+1:=by omega
    have q4:((r.length:Int)+1+1 - 1).toNat=r.length+1:=by omega
    simp [heap3,heapG,heapL,lk,hV,hO,hX,qV,qO,kV,kO,qcV,Sp.W.row,wk,e0] at hW hGr hG
    rw [ev_loop]
    conv=>lhs;arg 4;unfold F_z_140_L0
    simp [heap3,lk,hV,hO,qV,qO,kV,kO,reachC,cut,rg2,rg3,rg4,rg5,List.idxOf_cons,callR,hW,hGr,ho2,r1,q1,q2,q3,q4,sub,setAll,back,Sp.W.row]
    exact hG
  ·obtain ⟨rfl,hR,hT⟩:=hH
   cases r with
   | nil =>
    have hGr:=ev_grant1 z (-1) w.task w.op l R (.inl false) none h (by omega) hR hT hA
    simp [heap3,heapG,heapL,lk,hV,hO,hX,qV,qO,kV,kO,qcV,Sp.W.row,wk,hil] at hW hGr hG
    rw [ev_loop]
    conv=>lhs;arg 4;unfold F_z_140_L0
    simp [heap3,lk,hV,hO,qV,qO,kV,kO,reachC,cut,rg2,rg3,rg4,rg5,List.idxOf_cons,callR,hW,hGr,ho2,r1,sub,setAll,back,Sp.W.row]
    exact hG
   | cons w2 r =>
    have hGr:=ev_grant1 z (-1) w.task w.op l R (.inr ((w::w2::r).map Sp.W.row,1,r.length+1)) none h (by omega) hR hT hA
    have q1:(0:Int)<r.length+1+1:=by omega
    have q2:(1:Int)≤r.length+1+1:=by omega
    have q3:(1:Int)<r.length+1+1:=by omega
    have q4:((r.length:Int)+1+1 - 1).toNat=r.length+1:=by omega
    simp [heap3,heapG,heapL,lk,hV,hO,hX,qV,qO,kV,kO,qcV,Sp.W.row,wk,hil] at hW hGr hG
    rw [ev_loop]
    conv=>lhs;arg 4;unfold F_z_140_L0
    simp [heap3,lk,hV,hO,qV,qO,kV,kO,reachC,cut,rg2,rg3,rg4,rg5,List.idxOf_cons,callR,hW,hGr,ho2,r1,q1,q2,q3,q4,sub,setAll,back,Sp.W.row]
    exact hG
 generalize (r.takeWhile fun w=>w.op != 55)=tk at *
 generalize (r.dropWhile fun w=>w.op != 55)=dk at *
 rw [ev_call P_z_140 rfl]
 cases dk<;>rcases H with _ | ⟨R,n⟩<;>simp [heap3,heapL,lk,hV,hO,hX,qV,qO,kV,kO,qcV] at hL <;>
  simp [F_z_140,hL,heap3,heapL,lk,hV,hO,hX,qV,qO,kV,kO,qcV,reachC,cut,rg2,rg3,rg4,rg5,List.idxOf_cons,endH]
end Go.VS.R
namespace Go.VS.R
open Go.VS.Sp
def hS (n:Bool) (l:List Int):Option (List (List D)×Nat):=if n=true then none else some (rows1 l,l.length)
def qS (n:Bool) (q:List Sp.W):Bool ⊕ (List (List D)×Nat×Nat):=if n=true then .inl true else .inr (q.map Sp.W.row,0,q.length)
def lkD (z:Z) (own:Int):O:=.arrD 10 true [[I' own,z.c1,z.c2,.sl 1 true [],.sl 5 true [],z.c5,z.c6,z.c7,z.c8,.sl 5 true []]]
def heap0 (z:Z) (own:Int) (hn:Bool) (H:List Int) (qn:Bool) (Q:List Sp.W):List O:=if (hn&&qn)=true then [lkD z own] else heap3 z own (hS hn H) (qS qn Q) none
theorem ev_changed (z:Z) (own:Int) (hn:Bool) (H:List Int) (qn:Bool) (Q:List Sp.W) (h1:hn=true→H=[]) (h2:qn=true→Q=[]) (h3:H.length≤1000000) (h4:Q.length≤1000000) :
  ev P (.call z_133 [.d (.ag [I' own,z.c1,z.c2,hD hn H,qD qn Q,z.c5,z.c6,z.c7,z.c8])] [])=some (.val (.loc 0 0 0) (heap0 z own hn H qn Q)):=by
 have hC:=ev_CloneI hn H h1 h3
 have hD':=ev_Clone qn Q h2 h4
 rw [ev_call P_z_133 rfl]
 cases hn<;>cases qn<;>simp at hC hD' <;>
  simp [F_z_133,hC,hD',callD,mkRows,allDs,V.same_self,hS,qS,heap0,lkD,heap3,lk,hV,hO,qV,qO,kV,kO,reachC,cut,rg2,rg3,rg4,rg5,List.idxOf_cons,endH,overlay]
theorem hL_hS {n:Bool} {l:List Int} (h:n=true→l=[]):hL (hS n l) l:=by
 unfold hS hL
 cases n
 ·simp [rows1,take_map_len]
 ·simp [h rfl]
theorem hlen_hS {n:Bool} {l:List Int} (h:n=true→l=[]):hlen (hS n l)=l.length:=by
 unfold hS hlen
 cases n
 ·simp
 ·simp [h rfl]
def wbd (own:Int) (H:List Int) (w:Sp.W):Bool:=(w.op != 53&&w.op != 55)||w.value != 0||w.case != -1||hld own H w.task != 0
def qchk (own:Int) (H:List Int):List Sp.W→List Sp.W→Bool
 | _,[]=>true
 | pre,w::r=>!pre.any (fun x=>x.task==w.task)&&!wbd own H w&&qchk own H (pre++[w]) r
theorem fd_eq {pre:List Sp.W} {w:Sp.W} {r:List Sp.W}:((fdS (pre++w::r) w.task).1==(pre.length:Int))=!pre.any (fun x=>x.task==w.task):=by
 unfold fdS
 rw [List.findIdx?_append]
 cases h:pre.findIdx? (fun x=>x.task==w.task) with
 | none =>
  have:pre.any (fun x=>x.task==w.task)=false:=by
   rw [List.any_eq_false]
   rw [List.findIdx?_eq_none_iff] at h
   intro x hx
   rw [h x hx];decide
  rw [this]
  simp [List.findIdx?_cons]
 | some k =>
  obtain ⟨h1,h2⟩:=List.findIdx?_eq_some_iff_getElem.1 h
  have:pre.any (fun x=>x.task==w.task)=true:=List.any_eq_true.2 ⟨_,List.getElem_mem _,h2.1⟩
  rw [this]
  simp
  omega
theorem loop_queued (own:Int) (c1 c2 c5 c6 c7 c8:D) (hn:Bool) (H:List Int) (qn:Bool) (Q:List Sp.W) (h3:H.length≤1000000) (h4:Q.length≤1000000):∀(suf pre:List Sp.W),Q=pre++suf →
  ev P (.loop 0 [1,13,14,15] F_z_213_L0 [(1,.d (.ref [I' own,c1,c2,hD hn H,qD qn Q,c5,c6,c7,c8])),(13,.d (qD qn Q)),(14,.d (I' Q.length)),(15,.d (I' pre.length))] []) =
   if qchk own H pre suf=true then some (.out (.exit 0) [(1,.d (.ref [I' own,c1,c2,hD hn H,qD qn Q,c5,c6,c7,c8]))] []) else some (.out .ret [(2,.d (.b false))] []):=by
 intro suf
 induction suf with
 | nil =>
  intro pre hl
  have:Q.length=pre.length:=by simp [hl]
  rw [ev_loop]
  conv=>lhs;arg 4;unfold F_z_213_L0
  simp [this,qchk]
 | cons w suf ih =>
  intro pre hl
  have hg:Q[pre.length]?=some w:=by simp [hl]
  have hlt:(pre.length:Int)<Q.length:=by simp [hl];omega
  have hnext:IntKind.i64.wrap ((pre.length:Int)+1)=pre.length+1:=wrap_i64 (by omega) (by omega)
  have ih':=ih (pre++[w]) (by simp [hl])
  have hF:=ev_wFind qn Q w.task h4
  have hH:=ev_holds own c1 c2 (qD qn Q) c5 c6 c7 c8 hn H w.task h3
  have hfe:((fdS Q w.task).1==(pre.length:Int))=!pre.any (fun x=>x.task==w.task):=by rw [hl];exact fd_eq
  have e1:qchk own H pre (w::suf)=(!pre.any (fun x=>x.task==w.task)&&!wbd own H w&&qchk own H (pre++[w]) suf):=rfl
  rw [e1]
  generalize qchk own H (pre++[w]) suf=dd at *
  generalize (fdS Q w.task).1=fi at *
  generalize (fdS Q w.task).2=fb at *
  simp at ih'
  rw [ev_loop]
  conv=>lhs;arg 4;unfold F_z_213_L0
  cases ha:pre.any (fun x=>x.task==w.task)
  ·rw [ha] at hfe
   have hfe2:(fi != (pre.length:Int))=false:=by simp [bne,hfe]
   cases hb:((w.op != 53&&w.op != 55)||w.value != 0||w.case != -1||hld own H w.task != 0)
   ·have hb2:wbd own H w=false:=hb
    have p1:(w.op != 53&&w.op != 55)=false:=by cases h:(w.op != 53&&w.op != 55)<;>simp_all
    have p2:(w.value != 0)=false:=by cases h:(w.value != 0)<;>simp_all
    have p3:(w.case != -1)=false:=by cases h:(w.case != -1)<;>simp_all
    have p4:(hld own H w.task != 0)=false:=by cases h:(hld own H w.task != 0)<;>simp_all
    simp [hlt,hg,Sp.W.row,hF,hfe2,hH,p1,p2,p3,p4,hnext,hb2]
    exact ih'
   ·have hb2:wbd own H w=true:=hb
    simp [hlt,hg,Sp.W.row,hF,hfe2,hH,hb,hb2]
  ·rw [ha] at hfe
   have hfe2:(fi != (pre.length:Int))=true:=by simp [bne,hfe]
   simp [hlt,hg,Sp.W.row,hF,hfe2]
def stay (own:Int) (H:List Int):List Sp.W→Bool
 | []=>true
 | w::_=>own != -1||(w.op==55&&!H.isEmpty)
theorem wchk_zero {Q:List Sp.W} (h:wchk Q=0):Q.length≤96∧∀w,w∈Q→wvalid w=true:=by
 unfold wchk at h
 by_cases h1:96<Q.length
 ·rw [if_pos h1] at h;cases h
 ·rw [if_neg h1] at h
  refine ⟨by omega,?_⟩
  have:∀(l:List Sp.W) (p:Option Sp.W),wcheckFrom 1 p l=0→∀w,w∈l→wvalid w=true:=by
   intro l
   induction l with
   | nil=>simp
   | cons a r ih =>
    intro p h w hw
    unfold wcheckFrom at h
    cases hv:wvalid a
    ·rw [hv] at h;simp at h
    ·rw [hv] at h
     simp at h
     rcases List.mem_cons.1 hw with e | hw
     ·rw [e];exact hv
     ·exact ih _ h w hw
  exact this Q none h
theorem wvalid_task {w:Sp.W} (h:wvalid w=true):0≤w.task∧w.task<16:=by
 unfold wvalid wbad at h
 simp at h
 omega
theorem ev_queued (z:Z) (own:Int) (hn:Bool) (H:List Int) (qn:Bool) (Q:List Sp.W) (h1:hn=true→H=[]) (h2:qn=true→Q=[]) (h3:H.length≤1000) (h4:Q.length≤1000000) (hA:Asc H) :
  ev P (.call z_213 [.d (.ag [I' own,z.c1,z.c2,hD hn H,qD qn Q,z.c5,z.c6,z.c7,z.c8])] [])=some (.val (.d (.b (wchk Q==0&&(qchk own H [] Q&&stay own H Q)))) []):=by
 have hW:=ev_wCheck qn Q
 have hL:=loop_queued own z.c1 z.c2 z.c5 z.c6 z.c7 z.c8 hn H qn Q (by omega) h4 Q [] rfl
 have hCh:=ev_changed z own hn H qn Q h1 h2 (by omega) h4
 have hll:=hlen_hS h1
 have hLS:=hL_hS h1
 rw [ev_call P_z_213 rfl]
 cases hw:wchk Q==0
 ·have hw2:(wchk Q != 0)=true:=by simp [bne,hw]
  simp [F_z_213,hW,hw2]
 ·have hw2:(wchk Q != 0)=false:=by simp [bne,hw]
  obtain ⟨hq1,hq2⟩:=wchk_zero (by simpa using hw)
  cases hq:qchk own H [] Q
  ·rw [hq] at hL
   simp at hL
   simp [F_z_213,hW,hw2,hL]
  ·rw [hq] at hL
   simp at hL
   cases Q with
   | nil =>
    simp at hL
    simp [F_z_213,hW,hw2,hL,stay]
   | cons w r =>
    simp at hL
    have hqn:qn=false:=by cases qn;rfl;exact absurd (h2 rfl) (by simp)
    subst hqn
    have qe:qS false (w::r) = .inr ((w::r).map Sp.W.row,0,r.length+1):=by simp [qS]
    have z1:¬((r.length:Int)+1=0):=by omega
    have z2:((r.length:Int)+1==0)=false:=by simp;omega
    have hwt:=wvalid_task (hq2 w (by simp))
    have hh0:heap0 z own hn H false (w::r)=heap3 z own (hS hn H) (.inr ((w::r).map Sp.W.row,0,r.length+1)) none:=by simp [heap0,qe]
    rw [hh0] at hCh
    by_cases hs:own≠-1∨(w.op=55∧hlen (hS hn H)≠0)
    ·have hst:stay own H (w::r)=true:=by
      unfold stay
      rw [hll] at hs
      rcases hs with hs | ⟨hs1,hs2⟩
      ·simp [hs]
      ·simp [hs1];right;intro h;rw [h] at hs2;exact hs2 rfl
     have hSv:=ev_serve1 z own (hS hn H) w r hs
     rw [hst]
     cases hn
     ·simp [hS,heap3,lk,hV,hO,qV,qO,kV,kO] at hCh hSv
      simp [F_z_213,hW,hw2,hL,z1,z2,hCh,callD,callR,hSv,reachC,cut,rg2,rg3,rg4,rg5,List.idxOf_cons,sub,setAll,back]
     ·simp [hS,heap3,lk,hV,hO,qV,qO,kV,kO] at hCh hSv
      simp [F_z_213,hW,hw2,hL,z1,z2,hCh,callD,callR,hSv,reachC,cut,rg2,rg3,rg4,rg5,List.idxOf_cons,sub,setAll,back]
    ·have ho:own = -1:=Classical.byContradiction fun h=>hs (.inl h)
     subst ho
     have hst:stay (-1) H (w::r)=false:=by
      unfold stay
      simp
      intro h
      have:hlen (hS hn H)=0:=Classical.byContradiction fun h'=>hs (.inr ⟨h,h'⟩)
      rw [hll] at this
      exact List.length_eq_zero_iff.1 this
     rw [hst]
     by_cases h55:w.op=55
     ·have hh1:hlen (hS hn H)=0:=Classical.byContradiction fun h'=>hs (.inr ⟨h55,h'⟩)
      have hSv:=ev_serve2 z (hS hn H) w r h55 hh1 (by omega)
      cases hn
      ·cases r with
       | nil =>
        simp at hL
        simp [hS,heap3,heapW,lk,hV,hO,qV,qO,kV,kO,qcV] at hCh hSv
        simp [F_z_213,hW,hw2,hL,z1,z2,hCh,callD,callR,hSv,reachC,cut,rg2,rg3,rg4,rg5,List.idxOf_cons,sub,setAll,back]
       | cons w2 r =>
        simp at hL
        have z5:((r.length:Int)+1+1==0)=false:=by simp;omega
        have z6:¬((r.length:Int)+1+1=0):=by omega
        simp [hS,heap3,heapW,lk,hV,hO,qV,qO,kV,kO,qcV] at hCh hSv
        simp [F_z_213,hW,hw2,hL,z5,z6,hCh,callD,callR,hSv,reachC,cut,rg2,rg3,rg4,rg5,List.idxOf_cons,sub,setAll,back]
      ·cases r with
       | nil =>
        simp at hL
        simp [hS,heap3,heapW,lk,hV,hO,qV,qO,kV,kO,qcV] at hCh hSv
        simp [F_z_213,hW,hw2,hL,z1,z2,hCh,callD,callR,hSv,reachC,cut,rg2,rg3,rg4,rg5,List.idxOf_cons,sub,setAll,back]
       | cons w2 r =>
        simp at hL
        have z5:((r.length:Int)+1+1==0)=false:=by simp;omega
        have z6:¬((r.length:Int)+1+1=0):=by omega
        simp [hS,heap3,heapW,lk,hV,hO,qV,qO,kV,kO,qcV] at hCh hSv
        simp [F_z_213,hW,hw2,hL,z5,z6,hCh,callD,callR,hSv,reachC,cut,rg2,rg3,rg4,rg5,List.idxOf_cons,sub,setAll,back]
     ·have hSv:=ev_serve3 z (hS hn H) H w r h55 hLS hA h3 (by simp at hq1;omega)
      generalize (r.takeWhile fun w=>w.op != 55)=tk at *
      generalize (r.dropWhile fun w=>w.op != 55)=dk at *
      have z3:¬((tk.length:Int)+1=0):=by omega
      have z4:((tk.length:Int)+1==0)=false:=by simp;omega
      cases hn<;>cases dk <;>
      ·simp [hS,heap3,heapL,lk,hV,hO,hX,qV,qO,kV,kO,qcV] at hCh hSv
       simp [F_z_213,hW,hw2,hL,z1,z2,z3,z4,hCh,callD,callR,hSv,reachC,cut,rg2,rg3,rg4,rg5,List.idxOf_cons,sub,setAll,back]
end Go.VS.R
namespace Go.VS.R
open Go.VS.Sp
theorem nil_or_snoc {α:Type} (l:List α):l=[]∨∃a x,l=a++[x]:=by
 rcases List.eq_nil_or_concat l with h | ⟨a,x,h⟩
 ·exact .inl h
 ·exact .inr ⟨a,x,by simpa using h⟩
def vh:List Int→List Int→Bool
 | _,[]=>true
 | pre,x::r=>!(!isTask x||pre.getLast?.any (fun y=>decide (x≤y)))&&vh (pre++[x]) r
theorem loop_valid (own:Int) (c1 c2 c5 c6 c7 c8 qd:D) (hn:Bool) (H:List Int) (h3:H.length≤1000000):∀(suf pre:List Int),H=pre++suf →
  ev P (.loop 0 [1,52,53,54] F_z_130_L0 [(1,.d (.ref [I' own,c1,c2,hD hn H,qd,c5,c6,c7,c8])),(52,.d (hD hn H)),(53,.d (I' H.length)),(54,.d (I' pre.length))] []) =
   if vh pre suf=true then some (.out (.exit 0) [(1,.d (.ref [I' own,c1,c2,hD hn H,qd,c5,c6,c7,c8]))] []) else some (.out .ret [(2,.d (.b false))] []):=by
 intro suf
 induction suf with
 | nil =>
  intro pre hl
  have:H.length=pre.length:=by simp [hl]
  rw [ev_loop]
  conv=>lhs;arg 4;unfold F_z_130_L0
  simp [this,vh]
 | cons x suf ih =>
  intro pre hl
  have hg:H[pre.length]?=some x:=by simp [hl]
  have hlt:(pre.length:Int)<H.length:=by simp [hl];omega
  have hnext:IntKind.i64.wrap ((pre.length:Int)+1)=pre.length+1:=wrap_i64 (by omega) (by omega)
  have ih':=ih (pre++[x]) (by simp [hl])
  have e1:vh pre (x::suf)=(!(!isTask x||pre.getLast?.any (fun y=>decide (x≤y)))&&vh (pre++[x]) suf):=rfl
  rw [e1]
  generalize vh (pre++[x]) suf=dd at *
  simp at ih'
  rw [ev_loop]
  conv=>lhs;arg 4;unfold F_z_130_L0
  cases ht:isTask x
  ·simp [hlt,hg,ev_isTask,ht]
  ·rcases nil_or_snoc pre with rfl | ⟨pre',p,rfl⟩
   ·have h0:0<H.length:=by simp [hl]
    have hg0:∀h:0<H.length,H[0]=x:=fun h=>by simpa [List.getElem?_eq_getElem h] using hg
    simp at ih'
    simp [h0,hg0,ev_isTask,ht,wrap1]
    exact ih'
   ·have hgp:H[pre'.length]?=some p:=by simp [hl]
    have hlt2:(pre'.length:Int)+1<H.length:=by simpa using hlt
    have hw2:IntKind.i64.wrap (pre'.length:Int)=pre'.length:=wrap_i64 (by omega) (by omega)
    have h0:(0:Int)<pre'.length+1:=by omega
    have h1:(0:Int)≤pre'.length+1:=by omega
    have hn2:IntKind.i64.wrap ((pre'.length:Int)+1+1)=pre'.length+1+1:=wrap_i64 (by omega) (by omega)
    simp only [List.length_append,List.length_singleton] at hg
    simp at ih'
    by_cases hp:x≤p
    ·simp [hlt2,hg,hgp,hw2,h0,h1,ev_isTask,ht,hp]
    ·simp [hlt2,hg,hgp,hw2,h0,h1,ev_isTask,ht,hp,hn2]
     exact ih'
def flA (own cnt time:Int) (H B:List Int) (C:List (List D)) (cl:Bool) (val:Int):Bool :=
 own != -1&&(!isTask own||decide (0<H.length))||cnt != 0||time != 0||decide (0<B.length)||decide (0<C.length)||cl||val != 0
def mvalid (own cnt time:Int) (H:List Int) (Q:List Sp.W) (B:List Int) (C:List (List D)) (cl:Bool) (val:Int):Bool :=
 !flA own cnt time H B C cl val&&(vh [] H&&(wchk Q==0&&(qchk own H [] Q&&stay own H Q)))
theorem vh_asc:∀{suf pre:List Int},Asc pre→(∀x,x∈pre→∀y,y∈pre.getLast?→x≤y)→vh pre suf=true→Asc (pre++suf)
 | [],pre,hA,_,_=>by simpa using hA
 | x::r,pre,hA,hm,h=>by
  have e1:vh pre (x::r)=(!(!isTask x||pre.getLast?.any (fun y=>decide (x≤y)))&&vh (pre++[x]) r):=rfl
  rw [e1] at h
  simp at h
  obtain ⟨⟨_,h2⟩,h3⟩:=h
  have hx:∀y,y∈pre→y≤x:=by
   intro y hy
   cases hp:pre.getLast? with
   | none =>
    have:pre=[]:=by simpa using hp
    rw [this] at hy;cases hy
   | some p =>
    have:=hm y hy p (by simp [hp])
    have:=List.any_eq_false.1 (by simpa [hp] using h2:([p]:List Int).any (fun y=>decide (x≤y))=false) p (by simp)
    simp at this
    omega
  have hA':Asc (pre++[x]):=by
   unfold Asc
   rw [List.pairwise_append]
   exact ⟨hA,List.pairwise_singleton _ _,fun a ha b hb=>by simp at hb;rw [hb];exact hx a ha⟩
  have:=vh_asc hA' (by
   intro y hy p hp
   simp at hp
   subst hp
   simp at hy
   rcases hy with hy | hy
   ·exact hx y hy
   ·omega) h3
  simpa using this
theorem vh_asc0 {H:List Int} (h:vh [] H=true):Asc H:=by
 have:=vh_asc (pre:=[]) (suf:=H) List.Pairwise.nil (by simp) h
 simpa using this
theorem ev_mvalid (own cnt time:Int) (hn:Bool) (H:List Int) (qn:Bool) (Q:List Sp.W) (bn:Bool) (B:List Int) (cn:Bool) (C:List (List D)) (cl:Bool) (val:Int)
  (hh:hn=true→H=[]) (hq:qn=true→Q=[]) (h1:H.length≤1000) (h2:Q.length≤1000000) :
  ev P (.call z_130 [.d (.ag [I' own,I' cnt,I' time,hD hn H,qD qn Q,hD bn B,cD cn C,.b cl,I' val])] [])=some (.val (.d (.b (mvalid own cnt time H Q B C cl val))) []):=by
 have hL:=loop_valid own (I' cnt) (I' time) (hD bn B) (cD cn C) (.b cl) (I' val) (qD qn Q) hn H (by omega) H [] rfl
 simp at hL
 rw [ev_call P_z_130 rfl]
 unfold mvalid
 simp [F_z_130,ev_isTask]
 cases hA:(own != -1&&(!isTask own||decide (0<H.length))||cnt != 0||time != 0||decide (0<B.length)||decide (0<C.length)||cl||val != 0)
 ·have hF:flA own cnt time H B C cl val=false:=hA
  rw [hF]
  cases hv:vh [] H
  ·rw [hv] at hL
   simp at hL
   simp [hL]
  ·rw [hv] at hL
   simp at hL
   have hQ:=ev_queued ⟨I' cnt,I' time,hD bn B,cD cn C,.b cl,I' val⟩ own hn H qn Q hh hq h1 h2 (vh_asc0 hv)
   simp only at hQ
   have e2:(!false&&(true&&(wchk Q==0&&(qchk own H [] Q&&stay own H Q))))=(wchk Q==0&&(qchk own H [] Q&&stay own H Q)):=by simp
   rw [e2]
   generalize (wchk Q==0&&(qchk own H [] Q&&stay own H Q))=R at *
   simp [hL,hQ]
 ·have hF:flA own cnt time H B C cl val=true:=hA
  rw [hF]
  simp
theorem ev_mCheck (nm:D) (k sz ot:Int) (own cnt time:Int) (hn:Bool) (H:List Int) (qn:Bool) (Q:List Sp.W) (bn:Bool) (B:List Int) (cn:Bool) (C:List (List D)) (cl:Bool) (val:Int)
  (hh:hn=true→H=[]) (hq:qn=true→Q=[]) (h1:H.length≤1000) (h2:Q.length≤1000000) :
  ev P (.call z_68 [.d (.ag [nm,I' k,I' sz,I' ot]),.d (.ag [I' own,I' cnt,I' time,hD hn H,qD qn Q,hD bn B,cD cn C,.b cl,I' val])] []) =
   some (.val (.d (I' (if mnew k sz ot=0 then (if mvalid own cnt time H Q B C cl val then 0 else 1) else mnew k sz ot))) []):=by
 have hv:=ev_mvalid own cnt time hn H qn Q bn B cn C cl val hh hq h1 h2
 rw [ev_call P_z_68 rfl]
 cases hm:mnew k sz ot==0
 ·have hm':mnew k sz ot≠0:=by simpa using hm
  have hm2:(mnew k sz ot != 0)=true:=by simpa using hm'
  simp [F_z_68,ev_mNew,hm',hm2,zrow]
 ·have hm':mnew k sz ot=0:=by simpa using hm
  simp [F_z_68,ev_mNew,hm',frow,hv]
  cases mvalid own cnt time H Q B C cl val<;>simp
end Go.VS.R
namespace Go.VS.R
open Go.VS.Sp
end Go.VS.R
namespace Go.VS.R
open Go.VS.Sp
theorem take_snoc_map {α β:Type} {f:α→β} {l:List α} {x:β}:List.take (l.length+1) (l.map f++[x])=l.map f++[x]:=List.take_of_length_le (by simp)
end Go.VS.R
namespace Go.VS.R
open Go.VS.Sp
abbrev rpD (z:Z) (own:Int) (hn:Bool) (H:List Int) (qn:Bool) (Q:List Sp.W) (parked:Bool) (ok:Bool) (kn:Bool) (k:List (List D)):D :=
 .ag [I' own,z.c1,z.c2,hD hn H,qD qn Q,z.c5,z.c6,z.c7,z.c8,.b parked,I' 0,.b ok,.sl 5 kn k]
end Go.VS.R
namespace Go.VS.R
open Go.VS.Sp
theorem ev_writesD (z:Z) (own:Int):ev P (.call z_136 [.loc 0 0 0] [lkD z own])=some (.val (.d (.b (own != -1))) [lkD z own]):=by
 rw [ev_call P_z_136 rfl]
 simp [F_z_136,lkD,reachC,cut,endH]
theorem ev_freeD (z:Z) (own:Int):ev P (.call z_135 [.loc 0 0 0] [lkD z own])=some (.val (.d (.b (own == -1))) [lkD z own]):=by
 have hW:=ev_writesD z own
 unfold lkD at *
 rw [ev_call P_z_135 rfl]
 cases ho:own == -1
 ·have ho2:(own != -1)=true:=by simp [bne,ho]
  rw [ho2] at hW
  simp [F_z_135,reachC,cut,endH,callR,sub,setAll,back,hW]
 ·have ho2:(own != -1)=false:=by simp [bne,ho]
  rw [ho2] at hW
  simp [F_z_135,reachC,cut,endH,callR,sub,setAll,back,hW]
theorem ev_grantWD (z:Z) (own t:Int):ev P (.call z_216 [.loc 0 0 0,.d (I' t),.d (I' 55)] [lkD z own])=some (.val (.tu []) [lkD z t]):=by
 rw [ev_call P_z_216 rfl]
 simp [F_z_216,lkD,reachC,cut,endH,overlay]
theorem ev_grant0D (z:Z) (own t o:Int) (ho:o≠55):ev P (.call z_216 [.loc 0 0 0,.d (I' t),.d (I' o)] [lkD z own])=some (.val (.tu []) (heapG z own none (.inl true) none [[I' t]])):=by
 have hI:=ev_prim P_z_263 (p:=insP 1) rfl
 have ho2:(o==55)=false:=by simpa using ho
 have r1:1≤room:=by decide
 rw [ev_call P_z_216 rfl]
 simp [F_z_216,ho2,ev_BS0,hI,insP,insRows,r1,lkD,heapG,lk,hV,hO,hX,qV,qO,kV,kO,callR,sub,setAll,back,reachC,cut,rg2,rg3,rg4,rg5,List.idxOf_cons,endH,overlay]
theorem ev_serveD (z:Z) (own:Int):ev P (.call z_140 [.loc 0 0 0] [lkD z own])=some (.val (.tu []) [lkD z own]):=by
 have hL:ev P (.loop 1 [0] F_z_140_L0 [(0,.loc 0 0 0)] [lkD z own])=some (.out (.exit 0) [] [lkD z own]):=by
  rw [ev_loop]
  conv=>lhs;arg 4;unfold F_z_140_L0
  simp [lkD,reachC,cut]
 rw [ev_call P_z_140 rfl]
 simp [lkD] at hL
 simp [F_z_140,hL,lkD,reachC,cut,endH]
structure Rp where
 own:Int
 H:List Int
 Q:List Sp.W
 parked:Bool
 ok:Bool
 k:List Sp.W
 e:Int
def zr (e:Int):Rp:=⟨0,[],[],false,false,[],e⟩
def zZ (bn cn:Bool):Z:=⟨I' 0,I' 0,hD bn [],cD cn [],.b false,I' 0⟩
def Rets (x:Option Res) (r:Rp):Prop:=∃bn cn hn qn kn,x=some (.val (.tu [.d (rpD (zZ bn cn) r.own hn r.H qn r.Q r.parked r.ok kn (r.k.map wk)),.d (I' r.e)]) [])∧(hn=true→r.H=[])∧(qn=true→r.Q=[])
def srvM (own:Int) (H:List Int):List Sp.W→Int×List Int×List Sp.W×List Sp.W
 | []=>(own,H,[],[])
 | w::r =>
  if own≠-1∨(w.op=55∧H≠[]) then (own,H,w::r,[])
  else if w.op=55 then (w.task,H,r,[w])
  else (own,insA (insI w.task H) (r.takeWhile fun w=>w.op != 55),r.dropWhile fun w=>w.op != 55,w::r.takeWhile fun w=>w.op != 55)
def badC (t p n:Int):Bool:=!isTask t||decide (p<0)||decide (9<p)||decide (n<0)||decide (1099511627776<n)
def posB (own:Int) (H:List Int) (Q:List Sp.W) (o:Int):Bool:=if o=53 then own == -1&&Q.isEmpty else own == -1&&H.isEmpty
def lockS (own:Int) (H:List Int) (Q:List Sp.W) (t o p:Int):Rp :=
 if posB own H Q o=true then (if o=55 then ⟨t,H,Q,false,true,[],0⟩ else ⟨own,insI t H,Q,false,true,[],0⟩) else ⟨own,H,Q++[⟨t,o,0,p,-1⟩],true,false,[],0⟩
def apV (own:Int) (H:List Int) (Q:List Sp.W) (t o p n:Int):Rp :=
 if badC t p n=true then zr 2
 else if (decide (o<53)||decide (56<o))=true then zr 8
 else if (Q.any fun w=>w.task==t)=true then zr 17
 else if o=53∨o=55 then
  if hld own H t≠0 then zr 17
  else lockS own H Q t o p
 else if o=54 then
  if hld own H t≠1 then zr 20
  else let x:=srvM own (H.filter fun x=>x != t) Q;⟨x.1,x.2.1,x.2.2.1,false,true,x.2.2.2,0⟩
 else
  if hld own H t≠2 then zr 20
  else let x:=srvM (-1) H Q;⟨x.1,x.2.1,x.2.2.1,false,true,x.2.2.2,0⟩
abbrev stD (z:Z) (own:Int) (hn:Bool) (H:List Int) (qn:Bool) (Q:List Sp.W):D:=.ag [I' own,z.c1,z.c2,hD hn H,qD qn Q,z.c5,z.c6,z.c7,z.c8]
theorem Rets.zero {x:Option Res} {e:Int} (h:x=some (.val (.tu [.d (.ag [I' 0,I' 0,I' 0,.sl 1 true [],.sl 5 true [],.sl 1 true [],.sl 2 true [],.b false,I' 0,.b false,I' 0,.b false,.sl 5 true []]),.d (I' e)]) [])):Rets x (zr e) :=
 ⟨true,true,true,true,true,h,fun _=>rfl,fun _=>rfl⟩
theorem ev_applyE (o2:D) (bn cn:Bool) (own:Int) (hn:Bool) (H:List Int) (qn:Bool) (Q:List Sp.W) (t o v p n:Int) (h1:hn=true→H=[]) (h2:qn=true→Q=[]) (h3:H.length≤1000) (h4:Q.length≤1000)
  (hC:ev P (.call z_68 [.d o2,.d (stD (zZ bn cn) own hn H qn Q)] [])=some (.val (.d (I' 0)) [])) (ho2:∃a b c d,o2 = .ag [a,b,c,d]) :
  (badC t p n=true→Rets (ev P (.call z_69 [.d o2,.d (stD (zZ bn cn) own hn H qn Q),.d (.ag [I' t,I' o,I' v,I' p,I' n])] [])) (zr 2)) ∧
  (badC t p n=false→(decide (o<53)||decide (56<o))=true→Rets (ev P (.call z_69 [.d o2,.d (stD (zZ bn cn) own hn H qn Q),.d (.ag [I' t,I' o,I' v,I' p,I' n])] [])) (zr 8)) ∧
  (badC t p n=false→(decide (o<53)||decide (56<o))=false→(Q.any fun w=>w.task==t)=true→Rets (ev P (.call z_69 [.d o2,.d (stD (zZ bn cn) own hn H qn Q),.d (.ag [I' t,I' o,I' v,I' p,I' n])] [])) (zr 17)) ∧
  (badC t p n=false→(decide (o<53)||decide (56<o))=false→(Q.any fun w=>w.task==t)=false→(o=53∨o=55)→hld own H t≠0→Rets (ev P (.call z_69 [.d o2,.d (stD (zZ bn cn) own hn H qn Q),.d (.ag [I' t,I' o,I' v,I' p,I' n])] [])) (zr 17)) ∧
  (badC t p n=false→(decide (o<53)||decide (56<o))=false→(Q.any fun w=>w.task==t)=false→o=54→hld own H t≠1→Rets (ev P (.call z_69 [.d o2,.d (stD (zZ bn cn) own hn H qn Q),.d (.ag [I' t,I' o,I' v,I' p,I' n])] [])) (zr 20)) ∧
  (badC t p n=false→(decide (o<53)||decide (56<o))=false→(Q.any fun w=>w.task==t)=false→o=56→hld own H t≠2→Rets (ev P (.call z_69 [.d o2,.d (stD (zZ bn cn) own hn H qn Q),.d (.ag [I' t,I' o,I' v,I' p,I' n])] [])) (zr 20)):=by
 obtain ⟨a,b,c,d,rfl⟩:=ho2
 have hF:=ev_wFind qn Q t (by omega)
 have hCh:=ev_changed (zZ bn cn) own hn H qn Q h1 h2 (by omega) (by omega)
 have hH:=ev_holds own (I' 0) (I' 0) (qD qn Q) (hD bn []) (cD cn []) (.b false) (I' 0) hn H t (by omega)
 rw [fd_any] at hF
 generalize (fdS Q t).1=fi at *
 simp only [zZ] at *
 refine ⟨fun hb=>Rets.zero ?_,fun hb hr=>Rets.zero ?_,fun hb hr hq=>Rets.zero ?_,fun hb hr hq ho hh=>Rets.zero ?_,fun hb hr hq ho hh=>Rets.zero ?_,fun hb hr hq ho hh=>Rets.zero ?_⟩
 ·rw [ev_call P_z_69 rfl]
  unfold badC at hb
  simp [F_z_69,hC,ev_isTask,hb,overlay]
 ·rw [ev_call P_z_69 rfl]
  unfold badC at hb
  simp [F_z_69,hC,ev_isTask,hb,hr,overlay]
 ·rw [ev_call P_z_69 rfl]
  unfold badC at hb
  rw [hq] at hF
  simp [F_z_69,hC,ev_isTask,hb,hr,hF,overlay]
 ·rw [ev_call P_z_69 rfl]
  unfold badC at hb
  rw [hq] at hF
  have hh2:(hld own H t != 0)=true:=by simpa using hh
  rcases ho with rfl | rfl
  ·simp [F_z_69,hC,ev_isTask,hb,hr,hF,callD,hCh,hH,hh2,overlay]
  ·simp [F_z_69,hC,ev_isTask,hb,hr,hF,callD,hCh,hH,hh2,overlay]
 ·rw [ev_call P_z_69 rfl]
  unfold badC at hb
  rw [hq] at hF
  have hh2:(hld own H t != 1)=true:=by simpa using hh
  subst ho
  simp [F_z_69,hC,ev_isTask,hb,hr,hF,callD,hCh,hH,hh2,overlay]
 ·rw [ev_call P_z_69 rfl]
  unfold badC at hb
  rw [hq] at hF
  have hh2:(hld own H t != 2)=true:=by simpa using hh
  subst ho
  simp [F_z_69,hC,ev_isTask,hb,hr,hF,callD,hCh,hH,hh2,overlay]
end Go.VS.R
namespace Go.VS.R
open Go.VS.Sp
theorem ev_free0 (z:Z) (own:Int) (hn:Bool) (H:List Int) (qn:Bool) (Q:List Sp.W) (h1:hn=true→H=[]) (h2:qn=true→Q=[]) :
  ev P (.call z_135 [.loc 0 0 0] (heap0 z own hn H qn Q))=some (.val (.d (.b (own == -1&&(H.length:Int)==0))) (heap0 z own hn H qn Q)):=by
 unfold heap0
 by_cases h:(hn&&qn)=true
 ·rw [if_pos h]
  have:H=[]:=h1 (by simp at h;exact h.1)
  rw [this,ev_freeD];simp
 ·rw [if_neg h]
  rw [ev_free,hlen_hS h1]
theorem ev_writes0 (z:Z) (own:Int) (hn:Bool) (H:List Int) (qn:Bool) (Q:List Sp.W) :
  ev P (.call z_136 [.loc 0 0 0] (heap0 z own hn H qn Q))=some (.val (.d (.b (own != -1))) (heap0 z own hn H qn Q)):=by
 unfold heap0
 by_cases h:(hn&&qn)=true
 ·rw [if_pos h,ev_writesD]
 ·rw [if_neg h,ev_writes]
theorem ev_grantW0 (z:Z) (own t:Int) (hn:Bool) (H:List Int) (qn:Bool) (Q:List Sp.W) :
  ev P (.call z_216 [.loc 0 0 0,.d (I' t),.d (I' 55)] (heap0 z own hn H qn Q))=some (.val (.tu []) (heap0 z t hn H qn Q)):=by
 unfold heap0
 by_cases h:(hn&&qn)=true
 ·rw [if_pos h,if_pos h,ev_grantWD]
 ·rw [if_neg h,if_neg h,ev_grantW]
theorem ev_grantR0 (z:Z) (own t o:Int) (hn:Bool) (H:List Int) (qn:Bool) (Q:List Sp.W) (ho:o≠55) (h1:hn=true→H=[]) (h2:qn=true→Q=[]) (h3:H.length≤1000000) (hA:Asc H) :
  ev P (.call z_216 [.loc 0 0 0,.d (I' t),.d (I' o)] (heap0 z own hn H qn Q))=some (.val (.tu []) (heapG z own (hS hn H) (qS qn Q) none (rows1 (insI t H)))):=by
 unfold heap0
 cases hn
 ·have e:hS false H=some (rows1 H,H.length):=rfl
  simp only [Bool.false_and,Bool.false_eq_true,if_false,e]
  exact ev_grant1 z own t o H (rows1 H) (qS qn Q) none ho h3 (by simp) (by simp [rows1,take_map_len]) hA
 ·have:H=[]:=h1 rfl
  subst this
  have e0:rows1 (insI t [])=[[I' t]]:=rfl
  rw [e0]
  cases qn
  ·exact ev_grant0 z own t o (qS false Q) none ho
  ·exact ev_grant0D z own t o ho
theorem ev_applyLr (o2:D) (bn cn:Bool) (own:Int) (hn:Bool) (H:List Int) (qn:Bool) (Q:List Sp.W) (t o v p n:Int) (h1:hn=true→H=[]) (h2:qn=true→Q=[]) (h3:H.length≤1000) (h4:Q.length≤1000) (hA:Asc H)
  (hC:ev P (.call z_68 [.d o2,.d (stD (zZ bn cn) own hn H qn Q)] [])=some (.val (.d (I' 0)) [])) (ho2:∃a b c d,o2 = .ag [a,b,c,d])
  (hb:badC t p n=false) (hq:(Q.any fun w=>w.task==t)=false) (ho:o=53) (hh:hld own H t=0) :
  Rets (ev P (.call z_69 [.d o2,.d (stD (zZ bn cn) own hn H qn Q),.d (.ag [I' t,I' o,I' v,I' p,I' n])] [])) (lockS own H Q t o p):=by
 obtain ⟨a,b,c,d,rfl⟩:=ho2
 have hF:=ev_wFind qn Q t (by omega)
 have hCh:=ev_changed (zZ bn cn) own hn H qn Q h1 h2 (by omega) (by omega)
 have hH:=ev_holds own (I' 0) (I' 0) (qD qn Q) (hD bn []) (cD cn []) (.b false) (I' 0) hn H t (by omega)
 have hFr:=ev_free0 (zZ bn cn) own hn H qn Q h1 h2
 have hWr:=ev_writes0 (zZ bn cn) own hn H qn Q
 rw [fd_any,hq] at hF
 rw [hh] at hH
 generalize (fdS Q t).1=fi at *
 unfold badC at hb
 have hQr:Q.length+1≤room:=by unfold room;omega
 have r1:1≤room:=by decide
 subst ho
 by_cases hp:own = -1∧Q=[]
 ·have hL:lockS own H Q t 53 p=⟨own,insI t H,Q,false,true,[],0⟩:=by simp [lockS,posB,hp]
  rw [hL]
  obtain ⟨rfl,rfl⟩:=hp
  have hG:=ev_grantR0 (zZ bn cn) (-1) t 53 hn H qn [] (by decide) h1 h2 (by omega) hA
  refine ⟨bn,cn,false,qn,true,?_,by simp,by simp⟩
  simp only [zZ] at *
  have hil:=insI_len t H
  have hit:List.take (H.length+1) (rows1 (insI t H))=rows1 (insI t H):=by rw [←hil];simp [rows1,take_map_len]
  rw [ev_call P_z_69 rfl]
  cases hn<;>cases qn<;>simp [heap0,lkD,heap3,heapG,lk,hS,qS,hV,hO,hX,qV,qO,kV,kO,hil] at hCh hFr hWr hG
  ·simp [F_z_69,hC,ev_isTask,hb,hF,callD,hCh,hH,callR,hFr,hWr,reachC,cut,rg2,rg3,rg4,rg5,List.idxOf_cons,sub,setAll,back,overlay,take_map_len,endH]
   rw [ev_call P_z_137 rfl]
   simp [F_z_137,callR,hG,reachC,cut,rg2,rg3,rg4,rg5,List.idxOf_cons,sub,setAll,back,overlay,take_map_len,endH]
   rw [ev_call P_z_141 rfl]
   simp [F_z_141,hil,hit,callR,reachC,cut,rg2,rg3,rg4,rg5,List.idxOf_cons,sub,setAll,back,overlay,take_map_len,endH]
  ·simp [F_z_69,hC,ev_isTask,hb,hF,callD,hCh,hH,callR,hFr,hWr,reachC,cut,rg2,rg3,rg4,rg5,List.idxOf_cons,sub,setAll,back,overlay,take_map_len,endH]
   rw [ev_call P_z_137 rfl]
   simp [F_z_137,callR,hG,reachC,cut,rg2,rg3,rg4,rg5,List.idxOf_cons,sub,setAll,back,overlay,take_map_len,endH]
   rw [ev_call P_z_141 rfl]
   simp [F_z_141,hil,hit,callR,reachC,cut,rg2,rg3,rg4,rg5,List.idxOf_cons,sub,setAll,back,overlay,take_map_len,endH]
  ·simp [F_z_69,hC,ev_isTask,hb,hF,callD,hCh,hH,callR,hFr,hWr,reachC,cut,rg2,rg3,rg4,rg5,List.idxOf_cons,sub,setAll,back,overlay,take_map_len,endH]
   rw [ev_call P_z_137 rfl]
   simp [F_z_137,callR,hG,reachC,cut,rg2,rg3,rg4,rg5,List.idxOf_cons,sub,setAll,back,overlay,take_map_len,endH]
   rw [ev_call P_z_141 rfl]
   simp [F_z_141,hil,hit,callR,reachC,cut,rg2,rg3,rg4,rg5,List.idxOf_cons,sub,setAll,back,overlay,take_map_len,endH]
  ·simp [F_z_69,hC,ev_isTask,hb,hF,callD,hCh,hH,callR,hFr,hWr,reachC,cut,rg2,rg3,rg4,rg5,List.idxOf_cons,sub,setAll,back,overlay,take_map_len,endH]
   rw [ev_call P_z_137 rfl]
   simp [F_z_137,callR,hG,reachC,cut,rg2,rg3,rg4,rg5,List.idxOf_cons,sub,setAll,back,overlay,take_map_len,endH]
   rw [ev_call P_z_141 rfl]
   simp [F_z_141,hil,hit,callR,reachC,cut,rg2,rg3,rg4,rg5,List.idxOf_cons,sub,setAll,back,overlay,take_map_len,endH]
 ·have hL:lockS own H Q t 53 p=⟨own,H,Q++[⟨t,53,0,p,-1⟩],true,false,[],0⟩:=by
   have:posB own H Q 53=false:=by
    unfold posB
    cases h:(own == -1&&Q.isEmpty)
    ·simp [h]
    ·exact absurd (by simpa using h) hp
   simp [lockS,this]
  rw [hL]
  have hpb:(own != -1)=false→Q≠[]:=by
   intro h1 h2
   exact hp ⟨by simpa using h1,h2⟩
  refine ⟨bn,cn,hn,false,true,?_,h1,by simp⟩
  simp only [zZ] at *
  rw [ev_call P_z_69 rfl]
  cases hw:own != -1
  ·have hQ0:=hpb hw
   have hQ1:((Q.length:Int)==0)=false:=by simpa using hQ0
   rw [hw] at hWr
   have hqn:qn=false:=by cases qn;rfl;exact absurd (h2 rfl) hQ0
   subst hqn
   cases hn<;>simp [heap0,lkD,heap3,lk,hS,qS,hV,hO,qV,qO,kV,kO] at hCh hFr hWr
   ·simp [F_z_69,hC,ev_isTask,hb,hF,callD,hCh,hH,callR,hFr,hWr,hQ1,hQ0,reachC,cut,rg2,rg3,rg4,rg5,List.idxOf_cons,sub,setAll,back,overlay,take_map_len,endH]
    rw [ev_call P_z_137 rfl]
    simp [F_z_137,callR,reachC,cut,rg2,rg3,rg4,rg5,List.idxOf_cons,sub,setAll,back,overlay,take_map_len,endH,hQr,r1,Nat.not_succ_le_self,Sp.W.row,take_snoc_map]
    all_goals exact h1 rfl
   ·simp [F_z_69,hC,ev_isTask,hb,hF,callD,hCh,hH,callR,hFr,hWr,hQ1,hQ0,reachC,cut,rg2,rg3,rg4,rg5,List.idxOf_cons,sub,setAll,back,overlay,take_map_len,endH]
    rw [ev_call P_z_137 rfl]
    simp [F_z_137,callR,reachC,cut,rg2,rg3,rg4,rg5,List.idxOf_cons,sub,setAll,back,overlay,take_map_len,endH,hQr,r1,Nat.not_succ_le_self,Sp.W.row,take_snoc_map]
    all_goals exact h1 rfl
  ·rw [hw] at hWr
   cases hn<;>cases qn<;>simp [heap0,lkD,heap3,lk,hS,qS,hV,hO,qV,qO,kV,kO] at hCh hFr hWr
   ·simp [F_z_69,hC,ev_isTask,hb,hF,callD,hCh,hH,callR,hFr,hWr,reachC,cut,rg2,rg3,rg4,rg5,List.idxOf_cons,sub,setAll,back,overlay,take_map_len,endH]
    rw [ev_call P_z_137 rfl]
    simp [F_z_137,callR,reachC,cut,rg2,rg3,rg4,rg5,List.idxOf_cons,sub,setAll,back,overlay,take_map_len,endH,hQr,r1,Nat.not_succ_le_self,Sp.W.row,take_snoc_map]
    all_goals exact h1 rfl
   ·obtain rfl:=h2 rfl
    simp [F_z_69,hC,ev_isTask,hb,hF,callD,hCh,hH,callR,hFr,hWr,reachC,cut,rg2,rg3,rg4,rg5,List.idxOf_cons,sub,setAll,back,overlay,take_map_len,endH]
    rw [ev_call P_z_137 rfl]
    simp [F_z_137,callR,reachC,cut,rg2,rg3,rg4,rg5,List.idxOf_cons,sub,setAll,back,overlay,take_map_len,endH,hQr,r1,Nat.not_succ_le_self,Sp.W.row,take_snoc_map]
    all_goals exact h1 rfl
   ·simp [F_z_69,hC,ev_isTask,hb,hF,callD,hCh,hH,callR,hFr,hWr,reachC,cut,rg2,rg3,rg4,rg5,List.idxOf_cons,sub,setAll,back,overlay,take_map_len,endH]
    rw [ev_call P_z_137 rfl]
    simp [F_z_137,callR,reachC,cut,rg2,rg3,rg4,rg5,List.idxOf_cons,sub,setAll,back,overlay,take_map_len,endH,hQr,r1,Nat.not_succ_le_self,Sp.W.row,take_snoc_map]
    all_goals exact h1 rfl
   ·obtain rfl:=h2 rfl
    simp [F_z_69,hC,ev_isTask,hb,hF,callD,hCh,hH,callR,hFr,hWr,reachC,cut,rg2,rg3,rg4,rg5,List.idxOf_cons,sub,setAll,back,overlay,take_map_len,endH]
    rw [ev_call P_z_137 rfl]
    simp [F_z_137,callR,reachC,cut,rg2,rg3,rg4,rg5,List.idxOf_cons,sub,setAll,back,overlay,take_map_len,endH,hQr,r1,Nat.not_succ_le_self,Sp.W.row,take_snoc_map]
    all_goals exact h1 rfl
theorem ev_applyLw (o2:D) (bn cn:Bool) (own:Int) (hn:Bool) (H:List Int) (qn:Bool) (Q:List Sp.W) (t o v p n:Int) (h1:hn=true→H=[]) (h2:qn=true→Q=[]) (h3:H.length≤1000) (h4:Q.length≤1000) (hA:Asc H)
  (hC:ev P (.call z_68 [.d o2,.d (stD (zZ bn cn) own hn H qn Q)] [])=some (.val (.d (I' 0)) [])) (ho2:∃a b c d,o2 = .ag [a,b,c,d])
  (hb:badC t p n=false) (hq:(Q.any fun w=>w.task==t)=false) (ho:o=55) (hh:hld own H t=0) :
  Rets (ev P (.call z_69 [.d o2,.d (stD (zZ bn cn) own hn H qn Q),.d (.ag [I' t,I' o,I' v,I' p,I' n])] [])) (lockS own H Q t o p):=by
 obtain ⟨a,b,c,d,rfl⟩:=ho2
 have hF:=ev_wFind qn Q t (by omega)
 have hCh:=ev_changed (zZ bn cn) own hn H qn Q h1 h2 (by omega) (by omega)
 have hH:=ev_holds own (I' 0) (I' 0) (qD qn Q) (hD bn []) (cD cn []) (.b false) (I' 0) hn H t (by omega)
 have hFr:=ev_free0 (zZ bn cn) own hn H qn Q h1 h2
 have hWr:=ev_writes0 (zZ bn cn) own hn H qn Q
 rw [fd_any,hq] at hF
 rw [hh] at hH
 generalize (fdS Q t).1=fi at *
 unfold badC at hb
 have hQr:Q.length+1≤room:=by unfold room;omega
 have r1:1≤room:=by decide
 subst ho
 by_cases hp:own = -1∧H=[]
 ·have hL:lockS own H Q t 55 p=⟨t,H,Q,false,true,[],0⟩:=by simp [lockS,posB,hp]
  rw [hL]
  obtain ⟨rfl,rfl⟩:=hp
  have hG:=ev_grantW0 (zZ bn cn) (-1) t hn [] qn Q
  refine ⟨bn,cn,hn,qn,true,?_,by simp,h2⟩
  simp only [zZ] at *
  rw [ev_call P_z_69 rfl]
  cases hn<;>cases qn<;>simp [heap0,lkD,heap3,heapG,lk,hS,qS,hV,hO,hX,qV,qO,kV,kO] at hCh hFr hWr hG
  ·simp [F_z_69,hC,ev_isTask,hb,hF,callD,hCh,hH,callR,hFr,hWr,reachC,cut,rg2,rg3,rg4,rg5,List.idxOf_cons,sub,setAll,back,overlay,take_map_len,endH]
   rw [ev_call P_z_137 rfl]
   simp [F_z_137,callR,hG,reachC,cut,rg2,rg3,rg4,rg5,List.idxOf_cons,sub,setAll,back,overlay,take_map_len,endH]
   rw [ev_call P_z_141 rfl]
   simp [F_z_141,callR,reachC,cut,rg2,rg3,rg4,rg5,List.idxOf_cons,sub,setAll,back,overlay,take_map_len,endH]
  ·obtain rfl:=h2 rfl
   simp [F_z_69,hC,ev_isTask,hb,hF,callD,hCh,hH,callR,hFr,hWr,reachC,cut,rg2,rg3,rg4,rg5,List.idxOf_cons,sub,setAll,back,overlay,take_map_len,endH]
   rw [ev_call P_z_137 rfl]
   simp [F_z_137,callR,hG,reachC,cut,rg2,rg3,rg4,rg5,List.idxOf_cons,sub,setAll,back,overlay,take_map_len,endH]
   rw [ev_call P_z_141 rfl]
   simp [F_z_141,callR,reachC,cut,rg2,rg3,rg4,rg5,List.idxOf_cons,sub,setAll,back,overlay,take_map_len,endH]
  ·simp [F_z_69,hC,ev_isTask,hb,hF,callD,hCh,hH,callR,hFr,hWr,reachC,cut,rg2,rg3,rg4,rg5,List.idxOf_cons,sub,setAll,back,overlay,take_map_len,endH]
   rw [ev_call P_z_137 rfl]
   simp [F_z_137,callR,hG,reachC,cut,rg2,rg3,rg4,rg5,List.idxOf_cons,sub,setAll,back,overlay,take_map_len,endH]
   rw [ev_call P_z_141 rfl]
   simp [F_z_141,callR,reachC,cut,rg2,rg3,rg4,rg5,List.idxOf_cons,sub,setAll,back,overlay,take_map_len,endH]
  ·obtain rfl:=h2 rfl
   simp [F_z_69,hC,ev_isTask,hb,hF,callD,hCh,hH,callR,hFr,hWr,reachC,cut,rg2,rg3,rg4,rg5,List.idxOf_cons,sub,setAll,back,overlay,take_map_len,endH]
   rw [ev_call P_z_137 rfl]
   simp [F_z_137,callR,hG,reachC,cut,rg2,rg3,rg4,rg5,List.idxOf_cons,sub,setAll,back,overlay,take_map_len,endH]
   rw [ev_call P_z_141 rfl]
   simp [F_z_141,callR,reachC,cut,rg2,rg3,rg4,rg5,List.idxOf_cons,sub,setAll,back,overlay,take_map_len,endH]
 ·have hL:lockS own H Q t 55 p=⟨own,H,Q++[⟨t,55,0,p,-1⟩],true,false,[],0⟩:=by
   have:posB own H Q 55=false:=by
    unfold posB
    cases h:(own == -1&&H.isEmpty)
    ·simp [h]
    ·exact absurd (by simpa using h) hp
   simp [lockS,this]
  rw [hL]
  have hfb:(own == -1&&(H.length:Int)==0)=false:=by
   cases h:(own == -1&&(H.length:Int)==0)
   ·rfl
   ·exact absurd (by simpa using h) hp
  refine ⟨bn,cn,hn,false,true,?_,h1,by simp⟩
  simp only [zZ] at *
  rw [hfb] at hFr
  rw [ev_call P_z_69 rfl]
  cases hn<;>cases qn<;>simp [heap0,lkD,heap3,lk,hS,qS,hV,hO,qV,qO,kV,kO] at hCh hFr hWr
  ·simp [F_z_69,hC,ev_isTask,hb,hF,callD,hCh,hH,callR,hFr,hWr,reachC,cut,rg2,rg3,rg4,rg5,List.idxOf_cons,sub,setAll,back,overlay,take_map_len,endH]
   rw [ev_call P_z_137 rfl]
   simp [F_z_137,callR,reachC,cut,rg2,rg3,rg4,rg5,List.idxOf_cons,sub,setAll,back,overlay,take_map_len,endH,hQr,r1,Nat.not_succ_le_self,Sp.W.row,take_snoc_map]
   all_goals exact h1 rfl
  ·obtain rfl:=h2 rfl
   simp [F_z_69,hC,ev_isTask,hb,hF,callD,hCh,hH,callR,hFr,hWr,reachC,cut,rg2,rg3,rg4,rg5,List.idxOf_cons,sub,setAll,back,overlay,take_map_len,endH]
   rw [ev_call P_z_137 rfl]
   simp [F_z_137,callR,reachC,cut,rg2,rg3,rg4,rg5,List.idxOf_cons,sub,setAll,back,overlay,take_map_len,endH,hQr,r1,Nat.not_succ_le_self,Sp.W.row,take_snoc_map]
   all_goals exact h1 rfl
  ·simp [F_z_69,hC,ev_isTask,hb,hF,callD,hCh,hH,callR,hFr,hWr,reachC,cut,rg2,rg3,rg4,rg5,List.idxOf_cons,sub,setAll,back,overlay,take_map_len,endH]
   rw [ev_call P_z_137 rfl]
   simp [F_z_137,callR,reachC,cut,rg2,rg3,rg4,rg5,List.idxOf_cons,sub,setAll,back,overlay,take_map_len,endH,hQr,r1,Nat.not_succ_le_self,Sp.W.row,take_snoc_map]
   all_goals exact h1 rfl
  ·obtain rfl:=h2 rfl
   simp [F_z_69,hC,ev_isTask,hb,hF,callD,hCh,hH,callR,hFr,hWr,reachC,cut,rg2,rg3,rg4,rg5,List.idxOf_cons,sub,setAll,back,overlay,take_map_len,endH]
   rw [ev_call P_z_137 rfl]
   simp [F_z_137,callR,reachC,cut,rg2,rg3,rg4,rg5,List.idxOf_cons,sub,setAll,back,overlay,take_map_len,endH,hQr,r1,Nat.not_succ_le_self,Sp.W.row,take_snoc_map]
   all_goals exact h1 rfl
theorem ev_applyL (o2:D) (bn cn:Bool) (own:Int) (hn:Bool) (H:List Int) (qn:Bool) (Q:List Sp.W) (t o v p n:Int) (h1:hn=true→H=[]) (h2:qn=true→Q=[]) (h3:H.length≤1000) (h4:Q.length≤1000) (hA:Asc H)
  (hC:ev P (.call z_68 [.d o2,.d (stD (zZ bn cn) own hn H qn Q)] [])=some (.val (.d (I' 0)) [])) (ho2:∃a b c d,o2 = .ag [a,b,c,d])
  (hb:badC t p n=false) (hq:(Q.any fun w=>w.task==t)=false) (ho:o=53∨o=55) (hh:hld own H t=0) :
  Rets (ev P (.call z_69 [.d o2,.d (stD (zZ bn cn) own hn H qn Q),.d (.ag [I' t,I' o,I' v,I' p,I' n])] [])) (lockS own H Q t o p):=by
 rcases ho with ho | ho
 ·exact ev_applyLr o2 bn cn own hn H qn Q t o v p n h1 h2 h3 h4 hA hC ho2 hb hq ho hh
 ·exact ev_applyLw o2 bn cn own hn H qn Q t o v p n h1 h2 h3 h4 hA hC ho2 hb hq ho hh
end Go.VS.R
namespace Go.VS.R
open Go.VS.Sp
theorem srvM_cons (own:Int) (H:List Int) (w:Sp.W) (r:List Sp.W):srvM own H (w::r) =
  if own≠-1∨(w.op=55∧H≠[]) then (own,H,w::r,[])
  else if w.op=55 then (w.task,H,r,[w])
  else (own,insA (insI w.task H) (r.takeWhile fun w=>w.op != 55),r.dropWhile fun w=>w.op != 55,w::r.takeWhile fun w=>w.op != 55):=rfl
theorem ev_serveM (z:Z) (own:Int) (Hs) (l:List Int) (Qs) (Q:List Sp.W) (hH:hL Hs l) (hQ:(∃nl,Qs = .inl nl∧Q=[])∨Qs = .inr (Q.map Sp.W.row,0,Q.length)) (hA:Asc l) (h1:l.length≤1000) (h2:Q.length≤1000) (ht:∀w,w∈Q→w.task≠-1) :
  (srvM own l Q=(own,l,Q,[])∧ev P (.call z_140 [.loc 0 0 0] (heap3 z own Hs Qs none))=some (.val (.tu []) (heap3 z own Hs Qs none))) ∨
  (∃w r,Q=w::r∧Qs = .inr (Q.map Sp.W.row,0,Q.length)∧own = -1∧l=[]∧srvM own l Q=(w.task,l,r,[w]) ∧
   ev P (.call z_140 [.loc 0 0 0] (heap3 z own Hs Qs none))=some (.val (.tu []) (heapW z w.task Hs ((w::r).map Sp.W.row) r (wk w)))) ∨
  (∃w r tk dk l',Q=w::r∧Qs = .inr (Q.map Sp.W.row,0,Q.length)∧own = -1∧r=tk++dk∧srvM own l Q=(own,l',dk,w::tk)∧l'≠[] ∧
   ev P (.call z_140 [.loc 0 0 0] (heap3 z own Hs Qs none))=some (.val (.tu []) (heapL z (-1) (hX Hs) ((w::r).map Sp.W.row) (1+tk.length) dk l' (wk w::tk.map wk)))):=by
 have hlen0:hlen Hs=l.length:=by
  rcases Hs with _ | ⟨R,n⟩
  ·obtain rfl:l=[]:=hH
   rfl
  ·exact hH.1
 rcases hQ with ⟨nl,rfl,rfl⟩ | rfl
 ·exact .inl ⟨rfl,ev_serve0 z own Hs nl⟩
 ·cases Q with
  | nil=>exact .inl ⟨rfl,ev_serve00 z own Hs []⟩
  | cons w r =>
   by_cases hs:own≠-1∨(w.op=55∧hlen Hs≠0)
   ·refine .inl ⟨?_,ev_serve1 z own Hs w r hs⟩
    rw [srvM_cons]
    rw [if_pos]
    rcases hs with hs | ⟨hs1,hs2⟩
    ·exact .inl hs
    ·exact .inr ⟨hs1,fun h=>by rw [hlen0,h] at hs2;exact hs2 rfl⟩
   ·have ho:own = -1:=Classical.byContradiction fun h=>hs (.inl h)
    subst ho
    have hs':¬((-1:Int)≠-1∨(w.op=55∧l≠[])):=by
     intro h
     rcases h with h | ⟨h1,h2⟩
     ·exact h rfl
     ·apply hs
      refine .inr ⟨h1,?_⟩
      rw [hlen0]
      intro h
      exact h2 (List.length_eq_zero_iff.1 h)
    by_cases h55:w.op=55
    ·have hh0:hlen Hs=0:=Classical.byContradiction fun h=>hs (.inr ⟨h55,h⟩)
     have hl0:l=[]:=by rw [hlen0] at hh0;exact List.length_eq_zero_iff.1 hh0
     refine .inr (.inl ⟨w,r,rfl,rfl,rfl,hl0,?_,ev_serve2 z Hs w r h55 hh0 (ht w (by simp))⟩)
     rw [srvM_cons]
     rw [if_neg hs',if_pos h55]
    ·refine .inr (.inr ⟨w,r,r.takeWhile fun w=>w.op != 55,r.dropWhile fun w=>w.op != 55,insA (insI w.task l) (r.takeWhile fun w=>w.op != 55),rfl,rfl,rfl,(List.takeWhile_append_dropWhile).symm,?_,?_,ev_serve3 z Hs l w r h55 hH hA h1 (by simp at h2;omega)⟩)
     ·rw [srvM_cons]
      rw [if_neg hs',if_neg h55]
     ·have:∀(q:List Sp.W) (m:List Int),m≠[]→insA m q≠[]:=by
       intro q
       induction q with
       | nil=>intro m hm;exact hm
       | cons a q ih =>
        intro m hm
        refine ih _ ?_
        intro h
        have h':insI a.task m=[]:=h
        have:=insI_len a.task m
        rw [h'] at this
        simp at this
      refine this _ _ ?_
      intro h
      have:=insI_len w.task l
      rw [h] at this
      simp at this
theorem le11 (k:Nat):1+(k+1)≤k+1+1:=by omega
theorem getK {w:Sp.W} {tk dk:List Sp.W}:(((w::(tk++dk)).map Sp.W.row).drop (1+tk.length)).take dk.length=dk.map Sp.W.row∧1+tk.length+dk.length≤((w::(tk++dk)).map Sp.W.row).length:=by
 have:(w::(tk++dk)).map Sp.W.row=(w::tk).map Sp.W.row++dk.map Sp.W.row:=by simp
 rw [this]
 constructor
 ·rw [List.drop_left' (by simp;omega)]
  exact List.take_of_length_le (by simp)
 ·simp;omega
theorem ev_applyU (o2:D) (bn cn:Bool) (own:Int) (H:List Int) (qn:Bool) (Q:List Sp.W) (t v p n:Int) (h2:qn=true→Q=[]) (h3:H.length≤1000) (h4:Q.length≤1000) (hA:Asc H) (ht:∀w,w∈Q→w.task≠-1)
  (hC:ev P (.call z_68 [.d o2,.d (stD (zZ bn cn) own false H qn Q)] [])=some (.val (.d (I' 0)) [])) (ho2:∃a b c d,o2 = .ag [a,b,c,d])
  (hb:badC t p n=false) (hq:(Q.any fun w=>w.task==t)=false) (hh:hld own H t=1) :
  Rets (ev P (.call z_69 [.d o2,.d (stD (zZ bn cn) own false H qn Q),.d (.ag [I' t,I' 54,I' v,I' p,I' n])] [])) (let x:=srvM own (H.filter fun x=>x != t) Q;⟨x.1,x.2.1,x.2.2.1,false,true,x.2.2.2,0⟩):=by
 obtain ⟨a,b,c,d,rfl⟩:=ho2
 have hF:=ev_wFind qn Q t (by omega)
 have hCh:=ev_changed (zZ bn cn) own false H qn Q (by simp) h2 (by omega) (by omega)
 have hH:=ev_holds own (I' 0) (I' 0) (qD qn Q) (hD bn []) (cD cn []) (.b false) (I' 0) false H t (by omega)
 rw [fd_any,hq] at hF
 rw [hh] at hH
 generalize (fdS Q t).1=fi at *
 unfold badC at hb
 obtain ⟨R',k1,k2,hDF⟩:=ev_DF (f:=z_139) (first:=[]) (caps:=[.ref [I' t,I' 54,I' v,I' p,I' n]]) (p:=fun x=>x==t) H (by omega) (fun x=>ev_ApplyC1 t 54 v p n x)
 have hff:(H.filter fun w=>!(w==t))=H.filter fun x=>x != t:=rfl
 rw [hff] at k1 k2 hDF
 have hfl:(H.filter fun x=>x != t).length≤H.length:=List.length_filter_le _ _
 have hAf:Asc (H.filter fun x=>x != t):=hA.sublist List.filter_sublist
 have hrr:H.map row1=rows1 H:=rfl
 rw [hrr] at hDF
 have hrr2:(H.filter fun x=>x != t).map row1=rows1 (H.filter fun x=>x != t):=rfl
 rw [hrr2] at k2
 generalize (H.filter fun x=>x != t)=F at *
 have hSv:=ev_serveM (zZ bn cn) own (some (R',F.length)) F (qS qn Q) Q ⟨rfl,k1,k2⟩ (by cases qn;exact .inr rfl;exact .inl ⟨true,rfl,h2 rfl⟩) hAf (by omega) h4 ht
 rcases hSv with ⟨e,hSv⟩ | ⟨w,r,rfl,hQs,rfl,rfl,e,hSv⟩ | ⟨w,r,tk,dk,l',rfl,hQs,rfl,rfl,e,hl0,hSv⟩
 ·rw [e]
  refine ⟨bn,cn,false,qn,true,?_,by simp,h2⟩
  simp only [zZ] at *
  rw [ev_call P_z_69 rfl]
  cases qn<;>simp [heap0,heap3,heapW,heapL,lk,hS,qS,hV,hO,hX,qV,qO,kV,kO,qcV] at hCh hSv
  ·simp [F_z_69,hC,ev_isTask,hb,hF,callD,hCh,hH,callR,hDF,hSv,reachC,cut,rg2,rg3,rg4,rg5,List.idxOf_cons,sub,setAll,back,overlay,take_map_len,endH]
   rw [ev_call P_z_141 rfl]
   simp [F_z_141,callR,k1,k2,reachC,cut,rg2,rg3,rg4,rg5,List.idxOf_cons,sub,setAll,back,overlay,take_map_len,endH]
  ·obtain rfl:=h2 rfl
   simp [F_z_69,hC,ev_isTask,hb,hF,callD,hCh,hH,callR,hDF,hSv,reachC,cut,rg2,rg3,rg4,rg5,List.idxOf_cons,sub,setAll,back,overlay,take_map_len,endH]
   rw [ev_call P_z_141 rfl]
   simp [F_z_141,callR,k1,k2,reachC,cut,rg2,rg3,rg4,rg5,List.idxOf_cons,sub,setAll,back,overlay,take_map_len,endH]
 ·rw [e]
  have hqn:qn=false:=by cases qn;rfl;exact absurd (h2 rfl) (by simp)
  subst hqn
  refine ⟨bn,cn,false,false,false,?_,by simp,by simp⟩
  simp only [zZ] at *
  rw [ev_call P_z_69 rfl]
  cases r<;>simp [heap0,heap3,heapW,heapL,lk,hS,qS,hV,hO,hX,qV,qO,kV,kO,qcV] at hCh hSv <;>
  ·simp [F_z_69,hC,ev_isTask,hb,hF,callD,hCh,hH,callR,hDF,hSv,reachC,cut,rg2,rg3,rg4,rg5,List.idxOf_cons,sub,setAll,back,overlay,take_map_len,endH]
   rw [ev_call P_z_141 rfl]
   simp [F_z_141,callR,k1,k2,le11,reachC,cut,rg2,rg3,rg4,rg5,List.idxOf_cons,sub,setAll,back,overlay,take_map_len,endH]
 ·rw [e]
  have hqn:qn=false:=by cases qn;rfl;exact absurd (h2 rfl) (by simp)
  subst hqn
  obtain ⟨g1,g2⟩:=getK (w:=w) (tk:=tk) (dk:=dk)
  refine ⟨bn,cn,false,false,false,?_,by simp,by simp⟩
  simp only [zZ] at *
  rw [ev_call P_z_69 rfl]
  generalize hq0:w::(tk++dk)=QQ at *
  generalize hSS:QQ.map Sp.W.row=S at *
  cases dk<;>simp [heap0,heap3,heapW,heapL,lk,hS,qS,hV,hO,hX,qV,qO,kV,kO,qcV] at hCh hSv g1 g2 <;>
  ·simp [F_z_69,hC,ev_isTask,hb,hF,callD,hCh,hH,callR,hDF,hSv,reachC,cut,rg2,rg3,rg4,rg5,List.idxOf_cons,sub,setAll,back,overlay,take_map_len,endH]
   rw [ev_call P_z_141 rfl]
   simp [F_z_141,callR,k1,k2,g1,g2,reachC,cut,rg2,rg3,rg4,rg5,List.idxOf_cons,sub,setAll,back,overlay,take_map_len,endH]
end Go.VS.R
namespace Go.VS.R
open Go.VS.Sp
theorem ev_applyV (o2:D) (bn cn:Bool) (own:Int) (hn:Bool) (qn:Bool) (Q:List Sp.W) (t v p n:Int) (h2:qn=true→Q=[]) (h4:Q.length≤1000) (ht:∀w,w∈Q→w.task≠-1)
  (hC:ev P (.call z_68 [.d o2,.d (stD (zZ bn cn) own hn [] qn Q)] [])=some (.val (.d (I' 0)) [])) (ho2:∃a b c d,o2 = .ag [a,b,c,d])
  (hb:badC t p n=false) (hq:(Q.any fun w=>w.task==t)=false) (hh:hld own [] t=2) :
  Rets (ev P (.call z_69 [.d o2,.d (stD (zZ bn cn) own hn [] qn Q),.d (.ag [I' t,I' 56,I' v,I' p,I' n])] [])) (let x:=srvM (-1) [] Q;⟨x.1,x.2.1,x.2.2.1,false,true,x.2.2.2,0⟩):=by
 obtain ⟨a,b,c,d,rfl⟩:=ho2
 have hF:=ev_wFind qn Q t (by omega)
 have hCh:=ev_changed (zZ bn cn) own hn [] qn Q (by simp) h2 (by simp) (by omega)
 have hH:=ev_holds own (I' 0) (I' 0) (qD qn Q) (hD bn []) (cD cn []) (.b false) (I' 0) hn [] t (by simp)
 rw [fd_any,hq] at hF
 rw [hh] at hH
 generalize (fdS Q t).1=fi at *
 unfold badC at hb
 by_cases hnn:(hn&&qn)=true
 ·have e1:hn=true:=by simp at hnn;exact hnn.1
  have e2:qn=true:=by simp at hnn;exact hnn.2
  subst e1;subst e2
  obtain rfl:=h2 rfl
  have hSv:=ev_serveD (zZ bn cn) (-1)
  refine ⟨bn,cn,true,true,true,?_,by simp [srvM],by simp [srvM]⟩
  simp only [zZ] at *
  rw [ev_call P_z_69 rfl]
  simp [heap0,lkD] at hCh hSv
  simp [F_z_69,hC,ev_isTask,hb,hF,callD,hCh,hH,callR,hSv,reachC,cut,rg2,rg3,rg4,rg5,List.idxOf_cons,sub,setAll,back,overlay,take_map_len,endH]
  rw [ev_call P_z_141 rfl]
  simp [F_z_141,callR,srvM,reachC,cut,rg2,rg3,rg4,rg5,List.idxOf_cons,sub,setAll,back,overlay,take_map_len,endH]
 ·have hh0:heap0 (zZ bn cn) own hn [] qn Q=heap3 (zZ bn cn) own (hS hn []) (qS qn Q) none:=by unfold heap0;rw [if_neg hnn]
  rw [hh0] at hCh
  have hSv:=ev_serveM (zZ bn cn) (-1) (hS hn []) [] (qS qn Q) Q (hL_hS (by simp)) (by cases qn;exact .inr rfl;exact .inl ⟨true,rfl,h2 rfl⟩) List.Pairwise.nil (by simp) h4 ht
  rcases hSv with ⟨e,hSv⟩ | ⟨w,r,rfl,hQs,_,_,e,hSv⟩ | ⟨w,r,tk,dk,l',rfl,hQs,_,rfl,e,hl0,hSv⟩
  ·rw [e]
   refine ⟨bn,cn,hn,qn,true,?_,by simp,h2⟩
   simp only [zZ] at *
   rw [ev_call P_z_69 rfl]
   cases hn<;>cases qn<;>simp [heap3,heapW,heapL,lk,hS,qS,hV,hO,hX,qV,qO,kV,kO,qcV] at hCh hSv
   ·simp [F_z_69,hC,ev_isTask,hb,hF,callD,hCh,hH,callR,hSv,reachC,cut,rg2,rg3,rg4,rg5,List.idxOf_cons,sub,setAll,back,overlay,take_map_len,endH]
    rw [ev_call P_z_141 rfl]
    simp [F_z_141,callR,reachC,cut,rg2,rg3,rg4,rg5,List.idxOf_cons,sub,setAll,back,overlay,take_map_len,endH]
   ·obtain rfl:=h2 rfl
    simp [F_z_69,hC,ev_isTask,hb,hF,callD,hCh,hH,callR,hSv,reachC,cut,rg2,rg3,rg4,rg5,List.idxOf_cons,sub,setAll,back,overlay,take_map_len,endH]
    rw [ev_call P_z_141 rfl]
    simp [F_z_141,callR,reachC,cut,rg2,rg3,rg4,rg5,List.idxOf_cons,sub,setAll,back,overlay,take_map_len,endH]
   ·simp [F_z_69,hC,ev_isTask,hb,hF,callD,hCh,hH,callR,hSv,reachC,cut,rg2,rg3,rg4,rg5,List.idxOf_cons,sub,setAll,back,overlay,take_map_len,endH]
    rw [ev_call P_z_141 rfl]
    simp [F_z_141,callR,reachC,cut,rg2,rg3,rg4,rg5,List.idxOf_cons,sub,setAll,back,overlay,take_map_len,endH]
   ·simp at hnn
  ·rw [e]
   have hqn:qn=false:=by cases qn;rfl;exact absurd (h2 rfl) (by simp)
   subst hqn
   refine ⟨bn,cn,hn,false,false,?_,by simp,by simp⟩
   simp only [zZ] at *
   rw [ev_call P_z_69 rfl]
   cases hn<;>cases r<;>simp [heap3,heapW,heapL,lk,hS,qS,hV,hO,hX,qV,qO,kV,kO,qcV] at hCh hSv <;>
   ·simp [F_z_69,hC,ev_isTask,hb,hF,callD,hCh,hH,callR,hSv,reachC,cut,rg2,rg3,rg4,rg5,List.idxOf_cons,sub,setAll,back,overlay,take_map_len,endH]
    rw [ev_call P_z_141 rfl]
    simp [F_z_141,callR,le11,reachC,cut,rg2,rg3,rg4,rg5,List.idxOf_cons,sub,setAll,back,overlay,take_map_len,endH]
  ·rw [e]
   have hqn:qn=false:=by cases qn;rfl;exact absurd (h2 rfl) (by simp)
   subst hqn
   obtain ⟨g1,g2⟩:=getK (w:=w) (tk:=tk) (dk:=dk)
   refine ⟨bn,cn,false,false,false,?_,by simp,by simp⟩
   simp only [zZ] at *
   rw [ev_call P_z_69 rfl]
   generalize hq0:w::(tk++dk)=QQ at *
   generalize hSS:QQ.map Sp.W.row=S at *
   cases hn<;>cases dk<;>simp [heap3,heapW,heapL,lk,hS,qS,hV,hO,hX,qV,qO,kV,kO,qcV] at hCh hSv g1 g2 <;>
   ·simp [F_z_69,hC,ev_isTask,hb,hF,callD,hCh,hH,callR,hSv,reachC,cut,rg2,rg3,rg4,rg5,List.idxOf_cons,sub,setAll,back,overlay,take_map_len,endH]
    rw [ev_call P_z_141 rfl]
    simp [F_z_141,callR,g1,g2,reachC,cut,rg2,rg3,rg4,rg5,List.idxOf_cons,sub,setAll,back,overlay,take_map_len,endH]
end Go.VS.R
namespace Go.VS.R
open Go.VS.Sp
structure QOK (own:Int) (H:List Int) (Q:List Sp.W):Prop where
 op:∀w,w∈Q→w.op=53∨w.op=55
 pos:∀w,w∈Q→0≤w.task
 nin:∀w,w∈Q→w.task∉H
 dis:Q.Pairwise fun a b=>a.task≠b.task
theorem QOK.sub {own own':Int} {H H':List Int} {Q Q':List Sp.W} (h:QOK own H Q) (hs:Q'.Sublist Q) (hH:∀x,x∈H'→x∈H):QOK own' H' Q' :=
 ⟨fun w hw=>h.op w (hs.mem hw),fun w hw=>h.pos w (hs.mem hw),fun w hw hx=>h.nin w (hs.mem hw) (hH _ hx),h.dis.sublist hs⟩
structure MV (own:Int) (H:List Int) (Q:List Sp.W):Prop where
 ow:own = -1∨(isTask own=true∧H=[])
 vh:vh [] H=true
 wc:wchk Q=0
 qc:qchk own H [] Q=true
 st:stay own H Q=true
theorem mvalid_iff {own cnt time:Int} {H:List Int} {Q:List Sp.W} {B:List Int} {C:List (List D)} {cl:Bool} {val:Int} :
  mvalid own cnt time H Q B C cl val=true↔MV own H Q∧cnt=0∧time=0∧B=[]∧C=[]∧cl=false∧val=0:=by
 unfold mvalid flA
 constructor
 ·intro h
  simp at h
  obtain ⟨⟨⟨⟨⟨⟨⟨a1,a2⟩,a3⟩,a4⟩,a5⟩,a6⟩,a7⟩,b1,b2,b3,b4⟩:=h
  refine ⟨⟨?_,b1,b2,b3,b4⟩,a2,a3,a4,a5,a6,a7⟩
  exact a1
 ·rintro ⟨⟨h1,h2,h3,h4,h5⟩,rfl,rfl,rfl,rfl,rfl,rfl⟩
  simp [h2,h3,h4,h5]
  exact h1
theorem qchk_spec {own:Int} {H:List Int}:∀{suf pre:List Sp.W},qchk own H pre suf=true↔(∀w,w∈suf→wbd own H w=false)∧suf.Pairwise (fun a b=>a.task≠b.task)∧(∀a,a∈pre→∀b,b∈suf→a.task≠b.task)
 | [],pre=>by simp [qchk]
 | w::r,pre=>by
  have e1:qchk own H pre (w::r)=(!pre.any (fun x=>x.task==w.task)&&!wbd own H w&&qchk own H (pre++[w]) r):=rfl
  rw [e1]
  have ih:=@qchk_spec own H r (pre++[w])
  have ha:(!pre.any (fun x=>x.task==w.task))=true↔∀a,a∈pre→a.task≠w.task:=by
   simp
  rw [Bool.and_eq_true,Bool.and_eq_true,ih,ha]
  constructor
  ·rintro ⟨⟨h1,h2⟩,h3,h4,h5⟩
   have h2:wbd own H w=false:=by simpa using h2
   refine ⟨?_,List.pairwise_cons.2 ⟨fun b hb=>h5 w (by simp) b hb,h4⟩,?_⟩
   ·intro x hx
    rcases List.mem_cons.1 hx with e | hx
    ·rw [e];exact h2
    ·exact h3 x hx
   ·intro a ha b hb
    rcases List.mem_cons.1 hb with e | hb
    ·rw [e];exact h1 a ha
    ·exact h5 a (by simp [ha]) b hb
  ·rintro ⟨h1,h2,h3⟩
   rw [List.pairwise_cons] at h2
   refine ⟨⟨fun a ha=>h3 a ha w (by simp),by simp [h1 w (by simp)]⟩,fun x hx=>h1 x (by simp [hx]),h2.2,?_⟩
   intro a ha b hb
   rcases List.mem_append.1 ha with ha | ha
   ·exact h3 a ha b (by simp [hb])
   ·simp at ha;rw [ha];exact h2.1 b hb
theorem MV.asc {own:Int} {H:List Int} {Q:List Sp.W} (h:MV own H Q):Asc H:=vh_asc0 h.vh
theorem hld_zero {own:Int} {H:List Int} {t:Int} (ht:0≤t):hld own H t=0↔t≠own∧t∉H:=by
 unfold hld
 by_cases h1:t=own
 ·simp [ht,h1];omega
 ·by_cases h2:t∈H<;>simp [h1,h2]
theorem MV.qok {own:Int} {H:List Int} {Q:List Sp.W} (h:MV own H Q):QOK own H Q:=by
 obtain ⟨h1,h2⟩:=wchk_zero h.wc
 obtain ⟨q1,q2,_⟩:=qchk_spec.1 h.qc
 refine ⟨fun w hw=>?_,fun w hw=>(wvalid_task (h2 w hw)).1,fun w hw=>?_,q2⟩
 ·have:=q1 w hw
  unfold wbd at this
  by_cases h53:w.op=53
  ·exact .inl h53
  ·right
   simp [h53] at this
   exact this.1.1.1
 ·have:=q1 w hw
  unfold wbd at this
  simp at this
  exact ((hld_zero (wvalid_task (h2 w hw)).1).1 this.2).2
theorem MV.task {own:Int} {H:List Int} {Q:List Sp.W} (h:MV own H Q):∀w,w∈Q→w.task≠-1:=fun w hw=>by
 have:=h.qok.pos w hw;omega
theorem MV.free {H:List Int} {Q:List Sp.W} (h:MV (-1) H Q) (hH:H=[]):Q=[]:=by
 cases Q with
 | nil=>rfl
 | cons w r =>
  have:=h.st
  simp [stay,hH] at this
def ckd (k sz ot own cnt time:Int) (H:List Int) (Q:List Sp.W) (B:List Int) (C:List (List D)) (cl:Bool) (val:Int):Int :=
 if mnew k sz ot=0 then (if mvalid own cnt time H Q B C cl val then 0 else 1) else mnew k sz ot
theorem ckd_zero {k sz ot own cnt time:Int} {H:List Int} {Q:List Sp.W} {B:List Int} {C:List (List D)} {cl:Bool} {val:Int} (h:ckd k sz ot own cnt time H Q B C cl val=0) :
  MV own H Q∧cnt=0∧time=0∧B=[]∧C=[]∧cl=false∧val=0:=by
 unfold ckd at h
 by_cases hm:mnew k sz ot=0
 ·rw [if_pos hm] at h
  cases hv:mvalid own cnt time H Q B C cl val
  ·rw [hv] at h;simp at h
  ·exact mvalid_iff.1 hv
 ·rw [if_neg hm] at h;exact absurd h hm
abbrev stF (own cnt time:Int) (hn:Bool) (H:List Int) (qn:Bool) (Q:List Sp.W) (bn:Bool) (B:List Int) (cn:Bool) (C:List (List D)) (cl:Bool) (val:Int):D :=
 .ag [I' own,I' cnt,I' time,hD hn H,qD qn Q,hD bn B,cD cn C,.b cl,I' val]
theorem ev_mApply (nm:D) (k sz ot:Int) (own cnt time:Int) (hn:Bool) (H:List Int) (qn:Bool) (Q:List Sp.W) (bn:Bool) (B:List Int) (cn:Bool) (C:List (List D)) (cl:Bool) (val:Int) (t o v p n:Int)
  (hh:hn=true→H=[]) (hq:qn=true→Q=[]) (h1:H.length≤1000) (h2:Q.length≤1000) :
  Rets (ev P (.call z_69 [.d (.ag [nm,I' k,I' sz,I' ot]),.d (stF own cnt time hn H qn Q bn B cn C cl val),.d (.ag [I' t,I' o,I' v,I' p,I' n])] []))
   (if ckd k sz ot own cnt time H Q B C cl val=0 then apV own H Q t o p n else zr 1):=by
 have hC:=ev_mCheck nm k sz ot own cnt time hn H qn Q bn B cn C cl val hh hq h1 (by omega)
 by_cases hc:ckd k sz ot own cnt time H Q B C cl val=0
 ·obtain ⟨hM,rfl,rfl,rfl,rfl,rfl,rfl⟩:=ckd_zero hc
  have hC2:ev P (.call z_68 [.d (.ag [nm,I' k,I' sz,I' ot]),.d (stD (zZ bn cn) own hn H qn Q)] [])=some (.val (.d (I' 0)) []):=by
   have:ckd k sz ot own 0 0 H Q [] [] false 0=(if mnew k sz ot=0 then (if mvalid own 0 0 H Q [] [] false 0 then 0 else 1) else mnew k sz ot):=rfl
   rw [←this,hc] at hC
   exact hC
  rw [if_pos hc]
  have ho2:∃a b c d,(.ag [nm,I' k,I' sz,I' ot]:D) = .ag [a,b,c,d]:=⟨_,_,_,_,rfl⟩
  obtain ⟨e1,e2,e3,e4,e5,e6⟩:=ev_applyE _ bn cn own hn H qn Q t o v p n hh hq h1 h2 hC2 ho2
  unfold apV
  cases hb:badC t p n
  ·rw [if_neg (by simp)]
   cases hr:(decide (o<53)||decide (56<o))
   ·rw [if_neg (by simp)]
    cases hw:Q.any fun w=>w.task==t
    ·rw [if_neg (by simp)]
     by_cases hl:o=53∨o=55
     ·rw [if_pos hl]
      by_cases hz:hld own H t=0
      ·rw [if_neg (by simp [hz])]
       exact ev_applyL _ bn cn own hn H qn Q t o v p n hh hq h1 h2 hM.asc hC2 ho2 hb hw hl hz
      ·rw [if_pos hz]
       exact e4 hb hr hw hl hz
     ·rw [if_neg hl]
      by_cases h54:o=54
      ·rw [if_pos h54]
       by_cases hz:hld own H t=1
       ·rw [if_neg (by simp [hz])]
        subst h54
        have hn0:hn=false:=by
         cases hn
         ·rfl
         ·rw [hh rfl] at hz
          unfold hld at hz
          split at hz
          ·exact absurd hz (by decide)
          ·simp at hz
        subst hn0
        exact ev_applyU _ bn cn own H qn Q t v p n hq h1 h2 hM.asc hM.task hC2 ho2 hb hw hz
       ·rw [if_pos hz]
        exact e5 hb hr hw h54 hz
      ·rw [if_neg h54]
       have h56:o=56:=by
        simp at hr
        omega
       by_cases hz:hld own H t=2
       ·rw [if_neg (by simp [hz])]
        subst h56
        have hH:H=[]:=by
         rcases hM.ow with ho | ⟨_,ho⟩
         ·unfold hld at hz
          split at hz
          ·rename_i h
           simp at h
           omega
          ·split at hz<;>exact absurd hz (by decide)
         ·exact ho
        subst hH
        exact ev_applyV _ bn cn own hn qn Q t v p n hq h2 hM.task hC2 ho2 hb hw hz
       ·rw [if_pos hz]
        exact e6 hb hr hw h56 hz
    ·rw [if_pos rfl]
     exact e3 hb hr hw
   ·rw [if_pos rfl]
    exact e2 hb hr
  ·rw [if_pos rfl]
   exact e1 hb
 ·rw [if_neg hc]
  have hc2:(ckd k sz ot own cnt time H Q B C cl val != 0)=true:=by simpa using hc
  have hC3:ev P (.call z_68 [.d (.ag [nm,I' k,I' sz,I' ot]),.d (.ag [I' own,I' cnt,I' time,hD hn H,qD qn Q,hD bn B,cD cn C,.b cl,I' val])] [])=some (.val (.d (I' (ckd k sz ot own cnt time H Q B C cl val))) []):=hC
  generalize ckd k sz ot own cnt time H Q B C cl val=ck at *
  refine Rets.zero ?_
  rw [ev_call P_z_69 rfl]
  simp [F_z_69,hC3,hc2,overlay]
end Go.VS.R
namespace Go.VS.R
open Go.VS.Sp
theorem Sp.W.neq {w w':Sp.W} (h:¬w=w'):(!w.task==w'.task||(!w.op==w'.op||(!w.value==w'.value||(!w.prio==w'.prio||!w.case==w'.case))))=true:=by
 cases hb:(!w.task==w'.task||(!w.op==w'.op||(!w.value==w'.value||(!w.prio==w'.prio||!w.case==w'.case))))
 ·exfalso;apply h
  simp at hb
  cases w;cases w';simp at hb ⊢;exact hb
 ·rfl
end Go.VS.R
namespace Go.VS.R
open Go.VS.Sp
end Go.VS.R
namespace Go.VS.R
open Go.VS.Sp
def apS (k sz ot own cnt time:Int) (H:List Int) (Q:List Sp.W) (B:List Int) (C:List (List D)) (cl:Bool) (val:Int) (t o p n:Int):Rp :=
 if ckd k sz ot own cnt time H Q B C cl val=0 then apV own H Q t o p n else zr 1
theorem ev_mReady (nm:D) (k sz ot:Int) (own cnt time:Int) (hn:Bool) (H:List Int) (qn:Bool) (Q:List Sp.W) (bn:Bool) (B:List Int) (cn:Bool) (C:List (List D)) (cl:Bool) (val:Int) (t o v p n:Int)
  (hh:hn=true→H=[]) (hq:qn=true→Q=[]) (h1:H.length≤500) (h2:Q.length≤500) :
  ev P (.call z_71 [.d (.ag [nm,I' k,I' sz,I' ot]),.d (stF own cnt time hn H qn Q bn B cn C cl val),.d (.ag [I' t,I' o,I' v,I' p,I' n])] [])=some (.val (.d (.b ((apS k sz ot own cnt time H Q B C cl val t o p n).e==0&&!(apS k sz ot own cnt time H Q B C cl val t o p n).parked))) []):=by
 obtain ⟨b1,b2,b3,b4,b5,hA,_,_⟩:=ev_mApply nm k sz ot own cnt time hn H qn Q bn B cn C cl val t o v p n hh hq (by omega) (by omega)
 have e:(if ckd k sz ot own cnt time H Q B C cl val=0 then apV own H Q t o p n else zr 1)=apS k sz ot own cnt time H Q B C cl val t o p n:=rfl
 rw [e] at hA
 generalize apS k sz ot own cnt time H Q B C cl val t o p n=r at *
 rw [ev_call P_z_71 rfl]
 cases he:r.e==0
 ·simp [F_z_71,hA,he]
 ·simp [F_z_71,hA,he]
end Go.VS.R
namespace Go.VS.R
open Go.VS.Sp
end Go.VS.R
namespace Go.VS.R
open Go.VS.Sp
def SAsc (l:List Int):Prop:=l.Pairwise (·<·)
theorem SAsc.asc {l:List Int} (h:SAsc l):Asc l:=List.Pairwise.imp (fun h=>Int.le_of_lt h) h
end Go.VS.R
namespace Go.VS.Sp
def okMq (s:S):Bool:=M.mvalid s.own s.cnt s.time s.H s.Q s.B (s.C.map K.row) s.cl s.val
def okWq (s:S):Bool:=R.mvalid s.own s.cnt s.time s.H s.Q s.B (s.C.map K.row) s.cl s.val
def ckG (k sz ot:Int) (s:S):Int :=
 if k=1 then ck (nwA 1 k sz ot) (okMq s) else if k=2 then ck (nwA 2 k sz ot) (okWq s) else if k=4 then ck (nwS k sz ot) (okSq sz ot s)
 else if k=5 then ck (nwB k sz ot) (okBq sz s) else if k=6 then ck (nwC k sz ot) (okCq sz s) else if k=7 then ckd k sz ot s
 else if k=8 then ck (nwL k sz ot) (okLq sz s) else if k=9 then ck (nwA 9 k sz ot) (okFq s) else 8
structure S.fine (s:S):Prop where
 wf:s.wf
 qn:s.qn=true→s.Q=[]
 h:s.H.length≤40
 q:s.Q.length≤40
 b:s.B.length≤120
 c:s.C.length≤40
 l:∀c∈s.C,c.log.length≤120
theorem S.fine.sm {s:S} (h:s.fine):s.sm:=⟨by have:=h.h;omega,by have:=h.b;omega,by have:=h.q;omega,by have:=h.c;omega,fun c hc=>by have:=h.l c hc;omega⟩
theorem fine_of {s:S} (hw:s.wf) (hq:s.qn=true→s.Q=[]) (hg:s.great=false):s.fine:=by
 unfold S.great at hg
 simp at hg
 obtain ⟨⟨⟨⟨h1,h2⟩,h3⟩,h4⟩,h5⟩:=hg
 exact ⟨hw,hq,by omega,by omega,by omega,by omega,fun c hc=>by have:=h5 c hc;omega⟩
theorem ev_ckMq (nm:D) (k sz ot:Int) (s:S) (h:s.fine) :
  ev P (.call z_63 [.d (.ag [nm,I' k,I' sz,I' ot]),.d (.ag s.row)] [])=some (.val (.d (I' (ck (nwA 1 k sz ot) (okMq s)))) []):=by
 have hs:=h.sm
 exact M.ev_mCheck nm k sz ot s.own s.cnt s.time s.hn s.H s.qn s.Q s.bn s.B s.cn (s.C.map K.row) s.cl s.val hs.h hs.q hs.b (by simpa using hs.c)
theorem ev_ckWq (nm:D) (k sz ot:Int) (s:S) (h:s.fine) :
  ev P (.call z_68 [.d (.ag [nm,I' k,I' sz,I' ot]),.d (.ag s.row)] [])=some (.val (.d (I' (ck (nwA 2 k sz ot) (okWq s)))) []):=by
 have hs:=h.sm
 exact R.ev_mCheck nm k sz ot s.own s.cnt s.time s.hn s.H s.qn s.Q s.bn s.B s.cn (s.C.map K.row) s.cl s.val h.wf.1 h.qn (by have:=h.h;omega) hs.q
def kinds (k:Int) (t f g:Nat):Prop :=
 (k=1∧t=101∧f=z_62∧g=z_63)∨(k=2∧t=102∧f=z_67∧g=z_68)∨(k=4∧t=103∧f=z_72∧g=z_73) ∨
 (k=5∧t=104∧f=z_77∧g=z_78)∨(k=6∧t=105∧f=z_82∧g=z_83)∨(k=7∧t=106∧f=z_87∧g=z_88) ∨
 (k=8∧t=107∧f=z_92∧g=z_93)∨(k=9∧t=108∧f=z_97∧g=z_98)
theorem of_kind {k:Int} (hk:k=1∨k=2∨k=4∨k=5∨k=6∨k=7∨k=8∨k=9):∃t f g,kinds k t f g∧ev P (.call z_37 [.d (I' k)] [])=some (.val (.tu [.d (.ifc t (.ag [.fn f [] [],.fn g [] []])),.d (.b true)]) []):=by
 unfold kinds
 rcases hk with h | h | h | h | h | h | h | h<;>subst h
 ·exact ⟨101,z_62,z_63,by simp,ev_of1⟩
 ·exact ⟨102,z_67,z_68,by simp,ev_of2⟩
 ·exact ⟨103,z_72,z_73,by simp,ev_of4⟩
 ·exact ⟨104,z_77,z_78,by simp,ev_of5⟩
 ·exact ⟨105,z_82,z_83,by simp,ev_of6⟩
 ·exact ⟨106,z_87,z_88,by simp,ev_of7⟩
 ·exact ⟨107,z_92,z_93,by simp,ev_of8⟩
 ·exact ⟨108,z_97,z_98,by simp,ev_of9⟩
theorem kinds_t {k:Int} {t f g:Nat} (h:kinds k t f g):t=101∨t=102∨t=103∨t=104∨t=105∨t=106∨t=107∨t=108:=by
 unfold kinds at h
 omega
theorem ev_ckK {k:Int} {t f g:Nat} (hk:kinds k t f g) (nm:D) (sz ot:Int) (s:S) (h:s.fine) :
  ev P (.call g [.d (.ag [nm,I' k,I' sz,I' ot]),.d (.ag s.row)] [])=some (.val (.d (I' (ckG k sz ot s))) []):=by
 have hs:=h.sm
 unfold kinds at hk
 rcases hk with ⟨rfl,rfl,rfl,rfl⟩ | ⟨rfl,rfl,rfl,rfl⟩ | ⟨rfl,rfl,rfl,rfl⟩ | ⟨rfl,rfl,rfl,rfl⟩ | ⟨rfl,rfl,rfl,rfl⟩ | ⟨rfl,rfl,rfl,rfl⟩ | ⟨rfl,rfl,rfl,rfl⟩ | ⟨rfl,rfl,rfl,rfl⟩
 ·exact ev_ckMq nm 1 sz ot s h
 ·exact ev_ckWq nm 2 sz ot s h
 ·exact ev_ckSq nm 4 sz ot s hs
 ·exact ev_ckBq nm 5 sz ot s hs
 ·exact ev_ckCq nm 6 sz ot s hs
 ·exact ev_mCheck nm 7 sz ot s hs
 ·exact ev_ckLq nm 8 sz ot s hs
 ·exact ev_ckFq nm 9 sz ot s hs
def S.ab (qn:Bool) (s:S):S:={ s with qn:=qn,Q:=[] }
theorem ckG_unknown {k sz ot:Int} {s:S} (hk:¬(k=1∨k=2∨k=4∨k=5∨k=6∨k=7∨k=8∨k=9)):ckG k sz ot s=8:=by
 unfold ckG
 simp only [not_or] at hk
 simp [hk]
theorem ev_Abstract (nm:D) (k sz ot:Int) (s:S) (h:s.fine) :
  ev P (.call z_25 [.d (.ag [nm,I' k,I' sz,I' ot]),.d (.ag s.row)] [])=some (.val (.tu [.d (.ag (if ckG k sz ot s=0 then (s.ab true).row else zrow)),.d (I' (ckG k sz ot s))]) []):=by
 rw [ev_call P_z_25 rfl]
 by_cases hk:k=1∨k=2∨k=4∨k=5∨k=6∨k=7∨k=8∨k=9
 ·obtain ⟨t,f,g,hkk,hof⟩:=of_kind hk
  have hC:=ev_lcheck f g nm k sz ot _ s (ev_ckK hkk nm sz ot s h)
  have ht:=kinds_t hkk
  generalize ckG k sz ot s=e at *
  simp only [S.row] at hC
  by_cases he:e=0
  ·subst he
   simp only [if_true,S.ab,S.row]
   rcases ht with h | h | h | h | h | h | h | h<;>subst h<;>simp [F_z_25,hof,invV,hC,overlay]
  ·rw [if_neg he]
   have he':(e != 0)=true:=by simpa using he
   rcases ht with h | h | h | h | h | h | h | h<;>subst h<;>simp [F_z_25,hof,invV,hC,he',zrow]
 ·have hU:=ev_ofU hk
  rw [ckG_unknown hk,if_neg (by decide)]
  simp [F_z_25,hU,zrow]
end Go.VS.Sp
namespace Go.VS.Sp
theorem ev_fg0 (g:Nat) (x:D) (r1 r2 r3:List D) :
  ev P (.call z_211r [.d (.sl 5 true []),.fn g [] [.loc 0 0 0,.loc 1 0 0,.d x,.loc 2 0 0]] [.arrD 1 true [r1],.arrD 1 true [r2],.arrD 1 true [r3]])=some (.val (.d (.sl 5 true [])) [.arrD 1 true [r1],.arrD 1 true [r2],.arrD 1 true [r3]]):=by
 have hL:ev P (.loop 3 [1,5,8,9,10] F_z_211r_L0 [(1,.fn g [] [.loc 0 0 0,.loc 1 0 0,.d x,.loc 2 0 0]),(5,.d (.sl 5 true [])),(8,.d (.sl 5 true [])),(9,.d (I' 0)),(10,.d (I' 0))] [.arrD 1 true [r1],.arrD 1 true [r2],.arrD 1 true [r3]])=some (.out (.exit 0) [(5,.d (.sl 5 true []))] [.arrD 1 true [r1],.arrD 1 true [r2],.arrD 1 true [r3]]):=by
  rw [ev_loop]
  conv=>lhs;arg 4;unfold F_z_211r_L0
  simp [reachC,cut,rg3]
 rw [ev_call P_z_211r rfl]
 simp [F_z_211r,endH,sub,reachC,cut,List.idxOf_cons,rg3,hL]
theorem ev_Grant0 (n:Int) (any:Bool):ev P (.call z_219 [.d (.sl 5 true []),.d (I' n),.d (.b any)] [])=some (.val (.tu [.d (.sl 5 true []),.d (.sl 5 true []),.d (I' n)]) []):=by
 rw [ev_call P_z_219 rfl]
 simp [F_z_219,callR,sub,setAll,back,reachC,cut,List.idxOf_cons,ev_fg0,V.same_self]
theorem ev_Push1 (w:W) (h:wvalid w=true):ev P (.call z_147 [.d (I' 1),.d (.sl 5 true []),.d (.ag w.row)] [])=some (.val (.tu [.d (.sl 5 false [w.row]),.d (I' 0)]) []):=by
 have hC:=ev_wC0 true
 have hv:=ev_wvalid w.task w.op w.value w.prio w.case
 rw [W.eta,h] at hv
 have hC:ev P (.call z_142 [.d (I' 1),.d (.sl 5 true [])] [])=some (.val (.d (I' 0)) []):=hC
 have hL:ev P (.loop 0 [0,1,5,9] F_z_147_L0 [(0,.d (I' 1)),(1,.d (.sl 5 true [])),(5,.d (.ref [I' w.task,I' w.op,I' w.value,I' w.prio,I' w.case])),(9,.d (I' 0))] [])=some (.out (.exit 0) [(1,.d (.sl 5 true [])),(5,.d (.ref [I' w.task,I' w.op,I' w.value,I' w.prio,I' w.case])),(9,.d (I' 0))] []):=by
  rw [ev_loop]
  conv=>lhs;arg 4;unfold F_z_147_L0
  simp
 have hr:1≤room:=by decide
 rw [ev_call P_z_147 rfl]
 simp [F_z_147,W.row,hC,hv,hL,wrap1,hr]
def prow (s:S) (cnt:Int) (q:D) (any:Bool):List D:=[I' s.own,I' cnt,I' s.time,hD s.hn s.H,q,hD s.bn s.B,cD s.cn s.C,.b s.cl,I' s.val,.b any]
theorem ev_take0 (s:S) (cnt:Int) (any:Bool) (n:Int) (h0:0≤n∧n≤1000) (hc:0≤cnt∧cnt≤1000) :
  ev P (.call z_146 [.loc 0 0 0,.d (I' n)] [.arrD 10 true [prow s cnt (.sl 5 true []) any]])=some (.val (.d (.b (decide (n≤cnt)))) [.arrD 10 true [prow s (if n≤cnt then cnt - n else cnt) (.sl 5 true []) any]]):=by
 have hw:IntKind.i64.wrap (cnt - n)=cnt - n:=wrap_i64 (by omega) (by omega)
 rw [ev_call P_z_146 rfl]
 by_cases h:n≤cnt
 ·have h':¬cnt<n:=by omega
  cases any<;>simp [F_z_146,prow,h,h',hw,overlay,endH,sub,reachC,cut,List.range_succ,List.idxOf_cons]
 ·have h':cnt<n:=by omega
  simp [F_z_146,prow,h,h',endH,sub,reachC,cut,List.range_succ,List.idxOf_cons]
theorem ev_serve0 (s:S) (cnt:Int) (any:Bool) :
  ev P (.call z_150 [.loc 0 0 0] [.arrD 10 true [prow s cnt (.sl 5 true []) any]])=some (.val (.d (.sl 5 true [])) [.arrD 10 true [prow s cnt (.sl 5 true []) any]]):=by
 have hG:=ev_Grant0 cnt any
 have hL:∀H:List O,H=[.arrD 10 true [prow s cnt (.sl 5 true []) any]]→ev P (.loop 1 [6,38,39,40] F_z_150_L0 [(6,.d (.sl 5 true [])),(38,.d (.sl 5 true [])),(39,.d (I' 0)),(40,.d (I' 0))] H)=some (.out (.exit 0) [(6,.d (.sl 5 true []))] H):=by
  intro H hH
  subst hH
  rw [ev_loop]
  conv=>lhs;arg 4;unfold F_z_150_L0
  simp [reachC,cut,List.range_succ]
 have hL:=hL _ rfl
 unfold prow at hL ⊢
 rw [ev_call P_z_150 rfl]
 simp [F_z_150,hG,overlay,endH,sub,reachC,cut,List.range_succ,List.idxOf_cons,V.same_self,hL]
abbrev rpD (pk ok:Bool) (wk:D):D:=.ag [I' 0,I' 0,I' 0,.sl 1 true [],.sl 5 true [],.sl 1 true [],.sl 2 true [],.b false,I' 0,.b pk,I' 0,.b ok,wk]
theorem ev_SC1 (s:S) (cnt:Int) (any:Bool) (c:Cl) (h0:0≤c.value∧c.value≤1000) (hc:0≤cnt∧cnt≤1000) (hw:wvalid ⟨c.task,c.op,c.value,c.prio,-1⟩=true) :
  ev P (.call z_145 [.rf [.loc 0 0 0],.d (.ref c.row)] [.arrD 10 true [prow s cnt (.sl 5 true []) any]]) =
   if c.value≤cnt then some (.val (.d (rpD false true (.sl 5 true []))) [.arrD 10 true [prow s (cnt - c.value) (.sl 5 true []) any]])
   else some (.val (.d (rpD true false (.sl 5 true []))) [.arrD 10 true [prow s cnt (.sl 5 false [[I' c.task,I' c.op,I' c.value,I' c.prio,I' (-1)]]) any]]):=by
 have hT:=ev_take0 s cnt any c.value h0 hc
 have hP:=ev_Push1 _ hw
 simp only [W.row] at hP
 unfold prow at hT ⊢
 rw [ev_call P_z_145 rfl]
 by_cases h:c.value≤cnt
 ·rw [if_pos h]
  rw [if_pos h] at hT
  have hd:decide (c.value≤cnt)=true:=by simpa using h
  rw [hd] at hT
  simp [F_z_145,Cl.row,callR,sub,setAll,back,hT,endH,overlay,reachC,cut,List.range_succ,List.idxOf_cons]
 ·rw [if_neg h]
  rw [if_neg h] at hT
  have hd:decide (c.value≤cnt)=false:=by simpa using h
  rw [hd] at hT
  simp [F_z_145,Cl.row,callR,sub,setAll,back,hT,hP,endH,overlay,reachC,cut,List.range_succ,List.idxOf_cons,V.same_self]
theorem ev_SC2 (s:S) (cnt:Int) (any:Bool) (c:Cl) (h0:0≤c.value∧c.value≤1000) (hc:0≤cnt∧cnt≤1000) :
  ev P (.call z_148 [.rf [.loc 0 0 0],.d (.ref c.row)] [.arrD 10 true [prow s cnt (.sl 5 true []) any]]) =
   some (.val (.d (rpD false (decide (c.value≤cnt)) (.sl 5 true []))) [.arrD 10 true [prow s (if c.value≤cnt then cnt - c.value else cnt) (.sl 5 true []) any]]):=by
 have hT:=ev_take0 s cnt any c.value h0 hc
 unfold prow at hT ⊢
 rw [ev_call P_z_148 rfl]
 generalize decide (c.value≤cnt)=b at *
 generalize (if c.value≤cnt then cnt - c.value else cnt)=n at *
 simp [F_z_148,Cl.row,callR,sub,setAll,back,hT,endH,overlay,reachC,cut,List.range_succ,List.idxOf_cons]
theorem ev_SC3 (s:S) (cnt:Int) (any:Bool) (c:Cl) (h0:0≤c.value∧c.value≤1000) (hc:0≤cnt∧cnt≤1000) :
  ev P (.call z_149 [.rf [.loc 0 0 0],.d (.ref c.row)] [.arrD 10 true [prow s cnt (.sl 5 true []) any]]) =
   some (.val (.d (rpD false true (.sl 5 true []))) [.arrD 10 true [prow s (cnt+c.value) (.sl 5 true []) any]]):=by
 have hS:=ev_serve0 s (cnt+c.value) any
 have hw:IntKind.i64.wrap (cnt+c.value)=cnt+c.value:=wrap_i64 (by omega) (by omega)
 unfold prow at hS ⊢
 rw [ev_call P_z_149 rfl]
 simp [F_z_149,Cl.row,callR,sub,setAll,back,hw,hS,endH,overlay,reachC,cut,List.range_succ,List.idxOf_cons,V.same_self]
def sCE (sz cnt:Int) (c:Cl):Int:=if cbad c then 2 else if (c.op != 60&&c.op != 61&&c.op != 62) then 8 else if (decide (c.value<1)||decide (sz<c.value)) then 2 else if (c.op==62&&decide (sz<cnt+c.value)) then 17 else 0
theorem ev_Scall (nm:D) (k sz ot:Int) (s:S) (c:Cl) (hz:sz≤100) (hc:0≤s.cnt∧s.cnt≤sz) :
  ev P (.call z_144 [.d (.ag [nm,I' k,I' sz,I' ot]),.d (.ag (s.ab true).row),.d (.ag c.row)] [])=some (.val (.d (I' (sCE sz s.cnt c))) []):=by
 have hF:ev P (.call z_132 [.d (qD true []),.d (I' c.task)] [])=some (.val (.tu [.d (I' 0),.d (.b false)]) []):=ev_wFind true [] c.task (by simp)
 rw [ev_call P_z_144 rfl]
 unfold sCE
 cases h1:cbad c
 ·unfold cbad at h1
  cases h2:(c.op != 60&&c.op != 61&&c.op != 62)
  ·cases h3:(decide (c.value<1)||decide (sz<c.value))
   ·have h3':=h3
    simp at h3'
    have hw:IntKind.i64.wrap (s.cnt+c.value)=s.cnt+c.value:=wrap_i64 (by omega) (by omega)
    cases h4:(c.op==62&&decide (sz<s.cnt+c.value))
    ·simp [F_z_144,S.ab,Cl.row,h1,h2,h3,hF,hw,h4]
    ·simp [F_z_144,S.ab,Cl.row,h1,h2,h3,hF,hw,h4]
   ·simp [F_z_144,S.ab,Cl.row,h1,h2,h3]
  ·simp [F_z_144,S.ab,Cl.row,h1,h2]
 ·unfold cbad at h1
  simp [F_z_144,S.ab,Cl.row,h1]
def Rd (x:Option Res) (e:Int) (pk:Bool):Prop:=∃a1 a2 a3 a4 a5 a6 a7 a8 a9 b1 b2 b3:D,x=some (.val (.tu [.d (.ag [a1,a2,a3,a4,a5,a6,a7,a8,a9,.b pk,b1,b2,b3]),.d (I' e)]) [])
theorem Rd.mk' {x:Option Res} {e:Int} {pk:Bool} {a1 a2 a3 a4 a5 a6 a7 a8 a9 b1 b2 b3:D} (h:x=some (.val (.tu [.d (.ag [a1,a2,a3,a4,a5,a6,a7,a8,a9,.b pk,b1,b2,b3]),.d (I' e)]) [])):Rd x e pk:=⟨_,_,_,_,_,_,_,_,_,_,_,_,h⟩
theorem ev_SAp (nm:D) (k sz ot:Int) (s:S) (c:Cl) (hz:sz≤100) (hc:0≤s.cnt∧s.cnt≤sz) (hck:ev P (.call z_73 [.d (.ag [nm,I' k,I' sz,I' ot]),.d (.ag (s.ab true).row)] [])=some (.val (.d (I' 0)) [])) :
  Rd (ev P (.call z_74 [.d (.ag [nm,I' k,I' sz,I' ot]),.d (.ag (s.ab true).row),.d (.ag c.row)] [])) (sCE sz s.cnt c) (decide (sCE sz s.cnt c=0)&&(c.op==60&&decide (s.cnt<c.value))):=by
 have hcl:=ev_Scall nm k sz ot s c hz hc
 rw [ev_call P_z_74 rfl]
 simp only [S.ab,S.row,Cl.row,qD,List.map_nil] at hck hcl ⊢
 by_cases he:sCE sz s.cnt c=0
 ·have he2:=he
  unfold sCE at he2
  rw [he] at hcl ⊢
  have h1:cbad c=false:=by
   cases h:cbad c
   ·rfl
   ·rw [h,if_pos rfl] at he2;cases he2
  rw [h1,if_neg (by simp)] at he2
  have h2:(c.op != 60&&c.op != 61&&c.op != 62)=false:=by
   cases h:(c.op != 60&&c.op != 61&&c.op != 62)
   ·rfl
   ·rw [h,if_pos rfl] at he2;cases he2
  rw [h2,if_neg (by simp)] at he2
  have h3:(decide (c.value<1)||decide (sz<c.value))=false:=by
   cases h:(decide (c.value<1)||decide (sz<c.value))
   ·rfl
   ·rw [h,if_pos rfl] at he2;cases he2
  simp at h3
  have hv:0≤c.value∧c.value≤1000:=by omega
  have hcc:0≤s.cnt∧s.cnt≤1000:=by omega
  have hop:c.op=60∨c.op=61∨c.op=62:=by simp at h2;omega
  have hwv:c.op=60→wvalid ⟨c.task,c.op,c.value,c.prio,-1⟩=true:=by
   intro h
   unfold cbad at h1
   simp at h1
   unfold wvalid wbad
   simp
   omega
  cases hb:(ot==1)
  all_goals
   have a1:=ev_SC1 s s.cnt (ot==1) c hv hcc
   have a2:=ev_SC2 s s.cnt (ot==1) c hv hcc
   have a3:=ev_SC3 s s.cnt (ot==1) c hv hcc
   unfold prow at a1 a2 a3
   simp only [Cl.row,hb] at a1 a2 a3
   rcases hop with ho | ho | ho
   ·have a1:=a1 (hwv ho)
    rw [ho] at a1 hcl ⊢
    by_cases hle:c.value≤s.cnt
    ·rw [if_pos hle] at a1
     have hlt:decide (s.cnt<c.value)=false:=by simp;omega
     rw [hlt]
     simp [F_z_74,hck,hcl,hb,callR,sub,setAll,back,a1,endH,overlay,reachC,cut,List.range_succ,List.idxOf_cons,V.same_self]
     exact Rd.mk' rfl
    ·rw [if_neg hle] at a1
     have hlt:decide (s.cnt<c.value)=true:=by simp;omega
     rw [hlt]
     simp [F_z_74,hck,hcl,hb,callR,sub,setAll,back,a1,endH,overlay,reachC,cut,List.range_succ,List.idxOf_cons,V.same_self]
     exact Rd.mk' rfl
   ·rw [ho] at a2 hcl ⊢
    generalize (if c.value≤s.cnt then s.cnt - c.value else s.cnt)=n at a2
    generalize decide (c.value≤s.cnt)=b at a2
    simp [F_z_74,hck,hcl,hb,callR,sub,setAll,back,a2,endH,overlay,reachC,cut,List.range_succ,List.idxOf_cons,V.same_self]
    exact Rd.mk' rfl
   ·rw [ho] at a3 hcl ⊢
    simp [F_z_74,hck,hcl,hb,callR,sub,setAll,back,a3,endH,overlay,reachC,cut,List.range_succ,List.idxOf_cons,V.same_self]
    exact Rd.mk' rfl
 ·rw [show decide (sCE sz s.cnt c=0)=false by simpa using he]
  generalize sCE sz s.cnt c=e at *
  have he':(e != 0)=true:=by simpa using he
  simp [F_z_74,hck,hcl,he',overlay]
  exact Rd.mk' rfl
end Go.VS.Sp
namespace Go.VS.Sp
theorem ev_cln0:ev P (.call z_153 [.d (.sl 5 true [])] [])=some (.val (.d (.sl 5 true [])) []):=by
 rw [ev_call P_z_153 rfl]
 simp [F_z_153,endH]
theorem ev_first0 (f:Nat) (a b:List D):ev P (.call z_289 [.d (.sl 5 true []),.d (.fn f a b)] [])=some (.val (.tu [.d (.ag [I' 0,I' 0,I' 0,I' 0,I' 0]),.d (.b false)]) []):=by
 have hi:ev P (.call z_123 [.d (.sl 5 true []),.d (.fn f a b)] [])=some (.val (.d (I' (-1))) []):=by
  have hL:ev P (.loop 0 [0,1,7,8] F_z_123_L0 [(0,.d (.sl 5 true [])),(1,.d (.fn f a b)),(7,.d (I' 0)),(8,.d (I' 0))] [])=some (.out (.exit 0) [] []):=by
   rw [ev_loop]
   conv=>lhs;arg 4;unfold F_z_123_L0
   simp
  rw [ev_call P_z_123 rfl]
  simp [F_z_123,hL]
 rw [ev_call P_z_289 rfl]
 simp [F_z_289,hi]
abbrev lA (sz:Int) (s:S) (b:V) (R:List (List D)):List O:=[.arrV 11 [[.d (I' sz),.d (I' s.own),.d (I' s.cnt),.d (I' s.time),.d (hD s.hn s.H),.d (.sl 5 true []),b,.d (cD s.cn s.C),.d (.b s.cl),.d (I' s.val),.d (.sl 5 true [])]],.arrD 1 true R]
abbrev lN (sz:Int) (s:S) (bd:D):List O:=[.arrD 11 true [[I' sz,I' s.own,I' s.cnt,I' s.time,hD s.hn s.H,.sl 5 true [],bd,cD s.cn s.C,.b s.cl,I' s.val,.sl 5 true []]]]
theorem ev_chgA (nm:D) (k sz ot:Int) (s:S) (hb:s.bn=false) (hn:s.B.length≤1000000) :
  ev P (.call z_161 [.d (.ag [nm,I' k,I' sz,I' ot]),.d (.ag (s.ab true).row)] [])=some (.val (.loc 0 0 0) (lA sz s (.asl 1 0 s.B.length) (rows1 s.B))):=by
 have hc:=ev_CloneI false s.B (by simp) hn
 have h0:=ev_cln0
 rw [ev_call P_z_161 rfl]
 simp at hc
 simp only [S.ab,S.row,qD,List.map_nil] at *
 simp [F_z_161,hb,hc,h0,callD,callR,sub,setAll,back,endH,overlay,reachC,cut,List.range_succ,List.idxOf_cons,V.same_self,thaw,freezeAll,freeze1,rg2,rg3,take_map_len,drop_map_len]
theorem ev_chgN (nm:D) (k sz ot:Int) (s:S) (hb:s.bn=true) :
  ev P (.call z_161 [.d (.ag [nm,I' k,I' sz,I' ot]),.d (.ag ({ s with B:=[] }.ab true).row)] [])=some (.val (.loc 0 0 0) (lN sz s (.sl 1 true []))):=by
 have hc:=ev_CloneI true [] (by simp) (by simp)
 have h0:=ev_cln0
 rw [ev_call P_z_161 rfl]
 simp at hc
 simp only [S.ab,S.row,qD,List.map_nil] at *
 simp [F_z_161,hb,hc,h0,callD,callR,sub,setAll,back,endH,overlay,reachC,cut,List.range_succ,List.idxOf_cons,V.same_self,thaw,freezeAll,freeze1,rg2,rg3,take_map_len,drop_map_len]
theorem ev_lwA (sz op:Int) (s:S) (i n:Nat) (R:List (List D)) :
  ev P (.call z_268 [.loc 0 0 0,.d (I' op)] (lA sz s (.asl 1 i n) R))=some (.val (.tu [.d (.ag [I' 0,I' 0,I' 0,I' 0,I' 0]),.d (.b false)]) (lA sz s (.asl 1 i n) R)):=by
 have hf:=fun f a b=>ev_first0 f a b
 rw [ev_call P_z_268 rfl]
 simp [F_z_268,hf,callD,callR,sub,setAll,back,endH,overlay,reachC,cut,List.range_succ,List.idxOf_cons,V.same_self,thaw,freezeAll,freeze1,rg2,rg3]
abbrev rplA (s:S) (b:V) (pk:Bool) (n:Int) (ok:Bool) (q:V):V:=.ag [.d (I' s.own),.d (I' s.cnt),.d (I' s.time),.d (hD s.hn s.H),q,b,.d (cD s.cn s.C),.d (.b s.cl),.d (I' s.val),.d (.b pk),.d (I' n),.d (.b ok),.d (.sl 5 true [])]
theorem ev_ldA (sz n':Int) (ok:Bool) (s:S) (i n:Nat) (R:List (List D)) :
  ev P (.call z_270 [.loc 0 0 0,.d (I' n'),.d (.b ok)] (lA sz s (.asl 1 i n) R))=some (.val (rplA s (.asl 1 i n) false n' ok (.d (.sl 5 true []))) (lA sz s (.asl 1 i n) R)):=by
 rw [ev_call P_z_270 rfl]
 simp [F_z_270,callD,callR,sub,setAll,back,endH,overlay,reachC,cut,List.range_succ,List.idxOf_cons,V.same_self,thaw,freezeAll,freeze1,rg2,rg3]
abbrev lB (sz:Int) (s:S) (n:Nat) (R:List (List D)):List O:=[.arrV 11 [[.d (I' sz),.d (I' s.own),.d (I' s.cnt),.d (I' s.time),.d (hD s.hn s.H),.d (.sl 5 true []),.asl 2 0 n,.d (cD s.cn s.C),.d (.b s.cl),.d (I' s.val),.d (.sl 5 true [])]],.dead,.arrD 1 true R]
theorem ev_lpA (sz v:Int) (s:S) (n:Nat) (R:List (List D)) (hR:R.length=n) (hn:n≤1000) :
  ev P (.call z_271 [.loc 0 0 0,.d (I' v)] (lA sz s (.asl 1 0 n) R))=some (.val (.tu []) (lB sz s (n+1) (R++[[I' v]]))):=by
 have h1:n≤R.length:=by omega
 have h2:¬n+1≤R.length:=by omega
 have h3:n+1≤room:=by unfold room;omega
 have h4:R.take n=R:=by rw [←hR];simp
 rw [ev_call P_z_271 rfl]
 simp [F_z_271,h1,h2,h3,h4,callD,callR,sub,setAll,back,endH,overlay,reachC,cut,List.range_succ,List.idxOf_cons,V.same_self,thaw,freezeAll,freeze1,rg2,rg3]
theorem ev_lkA (sz:Int) (s:S) (c:Cl) (i n:Nat) (R:List (List D)) :
  ev P (.call z_272 [.loc 0 0 0,.d (.ag c.row)] (lA sz s (.asl 1 i n) R))=some (.val (rplA s (.asl 1 i n) true 0 false (.asl 2 0 1)) [.arrV 11 [[.d (I' sz),.d (I' s.own),.d (I' s.cnt),.d (I' s.time),.d (hD s.hn s.H),.asl 2 0 1,.asl 1 i n,.d (cD s.cn s.C),.d (.b s.cl),.d (I' s.val),.d (.sl 5 true [])]],.arrD 1 true R,.arrD 5 true [[I' c.task,I' c.op,I' (if c.op=64 then c.value else 0),I' c.prio,I' (-1)]]]):=by
 have h3:1≤room:=by decide
 rw [ev_call P_z_272 rfl]
 cases h:c.op==64
 ·have h':=h
  simp at h'
  simp [F_z_272,Cl.row,h,h',h3,callD,callR,sub,setAll,back,endH,overlay,reachC,cut,List.range_succ,List.idxOf_cons,V.same_self,thaw,freezeAll,freeze1,rg2,rg3]
 ·have h':=h
  simp at h'
  simp [F_z_272,Cl.row,h',h3,callD,callR,sub,setAll,back,endH,overlay,reachC,cut,List.range_succ,List.idxOf_cons,V.same_self,thaw,freezeAll,freeze1,rg2,rg3]
theorem ev_lwN (sz op:Int) (s:S) (bd:D) :
  ev P (.call z_268 [.loc 0 0 0,.d (I' op)] (lN sz s bd))=some (.val (.tu [.d (.ag [I' 0,I' 0,I' 0,I' 0,I' 0]),.d (.b false)]) (lN sz s bd)):=by
 have hf:=fun f a b=>ev_first0 f a b
 rw [ev_call P_z_268 rfl]
 simp [F_z_268,hf,callD,callR,sub,setAll,back,endH,overlay,reachC,cut,List.range_succ,List.idxOf_cons,V.same_self,thaw,freezeAll,freeze1,rg2,rg3]
theorem ev_ldN (sz n':Int) (ok:Bool) (s:S) (bd:D) :
  ev P (.call z_270 [.loc 0 0 0,.d (I' n'),.d (.b ok)] (lN sz s bd))=some (.val (.d (.ag [I' s.own,I' s.cnt,I' s.time,hD s.hn s.H,.sl 5 true [],bd,cD s.cn s.C,.b s.cl,I' s.val,.b false,I' n',.b ok,.sl 5 true []])) (lN sz s bd)):=by
 rw [ev_call P_z_270 rfl]
 simp [F_z_270,callD,callR,sub,setAll,back,endH,overlay,reachC,cut,List.range_succ,List.idxOf_cons,V.same_self,thaw,freezeAll,freeze1,rg2,rg3]
theorem ev_lpN (sz v:Int) (s:S) :
  ev P (.call z_271 [.loc 0 0 0,.d (I' v)] (lN sz s (.sl 1 true [])))=some (.val (.tu []) (lA sz s (.asl 1 0 1) [[I' v]])):=by
 have h3:1≤room:=by decide
 rw [ev_call P_z_271 rfl]
 simp [F_z_271,h3,callD,callR,sub,setAll,back,endH,overlay,reachC,cut,List.range_succ,List.idxOf_cons,V.same_self,thaw,freezeAll,freeze1,rg2,rg3]
theorem ev_lkN (sz:Int) (s:S) (c:Cl) (bd:D) :
  ev P (.call z_272 [.loc 0 0 0,.d (.ag c.row)] (lN sz s bd))=some (.val (rplA s (.d bd) true 0 false (.asl 1 0 1)) [.arrV 11 [[.d (I' sz),.d (I' s.own),.d (I' s.cnt),.d (I' s.time),.d (hD s.hn s.H),.asl 1 0 1,.d bd,.d (cD s.cn s.C),.d (.b s.cl),.d (I' s.val),.d (.sl 5 true [])]],.arrD 5 true [[I' c.task,I' c.op,I' (if c.op=64 then c.value else 0),I' c.prio,I' (-1)]]]):=by
 have h3:1≤room:=by decide
 rw [ev_call P_z_272 rfl]
 cases h:c.op==64
 ·have h':=h
  simp at h'
  simp [F_z_272,Cl.row,h,h',h3,callD,callR,sub,setAll,back,endH,overlay,reachC,cut,List.range_succ,List.idxOf_cons,V.same_self,thaw,freezeAll,freeze1,rg2,rg3]
 ·have h':=h
  simp at h'
  simp [F_z_272,Cl.row,h',h3,callD,callR,sub,setAll,back,endH,overlay,reachC,cut,List.range_succ,List.idxOf_cons,V.same_self,thaw,freezeAll,freeze1,rg2,rg3]
theorem ev_sendA (sz:Int) (s:S) (c:Cl) (n:Nat) (R:List (List D)) (hR:R.length=n) (hn:n≤1000) :
  ev P (.call z_230 [.loc 0 0 0,.d (.ag c.row)] (lA sz s (.asl 1 0 n) R)) =
   if (n:Int)<sz then some (.val (rplA s (.asl 2 0 (n+1)) false 0 true (.d (.sl 5 true []))) (lB sz s (n+1) (R++[[I' c.value]]))) else ev P (.call z_272 [.loc 0 0 0,.d (.ag c.row)] (lA sz s (.asl 1 0 n) R)):=by
 have hw:=ev_lwA sz 65 s 0 n R
 have hp:=ev_lpA sz c.value s n R hR hn
 have hd:=ev_ldA sz 0 true s 0 (n+1) (R++[[I' c.value]])
 have hk:=ev_lkA sz s c 0 n R
 rw [ev_call P_z_230 rfl]
 by_cases h:(n:Int)<sz
 ·rw [if_pos h]
  simp only [Cl.row] at *
  simp [F_z_230,hw,hp,hd,h,callD,callR,sub,setAll,back,endH,overlay,reachC,cut,List.range_succ,List.idxOf_cons,V.same_self,thaw,freezeAll,freeze1,rg2,rg3]
 ·rw [if_neg h,hk]
  simp only [Cl.row] at *
  simp [F_z_230,hw,hk,h,callD,callR,sub,setAll,back,endH,overlay,reachC,cut,List.range_succ,List.idxOf_cons,V.same_self,thaw,freezeAll,freeze1,rg2,rg3]
theorem ev_sendN (sz:Int) (s:S) (c:Cl) :
  ev P (.call z_230 [.loc 0 0 0,.d (.ag c.row)] (lN sz s (.sl 1 true []))) =
   if 0<sz then some (.val (rplA s (.asl 1 0 1) false 0 true (.d (.sl 5 true []))) (lA sz s (.asl 1 0 1) [[I' c.value]])) else ev P (.call z_272 [.loc 0 0 0,.d (.ag c.row)] (lN sz s (.sl 1 true []))):=by
 have hw:=ev_lwN sz 65 s (.sl 1 true [])
 have hp:=ev_lpN sz c.value s
 have hd:=ev_ldA sz 0 true s 0 1 [[I' c.value]]
 have hk:=ev_lkN sz s c (.sl 1 true [])
 rw [ev_call P_z_230 rfl]
 by_cases h:0<sz
 ·rw [if_pos h]
  simp only [Cl.row] at *
  simp [F_z_230,hw,hp,hd,h,callD,callR,sub,setAll,back,endH,overlay,reachC,cut,List.range_succ,List.idxOf_cons,V.same_self,thaw,freezeAll,freeze1,rg2,rg3]
 ·rw [if_neg h,hk]
  simp only [Cl.row] at *
  simp [F_z_230,hw,hk,h,callD,callR,sub,setAll,back,endH,overlay,reachC,cut,List.range_succ,List.idxOf_cons,V.same_self,thaw,freezeAll,freeze1,rg2,rg3]
abbrev lV (sz:Int) (s:S) (bd:D):List O:=[.arrV 11 [[.d (I' sz),.d (I' s.own),.d (I' s.cnt),.d (I' s.time),.d (hD s.hn s.H),.d (.sl 5 true []),.d bd,.d (cD s.cn s.C),.d (.b s.cl),.d (I' s.val),.d (.sl 5 true [])]]]
abbrev rplN (s:S) (bd:D) (n:Int) (ok:Bool):V:=.d (.ag [I' s.own,I' s.cnt,I' s.time,hD s.hn s.H,.sl 5 true [],bd,cD s.cn s.C,.b s.cl,I' s.val,.b false,I' n,.b ok,.sl 5 true []])
theorem ev_ldV (sz n':Int) (ok:Bool) (s:S) (bd:D) :
  ev P (.call z_270 [.loc 0 0 0,.d (I' n'),.d (.b ok)] (lV sz s bd))=some (.val (rplN s bd n' ok) (lV sz s bd)):=by
 rw [ev_call P_z_270 rfl]
 simp [F_z_270,callD,callR,sub,setAll,back,endH,overlay,reachC,cut,List.range_succ,List.idxOf_cons,V.same_self,thaw,freezeAll,freeze1,rg2,rg3]
theorem ev_recA (sz:Int) (s:S) (c:Cl) (n:Nat) (a:Int) (R:List (List D)) (hR:R.length=n+1) :
  ev P (.call z_232 [.loc 0 0 0,.d (.ag c.row)] (lA sz s (.asl 1 0 (n+2)) ([I' a]::R)))=some (.val (rplA s (.asl 1 1 (n+1)) false a true (.d (.sl 5 true []))) (lA sz s (.asl 1 1 (n+1)) ([I' a]::R))):=by
 have hw:=ev_lwA sz 64 s 0 (n+2) ([I' a]::R)
 have hd:=ev_ldA sz a true s 1 (n+1) ([I' a]::R)
 rw [ev_call P_z_232 rfl]
 simp only [Cl.row] at *
 have h1:(0:Int)<(n:Int)+2:=by omega
 have h2:(1:Int)≤(n:Int)+2:=by omega
 have h3:(1:Int)<(n:Int)+2:=by omega
 have h5:(n:Int)+2≤(R.length:Int)+1:=by omega
 have h6:((n:Int)+2).toNat - 1=n+1:=by omega
 simp [F_z_232,hw,hd,h1,h2,h3,h5,h6,callD,callR,sub,setAll,back,endH,overlay,reachC,cut,List.range_succ,List.idxOf_cons,V.same_self,thaw,freezeAll,freeze1,rg2,rg3]
theorem ev_recA1 (sz:Int) (s:S) (c:Cl) (a:Int) :
  ev P (.call z_232 [.loc 0 0 0,.d (.ag c.row)] (lA sz s (.asl 1 0 1) [[I' a]]))=some (.val (rplN s (.sl 1 false []) a true) (lV sz s (.sl 1 false [])++[.arrD 1 true [[I' a]]])):=by
 have hw:=ev_lwA sz 64 s 0 1 [[I' a]]
 have hd:=ev_ldV sz a true s (.sl 1 false [])
 rw [ev_call P_z_232 rfl]
 simp only [Cl.row] at *
 simp [F_z_232,hw,hd,callD,callR,sub,setAll,back,endH,overlay,reachC,cut,List.range_succ,List.idxOf_cons,V.same_self,thaw,freezeAll,freeze1,rg2,rg3]
theorem ev_recA0 (sz:Int) (s:S) (c:Cl) :
  ev P (.call z_232 [.loc 0 0 0,.d (.ag c.row)] (lA sz s (.asl 1 0 0) [])) =
   if s.cl=true then some (.val (rplA s (.asl 1 0 0) false 0 false (.d (.sl 5 true []))) (lA sz s (.asl 1 0 0) [])) else ev P (.call z_272 [.loc 0 0 0,.d (.ag c.row)] (lA sz s (.asl 1 0 0) [])):=by
 have hw:=ev_lwA sz 64 s 0 0 []
 have hd:=ev_ldA sz 0 false s 0 0 []
 have hk:=ev_lkA sz s c 0 0 []
 rw [ev_call P_z_232 rfl]
 obtain ⟨own,cnt,time,hn,H,qn,Q,bn,B,cn,C,cl,val⟩:=s
 cases cl
 ·rw [if_neg (by simp),hk]
  simp only [Cl.row] at *
  simp [F_z_232,hw,hk,callD,callR,sub,setAll,back,endH,overlay,reachC,cut,List.range_succ,List.idxOf_cons,V.same_self,thaw,freezeAll,freeze1,rg2,rg3]
 ·rw [if_pos rfl]
  simp only [Cl.row] at *
  simp [F_z_232,hw,hd,callD,callR,sub,setAll,back,endH,overlay,reachC,cut,List.range_succ,List.idxOf_cons,V.same_self,thaw,freezeAll,freeze1,rg2,rg3]
theorem ev_recN (sz:Int) (s:S) (c:Cl) :
  ev P (.call z_232 [.loc 0 0 0,.d (.ag c.row)] (lN sz s (.sl 1 true []))) =
   if s.cl=true then some (.val (.d (.ag [I' s.own,I' s.cnt,I' s.time,hD s.hn s.H,.sl 5 true [],.sl 1 true [],cD s.cn s.C,.b s.cl,I' s.val,.b false,I' 0,.b false,.sl 5 true []])) (lN sz s (.sl 1 true []))) else ev P (.call z_272 [.loc 0 0 0,.d (.ag c.row)] (lN sz s (.sl 1 true []))):=by
 have hw:=ev_lwN sz 64 s (.sl 1 true [])
 have hd:=ev_ldN sz 0 false s (.sl 1 true [])
 have hk:=ev_lkN sz s c (.sl 1 true [])
 rw [ev_call P_z_232 rfl]
 obtain ⟨own,cnt,time,hn,H,qn,Q,bn,B,cn,C,cl,val⟩:=s
 cases cl
 ·rw [if_neg (by simp),hk]
  simp only [Cl.row] at *
  simp [F_z_232,hw,hk,callD,callR,sub,setAll,back,endH,overlay,reachC,cut,List.range_succ,List.idxOf_cons,V.same_self,thaw,freezeAll,freeze1,rg2,rg3]
 ·rw [if_pos rfl]
  simp only [Cl.row] at *
  simp [F_z_232,hw,hd,callD,callR,sub,setAll,back,endH,overlay,reachC,cut,List.range_succ,List.idxOf_cons,V.same_self,thaw,freezeAll,freeze1,rg2,rg3]
abbrev zRp:List D:=[I' 0,I' 0,I' 0,.sl 1 true [],.sl 5 true [],.sl 1 true [],.sl 2 true [],.b false,I' 0,.b false,I' 0,.b false,.sl 5 true []]
theorem ev_shutA (sz:Int) (s:S) (c:Cl) (n:Nat) (R:List (List D)) :
  ev P (.call z_234 [.loc 0 0 0,.d (.ag c.row)] (lA sz s (.asl 1 0 n) R))=some (.val (rplA { s with cl:=true } (.asl 1 0 n) false 0 true (.d (.sl 5 true []))) (lA sz { s with cl:=true } (.asl 1 0 n) R)):=by
 have hd:=ev_ldA sz 0 true { s with cl:=true } 0 n R
 have hL:∀H:List O,H=lA sz { s with cl:=true } (.asl 1 0 n) R++[.arrD 13 true [zRp]]→ev P (.loop 2 [0,4] F_z_234_L0 [(0,.loc 0 0 0),(4,.loc 2 0 0)] H)=some (.out (.exit 0) [(0,.loc 0 0 0),(4,.loc 2 0 0)] H):=by
  intro H hH
  subst hH
  rw [ev_loop]
  conv=>lhs;arg 4;unfold F_z_234_L0
  simp [callD,callR,sub,setAll,back,endH,overlay,reachC,cut,List.range_succ,List.idxOf_cons,V.same_self,thaw,freezeAll,freeze1,rg2,rg3]
 have hL:=hL _ rfl
 simp at hL
 rw [ev_call P_z_234 rfl]
 simp only [Cl.row] at *
 simp [F_z_234,hL,hd,callD,callR,sub,setAll,back,endH,overlay,reachC,cut,List.range_succ,List.idxOf_cons,V.same_self,thaw,freezeAll,freeze1,rg2,rg3]
theorem ev_shutN (sz:Int) (s:S) (c:Cl) :
  ev P (.call z_234 [.loc 0 0 0,.d (.ag c.row)] (lN sz s (.sl 1 true [])))=some (.val (rplN { s with cl:=true } (.sl 1 true []) 0 true) (lN sz { s with cl:=true } (.sl 1 true []))):=by
 have hd:=ev_ldN sz 0 true { s with cl:=true } (.sl 1 true [])
 have hL:∀H:List O,H=lN sz { s with cl:=true } (.sl 1 true [])++[.arrD 13 true [zRp]]→ev P (.loop 1 [0,4] F_z_234_L0 [(0,.loc 0 0 0),(4,.loc 1 0 0)] H)=some (.out (.exit 0) [(0,.loc 0 0 0),(4,.loc 1 0 0)] H):=by
  intro H hH
  subst hH
  rw [ev_loop]
  conv=>lhs;arg 4;unfold F_z_234_L0
  simp [callD,callR,sub,setAll,back,endH,overlay,reachC,cut,List.range_succ,List.idxOf_cons,V.same_self,thaw,freezeAll,freeze1,rg2,rg3]
 have hL:=hL _ rfl
 simp at hL
 rw [ev_call P_z_234 rfl]
 simp only [Cl.row] at *
 simp [F_z_234,hL,hd,callD,callR,sub,setAll,back,endH,overlay,reachC,cut,List.range_succ,List.idxOf_cons,V.same_self,thaw,freezeAll,freeze1,rg2,rg3]
end Go.VS.Sp
namespace Go.VS.Sp
theorem ev_ops:ev P (.call z_159 [] [])=some (.val (.mp 0) [.mp [(I' 64,.d (.fn z_229 [] [])),(I' 65,.d (.fn z_231 [] [])),(I' 66,.d (.fn z_233 [] []))]]):=by
 rw [ev_call P_z_159 rfl]
 simp [F_z_159,endH,reachC,cut,List.range_succ,List.idxOf_cons]
theorem ev_o1A (sz:Int) (s:S) (c:Cl) (n:Nat) (R:List (List D)) (hR:R.length=n) (hn:n≤1000) :
  ev P (.call z_229 [.loc 0 0 0,.d (.ag c.row)] (lA sz s (.asl 1 0 n) R))=ev P (.call z_230 [.loc 0 0 0,.d (.ag c.row)] (lA sz s (.asl 1 0 n) R)):=by
 have hS:=ev_sendA sz s c n R hR hn
 rw [ev_lkA] at hS
 rw [ev_call P_z_229 rfl]
 by_cases h:(n:Int)<sz
 ·rw [if_pos h] at hS
  rw [hS]
  simp only [Cl.row] at *
  simp [F_z_229,hS,callD,callR,sub,setAll,back,endH,overlay,reachC,cut,List.range_succ,List.idxOf_cons,V.same_self,thaw,freezeAll,freeze1,rg2,rg3]
 ·rw [if_neg h] at hS
  rw [hS]
  simp only [Cl.row] at *
  simp [F_z_229,hS,callD,callR,sub,setAll,back,endH,overlay,reachC,cut,List.range_succ,List.idxOf_cons,V.same_self,thaw,freezeAll,freeze1,rg2,rg3]
theorem ev_o1N (sz:Int) (s:S) (c:Cl) :
  ev P (.call z_229 [.loc 0 0 0,.d (.ag c.row)] (lN sz s (.sl 1 true [])))=ev P (.call z_230 [.loc 0 0 0,.d (.ag c.row)] (lN sz s (.sl 1 true []))):=by
 have hS:=ev_sendN sz s c
 rw [ev_lkN] at hS
 rw [ev_call P_z_229 rfl]
 by_cases h:0<sz
 ·rw [if_pos h] at hS
  rw [hS]
  simp only [Cl.row] at *
  simp [F_z_229,hS,callD,callR,sub,setAll,back,endH,overlay,reachC,cut,List.range_succ,List.idxOf_cons,V.same_self,thaw,freezeAll,freeze1,rg2,rg3]
 ·rw [if_neg h] at hS
  rw [hS]
  simp only [Cl.row] at *
  simp [F_z_229,hS,callD,callR,sub,setAll,back,endH,overlay,reachC,cut,List.range_succ,List.idxOf_cons,V.same_self,thaw,freezeAll,freeze1,rg2,rg3]
theorem ev_o2A (sz:Int) (s:S) (c:Cl) (n:Nat) (a:Int) (R:List (List D)) (hR:R.length=n+1) :
  ev P (.call z_231 [.loc 0 0 0,.d (.ag c.row)] (lA sz s (.asl 1 0 (n+2)) ([I' a]::R)))=ev P (.call z_232 [.loc 0 0 0,.d (.ag c.row)] (lA sz s (.asl 1 0 (n+2)) ([I' a]::R))):=by
 have hS:=ev_recA sz s c n a R hR
 rw [ev_call P_z_231 rfl]
 rw [hS]
 simp only [Cl.row] at *
 simp [F_z_231,hS,callD,callR,sub,setAll,back,endH,overlay,reachC,cut,List.range_succ,List.idxOf_cons,V.same_self,thaw,freezeAll,freeze1,rg2,rg3]
theorem ev_o2A1 (sz:Int) (s:S) (c:Cl) (a:Int) :
  ev P (.call z_231 [.loc 0 0 0,.d (.ag c.row)] (lA sz s (.asl 1 0 1) [[I' a]]))=ev P (.call z_232 [.loc 0 0 0,.d (.ag c.row)] (lA sz s (.asl 1 0 1) [[I' a]])):=by
 have hS:=ev_recA1 sz s c a
 rw [ev_call P_z_231 rfl]
 rw [hS]
 simp only [Cl.row] at *
 simp [F_z_231,hS,callD,callR,sub,setAll,back,endH,overlay,reachC,cut,List.range_succ,List.idxOf_cons,V.same_self,thaw,freezeAll,freeze1,rg2,rg3]
theorem ev_o2A0 (sz:Int) (s:S) (c:Cl) :
  ev P (.call z_231 [.loc 0 0 0,.d (.ag c.row)] (lA sz s (.asl 1 0 0) []))=ev P (.call z_232 [.loc 0 0 0,.d (.ag c.row)] (lA sz s (.asl 1 0 0) [])):=by
 have hS:=ev_recA0 sz s c
 rw [ev_lkA] at hS
 rw [ev_call P_z_231 rfl]
 by_cases h:s.cl=true
 ·rw [if_pos h] at hS
  rw [hS]
  simp only [Cl.row] at *
  simp [F_z_231,hS,callD,callR,sub,setAll,back,endH,overlay,reachC,cut,List.range_succ,List.idxOf_cons,V.same_self,thaw,freezeAll,freeze1,rg2,rg3]
 ·rw [if_neg h] at hS
  rw [hS]
  simp only [Cl.row] at *
  simp [F_z_231,hS,callD,callR,sub,setAll,back,endH,overlay,reachC,cut,List.range_succ,List.idxOf_cons,V.same_self,thaw,freezeAll,freeze1,rg2,rg3]
theorem ev_o2N (sz:Int) (s:S) (c:Cl) :
  ev P (.call z_231 [.loc 0 0 0,.d (.ag c.row)] (lN sz s (.sl 1 true [])))=ev P (.call z_232 [.loc 0 0 0,.d (.ag c.row)] (lN sz s (.sl 1 true []))):=by
 have hS:=ev_recN sz s c
 rw [ev_lkN] at hS
 rw [ev_call P_z_231 rfl]
 by_cases h:s.cl=true
 ·rw [if_pos h] at hS
  rw [hS]
  simp only [Cl.row] at *
  simp [F_z_231,hS,callD,callR,sub,setAll,back,endH,overlay,reachC,cut,List.range_succ,List.idxOf_cons,V.same_self,thaw,freezeAll,freeze1,rg2,rg3]
 ·rw [if_neg h] at hS
  rw [hS]
  simp only [Cl.row] at *
  simp [F_z_231,hS,callD,callR,sub,setAll,back,endH,overlay,reachC,cut,List.range_succ,List.idxOf_cons,V.same_self,thaw,freezeAll,freeze1,rg2,rg3]
theorem ev_o3A (sz:Int) (s:S) (c:Cl) (n:Nat) (R:List (List D)) :
  ev P (.call z_233 [.loc 0 0 0,.d (.ag c.row)] (lA sz s (.asl 1 0 n) R))=ev P (.call z_234 [.loc 0 0 0,.d (.ag c.row)] (lA sz s (.asl 1 0 n) R)):=by
 have hS:=ev_shutA sz s c n R
 rw [ev_call P_z_233 rfl]
 rw [hS]
 simp only [Cl.row] at *
 simp [F_z_233,hS,callD,callR,sub,setAll,back,endH,overlay,reachC,cut,List.range_succ,List.idxOf_cons,V.same_self,thaw,freezeAll,freeze1,rg2,rg3]
theorem ev_o3N (sz:Int) (s:S) (c:Cl) :
  ev P (.call z_233 [.loc 0 0 0,.d (.ag c.row)] (lN sz s (.sl 1 true [])))=ev P (.call z_234 [.loc 0 0 0,.d (.ag c.row)] (lN sz s (.sl 1 true []))):=by
 have hS:=ev_shutN sz s c
 rw [ev_call P_z_233 rfl]
 rw [hS]
 simp only [Cl.row] at *
 simp [F_z_233,hS,callD,callR,sub,setAll,back,endH,overlay,reachC,cut,List.range_succ,List.idxOf_cons,V.same_self,thaw,freezeAll,freeze1,rg2,rg3]
def cCE (s:S) (c:Cl):Int:=if cbad c then 2 else if (c.op != 64&&c.op != 65&&c.op != 66) then 8 else if (c.op==64&&!num c.value) then 2 else if (s.cl&&c.op==64) then 19 else if (s.cl&&c.op==66) then 17 else 0
theorem ev_isTaskC (n:Int):ev P (.call z_157 [.d (I' n)] [])=some (.val (.d (.b (isTask n))) []):=by
 rw [ev_call P_z_157 rfl]
 simp [F_z_157,isTask]
def isPrio (n:Int):Bool:=decide (0≤n)&&decide (n≤9)
theorem ev_isPrioC (n:Int):ev P (.call z_158 [.d (I' n)] [])=some (.val (.d (.b (isPrio n))) []):=by
 rw [ev_call P_z_158 rfl]
 simp [F_z_158,isPrio]
theorem ev_numC (n:Int):ev P (.call z_160 [.d (I' n)] [])=some (.val (.d (.b (num n))) []):=by
 rw [ev_call P_z_160 rfl]
 simp [F_z_160,num]
theorem cb_eq (c:Cl):(!isTask c.task||!isPrio c.prio||decide (c.now<0)||decide (1099511627776<c.now))=cbad c:=by
 unfold isTask isPrio cbad
 rw [Bool.eq_iff_iff]
 simp
 omega
theorem ev_CApE (nm:D) (k sz ot:Int) (s:S) (c:Cl) (hck:ev P (.call z_83 [.d (.ag [nm,I' k,I' sz,I' ot]),.d (.ag (s.ab true).row)] [])=some (.val (.d (I' 0)) [])) (he:cCE s c≠0) :
  Rd (ev P (.call z_84 [.d (.ag [nm,I' k,I' sz,I' ot]),.d (.ag (s.ab true).row),.d (.ag c.row)] [])) (cCE s c) false:=by
 have hF:ev P (.call z_132 [.d (qD true []),.d (I' c.task)] [])=some (.val (.tu [.d (I' 0),.d (.b false)]) []):=ev_wFind true [] c.task (by simp)
 have hop:=ev_ops
 have hcb:=cb_eq c
 rw [ev_call P_z_84 rfl]
 obtain ⟨own,cnt,time,hn,H,qn,Q,bn,B,cn,C,cl,val⟩:=s
 simp only [S.ab,S.row,Cl.row,qD,List.map_nil] at *
 unfold cCE at *
 simp only at he ⊢
 cases h1:cbad c
 ·rw [h1,if_neg (by simp)] at he
  rw [if_neg (by simp)]
  rw [h1] at hcb
  cases h2:(c.op != 64&&c.op != 65&&c.op != 66)
  ·rw [h2,if_neg (by simp)] at he
   rw [if_neg (by simp)]
   have hop3:c.op=64∨c.op=65∨c.op=66:=by simp at h2;omega
   rcases hop3 with ho | ho | ho
   all_goals
    rw [ho] at he ⊢
    cases h4:num c.value<;>cases cl<;>rw [h4] at he<;>simp at he ⊢<;>simp [F_z_84,ev_isTaskC,ev_isPrioC,ev_numC,hck,hF,hop,hcb,ho,h4,callD,callR,sub,setAll,back,endH,overlay,reachC,cut,List.range_succ,List.idxOf_cons,V.same_self,thaw,freezeAll,freeze1,rg2,rg3]<;>exact Rd.mk' rfl
  ·rw [if_pos rfl]
   simp at h2
   simp [F_z_84,ev_isTaskC,ev_isPrioC,hck,hF,hop,hcb,h2,callD,callR,sub,setAll,back,endH,overlay,reachC,cut,List.range_succ,List.idxOf_cons,V.same_self,thaw,freezeAll,freeze1,rg2,rg3]
   exact Rd.mk' rfl
 ·rw [if_pos rfl]
  rw [h1] at hcb
  simp [F_z_84,ev_isTaskC,ev_isPrioC,hck,hcb,callD,callR,sub,setAll,back,endH,overlay,reachC,cut,List.range_succ,List.idxOf_cons,V.same_self,thaw,freezeAll,freeze1,rg2,rg3]
  exact Rd.mk' rfl
end Go.VS.Sp
