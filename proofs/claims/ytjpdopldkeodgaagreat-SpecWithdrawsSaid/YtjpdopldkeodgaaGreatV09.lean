import Derived.Test.YtjpdopldkeodgaaGreatV08
import Derived.Test.YtjpdopldkeodgaaGreatV07
set_option linter.all false
namespace Go.VS.R
open Go.VS.Sp
def mnew (k sz ot:Int):Int:=if (k != 2)=true then 8 else if (sz != 0||ot != 0)=true then 2 else 0
def zrow:List D:=[I' 0,I' 0,I' 0,hD true [],qD true [],hD true [],cD true [],.b false,I' 0]
def frow:List D:=[I' (-1),I' 0,I' 0,hD true [],qD true [],hD true [],cD true [],.b false,I' 0]
theorem ev_mNew (nm:D) (k sz ot:Int):ev P (.call z_67 [.d (.ag [nm,I' k,I' sz,I' ot])] []) =
  some (.val (.tu [.d (.ag (if mnew k sz ot=0 then frow else zrow)),.d (I' (mnew k sz ot))]) []):=by
 rw [ev_call P_z_67 rfl]
 cases h1:k != 2<;>simp only [mnew,h1]
 ·cases h2:sz != 0||ot != 0<;>simp [F_z_67,h1,h2,frow,zrow]
 ·simp [F_z_67,h1,zrow]
def idI (t:Int):Nat→List Int→Option Nat
 | _,[]=>none
 | k,x::r=>if t=x then some k else idI t (k+1) r
theorem idI_some {t:Int}:∀{l:List Int} {k:Nat},(idI t k l).isSome=decide (t∈l)
 | [],k=>by simp [idI]
 | x::r,k=>by
  unfold idI
  by_cases h:t=x
  ·simp [h]
  ·rw [if_neg h,idI_some];simp [h]
theorem loop_Index (nl:Bool) (l:List Int) (t:Int) (hn:l.length≤1000000):∀(suf pre:List Int),l=pre++suf →
  ev P (.loop 0 [0,1,7,8] F_z_261_L0 [(0,.d (hD nl l)),(1,.d (I' t)),(7,.d (I' l.length)),(8,.d (I' pre.length))] []) =
   match idI t pre.length suf with
   | none=>some (.out (.exit 0) [] [])
   | some k=>some (.out .ret [(4,.d (I' k))] []):=by
 intro suf
 induction suf with
 | nil =>
  intro pre hl
  have:l.length=pre.length:=by simp [hl]
  rw [ev_loop]
  conv=>lhs;arg 4;unfold F_z_261_L0
  simp [this,idI]
 | cons w suf ih =>
  intro pre hl
  have hg:l[pre.length]?=some w:=by simp [hl]
  have hlt:(pre.length:Int)<l.length:=by simp [hl];omega
  have hnext:IntKind.i64.wrap ((pre.length:Int)+1)=pre.length+1:=wrap_i64 (by omega) (by omega)
  have ih':=ih (pre++[w]) (by simp [hl])
  simp at ih'
  rw [ev_loop]
  conv=>lhs;arg 4;unfold F_z_261_L0
  unfold idI
  by_cases hw:t=w
  ·simp [hlt,hg,hw]
  ·have hw2:(t==w)=false:=by simpa using hw
   simp [hlt,hg,hw,hw2,hnext]
   exact ih'
theorem ev_Contains (nl:Bool) (l:List Int) (t:Int) (hn:l.length≤1000000) :
  ev P (.call z_215 [.d (hD nl l),.d (I' t)] [])=some (.val (.d (.b (decide (t∈l)))) []):=by
 have hl:=loop_Index nl l t hn l [] rfl
 simp at hl
 have hI:ev P (.call z_261 [.d (hD nl l),.d (I' t)] [])=some (.val (.d (I' (match idI t 0 l with | none=>-1 | some k=>k))) []):=by
  rw [ev_call P_z_261 rfl]
  cases hi:idI t 0 l<;>(rw [hi] at hl;simp [F_z_261,hl])
 have hs:=idI_some (t:=t) (l:=l) (k:=0)
 rw [←hs]
 rw [ev_call P_z_215 rfl]
 cases hi:idI t 0 l<;>(rw [hi] at hI;simp [F_z_215,hI])
def hld (own:Int) (H:List Int) (t:Int):Int:=if (decide (0≤t)&&t==own)=true then 2 else if t∈H then 1 else 0
theorem ev_holds (own:Int) (a b c d e f g:D) (nl:Bool) (H:List Int) (t:Int) (hn:H.length≤1000000) :
  ev P (.call z_134 [.d (.ag [I' own,a,b,hD nl H,c,d,e,f,g]),.d (I' t)] [])=some (.val (.d (I' (hld own H t))) []):=by
 have hC:=ev_Contains nl H t hn
 rw [ev_call P_z_134 rfl]
 unfold hld
 cases h1:(decide (0≤t)&&t==own)
 ·simp [F_z_134,h1]
  by_cases h2:t∈H<;>simp [h2] at hC<;>simp [hC,h2]
 ·simp [F_z_134,h1]
end Go.VS.R
namespace Go.VS.R
open Go.VS.Sp
theorem ev_isNaN (n:Int):ev P (.call z_281 [.d (I' n)] [])=some (.val (.d (.b false)) []):=by
 rw [ev_call P_z_281 rfl]
 simp [F_z_281]
theorem ev_sNaN (n:Int):ev P (.call z_285 [.d (I' n)] [])=some (.val (.d (.b false)) []):=by
 rw [ev_call P_z_285 rfl]
 simp [F_z_285]
theorem ev_Less (a b:Int):ev P (.call z_284 [.d (I' a),.d (I' b)] [])=some (.val (.d (.b (decide (a<b)))) []):=by
 rw [ev_call P_z_284 rfl]
 by_cases h:a<b<;>simp [F_z_284,ev_isNaN,h]
def Asc (l:List Int):Prop:=l.Pairwise (·≤·)
def bI (t:Int) (l:List Int):Nat:=(l.takeWhile fun x=>decide (x<t)).length
theorem bI_le (t:Int):∀(l:List Int),bI t l≤l.length
 | []=>by simp [bI]
 | w::q=>by
  have:=bI_le t q
  unfold bI at *
  simp only [List.takeWhile_cons]
  split<;>simp;omega
theorem bI_lt {t x:Int}:∀{l:List Int} {k:Nat},Asc l→l[k]?=some x→(k<bI t l↔x<t)
 | [],k,_,h=>by simp at h
 | a::q,0,_,h=>by
  have:a=x:=by simpa using h
  subst this
  by_cases hp:a<t<;>simp [bI,List.takeWhile_cons,hp]
 | a::q,k+1,hd,h=>by
  have hd':=List.pairwise_cons.1 hd
  have hq:q[k]?=some x:=by simpa using h
  have hw:x∈q:=List.mem_of_getElem? hq
  have h1:=hd'.1 x hw
  have ih:=bI_lt (t:=t) (k:=k) hd'.2 hq
  by_cases hp:a<t
  ·have:bI t (a::q)=bI t q+1:=by simp [bI,List.takeWhile_cons,hp]
   rw [this,←ih];omega
  ·have:bI t (a::q)=0:=by simp [bI,List.takeWhile_cons,hp]
   rw [this];constructor<;>intro h3<;>omega
theorem mid_eq {i j:Nat} (h:i+j≤4000000):IntKind.i64.wrap ((IntKind.u64.wrap ((i:Int)+j)).fdiv (2 ^ min 1 IntKind.u64.bits))=(((i+j) / 2:Nat):Int):=by
 have h1:IntKind.u64.wrap ((i:Int)+j)=(i:Int)+j:=by
  have e0:IntKind.u64.bits=64:=rfl
  simp only [IntKind.wrap,e0,IntKind.signed,Bool.false_and,Bool.false_eq_true,if_false]
  omega
 have h2:(2:Int) ^ min 1 IntKind.u64.bits=2:=by decide
 rw [h1,h2,Int.fdiv_eq_ediv_of_nonneg _ (by omega),wrap_i64 (by omega) (by omega)]
 omega
theorem getR {l:List Int} {R:List (List D)} {m:Nat} {x:Int} (hR:l.length≤R.length) (hT:R.take l.length=rows1 l) (hx:l[m]?=some x):R[m]?=some [I' x]∧m<l.length:=by
 have hm:m<l.length:=(List.getElem?_eq_some_iff.1 hx).1
 refine ⟨?_,hm⟩
 have h1:(R.take l.length)[m]?=some [I' x]:=by rw [hT];simp [hx]
 rw [List.getElem?_take] at h1
 simpa [hm] using h1
theorem loop_BS (l:List Int) (R:List (List D)) (t:Int) (hn:l.length≤1000000) (hR:l.length≤R.length) (hT:R.take l.length=rows1 l) (hA:Asc l):∀(n i j:Nat),j - i≤n→i≤bI t l→bI t l≤j→j≤l.length →
  ev P (.loop 1 [0,1,6,7,8] F_z_262q_L0 [(0,.asl 0 0 l.length),(1,.d (I' t)),(6,.d (I' l.length)),(7,.d (I' i)),(8,.d (I' j))] [.arrD 1 true R]) =
   some (.out (.exit 0) [(0,.asl 0 0 l.length),(1,.d (I' t)),(6,.d (I' l.length)),(7,.d (I' (bI t l)))] [.arrD 1 true R]):=by
 intro n
 induction n with
 | zero =>
  intro i j h1 h2 h3 h4
  have e1:i=bI t l:=by omega
  have e2:j=bI t l:=by omega
  rw [ev_loop]
  conv=>lhs;arg 4;unfold F_z_262q_L0
  simp [e1,e2,reachC,cut]
 | succ n ih =>
  intro i j h1 h2 h3 h4
  by_cases hij:i=j
  ·have e1:i=bI t l:=by omega
   have e2:j=bI t l:=by omega
   rw [ev_loop]
   conv=>lhs;arg 4;unfold F_z_262q_L0
   simp [e1,e2,reachC,cut]
  ·have hlt:i<j:=by omega
   have hw1:IntKind.i64.wrap ((i:Int)+j)=i+j:=wrap_i64 (by omega) (by omega)
   have hm:=mid_eq (i:=i) (j:=j) (by omega)
   generalize hmm:(i+j) / 2=m at hm
   have hm1:i≤m:=by omega
   have hm2:m<j:=by omega
   obtain ⟨x,hx⟩:∃x,l[m]?=some x:=⟨l[m]'(by omega),by simp⟩
   have hb:=bI_lt (t:=t) hA hx
   obtain ⟨hg,hml⟩:=getR hR hT hx
   have hm3:IntKind.i64.wrap ((m:Int)+1)=m+1:=wrap_i64 (by omega) (by omega)
   have hml2:(m:Int)<l.length:=by omega
   have hmR:m<R.length:=by omega
   have hgg:R[m]=[I' x]:=by rw [List.getElem?_eq_getElem hmR] at hg;exact Option.some.inj hg
   rw [ev_loop]
   conv=>lhs;arg 4;unfold F_z_262q_L0
   by_cases hp:x<t
   ·have ih':=ih (m+1) j (by omega) (by omega) (by omega) h4
    simp at ih'
    simp [hlt,hw1,hm,hm3,hml,hml2,hmR,hgg,ev_Less,hp,reachC,cut]
    exact ih'
   ·have ih':=ih i m (by omega) (by omega) (by omega) (by omega)
    simp [hlt,hw1,hm,hml,hml2,hmR,hgg,ev_Less,hp,reachC,cut]
    exact ih'
theorem ev_BS (l:List Int) (R:List (List D)) (t:Int) (hn:l.length≤1000000) (hR:l.length≤R.length) (hT:R.take l.length=rows1 l) (hA:Asc l) :
  ∃b,ev P (.call z_262q [.asl 0 0 l.length,.d (I' t)] [.arrD 1 true R])=some (.val (.tu [.d (I' (bI t l)),.d (.b b)]) [.arrD 1 true R]):=by
 have hb:=bI_le t l
 have hl:=loop_BS l R t hn hR hT hA l.length 0 l.length (by omega) (by omega) hb (by omega)
 simp at hl
 by_cases h:bI t l<l.length
 ·obtain ⟨x,hx⟩:∃x,l[bI t l]?=some x:=⟨l[bI t l],by simp⟩
  obtain ⟨hg,_⟩:=getR hR hT hx
  have hbR:bI t l<R.length:=by omega
  have hgg:R[bI t l]=[I' x]:=by rw [List.getElem?_eq_getElem hbR] at hg;exact Option.some.inj hg
  have h2:(bI t l:Int)<l.length:=by omega
  generalize bI t l=B at *
  by_cases hxt:x=t
  ·refine ⟨true,?_⟩
   subst hxt
   rw [ev_call P_z_262q rfl]
   simp [F_z_262q,hl,h,h2,hbR,hgg,reachC,cut,endH]
  ·refine ⟨false,?_⟩
   have hxt2:(x==t)=false:=by simpa using hxt
   rw [ev_call P_z_262q rfl]
   simp [F_z_262q,hl,h,h2,hbR,hgg,ev_sNaN,hxt2,reachC,cut,endH]
 ·have h2:¬(bI t l:Int)<l.length:=by omega
  refine ⟨false,?_⟩
  rw [ev_call P_z_262q rfl]
  simp [F_z_262q,hl,h,h2,reachC,cut,endH]
theorem ev_BS0 (t:Int):ev P (.call z_262q [.d (.sl 1 true []),.d (I' t)] [])=some (.val (.tu [.d (I' 0),.d (.b false)]) []):=by
 have hl:ev P (.loop 0 [0,1,6,7,8] F_z_262q_L0 [(0,.d (.sl 1 true [])),(1,.d (I' t)),(6,.d (I' 0)),(7,.d (I' 0)),(8,.d (I' 0))] []) =
   some (.out (.exit 0) [(0,.d (.sl 1 true [])),(1,.d (I' t)),(6,.d (I' 0)),(7,.d (I' 0))] []):=by
  rw [ev_loop]
  conv=>lhs;arg 4;unfold F_z_262q_L0
  simp
 rw [ev_call P_z_262q rfl]
 simp [F_z_262q,hl,endH]
end Go.VS.R
namespace Go.VS.R
open Go.VS.Sp
theorem ev_CloneI (nl:Bool) (q:List Int) (hnl:nl=true→q=[]) (hn:q.length≤1000000) :
  ev P (.call z_214 [.d (hD nl q)] [])=if nl=true then some (.val (.d (.sl 1 true [])) []) else some (.val (.asl 0 0 q.length) [.arrD 1 true (rows1 q)]):=by
 rw [ev_call P_z_214 rfl]
 cases nl
 ·have hr:q.length≤room:=by unfold room;omega
  cases q with
  | nil=>simp [F_z_214,mkRows,allDs,reachC,cut,endH]
  | cons a r =>
   simp at hr
   simp [F_z_214,mkRows,allDs,reachC,cut,hr,endH]
 ·simp [F_z_214,endH]
theorem ev_Clone (nl:Bool) (q:List Sp.W) (hnl:nl=true→q=[]) (hn:q.length≤1000000) :
  ev P (.call z_153 [.d (qD nl q)] [])=if nl=true then some (.val (.d (.sl 5 true [])) []) else some (.val (.asl 0 0 q.length) [.arrD 5 true (q.map Sp.W.row)]):=by
 rw [ev_call P_z_153 rfl]
 cases nl
 ·have hr:q.length≤room:=by unfold room;omega
  cases q with
  | nil=>simp [F_z_153,mkRows,allDs,reachC,cut,endH]
  | cons a r =>
   simp at hr
   simp [F_z_153,mkRows,allDs,reachC,cut,hr,endH]
 ·simp [F_z_153,endH]
end Go.VS.R
namespace Go.VS.R
open Go.VS.Sp
def hV:Option (List (List D)×Nat)→Nat→V
 | none,_=>.d (.sl 1 true [])
 | some (_,n),i=>.asl i 0 n
def hO:Option (List (List D)×Nat)→List O
 | none=>[]
 | some (R,_)=>[.arrD 1 true R]
def qV:Bool ⊕ (List (List D)×Nat×Nat)→Nat→V
 | .inl nl,_=>.d (.sl 5 nl [])
 | .inr (_,off,len),i=>.asl i off len
def qO:Bool ⊕ (List (List D)×Nat×Nat)→List O
 | .inl _=>[]
 | .inr (R,_,_)=>[.arrD 5 true R]
def kV:Option (List (List D))→Nat→V
 | none,_=>.d (.sl 5 true [])
 | some R,i=>.asl i 0 R.length
def kO:Option (List (List D))→List O
 | none=>[]
 | some R=>[.arrD 5 true R]
structure Z where
 c1:D
 c2:D
 c5:D
 c6:D
 c7:D
 c8:D
def lk (z:Z) (own:Int) (h q k:V):O:=.arrV 10 [[.d (I' own),.d z.c1,.d z.c2,h,q,.d z.c5,.d z.c6,.d z.c7,.d z.c8,k]]
def heap3 (z:Z) (own:Int) (H:Option (List (List D)×Nat)) (Q:Bool ⊕ (List (List D)×Nat×Nat)) (K:Option (List (List D))):List O :=
 lk z own (hV H 1) (qV Q (1+(hO H).length)) (kV K (1+(hO H).length+(qO Q).length))::(hO H++(qO Q++kO K))
def hlen:Option (List (List D)×Nat)→Nat
 | none=>0
 | some (_,n)=>n
theorem rg2:List.range 2=[0,1]:=rfl
theorem rg3:List.range 3=[0,1,2]:=rfl
theorem rg4:List.range 4=[0,1,2,3]:=rfl
theorem rg5:List.range 5=[0,1,2,3,4]:=rfl
theorem ev_writes (z:Z) (own:Int) (H) (Q) (K):ev P (.call z_136 [.loc 0 0 0] (heap3 z own H Q K))=some (.val (.d (.b (own != -1))) (heap3 z own H Q K)):=by
 rw [ev_call P_z_136 rfl]
 rcases H with _ | ⟨R,n⟩<;>rcases Q with nl | ⟨S,off,len⟩<;>rcases K with _ | T <;>
  simp [F_z_136,heap3,lk,hV,hO,qV,qO,kV,kO,reachC,cut,rg2,rg3,rg4,rg5,List.idxOf_cons,endH]
theorem ev_free (z:Z) (own:Int) (H) (Q) (K):ev P (.call z_135 [.loc 0 0 0] (heap3 z own H Q K))=some (.val (.d (.b (own == -1&&(hlen H:Int)==0))) (heap3 z own H Q K)):=by
 have hW:=ev_writes z own H Q K
 rw [ev_call P_z_135 rfl]
 cases ho:own == -1
 ·have ho2:(own != -1)=true:=by simp [bne,ho]
  rw [ho2] at hW
  rcases H with _ | ⟨R,n⟩<;>rcases Q with nl | ⟨S,off,len⟩<;>rcases K with _ | T <;>
   (
    simp [heap3,lk,hV,hO,qV,qO,kV,kO] at hW
    simp [F_z_135,heap3,lk,hV,hO,qV,qO,kV,kO,reachC,cut,rg2,rg3,rg4,rg5,List.idxOf_cons,endH,callR,sub,setAll,back,hW,hlen])
 ·have ho2:(own != -1)=false:=by simp [bne,ho]
  rw [ho2] at hW
  rcases H with _ | ⟨R,n⟩<;>rcases Q with nl | ⟨S,off,len⟩<;>rcases K with _ | T <;>
   (
    simp [heap3,lk,hV,hO,qV,qO,kV,kO] at hW
    simp [F_z_135,heap3,lk,hV,hO,qV,qO,kV,kO,reachC,cut,rg2,rg3,rg4,rg5,List.idxOf_cons,endH,callR,sub,setAll,back,hW,hlen])
end Go.VS.R
namespace Go.VS.R
open Go.VS.Sp
def insI (t:Int) (l:List Int):List Int:=l.take (bI t l)++t::l.drop (bI t l)
theorem insI_len (t:Int) (l:List Int):(insI t l).length=l.length+1:=by
 have:=bI_le t l
 unfold insI;simp;omega
def hX:Option (List (List D)×Nat)→List O
 | none=>[]
 | some _=>[.dead]
theorem ev_grantW (z:Z) (own t:Int) (H) (Q) (K):ev P (.call z_216 [.loc 0 0 0,.d (I' t),.d (I' 55)] (heap3 z own H Q K))=some (.val (.tu []) (heap3 z t H Q K)):=by
 rw [ev_call P_z_216 rfl]
 rcases H with _ | ⟨R,n⟩<;>rcases Q with nl | ⟨S,off,len⟩<;>rcases K with _ | T <;>
  simp [F_z_216,heap3,lk,hV,hO,qV,qO,kV,kO,reachC,cut,rg2,rg3,rg4,rg5,List.idxOf_cons,endH,overlay]
def heapG (z:Z) (own:Int) (H:Option (List (List D)×Nat)) (Q:Bool ⊕ (List (List D)×Nat×Nat)) (K:Option (List (List D))) (R:List (List D)):List O :=
 lk z own (.asl (1+(hO H).length+(qO Q).length+(kO K).length) 0 R.length) (qV Q (1+(hO H).length)) (kV K (1+(hO H).length+(qO Q).length))::(hX H++(qO Q++(kO K++[.arrD 1 true R])))
theorem ev_grant0 (z:Z) (own t o:Int) (Q) (K) (ho:o≠55):ev P (.call z_216 [.loc 0 0 0,.d (I' t),.d (I' o)] (heap3 z own none Q K))=some (.val (.tu []) (heapG z own none Q K [[I' t]])):=by
 have hI:=ev_prim P_z_263 (p:=insP 1) rfl
 have ho2:(o==55)=false:=by simpa using ho
 have r1:1≤room:=by decide
 rw [ev_call P_z_216 rfl]
 rcases Q with nl | ⟨S,off,len⟩<;>rcases K with _ | T <;>
  simp [F_z_216,ho2,ev_BS0,hI,insP,insRows,r1,heap3,heapG,lk,hV,hO,hX,qV,qO,kV,kO,callR,sub,setAll,back,reachC,cut,rg2,rg3,rg4,rg5,List.idxOf_cons,endH,overlay]
theorem ev_grant1 (z:Z) (own t o:Int) (l:List Int) (R:List (List D)) (Q) (K) (ho:o≠55) (hn:l.length≤1000000) (hR:l.length≤R.length) (hT:R.take l.length=rows1 l) (hA:Asc l) :
  ev P (.call z_216 [.loc 0 0 0,.d (I' t),.d (I' o)] (heap3 z own (some (R,l.length)) Q K))=some (.val (.tu []) (heapG z own (some (R,l.length)) Q K (rows1 (insI t l)))):=by
 have hI:=ev_prim P_z_263 (p:=insP 1) rfl
 have ho2:(o==55)=false:=by simpa using ho
 obtain ⟨b,hB⟩:=ev_BS l R t hn hR hT hA
 have hb:=bI_le t l
 have r1:l.length+1≤room:=by unfold room;omega
 have hlen:(insI t l).length=l.length+1:=insI_len t l
 have hrow:rows1 (insI t l)=(rows1 l).take (bI t l)++[I' t]::(rows1 l).drop (bI t l):=by unfold insI rows1;simp [List.map_take,List.map_drop]
 rw [hrow]
 have hlen2:((rows1 l).take (bI t l)++[I' t]::(rows1 l).drop (bI t l)).length=l.length+1:=by simp;omega
 have hT':R.take l.length=rows1 l:=hT
 generalize bI t l=B at *
 generalize hrr:rows1 l=rr at *
 unfold heapG
 rw [hlen2]
 rw [ev_call P_z_216 rfl]
 rcases Q with nl | ⟨S,off,len⟩<;>rcases K with _ | T <;>
  simp [F_z_216,ho2,hB,hb,hI,insP,insRows,r1,hR,hT',heap3,lk,hV,hO,hX,qV,qO,kV,kO,callR,sub,setAll,back,reachC,cut,rg2,rg3,rg4,rg5,List.idxOf_cons,endH,overlay]
end Go.VS.R
namespace Go.VS.R
open Go.VS.Sp
theorem bI_split (t:Int):∀{l:List Int},Asc l→(∀x,x∈l.take (bI t l)→x<t)∧(∀x,x∈l.drop (bI t l)→t≤x)
 | [],_=>by simp
 | a::q,hs=>by
  have hs':=List.pairwise_cons.1 hs
  by_cases hp:a<t
  ·have e:bI t (a::q)=bI t q+1:=by simp [bI,List.takeWhile_cons,hp]
   obtain ⟨h1,h2⟩:=bI_split t hs'.2
   rw [e]
   constructor
   ·intro w hw
    rw [List.take_succ_cons] at hw
    rcases List.mem_cons.1 hw with rfl | hw
    ·exact hp
    ·exact h1 w hw
   ·intro w hw
    rw [List.drop_succ_cons] at hw
    exact h2 w hw
  ·have e:bI t (a::q)=0:=by simp [bI,List.takeWhile_cons,hp]
   rw [e]
   refine ⟨by simp,?_⟩
   intro w hw
   rw [List.drop_zero] at hw
   rcases List.mem_cons.1 hw with rfl | hw
   ·omega
   ·have:=hs'.1 w hw;omega
theorem asc_ins {t:Int} {l:List Int} (h:Asc l):Asc (insI t l):=by
 obtain ⟨h1,h2⟩:=bI_split t h
 unfold insI Asc
 rw [List.pairwise_append]
 refine ⟨h.sublist (List.take_sublist _ _),List.pairwise_cons.2 ⟨h2,h.sublist (List.drop_sublist _ _)⟩,?_⟩
 intro a ha b hb
 rcases List.mem_cons.1 hb with rfl | hb
 ·exact Int.le_of_lt (h1 a ha)
 ·exact Int.le_trans (Int.le_of_lt (h1 a ha)) (h2 b hb)
theorem take_snoc {α:Type} {l:List α} {x:α}:List.take (l.length+1) (l++[x])=l++[x]:=List.take_of_length_le (by simp)
def wk (w:Sp.W):List D:=[I' w.task,I' w.op,I' 0,.b true,I' (-1)]
def insA (l:List Int) (q:List Sp.W):List Int:=q.foldl (fun l w=>insI w.task l) l
def qcV (i off:Nat):List Sp.W→V
 | []=>.d (.sl 5 false [])
 | r=>.asl i off r.length
def heapL (z:Z) (own:Int) (pre:List O) (S:List (List D)) (off:Nat) (r:List Sp.W) (l:List Int) (k:List (List D)):List O :=
 lk z own (.asl (pre.length+2) 0 l.length) (qcV (pre.length+1) off r) (.asl (pre.length+3) 0 k.length)::(pre++[.arrD 5 true S,.arrD 1 true (rows1 l),.arrD 5 true k])
theorem loop_serveG (z:Z) (pre:List O) (hpre:pre=[]∨pre=[.dead]) (S:List (List D)):∀(r:List Sp.W) (off:Nat) (l:List Int) (k:List (List D)),Asc l→l.length+r.length≤100000→k.length+r.length≤100000→l≠[]→k≠[]→S.drop off=r.map Sp.W.row →
  ev P (.loop (pre.length+2) [0] F_z_140_L0 [(0,.loc 0 0 0)] (heapL z (-1) pre S off r l k)) =
   some (.out (.exit 0) [] (heapL z (-1) pre S (off+(r.takeWhile fun w=>w.op != 55).length) (r.dropWhile fun w=>w.op != 55) (insA l (r.takeWhile fun w=>w.op != 55)) (k++(r.takeWhile fun w=>w.op != 55).map wk))):=by
 intro r
 induction r with
 | nil =>
  intro off l k hA hn hk hl0 hk0 hS
  rw [ev_loop]
  conv=>lhs;arg 4;unfold F_z_140_L0
  rcases hpre with rfl | rfl <;>
   simp [heapL,lk,qcV,insA,reachC,cut,rg2,rg3,rg4,rg5,List.idxOf_cons]
 | cons w r ih =>
  intro off l k hA hn hk hl0 hk0 hS
  simp at hn hk
  have hSl:S.length=off+(r.length+1):=by
   have:=congrArg List.length hS
   simp at this
   omega
  have hoff:off<S.length:=by omega
  have hS0:S[off]=w.row:=by
   have:=congrArg (fun x=>x[0]?) hS
   simpa [List.getElem?_eq_getElem hoff] using this
  have hS1:S.drop (off+1)=r.map Sp.W.row:=by
   have:=congrArg (fun x=>x.drop 1) hS
   simpa [List.drop_drop] using this
  have hl1:¬((l.length:Int)==0)=true:=by
   simp;exact hl0
  have hl2:((l.length:Int)==0)=false:=by simpa using hl1
  by_cases ho:w.op=55
  ·have hF:=ev_free z (-1) (some (rows1 l,l.length)) (.inr (S,off,r.length+1)) (some k)
   have hW:=ev_writes z (-1) (some (rows1 l,l.length)) (.inr (S,off,r.length+1)) (some k)
   simp [hlen,hl2,heap3,lk,hV,hO,qV,qO,kV,kO] at hF hW
   have e1:((w::r).takeWhile fun w=>w.op != 55)=[]:=by simp [List.takeWhile_cons,ho]
   have e2:((w::r).dropWhile fun w=>w.op != 55)=w::r:=by simp [List.dropWhile_cons,ho]
   rw [e1,e2]
   rw [ev_loop]
   conv=>lhs;arg 4;unfold F_z_140_L0
   rcases hpre with rfl | rfl <;>
    simp [heapL,lk,qcV,insA,reachC,cut,rg2,rg3,rg4,rg5,List.idxOf_cons,hoff,hS0,hSl,Sp.W.row,ho,callR,hF,hW,sub,setAll,back]
  ·have ho2:(w.op==55)=false:=by simpa using ho
   have e1:((w::r).takeWhile fun w=>w.op != 55)=w::r.takeWhile fun w=>w.op != 55:=by simp [List.takeWhile_cons,ho]
   have e2:((w::r).dropWhile fun w=>w.op != 55)=r.dropWhile fun w=>w.op != 55:=by simp [List.dropWhile_cons,ho]
   have hil:=insI_len w.task l
   have ih':=ih (off+1) (insI w.task l) (k++[wk w]) (asc_ins hA) (by omega) (by simp;omega) (by intro h;rw [h] at hil;simp at hil) (by simp) hS1
   have e3:insA l ((w::r).takeWhile fun w=>w.op != 55)=insA (insI w.task l) (r.takeWhile fun w=>w.op != 55):=by rw [e1];rfl
   have e4:k++((w::r).takeWhile fun w=>w.op != 55).map wk=k++[wk w]++(r.takeWhile fun w=>w.op != 55).map wk:=by rw [e1];simp
   have e5:off+((w::r).takeWhile fun w=>w.op != 55).length=off+1+(r.takeWhile fun w=>w.op != 55).length:=by rw [e1];simp;omega
   rw [e2,e3,e4,e5]
   generalize hRR:some (Res.out (.exit 0) [] (heapL z (-1) pre S (off+1+(r.takeWhile fun w=>w.op != 55).length) (r.dropWhile fun w=>w.op != 55) (insA (insI w.task l) (r.takeWhile fun w=>w.op != 55)) (k++[wk w]++(r.takeWhile fun w=>w.op != 55).map wk)))=RR at *
   have hkr:k.length+1≤room:=by unfold room;omega
   have hk3:k.length+1≤100000:=by omega
   cases r with
   | nil =>
    have hW:=ev_writes z (-1) (some (rows1 l,l.length)) (.inr (S,off,1)) (some k)
    have hG:=ev_grant1 z (-1) w.task w.op l (rows1 l) (.inl false) (some k) ho (by omega) (by simp) (by simp [rows1,take_map_len]) hA
    simp [heap3,heapG,lk,hV,hO,hX,qV,qO,kV,kO,hil] at hW hG
    simp at hSl
    simp [heapL,lk,qcV,hil] at ih'
    rw [ev_loop]
    conv=>lhs;arg 4;unfold F_z_140_L0
    rcases hpre with rfl | rfl
    ·simp [heapL,lk,qcV,insA,reachC,cut,rg2,rg3,rg4,rg5,List.idxOf_cons,hoff,hS0,hSl,Sp.W.row,ho2,callR,hW,hG,sub,setAll,back,hkr,Nat.not_succ_le_self,take_snoc,wk] at ih' ⊢
     exact ih'
    ·simp [heapL,lk,qcV,insA,reachC,cut,rg2,rg3,rg4,rg5,List.idxOf_cons,hoff,hS0,hSl,Sp.W.row,ho2,callR,hW,hG,sub,setAll,back,hkr,Nat.not_succ_le_self,take_snoc,wk] at ih' ⊢
     exact ih'
   | cons w2 r =>
    have hW:=ev_writes z (-1) (some (rows1 l,l.length)) (.inr (S,off,r.length+1+1)) (some k)
    have hG:=ev_grant1 z (-1) w.task w.op l (rows1 l) (.inr (S,off+1,r.length+1)) (some k) ho (by omega) (by simp) (by simp [rows1,take_map_len]) hA
    simp [heap3,heapG,lk,hV,hO,hX,qV,qO,kV,kO,hil] at hW hG
    simp at hSl
    simp [heapL,lk,qcV,hil] at ih'
    have q1:(0:Int)<r.length+1+1:=by omega
    have q2:(1:Int)≤r.length+1+1:=by omega
    have q3:(1:Int)<r.length+1+1:=by omega
    have q4:((r.length:Int)+1+1 - 1).toNat=r.length+1:=by omega
    have hle:off+(r.length+1+1)≤S.length:=by omega
    have hsub:off+(r.length+1+1) - (off+1)=r.length+1:=by omega
    rw [ev_loop]
    conv=>lhs;arg 4;unfold F_z_140_L0
    rcases hpre with rfl | rfl
    ·simp [heapL,lk,qcV,insA,reachC,cut,rg2,rg3,rg4,rg5,List.idxOf_cons,hoff,q1,q2,q3,q4,hS0,hSl,Sp.W.row,ho2,callR,hW,hG,sub,setAll,back,hkr,Nat.not_succ_le_self,take_snoc,wk] at ih' ⊢
     exact ih'
    ·simp [heapL,lk,qcV,insA,reachC,cut,rg2,rg3,rg4,rg5,List.idxOf_cons,hoff,q1,q2,q3,q4,hS0,hSl,Sp.W.row,ho2,callR,hW,hG,sub,setAll,back,hkr,Nat.not_succ_le_self,take_snoc,wk] at ih' ⊢
     exact ih'
end Go.VS.R
namespace Go.VS.R
open Go.VS.Sp
theorem ev_serve0 (z:Z) (own:Int) (H) (nl:Bool):ev P (.call z_140 [.loc 0 0 0] (heap3 z own H (.inl nl) none))=some (.val (.tu []) (heap3 z own H (.inl nl) none)):=by
 have hL:ev P (.loop (1+(hO H).length) [0] F_z_140_L0 [(0,.loc 0 0 0)] (heap3 z own H (.inl nl) none))=some (.out (.exit 0) [] (heap3 z own H (.inl nl) none)):=by
  rw [ev_loop]
  conv=>lhs;arg 4;unfold F_z_140_L0
  rcases H with _ | ⟨R,n⟩<;>simp [heap3,lk,hV,hO,qV,qO,kV,kO,reachC,cut,rg2,rg3,rg4,rg5,List.idxOf_cons]
 rw [ev_call P_z_140 rfl]
 rcases H with _ | ⟨R,n⟩<;>simp [heap3,lk,hV,hO,qV,qO,kV,kO] at hL <;>
  simp [F_z_140,hL,heap3,lk,hV,hO,qV,qO,kV,kO,reachC,cut,rg2,rg3,rg4,rg5,List.idxOf_cons,endH]
theorem ev_serve00 (z:Z) (own:Int) (H) (S:List (List D)):ev P (.call z_140 [.loc 0 0 0] (heap3 z own H (.inr (S,0,0)) none))=some (.val (.tu []) (heap3 z own H (.inr (S,0,0)) none)):=by
 have hL:ev P (.loop (2+(hO H).length) [0] F_z_140_L0 [(0,.loc 0 0 0)] (heap3 z own H (.inr (S,0,0)) none))=some (.out (.exit 0) [] (heap3 z own H (.inr (S,0,0)) none)):=by
  rw [ev_loop]
  conv=>lhs;arg 4;unfold F_z_140_L0
  rcases H with _ | ⟨R,n⟩<;>simp [heap3,lk,hV,hO,qV,qO,kV,kO,reachC,cut,rg2,rg3,rg4,rg5,List.idxOf_cons]
 rw [ev_call P_z_140 rfl]
 rcases H with _ | ⟨R,n⟩<;>simp [heap3,lk,hV,hO,qV,qO,kV,kO] at hL <;>
  simp [F_z_140,hL,heap3,lk,hV,hO,qV,qO,kV,kO,reachC,cut,rg2,rg3,rg4,rg5,List.idxOf_cons,endH]
theorem ev_serve1 (z:Z) (own:Int) (H) (w:Sp.W) (r:List Sp.W) (h:own≠-1∨(w.op=55∧hlen H≠0)) :
  ev P (.call z_140 [.loc 0 0 0] (heap3 z own H (.inr ((w::r).map Sp.W.row,0,r.length+1)) none))=some (.val (.tu []) (heap3 z own H (.inr ((w::r).map Sp.W.row,0,r.length+1)) none)):=by
 have hW:=ev_writes z own H (.inr ((w::r).map Sp.W.row,0,r.length+1)) none
 have hF:=ev_free z own H (.inr ((w::r).map Sp.W.row,0,r.length+1)) none
 have hL:ev P (.loop (2+(hO H).length) [0] F_z_140_L0 [(0,.loc 0 0 0)] (heap3 z own H (.inr ((w::r).map Sp.W.row,0,r.length+1)) none))=some (.out (.exit 0) [] (heap3 z own H (.inr ((w::r).map Sp.W.row,0,r.length+1)) none)):=by
  rw [ev_loop]
  conv=>lhs;arg 4;unfold F_z_140_L0
  cases ho:own != -1
  ·have ho2:own = -1:=by simpa using ho
   subst ho2
   obtain ⟨h1,h2⟩:w.op=55∧hlen H≠0:=by simpa using h
   have h3:((hlen H:Int)==0)=false:=by simpa using h2
   rw [ho] at hW
   rw [h3] at hF
   rcases H with _ | ⟨R,n⟩<;>simp [heap3,lk,hV,hO,qV,qO,kV,kO,Sp.W.row,h1] at hW hF <;>
    simp [heap3,lk,hV,hO,qV,qO,kV,kO,reachC,cut,rg2,rg3,rg4,rg5,List.idxOf_cons,callR,hW,hF,h1,sub,setAll,back,Sp.W.row]
  ·rw [ho] at hW
   rcases H with _ | ⟨R,n⟩<;>simp [heap3,lk,hV,hO,qV,qO,kV,kO,Sp.W.row] at hW <;>
    simp [heap3,lk,hV,hO,qV,qO,kV,kO,reachC,cut,rg2,rg3,rg4,rg5,List.idxOf_cons,callR,hW,sub,setAll,back,Sp.W.row]
 rw [ev_call P_z_140 rfl]
 rcases H with _ | ⟨R,n⟩<;>simp [heap3,lk,hV,hO,qV,qO,kV,kO] at hL <;>
  simp [F_z_140,hL,heap3,lk,hV,hO,qV,qO,kV,kO,reachC,cut,rg2,rg3,rg4,rg5,List.idxOf_cons,endH]
def heapW (z:Z) (own:Int) (H:Option (List (List D)×Nat)) (S:List (List D)) (r:List Sp.W) (k:List D):List O :=
 lk z own (hV H 1) (qcV (1+(hO H).length) 1 r) (.asl (2+(hO H).length) 0 1)::(hO H++[.arrD 5 true S,.arrD 5 true [k]])
theorem ev_serve2 (z:Z) (H) (w:Sp.W) (r:List Sp.W) (h:w.op=55) (hH:hlen H=0) (ht:w.task≠-1) :
  ev P (.call z_140 [.loc 0 0 0] (heap3 z (-1) H (.inr ((w::r).map Sp.W.row,0,r.length+1)) none))=some (.val (.tu []) (heapW z w.task H ((w::r).map Sp.W.row) r (wk w))):=by
 have r1:1≤room:=by decide
 have ht2:(w.task != -1)=true:=by simpa using ht
 have hL:ev P (.loop (2+(hO H).length) [0] F_z_140_L0 [(0,.loc 0 0 0)] (heap3 z (-1) H (.inr ((w::r).map Sp.W.row,0,r.length+1)) none))=some (.out (.exit 0) [] (heapW z w.task H ((w::r).map Sp.W.row) r (wk w))):=by
  have hW:=ev_writes z (-1) H (.inr ((w::r).map Sp.W.row,0,r.length+1)) none
  have hF:=ev_free z (-1) H (.inr ((w::r).map Sp.W.row,0,r.length+1)) none
  have hFt:((-1:Int) == -1&&((hlen H:Nat):Int)==0)=true:=by rw [hH];decide
  rw [hFt] at hF
  cases r with
  | nil =>
   have hG:=ev_grantW z (-1) w.task H (.inl false) none
   rw [ev_loop]
   conv=>lhs;arg 4;unfold F_z_140_L0
   rcases H with _ | ⟨R,n⟩
   ·simp [heap3,lk,hV,hO,qV,qO,kV,kO,Sp.W.row,h] at hW hF hG
    simp [heap3,heapW,lk,hV,hO,qV,qO,kV,kO,qcV,reachC,cut,rg2,rg3,rg4,rg5,List.idxOf_cons,callR,hW,hF,hG,h,r1,sub,setAll,back,Sp.W.row,wk]
    rw [ev_loop]
    conv=>lhs;arg 4;unfold F_z_140_L0
    simp [reachC,cut,rg2,rg3,rg4,rg5,List.idxOf_cons]
   ·simp [heap3,lk,hV,hO,qV,qO,kV,kO,Sp.W.row,h] at hW hF hG
    simp [heap3,heapW,lk,hV,hO,qV,qO,kV,kO,qcV,reachC,cut,rg2,rg3,rg4,rg5,List.idxOf_cons,callR,hW,hF,hG,h,r1,sub,setAll,back,Sp.W.row,wk]
    rw [ev_loop]
    conv=>lhs;arg 4;unfold F_z_140_L0
    simp [reachC,cut,rg2,rg3,rg4,rg5,List.idxOf_cons]
  | cons w2 r =>
   have hG:=ev_grantW z (-1) w.task H (.inr ((w::w2::r).map Sp.W.row,1,r.length+1)) none
   have hW2:=ev_writes z w.task H (.inr ((w::w2::r).map Sp.W.row,1,r.length+1)) (some [wk w])
   rw [ht2] at hW2
   have q1:(0:Int)<r.length+1+1:=by omega
   have q2:(1:Int)≤r.length+1+1:=by omega
   have q3:(1:Int)<r.length+1+1:=by omega
   have q4:((r.length:Int)+1+1 - 1).toNat=r.length+1:=by omega
   rw [ev_loop]
   conv=>lhs;arg 4;unfold F_z_140_L0
   rcases H with _ | ⟨R,n⟩
   ·simp [heap3,lk,hV,hO,qV,qO,kV,kO,Sp.W.row,wk,h] at hW hF hG hW2
    simp [heap3,heapW,lk,hV,hO,qV,qO,kV,kO,qcV,reachC,cut,rg2,rg3,rg4,rg5,List.idxOf_cons,callR,hW,hF,hG,h,q1,q2,q3,q4,r1,sub,setAll,back,Sp.W.row,wk]
    rw [ev_loop]
    conv=>lhs;arg 4;unfold F_z_140_L0
    simp [reachC,cut,rg2,rg3,rg4,rg5,List.idxOf_cons,callR,hW2,sub,setAll,back]
   ·simp [heap3,lk,hV,hO,qV,qO,kV,kO,Sp.W.row,wk,h] at hW hF hG hW2
    simp [heap3,heapW,lk,hV,hO,qV,qO,kV,kO,qcV,reachC,cut,rg2,rg3,rg4,rg5,List.idxOf_cons,callR,hW,hF,hG,h,q1,q2,q3,q4,r1,sub,setAll,back,Sp.W.row,wk]
    rw [ev_loop]
    conv=>lhs;arg 4;unfold F_z_140_L0
    simp [reachC,cut,rg2,rg3,rg4,rg5,List.idxOf_cons,callR,hW2,sub,setAll,back]
 rw [ev_call P_z_140 rfl]
 cases r<;>rcases H with _ | ⟨R,n⟩<;>simp [heap3,heapW,lk,hV,hO,qV,qO,kV,kO,qcV,wk] at hL <;>
  simp [F_z_140,hL,heap3,heapW,lk,hV,hO,qV,qO,kV,kO,qcV,wk,reachC,cut,rg2,rg3,rg4,rg5,List.idxOf_cons,endH]
def hL:Option (List (List D)×Nat)→List Int→Prop
 | none,l=>l=[]
 | some (R,n),l=>n=l.length∧l.length≤R.length∧R.take l.length=rows1 l
theorem ev_serve3 (z:Z) (H) (l:List Int) (w:Sp.W) (r:List Sp.W) (h:w.op≠55) (hH:hL H l) (hA:Asc l) (h1:l.length≤1000) (h2:r.length≤1000) :
  ev P (.call z_140 [.loc 0 0 0] (heap3 z (-1) H (.inr ((w::r).map Sp.W.row,0,r.length+1)) none)) =
   some (.val (.tu []) (heapL z (-1) (hX H) ((w::r).map Sp.W.row) (1+(r.takeWhile fun w=>w.op != 55).length) (r.dropWhile fun w=>w.op != 55) (insA (insI w.task l) (r.takeWhile fun w=>w.op != 55)) (wk w::(r.takeWhile fun w=>w.op != 55).map wk))):=by
 have r1:1≤room:=by decide
 have ho2:(w.op==55)=false:=by simpa using h
 have hil:=insI_len w.task l
 have hG:=loop_serveG z (hX H) (by cases H;exact .inl rfl;exact .inr rfl) ((w::r).map Sp.W.row) r 1 (insI w.task l) [wk w] (asc_ins hA) (by omega) (by simp;omega) (by intro h;rw [h] at hil;simp at hil) (by simp) (by simp)
 have hL:ev P (.loop (2+(hO H).length) [0] F_z_140_L0 [(0,.loc 0 0 0)] (heap3 z (-1) H (.inr ((w::r).map Sp.W.row,0,r.length+1)) none)) =
   some (.out (.exit 0) [] (heapL z (-1) (hX H) ((w::r).map Sp.W.row) (1+(r.takeWhile fun w=>w.op != 55).length) (r.dropWhile fun w=>w.op != 55) (insA (insI w.task l) (r.takeWhile fun w=>w.op != 55)) (wk w::(r.takeWhile fun w=>w.op != 55).map wk))):=by
  have e1:[wk w]++(r.takeWhile fun w=>w.op != 55).map wk=wk w::(r.takeWhile fun w=>w.op != 55).map wk:=rfl
  rw [e1] at hG
  generalize some (Res.out (.exit 0) [] (heapL z (-1) (hX H) ((w::r).map Sp.W.row) (1+(r.takeWhile fun w=>w.op != 55).length) (r.dropWhile fun w=>w.op != 55) (insA (insI w.task l) (r.takeWhile fun w=>w.op != 55)) (wk w::(r.takeWhile fun w=>w.op != 55).map wk)))=RR at *
  have hW:=ev_writes z (-1) H (.inr ((w::r).map Sp.W.row,0,r.length+1)) none
  rcases H with _ | ⟨R,n⟩
  ·obtain rfl:l=[]:=hH
   have e0:insI w.task []=[w.task]:=rfl
   cases r with
   | nil =>
    have hGr:=ev_grant0 z (-1) w.task w.op (.inl false) none h
    simp [heap3,heapG,heapL,lk,hV,hO,hX,qV,qO,kV,kO,qcV,Sp.W.row,wk,e0] at hW hGr hG
    rw [ev_loop]
    conv=>lhs;arg 4;unfold F_z_140_L0
    simp [heap3,lk,hV,hO,qV,qO,kV,kO,reachC,cut,rg2,rg3,rg4,rg5,List.idxOf_cons,callR,hW,hGr,ho2,r1,sub,setAll,back,Sp.W.row]
    exact hG
   | cons w2 r =>
    have hGr:=ev_grant0 z (-1) w.task w.op (.inr ((w::w2::r).map Sp.W.row,1,r.length+1)) none h
    have q1:(0:Int)<r.length+1+1:=by omega
    have q2:(1:Int)≤r.length+1+1:=by omega
    have q3:(1:Int)<r.length+1+1:=by omega
    have q4:((r.length:Int)+1+1 - 1).toNat=r.length+1:=by omega
    simp [heap3,heapG,heapL,lk,hV,hO,hX,qV,qO,kV,kO,qcV,Sp.W.row,wk,e0] at hW hGr hG
    rw [ev_loop]
    conv=>lhs;arg 4;unfold F_z_140_L0
    simp [heap3,lk,hV,hO,qV,qO,kV,kO,reachC,cut,rg2,rg3,rg4,rg5,List.idxOf_cons,callR,hW,hGr,ho2,r1,q1,q2,q3,q4,sub,setAll,back,Sp.W.row]
    exact hG
  ·obtain ⟨rfl,hR,hT⟩:=hH
   cases r with
   | nil =>
    have hGr:=ev_grant1 z (-1) w.task w.op l R (.inl false) none h (by omega) hR hT hA
    simp [heap3,heapG,heapL,lk,hV,hO,hX,qV,qO,kV,kO,qcV,Sp.W.row,wk,hil] at hW hGr hG
    rw [ev_loop]
    conv=>lhs;arg 4;unfold F_z_140_L0
    simp [heap3,lk,hV,hO,qV,qO,kV,kO,reachC,cut,rg2,rg3,rg4,rg5,List.idxOf_cons,callR,hW,hGr,ho2,r1,sub,setAll,back,Sp.W.row]
    exact hG
   | cons w2 r =>
    have hGr:=ev_grant1 z (-1) w.task w.op l R (.inr ((w::w2::r).map Sp.W.row,1,r.length+1)) none h (by omega) hR hT hA
    have q1:(0:Int)<r.length+1+1:=by omega
    have q2:(1:Int)≤r.length+1+1:=by omega
    have q3:(1:Int)<r.length+1+1:=by omega
    have q4:((r.length:Int)+1+1 - 1).toNat=r.length+1:=by omega
    simp [heap3,heapG,heapL,lk,hV,hO,hX,qV,qO,kV,kO,qcV,Sp.W.row,wk,hil] at hW hGr hG
    rw [ev_loop]
    conv=>lhs;arg 4;unfold F_z_140_L0
    simp [heap3,lk,hV,hO,qV,qO,kV,kO,reachC,cut,rg2,rg3,rg4,rg5,List.idxOf_cons,callR,hW,hGr,ho2,r1,q1,q2,q3,q4,sub,setAll,back,Sp.W.row]
    exact hG
 generalize (r.takeWhile fun w=>w.op != 55)=tk at *
 generalize (r.dropWhile fun w=>w.op != 55)=dk at *
 rw [ev_call P_z_140 rfl]
 cases dk<;>rcases H with _ | ⟨R,n⟩<;>simp [heap3,heapL,lk,hV,hO,hX,qV,qO,kV,kO,qcV] at hL <;>
  simp [F_z_140,hL,heap3,heapL,lk,hV,hO,hX,qV,qO,kV,kO,qcV,reachC,cut,rg2,rg3,rg4,rg5,List.idxOf_cons,endH]
end Go.VS.R
namespace Go.VS.R
open Go.VS.Sp
def hS (n:Bool) (l:List Int):Option (List (List D)×Nat):=if n=true then none else some (rows1 l,l.length)
def qS (n:Bool) (q:List Sp.W):Bool ⊕ (List (List D)×Nat×Nat):=if n=true then .inl true else .inr (q.map Sp.W.row,0,q.length)
def lkD (z:Z) (own:Int):O:=.arrD 10 true [[I' own,z.c1,z.c2,.sl 1 true [],.sl 5 true [],z.c5,z.c6,z.c7,z.c8,.sl 5 true []]]
def heap0 (z:Z) (own:Int) (hn:Bool) (H:List Int) (qn:Bool) (Q:List Sp.W):List O:=if (hn&&qn)=true then [lkD z own] else heap3 z own (hS hn H) (qS qn Q) none
theorem ev_changed (z:Z) (own:Int) (hn:Bool) (H:List Int) (qn:Bool) (Q:List Sp.W) (h1:hn=true→H=[]) (h2:qn=true→Q=[]) (h3:H.length≤1000000) (h4:Q.length≤1000000) :
  ev P (.call z_133 [.d (.ag [I' own,z.c1,z.c2,hD hn H,qD qn Q,z.c5,z.c6,z.c7,z.c8])] [])=some (.val (.loc 0 0 0) (heap0 z own hn H qn Q)):=by
 have hC:=ev_CloneI hn H h1 h3
 have hD':=ev_Clone qn Q h2 h4
 rw [ev_call P_z_133 rfl]
 cases hn<;>cases qn<;>simp at hC hD' <;>
  simp [F_z_133,hC,hD',callD,mkRows,allDs,V.same_self,hS,qS,heap0,lkD,heap3,lk,hV,hO,qV,qO,kV,kO,reachC,cut,rg2,rg3,rg4,rg5,List.idxOf_cons,endH,overlay]
theorem hL_hS {n:Bool} {l:List Int} (h:n=true→l=[]):hL (hS n l) l:=by
 unfold hS hL
 cases n
 ·simp [rows1,take_map_len]
 ·simp [h rfl]
theorem hlen_hS {n:Bool} {l:List Int} (h:n=true→l=[]):hlen (hS n l)=l.length:=by
 unfold hS hlen
 cases n
 ·simp
 ·simp [h rfl]
def wbd (own:Int) (H:List Int) (w:Sp.W):Bool:=(w.op != 53&&w.op != 55)||w.value != 0||w.case != -1||hld own H w.task != 0
def qchk (own:Int) (H:List Int):List Sp.W→List Sp.W→Bool
 | _,[]=>true
 | pre,w::r=>!pre.any (fun x=>x.task==w.task)&&!wbd own H w&&qchk own H (pre++[w]) r
theorem fd_eq {pre:List Sp.W} {w:Sp.W} {r:List Sp.W}:((fdS (pre++w::r) w.task).1==(pre.length:Int))=!pre.any (fun x=>x.task==w.task):=by
 unfold fdS
 rw [List.findIdx?_append]
 cases h:pre.findIdx? (fun x=>x.task==w.task) with
 | none =>
  have:pre.any (fun x=>x.task==w.task)=false:=by
   rw [List.any_eq_false]
   rw [List.findIdx?_eq_none_iff] at h
   intro x hx
   rw [h x hx];decide
  rw [this]
  simp [List.findIdx?_cons]
 | some k =>
  obtain ⟨h1,h2⟩:=List.findIdx?_eq_some_iff_getElem.1 h
  have:pre.any (fun x=>x.task==w.task)=true:=List.any_eq_true.2 ⟨_,List.getElem_mem _,h2.1⟩
  rw [this]
  simp
  omega
theorem loop_queued (own:Int) (c1 c2 c5 c6 c7 c8:D) (hn:Bool) (H:List Int) (qn:Bool) (Q:List Sp.W) (h3:H.length≤1000000) (h4:Q.length≤1000000):∀(suf pre:List Sp.W),Q=pre++suf →
  ev P (.loop 0 [1,13,14,15] F_z_213_L0 [(1,.d (.ref [I' own,c1,c2,hD hn H,qD qn Q,c5,c6,c7,c8])),(13,.d (qD qn Q)),(14,.d (I' Q.length)),(15,.d (I' pre.length))] []) =
   if qchk own H pre suf=true then some (.out (.exit 0) [(1,.d (.ref [I' own,c1,c2,hD hn H,qD qn Q,c5,c6,c7,c8]))] []) else some (.out .ret [(2,.d (.b false))] []):=by
 intro suf
 induction suf with
 | nil =>
  intro pre hl
  have:Q.length=pre.length:=by simp [hl]
  rw [ev_loop]
  conv=>lhs;arg 4;unfold F_z_213_L0
  simp [this,qchk]
 | cons w suf ih =>
  intro pre hl
  have hg:Q[pre.length]?=some w:=by simp [hl]
  have hlt:(pre.length:Int)<Q.length:=by simp [hl];omega
  have hnext:IntKind.i64.wrap ((pre.length:Int)+1)=pre.length+1:=wrap_i64 (by omega) (by omega)
  have ih':=ih (pre++[w]) (by simp [hl])
  have hF:=ev_wFind qn Q w.task h4
  have hH:=ev_holds own c1 c2 (qD qn Q) c5 c6 c7 c8 hn H w.task h3
  have hfe:((fdS Q w.task).1==(pre.length:Int))=!pre.any (fun x=>x.task==w.task):=by rw [hl];exact fd_eq
  have e1:qchk own H pre (w::suf)=(!pre.any (fun x=>x.task==w.task)&&!wbd own H w&&qchk own H (pre++[w]) suf):=rfl
  rw [e1]
  generalize qchk own H (pre++[w]) suf=dd at *
  generalize (fdS Q w.task).1=fi at *
  generalize (fdS Q w.task).2=fb at *
  simp at ih'
  rw [ev_loop]
  conv=>lhs;arg 4;unfold F_z_213_L0
  cases ha:pre.any (fun x=>x.task==w.task)
  ·rw [ha] at hfe
   have hfe2:(fi != (pre.length:Int))=false:=by simp [bne,hfe]
   cases hb:((w.op != 53&&w.op != 55)||w.value != 0||w.case != -1||hld own H w.task != 0)
   ·have hb2:wbd own H w=false:=hb
    have p1:(w.op != 53&&w.op != 55)=false:=by cases h:(w.op != 53&&w.op != 55)<;>simp_all
    have p2:(w.value != 0)=false:=by cases h:(w.value != 0)<;>simp_all
    have p3:(w.case != -1)=false:=by cases h:(w.case != -1)<;>simp_all
    have p4:(hld own H w.task != 0)=false:=by cases h:(hld own H w.task != 0)<;>simp_all
    simp [hlt,hg,Sp.W.row,hF,hfe2,hH,p1,p2,p3,p4,hnext,hb2]
    exact ih'
   ·have hb2:wbd own H w=true:=hb
    simp [hlt,hg,Sp.W.row,hF,hfe2,hH,hb,hb2]
  ·rw [ha] at hfe
   have hfe2:(fi != (pre.length:Int))=true:=by simp [bne,hfe]
   simp [hlt,hg,Sp.W.row,hF,hfe2]
def stay (own:Int) (H:List Int):List Sp.W→Bool
 | []=>true
 | w::_=>own != -1||(w.op==55&&!H.isEmpty)
theorem wchk_zero {Q:List Sp.W} (h:wchk Q=0):Q.length≤96∧∀w,w∈Q→wvalid w=true:=by
 unfold wchk at h
 by_cases h1:96<Q.length
 ·rw [if_pos h1] at h;cases h
 ·rw [if_neg h1] at h
  refine ⟨by omega,?_⟩
  have:∀(l:List Sp.W) (p:Option Sp.W),wcheckFrom 1 p l=0→∀w,w∈l→wvalid w=true:=by
   intro l
   induction l with
   | nil=>simp
   | cons a r ih =>
    intro p h w hw
    unfold wcheckFrom at h
    cases hv:wvalid a
    ·rw [hv] at h;simp at h
    ·rw [hv] at h
     simp at h
     rcases List.mem_cons.1 hw with e | hw
     ·rw [e];exact hv
     ·exact ih _ h w hw
  exact this Q none h
theorem wvalid_task {w:Sp.W} (h:wvalid w=true):0≤w.task∧w.task<16:=by
 unfold wvalid wbad at h
 simp at h
 omega
theorem ev_queued (z:Z) (own:Int) (hn:Bool) (H:List Int) (qn:Bool) (Q:List Sp.W) (h1:hn=true→H=[]) (h2:qn=true→Q=[]) (h3:H.length≤1000) (h4:Q.length≤1000000) (hA:Asc H) :
  ev P (.call z_213 [.d (.ag [I' own,z.c1,z.c2,hD hn H,qD qn Q,z.c5,z.c6,z.c7,z.c8])] [])=some (.val (.d (.b (wchk Q==0&&(qchk own H [] Q&&stay own H Q)))) []):=by
 have hW:=ev_wCheck qn Q
 have hL:=loop_queued own z.c1 z.c2 z.c5 z.c6 z.c7 z.c8 hn H qn Q (by omega) h4 Q [] rfl
 have hCh:=ev_changed z own hn H qn Q h1 h2 (by omega) h4
 have hll:=hlen_hS h1
 have hLS:=hL_hS h1
 rw [ev_call P_z_213 rfl]
 cases hw:wchk Q==0
 ·have hw2:(wchk Q != 0)=true:=by simp [bne,hw]
  simp [F_z_213,hW,hw2]
 ·have hw2:(wchk Q != 0)=false:=by simp [bne,hw]
  obtain ⟨hq1,hq2⟩:=wchk_zero (by simpa using hw)
  cases hq:qchk own H [] Q
  ·rw [hq] at hL
   simp at hL
   simp [F_z_213,hW,hw2,hL]
  ·rw [hq] at hL
   simp at hL
   cases Q with
   | nil =>
    simp at hL
    simp [F_z_213,hW,hw2,hL,stay]
   | cons w r =>
    simp at hL
    have hqn:qn=false:=by cases qn;rfl;exact absurd (h2 rfl) (by simp)
    subst hqn
    have qe:qS false (w::r) = .inr ((w::r).map Sp.W.row,0,r.length+1):=by simp [qS]
    have z1:¬((r.length:Int)+1=0):=by omega
    have z2:((r.length:Int)+1==0)=false:=by simp;omega
    have hwt:=wvalid_task (hq2 w (by simp))
    have hh0:heap0 z own hn H false (w::r)=heap3 z own (hS hn H) (.inr ((w::r).map Sp.W.row,0,r.length+1)) none:=by simp [heap0,qe]
    rw [hh0] at hCh
    by_cases hs:own≠-1∨(w.op=55∧hlen (hS hn H)≠0)
    ·have hst:stay own H (w::r)=true:=by
      unfold stay
      rw [hll] at hs
      rcases hs with hs | ⟨hs1,hs2⟩
      ·simp [hs]
      ·simp [hs1];right;intro h;rw [h] at hs2;exact hs2 rfl
     have hSv:=ev_serve1 z own (hS hn H) w r hs
     rw [hst]
     cases hn
     ·simp [hS,heap3,lk,hV,hO,qV,qO,kV,kO] at hCh hSv
      simp [F_z_213,hW,hw2,hL,z1,z2,hCh,callD,callR,hSv,reachC,cut,rg2,rg3,rg4,rg5,List.idxOf_cons,sub,setAll,back]
     ·simp [hS,heap3,lk,hV,hO,qV,qO,kV,kO] at hCh hSv
      simp [F_z_213,hW,hw2,hL,z1,z2,hCh,callD,callR,hSv,reachC,cut,rg2,rg3,rg4,rg5,List.idxOf_cons,sub,setAll,back]
    ·have ho:own = -1:=Classical.byContradiction fun h=>hs (.inl h)
     subst ho
     have hst:stay (-1) H (w::r)=false:=by
      unfold stay
      simp
      intro h
      have:hlen (hS hn H)=0:=Classical.byContradiction fun h'=>hs (.inr ⟨h,h'⟩)
      rw [hll] at this
      exact List.length_eq_zero_iff.1 this
     rw [hst]
     by_cases h55:w.op=55
     ·have hh1:hlen (hS hn H)=0:=Classical.byContradiction fun h'=>hs (.inr ⟨h55,h'⟩)
      have hSv:=ev_serve2 z (hS hn H) w r h55 hh1 (by omega)
      cases hn
      ·cases r with
       | nil =>
        simp at hL
        simp [hS,heap3,heapW,lk,hV,hO,qV,qO,kV,kO,qcV] at hCh hSv
        simp [F_z_213,hW,hw2,hL,z1,z2,hCh,callD,callR,hSv,reachC,cut,rg2,rg3,rg4,rg5,List.idxOf_cons,sub,setAll,back]
       | cons w2 r =>
        simp at hL
        have z5:((r.length:Int)+1+1==0)=false:=by simp;omega
        have z6:¬((r.length:Int)+1+1=0):=by omega
        simp [hS,heap3,heapW,lk,hV,hO,qV,qO,kV,kO,qcV] at hCh hSv
        simp [F_z_213,hW,hw2,hL,z5,z6,hCh,callD,callR,hSv,reachC,cut,rg2,rg3,rg4,rg5,List.idxOf_cons,sub,setAll,back]
      ·cases r with
       | nil =>
        simp at hL
        simp [hS,heap3,heapW,lk,hV,hO,qV,qO,kV,kO,qcV] at hCh hSv
        simp [F_z_213,hW,hw2,hL,z1,z2,hCh,callD,callR,hSv,reachC,cut,rg2,rg3,rg4,rg5,List.idxOf_cons,sub,setAll,back]
       | cons w2 r =>
        simp at hL
        have z5:((r.length:Int)+1+1==0)=false:=by simp;omega
        have z6:¬((r.length:Int)+1+1=0):=by omega
        simp [hS,heap3,heapW,lk,hV,hO,qV,qO,kV,kO,qcV] at hCh hSv
        simp [F_z_213,hW,hw2,hL,z5,z6,hCh,callD,callR,hSv,reachC,cut,rg2,rg3,rg4,rg5,List.idxOf_cons,sub,setAll,back]
     ·have hSv:=ev_serve3 z (hS hn H) H w r h55 hLS hA h3 (by simp at hq1;omega)
      generalize (r.takeWhile fun w=>w.op != 55)=tk at *
      generalize (r.dropWhile fun w=>w.op != 55)=dk at *
      have z3:¬((tk.length:Int)+1=0):=by omega
      have z4:((tk.length:Int)+1==0)=false:=by simp;omega
      cases hn<;>cases dk <;>
      ·simp [hS,heap3,heapL,lk,hV,hO,hX,qV,qO,kV,kO,qcV] at hCh hSv
       simp [F_z_213,hW,hw2,hL,z1,z2,z3,z4,hCh,callD,callR,hSv,reachC,cut,rg2,rg3,rg4,rg5,List.idxOf_cons,sub,setAll,back]
end Go.VS.R
namespace Go.VS.R
open Go.VS.Sp
theorem nil_or_snoc {α:Type} (l:List α):l=[]∨∃a x,l=a++[x]:=by
 rcases List.eq_nil_or_concat l with h | ⟨a,x,h⟩
 ·exact .inl h
 ·exact .inr ⟨a,x,by simpa using h⟩
def vh:List Int→List Int→Bool
 | _,[]=>true
 | pre,x::r=>!(!isTask x||pre.getLast?.any (fun y=>decide (x≤y)))&&vh (pre++[x]) r
theorem loop_valid (own:Int) (c1 c2 c5 c6 c7 c8 qd:D) (hn:Bool) (H:List Int) (h3:H.length≤1000000):∀(suf pre:List Int),H=pre++suf →
  ev P (.loop 0 [1,52,53,54] F_z_130_L0 [(1,.d (.ref [I' own,c1,c2,hD hn H,qd,c5,c6,c7,c8])),(52,.d (hD hn H)),(53,.d (I' H.length)),(54,.d (I' pre.length))] []) =
   if vh pre suf=true then some (.out (.exit 0) [(1,.d (.ref [I' own,c1,c2,hD hn H,qd,c5,c6,c7,c8]))] []) else some (.out .ret [(2,.d (.b false))] []):=by
 intro suf
 induction suf with
 | nil =>
  intro pre hl
  have:H.length=pre.length:=by simp [hl]
  rw [ev_loop]
  conv=>lhs;arg 4;unfold F_z_130_L0
  simp [this,vh]
 | cons x suf ih =>
  intro pre hl
  have hg:H[pre.length]?=some x:=by simp [hl]
  have hlt:(pre.length:Int)<H.length:=by simp [hl];omega
  have hnext:IntKind.i64.wrap ((pre.length:Int)+1)=pre.length+1:=wrap_i64 (by omega) (by omega)
  have ih':=ih (pre++[x]) (by simp [hl])
  have e1:vh pre (x::suf)=(!(!isTask x||pre.getLast?.any (fun y=>decide (x≤y)))&&vh (pre++[x]) suf):=rfl
  rw [e1]
  generalize vh (pre++[x]) suf=dd at *
  simp at ih'
  rw [ev_loop]
  conv=>lhs;arg 4;unfold F_z_130_L0
  cases ht:isTask x
  ·simp [hlt,hg,ev_isTask,ht]
  ·rcases nil_or_snoc pre with rfl | ⟨pre',p,rfl⟩
   ·have h0:0<H.length:=by simp [hl]
    have hg0:∀h:0<H.length,H[0]=x:=fun h=>by simpa [List.getElem?_eq_getElem h] using hg
    simp at ih'
    simp [h0,hg0,ev_isTask,ht,wrap1]
    exact ih'
   ·have hgp:H[pre'.length]?=some p:=by simp [hl]
    have hlt2:(pre'.length:Int)+1<H.length:=by simpa using hlt
    have hw2:IntKind.i64.wrap (pre'.length:Int)=pre'.length:=wrap_i64 (by omega) (by omega)
    have h0:(0:Int)<pre'.length+1:=by omega
    have h1:(0:Int)≤pre'.length+1:=by omega
    have hn2:IntKind.i64.wrap ((pre'.length:Int)+1+1)=pre'.length+1+1:=wrap_i64 (by omega) (by omega)
    simp only [List.length_append,List.length_singleton] at hg
    simp at ih'
    by_cases hp:x≤p
    ·simp [hlt2,hg,hgp,hw2,h0,h1,ev_isTask,ht,hp]
    ·simp [hlt2,hg,hgp,hw2,h0,h1,ev_isTask,ht,hp,hn2]
     exact ih'
def flA (own cnt time:Int) (H B:List Int) (C:List (List D)) (cl:Bool) (val:Int):Bool :=
 own != -1&&(!isTask own||decide (0<H.length))||cnt != 0||time != 0||decide (0<B.length)||decide (0<C.length)||cl||val != 0
def mvalid (own cnt time:Int) (H:List Int) (Q:List Sp.W) (B:List Int) (C:List (List D)) (cl:Bool) (val:Int):Bool :=
 !flA own cnt time H B C cl val&&(vh [] H&&(wchk Q==0&&(qchk own H [] Q&&stay own H Q)))
theorem vh_asc:∀{suf pre:List Int},Asc pre→(∀x,x∈pre→∀y,y∈pre.getLast?→x≤y)→vh pre suf=true→Asc (pre++suf)
 | [],pre,hA,_,_=>by simpa using hA
 | x::r,pre,hA,hm,h=>by
  have e1:vh pre (x::r)=(!(!isTask x||pre.getLast?.any (fun y=>decide (x≤y)))&&vh (pre++[x]) r):=rfl
  rw [e1] at h
  simp at h
  obtain ⟨⟨_,h2⟩,h3⟩:=h
  have hx:∀y,y∈pre→y≤x:=by
   intro y hy
   cases hp:pre.getLast? with
   | none =>
    have:pre=[]:=by simpa using hp
    rw [this] at hy;cases hy
   | some p =>
    have:=hm y hy p (by simp [hp])
    have:=List.any_eq_false.1 (by simpa [hp] using h2:([p]:List Int).any (fun y=>decide (x≤y))=false) p (by simp)
    simp at this
    omega
  have hA':Asc (pre++[x]):=by
   unfold Asc
   rw [List.pairwise_append]
   exact ⟨hA,List.pairwise_singleton _ _,fun a ha b hb=>by simp at hb;rw [hb];exact hx a ha⟩
  have:=vh_asc hA' (by
   intro y hy p hp
   simp at hp
   subst hp
   simp at hy
   rcases hy with hy | hy
   ·exact hx y hy
   ·omega) h3
  simpa using this
theorem vh_asc0 {H:List Int} (h:vh [] H=true):Asc H:=by
 have:=vh_asc (pre:=[]) (suf:=H) List.Pairwise.nil (by simp) h
 simpa using this
theorem ev_mvalid (own cnt time:Int) (hn:Bool) (H:List Int) (qn:Bool) (Q:List Sp.W) (bn:Bool) (B:List Int) (cn:Bool) (C:List (List D)) (cl:Bool) (val:Int)
  (hh:hn=true→H=[]) (hq:qn=true→Q=[]) (h1:H.length≤1000) (h2:Q.length≤1000000) :
  ev P (.call z_130 [.d (.ag [I' own,I' cnt,I' time,hD hn H,qD qn Q,hD bn B,cD cn C,.b cl,I' val])] [])=some (.val (.d (.b (mvalid own cnt time H Q B C cl val))) []):=by
 have hL:=loop_valid own (I' cnt) (I' time) (hD bn B) (cD cn C) (.b cl) (I' val) (qD qn Q) hn H (by omega) H [] rfl
 simp at hL
 rw [ev_call P_z_130 rfl]
 unfold mvalid
 simp [F_z_130,ev_isTask]
 cases hA:(own != -1&&(!isTask own||decide (0<H.length))||cnt != 0||time != 0||decide (0<B.length)||decide (0<C.length)||cl||val != 0)
 ·have hF:flA own cnt time H B C cl val=false:=hA
  rw [hF]
  cases hv:vh [] H
  ·rw [hv] at hL
   simp at hL
   simp [hL]
  ·rw [hv] at hL
   simp at hL
   have hQ:=ev_queued ⟨I' cnt,I' time,hD bn B,cD cn C,.b cl,I' val⟩ own hn H qn Q hh hq h1 h2 (vh_asc0 hv)
   simp only at hQ
   have e2:(!false&&(true&&(wchk Q==0&&(qchk own H [] Q&&stay own H Q))))=(wchk Q==0&&(qchk own H [] Q&&stay own H Q)):=by simp
   rw [e2]
   generalize (wchk Q==0&&(qchk own H [] Q&&stay own H Q))=R at *
   simp [hL,hQ]
 ·have hF:flA own cnt time H B C cl val=true:=hA
  rw [hF]
  simp
theorem ev_mCheck (nm:D) (k sz ot:Int) (own cnt time:Int) (hn:Bool) (H:List Int) (qn:Bool) (Q:List Sp.W) (bn:Bool) (B:List Int) (cn:Bool) (C:List (List D)) (cl:Bool) (val:Int)
  (hh:hn=true→H=[]) (hq:qn=true→Q=[]) (h1:H.length≤1000) (h2:Q.length≤1000000) :
  ev P (.call z_68 [.d (.ag [nm,I' k,I' sz,I' ot]),.d (.ag [I' own,I' cnt,I' time,hD hn H,qD qn Q,hD bn B,cD cn C,.b cl,I' val])] []) =
   some (.val (.d (I' (if mnew k sz ot=0 then (if mvalid own cnt time H Q B C cl val then 0 else 1) else mnew k sz ot))) []):=by
 have hv:=ev_mvalid own cnt time hn H qn Q bn B cn C cl val hh hq h1 h2
 rw [ev_call P_z_68 rfl]
 cases hm:mnew k sz ot==0
 ·have hm':mnew k sz ot≠0:=by simpa using hm
  have hm2:(mnew k sz ot != 0)=true:=by simpa using hm'
  simp [F_z_68,ev_mNew,hm',hm2,zrow]
 ·have hm':mnew k sz ot=0:=by simpa using hm
  simp [F_z_68,ev_mNew,hm',frow,hv]
  cases mvalid own cnt time H Q B C cl val<;>simp
def rchk (l:List Sp.W):Int:=if 96<l.length then 4 else if l.all wvalid=true then 0 else 2
theorem rchk_eq (l:List Sp.W):rchk l=wchk l:=by
 have:∀(l:List Sp.W) (p:Option Sp.W),wcheckFrom 1 p l=if l.all wvalid=true then 0 else 2:=by
  intro l
  induction l with
  | nil=>intro p;rfl
  | cons a r ih =>
   intro p
   unfold wcheckFrom
   cases hv:wvalid a
   ·simp [hv]
   ·simp [hv,ih]
 unfold rchk wchk
 rw [this]
end Go.VS.R
namespace Go.VS.R
open Go.VS.Sp
def vainB (own:Int) (H:List Int):List Sp.W→Bool
 | []=>false
 | w::_=>if w.op=53 then decide (own<0) else (decide (own<0)&&H.isEmpty)
end Go.VS.R
namespace Go.VS.R
open Go.VS.Sp
def withF (n:Int):Bool→List Int→List Int
 | d,[]=>if d=true then [] else [n]
 | d,x::r=>if (!d&&decide (n<x))=true then n::x::withF n true r else x::withF n d r
end Go.VS.R
namespace Go.VS.R
open Go.VS.Sp
def srv:Int→List Int→List Sp.W→Int×List Int×List Sp.W×List Sp.W
 | own,H,[]=>(own,H,[],[])
 | own,H,w::r =>
  if vainB own H (w::r)=true then
   (
    if w.op=53 then let x:=srv own (withF w.task false H) r;(x.1,x.2.1,x.2.2.1,w::x.2.2.2)
    else let x:=srv w.task H r;(x.1,x.2.1,x.2.2.1,w::x.2.2.2))
  else (own,H,w::r,[])
abbrev rpD (z:Z) (own:Int) (hn:Bool) (H:List Int) (qn:Bool) (Q:List Sp.W) (parked:Bool) (ok:Bool) (kn:Bool) (k:List (List D)):D :=
 .ag [I' own,z.c1,z.c2,hD hn H,qD qn Q,z.c5,z.c6,z.c7,z.c8,.b parked,I' 0,.b ok,.sl 5 kn k]
end Go.VS.R
namespace Go.VS.R
open Go.VS.Sp
structure Rp where
 own:Int
 H:List Int
 Q:List Sp.W
 parked:Bool
 ok:Bool
 k:List Sp.W
 e:Int
def zr (e:Int):Rp:=⟨0,[],[],false,false,[],e⟩
def zZ (bn cn:Bool):Z:=⟨I' 0,I' 0,hD bn [],cD cn [],.b false,I' 0⟩
def Rets (x:Option Res) (r:Rp):Prop:=∃bn cn hn qn kn,x=some (.val (.tu [.d (rpD (zZ bn cn) r.own hn r.H qn r.Q r.parked r.ok kn (r.k.map wk)),.d (I' r.e)]) [])∧(hn=true→r.H=[])∧(qn=true→r.Q=[])
def srvM (own:Int) (H:List Int):List Sp.W→Int×List Int×List Sp.W×List Sp.W
 | []=>(own,H,[],[])
 | w::r =>
  if own≠-1∨(w.op=55∧H≠[]) then (own,H,w::r,[])
  else if w.op=55 then (w.task,H,r,[w])
  else (own,insA (insI w.task H) (r.takeWhile fun w=>w.op != 55),r.dropWhile fun w=>w.op != 55,w::r.takeWhile fun w=>w.op != 55)
abbrev stD (z:Z) (own:Int) (hn:Bool) (H:List Int) (qn:Bool) (Q:List Sp.W):D:=.ag [I' own,z.c1,z.c2,hD hn H,qD qn Q,z.c5,z.c6,z.c7,z.c8]
theorem Rets.zero {x:Option Res} {e:Int} (h:x=some (.val (.tu [.d (.ag [I' 0,I' 0,I' 0,.sl 1 true [],.sl 5 true [],.sl 1 true [],.sl 2 true [],.b false,I' 0,.b false,I' 0,.b false,.sl 5 true []]),.d (I' e)]) [])):Rets x (zr e) :=
 ⟨true,true,true,true,true,h,fun _=>rfl,fun _=>rfl⟩
end Go.VS.R
namespace Go.VS.R
open Go.VS.Sp
end Go.VS.R
namespace Go.VS.R
open Go.VS.Sp
theorem srvM_cons (own:Int) (H:List Int) (w:Sp.W) (r:List Sp.W):srvM own H (w::r) =
  if own≠-1∨(w.op=55∧H≠[]) then (own,H,w::r,[])
  else if w.op=55 then (w.task,H,r,[w])
  else (own,insA (insI w.task H) (r.takeWhile fun w=>w.op != 55),r.dropWhile fun w=>w.op != 55,w::r.takeWhile fun w=>w.op != 55):=rfl
theorem ev_serveM (z:Z) (own:Int) (Hs) (l:List Int) (Qs) (Q:List Sp.W) (hH:hL Hs l) (hQ:(∃nl,Qs = .inl nl∧Q=[])∨Qs = .inr (Q.map Sp.W.row,0,Q.length)) (hA:Asc l) (h1:l.length≤1000) (h2:Q.length≤1000) (ht:∀w,w∈Q→w.task≠-1) :
  (srvM own l Q=(own,l,Q,[])∧ev P (.call z_140 [.loc 0 0 0] (heap3 z own Hs Qs none))=some (.val (.tu []) (heap3 z own Hs Qs none))) ∨
  (∃w r,Q=w::r∧Qs = .inr (Q.map Sp.W.row,0,Q.length)∧own = -1∧l=[]∧srvM own l Q=(w.task,l,r,[w]) ∧
   ev P (.call z_140 [.loc 0 0 0] (heap3 z own Hs Qs none))=some (.val (.tu []) (heapW z w.task Hs ((w::r).map Sp.W.row) r (wk w)))) ∨
  (∃w r tk dk l',Q=w::r∧Qs = .inr (Q.map Sp.W.row,0,Q.length)∧own = -1∧r=tk++dk∧srvM own l Q=(own,l',dk,w::tk)∧l'≠[] ∧
   ev P (.call z_140 [.loc 0 0 0] (heap3 z own Hs Qs none))=some (.val (.tu []) (heapL z (-1) (hX Hs) ((w::r).map Sp.W.row) (1+tk.length) dk l' (wk w::tk.map wk)))):=by
 have hlen0:hlen Hs=l.length:=by
  rcases Hs with _ | ⟨R,n⟩
  ·obtain rfl:l=[]:=hH
   rfl
  ·exact hH.1
 rcases hQ with ⟨nl,rfl,rfl⟩ | rfl
 ·exact .inl ⟨rfl,ev_serve0 z own Hs nl⟩
 ·cases Q with
  | nil=>exact .inl ⟨rfl,ev_serve00 z own Hs []⟩
  | cons w r =>
   by_cases hs:own≠-1∨(w.op=55∧hlen Hs≠0)
   ·refine .inl ⟨?_,ev_serve1 z own Hs w r hs⟩
    rw [srvM_cons]
    rw [if_pos]
    rcases hs with hs | ⟨hs1,hs2⟩
    ·exact .inl hs
    ·exact .inr ⟨hs1,fun h=>by rw [hlen0,h] at hs2;exact hs2 rfl⟩
   ·have ho:own = -1:=Classical.byContradiction fun h=>hs (.inl h)
    subst ho
    have hs':¬((-1:Int)≠-1∨(w.op=55∧l≠[])):=by
     intro h
     rcases h with h | ⟨h1,h2⟩
     ·exact h rfl
     ·apply hs
      refine .inr ⟨h1,?_⟩
      rw [hlen0]
      intro h
      exact h2 (List.length_eq_zero_iff.1 h)
    by_cases h55:w.op=55
    ·have hh0:hlen Hs=0:=Classical.byContradiction fun h=>hs (.inr ⟨h55,h⟩)
     have hl0:l=[]:=by rw [hlen0] at hh0;exact List.length_eq_zero_iff.1 hh0
     refine .inr (.inl ⟨w,r,rfl,rfl,rfl,hl0,?_,ev_serve2 z Hs w r h55 hh0 (ht w (by simp))⟩)
     rw [srvM_cons]
     rw [if_neg hs',if_pos h55]
    ·refine .inr (.inr ⟨w,r,r.takeWhile fun w=>w.op != 55,r.dropWhile fun w=>w.op != 55,insA (insI w.task l) (r.takeWhile fun w=>w.op != 55),rfl,rfl,rfl,(List.takeWhile_append_dropWhile).symm,?_,?_,ev_serve3 z Hs l w r h55 hH hA h1 (by simp at h2;omega)⟩)
     ·rw [srvM_cons]
      rw [if_neg hs',if_neg h55]
     ·have:∀(q:List Sp.W) (m:List Int),m≠[]→insA m q≠[]:=by
       intro q
       induction q with
       | nil=>intro m hm;exact hm
       | cons a q ih =>
        intro m hm
        refine ih _ ?_
        intro h
        have h':insI a.task m=[]:=h
        have:=insI_len a.task m
        rw [h'] at this
        simp at this
      refine this _ _ ?_
      intro h
      have:=insI_len w.task l
      rw [h] at this
      simp at this
theorem le11 (k:Nat):1+(k+1)≤k+1+1:=by omega
theorem getK {w:Sp.W} {tk dk:List Sp.W}:(((w::(tk++dk)).map Sp.W.row).drop (1+tk.length)).take dk.length=dk.map Sp.W.row∧1+tk.length+dk.length≤((w::(tk++dk)).map Sp.W.row).length:=by
 have:(w::(tk++dk)).map Sp.W.row=(w::tk).map Sp.W.row++dk.map Sp.W.row:=by simp
 rw [this]
 constructor
 ·rw [List.drop_left' (by simp;omega)]
  exact List.take_of_length_le (by simp)
 ·simp;omega
end Go.VS.R
namespace Go.VS.R
open Go.VS.Sp
def wdV (own:Int) (H:List Int) (Q:List Sp.W) (t:Int):Rp :=
 if (Q.any fun w=>w.task==t)=true then (let x:=srvM own H (Q.filter fun w=>w.task != t);⟨x.1,x.2.1,x.2.2.1,false,false,x.2.2.2,0⟩) else zr 7
theorem ev_withdraw0 (o2:D) (bn cn:Bool) (own:Int) (hn:Bool) (H:List Int) (qn:Bool) (Q:List Sp.W) (t:Int) (h4:Q.length≤1000)
  (hC:ev P (.call z_68 [.d o2,.d (stD (zZ bn cn) own hn H qn Q)] [])=some (.val (.d (I' 0)) [])) (ho2:∃a b c d,o2 = .ag [a,b,c,d])
  (hq:(Q.any fun w=>w.task==t)=false) :
  Rets (ev P (.call z_70 [.d o2,.d (stD (zZ bn cn) own hn H qn Q),.d (I' t)] [])) (wdV own H Q t):=by
 obtain ⟨a,b,c,d,rfl⟩:=ho2
 have hF:=ev_wFind qn Q t (by omega)
 rw [fd_any,hq] at hF
 generalize (fdS Q t).1=fi at *
 unfold wdV
 rw [hq,if_neg (by simp)]
 simp only [zZ] at *
 refine Rets.zero ?_
 rw [ev_call P_z_70 rfl]
 simp [F_z_70,hC,hF,overlay]
theorem ev_withdraw1 (o2:D) (bn cn:Bool) (own:Int) (hn:Bool) (H:List Int) (qn:Bool) (Q:List Sp.W) (t:Int) (h1:hn=true→H=[]) (h2:qn=true→Q=[]) (h3:H.length≤1000) (h4:Q.length≤1000) (hA:Asc H) (ht:∀w,w∈Q→w.task≠-1)
  (hC:ev P (.call z_68 [.d o2,.d (stD (zZ bn cn) own hn H qn Q)] [])=some (.val (.d (I' 0)) [])) (ho2:∃a b c d,o2 = .ag [a,b,c,d])
  (hq:(Q.any fun w=>w.task==t)=true) :
  Rets (ev P (.call z_70 [.d o2,.d (stD (zZ bn cn) own hn H qn Q),.d (I' t)] [])) (wdV own H Q t):=by
 obtain ⟨a,b,c,d,rfl⟩:=ho2
 have hqn:qn=false:=by cases qn;rfl;rw [h2 rfl] at hq;simp at hq
 subst hqn
 have hF:=ev_wFind false Q t (by omega)
 have hCh:=ev_changed (zZ bn cn) own hn H false Q h1 h2 (by omega) (by omega)
 have hRm:=ev_RemoveR Q t (by omega)
 rw [fd_any,hq] at hF
 generalize (fdS Q t).1=fi at *
 unfold wdV
 rw [hq,if_pos rfl]
 have hfl:(Q.filter fun w=>w.task != t).length≤Q.length:=List.length_filter_le _ _
 have htf:∀w,w∈(Q.filter fun w=>w.task != t)→w.task≠-1:=fun w hw=>ht w (List.mem_filter.1 hw).1
 generalize (Q.filter fun w=>w.task != t)=F at *
 have hh0:heap0 (zZ bn cn) own hn H false Q=heap3 (zZ bn cn) own (hS hn H) (qS false Q) none:=by unfold heap0;rw [if_neg (by simp)]
 rw [hh0] at hCh
 cases F with
 | nil =>
  have hSv:=ev_serve0 (zZ bn cn) own (hS hn H) true
  refine ⟨bn,cn,hn,true,true,?_,by simp [srvM];exact h1,by simp [srvM]⟩
  simp only [zZ] at *
  rw [ev_call P_z_70 rfl]
  cases hn<;>simp [heap3,heapW,heapL,lk,hS,qS,hV,hO,hX,qV,qO,kV,kO,qcV,bcV,bcH] at hCh hSv hRm
  ·simp [F_z_70,hC,hF,callD,hCh,callR,hRm,hSv,srvM,reachC,cut,rg2,rg3,rg4,rg5,List.idxOf_cons,sub,setAll,back,overlay,take_map_len,endH]
  ·obtain rfl:=h1 rfl
   simp [F_z_70,hC,hF,callD,hCh,callR,hRm,hSv,srvM,reachC,cut,rg2,rg3,rg4,rg5,List.idxOf_cons,sub,setAll,back,overlay,take_map_len,endH]
 | cons f F' =>
  have hSv:=ev_serveM (zZ bn cn) own (hS hn H) H (.inr ((f::F').map Sp.W.row,0,(f::F').length)) (f::F') (hL_hS h1) (.inr rfl) hA (by omega) (by omega) htf
  simp only [List.map_cons,bcV,bcH,List.length_cons,List.length_map] at hRm
  rcases hSv with ⟨e,hSv⟩ | ⟨w,r,hFF,hQs,rfl,rfl,e,hSv⟩ | ⟨w,r,tk,dk,l',hFF,hQs,rfl,rfl,e,hl0,hSv⟩
  ·rw [e]
   refine ⟨bn,cn,hn,false,true,?_,h1,by simp⟩
   simp only [zZ] at *
   rw [ev_call P_z_70 rfl]
   cases hn<;>simp [heap3,heapW,heapL,lk,hS,qS,hV,hO,hX,qV,qO,kV,kO,qcV] at hCh hSv
   ·simp [F_z_70,hC,hF,callD,hCh,callR,hRm,hSv,reachC,cut,rg2,rg3,rg4,rg5,List.idxOf_cons,sub,setAll,back,overlay,take_map_len,endH]
   ·obtain rfl:=h1 rfl
    simp [F_z_70,hC,hF,callD,hCh,callR,hRm,hSv,reachC,cut,rg2,rg3,rg4,rg5,List.idxOf_cons,sub,setAll,back,overlay,take_map_len,endH]
  ·rw [e]
   obtain ⟨rfl,rfl⟩:f=w∧F'=r:=by simpa using hFF
   refine ⟨bn,cn,hn,false,false,?_,by simp,by simp⟩
   simp only [zZ] at *
   rw [ev_call P_z_70 rfl]
   cases hn<;>cases F'<;>simp [heap3,heapW,heapL,lk,hS,qS,hV,hO,hX,qV,qO,kV,kO,qcV] at hCh hSv hRm <;>
   simp [F_z_70,hC,hF,callD,hCh,callR,hRm,hSv,le11,reachC,cut,rg2,rg3,rg4,rg5,List.idxOf_cons,sub,setAll,back,overlay,take_map_len,endH]
  ·rw [e]
   obtain ⟨g1,g2⟩:=getK (w:=w) (tk:=tk) (dk:=dk)
   rw [←hFF] at g1 g2 hSv
   refine ⟨bn,cn,false,false,false,?_,by simp,by simp⟩
   simp only [zZ] at *
   rw [ev_call P_z_70 rfl]
   have hRow:Sp.W.row f::F'.map Sp.W.row=(f::F').map Sp.W.row:=rfl
   have hLn:F'.length+1=(f::F').length:=rfl
   rw [hRow,hLn] at hRm
   generalize f::F'=QQ at *
   generalize hSS:QQ.map Sp.W.row=S at *
   cases hn<;>cases dk<;>simp [heap3,heapW,heapL,lk,hS,qS,hV,hO,hX,qV,qO,kV,kO,qcV] at hCh hSv g1 g2 <;>
   simp [F_z_70,hC,hF,callD,hCh,callR,hRm,hSv,g1,g2,reachC,cut,rg2,rg3,rg4,rg5,List.idxOf_cons,sub,setAll,back,overlay,take_map_len,endH]
theorem ev_withdraw (o2:D) (bn cn:Bool) (own:Int) (hn:Bool) (H:List Int) (qn:Bool) (Q:List Sp.W) (t:Int) (h1:hn=true→H=[]) (h2:qn=true→Q=[]) (h3:H.length≤1000) (h4:Q.length≤1000) (hA:Asc H) (ht:∀w,w∈Q→w.task≠-1)
  (hC:ev P (.call z_68 [.d o2,.d (stD (zZ bn cn) own hn H qn Q)] [])=some (.val (.d (I' 0)) [])) (ho2:∃a b c d,o2 = .ag [a,b,c,d]) :
  Rets (ev P (.call z_70 [.d o2,.d (stD (zZ bn cn) own hn H qn Q),.d (I' t)] [])) (wdV own H Q t):=by
 cases hq:Q.any fun w=>w.task==t
 ·exact ev_withdraw0 o2 bn cn own hn H qn Q t h4 hC ho2 hq
 ·exact ev_withdraw1 o2 bn cn own hn H qn Q t h1 h2 h3 h4 hA ht hC ho2 hq
end Go.VS.R
namespace Go.VS.R
open Go.VS.Sp
theorem mem_insI {t x:Int} {l:List Int}:x∈insI t l↔x=t∨x∈l:=by
 unfold insI
 rw [List.mem_append,List.mem_cons]
 have:x∈l↔x∈l.take (bI t l)∨x∈l.drop (bI t l):=by
  rw [←List.mem_append,List.take_append_drop]
 rw [this]
 constructor
 ·rintro (h | h | h)
  ·exact .inr (.inl h)
  ·exact .inl h
  ·exact .inr (.inr h)
 ·rintro (h | h | h)
  ·exact .inr (.inl h)
  ·exact .inl h
  ·exact .inr (.inr h)
structure QOK (own:Int) (H:List Int) (Q:List Sp.W):Prop where
 op:∀w,w∈Q→w.op=53∨w.op=55
 pos:∀w,w∈Q→0≤w.task
 nin:∀w,w∈Q→w.task∉H
 dis:Q.Pairwise fun a b=>a.task≠b.task
theorem QOK.sub {own own':Int} {H H':List Int} {Q Q':List Sp.W} (h:QOK own H Q) (hs:Q'.Sublist Q) (hH:∀x,x∈H'→x∈H):QOK own' H' Q' :=
 ⟨fun w hw=>h.op w (hs.mem hw),fun w hw=>h.pos w (hs.mem hw),fun w hw hx=>h.nin w (hs.mem hw) (hH _ hx),h.dis.sublist hs⟩
structure MV (own:Int) (H:List Int) (Q:List Sp.W):Prop where
 ow:own = -1∨(isTask own=true∧H=[])
 vh:vh [] H=true
 wc:wchk Q=0
 qc:qchk own H [] Q=true
 st:stay own H Q=true
theorem mvalid_iff {own cnt time:Int} {H:List Int} {Q:List Sp.W} {B:List Int} {C:List (List D)} {cl:Bool} {val:Int} :
  mvalid own cnt time H Q B C cl val=true↔MV own H Q∧cnt=0∧time=0∧B=[]∧C=[]∧cl=false∧val=0:=by
 unfold mvalid flA
 constructor
 ·intro h
  simp at h
  obtain ⟨⟨⟨⟨⟨⟨⟨a1,a2⟩,a3⟩,a4⟩,a5⟩,a6⟩,a7⟩,b1,b2,b3,b4⟩:=h
  refine ⟨⟨?_,b1,b2,b3,b4⟩,a2,a3,a4,a5,a6,a7⟩
  exact a1
 ·rintro ⟨⟨h1,h2,h3,h4,h5⟩,rfl,rfl,rfl,rfl,rfl,rfl⟩
  simp [h2,h3,h4,h5]
  exact h1
theorem qchk_spec {own:Int} {H:List Int}:∀{suf pre:List Sp.W},qchk own H pre suf=true↔(∀w,w∈suf→wbd own H w=false)∧suf.Pairwise (fun a b=>a.task≠b.task)∧(∀a,a∈pre→∀b,b∈suf→a.task≠b.task)
 | [],pre=>by simp [qchk]
 | w::r,pre=>by
  have e1:qchk own H pre (w::r)=(!pre.any (fun x=>x.task==w.task)&&!wbd own H w&&qchk own H (pre++[w]) r):=rfl
  rw [e1]
  have ih:=@qchk_spec own H r (pre++[w])
  have ha:(!pre.any (fun x=>x.task==w.task))=true↔∀a,a∈pre→a.task≠w.task:=by
   simp
  rw [Bool.and_eq_true,Bool.and_eq_true,ih,ha]
  constructor
  ·rintro ⟨⟨h1,h2⟩,h3,h4,h5⟩
   have h2:wbd own H w=false:=by simpa using h2
   refine ⟨?_,List.pairwise_cons.2 ⟨fun b hb=>h5 w (by simp) b hb,h4⟩,?_⟩
   ·intro x hx
    rcases List.mem_cons.1 hx with e | hx
    ·rw [e];exact h2
    ·exact h3 x hx
   ·intro a ha b hb
    rcases List.mem_cons.1 hb with e | hb
    ·rw [e];exact h1 a ha
    ·exact h5 a (by simp [ha]) b hb
  ·rintro ⟨h1,h2,h3⟩
   rw [List.pairwise_cons] at h2
   refine ⟨⟨fun a ha=>h3 a ha w (by simp),by simp [h1 w (by simp)]⟩,fun x hx=>h1 x (by simp [hx]),h2.2,?_⟩
   intro a ha b hb
   rcases List.mem_append.1 ha with ha | ha
   ·exact h3 a ha b (by simp [hb])
   ·simp at ha;rw [ha];exact h2.1 b hb
theorem MV.asc {own:Int} {H:List Int} {Q:List Sp.W} (h:MV own H Q):Asc H:=vh_asc0 h.vh
theorem hld_zero {own:Int} {H:List Int} {t:Int} (ht:0≤t):hld own H t=0↔t≠own∧t∉H:=by
 unfold hld
 by_cases h1:t=own
 ·simp [ht,h1];omega
 ·by_cases h2:t∈H<;>simp [h1,h2]
theorem MV.qok {own:Int} {H:List Int} {Q:List Sp.W} (h:MV own H Q):QOK own H Q:=by
 obtain ⟨h1,h2⟩:=wchk_zero h.wc
 obtain ⟨q1,q2,_⟩:=qchk_spec.1 h.qc
 refine ⟨fun w hw=>?_,fun w hw=>(wvalid_task (h2 w hw)).1,fun w hw=>?_,q2⟩
 ·have:=q1 w hw
  unfold wbd at this
  by_cases h53:w.op=53
  ·exact .inl h53
  ·right
   simp [h53] at this
   exact this.1.1.1
 ·have:=q1 w hw
  unfold wbd at this
  simp at this
  exact ((hld_zero (wvalid_task (h2 w hw)).1).1 this.2).2
theorem MV.task {own:Int} {H:List Int} {Q:List Sp.W} (h:MV own H Q):∀w,w∈Q→w.task≠-1:=fun w hw=>by
 have:=h.qok.pos w hw;omega
theorem MV.free {H:List Int} {Q:List Sp.W} (h:MV (-1) H Q) (hH:H=[]):Q=[]:=by
 cases Q with
 | nil=>rfl
 | cons w r =>
  have:=h.st
  simp [stay,hH] at this
def ckd (k sz ot own cnt time:Int) (H:List Int) (Q:List Sp.W) (B:List Int) (C:List (List D)) (cl:Bool) (val:Int):Int :=
 if mnew k sz ot=0 then (if mvalid own cnt time H Q B C cl val then 0 else 1) else mnew k sz ot
theorem ckd_zero {k sz ot own cnt time:Int} {H:List Int} {Q:List Sp.W} {B:List Int} {C:List (List D)} {cl:Bool} {val:Int} (h:ckd k sz ot own cnt time H Q B C cl val=0) :
  MV own H Q∧cnt=0∧time=0∧B=[]∧C=[]∧cl=false∧val=0:=by
 unfold ckd at h
 by_cases hm:mnew k sz ot=0
 ·rw [if_pos hm] at h
  cases hv:mvalid own cnt time H Q B C cl val
  ·rw [hv] at h;simp at h
  ·exact mvalid_iff.1 hv
 ·rw [if_neg hm] at h;exact absurd h hm
abbrev stF (own cnt time:Int) (hn:Bool) (H:List Int) (qn:Bool) (Q:List Sp.W) (bn:Bool) (B:List Int) (cn:Bool) (C:List (List D)) (cl:Bool) (val:Int):D :=
 .ag [I' own,I' cnt,I' time,hD hn H,qD qn Q,hD bn B,cD cn C,.b cl,I' val]
theorem ev_mWithdraw (nm:D) (k sz ot:Int) (own cnt time:Int) (hn:Bool) (H:List Int) (qn:Bool) (Q:List Sp.W) (bn:Bool) (B:List Int) (cn:Bool) (C:List (List D)) (cl:Bool) (val:Int) (t:Int)
  (hh:hn=true→H=[]) (hq:qn=true→Q=[]) (h1:H.length≤1000) (h2:Q.length≤1000) :
  Rets (ev P (.call z_70 [.d (.ag [nm,I' k,I' sz,I' ot]),.d (stF own cnt time hn H qn Q bn B cn C cl val),.d (I' t)] []))
   (if ckd k sz ot own cnt time H Q B C cl val=0 then wdV own H Q t else zr 1):=by
 have hC:=ev_mCheck nm k sz ot own cnt time hn H qn Q bn B cn C cl val hh hq h1 (by omega)
 by_cases hc:ckd k sz ot own cnt time H Q B C cl val=0
 ·obtain ⟨hM,rfl,rfl,rfl,rfl,rfl,rfl⟩:=ckd_zero hc
  have hC2:ev P (.call z_68 [.d (.ag [nm,I' k,I' sz,I' ot]),.d (stD (zZ bn cn) own hn H qn Q)] [])=some (.val (.d (I' 0)) []):=by
   have:ckd k sz ot own 0 0 H Q [] [] false 0=(if mnew k sz ot=0 then (if mvalid own 0 0 H Q [] [] false 0 then 0 else 1) else mnew k sz ot):=rfl
   rw [←this,hc] at hC
   exact hC
  rw [if_pos hc]
  exact ev_withdraw _ bn cn own hn H qn Q t hh hq h1 h2 hM.asc hM.task hC2 ⟨_,_,_,_,rfl⟩
 ·rw [if_neg hc]
  have hc2:(ckd k sz ot own cnt time H Q B C cl val != 0)=true:=by simpa using hc
  have hC3:ev P (.call z_68 [.d (.ag [nm,I' k,I' sz,I' ot]),.d (.ag [I' own,I' cnt,I' time,hD hn H,qD qn Q,hD bn B,cD cn C,.b cl,I' val])] [])=some (.val (.d (I' (ckd k sz ot own cnt time H Q B C cl val))) []):=hC
  generalize ckd k sz ot own cnt time H Q B C cl val=ck at *
  refine Rets.zero ?_
  rw [ev_call P_z_70 rfl]
  simp [F_z_70,hC3,hc2,overlay]
end Go.VS.R
namespace Go.VS.R
open Go.VS.Sp
theorem Sp.W.neq {w w':Sp.W} (h:¬w=w'):(!w.task==w'.task||(!w.op==w'.op||(!w.value==w'.value||(!w.prio==w'.prio||!w.case==w'.case))))=true:=by
 cases hb:(!w.task==w'.task||(!w.op==w'.op||(!w.value==w'.value||(!w.prio==w'.prio||!w.case==w'.case))))
 ·exfalso;apply h
  simp at hb
  cases w;cases w';simp at hb ⊢;exact hb
 ·rfl
end Go.VS.R
namespace Go.VS.R
open Go.VS.Sp
end Go.VS.R
namespace Go.VS.R
open Go.VS.Sp
end Go.VS.R
namespace Go.VS.R
open Go.VS.Sp
theorem insA_len:∀(q:List Sp.W) (l:List Int),(insA l q).length=l.length+q.length
 | [],l=>by simp [insA]
 | a::q,l=>by
  have:=insA_len q (insI a.task l)
  have h:=insI_len a.task l
  have e:insA l (a::q)=insA (insI a.task l) q:=rfl
  rw [e,this,h]
  simp;omega
end Go.VS.R
namespace Go.VS.R
open Go.VS.Sp
def SAsc (l:List Int):Prop:=l.Pairwise (·<·)
theorem SAsc.asc {l:List Int} (h:SAsc l):Asc l:=List.Pairwise.imp (fun h=>Int.le_of_lt h) h
theorem sasc_ins {t:Int} {l:List Int} (h:SAsc l) (ht:t∉l):SAsc (insI t l):=by
 obtain ⟨h1,h2⟩:=bI_split t h.asc
 have h2':∀x,x∈l.drop (bI t l)→t<x:=fun x hx=>by
  have:=h2 x hx
  have hne:x≠t:=fun e=>ht (by rw [←e];exact List.mem_of_mem_drop hx)
  omega
 unfold insI SAsc
 rw [List.pairwise_append]
 refine ⟨h.sublist (List.take_sublist _ _),List.pairwise_cons.2 ⟨h2',h.sublist (List.drop_sublist _ _)⟩,?_⟩
 intro a ha b hb
 rcases List.mem_cons.1 hb with rfl | hb
 ·exact h1 a ha
 ·exact Int.lt_trans (h1 a ha) (h2' b hb)
theorem vh_iff:∀{suf pre:List Int},vh pre suf=true↔(∀x,x∈suf→isTask x=true)∧(pre.getLast?.toList++suf).Pairwise (·<·)
 | [],pre=>by cases h:pre.getLast?<;>simp [vh]
 | x::r,pre=>by
  have e1:vh pre (x::r)=(!(!isTask x||pre.getLast?.any (fun y=>decide (x≤y)))&&vh (pre++[x]) r):=rfl
  rw [e1,Bool.and_eq_true,vh_iff]
  have hl:(pre++[x]).getLast?=some x:=by simp
  rw [hl]
  cases hp:pre.getLast? with
  | none =>
   simp
   exact ⟨fun ⟨h1,h2,h3⟩=>⟨⟨h1,h2⟩,h3⟩,fun ⟨⟨h1,h2⟩,h3⟩=>⟨h1,h2,h3⟩⟩
  | some p =>
   simp
   constructor
   ·rintro ⟨⟨h1,h2⟩,h3,h4,h5⟩
    exact ⟨⟨h1,h3⟩,⟨h2,fun y hy=>Int.lt_trans h2 (h4 y hy)⟩,h4,h5⟩
   ·rintro ⟨⟨h1,h3⟩,⟨h2,_⟩,h4,h5⟩
    exact ⟨⟨h1,h2⟩,h3,h4,h5⟩
theorem vh_iff0 {H:List Int}:vh [] H=true↔(∀x,x∈H→isTask x=true)∧SAsc H:=by
 rw [vh_iff];simp [SAsc]
theorem wchk_iff {Q:List Sp.W}:wchk Q=0↔Q.length≤96∧∀w,w∈Q→wvalid w=true:=by
 constructor
 ·exact wchk_zero
 ·rintro ⟨h1,h2⟩
  rw [←rchk_eq]
  unfold rchk
  rw [if_neg (by omega),if_pos (by simpa using h2)]
structure WOK (own:Int) (H:List Int) (w:Sp.W):Prop where
 v:wvalid w=true
 op:w.op=53∨w.op=55
 val:w.value=0
 cs:w.case = -1
 no:w.task≠own
 nin:w.task∉H
theorem wbd_iff {own:Int} {H:List Int} {w:Sp.W} (hv:wvalid w=true):wbd own H w=false↔WOK own H w:=by
 have ht:=(wvalid_task hv).1
 unfold wbd
 constructor
 ·intro h
  simp at h
  obtain ⟨⟨⟨h1,h2⟩,h3⟩,h4⟩:=h
  obtain ⟨h5,h6⟩:=(hld_zero ht).1 h4
  exact ⟨hv,by by_cases h:w.op=53;exact .inl h;exact .inr (by simpa [h] using h1),h2,h3,h5,h6⟩
 ·rintro ⟨_,h1,h2,h3,h4,h5⟩
  have:=(hld_zero ht).2 ⟨h4,h5⟩
  rcases h1 with h1 | h1<;>simp [h1,h2,h3,this]
theorem MV_iff {own:Int} {H:List Int} {Q:List Sp.W}:MV own H Q↔(own = -1∨(isTask own=true∧H=[]))∧(∀x,x∈H→isTask x=true)∧SAsc H∧Q.length≤96∧(∀w,w∈Q→WOK own H w)∧Q.Pairwise (fun a b=>a.task≠b.task)∧stay own H Q=true:=by
 constructor
 ·rintro ⟨h1,h2,h3,h4,h5⟩
  obtain ⟨v1,v2⟩:=vh_iff0.1 h2
  obtain ⟨w1,w2⟩:=wchk_iff.1 h3
  obtain ⟨q1,q2,_⟩:=qchk_spec.1 h4
  exact ⟨h1,v1,v2,w1,fun w hw=>(wbd_iff (w2 w hw)).1 (q1 w hw),q2,h5⟩
 ·rintro ⟨h1,v1,v2,w1,q1,q2,h5⟩
  refine ⟨h1,vh_iff0.2 ⟨v1,v2⟩,wchk_iff.2 ⟨w1,fun w hw=>(q1 w hw).v⟩,qchk_spec.2 ⟨fun w hw=>(wbd_iff (q1 w hw).v).2 (q1 w hw),q2,by simp⟩,h5⟩
theorem mem_insA {x:Int}:∀{q:List Sp.W} {l:List Int},x∈insA l q↔x∈l∨∃w,w∈q∧w.task=x
 | [],l=>by simp [insA]
 | a::q,l=>by
  have e:insA l (a::q)=insA (insI a.task l) q:=rfl
  rw [e,mem_insA,mem_insI]
  constructor
  ·rintro ((h | h) | ⟨w,h1,h2⟩)
   ·exact .inr ⟨a,by simp,h.symm⟩
   ·exact .inl h
   ·exact .inr ⟨w,by simp [h1],h2⟩
  ·rintro (h | ⟨w,h1,h2⟩)
   ·exact .inl (.inr h)
   ·rcases List.mem_cons.1 h1 with e | h1
    ·exact .inl (.inl (by rw [←h2,e]))
    ·exact .inr ⟨w,h1,h2⟩
theorem sasc_insA:∀{q:List Sp.W} {l:List Int},SAsc l→(∀w,w∈q→w.task∉l)→q.Pairwise (fun a b=>a.task≠b.task)→SAsc (insA l q)
 | [],l,h,_,_=>h
 | a::q,l,h,hn,hd=>by
  rw [List.pairwise_cons] at hd
  have e:insA l (a::q)=insA (insI a.task l) q:=rfl
  rw [e]
  refine sasc_insA (sasc_ins h (hn a (by simp))) ?_ hd.2
  intro w hw hm
  rcases mem_insI.1 hm with e | hm
  ·exact hd.1 w hw e.symm
  ·exact hn w (by simp [hw]) hm
theorem wok_task {own:Int} {H:List Int} {w:Sp.W} (h:WOK own H w):isTask w.task=true:=by
 have:=wvalid_task h.v
 unfold isTask;simp;omega
theorem MV_srv {own:Int} {H:List Int} {Q:List Sp.W} (h1:own = -1∨(isTask own=true∧H=[])) (h2:∀x,x∈H→isTask x=true) (h3:SAsc H) (h4:Q.length≤96) (h5:∀w,w∈Q→WOK own H w) (h6:Q.Pairwise (fun a b=>a.task≠b.task)) :
  MV (srvM own H Q).1 (srvM own H Q).2.1 (srvM own H Q).2.2.1:=by
 cases Q with
 | nil=>exact MV_iff.2 ⟨h1,h2,h3,h4,h5,h6,rfl⟩
 | cons w r =>
  rw [srvM_cons]
  rw [List.pairwise_cons] at h6
  have hw:=h5 w (by simp)
  split
  ·rename_i hs
   refine MV_iff.2 ⟨h1,h2,h3,h4,h5,List.pairwise_cons.2 h6,?_⟩
   unfold stay
   rcases hs with hs | ⟨hs1,hs2⟩
   ·simp [hs]
   ·simp [hs1,hs2]
  ·rename_i hs
   have ho:own = -1:=Classical.byContradiction fun h=>hs (.inl h)
   split
   ·rename_i h55
    have hH:H=[]:=Classical.byContradiction fun h=>hs (.inr ⟨h55,h⟩)
    subst hH
    refine MV_iff.2 ⟨.inr ⟨wok_task hw,rfl⟩,by simp,List.Pairwise.nil,by simp at h4 ⊢;omega,?_,h6.2,?_⟩
    ·intro x hx
     have:=h5 x (by simp [hx])
     exact ⟨this.v,this.op,this.val,this.cs,fun e=>h6.1 x hx e.symm,by simp⟩
    ·cases r with
     | nil=>rfl
     | cons a r =>
      have:=(wvalid_task hw.v).1
      simp [stay]
      omega
   ·rename_i h55
    subst ho
    have hsp:(r.takeWhile fun w=>w.op != 55)++(r.dropWhile fun w=>w.op != 55)=r:=List.takeWhile_append_dropWhile
    have hdk:∀a l,(r.dropWhile fun w=>w.op != 55)=a::l→a.op=55:=by
     intro a l h
     have:=List.head?_dropWhile_not (fun w:Sp.W=>w.op != 55) r
     rw [h] at this
     simpa using this
    generalize (r.takeWhile fun w=>w.op != 55)=tk at *
    generalize (r.dropWhile fun w=>w.op != 55)=dk at *
    subst hsp
    have hd:=List.pairwise_append.1 h6.2
    have hm:∀x,x∈insA (insI w.task H) tk↔(x=w.task∨x∈H)∨∃v,v∈tk∧v.task=x:=by
     intro x;rw [mem_insA,mem_insI]
    refine MV_iff.2 ⟨.inl rfl,?_,?_,?_,?_,hd.2.1,?_⟩
    ·intro x hx
     rcases (hm x).1 hx with (rfl | hx) | ⟨v,hv,rfl⟩
     ·exact wok_task hw
     ·exact h2 x hx
     ·exact wok_task (h5 v (by simp [hv]))
    ·refine sasc_insA (sasc_ins h3 hw.nin) ?_ hd.1
     intro v hv hx
     rcases mem_insI.1 hx with e | hx
     ·exact h6.1 v (by simp [hv]) e.symm
     ·exact (h5 v (by simp [hv])).nin hx
    ·simp at h4 ⊢;omega
    ·intro x hx
     have:=h5 x (by simp [hx])
     refine ⟨this.v,this.op,this.val,this.cs,this.no,fun hxm=>?_⟩
     rcases (hm _).1 hxm with (e | hx2) | ⟨v,hv,e⟩
     ·exact h6.1 x (by simp [hx]) e.symm
     ·exact this.nin hx2
     ·exact hd.2.2 v hv x hx e
    ·show stay (-1) (insA (insI w.task H) tk) dk=true
     cases dk with
     | nil=>rfl
     | cons a l =>
      have h55':=hdk a l rfl
      have hne:(insA (insI w.task H) tk).isEmpty=false:=by
       cases hi:insA (insI w.task H) tk with
       | nil=>have:=(hm w.task).2 (.inl (.inl rfl));rw [hi] at this;cases this
       | cons _ _=>rfl
      simp [stay,h55',hne]
theorem MV_wdV {own:Int} {H:List Int} {Q:List Sp.W} {t:Int} (hM:MV own H Q) (he:(wdV own H Q t).e=0):MV (wdV own H Q t).own (wdV own H Q t).H (wdV own H Q t).Q:=by
 obtain ⟨m1,m2,m3,m4,m5,m6,m7⟩:=MV_iff.1 hM
 unfold wdV at he ⊢
 cases hw:Q.any fun w=>w.task==t
 ·rw [hw] at he
  simp [zr] at he
 ·simp only [if_true]
  have hfl:(Q.filter fun w=>w.task != t).length≤Q.length:=List.length_filter_le _ _
  exact MV_srv m1 m2 m3 (by omega) (fun w hw=>m5 w (List.mem_filter.1 hw).1) (m6.sublist List.filter_sublist)
end Go.VS.R
namespace Go.VS.Sp
def okMq (s:S):Bool:=M.mvalid s.own s.cnt s.time s.H s.Q s.B (s.C.map K.row) s.cl s.val
def okWq (s:S):Bool:=R.mvalid s.own s.cnt s.time s.H s.Q s.B (s.C.map K.row) s.cl s.val
def ckG (k sz ot:Int) (s:S):Int :=
 if k=1 then ck (nwA 1 k sz ot) (okMq s) else if k=2 then ck (nwA 2 k sz ot) (okWq s) else if k=4 then ck (nwS k sz ot) (okSq sz ot s)
 else if k=5 then ck (nwB k sz ot) (okBq sz s) else if k=6 then ck (nwC k sz ot) (okCq sz s) else if k=7 then ckd k sz ot s
 else if k=8 then ck (nwL k sz ot) (okLq sz s) else if k=9 then ck (nwA 9 k sz ot) (okFq s) else 8
structure S.fine (s:S):Prop where
 wf:s.wf
 qn:s.qn=true→s.Q=[]
 h:s.H.length≤40
 q:s.Q.length≤40
 b:s.B.length≤120
 c:s.C.length≤40
 l:∀c∈s.C,c.log.length≤120
theorem S.fine.sm {s:S} (h:s.fine):s.sm:=⟨by have:=h.h;omega,by have:=h.b;omega,by have:=h.q;omega,by have:=h.c;omega,fun c hc=>by have:=h.l c hc;omega⟩
theorem fine_of {s:S} (hw:s.wf) (hq:s.qn=true→s.Q=[]) (hg:s.great=false):s.fine:=by
 unfold S.great at hg
 simp at hg
 obtain ⟨⟨⟨⟨h1,h2⟩,h3⟩,h4⟩,h5⟩:=hg
 exact ⟨hw,hq,by omega,by omega,by omega,by omega,fun c hc=>by have:=h5 c hc;omega⟩
theorem ev_ckMq (nm:D) (k sz ot:Int) (s:S) (h:s.fine) :
  ev P (.call z_63 [.d (.ag [nm,I' k,I' sz,I' ot]),.d (.ag s.row)] [])=some (.val (.d (I' (ck (nwA 1 k sz ot) (okMq s)))) []):=by
 have hs:=h.sm
 exact M.ev_mCheck nm k sz ot s.own s.cnt s.time s.hn s.H s.qn s.Q s.bn s.B s.cn (s.C.map K.row) s.cl s.val hs.h hs.q hs.b (by simpa using hs.c)
theorem ev_ckWq (nm:D) (k sz ot:Int) (s:S) (h:s.fine) :
  ev P (.call z_68 [.d (.ag [nm,I' k,I' sz,I' ot]),.d (.ag s.row)] [])=some (.val (.d (I' (ck (nwA 2 k sz ot) (okWq s)))) []):=by
 have hs:=h.sm
 exact R.ev_mCheck nm k sz ot s.own s.cnt s.time s.hn s.H s.qn s.Q s.bn s.B s.cn (s.C.map K.row) s.cl s.val h.wf.1 h.qn (by have:=h.h;omega) hs.q
def kinds (k:Int) (t f g:Nat):Prop :=
 (k=1∧t=101∧f=z_62∧g=z_63)∨(k=2∧t=102∧f=z_67∧g=z_68)∨(k=4∧t=103∧f=z_72∧g=z_73) ∨
 (k=5∧t=104∧f=z_77∧g=z_78)∨(k=6∧t=105∧f=z_82∧g=z_83)∨(k=7∧t=106∧f=z_87∧g=z_88) ∨
 (k=8∧t=107∧f=z_92∧g=z_93)∨(k=9∧t=108∧f=z_97∧g=z_98)
theorem of_kind {k:Int} (hk:k=1∨k=2∨k=4∨k=5∨k=6∨k=7∨k=8∨k=9):∃t f g,kinds k t f g∧ev P (.call z_37 [.d (I' k)] [])=some (.val (.tu [.d (.ifc t (.ag [.fn f [] [],.fn g [] []])),.d (.b true)]) []):=by
 unfold kinds
 rcases hk with h | h | h | h | h | h | h | h<;>subst h
 ·exact ⟨101,z_62,z_63,by simp,ev_of1⟩
 ·exact ⟨102,z_67,z_68,by simp,ev_of2⟩
 ·exact ⟨103,z_72,z_73,by simp,ev_of4⟩
 ·exact ⟨104,z_77,z_78,by simp,ev_of5⟩
 ·exact ⟨105,z_82,z_83,by simp,ev_of6⟩
 ·exact ⟨106,z_87,z_88,by simp,ev_of7⟩
 ·exact ⟨107,z_92,z_93,by simp,ev_of8⟩
 ·exact ⟨108,z_97,z_98,by simp,ev_of9⟩
theorem kinds_t {k:Int} {t f g:Nat} (h:kinds k t f g):t=101∨t=102∨t=103∨t=104∨t=105∨t=106∨t=107∨t=108:=by
 unfold kinds at h
 omega
theorem ev_ckK {k:Int} {t f g:Nat} (hk:kinds k t f g) (nm:D) (sz ot:Int) (s:S) (h:s.fine) :
  ev P (.call g [.d (.ag [nm,I' k,I' sz,I' ot]),.d (.ag s.row)] [])=some (.val (.d (I' (ckG k sz ot s))) []):=by
 have hs:=h.sm
 unfold kinds at hk
 rcases hk with ⟨rfl,rfl,rfl,rfl⟩ | ⟨rfl,rfl,rfl,rfl⟩ | ⟨rfl,rfl,rfl,rfl⟩ | ⟨rfl,rfl,rfl,rfl⟩ | ⟨rfl,rfl,rfl,rfl⟩ | ⟨rfl,rfl,rfl,rfl⟩ | ⟨rfl,rfl,rfl,rfl⟩ | ⟨rfl,rfl,rfl,rfl⟩
 ·exact ev_ckMq nm 1 sz ot s h
 ·exact ev_ckWq nm 2 sz ot s h
 ·exact ev_ckSq nm 4 sz ot s hs
 ·exact ev_ckBq nm 5 sz ot s hs
 ·exact ev_ckCq nm 6 sz ot s hs
 ·exact ev_mCheck nm 7 sz ot s hs
 ·exact ev_ckLq nm 8 sz ot s hs
 ·exact ev_ckFq nm 9 sz ot s hs
def S.ab (qn:Bool) (s:S):S:={ s with qn:=qn,Q:=[] }
theorem ckG_unknown {k sz ot:Int} {s:S} (hk:¬(k=1∨k=2∨k=4∨k=5∨k=6∨k=7∨k=8∨k=9)):ckG k sz ot s=8:=by
 unfold ckG
 simp only [not_or] at hk
 simp [hk]
theorem ev_Abstract (nm:D) (k sz ot:Int) (s:S) (h:s.fine) :
  ev P (.call z_25 [.d (.ag [nm,I' k,I' sz,I' ot]),.d (.ag s.row)] [])=some (.val (.tu [.d (.ag (if ckG k sz ot s=0 then (s.ab true).row else zrow)),.d (I' (ckG k sz ot s))]) []):=by
 rw [ev_call P_z_25 rfl]
 by_cases hk:k=1∨k=2∨k=4∨k=5∨k=6∨k=7∨k=8∨k=9
 ·obtain ⟨t,f,g,hkk,hof⟩:=of_kind hk
  have hC:=ev_lcheck f g nm k sz ot _ s (ev_ckK hkk nm sz ot s h)
  have ht:=kinds_t hkk
  generalize ckG k sz ot s=e at *
  simp only [S.row] at hC
  by_cases he:e=0
  ·subst he
   simp only [if_true,S.ab,S.row]
   rcases ht with h | h | h | h | h | h | h | h<;>subst h<;>simp [F_z_25,hof,invV,hC,overlay]
  ·rw [if_neg he]
   have he':(e != 0)=true:=by simpa using he
   rcases ht with h | h | h | h | h | h | h | h<;>subst h<;>simp [F_z_25,hof,invV,hC,he',zrow]
 ·have hU:=ev_ofU hk
  rw [ckG_unknown hk,if_neg (by decide)]
  simp [F_z_25,hU,zrow]
end Go.VS.Sp
namespace Go.VS.Sp
theorem S.fine.sz {s:S} (h:s.fine) (b:Bool):(s.ab b).sz:=by
 refine ⟨?_,?_,?_,?_,?_⟩
 ·show s.H.length≤10000;have:=h.h;omega
 ·show s.B.length≤10000;have:=h.b;omega
 ·show ([]:List W).length≤10000;simp
 ·show s.C.length≤1000;have:=h.c;omega
 ·intro c hc;have:=h.l c hc;omega
end Go.VS.Sp
namespace Go.VS.Sp
end Go.VS.Sp
namespace Go.VS.Sp
end Go.VS.Sp
namespace Go.VS.Sp
def prow (s:S) (cnt:Int) (q:D) (any:Bool):List D:=[I' s.own,I' cnt,I' s.time,hD s.hn s.H,q,hD s.bn s.B,cD s.cn s.C,.b s.cl,I' s.val,.b any]
def Rd (x:Option Res) (e:Int) (pk:Bool):Prop:=∃a1 a2 a3 a4 a5 a6 a7 a8 a9 b1 b2 b3:D,x=some (.val (.tu [.d (.ag [a1,a2,a3,a4,a5,a6,a7,a8,a9,.b pk,b1,b2,b3]),.d (I' e)]) [])
theorem Rd.mk' {x:Option Res} {e:Int} {pk:Bool} {a1 a2 a3 a4 a5 a6 a7 a8 a9 b1 b2 b3:D} (h:x=some (.val (.tu [.d (.ag [a1,a2,a3,a4,a5,a6,a7,a8,a9,.b pk,b1,b2,b3]),.d (I' e)]) [])):Rd x e pk:=⟨_,_,_,_,_,_,_,_,_,_,_,_,h⟩
end Go.VS.Sp
namespace Go.VS.Sp
abbrev zRp:List D:=[I' 0,I' 0,I' 0,.sl 1 true [],.sl 5 true [],.sl 1 true [],.sl 2 true [],.b false,I' 0,.b false,I' 0,.b false,.sl 5 true []]
end Go.VS.Sp
namespace Go.VS.Sp
end Go.VS.Sp
namespace Go.VS.Sp
end Go.VS.Sp
namespace Go.VS.Sp
end Go.VS.Sp
namespace Go.VS.Sp
end Go.VS.Sp
namespace Go.VS.Sp
def Cl.rf (c:Cl):Cl:=if c.op=75 then { c with value:=1 } else c
def kind26 (k:Int) (f g a w r:Nat):Prop :=
 (k=1∧f=z_62∧g=z_63∧a=z_64∧w=z_65∧r=z_66)∨(k=2∧f=z_67∧g=z_68∧a=z_69∧w=z_70∧r=z_71) ∨
 (k=4∧f=z_72∧g=z_73∧a=z_74∧w=z_75∧r=z_76)∨(k=5∧f=z_77∧g=z_78∧a=z_79∧w=z_80∧r=z_81) ∨
 (k=6∧f=z_82∧g=z_83∧a=z_84∧w=z_85∧r=z_86)∨(k=7∧f=z_87∧g=z_88∧a=z_89∧w=z_90∧r=z_91) ∨
 (k=8∧f=z_92∧g=z_93∧a=z_94∧w=z_95∧r=z_96)∨(k=9∧f=z_97∧g=z_98∧a=z_99∧w=z_100∧r=z_101)
theorem ev_of26 {k:Int} {f g a w r:Nat} (h:kind26 k f g a w r):ev P (.call z_29 [.d (I' k)] [])=some (.val (.tu [.d (.ag [.fn f [] [],.fn g [] [],.fn a [] [],.fn w [] [],.fn r [] []]),.d (.b true)]) []):=by
 rw [ev_call P_z_29 rfl]
 unfold kind26 at h
 rcases h with ⟨rfl,rfl,rfl,rfl,rfl,rfl⟩ | ⟨rfl,rfl,rfl,rfl,rfl,rfl⟩ | ⟨rfl,rfl,rfl,rfl,rfl,rfl⟩ | ⟨rfl,rfl,rfl,rfl,rfl,rfl⟩ | ⟨rfl,rfl,rfl,rfl,rfl,rfl⟩ | ⟨rfl,rfl,rfl,rfl,rfl,rfl⟩ | ⟨rfl,rfl,rfl,rfl,rfl,rfl⟩ | ⟨rfl,rfl,rfl,rfl,rfl,rfl⟩<;>simp [F_z_29,endH]
theorem ev_of26U {k:Int} (h:¬(k=1∨k=2∨k=4∨k=5∨k=6∨k=7∨k=8∨k=9)):ev P (.call z_29 [.d (I' k)] [])=some (.val (.tu [.d (.ag [.nilfn,.nilfn,.nilfn,.nilfn,.nilfn]),.d (.b false)]) []):=by
 rw [ev_call P_z_29 rfl]
 simp only [not_or] at h
 obtain ⟨h1,h2,h3,h4,h5,h6,h7,h8⟩:=h
 have h1:(k==1)=false:=by simpa using h1
 have h2:(k==2)=false:=by simpa using h2
 have h3:(k==4)=false:=by simpa using h3
 have h4:(k==5)=false:=by simpa using h4
 have h5:(k==6)=false:=by simpa using h5
 have h6:(k==7)=false:=by simpa using h6
 have h7:(k==8)=false:=by simpa using h7
 have h8:(k==9)=false:=by simpa using h8
 simp [F_z_29,h1,h2,h3,h4,h5,h6,h7,h8,endH]
end Go.VS.Sp
namespace Go.VS.Sp
end Go.VS.Sp
namespace Go.VS.M
open Go.VS.Sp
def ps:List (List D):=[[I' 0],[I' 0],[I' 5],[I' 5]]
end Go.VS.M
namespace Go.VS.Sp
end Go.VS.Sp
namespace Go.VS.Sp
theorem ev_RemoveC1 (t a b c d e:Int):ev P (.call z_212 [.d (.ag [I' a,I' b,I' c,I' d,I' e]),.d (.ref [I' t])] [])=some (.val (.d (.b (a != t))) []):=by
 rw [ev_call P_z_212 rfl]
 simp [F_z_212]
theorem loop_filter {f:Nat} {first caps:List D} {p:W→Bool} (nl:Bool) (l:List W) (hn:l.length≤1000000)
  (hp:∀a b c d e,ev P (.call f (first.map V.d++[.d (.ag [I' a,I' b,I' c,I' d,I' e])]++caps.map V.d) [])=some (.val (.d (.b (p ⟨a,b,c,d,e⟩))) []))
  (R:Option Res) (hR:R=some (.out (.exit 0) [(5,accV 5 (.d (.sl 5 true [])) ((l.filter p).map W.row))] (accH 5 ((l.filter p).map W.row)))) :
  ∀(suf pre:List W),l=pre++suf →
  ev P (.loop 0 [1,5,8,9,10] F_z_211_L0 [(1,.d (.fn f first caps)),(5,accV 5 (.d (.sl 5 true [])) ((pre.filter p).map W.row)),(8,.d (.sl 5 nl (l.map W.row))),(9,.d (I' l.length)),(10,.d (I' pre.length))] (accH 5 ((pre.filter p).map W.row)))=R:=by
 intro suf
 induction suf with
 | nil =>
  intro pre hl
  have hlp:l=pre:=by simp [hl]
  subst hlp
  rw [ev_loop,hR]
  conv=>lhs;arg 4;unfold F_z_211_L0
  cases hf:l.filter p with
  | nil=>simp [accV,accH]
  | cons a r=>simp [accV,accH,reachC,cut,W.row]
 | cons w suf ih =>
  intro pre hl
  clear hR
  have hg:l[pre.length]?=some w:=by simp [hl]
  have hlt:(pre.length:Int)<l.length:=by simp [hl];omega
  have hnext:IntKind.i64.wrap ((pre.length:Int)+1)=pre.length+1:=wrap_i64 (by omega) (by omega)
  have ih':=ih (pre++[w]) (by simp [hl])
  simp at ih' hp
  rw [ev_loop]
  conv=>lhs;arg 4;unfold F_z_211_L0
  cases hf:pre.filter p with
  | nil =>
   simp [hlt,hg,W.row,hp,allD_mid,accV,accH]
   cases hw:p w
   ·simp [hw,hnext,hf,accV,accH,reachC] at ih' ⊢
    exact ih'
   ·have hr:1≤room:=by decide
    simp [hw,hnext,hf,hr,accV,accH,reachC,W.row] at ih' ⊢
    exact ih'
  | cons a r =>
   have hrl:r.length<1000000:=by
    have h1:(pre.filter p).length≤pre.length:=List.length_filter_le _ _
    have h2:pre.length≤l.length:=by simp [hl]
    rw [hf] at h1;simp at h1;omega
   have hr:r.length+1+1≤room:=by unfold room;omega
   simp [hlt,hg,W.row,hp,allD_mid,accV,accH]
   cases hw:p w
   ·simp [hw,hnext,hf,accV,accH,reachC,W.row] at ih' ⊢
    exact ih'
   ·simp [hw,hnext,hf,hr,accV,accH,reachC,W.row,overlay,take_map_len,drop_map_len,Nat.not_succ_le_self] at ih' ⊢
    exact ih'
end Go.VS.Sp
namespace Go.VS.Sp
structure Z where
 o:D
 c:D
 t:D
 h:D
 b:D
 l:D
 v:D
structure tWk where
 task:Int
 op:Int
 value:Int
 deriving DecidableEq
def tWk.row (w:tWk):List D:=[I' w.task,I' w.op,I' w.value,.b true,I' (-1)]
inductive Wo where
 | nil
 | a0 (l:List tWk)
 | a1 (l:List tWk)
def lkV (z:Z) (sz:Int) (q c w:V):O:=.arrV 11 [[.d (I' sz),.d z.o,.d z.c,.d z.t,.d z.h,q,.d z.b,c,.d z.l,.d z.v,w]]
def lkD (z:Z) (sz:Int) (q c w:D):O:=.arrD 11 true [[I' sz,z.o,z.c,z.t,z.h,q,z.b,c,z.l,z.v,w]]
def hB (z:Z) (sz:Int) (q:D) (C:List K):Option (List (List D))→Wo→List O
 | none,.nil=>[lkD z sz q (.sl 2 true []) (.sl 5 true [])]
 | none,.a0 l=>[lkV z sz (.d q) (.d (.sl 2 true [])) (.asl 1 0 l.length),.arrD 5 true (l.map tWk.row)]
 | none,.a1 l=>[lkV z sz (.d q) (.d (.sl 2 true [])) (.asl 2 0 l.length),.dead,.arrD 5 true (l.map tWk.row)]
 | some T,.nil=>[lkV z sz (.d q) (.asl 1 0 C.length) (.d (.sl 5 true [])),.arrD 2 true (C.map K.row++T)]
 | some T,.a0 l=>[lkV z sz (.d q) (.asl 1 0 C.length) (.asl 2 0 l.length),.arrD 2 true (C.map K.row++T),.arrD 5 true (l.map tWk.row)]
 | some T,.a1 l=>[lkV z sz (.d q) (.asl 1 0 C.length) (.asl 3 0 l.length),.arrD 2 true (C.map K.row++T),.dead,.arrD 5 true (l.map tWk.row)]
theorem trg2:List.range 2=[0,1]:=rfl
theorem trg3:List.range 3=[0,1,2]:=rfl
theorem trg4:List.range 4=[0,1,2,3]:=rfl
theorem rg5:List.range 5=[0,1,2,3,4]:=rfl
theorem ev_wake0 (z:Z) (sz:Int) (q:D) (C:List K) (cs) (t op v p k x:Int) :
  ev P (.call z_240 [.loc 0 0 0,.d (.ag [I' t,I' op,I' v,I' p,I' k]),.d (I' x)] (hB z sz q C cs .nil))=some (.val (.tu []) (hB z sz q C cs (.a0 [⟨t,op,x⟩]))):=by
 have hr:1≤room:=by unfold room;omega
 rw [ev_call P_z_240 rfl]
 rcases cs with _ | T<;>simp [F_z_240,hB,lkD,lkV,tWk.row,reachC,cut,trg2,trg3,trg4,List.idxOf_cons,endH,hr,V.same_self]
theorem ev_wake1 (z:Z) (sz:Int) (q:D) (C:List K) (cs) (l:List tWk) (t op v p k x:Int) (hl:l.length≤1000000) :
  ev P (.call z_240 [.loc 0 0 0,.d (.ag [I' t,I' op,I' v,I' p,I' k]),.d (I' x)] (hB z sz q C cs (.a0 l)))=some (.val (.tu []) (hB z sz q C cs (.a1 (l++[⟨t,op,x⟩])))):=by
 have hr:l.length+1≤room:=by unfold room;omega
 rw [ev_call P_z_240 rfl]
 rcases cs with _ | T<;>simp [F_z_240,hB,lkD,lkV,tWk.row,reachC,cut,trg2,trg3,trg4,rg5,List.idxOf_cons,endH,hr,V.same_self,take_map_len,Nat.not_succ_le_self]
end Go.VS.Sp
namespace Go.VS.Sp
theorem ev_Clone (nl:Bool) (q:List W) (hnl:nl=true→q=[]) (hn:q.length≤1000000) :
  ev P (.call z_153 [.d (qD nl q)] [])=if nl=true then some (.val (.d (.sl 5 true [])) []) else some (.val (.asl 0 0 q.length) [.arrD 5 true (q.map W.row)]):=by
 rw [ev_call P_z_153 rfl]
 cases nl
 ·have hr:q.length≤room:=by unfold room;omega
  cases q with
  | nil=>simp [F_z_153,mkRows,allDs,reachC,cut,endH]
  | cons a r =>
   simp at hr
   simp [F_z_153,mkRows,allDs,reachC,cut,hr,endH]
 ·simp [F_z_153,endH]
theorem tev_CloneK (nl:Bool) (q:List K) (hnl:nl=true→q=[]) (hn:q.length≤1000000) :
  ev P (.call z_236 [.d (cD nl q)] [])=if nl=true then some (.val (.d (.sl 2 true [])) []) else some (.val (.asl 0 0 q.length) [.arrD 2 true (q.map K.row)]):=by
 rw [ev_call P_z_236 rfl]
 cases nl
 ·have hr:q.length≤room:=by unfold room;omega
  cases q with
  | nil=>simp [F_z_236,mkRows,allDs,reachC,cut,endH]
  | cons a r =>
   simp at hr
   simp [F_z_236,mkRows,allDs,reachC,cut,hr,endH]
 ·simp [F_z_236,endH]
def tgB (z:Z) (sz:Int) (qn:Bool) (Q:List W) (cn:Bool) (C:List K):List O :=
 match qn,cn with
 | true,true=>[lkD z sz (.sl 5 true []) (.sl 2 true []) (.sl 5 true [])]
 | true,false=>[lkV z sz (.d (.sl 5 true [])) (.asl 1 0 C.length) (.d (.sl 5 true [])),.arrD 2 true (C.map K.row)]
 | false,true=>[lkV z sz (.asl 1 0 Q.length) (.d (.sl 2 true [])) (.d (.sl 5 true [])),.arrD 5 true (Q.map W.row)]
 | false,false=>[lkV z sz (.asl 1 0 Q.length) (.asl 2 0 C.length) (.d (.sl 5 true [])),.arrD 5 true (Q.map W.row),.arrD 2 true (C.map K.row)]
theorem ev_begin (z:Z) (x0 x1 x3:D) (sz:Int) (qn:Bool) (Q:List W) (cn:Bool) (C:List K) (h1:qn=true→Q=[]) (h2:cn=true→C=[]) (h3:Q.length≤1000000) (h4:C.length≤1000000) :
  ev P (.call z_165 [.d (.ag [x0,x1,I' sz,x3]),.d (.ag [z.o,z.c,z.t,z.h,qD qn Q,z.b,cD cn C,z.l,z.v])] [])=some (.val (.loc 0 0 0) (tgB z sz qn Q cn C)):=by
 have hC:=tev_CloneK cn C h2 h4
 have hD':=ev_Clone qn Q h1 h3
 rw [ev_call P_z_165 rfl]
 cases qn<;>cases cn<;>simp at hC hD' <;>
  simp [F_z_165,hC,hD',callD,mkRows,allDs,V.same_self,tgB,lkD,lkV,reachC,cut,trg2,trg3,trg4,rg5,List.idxOf_cons,endH,overlay]
end Go.VS.Sp
namespace Go.VS.Sp
theorem tev_CloneI (nl:Bool) (q:List Int) (hnl:nl=true→q=[]) (hn:q.length≤1000000) :
  ev P (.call z_214 [.d (hD nl q)] [])=if nl=true then some (.val (.d (.sl 1 true [])) []) else some (.val (.asl 0 0 q.length) [.arrD 1 true (rows1 q)]):=by
 rw [ev_call P_z_214 rfl]
 cases nl
 ·have hr:q.length≤room:=by unfold room;omega
  cases q with
  | nil=>simp [F_z_214,mkRows,allDs,reachC,cut,endH]
  | cons a r =>
   simp at hr
   simp [F_z_214,mkRows,allDs,reachC,cut,hr,endH]
 ·simp [F_z_214,endH]
theorem take_snoc {α β:Type} {f:α→β} {r:List α} {x:β}:List.take (r.length+1) (r.map f++[x])=r.map f++[x]:=List.take_of_length_le (by simp)
theorem set_mid {α:Type} {A B:List α} {x y:α} {n:Nat} (h:A.length=n):(A++x::B).set n y=A++y::B:=by
 subst h;simp
theorem get_mid {α:Type} {A B:List α} {x:α} {n:Nat} (h:A.length=n):(A++x::B)[n]?=some x:=by
 subst h;simp
inductive Hs where
 | b0
 | b1 (l:List tWk)
 | c (Q:List W)
def hX (z:Z) (sz:Int) (q:D) (n:Nat) (R:List (List D)):Hs→List O
 | .b0=>[lkV z sz (.d q) (.asl 1 0 n) (.d (.sl 5 true [])),.arrD 2 true R]
 | .b1 l=>[lkV z sz (.d q) (.asl 1 0 n) (.asl 2 0 l.length),.arrD 2 true R,.arrD 5 true (l.map tWk.row)]
 | .c Q=>[lkV z sz (.d q) (.asl 2 0 n) (.d (.sl 5 true [])),.arrD 5 false (Q.map W.row),.arrD 2 true R]
def Hs.m:Hs→Nat
 | .b0=>2
 | .b1 _=>3
 | .c _=>3
def pubK (Q:List W) (v:Int) (c:K):K:=if wts Q c.task 70=true then c else ⟨c.task,false,c.log++[v]⟩
theorem loop_pub0 (z:Z) (sz:Int) (qn:Bool) (Q:List W) (v:Int) (n:Nat) (T:List (List D)) (sh:Hs) (hq:Q.length≤1000000) (hn:n≤1000000):∀(suf:List K) (A:List (List D)),A.length+suf.length=n →
  (∀c∈suf,(c.nl=true→c.log=[])∧c.log.length≤100000) →
  ev P (.loop sh.m [0,1,14,15] F_z_176_L0 [(0,.loc 0 0 0),(1,.d (I' v)),(14,.d (I' n)),(15,.d (I' A.length))] (hX z sz (qD qn Q) n (A++(suf.map K.row++T)) sh)) =
   some (.out (.exit 0) [(0,.loc 0 0 0),(1,.d (I' v))] (hX z sz (qD qn Q) n (A++((suf.map (pubK Q v)).map K.row++T)) sh)):=by
 intro suf
 induction suf with
 | nil =>
  intro A hl _
  have:n=A.length:=by simp at hl;exact hl.symm
  rw [ev_loop]
  conv=>lhs;arg 4;unfold F_z_176_L0
  cases sh<;>simp [this,hX,Hs.m,lkV,reachC,cut,trg2,trg3,List.idxOf_cons]
 | cons c suf ih =>
  intro A hl hc
  have hlt:(A.length:Int)<n:=by simp at hl;omega
  have hlt2:A.length<n:=by simp at hl;omega
  have hnext:IntKind.i64.wrap ((A.length:Int)+1)=A.length+1:=wrap_i64 (by omega) (by omega)
  have hC:=tev_CloneI c.nl c.log (hc c (by simp)).1 (by have:=(hc c (by simp)).2;omega)
  have hr:c.log.length+1≤room:=by have:=(hc c (by simp)).2;unfold room;omega
  have hrow:c.row=[I' c.task,hD c.nl c.log]:=rfl
  have hw:∀d0 d1 d2 d3 d5 d6 d7 d8:D,ev P (.call z_243 [.d (.ag [d0,d1,d2,d3,qD qn Q,d5,d6,d7,d8]),.d (I' c.task),.d (I' 70)] [])=some (.val (.d (.b (wts Q c.task 70))) []):=fun d0 d1 d2 d3 d5 d6 d7 d8=>ev_waiting d0 d1 d2 d3 d5 d6 d7 d8 qn Q c.task 70 hq
  have e0:A++((c::suf).map K.row++T)=A++c.row::(suf.map K.row++T):=by simp
  have e1:A++(((c::suf).map (pubK Q v)).map K.row++T)=A++[(pubK Q v c).row]++((suf.map (pubK Q v)).map K.row++T):=by simp
  have ih':=ih (A++[(pubK Q v c).row]) (by simp at hl ⊢;omega) (fun x hx=>hc x (by simp [hx]))
  rw [e0,e1,←ih']
  have e2:A++[(pubK Q v c).row]++(suf.map K.row++T)=A++(pubK Q v c).row::(suf.map K.row++T):=by simp
  rw [e2]
  have hB:n≤A.length+((suf.map K.row++T).length+1):=by simp at hl ⊢;omega
  generalize suf.map K.row++T=B at *
  have hgm:=get_mid (A:=A) (B:=B) (x:=c.row) (n:=A.length) rfl
  have hsm:=fun y=>set_mid (A:=A) (B:=B) (x:=c.row) (y:=y) (n:=A.length) rfl
  simp only [List.length_append,List.length_singleton]
  generalize hR:ev P (.loop sh.m [0,1,14,15] F_z_176_L0 [(0,.loc 0 0 0),(1,.d (I' v)),(14,.d (I' n)),(15,.d (I' (A.length+1:Nat)))] (hX z sz (qD qn Q) n (A++(pubK Q v c).row::B) sh))=R
  rw [ev_loop]
  conv=>lhs;arg 4;unfold F_z_176_L0
  cases hwt:wts Q c.task 70
  ·have hp:pubK Q v c=⟨c.task,false,c.log++[v]⟩:=by simp [pubK,hwt]
   rw [hp] at hR
   have hrow2:K.row ⟨c.task,false,c.log++[v]⟩=[I' c.task,.sl 1 false (rows1 (c.log++[v]))]:=rfl
   rw [hrow2] at hR
   have hw':=hw
   rw [hwt] at hw'
   cases hnl:c.nl
   ·rw [hnl] at hC hrow
    rw [hrow] at hgm hsm
    simp at hR hC
    cases sh
    all_goals
     simp [hX,Hs.m,lkV] at hR
     simp [hlt,hlt2,hgm,hrow,hw',hX,Hs.m,lkV,reachC,cut,trg2,trg3,List.idxOf_cons,hnext,hB,hC,callD,hr,hsm,take_map_len,take_snoc,thaw,freezeAll,freeze1,Nat.not_succ_le_self,hR]
   ·rw [hnl] at hC hrow
    have hlg:=(hc c (by simp)).1 hnl
    rw [hlg] at hrow hC hR
    rw [hrow] at hgm hsm
    simp at hR hC
    have h1:1≤room:=by unfold room;omega
    cases sh
    all_goals
     simp [hX,Hs.m,lkV] at hR
     simp [hlt,hlt2,hgm,hrow,hw',hX,Hs.m,lkV,reachC,cut,trg2,trg3,List.idxOf_cons,hnext,hB,hC,callD,h1,hsm,take_map_len,take_snoc,thaw,freezeAll,freeze1,Nat.not_succ_le_self,hR]
  ·have hp:pubK Q v c=c:=by simp [pubK,hwt]
   rw [hp] at hR
   have hw':=hw
   rw [hwt] at hw'
   rw [hrow] at hgm hR
   simp at hR
   cases sh
   all_goals
    simp [hX,Hs.m,lkV] at hR
    simp [hlt,hlt2,hgm,hrow,hw',hX,Hs.m,lkV,reachC,cut,trg2,trg3,List.idxOf_cons,hnext,hB,hR]
end Go.VS.Sp
namespace Go.VS.Sp
inductive Hk where
 | w0
 | w1 (l:List tWk)
 | wc (Q:List W)
def bH (z:Z) (sz:Int) (q:D) (C:List K) (i:Nat):Option (List (List D))→Hk→List tWk→List O
 | none,.w0,[]=>[lkD z sz q (.sl 2 true []) (.sl 5 true [])]
 | none,.w0,a::l=>[lkV z sz (.d q) (.d (.sl 2 true [])) (.asl (1+i) 0 (a::l).length)]
 | none,.w1 l,[]=>[lkV z sz (.d q) (.d (.sl 2 true [])) (.asl 1 0 l.length),.arrD 5 true (l.map tWk.row)]
 | none,.w1 l,a::r=>[lkV z sz (.d q) (.d (.sl 2 true [])) (.asl (2+i) 0 (l++a::r).length),.dead]
 | none,.wc Q,[]=>[lkD z sz q (.sl 2 true []) (.sl 5 true []),.arrD 5 false (Q.map W.row)]
 | none,.wc Q,a::l=>[lkV z sz (.d q) (.d (.sl 2 true [])) (.asl (2+i) 0 (a::l).length),.arrD 5 false (Q.map W.row)]
 | some T,.w0,[]=>[lkV z sz (.d q) (.asl 1 0 C.length) (.d (.sl 5 true [])),.arrD 2 true (C.map K.row++T)]
 | some T,.w0,a::l=>[lkV z sz (.d q) (.asl 1 0 C.length) (.asl (2+i) 0 (a::l).length),.arrD 2 true (C.map K.row++T)]
 | some T,.w1 l,[]=>[lkV z sz (.d q) (.asl 1 0 C.length) (.asl 2 0 l.length),.arrD 2 true (C.map K.row++T),.arrD 5 true (l.map tWk.row)]
 | some T,.w1 l,a::r=>[lkV z sz (.d q) (.asl 1 0 C.length) (.asl (3+i) 0 (l++a::r).length),.arrD 2 true (C.map K.row++T),.dead]
 | some T,.wc Q,[]=>[lkV z sz (.d q) (.asl 2 0 C.length) (.d (.sl 5 true [])),.arrD 5 false (Q.map W.row),.arrD 2 true (C.map K.row++T)]
 | some T,.wc Q,a::l=>[lkV z sz (.d q) (.asl 2 0 C.length) (.asl (3+i) 0 (a::l).length),.arrD 5 false (Q.map W.row),.arrD 2 true (C.map K.row++T)]
def fH:Hk→List tWk→List O
 | _,[]=>[]
 | .w1 l,a::r=>[.arrD 5 true ((l++a::r).map tWk.row)]
 | _,a::r=>[.arrD 5 true ((a::r).map tWk.row)]
def oV:List W→Nat→V
 | [],_=>.d (.sl 5 true [])
 | a::l,i=>.asl i 0 (a::l).length
def oO:List W→List O
 | []=>[]
 | a::l=>[.arrD 5 true ((a::l).map W.row)]
def cH (z:Z) (sz:Int) (q:D) (C:List K) (cs:Option (List (List D))) (hk:Hk) (wn:List tWk) (ot:List W):List O:=bH z sz q C (oO ot).length cs hk wn++(oO ot++fH hk wn)
def mOf:Option (List (List D))→Hk→Nat
 | none,.w0=>1
 | none,_=>2
 | some _,.w0=>2
 | some _,_=>3
def wkOf (v:Int) (w:W):tWk:=⟨w.task,w.op,v⟩
def pW (v:Int) (Q:List W):List tWk:=(Q.filter fun w=>w.op==70).map (wkOf v)
def pO (Q:List W):List W:=Q.filter fun w=>!(w.op==70)
def Hk.len:Hk→Nat
 | .w1 l=>l.length
 | _=>0
set_option maxHeartbeats 4000000 in
theorem loop_pub1 (z:Z) (sz:Int) (qd:D) (C:List K) (cs:Option (List (List D))) (hk:Hk) (qn:Bool) (Q:List W) (v:Int) (hq:Q.length≤100000) (hh:hk.len≤100000):∀(suf pre:List W) (wn:List tWk) (ot:List W),Q=pre++suf→wn.length≤pre.length→ot.length≤pre.length →
  ev P (.loop (mOf cs hk) [0,1,6,51,52,53] F_z_176_L1 [(0,.loc 0 0 0),(1,.d (I' v)),(6,oV ot (mOf cs hk)),(51,.d (qD qn Q)),(52,.d (I' Q.length)),(53,.d (I' pre.length))] (cH z sz qd C cs hk wn ot)) =
   some (.out (.exit 2) [(0,.loc 0 0 0),(6,oV (ot++pO suf) (mOf cs hk))] (cH z sz qd C cs hk (wn++pW v suf) (ot++pO suf))):=by
 intro suf
 induction suf with
 | nil =>
  intro pre wn ot hl _ _
  have:Q.length=pre.length:=by simp [hl]
  rw [ev_loop]
  conv=>lhs;arg 4;unfold F_z_176_L1
  rcases cs with _ | T<;>rcases hk with _ | l | Q0<;>rcases wn with _ | ⟨a,wn⟩<;>rcases ot with _ | ⟨b,ot⟩ <;>
   simp [this,pW,pO,cH,bH,fH,oV,oO,mOf,lkV,lkD,reachC,cut,trg2,trg3,List.idxOf_cons]
 | cons w suf ih =>
  intro pre wn ot hl h1 h2
  have hg:Q[pre.length]?=some w:=by simp [hl]
  have hlt:(pre.length:Int)<Q.length:=by simp [hl];omega
  have hpl:pre.length<Q.length:=by simp [hl]
  have hnext:IntKind.i64.wrap ((pre.length:Int)+1)=pre.length+1:=wrap_i64 (by omega) (by omega)
  cases ho:w.op==70
  ·have e1:pW v (w::suf)=pW v suf:=by simp [pW,ho]
   have e2:ot++pO (w::suf)=ot++[w]++pO suf:=by simp [pO,ho]
   have ih':=ih (pre++[w]) wn (ot++[w]) (by simp [hl]) (by simp;omega) (by simp;omega)
   rw [e1,e2,←ih']
   generalize hR:ev P (.loop (mOf cs hk) [0,1,6,51,52,53] F_z_176_L1 [(0,.loc 0 0 0),(1,.d (I' v)),(6,oV (ot++[w]) (mOf cs hk)),(51,.d (qD qn Q)),(52,.d (I' Q.length)),(53,.d (I' (pre++[w]).length))] (cH z sz qd C cs hk wn (ot++[w])))=R
   rw [ev_loop]
   conv=>lhs;arg 4;unfold F_z_176_L1
   rcases ot with _ | ⟨b,ot⟩
   ·have hr:1≤room:=by unfold room;omega
    rcases cs with _ | T<;>rcases hk with _ | l | Q0<;>rcases wn with _ | ⟨a,wn⟩
    all_goals
     simp [cH,bH,fH,oV,oO,mOf,lkV,lkD,W.row] at hR
     simp [hlt,hg,W.row,ho,hnext,cH,bH,fH,oV,oO,mOf,lkV,lkD,reachC,cut,trg2,trg3,List.idxOf_cons,hr,hR]
   ·have hr:ot.length+1+1≤room:=by unfold room;simp at h2;omega
    rcases cs with _ | T<;>rcases hk with _ | l | Q0<;>rcases wn with _ | ⟨a,wn⟩
    all_goals
     simp [cH,bH,fH,oV,oO,mOf,lkV,lkD,W.row] at hR
     simp [hlt,hg,W.row,ho,hnext,cH,bH,fH,oV,oO,mOf,lkV,lkD,reachC,cut,trg2,trg3,List.idxOf_cons,hr,take_map_len,Nat.not_succ_le_self,hR]
  ·have e1:wn++pW v (w::suf)=wn++[⟨w.task,w.op,v⟩]++pW v suf:=by simp [pW,ho,wkOf]
   have e2:pO (w::suf)=pO suf:=by simp [pO,ho]
   have ih':=ih (pre++[w]) (wn++[⟨w.task,w.op,v⟩]) ot (by simp [hl]) (by simp;omega) (by simp;omega)
   rw [e1,e2,←ih']
   generalize hR:ev P (.loop (mOf cs hk) [0,1,6,51,52,53] F_z_176_L1 [(0,.loc 0 0 0),(1,.d (I' v)),(6,oV ot (mOf cs hk)),(51,.d (qD qn Q)),(52,.d (I' Q.length)),(53,.d (I' (pre++[w]).length))] (cH z sz qd C cs hk (wn++[⟨w.task,w.op,v⟩]) ot))=R
   rw [ev_loop]
   conv=>lhs;arg 4;unfold F_z_176_L1
   rcases wn with _ | ⟨a,wn⟩
   ·rcases hk with _ | l | Q0
    ·have hw:=ev_wake0 z sz qd C cs w.task w.op w.value w.prio w.case v
     rcases cs with _ | T<;>rcases ot with _ | ⟨b,ot⟩
     all_goals
      simp [hB,lkV,lkD,tWk.row] at hw
      simp [cH,bH,fH,oV,oO,mOf,lkV,lkD,tWk.row,W.row] at hR
      simp [hlt,hg,W.row,ho,hnext,cH,bH,fH,oV,oO,mOf,lkV,lkD,reachC,cut,trg2,trg3,List.idxOf_cons,hw,callR,sub,setAll,back,hR]
    ·have hw:=ev_wake1 z sz qd C cs l w.task w.op w.value w.prio w.case v (by simp [Hk.len] at hh;omega)
     rcases cs with _ | T<;>rcases ot with _ | ⟨b,ot⟩
     all_goals
      simp [hB,lkV,lkD,tWk.row] at hw
      simp [cH,bH,fH,oV,oO,mOf,lkV,lkD,tWk.row,W.row] at hR
      simp [hlt,hg,W.row,ho,hnext,cH,bH,fH,oV,oO,mOf,lkV,lkD,reachC,cut,trg2,trg3,List.idxOf_cons,hw,callR,sub,setAll,back,hR]
    ·have hw:=ev_wake0 z sz qd C cs w.task w.op w.value w.prio w.case v
     rcases cs with _ | T<;>rcases ot with _ | ⟨b,ot⟩
     all_goals
      simp [hB,lkV,lkD,tWk.row] at hw
      simp [cH,bH,fH,oV,oO,mOf,lkV,lkD,tWk.row,W.row] at hR
      simp [hlt,hg,W.row,ho,hnext,cH,bH,fH,oV,oO,mOf,lkV,lkD,reachC,cut,trg2,trg3,List.idxOf_cons,hw,callR,sub,setAll,back,hR]
   ·rcases hk with _ | l | Q0
    ·have hw:=ev_wake1 z sz qd C cs (a::wn) w.task w.op w.value w.prio w.case v (by simp at h1 ⊢;omega)
     rcases cs with _ | T<;>rcases ot with _ | ⟨b,ot⟩
     all_goals
      simp [hB,lkV,lkD,tWk.row] at hw
      simp [cH,bH,fH,oV,oO,mOf,lkV,lkD,tWk.row,W.row] at hR
      simp [hlt,hg,W.row,ho,hnext,cH,bH,fH,oV,oO,mOf,lkV,lkD,tWk.row,reachC,cut,trg2,trg3,List.idxOf_cons,hw,callR,sub,setAll,back,hR]
    ·have hw:=ev_wake1 z sz qd C cs (l++a::wn) w.task w.op w.value w.prio w.case v (by simp [Hk.len] at h1 hh ⊢;omega)
     rcases cs with _ | T<;>rcases ot with _ | ⟨b,ot⟩
     all_goals
      simp [hB,lkV,lkD,tWk.row] at hw
      simp [cH,bH,fH,oV,oO,mOf,lkV,lkD,tWk.row,W.row] at hR
      simp [hlt,hg,W.row,ho,hnext,cH,bH,fH,oV,oO,mOf,lkV,lkD,tWk.row,reachC,cut,trg2,trg3,List.idxOf_cons,hw,callR,sub,setAll,back,hR]
    ·have hw:=ev_wake1 z sz qd C cs (a::wn) w.task w.op w.value w.prio w.case v (by simp at h1 ⊢;omega)
     rcases cs with _ | T<;>rcases ot with _ | ⟨b,ot⟩
     all_goals
      simp [hB,lkV,lkD,tWk.row] at hw
      simp [cH,bH,fH,oV,oO,mOf,lkV,lkD,tWk.row,W.row] at hR
      simp [hlt,hg,W.row,ho,hnext,cH,bH,fH,oV,oO,mOf,lkV,lkD,tWk.row,reachC,cut,trg2,trg3,List.idxOf_cons,hw,callR,sub,setAll,back,hR]
end Go.VS.Sp
namespace Go.VS.Sp
def pH (z:Z) (sz:Int) (qn:Bool) (Q:List W) (C:List K):Option (List (List D))→Hk→List O
 | cs,.w0=>hB z sz (qD qn Q) C cs .nil
 | cs,.w1 l=>hB z sz (qD qn Q) C cs (.a0 l)
 | none,.wc _=>[lkV z sz (.asl 1 0 Q.length) (.d (.sl 2 true [])) (.d (.sl 5 true [])),.arrD 5 true (Q.map W.row)]
 | some T,.wc _=>[lkV z sz (.asl 1 0 Q.length) (.asl 2 0 C.length) (.d (.sl 5 true [])),.arrD 5 true (Q.map W.row),.arrD 2 true (C.map K.row++T)]
def Kok (C:List K):Prop:=∀c∈C,(c.nl=true→c.log=[])∧c.log.length≤100000
def qO (Q:List W):D:=qD (decide (Q=[])) Q
def pR (z:Z) (sz:Int) (q:D) (C:List K) (cs:Option (List (List D))) (hk:Hk) (wn:List tWk):List O:=bH z sz q C 0 cs hk wn++fH hk wn
theorem pubL (z:Z) (sz:Int) (qn:Bool) (Q:List W) (v:Int) (C:List K) (cs:Option (List (List D))) (hk:Hk) (hq:Q.length≤100000) (hh:hk.len≤100000) :
  ev P (.loop (mOf cs hk) [0,1,6,51,52,53] F_z_176_L1 [(0,.loc 0 0 0),(1,.d (I' v)),(6,.d (.sl 5 true [])),(51,.d (qD qn Q)),(52,.d (I' Q.length)),(53,.d (I' 0))] (bH z sz (qD qn Q) C 0 cs hk [])) =
   some (.out (.exit 2) [(0,.loc 0 0 0),(6,oV (pO Q) (mOf cs hk))] (cH z sz (qD qn Q) C cs hk (pW v Q) (pO Q))):=by
 have h:=loop_pub1 z sz (qD qn Q) C cs hk qn Q v hq hh Q [] [] [] rfl (by simp) (by simp)
 have e1:cH z sz (qD qn Q) C cs hk [] []=bH z sz (qD qn Q) C 0 cs hk []:=by
  cases cs<;>cases hk<;>simp [cH,oO,bH,fH]
 rw [e1] at h
 have e2:(([]:List W).length:Int)=0:=rfl
 rw [e2,List.nil_append,List.nil_append] at h
 exact h
set_option maxHeartbeats 4000000 in
theorem ev_publish (z:Z) (sz:Int) (qn:Bool) (Q:List W) (v:Int) (C:List K) (cs:Option (List (List D))) (hk:Hk) (hC0:cs=none→C=[]) (hq:Q.length≤100000) (hc:C.length≤100000) (hC:Kok C) (hh:hk.len≤100000) (hk0:∀Q0,hk = .wc Q0→Q0=Q∧qn=false) :
  ev P (.call z_176 [.loc 0 0 0,.d (I' v)] (pH z sz qn Q C cs hk))=some (.val (.tu []) (pR z sz (qO (pO Q)) (C.map (pubK Q v)) cs hk (pW v Q))):=by
 have hL:=pubL z sz qn Q v (C.map (pubK Q v)) cs hk hq hh
 generalize hwn:pW v Q=wn at *
 generalize hot:pO Q=ot at *
 rw [ev_call P_z_176 rfl]
 rcases cs with _ | T
 ·obtain rfl:=hC0 rfl
  rcases hk with _ | l | Q0
  ·rcases wn with _ | ⟨a,wn⟩<;>rcases ot with _ | ⟨b,ot⟩
   all_goals
    simp [cH,bH,fH,oV,oO,mOf,lkV,lkD] at hL
    simp [F_z_176,F_z_176_L0,ev_loop,freezeAll,freeze1,thaw,pH,pR,qO,hB,cH,bH,fH,oV,oO,mOf,lkV,lkD,reachC,cut,trg2,trg3,List.idxOf_cons,take_map_len,hL,endH,W.row]
  ·rcases wn with _ | ⟨a,wn⟩<;>rcases ot with _ | ⟨b,ot⟩
   all_goals
    simp [cH,bH,fH,oV,oO,mOf,lkV,lkD] at hL
    simp [F_z_176,F_z_176_L0,ev_loop,freezeAll,freeze1,thaw,pH,pR,qO,hB,cH,bH,fH,oV,oO,mOf,lkV,lkD,reachC,cut,trg2,trg3,List.idxOf_cons,take_map_len,hL,endH,W.row]
  ·obtain ⟨rfl,rfl⟩:=hk0 Q0 rfl
   rcases wn with _ | ⟨a,wn⟩<;>rcases ot with _ | ⟨b,ot⟩
   all_goals
    simp [cH,bH,fH,oV,oO,mOf,lkV,lkD] at hL
    simp [F_z_176,F_z_176_L0,ev_loop,freezeAll,freeze1,thaw,pH,pR,qO,hB,cH,bH,fH,oV,oO,mOf,lkV,lkD,reachC,cut,trg2,trg3,List.idxOf_cons,take_map_len,hL,endH,W.row]
 ·rcases hk with _ | l | Q0
  ·have hM:=loop_pub0 z sz qn Q v C.length T .b0 (by omega) (by omega) C [] (by simp) hC
   rcases wn with _ | ⟨a,wn⟩<;>rcases ot with _ | ⟨b,ot⟩
   all_goals
    simp [cH,bH,fH,oV,oO,mOf,lkV,lkD,-List.map_map] at hL
    simp [hX,Hs.m,lkV,-List.map_map] at hM
    simp [F_z_176,freezeAll,freeze1,thaw,pH,pR,qO,hB,cH,bH,fH,oV,oO,mOf,lkV,lkD,reachC,cut,trg2,trg3,List.idxOf_cons,take_map_len,hM,hL,endH,W.row,-List.map_map]
  ·have hM:=loop_pub0 z sz qn Q v C.length T (.b1 l) (by omega) (by omega) C [] (by simp) hC
   rcases wn with _ | ⟨a,wn⟩<;>rcases ot with _ | ⟨b,ot⟩
   all_goals
    simp [cH,bH,fH,oV,oO,mOf,lkV,lkD,-List.map_map] at hL
    simp [hX,Hs.m,lkV,-List.map_map] at hM
    simp [F_z_176,freezeAll,freeze1,thaw,pH,pR,qO,hB,cH,bH,fH,oV,oO,mOf,lkV,lkD,reachC,cut,trg2,trg3,List.idxOf_cons,take_map_len,hM,hL,endH,W.row,-List.map_map]
  ·obtain ⟨rfl,rfl⟩:=hk0 Q0 rfl
   have hM:=loop_pub0 z sz false Q0 v C.length T (.c Q0) (by omega) (by omega) C [] (by simp) hC
   rcases wn with _ | ⟨a,wn⟩<;>rcases ot with _ | ⟨b,ot⟩
   all_goals
    simp [cH,bH,fH,oV,oO,mOf,lkV,lkD,-List.map_map] at hL
    simp [hX,Hs.m,lkV,-List.map_map] at hM
    simp [F_z_176,freezeAll,freeze1,thaw,pH,pR,qO,hB,cH,bH,fH,oV,oO,mOf,lkV,lkD,reachC,cut,trg2,trg3,List.idxOf_cons,take_map_len,hM,hL,endH,W.row,-List.map_map]
end Go.VS.Sp
namespace Go.VS.Sp
def hk1:List tWk→Hk
 | []=>.w0
 | a::l=>.w1 (a::l)
set_option maxHeartbeats 4000000 in
theorem round_adv (z:Z) (sz:Int) (qn:Bool) (Q:List W) (C:List K) (cs:Option (List (List D))) (wn:List tWk) (w:W) (hC0:cs=none→C=[]) (hq:Q.length≤100000) (hc:C.length≤100000) (hC:Kok C) (hh:wn.length≤99999) :
  ev P (.round [5] F_z_171_A0 F_z_171_B0 [.d (.ag [I' w.task,I' w.op,I' w.value,I' w.prio,I' w.case])] [(1,.rf [.loc 0 0 0])] (pH z sz qn Q C cs (hk1 wn))) =
   some (.out .normal [] (pR z sz (qO (pO Q)) (C.map (pubK Q w.value)) cs (hk1 wn) (⟨w.task,w.op,0⟩::pW w.value Q))):=by
 have hP:=ev_publish z sz qn Q w.value C cs (.w1 (wn++[⟨w.task,w.op,0⟩])) hC0 hq hc hC (by simp [Hk.len];omega) (by intro Q0 h;cases h)
 generalize hwo:pW w.value Q=wo at *
 generalize hot:pO Q=ot at *
 generalize hC':C.map (pubK Q w.value)=C' at *
 have hl:C'.length=C.length:=by simp [←hC']
 rw [ev_round]
 rcases wn with _ | ⟨a,wn⟩
 ·have hw:=ev_wake0 z sz (qD qn Q) C cs w.task w.op w.value w.prio w.case 0
  rcases cs with _ | T<;>rcases wo with _ | ⟨b,wo⟩
  all_goals
   simp [hB,lkV,lkD,tWk.row] at hw
   simp [pH,hB,pR,bH,fH,lkV,lkD,tWk.row,qO,hl] at hP
   simp [F_z_171_A0,F_z_171_B0,hk1,pH,pR,qO,hB,cH,bH,fH,oV,oO,mOf,lkV,lkD,reachC,cut,trg2,trg3,trg4,List.idxOf_cons,take_map_len,callR,sub,setAll,back,hw,hP,tWk.row,hl]
 ·have hw:=ev_wake1 z sz (qD qn Q) C cs (a::wn) w.task w.op w.value w.prio w.case 0 (by simp at hh ⊢;omega)
  rcases cs with _ | T<;>rcases wo with _ | ⟨b,wo⟩
  all_goals
   simp [hB,lkV,lkD,tWk.row] at hw
   simp [pH,hB,pR,bH,fH,lkV,lkD,tWk.row,qO,hl] at hP
   simp [F_z_171_A0,F_z_171_B0,hk1,pH,pR,qO,hB,cH,bH,fH,oV,oO,mOf,lkV,lkD,reachC,cut,trg2,trg3,trg4,List.idxOf_cons,take_map_len,callR,sub,setAll,back,hw,hP,tWk.row,hl]
end Go.VS.Sp
namespace Go.VS.Sp
theorem ev_DeleteW (A B:List (List D)) (r:List D) (h:A.length+B.length≤100000) :
  ev P (.call z_277 [.asl 0 0 (A.length+(B.length+1)),.d (I' A.length),.d (I' (A.length+1))] [.arrD 5 true (A++r::B)]) =
   some (.val (.asl 0 0 (A.length+B.length)) [.arrD 5 true (A++(B++[[I' 0,I' 0,I' 0,I' 0,I' 0]]))]):=by
 have h1:(A.length:Int)≤A.length+1:=by omega
 have h2:(A.length:Int)+1≤A.length+(B.length+1):=by omega
 have h3:(0:Int)≤A.length+1:=by omega
 have h4:((A.length:Int)==A.length+1)=false:=by simp;omega
 have h7:(A.length:Int)≤A.length+(B.length+1):=by omega
 have h5:A.length+B.length≤A.length+(B.length+1):=by omega
 have h6:¬(A.length+(B.length+1)<A.length+B.length):=by omega
 rw [ev_call P_z_277 rfl]
 have h11:(A.length:Int)<A.length+1:=by omega
 rcases B with _ | ⟨b,B⟩
 ·have h9:¬((A.length:Int)+1=0):=by omega
  simp at h2 h5 h6 h7
  simp [F_z_277,reachC,cut,h1,h2,h3,h4,h5,h6,h7,h9,h11,endH]
 ·have h8:(1:Int)<B.length+1+1:=by omega
  have h9:¬((A.length:Int)+1=0):=by omega
  have h12:A.length+1+(B.length+1)≤A.length+(B.length+1+1):=by omega
  obtain ⟨x,hx⟩:∃x,List.drop (B.length+1) (r::b::B)=[x]:=List.length_eq_one_iff.1 (by simp)
  have h13:¬((A.length:Int)+(B.length+1)=0):=by omega
  have h14:(0:Int)≤(A.length:Int)+(B.length+1):=by omega
  have h15:(B.length:Int)≤B.length+1:=by omega
  have h16:(B.length:Int)<B.length+1:=by omega
  have h17:((A.length:Int)+(B.length+1)).toNat=A.length+(B.length+1):=by omega
  have h18:((A.length:Int)+(B.length+1+1) - (A.length+(B.length+1))).toNat=1:=by omega
  have h20:A.length+(B.length+1)+1≤A.length+(B.length+1+1):=by omega
  have h21:List.take (A.length+(B.length+1)) (A++b::(B++[x]))=A++b::B:=by
   have:A++b::(B++[x])=(A++b::B)++[x]:=by simp
   rw [this]
   exact List.take_left' (by simp)
  have h22:List.drop (A.length+(B.length+1)+1) (A++b::(B++[x]))=[]:=List.drop_eq_nil_of_le (by simp;omega)
  have h10:((A.length:Int)+(B.length+1+1) - (A.length+1)).toNat=B.length+1:=by omega
  simp at h2 h5 h6 h7
  simp [F_z_277,reachC,cut,h1,h2,h3,h4,h5,h6,h7,h8,h9,h10,h11,h12,h13,h14,h15,h16,h17,h18,h20,h21,h22,hx,endH]
theorem ev_pC1C1 (a b c d e:Int):ev P (.call z_276 [.d (.ag [I' a,I' b,I' c,I' d,I' e])] [])=some (.val (.d (.b (b==68))) []):=by
 rw [ev_call P_z_276 rfl]
 simp [F_z_276]
theorem ev_pub (nl:Bool) (l:List W) (hn:l.length≤1000000) :
  ev P (.call z_123 [.d (qD nl l),.d (.fn z_276 [] [])] [])=some (.val (.d (I' (pub l))) []):=by
 have h:=ev_IndexFunc (f:=z_276) (first:=[]) (caps:=[]) (p:=fun w=>w.op==68) nl l hn (by intro a b c d e;simp [ev_pC1C1])
 exact h
theorem ev_publishers (z:Z) (sz:Int) (q:D) (C:List K) (cs:Option (List (List D))) :
  ev P (.call z_239 [.loc 0 0 0] (hB z sz q C cs .nil))=some (.val (.fn z_275 [] [.rf [.loc 0 0 0]]) (hB z sz q C cs .nil)):=by
 rw [ev_call P_z_239 rfl]
 rcases cs with _ | T<;>simp [F_z_239,hB,lkV,lkD,reachC,cut,trg2,trg3,List.idxOf_cons,endH]
end Go.VS.Sp
namespace Go.VS.Sp
abbrev lpA:O:=.lp [5] F_z_171_A0 F_z_171_B0 .normal [(1,.rf [.loc 1 0 0])]
def aH (z:Z) (sz:Int) (q:D) (C:List K):Option (List (List D))→List tWk→List O
 | none,[]=>[lpA,lkD z sz q (.sl 2 true []) (.sl 5 true [])]
 | none,a::l=>[lpA,lkV z sz (.d q) (.d (.sl 2 true [])) (.asl 2 0 (a::l).length),.arrD 5 true ((a::l).map tWk.row)]
 | some T,[]=>[lpA,lkV z sz (.d q) (.asl 2 0 C.length) (.d (.sl 5 true [])),.arrD 2 true (C.map K.row++T)]
 | some T,a::l=>[lpA,lkV z sz (.d q) (.asl 2 0 C.length) (.asl 3 0 (a::l).length),.arrD 2 true (C.map K.row++T),.arrD 5 true ((a::l).map tWk.row)]
def mA:Option (List (List D))→Nat
 | none=>2
 | some _=>3
def Q1 (Q:List W):List W:=Q.eraseIdx (pub Q).toNat
theorem pub_spec (Q:List W):(pub Q = -1∧Q.find? (fun w=>w.op==68)=none)∨∃(A B:List W) (w:W),Q=A++w::B∧pub Q=(A.length:Int)∧w.op=68:=by
 rcases idx_spec (p:=fun w:W=>w.op==68) Q 0 with ⟨h1,h2⟩ | ⟨i,c,h1,h2,h3⟩
 ·exact .inl ⟨h1,h2⟩
 ·right
  have hc:c.op=68:=by have:=List.find?_some h3;simpa using this
  obtain ⟨hlt,he⟩:=List.getElem?_eq_some_iff.1 h2
  refine ⟨Q.take i,Q.drop (i+1),c,?_,?_,hc⟩
  ·rw [←he];simp
  ·have:(Q.take i).length=i:=by simp;omega
   rw [this]
   simp at h1
   exact h1
structure Ad where
 qn:Bool
 Q:List W
 C:List K
 wn:List tWk
def Ad.step (a:Ad) (w:W):Ad:=⟨decide (pO (Q1 a.Q)=[]),pO (Q1 a.Q),a.C.map (pubK (Q1 a.Q) w.value),a.wn++⟨w.task,w.op,0⟩::pW w.value (Q1 a.Q)⟩
def advF (sz:Int):Nat→Ad→Ad
 | 0,a=>a
 | n+1,a=>if pub a.Q<0∨fl sz a.C a.Q=true then a else
  match a.Q[(pub a.Q).toNat]? with
  | none=>a
  | some w=>advF sz n (a.step w)
def Ad.ok (cs:Option (List (List D))) (a:Ad):Prop :=
 (cs=none→a.C=[])∧a.C.length≤100000∧(∀c∈a.C,(c.nl=true→c.log=[])∧c.log.length+a.Q.length≤100000)∧a.Q.length+a.wn.length≤90000∧(a.qn=true→a.Q=[])
theorem Q1_eq {A B:List W} {w:W} (h:pub (A++w::B)=(A.length:Int)):Q1 (A++w::B)=A++B:=by
 unfold Q1
 rw [h]
 have e:((A.length:Int)).toNat=A.length:=by omega
 rw [e,List.eraseIdx_append_of_length_le (by omega)]
 simp
theorem pO_len (v:Int) (Q:List W):(pO Q).length+(pW v Q).length=Q.length:=by
 unfold pO pW
 rw [List.length_map]
 induction Q with
 | nil=>rfl
 | cons w r ih=>cases h:w.op==70<;>simp [h]<;>omega
theorem pO_le (Q:List W):(pO Q).length≤Q.length:=List.length_filter_le _ _
theorem Ad.ok_step {cs:Option (List (List D))} {a:Ad} {A B:List W} {w:W} (hQ:a.Q=A++w::B) (h:pub a.Q=(A.length:Int)) (hok:a.ok cs):(a.step w).ok cs:=by
 obtain ⟨hC0,hc,hC,hw,hqn⟩:=hok
 have hq1:Q1 a.Q=A++B:=by rw [hQ];exact Q1_eq (by rw [←hQ];exact h)
 have hl:=pO_le (A++B)
 have hl2:=pO_len w.value (A++B)
 have hQl:a.Q.length=A.length+(B.length+1):=by rw [hQ];simp
 simp only [List.length_append] at hl hl2
 refine ⟨?_,?_,?_,?_,?_⟩
 ·intro e;simp [Ad.step,hC0 e]
 ·simp [Ad.step];exact hc
 ·intro c hcm
  simp only [Ad.step] at hcm ⊢
  obtain ⟨c0,hc0,rfl⟩:=List.mem_map.1 hcm
  have:=hC c0 hc0
  rw [hq1] at *
  unfold pubK
  split
  ·exact ⟨this.1,by omega⟩
  ·refine ⟨by simp,?_⟩
   simp only [List.length_append,List.length_singleton]
   omega
 ·simp only [Ad.step,List.length_append,List.length_cons]
  rw [hq1]
  omega
 ·simp [Ad.step]
set_option maxHeartbeats 4000000 in
theorem loop_adv (z:Z) (sz:Int) (cs:Option (List (List D))):∀(n:Nat) (a:Ad),a.Q.length<n→a.ok cs →
  ev P (.loop (mA cs) [0,1] F_z_275_L0 [(0,.yld 0),(1,.rf [.loc 1 0 0])] (aH z sz (qD a.qn a.Q) a.C cs a.wn)) =
   some (.out .ret [] (aH z sz (qD (advF sz n a).qn (advF sz n a).Q) (advF sz n a).C cs (advF sz n a).wn)):=by
 intro n
 induction n with
 | zero=>intro a h;omega
 | succ n ih =>
  intro a hn hok
  obtain ⟨qn,Q,C,wn⟩:=a
  obtain ⟨hC0,hc,hC,hw,hqn⟩:=hok
  simp only at hC0 hc hC hw hqn hn ⊢
  have hI:=ev_pub qn Q (by omega)
  rw [ev_loop]
  conv=>lhs;arg 4;unfold F_z_275_L0
  by_cases hp:pub Q<0
  ·have e:advF sz (n+1) ⟨qn,Q,C,wn⟩=⟨qn,Q,C,wn⟩:=by simp [advF,hp]
   rw [e]
   rcases cs with _ | T<;>rcases wn with _ | ⟨x,wn⟩
   all_goals
    simp [aH,mA,lkV,lkD,hI,hp,reachC,cut,trg2,trg3,trg4,List.idxOf_cons]
  ·cases hf:fl sz C Q
   ·rcases pub_spec Q with ⟨h1,_⟩ | ⟨A,B,w,hQ,hpe,h68⟩
    ·omega
    ·have hst:=Ad.ok_step (a:=⟨qn,Q,C,wn⟩) hQ hpe ⟨hC0,hc,hC,hw,hqn⟩
     have hq1:Q1 Q=A++B:=by rw [hQ];exact Q1_eq (by rw [←hQ];exact hpe)
     have hgm:Q[A.length]?=some w:=by rw [hQ];simp
     have hQl:Q.length=A.length+(B.length+1):=by rw [hQ];simp
     have hlt:A.length<Q.length:=by omega
     have e:advF sz (n+1) ⟨qn,Q,C,wn⟩=advF sz n (Ad.step ⟨qn,Q,C,wn⟩ w):=by
      have n1:¬((A.length:Int)<0):=by omega
      simp [advF,n1,hf,hpe,hgm]
     have hsl:(Ad.step ⟨qn,Q,C,wn⟩ w).Q.length<n:=by
      have:=pO_le (A++B)
      simp only [Ad.step,hq1]
      simp at this
      omega
     have ih':=ih _ hsl hst
     rw [e,←ih']
     have hqf:qn=false:=by
      cases qn
      ·rfl
      ·rw [hqn rfl] at hQl;simp at hQl
     subst hqf
     simp only [Ad.step,hq1]
     have hR:=round_adv z sz false (A++B) C cs wn w hC0 (by simp;omega) hc (fun c hcm=>⟨(hC c hcm).1,by have:=(hC c hcm).2;omega⟩) (by omega)
     have hD:=ev_DeleteW (A.map W.row) (B.map W.row) w.row (by simp;omega)
     have hK:=ev_Clone false Q (by simp) (by omega)
     have hwr:w.row=[I' w.task,I' w.op,I' w.value,I' w.prio,I' w.case]:=rfl
     have hfu:∀(d0 d1 d2 d3 d5 d7 d8:D) (cn:Bool),ev P (.call z_174 [.d (I' sz),.d (.ag [d0,d1,d2,d3,qD false Q,d5,.sl 2 cn (C.map K.row),d7,d8])] [])=some (.val (.d (.b false)) []):=by
      intro d0 d1 d2 d3 d5 d7 d8 cn
      have:=ev_full sz d0 d1 d2 d3 d5 d7 d8 false Q cn C (by omega) (by omega)
      rw [hf] at this
      exact this
     have hw1:IntKind.i64.wrap ((A.length:Int)+1)=A.length+1:=wrap_i64 (by omega) (by omega)
     rw [hpe] at hI
     have n1:¬((A.length:Int)<0):=by omega
     rw [hQl] at hK
     have hlt2:(A.length:Int)<A.length+(B.length+1):=by omega
     have n2:A.length<A.length+(B.length+1):=by omega
     have htk:List.take (A.length+B.length) (A.map W.row++(B.map W.row++[[I' 0,I' 0,I' 0,I' 0,I' 0]]))=(A++B).map W.row:=by
      have:A.map W.row++(B.map W.row++[[I' 0,I' 0,I' 0,I' 0,I' 0]])=(A++B).map W.row++[[I' 0,I' 0,I' 0,I' 0,I' 0]]:=by simp
      rw [this]
      exact List.take_left' (by simp)
     generalize hR2:ev P (.loop (mA cs) [0,1] F_z_275_L0 [(0,.yld 0),(1,.rf [.loc 1 0 0])] (aH z sz (qD (decide (pO (A++B)=[])) (pO (A++B))) (C.map (pubK (A++B) w.value)) cs (wn++⟨w.task,w.op,0⟩::pW w.value (A++B))))=R
     generalize hwo:pW w.value (A++B)=wo at *
     generalize hot:pO (A++B)=ot at *
     generalize hC':C.map (pubK (A++B) w.value)=C' at *
     have hl:C'.length=C.length:=by simp [←hC']
     rcases cs with _ | T<;>rcases wn with _ | ⟨x,wn⟩
     ·obtain rfl:=hC0 rfl
      simp [aH,mA,lkV,lkD,hl,qD,tWk.row] at hR2
      simp [hk1,pH,pR,hB,bH,fH,qO,lkV,lkD,hwr,qD,hl,tWk.row] at hR hD
      simp [hQ,hwr] at hK hI hfu
      simp [hQ,aH,mA,lkV,lkD,hI,n1,hwr,hlt2,n2,hfu,hK,hD,hw1,htk,hR,callD,callR,sub,setAll,back,callY,thaw,freezeAll,freeze1,V.same_self,reachC,cut,trg2,trg3,trg4,List.idxOf_cons,take_map_len,tWk.row,hR2,hl]
     ·obtain rfl:=hC0 rfl
      simp [aH,mA,lkV,lkD,hl,qD,tWk.row] at hR2
      simp [hk1,pH,pR,hB,bH,fH,qO,lkV,lkD,hwr,qD,hl,tWk.row] at hR hD
      simp [hQ,hwr] at hK hI hfu
      simp [hQ,aH,mA,lkV,lkD,hI,n1,hwr,hlt2,n2,hfu,hK,hD,hw1,htk,hR,callD,callR,sub,setAll,back,callY,thaw,freezeAll,freeze1,V.same_self,reachC,cut,trg2,trg3,trg4,List.idxOf_cons,take_map_len,tWk.row,hR2,hl]
     ·simp [aH,mA,lkV,lkD,hl,qD,tWk.row] at hR2
      simp [hk1,pH,pR,hB,bH,fH,qO,lkV,lkD,hwr,qD,hl,tWk.row] at hR hD
      simp [hQ,hwr] at hK hI hfu
      simp [hQ,aH,mA,lkV,lkD,hI,n1,hwr,hlt2,n2,hfu,hK,hD,hw1,htk,hR,callD,callR,sub,setAll,back,callY,thaw,freezeAll,freeze1,V.same_self,reachC,cut,trg2,trg3,trg4,List.idxOf_cons,take_map_len,tWk.row,hR2,hl]
     ·simp [aH,mA,lkV,lkD,hl,qD,tWk.row] at hR2
      simp [hk1,pH,pR,hB,bH,fH,qO,lkV,lkD,hwr,qD,hl,tWk.row] at hR hD
      simp [hQ,hwr] at hK hI hfu
      simp [hQ,aH,mA,lkV,lkD,hI,n1,hwr,hlt2,n2,hfu,hK,hD,hw1,htk,hR,callD,callR,sub,setAll,back,callY,thaw,freezeAll,freeze1,V.same_self,reachC,cut,trg2,trg3,trg4,List.idxOf_cons,take_map_len,tWk.row,hR2,hl]
   ·have e:advF sz (n+1) ⟨qn,Q,C,wn⟩=⟨qn,Q,C,wn⟩:=by simp [advF,hf]
    rw [e]
    have hfu:∀(d0 d1 d2 d3 d5 d7 d8:D),ev P (.call z_174 [.d (I' sz),.d (.ag [d0,d1,d2,d3,qD qn Q,d5,.sl 2 false (C.map K.row),d7,d8])] [])=some (.val (.d (.b true)) []):=by
     intro d0 d1 d2 d3 d5 d7 d8
     have:=ev_full sz d0 d1 d2 d3 d5 d7 d8 qn Q false C (by omega) (by omega)
     rw [hf] at this
     exact this
    rcases cs with _ | T<;>rcases wn with _ | ⟨x,wn⟩
    ·obtain rfl:=hC0 rfl
     simp [fl] at hf
    ·obtain rfl:=hC0 rfl
     simp [fl] at hf
    ·simp [aH,mA,lkV,lkD,hI,hp,hfu,reachC,cut,trg2,trg3,trg4,List.idxOf_cons,take_map_len]
    ·simp [aH,mA,lkV,lkD,hI,hp,hfu,reachC,cut,trg2,trg3,trg4,List.idxOf_cons,take_map_len]
end Go.VS.Sp
namespace Go.VS.Sp
def adv (sz:Int) (qn:Bool) (Q:List W) (C:List K):Ad:=advF sz (Q.length+1) ⟨qn,Q,C,[]⟩
theorem advF_len (sz:Int):∀(n:Nat) (a:Ad),(advF sz n a).C.length=a.C.length
 | 0,a=>rfl
 | n+1,a=>by
  unfold advF
  split
  ·rfl
  ·split
   ·rfl
   ·rw [advF_len sz n];simp [Ad.step]
set_option maxHeartbeats 4000000 in
theorem ev_advance (z:Z) (sz:Int) (qn:Bool) (Q:List W) (C:List K) (cs:Option (List (List D))) (hk:Hk) (hok:Ad.ok cs ⟨qn,Q,C,[]⟩) (hk0:hk = .w0∨(hk = .wc Q∧qn=false)) :
  ev P (.call z_171 [.loc 0 0 0] (pH z sz qn Q C cs hk)) =
   some (.val (.tu []) (pR z sz (qD (adv sz qn Q C).qn (adv sz qn Q C).Q) (adv sz qn Q C).C cs hk (adv sz qn Q C).wn)):=by
 have hP:=ev_publishers z sz (qD qn Q) C cs
 have hL:=loop_adv z sz cs (Q.length+1) ⟨qn,Q,C,[]⟩ (by simp) hok
 have hl:(adv sz qn Q C).C.length=C.length:=advF_len sz _ _
 have hC0':cs=none→(adv sz qn Q C).C=[]:=fun h=>by
  have h3:C=[]:=hok.1 h
  have h2:C.length=0:=by rw [h3];rfl
  exact List.length_eq_zero_iff.1 (hl.trans h2)
 change _=some (Res.out .ret [] (aH z sz (qD (adv sz qn Q C).qn (adv sz qn Q C).Q) (adv sz qn Q C).C cs (adv sz qn Q C).wn)) at hL
 generalize adv sz qn Q C=a at *
 obtain ⟨qn',Q',C',wn'⟩:=a
 simp only at hL hl hC0' ⊢
 have hF:ev P (.call z_275 [.yld 0,.rf [.loc 1 0 0]] (aH z sz (qD qn Q) C cs []))=some (.val (.tu []) (aH z sz (qD qn' Q') C' cs wn')):=by
  rw [ev_call P_z_275 rfl]
  rcases cs with _ | T<;>rcases wn' with _ | ⟨x,wn'⟩
  all_goals
   simp [aH,mA,lkV,lkD] at hL
   simp [F_z_275,aH,mA,lkV,lkD,hL,endH,reachC,cut,trg2,trg3,trg4,List.idxOf_cons]
 rw [ev_call P_z_171 rfl]
 rcases hk0 with rfl | ⟨rfl,rfl⟩
 ·rcases cs with _ | T<;>rcases wn' with _ | ⟨x,wn'⟩
  ·have hCC:C=[]:=hok.1 rfl
   have hCC':C'=[]:=hC0' rfl
   subst hCC hCC'
   simp [hB,aH,mA,lkV,lkD,hl] at hF hP
   simp [F_z_171,pH,pR,hB,bH,fH,aH,mA,lkV,lkD,hP,hF,callR,sub,setAll,back,freezeAll,freeze1,reachC,cut,trg2,trg3,trg4,rg5,List.idxOf_cons,take_map_len,endH,hl,canonEnv]
  ·have hCC:C=[]:=hok.1 rfl
   have hCC':C'=[]:=hC0' rfl
   subst hCC hCC'
   simp [hB,aH,mA,lkV,lkD,hl] at hF hP
   simp [F_z_171,pH,pR,hB,bH,fH,aH,mA,lkV,lkD,hP,hF,callR,sub,setAll,back,freezeAll,freeze1,reachC,cut,trg2,trg3,trg4,rg5,List.idxOf_cons,take_map_len,endH,hl,canonEnv]
  ·simp [hB,aH,mA,lkV,lkD,hl] at hF hP
   simp [F_z_171,pH,pR,hB,bH,fH,aH,mA,lkV,lkD,hP,hF,callR,sub,setAll,back,freezeAll,freeze1,reachC,cut,trg2,trg3,trg4,rg5,List.idxOf_cons,take_map_len,endH,hl,canonEnv]
  ·simp [hB,aH,mA,lkV,lkD,hl] at hF hP
   simp [F_z_171,pH,pR,hB,bH,fH,aH,mA,lkV,lkD,hP,hF,callR,sub,setAll,back,freezeAll,freeze1,reachC,cut,trg2,trg3,trg4,rg5,List.idxOf_cons,take_map_len,endH,hl,canonEnv]
 ·rcases cs with _ | T<;>rcases wn' with _ | ⟨x,wn'⟩
  ·have hCC:C=[]:=hok.1 rfl
   have hCC':C'=[]:=hC0' rfl
   subst hCC hCC'
   simp [hB,aH,mA,lkV,lkD,hl] at hF hP
   simp [F_z_171,pH,pR,hB,bH,fH,aH,mA,lkV,lkD,hP,hF,callR,sub,setAll,back,freezeAll,freeze1,reachC,cut,trg2,trg3,trg4,rg5,List.idxOf_cons,take_map_len,endH,hl,canonEnv]
  ·have hCC:C=[]:=hok.1 rfl
   have hCC':C'=[]:=hC0' rfl
   subst hCC hCC'
   simp [hB,aH,mA,lkV,lkD,hl] at hF hP
   simp [F_z_171,pH,pR,hB,bH,fH,aH,mA,lkV,lkD,hP,hF,callR,sub,setAll,back,freezeAll,freeze1,reachC,cut,trg2,trg3,trg4,rg5,List.idxOf_cons,take_map_len,endH,hl,canonEnv]
  ·simp [hB,aH,mA,lkV,lkD,hl] at hF hP
   simp [F_z_171,pH,pR,hB,bH,fH,aH,mA,lkV,lkD,hP,hF,callR,sub,setAll,back,freezeAll,freeze1,reachC,cut,trg2,trg3,trg4,rg5,List.idxOf_cons,take_map_len,endH,hl,canonEnv]
  ·simp [hB,aH,mA,lkV,lkD,hl] at hF hP
   simp [F_z_171,pH,pR,hB,bH,fH,aH,mA,lkV,lkD,hP,hF,callR,sub,setAll,back,freezeAll,freeze1,reachC,cut,trg2,trg3,trg4,rg5,List.idxOf_cons,take_map_len,endH,hl,canonEnv]
end Go.VS.Sp
namespace Go.VS.Sp
theorem ev_Remove (nl:Bool) (l:List W) (t:Int) (hn:l.length≤1000000) :
  ev P (.call z_129 [.d (qD nl l),.d (I' t)] [])=some (.val (.d (qO (l.filter fun w=>w.task != t))) []):=by
 have hf:ev P (.call z_211 [.d (qD nl l),.d (.fn z_212 [] [.ref [I' t]])] [])=some (.val (.d (qO (l.filter fun w=>w.task != t))) []):=by
  rw [ev_call P_z_211 rfl]
  have hl:=loop_filter (f:=z_212) (first:=[]) (caps:=[.ref [I' t]]) (p:=fun w=>w.task != t) nl l hn (by intro a b c d e;simp [ev_RemoveC1]) _ rfl l [] rfl
  cases hf:l.filter fun w=>w.task != t with
  | nil=>simp [hf,accV,accH] at hl;simp [F_z_211,hl,qO]
  | cons a r=>simp [hf,accV,accH,W.row] at hl;simp [F_z_211,hl,qO,W.row,take_map_len]
 rw [ev_call P_z_129 rfl]
 simp [F_z_129,hf]
structure Rp where
 st:S
 parked:Bool
 value:Int
 ok:Bool
 kn:Bool
 wn:List tWk
abbrev kD (n:Bool) (l:List tWk):D:=.sl 5 n (l.map tWk.row)
abbrev Rp.row (r:Rp):List D:=[I' r.st.own,I' r.st.cnt,I' r.st.time,hD r.st.hn r.st.H,qD r.st.qn r.st.Q,hD r.st.bn r.st.B,cD r.st.cn r.st.C,.b r.st.cl,I' r.st.val,.b r.parked,I' r.value,.b r.ok,kD r.kn r.wn]
def S0:S:=⟨0,0,0,true,[],true,[],true,[],true,[],false,0⟩
def Rp0:Rp:=⟨S0,false,0,false,true,[]⟩
structure S.wz (s:S):Prop where
 h:s.H.length≤1000
 b:s.B.length≤1000
 q:s.Q.length≤1000
 c:s.C.length≤1000
 l:∀c∈s.C,(c.nl=true→c.log=[])∧c.log.length≤1000
 qn:s.qn=true→s.Q=[]
 cn:s.cn=true→s.C=[]
theorem S.wz.sm {s:S} (h:s.wz):s.sm:=⟨by have:=h.h;omega,by have:=h.b;omega,by have:=h.q;omega,by have:=h.c;omega,fun c hc=>by have:=(h.l c hc).2;omega⟩
abbrev S.z (s:S):Z:=⟨I' s.own,I' s.cnt,I' s.time,hD s.hn s.H,hD s.bn s.B,.b s.cl,I' s.val⟩
def csOf (cn:Bool):Option (List (List D)):=if cn=true then none else some []
abbrev S.put (s:S) (a:Ad):S:={ s with qn:=a.qn,Q:=a.Q,C:=a.C }
def wd (k sz ot:Int) (s:S) (t:Int):Rp×Int :=
 if ckd k sz ot s≠0 then (Rp0,1) else if (s.Q.any fun w=>w.task==t)=false then (Rp0,7) else
 let a:=adv sz (decide ((s.Q.filter fun w=>w.task != t)=[])) (s.Q.filter fun w=>w.task != t) s.C
 (⟨s.put a,false,0,false,decide (a.wn=[]),a.wn⟩,0)
set_option maxHeartbeats 4000000 in
theorem ev_withdraw (nm:D) (k sz ot:Int) (s:S) (hs:s.wz) (t:Int) :
  ev P (.call z_90 [.d (.ag [nm,I' k,I' sz,I' ot]),.d (.ag s.row),.d (I' t)] [])=some (.val (.tu [.d (.ag (wd k sz ot s t).1.row),.d (I' (wd k sz ot s t).2)]) []):=by
 have hC:=ev_mCheck nm k sz ot s hs.sm
 have hF:=ev_wFind s.qn s.Q t (by have:=hs.q;omega)
 rw [fd_any] at hF
 have hBg:=ev_begin s.z nm (I' k) (I' ot) sz s.qn s.Q s.cn s.C hs.qn hs.cn (by have:=hs.q;omega) (by have:=hs.c;omega)
 have hR:=ev_Remove s.qn s.Q t (by have:=hs.q;omega)
 have hle:(s.Q.filter fun w=>w.task != t).length≤s.Q.length:=List.length_filter_le _ _
 have hA:=ev_advance s.z sz (decide ((s.Q.filter fun w=>w.task != t)=[])) (s.Q.filter fun w=>w.task != t) s.C (csOf s.cn) .w0
  ⟨by intro h;apply hs.cn;cases hc:s.cn<;>simp [csOf,hc] at h ⊢,by have:=hs.c;simp only;omega,fun c hc=>⟨(hs.l c hc).1,by have:=(hs.l c hc).2;have:=hs.q;simp only;omega⟩,by have:=hs.q;simp;omega,by simp⟩ (.inl rfl)
 have hl:(adv sz (decide ((s.Q.filter fun w=>w.task != t)=[])) (s.Q.filter fun w=>w.task != t) s.C).C.length=s.C.length:=advF_len sz _ _
 have hqf:(s.Q.any fun w=>w.task==t)=true→s.qn=false:=by
  intro h
  cases h2:s.qn
  ·rfl
  ·rw [hs.qn h2] at h;simp at h
 have hCn:s.cn=true→(adv sz (decide ((s.Q.filter fun w=>w.task != t)=[])) (s.Q.filter fun w=>w.task != t) s.C).C=[]:=fun h=>List.length_eq_zero_iff.1 (by rw [hl,hs.cn h];rfl)
 unfold wd
 generalize (s.Q.filter fun w=>w.task != t)=Q' at *
 generalize adv sz (decide (Q'=[])) Q' s.C=a at *
 obtain ⟨own,cnt,time,hn,H,qn,Q,bn,B,cn,C,cl,val⟩:=s
 obtain ⟨qn',Q'',C',wn⟩:=a
 simp only at hC hF hBg hR hA hl hs hqf hCn ⊢
 generalize (Q.any fun w=>w.task==t)=an at *
 generalize (fdS Q t).1=fi at *
 have htk:List.take C.length (C'.map K.row)=C'.map K.row:=List.take_of_length_le (by simp [hl])
 rw [ev_call P_z_90 rfl]
 by_cases hc:ckd k sz ot ⟨own,cnt,time,hn,H,qn,Q,bn,B,cn,C,cl,val⟩=0
 ·rw [hc] at hC ⊢
  cases an
  ·simp [F_z_90,hC,hF,Rp0,S0]
  ·obtain rfl:=hqf rfl
   cases cn<;>rcases wn with _ | ⟨x,wn⟩
   all_goals
    simp [tgB,lkV,lkD,qO] at hBg hR
    simp [pH,pR,hB,bH,fH,csOf,lkV,lkD,hl] at hA
    simp [F_z_90,hC,hF,hBg,hR,hA,callD,callR,sub,setAll,back,freezeAll,freeze1,reachC,cut,trg2,trg3,trg4,List.idxOf_cons,take_map_len,endH,hl,V.same_self,mkRows,allDs,Rp.row,S.put,toDs,toD,hCn,htk]
 ·have hc2:(ckd k sz ot ⟨own,cnt,time,hn,H,qn,Q,bn,B,cn,C,cl,val⟩ != 0)=true:=by simpa using hc
  simp [F_z_90,hC,hc,hc2,Rp0,S0]
end Go.VS.Sp
namespace Go.VS.Sp
end Go.VS.Sp
namespace Go.VS.Sp
@[simp] theorem tWk.eta (w:tWk):tWk.mk w.task w.op w.value=w:=rfl
def r13 (p:Bool) (v:Int) (ok:Bool):List D:=[I' 0,I' 0,I' 0,.sl 1 true [],.sl 5 true [],.sl 1 true [],.sl 2 true [],.b false,I' 0,.b p,I' v,.b ok,.sl 5 true []]
def hkq (qn:Bool) (Q:List W):Hk:=if qn=true then .w0 else .wc Q
end Go.VS.Sp
namespace Go.VS.Sp
end Go.VS.Sp
namespace Go.VS.Sp
abbrev up (h:List O):List O:=h
def busy (Q:List W):Bool:=Q.any fun w=>w.op==68
end Go.VS.Sp
namespace Go.VS.Sp
end Go.VS.Sp
namespace Go.VS.Sp
end Go.VS.Sp
namespace Go.VS.Sp
theorem eqv {α:Type} {a b:α} (h:∀R,b=R→a=R):a=b:=h _ rfl
end Go.VS.Sp
namespace Go.VS.Sp
structure tRd where
 qn:Bool
 Q:List W
 cn:Bool
 C:List K
 wn:List tWk
def tRd.step (a:tRd) (w:W):tRd:=⟨false,pO (a.Q.filter fun x=>x.task != w.task),false,a.C.map (pubK (a.Q.filter fun x=>x.task != w.task) w.value),a.wn++⟨w.task,w.op,0⟩::pW w.value (a.Q.filter fun x=>x.task != w.task)⟩
def tRd.ok (a:tRd):Prop :=
 a.C.length≤100000∧(∀c∈a.C,(c.nl=true→c.log=[])∧c.log.length+a.Q.length≤100000)∧a.Q.length+a.wn.length≤90000
theorem flt_lt {Q:List W} {A B:List W} {w:W} (hQ:Q=A++w::B):(Q.filter fun x=>x.task != w.task).length<Q.length:=by
 have h1:=List.length_filter_le (fun x:W=>x.task != w.task) A
 have h2:=List.length_filter_le (fun x:W=>x.task != w.task) B
 rw [hQ]
 simp [List.filter_append]
 omega
theorem tRd.ok_step {a:tRd} {A B:List W} {w:W} (hQ:a.Q=A++w::B) (hok:a.ok):(a.step w).ok:=by
 obtain ⟨hc,hC,hw⟩:=hok
 have hlt:=flt_lt hQ
 unfold tRd.step
 generalize (a.Q.filter fun x=>x.task != w.task)=Q' at *
 have hl:=pO_le Q'
 have hl2:=pO_len w.value Q'
 refine ⟨?_,?_,?_⟩
 ·simp;exact hc
 ·intro c hcm
  simp only at hcm ⊢
  obtain ⟨c0,hc0,rfl⟩:=List.mem_map.1 hcm
  have:=hC c0 hc0
  unfold pubK
  split
  ·exact ⟨this.1,by omega⟩
  ·refine ⟨by simp,?_⟩
   simp only [List.length_append,List.length_singleton]
   omega
 ·simp only [List.length_append,List.length_cons]
  omega
end Go.VS.Sp
namespace Go.VS.Sp
end Go.VS.Sp
namespace Go.VS.Sp
end Go.VS.Sp
namespace Go.VS.Sp
end Go.VS.Sp
namespace Go.VS.Sp
end Go.VS.Sp
namespace Go.VS.Sp
theorem ckd_good {k sz ot:Int} {s:S} (h:ckd k sz ot s=0):mnew k sz ot=0∧s.good sz=true:=by
 unfold ckd at h
 split at h
 ·rename_i h1
  refine ⟨h1,?_⟩
  cases hg:s.good sz
  ·rw [hg] at h;simp at h
  ·rfl
 ·rename_i h1;exact absurd h h1
end Go.VS.Sp
namespace Go.VS.Sp
structure S.same (s s':S):Prop where
 own:s.own=s'.own
 cnt:s.cnt=s'.cnt
 time:s.time=s'.time
 H:s.H=s'.H
 Q:s.Q=s'.Q
 B:s.B=s'.B
 C:s.C=s'.C
 cl:s.cl=s'.cl
 val:s.val=s'.val
theorem S.same.refl (s:S):s.same s:=⟨rfl,rfl,rfl,rfl,rfl,rfl,rfl,rfl,rfl⟩
structure Rp.same (r r':Rp):Prop where
 st:r.st.same r'.st
 parked:r.parked=r'.parked
 value:r.value=r'.value
 ok:r.ok=r'.ok
 wn:r.wn=r'.wn
end Go.VS.Sp
namespace Go.VS.Sp
def tks (Q:List W):List Int:=Q.map (·.task)
theorem tks_sub {A B:List W} {w:W} (h:(tks (A++w::B)).Nodup):(tks (A++B)).Nodup:=by
 have:(A++B).Sublist (A++w::B):=List.Sublist.append (List.Sublist.refl A) (List.sublist_cons_self w B)
 exact h.sublist (this.map _)
theorem tks_pO {Q:List W} (h:(tks Q).Nodup):(tks (pO Q)).Nodup:=h.sublist (List.filter_sublist.map _)
theorem wts_split {A B:List W} {w:W} {t:Int} (h:w.op=68):wts (A++w::B) t 70=wts (A++B) t 70:=by
 unfold wts
 simp [h]
def fits (sz:Int) (C:List K):Prop:=∀c∈C,(c.log.length:Int)≤sz
theorem fits_step {sz:Int} {C:List K} {Q A B:List W} {w:W} (hQ:Q=A++w::B) (h68:w.op=68) (hf:fl sz C Q=false) (h:fits sz C):fits sz (C.map (pubK (A++B) w.value)):=by
 intro c hc
 obtain ⟨c0,hc0,rfl⟩:=List.mem_map.1 hc
 unfold pubK
 cases hw:wts (A++B) c0.task 70
 ·have h1:=h c0 hc0
  have:((c0.log.length:Int)==sz&&!wts Q c0.task 70)=false:=by
   unfold fl at hf
   rw [List.any_eq_false] at hf
   simpa using hf c0 hc0
  rw [hQ,wts_split h68,hw] at this
  simp at this
  simp
  omega
 ·simp
  exact h c0 hc0
end Go.VS.Sp
namespace Go.VS.Sp
end Go.VS.Sp
namespace Go.VS.Sp
structure S.wfn (s:S) (q c l:Nat):Prop where
 h:s.H.length≤1000
 b:s.B.length≤1000
 q:s.Q.length≤q
 c:s.C.length≤c
 l:∀c∈s.C,(c.nl=true→c.log=[])∧c.log.length≤l
 qn:s.qn=true→s.Q=[]
 cn:s.cn=true→s.C=[]
theorem S.wfn.wz {s:S} {q c l:Nat} (h:s.wfn q c l) (h1:q≤1000) (h2:c≤1000) (h3:l≤1000):s.wz :=
 ⟨h.h,h.b,by have:=h.q;omega,by have:=h.c;omega,fun c hc=>by have:=h.l c hc;exact ⟨this.1,by omega⟩,h.qn,h.cn⟩
theorem S.wfn.mono {s:S} {q c l q' c' l':Nat} (h:s.wfn q c l) (h1:q≤q') (h2:c≤c') (h3:l≤l'):s.wfn q' c' l' :=
 ⟨h.h,h.b,by have:=h.q;omega,by have:=h.c;omega,fun c hc=>by have:=h.l c hc;exact ⟨this.1,by omega⟩,h.qn,h.cn⟩
def Rp.wfn (r:Rp) (q c l:Nat):Prop:=r.st.wfn q c l∧r.wn.length≤q
theorem kfd_mem {C:List K} {t:Int} {c:K} (h:kfd C t=some c):c∈C:=List.mem_of_find?_eq_some h
end Go.VS.Sp
namespace Go.VS.Sp
def s0:S:=⟨-1,0,0,true,[],true,[],true,[],true,[],false,0⟩
abbrev tCl:=Int×Int×Int
def tCl.row (c:tCl):List D:=[I' c.1,I' c.2.1,I' c.2.2,I' 0,I' 0]
end Go.VS.Sp
namespace Go.VS.Sp
end Go.VS.Sp
namespace Go.VS.Sp
def vcP (sz:Int) (p:Option K) (C:List K):Prop:=C.Pairwise (fun a b=>a.task<b.task)∧(∀c∈C,0≤c.task∧c.task<16∧(c.log.length:Int)≤sz∧c.log.all num=true)∧∀x∈p,∀c∈C,x.task<c.task
theorem tvc_iff {sz:Int}:∀(C:List K) (p:Option K),vc sz p C=true↔vcP sz p C
 | [],p=>by simp [vc,vcP]
 | c::C,p=>by
  have e1:vc sz p (c::C)=(!kbad sz p c&&(c.log.all num&&vc sz (some c) C)):=rfl
  have ek:kbad sz p c=false↔(0≤c.task∧c.task<16∧(c.log.length:Int)≤sz∧∀x∈p,x.task<c.task):=by
   unfold kbad
   cases p with
   | none=>simp;omega
   | some q=>simp;omega
  rw [e1]
  simp only [Bool.and_eq_true,Bool.not_eq_true',ek,tvc_iff C (some c)]
  unfold vcP
  simp only [List.pairwise_cons,List.mem_cons,forall_eq_or_imp,Option.mem_def,Option.some.injEq,forall_eq']
  constructor
  ·rintro ⟨⟨a1,a2,a3,a4⟩,b,c1,c2,c3⟩
   exact ⟨⟨c3,c1⟩,⟨⟨a1,a2,a3,b⟩,c2⟩,fun x hx=>⟨a4 x hx,fun d hd=>by have:=a4 x hx;have:=c3 d hd;omega⟩⟩
  ·rintro ⟨⟨c3,c1⟩,⟨⟨a1,a2,a3,b⟩,c2⟩,h⟩
   exact ⟨⟨a1,a2,a3,fun x hx=>(h x hx).1⟩,b,c1,c2,c3⟩
structure Srt (sz:Int) (C:List K):Prop where
 pw:C.Pairwise (fun a b=>a.task<b.task)
 el:∀c∈C,0≤c.task∧c.task<16∧(c.log.length:Int)≤sz∧c.log.all num=true
theorem srt_iff {sz:Int} {C:List K}:vc sz none C=true↔Srt sz C:=by
 rw [tvc_iff]
 exact ⟨fun h=>⟨h.1,h.2.1⟩,fun h=>⟨h.pw,h.el,by simp⟩⟩
structure Gd0 (sz:Int) (Q:List W) (C:List K):Prop where
 srt:Srt sz C
 val:∀w∈Q,wvalid w=true
 len:Q.length≤96
 nd:(tks Q).Nodup
 cs:∀w∈Q,w.case = -1∧(w.op=70∧n70 C w=true∨w.op=68)
def Gd (sz:Int) (Q:List W) (C:List K):Prop:=Gd0 sz Q C∧((∃w∈Q,w.op=68)→fl sz C Q=true)
theorem wcheck_all:∀(l:List W) (p:Option W),wcheckFrom 1 p l=0↔∀w∈l,wvalid w=true
 | [],p=>by simp [wcheckFrom]
 | w::l,p=>by
  unfold wcheckFrom
  cases hv:wvalid w
  ·simp [hv]
  ·simp [hv,wcheck_all l]
theorem wchk_iff {Q:List W}:wchk Q=0↔Q.length≤96∧∀w∈Q,wvalid w=true:=by
 unfold wchk
 by_cases h:96<Q.length
 ·rw [if_pos h]
  constructor
  ·intro h;cases h
  ·intro h';omega
 ·rw [if_neg h,wcheck_all]
  constructor
  ·intro h';exact ⟨by omega,h'⟩
  ·intro h';exact h'.2
theorem tq_iff {sz:Int} {C:List K} {Q:List W}:∀(suf pre:List W),tq sz C Q pre suf=true ↔
  ((∀x∈pre,∀w∈suf,x.task≠w.task)∧(tks suf).Nodup∧∀w∈suf,w.case = -1∧tqo sz C Q w=true)
 | [],pre=>by simp [tq,tks]
 | w::suf,pre=>by
  have e1:tq sz C Q pre (w::suf)=(!pre.any (fun x=>x.task==w.task)&&(w.case == -1&&(tqo sz C Q w&&tq sz C Q (pre++[w]) suf))):=rfl
  have e2:(!pre.any (fun x=>x.task==w.task))=true↔∀x∈pre,x.task≠w.task:=by simp
  rw [e1]
  simp only [Bool.and_eq_true,e2,tq_iff suf (pre++[w]),beq_iff_eq]
  have e3:(tks (w::suf)).Nodup↔(∀x∈suf,w.task≠x.task)∧(tks suf).Nodup:=by
   unfold tks
   rw [List.map_cons,List.nodup_cons]
   simp only [List.mem_map,not_exists,not_and]
   constructor
   ·rintro ⟨a,b⟩;exact ⟨fun x hx e=>a x hx e.symm,b⟩
   ·rintro ⟨a,b⟩;exact ⟨fun x hx e=>a x hx e.symm,b⟩
  rw [e3]
  simp only [List.mem_append,List.mem_cons,List.not_mem_nil,or_false,forall_eq_or_imp]
  constructor
  ·rintro ⟨a,b,c,d,e,f⟩
   exact ⟨fun x hx=>⟨a x hx,fun y hy=>d x (.inl hx) y hy⟩,⟨fun y hy=>d w (.inr rfl) y hy,e⟩,⟨b,c⟩,f⟩
  ·rintro ⟨a,⟨b,c⟩,⟨d,e⟩,f⟩
   exact ⟨fun x hx=>(a x hx).1,d,e,fun x hx y hy=>by
    rcases hx with hx | rfl
    ·exact (a x hx).2 y hy
    ·exact b y hy,c,f⟩
theorem tgood_iff {sz:Int} {s:S}:s.good sz=true↔(s.own = -1∧s.fl0=false∧Gd sz s.Q s.C):=by
 unfold S.good Gd
 simp only [Bool.and_eq_true,beq_iff_eq,Bool.not_eq_true',srt_iff,wchk_iff,tq_iff]
 constructor
 ·rintro ⟨⟨a,b,⟨c,d⟩,_,e,f⟩,g⟩
  refine ⟨a,g,⟨b,d,c,e,?_⟩,?_⟩
  ·intro w hw
   obtain ⟨h1,h2⟩:=f w hw
   refine ⟨h1,?_⟩
   unfold tqo at h2
   by_cases h70:w.op=70
   ·rw [if_pos h70] at h2;exact .inl ⟨h70,h2⟩
   ·rw [if_neg h70] at h2
    by_cases h68:w.op=68
    ·exact .inr h68
    ·rw [if_neg h68] at h2;cases h2
  ·rintro ⟨w,hw,h68⟩
   obtain ⟨_,h2⟩:=f w hw
   simpa [tqo,h68] using h2
 ·rintro ⟨a,g,⟨b,d,c,e,f⟩,h⟩
  refine ⟨⟨a,b,⟨c,d⟩,by simp,e,?_⟩,g⟩
  intro w hw
  obtain ⟨h1,h2⟩:=f w hw
  refine ⟨h1,?_⟩
  rcases h2 with ⟨h70,h2⟩ | h68
  ·simp [tqo,h70,h2]
  ·simp [tqo,h68,h ⟨w,hw,h68⟩]
end Go.VS.Sp
