import Derived.Test.YtjpdopldkeodgaaGreatV06
set_option linter.all false
namespace Go.VS.Sp
abbrev I' (n:Int):D:=.i .i64 n
structure W where
 task:Int
 op:Int
 value:Int
 prio:Int
 case:Int
 deriving DecidableEq
@[simp] theorem W.eta (w:W):W.mk w.task w.op w.value w.prio w.case=w:=rfl
def W.row (w:W):List D:=[I' w.task,I' w.op,I' w.value,I' w.prio,I' w.case]
def wbad (w:W):Bool:=(decide (w.task<0)||decide (16≤w.task)||decide (w.op<1)||decide (99<w.op)||decide (w.value < -1099511627776)||decide (1099511627776<w.value))
def wvalid (w:W):Bool:=!wbad w&&(decide (0≤w.prio)&&decide (w.prio≤9)&&decide (-1≤w.case)&&decide (w.case<6))
theorem ev_wvalid (a b c d e:Int):ev P (.call z_218 [.d (.ag [I' a,I' b,I' c,I' d,I' e])] [])=some (.val (.d (.b (wvalid ⟨a,b,c,d,e⟩))) []):=by
 rw [ev_call P_z_218 rfl]
 cases h:wbad ⟨a,b,c,d,e⟩<;>simp only [wvalid,h]<;>unfold wbad at h<;>simp [F_z_218,W.row,h]
def wcheckFrom (d:Int) (prev:Option W):List W→Int
 | []=>0
 | w::r=>if wvalid w=false then 2 else if d=2∧(prev.any fun p=>decide (p.prio<w.prio))=true then 9 else wcheckFrom d (some w) r
theorem wrap1:IntKind.i64.wrap 1=1:=by decide
theorem loop_wcheck (d:Int) (nl:Bool) (l:List W) (hn:l.length≤96):∀(suf pre:List W),l=pre++suf →
  ev P (.loop 0 [0,1,16,17,18] F_z_142_L0 [(0,.d (I' d)),(1,.d (.sl 5 nl (l.map W.row))),(16,.d (.sl 5 nl (l.map W.row))),(17,.d (I' l.length)),(18,.d (I' pre.length))] []) =
   if wcheckFrom d pre.getLast? suf=0 then some (.out (.exit 0) [] []) else some (.out .ret [(4,.d (I' (wcheckFrom d pre.getLast? suf)))] []):=by
 intro suf
 induction suf with
 | nil =>
  intro pre hl
  have:l.length=pre.length:=by simp [hl]
  rw [ev_loop]
  conv=>lhs;arg 4;unfold F_z_142_L0
  simp [this,wcheckFrom]
 | cons w suf ih =>
  intro pre hl
  have hg:l[pre.length]?=some w:=by simp [hl]
  have hlt:(pre.length:Int)<l.length:=by simp [hl];omega
  rw [ev_loop]
  conv=>lhs;arg 4;unfold F_z_142_L0
  simp [hlt,hg,W.row,ev_wvalid]
  cases hv:wvalid w
  ·simp [wcheckFrom,hv]
  ·simp
   have hnext:IntKind.i64.wrap ((pre.length:Int)+1)=pre.length+1:=wrap_i64 (by omega) (by omega)
   have ih':=ih (pre++[w]) (by simp [hl])
   simp at ih'
   rcases List.eq_nil_or_concat pre with rfl | ⟨pre',p,rfl⟩
   ·simp [wcheckFrom,hv,wrap1] at *
    exact ih'
   ·have hgp:l[pre'.length]?=some p:=by simp [hl]
    have hlen:((pre'.length:Int)+1<l.length):=by simp [hl];omega
    have hw:IntKind.i64.wrap ((pre'.length:Int)+1 - 1)=pre'.length:=by rw [wrap_i64 (by omega) (by omega)];omega
    have h0:(0:Int)<pre'.length+1:=by omega
    have hw2:IntKind.i64.wrap (pre'.length:Int)=pre'.length:=wrap_i64 (by omega) (by omega)
    have hw3:IntKind.i64.wrap ((pre'.length:Int)+1+1)=pre'.length+1+1:=wrap_i64 (by omega) (by omega)
    simp at ih'
    by_cases hd:d=2
    ·by_cases hp:p.prio<w.prio
     ·subst hd
      simp [wcheckFrom,hv,hp,hw2,hw3,hgp,W.row,h0]
     ·subst hd
      simp [wcheckFrom,hv,hp,hw2,hw3,hgp,W.row,h0]
      exact ih'
    ·have hd2:(d==2)=false:=by simp [hd]
     simp [wcheckFrom,hv,hd,hd2,hw2,hw3,hgp,W.row,h0]
     exact ih'
def wchk (l:List W):Int:=if 96<l.length then 4 else wcheckFrom 1 none l
theorem ev_wCheck (nl:Bool) (l:List W):ev P (.call z_142 [.d (I' 1),.d (.sl 5 nl (l.map W.row))] []) =
  some (.val (.d (I' (wchk l))) []):=by
 unfold wchk
 rw [ev_call P_z_142 rfl]
 by_cases h:96<l.length
 ·have h':(96:Int)<l.length:=by omega
  simp [F_z_142,h,h']
 ·have h':¬(96:Int)<l.length:=by omega
  have hl:=loop_wcheck 1 nl l (by omega) l [] rfl
  simp at hl
  simp [F_z_142,h,h',hl]
  by_cases hc:wcheckFrom 1 none l=0<;>simp [hc]
theorem allD_map':∀(ds:List D),allD (ds.map V.d)=some ds
 | []=>rfl
 | d::ds=>by simp [allD_map' ds]
theorem allD_mid {a b:List D} {x:D}:allD (a.map V.d++.d x::b.map V.d)=some (a++x::b):=by
 have:=allD_map' (a++x::b)
 simpa using this
def idx {α:Type} (p:α→Bool):Int→List α→Int
 | _,[]=>-1
 | k,w::r=>if p w then k else idx p (k+1) r
theorem loop_IndexFunc {f:Nat} {first caps:List D} {p:W→Bool} (nl:Bool) (l:List W) (hn:l.length≤1000000)
  (hp:∀a b c d e,ev P (.call f (first.map V.d++[.d (.ag [I' a,I' b,I' c,I' d,I' e])]++caps.map V.d) [])=some (.val (.d (.b (p ⟨a,b,c,d,e⟩))) [])) :
  ∀(suf pre:List W),l=pre++suf →
  ev P (.loop 0 [0,1,7,8] F_z_123_L0 [(0,.d (.sl 5 nl (l.map W.row))),(1,.d (.fn f first caps)),(7,.d (I' l.length)),(8,.d (I' pre.length))] []) =
   if idx p pre.length suf = -1 then some (.out (.exit 0) [] []) else some (.out .ret [(4,.d (I' (idx p pre.length suf)))] []):=by
 intro suf
 induction suf with
 | nil =>
  intro pre hl
  have:l.length=pre.length:=by simp [hl]
  rw [ev_loop]
  conv=>lhs;arg 4;unfold F_z_123_L0
  simp [this,idx]
 | cons w suf ih =>
  intro pre hl
  have hg:l[pre.length]?=some w:=by simp [hl]
  have hlt:(pre.length:Int)<l.length:=by simp [hl];omega
  have hnext:IntKind.i64.wrap ((pre.length:Int)+1)=pre.length+1:=wrap_i64 (by omega) (by omega)
  have ih':=ih (pre++[w]) (by simp [hl])
  simp at ih' hp
  rw [ev_loop]
  conv=>lhs;arg 4;unfold F_z_123_L0
  simp [hlt,hg,W.row,hp,allD_mid]
  cases hw:p w
  ·simp [idx,hw,hnext]
   exact ih'
  ·have:¬(pre.length:Int) = -1:=by omega
   simp [idx,hw,this]
theorem ev_IndexFunc {f:Nat} {first caps:List D} {p:W→Bool} (nl:Bool) (l:List W) (hn:l.length≤1000000)
  (hp:∀a b c d e,ev P (.call f (first.map V.d++[.d (.ag [I' a,I' b,I' c,I' d,I' e])]++caps.map V.d) [])=some (.val (.d (.b (p ⟨a,b,c,d,e⟩))) [])) :
  ev P (.call z_123 [.d (.sl 5 nl (l.map W.row)),.d (.fn f first caps)] [])=some (.val (.d (I' (idx p 0 l))) []):=by
 rw [ev_call P_z_123 rfl]
 have hl:=loop_IndexFunc nl l hn hp l [] rfl
 simp at hl
 simp [F_z_123,hl]
 by_cases hc:idx p 0 l = -1<;>simp [hc]
theorem idx_any {α:Type} {p:α→Bool}:∀{l:List α} {k:Int},0≤k→(0≤idx p k l↔l.any p=true)
 | [],k,_=>by simp [idx]
 | w::r,k,hk=>by
  by_cases hw:p w=true
  ·simp [idx,hw,hk]
  ·simp [idx,hw,idx_any (l:=r) (k:=k+1) (by omega)]
theorem ev_ContainsFunc {f:Nat} {first caps:List D} {p:W→Bool} (nl:Bool) (l:List W) (hn:l.length≤1000000)
  (hp:∀a b c d e,ev P (.call f (first.map V.d++[.d (.ag [I' a,I' b,I' c,I' d,I' e])]++caps.map V.d) [])=some (.val (.d (.b (p ⟨a,b,c,d,e⟩))) [])) :
  ev P (.call z_57 [.d (.sl 5 nl (l.map W.row)),.d (.fn f first caps)] [])=some (.val (.d (.b (l.any p))) []):=by
 rw [ev_call P_z_57 rfl]
 have hi:=ev_IndexFunc nl l hn hp
 simp [F_z_57,hi]
 have:=idx_any (p:=p) (l:=l) (k:=0) (by omega)
 cases ha:l.any p
 ·have hc:¬0≤idx p 0 l:=fun h=>by rw [this.1 h] at ha;cases ha
  simp [hc]
 ·have hc:0≤idx p 0 l:=this.2 ha
  simp [hc]
abbrev rows1 (l:List Int):List (List D):=l.map fun x=>[I' x]
abbrev hD (n:Bool) (l:List Int):D:=.sl 1 n (rows1 l)
abbrev qD (n:Bool) (l:List W):D:=.sl 5 n (l.map W.row)
def accV (es:Nat) (z:V):List (List D)→V
 | []=>z
 | r::rs=>.asl 0 0 (r::rs).length
def accH (es:Nat):List (List D)→List O
 | []=>[]
 | r::rs=>[.arrD es true (r::rs)]
theorem take_map_len {α β:Type} {f:α→β} {r:List α}:List.take r.length (r.map f)=r.map f:=List.take_of_length_le (by simp)
theorem drop_map_len {α β:Type} {f:α→β} {r:List α}:List.drop (r.length+1) (r.map f)=[]:=List.drop_eq_nil_of_le (by simp)
def fdS (q:List W) (t:Int):Int×Bool:=match q.findIdx? (fun w=>w.task==t) with | some i=>(i,true) | none=>(0,false)
theorem loop_Find (nl:Bool) (l:List W) (t:Int) (hn:l.length≤1000000):∀(suf pre:List W),l=pre++suf →
  ev P (.loop 0 [1,8,9,10] F_z_132_L0 [(1,.d (I' t)),(8,.d (qD nl l)),(9,.d (I' l.length)),(10,.d (I' pre.length))] []) =
   match suf.findIdx? (fun w=>w.task==t) with
   | none=>some (.out (.exit 0) [] [])
   | some k=>some (.out .ret [(4,.d (I' ((pre.length+k:Nat):Int))),(5,.d (.b true))] []):=by
 intro suf
 induction suf with
 | nil =>
  intro pre hl
  have:l.length=pre.length:=by simp [hl]
  rw [ev_loop]
  conv=>lhs;arg 4;unfold F_z_132_L0
  simp [this]
 | cons w suf ih =>
  intro pre hl
  have hg:l[pre.length]?=some w:=by simp [hl]
  have hlt:(pre.length:Int)<l.length:=by simp [hl];omega
  have hnext:IntKind.i64.wrap ((pre.length:Int)+1)=pre.length+1:=wrap_i64 (by omega) (by omega)
  have ih':=ih (pre++[w]) (by simp [hl])
  simp at ih'
  rw [ev_loop]
  conv=>lhs;arg 4;unfold F_z_132_L0
  rw [List.findIdx?_cons]
  cases hw:w.task==t
  ·simp [hlt,hg,W.row,hw,hnext]
   rw [ih']
   cases suf.findIdx? (fun w=>w.task==t) with
   | none=>rfl
   | some k=>simp;omega
  ·simp [hlt,hg,W.row,hw]
theorem ev_wFind (nl:Bool) (l:List W) (t:Int) (hn:l.length≤1000000) :
  ev P (.call z_132 [.d (qD nl l),.d (I' t)] [])=some (.val (.tu [.d (I' (fdS l t).1),.d (.b (fdS l t).2)]) []):=by
 rw [ev_call P_z_132 rfl]
 have hl:=loop_Find nl l t hn l [] rfl
 simp at hl
 unfold fdS
 cases h:l.findIdx? (fun w=>w.task==t) with
 | none=>rw [h] at hl;simp [F_z_132,hl]
 | some k=>rw [h] at hl;simp at hl;simp [F_z_132,hl]
theorem fd_any {q:List W} {t:Int}:(fdS q t).2=q.any fun w=>w.task==t:=by
 unfold fdS
 cases h:q.findIdx? (fun w=>w.task==t) with
 | none =>
  rw [List.findIdx?_eq_none_iff] at h
  symm
  rw [List.any_eq_false]
  intro x hx
  rw [h x hx];decide
 | some k =>
  symm
  obtain ⟨h1,h2⟩:=List.findIdx?_eq_some_iff_getElem.1 h
  exact List.any_eq_true.2 ⟨_,List.getElem_mem _,h2.1⟩
end Go.VS.Sp
namespace Go.VS.Sp
structure K where
 task:Int
 nl:Bool
 log:List Int
 deriving DecidableEq
@[simp] theorem K.eta (w:K):K.mk w.task w.nl w.log=w:=rfl
def K.row (w:K):List D:=[I' w.task,hD w.nl w.log]
abbrev cD (n:Bool) (l:List K):D:=.sl 2 n (l.map K.row)
theorem loop_IndexK {f:Nat} {first caps:List D} {p:K→Bool} (nl:Bool) (l:List K) (hn:l.length≤1000000)
  (hp:∀a b c,ev P (.call f (first.map V.d++[.d (.ag [I' a,hD b c])]++caps.map V.d) [])=some (.val (.d (.b (p ⟨a,b,c⟩))) [])) :
  ∀(suf pre:List K),l=pre++suf →
  ev P (.loop 0 [0,1,7,8] F_z_102_L0 [(0,.d (.sl 2 nl (l.map K.row))),(1,.d (.fn f first caps)),(7,.d (I' l.length)),(8,.d (I' pre.length))] []) =
   if idx p pre.length suf = -1 then some (.out (.exit 0) [] []) else some (.out .ret [(4,.d (I' (idx p pre.length suf)))] []):=by
 intro suf
 induction suf with
 | nil =>
  intro pre hl
  have:l.length=pre.length:=by simp [hl]
  rw [ev_loop]
  conv=>lhs;arg 4;unfold F_z_102_L0
  simp [this,idx]
 | cons w suf ih =>
  intro pre hl
  have hg:l[pre.length]?=some w:=by simp [hl]
  have hlt:(pre.length:Int)<l.length:=by simp [hl];omega
  have hnext:IntKind.i64.wrap ((pre.length:Int)+1)=pre.length+1:=wrap_i64 (by omega) (by omega)
  have ih':=ih (pre++[w]) (by simp [hl])
  simp at ih'
  have hp':=hp w.task w.nl w.log
  simp at hp'
  rw [ev_loop]
  conv=>lhs;arg 4;unfold F_z_102_L0
  simp [hlt,hg,K.row,hp',allD_mid]
  cases hw:p w
  ·simp [idx,hw,hnext]
   exact ih'
  ·have:¬(pre.length:Int) = -1:=by omega
   simp [idx,hw,this]
theorem ev_IndexK {f:Nat} {first caps:List D} {p:K→Bool} (nl:Bool) (l:List K) (hn:l.length≤1000000)
  (hp:∀a b c,ev P (.call f (first.map V.d++[.d (.ag [I' a,hD b c])]++caps.map V.d) [])=some (.val (.d (.b (p ⟨a,b,c⟩))) [])) :
  ev P (.call z_102 [.d (.sl 2 nl (l.map K.row)),.d (.fn f first caps)] [])=some (.val (.d (I' (idx p 0 l))) []):=by
 rw [ev_call P_z_102 rfl]
 have hl:=loop_IndexK nl l hn hp l [] rfl
 simp at hl
 simp [F_z_102,hl]
 by_cases hc:idx p 0 l = -1<;>simp [hc]
theorem ev_ContainsK {f:Nat} {first caps:List D} {p:K→Bool} (nl:Bool) (l:List K) (hn:l.length≤1000000)
  (hp:∀a b c,ev P (.call f (first.map V.d++[.d (.ag [I' a,hD b c])]++caps.map V.d) [])=some (.val (.d (.b (p ⟨a,b,c⟩))) [])) :
  ev P (.call z_241 [.d (.sl 2 nl (l.map K.row)),.d (.fn f first caps)] [])=some (.val (.d (.b (l.any p))) []):=by
 rw [ev_call P_z_241 rfl]
 have hi:=ev_IndexK nl l hn hp
 simp [F_z_241,hi]
 have:=idx_any (p:=p) (l:=l) (k:=0) (by omega)
 cases ha:l.any p
 ·have hc:¬0≤idx p 0 l:=fun h=>by rw [this.1 h] at ha;cases ha
  simp [hc]
 ·have hc:0≤idx p 0 l:=this.2 ha
  simp [hc]
def mnew (k sz ot:Int):Int:=if (k != 7)=true then 8 else if (decide (sz<0)||decide (100<sz)||ot != 0)=true then 2 else 0
def zrow:List D:=[I' 0,I' 0,I' 0,.sl 1 true [],.sl 5 true [],.sl 1 true [],.sl 2 true [],.b false,I' 0]
def frow:List D:=[I' (-1),I' 0,I' 0,.sl 1 true [],.sl 5 true [],.sl 1 true [],.sl 2 true [],.b false,I' 0]
theorem ev_mNew (nm:D) (k sz ot:Int):ev P (.call z_87 [.d (.ag [nm,I' k,I' sz,I' ot])] []) =
  some (.val (.tu [.d (.ag (if mnew k sz ot=0 then frow else zrow)),.d (I' (mnew k sz ot))]) []):=by
 rw [ev_call P_z_87 rfl]
 unfold mnew
 cases hk:k != 7
 ·cases hb:(decide (sz<0)||decide (100<sz)||ot != 0)<;>simp [F_z_87,hk,hb,frow,zrow]
 ·simp [F_z_87,hk,zrow]
def num (n:Int):Bool:=decide (-1099511627776≤n)&&decide (n≤1099511627776)
theorem ev_number (n:Int):ev P (.call z_235 [.d (I' n)] [])=some (.val (.d (.b (num n))) []):=by
 rw [ev_call P_z_235 rfl]
 unfold num
 simp [F_z_235]
theorem ev_findC1 (t a:Int) (b:Bool) (c:List Int):ev P (.call z_238 [.d (.ag [I' a,hD b c]),.d (.ref [I' t])] [])=some (.val (.d (.b (a==t))) []):=by
 rw [ev_call P_z_238 rfl]
 simp [F_z_238]
def fnd (C:List K) (t:Int):Int:=idx (fun c=>c.task==t) 0 C
theorem ev_find (d0 d1 d2 d3 d4 d5 d7 d8:D) (cn:Bool) (C:List K) (t:Int) (hn:C.length≤1000000) :
  ev P (.call z_169 [.d (.ag [d0,d1,d2,d3,d4,d5,cD cn C,d7,d8]),.d (I' t)] [])=some (.val (.d (I' (fnd C t))) []):=by
 have hI:=ev_IndexK (f:=z_238) (first:=[]) (caps:=[.ref [I' t]]) (p:=fun c=>c.task==t) cn C hn (by intro a b c;simp [ev_findC1])
 rw [ev_call P_z_169 rfl]
 unfold fnd
 generalize idx (fun c:K=>c.task==t) 0 C=r at *
 try simp at hI
 simp [F_z_169,allD,hI]
def wts (Q:List W) (t op:Int):Bool:=Q.any fun w=>w.task==t&&w.op==op
theorem ev_waitingC1 (t op a b c d e:Int):ev P (.call z_278 [.d (.ag [I' a,I' b,I' c,I' d,I' e]),.d (.ref [I' t]),.d (.ref [I' op])] [])=some (.val (.d (.b (a==t&&b==op))) []):=by
 rw [ev_call P_z_278 rfl]
 simp [F_z_278]
theorem ev_waiting (d0 d1 d2 d3 d5 d6 d7 d8:D) (qn:Bool) (Q:List W) (t op:Int) (hn:Q.length≤1000000) :
  ev P (.call z_243 [.d (.ag [d0,d1,d2,d3,qD qn Q,d5,d6,d7,d8]),.d (I' t),.d (I' op)] [])=some (.val (.d (.b (wts Q t op))) []):=by
 have hI:=ev_ContainsFunc (f:=z_278) (first:=[]) (caps:=[.ref [I' t],.ref [I' op]]) (p:=fun w=>w.task==t&&w.op==op) qn Q hn (by intro a b c d e;simp [ev_waitingC1])
 rw [ev_call P_z_243 rfl]
 unfold wts
 generalize (Q.any fun w=>w.task==t&&w.op==op)=r at *
 try simp at hI
 simp [F_z_243,allD,hI]
def fl (sz:Int) (C:List K) (Q:List W):Bool:=C.any fun c=>(c.log.length:Int)==sz&&!wts Q c.task 70
theorem ev_fullC1 (sz a:Int) (b:Bool) (c:List Int) (d0 d1 d2 d3 d5 d6 d7 d8:D) (qn:Bool) (Q:List W) (hn:Q.length≤1000000) :
  ev P (.call z_242 [.d (.ag [I' a,hD b c]),.d (.ref [I' sz]),.d (.ref [d0,d1,d2,d3,qD qn Q,d5,d6,d7,d8])] [])=some (.val (.d (.b ((c.length:Int)==sz&&!wts Q a 70))) []):=by
 have hw:=ev_waiting d0 d1 d2 d3 d5 d6 d7 d8 qn Q a 70 hn
 rw [ev_call P_z_242 rfl]
 cases h:(c.length:Int)==sz<;>simp [F_z_242,h,hw]
theorem ev_full (sz:Int) (d0 d1 d2 d3 d5 d7 d8:D) (qn:Bool) (Q:List W) (cn:Bool) (C:List K) (hn:Q.length≤1000000) (hc:C.length≤1000000) :
  ev P (.call z_174 [.d (I' sz),.d (.ag [d0,d1,d2,d3,qD qn Q,d5,cD cn C,d7,d8])] [])=some (.val (.d (.b (fl sz C Q))) []):=by
 have hI:=ev_ContainsK (f:=z_242) (first:=[]) (caps:=[.ref [I' sz],.ref [d0,d1,d2,d3,qD qn Q,d5,cD cn C,d7,d8]]) (p:=fun c=>(c.log.length:Int)==sz&&!wts Q c.task 70) cn C hc (by intro a b c;simp [ev_fullC1,hn])
 rw [ev_call P_z_174 rfl]
 unfold fl
 generalize (C.any fun c=>(c.log.length:Int)==sz&&!wts Q c.task 70)=r at *
 try simp at hI
 simp [F_z_174,allD,hI]
def kbad (sz:Int) (prev:Option K) (c:K):Bool:=decide (c.task<0)||decide (16≤c.task)||prev.any (fun p=>decide (c.task≤p.task))||decide (sz<c.log.length)
def vc (sz:Int):Option K→List K→Bool
 | _,[]=>true
 | p,c::r=>!kbad sz p c&&(c.log.all num&&vc sz (some c) r)
theorem loop_cnum (sz:D) (cn:Bool) (C:List K) (k:Int) (bn:Bool) (l:List Int) (hn:l.length≤1000000):∀(suf pre:List Int),l=pre++suf →
  ev P (.loop 0 [0,1,9,10,11,47,48,49] F_z_162_L0 [(0,.d sz),(1,.d (cD cn C)),(9,.d (cD cn C)),(10,.d (I' C.length)),(11,.d (I' k)),(47,.d (hD bn l)),(48,.d (I' l.length)),(49,.d (I' pre.length))] []) =
   if suf.all num=true then some (.out (.exit 2) [(0,.d sz),(1,.d (cD cn C)),(9,.d (cD cn C)),(10,.d (I' C.length)),(11,.d (I' k))] []) else some (.out .ret [(4,.d (.b false))] []):=by
 intro suf
 induction suf with
 | nil =>
  intro pre hl
  have:l.length=pre.length:=by simp [hl]
  rw [ev_loop]
  conv=>lhs;arg 4;unfold F_z_162_L0
  simp [this]
 | cons w suf ih =>
  intro pre hl
  have hg:l[pre.length]?=some w:=by simp [hl]
  have hlt:(pre.length:Int)<l.length:=by simp [hl];omega
  have hnext:IntKind.i64.wrap ((pre.length:Int)+1)=pre.length+1:=wrap_i64 (by omega) (by omega)
  have ih':=ih (pre++[w]) (by simp [hl])
  rw [List.all_cons]
  generalize suf.all num=dd at *
  simp at ih'
  rw [ev_loop]
  conv=>lhs;arg 4;unfold F_z_162_L0
  cases hw:num w
  ·simp [hlt,hg,ev_number,hw]
  ·simp [hlt,hg,ev_number,hw,hnext]
   exact ih'
set_option maxHeartbeats 1000000 in
theorem loop_cursors (sz:Int) (cn:Bool) (C:List K) (hn:C.length≤1000000) (hl1:∀c∈C,c.log.length≤1000000):∀(suf pre:List K),C=pre++suf →
  ev P (.loop 0 [0,1,9,10,11] F_z_162_L1 [(0,.d (I' sz)),(1,.d (cD cn C)),(9,.d (cD cn C)),(10,.d (I' C.length)),(11,.d (I' pre.length))] []) =
   if vc sz pre.getLast? suf=true then some (.out (.exit 0) [] []) else some (.out .ret [(4,.d (.b false))] []):=by
 intro suf
 induction suf with
 | nil =>
  intro pre hl
  have:C.length=pre.length:=by simp [hl]
  rw [ev_loop]
  conv=>lhs;arg 4;unfold F_z_162_L1
  simp [this,vc]
 | cons c suf ih =>
  intro pre hl
  have hg:C[pre.length]?=some c:=by simp [hl]
  have hlt:(pre.length:Int)<C.length:=by simp [hl];omega
  have ih':=ih (pre++[c]) (by simp [hl])
  have hN:=loop_cnum (I' sz) cn C pre.length c.nl c.log (hl1 c (by simp [hl])) c.log [] rfl
  have e1:vc sz pre.getLast? (c::suf)=(!kbad sz pre.getLast? c&&(c.log.all num&&vc sz (some c) suf)):=rfl
  rw [e1]
  simp only [List.getLast?_append,List.getLast?_singleton,Option.some_or] at ih'
  generalize vc sz (some c) suf=dd at *
  generalize c.log.all num=da at *
  simp at ih' hN
  rw [ev_loop]
  conv=>lhs;arg 4;unfold F_z_162_L1
  have hnext:IntKind.i64.wrap ((pre.length:Int)+1)=pre.length+1:=wrap_i64 (by omega) (by omega)
  cases h1:(decide (c.task<0)||decide (16≤c.task))
  ·rcases List.eq_nil_or_concat pre with rfl | ⟨pre',p,rfl⟩
   ·have hlt2:0<C.length:=by simp [hl]
    have hg0:C[0]=c:=by simp [hl]
    cases h2:decide (sz<c.log.length)
    ·have hk:kbad sz none c=false:=by simp only [kbad,h1,h2,Option.any_none,Bool.or_false]
     simp [wrap1] at ih' hN
     cases da
     ·simp at hN
      simp [hlt2,hg0,K.row,h1,h2,hk,hN]
     ·simp at hN
      simp [hlt2,hg0,K.row,h1,h2,hk,hN,wrap1]
      exact ih'
    ·have hk:kbad sz none c=true:=by simp only [kbad,h1,h2,Option.any_none,Bool.or_false,Bool.or_true]
     simp [hlt2,hg0,K.row,h1,h2,hk]
   ·have hgp:C[pre'.length]?=some p:=by simp [hl]
    have hlen:((pre'.length:Int)+1<C.length):=by simp [hl];omega
    have hw:IntKind.i64.wrap ((pre'.length:Int)+1 - 1)=pre'.length:=by rw [wrap_i64 (by omega) (by omega)];omega
    have h0:(0:Int)<pre'.length+1:=by omega
    have h00:(0:Int)≤pre'.length+1:=by omega
    have hw2:IntKind.i64.wrap (pre'.length:Int)=pre'.length:=wrap_i64 (by omega) (by omega)
    have hw3:IntKind.i64.wrap ((pre'.length:Int)+1+1)=pre'.length+1+1:=wrap_i64 (by omega) (by omega)
    simp only [List.concat_eq_append,List.length_append,List.length_singleton] at hg
    simp at ih' hN
    cases h3:decide (c.task≤p.task)
    ·cases h2:decide (sz<c.log.length)
     ·have hk:kbad sz (some p) c=false:=by simp only [kbad,h1,h2,h3,Option.any_some,Bool.or_false]
      cases da
      ·simp at hN
       simp [hlen,hg,hgp,hw2,h0,h00,K.row,h1,h2,h3,hk,hN]
      ·simp at hN
       simp [hlen,hg,hgp,hw2,h0,h00,K.row,h1,h2,h3,hk,hN,hw3]
       exact ih'
     ·have hk:kbad sz (some p) c=true:=by simp only [kbad,h1,h2,h3,Option.any_some,Bool.or_false,Bool.or_true]
      simp [hlen,hg,hgp,hw2,h0,h00,K.row,h1,h2,h3,hk]
    ·have hk:kbad sz (some p) c=true:=by simp only [kbad,h1,h3,Option.any_some,Bool.or_true,Bool.true_or]
     simp [hlen,hg,hgp,hw2,h0,h00,K.row,h1,h3,hk]
  ·have hk:kbad sz pre.getLast? c=true:=by simp [kbad,h1]
   simp [hlt,hg,K.row,h1,hk]
theorem ev_cursors (sz:Int) (cn:Bool) (C:List K) (hn:C.length≤1000000) (hl1:∀c∈C,c.log.length≤1000000) :
  ev P (.call z_162 [.d (I' sz),.d (cD cn C)] [])=some (.val (.d (.b (vc sz none C))) []):=by
 have hL:=loop_cursors sz cn C hn hl1 C [] rfl
 rw [ev_call P_z_162 rfl]
 generalize hv:vc sz none C=v at *
 simp [hv] at hL
 cases v<;>simp at hL<;>simp [F_z_162,hL]
end Go.VS.Sp
namespace Go.VS.Sp
theorem fd_eq {pre:List W} {w:W} {r:List W}:((fdS (pre++w::r) w.task).1==(pre.length:Int))=!pre.any (fun x=>x.task==w.task):=by
 unfold fdS
 rw [List.findIdx?_append]
 cases h:pre.findIdx? (fun x=>x.task==w.task) with
 | none =>
  have:pre.any (fun x=>x.task==w.task)=false:=by
   rw [List.any_eq_false]
   rw [List.findIdx?_eq_none_iff] at h
   intro x hx
   rw [h x hx];decide
  rw [this]
  simp [List.findIdx?_cons]
 | some k =>
  obtain ⟨h1,h2⟩:=List.findIdx?_eq_some_iff_getElem.1 h
  have:pre.any (fun x=>x.task==w.task)=true:=List.any_eq_true.2 ⟨_,List.getElem_mem _,h2.1⟩
  rw [this]
  simp
  omega
theorem wchk_zero {Q:List W} (h:wchk Q=0):Q.length≤96∧∀w,w∈Q→wvalid w=true:=by
 unfold wchk at h
 by_cases h1:96<Q.length
 ·rw [if_pos h1] at h;cases h
 ·rw [if_neg h1] at h
  refine ⟨by omega,?_⟩
  have:∀(l:List W) (p:Option W),wcheckFrom 1 p l=0→∀w,w∈l→wvalid w=true:=by
   intro l
   induction l with
   | nil=>simp
   | cons a r ih =>
    intro p h w hw
    unfold wcheckFrom at h
    cases hv:wvalid a
    ·rw [hv] at h;simp at h
    ·rw [hv] at h
     simp at h
     rcases List.mem_cons.1 hw with e | hw
     ·rw [e];exact hv
     ·exact ih _ h w hw
  exact this Q none h
theorem wvalid_task {w:W} (h:wvalid w=true):0≤w.task∧w.task<16:=by
 unfold wvalid wbad at h
 simp at h
 omega
theorem idx_spec {α:Type} {p:α→Bool}:∀(l:List α) (k:Nat),(idx p (k:Int) l = -1∧l.find? p=none)∨∃(i:Nat) (c:α),idx p (k:Int) l=((k+i:Nat):Int)∧l[i]?=some c∧l.find? p=some c
 | [],k=>.inl ⟨rfl,rfl⟩
 | a::l,k=>by
  by_cases ha:p a=true
  ·right
   exact ⟨0,a,by simp [idx,ha],by simp,by simp [ha]⟩
  ·have h:=idx_spec (p:=p) l (k+1)
   have e:((k+1:Nat):Int)=(k:Int)+1:=by omega
   rw [e] at h
   rcases h with ⟨h1,h2⟩ | ⟨i,c,h1,h2,h3⟩
   ·left
    exact ⟨by simp [idx,ha,h1],by simp [ha,h2]⟩
   ·right
    refine ⟨i+1,c,?_,by simpa using h2,by simp [ha,h3]⟩
    simp [idx,ha,h1];omega
def kfd (C:List K) (t:Int):Option K:=C.find? fun c=>c.task==t
theorem fnd_spec (C:List K) (t:Int):(fnd C t = -1∧kfd C t=none)∨∃(i:Nat) (c:K),fnd C t=(i:Int)∧C[i]?=some c∧kfd C t=some c:=by
 have h:=idx_spec (p:=fun c:K=>c.task==t) C 0
 simpa [fnd,kfd] using h
def n70 (C:List K) (w:W):Bool:=match kfd C w.task with | some c=>!decide (0<c.log.length)&&w.value==0 | none=>false
def tqo (sz:Int) (C:List K) (Q:List W) (w:W):Bool:=if w.op=70 then n70 C w else if w.op=68 then fl sz C Q else false
def tq (sz:Int) (C:List K) (Q:List W):List W→List W→Bool
 | _,[]=>true
 | pre,w::r=>!pre.any (fun x=>x.task==w.task)&&(w.case == -1&&(tqo sz C Q w&&tq sz C Q (pre++[w]) r))
theorem loop_queue (sz:Int) (d0 d1 d2 d3 d5 d7 d8:D) (qn:Bool) (Q:List W) (cn:Bool) (C:List K) (hn:Q.length≤1000000) (hc:C.length≤1000000):∀(suf pre:List W),Q=pre++suf →
  ev P (.loop 0 [0,3,15,16,17] F_z_163_L0 [(0,.d (I' sz)),(3,.d (.ref [d0,d1,d2,d3,qD qn Q,d5,cD cn C,d7,d8])),(15,.d (qD qn Q)),(16,.d (I' Q.length)),(17,.d (I' pre.length))] []) =
   if tq sz C Q pre suf=true then some (.out (.exit 0) [] []) else some (.out .ret [(4,.d (.b false))] []):=by
 intro suf
 induction suf with
 | nil =>
  intro pre hl
  have:Q.length=pre.length:=by simp [hl]
  rw [ev_loop]
  conv=>lhs;arg 4;unfold F_z_163_L0
  simp [this,tq]
 | cons w suf ih =>
  intro pre hl
  have hg:Q[pre.length]?=some w:=by simp [hl]
  have hlt:(pre.length:Int)<Q.length:=by simp [hl];omega
  have hnext:IntKind.i64.wrap ((pre.length:Int)+1)=pre.length+1:=wrap_i64 (by omega) (by omega)
  have ih':=ih (pre++[w]) (by simp [hl])
  have hF:=ev_wFind qn Q w.task hn
  have hfe:((fdS Q w.task).1==(pre.length:Int))=!pre.any (fun x=>x.task==w.task):=by rw [hl];exact fd_eq
  have hfd:=ev_find d0 d1 d2 d3 (qD qn Q) d5 d7 d8 cn C w.task hc
  have hfu:=ev_full sz d0 d1 d2 d3 d5 d7 d8 qn Q cn C hn hc
  have e1:tq sz C Q pre (w::suf)=(!pre.any (fun x=>x.task==w.task)&&(w.case == -1&&(tqo sz C Q w&&tq sz C Q (pre++[w]) suf))):=rfl
  rw [e1]
  generalize tq sz C Q (pre++[w]) suf=dd at *
  generalize (fdS Q w.task).1=fi at *
  generalize (fdS Q w.task).2=fb at *
  simp at ih'
  rw [ev_loop]
  conv=>lhs;arg 4;unfold F_z_163_L0
  cases ha:pre.any (fun x=>x.task==w.task)
  ·rw [ha] at hfe
   have hfe2:(fi != (pre.length:Int))=false:=by simp [bne,hfe]
   cases hk:w.case == -1
   ·have hk2:(w.case != -1)=true:=by simp [bne,hk]
    simp [hlt,hg,W.row,hF,hfe2,hk2]
   ·have hk2:(w.case != -1)=false:=by simp [bne,hk]
    by_cases h70:w.op=70
    ·have h70b:(w.op==70)=true:=by simp [h70]
     have e2:tqo sz C Q w=n70 C w:=by simp [tqo,h70]
     rw [e2]
     rcases fnd_spec C w.task with ⟨f1,f2⟩ | ⟨i,c,f1,f2,f3⟩
     ·have e3:n70 C w=false:=by simp [n70,f2]
      rw [f1] at hfd
      simp [hlt,hg,W.row,hF,hfe2,hk2,h70,hfd,e3]
     ·have e3:n70 C w=(!decide (0<c.log.length)&&w.value==0):=by simp only [n70,f3]
      rw [f1] at hfd
      rw [e3]
      have n1:¬((i:Int)<0):=by omega
      cases p1:decide (0<c.log.length)
      ·cases p2:w.value==0
       ·have p3:(w.value != 0)=true:=by simp [bne,p2]
        simp at p1
        simp [hlt,hg,W.row,hF,hfe2,hk2,h70,hfd,n1,f2,K.row,p1,p3]
       ·have p3:(w.value != 0)=false:=by simp [bne,p2]
        simp at p1
        simp [hlt,hg,W.row,hF,hfe2,hk2,h70,hfd,n1,f2,K.row,p1,p3,hnext]
        exact ih'
      ·simp at p1
       simp [hlt,hg,W.row,hF,hfe2,hk2,h70,hfd,n1,f2,K.row,p1]
    ·have h70b:(w.op==70)=false:=by simp [h70]
     by_cases h68:w.op=68
     ·have e2:tqo sz C Q w=fl sz C Q:=by simp [tqo,h68]
      rw [e2]
      cases hfl:fl sz C Q
      ·rw [hfl] at hfu
       simp [hlt,hg,W.row,hF,hfe2,hk2,h68,hfu]
      ·rw [hfl] at hfu
       simp [hlt,hg,W.row,hF,hfe2,hk2,h68,hfu,hnext]
       exact ih'
     ·have h68b:(w.op==68)=false:=by simp [h68]
      have e2:tqo sz C Q w=false:=by simp [tqo,h70,h68]
      rw [e2]
      simp [hlt,hg,W.row,hF,hfe2,hk2,h70b,h68b]
  ·rw [ha] at hfe
   have hfe2:(fi != (pre.length:Int))=true:=by simp [bne,hfe]
   simp [hlt,hg,W.row,hF,hfe2]
theorem ev_queue (sz:Int) (d0 d1 d2 d3 d5 d7 d8:D) (qn:Bool) (Q:List W) (cn:Bool) (C:List K) (hn:Q.length≤1000000) (hc:C.length≤1000000) :
  ev P (.call z_163 [.d (I' sz),.d (.ag [d0,d1,d2,d3,qD qn Q,d5,cD cn C,d7,d8])] [])=some (.val (.d (.b (wchk Q==0&&tq sz C Q [] Q))) []):=by
 have hL:=loop_queue sz d0 d1 d2 d3 d5 d7 d8 qn Q cn C hn hc Q [] rfl
 have hW:=ev_wCheck qn Q
 rw [ev_call P_z_163 rfl]
 generalize tq sz C Q [] Q=v at *
 simp at hL
 cases hw:wchk Q==0
 ·have hw2:(wchk Q != 0)=true:=by simp [bne,hw]
  simp [F_z_163,hW,hw2]
 ·have hw2:(wchk Q != 0)=false:=by simp [bne,hw]
  cases v<;>simp at hL<;>simp [F_z_163,hW,hw2,hL]
structure S where
 own:Int
 cnt:Int
 time:Int
 hn:Bool
 H:List Int
 qn:Bool
 Q:List W
 bn:Bool
 B:List Int
 cn:Bool
 C:List K
 cl:Bool
 val:Int
 deriving DecidableEq
abbrev S.row (s:S):List D:=[I' s.own,I' s.cnt,I' s.time,hD s.hn s.H,qD s.qn s.Q,hD s.bn s.B,cD s.cn s.C,.b s.cl,I' s.val]
def S.fl0 (s:S):Bool:=s.cnt != 0||s.time != 0||decide (0<s.H.length+s.B.length)||s.cl||s.val != 0
structure S.sm (s:S):Prop where
 h:s.H.length≤1000000
 b:s.B.length≤1000000
 q:s.Q.length≤1000000
 c:s.C.length≤1000000
 l:∀c∈s.C,c.log.length≤1000000
def S.good (sz:Int) (s:S):Bool:=s.own == -1&&(vc sz none s.C&&(wchk s.Q==0&&tq sz s.C s.Q [] s.Q))&&!s.fl0
def ckd (k sz ot:Int) (s:S):Int:=if mnew k sz ot=0 then (if s.good sz then 0 else 1) else mnew k sz ot
theorem ev_mCheck (nm:D) (k sz ot:Int) (s:S) (hs:s.sm) :
  ev P (.call z_88 [.d (.ag [nm,I' k,I' sz,I' ot]),.d (.ag s.row)] [])=some (.val (.d (I' (ckd k sz ot s))) []):=by
 have hC:=ev_cursors sz s.cn s.C hs.c hs.l
 have hQ:=ev_queue sz (I' s.own) (I' s.cnt) (I' s.time) (hD s.hn s.H) (hD s.bn s.B) (.b s.cl) (I' s.val) s.qn s.Q s.cn s.C hs.q hs.c
 have hh:=hs.h
 have hb:=hs.b
 rw [ev_call P_z_88 rfl]
 unfold ckd
 cases hm:mnew k sz ot==0
 ·have hm':mnew k sz ot≠0:=by simpa using hm
  have hm2:(mnew k sz ot != 0)=true:=by simpa using hm'
  simp [F_z_88,ev_mNew,hm',hm2,zrow]
 ·have hm':mnew k sz ot=0:=by simpa using hm
  unfold S.good
  cases ho:s.own == -1
  ·have ho2:(s.own != -1)=true:=by simp [bne,ho]
   simp [F_z_88,ev_mNew,hm',frow,ho2]
  ·have ho2:(s.own != -1)=false:=by simp [bne,ho]
   cases hv:vc sz none s.C<;>rw [hv] at hC
   ·simp [F_z_88,ev_mNew,hm',frow,ho2,hC]
   ·cases hq:(wchk s.Q==0&&tq sz s.C s.Q [] s.Q)<;>rw [hq] at hQ
    ·simp [F_z_88,ev_mNew,hm',frow,ho2,hC,hQ]
    ·have hw:IntKind.i64.wrap ((s.H.length:Int)+s.B.length)=s.H.length+s.B.length:=wrap_i64 (by omega) (by omega)
     have hd:decide ((0:Int)<(s.H.length:Int)+s.B.length)=decide (0<s.H.length+s.B.length):=by
      rw [Bool.eq_iff_iff];simp;omega
     simp [F_z_88,ev_mNew,hm',frow,ho2,hC,hQ,hw,hd]
     cases hz:(s.cnt != 0||s.time != 0||decide (0<s.H.length+s.B.length)||s.cl||s.val != 0)
     ·have hz2:s.fl0=false:=hz
      simp [hz2]
     ·have hz2:s.fl0=true:=hz
      simp [hz2]
end Go.VS.Sp
namespace Go.VS.Sp
def pub (Q:List W):Int:=idx (fun w=>w.op==68) 0 Q
end Go.VS.Sp
namespace Go.VS.Sp
def rqo (C:List K) (w:W):Bool:=(w.op==70||w.op==68)&&(if w.op=70 then n70 C w else true)
def rq (C:List K):List W→List W→Bool
 | _,[]=>true
 | pre,w::r=>!pre.any (fun x=>x.task==w.task)&&(w.case == -1&&(rqo C w&&rq C (pre++[w]) r))
theorem pub_neg {Q:List W}:decide (pub Q<0)=!Q.any fun w=>w.op==68:=by
 have:=idx_any (p:=fun w:W=>w.op==68) (l:=Q) (k:=0) (by omega)
 unfold pub
 cases h:Q.any fun w=>w.op==68
 ·rw [h] at this
  have h2:¬0≤idx (fun w:W=>w.op==68) 0 Q:=fun x=>by simpa using this.1 x
  simp;omega
 ·have:=this.2 h
  simp;omega
end Go.VS.Sp
namespace Go.VS.Sp
def nwA (K k sz ot:Int):Int:=if (k != K)=true then 8 else if (sz != 0||ot != 0)=true then 2 else 0
def nwS (k sz ot:Int):Int:=if (k != 4)=true then 8 else if (decide (sz<1)||decide (100<sz)||(ot != 0&&ot != 1))=true then 2 else 0
def nwB (k sz ot:Int):Int:=if (k != 5)=true then 8 else if (decide (sz<1)||decide (100<sz)||ot != 0)=true then 2 else 0
def nwC (k sz ot:Int):Int:=if (k != 6)=true then 8 else if (decide (sz<0)||decide (100<sz)||ot != 0)=true then 2 else 0
def nwL (k sz ot:Int):Int:=if (k != 8)=true then 8 else if (decide (sz<1)||decide (100<sz)||decide (ot<1)||decide (1099511627776<ot))=true then 2 else 0
def grow (n:Int):List D:=[I' (-1),I' n,I' 0,.sl 1 true [],.sl 5 true [],.sl 1 true [],.sl 2 true [],.b false,I' 0]
abbrev nwR (e:Int) (r:List D):Option Res:=some (.val (.tu [.d (.ag (if e=0 then r else zrow)),.d (I' e)]) [])
theorem ev_nwM (nm:D) (k sz ot:Int):ev P (.call z_62 [.d (.ag [nm,I' k,I' sz,I' ot])] [])=nwR (nwA 1 k sz ot) frow:=by
 rw [ev_call P_z_62 rfl]
 unfold nwA
 cases hk:k != 1
 ·cases hb:(sz != 0||ot != 0)<;>simp [F_z_62,hk,hb,frow,zrow]
 ·simp [F_z_62,hk,zrow]
theorem ev_nwW (nm:D) (k sz ot:Int):ev P (.call z_67 [.d (.ag [nm,I' k,I' sz,I' ot])] [])=nwR (nwA 2 k sz ot) frow:=by
 rw [ev_call P_z_67 rfl]
 unfold nwA
 cases hk:k != 2
 ·cases hb:(sz != 0||ot != 0)<;>simp [F_z_67,hk,hb,frow,zrow]
 ·simp [F_z_67,hk,zrow]
theorem ev_nwF (nm:D) (k sz ot:Int):ev P (.call z_97 [.d (.ag [nm,I' k,I' sz,I' ot])] [])=nwR (nwA 9 k sz ot) frow:=by
 rw [ev_call P_z_97 rfl]
 unfold nwA
 cases hk:k != 9
 ·cases hb:(sz != 0||ot != 0)<;>simp [F_z_97,hk,hb,frow,zrow]
 ·simp [F_z_97,hk,zrow]
theorem ev_nwS (nm:D) (k sz ot:Int):ev P (.call z_72 [.d (.ag [nm,I' k,I' sz,I' ot])] [])=nwR (nwS k sz ot) (grow sz):=by
 rw [ev_call P_z_72 rfl]
 unfold nwS
 cases hk:k != 4
 ·cases hb:(decide (sz<1)||decide (100<sz)||(ot != 0&&ot != 1))<;>simp [F_z_72,hk,hb,grow,zrow]
 ·simp [F_z_72,hk,zrow]
theorem ev_nwB (nm:D) (k sz ot:Int):ev P (.call z_77 [.d (.ag [nm,I' k,I' sz,I' ot])] [])=nwR (nwB k sz ot) frow:=by
 rw [ev_call P_z_77 rfl]
 unfold nwB
 cases hk:k != 5
 ·cases hb:(decide (sz<1)||decide (100<sz)||ot != 0)<;>simp [F_z_77,hk,hb,frow,zrow]
 ·simp [F_z_77,hk,zrow]
theorem ev_nwC (nm:D) (k sz ot:Int):ev P (.call z_82 [.d (.ag [nm,I' k,I' sz,I' ot])] [])=nwR (nwC k sz ot) frow:=by
 rw [ev_call P_z_82 rfl]
 unfold nwC
 cases hk:k != 6
 ·cases hb:(decide (sz<0)||decide (100<sz)||ot != 0)<;>simp [F_z_82,hk,hb,frow,zrow]
 ·simp [F_z_82,hk,zrow]
theorem ev_nwL (nm:D) (k sz ot:Int):ev P (.call z_92 [.d (.ag [nm,I' k,I' sz,I' ot])] [])=nwR (nwL k sz ot) (grow sz):=by
 rw [ev_call P_z_92 rfl]
 unfold nwL
 cases hk:k != 8
 ·cases hb:(decide (sz<1)||decide (100<sz)||decide (ot<1)||decide (1099511627776<ot))<;>simp [F_z_92,hk,hb,grow,zrow]
 ·simp [F_z_92,hk,zrow]
end Go.VS.Sp
namespace Go.VS.Sp
theorem loop_SameInts (n1 n2:Bool) (l m:List Int) (hn:l.length≤1000000) (hm:l.length=m.length):∀(suf suf' pre:List Int),l=pre++suf→m=pre++suf' →
  ev P (.loop 0 [0,1,5] F_z_42_L0 [(0,.d (hD n1 l)),(1,.d (hD n2 m)),(5,.d (I' pre.length))] []) =
   if suf=suf' then some (.out (.exit 0) [] []) else some (.out .ret [(4,.d (.b false))] []):=by
 intro suf
 induction suf with
 | nil =>
  intro suf' pre hl hl'
  have h1:l.length=pre.length:=by simp [hl]
  have:suf'=[]:=by
   have h2:m.length=pre.length+suf'.length:=by simp [hl']
   exact List.length_eq_zero_iff.1 (by omega)
  subst this
  rw [ev_loop]
  conv=>lhs;arg 4;unfold F_z_42_L0
  simp [h1]
 | cons w suf ih =>
  intro suf' pre hl hl'
  have hg:l[pre.length]?=some w:=by simp [hl]
  have hlt:(pre.length:Int)<l.length:=by simp [hl];omega
  have hnext:IntKind.i64.wrap ((pre.length:Int)+1)=pre.length+1:=wrap_i64 (by omega) (by omega)
  cases suf' with
  | nil=>exfalso;simp [hl,hl'] at hm
  | cons w' suf' =>
  have hg':m[pre.length]?=some w':=by simp [hl']
  rw [ev_loop]
  conv=>lhs;arg 4;unfold F_z_42_L0
  by_cases hw:w=w'
  ·subst hw
   have ih':=ih suf' (pre++[w]) (by simp [hl]) (by simp [hl'])
   simp at ih'
   simp [hlt,hg,hg',hnext]
   exact ih'
  ·have hw2:(w != w')=true:=by simpa using hw
   simp [hlt,hg,hg',hw2,hw]
theorem ev_SameInts (n1 n2:Bool) (l m:List Int) (hn:l.length≤1000000) :
  ev P (.call z_42 [.d (hD n1 l),.d (hD n2 m)] [])=some (.val (.d (.b (l==m))) []):=by
 rw [ev_call P_z_42 rfl]
 by_cases hlen:l.length=m.length
 ·have hl:=loop_SameInts n1 n2 l m hn hlen l m [] rfl rfl
  simp at hl
  have:((l.length:Int) != m.length)=false:=by simp [hlen]
  simp [F_z_42,this]
  simp [hl]
  by_cases h:l=m<;>simp [h]
 ·have:((l.length:Int) != m.length)=true:=by simp;omega
  have h2:¬l=m:=fun h=>hlen (by rw [h])
  simp [F_z_42,this,h2]
theorem W.neq {w w':W} (h:¬w=w'):(!w.task==w'.task||(!w.op==w'.op||(!w.value==w'.value||(!w.prio==w'.prio||!w.case==w'.case))))=true:=by
 cases hb:(!w.task==w'.task||(!w.op==w'.op||(!w.value==w'.value||(!w.prio==w'.prio||!w.case==w'.case))))
 ·exfalso;apply h
  simp at hb
  cases w;cases w';simp at hb ⊢;exact hb
 ·rfl
theorem loop_SameW16 (n1 n2:Bool) (l m:List W) (hn:l.length≤1000000) (hm:l.length=m.length):∀(suf suf' pre:List W),l=pre++suf→m=pre++suf' →
  ev P (.loop 0 [0,1,5] F_z_43_L0 [(0,.d (qD n1 l)),(1,.d (qD n2 m)),(5,.d (I' pre.length))] []) =
   if suf=suf' then some (.out (.exit 0) [] []) else some (.out .ret [(4,.d (.b false))] []):=by
 intro suf
 induction suf with
 | nil =>
  intro suf' pre hl hl'
  have h1:l.length=pre.length:=by simp [hl]
  have:suf'=[]:=by
   have h2:m.length=pre.length+suf'.length:=by simp [hl']
   exact List.length_eq_zero_iff.1 (by omega)
  subst this
  rw [ev_loop]
  conv=>lhs;arg 4;unfold F_z_43_L0
  simp [h1]
 | cons w suf ih =>
  intro suf' pre hl hl'
  have hg:l[pre.length]?=some w:=by simp [hl]
  have hlt:(pre.length:Int)<l.length:=by simp [hl];omega
  have hnext:IntKind.i64.wrap ((pre.length:Int)+1)=pre.length+1:=wrap_i64 (by omega) (by omega)
  cases suf' with
  | nil=>exfalso;simp [hl,hl'] at hm
  | cons w' suf' =>
  have hg':m[pre.length]?=some w':=by simp [hl']
  rw [ev_loop]
  conv=>lhs;arg 4;unfold F_z_43_L0
  by_cases hw:w=w'
  ·subst hw
   have ih':=ih suf' (pre++[w]) (by simp [hl]) (by simp [hl'])
   simp at ih'
   simp [hlt,hg,hg',hnext,W.row]
   exact ih'
  ·have hw2:=W.neq hw
   simp [hlt,hg,hg',hw2,hw,W.row]
theorem ev_SameW16 (n1 n2:Bool) (l m:List W) (hn:l.length≤1000000) :
  ev P (.call z_43 [.d (qD n1 l),.d (qD n2 m)] [])=some (.val (.d (.b (l==m))) []):=by
 rw [ev_call P_z_43 rfl]
 by_cases hlen:l.length=m.length
 ·have hl:=loop_SameW16 n1 n2 l m hn hlen l m [] rfl rfl
  simp at hl
  have:((l.length:Int) != m.length)=false:=by simp [hlen]
  simp [F_z_43,this]
  simp [hl]
  by_cases h:l=m<;>simp [h]
 ·have:((l.length:Int) != m.length)=true:=by simp;omega
  have h2:¬l=m:=fun h=>hlen (by rw [h])
  simp [F_z_43,this,h2]
def K.pl (c:K):K:=⟨c.task,false,c.log⟩
theorem loop_sameCursors (n1 n2:Bool) (l m:List K) (hn:l.length≤1000000) (hk:∀c∈l,c.log.length≤1000000) (hm:l.length=m.length):∀(suf suf' pre pre':List K),l=pre++suf→m=pre'++suf'→pre'.length=pre.length →
  ev P (.loop 0 [0,1,5] F_z_44_L0 [(0,.d (cD n1 l)),(1,.d (cD n2 m)),(5,.d (I' pre.length))] []) =
   if (suf.map K.pl==suf'.map K.pl)=true then some (.out (.exit 0) [] []) else some (.out .ret [(4,.d (.b false))] []):=by
 intro suf
 induction suf with
 | nil =>
  intro suf' pre pre' hl hl' hp
  have h1:l.length=pre.length:=by simp [hl]
  have:suf'=[]:=by
   have h2:m.length=pre'.length+suf'.length:=by simp [hl']
   exact List.length_eq_zero_iff.1 (by omega)
  subst this
  rw [ev_loop]
  conv=>lhs;arg 4;unfold F_z_44_L0
  simp [h1]
 | cons w suf ih =>
  intro suf' pre pre' hl hl' hp
  have hg:l[pre.length]?=some w:=by simp [hl]
  have hlt:(pre.length:Int)<l.length:=by simp [hl];omega
  have hnext:IntKind.i64.wrap ((pre.length:Int)+1)=pre.length+1:=wrap_i64 (by omega) (by omega)
  cases suf' with
  | nil=>exfalso;simp [hl,hl'] at hm;omega
  | cons w' suf' =>
  have hg':m[pre.length]?=some w':=by rw [←hp];simp [hl']
  have e:((w::suf).map K.pl==(w'::suf').map K.pl)=(w.task==w'.task&&(w.log==w'.log&&suf.map K.pl==suf'.map K.pl)):=by
   rw [Bool.eq_iff_iff];simp [K.pl,and_assoc]
  have hS:=ev_SameInts w.nl w'.nl w.log w'.log (hk w (by simp [hl]))
  have ih':=ih suf' (pre++[w]) (pre'++[w']) (by simp [hl]) (by simp [hl']) (by simp [hp])
  rw [e]
  generalize (suf.map K.pl==suf'.map K.pl)=pp at *
  generalize (w.log==w'.log)=ll at *
  simp at ih'
  rw [ev_loop]
  conv=>lhs;arg 4;unfold F_z_44_L0
  cases hw:w.task==w'.task
  ·have hw2:(w.task != w'.task)=true:=by simp [bne,hw]
   simp [hlt,hg,hg',hw2,K.row]
  ·have hw2:(w.task != w'.task)=false:=by simp [bne,hw]
   cases ll
   ·simp [hlt,hg,hg',hw2,K.row,hS]
   ·simp [hlt,hg,hg',hw2,K.row,hS,hnext]
    exact ih'
theorem ev_sameCursors (n1 n2:Bool) (l m:List K) (hn:l.length≤1000000) (hk:∀c∈l,c.log.length≤1000000) :
  ev P (.call z_44 [.d (cD n1 l),.d (cD n2 m)] [])=some (.val (.d (.b (l.map K.pl==m.map K.pl))) []):=by
 rw [ev_call P_z_44 rfl]
 by_cases hlen:l.length=m.length
 ·have hl:=loop_sameCursors n1 n2 l m hn hk hlen l m [] [] rfl rfl rfl
  generalize (l.map K.pl==m.map K.pl)=bb at *
  simp at hl
  have:((l.length:Int) != m.length)=false:=by simp [hlen]
  simp [F_z_44,this]
  cases bb<;>simp at hl<;>simp [hl]
 ·have:((l.length:Int) != m.length)=true:=by simp;omega
  have h2:¬l.map K.pl=m.map K.pl:=fun h=>hlen (by simpa using congrArg List.length h)
  simp only [beq_eq_false_iff_ne.2 h2]
  simp [F_z_44,this]
def S.pl (s:S):S:=⟨s.own,s.cnt,s.time,false,s.H,false,s.Q,false,s.B,false,s.C.map K.pl,s.cl,s.val⟩
theorem ev_Same (a b:S) (ha:a.sm):ev P (.call z_17 [.d (.ag a.row),.d (.ag b.row)] [])=some (.val (.d (.b (a.pl==b.pl))) []):=by
 rw [ev_call P_z_17 rfl]
 have e1:=ev_SameInts a.hn b.hn a.H b.H ha.h
 have e2:=ev_SameInts a.bn b.bn a.B b.B ha.b
 have e3:=ev_SameW16 a.qn b.qn a.Q b.Q ha.q
 have e4:=ev_sameCursors a.cn b.cn a.C b.C ha.c ha.l
 have e:(a.pl==b.pl)=(!(a.own != b.own||a.cnt != b.cnt||a.time != b.time||!a.cl==b.cl||a.val != b.val)&&(a.H==b.H&&a.B==b.B&&a.Q==b.Q&&a.C.map K.pl==b.C.map K.pl)):=by
  rw [Bool.eq_iff_iff];simp [S.pl];grind
 rw [e]
 generalize (a.C.map K.pl==b.C.map K.pl)=b4 at *
 generalize (a.Q==b.Q)=b3 at *
 generalize (a.B==b.B)=b2 at *
 generalize (a.H==b.H)=b1 at *
 cases hA:(a.own != b.own||a.cnt != b.cnt||a.time != b.time||!a.cl==b.cl||a.val != b.val)
 ·simp [F_z_17,hA,e1,e2,e3,e4]
 ·simp [F_z_17,hA]
def S.great (s:S):Bool:=(decide ((40:Int)<s.H.length)||decide ((40:Int)<s.Q.length)||decide ((120:Int)<s.B.length)||decide ((40:Int)<s.C.length))||s.C.any fun c=>decide (120<c.log.length)
theorem loop_Great (s:S) (hn:s.C.length≤1000000):∀(suf pre:List K),s.C=pre++suf →
  ev P (.loop 0 [1,3] F_z_13_L0 [(1,.d (.ref s.row)),(3,.d (I' pre.length))] []) =
   if (suf.any fun c=>decide (120<c.log.length))=true then some (.out .ret [(2,.d (.b true))] []) else some (.out (.exit 0) [] []):=by
 intro suf
 induction suf with
 | nil =>
  intro pre hl
  have:s.C.length=pre.length:=by simp [hl]
  rw [ev_loop]
  conv=>lhs;arg 4;unfold F_z_13_L0
  simp [this]
 | cons w suf ih =>
  intro pre hl
  have hg:s.C[pre.length]?=some w:=by simp [hl]
  have hlt:(pre.length:Int)<s.C.length:=by simp [hl];omega
  have hnext:IntKind.i64.wrap ((pre.length:Int)+1)=pre.length+1:=wrap_i64 (by omega) (by omega)
  have ih':=ih (pre++[w]) (by simp [hl])
  rw [List.any_cons]
  generalize (suf.any fun c=>decide (120<c.log.length))=dd at *
  simp at ih'
  rw [ev_loop]
  conv=>lhs;arg 4;unfold F_z_13_L0
  by_cases hb:120<w.log.length
  ·have hb':(120:Int)<w.log.length:=by omega
   simp [hlt,hg,K.row,hb',hb]
  ·have hb':¬(120:Int)<w.log.length:=by omega
   simp [hlt,hg,K.row,hb',hb,hnext]
   exact ih'
theorem ev_Great (s:S):ev P (.call z_13 [.d (.ag s.row)] [])=some (.val (.d (.b s.great)) []):=by
 rw [ev_call P_z_13 rfl]
 cases hA:(decide ((40:Int)<s.H.length)||decide ((40:Int)<s.Q.length)||decide ((120:Int)<s.B.length)||decide ((40:Int)<s.C.length))
 ·have hlen:s.C.length≤1000000:=by simp at hA;omega
  have hl:=loop_Great s hlen s.C [] rfl
  have hS:s.great=(s.C.any fun c=>decide (120<c.log.length)):=by simp only [S.great,hA,Bool.false_or]
  rw [hS]
  generalize (s.C.any fun c=>decide (120<c.log.length))=dd at *
  simp at hl
  cases dd<;>simp at hl<;>simp [F_z_13,hA,hl]
 ·have hS:s.great=true:=by simp only [S.great,hA,Bool.true_or]
  rw [hS]
  simp [F_z_13,hA]
def isTask (n:Int):Bool:=decide (0≤n)&&decide (n<16)
end Go.VS.Sp
namespace Go.VS.Sp
def ck (n:Int) (b:Bool):Int:=if n=0 then (if b then 0 else 1) else n
theorem ev_wC0 (nl:Bool):ev P (.call z_142 [.d (I' 1),.d (qD nl [])] [])=some (.val (.d (I' 0)) []):=by
 exact ev_wCheck nl []
theorem ev_wC2 (nl:Bool):ev P (.call z_142 [.d (I' 2),.d (qD nl [])] [])=some (.val (.d (I' 0)) []):=by
 have hl:ev P (.loop 0 [0,1,16,17,18] F_z_142_L0 [(0,.d (I' 2)),(1,.d (qD nl [])),(16,.d (qD nl [])),(17,.d (I' 0)),(18,.d (I' 0))] [])=some (.out (.exit 0) [] []) :=
  loop_wcheck 2 nl [] (by simp) [] [] rfl
 rw [ev_call P_z_142 rfl]
 simp [F_z_142,hl]
theorem len3 (H B:List Int) (C:List K):decide ((0:Int)<(H.length:Int)+B.length+C.length)=!(H.isEmpty&&(B.isEmpty&&C.isEmpty)):=by
 cases H<;>cases B<;>cases C<;>simp<;>omega
theorem len2 (H:List Int) (C:List K):decide ((0:Int)<(H.length:Int)+C.length)=!(H.isEmpty&&C.isEmpty):=by
 cases H<;>cases C<;>simp<;>omega
theorem len1 {α:Type} (H:List α):decide (0<H.length)=!H.isEmpty:=by
 cases H<;>simp
def bare (own cnt time:Int) (qn:Bool):S:=⟨own,cnt,time,true,[],qn,[],true,[],true,[],false,0⟩
theorem ev_isTaskM (n:Int):ev P (.call z_127 [.d (I' n)] [])=some (.val (.d (.b (isTask n))) []):=by
 rw [ev_call P_z_127 rfl]
 simp [F_z_127,isTask]
def okM (s:S):Bool:=!(s.own != -1&&!isTask s.own)&&!(s.cnt != 0||s.time != 0||s.val != 0||s.cl||decide ((0:Int)<(s.H.length:Int)+s.B.length+s.C.length))
theorem ev_vM (s:S) (hq:s.Q=[]) (hs:s.sm):ev P (.call z_125 [.d (.ag s.row)] [])=some (.val (.d (.b (okM s))) []):=by
 obtain ⟨own,cnt,time,hn,H,qn,Q,bn,B,cn,C,cl,val⟩:=s
 simp only at hq
 subst hq
 obtain ⟨h1,h2,h3,h4,_⟩:=hs
 simp only at h1 h2 h4
 have hw1:IntKind.i64.wrap ((H.length:Int)+B.length)=H.length+B.length:=wrap_i64 (by omega) (by omega)
 have hw2:IntKind.i64.wrap ((H.length:Int)+B.length+C.length)=H.length+B.length+C.length:=wrap_i64 (by omega) (by omega)
 have hl:∀row:List D,ev P (.loop 0 [1,61,62,63] F_z_125_L0 [(1,.d (.ref row)),(61,.d (qD qn [])),(62,.d (I' 0)),(63,.d (I' 0))] [])=some (.out (.exit 0) [] []):=by
  intro row
  rw [ev_loop]
  conv=>lhs;arg 4;unfold F_z_125_L0
  simp
 rw [ev_call P_z_125 rfl]
 unfold okM
 cases hA:(own != -1&&!isTask own)
 ·cases hB:(cnt != 0||time != 0||val != 0||cl||decide ((0:Int)<(H.length:Int)+B.length+C.length))
  ·simp [F_z_125,ev_isTaskM,hA,hw1,hw2,hB,ev_wC2,hl]
  ·simp [F_z_125,ev_isTaskM,hA,hw1,hw2,hB]
 ·simp [F_z_125,ev_isTaskM,hA]
theorem ev_ckM (nm:D) (k sz ot:Int) (s:S) (hq:s.Q=[]) (hs:s.sm) :
  ev P (.call z_63 [.d (.ag [nm,I' k,I' sz,I' ot]),.d (.ag s.row)] [])=some (.val (.d (I' (ck (nwA 1 k sz ot) (okM s)))) []):=by
 have hv:=ev_vM s hq hs
 rw [ev_call P_z_63 rfl]
 unfold ck
 cases hm:nwA 1 k sz ot==0
 ·have hm':nwA 1 k sz ot≠0:=by simpa using hm
  have hm2:(nwA 1 k sz ot != 0)=true:=by simpa using hm'
  simp [F_z_63,ev_nwM,hm',hm2,zrow]
 ·have hm':nwA 1 k sz ot=0:=by simpa using hm
  generalize okM s=b at *
  simp [F_z_63,ev_nwM,hm',frow,hv]
  cases b<;>simp
def okS (sz:Int) (s:S):Bool:=!(s.own != -1||decide (s.cnt<0)||decide (sz<s.cnt))&&!(s.time != 0||decide ((0:Int)<(s.H.length:Int)+s.B.length+s.C.length)||s.cl||s.val != 0)
theorem ev_ckS (nm:D) (k sz ot:Int) (s:S) (hq:s.Q=[]) (hs:s.sm) :
  ev P (.call z_73 [.d (.ag [nm,I' k,I' sz,I' ot]),.d (.ag s.row)] [])=some (.val (.d (I' (ck (nwS k sz ot) (okS sz s)))) []):=by
 obtain ⟨own,cnt,time,hn,H,qn,Q,bn,B,cn,C,cl,val⟩:=s
 simp only at hq
 subst hq
 obtain ⟨h1,h2,h3,h4,_⟩:=hs
 simp only at h1 h2 h4
 have hw1:IntKind.i64.wrap ((H.length:Int)+B.length)=H.length+B.length:=wrap_i64 (by omega) (by omega)
 have hw2:IntKind.i64.wrap ((H.length:Int)+B.length+C.length)=H.length+B.length+C.length:=wrap_i64 (by omega) (by omega)
 have hl:∀(o row:List D),ev P (.loop 0 [2,3,39,40] F_z_73_L0 [(2,.d (.ref o)),(3,.d (.ref row)),(39,.d (I' 0)),(40,.d (I' 0))] [])=some (.out (.exit 0) [(3,.d (.ref row))] []):=by
  intro o row
  rw [ev_loop]
  conv=>lhs;arg 4;unfold F_z_73_L0
  simp
 rw [ev_call P_z_73 rfl]
 unfold ck okS
 cases hm:nwS k sz ot==0
 ·have hm':nwS k sz ot≠0:=by simpa using hm
  have hm2:(nwS k sz ot != 0)=true:=by simpa using hm'
  simp [F_z_73,ev_nwS,hm',hm2,zrow]
 ·have hm':nwS k sz ot=0:=by simpa using hm
  cases hA:(own != -1||decide (cnt<0)||decide (sz<cnt))
  ·cases hB:(time != 0||decide ((0:Int)<(H.length:Int)+B.length+C.length)||cl||val != 0)
   ·simp [F_z_73,ev_nwS,hm',grow,hA,hw1,hw2,hB,ev_wC0,hl]
   ·simp [F_z_73,ev_nwS,hm',grow,hA,hw1,hw2,hB,ev_wC0,hl]
  ·simp [F_z_73,ev_nwS,hm',grow,hA]
def okB (s:S):Bool:=!(s.own != -1||decide (s.cnt<0)||decide (1099511627776<s.cnt))&&!(s.time != 0||s.val != 0||s.cl||decide ((0:Int)<(s.H.length:Int)+s.B.length+s.C.length))
theorem nwB_sz {k sz ot:Int} (h:nwB k sz ot=0):¬sz≤0:=by
 unfold nwB at h
 split at h
 ·simp at h
 ·split at h
  ·simp at h
  ·rename_i h2
   simp at h2
   omega
theorem ev_ckB (nm:D) (k sz ot:Int) (s:S) (hq:s.Q=[]) (hs:s.sm) :
  ev P (.call z_78 [.d (.ag [nm,I' k,I' sz,I' ot]),.d (.ag s.row)] [])=some (.val (.d (I' (ck (nwB k sz ot) (okB s)))) []):=by
 obtain ⟨own,cnt,time,hn,H,qn,Q,bn,B,cn,C,cl,val⟩:=s
 simp only at hq
 subst hq
 obtain ⟨h1,h2,h3,h4,_⟩:=hs
 simp only at h1 h2 h4
 have hw1:IntKind.i64.wrap ((H.length:Int)+B.length)=H.length+B.length:=wrap_i64 (by omega) (by omega)
 have hw2:IntKind.i64.wrap ((H.length:Int)+B.length+C.length)=H.length+B.length+C.length:=wrap_i64 (by omega) (by omega)
 have hl:∀(row:List D),ev P (.loop 0 [3,71,72,73] F_z_78_L0 [(3,.d (.ref row)),(71,.d (qD qn [])),(72,.d (I' 0)),(73,.d (I' 0))] [])=some (.out (.exit 0) [] []):=by
  intro row
  rw [ev_loop]
  conv=>lhs;arg 4;unfold F_z_78_L0
  simp
 rw [ev_call P_z_78 rfl]
 unfold ck okB
 cases hm:nwB k sz ot==0
 ·have hm':nwB k sz ot≠0:=by simpa using hm
  have hm2:(nwB k sz ot != 0)=true:=by simpa using hm'
  simp [F_z_78,ev_nwB,hm',hm2,zrow]
 ·have hm':nwB k sz ot=0:=by simpa using hm
  have hz:=nwB_sz hm'
  cases hA:(own != -1||decide (cnt<0)||decide (1099511627776<cnt))
  ·cases hB:(time != 0||val != 0||cl||decide ((0:Int)<(H.length:Int)+B.length+C.length))
   ·simp [F_z_78,ev_nwB,hm',hz,frow,hA,hw1,hw2,hB,ev_wC0,hl]
   ·simp [F_z_78,ev_nwB,hm',hz,frow,hA,hw1,hw2,hB,ev_wC0,hl]
  ·simp [F_z_78,ev_nwB,hm',hz,frow,hA]
end Go.VS.Sp
namespace Go.VS.Sp
theorem ev_isTaskW (n:Int):ev P (.call z_131 [.d (I' n)] [])=some (.val (.d (.b (isTask n))) []):=by
 rw [ev_call P_z_131 rfl]
 simp [F_z_131,isTask]
def okH:Option Int→List Int→Bool
 | _,[]=>true
 | p,t::r=>!(!isTask t||p.any fun q=>decide (t≤q))&&okH (some t) r
def okWb (s:S):Bool:=(s.own != -1&&(!isTask s.own||decide (0<s.H.length)))||s.cnt != 0||s.time != 0||decide (0<s.B.length)||decide (0<s.C.length)||s.cl||s.val != 0
def okW (s:S):Bool:=!okWb s&&okH none s.H
theorem loop_vW {own cnt time val:Int} {hn qn bn cn cl:Bool} {H B:List Int} {C:List K} (hn1:H.length≤1000000):∀(suf pre:List Int),H=pre++suf →
  ev P (.loop 0 [1,52,53,54] F_z_130_L0 [(1,.d (.ref [I' own,I' cnt,I' time,hD hn H,qD qn [],hD bn B,cD cn C,.b cl,I' val])),(52,.d (hD hn H)),(53,.d (I' H.length)),(54,.d (I' pre.length))] []) =
   if okH pre.getLast? suf=true then some (.out (.exit 0) [(1,.d (.ref [I' own,I' cnt,I' time,hD hn H,qD qn [],hD bn B,cD cn C,.b cl,I' val]))] []) else some (.out .ret [(2,.d (.b false))] []):=by
 intro suf
 induction suf with
 | nil =>
  intro pre hl
  have:H.length=pre.length:=by simp [hl]
  rw [ev_loop]
  conv=>lhs;arg 4;unfold F_z_130_L0
  simp [this,okH]
 | cons t suf ih =>
  intro pre hl
  have hg:H[pre.length]?=some t:=by simp [hl]
  have hlt:(pre.length:Int)<H.length:=by simp [hl];omega
  have ih':=ih (pre++[t]) (by simp [hl])
  have e1:okH pre.getLast? (t::suf)=(!(!isTask t||pre.getLast?.any fun q=>decide (t≤q))&&okH (some t) suf):=rfl
  rw [e1]
  simp only [List.getLast?_append,List.getLast?_singleton,Option.some_or] at ih'
  generalize okH (some t) suf=dd at *
  simp at ih'
  rw [ev_loop]
  conv=>lhs;arg 4;unfold F_z_130_L0
  cases h1:isTask t
  ·simp [hlt,hg,ev_isTaskW,h1]
  ·rcases List.eq_nil_or_concat pre with rfl | ⟨pre',p,rfl⟩
   ·have hlt2:0<H.length:=by simp [hl]
    have hg0:H[0]=t:=by simp [hl]
    simp [wrap1] at ih'
    simp [hlt2,hg0,ev_isTaskW,h1,wrap1]
    exact ih'
   ·have hgp:H[pre'.length]?=some p:=by simp [hl]
    have hlen:((pre'.length:Int)+1<H.length):=by simp [hl];omega
    have hw:IntKind.i64.wrap ((pre'.length:Int)+1 - 1)=pre'.length:=by rw [wrap_i64 (by omega) (by omega)];omega
    have h0:(0:Int)<pre'.length+1:=by omega
    have h00:(0:Int)≤pre'.length+1:=by omega
    have hw2:IntKind.i64.wrap (pre'.length:Int)=pre'.length:=wrap_i64 (by omega) (by omega)
    have hw3:IntKind.i64.wrap ((pre'.length:Int)+1+1)=pre'.length+1+1:=wrap_i64 (by omega) (by omega)
    simp only [List.concat_eq_append,List.length_append,List.length_singleton] at hg
    simp at ih'
    cases h3:decide (t≤p)
    ·simp [hlen,hg,hgp,hw2,h0,h00,ev_isTaskW,h1,h3,hw3]
     exact ih'
    ·simp [hlen,hg,hgp,hw2,h0,h00,ev_isTaskW,h1,h3]
theorem ev_quW {own cnt time val:Int} {hn qn bn cn cl:Bool} {H B:List Int} {C:List K}:ev P (.call z_213 [.d (.ag [I' own,I' cnt,I' time,hD hn H,qD qn [],hD bn B,cD cn C,.b cl,I' val])] [])=some (.val (.d (.b true)) []):=by
 have hl:ev P (.loop 0 [1,13,14,15] F_z_213_L0 [(1,.d (.ref [I' own,I' cnt,I' time,hD hn H,qD qn [],hD bn B,cD cn C,.b cl,I' val])),(13,.d (qD qn [])),(14,.d (I' 0)),(15,.d (I' 0))] [])=some (.out (.exit 0) [(1,.d (.ref [I' own,I' cnt,I' time,hD hn H,qD qn [],hD bn B,cD cn C,.b cl,I' val]))] []):=by
  rw [ev_loop]
  conv=>lhs;arg 4;unfold F_z_213_L0
  simp
 rw [ev_call P_z_213 rfl]
 simp [F_z_213,ev_wC0,hl]
theorem ev_vW (s:S) (hq:s.Q=[]) (hs:s.sm):ev P (.call z_130 [.d (.ag s.row)] [])=some (.val (.d (.b (okW s))) []):=by
 have hh:=hs.h
 have hQ:=ev_quW (own:=s.own) (cnt:=s.cnt) (time:=s.time) (val:=s.val) (hn:=s.hn) (qn:=s.qn) (bn:=s.bn) (cn:=s.cn) (cl:=s.cl) (H:=s.H) (B:=s.B) (C:=s.C)
 obtain ⟨own,cnt,time,hn,H,qn,Q,bn,B,cn,C,cl,val⟩:=s
 simp only at hq
 subst hq
 simp only at hQ hh
 have hL:ev P (.loop 0 [1,52,53,54] F_z_130_L0 [(1,.d (.ref [I' own,I' cnt,I' time,hD hn H,qD qn [],hD bn B,cD cn C,.b cl,I' val])),(52,.d (hD hn H)),(53,.d (I' H.length)),(54,.d (I' 0))] []) =
   if okH none H=true then some (.out (.exit 0) [(1,.d (.ref [I' own,I' cnt,I' time,hD hn H,qD qn [],hD bn B,cD cn C,.b cl,I' val]))] []) else some (.out .ret [(2,.d (.b false))] []):=loop_vW hh H [] rfl
 unfold okW
 simp only
 rw [ev_call P_z_130 rfl]
 generalize okH none H=dd at *
 unfold okWb
 cases hA:((own != -1&&(!isTask own||decide (0<H.length)))||cnt != 0||time != 0||decide (0<B.length)||decide (0<C.length)||cl||val != 0)
 ·cases dd
  ·simp at hL
   simp [F_z_130,ev_isTaskW,hA,hL]
  ·simp at hL
   simp [F_z_130,ev_isTaskW,hA,hL,hQ]
 ·simp [F_z_130,ev_isTaskW,hA]
theorem ev_ckW (nm:D) (k sz ot:Int) (s:S) (hq:s.Q=[]) (hs:s.sm) :
  ev P (.call z_68 [.d (.ag [nm,I' k,I' sz,I' ot]),.d (.ag s.row)] [])=some (.val (.d (I' (ck (nwA 2 k sz ot) (okW s)))) []):=by
 have hv:=ev_vW s hq hs
 rw [ev_call P_z_68 rfl]
 unfold ck
 cases hm:nwA 2 k sz ot==0
 ·have hm':nwA 2 k sz ot≠0:=by simpa using hm
  have hm2:(nwA 2 k sz ot != 0)=true:=by simpa using hm'
  simp [F_z_68,ev_nwW,hm',hm2,zrow]
 ·have hm':nwA 2 k sz ot=0:=by simpa using hm
  generalize okW s=b at *
  simp [F_z_68,ev_nwW,hm',frow,hv]
  cases b<;>simp
def okL (sz:Int) (s:S):Bool:=!(s.own != -1||decide (s.cnt<0)||decide (sz<s.cnt)||decide (s.time<0)||decide (1099511627776<s.time))&&!(s.val != 0||s.cl||decide ((0:Int)<(s.H.length:Int)+s.B.length+s.C.length))
theorem ev_ckL (nm:D) (k sz ot:Int) (s:S) (hq:s.Q=[]) (hs:s.sm) :
  ev P (.call z_93 [.d (.ag [nm,I' k,I' sz,I' ot]),.d (.ag s.row)] [])=some (.val (.d (I' (ck (nwL k sz ot) (okL sz s)))) []):=by
 obtain ⟨own,cnt,time,hn,H,qn,Q,bn,B,cn,C,cl,val⟩:=s
 simp only at hq
 subst hq
 obtain ⟨h1,h2,h3,h4,_⟩:=hs
 simp only at h1 h2 h4
 have hw1:IntKind.i64.wrap ((H.length:Int)+B.length)=H.length+B.length:=wrap_i64 (by omega) (by omega)
 have hw2:IntKind.i64.wrap ((H.length:Int)+B.length+C.length)=H.length+B.length+C.length:=wrap_i64 (by omega) (by omega)
 have hw3:IntKind.i64.wrap ((H.length:Int)+C.length)=H.length+C.length:=wrap_i64 (by omega) (by omega)
 have hl:∀(o row:List D),ev P (.loop 0 [2,3,70,71,72] F_z_93_L0 [(2,.d (.ref o)),(3,.d (.ref row)),(70,.d (qD qn [])),(71,.d (I' 0)),(72,.d (I' 0))] [])=some (.out (.exit 0) [] []):=by
  intro o row
  rw [ev_loop]
  conv=>lhs;arg 4;unfold F_z_93_L0
  simp
 rw [ev_call P_z_93 rfl]
 unfold ck okL
 cases hm:nwL k sz ot==0
 ·have hm':nwL k sz ot≠0:=by simpa using hm
  have hm2:(nwL k sz ot != 0)=true:=by simpa using hm'
  simp [F_z_93,ev_nwL,hm',hm2,zrow]
 ·have hm':nwL k sz ot=0:=by simpa using hm
  cases hA:(own != -1||decide (cnt<0)||decide (sz<cnt)||decide (time<0)||decide (1099511627776<time))
  ·cases hB:(val != 0||cl||decide ((0:Int)<(H.length:Int)+B.length+C.length))
   ·simp [F_z_93,ev_nwL,hm',grow,hA,hw1,hw2,hB,ev_wC0,hl]
   ·simp [F_z_93,ev_nwL,hm',grow,hA,hw1,hw2,hB,ev_wC0,hl]
  ·simp [F_z_93,ev_nwL,hm',grow,hA]
end Go.VS.Sp
namespace Go.VS.Sp
theorem loop_IdxI {f:Nat} {first caps:List D} {p:Int→Bool} (nl:Bool) (l:List Int) (hn:l.length≤1000000)
  (hp:∀a,ev P (.call f (first.map V.d++[.d (I' a)]++caps.map V.d) [])=some (.val (.d (.b (p a))) [])) :
  ∀(suf pre:List Int),l=pre++suf →
  ev P (.loop 0 [0,1,7,8] F_z_217_L0 [(0,.d (hD nl l)),(1,.d (.fn f first caps)),(7,.d (I' l.length)),(8,.d (I' pre.length))] []) =
   if idx p pre.length suf = -1 then some (.out (.exit 0) [] []) else some (.out .ret [(4,.d (I' (idx p pre.length suf)))] []):=by
 intro suf
 induction suf with
 | nil =>
  intro pre hl
  have:l.length=pre.length:=by simp [hl]
  rw [ev_loop]
  conv=>lhs;arg 4;unfold F_z_217_L0
  simp [this,idx]
 | cons w suf ih =>
  intro pre hl
  have hg:l[pre.length]?=some w:=by simp [hl]
  have hlt:(pre.length:Int)<l.length:=by simp [hl];omega
  have hnext:IntKind.i64.wrap ((pre.length:Int)+1)=pre.length+1:=wrap_i64 (by omega) (by omega)
  have ih':=ih (pre++[w]) (by simp [hl])
  simp at ih'
  have hp':=hp w
  simp at hp'
  rw [ev_loop]
  conv=>lhs;arg 4;unfold F_z_217_L0
  simp [hlt,hg,hp',allD_mid]
  cases hw:p w
  ·simp [idx,hw,hnext]
   exact ih'
  ·have:¬(pre.length:Int) = -1:=by omega
   simp [idx,hw,this]
theorem ev_ContI {f:Nat} {first caps:List D} {p:Int→Bool} (nl:Bool) (l:List Int) (hn:l.length≤1000000)
  (hp:∀a,ev P (.call f (first.map V.d++[.d (I' a)]++caps.map V.d) [])=some (.val (.d (.b (p a))) [])) :
  ev P (.call z_225 [.d (hD nl l),.d (.fn f first caps)] [])=some (.val (.d (.b (l.any p))) []):=by
 have hi:ev P (.call z_217 [.d (hD nl l),.d (.fn f first caps)] [])=some (.val (.d (I' (idx p 0 l))) []):=by
  rw [ev_call P_z_217 rfl]
  have hl:=loop_IdxI nl l hn hp l [] rfl
  simp at hl
  simp [F_z_217,hl]
  by_cases hc:idx p 0 l = -1<;>simp [hc]
 rw [ev_call P_z_225 rfl]
 have:=idx_any (p:=p) (l:=l) (k:=0) (by omega)
 cases ha:l.any p
 ·have hc:¬0≤idx p 0 l:=fun h=>by rw [this.1 h] at ha;cases ha
  simp [F_z_225,hi,hc]
 ·have hc:0≤idx p 0 l:=this.2 ha
  simp [F_z_225,hi,hc]
theorem ev_Cont0 (nl:Bool) (f:Nat) (first caps:List D):ev P (.call z_57 [.d (qD nl []),.d (.fn f first caps)] [])=some (.val (.d (.b false)) []):=by
 have hL:ev P (.loop 0 [0,1,7,8] F_z_123_L0 [(0,.d (qD nl [])),(1,.d (.fn f first caps)),(7,.d (I' 0)),(8,.d (I' 0))] [])=some (.out (.exit 0) [] []):=by
  rw [ev_loop]
  conv=>lhs;arg 4;unfold F_z_123_L0
  simp
 have hi:ev P (.call z_123 [.d (qD nl []),.d (.fn f first caps)] [])=some (.val (.d (I' (-1))) []):=by
  rw [ev_call P_z_123 rfl]
  simp [F_z_123,hL]
 rw [ev_call P_z_57 rfl]
 simp [F_z_57,hi]
theorem ev_numberC (n:Int):ev P (.call z_160 [.d (I' n)] [])=some (.val (.d (.b (num n))) []):=by
 rw [ev_call P_z_160 rfl]
 unfold num
 simp [F_z_160]
theorem ev_validC1 (n:Int):ev P (.call z_226 [.d (I' n)] [])=some (.val (.d (.b (!num n))) []):=by
 rw [ev_call P_z_226 rfl]
 simp [F_z_226,ev_numberC]
def okCb (sz:Int) (s:S):Bool:=s.own != -1||s.cnt != 0||s.time != 0||s.val != 0||decide ((0:Int)<(s.H.length:Int)+s.C.length)||decide (sz<s.B.length)
def okC (sz:Int) (s:S):Bool:=!okCb sz s&&!s.B.any fun n=>!num n
theorem ev_vainC (o:List D) (ho:o.length=4) {own cnt time val:Int} {hn qn bn cn cl:Bool} {H B:List Int} {C:List K}:ev P (.call z_228 [.d (.ag o),.d (.ag [I' own,I' cnt,I' time,hD hn H,qD qn [],hD bn B,cD cn C,.b cl,I' val])] [])=some (.val (.d (.b false)) []):=by
 rw [ev_call P_z_228 rfl]
 simp [F_z_228,ev_Cont0,ho,allD,allD_map']
theorem ev_vC (nm:D) (k sz ot:Int) (s:S) (hq:s.Q=[]) (hs:s.sm):ev P (.call z_156 [.d (.ag [nm,I' k,I' sz,I' ot]),.d (.ag s.row)] [])=some (.val (.d (.b (okC sz s))) []):=by
 obtain ⟨own,cnt,time,hn,H,qn,Q,bn,B,cn,C,cl,val⟩:=s
 simp only at hq
 subst hq
 obtain ⟨h1,h2,h3,h4,_⟩:=hs
 simp only at h1 h2 h4
 have hw1:IntKind.i64.wrap ((H.length:Int)+B.length)=H.length+B.length:=wrap_i64 (by omega) (by omega)
 have hw2:IntKind.i64.wrap ((H.length:Int)+B.length+C.length)=H.length+B.length+C.length:=wrap_i64 (by omega) (by omega)
 have hw3:IntKind.i64.wrap ((H.length:Int)+C.length)=H.length+C.length:=wrap_i64 (by omega) (by omega)
 have hB:=ev_ContI (f:=z_226) (first:=[]) (caps:=[]) (p:=fun n=>!num n) bn B h2 (by intro a;simp [ev_validC1])
 have hV:=ev_vainC [nm,I' k,I' sz,I' ot] rfl (own:=own) (cnt:=cnt) (time:=time) (val:=val) (hn:=hn) (qn:=qn) (bn:=bn) (cn:=cn) (cl:=cl) (H:=H) (B:=B) (C:=C)
 have hl:∀o:List D,ev P (.loop 0 [2,3,53,54] F_z_156_L0 [(2,.d (.ref o)),(3,.d (.ref [I' own,I' cnt,I' time,hD hn H,qD qn [],hD bn B,cD cn C,.b cl,I' val])),(53,.d (I' 0)),(54,.d (I' 0))] [])=some (.out (.exit 0) [(2,.d (.ref o)),(3,.d (.ref [I' own,I' cnt,I' time,hD hn H,qD qn [],hD bn B,cD cn C,.b cl,I' val]))] []):=by
  intro o
  rw [ev_loop]
  conv=>lhs;arg 4;unfold F_z_156_L0
  simp
 unfold okC
 simp only
 rw [ev_call P_z_156 rfl]
 generalize (B.any fun n=>!num n)=bb at *
 unfold okCb
 cases hA:(own != -1||cnt != 0||time != 0||val != 0||decide ((0:Int)<(H.length:Int)+C.length)||decide (sz<B.length))
 ·cases bb
  ·simp [F_z_156,hA,hw3,hB,ev_wC0,hl,hV]
  ·simp [F_z_156,hA,hw3,hB]
 ·simp [F_z_156,hA,hw3]
theorem ev_ckC (nm:D) (k sz ot:Int) (s:S) (hq:s.Q=[]) (hs:s.sm) :
  ev P (.call z_83 [.d (.ag [nm,I' k,I' sz,I' ot]),.d (.ag s.row)] [])=some (.val (.d (I' (ck (nwC k sz ot) (okC sz s)))) []):=by
 have hv:=ev_vC nm k sz ot s hq hs
 rw [ev_call P_z_83 rfl]
 unfold ck
 cases hm:nwC k sz ot==0
 ·have hm':nwC k sz ot≠0:=by simpa using hm
  have hm2:(nwC k sz ot != 0)=true:=by simpa using hm'
  simp [F_z_83,ev_nwC,hm',hm2,zrow]
 ·have hm':nwC k sz ot=0:=by simpa using hm
  generalize okC sz s=b at *
  cases b<;>simp [F_z_83,ev_nwC,hm',frow,hv]
def okFp (s:S):Bool:=s.own == -1&&s.cnt==0&&s.time==0&&s.H.isEmpty&&s.B.isEmpty&&s.C.isEmpty
def okF (s:S):Bool:=okFp s&&num s.val&&(s.cl||s.val==0)
theorem lenz {α:Type} (l:List α):((l.length:Int)==0)=l.isEmpty:=by
 cases l<;>simp;omega
theorem ev_plainF {own cnt time val:Int} {hn qn bn cn cl:Bool} {H B:List Int} {C:List K}:ev P (.call z_248 [.d (.ag [I' own,I' cnt,I' time,hD hn H,qD qn [],hD bn B,cD cn C,.b cl,I' val])] [])=some (.val (.d (.b (okFp ⟨own,cnt,time,hn,H,qn,[],bn,B,cn,C,cl,val⟩))) []):=by
 rw [ev_call P_z_248 rfl]
 unfold okFp
 simp [F_z_248,lenz]
theorem ev_numF (n:Int):ev P (.call z_184 [.d (I' n)] [])=some (.val (.d (.b (num n))) []):=by
 rw [ev_call P_z_184 rfl]
 unfold num
 simp [F_z_184]
theorem ev_quF {own cnt time val:Int} {hn qn bn cn cl:Bool} {H B:List Int} {C:List K}:ev P (.call z_249 [.d (.ag [I' own,I' cnt,I' time,hD hn H,qD qn [],hD bn B,cD cn C,.b cl,I' val])] [])=some (.val (.d (.b true)) []):=by
 have hl:ev P (.loop 0 [1,9,10,11] F_z_249_L0 [(1,.d (.ref [I' own,I' cnt,I' time,hD hn H,qD qn [],hD bn B,cD cn C,.b cl,I' val])),(9,.d (qD qn [])),(10,.d (I' 0)),(11,.d (I' 0))] [])=some (.out (.exit 0) [(1,.d (.ref [I' own,I' cnt,I' time,hD hn H,qD qn [],hD bn B,cD cn C,.b cl,I' val]))] []):=by
  rw [ev_loop]
  conv=>lhs;arg 4;unfold F_z_249_L0
  simp
 rw [ev_call P_z_249 rfl]
 simp [F_z_249,ev_wC0,hl]
theorem ev_vF (s:S) (hq:s.Q=[]):ev P (.call z_183 [.d (.ag s.row)] [])=some (.val (.d (.b (okF s))) []):=by
 obtain ⟨own,cnt,time,hn,H,qn,Q,bn,B,cn,C,cl,val⟩:=s
 simp only at hq
 subst hq
 have hP:=ev_plainF (own:=own) (cnt:=cnt) (time:=time) (val:=val) (hn:=hn) (qn:=qn) (bn:=bn) (cn:=cn) (cl:=cl) (H:=H) (B:=B) (C:=C)
 have hQ:=ev_quF (own:=own) (cnt:=cnt) (time:=time) (val:=val) (hn:=hn) (qn:=qn) (bn:=bn) (cn:=cn) (cl:=cl) (H:=H) (B:=B) (C:=C)
 unfold okF
 simp only
 generalize okFp ⟨own,cnt,time,hn,H,qn,[],bn,B,cn,C,cl,val⟩=pl at *
 rw [ev_call P_z_183 rfl]
 cases pl
 ·simp [F_z_183,hP]
 ·cases hv:num val
  ·simp [F_z_183,hP,ev_numF,hv]
  ·cases cl<;>simp [F_z_183,hP,ev_numF,hv,hQ]
theorem ev_ckF (nm:D) (k sz ot:Int) (s:S) (hq:s.Q=[]) :
  ev P (.call z_98 [.d (.ag [nm,I' k,I' sz,I' ot]),.d (.ag s.row)] [])=some (.val (.d (I' (ck (nwA 9 k sz ot) (okF s)))) []):=by
 have hv:=ev_vF s hq
 rw [ev_call P_z_98 rfl]
 unfold ck
 cases hm:nwA 9 k sz ot==0
 ·have hm':nwA 9 k sz ot≠0:=by simpa using hm
  have hm2:(nwA 9 k sz ot != 0)=true:=by simpa using hm'
  simp [F_z_98,ev_nwF,hm',hm2,zrow]
 ·have hm':nwA 9 k sz ot=0:=by simpa using hm
  generalize okF s=b at *
  cases b<;>simp [F_z_98,ev_nwF,hm',frow,hv]
end Go.VS.Sp
namespace Go.VS.Sp
theorem ev_isNaN (n:Int):ev P (.call z_281 [.d (I' n)] [])=some (.val (.d (.b false)) []):=by
 rw [ev_call P_z_281 rfl]
 simp [F_z_281]
theorem ev_sNaN (n:Int):ev P (.call z_285 [.d (I' n)] [])=some (.val (.d (.b false)) []):=by
 rw [ev_call P_z_285 rfl]
 simp [F_z_285]
theorem ev_Less (a b:Int):ev P (.call z_284 [.d (I' a),.d (I' b)] [])=some (.val (.d (.b (decide (a<b)))) []):=by
 rw [ev_call P_z_284 rfl]
 by_cases h:a<b<;>simp [F_z_284,ev_isNaN,h]
def Asc (l:List Int):Prop:=l.Pairwise (·≤·)
def bI (t:Int) (l:List Int):Nat:=(l.takeWhile fun x=>decide (x<t)).length
theorem bI_le (t:Int):∀(l:List Int),bI t l≤l.length
 | []=>by simp [bI]
 | w::q=>by
  have:=bI_le t q
  unfold bI at *
  simp only [List.takeWhile_cons]
  split<;>simp;omega
theorem bI_lt {t x:Int}:∀{l:List Int} {k:Nat},Asc l→l[k]?=some x→(k<bI t l↔x<t)
 | [],k,_,h=>by simp at h
 | a::q,0,_,h=>by
  have:a=x:=by simpa using h
  subst this
  by_cases hp:a<t<;>simp [bI,List.takeWhile_cons,hp]
 | a::q,k+1,hd,h=>by
  have hd':=List.pairwise_cons.1 hd
  have hq:q[k]?=some x:=by simpa using h
  have hw:x∈q:=List.mem_of_getElem? hq
  have h1:=hd'.1 x hw
  have ih:=bI_lt (t:=t) (k:=k) hd'.2 hq
  by_cases hp:a<t
  ·have:bI t (a::q)=bI t q+1:=by simp [bI,List.takeWhile_cons,hp]
   rw [this,←ih];omega
  ·have:bI t (a::q)=0:=by simp [bI,List.takeWhile_cons,hp]
   rw [this];constructor<;>intro h3<;>omega
theorem mid_eq {i j:Nat} (h:i+j≤4000000):IntKind.i64.wrap ((IntKind.u64.wrap ((i:Int)+j)).fdiv (2 ^ min 1 IntKind.u64.bits))=(((i+j) / 2:Nat):Int):=by
 have h1:IntKind.u64.wrap ((i:Int)+j)=(i:Int)+j:=by
  have e0:IntKind.u64.bits=64:=rfl
  simp only [IntKind.wrap,e0,IntKind.signed,Bool.false_and,Bool.false_eq_true,if_false]
  omega
 have h2:(2:Int) ^ min 1 IntKind.u64.bits=2:=by decide
 rw [h1,h2,Int.fdiv_eq_ediv_of_nonneg _ (by omega),wrap_i64 (by omega) (by omega)]
 omega
theorem loop_BS (nl:Bool) (l:List Int) (t:Int) (hn:l.length≤1000000) (hA:Asc l):∀(n i j:Nat),j - i≤n→i≤bI t l→bI t l≤j→j≤l.length →
  ev P (.loop 0 [0,1,6,7,8] F_z_262_L0 [(0,.d (hD nl l)),(1,.d (I' t)),(6,.d (I' l.length)),(7,.d (I' i)),(8,.d (I' j))] []) =
   some (.out (.exit 0) [(0,.d (hD nl l)),(1,.d (I' t)),(6,.d (I' l.length)),(7,.d (I' (bI t l)))] []):=by
 intro n
 induction n with
 | zero =>
  intro i j h1 h2 h3 h4
  have e1:i=bI t l:=by omega
  have e2:j=bI t l:=by omega
  rw [ev_loop]
  conv=>lhs;arg 4;unfold F_z_262_L0
  simp [e1,e2]
 | succ n ih =>
  intro i j h1 h2 h3 h4
  by_cases hij:i=j
  ·have e1:i=bI t l:=by omega
   have e2:j=bI t l:=by omega
   rw [ev_loop]
   conv=>lhs;arg 4;unfold F_z_262_L0
   simp [e1,e2]
  ·have hlt:i<j:=by omega
   have hw1:IntKind.i64.wrap ((i:Int)+j)=i+j:=wrap_i64 (by omega) (by omega)
   have hm:=mid_eq (i:=i) (j:=j) (by omega)
   generalize hmm:(i+j) / 2=m at hm
   have hm1:i≤m:=by omega
   have hm2:m<j:=by omega
   have hml:m<l.length:=by omega
   obtain ⟨x,hx⟩:∃x,l[m]?=some x:=⟨l[m]'(by omega),by simp⟩
   have hb:=bI_lt (t:=t) hA hx
   have hx2:l[m]=x:=by rw [List.getElem?_eq_getElem hml] at hx;exact Option.some.inj hx
   have hm3:IntKind.i64.wrap ((m:Int)+1)=m+1:=wrap_i64 (by omega) (by omega)
   have hml2:(m:Int)<l.length:=by omega
   rw [ev_loop]
   conv=>lhs;arg 4;unfold F_z_262_L0
   by_cases hp:x<t
   ·have ih':=ih (m+1) j (by omega) (by omega) (by omega) h4
    simp at ih'
    simp [hlt,hw1,hm,hm3,hml,hml2,hx,hx2,ev_Less,hp]
    exact ih'
   ·have ih':=ih i m (by omega) (by omega) (by omega) (by omega)
    simp [hlt,hw1,hm,hml,hml2,hx,hx2,ev_Less,hp]
    exact ih'
theorem ev_BS (nl:Bool) (l:List Int) (t:Int) (hn:l.length≤1000000) (hA:Asc l) :
  ev P (.call z_262 [.d (hD nl l),.d (I' t)] [])=some (.val (.tu [.d (I' (bI t l)),.d (.b (decide (l[bI t l]?=some t)))]) []):=by
 have hb:=bI_le t l
 have hl:=loop_BS nl l t hn hA l.length 0 l.length (by omega) (by omega) hb (by omega)
 simp at hl
 by_cases h:bI t l<l.length
 ·obtain ⟨x,hx⟩:∃x,l[bI t l]?=some x:=⟨l[bI t l],by simp⟩
  have h2:(bI t l:Int)<l.length:=by omega
  rw [hx]
  generalize bI t l=B at *
  have hx2:l[B]=x:=by rw [List.getElem?_eq_getElem h] at hx;exact Option.some.inj hx
  by_cases hxt:x=t
  ·subst hxt
   rw [ev_call P_z_262 rfl]
   simp [F_z_262,hl,h,h2,hx2]
  ·have hxt2:(x==t)=false:=by simpa using hxt
   rw [ev_call P_z_262 rfl]
   simp [F_z_262,hl,h,h2,hx2,ev_sNaN,hxt2,hxt]
 ·have h2:¬(bI t l:Int)<l.length:=by omega
  have h3:l[bI t l]?=none:=by simp;omega
  rw [h3]
  rw [ev_call P_z_262 rfl]
  simp [F_z_262,hl,h,h2]
end Go.VS.Sp
namespace Go.VS.Sp
structure Cl where
 task:Int
 op:Int
 value:Int
 prio:Int
 now:Int
def Cl.row (c:Cl):List D:=[I' c.task,I' c.op,I' c.value,I' c.prio,I' c.now]
abbrev R4:=S×Int×Bool×Int
def er (s:S) (e:Int):R4:=(s,0,false,e)
def gd (s:S):R4:=(s,0,true,0)
def eM (s:S) (c:Cl):R4 :=
 if c.op==52 then (if s.own==c.task then gd { s with own:=-1 } else er s 20)
 else if s.own == -1 then gd { s with own:=c.task }
 else if c.op==51 then er s 0
 else if s.own==c.task then er s 17 else er s 29
def insI (t:Int) (l:List Int):List Int:=l.take (bI t l)++t::l.drop (bI t l)
def eW (s:S) (c:Cl):R4 :=
 if c.op==54 then (if decide (c.task∈s.H) then gd { s with H:=s.H.filter (fun x=>x != c.task) } else er s 20)
 else if c.op==56 then (if s.own==c.task then gd { s with own:=-1 } else er s 20)
 else if (decide (c.task∈s.H)||s.own==c.task) then er s 17
 else if (!(s.own == -1)||(c.op==55&&decide (0<s.H.length))) then er s 29
 else if c.op==55 then gd { s with own:=c.task } else gd { s with H:=insI c.task s.H }
def eS (sz:Int) (s:S) (c:Cl):R4 :=
 if c.op==62 then (if decide (sz<s.cnt+c.value) then er s 17 else gd { s with cnt:=s.cnt+c.value })
 else if decide (c.value≤s.cnt) then gd { s with cnt:=s.cnt - c.value }
 else if c.op==61 then er s 0 else er s 29
def eB (sz:Int) (s:S):R4 :=
 if s.val+1==sz then (if s.cnt==1099511627776 then er { s with val:=s.val+1 } 4 else ({ s with val:=0,cnt:=s.cnt+1 },s.val,true,0))
 else ({ s with val:=s.val+1 },s.val,true,0)
def eC (rm:Int) (s:S) (c:Cl):R4 :=
 if c.op==64 then (if s.cl then er s 0 else if decide (rm≤s.B.length) then er s 29 else gd { s with B:=s.B++[c.value] })
 else if c.op==65 then match s.B with
  | b::r=>({ s with B:=r },b,true,0)
  | []=>if s.cl then er s 0 else er s 29
 else (if s.cl then er s 17 else gd { s with cl:=true })
def tsk (s:S):List Int:=s.C.map K.task
def bK (s:S) (t:Int):Nat:=bI t (tsk s)
def isK (s:S) (t:Int):Bool:=decide ((tsk s)[bK s t]?=some t)
def eT (rm:Int) (s:S) (c:Cl):R4 :=
 if c.op==69 then (if isK s c.task then er s 6 else gd { s with C:=s.C.take (bK s c.task)++⟨c.task,false,[]⟩::s.C.drop (bK s c.task) })
 else if c.op==71 then (if isK s c.task then gd { s with C:=s.C.take (bK s c.task)++s.C.drop (bK s c.task+1) } else er s 20)
 else if c.op==70 then (if isK s c.task then
  (match s.C[bK s c.task]? with
   | some ⟨_,_,b::r⟩=>({ s with C:=s.C.set (bK s c.task) ⟨c.task,false,r⟩ },b,true,0)
   | _=>er s 29) else er s 20)
 else (if (s.C.any fun x=>decide (rm≤x.log.length)) then er s 29 else gd { s with C:=s.C.map fun x=>⟨x.task,false,x.log++[c.value]⟩ })
def rfS (sz ot now:Int) (s:S):S :=
 if decide (sz≤s.cnt+(now - s.time) / ot) then { s with cnt:=sz,time:=now } else { s with cnt:=s.cnt+(now - s.time) / ot,time:=s.time+(now - s.time) / ot*ot }
def eL (sz ot:Int) (s:S) (c:Cl):R4 :=
 if decide (c.now<s.time) then er s 2 else
 if c.op==72 then (if decide ((rfS sz ot c.now s).cnt<c.value) then er (rfS sz ot c.now s) 29 else gd { rfS sz ot c.now s with cnt:=(rfS sz ot c.now s).cnt - c.value })
 else gd (rfS sz ot c.now s)
def eF (s:S) (c:Cl):R4 :=
 if c.op==74 then (if s.cl then (s,s.val,true,0) else er s 29)
 else if s.cl then er s 17 else gd { s with cl:=true,val:=c.value }
def rmz (sz:Int):Int:=if sz > 1 then sz else 1
def raw (k sz ot:Int) (s:S) (c:Cl):R4 :=
 if k=1 then eM s c else if k=2 then eW s c else if k=4 then eS sz s c else if k=5 then eB sz s else if k=6 then eC (rmz sz) s c
 else if k=7 then eT (rmz sz) s c else if k=8 then eL sz ot s c else eF s c
def newO (k sz ot:Int):Int :=
 if k=1 then nwA 1 k sz ot else if k=2 then nwA 2 k sz ot else if k=4 then nwS k sz ot else if k=5 then nwB k sz ot else if k=6 then nwC k sz ot
 else if k=7 then mnew k sz ot else if k=8 then nwL k sz ot else if k=9 then nwA 9 k sz ot else 8
def ckO (k sz ot:Int) (s:S):Int :=
 if k=1 then ck (nwA 1 k sz ot) (okM s) else if k=2 then ck (nwA 2 k sz ot) (okW s) else if k=4 then ck (nwS k sz ot) (okS sz s) else if k=5 then ck (nwB k sz ot) (okB s) else if k=6 then ck (nwC k sz ot) (okC sz s)
 else if k=7 then ckd k sz ot s else if k=8 then ck (nwL k sz ot) (okL sz s) else if k=9 then ck (nwA 9 k sz ot) (okF s) else 8
def szO (k sz:Int):Int:=if k=6∨k=7 then rmz sz else sz
def vzO (k:Int) (s:S):S:=if k=5 then { s with val:=0 } else s
def absB (k sz ot:Int) (s:S):Bool :=
 newO k sz ot==0&&s.Q.isEmpty&&!(k==5&&(decide (s.val<0)||decide (sz≤s.val)))&&ckO k (szO k sz) ot (vzO k s)==0
def cbad (c:Cl):Bool:=decide (c.task<0)||decide (16≤c.task)||decide (c.prio<0)||decide (9<c.prio)||decide (c.now<0)||decide (1099511627776<c.now)
def blg (k op:Int):Bool :=
 if k=1 then decide (50≤op)&&decide (op≤52) else if k=2 then decide (53≤op)&&decide (op≤56) else if k=4 then decide (60≤op)&&decide (op≤62) else if k=5 then op==63
 else if k=6 then decide (64≤op)&&decide (op≤66) else if k=7 then decide (68≤op)&&decide (op≤71) else if k=8 then op==72||op==75 else op==73||op==74
def fit (k sz:Int) (c:Cl):Bool :=
 if k=4∨c.op=72 then decide (1≤c.value)&&decide (c.value≤sz) else if c.op=64∨c.op=68∨c.op=73 then num c.value else true
def zN:S:=⟨0,0,0,true,[],true,[],true,[],true,[],false,0⟩
def zS:S:=zN.pl
def effF (k sz ot:Int) (s:S) (c:Cl):R4 :=
 if absB k sz ot s=false then er zS 1 else if cbad c=true then er zS 2 else if blg k c.op=false then er zS 8 else if fit k sz c=false then er zS 2
 else if (raw k sz ot s c).2.2.2=0 then raw k sz ot s c else er zS (raw k sz ot s c).2.2.2
structure S.wf (s:S):Prop where
 h:s.hn=true→s.H=[]
 b:s.bn=true→s.B=[]
 c:s.cn=true→s.C=[]
 k:∀c∈s.C,c.nl=true→c.log=[]
def Rel (R:Option Res) (r:R4):Prop :=
 ∃s:S,R=some (.val (.tu [.d (.ag s.row),.d (I' r.2.1),.d (.b r.2.2.1),.d (I' r.2.2.2)]) [])∧s.pl=r.1∧s.wf
theorem Rel.mk' {R:Option Res} (s:S) {n:Int} {b:Bool} {e:Int} {r:R4} (h:R=some (.val (.tu [.d (.ag s.row),.d (I' n),.d (.b b),.d (I' e)]) [])) (hp:r=(s.pl,n,b,e)) (hw:s.wf):Rel R r:=by
 subst hp
 exact ⟨s,h,rfl,hw⟩
theorem Rel.er {R:Option Res} (s:S) (e:Int) {r:R4} (h:R=some (.val (.tu [.d (.ag s.row),.d (I' 0),.d (.b false),.d (I' e)]) [])) (hp:r=er s.pl e) (hw:s.wf):Rel R r:=Rel.mk' s h hp hw
theorem Rel.gd {R:Option Res} (s:S) {r:R4} (h:R=some (.val (.tu [.d (.ag s.row),.d (I' 0),.d (.b true),.d (I' 0)]) [])) (hp:r=gd s.pl) (hw:s.wf):Rel R r:=Rel.mk' s h hp hw
theorem Rel.vl {R:Option Res} (s:S) (n:Int) {r:R4} (h:R=some (.val (.tu [.d (.ag s.row),.d (I' n),.d (.b true),.d (I' 0)]) [])) (hp:r=(s.pl,n,true,0)) (hw:s.wf):Rel R r:=Rel.mk' s h hp hw
end Go.VS.Sp
namespace Go.VS.Sp
def SAsc (l:List Int):Prop:=l.Pairwise (·<·)
theorem SAsc.asc {l:List Int} (h:SAsc l):Asc l:=List.Pairwise.imp (fun h=>by omega) h
theorem bI_cons (t a:Int) (q:List Int):bI t (a::q)=if a<t then bI t q+1 else 0:=by
 by_cases hp:a<t<;>simp [bI,List.takeWhile_cons,hp]
theorem mem_bI {t:Int}:∀{l:List Int},SAsc l→(l[bI t l]?=some t↔t∈l)
 | [],_=>by simp
 | a::q,h=>by
  have h':=List.pairwise_cons.1 h
  rw [bI_cons]
  by_cases hp:a<t
  ·rw [if_pos hp]
   have ih:=mem_bI (t:=t) h'.2
   rw [List.getElem?_cons_succ,ih,List.mem_cons]
   constructor
   ·intro e;exact .inr e
   ·rintro (e | e)
    ·omega
    ·exact e
  ·rw [if_neg hp,List.getElem?_cons_zero,List.mem_cons]
   constructor
   ·intro e;left;exact (Option.some.inj e).symm
   ·rintro (e | e)
    ·rw [e]
    ·have:=h'.1 t e;omega
theorem filter_bI {t:Int}:∀{l:List Int},SAsc l→t∈l→l.filter (fun x=>x != t)=l.take (bI t l)++l.drop (bI t l+1)
 | [],_,hm=>by simp at hm
 | a::q,h,hm=>by
  have h':=List.pairwise_cons.1 h
  rw [bI_cons]
  by_cases hp:a<t
  ·rw [if_pos hp]
   have hq:t∈q:=by
    rcases List.mem_cons.1 hm with e | e
    ·omega
    ·exact e
   have hne:a≠t:=by omega
   have ih:=filter_bI h'.2 hq
   simp [hne,ih]
  ·rw [if_neg hp]
   have ha:a=t:=by
    rcases List.mem_cons.1 hm with e | e
    ·exact e.symm
    ·have:=h'.1 t e;omega
   subst ha
   have:q.filter (fun x=>x != a)=q:=by
    rw [List.filter_eq_self]
    intro x hx
    have:=h'.1 x hx
    simp;omega
   simp [this]
theorem insI_cons (t a:Int) (q:List Int):insI t (a::q)=if a<t then a::insI t q else t::a::q:=by
 unfold insI
 rw [bI_cons]
 by_cases hp:a<t<;>simp [hp]
theorem mem_ins {t x:Int} {l:List Int}:x∈insI t l↔x=t∨x∈l:=by
 have e:l=l.take (bI t l)++l.drop (bI t l):=(List.take_append_drop _ _).symm
 have e2:x∈l↔x∈l.take (bI t l)∨x∈l.drop (bI t l):=by
  rw [←List.mem_append,List.take_append_drop]
 rw [e2]
 unfold insI
 rw [List.mem_append,List.mem_cons]
 constructor
 ·rintro (h | h | h)
  ·exact .inr (.inl h)
  ·exact .inl h
  ·exact .inr (.inr h)
 ·rintro (h | h | h)
  ·exact .inr (.inl h)
  ·exact .inl h
  ·exact .inr (.inr h)
theorem ins_asc {t:Int}:∀{l:List Int},SAsc l→t∉l→SAsc (insI t l)
 | [],_,_=>by simp [insI,SAsc,bI]
 | a::q,h,hm=>by
  have h':=List.pairwise_cons.1 h
  have hm':¬t=a∧t∉q:=by simpa using hm
  rw [insI_cons]
  by_cases hp:a<t
  ·rw [if_pos hp]
   refine List.pairwise_cons.2 ⟨?_,ins_asc h'.2 hm'.2⟩
   intro x hx
   rcases mem_ins.1 hx with e | e
   ·omega
   ·exact h'.1 x e
  ·rw [if_neg hp]
   refine List.pairwise_cons.2 ⟨?_,h⟩
   intro x hx
   rcases List.mem_cons.1 hx with e | e
   ·omega
   ·have:=h'.1 x e;omega
theorem okH_iff:∀(l:List Int) (p:Option Int),okH p l=true↔((∀q,p=some q→∀x∈l,q<x)∧SAsc l∧∀x∈l,isTask x=true)
 | [],p=>by simp [okH,SAsc]
 | t::r,p=>by
  have ih:=okH_iff r (some t)
  unfold okH
  rw [Bool.and_eq_true,ih]
  constructor
  ·rintro ⟨h1,h2,h3,h4⟩
   have h2':=h2 t rfl
   simp only [Bool.not_eq_true',Bool.or_eq_false_iff,Bool.not_eq_false'] at h1
   refine ⟨?_,List.pairwise_cons.2 ⟨h2',h3⟩,?_⟩
   ·intro q hq x hx
    subst hq
    have h5:q<t:=by have:=h1.2;simp at this;exact this
    rcases List.mem_cons.1 hx with e | e
    ·omega
    ·have:=h2' x e;omega
   ·intro x hx
    rcases List.mem_cons.1 hx with e | e
    ·rw [e];exact h1.1
    ·exact h4 x e
  ·rintro ⟨h1,h2,h3⟩
   have h2':=List.pairwise_cons.1 h2
   refine ⟨?_,?_,h2'.2,fun x hx=>h3 x (List.mem_cons_of_mem _ hx)⟩
   ·have e1:=h3 t (by simp)
    cases p with
    | none=>simp [e1]
    | some q=>have:=h1 q rfl t (by simp);simp [e1];exact this
   ·intro q hq x hx
    have:t=q:=Option.some.inj hq
    subst this
    exact h2'.1 x hx
theorem vc_iff (sz:Int):∀(C:List K) (p:Option K),vc sz p C=true↔((∀q,p=some q→∀x∈C,q.task<x.task)∧SAsc (C.map K.task)∧∀x∈C,isTask x.task=true∧¬sz<x.log.length∧x.log.all num=true)
 | [],p=>by simp [vc,SAsc]
 | t::r,p=>by
  have ih:=vc_iff sz r (some t)
  unfold vc
  rw [Bool.and_eq_true,Bool.and_eq_true,ih]
  constructor
  ·rintro ⟨h1,h0,h2,h3,h4⟩
   have h2':=h2 t rfl
   simp only [kbad,Bool.not_eq_true',Bool.or_eq_false_iff] at h1
   obtain ⟨⟨⟨k1,k2⟩,k3⟩,k4⟩:=h1
   refine ⟨?_,List.pairwise_cons.2 ⟨?_,h3⟩,?_⟩
   ·intro q hq x hx
    subst hq
    have h5:q.task<t.task:=by simp at k3;exact k3
    rcases List.mem_cons.1 hx with e | e
    ·rw [e];exact h5
    ·have:=h2' x e;omega
   ·intro x hx
    obtain ⟨y,hy,rfl⟩:=List.mem_map.1 hx
    exact h2' y hy
   ·intro x hx
    rcases List.mem_cons.1 hx with e | e
    ·subst e
     refine ⟨?_,by simpa using k4,h0⟩
     simp at k1 k2
     simp [isTask];omega
    ·exact h4 x e
  ·rintro ⟨h1,h2,h3⟩
   have h2':=List.pairwise_cons.1 h2
   obtain ⟨e1,e2,e3⟩:=h3 t (by simp)
   refine ⟨?_,e3,?_,h2'.2,fun x hx=>h3 x (List.mem_cons_of_mem _ hx)⟩
   ·simp [isTask] at e1
    have e4:p.any (fun p=>decide (t.task≤p.task))=false:=by
     cases p with
     | none=>rfl
     | some q=>have:=h1 q rfl t (by simp);simp;exact this
    simp only [kbad,e4,Bool.not_eq_true',Bool.or_eq_false_iff]
    simp
    omega
   ·intro q hq x hx
    have:t=q:=Option.some.inj hq
    subst this
    exact h2'.1 _ (List.mem_map_of_mem hx)
end Go.VS.Sp
namespace Go.VS.Sp
theorem ev_eM (o:List D) (ho:o.length=4) (x y:D) (s:S) (hw:s.wf) (c:Cl) (hv:s.own = -1∨0≤s.own) :
  Rel (ev P (.call z_315 [.d (.ag [x,y]),.d (.ag o),.d (.ag s.row),.d (.ag c.row)] [])) (eM s.pl c):=by
 have e:decide (s.own<0)=(s.own == -1):=by rw [Bool.eq_iff_iff];simp;omega
 rw [ev_call P_z_315 rfl]
 cases h1:c.op==52
 ·cases h2:s.own == -1
  ·cases h3:c.op==51
   ·cases h4:s.own==c.task
    ·exact Rel.er s 29 (by simp [F_z_315,ho,Cl.row,h1,e,h2,h3,h4]) (by simp [eM,S.pl,h1,h2,h3,h4]) ⟨hw.h,hw.b,hw.c,hw.k⟩
    ·exact Rel.er s 17 (by simp [F_z_315,ho,Cl.row,h1,e,h2,h3,h4]) (by simp [eM,S.pl,h1,h2,h3,h4]) ⟨hw.h,hw.b,hw.c,hw.k⟩
   ·exact Rel.er s 0 (by simp [F_z_315,ho,Cl.row,h1,e,h2,h3]) (by simp [eM,S.pl,h1,h2,h3]) ⟨hw.h,hw.b,hw.c,hw.k⟩
  ·exact Rel.gd { s with own:=c.task } (by simp [F_z_315,ho,Cl.row,h1,e,h2]) (by simp [eM,S.pl,h1,h2]) ⟨hw.h,hw.b,hw.c,hw.k⟩
 ·cases h2:s.own==c.task
  ·have h2':(s.own != c.task)=true:=by simp [bne,h2]
   exact Rel.er s 20 (by simp [F_z_315,ho,Cl.row,h1,h2']) (by simp [eM,S.pl,h1,h2]) ⟨hw.h,hw.b,hw.c,hw.k⟩
  ·have h2':(s.own != c.task)=false:=by simp [bne,h2]
   exact Rel.gd { s with own:=-1 } (by simp [F_z_315,ho,Cl.row,h1,h2']) (by simp [eM,S.pl,h1,h2]) ⟨hw.h,hw.b,hw.c,hw.k⟩
theorem ev_eS (x y:D) (nm:D) (k sz ot:Int) (s:S) (hw:s.wf) (c:Cl) (hz:sz≤100) (hv:0≤s.cnt∧s.cnt≤sz) (hc:1≤c.value∧c.value≤sz) :
  Rel (ev P (.call z_322 [.d (.ag [x,y]),.d (.ag [nm,I' k,I' sz,I' ot]),.d (.ag s.row),.d (.ag c.row)] [])) (eS sz s.pl c):=by
 have w1:IntKind.i64.wrap (s.cnt+c.value)=s.cnt+c.value:=wrap_i64 (by omega) (by omega)
 have w2:IntKind.i64.wrap (s.cnt - c.value)=s.cnt - c.value:=wrap_i64 (by omega) (by omega)
 rw [ev_call P_z_322 rfl]
 cases h1:c.op==62
 ·cases h2:decide (c.value≤s.cnt)
  ·cases h3:c.op==61
   ·exact Rel.er s 29 (by simp [F_z_322,Cl.row,h1,h2,h3,w1,w2]) (by have p2:=h2;simp only [decide_eq_true_eq,decide_eq_false_iff_not] at p2;simp [eS,S.pl,h1,p2,h3]) ⟨hw.h,hw.b,hw.c,hw.k⟩
   ·exact Rel.er s 0 (by simp [F_z_322,Cl.row,h1,h2,h3,w1,w2]) (by have p2:=h2;simp only [decide_eq_true_eq,decide_eq_false_iff_not] at p2;simp [eS,S.pl,h1,p2,h3]) ⟨hw.h,hw.b,hw.c,hw.k⟩
  ·exact Rel.gd { s with cnt:=s.cnt - c.value } (by simp [F_z_322,Cl.row,h1,h2,w1,w2]) (by have p2:=h2;simp only [decide_eq_true_eq,decide_eq_false_iff_not] at p2;simp [eS,S.pl,h1,p2]) ⟨hw.h,hw.b,hw.c,hw.k⟩
 ·cases h2:decide (sz<s.cnt+c.value)
  ·exact Rel.gd { s with cnt:=s.cnt+c.value } (by simp [F_z_322,Cl.row,h1,h2,w1,w2]) (by have p2:=h2;simp only [decide_eq_true_eq,decide_eq_false_iff_not] at p2;simp [eS,S.pl,h1,p2]) ⟨hw.h,hw.b,hw.c,hw.k⟩
  ·exact Rel.er s 17 (by simp [F_z_322,Cl.row,h1,h2,w1,w2]) (by have p2:=h2;simp only [decide_eq_true_eq,decide_eq_false_iff_not] at p2;simp [eS,S.pl,h1,p2]) ⟨hw.h,hw.b,hw.c,hw.k⟩
theorem ev_eB (c:List D) (hc:c.length=5) (x y:D) (nm:D) (k sz ot:Int) (s:S) (hw:s.wf) (hz:sz≤100) (hv:0≤s.val∧s.val<sz) (hn:0≤s.cnt∧s.cnt≤1099511627776) :
  Rel (ev P (.call z_325 [.d (.ag [x,y]),.d (.ag [nm,I' k,I' sz,I' ot]),.d (.ag s.row),.d (.ag c)] [])) (eB sz s.pl):=by
 have w1:IntKind.i64.wrap (s.val+1)=s.val+1:=wrap_i64 (by omega) (by omega)
 have w2:IntKind.i64.wrap (s.cnt+1)=s.cnt+1:=wrap_i64 (by omega) (by omega)
 rw [ev_call P_z_325 rfl]
 cases h1:s.val+1==sz
 ·exact Rel.vl { s with val:=s.val+1 } s.val (by simp [F_z_325,hc,h1,w1,w2]) (by simp [eB,S.pl,h1]) ⟨hw.h,hw.b,hw.c,hw.k⟩
 ·cases h2:s.cnt==1099511627776
  ·exact Rel.vl { s with val:=0,cnt:=s.cnt+1 } s.val (by simp [F_z_325,hc,h1,h2,w1,w2]) (by simp [eB,S.pl,h1,h2]) ⟨hw.h,hw.b,hw.c,hw.k⟩
  ·exact Rel.er { s with val:=s.val+1 } 4 (by simp [F_z_325,hc,h1,h2,w1,w2]) (by simp [eB,S.pl,h1,h2]) ⟨hw.h,hw.b,hw.c,hw.k⟩
theorem ev_eF (o:List D) (ho:o.length=4) (x y:D) (s:S) (hw:s.wf) (c:Cl) (hb:c.op=73∨c.op=74) :
  Rel (ev P (.call z_341 [.d (.ag [x,y]),.d (.ag o),.d (.ag s.row),.d (.ag c.row)] [])) (eF s.pl c):=by
 have e:(c.op==73)=!(c.op==74):=by rcases hb with h | h<;>simp [h]
 rw [ev_call P_z_341 rfl]
 cases h1:c.op==74
 ·cases h2:s.cl
  ·exact Rel.gd { s with cl:=true,val:=c.value } (by simp [F_z_341,ho,V.same_self,Cl.row,e,h1,h2]) (by simp [eF,S.pl,h1,h2]) ⟨hw.h,hw.b,hw.c,hw.k⟩
  ·exact Rel.er s 17 (by simp [F_z_341,ho,V.same_self,Cl.row,e,h1,h2]) (by simp [eF,S.pl,h1,h2]) ⟨hw.h,hw.b,hw.c,hw.k⟩
 ·cases h2:s.cl
  ·exact Rel.er s 29 (by simp [F_z_341,ho,V.same_self,Cl.row,e,h1,h2]) (by simp [eF,S.pl,h1,h2]) ⟨hw.h,hw.b,hw.c,hw.k⟩
  ·exact Rel.vl s s.val (by simp [F_z_341,ho,V.same_self,Cl.row,e,h1,h2]) (by simp [eF,S.pl,h1,h2]) ⟨hw.h,hw.b,hw.c,hw.k⟩
theorem div_bd {a b:Int} (ha:0≤a) (hb:1≤b):0≤a / b∧a / b*b≤a∧a / b≤a:=by
 have h1:0≤a / b:=Int.ediv_nonneg ha (by omega)
 have h2:a / b*b≤a:=Int.ediv_mul_le a (by omega)
 refine ⟨h1,h2,?_⟩
 have h3:a / b*1≤a / b*b:=Int.mul_le_mul_of_nonneg_left hb h1
 omega
theorem ev_eL (x y:D) (nm:D) (k sz ot:Int) (s:S) (hw:s.wf) (c:Cl) (hz:1≤sz∧sz≤100) (ho:1≤ot∧ot≤1099511627776) (hv:0≤s.cnt∧s.cnt≤sz) (ht0:0≤s.time∧s.time≤1099511627776)
  (hn:0≤c.now∧c.now≤1099511627776) (hb:c.op=72∨c.op=75) (hc:c.op=72→1≤c.value∧c.value≤sz) :
  Rel (ev P (.call z_339 [.d (.ag [x,y]),.d (.ag [nm,I' k,I' sz,I' ot]),.d (.ag s.row),.d (.ag c.row)] [])) (eL sz ot s.pl c):=by
 have e:(c.op==75)=!(c.op==72):=by rcases hb with h | h<;>simp [h]
 rw [ev_call P_z_339 rfl]
 cases h0:decide (c.now<s.time)
 ·have h0':s.time≤c.now:=by simpa using h0
  obtain ⟨k0,k1,k2⟩:=div_bd (a:=c.now - s.time) (b:=ot) (by omega) ho.1
  have hot:¬ot=0:=by omega
  have w0:IntKind.i64.wrap (c.now - s.time)=c.now - s.time:=wrap_i64 (by omega) (by omega)
  have ht:(c.now - s.time).tdiv ot=(c.now - s.time) / ot:=Int.tdiv_eq_ediv_of_nonneg (by omega)
  generalize hkk:(c.now - s.time) / ot=q at *
  have ek:decide (sz - s.cnt≤q)=decide (sz≤s.cnt+q):=by rw [Bool.eq_iff_iff];simp;omega
  have w1:IntKind.i64.wrap q=q:=wrap_i64 (by omega) (by omega)
  have w2:IntKind.i64.wrap (sz - s.cnt)=sz - s.cnt:=wrap_i64 (by omega) (by omega)
  have w3:IntKind.i64.wrap (s.cnt+q)=s.cnt+q:=wrap_i64 (by omega) (by omega)
  have w4:IntKind.i64.wrap (q*ot)=q*ot:=by
   have:0≤q*ot:=Int.mul_nonneg k0 (by omega)
   exact wrap_i64 (by omega) (by omega)
  have w5:IntKind.i64.wrap (s.time+q*ot)=s.time+q*ot:=by
   have:0≤q*ot:=Int.mul_nonneg k0 (by omega)
   exact wrap_i64 (by omega) (by omega)
  cases h1:decide (sz≤s.cnt+q)
  ·have h1':s.cnt+q<sz:=by simpa using h1
   cases h2:c.op==72
   ·exact Rel.gd { s with cnt:=s.cnt+q,time:=s.time+q*ot } (by simp [F_z_339,Cl.row,e,h0,h1,h2,w0,w1,w2,w3,w4,ht,hot,ek,w5]) (by have p0:=h0;simp only [decide_eq_true_eq,decide_eq_false_iff_not] at p0;have p1:=h1;simp only [decide_eq_true_eq,decide_eq_false_iff_not] at p1;simp [eL,rfS,S.pl,p0,hkk,p1,h2]) ⟨hw.h,hw.b,hw.c,hw.k⟩
   ·have hcv:=hc (by simpa using h2)
    have w6:IntKind.i64.wrap (s.cnt+q - c.value)=s.cnt+q - c.value:=wrap_i64 (by omega) (by omega)
    cases h3:decide (s.cnt+q<c.value)
    ·exact Rel.gd { s with cnt:=s.cnt+q - c.value,time:=s.time+q*ot } (by simp [F_z_339,Cl.row,e,h0,h1,h2,h3,w0,w1,w2,w3,w4,ht,hot,ek,w5,w6]) (by have p0:=h0;simp only [decide_eq_true_eq,decide_eq_false_iff_not] at p0;have p1:=h1;simp only [decide_eq_true_eq,decide_eq_false_iff_not] at p1;have p3:=h3;simp only [decide_eq_true_eq,decide_eq_false_iff_not] at p3;simp [eL,rfS,S.pl,p0,hkk,p1,h2,p3]) ⟨hw.h,hw.b,hw.c,hw.k⟩
    ·exact Rel.er { s with cnt:=s.cnt+q,time:=s.time+q*ot } 29 (by simp [F_z_339,Cl.row,e,h0,h1,h2,h3,w0,w1,w2,w3,w4,ht,hot,ek,w5,w6]) (by have p0:=h0;simp only [decide_eq_true_eq,decide_eq_false_iff_not] at p0;have p1:=h1;simp only [decide_eq_true_eq,decide_eq_false_iff_not] at p1;have p3:=h3;simp only [decide_eq_true_eq,decide_eq_false_iff_not] at p3;simp [eL,rfS,S.pl,p0,hkk,p1,h2,p3]) ⟨hw.h,hw.b,hw.c,hw.k⟩
  ·cases h2:c.op==72
   ·exact Rel.gd { s with cnt:=sz,time:=c.now } (by simp [F_z_339,Cl.row,e,h0,h1,h2,w0,w1,w2,w3,w4,ht,hot,ek,w5]) (by have p0:=h0;simp only [decide_eq_true_eq,decide_eq_false_iff_not] at p0;have p1:=h1;simp only [decide_eq_true_eq,decide_eq_false_iff_not] at p1;simp [eL,rfS,S.pl,p0,hkk,p1,h2]) ⟨hw.h,hw.b,hw.c,hw.k⟩
   ·have hcv:=hc (by simpa using h2)
    have w6:IntKind.i64.wrap (sz - c.value)=sz - c.value:=wrap_i64 (by omega) (by omega)
    have h3:decide (sz<c.value)=false:=by simp;omega
    exact Rel.gd { s with cnt:=sz - c.value,time:=c.now } (by simp [F_z_339,Cl.row,e,h0,h1,h2,h3,w0,w1,w2,w3,w4,ht,hot,ek,w5,w6]) (by have p0:=h0;simp only [decide_eq_true_eq,decide_eq_false_iff_not] at p0;have p1:=h1;simp only [decide_eq_true_eq,decide_eq_false_iff_not] at p1;have p3:=h3;simp only [decide_eq_true_eq,decide_eq_false_iff_not] at p3;simp [eL,rfS,S.pl,p0,hkk,p1,h2,p3]) ⟨hw.h,hw.b,hw.c,hw.k⟩
 ·exact Rel.er s 2 (by simp [F_z_339,Cl.row,h0]) (by have p0:=h0;simp only [decide_eq_true_eq,decide_eq_false_iff_not] at p0;simp [eL,S.pl,p0]) ⟨hw.h,hw.b,hw.c,hw.k⟩
end Go.VS.Sp
namespace Go.VS.Sp
theorem ev_CloneI (nl:Bool) (q:List Int) (hnl:nl=true→q=[]) (hn:q.length≤1000000) :
  ev P (.call z_214 [.d (hD nl q)] [])=if nl=true then some (.val (.d (.sl 1 true [])) []) else some (.val (.asl 0 0 q.length) [.arrD 1 true (rows1 q)]):=by
 rw [ev_call P_z_214 rfl]
 cases nl
 ·have hr:q.length≤room:=by unfold room;omega
  cases q with
  | nil=>simp [F_z_214,mkRows,allDs,reachC,cut,endH]
  | cons a r =>
   simp at hr
   simp [F_z_214,mkRows,allDs,reachC,cut,hr,endH]
 ·simp [F_z_214,endH]
theorem ev_CloneK (nl:Bool) (q:List K) (hnl:nl=true→q=[]) (hn:q.length≤1000000) :
  ev P (.call z_236 [.d (cD nl q)] [])=if nl=true then some (.val (.d (.sl 2 true [])) []) else some (.val (.asl 0 0 q.length) [.arrD 2 true (q.map K.row)]):=by
 rw [ev_call P_z_236 rfl]
 cases nl
 ·have hr:q.length≤room:=by unfold room;omega
  cases q with
  | nil=>simp [F_z_236,mkRows,allDs,reachC,cut,endH]
  | cons a r =>
   simp at hr
   simp [F_z_236,mkRows,allDs,reachC,cut,hr,endH]
 ·simp [F_z_236,endH]
theorem ev_DeleteK (A B:List (List D)) (r:List D) (h:A.length+B.length≤100000) :
  ev P (.call z_170 [.asl 0 0 (A.length+(B.length+1)),.d (I' A.length),.d (I' (A.length+1))] [.arrD 2 true (A++r::B)]) =
   some (.val (.asl 0 0 (A.length+B.length)) [.arrD 2 true (A++(B++[[I' 0,.sl 1 true []]]))]):=by
 have h1:(A.length:Int)≤A.length+1:=by omega
 have h2:(A.length:Int)+1≤A.length+(B.length+1):=by omega
 have h3:(0:Int)≤A.length+1:=by omega
 have h4:((A.length:Int)==A.length+1)=false:=by simp;omega
 have h7:(A.length:Int)≤A.length+(B.length+1):=by omega
 have h5:A.length+B.length≤A.length+(B.length+1):=by omega
 have h6:¬(A.length+(B.length+1)<A.length+B.length):=by omega
 rw [ev_call P_z_170 rfl]
 have h11:(A.length:Int)<A.length+1:=by omega
 rcases B with _ | ⟨b,B⟩
 ·have h9:¬((A.length:Int)+1=0):=by omega
  simp at h2 h5 h6 h7
  simp [F_z_170,reachC,cut,h1,h2,h3,h4,h5,h6,h7,h9,h11,endH]
 ·have h8:(1:Int)<B.length+1+1:=by omega
  have h9:¬((A.length:Int)+1=0):=by omega
  have h12:A.length+1+(B.length+1)≤A.length+(B.length+1+1):=by omega
  obtain ⟨x,hx⟩:∃x,List.drop (B.length+1) (r::b::B)=[x]:=List.length_eq_one_iff.1 (by simp)
  have h13:¬((A.length:Int)+(B.length+1)=0):=by omega
  have h14:(0:Int)≤(A.length:Int)+(B.length+1):=by omega
  have h15:(B.length:Int)≤B.length+1:=by omega
  have h16:(B.length:Int)<B.length+1:=by omega
  have h17:((A.length:Int)+(B.length+1)).toNat=A.length+(B.length+1):=by omega
  have h18:((A.length:Int)+(B.length+1+1) - (A.length+(B.length+1))).toNat=1:=by omega
  have h20:A.length+(B.length+1)+1≤A.length+(B.length+1+1):=by omega
  have h21:List.take (A.length+(B.length+1)) (A++b::(B++[x]))=A++b::B:=by
   have:A++b::(B++[x])=(A++b::B)++[x]:=by simp
   rw [this]
   exact List.take_left' (by simp)
  have h22:List.drop (A.length+(B.length+1)+1) (A++b::(B++[x]))=[]:=List.drop_eq_nil_of_le (by simp;omega)
  have h10:((A.length:Int)+(B.length+1+1) - (A.length+1)).toNat=B.length+1:=by omega
  simp at h2 h5 h6 h7
  simp [F_z_170,reachC,cut,h1,h2,h3,h4,h5,h6,h7,h8,h9,h10,h11,h12,h13,h14,h15,h16,h17,h18,h20,h21,h22,hx,endH]
theorem ev_DeleteI (A B:List (List D)) (r:List D) (h:A.length+B.length≤100000) :
  ev P (.call z_321 [.asl 0 0 (A.length+(B.length+1)),.d (I' A.length),.d (I' (A.length+1))] [.arrD 1 true (A++r::B)]) =
   some (.val (.asl 0 0 (A.length+B.length)) [.arrD 1 true (A++(B++[[I' 0]]))]):=by
 have h1:(A.length:Int)≤A.length+1:=by omega
 have h2:(A.length:Int)+1≤A.length+(B.length+1):=by omega
 have h3:(0:Int)≤A.length+1:=by omega
 have h4:((A.length:Int)==A.length+1)=false:=by simp;omega
 have h7:(A.length:Int)≤A.length+(B.length+1):=by omega
 have h5:A.length+B.length≤A.length+(B.length+1):=by omega
 have h6:¬(A.length+(B.length+1)<A.length+B.length):=by omega
 rw [ev_call P_z_321 rfl]
 have h11:(A.length:Int)<A.length+1:=by omega
 rcases B with _ | ⟨b,B⟩
 ·have h9:¬((A.length:Int)+1=0):=by omega
  simp at h2 h5 h6 h7
  simp [F_z_321,reachC,cut,h1,h2,h3,h4,h5,h6,h7,h9,h11,endH]
 ·have h8:(1:Int)<B.length+1+1:=by omega
  have h9:¬((A.length:Int)+1=0):=by omega
  have h12:A.length+1+(B.length+1)≤A.length+(B.length+1+1):=by omega
  obtain ⟨x,hx⟩:∃x,List.drop (B.length+1) (r::b::B)=[x]:=List.length_eq_one_iff.1 (by simp)
  have h13:¬((A.length:Int)+(B.length+1)=0):=by omega
  have h14:(0:Int)≤(A.length:Int)+(B.length+1):=by omega
  have h15:(B.length:Int)≤B.length+1:=by omega
  have h16:(B.length:Int)<B.length+1:=by omega
  have h17:((A.length:Int)+(B.length+1)).toNat=A.length+(B.length+1):=by omega
  have h18:((A.length:Int)+(B.length+1+1) - (A.length+(B.length+1))).toNat=1:=by omega
  have h20:A.length+(B.length+1)+1≤A.length+(B.length+1+1):=by omega
  have h21:List.take (A.length+(B.length+1)) (A++b::(B++[x]))=A++b::B:=by
   have:A++b::(B++[x])=(A++b::B)++[x]:=by simp
   rw [this]
   exact List.take_left' (by simp)
  have h22:List.drop (A.length+(B.length+1)+1) (A++b::(B++[x]))=[]:=List.drop_eq_nil_of_le (by simp;omega)
  have h10:((A.length:Int)+(B.length+1+1) - (A.length+1)).toNat=B.length+1:=by omega
  simp at h2 h5 h6 h7
  simp [F_z_321,reachC,cut,h1,h2,h3,h4,h5,h6,h7,h8,h9,h10,h11,h12,h13,h14,h15,h16,h17,h18,h20,h21,h22,hx,endH]
end Go.VS.Sp
namespace Go.VS.Sp
theorem rg2:List.range 2=[0,1]:=rfl
theorem rg3:List.range 3=[0,1,2]:=rfl
theorem split_at {l:List Int} {t:Int} (h:SAsc l) (hm:t∈l):∃A B,l=A++t::B∧bI t l=A.length∧l.filter (fun x=>x != t)=A++B:=by
 have h1:=(mem_bI h).2 hm
 have hlt:bI t l<l.length:=(List.getElem?_eq_some_iff.1 h1).1
 have h2:l[bI t l]=t:=(List.getElem?_eq_some_iff.1 h1).2
 refine ⟨l.take (bI t l),l.drop (bI t l+1),?_,by simp;omega,filter_bI h hm⟩
 have h3:l.drop (bI t l)=l[bI t l]::l.drop (bI t l+1):=List.drop_eq_getElem_cons hlt
 rw [h2] at h3
 rw [←h3,List.take_append_drop]
end Go.VS.Sp
namespace Go.VS.Sp
theorem pl_H (s:S):s.pl.H=s.H:=rfl
theorem pl_own (s:S):s.pl.own=s.own:=rfl
set_option maxHeartbeats 1000000 in
theorem ev_eW (o:List D) (ho:o.length=4) (x y:D) (s:S) (hw:s.wf) (c:Cl) (hH:SAsc s.H) (hn:s.H.length≤100000) (hv:s.own = -1∨0≤s.own) :
  Rel (ev P (.call z_319 [.d (.ag [x,y]),.d (.ag o),.d (.ag s.row),.d (.ag c.row)] [])) (eW s.pl c):=by
 have hBS:=ev_BS s.hn s.H c.task (by omega) hH.asc
 have hm:decide (s.H[bI c.task s.H]?=some c.task)=decide (c.task∈s.H):=decide_eq_decide.2 (mem_bI hH)
 rw [hm] at hBS
 rw [ev_call P_z_319 rfl]
 unfold eW
 rw [pl_H,pl_own]
 have e:decide (0≤s.own)=!(s.own == -1):=by rw [Bool.eq_iff_iff];simp;omega
 cases h1:c.op==54
 ·cases h2:c.op==56
  ·cases h4:(decide (c.task∈s.H)||s.own==c.task)
   ·cases h5:(!(s.own == -1)||(c.op==55&&decide (0<s.H.length)))
    ·cases h6:c.op==55
     ·have hI:=ev_prim P_z_263 (p:=insP 1) rfl
      refine Rel.gd { s with hn:=false,H:=insI c.task s.H } ?_ (by simp [S.pl]) ⟨by simp,hw.b,hw.c,hw.k⟩
      rw [h6] at h5
      simp only [Bool.false_and,Bool.or_false] at h5
      have hb:=bI_le c.task s.H
      cases hf:s.hn
      ·have hr:s.H.length+1≤room:=by unfold room;omega
       have hCl:=ev_CloneI s.hn s.H hw.h (by omega)
       rw [hf,if_neg (by decide)] at hCl
       rw [hf] at hBS
       have hrow:hD false (insI c.task s.H) = .sl 1 false ((rows1 s.H).take (bI c.task s.H)++[I' c.task]::(rows1 s.H).drop (bI c.task s.H)):=by unfold insI hD rows1;simp [List.map_take,List.map_drop]
       simp only [S.row]
       rw [hrow]
       generalize bI c.task s.H=b at *
       have h7:s.H.length+1≤b+(s.H.length - b+1):=by omega
       have t5:List.take (s.H.length+1) (List.take b (List.map (fun x=>[I' x]) s.H)++[I' c.task]::List.drop b (List.map (fun x=>[I' x]) s.H))=List.take b (List.map (fun x=>[I' x]) s.H)++[I' c.task]::List.drop b (List.map (fun x=>[I' x]) s.H) :=
        List.take_of_length_le (by simp;omega)
       simp [F_z_319,ho,Cl.row,hBS,h1,h2,h4,e,h5,h6,hf,hCl,hI,insP,insRows,hr,hb,h7,t5,callD,callR,sub,setAll,back,reachC,cut,List.idxOf_cons,thaw,freezeAll,freeze1,overlay,rg2,rg3,take_map_len,drop_map_len]
      ·have hE:=hw.h hf
       have hr:1≤room:=by decide
       have hCl:=ev_CloneI s.hn s.H hw.h (by omega)
       rw [hf,if_pos rfl] at hCl
       rw [hf] at hBS
       have h4':(s.own==c.task)=false:=by have:=h4;rw [hE] at this;simpa using this
       rw [hE] at hBS hCl ⊢
       have hz:bI c.task []=0:=rfl
       have hi:insI c.task []=[c.task]:=rfl
       rw [hz] at hBS
       rw [hi]
       simp [F_z_319,ho,Cl.row,hBS,h1,h2,h4',e,h5,h6,hf,hCl,hI,insP,insRows,hr,hb,hE,callD,callR,sub,setAll,back,reachC,cut,List.idxOf_cons,thaw,freezeAll,freeze1,overlay,rg2,rg3,take_map_len,drop_map_len]
     ·rw [h6] at h5
      simp only [Bool.true_and] at h5
      exact Rel.gd { s with own:=c.task } (by simp [F_z_319,ho,Cl.row,hBS,h1,h2,h4,e,h5,h6]) (by simp [S.pl]) ⟨hw.h,hw.b,hw.c,hw.k⟩
    ·exact Rel.er s 29 (by simp [F_z_319,ho,Cl.row,hBS,h1,h2,h4,e,h5]) (by simp) ⟨hw.h,hw.b,hw.c,hw.k⟩
   ·exact Rel.er s 17 (by simp [F_z_319,ho,Cl.row,hBS,h1,h2,h4]) (by simp) ⟨hw.h,hw.b,hw.c,hw.k⟩
  ·cases h3:s.own==c.task
   ·have h3':(s.own != c.task)=true:=by simp [bne,h3]
    exact Rel.er s 20 (by simp [F_z_319,ho,Cl.row,hBS,h1,h2,h3']) (by simp) ⟨hw.h,hw.b,hw.c,hw.k⟩
   ·have h3':(s.own != c.task)=false:=by simp [bne,h3]
    exact Rel.gd { s with own:=-1 } (by simp [F_z_319,ho,Cl.row,hBS,h1,h2,h3']) (by simp [S.pl]) ⟨hw.h,hw.b,hw.c,hw.k⟩
 ·cases h2:decide (c.task∈s.H)
  ·rw [h2] at hBS
   exact Rel.er s 20 (by simp [F_z_319,ho,Cl.row,hBS,h1]) (by simp) ⟨hw.h,hw.b,hw.c,hw.k⟩
  ·rw [h2] at hBS
   have hmm:c.task∈s.H:=by simpa using h2
   obtain ⟨A,B,e1,e2,e3⟩:=split_at hH hmm
   have hnf:s.hn=false:=by
    cases hf:s.hn
    ·rfl
    ·rw [hw.h hf] at hmm;simp at hmm
   have hCl:=ev_CloneI s.hn s.H hw.h (by omega)
   rw [hnf,if_neg (by decide)] at hCl
   rw [hnf] at hBS
   rw [e2] at hBS
   have hD:=ev_DeleteI (rows1 A) (rows1 B) [I' c.task] (by rw [e1] at hn;simp at hn ⊢;omega)
   have hrow:rows1 s.H=rows1 A++[I' c.task]::rows1 B:=by rw [e1];simp
   have hlen:s.H.length=A.length+(B.length+1):=by rw [e1];simp
   have hwr:IntKind.i64.wrap ((A.length:Int)+1)=A.length+1:=wrap_i64 (by omega) (by omega)
   rw [hrow,hlen] at hCl
   simp only [List.length_map] at hD
   rw [e3]
   have t6:List.take (A.length+B.length) (rows1 A++(rows1 B++[[I' 0]]))=List.map (fun x=>[I' x]) A++List.map (fun x=>[I' x]) B:=by
    rw [←List.append_assoc]
    exact List.take_left' (by simp)
   refine Rel.gd { s with hn:=false,H:=A++B } ?_ (by simp [S.pl]) ⟨by simp,hw.b,hw.c,hw.k⟩
   simp [F_z_319,ho,Cl.row,hBS,h1,hnf,hCl,hwr,hD,t6,callD,callR,sub,setAll,back,reachC,cut,List.idxOf_cons,thaw,freezeAll,freeze1,overlay,rg2,rg3,take_map_len,drop_map_len]
end Go.VS.Sp
namespace Go.VS.Sp
theorem ev_room (nm:D) (k sz ot:Int):ev P (.call z_330 [.d (.ag [nm,I' k,I' sz,I' ot])] [])=some (.val (.d (.ag [nm,I' k,I' (rmz sz),I' ot])) []):=by
 rw [ev_call P_z_330 rfl]
 unfold rmz
 simp [F_z_330]
theorem pl_B (s:S):s.pl.B=s.B:=rfl
theorem pl_cl (s:S):s.pl.cl=s.cl:=rfl
theorem ev_eC (x y nm:D) (k sz ot:Int) (s:S) (hw:s.wf) (c:Cl) (hb:c.op=64∨c.op=65∨c.op=66) (hn:s.B.length≤100000) :
  Rel (ev P (.call z_328 [.d (.ag [x,y]),.d (.ag [nm,I' k,I' sz,I' ot]),.d (.ag s.row),.d (.ag c.row)] [])) (eC (rmz sz) s.pl c):=by
 have hR:=ev_room nm k sz ot
 generalize hrm:rmz sz=rm at *
 rw [ev_call P_z_328 rfl]
 unfold eC
 rw [pl_B,pl_cl]
 cases h1:c.op==64
 ·cases h2:c.op==65
  ·cases h3:s.cl
   ·exact Rel.gd { s with cl:=true } (by simp [F_z_328,Cl.row,h1,h2,h3]) (by simp [S.pl]) ⟨hw.h,hw.b,hw.c,hw.k⟩
   ·exact Rel.er s 17 (by simp [F_z_328,Cl.row,h1,h2,h3]) (by simp) ⟨hw.h,hw.b,hw.c,hw.k⟩
  ·cases hB:s.B with
   | nil =>
    cases h3:s.cl
    ·exact Rel.er s 29 (by simp [F_z_328,Cl.row,h1,h2,h3,hB]) (by simp) ⟨hw.h,hw.b,hw.c,hw.k⟩
    ·exact Rel.er s 0 (by simp [F_z_328,Cl.row,h1,h2,h3,hB]) (by simp) ⟨hw.h,hw.b,hw.c,hw.k⟩
   | cons b r =>
    have hf:s.bn=false:=by
     cases hf:s.bn
     ·rfl
     ·rw [hw.b hf] at hB;simp at hB
    have hC2:=ev_CloneI false r (by simp) (by rw [hB] at hn;simp at hn;omega)
    rw [if_neg (by decide)] at hC2
    have n1:(1:Int)≤r.length+1:=by omega
    have n0:((r.length:Int)+1==0)=false:=by simp;omega
    refine Rel.vl { s with bn:=false,B:=r } b ?_ (by simp [S.pl]) ⟨hw.h,by simp,hw.c,hw.k⟩
    simp [F_z_328,Cl.row,h1,h2,hB,hf,hC2,n0,n1,callD,callR,sub,setAll,back,reachC,cut,List.idxOf_cons,V.same_self,thaw,freezeAll,freeze1,overlay,take_map_len,drop_map_len]
 ·cases h3:s.cl
  ·cases h4:decide (rm≤s.B.length)
   ·have hr:s.B.length+1≤room:=by unfold room;omega
    have hC:=ev_CloneI s.bn s.B hw.b (by omega)
    refine Rel.gd { s with bn:=false,B:=s.B++[c.value] } ?_ (by simp [S.pl,h3]) ⟨hw.h,by simp,hw.c,hw.k⟩
    cases hf:s.bn
    ·rw [hf,if_neg (by decide)] at hC
     have t1:List.take (s.B.length+1) (List.map (fun x=>[I' x]) s.B++[[I' c.value]])=List.map (fun x=>[I' x]) s.B++[[I' c.value]]:=List.take_of_length_le (by simp)
     simp [F_z_328,Cl.row,h1,h3,h4,hf,hR,hC,hr,t1,callD,callR,sub,setAll,back,reachC,cut,List.idxOf_cons,V.same_self,thaw,freezeAll,freeze1,overlay,take_map_len,drop_map_len,Nat.not_succ_le_self]
    ·have hB:=hw.b hf
     rw [hf,if_pos rfl] at hC
     rw [hB] at h4 hC ⊢
     have h4:decide (rm≤0)=false:=h4
     have hr1:1≤room:=by decide
     simp [F_z_328,Cl.row,h1,h3,h4,hf,hR,hC,hB,hr1,callD,callR,sub,setAll,back,reachC,cut,List.idxOf_cons,V.same_self,thaw,freezeAll,freeze1,overlay,take_map_len,drop_map_len,Nat.not_succ_le_self]
   ·exact Rel.er s 29 (by simp [F_z_328,Cl.row,h1,h3,hR,h4]) (by simp) ⟨hw.h,hw.b,hw.c,hw.k⟩
  ·exact Rel.er s 0 (by simp [F_z_328,Cl.row,h1,h3]) (by simp) ⟨hw.h,hw.b,hw.c,hw.k⟩
end Go.VS.Sp
namespace Go.VS.Sp
theorem isTask_iff {n:Int}:isTask n=true↔0≤n∧n<16:=by simp [isTask]
theorem ev_tC1 (a t:Int) (b:Bool) (l:List Int) (ha:isTask a=true) (ht:isTask t=true) :
  ev P (.call z_336 [.d (.ag [I' a,hD b l]),.d (I' t)] [])=some (.val (.d (I' (a - t))) []):=by
 have h1:=isTask_iff.1 ha
 have h2:=isTask_iff.1 ht
 have hw:IntKind.i64.wrap (a - t)=a - t:=wrap_i64 (by omega) (by omega)
 rw [ev_call P_z_336 rfl]
 simp [F_z_336,hw]
theorem loop_BSK (nl:Bool) (C:List K) (t:Int) (hn:C.length≤1000000) (hA:Asc (C.map K.task)) (hC:∀x∈C,isTask x.task=true) (ht:isTask t=true):∀(n i j:Nat),j - i≤n→i≤bI t (C.map K.task)→bI t (C.map K.task)≤j→j≤C.length →
  ev P (.loop 0 [0,1,2,8,9,10] F_z_335_L0 [(0,.d (cD nl C)),(1,.d (I' t)),(2,.d (.fn z_336 [] [])),(8,.d (I' C.length)),(9,.d (I' i)),(10,.d (I' j))] []) =
   some (.out (.exit 0) [(0,.d (cD nl C)),(1,.d (I' t)),(2,.d (.fn z_336 [] [])),(8,.d (I' C.length)),(9,.d (I' (bI t (C.map K.task))))] []):=by
 intro n
 induction n with
 | zero =>
  intro i j h1 h2 h3 h4
  have e1:i=bI t (C.map K.task):=by omega
  have e2:j=bI t (C.map K.task):=by omega
  rw [ev_loop]
  conv=>lhs;arg 4;unfold F_z_335_L0
  simp [e1,e2]
 | succ n ih =>
  intro i j h1 h2 h3 h4
  by_cases hij:i=j
  ·have e1:i=bI t (C.map K.task):=by omega
   have e2:j=bI t (C.map K.task):=by omega
   rw [ev_loop]
   conv=>lhs;arg 4;unfold F_z_335_L0
   simp [e1,e2]
  ·have hlt:i<j:=by omega
   have hw1:IntKind.i64.wrap ((i:Int)+j)=i+j:=wrap_i64 (by omega) (by omega)
   have hm:=mid_eq (i:=i) (j:=j) (by omega)
   generalize hmm:(i+j) / 2=m at hm
   have hm1:i≤m:=by omega
   have hm2:m<j:=by omega
   have hml:m<C.length:=by omega
   obtain ⟨x,hx⟩:∃x,C[m]?=some x:=⟨C[m]'(by omega),by simp⟩
   have hxt:(C.map K.task)[m]?=some x.task:=by simp [hx]
   have hb:=bI_lt (t:=t) hA hxt
   have hx2:C[m]=x:=by rw [List.getElem?_eq_getElem hml] at hx;exact Option.some.inj hx
   have hxm:x∈C:=List.mem_of_getElem? hx
   have hc:=ev_tC1 x.task t x.nl x.log (hC x hxm) ht
   have hm3:IntKind.i64.wrap ((m:Int)+1)=m+1:=wrap_i64 (by omega) (by omega)
   have hml2:(m:Int)<C.length:=by omega
   rw [ev_loop]
   conv=>lhs;arg 4;unfold F_z_335_L0
   by_cases hp:x.task<t
   ·have ih':=ih (m+1) j (by omega) (by omega) (by omega) h4
    have hp2:x.task - t<0:=by omega
    simp at ih'
    simp [hlt,hw1,hm,hm3,hml,hml2,hx,hx2,K.row,hc,hp2]
    exact ih'
   ·have ih':=ih i m (by omega) (by omega) (by omega) (by omega)
    have hp2:¬x.task - t<0:=by omega
    simp [hlt,hw1,hm,hml,hml2,hx,hx2,K.row,hc,hp2]
    exact ih'
theorem ev_BSK (nl:Bool) (C:List K) (t:Int) (hn:C.length≤1000000) (hA:Asc (C.map K.task)) (hC:∀x∈C,isTask x.task=true) (ht:isTask t=true) :
  ev P (.call z_335 [.d (cD nl C),.d (I' t),.d (.fn z_336 [] [])] []) =
   some (.val (.tu [.d (I' (bI t (C.map K.task))),.d (.b (decide ((C.map K.task)[bI t (C.map K.task)]?=some t)))]) []):=by
 have hb:=bI_le t (C.map K.task)
 simp only [List.length_map] at hb
 have hl:=loop_BSK nl C t hn hA hC ht C.length 0 C.length (by omega) (by omega) hb (by omega)
 simp only [Int.natCast_zero] at hl
 by_cases h:bI t (C.map K.task)<C.length
 ·obtain ⟨x,hx⟩:∃x,C[bI t (C.map K.task)]?=some x:=⟨C[bI t (C.map K.task)],by simp⟩
  have hxt:(C.map K.task)[bI t (C.map K.task)]?=some x.task:=by rw [List.getElem?_map,hx];rfl
  have h2:(bI t (C.map K.task):Int)<C.length:=by omega
  have hxm:x∈C:=List.mem_of_getElem? hx
  have hc:=ev_tC1 x.task t x.nl x.log (hC x hxm) ht
  rw [hxt]
  generalize bI t (C.map K.task)=B at *
  have hx2:C[B]=x:=by rw [List.getElem?_eq_getElem h] at hx;exact Option.some.inj hx
  have e:(x.task - t==0)=decide (x.task=t):=by rw [Bool.eq_iff_iff];simp;omega
  rw [ev_call P_z_335 rfl]
  simp [F_z_335,hl,h,h2,hx,hx2,K.row,hc,e]
 ·have h2:¬(bI t (C.map K.task):Int)<C.length:=by omega
  have h3:(C.map K.task)[bI t (C.map K.task)]?=none:=by simp;omega
  rw [h3]
  generalize bI t (C.map K.task)=B at *
  rw [ev_call P_z_335 rfl]
  simp [F_z_335,hl,h,h2]
end Go.VS.Sp
namespace Go.VS.Sp
theorem rg4:List.range 4=[0,1,2,3]:=rfl
theorem pl_C (s:S):s.pl.C=s.C.map K.pl:=rfl
theorem tsk_pl (s:S):tsk s.pl=tsk s:=by
 unfold tsk
 rw [pl_C,List.map_map]
 rfl
theorem bK_pl (s:S) (t:Int):bK s.pl t=bK s t:=by unfold bK;rw [tsk_pl]
theorem isK_pl (s:S) (t:Int):isK s.pl t=isK s t:=by unfold isK;rw [tsk_pl,bK_pl]
structure S.tk (s:S):Prop where
 asc:SAsc (tsk s)
 task:∀x∈s.C,isTask x.task=true
 len:s.C.length≤1000
 log:∀x∈s.C,x.log.length≤100000
theorem ev_eT1 (x y nm:D) (k sz ot:Int) (s:S) (hw:s.wf) (c:Cl) (hk:s.tk) (ht:isTask c.task=true) (hb:c.op=69) :
  Rel (ev P (.call z_333 [.d (.ag [x,y]),.d (.ag [nm,I' k,I' sz,I' ot]),.d (.ag s.row),.d (.ag c.row)] [])) (eT (rmz sz) s.pl c):=by
 have hB:=ev_BSK s.cn s.C c.task (by have:=hk.len;omega) hk.asc.asc hk.task ht
 have hCl:=ev_CloneK s.cn s.C hw.c (by have:=hk.len;omega)
 have hI:=ev_prim P_z_237 (p:=insP 2) rfl
 have hb2:=bI_le c.task (s.C.map K.task)
 simp only [List.length_map] at hb2
 have hlen:=hk.len
 rw [ev_call P_z_333 rfl]
 unfold eT
 rw [isK_pl,bK_pl]
 have e1:isK s c.task=decide ((s.C.map K.task)[bI c.task (s.C.map K.task)]?=some c.task):=rfl
 have e2:bK s c.task=bI c.task (s.C.map K.task):=rfl
 rw [←e1] at hB
 rw [←e2] at hB hb2
 generalize hi:bK s c.task=i at *
 generalize isK s c.task=g at *
 have h69:(c.op==69)=true:=by simp [hb]
 rw [h69]
 cases g
 ·have hrow:cD false (s.C.take i++⟨c.task,true,[]⟩::s.C.drop i) = .sl 2 false ((s.C.map K.row).take i++[I' c.task,.sl 1 true []]::(s.C.map K.row).drop i):=by simp [cD,List.map_take,List.map_drop,K.row]
  refine Rel.gd { s with cn:=false,C:=s.C.take i++⟨c.task,true,[]⟩::s.C.drop i } ?_ (by simp [S.pl,K.pl,List.map_take,List.map_drop]) ⟨hw.h,hw.b,by simp,?_⟩
  ·simp only [S.row]
   rw [hrow]
   cases hf:s.cn
   ·rw [hf,if_neg (by decide)] at hCl
    rw [hf] at hB
    have hr:s.C.length+1≤room:=by unfold room;omega
    have h7:s.C.length+1≤i+(s.C.length - i+1):=by omega
    have t5:List.take (s.C.length+1) (List.take i (List.map K.row s.C)++[I' c.task,.sl 1 true []]::List.drop i (List.map K.row s.C))=List.take i (List.map K.row s.C)++[I' c.task,.sl 1 true []]::List.drop i (List.map K.row s.C) :=
     List.take_of_length_le (by simp;omega)
    simp [F_z_333,Cl.row,hB,hf,hb,hCl,hI,insP,insRows,hr,hb2,h7,t5,callD,callR,sub,setAll,back,reachC,cut,List.idxOf_cons,V.same_self,thaw,freezeAll,freeze1,overlay,take_map_len,drop_map_len,Nat.not_succ_le_self,rg2,rg3,rg4]
   ·have hE:=hw.c hf
    rw [hf,if_pos rfl] at hCl
    rw [hf] at hB
    have hr:1≤room:=by decide
    rw [hE] at hB hCl hb2
    have hi0:i=0:=by simpa using hb2
    subst hi0
    simp [F_z_333,Cl.row,hB,hf,hE,hb,hCl,hI,insP,insRows,hr,callD,callR,sub,setAll,back,reachC,cut,List.idxOf_cons,V.same_self,thaw,freezeAll,freeze1,overlay,take_map_len,drop_map_len,Nat.not_succ_le_self,rg2,rg3,rg4]
  ·intro z hz
   simp only [List.mem_append,List.mem_cons] at hz
   rcases hz with h | h | h
   ·exact hw.k z (List.mem_of_mem_take h)
   ·rw [h];simp
   ·exact hw.k z (List.mem_of_mem_drop h)
 ·refine Rel.er s 6 ?_ (by simp) ⟨hw.h,hw.b,hw.c,hw.k⟩
  cases hf:s.cn
  ·rw [hf,if_neg (by decide)] at hCl
   rw [hf] at hB
   simp [F_z_333,Cl.row,hB,hf,hb,hCl,callD,callR,sub,setAll,back,reachC,cut,List.idxOf_cons,V.same_self,thaw,freezeAll,freeze1,overlay,take_map_len,drop_map_len,Nat.not_succ_le_self,rg2,rg3,rg4]
  ·rw [hf,if_pos rfl] at hCl
   rw [hf] at hB
   simp [F_z_333,Cl.row,hB,hf,hb,hCl,callD,callR,sub,setAll,back,reachC,cut,List.idxOf_cons,V.same_self,thaw,freezeAll,freeze1,overlay,take_map_len,drop_map_len,Nat.not_succ_le_self,rg2,rg3,rg4]
theorem isK_split (s:S) (t:Int) (h:isK s t=true):∃A k B,s.C=A++k::B∧bK s t=A.length∧k.task=t:=by
 unfold isK at h
 have h1:(tsk s)[bK s t]?=some t:=by simpa using h
 have h2:bK s t<s.C.length:=by
  have:=(List.getElem?_eq_some_iff.1 h1).1
  unfold tsk at this
  simpa using this
 refine ⟨s.C.take (bK s t),s.C[bK s t],s.C.drop (bK s t+1),?_,by simp;omega,?_⟩
 ·have h3:s.C.drop (bK s t)=s.C[bK s t]::s.C.drop (bK s t+1):=List.drop_eq_getElem_cons h2
  rw [←h3,List.take_append_drop]
 ·unfold tsk at h1
  rw [List.getElem?_map,List.getElem?_eq_getElem h2] at h1
  simpa using h1
theorem ev_eT2 (x y nm:D) (k sz ot:Int) (s:S) (hw:s.wf) (c:Cl) (hk:s.tk) (ht:isTask c.task=true) (hb:c.op=71) :
  Rel (ev P (.call z_333 [.d (.ag [x,y]),.d (.ag [nm,I' k,I' sz,I' ot]),.d (.ag s.row),.d (.ag c.row)] [])) (eT (rmz sz) s.pl c):=by
 have hB:=ev_BSK s.cn s.C c.task (by have:=hk.len;omega) hk.asc.asc hk.task ht
 have hCl:=ev_CloneK s.cn s.C hw.c (by have:=hk.len;omega)
 have hb2:=bI_le c.task (s.C.map K.task)
 simp only [List.length_map] at hb2
 have hlen:=hk.len
 rw [ev_call P_z_333 rfl]
 unfold eT
 rw [isK_pl,bK_pl]
 have e1:isK s c.task=decide ((s.C.map K.task)[bI c.task (s.C.map K.task)]?=some c.task):=rfl
 have e2:bK s c.task=bI c.task (s.C.map K.task):=rfl
 rw [←e1] at hB
 rw [←e2] at hB hb2
 have h69:(c.op==69)=false:=by simp [hb]
 have h71:(c.op==71)=true:=by simp [hb]
 rw [h69,h71]
 cases hg:isK s c.task
 ·rw [hg] at hB
  generalize bK s c.task=i at *
  refine Rel.er s 20 ?_ (by simp) ⟨hw.h,hw.b,hw.c,hw.k⟩
  cases hf:s.cn
  ·rw [hf,if_neg (by decide)] at hCl
   rw [hf] at hB
   simp [F_z_333,Cl.row,hB,hf,hb,hCl,callD,callR,sub,setAll,back,reachC,cut,List.idxOf_cons,V.same_self,thaw,freezeAll,freeze1,overlay,take_map_len,drop_map_len,Nat.not_succ_le_self,rg2,rg3,rg4]
  ·rw [hf,if_pos rfl] at hCl
   rw [hf] at hB
   simp [F_z_333,Cl.row,hB,hf,hb,hCl,callD,callR,sub,setAll,back,reachC,cut,List.idxOf_cons,V.same_self,thaw,freezeAll,freeze1,overlay,take_map_len,drop_map_len,Nat.not_succ_le_self,rg2,rg3,rg4]
 ·obtain ⟨A,kk,B,f1,f2,f3⟩:=isK_split s c.task hg
  have hf:s.cn=false:=by
   cases hf:s.cn
   ·rfl
   ·have:=hw.c hf;rw [this] at f1;simp at f1
  rw [hg,f2] at hB
  rw [hf] at hB hCl
  rw [if_neg (by decide)] at hCl
  have hD:=ev_DeleteK (A.map K.row) (B.map K.row) kk.row (by rw [f1] at hlen;simp at hlen ⊢;omega)
  have hrow:s.C.map K.row=A.map K.row++kk.row::B.map K.row:=by rw [f1];simp
  have hlen2:s.C.length=A.length+(B.length+1):=by rw [f1];simp
  have hwr:IntKind.i64.wrap ((A.length:Int)+1)=A.length+1:=wrap_i64 (by omega) (by omega)
  rw [hrow,hlen2] at hCl
  simp only [List.length_map] at hD
  have t6:List.take (A.length+B.length) (A.map K.row++(B.map K.row++[[I' 0,.sl 1 true []]]))=A.map K.row++B.map K.row:=by
   rw [←List.append_assoc]
   exact List.take_left' (by simp)
  refine Rel.gd { s with cn:=false,C:=A++B } ?_ ?_ ⟨hw.h,hw.b,by simp,?_⟩
  ·simp [F_z_333,Cl.row,hB,hb,hf,hCl,hwr,hD,t6,callD,callR,sub,setAll,back,reachC,cut,List.idxOf_cons,V.same_self,thaw,freezeAll,freeze1,overlay,take_map_len,drop_map_len,Nat.not_succ_le_self,rg2,rg3,rg4]
  ·rw [f2]
   have d1:List.drop (A.length+1) (List.map K.pl A++kk.pl::List.map K.pl B)=List.map K.pl B:=by
    have:List.map K.pl A++kk.pl::List.map K.pl B=(List.map K.pl A++[kk.pl])++List.map K.pl B:=by simp
    rw [this]
    exact List.drop_left' (by simp)
   simp [S.pl,f1,d1]
  ·intro z hz
   refine hw.k z ?_
   rw [f1]
   rcases List.mem_append.1 hz with h | h
   ·exact List.mem_append_left _ h
   ·exact List.mem_append_right _ (List.mem_cons_of_mem _ h)
theorem ev_eT3 (x y nm:D) (k sz ot:Int) (s:S) (hw:s.wf) (c:Cl) (hk:s.tk) (ht:isTask c.task=true) (hb:c.op=70) :
  Rel (ev P (.call z_333 [.d (.ag [x,y]),.d (.ag [nm,I' k,I' sz,I' ot]),.d (.ag s.row),.d (.ag c.row)] [])) (eT (rmz sz) s.pl c):=by
 have hB:=ev_BSK s.cn s.C c.task (by have:=hk.len;omega) hk.asc.asc hk.task ht
 have hCl:=ev_CloneK s.cn s.C hw.c (by have:=hk.len;omega)
 have hb2:=bI_le c.task (s.C.map K.task)
 simp only [List.length_map] at hb2
 have hlen:=hk.len
 rw [ev_call P_z_333 rfl]
 unfold eT
 rw [isK_pl,bK_pl]
 have e1:isK s c.task=decide ((s.C.map K.task)[bI c.task (s.C.map K.task)]?=some c.task):=rfl
 have e2:bK s c.task=bI c.task (s.C.map K.task):=rfl
 rw [←e1] at hB
 rw [←e2] at hB hb2
 have h69:(c.op==69)=false:=by simp [hb]
 have h71:(c.op==71)=false:=by simp [hb]
 have h70:(c.op==70)=true:=by simp [hb]
 rw [h69,h71,h70]
 cases hg:isK s c.task
 ·rw [hg] at hB
  generalize bK s c.task=i at *
  refine Rel.er s 20 ?_ (by simp) ⟨hw.h,hw.b,hw.c,hw.k⟩
  cases hf:s.cn
  ·rw [hf,if_neg (by decide)] at hCl
   rw [hf] at hB
   simp [F_z_333,Cl.row,hB,hf,hb,hCl,callD,callR,sub,setAll,back,reachC,cut,List.idxOf_cons,V.same_self,thaw,freezeAll,freeze1,overlay,take_map_len,drop_map_len,Nat.not_succ_le_self,rg2,rg3,rg4]
  ·rw [hf,if_pos rfl] at hCl
   rw [hf] at hB
   simp [F_z_333,Cl.row,hB,hf,hb,hCl,callD,callR,sub,setAll,back,reachC,cut,List.idxOf_cons,V.same_self,thaw,freezeAll,freeze1,overlay,take_map_len,drop_map_len,Nat.not_succ_le_self,rg2,rg3,rg4]
 ·obtain ⟨A,kk,B,f1,f2,f3⟩:=isK_split s c.task hg
  have hf:s.cn=false:=by
   cases hf:s.cn
   ·rfl
   ·have:=hw.c hf;rw [this] at f1;simp at f1
  rw [hg,f2] at hB
  rw [hf] at hB hCl
  rw [if_neg (by decide)] at hCl
  have hrow:s.C.map K.row=A.map K.row++kk.row::B.map K.row:=by rw [f1];simp
  have hlen2:s.C.length=A.length+(B.length+1):=by rw [f1];simp
  have hkm:kk∈s.C:=by rw [f1];simp
  have hlg:=hk.log kk hkm
  rw [hrow,hlen2] at hCl
  have hgt:s.pl.C[bK s c.task]?=some (K.pl kk):=by
   rw [f2,pl_C,f1];simp
  rw [hgt]
  obtain ⟨kt,kn,kl⟩:=kk
  simp only at f3 hlg
  subst f3
  cases kl with
  | nil =>
   refine Rel.er s 29 ?_ (by simp [K.pl]) ⟨hw.h,hw.b,hw.c,hw.k⟩
   have i1:(A.length:Int)<A.length+(B.length+1):=by omega
   simp [F_z_333,Cl.row,hB,hb,hf,hCl,K.row,i1,callD,callR,sub,setAll,back,reachC,cut,List.idxOf_cons,V.same_self,thaw,freezeAll,freeze1,overlay,take_map_len,drop_map_len,Nat.not_succ_le_self,rg2,rg3,rg4]
  | cons b r =>
   have hkn:kn=false:=by
    cases kn
    ·rfl
    ·have:=hw.k _ hkm rfl;simp at this
   subst hkn
   have hC2:=ev_CloneI false r (by simp) (by simp at hlg;omega)
   rw [if_neg (by decide)] at hC2
   have n0:((r.length:Int)+1==0)=false:=by simp;omega
   have n1:(1:Int)≤r.length+1:=by omega
   have i1:(A.length:Int)<A.length+(B.length+1):=by omega
   refine Rel.vl { s with cn:=false,C:=A++⟨c.task,false,r⟩::B } b ?_ ?_ ⟨hw.h,hw.b,by simp,?_⟩
   ·simp [F_z_333,Cl.row,hB,hb,hf,hCl,K.row,hC2,n0,n1,i1,callD,callR,sub,setAll,back,reachC,cut,List.idxOf_cons,V.same_self,thaw,freezeAll,freeze1,overlay,take_map_len,drop_map_len,Nat.not_succ_le_self,rg2,rg3,rg4]
    exact List.take_of_length_le (by simp)
   ·rw [f2]
    simp [S.pl,f1,K.pl]
   ·intro z hz
    rcases List.mem_append.1 hz with h | h
    ·exact hw.k z (by rw [f1];exact List.mem_append_left _ h)
    ·rcases List.mem_cons.1 h with h | h
     ·rw [h];simp
     ·exact hw.k z (by rw [f1];exact List.mem_append_right _ (List.mem_cons_of_mem _ h))
end Go.VS.Sp
namespace Go.VS.Sp
def upK (v:Int) (x:K):K:=⟨x.task,false,x.log++[v]⟩
def upR (v:Int) (x:K):List D:=[I' x.task,.sl 1 false (x.log.map (fun n=>[I' n])++[[I' v]])]
theorem upR_row (v:Int) (x:K):(upK v x).row=upR v x:=by simp [upK,K.row,upR]
def fullK (rm:Int) (x:K):Bool:=decide (rm≤(x.log.length:Int))
theorem loop_pub (nm:D) (k sz ot:Int) (row zr:List D) (hrow:row.length=9) (hz:zr.length=9) (C:List K) (c:Cl) (hn:C.length≤1000) (hk:∀x∈C,x.nl=true→x.log=[]) (hl1:∀x∈C,x.log.length≤100000):∀(suf pre:List K),C=pre++suf →
  ev P (.loop 0 [5,6,7,8,14,15,31,32] F_z_333_L0 [(5,.d (.ref [nm,I' k,I' sz,I' ot])),(6,.loc 0 0 0),(7,.d (.ref c.row)),(8,.loc 1 0 0),(14,.asl 2 0 C.length),(15,.d (I' 0)),(31,.d (I' C.length)),(32,.d (I' pre.length))]
   [.arrD 9 true [row],.arrD 9 true [zr],.arrD 2 true (pre.map (upR c.value)++suf.map K.row)]) =
   if (suf.any (fullK (rmz sz)))=true then some (.out .ret [(8,.loc 0 0 0),(9,.d (I' 0)),(10,.d (.b false)),(11,.d (I' 29))] [.arrD 9 true [row]])
   else some (.out (.exit 1) [(6,.loc 0 0 0),(8,.loc 1 0 0),(14,.asl 2 0 C.length),(15,.d (I' 0))] [.arrD 9 true [row],.arrD 9 true [zr],.arrD 2 true (C.map (upR c.value))]):=by
 intro suf
 induction suf with
 | nil =>
  intro pre hl
  have:C.length=pre.length:=by simp [hl]
  have hp:C=pre:=by simp [hl]
  rw [ev_loop]
  conv=>lhs;arg 4;unfold F_z_333_L0
  simp [this,hp,callD,callR,sub,setAll,back,reachC,cut,List.idxOf_cons,V.same_self,thaw,freezeAll,freeze1,overlay,take_map_len,drop_map_len,Nat.not_succ_le_self,rg2,rg3,rg4]
 | cons x suf ih =>
  intro pre hl
  have hg:C[pre.length]?=some x:=by simp [hl]
  have hlt:(pre.length:Int)<C.length:=by simp [hl];omega
  have hnext:IntKind.i64.wrap ((pre.length:Int)+1)=pre.length+1:=wrap_i64 (by omega) (by omega)
  have ih':=ih (pre++[x]) (by simp [hl])
  have hR:=ev_room nm k sz ot
  have hxm:x∈C:=by rw [hl];simp
  have hlg:=hl1 x hxm
  have hr:x.log.length+1≤room:=by unfold room;omega
  have hCl:=ev_CloneI x.nl x.log (hk x hxm) (by omega)
  have hlen:C.length=pre.length+(suf.length+1):=by simp [hl]
  rw [List.any_cons]
  generalize (suf.any (fullK (rmz sz)))=dd at *
  generalize hrm:rmz sz=rm at *
  rw [ev_loop]
  conv=>lhs;arg 4;unfold F_z_333_L0
  match row,hrow,zr,hz with
  | [r0,r1,r2,r3,r4,r5,r6,r7,r8],_,[z0,z1,z2,z3,z4,z5,z6,z7,z8],_ =>
  cases hf:fullK rm x
  ·have hf2:decide (rm≤(x.log.length:Int))=false:=hf
   cases hnl:x.nl
   ·rw [hnl,if_neg (by decide)] at hCl
    have t1:List.take (x.log.length+1) (List.map (fun x=>[I' x]) x.log++[[I' c.value]])=List.map (fun x=>[I' x]) x.log++[[I' c.value]]:=List.take_of_length_le (by simp)
    simp [hlt,hR,hf2,K.row,Cl.row,hnl,hCl,hr,t1,hnext,callD,callR,sub,setAll,back,reachC,cut,List.idxOf_cons,V.same_self,thaw,freezeAll,freeze1,overlay,take_map_len,drop_map_len,Nat.not_succ_le_self,rg2,rg3,rg4]
    simp [upR,Cl.row] at ih'
    exact ih'
   ·have hE:=hk x hxm hnl
    rw [hnl,if_pos rfl] at hCl
    rw [hE] at hf2 hCl
    have hr1:1≤room:=by decide
    have hf3:decide (rm≤0)=false:=hf2
    simp [hlt,hR,hf3,K.row,Cl.row,hnl,hE,hCl,hr1,hnext,callD,callR,sub,setAll,back,reachC,cut,List.idxOf_cons,V.same_self,thaw,freezeAll,freeze1,overlay,take_map_len,drop_map_len,Nat.not_succ_le_self,rg2,rg3,rg4]
    simp [upR,Cl.row,hE] at ih'
    exact ih'
  ·have hf2:decide (rm≤(x.log.length:Int))=true:=hf
   simp [hlt,hR,hf2,K.row,callD,callR,sub,setAll,back,reachC,cut,List.idxOf_cons,V.same_self,thaw,freezeAll,freeze1,overlay,take_map_len,drop_map_len,Nat.not_succ_le_self,rg2,rg3,rg4]
theorem any_full_pl (rm:Int) (C:List K):((C.map K.pl).any fun x=>decide (rm≤x.log.length))=C.any (fullK rm):=by
 rw [List.any_map]
 rfl
theorem ev_eT4 (x y nm:D) (k sz ot:Int) (s:S) (hw:s.wf) (c:Cl) (hk:s.tk) (ht:isTask c.task=true) (hb:c.op=68) :
  Rel (ev P (.call z_333 [.d (.ag [x,y]),.d (.ag [nm,I' k,I' sz,I' ot]),.d (.ag s.row),.d (.ag c.row)] [])) (eT (rmz sz) s.pl c):=by
 have hB:=ev_BSK s.cn s.C c.task (by have:=hk.len;omega) hk.asc.asc hk.task ht
 have hCl:=ev_CloneK s.cn s.C hw.c (by have:=hk.len;omega)
 have hlen:=hk.len
 unfold eT
 have h69:(c.op==69)=false:=by simp [hb]
 have h71:(c.op==71)=false:=by simp [hb]
 have h70:(c.op==70)=false:=by simp [hb]
 rw [h69,h71,h70,pl_C,any_full_pl]
 cases hf:s.cn
 ·rw [hf,if_neg (by decide)] at hCl
  have hL:ev P (.loop 0 [5,6,7,8,14,15,31,32] F_z_333_L0 [(5,.d (.ref [nm,I' k,I' sz,I' ot])),(6,.loc 0 0 0),(7,.d (.ref c.row)),(8,.loc 1 0 0),(14,.asl 2 0 s.C.length),(15,.d (I' 0)),(31,.d (I' s.C.length)),(32,.d (I' 0))]
   [.arrD 9 true [s.row],.arrD 9 true [zrow],.arrD 2 true (s.C.map K.row)])=_:=loop_pub nm k sz ot s.row zrow rfl rfl s.C c hlen hw.k hk.log s.C [] rfl
  generalize s.C.any (fullK (rmz sz))=dd at *
  rw [hf] at hB
  generalize bI c.task (s.C.map K.task)=i at *
  generalize decide ((s.C.map K.task)[i]?=some c.task)=g at *
  rw [ev_call P_z_333 rfl]
  simp only [S.row,hf,Cl.row,hb,zrow] at hL
  have e:(s.C.map K.pl).map (fun x=>(⟨x.task,false,x.log++[c.value]⟩:K))=(s.C.map (upK c.value)).map K.pl:=by
   rw [List.map_map,List.map_map];rfl
  have e2:s.C.map (upR c.value)=(s.C.map (upK c.value)).map K.row:=by
   rw [List.map_map]
   exact List.map_congr_left fun x _=>(upR_row c.value x).symm
  rw [e2] at hL
  cases dd
  ·rw [if_neg (by decide)] at hL
   refine Rel.gd { s with cn:=false,C:=s.C.map (upK c.value) } ?_ (by rw [e];simp [S.pl]) ⟨hw.h,hw.b,by simp,?_⟩
   ·have t8:List.take s.C.length ((s.C.map (upK c.value)).map K.row)=(s.C.map (upK c.value)).map K.row:=List.take_of_length_le (by simp)
    have hrow:cD false (s.C.map (upK c.value)) = .sl 2 false ((s.C.map (upK c.value)).map K.row):=rfl
    have hRL:((s.C.map (upK c.value)).map K.row).length=s.C.length:=by simp
    simp only [S.row]
    rw [hrow]
    clear hrow
    generalize (s.C.map (upK c.value)).map K.row=RR at *
    simp [F_z_333,Cl.row,hB,hb,hf,hCl,hL,hRL,t8,callD,callR,sub,setAll,back,reachC,cut,List.idxOf_cons,V.same_self,thaw,freezeAll,freeze1,overlay,take_map_len,drop_map_len,Nat.not_succ_le_self,rg2,rg3,rg4]
   ·intro z hz
    obtain ⟨w,_,rfl⟩:=List.mem_map.1 hz
    simp [upK]
  ·rw [if_pos rfl] at hL
   refine Rel.er s 29 ?_ (by simp) ⟨hw.h,hw.b,hw.c,hw.k⟩
   simp [F_z_333,Cl.row,hB,hb,hf,hCl,hL,callD,callR,sub,setAll,back,reachC,cut,List.idxOf_cons,V.same_self,thaw,freezeAll,freeze1,overlay,take_map_len,drop_map_len,Nat.not_succ_le_self,rg2,rg3,rg4]
 ·have hE:=hw.c hf
  rw [hf,if_pos rfl] at hCl
  rw [hE] at hCl hB ⊢
  rw [hf] at hB
  rw [ev_call P_z_333 rfl]
  refine Rel.gd s ?_ (by simp [S.pl,hE]) hw
  simp [F_z_333,Cl.row,hB,hb,hf,hE,hCl,F_z_333_L0,ev_loop,callD,callR,sub,setAll,back,reachC,cut,List.idxOf_cons,V.same_self,thaw,freezeAll,freeze1,overlay,take_map_len,drop_map_len,Nat.not_succ_le_self,rg2,rg3,rg4]
end Go.VS.Sp
namespace Go.VS.Sp
end Go.VS.Sp
namespace Go.VS.Sp
end Go.VS.Sp
namespace Go.VS.Sp
structure S.sz (s:S):Prop where
 h:s.H.length≤10000
 b:s.B.length≤10000
 q:s.Q.length≤10000
 c:s.C.length≤1000
 l:∀c∈s.C,c.log.length≤10000
theorem S.sz.sm {s:S} (h:s.sz):s.sm:=⟨by have:=h.h;omega,by have:=h.b;omega,by have:=h.q;omega,by have:=h.c;omega,fun c hc=>by have:=h.l c hc;omega⟩
theorem ck_zero {n:Int} {b:Bool}:(ck n b==0)=(n==0&&b):=by
 unfold ck
 by_cases h:n=0
 ·cases b<;>simp [h]
 ·simp [h]
def iniR (k sz:Int):List D:=if k=4∨k=8 then grow sz else frow
end Go.VS.Sp
namespace Go.VS.Sp
theorem ev_abs1 (nm:D) (sz ot:Int) (s:S) (hq:s.Q=[]) (hs:s.sm) :
  ev P (.call z_312 [.d (.ag [.fn z_62 [] [],.fn z_63 [] []]),.d (.ag [nm,I' 1,I' sz,I' ot]),.d (.ag s.row)] [])=some (.val (.d (.b (absB 1 sz ot s))) []):=by
 have h:=ev_ckM nm 1 sz ot s hq hs
 have e:absB 1 sz ot s=(ck (nwA 1 1 sz ot) (okM s)==0):=by
  unfold absB
  rw [ck_zero]
  simp [newO,ckO,szO,vzO,hq,ck_zero]
 rw [e]
 simp only [S.row] at h
 rw [ev_call P_z_312 rfl]
 simp [F_z_312,h,toD,allD]
theorem ev_abs2 (nm:D) (sz ot:Int) (s:S) (hq:s.Q=[]) (hs:s.sm) :
  ev P (.call z_312 [.d (.ag [.fn z_67 [] [],.fn z_68 [] []]),.d (.ag [nm,I' 2,I' sz,I' ot]),.d (.ag s.row)] [])=some (.val (.d (.b (absB 2 sz ot s))) []):=by
 have h:=ev_ckW nm 2 sz ot s hq hs
 have e:absB 2 sz ot s=(ck (nwA 2 2 sz ot) (okW s)==0):=by
  unfold absB
  rw [ck_zero]
  simp [newO,ckO,szO,vzO,hq,ck_zero]
 rw [e]
 simp only [S.row] at h
 rw [ev_call P_z_312 rfl]
 simp [F_z_312,h,toD,allD]
theorem ev_abs4 (nm:D) (sz ot:Int) (s:S) (hq:s.Q=[]) (hs:s.sm) :
  ev P (.call z_312 [.d (.ag [.fn z_72 [] [],.fn z_73 [] []]),.d (.ag [nm,I' 4,I' sz,I' ot]),.d (.ag s.row)] [])=some (.val (.d (.b (absB 4 sz ot s))) []):=by
 have h:=ev_ckS nm 4 sz ot s hq hs
 have e:absB 4 sz ot s=(ck (nwS 4 sz ot) (okS sz s)==0):=by
  unfold absB
  rw [ck_zero]
  simp [newO,ckO,szO,vzO,hq,ck_zero]
 rw [e]
 simp only [S.row] at h
 rw [ev_call P_z_312 rfl]
 simp [F_z_312,h,toD,allD]
theorem ev_abs8 (nm:D) (sz ot:Int) (s:S) (hq:s.Q=[]) (hs:s.sm) :
  ev P (.call z_312 [.d (.ag [.fn z_92 [] [],.fn z_93 [] []]),.d (.ag [nm,I' 8,I' sz,I' ot]),.d (.ag s.row)] [])=some (.val (.d (.b (absB 8 sz ot s))) []):=by
 have h:=ev_ckL nm 8 sz ot s hq hs
 have e:absB 8 sz ot s=(ck (nwL 8 sz ot) (okL sz s)==0):=by
  unfold absB
  rw [ck_zero]
  simp [newO,ckO,szO,vzO,hq,ck_zero]
 rw [e]
 simp only [S.row] at h
 rw [ev_call P_z_312 rfl]
 simp [F_z_312,h,toD,allD]
theorem ev_abs9 (nm:D) (sz ot:Int) (s:S) (hq:s.Q=[]) (hs:s.sm) :
  ev P (.call z_312 [.d (.ag [.fn z_97 [] [],.fn z_98 [] []]),.d (.ag [nm,I' 9,I' sz,I' ot]),.d (.ag s.row)] [])=some (.val (.d (.b (absB 9 sz ot s))) []):=by
 have h:=ev_ckF nm 9 sz ot s hq
 have e:absB 9 sz ot s=(ck (nwA 9 9 sz ot) (okF s)==0):=by
  unfold absB
  rw [ck_zero]
  simp [newO,ckO,szO,vzO,hq,ck_zero]
 rw [e]
 simp only [S.row] at h
 rw [ev_call P_z_312 rfl]
 simp [F_z_312,h,toD,allD]
theorem ev_abs5 (nm:D) (sz ot:Int) (s:S) (hq:s.Q=[]) (hs:s.sm) :
  ev P (.call z_324 [.d (.ag [.fn z_77 [] [],.fn z_78 [] []]),.d (.ag [nm,I' 5,I' sz,I' ot]),.d (.ag s.row)] [])=some (.val (.d (.b (absB 5 sz ot s))) []):=by
 have h:=ev_ckB nm 5 sz ot { s with val:=0 } hq ⟨hs.h,hs.b,hs.q,hs.c,hs.l⟩
 have e:absB 5 sz ot s=(decide (0≤s.val)&&(decide (s.val<sz)&&(ck (nwB 5 sz ot) (okB { s with val:=0 })==0))):=by
  unfold absB
  rw [ck_zero]
  have e1:(decide (s.val<0)||decide (sz≤s.val))=!(decide (0≤s.val)&&decide (s.val<sz)):=by rw [Bool.eq_iff_iff];simp
  rw [e1]
  simp [newO,ckO,szO,vzO,hq,ck_zero]
  cases (nwB 5 sz ot==0)<;>cases decide (0≤s.val)<;>cases decide (s.val<sz)<;>simp
 rw [e]
 simp only [S.row] at h
 generalize ck (nwB 5 sz ot) (okB { s with val:=0 })=r at *
 rw [ev_call P_z_324 rfl]
 cases h1:decide (0≤s.val)
 ·simp [F_z_324,h1]
 ·cases h2:decide (s.val<sz)
  ·simp [F_z_324,h1,h2]
  ·simp [F_z_324,h1,h2,h,toD,allD]
theorem sm_bare (o c t:Int) (q:Bool):(bare o c t q).sm:=⟨by simp [bare],by simp [bare],by simp [bare],by simp [bare],by simp [bare]⟩
theorem ev_abs6 (nm:D) (sz ot:Int) (s:S) (hq:s.Q=[]) (hs:s.sm) :
  ev P (.call z_327 [.d (.ag [.fn z_82 [] [],.fn z_83 [] []]),.d (.ag [nm,I' 6,I' sz,I' ot]),.d (.ag s.row)] [])=some (.val (.d (.b (absB 6 sz ot s))) []):=by
 have h:=ev_ckC nm 6 (rmz sz) ot s hq hs
 have h0:=ev_ckC nm 6 sz ot (bare (-1) 0 0 true) rfl (sm_bare _ _ _ _)
 have hR:=ev_room nm 6 sz ot
 have e0:(ck (nwC 6 sz ot) (okC sz (bare (-1) 0 0 true))==0)=(nwC 6 sz ot==0):=by
  rw [ck_zero]
  cases hn:nwC 6 sz ot==0
  ·rfl
  ·have:¬sz<0:=by
    intro hlt
    have hn2:nwC 6 sz ot=0:=by simpa using hn
    unfold nwC at hn2
    simp [hlt] at hn2
   simp [okC,okCb,bare,this]
 have e:absB 6 sz ot s=((nwC 6 sz ot==0)&&(ck (nwC 6 (rmz sz) ot) (okC (rmz sz) s)==0)):=by
  unfold absB
  simp [newO,ckO,szO,vzO,hq]
 rw [e,←e0]
 simp only [S.row] at h
 generalize ck (nwC 6 (rmz sz) ot) (okC (rmz sz) s)=r at *
 generalize ck (nwC 6 sz ot) (okC sz (bare (-1) 0 0 true))=r0 at *
 have h0:ev P (.call z_83 [.d (.ag [nm,I' 6,I' sz,I' ot]),.d (.ag [I' (-1),I' 0,I' 0,.sl 1 true [],.sl 5 true [],.sl 1 true [],.sl 2 true [],.b false,I' 0])] [])=some (.val (.d (I' r0)) []):=h0
 rw [ev_call P_z_327 rfl]
 cases h1:r0==0
 ·simp [F_z_327,h0,h1,toD,allD]
 ·simp [F_z_327,h0,h1,hR,h,toD,allD]
theorem ev_abs7 (nm:D) (sz ot:Int) (s:S) (hq:s.Q=[]) (hs:s.sm) :
  ev P (.call z_332 [.d (.ag [.fn z_87 [] [],.fn z_88 [] []]),.d (.ag [nm,I' 7,I' sz,I' ot]),.d (.ag s.row)] [])=some (.val (.d (.b (absB 7 sz ot s))) []):=by
 have h:=ev_mCheck nm 7 (rmz sz) ot s hs
 have h0:=ev_mCheck nm 7 sz ot (bare (-1) 0 0 true) (sm_bare _ _ _ _)
 have hR:=ev_room nm 7 sz ot
 have e0:(ckd 7 sz ot (bare (-1) 0 0 true)==0)=(mnew 7 sz ot==0):=by
  unfold ckd
  by_cases hn:mnew 7 sz ot=0
  ·simp [hn,S.good,bare,vc,tq,wchk,wcheckFrom,S.fl0]
  ·simp [hn]
 have e:absB 7 sz ot s=((mnew 7 sz ot==0)&&(ckd 7 (rmz sz) ot s==0)):=by
  unfold absB
  simp [newO,ckO,szO,vzO,hq]
 rw [e,←e0]
 simp only [S.row] at h
 generalize ckd 7 (rmz sz) ot s=r at *
 generalize ckd 7 sz ot (bare (-1) 0 0 true)=r0 at *
 have h0:ev P (.call z_88 [.d (.ag [nm,I' 7,I' sz,I' ot]),.d (.ag [I' (-1),I' 0,I' 0,.sl 1 true [],.sl 5 true [],.sl 1 true [],.sl 2 true [],.b false,I' 0])] [])=some (.val (.d (I' r0)) []):=h0
 rw [ev_call P_z_332 rfl]
 cases h1:r0==0
 ·simp [F_z_332,h0,h1,toD,allD]
 ·simp [F_z_332,h0,h1,hR,h,toD,allD]
end Go.VS.Sp
namespace Go.VS.Sp
theorem abs_of {k sz ot:Int} {s:S} (h:absB k sz ot s=true):newO k sz ot=0∧s.Q=[]∧(k=5→0≤s.val∧s.val<sz)∧ckO k (szO k sz) ot (vzO k s)=0:=by
 unfold absB at h
 simp only [Bool.and_eq_true,beq_iff_eq,List.isEmpty_iff] at h
 obtain ⟨⟨⟨h1,h2⟩,h3⟩,h4⟩:=h
 refine ⟨h1,h2,fun h5=>?_,h4⟩
 simp [h5] at h3
 omega
theorem ck_ok {n:Int} {b:Bool} (h:ck n b=0):b=true:=by
 have:(ck n b==0)=true:=by simp [h]
 rw [ck_zero,Bool.and_eq_true] at this
 exact this.2
theorem ck_nw {n:Int} {b:Bool} (h:ck n b=0):n=0:=by
 have:(ck n b==0)=true:=by simp [h]
 rw [ck_zero,Bool.and_eq_true] at this
 simpa using this.1
theorem abs1 {sz ot:Int} {s:S} (h:absB 1 sz ot s=true):okM s=true:=by
 obtain ⟨_,_,_,h⟩:=abs_of h
 exact ck_ok (by simpa [ckO,szO,vzO] using h)
theorem abs2 {sz ot:Int} {s:S} (h:absB 2 sz ot s=true):okW s=true:=by
 obtain ⟨_,_,_,h⟩:=abs_of h
 exact ck_ok (by simpa [ckO,szO,vzO] using h)
theorem abs4 {sz ot:Int} {s:S} (h:absB 4 sz ot s=true):nwS 4 sz ot=0∧okS sz s=true:=by
 obtain ⟨_,_,_,h⟩:=abs_of h
 have h:ck (nwS 4 sz ot) (okS sz s)=0:=by simpa [ckO,szO,vzO] using h
 exact ⟨ck_nw h,ck_ok h⟩
theorem abs5 {sz ot:Int} {s:S} (h:absB 5 sz ot s=true):nwB 5 sz ot=0∧okB { s with val:=0 }=true∧0≤s.val∧s.val<sz:=by
 obtain ⟨_,_,h5,h⟩:=abs_of h
 have h:ck (nwB 5 sz ot) (okB { s with val:=0 })=0:=by simpa [ckO,szO,vzO] using h
 exact ⟨ck_nw h,ck_ok h,h5 rfl⟩
theorem abs6 {sz ot:Int} {s:S} (h:absB 6 sz ot s=true):nwC 6 sz ot=0∧okC (rmz sz) s=true:=by
 obtain ⟨h0,_,_,h⟩:=abs_of h
 have h:ck (nwC 6 (rmz sz) ot) (okC (rmz sz) s)=0:=by simpa [ckO,szO,vzO] using h
 exact ⟨by simpa [newO] using h0,ck_ok h⟩
theorem abs7 {sz ot:Int} {s:S} (h:absB 7 sz ot s=true):mnew 7 sz ot=0∧S.good (rmz sz) s=true:=by
 obtain ⟨h0,_,_,h⟩:=abs_of h
 have h:ckd 7 (rmz sz) ot s=0:=by simpa [ckO,szO,vzO] using h
 refine ⟨by simpa [newO] using h0,?_⟩
 unfold ckd at h
 split at h
 ·split at h
  ·assumption
  ·simp at h
 ·rename_i h2;exact absurd h h2
theorem abs8 {sz ot:Int} {s:S} (h:absB 8 sz ot s=true):nwL 8 sz ot=0∧okL sz s=true:=by
 obtain ⟨_,_,_,h⟩:=abs_of h
 have h:ck (nwL 8 sz ot) (okL sz s)=0:=by simpa [ckO,szO,vzO] using h
 exact ⟨ck_nw h,ck_ok h⟩
theorem okM_own {s:S} (h:okM s=true):s.own = -1∨isTask s.own=true:=by
 unfold okM at h
 simp at h
 exact h.1
theorem isTask_bd {n:Int} (h:isTask n=true):0≤n∧n<16:=isTask_iff.1 h
theorem okW_facts {s:S} (h:okW s=true):SAsc s.H∧(∀x∈s.H,isTask x=true)∧(s.own = -1∨(isTask s.own=true∧s.H=[])):=by
 unfold okW at h
 rw [Bool.and_eq_true] at h
 obtain ⟨h1,h2⟩:=h
 obtain ⟨_,h3,h4⟩:=(okH_iff s.H none).1 h2
 refine ⟨h3,h4,?_⟩
 unfold okWb at h1
 rw [len1] at h1
 by_cases ho:s.own = -1
 ·exact .inl ho
 ·right
  simp [ho] at h1
  obtain ⟨⟨⟨⟨⟨⟨h5,_⟩,_⟩,_⟩,_⟩,_⟩,_⟩:=h1
  exact h5
theorem nwS_bd {sz ot:Int} (h:nwS 4 sz ot=0):1≤sz∧sz≤100:=by
 unfold nwS at h
 simp at h
 omega
theorem nwB_bd {sz ot:Int} (h:nwB 5 sz ot=0):1≤sz∧sz≤100:=by
 unfold nwB at h
 simp at h
 omega
theorem nwL_bd {sz ot:Int} (h:nwL 8 sz ot=0):1≤sz∧sz≤100∧1≤ot∧ot≤1099511627776:=by
 unfold nwL at h
 simp at h
 omega
theorem okS_bd {sz:Int} {s:S} (h:okS sz s=true):0≤s.cnt∧s.cnt≤sz:=by
 unfold okS at h
 simp at h
 omega
theorem okB_bd {s:S} (h:okB s=true):0≤s.cnt∧s.cnt≤1099511627776:=by
 unfold okB at h
 simp at h
 omega
theorem okL_bd {sz:Int} {s:S} (h:okL sz s=true):(0≤s.cnt∧s.cnt≤sz)∧0≤s.time∧s.time≤1099511627776:=by
 unfold okL at h
 simp at h
 omega
theorem good_vc {sz:Int} {s:S} (h:S.good sz s=true):SAsc (tsk s)∧∀x∈s.C,isTask x.task=true∧¬sz<x.log.length∧x.log.all num=true:=by
 unfold S.good at h
 simp only [Bool.and_eq_true] at h
 obtain ⟨_,h1,h2⟩:=(vc_iff sz s.C none).1 h.1.2.1
 exact ⟨h1,h2⟩
theorem cbad_bd {c:Cl} (h:cbad c=false):isTask c.task=true∧0≤c.now∧c.now≤1099511627776:=by
 unfold cbad at h
 simp at h
 refine ⟨isTask_iff.2 (by omega),by omega,by omega⟩
theorem effI1 (nm:D) (sz ot:Int) (s:S) (c:Cl) (hw:s.wf) (hz:s.sz) (ha:absB 1 sz ot s=true) (hc:cbad c=false) (hb:blg 1 c.op=true) (hf:fit 1 sz c=true) :
  Rel (ev P (.call z_315 [.d (.ag [.fn z_62 [] [],.fn z_63 [] []]),.d (.ag [nm,I' 1,I' sz,I' ot]),.d (.ag s.row),.d (.ag c.row)] [])) (raw 1 sz ot s.pl c):=by
 have h1:=okM_own (abs1 ha)
 have h2:s.own = -1∨0≤s.own:=by
  rcases h1 with h | h
  ·exact .inl h
  ·exact .inr (isTask_bd h).1
 have e:raw 1 sz ot s.pl c=eM s.pl c:=rfl
 rw [e]
 exact ev_eM _ rfl _ _ s hw c h2
theorem effI2 (nm:D) (sz ot:Int) (s:S) (c:Cl) (hw:s.wf) (hz:s.sz) (ha:absB 2 sz ot s=true) (hc:cbad c=false) (hb:blg 2 c.op=true) (hf:fit 2 sz c=true) :
  Rel (ev P (.call z_319 [.d (.ag [.fn z_67 [] [],.fn z_68 [] []]),.d (.ag [nm,I' 2,I' sz,I' ot]),.d (.ag s.row),.d (.ag c.row)] [])) (raw 2 sz ot s.pl c):=by
 obtain ⟨h1,h2,h3⟩:=okW_facts (abs2 ha)
 have h4:s.own = -1∨0≤s.own:=by
  rcases h3 with h | h
  ·exact .inl h
  ·exact .inr (isTask_bd h.1).1
 have h5:s.own = -1∨s.H=[]:=by
  rcases h3 with h | h
  ·exact .inl h
  ·exact .inr h.2
 have hl:=hz.h
 have e:raw 2 sz ot s.pl c=eW s.pl c:=rfl
 rw [e]
 exact ev_eW _ rfl _ _ s hw c h1 (by omega) h4
theorem effI4 (nm:D) (sz ot:Int) (s:S) (c:Cl) (hw:s.wf) (hz:s.sz) (ha:absB 4 sz ot s=true) (hc:cbad c=false) (hb:blg 4 c.op=true) (hf:fit 4 sz c=true) :
  Rel (ev P (.call z_322 [.d (.ag [.fn z_72 [] [],.fn z_73 [] []]),.d (.ag [nm,I' 4,I' sz,I' ot]),.d (.ag s.row),.d (.ag c.row)] [])) (raw 4 sz ot s.pl c):=by
 obtain ⟨h1,h2⟩:=abs4 ha
 have h3:=nwS_bd h1
 have h4:=okS_bd h2
 have h5:1≤c.value∧c.value≤sz:=by simpa [fit] using hf
 have e:raw 4 sz ot s.pl c=eS sz s.pl c:=rfl
 rw [e]
 exact ev_eS _ _ nm 4 sz ot s hw c h3.2 h4 h5
theorem effI5 (nm:D) (sz ot:Int) (s:S) (c:Cl) (hw:s.wf) (hz:s.sz) (ha:absB 5 sz ot s=true) (hc:cbad c=false) (hb:blg 5 c.op=true) (hf:fit 5 sz c=true) :
  Rel (ev P (.call z_325 [.d (.ag [.fn z_77 [] [],.fn z_78 [] []]),.d (.ag [nm,I' 5,I' sz,I' ot]),.d (.ag s.row),.d (.ag c.row)] [])) (raw 5 sz ot s.pl c):=by
 obtain ⟨h1,h2,h3,h4⟩:=abs5 ha
 have h5:=nwB_bd h1
 have h6:=okB_bd h2
 simp only at h6
 have e:raw 5 sz ot s.pl c=eB sz s.pl:=rfl
 rw [e]
 exact ev_eB _ rfl _ _ nm 5 sz ot s hw h5.2 ⟨h3,h4⟩ h6
theorem effI6 (nm:D) (sz ot:Int) (s:S) (c:Cl) (hw:s.wf) (hz:s.sz) (ha:absB 6 sz ot s=true) (hc:cbad c=false) (hb:blg 6 c.op=true) (hf:fit 6 sz c=true) :
  Rel (ev P (.call z_328 [.d (.ag [.fn z_82 [] [],.fn z_83 [] []]),.d (.ag [nm,I' 6,I' sz,I' ot]),.d (.ag s.row),.d (.ag c.row)] [])) (raw 6 sz ot s.pl c):=by
 have h1:c.op=64∨c.op=65∨c.op=66:=by
  simp [blg] at hb
  omega
 have hl:=hz.b
 have e:raw 6 sz ot s.pl c=eC (rmz sz) s.pl c:=rfl
 rw [e]
 exact ev_eC _ _ nm 6 sz ot s hw c h1 (by omega)
theorem effI7 (nm:D) (sz ot:Int) (s:S) (c:Cl) (hw:s.wf) (hz:s.sz) (ha:absB 7 sz ot s=true) (hc:cbad c=false) (hb:blg 7 c.op=true) (hf:fit 7 sz c=true) :
  Rel (ev P (.call z_333 [.d (.ag [.fn z_87 [] [],.fn z_88 [] []]),.d (.ag [nm,I' 7,I' sz,I' ot]),.d (.ag s.row),.d (.ag c.row)] [])) (raw 7 sz ot s.pl c):=by
 obtain ⟨_,h1⟩:=abs7 ha
 obtain ⟨h2,h3⟩:=good_vc h1
 have hk:s.tk:=⟨h2,fun x hx=>(h3 x hx).1,hz.c,fun x hx=>by have:=hz.l x hx;omega⟩
 have ht:=(cbad_bd hc).1
 have h4:c.op=68∨c.op=69∨c.op=70∨c.op=71:=by
  simp [blg] at hb
  omega
 have e:raw 7 sz ot s.pl c=eT (rmz sz) s.pl c:=rfl
 rw [e]
 rcases h4 with h | h | h | h
 ·exact ev_eT4 _ _ nm 7 sz ot s hw c hk ht h
 ·exact ev_eT1 _ _ nm 7 sz ot s hw c hk ht h
 ·exact ev_eT3 _ _ nm 7 sz ot s hw c hk ht h
 ·exact ev_eT2 _ _ nm 7 sz ot s hw c hk ht h
theorem effI8 (nm:D) (sz ot:Int) (s:S) (c:Cl) (hw:s.wf) (hz:s.sz) (ha:absB 8 sz ot s=true) (hc:cbad c=false) (hb:blg 8 c.op=true) (hf:fit 8 sz c=true) :
  Rel (ev P (.call z_339 [.d (.ag [.fn z_92 [] [],.fn z_93 [] []]),.d (.ag [nm,I' 8,I' sz,I' ot]),.d (.ag s.row),.d (.ag c.row)] [])) (raw 8 sz ot s.pl c):=by
 obtain ⟨h1,h2⟩:=abs8 ha
 have h3:=nwL_bd h1
 have h4:=okL_bd h2
 have h5:=(cbad_bd hc).2
 have h6:c.op=72∨c.op=75:=by simpa [blg] using hb
 have h7:c.op=72→1≤c.value∧c.value≤sz:=by
  intro h
  simpa [fit,h] using hf
 have e:raw 8 sz ot s.pl c=eL sz ot s.pl c:=rfl
 rw [e]
 exact ev_eL _ _ nm 8 sz ot s hw c ⟨h3.1,h3.2.1⟩ h3.2.2 h4.1 h4.2 h5 h6 h7
theorem effI9 (nm:D) (sz ot:Int) (s:S) (c:Cl) (hw:s.wf) (hz:s.sz) (ha:absB 9 sz ot s=true) (hc:cbad c=false) (hb:blg 9 c.op=true) (hf:fit 9 sz c=true) :
  Rel (ev P (.call z_341 [.d (.ag [.fn z_97 [] [],.fn z_98 [] []]),.d (.ag [nm,I' 9,I' sz,I' ot]),.d (.ag s.row),.d (.ag c.row)] [])) (raw 9 sz ot s.pl c):=by
 have h1:c.op=73∨c.op=74:=by simpa [blg] using hb
 have e:raw 9 sz ot s.pl c=eF s.pl c:=rfl
 rw [e]
 exact ev_eF _ rfl _ _ s hw c h1
end Go.VS.Sp
