import Derived.Test.YtjpdopldkeodgaaGreatV06
set_option linter.all false
namespace Go.VS.Sp
abbrev I' (n:Int):D:=.i .i64 n
structure W where
 task:Int
 op:Int
 value:Int
 prio:Int
 case:Int
 deriving DecidableEq
@[simp] theorem W.eta (w:W):W.mk w.task w.op w.value w.prio w.case=w:=rfl
def W.row (w:W):List D:=[I' w.task,I' w.op,I' w.value,I' w.prio,I' w.case]
def wbad (w:W):Bool:=(decide (w.task<0)||decide (16≤w.task)||decide (w.op<1)||decide (99<w.op)||decide (w.value < -1099511627776)||decide (1099511627776<w.value))
def wvalid (w:W):Bool:=!wbad w&&(decide (0≤w.prio)&&decide (w.prio≤9)&&decide (-1≤w.case)&&decide (w.case<6))
theorem ev_wvalid (a b c d e:Int):ev P (.call z_218 [.d (.ag [I' a,I' b,I' c,I' d,I' e])] [])=some (.val (.d (.b (wvalid ⟨a,b,c,d,e⟩))) []):=by
 rw [ev_call P_z_218 rfl]
 cases h:wbad ⟨a,b,c,d,e⟩<;>simp only [wvalid,h]<;>unfold wbad at h<;>simp [F_z_218,W.row,h]
def wcheckFrom (d:Int) (prev:Option W):List W→Int
 | []=>0
 | w::r=>if wvalid w=false then 2 else if d=2∧(prev.any fun p=>decide (p.prio<w.prio))=true then 9 else wcheckFrom d (some w) r
theorem wrap1:IntKind.i64.wrap 1=1:=by decide
theorem loop_wcheck (d:Int) (nl:Bool) (l:List W) (hn:l.length≤96):∀(suf pre:List W),l=pre++suf →
  ev P (.loop 0 [0,1,16,17,18] F_z_142_L0 [(0,.d (I' d)),(1,.d (.sl 5 nl (l.map W.row))),(16,.d (.sl 5 nl (l.map W.row))),(17,.d (I' l.length)),(18,.d (I' pre.length))] []) =
   if wcheckFrom d pre.getLast? suf=0 then some (.out (.exit 0) [] []) else some (.out .ret [(4,.d (I' (wcheckFrom d pre.getLast? suf)))] []):=by
 intro suf
 induction suf with
 | nil =>
  intro pre hl
  have:l.length=pre.length:=by simp [hl]
  rw [ev_loop]
  conv=>lhs;arg 4;unfold F_z_142_L0
  simp [this,wcheckFrom]
 | cons w suf ih =>
  intro pre hl
  have hg:l[pre.length]?=some w:=by simp [hl]
  have hlt:(pre.length:Int)<l.length:=by simp [hl];omega
  rw [ev_loop]
  conv=>lhs;arg 4;unfold F_z_142_L0
  simp [hlt,hg,W.row,ev_wvalid]
  cases hv:wvalid w
  ·simp [wcheckFrom,hv]
  ·simp
   have hnext:IntKind.i64.wrap ((pre.length:Int)+1)=pre.length+1:=wrap_i64 (by omega) (by omega)
   have ih':=ih (pre++[w]) (by simp [hl])
   simp at ih'
   rcases List.eq_nil_or_concat pre with rfl | ⟨pre',p,rfl⟩
   ·simp [wcheckFrom,hv,wrap1] at *
    exact ih'
   ·have hgp:l[pre'.length]?=some p:=by simp [hl]
    have hlen:((pre'.length:Int)+1<l.length):=by simp [hl];omega
    have hw:IntKind.i64.wrap ((pre'.length:Int)+1 - 1)=pre'.length:=by rw [wrap_i64 (by omega) (by omega)];omega
    have h0:(0:Int)<pre'.length+1:=by omega
    have hw2:IntKind.i64.wrap (pre'.length:Int)=pre'.length:=wrap_i64 (by omega) (by omega)
    have hw3:IntKind.i64.wrap ((pre'.length:Int)+1+1)=pre'.length+1+1:=wrap_i64 (by omega) (by omega)
    simp at ih'
    by_cases hd:d=2
    ·by_cases hp:p.prio<w.prio
     ·subst hd
      simp [wcheckFrom,hv,hp,hw2,hw3,hgp,W.row,h0]
     ·subst hd
      simp [wcheckFrom,hv,hp,hw2,hw3,hgp,W.row,h0]
      exact ih'
    ·have hd2:(d==2)=false:=by simp [hd]
     simp [wcheckFrom,hv,hd,hd2,hw2,hw3,hgp,W.row,h0]
     exact ih'
def wchk (l:List W):Int:=if 96<l.length then 4 else wcheckFrom 1 none l
theorem ev_wCheck (nl:Bool) (l:List W):ev P (.call z_142 [.d (I' 1),.d (.sl 5 nl (l.map W.row))] []) =
  some (.val (.d (I' (wchk l))) []):=by
 unfold wchk
 rw [ev_call P_z_142 rfl]
 by_cases h:96<l.length
 ·have h':(96:Int)<l.length:=by omega
  simp [F_z_142,h,h']
 ·have h':¬(96:Int)<l.length:=by omega
  have hl:=loop_wcheck 1 nl l (by omega) l [] rfl
  simp at hl
  simp [F_z_142,h,h',hl]
  by_cases hc:wcheckFrom 1 none l=0<;>simp [hc]
theorem allD_map':∀(ds:List D),allD (ds.map V.d)=some ds
 | []=>rfl
 | d::ds=>by simp [allD_map' ds]
theorem allD_mid {a b:List D} {x:D}:allD (a.map V.d++.d x::b.map V.d)=some (a++x::b):=by
 have:=allD_map' (a++x::b)
 simpa using this
def idx {α:Type} (p:α→Bool):Int→List α→Int
 | _,[]=>-1
 | k,w::r=>if p w then k else idx p (k+1) r
theorem loop_IndexFunc {f:Nat} {first caps:List D} {p:W→Bool} (nl:Bool) (l:List W) (hn:l.length≤1000000)
  (hp:∀a b c d e,ev P (.call f (first.map V.d++[.d (.ag [I' a,I' b,I' c,I' d,I' e])]++caps.map V.d) [])=some (.val (.d (.b (p ⟨a,b,c,d,e⟩))) [])) :
  ∀(suf pre:List W),l=pre++suf →
  ev P (.loop 0 [0,1,7,8] F_z_123_L0 [(0,.d (.sl 5 nl (l.map W.row))),(1,.d (.fn f first caps)),(7,.d (I' l.length)),(8,.d (I' pre.length))] []) =
   if idx p pre.length suf = -1 then some (.out (.exit 0) [] []) else some (.out .ret [(4,.d (I' (idx p pre.length suf)))] []):=by
 intro suf
 induction suf with
 | nil =>
  intro pre hl
  have:l.length=pre.length:=by simp [hl]
  rw [ev_loop]
  conv=>lhs;arg 4;unfold F_z_123_L0
  simp [this,idx]
 | cons w suf ih =>
  intro pre hl
  have hg:l[pre.length]?=some w:=by simp [hl]
  have hlt:(pre.length:Int)<l.length:=by simp [hl];omega
  have hnext:IntKind.i64.wrap ((pre.length:Int)+1)=pre.length+1:=wrap_i64 (by omega) (by omega)
  have ih':=ih (pre++[w]) (by simp [hl])
  simp at ih' hp
  rw [ev_loop]
  conv=>lhs;arg 4;unfold F_z_123_L0
  simp [hlt,hg,W.row,hp,allD_mid]
  cases hw:p w
  ·simp [idx,hw,hnext]
   exact ih'
  ·have:¬(pre.length:Int) = -1:=by omega
   simp [idx,hw,this]
theorem ev_IndexFunc {f:Nat} {first caps:List D} {p:W→Bool} (nl:Bool) (l:List W) (hn:l.length≤1000000)
  (hp:∀a b c d e,ev P (.call f (first.map V.d++[.d (.ag [I' a,I' b,I' c,I' d,I' e])]++caps.map V.d) [])=some (.val (.d (.b (p ⟨a,b,c,d,e⟩))) [])) :
  ev P (.call z_123 [.d (.sl 5 nl (l.map W.row)),.d (.fn f first caps)] [])=some (.val (.d (I' (idx p 0 l))) []):=by
 rw [ev_call P_z_123 rfl]
 have hl:=loop_IndexFunc nl l hn hp l [] rfl
 simp at hl
 simp [F_z_123,hl]
 by_cases hc:idx p 0 l = -1<;>simp [hc]
theorem idx_any {α:Type} {p:α→Bool}:∀{l:List α} {k:Int},0≤k→(0≤idx p k l↔l.any p=true)
 | [],k,_=>by simp [idx]
 | w::r,k,hk=>by
  by_cases hw:p w=true
  ·simp [idx,hw,hk]
  ·simp [idx,hw,idx_any (l:=r) (k:=k+1) (by omega)]
theorem ev_ContainsFunc {f:Nat} {first caps:List D} {p:W→Bool} (nl:Bool) (l:List W) (hn:l.length≤1000000)
  (hp:∀a b c d e,ev P (.call f (first.map V.d++[.d (.ag [I' a,I' b,I' c,I' d,I' e])]++caps.map V.d) [])=some (.val (.d (.b (p ⟨a,b,c,d,e⟩))) [])) :
  ev P (.call z_57 [.d (.sl 5 nl (l.map W.row)),.d (.fn f first caps)] [])=some (.val (.d (.b (l.any p))) []):=by
 rw [ev_call P_z_57 rfl]
 have hi:=ev_IndexFunc nl l hn hp
 simp [F_z_57,hi]
 have:=idx_any (p:=p) (l:=l) (k:=0) (by omega)
 cases ha:l.any p
 ·have hc:¬0≤idx p 0 l:=fun h=>by rw [this.1 h] at ha;cases ha
  simp [hc]
 ·have hc:0≤idx p 0 l:=this.2 ha
  simp [hc]
abbrev rows1 (l:List Int):List (List D):=l.map fun x=>[I' x]
abbrev hD (n:Bool) (l:List Int):D:=.sl 1 n (rows1 l)
abbrev qD (n:Bool) (l:List W):D:=.sl 5 n (l.map W.row)
theorem take_map_len {α β:Type} {f:α→β} {r:List α}:List.take r.length (r.map f)=r.map f:=List.take_of_length_le (by simp)
theorem drop_map_len {α β:Type} {f:α→β} {r:List α}:List.drop (r.length+1) (r.map f)=[]:=List.drop_eq_nil_of_le (by simp)
def fdS (q:List W) (t:Int):Int×Bool:=match q.findIdx? (fun w=>w.task==t) with | some i=>(i,true) | none=>(0,false)
theorem loop_Find (nl:Bool) (l:List W) (t:Int) (hn:l.length≤1000000):∀(suf pre:List W),l=pre++suf →
  ev P (.loop 0 [1,8,9,10] F_z_132_L0 [(1,.d (I' t)),(8,.d (qD nl l)),(9,.d (I' l.length)),(10,.d (I' pre.length))] []) =
   match suf.findIdx? (fun w=>w.task==t) with
   | none=>some (.out (.exit 0) [] [])
   | some k=>some (.out .ret [(4,.d (I' ((pre.length+k:Nat):Int))),(5,.d (.b true))] []):=by
 intro suf
 induction suf with
 | nil =>
  intro pre hl
  have:l.length=pre.length:=by simp [hl]
  rw [ev_loop]
  conv=>lhs;arg 4;unfold F_z_132_L0
  simp [this]
 | cons w suf ih =>
  intro pre hl
  have hg:l[pre.length]?=some w:=by simp [hl]
  have hlt:(pre.length:Int)<l.length:=by simp [hl];omega
  have hnext:IntKind.i64.wrap ((pre.length:Int)+1)=pre.length+1:=wrap_i64 (by omega) (by omega)
  have ih':=ih (pre++[w]) (by simp [hl])
  simp at ih'
  rw [ev_loop]
  conv=>lhs;arg 4;unfold F_z_132_L0
  rw [List.findIdx?_cons]
  cases hw:w.task==t
  ·simp [hlt,hg,W.row,hw,hnext]
   rw [ih']
   cases suf.findIdx? (fun w=>w.task==t) with
   | none=>rfl
   | some k=>simp;omega
  ·simp [hlt,hg,W.row,hw]
theorem ev_wFind (nl:Bool) (l:List W) (t:Int) (hn:l.length≤1000000) :
  ev P (.call z_132 [.d (qD nl l),.d (I' t)] [])=some (.val (.tu [.d (I' (fdS l t).1),.d (.b (fdS l t).2)]) []):=by
 rw [ev_call P_z_132 rfl]
 have hl:=loop_Find nl l t hn l [] rfl
 simp at hl
 unfold fdS
 cases h:l.findIdx? (fun w=>w.task==t) with
 | none=>rw [h] at hl;simp [F_z_132,hl]
 | some k=>rw [h] at hl;simp at hl;simp [F_z_132,hl]
theorem loop_rFind (nl:Bool) (l:List W) (t:Int) (hn:l.length≤1000000):∀(suf pre:List W),l=pre++suf →
  ev P (.loop 0 [0,1,6] F_z_198_L0 [(0,.d (qD nl l)),(1,.d (I' t)),(6,.d (I' pre.length))] []) =
   match suf.findIdx? (fun w=>w.task==t) with
   | none=>some (.out (.exit 0) [] [])
   | some k=>some (.out .ret [(4,.d (I' ((pre.length+k:Nat):Int))),(5,.d (.b true))] []):=by
 intro suf
 induction suf with
 | nil =>
  intro pre hl
  have:l.length=pre.length:=by simp [hl]
  rw [ev_loop]
  conv=>lhs;arg 4;unfold F_z_198_L0
  simp [this]
 | cons w suf ih =>
  intro pre hl
  have hg:l[pre.length]?=some w:=by simp [hl]
  have hlt:(pre.length:Int)<l.length:=by simp [hl];omega
  have hnext:IntKind.i64.wrap ((pre.length:Int)+1)=pre.length+1:=wrap_i64 (by omega) (by omega)
  have ih':=ih (pre++[w]) (by simp [hl])
  simp at ih'
  rw [ev_loop]
  conv=>lhs;arg 4;unfold F_z_198_L0
  rw [List.findIdx?_cons]
  cases hw:w.task==t
  ·simp [hlt,hg,W.row,hw,hnext]
   rw [ih']
   cases suf.findIdx? (fun w=>w.task==t) with
   | none=>rfl
   | some k=>simp;omega
  ·simp [hlt,hg,W.row,hw]
theorem ev_rFind (nl:Bool) (l:List W) (t:Int) (hn:l.length≤1000000) :
  ev P (.call z_198 [.d (qD nl l),.d (I' t)] [])=some (.val (.tu [.d (I' (fdS l t).1),.d (.b (fdS l t).2)]) []):=by
 rw [ev_call P_z_198 rfl]
 have hl:=loop_rFind nl l t hn l [] rfl
 simp at hl
 unfold fdS
 cases h:l.findIdx? (fun w=>w.task==t) with
 | none=>rw [h] at hl;simp [F_z_198,hl]
 | some k=>rw [h] at hl;simp at hl;simp [F_z_198,hl]
theorem ev_within (a b c:Int):ev P (.call z_279 [.d (I' a),.d (I' b),.d (I' c)] [])=some (.val (.d (.b (decide (b≤a)&&decide (a≤c)))) []):=by
 rw [ev_call P_z_279 rfl]
 simp [F_z_279]
theorem ev_rValid (w:W):ev P (.call z_252 [.d (.ag [I' w.task,I' w.op,I' w.value,I' w.prio,I' w.case])] [])=some (.val (.d (.b (wvalid w))) []):=by
 have e:wvalid w=(decide (0≤w.task)&&decide (w.task≤15)&&(decide (1≤w.op)&&decide (w.op≤99))&&(decide (-1099511627776≤w.value)&&decide (w.value≤1099511627776))&&(decide (0≤w.prio)&&decide (w.prio≤9))&&(decide (-1≤w.case)&&decide (w.case≤5))):=by
  rw [Bool.eq_iff_iff]
  unfold wvalid wbad
  simp
  omega
 rw [e]
 rw [ev_call P_z_252 rfl]
 simp [F_z_252,ev_within]
def rchk (l:List W):Int:=if 96<l.length then 4 else if l.all wvalid=true then 0 else 2
theorem loop_rchk (nl:Bool) (l:List W) (hn:l.length≤1000000):∀(suf pre:List W),l=pre++suf →
  ev P (.loop 0 [0,1,5] F_z_197_L0 [(0,.d (I' 1)),(1,.d (qD nl l)),(5,.d (I' pre.length))] []) =
   if suf.all wvalid=true then some (.out (.exit 0) [] []) else some (.out .ret [(4,.d (I' 2))] []):=by
 intro suf
 induction suf with
 | nil =>
  intro pre hl
  have:l.length=pre.length:=by simp [hl]
  rw [ev_loop]
  conv=>lhs;arg 4;unfold F_z_197_L0
  simp [this]
 | cons w suf ih =>
  intro pre hl
  have hg:l[pre.length]?=some w:=by simp [hl]
  have hlt:(pre.length:Int)<l.length:=by simp [hl];omega
  have hnext:IntKind.i64.wrap ((pre.length:Int)+1)=pre.length+1:=wrap_i64 (by omega) (by omega)
  have ih':=ih (pre++[w]) (by simp [hl])
  have e1:(w::suf).all wvalid=(wvalid w&&suf.all wvalid):=rfl
  rw [e1]
  generalize suf.all wvalid=dd at *
  simp at ih'
  rw [ev_loop]
  conv=>lhs;arg 4;unfold F_z_197_L0
  cases hv:wvalid w
  ·simp [hlt,hg,W.row,ev_rValid,hv]
  ·simp [hlt,hg,W.row,ev_rValid,hv,hnext]
   exact ih'
theorem ev_rchk (nl:Bool) (l:List W) (hn:l.length≤1000000):ev P (.call z_197 [.d (I' 1),.d (qD nl l)] [])=some (.val (.d (I' (rchk l))) []):=by
 have hl:=loop_rchk nl l hn l [] rfl
 unfold rchk
 generalize l.all wvalid=dd at *
 simp at hl
 rw [ev_call P_z_197 rfl]
 by_cases h:96<l.length
 ·have h':(96:Int)<l.length:=by omega
  simp [F_z_197,h,h']
 ·have h':¬(96:Int)<l.length:=by omega
  simp [F_z_197,h,h',hl]
  cases dd<;>simp
theorem rchk_eq (l:List W):rchk l=wchk l:=by
 have:∀(l:List W) (p:Option W),wcheckFrom 1 p l=if l.all wvalid=true then 0 else 2:=by
  intro l
  induction l with
  | nil=>intro p;rfl
  | cons a r ih =>
   intro p
   unfold wcheckFrom
   cases hv:wvalid a
   ·simp [hv]
   ·simp [hv,ih]
 unfold rchk wchk
 rw [this]
end Go.VS.Sp
namespace Go.VS.Sp
structure K where
 task:Int
 nl:Bool
 log:List Int
 deriving DecidableEq
@[simp] theorem K.eta (w:K):K.mk w.task w.nl w.log=w:=rfl
def K.row (w:K):List D:=[I' w.task,hD w.nl w.log]
abbrev cD (n:Bool) (l:List K):D:=.sl 2 n (l.map K.row)
theorem loop_IndexK {f:Nat} {first caps:List D} {p:K→Bool} (nl:Bool) (l:List K) (hn:l.length≤1000000)
  (hp:∀a b c,ev P (.call f (first.map V.d++[.d (.ag [I' a,hD b c])]++caps.map V.d) [])=some (.val (.d (.b (p ⟨a,b,c⟩))) [])) :
  ∀(suf pre:List K),l=pre++suf →
  ev P (.loop 0 [0,1,7,8] F_z_102_L0 [(0,.d (.sl 2 nl (l.map K.row))),(1,.d (.fn f first caps)),(7,.d (I' l.length)),(8,.d (I' pre.length))] []) =
   if idx p pre.length suf = -1 then some (.out (.exit 0) [] []) else some (.out .ret [(4,.d (I' (idx p pre.length suf)))] []):=by
 intro suf
 induction suf with
 | nil =>
  intro pre hl
  have:l.length=pre.length:=by simp [hl]
  rw [ev_loop]
  conv=>lhs;arg 4;unfold F_z_102_L0
  simp [this,idx]
 | cons w suf ih =>
  intro pre hl
  have hg:l[pre.length]?=some w:=by simp [hl]
  have hlt:(pre.length:Int)<l.length:=by simp [hl];omega
  have hnext:IntKind.i64.wrap ((pre.length:Int)+1)=pre.length+1:=wrap_i64 (by omega) (by omega)
  have ih':=ih (pre++[w]) (by simp [hl])
  simp at ih'
  have hp':=hp w.task w.nl w.log
  simp at hp'
  rw [ev_loop]
  conv=>lhs;arg 4;unfold F_z_102_L0
  simp [hlt,hg,K.row,hp',allD_mid]
  cases hw:p w
  ·simp [idx,hw,hnext]
   exact ih'
  ·have:¬(pre.length:Int) = -1:=by omega
   simp [idx,hw,this]
theorem ev_IndexK {f:Nat} {first caps:List D} {p:K→Bool} (nl:Bool) (l:List K) (hn:l.length≤1000000)
  (hp:∀a b c,ev P (.call f (first.map V.d++[.d (.ag [I' a,hD b c])]++caps.map V.d) [])=some (.val (.d (.b (p ⟨a,b,c⟩))) [])) :
  ev P (.call z_102 [.d (.sl 2 nl (l.map K.row)),.d (.fn f first caps)] [])=some (.val (.d (I' (idx p 0 l))) []):=by
 rw [ev_call P_z_102 rfl]
 have hl:=loop_IndexK nl l hn hp l [] rfl
 simp at hl
 simp [F_z_102,hl]
 by_cases hc:idx p 0 l = -1<;>simp [hc]
theorem ev_ContainsK {f:Nat} {first caps:List D} {p:K→Bool} (nl:Bool) (l:List K) (hn:l.length≤1000000)
  (hp:∀a b c,ev P (.call f (first.map V.d++[.d (.ag [I' a,hD b c])]++caps.map V.d) [])=some (.val (.d (.b (p ⟨a,b,c⟩))) [])) :
  ev P (.call z_241 [.d (.sl 2 nl (l.map K.row)),.d (.fn f first caps)] [])=some (.val (.d (.b (l.any p))) []):=by
 rw [ev_call P_z_241 rfl]
 have hi:=ev_IndexK nl l hn hp
 simp [F_z_241,hi]
 have:=idx_any (p:=p) (l:=l) (k:=0) (by omega)
 cases ha:l.any p
 ·have hc:¬0≤idx p 0 l:=fun h=>by rw [this.1 h] at ha;cases ha
  simp [hc]
 ·have hc:0≤idx p 0 l:=this.2 ha
  simp [hc]
def mnew (k sz ot:Int):Int:=if (k != 7)=true then 8 else if (decide (sz<0)||decide (100<sz)||ot != 0)=true then 2 else 0
def zrow:List D:=[I' 0,I' 0,I' 0,.sl 1 true [],.sl 5 true [],.sl 1 true [],.sl 2 true [],.b false,I' 0]
def frow:List D:=[I' (-1),I' 0,I' 0,.sl 1 true [],.sl 5 true [],.sl 1 true [],.sl 2 true [],.b false,I' 0]
theorem ev_mNew (nm:D) (k sz ot:Int):ev P (.call z_87 [.d (.ag [nm,I' k,I' sz,I' ot])] []) =
  some (.val (.tu [.d (.ag (if mnew k sz ot=0 then frow else zrow)),.d (I' (mnew k sz ot))]) []):=by
 rw [ev_call P_z_87 rfl]
 unfold mnew
 cases hk:k != 7
 ·cases hb:(decide (sz<0)||decide (100<sz)||ot != 0)<;>simp [F_z_87,hk,hb,frow,zrow]
 ·simp [F_z_87,hk,zrow]
theorem ev_w23 (a b c:Int):ev P (.call z_122 [.d (I' a),.d (I' b),.d (I' c)] [])=some (.val (.d (.b (decide (b≤a)&&decide (a≤c)))) []):=by
 rw [ev_call P_z_122 rfl]
 simp [F_z_122]
theorem ev_rNew (nm:D) (k sz ot:Int):ev P (.call z_54 [.d (.ag [nm,I' k,I' sz,I' ot])] []) =
  some (.val (.tu [.d (.ag (if mnew k sz ot=0 then frow else zrow)),.d (I' (mnew k sz ot))]) []):=by
 rw [ev_call P_z_54 rfl]
 unfold mnew
 have e:(decide (sz<0)||decide (100<sz)||ot != 0)=(!decide (0≤sz)||!decide (sz≤100)||ot != 0):=by
  rw [Bool.eq_iff_iff];simp
 rw [e]
 cases hk:k != 7
 ·cases hb:(!decide (0≤sz)||!decide (sz≤100)||ot != 0)<;>simp [F_z_54,ev_w23,hk,hb,frow,zrow]
 ·simp [F_z_54,hk,zrow]
def num (n:Int):Bool:=decide (-1099511627776≤n)&&decide (n≤1099511627776)
theorem ev_number (n:Int):ev P (.call z_235 [.d (I' n)] [])=some (.val (.d (.b (num n))) []):=by
 rw [ev_call P_z_235 rfl]
 unfold num
 simp [F_z_235]
theorem ev_findC1 (t a:Int) (b:Bool) (c:List Int):ev P (.call z_238 [.d (.ag [I' a,hD b c]),.d (.ref [I' t])] [])=some (.val (.d (.b (a==t))) []):=by
 rw [ev_call P_z_238 rfl]
 simp [F_z_238]
def fnd (C:List K) (t:Int):Int:=idx (fun c=>c.task==t) 0 C
theorem ev_find (d0 d1 d2 d3 d4 d5 d7 d8:D) (cn:Bool) (C:List K) (t:Int) (hn:C.length≤1000000) :
  ev P (.call z_169 [.d (.ag [d0,d1,d2,d3,d4,d5,cD cn C,d7,d8]),.d (I' t)] [])=some (.val (.d (I' (fnd C t))) []):=by
 have hI:=ev_IndexK (f:=z_238) (first:=[]) (caps:=[.ref [I' t]]) (p:=fun c=>c.task==t) cn C hn (by intro a b c;simp [ev_findC1])
 rw [ev_call P_z_169 rfl]
 unfold fnd
 generalize idx (fun c:K=>c.task==t) 0 C=r at *
 try simp at hI
 simp [F_z_169,allD,hI]
def wts (Q:List W) (t op:Int):Bool:=Q.any fun w=>w.task==t&&w.op==op
theorem ev_waitingC1 (t op a b c d e:Int):ev P (.call z_278 [.d (.ag [I' a,I' b,I' c,I' d,I' e]),.d (.ref [I' t]),.d (.ref [I' op])] [])=some (.val (.d (.b (a==t&&b==op))) []):=by
 rw [ev_call P_z_278 rfl]
 simp [F_z_278]
theorem ev_waiting (d0 d1 d2 d3 d5 d6 d7 d8:D) (qn:Bool) (Q:List W) (t op:Int) (hn:Q.length≤1000000) :
  ev P (.call z_243 [.d (.ag [d0,d1,d2,d3,qD qn Q,d5,d6,d7,d8]),.d (I' t),.d (I' op)] [])=some (.val (.d (.b (wts Q t op))) []):=by
 have hI:=ev_ContainsFunc (f:=z_278) (first:=[]) (caps:=[.ref [I' t],.ref [I' op]]) (p:=fun w=>w.task==t&&w.op==op) qn Q hn (by intro a b c d e;simp [ev_waitingC1])
 rw [ev_call P_z_243 rfl]
 unfold wts
 generalize (Q.any fun w=>w.task==t&&w.op==op)=r at *
 try simp at hI
 simp [F_z_243,allD,hI]
def fl (sz:Int) (C:List K) (Q:List W):Bool:=C.any fun c=>(c.log.length:Int)==sz&&!wts Q c.task 70
theorem ev_fullC1 (sz a:Int) (b:Bool) (c:List Int) (d0 d1 d2 d3 d5 d6 d7 d8:D) (qn:Bool) (Q:List W) (hn:Q.length≤1000000) :
  ev P (.call z_242 [.d (.ag [I' a,hD b c]),.d (.ref [I' sz]),.d (.ref [d0,d1,d2,d3,qD qn Q,d5,d6,d7,d8])] [])=some (.val (.d (.b ((c.length:Int)==sz&&!wts Q a 70))) []):=by
 have hw:=ev_waiting d0 d1 d2 d3 d5 d6 d7 d8 qn Q a 70 hn
 rw [ev_call P_z_242 rfl]
 cases h:(c.length:Int)==sz<;>simp [F_z_242,h,hw]
theorem ev_full (sz:Int) (d0 d1 d2 d3 d5 d7 d8:D) (qn:Bool) (Q:List W) (cn:Bool) (C:List K) (hn:Q.length≤1000000) (hc:C.length≤1000000) :
  ev P (.call z_174 [.d (I' sz),.d (.ag [d0,d1,d2,d3,qD qn Q,d5,cD cn C,d7,d8])] [])=some (.val (.d (.b (fl sz C Q))) []):=by
 have hI:=ev_ContainsK (f:=z_242) (first:=[]) (caps:=[.ref [I' sz],.ref [d0,d1,d2,d3,qD qn Q,d5,cD cn C,d7,d8]]) (p:=fun c=>(c.log.length:Int)==sz&&!wts Q c.task 70) cn C hc (by intro a b c;simp [ev_fullC1,hn])
 rw [ev_call P_z_174 rfl]
 unfold fl
 generalize (C.any fun c=>(c.log.length:Int)==sz&&!wts Q c.task 70)=r at *
 try simp at hI
 simp [F_z_174,allD,hI]
def kbad (sz:Int) (prev:Option K) (c:K):Bool:=decide (c.task<0)||decide (16≤c.task)||prev.any (fun p=>decide (c.task≤p.task))||decide (sz<c.log.length)
def vc (sz:Int):Option K→List K→Bool
 | _,[]=>true
 | p,c::r=>!kbad sz p c&&(c.log.all num&&vc sz (some c) r)
theorem loop_cnum (sz:D) (cn:Bool) (C:List K) (k:Int) (bn:Bool) (l:List Int) (hn:l.length≤1000000):∀(suf pre:List Int),l=pre++suf →
  ev P (.loop 0 [0,1,9,10,11,47,48,49] F_z_162_L0 [(0,.d sz),(1,.d (cD cn C)),(9,.d (cD cn C)),(10,.d (I' C.length)),(11,.d (I' k)),(47,.d (hD bn l)),(48,.d (I' l.length)),(49,.d (I' pre.length))] []) =
   if suf.all num=true then some (.out (.exit 2) [(0,.d sz),(1,.d (cD cn C)),(9,.d (cD cn C)),(10,.d (I' C.length)),(11,.d (I' k))] []) else some (.out .ret [(4,.d (.b false))] []):=by
 intro suf
 induction suf with
 | nil =>
  intro pre hl
  have:l.length=pre.length:=by simp [hl]
  rw [ev_loop]
  conv=>lhs;arg 4;unfold F_z_162_L0
  simp [this]
 | cons w suf ih =>
  intro pre hl
  have hg:l[pre.length]?=some w:=by simp [hl]
  have hlt:(pre.length:Int)<l.length:=by simp [hl];omega
  have hnext:IntKind.i64.wrap ((pre.length:Int)+1)=pre.length+1:=wrap_i64 (by omega) (by omega)
  have ih':=ih (pre++[w]) (by simp [hl])
  rw [List.all_cons]
  generalize suf.all num=dd at *
  simp at ih'
  rw [ev_loop]
  conv=>lhs;arg 4;unfold F_z_162_L0
  cases hw:num w
  ·simp [hlt,hg,ev_number,hw]
  ·simp [hlt,hg,ev_number,hw,hnext]
   exact ih'
set_option maxHeartbeats 1000000 in
theorem loop_cursors (sz:Int) (cn:Bool) (C:List K) (hn:C.length≤1000000) (hl1:∀c∈C,c.log.length≤1000000):∀(suf pre:List K),C=pre++suf →
  ev P (.loop 0 [0,1,9,10,11] F_z_162_L1 [(0,.d (I' sz)),(1,.d (cD cn C)),(9,.d (cD cn C)),(10,.d (I' C.length)),(11,.d (I' pre.length))] []) =
   if vc sz pre.getLast? suf=true then some (.out (.exit 0) [] []) else some (.out .ret [(4,.d (.b false))] []):=by
 intro suf
 induction suf with
 | nil =>
  intro pre hl
  have:C.length=pre.length:=by simp [hl]
  rw [ev_loop]
  conv=>lhs;arg 4;unfold F_z_162_L1
  simp [this,vc]
 | cons c suf ih =>
  intro pre hl
  have hg:C[pre.length]?=some c:=by simp [hl]
  have hlt:(pre.length:Int)<C.length:=by simp [hl];omega
  have ih':=ih (pre++[c]) (by simp [hl])
  have hN:=loop_cnum (I' sz) cn C pre.length c.nl c.log (hl1 c (by simp [hl])) c.log [] rfl
  have e1:vc sz pre.getLast? (c::suf)=(!kbad sz pre.getLast? c&&(c.log.all num&&vc sz (some c) suf)):=rfl
  rw [e1]
  simp only [List.getLast?_append,List.getLast?_singleton,Option.some_or] at ih'
  generalize vc sz (some c) suf=dd at *
  generalize c.log.all num=da at *
  simp at ih' hN
  rw [ev_loop]
  conv=>lhs;arg 4;unfold F_z_162_L1
  have hnext:IntKind.i64.wrap ((pre.length:Int)+1)=pre.length+1:=wrap_i64 (by omega) (by omega)
  cases h1:(decide (c.task<0)||decide (16≤c.task))
  ·rcases List.eq_nil_or_concat pre with rfl | ⟨pre',p,rfl⟩
   ·have hlt2:0<C.length:=by simp [hl]
    have hg0:C[0]=c:=by simp [hl]
    cases h2:decide (sz<c.log.length)
    ·have hk:kbad sz none c=false:=by simp only [kbad,h1,h2,Option.any_none,Bool.or_false]
     simp [wrap1] at ih' hN
     cases da
     ·simp at hN
      simp [hlt2,hg0,K.row,h1,h2,hk,hN]
     ·simp at hN
      simp [hlt2,hg0,K.row,h1,h2,hk,hN,wrap1]
      exact ih'
    ·have hk:kbad sz none c=true:=by simp only [kbad,h1,h2,Option.any_none,Bool.or_false,Bool.or_true]
     simp [hlt2,hg0,K.row,h1,h2,hk]
   ·have hgp:C[pre'.length]?=some p:=by simp [hl]
    have hlen:((pre'.length:Int)+1<C.length):=by simp [hl];omega
    have hw:IntKind.i64.wrap ((pre'.length:Int)+1 - 1)=pre'.length:=by rw [wrap_i64 (by omega) (by omega)];omega
    have h0:(0:Int)<pre'.length+1:=by omega
    have h00:(0:Int)≤pre'.length+1:=by omega
    have hw2:IntKind.i64.wrap (pre'.length:Int)=pre'.length:=wrap_i64 (by omega) (by omega)
    have hw3:IntKind.i64.wrap ((pre'.length:Int)+1+1)=pre'.length+1+1:=wrap_i64 (by omega) (by omega)
    simp only [List.concat_eq_append,List.length_append,List.length_singleton] at hg
    simp at ih' hN
    cases h3:decide (c.task≤p.task)
    ·cases h2:decide (sz<c.log.length)
     ·have hk:kbad sz (some p) c=false:=by simp only [kbad,h1,h2,h3,Option.any_some,Bool.or_false]
      cases da
      ·simp at hN
       simp [hlen,hg,hgp,hw2,h0,h00,K.row,h1,h2,h3,hk,hN]
      ·simp at hN
       simp [hlen,hg,hgp,hw2,h0,h00,K.row,h1,h2,h3,hk,hN,hw3]
       exact ih'
     ·have hk:kbad sz (some p) c=true:=by simp only [kbad,h1,h2,h3,Option.any_some,Bool.or_false,Bool.or_true]
      simp [hlen,hg,hgp,hw2,h0,h00,K.row,h1,h2,h3,hk]
    ·have hk:kbad sz (some p) c=true:=by simp only [kbad,h1,h3,Option.any_some,Bool.or_true,Bool.true_or]
     simp [hlen,hg,hgp,hw2,h0,h00,K.row,h1,h3,hk]
  ·have hk:kbad sz pre.getLast? c=true:=by simp [kbad,h1]
   simp [hlt,hg,K.row,h1,hk]
theorem ev_cursors (sz:Int) (cn:Bool) (C:List K) (hn:C.length≤1000000) (hl1:∀c∈C,c.log.length≤1000000) :
  ev P (.call z_162 [.d (I' sz),.d (cD cn C)] [])=some (.val (.d (.b (vc sz none C))) []):=by
 have hL:=loop_cursors sz cn C hn hl1 C [] rfl
 rw [ev_call P_z_162 rfl]
 generalize hv:vc sz none C=v at *
 simp [hv] at hL
 cases v<;>simp at hL<;>simp [F_z_162,hL]
end Go.VS.Sp
namespace Go.VS.Sp
theorem fd_eq {pre:List W} {w:W} {r:List W}:((fdS (pre++w::r) w.task).1==(pre.length:Int))=!pre.any (fun x=>x.task==w.task):=by
 unfold fdS
 rw [List.findIdx?_append]
 cases h:pre.findIdx? (fun x=>x.task==w.task) with
 | none =>
  have:pre.any (fun x=>x.task==w.task)=false:=by
   rw [List.any_eq_false]
   rw [List.findIdx?_eq_none_iff] at h
   intro x hx
   rw [h x hx];decide
  rw [this]
  simp [List.findIdx?_cons]
 | some k =>
  obtain ⟨h1,h2⟩:=List.findIdx?_eq_some_iff_getElem.1 h
  have:pre.any (fun x=>x.task==w.task)=true:=List.any_eq_true.2 ⟨_,List.getElem_mem _,h2.1⟩
  rw [this]
  simp
  omega
theorem wchk_zero {Q:List W} (h:wchk Q=0):Q.length≤96∧∀w,w∈Q→wvalid w=true:=by
 unfold wchk at h
 by_cases h1:96<Q.length
 ·rw [if_pos h1] at h;cases h
 ·rw [if_neg h1] at h
  refine ⟨by omega,?_⟩
  have:∀(l:List W) (p:Option W),wcheckFrom 1 p l=0→∀w,w∈l→wvalid w=true:=by
   intro l
   induction l with
   | nil=>simp
   | cons a r ih =>
    intro p h w hw
    unfold wcheckFrom at h
    cases hv:wvalid a
    ·rw [hv] at h;simp at h
    ·rw [hv] at h
     simp at h
     rcases List.mem_cons.1 hw with e | hw
     ·rw [e];exact hv
     ·exact ih _ h w hw
  exact this Q none h
theorem wvalid_task {w:W} (h:wvalid w=true):0≤w.task∧w.task<16:=by
 unfold wvalid wbad at h
 simp at h
 omega
theorem idx_spec {α:Type} {p:α→Bool}:∀(l:List α) (k:Nat),(idx p (k:Int) l = -1∧l.find? p=none)∨∃(i:Nat) (c:α),idx p (k:Int) l=((k+i:Nat):Int)∧l[i]?=some c∧l.find? p=some c
 | [],k=>.inl ⟨rfl,rfl⟩
 | a::l,k=>by
  by_cases ha:p a=true
  ·right
   exact ⟨0,a,by simp [idx,ha],by simp,by simp [ha]⟩
  ·have h:=idx_spec (p:=p) l (k+1)
   have e:((k+1:Nat):Int)=(k:Int)+1:=by omega
   rw [e] at h
   rcases h with ⟨h1,h2⟩ | ⟨i,c,h1,h2,h3⟩
   ·left
    exact ⟨by simp [idx,ha,h1],by simp [ha,h2]⟩
   ·right
    refine ⟨i+1,c,?_,by simpa using h2,by simp [ha,h3]⟩
    simp [idx,ha,h1];omega
def kfd (C:List K) (t:Int):Option K:=C.find? fun c=>c.task==t
theorem fnd_spec (C:List K) (t:Int):(fnd C t = -1∧kfd C t=none)∨∃(i:Nat) (c:K),fnd C t=(i:Int)∧C[i]?=some c∧kfd C t=some c:=by
 have h:=idx_spec (p:=fun c:K=>c.task==t) C 0
 simpa [fnd,kfd] using h
def n70 (C:List K) (w:W):Bool:=match kfd C w.task with | some c=>!decide (0<c.log.length)&&w.value==0 | none=>false
def tqo (sz:Int) (C:List K) (Q:List W) (w:W):Bool:=if w.op=70 then n70 C w else if w.op=68 then fl sz C Q else false
def tq (sz:Int) (C:List K) (Q:List W):List W→List W→Bool
 | _,[]=>true
 | pre,w::r=>!pre.any (fun x=>x.task==w.task)&&(w.case == -1&&(tqo sz C Q w&&tq sz C Q (pre++[w]) r))
theorem loop_queue (sz:Int) (d0 d1 d2 d3 d5 d7 d8:D) (qn:Bool) (Q:List W) (cn:Bool) (C:List K) (hn:Q.length≤1000000) (hc:C.length≤1000000):∀(suf pre:List W),Q=pre++suf →
  ev P (.loop 0 [0,3,15,16,17] F_z_163_L0 [(0,.d (I' sz)),(3,.d (.ref [d0,d1,d2,d3,qD qn Q,d5,cD cn C,d7,d8])),(15,.d (qD qn Q)),(16,.d (I' Q.length)),(17,.d (I' pre.length))] []) =
   if tq sz C Q pre suf=true then some (.out (.exit 0) [] []) else some (.out .ret [(4,.d (.b false))] []):=by
 intro suf
 induction suf with
 | nil =>
  intro pre hl
  have:Q.length=pre.length:=by simp [hl]
  rw [ev_loop]
  conv=>lhs;arg 4;unfold F_z_163_L0
  simp [this,tq]
 | cons w suf ih =>
  intro pre hl
  have hg:Q[pre.length]?=some w:=by simp [hl]
  have hlt:(pre.length:Int)<Q.length:=by simp [hl];omega
  have hnext:IntKind.i64.wrap ((pre.length:Int)+1)=pre.length+1:=wrap_i64 (by omega) (by omega)
  have ih':=ih (pre++[w]) (by simp [hl])
  have hF:=ev_wFind qn Q w.task hn
  have hfe:((fdS Q w.task).1==(pre.length:Int))=!pre.any (fun x=>x.task==w.task):=by rw [hl];exact fd_eq
  have hfd:=ev_find d0 d1 d2 d3 (qD qn Q) d5 d7 d8 cn C w.task hc
  have hfu:=ev_full sz d0 d1 d2 d3 d5 d7 d8 qn Q cn C hn hc
  have e1:tq sz C Q pre (w::suf)=(!pre.any (fun x=>x.task==w.task)&&(w.case == -1&&(tqo sz C Q w&&tq sz C Q (pre++[w]) suf))):=rfl
  rw [e1]
  generalize tq sz C Q (pre++[w]) suf=dd at *
  generalize (fdS Q w.task).1=fi at *
  generalize (fdS Q w.task).2=fb at *
  simp at ih'
  rw [ev_loop]
  conv=>lhs;arg 4;unfold F_z_163_L0
  cases ha:pre.any (fun x=>x.task==w.task)
  ·rw [ha] at hfe
   have hfe2:(fi != (pre.length:Int))=false:=by simp [bne,hfe]
   cases hk:w.case == -1
   ·have hk2:(w.case != -1)=true:=by simp [bne,hk]
    simp [hlt,hg,W.row,hF,hfe2,hk2]
   ·have hk2:(w.case != -1)=false:=by simp [bne,hk]
    by_cases h70:w.op=70
    ·have h70b:(w.op==70)=true:=by simp [h70]
     have e2:tqo sz C Q w=n70 C w:=by simp [tqo,h70]
     rw [e2]
     rcases fnd_spec C w.task with ⟨f1,f2⟩ | ⟨i,c,f1,f2,f3⟩
     ·have e3:n70 C w=false:=by simp [n70,f2]
      rw [f1] at hfd
      simp [hlt,hg,W.row,hF,hfe2,hk2,h70,hfd,e3]
     ·have e3:n70 C w=(!decide (0<c.log.length)&&w.value==0):=by simp only [n70,f3]
      rw [f1] at hfd
      rw [e3]
      have n1:¬((i:Int)<0):=by omega
      cases p1:decide (0<c.log.length)
      ·cases p2:w.value==0
       ·have p3:(w.value != 0)=true:=by simp [bne,p2]
        simp at p1
        simp [hlt,hg,W.row,hF,hfe2,hk2,h70,hfd,n1,f2,K.row,p1,p3]
       ·have p3:(w.value != 0)=false:=by simp [bne,p2]
        simp at p1
        simp [hlt,hg,W.row,hF,hfe2,hk2,h70,hfd,n1,f2,K.row,p1,p3,hnext]
        exact ih'
      ·simp at p1
       simp [hlt,hg,W.row,hF,hfe2,hk2,h70,hfd,n1,f2,K.row,p1]
    ·have h70b:(w.op==70)=false:=by simp [h70]
     by_cases h68:w.op=68
     ·have e2:tqo sz C Q w=fl sz C Q:=by simp [tqo,h68]
      rw [e2]
      cases hfl:fl sz C Q
      ·rw [hfl] at hfu
       simp [hlt,hg,W.row,hF,hfe2,hk2,h68,hfu]
      ·rw [hfl] at hfu
       simp [hlt,hg,W.row,hF,hfe2,hk2,h68,hfu,hnext]
       exact ih'
     ·have h68b:(w.op==68)=false:=by simp [h68]
      have e2:tqo sz C Q w=false:=by simp [tqo,h70,h68]
      rw [e2]
      simp [hlt,hg,W.row,hF,hfe2,hk2,h70b,h68b]
  ·rw [ha] at hfe
   have hfe2:(fi != (pre.length:Int))=true:=by simp [bne,hfe]
   simp [hlt,hg,W.row,hF,hfe2]
theorem ev_queue (sz:Int) (d0 d1 d2 d3 d5 d7 d8:D) (qn:Bool) (Q:List W) (cn:Bool) (C:List K) (hn:Q.length≤1000000) (hc:C.length≤1000000) :
  ev P (.call z_163 [.d (I' sz),.d (.ag [d0,d1,d2,d3,qD qn Q,d5,cD cn C,d7,d8])] [])=some (.val (.d (.b (wchk Q==0&&tq sz C Q [] Q))) []):=by
 have hL:=loop_queue sz d0 d1 d2 d3 d5 d7 d8 qn Q cn C hn hc Q [] rfl
 have hW:=ev_wCheck qn Q
 rw [ev_call P_z_163 rfl]
 generalize tq sz C Q [] Q=v at *
 simp at hL
 cases hw:wchk Q==0
 ·have hw2:(wchk Q != 0)=true:=by simp [bne,hw]
  simp [F_z_163,hW,hw2]
 ·have hw2:(wchk Q != 0)=false:=by simp [bne,hw]
  cases v<;>simp at hL<;>simp [F_z_163,hW,hw2,hL]
structure S where
 own:Int
 cnt:Int
 time:Int
 hn:Bool
 H:List Int
 qn:Bool
 Q:List W
 bn:Bool
 B:List Int
 cn:Bool
 C:List K
 cl:Bool
 val:Int
 deriving DecidableEq
abbrev S.row (s:S):List D:=[I' s.own,I' s.cnt,I' s.time,hD s.hn s.H,qD s.qn s.Q,hD s.bn s.B,cD s.cn s.C,.b s.cl,I' s.val]
def S.fl0 (s:S):Bool:=s.cnt != 0||s.time != 0||decide (0<s.H.length+s.B.length)||s.cl||s.val != 0
structure S.sm (s:S):Prop where
 h:s.H.length≤1000000
 b:s.B.length≤1000000
 q:s.Q.length≤1000000
 c:s.C.length≤1000000
 l:∀c∈s.C,c.log.length≤1000000
def S.good (sz:Int) (s:S):Bool:=s.own == -1&&(vc sz none s.C&&(wchk s.Q==0&&tq sz s.C s.Q [] s.Q))&&!s.fl0
def ckd (k sz ot:Int) (s:S):Int:=if mnew k sz ot=0 then (if s.good sz then 0 else 1) else mnew k sz ot
theorem ev_mCheck (nm:D) (k sz ot:Int) (s:S) (hs:s.sm) :
  ev P (.call z_88 [.d (.ag [nm,I' k,I' sz,I' ot]),.d (.ag s.row)] [])=some (.val (.d (I' (ckd k sz ot s))) []):=by
 have hC:=ev_cursors sz s.cn s.C hs.c hs.l
 have hQ:=ev_queue sz (I' s.own) (I' s.cnt) (I' s.time) (hD s.hn s.H) (hD s.bn s.B) (.b s.cl) (I' s.val) s.qn s.Q s.cn s.C hs.q hs.c
 have hh:=hs.h
 have hb:=hs.b
 rw [ev_call P_z_88 rfl]
 unfold ckd
 cases hm:mnew k sz ot==0
 ·have hm':mnew k sz ot≠0:=by simpa using hm
  have hm2:(mnew k sz ot != 0)=true:=by simpa using hm'
  simp [F_z_88,ev_mNew,hm',hm2,zrow]
 ·have hm':mnew k sz ot=0:=by simpa using hm
  unfold S.good
  cases ho:s.own == -1
  ·have ho2:(s.own != -1)=true:=by simp [bne,ho]
   simp [F_z_88,ev_mNew,hm',frow,ho2]
  ·have ho2:(s.own != -1)=false:=by simp [bne,ho]
   cases hv:vc sz none s.C<;>rw [hv] at hC
   ·simp [F_z_88,ev_mNew,hm',frow,ho2,hC]
   ·cases hq:(wchk s.Q==0&&tq sz s.C s.Q [] s.Q)<;>rw [hq] at hQ
    ·simp [F_z_88,ev_mNew,hm',frow,ho2,hC,hQ]
    ·have hw:IntKind.i64.wrap ((s.H.length:Int)+s.B.length)=s.H.length+s.B.length:=wrap_i64 (by omega) (by omega)
     have hd:decide ((0:Int)<(s.H.length:Int)+s.B.length)=decide (0<s.H.length+s.B.length):=by
      rw [Bool.eq_iff_iff];simp;omega
     simp [F_z_88,ev_mNew,hm',frow,ho2,hC,hQ,hw,hd]
     cases hz:(s.cnt != 0||s.time != 0||decide (0<s.H.length+s.B.length)||s.cl||s.val != 0)
     ·have hz2:s.fl0=false:=hz
      simp [hz2]
     ·have hz2:s.fl0=true:=hz
      simp [hz2]
end Go.VS.Sp
namespace Go.VS.Sp
theorem loop_cursor (d0 d1 d2 d3 d4 d5 d7 d8:D) (cn:Bool) (C:List K) (t:Int) (hn:C.length≤1000000):∀(suf pre:List K),C=pre++suf →
  ev P (.loop 0 [1,2,5] F_z_254_L0 [(1,.d (I' t)),(2,.d (.ref [d0,d1,d2,d3,d4,d5,cD cn C,d7,d8])),(5,.d (I' pre.length))] []) =
   if idx (fun c=>c.task==t) pre.length suf = -1 then some (.out (.exit 0) [] []) else some (.out .ret [(4,.d (I' (idx (fun c=>c.task==t) pre.length suf)))] []):=by
 intro suf
 induction suf with
 | nil =>
  intro pre hl
  have:C.length=pre.length:=by simp [hl]
  rw [ev_loop]
  conv=>lhs;arg 4;unfold F_z_254_L0
  simp [this,idx]
 | cons c suf ih =>
  intro pre hl
  have hg:C[pre.length]?=some c:=by simp [hl]
  have hlt:(pre.length:Int)<C.length:=by simp [hl];omega
  have hnext:IntKind.i64.wrap ((pre.length:Int)+1)=pre.length+1:=wrap_i64 (by omega) (by omega)
  have ih':=ih (pre++[c]) (by simp [hl])
  simp at ih'
  rw [ev_loop]
  conv=>lhs;arg 4;unfold F_z_254_L0
  cases hw:c.task==t
  ·simp [hlt,hg,K.row,hw,hnext,idx]
   exact ih'
  ·have:¬(pre.length:Int) = -1:=by omega
   simp [hlt,hg,K.row,hw,idx,this]
theorem ev_cursor (d0 d1 d2 d3 d4 d5 d7 d8:D) (cn:Bool) (C:List K) (t:Int) (hn:C.length≤1000000) :
  ev P (.call z_254 [.d (.ag [d0,d1,d2,d3,d4,d5,cD cn C,d7,d8]),.d (I' t)] [])=some (.val (.d (I' (fnd C t))) []):=by
 have hL:=loop_cursor d0 d1 d2 d3 d4 d5 d7 d8 cn C t hn C [] rfl
 rw [ev_call P_z_254 rfl]
 unfold fnd
 simp at hL
 generalize idx (fun c:K=>c.task==t) 0 C=r at *
 by_cases hr:r = -1<;>simp [hr] at hL<;>simp [F_z_254,hL,hr]
theorem loop_waits (d0 d1 d2 d3 d5 d6 d7 d8:D) (qn:Bool) (Q:List W) (t op:Int) (hn:Q.length≤1000000):∀(suf pre:List W),Q=pre++suf →
  ev P (.loop 0 [1,2,3,7] F_z_280_L0 [(1,.d (I' t)),(2,.d (I' op)),(3,.d (.ref [d0,d1,d2,d3,qD qn Q,d5,d6,d7,d8])),(7,.d (I' pre.length))] []) =
   if wts suf t op=true then some (.out .ret [(6,.d (.b true))] []) else some (.out (.exit 0) [] []):=by
 intro suf
 induction suf with
 | nil =>
  intro pre hl
  have:Q.length=pre.length:=by simp [hl]
  rw [ev_loop]
  conv=>lhs;arg 4;unfold F_z_280_L0
  simp [this,wts]
 | cons c suf ih =>
  intro pre hl
  have hg:Q[pre.length]?=some c:=by simp [hl]
  have hlt:(pre.length:Int)<Q.length:=by simp [hl];omega
  have hnext:IntKind.i64.wrap ((pre.length:Int)+1)=pre.length+1:=wrap_i64 (by omega) (by omega)
  have ih':=ih (pre++[c]) (by simp [hl])
  have e1:wts (c::suf) t op=((c.task==t&&c.op==op)||wts suf t op):=rfl
  rw [e1]
  generalize wts suf t op=dd at *
  simp at ih'
  rw [ev_loop]
  conv=>lhs;arg 4;unfold F_z_280_L0
  cases hw:c.task==t
  ·simp [hlt,hg,W.row,hw,hnext]
   exact ih'
  ·cases ho:c.op==op
   ·simp [hlt,hg,W.row,hw,ho,hnext]
    exact ih'
   ·simp [hlt,hg,W.row,hw,ho]
theorem ev_waits (d0 d1 d2 d3 d5 d6 d7 d8:D) (qn:Bool) (Q:List W) (t op:Int) (hn:Q.length≤1000000) :
  ev P (.call z_280 [.d (.ag [d0,d1,d2,d3,qD qn Q,d5,d6,d7,d8]),.d (I' t),.d (I' op)] [])=some (.val (.d (.b (wts Q t op))) []):=by
 have hL:=loop_waits d0 d1 d2 d3 d5 d6 d7 d8 qn Q t op hn Q [] rfl
 rw [ev_call P_z_280 rfl]
 generalize wts Q t op=v at *
 simp at hL
 cases v<;>simp at hL<;>simp [F_z_280,hL]
def pub (Q:List W):Int:=idx (fun w=>w.op==68) 0 Q
theorem loop_publisher (d0 d1 d2 d3 d5 d6 d7 d8:D) (qn:Bool) (Q:List W) (hn:Q.length≤1000000):∀(suf pre:List W),Q=pre++suf →
  ev P (.loop 0 [1,3] F_z_255_L0 [(1,.d (.ref [d0,d1,d2,d3,qD qn Q,d5,d6,d7,d8])),(3,.d (I' pre.length))] []) =
   if idx (fun w=>w.op==68) pre.length suf = -1 then some (.out (.exit 0) [] []) else some (.out .ret [(2,.d (I' (idx (fun w=>w.op==68) pre.length suf)))] []):=by
 intro suf
 induction suf with
 | nil =>
  intro pre hl
  have:Q.length=pre.length:=by simp [hl]
  rw [ev_loop]
  conv=>lhs;arg 4;unfold F_z_255_L0
  simp [this,idx]
 | cons c suf ih =>
  intro pre hl
  have hg:Q[pre.length]?=some c:=by simp [hl]
  have hlt:(pre.length:Int)<Q.length:=by simp [hl];omega
  have hnext:IntKind.i64.wrap ((pre.length:Int)+1)=pre.length+1:=wrap_i64 (by omega) (by omega)
  have ih':=ih (pre++[c]) (by simp [hl])
  simp at ih'
  rw [ev_loop]
  conv=>lhs;arg 4;unfold F_z_255_L0
  cases hw:c.op==68
  ·simp [hlt,hg,W.row,hw,hnext,idx]
   exact ih'
  ·have:¬(pre.length:Int) = -1:=by omega
   simp [hlt,hg,W.row,hw,idx,this]
theorem ev_publisher (d0 d1 d2 d3 d5 d6 d7 d8:D) (qn:Bool) (Q:List W) (hn:Q.length≤1000000) :
  ev P (.call z_255 [.d (.ag [d0,d1,d2,d3,qD qn Q,d5,d6,d7,d8])] [])=some (.val (.d (I' (pub Q))) []):=by
 have hL:=loop_publisher d0 d1 d2 d3 d5 d6 d7 d8 qn Q hn Q [] rfl
 rw [ev_call P_z_255 rfl]
 unfold pub
 simp at hL
 generalize idx (fun w:W=>w.op==68) 0 Q=r at *
 by_cases hr:r = -1<;>simp [hr] at hL<;>simp [F_z_255,hL,hr]
def rfl' (sz:Int) (C:List K) (Q:List W):Bool:=C.any fun c=>decide (sz≤(c.log.length:Int))&&!wts Q c.task 70
theorem loop_rFull (sz:Int) (x0 x1 x3 d0 d1 d2 d3 d5 d7 d8:D) (qn:Bool) (Q:List W) (cn:Bool) (C:List K) (hn:Q.length≤1000000) (hc:C.length≤1000000):∀(suf pre:List K),C=pre++suf →
  ev P (.loop 0 [2,3,5] F_z_256_L0 [(2,.d (.ref [x0,x1,I' sz,x3])),(3,.d (.ref [d0,d1,d2,d3,qD qn Q,d5,cD cn C,d7,d8])),(5,.d (I' pre.length))] []) =
   if rfl' sz suf Q=true then some (.out .ret [(4,.d (.b true))] []) else some (.out (.exit 0) [] []):=by
 intro suf
 induction suf with
 | nil =>
  intro pre hl
  have:C.length=pre.length:=by simp [hl]
  rw [ev_loop]
  conv=>lhs;arg 4;unfold F_z_256_L0
  simp [this,rfl']
 | cons c suf ih =>
  intro pre hl
  have hg:C[pre.length]?=some c:=by simp [hl]
  have hlt:(pre.length:Int)<C.length:=by simp [hl];omega
  have hnext:IntKind.i64.wrap ((pre.length:Int)+1)=pre.length+1:=wrap_i64 (by omega) (by omega)
  have ih':=ih (pre++[c]) (by simp [hl])
  have hw:=ev_waits d0 d1 d2 d3 d5 (cD cn C) d7 d8 qn Q c.task 70 hn
  have e1:rfl' sz (c::suf) Q=((decide (sz≤(c.log.length:Int))&&!wts Q c.task 70)||rfl' sz suf Q):=rfl
  rw [e1]
  generalize rfl' sz suf Q=dd at *
  generalize wts Q c.task 70=ww at *
  simp at ih'
  rw [ev_loop]
  conv=>lhs;arg 4;unfold F_z_256_L0
  cases h:decide (sz≤(c.log.length:Int))
  ·simp at h
   have h':¬(sz≤(c.log.length:Int)):=by omega
   simp [hlt,hg,K.row,h',hnext]
   exact ih'
  ·simp at h
   cases ww
   ·simp [hlt,hg,K.row,h,hw]
   ·simp [hlt,hg,K.row,h,hw,hnext]
    exact ih'
theorem ev_rFull (sz:Int) (x0 x1 x3 d0 d1 d2 d3 d5 d7 d8:D) (qn:Bool) (Q:List W) (cn:Bool) (C:List K) (hn:Q.length≤1000000) (hc:C.length≤1000000) :
  ev P (.call z_256 [.d (.ag [x0,x1,I' sz,x3]),.d (.ag [d0,d1,d2,d3,qD qn Q,d5,cD cn C,d7,d8])] [])=some (.val (.d (.b (rfl' sz C Q))) []):=by
 have hL:=loop_rFull sz x0 x1 x3 d0 d1 d2 d3 d5 d7 d8 qn Q cn C hn hc C [] rfl
 rw [ev_call P_z_256 rfl]
 generalize rfl' sz C Q=v at *
 simp at hL
 cases v<;>simp at hL<;>simp [F_z_256,hL]
theorem loop_rnum (o ds:List D) (k:Int) (bn:Bool) (t:Int) (l:List Int) (hn:l.length≤1000000):∀(suf pre:List Int),l=pre++suf →
  ev P (.loop 0 [2,3,5,6,7] F_z_203_L0 [(2,.d (.ref o)),(3,.d (.ref ds)),(5,.d (I' k)),(6,.d (.ref [I' t,hD bn l])),(7,.d (I' pre.length))] []) =
   if suf.all num=true then some (.out (.exit 2) [(2,.d (.ref o)),(3,.d (.ref ds)),(5,.d (I' k))] []) else some (.out .ret [(4,.d (.b false))] []):=by
 intro suf
 induction suf with
 | nil =>
  intro pre hl
  have:l.length=pre.length:=by simp [hl]
  rw [ev_loop]
  conv=>lhs;arg 4;unfold F_z_203_L0
  simp [this]
 | cons w suf ih =>
  intro pre hl
  have hg:l[pre.length]?=some w:=by simp [hl]
  have hlt:(pre.length:Int)<l.length:=by simp [hl];omega
  have hnext:IntKind.i64.wrap ((pre.length:Int)+1)=pre.length+1:=wrap_i64 (by omega) (by omega)
  have ih':=ih (pre++[w]) (by simp [hl])
  have e1:(w::suf).all num=(num w&&suf.all num):=rfl
  have hw:=ev_w23 w (-1099511627776) 1099511627776
  have e2:(decide (-1099511627776≤w)&&decide (w≤1099511627776))=num w:=rfl
  rw [e2] at hw
  rw [e1]
  generalize suf.all num=dd at *
  simp at ih'
  rw [ev_loop]
  conv=>lhs;arg 4;unfold F_z_203_L0
  cases hv:num w
  ·rw [hv] at hw
   simp [hlt,hg,hw]
  ·rw [hv] at hw
   simp [hlt,hg,hw,hnext]
   exact ih'
set_option maxHeartbeats 1000000 in
theorem loop_rcursors (sz:Int) (x0 x1 x3 d0 d1 d2 d3 d4 d5 d7 d8:D) (cn:Bool) (C:List K) (hn:C.length≤1000000) (hl1:∀c∈C,c.log.length≤1000000):∀(suf pre:List K),C=pre++suf →
  ev P (.loop 0 [2,3,5] F_z_203_L1 [(2,.d (.ref [x0,x1,I' sz,x3])),(3,.d (.ref [d0,d1,d2,d3,d4,d5,cD cn C,d7,d8])),(5,.d (I' pre.length))] []) =
   if vc sz pre.getLast? suf=true then some (.out (.exit 0) [] []) else some (.out .ret [(4,.d (.b false))] []):=by
 intro suf
 induction suf with
 | nil =>
  intro pre hl
  have:C.length=pre.length:=by simp [hl]
  rw [ev_loop]
  conv=>lhs;arg 4;unfold F_z_203_L1
  simp [this,vc]
 | cons c suf ih =>
  intro pre hl
  have hg:C[pre.length]?=some c:=by simp [hl]
  have hlt:(pre.length:Int)<C.length:=by simp [hl];omega
  have ih':=ih (pre++[c]) (by simp [hl])
  have hN:=loop_rnum [x0,x1,I' sz,x3] [d0,d1,d2,d3,d4,d5,cD cn C,d7,d8] pre.length c.nl c.task c.log (hl1 c (by simp [hl])) c.log [] rfl
  have e1:vc sz pre.getLast? (c::suf)=(!kbad sz pre.getLast? c&&(c.log.all num&&vc sz (some c) suf)):=rfl
  have hw:=ev_w23 c.task 0 15
  rw [e1]
  simp only [List.getLast?_append,List.getLast?_singleton,Option.some_or] at ih'
  generalize vc sz (some c) suf=dd at *
  generalize c.log.all num=da at *
  simp at ih' hN
  rw [ev_loop]
  conv=>lhs;arg 4;unfold F_z_203_L1
  have hnext:IntKind.i64.wrap ((pre.length:Int)+1)=pre.length+1:=wrap_i64 (by omega) (by omega)
  have ee:(decide (0≤c.task)&&decide (c.task≤15))=!(decide (c.task<0)||decide (16≤c.task)):=by
   rw [Bool.eq_iff_iff];simp;omega
  rw [ee] at hw
  cases h1:(decide (c.task<0)||decide (16≤c.task))<;>rw [h1] at hw
  ·rcases List.eq_nil_or_concat pre with rfl | ⟨pre',p,rfl⟩
   ·have hlt2:0<C.length:=by simp [hl]
    have hg0:C[0]=c:=by simp [hl]
    cases h2:decide (sz<c.log.length)
    ·have hk:kbad sz none c=false:=by simp only [kbad,h1,h2,Option.any_none,Bool.or_false]
     simp [wrap1] at ih' hN
     cases da
     ·simp at hN
      simp [hlt2,hg0,K.row,hw,h2,hk,hN]
     ·simp at hN
      simp [hlt2,hg0,K.row,hw,h2,hk,hN,wrap1]
      exact ih'
    ·have hk:kbad sz none c=true:=by simp only [kbad,h1,h2,Option.any_none,Bool.or_false,Bool.or_true]
     simp [hlt2,hg0,K.row,hw,h2,hk]
   ·have hgp:C[pre'.length]?=some p:=by simp [hl]
    have hlen:((pre'.length:Int)+1<C.length):=by simp [hl];omega
    have hw1:IntKind.i64.wrap ((pre'.length:Int)+1 - 1)=pre'.length:=by rw [wrap_i64 (by omega) (by omega)];omega
    have h0:(0:Int)<pre'.length+1:=by omega
    have h00:(0:Int)≤pre'.length+1:=by omega
    have hw2:IntKind.i64.wrap (pre'.length:Int)=pre'.length:=wrap_i64 (by omega) (by omega)
    have hw3:IntKind.i64.wrap ((pre'.length:Int)+1+1)=pre'.length+1+1:=wrap_i64 (by omega) (by omega)
    simp only [List.concat_eq_append,List.length_append,List.length_singleton] at hg
    simp at ih' hN
    cases h3:decide (c.task≤p.task)
    ·cases h2:decide (sz<c.log.length)
     ·have hk:kbad sz (some p) c=false:=by simp only [kbad,h1,h2,h3,Option.any_some,Bool.or_false]
      cases da
      ·simp at hN
       simp [hlen,hg,hgp,hw2,h0,h00,K.row,hw,h2,h3,hk,hN]
      ·simp at hN
       simp [hlen,hg,hgp,hw2,h0,h00,K.row,hw,h2,h3,hk,hN,hw3]
       exact ih'
     ·have hk:kbad sz (some p) c=true:=by simp only [kbad,h1,h2,h3,Option.any_some,Bool.or_false,Bool.or_true]
      simp [hlen,hg,hgp,hw2,h0,h00,K.row,hw,h2,h3,hk]
    ·have hk:kbad sz (some p) c=true:=by simp only [kbad,h1,h3,Option.any_some,Bool.or_true,Bool.true_or]
     simp [hlen,hg,hgp,hw2,h0,h00,K.row,hw,h3,hk]
  ·have hk:kbad sz pre.getLast? c=true:=by simp [kbad,h1]
   simp [hlt,hg,K.row,hw,hk]
theorem ev_rcursors (sz:Int) (x0 x1 x3 d0 d1 d2 d3 d4 d5 d7 d8:D) (cn:Bool) (C:List K) (hn:C.length≤1000000) (hl1:∀c∈C,c.log.length≤1000000) :
  ev P (.call z_203 [.d (.ag [x0,x1,I' sz,x3]),.d (.ag [d0,d1,d2,d3,d4,d5,cD cn C,d7,d8])] [])=some (.val (.d (.b (vc sz none C))) []):=by
 have hL:=loop_rcursors sz x0 x1 x3 d0 d1 d2 d3 d4 d5 d7 d8 cn C hn hl1 C [] rfl
 rw [ev_call P_z_203 rfl]
 generalize hv:vc sz none C=v at *
 simp [hv] at hL
 cases v<;>simp at hL<;>simp [F_z_203,hL]
end Go.VS.Sp
namespace Go.VS.Sp
def rqo (C:List K) (w:W):Bool:=(w.op==70||w.op==68)&&(if w.op=70 then n70 C w else true)
def rq (C:List K):List W→List W→Bool
 | _,[]=>true
 | pre,w::r=>!pre.any (fun x=>x.task==w.task)&&(w.case == -1&&(rqo C w&&rq C (pre++[w]) r))
theorem loop_rqueue (o:List D) (d0 d1 d2 d3 d5 d7 d8:D) (qn:Bool) (Q:List W) (cn:Bool) (C:List K) (hn:Q.length≤1000000) (hc:C.length≤1000000):∀(suf pre:List W),Q=pre++suf →
  ev P (.loop 0 [2,3,5] F_z_204_L0 [(2,.d (.ref o)),(3,.d (.ref [d0,d1,d2,d3,qD qn Q,d5,cD cn C,d7,d8])),(5,.d (I' pre.length))] []) =
   if rq C pre suf=true then some (.out (.exit 0) [(2,.d (.ref o)),(3,.d (.ref [d0,d1,d2,d3,qD qn Q,d5,cD cn C,d7,d8]))] []) else some (.out .ret [(4,.d (.b false))] []):=by
 intro suf
 induction suf with
 | nil =>
  intro pre hl
  have:Q.length=pre.length:=by simp [hl]
  rw [ev_loop]
  conv=>lhs;arg 4;unfold F_z_204_L0
  simp [this,rq]
 | cons w suf ih =>
  intro pre hl
  have hg:Q[pre.length]?=some w:=by simp [hl]
  have hlt:(pre.length:Int)<Q.length:=by simp [hl];omega
  have hnext:IntKind.i64.wrap ((pre.length:Int)+1)=pre.length+1:=wrap_i64 (by omega) (by omega)
  have ih':=ih (pre++[w]) (by simp [hl])
  have hF:=ev_rFind qn Q w.task hn
  have hfe:((fdS Q w.task).1==(pre.length:Int))=!pre.any (fun x=>x.task==w.task):=by rw [hl];exact fd_eq
  have hfd:=ev_cursor d0 d1 d2 d3 (qD qn Q) d5 d7 d8 cn C w.task hc
  have e1:rq C pre (w::suf)=(!pre.any (fun x=>x.task==w.task)&&(w.case == -1&&(rqo C w&&rq C (pre++[w]) suf))):=rfl
  rw [e1]
  generalize rq C (pre++[w]) suf=dd at *
  generalize (fdS Q w.task).1=fi at *
  generalize (fdS Q w.task).2=fb at *
  simp at ih'
  rw [ev_loop]
  conv=>lhs;arg 4;unfold F_z_204_L0
  cases hop:(w.op != 70&&w.op != 68)
  ·cases hk:w.case == -1
   ·have hk2:(w.case != -1)=true:=by simp [bne,hk]
    simp [hlt,hg,W.row,hF,hop,hk2]
   ·have hk2:(w.case != -1)=false:=by simp [bne,hk]
    cases ha:pre.any (fun x=>x.task==w.task)
    ·rw [ha] at hfe
     have hfe2:(fi != (pre.length:Int))=false:=by simp [bne,hfe]
     by_cases h70:w.op=70
     ·have e2:rqo C w=n70 C w:=by simp [rqo,h70]
      rw [e2]
      rcases fnd_spec C w.task with ⟨f1,f2⟩ | ⟨i,c,f1,f2,f3⟩
      ·have e3:n70 C w=false:=by simp [n70,f2]
       rw [f1] at hfd
       simp [hlt,hg,W.row,hF,hfe2,hk2,h70,hfd,e3]
      ·have e3:n70 C w=(!decide (0<c.log.length)&&w.value==0):=by simp only [n70,f3]
       rw [f1] at hfd
       rw [e3]
       have n1:¬((i:Int)<0):=by omega
       cases p1:decide (0<c.log.length)
       ·cases p2:w.value==0
        ·have p3:(w.value != 0)=true:=by simp [bne,p2]
         simp at p1
         simp [hlt,hg,W.row,hF,hfe2,hk2,h70,hfd,n1,f2,K.row,p1,p3]
        ·have p3:(w.value != 0)=false:=by simp [bne,p2]
         simp at p1
         simp [hlt,hg,W.row,hF,hfe2,hk2,h70,hfd,n1,f2,K.row,p1,p3,hnext]
         exact ih'
       ·simp at p1
        simp [hlt,hg,W.row,hF,hfe2,hk2,h70,hfd,n1,f2,K.row,p1]
     ·have h68:w.op=68:=by
       simp [h70] at hop;exact hop
      have e2:rqo C w=true:=by simp [rqo,h68]
      rw [e2]
      simp [hlt,hg,W.row,hF,hfe2,hk2,h68,hnext]
      exact ih'
    ·rw [ha] at hfe
     have hfe2:(fi != (pre.length:Int))=true:=by simp [bne,hfe]
     simp [hlt,hg,W.row,hF,hop,hk2,hfe2]
  ·have e2:rqo C w=false:=by
    simp at hop
    simp [rqo,hop.1,hop.2]
   rw [e2]
   simp [hlt,hg,W.row,hF,hop]
theorem ev_rqueue (sz:Int) (x0 x1 x3 d0 d1 d2 d3 d5 d7 d8:D) (qn:Bool) (Q:List W) (cn:Bool) (C:List K) (hn:Q.length≤1000000) (hc:C.length≤1000000) :
  ev P (.call z_204 [.d (.ag [x0,x1,I' sz,x3]),.d (.ag [d0,d1,d2,d3,qD qn Q,d5,cD cn C,d7,d8])] []) =
   some (.val (.d (.b (wchk Q==0&&(rq C [] Q&&(decide (pub Q<0)||rfl' sz C Q))))) []):=by
 have hL:=loop_rqueue [x0,x1,I' sz,x3] d0 d1 d2 d3 d5 d7 d8 qn Q cn C hn hc Q [] rfl
 have hW:=ev_rchk qn Q hn
 rw [rchk_eq] at hW
 have hP:=ev_publisher d0 d1 d2 d3 d5 (cD cn C) d7 d8 qn Q hn
 have hU:=ev_rFull sz x0 x1 x3 d0 d1 d2 d3 d5 d7 d8 qn Q cn C hn hc
 rw [ev_call P_z_204 rfl]
 generalize rq C [] Q=v at *
 generalize rfl' sz C Q=u at *
 generalize pub Q=q at *
 simp at hL
 cases hw:wchk Q==0
 ·have hw2:(wchk Q != 0)=true:=by simp [bne,hw]
  simp [F_z_204,hW,hw2]
 ·have hw2:(wchk Q != 0)=false:=by simp [bne,hw]
  cases v<;>simp at hL
  ·simp [F_z_204,hW,hw2,hL]
  ·by_cases hq:q<0
   ·simp [F_z_204,hW,hw2,hL,hP,hq]
   ·simp [F_z_204,hW,hw2,hL,hP,hq,hU]
theorem rfl_eq {sz:Int} {C:List K} {Q:List W} (h:∀c∈C,(c.log.length:Int)≤sz):rfl' sz C Q=fl sz C Q:=by
 unfold rfl' fl
 rw [Bool.eq_iff_iff]
 simp only [List.any_eq_true]
 constructor
 ·rintro ⟨c,hc,h1⟩
  refine ⟨c,hc,?_⟩
  have:=h c hc
  simp at h1 ⊢
  exact ⟨by omega,h1.2⟩
 ·rintro ⟨c,hc,h1⟩
  refine ⟨c,hc,?_⟩
  simp at h1 ⊢
  exact ⟨by omega,h1.2⟩
theorem vc_len {sz:Int}:∀{C:List K} {p:Option K},vc sz p C=true→∀c∈C,(c.log.length:Int)≤sz
 | [],_,_,c,hc=>by simp at hc
 | a::C,p,h,c,hc=>by
  have e1:vc sz p (a::C)=(!kbad sz p a&&(a.log.all num&&vc sz (some a) C)):=rfl
  rw [e1] at h
  simp only [Bool.and_eq_true] at h
  rcases List.mem_cons.1 hc with rfl | hc
  ·have h1:=h.1
   unfold kbad at h1
   simp at h1
   omega
  ·exact vc_len h.2.2 c hc
theorem pub_neg {Q:List W}:decide (pub Q<0)=!Q.any fun w=>w.op==68:=by
 have:=idx_any (p:=fun w:W=>w.op==68) (l:=Q) (k:=0) (by omega)
 unfold pub
 cases h:Q.any fun w=>w.op==68
 ·rw [h] at this
  have h2:¬0≤idx (fun w:W=>w.op==68) 0 Q:=fun x=>by simpa using this.1 x
  simp;omega
 ·have:=this.2 h
  simp;omega
theorem tq_rq {sz:Int} {C:List K} {Q:List W}:∀(suf pre:List W),tq sz C Q pre suf=(rq C pre suf&&((!suf.any fun w=>w.op==68)||fl sz C Q))
 | [],pre=>by simp [tq,rq]
 | w::suf,pre=>by
  have e1:tq sz C Q pre (w::suf)=(!pre.any (fun x=>x.task==w.task)&&(w.case == -1&&(tqo sz C Q w&&tq sz C Q (pre++[w]) suf))):=rfl
  have e2:rq C pre (w::suf)=(!pre.any (fun x=>x.task==w.task)&&(w.case == -1&&(rqo C w&&rq C (pre++[w]) suf))):=rfl
  have e3:(w::suf).any (fun w=>w.op==68)=(w.op==68||suf.any (fun w=>w.op==68)):=rfl
  rw [e1,e2,e3,tq_rq suf (pre++[w])]
  have e4:tqo sz C Q w=(rqo C w&&(!(w.op==68)||fl sz C Q)):=by
   unfold tqo rqo
   by_cases h70:w.op=70
   ·simp [h70]
   ·by_cases h68:w.op=68<;>simp [h70,h68]
  rw [e4]
  generalize pre.any (fun x=>x.task==w.task)=a1
  generalize rqo C w=a2
  generalize rq C (pre++[w]) suf=a3
  generalize suf.any (fun w=>w.op==68)=a4
  generalize fl sz C Q=a5
  generalize (w.op==68)=a6
  generalize (w.case == -1)=a7
  revert a1 a2 a3 a4 a5 a6 a7
  decide
theorem ev_rCheck (nm:D) (k sz ot:Int) (s:S) (hs:s.sm) :
  ev P (.call z_118 [.d (.ag [nm,I' k,I' sz,I' ot]),.d (.ag s.row)] [])=some (.val (.d (I' (ckd k sz ot s))) []):=by
 have hC:=ev_rcursors sz nm (I' k) (I' ot) (I' s.own) (I' s.cnt) (I' s.time) (hD s.hn s.H) (qD s.qn s.Q) (hD s.bn s.B) (.b s.cl) (I' s.val) s.cn s.C hs.c hs.l
 have hQ:=ev_rqueue sz nm (I' k) (I' ot) (I' s.own) (I' s.cnt) (I' s.time) (hD s.hn s.H) (hD s.bn s.B) (.b s.cl) (I' s.val) s.qn s.Q s.cn s.C hs.q hs.c
 have hh:=hs.h
 have hb:=hs.b
 rw [ev_call P_z_118 rfl]
 unfold ckd
 cases hm:mnew k sz ot==0
 ·have hm':mnew k sz ot≠0:=by simpa using hm
  have hm2:(mnew k sz ot != 0)=true:=by simpa using hm'
  simp [F_z_118,ev_rNew,hm',hm2,zrow]
 ·have hm':mnew k sz ot=0:=by simpa using hm
  have hw:IntKind.i64.wrap ((s.H.length:Int)+s.B.length)=s.H.length+s.B.length:=wrap_i64 (by omega) (by omega)
  have hd:decide ((0:Int)<(s.H.length:Int)+s.B.length)=decide (0<s.H.length+s.B.length):=by
   rw [Bool.eq_iff_iff];simp;omega
  unfold S.good
  cases ho:s.own == -1
  ·have ho2:(s.own != -1)=true:=by simp [bne,ho]
   simp [F_z_118,ev_rNew,hm',frow,ho2]
  ·have ho2:(s.own != -1)=false:=by simp [bne,ho]
   cases hz:(s.cnt != 0||s.time != 0||decide (0<s.H.length+s.B.length)||s.cl||s.val != 0)
   ·have hz2:s.fl0=false:=hz
    rw [hz2]
    cases hv:vc sz none s.C<;>rw [hv] at hC
    ·simp [F_z_118,ev_rNew,hm',frow,ho2,hC,hw,hd,hz]
    ·rw [pub_neg,rfl_eq (vc_len hv)] at hQ
     rw [tq_rq]
     cases hq:(wchk s.Q==0&&(rq s.C [] s.Q&&((!s.Q.any fun w=>w.op==68)||fl sz s.C s.Q)))<;>rw [hq] at hQ
     ·simp [F_z_118,ev_rNew,hm',frow,ho2,hC,hQ,hw,hd,hz]
     ·simp [F_z_118,ev_rNew,hm',frow,ho2,hC,hQ,hw,hd,hz]
   ·have hz2:s.fl0=true:=hz
    simp [F_z_118,ev_rNew,hm',frow,ho2,hw,hd,hz,hz2]
end Go.VS.Sp
namespace Go.VS.Sp
def nwA (K k sz ot:Int):Int:=if (k != K)=true then 8 else if (sz != 0||ot != 0)=true then 2 else 0
def nwS (k sz ot:Int):Int:=if (k != 4)=true then 8 else if (decide (sz<1)||decide (100<sz)||(ot != 0&&ot != 1))=true then 2 else 0
def nwB (k sz ot:Int):Int:=if (k != 5)=true then 8 else if (decide (sz<1)||decide (100<sz)||ot != 0)=true then 2 else 0
def nwC (k sz ot:Int):Int:=if (k != 6)=true then 8 else if (decide (sz<0)||decide (100<sz)||ot != 0)=true then 2 else 0
def nwL (k sz ot:Int):Int:=if (k != 8)=true then 8 else if (decide (sz<1)||decide (100<sz)||decide (ot<1)||decide (1099511627776<ot))=true then 2 else 0
def grow (n:Int):List D:=[I' (-1),I' n,I' 0,.sl 1 true [],.sl 5 true [],.sl 1 true [],.sl 2 true [],.b false,I' 0]
abbrev nwR (e:Int) (r:List D):Option Res:=some (.val (.tu [.d (.ag (if e=0 then r else zrow)),.d (I' e)]) [])
theorem ev_nwM (nm:D) (k sz ot:Int):ev P (.call z_62 [.d (.ag [nm,I' k,I' sz,I' ot])] [])=nwR (nwA 1 k sz ot) frow:=by
 rw [ev_call P_z_62 rfl]
 unfold nwA
 cases hk:k != 1
 ·cases hb:(sz != 0||ot != 0)<;>simp [F_z_62,hk,hb,frow,zrow]
 ·simp [F_z_62,hk,zrow]
theorem ev_nwMr (nm:D) (k sz ot:Int):ev P (.call z_49 [.d (.ag [nm,I' k,I' sz,I' ot])] [])=nwR (nwA 1 k sz ot) frow:=by
 rw [ev_call P_z_49 rfl]
 unfold nwA
 cases hk:k != 1
 ·cases hb:(sz != 0||ot != 0)<;>simp [F_z_49,hk,hb,frow,zrow]
 ·simp [F_z_49,hk,zrow]
theorem ev_nwW (nm:D) (k sz ot:Int):ev P (.call z_67 [.d (.ag [nm,I' k,I' sz,I' ot])] [])=nwR (nwA 2 k sz ot) frow:=by
 rw [ev_call P_z_67 rfl]
 unfold nwA
 cases hk:k != 2
 ·cases hb:(sz != 0||ot != 0)<;>simp [F_z_67,hk,hb,frow,zrow]
 ·simp [F_z_67,hk,zrow]
theorem ev_nwWr (nm:D) (k sz ot:Int):ev P (.call z_50 [.d (.ag [nm,I' k,I' sz,I' ot])] [])=nwR (nwA 2 k sz ot) frow:=by
 rw [ev_call P_z_50 rfl]
 unfold nwA
 cases hk:k != 2
 ·cases hb:(sz != 0||ot != 0)<;>simp [F_z_50,hk,hb,frow,zrow]
 ·simp [F_z_50,hk,zrow]
theorem ev_nwF (nm:D) (k sz ot:Int):ev P (.call z_97 [.d (.ag [nm,I' k,I' sz,I' ot])] [])=nwR (nwA 9 k sz ot) frow:=by
 rw [ev_call P_z_97 rfl]
 unfold nwA
 cases hk:k != 9
 ·cases hb:(sz != 0||ot != 0)<;>simp [F_z_97,hk,hb,frow,zrow]
 ·simp [F_z_97,hk,zrow]
theorem ev_nwFr (nm:D) (k sz ot:Int):ev P (.call z_56 [.d (.ag [nm,I' k,I' sz,I' ot])] [])=nwR (nwA 9 k sz ot) frow:=by
 rw [ev_call P_z_56 rfl]
 unfold nwA
 cases hk:k != 9
 ·cases hb:(sz != 0||ot != 0)<;>simp [F_z_56,hk,hb,frow,zrow]
 ·simp [F_z_56,hk,zrow]
theorem ev_nwS (nm:D) (k sz ot:Int):ev P (.call z_72 [.d (.ag [nm,I' k,I' sz,I' ot])] [])=nwR (nwS k sz ot) (grow sz):=by
 rw [ev_call P_z_72 rfl]
 unfold nwS
 cases hk:k != 4
 ·cases hb:(decide (sz<1)||decide (100<sz)||(ot != 0&&ot != 1))<;>simp [F_z_72,hk,hb,grow,zrow]
 ·simp [F_z_72,hk,zrow]
theorem ev_w19 (a b c:Int):ev P (.call z_121 [.d (I' a),.d (I' b),.d (I' c)] [])=some (.val (.d (.b (decide (b≤a)&&decide (a≤c)))) []):=by
 rw [ev_call P_z_121 rfl]
 simp [F_z_121]
theorem ev_nwSr (nm:D) (k sz ot:Int):ev P (.call z_51 [.d (.ag [nm,I' k,I' sz,I' ot])] [])=nwR (nwS k sz ot) (grow sz):=by
 rw [ev_call P_z_51 rfl]
 unfold nwS
 have e:(decide (sz<1)||decide (100<sz)||(ot != 0&&ot != 1))=((!decide (1≤sz)||!decide (sz≤100))||(!decide (0≤ot)||!decide (ot≤1))):=by
  rw [Bool.eq_iff_iff];simp;omega
 rw [e]
 cases hk:k != 4
 ·cases hb:((!decide (1≤sz)||!decide (sz≤100))||(!decide (0≤ot)||!decide (ot≤1)))<;>simp [F_z_51,ev_w19,hk,hb,grow,zrow]
 ·simp [F_z_51,hk,zrow]
theorem ev_nwB (nm:D) (k sz ot:Int):ev P (.call z_77 [.d (.ag [nm,I' k,I' sz,I' ot])] [])=nwR (nwB k sz ot) frow:=by
 rw [ev_call P_z_77 rfl]
 unfold nwB
 cases hk:k != 5
 ·cases hb:(decide (sz<1)||decide (100<sz)||ot != 0)<;>simp [F_z_77,hk,hb,frow,zrow]
 ·simp [F_z_77,hk,zrow]
theorem ev_nwBr (nm:D) (k sz ot:Int):ev P (.call z_52 [.d (.ag [nm,I' k,I' sz,I' ot])] [])=nwR (nwB k sz ot) frow:=by
 rw [ev_call P_z_52 rfl]
 unfold nwB
 cases hk:k != 5
 ·cases hb:(decide (sz<1)||decide (100<sz)||ot != 0)<;>simp [F_z_52,hk,hb,frow,zrow]
 ·simp [F_z_52,hk,zrow]
theorem ev_nwC (nm:D) (k sz ot:Int):ev P (.call z_82 [.d (.ag [nm,I' k,I' sz,I' ot])] [])=nwR (nwC k sz ot) frow:=by
 rw [ev_call P_z_82 rfl]
 unfold nwC
 cases hk:k != 6
 ·cases hb:(decide (sz<0)||decide (100<sz)||ot != 0)<;>simp [F_z_82,hk,hb,frow,zrow]
 ·simp [F_z_82,hk,zrow]
theorem ev_nwCr (nm:D) (k sz ot:Int):ev P (.call z_53 [.d (.ag [nm,I' k,I' sz,I' ot])] [])=nwR (nwC k sz ot) frow:=by
 rw [ev_call P_z_53 rfl]
 unfold nwC
 cases hk:k != 6
 ·cases hb:(decide (sz<0)||decide (100<sz)||ot != 0)<;>simp [F_z_53,hk,hb,frow,zrow]
 ·simp [F_z_53,hk,zrow]
theorem ev_nwL (nm:D) (k sz ot:Int):ev P (.call z_92 [.d (.ag [nm,I' k,I' sz,I' ot])] [])=nwR (nwL k sz ot) (grow sz):=by
 rw [ev_call P_z_92 rfl]
 unfold nwL
 cases hk:k != 8
 ·cases hb:(decide (sz<1)||decide (100<sz)||decide (ot<1)||decide (1099511627776<ot))<;>simp [F_z_92,hk,hb,grow,zrow]
 ·simp [F_z_92,hk,zrow]
theorem ev_nwLr (nm:D) (k sz ot:Int):ev P (.call z_55 [.d (.ag [nm,I' k,I' sz,I' ot])] [])=nwR (nwL k sz ot) (grow sz):=by
 rw [ev_call P_z_55 rfl]
 unfold nwL
 cases hk:k != 8
 ·cases hb:(decide (sz<1)||decide (100<sz)||decide (ot<1)||decide (1099511627776<ot))<;>simp [F_z_55,hk,hb,grow,zrow]
 ·simp [F_z_55,hk,zrow]
end Go.VS.Sp
namespace Go.VS.Sp
theorem loop_SameInts (n1 n2:Bool) (l m:List Int) (hn:l.length≤1000000) (hm:l.length=m.length):∀(suf suf' pre:List Int),l=pre++suf→m=pre++suf' →
  ev P (.loop 0 [0,1,5] F_z_42_L0 [(0,.d (hD n1 l)),(1,.d (hD n2 m)),(5,.d (I' pre.length))] []) =
   if suf=suf' then some (.out (.exit 0) [] []) else some (.out .ret [(4,.d (.b false))] []):=by
 intro suf
 induction suf with
 | nil =>
  intro suf' pre hl hl'
  have h1:l.length=pre.length:=by simp [hl]
  have:suf'=[]:=by
   have h2:m.length=pre.length+suf'.length:=by simp [hl']
   exact List.length_eq_zero_iff.1 (by omega)
  subst this
  rw [ev_loop]
  conv=>lhs;arg 4;unfold F_z_42_L0
  simp [h1]
 | cons w suf ih =>
  intro suf' pre hl hl'
  have hg:l[pre.length]?=some w:=by simp [hl]
  have hlt:(pre.length:Int)<l.length:=by simp [hl];omega
  have hnext:IntKind.i64.wrap ((pre.length:Int)+1)=pre.length+1:=wrap_i64 (by omega) (by omega)
  cases suf' with
  | nil=>exfalso;simp [hl,hl'] at hm
  | cons w' suf' =>
  have hg':m[pre.length]?=some w':=by simp [hl']
  rw [ev_loop]
  conv=>lhs;arg 4;unfold F_z_42_L0
  by_cases hw:w=w'
  ·subst hw
   have ih':=ih suf' (pre++[w]) (by simp [hl]) (by simp [hl'])
   simp at ih'
   simp [hlt,hg,hg',hnext]
   exact ih'
  ·have hw2:(w != w')=true:=by simpa using hw
   simp [hlt,hg,hg',hw2,hw]
theorem ev_SameInts (n1 n2:Bool) (l m:List Int) (hn:l.length≤1000000) :
  ev P (.call z_42 [.d (hD n1 l),.d (hD n2 m)] [])=some (.val (.d (.b (l==m))) []):=by
 rw [ev_call P_z_42 rfl]
 by_cases hlen:l.length=m.length
 ·have hl:=loop_SameInts n1 n2 l m hn hlen l m [] rfl rfl
  simp at hl
  have:((l.length:Int) != m.length)=false:=by simp [hlen]
  simp [F_z_42,this]
  simp [hl]
  by_cases h:l=m<;>simp [h]
 ·have:((l.length:Int) != m.length)=true:=by simp;omega
  have h2:¬l=m:=fun h=>hlen (by rw [h])
  simp [F_z_42,this,h2]
theorem W.neq {w w':W} (h:¬w=w'):(!w.task==w'.task||(!w.op==w'.op||(!w.value==w'.value||(!w.prio==w'.prio||!w.case==w'.case))))=true:=by
 cases hb:(!w.task==w'.task||(!w.op==w'.op||(!w.value==w'.value||(!w.prio==w'.prio||!w.case==w'.case))))
 ·exfalso;apply h
  simp at hb
  cases w;cases w';simp at hb ⊢;exact hb
 ·rfl
theorem loop_SameW16 (n1 n2:Bool) (l m:List W) (hn:l.length≤1000000) (hm:l.length=m.length):∀(suf suf' pre:List W),l=pre++suf→m=pre++suf' →
  ev P (.loop 0 [0,1,5] F_z_43_L0 [(0,.d (qD n1 l)),(1,.d (qD n2 m)),(5,.d (I' pre.length))] []) =
   if suf=suf' then some (.out (.exit 0) [] []) else some (.out .ret [(4,.d (.b false))] []):=by
 intro suf
 induction suf with
 | nil =>
  intro suf' pre hl hl'
  have h1:l.length=pre.length:=by simp [hl]
  have:suf'=[]:=by
   have h2:m.length=pre.length+suf'.length:=by simp [hl']
   exact List.length_eq_zero_iff.1 (by omega)
  subst this
  rw [ev_loop]
  conv=>lhs;arg 4;unfold F_z_43_L0
  simp [h1]
 | cons w suf ih =>
  intro suf' pre hl hl'
  have hg:l[pre.length]?=some w:=by simp [hl]
  have hlt:(pre.length:Int)<l.length:=by simp [hl];omega
  have hnext:IntKind.i64.wrap ((pre.length:Int)+1)=pre.length+1:=wrap_i64 (by omega) (by omega)
  cases suf' with
  | nil=>exfalso;simp [hl,hl'] at hm
  | cons w' suf' =>
  have hg':m[pre.length]?=some w':=by simp [hl']
  rw [ev_loop]
  conv=>lhs;arg 4;unfold F_z_43_L0
  by_cases hw:w=w'
  ·subst hw
   have ih':=ih suf' (pre++[w]) (by simp [hl]) (by simp [hl'])
   simp at ih'
   simp [hlt,hg,hg',hnext,W.row]
   exact ih'
  ·have hw2:=W.neq hw
   simp [hlt,hg,hg',hw2,hw,W.row]
theorem ev_SameW16 (n1 n2:Bool) (l m:List W) (hn:l.length≤1000000) :
  ev P (.call z_43 [.d (qD n1 l),.d (qD n2 m)] [])=some (.val (.d (.b (l==m))) []):=by
 rw [ev_call P_z_43 rfl]
 by_cases hlen:l.length=m.length
 ·have hl:=loop_SameW16 n1 n2 l m hn hlen l m [] rfl rfl
  simp at hl
  have:((l.length:Int) != m.length)=false:=by simp [hlen]
  simp [F_z_43,this]
  simp [hl]
  by_cases h:l=m<;>simp [h]
 ·have:((l.length:Int) != m.length)=true:=by simp;omega
  have h2:¬l=m:=fun h=>hlen (by rw [h])
  simp [F_z_43,this,h2]
def K.pl (c:K):K:=⟨c.task,false,c.log⟩
theorem loop_sameCursors (n1 n2:Bool) (l m:List K) (hn:l.length≤1000000) (hk:∀c∈l,c.log.length≤1000000) (hm:l.length=m.length):∀(suf suf' pre pre':List K),l=pre++suf→m=pre'++suf'→pre'.length=pre.length →
  ev P (.loop 0 [0,1,5] F_z_44_L0 [(0,.d (cD n1 l)),(1,.d (cD n2 m)),(5,.d (I' pre.length))] []) =
   if (suf.map K.pl==suf'.map K.pl)=true then some (.out (.exit 0) [] []) else some (.out .ret [(4,.d (.b false))] []):=by
 intro suf
 induction suf with
 | nil =>
  intro suf' pre pre' hl hl' hp
  have h1:l.length=pre.length:=by simp [hl]
  have:suf'=[]:=by
   have h2:m.length=pre'.length+suf'.length:=by simp [hl']
   exact List.length_eq_zero_iff.1 (by omega)
  subst this
  rw [ev_loop]
  conv=>lhs;arg 4;unfold F_z_44_L0
  simp [h1]
 | cons w suf ih =>
  intro suf' pre pre' hl hl' hp
  have hg:l[pre.length]?=some w:=by simp [hl]
  have hlt:(pre.length:Int)<l.length:=by simp [hl];omega
  have hnext:IntKind.i64.wrap ((pre.length:Int)+1)=pre.length+1:=wrap_i64 (by omega) (by omega)
  cases suf' with
  | nil=>exfalso;simp [hl,hl'] at hm;omega
  | cons w' suf' =>
  have hg':m[pre.length]?=some w':=by rw [←hp];simp [hl']
  have e:((w::suf).map K.pl==(w'::suf').map K.pl)=(w.task==w'.task&&(w.log==w'.log&&suf.map K.pl==suf'.map K.pl)):=by
   rw [Bool.eq_iff_iff];simp [K.pl,and_assoc]
  have hS:=ev_SameInts w.nl w'.nl w.log w'.log (hk w (by simp [hl]))
  have ih':=ih suf' (pre++[w]) (pre'++[w']) (by simp [hl]) (by simp [hl']) (by simp [hp])
  rw [e]
  generalize (suf.map K.pl==suf'.map K.pl)=pp at *
  generalize (w.log==w'.log)=ll at *
  simp at ih'
  rw [ev_loop]
  conv=>lhs;arg 4;unfold F_z_44_L0
  cases hw:w.task==w'.task
  ·have hw2:(w.task != w'.task)=true:=by simp [bne,hw]
   simp [hlt,hg,hg',hw2,K.row]
  ·have hw2:(w.task != w'.task)=false:=by simp [bne,hw]
   cases ll
   ·simp [hlt,hg,hg',hw2,K.row,hS]
   ·simp [hlt,hg,hg',hw2,K.row,hS,hnext]
    exact ih'
theorem ev_sameCursors (n1 n2:Bool) (l m:List K) (hn:l.length≤1000000) (hk:∀c∈l,c.log.length≤1000000) :
  ev P (.call z_44 [.d (cD n1 l),.d (cD n2 m)] [])=some (.val (.d (.b (l.map K.pl==m.map K.pl))) []):=by
 rw [ev_call P_z_44 rfl]
 by_cases hlen:l.length=m.length
 ·have hl:=loop_sameCursors n1 n2 l m hn hk hlen l m [] [] rfl rfl rfl
  generalize (l.map K.pl==m.map K.pl)=bb at *
  simp at hl
  have:((l.length:Int) != m.length)=false:=by simp [hlen]
  simp [F_z_44,this]
  cases bb<;>simp at hl<;>simp [hl]
 ·have:((l.length:Int) != m.length)=true:=by simp;omega
  have h2:¬l.map K.pl=m.map K.pl:=fun h=>hlen (by simpa using congrArg List.length h)
  simp only [beq_eq_false_iff_ne.2 h2]
  simp [F_z_44,this]
def S.pl (s:S):S:=⟨s.own,s.cnt,s.time,false,s.H,false,s.Q,false,s.B,false,s.C.map K.pl,s.cl,s.val⟩
theorem ev_Same (a b:S) (ha:a.sm):ev P (.call z_17 [.d (.ag a.row),.d (.ag b.row)] [])=some (.val (.d (.b (a.pl==b.pl))) []):=by
 rw [ev_call P_z_17 rfl]
 have e1:=ev_SameInts a.hn b.hn a.H b.H ha.h
 have e2:=ev_SameInts a.bn b.bn a.B b.B ha.b
 have e3:=ev_SameW16 a.qn b.qn a.Q b.Q ha.q
 have e4:=ev_sameCursors a.cn b.cn a.C b.C ha.c ha.l
 have e:(a.pl==b.pl)=(!(a.own != b.own||a.cnt != b.cnt||a.time != b.time||!a.cl==b.cl||a.val != b.val)&&(a.H==b.H&&a.B==b.B&&a.Q==b.Q&&a.C.map K.pl==b.C.map K.pl)):=by
  rw [Bool.eq_iff_iff];simp [S.pl];grind
 rw [e]
 generalize (a.C.map K.pl==b.C.map K.pl)=b4 at *
 generalize (a.Q==b.Q)=b3 at *
 generalize (a.B==b.B)=b2 at *
 generalize (a.H==b.H)=b1 at *
 cases hA:(a.own != b.own||a.cnt != b.cnt||a.time != b.time||!a.cl==b.cl||a.val != b.val)
 ·simp [F_z_17,hA,e1,e2,e3,e4]
 ·simp [F_z_17,hA]
def S.great (s:S):Bool:=(decide ((40:Int)<s.H.length)||decide ((40:Int)<s.Q.length)||decide ((120:Int)<s.B.length)||decide ((40:Int)<s.C.length))||s.C.any fun c=>decide (120<c.log.length)
theorem loop_Great (s:S) (hn:s.C.length≤1000000):∀(suf pre:List K),s.C=pre++suf →
  ev P (.loop 0 [1,3] F_z_13_L0 [(1,.d (.ref s.row)),(3,.d (I' pre.length))] []) =
   if (suf.any fun c=>decide (120<c.log.length))=true then some (.out .ret [(2,.d (.b true))] []) else some (.out (.exit 0) [] []):=by
 intro suf
 induction suf with
 | nil =>
  intro pre hl
  have:s.C.length=pre.length:=by simp [hl]
  rw [ev_loop]
  conv=>lhs;arg 4;unfold F_z_13_L0
  simp [this]
 | cons w suf ih =>
  intro pre hl
  have hg:s.C[pre.length]?=some w:=by simp [hl]
  have hlt:(pre.length:Int)<s.C.length:=by simp [hl];omega
  have hnext:IntKind.i64.wrap ((pre.length:Int)+1)=pre.length+1:=wrap_i64 (by omega) (by omega)
  have ih':=ih (pre++[w]) (by simp [hl])
  rw [List.any_cons]
  generalize (suf.any fun c=>decide (120<c.log.length))=dd at *
  simp at ih'
  rw [ev_loop]
  conv=>lhs;arg 4;unfold F_z_13_L0
  by_cases hb:120<w.log.length
  ·have hb':(120:Int)<w.log.length:=by omega
   simp [hlt,hg,K.row,hb',hb]
  ·have hb':¬(120:Int)<w.log.length:=by omega
   simp [hlt,hg,K.row,hb',hb,hnext]
   exact ih'
theorem ev_Great (s:S):ev P (.call z_13 [.d (.ag s.row)] [])=some (.val (.d (.b s.great)) []):=by
 rw [ev_call P_z_13 rfl]
 cases hA:(decide ((40:Int)<s.H.length)||decide ((40:Int)<s.Q.length)||decide ((120:Int)<s.B.length)||decide ((40:Int)<s.C.length))
 ·have hlen:s.C.length≤1000000:=by simp at hA;omega
  have hl:=loop_Great s hlen s.C [] rfl
  have hS:s.great=(s.C.any fun c=>decide (120<c.log.length)):=by simp only [S.great,hA,Bool.false_or]
  rw [hS]
  generalize (s.C.any fun c=>decide (120<c.log.length))=dd at *
  simp at hl
  cases dd<;>simp at hl<;>simp [F_z_13,hA,hl]
 ·have hS:s.great=true:=by simp only [S.great,hA,Bool.true_or]
  rw [hS]
  simp [F_z_13,hA]
def isTask (n:Int):Bool:=decide (0≤n)&&decide (n<16)
theorem ev_rTask (n:Int):ev P (.call z_193 [.d (I' n)] [])=some (.val (.d (.b (isTask n))) []):=by
 rw [ev_call P_z_193 rfl]
 simp [F_z_193,isTask]
end Go.VS.Sp
namespace Go.VS.Sp
def ck (n:Int) (b:Bool):Int:=if n=0 then (if b then 0 else 1) else n
theorem ev_wC0 (nl:Bool):ev P (.call z_142 [.d (I' 1),.d (qD nl [])] [])=some (.val (.d (I' 0)) []):=by
 exact ev_wCheck nl []
theorem ev_wC2 (nl:Bool):ev P (.call z_142 [.d (I' 2),.d (qD nl [])] [])=some (.val (.d (I' 0)) []):=by
 have hl:ev P (.loop 0 [0,1,16,17,18] F_z_142_L0 [(0,.d (I' 2)),(1,.d (qD nl [])),(16,.d (qD nl [])),(17,.d (I' 0)),(18,.d (I' 0))] [])=some (.out (.exit 0) [] []) :=
  loop_wcheck 2 nl [] (by simp) [] [] rfl
 rw [ev_call P_z_142 rfl]
 simp [F_z_142,hl]
theorem ev_rC0 (nl:Bool):ev P (.call z_197 [.d (I' 1),.d (qD nl [])] [])=some (.val (.d (I' 0)) []):=by
 exact ev_rchk nl [] (by simp)
theorem len3 (H B:List Int) (C:List K):decide ((0:Int)<(H.length:Int)+B.length+C.length)=!(H.isEmpty&&(B.isEmpty&&C.isEmpty)):=by
 cases H<;>cases B<;>cases C<;>simp<;>omega
theorem len2 (H:List Int) (C:List K):decide ((0:Int)<(H.length:Int)+C.length)=!(H.isEmpty&&C.isEmpty):=by
 cases H<;>cases C<;>simp<;>omega
theorem len1 {α:Type} (H:List α):decide (0<H.length)=!H.isEmpty:=by
 cases H<;>simp
def bare (own cnt time:Int) (qn:Bool):S:=⟨own,cnt,time,true,[],qn,[],true,[],true,[],false,0⟩
theorem ev_isTaskM (n:Int):ev P (.call z_127 [.d (I' n)] [])=some (.val (.d (.b (isTask n))) []):=by
 rw [ev_call P_z_127 rfl]
 simp [F_z_127,isTask]
def okM (s:S):Bool:=!(s.own != -1&&!isTask s.own)&&!(s.cnt != 0||s.time != 0||s.val != 0||s.cl||decide ((0:Int)<(s.H.length:Int)+s.B.length+s.C.length))
theorem ev_vM (s:S) (hq:s.Q=[]) (hs:s.sm):ev P (.call z_125 [.d (.ag s.row)] [])=some (.val (.d (.b (okM s))) []):=by
 obtain ⟨own,cnt,time,hn,H,qn,Q,bn,B,cn,C,cl,val⟩:=s
 simp only at hq
 subst hq
 obtain ⟨h1,h2,h3,h4,_⟩:=hs
 simp only at h1 h2 h4
 have hw1:IntKind.i64.wrap ((H.length:Int)+B.length)=H.length+B.length:=wrap_i64 (by omega) (by omega)
 have hw2:IntKind.i64.wrap ((H.length:Int)+B.length+C.length)=H.length+B.length+C.length:=wrap_i64 (by omega) (by omega)
 have hl:∀row:List D,ev P (.loop 0 [1,61,62,63] F_z_125_L0 [(1,.d (.ref row)),(61,.d (qD qn [])),(62,.d (I' 0)),(63,.d (I' 0))] [])=some (.out (.exit 0) [] []):=by
  intro row
  rw [ev_loop]
  conv=>lhs;arg 4;unfold F_z_125_L0
  simp
 rw [ev_call P_z_125 rfl]
 unfold okM
 cases hA:(own != -1&&!isTask own)
 ·cases hB:(cnt != 0||time != 0||val != 0||cl||decide ((0:Int)<(H.length:Int)+B.length+C.length))
  ·simp [F_z_125,ev_isTaskM,hA,hw1,hw2,hB,ev_wC2,hl]
  ·simp [F_z_125,ev_isTaskM,hA,hw1,hw2,hB]
 ·simp [F_z_125,ev_isTaskM,hA]
theorem ev_ckM (nm:D) (k sz ot:Int) (s:S) (hq:s.Q=[]) (hs:s.sm) :
  ev P (.call z_63 [.d (.ag [nm,I' k,I' sz,I' ot]),.d (.ag s.row)] [])=some (.val (.d (I' (ck (nwA 1 k sz ot) (okM s)))) []):=by
 have hv:=ev_vM s hq hs
 rw [ev_call P_z_63 rfl]
 unfold ck
 cases hm:nwA 1 k sz ot==0
 ·have hm':nwA 1 k sz ot≠0:=by simpa using hm
  have hm2:(nwA 1 k sz ot != 0)=true:=by simpa using hm'
  simp [F_z_63,ev_nwM,hm',hm2,zrow]
 ·have hm':nwA 1 k sz ot=0:=by simpa using hm
  generalize okM s=b at *
  simp [F_z_63,ev_nwM,hm',frow,hv]
  cases b<;>simp
theorem ev_q16 (own:Int) (qn:Bool):ev P (.call z_194 [.d (I' own),.d (qD qn [])] [])=some (.val (.d (.b true)) []):=by
 have hl:ev P (.loop 0 [0,1,5] F_z_194_L0 [(0,.d (I' own)),(1,.d (qD qn [])),(5,.d (I' 0))] [])=some (.out (.exit 0) [(0,.d (I' own)),(1,.d (qD qn []))] []):=by
  rw [ev_loop]
  conv=>lhs;arg 4;unfold F_z_194_L0
  simp
 rw [ev_call P_z_194 rfl]
 simp [F_z_194,hl]
theorem okM_ref (s:S) (hq:s.Q=[]) (qn:Bool):okM s=(!(s.own != -1&&!isTask s.own)&&(s.pl==(bare s.own 0 0 qn).pl)):=by
 obtain ⟨own,cnt,time,hn,H,qn',Q,bn,B,cn,C,cl,val⟩:=s
 simp only at hq
 subst hq
 unfold okM
 rw [len3,Bool.eq_iff_iff]
 simp [S.pl,bare]
 grind
theorem ev_ckMr (nm:D) (k sz ot:Int) (s:S) (hq:s.Q=[]) (hs:s.sm) :
  ev P (.call z_113 [.d (.ag [nm,I' k,I' sz,I' ot]),.d (.ag s.row)] [])=some (.val (.d (I' (ck (nwA 1 k sz ot) (okM s)))) []):=by
 have hS:=ev_Same s (bare s.own 0 0 s.qn) hs
 have e:=okM_ref s hq s.qn
 have hq16:=ev_q16 s.own s.qn
 generalize (s.pl==(bare s.own 0 0 s.qn).pl)=b at *
 generalize okM s=ok at *
 obtain ⟨own,cnt,time,hn,H,qn,Q,bn,B,cn,C,cl,val⟩:=s
 simp only at hq
 subst hq
 have hS:ev P (.call z_17 [.d (.ag [I' own,I' cnt,I' time,hD hn H,qD qn [],hD bn B,cD cn C,.b cl,I' val]),.d (.ag [I' own,I' 0,I' 0,.sl 1 true [],qD qn [],.sl 1 true [],.sl 2 true [],.b false,I' 0])] [])=some (.val (.d (.b b)) []):=hS
 rw [ev_call P_z_113 rfl]
 unfold ck
 cases hm:nwA 1 k sz ot==0
 ·have hm':nwA 1 k sz ot≠0:=by simpa using hm
  have hm2:(nwA 1 k sz ot != 0)=true:=by simpa using hm'
  simp [F_z_113,ev_nwMr,hm',hm2,zrow]
 ·have hm':nwA 1 k sz ot=0:=by simpa using hm
  cases hA:(own != -1&&!isTask own)
  ·simp [hA] at e
   subst e
   simp [F_z_113,ev_nwMr,hm',frow,ev_rTask,hA,hq16,hS]
   cases ok<;>simp
  ·simp [hA] at e
   subst e
   simp [F_z_113,ev_nwMr,hm',frow,ev_rTask,hA]
def okS (sz:Int) (s:S):Bool:=!(s.own != -1||decide (s.cnt<0)||decide (sz<s.cnt))&&!(s.time != 0||decide ((0:Int)<(s.H.length:Int)+s.B.length+s.C.length)||s.cl||s.val != 0)
theorem ev_ckS (nm:D) (k sz ot:Int) (s:S) (hq:s.Q=[]) (hs:s.sm) :
  ev P (.call z_73 [.d (.ag [nm,I' k,I' sz,I' ot]),.d (.ag s.row)] [])=some (.val (.d (I' (ck (nwS k sz ot) (okS sz s)))) []):=by
 obtain ⟨own,cnt,time,hn,H,qn,Q,bn,B,cn,C,cl,val⟩:=s
 simp only at hq
 subst hq
 obtain ⟨h1,h2,h3,h4,_⟩:=hs
 simp only at h1 h2 h4
 have hw1:IntKind.i64.wrap ((H.length:Int)+B.length)=H.length+B.length:=wrap_i64 (by omega) (by omega)
 have hw2:IntKind.i64.wrap ((H.length:Int)+B.length+C.length)=H.length+B.length+C.length:=wrap_i64 (by omega) (by omega)
 have hl:∀(o row:List D),ev P (.loop 0 [2,3,39,40] F_z_73_L0 [(2,.d (.ref o)),(3,.d (.ref row)),(39,.d (I' 0)),(40,.d (I' 0))] [])=some (.out (.exit 0) [(3,.d (.ref row))] []):=by
  intro o row
  rw [ev_loop]
  conv=>lhs;arg 4;unfold F_z_73_L0
  simp
 rw [ev_call P_z_73 rfl]
 unfold ck okS
 cases hm:nwS k sz ot==0
 ·have hm':nwS k sz ot≠0:=by simpa using hm
  have hm2:(nwS k sz ot != 0)=true:=by simpa using hm'
  simp [F_z_73,ev_nwS,hm',hm2,zrow]
 ·have hm':nwS k sz ot=0:=by simpa using hm
  cases hA:(own != -1||decide (cnt<0)||decide (sz<cnt))
  ·cases hB:(time != 0||decide ((0:Int)<(H.length:Int)+B.length+C.length)||cl||val != 0)
   ·simp [F_z_73,ev_nwS,hm',grow,hA,hw1,hw2,hB,ev_wC0,hl]
   ·simp [F_z_73,ev_nwS,hm',grow,hA,hw1,hw2,hB,ev_wC0,hl]
  ·simp [F_z_73,ev_nwS,hm',grow,hA]
def okSr (sz:Int) (s:S):Bool:=!(s.own != -1||(!decide (0≤s.cnt)||!decide (s.cnt≤sz))||s.time != 0||decide ((0:Int)<(s.H.length:Int)+s.B.length+s.C.length)||s.cl||s.val != 0)
theorem okS_ref (sz:Int) (s:S):okS sz s=okSr sz s:=by
 unfold okS okSr
 rw [len3,Bool.eq_iff_iff]
 simp
 grind
theorem ev_ckSr (nm:D) (k sz ot:Int) (s:S) (hq:s.Q=[]) (hs:s.sm) :
  ev P (.call z_115 [.d (.ag [nm,I' k,I' sz,I' ot]),.d (.ag s.row)] [])=some (.val (.d (I' (ck (nwS k sz ot) (okS sz s)))) []):=by
 rw [okS_ref]
 obtain ⟨own,cnt,time,hn,H,qn,Q,bn,B,cn,C,cl,val⟩:=s
 simp only at hq
 subst hq
 obtain ⟨h1,h2,h3,h4,_⟩:=hs
 simp only at h1 h2 h4
 have hw1:IntKind.i64.wrap ((H.length:Int)+B.length)=H.length+B.length:=wrap_i64 (by omega) (by omega)
 have hw2:IntKind.i64.wrap ((H.length:Int)+B.length+C.length)=H.length+B.length+C.length:=wrap_i64 (by omega) (by omega)
 have hl:∀(o:List D),ev P (.loop 0 [2,3,7] F_z_115_L0 [(2,.d (.ref o)),(3,.d (.ref [I' own,I' cnt,I' time,hD hn H,qD qn [],hD bn B,cD cn C,.b cl,I' val])),(7,.d (I' 0))] [])=some (.out (.exit 0) [] []):=by
  intro o
  rw [ev_loop]
  conv=>lhs;arg 4;unfold F_z_115_L0
  simp
 rw [ev_call P_z_115 rfl]
 unfold ck okSr
 cases hm:nwS k sz ot==0
 ·have hm':nwS k sz ot≠0:=by simpa using hm
  have hm2:(nwS k sz ot != 0)=true:=by simpa using hm'
  simp [F_z_115,ev_nwSr,hm',hm2,zrow]
 ·have hm':nwS k sz ot=0:=by simpa using hm
  cases hA:(own != -1||(!decide (0≤cnt)||!decide (cnt≤sz))||time != 0||decide ((0:Int)<(H.length:Int)+B.length+C.length)||cl||val != 0)
  ·simp [F_z_115,ev_nwSr,ev_w19,hm',grow,hA,hw1,hw2,ev_rC0,hl]
  ·simp [F_z_115,ev_nwSr,ev_w19,hm',grow,hA,hw1,hw2,ev_rC0,hl]
def okB (s:S):Bool:=!(s.own != -1||decide (s.cnt<0)||decide (1099511627776<s.cnt))&&!(s.time != 0||s.val != 0||s.cl||decide ((0:Int)<(s.H.length:Int)+s.B.length+s.C.length))
theorem nwB_sz {k sz ot:Int} (h:nwB k sz ot=0):¬sz≤0:=by
 unfold nwB at h
 split at h
 ·simp at h
 ·split at h
  ·simp at h
  ·rename_i h2
   simp at h2
   omega
theorem ev_ckB (nm:D) (k sz ot:Int) (s:S) (hq:s.Q=[]) (hs:s.sm) :
  ev P (.call z_78 [.d (.ag [nm,I' k,I' sz,I' ot]),.d (.ag s.row)] [])=some (.val (.d (I' (ck (nwB k sz ot) (okB s)))) []):=by
 obtain ⟨own,cnt,time,hn,H,qn,Q,bn,B,cn,C,cl,val⟩:=s
 simp only at hq
 subst hq
 obtain ⟨h1,h2,h3,h4,_⟩:=hs
 simp only at h1 h2 h4
 have hw1:IntKind.i64.wrap ((H.length:Int)+B.length)=H.length+B.length:=wrap_i64 (by omega) (by omega)
 have hw2:IntKind.i64.wrap ((H.length:Int)+B.length+C.length)=H.length+B.length+C.length:=wrap_i64 (by omega) (by omega)
 have hl:∀(row:List D),ev P (.loop 0 [3,71,72,73] F_z_78_L0 [(3,.d (.ref row)),(71,.d (qD qn [])),(72,.d (I' 0)),(73,.d (I' 0))] [])=some (.out (.exit 0) [] []):=by
  intro row
  rw [ev_loop]
  conv=>lhs;arg 4;unfold F_z_78_L0
  simp
 rw [ev_call P_z_78 rfl]
 unfold ck okB
 cases hm:nwB k sz ot==0
 ·have hm':nwB k sz ot≠0:=by simpa using hm
  have hm2:(nwB k sz ot != 0)=true:=by simpa using hm'
  simp [F_z_78,ev_nwB,hm',hm2,zrow]
 ·have hm':nwB k sz ot=0:=by simpa using hm
  have hz:=nwB_sz hm'
  cases hA:(own != -1||decide (cnt<0)||decide (1099511627776<cnt))
  ·cases hB:(time != 0||val != 0||cl||decide ((0:Int)<(H.length:Int)+B.length+C.length))
   ·simp [F_z_78,ev_nwB,hm',hz,frow,hA,hw1,hw2,hB,ev_wC0,hl]
   ·simp [F_z_78,ev_nwB,hm',hz,frow,hA,hw1,hw2,hB,ev_wC0,hl]
  ·simp [F_z_78,ev_nwB,hm',hz,frow,hA]
theorem okB_ref (s:S) (hq:s.Q=[]) (qn:Bool):okB s=(!(decide (s.cnt<0)||decide (1099511627776<s.cnt))&&(s.pl==(bare (-1) s.cnt 0 qn).pl)):=by
 obtain ⟨own,cnt,time,hn,H,qn',Q,bn,B,cn,C,cl,val⟩:=s
 simp only at hq
 subst hq
 unfold okB
 rw [len3,Bool.eq_iff_iff]
 simp [S.pl,bare]
 grind
theorem ev_ckBr (nm:D) (k sz ot:Int) (s:S) (hq:s.Q=[]) (hs:s.sm) :
  ev P (.call z_116 [.d (.ag [nm,I' k,I' sz,I' ot]),.d (.ag s.row)] [])=some (.val (.d (I' (ck (nwB k sz ot) (okB s)))) []):=by
 have hS:=ev_Same s (bare (-1) s.cnt 0 s.qn) hs
 have e:=okB_ref s hq s.qn
 generalize (s.pl==(bare (-1) s.cnt 0 s.qn).pl)=b at *
 generalize okB s=ok at *
 obtain ⟨own,cnt,time,hn,H,qn,Q,bn,B,cn,C,cl,val⟩:=s
 simp only at hq
 subst hq
 have hS:ev P (.call z_17 [.d (.ag [I' own,I' cnt,I' time,hD hn H,qD qn [],hD bn B,cD cn C,.b cl,I' val]),.d (.ag [I' (-1),I' cnt,I' 0,.sl 1 true [],qD qn [],.sl 1 true [],.sl 2 true [],.b false,I' 0])] [])=some (.val (.d (.b b)) []):=hS
 have hl:ev P (.loop 0 [3,7] F_z_116_L0 [(3,.d (.ref [I' own,I' cnt,I' time,hD hn H,qD qn [],hD bn B,cD cn C,.b cl,I' val])),(7,.d (I' 0))] [])=some (.out (.exit 0) [(3,.d (.ref [I' own,I' cnt,I' time,hD hn H,qD qn [],hD bn B,cD cn C,.b cl,I' val]))] []):=by
  rw [ev_loop]
  conv=>lhs;arg 4;unfold F_z_116_L0
  simp
 rw [ev_call P_z_116 rfl]
 unfold ck
 cases hm:nwB k sz ot==0
 ·have hm':nwB k sz ot≠0:=by simpa using hm
  have hm2:(nwB k sz ot != 0)=true:=by simpa using hm'
  simp [F_z_116,ev_nwBr,hm',hm2,zrow]
 ·have hm':nwB k sz ot=0:=by simpa using hm
  have hz:=nwB_sz hm'
  cases hA:(decide (cnt<0)||decide (1099511627776<cnt))
  ·simp only [hA] at e
   simp at e
   subst e
   simp [F_z_116,ev_nwBr,hm',hz,frow,hA,hl,hS]
   cases ok<;>simp
  ·simp only [hA] at e
   simp at e
   subst e
   simp [F_z_116,ev_nwBr,hm',hz,frow,hA]
end Go.VS.Sp
namespace Go.VS.Sp
theorem ev_isTaskW (n:Int):ev P (.call z_131 [.d (I' n)] [])=some (.val (.d (.b (isTask n))) []):=by
 rw [ev_call P_z_131 rfl]
 simp [F_z_131,isTask]
theorem ev_isTaskWr (n:Int):ev P (.call z_251 [.d (I' n)] [])=some (.val (.d (.b (isTask n))) []):=by
 rw [ev_call P_z_251 rfl]
 simp [F_z_251,isTask]
def okH:Option Int→List Int→Bool
 | _,[]=>true
 | p,t::r=>!(!isTask t||p.any fun q=>decide (t≤q))&&okH (some t) r
def okWb (s:S):Bool:=(s.own != -1&&(!isTask s.own||decide (0<s.H.length)))||s.cnt != 0||s.time != 0||decide (0<s.B.length)||decide (0<s.C.length)||s.cl||s.val != 0
def okW (s:S):Bool:=!okWb s&&okH none s.H
theorem loop_vW {own cnt time val:Int} {hn qn bn cn cl:Bool} {H B:List Int} {C:List K} (hn1:H.length≤1000000):∀(suf pre:List Int),H=pre++suf →
  ev P (.loop 0 [1,52,53,54] F_z_130_L0 [(1,.d (.ref [I' own,I' cnt,I' time,hD hn H,qD qn [],hD bn B,cD cn C,.b cl,I' val])),(52,.d (hD hn H)),(53,.d (I' H.length)),(54,.d (I' pre.length))] []) =
   if okH pre.getLast? suf=true then some (.out (.exit 0) [(1,.d (.ref [I' own,I' cnt,I' time,hD hn H,qD qn [],hD bn B,cD cn C,.b cl,I' val]))] []) else some (.out .ret [(2,.d (.b false))] []):=by
 intro suf
 induction suf with
 | nil =>
  intro pre hl
  have:H.length=pre.length:=by simp [hl]
  rw [ev_loop]
  conv=>lhs;arg 4;unfold F_z_130_L0
  simp [this,okH]
 | cons t suf ih =>
  intro pre hl
  have hg:H[pre.length]?=some t:=by simp [hl]
  have hlt:(pre.length:Int)<H.length:=by simp [hl];omega
  have ih':=ih (pre++[t]) (by simp [hl])
  have e1:okH pre.getLast? (t::suf)=(!(!isTask t||pre.getLast?.any fun q=>decide (t≤q))&&okH (some t) suf):=rfl
  rw [e1]
  simp only [List.getLast?_append,List.getLast?_singleton,Option.some_or] at ih'
  generalize okH (some t) suf=dd at *
  simp at ih'
  rw [ev_loop]
  conv=>lhs;arg 4;unfold F_z_130_L0
  cases h1:isTask t
  ·simp [hlt,hg,ev_isTaskW,h1]
  ·rcases List.eq_nil_or_concat pre with rfl | ⟨pre',p,rfl⟩
   ·have hlt2:0<H.length:=by simp [hl]
    have hg0:H[0]=t:=by simp [hl]
    simp [wrap1] at ih'
    simp [hlt2,hg0,ev_isTaskW,h1,wrap1]
    exact ih'
   ·have hgp:H[pre'.length]?=some p:=by simp [hl]
    have hlen:((pre'.length:Int)+1<H.length):=by simp [hl];omega
    have hw:IntKind.i64.wrap ((pre'.length:Int)+1 - 1)=pre'.length:=by rw [wrap_i64 (by omega) (by omega)];omega
    have h0:(0:Int)<pre'.length+1:=by omega
    have h00:(0:Int)≤pre'.length+1:=by omega
    have hw2:IntKind.i64.wrap (pre'.length:Int)=pre'.length:=wrap_i64 (by omega) (by omega)
    have hw3:IntKind.i64.wrap ((pre'.length:Int)+1+1)=pre'.length+1+1:=wrap_i64 (by omega) (by omega)
    simp only [List.concat_eq_append,List.length_append,List.length_singleton] at hg
    simp at ih'
    cases h3:decide (t≤p)
    ·simp [hlen,hg,hgp,hw2,h0,h00,ev_isTaskW,h1,h3,hw3]
     exact ih'
    ·simp [hlen,hg,hgp,hw2,h0,h00,ev_isTaskW,h1,h3]
theorem ev_quW {own cnt time val:Int} {hn qn bn cn cl:Bool} {H B:List Int} {C:List K}:ev P (.call z_213 [.d (.ag [I' own,I' cnt,I' time,hD hn H,qD qn [],hD bn B,cD cn C,.b cl,I' val])] [])=some (.val (.d (.b true)) []):=by
 have hl:ev P (.loop 0 [1,13,14,15] F_z_213_L0 [(1,.d (.ref [I' own,I' cnt,I' time,hD hn H,qD qn [],hD bn B,cD cn C,.b cl,I' val])),(13,.d (qD qn [])),(14,.d (I' 0)),(15,.d (I' 0))] [])=some (.out (.exit 0) [(1,.d (.ref [I' own,I' cnt,I' time,hD hn H,qD qn [],hD bn B,cD cn C,.b cl,I' val]))] []):=by
  rw [ev_loop]
  conv=>lhs;arg 4;unfold F_z_213_L0
  simp
 rw [ev_call P_z_213 rfl]
 simp [F_z_213,ev_wC0,hl]
theorem ev_vW (s:S) (hq:s.Q=[]) (hs:s.sm):ev P (.call z_130 [.d (.ag s.row)] [])=some (.val (.d (.b (okW s))) []):=by
 have hh:=hs.h
 have hQ:=ev_quW (own:=s.own) (cnt:=s.cnt) (time:=s.time) (val:=s.val) (hn:=s.hn) (qn:=s.qn) (bn:=s.bn) (cn:=s.cn) (cl:=s.cl) (H:=s.H) (B:=s.B) (C:=s.C)
 obtain ⟨own,cnt,time,hn,H,qn,Q,bn,B,cn,C,cl,val⟩:=s
 simp only at hq
 subst hq
 simp only at hQ hh
 have hL:ev P (.loop 0 [1,52,53,54] F_z_130_L0 [(1,.d (.ref [I' own,I' cnt,I' time,hD hn H,qD qn [],hD bn B,cD cn C,.b cl,I' val])),(52,.d (hD hn H)),(53,.d (I' H.length)),(54,.d (I' 0))] []) =
   if okH none H=true then some (.out (.exit 0) [(1,.d (.ref [I' own,I' cnt,I' time,hD hn H,qD qn [],hD bn B,cD cn C,.b cl,I' val]))] []) else some (.out .ret [(2,.d (.b false))] []):=loop_vW hh H [] rfl
 unfold okW
 simp only
 rw [ev_call P_z_130 rfl]
 generalize okH none H=dd at *
 unfold okWb
 cases hA:((own != -1&&(!isTask own||decide (0<H.length)))||cnt != 0||time != 0||decide (0<B.length)||decide (0<C.length)||cl||val != 0)
 ·cases dd
  ·simp at hL
   simp [F_z_130,ev_isTaskW,hA,hL]
  ·simp at hL
   simp [F_z_130,ev_isTaskW,hA,hL,hQ]
 ·simp [F_z_130,ev_isTaskW,hA]
theorem ev_ckW (nm:D) (k sz ot:Int) (s:S) (hq:s.Q=[]) (hs:s.sm) :
  ev P (.call z_68 [.d (.ag [nm,I' k,I' sz,I' ot]),.d (.ag s.row)] [])=some (.val (.d (I' (ck (nwA 2 k sz ot) (okW s)))) []):=by
 have hv:=ev_vW s hq hs
 rw [ev_call P_z_68 rfl]
 unfold ck
 cases hm:nwA 2 k sz ot==0
 ·have hm':nwA 2 k sz ot≠0:=by simpa using hm
  have hm2:(nwA 2 k sz ot != 0)=true:=by simpa using hm'
  simp [F_z_68,ev_nwW,hm',hm2,zrow]
 ·have hm':nwA 2 k sz ot=0:=by simpa using hm
  generalize okW s=b at *
  simp [F_z_68,ev_nwW,hm',frow,hv]
  cases b<;>simp
def okHr (own:Int):Option Int→List Int→Bool
 | _,[]=>true
 | p,t::r=>!(!isTask t||(p.any fun q=>decide (t≤q))||decide (0≤own))&&okHr own (some t) r
def okWbr (s:S):Bool:=(s.own != -1&&!isTask s.own)||s.cnt != 0||s.time != 0||decide (0<s.B.length)||decide (0<s.C.length)||s.cl||s.val != 0
def okWr (s:S):Bool:=!okWbr s&&okHr s.own none s.H
theorem okHr_eq (own:Int):∀(l:List Int) (p:Option Int),okHr own p l=((l.isEmpty||!decide (0≤own))&&okH p l)
 | [],p=>by simp [okHr,okH]
 | t::r,p=>by
  unfold okHr okH
  rw [okHr_eq own r (some t)]
  cases decide (0≤own)<;>simp
theorem okW_ref (s:S):okW s=okWr s:=by
 unfold okW okWr okWb okWbr
 rw [okHr_eq,len1,len1,len1]
 generalize okH none s.H=b1
 generalize s.H.isEmpty=b2
 generalize s.B.isEmpty=b3
 generalize s.C.isEmpty=b4
 unfold isTask
 rw [Bool.eq_iff_iff]
 cases b1<;>cases b2<;>cases b3<;>cases b4<;>cases s.cl<;>simp<;>omega
theorem loop_vWr {own cnt time val:Int} {hn qn bn cn cl:Bool} {H B:List Int} {C:List K} (hn1:H.length≤1000000):∀(suf pre:List Int),H=pre++suf →
  ev P (.loop 0 [1,3] F_z_195_L0 [(1,.d (.ref [I' own,I' cnt,I' time,hD hn H,qD qn [],hD bn B,cD cn C,.b cl,I' val])),(3,.d (I' pre.length))] []) =
   if okHr own pre.getLast? suf=true then some (.out (.exit 0) [(1,.d (.ref [I' own,I' cnt,I' time,hD hn H,qD qn [],hD bn B,cD cn C,.b cl,I' val]))] []) else some (.out .ret [(2,.d (.b false))] []):=by
 intro suf
 induction suf with
 | nil =>
  intro pre hl
  have:H.length=pre.length:=by simp [hl]
  rw [ev_loop]
  conv=>lhs;arg 4;unfold F_z_195_L0
  simp [this,okHr]
 | cons t suf ih =>
  intro pre hl
  have hg:H[pre.length]?=some t:=by simp [hl]
  have hlt:(pre.length:Int)<H.length:=by simp [hl];omega
  have ih':=ih (pre++[t]) (by simp [hl])
  have e1:okHr own pre.getLast? (t::suf)=(!(!isTask t||(pre.getLast?.any fun q=>decide (t≤q))||decide (0≤own))&&okHr own (some t) suf):=rfl
  rw [e1]
  simp only [List.getLast?_append,List.getLast?_singleton,Option.some_or] at ih'
  generalize okHr own (some t) suf=dd at *
  simp at ih'
  rw [ev_loop]
  conv=>lhs;arg 4;unfold F_z_195_L0
  cases h1:isTask t
  ·simp [hlt,hg,ev_isTaskWr,h1]
  ·rcases List.eq_nil_or_concat pre with rfl | ⟨pre',p,rfl⟩
   ·have hlt2:0<H.length:=by simp [hl]
    have hg0:H[0]=t:=by simp [hl]
    simp [wrap1] at ih'
    cases h4:decide (0≤own)
    ·simp [hlt2,hg0,ev_isTaskWr,h1,h4,wrap1]
     exact ih'
    ·simp [hlt2,hg0,ev_isTaskWr,h1,h4]
   ·have hgp:H[pre'.length]?=some p:=by simp [hl]
    have hlen:((pre'.length:Int)+1<H.length):=by simp [hl];omega
    have hw:IntKind.i64.wrap ((pre'.length:Int)+1 - 1)=pre'.length:=by rw [wrap_i64 (by omega) (by omega)];omega
    have h0:(0:Int)<pre'.length+1:=by omega
    have h00:(0:Int)≤pre'.length+1:=by omega
    have hw2:IntKind.i64.wrap (pre'.length:Int)=pre'.length:=wrap_i64 (by omega) (by omega)
    have hw3:IntKind.i64.wrap ((pre'.length:Int)+1+1)=pre'.length+1+1:=wrap_i64 (by omega) (by omega)
    simp only [List.concat_eq_append,List.length_append,List.length_singleton] at hg
    simp at ih'
    cases h3:decide (t≤p)
    ·cases h4:decide (0≤own)
     ·simp [hlen,hg,hgp,hw2,h0,h00,ev_isTaskWr,h1,h3,h4,hw3]
      exact ih'
     ·simp [hlen,hg,hgp,hw2,h0,h00,ev_isTaskWr,h1,h3,h4]
    ·simp [hlen,hg,hgp,hw2,h0,h00,ev_isTaskWr,h1,h3]
theorem ev_vWr (s:S) (hq:s.Q=[]) (hs:s.sm):ev P (.call z_195 [.d (.ag s.row)] [])=some (.val (.d (.b (okWr s))) []):=by
 have hh:=hs.h
 obtain ⟨own,cnt,time,hn,H,qn,Q,bn,B,cn,C,cl,val⟩:=s
 simp only at hq
 subst hq
 have hL2:ev P (.loop 0 [1,4] F_z_195_L2 [(1,.d (.ref [I' own,I' cnt,I' time,hD hn H,qD qn [],hD bn B,cD cn C,.b cl,I' val])),(4,.d (I' 0))] [])=some (.out (.exit 2) [] []):=by
  rw [ev_loop]
  conv=>lhs;arg 4;unfold F_z_195_L2
  simp
 simp only at hh
 have hL:ev P (.loop 0 [1,3] F_z_195_L0 [(1,.d (.ref [I' own,I' cnt,I' time,hD hn H,qD qn [],hD bn B,cD cn C,.b cl,I' val])),(3,.d (I' 0))] []) =
   if okHr own none H=true then some (.out (.exit 0) [(1,.d (.ref [I' own,I' cnt,I' time,hD hn H,qD qn [],hD bn B,cD cn C,.b cl,I' val]))] []) else some (.out .ret [(2,.d (.b false))] []):=loop_vWr hh H [] rfl
 unfold okWr
 simp only
 rw [ev_call P_z_195 rfl]
 generalize okHr own none H=dd at *
 unfold okWbr
 cases hA:((own != -1&&!isTask own)||cnt != 0||time != 0||decide (0<B.length)||decide (0<C.length)||cl||val != 0)
 ·cases dd
  ·simp at hL
   simp [F_z_195,ev_isTaskWr,hA,hL]
  ·simp at hL
   simp [F_z_195,ev_isTaskWr,hA,hL,ev_rC0,hL2]
 ·simp [F_z_195,ev_isTaskWr,hA]
theorem ev_vainWr {own cnt time val:Int} {hn qn bn cn cl:Bool} {H B:List Int} {C:List K}:ev P (.call z_196 [.d (.ag [I' own,I' cnt,I' time,hD hn H,qD qn [],hD bn B,cD cn C,.b cl,I' val])] [])=some (.val (.d (.b false)) []):=by
 rw [ev_call P_z_196 rfl]
 simp [F_z_196]
theorem ev_ckWr (nm:D) (k sz ot:Int) (s:S) (hq:s.Q=[]) (hs:s.sm) :
  ev P (.call z_114 [.d (.ag [nm,I' k,I' sz,I' ot]),.d (.ag s.row)] [])=some (.val (.d (I' (ck (nwA 2 k sz ot) (okW s)))) []):=by
 have hv:=ev_vWr s hq hs
 rw [okW_ref]
 generalize okWr s=b at *
 obtain ⟨own,cnt,time,hn,H,qn,Q,bn,B,cn,C,cl,val⟩:=s
 simp only at hq
 subst hq
 rw [ev_call P_z_114 rfl]
 unfold ck
 cases hm:nwA 2 k sz ot==0
 ·have hm':nwA 2 k sz ot≠0:=by simpa using hm
  have hm2:(nwA 2 k sz ot != 0)=true:=by simpa using hm'
  simp [F_z_114,ev_nwWr,hm',hm2,zrow]
 ·have hm':nwA 2 k sz ot=0:=by simpa using hm
  cases b<;>simp [F_z_114,ev_nwWr,hm',frow,hv,ev_vainWr]
def okL (sz:Int) (s:S):Bool:=!(s.own != -1||decide (s.cnt<0)||decide (sz<s.cnt)||decide (s.time<0)||decide (1099511627776<s.time))&&!(s.val != 0||s.cl||decide ((0:Int)<(s.H.length:Int)+s.B.length+s.C.length))
theorem ev_ckL (nm:D) (k sz ot:Int) (s:S) (hq:s.Q=[]) (hs:s.sm) :
  ev P (.call z_93 [.d (.ag [nm,I' k,I' sz,I' ot]),.d (.ag s.row)] [])=some (.val (.d (I' (ck (nwL k sz ot) (okL sz s)))) []):=by
 obtain ⟨own,cnt,time,hn,H,qn,Q,bn,B,cn,C,cl,val⟩:=s
 simp only at hq
 subst hq
 obtain ⟨h1,h2,h3,h4,_⟩:=hs
 simp only at h1 h2 h4
 have hw1:IntKind.i64.wrap ((H.length:Int)+B.length)=H.length+B.length:=wrap_i64 (by omega) (by omega)
 have hw2:IntKind.i64.wrap ((H.length:Int)+B.length+C.length)=H.length+B.length+C.length:=wrap_i64 (by omega) (by omega)
 have hw3:IntKind.i64.wrap ((H.length:Int)+C.length)=H.length+C.length:=wrap_i64 (by omega) (by omega)
 have hl:∀(o row:List D),ev P (.loop 0 [2,3,70,71,72] F_z_93_L0 [(2,.d (.ref o)),(3,.d (.ref row)),(70,.d (qD qn [])),(71,.d (I' 0)),(72,.d (I' 0))] [])=some (.out (.exit 0) [] []):=by
  intro o row
  rw [ev_loop]
  conv=>lhs;arg 4;unfold F_z_93_L0
  simp
 rw [ev_call P_z_93 rfl]
 unfold ck okL
 cases hm:nwL k sz ot==0
 ·have hm':nwL k sz ot≠0:=by simpa using hm
  have hm2:(nwL k sz ot != 0)=true:=by simpa using hm'
  simp [F_z_93,ev_nwL,hm',hm2,zrow]
 ·have hm':nwL k sz ot=0:=by simpa using hm
  cases hA:(own != -1||decide (cnt<0)||decide (sz<cnt)||decide (time<0)||decide (1099511627776<time))
  ·cases hB:(val != 0||cl||decide ((0:Int)<(H.length:Int)+B.length+C.length))
   ·simp [F_z_93,ev_nwL,hm',grow,hA,hw1,hw2,hB,ev_wC0,hl]
   ·simp [F_z_93,ev_nwL,hm',grow,hA,hw1,hw2,hB,ev_wC0,hl]
  ·simp [F_z_93,ev_nwL,hm',grow,hA]
theorem okL_ref (sz:Int) (s:S) (hq:s.Q=[]) (qn:Bool):okL sz s=(!(decide (s.cnt<0)||decide (sz<s.cnt)||decide (s.time<0)||decide (1099511627776<s.time))&&(s.pl==(bare (-1) s.cnt s.time qn).pl)):=by
 obtain ⟨own,cnt,time,hn,H,qn',Q,bn,B,cn,C,cl,val⟩:=s
 simp only at hq
 subst hq
 unfold okL
 rw [len3,Bool.eq_iff_iff]
 simp [S.pl,bare]
 grind
theorem ev_ckLr (nm:D) (k sz ot:Int) (s:S) (hq:s.Q=[]) (hs:s.sm) :
  ev P (.call z_119 [.d (.ag [nm,I' k,I' sz,I' ot]),.d (.ag s.row)] [])=some (.val (.d (I' (ck (nwL k sz ot) (okL sz s)))) []):=by
 have hS:=ev_Same s (bare (-1) s.cnt s.time s.qn) hs
 have e:=okL_ref sz s hq s.qn
 generalize (s.pl==(bare (-1) s.cnt s.time s.qn).pl)=b at *
 generalize okL sz s=ok at *
 obtain ⟨own,cnt,time,hn,H,qn,Q,bn,B,cn,C,cl,val⟩:=s
 simp only at hq
 subst hq
 have hS:ev P (.call z_17 [.d (.ag [I' own,I' cnt,I' time,hD hn H,qD qn [],hD bn B,cD cn C,.b cl,I' val]),.d (.ag [I' (-1),I' cnt,I' time,.sl 1 true [],qD qn [],.sl 1 true [],.sl 2 true [],.b false,I' 0])] [])=some (.val (.d (.b b)) []):=hS
 have hl:∀o:List D,ev P (.loop 0 [2,3,7] F_z_119_L0 [(2,.d (.ref o)),(3,.d (.ref [I' own,I' cnt,I' time,hD hn H,qD qn [],hD bn B,cD cn C,.b cl,I' val])),(7,.d (I' 0))] [])=some (.out (.exit 0) [(3,.d (.ref [I' own,I' cnt,I' time,hD hn H,qD qn [],hD bn B,cD cn C,.b cl,I' val]))] []):=by
  intro o
  rw [ev_loop]
  conv=>lhs;arg 4;unfold F_z_119_L0
  simp
 rw [ev_call P_z_119 rfl]
 unfold ck
 cases hm:nwL k sz ot==0
 ·have hm':nwL k sz ot≠0:=by simpa using hm
  have hm2:(nwL k sz ot != 0)=true:=by simpa using hm'
  simp [F_z_119,ev_nwLr,hm',hm2,zrow]
 ·have hm':nwL k sz ot=0:=by simpa using hm
  cases hA:(decide (cnt<0)||decide (sz<cnt)||decide (time<0)||decide (1099511627776<time))
  ·simp only [hA] at e
   simp at e
   subst e
   simp [F_z_119,ev_nwLr,hm',grow,hA,hl,hS]
   cases ok<;>simp
  ·simp only [hA] at e
   simp at e
   subst e
   simp [F_z_119,ev_nwLr,hm',grow,hA]
end Go.VS.Sp
namespace Go.VS.Sp
theorem loop_IdxI {f:Nat} {first caps:List D} {p:Int→Bool} (nl:Bool) (l:List Int) (hn:l.length≤1000000)
  (hp:∀a,ev P (.call f (first.map V.d++[.d (I' a)]++caps.map V.d) [])=some (.val (.d (.b (p a))) [])) :
  ∀(suf pre:List Int),l=pre++suf →
  ev P (.loop 0 [0,1,7,8] F_z_217_L0 [(0,.d (hD nl l)),(1,.d (.fn f first caps)),(7,.d (I' l.length)),(8,.d (I' pre.length))] []) =
   if idx p pre.length suf = -1 then some (.out (.exit 0) [] []) else some (.out .ret [(4,.d (I' (idx p pre.length suf)))] []):=by
 intro suf
 induction suf with
 | nil =>
  intro pre hl
  have:l.length=pre.length:=by simp [hl]
  rw [ev_loop]
  conv=>lhs;arg 4;unfold F_z_217_L0
  simp [this,idx]
 | cons w suf ih =>
  intro pre hl
  have hg:l[pre.length]?=some w:=by simp [hl]
  have hlt:(pre.length:Int)<l.length:=by simp [hl];omega
  have hnext:IntKind.i64.wrap ((pre.length:Int)+1)=pre.length+1:=wrap_i64 (by omega) (by omega)
  have ih':=ih (pre++[w]) (by simp [hl])
  simp at ih'
  have hp':=hp w
  simp at hp'
  rw [ev_loop]
  conv=>lhs;arg 4;unfold F_z_217_L0
  simp [hlt,hg,hp',allD_mid]
  cases hw:p w
  ·simp [idx,hw,hnext]
   exact ih'
  ·have:¬(pre.length:Int) = -1:=by omega
   simp [idx,hw,this]
theorem ev_ContI {f:Nat} {first caps:List D} {p:Int→Bool} (nl:Bool) (l:List Int) (hn:l.length≤1000000)
  (hp:∀a,ev P (.call f (first.map V.d++[.d (I' a)]++caps.map V.d) [])=some (.val (.d (.b (p a))) [])) :
  ev P (.call z_225 [.d (hD nl l),.d (.fn f first caps)] [])=some (.val (.d (.b (l.any p))) []):=by
 have hi:ev P (.call z_217 [.d (hD nl l),.d (.fn f first caps)] [])=some (.val (.d (I' (idx p 0 l))) []):=by
  rw [ev_call P_z_217 rfl]
  have hl:=loop_IdxI nl l hn hp l [] rfl
  simp at hl
  simp [F_z_217,hl]
  by_cases hc:idx p 0 l = -1<;>simp [hc]
 rw [ev_call P_z_225 rfl]
 have:=idx_any (p:=p) (l:=l) (k:=0) (by omega)
 cases ha:l.any p
 ·have hc:¬0≤idx p 0 l:=fun h=>by rw [this.1 h] at ha;cases ha
  simp [F_z_225,hi,hc]
 ·have hc:0≤idx p 0 l:=this.2 ha
  simp [F_z_225,hi,hc]
theorem ev_Cont0 (nl:Bool) (f:Nat) (first caps:List D):ev P (.call z_57 [.d (qD nl []),.d (.fn f first caps)] [])=some (.val (.d (.b false)) []):=by
 have hL:ev P (.loop 0 [0,1,7,8] F_z_123_L0 [(0,.d (qD nl [])),(1,.d (.fn f first caps)),(7,.d (I' 0)),(8,.d (I' 0))] [])=some (.out (.exit 0) [] []):=by
  rw [ev_loop]
  conv=>lhs;arg 4;unfold F_z_123_L0
  simp
 have hi:ev P (.call z_123 [.d (qD nl []),.d (.fn f first caps)] [])=some (.val (.d (I' (-1))) []):=by
  rw [ev_call P_z_123 rfl]
  simp [F_z_123,hL]
 rw [ev_call P_z_57 rfl]
 simp [F_z_57,hi]
theorem ev_numberC (n:Int):ev P (.call z_160 [.d (I' n)] [])=some (.val (.d (.b (num n))) []):=by
 rw [ev_call P_z_160 rfl]
 unfold num
 simp [F_z_160]
theorem ev_validC1 (n:Int):ev P (.call z_226 [.d (I' n)] [])=some (.val (.d (.b (!num n))) []):=by
 rw [ev_call P_z_226 rfl]
 simp [F_z_226,ev_numberC]
def okCb (sz:Int) (s:S):Bool:=s.own != -1||s.cnt != 0||s.time != 0||s.val != 0||decide ((0:Int)<(s.H.length:Int)+s.C.length)||decide (sz<s.B.length)
def okC (sz:Int) (s:S):Bool:=!okCb sz s&&!s.B.any fun n=>!num n
theorem ev_vainC (o:List D) (ho:o.length=4) {own cnt time val:Int} {hn qn bn cn cl:Bool} {H B:List Int} {C:List K}:ev P (.call z_228 [.d (.ag o),.d (.ag [I' own,I' cnt,I' time,hD hn H,qD qn [],hD bn B,cD cn C,.b cl,I' val])] [])=some (.val (.d (.b false)) []):=by
 rw [ev_call P_z_228 rfl]
 simp [F_z_228,ev_Cont0,ho,allD,allD_map']
theorem ev_vC (nm:D) (k sz ot:Int) (s:S) (hq:s.Q=[]) (hs:s.sm):ev P (.call z_156 [.d (.ag [nm,I' k,I' sz,I' ot]),.d (.ag s.row)] [])=some (.val (.d (.b (okC sz s))) []):=by
 obtain ⟨own,cnt,time,hn,H,qn,Q,bn,B,cn,C,cl,val⟩:=s
 simp only at hq
 subst hq
 obtain ⟨h1,h2,h3,h4,_⟩:=hs
 simp only at h1 h2 h4
 have hw1:IntKind.i64.wrap ((H.length:Int)+B.length)=H.length+B.length:=wrap_i64 (by omega) (by omega)
 have hw2:IntKind.i64.wrap ((H.length:Int)+B.length+C.length)=H.length+B.length+C.length:=wrap_i64 (by omega) (by omega)
 have hw3:IntKind.i64.wrap ((H.length:Int)+C.length)=H.length+C.length:=wrap_i64 (by omega) (by omega)
 have hB:=ev_ContI (f:=z_226) (first:=[]) (caps:=[]) (p:=fun n=>!num n) bn B h2 (by intro a;simp [ev_validC1])
 have hV:=ev_vainC [nm,I' k,I' sz,I' ot] rfl (own:=own) (cnt:=cnt) (time:=time) (val:=val) (hn:=hn) (qn:=qn) (bn:=bn) (cn:=cn) (cl:=cl) (H:=H) (B:=B) (C:=C)
 have hl:∀o:List D,ev P (.loop 0 [2,3,53,54] F_z_156_L0 [(2,.d (.ref o)),(3,.d (.ref [I' own,I' cnt,I' time,hD hn H,qD qn [],hD bn B,cD cn C,.b cl,I' val])),(53,.d (I' 0)),(54,.d (I' 0))] [])=some (.out (.exit 0) [(2,.d (.ref o)),(3,.d (.ref [I' own,I' cnt,I' time,hD hn H,qD qn [],hD bn B,cD cn C,.b cl,I' val]))] []):=by
  intro o
  rw [ev_loop]
  conv=>lhs;arg 4;unfold F_z_156_L0
  simp
 unfold okC
 simp only
 rw [ev_call P_z_156 rfl]
 generalize (B.any fun n=>!num n)=bb at *
 unfold okCb
 cases hA:(own != -1||cnt != 0||time != 0||val != 0||decide ((0:Int)<(H.length:Int)+C.length)||decide (sz<B.length))
 ·cases bb
  ·simp [F_z_156,hA,hw3,hB,ev_wC0,hl,hV]
  ·simp [F_z_156,hA,hw3,hB]
 ·simp [F_z_156,hA,hw3]
theorem ev_ckC (nm:D) (k sz ot:Int) (s:S) (hq:s.Q=[]) (hs:s.sm) :
  ev P (.call z_83 [.d (.ag [nm,I' k,I' sz,I' ot]),.d (.ag s.row)] [])=some (.val (.d (I' (ck (nwC k sz ot) (okC sz s)))) []):=by
 have hv:=ev_vC nm k sz ot s hq hs
 rw [ev_call P_z_83 rfl]
 unfold ck
 cases hm:nwC k sz ot==0
 ·have hm':nwC k sz ot≠0:=by simpa using hm
  have hm2:(nwC k sz ot != 0)=true:=by simpa using hm'
  simp [F_z_83,ev_nwC,hm',hm2,zrow]
 ·have hm':nwC k sz ot=0:=by simpa using hm
  generalize okC sz s=b at *
  cases b<;>simp [F_z_83,ev_nwC,hm',frow,hv]
theorem ev_inR21 (n:Int):ev P (.call z_200 [.d (I' n)] [])=some (.val (.d (.b (num n))) []):=by
 rw [ev_call P_z_200 rfl]
 unfold num
 simp [F_z_200]
theorem loop_Cr {own cnt time val:Int} {hn qn bn cn cl:Bool} {H B:List Int} {C:List K} (o:List D) (hn1:B.length≤1000000):∀(suf pre:List Int),B=pre++suf →
  ev P (.loop 0 [2,3,7] F_z_117_L0 [(2,.d (.ref o)),(3,.d (.ref [I' own,I' cnt,I' time,hD hn H,qD qn [],hD bn B,cD cn C,.b cl,I' val])),(7,.d (I' pre.length))] []) =
   if (suf.any fun n=>!num n)=true then some (.out .ret [(4,.d (I' 1))] []) else some (.out (.exit 0) [(2,.d (.ref o)),(3,.d (.ref [I' own,I' cnt,I' time,hD hn H,qD qn [],hD bn B,cD cn C,.b cl,I' val]))] []):=by
 intro suf
 induction suf with
 | nil =>
  intro pre hl
  have:B.length=pre.length:=by simp [hl]
  rw [ev_loop]
  conv=>lhs;arg 4;unfold F_z_117_L0
  simp [this]
 | cons t suf ih =>
  intro pre hl
  have hg:B[pre.length]?=some t:=by simp [hl]
  have hlt:(pre.length:Int)<B.length:=by simp [hl];omega
  have hnext:IntKind.i64.wrap ((pre.length:Int)+1)=pre.length+1:=wrap_i64 (by omega) (by omega)
  have ih':=ih (pre++[t]) (by simp [hl])
  rw [List.any_cons]
  generalize (suf.any fun n=>!num n)=dd at *
  simp at ih'
  rw [ev_loop]
  conv=>lhs;arg 4;unfold F_z_117_L0
  cases h1:num t
  ·simp [hlt,hg,ev_inR21,h1]
  ·simp [hlt,hg,ev_inR21,h1,hnext]
   exact ih'
def okCbr (sz:Int) (s:S):Bool:=s.own != -1||s.cnt != 0||s.time != 0||decide (0<s.H.length)||decide (0<s.C.length)||s.val != 0||decide (sz<s.B.length)
theorem okCb_ref (sz:Int) (s:S):okCb sz s=okCbr sz s:=by
 unfold okCb okCbr
 rw [len2,len1,len1]
 generalize s.H.isEmpty=b1
 generalize s.C.isEmpty=b2
 rw [Bool.eq_iff_iff]
 simp
 grind
theorem ev_gq21 (qn:Bool):ev P (.call z_201 [.d (qD qn [])] [])=some (.val (.d (.b true)) []):=by
 have hl:ev P (.loop 0 [0,3] F_z_201_L1 [(0,.d (qD qn [])),(3,.d (I' 0))] [])=some (.out (.exit 0) [] []):=by
  rw [ev_loop]
  conv=>lhs;arg 4;unfold F_z_201_L1
  simp
 rw [ev_call P_z_201 rfl]
 simp [F_z_201,ev_rC0,hl]
theorem ev_wv21 (o:List D) (ho:o.length=4) {own cnt time val:Int} {hn qn bn cn cl:Bool} {H B:List Int} {C:List K}:ev P (.call z_202 [.d (.ag o),.d (.ag [I' own,I' cnt,I' time,hD hn H,qD qn [],hD bn B,cD cn C,.b cl,I' val])] [])=some (.val (.d (.b false)) []):=by
 have hl:ev P (.loop 0 [2,3,5] F_z_202_L0 [(2,.d (.ref o)),(3,.d (.ref [I' own,I' cnt,I' time,hD hn H,qD qn [],hD bn B,cD cn C,.b cl,I' val])),(5,.d (I' 0))] [])=some (.out (.exit 0) [] []):=by
  rw [ev_loop]
  conv=>lhs;arg 4;unfold F_z_202_L0
  simp
 rw [ev_call P_z_202 rfl]
 simp [F_z_202,ho,hl,allD_map']
theorem ev_ckCr (nm:D) (k sz ot:Int) (s:S) (hq:s.Q=[]) (hs:s.sm) :
  ev P (.call z_117 [.d (.ag [nm,I' k,I' sz,I' ot]),.d (.ag s.row)] [])=some (.val (.d (I' (ck (nwC k sz ot) (okC sz s)))) []):=by
 obtain ⟨own,cnt,time,hn,H,qn,Q,bn,B,cn,C,cl,val⟩:=s
 simp only at hq
 subst hq
 obtain ⟨h1,h2,h3,h4,_⟩:=hs
 simp only at h1 h2 h4
 have hw1:IntKind.i64.wrap ((H.length:Int)+B.length)=H.length+B.length:=wrap_i64 (by omega) (by omega)
 have hw2:IntKind.i64.wrap ((H.length:Int)+B.length+C.length)=H.length+B.length+C.length:=wrap_i64 (by omega) (by omega)
 have hw3:IntKind.i64.wrap ((H.length:Int)+C.length)=H.length+C.length:=wrap_i64 (by omega) (by omega)
 have hL:∀o:List D,ev P (.loop 0 [2,3,7] F_z_117_L0 [(2,.d (.ref o)),(3,.d (.ref [I' own,I' cnt,I' time,hD hn H,qD qn [],hD bn B,cD cn C,.b cl,I' val])),(7,.d (I' 0))] []) =
   if (B.any fun n=>!num n)=true then some (.out .ret [(4,.d (I' 1))] []) else some (.out (.exit 0) [(2,.d (.ref o)),(3,.d (.ref [I' own,I' cnt,I' time,hD hn H,qD qn [],hD bn B,cD cn C,.b cl,I' val]))] []):=fun o=>loop_Cr o h2 B [] rfl
 have hV:=ev_wv21 [nm,I' k,I' sz,I' ot] rfl (own:=own) (cnt:=cnt) (time:=time) (val:=val) (hn:=hn) (qn:=qn) (bn:=bn) (cn:=cn) (cl:=cl) (H:=H) (B:=B) (C:=C)
 rw [ev_call P_z_117 rfl]
 unfold ck okC
 rw [okCb_ref]
 simp only
 generalize (B.any fun n=>!num n)=bb at *
 unfold okCbr
 cases hm:nwC k sz ot==0
 ·have hm':nwC k sz ot≠0:=by simpa using hm
  have hm2:(nwC k sz ot != 0)=true:=by simpa using hm'
  simp [F_z_117,ev_nwCr,hm',hm2,zrow]
 ·have hm':nwC k sz ot=0:=by simpa using hm
  cases hA:(own != -1||cnt != 0||time != 0||decide (0<H.length)||decide (0<C.length)||val != 0||decide (sz<B.length))
  ·cases bb
   ·simp at hL
    simp [F_z_117,ev_nwCr,hm',frow,hA,hL,ev_gq21,hV]
   ·simp at hL
    simp [F_z_117,ev_nwCr,hm',frow,hA,hL]
  ·simp [F_z_117,ev_nwCr,hm',frow,hA]
def okFp (s:S):Bool:=s.own == -1&&s.cnt==0&&s.time==0&&s.H.isEmpty&&s.B.isEmpty&&s.C.isEmpty
def okF (s:S):Bool:=okFp s&&num s.val&&(s.cl||s.val==0)
theorem lenz {α:Type} (l:List α):((l.length:Int)==0)=l.isEmpty:=by
 cases l<;>simp;omega
theorem ev_plainF {own cnt time val:Int} {hn qn bn cn cl:Bool} {H B:List Int} {C:List K}:ev P (.call z_248 [.d (.ag [I' own,I' cnt,I' time,hD hn H,qD qn [],hD bn B,cD cn C,.b cl,I' val])] [])=some (.val (.d (.b (okFp ⟨own,cnt,time,hn,H,qn,[],bn,B,cn,C,cl,val⟩))) []):=by
 rw [ev_call P_z_248 rfl]
 unfold okFp
 simp [F_z_248,lenz]
theorem ev_numF (n:Int):ev P (.call z_184 [.d (I' n)] [])=some (.val (.d (.b (num n))) []):=by
 rw [ev_call P_z_184 rfl]
 unfold num
 simp [F_z_184]
theorem ev_quF {own cnt time val:Int} {hn qn bn cn cl:Bool} {H B:List Int} {C:List K}:ev P (.call z_249 [.d (.ag [I' own,I' cnt,I' time,hD hn H,qD qn [],hD bn B,cD cn C,.b cl,I' val])] [])=some (.val (.d (.b true)) []):=by
 have hl:ev P (.loop 0 [1,9,10,11] F_z_249_L0 [(1,.d (.ref [I' own,I' cnt,I' time,hD hn H,qD qn [],hD bn B,cD cn C,.b cl,I' val])),(9,.d (qD qn [])),(10,.d (I' 0)),(11,.d (I' 0))] [])=some (.out (.exit 0) [(1,.d (.ref [I' own,I' cnt,I' time,hD hn H,qD qn [],hD bn B,cD cn C,.b cl,I' val]))] []):=by
  rw [ev_loop]
  conv=>lhs;arg 4;unfold F_z_249_L0
  simp
 rw [ev_call P_z_249 rfl]
 simp [F_z_249,ev_wC0,hl]
theorem ev_vF (s:S) (hq:s.Q=[]):ev P (.call z_183 [.d (.ag s.row)] [])=some (.val (.d (.b (okF s))) []):=by
 obtain ⟨own,cnt,time,hn,H,qn,Q,bn,B,cn,C,cl,val⟩:=s
 simp only at hq
 subst hq
 have hP:=ev_plainF (own:=own) (cnt:=cnt) (time:=time) (val:=val) (hn:=hn) (qn:=qn) (bn:=bn) (cn:=cn) (cl:=cl) (H:=H) (B:=B) (C:=C)
 have hQ:=ev_quF (own:=own) (cnt:=cnt) (time:=time) (val:=val) (hn:=hn) (qn:=qn) (bn:=bn) (cn:=cn) (cl:=cl) (H:=H) (B:=B) (C:=C)
 unfold okF
 simp only
 generalize okFp ⟨own,cnt,time,hn,H,qn,[],bn,B,cn,C,cl,val⟩=pl at *
 rw [ev_call P_z_183 rfl]
 cases pl
 ·simp [F_z_183,hP]
 ·cases hv:num val
  ·simp [F_z_183,hP,ev_numF,hv]
  ·cases cl<;>simp [F_z_183,hP,ev_numF,hv,hQ]
theorem ev_ckF (nm:D) (k sz ot:Int) (s:S) (hq:s.Q=[]) :
  ev P (.call z_98 [.d (.ag [nm,I' k,I' sz,I' ot]),.d (.ag s.row)] [])=some (.val (.d (I' (ck (nwA 9 k sz ot) (okF s)))) []):=by
 have hv:=ev_vF s hq
 rw [ev_call P_z_98 rfl]
 unfold ck
 cases hm:nwA 9 k sz ot==0
 ·have hm':nwA 9 k sz ot≠0:=by simpa using hm
  have hm2:(nwA 9 k sz ot != 0)=true:=by simpa using hm'
  simp [F_z_98,ev_nwF,hm',hm2,zrow]
 ·have hm':nwA 9 k sz ot=0:=by simpa using hm
  generalize okF s=b at *
  cases b<;>simp [F_z_98,ev_nwF,hm',frow,hv]
theorem ev_inR25 (n:Int):ev P (.call z_205 [.d (I' n)] [])=some (.val (.d (.b (num n))) []):=by
 rw [ev_call P_z_205 rfl]
 unfold num
 simp [F_z_205]
def okFbr (s:S):Bool:=s.own != -1||s.cnt != 0||s.time != 0||decide (0<s.H.length)||decide (0<s.B.length)||decide (0<s.C.length)
theorem okF_ref (s:S):okF s=(!okFbr s&&(!(!num s.val||(!s.cl&&s.val != 0)))):=by
 unfold okF okFp okFbr
 rw [len1,len1,len1]
 generalize s.H.isEmpty=b1
 generalize s.B.isEmpty=b2
 generalize s.C.isEmpty=b3
 generalize num s.val=b4
 rw [Bool.eq_iff_iff]
 simp
 grind
theorem ev_ckFr (nm:D) (k sz ot:Int) (s:S) (hq:s.Q=[]) :
  ev P (.call z_120 [.d (.ag [nm,I' k,I' sz,I' ot]),.d (.ag s.row)] [])=some (.val (.d (I' (ck (nwA 9 k sz ot) (okF s)))) []):=by
 rw [okF_ref]
 obtain ⟨own,cnt,time,hn,H,qn,Q,bn,B,cn,C,cl,val⟩:=s
 simp only at hq
 subst hq
 have hl:ev P (.loop 0 [3,7] F_z_120_L1 [(3,.d (.ref [I' own,I' cnt,I' time,hD hn H,qD qn [],hD bn B,cD cn C,.b cl,I' val])),(7,.d (I' 0))] [])=some (.out (.exit 0) [] []):=by
  rw [ev_loop]
  conv=>lhs;arg 4;unfold F_z_120_L1
  simp
 rw [ev_call P_z_120 rfl]
 unfold ck okFbr
 simp only
 cases hm:nwA 9 k sz ot==0
 ·have hm':nwA 9 k sz ot≠0:=by simpa using hm
  have hm2:(nwA 9 k sz ot != 0)=true:=by simpa using hm'
  simp [F_z_120,ev_nwFr,hm',hm2,zrow]
 ·have hm':nwA 9 k sz ot=0:=by simpa using hm
  cases hA:(own != -1||cnt != 0||time != 0||decide (0<H.length)||decide (0<B.length)||decide (0<C.length))
  ·cases hB:(!num val||(!cl&&val != 0))
   ·simp [F_z_120,ev_nwFr,hm',frow,hA,ev_inR25,hB,ev_rC0,hl]
   ·simp [F_z_120,ev_nwFr,hm',frow,hA,ev_inR25,hB,ev_rC0,hl]
  ·simp [F_z_120,ev_nwFr,hm',frow,hA]
end Go.VS.Sp
namespace Go.VS.Sp
theorem ev_isNaN (n:Int):ev P (.call z_281 [.d (I' n)] [])=some (.val (.d (.b false)) []):=by
 rw [ev_call P_z_281 rfl]
 simp [F_z_281]
theorem ev_sNaN (n:Int):ev P (.call z_285 [.d (I' n)] [])=some (.val (.d (.b false)) []):=by
 rw [ev_call P_z_285 rfl]
 simp [F_z_285]
theorem ev_Less (a b:Int):ev P (.call z_284 [.d (I' a),.d (I' b)] [])=some (.val (.d (.b (decide (a<b)))) []):=by
 rw [ev_call P_z_284 rfl]
 by_cases h:a<b<;>simp [F_z_284,ev_isNaN,h]
def Asc (l:List Int):Prop:=l.Pairwise (·≤·)
def bI (t:Int) (l:List Int):Nat:=(l.takeWhile fun x=>decide (x<t)).length
theorem bI_le (t:Int):∀(l:List Int),bI t l≤l.length
 | []=>by simp [bI]
 | w::q=>by
  have:=bI_le t q
  unfold bI at *
  simp only [List.takeWhile_cons]
  split<;>simp;omega
theorem bI_lt {t x:Int}:∀{l:List Int} {k:Nat},Asc l→l[k]?=some x→(k<bI t l↔x<t)
 | [],k,_,h=>by simp at h
 | a::q,0,_,h=>by
  have:a=x:=by simpa using h
  subst this
  by_cases hp:a<t<;>simp [bI,List.takeWhile_cons,hp]
 | a::q,k+1,hd,h=>by
  have hd':=List.pairwise_cons.1 hd
  have hq:q[k]?=some x:=by simpa using h
  have hw:x∈q:=List.mem_of_getElem? hq
  have h1:=hd'.1 x hw
  have ih:=bI_lt (t:=t) (k:=k) hd'.2 hq
  by_cases hp:a<t
  ·have:bI t (a::q)=bI t q+1:=by simp [bI,List.takeWhile_cons,hp]
   rw [this,←ih];omega
  ·have:bI t (a::q)=0:=by simp [bI,List.takeWhile_cons,hp]
   rw [this];constructor<;>intro h3<;>omega
theorem mid_eq {i j:Nat} (h:i+j≤4000000):IntKind.i64.wrap ((IntKind.u64.wrap ((i:Int)+j)).fdiv (2 ^ min 1 IntKind.u64.bits))=(((i+j) / 2:Nat):Int):=by
 have h1:IntKind.u64.wrap ((i:Int)+j)=(i:Int)+j:=by
  have e0:IntKind.u64.bits=64:=rfl
  simp only [IntKind.wrap,e0,IntKind.signed,Bool.false_and,Bool.false_eq_true,if_false]
  omega
 have h2:(2:Int) ^ min 1 IntKind.u64.bits=2:=by decide
 rw [h1,h2,Int.fdiv_eq_ediv_of_nonneg _ (by omega),wrap_i64 (by omega) (by omega)]
 omega
theorem loop_BS (nl:Bool) (l:List Int) (t:Int) (hn:l.length≤1000000) (hA:Asc l):∀(n i j:Nat),j - i≤n→i≤bI t l→bI t l≤j→j≤l.length →
  ev P (.loop 0 [0,1,6,7,8] F_z_262_L0 [(0,.d (hD nl l)),(1,.d (I' t)),(6,.d (I' l.length)),(7,.d (I' i)),(8,.d (I' j))] []) =
   some (.out (.exit 0) [(0,.d (hD nl l)),(1,.d (I' t)),(6,.d (I' l.length)),(7,.d (I' (bI t l)))] []):=by
 intro n
 induction n with
 | zero =>
  intro i j h1 h2 h3 h4
  have e1:i=bI t l:=by omega
  have e2:j=bI t l:=by omega
  rw [ev_loop]
  conv=>lhs;arg 4;unfold F_z_262_L0
  simp [e1,e2]
 | succ n ih =>
  intro i j h1 h2 h3 h4
  by_cases hij:i=j
  ·have e1:i=bI t l:=by omega
   have e2:j=bI t l:=by omega
   rw [ev_loop]
   conv=>lhs;arg 4;unfold F_z_262_L0
   simp [e1,e2]
  ·have hlt:i<j:=by omega
   have hw1:IntKind.i64.wrap ((i:Int)+j)=i+j:=wrap_i64 (by omega) (by omega)
   have hm:=mid_eq (i:=i) (j:=j) (by omega)
   generalize hmm:(i+j) / 2=m at hm
   have hm1:i≤m:=by omega
   have hm2:m<j:=by omega
   have hml:m<l.length:=by omega
   obtain ⟨x,hx⟩:∃x,l[m]?=some x:=⟨l[m]'(by omega),by simp⟩
   have hb:=bI_lt (t:=t) hA hx
   have hx2:l[m]=x:=by rw [List.getElem?_eq_getElem hml] at hx;exact Option.some.inj hx
   have hm3:IntKind.i64.wrap ((m:Int)+1)=m+1:=wrap_i64 (by omega) (by omega)
   have hml2:(m:Int)<l.length:=by omega
   rw [ev_loop]
   conv=>lhs;arg 4;unfold F_z_262_L0
   by_cases hp:x<t
   ·have ih':=ih (m+1) j (by omega) (by omega) (by omega) h4
    simp at ih'
    simp [hlt,hw1,hm,hm3,hml,hml2,hx,hx2,ev_Less,hp]
    exact ih'
   ·have ih':=ih i m (by omega) (by omega) (by omega) (by omega)
    simp [hlt,hw1,hm,hml,hml2,hx,hx2,ev_Less,hp]
    exact ih'
theorem ev_BS (nl:Bool) (l:List Int) (t:Int) (hn:l.length≤1000000) (hA:Asc l) :
  ev P (.call z_262 [.d (hD nl l),.d (I' t)] [])=some (.val (.tu [.d (I' (bI t l)),.d (.b (decide (l[bI t l]?=some t)))]) []):=by
 have hb:=bI_le t l
 have hl:=loop_BS nl l t hn hA l.length 0 l.length (by omega) (by omega) hb (by omega)
 simp at hl
 by_cases h:bI t l<l.length
 ·obtain ⟨x,hx⟩:∃x,l[bI t l]?=some x:=⟨l[bI t l],by simp⟩
  have h2:(bI t l:Int)<l.length:=by omega
  rw [hx]
  generalize bI t l=B at *
  have hx2:l[B]=x:=by rw [List.getElem?_eq_getElem h] at hx;exact Option.some.inj hx
  by_cases hxt:x=t
  ·subst hxt
   rw [ev_call P_z_262 rfl]
   simp [F_z_262,hl,h,h2,hx2]
  ·have hxt2:(x==t)=false:=by simpa using hxt
   rw [ev_call P_z_262 rfl]
   simp [F_z_262,hl,h,h2,hx2,ev_sNaN,hxt2,hxt]
 ·have h2:¬(bI t l:Int)<l.length:=by omega
  have h3:l[bI t l]?=none:=by simp;omega
  rw [h3]
  rw [ev_call P_z_262 rfl]
  simp [F_z_262,hl,h,h2]
end Go.VS.Sp
namespace Go.VS.Sp
structure Cl where
 task:Int
 op:Int
 value:Int
 prio:Int
 now:Int
def Cl.row (c:Cl):List D:=[I' c.task,I' c.op,I' c.value,I' c.prio,I' c.now]
abbrev R4:=S×Int×Bool×Int
def er (s:S) (e:Int):R4:=(s,0,false,e)
def gd (s:S):R4:=(s,0,true,0)
def eM (s:S) (c:Cl):R4 :=
 if c.op==52 then (if s.own==c.task then gd { s with own:=-1 } else er s 20)
 else if s.own == -1 then gd { s with own:=c.task }
 else if c.op==51 then er s 0
 else if s.own==c.task then er s 17 else er s 29
def insI (t:Int) (l:List Int):List Int:=l.take (bI t l)++t::l.drop (bI t l)
def eW (s:S) (c:Cl):R4 :=
 if c.op==54 then (if decide (c.task∈s.H) then gd { s with H:=s.H.filter (fun x=>x != c.task) } else er s 20)
 else if c.op==56 then (if s.own==c.task then gd { s with own:=-1 } else er s 20)
 else if (decide (c.task∈s.H)||s.own==c.task) then er s 17
 else if (!(s.own == -1)||(c.op==55&&decide (0<s.H.length))) then er s 29
 else if c.op==55 then gd { s with own:=c.task } else gd { s with H:=insI c.task s.H }
def eS (sz:Int) (s:S) (c:Cl):R4 :=
 if c.op==62 then (if decide (sz<s.cnt+c.value) then er s 17 else gd { s with cnt:=s.cnt+c.value })
 else if decide (c.value≤s.cnt) then gd { s with cnt:=s.cnt - c.value }
 else if c.op==61 then er s 0 else er s 29
def eB (sz:Int) (s:S):R4 :=
 if s.val+1==sz then (if s.cnt==1099511627776 then er { s with val:=s.val+1 } 4 else ({ s with val:=0,cnt:=s.cnt+1 },s.val,true,0))
 else ({ s with val:=s.val+1 },s.val,true,0)
def eC (rm:Int) (s:S) (c:Cl):R4 :=
 if c.op==64 then (if s.cl then er s 0 else if decide (rm≤s.B.length) then er s 29 else gd { s with B:=s.B++[c.value] })
 else if c.op==65 then match s.B with
  | b::r=>({ s with B:=r },b,true,0)
  | []=>if s.cl then er s 0 else er s 29
 else (if s.cl then er s 17 else gd { s with cl:=true })
def tsk (s:S):List Int:=s.C.map K.task
def bK (s:S) (t:Int):Nat:=bI t (tsk s)
def isK (s:S) (t:Int):Bool:=decide ((tsk s)[bK s t]?=some t)
def eT (rm:Int) (s:S) (c:Cl):R4 :=
 if c.op==69 then (if isK s c.task then er s 6 else gd { s with C:=s.C.take (bK s c.task)++⟨c.task,false,[]⟩::s.C.drop (bK s c.task) })
 else if c.op==71 then (if isK s c.task then gd { s with C:=s.C.take (bK s c.task)++s.C.drop (bK s c.task+1) } else er s 20)
 else if c.op==70 then (if isK s c.task then
  (match s.C[bK s c.task]? with
   | some ⟨_,_,b::r⟩=>({ s with C:=s.C.set (bK s c.task) ⟨c.task,false,r⟩ },b,true,0)
   | _=>er s 29) else er s 20)
 else (if (s.C.any fun x=>decide (rm≤x.log.length)) then er s 29 else gd { s with C:=s.C.map fun x=>⟨x.task,false,x.log++[c.value]⟩ })
def rfS (sz ot now:Int) (s:S):S :=
 if decide (sz≤s.cnt+(now - s.time) / ot) then { s with cnt:=sz,time:=now } else { s with cnt:=s.cnt+(now - s.time) / ot,time:=s.time+(now - s.time) / ot*ot }
def eL (sz ot:Int) (s:S) (c:Cl):R4 :=
 if decide (c.now<s.time) then er s 2 else
 if c.op==72 then (if decide ((rfS sz ot c.now s).cnt<c.value) then er (rfS sz ot c.now s) 29 else gd { rfS sz ot c.now s with cnt:=(rfS sz ot c.now s).cnt - c.value })
 else gd (rfS sz ot c.now s)
def eF (s:S) (c:Cl):R4 :=
 if c.op==74 then (if s.cl then (s,s.val,true,0) else er s 29)
 else if s.cl then er s 17 else gd { s with cl:=true,val:=c.value }
def rmz (sz:Int):Int:=if sz > 1 then sz else 1
def raw (k sz ot:Int) (s:S) (c:Cl):R4 :=
 if k=1 then eM s c else if k=2 then eW s c else if k=4 then eS sz s c else if k=5 then eB sz s else if k=6 then eC (rmz sz) s c
 else if k=7 then eT (rmz sz) s c else if k=8 then eL sz ot s c else eF s c
def newO (k sz ot:Int):Int :=
 if k=1 then nwA 1 k sz ot else if k=2 then nwA 2 k sz ot else if k=4 then nwS k sz ot else if k=5 then nwB k sz ot else if k=6 then nwC k sz ot
 else if k=7 then mnew k sz ot else if k=8 then nwL k sz ot else if k=9 then nwA 9 k sz ot else 8
def ckO (k sz ot:Int) (s:S):Int :=
 if k=1 then ck (nwA 1 k sz ot) (okM s) else if k=2 then ck (nwA 2 k sz ot) (okW s) else if k=4 then ck (nwS k sz ot) (okS sz s) else if k=5 then ck (nwB k sz ot) (okB s) else if k=6 then ck (nwC k sz ot) (okC sz s)
 else if k=7 then ckd k sz ot s else if k=8 then ck (nwL k sz ot) (okL sz s) else if k=9 then ck (nwA 9 k sz ot) (okF s) else 8
def szO (k sz:Int):Int:=if k=6∨k=7 then rmz sz else sz
def vzO (k:Int) (s:S):S:=if k=5 then { s with val:=0 } else s
def absB (k sz ot:Int) (s:S):Bool :=
 newO k sz ot==0&&s.Q.isEmpty&&!(k==5&&(decide (s.val<0)||decide (sz≤s.val)))&&ckO k (szO k sz) ot (vzO k s)==0
def cbad (c:Cl):Bool:=decide (c.task<0)||decide (16≤c.task)||decide (c.prio<0)||decide (9<c.prio)||decide (c.now<0)||decide (1099511627776<c.now)
def blg (k op:Int):Bool :=
 if k=1 then decide (50≤op)&&decide (op≤52) else if k=2 then decide (53≤op)&&decide (op≤56) else if k=4 then decide (60≤op)&&decide (op≤62) else if k=5 then op==63
 else if k=6 then decide (64≤op)&&decide (op≤66) else if k=7 then decide (68≤op)&&decide (op≤71) else if k=8 then op==72||op==75 else op==73||op==74
def fit (k sz:Int) (c:Cl):Bool :=
 if k=4∨c.op=72 then decide (1≤c.value)&&decide (c.value≤sz) else if c.op=64∨c.op=68∨c.op=73 then num c.value else true
def zN:S:=⟨0,0,0,true,[],true,[],true,[],true,[],false,0⟩
def zS:S:=zN.pl
def effF (k sz ot:Int) (s:S) (c:Cl):R4 :=
 if absB k sz ot s=false then er zS 1 else if cbad c=true then er zS 2 else if blg k c.op=false then er zS 8 else if fit k sz c=false then er zS 2
 else if (raw k sz ot s c).2.2.2=0 then raw k sz ot s c else er zS (raw k sz ot s c).2.2.2
structure S.wf (s:S):Prop where
 h:s.hn=true→s.H=[]
 b:s.bn=true→s.B=[]
 c:s.cn=true→s.C=[]
 k:∀c∈s.C,c.nl=true→c.log=[]
def Rel (R:Option Res) (r:R4):Prop :=
 ∃s:S,R=some (.val (.tu [.d (.ag s.row),.d (I' r.2.1),.d (.b r.2.2.1),.d (I' r.2.2.2)]) [])∧s.pl=r.1∧s.wf
theorem Rel.mk' {R:Option Res} (s:S) {n:Int} {b:Bool} {e:Int} {r:R4} (h:R=some (.val (.tu [.d (.ag s.row),.d (I' n),.d (.b b),.d (I' e)]) [])) (hp:r=(s.pl,n,b,e)) (hw:s.wf):Rel R r:=by
 subst hp
 exact ⟨s,h,rfl,hw⟩
theorem Rel.er {R:Option Res} (s:S) (e:Int) {r:R4} (h:R=some (.val (.tu [.d (.ag s.row),.d (I' 0),.d (.b false),.d (I' e)]) [])) (hp:r=er s.pl e) (hw:s.wf):Rel R r:=Rel.mk' s h hp hw
theorem Rel.gd {R:Option Res} (s:S) {r:R4} (h:R=some (.val (.tu [.d (.ag s.row),.d (I' 0),.d (.b true),.d (I' 0)]) [])) (hp:r=gd s.pl) (hw:s.wf):Rel R r:=Rel.mk' s h hp hw
theorem Rel.vl {R:Option Res} (s:S) (n:Int) {r:R4} (h:R=some (.val (.tu [.d (.ag s.row),.d (I' n),.d (.b true),.d (I' 0)]) [])) (hp:r=(s.pl,n,true,0)) (hw:s.wf):Rel R r:=Rel.mk' s h hp hw
end Go.VS.Sp
namespace Go.VS.Sp
def SAsc (l:List Int):Prop:=l.Pairwise (·<·)
theorem SAsc.asc {l:List Int} (h:SAsc l):Asc l:=List.Pairwise.imp (fun h=>by omega) h
theorem bI_cons (t a:Int) (q:List Int):bI t (a::q)=if a<t then bI t q+1 else 0:=by
 by_cases hp:a<t<;>simp [bI,List.takeWhile_cons,hp]
theorem mem_bI {t:Int}:∀{l:List Int},SAsc l→(l[bI t l]?=some t↔t∈l)
 | [],_=>by simp
 | a::q,h=>by
  have h':=List.pairwise_cons.1 h
  rw [bI_cons]
  by_cases hp:a<t
  ·rw [if_pos hp]
   have ih:=mem_bI (t:=t) h'.2
   rw [List.getElem?_cons_succ,ih,List.mem_cons]
   constructor
   ·intro e;exact .inr e
   ·rintro (e | e)
    ·omega
    ·exact e
  ·rw [if_neg hp,List.getElem?_cons_zero,List.mem_cons]
   constructor
   ·intro e;left;exact (Option.some.inj e).symm
   ·rintro (e | e)
    ·rw [e]
    ·have:=h'.1 t e;omega
theorem filter_bI {t:Int}:∀{l:List Int},SAsc l→t∈l→l.filter (fun x=>x != t)=l.take (bI t l)++l.drop (bI t l+1)
 | [],_,hm=>by simp at hm
 | a::q,h,hm=>by
  have h':=List.pairwise_cons.1 h
  rw [bI_cons]
  by_cases hp:a<t
  ·rw [if_pos hp]
   have hq:t∈q:=by
    rcases List.mem_cons.1 hm with e | e
    ·omega
    ·exact e
   have hne:a≠t:=by omega
   have ih:=filter_bI h'.2 hq
   simp [hne,ih]
  ·rw [if_neg hp]
   have ha:a=t:=by
    rcases List.mem_cons.1 hm with e | e
    ·exact e.symm
    ·have:=h'.1 t e;omega
   subst ha
   have:q.filter (fun x=>x != a)=q:=by
    rw [List.filter_eq_self]
    intro x hx
    have:=h'.1 x hx
    simp;omega
   simp [this]
theorem insI_cons (t a:Int) (q:List Int):insI t (a::q)=if a<t then a::insI t q else t::a::q:=by
 unfold insI
 rw [bI_cons]
 by_cases hp:a<t<;>simp [hp]
theorem mem_ins {t x:Int} {l:List Int}:x∈insI t l↔x=t∨x∈l:=by
 have e:l=l.take (bI t l)++l.drop (bI t l):=(List.take_append_drop _ _).symm
 have e2:x∈l↔x∈l.take (bI t l)∨x∈l.drop (bI t l):=by
  rw [←List.mem_append,List.take_append_drop]
 rw [e2]
 unfold insI
 rw [List.mem_append,List.mem_cons]
 constructor
 ·rintro (h | h | h)
  ·exact .inr (.inl h)
  ·exact .inl h
  ·exact .inr (.inr h)
 ·rintro (h | h | h)
  ·exact .inr (.inl h)
  ·exact .inl h
  ·exact .inr (.inr h)
theorem ins_asc {t:Int}:∀{l:List Int},SAsc l→t∉l→SAsc (insI t l)
 | [],_,_=>by simp [insI,SAsc,bI]
 | a::q,h,hm=>by
  have h':=List.pairwise_cons.1 h
  have hm':¬t=a∧t∉q:=by simpa using hm
  rw [insI_cons]
  by_cases hp:a<t
  ·rw [if_pos hp]
   refine List.pairwise_cons.2 ⟨?_,ins_asc h'.2 hm'.2⟩
   intro x hx
   rcases mem_ins.1 hx with e | e
   ·omega
   ·exact h'.1 x e
  ·rw [if_neg hp]
   refine List.pairwise_cons.2 ⟨?_,h⟩
   intro x hx
   rcases List.mem_cons.1 hx with e | e
   ·omega
   ·have:=h'.1 x e;omega
theorem okH_iff:∀(l:List Int) (p:Option Int),okH p l=true↔((∀q,p=some q→∀x∈l,q<x)∧SAsc l∧∀x∈l,isTask x=true)
 | [],p=>by simp [okH,SAsc]
 | t::r,p=>by
  have ih:=okH_iff r (some t)
  unfold okH
  rw [Bool.and_eq_true,ih]
  constructor
  ·rintro ⟨h1,h2,h3,h4⟩
   have h2':=h2 t rfl
   simp only [Bool.not_eq_true',Bool.or_eq_false_iff,Bool.not_eq_false'] at h1
   refine ⟨?_,List.pairwise_cons.2 ⟨h2',h3⟩,?_⟩
   ·intro q hq x hx
    subst hq
    have h5:q<t:=by have:=h1.2;simp at this;exact this
    rcases List.mem_cons.1 hx with e | e
    ·omega
    ·have:=h2' x e;omega
   ·intro x hx
    rcases List.mem_cons.1 hx with e | e
    ·rw [e];exact h1.1
    ·exact h4 x e
  ·rintro ⟨h1,h2,h3⟩
   have h2':=List.pairwise_cons.1 h2
   refine ⟨?_,?_,h2'.2,fun x hx=>h3 x (List.mem_cons_of_mem _ hx)⟩
   ·have e1:=h3 t (by simp)
    cases p with
    | none=>simp [e1]
    | some q=>have:=h1 q rfl t (by simp);simp [e1];exact this
   ·intro q hq x hx
    have:t=q:=Option.some.inj hq
    subst this
    exact h2'.1 x hx
theorem vc_iff (sz:Int):∀(C:List K) (p:Option K),vc sz p C=true↔((∀q,p=some q→∀x∈C,q.task<x.task)∧SAsc (C.map K.task)∧∀x∈C,isTask x.task=true∧¬sz<x.log.length∧x.log.all num=true)
 | [],p=>by simp [vc,SAsc]
 | t::r,p=>by
  have ih:=vc_iff sz r (some t)
  unfold vc
  rw [Bool.and_eq_true,Bool.and_eq_true,ih]
  constructor
  ·rintro ⟨h1,h0,h2,h3,h4⟩
   have h2':=h2 t rfl
   simp only [kbad,Bool.not_eq_true',Bool.or_eq_false_iff] at h1
   obtain ⟨⟨⟨k1,k2⟩,k3⟩,k4⟩:=h1
   refine ⟨?_,List.pairwise_cons.2 ⟨?_,h3⟩,?_⟩
   ·intro q hq x hx
    subst hq
    have h5:q.task<t.task:=by simp at k3;exact k3
    rcases List.mem_cons.1 hx with e | e
    ·rw [e];exact h5
    ·have:=h2' x e;omega
   ·intro x hx
    obtain ⟨y,hy,rfl⟩:=List.mem_map.1 hx
    exact h2' y hy
   ·intro x hx
    rcases List.mem_cons.1 hx with e | e
    ·subst e
     refine ⟨?_,by simpa using k4,h0⟩
     simp at k1 k2
     simp [isTask];omega
    ·exact h4 x e
  ·rintro ⟨h1,h2,h3⟩
   have h2':=List.pairwise_cons.1 h2
   obtain ⟨e1,e2,e3⟩:=h3 t (by simp)
   refine ⟨?_,e3,?_,h2'.2,fun x hx=>h3 x (List.mem_cons_of_mem _ hx)⟩
   ·simp [isTask] at e1
    have e4:p.any (fun p=>decide (t.task≤p.task))=false:=by
     cases p with
     | none=>rfl
     | some q=>have:=h1 q rfl t (by simp);simp;exact this
    simp only [kbad,e4,Bool.not_eq_true',Bool.or_eq_false_iff]
    simp
    omega
   ·intro q hq x hx
    have:t=q:=Option.some.inj hq
    subst this
    exact h2'.1 _ (List.mem_map_of_mem hx)
end Go.VS.Sp
