import Derived.Test.YtjpdopldkeodgaaGreatV09
import Derived.Test.YtjpdopldkeodgaaGreatV08
import Derived.Test.YtjpdopldkeodgaaGreatV07
set_option linter.all false
namespace Go.VS.Sp
def cPk (sz:Int) (s:S) (c:Cl):Bool:=(c.op==64&&decide (sz≤(s.B.length:Int)))||(c.op==65&&s.B.isEmpty&&!s.cl)
theorem ev_CApA (nm:D) (k sz ot:Int) (s:S) (c:Cl) (hb:s.bn=false) (hn:s.B.length≤1000) (hck:ev P (.call z_83 [.d (.ag [nm,I' k,I' sz,I' ot]),.d (.ag (s.ab true).row)] [])=some (.val (.d (I' 0)) [])) (he:cCE s c=0) :
  Rd (ev P (.call z_84 [.d (.ag [nm,I' k,I' sz,I' ot]),.d (.ag (s.ab true).row),.d (.ag c.row)] [])) 0 (cPk sz s c):=by
 have hF:ev P (.call z_132 [.d (qD true []),.d (I' c.task)] [])=some (.val (.tu [.d (I' 0),.d (.b false)]) []):=ev_wFind true [] c.task (by simp)
 have hop:=ev_ops
 have hcb:=cb_eq c
 have hch:=ev_chgA nm k sz ot s hb (by omega)
 have hlen:(rows1 s.B).length=s.B.length:=by simp
 have o1:=ev_o1A sz s c s.B.length (rows1 s.B) hlen hn
 have o3:=ev_o3A sz s c s.B.length (rows1 s.B)
 rw [ev_sendA sz s c s.B.length (rows1 s.B) hlen hn,ev_lkA] at o1
 rw [ev_shutA] at o3
 have hpk:cPk sz s c=((c.op==64&&decide (sz≤(s.B.length:Int)))||(c.op==65&&s.B.isEmpty&&!s.cl)):=rfl
 have h1:cbad c=false:=by
  cases h:cbad c
  ·rfl
  ·unfold cCE at he
   rw [h,if_pos rfl] at he;cases he
 rw [h1] at hcb
 unfold cCE at he
 rw [h1,if_neg (by simp)] at he
 have h2:(c.op != 64&&c.op != 65&&c.op != 66)=false:=by
  cases h:(c.op != 64&&c.op != 65&&c.op != 66)
  ·rfl
  ·rw [h,if_pos rfl] at he;cases he
 rw [h2,if_neg (by simp)] at he
 have hop3:c.op=64∨c.op=65∨c.op=66:=by simp at h2;omega
 rw [hpk]
 rw [ev_call P_z_84 rfl]
 obtain ⟨own,cnt,time,hn',H,qn,Q,bn,B,cn,C,cl,val⟩:=s
 simp only at hb hn he ⊢
 subst hb
 rcases hop3 with ho | ho | ho
 ·have o1':=o1
  rw [ho] at he o1' ⊢
  cases h4:num c.value
  ·rw [h4] at he;simp at he
  ·cases cl
   ·by_cases hsz:(B.length:Int)<sz
    ·rw [if_pos hsz] at o1'
     have:¬sz≤(B.length:Int):=by omega
     simp only [S.ab,S.row,Cl.row,qD,List.map_nil,ho] at *
     simp [F_z_84,ev_isTaskC,ev_isPrioC,ev_numC,hck,hF,hop,hcb,h4,hch,o1',this,callD,callR,sub,setAll,back,endH,overlay,reachC,cut,List.range_succ,List.idxOf_cons,V.same_self,thaw,freezeAll,freeze1,rg2,rg3]
     exact Rd.mk' rfl
    ·rw [if_neg hsz] at o1'
     have:sz≤(B.length:Int):=by omega
     simp only [S.ab,S.row,Cl.row,qD,List.map_nil,ho] at *
     simp [F_z_84,ev_isTaskC,ev_isPrioC,ev_numC,hck,hF,hop,hcb,h4,hch,o1',this,callD,callR,sub,setAll,back,endH,overlay,reachC,cut,List.range_succ,List.idxOf_cons,V.same_self,thaw,freezeAll,freeze1,rg2,rg3]
     exact Rd.mk' rfl
   ·rw [h4] at he;simp at he
 ·rw [ho] at he ⊢
  cases B with
  | nil =>
   have o2:=ev_o2A0 sz ⟨own,cnt,time,hn',H,qn,Q,false,[],cn,C,cl,val⟩ c
   rw [ev_recA0,ev_lkA] at o2
   cases cl
   ·rw [if_neg (by simp)] at o2
    simp only [S.ab,S.row,Cl.row,qD,List.map_nil,List.length_nil,ho] at *
    simp [F_z_84,ev_isTaskC,ev_isPrioC,ev_numC,hck,hF,hop,hcb,hch,o2,callD,callR,sub,setAll,back,endH,overlay,reachC,cut,List.range_succ,List.idxOf_cons,V.same_self,thaw,freezeAll,freeze1,rg2,rg3]
    exact Rd.mk' rfl
   ·rw [if_pos rfl] at o2
    simp only [S.ab,S.row,Cl.row,qD,List.map_nil,List.length_nil,ho] at *
    simp [F_z_84,ev_isTaskC,ev_isPrioC,ev_numC,hck,hF,hop,hcb,hch,o2,callD,callR,sub,setAll,back,endH,overlay,reachC,cut,List.range_succ,List.idxOf_cons,V.same_self,thaw,freezeAll,freeze1,rg2,rg3]
    exact Rd.mk' rfl
  | cons a r =>
   cases r with
   | nil =>
    have o2:=ev_o2A1 sz ⟨own,cnt,time,hn',H,qn,Q,false,[a],cn,C,cl,val⟩ c a
    rw [ev_recA1] at o2
    simp only [S.ab,S.row,Cl.row,qD,List.map_nil,List.map_cons,List.length_nil,List.length_cons,ho] at *
    simp [F_z_84,ev_isTaskC,ev_isPrioC,ev_numC,hck,hF,hop,hcb,hch,o2,callD,callR,sub,setAll,back,endH,overlay,reachC,cut,List.range_succ,List.idxOf_cons,V.same_self,thaw,freezeAll,freeze1,rg2,rg3]
    exact Rd.mk' rfl
   | cons b r =>
    have o2:=ev_o2A sz ⟨own,cnt,time,hn',H,qn,Q,false,a::b::r,cn,C,cl,val⟩ c r.length a (rows1 (b::r)) (by simp)
    rw [ev_recA _ _ _ _ _ _ (by simp)] at o2
    have h9:1+(r.length+1)≤r.length+1+1:=by omega
    simp only [S.ab,S.row,Cl.row,qD,List.map_nil,List.map_cons,List.length_cons,ho] at *
    simp [F_z_84,ev_isTaskC,ev_isPrioC,ev_numC,hck,hF,hop,hcb,hch,o2,h9,callD,callR,sub,setAll,back,endH,overlay,reachC,cut,List.range_succ,List.idxOf_cons,V.same_self,thaw,freezeAll,freeze1,rg2,rg3]
    exact Rd.mk' rfl
 ·have o3':=o3
  rw [ho] at he ⊢
  cases cl
  ·simp only [S.ab,S.row,Cl.row,qD,List.map_nil,ho] at *
   simp [F_z_84,ev_isTaskC,ev_isPrioC,ev_numC,hck,hF,hop,hcb,hch,o3',callD,callR,sub,setAll,back,endH,overlay,reachC,cut,List.range_succ,List.idxOf_cons,V.same_self,thaw,freezeAll,freeze1,rg2,rg3]
   exact Rd.mk' rfl
  ·simp at he
theorem ev_CApN (nm:D) (k sz ot:Int) (s:S) (c:Cl) (hb:s.bn=true) (hB:s.B=[]) (hck:ev P (.call z_83 [.d (.ag [nm,I' k,I' sz,I' ot]),.d (.ag (s.ab true).row)] [])=some (.val (.d (I' 0)) [])) (he:cCE s c=0) :
  Rd (ev P (.call z_84 [.d (.ag [nm,I' k,I' sz,I' ot]),.d (.ag (s.ab true).row),.d (.ag c.row)] [])) 0 (cPk sz s c):=by
 have hF:ev P (.call z_132 [.d (qD true []),.d (I' c.task)] [])=some (.val (.tu [.d (I' 0),.d (.b false)]) []):=ev_wFind true [] c.task (by simp)
 have hop:=ev_ops
 have hcb:=cb_eq c
 have hch:=ev_chgN nm k sz ot s hb
 have o1:=ev_o1N sz s c
 have o2:=ev_o2N sz s c
 have o3:=ev_o3N sz s c
 rw [ev_sendN,ev_lkN] at o1
 rw [ev_recN,ev_lkN] at o2
 rw [ev_shutN] at o3
 have hpk:cPk sz s c=((c.op==64&&decide (sz≤(s.B.length:Int)))||(c.op==65&&s.B.isEmpty&&!s.cl)):=rfl
 have h1:cbad c=false:=by
  cases h:cbad c
  ·rfl
  ·unfold cCE at he
   rw [h,if_pos rfl] at he;cases he
 rw [h1] at hcb
 unfold cCE at he
 rw [h1,if_neg (by simp)] at he
 have h2:(c.op != 64&&c.op != 65&&c.op != 66)=false:=by
  cases h:(c.op != 64&&c.op != 65&&c.op != 66)
  ·rfl
  ·rw [h,if_pos rfl] at he;cases he
 rw [h2,if_neg (by simp)] at he
 have hop3:c.op=64∨c.op=65∨c.op=66:=by simp at h2;omega
 rw [hpk]
 rw [ev_call P_z_84 rfl]
 obtain ⟨own,cnt,time,hn',H,qn,Q,bn,B,cn,C,cl,val⟩:=s
 simp only at hb hB he ⊢
 subst hb
 subst hB
 rcases hop3 with ho | ho | ho
 ·rw [ho] at he ⊢
  cases h4:num c.value
  ·rw [h4] at he;simp at he
  ·cases cl
   ·by_cases hsz:0<sz
    ·rw [if_pos hsz] at o1
     have:¬sz≤0:=by omega
     simp only [S.ab,S.row,Cl.row,qD,List.map_nil,ho] at *
     simp [F_z_84,ev_isTaskC,ev_isPrioC,ev_numC,hck,hF,hop,hcb,h4,hch,o1,this,callD,callR,sub,setAll,back,endH,overlay,reachC,cut,List.range_succ,List.idxOf_cons,V.same_self,thaw,freezeAll,freeze1,rg2,rg3]
     exact Rd.mk' rfl
    ·rw [if_neg hsz] at o1
     have:sz≤0:=by omega
     simp only [S.ab,S.row,Cl.row,qD,List.map_nil,ho] at *
     simp [F_z_84,ev_isTaskC,ev_isPrioC,ev_numC,hck,hF,hop,hcb,h4,hch,o1,this,callD,callR,sub,setAll,back,endH,overlay,reachC,cut,List.range_succ,List.idxOf_cons,V.same_self,thaw,freezeAll,freeze1,rg2,rg3]
     exact Rd.mk' rfl
   ·rw [h4] at he;simp at he
 ·rw [ho] at he ⊢
  cases cl
  ·rw [if_neg (by simp)] at o2
   simp only [S.ab,S.row,Cl.row,qD,List.map_nil,List.length_nil,ho] at *
   simp [F_z_84,ev_isTaskC,ev_isPrioC,ev_numC,hck,hF,hop,hcb,hch,o2,callD,callR,sub,setAll,back,endH,overlay,reachC,cut,List.range_succ,List.idxOf_cons,V.same_self,thaw,freezeAll,freeze1,rg2,rg3]
   exact Rd.mk' rfl
  ·rw [if_pos rfl] at o2
   simp only [S.ab,S.row,Cl.row,qD,List.map_nil,List.length_nil,ho] at *
   simp [F_z_84,ev_isTaskC,ev_isPrioC,ev_numC,hck,hF,hop,hcb,hch,o2,callD,callR,sub,setAll,back,endH,overlay,reachC,cut,List.range_succ,List.idxOf_cons,V.same_self,thaw,freezeAll,freeze1,rg2,rg3]
   exact Rd.mk' rfl
 ·rw [ho] at he ⊢
  cases cl
  ·simp only [S.ab,S.row,Cl.row,qD,List.map_nil,ho] at *
   simp [F_z_84,ev_isTaskC,ev_isPrioC,ev_numC,hck,hF,hop,hcb,hch,o3,callD,callR,sub,setAll,back,endH,overlay,reachC,cut,List.range_succ,List.idxOf_cons,V.same_self,thaw,freezeAll,freeze1,rg2,rg3]
   exact Rd.mk' rfl
  ·simp at he
theorem ev_CAp (nm:D) (k sz ot:Int) (s:S) (c:Cl) (hb:s.bn=true→s.B=[]) (hn:s.B.length≤1000) (hck:ev P (.call z_83 [.d (.ag [nm,I' k,I' sz,I' ot]),.d (.ag (s.ab true).row)] [])=some (.val (.d (I' 0)) [])) :
  Rd (ev P (.call z_84 [.d (.ag [nm,I' k,I' sz,I' ot]),.d (.ag (s.ab true).row),.d (.ag c.row)] [])) (cCE s c) (decide (cCE s c=0)&&cPk sz s c):=by
 by_cases he:cCE s c=0
 ·rw [decide_eq_true he,Bool.true_and,he]
  cases h:s.bn
  ·exact ev_CApA nm k sz ot s c h hn hck he
  ·exact ev_CApN nm k sz ot s c h (hb h) hck he
 ·rw [decide_eq_false he,Bool.false_and]
  exact ev_CApE nm k sz ot s c hck he
end Go.VS.Sp
namespace Go.VS.Sp
theorem ev_fwaits (s:S) (t:Int):ev P (.call z_185 [.d (.ag (s.ab true).row),.d (I' t)] [])=some (.val (.d (.b false)) []):=by
 have hF:ev P (.call z_132 [.d (qD true []),.d (I' t)] [])=some (.val (.tu [.d (I' 0),.d (.b false)]) []):=ev_wFind true [] t (by simp)
 rw [ev_call P_z_185 rfl]
 simp only [S.ab,S.row,qD,List.map_nil] at *
 simp [F_z_185,hF]
theorem ev_fcomp (s:S) (v:Int):ev P (.call z_186 [.d (.ag (s.ab true).row),.d (I' v)] []) =
  some (.val (.d (.ag [I' s.own,I' s.cnt,I' s.time,hD s.hn s.H,.sl 5 true [],hD s.bn s.B,cD s.cn s.C,.b true,I' v,.b false,I' 0,.b true,.sl 5 true []])) []):=by
 have hL:∀H:List O,H=[.arrD 9 true [(s.ab true).row],.arrD 13 true [zRp]]→ev P (.loop 0 [1,2,4,5,10,11,12] F_z_186_L0 [(1,.d (I' v)),(2,.loc 0 0 0),(4,.loc 1 0 0),(5,.d (.sl 5 true [])),(10,.d (.sl 5 true [])),(11,.d (I' 0)),(12,.d (I' 0))] H)=some (.out (.exit 0) [(1,.d (I' v)),(2,.loc 0 0 0),(4,.loc 1 0 0),(5,.d (.sl 5 true []))] H):=by
  intro H hH
  subst hH
  rw [ev_loop]
  conv=>lhs;arg 4;unfold F_z_186_L0
  simp [callD,callR,sub,setAll,back,endH,overlay,reachC,cut,List.range_succ,List.idxOf_cons,V.same_self,thaw,freezeAll,freeze1,rg2,rg3]
 have hL:=hL _ rfl
 rw [ev_call P_z_186 rfl]
 simp only [S.ab,S.row,qD,List.map_nil] at *
 simp [F_z_186,hL,callD,callR,sub,setAll,back,endH,overlay,reachC,cut,List.range_succ,List.idxOf_cons,V.same_self,thaw,freezeAll,freeze1,rg2,rg3]
theorem ev_fawait (s:S) (c:Cl):∃v q,ev P (.call z_187 [.d (.ag (s.ab true).row),.d (.ag c.row)] []) =
  some (.val (.d (.ag [I' s.own,I' s.cnt,I' s.time,hD s.hn s.H,q,hD s.bn s.B,cD s.cn s.C,.b s.cl,I' s.val,.b (!s.cl),I' v,.b s.cl,.sl 5 true []])) []):=by
 have h0:=ev_cln0
 have hr:1≤room:=by decide
 rw [ev_call P_z_187 rfl]
 obtain ⟨own,cnt,time,hn',H,qn,Q,bn,B,cn,C,cl,val⟩:=s
 simp only [S.ab,S.row,Cl.row,qD,List.map_nil] at *
 cases cl
 ·simp [F_z_187,h0,hr,callD,callR,sub,setAll,back,endH,overlay,reachC,cut,List.range_succ,List.idxOf_cons,V.same_self,thaw,freezeAll,freeze1,rg2,rg3]
 ·simp [F_z_187,h0,hr,callD,callR,sub,setAll,back,endH,overlay,reachC,cut,List.range_succ,List.idxOf_cons,V.same_self,thaw,freezeAll,freeze1,rg2,rg3]
def fCE (s:S) (c:Cl):Int:=if cbad c then 2 else if (!(c.op==73)&&c.op != 74) then 8 else if (c.op==73&&!num c.value) then 2 else if (c.op==73&&s.cl) then 17 else 0
theorem ev_FAp (nm:D) (k sz ot:Int) (s:S) (c:Cl) (hck:ev P (.call z_98 [.d (.ag [nm,I' k,I' sz,I' ot]),.d (.ag (s.ab true).row)] [])=some (.val (.d (I' 0)) [])) :
  Rd (ev P (.call z_99 [.d (.ag [nm,I' k,I' sz,I' ot]),.d (.ag (s.ab true).row),.d (.ag c.row)] [])) (fCE s c) (decide (fCE s c=0)&&(c.op==74&&!s.cl)):=by
 have hw:=ev_fwaits s c.task
 have hc:=ev_fcomp s c.value
 obtain ⟨v,q,ha⟩:=ev_fawait s c
 rw [ev_call P_z_99 rfl]
 obtain ⟨own,cnt,time,hn',H,qn,Q,bn,B,cn,C,cl,val⟩:=s
 simp only [S.ab,S.row,Cl.row,qD,List.map_nil] at *
 unfold fCE
 simp only
 cases h1:cbad c
 ·rw [if_neg (by simp)]
  unfold cbad at h1
  cases h2:(!(c.op==73)&&c.op != 74)
  ·rw [if_neg (by simp)]
   have ho:c.op=73∨c.op=74:=by simp at h2;omega
   rcases ho with ho | ho
   ·cases h4:num c.value<;>cases cl<;>simp [F_z_99,ev_numF,hck,hw,hc,h1,ho,h4,callD,callR,sub,setAll,back,endH,overlay,reachC,cut,List.range_succ,List.idxOf_cons,V.same_self,thaw,freezeAll,freeze1,rg2,rg3]<;>exact Rd.mk' rfl
   ·rw [ho] at ha
    cases cl<;>simp [F_z_99,ev_numF,hck,hw,h1,ho,ha,callD,callR,sub,setAll,back,endH,overlay,reachC,cut,List.range_succ,List.idxOf_cons,V.same_self,thaw,freezeAll,freeze1,rg2,rg3]<;>exact Rd.mk' rfl
  ·rw [if_pos rfl]
   simp [F_z_99,hck,h1,h2,callD,callR,sub,setAll,back,endH,overlay,reachC,cut,List.range_succ,List.idxOf_cons,V.same_self,thaw,freezeAll,freeze1,rg2,rg3]
   exact Rd.mk' rfl
 ·rw [if_pos rfl]
  unfold cbad at h1
  simp [F_z_99,hck,h1,callD,callR,sub,setAll,back,endH,overlay,reachC,cut,List.range_succ,List.idxOf_cons,V.same_self,thaw,freezeAll,freeze1,rg2,rg3]
  exact Rd.mk' rfl
end Go.VS.Sp
namespace Go.VS.Sp
theorem ev_lwts (s:S) (t:Int):ev P (.call z_182 [.d (.ag (s.ab true).row),.d (I' t)] [])=some (.val (.d (.b false)) []):=by
 have hF:ev P (.call z_132 [.d (qD true []),.d (I' t)] [])=some (.val (.tu [.d (I' 0),.d (.b false)]) []):=ev_wFind true [] t (by simp)
 rw [ev_call P_z_182 rfl]
 simp only [S.ab,S.row,qD,List.map_nil] at *
 simp [F_z_182,hF]
def lCE (sz:Int) (s:S) (c:Cl):Int:=if (c.op != 72&&c.op != 75) then 8 else if (decide (c.now<s.time)||decide (1099511627776<c.now)) then 2 else if c.op==75 then 0 else if (decide (c.task<0)||decide (16≤c.task)||decide (c.prio<0)||decide (9<c.prio)||decide (c.value<1)||decide (sz<c.value)) then 2 else 0
theorem ev_limck (nm:D) (k sz ot:Int) (s:S) (c:Cl) (hck:ev P (.call z_93 [.d (.ag [nm,I' k,I' sz,I' ot]),.d (.ag (s.ab true).row)] [])=some (.val (.d (I' 0)) [])) :
  ev P (.call z_179 [.d (.ag [nm,I' k,I' sz,I' ot]),.d (.ag (s.ab true).row),.d (.ag c.row)] [])=some (.val (.d (I' (lCE sz s c))) []):=by
 have hw:=ev_lwts s c.task
 rw [ev_call P_z_179 rfl]
 simp only [S.ab,S.row,Cl.row,qD,List.map_nil] at *
 unfold lCE
 cases h1:(c.op != 72&&c.op != 75)
 ·rw [if_neg (by simp)]
  cases h2:(decide (c.now<s.time)||decide (1099511627776<c.now))
  ·rw [if_neg (by simp)]
   have ho:c.op=72∨c.op=75:=by simp at h1;omega
   rcases ho with ho | ho
   ·cases h3:(decide (c.task<0)||decide (16≤c.task)||decide (c.prio<0)||decide (9<c.prio)||decide (c.value<1)||decide (sz<c.value))<;>simp [F_z_179,hck,h1,h2,ho,h3,hw]
   ·simp [F_z_179,hck,h2,ho]
  ·rw [if_pos rfl]
   simp [F_z_179,hck,h1,h2]
 ·rw [if_pos rfl]
  simp [F_z_179,hck,h1]
def rfl0 (sz ot now:Int) (s:S):S:=if sz≤s.cnt+(now - s.time) / ot then { s with cnt:=sz,time:=now } else { s with cnt:=s.cnt+(now - s.time) / ot,time:=s.time+(now - s.time) / ot*ot }
theorem ev_refd (nm:D) (k sz ot now:Int) (s:S) (h1:0≤s.time∧s.time≤now∧now≤1099511627776) (h2:1≤ot∧ot≤1099511627776) (h3:0≤s.cnt∧s.cnt≤sz∧sz≤100) :
  ev P (.call z_180 [.d (.ag (nm::I' k::I' sz::I' ot::(s.ab true).row)),.d (I' now)] [])=some (.val (.d (.ag ((rfl0 sz ot now s).ab true).row)) []):=by
 rw [ev_call P_z_180 rfl]
 obtain ⟨k0,k1,k2⟩:=div_bd (a:=now - s.time) (b:=ot) (by omega) h2.1
 have hot:¬ot=0:=by omega
 have w0:IntKind.i64.wrap (now - s.time)=now - s.time:=wrap_i64 (by omega) (by omega)
 have ht:(now - s.time).tdiv ot=(now - s.time) / ot:=Int.tdiv_eq_ediv_of_nonneg (by omega)
 unfold rfl0
 generalize hkk:(now - s.time) / ot=q at *
 have w1:IntKind.i64.wrap q=q:=wrap_i64 (by omega) (by omega)
 have w3:IntKind.i64.wrap (s.cnt+q)=s.cnt+q:=wrap_i64 (by omega) (by omega)
 have w4:IntKind.i64.wrap (q*ot)=q*ot:=by
  have:0≤q*ot:=Int.mul_nonneg k0 (by omega)
  exact wrap_i64 (by omega) (by omega)
 have w5:IntKind.i64.wrap (s.time+q*ot)=s.time+q*ot:=by
  have:0≤q*ot:=Int.mul_nonneg k0 (by omega)
  exact wrap_i64 (by omega) (by omega)
 by_cases h:sz≤s.cnt+q
 ·rw [if_pos h]
  simp only [S.ab,S.row,Cl.row,qD,List.map_nil] at *
  simp [F_z_180,hot,w0,ht,w1,w3,w4,w5,h,callD,callR,sub,setAll,back,endH,overlay,reachC,cut,List.range_succ,List.idxOf_cons,V.same_self,thaw,freezeAll,freeze1,rg2,rg3]
 ·rw [if_neg h]
  simp only [S.ab,S.row,Cl.row,qD,List.map_nil] at *
  simp [F_z_180,hot,w0,ht,w1,w3,w4,w5,h,callD,callR,sub,setAll,back,endH,overlay,reachC,cut,List.range_succ,List.idxOf_cons,V.same_self,thaw,freezeAll,freeze1,rg2,rg3]
theorem ev_served0 (s:S) :
  ev P (.call z_181 [.d (.ag (s.ab true).row)] [])=some (.val (.fn z_247 [] [.loc 0 0 0]) [.arrD 9 true [(s.ab true).row]]):=by
 rw [ev_call P_z_181 rfl]
 simp only [S.ab,S.row,Cl.row,qD,List.map_nil] at *
 simp [F_z_181,callD,callR,sub,setAll,back,endH,overlay,reachC,cut,List.range_succ,List.idxOf_cons,V.same_self,thaw,freezeAll,freeze1,rg2,rg3]
theorem ev_sC1 (ps:List Nat) (a b:C) (t:S) (u z:List D) :
  ev P (.call z_247 [.yld 0,.loc 1 0 0] [.lp ps a b .normal [(4,.loc 2 0 0),(10,.loc 3 0 0)],.arrD 9 true [(t.ab true).row],.arrD 9 true [u],.arrD 13 true [z]])=some (.val (.tu []) [.lp ps a b .normal [(4,.loc 2 0 0),(10,.loc 3 0 0)],.arrD 9 true [(t.ab true).row],.arrD 9 true [u],.arrD 13 true [z]]):=by
 have hL:∀H:List O,H=[.lp ps a b .normal [(4,.loc 2 0 0),(10,.loc 3 0 0)],.arrD 9 true [(t.ab true).row],.arrD 9 true [u],.arrD 13 true [z]]→ev P (.loop 4 [0,1] F_z_247_L0 [(0,.yld 0),(1,.loc 1 0 0)] H)=some (.out (.exit 0) [] H):=by
  intro H hH
  subst hH
  rw [ev_loop]
  conv=>lhs;arg 4;unfold F_z_247_L0
  simp only [S.ab,S.row,Cl.row,qD,List.map_nil] at *
  simp [callD,callR,sub,setAll,back,endH,overlay,reachC,cut,List.range_succ,List.idxOf_cons,V.same_self,thaw,freezeAll,freeze1,rg2,rg3]
 have hL:=hL _ rfl
 rw [ev_call P_z_247 rfl]
 simp only [S.ab,S.row,Cl.row,qD,List.map_nil] at *
 simp [F_z_247,hL,callD,callR,sub,setAll,back,endH,overlay,reachC,cut,List.range_succ,List.idxOf_cons,V.same_self,thaw,freezeAll,freeze1,rg2,rg3]
theorem ev_LAp (nm:D) (k sz ot:Int) (s:S) (c:Cl) (h2:1≤ot∧ot≤1099511627776) (h3:0≤s.cnt∧s.cnt≤sz∧sz≤100) (h1:0≤s.time) (hck:ev P (.call z_93 [.d (.ag [nm,I' k,I' sz,I' ot]),.d (.ag (s.ab true).row)] [])=some (.val (.d (I' 0)) [])) :
  Rd (ev P (.call z_94 [.d (.ag [nm,I' k,I' sz,I' ot]),.d (.ag (s.ab true).row),.d (.ag c.row)] [])) (lCE sz s c) (decide (lCE sz s c=0)&&(c.op==72&&decide ((rfl0 sz ot c.now s).cnt<c.value))):=by
 have hc:=ev_limck nm k sz ot s c hck
 rw [ev_call P_z_94 rfl]
 by_cases he:lCE sz s c=0
 ·have hnow:s.time≤c.now∧c.now≤1099511627776:=by
   unfold lCE at he
   split at he
   ·cases he
   ·split at he
    ·cases he
    ·rename_i h
     simp at h
     omega
  have hr:=ev_refd nm k sz ot c.now s ⟨h1,hnow⟩ h2 h3
  have hs:=ev_served0 (rfl0 sz ot c.now s)
  rw [he] at hc ⊢
  have hy:=fun ps a b=>ev_sC1 ps a b (rfl0 sz ot c.now s) ((rfl0 sz ot c.now s).ab true).row zRp
  have h0:=ev_cln0
  have hrm:1≤room:=by decide
  have htc:0≤(rfl0 sz ot c.now s).cnt∧(rfl0 sz ot c.now s).cnt≤sz:=by
   obtain ⟨k0,-,-⟩:=div_bd (a:=c.now - s.time) (b:=ot) (by omega) h2.1
   unfold rfl0
   split
   ·simp only;omega
   ·simp only;omega
  have hv:c.op=72∧1≤c.value∧c.value≤sz∨c.op=75:=by
   unfold lCE at he
   split at he
   ·cases he
   ·rename_i ho
    simp at ho
    split at he
    ·cases he
    ·split at he
     ·rename_i h;simp at h;exact .inr h
     ·rename_i h
      simp at h
      split at he
      ·cases he
      ·rename_i hb;simp at hb;exact .inl (by omega)
  generalize rfl0 sz ot c.now s=t at *
  simp only [S.ab,S.row,Cl.row,qD,List.map_nil] at *
  rcases hv with ⟨ho,hv⟩ | ho
  ·rw [ho] at hc ⊢
   have hwr:IntKind.i64.wrap (t.cnt - c.value)=t.cnt - c.value:=wrap_i64 (by omega) (by omega)
   by_cases hle:c.value≤t.cnt
   ·have hlt:decide (t.cnt<c.value)=false:=by simp;omega
    rw [hlt]
    simp [F_z_94,hc,hr,hs,hy,hle,hwr,callD,callR,sub,setAll,back,endH,overlay,reachC,cut,List.range_succ,List.idxOf_cons,V.same_self,thaw,freezeAll,freeze1,rg2,rg3]
    exact Rd.mk' rfl
   ·have hlt:decide (t.cnt<c.value)=true:=by simp;omega
    rw [hlt]
    simp [F_z_94,hc,hr,hs,hy,hle,h0,hrm,callD,callR,sub,setAll,back,endH,overlay,reachC,cut,List.range_succ,List.idxOf_cons,V.same_self,thaw,freezeAll,freeze1,rg2,rg3]
    exact Rd.mk' rfl
  ·rw [ho] at hc ⊢
   simp [F_z_94,hc,hr,hs,hy,callD,callR,sub,setAll,back,endH,overlay,reachC,cut,List.range_succ,List.idxOf_cons,V.same_self,thaw,freezeAll,freeze1,rg2,rg3]
   exact Rd.mk' rfl
 ·rw [show decide (lCE sz s c=0)=false by simpa using he]
  generalize lCE sz s c=e at *
  have he':(e != 0)=true:=by simpa using he
  simp only [S.ab,S.row,Cl.row,qD,List.map_nil] at *
  simp [F_z_94,hc,he',callD,callR,sub,setAll,back,endH,overlay,reachC,cut,List.range_succ,List.idxOf_cons,V.same_self,thaw,freezeAll,freeze1,rg2,rg3]
  exact Rd.mk' rfl
end Go.VS.Sp
namespace Go.VS.Sp
theorem S.fine.sz {s:S} (h:s.fine) (b:Bool):(s.ab b).sz:=by
 refine ⟨?_,?_,?_,?_,?_⟩
 ·show s.H.length≤10000;have:=h.h;omega
 ·show s.B.length≤10000;have:=h.b;omega
 ·show ([]:List W).length≤10000;simp
 ·show s.C.length≤1000;have:=h.c;omega
 ·intro c hc;have:=h.l c hc;omega
end Go.VS.Sp
namespace Go.VS.Sp
end Go.VS.Sp
namespace Go.VS.Sp
end Go.VS.Sp
namespace Go.VS.Sp
theorem rd_of (f g:Nat) {nm:D} {k sz ot e:Int} {s:S} {c:Cl} {pk:Bool} (hA:Rd (ev P (.call f [.d (.ag [nm,I' k,I' sz,I' ot]),.d (.ag (s.ab true).row),.d (.ag c.row)] [])) e pk)
  (hg:g=z_76∧f=z_74∨g=z_86∧f=z_84∨g=z_96∧f=z_94∨g=z_101∧f=z_99) :
  ev P (.call g [.d (.ag [nm,I' k,I' sz,I' ot]),.d (.ag (s.ab true).row),.d (.ag c.row)] [])=some (.val (.d (.b (e==0&&!pk))) []):=by
 obtain ⟨a1,a2,a3,a4,a5,a6,a7,a8,a9,b1,b2,b3,hA⟩:=hA
 simp only [S.ab,S.row,Cl.row,qD,List.map_nil] at *
 rcases hg with ⟨rfl,rfl⟩ | ⟨rfl,rfl⟩ | ⟨rfl,rfl⟩ | ⟨rfl,rfl⟩
 ·rw [ev_call P_z_76 rfl]
  cases he:e==0<;>simp [F_z_76,hA,he,overlay]
 ·rw [ev_call P_z_86 rfl]
  cases he:e==0<;>simp [F_z_86,hA,he,overlay]
 ·rw [ev_call P_z_96 rfl]
  cases he:e==0<;>simp [F_z_96,hA,he,overlay]
 ·rw [ev_call P_z_101 rfl]
  cases he:e==0<;>simp [F_z_101,hA,he,overlay]
theorem ev_numb (c:Cl):ev P (.call z_32 [.d (.ag c.row)] [])=some (.val (.d (.b (!cbad c))) []):=by
 have e:(!cbad c)=(decide (0≤c.task)&&decide (c.task<16)&&decide (0≤c.prio)&&decide (c.prio≤9)&&decide (0≤c.now)&&decide (c.now≤1099511627776)):=by
  unfold cbad
  rw [Bool.eq_iff_iff]
  simp
 rw [e,ev_call P_z_32 rfl]
 simp [F_z_32,Cl.row]
def Cl.rf (c:Cl):Cl:=if c.op=75 then { c with value:=1 } else c
theorem ev_rfb (c:Cl):ev P (.call z_33 [.d (.ag c.row)] [])=some (.val (.d (.ag c.rf.row)) []):=by
 rw [ev_call P_z_33 rfl]
 unfold Cl.rf
 by_cases h:c.op=75
 ·rw [if_pos h]
  simp [F_z_33,Cl.row,h,endH,overlay]
 ·rw [if_neg h]
  have h':(c.op==75)=false:=by simpa using h
  simp [F_z_33,Cl.row,h',endH,overlay]
def kind26 (k:Int) (f g a w r:Nat):Prop :=
 (k=1∧f=z_62∧g=z_63∧a=z_64∧w=z_65∧r=z_66)∨(k=2∧f=z_67∧g=z_68∧a=z_69∧w=z_70∧r=z_71) ∨
 (k=4∧f=z_72∧g=z_73∧a=z_74∧w=z_75∧r=z_76)∨(k=5∧f=z_77∧g=z_78∧a=z_79∧w=z_80∧r=z_81) ∨
 (k=6∧f=z_82∧g=z_83∧a=z_84∧w=z_85∧r=z_86)∨(k=7∧f=z_87∧g=z_88∧a=z_89∧w=z_90∧r=z_91) ∨
 (k=8∧f=z_92∧g=z_93∧a=z_94∧w=z_95∧r=z_96)∨(k=9∧f=z_97∧g=z_98∧a=z_99∧w=z_100∧r=z_101)
theorem ev_of26 {k:Int} {f g a w r:Nat} (h:kind26 k f g a w r):ev P (.call z_29 [.d (I' k)] [])=some (.val (.tu [.d (.ag [.fn f [] [],.fn g [] [],.fn a [] [],.fn w [] [],.fn r [] []]),.d (.b true)]) []):=by
 rw [ev_call P_z_29 rfl]
 unfold kind26 at h
 rcases h with ⟨rfl,rfl,rfl,rfl,rfl,rfl⟩ | ⟨rfl,rfl,rfl,rfl,rfl,rfl⟩ | ⟨rfl,rfl,rfl,rfl,rfl,rfl⟩ | ⟨rfl,rfl,rfl,rfl,rfl,rfl⟩ | ⟨rfl,rfl,rfl,rfl,rfl,rfl⟩ | ⟨rfl,rfl,rfl,rfl,rfl,rfl⟩ | ⟨rfl,rfl,rfl,rfl,rfl,rfl⟩ | ⟨rfl,rfl,rfl,rfl,rfl,rfl⟩<;>simp [F_z_29,endH]
theorem ev_of26U {k:Int} (h:¬(k=1∨k=2∨k=4∨k=5∨k=6∨k=7∨k=8∨k=9)):ev P (.call z_29 [.d (I' k)] [])=some (.val (.tu [.d (.ag [.nilfn,.nilfn,.nilfn,.nilfn,.nilfn]),.d (.b false)]) []):=by
 rw [ev_call P_z_29 rfl]
 simp only [not_or] at h
 obtain ⟨h1,h2,h3,h4,h5,h6,h7,h8⟩:=h
 have h1:(k==1)=false:=by simpa using h1
 have h2:(k==2)=false:=by simpa using h2
 have h3:(k==4)=false:=by simpa using h3
 have h4:(k==5)=false:=by simpa using h4
 have h5:(k==6)=false:=by simpa using h5
 have h6:(k==7)=false:=by simpa using h6
 have h7:(k==8)=false:=by simpa using h7
 have h8:(k==9)=false:=by simpa using h8
 simp [F_z_29,h1,h2,h3,h4,h5,h6,h7,h8,endH]
def skipR (k sz:Int) (s:S) (c:Cl):Bool:=(sz==0&&(k==6||k==7))||(c.op==64&&s.cl)
theorem kinds_of {k:Int} {f g a w r:Nat} (h:kind26 k f g a w r):∃t,kinds k t f g:=by
 unfold kind26 at h
 unfold kinds
 rcases h with ⟨rfl,rfl,rfl,rfl,rfl,rfl⟩ | ⟨rfl,rfl,rfl,rfl,rfl,rfl⟩ | ⟨rfl,rfl,rfl,rfl,rfl,rfl⟩ | ⟨rfl,rfl,rfl,rfl,rfl,rfl⟩ | ⟨rfl,rfl,rfl,rfl,rfl,rfl⟩ | ⟨rfl,rfl,rfl,rfl,rfl,rfl⟩ | ⟨rfl,rfl,rfl,rfl,rfl,rfl⟩ | ⟨rfl,rfl,rfl,rfl,rfl,rfl⟩
 ·exact ⟨101,by simp⟩
 ·exact ⟨102,by simp⟩
 ·exact ⟨103,by simp⟩
 ·exact ⟨104,by simp⟩
 ·exact ⟨105,by simp⟩
 ·exact ⟨106,by simp⟩
 ·exact ⟨107,by simp⟩
 ·exact ⟨108,by simp⟩
theorem law_core (nm:D) (k sz ot:Int) (s:S) (c:Cl) {f g a w r:Nat} (hk:kind26 k f g a w r) (hw:(s.ab true).wf)
  (hr:(s.ab true).fine→ckG k sz ot (s.ab true)=0→cbad c=false→skipR k sz s c=false→(k==5)=false→ev P (.call r [.d (.ag [nm,I' k,I' sz,I' ot]),.d (.ag (s.ab true).row),.d (.ag c.rf.row)] [])=some (.val (.d (.b ((effF k sz ot (s.ab true).pl c.rf).2.2.2==0))) [])) :
  ev P (.call z_9 [.d (.ag [nm,I' k,I' sz,I' ot]),.d (.ag s.row),.d (.ag c.row)] [])=some (.val (.d (.b true)) []):=by
 have hof:=ev_of26 hk
 have hG:=ev_Great (s.ab true)
 rw [ev_call P_z_9 rfl]
 cases hg:(s.ab true).great
 ·rw [hg] at hG
  have hf:(s.ab true).fine:=fine_of hw (fun _=>rfl) hg
  have hr:=hr hf
  have hn:=ev_numb c
  have hrf:=ev_rfb c
  have hA:=ev_Abstract nm k sz ot (s.ab true) hf
  have hE:=ev_Enabled nm k sz ot (s.ab true) c.rf hw (great_sz hg)
  obtain ⟨tt,hkk⟩:=kinds_of hk
  have hck:=ev_ckK hkk nm sz ot (s.ab true) hf
  generalize ((effF k sz ot (s.ab true).pl c.rf).2.2.2==0)=en at *
  generalize hce:ckG k sz ot (s.ab true)=ce at *
  simp only [S.ab,S.row,Cl.row,qD,List.map_nil] at hG hn hrf hA hE hck hr ⊢
  by_cases he:ce=0
  ·subst he
   cases hb:cbad c
   ·rw [hb] at hn
    cases h5:k==5
    ·cases hs:skipR k sz s c
     ·have hr:=hr rfl hb hs h5
      unfold skipR at hs
      simp only [if_true] at hA
      simp [F_z_9,hof,hG,hck,hn,h5,hs,hr,hrf,hA,hE,ev_awake,endH,overlay,V.same_self]
     ·unfold skipR at hs
      simp [F_z_9,hof,hG,hck,hn,h5,hs,ev_awake,endH,overlay]
    ·simp [F_z_9,hof,hG,hck,hn,h5,ev_awake,endH,overlay]
   ·rw [hb] at hn
    simp [F_z_9,hof,hG,hck,hn,ev_awake,endH,overlay]
  ·have he':(ce != 0)=true:=by simpa using he
   simp [F_z_9,hof,hG,hck,he',ev_awake,endH,overlay]
 ·rw [hg] at hG
  simp only [S.ab,S.row,Cl.row,qD,List.map_nil] at hG ⊢
  simp [F_z_9,hof,hG,ev_awake,endH,overlay]
theorem law_U (nm:D) (k sz ot:Int) (s:S) (c:Cl) (hk:¬(k=1∨k=2∨k=4∨k=5∨k=6∨k=7∨k=8∨k=9)) :
  ev P (.call z_9 [.d (.ag [nm,I' k,I' sz,I' ot]),.d (.ag s.row),.d (.ag c.row)] [])=some (.val (.d (.b true)) []):=by
 have hof:=ev_of26U hk
 rw [ev_call P_z_9 rfl]
 simp [F_z_9,Cl.row,hof,ev_awake,endH,overlay]
end Go.VS.Sp
namespace Go.VS.Sp
theorem en_eq {k sz ot:Int} {t:S} {c:Cl} (ha:absB k sz ot t=true) (hb:cbad c=false):((effF k sz ot t c).2.2.2==0)=(blg k c.op&&fit k sz c&&((raw k sz ot t c).2.2.2==0)):=by
 unfold effF
 rw [if_neg (by rw [ha];decide),if_neg (by rw [hb];decide)]
 cases h1:blg k c.op
 ·rfl
 ·rw [if_neg (by decide)]
  cases h2:fit k sz c
  ·rfl
  ·rw [if_neg (by decide)]
   by_cases h3:(raw k sz ot t c).2.2.2=0
   ·rw [if_pos h3];simp
   ·rw [if_neg h3]
    have h4:((raw k sz ot t c).2.2.2==0)=false:=by simpa using h3
    simp [er,h3]
theorem cbad_rf (c:Cl):cbad c.rf=cbad c:=by
 unfold Cl.rf
 split<;>rfl
theorem i_inj {a b:Int} {h h':List O} (e:some (Res.val (.d (I' a)) h)=some (Res.val (.d (I' b)) h')):a=b:=by
 injection e with e;injection e with e;injection e with e;injection e
theorem eq_S (sz ot:Int) {t:S} (hq:t.Q=[]) (hs:t.sm):ckG 4 sz ot t=ckO 4 sz ot t:=by
 have h1:=ev_ckSq (I' 0) 4 sz ot t hs
 rw [ev_ckS (I' 0) 4 sz ot t hq hs] at h1
 exact (i_inj h1).symm
theorem eq_C (sz ot:Int) {t:S} (hq:t.Q=[]) (hs:t.sm):ckG 6 sz ot t=ckO 6 sz ot t:=by
 have h1:=ev_ckCq (I' 0) 6 sz ot t hs
 rw [ev_ckC (I' 0) 6 sz ot t hq hs] at h1
 exact (i_inj h1).symm
theorem eq_L (sz ot:Int) {t:S} (hq:t.Q=[]) (hs:t.sm):ckG 8 sz ot t=ckO 8 sz ot t:=by
 have h1:=ev_ckLq (I' 0) 8 sz ot t hs
 rw [ev_ckL (I' 0) 8 sz ot t hq hs] at h1
 exact (i_inj h1).symm
theorem eq_F (sz ot:Int) {t:S} (hq:t.Q=[]) (hs:t.sm):ckG 9 sz ot t=ckO 9 sz ot t:=by
 have h1:=ev_ckFq (I' 0) 9 sz ot t hs
 rw [ev_ckF (I' 0) 9 sz ot t hq] at h1
 exact (i_inj h1).symm
theorem rdyS (nm:D) (sz ot:Int) (s:S) (c:Cl) (hf:(s.ab true).fine) (h0:ckG 4 sz ot (s.ab true)=0) (hb:cbad c=false) :
  ev P (.call z_76 [.d (.ag [nm,I' 4,I' sz,I' ot]),.d (.ag (s.ab true).row),.d (.ag c.row)] [])=some (.val (.d (.b ((effF 4 sz ot (s.ab true).pl c).2.2.2==0))) []):=by
 have hck:=ev_ckSq nm 4 sz ot (s.ab true) hf.sm
 have e0:ck (nwS 4 sz ot) (okSq sz ot (s.ab true))=0:=h0
 rw [e0] at hck
 rw [eq_S sz ot rfl hf.sm] at h0
 have h1:ck (nwS 4 sz ot) (okS sz (s.ab true))=0:=h0
 have h2:=ck_zero (n:=nwS 4 sz ot) (b:=okS sz (s.ab true))
 rw [h1] at h2
 simp at h2
 obtain ⟨hn,hok⟩:=h2
 have hsz:1≤sz∧sz≤100:=by
  unfold nwS at hn
  split at hn
  ·cases hn
  ·split at hn
   ·cases hn
   ·rename_i h;simp at h;omega
 have hcnt:0≤s.cnt∧s.cnt≤sz:=by
  unfold okS S.ab at hok
  simp at hok
  omega
 have ha:absB 4 sz ot (s.ab true).pl=true:=by
  rw [absB_pl]
  unfold absB
  have e1:newO 4 sz ot=0:=hn
  have e2:ckO 4 (szO 4 sz) ot (vzO 4 (s.ab true))=0:=h0
  rw [e1,e2]
  rfl
 rw [en_eq ha hb]
 rw [rd_of z_74 z_76 (ev_SAp nm 4 sz ot s c hsz.2 hcnt hck) (.inl ⟨rfl,rfl⟩)]
 congr 4
 have er4:raw 4 sz ot (s.ab true).pl c=eS sz (s.ab true).pl c:=rfl
 have ecnt:(s.ab true).pl.cnt=s.cnt:=rfl
 rw [er4]
 unfold sCE blg fit eS
 rw [hb,ecnt]
 rw [Bool.eq_iff_iff]
 by_cases h60:c.op=60
 ·simp [h60,gd,er]
  split<;>rename_i h<;>simp at h ⊢<;>(try split)<;>(try simp)<;>omega
 ·by_cases h61:c.op=61
  ·simp [h61,gd,er]
   split<;>rename_i h<;>simp at h ⊢<;>(try split)<;>(try simp)<;>omega
  ·by_cases h62:c.op=62
   ·simp [h62,gd,er]
    split<;>rename_i h<;>simp at h ⊢<;>(try split)<;>(try simp)<;>omega
   ·simp [h60,h61,h62]
    omega
theorem rdyC (nm:D) (sz ot:Int) (s:S) (c:Cl) (hf:(s.ab true).fine) (h0:ckG 6 sz ot (s.ab true)=0) (hb:cbad c=false) (hz:sz≠0) (hcl:(c.op==64&&s.cl)=false) :
  ev P (.call z_86 [.d (.ag [nm,I' 6,I' sz,I' ot]),.d (.ag (s.ab true).row),.d (.ag c.row)] [])=some (.val (.d (.b ((effF 6 sz ot (s.ab true).pl c).2.2.2==0))) []):=by
 have hck:=ev_ckCq nm 6 sz ot (s.ab true) hf.sm
 have e0:ck (nwC 6 sz ot) (okCq sz (s.ab true))=0:=h0
 rw [e0] at hck
 rw [eq_C sz ot rfl hf.sm] at h0
 have h1:ck (nwC 6 sz ot) (okC sz (s.ab true))=0:=h0
 have h2:=ck_zero (n:=nwC 6 sz ot) (b:=okC sz (s.ab true))
 rw [h1] at h2
 simp at h2
 obtain ⟨hn,hok⟩:=h2
 have hsz:1≤sz∧sz≤100:=by
  unfold nwC at hn
  split at hn
  ·cases hn
  ·split at hn
   ·cases hn
   ·rename_i h;simp at h;omega
 have hr:rmz sz=sz:=by unfold rmz;split<;>omega
 have ha:absB 6 sz ot (s.ab true).pl=true:=by
  rw [absB_pl]
  unfold absB
  have e1:newO 6 sz ot=0:=hn
  have e2:ckO 6 (szO 6 sz) ot (vzO 6 (s.ab true))=0:=by
   have:szO 6 sz=sz:=hr
   rw [this];exact h0
  rw [e1,e2]
  rfl
 rw [en_eq ha hb]
 have hbn:s.bn=true→s.B=[]:=hf.wf.b
 have hbl:s.B.length≤120:=hf.b
 rw [rd_of z_84 z_86 (ev_CAp nm 6 sz ot s c hbn (by omega) hck) (.inr (.inl ⟨rfl,rfl⟩))]
 congr 4
 have er4:raw 6 sz ot (s.ab true).pl c=eC (rmz sz) (s.ab true).pl c:=rfl
 have eB:(s.ab true).pl.B=s.B:=rfl
 have ecl:(s.ab true).pl.cl=s.cl:=rfl
 rw [er4,hr]
 unfold cCE cPk blg fit eC
 rw [hb,eB,ecl]
 by_cases h64:c.op=64
 ·rw [h64] at hcl
  simp at hcl
  cases hnum:num c.value
  ·simp [h64,hnum]
  ·by_cases hl:sz≤(s.B.length:Int)
   ·simp [h64,hcl,hnum,hl,er]
   ·simp [h64,hcl,hnum,hl,gd]
 ·by_cases h65:c.op=65
  ·cases hBB:s.B with
   | nil=>cases hc:s.cl<;>simp [h65,er]
   | cons b r=>simp [h65]
  ·by_cases h66:c.op=66
   ·cases hc:s.cl<;>simp [h66,gd,er]
   ·have:(decide (64≤c.op)&&decide (c.op≤66))=false:=by simp;omega
    simp [h64,h65,h66,this]
theorem rdyF (nm:D) (sz ot:Int) (s:S) (c:Cl) (hf:(s.ab true).fine) (h0:ckG 9 sz ot (s.ab true)=0) (hb:cbad c=false) :
  ev P (.call z_101 [.d (.ag [nm,I' 9,I' sz,I' ot]),.d (.ag (s.ab true).row),.d (.ag c.row)] [])=some (.val (.d (.b ((effF 9 sz ot (s.ab true).pl c).2.2.2==0))) []):=by
 have hck:=ev_ckFq nm 9 sz ot (s.ab true) hf.sm
 have e0:ck (nwA 9 9 sz ot) (okFq (s.ab true))=0:=h0
 rw [e0] at hck
 rw [eq_F sz ot rfl hf.sm] at h0
 have h1:ck (nwA 9 9 sz ot) (okF (s.ab true))=0:=h0
 have h2:=ck_zero (n:=nwA 9 9 sz ot) (b:=okF (s.ab true))
 rw [h1] at h2
 simp at h2
 obtain ⟨hn,hok⟩:=h2
 have ha:absB 9 sz ot (s.ab true).pl=true:=by
  rw [absB_pl]
  unfold absB
  have e1:newO 9 sz ot=0:=hn
  have e2:ckO 9 (szO 9 sz) ot (vzO 9 (s.ab true))=0:=h0
  rw [e1,e2]
  rfl
 rw [en_eq ha hb]
 rw [rd_of z_99 z_101 (ev_FAp nm 9 sz ot s c hck) (.inr (.inr (.inr ⟨rfl,rfl⟩)))]
 congr 4
 have er4:raw 9 sz ot (s.ab true).pl c=eF (s.ab true).pl c:=rfl
 have ecl:(s.ab true).pl.cl=s.cl:=rfl
 rw [er4]
 unfold fCE blg fit eF
 rw [hb,ecl]
 by_cases h73:c.op=73
 ·cases hnum:num c.value<;>cases hc:s.cl<;>simp [h73,hnum,gd,er]
 ·by_cases h74:c.op=74
  ·cases hc:s.cl<;>simp [h74,er]
  ·have h73':(c.op==73)=false:=by simpa using h73
   have h74':(c.op==74)=false:=by simpa using h74
   simp [h73,h74,h73',h74']
theorem rdyL (nm:D) (sz ot:Int) (s:S) (c:Cl) (hf:(s.ab true).fine) (h0:ckG 8 sz ot (s.ab true)=0) (hb:cbad c=false) :
  ev P (.call z_96 [.d (.ag [nm,I' 8,I' sz,I' ot]),.d (.ag (s.ab true).row),.d (.ag c.row)] [])=some (.val (.d (.b ((effF 8 sz ot (s.ab true).pl c).2.2.2==0))) []):=by
 have hck:=ev_ckLq nm 8 sz ot (s.ab true) hf.sm
 have e0:ck (nwL 8 sz ot) (okLq sz (s.ab true))=0:=h0
 rw [e0] at hck
 rw [eq_L sz ot rfl hf.sm] at h0
 have h1:ck (nwL 8 sz ot) (okL sz (s.ab true))=0:=h0
 have h2:=ck_zero (n:=nwL 8 sz ot) (b:=okL sz (s.ab true))
 rw [h1] at h2
 simp at h2
 obtain ⟨hn,hok⟩:=h2
 have hsz:(1≤sz∧sz≤100)∧1≤ot∧ot≤1099511627776:=by
  unfold nwL at hn
  split at hn
  ·cases hn
  ·split at hn
   ·cases hn
   ·rename_i h;simp at h;omega
 have hst:0≤s.cnt∧s.cnt≤sz∧0≤s.time:=by
  unfold okL S.ab at hok
  simp at hok
  omega
 have ha:absB 8 sz ot (s.ab true).pl=true:=by
  rw [absB_pl]
  unfold absB
  have e1:newO 8 sz ot=0:=hn
  have e2:ckO 8 (szO 8 sz) ot (vzO 8 (s.ab true))=0:=h0
  rw [e1,e2]
  rfl
 rw [en_eq ha hb]
 rw [rd_of z_94 z_96 (ev_LAp nm 8 sz ot s c hsz.2 ⟨hst.1,hst.2.1,hsz.1.2⟩ hst.2.2 hck) (.inr (.inr (.inl ⟨rfl,rfl⟩)))]
 congr 4
 have er4:raw 8 sz ot (s.ab true).pl c=eL sz ot (s.ab true).pl c:=rfl
 have etm:(s.ab true).pl.time=s.time:=rfl
 have ecn:(rfS sz ot c.now (s.ab true).pl).cnt=(rfl0 sz ot c.now s).cnt:=by
  unfold rfS rfl0
  have e1:(s.ab true).pl.cnt=s.cnt:=rfl
  rw [e1,etm]
  by_cases h:sz≤s.cnt+(c.now - s.time) / ot
  ·simp [h]
  ·simp [h]
 rw [er4]
 unfold lCE blg fit eL
 rw [etm,ecn]
 generalize (rfl0 sz ot c.now s).cnt=n
 have hb':=hb
 unfold cbad at hb'
 simp at hb'
 have hnow:decide (1099511627776<c.now)=false:=by simp;omega
 rw [hnow]
 cases ht:decide (c.now<s.time)
 ·by_cases h72:c.op=72
  ·have hv:(decide (c.task<0)||decide (16≤c.task)||decide (c.prio<0)||decide (9<c.prio)||decide (c.value<1)||decide (sz<c.value))=!(decide (1≤c.value)&&decide (c.value≤sz)):=by
    rw [Bool.eq_iff_iff];simp;omega
   rw [hv]
   cases hvv:(decide (1≤c.value)&&decide (c.value≤sz))
   ·simp [h72]
   ·cases hlt:decide (n<c.value)<;>simp [h72,gd,er]
  ·by_cases h75:c.op=75
   ·simp [h75,gd]
   ·have h72':(c.op==72)=false:=by simpa using h72
    have h75':(c.op==75)=false:=by simpa using h75
    simp [h72,h75,h72',h75']
 ·by_cases h72:c.op=72
  ·simp [h72,er]
  ·by_cases h75:c.op=75
   ·simp [h75,er]
   ·have h72':(c.op==72)=false:=by simpa using h72
    have h75':(c.op==75)=false:=by simpa using h75
    simp [h72,h75,h72',h75']
end Go.VS.Sp
namespace Go.VS.M
open Go.VS.Sp
theorem mnew_iff {k sz ot:Int}:mnew k sz ot=0↔k=1∧sz=0∧ot=0:=by
 unfold mnew
 by_cases h1:k=1
 ·by_cases h2:sz=0∧ot=0
  ·obtain ⟨rfl,rfl⟩:=h2;simp [h1]
  ·have:(sz != 0||ot != 0)=true:=by simp;omega
   simp [h1,this];exact fun h=>fun h'=>h2 ⟨h,h'⟩
 ·simp [h1]
def appT (k sz ot own cnt time:Int) (hs:List Int) (q:List Sp.W) (bs:List Int) (cs:List (List D)) (cl:Bool) (val:Int) (o t p:Int):Rp :=
 if mnew k sz ot=0 then (if mvalid own cnt time hs q bs cs cl val=true then applyS own q o t p else zr 1) else zr (mnew k sz ot)
theorem ev_mApply (nm:D) (k sz ot own cnt time:Int) (hn:Bool) (hs:List Int) (qn:Bool) (q:List Sp.W) (bn:Bool) (bs:List Int) (cn:Bool) (cs:List (List D)) (cl:Bool) (val:Int) (t o v p n:Int)
  (h1:hs.length≤1000000) (h2:q.length≤1000000) (h3:bs.length≤1000000) (h4:cs.length≤1000000) (hnl:qn=true→q=[]) :
  Rets (ev P (.call z_64 [.d (.ag [nm,I' k,I' sz,I' ot]),.d (.ag [I' own,I' cnt,I' time,hD hn hs,qD qn q,hD bn bs,cD cn cs,.b cl,I' val]),.d (.ag [I' t,I' o,I' v,I' p,I' n])] []))
   (appT k sz ot own cnt time hs q bs cs cl val o t p):=by
 have hC:=ev_mCheck nm k sz ot own cnt time hn hs qn q bn bs cn cs cl val h1 h2 h3 h4
 unfold appT
 by_cases hm:mnew k sz ot=0
 ·rw [if_pos hm] at hC ⊢
  by_cases hv:mvalid own cnt time hs q bs cs cl val=true
  ·rw [if_pos hv]
   obtain ⟨⟨rfl,rfl,rfl,rfl,rfl,rfl,rfl⟩,hl,m⟩:=mvalid_iff.1 hv
   obtain ⟨rfl,rfl,rfl⟩:=mnew_iff.1 hm
   exact ev_mApply1 nm hn qn bn cn own q t o v p n hnl h2 m.desc hv
  ·rw [if_neg hv] at hC ⊢
   exact ev_mApply0 _ _ _ _ _ _ _ _ _ _ _ _ _ _ _ _ _ _ 1 (by decide) hC
 ·rw [if_neg hm] at hC ⊢
  exact ev_mApply0 _ _ _ _ _ _ _ _ _ _ _ _ _ _ _ _ _ _ _ hm hC
theorem ev_mReady {o s c:List D} {r:Rp} (ho:o.length=4) (hs:s.length=9) (hc:c.length=5) (h:Rets (ev P (.call z_64 [.d (.ag o),.d (.ag s),.d (.ag c)] [])) r) :
  ev P (.call z_66 [.d (.ag o),.d (.ag s),.d (.ag c)] [])=some (.val (.d (.b (r.e==0&&!r.parked))) []):=by
 obtain ⟨hn,qn,bn,cn,wn,he,_⟩:=h
 rw [ev_call P_z_66 rfl]
 have t1:List.take 4 o=o:=List.take_of_length_le (by omega)
 have t2:List.take 9 s=s:=List.take_of_length_le (by omega)
 have t3:List.take 5 c=c:=List.take_of_length_le (by omega)
 simp [F_z_66,ho,hs,hc,he,allD_map',t1,t2,t3]
def ps:List (List D):=[[I' 0],[I' 0],[I' 5],[I' 5]]
end Go.VS.M
namespace Go.VS.Sp
theorem eq_M (sz ot:Int) {t:S} (hq:t.Q=[]) (hf:t.fine):ckG 1 sz ot t=ckO 1 sz ot t:=by
 have h1:=ev_ckMq (I' 0) 1 sz ot t hf
 rw [ev_ckM (I' 0) 1 sz ot t hq hf.sm] at h1
 exact (i_inj h1).symm
theorem eq_W (sz ot:Int) {t:S} (hq:t.Q=[]) (hf:t.fine):ckG 2 sz ot t=ckO 2 sz ot t:=by
 have h1:=ev_ckWq (I' 0) 2 sz ot t hf
 rw [ev_ckW (I' 0) 2 sz ot t hq hf.sm] at h1
 exact (i_inj h1).symm
theorem rdyM (nm:D) (sz ot:Int) (s:S) (c:Cl) (hf:(s.ab true).fine) (h0:ckG 1 sz ot (s.ab true)=0) (hb:cbad c=false) :
  ev P (.call z_66 [.d (.ag [nm,I' 1,I' sz,I' ot]),.d (.ag (s.ab true).row),.d (.ag c.row)] [])=some (.val (.d (.b ((effF 1 sz ot (s.ab true).pl c).2.2.2==0))) []):=by
 have h00:ck (nwA 1 1 sz ot) (okMq (s.ab true))=0:=h0
 have h01:=ck_zero (n:=nwA 1 1 sz ot) (b:=okMq (s.ab true))
 rw [h00] at h01
 simp at h01
 obtain ⟨hmn,hmv⟩:=h01
 rw [eq_M sz ot rfl hf] at h0
 have hown:s.own = -1∨0≤s.own:=by
  have h02:=ck_zero (n:=nwA 1 1 sz ot) (b:=okM (s.ab true))
  have h03:ck (nwA 1 1 sz ot) (okM (s.ab true))=0:=h0
  rw [h03] at h02
  simp at h02
  have h:=h02.2
  unfold okM isTask S.ab at h
  simp at h
  omega
 have ha:absB 1 sz ot (s.ab true).pl=true:=by
  rw [absB_pl]
  unfold absB
  have e1:newO 1 sz ot=0:=hmn
  have e2:ckO 1 (szO 1 sz) ot (vzO 1 (s.ab true))=0:=h0
  rw [e1,e2]
  rfl
 rw [en_eq ha hb]
 have hsm:=hf.sm
 have hA:=M.ev_mApply nm 1 sz ot (s.ab true).own (s.ab true).cnt (s.ab true).time (s.ab true).hn (s.ab true).H (s.ab true).qn (s.ab true).Q (s.ab true).bn (s.ab true).B (s.ab true).cn ((s.ab true).C.map K.row) (s.ab true).cl (s.ab true).val c.task c.op c.value c.prio c.now hsm.h hsm.q hsm.b (by have:=hsm.c;simpa using this) (fun _=>rfl)
 have e1:M.appT 1 sz ot (s.ab true).own (s.ab true).cnt (s.ab true).time (s.ab true).H (s.ab true).Q (s.ab true).B ((s.ab true).C.map K.row) (s.ab true).cl (s.ab true).val c.op c.task c.prio=M.applyS s.own [] c.op c.task c.prio:=by
  unfold M.appT
  have:M.mnew 1 sz ot=0:=hmn
  rw [if_pos this]
  have:M.mvalid (s.ab true).own (s.ab true).cnt (s.ab true).time (s.ab true).H (s.ab true).Q (s.ab true).B ((s.ab true).C.map K.row) (s.ab true).cl (s.ab true).val=true:=hmv
  rw [if_pos this]
  rfl
 rw [e1] at hA
 have hR:=M.ev_mReady (by rfl) (by rfl) (by rfl) hA
 refine hR.trans ?_
 congr 4
 have er4:raw 1 sz ot (s.ab true).pl c=eM (s.ab true).pl c:=rfl
 have eo:(s.ab true).pl.own=s.own:=rfl
 rw [er4]
 have hb':=hb
 unfold cbad at hb'
 simp at hb'
 have hbad:(!M.isTask c.task||decide (c.prio<0)||decide (9<c.prio))=false:=by
  unfold M.isTask
  simp
  omega
 unfold M.applyS blg fit eM
 rw [hbad,eo]
 by_cases h50:c.op=50
 ·unfold M.lockS
  cases o1:s.own == -1
  ·cases o2:s.own==c.task<;>simp [h50,o1,o2,er,M.zr]
  ·simp [h50,o1,gd]
 ·by_cases h51:c.op=51
  ·unfold M.tryS
   rcases hown with h | h
   ·simp [h51,h,M.lockS,gd]
   ·have o1:(s.own == -1)=false:=by simp;omega
    simp [h51,h,o1,er]
  ·by_cases h52:c.op=52
   ·unfold M.unlockS
    cases o1:s.own==c.task
    ·have:(s.own != c.task)=true:=by simp at o1;simpa using o1
     simp [h52,o1,this,er,M.zr]
    ·have:(s.own != c.task)=false:=by simp at o1;simpa using o1
     simp [h52,o1,this,gd]
   ·have:(decide (50≤c.op)&&decide (c.op≤52))=false:=by simp;omega
    simp [h50,h51,h52,this,M.zr]
theorem rdyW (nm:D) (sz ot:Int) (s:S) (c:Cl) (hf:(s.ab true).fine) (h0:ckG 2 sz ot (s.ab true)=0) (hb:cbad c=false) :
  ev P (.call z_71 [.d (.ag [nm,I' 2,I' sz,I' ot]),.d (.ag (s.ab true).row),.d (.ag c.row)] [])=some (.val (.d (.b ((effF 2 sz ot (s.ab true).pl c).2.2.2==0))) []):=by
 have h00:ck (nwA 2 2 sz ot) (okWq (s.ab true))=0:=h0
 have h01:=ck_zero (n:=nwA 2 2 sz ot) (b:=okWq (s.ab true))
 rw [h00] at h01
 simp at h01
 obtain ⟨hmn,hmv⟩:=h01
 rw [eq_W sz ot rfl hf] at h0
 have h02:=ck_zero (n:=nwA 2 2 sz ot) (b:=okW (s.ab true))
 have h03:ck (nwA 2 2 sz ot) (okW (s.ab true))=0:=h0
 rw [h03] at h02
 simp at h02
 have hH:s.own = -1∨s.H=[]:=by
  have h:=h02.2
  unfold okW okWb S.ab at h
  simp at h
  rcases h.1.1.1.1.1.1.1 with h | h
  ·exact .inl h
  ·exact .inr h.2
 have ha:absB 2 sz ot (s.ab true).pl=true:=by
  rw [absB_pl]
  unfold absB
  have e1:newO 2 sz ot=0:=hmn
  have e2:ckO 2 (szO 2 sz) ot (vzO 2 (s.ab true))=0:=h0
  rw [e1,e2]
  rfl
 rw [en_eq ha hb]
 have hl:(s.ab true).H.length≤40:=hf.h
 have hR:=R.ev_mReady nm 2 sz ot (s.ab true).own (s.ab true).cnt (s.ab true).time (s.ab true).hn (s.ab true).H (s.ab true).qn (s.ab true).Q (s.ab true).bn (s.ab true).B (s.ab true).cn ((s.ab true).C.map K.row) (s.ab true).cl (s.ab true).val c.task c.op c.value c.prio c.now hf.wf.h (fun _=>rfl) (by omega) (Nat.zero_le _)
 have e1:R.apS 2 sz ot (s.ab true).own (s.ab true).cnt (s.ab true).time (s.ab true).H (s.ab true).Q (s.ab true).B ((s.ab true).C.map K.row) (s.ab true).cl (s.ab true).val c.task c.op c.prio c.now=R.apV s.own s.H [] c.task c.op c.prio c.now:=by
  unfold R.apS
  have:R.ckd 2 sz ot (s.ab true).own (s.ab true).cnt (s.ab true).time (s.ab true).H (s.ab true).Q (s.ab true).B ((s.ab true).C.map K.row) (s.ab true).cl (s.ab true).val=0:=h00
  rw [if_pos this]
  rfl
 rw [e1] at hR
 refine hR.trans ?_
 congr 4
 have er4:raw 2 sz ot (s.ab true).pl c=eW (s.ab true).pl c:=rfl
 have eo:(s.ab true).pl.own=s.own:=rfl
 have eH:(s.ab true).pl.H=s.H:=rfl
 rw [er4]
 have hb':=hb
 unfold cbad at hb'
 simp at hb'
 have hbad:R.badC c.task c.prio c.now=false:=by
  unfold R.badC R.isTask
  simp
  omega
 have ht:0≤c.task:=by omega
 unfold R.apV blg fit eW
 rw [hbad,eo,eH]
 unfold R.hld
 by_cases h53:c.op=53
 ·unfold R.lockS R.posB
  by_cases o1:c.task=s.own
  ·simp [h53,←o1,ht,er,R.zr]
  ·have o1':¬s.own=c.task:=fun h=>o1 h.symm
   by_cases o2:c.task∈s.H
   ·simp [h53,o1,o1',o2,ht,er,R.zr]
   ·cases o3:s.own == -1<;>simp [h53,o1,o1',o2,o3,ht,er,gd,R.zr]
 ·by_cases h55:c.op=55
  ·unfold R.lockS R.posB
   by_cases o1:c.task=s.own
   ·simp [h55,←o1,ht,er,R.zr]
   ·have o1':¬s.own=c.task:=fun h=>o1 h.symm
    by_cases o2:c.task∈s.H
    ·simp [h55,o1,o1',o2,ht,er,R.zr]
    ·by_cases o4:s.H=[]
     ·cases o3:s.own == -1<;>simp [h55,o1,o1',o3,o4,ht,er,gd,R.zr]
     ·have o5:0<s.H.length:=List.length_pos_iff.2 o4
      cases o3:s.own == -1<;>simp [h55,o1,o1',o2,o3,o4,o5,ht,er,gd,R.zr]
  ·by_cases h54:c.op=54
   ·by_cases o1:c.task=s.own
    ·have hm:¬c.task∈s.H:=by
      rcases hH with h | h
      ·omega
      ·rw [h];simp
     simp [h54,←o1,hm,ht,er,R.zr]
    ·by_cases o2:c.task∈s.H<;>simp [h54,o1,o2,ht,er,gd,R.zr]
   ·by_cases h56:c.op=56
    ·by_cases o1:c.task=s.own
     ·simp [h56,←o1,ht,gd]
     ·have o1':¬s.own=c.task:=fun h=>o1 h.symm
      by_cases o2:c.task∈s.H<;>simp [h56,o1,o1',o2,ht,er,R.zr]
    ·have:(decide (53≤c.op)&&decide (c.op≤56))=false:=by simp;omega
     have h2:(decide (c.op<53)||decide (56<c.op))=true:=by simp;omega
     simp [this,h2,R.zr]
end Go.VS.Sp
namespace Go.VS.Sp
end Go.VS.Sp
namespace Go.VS.Sp
def tcbad (task prio now:Int):Bool:=decide (task<0)||decide (16≤task)||decide (prio<0)||decide (9<prio)||decide (now<0)||decide (1099511627776<now)
def callE (s:S) (task op value prio now:Int):Int :=
 if tcbad task prio now=true then 2 else if (op==68||op==69||op==70||op==71)=false then 8 else
 if (op==68&&!num value)=true then 2 else if (s.Q.any fun w=>w.task==task)=true then 17 else
 if (op==69&&decide (0≤fnd s.C task))=true then 6 else if ((op==71||op==70)&&!decide (0≤fnd s.C task))=true then 20 else 0
theorem ev_call23 (s:S) (hs:s.sm) (task op value prio now:Int) :
  ev P (.call z_164 [.d (.ag s.row),.d (.ag [I' task,I' op,I' value,I' prio,I' now])] [])=some (.val (.d (I' (callE s task op value prio now))) []):=by
 have hF:=ev_wFind s.qn s.Q task hs.q
 rw [fd_any] at hF
 have hfd:=ev_find (I' s.own) (I' s.cnt) (I' s.time) (hD s.hn s.H) (qD s.qn s.Q) (hD s.bn s.B) (.b s.cl) (I' s.val) s.cn s.C task hs.c
 have hN:=ev_number value
 unfold callE
 generalize (s.Q.any fun w=>w.task==task)=a at *
 generalize (fdS s.Q task).1=fi at *
 generalize fnd s.C task=fk at *
 generalize num value=nv at *
 rw [ev_call P_z_164 rfl]
 cases hb:(decide (task<0)||decide (16≤task)||decide (prio<0)||decide (9<prio)||decide (now<0)||decide (1099511627776<now))
 ·have hb2:tcbad task prio now=false:=hb
  rw [hb2]
  by_cases h68:op=68
  ·subst h68
   cases nv<;>cases a<;>simp [F_z_164,hb,hN,hF,hfd]
  ·have h68b:(op==68)=false:=by simp [h68]
   by_cases h69:op=69
   ·subst h69
    cases a
    ·by_cases hk:0≤fk<;>simp [F_z_164,hb,hF,hfd,hk]
    ·simp [F_z_164,hb,hF,hfd]
   ·have h69b:(op==69)=false:=by simp [h69]
    by_cases h70:op=70
    ·subst h70
     cases a
     ·by_cases hk:0≤fk<;>simp [F_z_164,hb,hF,hfd,hk]
     ·simp [F_z_164,hb,hF,hfd]
    ·have h70b:(op==70)=false:=by simp [h70]
     by_cases h71:op=71
     ·subst h71
      cases a
      ·by_cases hk:0≤fk<;>simp [F_z_164,hb,hF,hfd,hk]
      ·simp [F_z_164,hb,hF,hfd]
     ·have h71b:(op==71)=false:=by simp [h71]
      simp [F_z_164,hb,h68b,h69b,h70b,h71b]
 ·have hb2:tcbad task prio now=true:=hb
  simp [F_z_164,hb,hb2]
structure Z where
 o:D
 c:D
 t:D
 h:D
 b:D
 l:D
 v:D
structure tWk where
 task:Int
 op:Int
 value:Int
 deriving DecidableEq
def tWk.row (w:tWk):List D:=[I' w.task,I' w.op,I' w.value,.b true,I' (-1)]
inductive Wo where
 | nil
 | a0 (l:List tWk)
 | a1 (l:List tWk)
def lkV (z:Z) (sz:Int) (q c w:V):O:=.arrV 11 [[.d (I' sz),.d z.o,.d z.c,.d z.t,.d z.h,q,.d z.b,c,.d z.l,.d z.v,w]]
def lkD (z:Z) (sz:Int) (q c w:D):O:=.arrD 11 true [[I' sz,z.o,z.c,z.t,z.h,q,z.b,c,z.l,z.v,w]]
def hB (z:Z) (sz:Int) (q:D) (C:List K):Option (List (List D))→Wo→List O
 | none,.nil=>[lkD z sz q (.sl 2 true []) (.sl 5 true [])]
 | none,.a0 l=>[lkV z sz (.d q) (.d (.sl 2 true [])) (.asl 1 0 l.length),.arrD 5 true (l.map tWk.row)]
 | none,.a1 l=>[lkV z sz (.d q) (.d (.sl 2 true [])) (.asl 2 0 l.length),.dead,.arrD 5 true (l.map tWk.row)]
 | some T,.nil=>[lkV z sz (.d q) (.asl 1 0 C.length) (.d (.sl 5 true [])),.arrD 2 true (C.map K.row++T)]
 | some T,.a0 l=>[lkV z sz (.d q) (.asl 1 0 C.length) (.asl 2 0 l.length),.arrD 2 true (C.map K.row++T),.arrD 5 true (l.map tWk.row)]
 | some T,.a1 l=>[lkV z sz (.d q) (.asl 1 0 C.length) (.asl 3 0 l.length),.arrD 2 true (C.map K.row++T),.dead,.arrD 5 true (l.map tWk.row)]
theorem trg2:List.range 2=[0,1]:=rfl
theorem trg3:List.range 3=[0,1,2]:=rfl
theorem trg4:List.range 4=[0,1,2,3]:=rfl
theorem rg5:List.range 5=[0,1,2,3,4]:=rfl
theorem ev_wake0 (z:Z) (sz:Int) (q:D) (C:List K) (cs) (t op v p k x:Int) :
  ev P (.call z_240 [.loc 0 0 0,.d (.ag [I' t,I' op,I' v,I' p,I' k]),.d (I' x)] (hB z sz q C cs .nil))=some (.val (.tu []) (hB z sz q C cs (.a0 [⟨t,op,x⟩]))):=by
 have hr:1≤room:=by unfold room;omega
 rw [ev_call P_z_240 rfl]
 rcases cs with _ | T<;>simp [F_z_240,hB,lkD,lkV,tWk.row,reachC,cut,trg2,trg3,trg4,List.idxOf_cons,endH,hr,V.same_self]
theorem ev_wake1 (z:Z) (sz:Int) (q:D) (C:List K) (cs) (l:List tWk) (t op v p k x:Int) (hl:l.length≤1000000) :
  ev P (.call z_240 [.loc 0 0 0,.d (.ag [I' t,I' op,I' v,I' p,I' k]),.d (I' x)] (hB z sz q C cs (.a0 l)))=some (.val (.tu []) (hB z sz q C cs (.a1 (l++[⟨t,op,x⟩])))):=by
 have hr:l.length+1≤room:=by unfold room;omega
 rw [ev_call P_z_240 rfl]
 rcases cs with _ | T<;>simp [F_z_240,hB,lkD,lkV,tWk.row,reachC,cut,trg2,trg3,trg4,rg5,List.idxOf_cons,endH,hr,V.same_self,take_map_len,Nat.not_succ_le_self]
end Go.VS.Sp
namespace Go.VS.Sp
theorem ev_Clone (nl:Bool) (q:List W) (hnl:nl=true→q=[]) (hn:q.length≤1000000) :
  ev P (.call z_153 [.d (qD nl q)] [])=if nl=true then some (.val (.d (.sl 5 true [])) []) else some (.val (.asl 0 0 q.length) [.arrD 5 true (q.map W.row)]):=by
 rw [ev_call P_z_153 rfl]
 cases nl
 ·have hr:q.length≤room:=by unfold room;omega
  cases q with
  | nil=>simp [F_z_153,mkRows,allDs,reachC,cut,endH]
  | cons a r =>
   simp at hr
   simp [F_z_153,mkRows,allDs,reachC,cut,hr,endH]
 ·simp [F_z_153,endH]
theorem tev_CloneK (nl:Bool) (q:List K) (hnl:nl=true→q=[]) (hn:q.length≤1000000) :
  ev P (.call z_236 [.d (cD nl q)] [])=if nl=true then some (.val (.d (.sl 2 true [])) []) else some (.val (.asl 0 0 q.length) [.arrD 2 true (q.map K.row)]):=by
 rw [ev_call P_z_236 rfl]
 cases nl
 ·have hr:q.length≤room:=by unfold room;omega
  cases q with
  | nil=>simp [F_z_236,mkRows,allDs,reachC,cut,endH]
  | cons a r =>
   simp at hr
   simp [F_z_236,mkRows,allDs,reachC,cut,hr,endH]
 ·simp [F_z_236,endH]
def tgB (z:Z) (sz:Int) (qn:Bool) (Q:List W) (cn:Bool) (C:List K):List O :=
 match qn,cn with
 | true,true=>[lkD z sz (.sl 5 true []) (.sl 2 true []) (.sl 5 true [])]
 | true,false=>[lkV z sz (.d (.sl 5 true [])) (.asl 1 0 C.length) (.d (.sl 5 true [])),.arrD 2 true (C.map K.row)]
 | false,true=>[lkV z sz (.asl 1 0 Q.length) (.d (.sl 2 true [])) (.d (.sl 5 true [])),.arrD 5 true (Q.map W.row)]
 | false,false=>[lkV z sz (.asl 1 0 Q.length) (.asl 2 0 C.length) (.d (.sl 5 true [])),.arrD 5 true (Q.map W.row),.arrD 2 true (C.map K.row)]
theorem ev_begin (z:Z) (x0 x1 x3:D) (sz:Int) (qn:Bool) (Q:List W) (cn:Bool) (C:List K) (h1:qn=true→Q=[]) (h2:cn=true→C=[]) (h3:Q.length≤1000000) (h4:C.length≤1000000) :
  ev P (.call z_165 [.d (.ag [x0,x1,I' sz,x3]),.d (.ag [z.o,z.c,z.t,z.h,qD qn Q,z.b,cD cn C,z.l,z.v])] [])=some (.val (.loc 0 0 0) (tgB z sz qn Q cn C)):=by
 have hC:=tev_CloneK cn C h2 h4
 have hD':=ev_Clone qn Q h1 h3
 rw [ev_call P_z_165 rfl]
 cases qn<;>cases cn<;>simp at hC hD' <;>
  simp [F_z_165,hC,hD',callD,mkRows,allDs,V.same_self,tgB,lkD,lkV,reachC,cut,trg2,trg3,trg4,rg5,List.idxOf_cons,endH,overlay]
end Go.VS.Sp
namespace Go.VS.Sp
theorem tev_CloneI (nl:Bool) (q:List Int) (hnl:nl=true→q=[]) (hn:q.length≤1000000) :
  ev P (.call z_214 [.d (hD nl q)] [])=if nl=true then some (.val (.d (.sl 1 true [])) []) else some (.val (.asl 0 0 q.length) [.arrD 1 true (rows1 q)]):=by
 rw [ev_call P_z_214 rfl]
 cases nl
 ·have hr:q.length≤room:=by unfold room;omega
  cases q with
  | nil=>simp [F_z_214,mkRows,allDs,reachC,cut,endH]
  | cons a r =>
   simp at hr
   simp [F_z_214,mkRows,allDs,reachC,cut,hr,endH]
 ·simp [F_z_214,endH]
theorem take_snoc {α β:Type} {f:α→β} {r:List α} {x:β}:List.take (r.length+1) (r.map f++[x])=r.map f++[x]:=List.take_of_length_le (by simp)
theorem set_mid {α:Type} {A B:List α} {x y:α} {n:Nat} (h:A.length=n):(A++x::B).set n y=A++y::B:=by
 subst h;simp
theorem get_mid {α:Type} {A B:List α} {x:α} {n:Nat} (h:A.length=n):(A++x::B)[n]?=some x:=by
 subst h;simp
inductive Hs where
 | b0
 | b1 (l:List tWk)
 | c (Q:List W)
def hX (z:Z) (sz:Int) (q:D) (n:Nat) (R:List (List D)):Hs→List O
 | .b0=>[lkV z sz (.d q) (.asl 1 0 n) (.d (.sl 5 true [])),.arrD 2 true R]
 | .b1 l=>[lkV z sz (.d q) (.asl 1 0 n) (.asl 2 0 l.length),.arrD 2 true R,.arrD 5 true (l.map tWk.row)]
 | .c Q=>[lkV z sz (.d q) (.asl 2 0 n) (.d (.sl 5 true [])),.arrD 5 false (Q.map W.row),.arrD 2 true R]
def Hs.m:Hs→Nat
 | .b0=>2
 | .b1 _=>3
 | .c _=>3
def pubK (Q:List W) (v:Int) (c:K):K:=if wts Q c.task 70=true then c else ⟨c.task,false,c.log++[v]⟩
theorem loop_pub0 (z:Z) (sz:Int) (qn:Bool) (Q:List W) (v:Int) (n:Nat) (T:List (List D)) (sh:Hs) (hq:Q.length≤1000000) (hn:n≤1000000):∀(suf:List K) (A:List (List D)),A.length+suf.length=n →
  (∀c∈suf,(c.nl=true→c.log=[])∧c.log.length≤100000) →
  ev P (.loop sh.m [0,1,14,15] F_z_176_L0 [(0,.loc 0 0 0),(1,.d (I' v)),(14,.d (I' n)),(15,.d (I' A.length))] (hX z sz (qD qn Q) n (A++(suf.map K.row++T)) sh)) =
   some (.out (.exit 0) [(0,.loc 0 0 0),(1,.d (I' v))] (hX z sz (qD qn Q) n (A++((suf.map (pubK Q v)).map K.row++T)) sh)):=by
 intro suf
 induction suf with
 | nil =>
  intro A hl _
  have:n=A.length:=by simp at hl;exact hl.symm
  rw [ev_loop]
  conv=>lhs;arg 4;unfold F_z_176_L0
  cases sh<;>simp [this,hX,Hs.m,lkV,reachC,cut,trg2,trg3,List.idxOf_cons]
 | cons c suf ih =>
  intro A hl hc
  have hlt:(A.length:Int)<n:=by simp at hl;omega
  have hlt2:A.length<n:=by simp at hl;omega
  have hnext:IntKind.i64.wrap ((A.length:Int)+1)=A.length+1:=wrap_i64 (by omega) (by omega)
  have hC:=tev_CloneI c.nl c.log (hc c (by simp)).1 (by have:=(hc c (by simp)).2;omega)
  have hr:c.log.length+1≤room:=by have:=(hc c (by simp)).2;unfold room;omega
  have hrow:c.row=[I' c.task,hD c.nl c.log]:=rfl
  have hw:∀d0 d1 d2 d3 d5 d6 d7 d8:D,ev P (.call z_243 [.d (.ag [d0,d1,d2,d3,qD qn Q,d5,d6,d7,d8]),.d (I' c.task),.d (I' 70)] [])=some (.val (.d (.b (wts Q c.task 70))) []):=fun d0 d1 d2 d3 d5 d6 d7 d8=>ev_waiting d0 d1 d2 d3 d5 d6 d7 d8 qn Q c.task 70 hq
  have e0:A++((c::suf).map K.row++T)=A++c.row::(suf.map K.row++T):=by simp
  have e1:A++(((c::suf).map (pubK Q v)).map K.row++T)=A++[(pubK Q v c).row]++((suf.map (pubK Q v)).map K.row++T):=by simp
  have ih':=ih (A++[(pubK Q v c).row]) (by simp at hl ⊢;omega) (fun x hx=>hc x (by simp [hx]))
  rw [e0,e1,←ih']
  have e2:A++[(pubK Q v c).row]++(suf.map K.row++T)=A++(pubK Q v c).row::(suf.map K.row++T):=by simp
  rw [e2]
  have hB:n≤A.length+((suf.map K.row++T).length+1):=by simp at hl ⊢;omega
  generalize suf.map K.row++T=B at *
  have hgm:=get_mid (A:=A) (B:=B) (x:=c.row) (n:=A.length) rfl
  have hsm:=fun y=>set_mid (A:=A) (B:=B) (x:=c.row) (y:=y) (n:=A.length) rfl
  simp only [List.length_append,List.length_singleton]
  generalize hR:ev P (.loop sh.m [0,1,14,15] F_z_176_L0 [(0,.loc 0 0 0),(1,.d (I' v)),(14,.d (I' n)),(15,.d (I' (A.length+1:Nat)))] (hX z sz (qD qn Q) n (A++(pubK Q v c).row::B) sh))=R
  rw [ev_loop]
  conv=>lhs;arg 4;unfold F_z_176_L0
  cases hwt:wts Q c.task 70
  ·have hp:pubK Q v c=⟨c.task,false,c.log++[v]⟩:=by simp [pubK,hwt]
   rw [hp] at hR
   have hrow2:K.row ⟨c.task,false,c.log++[v]⟩=[I' c.task,.sl 1 false (rows1 (c.log++[v]))]:=rfl
   rw [hrow2] at hR
   have hw':=hw
   rw [hwt] at hw'
   cases hnl:c.nl
   ·rw [hnl] at hC hrow
    rw [hrow] at hgm hsm
    simp at hR hC
    cases sh
    all_goals
     simp [hX,Hs.m,lkV] at hR
     simp [hlt,hlt2,hgm,hrow,hw',hX,Hs.m,lkV,reachC,cut,trg2,trg3,List.idxOf_cons,hnext,hB,hC,callD,hr,hsm,take_map_len,take_snoc,thaw,freezeAll,freeze1,Nat.not_succ_le_self,hR]
   ·rw [hnl] at hC hrow
    have hlg:=(hc c (by simp)).1 hnl
    rw [hlg] at hrow hC hR
    rw [hrow] at hgm hsm
    simp at hR hC
    have h1:1≤room:=by unfold room;omega
    cases sh
    all_goals
     simp [hX,Hs.m,lkV] at hR
     simp [hlt,hlt2,hgm,hrow,hw',hX,Hs.m,lkV,reachC,cut,trg2,trg3,List.idxOf_cons,hnext,hB,hC,callD,h1,hsm,take_map_len,take_snoc,thaw,freezeAll,freeze1,Nat.not_succ_le_self,hR]
  ·have hp:pubK Q v c=c:=by simp [pubK,hwt]
   rw [hp] at hR
   have hw':=hw
   rw [hwt] at hw'
   rw [hrow] at hgm hR
   simp at hR
   cases sh
   all_goals
    simp [hX,Hs.m,lkV] at hR
    simp [hlt,hlt2,hgm,hrow,hw',hX,Hs.m,lkV,reachC,cut,trg2,trg3,List.idxOf_cons,hnext,hB,hR]
end Go.VS.Sp
namespace Go.VS.Sp
inductive Hk where
 | w0
 | w1 (l:List tWk)
 | wc (Q:List W)
def bH (z:Z) (sz:Int) (q:D) (C:List K) (i:Nat):Option (List (List D))→Hk→List tWk→List O
 | none,.w0,[]=>[lkD z sz q (.sl 2 true []) (.sl 5 true [])]
 | none,.w0,a::l=>[lkV z sz (.d q) (.d (.sl 2 true [])) (.asl (1+i) 0 (a::l).length)]
 | none,.w1 l,[]=>[lkV z sz (.d q) (.d (.sl 2 true [])) (.asl 1 0 l.length),.arrD 5 true (l.map tWk.row)]
 | none,.w1 l,a::r=>[lkV z sz (.d q) (.d (.sl 2 true [])) (.asl (2+i) 0 (l++a::r).length),.dead]
 | none,.wc Q,[]=>[lkD z sz q (.sl 2 true []) (.sl 5 true []),.arrD 5 false (Q.map W.row)]
 | none,.wc Q,a::l=>[lkV z sz (.d q) (.d (.sl 2 true [])) (.asl (2+i) 0 (a::l).length),.arrD 5 false (Q.map W.row)]
 | some T,.w0,[]=>[lkV z sz (.d q) (.asl 1 0 C.length) (.d (.sl 5 true [])),.arrD 2 true (C.map K.row++T)]
 | some T,.w0,a::l=>[lkV z sz (.d q) (.asl 1 0 C.length) (.asl (2+i) 0 (a::l).length),.arrD 2 true (C.map K.row++T)]
 | some T,.w1 l,[]=>[lkV z sz (.d q) (.asl 1 0 C.length) (.asl 2 0 l.length),.arrD 2 true (C.map K.row++T),.arrD 5 true (l.map tWk.row)]
 | some T,.w1 l,a::r=>[lkV z sz (.d q) (.asl 1 0 C.length) (.asl (3+i) 0 (l++a::r).length),.arrD 2 true (C.map K.row++T),.dead]
 | some T,.wc Q,[]=>[lkV z sz (.d q) (.asl 2 0 C.length) (.d (.sl 5 true [])),.arrD 5 false (Q.map W.row),.arrD 2 true (C.map K.row++T)]
 | some T,.wc Q,a::l=>[lkV z sz (.d q) (.asl 2 0 C.length) (.asl (3+i) 0 (a::l).length),.arrD 5 false (Q.map W.row),.arrD 2 true (C.map K.row++T)]
def fH:Hk→List tWk→List O
 | _,[]=>[]
 | .w1 l,a::r=>[.arrD 5 true ((l++a::r).map tWk.row)]
 | _,a::r=>[.arrD 5 true ((a::r).map tWk.row)]
def oV:List W→Nat→V
 | [],_=>.d (.sl 5 true [])
 | a::l,i=>.asl i 0 (a::l).length
def oO:List W→List O
 | []=>[]
 | a::l=>[.arrD 5 true ((a::l).map W.row)]
def cH (z:Z) (sz:Int) (q:D) (C:List K) (cs:Option (List (List D))) (hk:Hk) (wn:List tWk) (ot:List W):List O:=bH z sz q C (oO ot).length cs hk wn++(oO ot++fH hk wn)
def mOf:Option (List (List D))→Hk→Nat
 | none,.w0=>1
 | none,_=>2
 | some _,.w0=>2
 | some _,_=>3
def wkOf (v:Int) (w:W):tWk:=⟨w.task,w.op,v⟩
def pW (v:Int) (Q:List W):List tWk:=(Q.filter fun w=>w.op==70).map (wkOf v)
def pO (Q:List W):List W:=Q.filter fun w=>!(w.op==70)
def Hk.len:Hk→Nat
 | .w1 l=>l.length
 | _=>0
set_option maxHeartbeats 4000000 in
theorem loop_pub1 (z:Z) (sz:Int) (qd:D) (C:List K) (cs:Option (List (List D))) (hk:Hk) (qn:Bool) (Q:List W) (v:Int) (hq:Q.length≤100000) (hh:hk.len≤100000):∀(suf pre:List W) (wn:List tWk) (ot:List W),Q=pre++suf→wn.length≤pre.length→ot.length≤pre.length →
  ev P (.loop (mOf cs hk) [0,1,6,51,52,53] F_z_176_L1 [(0,.loc 0 0 0),(1,.d (I' v)),(6,oV ot (mOf cs hk)),(51,.d (qD qn Q)),(52,.d (I' Q.length)),(53,.d (I' pre.length))] (cH z sz qd C cs hk wn ot)) =
   some (.out (.exit 2) [(0,.loc 0 0 0),(6,oV (ot++pO suf) (mOf cs hk))] (cH z sz qd C cs hk (wn++pW v suf) (ot++pO suf))):=by
 intro suf
 induction suf with
 | nil =>
  intro pre wn ot hl _ _
  have:Q.length=pre.length:=by simp [hl]
  rw [ev_loop]
  conv=>lhs;arg 4;unfold F_z_176_L1
  rcases cs with _ | T<;>rcases hk with _ | l | Q0<;>rcases wn with _ | ⟨a,wn⟩<;>rcases ot with _ | ⟨b,ot⟩ <;>
   simp [this,pW,pO,cH,bH,fH,oV,oO,mOf,lkV,lkD,reachC,cut,trg2,trg3,List.idxOf_cons]
 | cons w suf ih =>
  intro pre wn ot hl h1 h2
  have hg:Q[pre.length]?=some w:=by simp [hl]
  have hlt:(pre.length:Int)<Q.length:=by simp [hl];omega
  have hpl:pre.length<Q.length:=by simp [hl]
  have hnext:IntKind.i64.wrap ((pre.length:Int)+1)=pre.length+1:=wrap_i64 (by omega) (by omega)
  cases ho:w.op==70
  ·have e1:pW v (w::suf)=pW v suf:=by simp [pW,ho]
   have e2:ot++pO (w::suf)=ot++[w]++pO suf:=by simp [pO,ho]
   have ih':=ih (pre++[w]) wn (ot++[w]) (by simp [hl]) (by simp;omega) (by simp;omega)
   rw [e1,e2,←ih']
   generalize hR:ev P (.loop (mOf cs hk) [0,1,6,51,52,53] F_z_176_L1 [(0,.loc 0 0 0),(1,.d (I' v)),(6,oV (ot++[w]) (mOf cs hk)),(51,.d (qD qn Q)),(52,.d (I' Q.length)),(53,.d (I' (pre++[w]).length))] (cH z sz qd C cs hk wn (ot++[w])))=R
   rw [ev_loop]
   conv=>lhs;arg 4;unfold F_z_176_L1
   rcases ot with _ | ⟨b,ot⟩
   ·have hr:1≤room:=by unfold room;omega
    rcases cs with _ | T<;>rcases hk with _ | l | Q0<;>rcases wn with _ | ⟨a,wn⟩
    all_goals
     simp [cH,bH,fH,oV,oO,mOf,lkV,lkD,W.row] at hR
     simp [hlt,hg,W.row,ho,hnext,cH,bH,fH,oV,oO,mOf,lkV,lkD,reachC,cut,trg2,trg3,List.idxOf_cons,hr,hR]
   ·have hr:ot.length+1+1≤room:=by unfold room;simp at h2;omega
    rcases cs with _ | T<;>rcases hk with _ | l | Q0<;>rcases wn with _ | ⟨a,wn⟩
    all_goals
     simp [cH,bH,fH,oV,oO,mOf,lkV,lkD,W.row] at hR
     simp [hlt,hg,W.row,ho,hnext,cH,bH,fH,oV,oO,mOf,lkV,lkD,reachC,cut,trg2,trg3,List.idxOf_cons,hr,take_map_len,Nat.not_succ_le_self,hR]
  ·have e1:wn++pW v (w::suf)=wn++[⟨w.task,w.op,v⟩]++pW v suf:=by simp [pW,ho,wkOf]
   have e2:pO (w::suf)=pO suf:=by simp [pO,ho]
   have ih':=ih (pre++[w]) (wn++[⟨w.task,w.op,v⟩]) ot (by simp [hl]) (by simp;omega) (by simp;omega)
   rw [e1,e2,←ih']
   generalize hR:ev P (.loop (mOf cs hk) [0,1,6,51,52,53] F_z_176_L1 [(0,.loc 0 0 0),(1,.d (I' v)),(6,oV ot (mOf cs hk)),(51,.d (qD qn Q)),(52,.d (I' Q.length)),(53,.d (I' (pre++[w]).length))] (cH z sz qd C cs hk (wn++[⟨w.task,w.op,v⟩]) ot))=R
   rw [ev_loop]
   conv=>lhs;arg 4;unfold F_z_176_L1
   rcases wn with _ | ⟨a,wn⟩
   ·rcases hk with _ | l | Q0
    ·have hw:=ev_wake0 z sz qd C cs w.task w.op w.value w.prio w.case v
     rcases cs with _ | T<;>rcases ot with _ | ⟨b,ot⟩
     all_goals
      simp [hB,lkV,lkD,tWk.row] at hw
      simp [cH,bH,fH,oV,oO,mOf,lkV,lkD,tWk.row,W.row] at hR
      simp [hlt,hg,W.row,ho,hnext,cH,bH,fH,oV,oO,mOf,lkV,lkD,reachC,cut,trg2,trg3,List.idxOf_cons,hw,callR,sub,setAll,back,hR]
    ·have hw:=ev_wake1 z sz qd C cs l w.task w.op w.value w.prio w.case v (by simp [Hk.len] at hh;omega)
     rcases cs with _ | T<;>rcases ot with _ | ⟨b,ot⟩
     all_goals
      simp [hB,lkV,lkD,tWk.row] at hw
      simp [cH,bH,fH,oV,oO,mOf,lkV,lkD,tWk.row,W.row] at hR
      simp [hlt,hg,W.row,ho,hnext,cH,bH,fH,oV,oO,mOf,lkV,lkD,reachC,cut,trg2,trg3,List.idxOf_cons,hw,callR,sub,setAll,back,hR]
    ·have hw:=ev_wake0 z sz qd C cs w.task w.op w.value w.prio w.case v
     rcases cs with _ | T<;>rcases ot with _ | ⟨b,ot⟩
     all_goals
      simp [hB,lkV,lkD,tWk.row] at hw
      simp [cH,bH,fH,oV,oO,mOf,lkV,lkD,tWk.row,W.row] at hR
      simp [hlt,hg,W.row,ho,hnext,cH,bH,fH,oV,oO,mOf,lkV,lkD,reachC,cut,trg2,trg3,List.idxOf_cons,hw,callR,sub,setAll,back,hR]
   ·rcases hk with _ | l | Q0
    ·have hw:=ev_wake1 z sz qd C cs (a::wn) w.task w.op w.value w.prio w.case v (by simp at h1 ⊢;omega)
     rcases cs with _ | T<;>rcases ot with _ | ⟨b,ot⟩
     all_goals
      simp [hB,lkV,lkD,tWk.row] at hw
      simp [cH,bH,fH,oV,oO,mOf,lkV,lkD,tWk.row,W.row] at hR
      simp [hlt,hg,W.row,ho,hnext,cH,bH,fH,oV,oO,mOf,lkV,lkD,tWk.row,reachC,cut,trg2,trg3,List.idxOf_cons,hw,callR,sub,setAll,back,hR]
    ·have hw:=ev_wake1 z sz qd C cs (l++a::wn) w.task w.op w.value w.prio w.case v (by simp [Hk.len] at h1 hh ⊢;omega)
     rcases cs with _ | T<;>rcases ot with _ | ⟨b,ot⟩
     all_goals
      simp [hB,lkV,lkD,tWk.row] at hw
      simp [cH,bH,fH,oV,oO,mOf,lkV,lkD,tWk.row,W.row] at hR
      simp [hlt,hg,W.row,ho,hnext,cH,bH,fH,oV,oO,mOf,lkV,lkD,tWk.row,reachC,cut,trg2,trg3,List.idxOf_cons,hw,callR,sub,setAll,back,hR]
    ·have hw:=ev_wake1 z sz qd C cs (a::wn) w.task w.op w.value w.prio w.case v (by simp at h1 ⊢;omega)
     rcases cs with _ | T<;>rcases ot with _ | ⟨b,ot⟩
     all_goals
      simp [hB,lkV,lkD,tWk.row] at hw
      simp [cH,bH,fH,oV,oO,mOf,lkV,lkD,tWk.row,W.row] at hR
      simp [hlt,hg,W.row,ho,hnext,cH,bH,fH,oV,oO,mOf,lkV,lkD,tWk.row,reachC,cut,trg2,trg3,List.idxOf_cons,hw,callR,sub,setAll,back,hR]
end Go.VS.Sp
namespace Go.VS.Sp
def pH (z:Z) (sz:Int) (qn:Bool) (Q:List W) (C:List K):Option (List (List D))→Hk→List O
 | cs,.w0=>hB z sz (qD qn Q) C cs .nil
 | cs,.w1 l=>hB z sz (qD qn Q) C cs (.a0 l)
 | none,.wc _=>[lkV z sz (.asl 1 0 Q.length) (.d (.sl 2 true [])) (.d (.sl 5 true [])),.arrD 5 true (Q.map W.row)]
 | some T,.wc _=>[lkV z sz (.asl 1 0 Q.length) (.asl 2 0 C.length) (.d (.sl 5 true [])),.arrD 5 true (Q.map W.row),.arrD 2 true (C.map K.row++T)]
def Kok (C:List K):Prop:=∀c∈C,(c.nl=true→c.log=[])∧c.log.length≤100000
def qO (Q:List W):D:=qD (decide (Q=[])) Q
def pR (z:Z) (sz:Int) (q:D) (C:List K) (cs:Option (List (List D))) (hk:Hk) (wn:List tWk):List O:=bH z sz q C 0 cs hk wn++fH hk wn
theorem pubL (z:Z) (sz:Int) (qn:Bool) (Q:List W) (v:Int) (C:List K) (cs:Option (List (List D))) (hk:Hk) (hq:Q.length≤100000) (hh:hk.len≤100000) :
  ev P (.loop (mOf cs hk) [0,1,6,51,52,53] F_z_176_L1 [(0,.loc 0 0 0),(1,.d (I' v)),(6,.d (.sl 5 true [])),(51,.d (qD qn Q)),(52,.d (I' Q.length)),(53,.d (I' 0))] (bH z sz (qD qn Q) C 0 cs hk [])) =
   some (.out (.exit 2) [(0,.loc 0 0 0),(6,oV (pO Q) (mOf cs hk))] (cH z sz (qD qn Q) C cs hk (pW v Q) (pO Q))):=by
 have h:=loop_pub1 z sz (qD qn Q) C cs hk qn Q v hq hh Q [] [] [] rfl (by simp) (by simp)
 have e1:cH z sz (qD qn Q) C cs hk [] []=bH z sz (qD qn Q) C 0 cs hk []:=by
  cases cs<;>cases hk<;>simp [cH,oO,bH,fH]
 rw [e1] at h
 have e2:(([]:List W).length:Int)=0:=rfl
 rw [e2,List.nil_append,List.nil_append] at h
 exact h
set_option maxHeartbeats 4000000 in
theorem ev_publish (z:Z) (sz:Int) (qn:Bool) (Q:List W) (v:Int) (C:List K) (cs:Option (List (List D))) (hk:Hk) (hC0:cs=none→C=[]) (hq:Q.length≤100000) (hc:C.length≤100000) (hC:Kok C) (hh:hk.len≤100000) (hk0:∀Q0,hk = .wc Q0→Q0=Q∧qn=false) :
  ev P (.call z_176 [.loc 0 0 0,.d (I' v)] (pH z sz qn Q C cs hk))=some (.val (.tu []) (pR z sz (qO (pO Q)) (C.map (pubK Q v)) cs hk (pW v Q))):=by
 have hL:=pubL z sz qn Q v (C.map (pubK Q v)) cs hk hq hh
 generalize hwn:pW v Q=wn at *
 generalize hot:pO Q=ot at *
 rw [ev_call P_z_176 rfl]
 rcases cs with _ | T
 ·obtain rfl:=hC0 rfl
  rcases hk with _ | l | Q0
  ·rcases wn with _ | ⟨a,wn⟩<;>rcases ot with _ | ⟨b,ot⟩
   all_goals
    simp [cH,bH,fH,oV,oO,mOf,lkV,lkD] at hL
    simp [F_z_176,F_z_176_L0,ev_loop,freezeAll,freeze1,thaw,pH,pR,qO,hB,cH,bH,fH,oV,oO,mOf,lkV,lkD,reachC,cut,trg2,trg3,List.idxOf_cons,take_map_len,hL,endH,W.row]
  ·rcases wn with _ | ⟨a,wn⟩<;>rcases ot with _ | ⟨b,ot⟩
   all_goals
    simp [cH,bH,fH,oV,oO,mOf,lkV,lkD] at hL
    simp [F_z_176,F_z_176_L0,ev_loop,freezeAll,freeze1,thaw,pH,pR,qO,hB,cH,bH,fH,oV,oO,mOf,lkV,lkD,reachC,cut,trg2,trg3,List.idxOf_cons,take_map_len,hL,endH,W.row]
  ·obtain ⟨rfl,rfl⟩:=hk0 Q0 rfl
   rcases wn with _ | ⟨a,wn⟩<;>rcases ot with _ | ⟨b,ot⟩
   all_goals
    simp [cH,bH,fH,oV,oO,mOf,lkV,lkD] at hL
    simp [F_z_176,F_z_176_L0,ev_loop,freezeAll,freeze1,thaw,pH,pR,qO,hB,cH,bH,fH,oV,oO,mOf,lkV,lkD,reachC,cut,trg2,trg3,List.idxOf_cons,take_map_len,hL,endH,W.row]
 ·rcases hk with _ | l | Q0
  ·have hM:=loop_pub0 z sz qn Q v C.length T .b0 (by omega) (by omega) C [] (by simp) hC
   rcases wn with _ | ⟨a,wn⟩<;>rcases ot with _ | ⟨b,ot⟩
   all_goals
    simp [cH,bH,fH,oV,oO,mOf,lkV,lkD,-List.map_map] at hL
    simp [hX,Hs.m,lkV,-List.map_map] at hM
    simp [F_z_176,freezeAll,freeze1,thaw,pH,pR,qO,hB,cH,bH,fH,oV,oO,mOf,lkV,lkD,reachC,cut,trg2,trg3,List.idxOf_cons,take_map_len,hM,hL,endH,W.row,-List.map_map]
  ·have hM:=loop_pub0 z sz qn Q v C.length T (.b1 l) (by omega) (by omega) C [] (by simp) hC
   rcases wn with _ | ⟨a,wn⟩<;>rcases ot with _ | ⟨b,ot⟩
   all_goals
    simp [cH,bH,fH,oV,oO,mOf,lkV,lkD,-List.map_map] at hL
    simp [hX,Hs.m,lkV,-List.map_map] at hM
    simp [F_z_176,freezeAll,freeze1,thaw,pH,pR,qO,hB,cH,bH,fH,oV,oO,mOf,lkV,lkD,reachC,cut,trg2,trg3,List.idxOf_cons,take_map_len,hM,hL,endH,W.row,-List.map_map]
  ·obtain ⟨rfl,rfl⟩:=hk0 Q0 rfl
   have hM:=loop_pub0 z sz false Q0 v C.length T (.c Q0) (by omega) (by omega) C [] (by simp) hC
   rcases wn with _ | ⟨a,wn⟩<;>rcases ot with _ | ⟨b,ot⟩
   all_goals
    simp [cH,bH,fH,oV,oO,mOf,lkV,lkD,-List.map_map] at hL
    simp [hX,Hs.m,lkV,-List.map_map] at hM
    simp [F_z_176,freezeAll,freeze1,thaw,pH,pR,qO,hB,cH,bH,fH,oV,oO,mOf,lkV,lkD,reachC,cut,trg2,trg3,List.idxOf_cons,take_map_len,hM,hL,endH,W.row,-List.map_map]
end Go.VS.Sp
namespace Go.VS.Sp
def hk1:List tWk→Hk
 | []=>.w0
 | a::l=>.w1 (a::l)
set_option maxHeartbeats 4000000 in
theorem round_adv (z:Z) (sz:Int) (qn:Bool) (Q:List W) (C:List K) (cs:Option (List (List D))) (wn:List tWk) (w:W) (hC0:cs=none→C=[]) (hq:Q.length≤100000) (hc:C.length≤100000) (hC:Kok C) (hh:wn.length≤99999) :
  ev P (.round [5] F_z_171_A0 F_z_171_B0 [.d (.ag [I' w.task,I' w.op,I' w.value,I' w.prio,I' w.case])] [(1,.rf [.loc 0 0 0])] (pH z sz qn Q C cs (hk1 wn))) =
   some (.out .normal [] (pR z sz (qO (pO Q)) (C.map (pubK Q w.value)) cs (hk1 wn) (⟨w.task,w.op,0⟩::pW w.value Q))):=by
 have hP:=ev_publish z sz qn Q w.value C cs (.w1 (wn++[⟨w.task,w.op,0⟩])) hC0 hq hc hC (by simp [Hk.len];omega) (by intro Q0 h;cases h)
 generalize hwo:pW w.value Q=wo at *
 generalize hot:pO Q=ot at *
 generalize hC':C.map (pubK Q w.value)=C' at *
 have hl:C'.length=C.length:=by simp [←hC']
 rw [ev_round]
 rcases wn with _ | ⟨a,wn⟩
 ·have hw:=ev_wake0 z sz (qD qn Q) C cs w.task w.op w.value w.prio w.case 0
  rcases cs with _ | T<;>rcases wo with _ | ⟨b,wo⟩
  all_goals
   simp [hB,lkV,lkD,tWk.row] at hw
   simp [pH,hB,pR,bH,fH,lkV,lkD,tWk.row,qO,hl] at hP
   simp [F_z_171_A0,F_z_171_B0,hk1,pH,pR,qO,hB,cH,bH,fH,oV,oO,mOf,lkV,lkD,reachC,cut,trg2,trg3,trg4,List.idxOf_cons,take_map_len,callR,sub,setAll,back,hw,hP,tWk.row,hl]
 ·have hw:=ev_wake1 z sz (qD qn Q) C cs (a::wn) w.task w.op w.value w.prio w.case 0 (by simp at hh ⊢;omega)
  rcases cs with _ | T<;>rcases wo with _ | ⟨b,wo⟩
  all_goals
   simp [hB,lkV,lkD,tWk.row] at hw
   simp [pH,hB,pR,bH,fH,lkV,lkD,tWk.row,qO,hl] at hP
   simp [F_z_171_A0,F_z_171_B0,hk1,pH,pR,qO,hB,cH,bH,fH,oV,oO,mOf,lkV,lkD,reachC,cut,trg2,trg3,trg4,List.idxOf_cons,take_map_len,callR,sub,setAll,back,hw,hP,tWk.row,hl]
end Go.VS.Sp
namespace Go.VS.Sp
theorem ev_DeleteW (A B:List (List D)) (r:List D) (h:A.length+B.length≤100000) :
  ev P (.call z_277 [.asl 0 0 (A.length+(B.length+1)),.d (I' A.length),.d (I' (A.length+1))] [.arrD 5 true (A++r::B)]) =
   some (.val (.asl 0 0 (A.length+B.length)) [.arrD 5 true (A++(B++[[I' 0,I' 0,I' 0,I' 0,I' 0]]))]):=by
 have h1:(A.length:Int)≤A.length+1:=by omega
 have h2:(A.length:Int)+1≤A.length+(B.length+1):=by omega
 have h3:(0:Int)≤A.length+1:=by omega
 have h4:((A.length:Int)==A.length+1)=false:=by simp;omega
 have h7:(A.length:Int)≤A.length+(B.length+1):=by omega
 have h5:A.length+B.length≤A.length+(B.length+1):=by omega
 have h6:¬(A.length+(B.length+1)<A.length+B.length):=by omega
 rw [ev_call P_z_277 rfl]
 have h11:(A.length:Int)<A.length+1:=by omega
 rcases B with _ | ⟨b,B⟩
 ·have h9:¬((A.length:Int)+1=0):=by omega
  simp at h2 h5 h6 h7
  simp [F_z_277,reachC,cut,h1,h2,h3,h4,h5,h6,h7,h9,h11,endH]
 ·have h8:(1:Int)<B.length+1+1:=by omega
  have h9:¬((A.length:Int)+1=0):=by omega
  have h12:A.length+1+(B.length+1)≤A.length+(B.length+1+1):=by omega
  obtain ⟨x,hx⟩:∃x,List.drop (B.length+1) (r::b::B)=[x]:=List.length_eq_one_iff.1 (by simp)
  have h13:¬((A.length:Int)+(B.length+1)=0):=by omega
  have h14:(0:Int)≤(A.length:Int)+(B.length+1):=by omega
  have h15:(B.length:Int)≤B.length+1:=by omega
  have h16:(B.length:Int)<B.length+1:=by omega
  have h17:((A.length:Int)+(B.length+1)).toNat=A.length+(B.length+1):=by omega
  have h18:((A.length:Int)+(B.length+1+1) - (A.length+(B.length+1))).toNat=1:=by omega
  have h20:A.length+(B.length+1)+1≤A.length+(B.length+1+1):=by omega
  have h21:List.take (A.length+(B.length+1)) (A++b::(B++[x]))=A++b::B:=by
   have:A++b::(B++[x])=(A++b::B)++[x]:=by simp
   rw [this]
   exact List.take_left' (by simp)
  have h22:List.drop (A.length+(B.length+1)+1) (A++b::(B++[x]))=[]:=List.drop_eq_nil_of_le (by simp;omega)
  have h10:((A.length:Int)+(B.length+1+1) - (A.length+1)).toNat=B.length+1:=by omega
  simp at h2 h5 h6 h7
  simp [F_z_277,reachC,cut,h1,h2,h3,h4,h5,h6,h7,h8,h9,h10,h11,h12,h13,h14,h15,h16,h17,h18,h20,h21,h22,hx,endH]
theorem tev_DeleteK (A B:List (List D)) (r:List D) (h:A.length+B.length≤100000) :
  ev P (.call z_170 [.asl 0 0 (A.length+(B.length+1)),.d (I' A.length),.d (I' (A.length+1))] [.arrD 2 true (A++r::B)]) =
   some (.val (.asl 0 0 (A.length+B.length)) [.arrD 2 true (A++(B++[[I' 0,.sl 1 true []]]))]):=by
 have h1:(A.length:Int)≤A.length+1:=by omega
 have h2:(A.length:Int)+1≤A.length+(B.length+1):=by omega
 have h3:(0:Int)≤A.length+1:=by omega
 have h4:((A.length:Int)==A.length+1)=false:=by simp;omega
 have h7:(A.length:Int)≤A.length+(B.length+1):=by omega
 have h5:A.length+B.length≤A.length+(B.length+1):=by omega
 have h6:¬(A.length+(B.length+1)<A.length+B.length):=by omega
 rw [ev_call P_z_170 rfl]
 have h11:(A.length:Int)<A.length+1:=by omega
 rcases B with _ | ⟨b,B⟩
 ·have h9:¬((A.length:Int)+1=0):=by omega
  simp at h2 h5 h6 h7
  simp [F_z_170,reachC,cut,h1,h2,h3,h4,h5,h6,h7,h9,h11,endH]
 ·have h8:(1:Int)<B.length+1+1:=by omega
  have h9:¬((A.length:Int)+1=0):=by omega
  have h12:A.length+1+(B.length+1)≤A.length+(B.length+1+1):=by omega
  obtain ⟨x,hx⟩:∃x,List.drop (B.length+1) (r::b::B)=[x]:=List.length_eq_one_iff.1 (by simp)
  have h13:¬((A.length:Int)+(B.length+1)=0):=by omega
  have h14:(0:Int)≤(A.length:Int)+(B.length+1):=by omega
  have h15:(B.length:Int)≤B.length+1:=by omega
  have h16:(B.length:Int)<B.length+1:=by omega
  have h17:((A.length:Int)+(B.length+1)).toNat=A.length+(B.length+1):=by omega
  have h18:((A.length:Int)+(B.length+1+1) - (A.length+(B.length+1))).toNat=1:=by omega
  have h20:A.length+(B.length+1)+1≤A.length+(B.length+1+1):=by omega
  have h21:List.take (A.length+(B.length+1)) (A++b::(B++[x]))=A++b::B:=by
   have:A++b::(B++[x])=(A++b::B)++[x]:=by simp
   rw [this]
   exact List.take_left' (by simp)
  have h22:List.drop (A.length+(B.length+1)+1) (A++b::(B++[x]))=[]:=List.drop_eq_nil_of_le (by simp;omega)
  have h10:((A.length:Int)+(B.length+1+1) - (A.length+1)).toNat=B.length+1:=by omega
  simp at h2 h5 h6 h7
  simp [F_z_170,reachC,cut,h1,h2,h3,h4,h5,h6,h7,h8,h9,h10,h11,h12,h13,h14,h15,h16,h17,h18,h20,h21,h22,hx,endH]
theorem ev_DeleteWk (A B:List (List D)) (r:List D) (h:A.length+B.length≤100000) :
  ev P (.call z_246 [.asl 0 0 (A.length+(B.length+1)),.d (I' A.length),.d (I' (A.length+1))] [.arrD 5 true (A++r::B)]) =
   some (.val (.asl 0 0 (A.length+B.length)) [.arrD 5 true (A++(B++[[I' 0,I' 0,I' 0,.b false,I' 0]]))]):=by
 have h1:(A.length:Int)≤A.length+1:=by omega
 have h2:(A.length:Int)+1≤A.length+(B.length+1):=by omega
 have h3:(0:Int)≤A.length+1:=by omega
 have h4:((A.length:Int)==A.length+1)=false:=by simp;omega
 have h7:(A.length:Int)≤A.length+(B.length+1):=by omega
 have h5:A.length+B.length≤A.length+(B.length+1):=by omega
 have h6:¬(A.length+(B.length+1)<A.length+B.length):=by omega
 rw [ev_call P_z_246 rfl]
 have h11:(A.length:Int)<A.length+1:=by omega
 rcases B with _ | ⟨b,B⟩
 ·have h9:¬((A.length:Int)+1=0):=by omega
  simp at h2 h5 h6 h7
  simp [F_z_246,reachC,cut,h1,h2,h3,h4,h5,h6,h7,h9,h11,endH]
 ·have h8:(1:Int)<B.length+1+1:=by omega
  have h9:¬((A.length:Int)+1=0):=by omega
  have h12:A.length+1+(B.length+1)≤A.length+(B.length+1+1):=by omega
  obtain ⟨x,hx⟩:∃x,List.drop (B.length+1) (r::b::B)=[x]:=List.length_eq_one_iff.1 (by simp)
  have h13:¬((A.length:Int)+(B.length+1)=0):=by omega
  have h14:(0:Int)≤(A.length:Int)+(B.length+1):=by omega
  have h15:(B.length:Int)≤B.length+1:=by omega
  have h16:(B.length:Int)<B.length+1:=by omega
  have h17:((A.length:Int)+(B.length+1)).toNat=A.length+(B.length+1):=by omega
  have h18:((A.length:Int)+(B.length+1+1) - (A.length+(B.length+1))).toNat=1:=by omega
  have h20:A.length+(B.length+1)+1≤A.length+(B.length+1+1):=by omega
  have h21:List.take (A.length+(B.length+1)) (A++b::(B++[x]))=A++b::B:=by
   have:A++b::(B++[x])=(A++b::B)++[x]:=by simp
   rw [this]
   exact List.take_left' (by simp)
  have h22:List.drop (A.length+(B.length+1)+1) (A++b::(B++[x]))=[]:=List.drop_eq_nil_of_le (by simp;omega)
  have h10:((A.length:Int)+(B.length+1+1) - (A.length+1)).toNat=B.length+1:=by omega
  simp at h2 h5 h6 h7
  simp [F_z_246,reachC,cut,h1,h2,h3,h4,h5,h6,h7,h8,h9,h10,h11,h12,h13,h14,h15,h16,h17,h18,h20,h21,h22,hx,endH]
theorem ev_pC1C1 (a b c d e:Int):ev P (.call z_276 [.d (.ag [I' a,I' b,I' c,I' d,I' e])] [])=some (.val (.d (.b (b==68))) []):=by
 rw [ev_call P_z_276 rfl]
 simp [F_z_276]
theorem ev_pub (nl:Bool) (l:List W) (hn:l.length≤1000000) :
  ev P (.call z_123 [.d (qD nl l),.d (.fn z_276 [] [])] [])=some (.val (.d (I' (pub l))) []):=by
 have h:=ev_IndexFunc (f:=z_276) (first:=[]) (caps:=[]) (p:=fun w=>w.op==68) nl l hn (by intro a b c d e;simp [ev_pC1C1])
 exact h
theorem ev_publishers (z:Z) (sz:Int) (q:D) (C:List K) (cs:Option (List (List D))) :
  ev P (.call z_239 [.loc 0 0 0] (hB z sz q C cs .nil))=some (.val (.fn z_275 [] [.rf [.loc 0 0 0]]) (hB z sz q C cs .nil)):=by
 rw [ev_call P_z_239 rfl]
 rcases cs with _ | T<;>simp [F_z_239,hB,lkV,lkD,reachC,cut,trg2,trg3,List.idxOf_cons,endH]
end Go.VS.Sp
namespace Go.VS.Sp
abbrev lpA:O:=.lp [5] F_z_171_A0 F_z_171_B0 .normal [(1,.rf [.loc 1 0 0])]
def aH (z:Z) (sz:Int) (q:D) (C:List K):Option (List (List D))→List tWk→List O
 | none,[]=>[lpA,lkD z sz q (.sl 2 true []) (.sl 5 true [])]
 | none,a::l=>[lpA,lkV z sz (.d q) (.d (.sl 2 true [])) (.asl 2 0 (a::l).length),.arrD 5 true ((a::l).map tWk.row)]
 | some T,[]=>[lpA,lkV z sz (.d q) (.asl 2 0 C.length) (.d (.sl 5 true [])),.arrD 2 true (C.map K.row++T)]
 | some T,a::l=>[lpA,lkV z sz (.d q) (.asl 2 0 C.length) (.asl 3 0 (a::l).length),.arrD 2 true (C.map K.row++T),.arrD 5 true ((a::l).map tWk.row)]
def mA:Option (List (List D))→Nat
 | none=>2
 | some _=>3
def Q1 (Q:List W):List W:=Q.eraseIdx (pub Q).toNat
theorem pub_spec (Q:List W):(pub Q = -1∧Q.find? (fun w=>w.op==68)=none)∨∃(A B:List W) (w:W),Q=A++w::B∧pub Q=(A.length:Int)∧w.op=68:=by
 rcases idx_spec (p:=fun w:W=>w.op==68) Q 0 with ⟨h1,h2⟩ | ⟨i,c,h1,h2,h3⟩
 ·exact .inl ⟨h1,h2⟩
 ·right
  have hc:c.op=68:=by have:=List.find?_some h3;simpa using this
  obtain ⟨hlt,he⟩:=List.getElem?_eq_some_iff.1 h2
  refine ⟨Q.take i,Q.drop (i+1),c,?_,?_,hc⟩
  ·rw [←he];simp
  ·have:(Q.take i).length=i:=by simp;omega
   rw [this]
   simp at h1
   exact h1
structure Ad where
 qn:Bool
 Q:List W
 C:List K
 wn:List tWk
def Ad.step (a:Ad) (w:W):Ad:=⟨decide (pO (Q1 a.Q)=[]),pO (Q1 a.Q),a.C.map (pubK (Q1 a.Q) w.value),a.wn++⟨w.task,w.op,0⟩::pW w.value (Q1 a.Q)⟩
def advF (sz:Int):Nat→Ad→Ad
 | 0,a=>a
 | n+1,a=>if pub a.Q<0∨fl sz a.C a.Q=true then a else
  match a.Q[(pub a.Q).toNat]? with
  | none=>a
  | some w=>advF sz n (a.step w)
def Ad.ok (cs:Option (List (List D))) (a:Ad):Prop :=
 (cs=none→a.C=[])∧a.C.length≤100000∧(∀c∈a.C,(c.nl=true→c.log=[])∧c.log.length+a.Q.length≤100000)∧a.Q.length+a.wn.length≤90000∧(a.qn=true→a.Q=[])
theorem Q1_eq {A B:List W} {w:W} (h:pub (A++w::B)=(A.length:Int)):Q1 (A++w::B)=A++B:=by
 unfold Q1
 rw [h]
 have e:((A.length:Int)).toNat=A.length:=by omega
 rw [e,List.eraseIdx_append_of_length_le (by omega)]
 simp
theorem pO_len (v:Int) (Q:List W):(pO Q).length+(pW v Q).length=Q.length:=by
 unfold pO pW
 rw [List.length_map]
 induction Q with
 | nil=>rfl
 | cons w r ih=>cases h:w.op==70<;>simp [h]<;>omega
theorem pO_le (Q:List W):(pO Q).length≤Q.length:=List.length_filter_le _ _
theorem Ad.ok_step {cs:Option (List (List D))} {a:Ad} {A B:List W} {w:W} (hQ:a.Q=A++w::B) (h:pub a.Q=(A.length:Int)) (hok:a.ok cs):(a.step w).ok cs:=by
 obtain ⟨hC0,hc,hC,hw,hqn⟩:=hok
 have hq1:Q1 a.Q=A++B:=by rw [hQ];exact Q1_eq (by rw [←hQ];exact h)
 have hl:=pO_le (A++B)
 have hl2:=pO_len w.value (A++B)
 have hQl:a.Q.length=A.length+(B.length+1):=by rw [hQ];simp
 simp only [List.length_append] at hl hl2
 refine ⟨?_,?_,?_,?_,?_⟩
 ·intro e;simp [Ad.step,hC0 e]
 ·simp [Ad.step];exact hc
 ·intro c hcm
  simp only [Ad.step] at hcm ⊢
  obtain ⟨c0,hc0,rfl⟩:=List.mem_map.1 hcm
  have:=hC c0 hc0
  rw [hq1] at *
  unfold pubK
  split
  ·exact ⟨this.1,by omega⟩
  ·refine ⟨by simp,?_⟩
   simp only [List.length_append,List.length_singleton]
   omega
 ·simp only [Ad.step,List.length_append,List.length_cons]
  rw [hq1]
  omega
 ·simp [Ad.step]
set_option maxHeartbeats 4000000 in
theorem loop_adv (z:Z) (sz:Int) (cs:Option (List (List D))):∀(n:Nat) (a:Ad),a.Q.length<n→a.ok cs →
  ev P (.loop (mA cs) [0,1] F_z_275_L0 [(0,.yld 0),(1,.rf [.loc 1 0 0])] (aH z sz (qD a.qn a.Q) a.C cs a.wn)) =
   some (.out .ret [] (aH z sz (qD (advF sz n a).qn (advF sz n a).Q) (advF sz n a).C cs (advF sz n a).wn)):=by
 intro n
 induction n with
 | zero=>intro a h;omega
 | succ n ih =>
  intro a hn hok
  obtain ⟨qn,Q,C,wn⟩:=a
  obtain ⟨hC0,hc,hC,hw,hqn⟩:=hok
  simp only at hC0 hc hC hw hqn hn ⊢
  have hI:=ev_pub qn Q (by omega)
  rw [ev_loop]
  conv=>lhs;arg 4;unfold F_z_275_L0
  by_cases hp:pub Q<0
  ·have e:advF sz (n+1) ⟨qn,Q,C,wn⟩=⟨qn,Q,C,wn⟩:=by simp [advF,hp]
   rw [e]
   rcases cs with _ | T<;>rcases wn with _ | ⟨x,wn⟩
   all_goals
    simp [aH,mA,lkV,lkD,hI,hp,reachC,cut,trg2,trg3,trg4,List.idxOf_cons]
  ·cases hf:fl sz C Q
   ·rcases pub_spec Q with ⟨h1,_⟩ | ⟨A,B,w,hQ,hpe,h68⟩
    ·omega
    ·have hst:=Ad.ok_step (a:=⟨qn,Q,C,wn⟩) hQ hpe ⟨hC0,hc,hC,hw,hqn⟩
     have hq1:Q1 Q=A++B:=by rw [hQ];exact Q1_eq (by rw [←hQ];exact hpe)
     have hgm:Q[A.length]?=some w:=by rw [hQ];simp
     have hQl:Q.length=A.length+(B.length+1):=by rw [hQ];simp
     have hlt:A.length<Q.length:=by omega
     have e:advF sz (n+1) ⟨qn,Q,C,wn⟩=advF sz n (Ad.step ⟨qn,Q,C,wn⟩ w):=by
      have n1:¬((A.length:Int)<0):=by omega
      simp [advF,n1,hf,hpe,hgm]
     have hsl:(Ad.step ⟨qn,Q,C,wn⟩ w).Q.length<n:=by
      have:=pO_le (A++B)
      simp only [Ad.step,hq1]
      simp at this
      omega
     have ih':=ih _ hsl hst
     rw [e,←ih']
     have hqf:qn=false:=by
      cases qn
      ·rfl
      ·rw [hqn rfl] at hQl;simp at hQl
     subst hqf
     simp only [Ad.step,hq1]
     have hR:=round_adv z sz false (A++B) C cs wn w hC0 (by simp;omega) hc (fun c hcm=>⟨(hC c hcm).1,by have:=(hC c hcm).2;omega⟩) (by omega)
     have hD:=ev_DeleteW (A.map W.row) (B.map W.row) w.row (by simp;omega)
     have hK:=ev_Clone false Q (by simp) (by omega)
     have hwr:w.row=[I' w.task,I' w.op,I' w.value,I' w.prio,I' w.case]:=rfl
     have hfu:∀(d0 d1 d2 d3 d5 d7 d8:D) (cn:Bool),ev P (.call z_174 [.d (I' sz),.d (.ag [d0,d1,d2,d3,qD false Q,d5,.sl 2 cn (C.map K.row),d7,d8])] [])=some (.val (.d (.b false)) []):=by
      intro d0 d1 d2 d3 d5 d7 d8 cn
      have:=ev_full sz d0 d1 d2 d3 d5 d7 d8 false Q cn C (by omega) (by omega)
      rw [hf] at this
      exact this
     have hw1:IntKind.i64.wrap ((A.length:Int)+1)=A.length+1:=wrap_i64 (by omega) (by omega)
     rw [hpe] at hI
     have n1:¬((A.length:Int)<0):=by omega
     rw [hQl] at hK
     have hlt2:(A.length:Int)<A.length+(B.length+1):=by omega
     have n2:A.length<A.length+(B.length+1):=by omega
     have htk:List.take (A.length+B.length) (A.map W.row++(B.map W.row++[[I' 0,I' 0,I' 0,I' 0,I' 0]]))=(A++B).map W.row:=by
      have:A.map W.row++(B.map W.row++[[I' 0,I' 0,I' 0,I' 0,I' 0]])=(A++B).map W.row++[[I' 0,I' 0,I' 0,I' 0,I' 0]]:=by simp
      rw [this]
      exact List.take_left' (by simp)
     generalize hR2:ev P (.loop (mA cs) [0,1] F_z_275_L0 [(0,.yld 0),(1,.rf [.loc 1 0 0])] (aH z sz (qD (decide (pO (A++B)=[])) (pO (A++B))) (C.map (pubK (A++B) w.value)) cs (wn++⟨w.task,w.op,0⟩::pW w.value (A++B))))=R
     generalize hwo:pW w.value (A++B)=wo at *
     generalize hot:pO (A++B)=ot at *
     generalize hC':C.map (pubK (A++B) w.value)=C' at *
     have hl:C'.length=C.length:=by simp [←hC']
     rcases cs with _ | T<;>rcases wn with _ | ⟨x,wn⟩
     ·obtain rfl:=hC0 rfl
      simp [aH,mA,lkV,lkD,hl,qD,tWk.row] at hR2
      simp [hk1,pH,pR,hB,bH,fH,qO,lkV,lkD,hwr,qD,hl,tWk.row] at hR hD
      simp [hQ,hwr] at hK hI hfu
      simp [hQ,aH,mA,lkV,lkD,hI,n1,hwr,hlt2,n2,hfu,hK,hD,hw1,htk,hR,callD,callR,sub,setAll,back,callY,thaw,freezeAll,freeze1,V.same_self,reachC,cut,trg2,trg3,trg4,List.idxOf_cons,take_map_len,tWk.row,hR2,hl]
     ·obtain rfl:=hC0 rfl
      simp [aH,mA,lkV,lkD,hl,qD,tWk.row] at hR2
      simp [hk1,pH,pR,hB,bH,fH,qO,lkV,lkD,hwr,qD,hl,tWk.row] at hR hD
      simp [hQ,hwr] at hK hI hfu
      simp [hQ,aH,mA,lkV,lkD,hI,n1,hwr,hlt2,n2,hfu,hK,hD,hw1,htk,hR,callD,callR,sub,setAll,back,callY,thaw,freezeAll,freeze1,V.same_self,reachC,cut,trg2,trg3,trg4,List.idxOf_cons,take_map_len,tWk.row,hR2,hl]
     ·simp [aH,mA,lkV,lkD,hl,qD,tWk.row] at hR2
      simp [hk1,pH,pR,hB,bH,fH,qO,lkV,lkD,hwr,qD,hl,tWk.row] at hR hD
      simp [hQ,hwr] at hK hI hfu
      simp [hQ,aH,mA,lkV,lkD,hI,n1,hwr,hlt2,n2,hfu,hK,hD,hw1,htk,hR,callD,callR,sub,setAll,back,callY,thaw,freezeAll,freeze1,V.same_self,reachC,cut,trg2,trg3,trg4,List.idxOf_cons,take_map_len,tWk.row,hR2,hl]
     ·simp [aH,mA,lkV,lkD,hl,qD,tWk.row] at hR2
      simp [hk1,pH,pR,hB,bH,fH,qO,lkV,lkD,hwr,qD,hl,tWk.row] at hR hD
      simp [hQ,hwr] at hK hI hfu
      simp [hQ,aH,mA,lkV,lkD,hI,n1,hwr,hlt2,n2,hfu,hK,hD,hw1,htk,hR,callD,callR,sub,setAll,back,callY,thaw,freezeAll,freeze1,V.same_self,reachC,cut,trg2,trg3,trg4,List.idxOf_cons,take_map_len,tWk.row,hR2,hl]
   ·have e:advF sz (n+1) ⟨qn,Q,C,wn⟩=⟨qn,Q,C,wn⟩:=by simp [advF,hf]
    rw [e]
    have hfu:∀(d0 d1 d2 d3 d5 d7 d8:D),ev P (.call z_174 [.d (I' sz),.d (.ag [d0,d1,d2,d3,qD qn Q,d5,.sl 2 false (C.map K.row),d7,d8])] [])=some (.val (.d (.b true)) []):=by
     intro d0 d1 d2 d3 d5 d7 d8
     have:=ev_full sz d0 d1 d2 d3 d5 d7 d8 qn Q false C (by omega) (by omega)
     rw [hf] at this
     exact this
    rcases cs with _ | T<;>rcases wn with _ | ⟨x,wn⟩
    ·obtain rfl:=hC0 rfl
     simp [fl] at hf
    ·obtain rfl:=hC0 rfl
     simp [fl] at hf
    ·simp [aH,mA,lkV,lkD,hI,hp,hfu,reachC,cut,trg2,trg3,trg4,List.idxOf_cons,take_map_len]
    ·simp [aH,mA,lkV,lkD,hI,hp,hfu,reachC,cut,trg2,trg3,trg4,List.idxOf_cons,take_map_len]
end Go.VS.Sp
namespace Go.VS.Sp
def adv (sz:Int) (qn:Bool) (Q:List W) (C:List K):Ad:=advF sz (Q.length+1) ⟨qn,Q,C,[]⟩
theorem advF_len (sz:Int):∀(n:Nat) (a:Ad),(advF sz n a).C.length=a.C.length
 | 0,a=>rfl
 | n+1,a=>by
  unfold advF
  split
  ·rfl
  ·split
   ·rfl
   ·rw [advF_len sz n];simp [Ad.step]
set_option maxHeartbeats 4000000 in
theorem ev_advance (z:Z) (sz:Int) (qn:Bool) (Q:List W) (C:List K) (cs:Option (List (List D))) (hk:Hk) (hok:Ad.ok cs ⟨qn,Q,C,[]⟩) (hk0:hk = .w0∨(hk = .wc Q∧qn=false)) :
  ev P (.call z_171 [.loc 0 0 0] (pH z sz qn Q C cs hk)) =
   some (.val (.tu []) (pR z sz (qD (adv sz qn Q C).qn (adv sz qn Q C).Q) (adv sz qn Q C).C cs hk (adv sz qn Q C).wn)):=by
 have hP:=ev_publishers z sz (qD qn Q) C cs
 have hL:=loop_adv z sz cs (Q.length+1) ⟨qn,Q,C,[]⟩ (by simp) hok
 have hl:(adv sz qn Q C).C.length=C.length:=advF_len sz _ _
 have hC0':cs=none→(adv sz qn Q C).C=[]:=fun h=>by
  have h3:C=[]:=hok.1 h
  have h2:C.length=0:=by rw [h3];rfl
  exact List.length_eq_zero_iff.1 (hl.trans h2)
 change _=some (Res.out .ret [] (aH z sz (qD (adv sz qn Q C).qn (adv sz qn Q C).Q) (adv sz qn Q C).C cs (adv sz qn Q C).wn)) at hL
 generalize adv sz qn Q C=a at *
 obtain ⟨qn',Q',C',wn'⟩:=a
 simp only at hL hl hC0' ⊢
 have hF:ev P (.call z_275 [.yld 0,.rf [.loc 1 0 0]] (aH z sz (qD qn Q) C cs []))=some (.val (.tu []) (aH z sz (qD qn' Q') C' cs wn')):=by
  rw [ev_call P_z_275 rfl]
  rcases cs with _ | T<;>rcases wn' with _ | ⟨x,wn'⟩
  all_goals
   simp [aH,mA,lkV,lkD] at hL
   simp [F_z_275,aH,mA,lkV,lkD,hL,endH,reachC,cut,trg2,trg3,trg4,List.idxOf_cons]
 rw [ev_call P_z_171 rfl]
 rcases hk0 with rfl | ⟨rfl,rfl⟩
 ·rcases cs with _ | T<;>rcases wn' with _ | ⟨x,wn'⟩
  ·have hCC:C=[]:=hok.1 rfl
   have hCC':C'=[]:=hC0' rfl
   subst hCC hCC'
   simp [hB,aH,mA,lkV,lkD,hl] at hF hP
   simp [F_z_171,pH,pR,hB,bH,fH,aH,mA,lkV,lkD,hP,hF,callR,sub,setAll,back,freezeAll,freeze1,reachC,cut,trg2,trg3,trg4,rg5,List.idxOf_cons,take_map_len,endH,hl,canonEnv]
  ·have hCC:C=[]:=hok.1 rfl
   have hCC':C'=[]:=hC0' rfl
   subst hCC hCC'
   simp [hB,aH,mA,lkV,lkD,hl] at hF hP
   simp [F_z_171,pH,pR,hB,bH,fH,aH,mA,lkV,lkD,hP,hF,callR,sub,setAll,back,freezeAll,freeze1,reachC,cut,trg2,trg3,trg4,rg5,List.idxOf_cons,take_map_len,endH,hl,canonEnv]
  ·simp [hB,aH,mA,lkV,lkD,hl] at hF hP
   simp [F_z_171,pH,pR,hB,bH,fH,aH,mA,lkV,lkD,hP,hF,callR,sub,setAll,back,freezeAll,freeze1,reachC,cut,trg2,trg3,trg4,rg5,List.idxOf_cons,take_map_len,endH,hl,canonEnv]
  ·simp [hB,aH,mA,lkV,lkD,hl] at hF hP
   simp [F_z_171,pH,pR,hB,bH,fH,aH,mA,lkV,lkD,hP,hF,callR,sub,setAll,back,freezeAll,freeze1,reachC,cut,trg2,trg3,trg4,rg5,List.idxOf_cons,take_map_len,endH,hl,canonEnv]
 ·rcases cs with _ | T<;>rcases wn' with _ | ⟨x,wn'⟩
  ·have hCC:C=[]:=hok.1 rfl
   have hCC':C'=[]:=hC0' rfl
   subst hCC hCC'
   simp [hB,aH,mA,lkV,lkD,hl] at hF hP
   simp [F_z_171,pH,pR,hB,bH,fH,aH,mA,lkV,lkD,hP,hF,callR,sub,setAll,back,freezeAll,freeze1,reachC,cut,trg2,trg3,trg4,rg5,List.idxOf_cons,take_map_len,endH,hl,canonEnv]
  ·have hCC:C=[]:=hok.1 rfl
   have hCC':C'=[]:=hC0' rfl
   subst hCC hCC'
   simp [hB,aH,mA,lkV,lkD,hl] at hF hP
   simp [F_z_171,pH,pR,hB,bH,fH,aH,mA,lkV,lkD,hP,hF,callR,sub,setAll,back,freezeAll,freeze1,reachC,cut,trg2,trg3,trg4,rg5,List.idxOf_cons,take_map_len,endH,hl,canonEnv]
  ·simp [hB,aH,mA,lkV,lkD,hl] at hF hP
   simp [F_z_171,pH,pR,hB,bH,fH,aH,mA,lkV,lkD,hP,hF,callR,sub,setAll,back,freezeAll,freeze1,reachC,cut,trg2,trg3,trg4,rg5,List.idxOf_cons,take_map_len,endH,hl,canonEnv]
  ·simp [hB,aH,mA,lkV,lkD,hl] at hF hP
   simp [F_z_171,pH,pR,hB,bH,fH,aH,mA,lkV,lkD,hP,hF,callR,sub,setAll,back,freezeAll,freeze1,reachC,cut,trg2,trg3,trg4,rg5,List.idxOf_cons,take_map_len,endH,hl,canonEnv]
end Go.VS.Sp
namespace Go.VS.Sp
structure Rp where
 st:S
 parked:Bool
 value:Int
 ok:Bool
 kn:Bool
 wn:List tWk
abbrev kD (n:Bool) (l:List tWk):D:=.sl 5 n (l.map tWk.row)
abbrev Rp.row (r:Rp):List D:=[I' r.st.own,I' r.st.cnt,I' r.st.time,hD r.st.hn r.st.H,qD r.st.qn r.st.Q,hD r.st.bn r.st.B,cD r.st.cn r.st.C,.b r.st.cl,I' r.st.val,.b r.parked,I' r.value,.b r.ok,kD r.kn r.wn]
def S0:S:=⟨0,0,0,true,[],true,[],true,[],true,[],false,0⟩
def Rp0:Rp:=⟨S0,false,0,false,true,[]⟩
structure S.wz (s:S):Prop where
 h:s.H.length≤1000
 b:s.B.length≤1000
 q:s.Q.length≤1000
 c:s.C.length≤1000
 l:∀c∈s.C,(c.nl=true→c.log=[])∧c.log.length≤1000
 qn:s.qn=true→s.Q=[]
 cn:s.cn=true→s.C=[]
theorem S.wz.sm {s:S} (h:s.wz):s.sm:=⟨by have:=h.h;omega,by have:=h.b;omega,by have:=h.q;omega,by have:=h.c;omega,fun c hc=>by have:=(h.l c hc).2;omega⟩
abbrev S.z (s:S):Z:=⟨I' s.own,I' s.cnt,I' s.time,hD s.hn s.H,hD s.bn s.B,.b s.cl,I' s.val⟩
def csOf (cn:Bool):Option (List (List D)):=if cn=true then none else some []
abbrev S.put (s:S) (a:Ad):S:={ s with qn:=a.qn,Q:=a.Q,C:=a.C }
end Go.VS.Sp
namespace Go.VS.Sp
def wB (z:Z) (sz:Int) (qn:Bool) (Q':List W) (cn:Bool) (C:List K):List O :=
 match qn,cn with
 | true,true=>[lkD z sz (qD false Q') (.sl 2 true []) (.sl 5 true [])]
 | true,false=>[lkV z sz (.d (qD false Q')) (.asl 1 0 C.length) (.d (.sl 5 true [])),.arrD 2 true (C.map K.row)]
 | false,true=>[lkV z sz (.d (qD false Q')) (.d (.sl 2 true [])) (.d (.sl 5 true [])),.dead]
 | false,false=>[lkV z sz (.d (qD false Q')) (.asl 2 0 C.length) (.d (.sl 5 true [])),.dead,.arrD 2 true (C.map K.row)]
theorem ev_wait (z:Z) (sz:Int) (qn:Bool) (Q:List W) (cn:Bool) (C:List K) (t op v p n x:Int) (h1:qn=true→Q=[]) (h3:Q.length≤1000000) :
  ev P (.call z_175 [.loc 0 0 0,.d (.ag [I' t,I' op,I' v,I' p,I' n]),.d (I' x)] (tgB z sz qn Q cn C))=some (.val (.tu []) (wB z sz qn (Q++[⟨t,op,x,p,-1⟩]) cn C)):=by
 rw [ev_call P_z_175 rfl]
 cases qn
 ·have hr:Q.length+1≤room:=by unfold room;omega
  cases cn<;>simp [F_z_175,tgB,wB,lkD,lkV,W.row,reachC,cut,trg2,trg3,trg4,List.idxOf_cons,endH,hr,V.same_self,take_map_len,take_snoc,Nat.not_succ_le_self,thaw,freezeAll,freeze1]
 ·have hr:1≤room:=by unfold room;omega
  obtain rfl:=h1 rfl
  cases cn<;>simp [F_z_175,tgB,wB,lkD,lkV,W.row,reachC,cut,trg2,trg3,trg4,List.idxOf_cons,endH,hr,V.same_self,take_map_len,take_snoc,Nat.not_succ_le_self,thaw,freezeAll,freeze1]
def subN (C:List K) (t:Int):Nat:=(C.takeWhile fun c=>decide (c.task<t)).length
def subC (C:List K) (t:Int):List K:=C.take (subN C t)++⟨t,true,[]⟩::C.drop (subN C t)
def sB (z:Z) (sz:Int) (qn:Bool) (Q:List W) (cn:Bool) (C':List K):List O :=
 match qn,cn with
 | true,true=>[lkV z sz (.d (.sl 5 true [])) (.asl 1 0 C'.length) (.d (.sl 5 true [])),.arrD 2 true (C'.map K.row)]
 | true,false=>[lkV z sz (.d (.sl 5 true [])) (.asl 2 0 C'.length) (.d (.sl 5 true [])),.dead,.arrD 2 true (C'.map K.row)]
 | false,true=>[lkV z sz (.asl 1 0 Q.length) (.asl 2 0 C'.length) (.d (.sl 5 true [])),.arrD 5 true (Q.map W.row),.arrD 2 true (C'.map K.row)]
 | false,false=>[lkV z sz (.asl 1 0 Q.length) (.asl 3 0 C'.length) (.d (.sl 5 true [])),.arrD 5 true (Q.map W.row),.dead,.arrD 2 true (C'.map K.row)]
theorem loop_sub (z:Z) (sz:Int) (qn:Bool) (Q:List W) (C:List K) (t:Int) (hn:C.length≤1000000):∀(suf pre:List K),C=pre++suf →
  ev P (.loop (if qn=true then 2 else 3) [0,1,4] F_z_167_L0 [(0,.loc 0 0 0),(1,.d (I' t)),(4,.d (I' pre.length))] (tgB z sz qn Q false C)) =
   some (.out (.exit 0) [(0,.loc 0 0 0),(1,.d (I' t)),(4,.d (I' (pre.length+subN suf t:Nat)))] (tgB z sz qn Q false C)):=by
 intro suf
 induction suf with
 | nil =>
  intro pre hl
  have:C.length=pre.length:=by simp [hl]
  rw [ev_loop]
  conv=>lhs;arg 4;unfold F_z_167_L0
  cases qn<;>simp [this,subN,tgB,lkV,reachC,cut,trg2,trg3,List.idxOf_cons]
 | cons c suf ih =>
  intro pre hl
  have hg:C[pre.length]?=some c:=by simp [hl]
  have hlt2:pre.length<C.length:=by simp [hl]
  have hgg:C[pre.length]=c:=by simpa [List.getElem?_eq_getElem hlt2] using hg
  have hlt:(pre.length:Int)<C.length:=by omega
  have hnext:IntKind.i64.wrap ((pre.length:Int)+1)=pre.length+1:=wrap_i64 (by omega) (by omega)
  have ih':=ih (pre++[c]) (by simp [hl])
  rw [ev_loop]
  conv=>lhs;arg 4;unfold F_z_167_L0
  by_cases hc:c.task<t
  ·have e:subN (c::suf) t=subN suf t+1:=by simp [subN,hc]
   rw [e]
   have e2:pre.length+(subN suf t+1)=(pre++[c]).length+subN suf t:=by simp;omega
   rw [e2,←ih']
   generalize hR:ev P (.loop (if qn=true then 2 else 3) [0,1,4] F_z_167_L0 [(0,.loc 0 0 0),(1,.d (I' t)),(4,.d (I' (pre++[c]).length))] (tgB z sz qn Q false C))=R
   cases qn
   all_goals
    simp [tgB,lkV] at hR
    simp [hlt,hlt2,hgg,K.row,hc,hnext,tgB,lkV,reachC,cut,trg2,trg3,List.idxOf_cons,hR]
  ·have e:subN (c::suf) t=0:=by simp [subN,hc]
   rw [e]
   cases qn<;>simp [hlt,hlt2,hgg,K.row,hc,hnext,tgB,lkV,reachC,cut,trg2,trg3,List.idxOf_cons]
theorem subN_le (C:List K) (t:Int):subN C t≤C.length:=(List.takeWhile_sublist _).length_le
theorem ev_subscribe (z:Z) (sz:Int) (qn:Bool) (Q:List W) (cn:Bool) (C:List K) (t:Int) (h2:cn=true→C=[]) (hn:C.length≤100000) :
  ev P (.call z_167 [.loc 0 0 0,.d (I' t)] (tgB z sz qn Q cn C))=some (.val (.tu []) (sB z sz qn Q cn (subC C t))):=by
 have hI:=ev_prim P_z_237 (p:=insP 2) rfl
 have hL:=loop_sub z sz qn Q C t (by omega) C [] rfl
 have hb:=subN_le C t
 have hlen:(subC C t).length=C.length+1:=by simp [subC];omega
 have hrow:(subC C t).map K.row=(C.map K.row).take (subN C t)++[I' t,.sl 1 true []]::(C.map K.row).drop (subN C t):=by simp [subC,List.map_take,List.map_drop,K.row]
 have hlen2:((C.map K.row).take (subN C t)++[I' t,.sl 1 true []]::(C.map K.row).drop (subN C t)).length=C.length+1:=by simp;omega
 rw [ev_call P_z_167 rfl]
 cases cn
 ·have hr:C.length+1≤room:=by unfold room;omega
  generalize subC C t=C' at *
  generalize subN C t=N at *
  simp only [List.length_nil,Nat.zero_add] at hL
  cases qn
  all_goals
   simp [tgB,lkV] at hL
   simp [F_z_167,hL,hI,insP,insRows,hr,hb,tgB,sB,lkV,lkD,callR,sub,setAll,back,reachC,cut,trg2,trg3,trg4,List.idxOf_cons,endH,take_map_len,hlen,hrow]
 ·obtain rfl:=h2 rfl
  have hr:1≤room:=by unfold room;omega
  cases qn<;>simp [F_z_167,F_z_167_L0,ev_loop,hI,insP,insRows,hr,tgB,sB,lkV,lkD,callR,sub,setAll,back,reachC,cut,trg2,trg3,trg4,List.idxOf_cons,endH,subC,subN,K.row]
end Go.VS.Sp
namespace Go.VS.Sp
@[simp] theorem tWk.eta (w:tWk):tWk.mk w.task w.op w.value=w:=rfl
theorem loop_IndexWk {f:Nat} {first caps:List D} {p:tWk→Bool} (nl:Bool) (l:List tWk) (hn:l.length≤1000000)
  (hp:∀a b c,ev P (.call f (first.map V.d++[.d (.ag [I' a,I' b,I' c,.b true,I' (-1)])]++caps.map V.d) [])=some (.val (.d (.b (p ⟨a,b,c⟩))) [])) :
  ∀(suf pre:List tWk),l=pre++suf →
  ev P (.loop 0 [0,1,7,8] F_z_244_L0 [(0,.d (.sl 5 nl (l.map tWk.row))),(1,.d (.fn f first caps)),(7,.d (I' l.length)),(8,.d (I' pre.length))] []) =
   if idx p pre.length suf = -1 then some (.out (.exit 0) [] []) else some (.out .ret [(4,.d (I' (idx p pre.length suf)))] []):=by
 intro suf
 induction suf with
 | nil =>
  intro pre hl
  have:l.length=pre.length:=by simp [hl]
  rw [ev_loop]
  conv=>lhs;arg 4;unfold F_z_244_L0
  simp [this,idx]
 | cons w suf ih =>
  intro pre hl
  have hg:l[pre.length]?=some w:=by simp [hl]
  have hlt:(pre.length:Int)<l.length:=by simp [hl];omega
  have hnext:IntKind.i64.wrap ((pre.length:Int)+1)=pre.length+1:=wrap_i64 (by omega) (by omega)
  have ih':=ih (pre++[w]) (by simp [hl])
  simp at ih' hp
  rw [ev_loop]
  conv=>lhs;arg 4;unfold F_z_244_L0
  simp [hlt,hg,tWk.row,hp,allD_mid]
  cases hw:p w
  ·simp [idx,hw,hnext]
   exact ih'
  ·have:¬(pre.length:Int) = -1:=by omega
   simp [idx,hw,this]
theorem ev_IndexWk {f:Nat} {first caps:List D} {p:tWk→Bool} (nl:Bool) (l:List tWk) (hn:l.length≤1000000)
  (hp:∀a b c,ev P (.call f (first.map V.d++[.d (.ag [I' a,I' b,I' c,.b true,I' (-1)])]++caps.map V.d) [])=some (.val (.d (.b (p ⟨a,b,c⟩))) [])) :
  ev P (.call z_244 [.d (.sl 5 nl (l.map tWk.row)),.d (.fn f first caps)] [])=some (.val (.d (I' (idx p 0 l))) []):=by
 rw [ev_call P_z_244 rfl]
 have hl:=loop_IndexWk nl l hn hp l [] rfl
 simp at hl
 simp [F_z_244,hl]
 by_cases hc:idx p 0 l = -1<;>simp [hc]
theorem ev_nextC1 (t x1 x2 x3 x4 a b c:Int):ev P (.call z_245 [.d (.ag [I' a,I' b,I' c,.b true,I' (-1)]),.d (.ref [I' t,I' x1,I' x2,I' x3,I' x4])] [])=some (.val (.d (.b (a==t))) []):=by
 rw [ev_call P_z_245 rfl]
 simp [F_z_245]
def fwk (l:List tWk) (t:Int):Int:=idx (fun w=>w.task==t) 0 l
theorem ev_fwk (nl:Bool) (l:List tWk) (t x1 x2 x3 x4:Int) (hn:l.length≤1000000) :
  ev P (.call z_244 [.d (kD nl l),.d (.fn z_245 [] [.ref [I' t,I' x1,I' x2,I' x3,I' x4]])] [])=some (.val (.d (I' (fwk l t))) []):=by
 have h:=ev_IndexWk (f:=z_245) (first:=[]) (caps:=[.ref [I' t,I' x1,I' x2,I' x3,I' x4]]) (p:=fun w=>w.task==t) nl l hn (by intro a b c;simp [ev_nextC1])
 exact h
theorem ev_ClonepI (q:List Int) (hn:q.length≤1000000) :
  ev P (.call z_214p [.d (hD false q)] [])=some (.val (.d (hD false q)) []):=by
 have hr:q.length≤room:=by unfold room;omega
 rw [ev_call P_z_214p rfl]
 cases q with
 | nil=>simp [F_z_214p,F_z_214,mkRows,allDs,reachC,cut,endH]
 | cons a r =>
  simp at hr
  simp [F_z_214p,F_z_214,mkRows,allDs,reachC,cut,hr,endH,take_map_len]
def r13 (p:Bool) (v:Int) (ok:Bool):List D:=[I' 0,I' 0,I' 0,.sl 1 true [],.sl 5 true [],.sl 1 true [],.sl 2 true [],.b false,I' 0,.b p,I' v,.b ok,.sl 5 true []]
def hkq (qn:Bool) (Q:List W):Hk:=if qn=true then .w0 else .wc Q
set_option maxHeartbeats 4000000 in
theorem ev_next1 (z:Z) (sz:Int) (qn:Bool) (Q:List W) (C A B:List K) (c:K) (t op v p n x:Int) (lg:List Int) (hC:C=A++c::B) (hf:fnd C t=(A.length:Int)) (hlg:c.log=x::lg)
  (h1:qn=true→Q=[]) (h3:Q.length≤1000) (h4:C.length≤1000) (h5:∀c∈C,(c.nl=true→c.log=[])∧c.log.length≤1000) :
  ev P (.call z_178 [.loc 0 0 0,.d (.ag [I' t,I' op,I' v,I' p,I' n])] (tgB z sz qn Q false C)) =
   some (.val (.d (.ag (r13 false x true))) (pR z sz (qD (adv sz qn Q (A++⟨c.task,false,lg⟩::B)).qn (adv sz qn Q (A++⟨c.task,false,lg⟩::B)).Q) (adv sz qn Q (A++⟨c.task,false,lg⟩::B)).C (some []) (hkq qn Q) (adv sz qn Q (A++⟨c.task,false,lg⟩::B)).wn)):=by
 have hcm:=h5 c (by simp [hC])
 have hlen:(A++⟨c.task,false,lg⟩::B).length=C.length:=by simp [hC]
 have hl2:lg.length≤1000:=by have:=hcm.2;rw [hlg] at this;simp at this;omega
 have hnl:c.nl=false:=by
  cases h:c.nl
  ·rfl
  ·have:=hcm.1 h;rw [hlg] at this;cases this
 have hok:Ad.ok (some []) ⟨qn,Q,A++⟨c.task,false,lg⟩::B,[]⟩:=by
  refine ⟨?_,?_,?_,?_,h1⟩
  ·intro h;cases h
  ·simp only;omega
  ·intro d hd
   simp only at hd ⊢
   rw [List.mem_append,List.mem_cons] at hd
   rcases hd with hd | rfl | hd
   ·have:=h5 d (by rw [hC];simp [hd])
    exact ⟨this.1,by omega⟩
   ·exact ⟨by simp,by simp only;omega⟩
   ·have:=h5 d (by rw [hC];simp [hd])
    exact ⟨this.1,by omega⟩
  ·simp;omega
 have hA:=ev_advance z sz qn Q (A++⟨c.task,false,lg⟩::B) (some []) (hkq qn Q) hok (by
  cases qn
  ·exact .inr ⟨rfl,rfl⟩
  ·exact .inl rfl)
 have hl:(adv sz qn Q (A++⟨c.task,false,lg⟩::B)).C.length=C.length:=(advF_len sz _ _).trans hlen
 generalize adv sz qn Q (A++⟨c.task,false,lg⟩::B)=a at *
 obtain ⟨qn',Q',C',wn⟩:=a
 simp only at hA hl ⊢
 have hfi:∀(d0 d1 d2 d3 d4 d5 d7 d8:D),ev P (.call z_169 [.d (.ag [d0,d1,d2,d3,d4,d5,cD false C,d7,d8]),.d (I' t)] [])=some (.val (.d (I' A.length)) []):=by
  intro d0 d1 d2 d3 d4 d5 d7 d8
  have:=ev_find d0 d1 d2 d3 d4 d5 d7 d8 false C t (by omega)
  rw [hf] at this
  exact this
 have hcl:=ev_ClonepI lg (by omega)
 have hgr:C.map K.row=A.map K.row++[I' c.task,.sl 1 false (rows1 (x::lg))]::B.map K.row:=by rw [hC];simp [K.row,hnl,hlg]
 have hgm:=get_mid (A:=A.map K.row) (B:=B.map K.row) (x:=[I' c.task,.sl 1 false (rows1 (x::lg))]) (n:=A.length) (by simp)
 have hsm:=fun y=>set_mid (A:=A.map K.row) (B:=B.map K.row) (x:=[I' c.task,.sl 1 false (rows1 (x::lg))]) (y:=y) (n:=A.length) (by simp)
 have hCl:C.length=A.length+(B.length+1):=by rw [hC];simp
 have hlt:(A.length:Int)<A.length+(B.length+1):=by omega
 have n2:A.length<A.length+(B.length+1):=by omega
 have htk:∀r:List D,List.take (A.length+(B.length+1)) (A.map K.row++r::B.map K.row)=A.map K.row++r::B.map K.row:=fun r=>List.take_of_length_le (by simp)
 have h6:(1:Int)≤lg.length+1:=by omega
 rw [ev_call P_z_178 rfl]
 simp only [rows1,List.map_cons] at hgm hsm hgr
 cases qn
 ·rcases wn with _ | ⟨w,wn⟩
  all_goals
   simp [pH,pR,hB,bH,fH,hkq,lkV,lkD,hl,hCl,K.row] at hA
   have hfi2:=hfi
   simp only [cD,hgr] at hfi2
   simp [F_z_178,tgB,pR,bH,fH,hkq,r13,lkV,lkD,hfi2,hA,hgr,hgm,hsm,hCl,htk,hlt,n2,h6,hl,hcl,callR,sub,setAll,back,reachC,cut,trg2,trg3,trg4,List.idxOf_cons,take_map_len,endH,V.same_self]
 ·obtain rfl:=h1 rfl
  rcases wn with _ | ⟨w,wn⟩
  all_goals
   simp [pH,pR,hB,bH,fH,hkq,lkV,lkD,hl,hCl,K.row,qD] at hA
   have hfi2:=hfi
   simp only [cD,hgr] at hfi2
   simp [F_z_178,qD,tgB,pR,bH,fH,hkq,r13,lkV,lkD,hfi2,hA,hgr,hgm,hsm,hCl,htk,hlt,n2,h6,hl,hcl,callR,sub,setAll,back,reachC,cut,trg2,trg3,trg4,List.idxOf_cons,take_map_len,endH,V.same_self]
end Go.VS.Sp
namespace Go.VS.Sp
inductive Wn where
 | d (n:Bool) (l:List tWk)
 | m (l:List tWk)
def nB (z:Z) (sz:Int) (qn:Bool) (q:D) (C:List K):Wn→List O
 | .d n l=>if qn=true then [lkV z sz (.d q) (.asl 1 0 C.length) (.d (kD n l)),.arrD 2 true (C.map K.row)] else [lkV z sz (.d q) (.asl 2 0 C.length) (.d (kD n l)),.dead,.arrD 2 true (C.map K.row)]
 | .m l=>if qn=true then [lkV z sz (.d q) (.asl 1 0 C.length) (.asl 2 0 l.length),.arrD 2 true (C.map K.row),.arrD 5 true (l.map tWk.row)] else [lkV z sz (.d q) (.asl 2 0 C.length) (.asl 3 0 l.length),.dead,.arrD 2 true (C.map K.row),.arrD 5 true (l.map tWk.row)]
def mW:List tWk→Wn
 | []=>.d true []
 | a::l=>.m (a::l)
def got (l:List tWk) (t:Int):Option (Int×List tWk):=if fwk l t<0 then none else (l[(fwk l t).toNat]?).map fun w=>(w.value,l.eraseIdx (fwk l t).toNat)
set_option maxHeartbeats 4000000 in
theorem ev_next2 (z:Z) (sz:Int) (qn:Bool) (Q:List W) (C A B:List K) (c:K) (t op v p n:Int) (hC:C=A++c::B) (hf:fnd C t=(A.length:Int)) (hlg:c.log=[])
  (h1:qn=true→Q=[]) (h3:Q.length≤1000) (h4:C.length≤1000) (h5:∀c∈C,(c.nl=true→c.log=[])∧c.log.length≤1000) (hwl:(adv sz false (Q++[⟨t,op,0,p,-1⟩]) C).wn.length≤100000) :
  ev P (.call z_178 [.loc 0 0 0,.d (.ag [I' t,I' op,I' v,I' p,I' n])] (tgB z sz qn Q false C)) =
   some (match got (adv sz false (Q++[⟨t,op,0,p,-1⟩]) C).wn t with
    | none=>.val (.d (.ag (r13 true 0 false))) (nB z sz qn (qD (adv sz false (Q++[⟨t,op,0,p,-1⟩]) C).qn (adv sz false (Q++[⟨t,op,0,p,-1⟩]) C).Q) (adv sz false (Q++[⟨t,op,0,p,-1⟩]) C).C (mW (adv sz false (Q++[⟨t,op,0,p,-1⟩]) C).wn))
    | some x=>.val (.d (.ag (r13 false x.1 true))) (nB z sz qn (qD (adv sz false (Q++[⟨t,op,0,p,-1⟩]) C).qn (adv sz false (Q++[⟨t,op,0,p,-1⟩]) C).Q) (adv sz false (Q++[⟨t,op,0,p,-1⟩]) C).C (.d false x.2))):=by
 have hw:=ev_wait z sz qn Q false C t op v p n 0 h1 (by omega)
 have hok:Ad.ok (some []) ⟨false,Q++[⟨t,op,0,p,-1⟩],C,[]⟩:=by
  refine ⟨?_,?_,?_,?_,?_⟩
  ·intro h;cases h
  ·simp only;omega
  ·intro d hd
   have:=h5 d hd
   refine ⟨this.1,?_⟩
   simp
   omega
  ·simp;omega
  ·intro h;cases h
 have hA:=ev_advance z sz false (Q++[⟨t,op,0,p,-1⟩]) C (some []) .w0 hok (.inl rfl)
 have hl:(adv sz false (Q++[⟨t,op,0,p,-1⟩]) C).C.length=C.length:=advF_len sz _ _
 generalize adv sz false (Q++[⟨t,op,0,p,-1⟩]) C=a at *
 obtain ⟨qn',Q',C',wn⟩:=a
 simp only at hA hl hwl ⊢
 have hfi:∀(d0 d1 d2 d3 d4 d5 d7 d8:D),ev P (.call z_169 [.d (.ag [d0,d1,d2,d3,d4,d5,cD false C,d7,d8]),.d (I' t)] [])=some (.val (.d (I' A.length)) []):=by
  intro d0 d1 d2 d3 d4 d5 d7 d8
  have:=ev_find d0 d1 d2 d3 d4 d5 d7 d8 false C t (by omega)
  rw [hf] at this
  exact this
 have hgr:C.map K.row=A.map K.row++[I' c.task,.sl 1 c.nl []]::B.map K.row:=by rw [hC];simp [K.row,hlg]
 have hgm:=get_mid (A:=A.map K.row) (B:=B.map K.row) (x:=[I' c.task,.sl 1 c.nl []]) (n:=A.length) (by simp)
 have hCl:C.length=A.length+(B.length+1):=by rw [hC];simp
 have hlt:(A.length:Int)<A.length+(B.length+1):=by omega
 have n2:A.length<A.length+(B.length+1):=by omega
 have htk:∀r:List D,List.take (A.length+(B.length+1)) (A.map K.row++r::B.map K.row)=A.map K.row++r::B.map K.row:=fun r=>List.take_of_length_le (by simp)
 have hfi2:=hfi
 simp only [cD,hgr] at hfi2
 have hk:=fun nl=>ev_fwk nl wn t op v p n (by omega)
 rw [ev_call P_z_178 rfl]
 by_cases hg:fwk wn t<0
 ·have hgt:got wn t=none:=by simp [got,hg]
  rw [hgt]
  cases qn
  all_goals
   rcases wn with _ | ⟨w,wn⟩
   all_goals
    simp [tgB,wB,lkV,lkD,hCl,hgr] at hw
    simp [pH,pR,hB,bH,fH,lkV,lkD,hl,hCl,hgr] at hA
    have hk0:=hk false
    have hk1:=hk true
    simp only [kD,List.map_cons,List.map_nil] at hk0 hk1
    simp [F_z_178,tgB,nB,mW,r13,lkV,lkD,hfi2,hw,hA,hgr,hgm,hCl,htk,hlt,n2,hl,hk0,hk1,hg,callR,sub,setAll,back,reachC,cut,trg2,trg3,trg4,List.idxOf_cons,take_map_len,endH,V.same_self]
 ·rcases idx_spec (p:=fun w:tWk=>w.task==t) wn 0 with ⟨g1,_⟩ | ⟨i,w,g1,g2,_⟩
  ·exfalso
   have:fwk wn t = -1:=g1
   omega
  ·have g1':fwk wn t=(i:Int):=by simpa [fwk] using g1
   obtain ⟨W1,W2,hW,hWl⟩:∃W1 W2,wn=W1++w::W2∧W1.length=i:=by
    obtain ⟨hlt,he⟩:=List.getElem?_eq_some_iff.1 g2
    refine ⟨wn.take i,wn.drop (i+1),?_,by simp;omega⟩
    rw [←he];simp
   subst hWl
   have hgt:got wn t=some (w.value,W1++W2):=by
    have e:((W1.length:Int)).toNat=W1.length:=by omega
    simp only [got,g1',e,g2,Option.map_some]
    rw [if_neg (by omega),hW,List.eraseIdx_append_of_length_le (by omega)]
    simp
   rw [hgt]
   rw [g1'] at hk
   have n3:¬((W1.length:Int)<0):=by omega
   have hW0:wn=W1++w::W2:=hW
   have hwn:∃x y,wn=x::y:=by
    cases W1 with
    | nil=>exact ⟨w,W2,hW⟩
    | cons a r=>exact ⟨a,r++w::W2,hW⟩
   have hwr:w.row=[I' w.task,I' w.op,I' w.value,.b true,I' (-1)]:=rfl
   have hmr:wn.map tWk.row=W1.map tWk.row++w.row::W2.map tWk.row:=by rw [hW];simp
   have hD:=ev_DeleteWk (W1.map tWk.row) (W2.map tWk.row) w.row (by rw [hW] at hwl;simp at hwl ⊢;omega)
   have hgm2:=get_mid (A:=W1.map tWk.row) (B:=W2.map tWk.row) (x:=w.row) (n:=W1.length) (by simp)
   have hwnl:wn.length=W1.length+(W2.length+1):=by rw [hW];simp
   have hw1:IntKind.i64.wrap ((W1.length:Int)+1)=W1.length+1:=wrap_i64 (by omega) (by omega)
   have htk2:∀r:List D,List.take (W1.length+(W2.length+1)) (W1.map tWk.row++r::W2.map tWk.row)=W1.map tWk.row++r::W2.map tWk.row:=fun r=>List.take_of_length_le (by simp)
   have htk3:∀r:List D,List.take (W1.length+W2.length) (W1.map tWk.row++(W2.map tWk.row++[r]))=W1.map tWk.row++W2.map tWk.row:=fun r=>by
    have:W1.map tWk.row++(W2.map tWk.row++[r])=(W1.map tWk.row++W2.map tWk.row)++[r]:=by simp
    rw [this]
    exact List.take_left' (by simp)
   have hlt3:(W1.length:Int)<W1.length+(W2.length+1):=by omega
   have n4:W1.length<W1.length+(W2.length+1):=by omega
   have hk0:=hk false
   simp only [kD,hmr] at hk0
   have hA':∀(x:List O),bH z sz (qD qn' Q') C' 0 (some []) .w0 wn++fH .w0 wn=[lkV z sz (.d (qD qn' Q')) (.asl 1 0 C'.length) (.asl 2 0 wn.length),.arrD 2 true (C'.map K.row),.arrD 5 true (wn.map tWk.row)]:=by
    intro _
    obtain ⟨x,y,hxy⟩:=hwn
    rw [hxy]
    simp [bH,fH]
   unfold pR at hA
   rw [hA' []] at hA
   rw [hmr,hwnl] at hA
   simp [hwr] at hD hgm2 hk0
   cases qn
   all_goals
    simp [tgB,wB,lkV,lkD,hCl,hgr] at hw
    simp [pH,hB,lkV,lkD,hl,hCl,hgr,hwr] at hA
    simp [F_z_178,tgB,nB,r13,lkV,lkD,hfi2,hw,hA,hgr,hgm,hCl,htk,hlt,n2,hl,hk0,n3,hD,hgm2,hw1,htk2,htk3,hlt3,n4,hwr,callR,sub,setAll,back,thaw,freezeAll,freeze1,reachC,cut,trg2,trg3,trg4,List.idxOf_cons,take_map_len,endH,V.same_self]
end Go.VS.Sp
namespace Go.VS.Sp
abbrev up (h:List O):List O:=h
theorem ev_C1 (z:Z) (sz:Int) (qn:Bool) (Q:List W) (cn:Bool) (C:List K) (t op v p n:Int) (h1:qn=true→Q=[]) (h2:cn=true→C=[]) (hn:C.length≤100000) :
  ev P (.call z_166 [.rf [.loc 0 0 0],.d (.ref [I' t,I' op,I' v,I' p,I' n])] (up (tgB z sz qn Q cn C)))=some (.val (.d (.ag (r13 false 0 true))) (up (sB z sz qn Q cn (subC C t)))):=by
 have hS:=ev_subscribe z sz qn Q cn C t h2 hn
 rw [ev_call P_z_166 rfl]
 cases qn<;>cases cn
 all_goals
  simp [tgB,sB,lkV,lkD] at hS
  simp [F_z_166,up,tgB,sB,lkV,lkD,hS,r13,callR,sub,setAll,back,reachC,cut,trg2,trg3,trg4,rg5,List.idxOf_cons,take_map_len,endH]
set_option maxHeartbeats 4000000 in
theorem ev_C2 (z:Z) (sz:Int) (qn:Bool) (Q:List W) (C A B:List K) (c:K) (t op v p n:Int) (hC:C=A++c::B) (hf:fnd C t=(A.length:Int))
  (h1:qn=true→Q=[]) (h3:Q.length≤1000) (h4:C.length≤1000) (h5:∀c∈C,(c.nl=true→c.log=[])∧c.log.length≤1000) :
  ev P (.call z_168 [.rf [.loc 0 0 0],.d (.ref [I' t,I' op,I' v,I' p,I' n])] (up (tgB z sz qn Q false C))) =
   some (.val (.d (.ag (r13 false 0 true))) (up (pR z sz (qD (adv sz qn Q (A++B)).qn (adv sz qn Q (A++B)).Q) (adv sz qn Q (A++B)).C (some [[I' 0,.sl 1 true []]]) (hkq qn Q) (adv sz qn Q (A++B)).wn))):=by
 have hCl:C.length=A.length+(B.length+1):=by rw [hC];simp
 have hlen:(A++B).length=A.length+B.length:=by simp
 have hok:Ad.ok (some [[I' 0,.sl 1 true []]]) ⟨qn,Q,A++B,[]⟩:=by
  refine ⟨?_,?_,?_,?_,h1⟩
  ·intro h;cases h
  ·simp only;omega
  ·intro d hd
   simp only at hd ⊢
   have:=h5 d (by rw [hC];rw [List.mem_append] at hd;rcases hd with hd | hd<;>simp [hd])
   exact ⟨this.1,by omega⟩
  ·simp;omega
 have hA:=ev_advance z sz qn Q (A++B) (some [[I' 0,.sl 1 true []]]) (hkq qn Q) hok (by
  cases qn
  ·exact .inr ⟨rfl,rfl⟩
  ·exact .inl rfl)
 have hl:(adv sz qn Q (A++B)).C.length=A.length+B.length:=(advF_len sz _ _).trans hlen
 generalize adv sz qn Q (A++B)=a at *
 obtain ⟨qn',Q',C',wn⟩:=a
 simp only at hA hl ⊢
 have hfi:∀(d0 d1 d2 d3 d4 d5 d7 d8:D),ev P (.call z_169 [.d (.ag [d0,d1,d2,d3,d4,d5,cD false C,d7,d8]),.d (I' t)] [])=some (.val (.d (I' A.length)) []):=by
  intro d0 d1 d2 d3 d4 d5 d7 d8
  have:=ev_find d0 d1 d2 d3 d4 d5 d7 d8 false C t (by omega)
  rw [hf] at this
  exact this
 have hgr:C.map K.row=A.map K.row++c.row::B.map K.row:=by rw [hC];simp
 have hD:=tev_DeleteK (A.map K.row) (B.map K.row) c.row (by simp;omega)
 have htk:∀r:List D,List.take (A.length+(B.length+1)) (A.map K.row++r::B.map K.row)=A.map K.row++r::B.map K.row:=fun r=>List.take_of_length_le (by simp)
 have hw1:IntKind.i64.wrap ((A.length:Int)+1)=A.length+1:=wrap_i64 (by omega) (by omega)
 have hfi2:=hfi
 simp only [cD,hgr] at hfi2
 rw [ev_call P_z_168 rfl]
 simp at hD
 cases qn
 ·rcases wn with _ | ⟨w,wn⟩
  all_goals
   simp [pH,pR,hB,bH,fH,hkq,lkV,lkD,hl,qD] at hA
   simp [F_z_168,up,tgB,pR,bH,fH,hkq,lkV,lkD,hfi2,hD,hA,hgr,hCl,htk,hw1,hl,r13,callR,sub,setAll,back,reachC,cut,trg2,trg3,trg4,rg5,List.idxOf_cons,take_map_len,endH,V.same_self,qD]
 ·obtain rfl:=h1 rfl
  rcases wn with _ | ⟨w,wn⟩
  all_goals
   simp [pH,pR,hB,bH,fH,hkq,lkV,lkD,hl,qD] at hA
   simp [F_z_168,up,tgB,pR,bH,fH,hkq,lkV,lkD,hfi2,hD,hA,hgr,hCl,htk,hw1,hl,r13,callR,sub,setAll,back,reachC,cut,trg2,trg3,trg4,rg5,List.idxOf_cons,take_map_len,endH,V.same_self,qD]
theorem ev_C3C1 (a b c d e:Int):ev P (.call z_173 [.d (.ag [I' a,I' b,I' c,I' d,I' e])] [])=some (.val (.d (.b (b==68))) []):=by
 rw [ev_call P_z_173 rfl]
 simp [F_z_173]
def busy (Q:List W):Bool:=Q.any fun w=>w.op==68
theorem ev_busy (nl:Bool) (l:List W) (hn:l.length≤1000000) :
  ev P (.call z_57 [.d (qD nl l),.d (.fn z_173 [] [])] [])=some (.val (.d (.b (busy l))) []):=by
 have h:=ev_ContainsFunc (f:=z_173) (first:=[]) (caps:=[]) (p:=fun w=>w.op==68) nl l hn (by intro a b c d e;simp [ev_C3C1])
 exact h
set_option maxHeartbeats 4000000 in
theorem ev_C3 (z:Z) (sz:Int) (qn:Bool) (Q:List W) (cn:Bool) (C:List K) (t op v p n:Int)
  (h1:qn=true→Q=[]) (h2:cn=true→C=[]) (h3:Q.length≤1000) (h4:C.length≤1000) (h5:∀c∈C,(c.nl=true→c.log=[])∧c.log.length≤1000) :
  ev P (.call z_172 [.rf [.loc 0 0 0],.d (.ref [I' t,I' op,I' v,I' p,I' n])] (up (tgB z sz qn Q cn C))) =
   some (if (busy Q||fl sz C Q)=true then .val (.d (.ag (r13 true 0 false))) (up (wB z sz qn (Q++[⟨t,op,v,p,-1⟩]) cn C))
    else .val (.d (.ag (r13 false 0 true))) (up (pR z sz (qO (pO Q)) (C.map (pubK Q v)) (csOf cn) (hkq qn Q) (pW v Q)))):=by
 have hw:=ev_wait z sz qn Q cn C t op v p n v h1 (by omega)
 have hBu:=ev_busy qn Q (by omega)
 have hFu:∀(d0 d1 d2 d3 d5 d7 d8:D),ev P (.call z_174 [.d (I' sz),.d (.ag [d0,d1,d2,d3,qD qn Q,d5,cD cn C,d7,d8])] [])=some (.val (.d (.b (fl sz C Q))) []):=fun d0 d1 d2 d3 d5 d7 d8=>ev_full sz d0 d1 d2 d3 d5 d7 d8 qn Q cn C (by omega) (by omega)
 have hP:=ev_publish z sz qn Q v C (csOf cn) (hkq qn Q) (by intro h;apply h2;cases cn<;>simp [csOf] at h ⊢) (by omega) (by omega) (fun c hc=>⟨(h5 c hc).1,by have:=(h5 c hc).2;omega⟩) (by cases qn<;>simp [hkq,Hk.len])
  (by intro Q0 h;cases qn<;>simp [hkq] at h ⊢;exact h.symm)
 have hl:(C.map (pubK Q v)).length=C.length:=by simp
 generalize C.map (pubK Q v)=C' at *
 generalize pW v Q=wn at *
 generalize pO Q=ot at *
 generalize busy Q=bq at *
 generalize fl sz C Q=fq at *
 rw [ev_call P_z_172 rfl]
 cases bq
 ·cases fq
  ·cases qn
   ·cases cn
    ·rcases wn with _ | ⟨w,wn⟩
     all_goals
      simp [pH,pR,hB,bH,fH,hkq,csOf,lkV,lkD,hl,qD] at hP
      simp [F_z_172,up,tgB,pR,bH,fH,hkq,csOf,lkV,lkD,hBu,hFu,hP,hl,r13,callR,sub,setAll,back,reachC,cut,trg2,trg3,trg4,rg5,List.idxOf_cons,take_map_len,endH,V.same_self,qD]
    ·obtain rfl:=h2 rfl
     simp only [cD,List.map_nil] at hFu
     have hC':C'=[]:=List.length_eq_zero_iff.1 hl
     subst hC'
     rcases wn with _ | ⟨w,wn⟩
     all_goals
      simp [pH,pR,hB,bH,fH,hkq,csOf,lkV,lkD,hl,qD] at hP
      simp [F_z_172,up,tgB,pR,bH,fH,hkq,csOf,lkV,lkD,hBu,hFu,hP,hl,r13,callR,sub,setAll,back,reachC,cut,trg2,trg3,trg4,rg5,List.idxOf_cons,take_map_len,endH,V.same_self,qD]
   ·obtain rfl:=h1 rfl
    simp only [qD,List.map_nil] at hBu hFu
    cases cn
    ·rcases wn with _ | ⟨w,wn⟩
     all_goals
      simp [pH,pR,hB,bH,fH,hkq,csOf,lkV,lkD,hl,qD] at hP
      simp [F_z_172,up,tgB,pR,bH,fH,hkq,csOf,lkV,lkD,hBu,hFu,hP,hl,r13,callR,sub,setAll,back,reachC,cut,trg2,trg3,trg4,rg5,List.idxOf_cons,take_map_len,endH,V.same_self,qD]
    ·obtain rfl:=h2 rfl
     simp only [cD,List.map_nil] at hFu
     have hC':C'=[]:=List.length_eq_zero_iff.1 hl
     subst hC'
     rcases wn with _ | ⟨w,wn⟩
     all_goals
      simp [pH,pR,hB,bH,fH,hkq,csOf,lkV,lkD,hl,qD] at hP
      simp [F_z_172,up,tgB,pR,bH,fH,hkq,csOf,lkV,lkD,hBu,hFu,hP,hl,r13,callR,sub,setAll,back,reachC,cut,trg2,trg3,trg4,rg5,List.idxOf_cons,take_map_len,endH,V.same_self,qD]
  ·cases qn
   ·cases cn
    ·skip
     simp [tgB,wB,lkV,lkD] at hw
     simp [F_z_172,up,tgB,wB,lkV,lkD,hBu,hFu,hw,r13,callR,sub,setAll,back,reachC,cut,trg2,trg3,trg4,rg5,List.idxOf_cons,take_map_len,endH,V.same_self]
    ·obtain rfl:=h2 rfl
     simp only [cD,List.map_nil] at hFu
     simp [tgB,wB,lkV,lkD] at hw
     simp [F_z_172,up,tgB,wB,lkV,lkD,hBu,hFu,hw,r13,callR,sub,setAll,back,reachC,cut,trg2,trg3,trg4,rg5,List.idxOf_cons,take_map_len,endH,V.same_self]
   ·obtain rfl:=h1 rfl
    simp only [qD,List.map_nil] at hBu hFu
    cases cn
    ·skip
     simp [tgB,wB,lkV,lkD] at hw
     simp [F_z_172,up,tgB,wB,lkV,lkD,hBu,hFu,hw,r13,callR,sub,setAll,back,reachC,cut,trg2,trg3,trg4,rg5,List.idxOf_cons,take_map_len,endH,V.same_self]
    ·obtain rfl:=h2 rfl
     simp only [cD,List.map_nil] at hFu
     simp [tgB,wB,lkV,lkD] at hw
     simp [F_z_172,up,tgB,wB,lkV,lkD,hBu,hFu,hw,r13,callR,sub,setAll,back,reachC,cut,trg2,trg3,trg4,rg5,List.idxOf_cons,take_map_len,endH,V.same_self]
 ·cases qn
  ·cases cn
   all_goals
    simp [tgB,wB,lkV,lkD] at hw
    simp [F_z_172,up,tgB,wB,lkV,lkD,hBu,hFu,hw,r13,callR,sub,setAll,back,reachC,cut,trg2,trg3,trg4,rg5,List.idxOf_cons,take_map_len,endH,V.same_self]
  ·obtain rfl:=h1 rfl
   simp only [qD,List.map_nil] at hBu
   cases cn
   all_goals
    simp [tgB,wB,lkV,lkD] at hw
    simp [F_z_172,up,tgB,wB,lkV,lkD,hBu,hFu,hw,r13,callR,sub,setAll,back,reachC,cut,trg2,trg3,trg4,rg5,List.idxOf_cons,take_map_len,endH,V.same_self]
end Go.VS.Sp
namespace Go.VS.Sp
theorem advF_ok (cs:Option (List (List D))) (sz:Int):∀(n:Nat) (a:Ad),a.ok cs→(advF sz n a).ok cs
 | 0,a,h=>h
 | n+1,a,h=>by
  unfold advF
  split
  ·exact h
  ·rename_i hn
   rcases pub_spec a.Q with ⟨h1,_⟩ | ⟨A,B,w,hQ,hp,_⟩
   ·exfalso;apply hn;left;omega
   ·have e:((A.length:Int)).toNat=A.length:=by omega
    have hg:a.Q[(pub a.Q).toNat]?=some w:=by rw [hp,e,hQ];simp
    rw [hg]
    exact advF_ok cs sz n _ (Ad.ok_step hQ hp h)
set_option maxHeartbeats 4000000 in
theorem ev_C4a (z:Z) (sz:Int) (qn:Bool) (Q:List W) (C A B:List K) (c:K) (t op v p n x:Int) (lg:List Int) (hC:C=A++c::B) (hf:fnd C t=(A.length:Int)) (hlg:c.log=x::lg)
  (h1:qn=true→Q=[]) (h3:Q.length≤1000) (h4:C.length≤1000) (h5:∀c∈C,(c.nl=true→c.log=[])∧c.log.length≤1000) :
  ev P (.call z_177 [.rf [.loc 0 0 0],.d (.ref [I' t,I' op,I' v,I' p,I' n])] (up (tgB z sz qn Q false C))) =
   some (.val (.d (.ag (r13 false x true))) (up (pR z sz (qD (adv sz qn Q (A++⟨c.task,false,lg⟩::B)).qn (adv sz qn Q (A++⟨c.task,false,lg⟩::B)).Q) (adv sz qn Q (A++⟨c.task,false,lg⟩::B)).C (some []) (hkq qn Q) (adv sz qn Q (A++⟨c.task,false,lg⟩::B)).wn))):=by
 have hN:=ev_next1 z sz qn Q C A B c t op v p n x lg hC hf hlg h1 h3 h4 h5
 generalize adv sz qn Q (A++⟨c.task,false,lg⟩::B)=a at *
 obtain ⟨qn',Q',C',wn⟩:=a
 simp only at hN ⊢
 rw [ev_call P_z_177 rfl]
 cases qn<;>rcases wn with _ | ⟨w,wn⟩
 all_goals
  simp [tgB,pR,bH,fH,hkq,lkV,lkD,r13] at hN
  simp [F_z_177,up,tgB,pR,bH,fH,hkq,lkV,lkD,hN,r13,callR,sub,setAll,back,reachC,cut,trg2,trg3,trg4,rg5,List.idxOf_cons,take_map_len,endH,V.same_self]
set_option maxHeartbeats 4000000 in
theorem ev_C4b (z:Z) (sz:Int) (qn:Bool) (Q:List W) (C A B:List K) (c:K) (t op v p n:Int) (hC:C=A++c::B) (hf:fnd C t=(A.length:Int)) (hlg:c.log=[])
  (h1:qn=true→Q=[]) (h3:Q.length≤1000) (h4:C.length≤1000) (h5:∀c∈C,(c.nl=true→c.log=[])∧c.log.length≤1000) (hwl:(adv sz false (Q++[⟨t,op,0,p,-1⟩]) C).wn.length≤100000) :
  ev P (.call z_177 [.rf [.loc 0 0 0],.d (.ref [I' t,I' op,I' v,I' p,I' n])] (up (tgB z sz qn Q false C))) =
   some (match got (adv sz false (Q++[⟨t,op,0,p,-1⟩]) C).wn t with
    | none=>.val (.d (.ag (r13 true 0 false))) (up (nB z sz qn (qD (adv sz false (Q++[⟨t,op,0,p,-1⟩]) C).qn (adv sz false (Q++[⟨t,op,0,p,-1⟩]) C).Q) (adv sz false (Q++[⟨t,op,0,p,-1⟩]) C).C (mW (adv sz false (Q++[⟨t,op,0,p,-1⟩]) C).wn)))
    | some x=>.val (.d (.ag (r13 false x.1 true))) (up (nB z sz qn (qD (adv sz false (Q++[⟨t,op,0,p,-1⟩]) C).qn (adv sz false (Q++[⟨t,op,0,p,-1⟩]) C).Q) (adv sz false (Q++[⟨t,op,0,p,-1⟩]) C).C (.d false x.2)))):=by
 have hN:=ev_next2 z sz qn Q C A B c t op v p n hC hf hlg h1 h3 h4 h5 hwl
 generalize adv sz false (Q++[⟨t,op,0,p,-1⟩]) C=a at *
 obtain ⟨qn',Q',C',wn⟩:=a
 simp only at hN ⊢
 rw [ev_call P_z_177 rfl]
 cases hg:got wn t with
 | none =>
  rw [hg] at hN
  cases qn<;>rcases wn with _ | ⟨w,wn⟩
  all_goals
   simp [tgB,nB,mW,lkV,lkD,r13] at hN
   simp [F_z_177,up,tgB,nB,mW,lkV,lkD,hN,r13,callR,sub,setAll,back,reachC,cut,trg2,trg3,trg4,rg5,List.idxOf_cons,take_map_len,endH,V.same_self]
 | some x =>
  rw [hg] at hN
  cases qn
  all_goals
   simp [tgB,nB,mW,lkV,lkD,r13] at hN
   simp [F_z_177,up,tgB,nB,mW,lkV,lkD,hN,r13,callR,sub,setAll,back,reachC,cut,trg2,trg3,trg4,rg5,List.idxOf_cons,take_map_len,endH,V.same_self]
def del (C:List K) (t:Int):List K:=C.eraseIdx (fnd C t).toNat
def ap (k sz ot:Int) (s:S) (t op v p n:Int):Rp×Int :=
 if ckd k sz ot s≠0 then (Rp0,1) else if callE s t op v p n≠0 then (Rp0,callE s t op v p n) else
 if op=69 then (⟨{ s with cn:=false,C:=subC s.C t },false,0,true,true,[]⟩,0) else
 if op=71 then
  let a:=adv sz s.qn s.Q (del s.C t)
  (⟨s.put a,false,0,true,decide (a.wn=[]),a.wn⟩,0) else
 if op=68 then
  if (busy s.Q||fl sz s.C s.Q)=true then (⟨{ s with qn:=false,Q:=s.Q++[⟨t,op,v,p,-1⟩] },true,0,false,true,[]⟩,0)
  else (⟨{ s with qn:=decide (pO s.Q=[]),Q:=pO s.Q,C:=s.C.map (pubK s.Q v) },false,0,true,decide (pW v s.Q=[]),pW v s.Q⟩,0)
 else
  match kfd s.C t with
  | none=>(Rp0,0)
  | some c =>
   match c.log with
   | x::lg =>
    let a:=adv sz s.qn s.Q (s.C.set (fnd s.C t).toNat ⟨c.task,false,lg⟩)
    (⟨s.put a,false,x,true,decide (a.wn=[]),a.wn⟩,0)
   | [] =>
    let a:=adv sz false (s.Q++[⟨t,op,0,p,-1⟩]) s.C
    match got a.wn t with
    | none=>(⟨s.put a,true,0,false,decide (a.wn=[]),a.wn⟩,0)
    | some x=>(⟨s.put a,false,x.1,true,false,x.2⟩,0)
theorem ev_applyE (nm:D) (k sz ot:Int) (s:S) (hs:s.wz) (t op v p n:Int) (h:ckd k sz ot s≠0∨callE s t op v p n≠0) :
  ev P (.call z_89 [.d (.ag [nm,I' k,I' sz,I' ot]),.d (.ag s.row),.d (.ag [I' t,I' op,I' v,I' p,I' n])] [])=some (.val (.tu [.d (.ag (ap k sz ot s t op v p n).1.row),.d (I' (ap k sz ot s t op v p n).2)]) []):=by
 have hC:=ev_mCheck nm k sz ot s hs.sm
 have hE:=ev_call23 s hs.sm t op v p n
 unfold ap
 rw [ev_call P_z_89 rfl]
 by_cases hc:ckd k sz ot s=0
 ·have h2:callE s t op v p n≠0:=by
   rcases h with h | h
   ·exact absurd hc h
   ·exact h
  generalize callE s t op v p n=e at *
  have h3:(e != 0)=true:=by simpa using h2
  rw [hc] at hC ⊢
  simp [F_z_89,hC,hE,h2,h3,Rp0,S0]
 ·have hc2:(ckd k sz ot s != 0)=true:=by simpa using hc
  simp [F_z_89,hC,hc,hc2,Rp0,S0]
set_option maxHeartbeats 4000000 in
theorem ev_apply1 (nm:D) (k sz ot:Int) (s:S) (hs:s.wz) (t v p n:Int) (hc:ckd k sz ot s=0) (he:callE s t 69 v p n=0) :
  ev P (.call z_89 [.d (.ag [nm,I' k,I' sz,I' ot]),.d (.ag s.row),.d (.ag [I' t,I' 69,I' v,I' p,I' n])] [])=some (.val (.tu [.d (.ag (ap k sz ot s t 69 v p n).1.row),.d (I' (ap k sz ot s t 69 v p n).2)]) []):=by
 have hC:=ev_mCheck nm k sz ot s hs.sm
 have hE:=ev_call23 s hs.sm t 69 v p n
 rw [hc] at hC
 rw [he] at hE
 have e:ap k sz ot s t 69 v p n=(⟨{ s with cn:=false,C:=subC s.C t },false,0,true,true,[]⟩,0):=by simp [ap,hc,he]
 rw [e]
 have hBg:=ev_begin s.z nm (I' k) (I' ot) sz s.qn s.Q s.cn s.C hs.qn hs.cn (by have:=hs.q;omega) (by have:=hs.c;omega)
 have hO:=ev_C1 s.z sz s.qn s.Q s.cn s.C t 69 v p n hs.qn hs.cn (by have:=hs.c;omega)
 obtain ⟨own,cnt,time,hn,H,qn,Q,bn,B,cn,C,cl,val⟩:=s
 simp only at hC hE hBg hO hs ⊢
 generalize subC C t=C' at *
 rw [ev_call P_z_89 rfl]
 cases qn
 ·cases cn
  all_goals
   simp [tgB,lkV,lkD] at hBg
   simp [tgB,sB,lkV,lkD,r13,up] at hO
   simp [F_z_89,hC,hE,hBg,hO,callD,callR,sub,setAll,back,freezeAll,freeze1,reachC,cut,trg2,trg3,trg4,rg5,List.idxOf_cons,take_map_len,endH,V.same_self,mkRows,allDs,Rp.row,S.put,toDs,toD]
 ·obtain rfl:=hs.qn rfl
  cases cn
  all_goals
   simp [tgB,lkV,lkD] at hBg
   simp [tgB,sB,lkV,lkD,r13,up] at hO
   simp [F_z_89,hC,hE,hBg,hO,callD,callR,sub,setAll,back,freezeAll,freeze1,reachC,cut,trg2,trg3,trg4,rg5,List.idxOf_cons,take_map_len,endH,V.same_self,mkRows,allDs,Rp.row,S.put,toDs,toD]
theorem find_split {C:List K} {t:Int} (h:0≤fnd C t):∃A c B,C=A++c::B∧fnd C t=(A.length:Int)∧kfd C t=some c:=by
 rcases fnd_spec C t with ⟨h1,_⟩ | ⟨i,c,h1,h2,h3⟩
 ·omega
 ·obtain ⟨hlt,he⟩:=List.getElem?_eq_some_iff.1 h2
  have hl:(C.take i).length=i:=by simp;omega
  exact ⟨C.take i,c,C.drop (i+1),by rw [←he];simp,by rw [hl];exact h1,h3⟩
theorem callE_find {s:S} {t op v p n:Int} (h:callE s t op v p n=0) (ho:op=71∨op=70):0≤fnd s.C t:=by
 unfold callE at h
 split at h
 ·cases h
 ·split at h
  ·cases h
  ·split at h
   ·cases h
   ·split at h
    ·cases h
    ·split at h
     ·cases h
     ·split at h
      ·cases h
      ·rename_i h6
       rcases ho with rfl | rfl<;>simp at h6<;>exact h6
theorem callE_op {s:S} {t op v p n:Int} (h:callE s t op v p n=0):op=68∨op=69∨op=70∨op=71:=by
 unfold callE at h
 split at h
 ·cases h
 ·split at h
  ·cases h
  ·rename_i h2
   simp at h2
   omega
set_option maxHeartbeats 4000000 in
theorem ev_apply2 (nm:D) (k sz ot:Int) (s:S) (hs:s.wz) (t v p n:Int) (hc:ckd k sz ot s=0) (he:callE s t 71 v p n=0) :
  ev P (.call z_89 [.d (.ag [nm,I' k,I' sz,I' ot]),.d (.ag s.row),.d (.ag [I' t,I' 71,I' v,I' p,I' n])] [])=some (.val (.tu [.d (.ag (ap k sz ot s t 71 v p n).1.row),.d (I' (ap k sz ot s t 71 v p n).2)]) []):=by
 have hC:=ev_mCheck nm k sz ot s hs.sm
 have hE:=ev_call23 s hs.sm t 71 v p n
 rw [hc] at hC
 rw [he] at hE
 obtain ⟨A,c,B,hS,hf,_⟩:=find_split (callE_find he (.inl rfl))
 have hdel:del s.C t=A++B:=by
  have e:((A.length:Int)).toNat=A.length:=by omega
  unfold del
  rw [hf,e,hS,List.eraseIdx_append_of_length_le (by omega)]
  simp
 have e:ap k sz ot s t 71 v p n=(⟨s.put (adv sz s.qn s.Q (A++B)),false,0,true,decide ((adv sz s.qn s.Q (A++B)).wn=[]),(adv sz s.qn s.Q (A++B)).wn⟩,0):=by simp [ap,hc,he,hdel]
 rw [e]
 have hBg:=ev_begin s.z nm (I' k) (I' ot) sz s.qn s.Q s.cn s.C hs.qn hs.cn (by have:=hs.q;omega) (by have:=hs.c;omega)
 have hO:=ev_C2 s.z sz s.qn s.Q s.C A B c t 71 v p n hS hf hs.qn hs.q hs.c hs.l
 have hl:(adv sz s.qn s.Q (A++B)).C.length=A.length+B.length:=(advF_len sz _ _).trans (by simp)
 have hcn:s.cn=false:=by
  cases h:s.cn
  ·rfl
  ·have:=hs.cn h;rw [hS] at this;simp at this
 generalize adv sz s.qn s.Q (A++B)=a at *
 obtain ⟨own,cnt,time,hn,H,qn,Q,bn,B',cn,C,cl,val⟩:=s
 obtain ⟨qn',Q',C',wn⟩:=a
 simp only at hC hE hBg hO hs hl hcn hS ⊢
 subst hcn
 have htk:∀r:List D,List.take (A.length+B.length) (C'.map K.row++[r])=C'.map K.row:=fun r=>List.take_left' (by simp [hl])
 have hle1:A.length+B.length≤C'.length+1:=by omega
 rw [ev_call P_z_89 rfl]
 cases qn
 ·rcases wn with _ | ⟨w,wn⟩
  all_goals
   simp [tgB,lkV,lkD] at hBg
   simp [tgB,pR,bH,fH,hkq,lkV,lkD,r13,hl,up] at hO
   simp [F_z_89,hC,hE,hBg,hO,callD,callR,sub,setAll,back,freezeAll,freeze1,reachC,cut,trg2,trg3,trg4,rg5,List.idxOf_cons,take_map_len,endH,V.same_self,mkRows,allDs,Rp.row,S.put,toDs,toD,htk,hle1]
 ·obtain rfl:=hs.qn rfl
  rcases wn with _ | ⟨w,wn⟩
  all_goals
   simp [tgB,lkV,lkD] at hBg
   simp [tgB,pR,bH,fH,hkq,lkV,lkD,r13,hl,up] at hO
   simp [F_z_89,hC,hE,hBg,hO,callD,callR,sub,setAll,back,freezeAll,freeze1,reachC,cut,trg2,trg3,trg4,rg5,List.idxOf_cons,take_map_len,endH,V.same_self,mkRows,allDs,Rp.row,S.put,toDs,toD,htk,hle1]
set_option maxHeartbeats 4000000 in
theorem ev_apply3 (nm:D) (k sz ot:Int) (s:S) (hs:s.wz) (t v p n:Int) (hc:ckd k sz ot s=0) (he:callE s t 68 v p n=0) :
  ev P (.call z_89 [.d (.ag [nm,I' k,I' sz,I' ot]),.d (.ag s.row),.d (.ag [I' t,I' 68,I' v,I' p,I' n])] [])=some (.val (.tu [.d (.ag (ap k sz ot s t 68 v p n).1.row),.d (I' (ap k sz ot s t 68 v p n).2)]) []):=by
 have hC:=ev_mCheck nm k sz ot s hs.sm
 have hE:=ev_call23 s hs.sm t 68 v p n
 rw [hc] at hC
 rw [he] at hE
 have e:ap k sz ot s t 68 v p n=if (busy s.Q||fl sz s.C s.Q)=true then (⟨{ s with qn:=false,Q:=s.Q++[⟨t,68,v,p,-1⟩] },true,0,false,true,[]⟩,0)
  else (⟨{ s with qn:=decide (pO s.Q=[]),Q:=pO s.Q,C:=s.C.map (pubK s.Q v) },false,0,true,decide (pW v s.Q=[]),pW v s.Q⟩,0):=by simp [ap,hc,he]
 rw [e]
 have hBg:=ev_begin s.z nm (I' k) (I' ot) sz s.qn s.Q s.cn s.C hs.qn hs.cn (by have:=hs.q;omega) (by have:=hs.c;omega)
 have hO:=ev_C3 s.z sz s.qn s.Q s.cn s.C t 68 v p n hs.qn hs.cn hs.q hs.c hs.l
 have hl:(s.C.map (pubK s.Q v)).length=s.C.length:=by simp
 have hCn:s.cn=true→s.C.map (pubK s.Q v)=[]:=fun h=>by rw [hs.cn h];rfl
 generalize s.C.map (pubK s.Q v)=C' at *
 generalize pW v s.Q=wn at *
 generalize pO s.Q=ot' at *
 generalize (busy s.Q||fl sz s.C s.Q)=bf at *
 obtain ⟨own,cnt,time,hn,H,qn,Q,bn,B',cn,C,cl,val⟩:=s
 simp only at hC hE hBg hO hs hl hCn ⊢
 have hCC:cn=true→C=[]:=hs.cn
 have htk:List.take C.length (C'.map K.row)=C'.map K.row:=List.take_of_length_le (by simp [hl])
 have hle1:C.length≤C'.length:=by omega
 rw [ev_call P_z_89 rfl]
 cases bf
 ·cases qn
  ·cases cn<;>rcases wn with _ | ⟨w,wn⟩
   all_goals
    simp [tgB,lkV,lkD] at hBg
    simp [tgB,pR,bH,fH,hkq,csOf,lkV,lkD,r13,hl,qO,up] at hO
    simp [F_z_89,hC,hE,hBg,hO,callD,callR,sub,setAll,back,freezeAll,freeze1,reachC,cut,trg2,trg3,trg4,rg5,List.idxOf_cons,take_map_len,endH,V.same_self,mkRows,allDs,Rp.row,S.put,toDs,toD,htk,hCn,hle1]
  ·obtain rfl:=hs.qn rfl
   cases cn<;>rcases wn with _ | ⟨w,wn⟩
   all_goals
    simp [tgB,lkV,lkD] at hBg
    simp [tgB,pR,bH,fH,hkq,csOf,lkV,lkD,r13,hl,qO,up] at hO
    simp [F_z_89,hC,hE,hBg,hO,callD,callR,sub,setAll,back,freezeAll,freeze1,reachC,cut,trg2,trg3,trg4,rg5,List.idxOf_cons,take_map_len,endH,V.same_self,mkRows,allDs,Rp.row,S.put,toDs,toD,htk,hCn,hle1]
 ·cases qn
  ·cases cn
   ·skip
    simp [tgB,lkV,lkD] at hBg
    simp [tgB,wB,lkV,lkD,r13,up] at hO
    simp [F_z_89,hC,hE,hBg,hO,callD,callR,sub,setAll,back,freezeAll,freeze1,reachC,cut,trg2,trg3,trg4,rg5,List.idxOf_cons,take_map_len,endH,V.same_self,mkRows,allDs,Rp.row,S.put,toDs,toD]
   ·obtain rfl:=hCC rfl
    simp [tgB,lkV,lkD] at hBg
    simp [tgB,wB,lkV,lkD,r13,up] at hO
    simp [F_z_89,hC,hE,hBg,hO,callD,callR,sub,setAll,back,freezeAll,freeze1,reachC,cut,trg2,trg3,trg4,rg5,List.idxOf_cons,take_map_len,endH,V.same_self,mkRows,allDs,Rp.row,S.put,toDs,toD]
  ·obtain rfl:=hs.qn rfl
   cases cn
   ·skip
    simp [tgB,lkV,lkD] at hBg
    simp [tgB,wB,lkV,lkD,r13,up] at hO
    simp [F_z_89,hC,hE,hBg,hO,callD,callR,sub,setAll,back,freezeAll,freeze1,reachC,cut,trg2,trg3,trg4,rg5,List.idxOf_cons,take_map_len,endH,V.same_self,mkRows,allDs,Rp.row,S.put,toDs,toD]
   ·obtain rfl:=hCC rfl
    simp [tgB,lkV,lkD] at hBg
    simp [tgB,wB,lkV,lkD,r13,up] at hO
    simp [F_z_89,hC,hE,hBg,hO,callD,callR,sub,setAll,back,freezeAll,freeze1,reachC,cut,trg2,trg3,trg4,rg5,List.idxOf_cons,take_map_len,endH,V.same_self,mkRows,allDs,Rp.row,S.put,toDs,toD]
end Go.VS.Sp
namespace Go.VS.Sp
theorem set_split {A B:List K} {c d:K}:(A++c::B).set A.length d=A++d::B:=by simp
set_option maxHeartbeats 4000000 in
theorem ev_apply4 (nm:D) (k sz ot:Int) (s:S) (hs:s.wz) (t v p n:Int) (hc:ckd k sz ot s=0) (he:callE s t 70 v p n=0) :
  ev P (.call z_89 [.d (.ag [nm,I' k,I' sz,I' ot]),.d (.ag s.row),.d (.ag [I' t,I' 70,I' v,I' p,I' n])] [])=some (.val (.tu [.d (.ag (ap k sz ot s t 70 v p n).1.row),.d (I' (ap k sz ot s t 70 v p n).2)]) []):=by
 have hC:=ev_mCheck nm k sz ot s hs.sm
 have hE:=ev_call23 s hs.sm t 70 v p n
 rw [hc] at hC
 rw [he] at hE
 obtain ⟨A,c,B,hS,hf,hkf⟩:=find_split (callE_find he (.inr rfl))
 have hBg:=ev_begin s.z nm (I' k) (I' ot) sz s.qn s.Q s.cn s.C hs.qn hs.cn (by have:=hs.q;omega) (by have:=hs.c;omega)
 have hcn:s.cn=false:=by
  cases h:s.cn
  ·rfl
  ·have:=hs.cn h;rw [hS] at this;simp at this
 have eN:((A.length:Int)).toNat=A.length:=by omega
 cases hlg:c.log with
 | cons x lg =>
  have e:ap k sz ot s t 70 v p n=(⟨s.put (adv sz s.qn s.Q (A++⟨c.task,false,lg⟩::B)),false,x,true,decide ((adv sz s.qn s.Q (A++⟨c.task,false,lg⟩::B)).wn=[]),(adv sz s.qn s.Q (A++⟨c.task,false,lg⟩::B)).wn⟩,0):=by
   have e2:s.C.set (fnd s.C t).toNat ⟨c.task,false,lg⟩=A++⟨c.task,false,lg⟩::B:=by rw [hf,eN,hS];exact set_split
   rw [←e2]
   simp [ap,hc,he,hkf,hlg]
  rw [e]
  have hO:=ev_C4a s.z sz s.qn s.Q s.C A B c t 70 v p n x lg hS hf hlg hs.qn hs.q hs.c hs.l
  have hl:(adv sz s.qn s.Q (A++⟨c.task,false,lg⟩::B)).C.length=A.length+(B.length+1):=(advF_len sz _ _).trans (by simp)
  have hCl:s.C.length=A.length+(B.length+1):=by rw [hS];simp
  generalize adv sz s.qn s.Q (A++⟨c.task,false,lg⟩::B)=a at *
  clear e
  obtain ⟨own,cnt,time,hn,H,qn,Q,bn,B',cn,C,cl,val⟩:=s
  obtain ⟨qn',Q',C',wn⟩:=a
  simp only at hC hE hBg hO hs hl hcn hS hCl ⊢
  subst hcn
  have htk:List.take C.length (C'.map K.row)=C'.map K.row:=List.take_of_length_le (by simp;omega)
  have hle1:C.length≤C'.length:=by omega
  rw [←hCl] at hl
  rw [ev_call P_z_89 rfl]
  cases qn
  ·rcases wn with _ | ⟨w,wn⟩
   all_goals
    simp [tgB,lkV,lkD] at hBg
    simp [tgB,pR,bH,fH,hkq,lkV,lkD,r13,hl,up] at hO
    simp [F_z_89,hC,hE,hBg,hO,callD,callR,sub,setAll,back,freezeAll,freeze1,reachC,cut,trg2,trg3,trg4,rg5,List.idxOf_cons,take_map_len,endH,V.same_self,mkRows,allDs,Rp.row,S.put,toDs,toD,htk,hle1]
  ·obtain rfl:=hs.qn rfl
   rcases wn with _ | ⟨w,wn⟩
   all_goals
    simp [tgB,lkV,lkD] at hBg
    simp [tgB,pR,bH,fH,hkq,lkV,lkD,r13,hl,up] at hO
    simp [F_z_89,hC,hE,hBg,hO,callD,callR,sub,setAll,back,freezeAll,freeze1,reachC,cut,trg2,trg3,trg4,rg5,List.idxOf_cons,take_map_len,endH,V.same_self,mkRows,allDs,Rp.row,S.put,toDs,toD,htk,hle1]
 | nil =>
  have hok:Ad.ok none ⟨false,s.Q++[W.mk t 70 0 p (-1)],[],[]⟩:=by
   have:=hs.q
   refine ⟨fun _=>rfl,by simp,by simp,by simp;omega,by simp⟩
  have hok2:Ad.ok (some []) ⟨false,s.Q++[W.mk t 70 0 p (-1)],s.C,[]⟩:=by
   have hq:=hs.q
   have hc':=hs.c
   refine ⟨?_,?_,?_,?_,?_⟩
   ·intro h;cases h
   ·simp only;omega
   ·intro d hd
    have:=hs.l d hd
    refine ⟨this.1,?_⟩
    simp
    omega
   ·simp;omega
   ·intro h;cases h
  have hwl:(adv sz false (s.Q++[W.mk t 70 0 p (-1)]) s.C).wn.length≤100000:=by
   have:=(advF_ok (some []) sz ((s.Q++[W.mk t 70 0 p (-1)]).length+1) _ hok2).2.2.2.1
   unfold adv
   omega
  have hO:=ev_C4b s.z sz s.qn s.Q s.C A B c t 70 v p n hS hf hlg hs.qn hs.q hs.c hs.l hwl
  have hl:(adv sz false (s.Q++[W.mk t 70 0 p (-1)]) s.C).C.length=s.C.length:=advF_len sz _ _
  have e:ap k sz ot s t 70 v p n=match got (adv sz false (s.Q++[W.mk t 70 0 p (-1)]) s.C).wn t with
    | none=>(⟨s.put (adv sz false (s.Q++[W.mk t 70 0 p (-1)]) s.C),true,0,false,decide ((adv sz false (s.Q++[W.mk t 70 0 p (-1)]) s.C).wn=[]),(adv sz false (s.Q++[W.mk t 70 0 p (-1)]) s.C).wn⟩,0)
    | some x=>(⟨s.put (adv sz false (s.Q++[W.mk t 70 0 p (-1)]) s.C),false,x.1,true,false,x.2⟩,0):=by
   first
   | (simp [ap,hc,he,hkf,hlg];done)
   | (
    simp [ap,hc,he,hkf,hlg]
    cases got (adv sz false (s.Q++[W.mk t 70 0 p (-1)]) s.C).wn t<;>rfl)
  rw [e]
  clear hwl hok hok2
  generalize adv sz false (s.Q++[W.mk t 70 0 p (-1)]) s.C=a at *
  clear e
  obtain ⟨own,cnt,time,hn,H,qn,Q,bn,B',cn,C,cl,val⟩:=s
  obtain ⟨qn',Q',C',wn⟩:=a
  simp only at hC hE hBg hO hs hl hcn hS ⊢
  subst hcn
  have htk:List.take C.length (C'.map K.row)=C'.map K.row:=List.take_of_length_le (by simp;omega)
  have hle1:C.length≤C'.length:=by omega
  rw [ev_call P_z_89 rfl]
  cases hg:got wn t with
  | none =>
   rw [hg] at hO
   cases qn
   ·rcases wn with _ | ⟨w,wn⟩
    all_goals
     simp [tgB,lkV,lkD] at hBg
     simp [tgB,nB,mW,lkV,lkD,r13,hl,up] at hO
     simp [F_z_89,hC,hE,hBg,hO,callD,callR,sub,setAll,back,freezeAll,freeze1,reachC,cut,trg2,trg3,trg4,rg5,List.idxOf_cons,take_map_len,endH,V.same_self,mkRows,allDs,Rp.row,S.put,toDs,toD,htk,hle1]
   ·obtain rfl:=hs.qn rfl
    rcases wn with _ | ⟨w,wn⟩
    all_goals
     simp [tgB,lkV,lkD] at hBg
     simp [tgB,nB,mW,lkV,lkD,r13,hl,up] at hO
     simp [F_z_89,hC,hE,hBg,hO,callD,callR,sub,setAll,back,freezeAll,freeze1,reachC,cut,trg2,trg3,trg4,rg5,List.idxOf_cons,take_map_len,endH,V.same_self,mkRows,allDs,Rp.row,S.put,toDs,toD,htk,hle1]
  | some x =>
   rw [hg] at hO
   cases qn
   ·simp [tgB,lkV,lkD] at hBg
    simp [tgB,nB,mW,lkV,lkD,r13,hl,up] at hO
    simp [F_z_89,hC,hE,hBg,hO,callD,callR,sub,setAll,back,freezeAll,freeze1,reachC,cut,trg2,trg3,trg4,rg5,List.idxOf_cons,take_map_len,endH,V.same_self,mkRows,allDs,Rp.row,S.put,toDs,toD,htk,hle1]
   ·obtain rfl:=hs.qn rfl
    simp [tgB,lkV,lkD] at hBg
    simp [tgB,nB,mW,lkV,lkD,r13,hl,up] at hO
    simp [F_z_89,hC,hE,hBg,hO,callD,callR,sub,setAll,back,freezeAll,freeze1,reachC,cut,trg2,trg3,trg4,rg5,List.idxOf_cons,take_map_len,endH,V.same_self,mkRows,allDs,Rp.row,S.put,toDs,toD,htk,hle1]
theorem ev_apply (nm:D) (k sz ot:Int) (s:S) (hs:s.wz) (t op v p n:Int) :
  ev P (.call z_89 [.d (.ag [nm,I' k,I' sz,I' ot]),.d (.ag s.row),.d (.ag [I' t,I' op,I' v,I' p,I' n])] [])=some (.val (.tu [.d (.ag (ap k sz ot s t op v p n).1.row),.d (I' (ap k sz ot s t op v p n).2)]) []):=by
 by_cases hc:ckd k sz ot s=0
 ·by_cases he:callE s t op v p n=0
  ·rcases callE_op he with rfl | rfl | rfl | rfl
   ·exact ev_apply3 nm k sz ot s hs t v p n hc he
   ·exact ev_apply1 nm k sz ot s hs t v p n hc he
   ·exact ev_apply4 nm k sz ot s hs t v p n hc he
   ·exact ev_apply2 nm k sz ot s hs t v p n hc he
  ·exact ev_applyE nm k sz ot s hs t op v p n (.inr he)
 ·exact ev_applyE nm k sz ot s hs t op v p n (.inl hc)
end Go.VS.Sp
namespace Go.VS.Sp
theorem eqv {α:Type} {a b:α} (h:∀R,b=R→a=R):a=b:=h _ rfl
end Go.VS.Sp
namespace Go.VS.Sp
structure tRd where
 qn:Bool
 Q:List W
 cn:Bool
 C:List K
 wn:List tWk
def tRd.step (a:tRd) (w:W):tRd:=⟨false,pO (a.Q.filter fun x=>x.task != w.task),false,a.C.map (pubK (a.Q.filter fun x=>x.task != w.task) w.value),a.wn++⟨w.task,w.op,0⟩::pW w.value (a.Q.filter fun x=>x.task != w.task)⟩
def tRd.ok (a:tRd):Prop :=
 a.C.length≤100000∧(∀c∈a.C,(c.nl=true→c.log=[])∧c.log.length+a.Q.length≤100000)∧a.Q.length+a.wn.length≤90000
theorem flt_lt {Q:List W} {A B:List W} {w:W} (hQ:Q=A++w::B):(Q.filter fun x=>x.task != w.task).length<Q.length:=by
 have h1:=List.length_filter_le (fun x:W=>x.task != w.task) A
 have h2:=List.length_filter_le (fun x:W=>x.task != w.task) B
 rw [hQ]
 simp [List.filter_append]
 omega
theorem tRd.ok_step {a:tRd} {A B:List W} {w:W} (hQ:a.Q=A++w::B) (hok:a.ok):(a.step w).ok:=by
 obtain ⟨hc,hC,hw⟩:=hok
 have hlt:=flt_lt hQ
 unfold tRd.step
 generalize (a.Q.filter fun x=>x.task != w.task)=Q' at *
 have hl:=pO_le Q'
 have hl2:=pO_len w.value Q'
 refine ⟨?_,?_,?_⟩
 ·simp;exact hc
 ·intro c hcm
  simp only at hcm ⊢
  obtain ⟨c0,hc0,rfl⟩:=List.mem_map.1 hcm
  have:=hC c0 hc0
  unfold pubK
  split
  ·exact ⟨this.1,by omega⟩
  ·refine ⟨by simp,?_⟩
   simp only [List.length_append,List.length_singleton]
   omega
 ·simp only [List.length_append,List.length_cons]
  omega
end Go.VS.Sp
namespace Go.VS.Sp
end Go.VS.Sp
namespace Go.VS.Sp
end Go.VS.Sp
namespace Go.VS.Sp
end Go.VS.Sp
namespace Go.VS.Sp
end Go.VS.Sp
namespace Go.VS.Sp
theorem ckd_good {k sz ot:Int} {s:S} (h:ckd k sz ot s=0):mnew k sz ot=0∧s.good sz=true:=by
 unfold ckd at h
 split at h
 ·rename_i h1
  refine ⟨h1,?_⟩
  cases hg:s.good sz
  ·rw [hg] at h;simp at h
  ·rfl
 ·rename_i h1;exact absurd h h1
theorem ev_mReady (nm:D) (k sz ot:Int) (s:S) (hs:s.wz) (t op v p n:Int) :
  ev P (.call z_91 [.d (.ag [nm,I' k,I' sz,I' ot]),.d (.ag s.row),.d (.ag [I' t,I' op,I' v,I' p,I' n])] [])=some (.val (.d (.b ((ap k sz ot s t op v p n).2==0&&!(ap k sz ot s t op v p n).1.parked))) []):=by
 have h:=ev_apply nm k sz ot s hs t op v p n
 generalize ap k sz ot s t op v p n=r at *
 rw [ev_call P_z_91 rfl]
 cases hz:r.2==0<;>simp [F_z_91,h,hz]
end Go.VS.Sp
namespace Go.VS.Sp
structure S.same (s s':S):Prop where
 own:s.own=s'.own
 cnt:s.cnt=s'.cnt
 time:s.time=s'.time
 H:s.H=s'.H
 Q:s.Q=s'.Q
 B:s.B=s'.B
 C:s.C=s'.C
 cl:s.cl=s'.cl
 val:s.val=s'.val
theorem S.same.refl (s:S):s.same s:=⟨rfl,rfl,rfl,rfl,rfl,rfl,rfl,rfl,rfl⟩
structure Rp.same (r r':Rp):Prop where
 st:r.st.same r'.st
 parked:r.parked=r'.parked
 value:r.value=r'.value
 ok:r.ok=r'.ok
 wn:r.wn=r'.wn
end Go.VS.Sp
