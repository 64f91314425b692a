import Derived.Test.YtjpdopldkeodgaaGreatV09
import Derived.Test.YtjpdopldkeodgaaGreatV07
set_option linter.all false
namespace Go.VS.Sp
theorem loop_first21 (qn:Bool) (Q:List W) (op t:Int) (hn:Q.length≤1000000):∀(suf pre:List W),Q=pre++suf →
  ev P (.loop 0 [0,1,2,7] F_z_253_L0 [(0,.d (qD qn Q)),(1,.d (I' op)),(2,.d (I' t)),(7,.d (I' pre.length))] []) =
   if idx (fun w=>w.op==op&&w.task != t) (pre.length:Int) suf = -1 then some (.out (.exit 0) [] []) else some (.out .ret [(6,.d (I' (idx (fun w=>w.op==op&&w.task != t) (pre.length:Int) suf)))] []):=by
 intro suf
 induction suf with
 | nil =>
  intro pre hl
  have:Q.length=pre.length:=by simp [hl]
  rw [ev_loop]
  conv=>lhs;arg 4;unfold F_z_253_L0
  simp [this,idx]
 | cons w suf ih =>
  intro pre hl
  have hg:Q[pre.length]?=some w:=by simp [hl]
  have hlt:(pre.length:Int)<Q.length:=by simp [hl];omega
  have hnext:IntKind.i64.wrap ((pre.length:Int)+1)=pre.length+1:=wrap_i64 (by omega) (by omega)
  have ih':=ih (pre++[w]) (by simp [hl])
  have e:(((pre++[w]).length:Nat):Int)=(pre.length:Int)+1:=by simp
  rw [e] at ih'
  have hne:¬(pre.length:Int) = -1:=by omega
  rw [ev_loop]
  conv=>lhs;arg 4;unfold F_z_253_L0
  cases h1:w.op==op
  ·have hi:idx (fun w=>w.op==op&&w.task != t) (pre.length:Int) (w::suf)=idx (fun w=>w.op==op&&w.task != t) ((pre.length:Int)+1) suf:=by simp [idx,h1]
   rw [hi]
   generalize idx (fun w=>w.op==op&&w.task != t) ((pre.length:Int)+1) suf=z at *
   simp [hlt,hg,W.row,h1,hnext]
   exact ih'
  ·cases h2:w.task != t
   ·have hi:idx (fun w=>w.op==op&&w.task != t) (pre.length:Int) (w::suf)=idx (fun w=>w.op==op&&w.task != t) ((pre.length:Int)+1) suf:=by simp [idx,h2]
    rw [hi]
    generalize idx (fun w=>w.op==op&&w.task != t) ((pre.length:Int)+1) suf=z at *
    simp [hlt,hg,W.row,h1,h2,hnext]
    exact ih'
   ·have hi:idx (fun w=>w.op==op&&w.task != t) (pre.length:Int) (w::suf)=pre.length:=by simp [idx,h1,h2]
    rw [hi]
    simp [hlt,hg,W.row,h1,h2,hne]
theorem ev_first (qn:Bool) (Q:List W) (op t:Int) (hn:Q.length≤1000000):∃z,ev P (.call z_253 [.d (qD qn Q),.d (I' op),.d (I' t)] [])=some (.val (.d (I' z)) [])∧decide (0≤z)=fgn Q op t:=by
 have hl:=loop_first21 qn Q op t hn Q [] rfl
 have ha:=idx_any (p:=fun w:W=>w.op==op&&w.task != t) (l:=Q) (k:=0) (by omega)
 refine ⟨idx (fun w=>w.op==op&&w.task != t) 0 Q,?_,?_⟩
 ·simp at hl
  rw [ev_call P_z_253 rfl]
  by_cases hz:idx (fun w=>w.op==op&&w.task != t) 0 Q = -1
  ·rw [if_pos hz] at hl
   rw [hz]
   simp [F_z_253,hl]
  ·rw [if_neg hz] at hl
   generalize idx (fun w=>w.op==op&&w.task != t) 0 Q=z at *
   simp [F_z_253,hl]
 ·unfold fgn
  rw [Bool.eq_iff_iff,decide_eq_true_eq]
  exact ha
theorem loop_gq0 (qn:Bool) (Q pre:List W) (w:W) (r:List W) (hQ:Q=pre++w::r) (hn:Q.length≤1000000):∀(p2 p1:List W),pre=p1++p2 →
  ev P (.loop 0 [0,3,4] F_z_201_L0 [(0,.d (qD qn Q)),(3,.d (I' pre.length)),(4,.d (I' p1.length))] []) =
   if p2.any (clash w)=true then some (.out .ret [(2,.d (.b false))] []) else some (.out (.exit 2) [(0,.d (qD qn Q)),(3,.d (I' pre.length))] []):=by
 intro p2
 induction p2 with
 | nil =>
  intro p1 hl
  have:pre.length=p1.length:=by simp [hl]
  rw [ev_loop]
  conv=>lhs;arg 4;unfold F_z_201_L0
  simp [this]
 | cons x p2 ih =>
  intro p1 hl
  have hpl:pre.length<Q.length:=by simp [hQ]
  have hg:Q[p1.length]?=some x:=by rw [hQ,hl];simp
  have hg2:Q[pre.length]?=some w:=by rw [hQ];simp
  have hlt:(p1.length:Int)<pre.length:=by simp [hl];omega
  have hnext:IntKind.i64.wrap ((p1.length:Int)+1)=p1.length+1:=wrap_i64 (by omega) (by omega)
  have ih':=ih (p1++[x]) (by simp [hl])
  generalize hR:(if p2.any (clash w)=true then some (Res.out .ret [(2,V.d (.b false))] []) else some (.out (.exit 2) [(0,.d (qD qn Q)),(3,.d (I' pre.length))] []))=R at ih'
  rw [ev_loop]
  conv=>lhs;arg 4;unfold F_z_201_L0
  cases hc:clash w x
  ·have e:(x::p2).any (clash w)=p2.any (clash w):=by simp [hc]
   rw [e,hR]
   unfold clash at hc
   simp at ih'
   cases h1:x.task==w.task
   ·simp [hlt,hg,hg2,W.row,h1,hnext]
    exact ih'
   ·rw [h1,Bool.true_and] at hc
    simp [hlt,hg,hg2,W.row,h1,hc,hnext]
    exact ih'
  ·have e:(x::p2).any (clash w)=true:=by simp [hc]
   rw [e]
   unfold clash at hc
   rw [Bool.and_eq_true] at hc
   simp [hlt,hg,hg2,W.row,hc.1,hc.2]
def gC0 (w:W):Bool:=(w.op != 64&&w.op != 65)||(w.op==65&&w.value != 0)
theorem gC0_eq (w:W):gC0 w=fC0 w:=by
 unfold gC0 fC0
 rw [Bool.eq_iff_iff]
 simp
 omega
theorem loop_gq1 (qn:Bool) (Q:List W) (hn:Q.length≤1000000):∀(suf pre:List W),Q=pre++suf →
  ev P (.loop 0 [0,3] F_z_201_L1 [(0,.d (qD qn Q)),(3,.d (I' pre.length))] []) =
   if qall fC pre suf=true then some (.out (.exit 0) [] []) else some (.out .ret [(2,.d (.b false))] []):=by
 intro suf
 induction suf with
 | nil =>
  intro pre hl
  have:Q.length=pre.length:=by simp [hl]
  rw [ev_loop]
  conv=>lhs;arg 4;unfold F_z_201_L1
  simp [this,qall]
 | cons w suf ih =>
  intro pre hl
  have hg:Q[pre.length]?=some w:=by simp [hl]
  have hlt:(pre.length:Int)<Q.length:=by simp [hl];omega
  have hnext:IntKind.i64.wrap ((pre.length:Int)+1)=pre.length+1:=wrap_i64 (by omega) (by omega)
  have ih':=ih (pre++[w]) (by simp [hl])
  have h0:=loop_gq0 qn Q pre w suf hl hn pre [] rfl
  simp only [List.length_nil] at h0
  generalize hR:(if qall fC (pre++[w]) suf=true then some (Res.out (.exit 0) [] []) else some (.out .ret [(2,.d (.b false))] []))=R at ih'
  have hf0:=gC0_eq w
  rw [ev_loop]
  conv=>lhs;arg 4;unfold F_z_201_L1
  cases hf:fC0 w
  ·rw [hf] at hf0
   unfold gC0 at hf0
   rw [Bool.or_eq_false_iff] at hf0
   cases hp:pre.any (clash w)
   ·have hq:qall fC pre (w::suf)=qall fC (pre++[w]) suf:=by simp only [qall,fC,hf,hp,Bool.not_false,Bool.true_and]
    rw [hp,if_neg (by simp)] at h0
    rw [hq,hR]
    simp at ih' h0
    cases h5:w.op != 64
    ·cases h7:w.op==65
     ·simp [hlt,hg,W.row,h5,h7,h0,hnext]
      exact ih'
     ·have:=hf0.2
      rw [h7,Bool.true_and] at this
      simp [hlt,hg,W.row,h5,h7,this,h0,hnext]
      exact ih'
    ·have h6:=hf0.1
     rw [h5,Bool.true_and] at h6
     cases h7:w.op==65
     ·simp [hlt,hg,W.row,h5,h6,h7,h0,hnext]
      exact ih'
     ·have:=hf0.2
      rw [h7,Bool.true_and] at this
      simp [hlt,hg,W.row,h5,h6,h7,this,h0,hnext]
      exact ih'
   ·have hq:qall fC pre (w::suf)=false:=by simp only [qall,fC,hf,hp,Bool.not_false,Bool.not_true,Bool.and_false,Bool.false_and]
    rw [hp,if_pos rfl] at h0
    rw [hq]
    simp at h0
    cases h5:w.op != 64
    ·cases h7:w.op==65
     ·simp [hlt,hg,W.row,h5,h7,h0]
     ·have:=hf0.2
      rw [h7,Bool.true_and] at this
      simp [hlt,hg,W.row,h5,h7,this,h0]
    ·have h6:=hf0.1
     rw [h5,Bool.true_and] at h6
     cases h7:w.op==65
     ·simp [hlt,hg,W.row,h5,h6,h7,h0]
     ·have:=hf0.2
      rw [h7,Bool.true_and] at this
      simp [hlt,hg,W.row,h5,h6,h7,this,h0]
  ·have hq:qall fC pre (w::suf)=false:=by simp only [qall,fC,hf,Bool.not_true,Bool.false_and]
   rw [hf] at hf0
   unfold gC0 at hf0
   rw [hq]
   cases h5:w.op != 64
   ·rw [h5,Bool.false_and,Bool.false_or,Bool.and_eq_true] at hf0
    simp [hlt,hg,W.row,h5,hf0.1,hf0.2]
   ·cases h6:w.op != 65
    ·rw [h5,h6,Bool.and_false,Bool.false_or,Bool.and_eq_true] at hf0
     simp [hlt,hg,W.row,h5,h6,hf0.1,hf0.2]
    ·simp [hlt,hg,W.row,h5,h6]
theorem ev_gq (qn:Bool) (Q:List W) (hn:Q.length≤1000000):ev P (.call z_201 [.d (qD qn Q)] [])=some (.val (.d (.b (wchk Q==0&&qall fC [] Q))) []):=by
 have hl:=loop_gq1 qn Q hn Q [] rfl
 have hW:=ev_rchk qn Q hn
 rw [rchk_eq] at hW
 simp at hl
 rw [ev_call P_z_201 rfl]
 cases hw:wchk Q==0
 ·have hw':(wchk Q != 0)=true:=by rw [bne,hw];rfl
  simp [F_z_201,hW,hw']
 ·have hw':(wchk Q != 0)=false:=by rw [bne,hw];rfl
  cases hq:qall fC [] Q
  ·rw [hq] at hl
   simp [F_z_201,hW,hw',hl]
  ·rw [hq] at hl
   simp [F_z_201,hW,hw',hl]
end Go.VS.Sp
namespace Go.VS.Sp
def gV (cl:Bool) (sz:Int) (bl:Nat) (Q:List W) (w:W):Bool:=cl||((w.op==64&&(decide ((bl:Int)<sz)||fgn Q 65 w.task))||(w.op==65&&(decide ((0:Int)<bl)||fgn Q 64 w.task)))
theorem loop_wv (nm:D) (k sz ot:Int) (d0 d1 d2 d3 d6 d8:D) (cl bn qn:Bool) (B:List Int) (Q:List W) (hn:Q.length≤1000000):∀(suf pre:List W),Q=pre++suf →
  ev P (.loop 0 [2,3,5] F_z_202_L0 [(2,.d (.ref [nm,I' k,I' sz,I' ot])),(3,.d (.ref [d0,d1,d2,d3,qD qn Q,hD bn B,d6,.b cl,d8])),(5,.d (I' pre.length))] []) =
   if suf.any (gV cl sz B.length Q)=true then some (.out .ret [(4,.d (.b true))] []) else some (.out (.exit 0) [] []):=by
 intro suf
 induction suf with
 | nil =>
  intro pre hl
  have:Q.length=pre.length:=by simp [hl]
  rw [ev_loop]
  conv=>lhs;arg 4;unfold F_z_202_L0
  simp [this]
 | cons w suf ih =>
  intro pre hl
  have hg:Q[pre.length]?=some w:=by simp [hl]
  have hlt:(pre.length:Int)<Q.length:=by simp [hl];omega
  have hnext:IntKind.i64.wrap ((pre.length:Int)+1)=pre.length+1:=wrap_i64 (by omega) (by omega)
  have ih':=ih (pre++[w]) (by simp [hl])
  obtain ⟨z1,f1,k1⟩:=ev_first qn Q 65 w.task hn
  obtain ⟨z2,f2,k2⟩:=ev_first qn Q 64 w.task hn
  have hgv:gV cl sz B.length Q w=(cl||((w.op==64&&(decide ((B.length:Int)<sz)||decide (0≤z1)))||(w.op==65&&(decide ((0:Int)<B.length)||decide (0≤z2))))):=by
   unfold gV;rw [k1,k2]
  generalize hR:(if suf.any (gV cl sz B.length Q)=true then some (Res.out .ret [(4,V.d (.b true))] []) else some (.out (.exit 0) [] []))=R at ih'
  rw [ev_loop]
  conv=>lhs;arg 4;unfold F_z_202_L0
  cases hc:gV cl sz B.length Q w
  ·have e:(w::suf).any (gV cl sz B.length Q)=suf.any (gV cl sz B.length Q):=by simp [hc]
   rw [e,hR]
   rw [hgv,Bool.or_eq_false_iff,Bool.or_eq_false_iff] at hc
   obtain ⟨hcl,ha,hb⟩:=hc
   subst hcl
   simp at ih'
   cases h4:w.op==64
   ·cases h5:w.op==65
    ·simp [hlt,hg,W.row,h4,h5,hnext]
     exact ih'
    ·rw [h5,Bool.true_and,Bool.or_eq_false_iff] at hb
     have hb1:¬0<B.length:=by simpa using hb.1
     have hb2:¬0≤z2:=by simpa using hb.2
     simp [hlt,hg,W.row,h4,h5,hb1,f2,hb2,hnext]
     exact ih'
   ·have h5:(w.op==65)=false:=by
     have:w.op=64:=by simpa using h4
     rw [this];rfl
    rw [h4,Bool.true_and,Bool.or_eq_false_iff] at ha
    have ha1:¬(B.length:Int)<sz:=by simpa using ha.1
    have ha2:¬0≤z1:=by simpa using ha.2
    simp [hlt,hg,W.row,h4,h5,ha1,f1,ha2,hnext]
    exact ih'
  ·have e:(w::suf).any (gV cl sz B.length Q)=true:=by simp [hc]
   rw [e]
   rw [hgv] at hc
   cases cl
   ·rw [Bool.false_or] at hc
    cases h4:w.op==64
    ·rw [h4,Bool.false_and,Bool.false_or,Bool.and_eq_true] at hc
     cases hb:decide (0<B.length)
     ·have hb1:¬0<B.length:=by simpa using hb
      have hb0:decide ((0:Int)<B.length)=false:=by simpa using hb1
      have h2:=hc.2
      rw [hb0,Bool.false_or] at h2
      have h2':0≤z2:=by simpa using h2
      simp [hlt,hg,W.row,h4,hc.1,hb1,f2,h2']
     ·have hb1:0<B.length:=by simpa using hb
      simp [hlt,hg,W.row,h4,hc.1,hb1]
    ·cases ha:decide ((B.length:Int)<sz)
     ·have ha1:¬(B.length:Int)<sz:=by simpa using ha
      have h5:(w.op==65)=false:=by
       have:w.op=64:=by simpa using h4
       rw [this];rfl
      rw [h4,ha,h5,Bool.true_and,Bool.false_or,Bool.false_and,Bool.or_false] at hc
      have h1':0≤z1:=by simpa using hc
      simp [hlt,hg,W.row,h4,ha1,f1,h1']
     ·have ha1:(B.length:Int)<sz:=by simpa using ha
      simp [hlt,hg,W.row,h4,ha1]
   ·simp [hlt,hg,W.row]
theorem ev_wv (nm:D) (k sz ot:Int) (d0 d1 d2 d3 d6 d8:D) (cl bn qn:Bool) (B:List Int) (Q:List W) (hn:Q.length≤1000000) :
  ev P (.call z_202 [.d (.ag [nm,I' k,I' sz,I' ot]),.d (.ag [d0,d1,d2,d3,qD qn Q,hD bn B,d6,.b cl,d8])] [])=some (.val (.d (.b (Q.any (gV cl sz B.length Q)))) []):=by
 have hl:=loop_wv nm k sz ot d0 d1 d2 d3 d6 d8 cl bn qn B Q hn Q [] rfl
 simp only [List.length_nil] at hl
 rw [ev_call P_z_202 rfl]
 cases hq:Q.any (gV cl sz B.length Q)
 ·rw [hq,if_neg (by simp)] at hl
  simp at hl
  simp [F_z_202,hl]
 ·rw [hq,if_pos rfl] at hl
  simp at hl
  simp [F_z_202,hl]
theorem qall_ops:∀(l pre:List W),qall fC pre l=true→∀w∈l,w.op=64∨w.op=65
 | [],_,_,_,h=>by simp at h
 | a::r,pre,h,w,hw=>by
  simp only [qall,Bool.and_eq_true] at h
  rcases List.mem_cons.1 hw with rfl | hw
  ·have:=h.1
   unfold fC fC0 at this
   simp at this
   have:=this.1
   omega
  ·exact qall_ops r _ h.2 w hw
theorem okCq_ref (sz:Int) (s:S):okCq sz s=(!okCbr sz s&&(!(s.B.any fun n=>!num n)&&((wchk s.Q==0&&qall fC [] s.Q)&&!s.Q.any (gV s.cl sz s.B.length s.Q)))):=by
 unfold okCq
 rw [←okCb_ref]
 cases hA:okCb sz s
 ·cases hq:qall fC [] s.Q
  ·simp
  ·have hops:=qall_ops _ _ hq
   have hB:(s.B.length:Int)≤sz:=by
    unfold okCb at hA
    simp at hA
    omega
   have key:((!s.cl||(s.Q.length:Int)==0)&&!s.Q.any (cvn sz s.B.length s.Q))=!s.Q.any (gV s.cl sz s.B.length s.Q):=by
    cases hcl:s.cl
    ·have e:s.Q.any (cvn sz s.B.length s.Q)=s.Q.any (gV false sz s.B.length s.Q):=by
      rw [Bool.eq_iff_iff,List.any_eq_true,List.any_eq_true]
      refine exists_congr fun w=>and_congr_right fun hw=>?_
      unfold cvn gV
      rcases hops w hw with h | h
      ·simp [h]
       have:¬(s.B.length:Int)=sz↔(s.B.length:Int)<sz:=by omega
       rw [this]
      ·simp [h]
     rw [e];rfl
    ·cases hQ:s.Q with
     | nil=>rfl
     | cons a r=>simp [gV];omega
   rw [key]
   generalize (s.B.any fun n=>!num n)=b1
   generalize (wchk s.Q==0)=b2
   cases b1<;>cases b2<;>simp
 ·rfl
end Go.VS.Sp
namespace Go.VS.Sp
theorem loop_Crq (o:List D) (d0 d1 d2 d3 d4 d6 d7 d8:D) (bn:Bool) (B:List Int) (hn1:B.length≤1000000):∀(suf pre:List Int),B=pre++suf →
  ev P (.loop 0 [2,3,7] F_z_117_L0 [(2,.d (.ref o)),(3,.d (.ref [d0,d1,d2,d3,d4,hD bn B,d6,d7,d8])),(7,.d (I' pre.length))] []) =
   if (suf.any fun n=>!num n)=true then some (.out .ret [(4,.d (I' 1))] []) else some (.out (.exit 0) [(2,.d (.ref o)),(3,.d (.ref [d0,d1,d2,d3,d4,hD bn B,d6,d7,d8]))] []):=by
 intro suf
 induction suf with
 | nil =>
  intro pre hl
  have:B.length=pre.length:=by simp [hl]
  rw [ev_loop]
  conv=>lhs;arg 4;unfold F_z_117_L0
  simp [this]
 | cons t suf ih =>
  intro pre hl
  have hg:B[pre.length]?=some t:=by simp [hl]
  have hlt:(pre.length:Int)<B.length:=by simp [hl];omega
  have hnext:IntKind.i64.wrap ((pre.length:Int)+1)=pre.length+1:=wrap_i64 (by omega) (by omega)
  have ih':=ih (pre++[t]) (by simp [hl])
  rw [List.any_cons]
  generalize (suf.any fun n=>!num n)=dd at *
  simp at ih'
  rw [ev_loop]
  conv=>lhs;arg 4;unfold F_z_117_L0
  cases h1:num t
  ·simp [hlt,hg,ev_inR21,h1]
  ·simp [hlt,hg,ev_inR21,h1,hnext]
   exact ih'
theorem ev_ckCrq (nm:D) (k sz ot:Int) (s:S) (hs:s.sm) :
  ev P (.call z_117 [.d (.ag [nm,I' k,I' sz,I' ot]),.d (.ag s.row)] [])=some (.val (.d (I' (ck (nwC k sz ot) (okCq sz s)))) []):=by
 rw [okCq_ref]
 obtain ⟨own,cnt,time,hn,H,qn,Q,bn,B,cn,C,cl,val⟩:=s
 obtain ⟨h1,h2,h3,h4,_⟩:=hs
 simp only at h1 h2 h3 h4
 have hL:∀o:List D,ev P (.loop 0 [2,3,7] F_z_117_L0 [(2,.d (.ref o)),(3,.d (.ref [I' own,I' cnt,I' time,hD hn H,qD qn Q,hD bn B,cD cn C,.b cl,I' val])),(7,.d (I' 0))] []) =
   if (B.any fun n=>!num n)=true then some (.out .ret [(4,.d (I' 1))] []) else some (.out (.exit 0) [(2,.d (.ref o)),(3,.d (.ref [I' own,I' cnt,I' time,hD hn H,qD qn Q,hD bn B,cD cn C,.b cl,I' val]))] []):=fun o=>loop_Crq o _ _ _ _ _ _ _ _ bn B h2 B [] rfl
 have hV:=ev_wv nm k sz ot (I' own) (I' cnt) (I' time) (hD hn H) (cD cn C) (I' val) cl bn qn B Q (by omega)
 have hG:=ev_gq qn Q (by omega)
 rw [ev_call P_z_117 rfl]
 unfold ck
 simp only
 generalize (B.any fun n=>!num n)=bb at *
 generalize Q.any (gV cl sz B.length Q)=vv at *
 generalize (wchk Q==0&&qall fC [] Q)=gg at *
 cases hm:nwC k sz ot==0
 ·have hm':nwC k sz ot≠0:=by simpa using hm
  have hm2:(nwC k sz ot != 0)=true:=by simpa using hm'
  simp [F_z_117,ev_nwCr,hm',hm2,zrow]
 ·have hm':nwC k sz ot=0:=by simpa using hm
  cases hA:okCbr sz ⟨own,cnt,time,hn,H,qn,Q,bn,B,cn,C,cl,val⟩
  ·unfold okCbr at hA
   simp only at hA
   cases bb
   ·simp at hL
    cases gg
    ·simp [F_z_117,ev_nwCr,hm',frow,hA,hL,hG]
    ·cases vv<;>simp [F_z_117,ev_nwCr,hm',frow,hA,hL,hG,hV]
   ·simp at hL
    simp [F_z_117,ev_nwCr,hm',frow,hA,hL]
  ·unfold okCbr at hA
   simp only at hA
   simp [F_z_117,ev_nwCr,hm',frow,hA]
theorem loop_F0 (d0 d1 d2 d3 d5 d6 d7 d8:D) (qn:Bool) (Q pre:List W) (w:W) (r:List W) (hQ:Q=pre++w::r) (hn:Q.length≤1000000):∀(p2 p1:List W),pre=p1++p2 →
  ev P (.loop 0 [3,7,8] F_z_120_L0 [(3,.d (.ref [d0,d1,d2,d3,qD qn Q,d5,d6,d7,d8])),(7,.d (I' pre.length)),(8,.d (I' p1.length))] []) =
   if p2.any (fun x=>x.task==w.task)=true then some (.out .ret [(4,.d (I' 1))] []) else some (.out (.exit 2) [(3,.d (.ref [d0,d1,d2,d3,qD qn Q,d5,d6,d7,d8])),(7,.d (I' pre.length))] []):=by
 intro p2
 induction p2 with
 | nil =>
  intro p1 hl
  have:pre.length=p1.length:=by simp [hl]
  rw [ev_loop]
  conv=>lhs;arg 4;unfold F_z_120_L0
  simp [this]
 | cons x p2 ih =>
  intro p1 hl
  have hpl:pre.length<Q.length:=by simp [hQ]
  have hg:Q[p1.length]?=some x:=by rw [hQ,hl];simp
  have hg2:Q[pre.length]?=some w:=by rw [hQ];simp
  have hlt:(p1.length:Int)<pre.length:=by simp [hl];omega
  have hnext:IntKind.i64.wrap ((p1.length:Int)+1)=p1.length+1:=wrap_i64 (by omega) (by omega)
  have ih':=ih (p1++[x]) (by simp [hl])
  rw [List.any_cons]
  generalize (p2.any fun x=>x.task==w.task)=dd at *
  simp at ih'
  rw [ev_loop]
  conv=>lhs;arg 4;unfold F_z_120_L0
  cases h1:x.task==w.task
  ·simp [hlt,hg,hg2,W.row,h1,hnext]
   exact ih'
  ·simp [hlt,hg,hg2,W.row,h1]
theorem loop_F1 (d0 d1 d2 d3 d5 d6 d7 d8:D) (qn:Bool) (Q:List W) (hn:Q.length≤1000000):∀(suf pre:List W),Q=pre++suf →
  ev P (.loop 0 [3,7] F_z_120_L1 [(3,.d (.ref [d0,d1,d2,d3,qD qn Q,d5,d6,d7,d8])),(7,.d (I' pre.length))] []) =
   if qall fF pre suf=true then some (.out (.exit 0) [] []) else some (.out .ret [(4,.d (I' 1))] []):=by
 intro suf
 induction suf with
 | nil =>
  intro pre hl
  have:Q.length=pre.length:=by simp [hl]
  rw [ev_loop]
  conv=>lhs;arg 4;unfold F_z_120_L1
  simp [this,qall]
 | cons w suf ih =>
  intro pre hl
  have hg:Q[pre.length]?=some w:=by simp [hl]
  have hlt:(pre.length:Int)<Q.length:=by simp [hl];omega
  have hnext:IntKind.i64.wrap ((pre.length:Int)+1)=pre.length+1:=wrap_i64 (by omega) (by omega)
  have ih':=ih (pre++[w]) (by simp [hl])
  have h0:=loop_F0 d0 d1 d2 d3 d5 d6 d7 d8 qn Q pre w suf hl hn pre [] rfl
  simp only [List.length_nil] at h0
  generalize hR:(if qall fF (pre++[w]) suf=true then some (Res.out (.exit 0) [] []) else some (.out .ret [(4,.d (I' 1))] []))=R at ih'
  rw [ev_loop]
  conv=>lhs;arg 4;unfold F_z_120_L1
  cases hf:(w.op != 74||w.value != 0||w.case != -1)
  ·cases hp:pre.any (fun x=>x.task==w.task)
   ·have hq:qall fF pre (w::suf)=qall fF (pre++[w]) suf:=by
     have:fF pre w=true:=by unfold fF;rw [hp,Bool.false_or,hf];rfl
     simp only [qall,this,Bool.true_and]
    rw [hp,if_neg (by simp)] at h0
    rw [hq,hR]
    simp at ih' h0
    simp [hlt,hg,W.row,hf,h0,hnext]
    exact ih'
   ·have hq:qall fF pre (w::suf)=false:=by
     have:fF pre w=false:=by unfold fF;rw [hp];simp
     simp only [qall,this,Bool.false_and]
    rw [hp,if_pos rfl] at h0
    rw [hq]
    simp at h0
    simp [hlt,hg,W.row,hf,h0]
  ·have hq:qall fF pre (w::suf)=false:=by
    have:fF pre w=false:=by
     unfold fF
     cases pre.any (fun x=>x.task==w.task)
     ·rw [Bool.false_or,hf];rfl
     ·simp
    simp only [qall,this,Bool.false_and]
   rw [hq]
   simp [hlt,hg,W.row,hf]
theorem okFq_ref (s:S):okFq s=(!okFbr s&&(!(!num s.val||(!s.cl&&s.val != 0)||(s.cl&&decide ((0:Int)<s.Q.length))||wchk s.Q != 0)&&qall fF [] s.Q)):=by
 have h1:=okF_ref s
 have e:okFp s=!okFbr s:=by
  unfold okFp okFbr
  rw [len1,len1,len1]
  generalize s.H.isEmpty=b1
  generalize s.B.isEmpty=b2
  generalize s.C.isEmpty=b3
  rw [Bool.eq_iff_iff]
  simp
 unfold okFq
 rw [e]
 have e2:((s.Q.length:Int)==0)=!decide ((0:Int)<s.Q.length):=by
  cases s.Q with
  | nil=>rfl
  | cons a r=>simp;omega
 rw [e2]
 generalize okFbr s=b1
 generalize num s.val=b2
 generalize qall fF [] s.Q=b3
 generalize decide ((0:Int)<s.Q.length)=b4
 rw [Bool.eq_iff_iff]
 cases s.cl<;>simp<;>grind
theorem ev_ckFrq (nm:D) (k sz ot:Int) (s:S) (hs:s.sm) :
  ev P (.call z_120 [.d (.ag [nm,I' k,I' sz,I' ot]),.d (.ag s.row)] [])=some (.val (.d (I' (ck (nwA 9 k sz ot) (okFq s)))) []):=by
 rw [okFq_ref]
 obtain ⟨own,cnt,time,hn,H,qn,Q,bn,B,cn,C,cl,val⟩:=s
 have h3:=hs.q
 simp only at h3
 have hl:=loop_F1 (I' own) (I' cnt) (I' time) (hD hn H) (hD bn B) (cD cn C) (.b cl) (I' val) qn Q h3 Q [] rfl
 have hW:=ev_rchk qn Q h3
 rw [rchk_eq] at hW
 simp at hl
 rw [ev_call P_z_120 rfl]
 unfold ck
 simp only
 cases hm:nwA 9 k sz ot==0
 ·have hm':nwA 9 k sz ot≠0:=by simpa using hm
  have hm2:(nwA 9 k sz ot != 0)=true:=by simpa using hm'
  simp [F_z_120,ev_nwFr,hm',hm2,zrow]
 ·have hm':nwA 9 k sz ot=0:=by simpa using hm
  cases hA:okFbr ⟨own,cnt,time,hn,H,qn,Q,bn,B,cn,C,cl,val⟩
  ·unfold okFbr at hA
   simp only at hA
   cases hB:(!num val||(!cl&&val != 0)||(cl&&decide ((0:Int)<Q.length))||wchk Q != 0)
   ·have hB':=hB
    rw [Bool.or_eq_false_iff,Bool.or_eq_false_iff,Bool.or_eq_false_iff] at hB'
    obtain ⟨⟨⟨b1,b2⟩,b3⟩,b4⟩:=hB'
    have hv:num val=true:=by simpa using b1
    cases hq:qall fF [] Q
    ·rw [hq] at hl
     cases cl
     ·simp at b2
      subst b2
      simp [F_z_120,ev_nwFr,hm',frow,hA,ev_inR25,hv,hW,b4,hl]
     ·simp at b3
      subst b3
      simp at hl
      simp [F_z_120,ev_nwFr,hm',frow,hA,ev_inR25,hv,hW,b4,hl]
    ·rw [hq] at hl
     cases cl
     ·simp at b2
      subst b2
      simp [F_z_120,ev_nwFr,hm',frow,hA,ev_inR25,hv,hW,b4,hl]
     ·simp at b3
      subst b3
      simp at hl
      simp [F_z_120,ev_nwFr,hm',frow,hA,ev_inR25,hv,hW,b4,hl]
   ·cases hv:num val
    ·simp [F_z_120,ev_nwFr,hm',frow,hA,ev_inR25,hv]
    ·rw [hv,Bool.not_true,Bool.false_or] at hB
     cases cl
     ·cases hz:val != 0
      ·rw [hz] at hB
       simp only [Bool.and_false,Bool.false_and,Bool.false_or] at hB
       simp [F_z_120,ev_nwFr,hm',frow,hA,ev_inR25,hv,hz,hW,hB]
      ·simp [F_z_120,ev_nwFr,hm',frow,hA,ev_inR25,hv,hz]
     ·cases hz:decide (0<Q.length)
      ·have hz':¬0<Q.length:=by simpa using hz
       have hz2:decide ((0:Int)<Q.length)=false:=by simpa using hz'
       rw [hz2] at hB
       simp only [Bool.and_false,Bool.not_true,Bool.false_and,Bool.false_or] at hB
       simp [F_z_120,ev_nwFr,hm',frow,hA,ev_inR25,hv,hz',hW,hB]
      ·have hz':0<Q.length:=by simpa using hz
       simp [F_z_120,ev_nwFr,hm',frow,hA,ev_inR25,hv,hz']
  ·unfold okFbr at hA
   simp only at hA
   simp [F_z_120,ev_nwFr,hm',frow,hA]
end Go.VS.Sp
namespace Go.VS.R
open Go.VS.Sp
def isTask (n:Int):Bool:=decide (0≤n)&&decide (n<16)
theorem ev_isTask (n:Int):ev P (.call z_131 [.d (I' n)] [])=some (.val (.d (.b (isTask n))) []):=by
 rw [ev_call P_z_131 rfl]
 simp [F_z_131,isTask]
def wbad (w:Sp.W):Bool:=(decide (w.task<0)||decide (16≤w.task)||decide (w.op<1)||decide (99<w.op)||decide (w.value < -1099511627776)||decide (1099511627776<w.value))
def wvalid (w:Sp.W):Bool:=!wbad w&&(decide (0≤w.prio)&&decide (w.prio≤9)&&decide (-1≤w.case)&&decide (w.case<6))
theorem ev_wvalid (a b c d e:Int):ev P (.call z_218 [.d (.ag [I' a,I' b,I' c,I' d,I' e])] [])=some (.val (.d (.b (wvalid ⟨a,b,c,d,e⟩))) []):=by
 rw [ev_call P_z_218 rfl]
 cases h:wbad ⟨a,b,c,d,e⟩<;>simp only [wvalid,h]<;>unfold wbad at h<;>simp [F_z_218,Sp.W.row,h]
def wcheckFrom (d:Int) (prev:Option Sp.W):List Sp.W→Int
 | []=>0
 | w::r=>if wvalid w=false then 2 else if d=2∧(prev.any fun p=>decide (p.prio<w.prio))=true then 9 else wcheckFrom d (some w) r
theorem wrap1:IntKind.i64.wrap 1=1:=by decide
theorem loop_wcheck (d:Int) (nl:Bool) (l:List Sp.W) (hn:l.length≤96):∀(suf pre:List Sp.W),l=pre++suf →
  ev P (.loop 0 [0,1,16,17,18] F_z_142_L0 [(0,.d (I' d)),(1,.d (.sl 5 nl (l.map Sp.W.row))),(16,.d (.sl 5 nl (l.map Sp.W.row))),(17,.d (I' l.length)),(18,.d (I' pre.length))] []) =
   if wcheckFrom d pre.getLast? suf=0 then some (.out (.exit 0) [] []) else some (.out .ret [(4,.d (I' (wcheckFrom d pre.getLast? suf)))] []):=by
 intro suf
 induction suf with
 | nil =>
  intro pre hl
  have:l.length=pre.length:=by simp [hl]
  rw [ev_loop]
  conv=>lhs;arg 4;unfold F_z_142_L0
  simp [this,wcheckFrom]
 | cons w suf ih =>
  intro pre hl
  have hg:l[pre.length]?=some w:=by simp [hl]
  have hlt:(pre.length:Int)<l.length:=by simp [hl];omega
  rw [ev_loop]
  conv=>lhs;arg 4;unfold F_z_142_L0
  simp [hlt,hg,Sp.W.row,ev_wvalid]
  cases hv:wvalid w
  ·simp [wcheckFrom,hv]
  ·simp
   have hnext:IntKind.i64.wrap ((pre.length:Int)+1)=pre.length+1:=wrap_i64 (by omega) (by omega)
   have ih':=ih (pre++[w]) (by simp [hl])
   simp at ih'
   rcases List.eq_nil_or_concat pre with rfl | ⟨pre',p,rfl⟩
   ·simp [wcheckFrom,hv,wrap1] at *
    exact ih'
   ·have hgp:l[pre'.length]?=some p:=by simp [hl]
    have hlen:((pre'.length:Int)+1<l.length):=by simp [hl];omega
    have hw:IntKind.i64.wrap ((pre'.length:Int)+1 - 1)=pre'.length:=by rw [wrap_i64 (by omega) (by omega)];omega
    have h0:(0:Int)<pre'.length+1:=by omega
    have hw2:IntKind.i64.wrap (pre'.length:Int)=pre'.length:=wrap_i64 (by omega) (by omega)
    have hw3:IntKind.i64.wrap ((pre'.length:Int)+1+1)=pre'.length+1+1:=wrap_i64 (by omega) (by omega)
    simp at ih'
    by_cases hd:d=2
    ·by_cases hp:p.prio<w.prio
     ·subst hd
      simp [wcheckFrom,hv,hp,hw2,hw3,hgp,Sp.W.row,h0]
     ·subst hd
      simp [wcheckFrom,hv,hp,hw2,hw3,hgp,Sp.W.row,h0]
      exact ih'
    ·have hd2:(d==2)=false:=by simp [hd]
     simp [wcheckFrom,hv,hd,hd2,hw2,hw3,hgp,Sp.W.row,h0]
     exact ih'
def wchk (l:List Sp.W):Int:=if 96<l.length then 4 else wcheckFrom 1 none l
theorem ev_wCheck (nl:Bool) (l:List Sp.W):ev P (.call z_142 [.d (I' 1),.d (.sl 5 nl (l.map Sp.W.row))] []) =
  some (.val (.d (I' (wchk l))) []):=by
 unfold wchk
 rw [ev_call P_z_142 rfl]
 by_cases h:96<l.length
 ·have h':(96:Int)<l.length:=by omega
  simp [F_z_142,h,h']
 ·have h':¬(96:Int)<l.length:=by omega
  have hl:=loop_wcheck 1 nl l (by omega) l [] rfl
  simp at hl
  simp [F_z_142,h,h',hl]
  by_cases hc:wcheckFrom 1 none l=0<;>simp [hc]
theorem allD_map':∀(ds:List D),allD (ds.map V.d)=some ds
 | []=>rfl
 | d::ds=>by simp [allD_map' ds]
theorem allD_mid {a b:List D} {x:D}:allD (a.map V.d++.d x::b.map V.d)=some (a++x::b):=by
 have:=allD_map' (a++x::b)
 simpa using this
def idx (p:Sp.W→Bool):Int→List Sp.W→Int
 | _,[]=>-1
 | k,w::r=>if p w then k else idx p (k+1) r
theorem loop_IndexFunc {f:Nat} {first caps:List D} {p:Sp.W→Bool} (nl:Bool) (l:List Sp.W) (hn:l.length≤1000000)
  (hp:∀a b c d e,ev P (.call f (first.map V.d++[.d (.ag [I' a,I' b,I' c,I' d,I' e])]++caps.map V.d) [])=some (.val (.d (.b (p ⟨a,b,c,d,e⟩))) [])) :
  ∀(suf pre:List Sp.W),l=pre++suf →
  ev P (.loop 0 [0,1,7,8] F_z_123_L0 [(0,.d (.sl 5 nl (l.map Sp.W.row))),(1,.d (.fn f first caps)),(7,.d (I' l.length)),(8,.d (I' pre.length))] []) =
   if idx p pre.length suf = -1 then some (.out (.exit 0) [] []) else some (.out .ret [(4,.d (I' (idx p pre.length suf)))] []):=by
 intro suf
 induction suf with
 | nil =>
  intro pre hl
  have:l.length=pre.length:=by simp [hl]
  rw [ev_loop]
  conv=>lhs;arg 4;unfold F_z_123_L0
  simp [this,idx]
 | cons w suf ih =>
  intro pre hl
  have hg:l[pre.length]?=some w:=by simp [hl]
  have hlt:(pre.length:Int)<l.length:=by simp [hl];omega
  have hnext:IntKind.i64.wrap ((pre.length:Int)+1)=pre.length+1:=wrap_i64 (by omega) (by omega)
  have ih':=ih (pre++[w]) (by simp [hl])
  simp at ih' hp
  rw [ev_loop]
  conv=>lhs;arg 4;unfold F_z_123_L0
  simp [hlt,hg,Sp.W.row,hp,allD_mid]
  cases hw:p w
  ·simp [idx,hw,hnext]
   exact ih'
  ·have:¬(pre.length:Int) = -1:=by omega
   simp [idx,hw,this]
theorem ev_IndexFunc {f:Nat} {first caps:List D} {p:Sp.W→Bool} (nl:Bool) (l:List Sp.W) (hn:l.length≤1000000)
  (hp:∀a b c d e,ev P (.call f (first.map V.d++[.d (.ag [I' a,I' b,I' c,I' d,I' e])]++caps.map V.d) [])=some (.val (.d (.b (p ⟨a,b,c,d,e⟩))) [])) :
  ev P (.call z_123 [.d (.sl 5 nl (l.map Sp.W.row)),.d (.fn f first caps)] [])=some (.val (.d (I' (idx p 0 l))) []):=by
 rw [ev_call P_z_123 rfl]
 have hl:=loop_IndexFunc nl l hn hp l [] rfl
 simp at hl
 simp [F_z_123,hl]
 by_cases hc:idx p 0 l = -1<;>simp [hc]
theorem idx_any {p:Sp.W→Bool}:∀{l:List Sp.W} {k:Int},0≤k→(0≤idx p k l↔l.any p=true)
 | [],k,_=>by simp [idx]
 | w::r,k,hk=>by
  by_cases hw:p w=true
  ·simp [idx,hw,hk]
  ·simp [idx,hw,idx_any (l:=r) (k:=k+1) (by omega)]
theorem ev_ContainsFunc {f:Nat} {first caps:List D} {p:Sp.W→Bool} (nl:Bool) (l:List Sp.W) (hn:l.length≤1000000)
  (hp:∀a b c d e,ev P (.call f (first.map V.d++[.d (.ag [I' a,I' b,I' c,I' d,I' e])]++caps.map V.d) [])=some (.val (.d (.b (p ⟨a,b,c,d,e⟩))) [])) :
  ev P (.call z_57 [.d (.sl 5 nl (l.map Sp.W.row)),.d (.fn f first caps)] [])=some (.val (.d (.b (l.any p))) []):=by
 rw [ev_call P_z_57 rfl]
 have hi:=ev_IndexFunc nl l hn hp
 simp [F_z_57,hi]
 have:=idx_any (p:=p) (l:=l) (k:=0) (by omega)
 cases ha:l.any p
 ·have hc:¬0≤idx p 0 l:=fun h=>by rw [this.1 h] at ha;cases ha
  simp [hc]
 ·have hc:0≤idx p 0 l:=this.2 ha
  simp [hc]
abbrev rows1 (l:List Int):List (List D):=l.map fun x=>[I' x]
abbrev hD (n:Bool) (l:List Int):D:=.sl 1 n (rows1 l)
abbrev qD (n:Bool) (l:List Sp.W):D:=.sl 5 n (l.map Sp.W.row)
abbrev cD (n:Bool) (l:List (List D)):D:=.sl 2 n l
theorem take_map_len {α β:Type} {f:α→β} {r:List α}:List.take r.length (r.map f)=r.map f:=List.take_of_length_le (by simp)
theorem drop_map_len {α β:Type} {f:α→β} {r:List α}:List.drop (r.length+1) (r.map f)=[]:=List.drop_eq_nil_of_le (by simp)
end Go.VS.R
namespace Go.VS.R
open Go.VS.Sp
def fdS (q:List Sp.W) (t:Int):Int×Bool:=match q.findIdx? (fun w=>w.task==t) with | some i=>(i,true) | none=>(0,false)
theorem loop_Find (nl:Bool) (l:List Sp.W) (t:Int) (hn:l.length≤1000000):∀(suf pre:List Sp.W),l=pre++suf →
  ev P (.loop 0 [1,8,9,10] F_z_132_L0 [(1,.d (I' t)),(8,.d (qD nl l)),(9,.d (I' l.length)),(10,.d (I' pre.length))] []) =
   match suf.findIdx? (fun w=>w.task==t) with
   | none=>some (.out (.exit 0) [] [])
   | some k=>some (.out .ret [(4,.d (I' ((pre.length+k:Nat):Int))),(5,.d (.b true))] []):=by
 intro suf
 induction suf with
 | nil =>
  intro pre hl
  have:l.length=pre.length:=by simp [hl]
  rw [ev_loop]
  conv=>lhs;arg 4;unfold F_z_132_L0
  simp [this]
 | cons w suf ih =>
  intro pre hl
  have hg:l[pre.length]?=some w:=by simp [hl]
  have hlt:(pre.length:Int)<l.length:=by simp [hl];omega
  have hnext:IntKind.i64.wrap ((pre.length:Int)+1)=pre.length+1:=wrap_i64 (by omega) (by omega)
  have ih':=ih (pre++[w]) (by simp [hl])
  simp at ih'
  rw [ev_loop]
  conv=>lhs;arg 4;unfold F_z_132_L0
  rw [List.findIdx?_cons]
  cases hw:w.task==t
  ·simp [hlt,hg,Sp.W.row,hw,hnext]
   rw [ih']
   cases suf.findIdx? (fun w=>w.task==t) with
   | none=>rfl
   | some k=>simp;omega
  ·simp [hlt,hg,Sp.W.row,hw]
theorem ev_wFind (nl:Bool) (l:List Sp.W) (t:Int) (hn:l.length≤1000000) :
  ev P (.call z_132 [.d (qD nl l),.d (I' t)] [])=some (.val (.tu [.d (I' (fdS l t).1),.d (.b (fdS l t).2)]) []):=by
 rw [ev_call P_z_132 rfl]
 have hl:=loop_Find nl l t hn l [] rfl
 simp at hl
 unfold fdS
 cases h:l.findIdx? (fun w=>w.task==t) with
 | none=>rw [h] at hl;simp [F_z_132,hl]
 | some k=>rw [h] at hl;simp at hl;simp [F_z_132,hl]
theorem loop_rFind (nl:Bool) (l:List Sp.W) (t:Int) (hn:l.length≤1000000):∀(suf pre:List Sp.W),l=pre++suf →
  ev P (.loop 0 [0,1,6] F_z_198_L0 [(0,.d (qD nl l)),(1,.d (I' t)),(6,.d (I' pre.length))] []) =
   match suf.findIdx? (fun w=>w.task==t) with
   | none=>some (.out (.exit 0) [] [])
   | some k=>some (.out .ret [(4,.d (I' ((pre.length+k:Nat):Int))),(5,.d (.b true))] []):=by
 intro suf
 induction suf with
 | nil =>
  intro pre hl
  have:l.length=pre.length:=by simp [hl]
  rw [ev_loop]
  conv=>lhs;arg 4;unfold F_z_198_L0
  simp [this]
 | cons w suf ih =>
  intro pre hl
  have hg:l[pre.length]?=some w:=by simp [hl]
  have hlt:(pre.length:Int)<l.length:=by simp [hl];omega
  have hnext:IntKind.i64.wrap ((pre.length:Int)+1)=pre.length+1:=wrap_i64 (by omega) (by omega)
  have ih':=ih (pre++[w]) (by simp [hl])
  simp at ih'
  rw [ev_loop]
  conv=>lhs;arg 4;unfold F_z_198_L0
  rw [List.findIdx?_cons]
  cases hw:w.task==t
  ·simp [hlt,hg,Sp.W.row,hw,hnext]
   rw [ih']
   cases suf.findIdx? (fun w=>w.task==t) with
   | none=>rfl
   | some k=>simp;omega
  ·simp [hlt,hg,Sp.W.row,hw]
theorem ev_rFind (nl:Bool) (l:List Sp.W) (t:Int) (hn:l.length≤1000000) :
  ev P (.call z_198 [.d (qD nl l),.d (I' t)] [])=some (.val (.tu [.d (I' (fdS l t).1),.d (.b (fdS l t).2)]) []):=by
 rw [ev_call P_z_198 rfl]
 have hl:=loop_rFind nl l t hn l [] rfl
 simp at hl
 unfold fdS
 cases h:l.findIdx? (fun w=>w.task==t) with
 | none=>rw [h] at hl;simp [F_z_198,hl]
 | some k=>rw [h] at hl;simp at hl;simp [F_z_198,hl]
end Go.VS.R
namespace Go.VS.R
open Go.VS.Sp
theorem ev_rTask (n:Int):ev P (.call z_251 [.d (I' n)] [])=some (.val (.d (.b (isTask n))) []):=by
 rw [ev_call P_z_251 rfl]
 simp [F_z_251,isTask]
def mnew (k sz ot:Int):Int:=if (k != 2)=true then 8 else if (sz != 0||ot != 0)=true then 2 else 0
def zrow:List D:=[I' 0,I' 0,I' 0,hD true [],qD true [],hD true [],cD true [],.b false,I' 0]
def frow:List D:=[I' (-1),I' 0,I' 0,hD true [],qD true [],hD true [],cD true [],.b false,I' 0]
theorem ev_mNew (nm:D) (k sz ot:Int):ev P (.call z_67 [.d (.ag [nm,I' k,I' sz,I' ot])] []) =
  some (.val (.tu [.d (.ag (if mnew k sz ot=0 then frow else zrow)),.d (I' (mnew k sz ot))]) []):=by
 rw [ev_call P_z_67 rfl]
 cases h1:k != 2<;>simp only [mnew,h1]
 ·cases h2:sz != 0||ot != 0<;>simp [F_z_67,h1,h2,frow,zrow]
 ·simp [F_z_67,h1,zrow]
theorem ev_rNew (nm:D) (k sz ot:Int):ev P (.call z_50 [.d (.ag [nm,I' k,I' sz,I' ot])] []) =
  some (.val (.tu [.d (.ag (if mnew k sz ot=0 then frow else zrow)),.d (I' (mnew k sz ot))]) []):=by
 rw [ev_call P_z_50 rfl]
 cases h1:k != 2<;>simp only [mnew,h1]
 ·cases h2:sz != 0||ot != 0<;>simp [F_z_50,h1,h2,frow,zrow]
 ·simp [F_z_50,h1,zrow]
def idI (t:Int):Nat→List Int→Option Nat
 | _,[]=>none
 | k,x::r=>if t=x then some k else idI t (k+1) r
theorem idI_some {t:Int}:∀{l:List Int} {k:Nat},(idI t k l).isSome=decide (t∈l)
 | [],k=>by simp [idI]
 | x::r,k=>by
  unfold idI
  by_cases h:t=x
  ·simp [h]
  ·rw [if_neg h,idI_some];simp [h]
theorem loop_Index (nl:Bool) (l:List Int) (t:Int) (hn:l.length≤1000000):∀(suf pre:List Int),l=pre++suf →
  ev P (.loop 0 [0,1,7,8] F_z_261_L0 [(0,.d (hD nl l)),(1,.d (I' t)),(7,.d (I' l.length)),(8,.d (I' pre.length))] []) =
   match idI t pre.length suf with
   | none=>some (.out (.exit 0) [] [])
   | some k=>some (.out .ret [(4,.d (I' k))] []):=by
 intro suf
 induction suf with
 | nil =>
  intro pre hl
  have:l.length=pre.length:=by simp [hl]
  rw [ev_loop]
  conv=>lhs;arg 4;unfold F_z_261_L0
  simp [this,idI]
 | cons w suf ih =>
  intro pre hl
  have hg:l[pre.length]?=some w:=by simp [hl]
  have hlt:(pre.length:Int)<l.length:=by simp [hl];omega
  have hnext:IntKind.i64.wrap ((pre.length:Int)+1)=pre.length+1:=wrap_i64 (by omega) (by omega)
  have ih':=ih (pre++[w]) (by simp [hl])
  simp at ih'
  rw [ev_loop]
  conv=>lhs;arg 4;unfold F_z_261_L0
  unfold idI
  by_cases hw:t=w
  ·simp [hlt,hg,hw]
  ·have hw2:(t==w)=false:=by simpa using hw
   simp [hlt,hg,hw,hw2,hnext]
   exact ih'
theorem ev_Contains (nl:Bool) (l:List Int) (t:Int) (hn:l.length≤1000000) :
  ev P (.call z_215 [.d (hD nl l),.d (I' t)] [])=some (.val (.d (.b (decide (t∈l)))) []):=by
 have hl:=loop_Index nl l t hn l [] rfl
 simp at hl
 have hI:ev P (.call z_261 [.d (hD nl l),.d (I' t)] [])=some (.val (.d (I' (match idI t 0 l with | none=>-1 | some k=>k))) []):=by
  rw [ev_call P_z_261 rfl]
  cases hi:idI t 0 l<;>(rw [hi] at hl;simp [F_z_261,hl])
 have hs:=idI_some (t:=t) (l:=l) (k:=0)
 rw [←hs]
 rw [ev_call P_z_215 rfl]
 cases hi:idI t 0 l<;>(rw [hi] at hI;simp [F_z_215,hI])
def hld (own:Int) (H:List Int) (t:Int):Int:=if (decide (0≤t)&&t==own)=true then 2 else if t∈H then 1 else 0
theorem ev_holds (own:Int) (a b c d e f g:D) (nl:Bool) (H:List Int) (t:Int) (hn:H.length≤1000000) :
  ev P (.call z_134 [.d (.ag [I' own,a,b,hD nl H,c,d,e,f,g]),.d (I' t)] [])=some (.val (.d (I' (hld own H t))) []):=by
 have hC:=ev_Contains nl H t hn
 rw [ev_call P_z_134 rfl]
 unfold hld
 cases h1:(decide (0≤t)&&t==own)
 ·simp [F_z_134,h1]
  by_cases h2:t∈H<;>simp [h2] at hC<;>simp [hC,h2]
 ·simp [F_z_134,h1]
theorem loop_reads (own:D) (a b c d e f g:D) (nl:Bool) (l:List Int) (t:Int) (hn:l.length≤1000000):∀(suf pre:List Int),l=pre++suf →
  ev P (.loop 0 [1,2,5] F_z_250_L0 [(1,.d (I' t)),(2,.d (.ref [own,a,b,hD nl l,c,d,e,f,g])),(5,.d (I' pre.length))] []) =
   if t∈suf then some (.out .ret [(4,.d (.b true))] []) else some (.out (.exit 0) [] []):=by
 intro suf
 induction suf with
 | nil =>
  intro pre hl
  have:l.length=pre.length:=by simp [hl]
  rw [ev_loop]
  conv=>lhs;arg 4;unfold F_z_250_L0
  simp [this]
 | cons w suf ih =>
  intro pre hl
  have hg:l[pre.length]?=some w:=by simp [hl]
  have hlt:(pre.length:Int)<l.length:=by simp [hl];omega
  have hnext:IntKind.i64.wrap ((pre.length:Int)+1)=pre.length+1:=wrap_i64 (by omega) (by omega)
  have ih':=ih (pre++[w]) (by simp [hl])
  simp at ih'
  rw [ev_loop]
  conv=>lhs;arg 4;unfold F_z_250_L0
  by_cases hw:t=w
  ·subst hw
   simp [hlt,hg]
  ·have hw2:(w==t)=false:=by simpa using fun h=>hw h.symm
   simp [hlt,hg,hw,hw2,hnext]
   exact ih'
theorem ev_reads (own:D) (a b c d e f g:D) (nl:Bool) (l:List Int) (t:Int) (hn:l.length≤1000000) :
  ev P (.call z_250 [.d (.ag [own,a,b,hD nl l,c,d,e,f,g]),.d (I' t)] [])=some (.val (.d (.b (decide (t∈l)))) []):=by
 have hl:=loop_reads own a b c d e f g nl l t hn l [] rfl
 simp at hl
 rw [ev_call P_z_250 rfl]
 by_cases h:t∈l<;>simp [h] at hl<;>simp [F_z_250,hl,h]
theorem ev_rHolds (own:Int) (a b c d e f g:D) (nl:Bool) (H:List Int) (t:Int) (hn:H.length≤1000000) :
  ev P (.call z_189 [.d (.ag [I' own,a,b,hD nl H,c,d,e,f,g]),.d (I' t)] [])=some (.val (.d (I' (hld own H t))) []):=by
 have hC:=ev_reads (I' own) a b c d e f g nl H t hn
 rw [ev_call P_z_189 rfl]
 unfold hld
 have he:(own==t)=(t==own):=Bool.beq_comm
 cases h1:(decide (0≤t)&&t==own)
 ·simp [F_z_189,he,h1]
  by_cases h2:t∈H<;>simp [h2] at hC<;>simp [hC,h2]
 ·simp [F_z_189,he,h1]
end Go.VS.R
namespace Go.VS.R
open Go.VS.Sp
theorem ev_isNaN (n:Int):ev P (.call z_281 [.d (I' n)] [])=some (.val (.d (.b false)) []):=by
 rw [ev_call P_z_281 rfl]
 simp [F_z_281]
theorem ev_sNaN (n:Int):ev P (.call z_285 [.d (I' n)] [])=some (.val (.d (.b false)) []):=by
 rw [ev_call P_z_285 rfl]
 simp [F_z_285]
theorem ev_Less (a b:Int):ev P (.call z_284 [.d (I' a),.d (I' b)] [])=some (.val (.d (.b (decide (a<b)))) []):=by
 rw [ev_call P_z_284 rfl]
 by_cases h:a<b<;>simp [F_z_284,ev_isNaN,h]
def Asc (l:List Int):Prop:=l.Pairwise (·≤·)
def bI (t:Int) (l:List Int):Nat:=(l.takeWhile fun x=>decide (x<t)).length
theorem bI_le (t:Int):∀(l:List Int),bI t l≤l.length
 | []=>by simp [bI]
 | w::q=>by
  have:=bI_le t q
  unfold bI at *
  simp only [List.takeWhile_cons]
  split<;>simp;omega
theorem bI_lt {t x:Int}:∀{l:List Int} {k:Nat},Asc l→l[k]?=some x→(k<bI t l↔x<t)
 | [],k,_,h=>by simp at h
 | a::q,0,_,h=>by
  have:a=x:=by simpa using h
  subst this
  by_cases hp:a<t<;>simp [bI,List.takeWhile_cons,hp]
 | a::q,k+1,hd,h=>by
  have hd':=List.pairwise_cons.1 hd
  have hq:q[k]?=some x:=by simpa using h
  have hw:x∈q:=List.mem_of_getElem? hq
  have h1:=hd'.1 x hw
  have ih:=bI_lt (t:=t) (k:=k) hd'.2 hq
  by_cases hp:a<t
  ·have:bI t (a::q)=bI t q+1:=by simp [bI,List.takeWhile_cons,hp]
   rw [this,←ih];omega
  ·have:bI t (a::q)=0:=by simp [bI,List.takeWhile_cons,hp]
   rw [this];constructor<;>intro h3<;>omega
theorem mid_eq {i j:Nat} (h:i+j≤4000000):IntKind.i64.wrap ((IntKind.u64.wrap ((i:Int)+j)).fdiv (2 ^ min 1 IntKind.u64.bits))=(((i+j) / 2:Nat):Int):=by
 have h1:IntKind.u64.wrap ((i:Int)+j)=(i:Int)+j:=by
  have e0:IntKind.u64.bits=64:=rfl
  simp only [IntKind.wrap,e0,IntKind.signed,Bool.false_and,Bool.false_eq_true,if_false]
  omega
 have h2:(2:Int) ^ min 1 IntKind.u64.bits=2:=by decide
 rw [h1,h2,Int.fdiv_eq_ediv_of_nonneg _ (by omega),wrap_i64 (by omega) (by omega)]
 omega
theorem getR {l:List Int} {R:List (List D)} {m:Nat} {x:Int} (hR:l.length≤R.length) (hT:R.take l.length=rows1 l) (hx:l[m]?=some x):R[m]?=some [I' x]∧m<l.length:=by
 have hm:m<l.length:=(List.getElem?_eq_some_iff.1 hx).1
 refine ⟨?_,hm⟩
 have h1:(R.take l.length)[m]?=some [I' x]:=by rw [hT];simp [hx]
 rw [List.getElem?_take] at h1
 simpa [hm] using h1
theorem loop_BS (l:List Int) (R:List (List D)) (t:Int) (hn:l.length≤1000000) (hR:l.length≤R.length) (hT:R.take l.length=rows1 l) (hA:Asc l):∀(n i j:Nat),j - i≤n→i≤bI t l→bI t l≤j→j≤l.length →
  ev P (.loop 1 [0,1,6,7,8] F_z_262q_L0 [(0,.asl 0 0 l.length),(1,.d (I' t)),(6,.d (I' l.length)),(7,.d (I' i)),(8,.d (I' j))] [.arrD 1 true R]) =
   some (.out (.exit 0) [(0,.asl 0 0 l.length),(1,.d (I' t)),(6,.d (I' l.length)),(7,.d (I' (bI t l)))] [.arrD 1 true R]):=by
 intro n
 induction n with
 | zero =>
  intro i j h1 h2 h3 h4
  have e1:i=bI t l:=by omega
  have e2:j=bI t l:=by omega
  rw [ev_loop]
  conv=>lhs;arg 4;unfold F_z_262q_L0
  simp [e1,e2,reachC,cut]
 | succ n ih =>
  intro i j h1 h2 h3 h4
  by_cases hij:i=j
  ·have e1:i=bI t l:=by omega
   have e2:j=bI t l:=by omega
   rw [ev_loop]
   conv=>lhs;arg 4;unfold F_z_262q_L0
   simp [e1,e2,reachC,cut]
  ·have hlt:i<j:=by omega
   have hw1:IntKind.i64.wrap ((i:Int)+j)=i+j:=wrap_i64 (by omega) (by omega)
   have hm:=mid_eq (i:=i) (j:=j) (by omega)
   generalize hmm:(i+j) / 2=m at hm
   have hm1:i≤m:=by omega
   have hm2:m<j:=by omega
   obtain ⟨x,hx⟩:∃x,l[m]?=some x:=⟨l[m]'(by omega),by simp⟩
   have hb:=bI_lt (t:=t) hA hx
   obtain ⟨hg,hml⟩:=getR hR hT hx
   have hm3:IntKind.i64.wrap ((m:Int)+1)=m+1:=wrap_i64 (by omega) (by omega)
   have hml2:(m:Int)<l.length:=by omega
   have hmR:m<R.length:=by omega
   have hgg:R[m]=[I' x]:=by rw [List.getElem?_eq_getElem hmR] at hg;exact Option.some.inj hg
   rw [ev_loop]
   conv=>lhs;arg 4;unfold F_z_262q_L0
   by_cases hp:x<t
   ·have ih':=ih (m+1) j (by omega) (by omega) (by omega) h4
    simp at ih'
    simp [hlt,hw1,hm,hm3,hml,hml2,hmR,hgg,ev_Less,hp,reachC,cut]
    exact ih'
   ·have ih':=ih i m (by omega) (by omega) (by omega) (by omega)
    simp [hlt,hw1,hm,hml,hml2,hmR,hgg,ev_Less,hp,reachC,cut]
    exact ih'
theorem ev_BS (l:List Int) (R:List (List D)) (t:Int) (hn:l.length≤1000000) (hR:l.length≤R.length) (hT:R.take l.length=rows1 l) (hA:Asc l) :
  ∃b,ev P (.call z_262q [.asl 0 0 l.length,.d (I' t)] [.arrD 1 true R])=some (.val (.tu [.d (I' (bI t l)),.d (.b b)]) [.arrD 1 true R]):=by
 have hb:=bI_le t l
 have hl:=loop_BS l R t hn hR hT hA l.length 0 l.length (by omega) (by omega) hb (by omega)
 simp at hl
 by_cases h:bI t l<l.length
 ·obtain ⟨x,hx⟩:∃x,l[bI t l]?=some x:=⟨l[bI t l],by simp⟩
  obtain ⟨hg,_⟩:=getR hR hT hx
  have hbR:bI t l<R.length:=by omega
  have hgg:R[bI t l]=[I' x]:=by rw [List.getElem?_eq_getElem hbR] at hg;exact Option.some.inj hg
  have h2:(bI t l:Int)<l.length:=by omega
  generalize bI t l=B at *
  by_cases hxt:x=t
  ·refine ⟨true,?_⟩
   subst hxt
   rw [ev_call P_z_262q rfl]
   simp [F_z_262q,hl,h,h2,hbR,hgg,reachC,cut,endH]
  ·refine ⟨false,?_⟩
   have hxt2:(x==t)=false:=by simpa using hxt
   rw [ev_call P_z_262q rfl]
   simp [F_z_262q,hl,h,h2,hbR,hgg,ev_sNaN,hxt2,reachC,cut,endH]
 ·have h2:¬(bI t l:Int)<l.length:=by omega
  refine ⟨false,?_⟩
  rw [ev_call P_z_262q rfl]
  simp [F_z_262q,hl,h,h2,reachC,cut,endH]
theorem ev_BS0 (t:Int):ev P (.call z_262q [.d (.sl 1 true []),.d (I' t)] [])=some (.val (.tu [.d (I' 0),.d (.b false)]) []):=by
 have hl:ev P (.loop 0 [0,1,6,7,8] F_z_262q_L0 [(0,.d (.sl 1 true [])),(1,.d (I' t)),(6,.d (I' 0)),(7,.d (I' 0)),(8,.d (I' 0))] []) =
   some (.out (.exit 0) [(0,.d (.sl 1 true [])),(1,.d (I' t)),(6,.d (I' 0)),(7,.d (I' 0))] []):=by
  rw [ev_loop]
  conv=>lhs;arg 4;unfold F_z_262q_L0
  simp
 rw [ev_call P_z_262q rfl]
 simp [F_z_262q,hl,endH]
end Go.VS.R
namespace Go.VS.R
open Go.VS.Sp
theorem ev_CloneI (nl:Bool) (q:List Int) (hnl:nl=true→q=[]) (hn:q.length≤1000000) :
  ev P (.call z_214 [.d (hD nl q)] [])=if nl=true then some (.val (.d (.sl 1 true [])) []) else some (.val (.asl 0 0 q.length) [.arrD 1 true (rows1 q)]):=by
 rw [ev_call P_z_214 rfl]
 cases nl
 ·have hr:q.length≤room:=by unfold room;omega
  cases q with
  | nil=>simp [F_z_214,mkRows,allDs,reachC,cut,endH]
  | cons a r =>
   simp at hr
   simp [F_z_214,mkRows,allDs,reachC,cut,hr,endH]
 ·simp [F_z_214,endH]
theorem ev_Clone (nl:Bool) (q:List Sp.W) (hnl:nl=true→q=[]) (hn:q.length≤1000000) :
  ev P (.call z_153 [.d (qD nl q)] [])=if nl=true then some (.val (.d (.sl 5 true [])) []) else some (.val (.asl 0 0 q.length) [.arrD 5 true (q.map Sp.W.row)]):=by
 rw [ev_call P_z_153 rfl]
 cases nl
 ·have hr:q.length≤room:=by unfold room;omega
  cases q with
  | nil=>simp [F_z_153,mkRows,allDs,reachC,cut,endH]
  | cons a r =>
   simp at hr
   simp [F_z_153,mkRows,allDs,reachC,cut,hr,endH]
 ·simp [F_z_153,endH]
end Go.VS.R
namespace Go.VS.R
open Go.VS.Sp
def hV:Option (List (List D)×Nat)→Nat→V
 | none,_=>.d (.sl 1 true [])
 | some (_,n),i=>.asl i 0 n
def hO:Option (List (List D)×Nat)→List O
 | none=>[]
 | some (R,_)=>[.arrD 1 true R]
def qV:Bool ⊕ (List (List D)×Nat×Nat)→Nat→V
 | .inl nl,_=>.d (.sl 5 nl [])
 | .inr (_,off,len),i=>.asl i off len
def qO:Bool ⊕ (List (List D)×Nat×Nat)→List O
 | .inl _=>[]
 | .inr (R,_,_)=>[.arrD 5 true R]
def kV:Option (List (List D))→Nat→V
 | none,_=>.d (.sl 5 true [])
 | some R,i=>.asl i 0 R.length
def kO:Option (List (List D))→List O
 | none=>[]
 | some R=>[.arrD 5 true R]
structure Z where
 c1:D
 c2:D
 c5:D
 c6:D
 c7:D
 c8:D
def lk (z:Z) (own:Int) (h q k:V):O:=.arrV 10 [[.d (I' own),.d z.c1,.d z.c2,h,q,.d z.c5,.d z.c6,.d z.c7,.d z.c8,k]]
def heap3 (z:Z) (own:Int) (H:Option (List (List D)×Nat)) (Q:Bool ⊕ (List (List D)×Nat×Nat)) (K:Option (List (List D))):List O :=
 lk z own (hV H 1) (qV Q (1+(hO H).length)) (kV K (1+(hO H).length+(qO Q).length))::(hO H++(qO Q++kO K))
def hlen:Option (List (List D)×Nat)→Nat
 | none=>0
 | some (_,n)=>n
theorem rg2:List.range 2=[0,1]:=rfl
theorem rg3:List.range 3=[0,1,2]:=rfl
theorem rg4:List.range 4=[0,1,2,3]:=rfl
theorem rg5:List.range 5=[0,1,2,3,4]:=rfl
theorem ev_writes (z:Z) (own:Int) (H) (Q) (K):ev P (.call z_136 [.loc 0 0 0] (heap3 z own H Q K))=some (.val (.d (.b (own != -1))) (heap3 z own H Q K)):=by
 rw [ev_call P_z_136 rfl]
 rcases H with _ | ⟨R,n⟩<;>rcases Q with nl | ⟨S,off,len⟩<;>rcases K with _ | T <;>
  simp [F_z_136,heap3,lk,hV,hO,qV,qO,kV,kO,reachC,cut,rg2,rg3,rg4,rg5,List.idxOf_cons,endH]
theorem ev_free (z:Z) (own:Int) (H) (Q) (K):ev P (.call z_135 [.loc 0 0 0] (heap3 z own H Q K))=some (.val (.d (.b (own == -1&&(hlen H:Int)==0))) (heap3 z own H Q K)):=by
 have hW:=ev_writes z own H Q K
 rw [ev_call P_z_135 rfl]
 cases ho:own == -1
 ·have ho2:(own != -1)=true:=by simp [bne,ho]
  rw [ho2] at hW
  rcases H with _ | ⟨R,n⟩<;>rcases Q with nl | ⟨S,off,len⟩<;>rcases K with _ | T <;>
   (
    simp [heap3,lk,hV,hO,qV,qO,kV,kO] at hW
    simp [F_z_135,heap3,lk,hV,hO,qV,qO,kV,kO,reachC,cut,rg2,rg3,rg4,rg5,List.idxOf_cons,endH,callR,sub,setAll,back,hW,hlen])
 ·have ho2:(own != -1)=false:=by simp [bne,ho]
  rw [ho2] at hW
  rcases H with _ | ⟨R,n⟩<;>rcases Q with nl | ⟨S,off,len⟩<;>rcases K with _ | T <;>
   (
    simp [heap3,lk,hV,hO,qV,qO,kV,kO] at hW
    simp [F_z_135,heap3,lk,hV,hO,qV,qO,kV,kO,reachC,cut,rg2,rg3,rg4,rg5,List.idxOf_cons,endH,callR,sub,setAll,back,hW,hlen])
end Go.VS.R
namespace Go.VS.R
open Go.VS.Sp
def insI (t:Int) (l:List Int):List Int:=l.take (bI t l)++t::l.drop (bI t l)
theorem insI_len (t:Int) (l:List Int):(insI t l).length=l.length+1:=by
 have:=bI_le t l
 unfold insI;simp;omega
def hX:Option (List (List D)×Nat)→List O
 | none=>[]
 | some _=>[.dead]
theorem ev_grantW (z:Z) (own t:Int) (H) (Q) (K):ev P (.call z_216 [.loc 0 0 0,.d (I' t),.d (I' 55)] (heap3 z own H Q K))=some (.val (.tu []) (heap3 z t H Q K)):=by
 rw [ev_call P_z_216 rfl]
 rcases H with _ | ⟨R,n⟩<;>rcases Q with nl | ⟨S,off,len⟩<;>rcases K with _ | T <;>
  simp [F_z_216,heap3,lk,hV,hO,qV,qO,kV,kO,reachC,cut,rg2,rg3,rg4,rg5,List.idxOf_cons,endH,overlay]
def heapG (z:Z) (own:Int) (H:Option (List (List D)×Nat)) (Q:Bool ⊕ (List (List D)×Nat×Nat)) (K:Option (List (List D))) (R:List (List D)):List O :=
 lk z own (.asl (1+(hO H).length+(qO Q).length+(kO K).length) 0 R.length) (qV Q (1+(hO H).length)) (kV K (1+(hO H).length+(qO Q).length))::(hX H++(qO Q++(kO K++[.arrD 1 true R])))
theorem ev_grant0 (z:Z) (own t o:Int) (Q) (K) (ho:o≠55):ev P (.call z_216 [.loc 0 0 0,.d (I' t),.d (I' o)] (heap3 z own none Q K))=some (.val (.tu []) (heapG z own none Q K [[I' t]])):=by
 have hI:=ev_prim P_z_263 (p:=insP 1) rfl
 have ho2:(o==55)=false:=by simpa using ho
 have r1:1≤room:=by decide
 rw [ev_call P_z_216 rfl]
 rcases Q with nl | ⟨S,off,len⟩<;>rcases K with _ | T <;>
  simp [F_z_216,ho2,ev_BS0,hI,insP,insRows,r1,heap3,heapG,lk,hV,hO,hX,qV,qO,kV,kO,callR,sub,setAll,back,reachC,cut,rg2,rg3,rg4,rg5,List.idxOf_cons,endH,overlay]
theorem ev_grant1 (z:Z) (own t o:Int) (l:List Int) (R:List (List D)) (Q) (K) (ho:o≠55) (hn:l.length≤1000000) (hR:l.length≤R.length) (hT:R.take l.length=rows1 l) (hA:Asc l) :
  ev P (.call z_216 [.loc 0 0 0,.d (I' t),.d (I' o)] (heap3 z own (some (R,l.length)) Q K))=some (.val (.tu []) (heapG z own (some (R,l.length)) Q K (rows1 (insI t l)))):=by
 have hI:=ev_prim P_z_263 (p:=insP 1) rfl
 have ho2:(o==55)=false:=by simpa using ho
 obtain ⟨b,hB⟩:=ev_BS l R t hn hR hT hA
 have hb:=bI_le t l
 have r1:l.length+1≤room:=by unfold room;omega
 have hlen:(insI t l).length=l.length+1:=insI_len t l
 have hrow:rows1 (insI t l)=(rows1 l).take (bI t l)++[I' t]::(rows1 l).drop (bI t l):=by unfold insI rows1;simp [List.map_take,List.map_drop]
 rw [hrow]
 have hlen2:((rows1 l).take (bI t l)++[I' t]::(rows1 l).drop (bI t l)).length=l.length+1:=by simp;omega
 have hT':R.take l.length=rows1 l:=hT
 generalize bI t l=B at *
 generalize hrr:rows1 l=rr at *
 unfold heapG
 rw [hlen2]
 rw [ev_call P_z_216 rfl]
 rcases Q with nl | ⟨S,off,len⟩<;>rcases K with _ | T <;>
  simp [F_z_216,ho2,hB,hb,hI,insP,insRows,r1,hR,hT',heap3,lk,hV,hO,hX,qV,qO,kV,kO,callR,sub,setAll,back,reachC,cut,rg2,rg3,rg4,rg5,List.idxOf_cons,endH,overlay]
end Go.VS.R
namespace Go.VS.R
open Go.VS.Sp
theorem bI_split (t:Int):∀{l:List Int},Asc l→(∀x,x∈l.take (bI t l)→x<t)∧(∀x,x∈l.drop (bI t l)→t≤x)
 | [],_=>by simp
 | a::q,hs=>by
  have hs':=List.pairwise_cons.1 hs
  by_cases hp:a<t
  ·have e:bI t (a::q)=bI t q+1:=by simp [bI,List.takeWhile_cons,hp]
   obtain ⟨h1,h2⟩:=bI_split t hs'.2
   rw [e]
   constructor
   ·intro w hw
    rw [List.take_succ_cons] at hw
    rcases List.mem_cons.1 hw with rfl | hw
    ·exact hp
    ·exact h1 w hw
   ·intro w hw
    rw [List.drop_succ_cons] at hw
    exact h2 w hw
  ·have e:bI t (a::q)=0:=by simp [bI,List.takeWhile_cons,hp]
   rw [e]
   refine ⟨by simp,?_⟩
   intro w hw
   rw [List.drop_zero] at hw
   rcases List.mem_cons.1 hw with rfl | hw
   ·omega
   ·have:=hs'.1 w hw;omega
theorem asc_ins {t:Int} {l:List Int} (h:Asc l):Asc (insI t l):=by
 obtain ⟨h1,h2⟩:=bI_split t h
 unfold insI Asc
 rw [List.pairwise_append]
 refine ⟨h.sublist (List.take_sublist _ _),List.pairwise_cons.2 ⟨h2,h.sublist (List.drop_sublist _ _)⟩,?_⟩
 intro a ha b hb
 rcases List.mem_cons.1 hb with rfl | hb
 ·exact Int.le_of_lt (h1 a ha)
 ·exact Int.le_trans (Int.le_of_lt (h1 a ha)) (h2 b hb)
theorem take_snoc {α:Type} {l:List α} {x:α}:List.take (l.length+1) (l++[x])=l++[x]:=List.take_of_length_le (by simp)
def wk (w:Sp.W):List D:=[I' w.task,I' w.op,I' 0,.b true,I' (-1)]
def insA (l:List Int) (q:List Sp.W):List Int:=q.foldl (fun l w=>insI w.task l) l
def qcV (i off:Nat):List Sp.W→V
 | []=>.d (.sl 5 false [])
 | r=>.asl i off r.length
def heapL (z:Z) (own:Int) (pre:List O) (S:List (List D)) (off:Nat) (r:List Sp.W) (l:List Int) (k:List (List D)):List O :=
 lk z own (.asl (pre.length+2) 0 l.length) (qcV (pre.length+1) off r) (.asl (pre.length+3) 0 k.length)::(pre++[.arrD 5 true S,.arrD 1 true (rows1 l),.arrD 5 true k])
theorem loop_serveG (z:Z) (pre:List O) (hpre:pre=[]∨pre=[.dead]) (S:List (List D)):∀(r:List Sp.W) (off:Nat) (l:List Int) (k:List (List D)),Asc l→l.length+r.length≤100000→k.length+r.length≤100000→l≠[]→k≠[]→S.drop off=r.map Sp.W.row →
  ev P (.loop (pre.length+2) [0] F_z_140_L0 [(0,.loc 0 0 0)] (heapL z (-1) pre S off r l k)) =
   some (.out (.exit 0) [] (heapL z (-1) pre S (off+(r.takeWhile fun w=>w.op != 55).length) (r.dropWhile fun w=>w.op != 55) (insA l (r.takeWhile fun w=>w.op != 55)) (k++(r.takeWhile fun w=>w.op != 55).map wk))):=by
 intro r
 induction r with
 | nil =>
  intro off l k hA hn hk hl0 hk0 hS
  rw [ev_loop]
  conv=>lhs;arg 4;unfold F_z_140_L0
  rcases hpre with rfl | rfl <;>
   simp [heapL,lk,qcV,insA,reachC,cut,rg2,rg3,rg4,rg5,List.idxOf_cons]
 | cons w r ih =>
  intro off l k hA hn hk hl0 hk0 hS
  simp at hn hk
  have hSl:S.length=off+(r.length+1):=by
   have:=congrArg List.length hS
   simp at this
   omega
  have hoff:off<S.length:=by omega
  have hS0:S[off]=w.row:=by
   have:=congrArg (fun x=>x[0]?) hS
   simpa [List.getElem?_eq_getElem hoff] using this
  have hS1:S.drop (off+1)=r.map Sp.W.row:=by
   have:=congrArg (fun x=>x.drop 1) hS
   simpa [List.drop_drop] using this
  have hl1:¬((l.length:Int)==0)=true:=by
   simp;exact hl0
  have hl2:((l.length:Int)==0)=false:=by simpa using hl1
  by_cases ho:w.op=55
  ·have hF:=ev_free z (-1) (some (rows1 l,l.length)) (.inr (S,off,r.length+1)) (some k)
   have hW:=ev_writes z (-1) (some (rows1 l,l.length)) (.inr (S,off,r.length+1)) (some k)
   simp [hlen,hl2,heap3,lk,hV,hO,qV,qO,kV,kO] at hF hW
   have e1:((w::r).takeWhile fun w=>w.op != 55)=[]:=by simp [List.takeWhile_cons,ho]
   have e2:((w::r).dropWhile fun w=>w.op != 55)=w::r:=by simp [List.dropWhile_cons,ho]
   rw [e1,e2]
   rw [ev_loop]
   conv=>lhs;arg 4;unfold F_z_140_L0
   rcases hpre with rfl | rfl <;>
    simp [heapL,lk,qcV,insA,reachC,cut,rg2,rg3,rg4,rg5,List.idxOf_cons,hoff,hS0,hSl,Sp.W.row,ho,callR,hF,hW,sub,setAll,back]
  ·have ho2:(w.op==55)=false:=by simpa using ho
   have e1:((w::r).takeWhile fun w=>w.op != 55)=w::r.takeWhile fun w=>w.op != 55:=by simp [List.takeWhile_cons,ho]
   have e2:((w::r).dropWhile fun w=>w.op != 55)=r.dropWhile fun w=>w.op != 55:=by simp [List.dropWhile_cons,ho]
   have hil:=insI_len w.task l
   have ih':=ih (off+1) (insI w.task l) (k++[wk w]) (asc_ins hA) (by omega) (by simp;omega) (by intro h;rw [h] at hil;simp at hil) (by simp) hS1
   have e3:insA l ((w::r).takeWhile fun w=>w.op != 55)=insA (insI w.task l) (r.takeWhile fun w=>w.op != 55):=by rw [e1];rfl
   have e4:k++((w::r).takeWhile fun w=>w.op != 55).map wk=k++[wk w]++(r.takeWhile fun w=>w.op != 55).map wk:=by rw [e1];simp
   have e5:off+((w::r).takeWhile fun w=>w.op != 55).length=off+1+(r.takeWhile fun w=>w.op != 55).length:=by rw [e1];simp;omega
   rw [e2,e3,e4,e5]
   generalize hRR:some (Res.out (.exit 0) [] (heapL z (-1) pre S (off+1+(r.takeWhile fun w=>w.op != 55).length) (r.dropWhile fun w=>w.op != 55) (insA (insI w.task l) (r.takeWhile fun w=>w.op != 55)) (k++[wk w]++(r.takeWhile fun w=>w.op != 55).map wk)))=RR at *
   have hkr:k.length+1≤room:=by unfold room;omega
   have hk3:k.length+1≤100000:=by omega
   cases r with
   | nil =>
    have hW:=ev_writes z (-1) (some (rows1 l,l.length)) (.inr (S,off,1)) (some k)
    have hG:=ev_grant1 z (-1) w.task w.op l (rows1 l) (.inl false) (some k) ho (by omega) (by simp) (by simp [rows1,take_map_len]) hA
    simp [heap3,heapG,lk,hV,hO,hX,qV,qO,kV,kO,hil] at hW hG
    simp at hSl
    simp [heapL,lk,qcV,hil] at ih'
    rw [ev_loop]
    conv=>lhs;arg 4;unfold F_z_140_L0
    rcases hpre with rfl | rfl
    ·simp [heapL,lk,qcV,insA,reachC,cut,rg2,rg3,rg4,rg5,List.idxOf_cons,hoff,hS0,hSl,Sp.W.row,ho2,callR,hW,hG,sub,setAll,back,hkr,Nat.not_succ_le_self,take_snoc,wk] at ih' ⊢
     exact ih'
    ·simp [heapL,lk,qcV,insA,reachC,cut,rg2,rg3,rg4,rg5,List.idxOf_cons,hoff,hS0,hSl,Sp.W.row,ho2,callR,hW,hG,sub,setAll,back,hkr,Nat.not_succ_le_self,take_snoc,wk] at ih' ⊢
     exact ih'
   | cons w2 r =>
    have hW:=ev_writes z (-1) (some (rows1 l,l.length)) (.inr (S,off,r.length+1+1)) (some k)
    have hG:=ev_grant1 z (-1) w.task w.op l (rows1 l) (.inr (S,off+1,r.length+1)) (some k) ho (by omega) (by simp) (by simp [rows1,take_map_len]) hA
    simp [heap3,heapG,lk,hV,hO,hX,qV,qO,kV,kO,hil] at hW hG
    simp at hSl
    simp [heapL,lk,qcV,hil] at ih'
    have q1:(0:Int)<r.length+1+1:=by omega
    have q2:(1:Int)≤r.length+1+1:=by omega
    have q3:(1:Int)<r.length+1+1:=by omega
    have q4:((r.length:Int)+1+1 - 1).toNat=r.length+1:=by omega
    have hle:off+(r.length+1+1)≤S.length:=by omega
    have hsub:off+(r.length+1+1) - (off+1)=r.length+1:=by omega
    rw [ev_loop]
    conv=>lhs;arg 4;unfold F_z_140_L0
    rcases hpre with rfl | rfl
    ·simp [heapL,lk,qcV,insA,reachC,cut,rg2,rg3,rg4,rg5,List.idxOf_cons,hoff,q1,q2,q3,q4,hS0,hSl,Sp.W.row,ho2,callR,hW,hG,sub,setAll,back,hkr,Nat.not_succ_le_self,take_snoc,wk] at ih' ⊢
     exact ih'
    ·simp [heapL,lk,qcV,insA,reachC,cut,rg2,rg3,rg4,rg5,List.idxOf_cons,hoff,q1,q2,q3,q4,hS0,hSl,Sp.W.row,ho2,callR,hW,hG,sub,setAll,back,hkr,Nat.not_succ_le_self,take_snoc,wk] at ih' ⊢
     exact ih'
end Go.VS.R
namespace Go.VS.R
open Go.VS.Sp
theorem ev_serve1 (z:Z) (own:Int) (H) (w:Sp.W) (r:List Sp.W) (h:own≠-1∨(w.op=55∧hlen H≠0)) :
  ev P (.call z_140 [.loc 0 0 0] (heap3 z own H (.inr ((w::r).map Sp.W.row,0,r.length+1)) none))=some (.val (.tu []) (heap3 z own H (.inr ((w::r).map Sp.W.row,0,r.length+1)) none)):=by
 have hW:=ev_writes z own H (.inr ((w::r).map Sp.W.row,0,r.length+1)) none
 have hF:=ev_free z own H (.inr ((w::r).map Sp.W.row,0,r.length+1)) none
 have hL:ev P (.loop (2+(hO H).length) [0] F_z_140_L0 [(0,.loc 0 0 0)] (heap3 z own H (.inr ((w::r).map Sp.W.row,0,r.length+1)) none))=some (.out (.exit 0) [] (heap3 z own H (.inr ((w::r).map Sp.W.row,0,r.length+1)) none)):=by
  rw [ev_loop]
  conv=>lhs;arg 4;unfold F_z_140_L0
  cases ho:own != -1
  ·have ho2:own = -1:=by simpa using ho
   subst ho2
   obtain ⟨h1,h2⟩:w.op=55∧hlen H≠0:=by simpa using h
   have h3:((hlen H:Int)==0)=false:=by simpa using h2
   rw [ho] at hW
   rw [h3] at hF
   rcases H with _ | ⟨R,n⟩<;>simp [heap3,lk,hV,hO,qV,qO,kV,kO,Sp.W.row,h1] at hW hF <;>
    simp [heap3,lk,hV,hO,qV,qO,kV,kO,reachC,cut,rg2,rg3,rg4,rg5,List.idxOf_cons,callR,hW,hF,h1,sub,setAll,back,Sp.W.row]
  ·rw [ho] at hW
   rcases H with _ | ⟨R,n⟩<;>simp [heap3,lk,hV,hO,qV,qO,kV,kO,Sp.W.row] at hW <;>
    simp [heap3,lk,hV,hO,qV,qO,kV,kO,reachC,cut,rg2,rg3,rg4,rg5,List.idxOf_cons,callR,hW,sub,setAll,back,Sp.W.row]
 rw [ev_call P_z_140 rfl]
 rcases H with _ | ⟨R,n⟩<;>simp [heap3,lk,hV,hO,qV,qO,kV,kO] at hL <;>
  simp [F_z_140,hL,heap3,lk,hV,hO,qV,qO,kV,kO,reachC,cut,rg2,rg3,rg4,rg5,List.idxOf_cons,endH]
def heapW (z:Z) (own:Int) (H:Option (List (List D)×Nat)) (S:List (List D)) (r:List Sp.W) (k:List D):List O :=
 lk z own (hV H 1) (qcV (1+(hO H).length) 1 r) (.asl (2+(hO H).length) 0 1)::(hO H++[.arrD 5 true S,.arrD 5 true [k]])
theorem ev_serve2 (z:Z) (H) (w:Sp.W) (r:List Sp.W) (h:w.op=55) (hH:hlen H=0) (ht:w.task≠-1) :
  ev P (.call z_140 [.loc 0 0 0] (heap3 z (-1) H (.inr ((w::r).map Sp.W.row,0,r.length+1)) none))=some (.val (.tu []) (heapW z w.task H ((w::r).map Sp.W.row) r (wk w))):=by
 have r1:1≤room:=by decide
 have ht2:(w.task != -1)=true:=by simpa using ht
 have hL:ev P (.loop (2+(hO H).length) [0] F_z_140_L0 [(0,.loc 0 0 0)] (heap3 z (-1) H (.inr ((w::r).map Sp.W.row,0,r.length+1)) none))=some (.out (.exit 0) [] (heapW z w.task H ((w::r).map Sp.W.row) r (wk w))):=by
  have hW:=ev_writes z (-1) H (.inr ((w::r).map Sp.W.row,0,r.length+1)) none
  have hF:=ev_free z (-1) H (.inr ((w::r).map Sp.W.row,0,r.length+1)) none
  have hFt:((-1:Int) == -1&&((hlen H:Nat):Int)==0)=true:=by rw [hH];decide
  rw [hFt] at hF
  cases r with
  | nil =>
   have hG:=ev_grantW z (-1) w.task H (.inl false) none
   rw [ev_loop]
   conv=>lhs;arg 4;unfold F_z_140_L0
   rcases H with _ | ⟨R,n⟩
   ·simp [heap3,lk,hV,hO,qV,qO,kV,kO,Sp.W.row,h] at hW hF hG
    simp [heap3,heapW,lk,hV,hO,qV,qO,kV,kO,qcV,reachC,cut,rg2,rg3,rg4,rg5,List.idxOf_cons,callR,hW,hF,hG,h,r1,sub,setAll,back,Sp.W.row,wk]
    rw [ev_loop]
    conv=>lhs;arg 4;unfold F_z_140_L0
    simp [reachC,cut,rg2,rg3,rg4,rg5,List.idxOf_cons]
   ·simp [heap3,lk,hV,hO,qV,qO,kV,kO,Sp.W.row,h] at hW hF hG
    simp [heap3,heapW,lk,hV,hO,qV,qO,kV,kO,qcV,reachC,cut,rg2,rg3,rg4,rg5,List.idxOf_cons,callR,hW,hF,hG,h,r1,sub,setAll,back,Sp.W.row,wk]
    rw [ev_loop]
    conv=>lhs;arg 4;unfold F_z_140_L0
    simp [reachC,cut,rg2,rg3,rg4,rg5,List.idxOf_cons]
  | cons w2 r =>
   have hG:=ev_grantW z (-1) w.task H (.inr ((w::w2::r).map Sp.W.row,1,r.length+1)) none
   have hW2:=ev_writes z w.task H (.inr ((w::w2::r).map Sp.W.row,1,r.length+1)) (some [wk w])
   rw [ht2] at hW2
   have q1:(0:Int)<r.length+1+1:=by omega
   have q2:(1:Int)≤r.length+1+1:=by omega
   have q3:(1:Int)<r.length+1+1:=by omega
   have q4:((r.length:Int)+1+1 - 1).toNat=r.length+1:=by omega
   rw [ev_loop]
   conv=>lhs;arg 4;unfold F_z_140_L0
   rcases H with _ | ⟨R,n⟩
   ·simp [heap3,lk,hV,hO,qV,qO,kV,kO,Sp.W.row,wk,h] at hW hF hG hW2
    simp [heap3,heapW,lk,hV,hO,qV,qO,kV,kO,qcV,reachC,cut,rg2,rg3,rg4,rg5,List.idxOf_cons,callR,hW,hF,hG,h,q1,q2,q3,q4,r1,sub,setAll,back,Sp.W.row,wk]
    rw [ev_loop]
    conv=>lhs;arg 4;unfold F_z_140_L0
    simp [reachC,cut,rg2,rg3,rg4,rg5,List.idxOf_cons,callR,hW2,sub,setAll,back]
   ·simp [heap3,lk,hV,hO,qV,qO,kV,kO,Sp.W.row,wk,h] at hW hF hG hW2
    simp [heap3,heapW,lk,hV,hO,qV,qO,kV,kO,qcV,reachC,cut,rg2,rg3,rg4,rg5,List.idxOf_cons,callR,hW,hF,hG,h,q1,q2,q3,q4,r1,sub,setAll,back,Sp.W.row,wk]
    rw [ev_loop]
    conv=>lhs;arg 4;unfold F_z_140_L0
    simp [reachC,cut,rg2,rg3,rg4,rg5,List.idxOf_cons,callR,hW2,sub,setAll,back]
 rw [ev_call P_z_140 rfl]
 cases r<;>rcases H with _ | ⟨R,n⟩<;>simp [heap3,heapW,lk,hV,hO,qV,qO,kV,kO,qcV,wk] at hL <;>
  simp [F_z_140,hL,heap3,heapW,lk,hV,hO,qV,qO,kV,kO,qcV,wk,reachC,cut,rg2,rg3,rg4,rg5,List.idxOf_cons,endH]
def hL:Option (List (List D)×Nat)→List Int→Prop
 | none,l=>l=[]
 | some (R,n),l=>n=l.length∧l.length≤R.length∧R.take l.length=rows1 l
theorem ev_serve3 (z:Z) (H) (l:List Int) (w:Sp.W) (r:List Sp.W) (h:w.op≠55) (hH:hL H l) (hA:Asc l) (h1:l.length≤1000) (h2:r.length≤1000) :
  ev P (.call z_140 [.loc 0 0 0] (heap3 z (-1) H (.inr ((w::r).map Sp.W.row,0,r.length+1)) none)) =
   some (.val (.tu []) (heapL z (-1) (hX H) ((w::r).map Sp.W.row) (1+(r.takeWhile fun w=>w.op != 55).length) (r.dropWhile fun w=>w.op != 55) (insA (insI w.task l) (r.takeWhile fun w=>w.op != 55)) (wk w::(r.takeWhile fun w=>w.op != 55).map wk))):=by
 have r1:1≤room:=by decide
 have ho2:(w.op==55)=false:=by simpa using h
 have hil:=insI_len w.task l
 have hG:=loop_serveG z (hX H) (by cases H;exact .inl rfl;exact .inr rfl) ((w::r).map Sp.W.row) r 1 (insI w.task l) [wk w] (asc_ins hA) (by omega) (by simp;omega) (by intro h;rw [h] at hil;simp at hil) (by simp) (by simp)
 have hL:ev P (.loop (2+(hO H).length) [0] F_z_140_L0 [(0,.loc 0 0 0)] (heap3 z (-1) H (.inr ((w::r).map Sp.W.row,0,r.length+1)) none)) =
   some (.out (.exit 0) [] (heapL z (-1) (hX H) ((w::r).map Sp.W.row) (1+(r.takeWhile fun w=>w.op != 55).length) (r.dropWhile fun w=>w.op != 55) (insA (insI w.task l) (r.takeWhile fun w=>w.op != 55)) (wk w::(r.takeWhile fun w=>w.op != 55).map wk))):=by
  have e1:[wk w]++(r.takeWhile fun w=>w.op != 55).map wk=wk w::(r.takeWhile fun w=>w.op != 55).map wk:=rfl
  rw [e1] at hG
  generalize some (Res.out (.exit 0) [] (heapL z (-1) (hX H) ((w::r).map Sp.W.row) (1+(r.takeWhile fun w=>w.op != 55).length) (r.dropWhile fun w=>w.op != 55) (insA (insI w.task l) (r.takeWhile fun w=>w.op != 55)) (wk w::(r.takeWhile fun w=>w.op != 55).map wk)))=RR at *
  have hW:=ev_writes z (-1) H (.inr ((w::r).map Sp.W.row,0,r.length+1)) none
  rcases H with _ | ⟨R,n⟩
  ·obtain rfl:l=[]:=hH
   have e0:insI w.task []=[w.task]:=rfl
   cases r with
   | nil =>
    have hGr:=ev_grant0 z (-1) w.task w.op (.inl false) none h
    simp [heap3,heapG,heapL,lk,hV,hO,hX,qV,qO,kV,kO,qcV,Sp.W.row,wk,e0] at hW hGr hG
    rw [ev_loop]
    conv=>lhs;arg 4;unfold F_z_140_L0
    simp [heap3,lk,hV,hO,qV,qO,kV,kO,reachC,cut,rg2,rg3,rg4,rg5,List.idxOf_cons,callR,hW,hGr,ho2,r1,sub,setAll,back,Sp.W.row]
    exact hG
   | cons w2 r =>
    have hGr:=ev_grant0 z (-1) w.task w.op (.inr ((w::w2::r).map Sp.W.row,1,r.length+1)) none h
    have q1:(0:Int)<r.length+1+1:=by omega
    have q2:(1:Int)≤r.length+1+1:=by omega
    have q3:(1:Int)<r.length+1+1:=by omega
    have q4:((r.length:Int)+1+1 - 1).toNat=r.length+1:=by omega
    simp [heap3,heapG,heapL,lk,hV,hO,hX,qV,qO,kV,kO,qcV,Sp.W.row,wk,e0] at hW hGr hG
    rw [ev_loop]
    conv=>lhs;arg 4;unfold F_z_140_L0
    simp [heap3,lk,hV,hO,qV,qO,kV,kO,reachC,cut,rg2,rg3,rg4,rg5,List.idxOf_cons,callR,hW,hGr,ho2,r1,q1,q2,q3,q4,sub,setAll,back,Sp.W.row]
    exact hG
  ·obtain ⟨rfl,hR,hT⟩:=hH
   cases r with
   | nil =>
    have hGr:=ev_grant1 z (-1) w.task w.op l R (.inl false) none h (by omega) hR hT hA
    simp [heap3,heapG,heapL,lk,hV,hO,hX,qV,qO,kV,kO,qcV,Sp.W.row,wk,hil] at hW hGr hG
    rw [ev_loop]
    conv=>lhs;arg 4;unfold F_z_140_L0
    simp [heap3,lk,hV,hO,qV,qO,kV,kO,reachC,cut,rg2,rg3,rg4,rg5,List.idxOf_cons,callR,hW,hGr,ho2,r1,sub,setAll,back,Sp.W.row]
    exact hG
   | cons w2 r =>
    have hGr:=ev_grant1 z (-1) w.task w.op l R (.inr ((w::w2::r).map Sp.W.row,1,r.length+1)) none h (by omega) hR hT hA
    have q1:(0:Int)<r.length+1+1:=by omega
    have q2:(1:Int)≤r.length+1+1:=by omega
    have q3:(1:Int)<r.length+1+1:=by omega
    have q4:((r.length:Int)+1+1 - 1).toNat=r.length+1:=by omega
    simp [heap3,heapG,heapL,lk,hV,hO,hX,qV,qO,kV,kO,qcV,Sp.W.row,wk,hil] at hW hGr hG
    rw [ev_loop]
    conv=>lhs;arg 4;unfold F_z_140_L0
    simp [heap3,lk,hV,hO,qV,qO,kV,kO,reachC,cut,rg2,rg3,rg4,rg5,List.idxOf_cons,callR,hW,hGr,ho2,r1,q1,q2,q3,q4,sub,setAll,back,Sp.W.row]
    exact hG
 generalize (r.takeWhile fun w=>w.op != 55)=tk at *
 generalize (r.dropWhile fun w=>w.op != 55)=dk at *
 rw [ev_call P_z_140 rfl]
 cases dk<;>rcases H with _ | ⟨R,n⟩<;>simp [heap3,heapL,lk,hV,hO,hX,qV,qO,kV,kO,qcV] at hL <;>
  simp [F_z_140,hL,heap3,heapL,lk,hV,hO,hX,qV,qO,kV,kO,qcV,reachC,cut,rg2,rg3,rg4,rg5,List.idxOf_cons,endH]
end Go.VS.R
namespace Go.VS.R
open Go.VS.Sp
def hS (n:Bool) (l:List Int):Option (List (List D)×Nat):=if n=true then none else some (rows1 l,l.length)
def qS (n:Bool) (q:List Sp.W):Bool ⊕ (List (List D)×Nat×Nat):=if n=true then .inl true else .inr (q.map Sp.W.row,0,q.length)
def lkD (z:Z) (own:Int):O:=.arrD 10 true [[I' own,z.c1,z.c2,.sl 1 true [],.sl 5 true [],z.c5,z.c6,z.c7,z.c8,.sl 5 true []]]
def heap0 (z:Z) (own:Int) (hn:Bool) (H:List Int) (qn:Bool) (Q:List Sp.W):List O:=if (hn&&qn)=true then [lkD z own] else heap3 z own (hS hn H) (qS qn Q) none
theorem ev_changed (z:Z) (own:Int) (hn:Bool) (H:List Int) (qn:Bool) (Q:List Sp.W) (h1:hn=true→H=[]) (h2:qn=true→Q=[]) (h3:H.length≤1000000) (h4:Q.length≤1000000) :
  ev P (.call z_133 [.d (.ag [I' own,z.c1,z.c2,hD hn H,qD qn Q,z.c5,z.c6,z.c7,z.c8])] [])=some (.val (.loc 0 0 0) (heap0 z own hn H qn Q)):=by
 have hC:=ev_CloneI hn H h1 h3
 have hD':=ev_Clone qn Q h2 h4
 rw [ev_call P_z_133 rfl]
 cases hn<;>cases qn<;>simp at hC hD' <;>
  simp [F_z_133,hC,hD',callD,mkRows,allDs,V.same_self,hS,qS,heap0,lkD,heap3,lk,hV,hO,qV,qO,kV,kO,reachC,cut,rg2,rg3,rg4,rg5,List.idxOf_cons,endH,overlay]
theorem hL_hS {n:Bool} {l:List Int} (h:n=true→l=[]):hL (hS n l) l:=by
 unfold hS hL
 cases n
 ·simp [rows1,take_map_len]
 ·simp [h rfl]
theorem hlen_hS {n:Bool} {l:List Int} (h:n=true→l=[]):hlen (hS n l)=l.length:=by
 unfold hS hlen
 cases n
 ·simp
 ·simp [h rfl]
def wbd (own:Int) (H:List Int) (w:Sp.W):Bool:=(w.op != 53&&w.op != 55)||w.value != 0||w.case != -1||hld own H w.task != 0
def qchk (own:Int) (H:List Int):List Sp.W→List Sp.W→Bool
 | _,[]=>true
 | pre,w::r=>!pre.any (fun x=>x.task==w.task)&&!wbd own H w&&qchk own H (pre++[w]) r
theorem fd_eq {pre:List Sp.W} {w:Sp.W} {r:List Sp.W}:((fdS (pre++w::r) w.task).1==(pre.length:Int))=!pre.any (fun x=>x.task==w.task):=by
 unfold fdS
 rw [List.findIdx?_append]
 cases h:pre.findIdx? (fun x=>x.task==w.task) with
 | none =>
  have:pre.any (fun x=>x.task==w.task)=false:=by
   rw [List.any_eq_false]
   rw [List.findIdx?_eq_none_iff] at h
   intro x hx
   rw [h x hx];decide
  rw [this]
  simp [List.findIdx?_cons]
 | some k =>
  obtain ⟨h1,h2⟩:=List.findIdx?_eq_some_iff_getElem.1 h
  have:pre.any (fun x=>x.task==w.task)=true:=List.any_eq_true.2 ⟨_,List.getElem_mem _,h2.1⟩
  rw [this]
  simp
  omega
theorem loop_queued (own:Int) (c1 c2 c5 c6 c7 c8:D) (hn:Bool) (H:List Int) (qn:Bool) (Q:List Sp.W) (h3:H.length≤1000000) (h4:Q.length≤1000000):∀(suf pre:List Sp.W),Q=pre++suf →
  ev P (.loop 0 [1,13,14,15] F_z_213_L0 [(1,.d (.ref [I' own,c1,c2,hD hn H,qD qn Q,c5,c6,c7,c8])),(13,.d (qD qn Q)),(14,.d (I' Q.length)),(15,.d (I' pre.length))] []) =
   if qchk own H pre suf=true then some (.out (.exit 0) [(1,.d (.ref [I' own,c1,c2,hD hn H,qD qn Q,c5,c6,c7,c8]))] []) else some (.out .ret [(2,.d (.b false))] []):=by
 intro suf
 induction suf with
 | nil =>
  intro pre hl
  have:Q.length=pre.length:=by simp [hl]
  rw [ev_loop]
  conv=>lhs;arg 4;unfold F_z_213_L0
  simp [this,qchk]
 | cons w suf ih =>
  intro pre hl
  have hg:Q[pre.length]?=some w:=by simp [hl]
  have hlt:(pre.length:Int)<Q.length:=by simp [hl];omega
  have hnext:IntKind.i64.wrap ((pre.length:Int)+1)=pre.length+1:=wrap_i64 (by omega) (by omega)
  have ih':=ih (pre++[w]) (by simp [hl])
  have hF:=ev_wFind qn Q w.task h4
  have hH:=ev_holds own c1 c2 (qD qn Q) c5 c6 c7 c8 hn H w.task h3
  have hfe:((fdS Q w.task).1==(pre.length:Int))=!pre.any (fun x=>x.task==w.task):=by rw [hl];exact fd_eq
  have e1:qchk own H pre (w::suf)=(!pre.any (fun x=>x.task==w.task)&&!wbd own H w&&qchk own H (pre++[w]) suf):=rfl
  rw [e1]
  generalize qchk own H (pre++[w]) suf=dd at *
  generalize (fdS Q w.task).1=fi at *
  generalize (fdS Q w.task).2=fb at *
  simp at ih'
  rw [ev_loop]
  conv=>lhs;arg 4;unfold F_z_213_L0
  cases ha:pre.any (fun x=>x.task==w.task)
  ·rw [ha] at hfe
   have hfe2:(fi != (pre.length:Int))=false:=by simp [bne,hfe]
   cases hb:((w.op != 53&&w.op != 55)||w.value != 0||w.case != -1||hld own H w.task != 0)
   ·have hb2:wbd own H w=false:=hb
    have p1:(w.op != 53&&w.op != 55)=false:=by cases h:(w.op != 53&&w.op != 55)<;>simp_all
    have p2:(w.value != 0)=false:=by cases h:(w.value != 0)<;>simp_all
    have p3:(w.case != -1)=false:=by cases h:(w.case != -1)<;>simp_all
    have p4:(hld own H w.task != 0)=false:=by cases h:(hld own H w.task != 0)<;>simp_all
    simp [hlt,hg,Sp.W.row,hF,hfe2,hH,p1,p2,p3,p4,hnext,hb2]
    exact ih'
   ·have hb2:wbd own H w=true:=hb
    simp [hlt,hg,Sp.W.row,hF,hfe2,hH,hb,hb2]
  ·rw [ha] at hfe
   have hfe2:(fi != (pre.length:Int))=true:=by simp [bne,hfe]
   simp [hlt,hg,Sp.W.row,hF,hfe2]
def stay (own:Int) (H:List Int):List Sp.W→Bool
 | []=>true
 | w::_=>own != -1||(w.op==55&&!H.isEmpty)
theorem wchk_zero {Q:List Sp.W} (h:wchk Q=0):Q.length≤96∧∀w,w∈Q→wvalid w=true:=by
 unfold wchk at h
 by_cases h1:96<Q.length
 ·rw [if_pos h1] at h;cases h
 ·rw [if_neg h1] at h
  refine ⟨by omega,?_⟩
  have:∀(l:List Sp.W) (p:Option Sp.W),wcheckFrom 1 p l=0→∀w,w∈l→wvalid w=true:=by
   intro l
   induction l with
   | nil=>simp
   | cons a r ih =>
    intro p h w hw
    unfold wcheckFrom at h
    cases hv:wvalid a
    ·rw [hv] at h;simp at h
    ·rw [hv] at h
     simp at h
     rcases List.mem_cons.1 hw with e | hw
     ·rw [e];exact hv
     ·exact ih _ h w hw
  exact this Q none h
theorem wvalid_task {w:Sp.W} (h:wvalid w=true):0≤w.task∧w.task<16:=by
 unfold wvalid wbad at h
 simp at h
 omega
theorem ev_queued (z:Z) (own:Int) (hn:Bool) (H:List Int) (qn:Bool) (Q:List Sp.W) (h1:hn=true→H=[]) (h2:qn=true→Q=[]) (h3:H.length≤1000) (h4:Q.length≤1000000) (hA:Asc H) :
  ev P (.call z_213 [.d (.ag [I' own,z.c1,z.c2,hD hn H,qD qn Q,z.c5,z.c6,z.c7,z.c8])] [])=some (.val (.d (.b (wchk Q==0&&(qchk own H [] Q&&stay own H Q)))) []):=by
 have hW:=ev_wCheck qn Q
 have hL:=loop_queued own z.c1 z.c2 z.c5 z.c6 z.c7 z.c8 hn H qn Q (by omega) h4 Q [] rfl
 have hCh:=ev_changed z own hn H qn Q h1 h2 (by omega) h4
 have hll:=hlen_hS h1
 have hLS:=hL_hS h1
 rw [ev_call P_z_213 rfl]
 cases hw:wchk Q==0
 ·have hw2:(wchk Q != 0)=true:=by simp [bne,hw]
  simp [F_z_213,hW,hw2]
 ·have hw2:(wchk Q != 0)=false:=by simp [bne,hw]
  obtain ⟨hq1,hq2⟩:=wchk_zero (by simpa using hw)
  cases hq:qchk own H [] Q
  ·rw [hq] at hL
   simp at hL
   simp [F_z_213,hW,hw2,hL]
  ·rw [hq] at hL
   simp at hL
   cases Q with
   | nil =>
    simp at hL
    simp [F_z_213,hW,hw2,hL,stay]
   | cons w r =>
    simp at hL
    have hqn:qn=false:=by cases qn;rfl;exact absurd (h2 rfl) (by simp)
    subst hqn
    have qe:qS false (w::r) = .inr ((w::r).map Sp.W.row,0,r.length+1):=by simp [qS]
    have z1:¬((r.length:Int)+1=0):=by omega
    have z2:((r.length:Int)+1==0)=false:=by simp;omega
    have hwt:=wvalid_task (hq2 w (by simp))
    have hh0:heap0 z own hn H false (w::r)=heap3 z own (hS hn H) (.inr ((w::r).map Sp.W.row,0,r.length+1)) none:=by simp [heap0,qe]
    rw [hh0] at hCh
    by_cases hs:own≠-1∨(w.op=55∧hlen (hS hn H)≠0)
    ·have hst:stay own H (w::r)=true:=by
      unfold stay
      rw [hll] at hs
      rcases hs with hs | ⟨hs1,hs2⟩
      ·simp [hs]
      ·simp [hs1];right;intro h;rw [h] at hs2;exact hs2 rfl
     have hSv:=ev_serve1 z own (hS hn H) w r hs
     rw [hst]
     cases hn
     ·simp [hS,heap3,lk,hV,hO,qV,qO,kV,kO] at hCh hSv
      simp [F_z_213,hW,hw2,hL,z1,z2,hCh,callD,callR,hSv,reachC,cut,rg2,rg3,rg4,rg5,List.idxOf_cons,sub,setAll,back]
     ·simp [hS,heap3,lk,hV,hO,qV,qO,kV,kO] at hCh hSv
      simp [F_z_213,hW,hw2,hL,z1,z2,hCh,callD,callR,hSv,reachC,cut,rg2,rg3,rg4,rg5,List.idxOf_cons,sub,setAll,back]
    ·have ho:own = -1:=Classical.byContradiction fun h=>hs (.inl h)
     subst ho
     have hst:stay (-1) H (w::r)=false:=by
      unfold stay
      simp
      intro h
      have:hlen (hS hn H)=0:=Classical.byContradiction fun h'=>hs (.inr ⟨h,h'⟩)
      rw [hll] at this
      exact List.length_eq_zero_iff.1 this
     rw [hst]
     by_cases h55:w.op=55
     ·have hh1:hlen (hS hn H)=0:=Classical.byContradiction fun h'=>hs (.inr ⟨h55,h'⟩)
      have hSv:=ev_serve2 z (hS hn H) w r h55 hh1 (by omega)
      cases hn
      ·cases r with
       | nil =>
        simp at hL
        simp [hS,heap3,heapW,lk,hV,hO,qV,qO,kV,kO,qcV] at hCh hSv
        simp [F_z_213,hW,hw2,hL,z1,z2,hCh,callD,callR,hSv,reachC,cut,rg2,rg3,rg4,rg5,List.idxOf_cons,sub,setAll,back]
       | cons w2 r =>
        simp at hL
        have z5:((r.length:Int)+1+1==0)=false:=by simp;omega
        have z6:¬((r.length:Int)+1+1=0):=by omega
        simp [hS,heap3,heapW,lk,hV,hO,qV,qO,kV,kO,qcV] at hCh hSv
        simp [F_z_213,hW,hw2,hL,z5,z6,hCh,callD,callR,hSv,reachC,cut,rg2,rg3,rg4,rg5,List.idxOf_cons,sub,setAll,back]
      ·cases r with
       | nil =>
        simp at hL
        simp [hS,heap3,heapW,lk,hV,hO,qV,qO,kV,kO,qcV] at hCh hSv
        simp [F_z_213,hW,hw2,hL,z1,z2,hCh,callD,callR,hSv,reachC,cut,rg2,rg3,rg4,rg5,List.idxOf_cons,sub,setAll,back]
       | cons w2 r =>
        simp at hL
        have z5:((r.length:Int)+1+1==0)=false:=by simp;omega
        have z6:¬((r.length:Int)+1+1=0):=by omega
        simp [hS,heap3,heapW,lk,hV,hO,qV,qO,kV,kO,qcV] at hCh hSv
        simp [F_z_213,hW,hw2,hL,z5,z6,hCh,callD,callR,hSv,reachC,cut,rg2,rg3,rg4,rg5,List.idxOf_cons,sub,setAll,back]
     ·have hSv:=ev_serve3 z (hS hn H) H w r h55 hLS hA h3 (by simp at hq1;omega)
      generalize (r.takeWhile fun w=>w.op != 55)=tk at *
      generalize (r.dropWhile fun w=>w.op != 55)=dk at *
      have z3:¬((tk.length:Int)+1=0):=by omega
      have z4:((tk.length:Int)+1==0)=false:=by simp;omega
      cases hn<;>cases dk <;>
      ·simp [hS,heap3,heapL,lk,hV,hO,hX,qV,qO,kV,kO,qcV] at hCh hSv
       simp [F_z_213,hW,hw2,hL,z1,z2,z3,z4,hCh,callD,callR,hSv,reachC,cut,rg2,rg3,rg4,rg5,List.idxOf_cons,sub,setAll,back]
end Go.VS.R
namespace Go.VS.R
open Go.VS.Sp
theorem nil_or_snoc {α:Type} (l:List α):l=[]∨∃a x,l=a++[x]:=by
 rcases List.eq_nil_or_concat l with h | ⟨a,x,h⟩
 ·exact .inl h
 ·exact .inr ⟨a,x,by simpa using h⟩
def vh:List Int→List Int→Bool
 | _,[]=>true
 | pre,x::r=>!(!isTask x||pre.getLast?.any (fun y=>decide (x≤y)))&&vh (pre++[x]) r
theorem loop_valid (own:Int) (c1 c2 c5 c6 c7 c8 qd:D) (hn:Bool) (H:List Int) (h3:H.length≤1000000):∀(suf pre:List Int),H=pre++suf →
  ev P (.loop 0 [1,52,53,54] F_z_130_L0 [(1,.d (.ref [I' own,c1,c2,hD hn H,qd,c5,c6,c7,c8])),(52,.d (hD hn H)),(53,.d (I' H.length)),(54,.d (I' pre.length))] []) =
   if vh pre suf=true then some (.out (.exit 0) [(1,.d (.ref [I' own,c1,c2,hD hn H,qd,c5,c6,c7,c8]))] []) else some (.out .ret [(2,.d (.b false))] []):=by
 intro suf
 induction suf with
 | nil =>
  intro pre hl
  have:H.length=pre.length:=by simp [hl]
  rw [ev_loop]
  conv=>lhs;arg 4;unfold F_z_130_L0
  simp [this,vh]
 | cons x suf ih =>
  intro pre hl
  have hg:H[pre.length]?=some x:=by simp [hl]
  have hlt:(pre.length:Int)<H.length:=by simp [hl];omega
  have hnext:IntKind.i64.wrap ((pre.length:Int)+1)=pre.length+1:=wrap_i64 (by omega) (by omega)
  have ih':=ih (pre++[x]) (by simp [hl])
  have e1:vh pre (x::suf)=(!(!isTask x||pre.getLast?.any (fun y=>decide (x≤y)))&&vh (pre++[x]) suf):=rfl
  rw [e1]
  generalize vh (pre++[x]) suf=dd at *
  simp at ih'
  rw [ev_loop]
  conv=>lhs;arg 4;unfold F_z_130_L0
  cases ht:isTask x
  ·simp [hlt,hg,ev_isTask,ht]
  ·rcases nil_or_snoc pre with rfl | ⟨pre',p,rfl⟩
   ·have h0:0<H.length:=by simp [hl]
    have hg0:∀h:0<H.length,H[0]=x:=fun h=>by simpa [List.getElem?_eq_getElem h] using hg
    simp at ih'
    simp [h0,hg0,ev_isTask,ht,wrap1]
    exact ih'
   ·have hgp:H[pre'.length]?=some p:=by simp [hl]
    have hlt2:(pre'.length:Int)+1<H.length:=by simpa using hlt
    have hw2:IntKind.i64.wrap (pre'.length:Int)=pre'.length:=wrap_i64 (by omega) (by omega)
    have h0:(0:Int)<pre'.length+1:=by omega
    have h1:(0:Int)≤pre'.length+1:=by omega
    have hn2:IntKind.i64.wrap ((pre'.length:Int)+1+1)=pre'.length+1+1:=wrap_i64 (by omega) (by omega)
    simp only [List.length_append,List.length_singleton] at hg
    simp at ih'
    by_cases hp:x≤p
    ·simp [hlt2,hg,hgp,hw2,h0,h1,ev_isTask,ht,hp]
    ·simp [hlt2,hg,hgp,hw2,h0,h1,ev_isTask,ht,hp,hn2]
     exact ih'
def flA (own cnt time:Int) (H B:List Int) (C:List (List D)) (cl:Bool) (val:Int):Bool :=
 own != -1&&(!isTask own||decide (0<H.length))||cnt != 0||time != 0||decide (0<B.length)||decide (0<C.length)||cl||val != 0
def mvalid (own cnt time:Int) (H:List Int) (Q:List Sp.W) (B:List Int) (C:List (List D)) (cl:Bool) (val:Int):Bool :=
 !flA own cnt time H B C cl val&&(vh [] H&&(wchk Q==0&&(qchk own H [] Q&&stay own H Q)))
theorem vh_asc:∀{suf pre:List Int},Asc pre→(∀x,x∈pre→∀y,y∈pre.getLast?→x≤y)→vh pre suf=true→Asc (pre++suf)
 | [],pre,hA,_,_=>by simpa using hA
 | x::r,pre,hA,hm,h=>by
  have e1:vh pre (x::r)=(!(!isTask x||pre.getLast?.any (fun y=>decide (x≤y)))&&vh (pre++[x]) r):=rfl
  rw [e1] at h
  simp at h
  obtain ⟨⟨_,h2⟩,h3⟩:=h
  have hx:∀y,y∈pre→y≤x:=by
   intro y hy
   cases hp:pre.getLast? with
   | none =>
    have:pre=[]:=by simpa using hp
    rw [this] at hy;cases hy
   | some p =>
    have:=hm y hy p (by simp [hp])
    have:=List.any_eq_false.1 (by simpa [hp] using h2:([p]:List Int).any (fun y=>decide (x≤y))=false) p (by simp)
    simp at this
    omega
  have hA':Asc (pre++[x]):=by
   unfold Asc
   rw [List.pairwise_append]
   exact ⟨hA,List.pairwise_singleton _ _,fun a ha b hb=>by simp at hb;rw [hb];exact hx a ha⟩
  have:=vh_asc hA' (by
   intro y hy p hp
   simp at hp
   subst hp
   simp at hy
   rcases hy with hy | hy
   ·exact hx y hy
   ·omega) h3
  simpa using this
theorem vh_asc0 {H:List Int} (h:vh [] H=true):Asc H:=by
 have:=vh_asc (pre:=[]) (suf:=H) List.Pairwise.nil (by simp) h
 simpa using this
theorem ev_mvalid (own cnt time:Int) (hn:Bool) (H:List Int) (qn:Bool) (Q:List Sp.W) (bn:Bool) (B:List Int) (cn:Bool) (C:List (List D)) (cl:Bool) (val:Int)
  (hh:hn=true→H=[]) (hq:qn=true→Q=[]) (h1:H.length≤1000) (h2:Q.length≤1000000) :
  ev P (.call z_130 [.d (.ag [I' own,I' cnt,I' time,hD hn H,qD qn Q,hD bn B,cD cn C,.b cl,I' val])] [])=some (.val (.d (.b (mvalid own cnt time H Q B C cl val))) []):=by
 have hL:=loop_valid own (I' cnt) (I' time) (hD bn B) (cD cn C) (.b cl) (I' val) (qD qn Q) hn H (by omega) H [] rfl
 simp at hL
 rw [ev_call P_z_130 rfl]
 unfold mvalid
 simp [F_z_130,ev_isTask]
 cases hA:(own != -1&&(!isTask own||decide (0<H.length))||cnt != 0||time != 0||decide (0<B.length)||decide (0<C.length)||cl||val != 0)
 ·have hF:flA own cnt time H B C cl val=false:=hA
  rw [hF]
  cases hv:vh [] H
  ·rw [hv] at hL
   simp at hL
   simp [hL]
  ·rw [hv] at hL
   simp at hL
   have hQ:=ev_queued ⟨I' cnt,I' time,hD bn B,cD cn C,.b cl,I' val⟩ own hn H qn Q hh hq h1 h2 (vh_asc0 hv)
   simp only at hQ
   have e2:(!false&&(true&&(wchk Q==0&&(qchk own H [] Q&&stay own H Q))))=(wchk Q==0&&(qchk own H [] Q&&stay own H Q)):=by simp
   rw [e2]
   generalize (wchk Q==0&&(qchk own H [] Q&&stay own H Q))=R at *
   simp [hL,hQ]
 ·have hF:flA own cnt time H B C cl val=true:=hA
  rw [hF]
  simp
theorem ev_mCheck (nm:D) (k sz ot:Int) (own cnt time:Int) (hn:Bool) (H:List Int) (qn:Bool) (Q:List Sp.W) (bn:Bool) (B:List Int) (cn:Bool) (C:List (List D)) (cl:Bool) (val:Int)
  (hh:hn=true→H=[]) (hq:qn=true→Q=[]) (h1:H.length≤1000) (h2:Q.length≤1000000) :
  ev P (.call z_68 [.d (.ag [nm,I' k,I' sz,I' ot]),.d (.ag [I' own,I' cnt,I' time,hD hn H,qD qn Q,hD bn B,cD cn C,.b cl,I' val])] []) =
   some (.val (.d (I' (if mnew k sz ot=0 then (if mvalid own cnt time H Q B C cl val then 0 else 1) else mnew k sz ot))) []):=by
 have hv:=ev_mvalid own cnt time hn H qn Q bn B cn C cl val hh hq h1 h2
 rw [ev_call P_z_68 rfl]
 cases hm:mnew k sz ot==0
 ·have hm':mnew k sz ot≠0:=by simpa using hm
  have hm2:(mnew k sz ot != 0)=true:=by simpa using hm'
  simp [F_z_68,ev_mNew,hm',hm2,zrow]
 ·have hm':mnew k sz ot=0:=by simpa using hm
  simp [F_z_68,ev_mNew,hm',frow,hv]
  cases mvalid own cnt time H Q B C cl val<;>simp
def vh' (own:Int):List Int→List Int→Bool
 | _,[]=>true
 | pre,x::r=>!((!isTask x||pre.getLast?.any (fun y=>decide (x≤y)))||decide (0≤own))&&vh' own (pre++[x]) r
theorem loop_rvalid (own:Int) (c1 c2 c5 c6 c7 c8 qd:D) (hn:Bool) (H:List Int) (h3:H.length≤1000000):∀(suf pre:List Int),H=pre++suf →
  ev P (.loop 0 [1,3] F_z_195_L0 [(1,.d (.ref [I' own,c1,c2,hD hn H,qd,c5,c6,c7,c8])),(3,.d (I' pre.length))] []) =
   if vh' own pre suf=true then some (.out (.exit 0) [(1,.d (.ref [I' own,c1,c2,hD hn H,qd,c5,c6,c7,c8]))] []) else some (.out .ret [(2,.d (.b false))] []):=by
 intro suf
 induction suf with
 | nil =>
  intro pre hl
  have:H.length=pre.length:=by simp [hl]
  rw [ev_loop]
  conv=>lhs;arg 4;unfold F_z_195_L0
  simp [this,vh']
 | cons x suf ih =>
  intro pre hl
  have hg:H[pre.length]?=some x:=by simp [hl]
  have hlt:(pre.length:Int)<H.length:=by simp [hl];omega
  have hnext:IntKind.i64.wrap ((pre.length:Int)+1)=pre.length+1:=wrap_i64 (by omega) (by omega)
  have ih':=ih (pre++[x]) (by simp [hl])
  have e1:vh' own pre (x::suf)=(!((!isTask x||pre.getLast?.any (fun y=>decide (x≤y)))||decide (0≤own))&&vh' own (pre++[x]) suf):=rfl
  rw [e1]
  generalize vh' own (pre++[x]) suf=dd at *
  simp at ih'
  rw [ev_loop]
  conv=>lhs;arg 4;unfold F_z_195_L0
  cases ht:isTask x
  ·simp [hlt,hg,ev_rTask,ht]
  ·rcases nil_or_snoc pre with rfl | ⟨pre',p,rfl⟩
   ·have h0:0<H.length:=by simp [hl]
    have hg0:∀h:0<H.length,H[0]=x:=fun h=>by simpa [List.getElem?_eq_getElem h] using hg
    simp at ih'
    by_cases ho:0≤own
    ·simp [h0,hg0,ev_rTask,ht,ho]
    ·simp [h0,hg0,ev_rTask,ht,ho,wrap1]
     exact ih'
   ·have hgp:H[pre'.length]?=some p:=by simp [hl]
    have hlt2:(pre'.length:Int)+1<H.length:=by simpa using hlt
    have hw2:IntKind.i64.wrap (pre'.length:Int)=pre'.length:=wrap_i64 (by omega) (by omega)
    have h0:(0:Int)<pre'.length+1:=by omega
    have h1:(0:Int)≤pre'.length+1:=by omega
    have hn2:IntKind.i64.wrap ((pre'.length:Int)+1+1)=pre'.length+1+1:=wrap_i64 (by omega) (by omega)
    simp only [List.length_append,List.length_singleton] at hg
    simp at ih'
    by_cases hp:x≤p
    ·simp [hlt2,hg,hgp,hw2,h0,h1,ev_rTask,ht,hp]
    ·by_cases ho:0≤own
     ·simp [hlt2,hg,hgp,hw2,h0,h1,ev_rTask,ht,hp,ho]
     ·simp [hlt2,hg,hgp,hw2,h0,h1,ev_rTask,ht,hp,ho,hn2]
      exact ih'
theorem ev_within (a b c:Int):ev P (.call z_279 [.d (I' a),.d (I' b),.d (I' c)] [])=some (.val (.d (.b (decide (b≤a)&&decide (a≤c)))) []):=by
 rw [ev_call P_z_279 rfl]
 simp [F_z_279]
theorem ev_rValid (w:Sp.W):ev P (.call z_252 [.d (.ag [I' w.task,I' w.op,I' w.value,I' w.prio,I' w.case])] [])=some (.val (.d (.b (wvalid w))) []):=by
 have e:wvalid w=(decide (0≤w.task)&&decide (w.task≤15)&&(decide (1≤w.op)&&decide (w.op≤99))&&(decide (-1099511627776≤w.value)&&decide (w.value≤1099511627776))&&(decide (0≤w.prio)&&decide (w.prio≤9))&&(decide (-1≤w.case)&&decide (w.case≤5))):=by
  rw [Bool.eq_iff_iff]
  unfold wvalid wbad
  simp
  omega
 rw [e]
 rw [ev_call P_z_252 rfl]
 simp [F_z_252,ev_within]
def rchk (l:List Sp.W):Int:=if 96<l.length then 4 else if l.all wvalid=true then 0 else 2
theorem loop_rchk (nl:Bool) (l:List Sp.W) (hn:l.length≤1000000):∀(suf pre:List Sp.W),l=pre++suf →
  ev P (.loop 0 [0,1,5] F_z_197_L0 [(0,.d (I' 1)),(1,.d (qD nl l)),(5,.d (I' pre.length))] []) =
   if suf.all wvalid=true then some (.out (.exit 0) [] []) else some (.out .ret [(4,.d (I' 2))] []):=by
 intro suf
 induction suf with
 | nil =>
  intro pre hl
  have:l.length=pre.length:=by simp [hl]
  rw [ev_loop]
  conv=>lhs;arg 4;unfold F_z_197_L0
  simp [this]
 | cons w suf ih =>
  intro pre hl
  have hg:l[pre.length]?=some w:=by simp [hl]
  have hlt:(pre.length:Int)<l.length:=by simp [hl];omega
  have hnext:IntKind.i64.wrap ((pre.length:Int)+1)=pre.length+1:=wrap_i64 (by omega) (by omega)
  have ih':=ih (pre++[w]) (by simp [hl])
  have e1:(w::suf).all wvalid=(wvalid w&&suf.all wvalid):=rfl
  rw [e1]
  generalize suf.all wvalid=dd at *
  simp at ih'
  rw [ev_loop]
  conv=>lhs;arg 4;unfold F_z_197_L0
  cases hv:wvalid w
  ·simp [hlt,hg,Sp.W.row,ev_rValid,hv]
  ·simp [hlt,hg,Sp.W.row,ev_rValid,hv,hnext]
   exact ih'
theorem ev_rchk (nl:Bool) (l:List Sp.W) (hn:l.length≤1000000):ev P (.call z_197 [.d (I' 1),.d (qD nl l)] [])=some (.val (.d (I' (rchk l))) []):=by
 have hl:=loop_rchk nl l hn l [] rfl
 unfold rchk
 generalize l.all wvalid=dd at *
 simp at hl
 rw [ev_call P_z_197 rfl]
 by_cases h:96<l.length
 ·have h':(96:Int)<l.length:=by omega
  simp [F_z_197,h,h']
 ·have h':¬(96:Int)<l.length:=by omega
  simp [F_z_197,h,h',hl]
  cases dd<;>simp
theorem rchk_eq (l:List Sp.W):rchk l=wchk l:=by
 have:∀(l:List Sp.W) (p:Option Sp.W),wcheckFrom 1 p l=if l.all wvalid=true then 0 else 2:=by
  intro l
  induction l with
  | nil=>intro p;rfl
  | cons a r ih =>
   intro p
   unfold wcheckFrom
   cases hv:wvalid a
   ·simp [hv]
   ·simp [hv,ih]
 unfold rchk wchk
 rw [this]
end Go.VS.R
namespace Go.VS.R
open Go.VS.Sp
theorem loop_rdup (own c1 c2 hd c5 c6 c7 c8:D) (nl:Bool) (l:List Sp.W) (w:Sp.W) (n:Nat) (hn:l.length≤1000000) (hln:n≤l.length):∀(k i:Nat),i+k=n →
  ev P (.loop 0 [1,4,5,6] F_z_195_L1 [(1,.d (.ref [own,c1,c2,hd,qD nl l,c5,c6,c7,c8])),(4,.d (I' n)),(5,.d (.ref w.row)),(6,.d (I' i))] []) =
   if ((l.take n).drop i).any (fun x=>x.task==w.task)=true then some (.out .ret [(2,.d (.b false))] []) else some (.out (.exit 4) [(1,.d (.ref [own,c1,c2,hd,qD nl l,c5,c6,c7,c8])),(4,.d (I' n))] []):=by
 intro k
 induction k with
 | zero =>
  intro i hi
  have:i=n:=by omega
  subst this
  rw [ev_loop]
  conv=>lhs;arg 4;unfold F_z_195_L1
  simp
 | succ k ih =>
  intro i hi
  have hlt:(i:Int)<n:=by omega
  obtain ⟨x,hx⟩:∃x,l[i]?=some x:=⟨l[i]'(by omega),by simp⟩
  have ih':=ih (i+1) (by omega)
  have hnext:IntKind.i64.wrap ((i:Int)+1)=i+1:=wrap_i64 (by omega) (by omega)
  have hd:(l.take n).drop i=x::(l.take n).drop (i+1):=by
   have hk2:i<(l.take n).length:=by simp;omega
   rw [List.drop_eq_getElem_cons hk2]
   congr 1
   rw [List.getElem_take]
   have:=List.getElem?_eq_some_iff.1 hx
   exact this.2
  rw [hd,List.any_cons]
  generalize ((l.take n).drop (i+1)).any (fun x=>x.task==w.task)=dd at *
  rw [ev_loop]
  conv=>lhs;arg 4;unfold F_z_195_L1
  cases hw:x.task==w.task
  ·simp at ih'
   simp [hlt,hx,Sp.W.row,hw,hnext] at ih' ⊢
   exact ih'
  ·simp [hlt,hx,Sp.W.row,hw]
def qchk' (own:Int) (H:List Int):List Sp.W→List Sp.W→Bool
 | _,[]=>true
 | pre,w::r=>!wbd own H w&&!pre.any (fun x=>x.task==w.task)&&qchk' own H (pre++[w]) r
theorem qchk_eq (own:Int) (H:List Int):∀(suf pre:List Sp.W),qchk' own H pre suf=qchk own H pre suf
 | [],pre=>rfl
 | w::r,pre=>by
  unfold qchk' qchk
  rw [qchk_eq own H r,Bool.and_comm (!wbd own H w)]
theorem loop_rq (own:Int) (c1 c2 c5 c6 c7 c8:D) (hn:Bool) (H:List Int) (qn:Bool) (Q:List Sp.W) (h3:H.length≤1000000) (h4:Q.length≤1000000):∀(suf pre:List Sp.W),Q=pre++suf →
  ev P (.loop 0 [1,4] F_z_195_L2 [(1,.d (.ref [I' own,c1,c2,hD hn H,qD qn Q,c5,c6,c7,c8])),(4,.d (I' pre.length))] []) =
   if qchk' own H pre suf=true then some (.out (.exit 2) [] []) else some (.out .ret [(2,.d (.b false))] []):=by
 intro suf
 induction suf with
 | nil =>
  intro pre hl
  have:Q.length=pre.length:=by simp [hl]
  rw [ev_loop]
  conv=>lhs;arg 4;unfold F_z_195_L2
  simp [this,qchk']
 | cons w suf ih =>
  intro pre hl
  have hg:Q[pre.length]?=some w:=by simp [hl]
  have hlt:(pre.length:Int)<Q.length:=by simp [hl];omega
  have hnext:IntKind.i64.wrap ((pre.length:Int)+1)=pre.length+1:=wrap_i64 (by omega) (by omega)
  have ih':=ih (pre++[w]) (by simp [hl])
  have hH:=ev_rHolds own c1 c2 (qD qn Q) c5 c6 c7 c8 hn H w.task h3
  have hK:=loop_rdup (I' own) c1 c2 (hD hn H) c5 c6 c7 c8 qn Q w pre.length h4 (by simp [hl]) pre.length 0 (by omega)
  have htk:(Q.take pre.length).drop 0=pre:=by simp [hl]
  rw [htk] at hK
  have e1:qchk' own H pre (w::suf)=(!wbd own H w&&!pre.any (fun x=>x.task==w.task)&&qchk' own H (pre++[w]) suf):=rfl
  rw [e1]
  generalize qchk' own H (pre++[w]) suf=dd at *
  simp at ih'
  rw [ev_loop]
  conv=>lhs;arg 4;unfold F_z_195_L2
  cases hb:((w.op != 53&&w.op != 55)||w.value != 0||w.case != -1||hld own H w.task != 0)
  ·have hb2:wbd own H w=false:=hb
   have p1:(w.op != 53&&w.op != 55)=false:=by cases h:(w.op != 53&&w.op != 55)<;>simp_all
   have p2:(w.value != 0)=false:=by cases h:(w.value != 0)<;>simp_all
   have p3:(w.case != -1)=false:=by cases h:(w.case != -1)<;>simp_all
   have p4:(hld own H w.task != 0)=false:=by cases h:(hld own H w.task != 0)<;>simp_all
   cases ha:pre.any (fun x=>x.task==w.task)
   ·rw [ha] at hK
    simp [Sp.W.row] at hK
    simp [hlt,hg,Sp.W.row,hH,p1,p2,p3,p4,hb2,hK,hnext]
    exact ih'
   ·rw [ha] at hK
    simp [Sp.W.row] at hK
    simp [hlt,hg,Sp.W.row,hH,p1,p2,p3,p4,hb2,hK]
  ·have hb2:wbd own H w=true:=hb
   simp [hlt,hg,Sp.W.row,hH,hb,hb2]
def flR (own cnt time:Int) (B:List Int) (C:List (List D)) (cl:Bool) (val:Int):Bool :=
 own != -1&&!isTask own||cnt != 0||time != 0||decide (0<B.length)||decide (0<C.length)||cl||val != 0
def rvalid (own cnt time:Int) (H:List Int) (Q:List Sp.W) (B:List Int) (C:List (List D)) (cl:Bool) (val:Int):Bool :=
 !flR own cnt time B C cl val&&(vh' own [] H&&(wchk Q==0&&qchk own H [] Q))
theorem ev_rvalid (own cnt time:Int) (hn:Bool) (H:List Int) (qn:Bool) (Q:List Sp.W) (bn:Bool) (B:List Int) (cn:Bool) (C:List (List D)) (cl:Bool) (val:Int)
  (h1:H.length≤1000) (h2:Q.length≤1000000) :
  ev P (.call z_195 [.d (.ag [I' own,I' cnt,I' time,hD hn H,qD qn Q,hD bn B,cD cn C,.b cl,I' val])] [])=some (.val (.d (.b (rvalid own cnt time H Q B C cl val))) []):=by
 have hL:=loop_rvalid own (I' cnt) (I' time) (hD bn B) (cD cn C) (.b cl) (I' val) (qD qn Q) hn H (by omega) H [] rfl
 have hK:=loop_rq own (I' cnt) (I' time) (hD bn B) (cD cn C) (.b cl) (I' val) hn H qn Q (by omega) h2 Q [] rfl
 have hW:=ev_rchk qn Q h2
 rw [rchk_eq] at hW
 rw [qchk_eq] at hK
 simp at hL hK
 rw [ev_call P_z_195 rfl]
 unfold rvalid
 simp [F_z_195,ev_rTask]
 cases hA:(own != -1&&!isTask own||cnt != 0||time != 0||decide (0<B.length)||decide (0<C.length)||cl||val != 0)
 ·have hF:flR own cnt time B C cl val=false:=hA
  rw [hF]
  cases hv:vh' own [] H
  ·rw [hv] at hL
   simp at hL
   simp [hL]
  ·rw [hv] at hL
   simp at hL
   cases hw:wchk Q==0
   ·have hw2:(wchk Q != 0)=true:=by simp [bne,hw]
    simp [hL,hW,hw2]
   ·have hw2:(wchk Q != 0)=false:=by simp [bne,hw]
    cases hq:qchk own H [] Q
    ·rw [hq] at hK
     simp at hK
     simp [hL,hW,hw2,hK]
    ·rw [hq] at hK
     simp at hK
     simp [hL,hW,hw2,hK]
 ·have hF:flR own cnt time B C cl val=true:=hA
  rw [hF]
  simp
def vainB (own:Int) (H:List Int):List Sp.W→Bool
 | []=>false
 | w::_=>if w.op=53 then decide (own<0) else (decide (own<0)&&H.isEmpty)
theorem ev_vain (own:Int) (c1 c2 c5 c6 c7 c8:D) (hn:Bool) (H:List Int) (qn:Bool) (Q:List Sp.W) :
  ev P (.call z_196 [.d (.ag [I' own,c1,c2,hD hn H,qD qn Q,c5,c6,c7,c8])] [])=some (.val (.d (.b (vainB own H Q))) []):=by
 rw [ev_call P_z_196 rfl]
 have hh:(decide (H=[]))=H.isEmpty:=by cases H<;>simp
 cases Q with
 | nil=>simp [F_z_196,mkRows,allDs,vainB,endH,reachC,cut]
 | cons w r =>
  have z2:((r.length:Int)+1==0)=false:=by simp;omega
  by_cases h:w.op=53
  ·simp [F_z_196,mkRows,allDs,vainB,endH,reachC,cut,z2,h,Sp.W.row]
  ·have h2:(w.op==53)=false:=by simpa using h
   cases H with
   | nil=>simp [F_z_196,mkRows,allDs,vainB,endH,reachC,cut,z2,h,h2,Sp.W.row]
   | cons a l =>
    have z3:((l.length:Int)+1==0)=false:=by simp;omega
    simp [F_z_196,mkRows,allDs,vainB,endH,reachC,cut,z2,z3,h,h2,Sp.W.row]
theorem valid_eq (own cnt time:Int) (H:List Int) (Q:List Sp.W) (B:List Int) (C:List (List D)) (cl:Bool) (val:Int) :
  mvalid own cnt time H Q B C cl val=(rvalid own cnt time H Q B C cl val&&!vainB own H Q):=by
 have hvv:∀(suf pre:List Int),own<0→vh' own pre suf=vh pre suf:=by
  intro suf
  induction suf with
  | nil=>intro pre _;rfl
  | cons x r ih =>
   intro pre ho
   unfold vh' vh
   rw [ih _ ho]
   have:decide (0≤own)=false:=by simp;omega
   rw [this,Bool.or_false]
 unfold mvalid rvalid
 cases hF:flR own cnt time B C cl val
 ·have hF2:=hF
  unfold flR at hF2
  simp only [Bool.or_eq_false_iff] at hF2
  obtain ⟨⟨⟨⟨⟨⟨a1,a2⟩,a3⟩,a4⟩,a5⟩,a6⟩,a7⟩:=hF2
  have hA:flA own cnt time H B C cl val=(own != -1&&decide (0<H.length)):=by
   unfold flA
   rw [a2,a3,a4,a5,a6,a7]
   cases ho:own != -1
   ·simp
   ·rw [ho] at a1;simp at a1;simp [a1]
  rw [hA]
  cases ho:own != -1
  ·have ho2:own = -1:=by simpa using ho
   subst ho2
   rw [hvv H [] (by decide)]
   cases vh [] H
   ·simp
   ·cases hw:wchk Q==0
    ·simp
    ·cases hq:qchk (-1) H [] Q
     ·simp
     ·cases Q with
      | nil=>simp [stay,vainB]
      | cons w r =>
       have:!wbd (-1) H w=true:=by
        have e1:qchk (-1) H [] (w::r)=(!([]:List Sp.W).any (fun x=>x.task==w.task)&&!wbd (-1) H w&&qchk (-1) H ([]++[w]) r):=rfl
        rw [e1] at hq
        simp at hq
        simp [hq.1]
       have h5:w.op=53∨w.op=55:=by
        unfold wbd at this
        by_cases h:w.op=53
        ·exact .inl h
        ·right
         simp [h] at this
         exact this.1.1.1
       rcases h5 with h5 | h5<;>simp [stay,vainB,h5]
  ·rw [ho] at a1
   have hit:isTask own=true:=by simpa using a1
   have hge:0≤own:=by unfold isTask at hit;simp at hit;omega
   have hlt:¬own<0:=by omega
   have hvn:vainB own H Q=false:=by
    cases Q with
    | nil=>rfl
    | cons w r=>simp [vainB,hlt]
   have hst:stay own H Q=true:=by
    cases Q with
    | nil=>rfl
    | cons w r=>simp [stay];left;simpa using ho
   rw [hvn,hst]
   cases H with
   | nil=>simp [vh,vh']
   | cons x l=>simp [vh',hge]
 ·have hA:flA own cnt time H B C cl val=true:=by
   unfold flR at hF
   unfold flA
   simp only [Bool.or_eq_true,Bool.and_eq_true] at hF ⊢
   rcases hF with ((((((⟨a1,a1'⟩ | a2) | a3) | a4) | a5) | a6) | a7)
   ·exact .inl (.inl (.inl (.inl (.inl (.inl ⟨a1,.inl a1'⟩)))))
   ·exact .inl (.inl (.inl (.inl (.inl (.inr a2)))))
   ·exact .inl (.inl (.inl (.inl (.inr a3))))
   ·exact .inl (.inl (.inl (.inr a4)))
   ·exact .inl (.inl (.inr a5))
   ·exact .inl (.inr a6)
   ·exact .inr a7
  rw [hA]
  simp
theorem ev_rCheck (nm:D) (k sz ot:Int) (own cnt time:Int) (hn:Bool) (H:List Int) (qn:Bool) (Q:List Sp.W) (bn:Bool) (B:List Int) (cn:Bool) (C:List (List D)) (cl:Bool) (val:Int)
  (h1:H.length≤1000) (h2:Q.length≤1000000) :
  ev P (.call z_114 [.d (.ag [nm,I' k,I' sz,I' ot]),.d (.ag [I' own,I' cnt,I' time,hD hn H,qD qn Q,hD bn B,cD cn C,.b cl,I' val])] []) =
   some (.val (.d (I' (if mnew k sz ot=0 then (if mvalid own cnt time H Q B C cl val then 0 else 1) else mnew k sz ot))) []):=by
 have hv:=ev_rvalid own cnt time hn H qn Q bn B cn C cl val h1 h2
 have hV:=ev_vain own (I' cnt) (I' time) (hD bn B) (cD cn C) (.b cl) (I' val) hn H qn Q
 rw [valid_eq]
 rw [ev_call P_z_114 rfl]
 cases hm:mnew k sz ot==0
 ·have hm':mnew k sz ot≠0:=by simpa using hm
  have hm2:(mnew k sz ot != 0)=true:=by simpa using hm'
  simp [F_z_114,ev_rNew,hm',hm2,zrow]
 ·have hm':mnew k sz ot=0:=by simpa using hm
  cases hr:rvalid own cnt time H Q B C cl val<;>rw [hr] at hv<;>cases hvn:vainB own H Q<;>rw [hvn] at hV <;>
   simp [F_z_114,ev_rNew,hm',frow,hv,callR,hV,reachC,cut,sub,setAll,back]
end Go.VS.R
namespace Go.VS.R
open Go.VS.Sp
end Go.VS.R
namespace Go.VS.R
open Go.VS.Sp
abbrev rpD (z:Z) (own:Int) (hn:Bool) (H:List Int) (qn:Bool) (Q:List Sp.W) (parked:Bool) (ok:Bool) (kn:Bool) (k:List (List D)):D :=
 .ag [I' own,z.c1,z.c2,hD hn H,qD qn Q,z.c5,z.c6,z.c7,z.c8,.b parked,I' 0,.b ok,.sl 5 kn k]
end Go.VS.R
namespace Go.VS.R
open Go.VS.Sp
structure Rp where
 own:Int
 H:List Int
 Q:List Sp.W
 parked:Bool
 ok:Bool
 k:List Sp.W
 e:Int
def zr (e:Int):Rp:=⟨0,[],[],false,false,[],e⟩
def zZ (bn cn:Bool):Z:=⟨I' 0,I' 0,hD bn [],cD cn [],.b false,I' 0⟩
def Rets (x:Option Res) (r:Rp):Prop:=∃bn cn hn qn kn,x=some (.val (.tu [.d (rpD (zZ bn cn) r.own hn r.H qn r.Q r.parked r.ok kn (r.k.map wk)),.d (I' r.e)]) [])∧(hn=true→r.H=[])∧(qn=true→r.Q=[])
theorem Rets.zero {x:Option Res} {e:Int} (h:x=some (.val (.tu [.d (.ag [I' 0,I' 0,I' 0,.sl 1 true [],.sl 5 true [],.sl 1 true [],.sl 2 true [],.b false,I' 0,.b false,I' 0,.b false,.sl 5 true []]),.d (I' e)]) [])):Rets x (zr e) :=
 ⟨true,true,true,true,true,h,fun _=>rfl,fun _=>rfl⟩
end Go.VS.R
namespace Go.VS.R
open Go.VS.Sp
end Go.VS.R
namespace Go.VS.R
open Go.VS.Sp
end Go.VS.R
namespace Go.VS.R
open Go.VS.Sp
end Go.VS.R
namespace Go.VS.R
open Go.VS.Sp
structure QOK (own:Int) (H:List Int) (Q:List Sp.W):Prop where
 op:∀w,w∈Q→w.op=53∨w.op=55
 pos:∀w,w∈Q→0≤w.task
 nin:∀w,w∈Q→w.task∉H
 dis:Q.Pairwise fun a b=>a.task≠b.task
theorem QOK.sub {own own':Int} {H H':List Int} {Q Q':List Sp.W} (h:QOK own H Q) (hs:Q'.Sublist Q) (hH:∀x,x∈H'→x∈H):QOK own' H' Q' :=
 ⟨fun w hw=>h.op w (hs.mem hw),fun w hw=>h.pos w (hs.mem hw),fun w hw hx=>h.nin w (hs.mem hw) (hH _ hx),h.dis.sublist hs⟩
structure MV (own:Int) (H:List Int) (Q:List Sp.W):Prop where
 ow:own = -1∨(isTask own=true∧H=[])
 vh:vh [] H=true
 wc:wchk Q=0
 qc:qchk own H [] Q=true
 st:stay own H Q=true
theorem mvalid_iff {own cnt time:Int} {H:List Int} {Q:List Sp.W} {B:List Int} {C:List (List D)} {cl:Bool} {val:Int} :
  mvalid own cnt time H Q B C cl val=true↔MV own H Q∧cnt=0∧time=0∧B=[]∧C=[]∧cl=false∧val=0:=by
 unfold mvalid flA
 constructor
 ·intro h
  simp at h
  obtain ⟨⟨⟨⟨⟨⟨⟨a1,a2⟩,a3⟩,a4⟩,a5⟩,a6⟩,a7⟩,b1,b2,b3,b4⟩:=h
  refine ⟨⟨?_,b1,b2,b3,b4⟩,a2,a3,a4,a5,a6,a7⟩
  exact a1
 ·rintro ⟨⟨h1,h2,h3,h4,h5⟩,rfl,rfl,rfl,rfl,rfl,rfl⟩
  simp [h2,h3,h4,h5]
  exact h1
theorem qchk_spec {own:Int} {H:List Int}:∀{suf pre:List Sp.W},qchk own H pre suf=true↔(∀w,w∈suf→wbd own H w=false)∧suf.Pairwise (fun a b=>a.task≠b.task)∧(∀a,a∈pre→∀b,b∈suf→a.task≠b.task)
 | [],pre=>by simp [qchk]
 | w::r,pre=>by
  have e1:qchk own H pre (w::r)=(!pre.any (fun x=>x.task==w.task)&&!wbd own H w&&qchk own H (pre++[w]) r):=rfl
  rw [e1]
  have ih:=@qchk_spec own H r (pre++[w])
  have ha:(!pre.any (fun x=>x.task==w.task))=true↔∀a,a∈pre→a.task≠w.task:=by
   simp
  rw [Bool.and_eq_true,Bool.and_eq_true,ih,ha]
  constructor
  ·rintro ⟨⟨h1,h2⟩,h3,h4,h5⟩
   have h2:wbd own H w=false:=by simpa using h2
   refine ⟨?_,List.pairwise_cons.2 ⟨fun b hb=>h5 w (by simp) b hb,h4⟩,?_⟩
   ·intro x hx
    rcases List.mem_cons.1 hx with e | hx
    ·rw [e];exact h2
    ·exact h3 x hx
   ·intro a ha b hb
    rcases List.mem_cons.1 hb with e | hb
    ·rw [e];exact h1 a ha
    ·exact h5 a (by simp [ha]) b hb
  ·rintro ⟨h1,h2,h3⟩
   rw [List.pairwise_cons] at h2
   refine ⟨⟨fun a ha=>h3 a ha w (by simp),by simp [h1 w (by simp)]⟩,fun x hx=>h1 x (by simp [hx]),h2.2,?_⟩
   intro a ha b hb
   rcases List.mem_append.1 ha with ha | ha
   ·exact h3 a ha b (by simp [hb])
   ·simp at ha;rw [ha];exact h2.1 b hb
theorem MV.asc {own:Int} {H:List Int} {Q:List Sp.W} (h:MV own H Q):Asc H:=vh_asc0 h.vh
theorem hld_zero {own:Int} {H:List Int} {t:Int} (ht:0≤t):hld own H t=0↔t≠own∧t∉H:=by
 unfold hld
 by_cases h1:t=own
 ·simp [ht,h1];omega
 ·by_cases h2:t∈H<;>simp [h1,h2]
theorem MV.qok {own:Int} {H:List Int} {Q:List Sp.W} (h:MV own H Q):QOK own H Q:=by
 obtain ⟨h1,h2⟩:=wchk_zero h.wc
 obtain ⟨q1,q2,_⟩:=qchk_spec.1 h.qc
 refine ⟨fun w hw=>?_,fun w hw=>(wvalid_task (h2 w hw)).1,fun w hw=>?_,q2⟩
 ·have:=q1 w hw
  unfold wbd at this
  by_cases h53:w.op=53
  ·exact .inl h53
  ·right
   simp [h53] at this
   exact this.1.1.1
 ·have:=q1 w hw
  unfold wbd at this
  simp at this
  exact ((hld_zero (wvalid_task (h2 w hw)).1).1 this.2).2
theorem MV.task {own:Int} {H:List Int} {Q:List Sp.W} (h:MV own H Q):∀w,w∈Q→w.task≠-1:=fun w hw=>by
 have:=h.qok.pos w hw;omega
theorem MV.free {H:List Int} {Q:List Sp.W} (h:MV (-1) H Q) (hH:H=[]):Q=[]:=by
 cases Q with
 | nil=>rfl
 | cons w r =>
  have:=h.st
  simp [stay,hH] at this
def ckd (k sz ot own cnt time:Int) (H:List Int) (Q:List Sp.W) (B:List Int) (C:List (List D)) (cl:Bool) (val:Int):Int :=
 if mnew k sz ot=0 then (if mvalid own cnt time H Q B C cl val then 0 else 1) else mnew k sz ot
end Go.VS.R
namespace Go.VS.R
open Go.VS.Sp
theorem Sp.W.neq {w w':Sp.W} (h:¬w=w'):(!w.task==w'.task||(!w.op==w'.op||(!w.value==w'.value||(!w.prio==w'.prio||!w.case==w'.case))))=true:=by
 cases hb:(!w.task==w'.task||(!w.op==w'.op||(!w.value==w'.value||(!w.prio==w'.prio||!w.case==w'.case))))
 ·exfalso;apply h
  simp at hb
  cases w;cases w';simp at hb ⊢;exact hb
 ·rfl
end Go.VS.R
namespace Go.VS.R
open Go.VS.Sp
end Go.VS.R
namespace Go.VS.R
open Go.VS.Sp
end Go.VS.R
namespace Go.VS.R
open Go.VS.Sp
def cbig (c:List D):Bool:=match c with | [_,.sl _ _ r]=>decide (17<r.length) | _=>false
def greatB (H:List Int) (Q:List Sp.W) (B:List Int) (C:List (List D)):Bool :=
 (decide ((17:Int)<Q.length)||decide ((17:Int)<H.length)||decide ((17:Int)<B.length)||decide ((17:Int)<C.length))||C.any cbig
end Go.VS.R
namespace Go.VS.R
open Go.VS.Sp
def SAsc (l:List Int):Prop:=l.Pairwise (·<·)
theorem SAsc.asc {l:List Int} (h:SAsc l):Asc l:=List.Pairwise.imp (fun h=>Int.le_of_lt h) h
end Go.VS.R
namespace Go.VS.Sp
def okMq (s:S):Bool:=M.mvalid s.own s.cnt s.time s.H s.Q s.B (s.C.map K.row) s.cl s.val
def okWq (s:S):Bool:=R.mvalid s.own s.cnt s.time s.H s.Q s.B (s.C.map K.row) s.cl s.val
def ckG (k sz ot:Int) (s:S):Int :=
 if k=1 then ck (nwA 1 k sz ot) (okMq s) else if k=2 then ck (nwA 2 k sz ot) (okWq s) else if k=4 then ck (nwS k sz ot) (okSq sz ot s)
 else if k=5 then ck (nwB k sz ot) (okBq sz s) else if k=6 then ck (nwC k sz ot) (okCq sz s) else if k=7 then ckd k sz ot s
 else if k=8 then ck (nwL k sz ot) (okLq sz s) else if k=9 then ck (nwA 9 k sz ot) (okFq s) else 8
structure S.fine (s:S):Prop where
 wf:s.wf
 qn:s.qn=true→s.Q=[]
 h:s.H.length≤40
 q:s.Q.length≤40
 b:s.B.length≤120
 c:s.C.length≤40
 l:∀c∈s.C,c.log.length≤120
theorem S.fine.sm {s:S} (h:s.fine):s.sm:=⟨by have:=h.h;omega,by have:=h.b;omega,by have:=h.q;omega,by have:=h.c;omega,fun c hc=>by have:=h.l c hc;omega⟩
theorem fine_of {s:S} (hw:s.wf) (hq:s.qn=true→s.Q=[]) (hg:s.great=false):s.fine:=by
 unfold S.great at hg
 simp at hg
 obtain ⟨⟨⟨⟨h1,h2⟩,h3⟩,h4⟩,h5⟩:=hg
 exact ⟨hw,hq,by omega,by omega,by omega,by omega,fun c hc=>by have:=h5 c hc;omega⟩
theorem ev_ckMq (nm:D) (k sz ot:Int) (s:S) (h:s.fine) :
  ev P (.call z_63 [.d (.ag [nm,I' k,I' sz,I' ot]),.d (.ag s.row)] [])=some (.val (.d (I' (ck (nwA 1 k sz ot) (okMq s)))) []):=by
 have hs:=h.sm
 exact M.ev_mCheck nm k sz ot s.own s.cnt s.time s.hn s.H s.qn s.Q s.bn s.B s.cn (s.C.map K.row) s.cl s.val hs.h hs.q hs.b (by simpa using hs.c)
theorem ev_ckMrq (nm:D) (k sz ot:Int) (s:S) (h:s.fine) :
  ev P (.call z_113 [.d (.ag [nm,I' k,I' sz,I' ot]),.d (.ag s.row)] [])=some (.val (.d (I' (ck (nwA 1 k sz ot) (okMq s)))) []):=by
 have hs:=h.sm
 have e:=M.valid_eq (own:=s.own) (cnt:=s.cnt) (time:=s.time) (hs:=s.H) (bs:=s.B) (cs:=s.C.map K.row) (cl:=s.cl) (val:=s.val) (q:=s.Q) (by have:=h.q;omega)
 have:=M.ev_rCheck nm k sz ot s.own s.cnt s.time s.hn s.H s.qn s.Q s.bn s.B s.cn (s.C.map K.row) s.cl s.val hs.h hs.q hs.b (by simpa using hs.c)
 rw [e] at this
 exact this
theorem ev_ckWq (nm:D) (k sz ot:Int) (s:S) (h:s.fine) :
  ev P (.call z_68 [.d (.ag [nm,I' k,I' sz,I' ot]),.d (.ag s.row)] [])=some (.val (.d (I' (ck (nwA 2 k sz ot) (okWq s)))) []):=by
 have hs:=h.sm
 exact R.ev_mCheck nm k sz ot s.own s.cnt s.time s.hn s.H s.qn s.Q s.bn s.B s.cn (s.C.map K.row) s.cl s.val h.wf.1 h.qn (by have:=h.h;omega) hs.q
theorem ev_ckWrq (nm:D) (k sz ot:Int) (s:S) (h:s.fine) :
  ev P (.call z_114 [.d (.ag [nm,I' k,I' sz,I' ot]),.d (.ag s.row)] [])=some (.val (.d (I' (ck (nwA 2 k sz ot) (okWq s)))) []):=by
 have hs:=h.sm
 exact R.ev_rCheck nm k sz ot s.own s.cnt s.time s.hn s.H s.qn s.Q s.bn s.B s.cn (s.C.map K.row) s.cl s.val (by have:=h.h;omega) hs.q
def kinds (k:Int) (t f g:Nat):Prop :=
 (k=1∧t=101∧f=z_62∧g=z_63)∨(k=2∧t=102∧f=z_67∧g=z_68)∨(k=4∧t=103∧f=z_72∧g=z_73) ∨
 (k=5∧t=104∧f=z_77∧g=z_78)∨(k=6∧t=105∧f=z_82∧g=z_83)∨(k=7∧t=106∧f=z_87∧g=z_88) ∨
 (k=8∧t=107∧f=z_92∧g=z_93)∨(k=9∧t=108∧f=z_97∧g=z_98)
theorem of_kind {k:Int} (hk:k=1∨k=2∨k=4∨k=5∨k=6∨k=7∨k=8∨k=9):∃t f g,kinds k t f g∧ev P (.call z_37 [.d (I' k)] [])=some (.val (.tu [.d (.ifc t (.ag [.fn f [] [],.fn g [] []])),.d (.b true)]) []):=by
 unfold kinds
 rcases hk with h | h | h | h | h | h | h | h<;>subst h
 ·exact ⟨101,z_62,z_63,by simp,ev_of1⟩
 ·exact ⟨102,z_67,z_68,by simp,ev_of2⟩
 ·exact ⟨103,z_72,z_73,by simp,ev_of4⟩
 ·exact ⟨104,z_77,z_78,by simp,ev_of5⟩
 ·exact ⟨105,z_82,z_83,by simp,ev_of6⟩
 ·exact ⟨106,z_87,z_88,by simp,ev_of7⟩
 ·exact ⟨107,z_92,z_93,by simp,ev_of8⟩
 ·exact ⟨108,z_97,z_98,by simp,ev_of9⟩
theorem kinds_t {k:Int} {t f g:Nat} (h:kinds k t f g):t=101∨t=102∨t=103∨t=104∨t=105∨t=106∨t=107∨t=108:=by
 unfold kinds at h
 omega
theorem ev_ckK {k:Int} {t f g:Nat} (hk:kinds k t f g) (nm:D) (sz ot:Int) (s:S) (h:s.fine) :
  ev P (.call g [.d (.ag [nm,I' k,I' sz,I' ot]),.d (.ag s.row)] [])=some (.val (.d (I' (ckG k sz ot s))) []):=by
 have hs:=h.sm
 unfold kinds at hk
 rcases hk with ⟨rfl,rfl,rfl,rfl⟩ | ⟨rfl,rfl,rfl,rfl⟩ | ⟨rfl,rfl,rfl,rfl⟩ | ⟨rfl,rfl,rfl,rfl⟩ | ⟨rfl,rfl,rfl,rfl⟩ | ⟨rfl,rfl,rfl,rfl⟩ | ⟨rfl,rfl,rfl,rfl⟩ | ⟨rfl,rfl,rfl,rfl⟩
 ·exact ev_ckMq nm 1 sz ot s h
 ·exact ev_ckWq nm 2 sz ot s h
 ·exact ev_ckSq nm 4 sz ot s hs
 ·exact ev_ckBq nm 5 sz ot s hs
 ·exact ev_ckCq nm 6 sz ot s hs
 ·exact ev_mCheck nm 7 sz ot s hs
 ·exact ev_ckLq nm 8 sz ot s hs
 ·exact ev_ckFq nm 9 sz ot s hs
def S.ab (qn:Bool) (s:S):S:={ s with qn:=qn,Q:=[] }
theorem ckG_unknown {k sz ot:Int} {s:S} (hk:¬(k=1∨k=2∨k=4∨k=5∨k=6∨k=7∨k=8∨k=9)):ckG k sz ot s=8:=by
 unfold ckG
 simp only [not_or] at hk
 simp [hk]
theorem ev_Abstract (nm:D) (k sz ot:Int) (s:S) (h:s.fine) :
  ev P (.call z_25 [.d (.ag [nm,I' k,I' sz,I' ot]),.d (.ag s.row)] [])=some (.val (.tu [.d (.ag (if ckG k sz ot s=0 then (s.ab true).row else zrow)),.d (I' (ckG k sz ot s))]) []):=by
 rw [ev_call P_z_25 rfl]
 by_cases hk:k=1∨k=2∨k=4∨k=5∨k=6∨k=7∨k=8∨k=9
 ·obtain ⟨t,f,g,hkk,hof⟩:=of_kind hk
  have hC:=ev_lcheck f g nm k sz ot _ s (ev_ckK hkk nm sz ot s h)
  have ht:=kinds_t hkk
  generalize ckG k sz ot s=e at *
  simp only [S.row] at hC
  by_cases he:e=0
  ·subst he
   simp only [if_true,S.ab,S.row]
   rcases ht with h | h | h | h | h | h | h | h<;>subst h<;>simp [F_z_25,hof,invV,hC,overlay]
  ·rw [if_neg he]
   have he':(e != 0)=true:=by simpa using he
   rcases ht with h | h | h | h | h | h | h | h<;>subst h<;>simp [F_z_25,hof,invV,hC,he',zrow]
 ·have hU:=ev_ofU hk
  rw [ckG_unknown hk,if_neg (by decide)]
  simp [F_z_25,hU,zrow]
end Go.VS.Sp
namespace Go.VS.Sp
theorem ev_rCkG (nm:D) (k sz ot:Int) (s:S) (hf:s.fine):ev P (.call z_48 [.d (.ag [nm,I' k,I' sz,I' ot]),.d (.ag s.row)] [])=some (.val (.d (I' (ckG k sz ot s))) []):=by
 have hs:=hf.sm
 rw [ev_call P_z_48 rfl]
 by_cases h1:k=1
 ·subst h1;have h:=ev_ckMrq nm 1 sz ot s hf;simp only [S.row] at h;simp [F_z_48,h,ckG]
 by_cases h2:k=2
 ·subst h2;have h:=ev_ckWrq nm 2 sz ot s hf;simp only [S.row] at h;simp [F_z_48,h,ckG]
 by_cases h4:k=4
 ·subst h4;have h:=ev_ckSrq nm 4 sz ot s hs;simp only [S.row] at h;simp [F_z_48,h,ckG]
 by_cases h5:k=5
 ·subst h5;have h:=ev_ckBrq nm 5 sz ot s hs (by have:=hf.q;omega);simp only [S.row] at h;simp [F_z_48,h,ckG]
 by_cases h6:k=6
 ·subst h6;have h:=ev_ckCrq nm 6 sz ot s hs;simp only [S.row] at h;simp [F_z_48,h,ckG]
 by_cases h7:k=7
 ·subst h7;have h:=ev_rCheck nm 7 sz ot s hs;simp only [S.row] at h;simp [F_z_48,h,ckG]
 by_cases h8:k=8
 ·subst h8;have h:=ev_ckLrq nm 8 sz ot s hs (by have:=hf.q;omega);simp only [S.row] at h;simp [F_z_48,h,ckG]
 by_cases h9:k=9
 ·subst h9;have h:=ev_ckFrq nm 9 sz ot s hs;simp only [S.row] at h;simp [F_z_48,h,ckG]
 have b1:(k==1)=false:=by simpa using h1
 have b2:(k==2)=false:=by simpa using h2
 have b4:(k==4)=false:=by simpa using h4
 have b5:(k==5)=false:=by simpa using h5
 have b6:(k==6)=false:=by simpa using h6
 have b7:(k==7)=false:=by simpa using h7
 have b8:(k==8)=false:=by simpa using h8
 have b9:(k==9)=false:=by simpa using h9
 have e:ckG k sz ot s=8:=by simp [ckG,h1,h2,h4,h5,h6,h7,h8,h9]
 rw [e]
 simp [F_z_48,b1,b2,b4,b5,b6,b7,b8,b9]
theorem ev_rAbstract (nm:D) (k sz ot:Int) (s:S) (h:s.fine) :
  ev P (.call z_26 [.d (.ag [nm,I' k,I' sz,I' ot]),.d (.ag s.row)] [])=some (.val (.tu [.d (.ag (if ckG k sz ot s=0 then (s.ab false).row else zrow)),.d (I' (ckG k sz ot s))]) []):=by
 have hC:=ev_rCkG nm k sz ot s h
 rw [ev_call P_z_26 rfl]
 generalize ckG k sz ot s=e at *
 simp only [S.row] at hC
 by_cases he:e=0
 ·subst he
  simp only [if_true,S.ab,S.row]
  simp [F_z_26,hC,overlay]
 ·rw [if_neg he]
  have he':(e != 0)=true:=by simpa using he
  simp [F_z_26,hC,he',zrow]
def S.cl26 (s:S) (w:W):Cl:=⟨w.task,w.op,w.value,w.prio,s.time⟩
def couldB (k sz ot:Int) (s:S) (w:W):Bool:=(effF k sz ot (s.ab true).pl (s.cl26 w)).2.2.2==0
theorem ab_wf {s:S} (h:s.wf) (b:Bool):(s.ab b).wf:=⟨h.1,h.2,h.3,h.4⟩
theorem S.fine.sz {s:S} (h:s.fine) (b:Bool):(s.ab b).sz:=by
 refine ⟨?_,?_,?_,?_,?_⟩
 ·show s.H.length≤10000;have:=h.h;omega
 ·show s.B.length≤10000;have:=h.b;omega
 ·show ([]:List W).length≤10000;simp
 ·show s.C.length≤1000;have:=h.c;omega
 ·intro c hc;have:=h.l c hc;omega
theorem ev_could (nm:D) (k sz ot:Int) (s:S) (w:W) (h:s.fine) :
  ev P (.call z_318 [.d (.ag [nm,I' k,I' sz,I' ot]),.d (.ag s.row),.d (.ag w.row)] [])=some (.val (.d (.b (couldB k sz ot s w))) []):=by
 have hE:=ev_Enabled nm k sz ot (s.ab true) (s.cl26 w) (ab_wf h.wf _) (h.sz true)
 rw [ev_call P_z_318 rfl]
 unfold couldB
 generalize ((effF k sz ot (s.ab true).pl (s.cl26 w)).2.2.2==0)=b at *
 simp only [S.ab,S.row,Cl.row,S.cl26,List.map_nil] at hE
 have hE:ev P (.call z_18 [.d (.ag [nm,I' k,I' sz,I' ot]),.d (.ag [I' s.own,I' s.cnt,I' s.time,hD s.hn s.H,.sl 5 true [],hD s.bn s.B,cD s.cn s.C,.b s.cl,I' s.val]),.d (.ag [I' w.task,I' w.op,I' w.value,I' w.prio,I' s.time])] [])=some (.val (.d (.b b)) []):=hE
 simp [F_z_318,W.row,hE,overlay]
theorem ev_can (nm:D) (k sz ot:Int) (s:S) (w:W) (h:s.fine) :
  ev P (.call z_61 [.d (.ag [nm,I' k,I' sz,I' ot]),.d (.ag (s.ab false).row),.d (.ag w.row)] [])=some (.val (.d (.b (couldB k sz ot s w))) []):=by
 have hE:=ev_rEnabled nm k sz ot (s.ab false) (s.cl26 w) (ab_wf h.wf _) (h.sz false)
 rw [ev_call P_z_61 rfl]
 unfold couldB
 have e:(s.ab true).pl=(s.ab false).pl:=rfl
 rw [e]
 generalize ((effF k sz ot (s.ab false).pl (s.cl26 w)).2.2.2==0)=b at *
 simp only [S.ab,S.row,Cl.row,S.cl26,List.map_nil] at hE
 simp [F_z_61,S.ab,W.row,hE]
def firstB (k sz ot:Int) (s:S) (w:W):Bool:=(match s.Q with | []=>false | q::_=>q.task==w.task)&&couldB k sz ot s w
theorem ev_sfirst (nm:D) (k sz ot:Int) (s:S) (w:W) (h:s.fine) (hQ:s.Q≠[]) :
  ev P (.call z_317 [.d (.ag [nm,I' k,I' sz,I' ot]),.d (.ag s.row),.d (.ag w.row)] [])=some (.val (.d (.b (firstB k sz ot s w))) []):=by
 have hC:=ev_could nm k sz ot s w h
 rw [ev_call P_z_317 rfl]
 unfold firstB
 generalize couldB k sz ot s w=b at *
 obtain ⟨own,cnt,time,hn,H,qn,Q,bn,B,cn,C,cl,val⟩:=s
 cases Q with
 | nil=>exact absurd rfl hQ
 | cons q r =>
  simp only [S.row,W.row] at hC
  try simp at hC
  cases h1:q.task==w.task
  ·simp [F_z_317,W.row,h1]
  ·simp [F_z_317,W.row,h1,hC]
def nobodyB (sz:Int) (s:S):Bool:=!s.C.any fun x=>!wts s.Q x.task 70&&decide (sz≤x.log.length)
def vainP (k sz ot:Int) (s:S) (w:W):Bool :=
 if k=1∨k=2∨k=8∨(k=4∧ot=0) then firstB k sz ot s w
 else if k=5 then decide (sz≤s.Q.length)
 else if k=6∧sz=0∧w.op=64 then fgn s.Q 65 w.task
 else if k=7∧w.op=68 then nobodyB sz s
 else couldB k sz ot s w
theorem ev_chC1 (t a b c d e:Int) (x1 x2 x3 x4:D):ev P (.call z_331 [.d (.ag [I' a,I' b,I' c,I' d,I' e]),.d (.ref [I' t,x1,x2,x3,x4])] [])=some (.val (.d (.b (b==65&&a != t))) []):=by
 rw [ev_call P_z_331 rfl]
 cases h:b==65<;>simp [F_z_331,h]
theorem ev_tpC1C1 (t:Int) (x:D) (a b c d e:Int):ev P (.call z_338 [.d (.ag [I' a,I' b,I' c,I' d,I' e]),.d (.ref [I' t,x])] [])=some (.val (.d (.b (a==t&&b==70))) []):=by
 rw [ev_call P_z_338 rfl]
 cases h:a==t<;>simp [F_z_338,h]
theorem ev_tpC1 (nm:D) (k sz ot:Int) (d0 d1 d2 d3 d5 d6 d7 d8:D) (qn:Bool) (Q:List W) (hn:Q.length≤1000000) (a:Int) (b:Bool) (c:List Int) :
  ev P (.call z_337 [.d (.ag [I' a,hD b c]),.d (.ref [d0,d1,d2,d3,qD qn Q,d5,d6,d7,d8]),.d (.ref [nm,I' k,I' sz,I' ot])] [])=some (.val (.d (.b (!wts Q a 70&&decide (sz≤c.length)))) []):=by
 have hI:=ev_ContainsFunc (f:=z_338) (first:=[]) (caps:=[.ref [I' a,hD b c]]) (p:=fun w=>w.task==a&&w.op==70) qn Q hn (by intro a' b' c' d' e';exact ev_tpC1C1 a (hD b c) a' b' c' d' e')
 rw [ev_call P_z_337 rfl]
 unfold wts
 generalize (Q.any fun w=>w.task==a&&w.op==70)=r at *
 try simp at hI
 cases r<;>simp [F_z_337,allD,hI]
theorem ev_vainK {k:Int} {t f g:Nat} (hk:kinds k t f g) (nm:D) (sz ot:Int) (s:S) (w:W) (h:s.fine) (hQ:s.Q≠[]) :
  ev P (.call z_58 [.d (.ag w.row),.d (.ref [.ifc t (.ag [.fn f [] [],.fn g [] []])]),.d (.ref [nm,I' k,I' sz,I' ot]),.d (.ref s.row)] [])=some (.val (.d (.b (vainP k sz ot s w))) []):=by
 have hC:=ev_could nm k sz ot s w h
 have hF:=ev_sfirst nm k sz ot s w h hQ
 unfold kinds at hk
 simp only [S.row,W.row] at hC hF ⊢
 rw [ev_call P_z_58 rfl]
 rcases hk with ⟨rfl,rfl,rfl,rfl⟩ | ⟨rfl,rfl,rfl,rfl⟩ | ⟨rfl,rfl,rfl,rfl⟩ | ⟨rfl,rfl,rfl,rfl⟩ | ⟨rfl,rfl,rfl,rfl⟩ | ⟨rfl,rfl,rfl,rfl⟩ | ⟨rfl,rfl,rfl,rfl⟩ | ⟨rfl,rfl,rfl,rfl⟩
 ·have e:vainP 1 sz ot s w=firstB 1 sz ot s w:=rfl
  rw [e]
  have hv:∀m1 m2:D,ev P (.call z_316 [.d (.ag [m1,m2]),.d (.ag [nm,I' 1,I' sz,I' ot]),.d (.ag [I' s.own,I' s.cnt,I' s.time,hD s.hn s.H,qD s.qn s.Q,hD s.bn s.B,cD s.cn s.C,.b s.cl,I' s.val]),.d (.ag [I' w.task,I' w.op,I' w.value,I' w.prio,I' w.case])] [])=some (.val (.d (.b (firstB 1 sz ot s w))) []):=by
   intro m1 m2
   rw [ev_call P_z_316 rfl]
   simp [F_z_316,hF]
  simp [F_z_58,invV,hv]
 ·have e:vainP 2 sz ot s w=firstB 2 sz ot s w:=rfl
  rw [e]
  have hv:∀m1 m2:D,ev P (.call z_320 [.d (.ag [m1,m2]),.d (.ag [nm,I' 2,I' sz,I' ot]),.d (.ag [I' s.own,I' s.cnt,I' s.time,hD s.hn s.H,qD s.qn s.Q,hD s.bn s.B,cD s.cn s.C,.b s.cl,I' s.val]),.d (.ag [I' w.task,I' w.op,I' w.value,I' w.prio,I' w.case])] [])=some (.val (.d (.b (firstB 2 sz ot s w))) []):=by
   intro m1 m2
   rw [ev_call P_z_320 rfl]
   simp [F_z_320,hF]
  simp [F_z_58,invV,hv]
 ·have hv:∀m1 m2:D,ev P (.call z_323 [.d (.ag [m1,m2]),.d (.ag [nm,I' 4,I' sz,I' ot]),.d (.ag [I' s.own,I' s.cnt,I' s.time,hD s.hn s.H,qD s.qn s.Q,hD s.bn s.B,cD s.cn s.C,.b s.cl,I' s.val]),.d (.ag [I' w.task,I' w.op,I' w.value,I' w.prio,I' w.case])] [])=some (.val (.d (.b (vainP 4 sz ot s w))) []):=by
   intro m1 m2
   rw [ev_call P_z_323 rfl]
   by_cases ho:ot=0
   ·have e:vainP 4 sz ot s w=firstB 4 sz ot s w:=by simp [vainP,ho]
    rw [e]
    have hb:(ot==0)=true:=by simpa using ho
    subst ho
    simp [F_z_323,hF]
   ·have e:vainP 4 sz ot s w=couldB 4 sz ot s w:=by simp [vainP,ho]
    rw [e]
    have hb:(ot==0)=false:=by simpa using ho
    simp [F_z_323,hb,hC]
  simp [F_z_58,invV,hv]
 ·have e:vainP 5 sz ot s w=decide (sz≤s.Q.length):=rfl
  rw [e]
  have hv:∀m1 m2:D,ev P (.call z_326 [.d (.ag [m1,m2]),.d (.ag [nm,I' 5,I' sz,I' ot]),.d (.ag [I' s.own,I' s.cnt,I' s.time,hD s.hn s.H,qD s.qn s.Q,hD s.bn s.B,cD s.cn s.C,.b s.cl,I' s.val]),.d (.ag [I' w.task,I' w.op,I' w.value,I' w.prio,I' w.case])] [])=some (.val (.d (.b (decide (sz≤s.Q.length)))) []):=by
   intro m1 m2
   rw [ev_call P_z_326 rfl]
   simp [F_z_326]
  simp [F_z_58,invV,hv]
 ·have hv:∀m1 m2:D,ev P (.call z_329 [.d (.ag [m1,m2]),.d (.ag [nm,I' 6,I' sz,I' ot]),.d (.ag [I' s.own,I' s.cnt,I' s.time,hD s.hn s.H,qD s.qn s.Q,hD s.bn s.B,cD s.cn s.C,.b s.cl,I' s.val]),.d (.ag [I' w.task,I' w.op,I' w.value,I' w.prio,I' w.case])] [])=some (.val (.d (.b (vainP 6 sz ot s w))) []):=by
   intro m1 m2
   have hI:=ev_ContainsFunc (f:=z_331) (first:=[]) (caps:=[.ref [I' w.task,I' w.op,I' w.value,I' w.prio,I' w.case]]) (p:=fun x=>x.op==65&&x.task != w.task) s.qn s.Q h.sm.q (by intro a b c d e;exact ev_chC1 w.task a b c d e _ _ _ _)
   have hg:(s.Q.any fun x=>x.op==65&&x.task != w.task)=fgn s.Q 65 w.task:=rfl
   rw [hg] at hI
   rw [ev_call P_z_329 rfl]
   by_cases ho:sz=0∧w.op=64
   ·have e:vainP 6 sz ot s w=fgn s.Q 65 w.task:=by simp [vainP,ho]
    rw [e]
    obtain ⟨rfl,ho⟩:=ho
    generalize fgn s.Q 65 w.task=r at *
    try simp at hI
    simp [F_z_329,ho,allD]
    rw [ho] at hI
    simp [hI]
   ·have e:vainP 6 sz ot s w=couldB 6 sz ot s w:=by simp [vainP,ho]
    rw [e]
    have hb:(sz==0&&w.op==64)=false:=by simp;omega
    cases hz:sz==0
    ·simp [F_z_329,hz,hC]
    ·rw [hz,Bool.true_and] at hb
     simp [F_z_329,hz,hb,hC]
  simp [F_z_58,invV,hv]
 ·have hv:∀m1 m2:D,ev P (.call z_334 [.d (.ag [m1,m2]),.d (.ag [nm,I' 7,I' sz,I' ot]),.d (.ag [I' s.own,I' s.cnt,I' s.time,hD s.hn s.H,qD s.qn s.Q,hD s.bn s.B,cD s.cn s.C,.b s.cl,I' s.val]),.d (.ag [I' w.task,I' w.op,I' w.value,I' w.prio,I' w.case])] [])=some (.val (.d (.b (vainP 7 sz ot s w))) []):=by
   intro m1 m2
   have hI:=ev_ContainsK (f:=z_337) (first:=[]) (caps:=[.ref [I' s.own,I' s.cnt,I' s.time,hD s.hn s.H,qD s.qn s.Q,hD s.bn s.B,cD s.cn s.C,.b s.cl,I' s.val],.ref [nm,I' 7,I' sz,I' ot]]) (p:=fun x=>!wts s.Q x.task 70&&decide (sz≤x.log.length)) s.cn s.C h.sm.c (by intro a b c;exact ev_tpC1 nm 7 sz ot _ _ _ _ _ _ _ _ s.qn s.Q h.sm.q a b c)
   rw [ev_call P_z_334 rfl]
   by_cases ho:w.op=68
   ·have e:vainP 7 sz ot s w=nobodyB sz s:=by simp [vainP,ho]
    rw [e]
    unfold nobodyB
    generalize (s.C.any fun x=>!wts s.Q x.task 70&&decide (sz≤x.log.length))=r at *
    try simp at hI
    have hb:(w.op != 68)=false:=by simpa using ho
    simp [F_z_334,hb,allD,hI]
   ·have e:vainP 7 sz ot s w=couldB 7 sz ot s w:=by simp [vainP,ho]
    rw [e]
    have hb:(w.op != 68)=true:=by simpa using ho
    simp [F_z_334,hb,hC]
  simp [F_z_58,invV,hv]
 ·have e:vainP 8 sz ot s w=firstB 8 sz ot s w:=rfl
  rw [e]
  have hv:∀m1 m2:D,ev P (.call z_340 [.d (.ag [m1,m2]),.d (.ag [nm,I' 8,I' sz,I' ot]),.d (.ag [I' s.own,I' s.cnt,I' s.time,hD s.hn s.H,qD s.qn s.Q,hD s.bn s.B,cD s.cn s.C,.b s.cl,I' s.val]),.d (.ag [I' w.task,I' w.op,I' w.value,I' w.prio,I' w.case])] [])=some (.val (.d (.b (firstB 8 sz ot s w))) []):=by
   intro m1 m2
   rw [ev_call P_z_340 rfl]
   simp [F_z_340,hF]
  simp [F_z_58,invV,hv]
 ·have e:vainP 9 sz ot s w=couldB 9 sz ot s w:=by simp [vainP]
  rw [e]
  have hv:∀m1 m2:D,ev P (.call z_342 [.d (.ag [m1,m2]),.d (.ag [nm,I' 9,I' sz,I' ot]),.d (.ag [I' s.own,I' s.cnt,I' s.time,hD s.hn s.H,qD s.qn s.Q,hD s.bn s.B,cD s.cn s.C,.b s.cl,I' s.val]),.d (.ag [I' w.task,I' w.op,I' w.value,I' w.prio,I' w.case])] [])=some (.val (.d (.b (couldB 9 sz ot s w))) []):=by
   intro m1 m2
   rw [ev_call P_z_342 rfl]
   simp [F_z_342,hC]
  simp [F_z_58,invV,hv]
def idleB (k sz ot:Int) (s:S):Bool:=ckG k sz ot s==0&&!s.Q.any (vainP k sz ot s)
theorem ev_Idle (nm:D) (k sz ot:Int) (s:S) (h:s.fine) :
  ev P (.call z_27 [.d (.ag [nm,I' k,I' sz,I' ot]),.d (.ag s.row)] [])=some (.val (.d (.b (idleB k sz ot s))) []):=by
 rw [ev_call P_z_27 rfl]
 unfold idleB
 by_cases hk:k=1∨k=2∨k=4∨k=5∨k=6∨k=7∨k=8∨k=9
 ·obtain ⟨t,f,g,hkk,hof⟩:=of_kind hk
  have hC:=ev_lcheck f g nm k sz ot _ s (ev_ckK hkk nm sz ot s h)
  have ht:=kinds_t hkk
  have hI:ev P (.call z_57 [.d (.sl 5 s.qn (s.Q.map W.row)),.d (.fn z_58 [] [.ref [.ifc t (.ag [.fn f [] [],.fn g [] []])],.ref [nm,I' k,I' sz,I' ot],.ref s.row])] [])=some (.val (.d (.b (s.Q.any (vainP k sz ot s)))) []):=by
   by_cases hQ:s.Q=[]
   ·rw [hQ];exact ev_Cont0 s.qn _ _ _
   ·exact ev_ContainsFunc (f:=z_58) (first:=[]) (caps:=[.ref [.ifc t (.ag [.fn f [] [],.fn g [] []])],.ref [nm,I' k,I' sz,I' ot],.ref s.row]) (p:=vainP k sz ot s) s.qn s.Q h.sm.q (by intro a b c d e;exact ev_vainK hkk nm sz ot s ⟨a,b,c,d,e⟩ h hQ)
  generalize ckG k sz ot s=e at *
  generalize s.Q.any (vainP k sz ot s)=vv at *
  simp only [S.row] at hC hI
  try simp at hI
  cases he:e==0
  ·have he':(e != 0)=true:=by rw [bne,he];rfl
   rcases ht with h | h | h | h | h | h | h | h<;>subst h<;>simp [F_z_27,hof,invV,hC,he']
  ·have he':(e != 0)=false:=by rw [bne,he];rfl
   rcases ht with h | h | h | h | h | h | h | h<;>subst h<;>simp [F_z_27,hof,invV,hC,he',allD,hI]
 ·have hU:=ev_ofU hk
  rw [ckG_unknown hk]
  simp [F_z_27,hU]
end Go.VS.Sp
namespace Go.VS.Sp
theorem loop_other (qn:Bool) (Q:List W) (op t:Int) (hn:Q.length≤1000000):∀(suf pre:List W),Q=pre++suf →
  ev P (.loop 0 [0,1,2,7] F_z_60_L0 [(0,.d (qD qn Q)),(1,.d (I' op)),(2,.d (I' t)),(7,.d (I' pre.length))] []) =
   if (suf.any fun w=>w.op==op&&w.task != t)=true then some (.out .ret [(6,.d (.b true))] []) else some (.out (.exit 0) [] []):=by
 intro suf
 induction suf with
 | nil =>
  intro pre hl
  have:Q.length=pre.length:=by simp [hl]
  rw [ev_loop]
  conv=>lhs;arg 4;unfold F_z_60_L0
  simp [this]
 | cons w suf ih =>
  intro pre hl
  have hg:Q[pre.length]?=some w:=by simp [hl]
  have hlt:(pre.length:Int)<Q.length:=by simp [hl];omega
  have hnext:IntKind.i64.wrap ((pre.length:Int)+1)=pre.length+1:=wrap_i64 (by omega) (by omega)
  have ih':=ih (pre++[w]) (by simp [hl])
  rw [List.any_cons]
  generalize (suf.any fun w=>w.op==op&&w.task != t)=dd at *
  simp at ih'
  rw [ev_loop]
  conv=>lhs;arg 4;unfold F_z_60_L0
  cases h1:w.op==op
  ·simp [hlt,hg,W.row,h1,hnext]
   exact ih'
  ·cases h2:w.task != t
   ·simp [hlt,hg,W.row,h1,h2,hnext]
    exact ih'
   ·simp [hlt,hg,W.row,h1,h2]
theorem ev_other (qn:Bool) (Q:List W) (op t:Int) (hn:Q.length≤1000000):ev P (.call z_60 [.d (qD qn Q),.d (I' op),.d (I' t)] [])=some (.val (.d (.b (fgn Q op t))) []):=by
 have hl:=loop_other qn Q op t hn Q [] rfl
 simp only [List.length_nil] at hl
 unfold fgn
 rw [ev_call P_z_60 rfl]
 cases h:(Q.any fun w=>w.op==op&&w.task != t)
 ·rw [h,if_neg (by simp)] at hl
  simp at hl
  simp [F_z_60,hl]
 ·rw [h,if_pos rfl] at hl
  simp at hl
  simp [F_z_60,hl]
theorem loop_wNext (qn:Bool) (Q:List W) (t:Int) (hn:Q.length≤1000000):∀(suf pre:List W),Q=pre++suf →
  ev P (.loop 0 [0,1,5] F_z_124_L0 [(0,.d (qD qn Q)),(1,.d (I' t)),(5,.d (I' pre.length))] []) =
   if (suf.any fun w=>w.op==70&&w.task==t)=true then some (.out .ret [(4,.d (.b true))] []) else some (.out (.exit 0) [] []):=by
 intro suf
 induction suf with
 | nil =>
  intro pre hl
  have:Q.length=pre.length:=by simp [hl]
  rw [ev_loop]
  conv=>lhs;arg 4;unfold F_z_124_L0
  simp [this]
 | cons w suf ih =>
  intro pre hl
  have hg:Q[pre.length]?=some w:=by simp [hl]
  have hlt:(pre.length:Int)<Q.length:=by simp [hl];omega
  have hnext:IntKind.i64.wrap ((pre.length:Int)+1)=pre.length+1:=wrap_i64 (by omega) (by omega)
  have ih':=ih (pre++[w]) (by simp [hl])
  rw [List.any_cons]
  generalize (suf.any fun w=>w.op==70&&w.task==t)=dd at *
  simp at ih'
  rw [ev_loop]
  conv=>lhs;arg 4;unfold F_z_124_L0
  cases h1:w.op==70
  ·simp [hlt,hg,W.row,h1,hnext]
   exact ih'
  ·cases h2:w.task==t
   ·simp [hlt,hg,W.row,h1,h2,hnext]
    exact ih'
   ·simp [hlt,hg,W.row,h1,h2]
theorem ev_wNext (qn:Bool) (Q:List W) (t:Int) (hn:Q.length≤1000000):ev P (.call z_124 [.d (qD qn Q),.d (I' t)] [])=some (.val (.d (.b (wts Q t 70))) []):=by
 have hl:=loop_wNext qn Q t hn Q [] rfl
 have e:wts Q t 70=Q.any fun w=>w.op==70&&w.task==t:=by unfold wts;congr 1;funext w;rw [Bool.and_comm]
 simp only [List.length_nil] at hl
 rw [e,ev_call P_z_124 rfl]
 cases h:(Q.any fun w=>w.op==70&&w.task==t)
 ·rw [h,if_neg (by simp)] at hl
  simp at hl
  simp [F_z_124,hl]
 ·rw [h,if_pos rfl] at hl
  simp at hl
  simp [F_z_124,hl]
def awK (sz:Int) (Q:List W) (x:K):Bool:=decide (sz≤(x.log.length:Int))&&!wts Q x.task 70
theorem loop_aw (nm:D) (k sz ot:Int) (d0 d1 d2 d3 d5 d7 d8:D) (qn cn:Bool) (Q:List W) (C:List K) (hn:Q.length≤1000000) (hc:C.length≤1000000):∀(suf pre:List K),C=pre++suf →
  ev P (.loop 0 [2,3,5] F_z_59_L0 [(2,.d (.ref [nm,I' k,I' sz,I' ot])),(3,.d (.ref [d0,d1,d2,d3,qD qn Q,d5,cD cn C,d7,d8])),(5,.d (I' pre.length))] []) =
   if suf.any (awK sz Q)=true then some (.out .ret [(4,.d (.b true))] []) else some (.out (.exit 0) [] []):=by
 intro suf
 induction suf with
 | nil =>
  intro pre hl
  have:C.length=pre.length:=by simp [hl]
  rw [ev_loop]
  conv=>lhs;arg 4;unfold F_z_59_L0
  simp [this]
 | cons x suf ih =>
  intro pre hl
  have hg:C[pre.length]?=some x:=by simp [hl]
  have hlt:(pre.length:Int)<C.length:=by simp [hl];omega
  have hnext:IntKind.i64.wrap ((pre.length:Int)+1)=pre.length+1:=wrap_i64 (by omega) (by omega)
  have ih':=ih (pre++[x]) (by simp [hl])
  have hW:=ev_wNext qn Q x.task hn
  rw [List.any_cons]
  have ha:awK sz Q x=(decide (sz≤(x.log.length:Int))&&!wts Q x.task 70):=rfl
  rw [ha]
  generalize suf.any (awK sz Q)=dd at *
  generalize wts Q x.task 70=ww at *
  simp at ih'
  rw [ev_loop]
  conv=>lhs;arg 4;unfold F_z_59_L0
  by_cases h1:sz≤(x.log.length:Int)
  ·cases ww
   ·simp [hlt,hg,K.row,h1,hW]
   ·simp [hlt,hg,K.row,h1,hW,hnext]
    exact ih'
  ·simp [hlt,hg,K.row,h1,hnext]
   exact ih'
theorem ev_rawake (nm:D) (k sz ot:Int) (s:S) (h:s.fine):ev P (.call z_59 [.d (.ag [nm,I' k,I' sz,I' ot]),.d (.ag s.row)] [])=some (.val (.d (.b (!nobodyB sz s))) []):=by
 have hl:=loop_aw nm k sz ot (I' s.own) (I' s.cnt) (I' s.time) (hD s.hn s.H) (hD s.bn s.B) (.b s.cl) (I' s.val) s.qn s.cn s.Q s.C h.sm.q h.sm.c s.C [] rfl
 have e:(!nobodyB sz s)=s.C.any (awK sz s.Q):=by
  unfold nobodyB awK
  rw [Bool.not_not]
  congr 1
  funext x
  rw [Bool.and_comm]
 simp only [List.length_nil] at hl
 rw [e,ev_call P_z_59 rfl]
 cases hq:s.C.any (awK sz s.Q)
 ·rw [hq,if_neg (by simp)] at hl
  simp at hl
  simp [F_z_59,hl]
 ·rw [hq,if_pos rfl] at hl
  simp at hl
  simp [F_z_59,hl]
def fstB (k ot:Int):Bool:=k==1||k==2||(k==4&&ot==0)||k==8
def badB (k sz ot:Int) (s:S) (w:W):Bool:=if w.op==68 then nobodyB sz s else if w.op==64&&sz==0 then fgn s.Q 65 w.task else couldB k sz ot s w
def ridB (k sz ot:Int) (s:S):List W→List W→Bool
 | _,[]=>true
 | pre,w::r=>(fstB k ot&&!pre.isEmpty)||(!badB k sz ot s w&&ridB k sz ot s (pre++[w]) r)
theorem loop_ridle (nm:D) (k sz ot:Int) (s:S) (h:s.fine):∀(suf pre:List W),s.Q=pre++suf →
  ∃e b,ev P (.loop 0 [2,3,5,7] F_z_28_L0 [(2,.d (.ref [nm,I' k,I' sz,I' ot])),(3,.d (.ref s.row)),(5,.d (.ref (s.ab false).row)),(7,.d (I' pre.length))] [])=some (.out e b []) ∧
   ((e = .exit 0∧b=[]∧ridB k sz ot s pre suf=true)∨(e = .ret∧b=[(4,.d (.b (ridB k sz ot s pre suf)))])):=by
 intro suf
 induction suf with
 | nil =>
  intro pre hl
  have:s.Q.length=pre.length:=by simp [hl]
  refine ⟨.exit 0,[],?_,.inl ⟨rfl,rfl,rfl⟩⟩
  rw [ev_loop]
  conv=>lhs;arg 4;unfold F_z_28_L0
  simp [this]
 | cons w suf ih =>
  intro pre hl
  have hq:=h.q
  have hg:s.Q[pre.length]?=some w:=by simp [hl]
  have hlt:(pre.length:Int)<s.Q.length:=by simp [hl];omega
  have hnext:IntKind.i64.wrap ((pre.length:Int)+1)=pre.length+1:=wrap_i64 (by omega) (by omega)
  obtain ⟨e,b,ih1,ih2⟩:=ih (pre++[w]) (by simp [hl])
  have hA:=ev_rawake nm k sz ot s h
  have hO:=ev_other s.qn s.Q 65 w.task h.sm.q
  have hC:=ev_can nm k sz ot s w h
  have hab:(s.ab false).row.length=9:=rfl
  simp only [S.row,W.row] at hA hC
  have hr:ridB k sz ot s pre (w::suf)=((fstB k ot&&!pre.isEmpty)||(!badB k sz ot s w&&ridB k sz ot s (pre++[w]) suf)):=rfl
  rw [hr]
  generalize ridB k sz ot s (pre++[w]) suf=rr at *
  have hz:(!pre.isEmpty)=decide (0<pre.length):=by cases pre<;>simp
  have hfs:fstB k ot=(k==1||k==2||(k==4&&ot==0)||k==8):=rfl
  simp at ih1
  rw [hz,hfs]
  cases hf:((k==1||k==2||(k==4&&ot==0)||k==8)&&decide (0<pre.length))
  ·rw [Bool.false_or]
   unfold badB
   cases h68:w.op==68
   ·rw [if_neg (by simp)]
    cases h64:(w.op==64&&sz==0)
    ·rw [if_neg (by simp)]
     cases hc:couldB k sz ot s w
     ·rw [hc] at hC
      refine ⟨e,b,?_,by simpa using ih2⟩
      rw [ev_loop]
      conv=>lhs;arg 4;unfold F_z_28_L0
      simp [hlt,hg,W.row,hf,h68,h64,hab,hC,hnext]
      exact ih1
     ·rw [hc] at hC
      refine ⟨.ret,[(4,.d (.b false))],?_,.inr ⟨rfl,by simp⟩⟩
      rw [ev_loop]
      conv=>lhs;arg 4;unfold F_z_28_L0
      simp [hlt,hg,W.row,hf,h68,h64,hab,hC]
    ·rw [if_pos rfl]
     cases hc:fgn s.Q 65 w.task
     ·rw [hc] at hO
      refine ⟨e,b,?_,by simpa using ih2⟩
      rw [ev_loop]
      conv=>lhs;arg 4;unfold F_z_28_L0
      simp [hlt,hg,W.row,hf,h68,h64,hO,hnext]
      exact ih1
     ·rw [hc] at hO
      refine ⟨.ret,[(4,.d (.b false))],?_,.inr ⟨rfl,by simp⟩⟩
      rw [ev_loop]
      conv=>lhs;arg 4;unfold F_z_28_L0
      simp [hlt,hg,W.row,hf,h68,h64,hO]
   ·rw [if_pos rfl]
    cases hc:nobodyB sz s
    ·rw [hc] at hA
     refine ⟨e,b,?_,by simpa using ih2⟩
     rw [ev_loop]
     conv=>lhs;arg 4;unfold F_z_28_L0
     simp [hlt,hg,W.row,hf,h68,hA,hnext]
     exact ih1
    ·rw [hc] at hA
     refine ⟨.ret,[(4,.d (.b false))],?_,.inr ⟨rfl,by simp⟩⟩
     rw [ev_loop]
     conv=>lhs;arg 4;unfold F_z_28_L0
     simp [hlt,hg,W.row,hf,h68,hA]
  ·refine ⟨.ret,[(4,.d (.b true))],?_,.inr ⟨rfl,by simp⟩⟩
   rw [ev_loop]
   conv=>lhs;arg 4;unfold F_z_28_L0
   simp [hlt,hg,W.row,hf]
def ridleB (k sz ot:Int) (s:S):Bool:=ckG k sz ot s==0&&(if k==5 then decide ((s.Q.length:Int)<sz) else ridB k sz ot s [] s.Q)
theorem ev_rIdle (nm:D) (k sz ot:Int) (s:S) (h:s.fine) :
  ev P (.call z_28 [.d (.ag [nm,I' k,I' sz,I' ot]),.d (.ag s.row)] [])=some (.val (.d (.b (ridleB k sz ot s))) []):=by
 have hA:=ev_rAbstract nm k sz ot s h
 obtain ⟨e,b,hl,hc⟩:=loop_ridle nm k sz ot s h s.Q [] rfl
 rw [ev_call P_z_28 rfl]
 unfold ridleB
 generalize ckG k sz ot s=c at *
 generalize ridB k sz ot s [] s.Q=rr at *
 simp only [List.length_nil,S.ab,S.row] at hl hA
 simp at hl
 by_cases h0:c=0
 ·subst h0
  rw [if_pos rfl] at hA
  cases h5:k==5
  ·rcases hc with ⟨rfl,rfl,rfl⟩ | ⟨rfl,rfl⟩
   ·simp [F_z_28,hA,h5,hl]
   ·simp [F_z_28,hA,h5,hl]
  ·simp [F_z_28,hA,h5]
 ·rw [if_neg h0] at hA
  have h0':(c != 0)=true:=by simpa using h0
  have h0'':(c==0)=false:=by simpa using h0
  simp [F_z_28,hA,h0',h0'',zrow]
end Go.VS.Sp
