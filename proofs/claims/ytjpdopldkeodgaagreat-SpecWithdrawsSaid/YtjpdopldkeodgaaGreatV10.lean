import Derived.Test.YtjpdopldkeodgaaGreatV09
set_option linter.all false
namespace Go.VS.Sp
theorem num_iff {n:Int}:num n=true↔-1099511627776≤n∧n≤1099511627776:=by
 unfold num;simp
theorem wvalid_num {w:W} (h:wvalid w=true):num w.value=true:=by
 unfold wvalid wbad at h
 simp at h
 rw [num_iff]
 omega
theorem pO_mem {Q:List W} {w:W} (h:w∈pO Q):w∈Q∧w.op≠70:=by
 unfold pO at h
 rw [List.mem_filter] at h
 simpa using h
theorem srt_map {sz:Int} {C:List K} {f:K→K} (h:Srt sz C) (ht:∀c,(f c).task=c.task) (hf:∀c∈C,((f c).log.length:Int)≤sz∧(f c).log.all num=true):Srt sz (C.map f):=by
 refine ⟨?_,?_⟩
 ·rw [List.pairwise_map]
  exact h.pw.imp (fun {a b} hab=>by rw [ht,ht];exact hab)
 ·intro c hc
  obtain ⟨c0,hc0,rfl⟩:=List.mem_map.1 hc
  have:=h.el c0 hc0
  rw [ht]
  exact ⟨this.1,this.2.1,hf c0 hc0⟩
theorem pubK_task (Q:List W) (v:Int) (c:K):(pubK Q v c).task=c.task:=by
 unfold pubK;split<;>rfl
theorem Gd0.step {sz:Int} {Q A B:List W} {C:List K} {w:W} (h:Gd0 sz Q C) (hQ:Q=A++w::B) (h68:w.op=68) (hf:fl sz C Q=false):Gd0 sz (pO (A++B)) (C.map (pubK (A++B) w.value)):=by
 have hfit:fits sz C:=fun c hc=>(h.srt.el c hc).2.2.1
 have hfs:=fits_step hQ h68 hf hfit
 have hwv:num w.value=true:=wvalid_num (h.val w (by rw [hQ];simp))
 have hsub:∀x∈A++B,x∈Q:=by
  intro x hx
  rw [hQ]
  rw [List.mem_append] at hx
  rcases hx with hx | hx<;>simp [hx]
 refine ⟨srt_map h.srt (pubK_task _ _) ?_,?_,?_,?_,?_⟩
 ·intro c hc
  refine ⟨hfs _ (List.mem_map.2 ⟨c,hc,rfl⟩),?_⟩
  have:=(h.srt.el c hc).2.2.2
  unfold pubK
  split
  ·exact this
  ·simp only [List.all_append,this,List.all_cons,hwv,List.all_nil,Bool.and_self]
 ·intro x hx
  exact h.val x (hsub x (pO_mem hx).1)
 ·have h1:=pO_le (A++B)
  have h2:=h.len
  rw [hQ] at h2
  simp at h1 h2
  omega
 ·exact tks_pO (tks_sub (by rw [←hQ];exact h.nd))
 ·intro x hx
  obtain ⟨hx1,hx2⟩:=pO_mem hx
  obtain ⟨a,b⟩:=h.cs x (hsub x hx1)
  refine ⟨a,?_⟩
  rcases b with ⟨b,_⟩ | b
  ·exact absurd b hx2
  ·exact .inr b
theorem pub_none {Q:List W} (h:pub Q<0):¬∃w∈Q,w.op=68:=by
 have:=pub_neg (Q:=Q)
 rw [decide_eq_true h] at this
 rintro ⟨w,hw,h68⟩
 have h2:(Q.any fun w=>w.op==68)=true:=List.any_eq_true.2 ⟨w,hw,by simpa using h68⟩
 rw [h2] at this
 cases this
theorem advF_gd (sz:Int):∀(n:Nat) (a:Ad),a.Q.length<n→Gd0 sz a.Q a.C→Gd sz (advF sz n a).Q (advF sz n a).C
 | 0,a,hn,_=>by omega
 | n+1,a,hn,h=>by
  unfold advF
  by_cases hc:pub a.Q<0∨fl sz a.C a.Q=true
  ·rw [if_pos hc]
   refine ⟨h,?_⟩
   intro he
   rcases hc with hc | hc
   ·exact absurd he (pub_none hc)
   ·exact hc
  ·rw [if_neg hc]
   rcases pub_spec a.Q with ⟨h1,_⟩ | ⟨A,B,w,hQ,hp,h68⟩
   ·exact absurd (.inl (by omega)) hc
   ·have e:((A.length:Int)).toNat=A.length:=by omega
    have hg:a.Q[(pub a.Q).toNat]?=some w:=by rw [hp,e,hQ];simp
    have e1:Q1 a.Q=A++B:=by rw [hQ];exact Q1_eq (by rw [←hQ];exact hp)
    have hf:fl sz a.C a.Q=false:=by
     cases h:fl sz a.C a.Q
     ·rfl
     ·exact absurd (.inr h) hc
    rw [hg]
    simp only
    refine advF_gd sz n _ ?_ ?_
    ·simp only [Ad.step,e1]
     have h1:=pO_le (A++B)
     have h2:a.Q.length=A.length+(B.length+1):=by rw [hQ];simp
     simp at h1
     omega
    ·simp only [Ad.step,e1]
     exact h.step hQ h68 hf
theorem adv_gd {sz:Int} {qn:Bool} {Q:List W} {C:List K} (h:Gd0 sz Q C):Gd sz (adv sz qn Q C).Q (adv sz qn Q C).C:=advF_gd sz _ _ (by simp) h
theorem wts_mem {Q:List W} {t op:Int}:wts Q t op=true↔∃w∈Q,w.task=t∧w.op=op:=by
 unfold wts
 rw [List.any_eq_true]
 simp
theorem fl_mono {sz:Int} {C C':List K} {Q Q':List W} (h:fl sz C Q=true) (hC:∀c∈C,c∈C') (hQ:∀w∈Q',w.op=70→w∈Q∨∀c∈C,c.task≠w.task):fl sz C' Q'=true:=by
 unfold fl at *
 rw [List.any_eq_true] at *
 obtain ⟨c,hc,h1⟩:=h
 refine ⟨c,hC c hc,?_⟩
 simp only [Bool.and_eq_true,Bool.not_eq_true'] at h1 ⊢
 refine ⟨h1.1,?_⟩
 cases hw:wts Q' c.task 70
 ·rfl
 ·exfalso
  obtain ⟨w,hwm,ht,ho⟩:=wts_mem.1 hw
  rcases hQ w hwm ho with h2 | h2
  ·have:wts Q c.task 70=true:=wts_mem.2 ⟨w,h2,ht,ho⟩
   rw [h1.2] at this
   cases this
  ·exact h2 c hc ht.symm
theorem kfd_task {C:List K} {t:Int} {c:K} (h:kfd C t=some c):c.task=t:=by
 have:=List.find?_some h
 simpa using this
theorem Srt.uniq {sz:Int} {C:List K} (h:Srt sz C) {a b:K} (ha:a∈C) (hb:b∈C) (e:a.task=b.task):a=b:=by
 have hp:=h.pw
 induction C with
 | nil=>cases ha
 | cons x C ih =>
  rw [List.pairwise_cons] at hp
  rcases List.mem_cons.1 ha with ha | ha
  ·rcases List.mem_cons.1 hb with hb | hb
   ·rw [ha,hb]
   ·have:=hp.1 b hb
    rw [ha] at e
    omega
  ·rcases List.mem_cons.1 hb with hb | hb
   ·have:=hp.1 a ha
    rw [hb] at e
    omega
   ·exact ih ⟨hp.2,fun c hc=>h.el c (by simp [hc])⟩ ha hb hp.2
theorem Srt.kfd {sz:Int} {C:List K} (h:Srt sz C) {c:K} (hc:c∈C):kfd C c.task=some c:=by
 cases hk:Sp.kfd C c.task with
 | none =>
  unfold Sp.kfd at hk
  rw [List.find?_eq_none] at hk
  have:=hk c hc
  simp at this
 | some d=>rw [h.uniq (kfd_mem hk) hc (kfd_task hk)]
end Go.VS.Sp
namespace Go.VS.Sp
end Go.VS.Sp
namespace Go.VS.Sp
end Go.VS.Sp
namespace Go.VS.Sp
def qTask (s:S) (t:Int):Bool:=s.Q.any fun w=>w.task==t
def rm (s:S) (t:Int):List W:=s.Q.filter fun w=>w.task != t
def rpW (s:S) (q:D):List D:=[I' s.own,I' s.cnt,I' s.time,hD s.hn s.H,q,hD s.bn s.B,cD s.cn s.C,.b s.cl,I' s.val,.b false,I' 0,.b false,.sl 5 true []]
def Wd (x:Option Res) (s:S) (c t:Int):Prop :=
 if c=0∧qTask s t=true then x=some (.val (.tu [.d (.ag (rpW s (qO (rm s t)))),.d (I' 0)]) []) else ∃e,e≠0∧x=some (.val (.tu [.d (.ag zRp),.d (I' e)]) [])
theorem fd_q (s:S) (t:Int) (hn:s.Q.length≤1000000):∃i,ev P (.call z_132 [.d (qD s.qn s.Q),.d (I' t)] [])=some (.val (.tu [.d (I' i),.d (.b (qTask s t))]) []):=by
 have h:=ev_wFind s.qn s.Q t hn
 rw [fd_any] at h
 exact ⟨_,h⟩
theorem ev_CWd (nm:D) (k sz ot:Int) (s:S) (t:Int) (hn:s.Q.length≤1000000) {ce:Int} (hck:ev P (.call z_83 [.d (.ag [nm,I' k,I' sz,I' ot]),.d (.ag s.row)] [])=some (.val (.d (I' ce)) [])) :
  Wd (ev P (.call z_85 [.d (.ag [nm,I' k,I' sz,I' ot]),.d (.ag s.row),.d (I' t)] [])) s ce t:=by
 obtain ⟨i,hF⟩:=fd_q s t hn
 have hR:=ev_Remove s.qn s.Q t hn
 rw [ev_call P_z_85 rfl]
 unfold Wd rm
 obtain ⟨b,r,hqq⟩:∃b r,qO (s.Q.filter fun w=>w.task != t) = .sl 5 b r:=⟨_,_,rfl⟩
 rw [hqq] at hR ⊢
 simp only [S.row] at *
 by_cases hc:ce=0
 ·subst hc
  cases hq:qTask s t
  ·rw [hq] at hF
   rw [if_neg (by simp)]
   exact ⟨7,by decide,by simp [F_z_85,hck,hF,endH,overlay]⟩
  ·rw [hq] at hF
   rw [if_pos ⟨rfl,rfl⟩]
   simp [F_z_85,hck,hF,hR,rpW,endH,overlay]
 ·rw [if_neg (fun h=>hc h.1)]
  have he:(ce != 0)=true:=by simpa using hc
  exact ⟨1,by decide,by simp [F_z_85,hck,he,endH,overlay]⟩
theorem ev_LWd (nm:D) (k sz ot:Int) (s:S) (t:Int) (hn:s.Q.length≤1000000) {ce:Int} (hck:ev P (.call z_93 [.d (.ag [nm,I' k,I' sz,I' ot]),.d (.ag s.row)] [])=some (.val (.d (I' ce)) [])) :
  Wd (ev P (.call z_95 [.d (.ag [nm,I' k,I' sz,I' ot]),.d (.ag s.row),.d (I' t)] [])) s ce t:=by
 obtain ⟨i,hF⟩:=fd_q s t hn
 have hW:ev P (.call z_182 [.d (.ag s.row),.d (I' t)] [])=some (.val (.d (.b (qTask s t))) []):=by
  rw [ev_call P_z_182 rfl]
  simp only [S.row] at *
  simp [F_z_182,hF]
 have hR:=ev_Remove s.qn s.Q t hn
 rw [ev_call P_z_95 rfl]
 unfold Wd rm
 obtain ⟨b,r,hqq⟩:∃b r,qO (s.Q.filter fun w=>w.task != t) = .sl 5 b r:=⟨_,_,rfl⟩
 rw [hqq] at hR ⊢
 simp only [S.row] at *
 by_cases hc:ce=0
 ·subst hc
  cases hq:qTask s t
  ·rw [hq] at hW
   rw [if_neg (by simp)]
   exact ⟨7,by decide,by simp [F_z_95,hck,hW,endH,overlay]⟩
  ·rw [hq] at hW
   rw [if_pos ⟨rfl,rfl⟩]
   simp [F_z_95,hck,hW,hR,rpW,endH,overlay]
 ·rw [if_neg (fun h=>hc h.1)]
  have he:(ce != 0)=true:=by simpa using hc
  exact ⟨ce,hc,by simp [F_z_95,hck,he,endH,overlay]⟩
theorem ev_BWd (nm:D) (k sz ot:Int) (s:S) (t:Int) (hn:s.Q.length≤1000000) {ce:Int} (hck:ev P (.call z_78 [.d (.ag [nm,I' k,I' sz,I' ot]),.d (.ag s.row)] [])=some (.val (.d (I' ce)) [])) :
  Wd (ev P (.call z_80 [.d (.ag [nm,I' k,I' sz,I' ot]),.d (.ag s.row),.d (I' t)] [])) s ce t:=by
 obtain ⟨i,hF⟩:=fd_q s t hn
 have hW:ev P (.call z_155 [.d (.ag s.row),.d (I' t)] [])=some (.val (.d (.b (qTask s t))) []):=by
  rw [ev_call P_z_155 rfl]
  simp only [S.row] at *
  simp [F_z_155,hF]
 have hR:=ev_Remove s.qn s.Q t hn
 rw [ev_call P_z_80 rfl]
 unfold Wd rm
 obtain ⟨b,r,hqq⟩:∃b r,qO (s.Q.filter fun w=>w.task != t) = .sl 5 b r:=⟨_,_,rfl⟩
 rw [hqq] at hR ⊢
 simp only [S.row] at *
 by_cases hc:ce=0
 ·subst hc
  cases hq:qTask s t
  ·rw [hq] at hW
   rw [if_neg (by simp)]
   exact ⟨7,by decide,by simp [F_z_80,hck,hW,endH,overlay]⟩
  ·rw [hq] at hW
   rw [if_pos ⟨rfl,rfl⟩]
   simp [F_z_80,hck,hW,hR,rpW,endH,overlay]
 ·rw [if_neg (fun h=>hc h.1)]
  have he:(ce != 0)=true:=by simpa using hc
  exact ⟨ce,hc,by simp [F_z_80,hck,he,endH,overlay]⟩
theorem ev_FWd (nm:D) (k sz ot:Int) (s:S) (t:Int) (hn:s.Q.length≤1000000) {ce:Int} (hck:ev P (.call z_98 [.d (.ag [nm,I' k,I' sz,I' ot]),.d (.ag s.row)] [])=some (.val (.d (I' ce)) [])) :
  Wd (ev P (.call z_100 [.d (.ag [nm,I' k,I' sz,I' ot]),.d (.ag s.row),.d (I' t)] [])) s ce t:=by
 obtain ⟨i,hF⟩:=fd_q s t hn
 have hW:ev P (.call z_185 [.d (.ag s.row),.d (I' t)] [])=some (.val (.d (.b (qTask s t))) []):=by
  rw [ev_call P_z_185 rfl]
  simp only [S.row] at *
  simp [F_z_185,hF]
 have hR:=ev_Remove s.qn s.Q t hn
 rw [ev_call P_z_100 rfl]
 unfold Wd rm
 obtain ⟨b,r,hqq⟩:∃b r,qO (s.Q.filter fun w=>w.task != t) = .sl 5 b r:=⟨_,_,rfl⟩
 rw [hqq] at hR ⊢
 simp only [S.row] at *
 by_cases hc:ce=0
 ·subst hc
  cases hq:qTask s t
  ·rw [hq] at hW
   rw [if_neg (by simp)]
   exact ⟨7,by decide,by simp [F_z_100,hck,hW,endH,overlay]⟩
  ·rw [hq] at hW
   rw [if_pos ⟨rfl,rfl⟩]
   simp [F_z_100,hck,hW,hR,rpW,endH,overlay]
 ·rw [if_neg (fun h=>hc h.1)]
  have he:(ce != 0)=true:=by simpa using hc
  exact ⟨1,by decide,by simp [F_z_100,hck,he,endH,overlay]⟩
end Go.VS.Sp
namespace Go.VS.Sp
def gcl (st:Bool) (left:Int):List W→List O
 | []=>[.arrD 1 true [[.b st]],.arrD 1 true [[I' left]],.arrD 1 true [[.sl 5 true []]]]
 | w::r=>[.arrD 1 true [[.b st]],.arrD 1 true [[I' left]],.arrV 1 [[.asl 3 0 (r.length+1)]],.arrD 5 true ((w::r).map W.row)]
def gok (st:Bool) (left:Int) (w:W):Bool:=!st&&decide (0≤w.value)&&decide (w.value≤left)
theorem ev_GCn (w:W) (st any:Bool) (left:Int) (hg:gok st left w=false) :
  ev P (.call z_264 [.d (.ag w.row),.loc 0 0 0,.loc 1 0 0,.d (.ref [.b any]),.loc 2 0 0] (gcl st left []))=some (.val (.d (.b false)) (gcl (st||!any) left [w])):=by
 rw [ev_call P_z_264 rfl]
 unfold gok at hg
 have hr:1≤room:=by decide
 simp [F_z_264,gcl,W.row,hg,hr,callD,callR,sub,setAll,back,endH,overlay,reachC,cut,List.range_succ,List.idxOf_cons,V.same_self,thaw,freezeAll,freeze1,rg2,rg3]
theorem ev_GCc (w a:W) (r:List W) (st any:Bool) (left:Int) (hr:r.length≤1000) (hg:gok st left w=false) :
  ev P (.call z_264 [.d (.ag w.row),.loc 0 0 0,.loc 1 0 0,.d (.ref [.b any]),.loc 2 0 0] (gcl st left (a::r)))=some (.val (.d (.b false)) [.arrD 1 true [[.b (st||!any)]],.arrD 1 true [[I' left]],.arrV 1 [[.asl 4 0 (r.length+1+1)]],.dead,.arrD 5 true ((a::r).map W.row++[w.row])]):=by
 rw [ev_call P_z_264 rfl]
 unfold gok at hg
 have hr:1≤room:=by decide
 have h1:r.length+1+1≤room:=by unfold room;omega
 simp [F_z_264,gcl,W.row,hg,hr,h1,callD,callR,sub,setAll,back,endH,overlay,reachC,cut,List.range_succ,List.idxOf_cons,V.same_self,thaw,freezeAll,freeze1,rg2,rg3,take_map_len,drop_map_len,Nat.not_succ_le_self]
theorem ev_GCy (w:W) (st any:Bool) (left:Int) (O:List W) (hl:0≤left∧left≤1000000) (hg:gok st left w=true) :
  ev P (.call z_264 [.d (.ag w.row),.loc 0 0 0,.loc 1 0 0,.d (.ref [.b any]),.loc 2 0 0] (gcl st left O))=some (.val (.d (.b true)) (gcl st (left - w.value) O)):=by
 rw [ev_call P_z_264 rfl]
 have hg':=hg
 unfold gok at hg hg'
 simp at hg'
 have hw:IntKind.i64.wrap (left - w.value)=left - w.value:=wrap_i64 (by omega) (by omega)
 cases O with
 | nil=>simp [F_z_264,gcl,W.row,hg,hw,callD,callR,sub,setAll,back,endH,overlay,reachC,cut,List.range_succ,List.idxOf_cons,V.same_self,thaw,freezeAll,freeze1,rg2,rg3]
 | cons a r=>simp [F_z_264,gcl,W.row,hg,hw,callD,callR,sub,setAll,back,endH,overlay,reachC,cut,List.range_succ,List.idxOf_cons,V.same_self,thaw,freezeAll,freeze1,rg2,rg3]
def gG:List W→V
 | []=>.d (.sl 5 true [])
 | _::g=>.asl 3 0 (g.length+1)
def gLH (st:Bool) (left:Int):List W→List W→List O
 | O,[]=>gcl st left O
 | [],b::g=>[.arrD 1 true [[.b st]],.arrD 1 true [[I' left]],.arrD 1 true [[.sl 5 true []]],.arrD 5 true ((b::g).map W.row)]
 | a::r,b::g=>[.arrD 1 true [[.b st]],.arrD 1 true [[I' left]],.arrV 1 [[.asl 4 0 (r.length+1)]],.arrD 5 true ((b::g).map W.row),.arrD 5 true ((a::r).map W.row)]
structure GS where
 st:Bool
 left:Int
 O:List W
 G:List W
def grS (any:Bool):GS→List W→GS
 | s,[]=>s
 | s,w::r=>if gok s.st s.left w then grS any ⟨s.st,s.left - w.value,s.O,s.G++[w]⟩ r else grS any ⟨s.st||!any,s.left,s.O++[w],s.G⟩ r
theorem loop_fg (any:Bool) (Q:List W) (nl:Bool) (hQ:Q.length≤500):∀(suf pre:List W) (s:GS),Q=pre++suf→0≤s.left∧s.left≤1000000→s.O.length≤pre.length→s.G.length≤pre.length →
  ev P (.loop 3 [1,5,8,9,10] F_z_211r_L0 [(1,.fn z_264 [] [.loc 0 0 0,.loc 1 0 0,.d (.ref [.b any]),.loc 2 0 0]),(5,gG s.G),(8,.d (qD nl Q)),(9,.d (I' Q.length)),(10,.d (I' pre.length))] (gLH s.st s.left s.O s.G)) =
   some (.out (.exit 0) [(5,gG (grS any s suf).G)] (gLH (grS any s suf).st (grS any s suf).left (grS any s suf).O (grS any s suf).G)):=by
 intro suf
 induction suf with
 | nil =>
  intro pre s hl _ _ _
  have hlen:Q.length=pre.length:=by simp [hl]
  obtain ⟨st,left,O,G⟩:=s
  unfold grS
  rw [ev_loop]
  conv=>lhs;arg 4;unfold F_z_211r_L0
  cases O<;>cases G<;>simp [gG,gLH,gcl,hlen,callD,callR,sub,setAll,back,endH,overlay,reachC,cut,List.range_succ,List.idxOf_cons,V.same_self,thaw,freezeAll,freeze1,rg2,rg3]
 | cons w suf ih =>
  intro pre s hl hb hO hG
  have hg:Q[pre.length]?=some w:=by simp [hl]
  have hlt:(pre.length:Int)<Q.length:=by simp [hl];omega
  have hpl:pre.length≤500:=by omega
  have hnext:IntKind.i64.wrap ((pre.length:Int)+1)=pre.length+1:=wrap_i64 (by omega) (by omega)
  have hr1:1≤room:=by decide
  obtain ⟨st,left,O,G⟩:=s
  simp only at hb hO hG
  unfold grS
  cases hk:gok st left w
  ·have ih':=ih (pre++[w]) ⟨st||!any,left,O++[w],G⟩ (by simp [hl]) hb (by simp;omega) (by simp;omega)
   rw [if_neg (by simpa using hk)]
   refine Eq.trans ?_ ih'
   clear ih'
   rw [ev_loop]
   conv=>lhs;arg 4;unfold F_z_211r_L0
   cases O with
   | nil =>
    have hc:=ev_GCn w st any left hk
    simp only [gcl,W.row] at hc
    cases G with
    | nil=>simp [gG,gLH,gcl,hlt,hg,W.row,hc,hnext,callD,callR,sub,setAll,back,endH,overlay,reachC,cut,List.range_succ,List.idxOf_cons,V.same_self,thaw,freezeAll,freeze1,rg2,rg3,take_map_len,drop_map_len,Nat.not_succ_le_self]
    | cons b g=>simp [gG,gLH,gcl,hlt,hg,W.row,hc,hnext,callD,callR,sub,setAll,back,endH,overlay,reachC,cut,List.range_succ,List.idxOf_cons,V.same_self,thaw,freezeAll,freeze1,rg2,rg3,take_map_len,drop_map_len,Nat.not_succ_le_self]
   | cons a r =>
    have hc:=ev_GCc w a r st any left (by simp at hO;omega) hk
    simp [gcl,W.row] at hc
    cases G with
    | nil=>simp [gG,gLH,gcl,hlt,hg,W.row,hc,hnext,callD,callR,sub,setAll,back,endH,overlay,reachC,cut,List.range_succ,List.idxOf_cons,V.same_self,thaw,freezeAll,freeze1,rg2,rg3,take_map_len,drop_map_len,Nat.not_succ_le_self]
    | cons b g=>simp [gG,gLH,gcl,hlt,hg,W.row,hc,hnext,callD,callR,sub,setAll,back,endH,overlay,reachC,cut,List.range_succ,List.idxOf_cons,V.same_self,thaw,freezeAll,freeze1,rg2,rg3,take_map_len,drop_map_len,Nat.not_succ_le_self]
  ·have hk':=hk
   unfold gok at hk'
   simp at hk'
   have ih':=ih (pre++[w]) ⟨st,left - w.value,O,G++[w]⟩ (by simp [hl]) (by simp only;omega) (by simp;omega) (by simp;omega)
   rw [if_pos (by simpa using hk)]
   refine Eq.trans ?_ ih'
   clear ih'
   rw [ev_loop]
   conv=>lhs;arg 4;unfold F_z_211r_L0
   have hc:=ev_GCy w st any left O hb hk
   cases O with
   | nil =>
    simp [gcl,W.row] at hc
    cases G with
    | nil=>simp [gG,gLH,gcl,hlt,hg,W.row,hc,hnext,hr1,callD,callR,sub,setAll,back,endH,overlay,reachC,cut,List.range_succ,List.idxOf_cons,V.same_self,thaw,freezeAll,freeze1,rg2,rg3,take_map_len,drop_map_len,Nat.not_succ_le_self]
    | cons b g =>
     have h1:g.length+1+1≤room:=by simp at hG;unfold room;omega
     simp [gG,gLH,gcl,hlt,hg,W.row,hc,hnext,hr1,h1,callD,callR,sub,setAll,back,endH,overlay,reachC,cut,List.range_succ,List.idxOf_cons,V.same_self,thaw,freezeAll,freeze1,rg2,rg3,take_map_len,drop_map_len,Nat.not_succ_le_self]
   | cons a r =>
    simp [gcl,W.row] at hc
    cases G with
    | nil=>simp [gG,gLH,gcl,hlt,hg,W.row,hc,hnext,hr1,callD,callR,sub,setAll,back,endH,overlay,reachC,cut,List.range_succ,List.idxOf_cons,V.same_self,thaw,freezeAll,freeze1,rg2,rg3,take_map_len,drop_map_len,Nat.not_succ_le_self]
    | cons b g =>
     have h1:g.length+1+1≤room:=by simp at hG;unfold room;omega
     simp [gG,gLH,gcl,hlt,hg,W.row,hc,hnext,hr1,h1,callD,callR,sub,setAll,back,endH,overlay,reachC,cut,List.range_succ,List.idxOf_cons,V.same_self,thaw,freezeAll,freeze1,rg2,rg3,take_map_len,drop_map_len,Nat.not_succ_le_self]
theorem ev_fg (any:Bool) (Q:List W) (nl:Bool) (n:Int) (hQ:Q.length≤500) (hn:0≤n∧n≤1000000) :
  ev P (.call z_211r [.d (qD nl Q),.fn z_264 [] [.loc 0 0 0,.loc 1 0 0,.d (.ref [.b any]),.loc 2 0 0]] (gcl false n [])) =
   some (.val (gG (grS any ⟨false,n,[],[]⟩ Q).G) (gLH (grS any ⟨false,n,[],[]⟩ Q).st (grS any ⟨false,n,[],[]⟩ Q).left (grS any ⟨false,n,[],[]⟩ Q).O (grS any ⟨false,n,[],[]⟩ Q).G)):=by
 have hL:=loop_fg any Q nl hQ Q [] ⟨false,n,[],[]⟩ rfl hn (by simp) (by simp)
 rw [ev_call P_z_211r rfl]
 simp only [gG,gLH,gcl,List.length_nil] at hL ⊢
 generalize grS any ⟨false,n,[],[]⟩ Q=s at *
 obtain ⟨st,left,O,G⟩:=s
 have hL:ev P (.loop 3 [1,5,8,9,10] F_z_211r_L0 [(1,.fn z_264 [] [.loc 0 0 0,.loc 1 0 0,.d (.ref [.b any]),.loc 2 0 0]),(5,.d (.sl 5 true [])),(8,.d (qD nl Q)),(9,.d (I' Q.length)),(10,.d (I' 0))] [.arrD 1 true [[.b false]],.arrD 1 true [[I' n]],.arrD 1 true [[.sl 5 true []]]])=some (.out (.exit 0) [(5,gG G)] (gLH st left O G)):=hL
 cases O<;>cases G<;>simp only [gG,gLH,gcl] at hL<;>simp [F_z_211r,gG,gLH,gcl,hL,callD,callR,sub,setAll,back,endH,overlay,reachC,cut,List.range_succ,List.idxOf_cons,V.same_self,thaw,freezeAll,freeze1,rg2,rg3,take_map_len,drop_map_len,Nat.not_succ_le_self]
theorem ev_Grant (any:Bool) (Q:List W) (nl:Bool) (n:Int) (hQ:Q.length≤500) (hn:0≤n∧n≤1000000) :
  ev P (.call z_219 [.d (qD nl Q),.d (I' n),.d (.b any)] [])=some (.val (.tu [.d (qO (grS any ⟨false,n,[],[]⟩ Q).G),.d (qO (grS any ⟨false,n,[],[]⟩ Q).O),.d (I' (grS any ⟨false,n,[],[]⟩ Q).left)]) []):=by
 have hF:=ev_fg any Q nl n hQ hn
 rw [ev_call P_z_219 rfl]
 generalize grS any ⟨false,n,[],[]⟩ Q=s at *
 obtain ⟨st,left,O,G⟩:=s
 simp only [gcl] at hF
 cases O<;>cases G<;>simp only [gG,gLH,gcl] at hF<;>simp [F_z_219,hF,qO,W.row,callD,callR,sub,setAll,back,endH,overlay,reachC,cut,List.range_succ,List.idxOf_cons,V.same_self,thaw,freezeAll,freeze1,rg2,rg3,take_map_len,drop_map_len,Nat.not_succ_le_self]
end Go.VS.Sp
namespace Go.VS.Sp
def wkr (w:W):List D:=[I' w.task,I' w.op,I' 0,.b true,I' (-1)]
def wV:List W→V
 | []=>.d (.sl 5 true [])
 | _::r=>.asl 1 0 (r.length+1)
def wH:List W→List O
 | []=>[]
 | a::r=>[.arrD 5 true ((a::r).map wkr)]
theorem loop_srv (c:List D) (G:List W) (b:Bool) (hG:G.length≤500):∀(suf pre:List W),G=pre++suf →
  ev P (.loop 1 [6,38,39,40] F_z_150_L0 [(6,wV pre),(38,.d (qD b G)),(39,.d (I' G.length)),(40,.d (I' pre.length))] (.arrD 10 true [c]::wH pre)) =
   some (.out (.exit 0) [(6,wV G)] (.arrD 10 true [c]::wH G)):=by
 intro suf
 induction suf with
 | nil =>
  intro pre hl
  have hlen:G.length=pre.length:=by simp [hl]
  have e:pre=G:=by simpa using hl.symm
  subst e
  rw [ev_loop]
  conv=>lhs;arg 4;unfold F_z_150_L0
  cases pre<;>simp [wV,wH,callD,callR,sub,setAll,back,endH,overlay,reachC,cut,List.range_succ,List.idxOf_cons,V.same_self,thaw,freezeAll,freeze1,rg2,rg3,take_map_len,drop_map_len,Nat.not_succ_le_self]
 | cons w suf ih =>
  intro pre hl
  have hg:G[pre.length]?=some w:=by simp [hl]
  have hlt:(pre.length:Int)<G.length:=by simp [hl];omega
  have hpl:pre.length≤500:=by omega
  have hnext:IntKind.i64.wrap ((pre.length:Int)+1)=pre.length+1:=wrap_i64 (by omega) (by omega)
  have hr1:1≤room:=by decide
  have ih':=ih (pre++[w]) (by simp [hl])
  obtain ⟨i,hi⟩:∃i,i=pre.length:=⟨_,rfl⟩
  rw [show (pre++[w]).length=i+1 by simp [hi]] at ih'
  rw [←hi] at hg hlt hnext hpl ⊢
  refine Eq.trans ?_ ih'
  clear ih'
  rw [ev_loop]
  conv=>lhs;arg 4;unfold F_z_150_L0
  cases pre with
  | nil=>simp [wV,wH,wkr,hlt,hg,W.row,hnext,hr1,callD,callR,sub,setAll,back,endH,overlay,reachC,cut,List.range_succ,List.idxOf_cons,V.same_self,thaw,freezeAll,freeze1,rg2,rg3,take_map_len,drop_map_len,Nat.not_succ_le_self]
  | cons a r =>
   have h1:r.length+1+1≤room:=by simp at hi;unfold room;omega
   clear hi
   simp [wV,wH,wkr,hlt,hg,W.row,hnext,hr1,h1,callD,callR,sub,setAll,back,endH,overlay,reachC,cut,List.range_succ,List.idxOf_cons,V.same_self,thaw,freezeAll,freeze1,rg2,rg3,take_map_len,drop_map_len,Nat.not_succ_le_self]
theorem grS_len (any:Bool):∀(Q:List W) (s:GS),(grS any s Q).O.length+(grS any s Q).G.length=s.O.length+s.G.length+Q.length
 | [],s=>by simp [grS]
 | w::r,s=>by
  unfold grS
  split
  ·rw [grS_len any r];simp;omega
  ·rw [grS_len any r];simp;omega
theorem ev_serve (s:S) (cnt:Int) (nl:Bool) (Q:List W) (any:Bool) (hQ:Q.length≤500) (hn:0≤cnt∧cnt≤1000000) :
  ev P (.call z_150 [.loc 0 0 0] [.arrD 10 true [prow s cnt (qD nl Q) any]]) =
   some (.val (wV (grS any ⟨false,cnt,[],[]⟩ Q).G) (.arrD 10 true [prow s (grS any ⟨false,cnt,[],[]⟩ Q).left (qO (grS any ⟨false,cnt,[],[]⟩ Q).O) any]::wH (grS any ⟨false,cnt,[],[]⟩ Q).G)):=by
 have hG:=ev_Grant any Q nl cnt hQ hn
 have hlen:=grS_len any Q ⟨false,cnt,[],[]⟩
 generalize grS any ⟨false,cnt,[],[]⟩ Q=g at *
 obtain ⟨st,left,O,G⟩:=g
 simp only [List.length_nil] at hlen hG ⊢
 have hL:=loop_srv (prow s left (qO O) any) G (decide (G=[])) (by omega) G [] rfl
 obtain ⟨bo,ro,hqo⟩:∃b r,qO O = .sl 5 b r:=⟨_,_,rfl⟩
 rw [hqo] at hG hL ⊢
 have hqg:qO G = .sl 5 (decide (G=[])) (G.map W.row):=rfl
 rw [hqg] at hG
 have hL:ev P (.loop 1 [6,38,39,40] F_z_150_L0 [(6,.d (.sl 5 true [])),(38,.d (qD (decide (G=[])) G)),(39,.d (I' G.length)),(40,.d (I' 0))] [.arrD 10 true [prow s left (.sl 5 bo ro) any]])=some (.out (.exit 0) [(6,wV G)] (.arrD 10 true [prow s left (.sl 5 bo ro) any]::wH G)):=hL
 unfold prow at hL ⊢
 rw [ev_call P_z_150 rfl]
 cases G with
 | nil =>
  simp only [qD,List.map_nil] at hL
  simp [wV,wH] at hL hG
  simp [F_z_150,wV,wH,hG,hL,callD,callR,sub,setAll,back,endH,overlay,reachC,cut,List.range_succ,List.idxOf_cons,V.same_self,thaw,freezeAll,freeze1,rg2,rg3,take_map_len,drop_map_len,Nat.not_succ_le_self]
 | cons a r =>
  simp only [qD,List.map_cons,W.row] at hL
  simp [wV,wH,wkr,W.row] at hL hG
  simp [F_z_150,wV,wH,wkr,hG,hL,callD,callR,sub,setAll,back,endH,overlay,reachC,cut,List.range_succ,List.idxOf_cons,V.same_self,thaw,freezeAll,freeze1,rg2,rg3,take_map_len,drop_map_len,Nat.not_succ_le_self]
def srvS (ot:Int) (cnt:Int) (Q:List W):GS:=grS (ot==1) ⟨false,cnt,[],[]⟩ Q
theorem ev_SWd (nm:D) (k sz ot:Int) (s:S) (t:Int) (hn:s.Q.length≤500) (hcn:0≤s.cnt∧s.cnt≤1000000) {ce:Int} (hck:ev P (.call z_73 [.d (.ag [nm,I' k,I' sz,I' ot]),.d (.ag s.row)] [])=some (.val (.d (I' ce)) [])) :
  if ce=0∧qTask s t=true then ev P (.call z_75 [.d (.ag [nm,I' k,I' sz,I' ot]),.d (.ag s.row),.d (I' t)] []) =
    some (.val (.tu [.d (.ag [I' s.own,I' (srvS ot s.cnt (rm s t)).left,I' s.time,hD s.hn s.H,qO (srvS ot s.cnt (rm s t)).O,hD s.bn s.B,cD s.cn s.C,.b s.cl,I' s.val,.b false,I' 0,.b false,.sl 5 (decide ((srvS ot s.cnt (rm s t)).G=[])) ((srvS ot s.cnt (rm s t)).G.map wkr)]),.d (I' 0)]) [])
   else ∃e,e≠0∧ev P (.call z_75 [.d (.ag [nm,I' k,I' sz,I' ot]),.d (.ag s.row),.d (I' t)] [])=some (.val (.tu [.d (.ag zRp),.d (I' e)]) []):=by
 obtain ⟨i,hF⟩:=fd_q s t (by omega)
 have hR:=ev_Remove s.qn s.Q t (by omega)
 have hS:=ev_serve s s.cnt (decide (rm s t=[])) (rm s t) (ot==1) (by unfold rm;exact Nat.le_trans (List.length_filter_le _ _) hn) hcn
 rw [ev_call P_z_75 rfl]
 have e1:(s.Q.filter fun w=>w.task != t)=rm s t:=rfl
 rw [e1] at hR
 have e2:grS (ot==1) ⟨false,s.cnt,[],[]⟩ (rm s t)=srvS ot s.cnt (rm s t):=rfl
 rw [e2] at hS
 generalize srvS ot s.cnt (rm s t)=g at *
 obtain ⟨st,left,O,G⟩:=g
 obtain ⟨bo,ro,hqo⟩:∃b r,qO O = .sl 5 b r:=⟨_,_,rfl⟩
 obtain ⟨bq,rq,hqq⟩:∃b r,qO (rm s t) = .sl 5 b r:=⟨_,_,rfl⟩
 have hqq':qD (decide (rm s t=[])) (rm s t) = .sl 5 bq rq:=hqq
 simp only at hS ⊢
 rw [hqo] at hS ⊢
 rw [hqq'] at hS
 rw [hqq] at hR
 unfold prow at hS
 simp only [S.row] at *
 by_cases hc:ce=0
 ·subst hc
  cases hq:qTask s t
  ·rw [hq] at hF
   rw [if_neg (by simp)]
   exact ⟨7,by decide,by simp [F_z_75,hck,hF,endH,overlay]⟩
  ·rw [hq] at hF
   rw [if_pos ⟨rfl,rfl⟩]
   cases hb:ot==1
   all_goals
    rw [hb] at hS
    cases G with
    | nil =>
     simp [wV,wH] at hS
     simp [F_z_75,hck,hF,hR,hb,hS,callD,callR,sub,setAll,back,endH,overlay,reachC,cut,List.range_succ,List.idxOf_cons,V.same_self,thaw,freezeAll,freeze1,rg2,rg3,take_map_len,drop_map_len,Nat.not_succ_le_self]
    | cons a r =>
     simp [wV,wH,wkr] at hS
     simp [F_z_75,hck,hF,hR,hb,hS,wkr,callD,callR,sub,setAll,back,endH,overlay,reachC,cut,List.range_succ,List.idxOf_cons,V.same_self,thaw,freezeAll,freeze1,rg2,rg3,take_map_len,drop_map_len,Nat.not_succ_le_self]
 ·rw [if_neg (fun h=>hc h.1)]
  have he:(ce != 0)=true:=by simpa using hc
  exact ⟨1,by decide,by simp [F_z_75,hck,he,endH,overlay]⟩
end Go.VS.Sp
namespace Go.VS.Sp
def S.rmv (s:S) (t:Int):S:={ s with qn:=decide (rm s t=[]),Q:=rm s t }
theorem qall_sub {f:List W→W→Bool} (p:W→Bool) (hm:∀a b w,a.Sublist b→f b w=true→f a w=true):∀(l a b:List W),a.Sublist b→qall f b l=true→qall f a (l.filter p)=true
 | [],_,_,_,_=>rfl
 | w::r,a,b,hab,h=>by
  unfold qall at h
  simp only [Bool.and_eq_true] at h
  cases hp:p w
  ·rw [List.filter_cons_of_neg (by simp [hp])]
   exact qall_sub p hm r a (b++[w]) (hab.trans (List.sublist_append_left _ _)) h.2
  ·rw [List.filter_cons_of_pos hp]
   unfold qall
   rw [hm a b w hab h.1,qall_sub p hm r (a++[w]) (b++[w]) (hab.append (List.Sublist.refl _)) h.2]
   rfl
theorem any_sub {p:W→Bool} {a b:List W} (h:a.Sublist b) (hb:b.any p=false):a.any p=false:=by
 rw [List.any_eq_false] at hb ⊢
 exact fun x hx=>hb x (h.subset hx)
theorem rm_sub (s:S) (t:Int):(rm s t).Sublist s.Q:=List.filter_sublist
theorem wchk_rm {s:S} (t:Int) (h:wchk s.Q=0):wchk (rm s t)=0:=by
 rw [wchk_iff] at h ⊢
 exact ⟨Nat.le_trans (rm_sub s t).length_le h.1,fun w hw=>h.2 w ((rm_sub s t).subset hw)⟩
theorem okB_rm {sz:Int} {s:S} (t:Int) (h:okBq sz s=true):okBq sz (s.rmv t)=true:=by
 unfold okBq at h ⊢
 simp only [Bool.and_eq_true,Bool.not_eq_true',beq_iff_eq] at h ⊢
 obtain ⟨h1,h2,h3,h4⟩:=h
 have hl:=(rm_sub s t).length_le
 refine ⟨?_,h2,wchk_rm t h3,qall_sub _ (fun a b w hab hf=>?_) _ [] [] (List.Sublist.refl _) h4⟩
 ·unfold okBa S.rmv at *
  simp at h1 ⊢
  omega
 ·unfold fB at hf ⊢
  simp only [Bool.and_eq_true,Bool.not_eq_true'] at hf ⊢
  exact ⟨hf.1,any_sub hab hf.2⟩
theorem okL_rm {sz:Int} {s:S} (t:Int) (h:okLq sz s=true):okLq sz (s.rmv t)=true:=by
 unfold okLq at h ⊢
 simp only [Bool.and_eq_true,Bool.not_eq_true',beq_iff_eq] at h ⊢
 obtain ⟨h1,h2,h3,h4⟩:=h
 refine ⟨h1,h2,wchk_rm t h3,qall_sub _ (fun a b w hab hf=>?_) _ [] [] (List.Sublist.refl _) h4⟩
 unfold fL at hf ⊢
 simp only [Bool.and_eq_true,Bool.not_eq_true'] at hf ⊢
 exact ⟨hf.1,any_sub hab hf.2⟩
theorem okF_rm {s:S} (t:Int) (h:okFq s=true):okFq (s.rmv t)=true:=by
 unfold okFq at h ⊢
 simp only [Bool.and_eq_true,beq_iff_eq] at h ⊢
 obtain ⟨h1,h2,⟨h3,h4⟩,h5⟩:=h
 have hl:=(rm_sub s t).length_le
 refine ⟨h1,h2,⟨qall_sub _ (fun a b w hab hf=>?_) _ [] [] (List.Sublist.refl _) h3,wchk_rm t h4⟩,?_⟩
 ·unfold fF at hf ⊢
  simp only [Bool.not_eq_true',Bool.or_eq_false_iff] at hf ⊢
  exact ⟨⟨⟨any_sub hab hf.1.1.1,hf.1.1.2⟩,hf.1.2⟩,hf.2⟩
 ·unfold S.rmv
  simp only
  cases hc:s.cl
  ·rw [hc] at h5;exact h5
  ·rw [hc] at h5
   simp at h5 ⊢
   have:s.Q.length=0:=by rw [h5];rfl
   exact List.length_eq_zero_iff.1 (by omega)
theorem okC_rm {sz:Int} {s:S} (t:Int) (h:okCq sz s=true):okCq sz (s.rmv t)=true:=by
 unfold okCq at h ⊢
 simp only [Bool.and_eq_true,Bool.not_eq_true',beq_iff_eq] at h ⊢
 obtain ⟨h1,h2,h3,h4,h5,h6⟩:=h
 have hl:=(rm_sub s t).length_le
 refine ⟨h1,h2,wchk_rm t h3,qall_sub _ (fun a b w hab hf=>?_) _ [] [] (List.Sublist.refl _) h4,?_,?_⟩
 ·unfold fC at hf ⊢
  simp only [Bool.and_eq_true,Bool.not_eq_true'] at hf ⊢
  exact ⟨hf.1,any_sub hab hf.2⟩
 ·unfold S.rmv
  simp only
  cases hc:s.cl
  ·rfl
  ·rw [hc] at h5
   simp at h5 ⊢
   have:s.Q.length=0:=by rw [h5];rfl
   exact List.length_eq_zero_iff.1 (by omega)
 ·rw [List.any_eq_false] at h6 ⊢
  intro w hw
  have h:=h6 w ((rm_sub s t).subset hw)
  have hB:(s.rmv t).B=s.B:=rfl
  have hQ:(s.rmv t).Q=rm s t:=rfl
  rw [hB,hQ]
  unfold cvn at h ⊢
  have hf:∀op,fgn s.Q op w.task=false→fgn (rm s t) op w.task=false:=fun op h=>any_sub (rm_sub s t) h
  split at h<;>rename_i ho
  ·rw [if_pos ho]
   simp only [Bool.not_eq_true,Bool.or_eq_false_iff] at h ⊢
   exact ⟨h.1,hf _ h.2⟩
  ·rw [if_neg ho]
   simp only [Bool.not_eq_true,Bool.or_eq_false_iff] at h ⊢
   exact ⟨h.1,hf _ h.2⟩
theorem ckG_rm {k sz ot:Int} {s:S} (t:Int) (hk:k=5∨k=6∨k=8∨k=9) (h:ckG k sz ot s=0):ckG k sz ot (s.rmv t)=0:=by
 have cz:∀{n:Int} {b:Bool},ck n b=0→n=0∧b=true:=fun {n b} h=>by
  have:=ck_zero (n:=n) (b:=b)
  rw [h] at this
  simpa using this.symm
 have zc:∀{n:Int} {b:Bool},n=0→b=true→ck n b=0:=fun {n b} h1 h2=>by subst h1;subst h2;rfl
 rcases hk with rfl | rfl | rfl | rfl
 ·obtain ⟨h1,h2⟩:=cz (n:=nwB 5 sz ot) (b:=okBq sz s) h
  exact zc (n:=nwB 5 sz ot) h1 (okB_rm t h2)
 ·obtain ⟨h1,h2⟩:=cz (n:=nwC 6 sz ot) (b:=okCq sz s) h
  exact zc (n:=nwC 6 sz ot) h1 (okC_rm t h2)
 ·obtain ⟨h1,h2⟩:=cz (n:=nwL 8 sz ot) (b:=okLq sz s) h
  exact zc (n:=nwL 8 sz ot) h1 (okL_rm t h2)
 ·obtain ⟨h1,h2⟩:=cz (n:=nwA 9 9 sz ot) (b:=okFq s) h
  exact zc (n:=nwA 9 9 sz ot) h1 (okF_rm t h2)
end Go.VS.Sp
namespace Go.VS.Sp
structure Cp where
 c:Cl
 w:Wk
def Cp.row (x:Cp):List D:=x.c.row++x.w.row
def plF (k sz ot:Int):S→List Cp→S×Bool
 | a,[]=>(a,true)
 | a,x::r =>
  let e:=effF k sz ot a.pl x.c
  if e.2.2.2≠0 then (a,false)
  else if (x.c.op==61&&ot==0&&!x.w.ok&&x.w.value==0)=true then plF k sz ot a r
  else if (e.2.1 != x.w.value||e.2.2.1 != x.w.ok)=true then (a,false) else plF k sz ot e.1 r
theorem pl_idem (s:S):s.pl.pl=s.pl:=by
 unfold S.pl
 simp only [List.map_map]
 congr 1
theorem plF_pl (k sz ot:Int):∀(l:List Cp) (a b:S),a.pl=b.pl→(plF k sz ot a l).1.pl=(plF k sz ot b l).1.pl∧(plF k sz ot a l).2=(plF k sz ot b l).2
 | [],_,_,h=>⟨h,rfl⟩
 | x::r,a,b,h=>by
  unfold plF
  rw [h]
  simp only
  split
  ·exact ⟨h,rfl⟩
  ·split
   ·exact plF_pl k sz ot r a b h
   ·split
    ·exact ⟨h,rfl⟩
    ·exact ⟨rfl,rfl⟩
theorem zn_mono {n m:Nat} {s:S} (h:s.zn n) (hm:n≤m):s.zn m:=⟨by have:=h.h;omega,by have:=h.b;omega,by have:=h.q;omega,by have:=h.c;omega,fun c hc=>by have:=h.l c hc;omega⟩
theorem loop_play (nm:D) (k sz ot:Int) (b:Bool) (L:List Cp) (hn:L.length≤100):∀(suf pre:List Cp) (a:S),L=pre++suf→a.wf→a.zn (200+pre.length) →
  ∃a':S,a'.pl=(plF k sz ot a suf).1.pl∧a'.wf∧a'.zn (200+L.length) ∧
   ev P (.loop 0 [3,4,6,14,15,16] F_z_30_L0 [(3,.d (.ref [nm,I' k,I' sz,I' ot])),(4,.loc 0 0 0),(6,.loc 1 0 0),(14,.d (.sl 10 b (L.map Cp.row))),(15,.d (I' L.length)),(16,.d (I' pre.length))] [.arrD 9 true [a.row],.arrD 9 true [zrow]]) =
    if (plF k sz ot a suf).2=true then some (.out (.exit 0) [(4,.loc 0 0 0),(6,.loc 1 0 0)] [.arrD 9 true [a'.row],.arrD 9 true [zrow]])
    else some (.out .ret [(6,.loc 0 0 0),(7,.d (.b false))] [.arrD 9 true [a'.row]]):=by
 intro suf
 induction suf with
 | nil =>
  intro pre a hl hw hz
  have hlen:L.length=pre.length:=by simp [hl]
  refine ⟨a,rfl,hw,by rw [hlen];exact hz,?_⟩
  unfold plF
  rw [if_pos rfl,ev_loop]
  conv=>lhs;arg 4;unfold F_z_30_L0
  simp [hlen,reachC,cut,List.range_succ,List.idxOf_cons]
 | cons x suf ih =>
  intro pre a hl hw hz
  have hg:L[pre.length]?=some x:=by simp [hl]
  have hlt:(pre.length:Int)<L.length:=by simp [hl];omega
  have hpl:pre.length<L.length:=by omega
  have hnext:IntKind.i64.wrap ((pre.length:Int)+1)=pre.length+1:=wrap_i64 (by omega) (by omega)
  obtain ⟨s1,e1,p1,w1⟩:=ev_Effect nm k sz ot a x.c hw (hz.sz (by omega))
  have hz1:=zn_eff k sz ot x.c (zn_pl.2 hz)
  obtain ⟨⟨ct,co,cv,cp,cnw⟩,⟨wt,wo,wv,wok,wc⟩⟩:=x
  simp only at e1 p1 hz1
  unfold plF
  generalize hr:effF k sz ot a.pl ⟨ct,co,cv,cp,cnw⟩=r at *
  obtain ⟨r1,r2,r3,r4⟩:=r
  simp only at e1 p1 hz1 ⊢
  simp only [S.row,Cl.row] at e1
  by_cases he:r4=0
  ·subst he
   rw [if_neg (by simp)]
   cases hsk:(co==61&&ot==0&&!wok&&wv==0)
   ·rw [if_neg (by simp)]
    cases hd:(r2 != wv||(!r3==wok))
    ·have hd2:(r2 != wv||r3 != wok)=false:=by rw [←hd];cases r3<;>cases wok<;>rfl
     rw [if_neg (by rw [hd2];decide)]
     have hz2:s1.zn (200+pre.length+1):=by rw [←p1] at hz1;exact zn_pl.1 hz1
     obtain ⟨a',q1,q2,q3,q4⟩:=ih (pre++[⟨⟨ct,co,cv,cp,cnw⟩,⟨wt,wo,wv,wok,wc⟩⟩]) s1 (by simp [hl]) w1 (by simpa [Nat.add_assoc] using hz2)
     obtain ⟨g1,g2⟩:=plF_pl k sz ot suf s1 r1 (by rw [←p1];exact (pl_idem s1).symm)
     rw [g1] at q1
     rw [g2] at q4
     refine ⟨a',q1,q2,q3,Eq.trans ?_ q4⟩
     rw [ev_loop]
     conv=>lhs;arg 4;unfold F_z_30_L0
     simp [hlt,hg,Cp.row,Cl.row,Wk.row,e1,hsk,hd,hnext,zrow,reachC,cut,List.range_succ,List.idxOf_cons,overlay]
    ·have hd2:(r2 != wv||r3 != wok)=true:=by rw [←hd];cases r3<;>cases wok<;>rfl
     rw [if_pos (by rw [hd2])]
     refine ⟨a,rfl,hw,zn_mono hz (by omega),?_⟩
     rw [if_neg (by simp),ev_loop]
     conv=>lhs;arg 4;unfold F_z_30_L0
     simp [hlt,hg,Cp.row,Cl.row,Wk.row,e1,hsk,hd,zrow,reachC,cut,List.range_succ,List.idxOf_cons,overlay]
   ·rw [if_pos rfl]
    obtain ⟨a',q1,q2,q3,q4⟩:=ih (pre++[⟨⟨ct,co,cv,cp,cnw⟩,⟨wt,wo,wv,wok,wc⟩⟩]) a (by simp [hl]) hw (zn_mono hz (by simp))
    refine ⟨a',q1,q2,q3,Eq.trans ?_ q4⟩
    rw [ev_loop]
    conv=>lhs;arg 4;unfold F_z_30_L0
    simp [hlt,hg,Cp.row,Cl.row,Wk.row,e1,hsk,hnext,zrow,reachC,cut,List.range_succ,List.idxOf_cons,overlay]
  ·rw [if_pos he]
   refine ⟨a,rfl,hw,zn_mono hz (by omega),?_⟩
   rw [if_neg (by simp),ev_loop]
   conv=>lhs;arg 4;unfold F_z_30_L0
   have he':(r4 != 0)=true:=by simpa using he
   simp [hlt,hg,Cp.row,Cl.row,Wk.row,e1,he',zrow,reachC,cut,List.range_succ,List.idxOf_cons,overlay]
theorem ev_play (nm:D) (k sz ot:Int) (b:Bool) (L:List Cp) (a:S) (hn:L.length≤100) (hw:a.wf) (hz:a.zn 200) :
  ∃a':S,a'.pl=(plF k sz ot a L).1.pl∧a'.wf∧a'.zn 300 ∧
   ev P (.call z_30 [.d (.ag [nm,I' k,I' sz,I' ot]),.d (.ag a.row),.d (.sl 10 b (L.map Cp.row))] [])=some (.val (.tu [.d (.ag a'.row),.d (.b (plF k sz ot a L).2)]) []):=by
 obtain ⟨a',q1,q2,q3,q4⟩:=loop_play nm k sz ot b L hn L [] a rfl hw hz
 refine ⟨a',q1,q2,zn_mono q3 (by omega),?_⟩
 generalize plF k sz ot a L=r at *
 obtain ⟨r1,r2⟩:=r
 simp only [List.length_nil,S.row,zrow] at q4
 rw [ev_call P_z_30 rfl]
 cases r2
 ·rw [if_neg (by simp)] at q4
  simp at q4
  simp [F_z_30,q4,endH,reachC,cut,List.range_succ,List.idxOf_cons,overlay]
 ·rw [if_pos rfl] at q4
  simp at q4
  simp [F_z_30,q4,endH,reachC,cut,List.range_succ,List.idxOf_cons,overlay]
end Go.VS.Sp
namespace Go.VS.Sp
end Go.VS.Sp
namespace Go.VS.Sp
def wmt (w:Wk) (x:W):Bool:=x.task==w.task&&x.op==w.op&&x.case==w.case
def vpF (w:Wk):List W→Int×Int→Int×Int
 | [],p=>p
 | x::r,p=>vpF w r (if wmt w x then (x.value,x.prio) else p)
def oW:List Cp→V
 | []=>.d (.sl 10 true [])
 | _::r=>.asl 0 0 (r.length+1)
def hW:List Cp→List O
 | []=>[]
 | a::r=>[.arrD 10 true ((a::r).map Cp.row)]
def nW:List Cp→Nat
 | []=>0
 | _::_=>1
theorem loop_wk0 (s:S) (w:Wk) (now:Int) (out:List Cp) (l:D) (ln i:Int) (hn:s.Q.length≤500):∀(suf pre:List W) (p:Int×Int),s.Q=pre++suf →
  ev P (.loop 0 [2,3,7,9,10,13,14,15,26,27,28] F_z_31_L0 [(2,.d (I' now)),(3,.d (.ref s.row)),(7,oW out),(9,.d (.ref w.row)),(10,.loc (nW out) 0 0),(13,.d l),(14,.d (I' ln)),(15,.d (I' i)),(26,.d (qD s.qn s.Q)),(27,.d (I' s.Q.length)),(28,.d (I' pre.length))] (hW out++[.arrD 5 true [[I' w.task,I' w.op,I' p.1,I' p.2,I' now]]])) =
   some (.out (.exit 2) [(2,.d (I' now)),(3,.d (.ref s.row)),(7,oW out),(9,.d (.ref w.row)),(10,.loc (nW out) 0 0),(13,.d l),(14,.d (I' ln)),(15,.d (I' i))] (hW out++[.arrD 5 true [[I' w.task,I' w.op,I' (vpF w suf p).1,I' (vpF w suf p).2,I' now]]])):=by
 intro suf
 induction suf with
 | nil =>
  intro pre p hl
  have hlen:s.Q.length=pre.length:=by simp [hl]
  unfold vpF
  rw [ev_loop]
  conv=>lhs;arg 4;unfold F_z_31_L0
  cases out<;>simp [oW,hW,nW,hlen,reachC,cut,List.range_succ,List.idxOf_cons]
 | cons x suf ih =>
  intro pre p hl
  have hg:s.Q[pre.length]?=some x:=by simp [hl]
  have hlt:(pre.length:Int)<s.Q.length:=by simp [hl];omega
  have hnext:IntKind.i64.wrap ((pre.length:Int)+1)=pre.length+1:=wrap_i64 (by omega) (by omega)
  have ih':=ih (pre++[x]) (if wmt w x then (x.value,x.prio) else p) (by simp [hl])
  unfold vpF
  refine Eq.trans ?_ ih'
  clear ih'
  rw [ev_loop]
  conv=>lhs;arg 4;unfold F_z_31_L0
  cases hm:wmt w x
  ·unfold wmt at hm
   cases out<;>simp [oW,hW,nW,hlt,hg,W.row,Wk.row,hm,hnext,reachC,cut,List.range_succ,List.idxOf_cons,V.same_self,overlay]
  ·unfold wmt at hm
   cases out<;>simp [oW,hW,nW,hlt,hg,W.row,Wk.row,hm,hnext,reachC,cut,List.range_succ,List.idxOf_cons,V.same_self,overlay]
def cpOf (Q:List W) (now:Int) (w:Wk):Cp:=⟨⟨w.task,w.op,(vpF w Q (0,0)).1,(vpF w Q (0,0)).2,now⟩,w⟩
theorem loop_wk1 (s:S) (now:Int) (b:Bool) (l:List Wk) (hn:s.Q.length≤500) (hl0:l.length≤500):∀(suf pre:List Wk),l=pre++suf →
  ev P (.loop 0 [2,3,7,13,14,15] F_z_31_L1 [(2,.d (I' now)),(3,.d (.ref s.row)),(7,oW (pre.map (cpOf s.Q now))),(13,.d (.sl 5 b (l.map Wk.row))),(14,.d (I' l.length)),(15,.d (I' pre.length))] (hW (pre.map (cpOf s.Q now)))) =
   some (.out (.exit 0) [(7,oW (l.map (cpOf s.Q now)))] (hW (l.map (cpOf s.Q now)))):=by
 intro suf
 induction suf with
 | nil =>
  intro pre hl
  have e:l=pre:=by simpa using hl
  subst e
  rw [ev_loop]
  conv=>lhs;arg 4;unfold F_z_31_L1
  cases l.map (cpOf s.Q now)<;>simp [oW,hW,reachC,cut,List.range_succ,List.idxOf_cons]
 | cons w suf ih =>
  intro pre hl
  have hg:l[pre.length]?=some w:=by simp [hl]
  have hlt:(pre.length:Int)<l.length:=by simp [hl];omega
  have hpl:pre.length≤500:=by omega
  have hnext:IntKind.i64.wrap ((pre.length:Int)+1)=pre.length+1:=wrap_i64 (by omega) (by omega)
  have hr1:1≤room:=by decide
  have ih':=ih (pre++[w]) (by simp [hl])
  obtain ⟨i,hi⟩:∃i,i=pre.length:=⟨_,rfl⟩
  rw [show (pre++[w]).length=i+1 by simp [hi],List.map_append,List.map_singleton] at ih'
  have hin:=loop_wk0 s w now (pre.map (cpOf s.Q now)) (.sl 5 b (l.map Wk.row)) l.length i hn s.Q [] (0,0) rfl
  have hol:(pre.map (cpOf s.Q now)).length=i:=by simp [hi]
  have hcp:cpOf s.Q now w=⟨⟨w.task,w.op,(vpF w s.Q (0,0)).1,(vpF w s.Q (0,0)).2,now⟩,w⟩:=rfl
  rw [hcp] at ih'
  generalize vpF w s.Q (0,0)=vp at *
  generalize pre.map (cpOf s.Q now)=out at *
  rw [←hi] at hg hlt hnext hpl ⊢
  refine Eq.trans ?_ ih'
  clear ih' ih
  rw [ev_loop]
  conv=>lhs;arg 4;unfold F_z_31_L1
  simp only [List.length_nil] at hin
  cases out with
  | nil =>
   simp [oW,hW,nW,Wk.row,Cp.row,Cl.row] at hin
   simp [oW,hW,nW,Cp.row,Cl.row,hlt,hg,Wk.row,hin,hnext,hr1,reachC,cut,List.range_succ,List.idxOf_cons,V.same_self,overlay,take_map_len,drop_map_len,Nat.not_succ_le_self]
  | cons a r =>
   have h1:r.length+1+1≤room:=by simp at hol;unfold room;omega
   simp [oW,hW,nW,Wk.row,Cp.row,Cl.row] at hin
   simp [oW,hW,nW,Cp.row,Cl.row,hlt,hg,Wk.row,hin,hnext,hr1,h1,reachC,cut,List.range_succ,List.idxOf_cons,V.same_self,overlay,take_map_len,drop_map_len,Nat.not_succ_le_self]
theorem ev_woken (s:S) (now:Int) (b:Bool) (l:List Wk) (hn:s.Q.length≤500) (hl0:l.length≤500) :
  ev P (.call z_31 [.d (.ag s.row),.d (.sl 5 b (l.map Wk.row)),.d (I' now)] [])=some (.val (.d (.sl 10 (decide (l=[])) ((l.map (cpOf s.Q now)).map Cp.row))) []):=by
 have hL:=loop_wk1 s now b l hn hl0 l [] rfl
 have hL:ev P (.loop 0 [2,3,7,13,14,15] F_z_31_L1 [(2,.d (I' now)),(3,.d (.ref s.row)),(7,.d (.sl 10 true [])),(13,.d (.sl 5 b (l.map Wk.row))),(14,.d (I' l.length)),(15,.d (I' 0))] [])=some (.out (.exit 0) [(7,oW (l.map (cpOf s.Q now)))] (hW (l.map (cpOf s.Q now)))):=hL
 have he:decide (l=[])=decide (l.map (cpOf s.Q now)=[]):=by cases l<;>rfl
 rw [he]
 rw [ev_call P_z_31 rfl]
 simp only [S.row] at hL ⊢
 generalize l.map (cpOf s.Q now)=out at *
 cases out with
 | nil =>
  simp [oW,hW] at hL
  simp [F_z_31,hL,endH,overlay]
 | cons a r =>
  simp [oW,hW,Cp.row,Cl.row,Wk.row] at hL
  simp [F_z_31,hL,endH,overlay,Cp.row,Cl.row,Wk.row,take_map_len,drop_map_len]
end Go.VS.Sp
namespace Go.VS.Sp
theorem grS_left (any:Bool):∀(Q:List W) (g:GS),(grS any g Q).left≤g.left
 | [],g=>by simp [grS]
 | w::r,g=>by
  unfold grS
  split
  ·rename_i h
   have:=grS_left any r ⟨g.st,g.left - w.value,g.O,g.G++[w]⟩
   unfold gok at h
   simp at h
   simp only at this
   omega
  ·exact grS_left any r ⟨g.st||!any,g.left,g.O++[w],g.G⟩
theorem grS_pos (any:Bool):∀(Q:List W) (g:GS),0≤g.left→0≤(grS any g Q).left
 | [],g,h=>by simpa [grS] using h
 | w::r,g,hl=>by
  unfold grS
  split
  ·rename_i h
   unfold gok at h
   simp at h
   exact grS_pos any r ⟨g.st,g.left - w.value,g.O,g.G++[w]⟩ (by simp only;omega)
  ·exact grS_pos any r ⟨g.st||!any,g.left,g.O++[w],g.G⟩ hl
theorem grS_stop (any:Bool):∀(Q:List W) (g:GS),g.st=true→grS any g Q=⟨true,g.left,g.O++Q,g.G⟩
 | [],⟨st,l,O,G⟩,h=>by simp at h;simp [grS,h]
 | w::r,⟨st,l,O,G⟩,h=>by
  simp at h
  subst h
  unfold grS
  have:gok true l w=false:=by simp [gok]
  simp only [this]
  rw [if_neg (by simp),grS_stop any r _ (by rfl)]
  simp
end Go.VS.Sp
namespace Go.VS.Sp
theorem grS_any:∀(Q:List W) (g:GS),g.st=false→(∀w∈Q,0≤w.value)→(∀w∈g.O,g.left<w.value)→(grS true g Q).st=false∧∀w∈(grS true g Q).O,(grS true g Q).left<w.value
 | [],g,hs,_,h=>⟨by simpa [grS] using hs,by simpa [grS] using h⟩
 | w::r,g,hs,hv,h=>by
  unfold grS
  have hw:=hv w (by simp)
  split
  ·refine grS_any r ⟨g.st,g.left - w.value,g.O,g.G++[w]⟩ hs (fun x hx=>hv x (by simp [hx])) fun x hx=>?_
   have:=h x hx
   simp only
   omega
  ·rename_i hk
   refine grS_any r ⟨g.st||!true,g.left,g.O++[w],g.G⟩ (by simpa using hs) (fun x hx=>hv x (by simp [hx])) fun x hx=>?_
   simp only at hx ⊢
   rcases List.mem_append.1 hx with hx | hx
   ·exact h x hx
   ·simp at hx
    subst hx
    unfold gok at hk
    rw [hs] at hk
    simp at hk
    exact hk hw
end Go.VS.Sp
namespace Go.VS.Sp
theorem grS_fst:∀(Q:List W) (g:GS),g.st=false→(∀w∈Q,0≤w.value) →
  ((grS false g Q).O=g.O∧(grS false g Q).G=g.G++Q)∨∃A w B,Q=A++w::B∧(grS false g Q).G=g.G++A∧(grS false g Q).O=g.O++w::B∧(grS false g Q).left<w.value
 | [],g,_,_=>.inl (by simp [grS])
 | w::r,g,hs,hv=>by
  unfold grS
  have hw:=hv w (by simp)
  split
  ·rcases grS_fst r ⟨g.st,g.left - w.value,g.O,g.G++[w]⟩ hs (fun x hx=>hv x (by simp [hx])) with ⟨h1,h2⟩ | ⟨A,x,B,h1,h2,h3,h4⟩
   ·exact .inl ⟨h1,by rw [h2];simp⟩
   ·exact .inr ⟨w::A,x,B,by rw [h1];rfl,by rw [h2];simp,h3,h4⟩
  ·rename_i hk
   rw [grS_stop false r _ (by simp)]
   refine .inr ⟨[],w,r,rfl,by simp,by simp,?_⟩
   unfold gok at hk
   rw [hs] at hk
   simp at hk
   exact hk hw
end Go.VS.Sp
namespace Go.VS.Sp
def WdX (x:Option Res) (k sz ot:Int) (s:S):Prop :=
 (∃e,e≠0∧∃r1 r2 r3 r4 r5 r6 r7 r8 r9 r10 r11 r12 r13:D,x=some (.val (.tu [.d (.ag [r1,r2,r3,r4,r5,r6,r7,r8,r9,r10,r11,r12,r13]),.d (I' e)]) [])) ∨
 ∃(s':S) (d1 d2 d3:D) (bw:Bool) (l:List Wk),
  x=some (.val (.tu [.d (.ag [I' s'.own,I' s'.cnt,I' s'.time,hD s'.hn s'.H,qD s'.qn s'.Q,hD s'.bn s'.B,cD s'.cn s'.C,.b s'.cl,I' s'.val,d1,d2,d3,.sl 5 bw (l.map Wk.row)]),.d (I' 0)]) []) ∧
  s'.fine∧ckG k sz ot s=0∧ckG k sz ot s'=0∧l.length≤100∧(plF k sz ot (s.ab true) (l.map (cpOf s.Q s.time))).2=true∧(plF k sz ot (s.ab true) (l.map (cpOf s.Q s.time))).1.pl=(s'.ab true).pl
theorem law_WX (nm:D) (k sz ot:Int) (s:S) (t:Int) {f g a w r:Nat} (hk:kind26 k f g a w r) (hw:s.wf) (hq:s.qn=true→s.Q=[])
  (hW:s.fine→WdX (ev P (.call w [.d (.ag [nm,I' k,I' sz,I' ot]),.d (.ag s.row),.d (I' t)] [])) k sz ot s) :
  ev P (.call z_8 [.d (.ag [nm,I' k,I' sz,I' ot]),.d (.ag s.row),.d (I' t)] [])=some (.val (.d (.b true)) []):=by
 have hof:=ev_of26 hk
 have hG:=ev_Great s
 rw [ev_call P_z_8 rfl]
 cases hg:s.great
 ·rw [hg] at hG
  have hf:s.fine:=fine_of hw hq hg
  rcases hW hf with ⟨e,he,r1,r2,r3,r4,r5,r6,r7,r8,r9,r10,r11,r12,r13,hW⟩ | ⟨s',d1,d2,d3,bw,l,hW,hf2,hc1,hc2,hl,hp1,hp2⟩
  ·have he':(e != 0)=true:=by simpa using he
   simp only [S.row] at hG hW ⊢
   simp [F_z_8,hof,hG,hW,he',ev_awake,endH,overlay]
  ·have hA:=ev_Abstract nm k sz ot s hf
   have hB:=ev_Abstract nm k sz ot s' hf2
   rw [if_pos hc1,hc1] at hA
   rw [if_pos hc2,hc2] at hB
   have hwo:=ev_woken s s.time bw l (by have:=hf.q;omega) (by omega)
   have hsa:(s.ab true).wf:=⟨hw.h,hw.b,hw.c,hw.k⟩
   have hza:(s.ab true).zn 200:=⟨by have:=hf.h;unfold S.ab;simp only;omega,by have:=hf.b;unfold S.ab;simp only;omega,by unfold S.ab;simp,by have:=hf.c;unfold S.ab;simp only;omega,fun c hc=>by have:=hf.l c hc;omega⟩
   obtain ⟨a',p1,p2,p3,p4⟩:=ev_play nm k sz ot (decide (l=[])) (l.map (cpOf s.Q s.time)) (s.ab true) (by simpa using hl) hsa hza
   have hS:=ev_Same a' (s'.ab true) (p3.sz (by decide)).sm
   have he:(a'.pl==(s'.ab true).pl)=true:=by
    rw [p1,hp2]
    simp
   rw [he] at hS
   rw [hp1] at p4
   obtain ⟨lw,hlw⟩:∃x,x=l.map Wk.row:=⟨_,rfl⟩
   obtain ⟨lc,hlc⟩:∃x,x=(l.map (cpOf s.Q s.time)).map Cp.row:=⟨_,rfl⟩
   rw [←hlw] at hW hwo
   rw [←hlc] at hwo p4
   clear hlw hlc
   obtain ⟨bq,rq,hqq⟩:∃b r,qD s'.qn s'.Q = .sl 5 b r:=⟨_,_,rfl⟩
   have hBr:s'.row=[I' s'.own,I' s'.cnt,I' s'.time,hD s'.hn s'.H,qD s'.qn s'.Q,hD s'.bn s'.B,cD s'.cn s'.C,.b s'.cl,I' s'.val]:=rfl
   rw [hBr,hqq] at hB
   rw [hqq] at hW
   simp only [S.ab,S.row,qD,List.map_nil] at hof hG hW hA hB hwo p4 hS ⊢
   simp [F_z_8,hof,hG,hW,hA,hB,hwo,p4,hS,ev_awake,endH,overlay,thaw,freezeAll,freeze1,reachC,cut,List.range_succ,List.idxOf_cons,V.same_self]
 ·rw [hg] at hG
  simp only [S.row] at hG ⊢
  simp [F_z_8,hof,hG,ev_awake,endH,overlay]
end Go.VS.Sp
namespace Go.VS.Sp
theorem qall_iff {f:List W→W→Bool}:∀{l pre:List W},qall f pre l=true↔∀A w B,l=A++w::B→f (pre++A) w=true
 | [],pre=>⟨fun _ A w B h=>by simp at h,fun _=>rfl⟩
 | x::r,pre=>by
  unfold qall
  rw [Bool.and_eq_true,qall_iff]
  constructor
  ·rintro ⟨h1,h2⟩ A w B h
   cases A with
   | nil=>simp at h;rw [←h.1];simpa using h1
   | cons y A =>
    simp at h
    have:=h2 A w B h.2
    rw [h.1] at this
    simpa using this
  ·intro h
   exact ⟨by simpa using h [] x r rfl,fun A w B e=>by have:=h (x::A) w B (by rw [e];rfl);simpa using this⟩
theorem qall_tasks {l:List W}:l.Pairwise (fun a b=>a.task≠b.task)↔∀A w B,l=A++w::B→∀x∈A,x.task≠w.task:=by
 constructor
 ·rintro h A w B rfl x hx
  exact (List.pairwise_append.1 h).2.2 x hx w (by simp)
 ·intro h
  induction l with
  | nil=>exact List.Pairwise.nil
  | cons a r ih =>
   refine List.pairwise_cons.2 ⟨fun b hb=>?_,ih fun A w B e x hx=>h (a::A) w B (by rw [e];rfl) x (by simp [hx])⟩
   obtain ⟨A,B,e⟩:=List.append_of_mem hb
   exact h (a::A) b B (by rw [e];rfl) a (by simp)
structure SW (sz:Int) (w:W):Prop where
 v:wvalid w=true
 op:w.op=60
 lo:1≤w.value
 hi:w.value≤sz
 cs:w.case = -1
structure SOK (sz ot:Int) (s:S):Prop where
 own:s.own = -1
 lo:0≤s.cnt
 hi:s.cnt≤sz
 tm:s.time=0
 h:s.H=[]
 b:s.B=[]
 c:s.C=[]
 cl:s.cl=false
 val:s.val=0
 len:s.Q.length≤96
 w:∀w∈s.Q,SW sz w
 tk:s.Q.Pairwise fun a b=>a.task≠b.task
 st:∀A w B,s.Q=A++w::B→(A≠[]∧ot=0)∨s.cnt<w.value
theorem okS_iff {sz ot:Int} {s:S}:okSq sz ot s=true↔SOK sz ot s:=by
 unfold okSq
 rw [len3]
 simp only [Bool.and_eq_true,Bool.not_eq_true',Bool.or_eq_false_iff,bne_eq_false_iff_eq,decide_eq_false_iff_not,beq_iff_eq,wchk_iff,qall_iff]
 constructor
 ·rintro ⟨⟨⟨⟨h1,h2⟩,h3⟩,h4,h5⟩,h6,⟨⟨h7,h8⟩,h9⟩,h10⟩
  have hq:∀A w B,s.Q=A++w::B→(SW sz w∧(∀x∈A,x.task≠w.task))∧((A≠[]∧ot=0)∨s.cnt<w.value):=by
   intro A w B e
   have h:=h6 A w B e
   have hv:=h5 w (by rw [e];simp)
   unfold fS fS0 at h
   simp at h
   obtain ⟨⟨⟨⟨g1,g2⟩,g3⟩,g4⟩,g5,g6⟩:=h
   refine ⟨⟨⟨hv,g1,by omega,by omega,g4⟩,g5⟩,?_⟩
   rcases g6 with ⟨g6,g7⟩ | g6
   ·exact .inl ⟨by intro e;rw [e] at g6;simp at g6,g7⟩
   ·exact .inr g6
  simp at h8
  refine ⟨h1,by omega,by omega,h7,by grind,by grind,by grind,h9,h10,h4,fun w hw=>?_,qall_tasks.2 fun A w B e=>(hq A w B e).1.2,fun A w B e=>(hq A w B e).2⟩
  obtain ⟨A,B,e⟩:=List.append_of_mem hw
  exact (hq A w B e).1.1
 ·rintro ⟨h1,h2,h3,h4,h5,h6,h7,h8,h9,h10,h11,h12,h13⟩
  refine ⟨⟨⟨⟨h1,by omega⟩,by omega⟩,h10,fun w hw=>(h11 w hw).v⟩,?_,⟨⟨h4,by simp [h5,h6,h7]⟩,h8⟩,h9⟩
  intro A w B e
  have hw:=h11 w (by rw [e];simp)
  have ht:=qall_tasks.1 h12 A w B e
  have hs:=h13 A w B e
  unfold fS fS0
  simp [hw.op,hw.cs]
  refine ⟨⟨hw.lo,hw.hi⟩,ht,?_⟩
  rcases hs with ⟨g1,g2⟩ | g
  ·exact .inl ⟨List.length_pos_iff.2 g1,g2⟩
  ·exact .inr g
end Go.VS.Sp
namespace Go.VS.Sp
theorem vpF_none {k:Wk}:∀{Q:List W} {p:Int×Int},(∀x∈Q,x.task≠k.task)→vpF k Q p=p
 | [],_,_=>rfl
 | x::r,p,h=>by
  unfold vpF
  have:wmt k x=false:=by unfold wmt;simp [h x (by simp)]
  rw [this,if_neg (by simp)]
  exact vpF_none fun y hy=>h y (by simp [hy])
theorem vpF_mem {k:Wk} {w:W}:∀{Q:List W} {p:Int×Int},Q.Pairwise (fun a b=>a.task≠b.task)→w∈Q→k.task=w.task→k.op=w.op→k.case=w.case→vpF k Q p=(w.value,w.prio)
 | [],_,_,h,_,_,_=>by simp at h
 | x::r,p,hd,h,h1,h2,h3=>by
  rw [List.pairwise_cons] at hd
  unfold vpF
  rcases List.mem_cons.1 h with rfl | h
  ·have:wmt k w=true:=by unfold wmt;simp [h1,h2,h3]
   rw [this,if_pos rfl]
   exact vpF_none fun y hy e=>hd.1 y hy (by rw [e,h1])
  ·exact vpF_mem hd.2 h h1 h2 h3
theorem cpOf_mem {Q:List W} {w:W} (now v:Int) (ok:Bool) (hd:Q.Pairwise fun a b=>a.task≠b.task) (h:w∈Q) (hc:w.case = -1) :
  cpOf Q now ⟨w.task,w.op,v,ok,-1⟩=⟨⟨w.task,w.op,w.value,w.prio,now⟩,⟨w.task,w.op,v,ok,-1⟩⟩:=by
 unfold cpOf
 rw [vpF_mem (k:=⟨w.task,w.op,v,ok,-1⟩) hd h rfl rfl hc.symm]
theorem plF_step {k sz ot:Int} {a a':S} {x:Cp} {r:List Cp} {v:Int} {ok:Bool} (he:effF k sz ot a.pl x.c=(a',v,ok,0)) (hv:x.w.value=v) (ho:x.w.ok=ok) (hn:x.c.op≠61) :
  plF k sz ot a (x::r)=plF k sz ot a' r:=by
 have e:plF k sz ot a (x::r) =
  (
   let e:=effF k sz ot a.pl x.c
   if e.2.2.2≠0 then (a,false)
   else if (x.c.op==61&&ot==0&&!x.w.ok&&x.w.value==0)=true then plF k sz ot a r
   else if (e.2.1 != x.w.value||e.2.2.1 != x.w.ok)=true then (a,false) else plF k sz ot e.1 r):=rfl
 rw [e,he]
 simp [hv,ho,hn]
theorem effF_ok {k sz ot:Int} {s:S} {c:Cl} (h1:absB k sz ot s=true) (h2:cbad c=false) (h3:blg k c.op=true) (h4:fit k sz c=true) (h5:(raw k sz ot s c).2.2.2=0):effF k sz ot s c=raw k sz ot s c:=by
 unfold effF
 rw [h1,h2,h3,h4,h5]
 simp
theorem wv_num {w:W} (h:wvalid w=true):0≤w.task∧w.task<16∧0≤w.prio∧w.prio≤9:=by
 have:=wvalid_task h
 unfold wvalid at h
 simp at h
 omega
theorem cbad_w {w:W} {now:Int} (h:wvalid w=true) (hn:0≤now∧now≤1099511627776):cbad ⟨w.task,w.op,w.value,w.prio,now⟩=false:=by
 have:=wv_num h
 unfold cbad
 simp
 omega
def aS (n:Int):S:=⟨-1,n,0,false,[],false,[],false,[],false,[],false,0⟩
theorem abs_S {sz ot n:Int} (hn:nwS 4 sz ot=0) (h:0≤n∧n≤sz):absB 4 sz ot (aS n)=true:=by
 unfold absB ckO newO szO vzO okS aS
 simp [hn,ck]
 omega
theorem eff_S {sz ot n:Int} {w:W} (hn:nwS 4 sz ot=0) (h:0≤n∧n≤sz) (hw:SW sz w) (hle:w.value≤n):effF 4 sz ot (aS n) ⟨w.task,w.op,w.value,w.prio,0⟩=(aS (n - w.value),0,true,0):=by
 have h1:=hw.lo
 have h2:=hw.hi
 rw [effF_ok (abs_S hn h) (cbad_w hw.v (by decide)) (by unfold blg;simp [hw.op]) (by unfold fit;simp [h1,h2])]
 ·unfold raw eS
  simp [hw.op,aS,gd,hle]
 ·unfold raw eS
  simp [hw.op,aS,gd,hle]
def cpS (w:W):Cp:=⟨⟨w.task,w.op,w.value,w.prio,0⟩,⟨w.task,w.op,0,true,-1⟩⟩
theorem grS_play {sz ot:Int} (hn:nwS 4 sz ot=0) (any:Bool):∀(L:List W) (g:GS),0≤g.left∧g.left≤sz→(∀w∈L,SW sz w) →
  ∃G' O',(grS any g L).G=g.G++G'∧(grS any g L).O=g.O++O'∧G'.Sublist L∧O'.Sublist L∧∀a:S,a.pl=aS g.left→(plF 4 sz ot a (G'.map cpS)).2=true∧(plF 4 sz ot a (G'.map cpS)).1.pl=aS (grS any g L).left
 | [],g,_,_=>⟨[],[],by simp [grS],by simp [grS],by simp,by simp,fun a ha=>by simp [plF,grS,ha]⟩
 | w::r,g,hg,hw=>by
  have hw0:=hw w (by simp)
  unfold grS
  split
  ·rename_i hk
   unfold gok at hk
   simp at hk
   have:=hw0.lo
   obtain ⟨G',O',h1,h2,h3,h4,h5⟩:=grS_play hn any r ⟨g.st,g.left - w.value,g.O,g.G++[w]⟩ (by simp only;omega) fun x hx=>hw x (by simp [hx])
   refine ⟨w::G',O',by rw [h1];simp,h2,h3.cons_cons _,h4.cons _,fun a ha=>?_⟩
   rw [List.map_cons]
   have he:=eff_S hn hg hw0 hk.2
   rw [←ha] at he
   rw [plF_step (x:=cpS w) he rfl rfl (by simp [cpS,hw0.op])]
   exact h5 _ rfl
  ·obtain ⟨G',O',h1,h2,h3,h4,h5⟩:=grS_play hn any r ⟨g.st||!any,g.left,g.O++[w],g.G⟩ hg fun x hx=>hw x (by simp [hx])
   exact ⟨G',w::O',h1,by rw [h2];simp,h3.cons _,h4.cons_cons _,h5⟩
end Go.VS.Sp
namespace Go.VS.Sp
def S.srv (s:S) (n:Int) (O:List W):S:={ s with cnt:=n,qn:=decide (O=[]),Q:=O }
theorem wdx_S (nm:D) (sz ot:Int) (s:S) (t:Int) (hf:s.fine) :
  WdX (ev P (.call z_75 [.d (.ag [nm,I' 4,I' sz,I' ot]),.d (.ag s.row),.d (I' t)] [])) 4 sz ot s:=by
 have hck:=ev_ckSq nm 4 sz ot s hf.sm
 have hG:ckG 4 sz ot s=ck (nwS 4 sz ot) (okSq sz ot s):=rfl
 by_cases hc:ck (nwS 4 sz ot) (okSq sz ot s)=0
 ·rw [←hG] at hck hc
  have hn:nwS 4 sz ot=0∧okSq sz ot s=true:=by
   have:=ck_zero (n:=nwS 4 sz ot) (b:=okSq sz ot s)
   rw [←hG,hc] at this
   simpa using this.symm
  obtain ⟨hn,ho⟩:=hn
  have hs:=okS_iff.1 ho
  have hsz:sz≤100:=by
   unfold nwS at hn
   simp at hn
   omega
  have hot:ot=0∨ot=1:=by
   unfold nwS at hn
   simp at hn
   omega
  have hlo:=hs.lo
  have hhi:=hs.hi
  have hW:=ev_SWd nm 4 sz ot s t (by have:=hf.q;omega) (by omega) hck
  by_cases hq:qTask s t=true
  ·rw [if_pos ⟨hc,hq⟩] at hW
   have hrm:=rm_sub s t
   obtain ⟨G',O',g1,g2,g3,g4,g5⟩:=grS_play hn (ot==1) (rm s t) ⟨false,s.cnt,[],[]⟩ ⟨hlo,hhi⟩ fun w hw=>hs.w w (hrm.subset hw)
   have e:grS (ot==1) ⟨false,s.cnt,[],[]⟩ (rm s t)=srvS ot s.cnt (rm s t):=rfl
   have hl1:=grS_left (ot==1) (rm s t) ⟨false,s.cnt,[],[]⟩
   have hl2:=grS_pos (ot==1) (rm s t) ⟨false,s.cnt,[],[]⟩ hlo
   have hany:=grS_any (rm s t) ⟨false,s.cnt,[],[]⟩ rfl (fun w hw=>by have:=(hs.w w (hrm.subset hw)).lo;omega) (by simp)
   have hfst:=grS_fst (rm s t) ⟨false,s.cnt,[],[]⟩ rfl (fun w hw=>by have:=(hs.w w (hrm.subset hw)).lo;omega)
   have hst:∀A w B,O'=A++w::B→(A≠[]∧ot=0)∨(srvS ot s.cnt (rm s t)).left<w.value:=by
    intro A w B eO
    rcases hot with hot | hot
    ·have hb:(ot==1)=false:=by rw [hot];decide
     rw [hb] at g2 e
     rw [e] at g2 hfst
     rcases hfst with ⟨h1,_⟩ | ⟨A',w',B',_,_,h3,h4⟩
     ·rw [h1] at g2
      simp at g2
      rw [g2] at eO
      simp at eO
     ·rw [h3] at g2
      simp at g2
      rw [←g2] at eO
      cases A with
      | nil=>simp at eO;rw [←eO.1];exact .inr h4
      | cons a A=>exact .inl ⟨by simp,hot⟩
    ·have hb:(ot==1)=true:=by rw [hot];decide
     rw [hb] at g2 e
     rw [e] at g2 hany
     refine .inr (hany.2 w ?_)
     rw [g2,eO]
     simp
   rw [e] at g1 g2 g5 hl1 hl2
   simp only [List.nil_append] at g1 g2
   simp only at hl1
   have hlen:O'.length≤s.Q.length:=(g4.trans hrm).length_le
   have hlg:G'.length≤s.Q.length:=(g3.trans hrm).length_le
   have hok:okSq sz ot (s.srv (srvS ot s.cnt (rm s t)).left O')=true :=
    okS_iff.2 ⟨hs.own,hl2,by unfold S.srv;simp only;omega,hs.tm,hs.h,hs.b,hs.c,hs.cl,hs.val,by have:=hs.len;unfold S.srv;simp only;omega,fun w hw=>hs.w w ((g4.trans hrm).subset hw),hs.tk.sublist (g4.trans hrm),hst⟩
   have hcp:(G'.map fun w=>(⟨w.task,w.op,0,true,-1⟩:Wk)).map (cpOf s.Q s.time)=G'.map cpS:=by
    rw [List.map_map]
    refine List.map_congr_left fun w hw=>?_
    have hm:=(g3.trans hrm).subset hw
    have:=cpOf_mem s.time 0 true hs.tk hm (hs.w w hm).cs
    simp only [Function.comp]
    rw [this,hs.tm]
    rfl
   have hpl:(s.ab true).pl=aS s.cnt:=by
    unfold S.ab S.pl aS
    simp [hs.own,hs.tm,hs.h,hs.b,hs.c,hs.cl,hs.val]
   have hpl2:((s.srv (srvS ot s.cnt (rm s t)).left O').ab true).pl=aS (srvS ot s.cnt (rm s t)).left:=by
    unfold S.ab S.pl aS S.srv
    simp [hs.own,hs.tm,hs.h,hs.b,hs.c,hs.cl,hs.val]
   obtain ⟨p1,p2⟩:=g5 (s.ab true) hpl
   refine .inr ⟨s.srv (srvS ot s.cnt (rm s t)).left O',.b false,I' 0,.b false,decide (G'=[]),G'.map fun w=>(⟨w.task,w.op,0,true,-1⟩:Wk),?_,?_,hc,?_,by have:=hf.q;simp;omega,?_,?_⟩
   ·rw [g1,g2] at hW
    rw [hW,List.map_map]
    rfl
   ·exact ⟨⟨hf.wf.h,hf.wf.b,hf.wf.c,hf.wf.k⟩,fun h=>by unfold S.srv at *;simpa using h,hf.h,by have:=hf.q;unfold S.srv;simp only;omega,hf.b,hf.c,hf.l⟩
   ·have:ckG 4 sz ot (s.srv (srvS ot s.cnt (rm s t)).left O')=ck (nwS 4 sz ot) (okSq sz ot (s.srv (srvS ot s.cnt (rm s t)).left O')):=rfl
    rw [this,hn,hok]
    rfl
   ·rw [hcp];exact p1
   ·rw [hcp,hpl2];exact p2
  ·rw [if_neg (fun h=>hq h.2)] at hW
   obtain ⟨e,he,hW⟩:=hW
   exact .inl ⟨e,he,_,_,_,_,_,_,_,_,_,_,_,_,_,hW⟩
 ·have he:(ck (nwS 4 sz ot) (okSq sz ot s) != 0)=true:=by simpa using hc
  have hx:ev P (.call z_75 [.d (.ag [nm,I' 4,I' sz,I' ot]),.d (.ag s.row),.d (I' t)] [])=some (.val (.tu [.d (.ag zRp),.d (I' 1)]) []):=by
   rw [ev_call P_z_75 rfl]
   simp only [S.row] at *
   simp [F_z_75,hck,he,endH,overlay]
  exact .inl ⟨1,by decide,_,_,_,_,_,_,_,_,_,_,_,_,_,hx⟩
end Go.VS.Sp
namespace Go.VS.M
open Go.VS.Sp
def wdS (own:Int) (q:List Sp.W) (t:Int):Rp:=if q.any (fun w=>w.task==t)=true then ⟨own,q.filter (fun w=>w.task != t),false,false,none,0⟩ else zr 7
def wdT (k sz ot own cnt time:Int) (hs:List Int) (q:List Sp.W) (bs:List Int) (cs:List (List D)) (cl:Bool) (val:Int) (t:Int):Rp :=
 if mnew k sz ot=0 then (if mvalid own cnt time hs q bs cs cl val=true then wdS own q t else zr 1) else zr (mnew k sz ot)
theorem ev_mWithdraw0 (nm k sz ot s0 s1 s2 s3 s4 s5 s6 s7 s8 t:D) (e:Int) (he:e≠0)
  (hC:ev P (.call z_63 [.d (.ag [nm,k,sz,ot]),.d (.ag [s0,s1,s2,s3,s4,s5,s6,s7,s8])] [])=some (.val (.d (I' e)) [])) :
  Rets (ev P (.call z_65 [.d (.ag [nm,k,sz,ot]),.d (.ag [s0,s1,s2,s3,s4,s5,s6,s7,s8]),.d t] [])) (zr e):=by
 have he':(e != 0)=true:=by simpa using he
 refine ⟨true,true,true,true,true,?_,by simp [zr]⟩
 rw [ev_call P_z_65 rfl]
 simp [F_z_65,hC,he',zr]
theorem ev_mWithdraw (nm:D) (k sz ot own cnt time:Int) (hn:Bool) (hs:List Int) (qn:Bool) (q:List Sp.W) (bn:Bool) (bs:List Int) (cn:Bool) (cs:List (List D)) (cl:Bool) (val:Int) (t:Int)
  (h1:hs.length≤1000000) (h2:q.length≤1000000) (h3:bs.length≤1000000) (h4:cs.length≤1000000) :
  Rets (ev P (.call z_65 [.d (.ag [nm,I' k,I' sz,I' ot]),.d (.ag [I' own,I' cnt,I' time,hD hn hs,qD qn q,hD bn bs,cD cn cs,.b cl,I' val]),.d (I' t)] []))
   (wdT k sz ot own cnt time hs q bs cs cl val t):=by
 have hC:=ev_mCheck nm k sz ot own cnt time hn hs qn q bn bs cn cs cl val h1 h2 h3 h4
 unfold wdT
 by_cases hm:mnew k sz ot=0
 ·rw [if_pos hm] at hC ⊢
  by_cases hv:mvalid own cnt time hs q bs cs cl val=true
  ·rw [if_pos hv] at hC ⊢
   obtain ⟨⟨rfl,rfl,rfl,rfl,rfl,rfl,rfl⟩,hl,m⟩:=mvalid_iff.1 hv
   have hw:=ev_waits (own:=own) (cnt:=0) (time:=0) (h1:=hD hn []) (h2:=hD bn []) (h3:=cD cn []) (qn:=qn) (q:=q) (cl:=false) (val:=0) t h2
   unfold wdS
   cases hW:q.any fun w=>w.task==t
   ·rw [if_neg (by simp)]
    rw [hW] at hw
    refine ⟨true,true,true,true,true,?_,by simp [zr]⟩
    rw [ev_call P_z_65 rfl]
    simp [F_z_65,hC,hw,zr]
   ·rw [if_pos rfl]
    rw [hW] at hw
    have hr:=ev_Remove qn q t h2
    refine ⟨hn,(q.filter fun w=>w.task != t).isEmpty,bn,cn,true,?_,by simp⟩
    rw [ev_call P_z_65 rfl]
    simp [F_z_65,hC,hw,hr]
  ·rw [if_neg hv] at hC ⊢
   exact ev_mWithdraw0 _ _ _ _ _ _ _ _ _ _ _ _ _ _ 1 (by decide) hC
 ·rw [if_neg hm] at hC ⊢
  exact ev_mWithdraw0 _ _ _ _ _ _ _ _ _ _ _ _ _ _ _ hm hC
end Go.VS.M
namespace Go.VS.M
open Go.VS.Sp
theorem MV_filter {own:Int} {q:List Sp.W} (f:Sp.W→Bool) (m:MV own q):MV own (q.filter f) :=
 ⟨m.rng,fun h=>by rw [m.free h];rfl,m.desc.filter f,m.dis.filter f,fun w hw=>m.all w ((List.mem_filter.1 hw).1)⟩
theorem mvalid_of {own:Int} {q:List Sp.W} (m:MV own q) (h:q.length≤96):mvalid own 0 0 [] q [] [] false 0=true:=mvalid_iff.2 ⟨⟨rfl,rfl,rfl,rfl,rfl,rfl,rfl⟩,h,m⟩
end Go.VS.M
namespace Go.VS.Sp
theorem ckd_iff {k sz ot:Int} {s:S}:ckd k sz ot s=0↔mnew k sz ot=0∧s.own = -1∧s.fl0=false∧Gd sz s.Q s.C:=by
 constructor
 ·intro h
  obtain ⟨a,b⟩:=ckd_good h
  exact ⟨a,tgood_iff.1 b⟩
 ·rintro ⟨a,b⟩
  unfold ckd
  rw [if_pos a,if_pos (tgood_iff.2 b)]
theorem ckd_put {k sz ot:Int} {s:S} {qn cn:Bool} {Q:List W} {C:List K} (h:ckd k sz ot s=0) (hg:Gd sz Q C):ckd k sz ot { s with qn:=qn,Q:=Q,cn:=cn,C:=C }=0:=by
 rw [ckd_iff] at *
 exact ⟨h.1,h.2.1,h.2.2.1,hg⟩
theorem Gd0.flt {sz:Int} {Q:List W} {C:List K} (h:Gd0 sz Q C) (p:W→Bool):Gd0 sz (Q.filter p) C :=
 ⟨h.srt,fun w hw=>h.val w (List.mem_filter.1 hw).1,by have:=List.length_filter_le p Q;have:=h.len;omega,h.nd.sublist (List.filter_sublist.map _),fun w hw=>h.cs w (List.mem_filter.1 hw).1⟩
theorem wd_good {k sz ot:Int} {s:S} {t:Int} (hc:ckd k sz ot s=0) (h0:(wd k sz ot s t).2=0):ckd k sz ot (wd k sz ot s t).1.st=0:=by
 obtain ⟨hm,_,_,hg,hfu⟩:=ckd_iff.1 hc
 unfold wd at h0 ⊢
 simp only [hc,ne_eq,not_true,if_false] at h0 ⊢
 cases ha:(s.Q.any fun w=>w.task==t)
 ·rw [ha] at h0
  simp at h0
 ·simp only [Bool.true_eq_false,if_false]
  exact ckd_put hc (adv_gd (hg.flt _))
end Go.VS.Sp
namespace Go.VS.Sp
end Go.VS.Sp
namespace Go.VS.Sp
theorem adv_noop {sz:Int} {qn:Bool} {Q:List W} {C:List K} (h:pub Q<0∨fl sz C Q=true):adv sz qn Q C=⟨qn,Q,C,[]⟩:=by
 unfold adv advF
 simp only
 rw [if_pos h]
theorem pub_lt {Q:List W} (h:¬∃w∈Q,w.op=68):pub Q<0:=by
 have:=pub_neg (Q:=Q)
 have h2:(Q.any fun w=>w.op==68)=false:=by
  rw [List.any_eq_false]
  intro w hw h68
  exact h ⟨w,hw,by simpa using h68⟩
 rw [h2] at this
 simpa using this
theorem Gd.stop {sz:Int} {Q:List W} {C:List K} (h:Gd sz Q C):pub Q<0∨fl sz C Q=true:=by
 by_cases he:∃w∈Q,w.op=68
 ·exact .inr (h.2 he)
 ·exact .inl (pub_lt he)
theorem Gd.flt {sz:Int} {Q:List W} {C:List K} (h:Gd sz Q C) (p:W→Bool):Gd sz (Q.filter p) C:=by
 refine ⟨h.1.flt p,?_⟩
 rintro ⟨w,hw,h68⟩
 exact fl_mono (h.2 ⟨w,(List.mem_filter.1 hw).1,h68⟩) (fun c hc=>hc) (fun x hx _=>.inl (List.mem_filter.1 hx).1)
theorem wd_valid {k sz ot:Int} {s:S} {t:Int} (hc:ckd k sz ot s=0) (ha:(s.Q.any fun w=>w.task==t)=true) :
  wd k sz ot s t=(⟨{ s with qn:=decide ((s.Q.filter fun w=>w.task != t)=[]),Q:=s.Q.filter fun w=>w.task != t },false,0,false,true,[]⟩,0):=by
 obtain ⟨_,_,_,hg⟩:=ckd_iff.1 hc
 unfold wd
 simp only [hc,ne_eq,not_true,if_false,ha,Bool.true_eq_false]
 rw [adv_noop (hg.flt _).stop]
 simp
theorem wd_zero {k sz ot:Int} {s:S} {t:Int} (h:(wd k sz ot s t).2=0):ckd k sz ot s=0∧(s.Q.any fun w=>w.task==t)=true:=by
 unfold wd at h
 by_cases hc:ckd k sz ot s=0
 ·simp only [hc,ne_eq,not_true,if_false] at h
  cases ha:(s.Q.any fun w=>w.task==t)
  ·rw [ha] at h;simp at h
  ·exact ⟨hc,rfl⟩
 ·simp [hc] at h
end Go.VS.Sp
namespace Go.VS.Sp
theorem ck_cases {n:Int} {b:Bool} (h:ck n b=0):n=0∧b=true:=by
 have:=ck_zero (n:=n) (b:=b)
 rw [h] at this
 simpa using this.symm
theorem rm_len (s:S) (t:Int):(rm s t).length≤s.Q.length:=(rm_sub s t).length_le
theorem wdx_none {x:Option Res} {k sz ot:Int} {s s':S} {d1 d2 d3:D} {bw:Bool} (hx:x=some (.val (.tu [.d (.ag [I' s'.own,I' s'.cnt,I' s'.time,hD s'.hn s'.H,qD s'.qn s'.Q,hD s'.bn s'.B,cD s'.cn s'.C,.b s'.cl,I' s'.val,d1,d2,d3,.sl 5 bw []]),.d (I' 0)]) []))
  (hf:s'.fine) (h1:ckG k sz ot s=0) (h2:ckG k sz ot s'=0) (hp:(s.ab true).pl=(s'.ab true).pl):WdX x k sz ot s :=
 .inr ⟨s',d1,d2,d3,bw,[],hx,hf,h1,h2,by simp,by simp [plF],by simpa [plF] using hp⟩
theorem wdx_M (nm:D) (sz ot:Int) (s:S) (t:Int) (hf:s.fine) :
  WdX (ev P (.call z_65 [.d (.ag [nm,I' 1,I' sz,I' ot]),.d (.ag s.row),.d (I' t)] [])) 1 sz ot s:=by
 have hs:=hf.sm
 have hfh:=hf.h
 have hfq:=hf.q
 have hfb:=hf.b
 have hfc:=hf.c
 obtain ⟨hn,qn,bn,cn,wn,h,hqn⟩:=M.ev_mWithdraw nm 1 sz ot s.own s.cnt s.time s.hn s.H s.qn s.Q s.bn s.B s.cn (s.C.map K.row) s.cl s.val t hs.h hs.q hs.b (by simpa using hs.c)
 have hG:ckG 1 sz ot s=ck (nwA 1 1 sz ot) (okMq s):=rfl
 have he:(M.wdT 1 sz ot s.own s.cnt s.time s.H s.Q s.B (s.C.map K.row) s.cl s.val t).e=0∨(M.wdT 1 sz ot s.own s.cnt s.time s.H s.Q s.B (s.C.map K.row) s.cl s.val t).e≠0:=by omega
 rcases he with he | he
 ·have hv:ckG 1 sz ot s=0∧okMq s=true∧nwA 1 1 sz ot=0∧M.wdT 1 sz ot s.own s.cnt s.time s.H s.Q s.B (s.C.map K.row) s.cl s.val t=⟨s.own,rm s t,false,false,none,0⟩:=by
   have e:M.mnew 1 sz ot=nwA 1 1 sz ot:=rfl
   unfold M.wdT at he ⊢
   rw [e] at he ⊢
   by_cases h1:nwA 1 1 sz ot=0
   ·rw [if_pos h1] at he ⊢
    have ev:okMq s=M.mvalid s.own s.cnt s.time s.H s.Q s.B (s.C.map K.row) s.cl s.val:=rfl
    rw [←ev] at he ⊢
    by_cases h2:okMq s=true
    ·rw [if_pos h2] at he ⊢
     unfold M.wdS at he ⊢
     by_cases h3:(s.Q.any fun w=>w.task==t)=true
     ·rw [if_pos h3]
      exact ⟨by rw [hG,h1,h2];rfl,h2,h1,rfl⟩
     ·rw [if_neg h3] at he
      simp [M.zr] at he
    ·rw [if_neg h2] at he
     simp [M.zr] at he
   ·rw [if_neg h1] at he
    simp only [M.zr] at he
    exact absurd he h1
  obtain ⟨hv,hok,hnw,hw⟩:=hv
  rw [hw] at h hqn
  obtain ⟨⟨g1,g2,g3,g4,g5,g6,g7⟩,g8,g9⟩:=M.mvalid_iff.1 hok
  have hC:s.C=[]:=by simpa using g5
  have hl:=rm_len s t
  refine wdx_none (s':=⟨s.own,0,0,hn,[],qn,rm s t,bn,[],cn,[],false,0⟩) h ?_ hv ?_ ?_
  ·exact ⟨⟨fun _=>rfl,fun _=>rfl,fun _=>rfl,by simp⟩,hqn,by simp,by simp only;omega,by simp,by simp,by simp⟩
  ·have hm:okMq ⟨s.own,0,0,hn,[],qn,rm s t,bn,[],cn,[],false,0⟩=true:=M.mvalid_of (M.MV_filter _ g9) (show (rm s t).length≤96 by omega)
   have:ckG 1 sz ot ⟨s.own,0,0,hn,[],qn,rm s t,bn,[],cn,[],false,0⟩=ck (nwA 1 1 sz ot) (okMq ⟨s.own,0,0,hn,[],qn,rm s t,bn,[],cn,[],false,0⟩):=rfl
   rw [this,hnw,hm]
   rfl
  ·unfold S.ab S.pl
   simp [g1,g2,g3,g4,hC,g6,g7]
 ·exact .inl ⟨_,he,_,_,_,_,_,_,_,_,_,_,_,_,_,h⟩
theorem fine_wz {s:S} (h:s.fine):s.wz:=by
 have h1:=h.h
 have h2:=h.b
 have h3:=h.q
 have h4:=h.c
 exact ⟨by omega,by omega,by omega,by omega,fun c hc=>⟨h.wf.k c hc,by have:=h.l c hc;omega⟩,h.qn,h.wf.c⟩
theorem wdx_T (nm:D) (sz ot:Int) (s:S) (t:Int) (hf:s.fine) :
  WdX (ev P (.call z_90 [.d (.ag [nm,I' 7,I' sz,I' ot]),.d (.ag s.row),.d (I' t)] [])) 7 sz ot s:=by
 have h:=ev_withdraw nm 7 sz ot s (fine_wz hf) t
 have hG:ckG 7 sz ot s=ckd 7 sz ot s:=rfl
 have hl:=rm_len s t
 have hfq:=hf.q
 by_cases he:(wd 7 sz ot s t).2=0
 ·obtain ⟨h1,h2⟩:=wd_zero he
  have hv:=wd_valid h1 h2
  have hg:=wd_good h1 he
  rw [hv] at h hg
  refine wdx_none (s':=s.rmv t) h ?_ (by rw [hG];exact h1) hg ?_
  ·exact ⟨⟨hf.wf.h,hf.wf.b,hf.wf.c,hf.wf.k⟩,fun h=>by unfold S.rmv at *;simpa using h,hf.h,by unfold S.rmv;simp only;omega,hf.b,hf.c,hf.l⟩
  ·rfl
 ·exact .inl ⟨_,he,_,_,_,_,_,_,_,_,_,_,_,_,_,h⟩
end Go.VS.Sp
namespace Go.VS.Sp
def aW (own:Int) (H:List Int):S:=⟨own,0,0,false,H,false,[],false,[],false,[],false,0⟩
theorem tw_mem {p:W→Bool} {x:W}:∀{l:List W},x∈l.takeWhile p→p x=true
 | [],h=>by simp at h
 | a::l,h=>by
  rw [List.takeWhile_cons] at h
  split at h
  ·rename_i ha
   rcases List.mem_cons.1 h with rfl | h
   ·exact ha
   ·exact tw_mem h
  ·simp at h
theorem abs_W {sz ot own:Int} {H:List Int} (hn:nwA 2 2 sz ot=0) (ho:own = -1∨(isTask own=true∧H=[])) (h1:∀x∈H,isTask x=true) (h2:R.SAsc H):absB 2 sz ot (aW own H)=true:=by
 have hH:okH none H=true:=(okH_iff H none).2 ⟨by simp,h2,h1⟩
 unfold absB ckO newO szO vzO okW okWb aW
 rcases ho with rfl | ⟨ho,rfl⟩
 ·simp [hn,ck,hH]
 ·simp [hn,ck,hH,ho]
theorem eff_Wr {sz ot:Int} {H:List Int} {w:W} (hn:nwA 2 2 sz ot=0) (h1:∀x∈H,isTask x=true) (h2:R.SAsc H) (hv:wvalid w=true) (hop:w.op=53) (hnin:w.task∉H) :
  effF 2 sz ot (aW (-1) H) ⟨w.task,w.op,w.value,w.prio,0⟩=(aW (-1) (insI w.task H),0,true,0):=by
 have ht:=(wvalid_task hv).1
 have hr:raw 2 sz ot (aW (-1) H) ⟨w.task,w.op,w.value,w.prio,0⟩=(aW (-1) (insI w.task H),0,true,0):=by
  have e:¬(-1=w.task):=by omega
  unfold raw eW
  simp [hop,aW,gd,hnin,e]
 rw [effF_ok (abs_W hn (.inl rfl) h1 h2) (cbad_w hv (by decide)) (by unfold blg;simp [hop]) (by unfold fit;simp [hop])]
 ·exact hr
 ·rw [hr]
theorem eff_Ww {sz ot:Int} {w:W} (hn:nwA 2 2 sz ot=0) (hv:wvalid w=true) (hop:w.op=55) :
  effF 2 sz ot (aW (-1) []) ⟨w.task,w.op,w.value,w.prio,0⟩=(aW w.task [],0,true,0):=by
 have ht:=(wvalid_task hv).1
 have hr:raw 2 sz ot (aW (-1) []) ⟨w.task,w.op,w.value,w.prio,0⟩=(aW w.task [],0,true,0):=by
  have e:¬(-1=w.task):=by omega
  unfold raw eW
  simp [hop,aW,gd,e]
 rw [effF_ok (abs_W hn (.inl rfl) (by simp) List.Pairwise.nil) (cbad_w hv (by decide)) (by unfold blg;simp [hop]) (by unfold fit;simp [hop])]
 ·exact hr
 ·rw [hr]
theorem play_Wr {sz ot:Int} (hn:nwA 2 2 sz ot=0):∀(L:List W) (H:List Int),(∀w∈L,wvalid w=true∧w.op=53∧w.task∉H)→L.Pairwise (fun a b=>a.task≠b.task)→(∀x∈H,isTask x=true)→R.SAsc H →
  ∀a:S,a.pl=aW (-1) H→(plF 2 sz ot a (L.map cpS)).2=true∧(plF 2 sz ot a (L.map cpS)).1.pl=aW (-1) (R.insA H L)
 | [],H,_,_,_,_,a,ha=>by simp [plF,ha,R.insA]
 | w::r,H,hw,hd,h1,h2,a,ha=>by
  rw [List.pairwise_cons] at hd
  obtain ⟨g1,g2,g3⟩:=hw w (by simp)
  have he:=eff_Wr hn h1 h2 g1 g2 g3
  rw [←ha] at he
  rw [List.map_cons,plF_step (x:=cpS w) he rfl rfl (by simp [cpS,g2])]
  have e:R.insA H (w::r)=R.insA (insI w.task H) r:=rfl
  rw [e]
  have hm:∀x,x∈insI w.task H↔x=w.task∨x∈H:=fun x=>R.mem_insI
  refine play_Wr hn r (insI w.task H) (fun x hx=>?_) hd.2 (fun x hx=>?_) (R.sasc_ins h2 g3) _ rfl
  ·obtain ⟨q1,q2,q3⟩:=hw x (by simp [hx])
   refine ⟨q1,q2,fun hin=>?_⟩
   rcases (hm _).1 hin with e | e
   ·exact hd.1 x hx e.symm
   ·exact q3 e
  ·rcases (hm _).1 hx with e | e
   ·have:=wvalid_task g1
    rw [e]
    unfold isTask
    simp
    omega
   ·exact h1 x e
theorem sasc_len:∀{l:List Int} (k:Int),(∀x∈l,k≤x∧x<16)→l.Pairwise (·<·)→l.length≤(16 - k).toNat
 | [],_,_,_=>by simp
 | a::r,k,h,hp=>by
  rw [List.pairwise_cons] at hp
  have h1:=h a (by simp)
  have:=sasc_len (a+1) (fun x hx=>⟨hp.1 x hx,(h x (by simp [hx])).2⟩) hp.2
  simp only [List.length_cons]
  omega
theorem wdx_W (nm:D) (sz ot:Int) (s:S) (t:Int) (hf:s.fine) :
  WdX (ev P (.call z_70 [.d (.ag [nm,I' 2,I' sz,I' ot]),.d (.ag s.row),.d (I' t)] [])) 2 sz ot s:=by
 have hs:=hf.sm
 have hfh:=hf.h
 have hfq:=hf.q
 have hfb:=hf.b
 have hfc:=hf.c
 obtain ⟨bn,cn,hn,qn,wn,h,hhn,hqn⟩:=R.ev_mWithdraw nm 2 sz ot s.own s.cnt s.time s.hn s.H s.qn s.Q s.bn s.B s.cn (s.C.map K.row) s.cl s.val t hf.wf.1 hf.qn (by omega) (by omega)
 have hG:ckG 2 sz ot s=ck (nwA 2 2 sz ot) (okWq s):=rfl
 by_cases hc:R.ckd 2 sz ot s.own s.cnt s.time s.H s.Q s.B (s.C.map K.row) s.cl s.val=0
 ·rw [if_pos hc] at h hhn hqn
  have hc0:ckG 2 sz ot s=0:=hc
  obtain ⟨hnw,hok⟩:=ck_cases (hG▸hc0)
  obtain ⟨hM,g1,g2,g3,g4,g5,g6⟩:=R.ckd_zero hc
  have hC:s.C=[]:=by simpa using g4
  cases hq:qTask s t
  ·have e:R.wdV s.own s.H s.Q t=R.zr 7:=by
    unfold R.wdV
    rw [if_neg (by unfold qTask at hq;rw [hq];simp)]
   rw [e] at h
   exact .inl ⟨7,by decide,_,_,_,_,_,_,_,_,_,_,_,_,_,h⟩
  ·have e:R.wdV s.own s.H s.Q t=⟨(R.srvM s.own s.H (rm s t)).1,(R.srvM s.own s.H (rm s t)).2.1,(R.srvM s.own s.H (rm s t)).2.2.1,false,false,(R.srvM s.own s.H (rm s t)).2.2.2,0⟩:=by
    unfold R.wdV
    rw [if_pos (by unfold qTask at hq;exact hq)]
    rfl
   have hM2:=R.MV_wdV (t:=t) hM (by rw [e])
   rw [e] at h hhn hqn hM2
   obtain ⟨m1,m2,m3,m4,m5,m6,m7⟩:=R.MV_iff.1 hM
   have hrm:=rm_sub s t
   have hw5:∀w∈rm s t,R.WOK s.own s.H w:=fun w hw=>m5 w (hrm.subset hw)
   have hp6:=m6.sublist hrm
   have hl:=rm_len s t
   have hplay:∃L:List W,(R.srvM s.own s.H (rm s t)).2.2.2=L∧L.Sublist (rm s t)∧(R.srvM s.own s.H (rm s t)).2.2.1.length≤(rm s t).length∧(R.srvM s.own s.H (rm s t)).2.1.length≤s.H.length+(rm s t).length ∧
     ((plF 2 sz ot (s.ab true) (L.map cpS)).2=true∧(plF 2 sz ot (s.ab true) (L.map cpS)).1.pl=aW (R.srvM s.own s.H (rm s t)).1 (R.srvM s.own s.H (rm s t)).2.1):=by
    have hpl:(s.ab true).pl=aW s.own s.H:=by
     unfold S.ab S.pl aW
     simp [g1,g2,g3,hC,g5,g6]
    cases hr:rm s t with
    | nil=>exact ⟨[],rfl,by simp,by simp [R.srvM],by simp [R.srvM],by simp [plF,R.srvM,hpl]⟩
    | cons w r =>
     rw [hr] at hw5 hp6
     rw [R.srvM_cons]
     have hw:=hw5 w (by simp)
     rw [List.pairwise_cons] at hp6
     split
     ·exact ⟨[],rfl,by simp,by simp,by simp,by simp [plF,hpl]⟩
     ·rename_i hs1
      have ho:s.own = -1:=Classical.byContradiction fun h=>hs1 (.inl h)
      split
      ·rename_i h55
       have hH:s.H=[]:=Classical.byContradiction fun h=>hs1 (.inr ⟨h55,h⟩)
       refine ⟨[w],rfl,by simp,by simp,by simp [hH],?_⟩
       have he:=eff_Ww (sz:=sz) (ot:=ot) hnw hw.v h55
       rw [hH,ho] at hpl
       rw [←hpl] at he
       rw [List.map_singleton,plF_step (x:=cpS w) he rfl rfl (by simp [cpS,h55])]
       simp [plF,hH]
       rfl
      ·rename_i h55
       have h53:w.op=53:=hw.op.resolve_right h55
       refine ⟨w::r.takeWhile fun w=>w.op != 55,rfl,(List.takeWhile_sublist _).cons_cons _,?_,?_,?_⟩
       ·have:=(List.dropWhile_sublist (fun w:W=>w.op != 55) (l:=r)).length_le
        simp only [List.length_cons]
        omega
       ·have e2:R.insA (R.insI w.task s.H) (r.takeWhile fun w=>w.op != 55)=R.insA s.H (w::r.takeWhile fun w=>w.op != 55):=rfl
        rw [e2]
        have:=R.insA_len (l:=s.H) (q:=w::r.takeWhile fun w=>w.op != 55)
        have h3:=(List.takeWhile_sublist (fun w:W=>w.op != 55) (l:=r)).length_le
        simp only [List.length_cons] at this ⊢
        omega
       ·rw [ho] at hpl ⊢
        have hsub:(w::r.takeWhile fun w=>w.op != 55).Sublist (w::r):=(List.takeWhile_sublist _).cons_cons _
        refine play_Wr hnw _ s.H (fun x hx=>?_) ((List.pairwise_cons.2 hp6).sublist hsub) m2 m3 _ hpl
        have hx2:=hw5 x (hsub.subset hx)
        refine ⟨hx2.v,?_,hx2.nin⟩
        rcases List.mem_cons.1 hx with rfl | hx
        ·exact h53
        ·have:=tw_mem hx
         exact hx2.op.resolve_right (by simpa using this)
   obtain ⟨L,hL,hsub,hlq,hlh,hp1,hp2⟩:=hplay
   rw [hL] at h
   generalize R.srvM s.own s.H (rm s t)=x at *
   obtain ⟨x1,x2,x3,x4⟩:=x
   simp only at *
   have hLl:=hsub.length_le
   have hcp:(L.map fun w=>(⟨w.task,w.op,0,true,-1⟩:Wk)).map (cpOf s.Q s.time)=L.map cpS:=by
    rw [List.map_map]
    refine List.map_congr_left fun w hw=>?_
    have hm:=(hsub.trans hrm).subset hw
    have:=cpOf_mem s.time 0 true m6 hm (m5 w hm).cs
    simp only [Function.comp]
    rw [this,g2]
    rfl
   have hx2:x2.length≤40:=by
    obtain ⟨v1,v2⟩:=R.vh_iff0.1 hM2.vh
    have:=sasc_len 0 (fun x hx=>by have:=v1 x hx;unfold R.isTask at this;simpa using this) v2
    omega
   refine .inr ⟨⟨x1,0,0,hn,x2,qn,x3,bn,[],cn,[],false,0⟩,.b false,I' 0,.b false,wn,L.map fun w=>(⟨w.task,w.op,0,true,-1⟩:Wk),?_,?_,hc0,?_,by simp;omega,?_,?_⟩
   ·rw [h,List.map_map]
    rfl
   ·exact ⟨⟨hhn,fun _=>rfl,fun _=>rfl,by simp⟩,hqn,hx2,by simp only;omega,by simp,by simp,by simp⟩
   ·have hm:okWq ⟨x1,0,0,hn,x2,qn,x3,bn,[],cn,[],false,0⟩=true:=R.mvalid_iff.2 ⟨hM2,rfl,rfl,rfl,rfl,rfl,rfl⟩
    have:ckG 2 sz ot ⟨x1,0,0,hn,x2,qn,x3,bn,[],cn,[],false,0⟩=ck (nwA 2 2 sz ot) (okWq ⟨x1,0,0,hn,x2,qn,x3,bn,[],cn,[],false,0⟩):=rfl
    rw [this,hnw,hm]
    rfl
   ·rw [hcp];exact hp1
   ·rw [hcp,hp2]
    rfl
 ·rw [if_neg hc] at h
  exact .inl ⟨1,by decide,_,_,_,_,_,_,_,_,_,_,_,_,_,h⟩
end Go.VS.Sp
namespace Go.VS.Sp
theorem wdx_0 {x:Option Res} {k sz ot t:Int} {s:S} (hk2:k=5∨k=6∨k=8∨k=9) (hf:s.fine) {c:Int} (hc0:ckG k sz ot s=c) (hW:Wd x s c t):WdX x k sz ot s:=by
 subst hc0
 unfold Wd at hW
 have hl:=rm_len s t
 have hfq:=hf.q
 by_cases hc:ckG k sz ot s=0∧qTask s t=true
 ·rw [if_pos hc] at hW
  refine wdx_none (s':=s.rmv t) hW ?_ hc.1 (ckG_rm t hk2 hc.1) rfl
  exact ⟨⟨hf.wf.h,hf.wf.b,hf.wf.c,hf.wf.k⟩,fun h=>by unfold S.rmv at *;simpa using h,hf.h,by unfold S.rmv;simp only;omega,hf.b,hf.c,hf.l⟩
 ·rw [if_neg hc] at hW
  obtain ⟨e,he,hW⟩:=hW
  exact .inl ⟨e,he,_,_,_,_,_,_,_,_,_,_,_,_,_,hW⟩
theorem law_WU (nm:D) (k sz ot:Int) (s:S) (t:Int) (hk:¬(k=1∨k=2∨k=4∨k=5∨k=6∨k=7∨k=8∨k=9)) :
  ev P (.call z_8 [.d (.ag [nm,I' k,I' sz,I' ot]),.d (.ag s.row),.d (I' t)] [])=some (.val (.d (.b true)) []):=by
 have hof:=ev_of26U hk
 have hG:=ev_Great s
 rw [ev_call P_z_8 rfl]
 simp only [S.row] at hG ⊢
 cases hg:s.great
 ·rw [hg] at hG
  simp [F_z_8,hof,hG,ev_awake,endH,overlay]
 ·rw [hg] at hG
  simp [F_z_8,hof,hG,ev_awake,endH,overlay]
theorem law_Withdraws (nm:D) (k sz ot:Int) (s:S) (t:Int) (hw:s.wf) (hq:s.qn=true→s.Q=[]) :
  ev P (.call z_8 [.d (.ag [nm,I' k,I' sz,I' ot]),.d (.ag s.row),.d (I' t)] [])=some (.val (.d (.b true)) []):=by
 by_cases hk:k=1∨k=2∨k=4∨k=5∨k=6∨k=7∨k=8∨k=9
 ·rcases hk with rfl | rfl | rfl | rfl | rfl | rfl | rfl | rfl
  ·exact law_WX nm 1 sz ot s t (.inl ⟨rfl,rfl,rfl,rfl,rfl,rfl⟩) hw hq fun hf=>wdx_M nm sz ot s t hf
  ·exact law_WX nm 2 sz ot s t (.inr (.inl ⟨rfl,rfl,rfl,rfl,rfl,rfl⟩)) hw hq fun hf=>wdx_W nm sz ot s t hf
  ·exact law_WX nm 4 sz ot s t (.inr (.inr (.inl ⟨rfl,rfl,rfl,rfl,rfl,rfl⟩))) hw hq fun hf=>wdx_S nm sz ot s t hf
  ·exact law_WX nm 5 sz ot s t (.inr (.inr (.inr (.inl ⟨rfl,rfl,rfl,rfl,rfl,rfl⟩)))) hw hq fun hf =>
    wdx_0 (t:=t) (by omega) hf rfl (ev_BWd nm 5 sz ot s t (by have:=hf.q;omega) (ev_ckBq nm 5 sz ot s hf.sm))
  ·exact law_WX nm 6 sz ot s t (.inr (.inr (.inr (.inr (.inl ⟨rfl,rfl,rfl,rfl,rfl,rfl⟩))))) hw hq fun hf =>
    wdx_0 (t:=t) (by omega) hf rfl (ev_CWd nm 6 sz ot s t (by have:=hf.q;omega) (ev_ckCq nm 6 sz ot s hf.sm))
  ·exact law_WX nm 7 sz ot s t (.inr (.inr (.inr (.inr (.inr (.inl ⟨rfl,rfl,rfl,rfl,rfl,rfl⟩)))))) hw hq fun hf=>wdx_T nm sz ot s t hf
  ·exact law_WX nm 8 sz ot s t (.inr (.inr (.inr (.inr (.inr (.inr (.inl ⟨rfl,rfl,rfl,rfl,rfl,rfl⟩))))))) hw hq fun hf =>
    wdx_0 (t:=t) (by omega) hf rfl (ev_LWd nm 8 sz ot s t (by have:=hf.q;omega) (ev_ckLq nm 8 sz ot s hf.sm))
  ·exact law_WX nm 9 sz ot s t (.inr (.inr (.inr (.inr (.inr (.inr (.inr ⟨rfl,rfl,rfl,rfl,rfl,rfl⟩))))))) hw hq fun hf =>
    wdx_0 (t:=t) (by omega) hf rfl (ev_FWd nm 9 sz ot s t (by have:=hf.q;omega) (ev_ckFq nm 9 sz ot s hf.sm))
 ·exact law_WU nm k sz ot s t hk
end Go.VS.Sp
