import Derived.Test.YtjpdopldkeodgaaGreatV10
set_option linter.all false
namespace Go.VS.Sp
def tks (Q:List W):List Int:=Q.map (·.task)
theorem tks_sub {A B:List W} {w:W} (h:(tks (A++w::B)).Nodup):(tks (A++B)).Nodup:=by
 have:(A++B).Sublist (A++w::B):=List.Sublist.append (List.Sublist.refl A) (List.sublist_cons_self w B)
 exact h.sublist (this.map _)
theorem tks_pO {Q:List W} (h:(tks Q).Nodup):(tks (pO Q)).Nodup:=h.sublist (List.filter_sublist.map _)
theorem wts_split {A B:List W} {w:W} {t:Int} (h:w.op=68):wts (A++w::B) t 70=wts (A++B) t 70:=by
 unfold wts
 simp [h]
def fits (sz:Int) (C:List K):Prop:=∀c∈C,(c.log.length:Int)≤sz
theorem fits_step {sz:Int} {C:List K} {Q A B:List W} {w:W} (hQ:Q=A++w::B) (h68:w.op=68) (hf:fl sz C Q=false) (h:fits sz C):fits sz (C.map (pubK (A++B) w.value)):=by
 intro c hc
 obtain ⟨c0,hc0,rfl⟩:=List.mem_map.1 hc
 unfold pubK
 cases hw:wts (A++B) c0.task 70
 ·have h1:=h c0 hc0
  have:((c0.log.length:Int)==sz&&!wts Q c0.task 70)=false:=by
   unfold fl at hf
   rw [List.any_eq_false] at hf
   simpa using hf c0 hc0
  rw [hQ,wts_split h68,hw] at this
  simp at this
  simp
  omega
 ·simp
  exact h c0 hc0
end Go.VS.Sp
namespace Go.VS.Sp
end Go.VS.Sp
namespace Go.VS.Sp
structure S.wfn (s:S) (q c l:Nat):Prop where
 h:s.H.length≤1000
 b:s.B.length≤1000
 q:s.Q.length≤q
 c:s.C.length≤c
 l:∀c∈s.C,(c.nl=true→c.log=[])∧c.log.length≤l
 qn:s.qn=true→s.Q=[]
 cn:s.cn=true→s.C=[]
theorem S.wfn.wz {s:S} {q c l:Nat} (h:s.wfn q c l) (h1:q≤1000) (h2:c≤1000) (h3:l≤1000):s.wz :=
 ⟨h.h,h.b,by have:=h.q;omega,by have:=h.c;omega,fun c hc=>by have:=h.l c hc;exact ⟨this.1,by omega⟩,h.qn,h.cn⟩
theorem S.wfn.mono {s:S} {q c l q' c' l':Nat} (h:s.wfn q c l) (h1:q≤q') (h2:c≤c') (h3:l≤l'):s.wfn q' c' l' :=
 ⟨h.h,h.b,by have:=h.q;omega,by have:=h.c;omega,fun c hc=>by have:=h.l c hc;exact ⟨this.1,by omega⟩,h.qn,h.cn⟩
def Rp.wfn (r:Rp) (q c l:Nat):Prop:=r.st.wfn q c l∧r.wn.length≤q
theorem kfd_mem {C:List K} {t:Int} {c:K} (h:kfd C t=some c):c∈C:=List.mem_of_find?_eq_some h
end Go.VS.Sp
namespace Go.VS.Sp
def s0:S:=⟨-1,0,0,true,[],true,[],true,[],true,[],false,0⟩
abbrev tCl:=Int×Int×Int
def tCl.row (c:tCl):List D:=[I' c.1,I' c.2.1,I' c.2.2,I' 0,I' 0]
end Go.VS.Sp
namespace Go.VS.Sp
end Go.VS.Sp
namespace Go.VS.Sp
def vcP (sz:Int) (p:Option K) (C:List K):Prop:=C.Pairwise (fun a b=>a.task<b.task)∧(∀c∈C,0≤c.task∧c.task<16∧(c.log.length:Int)≤sz∧c.log.all num=true)∧∀x∈p,∀c∈C,x.task<c.task
theorem tvc_iff {sz:Int}:∀(C:List K) (p:Option K),vc sz p C=true↔vcP sz p C
 | [],p=>by simp [vc,vcP]
 | c::C,p=>by
  have e1:vc sz p (c::C)=(!kbad sz p c&&(c.log.all num&&vc sz (some c) C)):=rfl
  have ek:kbad sz p c=false↔(0≤c.task∧c.task<16∧(c.log.length:Int)≤sz∧∀x∈p,x.task<c.task):=by
   unfold kbad
   cases p with
   | none=>simp;omega
   | some q=>simp;omega
  rw [e1]
  simp only [Bool.and_eq_true,Bool.not_eq_true',ek,tvc_iff C (some c)]
  unfold vcP
  simp only [List.pairwise_cons,List.mem_cons,forall_eq_or_imp,Option.mem_def,Option.some.injEq,forall_eq']
  constructor
  ·rintro ⟨⟨a1,a2,a3,a4⟩,b,c1,c2,c3⟩
   exact ⟨⟨c3,c1⟩,⟨⟨a1,a2,a3,b⟩,c2⟩,fun x hx=>⟨a4 x hx,fun d hd=>by have:=a4 x hx;have:=c3 d hd;omega⟩⟩
  ·rintro ⟨⟨c3,c1⟩,⟨⟨a1,a2,a3,b⟩,c2⟩,h⟩
   exact ⟨⟨a1,a2,a3,fun x hx=>(h x hx).1⟩,b,c1,c2,c3⟩
structure Srt (sz:Int) (C:List K):Prop where
 pw:C.Pairwise (fun a b=>a.task<b.task)
 el:∀c∈C,0≤c.task∧c.task<16∧(c.log.length:Int)≤sz∧c.log.all num=true
theorem srt_iff {sz:Int} {C:List K}:vc sz none C=true↔Srt sz C:=by
 rw [tvc_iff]
 exact ⟨fun h=>⟨h.1,h.2.1⟩,fun h=>⟨h.pw,h.el,by simp⟩⟩
structure Gd0 (sz:Int) (Q:List W) (C:List K):Prop where
 srt:Srt sz C
 val:∀w∈Q,wvalid w=true
 len:Q.length≤96
 nd:(tks Q).Nodup
 cs:∀w∈Q,w.case = -1∧(w.op=70∧n70 C w=true∨w.op=68)
end Go.VS.Sp
namespace Go.VS.Sp
theorem num_iff {n:Int}:num n=true↔-1099511627776≤n∧n≤1099511627776:=by
 unfold num;simp
theorem wvalid_num {w:W} (h:wvalid w=true):num w.value=true:=by
 unfold wvalid wbad at h
 simp at h
 rw [num_iff]
 omega
theorem pO_mem {Q:List W} {w:W} (h:w∈pO Q):w∈Q∧w.op≠70:=by
 unfold pO at h
 rw [List.mem_filter] at h
 simpa using h
theorem srt_map {sz:Int} {C:List K} {f:K→K} (h:Srt sz C) (ht:∀c,(f c).task=c.task) (hf:∀c∈C,((f c).log.length:Int)≤sz∧(f c).log.all num=true):Srt sz (C.map f):=by
 refine ⟨?_,?_⟩
 ·rw [List.pairwise_map]
  exact h.pw.imp (fun {a b} hab=>by rw [ht,ht];exact hab)
 ·intro c hc
  obtain ⟨c0,hc0,rfl⟩:=List.mem_map.1 hc
  have:=h.el c0 hc0
  rw [ht]
  exact ⟨this.1,this.2.1,hf c0 hc0⟩
theorem pubK_task (Q:List W) (v:Int) (c:K):(pubK Q v c).task=c.task:=by
 unfold pubK;split<;>rfl
theorem Gd0.step {sz:Int} {Q A B:List W} {C:List K} {w:W} (h:Gd0 sz Q C) (hQ:Q=A++w::B) (h68:w.op=68) (hf:fl sz C Q=false):Gd0 sz (pO (A++B)) (C.map (pubK (A++B) w.value)):=by
 have hfit:fits sz C:=fun c hc=>(h.srt.el c hc).2.2.1
 have hfs:=fits_step hQ h68 hf hfit
 have hwv:num w.value=true:=wvalid_num (h.val w (by rw [hQ];simp))
 have hsub:∀x∈A++B,x∈Q:=by
  intro x hx
  rw [hQ]
  rw [List.mem_append] at hx
  rcases hx with hx | hx<;>simp [hx]
 refine ⟨srt_map h.srt (pubK_task _ _) ?_,?_,?_,?_,?_⟩
 ·intro c hc
  refine ⟨hfs _ (List.mem_map.2 ⟨c,hc,rfl⟩),?_⟩
  have:=(h.srt.el c hc).2.2.2
  unfold pubK
  split
  ·exact this
  ·simp only [List.all_append,this,List.all_cons,hwv,List.all_nil,Bool.and_self]
 ·intro x hx
  exact h.val x (hsub x (pO_mem hx).1)
 ·have h1:=pO_le (A++B)
  have h2:=h.len
  rw [hQ] at h2
  simp at h1 h2
  omega
 ·exact tks_pO (tks_sub (by rw [←hQ];exact h.nd))
 ·intro x hx
  obtain ⟨hx1,hx2⟩:=pO_mem hx
  obtain ⟨a,b⟩:=h.cs x (hsub x hx1)
  refine ⟨a,?_⟩
  rcases b with ⟨b,_⟩ | b
  ·exact absurd b hx2
  ·exact .inr b
theorem kfd_task {C:List K} {t:Int} {c:K} (h:kfd C t=some c):c.task=t:=by
 have:=List.find?_some h
 simpa using this
theorem Srt.uniq {sz:Int} {C:List K} (h:Srt sz C) {a b:K} (ha:a∈C) (hb:b∈C) (e:a.task=b.task):a=b:=by
 have hp:=h.pw
 induction C with
 | nil=>cases ha
 | cons x C ih =>
  rw [List.pairwise_cons] at hp
  rcases List.mem_cons.1 ha with ha | ha
  ·rcases List.mem_cons.1 hb with hb | hb
   ·rw [ha,hb]
   ·have:=hp.1 b hb
    rw [ha] at e
    omega
  ·rcases List.mem_cons.1 hb with hb | hb
   ·have:=hp.1 a ha
    rw [hb] at e
    omega
   ·exact ih ⟨hp.2,fun c hc=>h.el c (by simp [hc])⟩ ha hb hp.2
theorem Srt.kfd {sz:Int} {C:List K} (h:Srt sz C) {c:K} (hc:c∈C):kfd C c.task=some c:=by
 cases hk:Sp.kfd C c.task with
 | none =>
  unfold Sp.kfd at hk
  rw [List.find?_eq_none] at hk
  have:=hk c hc
  simp at this
 | some d=>rw [h.uniq (kfd_mem hk) hc (kfd_task hk)]
theorem kfd_some_iff {sz:Int} {C:List K} (h:Srt sz C) {t:Int} {c:K}:Sp.kfd C t=some c↔c∈C∧c.task=t:=by
 constructor
 ·intro hk;exact ⟨kfd_mem hk,kfd_task hk⟩
 ·rintro ⟨h1,rfl⟩;exact h.kfd h1
end Go.VS.Sp
namespace Go.VS.Sp
theorem isK_kfd {sz:Int} {s:S} (h:Srt sz s.C) (t:Int):(isK s t=true∧∃k,kfd s.C t=some k∧s.C[bK s t]?=some k∧0≤fnd s.C t)∨(isK s t=false∧kfd s.C t=none∧¬0≤fnd s.C t):=by
 have hsa:SAsc (s.C.map K.task):=by
  unfold SAsc
  rw [List.pairwise_map]
  exact h.pw
 cases hk:isK s t
 ·right
  have hn:t∉tsk s:=by
   intro hm
   have:=(mem_bI hsa).2 hm
   unfold isK bK at hk
   simp at hk
   exact hk this
  have h0:kfd s.C t=none:=by
   cases hx:kfd s.C t with
   | none=>rfl
   | some c =>
    obtain ⟨h1,h2⟩:=(kfd_some_iff h).1 hx
    exact absurd (by rw [←h2];exact List.mem_map_of_mem h1) hn
  refine ⟨rfl,h0,?_⟩
  rcases fnd_spec s.C t with ⟨h1,_⟩ | ⟨i,c,_,_,h3⟩
  ·omega
  ·rw [h0] at h3;cases h3
 ·left
  obtain ⟨A,k,B,e1,e2,e3⟩:=isK_split s t hk
  have hx:kfd s.C t=some k:=(kfd_some_iff h).2 ⟨by rw [e1];simp,e3⟩
  refine ⟨rfl,k,hx,by rw [e1,e2];simp,?_⟩
  rcases fnd_spec s.C t with ⟨_,h2⟩ | ⟨i,c,h1,_,_⟩
  ·rw [hx] at h2;cases h2
  ·omega
theorem rdyT (nm:D) (sz ot:Int) (s:S) (c:Cl) (hf:(s.ab true).fine) (h0:ckG 7 sz ot (s.ab true)=0) (hb:cbad c=false) (hz:sz≠0) :
  ev P (.call z_91 [.d (.ag [nm,I' 7,I' sz,I' ot]),.d (.ag (s.ab true).row),.d (.ag c.row)] [])=some (.val (.d (.b ((effF 7 sz ot (s.ab true).pl c).2.2.2==0))) []):=by
 have hcd:ckd 7 sz ot (s.ab true)=0:=h0
 obtain ⟨hmn,hgd⟩:=ckd_good hcd
 have hsz:1≤sz:=by
  unfold mnew at hmn
  split at hmn
  ·cases hmn
  ·split at hmn
   ·cases hmn
   ·rename_i h;simp at h;omega
 have hr:rmz sz=sz:=by unfold rmz;split<;>omega
 have ha:absB 7 sz ot (s.ab true).pl=true:=by
  rw [absB_pl]
  unfold absB
  have e1:newO 7 sz ot=0:=hmn
  have e2:ckO 7 (szO 7 sz) ot (vzO 7 (s.ab true))=0:=by
   have:szO 7 sz=sz:=hr
   rw [this];exact hcd
  rw [e1,e2]
  rfl
 rw [en_eq ha hb]
 have hS:Srt sz s.C:=by
  unfold S.good at hgd
  simp only [Bool.and_eq_true] at hgd
  exact srt_iff.1 hgd.1.2.1
 have hwz:(s.ab true).wz:=⟨by have:=hf.h;omega,by have:=hf.b;omega,Nat.zero_le _,by have:=hf.c;omega,fun x hx=>⟨hf.wf.k x hx,by have:=hf.l x hx;omega⟩,fun _=>rfl,hf.wf.c⟩
 have hR:=ev_mReady nm 7 sz ot (s.ab true) hwz c.task c.op c.value c.prio c.now
 refine hR.trans ?_
 congr 4
 have er4:raw 7 sz ot (s.ab true).pl c=eT (rmz sz) (s.ab true).pl c:=rfl
 rw [er4,hr]
 unfold ap
 rw [if_neg (by rw [hcd];decide)]
 unfold callE blg fit eT
 have htb:tcbad c.task c.prio c.now=false:=hb
 have eC:(s.ab true).C=s.C:=rfl
 have eQ:(s.ab true).Q=[]:=rfl
 rw [htb,isK_pl,eC,eQ]
 have eK:isK (s.ab true) c.task=isK s c.task:=rfl
 have eB:bK (s.ab true).pl c.task=bK s c.task:=bK_pl (s.ab true) c.task
 have ePl:(s.ab true).pl.C=s.C.map K.pl:=rfl
 rw [eK,eB,ePl]
 have hany:((s.C.map K.pl).any fun x=>decide (sz≤x.log.length))=fl sz s.C []:=by
  unfold fl
  rw [List.any_map,Bool.eq_iff_iff]
  simp only [List.any_eq_true,Function.comp]
  constructor
  ·rintro ⟨x,hx,h⟩
   have h1:=(hS.el x hx).2.2.1
   refine ⟨x,hx,?_⟩
   have:x.pl.log=x.log:=rfl
   rw [this] at h
   simp [wts] at h ⊢
   omega
  ·rintro ⟨x,hx,h⟩
   refine ⟨x,hx,?_⟩
   have:x.pl.log=x.log:=rfl
   rw [this]
   simp [wts] at h ⊢
   omega
 rw [hany]
 rcases isK_kfd hS c.task with ⟨hk,k,hkf,hkb,hfn⟩ | ⟨hk,hkf,hfn⟩
 ·by_cases h68:c.op=68
  ·cases hnum:num c.value<;>cases hfl:fl sz s.C []<;>simp [h68,hnum,hfl,busy,er,gd]
  ·by_cases h69:c.op=69
   ·simp [h69,hk,hfn,er]
   ·by_cases h71:c.op=71
    ·simp [h71,hk,hfn,gd]
    ·by_cases h70:c.op=70
     ·have hkb':(s.C.map K.pl)[bK s c.task]?=some k.pl:=by rw [List.getElem?_map,hkb];rfl
      have hkp:k.pl.log=k.log:=rfl
      obtain ⟨kt,kn,kl⟩:=k
      have epl:(⟨kt,kn,kl⟩:K).pl=⟨kt,false,kl⟩:=rfl
      rw [epl] at hkb'
      cases kl with
      | cons x lg=>simp [h70,hk,hfn,hkf,hkb']
      | nil=>simp [h70,hk,hfn,hkf,hkb',er,adv,advF,pub,idx,got,fwk]
     ·have h:(decide (68≤c.op)&&decide (c.op≤71))=false:=by simp;omega
      have h1:(c.op==68)=false:=by simpa using h68
      have h2:(c.op==69)=false:=by simpa using h69
      have h3:(c.op==70)=false:=by simpa using h70
      have h4:(c.op==71)=false:=by simpa using h71
      simp [h,h1,h2,h3,h4]
 ·by_cases h68:c.op=68
  ·cases hnum:num c.value<;>cases hfl:fl sz s.C []<;>simp [h68,hnum,hfl,busy,er,gd]
  ·by_cases h69:c.op=69
   ·simp [h69,hk,hfn,gd]
   ·by_cases h71:c.op=71
    ·simp [h71,hk,hfn,er]
    ·by_cases h70:c.op=70
     ·simp [h70,hk,hfn,er]
     ·have h:(decide (68≤c.op)&&decide (c.op≤71))=false:=by simp;omega
      have h1:(c.op==68)=false:=by simpa using h68
      have h2:(c.op==69)=false:=by simpa using h69
      have h3:(c.op==70)=false:=by simpa using h70
      have h4:(c.op==71)=false:=by simpa using h71
      simp [h,h1,h2,h3,h4]
end Go.VS.Sp
namespace Go.VS.Sp
theorem rf_op (c:Cl):c.rf.op=c.op:=by
 unfold Cl.rf
 split<;>rfl
theorem law_Ready (nm:D) (k sz ot:Int) (s:S) (c:Cl) (hw:s.wf) :
  ev P (.call z_9 [.d (.ag [nm,I' k,I' sz,I' ot]),.d (.ag s.row),.d (.ag c.row)] [])=some (.val (.d (.b true)) []):=by
 have hwa:(s.ab true).wf:=⟨hw.h,hw.b,hw.c,hw.k⟩
 by_cases hk:k=1∨k=2∨k=4∨k=5∨k=6∨k=7∨k=8∨k=9
 ·rcases hk with rfl | rfl | rfl | rfl | rfl | rfl | rfl | rfl
  ·exact law_core nm 1 sz ot s c (.inl ⟨rfl,rfl,rfl,rfl,rfl,rfl⟩) hwa fun hf h0 hb _ _=>rdyM nm sz ot s c.rf hf h0 (by rw [cbad_rf];exact hb)
  ·exact law_core nm 2 sz ot s c (.inr (.inl ⟨rfl,rfl,rfl,rfl,rfl,rfl⟩)) hwa fun hf h0 hb _ _=>rdyW nm sz ot s c.rf hf h0 (by rw [cbad_rf];exact hb)
  ·exact law_core nm 4 sz ot s c (.inr (.inr (.inl ⟨rfl,rfl,rfl,rfl,rfl,rfl⟩))) hwa fun hf h0 hb _ _=>rdyS nm sz ot s c.rf hf h0 (by rw [cbad_rf];exact hb)
  ·exact law_core nm 5 sz ot s c (.inr (.inr (.inr (.inl ⟨rfl,rfl,rfl,rfl,rfl,rfl⟩)))) hwa fun _ _ _ _ h=>by simp at h
  ·refine law_core nm 6 sz ot s c (.inr (.inr (.inr (.inr (.inl ⟨rfl,rfl,rfl,rfl,rfl,rfl⟩))))) hwa fun hf h0 hb hs _=>?_
   unfold skipR at hs
   simp only [Bool.or_eq_false_iff] at hs
   refine rdyC nm sz ot s c.rf hf h0 (by rw [cbad_rf];exact hb) ?_ (by rw [rf_op];exact hs.2)
   have h:=hs.1
   simp at h
   exact h
  ·refine law_core nm 7 sz ot s c (.inr (.inr (.inr (.inr (.inr (.inl ⟨rfl,rfl,rfl,rfl,rfl,rfl⟩)))))) hwa fun hf h0 hb hs _=>?_
   unfold skipR at hs
   simp only [Bool.or_eq_false_iff] at hs
   refine rdyT nm sz ot s c.rf hf h0 (by rw [cbad_rf];exact hb) ?_
   have h:=hs.1
   simp at h
   exact h
  ·exact law_core nm 8 sz ot s c (.inr (.inr (.inr (.inr (.inr (.inr (.inl ⟨rfl,rfl,rfl,rfl,rfl,rfl⟩))))))) hwa fun hf h0 hb _ _=>rdyL nm sz ot s c.rf hf h0 (by rw [cbad_rf];exact hb)
  ·exact law_core nm 9 sz ot s c (.inr (.inr (.inr (.inr (.inr (.inr (.inr ⟨rfl,rfl,rfl,rfl,rfl,rfl⟩))))))) hwa fun hf h0 hb _ _=>rdyF nm sz ot s c.rf hf h0 (by rw [cbad_rf];exact hb)
 ·exact law_U nm k sz ot s c hk
end Go.VS.Sp
