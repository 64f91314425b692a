import Derived.Test.YtjpdopldkeodgaaGreatV10
set_option linter.all false
namespace Go.VS.Sp
theorem qall_op {f:List W→W→Bool} {g:W→Prop} (h:∀pre w,f pre w=true→g w):∀(l pre:List W),qall f pre l=true→∀w∈l,g w
 | [],_,_,w,hw=>by simp at hw
 | a::r,pre,hq,w,hw=>by
  simp only [qall,Bool.and_eq_true] at hq
  rcases List.mem_cons.1 hw with rfl | hw
  ·exact h _ _ hq.1
  ·exact qall_op h r _ hq.2 w hw
theorem qall_ne {f:List W→W→Bool} (h:∀pre w,f pre w=true→(pre.any fun x=>x.task==w.task)=false):∀(l pre:List W),qall f pre l=true→∀w∈l,∀x∈pre,x.task≠w.task
 | [],_,_,w,hw=>by simp at hw
 | a::r,pre,hq,w,hw=>by
  intro x hx
  simp only [qall,Bool.and_eq_true] at hq
  rcases List.mem_cons.1 hw with rfl | hw
  ·have:=h _ _ hq.1
   rw [List.any_eq_false] at this
   simpa using this x hx
  ·exact qall_ne h r _ hq.2 w hw x (by simp [hx])
theorem ck0 {n:Int} {b:Bool} (h:ck n b=0):n=0∧b=true:=⟨ck_nw h,ck_ok h⟩
structure Fst (s:S):Prop where
 op:∀w∈s.Q,w.op≠68∧w.op≠64
 ne:∀w r,s.Q=w::r→∀x∈r,w.task≠x.task
theorem fst_of_qall {f:List W→W→Bool} {s:S} (h1:∀pre w,f pre w=true→w.op≠68∧w.op≠64) (h2:∀pre w,f pre w=true→(pre.any fun x=>x.task==w.task)=false) (h:qall f [] s.Q=true):Fst s:=by
 refine ⟨qall_op h1 _ _ h,fun w r hQ x hx=>?_⟩
 rw [hQ] at h
 simp only [qall,Bool.and_eq_true] at h
 exact qall_ne h2 r _ h.2 x hx w (by simp)
theorem fst_eq {k sz ot:Int} {s:S} (hF:Fst s) (h1:k=1∨k=2∨k=8∨(k=4∧ot=0)):(!s.Q.any (vainP k sz ot s))=ridB k sz ot s [] s.Q:=by
 have e1:∀w,vainP k sz ot s w=firstB k sz ot s w:=fun w=>by unfold vainP;rw [if_pos h1]
 have e2:fstB k ot=true:=by
  unfold fstB
  rcases h1 with rfl | rfl | rfl | ⟨rfl,rfl⟩<;>rfl
 cases hQ:s.Q with
 | nil=>rfl
 | cons w r =>
  have hop:=hF.op w (by rw [hQ];simp)
  have hb:badB k sz ot s w=couldB k sz ot s w:=by
   unfold badB
   have b1:(w.op==68)=false:=by simpa using hop.1
   have b2:(w.op==64&&sz==0)=false:=by
    have:(w.op==64)=false:=by simpa using hop.2
    rw [this];rfl
   rw [b1,b2];rfl
  have hr:(r.any (vainP k sz ot s))=false:=by
   rw [List.any_eq_false]
   intro x hx
   rw [e1]
   unfold firstB
   rw [hQ]
   have:(w.task==x.task)=false:=by simpa using hF.ne w r hQ x hx
   simp [this]
  have hrid:ridB k sz ot s [w] r=true:=by
   cases r with
   | nil=>rfl
   | cons a r=>simp [ridB,e2]
  rw [List.any_cons,hr,e1,Bool.or_false]
  have hfw:firstB k sz ot s w=couldB k sz ot s w:=by
   unfold firstB
   rw [hQ]
   simp
  rw [hfw]
  have:ridB k sz ot s [] (w::r)=(!badB k sz ot s w&&ridB k sz ot s ([]++[w]) r):=by simp [ridB]
  rw [this,List.nil_append,hrid,hb,Bool.and_true]
theorem ridB_all {k sz ot:Int} {s:S} (h:fstB k ot=false):∀(l pre:List W),ridB k sz ot s pre l=!l.any (badB k sz ot s)
 | [],_=>rfl
 | w::r,pre=>by
  have ih:=ridB_all (sz:=sz) (s:=s) h r (pre++[w])
  simp only [ridB,h,Bool.false_and,Bool.false_or,ih,List.any_cons,Bool.not_or]
theorem all_eq {k sz ot:Int} {s:S} (h1:fstB k ot=false) (h:∀w∈s.Q,vainP k sz ot s w=badB k sz ot s w):(!s.Q.any (vainP k sz ot s))=ridB k sz ot s [] s.Q:=by
 rw [ridB_all h1]
 congr 1
 rw [Bool.eq_iff_iff,List.any_eq_true,List.any_eq_true]
 exact exists_congr fun w=>and_congr_right fun hw=>by rw [h w hw]
theorem tq_op {sz:Int} {C:List K} {Q:List W}:∀(suf pre:List W),tq sz C Q pre suf=true→∀w∈suf,w.op=70∨w.op=68
 | [],_,_,w,hw=>by simp at hw
 | a::r,pre,h,w,hw=>by
  have hh:=h
  unfold tq at hh
  simp only [Bool.and_eq_true] at hh
  rcases List.mem_cons.1 hw with rfl | hw
  ·have h2:tqo sz C Q w=true:=by
    exact hh.2.2.1
   unfold tqo at h2
   by_cases h70:w.op=70
   ·exact .inl h70
   ·rw [if_neg h70] at h2
    by_cases h68:w.op=68
    ·exact .inr h68
    ·rw [if_neg h68] at h2;cases h2
  ·exact tq_op r _ hh.2.2.2 w hw
theorem idle_eq (k sz ot:Int) (s:S):idleB k sz ot s=ridleB k sz ot s:=by
 unfold idleB ridleB
 by_cases h0:ckG k sz ot s=0
 ·rw [h0]
  simp only [beq_self_eq_true,Bool.true_and]
  have hf:=h0
  unfold ckG at hf
  by_cases k1:k=1
  ·subst k1
   rw [if_pos rfl] at hf
   obtain ⟨_,_,m⟩:=M.mvalid_iff.1 (ck0 hf).2
   refine fst_eq ⟨fun w hw=>by have:=(m.all w hw).1;omega,fun w r hQ x hx=>?_⟩ (.inl rfl)
   have:=m.dis
   rw [hQ,List.pairwise_cons] at this
   exact this.1 x hx
  by_cases k2:k=2
  ·subst k2
   rw [if_neg (by decide),if_pos rfl] at hf
   have hv:=(ck0 hf).2
   unfold okWq R.mvalid at hv
   simp only [Bool.and_eq_true] at hv
   obtain ⟨q1,q2,_⟩:=R.qchk_spec.1 hv.2.2.2.1
   refine fst_eq ⟨fun w hw=>?_,fun w r hQ x hx=>?_⟩ (.inr (.inl rfl))
   ·have:=q1 w hw
    unfold R.wbd at this
    simp at this
    have:=this.1.1.1
    omega
   ·rw [hQ,List.pairwise_cons] at q2
    exact q2.1 x hx
  by_cases k4:k=4
  ·subst k4
   rw [if_neg (by decide),if_neg (by decide),if_pos rfl] at hf
   have hv:=(ck0 hf).2
   unfold okSq at hv
   simp only [Bool.and_eq_true] at hv
   have hq:=hv.2.1
   have hop:∀pre w,fS sz ot s.cnt pre w=true→w.op=60∧(pre.any fun x=>x.task==w.task)=false:=by
    intro pre w h
    unfold fS fS0 at h
    simp only [Bool.and_eq_true,Bool.not_eq_true'] at h
    refine ⟨?_,h.2.1⟩
    have:=h.1
    simp at this
    exact this.1.1.1
   by_cases ho:ot=0
   ·exact fst_eq (fst_of_qall (fun p w h=>by have:=(hop p w h).1;omega) (fun p w h=>(hop p w h).2) hq) (.inr (.inr (.inr ⟨rfl,ho⟩)))
   ·refine all_eq (by simp [fstB,ho]) fun w hw=>?_
    have:=qall_op (g:=fun w=>w.op=60) (fun p w h=>(hop p w h).1) _ _ hq w hw
    simp [vainP,badB,ho,this]
  by_cases k5:k=5
  ·subst k5
   rw [if_neg (by decide),if_neg (by decide),if_neg (by decide),if_pos rfl] at hf
   have hv:=(ck0 hf).2
   unfold okBq okBa at hv
   simp only [Bool.and_eq_true,Bool.not_eq_true',Bool.or_eq_false_iff,decide_eq_false_iff_not] at hv
   have hl:(s.Q.length:Int)<sz:=by have:=hv.1.2;omega
   have e1:s.Q.any (vainP 5 sz ot s)=false:=by
    rw [List.any_eq_false]
    intro w _
    have:vainP 5 sz ot s w=decide (sz≤s.Q.length):=rfl
    rw [this]
    simp
    omega
   simp [e1,hl]
  by_cases k6:k=6
  ·subst k6
   rw [if_neg (by decide),if_neg (by decide),if_neg (by decide),if_neg (by decide),if_pos rfl] at hf
   have hv:=(ck0 hf).2
   unfold okCq at hv
   simp only [Bool.and_eq_true] at hv
   have hops:=qall_ops _ _ hv.2.2.2.1
   refine all_eq rfl fun w hw=>?_
   have:=hops w hw
   unfold vainP badB
   have b1:(w.op==68)=false:=by simp;omega
   rw [b1]
   by_cases hz:sz=0∧w.op=64
   ·simp [hz]
   ·have b2:(w.op==64&&sz==0)=false:=by simp;omega
    rw [b2]
    simp [hz]
  by_cases k7:k=7
  ·subst k7
   rw [if_neg (by decide),if_neg (by decide),if_neg (by decide),if_neg (by decide),if_neg (by decide),if_pos rfl] at hf
   have hg:s.good sz=true:=by
    unfold ckd at hf
    split at hf
    ·split at hf
     ·assumption
     ·cases hf
    ·rename_i hne;exact absurd hf hne
   unfold S.good at hg
   simp only [Bool.and_eq_true] at hg
   have hops:=tq_op _ _ hg.1.2.2.2
   refine all_eq rfl fun w hw=>?_
   have:=hops w hw
   unfold vainP badB
   by_cases h68:w.op=68
   ·simp [h68]
   ·have b1:(w.op==68)=false:=by simpa using h68
    have b2:(w.op==64&&sz==0)=false:=by simp;omega
    rw [b1,b2]
    simp [h68]
  by_cases k8:k=8
  ·subst k8
   rw [if_neg (by decide),if_neg (by decide),if_neg (by decide),if_neg (by decide),if_neg (by decide),if_neg (by decide),if_pos rfl] at hf
   have hv:=(ck0 hf).2
   unfold okLq at hv
   simp only [Bool.and_eq_true] at hv
   refine fst_eq (fst_of_qall (f:=fL sz) (fun p w h=>?_) (fun p w h=>?_) hv.2.2.2) (.inr (.inr (.inl rfl)))
   ·unfold fL fL0 at h
    simp at h
    have:=h.1.1.1.1
    omega
   ·unfold fL at h
    simp only [Bool.and_eq_true,Bool.not_eq_true'] at h
    exact h.2
  by_cases k9:k=9
  ·subst k9
   rw [if_neg (by decide),if_neg (by decide),if_neg (by decide),if_neg (by decide),if_neg (by decide),if_neg (by decide),if_neg (by decide),if_pos rfl] at hf
   have hv:=(ck0 hf).2
   unfold okFq at hv
   simp only [Bool.and_eq_true] at hv
   refine all_eq rfl fun w hw=>?_
   have:=qall_op (f:=fF) (g:=fun w=>w.op=74) (fun p w h=>by unfold fF at h;simp at h;exact h.1.1.2) _ _ hv.2.2.1.1 w hw
   simp [vainP,badB,this]
  ·rw [ckG_unknown (by omega)] at h0
   cases h0
 ·have hb:(ckG k sz ot s==0)=false:=by simpa using h0
  rw [hb];rfl
theorem sm_zN:zN.sm:=⟨by simp [zN],by simp [zN],by simp [zN],by simp [zN],by simp [zN]⟩
theorem law_States (nm:D) (k sz ot:Int) (s:S) (hw:s.wf) (hq:s.qn=true→s.Q=[]) :
  ev P (.call z_7 [.d (.ag [nm,I' k,I' sz,I' ot]),.d (.ag s.row)] [])=some (.val (.d (.b true)) []):=by
 have hG:=ev_Great s
 rw [ev_call P_z_7 rfl]
 cases hg:s.great
 ·rw [hg] at hG
  have h:=fine_of hw hq hg
  have a1:=ev_Initial nm k sz ot
  have a2:=ev_rIni nm k sz ot
  have a3:=ev_Abstract nm k sz ot s h
  have a4:=ev_rAbstract nm k sz ot s h
  have a5:=ev_Idle nm k sz ot s h
  have a6:=ev_rIdle nm k sz ot s h
  rw [←idle_eq] at a6
  rw [←ini_row] at a1 a2
  unfold nwR at a1 a2
  generalize newO k sz ot=n at *
  generalize ckG k sz ot s=c at *
  generalize idleB k sz ot s=i at *
  have S1:∀x:S,x.sm→ev P (.call z_17 [.d (.ag x.row),.d (.ag x.row)] [])=some (.val (.d (.b true)) []):=by
   intro x hx
   have:=ev_Same x x hx
   simpa using this
  obtain ⟨x,hx,hxs⟩:∃x:S,x.sm∧(if n=0 then (ini k sz).row else zrow)=x.row:=by
   by_cases h0:n=0
   ·exact ⟨ini k sz,((zn_ini k sz 0).sz (by decide)).sm,by rw [if_pos h0]⟩
   ·exact ⟨zN,sm_zN,by rw [if_neg h0];rfl⟩
  obtain ⟨y,z,hy,hys,hzs,hyz⟩:∃y z:S,y.sm∧(if c=0 then (s.ab true).row else zrow)=y.row∧(if c=0 then (s.ab false).row else zrow)=z.row∧y.pl=z.pl:=by
   by_cases h0:c=0
   ·exact ⟨s.ab true,s.ab false,(h.sz true).sm,by rw [if_pos h0],by rw [if_pos h0],rfl⟩
   ·exact ⟨zN,zN,sm_zN,by rw [if_neg h0];rfl,by rw [if_neg h0];rfl,rfl⟩
  rw [hxs] at a1 a2
  rw [hys] at a3
  rw [hzs] at a4
  have S1:=S1 x hx
  have S2:=ev_Same y z hy
  have e:(y.pl==z.pl)=true:=by rw [hyz];simp
  rw [e] at S2
  simp only [S.row] at hG a1 a2 a3 a4 a5 a6 S1 S2
  simp [F_z_7,hG,a1,a2,a3,a4,a5,a6,S1,S2,ev_awake,V.same_self]
 ·rw [hg] at hG
  simp only [S.row] at hG
  simp [F_z_7,hG,ev_awake]
end Go.VS.Sp
