import Derived.Test.YtjpdopldkeodgaaGreatV07
set_option linter.all false
namespace Go.VS.Sp
theorem vc_pl (sz:Int):∀(C:List K) (p:Option K),vc sz (p.map K.pl) (C.map K.pl)=vc sz p C
 | [],_=>rfl
 | c::C,p=>by
  have ih:=vc_pl sz C (some c)
  have e:kbad sz (p.map K.pl) (K.pl c)=kbad sz p c:=by
   unfold kbad
   cases p<;>rfl
  show (!kbad sz (p.map K.pl) (K.pl c)&&((K.pl c).log.all num&&vc sz ((some c).map K.pl) (C.map K.pl)))=(!kbad sz p c&&(c.log.all num&&vc sz (some c) C))
  rw [e,ih]
  rfl
theorem ckO_pl (k sz ot:Int) (s:S) (hq:s.Q=[]):ckO k sz ot s.pl=ckO k sz ot s:=by
 have hl:s.pl.C.length=s.C.length:=by simp [S.pl]
 have e1:okM s.pl=okM s:=by unfold okM;rw [hl];first | done | rfl
 have e2:okW s.pl=okW s:=by unfold okW okWb;rw [hl];first | done | rfl
 have e3:okS sz s.pl=okS sz s:=by unfold okS;rw [hl];first | done | rfl
 have e4:okB s.pl=okB s:=by unfold okB;rw [hl];first | done | rfl
 have e5:okC sz s.pl=okC sz s:=by unfold okC okCb;rw [hl];first | done | rfl
 have e6:ckd k sz ot s.pl=ckd k sz ot s:=by
  have h1:s.pl.Q=[]:=hq
  have h2:=vc_pl sz s.C none
  simp only [Option.map_none] at h2
  unfold ckd S.good
  rw [h1,hq]
  have h3:s.pl.C=s.C.map K.pl:=rfl
  have h4:s.pl.fl0=s.fl0:=rfl
  have h5:s.pl.own=s.own:=rfl
  rw [h3,h2,h4,h5]
  rfl
 have e7:okL sz s.pl=okL sz s:=by unfold okL;rw [hl];first | done | rfl
 have e8:okF s.pl=okF s:=by simp [okF,okFp,S.pl,List.isEmpty_iff]
 unfold ckO
 rw [e1,e2,e3,e4,e5,e6,e7,e8]
theorem absB_pl (k sz ot:Int) (s:S):absB k sz ot s.pl=absB k sz ot s:=by
 unfold absB
 have h1:s.pl.Q=s.Q:=rfl
 have h2:s.pl.val=s.val:=rfl
 have h3:vzO k s.pl=(vzO k s).pl:=by unfold vzO;split<;>rfl
 rw [h1,h2,h3]
 by_cases hq:s.Q=[]
 ·rw [ckO_pl _ _ _ _ (by unfold vzO;split<;>simp [hq])]
 ·have:s.Q.isEmpty=false:=by simpa [List.isEmpty_iff] using hq
  simp [this]
theorem known_of {k sz ot:Int} (h:newO k sz ot=0):k=1∨k=2∨k=4∨k=5∨k=6∨k=7∨k=8∨k=9:=by
 by_cases h1:k=1
 ·exact .inl h1
 by_cases h2:k=2
 ·exact .inr (.inl h2)
 by_cases h4:k=4
 ·exact .inr (.inr (.inl h4))
 by_cases h5:k=5
 ·exact .inr (.inr (.inr (.inl h5)))
 by_cases h6:k=6
 ·exact .inr (.inr (.inr (.inr (.inl h6))))
 by_cases h7:k=7
 ·exact .inr (.inr (.inr (.inr (.inr (.inl h7)))))
 by_cases h8:k=8
 ·exact .inr (.inr (.inr (.inr (.inr (.inr (.inl h8))))))
 by_cases h9:k=9
 ·exact .inr (.inr (.inr (.inr (.inr (.inr (.inr h9))))))
 simp [newO,h1,h2,h4,h5,h6,h7,h8,h9] at h
theorem absB_known {k sz ot:Int} {s:S} (h:absB k sz ot s=true):k=1∨k=2∨k=4∨k=5∨k=6∨k=7∨k=8∨k=9:=known_of (abs_of h).1
theorem zN_wf:zN.wf:=⟨fun _=>rfl,fun _=>rfl,fun _=>rfl,by simp [zN]⟩
theorem Rel.fail {R:Option Res} (e:Int) (h:R=some (.val (.tu [.d (.ag zrow),.d (I' 0),.d (.b false),.d (I' e)]) [])):Rel R (Sp.er zS e):=⟨zN,h,rfl,zN_wf⟩
end Go.VS.Sp
namespace Go.VS.Sp
theorem ev_fail (e:Int):ev P (.call z_36 [.d (I' e)] [])=some (.val (.tu [.d (.ag zrow),.d (I' 0),.d (.b false),.d (I' e)]) []):=by
 rw [ev_call P_z_36 rfl]
 simp [F_z_36,zrow]
theorem ev_of1:ev P (.call z_37 [.d (I' 1)] [])=some (.val (.tu [.d (.ifc 101 (.ag [.fn z_62 [] [],.fn z_63 [] []])),.d (.b true)]) []):=by
 rw [ev_call P_z_37 rfl]
 simp [F_z_37,mkiV]
theorem ev_of2:ev P (.call z_37 [.d (I' 2)] [])=some (.val (.tu [.d (.ifc 102 (.ag [.fn z_67 [] [],.fn z_68 [] []])),.d (.b true)]) []):=by
 rw [ev_call P_z_37 rfl]
 simp [F_z_37,mkiV]
theorem ev_of4:ev P (.call z_37 [.d (I' 4)] [])=some (.val (.tu [.d (.ifc 103 (.ag [.fn z_72 [] [],.fn z_73 [] []])),.d (.b true)]) []):=by
 rw [ev_call P_z_37 rfl]
 simp [F_z_37,mkiV]
theorem ev_of5:ev P (.call z_37 [.d (I' 5)] [])=some (.val (.tu [.d (.ifc 104 (.ag [.fn z_77 [] [],.fn z_78 [] []])),.d (.b true)]) []):=by
 rw [ev_call P_z_37 rfl]
 simp [F_z_37,mkiV]
theorem ev_of6:ev P (.call z_37 [.d (I' 6)] [])=some (.val (.tu [.d (.ifc 105 (.ag [.fn z_82 [] [],.fn z_83 [] []])),.d (.b true)]) []):=by
 rw [ev_call P_z_37 rfl]
 simp [F_z_37,mkiV]
theorem ev_of7:ev P (.call z_37 [.d (I' 7)] [])=some (.val (.tu [.d (.ifc 106 (.ag [.fn z_87 [] [],.fn z_88 [] []])),.d (.b true)]) []):=by
 rw [ev_call P_z_37 rfl]
 simp [F_z_37,mkiV]
theorem ev_of8:ev P (.call z_37 [.d (I' 8)] [])=some (.val (.tu [.d (.ifc 107 (.ag [.fn z_92 [] [],.fn z_93 [] []])),.d (.b true)]) []):=by
 rw [ev_call P_z_37 rfl]
 simp [F_z_37,mkiV]
theorem ev_of9:ev P (.call z_37 [.d (I' 9)] [])=some (.val (.tu [.d (.ifc 108 (.ag [.fn z_97 [] [],.fn z_98 [] []])),.d (.b true)]) []):=by
 rw [ev_call P_z_37 rfl]
 simp [F_z_37,mkiV]
theorem ev_ofU {k:Int} (h:¬(k=1∨k=2∨k=4∨k=5∨k=6∨k=7∨k=8∨k=9)):ev P (.call z_37 [.d (I' k)] [])=some (.val (.tu [.d .nilifc,.d (.b false)]) []):=by
 have b1:(k==1)=false:=by simp;omega
 have b2:(k==2)=false:=by simp;omega
 have b4:(k==4)=false:=by simp;omega
 have b5:(k==5)=false:=by simp;omega
 have b6:(k==6)=false:=by simp;omega
 have b7:(k==7)=false:=by simp;omega
 have b8:(k==8)=false:=by simp;omega
 have b9:(k==9)=false:=by simp;omega
 rw [ev_call P_z_37 rfl]
 simp [F_z_37,b1,b2,b4,b5,b6,b7,b8,b9]
theorem ev_ops1:ev P (.call z_38 [.d (I' 1)] [])=some (.val (.mp 0) [.mp [(I' 50,.d (I' 0)),(I' 51,.d (I' 0)),(I' 52,.d (I' 0))]]):=by
 rw [ev_call P_z_38 rfl]
 simp [F_z_38,endH,reachC,cut,List.idxOf_cons]
theorem ev_ops2:ev P (.call z_38 [.d (I' 2)] [])=some (.val (.mp 0) [.mp [(I' 53,.d (I' 0)),(I' 54,.d (I' 0)),(I' 55,.d (I' 0)),(I' 56,.d (I' 0))]]):=by
 rw [ev_call P_z_38 rfl]
 simp [F_z_38,endH,reachC,cut,List.idxOf_cons]
theorem ev_ops4:ev P (.call z_38 [.d (I' 4)] [])=some (.val (.mp 0) [.mp [(I' 60,.d (I' 1)),(I' 61,.d (I' 1)),(I' 62,.d (I' 1))]]):=by
 rw [ev_call P_z_38 rfl]
 simp [F_z_38,endH,reachC,cut,List.idxOf_cons]
theorem ev_ops5:ev P (.call z_38 [.d (I' 5)] [])=some (.val (.mp 0) [.mp [(I' 63,.d (I' 0))]]):=by
 rw [ev_call P_z_38 rfl]
 simp [F_z_38,endH,reachC,cut,List.idxOf_cons]
theorem ev_ops6:ev P (.call z_38 [.d (I' 6)] [])=some (.val (.mp 0) [.mp [(I' 64,.d (I' 2)),(I' 65,.d (I' 0)),(I' 66,.d (I' 0))]]):=by
 rw [ev_call P_z_38 rfl]
 simp [F_z_38,endH,reachC,cut,List.idxOf_cons]
theorem ev_ops7:ev P (.call z_38 [.d (I' 7)] [])=some (.val (.mp 0) [.mp [(I' 68,.d (I' 2)),(I' 69,.d (I' 0)),(I' 70,.d (I' 0)),(I' 71,.d (I' 0))]]):=by
 rw [ev_call P_z_38 rfl]
 simp [F_z_38,endH,reachC,cut,List.idxOf_cons]
theorem ev_ops8:ev P (.call z_38 [.d (I' 8)] [])=some (.val (.mp 0) [.mp [(I' 72,.d (I' 1)),(I' 75,.d (I' 0))]]):=by
 rw [ev_call P_z_38 rfl]
 simp [F_z_38,endH,reachC,cut,List.idxOf_cons]
theorem ev_ops9:ev P (.call z_38 [.d (I' 9)] [])=some (.val (.mp 0) [.mp [(I' 73,.d (I' 2)),(I' 74,.d (I' 0))]]):=by
 rw [ev_call P_z_38 rfl]
 simp [F_z_38,endH,reachC,cut,List.idxOf_cons]
end Go.VS.Sp
namespace Go.VS.Sp
set_option maxHeartbeats 4000000 in
theorem ev_Effect1 (nm:D) (sz ot:Int) (s:S) (c:Cl) (hw:s.wf) (hz:s.sz) :
  Rel (ev P (.call z_15 [.d (.ag [nm,I' 1,I' sz,I' ot]),.d (.ag s.row),.d (.ag c.row)] [])) (effF 1 sz ot s.pl c):=by
 unfold effF
 rw [absB_pl]
 rw [ev_call P_z_15 rfl]
 by_cases hq:s.Q=[]
 ·have hA:=ev_abs1 nm sz ot s hq hz.sm
  simp only [S.row,hq] at hA
  cases ha:absB 1 sz ot s
  ·rw [ha] at hA
   rw [if_pos rfl]
   exact Rel.fail 1 (by simp [F_z_15,Cl.row,ev_of1,hq,hA,invV,ev_fail,zrow])
  ·rw [ha] at hA
   rw [if_neg (by decide)]
   cases hc:cbad c
   ·rw [if_neg (by decide)]
    have hc2:=hc
    have hE:=fun hb hf=>effI1 nm sz ot s c hw hz ha hc2 hb hf
    unfold cbad at hc
    obtain ⟨tk,op,va,pr,nw⟩:=c
    simp only at hc
    by_cases h50:op=50
    ·subst h50
     have hb:blg 1 50=true:=by decide
     simp only [hb]
     rw [if_neg (by decide)]
     have hf:fit 1 sz ⟨tk,50,va,pr,nw⟩=true:=by simp [fit]
     rw [hf,if_neg (by decide)]
     obtain ⟨s',h1,h2,h3⟩:=hE hb hf
     generalize raw 1 sz ot s.pl ⟨tk,50,va,pr,nw⟩=r at *
     simp only [S.row,Cl.row,hq] at h1
     cases he:r.2.2.2==0
     ·have he1:¬r.2.2.2=0:=by simpa using he
      have he2:(r.2.2.2 != 0)=true:=by simpa using he1
      rw [if_neg he1]
      exact Rel.fail _ (by simp [F_z_15,Cl.row,ev_of1,hq,hA,hc,ev_ops1,invV,h1,he2,ev_fail,zrow,callD,reachC,cut,List.idxOf_cons])
     ·have he1:r.2.2.2=0:=by simpa using he
      rw [if_pos he1]
      refine ⟨s',?_,h2,h3⟩
      simp [F_z_15,Cl.row,ev_of1,hq,hA,hc,ev_ops1,invV,h1,he1,zrow,callD,reachC,cut,List.idxOf_cons]
    by_cases h51:op=51
    ·subst h51
     have hb:blg 1 51=true:=by decide
     simp only [hb]
     rw [if_neg (by decide)]
     have hf:fit 1 sz ⟨tk,51,va,pr,nw⟩=true:=by simp [fit]
     rw [hf,if_neg (by decide)]
     obtain ⟨s',h1,h2,h3⟩:=hE hb hf
     generalize raw 1 sz ot s.pl ⟨tk,51,va,pr,nw⟩=r at *
     simp only [S.row,Cl.row,hq] at h1
     cases he:r.2.2.2==0
     ·have he1:¬r.2.2.2=0:=by simpa using he
      have he2:(r.2.2.2 != 0)=true:=by simpa using he1
      rw [if_neg he1]
      exact Rel.fail _ (by simp [F_z_15,Cl.row,ev_of1,hq,hA,hc,ev_ops1,invV,h1,he2,ev_fail,zrow,callD,reachC,cut,List.idxOf_cons])
     ·have he1:r.2.2.2=0:=by simpa using he
      rw [if_pos he1]
      refine ⟨s',?_,h2,h3⟩
      simp [F_z_15,Cl.row,ev_of1,hq,hA,hc,ev_ops1,invV,h1,he1,zrow,callD,reachC,cut,List.idxOf_cons]
    by_cases h52:op=52
    ·subst h52
     have hb:blg 1 52=true:=by decide
     simp only [hb]
     rw [if_neg (by decide)]
     have hf:fit 1 sz ⟨tk,52,va,pr,nw⟩=true:=by simp [fit]
     rw [hf,if_neg (by decide)]
     obtain ⟨s',h1,h2,h3⟩:=hE hb hf
     generalize raw 1 sz ot s.pl ⟨tk,52,va,pr,nw⟩=r at *
     simp only [S.row,Cl.row,hq] at h1
     cases he:r.2.2.2==0
     ·have he1:¬r.2.2.2=0:=by simpa using he
      have he2:(r.2.2.2 != 0)=true:=by simpa using he1
      rw [if_neg he1]
      exact Rel.fail _ (by simp [F_z_15,Cl.row,ev_of1,hq,hA,hc,ev_ops1,invV,h1,he2,ev_fail,zrow,callD,reachC,cut,List.idxOf_cons])
     ·have he1:r.2.2.2=0:=by simpa using he
      rw [if_pos he1]
      refine ⟨s',?_,h2,h3⟩
      simp [F_z_15,Cl.row,ev_of1,hq,hA,hc,ev_ops1,invV,h1,he1,zrow,callD,reachC,cut,List.idxOf_cons]
    have hb:blg 1 op=false:=by
     cases hh:blg 1 op
     ·rfl
     ·exfalso
      simp [blg] at hh
      omega
    simp only [hb]
    rw [if_pos trivial]
    exact Rel.fail 8 (by simp [F_z_15,Cl.row,ev_of1,hq,hA,hc,ev_ops1,h50,h51,h52,invV,ev_fail,zrow,callD,reachC,cut,List.idxOf_cons])
   ·rw [if_pos rfl]
    unfold cbad at hc
    exact Rel.fail 2 (by simp [F_z_15,Cl.row,ev_of1,hq,hA,hc,invV,ev_fail,zrow])
 ·have ha:absB 1 sz ot s=false:=by
   cases hh:absB 1 sz ot s
   ·rfl
   ·exact absurd (abs_of hh).2.1 hq
  rw [ha,if_pos rfl]
  have hp:0<s.Q.length:=List.length_pos_iff.2 hq
  exact Rel.fail 1 (by simp [F_z_15,Cl.row,ev_of1,hp,ev_fail,zrow])
end Go.VS.Sp
namespace Go.VS.Sp
set_option maxHeartbeats 4000000 in
theorem ev_Effect2 (nm:D) (sz ot:Int) (s:S) (c:Cl) (hw:s.wf) (hz:s.sz) :
  Rel (ev P (.call z_15 [.d (.ag [nm,I' 2,I' sz,I' ot]),.d (.ag s.row),.d (.ag c.row)] [])) (effF 2 sz ot s.pl c):=by
 unfold effF
 rw [absB_pl]
 rw [ev_call P_z_15 rfl]
 by_cases hq:s.Q=[]
 ·have hA:=ev_abs2 nm sz ot s hq hz.sm
  simp only [S.row,hq] at hA
  cases ha:absB 2 sz ot s
  ·rw [ha] at hA
   rw [if_pos rfl]
   exact Rel.fail 1 (by simp [F_z_15,Cl.row,ev_of2,hq,hA,invV,ev_fail,zrow])
  ·rw [ha] at hA
   rw [if_neg (by decide)]
   cases hc:cbad c
   ·rw [if_neg (by decide)]
    have hc2:=hc
    have hE:=fun hb hf=>effI2 nm sz ot s c hw hz ha hc2 hb hf
    unfold cbad at hc
    obtain ⟨tk,op,va,pr,nw⟩:=c
    simp only at hc
    by_cases h53:op=53
    ·subst h53
     have hb:blg 2 53=true:=by decide
     simp only [hb]
     rw [if_neg (by decide)]
     have hf:fit 2 sz ⟨tk,53,va,pr,nw⟩=true:=by simp [fit]
     rw [hf,if_neg (by decide)]
     obtain ⟨s',h1,h2,h3⟩:=hE hb hf
     generalize raw 2 sz ot s.pl ⟨tk,53,va,pr,nw⟩=r at *
     simp only [S.row,Cl.row,hq] at h1
     cases he:r.2.2.2==0
     ·have he1:¬r.2.2.2=0:=by simpa using he
      have he2:(r.2.2.2 != 0)=true:=by simpa using he1
      rw [if_neg he1]
      exact Rel.fail _ (by simp [F_z_15,Cl.row,ev_of2,hq,hA,hc,ev_ops2,invV,h1,he2,ev_fail,zrow,callD,reachC,cut,List.idxOf_cons])
     ·have he1:r.2.2.2=0:=by simpa using he
      rw [if_pos he1]
      refine ⟨s',?_,h2,h3⟩
      simp [F_z_15,Cl.row,ev_of2,hq,hA,hc,ev_ops2,invV,h1,he1,zrow,callD,reachC,cut,List.idxOf_cons]
    by_cases h54:op=54
    ·subst h54
     have hb:blg 2 54=true:=by decide
     simp only [hb]
     rw [if_neg (by decide)]
     have hf:fit 2 sz ⟨tk,54,va,pr,nw⟩=true:=by simp [fit]
     rw [hf,if_neg (by decide)]
     obtain ⟨s',h1,h2,h3⟩:=hE hb hf
     generalize raw 2 sz ot s.pl ⟨tk,54,va,pr,nw⟩=r at *
     simp only [S.row,Cl.row,hq] at h1
     cases he:r.2.2.2==0
     ·have he1:¬r.2.2.2=0:=by simpa using he
      have he2:(r.2.2.2 != 0)=true:=by simpa using he1
      rw [if_neg he1]
      exact Rel.fail _ (by simp [F_z_15,Cl.row,ev_of2,hq,hA,hc,ev_ops2,invV,h1,he2,ev_fail,zrow,callD,reachC,cut,List.idxOf_cons])
     ·have he1:r.2.2.2=0:=by simpa using he
      rw [if_pos he1]
      refine ⟨s',?_,h2,h3⟩
      simp [F_z_15,Cl.row,ev_of2,hq,hA,hc,ev_ops2,invV,h1,he1,zrow,callD,reachC,cut,List.idxOf_cons]
    by_cases h55:op=55
    ·subst h55
     have hb:blg 2 55=true:=by decide
     simp only [hb]
     rw [if_neg (by decide)]
     have hf:fit 2 sz ⟨tk,55,va,pr,nw⟩=true:=by simp [fit]
     rw [hf,if_neg (by decide)]
     obtain ⟨s',h1,h2,h3⟩:=hE hb hf
     generalize raw 2 sz ot s.pl ⟨tk,55,va,pr,nw⟩=r at *
     simp only [S.row,Cl.row,hq] at h1
     cases he:r.2.2.2==0
     ·have he1:¬r.2.2.2=0:=by simpa using he
      have he2:(r.2.2.2 != 0)=true:=by simpa using he1
      rw [if_neg he1]
      exact Rel.fail _ (by simp [F_z_15,Cl.row,ev_of2,hq,hA,hc,ev_ops2,invV,h1,he2,ev_fail,zrow,callD,reachC,cut,List.idxOf_cons])
     ·have he1:r.2.2.2=0:=by simpa using he
      rw [if_pos he1]
      refine ⟨s',?_,h2,h3⟩
      simp [F_z_15,Cl.row,ev_of2,hq,hA,hc,ev_ops2,invV,h1,he1,zrow,callD,reachC,cut,List.idxOf_cons]
    by_cases h56:op=56
    ·subst h56
     have hb:blg 2 56=true:=by decide
     simp only [hb]
     rw [if_neg (by decide)]
     have hf:fit 2 sz ⟨tk,56,va,pr,nw⟩=true:=by simp [fit]
     rw [hf,if_neg (by decide)]
     obtain ⟨s',h1,h2,h3⟩:=hE hb hf
     generalize raw 2 sz ot s.pl ⟨tk,56,va,pr,nw⟩=r at *
     simp only [S.row,Cl.row,hq] at h1
     cases he:r.2.2.2==0
     ·have he1:¬r.2.2.2=0:=by simpa using he
      have he2:(r.2.2.2 != 0)=true:=by simpa using he1
      rw [if_neg he1]
      exact Rel.fail _ (by simp [F_z_15,Cl.row,ev_of2,hq,hA,hc,ev_ops2,invV,h1,he2,ev_fail,zrow,callD,reachC,cut,List.idxOf_cons])
     ·have he1:r.2.2.2=0:=by simpa using he
      rw [if_pos he1]
      refine ⟨s',?_,h2,h3⟩
      simp [F_z_15,Cl.row,ev_of2,hq,hA,hc,ev_ops2,invV,h1,he1,zrow,callD,reachC,cut,List.idxOf_cons]
    have hb:blg 2 op=false:=by
     cases hh:blg 2 op
     ·rfl
     ·exfalso
      simp [blg] at hh
      omega
    simp only [hb]
    rw [if_pos trivial]
    exact Rel.fail 8 (by simp [F_z_15,Cl.row,ev_of2,hq,hA,hc,ev_ops2,h53,h54,h55,h56,invV,ev_fail,zrow,callD,reachC,cut,List.idxOf_cons])
   ·rw [if_pos rfl]
    unfold cbad at hc
    exact Rel.fail 2 (by simp [F_z_15,Cl.row,ev_of2,hq,hA,hc,invV,ev_fail,zrow])
 ·have ha:absB 2 sz ot s=false:=by
   cases hh:absB 2 sz ot s
   ·rfl
   ·exact absurd (abs_of hh).2.1 hq
  rw [ha,if_pos rfl]
  have hp:0<s.Q.length:=List.length_pos_iff.2 hq
  exact Rel.fail 1 (by simp [F_z_15,Cl.row,ev_of2,hp,ev_fail,zrow])
end Go.VS.Sp
namespace Go.VS.Sp
set_option maxHeartbeats 4000000 in
theorem ev_Effect4 (nm:D) (sz ot:Int) (s:S) (c:Cl) (hw:s.wf) (hz:s.sz) :
  Rel (ev P (.call z_15 [.d (.ag [nm,I' 4,I' sz,I' ot]),.d (.ag s.row),.d (.ag c.row)] [])) (effF 4 sz ot s.pl c):=by
 unfold effF
 rw [absB_pl]
 rw [ev_call P_z_15 rfl]
 by_cases hq:s.Q=[]
 ·have hA:=ev_abs4 nm sz ot s hq hz.sm
  simp only [S.row,hq] at hA
  cases ha:absB 4 sz ot s
  ·rw [ha] at hA
   rw [if_pos rfl]
   exact Rel.fail 1 (by simp [F_z_15,Cl.row,ev_of4,hq,hA,invV,ev_fail,zrow])
  ·rw [ha] at hA
   rw [if_neg (by decide)]
   cases hc:cbad c
   ·rw [if_neg (by decide)]
    have hc2:=hc
    have hE:=fun hb hf=>effI4 nm sz ot s c hw hz ha hc2 hb hf
    unfold cbad at hc
    obtain ⟨tk,op,va,pr,nw⟩:=c
    simp only at hc
    by_cases h60:op=60
    ·subst h60
     have hb:blg 4 60=true:=by decide
     simp only [hb]
     rw [if_neg (by decide)]
     cases hv:(decide (va<1)||decide (sz<va))
     ·have hf:fit 4 sz ⟨tk,60,va,pr,nw⟩=true:=by
       simp at hv
       simp [fit,num]
       omega
      rw [hf,if_neg (by decide)]
      obtain ⟨s',h1,h2,h3⟩:=hE hb hf
      generalize raw 4 sz ot s.pl ⟨tk,60,va,pr,nw⟩=r at *
      simp only [S.row,Cl.row,hq] at h1
      cases he:r.2.2.2==0
      ·have he1:¬r.2.2.2=0:=by simpa using he
       have he2:(r.2.2.2 != 0)=true:=by simpa using he1
       rw [if_neg he1]
       exact Rel.fail _ (by simp [F_z_15,Cl.row,ev_of4,hq,hA,hc,hv,ev_ops4,invV,h1,he2,ev_fail,zrow,callD,reachC,cut,List.idxOf_cons])
      ·have he1:r.2.2.2=0:=by simpa using he
       rw [if_pos he1]
       refine ⟨s',?_,h2,h3⟩
       simp [F_z_15,Cl.row,ev_of4,hq,hA,hc,hv,ev_ops4,invV,h1,he1,zrow,callD,reachC,cut,List.idxOf_cons]
     ·have hf:fit 4 sz ⟨tk,60,va,pr,nw⟩=false:=by
       cases hh:fit 4 sz ⟨tk,60,va,pr,nw⟩
       ·rfl
       ·exfalso
        simp at hv
        simp [fit,num] at hh
        omega
      rw [hf,if_pos rfl]
      exact Rel.fail 2 (by simp [F_z_15,Cl.row,ev_of4,hq,hA,hc,hv,ev_ops4,invV,ev_fail,zrow,callD,reachC,cut,List.idxOf_cons])
    by_cases h61:op=61
    ·subst h61
     have hb:blg 4 61=true:=by decide
     simp only [hb]
     rw [if_neg (by decide)]
     cases hv:(decide (va<1)||decide (sz<va))
     ·have hf:fit 4 sz ⟨tk,61,va,pr,nw⟩=true:=by
       simp at hv
       simp [fit,num]
       omega
      rw [hf,if_neg (by decide)]
      obtain ⟨s',h1,h2,h3⟩:=hE hb hf
      generalize raw 4 sz ot s.pl ⟨tk,61,va,pr,nw⟩=r at *
      simp only [S.row,Cl.row,hq] at h1
      cases he:r.2.2.2==0
      ·have he1:¬r.2.2.2=0:=by simpa using he
       have he2:(r.2.2.2 != 0)=true:=by simpa using he1
       rw [if_neg he1]
       exact Rel.fail _ (by simp [F_z_15,Cl.row,ev_of4,hq,hA,hc,hv,ev_ops4,invV,h1,he2,ev_fail,zrow,callD,reachC,cut,List.idxOf_cons])
      ·have he1:r.2.2.2=0:=by simpa using he
       rw [if_pos he1]
       refine ⟨s',?_,h2,h3⟩
       simp [F_z_15,Cl.row,ev_of4,hq,hA,hc,hv,ev_ops4,invV,h1,he1,zrow,callD,reachC,cut,List.idxOf_cons]
     ·have hf:fit 4 sz ⟨tk,61,va,pr,nw⟩=false:=by
       cases hh:fit 4 sz ⟨tk,61,va,pr,nw⟩
       ·rfl
       ·exfalso
        simp at hv
        simp [fit,num] at hh
        omega
      rw [hf,if_pos rfl]
      exact Rel.fail 2 (by simp [F_z_15,Cl.row,ev_of4,hq,hA,hc,hv,ev_ops4,invV,ev_fail,zrow,callD,reachC,cut,List.idxOf_cons])
    by_cases h62:op=62
    ·subst h62
     have hb:blg 4 62=true:=by decide
     simp only [hb]
     rw [if_neg (by decide)]
     cases hv:(decide (va<1)||decide (sz<va))
     ·have hf:fit 4 sz ⟨tk,62,va,pr,nw⟩=true:=by
       simp at hv
       simp [fit,num]
       omega
      rw [hf,if_neg (by decide)]
      obtain ⟨s',h1,h2,h3⟩:=hE hb hf
      generalize raw 4 sz ot s.pl ⟨tk,62,va,pr,nw⟩=r at *
      simp only [S.row,Cl.row,hq] at h1
      cases he:r.2.2.2==0
      ·have he1:¬r.2.2.2=0:=by simpa using he
       have he2:(r.2.2.2 != 0)=true:=by simpa using he1
       rw [if_neg he1]
       exact Rel.fail _ (by simp [F_z_15,Cl.row,ev_of4,hq,hA,hc,hv,ev_ops4,invV,h1,he2,ev_fail,zrow,callD,reachC,cut,List.idxOf_cons])
      ·have he1:r.2.2.2=0:=by simpa using he
       rw [if_pos he1]
       refine ⟨s',?_,h2,h3⟩
       simp [F_z_15,Cl.row,ev_of4,hq,hA,hc,hv,ev_ops4,invV,h1,he1,zrow,callD,reachC,cut,List.idxOf_cons]
     ·have hf:fit 4 sz ⟨tk,62,va,pr,nw⟩=false:=by
       cases hh:fit 4 sz ⟨tk,62,va,pr,nw⟩
       ·rfl
       ·exfalso
        simp at hv
        simp [fit,num] at hh
        omega
      rw [hf,if_pos rfl]
      exact Rel.fail 2 (by simp [F_z_15,Cl.row,ev_of4,hq,hA,hc,hv,ev_ops4,invV,ev_fail,zrow,callD,reachC,cut,List.idxOf_cons])
    have hb:blg 4 op=false:=by
     cases hh:blg 4 op
     ·rfl
     ·exfalso
      simp [blg] at hh
      omega
    simp only [hb]
    rw [if_pos trivial]
    exact Rel.fail 8 (by simp [F_z_15,Cl.row,ev_of4,hq,hA,hc,ev_ops4,h60,h61,h62,invV,ev_fail,zrow,callD,reachC,cut,List.idxOf_cons])
   ·rw [if_pos rfl]
    unfold cbad at hc
    exact Rel.fail 2 (by simp [F_z_15,Cl.row,ev_of4,hq,hA,hc,invV,ev_fail,zrow])
 ·have ha:absB 4 sz ot s=false:=by
   cases hh:absB 4 sz ot s
   ·rfl
   ·exact absurd (abs_of hh).2.1 hq
  rw [ha,if_pos rfl]
  have hp:0<s.Q.length:=List.length_pos_iff.2 hq
  exact Rel.fail 1 (by simp [F_z_15,Cl.row,ev_of4,hp,ev_fail,zrow])
end Go.VS.Sp
namespace Go.VS.Sp
set_option maxHeartbeats 4000000 in
theorem ev_Effect5 (nm:D) (sz ot:Int) (s:S) (c:Cl) (hw:s.wf) (hz:s.sz) :
  Rel (ev P (.call z_15 [.d (.ag [nm,I' 5,I' sz,I' ot]),.d (.ag s.row),.d (.ag c.row)] [])) (effF 5 sz ot s.pl c):=by
 unfold effF
 rw [absB_pl]
 rw [ev_call P_z_15 rfl]
 by_cases hq:s.Q=[]
 ·have hA:=ev_abs5 nm sz ot s hq hz.sm
  simp only [S.row,hq] at hA
  cases ha:absB 5 sz ot s
  ·rw [ha] at hA
   rw [if_pos rfl]
   exact Rel.fail 1 (by simp [F_z_15,Cl.row,ev_of5,hq,hA,invV,ev_fail,zrow])
  ·rw [ha] at hA
   rw [if_neg (by decide)]
   cases hc:cbad c
   ·rw [if_neg (by decide)]
    have hc2:=hc
    have hE:=fun hb hf=>effI5 nm sz ot s c hw hz ha hc2 hb hf
    unfold cbad at hc
    obtain ⟨tk,op,va,pr,nw⟩:=c
    simp only at hc
    by_cases h63:op=63
    ·subst h63
     have hb:blg 5 63=true:=by decide
     simp only [hb]
     rw [if_neg (by decide)]
     have hf:fit 5 sz ⟨tk,63,va,pr,nw⟩=true:=by simp [fit]
     rw [hf,if_neg (by decide)]
     obtain ⟨s',h1,h2,h3⟩:=hE hb hf
     generalize raw 5 sz ot s.pl ⟨tk,63,va,pr,nw⟩=r at *
     simp only [S.row,Cl.row,hq] at h1
     cases he:r.2.2.2==0
     ·have he1:¬r.2.2.2=0:=by simpa using he
      have he2:(r.2.2.2 != 0)=true:=by simpa using he1
      rw [if_neg he1]
      exact Rel.fail _ (by simp [F_z_15,Cl.row,ev_of5,hq,hA,hc,ev_ops5,invV,h1,he2,ev_fail,zrow,callD,reachC,cut,List.idxOf_cons])
     ·have he1:r.2.2.2=0:=by simpa using he
      rw [if_pos he1]
      refine ⟨s',?_,h2,h3⟩
      simp [F_z_15,Cl.row,ev_of5,hq,hA,hc,ev_ops5,invV,h1,he1,zrow,callD,reachC,cut,List.idxOf_cons]
    have hb:blg 5 op=false:=by
     cases hh:blg 5 op
     ·rfl
     ·exfalso
      simp [blg] at hh
      omega
    simp only [hb]
    rw [if_pos trivial]
    exact Rel.fail 8 (by simp [F_z_15,Cl.row,ev_of5,hq,hA,hc,ev_ops5,h63,invV,ev_fail,zrow,callD,reachC,cut,List.idxOf_cons])
   ·rw [if_pos rfl]
    unfold cbad at hc
    exact Rel.fail 2 (by simp [F_z_15,Cl.row,ev_of5,hq,hA,hc,invV,ev_fail,zrow])
 ·have ha:absB 5 sz ot s=false:=by
   cases hh:absB 5 sz ot s
   ·rfl
   ·exact absurd (abs_of hh).2.1 hq
  rw [ha,if_pos rfl]
  have hp:0<s.Q.length:=List.length_pos_iff.2 hq
  exact Rel.fail 1 (by simp [F_z_15,Cl.row,ev_of5,hp,ev_fail,zrow])
end Go.VS.Sp
namespace Go.VS.Sp
set_option maxHeartbeats 4000000 in
theorem ev_Effect6 (nm:D) (sz ot:Int) (s:S) (c:Cl) (hw:s.wf) (hz:s.sz) :
  Rel (ev P (.call z_15 [.d (.ag [nm,I' 6,I' sz,I' ot]),.d (.ag s.row),.d (.ag c.row)] [])) (effF 6 sz ot s.pl c):=by
 unfold effF
 rw [absB_pl]
 rw [ev_call P_z_15 rfl]
 by_cases hq:s.Q=[]
 ·have hA:=ev_abs6 nm sz ot s hq hz.sm
  simp only [S.row,hq] at hA
  cases ha:absB 6 sz ot s
  ·rw [ha] at hA
   rw [if_pos rfl]
   exact Rel.fail 1 (by simp [F_z_15,Cl.row,ev_of6,hq,hA,invV,ev_fail,zrow])
  ·rw [ha] at hA
   rw [if_neg (by decide)]
   cases hc:cbad c
   ·rw [if_neg (by decide)]
    have hc2:=hc
    have hE:=fun hb hf=>effI6 nm sz ot s c hw hz ha hc2 hb hf
    unfold cbad at hc
    obtain ⟨tk,op,va,pr,nw⟩:=c
    simp only at hc
    by_cases h64:op=64
    ·subst h64
     have hb:blg 6 64=true:=by decide
     simp only [hb]
     rw [if_neg (by decide)]
     cases hv:(decide (va < -1099511627776)||decide (1099511627776<va))
     ·have hf:fit 6 sz ⟨tk,64,va,pr,nw⟩=true:=by
       simp at hv
       simp [fit,num]
       omega
      rw [hf,if_neg (by decide)]
      obtain ⟨s',h1,h2,h3⟩:=hE hb hf
      generalize raw 6 sz ot s.pl ⟨tk,64,va,pr,nw⟩=r at *
      simp only [S.row,Cl.row,hq] at h1
      cases he:r.2.2.2==0
      ·have he1:¬r.2.2.2=0:=by simpa using he
       have he2:(r.2.2.2 != 0)=true:=by simpa using he1
       rw [if_neg he1]
       exact Rel.fail _ (by simp [F_z_15,Cl.row,ev_of6,hq,hA,hc,hv,ev_ops6,invV,h1,he2,ev_fail,zrow,callD,reachC,cut,List.idxOf_cons])
      ·have he1:r.2.2.2=0:=by simpa using he
       rw [if_pos he1]
       refine ⟨s',?_,h2,h3⟩
       simp [F_z_15,Cl.row,ev_of6,hq,hA,hc,hv,ev_ops6,invV,h1,he1,zrow,callD,reachC,cut,List.idxOf_cons]
     ·have hf:fit 6 sz ⟨tk,64,va,pr,nw⟩=false:=by
       cases hh:fit 6 sz ⟨tk,64,va,pr,nw⟩
       ·rfl
       ·exfalso
        simp at hv
        simp [fit,num] at hh
        omega
      rw [hf,if_pos rfl]
      exact Rel.fail 2 (by simp [F_z_15,Cl.row,ev_of6,hq,hA,hc,hv,ev_ops6,invV,ev_fail,zrow,callD,reachC,cut,List.idxOf_cons])
    by_cases h65:op=65
    ·subst h65
     have hb:blg 6 65=true:=by decide
     simp only [hb]
     rw [if_neg (by decide)]
     have hf:fit 6 sz ⟨tk,65,va,pr,nw⟩=true:=by simp [fit]
     rw [hf,if_neg (by decide)]
     obtain ⟨s',h1,h2,h3⟩:=hE hb hf
     generalize raw 6 sz ot s.pl ⟨tk,65,va,pr,nw⟩=r at *
     simp only [S.row,Cl.row,hq] at h1
     cases he:r.2.2.2==0
     ·have he1:¬r.2.2.2=0:=by simpa using he
      have he2:(r.2.2.2 != 0)=true:=by simpa using he1
      rw [if_neg he1]
      exact Rel.fail _ (by simp [F_z_15,Cl.row,ev_of6,hq,hA,hc,ev_ops6,invV,h1,he2,ev_fail,zrow,callD,reachC,cut,List.idxOf_cons])
     ·have he1:r.2.2.2=0:=by simpa using he
      rw [if_pos he1]
      refine ⟨s',?_,h2,h3⟩
      simp [F_z_15,Cl.row,ev_of6,hq,hA,hc,ev_ops6,invV,h1,he1,zrow,callD,reachC,cut,List.idxOf_cons]
    by_cases h66:op=66
    ·subst h66
     have hb:blg 6 66=true:=by decide
     simp only [hb]
     rw [if_neg (by decide)]
     have hf:fit 6 sz ⟨tk,66,va,pr,nw⟩=true:=by simp [fit]
     rw [hf,if_neg (by decide)]
     obtain ⟨s',h1,h2,h3⟩:=hE hb hf
     generalize raw 6 sz ot s.pl ⟨tk,66,va,pr,nw⟩=r at *
     simp only [S.row,Cl.row,hq] at h1
     cases he:r.2.2.2==0
     ·have he1:¬r.2.2.2=0:=by simpa using he
      have he2:(r.2.2.2 != 0)=true:=by simpa using he1
      rw [if_neg he1]
      exact Rel.fail _ (by simp [F_z_15,Cl.row,ev_of6,hq,hA,hc,ev_ops6,invV,h1,he2,ev_fail,zrow,callD,reachC,cut,List.idxOf_cons])
     ·have he1:r.2.2.2=0:=by simpa using he
      rw [if_pos he1]
      refine ⟨s',?_,h2,h3⟩
      simp [F_z_15,Cl.row,ev_of6,hq,hA,hc,ev_ops6,invV,h1,he1,zrow,callD,reachC,cut,List.idxOf_cons]
    have hb:blg 6 op=false:=by
     cases hh:blg 6 op
     ·rfl
     ·exfalso
      simp [blg] at hh
      omega
    simp only [hb]
    rw [if_pos trivial]
    exact Rel.fail 8 (by simp [F_z_15,Cl.row,ev_of6,hq,hA,hc,ev_ops6,h64,h65,h66,invV,ev_fail,zrow,callD,reachC,cut,List.idxOf_cons])
   ·rw [if_pos rfl]
    unfold cbad at hc
    exact Rel.fail 2 (by simp [F_z_15,Cl.row,ev_of6,hq,hA,hc,invV,ev_fail,zrow])
 ·have ha:absB 6 sz ot s=false:=by
   cases hh:absB 6 sz ot s
   ·rfl
   ·exact absurd (abs_of hh).2.1 hq
  rw [ha,if_pos rfl]
  have hp:0<s.Q.length:=List.length_pos_iff.2 hq
  exact Rel.fail 1 (by simp [F_z_15,Cl.row,ev_of6,hp,ev_fail,zrow])
end Go.VS.Sp
namespace Go.VS.Sp
set_option maxHeartbeats 4000000 in
theorem ev_Effect7 (nm:D) (sz ot:Int) (s:S) (c:Cl) (hw:s.wf) (hz:s.sz) :
  Rel (ev P (.call z_15 [.d (.ag [nm,I' 7,I' sz,I' ot]),.d (.ag s.row),.d (.ag c.row)] [])) (effF 7 sz ot s.pl c):=by
 unfold effF
 rw [absB_pl]
 rw [ev_call P_z_15 rfl]
 by_cases hq:s.Q=[]
 ·have hA:=ev_abs7 nm sz ot s hq hz.sm
  simp only [S.row,hq] at hA
  cases ha:absB 7 sz ot s
  ·rw [ha] at hA
   rw [if_pos rfl]
   exact Rel.fail 1 (by simp [F_z_15,Cl.row,ev_of7,hq,hA,invV,ev_fail,zrow])
  ·rw [ha] at hA
   rw [if_neg (by decide)]
   cases hc:cbad c
   ·rw [if_neg (by decide)]
    have hc2:=hc
    have hE:=fun hb hf=>effI7 nm sz ot s c hw hz ha hc2 hb hf
    unfold cbad at hc
    obtain ⟨tk,op,va,pr,nw⟩:=c
    simp only at hc
    by_cases h68:op=68
    ·subst h68
     have hb:blg 7 68=true:=by decide
     simp only [hb]
     rw [if_neg (by decide)]
     cases hv:(decide (va < -1099511627776)||decide (1099511627776<va))
     ·have hf:fit 7 sz ⟨tk,68,va,pr,nw⟩=true:=by
       simp at hv
       simp [fit,num]
       omega
      rw [hf,if_neg (by decide)]
      obtain ⟨s',h1,h2,h3⟩:=hE hb hf
      generalize raw 7 sz ot s.pl ⟨tk,68,va,pr,nw⟩=r at *
      simp only [S.row,Cl.row,hq] at h1
      cases he:r.2.2.2==0
      ·have he1:¬r.2.2.2=0:=by simpa using he
       have he2:(r.2.2.2 != 0)=true:=by simpa using he1
       rw [if_neg he1]
       exact Rel.fail _ (by simp [F_z_15,Cl.row,ev_of7,hq,hA,hc,hv,ev_ops7,invV,h1,he2,ev_fail,zrow,callD,reachC,cut,List.idxOf_cons])
      ·have he1:r.2.2.2=0:=by simpa using he
       rw [if_pos he1]
       refine ⟨s',?_,h2,h3⟩
       simp [F_z_15,Cl.row,ev_of7,hq,hA,hc,hv,ev_ops7,invV,h1,he1,zrow,callD,reachC,cut,List.idxOf_cons]
     ·have hf:fit 7 sz ⟨tk,68,va,pr,nw⟩=false:=by
       cases hh:fit 7 sz ⟨tk,68,va,pr,nw⟩
       ·rfl
       ·exfalso
        simp at hv
        simp [fit,num] at hh
        omega
      rw [hf,if_pos rfl]
      exact Rel.fail 2 (by simp [F_z_15,Cl.row,ev_of7,hq,hA,hc,hv,ev_ops7,invV,ev_fail,zrow,callD,reachC,cut,List.idxOf_cons])
    by_cases h69:op=69
    ·subst h69
     have hb:blg 7 69=true:=by decide
     simp only [hb]
     rw [if_neg (by decide)]
     have hf:fit 7 sz ⟨tk,69,va,pr,nw⟩=true:=by simp [fit]
     rw [hf,if_neg (by decide)]
     obtain ⟨s',h1,h2,h3⟩:=hE hb hf
     generalize raw 7 sz ot s.pl ⟨tk,69,va,pr,nw⟩=r at *
     simp only [S.row,Cl.row,hq] at h1
     cases he:r.2.2.2==0
     ·have he1:¬r.2.2.2=0:=by simpa using he
      have he2:(r.2.2.2 != 0)=true:=by simpa using he1
      rw [if_neg he1]
      exact Rel.fail _ (by simp [F_z_15,Cl.row,ev_of7,hq,hA,hc,ev_ops7,invV,h1,he2,ev_fail,zrow,callD,reachC,cut,List.idxOf_cons])
     ·have he1:r.2.2.2=0:=by simpa using he
      rw [if_pos he1]
      refine ⟨s',?_,h2,h3⟩
      simp [F_z_15,Cl.row,ev_of7,hq,hA,hc,ev_ops7,invV,h1,he1,zrow,callD,reachC,cut,List.idxOf_cons]
    by_cases h70:op=70
    ·subst h70
     have hb:blg 7 70=true:=by decide
     simp only [hb]
     rw [if_neg (by decide)]
     have hf:fit 7 sz ⟨tk,70,va,pr,nw⟩=true:=by simp [fit]
     rw [hf,if_neg (by decide)]
     obtain ⟨s',h1,h2,h3⟩:=hE hb hf
     generalize raw 7 sz ot s.pl ⟨tk,70,va,pr,nw⟩=r at *
     simp only [S.row,Cl.row,hq] at h1
     cases he:r.2.2.2==0
     ·have he1:¬r.2.2.2=0:=by simpa using he
      have he2:(r.2.2.2 != 0)=true:=by simpa using he1
      rw [if_neg he1]
      exact Rel.fail _ (by simp [F_z_15,Cl.row,ev_of7,hq,hA,hc,ev_ops7,invV,h1,he2,ev_fail,zrow,callD,reachC,cut,List.idxOf_cons])
     ·have he1:r.2.2.2=0:=by simpa using he
      rw [if_pos he1]
      refine ⟨s',?_,h2,h3⟩
      simp [F_z_15,Cl.row,ev_of7,hq,hA,hc,ev_ops7,invV,h1,he1,zrow,callD,reachC,cut,List.idxOf_cons]
    by_cases h71:op=71
    ·subst h71
     have hb:blg 7 71=true:=by decide
     simp only [hb]
     rw [if_neg (by decide)]
     have hf:fit 7 sz ⟨tk,71,va,pr,nw⟩=true:=by simp [fit]
     rw [hf,if_neg (by decide)]
     obtain ⟨s',h1,h2,h3⟩:=hE hb hf
     generalize raw 7 sz ot s.pl ⟨tk,71,va,pr,nw⟩=r at *
     simp only [S.row,Cl.row,hq] at h1
     cases he:r.2.2.2==0
     ·have he1:¬r.2.2.2=0:=by simpa using he
      have he2:(r.2.2.2 != 0)=true:=by simpa using he1
      rw [if_neg he1]
      exact Rel.fail _ (by simp [F_z_15,Cl.row,ev_of7,hq,hA,hc,ev_ops7,invV,h1,he2,ev_fail,zrow,callD,reachC,cut,List.idxOf_cons])
     ·have he1:r.2.2.2=0:=by simpa using he
      rw [if_pos he1]
      refine ⟨s',?_,h2,h3⟩
      simp [F_z_15,Cl.row,ev_of7,hq,hA,hc,ev_ops7,invV,h1,he1,zrow,callD,reachC,cut,List.idxOf_cons]
    have hb:blg 7 op=false:=by
     cases hh:blg 7 op
     ·rfl
     ·exfalso
      simp [blg] at hh
      omega
    simp only [hb]
    rw [if_pos trivial]
    exact Rel.fail 8 (by simp [F_z_15,Cl.row,ev_of7,hq,hA,hc,ev_ops7,h68,h69,h70,h71,invV,ev_fail,zrow,callD,reachC,cut,List.idxOf_cons])
   ·rw [if_pos rfl]
    unfold cbad at hc
    exact Rel.fail 2 (by simp [F_z_15,Cl.row,ev_of7,hq,hA,hc,invV,ev_fail,zrow])
 ·have ha:absB 7 sz ot s=false:=by
   cases hh:absB 7 sz ot s
   ·rfl
   ·exact absurd (abs_of hh).2.1 hq
  rw [ha,if_pos rfl]
  have hp:0<s.Q.length:=List.length_pos_iff.2 hq
  exact Rel.fail 1 (by simp [F_z_15,Cl.row,ev_of7,hp,ev_fail,zrow])
end Go.VS.Sp
namespace Go.VS.Sp
set_option maxHeartbeats 4000000 in
theorem ev_Effect8 (nm:D) (sz ot:Int) (s:S) (c:Cl) (hw:s.wf) (hz:s.sz) :
  Rel (ev P (.call z_15 [.d (.ag [nm,I' 8,I' sz,I' ot]),.d (.ag s.row),.d (.ag c.row)] [])) (effF 8 sz ot s.pl c):=by
 unfold effF
 rw [absB_pl]
 rw [ev_call P_z_15 rfl]
 by_cases hq:s.Q=[]
 ·have hA:=ev_abs8 nm sz ot s hq hz.sm
  simp only [S.row,hq] at hA
  cases ha:absB 8 sz ot s
  ·rw [ha] at hA
   rw [if_pos rfl]
   exact Rel.fail 1 (by simp [F_z_15,Cl.row,ev_of8,hq,hA,invV,ev_fail,zrow])
  ·rw [ha] at hA
   rw [if_neg (by decide)]
   cases hc:cbad c
   ·rw [if_neg (by decide)]
    have hc2:=hc
    have hE:=fun hb hf=>effI8 nm sz ot s c hw hz ha hc2 hb hf
    unfold cbad at hc
    obtain ⟨tk,op,va,pr,nw⟩:=c
    simp only at hc
    by_cases h72:op=72
    ·subst h72
     have hb:blg 8 72=true:=by decide
     simp only [hb]
     rw [if_neg (by decide)]
     cases hv:(decide (va<1)||decide (sz<va))
     ·have hf:fit 8 sz ⟨tk,72,va,pr,nw⟩=true:=by
       simp at hv
       simp [fit,num]
       omega
      rw [hf,if_neg (by decide)]
      obtain ⟨s',h1,h2,h3⟩:=hE hb hf
      generalize raw 8 sz ot s.pl ⟨tk,72,va,pr,nw⟩=r at *
      simp only [S.row,Cl.row,hq] at h1
      cases he:r.2.2.2==0
      ·have he1:¬r.2.2.2=0:=by simpa using he
       have he2:(r.2.2.2 != 0)=true:=by simpa using he1
       rw [if_neg he1]
       exact Rel.fail _ (by simp [F_z_15,Cl.row,ev_of8,hq,hA,hc,hv,ev_ops8,invV,h1,he2,ev_fail,zrow,callD,reachC,cut,List.idxOf_cons])
      ·have he1:r.2.2.2=0:=by simpa using he
       rw [if_pos he1]
       refine ⟨s',?_,h2,h3⟩
       simp [F_z_15,Cl.row,ev_of8,hq,hA,hc,hv,ev_ops8,invV,h1,he1,zrow,callD,reachC,cut,List.idxOf_cons]
     ·have hf:fit 8 sz ⟨tk,72,va,pr,nw⟩=false:=by
       cases hh:fit 8 sz ⟨tk,72,va,pr,nw⟩
       ·rfl
       ·exfalso
        simp at hv
        simp [fit,num] at hh
        omega
      rw [hf,if_pos rfl]
      exact Rel.fail 2 (by simp [F_z_15,Cl.row,ev_of8,hq,hA,hc,hv,ev_ops8,invV,ev_fail,zrow,callD,reachC,cut,List.idxOf_cons])
    by_cases h75:op=75
    ·subst h75
     have hb:blg 8 75=true:=by decide
     simp only [hb]
     rw [if_neg (by decide)]
     have hf:fit 8 sz ⟨tk,75,va,pr,nw⟩=true:=by simp [fit]
     rw [hf,if_neg (by decide)]
     obtain ⟨s',h1,h2,h3⟩:=hE hb hf
     generalize raw 8 sz ot s.pl ⟨tk,75,va,pr,nw⟩=r at *
     simp only [S.row,Cl.row,hq] at h1
     cases he:r.2.2.2==0
     ·have he1:¬r.2.2.2=0:=by simpa using he
      have he2:(r.2.2.2 != 0)=true:=by simpa using he1
      rw [if_neg he1]
      exact Rel.fail _ (by simp [F_z_15,Cl.row,ev_of8,hq,hA,hc,ev_ops8,invV,h1,he2,ev_fail,zrow,callD,reachC,cut,List.idxOf_cons])
     ·have he1:r.2.2.2=0:=by simpa using he
      rw [if_pos he1]
      refine ⟨s',?_,h2,h3⟩
      simp [F_z_15,Cl.row,ev_of8,hq,hA,hc,ev_ops8,invV,h1,he1,zrow,callD,reachC,cut,List.idxOf_cons]
    have hb:blg 8 op=false:=by
     cases hh:blg 8 op
     ·rfl
     ·exfalso
      simp [blg] at hh
      omega
    simp only [hb]
    rw [if_pos trivial]
    exact Rel.fail 8 (by simp [F_z_15,Cl.row,ev_of8,hq,hA,hc,ev_ops8,h72,h75,invV,ev_fail,zrow,callD,reachC,cut,List.idxOf_cons])
   ·rw [if_pos rfl]
    unfold cbad at hc
    exact Rel.fail 2 (by simp [F_z_15,Cl.row,ev_of8,hq,hA,hc,invV,ev_fail,zrow])
 ·have ha:absB 8 sz ot s=false:=by
   cases hh:absB 8 sz ot s
   ·rfl
   ·exact absurd (abs_of hh).2.1 hq
  rw [ha,if_pos rfl]
  have hp:0<s.Q.length:=List.length_pos_iff.2 hq
  exact Rel.fail 1 (by simp [F_z_15,Cl.row,ev_of8,hp,ev_fail,zrow])
end Go.VS.Sp
namespace Go.VS.Sp
set_option maxHeartbeats 4000000 in
theorem ev_Effect9 (nm:D) (sz ot:Int) (s:S) (c:Cl) (hw:s.wf) (hz:s.sz) :
  Rel (ev P (.call z_15 [.d (.ag [nm,I' 9,I' sz,I' ot]),.d (.ag s.row),.d (.ag c.row)] [])) (effF 9 sz ot s.pl c):=by
 unfold effF
 rw [absB_pl]
 rw [ev_call P_z_15 rfl]
 by_cases hq:s.Q=[]
 ·have hA:=ev_abs9 nm sz ot s hq hz.sm
  simp only [S.row,hq] at hA
  cases ha:absB 9 sz ot s
  ·rw [ha] at hA
   rw [if_pos rfl]
   exact Rel.fail 1 (by simp [F_z_15,Cl.row,ev_of9,hq,hA,invV,ev_fail,zrow])
  ·rw [ha] at hA
   rw [if_neg (by decide)]
   cases hc:cbad c
   ·rw [if_neg (by decide)]
    have hc2:=hc
    have hE:=fun hb hf=>effI9 nm sz ot s c hw hz ha hc2 hb hf
    unfold cbad at hc
    obtain ⟨tk,op,va,pr,nw⟩:=c
    simp only at hc
    by_cases h73:op=73
    ·subst h73
     have hb:blg 9 73=true:=by decide
     simp only [hb]
     rw [if_neg (by decide)]
     cases hv:(decide (va < -1099511627776)||decide (1099511627776<va))
     ·have hf:fit 9 sz ⟨tk,73,va,pr,nw⟩=true:=by
       simp at hv
       simp [fit,num]
       omega
      rw [hf,if_neg (by decide)]
      obtain ⟨s',h1,h2,h3⟩:=hE hb hf
      generalize raw 9 sz ot s.pl ⟨tk,73,va,pr,nw⟩=r at *
      simp only [S.row,Cl.row,hq] at h1
      cases he:r.2.2.2==0
      ·have he1:¬r.2.2.2=0:=by simpa using he
       have he2:(r.2.2.2 != 0)=true:=by simpa using he1
       rw [if_neg he1]
       exact Rel.fail _ (by simp [F_z_15,Cl.row,ev_of9,hq,hA,hc,hv,ev_ops9,invV,h1,he2,ev_fail,zrow,callD,reachC,cut,List.idxOf_cons])
      ·have he1:r.2.2.2=0:=by simpa using he
       rw [if_pos he1]
       refine ⟨s',?_,h2,h3⟩
       simp [F_z_15,Cl.row,ev_of9,hq,hA,hc,hv,ev_ops9,invV,h1,he1,zrow,callD,reachC,cut,List.idxOf_cons]
     ·have hf:fit 9 sz ⟨tk,73,va,pr,nw⟩=false:=by
       cases hh:fit 9 sz ⟨tk,73,va,pr,nw⟩
       ·rfl
       ·exfalso
        simp at hv
        simp [fit,num] at hh
        omega
      rw [hf,if_pos rfl]
      exact Rel.fail 2 (by simp [F_z_15,Cl.row,ev_of9,hq,hA,hc,hv,ev_ops9,invV,ev_fail,zrow,callD,reachC,cut,List.idxOf_cons])
    by_cases h74:op=74
    ·subst h74
     have hb:blg 9 74=true:=by decide
     simp only [hb]
     rw [if_neg (by decide)]
     have hf:fit 9 sz ⟨tk,74,va,pr,nw⟩=true:=by simp [fit]
     rw [hf,if_neg (by decide)]
     obtain ⟨s',h1,h2,h3⟩:=hE hb hf
     generalize raw 9 sz ot s.pl ⟨tk,74,va,pr,nw⟩=r at *
     simp only [S.row,Cl.row,hq] at h1
     cases he:r.2.2.2==0
     ·have he1:¬r.2.2.2=0:=by simpa using he
      have he2:(r.2.2.2 != 0)=true:=by simpa using he1
      rw [if_neg he1]
      exact Rel.fail _ (by simp [F_z_15,Cl.row,ev_of9,hq,hA,hc,ev_ops9,invV,h1,he2,ev_fail,zrow,callD,reachC,cut,List.idxOf_cons])
     ·have he1:r.2.2.2=0:=by simpa using he
      rw [if_pos he1]
      refine ⟨s',?_,h2,h3⟩
      simp [F_z_15,Cl.row,ev_of9,hq,hA,hc,ev_ops9,invV,h1,he1,zrow,callD,reachC,cut,List.idxOf_cons]
    have hb:blg 9 op=false:=by
     cases hh:blg 9 op
     ·rfl
     ·exfalso
      simp [blg] at hh
      omega
    simp only [hb]
    rw [if_pos trivial]
    exact Rel.fail 8 (by simp [F_z_15,Cl.row,ev_of9,hq,hA,hc,ev_ops9,h73,h74,invV,ev_fail,zrow,callD,reachC,cut,List.idxOf_cons])
   ·rw [if_pos rfl]
    unfold cbad at hc
    exact Rel.fail 2 (by simp [F_z_15,Cl.row,ev_of9,hq,hA,hc,invV,ev_fail,zrow])
 ·have ha:absB 9 sz ot s=false:=by
   cases hh:absB 9 sz ot s
   ·rfl
   ·exact absurd (abs_of hh).2.1 hq
  rw [ha,if_pos rfl]
  have hp:0<s.Q.length:=List.length_pos_iff.2 hq
  exact Rel.fail 1 (by simp [F_z_15,Cl.row,ev_of9,hp,ev_fail,zrow])
end Go.VS.Sp
namespace Go.VS.Sp
theorem pres1 {s:S} {c:Cl} (h:okM s=true) (ht:isTask c.task=true):okM (eM s c).1=true:=by
 have hm:∀x,(x = -1∨isTask x=true)→okM { s with own:=x }=true:=by
  intro x hx
  unfold okM at h ⊢
  simp only at h ⊢
  rw [Bool.and_eq_true] at h ⊢
  refine ⟨?_,h.2⟩
  rcases hx with h1 | h1<;>simp [h1]
 unfold eM
 repeat' split
 all_goals first | exact h | exact hm _ (.inl rfl) | exact hm _ (.inr ht)
def restW (s:S):Prop:=s.cnt=0∧s.time=0∧s.B=[]∧s.C=[]∧s.cl=false∧s.val=0
theorem okW_iff {s:S}:okW s=true↔SAsc s.H∧(∀x∈s.H,isTask x=true)∧(s.own = -1∨(isTask s.own=true∧s.H=[]))∧restW s:=by
 unfold okW restW
 rw [Bool.and_eq_true,okH_iff]
 have e:(!okWb s)=true↔(s.own = -1∨(isTask s.own=true∧s.H=[]))∧s.cnt=0∧s.time=0∧s.B=[]∧s.C=[]∧s.cl=false∧s.val=0:=by
  unfold okWb
  rw [len1,len1,len1]
  simp
  grind
 rw [e]
 simp
 grind
theorem pres2 {s:S} {c:Cl} (h:okW s=true) (ht:isTask c.task=true) (he:(eW s c).2.2.2=0):okW (eW s c).1=true:=by
 obtain ⟨h1,h2,h3,h4⟩:=okW_iff.1 h
 unfold eW at he ⊢
 by_cases a1:(c.op==54)=true
 ·rw [if_pos a1] at he ⊢
  by_cases a2:decide (c.task∈s.H)=true
  ·rw [if_pos a2] at he ⊢
   have a3:c.task∈s.H:=by simpa using a2
   refine okW_iff.2 ⟨List.Pairwise.sublist List.filter_sublist h1,fun x hx=>h2 x (List.mem_filter.1 hx).1,?_,h4⟩
   rcases h3 with h | h
   ·exact .inl h
   ·rw [h.2] at a3;simp at a3
  ·rw [if_neg a2] at he;simp [er] at he
 ·rw [if_neg a1] at he ⊢
  by_cases b1:(c.op==56)=true
  ·rw [if_pos b1] at he ⊢
   by_cases b2:(s.own==c.task)=true
   ·rw [if_pos b2]
    exact okW_iff.2 ⟨h1,h2,.inl rfl,h4⟩
   ·rw [if_neg b2] at he;simp [er] at he
  ·rw [if_neg b1] at he ⊢
   by_cases b3:(decide (c.task∈s.H)||s.own==c.task)=true
   ·rw [if_pos b3] at he;simp [er] at he
   ·rw [if_neg b3] at he ⊢
    by_cases b4:(!(s.own == -1)||(c.op==55&&decide (0<s.H.length)))=true
    ·rw [if_pos b4] at he;simp [er] at he
    ·rw [if_neg b4] at he ⊢
     have c1:s.own = -1:=by
      simp at b4
      exact b4.1
     have c2:c.task∉s.H:=by
      simp at b3
      exact b3.1
     by_cases b5:(c.op==55)=true
     ·rw [if_pos b5]
      have c3:s.H=[]:=by
       rw [b5] at b4
       simp at b4
       exact b4.2
      exact okW_iff.2 ⟨h1,h2,.inr ⟨ht,c3⟩,h4⟩
     ·rw [if_neg b5]
      refine okW_iff.2 ⟨ins_asc h1 c2,?_,.inl c1,h4⟩
      intro x hx
      rcases mem_ins.1 hx with e | e
      ·rw [e];exact ht
      ·exact h2 x e
theorem pres4 {sz:Int} {s:S} {c:Cl} (h:okS sz s=true) (hc:1≤c.value∧c.value≤sz):okS sz (eS sz s c).1=true:=by
 have hb:=okS_bd h
 have hm:∀x,0≤x→x≤sz→okS sz { s with cnt:=x }=true:=by
  intro x h1 h2
  unfold okS at h ⊢
  simp only at h ⊢
  rw [Bool.and_eq_true] at h ⊢
  refine ⟨?_,h.2⟩
  have:=h.1
  simp at this ⊢
  omega
 unfold eS
 by_cases a1:(c.op==62)=true
 ·rw [if_pos a1]
  by_cases a2:decide (sz<s.cnt+c.value)=true
  ·rw [if_pos a2];exact h
  ·rw [if_neg a2]
   simp at a2
   exact hm _ (by omega) (by omega)
 ·rw [if_neg a1]
  by_cases a2:decide (c.value≤s.cnt)=true
  ·rw [if_pos a2]
   simp at a2
   exact hm _ (by omega) (by omega)
  ·rw [if_neg a2]
   split<;>exact h
theorem pres5 {sz:Int} {s:S} (h:okB { s with val:=0 }=true) (hv:0≤s.val∧s.val<sz) (he:(eB sz s).2.2.2=0):okB { (eB sz s).1 with val:=0 }=true∧0≤(eB sz s).1.val∧(eB sz s).1.val<sz:=by
 unfold eB at he ⊢
 by_cases a1:(s.val+1==sz)=true
 ·rw [if_pos a1] at he ⊢
  by_cases a2:(s.cnt==1099511627776)=true
  ·rw [if_pos a2] at he;simp [er] at he
  ·rw [if_neg a2]
   refine ⟨?_,by simp,by simp;omega⟩
   unfold okB at h ⊢
   simp only at h ⊢
   rw [Bool.and_eq_true] at h ⊢
   refine ⟨?_,h.2⟩
   have:=h.1
   simp at this a2 ⊢
   omega
 ·rw [if_neg a1]
  simp at a1
  exact ⟨h,by simp;omega,by simp;omega⟩
theorem okC_iff {rm:Int} {s:S}:okC rm s=true↔(s.own = -1∧s.cnt=0∧s.time=0∧s.val=0∧s.H=[]∧s.C=[])∧(s.B.length:Int)≤rm∧∀x∈s.B,num x=true:=by
 unfold okC okCb
 rw [len2]
 simp
 grind
theorem pres6 {rm:Int} {s:S} {c:Cl} (h:okC rm s=true) (hc:c.op=64→num c.value=true):okC rm (eC rm s c).1=true:=by
 obtain ⟨h1,h2,h3⟩:=okC_iff.1 h
 unfold eC
 by_cases a1:(c.op==64)=true
 ·rw [if_pos a1]
  by_cases a2:s.cl=true
  ·rw [if_pos a2];exact h
  ·rw [if_neg a2]
   by_cases a3:decide (rm≤s.B.length)=true
   ·rw [if_pos a3];exact h
   ·rw [if_neg a3]
    simp at a1 a3
    refine okC_iff.2 ⟨h1,by simp [gd];omega,?_⟩
    intro x hx
    rcases List.mem_append.1 hx with e | e
    ·exact h3 x e
    ·rw [List.mem_singleton.1 e];exact hc a1
 ·rw [if_neg a1]
  by_cases a2:(c.op==65)=true
  ·rw [if_pos a2]
   cases hB:s.B with
   | nil=>simp only;split<;>exact h
   | cons b r =>
    rw [hB] at h2 h3
    refine okC_iff.2 ⟨h1,by simp at h2 ⊢;omega,fun x hx=>h3 x (List.mem_cons_of_mem _ hx)⟩
  ·rw [if_neg a2]
   split
   ·exact h
   ·exact okC_iff.2 ⟨h1,h2,h3⟩
theorem pres8 {sz ot:Int} {s:S} {c:Cl} (h:okL sz s=true) (hz:1≤sz) (ho:1≤ot) (hn:0≤c.now∧c.now≤1099511627776) (hc:c.op=72→1≤c.value):okL sz (eL sz ot s c).1=true:=by
 have hb:=okL_bd h
 have hm:∀x y,0≤x→x≤sz→0≤y→y≤1099511627776→okL sz { s with cnt:=x,time:=y }=true:=by
  intro x y h1 h2 h3 h4
  unfold okL at h ⊢
  simp only at h ⊢
  rw [Bool.and_eq_true] at h ⊢
  refine ⟨?_,h.2⟩
  have:=h.1
  simp at this ⊢
  omega
 unfold eL
 by_cases a0:decide (c.now<s.time)=true
 ·rw [if_pos a0];exact h
 ·rw [if_neg a0]
  simp at a0
  obtain ⟨k0,k1,k2⟩:=div_bd (a:=c.now - s.time) (b:=ot) (by omega) ho
  have hq0:0≤(c.now - s.time) / ot*ot:=Int.mul_nonneg k0 (by omega)
  have hr:∃x y,rfS sz ot c.now s={ s with cnt:=x,time:=y }∧0≤x∧x≤sz∧0≤y∧y≤1099511627776:=by
   unfold rfS
   by_cases a1:decide (sz≤s.cnt+(c.now - s.time) / ot)=true
   ·rw [if_pos a1]
    exact ⟨_,_,rfl,by omega,by omega,by omega,by omega⟩
   ·rw [if_neg a1]
    simp at a1
    exact ⟨_,_,rfl,by omega,by omega,by omega,by omega⟩
  obtain ⟨x,y,hr,r1,r2,r3,r4⟩:=hr
  rw [hr]
  by_cases a1:(c.op==72)=true
  ·rw [if_pos a1]
   have hv:=hc (by simpa using a1)
   by_cases a2:decide (x<c.value)=true
   ·rw [if_pos a2];exact hm x y r1 r2 r3 r4
   ·rw [if_neg a2]
    simp at a2
    exact hm (x - c.value) y (by omega) (by omega) r3 r4
  ·rw [if_neg a1]
   exact hm x y r1 r2 r3 r4
theorem pres9 {s:S} {c:Cl} (h:okF s=true) (hc:c.op≠74→num c.value=true):okF (eF s c).1=true:=by
 unfold eF
 by_cases a1:(c.op==74)=true
 ·rw [if_pos a1]
  split<;>exact h
 ·rw [if_neg a1]
  split
  ·exact h
  ·simp at a1
   have hv:=hc a1
   unfold okF okFp at h ⊢
   simp [gd] at h ⊢
   simp [h,hv]
theorem good_iff {rm:Int} {s:S} (hq:s.Q=[]):S.good rm s=true↔s.own = -1∧vc rm none s.C=true∧s.fl0=false:=by
 unfold S.good
 rw [hq]
 have h1:wchk []=0:=by decide
 rw [h1]
 simp [tq]
 grind
theorem vc_i {rm:Int} {C:List K} (h1:SAsc (C.map K.task)) (h2:∀x∈C,isTask x.task=true∧¬rm<x.log.length∧x.log.all num=true):vc rm none C=true :=
 (vc_iff rm C none).2 ⟨by simp,h1,h2⟩
theorem pres7 {rm:Int} {s:S} {c:Cl} (hq:s.Q=[]) (h:S.good rm s=true) (ht:isTask c.task=true) (hr:1≤rm) (hc:c.op≠69→c.op≠71→c.op≠70→num c.value=true) :
  S.good rm (eT rm s c).1=true:=by
 obtain ⟨g1,g2,g3⟩:=(good_iff hq).1 h
 obtain ⟨_,v1,v2⟩:=(vc_iff rm s.C none).1 g2
 have hm:∀C',SAsc (C'.map K.task)→(∀x∈C',isTask x.task=true∧¬rm<x.log.length∧x.log.all num=true)→S.good rm { s with C:=C' }=true :=
  fun C' k1 k2=>(good_iff (s:={ s with C:=C' }) hq).2 ⟨g1,vc_i k1 k2,g3⟩
 unfold eT
 by_cases a1:(c.op==69)=true
 ·rw [if_pos a1]
  by_cases a2:isK s c.task=true
  ·rw [if_pos a2];exact h
  ·rw [if_neg a2]
   refine hm _ ?_ ?_
   ·have e:(s.C.take (bK s c.task)++(⟨c.task,false,[]⟩:K)::s.C.drop (bK s c.task)).map K.task=insI c.task (tsk s):=by
     unfold insI
     simp [tsk,bK,List.map_take,List.map_drop]
    rw [e]
    refine ins_asc v1 fun hin=>a2 ?_
    unfold isK
    have:=(mem_bI v1).2 hin
    unfold bK
    exact decide_eq_true this
   ·intro x hx
    rcases List.mem_append.1 hx with hx | hx
    ·exact v2 x (List.mem_of_mem_take hx)
    ·rcases List.mem_cons.1 hx with hx | hx
     ·rw [hx]
      refine ⟨ht,by simp;omega,by simp⟩
     ·exact v2 x (List.mem_of_mem_drop hx)
 ·rw [if_neg a1]
  by_cases a2:(c.op==71)=true
  ·rw [if_pos a2]
   by_cases a3:isK s c.task=true
   ·rw [if_pos a3]
    obtain ⟨A,kk,B,f1,f2,f3⟩:=isK_split s c.task a3
    have e:s.C.take (bK s c.task)++s.C.drop (bK s c.task+1)=A++B:=by
     rw [f2,f1]
     have d1:List.drop (A.length+1) (A++kk::B)=B:=by
      have:A++kk::B=(A++[kk])++B:=by simp
      rw [this]
      exact List.drop_left' (by simp)
     rw [d1,List.take_left]
    rw [e]
    refine hm _ ?_ ?_
    ·refine List.Pairwise.sublist ?_ v1
     rw [f1]
     exact List.Sublist.map _ (List.Sublist.append (List.Sublist.refl A) (List.sublist_cons_self kk B))
    ·intro x hx
     refine v2 x ?_
     rw [f1]
     rcases List.mem_append.1 hx with h | h
     ·exact List.mem_append_left _ h
     ·exact List.mem_append_right _ (List.mem_cons_of_mem _ h)
   ·rw [if_neg a3];exact h
  ·rw [if_neg a2]
   by_cases a4:(c.op==70)=true
   ·rw [if_pos a4]
    by_cases a3:isK s c.task=true
    ·rw [if_pos a3]
     obtain ⟨A,⟨kt,kn,kl⟩,B,f1,f2,f3⟩:=isK_split s c.task a3
     simp only at f3
     have hg:s.C[bK s c.task]?=some ⟨kt,kn,kl⟩:=by rw [f2,f1];simp
     rw [hg]
     cases kl with
     | nil=>exact h
     | cons b r =>
      have e:s.C.set (bK s c.task) ⟨c.task,false,r⟩=A++⟨c.task,false,r⟩::B:=by rw [f2,f1];simp
      show S.good rm { s with C:=s.C.set (bK s c.task) ⟨c.task,false,r⟩ }=true
      rw [e]
      have hk:=v2 ⟨kt,kn,b::r⟩ (by rw [f1];simp)
      refine hm _ ?_ ?_
      ·have e2:(A++(⟨c.task,false,r⟩:K)::B).map K.task=s.C.map K.task:=by rw [f1];simp [f3]
       rw [e2];exact v1
      ·intro x hx
       rcases List.mem_append.1 hx with h | h
       ·exact v2 x (by rw [f1];exact List.mem_append_left _ h)
       ·rcases List.mem_cons.1 h with h | h
        ·rw [h]
         obtain ⟨_,k2,k3⟩:=hk
         simp only [List.length_cons,List.all_cons,Bool.and_eq_true] at k2 k3
         exact ⟨ht,by simp only;omega,k3.2⟩
        ·exact v2 x (by rw [f1];exact List.mem_append_right _ (List.mem_cons_of_mem _ h))
    ·rw [if_neg a3];exact h
   ·rw [if_neg a4]
    by_cases a5:(s.C.any fun x=>decide (rm≤x.log.length))=true
    ·rw [if_pos a5];exact h
    ·rw [if_neg a5]
     have hv:=hc (by simpa using a1) (by simpa using a2) (by simpa using a4)
     refine hm _ ?_ ?_
     ·have e2:(s.C.map fun x=>(⟨x.task,false,x.log++[c.value]⟩:K)).map K.task=s.C.map K.task:=by
       rw [List.map_map];rfl
      rw [e2];exact v1
     ·intro x hx
      obtain ⟨w,hw,rfl⟩:=List.mem_map.1 hx
      obtain ⟨k1,k2,k3⟩:=v2 w hw
      have h5:¬rm≤(w.log.length:Int):=by
       intro hh
       exact a5 (List.any_eq_true.2 ⟨w,hw,decide_eq_true hh⟩)
      refine ⟨k1,by simp;omega,?_⟩
      simp [List.all_append,hv] at k3 ⊢
      exact k3
theorem ck_i {n:Int} {b:Bool} (h:n=0) (hb:b=true):ck n b=0:=by unfold ck;rw [if_pos h,hb];rfl
theorem raw_Q (k sz ot:Int) (s:S) (c:Cl):(raw k sz ot s c).1.Q=s.Q:=by
 unfold raw
 repeat' split
 ·unfold eM;repeat' split
  all_goals rfl
 ·unfold eW;repeat' split
  all_goals rfl
 ·unfold eS;repeat' split
  all_goals rfl
 ·unfold eB;repeat' split
  all_goals rfl
 ·unfold eC;repeat' split
  all_goals rfl
 ·unfold eT;repeat' split
  all_goals rfl
 ·unfold eL rfS;repeat' split
  all_goals rfl
 ·unfold eF;repeat' split
  all_goals rfl
theorem rmz_ge (sz:Int):1≤rmz sz:=by unfold rmz;split<;>omega
theorem abs_i {k sz ot:Int} {s:S} (h1:newO k sz ot=0) (h2:s.Q=[]) (h3:k=5→0≤s.val∧s.val<sz) (h4:ckO k (szO k sz) ot (vzO k s)=0):absB k sz ot s=true:=by
 unfold absB
 rw [h1,h2,h4]
 by_cases h5:k=5
 ·have:=h3 h5
  simp [h5]
  omega
 ·simp [h5]
theorem pres {k sz ot:Int} {s:S} {c:Cl} (ha:absB k sz ot s=true) (hc:cbad c=false) (hb:blg k c.op=true) (hf:fit k sz c=true) (he:(raw k sz ot s c).2.2.2=0) :
  absB k sz ot (raw k sz ot s c).1=true:=by
 obtain ⟨n1,n2,n3,n4⟩:=abs_of ha
 obtain ⟨ht,hn⟩:=cbad_bd hc
 have hQ:=raw_Q k sz ot s c
 rw [n2] at hQ
 rcases absB_known ha with h | h | h | h | h | h | h | h<;>subst h
 ·exact abs_i n1 hQ (by simp) (by
   have:=pres1 (c:=c) (abs1 ha) ht
   exact ck_i (ck_nw (by simpa [ckO,szO,vzO] using n4)) this)
 ·exact abs_i n1 hQ (by simp) (by
   have:=pres2 (c:=c) (abs2 ha) ht he
   exact ck_i (ck_nw (by simpa [ckO,szO,vzO] using n4)) this)
 ·exact abs_i n1 hQ (by simp) (by
   have h5:1≤c.value∧c.value≤sz:=by simpa [fit] using hf
   have:=pres4 (c:=c) (abs4 ha).2 h5
   exact ck_i (abs4 ha).1 this)
 ·obtain ⟨h1,h2,h3,h4⟩:=abs5 ha
  have:=pres5 h2 ⟨h3,h4⟩ he
  exact abs_i n1 hQ (fun _=>this.2) (by exact ck_i h1 this.1)
 ·obtain ⟨h1,h2⟩:=abs6 ha
  have h3:c.op=64→num c.value=true:=by
   intro h
   simpa [fit,h] using hf
  have:=pres6 h2 h3
  refine abs_i n1 hQ (by simp) ?_
  exact ck_i (ck_nw (b:=okC (rmz sz) s) (by simpa [ckO,szO,vzO] using n4)) this
 ·obtain ⟨h1,h2⟩:=abs7 ha
  have h4:c.op=68∨c.op=69∨c.op=70∨c.op=71:=by
   simp [blg] at hb
   omega
  have h3:c.op≠69→c.op≠71→c.op≠70→num c.value=true:=by
   intro a b d
   have h:c.op=68:=by omega
   simpa [fit,h] using hf
  have:=pres7 n2 h2 ht (rmz_ge sz) h3
  refine abs_i n1 hQ (by simp) ?_
  have n5:ckd 7 (rmz sz) ot s=0:=by simpa [ckO,szO,vzO] using n4
  have n6:mnew 7 (rmz sz) ot=0:=by
   unfold ckd at n5
   split at n5
   ·assumption
   ·exact n5
  show ckd 7 (rmz sz) ot (eT (rmz sz) s c).1=0
  unfold ckd
  rw [if_pos n6,this]
  rfl
 ·obtain ⟨h1,h2⟩:=abs8 ha
  have h3:=nwL_bd h1
  have h7:c.op=72→1≤c.value:=by
   intro h
   have:1≤c.value∧c.value≤sz:=by simpa [fit,h] using hf
   exact this.1
  have:=pres8 h2 h3.1 h3.2.2.1 hn h7
  exact abs_i n1 hQ (by simp) (by exact ck_i h1 this)
 ·have h1:c.op=73∨c.op=74:=by simpa [blg] using hb
  have h3:c.op≠74→num c.value=true:=by
   intro h
   have h:c.op=73:=by omega
   simpa [fit,h] using hf
  have:=pres9 (s:=s) (c:=c) (ck_ok (n:=nwA 9 9 sz ot) (by simpa [ckO,szO,vzO] using n4)) h3
  exact abs_i n1 hQ (by simp) (by exact ck_i (ck_nw (by simpa [ckO,szO,vzO] using n4)) this)
theorem presF {k sz ot:Int} {s:S} {c:Cl} (he:(effF k sz ot s c).2.2.2=0):absB k sz ot s=true∧absB k sz ot (effF k sz ot s c).1=true:=by
 unfold effF at he ⊢
 by_cases h1:absB k sz ot s=false
 ·rw [if_pos h1] at he;simp [er] at he
 ·rw [if_neg h1] at he ⊢
  by_cases h2:cbad c=true
  ·rw [if_pos h2] at he;simp [er] at he
  ·rw [if_neg h2] at he ⊢
   by_cases h3:blg k c.op=false
   ·rw [if_pos h3] at he;simp [er] at he
   ·rw [if_neg h3] at he ⊢
    by_cases h4:fit k sz c=false
    ·rw [if_pos h4] at he;simp [er] at he
    ·rw [if_neg h4] at he ⊢
     by_cases h5:(raw k sz ot s c).2.2.2=0
     ·rw [if_pos h5] at he ⊢
      have ha:absB k sz ot s=true:=by simpa using h1
      exact ⟨ha,pres ha (by simpa using h2) (by simpa using h3) (by simpa using h4) h5⟩
     ·rw [if_neg h5] at he;exact absurd he h5
end Go.VS.Sp
namespace Go.VS.Sp
theorem ev_Effect (nm:D) (k sz ot:Int) (s:S) (c:Cl) (hw:s.wf) (hz:s.sz) :
  Rel (ev P (.call z_15 [.d (.ag [nm,I' k,I' sz,I' ot]),.d (.ag s.row),.d (.ag c.row)] [])) (effF k sz ot s.pl c):=by
 by_cases hk:k=1∨k=2∨k=4∨k=5∨k=6∨k=7∨k=8∨k=9
 ·rcases hk with h | h | h | h | h | h | h | h<;>subst h
  ·exact ev_Effect1 nm sz ot s c hw hz
  ·exact ev_Effect2 nm sz ot s c hw hz
  ·exact ev_Effect4 nm sz ot s c hw hz
  ·exact ev_Effect5 nm sz ot s c hw hz
  ·exact ev_Effect6 nm sz ot s c hw hz
  ·exact ev_Effect7 nm sz ot s c hw hz
  ·exact ev_Effect8 nm sz ot s c hw hz
  ·exact ev_Effect9 nm sz ot s c hw hz
 ·have ha:absB k sz ot s.pl=false:=by
   cases hh:absB k sz ot s.pl
   ·rfl
   ·exact absurd (absB_known hh) hk
  unfold effF
  rw [ha,if_pos rfl]
  have hU:=ev_ofU hk
  rw [ev_call P_z_15 rfl]
  exact Rel.fail 1 (by simp [F_z_15,Cl.row,hU,ev_fail,zrow])
theorem ev_Enabled (nm:D) (k sz ot:Int) (s:S) (c:Cl) (hw:s.wf) (hz:s.sz) :
  ev P (.call z_18 [.d (.ag [nm,I' k,I' sz,I' ot]),.d (.ag s.row),.d (.ag c.row)] [])=some (.val (.d (.b ((effF k sz ot s.pl c).2.2.2==0))) []):=by
 obtain ⟨s',h1,h2,h3⟩:=ev_Effect nm k sz ot s c hw hz
 generalize effF k sz ot s.pl c=r at *
 simp only [S.row,Cl.row] at h1
 rw [ev_call P_z_18 rfl]
 simp [F_z_18,Cl.row,h1]
theorem ev_start (f g:Nat) (nm:D) (k sz ot e:Int) (r:List D) (hr:r.length=9) (h:ev P (.call f [.d (.ag [nm,I' k,I' sz,I' ot])] [])=nwR e r) :
  ev P (.call z_314 [.d (.ag [.fn f [] [],.fn g [] []]),.d (.ag [nm,I' k,I' sz,I' ot])] [])=nwR e r:=by
 unfold nwR at h ⊢
 match r,hr with
 | [r0,r1,r2,r3,r4,r5,r6,r7,r8],_ =>
 rw [ev_call P_z_314 rfl]
 by_cases he:e=0
 ·rw [if_pos he] at h ⊢
  simp [F_z_314,h,toD,allD]
 ·rw [if_neg he] at h ⊢
  simp [F_z_314,h,toD,allD,zrow]
theorem ev_Initial (nm:D) (k sz ot:Int):ev P (.call z_23 [.d (.ag [nm,I' k,I' sz,I' ot])] [])=nwR (newO k sz ot) (iniR k sz):=by
 rw [ev_call P_z_23 rfl]
 by_cases hk:k=1∨k=2∨k=4∨k=5∨k=6∨k=7∨k=8∨k=9
 ·rcases hk with h | h | h | h | h | h | h | h<;>subst h
  ·have h:=ev_start z_62 z_63 nm 1 sz ot _ _ rfl (ev_nwM nm 1 sz ot)
   have e:newO 1 sz ot=nwA 1 1 sz ot:=rfl
   rw [e]
   by_cases hm:nwA 1 1 sz ot=0<;>simp [F_z_23,ev_of1,invV,h,hm,iniR,frow,zrow]
  ·have h:=ev_start z_67 z_68 nm 2 sz ot _ _ rfl (ev_nwW nm 2 sz ot)
   have e:newO 2 sz ot=nwA 2 2 sz ot:=rfl
   rw [e]
   by_cases hm:nwA 2 2 sz ot=0<;>simp [F_z_23,ev_of2,invV,h,hm,iniR,frow,zrow]
  ·have h:=ev_start z_72 z_73 nm 4 sz ot _ _ rfl (ev_nwS nm 4 sz ot)
   have e:newO 4 sz ot=nwS 4 sz ot:=rfl
   rw [e]
   by_cases hm:nwS 4 sz ot=0<;>simp [F_z_23,ev_of4,invV,h,hm,iniR,grow,zrow]
  ·have h:=ev_start z_77 z_78 nm 5 sz ot _ _ rfl (ev_nwB nm 5 sz ot)
   have e:newO 5 sz ot=nwB 5 sz ot:=rfl
   rw [e]
   by_cases hm:nwB 5 sz ot=0<;>simp [F_z_23,ev_of5,invV,h,hm,iniR,frow,zrow]
  ·have h:=ev_start z_82 z_83 nm 6 sz ot _ _ rfl (ev_nwC nm 6 sz ot)
   have e:newO 6 sz ot=nwC 6 sz ot:=rfl
   rw [e]
   by_cases hm:nwC 6 sz ot=0<;>simp [F_z_23,ev_of6,invV,h,hm,iniR,frow,zrow]
  ·have h:=ev_start z_87 z_88 nm 7 sz ot _ _ rfl (ev_mNew nm 7 sz ot)
   have e:newO 7 sz ot=mnew 7 sz ot:=rfl
   rw [e]
   by_cases hm:mnew 7 sz ot=0<;>simp [F_z_23,ev_of7,invV,h,hm,iniR,frow,zrow]
  ·have h:=ev_start z_92 z_93 nm 8 sz ot _ _ rfl (ev_nwL nm 8 sz ot)
   have e:newO 8 sz ot=nwL 8 sz ot:=rfl
   rw [e]
   by_cases hm:nwL 8 sz ot=0<;>simp [F_z_23,ev_of8,invV,h,hm,iniR,grow,zrow]
  ·have h:=ev_start z_97 z_98 nm 9 sz ot _ _ rfl (ev_nwF nm 9 sz ot)
   have e:newO 9 sz ot=nwA 9 9 sz ot:=rfl
   rw [e]
   by_cases hm:nwA 9 9 sz ot=0<;>simp [F_z_23,ev_of9,invV,h,hm,iniR,frow,zrow]
 ·have hU:=ev_ofU hk
  have e:newO k sz ot=8:=by
   unfold newO
   repeat' split
   all_goals first | rfl | (exfalso;apply hk;simp [*])
  rw [e]
  simp [F_z_23,hU,zrow]
def ini (k sz:Int):S:=⟨-1,if k=4∨k=8 then sz else 0,0,true,[],true,[],true,[],true,[],false,0⟩
theorem ini_row (k sz:Int):(ini k sz).row=iniR k sz:=by
 unfold ini iniR
 by_cases h:k=4∨k=8
 ·rw [if_pos h,if_pos h];rfl
 ·rw [if_neg h,if_neg h];rfl
theorem ini_wf (k sz:Int):(ini k sz).wf:=⟨fun _=>rfl,fun _=>rfl,fun _=>rfl,by simp [ini]⟩
structure S.zn (n:Nat) (s:S):Prop where
 h:s.H.length≤n
 b:s.B.length≤n
 q:s.Q.length≤n
 c:s.C.length≤n
 l:∀c∈s.C,c.log.length≤n
theorem S.zn.sz {n:Nat} {s:S} (h:s.zn n) (hn:n≤1000):s.sz:=⟨by have:=h.h;omega,by have:=h.b;omega,by have:=h.q;omega,by have:=h.c;omega,fun c hc=>by have:=h.l c hc;omega⟩
theorem zn_pl {n:Nat} {s:S}:s.pl.zn n↔s.zn n:=by
 constructor
 ·intro h
  refine ⟨h.h,h.b,h.q,by have:=h.c;simpa [S.pl] using this,fun c hc=>?_⟩
  exact h.l (K.pl c) (List.mem_map_of_mem hc)
 ·intro h
  refine ⟨h.h,h.b,h.q,by have:=h.c;simpa [S.pl] using this,fun c hc=>?_⟩
  obtain ⟨d,hd,rfl⟩:=List.mem_map.1 hc
  exact h.l d hd
theorem S.zn.up {n:Nat} {s:S} (h:s.zn n):s.zn (n+1):=⟨by have:=h.h;omega,by have:=h.b;omega,by have:=h.q;omega,by have:=h.c;omega,fun c hc=>by have:=h.l c hc;omega⟩
theorem zn_raw (k sz ot:Int) {n:Nat} {s:S} (c:Cl) (h:s.zn n):(raw k sz ot s c).1.zn (n+1):=by
 have hu:=h.up
 have hs:∀o x t v b,S.zn (n+1) { s with own:=o,cnt:=x,time:=t,val:=v,cl:=b }:=fun o x t v b=>⟨hu.h,hu.b,hu.q,hu.c,hu.l⟩
 unfold raw
 repeat' split
 ·unfold eM;repeat' split
  all_goals exact hs _ _ _ _ _
 ·unfold eW;repeat' split
  all_goals first
   | exact hs _ _ _ _ _
   | exact ⟨by have h1:=h.h;have h2:=List.length_filter_le (fun x=>x != c.task) s.H;simp [gd];omega,hu.b,hu.q,hu.c,hu.l⟩
   | exact ⟨by have h1:=h.h;have h2:=bI_le c.task s.H;simp [gd,insI];omega,hu.b,hu.q,hu.c,hu.l⟩
 ·unfold eS;repeat' split
  all_goals exact hs _ _ _ _ _
 ·unfold eB;repeat' split
  all_goals exact hs _ _ _ _ _
 ·unfold eC;repeat' split
  all_goals first
   | exact hs _ _ _ _ _
   | exact ⟨hu.h,by have h1:=h.b;simp [gd];omega,hu.q,hu.c,hu.l⟩
   | exact ⟨hu.h,by have h1:=h.b;simp_all;omega,hu.q,hu.c,hu.l⟩
 ·unfold eT;repeat' split
  all_goals first
   | exact hs _ _ _ _ _
   | (
    refine ⟨hu.h,hu.b,hu.q,?_,?_⟩
    ·have h1:=h.c;simp [gd];omega
    ·intro x hx
     simp only [gd,List.mem_append,List.mem_cons] at hx
     rcases hx with h | h | h
     ·exact hu.l x (List.mem_of_mem_take h)
     ·rw [h];simp
     ·exact hu.l x (List.mem_of_mem_drop h))
   | (
    refine ⟨hu.h,hu.b,hu.q,?_,?_⟩
    ·have h1:=h.c;simp [gd];omega
    ·intro x hx
     simp only [gd,List.mem_append] at hx
     rcases hx with h | h
     ·exact hu.l x (List.mem_of_mem_take h)
     ·exact hu.l x (List.mem_of_mem_drop h))
   | (
    rename_i b r hg
    refine ⟨hu.h,hu.b,hu.q,?_,?_⟩
    ·have h1:=h.c;simp;omega
    ·intro x hx
     rcases List.mem_or_eq_of_mem_set hx with h2 | h2
     ·exact hu.l x h2
     ·rw [h2]
      have h3:=h.l _ (List.mem_of_getElem? hg)
      simp at h3 ⊢
      omega)
   | (
    refine ⟨hu.h,hu.b,hu.q,?_,?_⟩
    ·have h1:=h.c;simp [gd];omega
    ·intro x hx
     simp only [gd] at hx
     obtain ⟨w,hw,rfl⟩:=List.mem_map.1 hx
     have h3:=h.l w hw
     simp;omega)
 ·unfold eL rfS;repeat' split
  all_goals exact hs _ _ _ _ _
 ·unfold eF;repeat' split
  all_goals exact hs _ _ _ _ _
theorem zn_zS (n:Nat):zS.zn n:=⟨by simp [zS,zN,S.pl],by simp [zS,zN,S.pl],by simp [zS,zN,S.pl],by simp [zS,zN,S.pl],by simp [zS,zN,S.pl]⟩
theorem zn_eff (k sz ot:Int) {n:Nat} {s:S} (c:Cl) (h:s.zn n):(effF k sz ot s c).1.zn (n+1):=by
 unfold effF
 repeat' split
 all_goals first | exact zn_zS _ | exact zn_raw k sz ot c h
end Go.VS.Sp
namespace Go.VS.Sp
structure Wk where
 task:Int
 op:Int
 value:Int
 ok:Bool
 case:Int
def Wk.row (w:Wk):List D:=[I' w.task,I' w.op,I' w.value,.b w.ok,I' w.case]
def acS (k sz ot:Int) (s:S) (c:Cl) (w:Wk):Option S :=
 if ((effF k sz ot s c).2.2.2 != 0||c.task != w.task||c.op != w.op) then none
 else if (w.value==(effF k sz ot s c).2.1&&w.ok==(effF k sz ot s c).2.2.1) then some (effF k sz ot s c).1
 else if (c.op==61&&ot==0&&(w.value==0&&!w.ok)) then some s else none
def accF (k sz ot:Int):S→List Cl→List Wk→Option S
 | s,c::l,w::r=>(acS k sz ot s c w).bind fun t=>accF k sz ot t l r
 | s,_,_=>some s
def b01 (b:Bool):Int:=if b then 1 else 0
theorem ev_result (v:Int) (b:Bool):ev P (.call z_45 [.d (I' v),.d (.b b)] [])=some (.val (.d (.ag [I' v,I' (b01 b)])) []):=by
 rw [ev_call P_z_45 rfl]
 cases b<;>simp [F_z_45,b01]
theorem b01_eq (a b:Bool):(b01 a==b01 b)=(a==b):=by cases a<;>cases b<;>decide
theorem b01_0 (a:Bool):(b01 a==0)=!a:=by cases a<;>decide
theorem loop_acc (nm:D) (k sz ot:Int) (ln rn:Bool) (l:List Cl) (r:List Wk) (hlr:l.length=r.length) (hn:l.length≤1000):∀(sl:List Cl) (sr:List Wk) (pl:List Cl) (pr:List Wk) (a:S),l=pl++sl→r=pr++sr→pr.length=pl.length→a.wf→a.zn pl.length →
  match accF k sz ot a.pl sl sr with
  | none=>ev P (.loop 0 [2,3,7,38,39,40] F_z_20_L0 [(2,.d (.sl 5 rn (r.map Wk.row))),(3,.d (.ref [nm,I' k,I' sz,I' ot])),(7,.loc 0 0 0),(38,.d (.sl 5 ln (l.map Cl.row))),(39,.d (I' l.length)),(40,.d (I' pl.length))] [.arrD 9 true [a.row]])=some (.out .ret [(6,.d (.b false))] [])
  | some t=>∃a':S,a'.pl=t∧a'.wf∧a'.zn l.length∧ev P (.loop 0 [2,3,7,38,39,40] F_z_20_L0 [(2,.d (.sl 5 rn (r.map Wk.row))),(3,.d (.ref [nm,I' k,I' sz,I' ot])),(7,.loc 0 0 0),(38,.d (.sl 5 ln (l.map Cl.row))),(39,.d (I' l.length)),(40,.d (I' pl.length))] [.arrD 9 true [a.row]]) =
    some (.out (.exit 0) [(3,.d (.ref [nm,I' k,I' sz,I' ot])),(7,.loc 0 0 0)] [.arrD 9 true [a'.row]]):=by
 intro sl
 induction sl with
 | nil =>
  intro sr pl pr a hl hr hp hw hz
  have h1:l.length=pl.length:=by simp [hl]
  simp only [accF]
  refine ⟨a,rfl,hw,by rw [h1];exact hz,?_⟩
  rw [ev_loop]
  conv=>lhs;arg 4;unfold F_z_20_L0
  simp [h1,callD,callR,sub,setAll,back,reachC,cut,List.idxOf_cons,V.same_self,thaw,freezeAll,freeze1,overlay,rg2,rg3]
 | cons c sl ih =>
  intro sr pl pr a hl hr hp hw hz
  have hlt:(pl.length:Int)<l.length:=by simp [hl];omega
  have hnext:IntKind.i64.wrap ((pl.length:Int)+1)=pl.length+1:=wrap_i64 (by omega) (by omega)
  have hg:l[pl.length]?=some c:=by simp [hl]
  cases sr with
  | nil=>exfalso;simp [hl,hr] at hlr;omega
  | cons w sr =>
  have hg':r[pl.length]?=some w:=by rw [←hp];simp [hr]
  obtain ⟨a',e1,e2,e3⟩:=ev_Effect nm k sz ot a c hw (hz.sz (by simp [hl] at hn;omega))
  have hz':a'.zn (pl.length+1):=by
   rw [←zn_pl,e2]
   exact zn_eff k sz ot c (zn_pl.2 hz)
  have ih1:=ih sr (pl++[c]) (pr++[w]) a' (by simp [hl]) (by simp [hr]) (by simp [hp]) e3 (by simpa using hz')
  have ih2:=ih sr (pl++[c]) (pr++[w]) a (by simp [hl]) (by simp [hr]) (by simp [hp]) hw (by simpa using hz.up)
  have hq0:=ev_result 0 false
  have hq1:=ev_result w.value w.ok
  unfold accF acS
  generalize effF k sz ot a.pl c=x at *
  obtain ⟨x1,x2,x3,x4⟩:=x
  simp only at e1 e2
  have hq2:=ev_result x2 x3
  rw [e2] at ih1
  simp only [S.row,Cl.row] at e1
  cases hB:(x4 != 0||c.task != w.task||c.op != w.op)
  ·rw [if_neg (by decide)]
   cases hM:(w.value==x2&&w.ok==x3)
   ·rw [if_neg (by decide)]
    cases hI:(c.op==61&&ot==0&&(w.value==0&&!w.ok))
    ·rw [if_neg (by decide)]
     simp only [Option.bind_none]
     rw [ev_loop]
     conv=>lhs;arg 4;unfold F_z_20_L0
     simp [hlt,hg,hg',Cl.row,Wk.row,e1,hnext,hq0,hq1,hq2,hB,hM,hI,b01_eq,b01_0,callD,callR,sub,setAll,back,reachC,cut,List.idxOf_cons,V.same_self,thaw,freezeAll,freeze1,overlay,rg2,rg3]
    ·rw [if_pos rfl,Option.bind_some]
     have hs:ev P (.loop 0 [2,3,7,38,39,40] F_z_20_L0 [(2,.d (.sl 5 rn (r.map Wk.row))),(3,.d (.ref [nm,I' k,I' sz,I' ot])),(7,.loc 0 0 0),(38,.d (.sl 5 ln (l.map Cl.row))),(39,.d (I' l.length)),(40,.d (I' pl.length))] [.arrD 9 true [a.row]]) =
       ev P (.loop 0 [2,3,7,38,39,40] F_z_20_L0 [(2,.d (.sl 5 rn (r.map Wk.row))),(3,.d (.ref [nm,I' k,I' sz,I' ot])),(7,.loc 0 0 0),(38,.d (.sl 5 ln (l.map Cl.row))),(39,.d (I' l.length)),(40,.d (I' (pl++[c]).length))] [.arrD 9 true [a.row]]):=by
      generalize hR:ev P (.loop 0 [2,3,7,38,39,40] F_z_20_L0 [(2,.d (.sl 5 rn (r.map Wk.row))),(3,.d (.ref [nm,I' k,I' sz,I' ot])),(7,.loc 0 0 0),(38,.d (.sl 5 ln (l.map Cl.row))),(39,.d (I' l.length)),(40,.d (I' (pl++[c]).length))] [.arrD 9 true [a.row]])=R
      rw [ev_loop]
      conv=>lhs;arg 4;unfold F_z_20_L0
      simp at hR
      simp [hlt,hg,hg',Cl.row,Wk.row,e1,hnext,hq0,hq1,hq2,hB,hM,hI,b01_eq,b01_0,callD,callR,sub,setAll,back,reachC,cut,List.idxOf_cons,V.same_self,thaw,freezeAll,freeze1,overlay,rg2,rg3]
      exact hR
     rw [hs]
     exact ih2
   ·rw [if_pos rfl,Option.bind_some]
    have hs:ev P (.loop 0 [2,3,7,38,39,40] F_z_20_L0 [(2,.d (.sl 5 rn (r.map Wk.row))),(3,.d (.ref [nm,I' k,I' sz,I' ot])),(7,.loc 0 0 0),(38,.d (.sl 5 ln (l.map Cl.row))),(39,.d (I' l.length)),(40,.d (I' pl.length))] [.arrD 9 true [a.row]]) =
      ev P (.loop 0 [2,3,7,38,39,40] F_z_20_L0 [(2,.d (.sl 5 rn (r.map Wk.row))),(3,.d (.ref [nm,I' k,I' sz,I' ot])),(7,.loc 0 0 0),(38,.d (.sl 5 ln (l.map Cl.row))),(39,.d (I' l.length)),(40,.d (I' (pl++[c]).length))] [.arrD 9 true [a'.row]]):=by
     generalize hR:ev P (.loop 0 [2,3,7,38,39,40] F_z_20_L0 [(2,.d (.sl 5 rn (r.map Wk.row))),(3,.d (.ref [nm,I' k,I' sz,I' ot])),(7,.loc 0 0 0),(38,.d (.sl 5 ln (l.map Cl.row))),(39,.d (I' l.length)),(40,.d (I' (pl++[c]).length))] [.arrD 9 true [a'.row]])=R
     rw [ev_loop]
     conv=>lhs;arg 4;unfold F_z_20_L0
     simp at hR
     simp [hlt,hg,hg',Cl.row,Wk.row,e1,hnext,hq0,hq1,hq2,hB,hM,b01_eq,b01_0,callD,callR,sub,setAll,back,reachC,cut,List.idxOf_cons,V.same_self,thaw,freezeAll,freeze1,overlay,rg2,rg3]
     exact hR
    rw [hs]
    exact ih1
  ·rw [if_pos rfl]
   simp only [Option.bind_none]
   rw [ev_loop]
   conv=>lhs;arg 4;unfold F_z_20_L0
   simp [hlt,hg,hg',Cl.row,Wk.row,e1,hnext,hq0,hq1,hq2,hB,callD,callR,sub,setAll,back,reachC,cut,List.idxOf_cons,V.same_self,thaw,freezeAll,freeze1,overlay,rg2,rg3]
theorem ev_lcheck (f g:Nat) (nm:D) (k sz ot e:Int) (s:S) (h:ev P (.call g [.d (.ag [nm,I' k,I' sz,I' ot]),.d (.ag s.row)] [])=some (.val (.d (I' e)) [])) :
  ev P (.call z_313 [.d (.ag [.fn f [] [],.fn g [] []]),.d (.ag [nm,I' k,I' sz,I' ot]),.d (.ag s.row)] [])=some (.val (.d (I' e)) []):=by
 simp only [S.row] at h
 rw [ev_call P_z_313 rfl]
 simp [F_z_313,h,toD,allD]
def accB (k sz ot:Int) (l:List Cl) (r:List Wk):Bool :=
 if (newO k sz ot != 0||(l.length:Int) != r.length||decide ((1000:Int)<l.length)) then false
 else match accF k sz ot (ini k sz).pl l r with
  | none=>false
  | some t=>ckO k sz ot t==0
theorem zn_ini (k sz:Int) (n:Nat):(ini k sz).zn n:=⟨by simp [ini],by simp [ini],by simp [ini],by simp [ini],by simp [ini]⟩
theorem acS_Q {k sz ot:Int} {s t:S} {c:Cl} {w:Wk} (h:acS k sz ot s c w=some t) (hq:s.Q=[]):t.Q=[]:=by
 unfold acS at h
 by_cases h1:((effF k sz ot s c).2.2.2 != 0||c.task != w.task||c.op != w.op)=true
 ·rw [if_pos h1] at h;cases h
 ·rw [if_neg h1] at h
  by_cases h2:(w.value==(effF k sz ot s c).2.1&&w.ok==(effF k sz ot s c).2.2.1)=true
  ·rw [if_pos h2] at h
   cases h
   simp at h1
   exact (abs_of (presF (by simpa using h1.1.1)).2).2.1
  ·rw [if_neg h2] at h
   split at h
   ·cases h;exact hq
   ·cases h
theorem accF_Q (k sz ot:Int):∀(l:List Cl) (r:List Wk) (s t:S),accF k sz ot s l r=some t→s.Q=[]→t.Q=[]
 | [],_,s,t,h,hq=>by simp [accF] at h;rw [←h];exact hq
 | _::_,[],s,t,h,hq=>by simp [accF] at h;rw [←h];exact hq
 | c::l,w::r,s,t,h,hq=>by
  unfold accF at h
  cases hx:acS k sz ot s c w with
  | none=>rw [hx] at h;cases h
  | some u =>
   rw [hx,Option.bind_some] at h
   exact accF_Q k sz ot l r u t h (acS_Q hx hq)
theorem ev_AccG (f g t:Nat) (ht:t=101∨t=102∨t=103∨t=104∨t=105∨t=106∨t=107∨t=108) (nm:D) (k sz ot:Int) (hof:ev P (.call z_37 [.d (I' k)] [])=some (.val (.tu [.d (.ifc t (.ag [.fn f [] [],.fn g [] []])),.d (.b true)]) []))
  (hck:∀s:S,s.Q=[]→s.sm→ev P (.call g [.d (.ag [nm,I' k,I' sz,I' ot]),.d (.ag s.row)] [])=some (.val (.d (I' (ckO k sz ot s))) [])) (ln rn:Bool) (l:List Cl) (r:List Wk) (hl:l.length≤100000) (hr:r.length≤100000) :
  ev P (.call z_20 [.d (.ag [nm,I' k,I' sz,I' ot]),.d (.sl 5 ln (l.map Cl.row)),.d (.sl 5 rn (r.map Wk.row))] [])=some (.val (.d (.b (accB k sz ot l r))) []):=by
 have hI:=ev_Initial nm k sz ot
 rw [←ini_row] at hI
 unfold nwR at hI
 rw [ev_call P_z_20 rfl]
 unfold accB
 cases hB:(newO k sz ot != 0||(l.length:Int) != r.length||decide ((1000:Int)<l.length))
 ·rw [if_neg (by decide)]
  have hB2:=hB
  simp at hB2
  obtain ⟨⟨b1,b2⟩,b3⟩:=hB2
  have hL:=loop_acc nm k sz ot ln rn l r (by omega) (by omega) l r [] [] (ini k sz) rfl rfl rfl (ini_wf _ _) (zn_ini _ _ _)
  rw [if_pos b1,b1] at hI
  simp only [S.row] at hI
  have hb:((l.length:Int) != r.length||decide ((1000:Int)<l.length))=false:=by rw [b1] at hB;simpa using hB
  cases hx:accF k sz ot (ini k sz).pl l r with
  | none =>
   rw [hx] at hL
   simp only [S.row] at hL
   simp at hL
   simp [F_z_20,hI,hb,hL,callD,callR,sub,setAll,back,reachC,cut,List.idxOf_cons,V.same_self,thaw,freezeAll,freeze1,overlay,rg2,rg3]
  | some t =>
   rw [hx] at hL
   obtain ⟨s,h1,h2,h3,hL⟩:=hL
   have hq:s.Q=[]:=by
    have:=accF_Q k sz ot l r _ _ hx rfl
    rw [←h1] at this
    exact this
   have hs:=(h3.sz (by omega)).sm
   have hC:=ev_lcheck f g nm k sz ot _ s (hck s hq hs)
   have e:ckO k sz ot t=ckO k sz ot s:=by rw [←h1];exact ckO_pl k sz ot s hq
   simp only [e]
   generalize ckO k sz ot s=q at *
   simp only [S.row] at hL hC
   simp at hL
   rcases ht with h | h | h | h | h | h | h | h<;>subst h<;>simp [F_z_20,hI,hb,hL,hof,invV,hC,callD,callR,sub,setAll,back,reachC,cut,List.idxOf_cons,V.same_self,thaw,freezeAll,freeze1,overlay,rg2,rg3]
 ·rw [if_pos rfl]
  by_cases b1:newO k sz ot=0
  ·rw [if_pos b1,b1] at hI
   rw [b1] at hB
   simp only [S.row] at hI
   have hb:((l.length:Int) != r.length||decide ((1000:Int)<l.length))=true:=by simpa using hB
   simp [F_z_20,hI,hb]
  ·rw [if_neg b1] at hI
   have b2:(newO k sz ot != 0)=true:=by simpa using b1
   simp [F_z_20,hI,b2,zrow]
end Go.VS.Sp
namespace Go.VS.Sp
theorem ev_Acc (nm:D) (k sz ot:Int) (ln rn:Bool) (l:List Cl) (r:List Wk) (hl:l.length≤100000) (hr:r.length≤100000) :
  ev P (.call z_20 [.d (.ag [nm,I' k,I' sz,I' ot]),.d (.sl 5 ln (l.map Cl.row)),.d (.sl 5 rn (r.map Wk.row))] [])=some (.val (.d (.b (accB k sz ot l r))) []):=by
 by_cases hk:k=1∨k=2∨k=4∨k=5∨k=6∨k=7∨k=8∨k=9
 ·rcases hk with h | h | h | h | h | h | h | h<;>subst h
  ·exact ev_AccG z_62 z_63 101 (.inl rfl) nm 1 sz ot ev_of1 (fun s hq hs=>ev_ckM nm 1 sz ot s hq hs) ln rn l r hl hr
  ·exact ev_AccG z_67 z_68 102 (.inr (.inl rfl)) nm 2 sz ot ev_of2 (fun s hq hs=>ev_ckW nm 2 sz ot s hq hs) ln rn l r hl hr
  ·exact ev_AccG z_72 z_73 103 (.inr (.inr (.inl rfl))) nm 4 sz ot ev_of4 (fun s hq hs=>ev_ckS nm 4 sz ot s hq hs) ln rn l r hl hr
  ·exact ev_AccG z_77 z_78 104 (.inr (.inr (.inr (.inl rfl)))) nm 5 sz ot ev_of5 (fun s hq hs=>ev_ckB nm 5 sz ot s hq hs) ln rn l r hl hr
  ·exact ev_AccG z_82 z_83 105 (.inr (.inr (.inr (.inr (.inl rfl))))) nm 6 sz ot ev_of6 (fun s hq hs=>ev_ckC nm 6 sz ot s hq hs) ln rn l r hl hr
  ·exact ev_AccG z_87 z_88 106 (.inr (.inr (.inr (.inr (.inr (.inl rfl)))))) nm 7 sz ot ev_of7 (fun s hq hs=>ev_mCheck nm 7 sz ot s hs) ln rn l r hl hr
  ·exact ev_AccG z_92 z_93 107 (.inr (.inr (.inr (.inr (.inr (.inr (.inl rfl))))))) nm 8 sz ot ev_of8 (fun s hq hs=>ev_ckL nm 8 sz ot s hq hs) ln rn l r hl hr
  ·exact ev_AccG z_97 z_98 108 (.inr (.inr (.inr (.inr (.inr (.inr (.inr rfl))))))) nm 9 sz ot ev_of9 (fun s hq hs=>ev_ckF nm 9 sz ot s hq) ln rn l r hl hr
 ·have hI:=ev_Initial nm k sz ot
  have b1:¬newO k sz ot=0:=fun h=>hk (known_of h)
  have b2:(newO k sz ot != 0)=true:=by simpa using b1
  have e:accB k sz ot l r=false:=by
   unfold accB
   rw [b2]
   simp
  rw [e]
  unfold nwR at hI
  rw [if_neg b1] at hI
  rw [ev_call P_z_20 rfl]
  simp [F_z_20,hI,b2,zrow]
end Go.VS.Sp
namespace Go.VS.Sp
def cSend:Cl:=⟨1,64,5,0,0⟩
def cRecv:Cl:=⟨2,65,0,0,0⟩
def wSent:Wk:=⟨1,64,0,true,0⟩
def wRecd:Wk:=⟨2,65,5,true,0⟩
theorem aw1:((effF 6 0 0 (ini 6 0).pl cSend).2.2.2==0)=true:=by decide
theorem aw2:((effF 6 0 0 (ini 6 0).pl cRecv).2.2.2==0)=false:=by decide
theorem aw3:accB 6 0 0 [cSend,cRecv] [wSent,wRecd]=true:=by decide
theorem aw4:accB 6 0 0 [cSend] [wSent]=false:=by decide
theorem aw5:accB 6 0 0 [cRecv,cSend] [wRecd,wSent]=false:=by decide
theorem ev_object:ev P (.call z_35 [] [])=some (.val (.d (.ag [.s [],I' 6,I' 0,I' 0])) []):=by
 rw [ev_call P_z_35 rfl]
 simp [F_z_35]
theorem ev_awake:ev P (.call z_14 [] [])=some (.val (.d (.b true)) []):=by
 have hI:=ev_Initial (.s []) 6 0 0
 have e0:newO 6 0 0=0:=by decide
 unfold nwR at hI
 rw [if_pos e0,e0,←ini_row] at hI
 have hz:=(zn_ini 6 0 0).sz (by decide)
 have h1:=ev_Enabled (.s []) 6 0 0 (ini 6 0) cSend (ini_wf _ _) hz
 have h2:=ev_Enabled (.s []) 6 0 0 (ini 6 0) cRecv (ini_wf _ _) hz
 have h3:=ev_Acc (.s []) 6 0 0 false false [cSend,cRecv] [wSent,wRecd] (by decide) (by decide)
 have h4:=ev_Acc (.s []) 6 0 0 false false [cSend] [wSent] (by decide) (by decide)
 have h5:=ev_Acc (.s []) 6 0 0 false false [cRecv,cSend] [wRecd,wSent] (by decide) (by decide)
 rw [aw1] at h1
 rw [aw2] at h2
 rw [aw3] at h3
 rw [aw4] at h4
 rw [aw5] at h5
 simp only [S.row] at hI h1 h2
 simp only [List.map_cons,List.map_nil,Cl.row,Wk.row,cSend,cRecv,wSent,wRecd] at h1 h2 h3 h4 h5
 rw [ev_call P_z_14 rfl]
 simp [F_z_14,ev_object,hI,h1,h2,h3,h4,h5,V.same_self]
end Go.VS.Sp
namespace Go.VS.Sp
def qall (f:List W→W→Bool):List W→List W→Bool
 | _,[]=>true
 | pre,w::r=>f pre w&&qall f (pre++[w]) r
def fS0 (sz:Int) (w:W):Bool:=w.op != 60||decide (w.value<1)||decide (sz<w.value)||w.case != -1
def fS (sz ot cnt:Int) (pre:List W) (w:W):Bool:=!fS0 sz w&&(!pre.any (fun x=>x.task==w.task)&&(decide ((0:Int)<pre.length)&&ot==0||decide (cnt<w.value)))
theorem ev_waitsS (nm:D) (k sz ot own cnt time:Int) (a1 a2 a3:D) (cl:Bool) (val:Int) (qn:Bool) (pre:List W) (w:W) (r:List W) (hn:(pre++w::r).length≤1000000) :
  ev P (.call z_143 [.d (.ag [nm,I' k,I' sz,I' ot]),.d (.ag [I' own,I' cnt,I' time,a1,qD qn (pre++w::r),a2,a3,.b cl,I' val]),.d (I' pre.length)] [])=some (.val (.d (.b (fS sz ot cnt pre w))) []):=by
 have hF:=ev_wFind qn (pre++w::r) w.task hn
 have hfd:=fd_eq (pre:=pre) (w:=w) (r:=r)
 generalize fdS (pre++w::r) w.task=p at *
 obtain ⟨p1,p2⟩:=p
 simp only at hfd
 have hg:(pre++w::r)[pre.length]?=some w:=by simp
 rw [ev_call P_z_143 rfl]
 unfold fS
 rw [←hfd]
 cases h1:fS0 sz w
 ·unfold fS0 at h1
  have hb:(p1 != (pre.length:Int))=!(p1==(pre.length:Int)):=rfl
  cases h2:p1==(pre.length:Int)
  ·rw [h2] at hb
   simp [F_z_143,W.row,h1,hF,hb]
  ·rw [h2] at hb
   cases h3:(decide ((0:Int)<pre.length)&&ot==0)
   ·simp [F_z_143,W.row,h1,hF,hb,h3]
    simp at h3
    grind
   ·simp [F_z_143,W.row,h1,hF,hb,h3]
    simp at h3
    grind
 ·unfold fS0 at h1
  simp [F_z_143,W.row,h1]
theorem loop_ckS (nm:D) (k sz ot own cnt time:Int) (a1 a2 a3:D) (cl:Bool) (val:Int) (qn:Bool) (Q:List W) (hn:Q.length≤1000000):∀(suf pre:List W),Q=pre++suf →
  ev P (.loop 0 [2,3,39,40] F_z_73_L0 [(2,.d (.ref [nm,I' k,I' sz,I' ot])),(3,.d (.ref [I' own,I' cnt,I' time,a1,qD qn Q,a2,a3,.b cl,I' val])),(39,.d (I' Q.length)),(40,.d (I' pre.length))] []) =
   if qall (fS sz ot cnt) pre suf=true then some (.out (.exit 0) [(3,.d (.ref [I' own,I' cnt,I' time,a1,qD qn Q,a2,a3,.b cl,I' val]))] []) else some (.out .ret [(4,.d (I' 1))] []):=by
 intro suf
 induction suf with
 | nil =>
  intro pre hl
  have:Q.length=pre.length:=by simp [hl]
  rw [ev_loop]
  conv=>lhs;arg 4;unfold F_z_73_L0
  simp [this,qall]
 | cons w suf ih =>
  intro pre hl
  have hlt:(pre.length:Int)<Q.length:=by simp [hl];omega
  have hnext:IntKind.i64.wrap ((pre.length:Int)+1)=pre.length+1:=wrap_i64 (by omega) (by omega)
  have ih':=ih (pre++[w]) (by simp [hl])
  have hw:=ev_waitsS nm k sz ot own cnt time a1 a2 a3 cl val qn pre w suf (by rw [←hl];exact hn)
  rw [←hl] at hw
  generalize hR:(if qall (fS sz ot cnt) (pre++[w]) suf=true then some (Res.out (.exit 0) [(3,V.d (.ref [I' own,I' cnt,I' time,a1,qD qn Q,a2,a3,.b cl,I' val]))] []) else some (.out .ret [(4,.d (I' 1))] []))=R at ih'
  rw [ev_loop]
  conv=>lhs;arg 4;unfold F_z_73_L0
  cases hf:fS sz ot cnt pre w
  ·rw [hf] at hw
   simp [hlt,hw,qall,hf]
  ·rw [hf] at hw
   have hq:qall (fS sz ot cnt) pre (w::suf)=qall (fS sz ot cnt) (pre++[w]) suf:=by simp [qall,hf]
   rw [hq,hR]
   simp at ih'
   simp [hlt,hw,hnext]
   exact ih'
def okSq (sz ot:Int) (s:S):Bool:=(!(s.own != -1||decide (s.cnt<0)||decide (sz<s.cnt))&&wchk s.Q==0)&&(qall (fS sz ot s.cnt) [] s.Q&&!(s.time != 0||decide ((0:Int)<(s.H.length:Int)+s.B.length+s.C.length)||s.cl||s.val != 0))
theorem ev_ckSq (nm:D) (k sz ot:Int) (s:S) (hs:s.sm) :
  ev P (.call z_73 [.d (.ag [nm,I' k,I' sz,I' ot]),.d (.ag s.row)] [])=some (.val (.d (I' (ck (nwS k sz ot) (okSq sz ot s)))) []):=by
 obtain ⟨own,cnt,time,hn,H,qn,Q,bn,B,cn,C,cl,val⟩:=s
 obtain ⟨h1,h2,h3,h4,_⟩:=hs
 simp only at h1 h2 h3 h4
 have hw1:IntKind.i64.wrap ((H.length:Int)+B.length)=H.length+B.length:=wrap_i64 (by omega) (by omega)
 have hw2:IntKind.i64.wrap ((H.length:Int)+B.length+C.length)=H.length+B.length+C.length:=wrap_i64 (by omega) (by omega)
 have hl:=loop_ckS nm k sz ot own cnt time (hD hn H) (hD bn B) (cD cn C) cl val qn Q (by omega) Q [] rfl
 simp at hl
 have hW:=ev_wCheck qn Q
 rw [ev_call P_z_73 rfl]
 unfold ck okSq
 cases hm:nwS k sz ot==0
 ·have hm':nwS k sz ot≠0:=by simpa using hm
  have hm2:(nwS k sz ot != 0)=true:=by simpa using hm'
  simp [F_z_73,ev_nwS,hm',hm2,zrow]
 ·have hm':nwS k sz ot=0:=by simpa using hm
  cases hA:(own != -1||decide (cnt<0)||decide (sz<cnt))
  ·cases hw:wchk Q==0
   ·have hw':(wchk Q != 0)=true:=by rw [bne,hw];rfl
    simp [F_z_73,ev_nwS,hm',grow,hA,hW,hw,hw']
   ·have hw':(wchk Q != 0)=false:=by rw [bne,hw];rfl
    cases hq:qall (fS sz ot cnt) [] Q
    ·rw [hq] at hl
     simp [F_z_73,ev_nwS,hm',grow,hA,hW,hw',hl]
    ·rw [hq] at hl
     cases hB:(time != 0||decide ((0:Int)<(H.length:Int)+B.length+C.length)||cl||val != 0)
     ·simp [F_z_73,ev_nwS,hm',grow,hA,hw1,hw2,hB,hW,hw',hw,hl]
     ·simp [F_z_73,ev_nwS,hm',grow,hA,hw1,hw2,hB,hW,hw',hw,hl]
  ·simp [F_z_73,ev_nwS,hm',grow,hA]
end Go.VS.Sp
namespace Go.VS.Sp
def ddp:List Int→List Int→List Int
 | acc,[]=>acc
 | acc,t::r=>if t∈acc then ddp acc r else ddp (acc++[t]) r
def seenR (acc:List Int):List D:=(List.range 16).map fun (k:Nat)=>.b (decide ((k:Int)∈acc))
theorem seenR_len (acc:List Int):(seenR acc).length=16:=by simp [seenR]
theorem seenR_get (acc:List Int) {t:Int} (h:0≤t∧t<16):(seenR acc)[t.toNat]?=some (.b (decide (t∈acc))):=by
 have h1:t.toNat<16:=by omega
 have h2:(t.toNat:Int)=t:=by omega
 simp [seenR,h1,h2]
theorem seenR_set (acc:List Int) {t:Int} (h:0≤t∧t<16):overlay (seenR acc) t.toNat [.b true]=seenR (acc++[t]):=by
 have h1:t.toNat<16:=by omega
 have hl:=seenR_len acc
 have e:overlay (seenR acc) t.toNat [.b true]=(seenR acc).set t.toNat (.b true):=by
  unfold overlay
  rw [List.set_eq_take_append_cons_drop,if_pos (by omega)]
  simp
 rw [e]
 apply List.ext_getElem?
 intro i
 rw [List.getElem?_set]
 by_cases hi:t.toNat=i
 ·subst hi
  have h2:(t.toNat:Int)=t:=by omega
  simp [seenR,h1,h2]
 ·rw [if_neg hi]
  by_cases h16:i<16
  ·have hne:¬(i:Int)=t:=by omega
   simp [seenR,h16,hne]
  ·simp [seenR,h16]
def outV (n:Nat):V:=if n=0 then .d (.sl 1 true []) else .asl 1 0 n
def outH (l:List Int):List O:=if l=[] then [] else [.arrD 1 true (rows1 l)]
theorem loop_Tasks (nl:Bool) (l:List W) (hn:l.length≤1000000) (ht:∀w∈l,0≤w.task∧w.task<16):∀(suf pre:List W) (acc:List Int),l=pre++suf→acc.length≤pre.length →
  ev P (.loop 0 [0,3,4,9,10,11] F_z_151_L0 [(0,.d (qD nl l)),(3,.loc 0 0 0),(4,outV acc.length),(9,.d (qD nl l)),(10,.d (I' l.length)),(11,.d (I' pre.length))] ([.arrD 16 true [seenR acc]]++outH acc)) =
   some (.out (.exit 0) [(4,if ddp acc (suf.map W.task)=[] then .d (.sl 1 true []) else .asl 0 0 (ddp acc (suf.map W.task)).length)] (outH (ddp acc (suf.map W.task)))):=by
 intro suf
 induction suf with
 | nil =>
  intro pre acc hl ha
  have:l.length=pre.length:=by simp [hl]
  rw [ev_loop]
  conv=>lhs;arg 4;unfold F_z_151_L0
  cases acc with
  | nil=>simp [this,ddp,outV,outH,reachC,cut,List.idxOf_cons]
  | cons a b=>simp [this,ddp,outV,outH,reachC,cut,List.idxOf_cons]
 | cons w suf ih =>
  intro pre acc hl ha
  have hg:l[pre.length]?=some w:=by simp [hl]
  have hlt:(pre.length:Int)<l.length:=by simp [hl];omega
  have hple:pre.length<l.length:=by simp [hl]
  have hnext:IntKind.i64.wrap ((pre.length:Int)+1)=pre.length+1:=wrap_i64 (by omega) (by omega)
  have hw:=ht w (by simp [hl])
  have h0:¬w.task<0:=by omega
  have hgt:=seenR_get acc hw
  have hst:=seenR_set acc hw
  have hsl:=seenR_len acc
  have hhd:∀h,(seenR acc)[w.task.toNat]'h = .b (decide (w.task∈acc)):=fun h=>by
   rw [List.getElem?_eq_getElem h] at hgt
   simpa using hgt
  have h16:w.task.toNat+1≤16:=by omega
  rw [List.map_cons]
  by_cases hm:w.task∈acc
  ·have ih':=ih (pre++[w]) acc (by simp [hl]) (by simp;omega)
   have hd:ddp acc (w.task::suf.map W.task)=ddp acc (suf.map W.task):=by simp [ddp,hm]
   rw [hd]
   generalize hR:some (Res.out (.exit 0) [(4,if ddp acc (suf.map W.task)=[] then V.d (.sl 1 true []) else V.asl 0 0 (ddp acc (suf.map W.task)).length)] (outH (ddp acc (suf.map W.task))))=R at ih' ⊢
   clear hR
   simp [hm] at hhd
   rw [ev_loop]
   conv=>lhs;arg 4;unfold F_z_151_L0
   cases acc with
   | nil=>simp at hm
   | cons a b =>
    simp [outV,outH] at ih'
    simp [hlt,hg,W.row,hw.1,hw.2,hsl,hhd,hnext,outV,outH,reachC,cut,List.idxOf_cons]
    exact ih'
  ·have ih':=ih (pre++[w]) (acc++[w.task]) (by simp [hl]) (by simp;omega)
   have hd:ddp acc (w.task::suf.map W.task)=ddp (acc++[w.task]) (suf.map W.task):=by simp [ddp,hm]
   rw [hd]
   generalize hR:some (Res.out (.exit 0) [(4,if ddp (acc++[w.task]) (suf.map W.task)=[] then V.d (.sl 1 true []) else V.asl 0 0 (ddp (acc++[w.task]) (suf.map W.task)).length)] (outH (ddp (acc++[w.task]) (suf.map W.task))))=R at ih' ⊢
   clear hR
   simp [hm] at hhd
   rw [ev_loop]
   conv=>lhs;arg 4;unfold F_z_151_L0
   cases acc with
   | nil =>
    have hr:1≤room:=by decide
    simp only [List.nil_append] at hst
    simp [outV,outH] at ih'
    simp [-overlay,hlt,hg,W.row,hw.1,hw.2,hhd,hst,hsl,h16,hr,hnext,outV,outH,reachC,cut,List.idxOf_cons]
    exact ih'
   | cons a b =>
    have hr:b.length+1+1≤room:=by simp at ha;unfold room;omega
    simp only [List.cons_append] at hst
    simp [outV,outH] at ih'
    simp [-overlay,hlt,hg,W.row,hw.1,hw.2,hhd,hst,hsl,h16,hr,hnext,outV,outH,reachC,cut,List.idxOf_cons,Nat.not_succ_le_self,take_map_len]
    exact ih'
theorem ev_Tasks (nl:Bool) (l:List W) (hn:l.length≤1000000) (ht:∀w∈l,0≤w.task∧w.task<16) :
  ev P (.call z_151 [.d (qD nl l)] [])=some (.val (.d (hD (decide (ddp [] (l.map W.task)=[])) (ddp [] (l.map W.task)))) []):=by
 have hL:=loop_Tasks nl l hn ht l [] [] rfl (by simp)
 simp [outV,outH] at hL
 have hz:seenR []=List.replicate 16 (.b false):=rfl
 rw [hz] at hL
 generalize ddp [] (l.map W.task)=q at *
 rw [ev_call P_z_151 rfl]
 cases q with
 | nil =>
  simp at hL
  simp [F_z_151,hL,reachC,cut,List.idxOf_cons]
 | cons a b =>
  simp at hL
  simp [F_z_151,hL,take_map_len,reachC,cut,List.idxOf_cons]
theorem ddp_snoc:∀(l acc:List Int) (t:Int),ddp acc (l++[t])=if t∈ddp acc l then ddp acc l else ddp acc l++[t]
 | [],acc,t=>by simp only [List.nil_append,ddp];split<;>simp [*]
 | a::r,acc,t=>by
  rw [List.cons_append]
  unfold ddp
  split
  ·exact ddp_snoc r acc t
  ·exact ddp_snoc r _ t
end Go.VS.Sp
namespace Go.VS.Sp
theorem tasks_pre {pre:List W} {w:W} (h:ddp [] (pre.map W.task)=pre.map W.task) :
  ddp [] ((pre++[w]).map W.task)=if pre.any (fun x=>x.task==w.task) then pre.map W.task else (pre++[w]).map W.task:=by
 rw [List.map_append,List.map_cons,List.map_nil,ddp_snoc,h]
 have e:w.task∈pre.map W.task↔(pre.any fun x=>x.task==w.task)=true:=by simp
 by_cases hm:w.task∈pre.map W.task
 ·rw [if_pos hm,if_pos (e.1 hm)]
 ·rw [if_neg hm,if_neg (fun h=>hm (e.2 h))]
theorem ev_TasksP (qn:Bool) (pre:List W) (w:W) (r:List W) (hn:(pre++w::r).length≤1000000) (ht:∀x∈pre++w::r,0≤x.task∧x.task<16) (hp:ddp [] (pre.map W.task)=pre.map W.task) :
  ∃b,ev P (.call z_151 [.d (.sl 5 qn (List.take (pre.length+1) ((pre++w::r).map W.row)))] [])=some (.val (.d (hD b (if pre.any (fun x=>x.task==w.task) then pre.map W.task else (pre++[w]).map W.task))) []):=by
 have e:List.take (pre.length+1) ((pre++w::r).map W.row)=(pre++[w]).map W.row:=by
  rw [←List.map_take]
  congr 1
  rw [List.take_append,List.take_of_length_le (by omega)]
  simp
 have h:=ev_Tasks qn (pre++[w]) (by simp at hn ⊢;omega) (fun x hx=>ht x (by simp at hx ⊢;rcases hx with h | h;exact .inl h;exact .inr (.inl h)))
 rw [e]
 rw [tasks_pre hp] at h
 exact ⟨_,h⟩
def fB0 (w:W):Bool:=w.op != 63||w.value != 0||w.case != -1
def fB (pre:List W) (w:W):Bool:=!fB0 w&&!pre.any (fun x=>x.task==w.task)
def fL0 (sz:Int) (w:W):Bool:=w.op != 72||decide (w.value<1)||decide (sz<w.value)||w.case != -1
def fL (sz:Int) (pre:List W) (w:W):Bool:=!fL0 sz w&&!pre.any (fun x=>x.task==w.task)
theorem loop_ckB (own cnt time:Int) (a1 a2 a3:D) (cl:Bool) (val:Int) (qn:Bool) (Q:List W) (hn:Q.length≤1000000) (ht:∀x∈Q,0≤x.task∧x.task<16):∀(suf pre:List W),Q=pre++suf→ddp [] (pre.map W.task)=pre.map W.task →
  ev P (.loop 0 [3,71,72,73] F_z_78_L0 [(3,.d (.ref [I' own,I' cnt,I' time,a1,qD qn Q,a2,a3,.b cl,I' val])),(71,.d (qD qn Q)),(72,.d (I' Q.length)),(73,.d (I' pre.length))] []) =
   if qall fB pre suf=true then some (.out (.exit 0) [] []) else some (.out .ret [(4,.d (I' 1))] []):=by
 intro suf
 induction suf with
 | nil =>
  intro pre hl _
  have:Q.length=pre.length:=by simp [hl]
  rw [ev_loop]
  conv=>lhs;arg 4;unfold F_z_78_L0
  simp [this,qall]
 | cons w suf ih =>
  intro pre hl hp
  have hg:Q[pre.length]?=some w:=by simp [hl]
  have hlt:(pre.length:Int)<Q.length:=by simp [hl];omega
  have hle:(pre.length:Int)+1≤Q.length:=by omega
  have hle':pre.length+1≤Q.length:=by omega
  have h01:(0:Int)≤pre.length+1:=by omega
  have htn:((pre.length:Int)+1).toNat=pre.length+1:=by omega
  have hnext:IntKind.i64.wrap ((pre.length:Int)+1)=pre.length+1:=wrap_i64 (by omega) (by omega)
  have hT:=ev_TasksP qn pre w suf (by rw [←hl];exact hn) (by rw [←hl];exact ht) hp
  rw [←hl] at hT
  obtain ⟨b,hT⟩:=hT
  rw [ev_loop]
  conv=>lhs;arg 4;unfold F_z_78_L0
  cases h0:fB0 w
  ·have h0':=h0
   unfold fB0 at h0'
   cases hm:pre.any fun x=>x.task==w.task
   ·have hq:qall fB pre (w::suf)=qall fB (pre++[w]) suf:=by simp [qall,fB,h0,hm]
    have hp':ddp [] ((pre++[w]).map W.task)=(pre++[w]).map W.task:=by rw [tasks_pre hp,hm];rfl
    have ih':=ih (pre++[w]) (by simp [hl]) hp'
    rw [hq]
    generalize hR:(if qall fB (pre++[w]) suf=true then some (Res.out (.exit 0) [] []) else some (.out .ret [(4,.d (I' 1))] []))=R at ih' ⊢
    clear hR
    rw [hm,if_neg (by simp)] at hT
    simp at ih'
    simp [hlt,hg,W.row,h0',hle,hle',h01,htn,hT,hnext]
    exact ih'
   ·have hq:qall fB pre (w::suf)=false:=by simp [qall,fB,hm]
    rw [hq]
    rw [hm,if_pos rfl] at hT
    have hne:((pre.length:Int) != pre.length+1)=true:=by simp;omega
    simp [hlt,hg,W.row,h0',hle,hle',h01,htn,hT,hnext,hne]
  ·have hq:qall fB pre (w::suf)=false:=by simp [qall,fB,h0]
   rw [hq]
   unfold fB0 at h0
   simp [hlt,hg,W.row,h0]
theorem loop_ckL (nm:D) (k sz ot own cnt time:Int) (a1 a2 a3:D) (cl:Bool) (val:Int) (qn:Bool) (Q:List W) (hn:Q.length≤1000000) (ht:∀x∈Q,0≤x.task∧x.task<16):∀(suf pre:List W),Q=pre++suf→ddp [] (pre.map W.task)=pre.map W.task →
  ev P (.loop 0 [2,3,70,71,72] F_z_93_L0 [(2,.d (.ref [nm,I' k,I' sz,I' ot])),(3,.d (.ref [I' own,I' cnt,I' time,a1,qD qn Q,a2,a3,.b cl,I' val])),(70,.d (qD qn Q)),(71,.d (I' Q.length)),(72,.d (I' pre.length))] []) =
   if qall (fL sz) pre suf=true then some (.out (.exit 0) [] []) else some (.out .ret [(4,.d (I' 1))] []):=by
 intro suf
 induction suf with
 | nil =>
  intro pre hl _
  have:Q.length=pre.length:=by simp [hl]
  rw [ev_loop]
  conv=>lhs;arg 4;unfold F_z_93_L0
  simp [this,qall]
 | cons w suf ih =>
  intro pre hl hp
  have hg:Q[pre.length]?=some w:=by simp [hl]
  have hlt:(pre.length:Int)<Q.length:=by simp [hl];omega
  have hle:(pre.length:Int)+1≤Q.length:=by omega
  have hle':pre.length+1≤Q.length:=by omega
  have h01:(0:Int)≤pre.length+1:=by omega
  have htn:((pre.length:Int)+1).toNat=pre.length+1:=by omega
  have hnext:IntKind.i64.wrap ((pre.length:Int)+1)=pre.length+1:=wrap_i64 (by omega) (by omega)
  have hT:=ev_TasksP qn pre w suf (by rw [←hl];exact hn) (by rw [←hl];exact ht) hp
  rw [←hl] at hT
  obtain ⟨b,hT⟩:=hT
  rw [ev_loop]
  conv=>lhs;arg 4;unfold F_z_93_L0
  cases h0:fL0 sz w
  ·have h0':=h0
   unfold fL0 at h0'
   cases hm:pre.any fun x=>x.task==w.task
   ·have hq:qall (fL sz) pre (w::suf)=qall (fL sz) (pre++[w]) suf:=by simp [qall,fL,h0,hm]
    have hp':ddp [] ((pre++[w]).map W.task)=(pre++[w]).map W.task:=by rw [tasks_pre hp,hm];rfl
    have ih':=ih (pre++[w]) (by simp [hl]) hp'
    rw [hq]
    generalize hR:(if qall (fL sz) (pre++[w]) suf=true then some (Res.out (.exit 0) [] []) else some (.out .ret [(4,.d (I' 1))] []))=R at ih' ⊢
    clear hR
    rw [hm,if_neg (by simp)] at hT
    simp at ih'
    simp [hlt,hg,W.row,h0',hle,hle',h01,htn,hT,hnext]
    exact ih'
   ·have hq:qall (fL sz) pre (w::suf)=false:=by simp [qall,fL,hm]
    rw [hq]
    rw [hm,if_pos rfl] at hT
    have hne:((pre.length:Int) != pre.length+1)=true:=by simp;omega
    simp [hlt,hg,W.row,h0',hle,hle',h01,htn,hT,hnext,hne]
  ·have hq:qall (fL sz) pre (w::suf)=false:=by simp [qall,fL,h0]
   rw [hq]
   unfold fL0 at h0
   simp [hlt,hg,W.row,h0]
end Go.VS.Sp
namespace Go.VS.Sp
theorem wchk_tasks {Q:List W} (h:wchk Q=0):∀x∈Q,0≤x.task∧x.task<16:=fun x hx=>wvalid_task ((wchk_zero h).2 x hx)
def okBa (sz:Int) (s:S):Bool:=s.own != -1||decide (s.cnt<0)||decide (1099511627776<s.cnt)||decide (sz≤s.Q.length)
def okBb (s:S):Bool:=s.time != 0||s.val != 0||s.cl||decide ((0:Int)<(s.H.length:Int)+s.B.length+s.C.length)
def okBq (sz:Int) (s:S):Bool:=!okBa sz s&&(!okBb s&&(wchk s.Q==0&&qall fB [] s.Q))
theorem ev_ckBq (nm:D) (k sz ot:Int) (s:S) (hs:s.sm) :
  ev P (.call z_78 [.d (.ag [nm,I' k,I' sz,I' ot]),.d (.ag s.row)] [])=some (.val (.d (I' (ck (nwB k sz ot) (okBq sz s)))) []):=by
 obtain ⟨own,cnt,time,hn,H,qn,Q,bn,B,cn,C,cl,val⟩:=s
 obtain ⟨h1,h2,h3,h4,_⟩:=hs
 simp only at h1 h2 h3 h4
 have hw1:IntKind.i64.wrap ((H.length:Int)+B.length)=H.length+B.length:=wrap_i64 (by omega) (by omega)
 have hw2:IntKind.i64.wrap ((H.length:Int)+B.length+C.length)=H.length+B.length+C.length:=wrap_i64 (by omega) (by omega)
 have hW:=ev_wCheck qn Q
 rw [ev_call P_z_78 rfl]
 unfold ck okBq
 cases hm:nwB k sz ot==0
 ·have hm':nwB k sz ot≠0:=by simpa using hm
  have hm2:(nwB k sz ot != 0)=true:=by simpa using hm'
  simp [F_z_78,ev_nwB,hm',hm2,zrow]
 ·have hm':nwB k sz ot=0:=by simpa using hm
  cases hA:okBa sz ⟨own,cnt,time,hn,H,qn,Q,bn,B,cn,C,cl,val⟩
  ·unfold okBa at hA
   simp only at hA
   cases hB:okBb ⟨own,cnt,time,hn,H,qn,Q,bn,B,cn,C,cl,val⟩
   ·unfold okBb at hB
    simp only at hB
    cases hw:wchk Q==0
    ·have hw':(wchk Q != 0)=true:=by rw [bne,hw];rfl
     simp [F_z_78,ev_nwB,hm',frow,hA,hw1,hw2,hB,hW,hw,hw']
    ·have hw':(wchk Q != 0)=false:=by rw [bne,hw];rfl
     have hl:=loop_ckB own cnt time (hD hn H) (hD bn B) (cD cn C) cl val qn Q (by omega) (wchk_tasks (by simpa using hw)) Q [] rfl rfl
     simp at hl
     cases hq:qall fB [] Q
     ·rw [hq] at hl
      simp [F_z_78,ev_nwB,hm',frow,hA,hw1,hw2,hB,hW,hw,hw',hl]
     ·rw [hq] at hl
      simp [F_z_78,ev_nwB,hm',frow,hA,hw1,hw2,hB,hW,hw,hw',hl]
   ·unfold okBb at hB
    simp only at hB
    simp [F_z_78,ev_nwB,hm',frow,hA,hw1,hw2,hB]
  ·unfold okBa at hA
   simp only at hA
   simp [F_z_78,ev_nwB,hm',frow,hA]
def okLa (sz:Int) (s:S):Bool:=s.own != -1||decide (s.cnt<0)||decide (sz<s.cnt)||decide (s.time<0)||decide (1099511627776<s.time)
def okLb (s:S):Bool:=s.val != 0||s.cl||decide ((0:Int)<(s.H.length:Int)+s.B.length+s.C.length)
def okLq (sz:Int) (s:S):Bool:=!okLa sz s&&(!okLb s&&(wchk s.Q==0&&qall (fL sz) [] s.Q))
theorem ev_ckLq (nm:D) (k sz ot:Int) (s:S) (hs:s.sm) :
  ev P (.call z_93 [.d (.ag [nm,I' k,I' sz,I' ot]),.d (.ag s.row)] [])=some (.val (.d (I' (ck (nwL k sz ot) (okLq sz s)))) []):=by
 obtain ⟨own,cnt,time,hn,H,qn,Q,bn,B,cn,C,cl,val⟩:=s
 obtain ⟨h1,h2,h3,h4,_⟩:=hs
 simp only at h1 h2 h3 h4
 have hw1:IntKind.i64.wrap ((H.length:Int)+B.length)=H.length+B.length:=wrap_i64 (by omega) (by omega)
 have hw2:IntKind.i64.wrap ((H.length:Int)+B.length+C.length)=H.length+B.length+C.length:=wrap_i64 (by omega) (by omega)
 have hW:=ev_wCheck qn Q
 rw [ev_call P_z_93 rfl]
 unfold ck okLq
 cases hm:nwL k sz ot==0
 ·have hm':nwL k sz ot≠0:=by simpa using hm
  have hm2:(nwL k sz ot != 0)=true:=by simpa using hm'
  simp [F_z_93,ev_nwL,hm',hm2,zrow]
 ·have hm':nwL k sz ot=0:=by simpa using hm
  cases hA:okLa sz ⟨own,cnt,time,hn,H,qn,Q,bn,B,cn,C,cl,val⟩
  ·unfold okLa at hA
   simp only at hA
   cases hB:okLb ⟨own,cnt,time,hn,H,qn,Q,bn,B,cn,C,cl,val⟩
   ·unfold okLb at hB
    simp only at hB
    cases hw:wchk Q==0
    ·have hw':(wchk Q != 0)=true:=by rw [bne,hw];rfl
     simp [F_z_93,ev_nwL,hm',grow,hA,hw1,hw2,hB,hW,hw,hw']
    ·have hw':(wchk Q != 0)=false:=by rw [bne,hw];rfl
     have hl:=loop_ckL nm k sz ot own cnt time (hD hn H) (hD bn B) (cD cn C) cl val qn Q (by omega) (wchk_tasks (by simpa using hw)) Q [] rfl rfl
     simp at hl
     cases hq:qall (fL sz) [] Q
     ·rw [hq] at hl
      simp [F_z_93,ev_nwL,hm',grow,hA,hw1,hw2,hB,hW,hw,hw',hl]
     ·rw [hq] at hl
      simp [F_z_93,ev_nwL,hm',grow,hA,hw1,hw2,hB,hW,hw,hw',hl]
   ·unfold okLb at hB
    simp only at hB
    simp [F_z_93,ev_nwL,hm',grow,hA,hw1,hw2,hB]
  ·unfold okLa at hA
   simp only at hA
   simp [F_z_93,ev_nwL,hm',grow,hA]
end Go.VS.Sp
namespace Go.VS.Sp
def fgn (Q:List W) (op t:Int):Bool:=Q.any fun w=>w.op==op&&w.task != t
theorem ev_foreignC1 (op t a b c d e:Int):ev P (.call z_288 [.d (.ag [I' a,I' b,I' c,I' d,I' e]),.d (.ref [I' op]),.d (.ref [I' t])] [])=some (.val (.d (.b (b==op&&a != t))) []):=by
 rw [ev_call P_z_288 rfl]
 cases h:b==op<;>simp [F_z_288,h]
theorem ev_foreign (qn:Bool) (Q:List W) (op t:Int) (hn:Q.length≤1000000):ev P (.call z_267 [.d (qD qn Q),.d (I' op),.d (I' t)] [])=some (.val (.d (.b (fgn Q op t))) []):=by
 have hI:=ev_ContainsFunc (f:=z_288) (first:=[]) (caps:=[.ref [I' op],.ref [I' t]]) (p:=fun w=>w.op==op&&w.task != t) qn Q hn (by intro a b c d e;exact ev_foreignC1 op t a b c d e)
 rw [ev_call P_z_267 rfl]
 unfold fgn
 generalize (Q.any fun w=>w.op==op&&w.task != t)=r at *
 try simp at hI
 simp [F_z_267,allD,hI]
def cvn (sz:Int) (bl:Nat) (Q:List W) (w:W):Bool:=if w.op==64 then (bl:Int) != sz||fgn Q 65 w.task else decide (0<bl)||fgn Q 64 w.task
theorem ev_vainC1 (nm:D) (k sz ot:Int) (d0 d1 d2 d3 d6 d7 d8:D) (bn qn:Bool) (B:List Int) (Q:List W) (hn:Q.length≤1000000) (a b c d e:Int) :
  ev P (.call z_266 [.d (.ag [I' a,I' b,I' c,I' d,I' e]),.d (.ref [d0,d1,d2,d3,qD qn Q,hD bn B,d6,d7,d8]),.d (.ref [nm,I' k,I' sz,I' ot])] [])=some (.val (.d (.b (cvn sz B.length Q ⟨a,b,c,d,e⟩))) []):=by
 have f1:=ev_foreign qn Q 65 a hn
 have f2:=ev_foreign qn Q 64 a hn
 rw [ev_call P_z_266 rfl]
 unfold cvn
 cases h:b==64
 ·cases h2:decide ((0:Int)<B.length)
  ·have h2':¬0<B.length:=by simpa using h2
   simp [F_z_266,h,h2',f2]
  ·have h2':0<B.length:=by simpa using h2
   simp [F_z_266,h,h2',f2]
 ·cases h2:(B.length:Int) != sz
  ·simp [F_z_266,h,h2,f1]
  ·simp [F_z_266,h,h2,f1]
theorem ev_vainCq (nm:D) (k sz ot:Int) (d0 d1 d2 d3 d6 d7 d8:D) (bn qn:Bool) (B:List Int) (Q:List W) (hn:Q.length≤1000000) :
  ev P (.call z_228 [.d (.ag [nm,I' k,I' sz,I' ot]),.d (.ag [d0,d1,d2,d3,qD qn Q,hD bn B,d6,d7,d8])] [])=some (.val (.d (.b (Q.any (cvn sz B.length Q)))) []):=by
 have hI:=ev_ContainsFunc (f:=z_266) (first:=[]) (caps:=[.ref [d0,d1,d2,d3,qD qn Q,hD bn B,d6,d7,d8],.ref [nm,I' k,I' sz,I' ot]]) (p:=cvn sz B.length Q) qn Q hn (by intro a b c d e;exact ev_vainC1 nm k sz ot d0 d1 d2 d3 d6 d7 d8 bn qn B Q hn a b c d e)
 rw [ev_call P_z_228 rfl]
 generalize Q.any (cvn sz B.length Q)=r at *
 try simp at hI
 simp [F_z_228,allD,hI]
def fC0 (w:W):Bool:=w.op != 64&&(w.op != 65||w.value != 0)
def clash (w x:W):Bool:=x.task==w.task&&(x.case == -1||w.case == -1||x.case==w.case)
def fC (pre:List W) (w:W):Bool:=!fC0 w&&!pre.any (clash w)
theorem ev_fineC1 (w:W) (a b c d e:Int):ev P (.call z_265 [.d (.ag [I' a,I' b,I' c,I' d,I' e]),.d (.ref [I' w.task,I' w.op,I' w.value,I' w.prio,I' w.case])] [])=some (.val (.d (.b (clash w ⟨a,b,c,d,e⟩))) []):=by
 rw [ev_call P_z_265 rfl]
 unfold clash
 cases h1:a==w.task
 ·simp [F_z_265,h1]
 ·cases h2:e == -1
  ·cases h3:w.case == -1<;>simp [F_z_265,h1,h2,h3]
  ·simp [F_z_265,h1,h2]
theorem ev_fineq (qn:Bool) (pre:List W) (w:W) (r:List W) (hn:(pre++w::r).length≤1000000) :
  ev P (.call z_227 [.d (qD qn (pre++w::r)),.d (I' pre.length)] [])=some (.val (.d (.b (fC pre w))) []):=by
 have hI:=ev_ContainsFunc (f:=z_265) (first:=[]) (caps:=[.ref [I' w.task,I' w.op,I' w.value,I' w.prio,I' w.case]]) (p:=clash w) qn pre (by simp at hn;omega) (by intro a b c d e;exact ev_fineC1 w a b c d e)
 have hg:(pre++w::r)[pre.length]?=some w:=by simp
 have e1:List.take pre.length ((pre++w::r).map W.row)=pre.map W.row:=by rw [List.map_append];simp [List.take_append]
 have hle:(pre.length:Int)≤(pre++w::r).length:=by simp;omega
 rw [ev_call P_z_227 rfl]
 unfold fC
 generalize hQ:pre++w::r=Q at *
 generalize pre.any (clash w)=b at *
 cases h0:fC0 w
 ·unfold fC0 at h0
  try simp at hI
  simp [F_z_227,hg,W.row,h0,hle,e1,allD,hI]
 ·unfold fC0 at h0
  simp [F_z_227,hg,W.row,h0]
theorem loop_ckC (o:List D) (d0 d1 d2 d3 d5 d6 d7 d8:D) (qn:Bool) (Q:List W) (hn:Q.length≤1000000):∀(suf pre:List W),Q=pre++suf →
  ev P (.loop 0 [2,3,53,54] F_z_156_L0 [(2,.d (.ref o)),(3,.d (.ref [d0,d1,d2,d3,qD qn Q,d5,d6,d7,d8])),(53,.d (I' Q.length)),(54,.d (I' pre.length))] []) =
   if qall fC pre suf=true then some (.out (.exit 0) [(2,.d (.ref o)),(3,.d (.ref [d0,d1,d2,d3,qD qn Q,d5,d6,d7,d8]))] []) else some (.out .ret [(4,.d (.b false))] []):=by
 intro suf
 induction suf with
 | nil =>
  intro pre hl
  have:Q.length=pre.length:=by simp [hl]
  rw [ev_loop]
  conv=>lhs;arg 4;unfold F_z_156_L0
  simp [this,qall]
 | cons w suf ih =>
  intro pre hl
  have hlt:(pre.length:Int)<Q.length:=by simp [hl];omega
  have hnext:IntKind.i64.wrap ((pre.length:Int)+1)=pre.length+1:=wrap_i64 (by omega) (by omega)
  have ih':=ih (pre++[w]) (by simp [hl])
  have hw:=ev_fineq qn pre w suf (by rw [←hl];exact hn)
  rw [←hl] at hw
  generalize hR:(if qall fC (pre++[w]) suf=true then some (Res.out (.exit 0) [(2,V.d (.ref o)),(3,V.d (.ref [d0,d1,d2,d3,qD qn Q,d5,d6,d7,d8]))] []) else some (.out .ret [(4,.d (.b false))] []))=R at ih'
  rw [ev_loop]
  conv=>lhs;arg 4;unfold F_z_156_L0
  cases hf:fC pre w
  ·rw [hf] at hw
   simp [hlt,hw,qall,hf]
  ·rw [hf] at hw
   have hq:qall fC pre (w::suf)=qall fC (pre++[w]) suf:=by simp [qall,hf]
   rw [hq,hR]
   simp at ih'
   simp [hlt,hw,hnext]
   exact ih'
def okCq (sz:Int) (s:S):Bool:=!okCb sz s&&(!(s.B.any fun n=>!num n)&&(wchk s.Q==0&&(qall fC [] s.Q&&((!s.cl||(s.Q.length:Int)==0)&&!s.Q.any (cvn sz s.B.length s.Q)))))
theorem ev_vCq (nm:D) (k sz ot:Int) (s:S) (hs:s.sm):ev P (.call z_156 [.d (.ag [nm,I' k,I' sz,I' ot]),.d (.ag s.row)] [])=some (.val (.d (.b (okCq sz s))) []):=by
 obtain ⟨own,cnt,time,hn,H,qn,Q,bn,B,cn,C,cl,val⟩:=s
 obtain ⟨h1,h2,h3,h4,_⟩:=hs
 simp only at h1 h2 h3 h4
 have hw3:IntKind.i64.wrap ((H.length:Int)+C.length)=H.length+C.length:=wrap_i64 (by omega) (by omega)
 have hB:=ev_ContI (f:=z_226) (first:=[]) (caps:=[]) (p:=fun n=>!num n) bn B h2 (by intro a;simp [ev_validC1])
 have hV:=ev_vainCq nm k sz ot (I' own) (I' cnt) (I' time) (hD hn H) (cD cn C) (.b cl) (I' val) bn qn B Q (by omega)
 have hl:=loop_ckC [nm,I' k,I' sz,I' ot] (I' own) (I' cnt) (I' time) (hD hn H) (hD bn B) (cD cn C) (.b cl) (I' val) qn Q (by omega) Q [] rfl
 simp at hl
 have hW:=ev_wCheck qn Q
 unfold okCq
 simp only
 rw [ev_call P_z_156 rfl]
 generalize (B.any fun n=>!num n)=bb at *
 generalize (Q.any (cvn sz B.length Q))=vv at *
 cases hA:okCb sz ⟨own,cnt,time,hn,H,qn,Q,bn,B,cn,C,cl,val⟩
 ·unfold okCb at hA
  simp only at hA
  cases bb
  ·cases hw:wchk Q==0
   ·have hw':(wchk Q != 0)=true:=by rw [bne,hw];rfl
    simp [F_z_156,hA,hw3,hB,hW,hw']
   ·have hw':(wchk Q != 0)=false:=by rw [bne,hw];rfl
    cases hq:qall fC [] Q
    ·rw [hq] at hl
     simp [F_z_156,hA,hw3,hB,hW,hw',hl]
    ·rw [hq] at hl
     cases hc:(!cl||(Q.length:Int)==0)
     ·simp [F_z_156,hA,hw3,hB,hW,hw',hl,hc]
     ·simp [F_z_156,hA,hw3,hB,hW,hw',hl,hc,hV]
  ·simp [F_z_156,hA,hw3,hB]
 ·unfold okCb at hA
  simp only at hA
  simp [F_z_156,hA,hw3]
theorem ev_ckCq (nm:D) (k sz ot:Int) (s:S) (hs:s.sm) :
  ev P (.call z_83 [.d (.ag [nm,I' k,I' sz,I' ot]),.d (.ag s.row)] [])=some (.val (.d (I' (ck (nwC k sz ot) (okCq sz s)))) []):=by
 have hv:=ev_vCq nm k sz ot s hs
 rw [ev_call P_z_83 rfl]
 unfold ck
 cases hm:nwC k sz ot==0
 ·have hm':nwC k sz ot≠0:=by simpa using hm
  have hm2:(nwC k sz ot != 0)=true:=by simpa using hm'
  simp [F_z_83,ev_nwC,hm',hm2,zrow]
 ·have hm':nwC k sz ot=0:=by simpa using hm
  generalize okCq sz s=b at *
  cases b<;>simp [F_z_83,ev_nwC,hm',frow,hv]
end Go.VS.Sp
namespace Go.VS.Sp
def fF (pre:List W) (w:W):Bool:=!(pre.any (fun x=>x.task==w.task)||w.op != 74||w.value != 0||w.case != -1)
theorem loop_quF (d0 d1 d2 d3 d5 d6 d7 d8:D) (qn:Bool) (Q:List W) (hn:Q.length≤1000000):∀(suf pre:List W),Q=pre++suf →
  ev P (.loop 0 [1,9,10,11] F_z_249_L0 [(1,.d (.ref [d0,d1,d2,d3,qD qn Q,d5,d6,d7,d8])),(9,.d (qD qn Q)),(10,.d (I' Q.length)),(11,.d (I' pre.length))] []) =
   if qall fF pre suf=true then some (.out (.exit 0) [(1,.d (.ref [d0,d1,d2,d3,qD qn Q,d5,d6,d7,d8]))] []) else some (.out .ret [(2,.d (.b false))] []):=by
 intro suf
 induction suf with
 | nil =>
  intro pre hl
  have:Q.length=pre.length:=by simp [hl]
  rw [ev_loop]
  conv=>lhs;arg 4;unfold F_z_249_L0
  simp [this,qall]
 | cons w suf ih =>
  intro pre hl
  have hg:Q[pre.length]?=some w:=by simp [hl]
  have hlt:(pre.length:Int)<Q.length:=by simp [hl];omega
  have hnext:IntKind.i64.wrap ((pre.length:Int)+1)=pre.length+1:=wrap_i64 (by omega) (by omega)
  have ih':=ih (pre++[w]) (by simp [hl])
  have hF:=ev_wFind qn Q w.task hn
  have hfd:=fd_eq (pre:=pre) (w:=w) (r:=suf)
  rw [←hl] at hfd
  generalize fdS Q w.task=p at *
  obtain ⟨p1,p2⟩:=p
  simp only at hfd
  have hb:(p1 != (pre.length:Int))=pre.any fun x=>x.task==w.task:=by rw [bne,hfd];simp
  generalize hR:(if qall fF (pre++[w]) suf=true then some (Res.out (.exit 0) [(1,V.d (.ref [d0,d1,d2,d3,qD qn Q,d5,d6,d7,d8]))] []) else some (.out .ret [(2,.d (.b false))] []))=R at ih'
  rw [ev_loop]
  conv=>lhs;arg 4;unfold F_z_249_L0
  cases hf:(p1 != (pre.length:Int)||w.op != 74||w.value != 0||w.case != -1)
  ·have hq:qall fF pre (w::suf)=qall fF (pre++[w]) suf:=by
    rw [hb] at hf
    simp only [qall,fF,hf,Bool.not_false,Bool.true_and]
   rw [hq,hR]
   simp at ih'
   simp [hlt,hg,W.row,hF,hf,hnext]
   exact ih'
  ·have hq:qall fF pre (w::suf)=false:=by
    rw [hb] at hf
    simp only [qall,fF,hf,Bool.not_true,Bool.false_and]
   rw [hq]
   simp [hlt,hg,W.row,hF,hf]
theorem ev_quFq (d0 d1 d2 d3 d5 d6 d7 d8:D) (qn:Bool) (Q:List W) (hn:Q.length≤1000000):ev P (.call z_249 [.d (.ag [d0,d1,d2,d3,qD qn Q,d5,d6,d7,d8])] [])=some (.val (.d (.b (qall fF [] Q&&wchk Q==0))) []):=by
 have hl:=loop_quF d0 d1 d2 d3 d5 d6 d7 d8 qn Q hn Q [] rfl
 simp at hl
 have hW:=ev_wCheck qn Q
 rw [ev_call P_z_249 rfl]
 cases hq:qall fF [] Q
 ·rw [hq] at hl
  simp [F_z_249,hl]
 ·rw [hq] at hl
  cases hw:wchk Q==0<;>simp [F_z_249,hl,hW,hw]
theorem ev_plainFq {own cnt time val:Int} {hn qn bn cn cl:Bool} {H B:List Int} {Q:List W} {C:List K}:ev P (.call z_248 [.d (.ag [I' own,I' cnt,I' time,hD hn H,qD qn Q,hD bn B,cD cn C,.b cl,I' val])] [])=some (.val (.d (.b (okFp ⟨own,cnt,time,hn,H,qn,Q,bn,B,cn,C,cl,val⟩))) []):=by
 rw [ev_call P_z_248 rfl]
 unfold okFp
 simp [F_z_248,lenz]
def okFq (s:S):Bool:=okFp s&&(num s.val&&((qall fF [] s.Q&&wchk s.Q==0)&&(if s.cl then (s.Q.length:Int)==0 else s.val==0)))
theorem ev_vFq (s:S) (hs:s.sm):ev P (.call z_183 [.d (.ag s.row)] [])=some (.val (.d (.b (okFq s))) []):=by
 obtain ⟨own,cnt,time,hn,H,qn,Q,bn,B,cn,C,cl,val⟩:=s
 have h3:=hs.q
 simp only at h3
 have hP:=ev_plainFq (own:=own) (cnt:=cnt) (time:=time) (val:=val) (hn:=hn) (qn:=qn) (bn:=bn) (cn:=cn) (cl:=cl) (H:=H) (B:=B) (C:=C) (Q:=Q)
 have hQ:=ev_quFq (I' own) (I' cnt) (I' time) (hD hn H) (hD bn B) (cD cn C) (.b cl) (I' val) qn Q (by omega)
 unfold okFq
 simp only
 generalize okFp ⟨own,cnt,time,hn,H,qn,Q,bn,B,cn,C,cl,val⟩=pl at *
 generalize (qall fF [] Q&&wchk Q==0)=qq at *
 rw [ev_call P_z_183 rfl]
 cases pl
 ·simp [F_z_183,hP]
 ·cases hv:num val
  ·simp [F_z_183,hP,ev_numF,hv]
  ·cases qq
   ·simp [F_z_183,hP,ev_numF,hv,hQ]
   ·cases cl<;>simp [F_z_183,hP,ev_numF,hv,hQ]
theorem ev_ckFq (nm:D) (k sz ot:Int) (s:S) (hs:s.sm) :
  ev P (.call z_98 [.d (.ag [nm,I' k,I' sz,I' ot]),.d (.ag s.row)] [])=some (.val (.d (I' (ck (nwA 9 k sz ot) (okFq s)))) []):=by
 have hv:=ev_vFq s hs
 rw [ev_call P_z_98 rfl]
 unfold ck
 cases hm:nwA 9 k sz ot==0
 ·have hm':nwA 9 k sz ot≠0:=by simpa using hm
  have hm2:(nwA 9 k sz ot != 0)=true:=by simpa using hm'
  simp [F_z_98,ev_nwF,hm',hm2,zrow]
 ·have hm':nwA 9 k sz ot=0:=by simpa using hm
  generalize okFq s=b at *
  cases b<;>simp [F_z_98,ev_nwF,hm',frow,hv]
end Go.VS.Sp
namespace Go.VS.M
open Go.VS.Sp
def isTask (n:Int):Bool:=decide (0≤n)&&decide (n<16)
theorem ev_isTask (n:Int):ev P (.call z_127 [.d (I' n)] [])=some (.val (.d (.b (isTask n))) []):=by
 rw [ev_call P_z_127 rfl]
 simp [F_z_127,isTask]
def wbad (w:Sp.W):Bool:=(decide (w.task<0)||decide (16≤w.task)||decide (w.op<1)||decide (99<w.op)||decide (w.value < -1099511627776)||decide (1099511627776<w.value))
def wvalid (w:Sp.W):Bool:=!wbad w&&(decide (0≤w.prio)&&decide (w.prio≤9)&&decide (-1≤w.case)&&decide (w.case<6))
theorem ev_wvalid (a b c d e:Int):ev P (.call z_218 [.d (.ag [I' a,I' b,I' c,I' d,I' e])] [])=some (.val (.d (.b (wvalid ⟨a,b,c,d,e⟩))) []):=by
 rw [ev_call P_z_218 rfl]
 cases h:wbad ⟨a,b,c,d,e⟩<;>simp only [wvalid,h]<;>unfold wbad at h<;>simp [F_z_218,Sp.W.row,h]
def wcheckFrom (d:Int) (prev:Option Sp.W):List Sp.W→Int
 | []=>0
 | w::r=>if wvalid w=false then 2 else if d=2∧(prev.any fun p=>decide (p.prio<w.prio))=true then 9 else wcheckFrom d (some w) r
theorem wrap1:IntKind.i64.wrap 1=1:=by decide
theorem loop_wcheck (d:Int) (nl:Bool) (l:List Sp.W) (hn:l.length≤96):∀(suf pre:List Sp.W),l=pre++suf →
  ev P (.loop 0 [0,1,16,17,18] F_z_142_L0 [(0,.d (I' d)),(1,.d (.sl 5 nl (l.map Sp.W.row))),(16,.d (.sl 5 nl (l.map Sp.W.row))),(17,.d (I' l.length)),(18,.d (I' pre.length))] []) =
   if wcheckFrom d pre.getLast? suf=0 then some (.out (.exit 0) [] []) else some (.out .ret [(4,.d (I' (wcheckFrom d pre.getLast? suf)))] []):=by
 intro suf
 induction suf with
 | nil =>
  intro pre hl
  have:l.length=pre.length:=by simp [hl]
  rw [ev_loop]
  conv=>lhs;arg 4;unfold F_z_142_L0
  simp [this,wcheckFrom]
 | cons w suf ih =>
  intro pre hl
  have hg:l[pre.length]?=some w:=by simp [hl]
  have hlt:(pre.length:Int)<l.length:=by simp [hl];omega
  rw [ev_loop]
  conv=>lhs;arg 4;unfold F_z_142_L0
  simp [hlt,hg,Sp.W.row,ev_wvalid]
  cases hv:wvalid w
  ·simp [wcheckFrom,hv]
  ·simp
   have hnext:IntKind.i64.wrap ((pre.length:Int)+1)=pre.length+1:=wrap_i64 (by omega) (by omega)
   have ih':=ih (pre++[w]) (by simp [hl])
   simp at ih'
   rcases List.eq_nil_or_concat pre with rfl | ⟨pre',p,rfl⟩
   ·simp [wcheckFrom,hv,wrap1] at *
    exact ih'
   ·have hgp:l[pre'.length]?=some p:=by simp [hl]
    have hlen:((pre'.length:Int)+1<l.length):=by simp [hl];omega
    have hw:IntKind.i64.wrap ((pre'.length:Int)+1 - 1)=pre'.length:=by rw [wrap_i64 (by omega) (by omega)];omega
    have h0:(0:Int)<pre'.length+1:=by omega
    have hw2:IntKind.i64.wrap (pre'.length:Int)=pre'.length:=wrap_i64 (by omega) (by omega)
    have hw3:IntKind.i64.wrap ((pre'.length:Int)+1+1)=pre'.length+1+1:=wrap_i64 (by omega) (by omega)
    simp at ih'
    by_cases hd:d=2
    ·by_cases hp:p.prio<w.prio
     ·subst hd
      simp [wcheckFrom,hv,hp,hw2,hw3,hgp,Sp.W.row,h0]
     ·subst hd
      simp [wcheckFrom,hv,hp,hw2,hw3,hgp,Sp.W.row,h0]
      exact ih'
    ·have hd2:(d==2)=false:=by simp [hd]
     simp [wcheckFrom,hv,hd,hd2,hw2,hw3,hgp,Sp.W.row,h0]
     exact ih'
def wchk (l:List Sp.W):Int:=if 96<l.length then 4 else wcheckFrom 2 none l
theorem ev_wCheck (nl:Bool) (l:List Sp.W):ev P (.call z_142 [.d (I' 2),.d (.sl 5 nl (l.map Sp.W.row))] []) =
  some (.val (.d (I' (wchk l))) []):=by
 unfold wchk
 rw [ev_call P_z_142 rfl]
 by_cases h:96<l.length
 ·have h':(96:Int)<l.length:=by omega
  simp [F_z_142,h,h']
 ·have h':¬(96:Int)<l.length:=by omega
  have hl:=loop_wcheck 2 nl l (by omega) l [] rfl
  simp at hl
  simp [F_z_142,h,h',hl]
  by_cases hc:wcheckFrom 2 none l=0<;>simp [hc]
theorem allD_map':∀(ds:List D),allD (ds.map V.d)=some ds
 | []=>rfl
 | d::ds=>by simp [allD_map' ds]
theorem allD_mid {a b:List D} {x:D}:allD (a.map V.d++.d x::b.map V.d)=some (a++x::b):=by
 have:=allD_map' (a++x::b)
 simpa using this
def idx (p:Sp.W→Bool):Int→List Sp.W→Int
 | _,[]=>-1
 | k,w::r=>if p w then k else idx p (k+1) r
theorem loop_IndexFunc {f:Nat} {first caps:List D} {p:Sp.W→Bool} (nl:Bool) (l:List Sp.W) (hn:l.length≤1000000)
  (hp:∀a b c d e,ev P (.call f (first.map V.d++[.d (.ag [I' a,I' b,I' c,I' d,I' e])]++caps.map V.d) [])=some (.val (.d (.b (p ⟨a,b,c,d,e⟩))) [])) :
  ∀(suf pre:List Sp.W),l=pre++suf →
  ev P (.loop 0 [0,1,7,8] F_z_123_L0 [(0,.d (.sl 5 nl (l.map Sp.W.row))),(1,.d (.fn f first caps)),(7,.d (I' l.length)),(8,.d (I' pre.length))] []) =
   if idx p pre.length suf = -1 then some (.out (.exit 0) [] []) else some (.out .ret [(4,.d (I' (idx p pre.length suf)))] []):=by
 intro suf
 induction suf with
 | nil =>
  intro pre hl
  have:l.length=pre.length:=by simp [hl]
  rw [ev_loop]
  conv=>lhs;arg 4;unfold F_z_123_L0
  simp [this,idx]
 | cons w suf ih =>
  intro pre hl
  have hg:l[pre.length]?=some w:=by simp [hl]
  have hlt:(pre.length:Int)<l.length:=by simp [hl];omega
  have hnext:IntKind.i64.wrap ((pre.length:Int)+1)=pre.length+1:=wrap_i64 (by omega) (by omega)
  have ih':=ih (pre++[w]) (by simp [hl])
  simp at ih' hp
  rw [ev_loop]
  conv=>lhs;arg 4;unfold F_z_123_L0
  simp [hlt,hg,Sp.W.row,hp,allD_mid]
  cases hw:p w
  ·simp [idx,hw,hnext]
   exact ih'
  ·have:¬(pre.length:Int) = -1:=by omega
   simp [idx,hw,this]
theorem ev_IndexFunc {f:Nat} {first caps:List D} {p:Sp.W→Bool} (nl:Bool) (l:List Sp.W) (hn:l.length≤1000000)
  (hp:∀a b c d e,ev P (.call f (first.map V.d++[.d (.ag [I' a,I' b,I' c,I' d,I' e])]++caps.map V.d) [])=some (.val (.d (.b (p ⟨a,b,c,d,e⟩))) [])) :
  ev P (.call z_123 [.d (.sl 5 nl (l.map Sp.W.row)),.d (.fn f first caps)] [])=some (.val (.d (I' (idx p 0 l))) []):=by
 rw [ev_call P_z_123 rfl]
 have hl:=loop_IndexFunc nl l hn hp l [] rfl
 simp at hl
 simp [F_z_123,hl]
 by_cases hc:idx p 0 l = -1<;>simp [hc]
theorem idx_any {p:Sp.W→Bool}:∀{l:List Sp.W} {k:Int},0≤k→(0≤idx p k l↔l.any p=true)
 | [],k,_=>by simp [idx]
 | w::r,k,hk=>by
  by_cases hw:p w=true
  ·simp [idx,hw,hk]
  ·simp [idx,hw,idx_any (l:=r) (k:=k+1) (by omega)]
theorem ev_ContainsFunc {f:Nat} {first caps:List D} {p:Sp.W→Bool} (nl:Bool) (l:List Sp.W) (hn:l.length≤1000000)
  (hp:∀a b c d e,ev P (.call f (first.map V.d++[.d (.ag [I' a,I' b,I' c,I' d,I' e])]++caps.map V.d) [])=some (.val (.d (.b (p ⟨a,b,c,d,e⟩))) [])) :
  ev P (.call z_57 [.d (.sl 5 nl (l.map Sp.W.row)),.d (.fn f first caps)] [])=some (.val (.d (.b (l.any p))) []):=by
 rw [ev_call P_z_57 rfl]
 have hi:=ev_IndexFunc nl l hn hp
 simp [F_z_57,hi]
 have:=idx_any (p:=p) (l:=l) (k:=0) (by omega)
 cases ha:l.any p
 ·have hc:¬0≤idx p 0 l:=fun h=>by rw [this.1 h] at ha;cases ha
  simp [hc]
 ·have hc:0≤idx p 0 l:=this.2 ha
  simp [hc]
theorem ev_waitsC1 (t a b c d e:Int):ev P (.call z_210 [.d (.ag [I' a,I' b,I' c,I' d,I' e]),.d (.ref [I' t])] [])=some (.val (.d (.b (a==t))) []):=by
 rw [ev_call P_z_210 rfl]
 simp [F_z_210]
theorem ev_validC1 (a b c d e a' b' c' d' e':Int):ev P (.call z_206 [.d (.ag [I' a,I' b,I' c,I' d,I' e]),.d (.ref [I' a',I' b',I' c',I' d',I' e'])] [])=some (.val (.d (.b (a==a'))) []):=by
 rw [ev_call P_z_206 rfl]
 simp [F_z_206]
theorem ev_RemoveC1 (t a b c d e:Int):ev P (.call z_212 [.d (.ag [I' a,I' b,I' c,I' d,I' e]),.d (.ref [I' t])] [])=some (.val (.d (.b (a != t))) []):=by
 rw [ev_call P_z_212 rfl]
 simp [F_z_212]
theorem ev_waits {own cnt time:Int} {h1 h2 h3:D} {qn:Bool} {q:List Sp.W} {cl:Bool} {val:Int} (t:Int) (hn:q.length≤1000000) :
  ev P (.call z_128 [.d (.ag [I' own,I' cnt,I' time,h1,.sl 5 qn (q.map Sp.W.row),h2,h3,.b cl,I' val]),.d (I' t)] [])=some (.val (.d (.b (q.any fun w=>w.task==t))) []):=by
 rw [ev_call P_z_128 rfl]
 have:=ev_ContainsFunc (f:=z_210) (first:=[]) (caps:=[.ref [I' t]]) (p:=fun w=>w.task==t) qn q hn (by intro a b c d e;simp [ev_waitsC1])
 simp [F_z_128,this]
def accV (es:Nat) (z:V):List (List D)→V
 | []=>z
 | r::rs=>.asl 0 0 (r::rs).length
def accH (es:Nat):List (List D)→List O
 | []=>[]
 | r::rs=>[.arrD es true (r::rs)]
theorem take_map_len {α β:Type} {f:α→β} {r:List α}:List.take r.length (r.map f)=r.map f:=List.take_of_length_le (by simp)
theorem drop_map_len {α β:Type} {f:α→β} {r:List α}:List.drop (r.length+1) (r.map f)=[]:=List.drop_eq_nil_of_le (by simp)
theorem loop_filter {f:Nat} {first caps:List D} {p:Sp.W→Bool} (nl:Bool) (l:List Sp.W) (hn:l.length≤1000000)
  (hp:∀a b c d e,ev P (.call f (first.map V.d++[.d (.ag [I' a,I' b,I' c,I' d,I' e])]++caps.map V.d) [])=some (.val (.d (.b (p ⟨a,b,c,d,e⟩))) []))
  (R:Option Res) (hR:R=some (.out (.exit 0) [(5,accV 5 (.d (.sl 5 true [])) ((l.filter p).map Sp.W.row))] (accH 5 ((l.filter p).map Sp.W.row)))) :
  ∀(suf pre:List Sp.W),l=pre++suf →
  ev P (.loop 0 [1,5,8,9,10] F_z_211_L0 [(1,.d (.fn f first caps)),(5,accV 5 (.d (.sl 5 true [])) ((pre.filter p).map Sp.W.row)),(8,.d (.sl 5 nl (l.map Sp.W.row))),(9,.d (I' l.length)),(10,.d (I' pre.length))] (accH 5 ((pre.filter p).map Sp.W.row)))=R:=by
 intro suf
 induction suf with
 | nil =>
  intro pre hl
  have hlp:l=pre:=by simp [hl]
  subst hlp
  rw [ev_loop,hR]
  conv=>lhs;arg 4;unfold F_z_211_L0
  cases hf:l.filter p with
  | nil=>simp [accV,accH]
  | cons a r=>simp [accV,accH,reachC,cut,Sp.W.row]
 | cons w suf ih =>
  intro pre hl
  clear hR
  have hg:l[pre.length]?=some w:=by simp [hl]
  have hlt:(pre.length:Int)<l.length:=by simp [hl];omega
  have hnext:IntKind.i64.wrap ((pre.length:Int)+1)=pre.length+1:=wrap_i64 (by omega) (by omega)
  have ih':=ih (pre++[w]) (by simp [hl])
  simp at ih' hp
  rw [ev_loop]
  conv=>lhs;arg 4;unfold F_z_211_L0
  cases hf:pre.filter p with
  | nil =>
   simp [hlt,hg,Sp.W.row,hp,allD_mid,accV,accH]
   cases hw:p w
   ·simp [hw,hnext,hf,accV,accH,reachC] at ih' ⊢
    exact ih'
   ·have hr:1≤room:=by decide
    simp [hw,hnext,hf,hr,accV,accH,reachC,Sp.W.row] at ih' ⊢
    exact ih'
  | cons a r =>
   have hrl:r.length<1000000:=by
    have h1:(pre.filter p).length≤pre.length:=List.length_filter_le _ _
    have h2:pre.length≤l.length:=by simp [hl]
    rw [hf] at h1;simp at h1;omega
   have hr:r.length+1+1≤room:=by unfold room;omega
   simp [hlt,hg,Sp.W.row,hp,allD_mid,accV,accH]
   cases hw:p w
   ·simp [hw,hnext,hf,accV,accH,reachC,Sp.W.row] at ih' ⊢
    exact ih'
   ·simp [hw,hnext,hf,hr,accV,accH,reachC,Sp.W.row,overlay,take_map_len,drop_map_len,Nat.not_succ_le_self] at ih' ⊢
    exact ih'
theorem ev_Remove (nl:Bool) (l:List Sp.W) (t:Int) (hn:l.length≤1000000) :
  ev P (.call z_129 [.d (.sl 5 nl (l.map Sp.W.row)),.d (I' t)] [])=some (.val (.d (.sl 5 (l.filter fun w=>w.task != t).isEmpty ((l.filter fun w=>w.task != t).map Sp.W.row))) []):=by
 have hf:ev P (.call z_211 [.d (.sl 5 nl (l.map Sp.W.row)),.d (.fn z_212 [] [.ref [I' t]])] [])=some (.val (.d (.sl 5 (l.filter fun w=>w.task != t).isEmpty ((l.filter fun w=>w.task != t).map Sp.W.row))) []):=by
  rw [ev_call P_z_211 rfl]
  have hl:=loop_filter (f:=z_212) (first:=[]) (caps:=[.ref [I' t]]) (p:=fun w=>w.task != t) nl l hn (by intro a b c d e;simp [ev_RemoveC1]) _ rfl l [] rfl
  simp [accV,accH] at hl
  simp [F_z_211,hl]
  cases hf:l.filter fun w=>w.task != t with
  | nil=>simp
  | cons a r=>simp [reachC,cut,Sp.W.row,take_map_len]
 rw [ev_call P_z_129 rfl]
 simp [F_z_129,hf]
def qbad (own:Int) (w:Sp.W):Bool:=w.op != 50||w.value != 0||w.case != -1||w.task==own
def qcheck (own:Int):List Sp.W→List Sp.W→Bool
 | _,[]=>true
 | pre,w::r=>!qbad own w&&!pre.any (fun x=>x.task==w.task)&&qcheck own (pre++[w]) r
theorem loop_valid {own cnt time:Int} {h1 h2 h3:D} {cl:Bool} {val:Int} (nl:Bool) (l:List Sp.W) (hn:l.length≤1000000) :
  ∀(suf pre:List Sp.W),l=pre++suf →
  ev P (.loop 0 [1,61,62,63] F_z_125_L0 [(1,.d (.ref [I' own,I' cnt,I' time,h1,.sl 5 nl (l.map Sp.W.row),h2,h3,.b cl,I' val])),(61,.d (.sl 5 nl (l.map Sp.W.row))),(62,.d (I' l.length)),(63,.d (I' pre.length))] []) =
   if qcheck own pre suf=true then some (.out (.exit 0) [] []) else some (.out .ret [(2,.d (.b false))] []):=by
 intro suf
 induction suf with
 | nil =>
  intro pre hl
  have:l.length=pre.length:=by simp [hl]
  rw [ev_loop]
  conv=>lhs;arg 4;unfold F_z_125_L0
  simp [this,qcheck]
 | cons w suf ih =>
  intro pre hl
  have hg:l[pre.length]?=some w:=by simp [hl]
  have hlt:(pre.length:Int)<l.length:=by simp [hl];omega
  have hnext:IntKind.i64.wrap ((pre.length:Int)+1)=pre.length+1:=wrap_i64 (by omega) (by omega)
  have ih':=ih (pre++[w]) (by simp [hl])
  have hsub:(l.map Sp.W.row).take pre.length=pre.map Sp.W.row:=by simp [hl]
  have hle:pre.length≤l.length:=by simp [hl]
  have hc:=ev_ContainsFunc (f:=z_206) (first:=[]) (caps:=[.ref w.row]) (p:=fun x=>x.task==w.task) nl pre (by have:pre.length≤l.length:=by { simp [hl] };omega) (by intro a b c d e;simp [Sp.W.row,ev_validC1])
  simp [Sp.W.row] at ih' hc
  rw [ev_loop]
  conv=>lhs;arg 4;unfold F_z_125_L0
  simp [hlt,hg,Sp.W.row,hsub]
  cases hq:(w.op != 50||w.value != 0||w.case != -1||w.task==own)
  ·simp [hg,hlt,Sp.W.row,hsub,hc,hle]
   have hq':qbad own w=false:=hq
   cases ha:pre.any fun x=>x.task==w.task
   ·simp only [ha,hq',qcheck,Bool.not_false,Bool.true_and]
    simp [hnext]
    exact ih'
   ·simp only [ha,hq',qcheck,Bool.not_false,Bool.not_true,Bool.true_and,Bool.false_and]
    simp
  ·have hq':qbad own w=true:=hq
   simp [hq',qcheck]
end Go.VS.M
namespace Go.VS.M
open Go.VS.Sp
abbrev rows1 (l:List Int):List (List D):=l.map fun x=>[I' x]
abbrev hD (n:Bool) (l:List Int):D:=.sl 1 n (rows1 l)
abbrev qD (n:Bool) (l:List Sp.W):D:=.sl 5 n (l.map Sp.W.row)
abbrev cD (n:Bool) (l:List (List D)):D:=.sl 2 n l
def mvalid (own cnt time:Int) (hs:List Int) (q:List Sp.W) (bs:List Int) (cs:List (List D)) (cl:Bool) (val:Int):Bool :=
 !((own != -1&&!isTask own)||(own == -1&&decide (0<q.length)))&&!(cnt != 0||time != 0||val != 0||cl||decide ((0:Int)<hs.length+bs.length+cs.length))&&wchk q==0&&qcheck own [] q
theorem ev_mvalid (own cnt time:Int) (hn:Bool) (hs:List Int) (qn:Bool) (q:List Sp.W) (bn:Bool) (bs:List Int) (cn:Bool) (cs:List (List D)) (cl:Bool) (val:Int)
  (h1:hs.length≤1000000) (h2:q.length≤1000000) (h3:bs.length≤1000000) (h4:cs.length≤1000000) :
  ev P (.call z_125 [.d (.ag [I' own,I' cnt,I' time,hD hn hs,qD qn q,hD bn bs,cD cn cs,.b cl,I' val])] [])=some (.val (.d (.b (mvalid own cnt time hs q bs cs cl val))) []):=by
 rw [ev_call P_z_125 rfl]
 have hl:=loop_valid (own:=own) (cnt:=cnt) (time:=time) (h1:=hD hn hs) (h2:=hD bn bs) (h3:=cD cn cs) (cl:=cl) (val:=val) qn q h2 q [] rfl
 simp at hl
 simp [F_z_125,ev_isTask]
 cases hA:(own != -1&&!isTask own||own == -1&&decide (0<q.length))
 ·simp
  rw [wrap_i64 (x:=(hs.length:Int)+bs.length) (by omega) (by omega),wrap_i64 (x:=(hs.length:Int)+bs.length+cs.length) (by omega) (by omega)]
  cases hB:(cnt != 0||time != 0||val != 0||cl||decide ((0:Int)<hs.length+bs.length+cs.length))
  ·simp [ev_wCheck]
   cases hC:wchk q==0
   ·have hC':(wchk q != 0)=true:=by simp [bne,hC]
    simp only [hC',mvalid,hA,hB,hC]
    simp
   ·have hC':(wchk q != 0)=false:=by simp [bne,hC]
    simp only [hC',mvalid,hA,hB,hC]
    simp [hl]
    cases qcheck own [] q<;>simp
  ·simp [mvalid,hA,hB]
 ·simp [mvalid,hA]
def mnew (k sz ot:Int):Int:=if (k != 1)=true then 8 else if (sz != 0||ot != 0)=true then 2 else 0
def zrow:List D:=[I' 0,I' 0,I' 0,hD true [],qD true [],hD true [],cD true [],.b false,I' 0]
def frow:List D:=[I' (-1),I' 0,I' 0,hD true [],qD true [],hD true [],cD true [],.b false,I' 0]
theorem ev_mNew (nm:D) (k sz ot:Int):ev P (.call z_62 [.d (.ag [nm,I' k,I' sz,I' ot])] []) =
  some (.val (.tu [.d (.ag (if mnew k sz ot=0 then frow else zrow)),.d (I' (mnew k sz ot))]) []):=by
 rw [ev_call P_z_62 rfl]
 cases h1:k != 1<;>simp only [mnew,h1]
 ·cases h2:sz != 0||ot != 0<;>simp [F_z_62,h1,h2,frow,zrow]
 ·simp [F_z_62,h1,zrow]
theorem ev_mCheck (nm:D) (k sz ot:Int) (own cnt time:Int) (hn:Bool) (hs:List Int) (qn:Bool) (q:List Sp.W) (bn:Bool) (bs:List Int) (cn:Bool) (cs:List (List D)) (cl:Bool) (val:Int)
  (h1:hs.length≤1000000) (h2:q.length≤1000000) (h3:bs.length≤1000000) (h4:cs.length≤1000000) :
  ev P (.call z_63 [.d (.ag [nm,I' k,I' sz,I' ot]),.d (.ag [I' own,I' cnt,I' time,hD hn hs,qD qn q,hD bn bs,cD cn cs,.b cl,I' val])] []) =
   some (.val (.d (I' (if mnew k sz ot=0 then (if mvalid own cnt time hs q bs cs cl val then 0 else 1) else mnew k sz ot))) []):=by
 have hv:=ev_mvalid own cnt time hn hs qn q bn bs cn cs cl val h1 h2 h3 h4
 rw [ev_call P_z_63 rfl]
 cases hm:mnew k sz ot==0
 ·have hm':mnew k sz ot≠0:=by simpa using hm
  have hm2:(mnew k sz ot != 0)=true:=by simpa using hm'
  simp [F_z_63,ev_mNew,hm',hm2,zrow]
 ·have hm':mnew k sz ot=0:=by simpa using hm
  simp [F_z_63,ev_mNew,hm',frow,hv]
  cases mvalid own cnt time hs q bs cs cl val<;>simp
end Go.VS.M
namespace Go.VS.M
open Go.VS.Sp
theorem Sp.W.neq {w w':Sp.W} (h:¬w=w'):(!w.task==w'.task||(!w.op==w'.op||(!w.value==w'.value||(!w.prio==w'.prio||!w.case==w'.case))))=true:=by
 cases hb:(!w.task==w'.task||(!w.op==w'.op||(!w.value==w'.value||(!w.prio==w'.prio||!w.case==w'.case))))
 ·exfalso;apply h
  simp at hb
  cases w;cases w';simp at hb ⊢;exact hb
 ·rfl
end Go.VS.M
namespace Go.VS.M
open Go.VS.Sp
end Go.VS.M
namespace Go.VS.M
open Go.VS.Sp
def Desc (q:List Sp.W):Prop:=q.Pairwise fun a b=>b.prio≤a.prio
end Go.VS.M
namespace Go.VS.M
open Go.VS.Sp
structure Rp where
 own:Int
 q:List Sp.W
 parked:Bool
 ok:Bool
 wk:Option Int
 e:Int
 deriving DecidableEq
def zr (e:Int):Rp:=⟨0,[],false,false,none,e⟩
def wrow (t:Int):List D:=[I' t,I' 50,I' 0,.b true,I' (-1)]
def wks:Option Int→List (List D)
 | none=>[]
 | some t=>[wrow t]
@[simp] theorem wks_none:wks none=[]:=rfl
@[simp] theorem wks_some (t:Int):wks (some t)=[wrow t]:=rfl
abbrev rpL (hn qn bn cn wn:Bool) (r:Rp):List D :=
 [I' r.own,I' 0,I' 0,hD hn [],qD qn r.q,hD bn [],cD cn [],.b false,I' 0,.b r.parked,I' 0,.b r.ok,.sl 5 wn (wks r.wk)]
def Rets (x:Option Res) (r:Rp):Prop:=∃hn qn bn cn wn,x=some (.val (.tu [.d (.ag (rpL hn qn bn cn wn r)),.d (I' r.e)]) [])∧(qn=true→r.q=[])
end Go.VS.M
namespace Go.VS.M
open Go.VS.Sp
end Go.VS.M
namespace Go.VS.M
open Go.VS.Sp
structure MV (own:Int) (q:List Sp.W):Prop where
 rng:own = -1∨(0≤own∧own<16)
 free:own = -1→q=[]
 desc:Desc q
 dis:q.Pairwise fun a b=>a.task≠b.task
 all:∀w,w∈q→w.op=50∧w.value=0∧w.case = -1∧w.task≠own∧0≤w.task∧w.task<16∧0≤w.prio∧w.prio≤9
theorem wcheck_iff (d:Int) (hd:d=2):∀(suf:List Sp.W) (prev:Option Sp.W),wcheckFrom d prev suf=0↔(∀w,w∈suf→wvalid w=true)∧(prev.toList++suf).Pairwise (fun a b=>b.prio≤a.prio)
 | [],prev=>by cases prev<;>simp [wcheckFrom]
 | w::r,prev=>by
  have ih:=wcheck_iff d hd r (some w)
  unfold wcheckFrom
  cases hv:wvalid w
  ·simp [hv]
  ·cases prev with
   | none =>
    simp [hv,hd] at ih ⊢
    rw [ih]
   | some p =>
    simp only [Option.toList,List.singleton_append] at ih ⊢
    by_cases hp:p.prio<w.prio
    ·simp [hd,hp]
     omega
    ·simp [hd,hp] at ih ⊢
     rw [ih]
     constructor
     ·rintro ⟨h1,h2,h3⟩
      refine ⟨⟨hv,h1⟩,⟨by omega,?_⟩,h2,h3⟩
      intro a ha
      have:=h2 a ha;omega
     ·rintro ⟨⟨_,h1⟩,⟨_,_⟩,h2,h3⟩
      exact ⟨h1,h2,h3⟩
theorem qcheck_iff (own:Int):∀(suf pre:List Sp.W),qcheck own pre suf=true↔(∀w,w∈suf→qbad own w=false)∧(∀a,a∈pre→∀b,b∈suf→a.task≠b.task)∧suf.Pairwise (fun a b=>a.task≠b.task)
 | [],pre=>by simp [qcheck]
 | w::r,pre=>by
  have ih:=qcheck_iff own r (pre++[w])
  simp [qcheck,ih]
  constructor
  ·rintro ⟨⟨h1,h2⟩,h3,h4,h5⟩
   refine ⟨⟨h1,h3⟩,fun a ha=>⟨h2 a ha,fun b hb=>h4 a (.inl ha) b hb⟩,fun b hb=>h4 w (.inr rfl) b hb,h5⟩
  ·rintro ⟨⟨h1,h3⟩,h2,h4,h5⟩
   refine ⟨⟨h1,fun a ha=>(h2 a ha).1⟩,h3,?_,h5⟩
   rintro a (ha | rfl) b hb
   ·exact (h2 a ha).2 b hb
   ·exact h4 b hb
theorem mvalid_iff {own cnt time:Int} {hs:List Int} {q:List Sp.W} {bs:List Int} {cs:List (List D)} {cl:Bool} {val:Int} :
  mvalid own cnt time hs q bs cs cl val=true↔(cnt=0∧time=0∧hs=[]∧bs=[]∧cs=[]∧cl=false∧val=0)∧q.length≤96∧MV own q:=by
 by_cases h96:q.length≤96
 ·have h96':¬96<q.length:=by omega
  have e1:=wcheck_iff 2 rfl q none
  have e2:=qcheck_iff own q []
  simp at e1 e2
  have el:((hs.length:Int)+bs.length+cs.length≤0)↔(hs=[]∧bs=[])∧cs=[]:=by
   rw [←List.length_eq_zero_iff,←List.length_eq_zero_iff,←List.length_eq_zero_iff];omega
  simp [mvalid,wchk,h96,h96',e1,e2,el]
  constructor
  ·rintro ⟨⟨⟨⟨a1,a4⟩,⟨⟨⟨b1,b2⟩,b4⟩,b3⟩,⟨c1,c2⟩,c3⟩,v,d⟩,qb,dis⟩
   refine ⟨⟨b1,b2,c1,c2,c3,b3,b4⟩,?_,fun h=>a4.resolve_left (by simp [h]),d,dis,?_⟩
   ·simpa [isTask] using a1
   ·intro w hw
    have h1:=v w hw
    have h2:=qb w hw
    simp [wvalid,wbad] at h1
    simp [qbad] at h2
    omega
  ·rintro ⟨⟨b1,b2,c1,c2,c3,b3,b4⟩,m⟩
   refine ⟨⟨⟨⟨?_,?_⟩,⟨⟨⟨b1,b2⟩,b4⟩,b3⟩,⟨c1,c2⟩,c3⟩,?_,m.desc⟩,?_,m.dis⟩
   ·simpa [isTask] using m.rng
   ·by_cases h:own = -1
    ·exact .inr (m.free h)
    ·exact .inl h
   ·intro w hw
    have:=m.all w hw
    simp [wvalid,wbad]
    omega
   ·intro w hw
    have:=m.all w hw
    simp [qbad]
    omega
 ·have h96':96<q.length:=by omega
  simp [mvalid,wchk,h96',h96]
end Go.VS.M
namespace Go.VS.Sp
end Go.VS.Sp
namespace Go.VS.Sp
end Go.VS.Sp
namespace Go.VS.Sp
end Go.VS.Sp
namespace Go.VS.Sp
end Go.VS.Sp
namespace Go.VS.Sp
end Go.VS.Sp
namespace Go.VS.Sp
end Go.VS.Sp
namespace Go.VS.R
open Go.VS.Sp
def isTask (n:Int):Bool:=decide (0≤n)&&decide (n<16)
theorem ev_isTask (n:Int):ev P (.call z_131 [.d (I' n)] [])=some (.val (.d (.b (isTask n))) []):=by
 rw [ev_call P_z_131 rfl]
 simp [F_z_131,isTask]
def wbad (w:Sp.W):Bool:=(decide (w.task<0)||decide (16≤w.task)||decide (w.op<1)||decide (99<w.op)||decide (w.value < -1099511627776)||decide (1099511627776<w.value))
def wvalid (w:Sp.W):Bool:=!wbad w&&(decide (0≤w.prio)&&decide (w.prio≤9)&&decide (-1≤w.case)&&decide (w.case<6))
theorem ev_wvalid (a b c d e:Int):ev P (.call z_218 [.d (.ag [I' a,I' b,I' c,I' d,I' e])] [])=some (.val (.d (.b (wvalid ⟨a,b,c,d,e⟩))) []):=by
 rw [ev_call P_z_218 rfl]
 cases h:wbad ⟨a,b,c,d,e⟩<;>simp only [wvalid,h]<;>unfold wbad at h<;>simp [F_z_218,Sp.W.row,h]
def wcheckFrom (d:Int) (prev:Option Sp.W):List Sp.W→Int
 | []=>0
 | w::r=>if wvalid w=false then 2 else if d=2∧(prev.any fun p=>decide (p.prio<w.prio))=true then 9 else wcheckFrom d (some w) r
theorem wrap1:IntKind.i64.wrap 1=1:=by decide
theorem loop_wcheck (d:Int) (nl:Bool) (l:List Sp.W) (hn:l.length≤96):∀(suf pre:List Sp.W),l=pre++suf →
  ev P (.loop 0 [0,1,16,17,18] F_z_142_L0 [(0,.d (I' d)),(1,.d (.sl 5 nl (l.map Sp.W.row))),(16,.d (.sl 5 nl (l.map Sp.W.row))),(17,.d (I' l.length)),(18,.d (I' pre.length))] []) =
   if wcheckFrom d pre.getLast? suf=0 then some (.out (.exit 0) [] []) else some (.out .ret [(4,.d (I' (wcheckFrom d pre.getLast? suf)))] []):=by
 intro suf
 induction suf with
 | nil =>
  intro pre hl
  have:l.length=pre.length:=by simp [hl]
  rw [ev_loop]
  conv=>lhs;arg 4;unfold F_z_142_L0
  simp [this,wcheckFrom]
 | cons w suf ih =>
  intro pre hl
  have hg:l[pre.length]?=some w:=by simp [hl]
  have hlt:(pre.length:Int)<l.length:=by simp [hl];omega
  rw [ev_loop]
  conv=>lhs;arg 4;unfold F_z_142_L0
  simp [hlt,hg,Sp.W.row,ev_wvalid]
  cases hv:wvalid w
  ·simp [wcheckFrom,hv]
  ·simp
   have hnext:IntKind.i64.wrap ((pre.length:Int)+1)=pre.length+1:=wrap_i64 (by omega) (by omega)
   have ih':=ih (pre++[w]) (by simp [hl])
   simp at ih'
   rcases List.eq_nil_or_concat pre with rfl | ⟨pre',p,rfl⟩
   ·simp [wcheckFrom,hv,wrap1] at *
    exact ih'
   ·have hgp:l[pre'.length]?=some p:=by simp [hl]
    have hlen:((pre'.length:Int)+1<l.length):=by simp [hl];omega
    have hw:IntKind.i64.wrap ((pre'.length:Int)+1 - 1)=pre'.length:=by rw [wrap_i64 (by omega) (by omega)];omega
    have h0:(0:Int)<pre'.length+1:=by omega
    have hw2:IntKind.i64.wrap (pre'.length:Int)=pre'.length:=wrap_i64 (by omega) (by omega)
    have hw3:IntKind.i64.wrap ((pre'.length:Int)+1+1)=pre'.length+1+1:=wrap_i64 (by omega) (by omega)
    simp at ih'
    by_cases hd:d=2
    ·by_cases hp:p.prio<w.prio
     ·subst hd
      simp [wcheckFrom,hv,hp,hw2,hw3,hgp,Sp.W.row,h0]
     ·subst hd
      simp [wcheckFrom,hv,hp,hw2,hw3,hgp,Sp.W.row,h0]
      exact ih'
    ·have hd2:(d==2)=false:=by simp [hd]
     simp [wcheckFrom,hv,hd,hd2,hw2,hw3,hgp,Sp.W.row,h0]
     exact ih'
def wchk (l:List Sp.W):Int:=if 96<l.length then 4 else wcheckFrom 1 none l
theorem ev_wCheck (nl:Bool) (l:List Sp.W):ev P (.call z_142 [.d (I' 1),.d (.sl 5 nl (l.map Sp.W.row))] []) =
  some (.val (.d (I' (wchk l))) []):=by
 unfold wchk
 rw [ev_call P_z_142 rfl]
 by_cases h:96<l.length
 ·have h':(96:Int)<l.length:=by omega
  simp [F_z_142,h,h']
 ·have h':¬(96:Int)<l.length:=by omega
  have hl:=loop_wcheck 1 nl l (by omega) l [] rfl
  simp at hl
  simp [F_z_142,h,h',hl]
  by_cases hc:wcheckFrom 1 none l=0<;>simp [hc]
theorem allD_map':∀(ds:List D),allD (ds.map V.d)=some ds
 | []=>rfl
 | d::ds=>by simp [allD_map' ds]
theorem allD_mid {a b:List D} {x:D}:allD (a.map V.d++.d x::b.map V.d)=some (a++x::b):=by
 have:=allD_map' (a++x::b)
 simpa using this
theorem ev_RemoveC1 (t a b c d e:Int):ev P (.call z_212 [.d (.ag [I' a,I' b,I' c,I' d,I' e]),.d (.ref [I' t])] [])=some (.val (.d (.b (a != t))) []):=by
 rw [ev_call P_z_212 rfl]
 simp [F_z_212]
abbrev rows1 (l:List Int):List (List D):=l.map fun x=>[I' x]
abbrev hD (n:Bool) (l:List Int):D:=.sl 1 n (rows1 l)
abbrev qD (n:Bool) (l:List Sp.W):D:=.sl 5 n (l.map Sp.W.row)
abbrev cD (n:Bool) (l:List (List D)):D:=.sl 2 n l
theorem take_map_len {α β:Type} {f:α→β} {r:List α}:List.take r.length (r.map f)=r.map f:=List.take_of_length_le (by simp)
theorem drop_map_len {α β:Type} {f:α→β} {r:List α}:List.drop (r.length+1) (r.map f)=[]:=List.drop_eq_nil_of_le (by simp)
end Go.VS.R
namespace Go.VS.R
open Go.VS.Sp
def fdS (q:List Sp.W) (t:Int):Int×Bool:=match q.findIdx? (fun w=>w.task==t) with | some i=>(i,true) | none=>(0,false)
theorem loop_Find (nl:Bool) (l:List Sp.W) (t:Int) (hn:l.length≤1000000):∀(suf pre:List Sp.W),l=pre++suf →
  ev P (.loop 0 [1,8,9,10] F_z_132_L0 [(1,.d (I' t)),(8,.d (qD nl l)),(9,.d (I' l.length)),(10,.d (I' pre.length))] []) =
   match suf.findIdx? (fun w=>w.task==t) with
   | none=>some (.out (.exit 0) [] [])
   | some k=>some (.out .ret [(4,.d (I' ((pre.length+k:Nat):Int))),(5,.d (.b true))] []):=by
 intro suf
 induction suf with
 | nil =>
  intro pre hl
  have:l.length=pre.length:=by simp [hl]
  rw [ev_loop]
  conv=>lhs;arg 4;unfold F_z_132_L0
  simp [this]
 | cons w suf ih =>
  intro pre hl
  have hg:l[pre.length]?=some w:=by simp [hl]
  have hlt:(pre.length:Int)<l.length:=by simp [hl];omega
  have hnext:IntKind.i64.wrap ((pre.length:Int)+1)=pre.length+1:=wrap_i64 (by omega) (by omega)
  have ih':=ih (pre++[w]) (by simp [hl])
  simp at ih'
  rw [ev_loop]
  conv=>lhs;arg 4;unfold F_z_132_L0
  rw [List.findIdx?_cons]
  cases hw:w.task==t
  ·simp [hlt,hg,Sp.W.row,hw,hnext]
   rw [ih']
   cases suf.findIdx? (fun w=>w.task==t) with
   | none=>rfl
   | some k=>simp;omega
  ·simp [hlt,hg,Sp.W.row,hw]
theorem ev_wFind (nl:Bool) (l:List Sp.W) (t:Int) (hn:l.length≤1000000) :
  ev P (.call z_132 [.d (qD nl l),.d (I' t)] [])=some (.val (.tu [.d (I' (fdS l t).1),.d (.b (fdS l t).2)]) []):=by
 rw [ev_call P_z_132 rfl]
 have hl:=loop_Find nl l t hn l [] rfl
 simp at hl
 unfold fdS
 cases h:l.findIdx? (fun w=>w.task==t) with
 | none=>rw [h] at hl;simp [F_z_132,hl]
 | some k=>rw [h] at hl;simp at hl;simp [F_z_132,hl]
theorem fd_any {q:List Sp.W} {t:Int}:(fdS q t).2=q.any fun w=>w.task==t:=by
 unfold fdS
 cases h:q.findIdx? (fun w=>w.task==t) with
 | none =>
  rw [List.findIdx?_eq_none_iff] at h
  symm
  rw [List.any_eq_false]
  intro x hx
  rw [h x hx];decide
 | some k =>
  symm
  obtain ⟨h1,h2⟩:=List.findIdx?_eq_some_iff_getElem.1 h
  exact List.any_eq_true.2 ⟨_,List.getElem_mem _,h2.1⟩
def bcV (es:Nat):List (List D)→V
 | []=>.d (.sl es true [])
 | r::rs=>.asl 1 0 (r::rs).length
def bcH (es:Nat):List (List D)→List O
 | []=>[]
 | r::rs=>[.arrD es true (r::rs)]
theorem loop_filterR {f:Nat} {first caps:List D} {p:Sp.W→Bool} (l:List Sp.W) (hn:l.length≤1000000)
  (hp:∀a b c d e,ev P (.call f (first.map V.d++[.d (.ag [I' a,I' b,I' c,I' d,I' e])]++caps.map V.d) [])=some (.val (.d (.b (p ⟨a,b,c,d,e⟩))) []))
  (R:Option Res) (hR:R=some (.out (.exit 0) [(5,bcV 5 ((l.filter p).map Sp.W.row))] (.arrD 5 true (l.map Sp.W.row)::bcH 5 ((l.filter p).map Sp.W.row)))) :
  ∀(suf pre:List Sp.W),l=pre++suf →
  ev P (.loop 1 [1,5,8,9,10] F_z_211q_L0 [(1,.d (.fn f first caps)),(5,bcV 5 ((pre.filter p).map Sp.W.row)),(8,.asl 0 0 l.length),(9,.d (I' l.length)),(10,.d (I' pre.length))] (.arrD 5 true (l.map Sp.W.row)::bcH 5 ((pre.filter p).map Sp.W.row)))=R:=by
 intro suf
 induction suf with
 | nil =>
  intro pre hl
  have hlp:l=pre:=by simp [hl]
  subst hlp
  rw [ev_loop,hR]
  conv=>lhs;arg 4;unfold F_z_211q_L0
  cases hf:l.filter p with
  | nil=>simp [bcV,bcH,reachC,cut]
  | cons a r=>simp [bcV,bcH,reachC,cut,Sp.W.row,List.idxOf_cons]
 | cons w suf ih =>
  intro pre hl
  clear hR
  have hg:l[pre.length]?=some w:=by simp [hl]
  have hlt:(pre.length:Int)<l.length:=by simp [hl];omega
  have hlt2:pre.length<l.length:=by simp [hl]
  have hgg:l[pre.length]=w:=by simpa [List.getElem?_eq_getElem hlt2] using hg
  have hnext:IntKind.i64.wrap ((pre.length:Int)+1)=pre.length+1:=wrap_i64 (by omega) (by omega)
  have ih':=ih (pre++[w]) (by simp [hl])
  simp at ih' hp
  rw [ev_loop]
  conv=>lhs;arg 4;unfold F_z_211q_L0
  cases hf:pre.filter p with
  | nil =>
   cases hw:p w
   ·simp [hw,hnext,hf,bcV,bcH,reachC,cut] at ih' ⊢
    simp [hlt,hlt2,hgg,Sp.W.row,hp,allD_mid,hw,hnext,bcV,bcH,reachC,cut,List.idxOf_cons]
    exact ih'
   ·have hr:1≤room:=by decide
    simp [hw,hnext,hf,hr,bcV,bcH,reachC,cut,Sp.W.row] at ih' ⊢
    simp [hlt,hlt2,hgg,Sp.W.row,hp,allD_mid,hw,hnext,hr,bcV,bcH,reachC,cut,List.idxOf_cons]
    exact ih'
  | cons a r =>
   have hrl:r.length<1000000:=by
    have h1:(pre.filter p).length≤pre.length:=List.length_filter_le _ _
    have h2:pre.length≤l.length:=by simp [hl]
    rw [hf] at h1;simp at h1;omega
   have hr:r.length+1+1≤room:=by unfold room;omega
   cases hw:p w
   ·simp [hw,hnext,hf,bcV,bcH,reachC,cut,Sp.W.row] at ih' ⊢
    simp [hlt,hlt2,hgg,Sp.W.row,hp,allD_mid,hw,hnext,bcV,bcH,reachC,cut,List.idxOf_cons]
    exact ih'
   ·simp [hw,hnext,hf,hr,bcV,bcH,reachC,cut,Sp.W.row,overlay,take_map_len,drop_map_len,Nat.not_succ_le_self] at ih' ⊢
    simp [hlt,hlt2,hgg,Sp.W.row,hp,allD_mid,hw,hnext,hr,bcV,bcH,reachC,cut,overlay,take_map_len,drop_map_len,Nat.not_succ_le_self,List.idxOf_cons]
    exact ih'
theorem ev_RemoveR (l:List Sp.W) (t:Int) (hn:l.length≤1000000) :
  ev P (.call z_129q [.asl 0 0 l.length,.d (I' t)] [.arrD 5 true (l.map Sp.W.row)]) =
   some (.val (bcV 5 ((l.filter fun w=>w.task != t).map Sp.W.row)) (.arrD 5 true (l.map Sp.W.row)::bcH 5 ((l.filter fun w=>w.task != t).map Sp.W.row))):=by
 have hf:ev P (.call z_211q [.asl 0 0 l.length,.d (.fn z_212 [] [.ref [I' t]])] [.arrD 5 true (l.map Sp.W.row)]) =
   some (.val (bcV 5 ((l.filter fun w=>w.task != t).map Sp.W.row)) (.arrD 5 true (l.map Sp.W.row)::bcH 5 ((l.filter fun w=>w.task != t).map Sp.W.row))):=by
  rw [ev_call P_z_211q rfl]
  have hl:=loop_filterR (f:=z_212) (first:=[]) (caps:=[.ref [I' t]]) (p:=fun w=>w.task != t) l hn (by intro a b c d e;simp [ev_RemoveC1]) _ rfl l [] rfl
  cases hf:l.filter fun w=>w.task != t with
  | nil=>simp [hf,bcV,bcH] at hl;simp [F_z_211q,hl,bcV,bcH,endH,reachC,cut]
  | cons a r=>simp [hf,bcV,bcH,Sp.W.row] at hl;simp [F_z_211q,hl,bcV,bcH,endH,reachC,cut,Sp.W.row,List.idxOf_cons]
 rw [ev_call P_z_129q rfl]
 cases hg:l.filter fun w=>w.task != t with
 | nil=>simp [hg,bcV,bcH] at hf;simp [F_z_129q,hf,callR,bcV,bcH,endH,reachC,cut,sub,setAll,back]
 | cons a r=>simp [hg,bcV,bcH,Sp.W.row] at hf;simp [F_z_129q,hf,callR,bcV,bcH,endH,reachC,cut,Sp.W.row,sub,setAll,back,List.idxOf_cons]
end Go.VS.R
