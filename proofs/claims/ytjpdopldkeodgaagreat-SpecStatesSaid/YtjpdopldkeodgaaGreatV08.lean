import Derived.Test.YtjpdopldkeodgaaGreatV07
set_option linter.all false
namespace Go.VS.Sp
theorem ev_eM (o:List D) (ho:o.length=4) (x y:D) (s:S) (hw:s.wf) (c:Cl) (hv:s.own = -1∨0≤s.own) :
  Rel (ev P (.call z_315 [.d (.ag [x,y]),.d (.ag o),.d (.ag s.row),.d (.ag c.row)] [])) (eM s.pl c):=by
 have e:decide (s.own<0)=(s.own == -1):=by rw [Bool.eq_iff_iff];simp;omega
 rw [ev_call P_z_315 rfl]
 cases h1:c.op==52
 ·cases h2:s.own == -1
  ·cases h3:c.op==51
   ·cases h4:s.own==c.task
    ·exact Rel.er s 29 (by simp [F_z_315,ho,Cl.row,h1,e,h2,h3,h4]) (by simp [eM,S.pl,h1,h2,h3,h4]) ⟨hw.h,hw.b,hw.c,hw.k⟩
    ·exact Rel.er s 17 (by simp [F_z_315,ho,Cl.row,h1,e,h2,h3,h4]) (by simp [eM,S.pl,h1,h2,h3,h4]) ⟨hw.h,hw.b,hw.c,hw.k⟩
   ·exact Rel.er s 0 (by simp [F_z_315,ho,Cl.row,h1,e,h2,h3]) (by simp [eM,S.pl,h1,h2,h3]) ⟨hw.h,hw.b,hw.c,hw.k⟩
  ·exact Rel.gd { s with own:=c.task } (by simp [F_z_315,ho,Cl.row,h1,e,h2]) (by simp [eM,S.pl,h1,h2]) ⟨hw.h,hw.b,hw.c,hw.k⟩
 ·cases h2:s.own==c.task
  ·have h2':(s.own != c.task)=true:=by simp [bne,h2]
   exact Rel.er s 20 (by simp [F_z_315,ho,Cl.row,h1,h2']) (by simp [eM,S.pl,h1,h2]) ⟨hw.h,hw.b,hw.c,hw.k⟩
  ·have h2':(s.own != c.task)=false:=by simp [bne,h2]
   exact Rel.gd { s with own:=-1 } (by simp [F_z_315,ho,Cl.row,h1,h2']) (by simp [eM,S.pl,h1,h2]) ⟨hw.h,hw.b,hw.c,hw.k⟩
theorem ev_eMr (s:S) (hw:s.wf) (c:Cl) (hv:s.own = -1∨0≤s.own) :
  Rel (ev P (.call z_105 [.d (.ag s.row),.d (.ag c.row)] [])) (eM s.pl c):=by
 have e:decide (s.own<0)=(s.own == -1):=by rw [Bool.eq_iff_iff];simp;omega
 rw [ev_call P_z_105 rfl]
 cases h1:c.op==52
 ·cases h2:s.own == -1
  ·cases h3:c.op==51
   ·cases h4:s.own==c.task
    ·exact Rel.er s 29 (by simp [F_z_105,Cl.row,h1,e,h2,h3,h4]) (by simp [eM,S.pl,h1,h2,h3,h4]) ⟨hw.h,hw.b,hw.c,hw.k⟩
    ·exact Rel.er s 17 (by simp [F_z_105,Cl.row,h1,e,h2,h3,h4]) (by simp [eM,S.pl,h1,h2,h3,h4]) ⟨hw.h,hw.b,hw.c,hw.k⟩
   ·exact Rel.er s 0 (by simp [F_z_105,Cl.row,h1,e,h2,h3]) (by simp [eM,S.pl,h1,h2,h3]) ⟨hw.h,hw.b,hw.c,hw.k⟩
  ·exact Rel.gd { s with own:=c.task } (by simp [F_z_105,Cl.row,h1,e,h2]) (by simp [eM,S.pl,h1,h2]) ⟨hw.h,hw.b,hw.c,hw.k⟩
 ·cases h2:s.own==c.task
  ·have h2':(s.own != c.task)=true:=by simp [bne,h2]
   exact Rel.er s 20 (by simp [F_z_105,Cl.row,h1,h2']) (by simp [eM,S.pl,h1,h2]) ⟨hw.h,hw.b,hw.c,hw.k⟩
  ·have h2':(s.own != c.task)=false:=by simp [bne,h2]
   exact Rel.gd { s with own:=-1 } (by simp [F_z_105,Cl.row,h1,h2']) (by simp [eM,S.pl,h1,h2]) ⟨hw.h,hw.b,hw.c,hw.k⟩
theorem ev_eS (x y:D) (nm:D) (k sz ot:Int) (s:S) (hw:s.wf) (c:Cl) (hz:sz≤100) (hv:0≤s.cnt∧s.cnt≤sz) (hc:1≤c.value∧c.value≤sz) :
  Rel (ev P (.call z_322 [.d (.ag [x,y]),.d (.ag [nm,I' k,I' sz,I' ot]),.d (.ag s.row),.d (.ag c.row)] [])) (eS sz s.pl c):=by
 have w1:IntKind.i64.wrap (s.cnt+c.value)=s.cnt+c.value:=wrap_i64 (by omega) (by omega)
 have w2:IntKind.i64.wrap (s.cnt - c.value)=s.cnt - c.value:=wrap_i64 (by omega) (by omega)
 rw [ev_call P_z_322 rfl]
 cases h1:c.op==62
 ·cases h2:decide (c.value≤s.cnt)
  ·cases h3:c.op==61
   ·exact Rel.er s 29 (by simp [F_z_322,Cl.row,h1,h2,h3,w1,w2]) (by have p2:=h2;simp only [decide_eq_true_eq,decide_eq_false_iff_not] at p2;simp [eS,S.pl,h1,p2,h3]) ⟨hw.h,hw.b,hw.c,hw.k⟩
   ·exact Rel.er s 0 (by simp [F_z_322,Cl.row,h1,h2,h3,w1,w2]) (by have p2:=h2;simp only [decide_eq_true_eq,decide_eq_false_iff_not] at p2;simp [eS,S.pl,h1,p2,h3]) ⟨hw.h,hw.b,hw.c,hw.k⟩
  ·exact Rel.gd { s with cnt:=s.cnt - c.value } (by simp [F_z_322,Cl.row,h1,h2,w1,w2]) (by have p2:=h2;simp only [decide_eq_true_eq,decide_eq_false_iff_not] at p2;simp [eS,S.pl,h1,p2]) ⟨hw.h,hw.b,hw.c,hw.k⟩
 ·cases h2:decide (sz<s.cnt+c.value)
  ·exact Rel.gd { s with cnt:=s.cnt+c.value } (by simp [F_z_322,Cl.row,h1,h2,w1,w2]) (by have p2:=h2;simp only [decide_eq_true_eq,decide_eq_false_iff_not] at p2;simp [eS,S.pl,h1,p2]) ⟨hw.h,hw.b,hw.c,hw.k⟩
  ·exact Rel.er s 17 (by simp [F_z_322,Cl.row,h1,h2,w1,w2]) (by have p2:=h2;simp only [decide_eq_true_eq,decide_eq_false_iff_not] at p2;simp [eS,S.pl,h1,p2]) ⟨hw.h,hw.b,hw.c,hw.k⟩
theorem ev_eSr (nm:D) (k sz ot:Int) (s:S) (hw:s.wf) (c:Cl) (hz:sz≤100) (hv:0≤s.cnt∧s.cnt≤sz) (hc:1≤c.value∧c.value≤sz) :
  Rel (ev P (.call z_107 [.d (.ag [nm,I' k,I' sz,I' ot]),.d (.ag s.row),.d (.ag c.row)] [])) (eS sz s.pl c):=by
 have w1:IntKind.i64.wrap (s.cnt+c.value)=s.cnt+c.value:=wrap_i64 (by omega) (by omega)
 have w2:IntKind.i64.wrap (s.cnt - c.value)=s.cnt - c.value:=wrap_i64 (by omega) (by omega)
 rw [ev_call P_z_107 rfl]
 cases h1:c.op==62
 ·cases h2:decide (c.value≤s.cnt)
  ·cases h3:c.op==61
   ·exact Rel.er s 29 (by simp [F_z_107,Cl.row,h1,h2,h3,w1,w2]) (by have p2:=h2;simp only [decide_eq_true_eq,decide_eq_false_iff_not] at p2;simp [eS,S.pl,h1,p2,h3]) ⟨hw.h,hw.b,hw.c,hw.k⟩
   ·exact Rel.er s 0 (by simp [F_z_107,Cl.row,h1,h2,h3,w1,w2]) (by have p2:=h2;simp only [decide_eq_true_eq,decide_eq_false_iff_not] at p2;simp [eS,S.pl,h1,p2,h3]) ⟨hw.h,hw.b,hw.c,hw.k⟩
  ·exact Rel.gd { s with cnt:=s.cnt - c.value } (by simp [F_z_107,Cl.row,h1,h2,w1,w2]) (by have p2:=h2;simp only [decide_eq_true_eq,decide_eq_false_iff_not] at p2;simp [eS,S.pl,h1,p2]) ⟨hw.h,hw.b,hw.c,hw.k⟩
 ·cases h2:decide (sz<s.cnt+c.value)
  ·exact Rel.gd { s with cnt:=s.cnt+c.value } (by simp [F_z_107,Cl.row,h1,h2,w1,w2]) (by have p2:=h2;simp only [decide_eq_true_eq,decide_eq_false_iff_not] at p2;simp [eS,S.pl,h1,p2]) ⟨hw.h,hw.b,hw.c,hw.k⟩
  ·exact Rel.er s 17 (by simp [F_z_107,Cl.row,h1,h2,w1,w2]) (by have p2:=h2;simp only [decide_eq_true_eq,decide_eq_false_iff_not] at p2;simp [eS,S.pl,h1,p2]) ⟨hw.h,hw.b,hw.c,hw.k⟩
theorem ev_eB (c:List D) (hc:c.length=5) (x y:D) (nm:D) (k sz ot:Int) (s:S) (hw:s.wf) (hz:sz≤100) (hv:0≤s.val∧s.val<sz) (hn:0≤s.cnt∧s.cnt≤1099511627776) :
  Rel (ev P (.call z_325 [.d (.ag [x,y]),.d (.ag [nm,I' k,I' sz,I' ot]),.d (.ag s.row),.d (.ag c)] [])) (eB sz s.pl):=by
 have w1:IntKind.i64.wrap (s.val+1)=s.val+1:=wrap_i64 (by omega) (by omega)
 have w2:IntKind.i64.wrap (s.cnt+1)=s.cnt+1:=wrap_i64 (by omega) (by omega)
 rw [ev_call P_z_325 rfl]
 cases h1:s.val+1==sz
 ·exact Rel.vl { s with val:=s.val+1 } s.val (by simp [F_z_325,hc,h1,w1,w2]) (by simp [eB,S.pl,h1]) ⟨hw.h,hw.b,hw.c,hw.k⟩
 ·cases h2:s.cnt==1099511627776
  ·exact Rel.vl { s with val:=0,cnt:=s.cnt+1 } s.val (by simp [F_z_325,hc,h1,h2,w1,w2]) (by simp [eB,S.pl,h1,h2]) ⟨hw.h,hw.b,hw.c,hw.k⟩
  ·exact Rel.er { s with val:=s.val+1 } 4 (by simp [F_z_325,hc,h1,h2,w1,w2]) (by simp [eB,S.pl,h1,h2]) ⟨hw.h,hw.b,hw.c,hw.k⟩
theorem ev_eBr (nm:D) (k sz ot:Int) (s:S) (hw:s.wf) (hz:sz≤100) (hv:0≤s.val∧s.val<sz) (hn:0≤s.cnt∧s.cnt≤1099511627776) :
  Rel (ev P (.call z_108 [.d (.ag [nm,I' k,I' sz,I' ot]),.d (.ag s.row)] [])) (eB sz s.pl):=by
 have w1:IntKind.i64.wrap (s.val+1)=s.val+1:=wrap_i64 (by omega) (by omega)
 have w2:IntKind.i64.wrap (s.cnt+1)=s.cnt+1:=wrap_i64 (by omega) (by omega)
 rw [ev_call P_z_108 rfl]
 cases h1:s.val+1==sz
 ·exact Rel.vl { s with val:=s.val+1 } s.val (by simp [F_z_108,h1,w1,w2]) (by simp [eB,S.pl,h1]) ⟨hw.h,hw.b,hw.c,hw.k⟩
 ·cases h2:s.cnt==1099511627776
  ·exact Rel.vl { s with val:=0,cnt:=s.cnt+1 } s.val (by simp [F_z_108,h1,h2,w1,w2]) (by simp [eB,S.pl,h1,h2]) ⟨hw.h,hw.b,hw.c,hw.k⟩
  ·exact Rel.er { s with val:=s.val+1 } 4 (by simp [F_z_108,h1,h2,w1,w2]) (by simp [eB,S.pl,h1,h2]) ⟨hw.h,hw.b,hw.c,hw.k⟩
theorem ev_eF (o:List D) (ho:o.length=4) (x y:D) (s:S) (hw:s.wf) (c:Cl) (hb:c.op=73∨c.op=74) :
  Rel (ev P (.call z_341 [.d (.ag [x,y]),.d (.ag o),.d (.ag s.row),.d (.ag c.row)] [])) (eF s.pl c):=by
 have e:(c.op==73)=!(c.op==74):=by rcases hb with h | h<;>simp [h]
 rw [ev_call P_z_341 rfl]
 cases h1:c.op==74
 ·cases h2:s.cl
  ·exact Rel.gd { s with cl:=true,val:=c.value } (by simp [F_z_341,ho,V.same_self,Cl.row,e,h1,h2]) (by simp [eF,S.pl,h1,h2]) ⟨hw.h,hw.b,hw.c,hw.k⟩
  ·exact Rel.er s 17 (by simp [F_z_341,ho,V.same_self,Cl.row,e,h1,h2]) (by simp [eF,S.pl,h1,h2]) ⟨hw.h,hw.b,hw.c,hw.k⟩
 ·cases h2:s.cl
  ·exact Rel.er s 29 (by simp [F_z_341,ho,V.same_self,Cl.row,e,h1,h2]) (by simp [eF,S.pl,h1,h2]) ⟨hw.h,hw.b,hw.c,hw.k⟩
  ·exact Rel.vl s s.val (by simp [F_z_341,ho,V.same_self,Cl.row,e,h1,h2]) (by simp [eF,S.pl,h1,h2]) ⟨hw.h,hw.b,hw.c,hw.k⟩
theorem ev_eFr (s:S) (hw:s.wf) (c:Cl) (hb:c.op=73∨c.op=74) :
  Rel (ev P (.call z_112 [.d (.ag s.row),.d (.ag c.row)] [])) (eF s.pl c):=by
 have e:(c.op==73)=!(c.op==74):=by rcases hb with h | h<;>simp [h]
 rw [ev_call P_z_112 rfl]
 cases h1:c.op==74
 ·cases h2:s.cl
  ·exact Rel.gd { s with cl:=true,val:=c.value } (by simp [F_z_112,V.same_self,Cl.row,e,h1,h2]) (by simp [eF,S.pl,h1,h2]) ⟨hw.h,hw.b,hw.c,hw.k⟩
  ·exact Rel.er s 17 (by simp [F_z_112,V.same_self,Cl.row,e,h1,h2]) (by simp [eF,S.pl,h1,h2]) ⟨hw.h,hw.b,hw.c,hw.k⟩
 ·cases h2:s.cl
  ·exact Rel.er s 29 (by simp [F_z_112,V.same_self,Cl.row,e,h1,h2]) (by simp [eF,S.pl,h1,h2]) ⟨hw.h,hw.b,hw.c,hw.k⟩
  ·exact Rel.vl s s.val (by simp [F_z_112,V.same_self,Cl.row,e,h1,h2]) (by simp [eF,S.pl,h1,h2]) ⟨hw.h,hw.b,hw.c,hw.k⟩
theorem div_bd {a b:Int} (ha:0≤a) (hb:1≤b):0≤a / b∧a / b*b≤a∧a / b≤a:=by
 have h1:0≤a / b:=Int.ediv_nonneg ha (by omega)
 have h2:a / b*b≤a:=Int.ediv_mul_le a (by omega)
 refine ⟨h1,h2,?_⟩
 have h3:a / b*1≤a / b*b:=Int.mul_le_mul_of_nonneg_left hb h1
 omega
theorem ev_eL (x y:D) (nm:D) (k sz ot:Int) (s:S) (hw:s.wf) (c:Cl) (hz:1≤sz∧sz≤100) (ho:1≤ot∧ot≤1099511627776) (hv:0≤s.cnt∧s.cnt≤sz) (ht0:0≤s.time∧s.time≤1099511627776)
  (hn:0≤c.now∧c.now≤1099511627776) (hb:c.op=72∨c.op=75) (hc:c.op=72→1≤c.value∧c.value≤sz) :
  Rel (ev P (.call z_339 [.d (.ag [x,y]),.d (.ag [nm,I' k,I' sz,I' ot]),.d (.ag s.row),.d (.ag c.row)] [])) (eL sz ot s.pl c):=by
 have e:(c.op==75)=!(c.op==72):=by rcases hb with h | h<;>simp [h]
 rw [ev_call P_z_339 rfl]
 cases h0:decide (c.now<s.time)
 ·have h0':s.time≤c.now:=by simpa using h0
  obtain ⟨k0,k1,k2⟩:=div_bd (a:=c.now - s.time) (b:=ot) (by omega) ho.1
  have hot:¬ot=0:=by omega
  have w0:IntKind.i64.wrap (c.now - s.time)=c.now - s.time:=wrap_i64 (by omega) (by omega)
  have ht:(c.now - s.time).tdiv ot=(c.now - s.time) / ot:=Int.tdiv_eq_ediv_of_nonneg (by omega)
  generalize hkk:(c.now - s.time) / ot=q at *
  have ek:decide (sz - s.cnt≤q)=decide (sz≤s.cnt+q):=by rw [Bool.eq_iff_iff];simp;omega
  have w1:IntKind.i64.wrap q=q:=wrap_i64 (by omega) (by omega)
  have w2:IntKind.i64.wrap (sz - s.cnt)=sz - s.cnt:=wrap_i64 (by omega) (by omega)
  have w3:IntKind.i64.wrap (s.cnt+q)=s.cnt+q:=wrap_i64 (by omega) (by omega)
  have w4:IntKind.i64.wrap (q*ot)=q*ot:=by
   have:0≤q*ot:=Int.mul_nonneg k0 (by omega)
   exact wrap_i64 (by omega) (by omega)
  have w5:IntKind.i64.wrap (s.time+q*ot)=s.time+q*ot:=by
   have:0≤q*ot:=Int.mul_nonneg k0 (by omega)
   exact wrap_i64 (by omega) (by omega)
  cases h1:decide (sz≤s.cnt+q)
  ·have h1':s.cnt+q<sz:=by simpa using h1
   cases h2:c.op==72
   ·exact Rel.gd { s with cnt:=s.cnt+q,time:=s.time+q*ot } (by simp [F_z_339,Cl.row,e,h0,h1,h2,w0,w1,w2,w3,w4,ht,hot,ek,w5]) (by have p0:=h0;simp only [decide_eq_true_eq,decide_eq_false_iff_not] at p0;have p1:=h1;simp only [decide_eq_true_eq,decide_eq_false_iff_not] at p1;simp [eL,rfS,S.pl,p0,hkk,p1,h2]) ⟨hw.h,hw.b,hw.c,hw.k⟩
   ·have hcv:=hc (by simpa using h2)
    have w6:IntKind.i64.wrap (s.cnt+q - c.value)=s.cnt+q - c.value:=wrap_i64 (by omega) (by omega)
    cases h3:decide (s.cnt+q<c.value)
    ·exact Rel.gd { s with cnt:=s.cnt+q - c.value,time:=s.time+q*ot } (by simp [F_z_339,Cl.row,e,h0,h1,h2,h3,w0,w1,w2,w3,w4,ht,hot,ek,w5,w6]) (by have p0:=h0;simp only [decide_eq_true_eq,decide_eq_false_iff_not] at p0;have p1:=h1;simp only [decide_eq_true_eq,decide_eq_false_iff_not] at p1;have p3:=h3;simp only [decide_eq_true_eq,decide_eq_false_iff_not] at p3;simp [eL,rfS,S.pl,p0,hkk,p1,h2,p3]) ⟨hw.h,hw.b,hw.c,hw.k⟩
    ·exact Rel.er { s with cnt:=s.cnt+q,time:=s.time+q*ot } 29 (by simp [F_z_339,Cl.row,e,h0,h1,h2,h3,w0,w1,w2,w3,w4,ht,hot,ek,w5,w6]) (by have p0:=h0;simp only [decide_eq_true_eq,decide_eq_false_iff_not] at p0;have p1:=h1;simp only [decide_eq_true_eq,decide_eq_false_iff_not] at p1;have p3:=h3;simp only [decide_eq_true_eq,decide_eq_false_iff_not] at p3;simp [eL,rfS,S.pl,p0,hkk,p1,h2,p3]) ⟨hw.h,hw.b,hw.c,hw.k⟩
  ·cases h2:c.op==72
   ·exact Rel.gd { s with cnt:=sz,time:=c.now } (by simp [F_z_339,Cl.row,e,h0,h1,h2,w0,w1,w2,w3,w4,ht,hot,ek,w5]) (by have p0:=h0;simp only [decide_eq_true_eq,decide_eq_false_iff_not] at p0;have p1:=h1;simp only [decide_eq_true_eq,decide_eq_false_iff_not] at p1;simp [eL,rfS,S.pl,p0,hkk,p1,h2]) ⟨hw.h,hw.b,hw.c,hw.k⟩
   ·have hcv:=hc (by simpa using h2)
    have w6:IntKind.i64.wrap (sz - c.value)=sz - c.value:=wrap_i64 (by omega) (by omega)
    have h3:decide (sz<c.value)=false:=by simp;omega
    exact Rel.gd { s with cnt:=sz - c.value,time:=c.now } (by simp [F_z_339,Cl.row,e,h0,h1,h2,h3,w0,w1,w2,w3,w4,ht,hot,ek,w5,w6]) (by have p0:=h0;simp only [decide_eq_true_eq,decide_eq_false_iff_not] at p0;have p1:=h1;simp only [decide_eq_true_eq,decide_eq_false_iff_not] at p1;have p3:=h3;simp only [decide_eq_true_eq,decide_eq_false_iff_not] at p3;simp [eL,rfS,S.pl,p0,hkk,p1,h2,p3]) ⟨hw.h,hw.b,hw.c,hw.k⟩
 ·exact Rel.er s 2 (by simp [F_z_339,Cl.row,h0]) (by have p0:=h0;simp only [decide_eq_true_eq,decide_eq_false_iff_not] at p0;simp [eL,S.pl,p0]) ⟨hw.h,hw.b,hw.c,hw.k⟩
theorem ev_eLr (nm:D) (k sz ot:Int) (s:S) (hw:s.wf) (c:Cl) (hz:1≤sz∧sz≤100) (ho:1≤ot∧ot≤1099511627776) (hv:0≤s.cnt∧s.cnt≤sz) (ht0:0≤s.time∧s.time≤1099511627776)
  (hn:0≤c.now∧c.now≤1099511627776) (hb:c.op=72∨c.op=75) (hc:c.op=72→1≤c.value∧c.value≤sz) :
  Rel (ev P (.call z_111 [.d (.ag [nm,I' k,I' sz,I' ot]),.d (.ag s.row),.d (.ag c.row)] [])) (eL sz ot s.pl c):=by
 have e:(c.op==75)=!(c.op==72):=by rcases hb with h | h<;>simp [h]
 rw [ev_call P_z_111 rfl]
 cases h0:decide (c.now<s.time)
 ·have h0':s.time≤c.now:=by simpa using h0
  obtain ⟨k0,k1,k2⟩:=div_bd (a:=c.now - s.time) (b:=ot) (by omega) ho.1
  have hot:¬ot=0:=by omega
  have w0:IntKind.i64.wrap (c.now - s.time)=c.now - s.time:=wrap_i64 (by omega) (by omega)
  have ht:(c.now - s.time).tdiv ot=(c.now - s.time) / ot:=Int.tdiv_eq_ediv_of_nonneg (by omega)
  generalize hkk:(c.now - s.time) / ot=q at *
  have ek:decide (sz - s.cnt≤q)=decide (sz≤s.cnt+q):=by rw [Bool.eq_iff_iff];simp;omega
  have w1:IntKind.i64.wrap q=q:=wrap_i64 (by omega) (by omega)
  have w2:IntKind.i64.wrap (sz - s.cnt)=sz - s.cnt:=wrap_i64 (by omega) (by omega)
  have w3:IntKind.i64.wrap (s.cnt+q)=s.cnt+q:=wrap_i64 (by omega) (by omega)
  have w4:IntKind.i64.wrap (q*ot)=q*ot:=by
   have:0≤q*ot:=Int.mul_nonneg k0 (by omega)
   exact wrap_i64 (by omega) (by omega)
  have w5:IntKind.i64.wrap (s.time+q*ot)=s.time+q*ot:=by
   have:0≤q*ot:=Int.mul_nonneg k0 (by omega)
   exact wrap_i64 (by omega) (by omega)
  cases h1:decide (sz≤s.cnt+q)
  ·have h1':s.cnt+q<sz:=by simpa using h1
   cases h2:c.op==72
   ·exact Rel.gd { s with cnt:=s.cnt+q,time:=s.time+q*ot } (by simp [F_z_111,Cl.row,e,h0,h1,h2,w0,w1,w2,w3,w4,ht,hot,ek,w5]) (by have p0:=h0;simp only [decide_eq_true_eq,decide_eq_false_iff_not] at p0;have p1:=h1;simp only [decide_eq_true_eq,decide_eq_false_iff_not] at p1;simp [eL,rfS,S.pl,p0,hkk,p1,h2]) ⟨hw.h,hw.b,hw.c,hw.k⟩
   ·have hcv:=hc (by simpa using h2)
    have w6:IntKind.i64.wrap (s.cnt+q - c.value)=s.cnt+q - c.value:=wrap_i64 (by omega) (by omega)
    cases h3:decide (s.cnt+q<c.value)
    ·exact Rel.gd { s with cnt:=s.cnt+q - c.value,time:=s.time+q*ot } (by simp [F_z_111,Cl.row,e,h0,h1,h2,h3,w0,w1,w2,w3,w4,ht,hot,ek,w5,w6]) (by have p0:=h0;simp only [decide_eq_true_eq,decide_eq_false_iff_not] at p0;have p1:=h1;simp only [decide_eq_true_eq,decide_eq_false_iff_not] at p1;have p3:=h3;simp only [decide_eq_true_eq,decide_eq_false_iff_not] at p3;simp [eL,rfS,S.pl,p0,hkk,p1,h2,p3]) ⟨hw.h,hw.b,hw.c,hw.k⟩
    ·exact Rel.er { s with cnt:=s.cnt+q,time:=s.time+q*ot } 29 (by simp [F_z_111,Cl.row,e,h0,h1,h2,h3,w0,w1,w2,w3,w4,ht,hot,ek,w5,w6]) (by have p0:=h0;simp only [decide_eq_true_eq,decide_eq_false_iff_not] at p0;have p1:=h1;simp only [decide_eq_true_eq,decide_eq_false_iff_not] at p1;have p3:=h3;simp only [decide_eq_true_eq,decide_eq_false_iff_not] at p3;simp [eL,rfS,S.pl,p0,hkk,p1,h2,p3]) ⟨hw.h,hw.b,hw.c,hw.k⟩
  ·cases h2:c.op==72
   ·exact Rel.gd { s with cnt:=sz,time:=c.now } (by simp [F_z_111,Cl.row,e,h0,h1,h2,w0,w1,w2,w3,w4,ht,hot,ek,w5]) (by have p0:=h0;simp only [decide_eq_true_eq,decide_eq_false_iff_not] at p0;have p1:=h1;simp only [decide_eq_true_eq,decide_eq_false_iff_not] at p1;simp [eL,rfS,S.pl,p0,hkk,p1,h2]) ⟨hw.h,hw.b,hw.c,hw.k⟩
   ·have hcv:=hc (by simpa using h2)
    have w6:IntKind.i64.wrap (sz - c.value)=sz - c.value:=wrap_i64 (by omega) (by omega)
    have h3:decide (sz<c.value)=false:=by simp;omega
    exact Rel.gd { s with cnt:=sz - c.value,time:=c.now } (by simp [F_z_111,Cl.row,e,h0,h1,h2,h3,w0,w1,w2,w3,w4,ht,hot,ek,w5,w6]) (by have p0:=h0;simp only [decide_eq_true_eq,decide_eq_false_iff_not] at p0;have p1:=h1;simp only [decide_eq_true_eq,decide_eq_false_iff_not] at p1;have p3:=h3;simp only [decide_eq_true_eq,decide_eq_false_iff_not] at p3;simp [eL,rfS,S.pl,p0,hkk,p1,h2,p3]) ⟨hw.h,hw.b,hw.c,hw.k⟩
 ·exact Rel.er s 2 (by simp [F_z_111,Cl.row,h0]) (by have p0:=h0;simp only [decide_eq_true_eq,decide_eq_false_iff_not] at p0;simp [eL,S.pl,p0]) ⟨hw.h,hw.b,hw.c,hw.k⟩
end Go.VS.Sp
namespace Go.VS.Sp
theorem ev_CloneI (nl:Bool) (q:List Int) (hnl:nl=true→q=[]) (hn:q.length≤1000000) :
  ev P (.call z_214 [.d (hD nl q)] [])=if nl=true then some (.val (.d (.sl 1 true [])) []) else some (.val (.asl 0 0 q.length) [.arrD 1 true (rows1 q)]):=by
 rw [ev_call P_z_214 rfl]
 cases nl
 ·have hr:q.length≤room:=by unfold room;omega
  cases q with
  | nil=>simp [F_z_214,mkRows,allDs,reachC,cut,endH]
  | cons a r =>
   simp at hr
   simp [F_z_214,mkRows,allDs,reachC,cut,hr,endH]
 ·simp [F_z_214,endH]
theorem ev_CloneK (nl:Bool) (q:List K) (hnl:nl=true→q=[]) (hn:q.length≤1000000) :
  ev P (.call z_236 [.d (cD nl q)] [])=if nl=true then some (.val (.d (.sl 2 true [])) []) else some (.val (.asl 0 0 q.length) [.arrD 2 true (q.map K.row)]):=by
 rw [ev_call P_z_236 rfl]
 cases nl
 ·have hr:q.length≤room:=by unfold room;omega
  cases q with
  | nil=>simp [F_z_236,mkRows,allDs,reachC,cut,endH]
  | cons a r =>
   simp at hr
   simp [F_z_236,mkRows,allDs,reachC,cut,hr,endH]
 ·simp [F_z_236,endH]
theorem ev_DeleteK (A B:List (List D)) (r:List D) (h:A.length+B.length≤100000) :
  ev P (.call z_170 [.asl 0 0 (A.length+(B.length+1)),.d (I' A.length),.d (I' (A.length+1))] [.arrD 2 true (A++r::B)]) =
   some (.val (.asl 0 0 (A.length+B.length)) [.arrD 2 true (A++(B++[[I' 0,.sl 1 true []]]))]):=by
 have h1:(A.length:Int)≤A.length+1:=by omega
 have h2:(A.length:Int)+1≤A.length+(B.length+1):=by omega
 have h3:(0:Int)≤A.length+1:=by omega
 have h4:((A.length:Int)==A.length+1)=false:=by simp;omega
 have h7:(A.length:Int)≤A.length+(B.length+1):=by omega
 have h5:A.length+B.length≤A.length+(B.length+1):=by omega
 have h6:¬(A.length+(B.length+1)<A.length+B.length):=by omega
 rw [ev_call P_z_170 rfl]
 have h11:(A.length:Int)<A.length+1:=by omega
 rcases B with _ | ⟨b,B⟩
 ·have h9:¬((A.length:Int)+1=0):=by omega
  simp at h2 h5 h6 h7
  simp [F_z_170,reachC,cut,h1,h2,h3,h4,h5,h6,h7,h9,h11,endH]
 ·have h8:(1:Int)<B.length+1+1:=by omega
  have h9:¬((A.length:Int)+1=0):=by omega
  have h12:A.length+1+(B.length+1)≤A.length+(B.length+1+1):=by omega
  obtain ⟨x,hx⟩:∃x,List.drop (B.length+1) (r::b::B)=[x]:=List.length_eq_one_iff.1 (by simp)
  have h13:¬((A.length:Int)+(B.length+1)=0):=by omega
  have h14:(0:Int)≤(A.length:Int)+(B.length+1):=by omega
  have h15:(B.length:Int)≤B.length+1:=by omega
  have h16:(B.length:Int)<B.length+1:=by omega
  have h17:((A.length:Int)+(B.length+1)).toNat=A.length+(B.length+1):=by omega
  have h18:((A.length:Int)+(B.length+1+1) - (A.length+(B.length+1))).toNat=1:=by omega
  have h20:A.length+(B.length+1)+1≤A.length+(B.length+1+1):=by omega
  have h21:List.take (A.length+(B.length+1)) (A++b::(B++[x]))=A++b::B:=by
   have:A++b::(B++[x])=(A++b::B)++[x]:=by simp
   rw [this]
   exact List.take_left' (by simp)
  have h22:List.drop (A.length+(B.length+1)+1) (A++b::(B++[x]))=[]:=List.drop_eq_nil_of_le (by simp;omega)
  have h10:((A.length:Int)+(B.length+1+1) - (A.length+1)).toNat=B.length+1:=by omega
  simp at h2 h5 h6 h7
  simp [F_z_170,reachC,cut,h1,h2,h3,h4,h5,h6,h7,h8,h9,h10,h11,h12,h13,h14,h15,h16,h17,h18,h20,h21,h22,hx,endH]
theorem ev_DeleteI (A B:List (List D)) (r:List D) (h:A.length+B.length≤100000) :
  ev P (.call z_321 [.asl 0 0 (A.length+(B.length+1)),.d (I' A.length),.d (I' (A.length+1))] [.arrD 1 true (A++r::B)]) =
   some (.val (.asl 0 0 (A.length+B.length)) [.arrD 1 true (A++(B++[[I' 0]]))]):=by
 have h1:(A.length:Int)≤A.length+1:=by omega
 have h2:(A.length:Int)+1≤A.length+(B.length+1):=by omega
 have h3:(0:Int)≤A.length+1:=by omega
 have h4:((A.length:Int)==A.length+1)=false:=by simp;omega
 have h7:(A.length:Int)≤A.length+(B.length+1):=by omega
 have h5:A.length+B.length≤A.length+(B.length+1):=by omega
 have h6:¬(A.length+(B.length+1)<A.length+B.length):=by omega
 rw [ev_call P_z_321 rfl]
 have h11:(A.length:Int)<A.length+1:=by omega
 rcases B with _ | ⟨b,B⟩
 ·have h9:¬((A.length:Int)+1=0):=by omega
  simp at h2 h5 h6 h7
  simp [F_z_321,reachC,cut,h1,h2,h3,h4,h5,h6,h7,h9,h11,endH]
 ·have h8:(1:Int)<B.length+1+1:=by omega
  have h9:¬((A.length:Int)+1=0):=by omega
  have h12:A.length+1+(B.length+1)≤A.length+(B.length+1+1):=by omega
  obtain ⟨x,hx⟩:∃x,List.drop (B.length+1) (r::b::B)=[x]:=List.length_eq_one_iff.1 (by simp)
  have h13:¬((A.length:Int)+(B.length+1)=0):=by omega
  have h14:(0:Int)≤(A.length:Int)+(B.length+1):=by omega
  have h15:(B.length:Int)≤B.length+1:=by omega
  have h16:(B.length:Int)<B.length+1:=by omega
  have h17:((A.length:Int)+(B.length+1)).toNat=A.length+(B.length+1):=by omega
  have h18:((A.length:Int)+(B.length+1+1) - (A.length+(B.length+1))).toNat=1:=by omega
  have h20:A.length+(B.length+1)+1≤A.length+(B.length+1+1):=by omega
  have h21:List.take (A.length+(B.length+1)) (A++b::(B++[x]))=A++b::B:=by
   have:A++b::(B++[x])=(A++b::B)++[x]:=by simp
   rw [this]
   exact List.take_left' (by simp)
  have h22:List.drop (A.length+(B.length+1)+1) (A++b::(B++[x]))=[]:=List.drop_eq_nil_of_le (by simp;omega)
  have h10:((A.length:Int)+(B.length+1+1) - (A.length+1)).toNat=B.length+1:=by omega
  simp at h2 h5 h6 h7
  simp [F_z_321,reachC,cut,h1,h2,h3,h4,h5,h6,h7,h8,h9,h10,h11,h12,h13,h14,h15,h16,h17,h18,h20,h21,h22,hx,endH]
end Go.VS.Sp
namespace Go.VS.Sp
theorem rg2:List.range 2=[0,1]:=rfl
theorem rg3:List.range 3=[0,1,2]:=rfl
def hld (own:Int) (H:List Int) (t:Int):Int:=if (decide (0≤t)&&t==own)=true then 2 else if t∈H then 1 else 0
theorem loop_reads (own:D) (a b c d e f g:D) (nl:Bool) (l:List Int) (t:Int) (hn:l.length≤1000000):∀(suf pre:List Int),l=pre++suf →
  ev P (.loop 0 [1,2,5] F_z_250_L0 [(1,.d (I' t)),(2,.d (.ref [own,a,b,hD nl l,c,d,e,f,g])),(5,.d (I' pre.length))] []) =
   if t∈suf then some (.out .ret [(4,.d (.b true))] []) else some (.out (.exit 0) [] []):=by
 intro suf
 induction suf with
 | nil =>
  intro pre hl
  have:l.length=pre.length:=by simp [hl]
  rw [ev_loop]
  conv=>lhs;arg 4;unfold F_z_250_L0
  simp [this]
 | cons w suf ih =>
  intro pre hl
  have hg:l[pre.length]?=some w:=by simp [hl]
  have hlt:(pre.length:Int)<l.length:=by simp [hl];omega
  have hnext:IntKind.i64.wrap ((pre.length:Int)+1)=pre.length+1:=wrap_i64 (by omega) (by omega)
  have ih':=ih (pre++[w]) (by simp [hl])
  simp at ih'
  rw [ev_loop]
  conv=>lhs;arg 4;unfold F_z_250_L0
  by_cases hw:t=w
  ·subst hw
   simp [hlt,hg]
  ·have hw2:(w==t)=false:=by simpa using fun h=>hw h.symm
   simp [hlt,hg,hw,hw2,hnext]
   exact ih'
theorem ev_reads (own:D) (a b c d e f g:D) (nl:Bool) (l:List Int) (t:Int) (hn:l.length≤1000000) :
  ev P (.call z_250 [.d (.ag [own,a,b,hD nl l,c,d,e,f,g]),.d (I' t)] [])=some (.val (.d (.b (decide (t∈l)))) []):=by
 have hl:=loop_reads own a b c d e f g nl l t hn l [] rfl
 simp at hl
 rw [ev_call P_z_250 rfl]
 by_cases h:t∈l<;>simp [h] at hl<;>simp [F_z_250,hl,h]
theorem ev_rHolds (own:Int) (a b c d e f g:D) (nl:Bool) (H:List Int) (t:Int) (hn:H.length≤1000000) :
  ev P (.call z_189 [.d (.ag [I' own,a,b,hD nl H,c,d,e,f,g]),.d (I' t)] [])=some (.val (.d (I' (hld own H t))) []):=by
 have hC:=ev_reads (I' own) a b c d e f g nl H t hn
 rw [ev_call P_z_189 rfl]
 unfold hld
 have he:(own==t)=(t==own):=Bool.beq_comm
 cases h1:(decide (0≤t)&&t==own)
 ·simp [F_z_189,he,h1]
  by_cases h2:t∈H<;>simp [h2] at hC<;>simp [hC,h2]
 ·simp [F_z_189,he,h1]
theorem loop_with (nl:Bool) (l:List Int) (t:Int) (hn:l.length≤100000):∀(suf pre:List Int),l=pre++suf →
  ev P (.loop 0 [0,1,5] F_z_191_L0 [(0,.d (hD nl l)),(1,.d (I' t)),(5,.d (I' pre.length))] []) =
   some (.out (.exit 0) [(0,.d (hD nl l)),(1,.d (I' t)),(5,.d (I' ((pre.length+bI t suf:Nat):Int)))] []):=by
 intro suf
 induction suf with
 | nil =>
  intro pre hl
  have:l.length=pre.length:=by simp [hl]
  rw [ev_loop]
  conv=>lhs;arg 4;unfold F_z_191_L0
  simp [this,bI]
 | cons w suf ih =>
  intro pre hl
  have hg:l[pre.length]?=some w:=by simp [hl]
  have hlt:(pre.length:Int)<l.length:=by simp [hl];omega
  have hnext:IntKind.i64.wrap ((pre.length:Int)+1)=pre.length+1:=wrap_i64 (by omega) (by omega)
  have ih':=ih (pre++[w]) (by simp [hl])
  rw [bI_cons]
  generalize bI t suf=b at *
  rw [ev_loop]
  conv=>lhs;arg 4;unfold F_z_191_L0
  by_cases hw:w<t
  ·have e:(pre.length+(b+1):Nat)=(pre++[w]).length+b:=by simp;omega
   rw [if_pos hw,e,←ih']
   simp [hlt,hg,hw,hnext]
  ·rw [if_neg hw]
   simp [hlt,hg,hw]
theorem ev_with (nl:Bool) (l:List Int) (t:Int) (hn:l.length≤100000) :
  ev P (.call z_191 [.d (hD nl l),.d (I' t)] [])=some (.val (.d (hD false (insI t l))) []):=by
 have hL:ev P (.loop 0 [0,1,5] F_z_191_L0 [(0,.d (hD nl l)),(1,.d (I' t)),(5,.d (I' 0))] []) =
   some (.out (.exit 0) [(0,.d (hD nl l)),(1,.d (I' t)),(5,.d (I' (bI t l)))] []):=by
  have h:=loop_with nl l t hn l [] rfl
  rw [List.length_nil,Nat.zero_add] at h
  exact h
 have hb:=bI_le t l
 rw [ev_call P_z_191 rfl]
 unfold insI
 obtain ⟨L1,L2,e1,e2⟩:∃L1 L2,l=L1++L2∧bI t l=L1.length:=⟨l.take (bI t l),l.drop (bI t l),(List.take_append_drop _ _).symm,by simp;omega⟩
 rw [e2] at hL ⊢
 subst e1
 simp only [List.take_left,List.drop_left]
 simp at hn
 rcases L1 with _ | ⟨a,L1⟩<;>rcases L2 with _ | ⟨c,L2⟩<;>simp only [List.cons_append,List.nil_append,List.append_nil] at hL
 ·have hr:1≤room:=by decide
  simp [F_z_191,hL,V.same_self,hr,reachC,cut,thaw,freezeAll,freeze1,overlay,take_map_len,drop_map_len,Nat.not_succ_le_self,List.idxOf_cons]
 ·have hr:L2.length+1+1≤room:=by unfold room;simp at hn;omega
  have hr1:1≤room:=by decide
  have h0:(0:Int)≤L2.length+1:=by omega
  have e1:1+(L2.length+1)=L2.length+1+1:=by omega
  simp [F_z_191,hL,V.same_self,h0,hr,hr1,e1,reachC,cut,thaw,freezeAll,freeze1,overlay,take_map_len,drop_map_len,Nat.not_succ_le_self,List.idxOf_cons]
 ·have hr:L1.length+1+1≤room:=by unfold room;simp at hn;omega
  have hr1:L1.length+1≤room:=by omega
  have h0:(0:Int)≤L1.length+1:=by omega
  have d1:List.drop L1.length (List.map (fun x=>[I' x]) L1)=[]:=List.drop_eq_nil_of_le (by simp)
  have t1:List.take (L1.length+1) (List.map (fun x=>[I' x]) L1++[[I' t]])=List.map (fun x=>[I' x]) L1++[[I' t]]:=List.take_of_length_le (by simp)
  simp [F_z_191,hL,V.same_self,hr,hr1,h0,d1,t1,reachC,cut,thaw,freezeAll,freeze1,overlay,take_map_len,drop_map_len,Nat.not_succ_le_self,List.idxOf_cons]
 ·have hr:L1.length+1+1+(L2.length+1)≤room:=by unfold room;simp at hn;omega
  have hr1:L1.length+1+1≤room:=by omega
  have hr2:L1.length+1≤room:=by omega
  have h0:(0:Int)≤L1.length+1:=by omega
  have h1:(L1.length:Int)≤L1.length+(L2.length+1):=by omega
  have n1:¬(L1.length+1+1+(L2.length+1)≤L1.length+1+1):=by omega
  have e1:((L1.length:Int)+(L2.length+1)+1).toNat=L1.length+(L2.length+1)+1:=by omega
  have e2:L1.length+(L2.length+1)+1 - (L1.length+1)=L2.length+1:=by omega
  have t2:List.take (L1.length+(L2.length+1)) (List.map (fun x=>[I' x]) L1++[I' c]::List.map (fun x=>[I' x]) L2)=List.map (fun x=>[I' x]) L1++[I' c]::List.map (fun x=>[I' x]) L2:=List.take_of_length_le (by simp)
  have t3:List.drop L1.length (List.map (fun x=>[I' x]) L1++[I' c]::List.map (fun x=>[I' x]) L2)=[I' c]::List.map (fun x=>[I' x]) L2:=List.drop_left' (by simp)
  have e3:L1.length+1+1+(L2.length+1)=L1.length+(L2.length+1+1)+1:=by omega
  have t4:List.take (L1.length+(L2.length+1+1)) (List.map (fun x=>[I' x]) L1++[I' t]::[I' c]::List.map (fun x=>[I' x]) L2)=List.map (fun x=>[I' x]) L1++[I' t]::[I' c]::List.map (fun x=>[I' x]) L2:=List.take_of_length_le (by simp)
  rw [e3] at hr n1
  have t1:List.take (L1.length+1) (List.map (fun x=>[I' x]) L1++[[I' t]])=List.map (fun x=>[I' x]) L1++[[I' t]]:=List.take_of_length_le (by simp)
  have h5:L1.length+(L2.length+1+1)≤L1.length+1+(L2.length+1):=by omega
  simp [F_z_191,hL,V.same_self,hr,hr1,hr2,h0,h1,n1,e1,e2,e3,t1,t2,t3,t4,h5,reachC,cut,thaw,freezeAll,freeze1,overlay,take_map_len,drop_map_len,Nat.not_succ_le_self,List.idxOf_cons]
theorem loop_wout (nl:Bool) (l:List Int) (t:Int) (hn:l.length≤100000):∀(suf pre:List Int),l=pre++suf →
  ev P (.loop 0 [0,1,5,6] F_z_190_L0 [(0,.d (hD nl l)),(1,.d (I' t)),(5,.asl 0 0 (pre.filter fun w=>w != t).length),(6,.d (I' pre.length))] [.arrD 1 true (rows1 (pre.filter fun w=>w != t))]) =
   some (.out (.exit 0) [(5,.asl 0 0 (l.filter fun w=>w != t).length)] [.arrD 1 true (rows1 (l.filter fun w=>w != t))]):=by
 intro suf
 induction suf with
 | nil =>
  intro pre hl
  have hlp:l=pre:=by simp [hl]
  subst hlp
  rw [ev_loop]
  conv=>lhs;arg 4;unfold F_z_190_L0
  simp [reachC,cut]
 | cons w suf ih =>
  intro pre hl
  have hg:l[pre.length]?=some w:=by simp [hl]
  have hlt:(pre.length:Int)<l.length:=by simp [hl];omega
  have hnext:IntKind.i64.wrap ((pre.length:Int)+1)=pre.length+1:=wrap_i64 (by omega) (by omega)
  have ih':=ih (pre++[w]) (by simp [hl])
  have hrl:(pre.filter fun w=>w != t).length<1000000:=by
   have h1:(pre.filter fun w=>w != t).length≤pre.length:=List.length_filter_le _ _
   have h2:pre.length<l.length:=by simp [hl]
   omega
  have hr:(pre.filter fun w=>w != t).length+1≤room:=by unfold room;omega
  generalize hf:(pre.filter fun w=>w != t)=fl at *
  simp [hf] at ih'
  rw [ev_loop]
  conv=>lhs;arg 4;unfold F_z_190_L0
  by_cases hw:w=t
  ·simp [hw] at ih'
   simp [hlt,hg,hw,hnext,reachC,cut]
   exact ih'
  ·have hw2:(w != t)=true:=by simpa using hw
   simp [hw2] at ih'
   simp [hlt,hg,hw2,hnext,reachC,cut,hr,Nat.not_succ_le_self,overlay,take_map_len]
   exact ih'
theorem ev_wout (nl:Bool) (l:List Int) (t:Int) (hn:l.length≤100000) :
  ev P (.call z_190 [.d (hD nl l),.d (I' t)] [])=some (.val (.d (hD false (l.filter fun w=>w != t))) []):=by
 rw [ev_call P_z_190 rfl]
 have hl:=loop_wout nl l t hn l [] rfl
 simp at hl
 simp [F_z_190,mkRows,reachC,cut,hl,allDs,take_map_len]
theorem split_at {l:List Int} {t:Int} (h:SAsc l) (hm:t∈l):∃A B,l=A++t::B∧bI t l=A.length∧l.filter (fun x=>x != t)=A++B:=by
 have h1:=(mem_bI h).2 hm
 have hlt:bI t l<l.length:=(List.getElem?_eq_some_iff.1 h1).1
 have h2:l[bI t l]=t:=(List.getElem?_eq_some_iff.1 h1).2
 refine ⟨l.take (bI t l),l.drop (bI t l+1),?_,by simp;omega,filter_bI h hm⟩
 have h3:l.drop (bI t l)=l[bI t l]::l.drop (bI t l+1):=List.drop_eq_getElem_cons hlt
 rw [h2] at h3
 rw [←h3,List.take_append_drop]
end Go.VS.Sp
namespace Go.VS.Sp
theorem pl_H (s:S):s.pl.H=s.H:=rfl
theorem pl_own (s:S):s.pl.own=s.own:=rfl
set_option maxHeartbeats 1000000 in
theorem ev_eW (o:List D) (ho:o.length=4) (x y:D) (s:S) (hw:s.wf) (c:Cl) (hH:SAsc s.H) (hn:s.H.length≤100000) (hv:s.own = -1∨0≤s.own) :
  Rel (ev P (.call z_319 [.d (.ag [x,y]),.d (.ag o),.d (.ag s.row),.d (.ag c.row)] [])) (eW s.pl c):=by
 have hBS:=ev_BS s.hn s.H c.task (by omega) hH.asc
 have hm:decide (s.H[bI c.task s.H]?=some c.task)=decide (c.task∈s.H):=decide_eq_decide.2 (mem_bI hH)
 rw [hm] at hBS
 rw [ev_call P_z_319 rfl]
 unfold eW
 rw [pl_H,pl_own]
 have e:decide (0≤s.own)=!(s.own == -1):=by rw [Bool.eq_iff_iff];simp;omega
 cases h1:c.op==54
 ·cases h2:c.op==56
  ·cases h4:(decide (c.task∈s.H)||s.own==c.task)
   ·cases h5:(!(s.own == -1)||(c.op==55&&decide (0<s.H.length)))
    ·cases h6:c.op==55
     ·have hI:=ev_prim P_z_263 (p:=insP 1) rfl
      refine Rel.gd { s with hn:=false,H:=insI c.task s.H } ?_ (by simp [S.pl]) ⟨by simp,hw.b,hw.c,hw.k⟩
      rw [h6] at h5
      simp only [Bool.false_and,Bool.or_false] at h5
      have hb:=bI_le c.task s.H
      cases hf:s.hn
      ·have hr:s.H.length+1≤room:=by unfold room;omega
       have hCl:=ev_CloneI s.hn s.H hw.h (by omega)
       rw [hf,if_neg (by decide)] at hCl
       rw [hf] at hBS
       have hrow:hD false (insI c.task s.H) = .sl 1 false ((rows1 s.H).take (bI c.task s.H)++[I' c.task]::(rows1 s.H).drop (bI c.task s.H)):=by unfold insI hD rows1;simp [List.map_take,List.map_drop]
       simp only [S.row]
       rw [hrow]
       generalize bI c.task s.H=b at *
       have h7:s.H.length+1≤b+(s.H.length - b+1):=by omega
       have t5:List.take (s.H.length+1) (List.take b (List.map (fun x=>[I' x]) s.H)++[I' c.task]::List.drop b (List.map (fun x=>[I' x]) s.H))=List.take b (List.map (fun x=>[I' x]) s.H)++[I' c.task]::List.drop b (List.map (fun x=>[I' x]) s.H) :=
        List.take_of_length_le (by simp;omega)
       simp [F_z_319,ho,Cl.row,hBS,h1,h2,h4,e,h5,h6,hf,hCl,hI,insP,insRows,hr,hb,h7,t5,callD,callR,sub,setAll,back,reachC,cut,List.idxOf_cons,thaw,freezeAll,freeze1,overlay,rg2,rg3,take_map_len,drop_map_len]
      ·have hE:=hw.h hf
       have hr:1≤room:=by decide
       have hCl:=ev_CloneI s.hn s.H hw.h (by omega)
       rw [hf,if_pos rfl] at hCl
       rw [hf] at hBS
       have h4':(s.own==c.task)=false:=by have:=h4;rw [hE] at this;simpa using this
       rw [hE] at hBS hCl ⊢
       have hz:bI c.task []=0:=rfl
       have hi:insI c.task []=[c.task]:=rfl
       rw [hz] at hBS
       rw [hi]
       simp [F_z_319,ho,Cl.row,hBS,h1,h2,h4',e,h5,h6,hf,hCl,hI,insP,insRows,hr,hb,hE,callD,callR,sub,setAll,back,reachC,cut,List.idxOf_cons,thaw,freezeAll,freeze1,overlay,rg2,rg3,take_map_len,drop_map_len]
     ·rw [h6] at h5
      simp only [Bool.true_and] at h5
      exact Rel.gd { s with own:=c.task } (by simp [F_z_319,ho,Cl.row,hBS,h1,h2,h4,e,h5,h6]) (by simp [S.pl]) ⟨hw.h,hw.b,hw.c,hw.k⟩
    ·exact Rel.er s 29 (by simp [F_z_319,ho,Cl.row,hBS,h1,h2,h4,e,h5]) (by simp) ⟨hw.h,hw.b,hw.c,hw.k⟩
   ·exact Rel.er s 17 (by simp [F_z_319,ho,Cl.row,hBS,h1,h2,h4]) (by simp) ⟨hw.h,hw.b,hw.c,hw.k⟩
  ·cases h3:s.own==c.task
   ·have h3':(s.own != c.task)=true:=by simp [bne,h3]
    exact Rel.er s 20 (by simp [F_z_319,ho,Cl.row,hBS,h1,h2,h3']) (by simp) ⟨hw.h,hw.b,hw.c,hw.k⟩
   ·have h3':(s.own != c.task)=false:=by simp [bne,h3]
    exact Rel.gd { s with own:=-1 } (by simp [F_z_319,ho,Cl.row,hBS,h1,h2,h3']) (by simp [S.pl]) ⟨hw.h,hw.b,hw.c,hw.k⟩
 ·cases h2:decide (c.task∈s.H)
  ·rw [h2] at hBS
   exact Rel.er s 20 (by simp [F_z_319,ho,Cl.row,hBS,h1]) (by simp) ⟨hw.h,hw.b,hw.c,hw.k⟩
  ·rw [h2] at hBS
   have hmm:c.task∈s.H:=by simpa using h2
   obtain ⟨A,B,e1,e2,e3⟩:=split_at hH hmm
   have hnf:s.hn=false:=by
    cases hf:s.hn
    ·rfl
    ·rw [hw.h hf] at hmm;simp at hmm
   have hCl:=ev_CloneI s.hn s.H hw.h (by omega)
   rw [hnf,if_neg (by decide)] at hCl
   rw [hnf] at hBS
   rw [e2] at hBS
   have hD:=ev_DeleteI (rows1 A) (rows1 B) [I' c.task] (by rw [e1] at hn;simp at hn ⊢;omega)
   have hrow:rows1 s.H=rows1 A++[I' c.task]::rows1 B:=by rw [e1];simp
   have hlen:s.H.length=A.length+(B.length+1):=by rw [e1];simp
   have hwr:IntKind.i64.wrap ((A.length:Int)+1)=A.length+1:=wrap_i64 (by omega) (by omega)
   rw [hrow,hlen] at hCl
   simp only [List.length_map] at hD
   rw [e3]
   have t6:List.take (A.length+B.length) (rows1 A++(rows1 B++[[I' 0]]))=List.map (fun x=>[I' x]) A++List.map (fun x=>[I' x]) B:=by
    rw [←List.append_assoc]
    exact List.take_left' (by simp)
   refine Rel.gd { s with hn:=false,H:=A++B } ?_ (by simp [S.pl]) ⟨by simp,hw.b,hw.c,hw.k⟩
   simp [F_z_319,ho,Cl.row,hBS,h1,hnf,hCl,hwr,hD,t6,callD,callR,sub,setAll,back,reachC,cut,List.idxOf_cons,thaw,freezeAll,freeze1,overlay,rg2,rg3,take_map_len,drop_map_len]
theorem ev_eWr (s:S) (hw:s.wf) (c:Cl) (hH:SAsc s.H) (hn:s.H.length≤100000) (hv:s.own = -1∨s.H=[]) (ht:0≤c.task) :
  Rel (ev P (.call z_106 [.d (.ag s.row),.d (.ag c.row)] [])) (eW s.pl c):=by
 have hO:=ev_rHolds s.own (I' s.cnt) (I' s.time) (qD s.qn s.Q) (hD s.bn s.B) (cD s.cn s.C) (.b s.cl) (I' s.val) s.hn s.H c.task (by omega)
 have hWo:=ev_wout s.hn s.H c.task hn
 have hWi:=ev_with s.hn s.H c.task hn
 have ht1:decide (0≤c.task)=true:=by simpa using ht
 have hc:(c.task==s.own)=(s.own==c.task):=Bool.beq_comm
 unfold hld at hO
 rw [ht1,Bool.true_and,hc] at hO
 rw [ev_call P_z_106 rfl]
 unfold eW
 rw [pl_H,pl_own]
 cases h3:s.own==c.task
 ·rw [h3,if_neg (by decide)] at hO
  cases h4:decide (c.task∈s.H)
  ·have h4':¬c.task∈s.H:=by simpa using h4
   rw [if_neg h4'] at hO
   cases h1:c.op==54
   ·cases h2:c.op==56
    ·cases h5:(!(s.own == -1)||(c.op==55&&decide (0<s.H.length)))
     ·cases h6:c.op==55
      ·rw [h6] at h5
       simp only [Bool.false_and,Bool.or_false] at h5
       exact Rel.gd { s with hn:=false,H:=insI c.task s.H } (by simp [F_z_106,Cl.row,hO,h1,h2,h5,h6,bne,hWi]) (by simp [S.pl]) ⟨by simp,hw.b,hw.c,hw.k⟩
      ·rw [h6] at h5
       simp only [Bool.true_and] at h5
       exact Rel.gd { s with own:=c.task } (by simp [F_z_106,Cl.row,hO,h1,h2,h5,h6,bne]) (by simp [S.pl]) ⟨hw.h,hw.b,hw.c,hw.k⟩
     ·exact Rel.er s 29 (by simp [F_z_106,Cl.row,hO,h1,h2,h5,bne]) (by simp) ⟨hw.h,hw.b,hw.c,hw.k⟩
    ·have h1':¬c.op=54:=by simpa using h1
     have h2':c.op=56:=by simpa using h2
     exact Rel.er s 20 (by simp [F_z_106,Cl.row,hO,h2',bne]) (by simp) ⟨hw.h,hw.b,hw.c,hw.k⟩
   ·have h1':c.op=54:=by simpa using h1
    exact Rel.er s 20 (by simp [F_z_106,Cl.row,hO,h1',bne]) (by simp) ⟨hw.h,hw.b,hw.c,hw.k⟩
  ·have h4':c.task∈s.H:=by simpa using h4
   rw [if_pos h4'] at hO
   cases h1:c.op==54
   ·cases h2:c.op==56
    ·exact Rel.er s 17 (by simp [F_z_106,Cl.row,hO,h1,h2,bne]) (by simp) ⟨hw.h,hw.b,hw.c,hw.k⟩
    ·have h2':c.op=56:=by simpa using h2
     exact Rel.er s 20 (by simp [F_z_106,Cl.row,hO,h2',bne]) (by simp) ⟨hw.h,hw.b,hw.c,hw.k⟩
   ·have h1':c.op=54:=by simpa using h1
    exact Rel.gd { s with hn:=false,H:=s.H.filter fun x=>x != c.task } (by simp [F_z_106,Cl.row,hO,h1',bne,hWo]) (by simp [S.pl]) ⟨by simp,hw.b,hw.c,hw.k⟩
 ·have h3':s.own=c.task:=by simpa using h3
  have hE:s.H=[]:=by
   rcases hv with h | h
   ·omega
   ·exact h
  rw [h3,if_pos rfl] at hO
  rw [hE] at hO hWo ⊢
  have h4:decide (c.task∈([]:List Int))=false:=by simp
  cases h1:c.op==54
  ·cases h2:c.op==56
   ·exact Rel.er s 17 (by simp [F_z_106,Cl.row,hE,hO,h1,h2,bne]) (by simp) ⟨hw.h,hw.b,hw.c,hw.k⟩
   ·have h2':c.op=56:=by simpa using h2
    exact Rel.gd { s with own:=-1,hn:=false,H:=[] } (by simp [F_z_106,Cl.row,hE,hO,h2',bne,hWo]) (by simp [S.pl,hE]) ⟨by simp,hw.b,hw.c,hw.k⟩
  ·have h1':c.op=54:=by simpa using h1
   exact Rel.er s 20 (by simp [F_z_106,Cl.row,hE,hO,h1',bne]) (by simp) ⟨hw.h,hw.b,hw.c,hw.k⟩
end Go.VS.Sp
namespace Go.VS.Sp
theorem ev_room (nm:D) (k sz ot:Int):ev P (.call z_330 [.d (.ag [nm,I' k,I' sz,I' ot])] [])=some (.val (.d (.ag [nm,I' k,I' (rmz sz),I' ot])) []):=by
 rw [ev_call P_z_330 rfl]
 unfold rmz
 simp [F_z_330]
theorem ev_Room (nm:D) (k sz ot:Int):ev P (.call z_47 [.d (.ag [nm,I' k,I' sz,I' ot])] [])=some (.val (.d (I' (rmz sz))) []):=by
 rw [ev_call P_z_47 rfl]
 unfold rmz
 simp [F_z_47]
theorem pl_B (s:S):s.pl.B=s.B:=rfl
theorem pl_cl (s:S):s.pl.cl=s.cl:=rfl
theorem ev_eC (x y nm:D) (k sz ot:Int) (s:S) (hw:s.wf) (c:Cl) (hb:c.op=64∨c.op=65∨c.op=66) (hn:s.B.length≤100000) :
  Rel (ev P (.call z_328 [.d (.ag [x,y]),.d (.ag [nm,I' k,I' sz,I' ot]),.d (.ag s.row),.d (.ag c.row)] [])) (eC (rmz sz) s.pl c):=by
 have hR:=ev_room nm k sz ot
 generalize hrm:rmz sz=rm at *
 rw [ev_call P_z_328 rfl]
 unfold eC
 rw [pl_B,pl_cl]
 cases h1:c.op==64
 ·cases h2:c.op==65
  ·cases h3:s.cl
   ·exact Rel.gd { s with cl:=true } (by simp [F_z_328,Cl.row,h1,h2,h3]) (by simp [S.pl]) ⟨hw.h,hw.b,hw.c,hw.k⟩
   ·exact Rel.er s 17 (by simp [F_z_328,Cl.row,h1,h2,h3]) (by simp) ⟨hw.h,hw.b,hw.c,hw.k⟩
  ·cases hB:s.B with
   | nil =>
    cases h3:s.cl
    ·exact Rel.er s 29 (by simp [F_z_328,Cl.row,h1,h2,h3,hB]) (by simp) ⟨hw.h,hw.b,hw.c,hw.k⟩
    ·exact Rel.er s 0 (by simp [F_z_328,Cl.row,h1,h2,h3,hB]) (by simp) ⟨hw.h,hw.b,hw.c,hw.k⟩
   | cons b r =>
    have hf:s.bn=false:=by
     cases hf:s.bn
     ·rfl
     ·rw [hw.b hf] at hB;simp at hB
    have hC2:=ev_CloneI false r (by simp) (by rw [hB] at hn;simp at hn;omega)
    rw [if_neg (by decide)] at hC2
    have n1:(1:Int)≤r.length+1:=by omega
    have n0:((r.length:Int)+1==0)=false:=by simp;omega
    refine Rel.vl { s with bn:=false,B:=r } b ?_ (by simp [S.pl]) ⟨hw.h,by simp,hw.c,hw.k⟩
    simp [F_z_328,Cl.row,h1,h2,hB,hf,hC2,n0,n1,callD,callR,sub,setAll,back,reachC,cut,List.idxOf_cons,V.same_self,thaw,freezeAll,freeze1,overlay,take_map_len,drop_map_len]
 ·cases h3:s.cl
  ·cases h4:decide (rm≤s.B.length)
   ·have hr:s.B.length+1≤room:=by unfold room;omega
    have hC:=ev_CloneI s.bn s.B hw.b (by omega)
    refine Rel.gd { s with bn:=false,B:=s.B++[c.value] } ?_ (by simp [S.pl,h3]) ⟨hw.h,by simp,hw.c,hw.k⟩
    cases hf:s.bn
    ·rw [hf,if_neg (by decide)] at hC
     have t1:List.take (s.B.length+1) (List.map (fun x=>[I' x]) s.B++[[I' c.value]])=List.map (fun x=>[I' x]) s.B++[[I' c.value]]:=List.take_of_length_le (by simp)
     simp [F_z_328,Cl.row,h1,h3,h4,hf,hR,hC,hr,t1,callD,callR,sub,setAll,back,reachC,cut,List.idxOf_cons,V.same_self,thaw,freezeAll,freeze1,overlay,take_map_len,drop_map_len,Nat.not_succ_le_self]
    ·have hB:=hw.b hf
     rw [hf,if_pos rfl] at hC
     rw [hB] at h4 hC ⊢
     have h4:decide (rm≤0)=false:=h4
     have hr1:1≤room:=by decide
     simp [F_z_328,Cl.row,h1,h3,h4,hf,hR,hC,hB,hr1,callD,callR,sub,setAll,back,reachC,cut,List.idxOf_cons,V.same_self,thaw,freezeAll,freeze1,overlay,take_map_len,drop_map_len,Nat.not_succ_le_self]
   ·exact Rel.er s 29 (by simp [F_z_328,Cl.row,h1,h3,hR,h4]) (by simp) ⟨hw.h,hw.b,hw.c,hw.k⟩
  ·exact Rel.er s 0 (by simp [F_z_328,Cl.row,h1,h3]) (by simp) ⟨hw.h,hw.b,hw.c,hw.k⟩
theorem ev_eCr (nm:D) (k sz ot:Int) (s:S) (hw:s.wf) (c:Cl) (hb:c.op=64∨c.op=65∨c.op=66) (hn:s.B.length≤100000) :
  Rel (ev P (.call z_109 [.d (.ag [nm,I' k,I' sz,I' ot]),.d (.ag s.row),.d (.ag c.row)] [])) (eC (rmz sz) s.pl c):=by
 have hR:=ev_Room nm k sz ot
 generalize hrm:rmz sz=rm at *
 rw [ev_call P_z_109 rfl]
 unfold eC
 rw [pl_B,pl_cl]
 cases h1:c.op==64
 ·cases h2:c.op==65
  ·have h66:c.op=66:=by
    have a1:¬c.op=64:=by simpa using h1
    have a2:¬c.op=65:=by simpa using h2
    omega
   cases h3:s.cl
   ·exact Rel.gd { s with cl:=true } (by simp [F_z_109,Cl.row,h66,h3]) (by simp [S.pl]) ⟨hw.h,hw.b,hw.c,hw.k⟩
   ·exact Rel.er s 17 (by simp [F_z_109,Cl.row,h66,h3]) (by simp) ⟨hw.h,hw.b,hw.c,hw.k⟩
  ·have h65:c.op=65:=by simpa using h2
   cases hB:s.B with
   | nil =>
    cases h3:s.cl
    ·exact Rel.er s 29 (by simp [F_z_109,Cl.row,h65,h3,hB]) (by simp) ⟨hw.h,hw.b,hw.c,hw.k⟩
    ·exact Rel.er s 0 (by simp [F_z_109,Cl.row,h65,h3,hB]) (by simp) ⟨hw.h,hw.b,hw.c,hw.k⟩
   | cons b r =>
    have hf:s.bn=false:=by
     cases hf:s.bn
     ·rfl
     ·rw [hw.b hf] at hB;simp at hB
    have n1:(1:Int)≤r.length+1:=by omega
    have n2:(0:Int)<r.length+1:=by omega
    have hr:r.length≤room:=by unfold room;rw [hB] at hn;simp at hn;omega
    refine Rel.vl { s with bn:=false,B:=r } b ?_ (by simp [S.pl]) ⟨hw.h,by simp,hw.c,hw.k⟩
    cases r with
    | nil =>
     simp [F_z_109,Cl.row,h65,hB,hf,n1,n2,hr,callD,callR,sub,setAll,back,reachC,cut,List.idxOf_cons,V.same_self,thaw,freezeAll,freeze1,overlay,take_map_len,drop_map_len,Nat.not_succ_le_self]
    | cons b2 r2 =>
     simp at hr n1 n2
     have e1:((r2.length:Int)+1+1).toNat=r2.length+1+1:=by omega
     have hrI:(r2.length:Int)+1≤(room:Int):=by omega
     simp [F_z_109,Cl.row,h65,hB,hf,n1,n2,hr,hrI,e1,callD,callR,sub,setAll,back,reachC,cut,List.idxOf_cons,V.same_self,thaw,freezeAll,freeze1,overlay,take_map_len,drop_map_len,Nat.not_succ_le_self]
 ·have h64:c.op=64:=by simpa using h1
  cases h3:s.cl
  ·cases h4:decide (rm≤s.B.length)
   ·have hr:s.B.length+1≤room:=by unfold room;omega
    refine Rel.gd { s with bn:=false,B:=s.B++[c.value] } ?_ (by simp [S.pl,h3]) ⟨hw.h,by simp,hw.c,hw.k⟩
    cases hB:s.B with
    | nil =>
     rw [hB] at h4
     have h4:decide (rm≤0)=false:=h4
     have hr1:1≤room:=by decide
     simp [F_z_109,Cl.row,h64,h3,h4,hR,hB,hr1,callD,callR,sub,setAll,back,reachC,cut,List.idxOf_cons,V.same_self,thaw,freezeAll,freeze1,overlay,take_map_len,drop_map_len,Nat.not_succ_le_self]
    | cons b r =>
     rw [hB] at h4 hr
     have h4:decide (rm≤(r.length:Int)+1)=false:=by simpa using h4
     have hr1:r.length+1+1≤room:=hr
     have hr2:r.length+1≤room:=by omega
     have t1:List.take (r.length+1) (List.map (fun x=>[I' x]) r++[[I' c.value]])=List.map (fun x=>[I' x]) r++[[I' c.value]]:=List.take_of_length_le (by simp)
     simp [F_z_109,Cl.row,h64,h3,h4,hR,hB,hr1,hr2,t1,callD,callR,sub,setAll,back,reachC,cut,List.idxOf_cons,V.same_self,thaw,freezeAll,freeze1,overlay,take_map_len,drop_map_len,Nat.not_succ_le_self]
   ·exact Rel.er s 29 (by simp [F_z_109,Cl.row,h64,h3,hR,h4]) (by simp) ⟨hw.h,hw.b,hw.c,hw.k⟩
  ·exact Rel.er s 0 (by simp [F_z_109,Cl.row,h64,h3]) (by simp) ⟨hw.h,hw.b,hw.c,hw.k⟩
end Go.VS.Sp
namespace Go.VS.Sp
theorem isTask_iff {n:Int}:isTask n=true↔0≤n∧n<16:=by simp [isTask]
theorem ev_tC1 (a t:Int) (b:Bool) (l:List Int) (ha:isTask a=true) (ht:isTask t=true) :
  ev P (.call z_336 [.d (.ag [I' a,hD b l]),.d (I' t)] [])=some (.val (.d (I' (a - t))) []):=by
 have h1:=isTask_iff.1 ha
 have h2:=isTask_iff.1 ht
 have hw:IntKind.i64.wrap (a - t)=a - t:=wrap_i64 (by omega) (by omega)
 rw [ev_call P_z_336 rfl]
 simp [F_z_336,hw]
theorem loop_BSK (nl:Bool) (C:List K) (t:Int) (hn:C.length≤1000000) (hA:Asc (C.map K.task)) (hC:∀x∈C,isTask x.task=true) (ht:isTask t=true):∀(n i j:Nat),j - i≤n→i≤bI t (C.map K.task)→bI t (C.map K.task)≤j→j≤C.length →
  ev P (.loop 0 [0,1,2,8,9,10] F_z_335_L0 [(0,.d (cD nl C)),(1,.d (I' t)),(2,.d (.fn z_336 [] [])),(8,.d (I' C.length)),(9,.d (I' i)),(10,.d (I' j))] []) =
   some (.out (.exit 0) [(0,.d (cD nl C)),(1,.d (I' t)),(2,.d (.fn z_336 [] [])),(8,.d (I' C.length)),(9,.d (I' (bI t (C.map K.task))))] []):=by
 intro n
 induction n with
 | zero =>
  intro i j h1 h2 h3 h4
  have e1:i=bI t (C.map K.task):=by omega
  have e2:j=bI t (C.map K.task):=by omega
  rw [ev_loop]
  conv=>lhs;arg 4;unfold F_z_335_L0
  simp [e1,e2]
 | succ n ih =>
  intro i j h1 h2 h3 h4
  by_cases hij:i=j
  ·have e1:i=bI t (C.map K.task):=by omega
   have e2:j=bI t (C.map K.task):=by omega
   rw [ev_loop]
   conv=>lhs;arg 4;unfold F_z_335_L0
   simp [e1,e2]
  ·have hlt:i<j:=by omega
   have hw1:IntKind.i64.wrap ((i:Int)+j)=i+j:=wrap_i64 (by omega) (by omega)
   have hm:=mid_eq (i:=i) (j:=j) (by omega)
   generalize hmm:(i+j) / 2=m at hm
   have hm1:i≤m:=by omega
   have hm2:m<j:=by omega
   have hml:m<C.length:=by omega
   obtain ⟨x,hx⟩:∃x,C[m]?=some x:=⟨C[m]'(by omega),by simp⟩
   have hxt:(C.map K.task)[m]?=some x.task:=by simp [hx]
   have hb:=bI_lt (t:=t) hA hxt
   have hx2:C[m]=x:=by rw [List.getElem?_eq_getElem hml] at hx;exact Option.some.inj hx
   have hxm:x∈C:=List.mem_of_getElem? hx
   have hc:=ev_tC1 x.task t x.nl x.log (hC x hxm) ht
   have hm3:IntKind.i64.wrap ((m:Int)+1)=m+1:=wrap_i64 (by omega) (by omega)
   have hml2:(m:Int)<C.length:=by omega
   rw [ev_loop]
   conv=>lhs;arg 4;unfold F_z_335_L0
   by_cases hp:x.task<t
   ·have ih':=ih (m+1) j (by omega) (by omega) (by omega) h4
    have hp2:x.task - t<0:=by omega
    simp at ih'
    simp [hlt,hw1,hm,hm3,hml,hml2,hx,hx2,K.row,hc,hp2]
    exact ih'
   ·have ih':=ih i m (by omega) (by omega) (by omega) (by omega)
    have hp2:¬x.task - t<0:=by omega
    simp [hlt,hw1,hm,hml,hml2,hx,hx2,K.row,hc,hp2]
    exact ih'
theorem ev_BSK (nl:Bool) (C:List K) (t:Int) (hn:C.length≤1000000) (hA:Asc (C.map K.task)) (hC:∀x∈C,isTask x.task=true) (ht:isTask t=true) :
  ev P (.call z_335 [.d (cD nl C),.d (I' t),.d (.fn z_336 [] [])] []) =
   some (.val (.tu [.d (I' (bI t (C.map K.task))),.d (.b (decide ((C.map K.task)[bI t (C.map K.task)]?=some t)))]) []):=by
 have hb:=bI_le t (C.map K.task)
 simp only [List.length_map] at hb
 have hl:=loop_BSK nl C t hn hA hC ht C.length 0 C.length (by omega) (by omega) hb (by omega)
 simp only [Int.natCast_zero] at hl
 by_cases h:bI t (C.map K.task)<C.length
 ·obtain ⟨x,hx⟩:∃x,C[bI t (C.map K.task)]?=some x:=⟨C[bI t (C.map K.task)],by simp⟩
  have hxt:(C.map K.task)[bI t (C.map K.task)]?=some x.task:=by rw [List.getElem?_map,hx];rfl
  have h2:(bI t (C.map K.task):Int)<C.length:=by omega
  have hxm:x∈C:=List.mem_of_getElem? hx
  have hc:=ev_tC1 x.task t x.nl x.log (hC x hxm) ht
  rw [hxt]
  generalize bI t (C.map K.task)=B at *
  have hx2:C[B]=x:=by rw [List.getElem?_eq_getElem h] at hx;exact Option.some.inj hx
  have e:(x.task - t==0)=decide (x.task=t):=by rw [Bool.eq_iff_iff];simp;omega
  rw [ev_call P_z_335 rfl]
  simp [F_z_335,hl,h,h2,hx,hx2,K.row,hc,e]
 ·have h2:¬(bI t (C.map K.task):Int)<C.length:=by omega
  have h3:(C.map K.task)[bI t (C.map K.task)]?=none:=by simp;omega
  rw [h3]
  generalize bI t (C.map K.task)=B at *
  rw [ev_call P_z_335 rfl]
  simp [F_z_335,hl,h,h2]
end Go.VS.Sp
namespace Go.VS.Sp
theorem rg4:List.range 4=[0,1,2,3]:=rfl
theorem pl_C (s:S):s.pl.C=s.C.map K.pl:=rfl
theorem tsk_pl (s:S):tsk s.pl=tsk s:=by
 unfold tsk
 rw [pl_C,List.map_map]
 rfl
theorem bK_pl (s:S) (t:Int):bK s.pl t=bK s t:=by unfold bK;rw [tsk_pl]
theorem isK_pl (s:S) (t:Int):isK s.pl t=isK s t:=by unfold isK;rw [tsk_pl,bK_pl]
structure S.tk (s:S):Prop where
 asc:SAsc (tsk s)
 task:∀x∈s.C,isTask x.task=true
 len:s.C.length≤1000
 log:∀x∈s.C,x.log.length≤100000
theorem ev_eT1 (x y nm:D) (k sz ot:Int) (s:S) (hw:s.wf) (c:Cl) (hk:s.tk) (ht:isTask c.task=true) (hb:c.op=69) :
  Rel (ev P (.call z_333 [.d (.ag [x,y]),.d (.ag [nm,I' k,I' sz,I' ot]),.d (.ag s.row),.d (.ag c.row)] [])) (eT (rmz sz) s.pl c):=by
 have hB:=ev_BSK s.cn s.C c.task (by have:=hk.len;omega) hk.asc.asc hk.task ht
 have hCl:=ev_CloneK s.cn s.C hw.c (by have:=hk.len;omega)
 have hI:=ev_prim P_z_237 (p:=insP 2) rfl
 have hb2:=bI_le c.task (s.C.map K.task)
 simp only [List.length_map] at hb2
 have hlen:=hk.len
 rw [ev_call P_z_333 rfl]
 unfold eT
 rw [isK_pl,bK_pl]
 have e1:isK s c.task=decide ((s.C.map K.task)[bI c.task (s.C.map K.task)]?=some c.task):=rfl
 have e2:bK s c.task=bI c.task (s.C.map K.task):=rfl
 rw [←e1] at hB
 rw [←e2] at hB hb2
 generalize hi:bK s c.task=i at *
 generalize isK s c.task=g at *
 have h69:(c.op==69)=true:=by simp [hb]
 rw [h69]
 cases g
 ·have hrow:cD false (s.C.take i++⟨c.task,true,[]⟩::s.C.drop i) = .sl 2 false ((s.C.map K.row).take i++[I' c.task,.sl 1 true []]::(s.C.map K.row).drop i):=by simp [cD,List.map_take,List.map_drop,K.row]
  refine Rel.gd { s with cn:=false,C:=s.C.take i++⟨c.task,true,[]⟩::s.C.drop i } ?_ (by simp [S.pl,K.pl,List.map_take,List.map_drop]) ⟨hw.h,hw.b,by simp,?_⟩
  ·simp only [S.row]
   rw [hrow]
   cases hf:s.cn
   ·rw [hf,if_neg (by decide)] at hCl
    rw [hf] at hB
    have hr:s.C.length+1≤room:=by unfold room;omega
    have h7:s.C.length+1≤i+(s.C.length - i+1):=by omega
    have t5:List.take (s.C.length+1) (List.take i (List.map K.row s.C)++[I' c.task,.sl 1 true []]::List.drop i (List.map K.row s.C))=List.take i (List.map K.row s.C)++[I' c.task,.sl 1 true []]::List.drop i (List.map K.row s.C) :=
     List.take_of_length_le (by simp;omega)
    simp [F_z_333,Cl.row,hB,hf,hb,hCl,hI,insP,insRows,hr,hb2,h7,t5,callD,callR,sub,setAll,back,reachC,cut,List.idxOf_cons,V.same_self,thaw,freezeAll,freeze1,overlay,take_map_len,drop_map_len,Nat.not_succ_le_self,rg2,rg3,rg4]
   ·have hE:=hw.c hf
    rw [hf,if_pos rfl] at hCl
    rw [hf] at hB
    have hr:1≤room:=by decide
    rw [hE] at hB hCl hb2
    have hi0:i=0:=by simpa using hb2
    subst hi0
    simp [F_z_333,Cl.row,hB,hf,hE,hb,hCl,hI,insP,insRows,hr,callD,callR,sub,setAll,back,reachC,cut,List.idxOf_cons,V.same_self,thaw,freezeAll,freeze1,overlay,take_map_len,drop_map_len,Nat.not_succ_le_self,rg2,rg3,rg4]
  ·intro z hz
   simp only [List.mem_append,List.mem_cons] at hz
   rcases hz with h | h | h
   ·exact hw.k z (List.mem_of_mem_take h)
   ·rw [h];simp
   ·exact hw.k z (List.mem_of_mem_drop h)
 ·refine Rel.er s 6 ?_ (by simp) ⟨hw.h,hw.b,hw.c,hw.k⟩
  cases hf:s.cn
  ·rw [hf,if_neg (by decide)] at hCl
   rw [hf] at hB
   simp [F_z_333,Cl.row,hB,hf,hb,hCl,callD,callR,sub,setAll,back,reachC,cut,List.idxOf_cons,V.same_self,thaw,freezeAll,freeze1,overlay,take_map_len,drop_map_len,Nat.not_succ_le_self,rg2,rg3,rg4]
  ·rw [hf,if_pos rfl] at hCl
   rw [hf] at hB
   simp [F_z_333,Cl.row,hB,hf,hb,hCl,callD,callR,sub,setAll,back,reachC,cut,List.idxOf_cons,V.same_self,thaw,freezeAll,freeze1,overlay,take_map_len,drop_map_len,Nat.not_succ_le_self,rg2,rg3,rg4]
theorem isK_split (s:S) (t:Int) (h:isK s t=true):∃A k B,s.C=A++k::B∧bK s t=A.length∧k.task=t:=by
 unfold isK at h
 have h1:(tsk s)[bK s t]?=some t:=by simpa using h
 have h2:bK s t<s.C.length:=by
  have:=(List.getElem?_eq_some_iff.1 h1).1
  unfold tsk at this
  simpa using this
 refine ⟨s.C.take (bK s t),s.C[bK s t],s.C.drop (bK s t+1),?_,by simp;omega,?_⟩
 ·have h3:s.C.drop (bK s t)=s.C[bK s t]::s.C.drop (bK s t+1):=List.drop_eq_getElem_cons h2
  rw [←h3,List.take_append_drop]
 ·unfold tsk at h1
  rw [List.getElem?_map,List.getElem?_eq_getElem h2] at h1
  simpa using h1
theorem ev_eT2 (x y nm:D) (k sz ot:Int) (s:S) (hw:s.wf) (c:Cl) (hk:s.tk) (ht:isTask c.task=true) (hb:c.op=71) :
  Rel (ev P (.call z_333 [.d (.ag [x,y]),.d (.ag [nm,I' k,I' sz,I' ot]),.d (.ag s.row),.d (.ag c.row)] [])) (eT (rmz sz) s.pl c):=by
 have hB:=ev_BSK s.cn s.C c.task (by have:=hk.len;omega) hk.asc.asc hk.task ht
 have hCl:=ev_CloneK s.cn s.C hw.c (by have:=hk.len;omega)
 have hb2:=bI_le c.task (s.C.map K.task)
 simp only [List.length_map] at hb2
 have hlen:=hk.len
 rw [ev_call P_z_333 rfl]
 unfold eT
 rw [isK_pl,bK_pl]
 have e1:isK s c.task=decide ((s.C.map K.task)[bI c.task (s.C.map K.task)]?=some c.task):=rfl
 have e2:bK s c.task=bI c.task (s.C.map K.task):=rfl
 rw [←e1] at hB
 rw [←e2] at hB hb2
 have h69:(c.op==69)=false:=by simp [hb]
 have h71:(c.op==71)=true:=by simp [hb]
 rw [h69,h71]
 cases hg:isK s c.task
 ·rw [hg] at hB
  generalize bK s c.task=i at *
  refine Rel.er s 20 ?_ (by simp) ⟨hw.h,hw.b,hw.c,hw.k⟩
  cases hf:s.cn
  ·rw [hf,if_neg (by decide)] at hCl
   rw [hf] at hB
   simp [F_z_333,Cl.row,hB,hf,hb,hCl,callD,callR,sub,setAll,back,reachC,cut,List.idxOf_cons,V.same_self,thaw,freezeAll,freeze1,overlay,take_map_len,drop_map_len,Nat.not_succ_le_self,rg2,rg3,rg4]
  ·rw [hf,if_pos rfl] at hCl
   rw [hf] at hB
   simp [F_z_333,Cl.row,hB,hf,hb,hCl,callD,callR,sub,setAll,back,reachC,cut,List.idxOf_cons,V.same_self,thaw,freezeAll,freeze1,overlay,take_map_len,drop_map_len,Nat.not_succ_le_self,rg2,rg3,rg4]
 ·obtain ⟨A,kk,B,f1,f2,f3⟩:=isK_split s c.task hg
  have hf:s.cn=false:=by
   cases hf:s.cn
   ·rfl
   ·have:=hw.c hf;rw [this] at f1;simp at f1
  rw [hg,f2] at hB
  rw [hf] at hB hCl
  rw [if_neg (by decide)] at hCl
  have hD:=ev_DeleteK (A.map K.row) (B.map K.row) kk.row (by rw [f1] at hlen;simp at hlen ⊢;omega)
  have hrow:s.C.map K.row=A.map K.row++kk.row::B.map K.row:=by rw [f1];simp
  have hlen2:s.C.length=A.length+(B.length+1):=by rw [f1];simp
  have hwr:IntKind.i64.wrap ((A.length:Int)+1)=A.length+1:=wrap_i64 (by omega) (by omega)
  rw [hrow,hlen2] at hCl
  simp only [List.length_map] at hD
  have t6:List.take (A.length+B.length) (A.map K.row++(B.map K.row++[[I' 0,.sl 1 true []]]))=A.map K.row++B.map K.row:=by
   rw [←List.append_assoc]
   exact List.take_left' (by simp)
  refine Rel.gd { s with cn:=false,C:=A++B } ?_ ?_ ⟨hw.h,hw.b,by simp,?_⟩
  ·simp [F_z_333,Cl.row,hB,hb,hf,hCl,hwr,hD,t6,callD,callR,sub,setAll,back,reachC,cut,List.idxOf_cons,V.same_self,thaw,freezeAll,freeze1,overlay,take_map_len,drop_map_len,Nat.not_succ_le_self,rg2,rg3,rg4]
  ·rw [f2]
   have d1:List.drop (A.length+1) (List.map K.pl A++kk.pl::List.map K.pl B)=List.map K.pl B:=by
    have:List.map K.pl A++kk.pl::List.map K.pl B=(List.map K.pl A++[kk.pl])++List.map K.pl B:=by simp
    rw [this]
    exact List.drop_left' (by simp)
   simp [S.pl,f1,d1]
  ·intro z hz
   refine hw.k z ?_
   rw [f1]
   rcases List.mem_append.1 hz with h | h
   ·exact List.mem_append_left _ h
   ·exact List.mem_append_right _ (List.mem_cons_of_mem _ h)
theorem ev_eT3 (x y nm:D) (k sz ot:Int) (s:S) (hw:s.wf) (c:Cl) (hk:s.tk) (ht:isTask c.task=true) (hb:c.op=70) :
  Rel (ev P (.call z_333 [.d (.ag [x,y]),.d (.ag [nm,I' k,I' sz,I' ot]),.d (.ag s.row),.d (.ag c.row)] [])) (eT (rmz sz) s.pl c):=by
 have hB:=ev_BSK s.cn s.C c.task (by have:=hk.len;omega) hk.asc.asc hk.task ht
 have hCl:=ev_CloneK s.cn s.C hw.c (by have:=hk.len;omega)
 have hb2:=bI_le c.task (s.C.map K.task)
 simp only [List.length_map] at hb2
 have hlen:=hk.len
 rw [ev_call P_z_333 rfl]
 unfold eT
 rw [isK_pl,bK_pl]
 have e1:isK s c.task=decide ((s.C.map K.task)[bI c.task (s.C.map K.task)]?=some c.task):=rfl
 have e2:bK s c.task=bI c.task (s.C.map K.task):=rfl
 rw [←e1] at hB
 rw [←e2] at hB hb2
 have h69:(c.op==69)=false:=by simp [hb]
 have h71:(c.op==71)=false:=by simp [hb]
 have h70:(c.op==70)=true:=by simp [hb]
 rw [h69,h71,h70]
 cases hg:isK s c.task
 ·rw [hg] at hB
  generalize bK s c.task=i at *
  refine Rel.er s 20 ?_ (by simp) ⟨hw.h,hw.b,hw.c,hw.k⟩
  cases hf:s.cn
  ·rw [hf,if_neg (by decide)] at hCl
   rw [hf] at hB
   simp [F_z_333,Cl.row,hB,hf,hb,hCl,callD,callR,sub,setAll,back,reachC,cut,List.idxOf_cons,V.same_self,thaw,freezeAll,freeze1,overlay,take_map_len,drop_map_len,Nat.not_succ_le_self,rg2,rg3,rg4]
  ·rw [hf,if_pos rfl] at hCl
   rw [hf] at hB
   simp [F_z_333,Cl.row,hB,hf,hb,hCl,callD,callR,sub,setAll,back,reachC,cut,List.idxOf_cons,V.same_self,thaw,freezeAll,freeze1,overlay,take_map_len,drop_map_len,Nat.not_succ_le_self,rg2,rg3,rg4]
 ·obtain ⟨A,kk,B,f1,f2,f3⟩:=isK_split s c.task hg
  have hf:s.cn=false:=by
   cases hf:s.cn
   ·rfl
   ·have:=hw.c hf;rw [this] at f1;simp at f1
  rw [hg,f2] at hB
  rw [hf] at hB hCl
  rw [if_neg (by decide)] at hCl
  have hrow:s.C.map K.row=A.map K.row++kk.row::B.map K.row:=by rw [f1];simp
  have hlen2:s.C.length=A.length+(B.length+1):=by rw [f1];simp
  have hkm:kk∈s.C:=by rw [f1];simp
  have hlg:=hk.log kk hkm
  rw [hrow,hlen2] at hCl
  have hgt:s.pl.C[bK s c.task]?=some (K.pl kk):=by
   rw [f2,pl_C,f1];simp
  rw [hgt]
  obtain ⟨kt,kn,kl⟩:=kk
  simp only at f3 hlg
  subst f3
  cases kl with
  | nil =>
   refine Rel.er s 29 ?_ (by simp [K.pl]) ⟨hw.h,hw.b,hw.c,hw.k⟩
   have i1:(A.length:Int)<A.length+(B.length+1):=by omega
   simp [F_z_333,Cl.row,hB,hb,hf,hCl,K.row,i1,callD,callR,sub,setAll,back,reachC,cut,List.idxOf_cons,V.same_self,thaw,freezeAll,freeze1,overlay,take_map_len,drop_map_len,Nat.not_succ_le_self,rg2,rg3,rg4]
  | cons b r =>
   have hkn:kn=false:=by
    cases kn
    ·rfl
    ·have:=hw.k _ hkm rfl;simp at this
   subst hkn
   have hC2:=ev_CloneI false r (by simp) (by simp at hlg;omega)
   rw [if_neg (by decide)] at hC2
   have n0:((r.length:Int)+1==0)=false:=by simp;omega
   have n1:(1:Int)≤r.length+1:=by omega
   have i1:(A.length:Int)<A.length+(B.length+1):=by omega
   refine Rel.vl { s with cn:=false,C:=A++⟨c.task,false,r⟩::B } b ?_ ?_ ⟨hw.h,hw.b,by simp,?_⟩
   ·simp [F_z_333,Cl.row,hB,hb,hf,hCl,K.row,hC2,n0,n1,i1,callD,callR,sub,setAll,back,reachC,cut,List.idxOf_cons,V.same_self,thaw,freezeAll,freeze1,overlay,take_map_len,drop_map_len,Nat.not_succ_le_self,rg2,rg3,rg4]
    exact List.take_of_length_le (by simp)
   ·rw [f2]
    simp [S.pl,f1,K.pl]
   ·intro z hz
    rcases List.mem_append.1 hz with h | h
    ·exact hw.k z (by rw [f1];exact List.mem_append_left _ h)
    ·rcases List.mem_cons.1 h with h | h
     ·rw [h];simp
     ·exact hw.k z (by rw [f1];exact List.mem_append_right _ (List.mem_cons_of_mem _ h))
end Go.VS.Sp
namespace Go.VS.Sp
def upK (v:Int) (x:K):K:=⟨x.task,false,x.log++[v]⟩
def upR (v:Int) (x:K):List D:=[I' x.task,.sl 1 false (x.log.map (fun n=>[I' n])++[[I' v]])]
theorem upR_row (v:Int) (x:K):(upK v x).row=upR v x:=by simp [upK,K.row,upR]
def fullK (rm:Int) (x:K):Bool:=decide (rm≤(x.log.length:Int))
theorem loop_pub (nm:D) (k sz ot:Int) (row zr:List D) (hrow:row.length=9) (hz:zr.length=9) (C:List K) (c:Cl) (hn:C.length≤1000) (hk:∀x∈C,x.nl=true→x.log=[]) (hl1:∀x∈C,x.log.length≤100000):∀(suf pre:List K),C=pre++suf →
  ev P (.loop 0 [5,6,7,8,14,15,31,32] F_z_333_L0 [(5,.d (.ref [nm,I' k,I' sz,I' ot])),(6,.loc 0 0 0),(7,.d (.ref c.row)),(8,.loc 1 0 0),(14,.asl 2 0 C.length),(15,.d (I' 0)),(31,.d (I' C.length)),(32,.d (I' pre.length))]
   [.arrD 9 true [row],.arrD 9 true [zr],.arrD 2 true (pre.map (upR c.value)++suf.map K.row)]) =
   if (suf.any (fullK (rmz sz)))=true then some (.out .ret [(8,.loc 0 0 0),(9,.d (I' 0)),(10,.d (.b false)),(11,.d (I' 29))] [.arrD 9 true [row]])
   else some (.out (.exit 1) [(6,.loc 0 0 0),(8,.loc 1 0 0),(14,.asl 2 0 C.length),(15,.d (I' 0))] [.arrD 9 true [row],.arrD 9 true [zr],.arrD 2 true (C.map (upR c.value))]):=by
 intro suf
 induction suf with
 | nil =>
  intro pre hl
  have:C.length=pre.length:=by simp [hl]
  have hp:C=pre:=by simp [hl]
  rw [ev_loop]
  conv=>lhs;arg 4;unfold F_z_333_L0
  simp [this,hp,callD,callR,sub,setAll,back,reachC,cut,List.idxOf_cons,V.same_self,thaw,freezeAll,freeze1,overlay,take_map_len,drop_map_len,Nat.not_succ_le_self,rg2,rg3,rg4]
 | cons x suf ih =>
  intro pre hl
  have hg:C[pre.length]?=some x:=by simp [hl]
  have hlt:(pre.length:Int)<C.length:=by simp [hl];omega
  have hnext:IntKind.i64.wrap ((pre.length:Int)+1)=pre.length+1:=wrap_i64 (by omega) (by omega)
  have ih':=ih (pre++[x]) (by simp [hl])
  have hR:=ev_room nm k sz ot
  have hxm:x∈C:=by rw [hl];simp
  have hlg:=hl1 x hxm
  have hr:x.log.length+1≤room:=by unfold room;omega
  have hCl:=ev_CloneI x.nl x.log (hk x hxm) (by omega)
  have hlen:C.length=pre.length+(suf.length+1):=by simp [hl]
  rw [List.any_cons]
  generalize (suf.any (fullK (rmz sz)))=dd at *
  generalize hrm:rmz sz=rm at *
  rw [ev_loop]
  conv=>lhs;arg 4;unfold F_z_333_L0
  match row,hrow,zr,hz with
  | [r0,r1,r2,r3,r4,r5,r6,r7,r8],_,[z0,z1,z2,z3,z4,z5,z6,z7,z8],_ =>
  cases hf:fullK rm x
  ·have hf2:decide (rm≤(x.log.length:Int))=false:=hf
   cases hnl:x.nl
   ·rw [hnl,if_neg (by decide)] at hCl
    have t1:List.take (x.log.length+1) (List.map (fun x=>[I' x]) x.log++[[I' c.value]])=List.map (fun x=>[I' x]) x.log++[[I' c.value]]:=List.take_of_length_le (by simp)
    simp [hlt,hR,hf2,K.row,Cl.row,hnl,hCl,hr,t1,hnext,callD,callR,sub,setAll,back,reachC,cut,List.idxOf_cons,V.same_self,thaw,freezeAll,freeze1,overlay,take_map_len,drop_map_len,Nat.not_succ_le_self,rg2,rg3,rg4]
    simp [upR,Cl.row] at ih'
    exact ih'
   ·have hE:=hk x hxm hnl
    rw [hnl,if_pos rfl] at hCl
    rw [hE] at hf2 hCl
    have hr1:1≤room:=by decide
    have hf3:decide (rm≤0)=false:=hf2
    simp [hlt,hR,hf3,K.row,Cl.row,hnl,hE,hCl,hr1,hnext,callD,callR,sub,setAll,back,reachC,cut,List.idxOf_cons,V.same_self,thaw,freezeAll,freeze1,overlay,take_map_len,drop_map_len,Nat.not_succ_le_self,rg2,rg3,rg4]
    simp [upR,Cl.row,hE] at ih'
    exact ih'
  ·have hf2:decide (rm≤(x.log.length:Int))=true:=hf
   simp [hlt,hR,hf2,K.row,callD,callR,sub,setAll,back,reachC,cut,List.idxOf_cons,V.same_self,thaw,freezeAll,freeze1,overlay,take_map_len,drop_map_len,Nat.not_succ_le_self,rg2,rg3,rg4]
theorem any_full_pl (rm:Int) (C:List K):((C.map K.pl).any fun x=>decide (rm≤x.log.length))=C.any (fullK rm):=by
 rw [List.any_map]
 rfl
theorem ev_eT4 (x y nm:D) (k sz ot:Int) (s:S) (hw:s.wf) (c:Cl) (hk:s.tk) (ht:isTask c.task=true) (hb:c.op=68) :
  Rel (ev P (.call z_333 [.d (.ag [x,y]),.d (.ag [nm,I' k,I' sz,I' ot]),.d (.ag s.row),.d (.ag c.row)] [])) (eT (rmz sz) s.pl c):=by
 have hB:=ev_BSK s.cn s.C c.task (by have:=hk.len;omega) hk.asc.asc hk.task ht
 have hCl:=ev_CloneK s.cn s.C hw.c (by have:=hk.len;omega)
 have hlen:=hk.len
 unfold eT
 have h69:(c.op==69)=false:=by simp [hb]
 have h71:(c.op==71)=false:=by simp [hb]
 have h70:(c.op==70)=false:=by simp [hb]
 rw [h69,h71,h70,pl_C,any_full_pl]
 cases hf:s.cn
 ·rw [hf,if_neg (by decide)] at hCl
  have hL:ev P (.loop 0 [5,6,7,8,14,15,31,32] F_z_333_L0 [(5,.d (.ref [nm,I' k,I' sz,I' ot])),(6,.loc 0 0 0),(7,.d (.ref c.row)),(8,.loc 1 0 0),(14,.asl 2 0 s.C.length),(15,.d (I' 0)),(31,.d (I' s.C.length)),(32,.d (I' 0))]
   [.arrD 9 true [s.row],.arrD 9 true [zrow],.arrD 2 true (s.C.map K.row)])=_:=loop_pub nm k sz ot s.row zrow rfl rfl s.C c hlen hw.k hk.log s.C [] rfl
  generalize s.C.any (fullK (rmz sz))=dd at *
  rw [hf] at hB
  generalize bI c.task (s.C.map K.task)=i at *
  generalize decide ((s.C.map K.task)[i]?=some c.task)=g at *
  rw [ev_call P_z_333 rfl]
  simp only [S.row,hf,Cl.row,hb,zrow] at hL
  have e:(s.C.map K.pl).map (fun x=>(⟨x.task,false,x.log++[c.value]⟩:K))=(s.C.map (upK c.value)).map K.pl:=by
   rw [List.map_map,List.map_map];rfl
  have e2:s.C.map (upR c.value)=(s.C.map (upK c.value)).map K.row:=by
   rw [List.map_map]
   exact List.map_congr_left fun x _=>(upR_row c.value x).symm
  rw [e2] at hL
  cases dd
  ·rw [if_neg (by decide)] at hL
   refine Rel.gd { s with cn:=false,C:=s.C.map (upK c.value) } ?_ (by rw [e];simp [S.pl]) ⟨hw.h,hw.b,by simp,?_⟩
   ·have t8:List.take s.C.length ((s.C.map (upK c.value)).map K.row)=(s.C.map (upK c.value)).map K.row:=List.take_of_length_le (by simp)
    have hrow:cD false (s.C.map (upK c.value)) = .sl 2 false ((s.C.map (upK c.value)).map K.row):=rfl
    have hRL:((s.C.map (upK c.value)).map K.row).length=s.C.length:=by simp
    simp only [S.row]
    rw [hrow]
    clear hrow
    generalize (s.C.map (upK c.value)).map K.row=RR at *
    simp [F_z_333,Cl.row,hB,hb,hf,hCl,hL,hRL,t8,callD,callR,sub,setAll,back,reachC,cut,List.idxOf_cons,V.same_self,thaw,freezeAll,freeze1,overlay,take_map_len,drop_map_len,Nat.not_succ_le_self,rg2,rg3,rg4]
   ·intro z hz
    obtain ⟨w,_,rfl⟩:=List.mem_map.1 hz
    simp [upK]
  ·rw [if_pos rfl] at hL
   refine Rel.er s 29 ?_ (by simp) ⟨hw.h,hw.b,hw.c,hw.k⟩
   simp [F_z_333,Cl.row,hB,hb,hf,hCl,hL,callD,callR,sub,setAll,back,reachC,cut,List.idxOf_cons,V.same_self,thaw,freezeAll,freeze1,overlay,take_map_len,drop_map_len,Nat.not_succ_le_self,rg2,rg3,rg4]
 ·have hE:=hw.c hf
  rw [hf,if_pos rfl] at hCl
  rw [hE] at hCl hB ⊢
  rw [hf] at hB
  rw [ev_call P_z_333 rfl]
  refine Rel.gd s ?_ (by simp [S.pl,hE]) hw
  simp [F_z_333,Cl.row,hB,hb,hf,hE,hCl,F_z_333_L0,ev_loop,callD,callR,sub,setAll,back,reachC,cut,List.idxOf_cons,V.same_self,thaw,freezeAll,freeze1,overlay,take_map_len,drop_map_len,Nat.not_succ_le_self,rg2,rg3,rg4]
end Go.VS.Sp
namespace Go.VS.Sp
theorem loop_subscr (s:S) (t:Int) (hn:s.C.length≤1000):∀(suf pre:List K),s.C=pre++suf →
  ev P (.loop 0 [1,2,6] F_z_192_L0 [(1,.d (I' t)),(2,.d (.ref s.row)),(6,.d (I' pre.length))] []) =
   some (.out (.exit 0) [(1,.d (I' t)),(2,.d (.ref s.row)),(6,.d (I' ((pre.length+bI t (suf.map K.task):Nat):Int)))] []):=by
 intro suf
 induction suf with
 | nil =>
  intro pre hl
  have:s.C.length=pre.length:=by simp [hl]
  rw [ev_loop]
  conv=>lhs;arg 4;unfold F_z_192_L0
  simp [this,bI]
 | cons w suf ih =>
  intro pre hl
  have hg:s.C[pre.length]?=some w:=by simp [hl]
  have hlt:(pre.length:Int)<s.C.length:=by simp [hl];omega
  have hnext:IntKind.i64.wrap ((pre.length:Int)+1)=pre.length+1:=wrap_i64 (by omega) (by omega)
  have ih':=ih (pre++[w]) (by simp [hl])
  rw [List.map_cons,bI_cons]
  generalize bI t (suf.map K.task)=b at *
  rw [ev_loop]
  conv=>lhs;arg 4;unfold F_z_192_L0
  by_cases hw:w.task<t
  ·have e:(pre.length+(b+1):Nat)=(pre++[w]).length+b:=by simp;omega
   rw [if_pos hw,e,←ih']
   simp [hlt,hg,K.row,hw,hnext]
  ·rw [if_neg hw]
   simp [hlt,hg,K.row,hw]
theorem ev_subscr (s:S) (t:Int) (hn:s.C.length≤1000) :
  ev P (.call z_192 [.d (.ag s.row),.d (I' t)] [])=some (.val (.tu [.d (I' (bK s t)),.d (.b (isK s t))]) []):=by
 have hL:ev P (.loop 0 [1,2,6] F_z_192_L0 [(1,.d (I' t)),(2,.d (.ref s.row)),(6,.d (I' 0))] []) =
   some (.out (.exit 0) [(1,.d (I' t)),(2,.d (.ref s.row)),(6,.d (I' (bK s t)))] []):=by
  have h:=loop_subscr s t hn s.C [] rfl
  rw [List.length_nil,Nat.zero_add] at h
  exact h
 unfold isK
 have hb:bK s t≤s.C.length:=by
  have:=bI_le t (tsk s)
  have e:(tsk s).length=s.C.length:=by simp [tsk]
  rw [e] at this
  exact this
 rw [ev_call P_z_192 rfl]
 by_cases h:bK s t<s.C.length
 ·obtain ⟨x,hx⟩:∃x,s.C[bK s t]?=some x:=⟨s.C[bK s t],by simp⟩
  have hxt:(tsk s)[bK s t]?=some x.task:=by unfold tsk;rw [List.getElem?_map,hx];rfl
  have h2:(bK s t:Int)<s.C.length:=by omega
  rw [hxt]
  generalize bK s t=B at *
  have hx2:s.C[B]=x:=by rw [List.getElem?_eq_getElem h] at hx;exact Option.some.inj hx
  simp [F_z_192,hL,h,h2,hx,hx2,K.row,V.same_self]
  try rfl
 ·have h2:¬(bK s t:Int)<s.C.length:=by omega
  have h3:(tsk s)[bK s t]?=none:=by unfold tsk;simp;omega
  rw [h3]
  generalize bK s t=B at *
  simp [F_z_192,hL,h,h2,V.same_self]
theorem ev_eT1r (nm:D) (k sz ot:Int) (s:S) (hw:s.wf) (c:Cl) (hk:s.tk) (hb:c.op=69) :
  Rel (ev P (.call z_110 [.d (.ag [nm,I' k,I' sz,I' ot]),.d (.ag s.row),.d (.ag c.row)] [])) (eT (rmz sz) s.pl c):=by
 have hB:=ev_subscr s c.task hk.len
 have hlen:=hk.len
 have hb2:bK s c.task≤s.C.length:=by
  have:=bI_le c.task (tsk s)
  have e:(tsk s).length=s.C.length:=by simp [tsk]
  rw [e] at this
  exact this
 unfold eT
 rw [isK_pl,bK_pl]
 have h69:(c.op==69)=true:=by simp [hb]
 rw [h69]
 cases hg:isK s c.task
 ·rw [hg] at hB
  obtain ⟨A,B,e1,e2⟩:∃A B,s.C=A++B∧bK s c.task=A.length:=⟨s.C.take (bK s c.task),s.C.drop (bK s c.task),(List.take_append_drop _ _).symm,by simp;omega⟩
  rw [e2] at hB ⊢
  rw [ev_call P_z_110 rfl]
  refine Rel.gd { s with cn:=false,C:=A++⟨c.task,true,[]⟩::B } ?_ (by simp [S.pl,K.pl,e1]) ⟨hw.h,hw.b,by simp,?_⟩
  ·simp only [S.row] at hB ⊢
   rw [e1] at hB hlen ⊢
   clear e1 e2 hg hb2 hk hw
   simp at hlen
   rcases A with _ | ⟨a,A⟩<;>rcases B with _ | ⟨b,B⟩<;>simp only [List.cons_append,List.nil_append,List.append_nil] at hB ⊢
   ·have hr:1≤room:=by decide
    simp [F_z_110,Cl.row,hB,hb,hr,callD,callR,sub,setAll,back,reachC,cut,List.idxOf_cons,V.same_self,thaw,freezeAll,freeze1,overlay,take_map_len,drop_map_len,Nat.not_succ_le_self,rg2,rg3,rg4]
    rfl
   ·have hr:B.length+1+1≤room:=by unfold room;simp at hlen;omega
    have hr1:B.length+1≤room:=by omega
    have hr2:1≤room:=by decide
    have h0:(0:Int)≤B.length+1:=by omega
    have e1:1+(B.length+1)=B.length+1+1:=by omega
    simp [F_z_110,Cl.row,hB,hb,hr,hr1,hr2,h0,e1,callD,callR,sub,setAll,back,reachC,cut,List.idxOf_cons,V.same_self,thaw,freezeAll,freeze1,overlay,take_map_len,drop_map_len,Nat.not_succ_le_self,rg2,rg3,rg4]
    rfl
   ·have hr:A.length+1+1≤room:=by unfold room;simp at hlen;omega
    have hr1:A.length+1≤room:=by omega
    have h0:(0:Int)≤A.length+1:=by omega
    have n0:¬((A.length:Int)+1=0):=by omega
    simp [n0,F_z_110,Cl.row,hB,hb,hr,hr1,h0,callD,callR,sub,setAll,back,reachC,cut,List.idxOf_cons,V.same_self,thaw,freezeAll,freeze1,overlay,take_map_len,drop_map_len,Nat.not_succ_le_self,rg2,rg3,rg4]
    exact List.take_of_length_le (by simp)
   ·have hr:A.length+1+1+(B.length+1)≤room:=by unfold room;simp at hlen;omega
    have hr1:A.length+1+1≤room:=by omega
    have hr2:A.length+1≤room:=by omega
    have hr3:A.length+(B.length+1)+1≤room:=by omega
    have h0:(0:Int)≤A.length+1:=by omega
    have h1:(A.length:Int)≤A.length+(B.length+1):=by omega
    have n0:¬((A.length:Int)+1=0):=by omega
    have h2:(A.length:Int)<A.length+(B.length+1):=by omega
    have e2:((A.length:Int)+(B.length+1)+1 - (A.length+1)).toNat=B.length+1:=by omega
    have h3:A.length+1≤A.length+(B.length+1)+1:=by omega
    have h4:A.length+1+(B.length+1)≤A.length+(B.length+1)+1:=by omega
    have n1:¬(A.length+1+1+(B.length+1)≤A.length+1+1):=by omega
    have t1:List.take (A.length+1) (List.map K.row A++[[I' c.task,.sl 1 true []]])=List.map K.row A++[[I' c.task,.sl 1 true []]]:=List.take_of_length_le (by simp)
    have h5:A.length+1+1+(B.length+1)≤A.length+(B.length+1+1)+1:=by omega
    have t2:List.take (A.length+1+1+(B.length+1)) (a.row::(List.map K.row A++[I' c.task,.sl 1 true []]::b.row::List.map K.row B))=a.row::(List.map K.row A++[I' c.task,.sl 1 true []]::b.row::List.map K.row B):=List.take_of_length_le (by simp;omega)
    simp [n0,h2,e2,h3,h4,h5,n1,t1,t2,F_z_110,Cl.row,hB,hb,hr,hr1,hr2,hr3,h0,h1,callD,callR,sub,setAll,back,reachC,cut,List.idxOf_cons,V.same_self,thaw,freezeAll,freeze1,overlay,take_map_len,drop_map_len,Nat.not_succ_le_self,rg2,rg3,rg4]
    rfl
  ·intro z hz
   simp only [List.mem_append,List.mem_cons] at hz
   rcases hz with h | h | h
   ·exact hw.k z (by rw [e1];exact List.mem_append_left _ h)
   ·rw [h];simp
   ·exact hw.k z (by rw [e1];exact List.mem_append_right _ h)
 ·rw [hg] at hB
  generalize bK s c.task=i at *
  rw [ev_call P_z_110 rfl]
  refine Rel.er s 6 ?_ (by simp) ⟨hw.h,hw.b,hw.c,hw.k⟩
  simp only [S.row] at hB ⊢
  cases hC:s.C with
  | nil =>
   rw [hC] at hB
   simp [F_z_110,Cl.row,hB,hb,callD,callR,sub,setAll,back,reachC,cut,List.idxOf_cons,V.same_self,thaw,freezeAll,freeze1,overlay,take_map_len,drop_map_len,Nat.not_succ_le_self,rg2,rg3,rg4]
  | cons a C =>
   rw [hC] at hB hlen
   have hr:C.length+1≤room:=by unfold room;simp at hlen;omega
   simp [F_z_110,Cl.row,hB,hb,hr,callD,callR,sub,setAll,back,reachC,cut,List.idxOf_cons,V.same_self,thaw,freezeAll,freeze1,overlay,take_map_len,drop_map_len,Nat.not_succ_le_self,rg2,rg3,rg4]
theorem ev_eT2r (nm:D) (k sz ot:Int) (s:S) (hw:s.wf) (c:Cl) (hk:s.tk) (hb:c.op=71) :
  Rel (ev P (.call z_110 [.d (.ag [nm,I' k,I' sz,I' ot]),.d (.ag s.row),.d (.ag c.row)] [])) (eT (rmz sz) s.pl c):=by
 have hB:=ev_subscr s c.task hk.len
 have hlen:=hk.len
 unfold eT
 rw [isK_pl,bK_pl]
 have h69:(c.op==69)=false:=by simp [hb]
 have h71:(c.op==71)=true:=by simp [hb]
 rw [h69,h71]
 cases hg:isK s c.task
 ·rw [hg] at hB
  generalize bK s c.task=i at *
  rw [ev_call P_z_110 rfl]
  refine Rel.er s 20 ?_ (by simp) ⟨hw.h,hw.b,hw.c,hw.k⟩
  simp only [S.row] at hB ⊢
  cases hC:s.C with
  | nil =>
   rw [hC] at hB
   simp [F_z_110,Cl.row,hB,hb,callD,callR,sub,setAll,back,reachC,cut,List.idxOf_cons,V.same_self,thaw,freezeAll,freeze1,overlay,take_map_len,drop_map_len,Nat.not_succ_le_self,rg2,rg3,rg4]
  | cons a C =>
   rw [hC] at hB hlen
   have hr:C.length+1≤room:=by unfold room;simp at hlen;omega
   simp [F_z_110,Cl.row,hB,hb,hr,callD,callR,sub,setAll,back,reachC,cut,List.idxOf_cons,V.same_self,thaw,freezeAll,freeze1,overlay,take_map_len,drop_map_len,Nat.not_succ_le_self,rg2,rg3,rg4]
 ·obtain ⟨A,kk,B,f1,f2,f3⟩:=isK_split s c.task hg
  rw [hg,f2] at hB
  rw [ev_call P_z_110 rfl]
  have hwr:IntKind.i64.wrap ((A.length:Int)+1)=A.length+1:=wrap_i64 (by omega) (by rw [f1] at hlen;simp at hlen;omega)
  refine Rel.gd { s with cn:=false,C:=A++B } ?_ ?_ ⟨hw.h,hw.b,by simp,?_⟩
  ·simp only [S.row] at hB ⊢
   rw [f1] at hB hlen ⊢
   clear f1 f2 hg hk hw
   simp at hlen
   rcases A with _ | ⟨a,A⟩<;>rcases B with _ | ⟨b,B⟩<;>simp only [List.cons_append,List.nil_append,List.append_nil] at hB ⊢
   ·have hr:1≤room:=by decide
    simp [F_z_110,Cl.row,hB,hb,hr,wrap1,callD,callR,sub,setAll,back,reachC,cut,List.idxOf_cons,V.same_self,thaw,freezeAll,freeze1,overlay,take_map_len,drop_map_len,Nat.not_succ_le_self,rg2,rg3,rg4]
   ·have hr:B.length+1+1≤room:=by unfold room;simp at hlen;omega
    have hr1:B.length+1≤room:=by omega
    have h0:(1:Int)<B.length+1+1:=by omega
    have h1:(0:Int)≤B.length+1+1:=by omega
    have e1:((B.length:Int)+1+1 - 1).toNat=B.length+1:=by omega
    have h3:(1:Int)≤B.length+1+1:=by omega
    have h4:1+(B.length+1)≤B.length+1+1:=by omega
    simp [h1,h3,h4,e1,F_z_110,Cl.row,hB,hb,hr,hr1,h0,wrap1,callD,callR,sub,setAll,back,reachC,cut,List.idxOf_cons,V.same_self,thaw,freezeAll,freeze1,overlay,take_map_len,drop_map_len,Nat.not_succ_le_self,rg2,rg3,rg4]
   ·have hr:A.length+1+1≤room:=by unfold room;simp at hlen;omega
    have hr1:A.length+1≤room:=by omega
    have h0:(0:Int)≤A.length+1:=by omega
    have h1:(A.length:Int)≤A.length+1:=by omega
    have n0:¬((A.length:Int)+1+1=0):=by omega
    have h2:A.length+1≤A.length+1+1:=by omega
    have h01:(0:Int)≤A.length+1+1:=by omega
    have t0:List.take A.length (List.map K.row A++[kk.row])=List.map K.row A:=List.take_left' (by simp)
    simp at hwr
    simp [h1,n0,h2,h01,t0,F_z_110,Cl.row,hB,hb,hr,hr1,h0,hwr,callD,callR,sub,setAll,back,reachC,cut,List.idxOf_cons,V.same_self,thaw,freezeAll,freeze1,overlay,take_map_len,drop_map_len,Nat.not_succ_le_self,rg2,rg3,rg4]
   ·have hr:A.length+(B.length+1+1)+1≤room:=by unfold room;simp at hlen;omega
    have hr1:A.length+1≤room:=by omega
    have h0:(0:Int)≤A.length+1:=by omega
    have h1:(A.length:Int)≤A.length+(B.length+1+1):=by omega
    have n0:¬((A.length:Int)+1+1=0):=by omega
    have h01:(0:Int)≤A.length+1+1:=by omega
    have h02:(A.length:Int)+1<A.length+(B.length+1+1):=by omega
    have e1:((A.length:Int)+(B.length+1+1)+1 - (A.length+1+1)).toNat=B.length+1:=by omega
    have h2:A.length+1≤A.length+(B.length+1+1)+1:=by omega
    have t0:List.take A.length (List.map K.row A++kk.row::b.row::List.map K.row B)=List.map K.row A:=List.take_left' (by simp)
    simp at hwr
    have h3:(1:Int)≤B.length+1+1:=by omega
    have e2:((A.length:Int)+1+1).toNat=A.length+1+1:=by omega
    have h4:A.length+1+1+(B.length+1)≤A.length+(B.length+1+1)+1:=by omega
    have d1:List.drop (A.length+1) (List.map K.row A++kk.row::b.row::List.map K.row B)=b.row::List.map K.row B:=by
     have:List.map K.row A++kk.row::b.row::List.map K.row B=(List.map K.row A++[kk.row])++b.row::List.map K.row B:=by simp
     rw [this]
     exact List.drop_left' (by simp)
    have n2:¬(A.length+1+(B.length+1)≤A.length+1):=by omega
    have h6:A.length+1+(B.length+1)≤room:=by omega
    have h7:A.length+1+(B.length+1)≤A.length+(B.length+1)+1:=by omega
    have t3:List.take (A.length+1+(B.length+1)) (a.row::(List.map K.row A++b.row::List.map K.row B))=a.row::(List.map K.row A++b.row::List.map K.row B):=List.take_of_length_le (by simp;omega)
    simp [n2,h6,h7,t3,h1,n0,h01,h02,e1,e2,h2,h3,h4,t0,d1,F_z_110,Cl.row,hB,hb,hr,hr1,h0,hwr,callD,callR,sub,setAll,back,reachC,cut,List.idxOf_cons,V.same_self,thaw,freezeAll,freeze1,overlay,take_map_len,drop_map_len,Nat.not_succ_le_self,rg2,rg3,rg4]
  ·rw [f2]
   have d1:List.drop (A.length+1) (List.map K.pl A++kk.pl::List.map K.pl B)=List.map K.pl B:=by
    have:List.map K.pl A++kk.pl::List.map K.pl B=(List.map K.pl A++[kk.pl])++List.map K.pl B:=by simp
    rw [this]
    exact List.drop_left' (by simp)
   simp [S.pl,f1,d1]
  ·intro z hz
   refine hw.k z ?_
   rw [f1]
   rcases List.mem_append.1 hz with h | h
   ·exact List.mem_append_left _ h
   ·exact List.mem_append_right _ (List.mem_cons_of_mem _ h)
theorem ev_eT3r (nm:D) (k sz ot:Int) (s:S) (hw:s.wf) (c:Cl) (hk:s.tk) (hb:c.op=70) :
  Rel (ev P (.call z_110 [.d (.ag [nm,I' k,I' sz,I' ot]),.d (.ag s.row),.d (.ag c.row)] [])) (eT (rmz sz) s.pl c):=by
 have hB:=ev_subscr s c.task hk.len
 have hlen:=hk.len
 unfold eT
 rw [isK_pl,bK_pl]
 have h69:(c.op==69)=false:=by simp [hb]
 have h71:(c.op==71)=false:=by simp [hb]
 have h70:(c.op==70)=true:=by simp [hb]
 rw [h69,h71,h70]
 cases hg:isK s c.task
 ·rw [hg] at hB
  generalize bK s c.task=i at *
  rw [ev_call P_z_110 rfl]
  refine Rel.er s 20 ?_ (by simp) ⟨hw.h,hw.b,hw.c,hw.k⟩
  simp only [S.row] at hB ⊢
  cases hC:s.C with
  | nil =>
   rw [hC] at hB
   simp [F_z_110,Cl.row,hB,hb,callD,callR,sub,setAll,back,reachC,cut,List.idxOf_cons,V.same_self,thaw,freezeAll,freeze1,overlay,take_map_len,drop_map_len,Nat.not_succ_le_self,rg2,rg3,rg4]
  | cons a C =>
   rw [hC] at hB hlen
   have hr:C.length+1≤room:=by unfold room;simp at hlen;omega
   simp [F_z_110,Cl.row,hB,hb,hr,callD,callR,sub,setAll,back,reachC,cut,List.idxOf_cons,V.same_self,thaw,freezeAll,freeze1,overlay,take_map_len,drop_map_len,Nat.not_succ_le_self,rg2,rg3,rg4]
 ·obtain ⟨A,kk,B,f1,f2,f3⟩:=isK_split s c.task hg
  rw [hg,f2] at hB
  rw [ev_call P_z_110 rfl]
  have hkm:kk∈s.C:=by rw [f1];simp
  have hlg:=hk.log kk hkm
  have hgt:s.pl.C[bK s c.task]?=some (K.pl kk):=by
   rw [f2,pl_C,f1];simp
  rw [hgt]
  have hcl:s.C.map K.row=A.map K.row++kk.row::B.map K.row:=by rw [f1];simp
  have hcn:s.C.length=A.length+(B.length+1):=by rw [f1];simp
  have hne:¬s.C=[]:=by rw [f1];simp
  have hr:A.length+(B.length+1)≤room:=by unfold room;omega
  have i1:(A.length:Int)<A.length+(B.length+1):=by omega
  obtain ⟨kt,kn,kl⟩:=kk
  simp only at f3 hlg
  subst f3
  cases kl with
  | nil =>
   refine Rel.er s 29 ?_ (by simp [K.pl]) ⟨hw.h,hw.b,hw.c,hw.k⟩
   simp only [S.row] at hB ⊢
   simp [F_z_110,Cl.row,hB,hb,hcl,hcn,hne,hr,i1,K.row,callD,callR,sub,setAll,back,reachC,cut,List.idxOf_cons,V.same_self,thaw,freezeAll,freeze1,overlay,take_map_len,drop_map_len,Nat.not_succ_le_self,rg2,rg3,rg4]
  | cons b r =>
   have hkn:kn=false:=by
    cases kn
    ·rfl
    ·have:=hw.k _ hkm rfl;simp at this
   subst hkn
   have n0:((r.length:Int)+1==0)=false:=by simp;omega
   have n1:(1:Int)≤r.length+1:=by omega
   have hr2:r.length≤room:=by unfold room;simp at hlg;omega
   refine Rel.vl { s with cn:=false,C:=A++⟨c.task,false,r⟩::B } b ?_ ?_ ⟨hw.h,hw.b,by simp,?_⟩
   ·simp only [S.row] at hB ⊢
    rcases r with _ | ⟨b2,r⟩
    ·simp [F_z_110,Cl.row,hB,hb,hcl,hcn,hne,hr,i1,K.row,callD,callR,sub,setAll,back,reachC,cut,List.idxOf_cons,V.same_self,thaw,freezeAll,freeze1,overlay,take_map_len,drop_map_len,Nat.not_succ_le_self,rg2,rg3,rg4]
     exact List.take_of_length_le (by simp)
    ·have n0:((r.length:Int)+1+1==0)=false:=by simp;omega
     have n1:(1:Int)≤r.length+1+1:=by omega
     have n2:(0:Int)<r.length+1+1:=by omega
     have hr3:r.length+1≤room:=hr2
     have e1:((r.length:Int)+1+1).toNat=r.length+1+1:=by omega
     have hrI:(r.length:Int)+1≤(room:Int):=by omega
     simp [n0,n1,n2,hr3,e1,hrI,F_z_110,Cl.row,hB,hb,hcl,hcn,hne,hr,i1,K.row,callD,callR,sub,setAll,back,reachC,cut,List.idxOf_cons,V.same_self,thaw,freezeAll,freeze1,overlay,take_map_len,drop_map_len,Nat.not_succ_le_self,rg2,rg3,rg4]
     exact List.take_of_length_le (by simp)
   ·rw [f2]
    simp [S.pl,f1,K.pl]
   ·intro z hz
    rcases List.mem_append.1 hz with h | h
    ·exact hw.k z (by rw [f1];exact List.mem_append_left _ h)
    ·rcases List.mem_cons.1 h with h | h
     ·rw [h];simp
     ·exact hw.k z (by rw [f1];exact List.mem_append_right _ (List.mem_cons_of_mem _ h))
end Go.VS.Sp
namespace Go.VS.Sp
theorem loop_pubr (nm:D) (k sz ot:Int) (row zr:List D) (hrow:row.length=9) (hz:zr.length=9) (C:List K) (c:Cl) (hn:C.length≤1000) (hk:∀x∈C,x.nl=true→x.log=[]) (hl1:∀x∈C,x.log.length≤100000):∀(suf pre:List K),C=pre++suf →
  ev P (.loop 0 [3,4,5,6,10,13] F_z_110_L0 [(3,.d (.ref [nm,I' k,I' sz,I' ot])),(4,.loc 0 0 0),(5,.d (.ref c.row)),(6,.loc 1 0 0),(10,.asl 2 0 C.length),(13,.d (I' pre.length))]
   [.arrD 9 true [row],.arrD 9 true [zr],.arrD 2 true (pre.map (upR c.value)++suf.map K.row)]) =
   if (suf.any (fullK (rmz sz)))=true then some (.out .ret [(6,.loc 0 0 0),(7,.d (I' 0)),(8,.d (.b false)),(9,.d (I' 29))] [.arrD 9 true [row]])
   else some (.out (.exit 0) [(4,.loc 0 0 0),(6,.loc 1 0 0),(10,.asl 2 0 C.length)] [.arrD 9 true [row],.arrD 9 true [zr],.arrD 2 true (C.map (upR c.value))]):=by
 intro suf
 induction suf with
 | nil =>
  intro pre hl
  have:C.length=pre.length:=by simp [hl]
  have hp:C=pre:=by simp [hl]
  rw [ev_loop]
  conv=>lhs;arg 4;unfold F_z_110_L0
  simp [this,hp,callD,callR,sub,setAll,back,reachC,cut,List.idxOf_cons,V.same_self,thaw,freezeAll,freeze1,overlay,take_map_len,drop_map_len,Nat.not_succ_le_self,rg2,rg3,rg4]
 | cons x suf ih =>
  intro pre hl
  have hg:C[pre.length]?=some x:=by simp [hl]
  have hlt:(pre.length:Int)<C.length:=by simp [hl];omega
  have hnext:IntKind.i64.wrap ((pre.length:Int)+1)=pre.length+1:=wrap_i64 (by omega) (by omega)
  have ih':=ih (pre++[x]) (by simp [hl])
  have hR:=ev_Room nm k sz ot
  have hxm:x∈C:=by rw [hl];simp
  have hlg:=hl1 x hxm
  have hr:x.log.length+1≤room:=by unfold room;omega
  have hCl:=ev_CloneI x.nl x.log (hk x hxm) (by omega)
  have hlen:C.length=pre.length+(suf.length+1):=by simp [hl]
  rw [List.any_cons]
  generalize (suf.any (fullK (rmz sz)))=dd at *
  generalize hrm:rmz sz=rm at *
  rw [ev_loop]
  conv=>lhs;arg 4;unfold F_z_110_L0
  match row,hrow,zr,hz with
  | [r0,r1,r2,r3,r4,r5,r6,r7,r8],_,[z0,z1,z2,z3,z4,z5,z6,z7,z8],_ =>
  cases hf:fullK rm x
  ·have hf2:decide (rm≤(x.log.length:Int))=false:=hf
   have hr1:x.log.length≤room:=by omega
   cases hxl:x.log with
   | nil =>
    rw [hxl] at hf2
    have hf3:decide (rm≤0)=false:=hf2
    have hr2:1≤room:=by decide
    simp [hlt,hR,hf3,K.row,Cl.row,hxl,hr2,hnext,callD,callR,sub,setAll,back,reachC,cut,List.idxOf_cons,V.same_self,thaw,freezeAll,freeze1,overlay,take_map_len,drop_map_len,Nat.not_succ_le_self,rg2,rg3,rg4]
    simp [upR,Cl.row,hxl] at ih'
    exact ih'
   | cons b r =>
    rw [hxl] at hf2 hr hr1
    have hf3:decide (rm≤(r.length:Int)+1)=false:=by simpa using hf2
    have hr3:r.length+1+1≤room:=hr
    have hr4:r.length+1≤room:=hr1
    have t1:List.take (r.length+1) (List.map (fun x=>[I' x]) r++[[I' c.value]])=List.map (fun x=>[I' x]) r++[[I' c.value]]:=List.take_of_length_le (by simp)
    simp [hlt,hR,hf3,K.row,Cl.row,hxl,hr3,hr4,t1,hnext,callD,callR,sub,setAll,back,reachC,cut,List.idxOf_cons,V.same_self,thaw,freezeAll,freeze1,overlay,take_map_len,drop_map_len,Nat.not_succ_le_self,rg2,rg3,rg4]
    simp [upR,Cl.row,hxl] at ih'
    exact ih'
  ·have hf2:decide (rm≤(x.log.length:Int))=true:=hf
   simp [hlt,hR,hf2,K.row,callD,callR,sub,setAll,back,reachC,cut,List.idxOf_cons,V.same_self,thaw,freezeAll,freeze1,overlay,take_map_len,drop_map_len,Nat.not_succ_le_self,rg2,rg3,rg4]
theorem ev_eT4r (nm:D) (k sz ot:Int) (s:S) (hw:s.wf) (c:Cl) (hk:s.tk) (hb:c.op=68) :
  Rel (ev P (.call z_110 [.d (.ag [nm,I' k,I' sz,I' ot]),.d (.ag s.row),.d (.ag c.row)] [])) (eT (rmz sz) s.pl c):=by
 have hB:=ev_subscr s c.task hk.len
 have hlen:=hk.len
 unfold eT
 have h69:(c.op==69)=false:=by simp [hb]
 have h71:(c.op==71)=false:=by simp [hb]
 have h70:(c.op==70)=false:=by simp [hb]
 rw [h69,h71,h70,pl_C,any_full_pl]
 generalize bK s c.task=i at *
 generalize isK s c.task=g at *
 have hL:ev P (.loop 0 [3,4,5,6,10,13] F_z_110_L0 [(3,.d (.ref [nm,I' k,I' sz,I' ot])),(4,.loc 0 0 0),(5,.d (.ref c.row)),(6,.loc 1 0 0),(10,.asl 2 0 s.C.length),(13,.d (I' 0))]
   [.arrD 9 true [s.row],.arrD 9 true [zrow],.arrD 2 true (s.C.map K.row)])=_:=loop_pubr nm k sz ot s.row zrow rfl rfl s.C c hlen hw.k hk.log s.C [] rfl
 generalize s.C.any (fullK (rmz sz))=dd at *
 rw [ev_call P_z_110 rfl]
 simp only [S.row,Cl.row,hb,zrow] at hL
 have e:(s.C.map K.pl).map (fun x=>(⟨x.task,false,x.log++[c.value]⟩:K))=(s.C.map (upK c.value)).map K.pl:=by
  rw [List.map_map,List.map_map];rfl
 have e2:s.C.map (upR c.value)=(s.C.map (upK c.value)).map K.row:=by
  rw [List.map_map]
  exact List.map_congr_left fun x _=>(upR_row c.value x).symm
 rw [e2] at hL
 have hr:s.C.length≤room:=by unfold room;omega
 cases dd
 ·rw [if_neg (by decide)] at hL
  refine Rel.gd { s with cn:=false,C:=s.C.map (upK c.value) } ?_ (by rw [e];simp [S.pl]) ⟨hw.h,hw.b,by simp,?_⟩
  ·have t8:List.take s.C.length ((s.C.map (upK c.value)).map K.row)=(s.C.map (upK c.value)).map K.row:=List.take_of_length_le (by simp)
   have hrow:cD false (s.C.map (upK c.value)) = .sl 2 false ((s.C.map (upK c.value)).map K.row):=rfl
   have hRL:((s.C.map (upK c.value)).map K.row).length=s.C.length:=by simp
   simp only [S.row] at hB ⊢
   rw [hrow]
   clear hrow
   cases hC:s.C with
   | nil =>
    rw [hC] at hL hB
    simp only [List.map_nil,List.length_nil] at hL ⊢
    simp [F_z_110,Cl.row,hB,hb,hL,callD,callR,sub,setAll,back,reachC,cut,List.idxOf_cons,V.same_self,thaw,freezeAll,freeze1,overlay,take_map_len,drop_map_len,Nat.not_succ_le_self,rg2,rg3,rg4]
   | cons a C =>
    rw [hC] at hL hB t8 hRL hr
    generalize ((a::C).map (upK c.value)).map K.row=RR at *
    have hr:C.length+1≤room:=hr
    simp at hRL t8
    simp only [List.map_cons,List.length_cons] at hL
    simp [F_z_110,Cl.row,hB,hb,hL,hRL,t8,hr,callD,callR,sub,setAll,back,reachC,cut,List.idxOf_cons,V.same_self,thaw,freezeAll,freeze1,overlay,take_map_len,drop_map_len,Nat.not_succ_le_self,rg2,rg3,rg4]
  ·intro z hz
   obtain ⟨w,_,rfl⟩:=List.mem_map.1 hz
   simp [upK]
 ·rw [if_pos rfl] at hL
  refine Rel.er s 29 ?_ (by simp) ⟨hw.h,hw.b,hw.c,hw.k⟩
  simp only [S.row] at hB ⊢
  cases hC:s.C with
  | nil =>
   rw [hC] at hL hB
   simp only [List.map_nil,List.length_nil] at hL ⊢
   simp [F_z_110,Cl.row,hB,hb,hL,callD,callR,sub,setAll,back,reachC,cut,List.idxOf_cons,V.same_self,thaw,freezeAll,freeze1,overlay,take_map_len,drop_map_len,Nat.not_succ_le_self,rg2,rg3,rg4]
  | cons a C =>
   rw [hC] at hL hB hr
   have hr:C.length+1≤room:=hr
   simp only [List.map_cons,List.length_cons] at hL
   simp [F_z_110,Cl.row,hB,hb,hL,hr,callD,callR,sub,setAll,back,reachC,cut,List.idxOf_cons,V.same_self,thaw,freezeAll,freeze1,overlay,take_map_len,drop_map_len,Nat.not_succ_le_self,rg2,rg3,rg4]
end Go.VS.Sp
namespace Go.VS.Sp
structure S.sz (s:S):Prop where
 h:s.H.length≤10000
 b:s.B.length≤10000
 q:s.Q.length≤10000
 c:s.C.length≤1000
 l:∀c∈s.C,c.log.length≤10000
theorem S.sz.sm {s:S} (h:s.sz):s.sm:=⟨by have:=h.h;omega,by have:=h.b;omega,by have:=h.q;omega,by have:=h.c;omega,fun c hc=>by have:=h.l c hc;omega⟩
theorem ck_zero {n:Int} {b:Bool}:(ck n b==0)=(n==0&&b):=by
 unfold ck
 by_cases h:n=0
 ·cases b<;>simp [h]
 ·simp [h]
def iniR (k sz:Int):List D:=if k=4∨k=8 then grow sz else frow
theorem ev_rIni (nm:D) (k sz ot:Int):ev P (.call z_24 [.d (.ag [nm,I' k,I' sz,I' ot])] [])=nwR (newO k sz ot) (iniR k sz):=by
 rw [ev_call P_z_24 rfl]
 by_cases h1:k=1
 ·subst h1
  have e:newO 1 sz ot=nwA 1 1 sz ot:=by simp [newO]
  rw [e]
  by_cases hm:nwA 1 1 sz ot=0
  ·simp [F_z_24,ev_nwMr,hm,iniR,frow]
  ·simp [F_z_24,ev_nwMr,hm,zrow]
 by_cases h2:k=2
 ·subst h2
  have e:newO 2 sz ot=nwA 2 2 sz ot:=by simp [newO]
  rw [e]
  by_cases hm:nwA 2 2 sz ot=0
  ·simp [F_z_24,ev_nwWr,hm,iniR,frow]
  ·simp [F_z_24,ev_nwWr,hm,zrow]
 by_cases h4:k=4
 ·subst h4
  have e:newO 4 sz ot=nwS 4 sz ot:=by simp [newO]
  rw [e]
  by_cases hm:nwS 4 sz ot=0
  ·simp [F_z_24,ev_nwSr,hm,iniR,grow]
  ·simp [F_z_24,ev_nwSr,hm,zrow]
 by_cases h5:k=5
 ·subst h5
  have e:newO 5 sz ot=nwB 5 sz ot:=by simp [newO]
  rw [e]
  by_cases hm:nwB 5 sz ot=0
  ·simp [F_z_24,ev_nwBr,hm,iniR,frow]
  ·simp [F_z_24,ev_nwBr,hm,zrow]
 by_cases h6:k=6
 ·subst h6
  have e:newO 6 sz ot=nwC 6 sz ot:=by simp [newO]
  rw [e]
  by_cases hm:nwC 6 sz ot=0
  ·simp [F_z_24,ev_nwCr,hm,iniR,frow]
  ·simp [F_z_24,ev_nwCr,hm,zrow]
 by_cases h7:k=7
 ·subst h7
  have e:newO 7 sz ot=mnew 7 sz ot:=by simp [newO]
  rw [e]
  by_cases hm:mnew 7 sz ot=0
  ·simp [F_z_24,ev_rNew,hm,iniR,frow]
  ·simp [F_z_24,ev_rNew,hm,zrow]
 by_cases h8:k=8
 ·subst h8
  have e:newO 8 sz ot=nwL 8 sz ot:=by simp [newO]
  rw [e]
  by_cases hm:nwL 8 sz ot=0
  ·simp [F_z_24,ev_nwLr,hm,iniR,grow]
  ·simp [F_z_24,ev_nwLr,hm,zrow]
 by_cases h9:k=9
 ·subst h9
  have e:newO 9 sz ot=nwA 9 9 sz ot:=by simp [newO]
  rw [e]
  by_cases hm:nwA 9 9 sz ot=0
  ·simp [F_z_24,ev_nwFr,hm,iniR,frow]
  ·simp [F_z_24,ev_nwFr,hm,zrow]
 have b1:(k==1)=false:=by simpa using h1
 have b2:(k==2)=false:=by simpa using h2
 have b4:(k==4)=false:=by simpa using h4
 have b5:(k==5)=false:=by simpa using h5
 have b6:(k==6)=false:=by simpa using h6
 have b7:(k==7)=false:=by simpa using h7
 have b8:(k==8)=false:=by simpa using h8
 have b9:(k==9)=false:=by simpa using h9
 have e:newO k sz ot=8:=by simp [newO,h1,h2,h4,h5,h6,h7,h8,h9]
 rw [e]
 simp [F_z_24,b1,b2,b4,b5,b6,b7,b8,b9,zrow]
theorem ev_rCk (nm:D) (k sz ot:Int) (s:S) (hq:s.Q=[]) (hs:s.sm):ev P (.call z_48 [.d (.ag [nm,I' k,I' sz,I' ot]),.d (.ag s.row)] [])=some (.val (.d (I' (ckO k sz ot s))) []):=by
 rw [ev_call P_z_48 rfl]
 by_cases h1:k=1
 ·subst h1;have h:=ev_ckMr nm 1 sz ot s hq hs;simp only [S.row] at h;simp [F_z_48,h,ckO]
 by_cases h2:k=2
 ·subst h2;have h:=ev_ckWr nm 2 sz ot s hq hs;simp only [S.row] at h;simp [F_z_48,h,ckO]
 by_cases h4:k=4
 ·subst h4;have h:=ev_ckSr nm 4 sz ot s hq hs;simp only [S.row] at h;simp [F_z_48,h,ckO]
 by_cases h5:k=5
 ·subst h5;have h:=ev_ckBr nm 5 sz ot s hq hs;simp only [S.row] at h;simp [F_z_48,h,ckO]
 by_cases h6:k=6
 ·subst h6;have h:=ev_ckCr nm 6 sz ot s hq hs;simp only [S.row] at h;simp [F_z_48,h,ckO]
 by_cases h7:k=7
 ·subst h7;have h:=ev_rCheck nm 7 sz ot s hs;simp only [S.row] at h;simp [F_z_48,h,ckO]
 by_cases h8:k=8
 ·subst h8;have h:=ev_ckLr nm 8 sz ot s hq hs;simp only [S.row] at h;simp [F_z_48,h,ckO]
 by_cases h9:k=9
 ·subst h9;have h:=ev_ckFr nm 9 sz ot s hq;simp only [S.row] at h;simp [F_z_48,h,ckO]
 have b1:(k==1)=false:=by simpa using h1
 have b2:(k==2)=false:=by simpa using h2
 have b4:(k==4)=false:=by simpa using h4
 have b5:(k==5)=false:=by simpa using h5
 have b6:(k==6)=false:=by simpa using h6
 have b7:(k==7)=false:=by simpa using h7
 have b8:(k==8)=false:=by simpa using h8
 have b9:(k==9)=false:=by simpa using h9
 have e:ckO k sz ot s=8:=by simp [ckO,h1,h2,h4,h5,h6,h7,h8,h9]
 rw [e]
 simp [F_z_48,b1,b2,b4,b5,b6,b7,b8,b9]
theorem ev_rAbs (nm:D) (k sz ot:Int) (s:S) (hs:s.sm):ev P (.call z_22 [.d (.ag [nm,I' k,I' sz,I' ot]),.d (.ag s.row)] [])=some (.val (.d (.b (absB k sz ot s))) []):=by
 have hI:=ev_rIni nm k sz ot
 unfold nwR at hI
 rw [ev_call P_z_22 rfl]
 unfold absB
 cases hn:newO k sz ot==0
 ·have hn2:¬newO k sz ot=0:=by simpa using hn
  have hn3:(newO k sz ot != 0)=true:=by simpa using hn
  simp [F_z_22,hI,hn2,hn3,zrow]
 ·have hn2:newO k sz ot=0:=by simpa using hn
  have hrow:∃r0 r1 r2 r3 r4 r5 r6 r7 r8,iniR k sz=[r0,r1,r2,r3,r4,r5,r6,r7,r8]:=by
   unfold iniR grow frow
   split<;>exact ⟨_,_,_,_,_,_,_,_,_,rfl⟩
  obtain ⟨r0,r1,r2,r3,r4,r5,r6,r7,r8,hrow⟩:=hrow
  rw [if_pos hn2,hn2,hrow] at hI
  cases hq:s.Q with
  | cons q Q =>
   simp [F_z_22,hI,hq]
  | nil =>
   have hR:=ev_Room nm k sz ot
   have hq1:({ s with val:=0 }:S).Q=[]:=hq
   have hC1:=ev_rCk nm k (szO k sz) ot (vzO k s) (by unfold vzO;split<;>simp [hq]) (by unfold vzO;split<;>exact ⟨hs.h,hs.b,hs.q,hs.c,hs.l⟩)
   generalize ckO k (szO k sz) ot (vzO k s)=r at *
   by_cases h5:k=5
   ·subst h5
    simp [szO,vzO,hq] at hC1
    cases h1:(decide (s.val<0)||decide (sz≤s.val))
    ·simp [F_z_22,hI,hq,h1,hC1]
    ·simp [F_z_22,hI,hq,h1]
   ·have b5:(k==5)=false:=by simpa using h5
    by_cases h67:k=6∨k=7
    ·have b67:(k==6||k==7)=true:=by simpa using h67
     simp [szO,vzO,h5,h67,hq] at hC1
     simp only [S.row,hq] at hC1
     simp [F_z_22,hI,hq,b5,b67,hR,hC1]
    ·have b67:(k==6||k==7)=false:=by
      cases hh:(k==6||k==7)
      ·rfl
      ·exact absurd (by simpa using hh) h67
     simp [szO,vzO,h5,h67,hq] at hC1
     simp only [S.row,hq] at hC1
     simp [F_z_22,hI,hq,b5,b67,hC1]
end Go.VS.Sp
namespace Go.VS.Sp
theorem ev_abs1 (nm:D) (sz ot:Int) (s:S) (hq:s.Q=[]) (hs:s.sm) :
  ev P (.call z_312 [.d (.ag [.fn z_62 [] [],.fn z_63 [] []]),.d (.ag [nm,I' 1,I' sz,I' ot]),.d (.ag s.row)] [])=some (.val (.d (.b (absB 1 sz ot s))) []):=by
 have h:=ev_ckM nm 1 sz ot s hq hs
 have e:absB 1 sz ot s=(ck (nwA 1 1 sz ot) (okM s)==0):=by
  unfold absB
  rw [ck_zero]
  simp [newO,ckO,szO,vzO,hq,ck_zero]
 rw [e]
 simp only [S.row] at h
 rw [ev_call P_z_312 rfl]
 simp [F_z_312,h,toD,allD]
theorem ev_abs2 (nm:D) (sz ot:Int) (s:S) (hq:s.Q=[]) (hs:s.sm) :
  ev P (.call z_312 [.d (.ag [.fn z_67 [] [],.fn z_68 [] []]),.d (.ag [nm,I' 2,I' sz,I' ot]),.d (.ag s.row)] [])=some (.val (.d (.b (absB 2 sz ot s))) []):=by
 have h:=ev_ckW nm 2 sz ot s hq hs
 have e:absB 2 sz ot s=(ck (nwA 2 2 sz ot) (okW s)==0):=by
  unfold absB
  rw [ck_zero]
  simp [newO,ckO,szO,vzO,hq,ck_zero]
 rw [e]
 simp only [S.row] at h
 rw [ev_call P_z_312 rfl]
 simp [F_z_312,h,toD,allD]
theorem ev_abs4 (nm:D) (sz ot:Int) (s:S) (hq:s.Q=[]) (hs:s.sm) :
  ev P (.call z_312 [.d (.ag [.fn z_72 [] [],.fn z_73 [] []]),.d (.ag [nm,I' 4,I' sz,I' ot]),.d (.ag s.row)] [])=some (.val (.d (.b (absB 4 sz ot s))) []):=by
 have h:=ev_ckS nm 4 sz ot s hq hs
 have e:absB 4 sz ot s=(ck (nwS 4 sz ot) (okS sz s)==0):=by
  unfold absB
  rw [ck_zero]
  simp [newO,ckO,szO,vzO,hq,ck_zero]
 rw [e]
 simp only [S.row] at h
 rw [ev_call P_z_312 rfl]
 simp [F_z_312,h,toD,allD]
theorem ev_abs8 (nm:D) (sz ot:Int) (s:S) (hq:s.Q=[]) (hs:s.sm) :
  ev P (.call z_312 [.d (.ag [.fn z_92 [] [],.fn z_93 [] []]),.d (.ag [nm,I' 8,I' sz,I' ot]),.d (.ag s.row)] [])=some (.val (.d (.b (absB 8 sz ot s))) []):=by
 have h:=ev_ckL nm 8 sz ot s hq hs
 have e:absB 8 sz ot s=(ck (nwL 8 sz ot) (okL sz s)==0):=by
  unfold absB
  rw [ck_zero]
  simp [newO,ckO,szO,vzO,hq,ck_zero]
 rw [e]
 simp only [S.row] at h
 rw [ev_call P_z_312 rfl]
 simp [F_z_312,h,toD,allD]
theorem ev_abs9 (nm:D) (sz ot:Int) (s:S) (hq:s.Q=[]) (hs:s.sm) :
  ev P (.call z_312 [.d (.ag [.fn z_97 [] [],.fn z_98 [] []]),.d (.ag [nm,I' 9,I' sz,I' ot]),.d (.ag s.row)] [])=some (.val (.d (.b (absB 9 sz ot s))) []):=by
 have h:=ev_ckF nm 9 sz ot s hq
 have e:absB 9 sz ot s=(ck (nwA 9 9 sz ot) (okF s)==0):=by
  unfold absB
  rw [ck_zero]
  simp [newO,ckO,szO,vzO,hq,ck_zero]
 rw [e]
 simp only [S.row] at h
 rw [ev_call P_z_312 rfl]
 simp [F_z_312,h,toD,allD]
theorem ev_abs5 (nm:D) (sz ot:Int) (s:S) (hq:s.Q=[]) (hs:s.sm) :
  ev P (.call z_324 [.d (.ag [.fn z_77 [] [],.fn z_78 [] []]),.d (.ag [nm,I' 5,I' sz,I' ot]),.d (.ag s.row)] [])=some (.val (.d (.b (absB 5 sz ot s))) []):=by
 have h:=ev_ckB nm 5 sz ot { s with val:=0 } hq ⟨hs.h,hs.b,hs.q,hs.c,hs.l⟩
 have e:absB 5 sz ot s=(decide (0≤s.val)&&(decide (s.val<sz)&&(ck (nwB 5 sz ot) (okB { s with val:=0 })==0))):=by
  unfold absB
  rw [ck_zero]
  have e1:(decide (s.val<0)||decide (sz≤s.val))=!(decide (0≤s.val)&&decide (s.val<sz)):=by rw [Bool.eq_iff_iff];simp
  rw [e1]
  simp [newO,ckO,szO,vzO,hq,ck_zero]
  cases (nwB 5 sz ot==0)<;>cases decide (0≤s.val)<;>cases decide (s.val<sz)<;>simp
 rw [e]
 simp only [S.row] at h
 generalize ck (nwB 5 sz ot) (okB { s with val:=0 })=r at *
 rw [ev_call P_z_324 rfl]
 cases h1:decide (0≤s.val)
 ·simp [F_z_324,h1]
 ·cases h2:decide (s.val<sz)
  ·simp [F_z_324,h1,h2]
  ·simp [F_z_324,h1,h2,h,toD,allD]
theorem sm_bare (o c t:Int) (q:Bool):(bare o c t q).sm:=⟨by simp [bare],by simp [bare],by simp [bare],by simp [bare],by simp [bare]⟩
theorem ev_abs6 (nm:D) (sz ot:Int) (s:S) (hq:s.Q=[]) (hs:s.sm) :
  ev P (.call z_327 [.d (.ag [.fn z_82 [] [],.fn z_83 [] []]),.d (.ag [nm,I' 6,I' sz,I' ot]),.d (.ag s.row)] [])=some (.val (.d (.b (absB 6 sz ot s))) []):=by
 have h:=ev_ckC nm 6 (rmz sz) ot s hq hs
 have h0:=ev_ckC nm 6 sz ot (bare (-1) 0 0 true) rfl (sm_bare _ _ _ _)
 have hR:=ev_room nm 6 sz ot
 have e0:(ck (nwC 6 sz ot) (okC sz (bare (-1) 0 0 true))==0)=(nwC 6 sz ot==0):=by
  rw [ck_zero]
  cases hn:nwC 6 sz ot==0
  ·rfl
  ·have:¬sz<0:=by
    intro hlt
    have hn2:nwC 6 sz ot=0:=by simpa using hn
    unfold nwC at hn2
    simp [hlt] at hn2
   simp [okC,okCb,bare,this]
 have e:absB 6 sz ot s=((nwC 6 sz ot==0)&&(ck (nwC 6 (rmz sz) ot) (okC (rmz sz) s)==0)):=by
  unfold absB
  simp [newO,ckO,szO,vzO,hq]
 rw [e,←e0]
 simp only [S.row] at h
 generalize ck (nwC 6 (rmz sz) ot) (okC (rmz sz) s)=r at *
 generalize ck (nwC 6 sz ot) (okC sz (bare (-1) 0 0 true))=r0 at *
 have h0:ev P (.call z_83 [.d (.ag [nm,I' 6,I' sz,I' ot]),.d (.ag [I' (-1),I' 0,I' 0,.sl 1 true [],.sl 5 true [],.sl 1 true [],.sl 2 true [],.b false,I' 0])] [])=some (.val (.d (I' r0)) []):=h0
 rw [ev_call P_z_327 rfl]
 cases h1:r0==0
 ·simp [F_z_327,h0,h1,toD,allD]
 ·simp [F_z_327,h0,h1,hR,h,toD,allD]
theorem ev_abs7 (nm:D) (sz ot:Int) (s:S) (hq:s.Q=[]) (hs:s.sm) :
  ev P (.call z_332 [.d (.ag [.fn z_87 [] [],.fn z_88 [] []]),.d (.ag [nm,I' 7,I' sz,I' ot]),.d (.ag s.row)] [])=some (.val (.d (.b (absB 7 sz ot s))) []):=by
 have h:=ev_mCheck nm 7 (rmz sz) ot s hs
 have h0:=ev_mCheck nm 7 sz ot (bare (-1) 0 0 true) (sm_bare _ _ _ _)
 have hR:=ev_room nm 7 sz ot
 have e0:(ckd 7 sz ot (bare (-1) 0 0 true)==0)=(mnew 7 sz ot==0):=by
  unfold ckd
  by_cases hn:mnew 7 sz ot=0
  ·simp [hn,S.good,bare,vc,tq,wchk,wcheckFrom,S.fl0]
  ·simp [hn]
 have e:absB 7 sz ot s=((mnew 7 sz ot==0)&&(ckd 7 (rmz sz) ot s==0)):=by
  unfold absB
  simp [newO,ckO,szO,vzO,hq]
 rw [e,←e0]
 simp only [S.row] at h
 generalize ckd 7 (rmz sz) ot s=r at *
 generalize ckd 7 sz ot (bare (-1) 0 0 true)=r0 at *
 have h0:ev P (.call z_88 [.d (.ag [nm,I' 7,I' sz,I' ot]),.d (.ag [I' (-1),I' 0,I' 0,.sl 1 true [],.sl 5 true [],.sl 1 true [],.sl 2 true [],.b false,I' 0])] [])=some (.val (.d (I' r0)) []):=h0
 rw [ev_call P_z_332 rfl]
 cases h1:r0==0
 ·simp [F_z_332,h0,h1,toD,allD]
 ·simp [F_z_332,h0,h1,hR,h,toD,allD]
end Go.VS.Sp
namespace Go.VS.Sp
theorem abs_of {k sz ot:Int} {s:S} (h:absB k sz ot s=true):newO k sz ot=0∧s.Q=[]∧(k=5→0≤s.val∧s.val<sz)∧ckO k (szO k sz) ot (vzO k s)=0:=by
 unfold absB at h
 simp only [Bool.and_eq_true,beq_iff_eq,List.isEmpty_iff] at h
 obtain ⟨⟨⟨h1,h2⟩,h3⟩,h4⟩:=h
 refine ⟨h1,h2,fun h5=>?_,h4⟩
 simp [h5] at h3
 omega
theorem ck_ok {n:Int} {b:Bool} (h:ck n b=0):b=true:=by
 have:(ck n b==0)=true:=by simp [h]
 rw [ck_zero,Bool.and_eq_true] at this
 exact this.2
theorem ck_nw {n:Int} {b:Bool} (h:ck n b=0):n=0:=by
 have:(ck n b==0)=true:=by simp [h]
 rw [ck_zero,Bool.and_eq_true] at this
 simpa using this.1
theorem abs1 {sz ot:Int} {s:S} (h:absB 1 sz ot s=true):okM s=true:=by
 obtain ⟨_,_,_,h⟩:=abs_of h
 exact ck_ok (by simpa [ckO,szO,vzO] using h)
theorem abs2 {sz ot:Int} {s:S} (h:absB 2 sz ot s=true):okW s=true:=by
 obtain ⟨_,_,_,h⟩:=abs_of h
 exact ck_ok (by simpa [ckO,szO,vzO] using h)
theorem abs4 {sz ot:Int} {s:S} (h:absB 4 sz ot s=true):nwS 4 sz ot=0∧okS sz s=true:=by
 obtain ⟨_,_,_,h⟩:=abs_of h
 have h:ck (nwS 4 sz ot) (okS sz s)=0:=by simpa [ckO,szO,vzO] using h
 exact ⟨ck_nw h,ck_ok h⟩
theorem abs5 {sz ot:Int} {s:S} (h:absB 5 sz ot s=true):nwB 5 sz ot=0∧okB { s with val:=0 }=true∧0≤s.val∧s.val<sz:=by
 obtain ⟨_,_,h5,h⟩:=abs_of h
 have h:ck (nwB 5 sz ot) (okB { s with val:=0 })=0:=by simpa [ckO,szO,vzO] using h
 exact ⟨ck_nw h,ck_ok h,h5 rfl⟩
theorem abs6 {sz ot:Int} {s:S} (h:absB 6 sz ot s=true):nwC 6 sz ot=0∧okC (rmz sz) s=true:=by
 obtain ⟨h0,_,_,h⟩:=abs_of h
 have h:ck (nwC 6 (rmz sz) ot) (okC (rmz sz) s)=0:=by simpa [ckO,szO,vzO] using h
 exact ⟨by simpa [newO] using h0,ck_ok h⟩
theorem abs7 {sz ot:Int} {s:S} (h:absB 7 sz ot s=true):mnew 7 sz ot=0∧S.good (rmz sz) s=true:=by
 obtain ⟨h0,_,_,h⟩:=abs_of h
 have h:ckd 7 (rmz sz) ot s=0:=by simpa [ckO,szO,vzO] using h
 refine ⟨by simpa [newO] using h0,?_⟩
 unfold ckd at h
 split at h
 ·split at h
  ·assumption
  ·simp at h
 ·rename_i h2;exact absurd h h2
theorem abs8 {sz ot:Int} {s:S} (h:absB 8 sz ot s=true):nwL 8 sz ot=0∧okL sz s=true:=by
 obtain ⟨_,_,_,h⟩:=abs_of h
 have h:ck (nwL 8 sz ot) (okL sz s)=0:=by simpa [ckO,szO,vzO] using h
 exact ⟨ck_nw h,ck_ok h⟩
theorem okM_own {s:S} (h:okM s=true):s.own = -1∨isTask s.own=true:=by
 unfold okM at h
 simp at h
 exact h.1
theorem isTask_bd {n:Int} (h:isTask n=true):0≤n∧n<16:=isTask_iff.1 h
theorem okW_facts {s:S} (h:okW s=true):SAsc s.H∧(∀x∈s.H,isTask x=true)∧(s.own = -1∨(isTask s.own=true∧s.H=[])):=by
 unfold okW at h
 rw [Bool.and_eq_true] at h
 obtain ⟨h1,h2⟩:=h
 obtain ⟨_,h3,h4⟩:=(okH_iff s.H none).1 h2
 refine ⟨h3,h4,?_⟩
 unfold okWb at h1
 rw [len1] at h1
 by_cases ho:s.own = -1
 ·exact .inl ho
 ·right
  simp [ho] at h1
  obtain ⟨⟨⟨⟨⟨⟨h5,_⟩,_⟩,_⟩,_⟩,_⟩,_⟩:=h1
  exact h5
theorem nwS_bd {sz ot:Int} (h:nwS 4 sz ot=0):1≤sz∧sz≤100:=by
 unfold nwS at h
 simp at h
 omega
theorem nwB_bd {sz ot:Int} (h:nwB 5 sz ot=0):1≤sz∧sz≤100:=by
 unfold nwB at h
 simp at h
 omega
theorem nwL_bd {sz ot:Int} (h:nwL 8 sz ot=0):1≤sz∧sz≤100∧1≤ot∧ot≤1099511627776:=by
 unfold nwL at h
 simp at h
 omega
theorem okS_bd {sz:Int} {s:S} (h:okS sz s=true):0≤s.cnt∧s.cnt≤sz:=by
 unfold okS at h
 simp at h
 omega
theorem okB_bd {s:S} (h:okB s=true):0≤s.cnt∧s.cnt≤1099511627776:=by
 unfold okB at h
 simp at h
 omega
theorem okL_bd {sz:Int} {s:S} (h:okL sz s=true):(0≤s.cnt∧s.cnt≤sz)∧0≤s.time∧s.time≤1099511627776:=by
 unfold okL at h
 simp at h
 omega
theorem good_vc {sz:Int} {s:S} (h:S.good sz s=true):SAsc (tsk s)∧∀x∈s.C,isTask x.task=true∧¬sz<x.log.length∧x.log.all num=true:=by
 unfold S.good at h
 simp only [Bool.and_eq_true] at h
 obtain ⟨_,h1,h2⟩:=(vc_iff sz s.C none).1 h.1.2.1
 exact ⟨h1,h2⟩
theorem cbad_bd {c:Cl} (h:cbad c=false):isTask c.task=true∧0≤c.now∧c.now≤1099511627776:=by
 unfold cbad at h
 simp at h
 refine ⟨isTask_iff.2 (by omega),by omega,by omega⟩
theorem effI1 (nm:D) (sz ot:Int) (s:S) (c:Cl) (hw:s.wf) (hz:s.sz) (ha:absB 1 sz ot s=true) (hc:cbad c=false) (hb:blg 1 c.op=true) (hf:fit 1 sz c=true) :
  Rel (ev P (.call z_315 [.d (.ag [.fn z_62 [] [],.fn z_63 [] []]),.d (.ag [nm,I' 1,I' sz,I' ot]),.d (.ag s.row),.d (.ag c.row)] [])) (raw 1 sz ot s.pl c):=by
 have h1:=okM_own (abs1 ha)
 have h2:s.own = -1∨0≤s.own:=by
  rcases h1 with h | h
  ·exact .inl h
  ·exact .inr (isTask_bd h).1
 have e:raw 1 sz ot s.pl c=eM s.pl c:=rfl
 rw [e]
 exact ev_eM _ rfl _ _ s hw c h2
theorem effR1 (nm:D) (sz ot:Int) (s:S) (c:Cl) (hw:s.wf) (hz:s.sz) (ha:absB 1 sz ot s=true) (hc:cbad c=false) (hb:blg 1 c.op=true) (hf:fit 1 sz c=true) :
  Rel (ev P (.call z_105 [.d (.ag s.row),.d (.ag c.row)] [])) (raw 1 sz ot s.pl c):=by
 have h1:=okM_own (abs1 ha)
 have h2:s.own = -1∨0≤s.own:=by
  rcases h1 with h | h
  ·exact .inl h
  ·exact .inr (isTask_bd h).1
 have e:raw 1 sz ot s.pl c=eM s.pl c:=rfl
 rw [e]
 exact ev_eMr s hw c h2
theorem effI2 (nm:D) (sz ot:Int) (s:S) (c:Cl) (hw:s.wf) (hz:s.sz) (ha:absB 2 sz ot s=true) (hc:cbad c=false) (hb:blg 2 c.op=true) (hf:fit 2 sz c=true) :
  Rel (ev P (.call z_319 [.d (.ag [.fn z_67 [] [],.fn z_68 [] []]),.d (.ag [nm,I' 2,I' sz,I' ot]),.d (.ag s.row),.d (.ag c.row)] [])) (raw 2 sz ot s.pl c):=by
 obtain ⟨h1,h2,h3⟩:=okW_facts (abs2 ha)
 have h4:s.own = -1∨0≤s.own:=by
  rcases h3 with h | h
  ·exact .inl h
  ·exact .inr (isTask_bd h.1).1
 have h5:s.own = -1∨s.H=[]:=by
  rcases h3 with h | h
  ·exact .inl h
  ·exact .inr h.2
 have hl:=hz.h
 have e:raw 2 sz ot s.pl c=eW s.pl c:=rfl
 rw [e]
 exact ev_eW _ rfl _ _ s hw c h1 (by omega) h4
theorem effR2 (nm:D) (sz ot:Int) (s:S) (c:Cl) (hw:s.wf) (hz:s.sz) (ha:absB 2 sz ot s=true) (hc:cbad c=false) (hb:blg 2 c.op=true) (hf:fit 2 sz c=true) :
  Rel (ev P (.call z_106 [.d (.ag s.row),.d (.ag c.row)] [])) (raw 2 sz ot s.pl c):=by
 obtain ⟨h1,h2,h3⟩:=okW_facts (abs2 ha)
 have h4:s.own = -1∨0≤s.own:=by
  rcases h3 with h | h
  ·exact .inl h
  ·exact .inr (isTask_bd h.1).1
 have h5:s.own = -1∨s.H=[]:=by
  rcases h3 with h | h
  ·exact .inl h
  ·exact .inr h.2
 have hl:=hz.h
 have e:raw 2 sz ot s.pl c=eW s.pl c:=rfl
 rw [e]
 exact ev_eWr s hw c h1 (by omega) h5 (isTask_bd (cbad_bd hc).1).1
theorem effI4 (nm:D) (sz ot:Int) (s:S) (c:Cl) (hw:s.wf) (hz:s.sz) (ha:absB 4 sz ot s=true) (hc:cbad c=false) (hb:blg 4 c.op=true) (hf:fit 4 sz c=true) :
  Rel (ev P (.call z_322 [.d (.ag [.fn z_72 [] [],.fn z_73 [] []]),.d (.ag [nm,I' 4,I' sz,I' ot]),.d (.ag s.row),.d (.ag c.row)] [])) (raw 4 sz ot s.pl c):=by
 obtain ⟨h1,h2⟩:=abs4 ha
 have h3:=nwS_bd h1
 have h4:=okS_bd h2
 have h5:1≤c.value∧c.value≤sz:=by simpa [fit] using hf
 have e:raw 4 sz ot s.pl c=eS sz s.pl c:=rfl
 rw [e]
 exact ev_eS _ _ nm 4 sz ot s hw c h3.2 h4 h5
theorem effR4 (nm:D) (sz ot:Int) (s:S) (c:Cl) (hw:s.wf) (hz:s.sz) (ha:absB 4 sz ot s=true) (hc:cbad c=false) (hb:blg 4 c.op=true) (hf:fit 4 sz c=true) :
  Rel (ev P (.call z_107 [.d (.ag [nm,I' 4,I' sz,I' ot]),.d (.ag s.row),.d (.ag c.row)] [])) (raw 4 sz ot s.pl c):=by
 obtain ⟨h1,h2⟩:=abs4 ha
 have h3:=nwS_bd h1
 have h4:=okS_bd h2
 have h5:1≤c.value∧c.value≤sz:=by simpa [fit] using hf
 have e:raw 4 sz ot s.pl c=eS sz s.pl c:=rfl
 rw [e]
 exact ev_eSr nm 4 sz ot s hw c h3.2 h4 h5
theorem effI5 (nm:D) (sz ot:Int) (s:S) (c:Cl) (hw:s.wf) (hz:s.sz) (ha:absB 5 sz ot s=true) (hc:cbad c=false) (hb:blg 5 c.op=true) (hf:fit 5 sz c=true) :
  Rel (ev P (.call z_325 [.d (.ag [.fn z_77 [] [],.fn z_78 [] []]),.d (.ag [nm,I' 5,I' sz,I' ot]),.d (.ag s.row),.d (.ag c.row)] [])) (raw 5 sz ot s.pl c):=by
 obtain ⟨h1,h2,h3,h4⟩:=abs5 ha
 have h5:=nwB_bd h1
 have h6:=okB_bd h2
 simp only at h6
 have e:raw 5 sz ot s.pl c=eB sz s.pl:=rfl
 rw [e]
 exact ev_eB _ rfl _ _ nm 5 sz ot s hw h5.2 ⟨h3,h4⟩ h6
theorem effR5 (nm:D) (sz ot:Int) (s:S) (c:Cl) (hw:s.wf) (hz:s.sz) (ha:absB 5 sz ot s=true) (hc:cbad c=false) (hb:blg 5 c.op=true) (hf:fit 5 sz c=true) :
  Rel (ev P (.call z_108 [.d (.ag [nm,I' 5,I' sz,I' ot]),.d (.ag s.row)] [])) (raw 5 sz ot s.pl c):=by
 obtain ⟨h1,h2,h3,h4⟩:=abs5 ha
 have h5:=nwB_bd h1
 have h6:=okB_bd h2
 simp only at h6
 have e:raw 5 sz ot s.pl c=eB sz s.pl:=rfl
 rw [e]
 exact ev_eBr nm 5 sz ot s hw h5.2 ⟨h3,h4⟩ h6
theorem effI6 (nm:D) (sz ot:Int) (s:S) (c:Cl) (hw:s.wf) (hz:s.sz) (ha:absB 6 sz ot s=true) (hc:cbad c=false) (hb:blg 6 c.op=true) (hf:fit 6 sz c=true) :
  Rel (ev P (.call z_328 [.d (.ag [.fn z_82 [] [],.fn z_83 [] []]),.d (.ag [nm,I' 6,I' sz,I' ot]),.d (.ag s.row),.d (.ag c.row)] [])) (raw 6 sz ot s.pl c):=by
 have h1:c.op=64∨c.op=65∨c.op=66:=by
  simp [blg] at hb
  omega
 have hl:=hz.b
 have e:raw 6 sz ot s.pl c=eC (rmz sz) s.pl c:=rfl
 rw [e]
 exact ev_eC _ _ nm 6 sz ot s hw c h1 (by omega)
theorem effR6 (nm:D) (sz ot:Int) (s:S) (c:Cl) (hw:s.wf) (hz:s.sz) (ha:absB 6 sz ot s=true) (hc:cbad c=false) (hb:blg 6 c.op=true) (hf:fit 6 sz c=true) :
  Rel (ev P (.call z_109 [.d (.ag [nm,I' 6,I' sz,I' ot]),.d (.ag s.row),.d (.ag c.row)] [])) (raw 6 sz ot s.pl c):=by
 have h1:c.op=64∨c.op=65∨c.op=66:=by
  simp [blg] at hb
  omega
 have hl:=hz.b
 have e:raw 6 sz ot s.pl c=eC (rmz sz) s.pl c:=rfl
 rw [e]
 exact ev_eCr nm 6 sz ot s hw c h1 (by omega)
theorem effI7 (nm:D) (sz ot:Int) (s:S) (c:Cl) (hw:s.wf) (hz:s.sz) (ha:absB 7 sz ot s=true) (hc:cbad c=false) (hb:blg 7 c.op=true) (hf:fit 7 sz c=true) :
  Rel (ev P (.call z_333 [.d (.ag [.fn z_87 [] [],.fn z_88 [] []]),.d (.ag [nm,I' 7,I' sz,I' ot]),.d (.ag s.row),.d (.ag c.row)] [])) (raw 7 sz ot s.pl c):=by
 obtain ⟨_,h1⟩:=abs7 ha
 obtain ⟨h2,h3⟩:=good_vc h1
 have hk:s.tk:=⟨h2,fun x hx=>(h3 x hx).1,hz.c,fun x hx=>by have:=hz.l x hx;omega⟩
 have ht:=(cbad_bd hc).1
 have h4:c.op=68∨c.op=69∨c.op=70∨c.op=71:=by
  simp [blg] at hb
  omega
 have e:raw 7 sz ot s.pl c=eT (rmz sz) s.pl c:=rfl
 rw [e]
 rcases h4 with h | h | h | h
 ·exact ev_eT4 _ _ nm 7 sz ot s hw c hk ht h
 ·exact ev_eT1 _ _ nm 7 sz ot s hw c hk ht h
 ·exact ev_eT3 _ _ nm 7 sz ot s hw c hk ht h
 ·exact ev_eT2 _ _ nm 7 sz ot s hw c hk ht h
theorem effR7 (nm:D) (sz ot:Int) (s:S) (c:Cl) (hw:s.wf) (hz:s.sz) (ha:absB 7 sz ot s=true) (hc:cbad c=false) (hb:blg 7 c.op=true) (hf:fit 7 sz c=true) :
  Rel (ev P (.call z_110 [.d (.ag [nm,I' 7,I' sz,I' ot]),.d (.ag s.row),.d (.ag c.row)] [])) (raw 7 sz ot s.pl c):=by
 obtain ⟨_,h1⟩:=abs7 ha
 obtain ⟨h2,h3⟩:=good_vc h1
 have hk:s.tk:=⟨h2,fun x hx=>(h3 x hx).1,hz.c,fun x hx=>by have:=hz.l x hx;omega⟩
 have ht:=(cbad_bd hc).1
 have h4:c.op=68∨c.op=69∨c.op=70∨c.op=71:=by
  simp [blg] at hb
  omega
 have e:raw 7 sz ot s.pl c=eT (rmz sz) s.pl c:=rfl
 rw [e]
 rcases h4 with h | h | h | h
 ·exact ev_eT4r nm 7 sz ot s hw c hk h
 ·exact ev_eT1r nm 7 sz ot s hw c hk h
 ·exact ev_eT3r nm 7 sz ot s hw c hk h
 ·exact ev_eT2r nm 7 sz ot s hw c hk h
theorem effI8 (nm:D) (sz ot:Int) (s:S) (c:Cl) (hw:s.wf) (hz:s.sz) (ha:absB 8 sz ot s=true) (hc:cbad c=false) (hb:blg 8 c.op=true) (hf:fit 8 sz c=true) :
  Rel (ev P (.call z_339 [.d (.ag [.fn z_92 [] [],.fn z_93 [] []]),.d (.ag [nm,I' 8,I' sz,I' ot]),.d (.ag s.row),.d (.ag c.row)] [])) (raw 8 sz ot s.pl c):=by
 obtain ⟨h1,h2⟩:=abs8 ha
 have h3:=nwL_bd h1
 have h4:=okL_bd h2
 have h5:=(cbad_bd hc).2
 have h6:c.op=72∨c.op=75:=by simpa [blg] using hb
 have h7:c.op=72→1≤c.value∧c.value≤sz:=by
  intro h
  simpa [fit,h] using hf
 have e:raw 8 sz ot s.pl c=eL sz ot s.pl c:=rfl
 rw [e]
 exact ev_eL _ _ nm 8 sz ot s hw c ⟨h3.1,h3.2.1⟩ h3.2.2 h4.1 h4.2 h5 h6 h7
theorem effR8 (nm:D) (sz ot:Int) (s:S) (c:Cl) (hw:s.wf) (hz:s.sz) (ha:absB 8 sz ot s=true) (hc:cbad c=false) (hb:blg 8 c.op=true) (hf:fit 8 sz c=true) :
  Rel (ev P (.call z_111 [.d (.ag [nm,I' 8,I' sz,I' ot]),.d (.ag s.row),.d (.ag c.row)] [])) (raw 8 sz ot s.pl c):=by
 obtain ⟨h1,h2⟩:=abs8 ha
 have h3:=nwL_bd h1
 have h4:=okL_bd h2
 have h5:=(cbad_bd hc).2
 have h6:c.op=72∨c.op=75:=by simpa [blg] using hb
 have h7:c.op=72→1≤c.value∧c.value≤sz:=by
  intro h
  simpa [fit,h] using hf
 have e:raw 8 sz ot s.pl c=eL sz ot s.pl c:=rfl
 rw [e]
 exact ev_eLr nm 8 sz ot s hw c ⟨h3.1,h3.2.1⟩ h3.2.2 h4.1 h4.2 h5 h6 h7
theorem effI9 (nm:D) (sz ot:Int) (s:S) (c:Cl) (hw:s.wf) (hz:s.sz) (ha:absB 9 sz ot s=true) (hc:cbad c=false) (hb:blg 9 c.op=true) (hf:fit 9 sz c=true) :
  Rel (ev P (.call z_341 [.d (.ag [.fn z_97 [] [],.fn z_98 [] []]),.d (.ag [nm,I' 9,I' sz,I' ot]),.d (.ag s.row),.d (.ag c.row)] [])) (raw 9 sz ot s.pl c):=by
 have h1:c.op=73∨c.op=74:=by simpa [blg] using hb
 have e:raw 9 sz ot s.pl c=eF s.pl c:=rfl
 rw [e]
 exact ev_eF _ rfl _ _ s hw c h1
theorem effR9 (nm:D) (sz ot:Int) (s:S) (c:Cl) (hw:s.wf) (hz:s.sz) (ha:absB 9 sz ot s=true) (hc:cbad c=false) (hb:blg 9 c.op=true) (hf:fit 9 sz c=true) :
  Rel (ev P (.call z_112 [.d (.ag s.row),.d (.ag c.row)] [])) (raw 9 sz ot s.pl c):=by
 have h1:c.op=73∨c.op=74:=by simpa [blg] using hb
 have e:raw 9 sz ot s.pl c=eF s.pl c:=rfl
 rw [e]
 exact ev_eFr s hw c h1
end Go.VS.Sp
namespace Go.VS.Sp
theorem vc_pl (sz:Int):∀(C:List K) (p:Option K),vc sz (p.map K.pl) (C.map K.pl)=vc sz p C
 | [],_=>rfl
 | c::C,p=>by
  have ih:=vc_pl sz C (some c)
  have e:kbad sz (p.map K.pl) (K.pl c)=kbad sz p c:=by
   unfold kbad
   cases p<;>rfl
  show (!kbad sz (p.map K.pl) (K.pl c)&&((K.pl c).log.all num&&vc sz ((some c).map K.pl) (C.map K.pl)))=(!kbad sz p c&&(c.log.all num&&vc sz (some c) C))
  rw [e,ih]
  rfl
theorem ckO_pl (k sz ot:Int) (s:S) (hq:s.Q=[]):ckO k sz ot s.pl=ckO k sz ot s:=by
 have hl:s.pl.C.length=s.C.length:=by simp [S.pl]
 have e1:okM s.pl=okM s:=by unfold okM;rw [hl];first | done | rfl
 have e2:okW s.pl=okW s:=by unfold okW okWb;rw [hl];first | done | rfl
 have e3:okS sz s.pl=okS sz s:=by unfold okS;rw [hl];first | done | rfl
 have e4:okB s.pl=okB s:=by unfold okB;rw [hl];first | done | rfl
 have e5:okC sz s.pl=okC sz s:=by unfold okC okCb;rw [hl];first | done | rfl
 have e6:ckd k sz ot s.pl=ckd k sz ot s:=by
  have h1:s.pl.Q=[]:=hq
  have h2:=vc_pl sz s.C none
  simp only [Option.map_none] at h2
  unfold ckd S.good
  rw [h1,hq]
  have h3:s.pl.C=s.C.map K.pl:=rfl
  have h4:s.pl.fl0=s.fl0:=rfl
  have h5:s.pl.own=s.own:=rfl
  rw [h3,h2,h4,h5]
  rfl
 have e7:okL sz s.pl=okL sz s:=by unfold okL;rw [hl];first | done | rfl
 have e8:okF s.pl=okF s:=by simp [okF,okFp,S.pl,List.isEmpty_iff]
 unfold ckO
 rw [e1,e2,e3,e4,e5,e6,e7,e8]
theorem absB_pl (k sz ot:Int) (s:S):absB k sz ot s.pl=absB k sz ot s:=by
 unfold absB
 have h1:s.pl.Q=s.Q:=rfl
 have h2:s.pl.val=s.val:=rfl
 have h3:vzO k s.pl=(vzO k s).pl:=by unfold vzO;split<;>rfl
 rw [h1,h2,h3]
 by_cases hq:s.Q=[]
 ·rw [ckO_pl _ _ _ _ (by unfold vzO;split<;>simp [hq])]
 ·have:s.Q.isEmpty=false:=by simpa [List.isEmpty_iff] using hq
  simp [this]
theorem known_of {k sz ot:Int} (h:newO k sz ot=0):k=1∨k=2∨k=4∨k=5∨k=6∨k=7∨k=8∨k=9:=by
 by_cases h1:k=1
 ·exact .inl h1
 by_cases h2:k=2
 ·exact .inr (.inl h2)
 by_cases h4:k=4
 ·exact .inr (.inr (.inl h4))
 by_cases h5:k=5
 ·exact .inr (.inr (.inr (.inl h5)))
 by_cases h6:k=6
 ·exact .inr (.inr (.inr (.inr (.inl h6))))
 by_cases h7:k=7
 ·exact .inr (.inr (.inr (.inr (.inr (.inl h7)))))
 by_cases h8:k=8
 ·exact .inr (.inr (.inr (.inr (.inr (.inr (.inl h8))))))
 by_cases h9:k=9
 ·exact .inr (.inr (.inr (.inr (.inr (.inr (.inr h9))))))
 simp [newO,h1,h2,h4,h5,h6,h7,h8,h9] at h
theorem ev_rBel {k:Int} (hk:k=1∨k=2∨k=4∨k=5∨k=6∨k=7∨k=8∨k=9) (op:Int):ev P (.call z_39 [.d (I' k),.d (I' op)] [])=some (.val (.d (.b (blg k op))) []):=by
 rw [ev_call P_z_39 rfl]
 rcases hk with h | h | h | h | h | h | h | h<;>subst h<;>simp [F_z_39,blg]
theorem ev_rFit (nm:D) (k sz ot:Int) (c:Cl):ev P (.call z_40 [.d (.ag [nm,I' k,I' sz,I' ot]),.d (.ag c.row)] [])=some (.val (.d (.b (fit k sz c))) []):=by
 rw [ev_call P_z_40 rfl]
 unfold fit num
 cases h1:(k==4||c.op==72)
 ·have h1':¬(k=4∨c.op=72):=by
   intro h
   have:(k==4||c.op==72)=true:=by simpa using h
   rw [h1] at this;cases this
  rw [if_neg h1']
  cases h2:(c.op==64||c.op==68||c.op==73)
  ·have h2':¬(c.op=64∨c.op=68∨c.op=73):=by
    intro h
    have:(c.op==64||c.op==68||c.op==73)=true:=by simpa [or_assoc] using h
    rw [h2] at this;cases this
   rw [if_neg h2']
   simp [F_z_40,Cl.row,h1,h2]
  ·have h2':c.op=64∨c.op=68∨c.op=73:=by simpa [or_assoc] using h2
   rw [if_pos h2']
   simp [F_z_40,Cl.row,h1,h2]
 ·have h1':k=4∨c.op=72:=by simpa using h1
  rw [if_pos h1']
  simp [F_z_40,Cl.row,h1]
theorem absB_known {k sz ot:Int} {s:S} (h:absB k sz ot s=true):k=1∨k=2∨k=4∨k=5∨k=6∨k=7∨k=8∨k=9:=known_of (abs_of h).1
theorem effR (nm:D) (k sz ot:Int) (s:S) (c:Cl) (hw:s.wf) (hz:s.sz) (ha:absB k sz ot s=true) (hc:cbad c=false) (hb:blg k c.op=true) (hf:fit k sz c=true) :
  Rel (ev P (.call z_41 [.d (.ag [nm,I' k,I' sz,I' ot]),.d (.ag s.row),.d (.ag c.row)] [])) (raw k sz ot s.pl c):=by
 rw [ev_call P_z_41 rfl]
 rcases absB_known ha with h | h | h | h | h | h | h | h<;>subst h
 ·obtain ⟨s',h1,h2,h3⟩:=effR1 nm sz ot s c hw hz ha hc hb hf
  refine ⟨s',?_,h2,h3⟩
  generalize raw 1 sz ot s.pl c=r at *
  simp only [S.row,Cl.row] at h1
  simp [F_z_41,Cl.row,h1]
 ·obtain ⟨s',h1,h2,h3⟩:=effR2 nm sz ot s c hw hz ha hc hb hf
  refine ⟨s',?_,h2,h3⟩
  generalize raw 2 sz ot s.pl c=r at *
  simp only [S.row,Cl.row] at h1
  simp [F_z_41,Cl.row,h1]
 ·obtain ⟨s',h1,h2,h3⟩:=effR4 nm sz ot s c hw hz ha hc hb hf
  refine ⟨s',?_,h2,h3⟩
  generalize raw 4 sz ot s.pl c=r at *
  simp only [S.row,Cl.row] at h1
  simp [F_z_41,Cl.row,h1]
 ·obtain ⟨s',h1,h2,h3⟩:=effR5 nm sz ot s c hw hz ha hc hb hf
  refine ⟨s',?_,h2,h3⟩
  generalize raw 5 sz ot s.pl c=r at *
  simp only [S.row,Cl.row] at h1
  simp [F_z_41,Cl.row,h1]
 ·obtain ⟨s',h1,h2,h3⟩:=effR6 nm sz ot s c hw hz ha hc hb hf
  refine ⟨s',?_,h2,h3⟩
  generalize raw 6 sz ot s.pl c=r at *
  simp only [S.row,Cl.row] at h1
  simp [F_z_41,Cl.row,h1]
 ·obtain ⟨s',h1,h2,h3⟩:=effR7 nm sz ot s c hw hz ha hc hb hf
  refine ⟨s',?_,h2,h3⟩
  generalize raw 7 sz ot s.pl c=r at *
  simp only [S.row,Cl.row] at h1
  simp [F_z_41,Cl.row,h1]
 ·obtain ⟨s',h1,h2,h3⟩:=effR8 nm sz ot s c hw hz ha hc hb hf
  refine ⟨s',?_,h2,h3⟩
  generalize raw 8 sz ot s.pl c=r at *
  simp only [S.row,Cl.row] at h1
  simp [F_z_41,Cl.row,h1]
 ·obtain ⟨s',h1,h2,h3⟩:=effR9 nm sz ot s c hw hz ha hc hb hf
  refine ⟨s',?_,h2,h3⟩
  generalize raw 9 sz ot s.pl c=r at *
  simp only [S.row,Cl.row] at h1
  simp [F_z_41,Cl.row,h1]
theorem zN_wf:zN.wf:=⟨fun _=>rfl,fun _=>rfl,fun _=>rfl,by simp [zN]⟩
theorem Rel.fail {R:Option Res} (e:Int) (h:R=some (.val (.tu [.d (.ag zrow),.d (I' 0),.d (.b false),.d (I' e)]) [])):Rel R (Sp.er zS e):=⟨zN,h,rfl,zN_wf⟩
theorem ev_rEffect (nm:D) (k sz ot:Int) (s:S) (c:Cl) (hw:s.wf) (hz:s.sz) :
  Rel (ev P (.call z_16 [.d (.ag [nm,I' k,I' sz,I' ot]),.d (.ag s.row),.d (.ag c.row)] [])) (effF k sz ot s.pl c):=by
 have hA:=ev_rAbs nm k sz ot s hz.sm
 have hF:=ev_rFit nm k sz ot c
 unfold effF
 rw [absB_pl]
 rw [ev_call P_z_16 rfl]
 cases ha:absB k sz ot s
 ·rw [ha] at hA
  rw [if_pos rfl]
  exact Rel.fail 1 (by simp [F_z_16,hA,Cl.row,zrow])
 ·have hB:=ev_rBel (absB_known ha) c.op
  rw [ha] at hA
  rw [if_neg (by decide)]
  cases hc:cbad c
  ·rw [if_neg (by decide)]
   have hc2:=hc
   unfold cbad at hc
   cases hb:blg k c.op
   ·rw [hb] at hB
    rw [if_pos rfl]
    exact Rel.fail 8 (by simp [F_z_16,hA,Cl.row,hc,hB,zrow])
   ·rw [hb] at hB
    rw [if_neg (by decide)]
    cases hf:fit k sz c
    ·rw [hf] at hF
     rw [if_pos rfl]
     simp only [Cl.row] at hF
     exact Rel.fail 2 (by simp [F_z_16,hA,Cl.row,hc,hB,hF,zrow])
    ·rw [hf] at hF
     rw [if_neg (by decide)]
     obtain ⟨s',h1,h2,h3⟩:=effR nm k sz ot s c hw hz ha hc2 hb hf
     generalize raw k sz ot s.pl c=r at *
     simp only [Cl.row] at hF h1
     cases he:r.2.2.2==0
     ·have he1:¬r.2.2.2=0:=by simpa using he
      have he2:(r.2.2.2 != 0)=true:=by simpa using he1
      rw [if_neg he1]
      exact Rel.fail _ (by simp [F_z_16,hA,Cl.row,hc,hB,hF,h1,he2,zrow])
     ·have he1:r.2.2.2=0:=by simpa using he
      rw [if_pos he1]
      refine ⟨s',?_,h2,h3⟩
      simp [F_z_16,hA,Cl.row,hc,hB,hF,h1,he1]
  ·rw [if_pos rfl]
   unfold cbad at hc
   exact Rel.fail 2 (by simp [F_z_16,hA,Cl.row,hc,zrow])
theorem ev_rEnabled (nm:D) (k sz ot:Int) (s:S) (c:Cl) (hw:s.wf) (hz:s.sz) :
  ev P (.call z_19 [.d (.ag [nm,I' k,I' sz,I' ot]),.d (.ag s.row),.d (.ag c.row)] [])=some (.val (.d (.b ((effF k sz ot s.pl c).2.2.2==0))) []):=by
 obtain ⟨s',h1,h2,h3⟩:=ev_rEffect nm k sz ot s c hw hz
 generalize effF k sz ot s.pl c=r at *
 simp only [S.row,Cl.row] at h1
 rw [ev_call P_z_19 rfl]
 simp [F_z_19,Cl.row,h1]
end Go.VS.Sp
namespace Go.VS.Sp
theorem ev_fail (e:Int):ev P (.call z_36 [.d (I' e)] [])=some (.val (.tu [.d (.ag zrow),.d (I' 0),.d (.b false),.d (I' e)]) []):=by
 rw [ev_call P_z_36 rfl]
 simp [F_z_36,zrow]
theorem ev_of1:ev P (.call z_37 [.d (I' 1)] [])=some (.val (.tu [.d (.ifc 101 (.ag [.fn z_62 [] [],.fn z_63 [] []])),.d (.b true)]) []):=by
 rw [ev_call P_z_37 rfl]
 simp [F_z_37,mkiV]
theorem ev_of2:ev P (.call z_37 [.d (I' 2)] [])=some (.val (.tu [.d (.ifc 102 (.ag [.fn z_67 [] [],.fn z_68 [] []])),.d (.b true)]) []):=by
 rw [ev_call P_z_37 rfl]
 simp [F_z_37,mkiV]
theorem ev_of4:ev P (.call z_37 [.d (I' 4)] [])=some (.val (.tu [.d (.ifc 103 (.ag [.fn z_72 [] [],.fn z_73 [] []])),.d (.b true)]) []):=by
 rw [ev_call P_z_37 rfl]
 simp [F_z_37,mkiV]
theorem ev_of5:ev P (.call z_37 [.d (I' 5)] [])=some (.val (.tu [.d (.ifc 104 (.ag [.fn z_77 [] [],.fn z_78 [] []])),.d (.b true)]) []):=by
 rw [ev_call P_z_37 rfl]
 simp [F_z_37,mkiV]
theorem ev_of6:ev P (.call z_37 [.d (I' 6)] [])=some (.val (.tu [.d (.ifc 105 (.ag [.fn z_82 [] [],.fn z_83 [] []])),.d (.b true)]) []):=by
 rw [ev_call P_z_37 rfl]
 simp [F_z_37,mkiV]
theorem ev_of7:ev P (.call z_37 [.d (I' 7)] [])=some (.val (.tu [.d (.ifc 106 (.ag [.fn z_87 [] [],.fn z_88 [] []])),.d (.b true)]) []):=by
 rw [ev_call P_z_37 rfl]
 simp [F_z_37,mkiV]
theorem ev_of8:ev P (.call z_37 [.d (I' 8)] [])=some (.val (.tu [.d (.ifc 107 (.ag [.fn z_92 [] [],.fn z_93 [] []])),.d (.b true)]) []):=by
 rw [ev_call P_z_37 rfl]
 simp [F_z_37,mkiV]
theorem ev_of9:ev P (.call z_37 [.d (I' 9)] [])=some (.val (.tu [.d (.ifc 108 (.ag [.fn z_97 [] [],.fn z_98 [] []])),.d (.b true)]) []):=by
 rw [ev_call P_z_37 rfl]
 simp [F_z_37,mkiV]
theorem ev_ofU {k:Int} (h:¬(k=1∨k=2∨k=4∨k=5∨k=6∨k=7∨k=8∨k=9)):ev P (.call z_37 [.d (I' k)] [])=some (.val (.tu [.d .nilifc,.d (.b false)]) []):=by
 have b1:(k==1)=false:=by simp;omega
 have b2:(k==2)=false:=by simp;omega
 have b4:(k==4)=false:=by simp;omega
 have b5:(k==5)=false:=by simp;omega
 have b6:(k==6)=false:=by simp;omega
 have b7:(k==7)=false:=by simp;omega
 have b8:(k==8)=false:=by simp;omega
 have b9:(k==9)=false:=by simp;omega
 rw [ev_call P_z_37 rfl]
 simp [F_z_37,b1,b2,b4,b5,b6,b7,b8,b9]
theorem ev_ops1:ev P (.call z_38 [.d (I' 1)] [])=some (.val (.mp 0) [.mp [(I' 50,.d (I' 0)),(I' 51,.d (I' 0)),(I' 52,.d (I' 0))]]):=by
 rw [ev_call P_z_38 rfl]
 simp [F_z_38,endH,reachC,cut,List.idxOf_cons]
theorem ev_ops2:ev P (.call z_38 [.d (I' 2)] [])=some (.val (.mp 0) [.mp [(I' 53,.d (I' 0)),(I' 54,.d (I' 0)),(I' 55,.d (I' 0)),(I' 56,.d (I' 0))]]):=by
 rw [ev_call P_z_38 rfl]
 simp [F_z_38,endH,reachC,cut,List.idxOf_cons]
theorem ev_ops4:ev P (.call z_38 [.d (I' 4)] [])=some (.val (.mp 0) [.mp [(I' 60,.d (I' 1)),(I' 61,.d (I' 1)),(I' 62,.d (I' 1))]]):=by
 rw [ev_call P_z_38 rfl]
 simp [F_z_38,endH,reachC,cut,List.idxOf_cons]
theorem ev_ops5:ev P (.call z_38 [.d (I' 5)] [])=some (.val (.mp 0) [.mp [(I' 63,.d (I' 0))]]):=by
 rw [ev_call P_z_38 rfl]
 simp [F_z_38,endH,reachC,cut,List.idxOf_cons]
theorem ev_ops6:ev P (.call z_38 [.d (I' 6)] [])=some (.val (.mp 0) [.mp [(I' 64,.d (I' 2)),(I' 65,.d (I' 0)),(I' 66,.d (I' 0))]]):=by
 rw [ev_call P_z_38 rfl]
 simp [F_z_38,endH,reachC,cut,List.idxOf_cons]
theorem ev_ops7:ev P (.call z_38 [.d (I' 7)] [])=some (.val (.mp 0) [.mp [(I' 68,.d (I' 2)),(I' 69,.d (I' 0)),(I' 70,.d (I' 0)),(I' 71,.d (I' 0))]]):=by
 rw [ev_call P_z_38 rfl]
 simp [F_z_38,endH,reachC,cut,List.idxOf_cons]
theorem ev_ops8:ev P (.call z_38 [.d (I' 8)] [])=some (.val (.mp 0) [.mp [(I' 72,.d (I' 1)),(I' 75,.d (I' 0))]]):=by
 rw [ev_call P_z_38 rfl]
 simp [F_z_38,endH,reachC,cut,List.idxOf_cons]
theorem ev_ops9:ev P (.call z_38 [.d (I' 9)] [])=some (.val (.mp 0) [.mp [(I' 73,.d (I' 2)),(I' 74,.d (I' 0))]]):=by
 rw [ev_call P_z_38 rfl]
 simp [F_z_38,endH,reachC,cut,List.idxOf_cons]
end Go.VS.Sp
namespace Go.VS.Sp
set_option maxHeartbeats 4000000 in
theorem ev_Effect1 (nm:D) (sz ot:Int) (s:S) (c:Cl) (hw:s.wf) (hz:s.sz) :
  Rel (ev P (.call z_15 [.d (.ag [nm,I' 1,I' sz,I' ot]),.d (.ag s.row),.d (.ag c.row)] [])) (effF 1 sz ot s.pl c):=by
 unfold effF
 rw [absB_pl]
 rw [ev_call P_z_15 rfl]
 by_cases hq:s.Q=[]
 ·have hA:=ev_abs1 nm sz ot s hq hz.sm
  simp only [S.row,hq] at hA
  cases ha:absB 1 sz ot s
  ·rw [ha] at hA
   rw [if_pos rfl]
   exact Rel.fail 1 (by simp [F_z_15,Cl.row,ev_of1,hq,hA,invV,ev_fail,zrow])
  ·rw [ha] at hA
   rw [if_neg (by decide)]
   cases hc:cbad c
   ·rw [if_neg (by decide)]
    have hc2:=hc
    have hE:=fun hb hf=>effI1 nm sz ot s c hw hz ha hc2 hb hf
    unfold cbad at hc
    obtain ⟨tk,op,va,pr,nw⟩:=c
    simp only at hc
    by_cases h50:op=50
    ·subst h50
     have hb:blg 1 50=true:=by decide
     simp only [hb]
     rw [if_neg (by decide)]
     have hf:fit 1 sz ⟨tk,50,va,pr,nw⟩=true:=by simp [fit]
     rw [hf,if_neg (by decide)]
     obtain ⟨s',h1,h2,h3⟩:=hE hb hf
     generalize raw 1 sz ot s.pl ⟨tk,50,va,pr,nw⟩=r at *
     simp only [S.row,Cl.row,hq] at h1
     cases he:r.2.2.2==0
     ·have he1:¬r.2.2.2=0:=by simpa using he
      have he2:(r.2.2.2 != 0)=true:=by simpa using he1
      rw [if_neg he1]
      exact Rel.fail _ (by simp [F_z_15,Cl.row,ev_of1,hq,hA,hc,ev_ops1,invV,h1,he2,ev_fail,zrow,callD,reachC,cut,List.idxOf_cons])
     ·have he1:r.2.2.2=0:=by simpa using he
      rw [if_pos he1]
      refine ⟨s',?_,h2,h3⟩
      simp [F_z_15,Cl.row,ev_of1,hq,hA,hc,ev_ops1,invV,h1,he1,zrow,callD,reachC,cut,List.idxOf_cons]
    by_cases h51:op=51
    ·subst h51
     have hb:blg 1 51=true:=by decide
     simp only [hb]
     rw [if_neg (by decide)]
     have hf:fit 1 sz ⟨tk,51,va,pr,nw⟩=true:=by simp [fit]
     rw [hf,if_neg (by decide)]
     obtain ⟨s',h1,h2,h3⟩:=hE hb hf
     generalize raw 1 sz ot s.pl ⟨tk,51,va,pr,nw⟩=r at *
     simp only [S.row,Cl.row,hq] at h1
     cases he:r.2.2.2==0
     ·have he1:¬r.2.2.2=0:=by simpa using he
      have he2:(r.2.2.2 != 0)=true:=by simpa using he1
      rw [if_neg he1]
      exact Rel.fail _ (by simp [F_z_15,Cl.row,ev_of1,hq,hA,hc,ev_ops1,invV,h1,he2,ev_fail,zrow,callD,reachC,cut,List.idxOf_cons])
     ·have he1:r.2.2.2=0:=by simpa using he
      rw [if_pos he1]
      refine ⟨s',?_,h2,h3⟩
      simp [F_z_15,Cl.row,ev_of1,hq,hA,hc,ev_ops1,invV,h1,he1,zrow,callD,reachC,cut,List.idxOf_cons]
    by_cases h52:op=52
    ·subst h52
     have hb:blg 1 52=true:=by decide
     simp only [hb]
     rw [if_neg (by decide)]
     have hf:fit 1 sz ⟨tk,52,va,pr,nw⟩=true:=by simp [fit]
     rw [hf,if_neg (by decide)]
     obtain ⟨s',h1,h2,h3⟩:=hE hb hf
     generalize raw 1 sz ot s.pl ⟨tk,52,va,pr,nw⟩=r at *
     simp only [S.row,Cl.row,hq] at h1
     cases he:r.2.2.2==0
     ·have he1:¬r.2.2.2=0:=by simpa using he
      have he2:(r.2.2.2 != 0)=true:=by simpa using he1
      rw [if_neg he1]
      exact Rel.fail _ (by simp [F_z_15,Cl.row,ev_of1,hq,hA,hc,ev_ops1,invV,h1,he2,ev_fail,zrow,callD,reachC,cut,List.idxOf_cons])
     ·have he1:r.2.2.2=0:=by simpa using he
      rw [if_pos he1]
      refine ⟨s',?_,h2,h3⟩
      simp [F_z_15,Cl.row,ev_of1,hq,hA,hc,ev_ops1,invV,h1,he1,zrow,callD,reachC,cut,List.idxOf_cons]
    have hb:blg 1 op=false:=by
     cases hh:blg 1 op
     ·rfl
     ·exfalso
      simp [blg] at hh
      omega
    simp only [hb]
    rw [if_pos trivial]
    exact Rel.fail 8 (by simp [F_z_15,Cl.row,ev_of1,hq,hA,hc,ev_ops1,h50,h51,h52,invV,ev_fail,zrow,callD,reachC,cut,List.idxOf_cons])
   ·rw [if_pos rfl]
    unfold cbad at hc
    exact Rel.fail 2 (by simp [F_z_15,Cl.row,ev_of1,hq,hA,hc,invV,ev_fail,zrow])
 ·have ha:absB 1 sz ot s=false:=by
   cases hh:absB 1 sz ot s
   ·rfl
   ·exact absurd (abs_of hh).2.1 hq
  rw [ha,if_pos rfl]
  have hp:0<s.Q.length:=List.length_pos_iff.2 hq
  exact Rel.fail 1 (by simp [F_z_15,Cl.row,ev_of1,hp,ev_fail,zrow])
end Go.VS.Sp
namespace Go.VS.Sp
set_option maxHeartbeats 4000000 in
theorem ev_Effect2 (nm:D) (sz ot:Int) (s:S) (c:Cl) (hw:s.wf) (hz:s.sz) :
  Rel (ev P (.call z_15 [.d (.ag [nm,I' 2,I' sz,I' ot]),.d (.ag s.row),.d (.ag c.row)] [])) (effF 2 sz ot s.pl c):=by
 unfold effF
 rw [absB_pl]
 rw [ev_call P_z_15 rfl]
 by_cases hq:s.Q=[]
 ·have hA:=ev_abs2 nm sz ot s hq hz.sm
  simp only [S.row,hq] at hA
  cases ha:absB 2 sz ot s
  ·rw [ha] at hA
   rw [if_pos rfl]
   exact Rel.fail 1 (by simp [F_z_15,Cl.row,ev_of2,hq,hA,invV,ev_fail,zrow])
  ·rw [ha] at hA
   rw [if_neg (by decide)]
   cases hc:cbad c
   ·rw [if_neg (by decide)]
    have hc2:=hc
    have hE:=fun hb hf=>effI2 nm sz ot s c hw hz ha hc2 hb hf
    unfold cbad at hc
    obtain ⟨tk,op,va,pr,nw⟩:=c
    simp only at hc
    by_cases h53:op=53
    ·subst h53
     have hb:blg 2 53=true:=by decide
     simp only [hb]
     rw [if_neg (by decide)]
     have hf:fit 2 sz ⟨tk,53,va,pr,nw⟩=true:=by simp [fit]
     rw [hf,if_neg (by decide)]
     obtain ⟨s',h1,h2,h3⟩:=hE hb hf
     generalize raw 2 sz ot s.pl ⟨tk,53,va,pr,nw⟩=r at *
     simp only [S.row,Cl.row,hq] at h1
     cases he:r.2.2.2==0
     ·have he1:¬r.2.2.2=0:=by simpa using he
      have he2:(r.2.2.2 != 0)=true:=by simpa using he1
      rw [if_neg he1]
      exact Rel.fail _ (by simp [F_z_15,Cl.row,ev_of2,hq,hA,hc,ev_ops2,invV,h1,he2,ev_fail,zrow,callD,reachC,cut,List.idxOf_cons])
     ·have he1:r.2.2.2=0:=by simpa using he
      rw [if_pos he1]
      refine ⟨s',?_,h2,h3⟩
      simp [F_z_15,Cl.row,ev_of2,hq,hA,hc,ev_ops2,invV,h1,he1,zrow,callD,reachC,cut,List.idxOf_cons]
    by_cases h54:op=54
    ·subst h54
     have hb:blg 2 54=true:=by decide
     simp only [hb]
     rw [if_neg (by decide)]
     have hf:fit 2 sz ⟨tk,54,va,pr,nw⟩=true:=by simp [fit]
     rw [hf,if_neg (by decide)]
     obtain ⟨s',h1,h2,h3⟩:=hE hb hf
     generalize raw 2 sz ot s.pl ⟨tk,54,va,pr,nw⟩=r at *
     simp only [S.row,Cl.row,hq] at h1
     cases he:r.2.2.2==0
     ·have he1:¬r.2.2.2=0:=by simpa using he
      have he2:(r.2.2.2 != 0)=true:=by simpa using he1
      rw [if_neg he1]
      exact Rel.fail _ (by simp [F_z_15,Cl.row,ev_of2,hq,hA,hc,ev_ops2,invV,h1,he2,ev_fail,zrow,callD,reachC,cut,List.idxOf_cons])
     ·have he1:r.2.2.2=0:=by simpa using he
      rw [if_pos he1]
      refine ⟨s',?_,h2,h3⟩
      simp [F_z_15,Cl.row,ev_of2,hq,hA,hc,ev_ops2,invV,h1,he1,zrow,callD,reachC,cut,List.idxOf_cons]
    by_cases h55:op=55
    ·subst h55
     have hb:blg 2 55=true:=by decide
     simp only [hb]
     rw [if_neg (by decide)]
     have hf:fit 2 sz ⟨tk,55,va,pr,nw⟩=true:=by simp [fit]
     rw [hf,if_neg (by decide)]
     obtain ⟨s',h1,h2,h3⟩:=hE hb hf
     generalize raw 2 sz ot s.pl ⟨tk,55,va,pr,nw⟩=r at *
     simp only [S.row,Cl.row,hq] at h1
     cases he:r.2.2.2==0
     ·have he1:¬r.2.2.2=0:=by simpa using he
      have he2:(r.2.2.2 != 0)=true:=by simpa using he1
      rw [if_neg he1]
      exact Rel.fail _ (by simp [F_z_15,Cl.row,ev_of2,hq,hA,hc,ev_ops2,invV,h1,he2,ev_fail,zrow,callD,reachC,cut,List.idxOf_cons])
     ·have he1:r.2.2.2=0:=by simpa using he
      rw [if_pos he1]
      refine ⟨s',?_,h2,h3⟩
      simp [F_z_15,Cl.row,ev_of2,hq,hA,hc,ev_ops2,invV,h1,he1,zrow,callD,reachC,cut,List.idxOf_cons]
    by_cases h56:op=56
    ·subst h56
     have hb:blg 2 56=true:=by decide
     simp only [hb]
     rw [if_neg (by decide)]
     have hf:fit 2 sz ⟨tk,56,va,pr,nw⟩=true:=by simp [fit]
     rw [hf,if_neg (by decide)]
     obtain ⟨s',h1,h2,h3⟩:=hE hb hf
     generalize raw 2 sz ot s.pl ⟨tk,56,va,pr,nw⟩=r at *
     simp only [S.row,Cl.row,hq] at h1
     cases he:r.2.2.2==0
     ·have he1:¬r.2.2.2=0:=by simpa using he
      have he2:(r.2.2.2 != 0)=true:=by simpa using he1
      rw [if_neg he1]
      exact Rel.fail _ (by simp [F_z_15,Cl.row,ev_of2,hq,hA,hc,ev_ops2,invV,h1,he2,ev_fail,zrow,callD,reachC,cut,List.idxOf_cons])
     ·have he1:r.2.2.2=0:=by simpa using he
      rw [if_pos he1]
      refine ⟨s',?_,h2,h3⟩
      simp [F_z_15,Cl.row,ev_of2,hq,hA,hc,ev_ops2,invV,h1,he1,zrow,callD,reachC,cut,List.idxOf_cons]
    have hb:blg 2 op=false:=by
     cases hh:blg 2 op
     ·rfl
     ·exfalso
      simp [blg] at hh
      omega
    simp only [hb]
    rw [if_pos trivial]
    exact Rel.fail 8 (by simp [F_z_15,Cl.row,ev_of2,hq,hA,hc,ev_ops2,h53,h54,h55,h56,invV,ev_fail,zrow,callD,reachC,cut,List.idxOf_cons])
   ·rw [if_pos rfl]
    unfold cbad at hc
    exact Rel.fail 2 (by simp [F_z_15,Cl.row,ev_of2,hq,hA,hc,invV,ev_fail,zrow])
 ·have ha:absB 2 sz ot s=false:=by
   cases hh:absB 2 sz ot s
   ·rfl
   ·exact absurd (abs_of hh).2.1 hq
  rw [ha,if_pos rfl]
  have hp:0<s.Q.length:=List.length_pos_iff.2 hq
  exact Rel.fail 1 (by simp [F_z_15,Cl.row,ev_of2,hp,ev_fail,zrow])
end Go.VS.Sp
namespace Go.VS.Sp
set_option maxHeartbeats 4000000 in
theorem ev_Effect4 (nm:D) (sz ot:Int) (s:S) (c:Cl) (hw:s.wf) (hz:s.sz) :
  Rel (ev P (.call z_15 [.d (.ag [nm,I' 4,I' sz,I' ot]),.d (.ag s.row),.d (.ag c.row)] [])) (effF 4 sz ot s.pl c):=by
 unfold effF
 rw [absB_pl]
 rw [ev_call P_z_15 rfl]
 by_cases hq:s.Q=[]
 ·have hA:=ev_abs4 nm sz ot s hq hz.sm
  simp only [S.row,hq] at hA
  cases ha:absB 4 sz ot s
  ·rw [ha] at hA
   rw [if_pos rfl]
   exact Rel.fail 1 (by simp [F_z_15,Cl.row,ev_of4,hq,hA,invV,ev_fail,zrow])
  ·rw [ha] at hA
   rw [if_neg (by decide)]
   cases hc:cbad c
   ·rw [if_neg (by decide)]
    have hc2:=hc
    have hE:=fun hb hf=>effI4 nm sz ot s c hw hz ha hc2 hb hf
    unfold cbad at hc
    obtain ⟨tk,op,va,pr,nw⟩:=c
    simp only at hc
    by_cases h60:op=60
    ·subst h60
     have hb:blg 4 60=true:=by decide
     simp only [hb]
     rw [if_neg (by decide)]
     cases hv:(decide (va<1)||decide (sz<va))
     ·have hf:fit 4 sz ⟨tk,60,va,pr,nw⟩=true:=by
       simp at hv
       simp [fit,num]
       omega
      rw [hf,if_neg (by decide)]
      obtain ⟨s',h1,h2,h3⟩:=hE hb hf
      generalize raw 4 sz ot s.pl ⟨tk,60,va,pr,nw⟩=r at *
      simp only [S.row,Cl.row,hq] at h1
      cases he:r.2.2.2==0
      ·have he1:¬r.2.2.2=0:=by simpa using he
       have he2:(r.2.2.2 != 0)=true:=by simpa using he1
       rw [if_neg he1]
       exact Rel.fail _ (by simp [F_z_15,Cl.row,ev_of4,hq,hA,hc,hv,ev_ops4,invV,h1,he2,ev_fail,zrow,callD,reachC,cut,List.idxOf_cons])
      ·have he1:r.2.2.2=0:=by simpa using he
       rw [if_pos he1]
       refine ⟨s',?_,h2,h3⟩
       simp [F_z_15,Cl.row,ev_of4,hq,hA,hc,hv,ev_ops4,invV,h1,he1,zrow,callD,reachC,cut,List.idxOf_cons]
     ·have hf:fit 4 sz ⟨tk,60,va,pr,nw⟩=false:=by
       cases hh:fit 4 sz ⟨tk,60,va,pr,nw⟩
       ·rfl
       ·exfalso
        simp at hv
        simp [fit,num] at hh
        omega
      rw [hf,if_pos rfl]
      exact Rel.fail 2 (by simp [F_z_15,Cl.row,ev_of4,hq,hA,hc,hv,ev_ops4,invV,ev_fail,zrow,callD,reachC,cut,List.idxOf_cons])
    by_cases h61:op=61
    ·subst h61
     have hb:blg 4 61=true:=by decide
     simp only [hb]
     rw [if_neg (by decide)]
     cases hv:(decide (va<1)||decide (sz<va))
     ·have hf:fit 4 sz ⟨tk,61,va,pr,nw⟩=true:=by
       simp at hv
       simp [fit,num]
       omega
      rw [hf,if_neg (by decide)]
      obtain ⟨s',h1,h2,h3⟩:=hE hb hf
      generalize raw 4 sz ot s.pl ⟨tk,61,va,pr,nw⟩=r at *
      simp only [S.row,Cl.row,hq] at h1
      cases he:r.2.2.2==0
      ·have he1:¬r.2.2.2=0:=by simpa using he
       have he2:(r.2.2.2 != 0)=true:=by simpa using he1
       rw [if_neg he1]
       exact Rel.fail _ (by simp [F_z_15,Cl.row,ev_of4,hq,hA,hc,hv,ev_ops4,invV,h1,he2,ev_fail,zrow,callD,reachC,cut,List.idxOf_cons])
      ·have he1:r.2.2.2=0:=by simpa using he
       rw [if_pos he1]
       refine ⟨s',?_,h2,h3⟩
       simp [F_z_15,Cl.row,ev_of4,hq,hA,hc,hv,ev_ops4,invV,h1,he1,zrow,callD,reachC,cut,List.idxOf_cons]
     ·have hf:fit 4 sz ⟨tk,61,va,pr,nw⟩=false:=by
       cases hh:fit 4 sz ⟨tk,61,va,pr,nw⟩
       ·rfl
       ·exfalso
        simp at hv
        simp [fit,num] at hh
        omega
      rw [hf,if_pos rfl]
      exact Rel.fail 2 (by simp [F_z_15,Cl.row,ev_of4,hq,hA,hc,hv,ev_ops4,invV,ev_fail,zrow,callD,reachC,cut,List.idxOf_cons])
    by_cases h62:op=62
    ·subst h62
     have hb:blg 4 62=true:=by decide
     simp only [hb]
     rw [if_neg (by decide)]
     cases hv:(decide (va<1)||decide (sz<va))
     ·have hf:fit 4 sz ⟨tk,62,va,pr,nw⟩=true:=by
       simp at hv
       simp [fit,num]
       omega
      rw [hf,if_neg (by decide)]
      obtain ⟨s',h1,h2,h3⟩:=hE hb hf
      generalize raw 4 sz ot s.pl ⟨tk,62,va,pr,nw⟩=r at *
      simp only [S.row,Cl.row,hq] at h1
      cases he:r.2.2.2==0
      ·have he1:¬r.2.2.2=0:=by simpa using he
       have he2:(r.2.2.2 != 0)=true:=by simpa using he1
       rw [if_neg he1]
       exact Rel.fail _ (by simp [F_z_15,Cl.row,ev_of4,hq,hA,hc,hv,ev_ops4,invV,h1,he2,ev_fail,zrow,callD,reachC,cut,List.idxOf_cons])
      ·have he1:r.2.2.2=0:=by simpa using he
       rw [if_pos he1]
       refine ⟨s',?_,h2,h3⟩
       simp [F_z_15,Cl.row,ev_of4,hq,hA,hc,hv,ev_ops4,invV,h1,he1,zrow,callD,reachC,cut,List.idxOf_cons]
     ·have hf:fit 4 sz ⟨tk,62,va,pr,nw⟩=false:=by
       cases hh:fit 4 sz ⟨tk,62,va,pr,nw⟩
       ·rfl
       ·exfalso
        simp at hv
        simp [fit,num] at hh
        omega
      rw [hf,if_pos rfl]
      exact Rel.fail 2 (by simp [F_z_15,Cl.row,ev_of4,hq,hA,hc,hv,ev_ops4,invV,ev_fail,zrow,callD,reachC,cut,List.idxOf_cons])
    have hb:blg 4 op=false:=by
     cases hh:blg 4 op
     ·rfl
     ·exfalso
      simp [blg] at hh
      omega
    simp only [hb]
    rw [if_pos trivial]
    exact Rel.fail 8 (by simp [F_z_15,Cl.row,ev_of4,hq,hA,hc,ev_ops4,h60,h61,h62,invV,ev_fail,zrow,callD,reachC,cut,List.idxOf_cons])
   ·rw [if_pos rfl]
    unfold cbad at hc
    exact Rel.fail 2 (by simp [F_z_15,Cl.row,ev_of4,hq,hA,hc,invV,ev_fail,zrow])
 ·have ha:absB 4 sz ot s=false:=by
   cases hh:absB 4 sz ot s
   ·rfl
   ·exact absurd (abs_of hh).2.1 hq
  rw [ha,if_pos rfl]
  have hp:0<s.Q.length:=List.length_pos_iff.2 hq
  exact Rel.fail 1 (by simp [F_z_15,Cl.row,ev_of4,hp,ev_fail,zrow])
end Go.VS.Sp
