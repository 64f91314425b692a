import Derived.Test.YtjpdopldkeodgaaGreatV01
import GoSem.Builtin.Copy
import GoSem.Builtin.Clear
import Derived.Laws.Externs
import Derived.KernelRfl
import Derived.MapKept
import Derived.Laws.MakeOwn
set_option linter.all false
namespace Go.VS
section
variable {φ:Phi}
theorem cut_spec {h:List O} {m:Nat} {roots L:List Nat} (hc:cut h m roots=some L):L.Nodup∧(∀n∈roots,n∈L)∧(∀n∈L,n<h.length∧∀k∈(hget h n).locs,k∈L)∧m≤L.length∧∀k,k<m→L[k]?=some k:=by
 unfold cut at hc
 simp only at hc
 split at hc
 ·rename_i hcond
  obtain ⟨h1,h2,h3⟩:=hcond
  simp only [Option.some.injEq] at hc
  rw [hc] at h1 h2 h3
  simp only [List.all_eq_true,decide_eq_true_eq,Bool.decide_and,Bool.and_eq_true] at h2 h3
  refine ⟨h1,h2,h3,?_,fun k hk=>?_⟩
  ·rw [←hc];simp
  ·rw [←hc,List.getElem?_append_left (by simpa using hk)]
   simp [hk]
 ·simp at hc
def gcut (g:Gh) (L:List Nat):Gh:=⟨fun k=>g.β (L.getD k 0),fun k=>g.o (L.getD k 0),g.I⟩
theorem sub_length {h:List O} {L:List Nat}:(sub h L).length=L.length:=by simp [sub]
theorem sub_get {h:List O} {L:List Nat} {k n:Nat} (hk:L[k]?=some n):hget (sub h L) k=(hget h n).ren (L.idxOf ·):=by
 simp [sub,hget,List.getD,hk]
theorem sub_out {h:List O} {L:List Nat} {k:Nat} (hk:L.length≤k):hget (sub h L) k = .dead:=by
 have:(sub h L).length≤k:=by rw [sub_length];exact hk
 simp [hget,List.getD,List.getElem?_eq_none this]
theorem ren_es {o:O} {f:Nat→Nat}:(o.ren f).es?=o.es?:=by cases o<;>rfl
theorem ren_len {o:O} {f:Nat→Nat}:(o.ren f).len=o.len:=by cases o<;>simp [O.ren,O.len]
theorem ren_live {o:O} {f:Nat→Nat}:(o.ren f).live=o.live:=by cases o<;>rfl
theorem ren_lp {o:O} {f:Nat→Nat}:(o.ren f).isLp=o.isLp:=by cases o<;>rfl
theorem env_locs {t:Nat}:∀{env:List (Nat×V)} {p:Nat×V},p∈env→t∈p.2.locs→t∈envLocs env
 | [],_,h,_=>by simp at h
 | q::r,p,h,ht=>by
  simp only [envLocs,List.mem_append]
  rcases List.mem_cons.1 h with h1 | h1
  ·subst h1;exact .inl ht
  ·exact .inr (env_locs h1 ht)
theorem idx_get {L:List Nat} {n:Nat} (hn:n∈L):L[L.idxOf n]?=some n:=by
 have hlt:=List.idxOf_lt_length_of_mem hn
 simp [List.getElem?_eq_getElem hlt]
mutual
theorem relV_ren {h:List O} {g:Gh} {w:World} {L:List Nat}:∀{x:V} {v:Value},(∀n∈x.locs,n∈L)→relV φ h g w x v→relV φ (sub h L) (gcut g L) w (x.ren (L.idxOf ·)) v
 | .u,v,_,_=>by simp [V.ren,relV]
 | .skp,v,_,hr=>by simpa [V.ren,relV] using hr
 | .d x,v,_,hr=>by simp only [V.ren,relV] at hr ⊢;exact hr
 | .loc n r c,v,hl,hr=>by
  have hn:=hl n (by simp [V.locs])
  have hg:=idx_get hn
  simp only [V.ren,relV] at hr ⊢
  refine ⟨by rw [sub_length];exact List.idxOf_lt_length_of_mem hn,hr.2.1,fun es he=>?_⟩
  rw [sub_get hg,ren_es] at he
  have:=hr.2.2 es he
  simpa [gcut,List.getD,hg] using this
 | .asl n off len,v,hl,hr=>by
  have hn:=hl n (by simp [V.locs])
  have hg:=idx_get hn
  simp only [V.ren,relV] at hr ⊢
  refine ⟨by rw [sub_length];exact List.idxOf_lt_length_of_mem hn,hr.2.1,fun es he=>?_⟩
  rw [sub_get hg,ren_es] at he
  rw [sub_get hg,ren_len]
  have:=hr.2.2 es he
  simpa [gcut,List.getD,hg] using this
 | .aslx n off len,v,hl,hr=>by
  have hn:=hl n (by simp [V.locs])
  have hg:=idx_get hn
  simp only [V.ren,relV] at hr ⊢
  refine ⟨by rw [sub_length];exact List.idxOf_lt_length_of_mem hn,hr.2.1,fun es he=>?_⟩
  rw [sub_get hg,ren_es] at he
  rw [sub_get hg,ren_len]
  have:=hr.2.2 es he
  simpa [gcut,List.getD,hg] using this
 | .sl0 _,v,_,hr=>by simpa only [V.ren,relV] using hr
 | .mp n,v,hl,hr=>by
  have hn:=hl n (by simp [V.locs])
  have hg:=idx_get hn
  simp only [V.ren,relV] at hr ⊢
  refine ⟨by rw [sub_length];exact List.idxOf_lt_length_of_mem hn,hr.2.1,fun kv he=>?_⟩
  rw [sub_get hg] at he
  have h2:(gcut g L).β (L.idxOf n)=g.β n:=by simp [gcut,List.getD,hg]
  rw [h2]
  cases ho:hget h n with
  | mp kv0=>exact hr.2.2 kv0 ho
  | _=>rw [ho] at he;simp [O.ren] at he
 | .rf cs,v,hl,hr=>by
  simp only [V.ren,relV] at hr ⊢
  obtain ⟨b,off,us,h1,h2,h3,h4⟩:=hr
  refine ⟨b,off,us,h1,?_,relVs_ren (fun n hn=>hl n (by simpa [V.locs] using hn)) h3,h4⟩
  have hlen:∀{f:Nat→Nat} {xs:List V},(V.renL f xs).length=xs.length:=by
   intro f xs
   induction xs with
   | nil=>rfl
   | cons x xs ih=>simp [V.renL,ih]
  rw [hlen];exact h2
 | .yld n,v,hl,hr=>by
  have hn:=hl n (by simp [V.locs])
  have hg:=idx_get hn
  simp only [V.ren,relV] at hr ⊢
  refine ⟨by rw [sub_length];exact List.idxOf_lt_length_of_mem hn,hr.2.1,fun he=>?_⟩
  rw [sub_get hg,ren_lp] at he
  have h2:(gcut g L).β (L.idxOf n)=g.β n:=by simp [gcut,List.getD,hg]
  rw [h2]
  exact hr.2.2 he
 | .fn f a b,v,hl,hr=>by
  simp only [V.ren,relV] at hr ⊢
  obtain ⟨A,B,h1,h2,h3⟩:=hr
  exact ⟨A,B,h1,relVs_ren (fun n hn=>hl n (by simp [V.locs,hn])) h2,relVs_ren (fun n hn=>hl n (by simp [V.locs,hn])) h3⟩
 | .ag cs,v,hl,hr=>by
  simp only [V.ren,relV] at hr ⊢
  obtain ⟨A,h1,h2,h3⟩:=hr
  exact ⟨A,h1,relVs_ren (fun n hn=>hl n (by simpa [V.locs] using hn)) h2,h3⟩
 | .tu cs,v,hl,hr=>by
  simp only [V.ren,relV] at hr ⊢
  obtain ⟨A,h1,h2⟩:=hr
  exact ⟨A,h1,relVs_ren (fun n hn=>hl n (by simpa [V.locs] using hn)) h2⟩
theorem relVs_ren {h:List O} {g:Gh} {w:World} {L:List Nat}:∀{xs:List V} {vs:List Value},(∀n∈V.locsL xs,n∈L)→relVs φ h g w xs vs→relVs φ (sub h L) (gcut g L) w (V.renL (L.idxOf ·) xs) vs
 | [],[],_,_=>by simp [V.renL,relVs]
 | x::xs,v::vs,hl,hr=>by
  simp only [V.renL,relVs] at hr ⊢
  exact ⟨relV_ren (fun n hn=>hl n (by simp [V.locsL,hn])) hr.1,relVs_ren (fun n hn=>hl n (by simp [V.locsL,hn])) hr.2⟩
 | [],_::_,_,hr=>by simp [relVs] at hr
 | _::_,[],_,hr=>by simp [relVs] at hr
end
theorem mem_locsL {xs:List V} {x:V} {n:Nat} (hx:x∈xs) (hn:n∈x.locs):n∈V.locsL xs:=by
 induction xs with
 | nil=>simp at hx
 | cons y ys ih =>
  simp only [V.locsL,List.mem_append]
  rcases List.mem_cons.1 hx with h | h
  ·subst h;exact .inl hn
  ·exact .inr (ih h)
theorem renL_get {f:Nat→Nat}:∀{xs:List V} {j:Nat},(V.renL f xs)[j]?=(xs[j]?).map (V.ren f)
 | [],j=>by simp [V.renL]
 | x::xs,0=>by simp [V.renL]
 | x::xs,j+1=>by simpa [V.renL] using renL_get (xs:=xs) (j:=j)
theorem renL_length {f:Nat→Nat}:∀{xs:List V},(V.renL f xs).length=xs.length
 | []=>rfl
 | x::xs=>by simp [V.renL,renL_length (xs:=xs)]
theorem objRel_ren {h:List O} {g:Gh} {w:World} {L:List Nat} {b o:Nat} {x:O} (hl:∀n∈x.locs,n∈L) (hr:objRel φ h g w b o x):objRel φ (sub h L) (gcut g L) w b o (x.ren (L.idxOf ·)):=by
 cases x with
 | dead=>trivial
 | arrD es ex rows=>exact hr
 | arrV es rows =>
  simp only [O.ren,objRel] at hr ⊢
  refine ⟨by simpa using hr.1,fun r row hrow=>?_,hr.2.2⟩
  rw [List.getElem?_map,Option.map_eq_some_iff] at hrow
  obtain ⟨row0,h0,rfl⟩:=hrow
  obtain ⟨h1,h2⟩:=hr.2.1 r row0 h0
  refine ⟨by rw [renL_length];exact h1,fun j c hj=>?_⟩
  rw [renL_get,Option.map_eq_some_iff] at hj
  obtain ⟨c0,hc0,rfl⟩:=hj
  obtain ⟨v,h3,h4,h5⟩:=h2 j c0 hc0
  refine ⟨v,h3,h4,relV_ren (fun n hn=>hl n ?_) h5⟩
  simp only [O.locs,List.mem_flatMap]
  exact ⟨row0,List.mem_of_getElem? h0,mem_locsL (List.mem_of_getElem? hc0) hn⟩
 | mp kv =>
  simp only [O.ren,objRel] at hr ⊢
  obtain ⟨ES,clk,h1,h2,h3⟩:=hr
  refine ⟨ES,clk,h1,⟨by simpa using h2.1,fun i p e hp he=>?_⟩,h3⟩
  rw [List.getElem?_map,Option.map_eq_some_iff] at hp
  obtain ⟨p0,hp0,rfl⟩:=hp
  obtain ⟨h4,h5⟩:=h2.2 i p0 e hp0 he
  refine ⟨h4,relV_ren (fun n hn=>hl n ?_) h5⟩
  simp only [O.locs,List.mem_flatMap]
  exact ⟨p0,List.mem_of_getElem? hp0,hn⟩
 | lp ps a c e env =>
  simp only [O.ren,objRel] at hr ⊢
  obtain ⟨r,nt,h1,h0,h2,h3,h4,h5⟩:=hr
  refine ⟨r,nt,h1,h0,h2,h3,fun p hp=>?_,h5⟩
  simp only [envRen,List.mem_map] at hp
  obtain ⟨q,hq,rfl⟩:=hp
  exact relV_ren (fun n hn=>hl n (by simp only [O.locs];exact env_locs hq hn)) (h4 q hq)
theorem hrel_cut {h:List O} {g:Gh} {w:World} {m:Nat} {roots L:List Nat} (hc:cut h m roots=some L) (hr:HRel φ h g w):HRel φ (sub h L) (gcut g L) w:=by
 obtain ⟨hnd,_,hcl,_,_⟩:=cut_spec hc
 have hout:∀k,¬k<L.length→hget (sub h L) k = .dead:=fun k hk=>sub_out (by omega)
 refine ⟨fun k=>?_,fun a b ha hb he=>?_,hr.new⟩
 ·by_cases hk:k<L.length
  ·have hg:L[k]?=some L[k]:=by simp [hk]
   rw [sub_get hg]
   have:=objRel_ren (L:=L) (hcl L[k] (List.getElem_mem hk)).2 (hr.obj L[k])
   simpa [gcut,List.getD,hg] using this
  ·rw [hout k hk];trivial
 ·have ka:a<L.length:=by
   by_cases hk:a<L.length
   ·exact hk
   ·rw [hout a hk] at ha;simp [O.live] at ha
  have kb:b<L.length:=by
   by_cases hk:b<L.length
   ·exact hk
   ·rw [hout b hk] at hb;simp [O.live] at hb
  have ga:L[a]?=some L[a]:=by simp [ka]
  have gb:L[b]?=some L[b]:=by simp [kb]
  rw [sub_get ga,ren_live] at ha
  rw [sub_get gb,ren_live] at hb
  have:L[a]=L[b]:=hr.inj _ _ ha hb (by simpa [gcut,List.getD,ga,gb] using he)
  have i1:=List.Nodup.idxOf_getElem hnd a ka
  have i2:=List.Nodup.idxOf_getElem hnd b kb
  rw [this] at i1
  omega
theorem frame_cut {h:List O} {g:Gh} {w:World} {m:Nat} {roots L:List Nat} (hc:cut h m roots=some L):Frame m h g w (sub h L) (gcut g L) w:=by
 obtain ⟨hnd,_,hcl,hm,hpin⟩:=cut_spec hc
 refine ⟨Ext.refl _ _,Nat.le_refl _,rfl,rfl,rfl,fun n hn=>?_,fun b _ _=>⟨rfl,rfl⟩,fun n hn=>?_,fun n hn=>⟨fun es he=>?_,fun kv hk=>?_,fun hk=>?_⟩⟩
 ·simp [gcut,List.getD,hpin n hn]
 ·by_cases hk:n<L.length
  ·have hg:L[n]?=some L[n]:=by simp [hk]
   rw [sub_get hg,ren_live] at hn
   exact .inl ⟨L[n],hn,by simp [gcut,List.getD,hg]⟩
  ·rw [sub_out (by omega)] at hn;simp [O.live] at hn
 ·rw [sub_get (hpin n hn),ren_es] at he
  rw [sub_get (hpin n hn),ren_len]
  refine ⟨he,rfl,?_⟩
  have:(gcut g L).β n=g.β n:=by simp [gcut,List.getD,hpin n hn]
  exact Stays.of_eq rfl
 ·rw [sub_get (hpin n hn)] at hk
  cases ho:hget h n with
  | mp kv0=>exact ⟨kv0,rfl⟩
  | _=>rw [ho] at hk;simp [O.ren] at hk
 ·rw [sub_get (hpin n hn),ren_lp] at hk
  exact hk
theorem canonEnv_get {live:List Nat} {e:List (Nat×V)} {t:Nat}:envGet (canonEnv live e) t=if t∈live then envGet e t else .u:=by
 unfold canonEnv
 induction live with
 | nil=>simp [envGet]
 | cons d ds ih =>
  simp only [List.map_cons,envGet,List.mem_cons,ih]
  by_cases h:d=t
  ·simp [h]
  ·have h':¬t=d:=fun e=>h e.symm
   simp [h,h']
theorem envGet_ren {f:Nat→Nat} {t:Nat}:∀{e:List (Nat×V)},envGet (e.map fun p=>(p.1,p.2.ren f)) t=(envGet e t).ren f
 | []=>rfl
 | p::e=>by
  simp only [List.map_cons,envGet]
  split
  ·rfl
  ·exact envGet_ren
theorem envLocs_mem {t n:Nat}:∀{e:List (Nat×V)},n∈(envGet e t).locs→n∈envLocs e
 | [],h=>by simp [envGet,V.locs] at h
 | p::e,h=>by
  simp only [envLocs,List.mem_append]
  simp only [envGet] at h
  split at h
  ·exact .inl h
  ·exact .inr (envLocs_mem h)
theorem canon_rel {nt m dB:Nat} {s:St} {g:Gh} {a:Act} {w:World} (hs:SRel φ nt m dB s g a w) {live:List Nat} {p:List (Nat×V)×List O} (hc:canon m live s.env s.heap=some p) (ok:Bool) :
  ∃g',SRel φ nt m dB ⟨p.1,p.2,ok⟩ g' a w∧Frame m s.heap g w p.2 g' w:=by
 have key:∀{h:List O} {g:Gh} {t:Nat},relV φ h g w (envGet s.env t) (a.tmps.getD t undef)→relV φ h g w (envGet (canonEnv live s.env) t) (a.tmps.getD t undef):=by
  intro h g t hr
  rw [canonEnv_get]
  split
  ·exact hr
  ·simp [relV]
 unfold canon at hc
 split at hc
 ·rename_i hh
  simp only [Option.some.injEq] at hc
  subst hc
  rw [←hh]
  exact ⟨g,⟨fun t=>key (hs.env t),hs.heap,hs.size,hs.defers,hs.len⟩,Frame.refl _ _ _ _⟩
 ·simp only [Option.map_eq_some_iff] at hc
  obtain ⟨L,hL,rfl⟩:=hc
  obtain ⟨_,hroots,_,hm,_⟩:=cut_spec hL
  refine ⟨gcut g L,⟨fun t=>?_,hrel_cut hL hs.heap,hs.size,hs.defers.frame (frame_cut hL),by rw [sub_length];exact hm⟩,frame_cut hL⟩
  rw [envGet_ren]
  exact relV_ren (fun n hn=>hroots n (envLocs_mem hn)) (key (hs.env t))
end
end Go.VS
namespace Go.VS
section
variable {φ:Phi}
theorem freeze1_arr {h:List O} {n es:Nat} {ex:Bool} {rows:List (List D)} (hn:hget h n = .arrD es ex rows):freeze1 h n=h.set n (.arrD es false rows):=by
 simp [freeze1,hn]
theorem freeze1_other {h:List O} {n:Nat} (hn:∀es ex rows,hget h n≠.arrD es ex rows):freeze1 h n=h:=by
 unfold freeze1
 split
 ·rename_i es ex rows hh
  exact absurd hh (hn es ex rows)
 ·rfl
theorem freeze1_get {h:List O} {n k:Nat}:(∃es ex rows,k=n∧hget h k = .arrD es ex rows∧hget (freeze1 h n) k = .arrD es false rows)∨hget (freeze1 h n) k=hget h k∧(k=n→∀es ex rows,hget h k≠.arrD es ex rows):=by
 by_cases hx:∃es ex rows,hget h n = .arrD es ex rows
 ·obtain ⟨es,ex,rows,hn⟩:=hx
  rw [freeze1_arr hn]
  by_cases hk:k=n
  ·subst hk
   exact .inl ⟨es,ex,rows,rfl,hn,hget_set_same (hget_lt (by rw [hn];rfl))⟩
  ·exact .inr ⟨hget_set_other hk,fun h=>absurd h hk⟩
 ·have hne:∀es ex rows,hget h n≠.arrD es ex rows:=fun es ex rows hh=>hx ⟨es,ex,rows,hh⟩
  rw [freeze1_other hne]
  exact .inr ⟨rfl,fun h=>by subst h;exact hne⟩
theorem freeze1_rel {h:List O} {g:Gh} {w:World} (m n:Nat) (hr:HRel φ h g w):∃I',HRel φ (freeze1 h n) (g.setI I') w∧HLe h g w (freeze1 h n) (g.setI I') w∧Frame m h g w (freeze1 h n) (g.setI I') w:=by
 by_cases hx:∃es ex rows,hget h n = .arrD es ex rows
 ·obtain ⟨es,ex,rows,hn⟩:=hx
  rw [freeze1_arr hn]
  have hl:(hget h n).live=true:=by rw [hn];rfl
  have hobj:=hr.obj n
  rw [hn] at hobj
  obtain ⟨⟨CS,T,hb,hfit⟩,hrr,hI⟩:=hobj
  have hIle:g.I (g.β n)≤g.o n+es*rows.length:=by
   cases ex<;>simp at hI<;>omega
  have hE:Ext g.I w (updI g.I (g.β n) (g.o n+es*rows.length)) w:=⟨fun b=>by simp only [updI];split<;>simp_all,fun _ _ _=>rfl⟩
  have hI':∀b,b≠g.β n→updI g.I (g.β n) (g.o n+es*rows.length) b=g.I b:=fun b hb=>by simp [updI,hb]
  have hle:HLe h g w (h.set n (.arrD es false rows)) (g.setI (updI g.I (g.β n) (g.o n+es*rows.length))) w:=hle_turn hr hl (Turned.refl _ _) hE
   (fun es' he'=>⟨by rw [hn];simpa [O.es?] using he',by rw [hn];rfl,Stays.of_eq rfl⟩) (fun kv hk=>by simp at hk)
  refine ⟨_,hrel_turn hr hl (Turned.refl _ _) hle hI' ⟨⟨CS,T,hb,hfit⟩,relRows_move hE (fun _=>rfl) hrr,by simp [Gh.setI,updI]⟩,hle,frame_turn _ hl (Turned.refl _ _) hE hI' hle⟩
 ·have hne:∀es ex rows,hget h n≠.arrD es ex rows:=fun es ex rows hh=>hx ⟨es,ex,rows,hh⟩
  rw [freeze1_other hne]
  exact ⟨g.I,hr,HLe.refl h g w,Frame.refl m h g w⟩
theorem HLe.trans {h h' h'':List O} {g g' g'':Gh} {w w' w'':World} (a:HLe h g w h' g' w') (b:HLe h' g' w' h'' g'' w''):HLe h g w h'' g'' w'' where
 ext:=a.ext.trans b.ext
 len:=Nat.le_trans a.len b.len
 arr n es hn he:=by
  obtain ⟨h1,h2,h3,h4,h5⟩:=b.arr n es (Nat.lt_of_lt_of_le hn a.len) he
  obtain ⟨k1,k2,k3,k4,k5⟩:=a.arr n es hn h1
  rw [k2] at h5
  exact ⟨k1,h2.trans k2,h3.trans k3,h4.trans k4,k5.trans h5⟩
 mp n kv hn hk:=by
  obtain ⟨⟨kv',h1⟩,h2⟩:=b.mp n kv (Nat.lt_of_lt_of_le hn a.len) hk
  obtain ⟨k1,k2⟩:=a.mp n kv' hn h1
  exact ⟨k1,h2.trans k2⟩
 lp n hn hk:=by
  obtain ⟨h1,h2⟩:=b.lp n (Nat.lt_of_lt_of_le hn a.len) hk
  obtain ⟨k1,k2⟩:=a.lp n hn h1
  exact ⟨k1,h2.trans k2⟩
theorem freezeAll_rel {w:World} (m:Nat):∀(ns:List Nat) {h:List O} {g:Gh},HRel φ h g w→∃I',HRel φ (freezeAll h ns) (g.setI I') w∧HLe h g w (freezeAll h ns) (g.setI I') w∧Frame m h g w (freezeAll h ns) (g.setI I') w
 | [],h,g,hr=>⟨g.I,hr,HLe.refl h g w,Frame.refl m h g w⟩
 | n::ns,h,g,hr=>by
  obtain ⟨I1,h1,h2,h3⟩:=freeze1_rel m n hr
  obtain ⟨I2,k1,k2,k3⟩:=freezeAll_rel m ns h1
  exact ⟨I2,k1,h2.trans k2,h3.trans k3⟩
theorem freezeAll_get:∀(ns:List Nat) {h:List O} {k:Nat},hget (freezeAll h ns) k=hget h k∧(k∈ns→∀es rows,hget h k≠.arrD es true rows)∨∃es ex rows,hget h k = .arrD es ex rows∧hget (freezeAll h ns) k = .arrD es false rows
 | [],h,k=>.inl ⟨rfl,by simp⟩
 | n::ns,h,k=>by
  simp only [freezeAll]
  rcases freezeAll_get ns (h:=freeze1 h n) (k:=k) with ⟨h1,h2⟩ | ⟨es,ex,rows,h1,h2⟩
  ·rcases freeze1_get (h:=h) (n:=n) (k:=k) with ⟨es,ex,rows,e1,e2,e3⟩ | ⟨e1,e2⟩
   ·exact .inr ⟨es,ex,rows,e2,h1.trans e3⟩
   ·refine .inl ⟨h1.trans e1,fun hk es rows=>?_⟩
    rcases List.mem_cons.1 hk with hk | hk
    ·exact e2 hk es true rows
    ·rw [←e1];exact h2 hk es rows
  ·rcases freeze1_get (h:=h) (n:=n) (k:=k) with ⟨es',ex',rows',e1,e2,e3⟩ | ⟨e1,e2⟩
   ·rw [e3] at h1
    simp only [O.arrD.injEq] at h1
    obtain ⟨rfl,_,rfl⟩:=h1
    exact .inr ⟨es',ex',rows',e2,h2⟩
   ·exact .inr ⟨es,ex,rows,by rw [←e1];exact h1,h2⟩
def Frozen (h:List O) (ns:List Nat):Prop:=∀n∈ns,∀es ex rows,hget h n = .arrD es ex rows→ex=false
mutual
theorem toD_rel {h:List O} {g:Gh} {w:World} (hr:HRel φ h g w):∀{x:V} {v:Value} {d:D},Frozen h x.locs→toD h x=some d→relV φ h g w x v→relD φ g.I w d v
 | .u,v,d,_,ht,_=>by simp [toD] at ht
 | .skp,v,d,_,ht,_=>by simp [toD] at ht
 | .d x,v,d,_,ht,hv=>by simp [toD] at ht;subst ht;simpa only [relV] using hv
 | .loc n r c,v,d,hf,ht,hv=>by
  simp only [toD] at ht
  split at ht
  ·rename_i es ex rows hn
   have hex:=hf n (by simp [V.locs]) es ex rows hn
   subst hex
   simp only [Option.bind_eq_some_iff] at ht
   obtain ⟨row,hrow,ht⟩:=ht
   split at ht
   ·rename_i hc
    simp at ht
    subst ht
    have hobj:=hr.obj n
    rw [hn] at hobj
    obtain ⟨_,hrr,hI⟩:=hobj
    simp at hI
    simp only [relV] at hv
    have hv':=hv.2.2 es (by rw [hn];rfl)
    obtain ⟨h1,h2⟩:=relRows_get hrr hrow
    have hrlt:r<rows.length:=by
     rcases Nat.lt_or_ge r rows.length with h3 | h3
     ·exact h3
     ·simp [List.getElem?_eq_none h3] at hrow
    have hin:(r+1)*es≤es*rows.length:=by rw [Nat.mul_comm es];exact Nat.mul_le_mul_right es hrlt
    rw [Nat.succ_mul] at hin
    simp only [relD]
    refine ⟨_,_,hv',by simp;omega,relCells_of fun j x hj=>?_⟩
    rw [List.getElem?_drop] at hj
    have:=relCells_get h2 hj
    rwa [←Nat.add_assoc] at this
   ·simp at ht
  ·simp at ht
 | .asl n off len,v,d,hf,ht,hv=>by
  simp only [toD] at ht
  split at ht
  ·rename_i es ex rows hn
   have hex:=hf n (by simp [V.locs]) es ex rows hn
   subst hex
   split at ht
   ·rename_i hc
    simp at ht
    subst ht
    have hobj:=hr.obj n
    rw [hn] at hobj
    obtain ⟨_,hrr,hI⟩:=hobj
    simp at hI
    simp only [relV] at hv
    obtain ⟨cap,hv',hlc,_⟩:=hv.2.2 es (by rw [hn];rfl)
    simp only [relD]
    have hlen:((rows.drop off).take len).length=len:=by simp;omega
    refine ⟨_,cap,by rw [hlen];exact hv',by rw [hlen];exact hlc,fun h=>by simp at h,fun _=>⟨_,rfl,fun _=>⟨rfl,?_,relRows_take hrr hc⟩⟩⟩
    rw [hlen,hI]
    have h1:(off+len)*es≤es*rows.length:=by rw [Nat.mul_comm es];exact Nat.mul_le_mul_right es hc
    rw [Nat.add_mul] at h1
    have:es*len=len*es:=Nat.mul_comm _ _
    simp only;omega
   ·simp at ht
  ·simp at ht
 | .sl0 es,v,d,_,ht,hv=>by
  simp [toD] at ht
  subst ht
  simp only [relV] at hv
  obtain ⟨ad,rfl⟩:=hv
  simp only [relD]
  exact ⟨some ad,0,rfl,by simp,by simp,fun _=>⟨ad,rfl,by simp⟩⟩
 | .mp n,v,d,_,ht,_=>by simp [toD] at ht
 | .yld n,v,d,_,ht,_=>by simp [toD] at ht
 | .rf cs,v,d,hf,ht,hv=>by
  simp only [toD,Option.map_eq_some_iff] at ht
  obtain ⟨x,hx,rfl⟩:=ht
  simp only [relV] at hv
  obtain ⟨b,off,us,h1,h2,h3,h4⟩:=hv
  have hd:=toDs_rel hr (fun n hn=>hf n (by simpa [V.locs] using hn)) hx h3
  have e1:=relVs_length h3
  have e2:=relDs_length hd
  simp only [relD]
  exact ⟨b,off,h1,by omega,relCells_of_vals hd (fun j u hj=>(h4 j u hj).1) (fun u hu=>let ⟨j,hj,he⟩:=List.getElem_of_mem hu;(h4 j u (by simp [hj,he])).2)⟩
 | .fn f a b,v,d,hf,ht,hv=>by
  simp only [toD,Option.bind_eq_some_iff,Option.map_eq_some_iff] at ht
  obtain ⟨x,hx,y,hy,rfl⟩:=ht
  simp only [relV] at hv
  obtain ⟨A,B,h1,h2,h3⟩:=hv
  simp only [relD]
  exact ⟨A,B,h1,toDs_rel hr (fun n hn=>hf n (by simp [V.locs,hn])) hx h2,toDs_rel hr (fun n hn=>hf n (by simp [V.locs,hn])) hy h3⟩
 | .ag cs,v,d,hf,ht,hv=>by
  simp only [toD,Option.map_eq_some_iff] at ht
  obtain ⟨x,hx,rfl⟩:=ht
  simp only [relV] at hv
  obtain ⟨A,h1,h2,h3⟩:=hv
  simp only [relD]
  exact ⟨A,h1,toDs_rel hr (fun n hn=>hf n (by simpa [V.locs] using hn)) hx h2,h3⟩
 | .tu cs,v,d,_,ht,_=>by simp [toD] at ht
theorem toDs_rel {h:List O} {g:Gh} {w:World} (hr:HRel φ h g w):∀{xs:List V} {vs:List Value} {ds:List D},Frozen h (V.locsL xs)→toDs h xs=some ds→relVs φ h g w xs vs→relDs φ g.I w ds vs
 | [],[],ds,_,ht,_=>by simp [toDs] at ht;subst ht;simp [relDs]
 | x::xs,v::vs,ds,hf,ht,hv=>by
  simp only [toDs,Option.bind_eq_some_iff,Option.map_eq_some_iff] at ht
  obtain ⟨y,hy,ys,hys,rfl⟩:=ht
  simp only [relVs] at hv
  simp only [relDs]
  exact ⟨toD_rel hr (fun n hn=>hf n (by simp [V.locsL,hn])) hy hv.1,toDs_rel hr (fun n hn=>hf n (by simp [V.locsL,hn])) hys hv.2⟩
 | [],_::_,_,_,_,hv=>by simp [relVs] at hv
 | _::_,[],_,_,_,hv=>by simp [relVs] at hv
end
def SameRows (h h':List O):Prop:=∀k,hget h' k=hget h k∨∃es ex ex' rows,hget h k = .arrD es ex rows∧hget h' k = .arrD es ex' rows
mutual
theorem toD_same {h h':List O} (hs:SameRows h h'):∀(x:V),toD h' x=toD h x
 | .u=>by simp [toD]
 | .skp=>by simp [toD]
 | .d x=>by simp [toD]
 | .loc n r c=>by
  simp only [toD]
  rcases hs n with h1 | ⟨es,ex,ex',rows,h1,h2⟩
  ·rw [h1]
  ·rw [h1,h2]
 | .asl n off len=>by
  simp only [toD]
  rcases hs n with h1 | ⟨es,ex,ex',rows,h1,h2⟩
  ·rw [h1]
  ·rw [h1,h2]
 | .aslx n off len=>by simp [toD]
 | .sl0 _=>by simp [toD]
 | .mp n=>by simp [toD]
 | .yld n=>by simp [toD]
 | .rf cs=>by simp only [toD,toDs_same hs cs]
 | .fn f a b=>by simp only [toD,toDs_same hs a,toDs_same hs b]
 | .ag cs=>by simp only [toD,toDs_same hs cs]
 | .tu cs=>by simp [toD]
theorem toDs_same {h h':List O} (hs:SameRows h h'):∀(xs:List V),toDs h' xs=toDs h xs
 | []=>by simp [toDs]
 | x::xs=>by simp only [toDs,toD_same hs x,toDs_same hs xs]
end
theorem freezeAll_same (ns:List Nat) (h:List O):SameRows h (freezeAll h ns):=fun k=>by
 rcases freezeAll_get ns (h:=h) (k:=k) with ⟨h1,_⟩ | ⟨es,ex,rows,h1,h2⟩
 ·exact .inl h1
 ·exact .inr ⟨es,ex,false,rows,h1,h2⟩
theorem freezeAll_frozen (ns:List Nat) (h:List O):Frozen (freezeAll h ns) ns:=fun n hn es ex rows he=>by
 rcases freezeAll_get ns (h:=h) (k:=n) with ⟨h1,h2⟩ | ⟨es',ex',rows',h1,h2⟩
 ·cases ex with
  | false=>rfl
  | true=>rw [h1] at he;exact absurd he (h2 hn es rows)
 ·rw [h2] at he
  simp at he
  exact he.2.1
theorem SRel.frozen {nt m dB:Nat} {s:St} {g:Gh} {a:Act} {w:World} (hs:SRel φ nt m dB s g a w) (ns:List Nat) (ok:Bool):∃I',SRel φ nt m dB ⟨s.env,freezeAll s.heap ns,ok⟩ (g.setI I') a w∧HLe s.heap g w (freezeAll s.heap ns) (g.setI I') w∧Frame m s.heap g w (freezeAll s.heap ns) (g.setI I') w:=by
 obtain ⟨I',h1,h2,h3⟩:=freezeAll_rel m ns hs.heap
 exact ⟨I',⟨fun k=>relV_le h2 (hs.env k),h1,hs.size,hs.defers.frame h3,Nat.le_trans hs.len h2.len⟩,h2,h3⟩
theorem thaw_rel {nt m dB:Nat} {s:St} {g:Gh} {a:Act} {w:World} (hs:SRel φ nt m dB s g a w) {xs:List V} {vs:List Value} {ds:List D} (ht:toDs s.heap xs=some ds) (hv:relVs φ s.heap g w xs vs) (ok:Bool) :
  ∃I',SRel φ nt m dB ⟨s.env,freezeAll s.heap (V.locsL xs),ok⟩ (g.setI I') a w∧Frame m s.heap g w (freezeAll s.heap (V.locsL xs)) (g.setI I') w∧relDs φ I' w ds vs:=by
 obtain ⟨I',h1,h2,h3⟩:=hs.frozen (V.locsL xs) ok
 exact ⟨I',h1,h3,toDs_rel h1.heap (freezeAll_frozen _ _) (by rw [toDs_same (freezeAll_same _ _)];exact ht) (relVs_le h2 hv)⟩
theorem sim_thaw {nt m dB:Nat} {a:Act} {w:World}:∀(ds:List Nat) {s:St} {g:Gh},SRel φ nt m dB s g a w→(thawSlots s ds).ok=true→∃g',SRel φ nt m dB (thawSlots s ds) g' a w∧Frame m s.heap g w (thawSlots s ds).heap g' w
 | [],s,g,hs,_=>⟨g,hs,Frame.refl _ _ _ _⟩
 | d::ds,s,g,hs,hok=>by
  simp only [thawSlots] at hok ⊢
  have hok1:=thawSlots_ok ds hok
  obtain ⟨v,hh,hv⟩:=putH_spec hok1
  rw [hv] at hok ⊢
  simp only [Option.map_eq_some_iff,thaw,Prod.mk.injEq] at hv
  obtain ⟨p,⟨x,hx,rfl⟩,rfl,rfl⟩:=hv
  simp only [St.putH] at hok ⊢
  have hr:=hs.env d
  have hL:V.locsL [s.get (.t d)]=(s.get (.t d)).locs:=by simp [V.locsL]
  obtain ⟨I',h1,h2,h3⟩:=thaw_rel hs (xs:=[s.get (.t d)]) (vs:=[a.tmps.getD d undef]) (ds:=[x]) (by simp [toDs,hx]) (by simp only [relVs];exact ⟨hr,trivial⟩) s.ok
  rw [hL] at h1 h2
  simp only [relDs] at h3
  have hs':SRel φ nt m dB ⟨(d,.d x)::s.env,freezeAll s.heap (s.get (.t d)).locs,s.ok⟩ (g.setI I') a w:=by
   refine ⟨fun k=>?_,h1.heap,h1.size,h1.defers,h1.len⟩
   simp only [envGet]
   by_cases hk:d=k
   ·subst hk;rw [if_pos rfl];simp only [relV];exact h3.1
   ·rw [if_neg hk];exact h1.env k
  obtain ⟨g',k1,k2⟩:=sim_thaw ds hs' hok
  exact ⟨g',k1,h2.trans k2⟩
end
end Go.VS
namespace Go.VS
section
variable {P:Program} {φ:Phi}
variable {nt m dB:Nat} {s:St} {g:Gh} {a:Act} {w:World} {K:Act→World→Prop} {Q:Exit→Act→World→Prop} {o:Oper}
theorem setAll_length:∀{L:List Nat} {os:List O} {h:List O},(setAll h L os).length=h.length
 | [],_,_=>by simp [setAll]
 | n::L,[],_=>by simp [setAll]
 | n::L,o::os,h=>by simp [setAll,setAll_length (L:=L)]
theorem setAll_other:∀{L:List Nat} {os:List O} {h:List O} {k:Nat},k∉L→hget (setAll h L os) k=hget h k
 | [],_,_,_,_=>by simp [setAll]
 | n::L,[],_,_,_=>by simp [setAll]
 | n::L,o::os,h,k,hk=>by
  simp only [List.mem_cons,not_or] at hk
  rw [setAll,setAll_other hk.2,hget_set_other hk.1]
theorem setAll_at:∀{L:List Nat} {os:List O} {h:List O},L.Nodup→(∀n∈L,n<h.length)→L.length≤os.length→∀{i n:Nat},L[i]?=some n→hget (setAll h L os) n=hget os i
 | [],_,_,_,_,_,_,_,hi=>by simp at hi
 | n::L,[],_,_,_,hl,_,_,_=>by simp at hl
 | n::L,o::os,h,hnd,hlt,hl,i,k,hi=>by
  simp only [List.nodup_cons] at hnd
  simp only [List.length_cons] at hl
  cases i with
  | zero =>
   simp at hi
   subst hi
   rw [setAll,setAll_other hnd.1,hget_set_same (hlt n (by simp))]
   rfl
  | succ i =>
   rw [setAll,setAll_at hnd.2 (fun x hx=>by simpa using hlt x (by simp [hx])) (by omega) (i:=i) (by simpa using hi)]
   rfl
theorem hget_append_left {h h':List O} {n:Nat} (hn:n<h.length):hget (h++h') n=hget h n:=by simp [hget,List.getD,List.getElem?_append_left hn]
theorem hget_append_right {h h':List O} {n:Nat} (hn:h.length≤n):hget (h++h') n=hget h' (n - h.length):=by simp [hget,List.getD,List.getElem?_append_right hn]
theorem hget_map {h:List O} {f:O→O} (hf:f .dead = .dead) {n:Nat}:hget (h.map f) n=f (hget h n):=by
 simp only [hget,List.getD,List.getElem?_map]
 cases h[n]? with
 | none=>exact hf.symm
 | some o=>rfl
theorem hget_drop {h:List O} {k n:Nat}:hget (h.drop k) n=hget h (k+n):=by simp [hget,List.getD]
def mergeH (h:List O) (L:List Nat) (h1:List O):List O:=setAll h L (h1.map (O.ren (back L h.length)))++(h1.drop L.length).map (O.ren (back L h.length))
def mergeG (h:List O) (L:List Nat) (g g1:Gh):Gh:=⟨fun k=>if k<h.length then g.β k else g1.β (k - h.length+L.length),fun k=>if k<h.length then g.o k else g1.o (k - h.length+L.length),g1.I⟩
structure Merge (φ:Phi) (h:List O) (L:List Nat) (g:Gh) (w:World) (h1:List O) (g1:Gh) (w1:World):Prop where
 hr:HRel φ h g w
 nodup:L.Nodup
 lt:∀n∈L,n<h.length
 len:L.length≤h1.length
 hr1:HRel φ h1 g1 w1
 fr:Frame L.length (sub h L) (gcut g L) w h1 g1 w1
section
variable {h h1:List O} {L:List Nat} {g1:Gh} {w1:World}
theorem mergeH_length:(mergeH h L h1).length=h.length+(h1.length - L.length):=by simp [mergeH,setAll_length]
theorem Merge.old (_:Merge φ h L g w h1 g1 w1) {k:Nat} (hk:k<h.length) (hL:k∉L):hget (mergeH h L h1) k=hget h k:=by
 rw [mergeH,hget_append_left (by rw [setAll_length];exact hk),setAll_other hL]
theorem Merge.backlt (M:Merge φ h L g w h1 g1 w1) {i:Nat} (hi:i<h1.length):back L h.length i<(mergeH h L h1).length:=by
 rw [mergeH_length,back]
 split
 ·rename_i hlt
  have:L.getD i 0=L[i]:=by simp [List.getD,hlt]
  rw [this]
  have:=M.lt L[i] (List.getElem_mem hlt)
  omega
 ·omega
theorem Merge.at (M:Merge φ h L g w h1 g1 w1) (i:Nat):hget (mergeH h L h1) (back L h.length i)=(hget h1 i).ren (back L h.length):=by
 have hm:∀(hh:List O) (n:Nat),hget (hh.map (O.ren (back L h.length))) n=(hget hh n).ren (back L h.length):=fun hh n=>hget_map rfl
 by_cases hi:i<L.length
 ·have hg:L[i]?=some L[i]:=by simp [hi]
  have hb:back L h.length i=L[i]:=by simp [back,hi,List.getD]
  rw [hb,mergeH,hget_append_left (by rw [setAll_length];exact M.lt _ (List.getElem_mem hi)),setAll_at M.nodup M.lt (by simpa using M.len) hg,hm]
 ·have hb:back L h.length i=h.length+(i - L.length):=by simp [back,hi]
  rw [hb,mergeH,hget_append_right (by rw [setAll_length];omega),setAll_length,Nat.add_sub_cancel_left,hm,hget_drop]
  congr 2
  omega
theorem Merge.gb (M:Merge φ h L g w h1 g1 w1) (i:Nat):(mergeG h L g g1).β (back L h.length i)=g1.β i∧(mergeG h L g g1).o (back L h.length i)=g1.o i:=by
 by_cases hi:i<L.length
 ·have hg:L[i]?=some L[i]:=by simp [hi]
  have hb:back L h.length i=L[i]:=by simp [back,hi,List.getD]
  have hlt:=M.lt _ (List.getElem_mem hi)
  have hp:=M.fr.pin i hi
  simp only [gcut,List.getD,hg,Option.getD_some] at hp
  simp [mergeG,hb,hlt,hp]
 ·have hb:back L h.length i=h.length+(i - L.length):=by simp [back,hi]
  have e:i - L.length+L.length=i:=by omega
  have e2:¬h.length+(i - L.length)<h.length:=by omega
  simp [mergeG,hb,e,e2]
theorem Merge.split (M:Merge φ h L g w h1 g1 w1) (k:Nat):(k<h.length∧k∉L)∨∃i,k=back L h.length i:=by
 by_cases hk:k<h.length
 ·by_cases hL:k∈L
  ·refine .inr ⟨L.idxOf k,?_⟩
   have h1:=List.idxOf_lt_length_of_mem hL
   simp [back,h1,List.getD]
  ·exact .inl ⟨hk,hL⟩
 ·refine .inr ⟨L.length+(k - h.length),?_⟩
  rw [back,if_neg (by omega)]
  omega
theorem Merge.apart (M:Merge φ h L g w h1 g1 w1) {k:Nat} (hL:k∉L) (hl:(hget h k).live=true):∀i,(hget (sub h L) i).live=true→(gcut g L).β i≠g.β k:=by
 intro i hi hb
 by_cases hlt:i<L.length
 ·have hg:L[i]?=some L[i]:=by simp [hlt]
  rw [sub_get hg,ren_live] at hi
  simp only [gcut,List.getD,hg,Option.getD_some] at hb
  have:=M.hr.inj _ _ hi hl hb
  exact hL (this▸List.getElem_mem hlt)
 ·rw [sub_out (by omega)] at hi;simp [O.live] at hi
theorem Merge.hle (M:Merge φ h L g w h1 g1 w1):HLe h g w (mergeH h L h1) (mergeG h L g g1) w1 where
 ext:=M.fr.ext
 len:=by rw [mergeH_length];omega
 arr n es hn he:=by
  refine ⟨?_,by simp [mergeG,hn],by simp [mergeG,hn],?_⟩
  all_goals
   by_cases hL:n∈L
   ·have hi:=List.idxOf_lt_length_of_mem hL
    have hg:=idx_get hL
    have hb:back L h.length (L.idxOf n)=n:=by simp [back,hi,List.getD]
    have e1:=M.at (L.idxOf n)
    rw [hb] at e1
    rw [e1,ren_es] at he
    obtain ⟨k1,k2,k3⟩:=(M.fr.les _ hi).arr es he
    rw [sub_get hg] at k1 k2
    rw [ren_es] at k1
    rw [ren_len] at k2
    simp only [gcut,List.getD,hg,Option.getD_some] at k3
    first
     | exact k1
     | (rw [e1,ren_len];exact ⟨k2,k3⟩)
   ·rw [M.old hn hL] at he
    have hl:=es_live he
    have hk:=M.fr.keep (g.β n) (M.hr.block hl) (M.apart hL hl)
    first
     | exact he
     | (rw [M.old hn hL];exact ⟨rfl,Stays.of_eq hk.1⟩)
 mp n kv hn hk:=by
  refine ⟨?_,by simp [mergeG,hn]⟩
  by_cases hL:n∈L
  ·have hi:=List.idxOf_lt_length_of_mem hL
   have hg:=idx_get hL
   have hb:back L h.length (L.idxOf n)=n:=by simp [back,hi,List.getD]
   have e1:=M.at (L.idxOf n)
   rw [hb,hk] at e1
   cases ho:hget h1 (L.idxOf n) with
   | mp kv1 =>
    obtain ⟨kv2,h2⟩:=(M.fr.les _ hi).mp kv1 ho
    rw [sub_get hg] at h2
    cases hq:hget h n with
    | mp kv3=>exact ⟨kv3,rfl⟩
    | _=>rw [hq] at h2;simp [O.ren] at h2
   | _=>rw [ho] at e1;simp [O.ren] at e1
  ·rw [M.old hn hL] at hk
   exact ⟨kv,hk⟩
 lp n hn hk:=by
  refine ⟨?_,by simp [mergeG,hn]⟩
  by_cases hL:n∈L
  ·have hi:=List.idxOf_lt_length_of_mem hL
   have hg:=idx_get hL
   have hb:back L h.length (L.idxOf n)=n:=by simp [back,hi,List.getD]
   have e1:=M.at (L.idxOf n)
   rw [hb] at e1
   rw [e1,ren_lp] at hk
   have h2:=(M.fr.les _ hi).lp hk
   rwa [sub_get hg,ren_lp] at h2
  ·rwa [M.old hn hL] at hk
mutual
theorem Merge.relV (M:Merge φ h L g w h1 g1 w1):∀{x:V} {v:Value},relV φ h1 g1 w1 x v→relV φ (mergeH h L h1) (mergeG h L g g1) w1 (x.ren (back L h.length)) v
 | .u,v,_=>by simp [V.ren,VS.relV]
 | .skp,v,hr=>by simpa [V.ren,VS.relV] using hr
 | .d x,v,hr=>by simp only [V.ren,VS.relV] at hr ⊢;exact hr
 | .loc n r c,v,hr=>by
  simp only [V.ren,VS.relV] at hr ⊢
  refine ⟨M.backlt hr.1,hr.2.1,fun es he=>?_⟩
  rw [M.at,ren_es] at he
  rw [(M.gb n).1,(M.gb n).2]
  exact hr.2.2 es he
 | .asl n off len,v,hr=>by
  simp only [V.ren,VS.relV] at hr ⊢
  refine ⟨M.backlt hr.1,hr.2.1,fun es he=>?_⟩
  rw [M.at,ren_es] at he
  rw [(M.gb n).1,(M.gb n).2,M.at,ren_len]
  exact hr.2.2 es he
 | .aslx n off len,v,hr=>by
  simp only [V.ren,VS.relV] at hr ⊢
  refine ⟨M.backlt hr.1,hr.2.1,fun es he=>?_⟩
  rw [M.at,ren_es] at he
  rw [(M.gb n).1,(M.gb n).2,M.at,ren_len]
  exact hr.2.2 es he
 | .sl0 _,v,hr=>by simpa only [V.ren,VS.relV] using hr
 | .mp n,v,hr=>by
  simp only [V.ren,VS.relV] at hr ⊢
  refine ⟨M.backlt hr.1,hr.2.1,fun kv he=>?_⟩
  rw [M.at] at he
  rw [(M.gb n).1]
  cases ho:hget h1 n with
  | mp kv0=>exact hr.2.2 kv0 ho
  | _=>rw [ho] at he;simp [O.ren] at he
 | .rf cs,v,hr=>by
  simp only [V.ren,VS.relV] at hr ⊢
  obtain ⟨b,off,us,h1,h2,h3,h4⟩:=hr
  exact ⟨b,off,us,h1,by rw [renL_length];exact h2,M.relVs h3,h4⟩
 | .yld n,v,hr=>by
  simp only [V.ren,VS.relV] at hr ⊢
  refine ⟨M.backlt hr.1,hr.2.1,fun he=>?_⟩
  rw [M.at,ren_lp] at he
  rw [(M.gb n).1]
  exact hr.2.2 he
 | .fn f a b,v,hr=>by
  simp only [V.ren,VS.relV] at hr ⊢
  obtain ⟨A,B,h1,h2,h3⟩:=hr
  exact ⟨A,B,h1,M.relVs h2,M.relVs h3⟩
 | .ag cs,v,hr=>by
  simp only [V.ren,VS.relV] at hr ⊢
  obtain ⟨A,h1,h2,h3⟩:=hr
  exact ⟨A,h1,M.relVs h2,h3⟩
 | .tu cs,v,hr=>by
  simp only [V.ren,VS.relV] at hr ⊢
  obtain ⟨A,h1,h2⟩:=hr
  exact ⟨A,h1,M.relVs h2⟩
theorem Merge.relVs (M:Merge φ h L g w h1 g1 w1):∀{xs:List V} {vs:List Value},relVs φ h1 g1 w1 xs vs→relVs φ (mergeH h L h1) (mergeG h L g g1) w1 (V.renL (back L h.length) xs) vs
 | [],[],_=>by simp [V.renL,VS.relVs]
 | x::xs,v::vs,hr=>by
  simp only [V.renL,VS.relVs] at hr ⊢
  exact ⟨M.relV hr.1,M.relVs hr.2⟩
 | [],_::_,hr=>by simp [VS.relVs] at hr
 | _::_,[],hr=>by simp [VS.relVs] at hr
end
theorem Merge.obj (M:Merge φ h L g w h1 g1 w1) {b o:Nat} {x:O} (hr:objRel φ h1 g1 w1 b o x):objRel φ (mergeH h L h1) (mergeG h L g g1) w1 b o (x.ren (back L h.length)):=by
 cases x with
 | dead=>trivial
 | arrD es ex rows=>exact hr
 | arrV es rows =>
  simp only [O.ren,objRel] at hr ⊢
  refine ⟨by simpa using hr.1,fun r row hrow=>?_,hr.2.2⟩
  rw [List.getElem?_map,Option.map_eq_some_iff] at hrow
  obtain ⟨row0,h0,rfl⟩:=hrow
  obtain ⟨k1,k2⟩:=hr.2.1 r row0 h0
  refine ⟨by rw [renL_length];exact k1,fun j c hj=>?_⟩
  rw [renL_get,Option.map_eq_some_iff] at hj
  obtain ⟨c0,hc0,rfl⟩:=hj
  obtain ⟨v,h3,h4,h5⟩:=k2 j c0 hc0
  exact ⟨v,h3,h4,M.relV h5⟩
 | mp kv =>
  simp only [O.ren,objRel] at hr ⊢
  obtain ⟨ES,clk,k1,k2,k3⟩:=hr
  refine ⟨ES,clk,k1,⟨by simpa using k2.1,fun i p e hp he=>?_⟩,k3⟩
  rw [List.getElem?_map,Option.map_eq_some_iff] at hp
  obtain ⟨p0,hp0,rfl⟩:=hp
  obtain ⟨h4,h5⟩:=k2.2 i p0 e hp0 he
  exact ⟨h4,M.relV h5⟩
 | lp ps a c e env =>
  simp only [O.ren,objRel] at hr ⊢
  obtain ⟨r,nt,k1,k0,k2,k3,k4,k5⟩:=hr
  refine ⟨r,nt,k1,k0,k2,k3,fun p hp=>?_,k5⟩
  simp only [envRen,List.mem_map] at hp
  obtain ⟨q,hq,rfl⟩:=hp
  exact M.relV (k4 q hq)
theorem Merge.hrel (M:Merge φ h L g w h1 g1 w1):HRel φ (mergeH h L h1) (mergeG h L g g1) w1 where
 obj k:=by
  rcases M.split k with ⟨hk,hL⟩ | ⟨i,rfl⟩
  ·rw [M.old hk hL]
   by_cases hl:(hget h k).live=true
   ·have hkeep:=M.fr.keep (g.β k) (M.hr.block hl) (M.apart hL hl)
    have:=objRel_move M.hle hkeep.1 hkeep.2 (M.hr.obj k)
    simpa [mergeG,hk] using this
   ·cases hx:hget h k<;>simp_all [O.live,objRel]
  ·rw [M.at,(M.gb i).1,(M.gb i).2]
   exact M.obj (M.hr1.obj i)
 inj x y hx hy he:=by
  have cross:∀{k i:Nat},k<h.length→k∉L→(hget h k).live=true→(hget h1 i).live=true→g.β k≠g1.β i:=by
   intro k i hk hL hl hi hb
   rcases M.fr.lives i hi with ⟨j,hj,hjb⟩ | hs
   ·exact M.apart hL hl j hj (hjb.trans hb.symm)
   ·have:=M.hr.block hl;omega
  rcases M.split x with ⟨kx,Lx⟩ | ⟨i,rfl⟩<;>rcases M.split y with ⟨ky,Ly⟩ | ⟨j,rfl⟩
  ·rw [M.old kx Lx] at hx
   rw [M.old ky Ly] at hy
   exact M.hr.inj x y hx hy (by simpa [mergeG,kx,ky] using he)
  ·rw [M.old kx Lx] at hx
   rw [M.at,ren_live] at hy
   rw [(M.gb j).1] at he
   exact absurd (by simpa [mergeG,kx] using he) (cross kx Lx hx hy)
  ·rw [M.old ky Ly] at hy
   rw [M.at,ren_live] at hx
   rw [(M.gb i).1] at he
   exact absurd (by simpa [mergeG,ky] using he.symm) (cross ky Ly hy hx)
  ·rw [M.at,ren_live] at hx hy
   rw [(M.gb i).1,(M.gb j).1] at he
   rw [M.hr1.inj i j hx hy he]
 new:=M.hr1.new
theorem Merge.frame (M:Merge φ h L g w h1 g1 w1) {m:Nat} (hm:m≤h.length):Frame m h g w (mergeH h L h1) (mergeG h L g g1) w1 where
 ext:=M.fr.ext
 size:=M.fr.size
 os:=M.fr.os
 tape:=M.fr.tape
 output:=M.fr.output
 pin n hn:=by
  have:n<h.length:=by omega
  simp [mergeG,this]
 keep b hb hn:=M.fr.keep b hb fun i hi hbi=>by
  by_cases hlt:i<L.length
  ·have hg:L[i]?=some L[i]:=by simp [hlt]
   rw [sub_get hg,ren_live] at hi
   simp only [gcut,List.getD,hg,Option.getD_some] at hbi
   exact hn _ hi hbi
  ·rw [sub_out (by omega)] at hi;simp [O.live] at hi
 lives k hk:=by
  rcases M.split k with ⟨kk,Lk⟩ | ⟨i,rfl⟩
  ·rw [M.old kk Lk] at hk
   exact .inl ⟨k,hk,by simp [mergeG,kk]⟩
  ·rw [M.at,ren_live] at hk
   rw [(M.gb i).1]
   rcases M.fr.lives i hk with ⟨j,hj,hjb⟩ | hs
   ·by_cases hlt:j<L.length
    ·have hg:L[j]?=some L[j]:=by simp [hlt]
     rw [sub_get hg,ren_live] at hj
     simp only [gcut,List.getD,hg,Option.getD_some] at hjb
     exact .inl ⟨L[j],hj,hjb⟩
    ·rw [sub_out (by omega)] at hj;simp [O.live] at hj
   ·exact .inr hs
 les n hn:=M.hle.at (by omega)
end
theorem callR_spec {rec:Rec} {h:List O} {f:Nat} {xs:List V} {v2:V} {h2:List O} (hc:callR rec h f xs=some (v2,h2)):∃L v h1,cut h 0 (V.locsL xs)=some L ∧
  rec (.call f (V.renL (L.idxOf ·) xs) (sub h L))=some (.val v h1)∧L.length≤h1.length∧v2=v.ren (back L h.length)∧h2=mergeH h L h1:=by
 unfold callR at hc
 split at hc
 ·rename_i L hL
  split at hc
  ·rename_i v h1 hr
   split at hc
   ·rename_i hl
    simp only [Option.some.injEq,Prod.mk.injEq] at hc
    exact ⟨L,v,h1,hL,hr,hl,hc.1.symm,hc.2.symm⟩
   ·simp at hc
  ·simp at hc
 ·simp at hc
theorem cut_nil (h:List O):cut h 0 []=some []:=by simp [cut,reach]
theorem locsL_D:∀{xs:List V} {ds:List D},allD xs=some ds→V.locsL xs=[]:=by
 intro xs ds hd
 rw [allD_eq hd]
 clear hd
 induction ds with
 | nil=>rfl
 | cons d ds ih=>simp [V.locsL,V.locs,ih]
theorem renL_D {f:Nat→Nat}:∀{xs:List V} {ds:List D},allD xs=some ds→V.renL f xs=xs:=by
 intro xs ds hd
 rw [allD_eq hd]
 clear hd
 induction ds with
 | nil=>rfl
 | cons d ds ih=>simp [V.renL,V.ren,ih]
theorem back_nil (m:Nat):back [] m=(m+·):=by
 funext i
 simp [back]
theorem sim_callR {rec:Rec} (hq:QuietCall P φ rec) (hs:SRel φ nt m dB s g a w) {d:Option Nat} (hd:dstMay nt o d=true) {f:Nat} {xs:List V} {args:Array Value} {v2:V} {h2:List O} (hov:callR rec s.heap f xs=some (v2,h2))
  (hr:relVs φ s.heap g w xs args.toList)
  (hrun:(execOp a.eval o).run P w=(callFunc (φ f) args).run P w) (hK:After φ nt m dB s g w (s.putHO d (some (v2,h2))) o a K):o.wp P a w K Q:=by
 obtain ⟨L,v,h1,hL,hrec,hlen,rfl,rfl⟩:=callR_spec hov
 obtain ⟨hnd,hroots,hcl,_,_⟩:=cut_spec hL
 obtain ⟨⟨fn,hf,hn,hb⟩,hcall⟩:=hq f _ _ v h1 hrec
 unfold Oper.wp
 rw [hrun,run_callFunc hf hn hb]
 simp only [Oper.upon]
 refine Calls.mono (hcall (gcut g L) w args (hrel_cut hL hs.heap) (relVs_ren hroots hr)) fun e w' h=>?_
 obtain ⟨v',g1,rfl,hH1,hrel,hfr⟩:=h
 rw [sub_length] at hfr
 have M:Merge φ s.heap L g w h1 g1 w':=⟨hs.heap,hnd,fun n hn=>(hcl n hn).1,hlen,hH1,hfr⟩
 obtain ⟨e1,e2⟩:=dstMay_spec hd
 have hs':∀ok,SRel φ nt m dB ⟨s.env,mergeH s.heap L h1,ok⟩ (mergeG s.heap L g g1) a w':=fun ok =>
  ⟨fun k=>relV_le M.hle (hs.env k),M.hrel,hs.size,hs.defers.frame (M.frame hs.len),Nat.le_trans hs.len M.hle.len⟩
 refine hK (mergeG s.heap L g g1) v' w' ?_ ?_
 ·rw [e1]
  cases d with
  | none=>exact hs' _
  | some d=>exact (hs' s.ok).putV (e2 d rfl) (M.relV hrel)
 ·cases d with
  | none=>exact M.frame hs.len
  | some d=>exact M.frame hs.len
theorem callD_R {rec:Rec} {h:List O} {f:Nat} {xs:List V} {r:V×List O} (hc:callD rec h f xs=some r):callR rec h f xs=some r:=by
 unfold callD at hc
 split at hc
 ·rename_i ds hds
  unfold callR
  rw [locsL_D hds,cut_nil]
  simp only [renL_D hds]
  have hsub:sub h []=[]:=rfl
  rw [hsub]
  split at hc
  ·rename_i v h1 hr
   simp only [Option.some.injEq] at hc
   simp only [hr,hc.symm]
   simp [back_nil,setAll]
  ·simp at hc
 ·simp at hc
theorem sim_callr (r:Bool) {rec:Rec} (hq:QuietCall P φ rec) (hs:SRel φ nt m dB s g a w) {d:Option Nat} {f:Nat} {xs:List A} (hc:chkI P φ nt o (if r then .callr d f xs else .callk d f xs)=true) (hok:(evI rec (if r then .callr d f xs else .callk d f xs) s).ok=true)
  (hK:After φ nt m dB s g w (evI rec (if r then .callr d f xs else .callk d f xs) s) o a K):o.wp P a w K Q:=by
 have hc':(dstMay nt o d&&(match o.op with
  | .call c=>(match c.callee with | .value (.func g)=>φ f==g&&chkAs φ c.args.toList xs | _=>false)
  | _=>false))=true:=by cases r<;>exact hc
 simp only [Bool.and_eq_true] at hc'
 obtain ⟨hd,h⟩:=hc'
 split at h
 ·rename_i c ho
  split at h
  ·rename_i ff hcal
   simp only [Bool.and_eq_true,beq_iff_eq] at h
   obtain ⟨rfl,hx⟩:=h
   have hrun:(execOp a.eval o).run P w=(callFunc (φ f) (c.args.map a.eval)).run P w:=by simp [execOp,ho,resolve,hcal,Act.eval,Deferred.ofValue,invoke]
   have hr:relVs φ s.heap g w (xs.map s.get) (c.args.map a.eval).toList:=by simpa using chkAs_rel hs hx
   cases r with
   | true =>
    simp only [if_true,evI] at hok hK
    obtain ⟨⟨v2,h2⟩,hv⟩:=putHO_some hok
    rw [hv] at hK
    exact sim_callR hq hs hd hv hr hrun hK
   | false =>
    simp only [Bool.false_eq_true,if_false,evI] at hok hK
    obtain ⟨⟨v2,h2⟩,hv⟩:=putHO_some hok
    rw [hv] at hK
    exact sim_callR hq hs hd (callD_R hv) hr hrun hK
  ·simp at h
 ·simp at h
theorem sim_callvr {rec:Rec} (hq:QuietCall P φ rec) (hs:SRel φ nt m dB s g a w) {d:Option Nat} {x:A} {xs:List A} (hc:chkI P φ nt o (.callvr d x xs)=true) (hok:(evI rec (.callvr d x xs) s).ok=true)
  (hK:After φ nt m dB s g w (evI rec (.callvr d x xs) s) o a K):o.wp P a w K Q:=by
 simp only [chkI,Bool.and_eq_true] at hc
 obtain ⟨hd,h⟩:=hc
 split at h
 ·rename_i c ho
  split at h
  ·rename_i y hcal
   simp only [Bool.and_eq_true] at h
   obtain ⟨hx,hxs⟩:=h
   simp only [evI] at hok hK
   have rx:=chkA_rel hs hx
   have rxs:=chkAs_rel hs hxs
   obtain ⟨⟨v2,h2⟩,hv⟩:=putHO_some hok
   rw [hv] at hK
   have key:∀{f:Nat} {A B:Array Value} {zs:List V},a.eval y = .func (.func (φ f)) A B→callR rec s.heap f zs=some (v2,h2) →
     relVs φ s.heap g w zs (A.toList++c.args.toList.map a.eval++B.toList)→o.wp P a w K Q:=by
    intro f A B zs he hz hr
    refine sim_callR hq hs hd (f:=f) (xs:=zs) (args:=A++c.args.map a.eval++B) hz (by simpa using hr) ?_ hK
    simp [execOp,ho,resolve,hcal,he,Deferred.ofValue,invoke]
   cases hxv:s.get x with
   | d z =>
    cases z with
    | fn f first caps =>
     rw [hxv] at rx hv
     simp only [relV,relD] at rx
     obtain ⟨A,B,he,hA,hB⟩:=rx
     exact key he hv (relVs_append (relVs_append (relVs_of_D hA) rxs) (relVs_of_D hB))
    | _=>rw [hxv] at hv;simp [callVal] at hv
   | fn f first caps =>
    rw [hxv] at rx hv
    simp only [relV] at rx
    obtain ⟨A,B,he,hA,hB⟩:=rx
    exact key he hv (relVs_append (relVs_append hA rxs) hB)
   | _=>rw [hxv] at hv;simp [callVal] at hv
  ·simp at h
 ·simp at h
end
end Go.VS
namespace Go.VS
section
variable {P:Program} {φ:Phi}
variable {nt m dB:Nat} {s:St} {g:Gh} {a:Act} {w:World} {K:Act→World→Prop} {Q:Exit→Act→World→Prop} {o:Oper}
theorem sim_lit0 (hs:SRel φ nt m dB s g a w) {rec:Rec} {d es:Nat} {z:List D} (hc:chkI P φ nt o (.lit0 d es z)=true)
  (hK:After φ nt m dB s g w (evI rec (.lit0 d es z) s) o a K):o.wp P a w K Q:=by
 simp only [chkI,Bool.and_eq_true] at hc
 obtain ⟨hd,h⟩:=hc
 split at h
 ·rename_i t k qs ho
  simp only [Bool.and_eq_true,decide_eq_true_eq,beq_iff_eq] at h
  obtain ⟨⟨⟨rfl,hq⟩,hpos⟩,h⟩:=h
  split at h
  ·rename_i e hu
   simp only [Bool.and_eq_true,beq_iff_eq] at h
   obtain ⟨hz,hzl⟩:=h
   obtain ⟨i,v,hi,hv,hzr,h1,hsz⟩:=zero_spec (g:=g) (w:=w) hz
   have hq':qs=#[]:=by simpa using hq
   subst hq'
   have hrun:(execOp a.eval o).run P w = .ok (.value (.slice (some ⟨w.heap.size,0,none⟩) 0 0)) (w.alloc (.cells #[] e)):=by
    have e0:(Array.map (fun _=>(default:Value)) (Array.range 0))=#[]:=by apply Array.eq_empty_of_size_eq_zero;simp
    simp [execOp,ho,Instr.buildSlice,run_underlying hu,sizeOf,typeInfo,hi,newRow,Instr.fill,pure]
    exact congrArg (fun x=>w.alloc (Obj.cells x e)) e0
   have hg:=Grew.alloc w (.cells #[] e)
   simp only [evI] at hK
   refine sim_grew hs hd (I':=g.I) hrun hg (fun b hb=>rfl) (fun b hb=>hs.heap.new b (Nat.le_trans hg.size hb)) ?_ hK
   simp only [relV]
   exact ⟨_,rfl⟩
  ·simp at h
 ·simp at h
theorem sim_appf (hs:SRel φ nt m dB s g a w) {rec:Rec} {d es:Nat} {x y:A} (hc:chkI P φ nt o (.appf d x y es)=true) (hok:(evI rec (.appf d x y es) s).ok=true)
  (hK:After φ nt m dB s g w (evI rec (.appf d x y es) s) o a K):o.wp P a w K Q:=by
 simp only [chkI,Bool.and_eq_true] at hc
 obtain ⟨hd,h⟩:=hc
 split at h
 ·rename_i c ho
  split at h
  ·rename_i x' y' t t' hcal hargs htys
   simp only [Bool.and_eq_true,decide_eq_true_eq] at h
   obtain ⟨⟨⟨hx,hy⟩,hpos⟩,ht⟩:=h
   obtain ⟨cal,args,tys⟩:=c
   simp only at hcal hargs htys
   have hargs':args=#[x',y']:=by rw [←Array.toList_inj];exact hargs
   have htys':tys=#[t,t']:=by rw [←Array.toList_inj];exact htys
   subst hcal;subst hargs';subst htys'
   split at ht
   ·rename_i e e' hu hu'
    split at ht
    ·rename_i i hi
     simp only [Bool.and_eq_true,beq_iff_eq,decide_eq_true_eq] at ht
     obtain ⟨⟨hsz,hby⟩,hzz⟩:=ht
     split at hzz
     ·rename_i z hz
      simp only [Bool.and_eq_true,beq_iff_eq,List.all_eq_true] at hzz
      obtain ⟨hzz,hz1⟩:=hzz
      subst hsz
      have rx:=chkA_rel hs hx
      have ry:=chkA_rel hs hy
      have fin:∀{u u':Value} {r:Value} {w':World},a.eval x'=u→a.eval y'=u'→(Builtin.append_ #[t,t'] o.type #[u,u']).run P w = .ok r w'→(execOp a.eval o).run P w = .ok (.value r) w':=by
       intro u u' r w' h1 h2 h3
       simp [execOp,ho,resolve,invoke,builtin,h1,h2,h3]
      simp only [evI] at hok hK
      obtain ⟨v,hv⟩:=putO_spec hok
      rw [hv] at hK
      unfold appfV at hv
      split at hv
      ·simp at hv
      ·rename_i ys hys
       obtain ⟨xa,xc,news,hey,hrl,hrd,hone,hnl,hcells⟩:=rowsD_rel hs.heap ry hys
       have hnl':news.length=ys.length*i.size:=by rw [hnl,Nat.mul_comm]
       have hcells':news≠[]→∃b off,xa=some ⟨b,off,none⟩∧∀(j:Nat) (u:Value),news[j]?=some u→w.cell? ⟨b,off+j,none⟩=some u:=by
        intro hne
        refine hcells fun h0=>hne ?_
        subst h0
        simpa using hnl
       have main:∀{base:Option Addr} {b0:Bool},a.eval x' = .slice base 0 0→ys.length≤room→(b0=true→base=none∧ys.length=0)→(ys.length=0→b0=false→∃ad,base=some ad)→v = .d (.sl i.size b0 ys)→o.wp P a w K Q:=by
        intro base b0 hex hroom hb0 hb1 hvv
        subst hvv
        by_cases h0:ys.length=0
        ·have hrun:(execOp a.eval o).run P w = .ok (.value (.slice base 0 0)) w:=by
          rw [h0] at hey
          exact fin hex hey (run_append_zero (P:=P) (w:=w) (ty:=o.type) hu hu' hi (sLen:=0) (sCap:=0) (xc:=xc) (base:=base) (xa:=xa) (Nat.le_refl _))
         have hy0:ys=[]:=List.eq_nil_of_length_eq_zero h0
         subst hy0
         refine sim_pure hs hd hrun ?_ hK
         simp only [relV,relD]
         refine ⟨base,0,rfl,by simp,fun hb=>⟨(hb0 hb).1,rfl⟩,fun hb=>?_⟩
         obtain ⟨ad,rfl⟩:=hb1 rfl hb
         exact ⟨ad,rfl,by simp⟩
        ·have hb:b0=false:=by
          cases b0 with
          | false=>rfl
          | true=>exact absurd (hb0 rfl).2 h0
         subst hb
         have hrun:=run_append_new (P:=P) (w:=w) (ty:=o.type) hu hu' hi hz (sLen:=0) (sCap:=0) (sc:=0) (base:=base) (olds:=[]) (by simp) (by simp) hnl' hcells' (xc:=xc) (by omega) (by omega) hby rfl
         have hgc:=grownCap_ge w (0+ys.length) 0 e
         have hrun':(execOp a.eval o).run P w = .ok (.value (.slice (some ⟨w.heap.size,0,none⟩) (0+ys.length) (grownCap w (0+ys.length) 0 e))) (w.drew.alloc (.cells (([]++news)++(Builtin.zeroCells z.cells (grownCap w (0+ys.length) 0 e - (0+ys.length))).toList).toArray e)):=by
          exact fin hex hey hrun
         generalize hrest:(Builtin.zeroCells z.cells (grownCap w (0+ys.length) 0 e - (0+ys.length))).toList=rest at hrun'
         generalize grownCap w (0+ys.length) 0 e=cap at hrun' hgc
         have hnew:=hs.heap.new
         have hg:=grew_drew_alloc w (.cells (([]++news)++rest).toArray e)
         have hb:(w.drew.alloc (.cells (([]++news)++rest).toArray e)).heap[w.heap.size]?=some (.cells (([]++news)++rest).toArray e):=heap_alloc_at w.drew _
         have hI:∀b,b<w.heap.size→updI g.I w.heap.size (i.size*ys.length) b=g.I b:=fun b hb=>updI_lt hb
         have hE:=ext_grew hg hI hnew
         refine sim_grew hs hd (I':=updI g.I w.heap.size (i.size*ys.length)) hrun' hg hI (size_alloc_le (w:=w.drew) hnew _) ?_ hK
         simp only [relV,relD]
         refine ⟨_,_,by rw [Nat.zero_add],by omega,by simp,fun _=>⟨_,rfl,fun _=>⟨rfl,by simp [Gh.setI,updI],?_⟩⟩⟩
         refine relRows_of_flat hrl (relDs_ext hE hrd) hone fun j u hj=>?_
         rw [List.nil_append] at hb
         simp only [World.cell?,hb,Nat.zero_add,List.getElem?_toArray,List.nil_append]
         rw [List.getElem?_append_left (List.getElem?_eq_some_iff.1 hj).1]
         simpa using hj
       split at hv
       ·rename_i e1 nl heq
        split at hv
        ·rename_i hcond
         obtain ⟨rfl,rfl,hroom⟩:=hcond
         simp at hv
         rw [heq] at rx
         simp only [relV,relD] at rx
         obtain ⟨ad,cap,he,hlc,ht2,_⟩:=rx
         obtain ⟨rfl,rfl⟩:=ht2 trivial
         exact main (b0:=decide (ys.length=0)) he hroom (fun hb=>⟨rfl,by simpa using hb⟩) (fun h1 h2=>by simp [h1] at h2) (by rw [←hv];simp)
        ·simp at hv
       ·rename_i e1 heq
        split at hv
        ·rename_i hroom
         simp at hv
         rw [heq] at rx
         simp only [relV] at rx
         obtain ⟨ad,he⟩:=rx
         exact main (b0:=false) he hroom (by simp) (fun _ _=>⟨ad,rfl⟩) hv.symm
        ·simp at hv
       ·simp at hv
     ·simp at hzz
    ·simp at ht
   ·simp at ht
  ·simp at h
 ·simp at h
end
end Go.VS
namespace Go.VS
section
variable {P:Program} {φ:Phi}
variable {nt m dB:Nat} {s:St} {g:Gh} {a:Act} {w:World} {K:Act→World→Prop} {Q:Exit→Act→World→Prop} {o:Oper}
theorem after_thaw {d:Nat} {v:V} {h1:List O} {x:D} {h2:List O} (hd:dstIs nt o d=true) (ht:thaw h1 v=some (x,h2)) (hK:After φ nt m dB s g w ⟨(d,.d x)::s.env,h2,s.ok⟩ o a K) :
  After φ nt m dB s g w ⟨(d,v)::s.env,h1,s.ok⟩ o a K:=by
 intro g' v' w' hs' hf'
 obtain ⟨e1,e2⟩:=dstIs_spec hd
 simp only [thaw,Option.map_eq_some_iff,Prod.mk.injEq] at ht
 obtain ⟨y,hy,rfl,rfl⟩:=ht
 have hL:V.locsL [v]=v.locs:=by simp [V.locsL]
 have hrel:=hs'.env d
 simp only [envGet,if_true] at hrel
 obtain ⟨I',k1,k2,k3⟩:=thaw_rel hs' (xs:=[v]) (vs:=[(a.put o.dst v').tmps.getD d undef]) (ds:=[y]) (by simp [toDs,hy]) (by simp only [relVs];exact ⟨hrel,trivial⟩) s.ok
 rw [hL] at k1 k2
 refine hK (g'.setI I') v' w' ⟨fun k=>?_,k1.heap,k1.size,k1.defers,k1.len⟩ (hf'.trans k2)
 have h0:=k1.env k
 simp only [envGet] at h0 ⊢
 by_cases hk:d=k
 ·subst hk
  rw [if_pos rfl]
  simp only [relDs] at k3
  simpa only [relV,Gh.setI] using k3.1
 ·rw [if_neg hk] at h0 ⊢
  exact h0
theorem thawV_spec {ov:Option (V×List O)} {r:V×List O} (h:thawV ov=some r):∃v h1 x h2,ov=some (v,h1)∧thaw h1 v=some (x,h2)∧r=(.d x,h2):=by
 cases ov with
 | none=>simp [thawV] at h
 | some p =>
  obtain ⟨v,h1⟩:=p
  simp only [thawV,Option.bind_some,Option.map_eq_some_iff] at h
  obtain ⟨q,hq,rfl⟩:=h
  exact ⟨v,h1,q.1,q.2,rfl,hq,rfl⟩
theorem sim_ldz (hs:SRel φ nt m dB s g a w) {rec:Rec} {d n:Nat} {ag:Bool} {x:A} (hc:chkI P φ nt o (.ldz d x n ag)=true) (hok:(evI rec (.ldz d x n ag) s).ok=true)
  (hK:After φ nt m dB s g w (evI rec (.ldz d x n ag) s) o a K):o.wp P a w K Q:=by
 simp only [evI] at hok hK
 have hd:dstIs nt o d=true:=by simp only [chkI,Bool.and_eq_true] at hc;exact hc.1
 obtain ⟨v,hh,hv⟩:=putH_spec hok
 rw [hv] at hK
 obtain ⟨v1,h1,y,h2,k1,k2,k3⟩:=thawV_spec hv
 simp only [Prod.mk.injEq] at k3
 obtain ⟨rfl,rfl⟩:=k3
 simp only [Option.map_eq_some_iff,Prod.mk.injEq] at k1
 obtain ⟨v0,hl,rfl,rfl⟩:=k1
 have hc':chkI P φ nt o (.ld d x n ag)=true:=hc
 refine sim_ld (rec:=rec) hs hc' ?_ ?_
 ·simp only [hv,St.putH] at hok;simp only [evI,hl,St.putO,St.put];exact hok
 ·simp only [evI,hl]
  exact after_thaw hd k2 hK
theorem sim_apk (hs:SRel φ nt m dB s g a w) {rec:Rec} {d es:Nat} {x y:A} (hc:chkI P φ nt o (.apk d x y es)=true) (hok:(evI rec (.apk d x y es) s).ok=true)
  (hK:After φ nt m dB s g w (evI rec (.apk d x y es) s) o a K):o.wp P a w K Q:=by
 simp only [evI] at hok hK
 have hd:dstIs nt o d=true:=by simp only [chkI,Bool.and_eq_true] at hc;exact hc.1
 obtain ⟨v,hh,hv⟩:=putH_spec hok
 rw [hv] at hK hok
 obtain ⟨v1,h1,z,h2,k1,k2,k3⟩:=thawV_spec hv
 simp only [Prod.mk.injEq] at k3
 obtain ⟨rfl,rfl⟩:=k3
 have hc':chkI P φ nt o (.app d x y es)=true:=hc
 refine sim_app (rec:=rec) hs hc' ?_ ?_
 ·simp only [evI,k1,St.putH];exact hok
 ·simp only [evI,k1]
  exact after_thaw hd k2 hK
theorem sim_callz {rec:Rec} (hq:QuietCall P φ rec) (hs:SRel φ nt m dB s g a w) {d:Nat} {f:Nat} {xs:List A} (hc:chkI P φ nt o (.callz d f xs)=true) (hok:(evI rec (.callz d f xs) s).ok=true)
  (hK:After φ nt m dB s g w (evI rec (.callz d f xs) s) o a K):o.wp P a w K Q:=by
 simp only [evI] at hok hK
 simp only [chkI,Bool.and_eq_true] at hc
 obtain ⟨hd,h⟩:=hc
 obtain ⟨e1,e2⟩:=dstIs_spec hd
 have hc':chkI P φ nt o (if true then .callr (some d) f xs else .callk (some d) f xs)=true:=by
  simp only [if_true,chkI,Bool.and_eq_true]
  exact ⟨by simp only [dstMay,Bool.and_eq_true,beq_iff_eq,e1,Option.all_some,decide_eq_true_eq];exact ⟨trivial,e2⟩,h⟩
 obtain ⟨v,hh,hv⟩:=putH_spec hok
 rw [hv] at hK hok
 obtain ⟨v1,h1,z,h2,k1,k2,k3⟩:=thawV_spec hv
 simp only [Prod.mk.injEq] at k3
 obtain ⟨rfl,rfl⟩:=k3
 refine sim_callr (rec:=rec) true hq hs hc' ?_ ?_
 ·simp only [if_true,evI,k1,St.putHO];exact hok
 ·simp only [if_true,evI,k1]
  exact after_thaw hd k2 hK
theorem plainD_rel {I I':Nat→Nat} {w':World} {x:D} {v:Value} (hp:x.plain=true) (hr:relD φ I w x v):relD φ I' w' x v:=by
 cases x<;>simp [D.plain] at hp<;>simpa only [relD] using hr
theorem plainDs_rel {I I':Nat→Nat} {w':World}:∀{cs:List D} {vs:List Value},cs.all D.plain=true→relDs φ I w cs vs→relDs φ I' w' cs vs
 | [],[],_,_=>by simp [relDs]
 | c::cs,v::vs,hp,hr=>by
  simp only [List.all_cons,Bool.and_eq_true] at hp
  simp only [relDs] at hr ⊢
  exact ⟨plainD_rel hp.1 hr.1,plainDs_rel hp.2 hr.2⟩
 | [],_::_,_,hr=>by simp [relDs] at hr
 | _::_,[],_,hr=>by simp [relDs] at hr
theorem plain_rel {h:List O} {g':Gh} {w':World} {x:V} {v:Value} (hp:x.plain=true) (hr:relV φ [] g w x v):relV φ h g' w' x v:=by
 cases x with
 | d y =>
  cases y with
  | ag cs =>
   simp only [V.plain] at hp
   simp only [relV,relD] at hr ⊢
   obtain ⟨A,h1,h2,h3⟩:=hr
   exact ⟨A,h1,plainDs_rel hp h2,h3⟩
  | b x=>simpa only [relV,relD] using hr
  | i k x=>simpa only [relV,relD] using hr
  | s x=>simpa only [relV,relD] using hr
  | _=>simp [V.plain,D.plain] at hp
 | tu vs =>
  simp only [V.plain] at hp
  simp only [relV] at hr ⊢
  obtain ⟨A,h1,h2⟩:=hr
  refine ⟨A,h1,?_⟩
  have key:∀{vs:List V} {us:List Value},vs.all (fun v=>match v with | .d x=>x.plain | _=>false)=true→relVs φ [] g w vs us→relVs φ h g' w' vs us:=by
   intro vs
   induction vs with
   | nil=>intro us _ hr;cases us<;>simp_all [relVs]
   | cons v vs ih =>
    intro us hp hr
    cases us with
    | nil=>simp [relVs] at hr
    | cons u us =>
     simp only [List.all_cons,Bool.and_eq_true] at hp
     simp only [relVs] at hr ⊢
     refine ⟨?_,ih hp.2 hr.2⟩
     cases v with
     | d x=>simp only [relV] at hr ⊢;exact plainD_rel hp.1 hr.1
     | _=>simp at hp
  exact key hp h2
 | _=>simp [V.plain] at hp
theorem callS_spec {rec:Rec} {h:List O} {f:Nat} {xs:List V} {v:V} (hc:callS rec h f xs=some v):∃ds,toDs h xs=some ds∧rec (.call f (ds.map V.d) [])=some (.val v [])∧v.plain=true:=by
 unfold callS at hc
 split at hc
 ·rename_i ds hds
  split at hc
  ·rename_i v' hr
   split at hc
   ·rename_i hp
    simp at hc
    subst hc
    exact ⟨ds,hds,hr,hp⟩
   ·simp at hc
  ·simp at hc
 ·simp at hc
theorem sim_calls {rec:Rec} (hq:QuietCall P φ rec) (hs:SRel φ nt m dB s g a w) {d:Option Nat} {f:Nat} {xs:List A} (hc:chkI P φ nt o (.calls d f xs)=true) (hok:(evI rec (.calls d f xs) s).ok=true)
  (hK:After φ nt m dB s g w (evI rec (.calls d f xs) s) o a K):o.wp P a w K Q:=by
 simp only [chkI,Bool.and_eq_true] at hc
 obtain ⟨hd,h⟩:=hc
 split at h
 ·rename_i c ho
  split at h
  ·rename_i ff hcal
   simp only [Bool.and_eq_true,beq_iff_eq] at h
   obtain ⟨rfl,hx⟩:=h
   simp only [evI] at hok hK
   obtain ⟨v,hv⟩:=putQ_some hok
   rw [hv] at hK
   obtain ⟨ds,hds,hrec,hp⟩:=callS_spec hv
   obtain ⟨⟨fn,hf,hn,hb⟩,hcall⟩:=hq f _ [] v [] hrec
   have hr:relVs φ s.heap g w (xs.map s.get) (c.args.map a.eval).toList:=by simpa using chkAs_rel hs hx
   obtain ⟨I',k1,_,k3⟩:=thaw_rel hs hds hr s.ok
   have hrun:(execOp a.eval o).run P w = .ok (.enter (φ f) (c.args.map a.eval)) w:=by
    rw [←run_callFunc (P:=P) (w:=w) (args:=c.args.map a.eval) hf hn hb]
    simp [execOp,ho,resolve,hcal,Act.eval,Deferred.ofValue,invoke]
   unfold Oper.wp
   rw [hrun]
   simp only [Oper.upon]
   refine Calls.mono (hcall ⟨fun _=>0,fun _=>0,I'⟩ w (c.args.map a.eval) (hrel_nil k1.heap.new) (relDs_V (g:=⟨fun _=>0,fun _=>0,I'⟩) k3)) fun e w' hh=>?_
   obtain ⟨v',g1,rfl,hH1,hrel,hfr⟩:=hh
   obtain ⟨hg,_⟩:=frame_nil hfr
   have hI2:∀b,b<w.heap.size→(fun b=>if b<w.heap.size then g.I b else g1.I b) b=g.I b:=fun b hb=>by simp [hb]
   have hnew2:∀b,w'.heap.size≤b→(fun b=>if b<w.heap.size then g.I b else g1.I b) b=0:=fun b hb=>by
    have:=hg.size
    have hnb:¬b<w.heap.size:=by omega
    simp only [hnb,if_false]
    exact hH1.new b hb
   obtain ⟨h1,h2⟩:=dstMay_spec hd
   have hs':=hs.grew hg hI2 hnew2
   refine hK (g.setI fun b=>if b<w.heap.size then g.I b else g1.I b) v' w' ?_ ?_
   ·rw [h1]
    cases d with
    | none=>exact hs'
    | some d=>exact hs'.putV (h2 d rfl) (plain_rel hp hrel)
   ·cases d with
    | none=>exact frame_grew m hs.heap hg hI2
    | some d=>exact frame_grew m hs.heap hg hI2
  ·simp at h
 ·simp at h
end
end Go.VS
namespace Go.VS
section
variable {P:Program} {φ:Phi}
variable {nt m dB:Nat} {s:St} {g:Gh} {a:Act} {w:World} {K:Act→World→Prop} {Q:Exit→Act→World→Prop} {o:Oper}
theorem sim_nck (hs:SRel φ nt m dB s g a w) {rec:Rec} {d:Nat} {x:A} (hc:chkI P φ nt o (.nck d x)=true) (hok:(evI rec (.nck d x) s).ok=true)
  (hK:After φ nt m dB s g w (evI rec (.nck d x) s) o a K):o.wp P a w K Q:=by
 simp only [chkI,Bool.and_eq_true] at hc
 obtain ⟨hd,h⟩:=hc
 split at h
 ·rename_i y ho
  have rx:=chkA_rel hs h
  simp only [evI] at hok hK
  split at hK
  ·rename_i cs hv
   rw [hv] at rx
   have rx':=rx
   simp only [relV,relD] at rx'
   obtain ⟨b,off,he,_⟩:=rx'
   exact sim_pure hs hd (v':=a.eval y) (by simp [execOp,ho,he]) rx hK
  ·rename_i cs hv
   rw [hv] at rx
   have rx':=rx
   simp only [relV] at rx'
   obtain ⟨b,off,us,he,_⟩:=rx'
   exact sim_pure hs hd (v':=a.eval y) (by simp [execOp,ho,he]) rx hK
  ·rename_i n r c hv
   rw [hv] at rx
   have rx':=rx
   simp only [relV] at rx'
   obtain ⟨h1,h2,h3⟩:=rx'
   cases hv':a.eval y with
   | pointer ad =>
    cases ad with
    | some ad=>rw [hv'] at rx;exact sim_pure hs hd (v':=.pointer (some ad)) (by simp [execOp,ho,hv']) rx hK
    | none=>rw [hv'] at h2;simp [isPtr] at h2
   | _=>rw [hv'] at h2;simp [isPtr] at h2
  ·rename_i t v hv
   rw [hv] at rx
   have rx':=rx
   simp only [relV,relD] at rx'
   obtain ⟨y',he,_⟩:=rx'
   exact sim_pure hs hd (v':=a.eval y) (by simp [execOp,ho,he]) rx hK
  ·rename_i h1 h2 h3
   exfalso
   revert hok
   split<;>simp_all [St.fail]
 ·simp at h
theorem sim_mn (hs:SRel φ nt m dB s g a w) {rec:Rec} {d:Nat} {x y:A} (hc:chkI P φ nt o (.mn d x y)=true) (hok:(evI rec (.mn d x y) s).ok=true)
  (hK:After φ nt m dB s g w (evI rec (.mn d x y) s) o a K):o.wp P a w K Q:=by
 simp only [chkI,Bool.and_eq_true] at hc
 obtain ⟨hd,h⟩:=hc
 split at h
 ·rename_i c ho
  split at h
  ·rename_i x' y' hcal hargs
   simp only [Bool.and_eq_true] at h
   obtain ⟨hx,hy⟩:=h
   obtain ⟨cal,args,tys⟩:=c
   simp only at hcal hargs
   have hargs':args=#[x',y']:=by rw [←Array.toList_inj];exact hargs
   subst hcal;subst hargs'
   have rx:=chkA_rel hs hx
   have ry:=chkA_rel hs hy
   simp only [evI] at hok hK
   refine sim_putO hs hd hok (fun v hv=>?_) hK
   unfold mnV at hv
   split at hv
   ·rename_i k p k' q h1 h2
    rw [h1] at rx
    rw [h2] at ry
    split at hv
    ·rename_i hk
     subst hk
     simp only [Option.some.injEq] at hv
     subst hv
     have e1:=relD_int (by simpa only [relV] using rx)
     have e2:=relD_int (by simpa only [relV] using ry)
     exact ⟨_,by simp [execOp,ho,resolve,invoke,builtin,Builtin.min_,Builtin.min2,e1,e2];rfl,by simp [relV,relD]⟩
    ·simp at hv
   ·simp at hv
  ·simp at h
 ·simp at h
theorem run_part {t:TypeId} {n off:Nat} {ag:Bool} (hag:aggIs P t ag=true) (hn:sizeIs P t n=true) {A:Array Value} {v':Value}
  (hv:if ag then n≤(A.toList.drop off).length∧v' = .agg ((A.toList.drop off).take n).toArray else (A.toList.drop off).head?=some v'):(part t A off).run P w = .ok v' w:=by
 have h1:=run_isAgg (P:=P) (w:=w) hag
 have h2:=run_size (P:=P) (w:=w) hn
 cases ag
 ·simp only [Bool.false_eq_true,if_false,List.head?_drop] at hv
  have:A[off]?=some v':=by simpa using hv
  simp [part,h1,this]
 ·simp only [if_true] at hv
  have he:A.extract off (off+n)=((A.toList.drop off).take n).toArray:=by
   rw [←Array.toList_inj]
   simp only [Array.toList_extract,List.extract_eq_take_drop]
   congr 1
   omega
  simp [part,h1,h2,he,hv.2]
theorem sim_fld (hs:SRel φ nt m dB s g a w) {rec:Rec} {d off n:Nat} {ag:Bool} {x:A} (hc:chkI P φ nt o (.fld d x off n ag)=true) (hok:(evI rec (.fld d x off n ag) s).ok=true)
  (hK:After φ nt m dB s g w (evI rec (.fld d x off n ag) s) o a K):o.wp P a w K Q:=by
 simp only [chkI,Bool.and_eq_true] at hc
 obtain ⟨hd,h⟩:=hc
 split at h
 ·rename_i t y k ho
  simp only [Bool.and_eq_true] at h
  obtain ⟨hx,h⟩:=h
  split at h
  ·rename_i fs hfs
   split at h
   ·rename_i f hf
    simp only [Bool.and_eq_true,beq_iff_eq] at h
    obtain ⟨⟨rfl,hn⟩,hag⟩:=h
    have rx:=chkA_rel hs hx
    simp only [evI] at hok hK
    refine sim_putO hs hd hok (fun v hv=>?_) hK
    have fin:∀{A:Array Value} {cs:List V},a.eval y = .agg A→relVs φ s.heap g w cs A.toList→(∀u∈A.toList,u.oneCell'=true)→pack n ag (cs.drop f.offset)=some v →
      ∃v',(execOp a.eval o).run P w = .ok (.value v') w∧relV φ s.heap g w v v':=by
     intro A cs he hr h1 hp
     obtain ⟨v',h2,h3⟩:=pack_rel (relVs_drop hr f.offset) (fun u hu=>h1 u (List.mem_of_mem_drop hu)) hp
     have:=run_part (P:=P) (w:=w) (off:=f.offset) (A:=A) hag hn h2
     exact ⟨v',by simp [execOp,ho,Instr.field,run_underlying hfs,hf,he,asAgg,this],h3⟩
    unfold fldV at hv
    split at hv
    ·rename_i cs hxv
     rw [hxv] at rx
     simp only [relV,relD] at rx
     obtain ⟨A,he,hr,h1⟩:=rx
     exact fin he (relDs_V hr) h1 hv
    ·rename_i cs hxv
     rw [hxv] at rx
     simp only [relV] at rx
     obtain ⟨A,he,hr,h1⟩:=rx
     exact fin he hr h1 hv
    ·simp at hv
   ·simp at h
  ·simp at h
 ·simp at h
theorem sl3_bounds {cap len l h mx:Nat} {k1 k2 k3:IntKind} (h1:l≤h) (h2:h≤mx) (h3:mx≤cap) :
  (Instr.sliceBounds true len cap (some (.int k1 l)) (some (.int k2 h)) (some (.int k3 mx))).run P w = .ok (l,h,mx) w:=by
 have a1:¬((mx:Int)<0):=by omega
 have a2:¬((cap:Int)<mx):=by omega
 have a3:¬((h:Int)<0):=by omega
 have a4:¬((mx:Int)<h):=by omega
 have a5:¬((l:Int)<0):=by omega
 have a6:¬((h:Int)<l):=by omega
 simp [Instr.sliceBounds,Instr.sliceBound,asIntOf,h1,h2,h3]
theorem sim_sl3 (hs:SRel φ nt m dB s g a w) {rec:Rec} {d es:Nat} {x lo hi mx:A} (hc:chkI P φ nt o (.sl3 d x lo hi mx es)=true) (hok:(evI rec (.sl3 d x lo hi mx es) s).ok=true)
  (hK:After φ nt m dB s g w (evI rec (.sl3 d x lo hi mx es) s) o a K):o.wp P a w K Q:=by
 simp only [chkI,Bool.and_eq_true] at hc
 obtain ⟨hd,h⟩:=hc
 split at h
 ·rename_i t y lo' hi' mx' ho
  simp only [Bool.and_eq_true] at h
  obtain ⟨⟨⟨⟨hx,hlo⟩,hhi⟩,hmx⟩,ht⟩:=h
  split at ht
  ·rename_i e hu
   have rx:=chkA_rel hs hx
   simp only [evI] at hok hK
   refine sim_putO hs hd hok (fun v hv=>?_) hK
   have num:∀{z:A} {z':Operand} {n:Int},chkA φ z' z=true→asInt (s.get z)=some n→∃k,a.eval z' = .int k n:=by
    intro z z' n hz hn
    have hr:=chkA_rel hs hz
    cases hv:s.get z with
    | d q =>
     rw [hv] at hn hr
     cases q with
     | i k q=>simp [asInt] at hn;subst hn;exact ⟨k,relD_int (by simpa only [relV] using hr)⟩
     | _=>simp [asInt] at hn
    | _=>rw [hv] at hn;simp [asInt] at hn
   unfold sl3V at hv
   split at hv
   ·rename_i l hh q hl hhv hq
    obtain ⟨k1,e1⟩:=num hlo hl
    obtain ⟨k2,e2⟩:=num hhi hhv
    obtain ⟨k3,e3⟩:=num hmx hq
    have fin:∀{ad:Option Addr} {len cap:Nat},a.eval y = .slice ad len cap→0≤l→l≤hh→hh≤q→q≤cap→v = .u →
      ∃v',(execOp a.eval o).run P w = .ok (.value v') w∧relV φ s.heap g w v v':=by
     intro ad len cap he h0 h1 h2 h3 hvu
     subst hvu
     have hb:=sl3_bounds (P:=P) (w:=w) (cap:=cap) (len:=len) (l:=l.toNat) (h:=hh.toNat) (mx:=q.toNat) (k1:=k1) (k2:=k2) (k3:=k3) (by omega) (by omega) (by omega)
     have i1:(l.toNat:Int)=l:=by omega
     have i2:(hh.toNat:Int)=hh:=by omega
     have i3:(q.toNat:Int)=q:=by omega
     rw [i1,i2,i3] at hb
     have hsz:=run_size (P:=P) (w:=w) ht
     refine ⟨_,by simp [execOp,ho,he,e1,e2,e3,Instr.sliceAt,Instr.slice,run_underlying hu,hb,hsz];rfl,by simp [relV]⟩
    split at hv
    ·rename_i e' nl xs hp
     rw [hp] at rx
     simp only [relV,relD] at rx
     obtain ⟨ad,cap,he,hlc,_⟩:=rx
     split at hv
     ·rename_i hcond
      simp only [Option.some.injEq] at hv
      exact fin he hcond.2.1 hcond.2.2.1 hcond.2.2.2.1 (by omega) hv.symm
     ·simp at hv
    ·rename_i n off len hp
     rw [hp] at rx
     simp only [relV] at rx
     split at hv
     ·rename_i hcond
      simp only [Option.some.injEq] at hv
      obtain ⟨es',he'⟩:=es_of_arr hcond.1
      obtain ⟨cap,he,hlc,_⟩:=rx.2.2 es' he'
      exact fin he hcond.2.1 hcond.2.2.1 hcond.2.2.2.1 (by omega) hv.symm
     ·simp at hv
    ·rename_i e' hp
     rw [hp] at rx
     simp only [relV] at rx
     obtain ⟨ad,he⟩:=rx
     split at hv
     ·rename_i hcond
      simp only [Option.some.injEq] at hv
      obtain ⟨_,rfl,rfl,rfl⟩:=hcond
      exact fin he (by omega) (by omega) (by omega) (by simp) hv.symm
     ·simp at hv
    ·simp at hv
   ·simp at hv
  ·simp at ht
 ·simp at h
theorem over_rel (hs:SRel φ nt m dB s g a w) {n p es:Nat} {rows ys:List (List D)} {news:List Value} {CS:Array Value} {T:TypeId} {ok:Bool} (hn:hget s.heap n = .arrD es true rows)
  (hb:w.heap[g.β n]?=some (.cells CS T (0,0))) (hfit':g.o n+es*rows.length≤CS.size)
  (hrr:relRows φ g.I w (g.β n) es (g.o n) rows) (hI:g.I (g.β n)≤g.o n) (hrd:relDs φ g.I w ys.flatten news) (hone:∀u∈news,u.oneCell'=true) (hrl:∀r∈ys,r.length=es) (hnl':news.length=ys.length*es)
  (hin:p+ys.length≤rows.length) :
  (storeCells ⟨g.β n,g.o n+p*es,none⟩ news).run P w = .ok () (w.setRow (g.β n) (overlay CS.toList (g.o n+p*es) news).toArray) ∧
  SRel φ nt m dB ⟨s.env,s.heap.set n (.arrD es true (overlay rows p ys)),ok⟩ g a (w.setRow (g.β n) (overlay CS.toList (g.o n+p*es) news).toArray) ∧
  Frame m s.heap g w (s.heap.set n (.arrD es true (overlay rows p ys))) g (w.setRow (g.β n) (overlay CS.toList (g.o n+p*es) news).toArray):=by
 have hl:(hget s.heap n).live=true:=by rw [hn];rfl
 have hmul:(p+ys.length)*es≤rows.length*es:=Nat.mul_le_mul_right es hin
 rw [Nat.add_mul] at hmul
 have hc1:es*rows.length=rows.length*es:=Nat.mul_comm _ _
 have hfit2:g.o n+p*es+news.length≤CS.size:=by omega
 have hst:=run_storeCells_at P (g.β n) (g.o n+p*es) T news 0 CS w hb (by simpa using hfit2) hone
 simp only [Nat.add_zero] at hst
 obtain ⟨ht,hw'⟩:=turned_setRow (cs:=(overlay CS.toList (g.o n+p*es) news).toArray) hb
 have hE:Ext g.I w g.I (w.setRow (g.β n) (overlay CS.toList (g.o n+p*es) news).toArray):=ext_store ht hb hfit2 hw' (by omega) (fun _=>Nat.le_refl _)
 have hsize:(overlay CS.toList (g.o n+p*es) news).toArray.size=CS.size:=by
  have:=overlay_length (cs:=CS.toList) (new:=news) (o:=g.o n+p*es) (by simpa using hfit2)
  simpa using this
 have hol:(overlay rows p ys).length=rows.length:=overlay_length hin
 have hle:=hle_turn (x:=.arrD es true (overlay rows p ys)) hs.heap hl ht hE
  (fun es' he'=>⟨by rw [hn];simpa [O.es?] using he',by rw [hn];simp only [O.len,hol],fun CS' T' hc=>by
   rw [hb] at hc
   simp at hc
   obtain ⟨rfl,rfl⟩:=hc
   exact ⟨_,_,hw',by rw [hsize];exact Nat.le_refl _,fun h=>h.over hone⟩⟩) (fun kv hk=>by simp at hk)
 have hH:=hrel_turn (x:=.arrD es true (overlay rows p ys)) hs.heap hl ht hle (fun _ _=>rfl)
  ⟨⟨_,T,hw',by rw [hsize,hol];exact hfit'⟩,relRows_over hrr hE hrd hone hrl hin hb hfit' hw',by simpa [Gh.setI] using hI⟩
 exact ⟨hst,hs.turn hl ht hle hH,frame_turn _ hl ht hE (fun _ _=>rfl) hle⟩
theorem wp_builtin {d:Option Nat} (hd:dstMay nt o d=true) {v:V} {v':Value} {hh:List O} {w':World} (hrun:(execOp a.eval o).run P w = .ok (.value v') w') (hS:SRel φ nt m dB ⟨s.env,hh,s.ok⟩ g a w') (hF:Frame m s.heap g w hh g w')
  (hv:relV φ hh g w' v v') (hK:After φ nt m dB s g w (s.putHO d (some (v,hh))) o a K):o.wp P a w K Q:=by
 obtain ⟨h1,h2⟩:=dstMay_spec hd
 refine wp_val hrun (hK g v' w' ?_ ?_)
 ·rw [h1]
  cases d with
  | none=>exact hS
  | some d=>exact hS.putV (h2 d rfl) hv
 ·cases d<;>exact hF
theorem relDs_replicate {I:Nat→Nat} {z:List D} {C:List Value} (hr:relDs φ I w z C):∀n:Nat,relDs φ I w (List.replicate n z).flatten (List.replicate n C).flatten
 | 0=>by simp [relDs]
 | n+1=>by
  simp only [List.replicate_succ,List.flatten_cons]
  exact relDs_append hr (relDs_replicate hr n)
theorem zeroCells_rel {I:Nat→Nat} {z:List D} {C:Array Value} (hr:relDs φ I w z C.toList) (h1:∀v∈C.toList,v.oneCell'=true) (hp:0<z.length) (n:Nat) :
  relDs φ I w (List.replicate n z).flatten (Builtin.zeroCells C n).toList∧(∀v∈(Builtin.zeroCells C n).toList,v.oneCell'=true)∧(Builtin.zeroCells C n).toList.length=n*z.length:=by
 have hl:=relDs_length hr
 have he:(Builtin.zeroCells C n).toList=(List.replicate n C.toList).flatten:=by
  have hcs:C.size=z.length:=by simpa using hl.symm
  unfold Builtin.zeroCells
  rw [show n*C.size=n*z.length by rw [hcs]]
  exact replicate_flatten n z.length C hcs hp
 rw [he]
 refine ⟨relDs_replicate hr n,fun v hv=>?_,by simp [hl]⟩
 simp only [List.mem_flatten,List.mem_replicate] at hv
 obtain ⟨l,⟨_,rfl⟩,hv⟩:=hv
 exact h1 v hv
theorem firstCells_rel {es k n:Nat} {xa:Option Addr} {xc:Nat} {news:List Value} (hl:news.length=n*es) (hk:k≤n) (hc:news≠[]→∃b off,xa=some ⟨b,off,none⟩∧∀(j:Nat) (u:Value),news[j]?=some u→w.cell? ⟨b,off+j,none⟩=some u)
  : (Builtin.firstCells es k (.slice xa n xc)).run P w = .ok (news.take (k*es)).toArray w:=by
 have hkl:(news.take (k*es)).length=k*es:=by
  have:=Nat.mul_le_mul_right es hk
  simp;omega
 by_cases hne:news.take (k*es)=[]
 ·rw [hne] at hkl ⊢
  have h0:k*es=0:=by simpa using hkl.symm
  cases xa with
  | none=>simp [Builtin.firstCells]
  | some ad=>exact run_firstCells_some w es k ad n xc [] (by simp [h0]) (by simp)
 ·have hne2:news≠[]:=fun h=>hne (by simp [h])
  obtain ⟨b,off,rfl,h⟩:=hc hne2
  refine run_firstCells_some w es k _ n xc _ hkl fun j v hj=>?_
  rw [addr_add]
  rw [List.getElem?_take] at hj
  split at hj
  ·exact h j v hj
  ·simp at hj
theorem take_flatten {α:Type} {es:Nat}:∀{rows:List (List α)} (_:∀r∈rows,r.length=es) (n:Nat),(rows.take n).flatten=rows.flatten.take (n*es)
 | [],_,n=>by simp
 | r::rs,h,0=>by simp
 | r::rs,h,n+1=>by
  have hr:r.length=es:=h r (by simp)
  have ih:=take_flatten (rows:=rs) (fun x hx=>h x (by simp [hx])) n
  have e1:(n+1)*es - es=n*es:=by rw [Nat.succ_mul];omega
  have e2:r.take ((n+1)*es)=r:=List.take_of_length_le (by rw [Nat.succ_mul];omega)
  simp only [List.take_succ_cons,List.flatten_cons,ih,List.take_append,hr,e1,e2]
theorem sim_clr (hs:SRel φ nt m dB s g a w) {rec:Rec} {d:Option Nat} {es:Nat} {x:A} {z:List D} (hc:chkI P φ nt o (.clr d x es z)=true) (hok:(evI rec (.clr d x es z) s).ok=true)
  (hK:After φ nt m dB s g w (evI rec (.clr d x es z) s) o a K):o.wp P a w K Q:=by
 simp only [chkI,Bool.and_eq_true] at hc
 obtain ⟨hd,h⟩:=hc
 split at h
 ·rename_i c ho
  split at h
  ·rename_i y t hcal hargs htys
   simp only [Bool.and_eq_true] at h
   obtain ⟨hx,h⟩:=h
   split at h
   ·rename_i e hu
    simp only [Bool.and_eq_true,beq_iff_eq,decide_eq_true_eq] at h
    obtain ⟨⟨hz,rfl⟩,hpos⟩:=h
    obtain ⟨i,v,hi,hzv,hzr,hz1,hzs⟩:=zero_spec (g:=g) (w:=w) hz
    obtain ⟨cal,args,tys⟩:=c
    simp only at hcal hargs htys
    have hargs':args=#[y]:=by rw [←Array.toList_inj];exact hargs
    have htys':tys=#[t]:=by rw [←Array.toList_inj];exact htys
    subst hcal;subst hargs';subst htys'
    have rx:=chkA_rel hs hx
    simp only [evI] at hok hK
    obtain ⟨r,hr⟩:=putHO_some hok
    rw [hr] at hK
    simp only [Option.map_eq_some_iff] at hr
    obtain ⟨hh,hr,rfl⟩:=hr
    have fin:∀{w':World},(Builtin.clear_ #[t] o.type #[a.eval y]).run P w = .ok (.tuple #[]) w'→SRel φ nt m dB ⟨s.env,hh,s.ok⟩ g a w'→Frame m s.heap g w hh g w'→o.wp P a w K Q:=by
     intro w' h1 h2 h3
     exact wp_builtin hd (v':=.tuple #[]) (by simp [execOp,ho,resolve,invoke,builtin,h1]) h2 h3 (by simp only [relV];exact ⟨#[],rfl,by simp [relVs]⟩) hK
    unfold clrH at hr
    split at hr
    ·rename_i e' nl hxv
     simp only [Option.some.injEq] at hr
     subst hr
     rw [hxv] at rx
     simp only [relV,relD] at rx
     obtain ⟨ad,cap,he,_⟩:=rx
     refine fin (w':=w) ?_ hs (Frame.refl _ _ _ _)
     cases ad<;>simp [Builtin.clear_,run_underlying hu,he]
    ·rename_i n off len hxv
     rw [hxv] at rx
     simp only [relV] at rx
     have hobj:=hs.heap.obj n
     split at hr
     ·rename_i e' ex rows hn
      rw [hn] at rx hobj
      split at hr
      ·rename_i hcond
       obtain ⟨rfl,_,hin⟩:=hcond
       obtain ⟨cap,he,hlc,_⟩:=rx.2.2 _ rfl
       split at hr
       ·rename_i h0
        simp only [Option.some.injEq] at hr
        subst hr;subst h0
        refine fin (w':=w) ?_ hs (Frame.refl _ _ _ _)
        simp [Builtin.clear_,run_underlying hu,he]
       ·rename_i h0
        split at hr
        ·rename_i hex
         subst hex
         simp only [Option.some.injEq] at hr
         subst hr
         obtain ⟨⟨CS,T,hb,hfit⟩,hrr,hI⟩:=hobj
         simp only [if_true] at hI
         obtain ⟨z1,z2,z3⟩:=zeroCells_rel hzr hz1 hpos len
         obtain ⟨k1,k2,k3⟩:=over_rel (P:=P) hs (ok:=s.ok) (p:=off) (ys:=List.replicate len z) hn hb hfit hrr hI z1 z2 (fun r hr=>by rw [List.mem_replicate] at hr;rw [hr.2]) (by simpa using z3) (by simpa using hin)
         refine fin ?_ k2 k3
         obtain ⟨len,rfl⟩:∃k,len=k+1:=⟨len - 1,by omega⟩
         simp [Builtin.clear_,run_underlying hu,he,zeroValue,typeInfo,hi,hzv,k1]
        ·simp at hr
      ·simp at hr
     ·simp at hr
    ·simp at hr
   ·simp at h
  ·simp at h
 ·simp at h
theorem sim_copy (hs:SRel φ nt m dB s g a w) {rec:Rec} {d:Option Nat} {es:Nat} {x y:A} (hc:chkI P φ nt o (.copy d x y es)=true) (hok:(evI rec (.copy d x y es) s).ok=true)
  (hK:After φ nt m dB s g w (evI rec (.copy d x y es) s) o a K):o.wp P a w K Q:=by
 simp only [chkI,Bool.and_eq_true] at hc
 obtain ⟨hd,h⟩:=hc
 split at h
 ·rename_i c ho
  split at h
  ·rename_i x' y' t t' hcal hargs htys
   simp only [Bool.and_eq_true,decide_eq_true_eq] at h
   obtain ⟨⟨⟨hx,hy⟩,hpos⟩,h⟩:=h
   split at h
   ·rename_i e e' hu hu'
    obtain ⟨cal,args,tys⟩:=c
    simp only at hcal hargs htys
    have hargs':args=#[x',y']:=by rw [←Array.toList_inj];exact hargs
    have htys':tys=#[t,t']:=by rw [←Array.toList_inj];exact htys
    subst hcal;subst hargs';subst htys'
    have rx:=relV_wk (chkA_rel hs hx)
    have ry:=chkA_rel hs hy
    have hsz:=run_size (P:=P) (w:=w) h
    simp only [evI] at hok hK
    obtain ⟨r,hr⟩:=putHO_some hok
    rw [hr] at hK
    have fin:∀{k:Nat} {w':World} {hh:List O},r=(.d (.i .i64 (k:Int)),hh)→(Builtin.copy_ #[t,t'] o.type #[a.eval x',a.eval y']).run P w = .ok (goInt k) w'→SRel φ nt m dB ⟨s.env,hh,s.ok⟩ g a w'→Frame m s.heap g w hh g w'→o.wp P a w K Q:=by
     intro k w' hh hrr h1 h2 h3
     subst hrr
     exact wp_builtin hd (v':=goInt k) (by simp [execOp,ho,resolve,invoke,builtin,h1]) h2 h3 (by simp [relV,relD,goInt]) hK
    unfold copyV at hr
    cases hrows:rowsD s.heap es (s.get y) with
    | none=>simp [hrows] at hr
    | some ys =>
     simp only [hrows] at hr
     obtain ⟨xa,xc,news,hey,hrl,hrd,hone,hnl,hbase⟩:=rowsD_rel hs.heap ry hrows
     have hnl':news.length=ys.length*es:=by rw [hnl,Nat.mul_comm]
     split at hr
     ·rename_i n off len hxv
      rw [hxv] at rx
      simp only [relV] at rx
      have hobj:=hs.heap.obj n
      split at hr
      ·rename_i e2 rows hn
       rw [hn] at rx hobj
       split at hr
       ·rename_i hcond
        obtain ⟨rfl,hin⟩:=hcond
        simp only [Option.some.injEq] at hr
        obtain ⟨cap,he,hlc,_⟩:=rx.2.2 _ rfl
        obtain ⟨⟨CS,T,hb,hfit⟩,hrr,hI⟩:=hobj
        simp only [if_true] at hI
        have hk:(ys.take len).length=min ys.length len:=by simp [Nat.min_comm]
        have hmul:min ys.length len*e2≤ys.length*e2:=Nat.mul_le_mul_right _ (Nat.min_le_left _ _)
        have hfl:(ys.take len).flatten=ys.flatten.take (min ys.length len*e2):=by
         rw [take_flatten hrl]
         rcases Nat.le_total len ys.length with hle | hle
         ·rw [Nat.min_eq_right hle]
         ·rw [Nat.min_eq_left hle,List.take_of_length_le (by rw [flatten_length hrl,Nat.mul_comm e2];exact Nat.mul_le_mul_right _ hle),List.take_of_length_le (by rw [flatten_length hrl,Nat.mul_comm e2];exact Nat.le_refl _)]
        have hnt:(news.take (min ys.length len*e2)).length=min ys.length len*e2:=by simp;omega
        obtain ⟨k1,k2,k3⟩:=over_rel (P:=P) hs (ok:=s.ok) (p:=off) (ys:=ys.take len) (news:=news.take (min ys.length len*e2)) hn hb hfit hrr hI
         (by rw [hfl];exact relDs_take hrd _) (fun u hu=>hone u (List.mem_of_mem_take hu)) (fun r hr=>hrl r (List.mem_of_mem_take hr)) (by rw [hnt,hk]) (by rw [hk];omega)
        refine fin hr.symm ?_ k2 k3
        have hfc:=firstCells_rel (P:=P) (es:=e2) (k:=min ys.length len) (n:=ys.length) (xc:=xc) hnl' (Nat.min_le_left _ _) (fun hne=>hbase fun h0=>hne (by subst h0;simpa using hnl'))
        simp [Builtin.copy_,run_underlying hu,he,hey,Builtin.lenOf,hsz,hfc,k1]
       ·simp at hr
      ·simp at hr
     ·rename_i e2 nl hxv
      rw [hxv] at rx
      simp only [relV,relD] at rx
      obtain ⟨ad,cap,he,_⟩:=rx
      simp only [Option.some.injEq] at hr
      refine fin (k:=0) (w':=w) hr.symm ?_ hs (Frame.refl _ _ _ _)
      have hfc:=firstCells_rel (P:=P) (es:=es) (k:=0) (n:=ys.length) (xc:=xc) hnl' (Nat.zero_le _) (fun hne=>hbase fun h0=>hne (by subst h0;simpa using hnl'))
      cases ad<;>simp [Builtin.copy_,run_underlying hu,he,hey,Builtin.lenOf,hsz,hfc,storeCells]
     ·simp at hr
   ·simp at h
  ·simp at h
 ·simp at h
end
end Go.VS
namespace Go.VS
section
variable {P:Program} {φ:Phi}
variable {nt m dB:Nat} {s:St} {g:Gh} {a:Act} {w:World} {K:Act→World→Prop} {Q:Exit→Act→World→Prop} {o:Oper}
theorem sim_mx (hs:SRel φ nt m dB s g a w) {rec:Rec} {d:Nat} {x y:A} (hc:chkI P φ nt o (.mx d x y)=true) (hok:(evI rec (.mx d x y) s).ok=true)
  (hK:After φ nt m dB s g w (evI rec (.mx d x y) s) o a K):o.wp P a w K Q:=by
 simp only [chkI,Bool.and_eq_true] at hc
 obtain ⟨hd,h⟩:=hc
 split at h
 ·rename_i c ho
  split at h
  ·rename_i x' y' hcal hargs
   simp only [Bool.and_eq_true] at h
   obtain ⟨hx,hy⟩:=h
   obtain ⟨cal,args,tys⟩:=c
   simp only at hcal hargs
   have hargs':args=#[x',y']:=by rw [←Array.toList_inj];exact hargs
   subst hcal;subst hargs'
   have rx:=chkA_rel hs hx
   have ry:=chkA_rel hs hy
   simp only [evI] at hok hK
   refine sim_putO hs hd hok (fun v hv=>?_) hK
   unfold mxV at hv
   split at hv
   ·rename_i k p k' q h1 h2
    rw [h1] at rx
    rw [h2] at ry
    split at hv
    ·rename_i hk
     subst hk
     simp only [Option.some.injEq] at hv
     subst hv
     have e1:=relD_int (by simpa only [relV] using rx)
     have e2:=relD_int (by simpa only [relV] using ry)
     exact ⟨_,by simp [execOp,ho,resolve,invoke,builtin,Builtin.max_,Builtin.max2,e1,e2];rfl,by simp [relV,relD]⟩
    ·simp at hv
   ·simp at hv
  ·simp at h
 ·simp at h
theorem sim_mki (hs:SRel φ nt m dB s g a w) {rec:Rec} {d t:Nat} {x:A} (hc:chkI P φ nt o (.mki d t x)=true) (hok:(evI rec (.mki d t x) s).ok=true)
  (hK:After φ nt m dB s g w (evI rec (.mki d t x) s) o a K):o.wp P a w K Q:=by
 simp only [chkI,Bool.and_eq_true] at hc
 obtain ⟨hd,h⟩:=hc
 split at h
 ·rename_i t' y ho
  simp only [Bool.and_eq_true,beq_iff_eq] at h
  obtain ⟨⟨rfl,hx⟩,hu⟩:=h
  have rx:=chkA_rel hs hx
  simp only [evI] at hok hK
  refine sim_putO hs hd hok (fun v hv=>?_) hK
  unfold mkiV at hv
  split at hv
  ·rename_i u hxv
   rw [hxv] at rx
   simp only [Option.some.injEq] at hv
   subst hv
   refine ⟨.iface t' (a.eval y),?_,by simp only [relV,relD];exact ⟨_,rfl,by simpa only [relV] using rx⟩⟩
   split at hu
   ·simp at hu
   ·rename_i td hne htd
    simp only [execOp,ho,Instr.makeInterface,Sem.run_bind,run_underlying htd,Result.andThen_ok]
    rfl
   ·simp at hu
  ·simp at hv
 ·simp at h
theorem follow_run {n:Nat} {A:Array Value} (hA:A.size=n):∀{l:List FieldStep} {t:TypeId},pathIs P n l t=true →
  ∃xt td,(follow l t (.val (.agg A))).run P w = .ok (xt,.val (.agg A)) w∧P.underlying xt=some td∧∀e,td≠.pointer e
 | [],t,h=>by
  simp only [pathIs] at h
  split at h
  ·simp at h
  ·rename_i td hne htd
   exact ⟨t,td,by simp [follow],htd,hne⟩
  ·simp at h
 | s::r,t,h=>by
  simp only [pathIs] at h
  split at h
  ·rename_i fs hfs
   split at h
   ·rename_i f hf
    simp only [Bool.and_eq_true,Bool.not_eq_true',beq_iff_eq] at h
    obtain ⟨⟨⟨⟨h1,h2⟩,h3⟩,h4⟩,h5⟩:=h
    obtain ⟨xt,td,k1,k2,k3⟩:=follow_run hA h5
    have hp:(part f.type A f.offset).run P w = .ok (.agg A) w:=by
     refine run_part (ag:=true) h3 h4 ?_
     simp only [if_true,h2,List.drop_zero]
     refine ⟨by simp [hA],?_⟩
     rw [List.take_of_length_le (by simp [hA])]
    refine ⟨xt,td,?_,k2,k3⟩
    simp [follow,run_underlying hfs,hf,h1,hp,k1]
   ·simp at h
  ·simp at h
theorem method_run {nm:String} {t n f:Nat} (h:mthIs P φ nm t n f=true) {A:Array Value} (hA:A.size=n) (k:Nat) :
  (method (k+1) t (.agg A) nm).run P w = .ok (φ f,.agg A) w:=by
 unfold mthIs at h
 split at h
 ·rename_i i hi
  split at h
  ·rename_i mm hmm
   split at h
   ·rename_i gg hgg
    simp only [Bool.and_eq_true,beq_iff_eq] at h
    obtain ⟨rfl,hp⟩:=h
    obtain ⟨xt,td,k1,k2,k3⟩:=follow_run (w:=w) hA hp
    have hti:(typeInfo t).run P w = .ok i w:=by simp [typeInfo,hi]
    simp only [method,Sem.run_bind,hti,Result.andThen_ok,hmm,k1,hgg]
    have hr:∀wr,(receiverAt xt (.val (.agg A)) false wr).run P w = .ok (.agg A) w:=by
     intro wr
     simp only [receiverAt,Sem.run_bind,run_underlying k2,Result.andThen_ok]
     simp [Place.get]
    simp [hr]
   ·simp at h
  ·simp at h
 ·simp at h
theorem sim_inv {rec:Rec} (hq:QuietCall P φ rec) (hs:SRel φ nt m dB s g a w) {d:Option Nat} {nm:String} {tbl:List (Nat×Nat×Nat)} {x:A} {xs:List A} (hc:chkI P φ nt o (.inv d nm tbl x xs)=true) (hok:(evI rec (.inv d nm tbl x xs) s).ok=true)
  (hK:After φ nt m dB s g w (evI rec (.inv d nm tbl x xs) s) o a K):o.wp P a w K Q:=by
 simp only [chkI,Bool.and_eq_true] at hc
 obtain ⟨hd,h⟩:=hc
 split at h
 ·rename_i c ho
  split at h
  ·rename_i y nm' hcal
   simp only [Bool.and_eq_true,beq_iff_eq,List.all_eq_true] at h
   obtain ⟨⟨⟨rfl,hx⟩,hxs⟩,htbl⟩:=h
   simp only [evI] at hok hK
   have rx:=chkA_rel hs hx
   have rxs:=chkAs_rel hs hxs
   obtain ⟨v,hv⟩:=putQ_some hok
   have hv':=hv
   unfold invV at hv'
   split at hv'
   ·rename_i t ds hxv
    split at hv'
    ·rename_i e he
     split at hv'
     ·rename_i hlen
      have hmem:=List.mem_of_find?_eq_some he
      have het:e.1=t:=by have:=List.find?_some he;simpa using this
      have hm:=htbl e hmem
      rw [hxv] at rx
      simp only [relV,relD] at rx
      obtain ⟨yv,hev,A,rfl,hA,h1⟩:=rx
      have hsz:A.size=e.2.1:=by rw [←hlen];have:=relDs_length hA;simpa using this.symm
      have hmr:=method_run (P:=P) (w:=w) (φ:=φ) hm hsz (P.types.size+99)
      refine sim_quiet hq hs hd (f:=e.2.2) (xs:=.d (.ag ds)::xs.map s.get) (args:=#[.agg A]++c.args.map a.eval) (ov:=invV (callQ rec) tbl (s.get x) (xs.map s.get)) (by rw [hv,hv']) hok ?_ ?_ hK
      ·simp only [Array.toList_append,Array.toList_map,List.cons_append,List.nil_append,relVs]
       exact ⟨by simp only [relV,relD];exact ⟨A,rfl,hA,h1⟩,rxs⟩
      ·simp only [execOp,ho,resolve,hcal,Sem.run_bind,Sem.run_pure,Result.andThen_ok,invoke,hev]
       rw [het] at hmr
       have h0:(#[Value.iface t (.agg A)]++Array.map a.eval c.args)[0]?=some (.iface t (.agg A)):=by simp [Array.getElem?_append]
       have h1:(Array.map a.eval c.args).extract 0 c.args.size=Array.map a.eval c.args:=by simp
       simp only [callMethod,Made.depth,h0] at *
       simp [hmr,h1]
     ·simp at hv'
    ·simp at hv'
   ·simp at hv'
  ·simp at h
 ·simp at h
end
end Go.VS
namespace Go.VS
section
variable {P:Program} {φ:Phi}
variable {nt m dB:Nat} {s:St} {g:Gh} {a:Act} {w:World} {K:Act→World→Prop} {Q:Exit→Act→World→Prop} {o:Oper}
theorem sim_cap (hs:SRel φ nt m dB s g a w) {rec:Rec} {d:Nat} {x:A} (hc:chkI P φ nt o (.cap d x)=true) (hok:(evI rec (.cap d x) s).ok=true)
  (hK:After φ nt m dB s g w (evI rec (.cap d x) s) o a K):o.wp P a w K Q:=by
 simp only [chkI,Bool.and_eq_true] at hc
 obtain ⟨hd,h⟩:=hc
 split at h
 ·rename_i c ho
  split at h
  ·rename_i y t hcal hargs htys
   simp only [Bool.and_eq_true] at h
   obtain ⟨hx,ht⟩:=h
   split at ht
   ·rename_i e hu
    obtain ⟨cal,args,tys⟩:=c
    simp only at hcal hargs htys
    have hargs':args=#[y]:=by rw [←Array.toList_inj];exact hargs
    have htys':tys=#[t]:=by rw [←Array.toList_inj];exact htys
    subst hcal;subst hargs';subst htys'
    have rx:=chkA_rel hs hx
    simp only [evI] at hok hK
    refine sim_putO hs hd hok (fun v hv=>?_) hK
    have fin:∀{ad:Option Addr} {n cap:Nat},a.eval y = .slice ad n cap→v = .d (.i .i64 cap)→∃v',(execOp a.eval o).run P w = .ok (.value v') w∧relV φ s.heap g w v v':=by
     intro ad n cap he hv
     subst hv
     exact ⟨.int .i64 cap,by simp [execOp,ho,resolve,invoke,builtin,he,Builtin.cap_,run_underlying hu,goInt],by simp [relV,relD]⟩
    unfold capV at hv
    split at hv
    ·rename_i e' xs hp
     rw [hp] at rx
     simp only [relV,relD] at rx
     obtain ⟨ad,cap,he,_,h1,_⟩:=rx
     obtain ⟨_,rfl⟩:=h1 trivial
     simp at hv
     exact fin he (by rw [←hv];rfl)
    ·rename_i e' hp
     rw [hp] at rx
     simp only [relV] at rx
     obtain ⟨ad,he⟩:=rx
     simp at hv
     exact fin he (by rw [←hv];rfl)
    ·rename_i n off len hp
     rw [hp] at rx
     simp only [relV] at rx
     split at hv
     ·rename_i e' ex rows hn
      split at hv
      ·rename_i hle
       obtain ⟨cap,he,hlc,hm,_⟩:=rx.2.2 e' (by rw [hn];rfl)
       rw [hn] at hm
       simp only [O.len] at hm
       simp at hv
       have:rows.length - off=cap:=by omega
       exact fin he (by rw [←hv,this])
      ·simp at hv
     ·simp at hv
    ·simp at hv
   ·simp at ht
  ·simp at h
 ·simp at h
theorem run_appendz_new {t t' ty e:TypeId} {k':IntKind} {i:TypeInfo} {z:Value} (ht:P.underlying t=some (.slice e)) (ht':P.underlying t'=some (.int k')) (hi:P.info? e=some i) (hz:i.zero=some z) {sLen sCap n:Nat} {base:Option Addr} {olds:List Value} {q:IntKind}
  (hlo:olds.length=sLen*i.size) (hco:olds≠[]→∃b off,base=some ⟨b,off,none⟩∧∀(j:Nat) (u:Value),olds[j]?=some u→w.cell? ⟨b,off+j,none⟩=some u)
  (hgr:sCap<sLen+n) (hroom:sLen+n≤room) (hby:i.bytes≤16384) (hpos:0<i.size) (hn0:0<n) :
  (Builtin.append_ #[t,t'] ty #[.slice base sLen sCap,.int q n]).run P w =
   .ok (.slice (some ⟨w.heap.size,0,none⟩) (sLen+n) (grownCap w (sLen+n) sCap e)) (w.drew.alloc (.cells (olds++(Builtin.zeroCells z.cells n).toList++(Builtin.zeroCells z.cells (grownCap w (sLen+n) sCap e - (sLen+n))).toList).toArray e)):=by
 have hn:¬(sLen+n≤sCap):=by omega
 have hroom':sLen+n≤4294967296:=hroom
 have h63':¬(9223372036854775807<((sLen:Int)+(n:Int))):=by omega
 have hmul:(sLen+n)*i.bytes≤4294967296*16384:=Nat.mul_le_mul hroom' hby
 have h48':¬(281474976710656<Builtin.nextslicecap (sLen+n) sCap*i.bytes):=by
  have:=growslice_fits (bytes:=i.bytes) hgr (by omega)
  omega
 have hfo:=run_firstCells (P:=P) (w:=w.drew) (xa:=base) (xc:=sCap) hlo (fun h=>by obtain ⟨b,off,h1,h2⟩:=hco h;exact ⟨b,off,h1,by simpa using h2⟩)
 have hwrap:IntKind.i64.wrap (n:Int)=n:=by
  have h1:(n:Int)≤4294967296:=by omega
  have e1:(n:Int) % (2 ^ (IntKind.i64.bits):Int)=n:=Int.emod_eq_of_lt (by omega) (Int.lt_of_le_of_lt h1 (by decide))
  have e2:¬((n:Int) ≥ (2 ^ (IntKind.i64.bits - 1):Int)):=by
   have:((2:Int) ^ (IntKind.i64.bits - 1))=9223372036854775808:=by decide
   rw [this];omega
  simp only [IntKind.wrap,e1,e2,decide_false,Bool.and_false,Bool.false_eq_true,if_false]
 have hneg:¬((n:Int)<0):=by omega
 have hmul2:n*i.bytes≤4294967296*16384:=Nat.mul_le_mul (by omega) hby
 have h48b:¬((281474976710656:Int)<(n:Int)*(i.bytes:Int)):=by
  rw [←Int.natCast_mul]
  omega
 have hns:¬(n*i.size=0):=Nat.ne_of_gt (Nat.mul_pos hn0 hpos)
 simp [Builtin.append_,run_underlying ht,run_underlying ht',sizeOf,typeInfo,zeroValue,hi,hz,Go.asInt,asIntOf,hwrap,hneg,h48b,hn,h63',h48',hns,Question.forced,hfo,newRow,grownCap]
 congr 2
 apply Array.ext'
 simp [List.append_assoc]
theorem sim_appz (hs:SRel φ nt m dB s g a w) {rec:Rec} {d es:Nat} {x k:A} {z:List D} (hc:chkI P φ nt o (.appz d x k es z)=true) (hok:(evI rec (.appz d x k es z) s).ok=true)
  (hK:After φ nt m dB s g w (evI rec (.appz d x k es z) s) o a K):o.wp P a w K Q:=by
 simp only [chkI,Bool.and_eq_true] at hc
 obtain ⟨hd,h⟩:=hc
 split at h
 ·rename_i c ho
  split at h
  ·rename_i x' k' t t' hcal hargs htys
   simp only [Bool.and_eq_true,decide_eq_true_eq] at h
   obtain ⟨⟨⟨hx,hk⟩,hpos⟩,ht⟩:=h
   obtain ⟨cal,args,tys⟩:=c
   simp only at hcal hargs htys
   have hargs':args=#[x',k']:=by rw [←Array.toList_inj];exact hargs
   have htys':tys=#[t,t']:=by rw [←Array.toList_inj];exact htys
   subst hcal;subst hargs';subst htys'
   split at ht
   ·rename_i e q hu hu'
    simp only [Bool.and_eq_true] at ht
    obtain ⟨hz0,ht⟩:=ht
    obtain ⟨i,zv,hi,hz,hzr,hz1,hzs⟩:=zero_spec (g:=g) (w:=w) hz0
    rw [hi] at ht
    simp only [Bool.and_eq_true,beq_iff_eq,decide_eq_true_eq] at ht
    obtain ⟨hsz,hby⟩:=ht
    subst hsz
    have rx:=chkA_rel hs hx
    have rk:=chkA_rel hs hk
    simp only [evI] at hok hK
    obtain ⟨v,hh,hv⟩:=putH_spec hok
    rw [hv] at hK
    simp only [St.putH] at hK
    unfold appzV at hv
    cases hkv:asInt (s.get k) with
    | none=>simp [hkv] at hv
    | some kn =>
     simp only [hkv] at hv
     have hkq:∃q2,a.eval k' = .int q2 kn:=by
      cases hg:s.get k with
      | d z =>
       rw [hg] at hkv rk
       cases z with
       | i q2 n=>simp [asInt] at hkv;subst hkv;exact ⟨q2,relD_int (by simpa only [relV] using rk)⟩
       | _=>simp [asInt] at hkv
      | _=>rw [hg] at hkv;simp [asInt] at hkv
     obtain ⟨q2,hke⟩:=hkq
     split at hv
     ·rename_i hcond
      obtain ⟨hk0,hzl⟩:=hcond
      have hkn:(kn.toNat:Int)=kn:=by omega
      have hzc:zv.cells.size=i.size:=by
       have:=relDs_length hzr
       rw [hzl] at this
       simpa using this.symm
      obtain ⟨z1,z2,z3⟩:=zeroCells_rel hzr hz1 (by rw [hzl];exact hpos) kn.toNat
      have fresh:∀{base:Option Addr} {sLen sCap:Nat} {olds:List Value} {ys:List (List D)},a.eval x' = .slice base sLen sCap→olds.length=sLen*i.size →
        (olds≠[]→∃b off,base=some ⟨b,off,none⟩∧∀(j:Nat) (u:Value),olds[j]?=some u→w.cell? ⟨b,off+j,none⟩=some u)→sCap<sLen+kn.toNat→sLen+kn.toNat≤room →
        (∀r∈ys,r.length=i.size)→ys.length=sLen→relDs φ g.I w ys.flatten olds→(∀u∈olds,u.oneCell'=true)→v = .asl s.heap.length 0 (sLen+kn.toNat)→hh=s.heap++[.arrD i.size true (ys++List.replicate kn.toNat z)]→o.wp P a w K Q:=by
       intro base sLen sCap olds ys he h1 h2 h3 h4 h5 h6 h7 h8 h9 h10
       subst h9;subst h10
       have hrun:=run_appendz_new (P:=P) (w:=w) (ty:=o.type) (q:=q2) hu hu' hi hz h1 h2 h3 h4 hby hpos (by omega)
       rw [hkn] at hrun
       have hgc:=grownCap_ge w (sLen+kn.toNat) sCap e
       have hll:(ys++List.replicate kn.toNat z).length=sLen+kn.toNat:=by simp [h6]
       have hz2:(Builtin.zeroCells zv.cells (grownCap w (sLen+kn.toNat) sCap e - (sLen+kn.toNat))).toList.length=(grownCap w (sLen+kn.toNat) sCap e - (sLen+kn.toNat))*i.size:=by simp [size_zeroCells,hzc]
       have:=sim_newrows (P:=P) (K:=K) (Q:=Q) (o:=o) (a:=a) hs hd (es:=i.size) (ex:=true) (ys:=ys++List.replicate kn.toNat z) (C:=olds++(Builtin.zeroCells zv.cells kn.toNat).toList) (ok:=s.ok)
        (rest:=(Builtin.zeroCells zv.cells (grownCap w (sLen+kn.toNat) sCap e - (sLen+kn.toNat))).toList) (T:=e) (cap:=grownCap w (sLen+kn.toNat) sCap e)
        (by rw [hll];simp [execOp,ho,resolve,invoke,builtin,he,hke,hrun])
        (fun r hr=>(List.mem_append.1 hr).elim (h5 r) (fun h=>by rw [List.mem_replicate] at h;rw [h.2,hzl]))
        (by rw [List.flatten_append];exact relDs_append h7 z1) (fun u hu=>(List.mem_append.1 hu).elim (h8 u) (z2 u)) (by rw [hll];exact hgc) ?_ (one_zeroCells hz1 _)
       ·refine this fun g' v' w' k1 k2=>?_
        rw [hll] at k1
        exact hK g' v' w' k1 k2
       ·rw [List.length_append,h1,hz2,z3,hzl,←Nat.add_mul,←Nat.add_mul]
        exact Nat.mul_le_mul_right _ (by omega)
      split at hv
      ·rename_i e1 nl xs hxv
       rw [hxv] at rx
       simp only [relV,relD] at rx
       obtain ⟨ad,cap,he,hlc,ht1,_⟩:=rx
       split at hv
       ·rename_i hc2
        obtain ⟨rfl,rfl,hroom⟩:=hc2
        obtain ⟨rfl,rfl⟩:=ht1 rfl
        have hx0:xs.length=0:=by omega
        rw [hx0] at he
        simp at hv
        exact fresh (olds:=[]) (ys:=[]) he (by simp) (by simp) (by omega) (by omega) (by simp) rfl (by simp [relDs]) (by simp) (by rw [Nat.zero_add];exact hv.1.symm) (by simpa using hv.2.symm)
       ·simp at hv
      ·rename_i e1 hxv
       rw [hxv] at rx
       simp only [relV] at rx
       obtain ⟨ad,he⟩:=rx
       split at hv
       ·rename_i hc2
        obtain ⟨rfl,hroom⟩:=hc2
        simp at hv
        exact fresh (olds:=[]) (ys:=[]) he (by simp) (by simp) (by omega) (by omega) (by simp) rfl (by simp [relDs]) (by simp) (by rw [Nat.zero_add];exact hv.1.symm) (by simpa using hv.2.symm)
       ·simp at hv
      ·rename_i n off len hxv
       rw [hxv] at rx
       simp only [relV] at rx
       have hobj:=hs.heap.obj n
       split at hv
       ·rename_i e1 ex rows hn
        rw [hn] at rx hobj
        split at hv
        ·rename_i hc2
         obtain ⟨rfl,hle,hgr,hroom⟩:=hc2
         obtain ⟨cap,he,hlc,hm,_⟩:=rx.2.2 _ rfl
         simp only [O.len] at hm
         simp at hv
         have hlen:((rows.drop off).take len).length=len:=by simp;omega
         obtain ⟨olds,o1,o2,o3,o4⟩:=relRows_flat (relRows_take hobj.2.1 hle)
         rw [hlen] at o3
         exact fresh (olds:=olds) (ys:=(rows.drop off).take len) he (by rw [o3,Nat.mul_comm]) (fun _=>⟨_,_,rfl,o4⟩) (by omega) hroom
          (fun r hr=>by
           obtain ⟨j,hj,hje⟩:=List.getElem_of_mem (List.mem_of_mem_drop (List.mem_of_mem_take hr))
           exact (relRows_get hobj.2.1 (r:=j) (row:=r) (by simp [hj,hje])).1) hlen o1 o2 hv.1.symm hv.2.symm
        ·simp at hv
       ·simp at hv
      ·simp at hv
     ·simp at hv
   ·simp at ht
  ·simp at h
 ·simp at h
theorem isOverlaps_find {fn:Func} (h:isOverlaps fn=true):Extern.findNext fn=none∧Extern.find fn=some (Extern.SlicesOverlaps.overlaps fn.params fn.resultTypes):=by
 simp only [isOverlaps,Bool.and_eq_true,beq_iff_eq,Option.isNone_iff_eq_none] at h
 obtain ⟨⟨⟨⟨h0,h1⟩,h2⟩,h3⟩,h4⟩:=h
 have n1 : Extern.allGenericRows.lookup "slices.overlaps" = none := by kernel_rfl
 have n2 : Extern.allTypedRows.lookup "slices.overlaps" = some Extern.SlicesOverlaps.overlaps := by kernel_rfl
 have n3 : Extern.allNextRows.lookup "slices.overlaps" = none := by kernel_rfl
 refine ⟨?_,?_⟩
 ·simp [Extern.findNext,h4,h0,n3]
 ·simp [Extern.find,h1,h2,h3,h0,n1,n2]
theorem run_overlaps (hP:True) {tS e:TypeId} {par res:Array TypeId} (hp:par[0]?=some tS) (ht:P.underlying tS=some (.slice e)) {size:Nat} (hz:(Go.sizeOf e).run P w = .ok size w)
  {a b:Addr} {la ca lb cb:Nat} {CA CB:Array Value} {TA TB:TypeId} {fa:Nat×Nat} (hA:w.heap[a.block]?=some (.cells CA TA fa)) (hB:w.heap[b.block]?=some (.cells CB TB (0,0))) (hA0:CA.size≠0)
  (hdis:a.block=b.block→a.off+la*size≤b.off) :
  (Extern.SlicesOverlaps.overlaps par res #[.slice (some a) la ca,.slice (some b) lb cb]).run P w = .ok (.bool false) w:=by
 rw [Extern.SlicesOverlaps.overlaps.eq_def,hp]
 change Sem.run P (α:=Value) (underlying tS >>= _) w=_
 by_cases h0:la=0∨lb=0∨size=0
 ·simp [hp,run_underlying ht,hz,h0]
 ·have hsa:w.shape? a.block=some (TA,CA.size):=by simp [World.shape?,hA]
  have hsb:w.shape? b.block=some (TB,CB.size):=by simp [World.shape?,hB]
  have hfb:∀k sp,w.frozen? { block:=b.block,off:=k,spot:=sp }=false:=by intro k sp;simp [World.frozen?,hB]
  have hfb':w.frozen? b=false:=by simp [World.frozen?,hB]
  obtain ⟨n,hn⟩:∃n,CA.size=n+1:=⟨CA.size - 1,by omega⟩
  rw [hn] at hsa
  by_cases hne:a.block=b.block
  ·have h1:(a.block != b.block)=false:=by simpa using hne
   have h2:=hdis hne
   have h3:¬(b.off<a.off+la*size):=by omega
   simp [hp,run_underlying ht,hz,h0,h1,frozen,Sem.run,h3]
  ·have h1:(a.block != b.block)=true:=by simpa using hne
   have h2:(a.block==b.block)=false:=by simpa using hne
   cases hfa:w.frozen? a<;>cases hfe:w.frozen? { block:=a.block,off:=n+1 } <;>
    simp [hp,run_underlying ht,hz,h0,h1,h2,frozen,noView,viewAt,mayBeOne,stringish,shape,Sem.run,hsa,hsb,hfb,hfb',hfa,hfe]
theorem run_overlaps_none {tS e:TypeId} {par res:Array TypeId} (hp:par[0]?=some tS) (ht:P.underlying tS=some (.slice e)) {size:Nat} (hz:(Go.sizeOf e).run P w = .ok size w)
  {b:Option Addr} {a:Option Addr} {la ca lb cb:Nat} (h0:a=none∨la=0) :
  (Extern.SlicesOverlaps.overlaps par res #[.slice a la ca,.slice b lb cb]).run P w = .ok (.bool false) w:=by
 rw [Extern.SlicesOverlaps.overlaps.eq_def,hp]
 change Sem.run P (α:=Value) (underlying tS >>= _) w=_
 rcases h0 with rfl | rfl
 ·simp [hp,run_underlying ht,hz]
 ·cases a<;>cases b<;>simp [hp,run_underlying ht,hz]
theorem sim_ovl (hs:SRel φ nt m dB s g a w) {rec:Rec} {d f es:Nat} {x y:A} (hc:chkI P φ nt o (.ovl d f x y es)=true) (hok:(evI rec (.ovl d f x y es) s).ok=true)
  (hK:After φ nt m dB s g w (evI rec (.ovl d f x y es) s) o a K):o.wp P a w K Q:=by
 simp only [chkI,Bool.and_eq_true] at hc
 obtain ⟨hd,h⟩:=hc
 split at h
 ·rename_i c ho
  split at h
  ·rename_i ff hcal
   simp only [Bool.and_eq_true,beq_iff_eq] at h
   obtain ⟨⟨rfl,hxy⟩,h⟩:=h
   split at h
   ·rename_i fn hfn
    simp only [Bool.and_eq_true,Bool.not_eq_true'] at h
    obtain ⟨⟨⟨hname,hbody⟩,hov⟩,h⟩:=h
    split at h
    ·rename_i t t2 hpar
     split at h
     ·rename_i e hu
      simp only [Bool.and_eq_true,decide_eq_true_eq] at h
      obtain ⟨hpos,hinfo⟩:=h
      have hsz:=run_size (P:=P) (w:=w) hinfo
      have hpar0:fn.params[0]?=some t:=by
       rw [←Array.getElem?_toList,hpar];rfl
      obtain ⟨k1,k2⟩:=isOverlaps_find hov
      have rr:=chkAs_rel hs hxy
      simp only [evI] at hok hK
      refine sim_putO hs hd hok (fun v hv=>?_) hK
      obtain ⟨x',y',hargs⟩:∃x' y',c.args.toList=[x',y']:=by
       match hq:c.args.toList,hxy with
       | [x',y'],_=>exact ⟨x',y',rfl⟩
       | [],h=>simp [chkAs] at h
       | [_],h=>simp [chkAs] at h
       | _::_::_::_,h=>simp [chkAs] at h
      rw [hargs] at rr
      simp only [List.map_cons,List.map_nil,relVs] at rr
      obtain ⟨rx,ry,_⟩:=rr
      have hargs':c.args.map a.eval=#[a.eval x',a.eval y']:=by rw [←Array.toList_inj];simp [hargs]
      have hrun0:(execOp a.eval o).run P w=(callFunc (φ f) (c.args.map a.eval)).run P w:=by simp [execOp,ho,resolve,hcal,Act.eval,Deferred.ofValue,invoke]
      have hrun:∀{u u':Value},a.eval x'=u→a.eval y'=u'→v = .d (.b false)→(Extern.SlicesOverlaps.overlaps fn.params fn.resultTypes #[u,u']).run P w = .ok (.bool false) w→∃v',(execOp a.eval o).run P w = .ok (.value v') w∧relV φ s.heap g w v v':=by
       intro u u' h1 h2 h3 h4
       subst h3
       refine ⟨.bool false,?_,by simp [relV,relD]⟩
       rw [hrun0,hargs',h1,h2,run_callFunc_extern hfn hname hbody k1 k2,h4]
       rfl
      unfold ovlV at hv
      split at hv
      ·rename_i e1 nl xs n off len hxv hyv
       have ry:=relV_wk ry
       rw [hxv] at rx
       rw [hyv] at ry
       simp only [relV,relD] at rx ry
       obtain ⟨ad,cap,hex,hlc,h1,h2⟩:=rx
       have hobj:=hs.heap.obj n
       split at hv
       ·rename_i e2 rows hn
        rw [hn] at ry hobj
        split at hv
        ·rename_i hee
         subst hee
         obtain ⟨cap2,hey,_,_,CS,T,hB,hfit,_⟩:=ry.2.2 e2 rfl
         simp only [Option.some.injEq] at hv
         refine hrun hex hey hv.symm ?_
         cases nl with
         | true=>exact run_overlaps_none hpar0 hu hsz (.inl (h1 rfl).1)
         | false =>
          obtain ⟨ad',rfl,h3⟩:=h2 rfl
          cases xs with
          | nil=>exact run_overlaps_none hpar0 hu hsz (.inr rfl)
          | cons r rs =>
           obtain ⟨hsp,hI,hrows⟩:=h3 (by simp)
           obtain ⟨hrl,hrc⟩:=relRows_get hrows (r:=0) (row:=r) rfl
           have hr0:r[0]?=some r[0]:=by simp
           obtain ⟨z,hz,_⟩:=relCells_get hrc hr0
           simp only [World.cell?] at hz
           split at hz
           ·rename_i CA TA fa hA
            have hA0:CA.size≠0:=by
             intro h0
             have:CA=#[]:=Array.eq_empty_of_size_eq_zero h0
             subst this
             simp at hz
            refine run_overlaps trivial hpar0 hu hsz hA hB hA0 fun hbb=>?_
            have hI2:=hobj.2.2
            simp only [if_true] at hI2
            simp only at hbb
            rw [hbb] at hI
            rw [Nat.mul_comm]
            show ad'.off+e1*(r::rs).length≤g.o n+off*e2
            omega
           ·simp at hz
        ·simp at hv
       ·simp at hv
      ·simp at hv
     ·simp at h
    ·simp at h
   ·simp at h
  ·simp at h
 ·simp at h
end
end Go.VS
namespace Go.VS
section
variable {P:Program} {φ:Phi}
variable {nt m dB:Nat} {s:St} {g:Gh} {a:Act} {w:World} {K:Act→World→Prop} {Q:Exit→Act→World→Prop} {o:Oper}
theorem keyCells_one {k:CK} {x:D} {a:List D} (h:keyCells [k] x=some a):a=[x]∧∀cs,x≠.ag cs:=by
 cases x<;>simp [keyCells] at h<;>exact ⟨h.symm,fun cs hh=>by cases hh⟩
theorem keyCells_many {ks:List CK} {x:D} {a:List D} (hk:∀k,ks≠[k]) (h:keyCells ks x=some a):x = .ag a:=by
 match ks,hk,h with
 | [],_,h=>cases x<;>simp [keyCells] at h<;>subst h<;>rfl
 | [k],hk,_=>exact absurd rfl (hk k)
 | _::_::_,_,h=>cases x<;>simp [keyCells] at h<;>subst h<;>rfl
theorem key_run {I:Nat→Nat} {kt:TypeId} {ks:List CK} (hk:keyTy P kt ks=true) {x y:D} {b:Bool} (h:keyEq ks x y=some b) {u v:Value} (hu:relD φ I w x u) (hv:relD φ I w y v):(Op.equal kt u v).run P w = .ok b w:=by
 simp only [keyEq,Option.bind_eq_some_iff] at h
 obtain ⟨p,hp,q,hq,hf⟩:=h
 unfold keyTy at hk
 split at hk
 ·rename_i k
  obtain ⟨rfl,_⟩:=keyCells_one hp
  obtain ⟨rfl,_⟩:=keyCells_one hq
  simp only [flatEq,Option.bind_eq_some_iff,Option.map_eq_some_iff,Option.some.injEq] at hf
  obtain ⟨b1,h1,b2,rfl,rfl⟩:=hf
  rw [Bool.and_true]
  exact cellEq_run hk h1 hu hv 9999
 ·rename_i hne
  have hp':=keyCells_many (fun k hh=>hne k hh) hp
  have hq':=keyCells_many (fun k hh=>hne k hh) hq
  subst hp';subst hq'
  simp only [relD] at hu hv
  obtain ⟨A,rfl,ra,_⟩:=hu
  obtain ⟨B,rfl,rb,_⟩:=hv
  unfold flatIs at hk
  split at hk
  ·rename_i fs hfs
   simp only [Bool.and_eq_true,Bool.not_eq_true'] at hk
   obtain ⟨⟨ht1,ht2⟩,ht3⟩:=hk
   have hfo:P.fieldsOf kt=fs:=by simp [Program.fieldsOf,hfs]
   have hst:P.underlying kt=some (.struct (P.fieldsOf kt)):=by rw [hfo];exact hfs
   have hff:=fields_run (P:=P) (w:=w) 9998 ht3 hf (by simpa using ra) (by simpa using rb)
   have he:=run_equalIn_struct (P:=P) w 9999 kt A B hst ht1
   rw [hfo,hff] at he
   exact he
  ·simp at hk
theorem findAsking_rel {h:List O} {kt:TypeId} {ks:List CK} (hk:keyTy P kt ks=true) {k:D} {u:Value} (hu:relD φ g.I w k u):∀{kv:List (D×V)} {es:List MapEntry} {i:Nat},relKV φ h g w kv es→(kv.all fun p=>(keyEq ks k p.1).isSome)=true →
  ∃r,(Instr.findAsking kt u es i).run P w = .ok r w ∧
   match kv.findIdx? (keyIs ks k) with
   | some j=>∃e,es[j]?=some e∧r=some (i+j,e.val)
   | none=>r=none
 | [],[],i,_,_=>⟨none,by simp [Instr.findAsking],by simp⟩
 | p::kv,e::es,i,hr,hall=>by
  simp only [List.all_cons,Bool.and_eq_true] at hall
  obtain ⟨b,hb⟩:=Option.isSome_iff_exists.1 hall.1
  have hp:=hr.2 0 p e rfl rfl
  have heq:=key_run (P:=P) (w:=w) hk hb hu hp.1
  have htail:relKV φ h g w kv es:=⟨by have:=hr.1;simpa using this,fun j q e' hq he=>hr.2 (j+1) q e' (by simpa using hq) (by simpa using he)⟩
  have hki:keyIs ks k p=b:=by simp [keyIs,hb]
  cases b with
  | true =>
   refine ⟨some (i,e.val),by simp [Instr.findAsking,heq],?_⟩
   rw [List.findIdx?_cons,hki]
   exact ⟨e,rfl,rfl⟩
  | false =>
   obtain ⟨r,h1,h2⟩:=findAsking_rel hk hu (i:=i+1) htail hall.2
   refine ⟨r,by simp [Instr.findAsking,heq,h1],?_⟩
   rw [List.findIdx?_cons,hki]
   simp only [Bool.false_eq_true,if_false]
   cases hf:kv.findIdx? (keyIs ks k) with
   | none=>rw [hf] at h2;simpa using h2
   | some j =>
    rw [hf] at h2
    obtain ⟨e',he',hr'⟩:=h2
    refine ⟨e',by simpa using he',?_⟩
    rw [hr']
    show some (i+1+j,e'.val)=some (i+(j+1),e'.val)
    have:i+1+j=i+(j+1):=by omega
    rw [this]
 | [],_::_,_,hr,_=>by have:=hr.1;simp at this
 | _::_,[],_,hr,_=>by have:=hr.1;simp at this
theorem sameNow_rel {I:Nat→Nat} {ks:List CK} {kind:TypeDesc} {x y:D} {b c:Bool} (h:keyEq ks x y=some b) {u v:Value} (hu:relD φ I w x u) (hv:relD φ I w y v) (hs:Instr.sameNow kind u v=some c):c=b:=by
 simp only [keyEq,Option.bind_eq_some_iff] at h
 obtain ⟨p,hp,q,hq,hf⟩:=h
 by_cases hone:∃k,ks=[k]
 ·obtain ⟨k,rfl⟩:=hone
  obtain ⟨rfl,_⟩:=keyCells_one hp
  obtain ⟨rfl,_⟩:=keyCells_one hq
  simp only [flatEq,Option.bind_eq_some_iff,Option.map_eq_some_iff,Option.some.injEq] at hf
  obtain ⟨b1,h1,b2,rfl,rfl⟩:=hf
  rw [Bool.and_true]
  unfold cellEq at h1
  split at h1<;>simp only [Option.some.injEq,reduceCtorEq,Option.ite_none_right_eq_some] at h1
  ·obtain ⟨rfl,rfl⟩:=h1
   have hu:=relD_int hu;have hv:=relD_int hv;subst hu;subst hv
   cases kind<;>simp [Instr.sameNow] at hs
   exact hs.symm
  ·subst h1
   have hu:=relD_bool hu;have hv:=relD_bool hv;subst hu;subst hv
   cases kind<;>simp [Instr.sameNow] at hs
   exact hs.symm
  ·subst h1
   simp only [relD] at hu hv
   obtain ⟨bs,rfl,hb⟩:=hu
   obtain ⟨cs,rfl,hc⟩:=hv
   cases kind<;>simp [Instr.sameNow] at hs
   subst hs
   subst hb;subst hc
   exact beq_toListBytes _ _
 ·have hp':=keyCells_many (fun k hh=>hone ⟨k,hh⟩) hp
  subst hp'
  simp only [relD] at hu
  obtain ⟨A,rfl,_⟩:=hu
  cases kind<;>simp [Instr.sameNow] at hs
theorem findNow_rel {h:List O} {kind:TypeDesc} {ks:List CK} {k:D} {u:Value} (hu:relD φ g.I w k u):∀{kv:List (D×V)} {es:List MapEntry} {i:Nat} {r:Option (Nat×Value)},relKV φ h g w kv es→(kv.all fun p=>(keyEq ks k p.1).isSome)=true →
  Instr.findNow kind u es i=some r →
   match kv.findIdx? (keyIs ks k) with
   | some j=>∃e,es[j]?=some e∧r=some (i+j,e.val)
   | none=>r=none
 | [],[],i,r,_,_,hf=>by simp [Instr.findNow] at hf;simp [hf]
 | p::kv,e::es,i,r,hr,hall,hf=>by
  simp only [List.all_cons,Bool.and_eq_true] at hall
  obtain ⟨b,hb⟩:=Option.isSome_iff_exists.1 hall.1
  have hp:=hr.2 0 p e rfl rfl
  have htail:relKV φ h g w kv es:=⟨by have:=hr.1;simpa using this,fun j q e' hq he=>hr.2 (j+1) q e' (by simpa using hq) (by simpa using he)⟩
  have hki:keyIs ks k p=b:=by simp [keyIs,hb]
  simp only [Instr.findNow] at hf
  split at hf
  ·rename_i hs
   have:=sameNow_rel hb hu hp.1 hs
   subst this
   rw [List.findIdx?_cons,hki]
   simp at hf
   exact ⟨e,rfl,hf.symm⟩
  ·rename_i hs
   have:=sameNow_rel hb hu hp.1 hs
   subst this
   have h2:=findNow_rel hu htail hall.2 hf
   rw [List.findIdx?_cons,hki]
   simp only [Bool.false_eq_true,if_false]
   cases hf:kv.findIdx? (keyIs ks k) with
   | none=>rw [hf] at h2;simpa using h2
   | some j =>
    rw [hf] at h2
    obtain ⟨e',he',hr'⟩:=h2
    refine ⟨e',by simpa using he',?_⟩
    rw [hr']
    show some (i+1+j,e'.val)=some (i+(j+1),e'.val)
    have:i+1+j=i+(j+1):=by omega
    rw [this]
  ·simp at hf
 | [],_::_,_,_,hr,_,_=>by have:=hr.1;simp at this
 | _::_,[],_,_,hr,_,_=>by have:=hr.1;simp at this
theorem keyTy_under {kt:TypeId} {ks:List CK} (hk:keyTy P kt ks=true):∃d,P.underlying kt=some d:=by
 unfold keyTy ckIs flatIs at hk
 cases h:P.underlying kt with
 | some d=>exact ⟨d,rfl⟩
 | none=>split at hk<;>simp [h] at hk
theorem findKey_rel {h:List O} {kt:TypeId} {ks:List CK} (hk:keyTy P kt ks=true) {k:D} {u:Value} (hu:relD φ g.I w k u) {kv:List (D×V)} {es:List MapEntry} (hr:relKV φ h g w kv es) (hall:(kv.all fun p=>(keyEq ks k p.1).isSome)=true) :
  ∃r,(Instr.findKey kt u es).run P w = .ok r w ∧
   match kv.findIdx? (keyIs ks k) with
   | some j=>∃e,es[j]?=some e∧r=some (j,e.val)
   | none=>r=none:=by
 obtain ⟨d,hd⟩:=keyTy_under hk
 cases hf:Instr.findNow d u es 0 with
 | some r =>
  refine ⟨r,by simp [Instr.findKey,run_underlying hd,hf],?_⟩
  simpa only [Nat.zero_add] using findNow_rel hu hr hall hf
 | none =>
  obtain ⟨r,h1,h2⟩:=findAsking_rel hk hu (i:=0) hr hall
  refine ⟨r,by simp [Instr.findKey,run_underlying hd,hf,h1],?_⟩
  simpa only [Nat.zero_add] using h2
end
end Go.VS
namespace Go.VS
section
variable {P:Program} {φ:Phi}
variable {nt m dB:Nat} {s:St} {g:Gh} {a:Act} {w:World} {K:Act→World→Prop} {Q:Exit→Act→World→Prop} {o:Oper}
theorem checkKey_basic {kt:TypeId} {k:CK} (hk:ckIs P kt k=true) (e:Bool) (n:Nat) (u:Value):(Instr.checkKey e (n+1) kt u).run P w = .ok () w:=by
 unfold ckIs at hk
 split at hk<;>simp at hk<;>rename_i hu<;>simp [Instr.checkKey,run_underlying hu]
theorem checkKey_fields {I:Nat→Nat} (e:Bool) (n:Nat) {A:Array Value}:∀{fs:List Field} {ks:List CK} {off:Nat} {p q:List D} {b:Bool},ckFields P off fs ks=true→flatEq ks p q=some b→relDs φ I w p (A.toList.drop off) →
  (forIn fs PUnit.unit (fun (f:Field) (_:PUnit)=>(do
   if f.name ≠ "_" then Instr.checkKey e (n + 1) f.type (← part f.type A f.offset)
   pure (ForInStep.yield PUnit.unit):Sem (ForInStep PUnit)))).run P w = .ok PUnit.unit w
 | [],[],_,_,_,_,_,_,_=>by simp
 | f::fs,k::ks,off,p,q,b,hc,hf,hp=>by
  simp only [ckFields,Bool.and_eq_true,beq_iff_eq,bne_iff_ne] at hc
  obtain ⟨⟨⟨hn,rfl⟩,hk⟩,hr⟩:=hc
  cases p with
  | nil=>simp [flatEq] at hf
  | cons x p =>
   cases q with
   | nil=>simp [flatEq] at hf
   | cons y q =>
    simp only [flatEq,Option.bind_eq_some_iff,Option.map_eq_some_iff] at hf
    obtain ⟨b1,h1,b2,h2,rfl⟩:=hf
    obtain ⟨u,hu,ru⟩:=relDs_get hp (j:=0) rfl
    have hu':A[f.offset]?=some u:=by simpa [List.getElem?_drop] using hu
    have hp':relDs φ I w p (A.toList.drop (f.offset+1)):=by
     have:=relDs_drop hp 1;simpa [List.drop_drop,Nat.add_comm] using this
    have ih:=checkKey_fields e n hr h2 hp'
    have e1:=part_cell (P:=P) (w:=w) hk hu'
    have e2:=checkKey_basic (P:=P) (w:=w) hk e n u
    simp only [List.forIn_cons,ne_eq,hn,not_false_eq_true,if_true,Sem.run_bind,e1,Result.andThen_ok,e2,Sem.run_pure]
    exact ih
 | [],_::_,_,_,_,_,hc,_,_=>by simp [ckFields] at hc
 | _::_,[],_,_,_,_,hc,_,_=>by simp [ckFields] at hc
theorem checkKey_run {I:Nat→Nat} {kt:TypeId} {ks:List CK} (hk:keyTy P kt ks=true) {k:D} (hself:(keyEq ks k k).isSome=true) {u:Value} (hu:relD φ I w k u) (e:Bool):(Instr.checkKey e 10000 kt u).run P w = .ok () w:=by
 obtain ⟨b,hb⟩:=Option.isSome_iff_exists.1 hself
 unfold keyTy at hk
 split at hk
 ·exact checkKey_basic hk e 9999 u
 ·rename_i hne
  simp only [keyEq,Option.bind_eq_some_iff] at hb
  obtain ⟨p,hp,q,hq,hf⟩:=hb
  have hp':=keyCells_many (fun k hh=>hne k hh) hp
  subst hp'
  simp only [relD] at hu
  obtain ⟨A,rfl,ra,_⟩:=hu
  unfold flatIs at hk
  split at hk
  ·rename_i fs hfs
   simp only [Bool.and_eq_true,Bool.not_eq_true'] at hk
   have:=checkKey_fields (P:=P) (w:=w) e 9998 (A:=A) hk.2 hf (by simpa using ra)
   rw [Instr.checkKey]
   simp only [Sem.run_bind,run_underlying hfs,Result.andThen_ok,←Array.forIn_toList]
   have e2 : ∀ (x : PUnit), (forIn fs.toList x fun f _ => if f.name ≠ "_" then (do
       let __do_lift ←part f.type A f.offset
       Instr.checkKey e 9999 f.type __do_lift
       pure (ForInStep.yield PUnit.unit)) else (pure (ForInStep.yield PUnit.unit):Sem (ForInStep PUnit))).run P w = .ok PUnit.unit w:=fun _=>this
   rw [e2 PUnit.unit]
   rfl
  ·simp at hk
theorem sim_mkm (hs:SRel φ nt m dB s g a w) {rec:Rec} {d:Nat} (hc:chkI P φ nt o (.mkm d)=true)
  (hK:After φ nt m dB s g w (evI rec (.mkm d) s) o a K):o.wp P a w K Q:=by
 simp only [chkI,Bool.and_eq_true] at hc
 obtain ⟨hd,h⟩:=hc
 split at h
 ·rename_i t ho
  have hrun:(execOp a.eval o).run P w = .ok (.value (.map (some w.heap.size))) (w.alloc (.map #[] 0)):=by
   simp [execOp,ho,Instr.makeMap,newObj]
   rfl
  simp only [evI,St.putH] at hK
  have hg:=Grew.alloc w (.map #[] 0)
  have hb:=heap_alloc_at w (.map #[] 0)
  refine sim_newobj hs hd (b:=w.heap.size) (off:=0) (I':=g.I) hrun hg (fun _ _=>rfl) (fun b hb=>hs.heap.new b (by simp at hb;omega)) (Nat.le_refl _) ?_ ?_ hK
  ·exact ⟨#[],0,hb,⟨by simp,fun i p e hp=>by simp at hp⟩,hs.heap.new _ (Nat.le_refl _)⟩
  ·simp only [relV]
   exact ⟨by simp,rfl,fun kv _=>by simp [Gh.add]⟩
 ·simp at h
theorem keyEq_bits {I:Nat→Nat} {ks:List CK} {x y:D} (h:keyEq ks x y=some true) {u v:Value} (hu:relD φ I w x u) (hv:relD φ I w y v):Instr.sameBits 10000 v u=true:=by
 simp only [keyEq,Option.bind_eq_some_iff] at h
 obtain ⟨p,hp,q,hq,hf⟩:=h
 have cell:∀{k:CK} {x y:D} {u v:Value} (n:Nat),cellEq k x y=some true→relD φ I w x u→relD φ I w y v→Instr.sameBits n v u=true:=by
  intro k x y u v n h1 hu hv
  unfold cellEq at h1
  split at h1<;>simp only [Option.some.injEq,reduceCtorEq,Option.ite_none_right_eq_some] at h1
  ·obtain ⟨rfl,h1⟩:=h1
   have hu:=relD_int hu;have hv:=relD_int hv;subst hu;subst hv
   have h1:=beq_iff_eq.1 h1;subst h1
   cases n<;>simp [Instr.sameBits]
  ·have hu:=relD_bool hu;have hv:=relD_bool hv;subst hu;subst hv
   have h1:=beq_iff_eq.1 h1;subst h1
   cases n<;>simp [Instr.sameBits]
  ·simp only [relD] at hu hv
   obtain ⟨bs,rfl,hb⟩:=hu
   obtain ⟨cs,rfl,hc⟩:=hv
   have h1:=beq_iff_eq.1 h1
   subst hb;subst hc
   have hb:(cs==bs)=true:=by rw [beq_toListBytes];exact beq_iff_eq.2 h1.symm
   cases n<;>simp only [Instr.sameBits]<;>exact hb
 by_cases hone:∃k,ks=[k]
 ·obtain ⟨k,rfl⟩:=hone
  obtain ⟨rfl,_⟩:=keyCells_one hp
  obtain ⟨rfl,_⟩:=keyCells_one hq
  simp only [flatEq,Option.bind_eq_some_iff,Option.map_eq_some_iff,Option.some.injEq] at hf
  obtain ⟨b1,h1,b2,rfl,h2⟩:=hf
  rw [Bool.and_true] at h2
  subst h2
  exact cell _ h1 hu hv
 ·have hp':=keyCells_many (fun k hh=>hone ⟨k,hh⟩) hp
  have hq':=keyCells_many (fun k hh=>hone ⟨k,hh⟩) hq
  subst hp';subst hq'
  simp only [relD] at hu hv
  obtain ⟨A,rfl,ra,_⟩:=hu
  obtain ⟨B,rfl,rb,_⟩:=hv
  have hl:∀{ks:List CK} {p q:List D} {A B:List Value},flatEq ks p q=some true→relDs φ I w p A→relDs φ I w q B→A.length=B.length∧((B.zip A).all fun x=>Instr.sameBits 9999 x.1 x.2)=true:=by
   intro ks
   induction ks with
   | nil =>
    intro p q A B hf ra rb
    cases p<;>cases q<;>simp [flatEq] at hf
    cases A<;>cases B<;>simp_all [relDs]
   | cons k ks ih =>
    intro p q A B hf ra rb
    cases p with
    | nil=>simp [flatEq] at hf
    | cons x p =>
     cases q with
     | nil=>simp [flatEq] at hf
     | cons y q =>
      cases A with
      | nil=>simp [relDs] at ra
      | cons a A =>
       cases B with
       | nil=>simp [relDs] at rb
       | cons b B =>
        simp only [flatEq,Option.bind_eq_some_iff,Option.map_eq_some_iff] at hf
        obtain ⟨b1,h1,b2,h2,h3⟩:=hf
        simp only [Bool.and_eq_true] at h3
        obtain ⟨rfl,rfl⟩:=h3
        simp only [relDs] at ra rb
        obtain ⟨i1,i2⟩:=ih h2 ra.2 rb.2
        exact ⟨by simp [i1],by simp only [List.zip_cons_cons,List.all_cons,Bool.and_eq_true];exact ⟨cell 9999 h1 ra.1 rb.1,i2⟩⟩
  obtain ⟨h1,h2⟩:=hl hf ra rb
  have h1':B.size=A.size:=by simpa using h1.symm
  simp only [Instr.sameBits,h1',beq_self_eq_true,Bool.true_and]
  exact h2
theorem mfind_eq {ks:List CK} {k:D}:∀{kv:List (D×V)},mfind ks k kv=match kv.findIdx? (keyIs ks k) with | some j=>(kv[j]?).map (·.2) | none=>none
 | []=>rfl
 | p::kv=>by
  simp only [mfind,List.findIdx?_cons]
  split
  ·simp
  ·rw [mfind_eq (kv:=kv)]
   cases kv.findIdx? (keyIs ks k)<;>simp
theorem mset_eq {ks:List CK} {k:D} {v:V}:∀{kv:List (D×V)},mset ks k v kv=match kv.findIdx? (keyIs ks k) with | some j=>kv.set j (k,v) | none=>kv++[(k,v)]
 | []=>rfl
 | p::kv=>by
  simp only [mset,List.findIdx?_cons]
  split
  ·simp
  ·rw [mset_eq (kv:=kv)]
   cases kv.findIdx? (keyIs ks k)<;>simp
theorem mdel_eq {ks:List CK} {k:D}:∀{kv:List (D×V)},mdel ks k kv=match kv.findIdx? (keyIs ks k) with | some j=>kv.eraseIdx j | none=>kv
 | []=>rfl
 | p::kv=>by
  simp only [mdel,List.findIdx?_cons]
  split
  ·simp
  ·rw [mdel_eq (kv:=kv)]
   cases kv.findIdx? (keyIs ks k)<;>simp
theorem findIdx_lt {ks:List CK} {k:D} {kv:List (D×V)} {j:Nat} (h:kv.findIdx? (keyIs ks k)=some j):j<kv.length∧∃p,kv[j]?=some p∧keyIs ks k p=true:=by
 obtain ⟨h1,h2,_⟩:=List.findIdx?_eq_some_iff_getElem.1 h
 exact ⟨h1,kv[j],by simp [h1],h2⟩
theorem keyIs_eq {ks:List CK} {k:D} {p:D×V} (h:keyIs ks k p=true):keyEq ks k p.1=some true:=by
 unfold keyIs at h
 cases hq:keyEq ks k p.1 with
 | none=>simp [hq] at h
 | some b=>simp [hq] at h;rw [h]
theorem sim_map (hs:SRel φ nt m dB s g a w) {n:Nat} {kv kv':List (D×V)} {ES ES':Array MapEntry} {clk clk':Nat} {ok:Bool} (hn:hget s.heap n = .mp kv) (hb:w.heap[g.β n]?=some (.map ES clk)) (hI:g.I (g.β n)=0)
  (hnew:∀{h':List O} {w':World},HLe s.heap g w h' g w'→relKV φ h' g w' kv' ES'.toList) :
  ∃w',(setObj (g.β n) (.map ES' clk')).run P w = .ok () w'∧SRel φ nt m dB ⟨s.env,s.heap.set n (.mp kv'),ok⟩ g a w'∧Frame m s.heap g w (s.heap.set n (.mp kv')) g w':=by
 have hl:(hget s.heap n).live=true:=by rw [hn];rfl
 have hlt:g.β n<w.heap.size:=hs.heap.block hl
 refine ⟨_,MapKept.run_setObj_map (P:=P) _ hb,?_⟩
 have ht:Turned w { w with heap:=w.heap.setIfInBounds (g.β n) (.map ES' clk') } (g.β n) :=
  ⟨by simp,fun k hk=>by simp [Array.getElem?_setIfInBounds_ne (Ne.symm hk)],rfl,rfl,rfl⟩
 have hE:Ext g.I w g.I { w with heap:=w.heap.setIfInBounds (g.β n) (.map ES' clk') }:=⟨fun _=>Nat.le_refl _,fun b i hi=>by
  by_cases hbn:b=g.β n
  ·subst hbn;omega
  ·exact cell_of_heap (ht.same b hbn) i⟩
 have hle:=hle_turn (x:=.mp kv') hs.heap hl ht hE (fun es he=>by simp [O.es?] at he) (fun _ _=>⟨kv,hn⟩)
 have hH:=hrel_turn (x:=.mp kv') hs.heap hl ht hle (fun _ _=>rfl) ⟨ES',clk',by simp [hlt],hnew hle,hI⟩
 exact ⟨hs.turn hl ht hle hH,frame_turn (.mp kv') hl ht hE (fun _ _=>rfl) hle⟩
theorem keyOk_spec {ks:List CK} {k:D} {kv:List (D×V)} (h:keyOk ks k kv=true):(keyEq ks k k).isSome=true∧(kv.all fun p=>(keyEq ks k p.1).isSome)=true:=by
 simpa [keyOk] using h
theorem mp_rel {h:List O} (hH:HRel φ h g w) {n:Nat} {v:Value} {kv:List (D×V)} (hn:hget h n = .mp kv) (hr:relV φ h g w (.mp n) v):v = .map (some (g.β n))∧∃ES clk,w.heap[g.β n]?=some (.map ES clk)∧relKV φ h g w kv ES.toList∧g.I (g.β n)=0:=by
 simp only [relV] at hr
 have:=hH.obj n
 rw [hn] at this
 exact ⟨hr.2.2 kv hn,this⟩
theorem relD_of_V {h:List O} {k:D} {v:Value} (hr:relV φ h g w (.d k) v):relD φ g.I w k v:=by simpa only [relV] using hr
theorem sim_mput (hs:SRel φ nt m dB s g a w) {rec:Rec} {x k v:A} {ks:List CK} (hc:chkI P φ nt o (.mput x k v ks)=true) (hok:(evI rec (.mput x k v ks) s).ok=true)
  (hK:After φ nt m dB s g w (evI rec (.mput x k v ks) s) o a K):o.wp P a w K Q:=by
 simp only [chkI,Bool.and_eq_true,beq_iff_eq] at hc
 obtain ⟨hdst,hc⟩:=hc
 have key:∀{t:TypeId} {x' k' v':Operand},(execOp a.eval o).run P w=(do Instr.mapUpdate t (a.eval x') (a.eval k') (a.eval v');pure .skip:Sem Next).run P w →
   (chkA φ x' x&&chkA φ k' k&&chkA φ v' v&&(match P.underlying t with | some (.map kt _)=>keyTy P kt ks | _=>false))=true→o.wp P a w K Q:=by
  intro t x' k' v' ho h
  simp only [Bool.and_eq_true] at h
  obtain ⟨⟨⟨hx,hk⟩,hv⟩,ht⟩:=h
  split at ht
  ·rename_i kt et hty
   have rx:=chkA_rel hs hx
   have rk:=chkA_rel hs hk
   have rv:=chkA_rel hs hv
   simp only [evI] at hok hK
   obtain ⟨hh,hst⟩:=setHeap_spec hok
   rw [hst] at hK
   unfold mputH at hst
   split at hst
   ·rename_i n kd hxv hkv
    rw [hxv] at rx
    rw [hkv] at rk
    split at hst
    ·rename_i kv hn
     split at hst
     ·rename_i hcond
      obtain ⟨hko,hvk⟩:=hcond
      simp only [Option.some.injEq] at hst
      subst hst
      obtain ⟨hself,hall⟩:=keyOk_spec hko
      obtain ⟨ex,ES,clk,hb,hkvr,hI⟩:=mp_rel hs.heap hn rx
      have hkd:=relD_of_V rk
      have e1:=checkKey_run (P:=P) (w:=w) ht hself hkd false
      obtain ⟨r,e2,e3⟩:=findKey_rel (P:=P) ht hkd hkvr hall
      have fin:∀{kv':List (D×V)} {ES':Array MapEntry} {clk':Nat},mset ks kd (s.get v) kv=kv'→(Instr.mapUpdate t (a.eval x') (a.eval k') (a.eval v')).run P w=(setObj (g.β n) (.map ES' clk')).run P w →
        (∀{h':List O} {w':World},HLe s.heap g w h' g w'→relKV φ h' g w' kv' ES'.toList)→o.wp P a w K Q:=by
       intro kv' ES' clk' hkv' hrun hnew
       obtain ⟨w',h1,h2,h3⟩:=sim_map (P:=P) hs (ok:=s.ok) (clk':=clk') hn hb hI hnew
       refine wp_skip' (w':=w') (by rw [ho];simp [hrun,h1]) ?_
       have:=hK g undef w'
       rw [hdst] at this ⊢
       subst hkv'
       exact this h2 h3
      cases hf:kv.findIdx? (keyIs ks kd) with
      | none =>
       rw [hf] at e3
       subst e3
       refine fin (kv':=kv++[(kd,s.get v)]) (ES':=ES.push { key:=a.eval k',val:=a.eval v',born:=clk }) (clk':=clk+1) (by rw [mset_eq,hf]) ?_ fun hle=>?_
       ·simp [Instr.mapUpdate,run_underlying hty,ex,MapKept.run_getObj_map hb,e1,e2]
       ·have hm:=relKV_move hle hkvr
        refine ⟨by simpa using hm.1,fun i p e hp he=>?_⟩
        rw [Array.toList_push] at he
        have hlen:=hm.1
        rcases Nat.lt_trichotomy i kv.length with hi | hi | hi
        ·rw [List.getElem?_append_left hi] at hp
         rw [List.getElem?_append_left (by omega)] at he
         exact hm.2 i p e hp he
        ·subst hi
         rw [List.getElem?_append_right (Nat.le_refl _)] at hp
         rw [List.getElem?_append_right (by omega)] at he
         rw [hlen] at he
         simp at hp he
         subst hp;subst he
         exact ⟨relD_ext hle.ext hkd,relV_le hle rv⟩
        ·rw [List.getElem?_eq_none (by simp;omega)] at hp
         simp at hp
      | some j =>
       rw [hf] at e3
       obtain ⟨e,he,rfl⟩:=e3
       obtain ⟨hj,p,hp,hpk⟩:=findIdx_lt hf
       have hb1:=keyEq_bits (w:=w) (keyIs_eq hpk) hkd (hkvr.2 j p e hp he).1
       have he':ES[j]?=some e:=by simpa using he
       refine fin (kv':=kv.set j (kd,s.get v)) (ES':=ES.modify j fun e=>{ e with key:=a.eval k',val:=a.eval v' }) (clk':=clk) (by rw [mset_eq,hf]) ?_ fun hle=>?_
       ·simp [Instr.mapUpdate,run_underlying hty,ex,MapKept.run_getObj_map hb,e1,e2,he',Instr.keyThatStays,hb1]
       ·have hm:=relKV_move hle hkvr
        refine ⟨by simpa using hm.1,fun i p' e' hp' he'=>?_⟩
        rw [Array.toList_modify,List.getElem?_modify] at he'
        rw [List.getElem?_set] at hp'
        split at hp'
        ·rename_i hij
         subst hij
         simp [he] at he'
         simp only [hj,if_true,Option.some.injEq] at hp'
         subst hp';subst he'
         exact ⟨relD_ext hle.ext hkd,relV_le hle rv⟩
        ·rename_i hij
         simp [hij] at he'
         exact hm.2 i p' e' hp' (by simpa using he')
     ·simp at hst
    ·simp at hst
   ·simp at hst
  ·simp at ht
 split at hc
 ·rename_i t x' k' v' ho
  exact key (by simp [execOp,ho]) hc
 ·rename_i t x' k' v' ho
  exact key (by simp [execOp,ho]) hc
 ·simp at hc
theorem sim_mget (hs:SRel φ nt m dB s g a w) {rec:Rec} {d:Nat} {x k:A} {z:D} {c:Bool} {ks:List CK} (hc:chkI P φ nt o (.mget d x k z c ks)=true) (hok:(evI rec (.mget d x k z c ks) s).ok=true)
  (hK:After φ nt m dB s g w (evI rec (.mget d x k z c ks) s) o a K):o.wp P a w K Q:=by
 simp only [chkI,Bool.and_eq_true] at hc
 obtain ⟨hd,hc⟩:=hc
 split at hc
 ·rename_i t x' k' c' ho
  simp only [Bool.and_eq_true,beq_iff_eq] at hc
  obtain ⟨⟨⟨hx,hk⟩,rfl⟩,ht⟩:=hc
  split at ht
  ·rename_i kt et hty
   simp only [Bool.and_eq_true] at ht
   obtain ⟨ht,hz⟩:=ht
   split at hz
   ·rename_i info hinfo
    split at hz
    ·rename_i zv hzv
     have rx:=chkA_rel hs hx
     have rk:=chkA_rel hs hk
     simp only [evI] at hok hK
     refine sim_putO hs hd hok (fun v hv=>?_) hK
     have hzero:(zeroValue et).run P w = .ok zv w:=by simp [zeroValue,typeInfo,hinfo,hzv]
     have fin:∀{kd:D} {kv:List (D×V)} {ES:List MapEntry} {es:Array MapEntry},s.get k = .d kd→es.toList=ES→relKV φ s.heap g w kv ES→mlook ks kd z c' kv=some v →
       (a.eval x' = .map none∧es=#[]∨∃n clk,a.eval x' = .map (some n)∧w.heap[n]?=some (.map es clk)) →
       ∃v',(execOp a.eval o).run P w = .ok (.value v') w∧relV φ s.heap g w v v':=by
      intro kd kv ES es hkd hes hkvr hl hrun
      rw [hkd] at rk
      have hkd:=relD_of_V rk
      unfold mlook at hl
      split at hl
      ·rename_i hko
       obtain ⟨hself,hall⟩:=keyOk_spec hko
       have e1:=checkKey_run (P:=P) (w:=w) ht hself hkd es.isEmpty
       obtain ⟨r,e2,e3⟩:=findKey_rel (P:=P) ht hkd hkvr hall
       rw [mfind_eq] at hl
       cases hf:kv.findIdx? (keyIs ks kd) with
       | none =>
        rw [hf] at e3 hl
        subst e3
        simp only [Option.some.injEq] at hl
        subst hl
        refine ⟨if c' then .tuple #[zv,.bool false] else zv,?_,?_⟩
        ·rcases hrun with ⟨ex,rfl⟩ | ⟨n,clk,ex,hb⟩
         ·simp at hes
          subst hes
          simp at e1 e2
          simp [execOp,ho,Instr.lookup,ex,run_underlying hty,e1,e2,hzero]
         ·simp [execOp,ho,Instr.lookup,ex,run_underlying hty,MapKept.run_getObj_map hb,e1,hes,e2,hzero]
        ·have:=chkVal_rel (w:=w) (I:=g.I) hz
         cases c' with
         | true=>simp only [if_true,relV];exact ⟨_,rfl,by simp [relVs,relV,relD,this]⟩
         | false=>simp only [Bool.false_eq_true,if_false,relV];exact this
       | some j =>
        rw [hf] at e3 hl
        obtain ⟨e,he,rfl⟩:=e3
        obtain ⟨hj,p,hp,hpk⟩:=findIdx_lt hf
        simp only [hp,Option.map_some,Option.some.injEq] at hl
        subst hl
        have hpe:=(hkvr.2 j p e hp he).2
        refine ⟨if c' then .tuple #[e.val,.bool true] else e.val,?_,?_⟩
        ·rcases hrun with ⟨ex,rfl⟩ | ⟨n,clk,ex,hb⟩
         ·simp at hes
          subst hes
          simp at he
         ·simp [execOp,ho,Instr.lookup,ex,run_underlying hty,MapKept.run_getObj_map hb,e1,hes,e2]
        ·cases c' with
         | true=>simp only [if_true,relV];exact ⟨_,rfl,by simp [relVs,relV,relD,hpe]⟩
         | false=>simpa only [Bool.false_eq_true,if_false] using hpe
      ·simp at hl
     unfold mgetV at hv
     split at hv
     ·rename_i kd hkd
      split at hv
      ·rename_i n hxv
       rw [hxv] at rx
       split at hv
       ·rename_i kv hn
        obtain ⟨ex,ES,clk,hb,hkvr,hI⟩:=mp_rel hs.heap hn rx
        exact fin (es:=ES) hkd rfl hkvr hv (.inr ⟨_,_,ex,hb⟩)
       ·simp at hv
      ·rename_i hxv
       rw [hxv] at rx
       have ex:a.eval x' = .map none:=by simpa [relV,relD] using rx
       exact fin (es:=#[]) (kv:=[]) hkd rfl ⟨rfl,fun i p e hp=>by simp at hp⟩ hv (.inl ⟨ex,rfl⟩)
      ·simp at hv
     ·simp at hv
    ·simp at hz
   ·simp at hz
  ·simp at ht
 ·simp at hc
theorem sim_mdel (hs:SRel φ nt m dB s g a w) {rec:Rec} {x k:A} {ks:List CK} (hc:chkI P φ nt o (.mdel x k ks)=true) (hok:(evI rec (.mdel x k ks) s).ok=true)
  (hK:After φ nt m dB s g w (evI rec (.mdel x k ks) s) o a K):o.wp P a w K Q:=by
 simp only [chkI,Bool.and_eq_true,beq_iff_eq] at hc
 obtain ⟨hdst,hc⟩:=hc
 split at hc
 ·rename_i c ho
  split at hc
  ·rename_i x' k' t t2 hcal hargs htys
   simp only [Bool.and_eq_true] at hc
   obtain ⟨⟨hx,hk⟩,ht⟩:=hc
   split at ht
   ·rename_i kt et hty
    obtain ⟨cal,args,tys⟩:=c
    simp only at hcal hargs htys
    have hargs':args=#[x',k']:=by rw [←Array.toList_inj];exact hargs
    have htys':tys=#[t,t2]:=by rw [←Array.toList_inj];exact htys
    subst hcal;subst hargs';subst htys'
    have rx:=chkA_rel hs hx
    have rk:=chkA_rel hs hk
    simp only [evI] at hok hK
    obtain ⟨hh,hst⟩:=setHeap_spec hok
    rw [hst] at hK
    have fin:∀{w':World},(Builtin.delete_ #[t,t2] o.type #[a.eval x',a.eval k']).run P w = .ok (.tuple #[]) w'→SRel φ nt m dB ⟨s.env,hh,s.ok⟩ g a w'→Frame m s.heap g w hh g w'→o.wp P a w K Q:=by
     intro w' h1 h2 h3
     refine wp_val (v':=.tuple #[]) (w':=w') (by simp [execOp,ho,resolve,invoke,builtin,h1]) ?_
     have:=hK g (.tuple #[]) w'
     rw [hdst] at this ⊢
     exact this h2 h3
    unfold mdelH at hst
    split at hst
    ·rename_i n kd hxv hkv
     rw [hxv] at rx
     rw [hkv] at rk
     have hkd:=relD_of_V rk
     split at hst
     ·rename_i kv hn
      split at hst
      ·rename_i hko
       simp only [Option.some.injEq] at hst
       subst hst
       obtain ⟨hself,hall⟩:=keyOk_spec hko
       obtain ⟨ex,ES,clk,hb,hkvr,hI⟩:=mp_rel hs.heap hn rx
       have e1:=checkKey_run (P:=P) (w:=w) ht hself hkd ES.isEmpty
       obtain ⟨r,e2,e3⟩:=findKey_rel (P:=P) ht hkd hkvr hall
       have go:∀{kv':List (D×V)} {ES':Array MapEntry},mdel ks kd kv=kv'→(Builtin.delete_ #[t,t2] o.type #[a.eval x',a.eval k']).run P w=(do setObj (g.β n) (.map ES' clk);pure (.tuple #[]):Sem Value).run P w →
         (∀{h':List O} {w':World},HLe s.heap g w h' g w'→relKV φ h' g w' kv' ES'.toList)→o.wp P a w K Q:=by
        intro kv' ES' hkv' hrun hnew
        obtain ⟨w',h1,h2,h3⟩:=sim_map (P:=P) hs (ok:=s.ok) (clk':=clk) hn hb hI hnew
        subst hkv'
        exact fin (by rw [hrun];simp [h1]) h2 h3
       cases hf:kv.findIdx? (keyIs ks kd) with
       | none =>
        rw [hf] at e3
        subst e3
        refine go (kv':=kv) (ES':=ES) (by rw [mdel_eq,hf]) ?_ fun hle=>relKV_move hle hkvr
        simp [Builtin.delete_,run_underlying hty,ex,MapKept.run_getObj_map hb,e1,e2]
       | some j =>
        rw [hf] at e3
        obtain ⟨e,he,rfl⟩:=e3
        refine go (kv':=kv.eraseIdx j) (ES':=ES.eraseIdxIfInBounds j) (by rw [mdel_eq,hf]) ?_ fun hle=>?_
        ·simp [Builtin.delete_,run_underlying hty,ex,MapKept.run_getObj_map hb,e1,e2]
        ·have hm:=relKV_move hle hkvr
         have het:(ES.eraseIdxIfInBounds j).toList=ES.toList.eraseIdx j:=by simp
         rw [het]
         refine ⟨by rw [List.length_eraseIdx,List.length_eraseIdx,hm.1],fun i p e hp he=>?_⟩
         rw [List.getElem?_eraseIdx] at hp he
         split at hp
         ·rename_i hij;rw [if_pos hij] at he;exact hm.2 i p e hp he
         ·rename_i hij;rw [if_neg hij] at he;exact hm.2 (i+1) p e hp he
      ·simp at hst
     ·simp at hst
    ·rename_i kd hxv hkv
     rw [hxv] at rx
     rw [hkv] at rk
     have hkd:=relD_of_V rk
     have ex:a.eval x' = .map none:=by simpa [relV,relD] using rx
     split at hst
     ·rename_i hko
      simp only [Option.some.injEq] at hst
      subst hst
      obtain ⟨hself,hall⟩:=keyOk_spec hko
      have e1:=checkKey_run (P:=P) (w:=w) ht hself hkd true
      refine fin (w':=w) ?_ hs (Frame.refl _ _ _ _)
      simp [Builtin.delete_,run_underlying hty,ex,e1]
     ·simp at hst
    ·simp at hst
   ·simp at ht
  ·simp at hc
 ·simp at hc
end
end Go.VS
namespace Go.VS
section
variable {P:Program} {φ:Phi}
variable {nt m dB:Nat} {s:St} {g:Gh} {a:Act} {w:World} {K:Act→World→Prop} {Q:Exit→Act→World→Prop} {o:Oper}
theorem asInt_rel {V':Value} {x:V} {n:Int} {h:List O} (hv:asInt x=some n) (hr:relV φ h g w x V'):∃k,V' = .int k n:=by
 cases x with
 | d z =>
  cases z with
  | i q k=>simp [asInt] at hv;subst hv;exact ⟨q,relD_int (by simpa only [relV] using hr)⟩
  | _=>simp [asInt] at hv
 | _=>simp [asInt] at hv
theorem sim_mks (hs:SRel φ nt m dB s g a w) {rec:Rec} {d es:Nat} {n k:A} {z:List D} (hc:chkI P φ nt o (.mks d es z n k)=true) (hok:(evI rec (.mks d es z n k) s).ok=true)
  (hK:After φ nt m dB s g w (evI rec (.mks d es z n k) s) o a K):o.wp P a w K Q:=by
 simp only [chkI,Bool.and_eq_true] at hc
 obtain ⟨hd,h⟩:=hc
 split at h
 ·rename_i t n' k' ho
  simp only [Bool.and_eq_true,decide_eq_true_eq] at h
  obtain ⟨⟨⟨hn,hk⟩,hpos⟩,ht⟩:=h
  split at ht
  ·rename_i e hu
   simp only [Bool.and_eq_true] at ht
   obtain ⟨hz0,ht⟩:=ht
   obtain ⟨i,zv,hi,hz,hzr,hz1,hzs⟩:=zero_spec (g:=g) (w:=w) hz0
   rw [hi] at ht
   simp only [Bool.and_eq_true,beq_iff_eq,decide_eq_true_eq] at ht
   obtain ⟨hsz,hby⟩:=ht
   subst hsz
   have rn:=chkA_rel hs hn
   have rk:=chkA_rel hs hk
   simp only [evI] at hok hK
   obtain ⟨v,hh,hv⟩:=putH_spec hok
   rw [hv] at hK
   simp only [St.putH] at hK
   unfold mksV at hv
   split at hv
   ·rename_i nn kk hnv hkv
    split at hv
    ·rename_i hcond
     obtain ⟨h0,hnk,hfit,hzl⟩:=hcond
     simp only [Option.some.injEq,Prod.mk.injEq] at hv
     obtain ⟨rfl,rfl⟩:=hv
     obtain ⟨kn,en⟩:=asInt_rel hnv rn
     obtain ⟨kq,ek⟩:=asInt_rel hkv rk
     have hzc:zv.cells.size=i.size:=by
      have:=relDs_length hzr
      rw [hzl] at this
      simpa using this.symm
     have hc24:kk.toNat≤16777216:=Nat.le_trans (Nat.le_mul_of_pos_right _ hpos) hfit
     have hbm:(i.bytes:Int)*kk≤281474976710656:=by
      have h1:i.bytes*kk.toNat≤16777216*16777216:=Nat.mul_le_mul hby hc24
      have h2:(kk.toNat:Int)=kk:=by omega
      rw [←h2]
      have h3:((i.bytes*kk.toNat:Nat):Int)≤((16777216*16777216:Nat):Int):=Int.ofNat_le.2 h1
      rw [Int.natCast_mul] at h3
      exact h3
     have hrun:=run_makeSlice (P:=P) w t e i zv hu hi hz kn kq nn kk h0 hnk hfit hbm (by omega)
     obtain ⟨z1,z2,z3⟩:=zeroCells_rel hzr hz1 (by rw [hzl];exact hpos) nn.toNat
     obtain ⟨y1,y2,y3⟩:=zeroCells_rel hzr hz1 (by rw [hzl];exact hpos) (kk.toNat - nn.toNat)
     have hmade:madeCells zv.cells (kk.toNat*i.size)=((Builtin.zeroCells zv.cells nn.toNat).toList++(Builtin.zeroCells zv.cells (kk.toNat - nn.toNat)).toList).toArray:=by
      have e1:∀q:Nat,(Builtin.zeroCells zv.cells q).toList=(List.replicate q zv.cells.toList).flatten:=by
       intro q
       unfold Builtin.zeroCells
       rw [show q*zv.cells.size=q*i.size by rw [hzc]]
       exact replicate_flatten q i.size zv.cells hzc hpos
      apply Array.ext'
      rw [e1,e1]
      show (madeCells zv.cells (kk.toNat*i.size)).toList=_
      unfold madeCells
      rw [replicate_flatten kk.toNat i.size zv.cells hzc hpos,←List.flatten_append,List.replicate_append_replicate]
      have:nn.toNat+(kk.toNat - nn.toNat)=kk.toNat:=by omega
      rw [this]
     rw [hmade] at hrun
     have hll:(List.replicate nn.toNat z).length=nn.toNat:=by simp
     have:=sim_newrowsG (P:=P) (K:=K) (Q:=Q) (o:=o) (a:=a) hs hd (es:=i.size) (ex:=true) (ys:=List.replicate nn.toNat z) (C:=(Builtin.zeroCells zv.cells nn.toNat).toList) (ok:=s.ok) (Grew.refl w) rfl
      (rest:=(Builtin.zeroCells zv.cells (kk.toNat - nn.toNat)).toList) (T:=e) (cap:=kk.toNat)
      (by rw [hll];simp only [execOp,ho,en,ek];simp [hrun]) (fun r hr=>by rw [List.mem_replicate] at hr;rw [hr.2,hzl]) z1 z2 (by rw [hll];omega) ?_ y2
     ·refine this fun g' v' w' k1 k2=>?_
      rw [hll] at k1
      exact hK g' v' w' k1 k2
     ·rw [z3,y3,hzl,←Nat.add_mul]
      exact Nat.mul_le_mul_right _ (by omega)
    ·simp at hv
   ·simp at hv
  ·simp at ht
 ·simp at h
theorem sim_ixa (hs:SRel φ nt m dB s g a w) {rec:Rec} {d len es:Nat} {x i:A} (hc:chkI P φ nt o (.ixa d x i len es)=true) (hok:(evI rec (.ixa d x i len es) s).ok=true)
  (hK:After φ nt m dB s g w (evI rec (.ixa d x i len es) s) o a K):o.wp P a w K Q:=by
 simp only [chkI,Bool.and_eq_true] at hc
 obtain ⟨hd,h⟩:=hc
 split at h
 ·rename_i t y k ho
  simp only [Bool.and_eq_true] at h
  obtain ⟨⟨hx,hi⟩,ht⟩:=h
  have rx:=chkA_rel hs hx
  have ri:=chkA_rel hs hi
  refine sim_putO hs hd hok (fun v hv=>?_) hK
  split at ht
  ·rename_i n e hu
   simp only [Bool.and_eq_true,decide_eq_true_eq,beq_iff_eq] at ht
   obtain ⟨⟨⟨rfl,h1⟩,hsz⟩,hpos⟩:=ht
   have hsz':=run_size (P:=P) (w:=w) hsz
   have run:∀{b o':Nat} {q:IntKind} {j:Int},a.eval y = .pointer (some ⟨b,o',none⟩)→a.eval k = .int q j→0≤j→j<n→(execOp a.eval o).run P w = .ok (.value (.pointer (some ⟨b,o'+j.toNat*es,none⟩))) w:=by
    intro b o' q j he hk h0 hj
    simp [execOp,ho,he,hk,Instr.indexAt,underlying,hu,Instr.sureAddr,asIntOf,h0,hj,hsz',addr_add]
   unfold ixa at hv
   split at hv
   ·rename_i cs kk j hp hq
    rw [hp] at rx;rw [hq] at ri
    have ei:=relD_int (by simpa only [relV] using ri)
    simp only [relV,relD] at rx
    obtain ⟨b,o',he,hI,hcs⟩:=rx
    split at hv
    ·rename_i hcond
     obtain ⟨h0,hj,hle⟩:=hcond
     simp only [Option.some.injEq] at hv
     subst hv
     refine ⟨_,run he ei h0 hj,?_⟩
     simp only [relV,relD]
     refine ⟨b,o'+j.toNat*es,rfl,?_,relCells_drop hcs _⟩
     have:j.toNat*es≤n*es:=Nat.mul_le_mul_right _ (by omega)
     simp
     omega
    ·simp at hv
   ·rename_i q r c kk j hp hq
    rw [hp] at rx;rw [hq] at ri
    have ei:=relD_int (by simpa only [relV] using ri)
    simp only [relV] at rx
    split at hv
    ·rename_i hcond
     obtain ⟨h0,hj,ha⟩:=hcond
     simp only [Option.some.injEq] at hv
     subst hv
     obtain ⟨es',hes⟩:=es_of_arr ha
     refine ⟨_,run (rx.2.2 es' hes) ei h0 hj,?_⟩
     simp only [relV]
     refine ⟨rx.1,rfl,fun es'' he'=>?_⟩
     rw [hes] at he'
     simp at he'
     subst he'
     simp [Nat.add_assoc]
    ·simp at hv
   ·simp at hv
  ·simp at ht
 ·simp at h
end
end Go.VS
namespace Go.VS
section
variable {P:Program} {φ:Phi}
variable {nt m dB:Nat} {s:St} {g:Gh} {a:Act} {w:World} {K:Act→World→Prop} {Q:Exit→Act→World→Prop} {o:Oper}
theorem sim_ldd (hs:SRel φ nt m dB s g a w) {rec:Rec} {d n:Nat} {ag:Bool} {x:A} (hc:chkI P φ nt o (.ldd d x n ag)=true) (hok:(evI rec (.ldd d x n ag) s).ok=true)
  (hK:After φ nt m dB s g w (evI rec (.ldd d x n ag) s) o a K):o.wp P a w K Q:=by
 simp only [evI] at hok hK
 obtain ⟨v,hv⟩:=putO_spec hok
 have he:ldV s.heap n ag (s.get x)=some v:=by
  unfold lddV at hv
  split at hv
  ·rename_i cs hx;rw [hx];exact hv
  ·rename_i cs hx;rw [hx];exact hv
  ·simp at hv
 refine sim_ld (rec:=rec) hs hc ?_ ?_
 ·simp only [evI,he];rw [hv] at hok;exact hok
 ·simp only [evI,he];rw [hv] at hK;exact hK
theorem sim_fad (hs:SRel φ nt m dB s g a w) {rec:Rec} {d off n:Nat} {x:A} (hc:chkI P φ nt o (.fad d x off n)=true) (hok:(evI rec (.fad d x off n) s).ok=true)
  (hK:After φ nt m dB s g w (evI rec (.fad d x off n) s) o a K):o.wp P a w K Q:=by
 simp only [evI] at hok hK
 obtain ⟨v,hv⟩:=putO_spec hok
 have he:fa s.heap off n (s.get x)=some v:=by
  unfold fadV at hv
  split at hv
  ·rename_i cs hx;rw [hx];exact hv
  ·rename_i cs hx;rw [hx];exact hv
  ·simp at hv
 refine sim_fa (rec:=rec) hs hc ?_ ?_
 ·simp only [evI,he];rw [hv] at hok;exact hok
 ·simp only [evI,he];rw [hv] at hK;exact hK
def I.isY:I→Bool
 | .cally ..=>true
 | _=>false
theorem sim_I {rec:Rec} (hq:QuietCall P φ rec) (hs:SRel φ nt m dB s g a w) {i:I} (hc:chkI P φ nt o i=true) (hY:i.isY=false) (hok:(evI rec i s).ok=true)
  (hK:After φ nt m dB s g w (evI rec i s) o a K):o.wp P a w K Q:=by
 cases i with
 | mv d x=>exact sim_mv hs hc hK
 | pick d c x y=>exact sim_pick hs hc hok hK
 | box d x n fz=>exact sim_box hs hc hok hK
 | new d z=>exact sim_new hs hc hK
 | build d z ps=>exact sim_build hs hc hok hK
 | buildSl d es n z ps fz=>exact sim_buildSl hs hc hok hK
 | ld d x n ag=>exact sim_ld hs hc hok hK
 | st x y n fz =>
  cases fz with
  | false=>exact sim_st hs hc hok hK
  | true=>exact sim_stfz hs hc hok hK
 | fa d x o n=>exact sim_fa hs hc hok hK
 | ixs d x i es=>exact sim_ixs hs hc hok hK
 | bin d op x y=>exact sim_bin hs hc hok hK
 | eqv d neg x y ks=>exact sim_eqv hs hc hok hK
 | eqb d neg x y=>exact sim_eqb hs hc hok hK
 | isnil d neg x k=>exact sim_isnil hs hc hok hK
 | un d op x=>exact sim_un hs hc hok hK
 | cvi d k x=>exact sim_cvi hs hc hok hK
 | len d x k=>exact sim_len hs hc hok hK
 | ext d x i=>exact sim_ext hs hc hok hK
 | sl d x lo hi es=>exact sim_sl hs hc hok hK
 | cl0 d x es=>exact sim_cl0 hs hc hok hK
 | app d x y es=>exact sim_app hs hc hok hK
 | appf d x y es=>exact sim_appf hs hc hok hK
 | lit0 d es z=>exact sim_lit0 hs hc hK
 | ldz d x n ag=>exact sim_ldz hs hc hok hK
 | apk d x y es=>exact sim_apk hs hc hok hK
 | callz d f xs=>exact sim_callz hq hs hc hok hK
 | calls d f xs=>exact sim_calls hq hs hc hok hK
 | cally d x xs=>simp [I.isY] at hY
 | mkf d f x y=>exact sim_mkf hs hc hK
 | call d f xs=>exact sim_call hq hs hc hok hK
 | callv d x xs=>exact sim_callv hq hs hc hok hK
 | inv d nm tbl x xs=>exact sim_inv hq hs hc hok hK
 | mki d t x=>exact sim_mki hs hc hok hK
 | mx d x y=>exact sim_mx hs hc hok hK
 | callk d f xs=>exact sim_callr false hq hs hc hok hK
 | callr d f xs=>exact sim_callr true hq hs hc hok hK
 | callvr d x xs=>exact sim_callvr hq hs hc hok hK
 | nck d x=>exact sim_nck hs hc hok hK
 | mn d x y=>exact sim_mn hs hc hok hK
 | fld d x off n ag=>exact sim_fld hs hc hok hK
 | sl3 d x lo hi mz es=>exact sim_sl3 hs hc hok hK
 | clr d x es z=>exact sim_clr hs hc hok hK
 | copy d x y es=>exact sim_copy hs hc hok hK
 | cap d x=>exact sim_cap hs hc hok hK
 | ixa d x j len es=>exact sim_ixa hs hc hok hK
 | mks d es z n k=>exact sim_mks hs hc hok hK
 | appz d x k es z=>exact sim_appz hs hc hok hK
 | ovl d f x y es=>exact sim_ovl hs hc hok hK
 | bad d=>simp [evI,St.fail] at hok
 | ldd d x n ag=>exact sim_ldd hs hc hok hK
 | fad d x o n=>exact sim_fad hs hc hok hK
 | mkm d=>exact sim_mkm hs hc hK
 | mput m k v ks=>exact sim_mput hs hc hok hK
 | mget d m k z ok ks=>exact sim_mget hs hc hok hK
 | mdel m k ks=>exact sim_mdel hs hc hok hK
 | _=>simp [chkI] at hc
end
end Go.VS
