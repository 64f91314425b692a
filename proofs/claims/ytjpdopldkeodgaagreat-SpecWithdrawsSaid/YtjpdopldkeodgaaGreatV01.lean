import Derived.Test.YtjpdopldkeodgaaGreatV00
import Derived.Laws.Cover3
import Derived.ChangeKeysEq
import Derived.WideLaws
import Derived.Laws.AppendOwn
set_option linter.all false
namespace Go.VS
section
variable {P:Program} {φ:Phi}
variable {nt m dB:Nat} {s:St} {g:Gh} {a:Act} {w:World} {K:Act→World→Prop} {Q:Exit→Act→World→Prop} {o:Oper}
theorem cellEq_run {I:Nat→Nat} {t:TypeId} {k:CK} (hk:ckIs P t k=true) {x y:D} {b:Bool} (h:cellEq k x y=some b) {u v:Value} (hu:relD φ I w x u) (hv:relD φ I w y v) (d:Nat) :
  (Op.equalIn (d+1) t u v).run P w = .ok b w:=by
 unfold ckIs at hk
 unfold cellEq at h
 split at h<;>simp only [Option.some.injEq,reduceCtorEq,Option.ite_none_right_eq_some] at h
 ·obtain ⟨rfl,rfl⟩:=h
  have hu:=relD_int hu;have hv:=relD_int hv;subst hu;subst hv
  split at hk<;>simp_all
  exact run_equalIn_int w d t _ _ _ _ (by assumption)
 ·subst h
  have hu:=relD_bool hu;have hv:=relD_bool hv;subst hu;subst hv
  split at hk<;>simp_all
  exact run_equalIn_bool w d t _ _ (by assumption)
 ·subst h
  simp only [relD] at hu hv
  obtain ⟨bs,rfl,hb⟩:=hu
  obtain ⟨cs,rfl,hc⟩:=hv
  split at hk<;>simp_all
  rw [run_equalIn_string w d t _ _ (by assumption),hb,hc]
theorem part_cell {t:TypeId} {k:CK} (hk:ckIs P t k=true) {xs:Array Value} {off:Nat} {v:Value} (hv:xs[off]?=some v):(part t xs off).run P w = .ok v w:=by
 have hag:aggIs P t false=true:=by
  unfold ckIs at hk;unfold aggIs
  split at hk<;>simp_all
 have h1:=run_isAgg (P:=P) (w:=w) hag
 simp [part,h1,hv]
theorem fields_run {I:Nat→Nat} (d:Nat) {xs ys:Array Value}:∀{fs:List Field} {ks:List CK} {off:Nat} {p q:List D} {b:Bool},ckFields P off fs ks=true→flatEq ks p q=some b →
  relDs φ I w p (xs.toList.drop off)→relDs φ I w q (ys.toList.drop off)→(Op.eqFields (d+1) xs ys fs).run P w = .ok b w
 | [],[],_,p,q,b,_,hf,_,_=>by
  cases p<;>cases q<;>simp [flatEq] at hf
  subst hf
  simp [Op.eqFields]
 | f::fs,k::ks,off,p,q,b,hc,hf,hp,hq=>by
  simp only [ckFields,Bool.and_eq_true,beq_iff_eq,bne_iff_ne] at hc
  obtain ⟨⟨⟨hn,rfl⟩,hk⟩,hr⟩:=hc
  cases p with
  | nil=>simp [flatEq] at hf
  | cons x p =>
   cases q with
   | nil=>simp [flatEq] at hf
   | cons y q =>
    simp only [flatEq,Option.bind_eq_some_iff,Option.map_eq_some_iff] at hf
    obtain ⟨b1,h1,b2,h2,rfl⟩:=hf
    obtain ⟨u,hu,ru⟩:=relDs_get hp (j:=0) rfl
    obtain ⟨v,hv,rv⟩:=relDs_get hq (j:=0) rfl
    have hu':xs[f.offset]?=some u:=by simpa [List.getElem?_drop] using hu
    have hv':ys[f.offset]?=some v:=by simpa [List.getElem?_drop] using hv
    have hp':relDs φ I w p (xs.toList.drop (f.offset+1)):=by
     have:=relDs_drop hp 1;simpa [List.drop_drop,Nat.add_comm] using this
    have hq':relDs φ I w q (ys.toList.drop (f.offset+1)):=by
     have:=relDs_drop hq 1;simpa [List.drop_drop,Nat.add_comm] using this
    have ih:=fields_run d hr h2 hp' hq'
    have he:=cellEq_run (P:=P) hk h1 ru rv d
    have e1:=part_cell (P:=P) (w:=w) hk hu'
    have e2:=part_cell (P:=P) (w:=w) hk hv'
    simp only [Op.eqFields,hn,ne_eq,not_false_eq_true,if_true,Sem.run_bind,e1,e2,Result.andThen_ok,he,Sem.run_ite,Sem.run_pure,ih]
    cases b1<;>simp
 | [],_::_,_,_,_,_,hc,_,_,_=>by simp [ckFields] at hc
 | _::_,[],_,_,_,_,hc,_,_,_=>by simp [ckFields] at hc
theorem items_run {I:Nat→Nat} (d:Nat) {e:TypeId} {k:CK} (hk:ckIs P e k=true) {xs ys:Array Value}:∀{m off:Nat} {p q:List D} {b:Bool},flatEq (List.replicate m k) p q=some b →
  relDs φ I w p (xs.toList.drop off)→relDs φ I w q (ys.toList.drop off)→(Op.eqItems (d+1) e 1 xs ys (List.range' off m)).run P w = .ok b w
 | 0,off,p,q,b,hf,_,_=>by
  cases p<;>cases q<;>simp [flatEq] at hf
  subst hf
  simp [Op.eqItems]
 | m+1,off,p,q,b,hf,hp,hq=>by
  rw [List.replicate_succ] at hf
  cases p with
  | nil=>simp [flatEq] at hf
  | cons x p =>
   cases q with
   | nil=>simp [flatEq] at hf
   | cons y q =>
    simp only [flatEq,Option.bind_eq_some_iff,Option.map_eq_some_iff] at hf
    obtain ⟨b1,h1,b2,h2,rfl⟩:=hf
    obtain ⟨u,hu,ru⟩:=relDs_get hp (j:=0) rfl
    obtain ⟨v,hv,rv⟩:=relDs_get hq (j:=0) rfl
    have hu':xs[off]?=some u:=by simpa [List.getElem?_drop] using hu
    have hv':ys[off]?=some v:=by simpa [List.getElem?_drop] using hv
    have hp':relDs φ I w p (xs.toList.drop (off+1)):=by
     have:=relDs_drop hp 1;simpa [List.drop_drop,Nat.add_comm] using this
    have hq':relDs φ I w q (ys.toList.drop (off+1)):=by
     have:=relDs_drop hq 1;simpa [List.drop_drop,Nat.add_comm] using this
    have ih:=items_run d hk h2 hp' hq'
    have he:=cellEq_run (P:=P) hk h1 ru rv d
    have e1:=part_cell (P:=P) (w:=w) hk hu'
    have e2:=part_cell (P:=P) (w:=w) hk hv'
    simp only [List.range'_succ,Op.eqItems,Nat.mul_one,Sem.run_bind,e1,e2,Result.andThen_ok,he,Sem.run_ite,Sem.run_pure,ih]
    cases b1<;>simp
theorem agg_run {t:TypeId} {ks:List CK} (ht:(flatIs P t ks||arrIs P t ks)=true) {p q:List D} {b:Bool} (hb:flatEq ks p q=some b) {A B:Array Value} {I:Nat→Nat} (ra:relDs φ I w p A.toList) (rb:relDs φ I w q B.toList) :
  (Op.equalIn 10000 t (.agg A) (.agg B)).run P w = .ok b w∧P.eqGuardType P.depth t=false:=by
 simp only [Bool.or_eq_true] at ht
 rcases ht with ht | ht
 ·unfold flatIs at ht
  split at ht
  ·rename_i fs hfs
   simp only [Bool.and_eq_true,Bool.not_eq_true'] at ht
   obtain ⟨⟨ht1,ht2⟩,ht3⟩:=ht
   have hfo:P.fieldsOf t=fs:=by simp [Program.fieldsOf,hfs]
   have hst:P.underlying t=some (.struct (P.fieldsOf t)):=by rw [hfo];exact hfs
   have hf:=fields_run (P:=P) (w:=w) 9998 ht3 hb (by simpa using ra) (by simpa using rb)
   have he:=run_equalIn_struct (P:=P) w 9999 t A B hst ht1
   rw [hfo,hf] at he
   exact ⟨he,ht2⟩
  ·simp at ht
 ·unfold arrIs at ht
  split at ht
  ·rename_i n e hu
   simp only [Bool.and_eq_true,Bool.not_eq_true'] at ht
   obtain ⟨ht2,ht3⟩:=ht
   split at ht3
   ·rename_i k r
    simp only [Bool.and_eq_true,decide_eq_true_eq] at ht3
    obtain ⟨⟨h1,h2⟩,h3⟩:=ht3
    unfold sizeIs at h3
    cases hi:P.info? e with
    | none=>simp [hi] at h3
    | some i =>
     simp [hi] at h3
     have hc:P.cellsOf e=1:=by simp [Program.cellsOf,hi,h3]
     have he:=run_equalIn_array (P:=P) w 9999 A B hu hi
     rw [h1] at hb
     have hf:=items_run (P:=P) (w:=w) 9998 h2 (off:=0) hb (by simpa using ra) (by simpa using rb)
     rw [hc,List.range_eq_range',hf] at he
     exact ⟨he,ht2⟩
   ·simp at ht3
  ·simp at ht
theorem sim_eqv (hs:SRel φ nt m dB s g a w) {rec:Rec} {d:Nat} {neg:Bool} {x y:A} {ks:List CK} (hc:chkI P φ nt o (.eqv d neg x y ks)=true) (hok:(evI rec (.eqv d neg x y ks) s).ok=true)
  (hK:After φ nt m dB s g w (evI rec (.eqv d neg x y ks) s) o a K):o.wp P a w K Q:=by
 simp only [chkI,Bool.and_eq_true] at hc
 obtain ⟨hd,h⟩:=hc
 split at h
 ·rename_i op' t x' y' ty ho
  simp only [Bool.and_eq_true,beq_iff_eq] at h
  obtain ⟨⟨⟨hop,hx⟩,hy⟩,ht⟩:=h
  have rx:=chkA_rel hs hx
  have ry:=chkA_rel hs hy
  refine sim_putO hs hd hok (fun v hv=>?_) hK
  unfold eqV at hv
  split at hv
  ·rename_i p q hp hq
   rw [hp] at rx;rw [hq] at ry
   simp only [relV,relD] at rx ry
   obtain ⟨A,ex,ra,_⟩:=rx
   obtain ⟨B,ey,rb,_⟩:=ry
   simp only [Option.map_eq_some_iff] at hv
   obtain ⟨b,hb,rfl⟩:=hv
   refine ⟨.bool (b != neg),?_,by simp [relV,relD]⟩
   obtain ⟨he,ht2⟩:=agg_run (P:=P) (w:=w) (φ:=φ) ht hb (by simpa using ra) (by simpa using rb)
   have hgd:=run_eqGuard_agg (P:=P) w op' t x' y' A B ht2
   cases neg
   ·simp only [Bool.false_eq_true,if_false] at hop
    subst hop
    have:=run_eql_struct (P:=P) w t A B
    rw [he] at this
    simp [execOp,ho,ex,ey,hgd,this]
   ·simp only [if_true] at hop
    subst hop
    have:=run_neq_struct (P:=P) w t A B
    rw [he] at this
    simp [execOp,ho,ex,ey,hgd,this]
  ·simp at hv
 ·simp at h
theorem sim_eqb (hs:SRel φ nt m dB s g a w) {rec:Rec} {d:Nat} {neg:Bool} {x y:A} (hc:chkI P φ nt o (.eqb d neg x y)=true) (hok:(evI rec (.eqb d neg x y) s).ok=true)
  (hK:After φ nt m dB s g w (evI rec (.eqb d neg x y) s) o a K):o.wp P a w K Q:=by
 simp only [chkI,Bool.and_eq_true] at hc
 obtain ⟨hd,h⟩:=hc
 split at h
 ·rename_i op' t x' y' ty ho
  simp only [Bool.and_eq_true,beq_iff_eq] at h
  obtain ⟨⟨⟨hop,hx⟩,hy⟩,ht⟩:=h
  have rx:=chkA_rel hs hx
  have ry:=chkA_rel hs hy
  refine sim_putO hs hd hok (fun v hv=>?_) hK
  unfold eqB at hv
  split at hv
  ·rename_i p q hp hq
   rw [hp] at rx;rw [hq] at ry
   have ex:=relD_bool (by simpa only [relV] using rx)
   have ey:=relD_bool (by simpa only [relV] using ry)
   simp at hv
   subst hv
   refine ⟨.bool ((p==q) != neg),?_,by simp [relV,relD]⟩
   split at ht
   ·rename_i hu
    have he:=run_equal_bool (P:=P) w t p q hu
    have hgd:=eqGuard_lit (P:=P) (w:=w) (op:=op') (t:=t) (x:=x') (y:=y') (u:=.bool p) (v:=.bool q) (by simp) (by simp)
    cases neg
    ·simp only [Bool.false_eq_true,if_false] at hop
     subst hop
     simp [execOp,ho,ex,ey,hgd,binOp,he]
    ·simp only [if_true] at hop
     subst hop
     simp [execOp,ho,ex,ey,hgd,binOp,he]
   ·simp at ht
  ·simp at hv
 ·simp at h
theorem equalIn_slice_nil (d:Nat) {t e:TypeId} (a:Option Addr) (l c:Nat) (h:P.underlying t=some (.slice e)):(Op.equalIn (d+1) t (.slice a l c) (.slice none 0 0)).run P w = .ok a.isNone w:=by
 cases a<;>simp [Op.equalIn,run_underlying h]
theorem equalIn_map_nil (d:Nat) {t k e:TypeId} (a:Option Nat) (h:P.underlying t=some (.map k e)):(Op.equalIn (d+1) t (.map a) (.map none)).run P w = .ok a.isNone w:=by
 cases a<;>simp [Op.equalIn,run_underlying h]
theorem equalIn_ptr_nil (d:Nat) {t e:TypeId} (a:Option Addr) (h:P.underlying t=some (.pointer e)):(Op.equalIn (d+1) t (.pointer a) (.pointer none)).run P w = .ok a.isNone w:=by
 cases a<;>simp [Op.equalIn,run_underlying h]
theorem equalIn_func_nil (d:Nat) {t:TypeId} {ps rs:Array TypeId} {vr:Bool} (fn:Fn) (A B:Array Value) (h:P.underlying t=some (.func ps rs vr)):(Op.equalIn (d+1) t (.func fn A B) .nilFunc).run P w = .ok false w:=by
 simp [Op.equalIn,run_underlying h]
theorem equalIn_nilf_nil (d:Nat) {t:TypeId} {ps rs:Array TypeId} {vr:Bool} (h:P.underlying t=some (.func ps rs vr)):(Op.equalIn (d+1) t .nilFunc .nilFunc).run P w = .ok true w:=by
 simp [Op.equalIn,run_underlying h]
theorem equalIn_iface_nil (d:Nat) {t u:TypeId} {ms:Array (String×TypeId)} (x:Value) (h:P.underlying t=some (.interface ms)):(Op.equalIn (d+1) t (.iface u x) .nilIface).run P w = .ok false w:=by
 simp [Op.equalIn,run_underlying h]
theorem equalIn_nili_nil (d:Nat) {t:TypeId} {ms:Array (String×TypeId)} (h:P.underlying t=some (.interface ms)):(Op.equalIn (d+1) t .nilIface .nilIface).run P w = .ok true w:=by
 simp [Op.equalIn,run_underlying h]
theorem es_of_arr {h:List O} {n:Nat} (ha:arrAt h n=true):∃es,(hget h n).es?=some es:=by
 unfold arrAt at ha
 split at ha<;>simp_all [O.es?]
theorem nil_run {t:TypeId} {v u:Value} {k:NK} (hn:nilIs P t v k=true) {x:V} {h:List O} {g:Gh} (hr:relV φ h g w x u) {r:Bool} (hb:isNil h k x=some r) (xo:Operand) :
  (∀op,(op = .eql∨op = .neq)→(eqGuard op t xo (.const v) u v).run P w = .ok () w)∧(binOp .eql t u v).run P w = .ok (.bool r) w∧(binOp .neq t u v).run P w = .ok (.bool (!r)) w:=by
 have guard:∀{u v:Value},u≠.nilIface→(∀A,u≠.agg A)→∀op,(op = .eql∨op = .neq)→(eqGuard op t xo (.const v) u v).run P w = .ok () w:=fun h1 h2 op _=>eqGuard_lit h1 h2
 unfold nilIs at hn
 split at hn
 ·rename_i e hu
  have key:∀(a:Option Addr) (l c:Nat) (r:Bool),a.isNone=r→(∀op,(op = .eql∨op = .neq)→(eqGuard op t xo (.const (.slice none 0 0)) (.slice a l c) (.slice none 0 0)).run P w = .ok () w) ∧
    (binOp .eql t (.slice a l c) (.slice none 0 0)).run P w = .ok (.bool r) w∧(binOp .neq t (.slice a l c) (.slice none 0 0)).run P w = .ok (.bool (!r)) w:=by
   intro a l c r hr
   have:(Op.equal t (.slice a l c) (.slice none 0 0)).run P w = .ok r w:=hr▸equalIn_slice_nil 9999 a l c hu
   refine ⟨guard (by simp) (by simp),?_,?_⟩<;>simp only [binOp]<;>simp [this]
  cases x with
  | d y =>
   cases y<;>simp [isNil] at hb
   rename_i es nl xs
   subst hb
   simp only [relV,relD] at hr
   obtain ⟨a,cap,rfl,hl,h1,h2⟩:=hr
   cases nl
   ·obtain ⟨ad,rfl,_⟩:=h2 rfl
    exact key _ _ _ _ rfl
   ·obtain ⟨rfl,_⟩:=h1 rfl
    exact key _ _ _ _ rfl
  | asl n off len =>
   simp [isNil] at hb
   obtain ⟨ha,rfl⟩:=hb
   obtain ⟨es,he⟩:=es_of_arr ha
   simp only [relV] at hr
   obtain ⟨cap,rfl,_⟩:=hr.2.2 es he
   exact key _ _ _ _ rfl
  | sl0 es =>
   simp [isNil] at hb
   subst hb
   simp only [relV] at hr
   obtain ⟨ad,rfl⟩:=hr
   exact key _ _ _ _ rfl
  | _=>simp [isNil] at hb
 ·rename_i kt et hu
  have key:∀(a:Option Nat) (r:Bool),a.isNone=r→(∀op,(op = .eql∨op = .neq)→(eqGuard op t xo (.const (.map none)) (.map a) (.map none)).run P w = .ok () w) ∧
    (binOp .eql t (.map a) (.map none)).run P w = .ok (.bool r) w∧(binOp .neq t (.map a) (.map none)).run P w = .ok (.bool (!r)) w:=by
   intro a r hr
   have:(Op.equal t (.map a) (.map none)).run P w = .ok r w:=hr▸equalIn_map_nil 9999 a hu
   refine ⟨guard (by simp) (by simp),?_,?_⟩<;>simp only [binOp]<;>simp [this]
  cases x with
  | d y =>
   cases y<;>simp [isNil] at hb
   subst hb
   simp only [relV,relD] at hr
   subst hr
   exact key _ _ rfl
  | mp n =>
   simp only [isNil] at hb
   split at hb<;>simp at hb
   rename_i kv hk
   subst hb
   simp only [relV] at hr
   rw [hr.2.2 kv hk]
   exact key _ _ rfl
  | _=>simp [isNil] at hb
 ·rename_i ps rs vr hu
  have key:∀(u:Value) (r:Bool),(u = .nilFunc∧r=true∨(∃fn A B,u = .func fn A B)∧r=false)→(∀op,(op = .eql∨op = .neq)→(eqGuard op t xo (.const .nilFunc) u .nilFunc).run P w = .ok () w) ∧
    (binOp .eql t u .nilFunc).run P w = .ok (.bool r) w∧(binOp .neq t u .nilFunc).run P w = .ok (.bool (!r)) w:=by
   rintro u r (⟨rfl,rfl⟩ | ⟨⟨fn,A,B,rfl⟩,rfl⟩)
   ·have:(Op.equal t .nilFunc .nilFunc).run P w = .ok true w:=equalIn_nilf_nil 9999 hu
    refine ⟨guard (by simp) (by simp),?_,?_⟩<;>simp only [binOp]<;>simp [this]
   ·have:(Op.equal t (.func fn A B) .nilFunc).run P w = .ok false w:=equalIn_func_nil 9999 fn A B hu
    refine ⟨guard (by simp) (by simp),?_,?_⟩<;>simp only [binOp]<;>simp [this]
  cases x with
  | d y =>
   cases y<;>simp [isNil] at hb
   ·subst hb
    simp only [relV,relD] at hr
    obtain ⟨A,B,rfl,_⟩:=hr
    exact key _ _ (.inr ⟨⟨_,_,_,rfl⟩,rfl⟩)
   ·subst hb
    simp only [relV,relD] at hr
    subst hr
    exact key _ _ (.inl ⟨rfl,rfl⟩)
  | fn f A B =>
   simp [isNil] at hb
   subst hb
   simp only [relV] at hr
   obtain ⟨A,B,rfl,_⟩:=hr
   exact key _ _ (.inr ⟨⟨_,_,_,rfl⟩,rfl⟩)
  | _=>simp [isNil] at hb
 ·rename_i e hu
  have key:∀(a:Option Addr) (r:Bool),a.isNone=r→(∀op,(op = .eql∨op = .neq)→(eqGuard op t xo (.const (.pointer none)) (.pointer a) (.pointer none)).run P w = .ok () w) ∧
    (binOp .eql t (.pointer a) (.pointer none)).run P w = .ok (.bool r) w∧(binOp .neq t (.pointer a) (.pointer none)).run P w = .ok (.bool (!r)) w:=by
   intro a r hr
   have:(Op.equal t (.pointer a) (.pointer none)).run P w = .ok r w:=hr▸equalIn_ptr_nil 9999 a hu
   refine ⟨guard (by simp) (by simp),?_,?_⟩<;>simp only [binOp]<;>simp [this]
  cases x with
  | d y =>
   cases y<;>simp [isNil] at hb
   ·subst hb
    simp only [relV,relD] at hr
    subst hr
    exact key _ _ rfl
   ·subst hb
    simp only [relV,relD] at hr
    obtain ⟨b,off,rfl,_⟩:=hr
    exact key _ _ rfl
  | loc n r' c =>
   simp [isNil] at hb
   obtain ⟨ha,rfl⟩:=hb
   obtain ⟨es,he⟩:=es_of_arr ha
   simp only [relV] at hr
   rw [hr.2.2 es he]
   exact key _ _ rfl
  | rf cs =>
   simp [isNil] at hb
   subst hb
   simp only [relV] at hr
   obtain ⟨b,off,us,rfl,_⟩:=hr
   exact key _ _ rfl
  | _=>simp [isNil] at hb
 ·rename_i ms hu
  cases x with
  | d y =>
   cases y<;>simp [isNil] at hb
   ·subst hb
    simp only [relV,relD] at hr
    obtain ⟨z,rfl,_⟩:=hr
    have:∀tt zz,(Op.equal t (.iface tt zz) .nilIface).run P w = .ok false w:=fun tt zz=>equalIn_iface_nil 9999 zz hu
    refine ⟨guard (by simp) (by simp),?_,?_⟩<;>simp only [binOp]<;>simp [this]
   ·subst hb
    simp only [relV,relD] at hr
    subst hr
    have:(Op.equal t .nilIface .nilIface).run P w = .ok true w:=equalIn_nili_nil 9999 hu
    refine ⟨fun op hop=>?_,?_,?_⟩
    ·rcases hop with rfl | rfl<;>simp [eqGuard]
    ·simp only [binOp];simp [this]
    ·simp only [binOp];simp [this]
  | _=>simp [isNil] at hb
 ·simp at hn
theorem sim_isnil (hs:SRel φ nt m dB s g a w) {rec:Rec} {d:Nat} {neg:Bool} {x:A} {k:NK} (hc:chkI P φ nt o (.isnil d neg x k)=true) (hok:(evI rec (.isnil d neg x k) s).ok=true)
  (hK:After φ nt m dB s g w (evI rec (.isnil d neg x k) s) o a K):o.wp P a w K Q:=by
 simp only [chkI,Bool.and_eq_true] at hc
 obtain ⟨hd,h⟩:=hc
 split at h
 ·rename_i op' t x' v' ty ho
  simp only [Bool.and_eq_true,beq_iff_eq] at h
  obtain ⟨⟨hop,hx⟩,ht⟩:=h
  have rx:=chkA_rel hs hx
  refine sim_putO hs hd hok (fun v hv=>?_) hK
  simp only [Option.map_eq_some_iff] at hv
  obtain ⟨r,hr,rfl⟩:=hv
  obtain ⟨h1,h2,h3⟩:=nil_run (P:=P) ht rx hr x'
  refine ⟨.bool (r != neg),?_,by simp [relV,relD]⟩
  have hcst:a.eval (.const v')=v':=rfl
  cases neg
  ·simp only [Bool.false_eq_true,if_false] at hop
   subst hop
   simp [execOp,ho,hcst,h1 .eql (.inl rfl),h2]
  ·simp only [if_true] at hop
   subst hop
   simp [execOp,ho,hcst,h1 .neq (.inr rfl),h3]
 ·simp at h
theorem relCells_drop {I:Nat→Nat} {b off:Nat} {cs:List D} (h:relCells φ I w b off cs) (n:Nat):relCells φ I w b (off+n) (cs.drop n) :=
 relCells_of fun j c hj=>by
  have:=relCells_get h (j:=n+j) (by simpa [List.getElem?_drop] using hj)
  rwa [←Nat.add_assoc] at this
theorem sim_fa (hs:SRel φ nt m dB s g a w) {rec:Rec} {d off n:Nat} {x:A} (hc:chkI P φ nt o (.fa d x off n)=true) (hok:(evI rec (.fa d x off n) s).ok=true)
  (hK:After φ nt m dB s g w (evI rec (.fa d x off n) s) o a K):o.wp P a w K Q:=by
 simp only [chkI,Bool.and_eq_true] at hc
 obtain ⟨hd,h⟩:=hc
 split at h
 ·rename_i t y k ho
  simp only [Bool.and_eq_true,decide_eq_true_eq] at h
  obtain ⟨⟨hx,hn⟩,ht⟩:=h
  have rx:=chkA_rel hs hx
  refine sim_putO hs hd hok (fun v hv=>?_) hK
  split at ht
  ·rename_i fs hfs
   split at ht
   ·rename_i f hf
    simp only [Bool.and_eq_true,beq_iff_eq] at ht
    obtain ⟨rfl,hsz⟩:=ht
    have hsz':=run_size (P:=P) (w:=w) hsz
    have run:∀{b o':Nat},a.eval y = .pointer (some ⟨b,o',none⟩)→(execOp a.eval o).run P w = .ok (.value (.pointer (some ⟨b,o'+f.offset,none⟩))) w:=by
     intro b o' he
     have hne:n≠0:=by omega
     simp [execOp,ho,he,Instr.fieldAt,underlying,hfs,hf,Instr.sureAddr,fieldPlace,hsz',hne,addr_add]
    unfold fa at hv
    split at hv
    ·rename_i cs hb
     rw [hb] at rx
     simp only [relV,relD] at rx
     obtain ⟨b,o',he,hI,hcs⟩:=rx
     split at hv
     ·rename_i hle
      simp at hv
      subst hv
      refine ⟨_,run he,?_⟩
      simp only [relV,relD]
      exact ⟨b,o'+f.offset,rfl,by simp;omega,relCells_drop hcs _⟩
     ·simp at hv
    ·rename_i cs hb
     rw [hb] at rx
     simp only [relV] at rx
     obtain ⟨b,o',us,he,hI,hcs,hcells⟩:=rx
     split at hv
     ·rename_i hle
      simp at hv
      subst hv
      refine ⟨_,run he,?_⟩
      simp only [relV]
      refine ⟨b,o'+f.offset,us.drop f.offset,rfl,by simp;omega,relVs_drop hcs _,fun j u hj=>?_⟩
      rw [Nat.add_assoc]
      exact hcells _ u (by simpa [List.getElem?_drop] using hj)
     ·simp at hv
    ·rename_i q r c hb
     rw [hb] at rx
     simp only [relV] at rx
     simp at hv
     obtain ⟨ha,rfl⟩:=hv
     obtain ⟨es,hes⟩:=es_of_arr ha
     refine ⟨_,run (rx.2.2 es hes),?_⟩
     simp only [relV]
     refine ⟨rx.1,rfl,fun es' he'=>?_⟩
     rw [hes] at he'
     simp at he'
     subst he'
     simp [Nat.add_assoc]
    ·simp at hv
   ·simp at ht
  ·simp at ht
 ·simp at h
end
end Go.VS
namespace Go.VS
section
variable {P:Program} {φ:Phi}
variable {nt m dB:Nat} {s:St} {g:Gh} {a:Act} {w:World} {K:Act→World→Prop} {Q:Exit→Act→World→Prop} {o:Oper}
theorem run_indexAt {t e:TypeId} {es:Nat} (ht:P.underlying t=some (.slice e)) (hes:sizeIs P e es=true) {b off len cap:Nat} {k:IntKind} {j:Int} (h0:0≤j) (hj:j<len) :
  (Instr.indexAt t (.slice (some ⟨b,off,none⟩) len cap) (.int k j)).run P w = .ok (.pointer (some ⟨b,off+j.toNat*es,none⟩)) w:=by
 have h1:=run_size (P:=P) (w:=w) hes
 simp [Instr.indexAt,asIntOf,underlying,ht,h0,hj,h1,addr_add]
theorem mul_toNat_le {j:Int} {n es:Nat} (h:j.toNat<n):(j.toNat+1)*es≤es*n:=by
 rw [Nat.mul_comm es n];exact Nat.mul_le_mul_right es h
theorem sim_ixs (hs:SRel φ nt m dB s g a w) {rec:Rec} {d es:Nat} {x i:A} (hc:chkI P φ nt o (.ixs d x i es)=true) (hok:(evI rec (.ixs d x i es) s).ok=true)
  (hK:After φ nt m dB s g w (evI rec (.ixs d x i es) s) o a K):o.wp P a w K Q:=by
 simp only [chkI,Bool.and_eq_true] at hc
 obtain ⟨hd,h⟩:=hc
 split at h
 ·rename_i t y k ho
  simp only [Bool.and_eq_true] at h
  obtain ⟨⟨hx,hi⟩,ht⟩:=h
  have rx:=chkA_rel hs hx
  have ri:=chkA_rel hs hi
  refine sim_putO hs hd hok (fun v hv=>?_) hK
  split at ht
  ·rename_i e hu
   simp only [Bool.and_eq_true,decide_eq_true_eq] at ht
   obtain ⟨hsz,hpos⟩:=ht
   unfold ixs at hv
   split at hv
   ·rename_i es' nl xs kk j hp hq
    rw [hp] at rx;rw [hq] at ri
    have ei:=relD_int (by simpa only [relV] using ri)
    simp at hv
    obtain ⟨⟨h0,rfl⟩,row,hrow,rfl⟩:=hv
    simp only [relV,relD] at rx
    obtain ⟨ao,cap,ex,hl,hnt,hnf⟩:=rx
    have hlt:j.toNat<xs.length:=by
     rcases Nat.lt_or_ge j.toNat xs.length with h1 | h1
     ·exact h1
     ·simp [List.getElem?_eq_none h1] at hrow
    have hne:xs≠[]:=by intro hx;simp [hx] at hlt
    cases nl with
    | true =>
     obtain ⟨_,hc0⟩:=hnt rfl
     omega
    | false =>
     obtain ⟨ad,rfl,hx⟩:=hnf rfl
     obtain ⟨hsp,hI,hr⟩:=hx hne
     obtain ⟨b,off,sp⟩:=ad
     simp at hsp;subst hsp
     simp only at hI hr
     obtain ⟨hrl,hcs⟩:=relRows_get hr hrow
     refine ⟨_,by simp only [execOp,ho,ex,ei];simp [run_indexAt (P:=P) (w:=w) hu hsz h0 (show j<(xs.length:Int) by omega)];rfl,?_⟩
     simp only [relV,relD]
     have:=mul_toNat_le (es:=es') hlt
     rw [Nat.succ_mul] at this
     exact ⟨b,off+j.toNat*es',rfl,by omega,hcs⟩
   ·rename_i n off len kk j hp hq
    rw [hp] at rx;rw [hq] at ri
    have ei:=relD_int (by simpa only [relV] using ri)
    simp only [relV] at rx
    have key:∀e',(hget s.heap n).es?=some e'→(0≤j∧j<len∧e'=es)→v = .loc n (off+j.toNat) 0→∃v',(execOp a.eval o).run P w = .ok (.value v') w∧relV φ s.heap g w v v':=by
     rintro e' he ⟨h0,hj,rfl⟩ rfl
     obtain ⟨cap,ex,_⟩:=rx.2.2 e' he
     refine ⟨_,by simp only [execOp,ho,ex,ei];simp [run_indexAt (P:=P) (w:=w) hu hsz h0 hj];rfl,?_⟩
     simp only [relV]
     refine ⟨rx.1,rfl,fun es' he'=>?_⟩
     rw [he] at he'
     simp at he'
     subst he'
     simp [Nat.add_mul,Nat.add_assoc]
    split at hv
    ·rename_i e' ex' rows hk
     simp at hv
     exact key e' (by rw [hk];rfl) hv.1 hv.2.symm
    ·rename_i e' rows hk
     simp at hv
     exact key e' (by rw [hk];rfl) hv.1 hv.2.symm
    ·simp at hv
   ·simp at hv
  ·simp at ht
 ·simp at h
theorem lenV_sl {h:List O} {v r:V} (hv:lenV h .sl v=some r):(∃es nl xs,v = .d (.sl es nl xs)∧r = .d (.i .i64 xs.length))∨(∃n off len,v = .asl n off len∧arrAt h n=true∧r = .d (.i .i64 len))∨(∃es,v = .sl0 es∧r = .d (.i .i64 (0:Nat))):=by
 cases v with
 | d y=>cases y<;>simp [lenV] at hv;exact .inl ⟨_,_,_,rfl,hv.symm⟩
 | asl n off len=>simp [lenV] at hv;exact .inr (.inl ⟨_,_,_,rfl,hv.1,hv.2.symm⟩)
 | sl0 es=>simp [lenV] at hv;exact .inr (.inr ⟨_,rfl,hv.symm⟩)
 | _=>simp [lenV] at hv
theorem lenV_s {h:List O} {v r:V} (hv:lenV h .s v=some r):∃x,v = .d (.s x)∧r = .d (.i .i64 x.length):=by
 cases v with
 | d y=>cases y<;>simp [lenV] at hv;exact ⟨_,rfl,hv.symm⟩
 | _=>simp [lenV] at hv
theorem lenV_mp {h:List O} {v r:V} (hv:lenV h .mp v=some r):(v = .d .nilmap∧r = .d (.i .i64 0))∨(∃n kv,v = .mp n∧hget h n = .mp kv∧r = .d (.i .i64 kv.length)):=by
 cases v with
 | d y=>cases y<;>simp [lenV] at hv;exact .inl ⟨rfl,hv.symm⟩
 | mp n =>
  simp only [lenV] at hv
  split at hv
  ·rename_i kv hk;simp at hv;exact .inr ⟨n,kv,rfl,hk,hv.symm⟩
  ·simp at hv
 | _=>simp [lenV] at hv
theorem sim_len (hs:SRel φ nt m dB s g a w) {rec:Rec} {d:Nat} {x:A} {k:LK} (hc:chkI P φ nt o (.len d x k)=true) (hok:(evI rec (.len d x k) s).ok=true)
  (hK:After φ nt m dB s g w (evI rec (.len d x k) s) o a K):o.wp P a w K Q:=by
 simp only [chkI,Bool.and_eq_true] at hc
 obtain ⟨hd,h⟩:=hc
 split at h
 ·rename_i c ho
  split at h
  ·rename_i y t hcal hargs htys
   simp only [Bool.and_eq_true] at h
   obtain ⟨hx,ht⟩:=h
   have rx:=relV_wk (chkA_rel hs hx)
   refine sim_putO hs hd hok (fun v hv=>?_) hK
   obtain ⟨cal,args,tys⟩:=c
   simp only at hcal hargs htys
   have hargs':args=#[y]:=by rw [←Array.toList_inj];exact hargs
   have htys':tys=#[t]:=by rw [←Array.toList_inj];exact htys
   subst hcal;subst hargs';subst htys'
   have fin:∀{u:Value} {n:Nat},v = .d (.i .i64 n)→a.eval y=u→(Builtin.len_ #[t] o.type #[u]).run P w = .ok (.int .i64 n) w→∃v',(execOp a.eval o).run P w = .ok (.value v') w∧relV φ s.heap g w v v':=by
    intro u n hv he hr
    subst hv
    exact ⟨.int .i64 n,by simp [execOp,ho,resolve,invoke,builtin,he,hr],by simp [relV,relD]⟩
   split at ht
   ·rename_i e hu
    have slice:∀(ad:Option Addr) (n c:Nat),(Builtin.len_ #[t] o.type #[.slice ad n c]).run P w = .ok (.int .i64 n) w:=fun ad n c=>by
     simp [Builtin.len_,underlying,hu,goInt]
    rcases lenV_sl hv with ⟨es,nl,xs,hp,rfl⟩ | ⟨n,off,len,hp,ha,rfl⟩ | ⟨es,hp,rfl⟩
    ·rw [hp] at rx
     simp only [relV,relD] at rx
     obtain ⟨ad,cap,ex,_⟩:=rx
     exact fin rfl ex (slice _ _ _)
    ·rw [hp] at rx
     simp only [relV] at rx
     obtain ⟨es,he⟩:=es_of_arr ha
     obtain ⟨cap,ex,_⟩:=rx.2.2 es he
     exact fin rfl ex (slice _ _ _)
    ·rw [hp] at rx
     simp only [relV] at rx
     obtain ⟨ad,ex⟩:=rx
     exact fin rfl ex (slice _ _ _)
   ·rename_i hu
    obtain ⟨z,hp,rfl⟩:=lenV_s hv
    rw [hp] at rx
    simp only [relV,relD] at rx
    obtain ⟨bs,ex,hb⟩:=rx
    have hlen:bs.size=z.length:=by rw [←hb,ByteArray.toList_eq];simp
    exact fin rfl ex (by simp [Builtin.len_,underlying,hu,goInt,hlen])
   ·rename_i kt et hu
    rcases lenV_mp hv with ⟨hp,rfl⟩ | ⟨n,kv,hp,hk,rfl⟩
    ·rw [hp] at rx
     simp only [relV,relD] at rx
     exact fin (n:=0) rfl rx (by simp [Builtin.len_,underlying,hu,goInt])
    ·rw [hp] at rx
     simp only [relV] at rx
     have ex:=rx.2.2 kv hk
     have hobj:=hs.heap.obj n
     rw [hk] at hobj
     obtain ⟨ES,clk,hb,hkv,_⟩:=hobj
     have hl:ES.size=kv.length:=by have:=hkv.1;simp at this;omega
     exact fin rfl ex (by simp [Builtin.len_,underlying,hu,goInt,getObj,Sem.run,hb,hl])
   ·simp at ht
  ·simp at h
 ·simp at h
end
end Go.VS
namespace Go.VS
section
variable {P:Program} {φ:Phi}
variable {nt m dB:Nat} {s:St} {g:Gh} {a:Act} {w:World} {K:Act→World→Prop} {Q:Exit→Act→World→Prop} {o:Oper}
theorem flatten_get {α:Type} {es:Nat}:∀{rows:List (List α)},(∀r∈rows,r.length=es)→∀{r:Nat} {row:List α} {j:Nat} {c:α},rows[r]?=some row→row[j]?=some c→rows.flatten[r*es+j]?=some c
 | [],_,r,row,j,c,h,_=>by simp at h
 | x::xs,hl,r,row,j,c,h,hj=>by
  have hx:x.length=es:=hl x (by simp)
  cases r with
  | zero =>
   simp at h;subst h
   have hlt:j<x.length:=by
    rcases Nat.lt_or_ge j x.length with h1 | h1
    ·exact h1
    ·simp [List.getElem?_eq_none h1] at hj
   simp [List.getElem?_append_left hlt,hj]
  | succ r =>
   have ih:=flatten_get (rows:=xs) (fun r hr=>hl r (by simp [hr])) (r:=r) (by simpa using h) hj
   rw [List.flatten_cons,List.getElem?_append_right (by rw [hx,Nat.succ_mul];omega)]
   rw [←ih]
   congr 1
   rw [hx,Nat.succ_mul]
   omega
theorem flatten_length {α:Type} {es:Nat}:∀{rows:List (List α)},(∀r∈rows,r.length=es)→rows.flatten.length=es*rows.length
 | [],_=>rfl
 | x::xs,hl=>by
  rw [List.flatten_cons,List.length_append,flatten_length (fun r hr=>hl r (by simp [hr])),hl x (by simp),List.length_cons,Nat.mul_succ]
  omega
theorem allDs_eq:∀{rows:List (List V)} {ds:List (List D)},allDs rows=some ds→rows=ds.map fun r=>r.map V.d
 | [],ds,h=>by simp [allDs] at h;subst h;rfl
 | r::rs,ds,h=>by
  simp only [allDs,Option.bind_eq_some_iff,Option.map_eq_some_iff] at h
  obtain ⟨x,hx,y,hy,rfl⟩:=h
  simp [allDs_eq hy,allD_eq hx]
theorem objRel_new {h h':List O} {g':Gh} {w':World} {b es:Nat} {T:TypeId} {rows:List (List V)} {C:Array Value} (hb:w'.heap[b]?=some (.cells C T (0,0)))
  (hl:∀r∈rows,r.length=es) (hr:relVs φ h g w rows.flatten C.toList) (h1:∀v∈C.toList,v.oneCell'=true) (hle:HLe h g w h' g' w') (hI:g'.I b=0) :
  objRel φ h' g' w' b 0 (mkRows es rows):=by
 have hcell:∀(i:Nat) (v:Value),C.toList[i]?=some v→w'.cell? ⟨b,i,none⟩=some v:=fun i v hi=>by
  simp only [World.cell?,hb]
  simpa using hi
 have hlen:=relVs_length hr
 have hsz:0+es*rows.length≤C.size:=by
  rw [flatten_length hl] at hlen
  simp at hlen;omega
 unfold mkRows
 split
 ·rename_i ds hds
  have he:=allDs_eq hds
  refine ⟨⟨C,T,hb,by rw [he] at hsz;simpa using hsz⟩,relRows_of fun r row hrow=>?_,by simp [hI]⟩
  have hrow':rows[r]?=some (row.map V.d):=by rw [he];simp [hrow]
  have hrl:row.length=es:=by
   have:=hl _ (List.mem_of_getElem? hrow');simpa using this
  refine ⟨hrl,relCells_of fun j c hj=>?_⟩
  have hf:=flatten_get hl hrow' (j:=j) (c:=.d c) (by simp [hj])
  obtain ⟨v,hv,hd⟩:=relVs_get hr hf
  exact ⟨v,by rw [Nat.zero_add];exact hcell _ v hv,h1 v (List.mem_of_getElem? hv),relD_ext hle.ext (by simpa only [relV] using hd)⟩
 ·refine ⟨⟨C,T,hb,hsz⟩,fun r row hrow=>?_,by rw [hI];exact Nat.le_refl _⟩
  refine ⟨hl _ (List.mem_of_getElem? hrow),fun j c hj=>?_⟩
  have hf:=flatten_get hl hrow hj
  obtain ⟨v,hv,hd⟩:=relVs_get hr hf
  exact ⟨v,by rw [Nat.zero_add];exact hcell _ v hv,h1 v (List.mem_of_getElem? hv),relV_le hle hd⟩
theorem heap_alloc_at (w:World) (ob:Obj):(w.alloc ob).heap[w.heap.size]?=some ob:=heap_alloc_new w ob
theorem sim_newobj (hs:SRel φ nt m dB s g a w) {d:Nat} (hd:dstIs nt o d=true) {v:V} {v':Value} {w':World} {x:O} {b off:Nat} {ok:Bool} {I':Nat→Nat}
  (hrun:(execOp a.eval o).run P w = .ok (.value v') w') (hg:Grew w w') (hI:∀b,b<w.heap.size→I' b=g.I b) (hnew:∀b,w'.heap.size≤b→I' b=0) (hb:w.heap.size≤b)
  (hx:objRel φ (s.heap++[x]) (g.add s.heap.length b off I') w' b off x) (hv:relV φ (s.heap++[x]) (g.add s.heap.length b off I') w' v v')
  (hK:After φ nt m dB s g w ⟨(d,v)::s.env,s.heap++[x],ok⟩ o a K):o.wp P a w K Q:=by
 obtain ⟨h1,h2⟩:=dstIs_spec hd
 refine wp_val hrun (hK (g.add s.heap.length b off I') v' w' ?_ (frame_new x hs.heap hg hI hb hs.len))
 rw [h1]
 have hs':SRel φ nt m dB ⟨s.env,s.heap++[x],ok⟩ (g.add s.heap.length b off I') a w':=⟨fun k=>relV_le (hle_new x hs.heap hg hI) (hs.env k),hrel_new hs.heap hg hI hnew hb hx,hs.size,hs.defers.frame (frame_new x hs.heap hg hI hb hs.len),by simp;have:=hs.len;omega⟩
 exact hs'.putV h2 hv
theorem putH_spec {d:Nat} {ov:Option (V×List O)} (h:(s.putH d ov).ok=true):∃v hh,ov=some (v,hh):=by
 cases ov with
 | none=>simp [St.putH,St.fail] at h
 | some p=>exact ⟨p.1,p.2,rfl⟩
theorem updI_lt {I:Nat→Nat} {n k b:Nat} (h:b<n):updI I n k b=I b:=by simp [updI,Nat.ne_of_lt h]
theorem relD_ref_new {ds:List D} {C:Array Value} {T:TypeId} (hr:HRel φ s.heap g w) (hd:relDs φ g.I w ds C.toList) (h1:∀v∈C.toList,v.oneCell'=true) :
  relD φ (updI g.I w.heap.size C.size) (w.alloc (.cells C T)) (.ref ds) (.pointer (some ⟨w.heap.size,0,none⟩)):=by
 simp only [relD]
 have hlen:=relDs_length hd
 simp at hlen
 refine ⟨w.heap.size,0,rfl,by simp [updI];omega,relCells_of_vals (vs:=C.toList) (relDs_ext (ext_grew (Grew.alloc w _) (fun b hb=>updI_lt hb) hr.new) hd) (fun j v hj=>?_) h1⟩
 simp only [World.cell?,heap_alloc_at]
 simpa using hj
theorem size_alloc_le {w:World} {ob:Obj} {I:Nat→Nat} (h:∀b,w.heap.size≤b→I b=0) (k:Nat):∀b,(w.alloc ob).heap.size≤b→updI I w.heap.size k b=0:=by
 intro b hb
 simp at hb
 have:b≠w.heap.size:=by omega
 simp [updI,this]
 exact h b (by omega)
theorem sim_box (hs:SRel φ nt m dB s g a w) {rec:Rec} {d n:Nat} {x:A} {fz:Bool} (hc:chkI P φ nt o (.box d x n fz)=true) (hok:(evI rec (.box d x n fz) s).ok=true)
  (hK:After φ nt m dB s g w (evI rec (.box d x n fz) s) o a K):o.wp P a w K Q:=by
 simp only [chkI,Bool.and_eq_true] at hc
 obtain ⟨hd,h⟩:=hc
 split at h
 ·rename_i t y ho
  have rx:=chkA_rel hs h
  have hrun:(execOp a.eval o).run P w = .ok (.value (.pointer (some ⟨w.heap.size,0,none⟩))) (w.alloc (.cells (a.eval y).cells t)):=by
   simp [execOp,ho,Instr.box,newVar,newRow]
  by_cases hk:(s.get x).cells.length=n∧(s.get x).known=true
  ·obtain ⟨rc,h1⟩:=relV_cells rx hk.2
   simp only [evI,if_pos hk] at hok hK
   cases fz with
   | true =>
    simp only [if_true] at hok hK
    refine sim_grew hs hd (I':=updI g.I w.heap.size (a.eval y).cells.size) hrun (Grew.alloc w _) (fun b hb=>updI_lt hb) (size_alloc_le hs.heap.new _) ?_ hK
    unfold mkRef
    split
    ·rename_i ds hds
     simp only [relV,Gh.setI]
     exact relD_ref_new hs.heap (relVs_D hds rc) h1
    ·simp only [relV]
     have hl:=relVs_length rc
     refine ⟨_,0,(a.eval y).cells.toList,rfl,by simp [Gh.setI,updI];simp at hl;omega,relVs_le (hle_grew hs.heap (Grew.alloc w _) (fun b hb=>updI_lt hb)) rc,fun j u hj=>⟨?_,h1 u (List.mem_of_getElem? hj)⟩⟩
     simp only [World.cell?,heap_alloc_at,Nat.zero_add]
     simpa using hj
   | false =>
    simp only [Bool.false_eq_true,if_false,St.putH] at hok hK
    have hg:=Grew.alloc w (.cells (a.eval y).cells t)
    refine sim_newobj hs hd (b:=w.heap.size) (off:=0) (I':=g.I) hrun hg (fun _ _=>rfl) (fun b hb=>hs.heap.new b (by simp at hb;omega)) (Nat.le_refl _) ?_ ?_ hK
    ·exact objRel_new (h:=s.heap) (heap_alloc_at w _) (by simp [hk.1]) (by simpa using rc) h1 (hle_new _ hs.heap hg (fun _ _=>rfl)) (hs.heap.new _ (Nat.le_refl _))
    ·simp only [relV]
     refine ⟨by simp,rfl,fun es he=>?_⟩
     simp [Gh.add]
  ·simp only [evI,if_neg hk] at hok
   simp [St.fail] at hok
 ·simp at h
theorem zero_spec {t:TypeId} {z:List D} (h:zeroIs P φ t z=true):∃i v,P.info? t=some i∧i.zero=some v∧relDs φ g.I w z v.cells.toList∧(∀x∈v.cells.toList,x.oneCell'=true)∧i.size=z.length:=by
 unfold zeroIs at h
 split at h
 ·rename_i i hi
  split at h
  ·rename_i v hv
   simp only [Bool.and_eq_true,beq_iff_eq] at h
   have:=chkLits_rel (w:=w) (I:=g.I) h.1
   exact ⟨i,v,hi,hv,this.1,this.2,h.2⟩
  ·simp at h
 ·simp at h
theorem sim_new (hs:SRel φ nt m dB s g a w) {rec:Rec} {d:Nat} {z:List D} (hc:chkI P φ nt o (.new d z)=true)
  (hK:After φ nt m dB s g w (evI rec (.new d z) s) o a K):o.wp P a w K Q:=by
 simp only [chkI,Bool.and_eq_true] at hc
 obtain ⟨hd,h⟩:=hc
 split at h
 ·rename_i t ho
  obtain ⟨i,v,hi,hv,hz,h1,_⟩:=zero_spec (g:=g) (w:=w) h
  have hrun:(execOp a.eval o).run P w = .ok (.value (.pointer (some ⟨w.heap.size,0,none⟩))) (w.alloc (.cells v.cells t)):=by
   simp [execOp,ho,Instr.alloc,zeroValue,typeInfo,hi,hv,newVar,newRow]
  simp only [evI,St.putH] at hK
  have hg:=Grew.alloc w (.cells v.cells t)
  refine sim_newobj hs hd (b:=w.heap.size) (off:=0) (I':=g.I) hrun hg (fun _ _=>rfl) (fun b hb=>hs.heap.new b (by simp at hb;omega)) (Nat.le_refl _) ?_ ?_ hK
  ·have hm:mkRows z.length [z.map V.d] = .arrD z.length true [z]:=by simp [mkRows,allDs,allD_map]
   rw [←hm]
   exact objRel_new (h:=s.heap) (heap_alloc_at w _) (by simp) (by simpa using relDs_V (h:=s.heap) hz) h1 (hle_new _ hs.heap hg (fun _ _=>rfl)) (hs.heap.new _ (Nat.le_refl _))
  ·simp only [relV]
   refine ⟨by simp,rfl,fun es he=>?_⟩
   simp [Gh.add]
 ·simp at h
theorem foldl_over (off:Nat):∀(l:List Value) (k:Nat) (C:Array Value),off+k+l.length≤C.size →
  ((l.zipIdx k).foldl (fun cs p=>cs.setIfInBounds (off+p.2) p.1) C).toList=C.toList.take (off+k)++l++C.toList.drop (off+k+l.length)
 | [],k,C,_=>by simp
 | v::l,k,C,h=>by
  simp only [List.length_cons] at h
  rw [List.zipIdx_cons,List.foldl_cons,foldl_over off l (k+1) _ (by simp;omega)]
  have e:=list_seg_step C.toList (off+k) v l (by simp;omega)
  simpa [Array.toList_setIfInBounds,Nat.add_assoc] using e
theorem foldl_cells (off:Nat) (v:Value) (C:Array Value) (h:off+v.cells.size≤C.size) :
  (v.cells.zipIdx.foldl (fun cs p=>cs.setIfInBounds (off+p.2) p.1) C).toList=overlay C.toList off v.cells.toList:=by
 have:=foldl_over off v.cells.toList 0 C (by simpa using h)
 rw [←Array.foldl_toList,Array.toList_zipIdx]
 simpa [overlay] using this
theorem relVs_overlay {h:List O} {cs:List V} {vs:List Value} (hr:relVs φ h g w cs vs) {o:Nat} {xs:List V} {us:List Value} (hx:relVs φ h g w xs us):relVs φ h g w (overlay cs o xs) (overlay vs o us):=by
 unfold overlay
 rw [relVs_length hx]
 exact relVs_append (relVs_append (relVs_take hr o) hx) (relVs_drop hr _)
theorem one_overlay {vs us:List Value} {o:Nat} (h1:∀v∈vs,v.oneCell'=true) (h2:∀v∈us,v.oneCell'=true):∀v∈overlay vs o us,v.oneCell'=true:=by
 intro v hv
 simp only [overlay,List.mem_append] at hv
 rcases hv with (hv | hv) | hv
 ·exact h1 v (List.mem_of_mem_take hv)
 ·exact h2 v hv
 ·exact h1 v (List.mem_of_mem_drop hv)
theorem fill_rel (hs:SRel φ nt m dB s g a w) {fs:Array Field} {place:Nat→Option (Nat×Nat)} (hpl:∀i f n,fs[i]?=some f→sizeIs P f.type n=true→place i=some (f.offset,n)) :
  ∀{ps:List (Nat×Operand)} {qs:List (Nat×Nat×A)},chkParts P φ fs ps qs=true→∀{cs cs':List V} {C:Array Value},fill cs (qs.map fun p=>(p.1,p.2.1,s.get p.2.2))=some cs' →
   relVs φ s.heap g w cs C.toList→(∀v∈C.toList,v.oneCell'=true) →
   ∃C',Instr.fill place C (ps.map fun p=>(p.1,a.eval p.2))=some C'∧relVs φ s.heap g w cs' C'.toList∧∀v∈C'.toList,v.oneCell'=true
 | [],[],_,cs,cs',C,hf,hr,h1=>by
  simp [fill] at hf
  subst hf
  exact ⟨C,rfl,hr,h1⟩
 | (i,x)::ps,(oo,n,y)::qs,hc,cs,cs',C,hf,hr,h1=>by
  simp only [chkParts,Bool.and_eq_true] at hc
  obtain ⟨⟨hfl,hx⟩,hrest⟩:=hc
  split at hfl
  ·rename_i f hfi
   simp only [Bool.and_eq_true,beq_iff_eq] at hfl
   obtain ⟨rfl,hsz⟩:=hfl
   simp only [List.map_cons,fill] at hf
   split at hf
   ·rename_i hcond
    obtain ⟨hl,hle,hkn⟩:=hcond
    obtain ⟨rc,r1⟩:=relV_cells (chkA_rel hs hx) hkn
    have hlen:=relVs_length rc
    have hlen2:=relVs_length hr
    simp at hlen hlen2
    have hfit:f.offset+(a.eval x).cells.size≤C.size:=by omega
    have hov:=foldl_cells f.offset (a.eval x) C hfit
    obtain ⟨C',hC',hr',h1'⟩:=fill_rel hs hpl hrest (C:=((a.eval x).cells.zipIdx.foldl (fun cs p=>cs.setIfInBounds (f.offset+p.2) p.1) C)) hf
     (by rw [hov];exact relVs_overlay hr rc) (by rw [hov];exact one_overlay h1 r1)
    refine ⟨C',?_,hr',h1'⟩
    simp only [List.map_cons,Instr.fill,hpl i f n hfi hsz]
    have hno:¬((a.eval x).cells.size≠n||f.offset+(a.eval x).cells.size > C.size)=true:=by simp;omega
    rw [if_neg hno]
    exact hC'
   ·simp at hf
  ·simp at hfl
 | [],_::_,hc,_,_,_,_,_,_=>by simp [chkParts] at hc
 | _::_,[],hc,_,_,_,_,_,_=>by simp [chkParts] at hc
end
end Go.VS
namespace Go.VS
section
variable {P:Program} {φ:Phi}
variable {nt m dB:Nat} {s:St} {g:Gh} {a:Act} {w:World} {K:Act→World→Prop} {Q:Exit→Act→World→Prop} {o:Oper}
theorem run_mapM_list {α β:Type} (f:α→Sem β) (g:α→β):∀(l:List α),(∀x∈l,(f x).run P w = .ok (g x) w)→(l.mapM f).run P w = .ok (l.map g) w
 | [],_=>by simp
 | x::l,h=>by
  have h1:=h x (by simp)
  have h2:=run_mapM_list f g l fun y hy=>h y (by simp [hy])
  simp [List.mapM_cons,h1,h2]
theorem run_mapM {α β:Type} (f:α→Sem β) (g:α→β) (l:Array α) (h:∀x∈l,(f x).run P w = .ok (g x) w):(l.mapM f).run P w = .ok (l.map g) w:=by
 have h1:=run_mapM_list (P:=P) (w:=w) f g l.toList (fun x hx=>h x (by simpa using hx))
 rw [Array.mapM_eq_mapM_toList]
 simp only [Sem.run_map,h1,Result.andThen_ok]
 congr 1
 rw [←Array.toList_map]
theorem sim_build (hs:SRel φ nt m dB s g a w) {rec:Rec} {d:Nat} {z:List D} {ps:List (Nat×Nat×A)} (hc:chkI P φ nt o (.build d z ps)=true) (hok:(evI rec (.build d z ps) s).ok=true)
  (hK:After φ nt m dB s g w (evI rec (.build d z ps) s) o a K):o.wp P a w K Q:=by
 simp only [chkI,Bool.and_eq_true] at hc
 obtain ⟨hd,h⟩:=hc
 split at h
 ·rename_i t qs ho
  simp only [Bool.and_eq_true] at h
  obtain ⟨hz,h⟩:=h
  split at h
  ·rename_i fs hfs
   simp only [Bool.and_eq_true] at h
   obtain ⟨hps,hinfo⟩:=h
   obtain ⟨i,v,hi,hv,hzr,h1,_⟩:=zero_spec (g:=g) (w:=w) hz
   refine sim_putO hs hd hok (fun r hr=>?_) hK
   simp only [Option.map_eq_some_iff] at hr
   obtain ⟨cs,hcs,rfl⟩:=hr
   have hpl:∀(i:Nat) (f:Field) (n:Nat),fs[i]?=some f→sizeIs P f.type n=true→(fs.map fun f=>(f.offset,((P.info? f.type).map (·.size)).getD 0))[i]?=some (f.offset,n):=by
    intro i f n hf hn
    unfold sizeIs at hn
    cases hq:P.info? f.type with
    | none=>simp [hq] at hn
    | some inf=>simp [hq] at hn;simp [hf,hq,hn]
   obtain ⟨C',hC,hrel,hone⟩:=fill_rel hs hpl hps hcs (C:=v.cells) (relDs_V hzr) h1
   have hm:(fs.mapM fun f=>(do pure (f.offset,←sizeOf f.type):Sem (Nat×Nat))).run P w = .ok (fs.map fun f=>(f.offset,((P.info? f.type).map (·.size)).getD 0)) w :=
    run_mapM _ _ fs fun f hf=>by
     have:=Array.all_eq_true.1 hinfo
     obtain ⟨k,hk,rfl⟩:=Array.mem_iff_getElem.1 hf
     have hs:=this k hk
     cases hq:P.info? fs[k].type with
     | none=>simp [hq] at hs
     | some inf=>simp [sizeOf,typeInfo,hq]
   refine ⟨.agg C',?_,?_⟩
   ·simp only [execOp,ho,Instr.build]
    simp only [Sem.run_bind,zeroValue,typeInfo,run_program,Result.andThen_ok,hi,hv,Sem.run_pure,run_underlying hfs,hm,hC,Array.toList_map]
   ·unfold mkAg
    split
    ·rename_i ds hds
     simp only [relV,relD]
     exact ⟨_,rfl,relVs_D hds hrel,hone⟩
    ·simp only [relV]
     exact ⟨_,rfl,hrel,hone⟩
  ·rename_i len e hfs
   split at h
   ·rename_i ie hie
    obtain ⟨i,v,hi,hv,hzr,h1,_⟩:=zero_spec (g:=g) (w:=w) hz
    refine sim_putO hs hd hok (fun r hr=>?_) hK
    simp only [Option.map_eq_some_iff] at hr
    obtain ⟨cs,hcs,rfl⟩:=hr
    have hpl:∀(i:Nat) (f:Field) (n:Nat),(arrFs len ie.size e)[i]?=some f→sizeIs P f.type n=true→(fun i=>some (i*ie.size,ie.size)) i=some (f.offset,n):=by
     intro i f n hf hn
     unfold arrFs at hf
     simp only [List.getElem?_toArray,List.getElem?_map,Option.map_eq_some_iff] at hf
     obtain ⟨j,hj,rfl⟩:=hf
     have hj':j=i:=by
      obtain ⟨h1,h2⟩:=List.getElem?_eq_some_iff.1 hj
      rw [List.getElem_range] at h2
      exact h2.symm
     subst hj'
     unfold sizeIs at hn
     simp [hie] at hn
     simp [hn]
    obtain ⟨C',hC,hrel,hone⟩:=fill_rel hs hpl h hcs (C:=v.cells) (relDs_V hzr) h1
    refine ⟨.agg C',?_,?_⟩
    ·simp only [execOp,ho,Instr.build]
     have hse:(sizeOf e).run P w = .ok ie.size w:=by simp [sizeOf,typeInfo,hie]
     simp only [Sem.run_bind,zeroValue,typeInfo,run_program,Result.andThen_ok,hi,hv,Sem.run_pure,run_underlying hfs,hse,hC,Array.toList_map]
    ·unfold mkAg
     split
     ·rename_i ds hds
      simp only [relV,relD]
      exact ⟨_,rfl,relVs_D hds hrel,hone⟩
     ·simp only [relV]
      exact ⟨_,rfl,hrel,hone⟩
   ·simp at h
  ·simp at h
 ·simp at h
theorem replicate_flatten (n es:Nat) (Z:Array Value) (hz:Z.size=es) (hp:0<es):((Array.range (n*es)).map (fun i=>Z[i % Z.size]!)).toList=(List.replicate n Z.toList).flatten:=by
 apply List.ext_getElem?
 intro i
 have hfl:(List.replicate n Z.toList).flatten.length=es*n:=by
  rw [flatten_length (es:=es)]
  ·simp
  ·intro r hr;simp at hr;rw [hr.2];simpa using hz
 by_cases hi:i<n*es
 ·have hdiv:i / es<n:=Nat.div_lt_of_lt_mul (by rwa [Nat.mul_comm])
  have hmod:i % es<es:=Nat.mod_lt _ hp
  have hlt:i % es<Z.size:=by omega
  have hr:=flatten_get (rows:=List.replicate n Z.toList) (es:=es) (by intro r hr;simp at hr;rw [hr.2];simpa using hz) (r:=i / es) (row:=Z.toList) (j:=i % es) (c:=Z[i % es]) (by simp [hdiv]) (by simp [hlt])
  rw [Nat.div_add_mod' i es] at hr
  rw [hr]
  have hb:Z[i % es]! = Z[i % es]:=getElem!_pos Z (i % es) hlt
  simp [hi,hz,hb]
 ·rw [List.getElem?_eq_none (by simp;omega),List.getElem?_eq_none (by rw [hfl,Nat.mul_comm];omega)]
theorem set_flatten {α:Type} {es:Nat}:∀{rows:List (List α)} {i:Nat} {r:List α},(∀x∈rows,x.length=es)→i<rows.length→r.length=es→(rows.set i r).flatten=overlay rows.flatten (i*es) r
 | [],i,r,_,hi,_=>by simp at hi
 | x::xs,0,r,hl,_,hr=>by
  have hx:x.length=es:=hl x (by simp)
  simp only [List.set_cons_zero,List.flatten_cons,overlay,Nat.zero_mul,List.take_zero,List.nil_append,Nat.zero_add]
  rw [hr,←hx,List.drop_left]
 | x::xs,i+1,r,hl,hi,hr=>by
  have hx:x.length=es:=hl x (by simp)
  have ih:=set_flatten (rows:=xs) (i:=i) (r:=r) (fun y hy=>hl y (by simp [hy])) (by simpa using hi) hr
  simp only [List.set_cons_succ,List.flatten_cons,ih,overlay]
  rw [Nat.succ_mul]
  have e1:(x++xs.flatten).take (i*es+es)=x++xs.flatten.take (i*es):=by
   rw [List.take_append,List.take_of_length_le (by omega)];congr 2;omega
  have e2:(x++xs.flatten).drop (i*es+es+r.length)=xs.flatten.drop (i*es+r.length):=by
   rw [List.drop_append,List.drop_of_length_le (by omega),List.nil_append];congr 1;omega
  rw [e1,e2]
  simp [List.append_assoc]
theorem fillRows_rel (hs:SRel φ nt m dB s g a w) {es n:Nat} :
  ∀{ps:List (Nat×Operand)} {qs:List (Nat×A)},chkElems φ ps qs=true→∀{rows rows':List (List V)} {C:Array Value},fillRows rows es (qs.map fun p=>(p.1,s.get p.2))=some rows' →
   (∀r∈rows,r.length=es)→rows.length=n→relVs φ s.heap g w rows.flatten C.toList→(∀v∈C.toList,v.oneCell'=true) →
   ∃C',Instr.fill (fun i=>some (i*es,es)) C (ps.map fun p=>(p.1,a.eval p.2))=some C'∧relVs φ s.heap g w rows'.flatten C'.toList∧(∀v∈C'.toList,v.oneCell'=true)∧(∀r∈rows',r.length=es)∧rows'.length=n
 | [],[],_,rows,rows',C,hf,hl,hn,hr,h1=>by
  simp [fillRows] at hf
  subst hf
  exact ⟨C,rfl,hr,h1,hl,hn⟩
 | (i,x)::ps,(j,y)::qs,hc,rows,rows',C,hf,hl,hn,hr,h1=>by
  simp only [chkElems,Bool.and_eq_true,beq_iff_eq] at hc
  obtain ⟨⟨rfl,hx⟩,hrest⟩:=hc
  simp only [List.map_cons,fillRows] at hf
  split at hf
  ·rename_i hcond
   obtain ⟨hlen,hi,hkn⟩:=hcond
   obtain ⟨rc,r1⟩:=relV_cells (chkA_rel hs hx) hkn
   have hl1:=relVs_length rc
   have hl2:=relVs_length hr
   rw [flatten_length hl] at hl2
   simp at hl1 hl2
   have hfit:i*es+(a.eval x).cells.size≤C.size:=by
    have:(i+1)*es≤es*rows.length:=by rw [Nat.mul_comm es];exact Nat.mul_le_mul_right es hi
    rw [Nat.succ_mul] at this
    omega
   have hov:=foldl_cells (i*es) (a.eval x) C hfit
   obtain ⟨C',hC',h2,h3,h4,h5⟩:=fillRows_rel hs hrest (n:=n) (C:=((a.eval x).cells.zipIdx.foldl (fun cs p=>cs.setIfInBounds (i*es+p.2) p.1) C)) hf
    (fun r hr'=>by
     rcases List.mem_or_eq_of_mem_set hr' with h | h
     ·exact hl r h
     ·rw [h];exact hlen) (by simpa using hn)
    (by rw [hov,set_flatten hl hi hlen];exact relVs_overlay hr rc) (by rw [hov];exact one_overlay h1 r1)
   refine ⟨C',?_,h2,h3,h4,h5⟩
   simp only [List.map_cons,Instr.fill]
   have hno:¬((a.eval x).cells.size≠es||i*es+(a.eval x).cells.size > C.size)=true:=by simp;omega
   rw [if_neg hno]
   exact hC'
  ·simp at hf
 | [],_::_,hc,_,_,_,_,_,_,_,_=>by simp [chkElems] at hc
 | _::_,[],hc,_,_,_,_,_,_,_,_=>by simp [chkElems] at hc
theorem sim_buildSl (hs:SRel φ nt m dB s g a w) {rec:Rec} {d es n:Nat} {z:List D} {ps:List (Nat×A)} {fz:Bool} (hc:chkI P φ nt o (.buildSl d es n z ps fz)=true) (hok:(evI rec (.buildSl d es n z ps fz) s).ok=true)
  (hK:After φ nt m dB s g w (evI rec (.buildSl d es n z ps fz) s) o a K):o.wp P a w K Q:=by
 simp only [chkI,Bool.and_eq_true] at hc
 obtain ⟨hd,h⟩:=hc
 split at h
 ·rename_i t k qs ho
  simp only [Bool.and_eq_true,decide_eq_true_eq,beq_iff_eq] at h
  obtain ⟨⟨⟨rfl,hsmall⟩,hpos⟩,h⟩:=h
  split at h
  ·rename_i e hu
   simp only [Bool.and_eq_true,beq_iff_eq] at h
   obtain ⟨⟨hz,hzl⟩,hps⟩:=h
   obtain ⟨i,v,hi,hv,hzr,h1,hsz⟩:=zero_spec (g:=g) (w:=w) hz
   have hzs:v.cells.size=es:=by have:=relDs_length hzr;simp at this;omega
   have hrows:∃rows,fillRows (List.replicate k (z.map V.d)) es (ps.map fun p=>(p.1,s.get p.2))=some rows:=by
    cases hq:fillRows (List.replicate k (z.map V.d)) es (ps.map fun p=>(p.1,s.get p.2)) with
    | some rows=>exact ⟨rows,rfl⟩
    | none=>simp only [evI,hq] at hok;cases fz<;>simp [St.putO,St.putH,St.fail] at hok
   obtain ⟨rows,hrows⟩:=hrows
   have hstart:relVs φ s.heap g w (List.replicate k (z.map V.d)).flatten ((Array.range (k*es)).map (fun i=>v.cells[i % v.cells.size]!)).toList:=by
    rw [replicate_flatten k es v.cells hzs hpos]
    clear hsmall hps hrows hK hok ho
    induction k with
    | zero=>simp [relVs]
    | succ k ih=>simp only [List.replicate_succ,List.flatten_cons];exact relVs_append (relDs_V hzr) ih
   have hone:∀x∈((Array.range (k*es)).map (fun i=>v.cells[i % v.cells.size]!)).toList,x.oneCell'=true:=by
    rw [replicate_flatten k es v.cells hzs hpos]
    intro x hx
    simp only [List.mem_flatten,List.mem_replicate] at hx
    obtain ⟨l,⟨_,rfl⟩,hx⟩:=hx
    exact h1 x hx
   obtain ⟨C',hC,hrel,hone',hrl,hrn⟩:=fillRows_rel hs (n:=k) hps hrows (by intro r hr;simp at hr;rw [hr.2];simpa using hzl) (by simp) hstart hone
   have hrun:(execOp a.eval o).run P w = .ok (.value (.slice (some ⟨w.heap.size,0,none⟩) k k)) (w.alloc (.cells C' e)):=by
    have hsz':i.size=es:=by rw [hsz];exact hzl
    simp only [execOp,ho,Instr.buildSlice]
    have hle:¬(k*es > 2 ^ 24):=by omega
    simp only [Sem.run_bind,run_underlying hu,Result.andThen_ok,sizeOf,typeInfo,run_program,hi,Sem.run_pure,hsz',Sem.run_ite]
    rw [if_neg hle]
    by_cases hk0:k*es=0
    ·have hk:k=0:=by
      rcases Nat.mul_eq_zero.1 hk0 with h | h
      ·exact h
      ·omega
     subst hk
     simp only [Nat.zero_mul,if_true]
     have e0:((Array.range 0).map (fun i=>(#[]:Array Value)[i % (#[]:Array Value).size]!))=((Array.range (0*es)).map (fun i=>v.cells[i % v.cells.size]!)):=by simp
     rw [e0,Array.toList_map,hC]
     simp [newRow]
    ·rw [if_neg hk0]
     simp only [Sem.run_bind,zeroValue,typeInfo,run_program,Result.andThen_ok,hi,hv,Sem.run_pure]
     rw [Array.toList_map,hC]
     simp [newRow]
   have hlen:=relVs_length hrel
   rw [flatten_length hrl,hrn] at hlen
   simp at hlen
   have hg:=Grew.alloc w (.cells C' e)
   simp only [evI,hrows] at hok hK
   cases fz with
   | true =>
    simp only [if_true] at hok hK
    obtain ⟨r,hr⟩:=putO_spec hok
    rw [hr] at hK
    simp only [Option.bind_some,Option.map_eq_some_iff] at hr
    obtain ⟨ds,hds,rfl⟩:=hr
    have he:=allDs_eq hds
    have hrn':ds.length=k:=by rw [he] at hrn;simpa using hrn
    refine sim_grew hs hd (I':=updI g.I w.heap.size C'.size) hrun hg (fun b hb=>updI_lt hb) (size_alloc_le hs.heap.new _) ?_ hK
    simp only [relV,relD,Gh.setI]
    refine ⟨some ⟨w.heap.size,0,none⟩,k,by rw [hrn'],by omega,by simp,fun _=>⟨_,rfl,fun _=>⟨rfl,by simp [updI];rw [hrn'];omega,?_⟩⟩⟩
    simp only
    refine relRows_of fun r row hrow=>?_
    have hrow':rows[r]?=some (row.map V.d):=by rw [he];simp [hrow]
    have hrl':row.length=es:=by have:=hrl _ (List.mem_of_getElem? hrow');simpa using this
    refine ⟨hrl',relCells_of fun j c hj=>?_⟩
    have hf:=flatten_get hrl hrow' (j:=j) (c:=.d c) (by simp [hj])
    obtain ⟨u,hu',hd'⟩:=relVs_get hrel hf
    refine ⟨u,?_,hone' u (List.mem_of_getElem? hu'),relD_ext (ext_grew hg (fun b hb=>updI_lt hb) hs.heap.new) (by simpa only [relV] using hd')⟩
    simp only [World.cell?,heap_alloc_at,Nat.zero_add]
    simpa using hu'
   | false =>
    simp only [Bool.false_eq_true,if_false,Option.map_some,St.putH] at hok hK
    refine sim_newobj hs hd (b:=w.heap.size) (off:=0) (I':=g.I) hrun hg (fun _ _=>rfl) (fun b hb=>hs.heap.new b (by simp at hb;omega)) (Nat.le_refl _) ?_ ?_ hK
    ·exact objRel_new (h:=s.heap) (heap_alloc_at w _) hrl hrel hone' (hle_new _ hs.heap hg (fun _ _=>rfl)) (hs.heap.new _ (Nat.le_refl _))
    ·simp only [relV]
     refine ⟨by simp,rfl,fun es' he'=>⟨k,by simp [Gh.add],Nat.le_refl _,?_,C',e,by have:=heap_alloc_at w (.cells C' e);simpa only [Gh.add,if_true] using this,?_⟩⟩
     ·rw [hget_append_new]
      unfold mkRows
      split
      ·rename_i ds hds
       have he:=allDs_eq hds
       have:ds.length=k:=by rw [he] at hrn;simpa using hrn
       simp [O.len,this]
      ·simp [O.len,hrn]
     ·have:es'=es:=by
       rw [hget_append_new] at he'
       unfold mkRows at he'
       split at he'<;>simp [O.es?] at he'<;>exact he'.symm
      subst this
      refine ⟨?_,hone'⟩
      simp [Gh.add]
      rw [Nat.mul_comm];omega
  ·simp at h
 ·simp at h
end
end Go.VS
namespace Go.VS
section
variable {P:Program} {φ:Phi}
variable {nt m dB:Nat} {s:St} {g:Gh} {a:Act} {w:World} {K:Act→World→Prop} {Q:Exit→Act→World→Prop} {o:Oper}
theorem overlay_get {α:Type} {cs new:List α} {o:Nat} (h:o+new.length≤cs.length) (i:Nat) :
  (overlay cs o new)[i]?=if i<o then cs[i]? else if i<o+new.length then new[i - o]? else cs[i]?:=by
 unfold overlay
 have ht:(cs.take o).length=o:=by simp;omega
 by_cases h1:i<o
 ·rw [if_pos h1,List.append_assoc,List.getElem?_append_left (by omega),List.getElem?_take,if_pos h1]
 ·rw [if_neg h1,List.append_assoc,List.getElem?_append_right (by omega),ht]
  by_cases h2:i<o+new.length
  ·rw [if_pos h2,List.getElem?_append_left (by omega)]
  ·rw [if_neg h2,List.getElem?_append_right (by omega),List.getElem?_drop]
   congr 1
   omega
theorem overlay_length {α:Type} {cs new:List α} {o:Nat} (h:o+new.length≤cs.length):(overlay cs o new).length=cs.length:=by
 unfold overlay
 simp
 omega
theorem OneC.over {CS:Array Value} (h:OneC CS) {p:Nat} {us:List Value} (h1:∀u∈us,u.oneCell'=true):OneC (overlay CS.toList p us).toArray:=fun x hx=>by
 simp only [overlay,List.mem_append] at hx
 rcases hx with (hx | hx) | hx
 ·exact h x (List.mem_of_mem_take hx)
 ·exact h1 x hx
 ·exact h x (List.mem_of_mem_drop hx)
theorem overlay_map {α β:Type} (f:α→β) (cs new:List α) (o:Nat):(overlay cs o new).map f=overlay (cs.map f) o (new.map f):=by
 simp [overlay]
theorem turned_setRow {b:Nat} {cur cs:Array Value} {T:TypeId} (hg:w.heap[b]?=some (.cells cur T (0,0))):Turned w (w.setRow b cs) b∧(w.setRow b cs).heap[b]?=some (.cells cs T (0,0)):=by
 refine ⟨⟨size_setRow w b cs,fun k hk=>?_,rfl,rfl,rfl⟩,setRow_heap w b cur cs T (0,0) hg⟩
 simp only [World.setRow,Array.getElem?_modify]
 rw [if_neg (by omega)]
theorem run_storeAt {t:TypeId} {n:Nat} (hsz:sizeIs P t n=true) {b off:Nat} {cur:Array Value} {T:TypeId} (hg:w.heap[b]?=some (.cells cur T (0,0))) {v:Value} (hv:v.cells.size=n)
  (hfit:off+n≤cur.size) (h1:∀x∈v.cells.toList,x.oneCell'=true) :
  ∃w',(Instr.storeAt t (.pointer (some ⟨b,off,none⟩)) v).run P w = .ok () w'∧Turned w w' b∧w'.heap[b]?=some (.cells (overlay cur.toList off v.cells.toList).toArray T (0,0)):=by
 have h2:=run_size (P:=P) (w:=w) hsz
 have h3:=run_storeCells_at P b off T v.cells.toList 0 cur w hg (by simp;omega) h1
 obtain ⟨h4,h5⟩:=turned_setRow (cs:=(overlay cur.toList off v.cells.toList).toArray) hg
 refine ⟨w.setRow b (overlay cur.toList off v.cells.toList).toArray,?_,h4,h5⟩
 simp only [Nat.add_zero] at h3
 simp only [Instr.storeAt,Instr.sureAddr,Sem.run_bind,Sem.run_pure,Result.andThen_ok,storeVar,h2,hv]
 simp [h3,overlay]
theorem relRows_V {h:List O} {b es off:Nat} {rows:List (List D)} (hr:relRows φ g.I w b es off rows):relRowsV φ h g w b es off (rows.map fun r=>r.map V.d):=by
 intro r row hrow
 simp only [List.getElem?_map,Option.map_eq_some_iff] at hrow
 obtain ⟨x,hx,rfl⟩:=hrow
 obtain ⟨h1,h2⟩:=relRows_get hr hx
 refine ⟨by simpa using h1,fun j c hj=>?_⟩
 simp only [List.getElem?_map,Option.map_eq_some_iff] at hj
 obtain ⟨y,hy,rfl⟩:=hj
 obtain ⟨v,h3,h4,h5⟩:=relCells_get h2 hy
 exact ⟨v,h3,h4,by simpa only [relV] using h5⟩
theorem relRows_D {h:List O} {b es off:Nat} {rows:List (List D)} (hr:relRowsV φ h g w b es off (rows.map fun r=>r.map V.d)):relRows φ g.I w b es off rows :=
 relRows_of fun r row hrow=>by
  obtain ⟨h1,h2⟩:=hr r (row.map V.d) (by simp [hrow])
  refine ⟨by simpa using h1,relCells_of fun j c hj=>?_⟩
  obtain ⟨v,h3,h4,h5⟩:=h2 j (.d c) (by simp [hj])
  exact ⟨v,h3,h4,by simpa only [relV] using h5⟩
theorem relRowsV_store {h h':List O} {g':Gh} {w':World} {b es off:Nat} {rows:List (List V)} (hle:HLe h g w h' g' w') (hr:relRowsV φ h g w b es off rows)
  {cur:Array Value} {T:TypeId} (hg:w.heap[b]?=some (.cells cur T (0,0))) {r c:Nat} {row xs:List V} {us:List Value} (hrow:rows[r]?=some row) (hc:c+xs.length≤row.length)
  (hx:relVs φ h g w xs us) (h1:∀u∈us,u.oneCell'=true) (hfit:off+es*rows.length≤cur.size)
  (hw':w'.heap[b]?=some (.cells (overlay cur.toList (off+r*es+c) us).toArray T (0,0))):relRowsV φ h' g' w' b es off (rows.set r (overlay row c xs)):=by
 have hul:=relVs_length hx
 have hrl:row.length=es:=(hr r row hrow).1
 have hrlt:r<rows.length:=by
  rcases Nat.lt_or_ge r rows.length with h2 | h2
  ·exact h2
  ·simp [List.getElem?_eq_none h2] at hrow
 have hin:(r+1)*es≤es*rows.length:=by rw [Nat.mul_comm es];exact Nat.mul_le_mul_right es hrlt
 rw [Nat.succ_mul] at hin
 have hov:off+r*es+c+us.length≤cur.toList.length:=by simp;omega
 have cell:∀i,w'.cell? ⟨b,i,none⟩=if i<off+r*es+c then w.cell? ⟨b,i,none⟩ else if i<off+r*es+c+us.length then us[i - (off+r*es+c)]? else w.cell? ⟨b,i,none⟩:=by
  intro i
  have:=overlay_get hov i
  simp only [World.cell?,hw',hg,List.getElem?_toArray]
  simpa using this
 have old:∀i x,¬(off+r*es+c≤i∧i<off+r*es+c+us.length)→w.cell? ⟨b,i,none⟩=some x→w'.cell? ⟨b,i,none⟩=some x:=by
  intro i x hi hx
  rw [cell]
  split
  ·exact hx
  ·rw [if_neg (by omega)];exact hx
 intro r' row' hrow'
 by_cases hrr:r'=r
 ·subst hrr
  rw [List.getElem?_set_self hrlt] at hrow'
  simp at hrow'
  subst hrow'
  refine ⟨by rw [overlay_length hc];exact hrl,fun j y hj=>?_⟩
  rw [overlay_get hc] at hj
  have keep:row[j]?=some y→¬(c≤j∧j<c+xs.length)→∃x,w'.cell? ⟨b,off+r'*es+j,none⟩=some x∧x.oneCell'=true∧relV φ h' g' w' y x:=by
   intro hj hn
   obtain ⟨x,h2,h3,h4⟩:=(hr r' row hrow).2 j y hj
   exact ⟨x,old _ _ (by omega) h2,h3,relV_le hle h4⟩
  split at hj
  ·exact keep hj (by omega)
  ·split at hj
   ·rename_i h2 h3
    obtain ⟨u,hu,hru⟩:=relVs_get hx hj
    refine ⟨u,?_,h1 u (List.mem_of_getElem? hu),relV_le hle hru⟩
    rw [cell,if_neg (by omega),if_pos (by omega)]
    rw [←hu]
    congr 1
    omega
   ·exact keep hj (by omega)
 ·rw [List.getElem?_set_ne (Ne.symm hrr)] at hrow'
  refine ⟨(hr r' row' hrow').1,fun j y hj=>?_⟩
  obtain ⟨x,h2,h3,h4⟩:=(hr r' row' hrow').2 j y hj
  have hjl:j<es:=by
   have:=(hr r' row' hrow').1
   rcases Nat.lt_or_ge j row'.length with h5 | h5
   ·omega
   ·simp [List.getElem?_eq_none h5] at hj
  refine ⟨x,old _ _ ?_ h2,h3,relV_le hle h4⟩
  intro hcon
  rcases Nat.lt_or_gt_of_ne hrr with h5 | h5
  ·have:(r'+1)*es≤r*es:=Nat.mul_le_mul_right es h5
   rw [Nat.succ_mul] at this
   omega
  ·have:(r+1)*es≤r'*es:=Nat.mul_le_mul_right es h5
   rw [Nat.succ_mul] at this
   omega
end
end Go.VS
namespace Go.VS
section
variable {P:Program} {φ:Phi}
variable {nt m dB:Nat} {s:St} {g:Gh} {a:Act} {w:World} {K:Act→World→Prop} {Q:Exit→Act→World→Prop} {o:Oper}
theorem ext_store {b:Nat} {w':World} (ht:Turned w w' b) {cur:Array Value} {T:TypeId} (hg:w.heap[b]?=some (.cells cur T (0,0))) {p:Nat} {us:List Value} (hp:p+us.length≤cur.size)
  (hw':w'.heap[b]?=some (.cells (overlay cur.toList p us).toArray T (0,0))) {I I':Nat→Nat} (hI:I b≤p) (hI':∀k,I k≤I' k):Ext I w I' w' :=
 ⟨hI',fun k i hi=>by
  by_cases hk:k=b
  ·subst hk
   have:=overlay_get (cs:=cur.toList) (new:=us) (o:=p) (by simpa using hp) i
   simp only [World.cell?,hw',hg,List.getElem?_toArray]
   rw [if_pos (by omega)] at this
   simpa using this
  ·exact cell_of_heap (ht.same k hk) i⟩
theorem SRel.turn (hs:SRel φ nt m dB s g a w) {n:Nat} {x:O} {w':World} {I':Nat→Nat} {ok:Bool} (hl:(hget s.heap n).live=true) (ht:Turned w w' (g.β n)) (hle:HLe s.heap g w (s.heap.set n x) (g.setI I') w') (hr:HRel φ (s.heap.set n x) (g.setI I') w') :
  SRel φ nt m dB ⟨s.env,s.heap.set n x,ok⟩ (g.setI I') a w' :=
 ⟨fun k=>relV_le hle (hs.env k),hr,hs.size,hs.defers.turn hl ht,by simpa using hs.len⟩
theorem sim_store (hs:SRel φ nt m dB s g a w) {n r c es k:Nat} {rows:List (List V)} {row:List V} {xs:List V} {us:List Value} {t:TypeId} {v:Value} {x:O} {ok:Bool}
  (hl:(hget s.heap n).live=true) (hes:(hget s.heap n).es?=some es) (hlen:(hget s.heap n).len=rows.length)
  (hobj:(∃CS T,w.heap[g.β n]?=some (.cells CS T (0,0))∧g.o n+es*rows.length≤CS.size)∧relRowsV φ s.heap g w (g.β n) es (g.o n) rows∧g.I (g.β n)≤g.o n)
  (hrow:rows[r]?=some row) (hc:c+k≤row.length) (hxl:xs.length=k) (hsz:sizeIs P t k=true) (hv:v.cells.size=k) (hus:v.cells.toList=us)
  (hx:relVs φ s.heap g w xs us) (h1:∀u∈us,u.oneCell'=true)
  (hxo:x.es?=some es∧x.len=rows.length∧(∀kv,x≠.mp kv))
  (hxr:∀{h':List O} {g':Gh} {w':World},(∃CS T,w'.heap[g.β n]?=some (.cells CS T (0,0))∧g.o n+es*rows.length≤CS.size)→relRowsV φ h' g' w' (g.β n) es (g.o n) (rows.set r (overlay row c xs))→g'.I (g.β n)≤g.o n→objRel φ h' g' w' (g.β n) (g.o n) x) :
  ∃w',(Instr.storeAt t (.pointer (some ⟨g.β n,g.o n+r*es+c,none⟩)) v).run P w = .ok () w'∧SRel φ nt m dB ⟨s.env,s.heap.set n x,ok⟩ g a w'∧Frame m s.heap g w (s.heap.set n x) g w':=by
 obtain ⟨⟨cur,T,hg,hfit⟩,hrr,hI⟩:=hobj
 have hul:=relVs_length hx
 have hrl:row.length=es:=(hrr r row hrow).1
 have hrlt:r<rows.length:=by
  rcases Nat.lt_or_ge r rows.length with h2 | h2
  ·exact h2
  ·simp [List.getElem?_eq_none h2] at hrow
 have hin:(r+1)*es≤es*rows.length:=by rw [Nat.mul_comm es];exact Nat.mul_le_mul_right es hrlt
 rw [Nat.succ_mul] at hin
 obtain ⟨w',hrun,ht,hw'⟩:=run_storeAt (P:=P) (w:=w) hsz (off:=g.o n+r*es+c) hg hv (by omega) (by rw [hus];exact h1)
 rw [hus] at hw'
 have hE:Ext g.I w g.I w':=ext_store ht hg (by omega) hw' (by omega) (fun _=>Nat.le_refl _)
 have hsize:(overlay cur.toList (g.o n+r*es+c) us).toArray.size=cur.size:=by
  have:=overlay_length (cs:=cur.toList) (new:=us) (o:=g.o n+r*es+c) (by simp;omega)
  simpa using this
 have hle:HLe s.heap g w (s.heap.set n x) (g.setI g.I) w':=hle_turn hs.heap hl ht hE
  (fun es' he'=>by
   rw [hxo.1] at he'
   simp at he'
   subst he'
   refine ⟨hes,by rw [hxo.2.1,hlen],fun CS T' hcs=>?_⟩
   rw [hg] at hcs
   simp at hcs
   obtain ⟨rfl,rfl⟩:=hcs
   exact ⟨_,_,hw',by rw [hsize];exact Nat.le_refl _,fun hone=>OneC.over hone h1⟩)
  (fun kv hkv=>absurd hkv (hxo.2.2 kv)) (fun hh=>by have he:=hxo.1;cases x<;>simp [O.isLp,O.es?] at hh he)
 have hnew:=relRowsV_store hle hrr hg hrow (xs:=xs) (by omega) hx h1 hfit hw'
 have hH:=hrel_turn (x:=x) hs.heap hl ht hle (fun _ _=>rfl) (hxr ⟨_,T,hw',by rw [hsize];exact hfit⟩ hnew hI)
 exact ⟨w',hrun,hs.turn hl ht hle hH,frame_turn x hl ht hE (fun _ _=>rfl) hle⟩
theorem getElem?_set_map {rows:List (List D)} {r:Nat} {y:List D}:(rows.set r y).map (fun x=>x.map V.d)=(rows.map fun x=>x.map V.d).set r (y.map V.d):=by
 rw [List.map_set]
theorem setHeap_spec {ov:Option (List O)} (h:(s.setHeap ov).ok=true):∃hh,ov=some hh:=by
 cases ov with
 | none=>simp [St.setHeap,St.fail] at h
 | some hh=>exact ⟨hh,rfl⟩
theorem wp_store {t:TypeId} {x y:Operand} {w':World} (ho:o.op = .store t x y) (hdst:o.dst=none) (hrun:(Instr.storeAt t (a.eval x) (a.eval y)).run P w = .ok () w') (hk:K a w'):o.wp P a w K Q:=by
 refine wp_skip' (w':=w') (by simp [execOp,ho,hrun]) ?_
 rw [hdst]
 exact hk
theorem sim_st (hs:SRel φ nt m dB s g a w) {rec:Rec} {n:Nat} {x y:A} (hc:chkI P φ nt o (.st x y n false)=true) (hok:(evI rec (.st x y n false) s).ok=true)
  (hK:After φ nt m dB s g w (evI rec (.st x y n false) s) o a K):o.wp P a w K Q:=by
 simp only [chkI] at hc
 split at hc
 ·rename_i t x' y' ho
  simp only [Bool.and_eq_true,decide_eq_true_eq,beq_iff_eq] at hc
  obtain ⟨⟨⟨⟨⟨hdst,hx⟩,hy⟩,hsz⟩,hpos⟩,_⟩:=hc
  have rx:=chkA_rel hs hx
  have ry:=chkA_rel hs hy
  simp only [evI,Bool.false_eq_true,if_false] at hok hK
  obtain ⟨hh,hst⟩:=setHeap_spec hok
  rw [hst] at hK
  simp only [St.setHeap] at hK
  have fin:∀{w':World},(Instr.storeAt t (a.eval x') (a.eval y')).run P w = .ok () w'→SRel φ nt m dB ⟨s.env,hh,s.ok⟩ g a w'→Frame m s.heap g w hh g w'→o.wp P a w K Q:=by
   intro w' h1 h2 h3
   refine wp_store ho hdst h1 ?_
   have:=hK g undef w'
   rw [hdst] at this
   exact this h2 h3
  unfold stH at hst
  split at hst
  ·rename_i q r c hp
   rw [hp] at rx
   simp only [relV] at rx
   have hobj:=hs.heap.obj q
   split at hst
   ·rename_i es rows hq
    rw [hq] at rx hobj
    have ex:=rx.2.2 es rfl
    split at hst
    ·rename_i row hrow
     split at hst
     ·rename_i hcond
      obtain ⟨hcn,hvl,hkn⟩:=hcond
      obtain ⟨rc,h1⟩:=relV_cells ry hkn
      have hvs:(a.eval y').cells.size=n:=by have:=relVs_length rc;simp at this;omega
      have hobj':(∃CS T,w.heap[g.β q]?=some (.cells CS T (0,0))∧g.o q+es*(rows.map fun r=>r.map V.d).length≤CS.size)∧relRowsV φ s.heap g w (g.β q) es (g.o q) (rows.map fun r=>r.map V.d)∧g.I (g.β q)≤g.o q :=
       ⟨by simpa using hobj.1,relRows_V hobj.2.1,by simpa using hobj.2.2⟩
      have hrow':(rows.map fun r=>r.map V.d)[r]?=some (row.map V.d):=by simp [hrow]
      split at hst
      ·rename_i ds hds
       simp at hst
       subst hst
       obtain ⟨w',h2,h3,h4⟩:=sim_store (P:=P) hs (x:=.arrD es true (rows.set r (overlay row c ds))) (ok:=s.ok) (by rw [hq];rfl) (by rw [hq];rfl) (by rw [hq];simp [O.len]) hobj' hrow' (by simpa using hcn) hvl hsz hvs rfl rc h1
        ⟨rfl,by simp [O.len],by simp⟩ (fun hb hr hI=>⟨by simpa using hb,relRows_D (by rw [getElem?_set_map,overlay_map,←allD_eq hds];exact hr),by simpa using hI⟩)
       exact fin (by rw [ex];exact h2) h3 h4
      ·simp at hst
       subst hst
       obtain ⟨w',h2,h3,h4⟩:=sim_store (P:=P) hs (x:=.arrV es ((rows.map fun x=>x.map V.d).set r (overlay (row.map V.d) c (s.get y).cells))) (ok:=s.ok) (by rw [hq];rfl) (by rw [hq];rfl) (by rw [hq];simp [O.len]) hobj' hrow' (by simpa using hcn) hvl hsz hvs rfl rc h1
        ⟨rfl,by simp [O.len],by simp⟩ (fun hb hr hI=>⟨by simpa using hb,hr,hI⟩)
       exact fin (by rw [ex];exact h2) h3 h4
     ·simp at hst
    ·simp at hst
   ·rename_i es rows hq
    rw [hq] at rx hobj
    have ex:=rx.2.2 es rfl
    split at hst
    ·rename_i row hrow
     split at hst
     ·rename_i hcond
      obtain ⟨hcn,hvl,hkn⟩:=hcond
      obtain ⟨rc,h1⟩:=relV_cells ry hkn
      have hvs:(a.eval y').cells.size=n:=by have:=relVs_length rc;simp at this;omega
      simp at hst
      subst hst
      obtain ⟨w',h2,h3,h4⟩:=sim_store (P:=P) hs (x:=.arrV es (rows.set r (overlay row c (s.get y).cells))) (ok:=s.ok) (by rw [hq];rfl) (by rw [hq];rfl) (by rw [hq];rfl) hobj hrow hcn hvl hsz hvs rfl rc h1
       ⟨rfl,by simp [O.len],by simp⟩ (fun hb hr hI=>⟨by simpa using hb,hr,hI⟩)
      exact fin (by rw [ex];exact h2) h3 h4
     ·simp at hst
    ·simp at hst
   ·simp at hst
  ·simp at hst
 ·simp at hc
theorem sim_stfz (hs:SRel φ nt m dB s g a w) {rec:Rec} {n:Nat} {x y:A} (hc:chkI P φ nt o (.st x y n true)=true) (hok:(evI rec (.st x y n true) s).ok=true)
  (hK:After φ nt m dB s g w (evI rec (.st x y n true) s) o a K):o.wp P a w K Q:=by
 simp only [chkI] at hc
 split at hc
 ·rename_i t x' y' ho
  simp only [Bool.and_eq_true,decide_eq_true_eq,beq_iff_eq] at hc
  obtain ⟨⟨⟨⟨⟨hdst,hx⟩,hy⟩,hsz⟩,hpos⟩,hlast⟩:=hc
  have rx:=chkA_rel hs hx
  have ry:=chkA_rel hs hy
  simp only [evI,if_true] at hok hK
  cases x with
  | k q=>simp [St.fail] at hok
  | t d =>
   simp only at hlast
   have hd:d<nt:=by simpa using hlast
   cases hp:s.get (.t d) with
   | loc q r c =>
    rw [hp] at hok hK rx
    cases r with
    | succ r=>simp [St.fail] at hok
    | zero =>
     cases c with
     | succ c=>simp [St.fail] at hok
     | zero =>
      simp only at hok hK
      have hobj:=hs.heap.obj q
      cases hq:hget s.heap q with
      | arrD es ex rows =>
       rw [hq] at hok hK hobj
       simp only [relV,hq] at rx
       have exx:=rx.2.2 es rfl
       cases ex with
       | false=>simp [St.fail] at hok
       | true =>
        match rows,hobj,hok,hK,hq with
        | [],_,hok,_,_=>simp [St.fail] at hok
        | _::_::_,_,hok,_,_=>simp [St.fail] at hok
        | [z],hobj,hok,hK,hq =>
         simp only at hok hK
         split at hK
         ·rename_i hcond
          rw [if_pos hcond] at hok
          obtain ⟨hzl,hvl,hkn⟩:=hcond
          obtain ⟨v,hh,hv⟩:=putH_spec hok
          rw [hv] at hK
          simp only [Option.some.injEq,Prod.mk.injEq] at hv
          obtain ⟨rfl,rfl⟩:=hv
          simp only [St.putH] at hK
          obtain ⟨rc,h1⟩:=relV_cells ry hkn
          have hvs:(a.eval y').cells.size=n:=by have:=relVs_length rc;simp at this;omega
          obtain ⟨⟨cur,T,hg,hfit⟩,hrr,hI⟩:=hobj
          simp only [if_true] at hI
          have hzes:z.length=es:=(relRows_get hrr (r:=0) rfl).1
          simp only [List.length_cons,List.length_nil,Nat.zero_add,Nat.mul_one] at hfit
          obtain ⟨w',hrun,ht,hw'⟩:=run_storeAt (P:=P) (w:=w) hsz (off:=g.o q) hg hvs (by omega) h1
          have hdl:=relVs_length rc
          have hE:Ext g.I w (updI g.I (g.β q) (g.o q+n)) w':=ext_store ht hg (by simp;omega) hw' (by omega) (fun k=>by simp only [updI];split<;>simp_all;omega)
          have hl:(hget s.heap q).live=true:=by rw [hq];rfl
          have hle:HLe s.heap g w (s.heap.set q .dead) (g.setI (updI g.I (g.β q) (g.o q+n))) w':=hle_turn hs.heap hl ht hE (fun es he=>by simp [O.es?] at he) (fun kv hkv=>by simp at hkv)
          have hH:HRel φ (s.heap.set q .dead) (g.setI (updI g.I (g.β q) (g.o q+n))) w':=hrel_turn hs.heap hl ht hle (fun b hb=>by simp [updI,hb]) trivial
          have hS:=hs.turn (ok:=s.ok) hl ht hle hH
          refine wp_store ho hdst (w':=w') (by rw [exx];simpa using hrun) ?_
          have hk:=hK (g.setI (updI g.I (g.β q) (g.o q+n))) undef w'
          rw [hdst] at hk
          refine hk ?_ (frame_turn .dead hl ht hE (fun b hb=>by simp [updI,hb]) hle)
          refine ⟨fun k=>?_,hH,hs.size,hS.defers,by simpa using hs.len⟩
          simp only [envGet]
          by_cases hkd:d=k
          ·subst hkd
           rw [if_pos rfl]
           have hsl:a.tmps.getD d undef = .pointer (some ⟨g.β q,g.o q,none⟩):=by
            cases x' with
            | tmp t =>
             simp [chkA] at hx
             subst hx
             simpa [Act.eval] using exx
            | const v=>simp [chkA] at hx
            | func f=>simp [chkA] at hx
            | _=>simp [chkA] at hx
           have hsl':(a.put none undef).tmps.getD d undef = .pointer (some ⟨g.β q,g.o q,none⟩):=hsl
           rw [hsl']
           have hcellj:∀(j:Nat) (u:Value),(a.eval y').cells.toList[j]?=some u→w'.cell? ⟨g.β q,g.o q+j,none⟩=some u:=by
            intro j u hj
            have hjl:j<(a.eval y').cells.toList.length:=by
             rcases Nat.lt_or_ge j (a.eval y').cells.toList.length with h2 | h2
             ·exact h2
             ·simp [List.getElem?_eq_none h2] at hj
            have hov:=overlay_get (cs:=cur.toList) (new:=(a.eval y').cells.toList) (o:=g.o q) (by simp;omega) (g.o q+j)
            rw [if_neg (by omega),if_pos (by omega),Nat.add_sub_cancel_left,hj] at hov
            simp only [World.cell?,hw',List.getElem?_toArray]
            simpa using hov
           unfold mkRef
           split
           ·rename_i ds hds
            simp only [relV,relD,Gh.setI]
            have hdd:=relVs_D hds rc
            have hdn:=relDs_length hdd
            simp at hdn
            exact ⟨g.β q,g.o q,rfl,by simp [updI];omega,relCells_of_vals (vs:=(a.eval y').cells.toList) (relDs_ext hE hdd) hcellj h1⟩
           ·simp only [relV,Gh.setI]
            simp at hdl
            exact ⟨g.β q,g.o q,(a.eval y').cells.toList,rfl,by simp [updI];omega,relVs_le hle rc,fun j u hj=>⟨hcellj j u hj,h1 u (List.mem_of_getElem? hj)⟩⟩
          ·rw [if_neg hkd]
           exact hS.env k
         ·rename_i hcond
          rw [if_neg hcond] at hok
          simp [St.fail] at hok
      | _=>rw [hq] at hok;simp [St.fail] at hok
   | _=>rw [hp] at hok;simp [St.fail] at hok
 ·simp at hc
end
end Go.VS
namespace Go.VS
section
variable {P:Program} {φ:Phi}
variable {nt m dB:Nat} {s:St} {g:Gh} {a:Act} {w:World} {K:Act→World→Prop} {Q:Exit→Act→World→Prop} {o:Oper}
def QuietCall (P:Program) (φ:Phi) (rec:Rec):Prop :=
 ∀(f:Nat) (xs:List V) (h:List O) (v:V) (h1:List O),rec (.call f xs h)=some (.val v h1) →
  (∃ fn, P.funcs[φ f]? = some fn ∧ (fn.name == "runtime.NumGoroutine") = false ∧ fn.body.isNone = false) ∧
  ∀(g:Gh) (w:World) (args:Array Value),HRel φ h g w→relVs φ h g w xs args.toList →
   Calls P (φ f) args w fun e w'=>∃v' g',e = .returned v'∧HRel φ h1 g' w'∧relV φ h1 g' w' v v'∧Frame h.length h g w h1 g' w'
theorem hrel_nil {I:Nat→Nat} {w:World} (h0:∀b,w.heap.size≤b→I b=0):HRel φ [] ⟨fun _=>0,fun _=>0,I⟩ w where
 obj n:=by simp [hget,objRel]
 inj n k hn:=by simp [hget,O.live] at hn
 new:=h0
theorem relV_gh {g':Gh} {w:World} (hg:g'.I=g.I) {x:V} {v:Value} (hr:relV φ [] g w x v):relV φ [] g' w x v :=
 relV_le (h:=[]) (h':=[]) ⟨by rw [hg];exact Ext.refl _ _,Nat.le_refl _,fun n es hn=>by simp at hn,fun n kv hn=>by simp at hn,fun n hn=>by simp at hn⟩ hr
theorem frame_nil {m:Nat} {g0 g2:Gh} {w w':World} {h2:List O} (hfr:Frame m [] g0 w h2 g2 w'):Grew w w'∧∀b,b<w.heap.size→g2.I b=g0.I b:=by
 have hk:=fun b hb=>hfr.keep b hb (fun n hn=>by simp [hget,O.live] at hn)
 exact ⟨⟨hfr.size,fun b hb=>(hk b hb).1,hfr.os,hfr.tape,hfr.output⟩,fun b hb=>(hk b hb).2⟩
mutual
theorem relV_nil {h:List O} {g:Gh} {w:World}:∀{x:V} {v:Value},relV φ [] g w x v→relV φ h g w x v
 | .u,v,_=>by simp [relV]
 | .skp,v,hr=>by simpa [relV] using hr
 | .d x,v,hr=>by simpa only [relV] using hr
 | .loc n r c,v,hr=>by simp [relV] at hr
 | .asl n off len,v,hr=>by simp [relV] at hr
 | .aslx n off len,v,hr=>by simp [relV] at hr
 | .sl0 _,v,hr=>by simpa only [relV] using hr
 | .mp n,v,hr=>by simp [relV] at hr
 | .yld n,v,hr=>by simp [relV] at hr
 | .rf cs,v,hr=>by
  simp only [relV] at hr ⊢
  obtain ⟨b,off,us,h1,h2,h3,h4⟩:=hr
  exact ⟨b,off,us,h1,h2,relVs_nil h3,h4⟩
 | .fn f a b,v,hr=>by
  simp only [relV] at hr ⊢
  obtain ⟨A,B,h1,h2,h3⟩:=hr
  exact ⟨A,B,h1,relVs_nil h2,relVs_nil h3⟩
 | .ag cs,v,hr=>by
  simp only [relV] at hr ⊢
  obtain ⟨A,h1,h2,h3⟩:=hr
  exact ⟨A,h1,relVs_nil h2,h3⟩
 | .tu cs,v,hr=>by
  simp only [relV] at hr ⊢
  obtain ⟨A,h1,h2⟩:=hr
  exact ⟨A,h1,relVs_nil h2⟩
theorem relVs_nil {h:List O} {g:Gh} {w:World}:∀{xs:List V} {vs:List Value},relVs φ [] g w xs vs→relVs φ h g w xs vs
 | [],[],_=>by simp [relVs]
 | _::_,_::_,hr=>by
  simp only [relVs] at hr ⊢
  exact ⟨relV_nil hr.1,relVs_nil hr.2⟩
 | [],_::_,hr=>by simp [relVs] at hr
 | _::_,[],hr=>by simp [relVs] at hr
end
theorem callQ_spec {rec:Rec} {f:Nat} {xs:List V} {v:V} (h:callQ rec f xs=some v):∃ds,allD xs=some ds∧rec (.call f xs [])=some (.val v []):=by
 unfold callQ at h
 split at h
 ·rename_i ds hds
  refine ⟨ds,hds,?_⟩
  split at h
  ·rename_i v' hv
   simp at h
   subst h
   exact hv
  ·simp at h
 ·simp at h
theorem dstMay_spec {d:Option Nat} (h:dstMay nt o d=true):o.dst=d∧∀k,d=some k→k<nt:=by
 simp only [dstMay,Bool.and_eq_true,beq_iff_eq] at h
 refine ⟨h.1,fun k hk=>?_⟩
 subst hk
 simpa using h.2
theorem run_callFunc {f : Nat} {fn : Func} {args : Array Value} (hf : P.funcs[f]? = some fn) (hn : (fn.name == "runtime.NumGoroutine") = false) (hb : fn.body.isNone = false) :
  (callFunc f args).run P w = .ok (.enter f args) w:=by
 have hn' : fn.name ≠ "runtime.NumGoroutine" := by simpa using hn
 have hb':fn.body≠none:=by intro h;simp [h] at hb
 simp [callFunc,hf,hn',hb']
theorem sim_quiet {rec:Rec} (hq:QuietCall P φ rec) (hs:SRel φ nt m dB s g a w) {d:Option Nat} (hd:dstMay nt o d=true) {f:Nat} {xs:List V} {args:Array Value} {ov:Option V} (hov:ov=callQ rec f xs)
  (hok:(s.putQ d ov).ok=true) (hr:relVs φ s.heap g w xs args.toList)
  (hrun:(execOp a.eval o).run P w=(callFunc (φ f) args).run P w) (hK:After φ nt m dB s g w (s.putQ d ov) o a K):o.wp P a w K Q:=by
 obtain ⟨v,hv⟩:=putQ_some hok
 obtain ⟨ds,hds,hrec⟩:=callQ_spec (by rw [←hov];exact hv)
 obtain ⟨⟨fn,hf,hn,hb⟩,hcall⟩:=hq f xs [] v [] hrec
 unfold Oper.wp
 rw [hrun,run_callFunc hf hn hb]
 simp only [Oper.upon]
 have hxs:relVs φ [] ⟨fun _=>0,fun _=>0,g.I⟩ w xs args.toList:=by
  rw [allD_eq hds]
  exact relDs_V (g:=⟨fun _=>0,fun _=>0,g.I⟩) (show relDs φ g.I w ds args.toList from relVs_D hds hr)
 refine Calls.mono (hcall ⟨fun _=>0,fun _=>0,g.I⟩ w args (hrel_nil hs.heap.new) hxs) fun e w' h=>?_
 obtain ⟨v',g1,rfl,hH1,hrel,hfr⟩:=h
 obtain ⟨hg,hI⟩:=frame_nil hfr
 have hnew:=hH1.new
 obtain ⟨I',hI'⟩:∃I',g1.I=I':=⟨_,rfl⟩
 rw [hI'] at hI hnew
 obtain ⟨h1,h2⟩:=dstMay_spec hd
 have hs':=hs.grew (I':=I') hg hI hnew
 have hrv:relV φ s.heap (g.setI I') w' v v':=relV_nil (relV_gh (g':=g.setI I') hI'.symm hrel)
 refine hK (g.setI I') v' w' ?_ ?_
 ·rw [h1,hv]
  cases d with
  | none=>exact hs'
  | some d=>exact hs'.putV (h2 d rfl) hrv
 ·rw [hv]
  cases d with
  | none=>exact frame_grew m hs.heap hg hI
  | some d=>exact frame_grew m hs.heap hg hI
theorem sim_call {rec:Rec} (hq:QuietCall P φ rec) (hs:SRel φ nt m dB s g a w) {d:Option Nat} {f:Nat} {xs:List A} (hc:chkI P φ nt o (.call d f xs)=true) (hok:(evI rec (.call d f xs) s).ok=true)
  (hK:After φ nt m dB s g w (evI rec (.call d f xs) s) o a K):o.wp P a w K Q:=by
 simp only [chkI,Bool.and_eq_true] at hc
 obtain ⟨hd,h⟩:=hc
 split at h
 ·rename_i c ho
  split at h
  ·rename_i ff hcal
   simp only [Bool.and_eq_true,beq_iff_eq] at h
   obtain ⟨rfl,hx⟩:=h
   simp only [evI] at hok hK
   refine sim_quiet hq hs hd (f:=f) (xs:=xs.map s.get) (args:=c.args.map a.eval) rfl hok (by simpa using chkAs_rel hs hx) ?_ hK
   simp [execOp,ho,resolve,hcal,Act.eval,Deferred.ofValue,invoke]
  ·simp at h
 ·simp at h
theorem relVs_of_D {h:List O} {g:Gh}:∀{ds:List D} {vs:List Value},relDs φ g.I w ds vs→relVs φ h g w (ds.map V.d) vs
 | [],[],_=>by simp [relVs]
 | _::_,_::_,hr=>by
  simp only [relDs] at hr
  simp only [List.map_cons,relVs,relV]
  exact ⟨hr.1,relVs_of_D hr.2⟩
 | [],_::_,hr=>by simp [relDs] at hr
 | _::_,[],hr=>by simp [relDs] at hr
theorem sim_callv {rec:Rec} (hq:QuietCall P φ rec) (hs:SRel φ nt m dB s g a w) {d:Option Nat} {x:A} {xs:List A} (hc:chkI P φ nt o (.callv d x xs)=true) (hok:(evI rec (.callv d x xs) s).ok=true)
  (hK:After φ nt m dB s g w (evI rec (.callv d x xs) s) o a K):o.wp P a w K Q:=by
 simp only [chkI,Bool.and_eq_true] at hc
 obtain ⟨hd,h⟩:=hc
 split at h
 ·rename_i c ho
  split at h
  ·rename_i y hcal
   simp only [Bool.and_eq_true] at h
   obtain ⟨hx,hxs⟩:=h
   simp only [evI] at hok hK
   have rx:=chkA_rel hs hx
   have rxs:=chkAs_rel hs hxs
   have key:∀{f:Nat} {A B:Array Value} {zs:List V},a.eval y = .func (.func (φ f)) A B→callVal (callQ rec) (s.get x) (xs.map s.get)=callQ rec f zs →
     relVs φ s.heap g w zs (A.toList++c.args.toList.map a.eval++B.toList)→o.wp P a w K Q:=by
    intro f A B zs he hz hr
    refine sim_quiet hq hs hd (f:=f) (xs:=zs) (args:=A++c.args.map a.eval++B) hz hok (by simpa using hr) ?_ hK
    simp [execOp,ho,resolve,hcal,he,Deferred.ofValue,invoke]
   cases hv:s.get x with
   | d z =>
    cases z with
    | fn f first caps =>
     rw [hv] at rx
     simp only [relV,relD] at rx
     obtain ⟨A,B,he,hA,hB⟩:=rx
     exact key he (by rw [hv];rfl) (relVs_append (relVs_append (relVs_of_D hA) rxs) (relVs_of_D hB))
    | _=>rw [hv] at hok;simp [callVal,St.putQ,St.fail] at hok
   | fn f first caps =>
    rw [hv] at rx
    simp only [relV] at rx
    obtain ⟨A,B,he,hA,hB⟩:=rx
    exact key he (by rw [hv];rfl) (relVs_append (relVs_append hA rxs) hB)
   | _=>rw [hv] at hok;simp [callVal,St.putQ,St.fail] at hok
  ·simp at h
 ·simp at h
end
end Go.VS
namespace Go.VS
section
variable {P:Program} {φ:Phi}
variable {nt m dB:Nat} {s:St} {g:Gh} {a:Act} {w:World} {K:Act→World→Prop} {Q:Exit→Act→World→Prop} {o:Oper}
def BoundIs (x:Option Value) (dflt n:Int):Prop :=
 match x with
 | none=>n=dflt
 | some v=>∃k,v = .int k n
def hiB (cap len:Nat):Option Value→Sem Nat
 | some v=>Instr.sliceBound v cap .sliceAcap
 | none=>pure len
def loB (h:Nat):Option Value→Sem Nat
 | some v=>Instr.sliceBound v h .sliceB
 | none=>pure 0
theorem bounds_eq (cap len:Nat) (lo hi:Option Value):Instr.sliceBounds true len cap lo hi none=(do
  let hv ←hiB cap len hi
  let lv ←loB hv lo
  pure (lv,hv,cap)):=by
 cases lo<;>cases hi<;>rfl
theorem run_slice {t e:TypeId} {es:Nat} (ht:P.underlying t=some (.slice e)) (hes:sizeIs P e es=true) {ad:Option Addr} {len cap:Nat} {lo hi:Option Value} {l h:Int}
  (hl:BoundIs lo 0 l) (hh:BoundIs hi len h) (h0:0≤l) (h1:l≤h) (h2:h≤cap) :
  (Instr.sliceAt t (.slice ad len cap) lo hi none).run P w = .ok (.slice (if cap=l.toNat then ad else ad.map (·.add (l.toNat*es))) (h.toNat - l.toNat) (cap - l.toNat)) w:=by
 have hsz:=run_size (P:=P) (w:=w) hes
 have hh0:0≤h:=by omega
 have eh:(hiB cap len hi).run P w = .ok h.toNat w:=by
  cases hi with
  | none=>simp only [BoundIs] at hh;subst hh;simp [hiB]
  | some v =>
   obtain ⟨k,rfl⟩:=hh
   simp [hiB,Instr.sliceBound,asIntOf,hh0,h2]
 have el:(loB h.toNat lo).run P w = .ok l.toNat w:=by
  cases lo with
  | none=>simp only [BoundIs] at hl;subst hl;simp [loB]
  | some v =>
   obtain ⟨k,rfl⟩:=hl
   have:¬max h 0<l:=by omega
   simp [loB,Instr.sliceBound,asIntOf,h0,this]
 have eb:(Instr.sliceBounds true len cap lo hi none).run P w = .ok (l.toNat,h.toNat,cap) w:=by
  rw [bounds_eq]
  simp only [Sem.run_bind,eh,Result.andThen_ok,el,Sem.run_pure]
 simp [Instr.sliceAt,Instr.slice,underlying,ht,eb,hsz]
theorem bound_rel (hs:SRel φ nt m dB s g a w) {x:Option Operand} {y:Option A} (hc:chkO φ x y=true) {dflt n:Int} (hn:intOr s dflt y=some n):BoundIs (x.map a.eval) dflt n:=by
 unfold chkO at hc
 split at hc
 ·simp [intOr] at hn;simp [BoundIs,hn]
 ·rename_i ox ay
  have hr:=chkA_rel hs hc
  simp only [intOr] at hn
  cases hv:s.get ay with
  | d z =>
   rw [hv] at hn hr
   cases z with
   | i k z=>simp [asInt] at hn;subst hn;exact ⟨k,relD_int (by simpa only [relV] using hr)⟩
   | _=>simp [asInt] at hn
  | _=>rw [hv] at hn;simp [asInt] at hn
 ·simp at hc
theorem drop_take_get {α:Type} {xs:List α} {l h r:Nat} {y:α} (hy:((xs.take h).drop l)[r]?=some y):xs[l+r]?=some y:=by
 rw [List.getElem?_drop,List.getElem?_take] at hy
 split at hy
 ·exact hy
 ·simp at hy
theorem sim_sl (hs:SRel φ nt m dB s g a w) {rec:Rec} {d es:Nat} {x:A} {lo hi:Option A} (hc:chkI P φ nt o (.sl d x lo hi es)=true) (hok:(evI rec (.sl d x lo hi es) s).ok=true)
  (hK:After φ nt m dB s g w (evI rec (.sl d x lo hi es) s) o a K):o.wp P a w K Q:=by
 simp only [chkI,Bool.and_eq_true] at hc
 obtain ⟨hd,h⟩:=hc
 split at h
 ·rename_i t y lo' hi' ho
  simp only [Bool.and_eq_true] at h
  obtain ⟨⟨⟨hx,hlo⟩,hhi⟩,ht⟩:=h
  split at ht
  ·rename_i e hu
   have rx:=chkA_rel hs hx
   refine sim_putO hs hd hok (fun v hv=>?_) hK
   unfold slV at hv
   split at hv
   ·rename_i l hh hl hhv
    have bl:=bound_rel hs hlo hl
    have bh:=bound_rel hs hhi hhv
    have fin:∀{ad:Option Addr} {len cap:Nat},a.eval y = .slice ad len cap→lenI (s.get x)=len→0≤l→l≤hh→hh≤cap →
      (execOp a.eval o).run P w = .ok (.value (.slice (if cap=l.toNat then ad else ad.map (·.add (l.toNat*es))) (hh.toNat - l.toNat) (cap - l.toNat))) w:=by
     intro ad len cap he hlen h0 h1 h2
     rw [hlen] at bh
     have:=run_slice (P:=P) (w:=w) hu ht bl bh (ad:=ad) (len:=len) (cap:=cap) h0 h1 h2
     simp [execOp,ho,he,this]
    split at hv
    ·rename_i e' nl xs hp
     rw [hp] at rx fin
     simp only [relV,relD] at rx
     obtain ⟨ad,cap,he,hlc,ht1,hf1⟩:=rx
     split at hv
     ·rename_i hcond
      obtain ⟨rfl,h0,h1,h2⟩:=hcond
      simp at hv
      subst hv
      refine ⟨_,fin he rfl h0 h1 (by omega),?_⟩
      simp only [relV,relD]
      have hlen:((xs.take hh.toNat).drop l.toNat).length=hh.toNat - l.toNat:=by simp;omega
      rw [hlen]
      refine ⟨_,_,rfl,by omega,fun hn=>?_,fun hn=>?_⟩
      ·obtain ⟨rfl,rfl⟩:=ht1 hn
       simp
      ·obtain ⟨ad',rfl,hx'⟩:=hf1 hn
       by_cases hcl:cap=l.toNat
       ·rw [if_pos hcl]
        refine ⟨ad',rfl,fun hne=>?_⟩
        exfalso
        apply hne
        apply List.eq_nil_of_length_eq_zero
        rw [hlen];omega
       ·rw [if_neg hcl]
        refine ⟨_,rfl,fun hne=>?_⟩
        have hxs:xs≠[]:=by
         rintro rfl
         simp at hne
        obtain ⟨hsp,hI,hrr⟩:=hx' hxs
        obtain ⟨b,off,sp⟩:=ad'
        simp only at hsp hI hrr
        subst hsp
        simp only [addr_add]
        refine ⟨trivial,?_,relRows_of fun r row hrow=>?_⟩
        ·have h3:(hh.toNat - l.toNat)+l.toNat≤xs.length:=by omega
         have h4:e'*((hh.toNat - l.toNat)+l.toNat)≤e'*xs.length:=Nat.mul_le_mul_left _ h3
         rw [Nat.mul_add,Nat.mul_comm e' l.toNat] at h4
         omega
        ·obtain ⟨q1,q2⟩:=relRows_get hrr (drop_take_get hrow)
         refine ⟨q1,?_⟩
         rw [Nat.add_mul,←Nat.add_assoc] at q2
         exact q2
     ·simp at hv
    ·rename_i n off len hp
     rw [hp] at rx fin
     simp only [relV] at rx
     split at hv
     ·rename_i e' ex rows hn
      split at hv
      ·rename_i hcond
       obtain ⟨rfl,h0,h1,h2⟩:=hcond
       obtain ⟨cap,he,hlc,hm,CS,T,hb,hsz⟩:=rx.2.2 e' (by rw [hn];rfl)
       rw [hn] at hm
       simp only [O.len] at hm
       have hrun:=fin he rfl h0 h1 (by omega)
       refine ⟨_,hrun,?_⟩
       split at hv
       ·rename_i hll
        simp at hv
        subst hv
        simp only [relV]
        refine ⟨rx.1,rfl,fun es' he'=>?_⟩
        rw [hn] at he'
        simp [O.es?] at he'
        subst he'
        have hlen:(hh - l).toNat=hh.toNat - l.toNat:=by omega
        rw [hlen]
        refine ⟨cap - l.toNat,?_,by omega,by rw [hn];simp only [O.len];omega,CS,T,hb,?_⟩
        ·have hcond:(if cap=l.toNat then (some ⟨g.β n,g.o n+off*e',none⟩:Option Addr) else (some ⟨g.β n,g.o n+off*e',none⟩:Option Addr).map (·.add (l.toNat*e')))=some ⟨g.β n,g.o n+(off+l.toNat)*e',none⟩:=by
          split
          ·rename_i hcl
           have:l.toNat=0:=by omega
           rw [this];simp
          ·simp only [Option.map_some,addr_add]
           rw [Nat.add_mul,←Nat.add_assoc]
         rw [hcond]
        ·have:off+l.toNat+(cap - l.toNat)=off+cap:=by omega
         rw [this];exact hsz
       ·rename_i hll
        simp at hv
        subst hv
        simp only [relV,relD]
        have hz:hh.toNat - l.toNat=0:=by omega
        rw [hz]
        refine ⟨_,_,rfl,by simp,by simp,fun _=>?_⟩
        split
        ·exact ⟨_,rfl,by simp⟩
        ·exact ⟨_,rfl,by simp⟩
      ·simp at hv
     ·simp at hv
    ·rename_i n off len hp
     rw [hp] at rx fin
     simp only [relV] at rx
     split at hv
     ·rename_i e' ex rows hn
      split at hv
      ·rename_i hcond
       obtain ⟨rfl,h0,h1,h2⟩:=hcond
       obtain ⟨cap,he,hlc,hm,CS,T,hb,hsz⟩:=rx.2.2 e' (by rw [hn];rfl)
       rw [hn] at hm
       simp only [O.len] at hm
       have hrun:=fin he rfl h0 h1 (by omega)
       refine ⟨_,hrun,?_⟩
       split at hv
       ·rename_i hll
        simp at hv
        subst hv
        simp only [relV]
        refine ⟨rx.1,rfl,fun es' he'=>?_⟩
        rw [hn] at he'
        simp [O.es?] at he'
        subst he'
        have hlen:(hh - l).toNat=hh.toNat - l.toNat:=by omega
        rw [hlen]
        refine ⟨cap - l.toNat,?_,by omega,by rw [hn];simp only [O.len];omega,CS,T,hb,?_⟩
        ·have hcond:(if cap=l.toNat then (some ⟨g.β n,g.o n+off*e',none⟩:Option Addr) else (some ⟨g.β n,g.o n+off*e',none⟩:Option Addr).map (·.add (l.toNat*e')))=some ⟨g.β n,g.o n+(off+l.toNat)*e',none⟩:=by
          split
          ·rename_i hcl
           have:l.toNat=0:=by omega
           rw [this];simp
          ·simp only [Option.map_some,addr_add]
           rw [Nat.add_mul,←Nat.add_assoc]
         rw [hcond]
        ·have:off+l.toNat+(cap - l.toNat)=off+cap:=by omega
         rw [this];exact hsz
       ·rename_i hll
        simp at hv
        subst hv
        simp only [relV,relD]
        have hz:hh.toNat - l.toNat=0:=by omega
        rw [hz]
        refine ⟨_,_,rfl,by simp,by simp,fun _=>?_⟩
        split
        ·exact ⟨_,rfl,by simp⟩
        ·exact ⟨_,rfl,by simp⟩
      ·simp at hv
     ·simp at hv
    ·rename_i e' hp
     rw [hp] at rx fin
     simp only [relV] at rx
     obtain ⟨ad,he⟩:=rx
     split at hv
     ·rename_i hcond
      obtain ⟨rfl,rfl,rfl⟩:=hcond
      simp at hv
      subst hv
      have hrun:=fin he (by simp [lenI]) (by omega) (by omega) (by omega)
      exact ⟨_,hrun,by simp only [relV];exact ⟨ad,by simp⟩⟩
     ·simp at hv
    ·simp at hv
   ·simp at hv
  ·simp at ht
 ·simp at h
end
end Go.VS
namespace Go.VS
section
variable {P:Program} {φ:Phi}
variable {nt m dB:Nat} {s:St} {g:Gh} {a:Act} {w:World} {K:Act→World→Prop} {Q:Exit→Act→World→Prop} {o:Oper}
theorem sim_cl0 (hs:SRel φ nt m dB s g a w) {rec:Rec} {d es:Nat} {x:A} (hc:chkI P φ nt o (.cl0 d x es)=true) (hok:(evI rec (.cl0 d x es) s).ok=true)
  (hK:After φ nt m dB s g w (evI rec (.cl0 d x es) s) o a K):o.wp P a w K Q:=by
 simp only [chkI,Bool.and_eq_true] at hc
 obtain ⟨hd,h⟩:=hc
 split at h
 ·rename_i t y k1 k2 k3 ho
  simp only [Bool.and_eq_true] at h
  obtain ⟨hx,ht⟩:=h
  split at ht
  ·rename_i e hu
   have rx:=chkA_rel hs hx
   have hsz:=run_size (P:=P) (w:=w) ht
   refine sim_putO hs hd hok (fun v hv=>?_) hK
   have fin:∀{ad:Option Addr} {len cap:Nat},a.eval y = .slice ad len cap→(execOp a.eval o).run P w = .ok (.value (.slice ad 0 0)) w:=by
    intro ad len cap he
    have e1:∀k:IntKind,a.eval (.const (.int k 0)) = .int k 0:=fun _=>rfl
    simp [execOp,ho,he,e1,Instr.sliceAt,Instr.slice,Instr.sliceBounds,Instr.sliceBound,asIntOf,underlying,hu,hsz]
   unfold cl0V at hv
   split at hv
   ·rename_i e' nl xs hp
    rw [hp] at rx
    simp only [relV,relD] at rx
    obtain ⟨ad,cap,he,hlc,ht1,hf1⟩:=rx
    refine ⟨_,fin he,?_⟩
    split at hv
    ·cases nl with
     | true =>
      simp at hv
      subst hv
      obtain ⟨rfl,_⟩:=ht1 rfl
      simp [relV,relD]
     | false =>
      simp at hv
      subst hv
      obtain ⟨ad',rfl,_⟩:=hf1 rfl
      simp [relV]
    ·simp at hv
   ·rename_i n off len hp
    rw [hp] at rx
    simp only [relV] at rx
    split at hv
    ·rename_i ha
     simp at hv
     subst hv
     obtain ⟨es',he'⟩:=es_of_arr ha
     obtain ⟨cap,he,_⟩:=rx.2.2 es' he'
     exact ⟨_,fin he,by simp [relV]⟩
    ·simp at hv
   ·rename_i e' hp
    rw [hp] at rx
    simp only [relV] at rx
    obtain ⟨ad,he⟩:=rx
    simp at hv
    subst hv
    exact ⟨_,fin he,by simp [relV]⟩
   ·simp at hv
  ·simp at ht
 ·simp at h
end
end Go.VS
namespace Go.VS
section
variable {P:Program} {φ:Phi}
variable {nt m dB:Nat} {s:St} {g:Gh} {a:Act} {w:World} {K:Act→World→Prop} {Q:Exit→Act→World→Prop} {o:Oper}
theorem relRows_flat {I:Nat→Nat} {b es:Nat}:∀{off:Nat} {xs:List (List D)},relRows φ I w b es off xs→∃vs:List Value,relDs φ I w xs.flatten vs∧(∀v∈vs,v.oneCell'=true)∧vs.length=es*xs.length ∧
  ∀(j:Nat) (v:Value),vs[j]?=some v→w.cell? ⟨b,off+j,none⟩=some v
 | off,[],_=>⟨[],by simp [relDs],by simp,by simp,by simp⟩
 | off,x::xs,hr=>by
  simp only [relRows] at hr
  obtain ⟨hl,hc,hr⟩:=hr
  obtain ⟨us,h1,h2,h3⟩:=relCells_vals hc
  obtain ⟨vs,k1,k2,k3,k4⟩:=relRows_flat hr
  have hul:=relDs_length h1
  refine ⟨us++vs,by rw [List.flatten_cons];exact relDs_append h1 k1,fun v hv=>(List.mem_append.1 hv).elim (h3 v) (k2 v),by rw [List.length_append,k3,←hul,hl,List.length_cons,Nat.mul_succ];omega,fun j v hj=>?_⟩
  by_cases hlt:j<us.length
  ·rw [List.getElem?_append_left hlt] at hj
   exact h2 j v hj
  ·rw [List.getElem?_append_right (by omega)] at hj
   have:=k4 (j - us.length) v hj
   have he:off+es+(j - us.length)=off+j:=by omega
   rwa [he] at this
theorem relRows_of_flat {I:Nat→Nat} {b es:Nat}:∀{off:Nat} {xs:List (List D)} {vs:List Value},(∀r∈xs,r.length=es)→relDs φ I w xs.flatten vs→(∀v∈vs,v.oneCell'=true) →
  (∀(j:Nat) (v:Value),vs[j]?=some v→w.cell? ⟨b,off+j,none⟩=some v)→relRows φ I w b es off xs:=by
 intro off xs vs hl hr h1 hc
 refine relRows_of fun r row hrow=>⟨hl row (List.mem_of_getElem? hrow),relCells_of fun j c hj=>?_⟩
 obtain ⟨v,hv,hd⟩:=relDs_get hr (flatten_get hl hrow hj)
 exact ⟨v,by rw [Nat.add_assoc];exact hc _ v hv,h1 v (List.mem_of_getElem? hv),hd⟩
theorem relRows_take {I:Nat→Nat} {b es o off len:Nat} {rows:List (List D)} (hr:relRows φ I w b es o rows) (hle:off+len≤rows.length):relRows φ I w b es (o+off*es) ((rows.drop off).take len):=by
 refine relRows_of fun r row hrow=>?_
 have hlt:r<len:=by
  rcases Nat.lt_or_ge r len with h | h
  ·exact h
  ·simp [List.getElem?_take,Nat.not_lt.2 h] at hrow
 rw [List.getElem?_take_of_lt hlt,List.getElem?_drop] at hrow
 obtain ⟨h1,h2⟩:=relRows_get hr hrow
 refine ⟨h1,?_⟩
 have:o+off*es+r*es=o+(off+r)*es:=by rw [Nat.add_mul];omega
 rw [this]
 exact h2
theorem rowsD_rel {h:List O} {es:Nat} {y:V} {v:Value} {ys:List (List D)} (hH:HRel φ h g w) (hr:relV φ h g w y v) (hy:rowsD h es y=some ys) :
  ∃(xa:Option Addr) (xc:Nat) (news:List Value),v = .slice xa ys.length xc∧(∀r∈ys,r.length=es)∧relDs φ g.I w ys.flatten news∧(∀u∈news,u.oneCell'=true)∧news.length=es*ys.length ∧
   (ys≠[]→∃b off,xa=some ⟨b,off,none⟩∧∀(j:Nat) (u:Value),news[j]?=some u→w.cell? ⟨b,off+j,none⟩=some u):=by
 have lens:∀{b off:Nat} {xs:List (List D)},relRows φ g.I w b es off xs→∀r∈xs,r.length=es:=by
  intro b off xs hrr r hmem
  obtain ⟨j,hj,he⟩:=List.getElem_of_mem hmem
  exact (relRows_get hrr (r:=j) (row:=r) (by simp [hj,he])).1
 unfold rowsD at hy
 split at hy
 ·rename_i e nl xs
  split at hy
  ·rename_i he
   subst he
   simp at hy
   subst hy
   simp only [relV,relD] at hr
   obtain ⟨ad,cap,rfl,hlc,ht,hf⟩:=hr
   by_cases hx:xs=[]
   ·subst hx
    exact ⟨ad,cap,[],rfl,by simp,by simp [relDs],by simp,by simp,by simp⟩
   ·cases nl with
    | true =>
     obtain ⟨_,rfl⟩:=ht rfl
     have:xs.length=0:=by omega
     exact absurd (List.eq_nil_of_length_eq_zero this) hx
    | false =>
     obtain ⟨ad',rfl,hx'⟩:=hf rfl
     obtain ⟨hsp,_,hrr⟩:=hx' hx
     obtain ⟨b,off,sp⟩:=ad'
     simp only at hsp hrr
     subst hsp
     obtain ⟨vs,h1,h2,h3,h4⟩:=relRows_flat hrr
     exact ⟨_,cap,vs,rfl,lens hrr,h1,h2,h3,fun _=>⟨b,off,rfl,h4⟩⟩
  ·simp at hy
 ·rename_i e
  simp at hy
  subst hy
  simp only [relV] at hr
  obtain ⟨ad,rfl⟩:=hr
  exact ⟨some ad,0,[],rfl,by simp,by simp [relDs],by simp,by simp,by simp⟩
 ·rename_i n off len
  split at hy
  ·rename_i e ex rows hn
   split at hy
   ·rename_i hcond
    obtain ⟨rfl,hle⟩:=hcond
    simp at hy
    subst hy
    simp only [relV] at hr
    obtain ⟨cap,rfl,hlc,_⟩:=hr.2.2 e (by rw [hn];rfl)
    have hobj:=hH.obj n
    rw [hn] at hobj
    have hrr:=relRows_take hobj.2.1 hle
    have hlen:((rows.drop off).take len).length=len:=by simp;omega
    obtain ⟨vs,h1,h2,h3,h4⟩:=relRows_flat hrr
    exact ⟨_,cap,vs,by rw [hlen],lens hrr,h1,h2,h3,fun _=>⟨_,_,rfl,h4⟩⟩
   ·simp at hy
  ·simp at hy
 ·rename_i n off len
  split at hy
  ·rename_i e ex rows hn
   split at hy
   ·rename_i hcond
    obtain ⟨rfl,hle⟩:=hcond
    simp at hy
    subst hy
    simp only [relV] at hr
    obtain ⟨cap,rfl,hlc,_⟩:=hr.2.2 e (by rw [hn];rfl)
    have hobj:=hH.obj n
    rw [hn] at hobj
    have hrr:=relRows_take hobj.2.1 hle
    have hlen:((rows.drop off).take len).length=len:=by simp;omega
    obtain ⟨vs,h1,h2,h3,h4⟩:=relRows_flat hrr
    exact ⟨_,cap,vs,by rw [hlen],lens hrr,h1,h2,h3,fun _=>⟨_,_,rfl,h4⟩⟩
   ·simp at hy
  ·simp at hy
 ·simp at hy
theorem run_firstCells {es n:Nat} {xa:Option Addr} {xc:Nat} {news:List Value} (hl:news.length=n*es) (hc:news≠[]→∃b off,xa=some ⟨b,off,none⟩∧∀(j:Nat) (u:Value),news[j]?=some u→w.cell? ⟨b,off+j,none⟩=some u)
  : (Builtin.firstCells es n (.slice xa n xc)).run P w = .ok news.toArray w:=by
 by_cases hne:news=[]
 ·subst hne
  cases xa with
  | none=>simp [Builtin.firstCells]
  | some ad=>exact run_firstCells_some w es n ad n xc [] hl (by simp)
 ·obtain ⟨b,off,rfl,h⟩:=hc hne
  exact run_firstCells_some w es n _ n xc news hl fun j v hj=>by rw [addr_add];exact h j v hj
theorem run_append_fit {t t' ty e e':TypeId} {i:TypeInfo} (ht:P.underlying t=some (.slice e)) (ht':P.underlying t'=some (.slice e')) (hi:P.info? e=some i) {b off sLen sCap n xc:Nat} {xa:Option Addr} {news:List Value}
  (hl:news.length=n*i.size) (hc:news≠[]→∃b off,xa=some ⟨b,off,none⟩∧∀(j:Nat) (u:Value),news[j]?=some u→w.cell? ⟨b,off+j,none⟩=some u)
  (hle:sLen+n≤sCap) {cur:Array Value} {T:TypeId} (hg:w.heap[b]?=some (.cells cur T (0,0))) (hfit:off+sLen*i.size+news.length≤cur.size) (h1:∀u∈news,u.oneCell'=true) :
  (Builtin.append_ #[t,t'] ty #[.slice (some ⟨b,off,none⟩) sLen sCap,.slice xa n xc]).run P w = .ok (.slice (some ⟨b,off,none⟩) (sLen+n) sCap) (w.setRow b (overlay cur.toList (off+sLen*i.size) news).toArray):=by
 have hf:=run_firstCells (P:=P) (w:=w) hl hc (xc:=xc)
 have hst:=run_storeCells_at P b (off+sLen*i.size) T news 0 cur w hg (by simpa using hfit) h1
 simp only [Nat.add_zero] at hst
 simp [Builtin.append_,run_underlying ht,run_underlying ht',sizeOf,typeInfo,hi,Builtin.lenOf,hle,hf,addr_add,hst,overlay]
theorem run_append_zero {t t' ty e e':TypeId} {i:TypeInfo} (ht:P.underlying t=some (.slice e)) (ht':P.underlying t'=some (.slice e')) (hi:P.info? e=some i) {sLen sCap xc:Nat} {base xa:Option Addr} (hle:sLen≤sCap) :
  (Builtin.append_ #[t,t'] ty #[.slice base sLen sCap,.slice xa 0 xc]).run P w = .ok (.slice base sLen sCap) w:=by
 have hf:=run_firstCells (P:=P) (w:=w) (es:=i.size) (n:=0) (xa:=xa) (xc:=xc) (news:=[]) (by simp) (by simp)
 cases base with
 | none=>simp [Builtin.append_,run_underlying ht,run_underlying ht',sizeOf,typeInfo,hi,Builtin.lenOf,hle,hf]
 | some ad=>simp [Builtin.append_,run_underlying ht,run_underlying ht',sizeOf,typeInfo,hi,Builtin.lenOf,hle,hf,storeCells]
theorem run_append_new {t t' ty e e':TypeId} {i:TypeInfo} {z:Value} (ht:P.underlying t=some (.slice e)) (ht':P.underlying t'=some (.slice e')) (hi:P.info? e=some i) (hz:i.zero=some z) {sLen sCap n sc xc:Nat} {base xa:Option Addr} {olds news:List Value}
  (hlo:olds.length=sLen*i.size) (hco:olds≠[]→∃b off,base=some ⟨b,off,none⟩∧∀(j:Nat) (u:Value),olds[j]?=some u→w.cell? ⟨b,off+j,none⟩=some u)
  (hl:news.length=n*i.size) (hc:news≠[]→∃b off,xa=some ⟨b,off,none⟩∧∀(j:Nat) (u:Value),news[j]?=some u→w.cell? ⟨b,off+j,none⟩=some u)
  (hgr:sCap<sLen+n) (hroom:sLen+n≤room) (hby:i.bytes≤16384) (hsc:sc=sCap) :
  (Builtin.append_ #[t,t'] ty #[.slice base sLen sc,.slice xa n xc]).run P w =
   .ok (.slice (some ⟨w.heap.size,0,none⟩) (sLen+n) (grownCap w (sLen+n) sCap e)) (w.drew.alloc (.cells (olds++news++(Builtin.zeroCells z.cells (grownCap w (sLen+n) sCap e - (sLen+n))).toList).toArray e)):=by
 subst hsc
 have hn:¬(sLen+n≤sc):=by omega
 have hroom':sLen+n≤4294967296:=hroom
 have h63':¬(9223372036854775807<((sLen:Int)+(n:Int))):=by omega
 have hmul:(sLen+n)*i.bytes≤4294967296*16384:=Nat.mul_le_mul hroom' hby
 have h48':¬(281474976710656<Builtin.nextslicecap (sLen+n) sc*i.bytes):=by
  have:=growslice_fits (bytes:=i.bytes) hgr (by omega)
  omega
 have hf:=run_firstCells (P:=P) (w:=w.drew) (xa:=xa) (xc:=xc) hl (fun h=>by obtain ⟨b,off,h1,h2⟩:=hc h;exact ⟨b,off,h1,by simpa using h2⟩)
 have hfo:=run_firstCells (P:=P) (w:=w.drew) (xa:=base) (xc:=sc) hlo (fun h=>by obtain ⟨b,off,h1,h2⟩:=hco h;exact ⟨b,off,h1,by simpa using h2⟩)
 simp [Builtin.append_,run_underlying ht,run_underlying ht',sizeOf,typeInfo,zeroValue,hi,hz,Builtin.lenOf,hn,h63',h48',Question.forced,hf,hfo,newRow,grownCap]
 congr 2
 apply Array.ext'
 simp [List.append_assoc]
end
end Go.VS
namespace Go.VS
section
variable {P:Program} {φ:Phi}
variable {nt m dB:Nat} {s:St} {g:Gh} {a:Act} {w:World} {K:Act→World→Prop} {Q:Exit→Act→World→Prop} {o:Oper}
theorem Turned.refl (w:World) (b:Nat):Turned w w b:=⟨rfl,fun _ _=>rfl,rfl,rfl,rfl⟩
theorem hrel_reuse {h:List O} {B o':Nat} {x:O} (hr:HRel φ h g w) (hB:∀k,(hget h k).live=true→g.β k≠B) (hx:objRel φ (h++[x]) (g.add h.length B o' g.I) w B o' x) :
  HRel φ (h++[x]) (g.add h.length B o' g.I) w where
 obj n:=by
  rcases Nat.lt_trichotomy n h.length with hn | hn | hn
  ·have hne:n≠h.length:=by omega
   rw [hget_append_old hn]
   by_cases hl:(hget h n).live=true
   ·have:=objRel_move (hle_new (b:=B) (o:=o') x hr (Grew.refl w) (fun _ _=>rfl)) rfl rfl (hr.obj n)
    simpa [Gh.add,hne] using this
   ·cases hq:hget h n<;>simp_all [O.live,objRel]
  ·subst hn
   rw [hget_append_new]
   simpa [Gh.add] using hx
  ·rw [hget_append_out hn]
   trivial
 inj n k hn hk he:=by
  have key:∀n,(hget (h++[x]) n).live=true→n≤h.length:=fun n hn=>by
   rcases Nat.lt_or_ge h.length n with h1 | h1
   ·rw [hget_append_out h1] at hn;simp [O.live] at hn
   ·exact h1
  have kn:=key n hn
  have kk:=key k hk
  by_cases h1:n=h.length<;>by_cases h2:k=h.length
  ·omega
  ·have hlt:k<h.length:=by omega
   rw [hget_append_old hlt] at hk
   have:=hB k hk
   simp [Gh.add,h1,h2] at he
   exact absurd he.symm this
  ·have hlt:n<h.length:=by omega
   rw [hget_append_old hlt] at hn
   have:=hB n hn
   simp [Gh.add,h1,h2] at he
   exact absurd he this
  ·have hlt:n<h.length:=by omega
   have hlt':k<h.length:=by omega
   rw [hget_append_old hlt] at hn
   rw [hget_append_old hlt'] at hk
   simp [Gh.add,h1,h2] at he
   exact hr.inj n k hn hk he
 new:=hr.new
theorem objRel_rows {h':List O} {g':Gh} {w':World} {b es:Nat} {T:TypeId} {C:List Value} {rest:List Value} {ys:List (List D)} {ex:Bool} (hb:w'.heap[b]?=some (.cells (C++rest).toArray T (0,0)))
  (hl:∀r∈ys,r.length=es) (hr:relDs φ g'.I w' ys.flatten C) (h1:∀v∈C,v.oneCell'=true) (hI:if ex then g'.I b≤0 else g'.I b=0+es*ys.length):objRel φ h' g' w' b 0 (.arrD es ex ys):=by
 have hlen:=relDs_length hr
 rw [flatten_length hl] at hlen
 refine ⟨⟨_,T,hb,by simp;omega⟩,relRows_of_flat hl hr h1 fun j v hj=>?_,hI⟩
 simp only [World.cell?,hb,Nat.zero_add,List.getElem?_toArray]
 rw [List.getElem?_append_left]
 ·simp [hj]
 ·rcases Nat.lt_or_ge j C.length with h2 | h2
  ·exact h2
  ·simp [List.getElem?_eq_none h2] at hj
theorem grew_drew_alloc (w:World) (ob:Obj):Grew w (w.drew.alloc ob):=(Grew.drew w).trans (Grew.alloc w.drew ob)
theorem one_zeroCells {C:Array Value} (h:∀v∈C.toList,v.oneCell'=true) (n:Nat):∀v∈(Builtin.zeroCells C n).toList,v.oneCell'=true:=by
 intro v hv
 simp only [Builtin.zeroCells,Array.toList_map,Array.toList_range,List.mem_map,List.mem_range] at hv
 obtain ⟨i,hi,rfl⟩:=hv
 have hp:0<C.size:=by
  rcases Nat.eq_zero_or_pos C.size with h0 | h0
  ·rw [h0] at hi;simp at hi
  ·exact h0
 have hlt:=Nat.mod_lt i hp
 rw [getElem!_pos C _ hlt]
 exact h _ (by simp)
theorem sim_newrowsG (hs:SRel φ nt m dB s g a w) {d:Nat} (hd:dstIs nt o d=true) {es cap:Nat} {T:TypeId} {C rest:List Value} {ys:List (List D)} {ex:Bool} {ok:Bool} {w1:World} (hg1:Grew w w1) (hz1:w1.heap.size=w.heap.size)
  (hrun:(execOp a.eval o).run P w = .ok (.value (.slice (some ⟨w.heap.size,0,none⟩) ys.length cap)) (w1.alloc (.cells (C++rest).toArray T)))
  (hl:∀r∈ys,r.length=es) (hr:relDs φ g.I w ys.flatten C) (h1:∀v∈C,v.oneCell'=true) (hcap:ys.length≤cap) (hfit:cap*es≤C.length+rest.length) (hrest:∀v∈rest,v.oneCell'=true)
  (hK:∀g' v' w',SRel φ nt m dB ⟨(d,.asl s.heap.length 0 ys.length)::s.env,s.heap++[.arrD es ex ys],ok⟩ g' (a.put o.dst v') w'→Frame m s.heap g w (s.heap++[.arrD es ex ys]) g' w'→K (a.put o.dst v') w'):o.wp P a w K Q:=by
 have hnew:=hs.heap.new
 have hnew1:∀b,w1.heap.size≤b→g.I b=0:=fun b hb=>hnew b (by omega)
 have hg:=hg1.trans (Grew.alloc w1 (.cells (C++rest).toArray T))
 have hb:(w1.alloc (.cells (C++rest).toArray T)).heap[w.heap.size]?=some (.cells (C++rest).toArray T):=by rw [←hz1];exact heap_alloc_at w1 _
 have hI:∀b,b<w.heap.size→updI g.I w.heap.size (if ex then 0 else es*ys.length) b=g.I b:=fun b hb=>updI_lt hb
 have hE:=ext_grew hg hI hnew
 refine sim_newobj hs hd (b:=w.heap.size) (off:=0) (x:=.arrD es ex ys) (I':=updI g.I w.heap.size (if ex then 0 else es*ys.length)) hrun hg hI (by rw [←hz1];exact size_alloc_le (w:=w1) hnew1 _) (Nat.le_refl _) ?_ ?_ hK
 ·refine objRel_rows hb hl (relDs_ext hE hr) h1 ?_
  cases ex<;>simp [Gh.add,updI]
 ·simp only [relV]
  refine ⟨by simp,rfl,fun es' he'=>?_⟩
  rw [hget_append_new] at he' ⊢
  simp [O.es?] at he'
  subst he'
  exact ⟨cap,by simp [Gh.add],hcap,by simp [O.len];exact hcap,_,_,by simpa [Gh.add] using hb,by simp [Gh.add];exact hfit,fun v hv=>by simp at hv;exact hv.elim (h1 v) (hrest v)⟩
theorem sim_newrows (hs:SRel φ nt m dB s g a w) {d:Nat} (hd:dstIs nt o d=true) {es cap:Nat} {T:TypeId} {C rest:List Value} {ys:List (List D)} {ex:Bool} {ok:Bool}
  (hrun:(execOp a.eval o).run P w = .ok (.value (.slice (some ⟨w.heap.size,0,none⟩) ys.length cap)) (w.drew.alloc (.cells (C++rest).toArray T)))
  (hl:∀r∈ys,r.length=es) (hr:relDs φ g.I w ys.flatten C) (h1:∀v∈C,v.oneCell'=true) (hcap:ys.length≤cap) (hfit:cap*es≤C.length+rest.length) (hrest:∀v∈rest,v.oneCell'=true)
  (hK:∀g' v' w',SRel φ nt m dB ⟨(d,.asl s.heap.length 0 ys.length)::s.env,s.heap++[.arrD es ex ys],ok⟩ g' (a.put o.dst v') w'→Frame m s.heap g w (s.heap++[.arrD es ex ys]) g' w'→K (a.put o.dst v') w'):o.wp P a w K Q :=
 sim_newrowsG hs hd (Grew.drew w) rfl hrun hl hr h1 hcap hfit hrest hK
theorem SRel.kill (hs:SRel φ nt m dB s g a w) {n:Nat} (hl:(hget s.heap n).live=true) (ok:Bool):SRel φ nt m dB ⟨s.env,s.heap.set n .dead,ok⟩ g a w∧Frame m s.heap g w (s.heap.set n .dead) g w∧HLe s.heap g w (s.heap.set n .dead) g w:=by
 have hle:HLe s.heap g w (s.heap.set n .dead) (g.setI g.I) w:=hle_turn hs.heap hl (Turned.refl _ _) (Ext.refl _ _) (fun es he=>by simp [O.es?] at he) (fun kv hk=>by simp at hk)
 have hr:HRel φ (s.heap.set n .dead) (g.setI g.I) w:=hrel_turn hs.heap hl (Turned.refl _ _) hle (fun _ _=>rfl) trivial
 exact ⟨hs.turn hl (Turned.refl _ _) hle hr,frame_turn .dead hl (Turned.refl _ _) (Ext.refl _ _) (fun _ _=>rfl) hle,hle⟩
theorem relDs_overlay {I:Nat→Nat} {cs ds:List D} {vs us:List Value} (h:relDs φ I w cs vs) (k:relDs φ I w ds us) (n:Nat):relDs φ I w (overlay cs n ds) (overlay vs n us):=by
 unfold overlay
 rw [relDs_length k]
 exact relDs_append (relDs_append (relDs_take h n) k) (relDs_drop h _)
theorem overlay_flatten {α:Type} {es:Nat} {rows ys:List (List α)} (hl:∀r∈rows,r.length=es) (hy:∀r∈ys,r.length=es) (n:Nat):(overlay rows n ys).flatten=overlay rows.flatten (n*es) ys.flatten:=by
 have key:∀(rows:List (List α)) (n:Nat),(∀r∈rows,r.length=es)→(rows.take n).flatten=rows.flatten.take (n*es)∧(rows.drop n).flatten=rows.flatten.drop (n*es):=by
  intro rows
  induction rows with
  | nil=>intro n _;simp
  | cons r rs ih =>
   intro n h
   have hr:r.length=es:=h r (by simp)
   cases n with
   | zero=>simp
   | succ n =>
    obtain ⟨h1,h2⟩:=ih n (fun x hx=>h x (by simp [hx]))
    simp only [List.take_succ_cons,List.flatten_cons,List.drop_succ_cons,h1,h2,List.take_append,List.drop_append,hr,Nat.succ_mul]
    have e1:n*es+es - es=n*es:=by omega
    have e2:r.take (n*es+es)=r:=List.take_of_length_le (by omega)
    have e3:r.drop (n*es+es)=[]:=List.drop_eq_nil_of_le (by omega)
    rw [e1,e2,e3]
    simp
 unfold overlay
 rw [List.flatten_append,List.flatten_append,(key rows n hl).1,(key rows _ hl).2,flatten_length hy]
 congr 2
 rw [Nat.add_mul,Nat.mul_comm ys.length]
theorem overlay_mem {α:Type} {cs ds:List α} {n:Nat} {x:α} (h:x∈overlay cs n ds):x∈cs∨x∈ds:=by
 simp only [overlay,List.mem_append] at h
 rcases h with (h | h) | h
 ·exact .inl (List.mem_of_mem_take h)
 ·exact .inr h
 ·exact .inl (List.mem_of_mem_drop h)
theorem relRows_over {I I':Nat→Nat} {w':World} {b es off n:Nat} {rows ys:List (List D)} {news:List Value} (hr:relRows φ I w b es off rows) (hE:Ext I w I' w') (hy:relDs φ I w ys.flatten news) (h1:∀v∈news,v.oneCell'=true)
  (hyl:∀r∈ys,r.length=es) (hn:n+ys.length≤rows.length) {cur:Array Value} {T:TypeId} (hg:w.heap[b]?=some (.cells cur T (0,0))) (hfit:off+es*rows.length≤cur.size)
  (hg':w'.heap[b]?=some (.cells (overlay cur.toList (off+n*es) news).toArray T (0,0))):relRows φ I' w' b es off (overlay rows n ys):=by
 have hrl:∀r∈rows,r.length=es:=by
  intro r hmem
  obtain ⟨j,hj,he⟩:=List.getElem_of_mem hmem
  exact (relRows_get hr (r:=j) (row:=r) (by simp [hj,he])).1
 obtain ⟨vs,k1,k2,k3,k4⟩:=relRows_flat hr
 have hnl:=relDs_length hy
 rw [flatten_length hyl] at hnl
 have hmul:n*es+es*ys.length≤es*rows.length:=by
  have:=Nat.mul_le_mul_left es hn
  rw [Nat.mul_add,Nat.mul_comm es n] at this
  exact this
 refine relRows_of_flat (vs:=overlay vs (n*es) news) (fun r hr=>(overlay_mem hr).elim (hrl r) (hyl r)) ?_ (fun v hv=>(overlay_mem hv).elim (k2 v) (h1 v)) fun j v hj=>?_
 ·rw [overlay_flatten hrl hyl]
  exact relDs_ext hE (relDs_overlay k1 hy _)
 ·have hov:=overlay_get (cs:=cur.toList) (new:=news) (o:=off+n*es) (by simp;omega) (off+j)
  rw [overlay_get (by omega)] at hj
  have old:vs[j]?=some v→cur.toList[off+j]?=some v:=fun h=>by
   have:=k4 j v h
   simpa [World.cell?,hg] using this
  simp only [World.cell?,hg',List.getElem?_toArray]
  rw [hov]
  by_cases c1:j<n*es
  ·rw [if_pos c1] at hj
   rw [if_pos (show off+j<off+n*es by omega)]
   exact old hj
  ·rw [if_neg c1] at hj
   rw [if_neg (show ¬off+j<off+n*es by omega)]
   by_cases c2:j<n*es+news.length
   ·rw [if_pos c2] at hj
    rw [if_pos (show off+j<off+n*es+news.length by omega)]
    have:off+j - (off+n*es)=j - n*es:=by omega
    rw [this]
    exact hj
   ·rw [if_neg c2] at hj
    rw [if_neg (show ¬off+j<off+n*es+news.length by omega)]
    exact old hj
def mkSl (b:Bool) (n off len:Nat):V:=if b then .aslx n off len else .asl n off len
theorem app_over (bx:Bool) (hs:SRel φ nt m dB s g a w) {d n off len cap es:Nat} {x':Operand} {rows ys:List (List D)} {news:List Value} {CS:Array Value} {T:TypeId} (hd:dstIs nt o d=true) (hn:hget s.heap n = .arrD es true rows)
  (hb:w.heap[g.β n]?=some (.cells CS T (0,0))) (hfit:g.o n+(off+cap)*es≤CS.size) (hcs:OneC CS) (hfit':g.o n+es*rows.length≤CS.size) (hm:if bx then rows.length=off+cap else rows.length≤off+cap) (he:a.eval x' = .slice (some ⟨g.β n,g.o n+off*es,none⟩) len cap)
  (hrr:relRows φ g.I w (g.β n) es (g.o n) rows) (hI:g.I (g.β n)≤g.o n) (hrd:relDs φ g.I w ys.flatten news) (hone:∀u∈news,u.oneCell'=true) (hrl:∀r∈ys,r.length=es) (hnl':news.length=ys.length*es)
  (hin:off+len+ys.length≤rows.length)
  (hrun:len+ys.length≤cap→g.o n+off*es+len*es+news.length≤CS.size→(execOp a.eval o).run P w = .ok (.value (.slice (some ⟨g.β n,g.o n+off*es,none⟩) (len+ys.length) cap)) (w.setRow (g.β n) (overlay CS.toList (g.o n+off*es+len*es) news).toArray))
  (hK:After φ nt m dB s g w ⟨(d,mkSl bx n off (len+ys.length))::s.env,s.heap.set n (.arrD es true (overlay rows (off+len) ys)),s.ok⟩ o a K):o.wp P a w K Q:=by
 have hl:(hget s.heap n).live=true:=by rw [hn];rfl
 have hm':rows.length≤off+cap:=by cases bx<;>simp at hm<;>omega
 have hmul:(off+len+ys.length)*es≤rows.length*es:=Nat.mul_le_mul_right es hin
 rw [Nat.add_mul,Nat.add_mul] at hmul
 have hc1:es*rows.length=rows.length*es:=Nat.mul_comm _ _
 have hfit2:g.o n+off*es+len*es+news.length≤CS.size:=by omega
 have hrun':=hrun (by omega) hfit2
 obtain ⟨ht,hw'⟩:=turned_setRow (cs:=(overlay CS.toList (g.o n+off*es+len*es) news).toArray) hb
 have hE:Ext g.I w g.I (w.setRow (g.β n) (overlay CS.toList (g.o n+off*es+len*es) news).toArray):=ext_store ht hb hfit2 hw' (by omega) (fun _=>Nat.le_refl _)
 have hsize:(overlay CS.toList (g.o n+off*es+len*es) news).toArray.size=CS.size:=by
  have:=overlay_length (cs:=CS.toList) (new:=news) (o:=g.o n+off*es+len*es) (by simpa using hfit2)
  simpa using this
 have hol:(overlay rows (off+len) ys).length=rows.length:=overlay_length hin
 have hle:=hle_turn (x:=.arrD es true (overlay rows (off+len) ys)) hs.heap hl ht hE
  (fun es' he'=>⟨by rw [hn];simpa [O.es?] using he',by rw [hn];simp only [O.len,hol],fun CS' T' hc=>by
   rw [hb] at hc
   simp at hc
   obtain ⟨rfl,rfl⟩:=hc
   exact ⟨_,_,hw',by rw [hsize];exact Nat.le_refl _,fun h=>h.over hone⟩⟩) (fun kv hk=>by simp at hk)
 have e1:g.o n+off*es+len*es=g.o n+(off+len)*es:=by rw [Nat.add_mul];omega
 have hH:=hrel_turn (x:=.arrD es true (overlay rows (off+len) ys)) hs.heap hl ht hle (fun _ _=>rfl)
  ⟨⟨_,T,hw',by rw [hsize,hol];exact hfit'⟩,relRows_over hrr hE hrd hone hrl hin hb hfit' (by rw [←e1];exact hw'),by simpa [Gh.setI] using hI⟩
 have hS:=hs.turn (ok:=s.ok) hl ht hle hH
 obtain ⟨h1,h2⟩:=dstIs_spec hd
 refine wp_val hrun' (hK _ _ _ ?_ (frame_turn _ hl ht hE (fun _ _=>rfl) hle))
 rw [h1]
 refine hS.putV h2 ?_
 cases bx with
 | false =>
  simp only [mkSl,Bool.false_eq_true,if_false,relV]
  refine ⟨by simpa using hget_lt hl,rfl,fun es' he'=>?_⟩
  rw [hget_set_same (hget_lt hl)] at he' ⊢
  simp [O.es?] at he'
  subst he'
  exact ⟨cap,rfl,by omega,by simp only [O.len,hol];exact hm',_,_,hw',by rw [hsize];exact hfit,hcs.over hone⟩
 | true =>
  simp only [if_true] at hm
  simp only [mkSl,if_true,relV]
  refine ⟨by simpa using hget_lt hl,rfl,fun es' he'=>?_⟩
  rw [hget_set_same (hget_lt hl)] at he' ⊢
  simp [O.es?] at he'
  subst he'
  exact ⟨cap,rfl,by omega,by simp only [O.len,hol];exact hm,_,_,hw',by rw [hsize];exact hfit,hcs.over hone⟩
theorem app_here (hs:SRel φ nt m dB s g a w) {d n off len cap es:Nat} {x':Operand} {ex:Bool} {rows ys:List (List D)} {news:List Value} {CS:Array Value} {T:TypeId} (hd:dstIs nt o d=true) (hn:hget s.heap n = .arrD es ex rows)
  (hb:w.heap[g.β n]?=some (.cells CS T (0,0))) (hfit:g.o n+(off+cap)*es≤CS.size) (hcs:OneC CS) (hfit':g.o n+es*rows.length≤CS.size) (hm:rows.length≤off+cap) (hle0:off+len≤rows.length) (he:a.eval x' = .slice (some ⟨g.β n,g.o n+off*es,none⟩) len cap)
  (hrr:relRows φ g.I w (g.β n) es (g.o n) rows) (hI:if ex then g.I (g.β n)≤g.o n else g.I (g.β n)=g.o n+es*rows.length) (hrd:relDs φ g.I w ys.flatten news) (hone:∀u∈news,u.oneCell'=true) (hrl:∀r∈ys,r.length=es) (hnl':news.length=ys.length*es)
  (hcap:len+ys.length≤cap) (hex:ex=true∨off+len=rows.length)
  (hrun:g.o n+off*es+len*es+news.length≤CS.size→(execOp a.eval o).run P w = .ok (.value (.slice (some ⟨g.β n,g.o n+off*es,none⟩) (len+ys.length) cap)) (w.setRow (g.β n) (overlay CS.toList (g.o n+off*es+len*es) news).toArray))
  (hK:After φ nt m dB s g w ⟨(d,.asl s.heap.length 0 (len+ys.length))::s.env,s.heap.set n .dead++[.arrD es ex ((rows.drop off).take len++ys)],s.ok⟩ o a K):o.wp P a w K Q:=by
 have hl:(hget s.heap n).live=true:=by rw [hn];rfl
 have hmul:(len+ys.length)*es≤cap*es:=Nat.mul_le_mul_right es hcap
 have hmul2:(off+len)*es≤rows.length*es:=Nat.mul_le_mul_right es hle0
 rw [Nat.add_mul] at hmul hmul2
 have hfit3:=hfit
 rw [Nat.add_mul] at hfit3
 have hc1:es*rows.length=rows.length*es:=Nat.mul_comm _ _
 have hc2:es*len=len*es:=Nat.mul_comm _ _
 have hc3:es*ys.length=ys.length*es:=Nat.mul_comm _ _
 have hfit2:g.o n+off*es+len*es+news.length≤CS.size:=by omega
 have hrun':=hrun hfit2
 obtain ⟨ht,hw'⟩:=turned_setRow (cs:=(overlay CS.toList (g.o n+off*es+len*es) news).toArray) hb
 generalize hwg:w.setRow (g.β n) (overlay CS.toList (g.o n+off*es+len*es) news).toArray=w' at *
 have hlen:((rows.drop off).take len).length=len:=by simp;omega
 have hll:((rows.drop off).take len++ys).length=len+ys.length:=by simp;omega
 have hIp:g.I (g.β n)≤g.o n+off*es+len*es:=by
  cases ex with
  | true=>simp only [if_true] at hI;omega
  | false =>
   simp at hI hex
   have:rows.length*es=off*es+len*es:=by rw [←hex,Nat.add_mul]
   omega
 have hE:Ext g.I w (if ex then g.I else updI g.I (g.β n) (g.o n+off*es+es*(len+ys.length))) w':=ext_store ht hb hfit2 hw' hIp (fun k=>by
  cases ex with
  | true=>simp
  | false =>
   simp only [Bool.false_eq_true,if_false,updI]
   split
   ·rename_i hk;subst hk;rw [Nat.mul_add];omega
   ·exact Nat.le_refl _)
 generalize hIg:(if ex then g.I else updI g.I (g.β n) (g.o n+off*es+es*(len+ys.length)))=I' at hE
 have hI':∀b,b≠g.β n→I' b=g.I b:=by
  intro b hb
  rw [←hIg]
  cases ex<;>simp [updI,hb]
 have hsize:(overlay CS.toList (g.o n+off*es+len*es) news).toArray.size=CS.size:=by
  have:=overlay_length (cs:=CS.toList) (new:=news) (o:=g.o n+off*es+len*es) (by simpa using hfit2)
  simpa using this
 have hle1:=hle_turn (x:=.dead) hs.heap hl ht hE (fun es he=>by simp [O.es?] at he) (fun kv hk=>by simp at hk)
 have hH1:=hrel_turn (x:=.dead) hs.heap hl ht hle1 hI' trivial
 have hS1:=hs.turn (ok:=s.ok) hl ht hle1 hH1
 have hB:∀k,(hget (s.heap.set n .dead) k).live=true→(g.setI I').β k≠g.β n:=by
  intro k hk hbk
  by_cases hkn:k=n
  ·subst hkn;rw [hget_set_same (hget_lt hl)] at hk;simp [O.live] at hk
  ·rw [hget_set_other hkn] at hk;exact hkn (hs.heap.inj k n hk hl hbk)
 have hle2:=hle_new (b:=g.β n) (o:=g.o n+off*es) (.arrD es ex ((rows.drop off).take len++ys)) hH1 (Grew.refl w') (I':=I') (fun _ _=>rfl)
 obtain ⟨olds,o1,o2,o3,o4⟩:=relRows_flat (relRows_take hrr hle0)
 rw [hlen] at o3
 have hrl2:∀r∈(rows.drop off).take len++ys,r.length=es:=by
  intro r hr
  rcases List.mem_append.1 hr with h1 | h1
  ·obtain ⟨j,hj,hje⟩:=List.getElem_of_mem (List.mem_of_mem_drop (List.mem_of_mem_take h1))
   exact (relRows_get hrr (r:=j) (row:=r) (by simp [hj,hje])).1
  ·exact hrl r h1
 have hrr2:relRows φ I' w' (g.β n) es (g.o n+off*es) ((rows.drop off).take len++ys):=by
  refine relRows_of_flat (vs:=olds++news) hrl2 (by rw [List.flatten_append];exact relDs_ext hE (relDs_append o1 hrd)) (fun v hv=>(List.mem_append.1 hv).elim (o2 v) (hone v)) fun j v hj=>?_
  have hov:=overlay_get (cs:=CS.toList) (new:=news) (o:=g.o n+off*es+len*es) (by simpa using hfit2) (g.o n+off*es+j)
  simp only [World.cell?,hw',List.getElem?_toArray]
  rw [hov]
  by_cases c1:j<olds.length
  ·rw [List.getElem?_append_left c1] at hj
   rw [if_pos (show g.o n+off*es+j<g.o n+off*es+len*es by omega)]
   have:=o4 j v hj
   simpa [World.cell?,hb] using this
  ·rw [List.getElem?_append_right (by omega)] at hj
   have hjl:j - olds.length<news.length:=by
    rcases Nat.lt_or_ge (j - olds.length) news.length with h2 | h2
    ·exact h2
    ·simp [List.getElem?_eq_none h2] at hj
   rw [if_neg (show ¬g.o n+off*es+j<g.o n+off*es+len*es by omega),if_pos (show g.o n+off*es+j<g.o n+off*es+len*es+news.length by omega)]
   have:g.o n+off*es+j - (g.o n+off*es+len*es)=j - olds.length:=by omega
   rw [this]
   exact hj
 have hobj2:objRel φ (s.heap.set n .dead++[.arrD es ex ((rows.drop off).take len++ys)]) ((g.setI I').add (s.heap.set n .dead).length (g.β n) (g.o n+off*es) I') w' (g.β n) (g.o n+off*es) (.arrD es ex ((rows.drop off).take len++ys)):=by
  refine ⟨⟨_,T,hw',by rw [hsize,hll,Nat.mul_add];omega⟩,hrr2,?_⟩
  rw [hll]
  show if ex=true then I' (g.β n)≤_ else I' (g.β n)=_
  rw [←hIg]
  cases ex with
  | true=>simp at hI ⊢;omega
  | false=>simp [updI]
 have hH2:=hrel_reuse hH1 hB hobj2
 have hS2:SRel φ nt m dB ⟨s.env,s.heap.set n .dead++[.arrD es ex ((rows.drop off).take len++ys)],s.ok⟩ ((g.setI I').add (s.heap.set n .dead).length (g.β n) (g.o n+off*es) I') a w' :=
  ⟨fun k=>relV_le hle2 (hS1.env k),hH2,hS1.size,hs.defers.reuse hl hS1.defers,by have:=hs.len;simp;omega⟩
 have hlen1:(s.heap.set n .dead).length=s.heap.length:=by simp
 have hF1:=frame_turn (m:=m) .dead hl ht hE hI' hle1
 obtain ⟨h1,h2⟩:=dstIs_spec hd
 refine wp_val hrun' (hK ((g.setI I').add (s.heap.set n .dead).length (g.β n) (g.o n+off*es) I') _ _ ?_ ⟨hE,hF1.size,hF1.os,hF1.tape,hF1.output,fun k hk=>?_,hF1.keep,fun k hk=>?_,fun k hk=>?_⟩)
 ·rw [h1]
  refine hS2.putV h2 ?_
  simp only [relV]
  refine ⟨by simp,rfl,fun es' he'=>?_⟩
  rw [←hlen1,hget_append_new] at he' ⊢
  simp [O.es?] at he'
  subst he'
  refine ⟨cap,by simp [Gh.add],hcap,by simp only [O.len,hll];omega,_,_,by simp only [Gh.add,if_true];exact hw',?_,hcs.over hone⟩
  simp only [Gh.add,if_true]
  rw [hsize,Nat.zero_add]
  omega
 ·have hne:k≠s.heap.length:=by have:=hs.len;omega
  simp [Gh.add,hne,Gh.setI]
 ·rcases Nat.lt_trichotomy k (s.heap.set n .dead).length with hk' | hk' | hk'
  ·rw [hget_append_old hk'] at hk
   have hne:k≠s.heap.length:=by omega
   have:=hF1.lives k hk
   simpa [Gh.add,hne] using this
  ·exact .inl ⟨n,hl,by simp [Gh.add,hk']⟩
  ·rw [hget_append_out hk'] at hk;simp [O.live] at hk
 ·have hk1:k<s.heap.length:=Nat.lt_of_lt_of_le hk hs.len
  exact (hle1.at hk1).trans (hle2.at (by rw [hlen1];exact hk1)) rfl
theorem sim_app (hs:SRel φ nt m dB s g a w) {rec:Rec} {d es:Nat} {x y:A} (hc:chkI P φ nt o (.app d x y es)=true) (hok:(evI rec (.app d x y es) s).ok=true)
  (hK:After φ nt m dB s g w (evI rec (.app d x y es) s) o a K):o.wp P a w K Q:=by
 simp only [chkI,Bool.and_eq_true] at hc
 obtain ⟨hd,h⟩:=hc
 split at h
 ·rename_i c ho
  split at h
  ·rename_i x' y' t t' hcal hargs htys
   simp only [Bool.and_eq_true,decide_eq_true_eq] at h
   obtain ⟨⟨⟨hx,hy⟩,hpos⟩,ht⟩:=h
   obtain ⟨cal,args,tys⟩:=c
   simp only at hcal hargs htys
   have hargs':args=#[x',y']:=by rw [←Array.toList_inj];exact hargs
   have htys':tys=#[t,t']:=by rw [←Array.toList_inj];exact htys
   subst hcal;subst hargs';subst htys'
   split at ht
   ·rename_i e e' hu hu'
    split at ht
    ·rename_i i hi
     simp only [Bool.and_eq_true,beq_iff_eq,decide_eq_true_eq] at ht
     obtain ⟨⟨hsz,hby⟩,hzz⟩:=ht
     split at hzz
     ·rename_i z hz
      simp only [Bool.and_eq_true,beq_iff_eq,List.all_eq_true] at hzz
      obtain ⟨hzz,hz1⟩:=hzz
      subst hsz
      have rx:=chkA_rel hs hx
      have ry:=chkA_rel hs hy
      have fin:∀{u u':Value} {r:Value} {w':World},a.eval x'=u→a.eval y'=u'→(Builtin.append_ #[t,t'] o.type #[u,u']).run P w = .ok r w'→(execOp a.eval o).run P w = .ok (.value r) w':=by
       intro u u' r w' h1 h2 h3
       simp [execOp,ho,resolve,invoke,builtin,h1,h2,h3]
      simp only [evI] at hok hK
      obtain ⟨v,hh,hv⟩:=putH_spec hok
      rw [hv] at hK
      simp only [St.putH] at hK
      have same:∀{v':Value},(execOp a.eval o).run P w = .ok (.value v') w→hh=s.heap→relV φ s.heap g w v v'→o.wp P a w K Q:=by
       intro v' h1 h2 h3
       subst h2
       exact sim_pure hs hd h1 h3 hK
      unfold appV at hv
      cases hrows:rowsD s.heap i.size (s.get y) with
      | none=>simp [hrows] at hv
      | some ys =>
       simp only [hrows] at hv
       obtain ⟨xa,xc,news,hey,hrl,hrd,hone,hnl,hbase⟩:=rowsD_rel hs.heap ry hrows
       have hnl':news.length=ys.length*i.size:=by rw [hnl,Nat.mul_comm]
       have hcells:news≠[]→∃b off,xa=some ⟨b,off,none⟩∧∀(j:Nat) (u:Value),news[j]?=some u→w.cell? ⟨b,off+j,none⟩=some u:=by
        intro hne
        refine hbase fun h=>hne ?_
        subst h
        exact List.eq_nil_of_length_eq_zero (by simpa using hnl)
       have zero:ys.length=0→∀{ad:Option Addr} {len cap:Nat},len≤cap→a.eval x' = .slice ad len cap→(execOp a.eval o).run P w = .ok (.value (.slice ad len cap)) w:=by
        intro h0 ad len cap hle he
        rw [h0] at hey
        exact fin he hey (run_append_zero hu hu' hi hle)
       have fresh:∀{ad:Option Addr},a.eval x' = .slice ad 0 0→ys.length≠0→ys.length≤room→v = .asl s.heap.length 0 ys.length→hh=s.heap++[.arrD i.size true ys]→o.wp P a w K Q:=by
        intro ad he h0 hroom hv1 hv2
        subst hv1;subst hv2
        have hrun:=run_append_new (P:=P) (w:=w) (ty:=o.type) hu hu' hi hz (sLen:=0) (sCap:=0) (sc:=0) (base:=ad) (olds:=[]) (by simp) (by simp) hnl' hcells (xc:=xc) (by omega) (by omega) hby rfl
        simp only [Nat.zero_add,List.nil_append] at hrun
        have hgc:=grownCap_ge w ys.length 0 e
        refine sim_newrows hs hd (es:=i.size) (ex:=true) (rest:=(Builtin.zeroCells z.cells (grownCap w ys.length 0 e - ys.length)).toList) (fin he hey hrun) hrl hrd hone hgc ?_ (one_zeroCells hz1 _) hK
        rw [hnl']
        have hz2:(Builtin.zeroCells z.cells (grownCap w ys.length 0 e - ys.length)).toList.length=(grownCap w ys.length 0 e - ys.length)*i.size:=by simp [size_zeroCells,hzz]
        rw [hz2,←Nat.add_mul]
        exact Nat.mul_le_mul_right _ (by omega)
       cases hxv:s.get x with
       | d xd =>
        cases xd with
        | sl e1 nl xs =>
         rw [hxv] at hv rx
         simp only at hv
         split at hv
         ·rename_i hes
          subst hes
          simp only [relV,relD] at rx
          obtain ⟨ad,cap,he,hlc,ht1,hf1⟩:=rx
          split at hv
          ·rename_i h0
           simp at hv
           obtain ⟨rfl,rfl⟩:=hv
           exact same (zero h0 hlc he) rfl (by simp only [relV,relD];exact ⟨ad,cap,rfl,hlc,ht1,hf1⟩)
          ·rename_i h0
           split at hv
           ·rename_i hnr
            simp at hv
            obtain ⟨rfl,rfl⟩:=ht1 hnr.1
            have:xs.length=0:=by omega
            rw [this] at he
            exact fresh he h0 hnr.2 hv.1.symm hv.2.symm
           ·simp at hv
         ·simp at hv
        | _=>rw [hxv] at hv;simp at hv
       | sl0 e1 =>
        rw [hxv] at hv rx
        simp only at hv
        simp only [relV] at rx
        obtain ⟨ad,he⟩:=rx
        split at hv
        ·rename_i h0
         simp at hv
         obtain ⟨rfl,rfl⟩:=hv
         exact same (zero h0 (Nat.le_refl _) he) rfl (by simp [relV,relD])
        ·rename_i h0
         split at hv
         ·rename_i hroom
          simp at hv
          exact fresh he h0 hroom hv.1.symm hv.2.symm
         ·simp at hv
       | asl n off len =>
        rw [hxv] at hv rx
        simp only at hv
        split at hv
        ·rename_i e1 ex rows hn
         split at hv
         ·rename_i hcond
          obtain ⟨rfl,hle⟩:=hcond
          have rx':=rx
          simp only [relV] at rx
          obtain ⟨cap,he,hlc,hm,CS,T,hb,hfit,hcs⟩:=rx.2.2 i.size (by rw [hn];rfl)
          rw [hn] at hm
          simp only [O.len] at hm
          have hl:(hget s.heap n).live=true:=by rw [hn];rfl
          have hobj:=hs.heap.obj n
          rw [hn] at hobj
          obtain ⟨⟨CS',T',hb',hfit'⟩,hrr,hI⟩:=hobj
          rw [hb] at hb'
          simp at hb'
          obtain ⟨rfl,rfl⟩:=hb'
          split at hv
          ·rename_i h0
           simp at hv
           obtain ⟨rfl,rfl⟩:=hv
           exact same (zero h0 hlc he) rfl (by rw [he] at rx';exact rx')
          ·rename_i h0
           split at hv
           ·rename_i hin
            split at hv
            ·rename_i hex
             subst hex
             simp at hv
             obtain ⟨rfl,rfl⟩:=hv
             simp only [if_true] at hI
             exact app_over false hs hd hn hb hfit hcs hfit' (by simpa using hm) he hrr hI hrd hone hrl hnl' (by omega) (fun hle2 hfit2=>fin he hey (run_append_fit hu hu' hi hnl' hcells hle2 hb hfit2 hone)) hK
            ·simp at hv
           ·rename_i hin
            split at hv
            ·rename_i hcond2
             simp at hv
             obtain ⟨rfl,rfl⟩:=hv
             by_cases hcap:len+ys.length≤cap
             ·exact app_here hs hd hn hb hfit hcs hfit' hm hle he hrr hI hrd hone hrl hnl' hcap hcond2.1 (fun hfit2=>fin he hey (run_append_fit hu hu' hi hnl' hcells hcap hb hfit2 hone)) hK
             ·obtain ⟨k1,k2,k3⟩:=hs.kill hl s.ok
              have hlen:((rows.drop off).take len).length=len:=by simp;omega
              obtain ⟨olds,o1,o2,o3,o4⟩:=relRows_flat (relRows_take hrr hle)
              rw [hlen] at o3
              have hrun:=run_append_new (P:=P) (w:=w) (ty:=o.type) hu hu' hi hz (sLen:=len) (sCap:=cap) (sc:=cap) (base:=some ⟨g.β n,g.o n+off*i.size,none⟩) (olds:=olds) (by rw [o3,Nat.mul_comm]) (fun _=>⟨_,_,rfl,o4⟩) hnl' hcells (xc:=xc) (by omega) hcond2.2 hby rfl
              have hgc:=grownCap_ge w (len+ys.length) cap e
              have hll:((rows.drop off).take len++ys).length=len+ys.length:=by simp;omega
              have hz2:(Builtin.zeroCells z.cells (grownCap w (len+ys.length) cap e - (len+ys.length))).toList.length=(grownCap w (len+ys.length) cap e - (len+ys.length))*i.size:=by simp [size_zeroCells,hzz]
              have hrl2:∀r∈(rows.drop off).take len++ys,r.length=i.size:=by
               intro r hr
               rcases List.mem_append.1 hr with h1 | h1
               ·obtain ⟨j,hj,hje⟩:=List.getElem_of_mem (List.mem_of_mem_drop (List.mem_of_mem_take h1))
                exact (relRows_get hrr (r:=j) (row:=r) (by simp [hj,hje])).1
               ·exact hrl r h1
              have hcl:(s.heap.set n .dead).length=s.heap.length:=by simp
              refine sim_newrows (s:=⟨s.env,s.heap.set n .dead,s.ok⟩) k1 hd (es:=i.size) (ex:=ex) (ys:=(rows.drop off).take len++ys) (C:=olds++news) (ok:=s.ok)
               (rest:=(Builtin.zeroCells z.cells (grownCap w (len+ys.length) cap e - (len+ys.length))).toList) (by rw [hll];exact fin he hey hrun) hrl2 (by rw [List.flatten_append];exact relDs_append o1 hrd)
               (fun v hv=>(List.mem_append.1 hv).elim (o2 v) (hone v)) (by rw [hll];exact hgc) ?_ (one_zeroCells hz1 _) fun g' v' w' h1 h2=>?_
              ·rw [List.length_append,o3,hnl',hz2,Nat.mul_comm i.size,←Nat.add_mul,←Nat.add_mul]
               exact Nat.mul_le_mul_right _ (by omega)
              ·simp only [hcl,hll] at h1 h2
               exact hK g' v' w' h1 (k2.trans h2)
            ·simp at hv
         ·simp at hv
        ·simp at hv
       | aslx n off len =>
        rw [hxv] at hv rx
        simp only at hv
        split at hv
        ·rename_i e1 ex rows hn
         split at hv
         ·rename_i hcond
          obtain ⟨rfl,hle⟩:=hcond
          have rx':=rx
          simp only [relV] at rx
          obtain ⟨cap,he,hlc,hm,CS,T,hb,hfit,hcs⟩:=rx.2.2 i.size (by rw [hn];rfl)
          rw [hn] at hm
          simp only [O.len] at hm
          have hl:(hget s.heap n).live=true:=by rw [hn];rfl
          have hobj:=hs.heap.obj n
          rw [hn] at hobj
          obtain ⟨⟨CS',T',hb',hfit'⟩,hrr,hI⟩:=hobj
          rw [hb] at hb'
          simp at hb'
          obtain ⟨rfl,rfl⟩:=hb'
          split at hv
          ·rename_i h0
           simp at hv
           obtain ⟨rfl,rfl⟩:=hv
           exact same (zero h0 hlc he) rfl (by rw [he] at rx';exact rx')
          ·rename_i h0
           split at hv
           ·rename_i hin
            split at hv
            ·rename_i hex
             subst hex
             simp at hv
             obtain ⟨rfl,rfl⟩:=hv
             simp only [if_true] at hI
             exact app_over true hs hd hn hb hfit hcs hfit' (by simpa using hm) he hrr hI hrd hone hrl hnl' (by omega) (fun hle2 hfit2=>fin he hey (run_append_fit hu hu' hi hnl' hcells hle2 hb hfit2 hone)) hK
            ·simp at hv
           ·rename_i hin
            split at hv
            ·rename_i hroom
             simp at hv
             obtain ⟨rfl,rfl⟩:=hv
             have hlen:((rows.drop off).take len).length=len:=by simp;omega
             obtain ⟨olds,o1,o2,o3,o4⟩:=relRows_flat (relRows_take hrr hle)
             rw [hlen] at o3
             have hrun:=run_append_new (P:=P) (w:=w) (ty:=o.type) hu hu' hi hz (sLen:=len) (sCap:=cap) (sc:=cap) (base:=some ⟨g.β n,g.o n+off*i.size,none⟩) (olds:=olds) (by rw [o3,Nat.mul_comm]) (fun _=>⟨_,_,rfl,o4⟩) hnl' hcells (xc:=xc) (by omega) hroom hby rfl
             have hgc:=grownCap_ge w (len+ys.length) cap e
             have hll:((rows.drop off).take len++ys).length=len+ys.length:=by simp;omega
             have hz2:(Builtin.zeroCells z.cells (grownCap w (len+ys.length) cap e - (len+ys.length))).toList.length=(grownCap w (len+ys.length) cap e - (len+ys.length))*i.size:=by simp [size_zeroCells,hzz]
             have hrl2:∀r∈(rows.drop off).take len++ys,r.length=i.size:=by
              intro r hr
              rcases List.mem_append.1 hr with h1 | h1
              ·obtain ⟨j,hj,hje⟩:=List.getElem_of_mem (List.mem_of_mem_drop (List.mem_of_mem_take h1))
               exact (relRows_get hrr (r:=j) (row:=r) (by simp [hj,hje])).1
              ·exact hrl r h1
             refine sim_newrows hs hd (es:=i.size) (ex:=true) (ys:=(rows.drop off).take len++ys) (C:=olds++news) (ok:=s.ok)
              (rest:=(Builtin.zeroCells z.cells (grownCap w (len+ys.length) cap e - (len+ys.length))).toList) (by rw [hll];exact fin he hey hrun) hrl2 (by rw [List.flatten_append];exact relDs_append o1 hrd)
              (fun v hv=>(List.mem_append.1 hv).elim (o2 v) (hone v)) (by rw [hll];exact hgc) ?_ (one_zeroCells hz1 _) fun g' v' w' h1 h2=>?_
             ·rw [List.length_append,o3,hnl',hz2,Nat.mul_comm i.size,←Nat.add_mul,←Nat.add_mul]
              exact Nat.mul_le_mul_right _ (by omega)
             ·simp only [hll] at h1 h2
              exact hK g' v' w' h1 h2
            ·simp at hv
         ·simp at hv
        ·simp at hv
       | _=>rw [hxv] at hv;simp at hv
     ·simp at hzz
    ·simp at ht
   ·simp at ht
  ·simp at h
 ·simp at h
end
end Go.VS
