import Derived.Test.YtjpdopldkeodgaaGreatV00
import Derived.Test.YtjpdopldkeodgaaGreatV03
set_option linter.all false
namespace Go.VS
abbrev Env:=List (Nat×V)
inductive K where
 | c (c:C)
 | blk (id:Nat)
abbrev Fin:=Ex→Env→List O→Option Res
def gfin (fin:Fin) (e:Ex) (s:St):Option Res:=if s.ok then fin e s.env s.heap else none
noncomputable def resume (rec:Rec) (q:Nat) (fin:Fin):List K→Ex→St→Option Res
 | [],e,s=>gfin fin e s
 | .c c::k,.normal,s=>resume rec q fin k (evC rec q c s).1 (evC rec q c s).2
 | .c _::k,e,s=>resume rec q fin k e s
 | .blk _::k,.normal,s=>resume rec q fin k .normal s
 | .blk id::k,.exit j,s=>if j=id then resume rec q fin k .normal s else resume rec q fin k (.exit j) s
 | .blk _::k,.ret,s=>resume rec q fin k .ret s
section
variable {P:Prog} {q:Nat} {fin:Fin} {k:List K} {e:Env} {h:List O}
theorem resume_fail (rec:Rec):∀(k:List K) (x:Ex) (s:St),s.ok=false→resume rec q fin k x s=none
 | [],x,s,hs=>by simp [resume,gfin,hs]
 | .c c::k,.normal,s,hs=>by
  simp only [resume]
  refine resume_fail rec k _ _ ?_
  cases hq:(evC rec q c s).2.ok with
  | false=>rfl
  | true=>rw [evC_ok hq] at hs;simp at hs
 | .c _::k,.exit j,s,hs=>by simp only [resume];exact resume_fail rec k _ _ hs
 | .c _::k,.ret,s,hs=>by simp only [resume];exact resume_fail rec k _ _ hs
 | .blk _::k,.normal,s,hs=>by simp only [resume];exact resume_fail rec k _ _ hs
 | .blk id::k,.exit j,s,hs=>by
  simp only [resume]
  split
  ·exact resume_fail rec k _ _ hs
  ·exact resume_fail rec k _ _ hs
 | .blk _::k,.ret,s,hs=>by simp only [resume];exact resume_fail rec k _ _ hs
def eGet (e:Env):A→V
 | .t n=>envGet e n
 | .k x=>.d x
@[simp] theorem eGet_t (e:Env) (n:Nat):eGet e (.t n)=envGet e n:=rfl
@[simp] theorem eGet_k (e:Env) (x:D):eGet e (.k x) = .d x:=rfl
def St.res (s:St):Option (Env×List O):=if s.ok then some (s.env,s.heap) else none
def evO (rec:Rec) (i:I) (e:Env) (h:List O):Option (Env×List O):=(evI rec i ⟨e,h,true⟩).res
noncomputable def run (P:Prog) (q:Nat) (fin:Fin) (k:List K) (e:Env) (h:List O):Option Res:=resume (ev P) q fin k .normal ⟨e,h,true⟩
noncomputable def runX (P:Prog) (q:Nat) (fin:Fin) (x:Ex) (k:List K) (e:Env) (h:List O):Option Res:=resume (ev P) q fin k x ⟨e,h,true⟩
noncomputable def runJ (P:Prog) (q:Nat) (fin:Fin) (js:List J) (k:List K) (e:Env) (h:List O):Option Res:=resume (ev P) q fin k .normal (evJs (ev P) js ⟨e,h,true⟩)
noncomputable def contJ (P:Prog) (q:Nat) (fin:Fin) (js:List J) (k:List K) (o:Option (Env×List O)):Option Res :=
 match o with
 | some p=>runJ P q fin js k p.1 p.2
 | none=>none
noncomputable def contSc (P:Prog) (q:Nat) (fin:Fin) (d:Nat) (js:List J) (k:List K) (e:Env) (o:Option (Bool×List O)):Option Res :=
 match o with
 | some p=>runJ P q fin js k ((d,.d (.b p.1))::e) p.2
 | none=>none
noncomputable def contIf (P:Prog) (q:Nat) (fin:Fin) (a b:C) (k:List K) (e:Env) (h:List O) (x:Bool):Option Res :=
 if x then run P q fin (.c a::k) e h else run P q fin (.c b::k) e h
noncomputable def contV (P:Prog) (q:Nat) (fin:Fin) (a b:C) (k:List K) (e:Env) (h:List O) (v:V):Option Res :=
 match v with
 | .d (.b x)=>contIf P q fin a b k e h x
 | _=>none
noncomputable def contK (P:Prog) (q:Nat) (fin:Fin) (k:List K) (o:Option (Env×List O)):Option Res :=
 match o with
 | some p=>run P q fin k p.1 p.2
 | none=>none
noncomputable def contX (P:Prog) (q:Nat) (fin:Fin) (k:List K) (o:Option (Ex×Env×List O)):Option Res :=
 match o with
 | some p=>runX P q fin p.1 k p.2.1 p.2.2
 | none=>none
@[simp] theorem contJ_some {js:List J}:contJ P q fin js k (some (e,h))=runJ P q fin js k e h:=rfl
@[simp] theorem contJ_none {js:List J}:contJ P q fin js k none=none:=rfl
@[simp] theorem contSc_some {d:Nat} {js:List J} {x:Bool}:contSc P q fin d js k e (some (x,h))=runJ P q fin js k ((d,.d (.b x))::e) h:=rfl
@[simp] theorem contSc_none {d:Nat} {js:List J}:contSc P q fin d js k e none=none:=rfl
@[simp] theorem contIf_true {a b:C}:contIf P q fin a b k e h true=run P q fin (.c a::k) e h:=rfl
@[simp] theorem contIf_false {a b:C}:contIf P q fin a b k e h false=run P q fin (.c b::k) e h:=rfl
@[simp] theorem contV_b {a b:C} {x:Bool}:contV P q fin a b k e h (.d (.b x))=contIf P q fin a b k e h x:=rfl
@[simp] theorem contK_some:contK P q fin k (some (e,h))=run P q fin k e h:=rfl
@[simp] theorem contK_none:contK P q fin k none=none:=rfl
@[simp] theorem contX_some {x:Ex}:contX P q fin k (some (x,e,h))=runX P q fin x k e h:=rfl
@[simp] theorem contX_none:contX P q fin k none=none:=rfl
noncomputable def evB (P:Prog) (js:List J) (x:A) (e:Env) (h:List O):Option (Bool×List O) :=
 match (evJs (ev P) js ⟨e,h,true⟩).res with
 | some (e',h')=>match eGet e' x with
  | .d (.b y)=>some (y,h')
  | _=>none
 | none=>none
def scO (isOr:Bool) (g:V) (h:List O) (B:Option (Bool×List O)):Option (Bool×List O) :=
 match g with
 | .d (.b g)=>if g=isOr then some (isOr,h) else B
 | _=>none
def scB (isOr g:Bool) (h:List O) (B:Option (Bool×List O)):Option (Bool×List O):=if g=isOr then some (isOr,h) else B
@[congr] theorem scB_congr {isOr g g':Bool} {h:List O} {B B':Option (Bool×List O)} (hg:g=g') (hB:g'=(!isOr)→B=B'):scB isOr g h B=scB isOr g' h B':=by
 subst hg
 unfold scB
 split
 ·rfl
 ·rename_i hne
  refine hB ?_
  cases g<;>cases isOr<;>simp at hne ⊢
@[simp] theorem scO_b {isOr g:Bool} {h:List O} {B:Option (Bool×List O)}:scO isOr (.d (.b g)) h B=scB isOr g h B:=rfl
@[simp] theorem scB_or {g y:Bool} {h:List O}:scB true g h (some (y,h))=some (g||y,h):=by cases g<;>rfl
@[simp] theorem scB_and {g y:Bool} {h:List O}:scB false g h (some (y,h))=some (g&&y,h):=by cases g<;>rfl
@[simp] theorem scB_tt {h:List O} {B:Option (Bool×List O)}:scB true true h B=some (true,h):=rfl
@[simp] theorem scB_ff {h:List O} {B:Option (Bool×List O)}:scB false false h B=some (false,h):=rfl
@[simp] theorem scB_tf {h:List O} {B:Option (Bool×List O)}:scB true false h B=B:=rfl
@[simp] theorem scB_ft {h:List O} {B:Option (Bool×List O)}:scB false true h B=B:=rfl
theorem evI_res (rec:Rec) (i:I) (e:Env) (h:List O):(∃e' h',evI rec i ⟨e,h,true⟩=⟨e',h',true⟩∧evO rec i e h=some (e',h'))∨((evI rec i ⟨e,h,true⟩).ok=false∧evO rec i e h=none):=by
 unfold evO St.res
 generalize evI rec i ⟨e,h,true⟩=s
 obtain ⟨e',h',ok⟩:=s
 cases ok with
 | true=>exact .inl ⟨e',h',rfl,rfl⟩
 | false=>exact .inr ⟨rfl,rfl⟩
theorem evJs_fail {rec:Rec} {js:List J} {s:St} (h:s.ok=false):(evJs rec js s).ok=false:=by
 cases hq:(evJs rec js s).ok with
 | false=>rfl
 | true=>rw [evJs_ok hq] at h;simp at h
@[simp] theorem runJ_nil:runJ P q fin [] k e h=run P q fin k e h:=rfl
@[simp] theorem runJ_op {i:I} {js:List J}:runJ P q fin (.op i::js) k e h=contJ P q fin js k (evO (ev P) i e h):=by
 simp only [runJ,evJs,evJ]
 rcases evI_res (ev P) i e h with ⟨e',h',h1,h2⟩ | ⟨h1,h2⟩
 ·rw [h1,h2];rfl
 ·rw [h2]
  exact resume_fail _ _ _ _ (evJs_fail h1)
noncomputable def reO (d:Option Nat) (e:Env) (h:List O) (o:Option (Env×List O)):Option (Env×List O) :=
 match d,o with
 | some d,some (e',_)=>if V.same (envGet e' d) (envGet e d) then some (e,h) else none
 | _,_=>none
@[simp] theorem reO_some {d:Nat} {e':Env} {h':List O}:reO (some d) e h (some (e',h'))=if V.same (envGet e' d) (envGet e d) then some (e,h) else none:=rfl
@[simp] theorem runJ_re {i:I} {js:List J}:runJ P q fin (.re i::js) k e h=contJ P q fin js k (reO i.dst e h (evO (ev P) i e h)):=by
 simp only [runJ,evJs,evJ,again]
 cases hd:i.dst with
 | none=>exact resume_fail _ _ _ _ (evJs_fail rfl)
 | some d =>
  rcases evI_res (ev P) i e h with ⟨e',h',h1,h2⟩ | ⟨h1,h2⟩
  ·rw [h1,h2]
   simp only [Bool.true_and,reO]
   split
   ·rfl
   ·exact resume_fail _ _ _ _ (evJs_fail rfl)
  ·rw [h2]
   simp only [h1,Bool.false_and,Bool.false_eq_true,if_false]
   exact resume_fail _ _ _ _ (evJs_fail rfl)
theorem evJs_res (rec:Rec) (js:List J) (e:Env) (h:List O):(∃e' h',evJs rec js ⟨e,h,true⟩=⟨e',h',true⟩)∨(evJs rec js ⟨e,h,true⟩).ok=false:=by
 generalize evJs rec js ⟨e,h,true⟩=s
 obtain ⟨e',h',ok⟩:=s
 cases ok with
 | true=>exact .inl ⟨e',h',rfl⟩
 | false=>exact .inr rfl
theorem eGet_get {e:Env} {h:List O} {ok:Bool} {x:A}:St.get ⟨e,h,ok⟩ x=eGet e x:=by cases x<;>rfl
@[simp] theorem runJ_sc {isOr:Bool} {d c:Nat} {body js:List J} {x:A}:runJ P q fin (.sc isOr d c body x::js) k e h =
  contSc P q fin d js k (forgetEnv (J.dstsL body) e) (scO isOr (envGet e c) h (evB P body x e h)):=by
 simp only [runJ,evJs,evJ,eGet_get,eGet_t,scO,evB]
 cases envGet e c with
 | d y =>
  cases y with
  | b g =>
   simp only
   by_cases hg:g=isOr
   ·simp only [if_pos hg];rfl
   ·simp only [if_neg hg]
    rcases evJs_res (ev P) body e h with ⟨e',h',h1⟩ | h1
    ·rw [h1]
     simp only [St.res,if_true,eGet_get]
     cases eGet e' x with
     | d z =>
      cases z with
      | b y=>rfl
      | _=>exact resume_fail _ _ _ _ (evJs_fail rfl)
     | _=>exact resume_fail _ _ _ _ (evJs_fail rfl)
    ·have:(evJs (ev P) body ⟨e,h,true⟩).res=none:=by simp [St.res,h1]
     rw [this]
     refine resume_fail _ _ _ _ (evJs_fail ?_)
     generalize (evJs (ev P) body ⟨e,h,true⟩).get x=z
     cases z with
     | d y=>cases y<;>first | exact h1 | rfl
     | _=>rfl
  | _=>exact resume_fail _ _ _ _ (evJs_fail rfl)
 | _=>exact resume_fail _ _ _ _ (evJs_fail rfl)
noncomputable def contB (P:Prog) (js:List J) (x:A) (o:Option (Env×List O)):Option (Bool×List O) :=
 match o with
 | some p=>evB P js x p.1 p.2
 | none=>none
noncomputable def contBS (P:Prog) (d:Nat) (js:List J) (x:A) (e:Env) (o:Option (Bool×List O)):Option (Bool×List O) :=
 match o with
 | some p=>evB P js x ((d,.d (.b p.1))::e) p.2
 | none=>none
@[simp] theorem contB_some {js:List J} {x:A}:contB P js x (some (e,h))=evB P js x e h:=rfl
@[simp] theorem contB_none {js:List J} {x:A}:contB P js x none=none:=rfl
@[simp] theorem contBS_some {d:Nat} {js:List J} {x:A} {y:Bool}:contBS P d js x e (some (y,h))=evB P js x ((d,.d (.b y))::e) h:=rfl
@[simp] theorem contBS_none {d:Nat} {js:List J} {x:A}:contBS P d js x e none=none:=rfl
def outB (v:V) (h:List O):Option (Bool×List O) :=
 match v with
 | .d (.b y)=>some (y,h)
 | _=>none
@[simp] theorem outB_b {y:Bool} {h:List O}:outB (.d (.b y)) h=some (y,h):=rfl
@[simp] theorem evB_nil {x:A}:evB P [] x e h=outB (eGet e x) h:=rfl
theorem evB_fail {js:List J} {x:A} {s:St} (hs:s.ok=false):(match (evJs (ev P) js s).res with
 | some (e',h')=>match eGet e' x with
  | .d (.b y)=>some (y,h')
  | _=>none
 | none=>(none:Option (Bool×List O)))=none:=by
 have:=evJs_fail (rec:=ev P) (js:=js) hs
 simp [St.res,this]
@[simp] theorem evB_op {i:I} {js:List J} {x:A}:evB P (.op i::js) x e h=contB P js x (evO (ev P) i e h):=by
 simp only [evB,evJs,evJ]
 rcases evI_res (ev P) i e h with ⟨e',h',h1,h2⟩ | ⟨h1,h2⟩
 ·rw [h1,h2];rfl
 ·rw [h2];exact evB_fail h1
@[simp] theorem evB_sc {isOr:Bool} {d c:Nat} {body js:List J} {x y:A}:evB P (.sc isOr d c body x::js) y e h =
  contBS P d js y (forgetEnv (J.dstsL body) e) (scO isOr (envGet e c) h (evB P body x e h)):=by
 simp only [evB,evJs,evJ,eGet_get,eGet_t,scO]
 cases envGet e c with
 | d z =>
  cases z with
  | b g =>
   simp only
   by_cases hg:g=isOr
   ·simp only [if_pos hg];rfl
   ·simp only [if_neg hg]
    rcases evJs_res (ev P) body e h with ⟨e',h',h1⟩ | h1
    ·rw [h1]
     simp only [St.res,if_true,eGet_get]
     cases eGet e' x with
     | d z =>
      cases z with
      | b y=>rfl
      | _=>exact evB_fail rfl
     | _=>exact evB_fail rfl
    ·have:(evJs (ev P) body ⟨e,h,true⟩).res=none:=by simp [St.res,h1]
     rw [this]
     refine evB_fail ?_
     generalize (evJs (ev P) body ⟨e,h,true⟩).get x=z
     cases z with
     | d y=>cases y<;>first | exact h1 | rfl
     | _=>rfl
  | _=>exact evB_fail rfl
 | _=>exact evB_fail rfl
@[simp] theorem run_nil:run P q fin [] e h=fin .normal e h:=rfl
@[simp] theorem run_blkEnd {id:Nat}:run P q fin (.blk id::k) e h=run P q fin k e h:=rfl
@[simp] theorem run_skip:run P q fin (.c .skip::k) e h=run P q fin k e h:=rfl
theorem resume_c {rec:Rec} {c:C} {s:St}:resume rec q fin (.c c::k) .normal s=resume rec q fin k (evC rec q c s).1 (evC rec q c s).2:=rfl
@[simp] theorem run_seq {a b:C}:run P q fin (.c (.seq a b)::k) e h=run P q fin (.c a::.c b::k) e h:=by
 simp only [run,resume_c,evC]
 cases h:evC (ev P) q a ⟨e,h,true⟩ with
 | mk x s'=>cases x<;>simp [resume]
@[simp] theorem run_reg {js:List J}:run P q fin (.c (.reg js)::k) e h=runJ P q fin js k e h:=rfl
@[simp] theorem run_drw {fl pm:List Nat} {js:List J}:run P q fin (.c (.drw fl pm js)::k) e h=runJ P q fin js k (forgetEnv fl e) h:=rfl
def thawO (d:Nat) (e:Env) (h:List O):Option (Env×List O):=(thaw h (envGet e d)).map fun p=>((d,.d p.1)::e,p.2)
def thawsO (e:Env) (h:List O):List Nat→Option (Env×List O)
 | []=>some (e,h)
 | d::ds=>(thawO d e h).bind fun p=>thawsO p.1 p.2 ds
theorem thawSlots_res:∀(ds:List Nat) (e:Env) (h:List O),(∃e' h',thawSlots ⟨e,h,true⟩ ds=⟨e',h',true⟩∧thawsO e h ds=some (e',h'))∨((thawSlots ⟨e,h,true⟩ ds).ok=false∧thawsO e h ds=none)
 | [],e,h=>.inl ⟨e,h,rfl,rfl⟩
 | d::ds,e,h=>by
  simp only [thawSlots,thawsO,thawO,eGet_get,eGet_t]
  cases ht:thaw h (envGet e d) with
  | none =>
   refine .inr ⟨?_,rfl⟩
   simp only [Option.map_none,St.putH]
   cases hq:(thawSlots (St.fail ⟨e,h,true⟩) ds).ok with
   | false=>rfl
   | true=>have:=thawSlots_ok ds hq;simp at this
  | some p=>exact thawSlots_res ds _ _
@[simp] theorem run_frz {ds:List Nat}:run P q fin (.c (.frz ds)::k) e h=contK P q fin k (thawsO e h ds):=by
 simp only [run,resume_c,evC]
 rcases thawSlots_res ds e h with ⟨e',h',h1,h2⟩ | ⟨h1,h2⟩
 ·rw [h1,h2];rfl
 ·rw [h2];exact resume_fail _ _ _ _ h1
@[simp] theorem run_ite {c:A} {a b:C}:run P q fin (.c (.ite c a b)::k) e h=contV P q fin a b k e h (eGet e c):=by
 simp only [run,resume_c,evC,eGet_get]
 cases eGet e c with
 | d y =>
  cases y with
  | b x=>cases x<;>rfl
  | _=>exact resume_fail _ _ _ _ rfl
 | _=>exact resume_fail _ _ _ _ rfl
@[simp] theorem run_blk {id:Nat} {c:C}:run P q fin (.c (.blk id c)::k) e h=run P q fin (.c c::.blk id::k) e h:=by
 simp only [run,resume_c,evC]
 cases h:evC (ev P) q c ⟨e,h,true⟩ with
 | mk x s' =>
  cases x with
  | normal=>simp [resume]
  | ret=>simp [resume]
  | exit j=>simp only [resume];split<;>rfl
@[simp] theorem run_exit {id:Nat}:run P q fin (.c (.exit id)::k) e h=runX P q fin (.exit id) k e h:=rfl
@[simp] theorem run_ret:run P q fin (.c .ret::k) e h=runX P q fin .ret k e h:=rfl
@[simp] theorem runX_c {id:Nat} {c:C}:runX P q fin (.exit id) (.c c::k) e h=runX P q fin (.exit id) k e h:=rfl
@[simp] theorem runX_blk {id j:Nat}:runX P q fin (.exit id) (.blk j::k) e h=if id=j then run P q fin k e h else runX P q fin (.exit id) k e h:=rfl
@[simp] theorem runX_nil {x:Ex}:runX P q fin x [] e h=fin x e h:=rfl
@[simp] theorem runX_ret:runX P q fin .ret k e h=fin .ret e h:=by
 unfold runX
 induction k with
 | nil=>rfl
 | cons x k ih=>cases x<;>simpa [resume] using ih
@[simp] theorem runX_normal:runX P q fin .normal k e h=run P q fin k e h:=rfl
@[simp] theorem run_keep {ds:List Nat}:run P q fin (.c (.keep ds)::k) e h=contK P q fin k (canon q ds e h):=by
 simp only [run,resume_c,evC]
 cases canon q ds e h with
 | none=>exact resume_fail _ _ _ _ rfl
 | some p=>rfl
def outO:Option Res→Option (Ex×Env×List O)
 | some (.out x e h)=>some (x,e,h)
 | _=>none
@[simp] theorem outO_out {x:Ex} {e:Env} {h:List O}:outO (some (.out x e h))=some (x,e,h):=rfl
noncomputable def runLoop (P:Prog) (q:Nat) (live:List Nat) (c:C) (p:Option (Env×List O)):Option Res:=p.bind fun p=>ev P (.loop q live c p.1 p.2)
@[simp] theorem runLoop_some {live:List Nat} {c:C} {e:Env} {h:List O}:runLoop P q live c (some (e,h))=ev P (.loop q live c e h):=rfl
@[simp] theorem run_loop {live:List Nat} {c:C}:run P q fin (.c (.loop live c)::k) e h =
  contX P q fin k (outO (runLoop P q live c (canon q live e h))):=by
 simp only [run,resume_c,evC,runLoop]
 cases canon q live e h with
 | none=>exact resume_fail _ _ _ _ rfl
 | some p =>
  simp only [Option.bind]
  generalize ev P (.loop q live c p.1 p.2)=v
  cases v with
  | none=>exact resume_fail _ _ _ _ rfl
  | some r =>
   cases r with
   | out x e h=>rfl
   | _=>exact resume_fail _ _ _ _ rfl
def endO (res:List RV) (keep:Bool) (m:Nat) (e:Env) (h:List O):Option Res:=finish res keep m ⟨e,h,true⟩
def finCall (res:List RV) (keep:Bool) (m:Nat):Fin
 | .normal,e,h | .ret,e,h=>endO res keep m e h
 | .exit _,_,_=>none
theorem ev_call {f:Nat} {fn:F} (hf:P f=some fn) (hp:fn.prim=none) (xs:List V) (h:List O) :
  ev P (.call f xs h)=run P h.length (finCall fn.res fn.keep h.length) [.c fn.code] (argEnv 0 xs) h:=by
 rw [ev_eq]
 simp only [stepR,hf,hp,run,resume]
 cases hc:evC (ev P) h.length fn.code ⟨argEnv 0 xs,h,true⟩ with
 | mk x s =>
  obtain ⟨e',h',ok⟩:=s
  cases x<;>cases ok<;>simp [gfin,finCall,endO,finish]
theorem ev_prim {f:Nat} {fn:F} {p:List V→List O→Option (V×List O)} (hf:P f=some fn) (hp:fn.prim=some p) (xs:List V) (h:List O) :
  ev P (.call f xs h)=(p xs h).map fun r=>.val r.1 r.2:=by
 rw [ev_eq]
 simp only [stepR,hf,hp]
noncomputable def finLoop (P:Prog) (q:Nat) (live:List Nat) (c:C):Fin
 | .normal,e,h=>runLoop P q live c (canon q live e h)
 | x,e,h=>some (.out x e h)
theorem ev_loop (q:Nat) (live:List Nat) (c:C) (env:Env) (h:List O) :
  ev P (.loop q live c env h)=run P q (finLoop P q live c) [.c c] env h:=by
 rw [ev_eq]
 simp only [stepR,run,resume]
 cases hc:evC (ev P) q c ⟨env,h,true⟩ with
 | mk x s =>
  obtain ⟨e',h',ok⟩:=s
  cases x<;>cases ok<;>simp [gfin,finLoop,runLoop]
def rngL (e:Env) (n:Nat) (h:List O):O→Option (Ex×Env×List O)
 | .lp _ _ _ x _=>some (x,e,h.set n .dead)
 | _=>none
def rngO (e:Env) (n:Nat) (o:Option (V×List O)):Option (Ex×Env×List O) :=
 match o with
 | some p=>rngL e n p.2 (hget p.2 n)
 | none=>none
@[simp] theorem rngO_some {n:Nat} {v:V}:rngO e n (some (v,h))=rngL e n h (hget h n):=rfl
@[simp] theorem rngO_none {n:Nat}:rngO e n none=none:=rfl
@[simp] theorem rngL_lp {n:Nat} {ps:List Nat} {a b:C} {x:Ex} {env:Env}:rngL e n h (.lp ps a b x env)=some (x,e,h.set n .dead):=rfl
def fzcO (e:Env) (o:Option (List O)):Option (Env×List O):=o.map fun h=>(e,h)
@[simp] theorem fzcO_some:fzcO e (some h)=some (e,h):=rfl
@[simp] theorem run_fzc {d n:Nat}:run P q fin (.c (.fzc d n)::k) e h=contK P q fin k (fzcO e (fzcH h n (envGet e d))):=by
 simp only [run,resume_c,evC,eGet_get,eGet_t]
 cases fzcH h n (envGet e d) with
 | none=>exact resume_fail _ _ _ _ rfl
 | some h'=>rfl
@[simp] theorem run_rng {x:A} {live ps:List Nat} {a b:C}:run P q fin (.c (.rng x live ps a b)::k) e h =
  contX P q fin k (rngO e h.length (callVal (callR (ev P) (h++[.lp ps a b .normal (canonEnv live e)])) (eGet e x) [.yld h.length])):=by
 simp only [run,resume_c,evC,eGet_get]
 cases callVal (callR (ev P) (h++[.lp ps a b .normal (canonEnv live e)])) (eGet e x) [.yld h.length] with
 | none=>exact resume_fail _ _ _ _ rfl
 | some p =>
  obtain ⟨v,h'⟩:=p
  simp only [rngO_some]
  cases hget h' h.length with
  | lp _ _ _ y _=>rfl
  | _=>exact resume_fail _ _ _ _ rfl
def finR (m:Nat):Fin:=fun x _ h=>(cut h m []).map fun L=>.out x [] (sub h L)
noncomputable def finA (P:Prog) (m:Nat) (b:C):Fin
 | .normal,e,h=>run P m (finR m) [.c b] e h
 | _,_,_=>none
@[simp] theorem finR_eq {m:Nat} {x:Ex}:finR m x e h=(cut h m []).map fun L=>.out x [] (sub h L):=rfl
@[simp] theorem finA_normal {m:Nat} {b:C}:finA P m b .normal e h=run P m (finR m) [.c b] e h:=rfl
theorem ev_round (ps:List Nat) (a b:C) (xs:List V) (env:Env) (h:List O) :
  ev P (.round ps a b xs env h)=run P h.length (finA P h.length b) [.c a] (ps.zip xs++env) h:=by
 rw [ev_eq]
 simp only [stepR,run,resume]
 cases hc:evC (ev P) h.length a ⟨ps.zip xs++env,h,true⟩ with
 | mk x s =>
  obtain ⟨e',h',ok⟩:=s
  cases x<;>cases ok<;>simp [gfin,finA,run,resume]
  cases hb:evC (ev P) h.length b ⟨e',h',false⟩ with
  | mk y s2 =>
   cases hs:s2.ok with
   | false=>simp
   | true=>have:=evC_ok (rec:=ev P) (m:=h.length) (c:=b) (s:=⟨e',h',false⟩) (by rw [hb];exact hs);simp at this
@[simp] theorem finLoop_normal {live:List Nat} {c:C}:finLoop P q live c .normal e h=runLoop P q live c (canon q live e h):=rfl
@[simp] theorem finLoop_exit {live:List Nat} {c:C} {id:Nat}:finLoop P q live c (.exit id) e h=some (.out (.exit id) e h):=rfl
@[simp] theorem finLoop_ret {live:List Nat} {c:C}:finLoop P q live c .ret e h=some (.out .ret e h):=rfl
@[simp] theorem finCall_normal {res:List RV} {keep:Bool} {m:Nat}:finCall res keep m .normal e h=endO res keep m e h:=rfl
@[simp] theorem finCall_ret {res:List RV} {keep:Bool} {m:Nat}:finCall res keep m .ret e h=endO res keep m e h:=rfl
end
end Go.VS
namespace Go.VS
@[simp] theorem envGet_cons (k n:Nat) (v:V) (e:Env):envGet ((k,v)::e) n=if k=n then v else envGet e n:=rfl
@[simp] theorem envGet_nil (n:Nat):envGet [] n = .u:=rfl
def p1 (d:Nat) (e:Env) (h:List O) (o:Option V):Option (Env×List O):=o.map fun v=>((d,v)::e,h)
def p2 (d:Nat) (e:Env) (o:Option (V×List O)):Option (Env×List O):=o.map fun r=>((d,r.1)::e,r.2)
def p2o (d:Option Nat) (e:Env) (o:Option (V×List O)):Option (Env×List O):=o.map fun r=>((match d with | some d=>(d,r.1)::e | none=>e),r.2)
def pq (d:Option Nat) (e:Env) (h:List O) (o:Option V):Option (Env×List O):=o.map fun v=>((match d with | some d=>(d,v)::e | none=>e),h)
def ph (e:Env) (o:Option (List O)):Option (Env×List O):=o.map fun h=>(e,h)
section
variable {d:Nat} {e:Env} {h:List O} {v:V}
@[simp] theorem p1_some:p1 d e h (some v)=some ((d,v)::e,h):=rfl
@[simp] theorem p1_none:p1 d e h none=none:=rfl
@[simp] theorem p2_some:p2 d e (some (v,h))=some ((d,v)::e,h):=rfl
@[simp] theorem p2_none:p2 d e none=none:=rfl
@[simp] theorem p2o_some:p2o (some d) e (some (v,h))=some ((d,v)::e,h):=rfl
@[simp] theorem p2o_nosome:p2o none e (some (v,h))=some (e,h):=rfl
@[simp] theorem p2o_none {dd:Option Nat}:p2o dd e none=none:=rfl
@[simp] theorem pq_some:pq (some d) e h (some v)=some ((d,v)::e,h):=rfl
@[simp] theorem pq_nosome:pq none e h (some v)=some (e,h):=rfl
@[simp] theorem pq_none {dd:Option Nat}:pq dd e h none=none:=rfl
@[simp] theorem ph_some:ph e (some h)=some (e,h):=rfl
@[simp] theorem ph_none:ph e none=none:=rfl
end
theorem res_putO {d:Nat} {e:Env} {h:List O} {o:Option V}:(St.putO ⟨e,h,true⟩ d o).res=p1 d e h o:=by cases o<;>rfl
theorem res_putH {d:Nat} {e:Env} {h:List O} {o:Option (V×List O)}:(St.putH ⟨e,h,true⟩ d o).res=p2 d e o:=by cases o<;>rfl
theorem res_putHO {d:Option Nat} {e:Env} {h:List O} {o:Option (V×List O)}:(St.putHO ⟨e,h,true⟩ d o).res=p2o d e o:=by cases o<;>cases d<;>rfl
theorem res_putQ {d:Option Nat} {e:Env} {h:List O} {o:Option V}:(St.putQ ⟨e,h,true⟩ d o).res=pq d e h o:=by cases o<;>cases d<;>rfl
theorem res_setHeap {e:Env} {h:List O} {o:Option (List O)}:(St.setHeap ⟨e,h,true⟩ o).res=ph e o:=by cases o<;>rfl
theorem get_map {e:Env} {h:List O} {ok:Bool} {xs:List A}:xs.map (St.get ⟨e,h,ok⟩)=xs.map (eGet e):=List.map_congr_left fun _ _=>eGet_get
def condV (c a b:V):Option V:=match c with | .d (.b x)=>some (if x then a else b) | _=>none
def boxV (fz:Bool) (n:Nat) (v:V) (h:List O):Option (V×List O) :=
 if v.cells.length=n∧v.known=true then
  if fz then some (mkRef v.cells,h) else some (.loc h.length 0 0,h++[mkRows n [v.cells]])
 else none
def stfV (fz:Bool) (n:Nat) (v:V) (h:List O):Option (V×List O) :=
 if v.cells.length=n∧v.known=true then
  if fz then (allD v.cells).map fun cs=>(.d (.ref cs),h) else some (.loc h.length 0 0,h++[mkRows n [v.cells]])
 else none
def stfzV (h:List O) (n:Nat) (p v:V):Option (V×List O) :=
 match p with
 | .loc m 0 0 =>
  match hget h m with
  | .arrD _ true [z]=>if z.length=n∧v.cells.length=n∧v.known=true then some (mkRef v.cells,h.set m .dead) else none
  | _=>none
 | _=>none
def buildSlV (fz:Bool) (es n:Nat) (rows:Option (List (List V))) (h:List O):Option (V×List O) :=
 if fz then (rows.bind allDs).map fun rows=>(.d (.sl es false rows),h) else rows.map fun rows=>(.asl h.length 0 n,h++[mkRows es rows])
def mkfV (f:Nat) (a b:List V):V :=
 match allD a,allD b with
 | some x,some y=>.d (.fn f x y)
 | _,_=>.fn f a b
def nckV:V→Option V
 | .d (.ref cs)=>some (.d (.ref cs))
 | .rf cs=>some (.rf cs)
 | .loc n r c=>some (.loc n r c)
 | .d (.ifc t v)=>some (.d (.ifc t v))
 | _=>none
def intOrE (e:Env) (dflt:Int):Option A→Option Int
 | none=>some dflt
 | some a=>asInt (eGet e a)
section
variable {rec:Rec} {d:Nat} {e:Env} {h:List O}
@[simp] theorem evO_mv {x:A}:evO rec (.mv d x) e h=some ((d,eGet e x)::e,h):=by simp only [evO,evI,eGet_get];rfl
@[simp] theorem evO_pick {c a b:A}:evO rec (.pick d c a b) e h=p1 d e h (condV (eGet e c) (eGet e a) (eGet e b)):=by
 simp only [evO,evI,eGet_get,condV]
 generalize eGet e c=v
 cases v with
 | d y=>cases y<;>first | rfl | (simp only;split<;>rfl)
 | _=>rfl
@[simp] theorem evO_box {x:A} {n:Nat} {fz:Bool}:evO rec (.box d x n fz) e h=p2 d e (boxV fz n (eGet e x) h):=by
 simp only [evO,evI,eGet_get,boxV]
 split
 ·cases fz
  ·simp only [Bool.false_eq_true,if_false];exact res_putH
  ·rfl
 ·rfl
@[simp] theorem evO_stf {x:A} {n:Nat} {fz:Bool}:evO rec (.stf d x n fz) e h=p2 d e (stfV fz n (eGet e x) h):=by
 simp only [evO,evI,eGet_get,stfV]
 split
 ·cases fz
  ·simp only [Bool.false_eq_true,if_false];exact res_putH
  ·simp only [if_true,res_putO];cases allD (eGet e x).cells<;>rfl
 ·rfl
@[simp] theorem evO_newf {n:Nat}:evO rec (.newf d n) e h=some (e,h):=rfl
@[simp] theorem evO_new {z:List D}:evO rec (.new d z) e h=some ((d,.loc h.length 0 0)::e,h++[.arrD z.length true [z]]):=rfl
@[simp] theorem evO_build {z:List D} {ps:List (Nat×Nat×A)}:evO rec (.build d z ps) e h=p1 d e h ((fill (z.map .d) (ps.map fun p=>(p.1,p.2.1,eGet e p.2.2))).map mkAg):=by
 simp only [evO,evI,res_putO,eGet_get]
@[simp] theorem evO_buildSl {es n:Nat} {z:List D} {ps:List (Nat×A)} {fz:Bool}:evO rec (.buildSl d es n z ps fz) e h=p2 d e (buildSlV fz es n (fillRows (List.replicate n (z.map V.d)) es (ps.map fun p=>(p.1,eGet e p.2))) h):=by
 simp only [evO,evI,eGet_get,buildSlV]
 cases fz
 ·simp only [Bool.false_eq_true,if_false];exact res_putH
 ·simp only [if_true,res_putO]
  generalize (fillRows _ _ _).bind allDs=o
  cases o<;>rfl
@[simp] theorem evO_ld {x:A} {n:Nat} {ag:Bool}:evO rec (.ld d x n ag) e h=p1 d e h (ldV h n ag (eGet e x)):=by simp only [evO,evI,res_putO,eGet_get]
@[simp] theorem evO_st {x y:A} {n:Nat}:evO rec (.st x y n false) e h=ph e (stH h n (eGet e x) (eGet e y)):=by simp only [evO,evI,Bool.false_eq_true,if_false,res_setHeap,eGet_get]
@[simp] theorem evO_stfz {y:A} {n:Nat}:evO rec (.st (.t d) y n true) e h=p2 d e (stfzV h n (envGet e d) (eGet e y)):=by
 simp only [evO,evI,if_true,eGet_get,eGet_t,stfzV]
 generalize envGet e d=v
 cases v with
 | loc m r c =>
  cases r with
  | zero =>
   cases c with
   | zero =>
    simp only
    generalize hget h m=ob
    cases ob with
    | arrD es ex rows =>
     cases ex with
     | false=>rfl
     | true =>
      match rows with
      | []=>rfl
      | _::_::_=>rfl
      | [z] =>
       simp only
       split
       ·exact res_putH
       ·rfl
    | _=>rfl
   | succ c=>rfl
  | succ r=>rfl
 | _=>rfl
@[simp] theorem evO_fa {x:A} {o n:Nat}:evO rec (.fa d x o n) e h=p1 d e h (fa h o n (eGet e x)):=by simp only [evO,evI,res_putO,eGet_get]
@[simp] theorem evO_ixs {x i:A} {es:Nat}:evO rec (.ixs d x i es) e h=p1 d e h (ixs es (eGet e x) (eGet e i) h):=by simp only [evO,evI,res_putO,eGet_get]
@[simp] theorem evO_ixa {x i:A} {len es:Nat}:evO rec (.ixa d x i len es) e h=p1 d e h (ixa h len es (eGet e x) (eGet e i)):=by simp only [evO,evI,res_putO,eGet_get]
@[simp] theorem evO_fld {x:A} {o n:Nat} {ag:Bool}:evO rec (.fld d x o n ag) e h=p1 d e h (fldV o n ag (eGet e x)):=by simp only [evO,evI,res_putO,eGet_get]
@[simp] theorem evO_bin {op:BinOp} {x y:A}:evO rec (.bin d op x y) e h=p1 d e h (binV op (eGet e x) (eGet e y)):=by simp only [evO,evI,res_putO,eGet_get]
@[simp] theorem evO_eqv {neg:Bool} {x y:A} {ks:List CK}:evO rec (.eqv d neg x y ks) e h=p1 d e h (eqV ks neg (eGet e x) (eGet e y)):=by simp only [evO,evI,res_putO,eGet_get]
@[simp] theorem evO_eqb {neg:Bool} {x y:A}:evO rec (.eqb d neg x y) e h=p1 d e h (eqB neg (eGet e x) (eGet e y)):=by simp only [evO,evI,res_putO,eGet_get]
@[simp] theorem evO_isnil {neg:Bool} {x:A} {k:NK}:evO rec (.isnil d neg x k) e h=p1 d e h ((isNil h k (eGet e x)).map fun p=>.d (.b (p != neg))):=by simp only [evO,evI,res_putO,eGet_get]
@[simp] theorem evO_un {op:UnOp} {x:A}:evO rec (.un d op x) e h=p1 d e h (unV op (eGet e x)):=by simp only [evO,evI,res_putO,eGet_get]
@[simp] theorem evO_cvi {k:IntKind} {x:A}:evO rec (.cvi d k x) e h=p1 d e h (cvi k (eGet e x)):=by simp only [evO,evI,res_putO,eGet_get]
@[simp] theorem evO_len {x:A} {k:LK}:evO rec (.len d x k) e h=p1 d e h (lenV h k (eGet e x).wk):=by simp only [evO,evI,res_putO,eGet_get]
theorem intOr_E {ok:Bool} {dflt:Int} {x:Option A}:intOr ⟨e,h,ok⟩ dflt x=intOrE e dflt x:=by
 cases x with
 | none=>rfl
 | some a=>simp only [intOr,intOrE,eGet_get]
@[simp] theorem evO_sl {x:A} {lo hi:Option A} {es:Nat}:evO rec (.sl d x lo hi es) e h=p1 d e h (slV h es (eGet e x) (intOrE e 0 lo) (intOrE e (lenI (eGet e x)) hi)):=by simp only [evO,evI,res_putO,eGet_get,intOr_E]
@[simp] theorem evO_app {x y:A} {es:Nat}:evO rec (.app d x y es) e h=p2 d e (appV h es (eGet e x) (eGet e y)):=by simp only [evO,evI,res_putH,eGet_get]
@[simp] theorem evO_clr {dd:Option Nat} {x:A} {es:Nat} {z:List D}:evO rec (.clr dd x es z) e h=p2o dd e ((clrH h es z (eGet e x)).map fun h=>(.tu [],h)):=by simp only [evO,evI,res_putHO,eGet_get]
@[simp] theorem evO_copy {dd:Option Nat} {x y:A} {es:Nat}:evO rec (.copy dd x y es) e h=p2o dd e (copyV h es (eGet e x) (eGet e y)):=by simp only [evO,evI,res_putHO,eGet_get]
@[simp] theorem evO_ext {x:A} {i:Nat}:evO rec (.ext d x i) e h=p1 d e h (extV i (eGet e x)):=by simp only [evO,evI,res_putO,eGet_get]
@[simp] theorem evO_mkf {f:Nat} {a b:List A}:evO rec (.mkf d f a b) e h=some ((d,mkfV f (a.map (eGet e)) (b.map (eGet e)))::e,h):=by
 simp only [evO,evI,get_map,mkfV]
 generalize allD (a.map (eGet e))=x
 generalize allD (b.map (eGet e))=y
 cases x<;>cases y<;>rfl
@[simp] theorem evO_mkm:evO rec (.mkm d) e h=some ((d,.mp h.length)::e,h++[.mp []]):=rfl
@[simp] theorem evO_mput {m k v:A} {ks:List CK}:evO rec (.mput m k v ks) e h=ph e (mputH ks h (eGet e m) (eGet e k) (eGet e v)):=by simp only [evO,evI,res_setHeap,eGet_get]
@[simp] theorem evO_mget {m k:A} {z:D} {ok:Bool} {ks:List CK}:evO rec (.mget d m k z ok ks) e h=p1 d e h (mgetV ks h (eGet e m) (eGet e k) z ok):=by simp only [evO,evI,res_putO,eGet_get]
@[simp] theorem evO_mdel {m k:A} {ks:List CK}:evO rec (.mdel m k ks) e h=ph e (mdelH ks h (eGet e m) (eGet e k)):=by simp only [evO,evI,res_setHeap,eGet_get]
@[simp] theorem evO_call {dd:Option Nat} {f:Nat} {xs:List A}:evO rec (.call dd f xs) e h=pq dd e h (callQ rec f (xs.map (eGet e))):=by simp only [evO,evI,res_putQ,get_map]
@[simp] theorem evO_callk {dd:Option Nat} {f:Nat} {xs:List A}:evO rec (.callk dd f xs) e h=p2o dd e (callD rec h f (xs.map (eGet e))):=by simp only [evO,evI,res_putHO,get_map]
@[simp] theorem evO_callr {dd:Option Nat} {f:Nat} {xs:List A}:evO rec (.callr dd f xs) e h=p2o dd e (callR rec h f (xs.map (eGet e))):=by simp only [evO,evI,res_putHO,get_map]
@[simp] theorem evO_callv {dd:Option Nat} {x:A} {xs:List A}:evO rec (.callv dd x xs) e h=pq dd e h (callVal (callQ rec) (eGet e x) (xs.map (eGet e))):=by simp only [evO,evI,res_putQ,get_map,eGet_get]
@[simp] theorem evO_callvr {dd:Option Nat} {x:A} {xs:List A}:evO rec (.callvr dd x xs) e h=p2o dd e (callVal (callR rec h) (eGet e x) (xs.map (eGet e))):=by simp only [evO,evI,res_putHO,get_map,eGet_get]
@[simp] theorem evO_cally {dd:Option Nat} {x:A} {xs:List A}:evO rec (.cally dd x xs) e h=p2o dd e (callY rec h (eGet e x) (xs.map (eGet e))):=by simp only [evO,evI,res_putHO,get_map,eGet_get]
@[simp] theorem evO_lit0 {es:Nat} {z:List D}:evO rec (.lit0 d es z) e h=some ((d,.sl0 es)::e,h):=rfl
@[simp] theorem evO_ldz {x:A} {n:Nat} {ag:Bool}:evO rec (.ldz d x n ag) e h=p2 d e (thawV ((ldV h n ag (eGet e x)).map fun v=>(v,h))):=by simp only [evO,evI,res_putH,eGet_get]
@[simp] theorem evO_apk {x y:A} {es:Nat}:evO rec (.apk d x y es) e h=p2 d e (thawV (appV h es (eGet e x) (eGet e y))):=by simp only [evO,evI,res_putH,eGet_get]
@[simp] theorem evO_callz {f:Nat} {xs:List A}:evO rec (.callz d f xs) e h=p2 d e (thawV (callR rec h f (xs.map (eGet e)))):=by simp only [evO,evI,res_putH,get_map]
@[simp] theorem evO_calls {dd:Option Nat} {f:Nat} {xs:List A}:evO rec (.calls dd f xs) e h=pq dd e h (callS rec h f (xs.map (eGet e))):=by simp only [evO,evI,res_putQ,get_map]
@[simp] theorem evO_appf {x y:A} {es:Nat}:evO rec (.appf d x y es) e h=p1 d e h (appfV h es (eGet e x) (eGet e y)):=by simp only [evO,evI,res_putO,eGet_get]
@[simp] theorem evO_nck {x:A}:evO rec (.nck d x) e h=p1 d e h (nckV (eGet e x)):=by
 simp only [evO,evI,eGet_get,nckV]
 generalize eGet e x=v
 cases v with
 | d y=>cases y<;>rfl
 | _=>rfl
@[simp] theorem evO_cl0 {x:A} {es:Nat}:evO rec (.cl0 d x es) e h=p1 d e h (cl0V h es (eGet e x)):=by simp only [evO,evI,res_putO,eGet_get]
@[simp] theorem evO_sl3 {x lo hi mx:A} {es:Nat}:evO rec (.sl3 d x lo hi mx es) e h=p1 d e h (sl3V h es (eGet e x) (asInt (eGet e lo)) (asInt (eGet e hi)) (asInt (eGet e mx))):=by simp only [evO,evI,res_putO,eGet_get]
@[simp] theorem evO_mx {x y:A}:evO rec (.mx d x y) e h=p1 d e h (mxV (eGet e x) (eGet e y)):=by simp only [evO,evI,res_putO,eGet_get]
@[simp] theorem evO_mki {t:Nat} {x:A}:evO rec (.mki d t x) e h=p1 d e h (mkiV t (eGet e x)):=by simp only [evO,evI,res_putO,eGet_get]
@[simp] theorem evO_inv {dd:Option Nat} {nm:String} {tbl:List (Nat×Nat×Nat)} {x:A} {xs:List A}:evO rec (.inv dd nm tbl x xs) e h=pq dd e h (invV (callQ rec) tbl (eGet e x) (xs.map (eGet e))):=by simp only [evO,evI,res_putQ,get_map,eGet_get]
@[simp] theorem evO_mn {x y:A}:evO rec (.mn d x y) e h=p1 d e h (mnV (eGet e x) (eGet e y)):=by simp only [evO,evI,res_putO,eGet_get]
@[simp] theorem evO_cap {x:A}:evO rec (.cap d x) e h=p1 d e h (capV h (eGet e x)):=by simp only [evO,evI,res_putO,eGet_get]
@[simp] theorem evO_mks {n k:A} {es:Nat} {z:List D}:evO rec (.mks d es z n k) e h=p2 d e (mksV h es z (asInt (eGet e n)) (asInt (eGet e k))):=by simp only [evO,evI,res_putH,eGet_get]
@[simp] theorem evO_appz {x k:A} {es:Nat} {z:List D}:evO rec (.appz d x k es z) e h=p2 d e (appzV h es z (eGet e x) (asInt (eGet e k))):=by simp only [evO,evI,res_putH,eGet_get]
@[simp] theorem evO_ldd {x:A} {n:Nat} {ag:Bool}:evO rec (.ldd d x n ag) e h=p1 d e h (lddV n ag (eGet e x)):=by simp only [evO,evI,res_putO,eGet_get]
@[simp] theorem evO_fad {x:A} {o n:Nat}:evO rec (.fad d x o n) e h=p1 d e h (fadV o n (eGet e x)):=by simp only [evO,evI,res_putO,eGet_get]
@[simp] theorem evO_ovl {f:Nat} {x y:A} {es:Nat}:evO rec (.ovl d f x y es) e h=p1 d e h (ovlV h es (eGet e x) (eGet e y)):=by simp only [evO,evI,res_putO,eGet_get]
end
def rvE (e:Env) (h:List O):RV→Option V
 | .t n=>some (envGet e n)
 | .c n k ag=>ldV h k ag (envGet e n)
def rvsE (e:Env) (h:List O):List RV→Option (List V)
 | []=>some []
 | r::rs=>(rvE e h r).bind fun v=>(rvsE e h rs).map (v::·)
theorem readRVs_E {ok:Bool} {e:Env} {h:List O}:∀{rs:List RV},readRVs ⟨e,h,ok⟩ rs=rvsE e h rs
 | []=>rfl
 | r::rs=>by
  have:readRV ⟨e,h,ok⟩ r=rvE e h r:=by cases r<;>rfl
  simp only [readRVs,rvsE,this,readRVs_E (rs:=rs)]
def endD (h:List O) (vs:List V):Option Res:=(toDs h (vs.map V.wk)).map fun ds=>.val (tuple (ds.map V.d)) []
def endH (h:List O) (m:Nat) (vs:List V):Option Res:=(cut h m (V.locsL (vs.map V.wk))).map fun L=>.val (tuple (V.renL (L.idxOf ·) (vs.map V.wk))) (sub h L)
@[simp] theorem endO_D {res:List RV} {e:Env} {h:List O}:endO res false 0 e h=(rvsE e h res).bind (endD h):=by
 simp only [endO,finish,if_true,readRVs_E,and_self]
 cases rvsE e h res<;>rfl
theorem endO_H {res:List RV} {e:Env} {h:List O} {keep:Bool} {m:Nat} (hk:¬(m=0∧keep=false)):endO res keep m e h=(rvsE e h res).bind (endH h m):=by
 simp only [endO,finish,if_true,readRVs_E,if_neg hk]
 cases rvsE e h res<;>rfl
@[simp] theorem endO_keep {res:List RV} {e:Env} {h:List O} {m:Nat}:endO res true m e h=(rvsE e h res).bind (endH h m):=endO_H (by simp)
@[simp] theorem endO_some {res:List RV} {e:Env} {h:List O} {m:Nat} {keep:Bool}:endO res keep (m+1) e h=(rvsE e h res).bind (endH h (m+1)):=endO_H (by simp)
@[simp] theorem callQ_D {rec:Rec} {f:Nat} {xs:List V} {ds:List D} (h:allD xs=some ds):callQ rec f xs=match rec (.call f xs []) with | some (.val v [])=>some v | _=>none:=by
 unfold callQ
 rw [h]<;>rfl
attribute [simp] V.locs V.locsL V.ren V.renL O.locs O.ren sub
attribute [simp] J.dstsL J.dsts I.dst I.wr Option.toList forgetEnv argEnv canon canonEnv envLocs rvE rvsE endD tuple intOrE condV boxV stfV mkRef stfzV buildSlV mkfV nckV thawsO thawO
attribute [simp] toDs toD allD V.known V.cells D.cells mkAg binV arith eqV eqB flatEq cellEq arrAt V.wk capV appzV mksV ovlV lddV fadV isNil unV cvi lenV asInt ixs ixa fa pack packD ldV callQ callVal mgetV mlook keyOk keyIs keyEq keyCells mfind mputH mset mdelH mdel extV overlay stH fill fillRows allDs mkRows appV rowsD slV lenI cl0V sl3V fldV mnV mxV mkiV invV clrH copyV appfV envRen thawV callS V.plain D.plain fzcH
theorem reachC {h:List O} {f n:Nat} {t acc:List Nat}:reach h (f+1) (n::t) acc=if n∈acc then reach h f t acc else reach h f (t++(hget h n).locs) (acc++[n]):=rfl
@[simp] theorem hget_zero {o:O} {h:List O}:hget (o::h) 0=o:=rfl
@[simp] theorem hget_succ {o:O} {h:List O} {n:Nat}:hget (o::h) (n+1)=hget h n:=rfl
theorem hget_set_eq {h:List O} {x:O} {n:Nat} (hn:n<h.length):hget (h.set n x) n=x:=by simp [hget,List.getD,hn]
@[simp] theorem hget_app_len {h:List O} {x:O}:hget (h++[x]) h.length=x:=by simp [hget,List.getD]
theorem hget_app_lt {h h':List O} {n:Nat} (hn:n<h.length):hget (h++h') n=hget h n:=by simp [hget,List.getD,List.getElem?_append_left hn]
@[simp] theorem set_app_len {h:List O} {x y:O}:(h++[x]).set h.length y=h++[y]:=by simp
@[simp] theorem reach_nil {h:List O} {n:Nat} {acc:List Nat}:reach h n [] acc=acc:=by cases n<;>rfl
@[simp] theorem cut_none {h:List O}:cut h 0 []=some []:=by simp [cut]
theorem toNat_add (a b:Nat):((a:Int)+(b:Int)).toNat=a+b:=by omega
theorem toNat_add_sub (a b c:Nat):((a:Int)+(b:Int) - (c:Int)).toNat=a+b - c:=by omega
theorem toNat_add_sub2 (a b c:Nat):((a:Int)+(b:Int) - ((c:Int)+(b:Int))).toNat=a - c:=by omega
theorem wrap_i64 {x:Int} (h1:-9223372036854775808≤x) (h2:x≤9223372036854775807):IntKind.i64.wrap x=x:=by
 have e0:((2:Int) ^ IntKind.i64.bits)=18446744073709551616:=by decide
 have e1:((2:Int) ^ (IntKind.i64.bits - 1))=9223372036854775808:=by decide
 simp only [IntKind.wrap,e0,e1,IntKind.signed,Bool.true_and]
 by_cases hx:0≤x
 ·rw [Int.emod_eq_of_lt hx (by omega)]
  simp;omega
 ·have:x % 18446744073709551616=x+18446744073709551616:=by omega
  rw [this]
  simp;omega
end Go.VS
namespace Go.VS
def insRows (i:Int) (vs rows:List (List D)):List (List D):=rows.take i.toNat++vs++rows.drop i.toNat
def insP (es:Nat) (xs:List V) (h:List O):Option (V×List O) :=
 match xs with
 | [x,.d (.i .i64 i),.d (.sl e false vs)] =>
  if e=es∧vs≠[]∧vs.all (·.length==es)=true then
   match x with
   | .d (.sl e' true [])=>if e'=es∧i=0∧vs.length≤room then some (.asl h.length 0 vs.length,h++[.arrD es true vs]) else none
   | .sl0 e'=>if e'=es∧i=0∧vs.length≤room then some (.asl h.length 0 vs.length,h++[.arrD es true vs]) else none
   | .asl n off len =>
    match hget h n with
    | .arrD e' true rows =>
     if e'=es∧off+len≤rows.length∧0≤i∧i≤len∧len+vs.length≤room then
      some (.asl h.length 0 (len+vs.length),h.set n .dead++[.arrD es true (insRows i vs ((rows.drop off).take len))]) else none
    | _=>none
   | _=>none
  else none
 | _=>none
end Go.VS
namespace Go.VS
def insCode (es:Nat) (z:List D) (fo fr:Nat):C :=
 ((.seq (.reg [.op (.mv 6 (.k (.sl es true [])))])
 ((
  .seq (.reg [.op (.mv 10 (.t 0)),
  .op (.mv 11 (.t 1)),
  .op (.sl 12 (.t 10) (some (.t 11)) none es)])
 ((
  .seq (.reg [.op (.mv 13 (.t 2)),
  .op (.len 14 (.t 13) .sl),
  .op (.mv 7 (.t 14))])
 ((
  .seq ((.seq (.reg [.op (.mv 15 (.t 7)),
  .op (.bin 16 .eql (.t 15) (.k (.i .i64 0)))])
 (.ite (.t 16)
  ((
   .seq (.reg [.op (.mv 17 (.t 0)),
   .op (.mv 6 (.t 17))])
  (.ret)))
  (.skip))))
 ((
  .seq (.reg [.op (.mv 18 (.t 0)),
  .op (.len 19 (.t 18) .sl),
  .op (.mv 8 (.t 19))])
 ((
  .seq ((.seq (.reg [.op (.mv 20 (.t 1)),
  .op (.mv 21 (.t 8)),
  .op (.bin 22 .eql (.t 20) (.t 21))])
 (.ite (.t 22)
  ((
   .seq (.reg [.op (.mv 23 (.t 0)),
   .op (.mv 24 (.t 2)),
   .op (.app 25 (.t 23) (.t 24) es),
   .op (.mv 6 (.t 25))])
  (.ret)))
  (.skip))))
 ((
  .seq ((.seq (.reg [.op (.mv 26 (.t 8)),
  .op (.mv 27 (.t 7)),
  .op (.bin 28 .add (.t 26) (.t 27)),
  .op (.mv 29 (.t 0)),
  .op (.cap 30 (.t 29)),
  .op (.bin 31 .gtr (.t 28) (.t 30))])
 (.ite (.t 31)
  ((
   .seq (.reg [.op (.mv 32 (.t 0)),
   .op (.mv 33 (.t 1)),
   .op (.sl 34 (.t 32) none (some (.t 33)) es),
   .op (.mv 35 (.t 8)),
   .op (.mv 36 (.t 7)),
   .op (.bin 37 .add (.t 35) (.t 36)),
   .op (.mv 38 (.t 1)),
   .op (.bin 39 .sub (.t 37) (.t 38)),
   .op (.appz 40 (.t 34) (.t 39) es z),
   .op (.mv 9 (.t 40))])
  ((
   .seq (.reg [.op (.mv 41 (.t 9)),
   .op (.mv 42 (.t 1)),
   .op (.sl 43 (.t 41) (some (.t 42)) none es),
   .op (.mv 44 (.t 2)),
   .op (.copy (some 45) (.t 43) (.t 44) es)])
  ((
   .seq (.drw [] [0,1,2,3,4,5,6,7,8] [.op (.mv 46 (.t 9)),
   .op (.mv 47 (.t 1)),
   .op (.mv 48 (.t 7)),
   .op (.bin 49 .add (.t 47) (.t 48)),
   .op (.sl 50 (.t 46) (some (.t 49)) none es),
   .op (.mv 51 (.t 0)),
   .op (.mv 52 (.t 1)),
   .op (.sl 53 (.t 51) (some (.t 52)) none es),
   .op (.copy (some 54) (.t 50) (.t 53) es)])
  ((
   .seq (.reg [.op (.mv 55 (.t 9)),
   .op (.mv 6 (.t 55))])
  (.ret)))))))))
  (.skip))))
 ((
  .seq (.reg [.op (.mv 56 (.t 0)),
  .op (.mv 57 (.t 8)),
  .op (.mv 58 (.t 7)),
  .op (.bin 59 .add (.t 57) (.t 58)),
  .op (.sl 60 (.t 56) none (some (.t 59)) es),
  .op (.mv 0 (.t 60))])
 ((
  .seq ((.seq (.reg [.op (.mv 61 (.t 2)),
  .op (.mv 62 (.t 0)),
  .op (.mv 63 (.t 1)),
  .op (.mv 64 (.t 7)),
  .op (.bin 65 .add (.t 63) (.t 64)),
  .op (.sl 66 (.t 62) (some (.t 65)) none es),
  .op (.ovl 67 fo (.t 61) (.t 66) es),
  .op (.un 68 .not (.t 67))])
 (.ite (.t 68)
  ((
   .seq (.drw [] [0,1,2,3,4,5,6,7,8] [.op (.mv 69 (.t 0)),
   .op (.mv 70 (.t 1)),
   .op (.mv 71 (.t 7)),
   .op (.bin 72 .add (.t 70) (.t 71)),
   .op (.sl 73 (.t 69) (some (.t 72)) none es),
   .op (.mv 74 (.t 0)),
   .op (.mv 75 (.t 1)),
   .op (.sl 76 (.t 74) (some (.t 75)) none es),
   .op (.copy (some 77) (.t 73) (.t 76) es)])
  ((
   .seq (.reg [.op (.mv 78 (.t 0)),
   .op (.mv 79 (.t 1)),
   .op (.sl 80 (.t 78) (some (.t 79)) none es),
   .op (.mv 81 (.t 2)),
   .op (.copy (some 82) (.t 80) (.t 81) es)])
  ((
   .seq (.reg [.op (.mv 83 (.t 0)),
   .op (.mv 6 (.t 83))])
  (.ret)))))))
  (.skip))))
 ((
  .seq (.reg [.op (.mv 84 (.t 0)),
  .op (.mv 85 (.t 8)),
  .op (.sl 86 (.t 84) (some (.t 85)) none es),
  .op (.mv 87 (.t 2)),
  .op (.copy (some 88) (.t 86) (.t 87) es)])
 ((
  .seq (.reg [.op (.mv 89 (.t 0)),
  .op (.mv 90 (.t 1)),
  .op (.sl 91 (.t 89) (some (.t 90)) none es),
  .op (.mv 92 (.t 7)),
  .op (.call (some 93) fr [(.t 91),(.t 92)])])
 ((
  .seq (.reg [.op (.mv 94 (.t 0)),
  .op (.mv 6 (.t 94))])
 (.ret)))))))))))))))))))))))))
def fin6:Fin
 | .ret,e,h=>some (.val (envGet e 6) h)
 | _,_,_=>none
section
variable {Pv:Prog} {q es fo fr n i len:Nat} {z:List D} {vs rows:List (List D)} {H:List O}
theorem ins_end (hn:hget H n = .arrD es true rows) (hl:len≤rows.length) (hv:vs≠[]) (hm:len+vs.length≤room) :
  run Pv q fin6 [.c (insCode es z fo fr)] (argEnv 0 [.aslx n 0 len,.d (.i .i64 len),.d (.sl es false vs)]) H =
   if len+vs.length≤rows.length then some (.val (.aslx n 0 (len+vs.length)) (H.set n (.arrD es true (overlay rows len vs))))
   else some (.val (.asl H.length 0 (len+vs.length)) (H++[.arrD es true (rows.take len++vs)])):=by
 have h1:((vs.length:Int)==0)=false:=by have:=List.length_pos_iff.2 hv;simp;omega
 have h2:(len:Int)≤rows.length:=by omega
 unfold insCode
 by_cases h0:len=0<;>by_cases h4:len+vs.length≤rows.length
 ·subst h0;simp at hm h4;simp [hn,h1,hv,hm,h4,fin6]
 ·subst h0;simp only [Nat.zero_add] at hm h4;simp [hn,h1,hv,hm,h4,fin6]
 ·simp [hn,hl,h0,h1,hv,hm,h4,fin6]
 ·simp [hn,hl,h0,h1,hv,hm,h4,fin6]
theorem ins_mid (hn:hget H n = .arrD es true rows) (hl:len≤rows.length) (hnl:n<H.length) (hv:vs≠[]) (hm:len+vs.length≤room) (hi:i<len) (hz:z.length=es) :
  run Pv q fin6 [.c (insCode es z fo fr)] (argEnv 0 [.aslx n 0 len,.d (.i .i64 i),.d (.sl es false vs)]) H =
   if len+vs.length≤rows.length then some (.val (.aslx n 0 (len+vs.length)) (H.set n (.arrD es true (overlay (overlay rows (i+vs.length) ((rows.drop i).take (len - i))) i vs))))
   else some (.val (.asl H.length 0 (len+vs.length)) (H++[.arrD es true (insRows i vs (rows.take len))])):=by
 have h1:((vs.length:Int)==0)=false:=by have:=List.length_pos_iff.2 hv;simp;omega
 have h2:((i:Int)==len)=false:=by simp;omega
 have h3:(i:Int)≤rows.length:=by omega
 have h4:i≤rows.length:=by omega
 have h5:i≤len:=by omega
 have hv0:=List.length_pos_iff.2 hv
 have hm':len+vs.length≤4294967296:=hm
 have w1:IntKind.i64.wrap ((len:Int)+vs.length)=len+vs.length:=wrap_i64 (by omega) (by omega)
 have w2:IntKind.i64.wrap ((i:Int)+vs.length)=i+vs.length:=wrap_i64 (by omega) (by omega)
 have w3:IntKind.i64.wrap ((len:Int)+vs.length - i)=len+vs.length - i:=wrap_i64 (by omega) (by omega)
 unfold insCode
 have ht:vs.take (len+vs.length - i)=vs:=List.take_of_length_le (by omega)
 by_cases h6:len+vs.length≤rows.length
 ·have h7:¬((rows.length:Int)<len+vs.length):=by omega
  simp (disch:=omega) [hn,hl,h1,h2,hi,w1,w2,h6,h7,fin6,if_pos,if_neg,toNat_add,toNat_add_sub,toNat_add_sub2,hget_set_eq,List.take_take,Nat.min_eq_left,ht]
 ·have h7:((rows.length:Int)<len+vs.length):=by omega
  have e:List.take i (List.take i rows++List.replicate (len+vs.length - i) z)=rows.take i:=by
   rw [List.take_append_of_le_length (by simp;omega),List.take_take,Nat.min_self]
  have e2:(List.take (len - i) (List.drop i rows))=List.drop i (List.take len rows):=by rw [List.drop_take]
  have e3:List.take (i+vs.length) (rows.take i++(vs++List.drop (i+vs.length) (List.take i rows++List.replicate (len+vs.length - i) z)))=rows.take i++vs:=by
   rw [←List.append_assoc,List.take_append_of_le_length (by simp;omega),List.take_of_length_le (by simp;omega)]
  have e4:List.drop (i+vs.length+(len - i)) (rows.take i++(vs++List.drop (i+vs.length) (List.take i rows++List.replicate (len+vs.length - i) z)))=[]:=List.drop_eq_nil_of_le (by simp;omega)
  simp (disch:=omega) [hn,h1,h2,hi,w1,w2,w3,h6,h7,fin6,if_pos,if_neg,toNat_add,toNat_add_sub,toNat_add_sub2,hz,hget_app_lt,ht,e,e2,List.take_take,Nat.min_eq_left,insRows,hl]
  have e5:List.take (len - i) (List.drop i (List.take len rows))=List.drop i (List.take len rows):=List.take_of_length_le (by rw [List.length_drop,List.length_take];omega)
  rw [e3,e4,List.append_nil,List.append_assoc,e5]
theorem ins_nil (hv:vs≠[]) (hm:vs.length≤room) :
  run Pv q fin6 [.c (insCode es z fo fr)] (argEnv 0 [.d (.sl es true []),.d (.i .i64 0),.d (.sl es false vs)]) H=some (.val (.asl H.length 0 vs.length) (H++[.arrD es true vs])):=by
 have h1:((vs.length:Int)==0)=false:=by have:=List.length_pos_iff.2 hv;simp;omega
 unfold insCode
 simp [h1,hv,hm,fin6]
theorem ins_sl0 (hv:vs≠[]) (hm:vs.length≤room) :
  run Pv q fin6 [.c (insCode es z fo fr)] (argEnv 0 [.sl0 es,.d (.i .i64 0),.d (.sl es false vs)]) H=some (.val (.asl H.length 0 vs.length) (H++[.arrD es true vs])):=by
 have h1:((vs.length:Int)==0)=false:=by have:=List.length_pos_iff.2 hv;simp;omega
 unfold insCode
 simp [h1,hv,hm,fin6]
theorem run_fin6 {c:C} {env:Env} {v:V} {h1:List O} (hr:run Pv q fin6 [.c c] env H=some (.val v h1)):∃s',evC (ev Pv) q c ⟨env,H,true⟩=(.ret,s')∧s'.ok=true∧envGet s'.env 6=v∧s'.heap=h1:=by
 unfold run at hr
 simp only [resume] at hr
 cases hc:evC (ev Pv) q c ⟨env,H,true⟩ with
 | mk x s' =>
  rw [hc] at hr
  cases x with
  | normal=>simp [resume,gfin,fin6] at hr
  | exit id=>simp [resume,gfin,fin6] at hr
  | ret =>
   simp only [resume,gfin] at hr
   split at hr
   ·rename_i hok
    simp only [fin6,Option.some.injEq,Res.val.injEq] at hr
    exact ⟨s',rfl,hok,hr.1,hr.2⟩
   ·simp at hr
theorem ins_take_end (hl:len≤rows.length):(overlay rows len vs).take (len+vs.length)=insRows len vs (rows.take len):=by
 unfold overlay insRows
 have h1:(rows.take len).length=len:=by simp;omega
 rw [List.take_append_of_le_length (by simp;omega),List.take_of_length_le (by simp;omega),Int.toNat_natCast,List.take_take,Nat.min_self,List.drop_eq_nil_of_le (by omega),List.append_nil]
theorem ins_take_end2 (hl:len≤rows.length):(rows.take len++vs).take (len+vs.length)=insRows len vs (rows.take len):=by
 unfold insRows
 have h1:(rows.take len).length=len:=by simp;omega
 rw [List.take_of_length_le (by simp;omega),Int.toNat_natCast,List.take_take,Nat.min_self,List.drop_eq_nil_of_le (by omega),List.append_nil]
theorem ins_len {l:List (List D)} (hi:i≤l.length):(insRows i vs l).length=l.length+vs.length:=by
 unfold insRows
 simp
 omega
theorem overlay_len {α:Type} {cs new:List α} {o:Nat} (h:o+new.length≤cs.length):(overlay cs o new).length=cs.length:=by
 unfold overlay
 simp
 omega
theorem ins_take_mid (hl:len+vs.length≤rows.length) (hi:i<len):(overlay (overlay rows (i+vs.length) ((rows.drop i).take (len - i))) i vs).take (len+vs.length)=insRows i vs (rows.take len) ∧
  (overlay (overlay rows (i+vs.length) ((rows.drop i).take (len - i))) i vs).length=rows.length:=by
 have e0:((rows.drop i).take (len - i)).length=len - i:=by simp;omega
 have e1:(overlay rows (i+vs.length) ((rows.drop i).take (len - i))).length=rows.length:=overlay_len (by rw [e0];omega)
 refine ⟨?_,by rw [overlay_len (by rw [e1];omega),e1]⟩
 have e2:(overlay rows (i+vs.length) ((rows.drop i).take (len - i))).take i=rows.take i:=by
  unfold overlay
  rw [List.append_assoc,List.take_append_of_le_length (by simp;omega),List.take_take]
  congr 1;omega
 have e3:(overlay rows (i+vs.length) ((rows.drop i).take (len - i))).drop (i+vs.length)=(rows.drop i).take (len - i)++rows.drop (i+vs.length+(len - i)):=by
  unfold overlay
  rw [List.append_assoc,e0]
  have:(rows.take (i+vs.length)).length=i+vs.length:=by simp;omega
  rw [List.drop_append_of_le_length (by omega),List.drop_eq_nil_of_le (by omega),List.nil_append]
 generalize overlay rows (i+vs.length) ((rows.drop i).take (len - i))=Y at *
 unfold overlay insRows
 rw [e2,e3,Int.toNat_natCast,List.take_take,Nat.min_eq_left (by omega),←List.append_assoc,List.take_append_of_le_length (by simp;omega),List.take_of_length_le (by simp;omega),List.drop_take]
end
end Go.VS
namespace Go.VS
section
variable {P:Program} {φ:Phi}
mutual
theorem relV_locs {h:List O} {g:Gh} {w:World}:∀{x:V} {v:Value},relV φ h g w x v→∀n∈x.locs,n<h.length
 | .u,_,_,n,hn=>by simp [V.locs] at hn
 | .skp,_,_,n,hn=>by simp [V.locs] at hn
 | .d x,_,_,n,hn=>by simp [V.locs] at hn
 | .loc k r c,_,hr,n,hn=>by simp only [V.locs,List.mem_singleton] at hn;simp only [relV] at hr;rw [hn];exact hr.1
 | .asl k r c,_,hr,n,hn=>by simp only [V.locs,List.mem_singleton] at hn;simp only [relV] at hr;rw [hn];exact hr.1
 | .aslx k r c,_,hr,n,hn=>by simp only [V.locs,List.mem_singleton] at hn;simp only [relV] at hr;rw [hn];exact hr.1
 | .sl0 _,_,_,n,hn=>by simp [V.locs] at hn
 | .mp k,_,hr,n,hn=>by simp only [V.locs,List.mem_singleton] at hn;simp only [relV] at hr;rw [hn];exact hr.1
 | .yld k,_,hr,n,hn=>by simp only [V.locs,List.mem_singleton] at hn;simp only [relV] at hr;rw [hn];exact hr.1
 | .rf cs,_,hr,n,hn=>by
  simp only [relV] at hr
  obtain ⟨b,off,us,_,_,h1,_⟩:=hr
  exact relVs_locs h1 n (by simpa only [V.locs] using hn)
 | .fn f a b,_,hr,n,hn=>by
  simp only [relV] at hr
  obtain ⟨A,B,_,h1,h2⟩:=hr
  simp only [V.locs,List.mem_append] at hn
  exact hn.elim (relVs_locs h1 n) (relVs_locs h2 n)
 | .ag cs,_,hr,n,hn=>by
  simp only [relV] at hr
  obtain ⟨A,_,h1,_⟩:=hr
  exact relVs_locs h1 n (by simpa only [V.locs] using hn)
 | .tu cs,_,hr,n,hn=>by
  simp only [relV] at hr
  obtain ⟨A,_,h1⟩:=hr
  exact relVs_locs h1 n (by simpa only [V.locs] using hn)
theorem relVs_locs {h:List O} {g:Gh} {w:World}:∀{xs:List V} {vs:List Value},relVs φ h g w xs vs→∀n∈V.locsL xs,n<h.length
 | [],_,_,n,hn=>by simp [V.locsL] at hn
 | x::xs,v::vs,hr,n,hn=>by
  simp only [relVs] at hr
  simp only [V.locsL,List.mem_append] at hn
  exact hn.elim (relV_locs hr.1 n) (relVs_locs hr.2 n)
 | _::_,[],hr,_,_=>by simp [relVs] at hr
end
theorem objRel_locs {h:List O} {g:Gh} {w:World} {b o:Nat} {x:O} (hr:objRel φ h g w b o x):∀n∈x.locs,n<h.length:=by
 intro n hn
 cases x with
 | arrV es rows =>
  simp only [O.locs,List.mem_flatMap] at hn
  obtain ⟨row,hrow,hn⟩:=hn
  obtain ⟨r,hr1,hr2⟩:=List.getElem_of_mem hrow
  have hg:rows[r]?=some row:=by simp [hr1,hr2]
  obtain ⟨_,h2⟩:=hr.2.1 r row hg
  have:∀(row:List V),(∀(j:Nat) (c:V),row[j]?=some c→∃v,relV φ h g w c v)→n∈V.locsL row→n<h.length:=by
   intro row
   induction row with
   | nil=>intro _ hn;simp [V.locsL] at hn
   | cons c row ih =>
    intro hc hn
    simp only [V.locsL,List.mem_append] at hn
    rcases hn with hn | hn
    ·obtain ⟨v,hv⟩:=hc 0 c rfl
     exact relV_locs hv n hn
    ·exact ih (fun j c hj=>hc (j+1) c (by simpa using hj)) hn
  exact this row (fun j c hj=>let ⟨v,_,_,h3⟩:=h2 j c hj;⟨v,h3⟩) hn
 | mp kv =>
  simp only [O.locs,List.mem_flatMap] at hn
  obtain ⟨p,hp,hn⟩:=hn
  obtain ⟨ES,clk,_,⟨hl,h2⟩,_⟩:=hr
  obtain ⟨r,hr1,hr2⟩:=List.getElem_of_mem hp
  have hr1':r<ES.toList.length:=by omega
  obtain ⟨_,h3⟩:=h2 r p ES.toList[r] (by simp [hr1,hr2]) (by simp)
  exact relV_locs h3 n hn
 | lp ps a c e env =>
  simp only [O.locs] at hn
  obtain ⟨rc,nt,_,_,_,_,h4,_⟩:=hr
  have:∀(env:List (Nat×V)),relEnv φ h g w env rc.tmps→n∈envLocs env→n<h.length:=by
   intro env
   induction env with
   | nil=>intro _ hn;simp [envLocs] at hn
   | cons p r ih =>
    intro hr hn
    simp only [envLocs,List.mem_append] at hn
    rcases hn with hn | hn
    ·exact relV_locs (hr p (by simp)) n hn
    ·exact ih (fun q hq=>hr q (by simp [hq])) hn
  exact this env h4 hn
 | _=>simp [O.locs] at hn
structure SameAt (K:List O) (g:Gh) (K':List O) (g':Gh) (n:Nat):Prop where
 lt:n<K'.length
 ob:hget K' n=hget K n
 β:g'.β n=g.β n
 o:g'.o n=g.o n
mutual
theorem relV_cong {K K':List O} {g g':Gh} {w:World} (hI:g'.I=g.I):∀{x:V} {v:Value},(∀n∈x.locs,SameAt K g K' g' n)→relV φ K g w x v→relV φ K' g' w x v
 | .u,_,_,_=>by simp [relV]
 | .skp,_,_,hr=>by simpa [relV] using hr
 | .d x,_,_,hr=>by simp only [relV] at hr ⊢;rw [hI];exact hr
 | .loc n r c,_,hs,hr=>by
  have S:=hs n (by simp [V.locs])
  simp only [relV] at hr ⊢
  rw [S.ob,S.β,S.o]
  exact ⟨S.lt,hr.2⟩
 | .asl n r c,_,hs,hr=>by
  have S:=hs n (by simp [V.locs])
  simp only [relV] at hr ⊢
  rw [S.ob,S.β,S.o]
  exact ⟨S.lt,hr.2⟩
 | .aslx n r c,_,hs,hr=>by
  have S:=hs n (by simp [V.locs])
  simp only [relV] at hr ⊢
  rw [S.ob,S.β,S.o]
  exact ⟨S.lt,hr.2⟩
 | .sl0 _,_,_,hr=>by simpa only [relV] using hr
 | .mp n,_,hs,hr=>by
  have S:=hs n (by simp [V.locs])
  simp only [relV] at hr ⊢
  rw [S.ob,S.β]
  exact ⟨S.lt,hr.2⟩
 | .yld n,_,hs,hr=>by
  have S:=hs n (by simp [V.locs])
  simp only [relV] at hr ⊢
  rw [S.ob,S.β]
  exact ⟨S.lt,hr.2⟩
 | .rf cs,_,hs,hr=>by
  simp only [relV] at hr ⊢
  obtain ⟨b,off,us,h0,h1,h2,h3⟩:=hr
  exact ⟨b,off,us,h0,by rw [hI];exact h1,relVs_cong hI (fun n hn=>hs n (by simpa only [V.locs] using hn)) h2,h3⟩
 | .fn f a b,_,hs,hr=>by
  simp only [relV] at hr ⊢
  obtain ⟨A,B,h0,h1,h2⟩:=hr
  exact ⟨A,B,h0,relVs_cong hI (fun n hn=>hs n (by simp [V.locs,hn])) h1,relVs_cong hI (fun n hn=>hs n (by simp [V.locs,hn])) h2⟩
 | .ag cs,_,hs,hr=>by
  simp only [relV] at hr ⊢
  obtain ⟨A,h0,h1,h2⟩:=hr
  exact ⟨A,h0,relVs_cong hI (fun n hn=>hs n (by simpa only [V.locs] using hn)) h1,h2⟩
 | .tu cs,_,hs,hr=>by
  simp only [relV] at hr ⊢
  obtain ⟨A,h0,h1⟩:=hr
  exact ⟨A,h0,relVs_cong hI (fun n hn=>hs n (by simpa only [V.locs] using hn)) h1⟩
theorem relVs_cong {K K':List O} {g g':Gh} {w:World} (hI:g'.I=g.I):∀{xs:List V} {vs:List Value},(∀n∈V.locsL xs,SameAt K g K' g' n)→relVs φ K g w xs vs→relVs φ K' g' w xs vs
 | [],[],_,_=>by simp [relVs]
 | x::xs,v::vs,hs,hr=>by
  simp only [relVs] at hr ⊢
  exact ⟨relV_cong hI (fun n hn=>hs n (by simp [V.locsL,hn])) hr.1,relVs_cong hI (fun n hn=>hs n (by simp [V.locsL,hn])) hr.2⟩
 | [],_::_,_,hr=>by simp [relVs] at hr
 | _::_,[],_,hr=>by simp [relVs] at hr
end
theorem objRel_cong {K K':List O} {g g':Gh} {w:World} {b o:Nat} {x:O} (hI:g'.I=g.I) (hs:∀n∈x.locs,SameAt K g K' g' n) (hr:objRel φ K g w b o x):objRel φ K' g' w b o x:=by
 cases x with
 | dead=>trivial
 | arrD es ex rows=>simp only [objRel] at hr ⊢;rw [hI];exact hr
 | arrV es rows =>
  simp only [objRel] at hr ⊢
  rw [hI]
  refine ⟨hr.1,fun r row hrow=>?_,hr.2.2⟩
  obtain ⟨h1,h2⟩:=hr.2.1 r row hrow
  refine ⟨h1,fun j c hj=>?_⟩
  obtain ⟨v,h3,h4,h5⟩:=h2 j c hj
  refine ⟨v,h3,h4,relV_cong hI (fun n hn=>hs n ?_) h5⟩
  simp only [O.locs,List.mem_flatMap]
  exact ⟨row,List.mem_of_getElem? hrow,mem_locsL (List.mem_of_getElem? hj) hn⟩
 | mp kv =>
  simp only [objRel] at hr ⊢
  rw [hI]
  obtain ⟨ES,clk,h1,⟨h2,h3⟩,h4⟩:=hr
  refine ⟨ES,clk,h1,⟨h2,fun i p e hp he=>?_⟩,h4⟩
  obtain ⟨h5,h6⟩:=h3 i p e hp he
  refine ⟨by rw [hI];exact h5,relV_cong hI (fun n hn=>hs n ?_) h6⟩
  simp only [O.locs,List.mem_flatMap]
  exact ⟨p,List.mem_of_getElem? hp,hn⟩
 | lp ps a c e env =>
  simp only [objRel] at hr ⊢
  rw [hI]
  obtain ⟨rc,nt,h1,h0,h2,h3,h4,h5⟩:=hr
  exact ⟨rc,nt,h1,h0,h2,h3,fun p hp=>relV_cong hI (fun n hn=>hs n (by simp only [O.locs];exact env_locs hp hn)) (h4 p hp),h5⟩
theorem hrel_pick {H0 K:List O} {g:Gh} {w:World} {j es p:Nat} {Z:List (List D)} (hr:HRel φ K g w) (h0:∀k,k<H0.length→hget K k=hget H0 k) (hlocs:∀k,∀n∈(hget H0 k).locs,n<H0.length)
  (hj:H0.length≤j) (hZ:hget K j = .arrD es true Z):HRel φ (H0++[.arrD es true (Z.take p)]) (g.add H0.length (g.β j) (g.o j) g.I) w:=by
 have hK0:∀k,k<H0.length→hget (H0++[.arrD es true (Z.take p)]) k=hget K k:=fun k hk=>by rw [hget_app_lt hk,h0 k hk]
 have hl:(hget K j).live=true:=by rw [hZ];rfl
 refine ⟨fun k=>?_,fun a b ha hb he=>?_,hr.new⟩
 ·rcases Nat.lt_trichotomy k H0.length with hk | hk | hk
  ·have hne:k≠H0.length:=by omega
   rw [hK0 k hk]
   simp only [Gh.add,if_neg hne]
   refine objRel_cong (K:=K) (g:=g) rfl (fun n hn=>?_) (hr.obj k)
   rw [h0 k hk] at hn
   have hlt:=hlocs k n hn
   have hne2:n≠H0.length:=by omega
   exact ⟨by simp;omega,hK0 n hlt,by simp [Gh.add,hne2],by simp [Gh.add,hne2]⟩
  ·subst hk
   rw [hget_app_len]
   have:=hr.obj j
   rw [hZ] at this
   obtain ⟨⟨CS,T,hb,hfit⟩,hrr,hI⟩:=this
   simp only [Gh.add,if_true]
   have hmul:es*(Z.take p).length≤es*Z.length:=Nat.mul_le_mul_left es (by simp [Nat.min_le_right])
   refine ⟨⟨CS,T,hb,by omega⟩,relRows_of fun r row hrow=>?_,hI⟩
   rw [List.getElem?_take] at hrow
   split at hrow
   ·exact relRows_get hrr hrow
   ·simp at hrow
  ·rw [hget_append_out hk];trivial
 ·have key:∀k,(hget (H0++[.arrD es true (Z.take p)]) k).live=true→k≤H0.length:=fun k hk=>by
   rcases Nat.lt_or_ge H0.length k with h1 | h1
   ·rw [hget_append_out h1] at hk;simp [O.live] at hk
   ·exact h1
  have ka:=key a ha
  have kb:=key b hb
  by_cases h1:a=H0.length<;>by_cases h2:b=H0.length
  ·omega
  ·have hlt:b<H0.length:=by omega
   rw [hK0 b hlt] at hb
   simp only [Gh.add,h1,h2,if_true,if_false] at he
   have:=hr.inj _ _ hl hb he
   omega
  ·have hlt:a<H0.length:=by omega
   rw [hK0 a hlt] at ha
   simp only [Gh.add,h1,h2,if_true,if_false] at he
   have:=hr.inj _ _ ha hl he
   omega
  ·have hlt:a<H0.length:=by omega
   have hlt':b<H0.length:=by omega
   rw [hK0 a hlt] at ha
   rw [hK0 b hlt'] at hb
   simp only [Gh.add,h1,h2,if_false] at he
   exact hr.inj _ _ ha hb he
theorem frame_pick {H0 K h:List O} {g0 g:Gh} {w0 w:World} {m j es p:Nat} {Z:List (List D)} (hf:Frame m h g0 w0 K g w) (h0:∀k,k<H0.length→hget K k=hget H0 k) (hm:m≤H0.length)
  (hj:H0.length≤j) (hZ:hget K j = .arrD es true Z):Frame m h g0 w0 (H0++[.arrD es true (Z.take p)]) (g.add H0.length (g.β j) (g.o j) g.I) w where
 ext:=hf.ext
 size:=hf.size
 os:=hf.os
 tape:=hf.tape
 output:=hf.output
 pin n hn:=by
  have hne:n≠H0.length:=by omega
  simp only [Gh.add,if_neg hne]
  exact hf.pin n hn
 keep:=hf.keep
 lives n hn:=by
  rcases Nat.lt_trichotomy n H0.length with hk | hk | hk
  ·have hne:n≠H0.length:=by omega
   rw [hget_app_lt hk,←h0 n hk] at hn
   simp only [Gh.add,if_neg hne]
   exact hf.lives n hn
  ·simp only [Gh.add,hk,if_true]
   exact hf.lives j (by rw [hZ];rfl)
  ·rw [hget_append_out hk] at hn;simp [O.live] at hn
 les n hn:=by
  have hlt:n<H0.length:=by omega
  have:=hf.les n hn
  have he:hget (H0++[.arrD es true (Z.take p)]) n=hget K n:=by rw [hget_app_lt hlt,h0 n hlt]
  exact ⟨fun es he'=>by rw [he] at he' ⊢;exact this.arr es he',fun kv hk=>this.mp kv (by rw [←he];exact hk),fun hk=>this.lp (by rw [←he];exact hk)⟩
theorem hrel_kill {h:List O} {g:Gh} {w:World} (hr:HRel φ h g w) {n:Nat} (hl:(hget h n).live=true) (m:Nat):HRel φ (h.set n .dead) g w∧Frame m h g w (h.set n .dead) g w:=by
 have hle:HLe h g w (h.set n .dead) (g.setI g.I) w:=hle_turn hr hl (Turned.refl _ _) (Ext.refl _ _) (fun es he=>by simp [O.es?] at he) (fun kv hk=>by simp at hk)
 exact ⟨hrel_turn hr hl (Turned.refl _ _) hle (fun _ _=>rfl) trivial,frame_turn .dead hl (Turned.refl _ _) (Ext.refl _ _) (fun _ _=>rfl) hle⟩
theorem ins_calls (hm:P.follows .mixedOrders=true) (hk:LkOk P φ) {f:Nat} {F:F} (hF:FnCode P φ f F) {es fo fr:Nat} {z:List D} (hcode:F.code=insCode es z fo fr) (hres:F.res=[.t 6])
  {h:List O} {g:Gh} {w:World} {xs:List V} {args:Array Value} {v:V} {h1:List O} {Q:Ending→World→Prop} (hH:HRel φ h g w) (ha:relVs φ h g w xs args.toList)
  (hrun:run (fun _=>none) h.length fin6 [.c (insCode es z fo fr)] (argEnv 0 xs) h=some (.val v h1))
  (hQ:∀v' g' w',HRel φ h1 g' w'→relV φ h1 g' w' v v'→Frame h.length h g w h1 g' w'→Q (.returned v') w'):Calls P (φ f) args w Q:=by
 obtain ⟨fn,c,k1,k2,k3,k4,k5⟩:=hF
 obtain ⟨s',hev,hok,h6,hheap⟩:=run_fin6 hrun
 have hall:=all_ok_ev (φ:=φ) hm hk (Pv:=fun _=>none) (fun f F hf=>by simp at hf)
 rw [hcode] at k4
 refine (callsIn_wide (n:=0)).1 (callsIn_of_wp_marks (F:=Wd none) k1 k3 trivial (sim_C hm hk hall.1 hall.2.1 hall.2.2 c _ (.inl rfl) k4 (start_rel (Nat.le_refl _) hH ha fn.ntmps) (by rw [hev];exact hok) fun g' a' w' hs' hf'=>?_))
 rw [hev] at hs' hf' ⊢
 simp only at hs' hf'
 refine leaves_of hH hs' hf' fun w' hs' hf'=>?_
 rw [hres] at k5
 obtain ⟨us,hus,hrel⟩:=res_rel hs' k5 (vs:=[envGet s'.env 6]) (by simp [readRVs,readRV,St.get])
 refine ⟨_,run_results hus,?_⟩
 rw [h6,hheap] at hrel
 rw [hheap] at hf'
 match us,hrel with
 | [u],hrel =>
  simp only [relVs,and_true] at hrel
  exact hQ u g' w' (by rw [←hheap];exact hs'.heap) hrel hf'
 | [],hrel=>simp [relVs] at hrel
 | _::_::_,hrel=>simp [relVs] at hrel
theorem ins_ok (hm:P.follows .mixedOrders=true) (hk:LkOk P φ) {f:Nat} {F:F} (hF:FnCode P φ f F) {es fo fr:Nat} {z:List D} (hcode:F.code=insCode es z fo fr) (hres:F.res=[.t 6]) (hz:z.length=es) (hes:0<es) :
  PrimOk P φ f (insP es):=by
 intro xs h v h1 hp
 have hF':=hF
 obtain ⟨fn,c,k1,k2,k3,_,_⟩:=hF'
 refine ⟨⟨fn,k1,k2,by simp [k3]⟩,fun g w args hH ha=>?_⟩
 unfold insP at hp
 split at hp
 ·rename_i x i e vs
  split at hp
  ·rename_i hcond
   obtain ⟨rfl,hv,hrl⟩:=hcond
   split at hp
   ·
    rename_i e'
    split at hp
    ·rename_i hc2
     obtain ⟨rfl,rfl,hroom⟩:=hc2
     simp only [Option.some.injEq,Prod.mk.injEq] at hp
     obtain ⟨rfl,rfl⟩:=hp
     exact ins_calls hm hk hF hcode hres hH ha (ins_nil hv hroom) fun v' g' w' q1 q2 q3=>⟨v',g',rfl,q1,q2,q3⟩
    ·simp at hp
   ·rename_i e'
    split at hp
    ·rename_i hc2
     obtain ⟨rfl,rfl,hroom⟩:=hc2
     simp only [Option.some.injEq,Prod.mk.injEq] at hp
     obtain ⟨rfl,rfl⟩:=hp
     exact ins_calls hm hk hF hcode hres hH ha (ins_sl0 hv hroom) fun v' g' w' q1 q2 q3=>⟨v',g',rfl,q1,q2,q3⟩
    ·simp at hp
   ·rename_i n off len
    split at hp
    ·rename_i e' rows hn
     split at hp
     ·rename_i hc2
      obtain ⟨rfl,hle,hi0,hil,hroom⟩:=hc2
      simp only [Option.some.injEq,Prod.mk.injEq] at hp
      obtain ⟨rfl,rfl⟩:=hp
      have hl:(hget h n).live=true:=by rw [hn];rfl
      obtain ⟨kH,kF⟩:=hrel_kill hH hl h.length
      have hobj:=hH.obj n
      rw [hn] at hobj
      obtain ⟨⟨CS,T,hb,hfit⟩,hrr,hI⟩:=hobj
      simp only [if_true] at hI
      match hargs:args.toList,ha with
      | [u0,u1,u2],ha=>?_
      simp only [relVs,and_true] at ha
      obtain ⟨r0,r1,r2⟩:=ha
      simp only [relV] at r0
      obtain ⟨hnl,_,hr0⟩:=r0
      rw [hn] at hr0
      obtain ⟨cap,rfl,hlc,hmx,CS',T',hb',hfit',hone⟩:=hr0 e' rfl
      rw [hb] at hb'
      simp only [Option.some.injEq,Obj.cells.injEq,and_true] at hb'
      obtain ⟨rfl,rfl⟩:=hb'
      simp only [O.len] at hmx
      obtain ⟨H0,hH0⟩:∃H0,h.set n .dead=H0:=⟨_,rfl⟩
      rw [hH0] at kH kF ⊢
      have hlen0:H0.length=h.length:=by rw [←hH0];simp
      obtain ⟨rows',hrows'⟩:∃rows',rows.drop off++List.replicate (cap - (rows.length - off)) (List.replicate e' D.junk)=rows':=⟨_,rfl⟩
      have hrl':rows'.length=cap:=by rw [←hrows'];simp;omega
      have htake:rows'.take len=(rows.drop off).take len:=by rw [←hrows',List.take_append_of_le_length (by simp;omega)]
      have hobj':objRel φ (H0++[.arrD e' true rows']) (g.add H0.length (g.β n) (g.o n+off*e') g.I) w (g.β n) (g.o n+off*e') (.arrD e' true rows'):=by
       refine ⟨⟨CS,T,hb,by rw [hrl'];rw [Nat.add_mul] at hfit';have:=Nat.mul_comm e' cap;omega⟩,relRows_of fun r row hr=>?_,by simp only [if_true,Gh.add];omega⟩
       rw [←hrows',List.getElem?_append] at hr
       split at hr
       ·rw [List.getElem?_drop] at hr
        obtain ⟨q1,q2⟩:=relRows_get hrr hr
        rw [Nat.add_mul,←Nat.add_assoc] at q2
        exact ⟨q1,q2⟩
       ·rename_i hge
        obtain ⟨hr1,hr2⟩:=List.getElem?_eq_some_iff.1 hr
        simp only [List.length_replicate,List.length_drop] at hr1 hge
        simp only [List.getElem_replicate] at hr2
        subst hr2
        refine ⟨by simp,relCells_of fun j c hj=>?_⟩
        obtain ⟨hj1,hj2⟩:=List.getElem?_eq_some_iff.1 hj
        simp only [List.getElem_replicate] at hj2
        simp only [List.length_replicate] at hj1
        subst hj2
        have hr3:r+1≤cap:=by omega
        have hmul:(r+1)*e'≤cap*e':=Nat.mul_le_mul_right _ hr3
        rw [Nat.add_mul] at hfit' hmul
        have hlt:g.o n+off*e'+r*e'+j<CS.size:=by omega
        exact ⟨CS[g.o n+off*e'+r*e'+j],by simp [World.cell?,hb,hlt],hone _ (by simp),by simp [relD]⟩
      have hB:∀k,(hget H0 k).live=true→g.β k≠g.β n:=by
       intro k hk hbk
       rw [←hH0] at hk
       by_cases hkn:k=n
       ·subst hkn;rw [hget_set_same hnl] at hk;simp [O.live] at hk
       ·rw [hget_set_other hkn] at hk;exact hkn (hH.inj k n hk hl hbk)
      have hHn:=hrel_reuse kH hB hobj'
      have hn':hget (H0++[.arrD e' true rows']) H0.length = .arrD e' true rows':=hget_app_len
      have hFn:Frame h.length h g w (H0++[.arrD e' true rows']) (g.add H0.length (g.β n) (g.o n+off*e') g.I) w:=by
       refine ⟨kF.ext,kF.size,kF.os,kF.tape,kF.output,fun k hk=>?_,kF.keep,fun k hk=>?_,fun k hk=>?_⟩
       ·have hne:k≠H0.length:=by omega
        simp [Gh.add,hne]
       ·rcases Nat.lt_trichotomy k H0.length with h1 | h1 | h1
        ·have hne:k≠H0.length:=by omega
         rw [hget_app_lt h1] at hk
         simp only [Gh.add,if_neg hne]
         exact kF.lives k hk
        ·exact .inl ⟨n,hl,by simp [Gh.add,h1]⟩
        ·rw [hget_append_out h1] at hk;simp [O.live] at hk
       ·have he:hget (H0++[.arrD e' true rows']) k=hget H0 k:=hget_app_lt (by omega)
        have:=kF.les k hk
        exact ⟨fun es he'=>by rw [he] at he' ⊢;exact this.arr es he',fun kv hk=>this.mp kv (by rw [←he];exact hk),fun hk=>this.lp (by rw [←he];exact hk)⟩
      have hlocs:∀k,∀n∈(hget H0 k).locs,n<H0.length:=fun k=>objRel_locs (kH.obj k)
      have hargs2:relVs φ (H0++[.arrD e' true rows']) (g.add H0.length (g.β n) (g.o n+off*e') g.I) w [.aslx H0.length 0 len,.d (.i .i64 i),.d (.sl e' false vs)] args.toList:=by
       rw [hargs]
       simp only [relVs,and_true]
       refine ⟨?_,by simpa only [relV,Gh.add] using r1,by simpa only [relV,Gh.add] using r2⟩
       simp only [relV]
       refine ⟨by simp,rfl,fun es he=>?_⟩
       rw [hn'] at he ⊢
       simp only [O.es?,Option.some.injEq] at he
       subst he
       refine ⟨cap,by simp [Gh.add],hlc,by simp only [O.len];omega,CS,T,by simpa only [Gh.add,if_true] using hb,?_,hone⟩
       simp only [Gh.add,if_true,Nat.zero_add]
       rw [Nat.add_mul] at hfit'
       omega
      have hin:(i.toNat:Int)=i:=by omega
      have hlen2:(H0++[O.arrD e' true rows']).length=h.length+1:=by simp [hlen0]
      have fin:∀{v1:V} {K:List O} {j:Nat} {Z:List (List D)},run (fun _=>none) (H0++[O.arrD e' true rows']).length fin6 [.c (insCode e' z fo fr)] (argEnv 0 [.aslx H0.length 0 len,.d (.i .i64 i),.d (.sl e' false vs)]) (H0++[.arrD e' true rows'])=some (.val v1 K) →
        (v1 = .asl j 0 (len+vs.length)∨v1 = .aslx j 0 (len+vs.length))→(∀k,k<H0.length→hget K k=hget H0 k)→H0.length≤j→hget K j = .arrD e' true Z→Z.take (len+vs.length)=insRows i vs ((rows.drop off).take len)→len+vs.length≤Z.length →
        Calls P (φ f) args w fun e w'=>∃v' g',e = .returned v'∧HRel φ (H0++[O.arrD e' true (insRows i vs ((rows.drop off).take len))]) g' w' ∧
         relV φ (H0++[O.arrD e' true (insRows i vs ((rows.drop off).take len))]) g' w' (.asl h.length 0 (len+vs.length)) v'∧Frame h.length h g w (H0++[O.arrD e' true (insRows i vs ((rows.drop off).take len))]) g' w':=by
       intro v1 K j Z hrun hv1 h0 hj hZ hZt hZl
       refine ins_calls hm hk hF hcode hres hHn hargs2 hrun fun v' g' w' q1 q2 q3=>?_
       have q4:Frame h.length h g w K g' w':=by
        have q5:Frame h.length (H0++[.arrD e' true rows']) (g.add H0.length (g.β n) (g.o n+off*e') g.I) w K g' w' :=
         ⟨q3.ext,q3.size,q3.os,q3.tape,q3.output,fun k hk=>q3.pin k (by omega),q3.keep,q3.lives,fun k hk=>q3.les k (by omega)⟩
        exact hFn.trans q5
       have q6:=hrel_pick (p:=len+vs.length) q1 h0 hlocs hj hZ
       have q7:=frame_pick (p:=len+vs.length) q4 h0 (by omega) hj hZ
       rw [hZt] at q6 q7
       refine ⟨v',_,rfl,q6,?_,q7⟩
       have q8:relV φ K g' w' (.asl j 0 (len+vs.length)) v':=by
        rcases hv1 with rfl | rfl
        ·exact q2
        ·exact relV_wk q2
       simp only [relV] at q8 ⊢
       obtain ⟨_,p1,p2⟩:=q8
       refine ⟨by simp;omega,p1,fun es he=>?_⟩
       rw [←hlen0,hget_app_len] at he ⊢
       simp only [O.es?,Option.some.injEq] at he
       subst he
       obtain ⟨cap2,c1,c2,c3,CS2,T2,c4,c5⟩:=p2 e' (by rw [hZ];rfl)
       refine ⟨cap2,by simpa [Gh.add] using c1,c2,?_,CS2,T2,by simpa [Gh.add] using c4,by simpa [Gh.add] using c5⟩
       simp only [O.len]
       rw [←hZt]
       simp
       omega
      by_cases hie:i=len
      ·subst hie
       have hrun:=ins_end (Pv:=fun _=>none) (q:=(H0++[O.arrD e' true rows']).length) (fo:=fo) (fr:=fr) (z:=z) hn' (by omega) hv hroom
       by_cases hc3:len+vs.length≤rows'.length
       ·rw [if_pos hc3] at hrun
        refine fin hrun (.inr rfl) (fun k hk=>?_) (Nat.le_refl _) (Z:=overlay rows' len vs) ?_ ?_ ?_
        ·rw [hget_set_other (by omega),hget_app_lt hk]
        ·rw [set_app_len,hget_app_len]
        ·rw [←htake];exact ins_take_end (by omega)
        ·rw [overlay_length hc3];exact hc3
       ·rw [if_neg hc3] at hrun
        refine fin hrun (.inl rfl) (fun k hk=>?_) (by simp) (Z:=rows'.take len++vs) ?_ ?_ ?_
        ·rw [hget_app_lt (by simp;omega),hget_app_lt hk]
        ·exact hget_app_len
        ·rw [←htake];exact ins_take_end2 (by omega)
        ·simp;omega
      ·obtain ⟨i',rfl⟩:∃i':Nat,i=i':=⟨i.toNat,by omega⟩
       have hi':i'<len:=by omega
       have hrun:=ins_mid (Pv:=fun _=>none) (q:=(H0++[O.arrD e' true rows']).length) (fo:=fo) (fr:=fr) (z:=z) hn' (by omega) (by simp) hv hroom hi' hz
       by_cases hc3:len+vs.length≤rows'.length
       ·rw [if_pos hc3] at hrun
        refine fin hrun (.inr rfl) (fun k hk=>?_) (Nat.le_refl _) (Z:=overlay (overlay rows' (i'+vs.length) ((rows'.drop i').take (len - i'))) i' vs) ?_ ?_ ?_
        ·rw [hget_set_other (by omega),hget_app_lt hk]
        ·rw [set_app_len,hget_app_len]
        ·rw [←htake];exact (ins_take_mid hc3 hi').1
        ·rw [(ins_take_mid hc3 hi').2];exact hc3
       ·rw [if_neg hc3] at hrun
        refine fin hrun (.inl rfl) (fun k hk=>?_) (by simp) (Z:=insRows i' vs (rows'.take len)) ?_ ?_ ?_
        ·rw [hget_app_lt (by simp;omega),hget_app_lt hk]
        ·exact hget_app_len
        ·rw [←htake,List.take_of_length_le (by rw [ins_len (by simp;omega)];simp;omega)]
        ·rw [ins_len (by simp;omega)];simp;omega
     ·simp at hp
    ·simp at hp
   ·simp at hp
  ·simp at hp
 ·simp at hp
end
end Go.VS
