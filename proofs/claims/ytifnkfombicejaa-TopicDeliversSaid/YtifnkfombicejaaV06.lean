import Derived.Test.YtifnkfombicejaaV00
import Derived.Test.YtifnkfombicejaaV03
set_option linter.all false
set_option maxHeartbeats 1000000
namespace Go.VS
abbrev Env:=List (Nat×V)
inductive K where
 |c(c:C)
 |bL(id:Nat)
abbrev Fin:=Ex->Env->List O->Option dA
def rE(fin:Fin)(e:Ex)(s:St):Option dA:=if s.ok then fin e s.env s.heap else none
noncomputable def resume (rec:Rec)(q:Nat)(fin:Fin):List K->Ex->St->Option dA
 | [],e,s=>rE fin e s
 | .c c::k,.normal,s=>resume rec q fin k (aO rec q c s).1 (aO rec q c s).2
 | .c _::k,e,s=>resume rec q fin k e s
 | .bL _::k,.normal,s=>resume rec q fin k .normal s
 | .bL id::k,.exit j,s=>if j=id then resume rec q fin k .normal s else resume rec q fin k (.exit j) s
 | .bL _::k,.ret,s=>resume rec q fin k .ret s
section
variable {P:Prog}{q:Nat}{fin:Fin}{k:List K}{e:Env}{h:List O}
theorem eV(rec:Rec):∀(k:List K)(x:Ex)(s:St),s.ok=false->resume rec q fin k x s=none
 | [],x,s,hs=>by simp[resume,rE,hs]
 | .c c::k,.normal,s,hs=>by
  simp only[resume];refine eV rec k _ _ ?_;cases hq:(aO rec q c s).2.ok with
  |false=>rfl
  |true=>rw[qP hq]at hs;simp at hs
 | .c _::k,.exit j,s,hs=>by simp only[resume];exact eV rec k _ _ hs
 | .c _::k,.ret,s,hs=>by simp only[resume];exact eV rec k _ _ hs
 | .bL _::k,.normal,s,hs=>by simp only[resume];exact eV rec k _ _ hs
 | .bL id::k,.exit j,s,hs=>by
  simp only[resume];split
  .exact eV rec k _ _ hs
  .exact eV rec k _ _ hs
 | .bL _::k,.ret,s,hs=>by simp only[resume];exact eV rec k _ _ hs
def aX(e:Env):A->V
 | .t n=>aK e n
 | .k x=>.d x
@[simp] theorem y9(e:Env)(n:Nat):aX e (.t n)=aK e n:=rfl
@[simp] theorem W4(e:Env)(x:D):aX e (.k x) = .d x:=rfl
def St.res(s:St):Option (Env×List O):=if s.ok then some (s.env,s.heap)else none
def aV(rec:Rec)(i:I)(e:Env)(h:List O):Option (Env×List O):=(aj rec i ⟨e,h,true⟩).res
noncomputable def run (P:Prog)(q:Nat)(fin:Fin)(k:List K)(e:Env)(h:List O):Option dA:=resume (ev P) q fin k .normal ⟨e,h,true⟩
noncomputable def nM (P:Prog)(q:Nat)(fin:Fin)(x:Ex)(k:List K)(e:Env)(h:List O):Option dA:=resume (ev P) q fin k x ⟨e,h,true⟩
noncomputable def mP (P:Prog)(q:Nat)(fin:Fin)(js:List J)(k:List K)(e:Env)(h:List O):Option dA:=resume (ev P) q fin k .normal (cL (ev P) js ⟨e,h,true⟩)
noncomputable def B4 (P:Prog)(q:Nat)(fin:Fin)(js:List J)(k:List K)(o:Option (Env×List O)):Option dA :=
 match o with
 |some p=>mP P q fin js k p.1 p.2
 |none=>none
noncomputable def FK (P:Prog)(q:Nat)(fin:Fin)(d:Nat)(js:List J)(k:List K)(e:Env)(o:Option (Bool×List O)):Option dA :=
 match o with
 |some p=>mP P q fin js k ((d,.d (.b p.1))::e) p.2
 |none=>none
noncomputable def B5 (P:Prog)(q:Nat)(fin:Fin)(a b:C)(k:List K)(e:Env)(h:List O)(x:Bool):Option dA :=
 if x then run P q fin (.c a::k) e h else run P q fin (.c b::k) e h
noncomputable def KP (P:Prog)(q:Nat)(fin:Fin)(a b:C)(k:List K)(e:Env)(h:List O)(v:V):Option dA :=
 match v with
 | .d (.b x)=>B5 P q fin a b k e h x
 |_=>none
noncomputable def za (P:Prog)(q:Nat)(fin:Fin)(k:List K)(o:Option (Env×List O)):Option dA :=
 match o with
 |some p=>run P q fin k p.1 p.2
 |none=>none
noncomputable def zb (P:Prog)(q:Nat)(fin:Fin)(k:List K)(o:Option (Ex×Env×List O)):Option dA :=
 match o with
 |some p=>nM P q fin p.1 k p.2.1 p.2.2
 |none=>none
@[simp] theorem W5{js:List J}:B4 P q fin js k (some (e,h))=mP P q fin js k e h:=rfl
@[simp] theorem W6{js:List J}:B4 P q fin js k none=none:=rfl
@[simp] theorem W7{d:Nat}{js:List J}{x:Bool}:FK P q fin d js k e (some (x,h))=mP P q fin js k ((d,.d (.b x))::e) h:=rfl
@[simp] theorem W8{d:Nat}{js:List J}:FK P q fin d js k e none=none:=rfl
@[simp] theorem W9{a b:C}:B5 P q fin a b k e h true=run P q fin (.c a::k) e h:=rfl
@[simp] theorem Xa{a b:C}:B5 P q fin a b k e h false=run P q fin (.c b::k) e h:=rfl
@[simp] theorem Xb{a b:C}{x:Bool}:KP P q fin a b k e h (.d (.b x))=B5 P q fin a b k e h x:=rfl
@[simp] theorem Xc:za P q fin k (some (e,h))=run P q fin k e h:=rfl
@[simp] theorem Xd:za P q fin k none=none:=rfl
@[simp] theorem Xe{x:Ex}:zb P q fin k (some (x,e,h))=nM P q fin x k e h:=rfl
@[simp] theorem Xf:zb P q fin k none=none:=rfl
noncomputable def nN (P:Prog)(js:List J)(x:A)(e:Env)(h:List O):Option (Bool×List O):=
 match(cL (ev P) js ⟨e,h,true⟩).res with
 |some (e',h')=>match aX e' x with
  | .d (.b y)=>some (y,h')
  |_=>none
 |none=>none
def zc(cm:Bool)(g:V)(h:List O)(B:Option (Bool×List O)):Option (Bool×List O):=
 match g with
 | .d (.b g)=>if g=cm then some (cm,h)else B
 |_=>none
def p8(cm g:Bool)(h:List O)(B:Option (Bool×List O)):Option (Bool×List O):=if g=cm then some (cm,h)else B
@[congr] theorem Xg {cm g g':Bool}{h:List O}{B B':Option (Bool×List O)}(hg:g=g')(hB:g'=(!cm)->B=B'):p8 cm g h B=p8 cm g' h B':=by
 subst hg;unfold p8;split
 .rfl
 .rename_i hne
  refine hB ?_;cases g<;>cases cm<;>simp at hne⊢
@[simp] theorem Xh{cm g:Bool}{h:List O}{B:Option (Bool×List O)}:zc cm (.d (.b g)) h B=p8 cm g h B:=rfl
@[simp] theorem Xi{g y:Bool}{h:List O}:p8 true g h (some (y,h))=some (g||y,h):=by cases g<;>rfl
@[simp] theorem Xj{g y:Bool}{h:List O}:p8 false g h (some (y,h))=some (g&&y,h):=by cases g<;>rfl
@[simp] theorem Xk{h:List O}{B:Option (Bool×List O)}:p8 true true h B=some (true,h):=rfl
@[simp] theorem Xl{h:List O}{B:Option (Bool×List O)}:p8 false false h B=some (false,h):=rfl
@[simp] theorem Xm{h:List O}{B:Option (Bool×List O)}:p8 true false h B=B:=rfl
@[simp] theorem Xn{h:List O}{B:Option (Bool×List O)}:p8 false true h B=B:=rfl
theorem FL(rec:Rec)(i:I)(e:Env)(h:List O):(∃e' h',aj rec i ⟨e,h,true⟩=⟨e',h',true⟩/\aV rec i e h=some (e',h'))\/((aj rec i ⟨e,h,true⟩).ok=false/\aV rec i e h=none):=by
 unfold aV St.res;generalize aj rec i ⟨e,h,true⟩=s;obtain⟨e',h',ok⟩:=s;cases ok with
 |true=>exact .inl ⟨e',h',rfl,rfl⟩
 |false=>exact .inr ⟨rfl,rfl⟩
theorem p9{rec:Rec}{js:List J}{s:St}(h:s.ok=false):(cL rec js s).ok=false:=by
 cases hq:(cL rec js s).ok with
 |false=>rfl
 |true=>rw[ny hq]at h;simp at h
@[simp] theorem Xo:mP P q fin [] k e h=run P q fin k e h:=rfl
@[simp] theorem Xp{i:I}{js:List J}:mP P q fin (.op i::js) k e h=B4 P q fin js k (aV (ev P) i e h):=by
 simp only[mP,cL,eJ];rcases FL (ev P) i e h with⟨e',h',h1,h2⟩ |⟨h1,h2⟩
 .rw[h1,h2];rfl
 .rw[h2]
  exact eV _ _ _ _ (p9 h1)
noncomputable def FM (d:Option Nat)(e:Env)(h:List O)(o:Option (Env×List O)):Option (Env×List O):=
 match d,o with
 |some d,some (e',_)=>if V.same (aK e' d) (aK e d)then some (e,h)else none
 |_,_=>none
@[simp] theorem Xq{d:Nat}{e':Env}{h':List O}:FM (some d) e h (some (e',h'))=if V.same (aK e' d) (aK e d)then some (e,h)else none:=rfl
@[simp] theorem Xr{i:I}{js:List J}:mP P q fin (.re i::js) k e h=B4 P q fin js k (FM i.dst e h (aV (ev P) i e h)):=by
 simp only[mP,cL,eJ,again];cases hd:i.dst with
 |none=>exact eV _ _ _ _ (p9 rfl)
 |some d =>
  rcases FL (ev P) i e h with⟨e',h',h1,h2⟩ |⟨h1,h2⟩
  .rw[h1,h2]
   simp only[AP,FM];split
   .rfl
   .exact eV _ _ _ _ (p9 rfl)
  .rw[h2]
   simp only[h1,Bool.false_and,eD,cB];exact eV _ _ _ _ (p9 rfl)
theorem KQ(rec:Rec)(js:List J)(e:Env)(h:List O):(∃e' h',cL rec js ⟨e,h,true⟩=⟨e',h',true⟩)\/(cL rec js ⟨e,h,true⟩).ok=false:=by
 generalize cL rec js ⟨e,h,true⟩=s;obtain⟨e',h',ok⟩:=s;cases ok with
 |true=>exact .inl ⟨e',h',rfl⟩
 |false=>exact .inr rfl
theorem cG{e:Env}{h:List O}{ok:Bool}{x:A}:St.get ⟨e,h,ok⟩ x=aX e x:=by cases x<;>rfl
@[simp] theorem Xs{cm:Bool}{d c:Nat}{body js:List J}{x:A}:mP P q fin (.sc cm d c body x::js) k e h =
  FK P q fin d js k (jK (J.fX body) e) (zc cm (aK e c) h (nN P body x e h)):=by
 simp only[mP,cL,eJ,cG,y9,zc,nN];cases aK e c with
 |d y =>
  cases y with
  |b g =>
   simp only;by_cases hg:g=cm
   .simp only[aN hg];rfl
   .simp only[aF hg]
    rcases KQ (ev P) body e h with⟨e',h',h1⟩ |h1
    .rw[h1]
     simp only[St.res,aU,cG];cases aX e' x with
     |d z =>
      cases z with
      |b y=>rfl
      |_=>exact eV _ _ _ _ (p9 rfl)
     |_=>exact eV _ _ _ _ (p9 rfl)
    .have:(cL (ev P) body ⟨e,h,true⟩).res=none:=by simp[St.res,h1]
     rw[this];refine eV _ _ _ _ (p9 ?_);generalize (cL (ev P) body ⟨e,h,true⟩).get x=z;cases z with
     |d y=>cases y<;>first |exact h1 |rfl
     |_=>rfl
  |_=>exact eV _ _ _ _ (p9 rfl)
 |_=>exact eV _ _ _ _ (p9 rfl)
noncomputable def FN (P:Prog)(js:List J)(x:A)(o:Option (Env×List O)):Option (Bool×List O):=
 match o with
 |some p=>nN P js x p.1 p.2
 |none=>none
noncomputable def FO (P:Prog)(d:Nat)(js:List J)(x:A)(e:Env)(o:Option (Bool×List O)):Option (Bool×List O):=
 match o with
 |some p=>nN P js x ((d,.d (.b p.1))::e) p.2
 |none=>none
@[simp] theorem Xt{js:List J}{x:A}:FN P js x (some (e,h))=nN P js x e h:=rfl
@[simp] theorem Xu{js:List J}{x:A}:FN P js x none=none:=rfl
@[simp] theorem Xv{d:Nat}{js:List J}{x:A}{y:Bool}:FO P d js x e (some (y,h))=nN P js x ((d,.d (.b y))::e) h:=rfl
@[simp] theorem Xw{d:Nat}{js:List J}{x:A}:FO P d js x e none=none:=rfl
def KR(v:V)(h:List O):Option (Bool×List O):=
 match v with
 | .d (.b y)=>some (y,h)
 |_=>none
@[simp] theorem Xx{y:Bool}{h:List O}:KR (.d (.b y)) h=some (y,h):=rfl
@[simp] theorem Xy{x:A}:nN P [] x e h=KR (aX e x) h:=rfl
theorem wR{js:List J}{x:A}{s:St}(hs:s.ok=false):(match(cL (ev P) js s).res with
 |some (e',h')=>match aX e' x with
  | .d (.b y)=>some (y,h')
  |_=>none
 |none=>(none:Option (Bool×List O)))=none:=by
 have:=p9 (rec:=ev P) (js:=js) hs;simp[St.res,this]
@[simp] theorem Xz{i:I}{js:List J}{x:A}:nN P (.op i::js) x e h=FN P js x (aV (ev P) i e h):=by
 simp only[nN,cL,eJ];rcases FL (ev P) i e h with⟨e',h',h1,h2⟩ |⟨h1,h2⟩
 .rw[h1,h2];rfl
 .rw[h2];exact wR h1
@[simp] theorem XA{cm:Bool}{d c:Nat}{body js:List J}{x y:A}:nN P (.sc cm d c body x::js) y e h =
  FO P d js y (jK (J.fX body) e) (zc cm (aK e c) h (nN P body x e h)):=by
 simp only[nN,cL,eJ,cG,y9,zc];cases aK e c with
 |d z =>
  cases z with
  |b g =>
   simp only;by_cases hg:g=cm
   .simp only[aN hg];rfl
   .simp only[aF hg]
    rcases KQ (ev P) body e h with⟨e',h',h1⟩ |h1
    .rw[h1]
     simp only[St.res,aU,cG];cases aX e' x with
     |d z =>
      cases z with
      |b y=>rfl
      |_=>exact wR rfl
     |_=>exact wR rfl
    .have:(cL (ev P) body ⟨e,h,true⟩).res=none:=by simp[St.res,h1]
     rw[this];refine wR ?_;generalize (cL (ev P) body ⟨e,h,true⟩).get x=z;cases z with
     |d y=>cases y<;>first |exact h1 |rfl
     |_=>rfl
  |_=>exact wR rfl
 |_=>exact wR rfl
@[simp] theorem XB:run P q fin [] e h=fin .normal e h:=rfl
@[simp] theorem XC{id:Nat}:run P q fin (.bL id::k) e h=run P q fin k e h:=rfl
@[simp] theorem XD:run P q fin (.c .skip::k) e h=run P q fin k e h:=rfl
theorem rF{rec:Rec}{c:C}{s:St}:resume rec q fin (.c c::k) .normal s=resume rec q fin k (aO rec q c s).1 (aO rec q c s).2:=rfl
@[simp] theorem run_seq{a b:C}:run P q fin (.c (.seq a b)::k) e h=run P q fin (.c a::.c b::k) e h:=by
 simp only[run,rF,aO];cases h:aO (ev P) q a ⟨e,h,true⟩with
 |mk x s'=>cases x<;>simp[resume]
@[simp] theorem XE{js:List J}:run P q fin (.c (.bG js)::k) e h=mP P q fin js k e h:=rfl
@[simp] theorem XF{fl pm:List Nat}{js:List J}:run P q fin (.c (.jk fl pm js)::k) e h=mP P q fin js k (jK fl e) h:=rfl
def FP(d:Nat)(e:Env)(h:List O):Option (Env×List O):=(gk h (aK e d)).map λp=>((d,.d p.1)::e,p.2)
def wS(e:Env)(h:List O):List Nat->Option (Env×List O)
 | []=>some (e,h)
 |d::ds=>(FP d e h).bind λp=>wS p.1 p.2 ds
theorem KS:∀(ds:List Nat)(e:Env)(h:List O),(∃e' h',oc ⟨e,h,true⟩ ds=⟨e',h',true⟩/\wS e h ds=some (e',h'))\/((oc ⟨e,h,true⟩ ds).ok=false/\wS e h ds=none)
 | [],e,h=>.inl ⟨e,h,rfl,rfl⟩
 |d::ds,e,h=>by
  simp only[oc,wS,FP,cG,y9];cases ht:gk h (aK e d)with
  |none =>
   refine .inr ⟨?_,rfl⟩;simp only[Option.map_none,St.ct];cases hq:(oc (St.fail ⟨e,h,true⟩) ds).ok with
   |false=>rfl
   |true=>have:=yl ds hq;simp at this
  |some p=>exact KS ds _ _
@[simp] theorem XG{ds:List Nat}:run P q fin (.c (.kG ds)::k) e h=za P q fin k (wS e h ds):=by
 simp only[run,rF,aO];rcases KS ds e h with⟨e',h',h1,h2⟩ |⟨h1,h2⟩
 .rw[h1,h2];rfl
 .rw[h2];exact eV _ _ _ _ h1
@[simp] theorem run_ite{c:A}{a b:C}:run P q fin (.c (.ite c a b)::k) e h=KP P q fin a b k e h (aX e c):=by
 simp only[run,rF,aO,cG];cases aX e c with
 |d y =>
  cases y with
  |b x=>cases x<;>rfl
  |_=>exact eV _ _ _ _ rfl
 |_=>exact eV _ _ _ _ rfl
@[simp] theorem XH{id:Nat}{c:C}:run P q fin (.c (.bL id c)::k) e h=run P q fin (.c c::.bL id::k) e h:=by
 simp only[run,rF,aO];cases h:aO (ev P) q c ⟨e,h,true⟩with
 |mk x s' =>
  cases x with
  |normal=>simp[resume]
  |ret=>simp[resume]
  |exit j=>simp only[resume];split<;>rfl
@[simp] theorem XI{id:Nat}:run P q fin (.c (.exit id)::k) e h=nM P q fin (.exit id) k e h:=rfl
@[simp] theorem XJ:run P q fin (.c .ret::k) e h=nM P q fin .ret k e h:=rfl
@[simp] theorem XK{id:Nat}{c:C}:nM P q fin (.exit id) (.c c::k) e h=nM P q fin (.exit id) k e h:=rfl
@[simp] theorem XL{id j:Nat}:nM P q fin (.exit id) (.bL j::k) e h=if id=j then run P q fin k e h else nM P q fin (.exit id) k e h:=rfl
@[simp] theorem XM{x:Ex}:nM P q fin x [] e h=fin x e h:=rfl
@[simp] theorem XN:nM P q fin .ret k e h=fin .ret e h:=by
 unfold nM;induction k with
 |nil=>rfl
 |cons x k ih=>cases x<;>simpa[resume]using ih
@[simp] theorem XO:nM P q fin .normal k e h=run P q fin k e h:=rfl
@[simp] theorem XP{ds:List Nat}:run P q fin (.c (.keep ds)::k) e h=za P q fin k (canon q ds e h):=by
 simp only[run,rF,aO];cases canon q ds e h with
 |none=>exact eV _ _ _ _ rfl
 |some p=>rfl
def FQ:Option dA->Option (Ex×Env×List O)
 |some (.out x e h)=>some (x,e,h)
 |_=>none
@[simp] theorem XQ{x:Ex}{e:Env}{h:List O}:FQ (some (.out x e h))=some (x,e,h):=rfl
noncomputable def wT (P:Prog)(q:Nat)(live:List Nat)(c:C)(p:Option (Env×List O)):Option dA:=p.bind λp=>ev P (.loop q live c p.1 p.2)
@[simp] theorem XR{live:List Nat}{c:C}{e:Env}{h:List O}:wT P q live c (some (e,h))=ev P (.loop q live c e h):=rfl
@[simp] theorem XS{live:List Nat}{c:C}:run P q fin (.c (.loop live c)::k) e h =
  zb P q fin k (FQ (wT P q live c (canon q live e h))):=by
 simp only[run,rF,aO,wT];cases canon q live e h with
 |none=>exact eV _ _ _ _ rfl
 |some p =>
  simp only[Option.bind];generalize ev P (.loop q live c p.1 p.2)=v;cases v with
  |none=>exact eV _ _ _ _ rfl
  |some r =>
   cases r with
   |out x e h=>rfl
   |_=>exact eV _ _ _ _ rfl
noncomputable def sR (P:Prog)(q:Nat)(live:List Nat)(d d2 it:Nat)(c:C)(p:Option (Env×List O)):Option dA:=p.bind λp=>ev P (.lP q live d d2 it c p.1 p.2)
@[simp] theorem Qo{live:List Nat}{d d2 it:Nat}{c:C}{e:Env}{h:List O}:sR P q live d d2 it c (some (e,h))=ev P (.lP q live d d2 it c e h):=rfl
@[simp] theorem XT{live:List Nat}{d d2 it:Nat}{c:C}:run P q fin (.c (.sj live d d2 it c)::k) e h =
  zb P q fin k (FQ (sR P q live d d2 it c (canon q live e h))):=by
 simp only[run,rF,aO,sR];cases canon q live e h with
 |none=>exact eV _ _ _ _ rfl
 |some p =>
  simp only[Option.bind];generalize ev P (.lP q live d d2 it c p.1 p.2)=v;cases v with
  |none=>exact eV _ _ _ _ rfl
  |some r =>
   cases r with
   |out x e h=>rfl
   |_=>exact eV _ _ _ _ rfl
def qg(res:List RV)(keep:Bool)(m:Nat)(e:Env)(h:List O):Option dA:=finish res keep m ⟨e,h,true⟩
def B6(res:List RV)(keep:Bool)(m:Nat):Fin
 | .normal,e,h | .ret,e,h=>qg res keep m e h
 | .exit _,_,_=>none
theorem bD{f:Nat}{fn:F}(hf:P f=some fn)(hp:fn.sk=none)(xs:List V)(h:List O):
  ev P (.call f xs h)=run P h.length (B6 fn.res fn.keep h.length) [.c fn.code] (jm 0 xs) h:=by
 rw[ev_eq];simp only[fY,hf,hp,run,resume];cases hc:aO (ev P) h.length fn.code ⟨jm 0 xs,h,true⟩with
 |mk x s =>
  obtain⟨e',h',ok⟩:=s;cases x<;>cases ok<;>simp[rE,B6,qg,finish]
theorem Qp{f:Nat}{fn:F}{p:List V->List O->Option (V×List O)}(hf:P f=some fn)(hp:fn.sk=some p)(xs:List V)(h:List O):
  ev P (.call f xs h)=(p xs h).map λr=>.val r.1 r.2:=by
 rw[ev_eq];simp only[fY,hf,hp]
noncomputable def ze (P:Prog)(q:Nat)(live:List Nat)(c:C):Fin
 | .normal,e,h=>wT P q live c (canon q live e h)
 |x,e,h=>some (.out x e h)
theorem cq(q:Nat)(live:List Nat)(c:C)(env:Env)(h:List O):
  ev P (.loop q live c env h)=run P q (ze P q live c) [.c c] env h:=by
 rw[ev_eq];simp only[fY,run,resume];cases hc:aO (ev P) q c ⟨env,h,true⟩with
 |mk x s =>
  obtain⟨e',h',ok⟩:=s;cases x<;>cases ok<;>simp[rE,ze,wT]
noncomputable def sS (P:Prog)(q:Nat)(live:List Nat)(d d2 it:Nat)(c:C):Fin
 | .normal,e,h=>sR P q live d d2 it c (canon q live e h)
 |x,e,h=>some (.out x e h)
@[simp] theorem XU{live:List Nat}{d d2 it:Nat}{c:C}:sS P q live d d2 it c .normal e h=sR P q live d d2 it c (canon q live e h):=rfl
@[simp] theorem XV{live:List Nat}{d d2 it:Nat}{c:C}{id:Nat}:sS P q live d d2 it c (.exit id) e h=some (.out (.exit id) e h):=rfl
@[simp] theorem XW{live:List Nat}{d d2 it:Nat}{c:C}:sS P q live d d2 it c .ret e h=some (.out .ret e h):=rfl
theorem Qq(q:Nat)(live:List Nat)(d d2 it:Nat)(c:C)(env:Env)(h:List O):
  ev P (.lP q live d d2 it c env h)=(sn h (aK env it)).bind λL=>sq (L.map λp=>run P q (sS P q live d d2 it c) [.c c] ((d2,.d (.b p.1))::(d,.u)::env) p.2):=by
 rw[ev_eq];simp only[fY];congr 1;funext L;congr 1;refine mj λp _=>?_
 simp only[og,run,resume];cases hc:aO (ev P) q c ⟨(d2,.d (.b p.1))::(d,.u)::env,p.2,true⟩with
 |mk x s =>
  obtain⟨e',h',ok⟩:=s;cases x<;>cases ok<;>simp[rE,sS,sR]
def FR(e:Env)(n:Nat)(h:List O):O->Option (Ex×Env×List O)
 | .lp _ _ _ x _=>some (x,e,h.set n .dead)
 |_=>none
def FT(e:Env)(n:Nat)(o:Option (V×List O)):Option (Ex×Env×List O):=
 match o with
 |some p=>FR e n p.2 (af p.2 n)
 |none=>none
@[simp] theorem Qr{n:Nat}{v:V}:FT e n (some (v,h))=FR e n h (af h n):=rfl
@[simp] theorem XX{n:Nat}:FT e n none=none:=rfl
@[simp] theorem XY{n:Nat}{ps:List Nat}{a b:C}{x:Ex}{env:Env}:FR e n h (.lp ps a b x env)=some (x,e,h.set n .dead):=rfl
def KT(e:Env)(o:Option (List O)):Option (Env×List O):=o.map λh=>(e,h)
@[simp] theorem XZ:KT e (some h)=some (e,h):=rfl
@[simp] theorem X0{d n:Nat}:run P q fin (.c (.r9 d n)::k) e h=za P q fin k (KT e (ug h n (aK e d))):=by
 simp only[run,rF,aO,cG,y9];cases ug h n (aK e d)with
 |none=>exact eV _ _ _ _ rfl
 |some h'=>rfl
@[simp] theorem X1{x:A}{live ps:List Nat}{a b:C}:run P q fin (.c (.r8 x live ps a b)::k) e h =
  zb P q fin k (FT e h.length (gM (aW (ev P) (h++[.lp ps a b .normal (cO live e)])) (aX e x) [.fC h.length])):=by
 simp only[run,rF,aO,cG];cases gM (aW (ev P) (h++[.lp ps a b .normal (cO live e)])) (aX e x) [.fC h.length]with
 |none=>exact eV _ _ _ _ rfl
 |some p =>
  obtain⟨v,h'⟩:=p;simp only[Qr];cases af h' h.length with
  |lp _ _ _ y _=>rfl
  |_=>exact eV _ _ _ _ rfl
def FU(m:Nat):Fin:=λx _ h=>(cut h m []).map λL=>.out x [] (sub h L)
noncomputable def FV (P:Prog)(m:Nat)(b:C):Fin
 | .normal,e,h=>run P m (FU m) [.c b] e h
 |_,_,_=>none
@[simp] theorem X2{m:Nat}{x:Ex}:FU m x e h=(cut h m []).map λL=>.out x [] (sub h L):=rfl
@[simp] theorem X3{m:Nat}{b:C}:FV P m b .normal e h=run P m (FU m) [.c b] e h:=rfl
theorem Qs(ps:List Nat)(a b:C)(xs:List V)(env:Env)(h:List O):
  ev P (.round ps a b xs env h)=run P h.length (FV P h.length b) [.c a] (ps.zip xs++env) h:=by
 rw[ev_eq];simp only[fY,run,resume];cases hc:aO (ev P) h.length a ⟨ps.zip xs++env,h,true⟩with
 |mk x s =>
  obtain⟨e',h',ok⟩:=s;cases x<;>cases ok<;>simp[rE,FV,run,resume];cases hb:aO (ev P) h.length b ⟨e',h',false⟩with
  |mk y s2 =>
   cases hs:s2.ok with
   |false=>simp
   |true=>have:=qP (rec:=ev P) (m:=h.length) (c:=b) (s:=⟨e',h',false⟩) (by rw[hb];exact hs);simp at this
@[simp] theorem X4{live:List Nat}{c:C}:ze P q live c .normal e h=wT P q live c (canon q live e h):=rfl
@[simp] theorem X5{live:List Nat}{c:C}{id:Nat}:ze P q live c (.exit id) e h=some (.out (.exit id) e h):=rfl
@[simp] theorem X6{live:List Nat}{c:C}:ze P q live c .ret e h=some (.out .ret e h):=rfl
@[simp] theorem X7{res:List RV}{keep:Bool}{m:Nat}:B6 res keep m .normal e h=qg res keep m e h:=rfl
@[simp] theorem X8{res:List RV}{keep:Bool}{m:Nat}:B6 res keep m .ret e h=qg res keep m e h:=rfl
end
end Go.VS
namespace Go.VS
@[simp] theorem X9(k n:Nat)(v:V)(e:Env):aK ((k,v)::e) n=if k=n then v else aK e n:=rfl
@[simp] theorem Ya(n:Nat):aK [] n = .u:=rfl
def p1(d:Nat)(e:Env)(h:List O)(o:Option V):Option (Env×List O):=o.map λv=>((d,v)::e,h)
def p2(d:Nat)(e:Env)(o:Option (V×List O)):Option (Env×List O):=o.map λr=>((d,r.1)::e,r.2)
def ql(d:Option Nat)(e:Env)(o:Option (V×List O)):Option (Env×List O):=o.map λr=>((match d with |some d=>(d,r.1)::e |none=>e),r.2)
def pq(d:Option Nat)(e:Env)(h:List O)(o:Option V):Option (Env×List O):=o.map λv=>((match d with |some d=>(d,v)::e |none=>e),h)
def ph(e:Env)(o:Option (List O)):Option (Env×List O):=o.map λh=>(e,h)
section
variable {d:Nat}{e:Env}{h:List O}{v:V}
@[simp] theorem Yb:p1 d e h (some v)=some ((d,v)::e,h):=rfl
@[simp] theorem Yc:p1 d e h none=none:=rfl
@[simp] theorem Yd:p2 d e (some (v,h))=some ((d,v)::e,h):=rfl
@[simp] theorem Ye:p2 d e none=none:=rfl
@[simp] theorem Yf:ql (some d) e (some (v,h))=some ((d,v)::e,h):=rfl
@[simp] theorem Yg:ql none e (some (v,h))=some (e,h):=rfl
@[simp] theorem Yh{dd:Option Nat}:ql dd e none=none:=rfl
@[simp] theorem Yi:pq (some d) e h (some v)=some ((d,v)::e,h):=rfl
@[simp] theorem Yj:pq none e h (some v)=some (e,h):=rfl
@[simp] theorem Yk{dd:Option Nat}:pq dd e h none=none:=rfl
@[simp] theorem Yl:ph e (some h)=some (e,h):=rfl
@[simp] theorem Ym:ph e none=none:=rfl
end
theorem jy{d:Nat}{e:Env}{h:List O}{o:Option V}:(St.cr ⟨e,h,true⟩ d o).res=p1 d e h o:=by cases o<;>rfl
theorem rG{d:Nat}{e:Env}{h:List O}{o:Option (V×List O)}:(St.ct ⟨e,h,true⟩ d o).res=p2 d e o:=by cases o<;>rfl
theorem wU{d:Option Nat}{e:Env}{h:List O}{o:Option (V×List O)}:(St.gC ⟨e,h,true⟩ d o).res=ql d e o:=by cases o<;>cases d<;>rfl
theorem FW{d:Option Nat}{e:Env}{h:List O}{o:Option V}:(St.iU ⟨e,h,true⟩ d o).res=pq d e h o:=by cases o<;>cases d<;>rfl
theorem B7{e:Env}{h:List O}{o:Option (List O)}:(St.jl ⟨e,h,true⟩ o).res=ph e o:=by cases o<;>rfl
theorem get_map{e:Env}{h:List O}{ok:Bool}{xs:List A}:xs.map (St.get ⟨e,h,ok⟩)=xs.map (aX e):=mj λ_ _=>cG
def FX(c a b:V):Option V:=match c with | .d (.b x)=>some (if x then a else b) |_=>none
def FY(fz:Bool)(n:Nat)(v:V)(h:List O):Option (V×List O):=
 if v.cells.length=n/\v.known=true then
  if fz then some (mkRef v.cells,h)else some (.loc h.length 0 0,h++[cK n [v.cells]])
 else none
def Qt(fz:Bool)(n:Nat)(v:V)(h:List O):Option (V×List O):=
 if v.cells.length=n/\v.known=true then
  if fz then(dY v.cells).map λcs=>(.d (.ref cs),h)else some (.loc h.length 0 0,h++[cK n [v.cells]])
 else none
def FZ(h:List O)(n:Nat)(p v:V):Option (V×List O):=
 match p with
 | .loc m 0 0 =>
  match af h m with
  | .an _ true [z]=>if z.length=n/\v.cells.length=n/\v.known=true then some (mkRef v.cells,h.set m .dead)else none
  |_=>none
 |_=>none
def F0(fz:Bool)(es n:Nat)(rows:Option (List (List V)))(h:List O):Option (V×List O):=
 if fz then(rows.bind dM).map λrows=>(.d (.sl es false rows),h)else rows.map λrows=>(.aJ h.length 0 n,h++[cK es rows])
def F1(f:Nat)(a b:List V):V :=
 match dY a,dY b with
 |some x,some y=>.d (.fn f x y)
 |_,_=>.fn f a b
def F2:V->Option V
 | .d (.ref cs)=>some (.d (.ref cs))
 | .rf cs=>some (.rf cs)
 | .loc n r c=>some (.loc n r c)
 | .d (.mo t v)=>some (.d (.mo t v))
 |_=>none
def uQ(e:Env)(dflt:Int):Option A->Option Int
 |none=>some dflt
 |some a=>asInt (aX e a)
section
variable {rec:Rec}{d:Nat}{e:Env}{h:List O}
@[simp] theorem Yn{x:A}:aV rec (.mv d x) e h=some ((d,aX e x)::e,h):=by simp only[aV,aj,cG];rfl
@[simp] theorem Yo{c a b:A}:aV rec (.pick d c a b) e h=p1 d e h (FX (aX e c) (aX e a) (aX e b)):=by
 simp only[aV,aj,cG,FX];generalize aX e c=v;cases v with
 |d y=>cases y<;>first |rfl |(simp only;split<;>rfl)
 |_=>rfl
@[simp] theorem Yp{x:A}{n:Nat}{fz:Bool}:aV rec (.box d x n fz) e h=p2 d e (FY fz n (aX e x) h):=by
 simp only[aV,aj,cG,FY];split
 .cases fz
  .simp only[eD,cB];exact rG
  .rfl
 .rfl
@[simp] theorem Yq{z:List D}:aV rec (.new d z) e h=some ((d,.loc h.length 0 0)::e,h++[.an z.length true [z]]):=rfl
@[simp] theorem Yr{z:List D}{ps:List (Nat×Nat×A)}:aV rec (.build d z ps) e h=p1 d e h ((fill (z.map .d) (ps.map λp=>(p.1,p.2.1,aX e p.2.2))).map tZ):=by
 simp only[aV,aj,jy,cG]
@[simp] theorem Ys{es n:Nat}{z:List D}{ps:List (Nat×A)}{fz:Bool}:aV rec (.jh d es n z ps fz) e h=p2 d e (F0 fz es n (pE (List.replicate n (z.map V.d)) es (ps.map λp=>(p.1,aX e p.2))) h):=by
 simp only[aV,aj,cG,F0];cases fz
 .simp only[eD,cB];exact rG
 .simp only[aU,jy]
  generalize (pE _ _ _).bind dM=o;cases o<;>rfl
@[simp] theorem Yt{x:A}{n:Nat}{ag:Bool}:aV rec (.ld d x n ag) e h=p1 d e h (qL h n ag (aX e x)):=by simp only[aV,aj,jy,cG]
@[simp] theorem Yu{x y:A}{n:Nat}:aV rec (.st x y n false) e h=ph e (pg h n (aX e x) (aX e y)):=by simp only[aV,aj,eD,cB,B7,cG]
@[simp] theorem Yv{y:A}{n:Nat}:aV rec (.st (.t d) y n true) e h=p2 d e (FZ h n (aK e d) (aX e y)):=by
 simp only[aV,aj,aU,cG,y9,FZ];generalize aK e d=v;cases v with
 |loc m r c =>
  cases r with
  |zero =>
   cases c with
   |zero =>
    simp only;generalize af h m=ob;cases ob with
    |an es ex rows =>
     cases ex with
     |false=>rfl
     |true =>
      match rows with
      | []=>rfl
      |_::_::_=>rfl
      | [z] =>
       simp only;split
       .exact rG
       .rfl
    |_=>rfl
   |succ c=>rfl
  |succ r=>rfl
 |_=>rfl
@[simp] theorem Yw{x:A}{o n:Nat}:aV rec (.fa d x o n) e h=p1 d e h (fa h o n (aX e x)):=by simp only[aV,aj,jy,cG]
@[simp] theorem Yx{x i:A}{es:Nat}:aV rec (.fD d x i es) e h=p1 d e h (fD es (aX e x) (aX e i) h):=by simp only[aV,aj,jy,cG]
@[simp] theorem Yy{op:BinOp}{x y:A}:aV rec (.bin d op x y) e h=p1 d e h (uc op (aX e x) (aX e y)):=by simp only[aV,aj,jy,cG]
@[simp] theorem Yz{neg:Bool}{x:A}{k:NK}:aV rec (.jZ d neg x k) e h=p1 d e h ((isNil h k (aX e x)).map λp=>.d (.b (p != neg))):=by simp only[aV,aj,jy,cG]
@[simp] theorem YA{op:UnOp}{x:A}:aV rec (.un d op x) e h=p1 d e h (A0 op (aX e x)):=by simp only[aV,aj,jy,cG]
@[simp] theorem YB{x:A}{k:LK}:aV rec (.len d x k) e h=p1 d e h (iT h k (aX e x).wk):=by simp only[aV,aj,jy,cG]
theorem KU{ok:Bool}{dflt:Int}{x:Option A}:nr ⟨e,h,ok⟩ dflt x=uQ e dflt x:=by
 cases x with
 |none=>rfl
 |some a=>simp only[nr,uQ,cG]
@[simp] theorem YC{x:A}{lo hi:Option A}{es:Nat}:aV rec (.sl d x lo hi es) e h=p1 d e h (A7 h es (aX e x) (uQ e 0 lo) (uQ e (mF (aX e x)) hi)):=by simp only[aV,aj,jy,cG,KU]
@[simp] theorem YD{x:A}{lo hi:Option A}{es:Nat}:aV rec (.sle d x lo hi es) e h=p2 d e (pz h es (aX e x) (uQ e 0 lo) (uQ e (mF (aX e x)) hi)):=by simp only[aV,aj,rG,cG,KU]
@[simp] theorem YE{x y:A}{es:Nat}:aV rec (.app d x y es) e h=p2 d e (fW h es (aX e x) (aX e y)):=by simp only[aV,aj,rG,cG]
@[simp] theorem YF{dd:Option Nat}{x:A}{es:Nat}{z:List D}:aV rec (.lI dd x es z) e h=ql dd e ((A9 h es z (aX e x)).map λh=>(.tu [],h)):=by simp only[aV,aj,wU,cG]
@[simp] theorem YG{dd:Option Nat}{x y:A}{es:Nat}:aV rec (.copy dd x y es) e h=ql dd e (copyV h es (aX e x) (aX e y)):=by simp only[aV,aj,wU,cG]
@[simp] theorem YH{x:A}{i:Nat}:aV rec (.ext d x i) e h=p1 d e h (ue i (aX e x)):=by simp only[aV,aj,jy,cG]
@[simp] theorem YI{f:Nat}{a b:List A}:aV rec (.iB d f a b) e h=some ((d,F1 f (a.map (aX e)) (b.map (aX e)))::e,h):=by
 simp only[aV,aj,get_map,F1];generalize dY (a.map (aX e))=x;generalize dY (b.map (aX e))=y;cases x<;>cases y<;>rfl
@[simp] theorem YJ:aV rec (.mq d) e h=some ((d,.mp h.length)::e,h++[.mp [] 0 []]):=rfl
@[simp] theorem YK{m k:A}{z:D}{ks:List CK}:aV rec (.mu d m k z ks) e h=(pG ks h (aX e m) (aX e k) z).map λp=>((d,p.1)::e,p.2):=by
 simp only[aV,aj,cG];cases pG ks h (aX e m) (aX e k) z<;>rfl
@[simp] theorem YL{x:A}:aV rec (.n9 d x) e h=(vU h (aX e x)).map λp=>((d,p.1)::e,p.2):=by
 simp only[aV,aj,cG];cases vU h (aX e x)<;>rfl
@[simp] theorem YM{x:A}:aV rec (.ni d x) e h=p1 d e h (uf h (aX e x)):=by simp only[aV,aj,jy,cG]
@[simp] theorem YN{m st v:A}:aV rec (.lJ m st v) e h=ph e (qM h (aX e m) (aX e st) (aX e v)):=by simp only[aV,aj,B7,cG]
@[simp] theorem YO{m k v:A}{ks:List CK}:aV rec (.ji m k v ks) e h=ph e (kJ ks h (aX e m) (aX e k) (aX e v)):=by simp only[aV,aj,B7,cG]
@[simp] theorem YP{m k:A}{z:D}{ok:Bool}{ks:List CK}:aV rec (.jj d m k z ok ks) e h=p1 d e h (eS ks h (aX e m) (aX e k) z ok):=by simp only[aV,aj,jy,cG]
@[simp] theorem YQ{m k:A}{ks:List CK}:aV rec (.iC m k ks) e h=ph e (pI ks h (aX e m) (aX e k)):=by simp only[aV,aj,B7,cG]
@[simp] theorem YR{dd:Option Nat}{f:Nat}{xs:List A}:aV rec (.call dd f xs) e h=pq dd e h (iD rec f (xs.map (aX e))):=by simp only[aV,aj,FW,get_map]
@[simp] theorem YS{dd:Option Nat}{f:Nat}{xs:List A}:aV rec (.jJ dd f xs) e h=ql dd e (dU rec h f (xs.map (aX e))):=by simp only[aV,aj,wU,get_map]
@[simp] theorem YT{dd:Option Nat}{f:Nat}{xs:List A}:aV rec (.iS dd f xs) e h=ql dd e (aW rec h f (xs.map (aX e))):=by simp only[aV,aj,wU,get_map]
@[simp] theorem YU{dd:Option Nat}{x:A}{xs:List A}:aV rec (.j0 dd x xs) e h=pq dd e h (gM (iD rec) (aX e x) (xs.map (aX e))):=by simp only[aV,aj,FW,get_map,cG]
@[simp] theorem YV{dd:Option Nat}{x:A}{xs:List A}:aV rec (.lK dd x xs) e h=ql dd e (gM (aW rec h) (aX e x) (xs.map (aX e))):=by simp only[aV,aj,wU,get_map,cG]
@[simp] theorem YW{dd:Option Nat}{x:A}{xs:List A}:aV rec (.kE dd x xs) e h=ql dd e (lQ rec h (aX e x) (xs.map (aX e))):=by simp only[aV,aj,wU,get_map,cG]
@[simp] theorem YX{m k:A}{z:D}{ks:List CK}:aV rec (.oa d m k z ks) e h=p2 d e (kK ((eS ks h (aX e m) (aX e k) z false).map λv=>(v,h))):=by simp only[aV,aj,rG,cG]
@[simp] theorem YY{x y:A}{es:Nat}:aV rec (.nj d x y es) e h=p2 d e (kK (fW h es (aX e x) (aX e y))):=by simp only[aV,aj,rG,cG]
@[simp] theorem YZ{f:Nat}{xs:List A}:aV rec (.lO d f xs) e h=p2 d e (kK (aW rec h f (xs.map (aX e)))):=by simp only[aV,aj,rG,get_map]
@[simp] theorem Y0{dd:Option Nat}{f:Nat}{xs:List A}:aV rec (.calls dd f xs) e h=pq dd e h (lR rec h f (xs.map (aX e))):=by simp only[aV,aj,FW,get_map]
@[simp] theorem Y1{x:A}:aV rec (.mB d x) e h=p1 d e h (F2 (aX e x)):=by
 simp only[aV,aj,cG,F2];generalize aX e x=v;cases v with
 |d y=>cases y<;>rfl
 |_=>rfl
@[simp] theorem Y2{x lo hi mx:A}{es:Nat}:aV rec (.lM d x lo hi mx es) e h=p1 d e h (A8 h es (aX e x) (asInt (aX e lo)) (asInt (aX e hi)) (asInt (aX e mx))):=by simp only[aV,aj,jy,cG]
@[simp] theorem Y3{x:A}:aV rec (.cap d x) e h=p1 d e h (A5 h (aX e x)):=by simp only[aV,aj,jy,cG]
@[simp] theorem Y4{x k:A}{es:Nat}{z:List D}:aV rec (.mC d x k es z) e h=p2 d e (A4 h es z (aX e x) (asInt (aX e k))):=by simp only[aV,aj,rG,cG]
@[simp] theorem Y5{x:A}{n:Nat}{ag:Bool}:aV rec (.lN d x n ag) e h=p1 d e h (A1 n ag (aX e x)):=by simp only[aV,aj,jy,cG]
@[simp] theorem Y6{x:A}{o n:Nat}:aV rec (.mE d x o n) e h=p1 d e h (A3 o n (aX e x)):=by simp only[aV,aj,jy,cG]
@[simp] theorem Y7{f:Nat}{x y:A}{es:Nat}:aV rec (.mD d f x y es) e h=p1 d e h (A6 h es (aX e x) (aX e y)):=by simp only[aV,aj,jy,cG]
end
def F3(e:Env)(h:List O):RV->Option V
 | .t n=>some (aK e n)
 | .c n k ag=>qL h k ag (aK e n)
def qm(e:Env)(h:List O):List RV->Option (List V)
 | []=>some []
 |r::rs=>(F3 e h r).bind λv=>(qm e h rs).map (v::·)
theorem F4{ok:Bool}{e:Env}{h:List O}:∀{rs:List RV},qN ⟨e,h,ok⟩ rs=qm e h rs
 | []=>rfl
 |r::rs=>by
  have:yj ⟨e,h,ok⟩ r=F3 e h r:=by cases r<;>rfl
  simp only[qN,qm,this,F4 (rs:=rs)]
def KV(h:List O)(vs:List V):Option dA:=(dr h (vs.map V.wk)).map λds=>.val (tuple (ds.map V.d)) []
def bp(h:List O)(m:Nat)(vs:List V):Option dA:=(cut h m (V.bW (vs.map V.wk))).map λL=>.val (tuple (V.cu (L.idxOf ·) (vs.map V.wk))) (sub h L)
@[simp] theorem Y8{res:List RV}{e:Env}{h:List O}:qg res false 0 e h=(qm e h res).bind (KV h):=by
 simp only[qg,finish,aU,F4,vH];cases qm e h res<;>rfl
theorem KW{res:List RV}{e:Env}{h:List O}{keep:Bool}{m:Nat}(hk:¬(m=0/\keep=false)):qg res keep m e h=(qm e h res).bind (bp h m):=by
 simp only[qg,finish,aU,F4,aF hk];cases qm e h res<;>rfl
@[simp] theorem Y9{res:List RV}{e:Env}{h:List O}{m:Nat}:qg res true m e h=(qm e h res).bind (bp h m):=KW (by simp)
@[simp] theorem Za{res:List RV}{e:Env}{h:List O}{m:Nat}{keep:Bool}:qg res keep (m+1) e h=(qm e h res).bind (bp h (m+1)):=KW (by simp)
@[simp] theorem Zb{rec:Rec}{f:Nat}{xs:List V}{ds:List D}(h:dY xs=some ds):iD rec f xs=match rec (.call f xs [])with |some (.val v [])=>some v |_=>none:=by
 unfold iD;rw[h]<;>rfl
attribute [simp] V.ak V.bW V.av V.cu O.ak O.av sub
attribute [simp] J.fX J.kL I.dst I.wr Option.toList jK jm canon cO bC F3 qm KV tuple uQ FX FY Qt mkRef FZ F0 F1 F2 wS FP
attribute [simp] dr b9 dY V.known V.cells D.cells tZ uc arith N8 N9 fV nk nq V.wk A5 A4 Od A6 A1 A3 isNil A0 Oa iT asInt fD Ob fa pack ud qL iD gM eS pF nu dD gD mG vR kJ yh vT vS pI iC ue aS pg fill pE dM cK fW kI A7 mF Ok A8 Oe Of Og Oh Oi A9 copyV Oc eE kK lR pz V.plain D.so D.plain ug
theorem aQ{h:List O}{f n:Nat}{t acc:List Nat}:reach h (f+1) (n::t) acc=if n∈acc then reach h f t acc else reach h f (t++(af h n).ak) (acc++[n]):=rfl
@[simp] theorem Zc{o:O}{h:List O}:af (o::h) 0=o:=rfl
@[simp] theorem Zd{o:O}{h:List O}{n:Nat}:af (o::h) (n+1)=af h n:=rfl
theorem Qu{h:List O}{x:O}{n:Nat}(hn:n<h.length):af (h.set n x) n=x:=by simp[af,List.getD,hn]
@[simp] theorem uR{h:List O}{x:O}:af (h++[x]) h.length=x:=by simp[af,List.getD]
theorem nO{h h':List O}{n:Nat}(hn:n<h.length):af (h++h') n=af h n:=by simp[af,List.getD,jH hn]
@[simp] theorem KX{h:List O}{x y:O}:(h++[x]).set h.length y=h++[y]:=by simp
@[simp] theorem Ze{h:List O}{n:Nat}{acc:List Nat}:reach h n [] acc=acc:=by cases n<;>rfl
@[simp] theorem Zf{h:List O}:cut h 0 []=some []:=by simp[cut]
theorem toNat_add(a b:Nat):((a:Int)+(b:Int)).toNat=a+b:=by omega
theorem KY(a b c:Nat):((a:Int)+(b:Int) - (c:Int)).toNat=a+b - c:=by omega
theorem KZ(a b c:Nat):((a:Int)+(b:Int) - ((c:Int)+(b:Int))).toNat=a - c:=by omega
theorem wrap_i64{x:Int}(h1:-9223372036854775808<=x)(h2:x<=9223372036854775807):IntKind.i64.wrap x=x:=by
 have e0:((2:Int) ^ IntKind.i64.bits)=18446744073709551616:=by decide
 have e1:((2:Int) ^ (IntKind.i64.bits - 1))=9223372036854775808:=by decide
 simp only[IntKind.wrap,e0,e1,IntKind.signed,AP];by_cases hx:0<=x
 .rw[Int.emod_eq_of_lt hx (by omega)]
  simp;omega
 .have:x % 18446744073709551616=x+18446744073709551616:=by omega
  rw[this];simp;omega
end Go.VS
namespace Go.VS
theorem sU{H:List O}{i m:Nat}{x:BI}{B:BB}{v:D}(b:aE H i x B)(lf:Lf H [i,x.n1,x.n2])(hsz:B.due.length<=300/\B.got.length<=300)(hm:m<=H.length)(hi:i<m)(hc:m<=300):
  ∃h1 x1,bp H m [.d v]=some (.val (.d v) h1)/\aE h1 i x1 B/\Lf h1 [i,x1.n1,x1.n2]/\m<=h1.length:=by
 obtain⟨L,c1,c2,c3,_,_,_,_,c8,_,kX⟩:=b.cut (ex:=[]) lf (by simp) (by simp) hsz hm (roots:=[]) (by simp) (.inr hi) (by simpa using hc)
 have zf:=wM c2 c3 hi;rw[zf]at c8 kX;refine⟨sub H L,x.av (L.idxOf ·),?_,c8,by simpa[BI.av]using kX,by rw[iy];exact y4 c3⟩
 have e:V.bW [(.d v:V)]=[]:=rfl;simp only[bp,cR,jF,V.wk,e,c1];rfl
theorem Qv{H:List O}{i m:Nat}{x:BI}{B:BB}(b:aE H i x B)(lf:Lf H [i,x.n1,x.n2])(hsz:B.due.length<=300/\B.got.length<=300)(hm:m<=H.length)(hi:i<m)(hc:m<=300):
  ∃h1 x1,bp H m []=some (.val (.tu []) h1)/\aE h1 i x1 B/\Lf h1 [i,x1.n1,x1.n2]/\m<=h1.length:=by
 obtain⟨L,c1,c2,c3,_,_,_,_,c8,_,kX⟩:=b.cut (ex:=[]) lf (by simp) (by simp) hsz hm (roots:=[]) (by simp) (.inr hi) (by simpa using hc)
 have zf:=wM c2 c3 hi;rw[zf]at c8 kX;refine⟨sub H L,x.av (L.idxOf ·),?_,c8,by simpa[BI.av]using kX,by rw[iy];exact y4 c3⟩
 have e:V.bW ([]:List V)=[]:=rfl;simp only[bp,jF,e,c1];rfl
theorem B8{m:Nat}{live:List Nat}{env E:List (Nat×V)}{H:List O}{L:List Nat}(he:cO live env=E)(hH:H≠[])(hc:VS.cut H m (bC E)=some L):canon m live env H=some (eE (L.idxOf ·) E,sub H L):=by
 unfold canon;cases H with
 |nil=>exact absurd rfl hH
 |cons a H =>
  simp only[he,hc];rfl
theorem cE.of{α:Type}{R:V->α->Prop}:∀{kv:List (D×V)}{l:List (Int×α)},kv.length=l.length->(∀(j:Nat)(p:D×V)(q:Int×α),kv[j]?=some p->l[j]?=some q->p.1=iK q.1/\R p.2 q.2)->cE R kv l
 | [],[],_,_=>trivial
 |p::kv,q::l,hl,h=>⟨(h 0 p q rfl rfl).1,(h 0 p q rfl rfl).2,cE.of (by simpa using hl) λj p' q' hp hq=>h (j+1) p' q' (by simpa using hp) (by simpa using hq)⟩
 | [],_::_,hl,_=>by simp at hl
 |_::_,[],hl,_=>by simp at hl
def BB.cx(B:BB)(v:Int):BB:={B with due:=B.due.map λp=>(p.1,p.2++[v])}
section
variable {h0:List O}{i:Nat}{x:BI}{B:BB}{v:Int}{seen:List Nat}{q:Nat}{al:List Nat}{H:List O}
theorem Qw(hP:gP h0 x v seen q al H)(hall:∀j,j<x.kd.length->x.bd.getD j 0∈seen):own (eM seen al x.kd x.bd)=al:=by
 have e:eM seen al x.kd x.bd=x.kd.mapIdx λj p=>(p.1,V.aJ (al.getD j 0) 0 (p7 p.2+1)):=by
  refine qE λj=>?_
  rw[I9];by_cases hj:j<x.kd.length
  .have hj':x.kd[j]?=some x.kd[j]:=by simp[hj]
   rw[lX hj',aN (hall j hj),hj'];rfl
  .rw[dL (by rw[kf];omega),dL (by omega)]
   rfl
 rw[e];unfold own;rw[List.mapIdx_eq_zipIdx_map,AD]
 have:∀(l:List ((D×V)×Nat)),l.flatMap (λa=>(V.aJ (al.getD a.2 0) 0 (p7 a.1.2+1)).ak)=l.map λa=>al.getD a.2 0:=by
  intro l;induction l with
  |nil=>rfl
  |cons a l ih=>rw[rX,ih];rfl
 refine(this _).trans ?_;refine qE λj=>?_
 rw[jg,List.getElem?_zipIdx];by_cases hj:j<x.kd.length
 .have wP:j<al.length:=by rw[hP.all];exact hj
  simp[hj,wP,List.getD]
 .rw[dL (l:=x.kd) (by omega),dL (l:=al) (by rw[hP.all];omega)]
  rfl
theorem gP.book(b:aE h0 i x B)(hP:gP h0 x v seen q al H)(hlf:Lf H [i,x.n1,x.n2,q])(hall:∀j,j<x.kd.length->x.bd.getD j 0∈seen):
  ∃x',x'.n1=x.n1/\x'.n2=x.n2/\aE H i x' (B.cx v)/\q∉x'.all i:=by
 have jP:i<h0.length:=b.lt i (by simp[BI.all])
 have hn1:x.n1<h0.length:=b.lt x.n1 (by simp[BI.all])
 have hn2:x.n2<h0.length:=b.lt x.n2 (by simp[BI.all])
 have sV:x.n3<h0.length:=b.lt x.n3 (by simp[BI.all])
 have hnd:=b.nd;have hml:=hP.uO;have KM:=hP.BX;unfold BI.all at hnd;simp only[cy,aY,aL,dc,fA]at hnd;obtain⟨⟨a1,a2,a3,⟨a4,a5⟩,a6⟩,⟨b1,b2,⟨b3,b4⟩,b5⟩,⟨c1,⟨c2,c3⟩,c4⟩,⟨⟨d1,d2⟩,d3⟩,⟨e1,e2,e3⟩,f1,f2⟩:=hnd;have gi:=hP.old i jP a1 (rC b (.inl rfl));have g2:=hP.old x.n2 hn2 (λe=>b1 e.symm) (rC b (.inr (.inr (.inl rfl))))
 have g3:=hP.old x.n3 sV (λe=>b2 e.symm) (rC b (.inr (.inr (.inr (.inl rfl)))))
 have hw0:∀n∈x.wv.ak,n<h0.length:=λn hn=>b.lt n (by simp[BI.all,hn])
 have nP:∀n∈own x.kg,n<h0.length:=λn hn=>b.lt n (by simp[BI.all,hn])
 have gw:∀n∈x.wv.ak,af H n=af h0 n:=λn hn=>hP.old n (hw0 n hn) (λe=>b3 (e▸hn)) (rC b (.inr (.inr (.inr (.inr (.inl hn))))))
 have gg:∀n∈own x.kg,af H n=af h0 n:=λn hn=>hP.old n (nP n hn) (λe=>b5 (e▸hn)) (rC b (.inr (.inr (.inr (.inr (.inr hn))))))
 have hown:=Qw hP hall;have mO:∀n∈al,h0.length<=n/\n<H.length/\n≠q:=λn hn=>by
  obtain⟨j,hj,rfl⟩:=jf hn;have hj2:j<x.kd.length:=by rw[<-hP.all];exact hj
  have:=hP.new j x.kd[j] (by simp[hj2]) (hall j hj2)
  have e:al.getD j 0=al[j]:=by simp[List.getD,hj]
  rw[e]at this;exact⟨this.1,this.2.1,this.2.2.1⟩
 have Qx:al.Nodup:=by
  rw[Ja,AS];intro a c ha hc hac e;rw[hP.all]at ha hc;have:=hP.inj a c ha hc (hall a ha) (hall c hc) (by simp[List.getD,hP.all,ha,hc,e])
  omega
 refine⟨{x with kd:=eM seen al x.kd x.bd},rfl,rfl,⟨by rw[gi];exact b.st,hP.mp,by show af H x.n2=_;rw[g2];exact b.mg,by show af H x.n3=_;rw[g3];exact b.mw,?_,b.rg.mono λp hp y hy=>hy.frame λk hk=>gg k (dG.2 ⟨p,hp,hk⟩),b.rw,b.sw.frame gw,λn hn=>by obtain⟨r,hr⟩:=b.sx n hn;exact⟨r,(gw n hn).trans hr⟩,?_,?_,⟨by show x.bd.length=(eM seen al x.kd x.bd).length;rw[kf];exact b.sd.len,b.sd.nd,b.sd.lt⟩,b.sg,b.s3⟩,?_⟩
 .refine cE.of (by show(eM seen al x.kd x.bd).length=(B.due.map _).length;rw[kf,qG];exact b.rd.len) λj p u hp hu=>?_
  have hj:j<x.kd.length:=by
   have:=(dW.1 hp).1
   rwa [kf]at this
  have hk:x.kd[j]?=some x.kd[j]:=by simp[hj]
  obtain⟨e,he,h1,h2⟩:=y7 b.rd hk;have ir:(B.due.map λp=>(p.1,p.2++[v]))[j]?=some u:=hu
  rw[jg,he]at ir;have dh:(eM seen al x.kd x.bd)[j]?=some p:=hp;rw[lX hk,aN (hall j hj)]at dh;simp only[fy,bF]at ir dh;subst ir dh;refine⟨h1,?_⟩;have hn:=(hP.new j x.kd[j] hk (hall j hj)).2.2.2;rcases h2 with⟨h2,h3⟩ |⟨n,off,ex,rows,h2,h3,h4,h5⟩
  .refine .inr ⟨al.getD j 0,0,true,[[iK v]],?_,?_,?_,?_⟩
   .simp only[h2,h3,p7];rfl
   .rw[hn];simp[sP,h2]
   .simp[h3]
   .simp[h3]
  .refine .inr ⟨al.getD j 0,0,ex,rows.drop off++[[iK v]],?_,?_,?_,?_⟩
   .simp only[h2,p7,eC,fT,lE]
   .rw[hn];simp[sP,h2,h3]
   .simp;omega
   .simp[h5]
 .unfold BI.all
  simp only[hown];simp only[cy,aY,aL,dc,fA];have kj:∀n,n<h0.length->n∉al:=λn hn h=>by have:=(mO n h).1;omega
  exact⟨⟨a1,a2,a3,⟨a4,kj _ jP⟩,a6⟩,⟨b1,b2,⟨b3,kj _ hn1⟩,b5⟩,⟨c1,⟨c2,kj _ hn2⟩,c4⟩,⟨⟨d1,kj _ sV⟩,d3⟩,⟨e1,Qx,λa ha c hc e=>kj a (hw0 a ha) (e▸hc)⟩,f1,λa ha c hc e=>by
   rcases ha with ha |ha
   .exact f2 a (.inl ha) c hc e
   .exact kj c (nP c hc) (e▸ha)⟩
 .intro n hn
  simp only[BI.all,hown,aY,aL]at hn;rcases hn with rfl |rfl |rfl |rfl |(hn |hn) |hn
  .omega
  .show x.n1<_;omega
  .show x.n2<_;omega
  .show x.n3<_;omega
  .have:=hw0 n hn;omega
  .exact(mO n hn).2.1
  .have:=nP n hn;omega
 .intro hn
  simp only[BI.all,hown,aY,aL]at hn;rcases hn with hn |hn |hn |hn |(hn |hn) |hn
  .omega
  .omega
  .omega
  .omega
  .have:=hw0 _ hn;omega
  .exact(mO _ hn).2.2 rfl
  .have:=nP _ hn;omega
theorem Qy{h:List O}{m:Nat}{Pr:Nat->Prop}(hc:∀n,Pr n->∀k∈(af h n).ak,Pr k)(hm:∀k,k<m->Pr k){roots L:List Nat}(hr:∀n∈roots,Pr n)(hL:VS.cut h m roots=some L):∀n∈L,Pr n:=by
 unfold VS.cut at hL;have hL:=(x9.1 hL).2;simp only[bF]at hL;subst hL;intro n hn;rcases aL.1 hn with hn |hn
 .exact hm n (o8.1 hn)
 .refine BU hc 1000 _ [] (λk hk=>?_) (by simp) n (lA.1 hn).1
  rcases aL.1 hk with hk |hk
  .exact hm k (o8.1 hk)
  .exact hr k hk
end
end Go.VS
namespace Go.VS
theorem Qz{bd seen:List Nat}{b:Nat}(hb:b∈bd)(hs:b∉seen):(bd.filter λc=>!(seen++[b]).contains c).length<(bd.filter λc=>!seen.contains c).length:=by
 have e:(bd.filter λc=>!(seen++[b]).contains c)=(bd.filter λc=>!seen.contains c).filter (· != b):=by
  rw[Jd];refine List.filter_congr λc _=>?_
  simp only[En,aL,lG];by_cases h1:c∈seen<;>by_cases h2:c=b<;>simp[h1,h2]
 rw[e];refine Je.2 ⟨b,lA.2 ⟨hb,by simpa using hs⟩,by simp⟩
theorem aE.QA{H:List O}{i m q:Nat}{x:BI}{B:BB}(b:aE H i x B)(lf:Lf H [i,x.n1,x.n2,q])(hq:(af H q).ak=[x.n1])(Zg:m<=q)(B9:q∉x.all i)(hsz:B.due.length<=300/\B.got.length<=300)(hm:m<=H.length)(hi:i<m){roots:List Nat}(hr:∀n∈roots,n<m)(hc:m+roots.length<=300):
  ∃L,VS.cut H m roots=some L/\(∀k,k<m->L.idxOf k=k)/\aE (sub H L) i (x.av (L.idxOf ·)) B/\Lf (sub H L) [i,L.idxOf x.n1,L.idxOf x.n2]/\m<=(sub H L).length:=by
 have hn1:x.n1<H.length:=b.lt x.n1 (by simp[BI.all])
 obtain⟨L,c1,c2,c3,_,_,_,_,c8,_,kX⟩:=b.cut (ex:=[q]) lf (λn hn=>by simp only[lG]at hn;subst hn;rw[hq];exact⟨by simp,by simpa using hn1⟩) (by simp) hsz hm (roots:=roots) (λn hn=>by have:=hr n hn;omega) (.inr hi) hc
 have zf:=wM c2 c3 hi;rw[zf]at c8 kX;obtain⟨l1,l2,l3⟩:=b.ak;have BV:∀n∈L,n<m\/n∈x.all i:=Qy (λn hn k hk=>by
  right;by_cases e1:n=i
  .subst e1
   rw[l1]at hk;simp only[BI.all,aY,aL]at hk⊢;rcases hk with h |h |h |h<;>simp[h]
  .by_cases e2:n=x.n1
   .subst e2;rw[l2]at hk;simp[BI.all,hk]
   .by_cases e3:n=x.n2
    .subst e3;rw[l3]at hk;simp[BI.all,hk]
    .by_cases e4:n=q
     .subst e4
      rcases hn with hn |hn
      .omega
      .exact absurd hn B9
     .rw[lf n (by simp[e1,e2,e3,e4])]at hk
      simp at hk) (λk hk=>.inl hk) (λn hn=>.inl (hr n hn)) c1
 have wN:q∉L:=λh=>by
  rcases BV q h with h |h
  .omega
  .exact B9 h
 refine⟨L,c1,λk hk=>wM c2 c3 hk,c8,λn hn=>?_,by rw[iy];exact y4 c3⟩
 by_cases yZ:n<L.length
 .refine kX n ?_
  simp only[aY,rY,tT,cR,jF]at hn⊢;rintro(h |h |h |h)
  .exact hn (.inl h)
  .exact hn (.inr (.inl h))
  .exact hn (.inr (.inr h))
  .rw[h,List.idxOf_eq_length wN]at yZ
   omega
 .rw[rm (by omega)]
  rfl
theorem K0{f:Nat->Nat}:∀{e:List (Nat×V)},(∀n∈bC e,f n=n)->eE f e=e
 | [],_=>rfl
 |p::e,h=>by
  have ih:=K0 (f:=f) (e:=e) λn hn=>h n (by simp[bC,hn])
  simp only[eE,cR]at ih⊢;rw[ih,V.nL p.2 λn hn=>h n (by simp[bC,hn])]
section
variable {P:Prog}{h0:List O}{i:Nat}{x:BI}{B:BB}{v:Int}
structure uS(h0:List O)(i:Nat)(x:BI)(v:Int)(lx:List Nat)(Ex:List (Nat×V))(H:List O)(e:List (Nat×V)):Prop where
 ex:∃seen q al,gP h0 x v seen q al H/\Lf H [i,x.n1,x.n2,q]/\(∀j,j<x.kd.length->x.bd.getD j 0∈seen)
 en:cO lx e=Ex
theorem uS.done{lx:List Nat}{Ex e:List (Nat×V)}{H:List O}(b:aE h0 i x B)(hp:uS h0 i x v lx Ex H e)(hsz:B.due.length<=300/\B.got.length<=300)(zg:∀n∈bC Ex,n<h0.length)(hm:h0.length+(bC Ex).length<=300):
  ∃r x',canon h0.length lx e H=some r/\r.1=Ex/\aE r.2 i x' (B.cx v)/\Lf r.2 [i,x'.n1,x'.n2]/\h0.length<=r.2.length:=by
 obtain⟨⟨s,q,al,hP,hl,hf⟩,he⟩:=hp;obtain⟨x',e1,e2,bk,B9⟩:=gP.book b hP hl hf;have jP:i<h0.length:=b.lt i (by simp[BI.all])
 have hne:H≠[]:=λe=>by
  have:=hP.y5;rw[e]at this;simp at this
 obtain⟨L,c1,c2,c3,c4,c5⟩:=bk.QA (q:=q) (m:=h0.length) (by rw[e1,e2];exact hl) (by rw[hP.it,e1];rfl) hP.BX B9 (by simpa[BB.cx]using hsz) hP.uO jP zg hm
 refine⟨_,_,B8 he hne c1,K0 λn hn=>c2 n (zg n hn),c3,c4,c5⟩
theorem QB{al:List Nat}:eM [] al x.kd x.bd=x.kd:=by
 refine qE λj=>?_
 by_cases hj:j<x.kd.length
 .have hj':x.kd[j]?=some x.kd[j]:=by simp[hj]
  rw[lX hj',aF (by simp),hj']
 .rw[dL (by rw[kf];omega),dL (by omega)]
theorem gP.init(b:aE h0 i x B)(lf:Lf h0 [i,x.n1,x.n2])(v:Int):gP h0 x v [] h0.length (List.replicate x.kd.length 0) (h0++[.it x.n1 x.cd []])/\Lf (h0++[.it x.n1 x.cd []]) [i,x.n1,x.n2,h0.length]:=by
 have hn1:x.n1<h0.length:=b.lt x.n1 (by simp[BI.all])
 refine⟨⟨by simp,by omega,by simp,q9,by rw[ke hn1,b.md,QB],λk hk _ _=>ke hk,λk hk=>?_,by simp,λj p _ h=>by simp at h,λj k _ _ h=>by simp at h⟩,λn hn=>?_⟩
 .obtain⟨j,p,_,h,_⟩:=hk
  simp at h
 .simp only[aY,rY,tT,dc]at hn
  by_cases h:n<h0.length
  .rw[ke h];exact lf n (by simp[hn])
  .have:(h0++[O.it x.n1 x.cd []]).length<=n:=by simp;omega
   simp only[af,tR,dL this,Em];rfl
theorem QC{m:Nat}{live lx:List Nat}{d d2 it id:Nat}{c':C}{E:Nat->List (Nat×V)}{Ex:List (Nat×V)}(QD:m=h0.length)(b:aE h0 i x B)(lf:Lf h0 [i,x.n1,x.n2])
  (hsz:B.due.length<=300/\B.got.length<=300)(hm:m<=250)(hkeys:(B.due.map (·.1)).Nodup)(F5:∀e∈B.due,e.2.length<=1000000)
  (QE:∀q,aK (E q) it = .loc q 0 0)(sW:∀q,q∈bC (E q)/\(∀n∈bC (E q),n=q\/n<m)/\(bC (E q)).length<=10)(rH:(bC Ex).length<=10)(QF:∀q f,(∀k,k<m->f k=k)->eE f (E q)=E (f q))
  (zg:∀n∈bC Ex,n<m)
  (hbody:∀(seen:List Nat)(q:Nat)(al:List Nat)(H:List O)(j:Nat)(p:D×V)(t:Int)(H1 H2 H3:List O)(w:V),gP h0 x v seen q al H->x.kd[j]?=some p->uf H1 (.loc q 0 0)=some (.tu [.d (iK t),p.2]) ->
   eS [.i] H1 (.mp x.n1) (.d (iK t)) (.sl 1 true []) false=some p.2->fW H1 1 p.2 (.d (.sl 1 false [[iK v]]))=some (w,H2) ->
   af H2 i=af h0 i->kJ [.i] H2 (.mp x.n1) (.d (iK t)) w=some H3->af H1 i=af h0 i->i<H1.length ->
   ∃env',cO live env'=E q/\run P m (sS P m live d d2 it c') [.c c'] ((d2,.d (.b true))::(d,.u)::E q) H1=sR P m live d d2 it c' (canon m live env' H3))
  (hend:∀q H,∃e',cO lx e'=Ex/\run P m (sS P m live d d2 it c') [.c c'] ((d2,.d (.b false))::(d,.u)::E q) H=(canon m lx e' H).map λp=>.out (.exit id) p.1 p.2):
  ∀(n:Nat)(seen:List Nat)(q:Nat)(al:List Nat)(H:List O)(env:List (Nat×V)),gP h0 x v seen q al H->Lf H [i,x.n1,x.n2,q]->(x.bd.filter λc=>!seen.contains c).length<=n->cO live env=E q ->
   ∃H' e' r,uS h0 i x v lx Ex H' e'/\canon m lx e' H'=some r/\sR P m live d d2 it c' (canon m live env H)=some (.out (.exit id) r.1 r.2):=by
 subst QD;have ne:∀{seen q al H},gP h0 x v seen q al H->H≠[]:=λhp e=>by
  have:=hp.y5;rw[e]at this;simp at this
 have same:∀{H1 H2 e1 e2},uS h0 i x v lx Ex H1 e1->uS h0 i x v lx Ex H2 e2->canon h0.length lx e1 H1=canon h0.length lx e2 H2:=by
  rintro H1 H2 e1 e2 ⟨⟨s1,q1,rB,p1,_,f1⟩,n1⟩ ⟨⟨s2,q2,BZ,p2,_,f2⟩,n2⟩;exact gP.final b lf p2 p1 f2 f1 (by rw[n1,n2]) (by rw[n2];exact zg)
 intro n;induction n with
 |zero |succ n ih =>
  intro seen q al H env hP hl hn he;obtain⟨r1,r2,r3⟩:=sW q;obtain⟨L,c1,c2,c3,c4⟩:=hP.cut b lf hl hsz hm (roots:=bC (E q)) (λn hn=>by
   rcases r2 n hn with rfl |h
   .exact hP.y5
   .have:=hP.uO;omega) r1 r3
  have hc:=B8 he (ne hP) c1;rw[QF q (L.idxOf ·) c2]at hc
  rw[hc,Qo,Qq,QE];have hlt:x.bd.all (λc=>decide (c<x.cd))=true:=jG.2 λc hc=>by simpa using b.sd.lt c hc
  simp only[sn,c3.it,c3.mp,hlt,vH,aU];by_cases hf:(x.bd.filter λc=>!seen.contains c)=[]
  .rw[aN hf]
   have hall:∀j,j<x.kd.length->x.bd.getD j 0∈seen:=λj hj=>by
    rw[vK]at hf;have hj2:j<x.bd.length:=by rw[b.sd.len];exact hj
    have:=hf (x.bd.getD j 0) (dV (FH hj2));simpa using this
   obtain⟨e',h1,h2⟩:=hend (L.idxOf q) (sub H L);have jO:uS h0 i x v lx Ex (sub H L) e':=⟨⟨seen,_,_,c3,c4,hall⟩,h1⟩;obtain⟨r,_,k1,_⟩:=jO.done b hsz zg (by omega)
   refine⟨_,e',r,jO,k1,?_⟩;simp only[eG,cR,jF,sq,h2,k1,fy]
  .first
   |exact absurd (o7.1 (by omega)) hf
   |rw[aF hf]
    simp only[eG,x6];have one:∀c∈x.bd.filter (λc=>!seen.contains c),∃H' e' r,uS h0 i x v lx Ex H' e'/\canon h0.length lx e' H'=some r /\
      run P h0.length (sS P h0.length live d d2 it c') [.c c'] ((d2,.d (.b true))::(d,.u)::E (L.idxOf q)) ((sub H L).set (L.idxOf q) (.it x.n1 x.cd (seen++[c])))=some (.out (.exit id) r.1 r.2):=λc hc=>by
     obtain⟨uJ,gE⟩:=lA.1 hc;have hcs:c∉seen:=by simpa using gE
     obtain⟨j,hjl,nK⟩:=jf uJ;have K1:x.bd.getD j 0=c:=by simp[List.getD,hjl,nK]
     have Ca:j<x.kd.length:=by rw[<-b.sd.len];exact hjl
     obtain⟨t,H1,H2,H3,w,e1,e2,e3,e4,e5,e6,e7,e8,e9,Cb⟩:=gP.step b lf c3 c4 hkeys F5 (j:=j) (p:=x.kd[j]) (by simp[Ca]) (by rw[K1];exact hcs)
     rw[K1]at e1 e7;obtain⟨env',k1,k2⟩:=hbody seen (L.idxOf q) _ (sub H L) j x.kd[j] t H1 H2 H3 w c3 (by simp[Ca]) e2 e3 e4 e5 e6 e9 Cb
     obtain⟨H',e',r,g1,g2,g3⟩:=ih (seen++[c]) _ _ H3 env' e7 e8 (by have:=Qz uJ hcs;omega) k1
     exact⟨H',e',r,g1,g2,by rw[<-e1,k2];exact g3⟩
    cases hfl:x.bd.filter λc=>!seen.contains c with
    |nil=>exact absurd hfl hf
    |cons c0 rest =>
     obtain⟨H',e',r,g1,g2,g3⟩:=one c0 (by rw[hfl];simp)
     refine⟨H',e',r,g1,g2,Bd.2 ⟨by simp,λy hy=>?_⟩⟩
     obtain⟨c,hc,rfl⟩:=dz.1 hy;obtain⟨Zh,e'',r'',k1,k2,k3⟩:=one c (by rw[hfl];exact hc)
     have:=same g1 k1;rw[g2,k2]at this;simp only[bF]at this;subst this;exact k3
end
end Go.VS
namespace Go.VS
def jz(i:Int)(vs rows:List (List D)):List (List D):=rows.take i.toNat++vs++rows.drop i.toNat
def wV(es:Nat)(xs:List V)(h:List O):Option (V×List O):=
 match xs with
 | [x,.d (.i .i64 i),.d (.sl e false vs)] =>
  if e=es/\vs≠[]/\vs.all (·.length==es)=true then
   match x with
   | .d (.sl e' true [])=>if e'=es/\i=0/\vs.length<=room then some (.aJ h.length 0 vs.length,h++[.an es true vs])else none
   | .dS e'=>if e'=es/\i=0/\vs.length<=room then some (.aJ h.length 0 vs.length,h++[.an es true vs])else none
   | .aJ n off len =>
    match af h n with
    | .an e' true rows =>
     if e'=es/\off+len<=rows.length/\0<=i/\i<=len/\len+vs.length<=room then
      some (.aJ h.length 0 (len+vs.length),h.set n .dead++[.an es true (jz i vs ((rows.drop off).take len))])else none
    |_=>none
   |_=>none
  else none
 |_=>none
theorem tc{h:List O}{n:Nat}(hn:h.length<=n):af h n = .dead:=by simp[af,List.getD,dL hn]
theorem RM{h:List O}{n k:Nat}{o:O}(ho:o.ak=[]):(af (h.set n o) k).ak=(af h k).ak\/(af (h.set n o) k).ak=[]:=by
 by_cases hk:k=n
 .subst hk
  by_cases hl:k<h.length
  .rw[iu hl];exact .inr ho
  .rw[tc (h:=h.set k o) (by simp;omega)];exact .inr rfl
 .rw[eo hk];exact .inl rfl
theorem RN{h:List O}{k:Nat}{o:O}(ho:o.ak=[]):(af (h++[o]) k).ak=(af h k).ak\/(af (h++[o]) k).ak=[]:=by
 by_cases hl:k<h.length
 .rw[ke hl];exact .inl rfl
 .by_cases hk:k=h.length
  .subst hk;rw[q9];exact .inr ho
  .rw[tc (h:=h++[o]) (by simp;omega)];exact .inr rfl
theorem Lf.app{h:List O}{l:List Nat}(hl:Lf h l){o:O}(ho:o.ak=[]):Lf (h++[o]) l:=λn hn=>by
 rcases RN (h:=h) (k:=n) ho with e |e
 .rw[e];exact hl n hn
 .exact e
theorem Lf.set{h:List O}{l:List Nat}(hl:Lf h l){n:Nat}{o:O}(ho:o.ak=[]\/n∈l):Lf (h.set n o) l:=λk hk=>by
 rcases ho with ho |ho
 .rcases RM (h:=h) (k:=k) (n:=n) ho with e |e
  .rw[e];exact hl k hk
  .exact e
 .rw[eo fun(e:k=n)=>hk (by rw[e];exact ho)];exact hl k hk
theorem La{h h':List O}{es:Nat}{x y v:V}{l:List Nat}(ha:fW h es x y=some (v,h'))(hl:Lf h l):Lf h' l:=by
 have fin:∀{a b:V}{h1:List O},some (a,h1)=some (b,h')->Lf h1 l->Lf h' l:=λe hh=>by
  simp only[bF,gS]at e;rw[<-e.2];exact hh
 unfold fW at ha;cases hr:kI h es y with
 |none=>rw[hr]at ha;cases ha
 |some ys =>
  rw[hr]at ha;simp only at ha;repeat' split at ha
  all_goals first
   |exact fin ha hl
   |exact fin ha (hl.app rfl)
   |exact fin ha (hl.set (.inl rfl))
   |exact fin ha ((hl.set (.inl rfl)).app rfl)
   |cases ha
section
variable {H H':List O}{i:Nat}{x:BI}{B:BB}
theorem aE.frame(b:aE H i x B)(hf:∀n∈x.all i,af H' n=af H n)(hl:H.length<=H'.length):aE H' i x B where
 st:=by rw[hf i (by simp[BI.all])];exact b.st
 md:=by rw[hf x.n1 (by simp[BI.all])];exact b.md
 mg:=by rw[hf x.n2 (by simp[BI.all])];exact b.mg
 mw:=by rw[hf x.n3 (by simp[BI.all])];exact b.mw
 rd:=b.rd.mono λp hp y hy=>hy.frame λn hn=>hf n (by
  have:n∈own x.kd:=dG.2 ⟨p,hp,hn⟩
  simp[BI.all,this])
 rg:=b.rg.mono λp hp y hy=>hy.frame λn hn=>hf n (by
  have:n∈own x.kg:=dG.2 ⟨p,hp,hn⟩
  simp[BI.all,this])
 rw:=b.rw
 sw:=b.sw.frame λn hn=>hf n (by simp[BI.all,hn])
 sx n hn:=by
  obtain⟨r,hr⟩:=b.sx n hn;exact⟨r,by rw[hf n (by simp[BI.all,hn])];exact hr⟩
 nd:=b.nd
 lt n hn:=by have:=b.lt n hn;omega
 sd:=b.sd
 sg:=b.sg
 s3:=b.s3
theorem aE.app(b:aE H i x B){o:O}:aE (H++[o]) i x B:=b.frame (λn hn=>ke (b.lt n hn)) (by simp)
theorem aE.RO(b:aE H i x B){kd:List (D×V)}{cd:Nat}{bd:List Nat}{due:List (Int×List Int)}(hl:H.length<=H'.length)(hm:af H' x.n1 = .mp kd cd bd)(hr:cE (cF H') kd due)(hs:gr kd cd bd)
  (hn:(x.n1::own kd).Nodup)(ho:∀k∈own kd,k∈own x.kd\/H.length<=k)(ht:∀k∈own kd,k<H'.length)(hf:∀k,k<H.length->k≠x.n1->k∉own x.kd->af H' k=af H k):
  aE H' i {x with kd:=kd,cd:=cd,bd:=bd} {B with due:=due}:=by
 have hnd:=b.nd;have jP:i<H.length:=b.lt i (by simp[BI.all])
 have hn1:x.n1<H.length:=b.lt x.n1 (by simp[BI.all])
 have hn2:x.n2<H.length:=b.lt x.n2 (by simp[BI.all])
 have sV:x.n3<H.length:=b.lt x.n3 (by simp[BI.all])
 have hw0:∀n∈x.wv.ak,n<H.length:=λn hn=>b.lt n (by simp[BI.all,hn])
 have nP:∀n∈own x.kg,n<H.length:=λn hn=>b.lt n (by simp[BI.all,hn])
 unfold BI.all at hnd;simp only[cy,aY,aL,dc,fA]at hnd;obtain⟨⟨a1,a2,a3,⟨a4,a5⟩,a6⟩,⟨b1,b2,⟨b3,b4⟩,b5⟩,⟨c1,⟨c2,c3⟩,c4⟩,⟨⟨d1,d2⟩,d3⟩,⟨e1,e2,e3⟩,f1,f2⟩:=hnd;have no:∀k,k<H.length->k∉own x.kd->k∉own kd:=λk hk hn hh=>(ho k hh).elim hn (by omega)
 have nw:∀k∈x.wv.ak,k∉own x.kd:=λk hk hh=>e3 k hk k hh rfl
 have ng:∀k∈own x.kg,k∉own x.kd:=λk hk hh=>f2 k (.inr hh) k hk rfl
 rw[cy]at hn;refine⟨(hf i jP a1 a5).trans b.st,hm,(hf x.n2 hn2 (λe=>b1 e.symm) c3).trans b.mg,(hf x.n3 sV (λe=>b2 e.symm) d2).trans b.mw,hr,b.rg.mono λp hp y hy=>hy.frame λk hk=>?_,b.rw,b.sw.frame λk hk=>hf k (hw0 k hk) (λe=>b3 (e▸hk)) (nw k hk),
  λk hk=>?_,?_,λk hk=>?_,hs,b.sg,b.s3⟩
 .have:k∈own x.kg:=dG.2 ⟨p,hp,hk⟩
  exact hf k (nP k this) (λe=>b5 (e▸this)) (ng k this)
 .obtain⟨r,hr⟩:=b.sx k hk
  exact⟨r,(hf k (hw0 k hk) (λe=>b3 (e▸hk)) (nw k hk)).trans hr⟩
 .unfold BI.all
  simp only[cy,aY,aL,dc,fA];exact⟨⟨a1,a2,a3,⟨a4,no i jP a5⟩,a6⟩,⟨b1,b2,⟨b3,hn.1⟩,b5⟩,⟨c1,⟨c2,no _ hn2 c3⟩,c4⟩,⟨⟨d1,no _ sV d2⟩,d3⟩,⟨e1,hn.2,λa ha c hc e=>no a (hw0 a ha) (nw a ha) (e▸hc)⟩,f1,λa ha c hc e=>by
   rcases ha with ha |ha
   .exact f2 a (.inl ha) c hc e
   .exact no c (nP c hc) (ng c hc) (e▸ha)⟩
 .simp only[BI.all,aY,aL]at hk
  rcases hk with rfl |rfl |rfl |rfl |(hk |hk) |hk
  .omega
  .omega
  .omega
  .omega
  .have:=hw0 k hk;omega
  .exact ht k hk
  .have:=nP k hk;omega
theorem aE.Lb(b:aE H i x B){kg:List (D×V)}{cg:Nat}{bg:List Nat}{got:List (Int×List Int)}(hl:H.length<=H'.length)(hm:af H' x.n2 = .mp kg cg bg)(hr:cE (cF H') kg got)(hs:gr kg cg bg)
  (hn:(x.n2::own kg).Nodup)(ho:∀k∈own kg,k∈own x.kg\/H.length<=k)(ht:∀k∈own kg,k<H'.length)(hf:∀k,k<H.length->k≠x.n2->k∉own x.kg->af H' k=af H k):
  aE H' i {x with kg:=kg,cg:=cg,bg:=bg} {B with got:=got}:=by
 have hnd:=b.nd;have jP:i<H.length:=b.lt i (by simp[BI.all])
 have hn1:x.n1<H.length:=b.lt x.n1 (by simp[BI.all])
 have hn2:x.n2<H.length:=b.lt x.n2 (by simp[BI.all])
 have sV:x.n3<H.length:=b.lt x.n3 (by simp[BI.all])
 have hw0:∀n∈x.wv.ak,n<H.length:=λn hn=>b.lt n (by simp[BI.all,hn])
 have G0:∀n∈own x.kd,n<H.length:=λn hn=>b.lt n (by simp[BI.all,hn])
 unfold BI.all at hnd;simp only[cy,aY,aL,dc,fA]at hnd;obtain⟨⟨a1,a2,a3,⟨a4,a5⟩,a6⟩,⟨b1,b2,⟨b3,b4⟩,b5⟩,⟨c1,⟨c2,c3⟩,c4⟩,⟨⟨d1,d2⟩,d3⟩,⟨e1,e2,e3⟩,f1,f2⟩:=hnd;have no:∀k,k<H.length->k∉own x.kg->k∉own kg:=λk hk hn hh=>(ho k hh).elim hn (by omega)
 have nw:∀k∈x.wv.ak,k∉own x.kg:=λk hk hh=>f2 k (.inl hk) k hh rfl
 have ng:∀k∈own x.kd,k∉own x.kg:=λk hk hh=>f2 k (.inr hk) k hh rfl
 rw[cy]at hn;refine⟨(hf i jP a2 a6).trans b.st,(hf x.n1 hn1 b1 b5).trans b.md,hm,(hf x.n3 sV (λe=>c1 e.symm) d3).trans b.mw,b.rd.mono λp hp y hy=>hy.frame λk hk=>?_,hr,b.rw,b.sw.frame λk hk=>hf k (hw0 k hk) (λe=>c2 (e▸hk)) (nw k hk),
  λk hk=>?_,?_,λk hk=>?_,b.sd,hs,b.s3⟩
 .have:k∈own x.kd:=dG.2 ⟨p,hp,hk⟩
  exact hf k (G0 k this) (λe=>c3 (e▸this)) (ng k this)
 .obtain⟨r,hr⟩:=b.sx k hk
  exact⟨r,(hf k (hw0 k hk) (λe=>c2 (e▸hk)) (nw k hk)).trans hr⟩
 .unfold BI.all
  simp only[cy,aY,aL,dc,fA];exact⟨⟨a1,a2,a3,⟨a4,a5⟩,no i jP a6⟩,⟨b1,b2,⟨b3,b4⟩,no _ hn1 b5⟩,⟨c1,⟨c2,c3⟩,hn.1⟩,⟨⟨d1,d2⟩,no _ sV d3⟩,⟨e1,e2,e3⟩,hn.2,λa ha c hc e=>by
   rcases ha with ha |ha
   .exact no a (hw0 a ha) (nw a ha) (e▸hc)
   .exact no a (G0 a ha) (ng a ha) (e▸hc)⟩
 .simp only[BI.all,aY,aL]at hk
  rcases hk with rfl |rfl |rfl |rfl |(hk |hk) |hk
  .omega
  .omega
  .omega
  .omega
  .have:=hw0 k hk;omega
  .have:=G0 k hk;omega
  .exact ht k hk
end
end Go.VS
namespace Go.VS
theorem zG{α:Type}{R R2:V->α->Prop}{h:List O}{n ck:Nat}{kv:List (D×V)}{bs:List Nat}{l:List (Int×α)}{t:Int}{z:D}{w:V}{y:α}(hm:af h n = .mp kv ck bs)(hn:n<h.length)(hr:cE R kv l)(hs:gr kv ck bs)
  (hw:w.known=true)(kW:w.ak=[])(hR:R2 w y)(hk:∀p∈kv,∀x,R p.2 x->R2 p.2 x):
  ∃(old:V)(st:Nat)(h1:List O)(kv':List (D×V))(uG:Nat)(bs':List Nat),pG [.i] h (.mp n) (.d (iK t)) z=some (.tu [old,.d (iK st)],h1)/\qM h1 (.mp n) (.d (iK st)) w=some (h.set n (.mp kv' uG bs')) /\
   cE R2 kv' (dw t y l)/\gr kv' uG bs'/\(own kv').Sublist (own kv):=by
 rcases cE.idx (t:=t) hr with⟨h1,_,h3⟩ |⟨j,v0,x,h1,h2,_,_,h5,_⟩
 .refine⟨.d z,ck,h.set n (.mp (kv++[(iK t,.d z)]) (ck+1) (bs++[ck])),kv++[(iK t,w)],ck+1,bs++[ck],?_,?_,h3 R2 w y hk hR,hs.push _,?_⟩
  .simp only[pG,hm,hr.ok,aU,h1]
  .have hi:(bs++[ck])[kv.length]?=some ck:=by rw[<-hs.len];simp
   have hst:=gr.push hs (iK t,w);simp only[qM,iu hn,hw,aU,hst.idx hi];simp
  .rw[pX,lW]
   simp only[kW,own,Ei,o9];exact pe _
 .obtain⟨hj,nK⟩:=dW.1 h2
  obtain⟨b,hb⟩:∃b,bs[j]?=some b:=⟨bs[j]'(by rw[hs.len];exact hj),by simp[hs.len,hj]⟩
  have mM:kv.set j (iK t,v0)=kv:=by rw[<-nK];simp
  refine⟨v0,b,h.set n (.mp kv ck bs),kv.set j (iK t,w),ck,bs,?_,?_,h5 R2 w y (λi p _ hp x hx=>hk p (dV hp) x hx) hR,hs.set j _,PX h2 kW⟩
  .simp only[pG,hm,hr.ok,aU,h1,hb,h2,eG,fy,mM]
  .simp only[qM,iu hn,hw,aU,hs.idx hb,h2,fy]
   simp
theorem zH{α:Type}{t:Int}:∀{l:List (Int×α)},bB l t=none->dI t l=l
 | [],_=>rfl
 |p::r,h=>by
  unfold bB at h;unfold dI;split at h
  .cases h
  .rename_i hp
   rw[aF hp,zH h]
section
variable {H:List O}{i:Nat}{x:BI}{B:BB}
theorem aE.Lc(b:aE H i x B):(x.n1::own x.kd).Nodup:=by
 have hnd:=b.nd;unfold BI.all at hnd;simp only[cy,aY,aL,dc,fA]at hnd;exact cy.2 ⟨hnd.2.1.2.2.1.2,hnd.2.2.2.2.1.2.1⟩
theorem aE.G1(b:aE H i x B):(x.n2::own x.kg).Nodup:=by
 have hnd:=b.nd;unfold BI.all at hnd;simp only[cy,aY,aL,dc,fA]at hnd;exact cy.2 ⟨hnd.2.2.1.2.2,hnd.2.2.2.2.2.1⟩
theorem aE.C7(b:aE H i x B):∀k∈own x.kd,k<H.length:=λk hk=>b.lt k (by simp[BI.all,hk])
theorem aE.w5(b:aE H i x B):∀k∈own x.kg,k<H.length:=λk hk=>b.lt k (by simp[BI.all,hk])
theorem aE.l1(b:aE H i x B):x.n1<H.length:=b.lt _ (by simp[BI.all])
theorem aE.l2(b:aE H i x B):x.n2<H.length:=b.lt _ (by simp[BI.all])
theorem aE.l3(b:aE H i x B):x.n3<H.length:=b.lt _ (by simp[BI.all])
theorem aE.li(b:aE H i x B):i<H.length:=b.lt _ (by simp[BI.all])
theorem aE.Ld(b:aE H i x B){kd:List (D×V)}{cd:Nat}{bd:List Nat}{due:List (Int×List Int)}(hr:cE (cF (H.set x.n1 (.mp kd cd bd))) kd due)(hs:gr kd cd bd)(ho:(own kd).Sublist (own x.kd)):
  aE (H.set x.n1 (.mp kd cd bd)) i {x with kd:=kd,cd:=cd,bd:=bd} {B with due:=due}:=by
 have hnd:=cy.1 b.Lc;exact b.RO (by simp) (iu b.l1) hr hs (cy.2 ⟨λh=>hnd.1 (ho.subset h),hnd.2.sublist ho⟩) (λk hk=>.inl (ho.subset hk)) (λk hk=>by simpa using b.C7 k (ho.subset hk)) (λk _ hk _=>eo hk)
theorem aE.Lg(b:aE H i x B){kg:List (D×V)}{cg:Nat}{bg:List Nat}{got:List (Int×List Int)}(hr:cE (cF (H.set x.n2 (.mp kg cg bg))) kg got)(hs:gr kg cg bg)(ho:(own kg).Sublist (own x.kg)):
  aE (H.set x.n2 (.mp kg cg bg)) i {x with kg:=kg,cg:=cg,bg:=bg} {B with got:=got}:=by
 have hnd:=cy.1 b.G1;exact b.Lb (by simp) (iu b.l2) hr hs (cy.2 ⟨λh=>hnd.1 (ho.subset h),hnd.2.sublist ho⟩) (λk hk=>.inl (ho.subset hk)) (λk hk=>by simpa using b.w5 k (ho.subset hk)) (λk _ hk _=>eo hk)
theorem aE.Lh(b:aE H i x B){o:O}:∀p∈x.kd,∀y,cF H p.2 y->cF (H.set x.n1 o) p.2 y:=λp hp y hy=>hy.frame λk hk=>eo fun(e:k=x.n1)=>(cy.1 b.Lc).1 (dG.2 ⟨p,hp,e▸hk⟩)
theorem aE.Li(b:aE H i x B){o:O}:∀p∈x.kg,∀y,cF H p.2 y->cF (H.set x.n2 o) p.2 y:=λp hp y hy=>hy.frame λk hk=>eo fun(e:k=x.n2)=>(cy.1 b.G1).1 (dG.2 ⟨p,hp,e▸hk⟩)
theorem aE.RP(b:aE H i x B)(lf:Lf H [i,x.n1,x.n2])(t:Int):
  ∃(old:V)(st:Nat)(h1 H':List O)(kd:List (D×V))(cd:Nat)(bd:List Nat),pG [.i] H (.mp x.n1) (.d (iK t)) (.sl 1 true [])=some (.tu [old,.d (iK st)],h1)/\qM h1 (.mp x.n1) (.d (iK st)) (.d (.sl 1 true []))=some H' /\
   aE H' i {x with kd:=kd,cd:=cd,bd:=bd} {B with due:=dw t [] B.due}/\Lf H' [i,x.n1,x.n2]/\H'.length=H.length:=by
 obtain⟨old,st,h1,kd,cd,bd,e1,e2,_,e4,e5⟩:=zG (R2:=cF H) (t:=t) (z:=.sl 1 true []) (w:=.d (.sl 1 true [])) (y:=[]) b.md b.l1 b.rd b.sd rfl rfl (.inl ⟨rfl,rfl⟩) (λ_ _ _ h=>h)
 obtain⟨_,_,_,uW,G2,uX,f1,f2,f3,f4,f5⟩:=zG (R2:=cF (H.set x.n1 (.mp kd cd bd))) (t:=t) (z:=.sl 1 true []) (w:=.d (.sl 1 true [])) (y:=[]) b.md b.l1 b.rd b.sd rfl rfl (.inl ⟨rfl,rfl⟩) (b.Lh);rw[e1]at f1;simp only[bF,gS,V.tu.injEq,List.cons.injEq,jd,V.d.injEq,D.i.injEq,qB]at f1;obtain⟨⟨_,f1⟩,G3⟩:=f1;subst G3;rw[<-f1,e2]at f2
 have:O.mp kd cd bd=O.mp uW G2 uX:=by
  have h2:=congrArg (λo=>o.map λh=>af h x.n1) f2
  simpa[iu b.l1]using h2
 simp only[O.mp.injEq]at this;obtain⟨rfl,rfl,rfl⟩:=this;exact⟨old,st,h1,_,kd,cd,bd,e1,e2,b.Ld f3 e4 e5,lf.set (.inr (by simp)),by simp⟩
theorem aE.RQ(b:aE H i x B)(lf:Lf H [i,x.n1,x.n2])(t:Int):
  ∃(old:V)(st:Nat)(h1 H':List O)(kg:List (D×V))(cg:Nat)(bg:List Nat),pG [.i] H (.mp x.n2) (.d (iK t)) (.sl 1 true [])=some (.tu [old,.d (iK st)],h1)/\qM h1 (.mp x.n2) (.d (iK st)) (.d (.sl 1 true []))=some H' /\
   aE H' i {x with kg:=kg,cg:=cg,bg:=bg} {B with got:=dw t [] B.got}/\Lf H' [i,x.n1,x.n2]/\H'.length=H.length:=by
 obtain⟨old,st,h1,kd,cd,bd,e1,e2,_,e4,e5⟩:=zG (R2:=cF H) (t:=t) (z:=.sl 1 true []) (w:=.d (.sl 1 true [])) (y:=[]) b.mg b.l2 b.rg b.sg rfl rfl (.inl ⟨rfl,rfl⟩) (λ_ _ _ h=>h)
 obtain⟨_,_,_,uW,G2,uX,f1,f2,f3,f4,f5⟩:=zG (R2:=cF (H.set x.n2 (.mp kd cd bd))) (t:=t) (z:=.sl 1 true []) (w:=.d (.sl 1 true [])) (y:=[]) b.mg b.l2 b.rg b.sg rfl rfl (.inl ⟨rfl,rfl⟩) (b.Li);rw[e1]at f1;simp only[bF,gS,V.tu.injEq,List.cons.injEq,jd,V.d.injEq,D.i.injEq,qB]at f1;obtain⟨⟨_,f1⟩,G3⟩:=f1;subst G3;rw[<-f1,e2]at f2
 have:O.mp kd cd bd=O.mp uW G2 uX:=by
  have h2:=congrArg (λo=>o.map λh=>af h x.n2) f2
  simpa[iu b.l2]using h2
 simp only[O.mp.injEq]at this;obtain⟨rfl,rfl,rfl⟩:=this;exact⟨old,st,h1,_,kd,cd,bd,e1,e2,b.Lg f3 e4 e5,lf.set (.inr (by simp)),by simp⟩
theorem aE.RR(b:aE H i x B)(lf:Lf H [i,x.n1,x.n2])(t:Int):
  ∃(H':List O)(kd:List (D×V))(bd:List Nat),pI [.i] H (.mp x.n1) (.d (iK t))=some H'/\aE H' i {x with kd:=kd,bd:=bd} {B with due:=dI t B.due}/\Lf H' [i,x.n1,x.n2]/\H'.length=H.length:=by
 obtain⟨kd,bd,e1,_,e3,e4⟩:=BG (R2:=cF H) (t:=t) b.md b.rd b.sd (λ_ _ _ h=>h) zH
 obtain⟨uW,uX,f1,f2,_,_⟩:=BG (R2:=cF (H.set x.n1 (.mp kd x.cd bd))) (t:=t) b.md b.rd b.sd b.Lh zH;rw[e1]at f1
 have:O.mp kd x.cd bd=O.mp uW x.cd uX:=by
  have h2:=congrArg (λo=>o.map λh=>af h x.n1) f1
  simpa[iu b.l1]using h2
 simp only[O.mp.injEq,qB]at this;obtain⟨rfl,rfl⟩:=this;exact⟨_,kd,bd,e1,b.Ld f2 e3 e4,lf.set (.inr (by simp)),by simp⟩
theorem aE.RS(b:aE H i x B)(lf:Lf H [i,x.n1,x.n2])(t:Int):
  ∃(H':List O)(kg:List (D×V))(bg:List Nat),pI [.i] H (.mp x.n2) (.d (iK t))=some H'/\aE H' i {x with kg:=kg,bg:=bg} {B with got:=dI t B.got}/\Lf H' [i,x.n1,x.n2]/\H'.length=H.length:=by
 obtain⟨kd,bd,e1,_,e3,e4⟩:=BG (R2:=cF H) (t:=t) b.mg b.rg b.sg (λ_ _ _ h=>h) zH
 obtain⟨uW,uX,f1,f2,_,_⟩:=BG (R2:=cF (H.set x.n2 (.mp kd x.cg bd))) (t:=t) b.mg b.rg b.sg b.Li zH;rw[e1]at f1
 have:O.mp kd x.cg bd=O.mp uW x.cg uX:=by
  have h2:=congrArg (λo=>o.map λh=>af h x.n2) f1
  simpa[iu b.l2]using h2
 simp only[O.mp.injEq,qB]at this;obtain⟨rfl,rfl⟩:=this;exact⟨_,kd,bd,e1,b.Lg f2 e3 e4,lf.set (.inr (by simp)),by simp⟩
theorem aE.Lj(b:aE H i x B)(lf:Lf H [i,x.n1,x.n2])(hsz:∀q∈B.got,q.2.length<=1000000)(t v:Int):
  ∃(old v':V)(h2 H':List O)(kg:List (D×V))(cg:Nat)(bg:List Nat),eS [.i] H (.mp x.n2) (.d (iK t)) (.sl 1 true []) false=some old/\fW H 1 old (.d (.sl 1 false [[iK v]]))=some (v',h2)/\af h2 i=af H i /\
   kJ [.i] h2 (.mp x.n2) (.d (iK t)) v'=some H'/\aE H' i {x with kg:=kg,cg:=cg,bg:=bg} {B with got:=dw t ((bB B.got t).getD []++[v]) B.got}/\Lf H' [i,x.n1,x.n2]/\H.length<=H'.length:=by
 obtain⟨old,v',h2,kg,cg,bg,e1,e2,e3,e4,e5,e6,e7,e8,e9,Cb⟩:=PV (t:=t) (v:=v) b.mg b.l2 b.rg b.sg b.G1 b.w5 hsz;have hnd:=b.nd;unfold BI.all at hnd;simp only[cy,aY,aL,dc,fA]at hnd;have fM:=b.l2;refine⟨old,v',h2,_,kg,cg,bg,e1,e2,?_,e4,b.Lb (by rw[nh];omega) (iu (by omega)) e5 e6 e8 (λk hk=>(e9 k hk).elim .inl λe=>.inr (by omega)) (λk hk=>?_) Cb,(La e2 lf).set (.inr (by simp)),by rw[nh];omega⟩
 .have:=Cb i b.li hnd.1.2.1 hnd.1.2.2.2.2
  rwa [eo hnd.1.2.1]at this
 .rw[nh]
  rcases e9 k hk with h |h
  .have:=b.w5 k h;omega
  .omega
end
end Go.VS
namespace Go.VS
section
variable {H H':List O}{i:Nat}{x:BI}{B:BB}
theorem aE.G4(b:aE H i x B){wv:V}{waiting:List Int}(hl:H.length<=H'.length)(hst:af H' i = .cS 4 [[.mp x.n1,.mp x.n2,.mp x.n3,wv]])(zI:cF H' wv waiting)(RT:∀n∈wv.ak,∃rows,af H' n = .an 1 true rows)
  (ho:∀k∈wv.ak,k∈x.wv.ak\/H.length<=k)(ht:∀k∈wv.ak,k<H'.length)(hf:∀k,k<H.length->k≠i->k∉x.wv.ak->af H' k=af H k):
  aE H' i {x with wv:=wv} {B with waiting:=waiting}:=by
 have hnd:=b.nd;have gV:=b.l1;have fM:=b.l2;have Ll:=b.l3;have w6:=b.li;unfold BI.all at hnd;simp only[cy,aY,aL,dc,fA]at hnd;obtain⟨⟨a1,a2,a3,⟨a4,a5⟩,a6⟩,⟨b1,b2,⟨b3,b4⟩,b5⟩,⟨c1,⟨c2,c3⟩,c4⟩,⟨⟨d1,d2⟩,d3⟩,⟨e1,e2,e3⟩,f1,f2⟩:=hnd;have no:∀k,k<H.length->k∉x.wv.ak->k∉wv.ak:=λk hk hn hh=>(ho k hh).elim hn (by omega)
 have nd:∀k∈own x.kd,k∉x.wv.ak:=λk hk hh=>e3 k hh k hk rfl
 have ng:∀k∈own x.kg,k∉x.wv.ak:=λk hk hh=>f2 k (.inl hh) k hk rfl
 refine⟨hst,(hf _ gV (λe=>a1 e.symm) b3).trans b.md,(hf _ fM (λe=>a2 e.symm) c2).trans b.mg,(hf _ Ll (λe=>a3 e.symm) d1).trans b.mw,b.rd.mono λp hp y hy=>hy.frame λk hk=>?_,b.rg.mono λp hp y hy=>hy.frame λk hk=>?_,b.rw,zI,RT,?_,λk hk=>?_,b.sd,b.sg,b.s3⟩
 .have:k∈own x.kd:=dG.2 ⟨p,hp,hk⟩
  exact hf k (b.C7 k this) (λe=>a5 (e▸this)) (nd k this)
 .have:k∈own x.kg:=dG.2 ⟨p,hp,hk⟩
  exact hf k (b.w5 k this) (λe=>a6 (e▸this)) (ng k this)
 .unfold BI.all
  simp only[cy,aY,aL,dc,fA];exact⟨⟨a1,a2,a3,⟨no i w6 a4,a5⟩,a6⟩,⟨b1,b2,⟨no _ gV b3,b4⟩,b5⟩,⟨c1,⟨no _ fM c2,c3⟩,c4⟩,⟨⟨no _ Ll d1,d2⟩,d3⟩,⟨zI.nd.1,e2,λa ha c hc e=>no c (b.C7 c hc) (nd c hc) (e▸ha)⟩,f1,λa ha c hc e=>by
   rcases ha with ha |ha
   .exact no c (b.w5 c hc) (ng c hc) (e▸ha)
   .exact f2 a (.inr ha) c hc e⟩
 .simp only[BI.all,aY,aL]at hk
  rcases hk with rfl |rfl |rfl |rfl |(hk |hk) |hk
  .omega
  .omega
  .omega
  .omega
  .exact ht k hk
  .have:=b.C7 k hk;omega
  .have:=b.w5 k hk;omega
theorem G5{h:List O}{i:Nat}{a b c d w:V}(hi:af h i = .cS 4 [[a,b,c,d]])(hw:w.known=true)(hc:w.cells=[w]):pg h 1 (.loc i 0 3) w=some (h.set i (.cS 4 [[a,b,c,w]])):=by
 simp[pg,hi,hw,hc,aS,-V.cells,-V.known]
theorem cF.cells{h:List O}{v:V}{l:List Int}(hs:cF h v l):v.cells=[v]/\v.known=true:=by
 rcases hs with⟨rfl,_⟩ |⟨n,off,ex,rows,rfl,_⟩<;>exact⟨rfl,rfl⟩
theorem aE.push(b:aE H i x B)(lf:Lf H [i,x.n1,x.n2])(hsz:B.waiting.length<=1000000)(t:Int):
  ∃(w:V)(h2 H':List O),fW H 1 x.wv (.d (.sl 1 false [[iK t]]))=some (w,h2)/\af h2 i=af H i/\pg h2 1 (.loc i 0 3) w=some H'/\aE H' i {x with wv:=w} {B with waiting:=B.waiting++[t]}/\Lf H' [i,x.n1,x.n2]/\H.length<=H'.length:=by
 have G6:∀n∈x.wv.ak,n<H.length:=λn hn=>b.lt n (by simp[BI.all,hn])
 obtain⟨w,h2,a1,a2,a3,a4,a5⟩:=b.sw.app G6 hsz t;have w6:=b.li;have G7:i∉x.wv.ak:=by
  have hnd:=b.nd;unfold BI.all at hnd;simp only[cy,aY,aL,dc]at hnd;exact hnd.1.2.2.2.1.1
 have hi2:af h2 i=af H i:=a5 i w6 G7;have zJ:∃rows,af h2 H.length = .an 1 true rows:=by
  rcases b.sw with⟨hv,hl⟩ |⟨n,off,ex,rows,hv,g2,g3,g4⟩
  .rw[hv]at a1
   simp only[fW,kI,aU,fT,lE]at a1;rw[aF (by decide),aN ⟨trivial,by decide⟩]at a1
   simp only[bF,gS]at a1;rw[<-a1.2];exact⟨_,q9⟩
  .obtain⟨r2,gd⟩:=b.sx n (by rw[hv];simp[V.ak])
   rw[g2]at gd;simp only[O.an.injEq,qB]at gd;obtain⟨rfl,_⟩:=gd;rw[hv]at a1;have ht:(rows.drop off).take B.waiting.length=rows.drop off:=fU (by simp;omega)
   simp only[fW,kI,aU,g2,fT,lE]at a1;rw[aN ⟨trivial,by omega⟩,aF (by decide),aF (by omega),aN ⟨.inr g3,by unfold room;omega⟩,ht]at a1
   simp only[bF,gS]at a1;rw[<-a1.2]
   have:(H.set n .dead).length=H.length:=by simp
   rw[<-this];exact⟨_,q9⟩
 have e:=G5 (hi2.trans b.st) a2.cells.2 a2.cells.1;refine⟨w,h2,_,a1,hi2,e,b.G4 (by rw[nh];omega) (iu (by omega)) (a2.frame λk hk=>eo ?_) (λn hn=>?_) (λk hk=>.inr ?_) (λk hk=>?_) (λk hk hki C8=>by rw[eo hki];exact a5 k hk C8),(La a1 lf).set (.inr (by simp)),by rw[nh];omega⟩
 .rw[a4]at hk;simp at hk;omega
 .rw[a4]at hn;simp at hn;subst hn;rw[eo (by omega)];exact zJ
 .rw[a4]at hk;simp at hk;omega
 .rw[a4]at hk;simp at hk;rw[nh];omega
theorem aE.Lm(b:aE H i x B):iT H .sl x.wv.wk=some (.d (.i .i64 (B.waiting.length:Nat))):=by
 rcases b.sw with⟨hv,hl⟩ |⟨n,off,ex,rows,hv,g2,g3,g4⟩
 .rw[hv,hl];rfl
 .rw[hv]
  simp[iT,V.wk,nq,g2]
theorem aE.tail(b:aE H i x B)(lf:Lf H [i,x.n1,x.n2]){t:Int}{q:List Int}(hw:B.waiting=t::q):
  ∃(n off:Nat)(rows:List (List D))(w:V)(h1 H':List O),fD 1 x.wv (.d (.i .i64 0)) H=some (.loc n off 0)/\af H n = .an 1 true rows/\rows[off]?=some [iK t] /\
   pz H 1 x.wv (some 1) (some (mF x.wv))=some (w,h1)/\af h1 i=af H i/\pg h1 1 (.loc i 0 3) w=some H'/\aE H' i {x with wv:=w} {B with waiting:=q}/\Lf H' [i,x.n1,x.n2]/\H.length<=H'.length:=by
 have G6:∀n∈x.wv.ak,n<H.length:=λn hn=>b.lt n (by simp[BI.all,hn])
 have w6:=b.li;have G7:i∉x.wv.ak:=by
  have hnd:=b.nd;unfold BI.all at hnd;simp only[cy,aY,aL,dc]at hnd;exact hnd.1.2.2.2.1.1
 have zI:=b.sw;rw[hw]at zI;rcases zI with⟨_,hl⟩ |⟨n,off,ex,rows,hv,g2,g3,g4⟩
 .cases hl
 obtain⟨r2,gd⟩:=b.sx n (by rw[hv];simp[V.ak])
 rw[g2]at gd;simp only[O.an.injEq,qB]at gd;obtain⟨rfl,_⟩:=gd;simp only[fT]at g3 hv;have w7:n∈x.wv.ak:=by rw[hv];simp[V.ak]
 have gF:=G6 n w7;have hni:i≠n:=λe=>G7 (e▸w7)
 have Ln:rows[off]?=some [iK t]:=by
  have h1:=congrArg (λl=>l[0]?) g4
  simpa[jI]using h1
 have RU:rows.drop (off+1)=q.map λx=>[iK x]:=by
  have h1:=congrArg (List.drop 1) g4;rw[AK]at h1;simpa using h1
 have C9:fD 1 x.wv (.d (.i .i64 0)) H=some (.loc n off 0):=by rw[hv];simp[fD,g2]
 have hlen:mF x.wv=((q.length+1:Nat):Int):=by rw[hv];rfl
 by_cases hq:q=[]
 .subst hq
  have es:pz H 1 x.wv (some 1) (some (mF x.wv))=some (.aJ H.length 0 0,H.set n .dead++[.an 1 true []]):=by
   rw[hlen,hv];simp only[pz,g2];rw[aN (by simp at g3⊢;omega),aF (by simp)]
   simp
  have e1:af (H.set n .dead++[O.an 1 true []]) i=af H i:=by rw[ke (by simpa using w6),eo hni]
  have e:=G5 (w:=.aJ H.length 0 0) (e1.trans b.st) rfl rfl;have hnew:af (H.set n .dead++[O.an 1 true []]) H.length = .an 1 true []:=by
   have:(H.set n O.dead).length=H.length:=by simp
   rw[<-this];exact q9
  refine⟨n,off,rows,_,_,_,C9,g2,Ln,es,e1,e,b.G4 (by simp) (iu (by simp;omega)) (.inr ⟨H.length,0,true,[],rfl,by rw[eo (by omega)];exact hnew,rfl,rfl⟩) (λk hk=>?_) (λk hk=>.inr ?_) (λk hk=>?_) (λk hk hki C8=>?_),((lf.set (.inl rfl)).app rfl).set (.inr (by simp)),by simp⟩
  .simp[V.ak]at hk;subst hk;exact⟨[],by rw[eo (by omega)];exact hnew⟩
  .simp[V.ak]at hk;omega
  .simp[V.ak]at hk;simp;omega
  .rw[eo hki,ke (by simpa using hk),eo fun(e:k=n)=>C8 (by rw[e];exact w7)]
 .have FI:0<q.length:=vL.2 hq
  have es:pz H 1 x.wv (some 1) (some (mF x.wv))=some (.aJ n (off+1) q.length,H):=by
   rw[hlen,hv];simp only[pz,g2];rw[aN ⟨trivial,by omega,by omega,by omega⟩,aN (.inr (by omega))]
   have:(((q.length+1:Nat):Int) - 1).toNat=q.length:=by omega
   rw[this];rfl
  have e:=G5 (w:=.aJ n (off+1) q.length) b.st rfl rfl;refine⟨n,off,rows,_,_,_,C9,g2,Ln,es,rfl,e,b.G4 (by simp) (iu w6) (.inr ⟨n,off+1,true,rows,rfl,by rw[eo (tL hni)];exact g2,by omega,RU⟩) (λk hk=>?_) (λk hk=>.inl ?_) (λk hk=>?_) (λk hk hki C8=>eo hki),lf.set (.inr (by simp)),by simp⟩
  .simp[V.ak]at hk;subst hk;exact⟨rows,by rw[eo (tL hni)];exact g2⟩
  .simp[V.ak]at hk;subst hk;exact w7
  .simp[V.ak]at hk;subst hk;simpa using gF
theorem aE.RW(b:aE H i x B)(lf:Lf H [i,x.n1,x.n2])(t v:Int):
  ∃(old:V)(st:Nat)(h1 H':List O)(kw:List (D×V))(cw:Nat)(bw:List Nat),pG [.i] H (.mp x.n3) (.d (iK t)) (.i .i64 0)=some (.tu [old,.d (iK st)],h1)/\qM h1 (.mp x.n3) (.d (iK st)) (.d (iK v))=some H' /\
   aE H' i {x with kw:=kw,cw:=cw,bw:=bw} {B with dF:=dw t v B.dF}/\Lf H' [i,x.n1,x.n2]/\H'.length=H.length:=by
 obtain⟨old,st,h1,kw,cw,bw,e1,e2,e3,e4,_⟩:=zG (R2:=BR) (t:=t) (z:=.i .i64 0) (w:=.d (iK v)) (y:=v) b.mw b.l3 b.rw b.s3 rfl rfl rfl (λ_ _ _ h=>h)
 have hnd:=b.nd;unfold BI.all at hnd;simp only[cy,aY,aL,dc,fA]at hnd;obtain⟨⟨a1,a2,a3,⟨a4,a5⟩,a6⟩,⟨b1,b2,⟨b3,b4⟩,b5⟩,⟨c1,⟨c2,c3⟩,c4⟩,⟨⟨d1,d2⟩,d3⟩,_⟩:=hnd;have hf:∀k,k≠x.n3->af (H.set x.n3 (.mp kw cw bw)) k=af H k:=λk hk=>eo hk
 refine⟨old,st,h1,_,kw,cw,bw,e1,e2,⟨(hf i a3).trans b.st,(hf _ b2).trans b.md,(hf _ c1).trans b.mg,iu b.l3,b.rd.mono λp hp y hy=>hy.frame λk hk=>hf k λe=>d2 (dG.2 ⟨p,hp,e▸hk⟩),b.rg.mono λp hp y hy=>hy.frame λk hk=>hf k λe=>d3 (dG.2 ⟨p,hp,e▸hk⟩),e3,
  b.sw.frame λk hk=>hf k λe=>d1 (e▸hk),λn hn=>?_,b.nd,λn hn=>by have:=b.lt n hn;simpa using this,b.sd,b.sg,e4⟩,λn hn=>?_,by simp⟩
 .obtain⟨r,hr⟩:=b.sx n hn
  exact⟨r,(hf n λe=>d1 (e▸hn)).trans hr⟩
 .by_cases hk:n=x.n3
  .subst hk
   rw[iu b.l3];have hl:∀{kv:List (D×V)}{l:List (Int×Int)},cE BR kv l->own kv=[]:=by
    intro kv;induction kv with
    |nil=>intro l _;rfl
    |cons p kv ih =>
     intro l hl;cases l with
     |nil=>exact hl.elim
     |cons q l=>rw[lW,ih hl.2.2,show p.2 = .d (iK q.2)from hl.2.1];rfl
   exact hl e3
  .rw[hf n hk];exact lf n hn
end
end Go.VS
namespace Go.VS
structure Sz(N:Nat)(B:BB):Prop where
 d:B.due.length<=N
 g:B.got.length<=N
 dl:∀e∈B.due,e.2.length<=N
 gl:∀e∈B.got,e.2.length<=N
 w:B.waiting.length<=N
 nd:(B.due.map (·.1)).Nodup
theorem Sz.mono{N M:Nat}{B:BB}(h:Sz N B)(hM:N<=M):Sz M B:=⟨by have:=h.d;omega,by have:=h.g;omega,λe he=>by have:=h.dl e he;omega,λe he=>by have:=h.gl e he;omega,by have:=h.w;omega,h.nd⟩
section
variable {α:Type}{t:Int}{y:α}
theorem w8:∀{l:List (Int×α)},(dw t y l).length<=l.length+1
 | []=>by simp[dw]
 |p::r=>by
  have:=w8 (l:=r);unfold dw;split<;>simp<;>omega
theorem uY{e:Int×α}:∀{l:List (Int×α)},e∈dw t y l->e=(t,y)\/e∈l
 | [],h=>by simpa[dw]using h
 |p::r,h=>by
  unfold dw at h;split at h
  .rcases aY.1 h with h |h
   .exact .inl h
   .exact .inr (vD _ h)
  .rcases aY.1 h with h |h
   .exact .inr (by simp[h])
   .exact(uY h).imp id (vD _)
theorem zK{z:α}:∀{l:List (Int×α)},bB l t=some z->∃e∈l,e.2=z
 | [],h=>by simp[bB]at h
 |p::r,h=>by
  unfold bB at h;split at h
  .exact⟨p,by simp,by simpa using h⟩
  .obtain⟨e,he,h2⟩:=zK h
   exact⟨e,vD _ he,h2⟩
theorem w9:∀{l:List (Int×α)},(l.map (·.1)).Nodup->((dw t y l).map (·.1)).Nodup:=by
 have hm:∀{l:List (Int×α)}{k:Int},k∈(dw t y l).map (·.1)->k=t\/k∈l.map (·.1):=λh=>by
  obtain⟨e,he,rfl⟩:=dz.1 h;rcases uY he with rfl |he
  .exact .inl rfl
  .exact .inr (oZ he)
 intro l;induction l with
 |nil=>intro _;simp[dw]
 |cons p r ih =>
  intro h;rw[cR,cy]at h;unfold dw;split
  .rename_i hp
   rw[cR,cy];exact⟨by rw[show(t,y).1=t from rfl,<-hp];exact h.1,h.2⟩
  .rename_i hp
   rw[cR,cy];exact⟨λhh=>(hm hh).elim hp h.1,ih h.2⟩
theorem oK:∀{l:List (Int×α)},(dI t l).Sublist l
 | []=>pe _
 |p::r=>by
  unfold dI;split
  .exact yd _ _
  .exact(oK (l:=r)).cons_cons _
end
theorem Sz.put{N:Nat}{B:BB}(h:Sz N B)(t v:Int):Sz (N+1) {B with got:=dw t ((bB B.got t).getD []++[v]) B.got}:=by
 refine⟨by have:=h.d;simp only;omega,by have:=h.g;have:=w8 (t:=t) (y:=(bB B.got t).getD []++[v]) (l:=B.got);simp only;omega,λe he=>by have:=h.dl e he;omega,λe he=>?_,by have:=h.w;simp only;omega,h.nd⟩
 rcases uY he with rfl |he
 .cases hg:bB B.got t with
  |none=>simp
  |some z =>
   obtain⟨e,he,rfl⟩:=zK hg;have:=h.gl e he;simp;omega
 .have:=h.gl e he;omega
theorem Sz.cx{N:Nat}{B:BB}(h:Sz N B)(v:Int):Sz (N+1) (B.cx v):=by
 refine⟨by have:=h.d;simp[BB.cx];omega,by have:=h.g;simp only[BB.cx];omega,λe he=>?_,λe he=>by have:=h.gl e he;omega,by have:=h.w;simp only[BB.cx];omega,by have:=h.nd;simp only[BB.cx,x6];exact this⟩
 obtain⟨e',he',rfl⟩:=dz.1 he;have:=h.dl e' he';simp;omega
theorem Sz.wait{N:Nat}{B:BB}(h:Sz N B){q:List Int}(hq:q.length<=N):Sz N {B with waiting:=q}:=⟨h.d,h.g,h.dl,h.gl,hq,h.nd⟩
section
variable {H:List O}{i m:Nat}{x:BI}{B:BB}
theorem aE.zL(b:aE H i x B):(x.all i).length<=5+B.due.length+B.got.length:=by
 have h1:=b.rd.wK;have h2:=b.rg.wK;have h3:x.wv.ak.length<=1:=by
  rcases b.sw with⟨e,_⟩ |⟨n,off,ex,rows,e,_⟩<;>rw[e]<;>simp[V.ak]
 simp only[BI.all,fT,eC];omega
theorem aE.want(b:aE H i x B)(t:Int):eS [.i] H (.mp x.n3) (.d (iK t)) (.i .i64 0) false=some (.d (iK ((bB B.dF t).getD 0))):=by
 rcases Fh (t:=t) (z:=.i .i64 0) b.mw b.rw with⟨h1,_,h3⟩ |⟨v,y,h1,h2,_,_,h5⟩
 .rw[h3,h1];rfl
 .rw[h5,h1,show v = .d (iK y)from h2];rfl
theorem aE.head(b:aE H i x B)(lf:Lf H [i,x.n1,x.n2])(hsz:B.due.length<=300/\B.got.length<=300)(hm:m<=H.length)(hi:i<m){live:List Nat}{E:List (Nat×V)}(hE:∀n∈bC E,n<m)(hc:m+(bC E).length<=300):
  ∃H' x',(∀env,cO live env=E->canon m live env H=some (E,H'))/\aE H' i x' B/\Lf H' [i,x'.n1,x'.n2]/\m<=H'.length:=by
 obtain⟨L,c1,c2,c3,_,_,_,_,c8,_,kX⟩:=b.cut (ex:=[]) lf (by simp) (by simp) hsz hm (roots:=bC E) (λn hn=>by have:=hE n hn;omega) (.inr hi) hc
 have hid:∀k,k<m->L.idxOf k=k:=λk hk=>wM c2 c3 hk
 rw[hid i hi]at c8 kX;have hne:H≠[]:=λe=>by have:=b.li;rw[e]at this;simp at this
 refine⟨sub H L,x.av (L.idxOf ·),λenv he=>?_,c8,by simpa[BI.av]using kX,by rw[iy];exact y4 c3⟩
 rw[B8 he hne c1]
 have:∀e:List (Nat×V),(∀n∈bC e,n<m)->eE (L.idxOf ·) e=e:=by
  intro e;induction e with
  |nil=>intro _;rfl
  |cons p e ih =>
   intro h;have ih:=ih λn hn=>h n (by simp[bC,hn])
   simp only[eE,cR]at ih⊢;rw[ih,V.nL p.2 λn hn=>hid n (h n (by simp[bC,hn]))]
 rw[this E hE]
end
end Go.VS
namespace Go.VS
theorem HM{h:List O}{n k:Nat}:af (bS h n) k=af h k\/(k=n/\∃es ex rows,af h k = .an es ex rows/\af (bS h n) k = .an es false rows):=by
 unfold bS;cases hn:af h n with
 |an es ex rows =>
  simp only;by_cases hk:k=n
  .subst hk
   by_cases hl:k<h.length
   .exact .inr ⟨rfl,es,ex,rows,hn,iu hl⟩
   .rw[tc (by omega)]at hn;cases hn
  .exact .inl (eo hk)
 |_=>exact .inl rfl
theorem Mh{h:List O}{n:Nat}:(bS h n).length=h.length:=by
 unfold bS;split<;>simp
theorem cF.fr{h:List O}{n:Nat}{v:V}{l:List Int}(hs:cF h v l):cF (bS h n) v l:=by
 rcases hs with h1 |⟨k,off,ex,rows,rfl,h2,h3,h4⟩
 .exact .inl h1
 .rcases HM (h:=h) (n:=n) (k:=k)with e |⟨_,es,ex',dN,e1,e2⟩
  .exact .inr ⟨k,off,ex,rows,rfl,e.trans h2,h3,h4⟩
  .rw[h2]at e1
   simp only[O.an.injEq]at e1;obtain⟨rfl,rfl,rfl⟩:=e1;exact .inr ⟨k,off,false,rows,rfl,e2,h3,h4⟩
theorem Lf.fr{h:List O}{l:List Nat}(hl:Lf h l){n:Nat}:Lf (bS h n) l:=λk hk=>by
 rcases HM (h:=h) (n:=n) (k:=k)with e |⟨_,es,ex,rows,e1,e2⟩
 .rw[e];exact hl k hk
 .rw[e2];rfl
theorem cF.b9{h:List O}{v:V}{l:List Int}(hs:cF h v l):∃nl,VS.b9 h v=some (.sl 1 nl (l.map λx=>[iK x])):=by
 rcases hs with⟨rfl,rfl⟩ |⟨k,off,ex,rows,rfl,h2,h3,h4⟩
 .exact⟨true,rfl⟩
 .refine⟨false,?_⟩
  simp only[VS.b9,h2];rw[aN (by omega),h4,fU (by simp)]
theorem aE.fr{H:List O}{i:Nat}{x:BI}{B:BB}(b:aE H i x B){n:Nat}(hn:n∈own x.kg):aE (bS H n) i x B:=by
 have hnd:=b.nd;unfold BI.all at hnd;simp only[cy,aY,aL,dc,fA]at hnd;obtain⟨⟨a1,a2,a3,⟨a4,a5⟩,a6⟩,⟨b1,b2,⟨b3,b4⟩,b5⟩,⟨c1,⟨c2,c3⟩,c4⟩,⟨⟨d1,d2⟩,d3⟩,⟨e1,e2,e3⟩,f1,f2⟩:=hnd;have no:∀k,k∉own x.kg->af (bS H n) k=af H k:=λk hk=>by
  rcases HM (h:=H) (n:=n) (k:=k)with e |⟨e,_⟩
  .exact e
  .exact absurd hn (e▸hk)
 exact⟨(no i a6).trans b.st,(no x.n1 b5).trans b.md,(no x.n2 c4).trans b.mg,(no x.n3 d3).trans b.mw,b.rd.mono λp hp y hy=>hy.fr,b.rg.mono λp hp y hy=>hy.fr,b.rw,b.sw.fr,
  λk hk=>by
   obtain⟨r,hr⟩:=b.sx k hk;exact⟨r,(no k λhh=>f2 k (.inl hk) k hh rfl).trans hr⟩,b.nd,λk hk=>by rw[Mh];exact b.lt k hk,b.sd,b.sg,b.s3⟩
theorem aE.due{H:List O}{i:Nat}{x:BI}{B:BB}(b:aE H i x B){t:Int}{l:List Int}(h:bB B.due t=some l):∃v,eS [.i] H (.mp x.n1) (.d (iK t)) (.sl 1 true []) true=some (.tu [v,.d (.b true)])/\cF H v l:=by
 rcases Fh (t:=t) (z:=.sl 1 true []) b.md b.rd with⟨h1,_⟩ |⟨v,y,h1,h2,_,h4,_⟩
 .rw[h]at h1;cases h1
 .rw[h]at h1
  cases h1;exact⟨v,h4,h2⟩
theorem aE.TW{H:List O}{i:Nat}{x:BI}{B:BB}(b:aE H i x B)(lf:Lf H [i,x.n1,x.n2])(t:Int):∃nl H',kK ((eS [.i] H (.mp x.n2) (.d (iK t)) (.sl 1 true []) false).map λv=>(v,H))=some (.d (.sl 1 nl (((bB B.got t).getD []).map λx=>[iK x])),H') /\
  aE H' i x B/\Lf H' [i,x.n1,x.n2]/\H'.length=H.length/\(∀v l,cF H v l->cF H' v l):=by
 rcases Fh (t:=t) (z:=.sl 1 true []) b.mg b.rg with⟨h1,_,h3⟩ |⟨v,y,h1,h2,h3,_,h5⟩
 .refine⟨true,H,?_,b,lf,rfl,λ_ _ h=>h⟩
  rw[h3,h1];rfl
 .obtain⟨nl,hd⟩:=h2.b9
  have hD:kK ((eS [.i] H (.mp x.n2) (.d (iK t)) (.sl 1 true []) false).map λv=>(v,H))=some (.d (.sl 1 nl (((bB B.got t).getD []).map λx=>[iK x])),bO H v.ak):=by
   rw[h5,h1];simp only[kK,fy,eG,gk,hd,jY]
  rcases h2 with⟨rfl,_⟩ |⟨k,off,ex,rows,rfl,_,_,_⟩
  .exact⟨nl,_,hD,b,lf,rfl,λ_ _ h=>h⟩
  .exact⟨nl,_,hD,b.fr (h3 k (by simp[V.ak])),lf.fr,Mh,λ_ _ h=>h.fr⟩
def nY(es:Nat)(z:List D)(fo fr:Nat):C :=
 ((.seq (.bG [.op (.mv 6 (.k (.sl es true [])))])
 ((
  .seq (.bG [.op (.mv 10 (.t 0)),
  .op (.mv 11 (.t 1)),
  .op (.sl 12 (.t 10) (some (.t 11)) none es)])
 ((
  .seq (.bG [.op (.mv 13 (.t 2)),
  .op (.len 14 (.t 13) .sl),
  .op (.mv 7 (.t 14))])
 ((
  .seq ((.seq (.bG [.op (.mv 15 (.t 7)),
  .op (.bin 16 .eql (.t 15) (.k (.i .i64 0)))])
 (.ite (.t 16)
  ((
   .seq (.bG [.op (.mv 17 (.t 0)),
   .op (.mv 6 (.t 17))])
  (.ret)))
  (.skip))))
 ((
  .seq (.bG [.op (.mv 18 (.t 0)),
  .op (.len 19 (.t 18) .sl),
  .op (.mv 8 (.t 19))])
 ((
  .seq ((.seq (.bG [.op (.mv 20 (.t 1)),
  .op (.mv 21 (.t 8)),
  .op (.bin 22 .eql (.t 20) (.t 21))])
 (.ite (.t 22)
  ((
   .seq (.bG [.op (.mv 23 (.t 0)),
   .op (.mv 24 (.t 2)),
   .op (.app 25 (.t 23) (.t 24) es),
   .op (.mv 6 (.t 25))])
  (.ret)))
  (.skip))))
 ((
  .seq ((.seq (.bG [.op (.mv 26 (.t 8)),
  .op (.mv 27 (.t 7)),
  .op (.bin 28 .add (.t 26) (.t 27)),
  .op (.mv 29 (.t 0)),
  .op (.cap 30 (.t 29)),
  .op (.bin 31 .gtr (.t 28) (.t 30))])
 (.ite (.t 31)
  ((
   .seq (.bG [.op (.mv 32 (.t 0)),
   .op (.mv 33 (.t 1)),
   .op (.sl 34 (.t 32) none (some (.t 33)) es),
   .op (.mv 35 (.t 8)),
   .op (.mv 36 (.t 7)),
   .op (.bin 37 .add (.t 35) (.t 36)),
   .op (.mv 38 (.t 1)),
   .op (.bin 39 .sub (.t 37) (.t 38)),
   .op (.mC 40 (.t 34) (.t 39) es z),
   .op (.mv 9 (.t 40))])
  ((
   .seq (.bG [.op (.mv 41 (.t 9)),
   .op (.mv 42 (.t 1)),
   .op (.sl 43 (.t 41) (some (.t 42)) none es),
   .op (.mv 44 (.t 2)),
   .op (.copy (some 45) (.t 43) (.t 44) es)])
  ((
   .seq (.jk [] [0,1,2,3,4,5,6,7,8] [.op (.mv 46 (.t 9)),
   .op (.mv 47 (.t 1)),
   .op (.mv 48 (.t 7)),
   .op (.bin 49 .add (.t 47) (.t 48)),
   .op (.sl 50 (.t 46) (some (.t 49)) none es),
   .op (.mv 51 (.t 0)),
   .op (.mv 52 (.t 1)),
   .op (.sl 53 (.t 51) (some (.t 52)) none es),
   .op (.copy (some 54) (.t 50) (.t 53) es)])
  ((
   .seq (.bG [.op (.mv 55 (.t 9)),
   .op (.mv 6 (.t 55))])
  (.ret)))))))))
  (.skip))))
 ((
  .seq (.bG [.op (.mv 56 (.t 0)),
  .op (.mv 57 (.t 8)),
  .op (.mv 58 (.t 7)),
  .op (.bin 59 .add (.t 57) (.t 58)),
  .op (.sl 60 (.t 56) none (some (.t 59)) es),
  .op (.mv 0 (.t 60))])
 ((
  .seq ((.seq (.bG [.op (.mv 61 (.t 2)),
  .op (.mv 62 (.t 0)),
  .op (.mv 63 (.t 1)),
  .op (.mv 64 (.t 7)),
  .op (.bin 65 .add (.t 63) (.t 64)),
  .op (.sl 66 (.t 62) (some (.t 65)) none es),
  .op (.mD 67 fo (.t 61) (.t 66) es),
  .op (.un 68 .not (.t 67))])
 (.ite (.t 68)
  ((
   .seq (.jk [] [0,1,2,3,4,5,6,7,8] [.op (.mv 69 (.t 0)),
   .op (.mv 70 (.t 1)),
   .op (.mv 71 (.t 7)),
   .op (.bin 72 .add (.t 70) (.t 71)),
   .op (.sl 73 (.t 69) (some (.t 72)) none es),
   .op (.mv 74 (.t 0)),
   .op (.mv 75 (.t 1)),
   .op (.sl 76 (.t 74) (some (.t 75)) none es),
   .op (.copy (some 77) (.t 73) (.t 76) es)])
  ((
   .seq (.bG [.op (.mv 78 (.t 0)),
   .op (.mv 79 (.t 1)),
   .op (.sl 80 (.t 78) (some (.t 79)) none es),
   .op (.mv 81 (.t 2)),
   .op (.copy (some 82) (.t 80) (.t 81) es)])
  ((
   .seq (.bG [.op (.mv 83 (.t 0)),
   .op (.mv 6 (.t 83))])
  (.ret)))))))
  (.skip))))
 ((
  .seq (.bG [.op (.mv 84 (.t 0)),
  .op (.mv 85 (.t 8)),
  .op (.sl 86 (.t 84) (some (.t 85)) none es),
  .op (.mv 87 (.t 2)),
  .op (.copy (some 88) (.t 86) (.t 87) es)])
 ((
  .seq (.bG [.op (.mv 89 (.t 0)),
  .op (.mv 90 (.t 1)),
  .op (.sl 91 (.t 89) (some (.t 90)) none es),
  .op (.mv 92 (.t 7)),
  .op (.call (some 93) fr [(.t 91),(.t 92)])])
 ((
  .seq (.bG [.op (.mv 94 (.t 0)),
  .op (.mv 6 (.t 94))])
 (.ret)))))))))))))))))))))))))
def jE:Fin
 | .ret,e,h=>some (.val (aK e 6) h)
 |_,_,_=>none
section
variable {Pv:Prog}{q es fo fr n i len:Nat}{z:List D}{vs rows:List (List D)}{H:List O}
theorem Wl(hn:af H n = .an es true rows)(hl:len<=rows.length)(hv:vs≠[])(hm:len+vs.length<=room):
  run Pv q jE [.c (nY es z fo fr)] (jm 0 [.dX n 0 len,.d (.i .i64 len),.d (.sl es false vs)]) H =
   if len+vs.length<=rows.length then some (.val (.dX n 0 (len+vs.length)) (H.set n (.an es true (aS rows len vs))))
   else some (.val (.aJ H.length 0 (len+vs.length)) (H++[.an es true (rows.take len++vs)])):=by
 have h1:((vs.length:Int)==0)=false:=by have:=vL.2 hv;simp;omega
 have h2:(len:Int)<=rows.length:=by omega
 unfold nY;by_cases h0:len=0<;>by_cases h4:len+vs.length<=rows.length
 .subst h0;simp at hm h4;simp[hn,h1,hv,hm,h4,jE]
 .subst h0;simp only[iR]at hm h4;simp[hn,h1,hv,hm,h4,jE]
 .simp[hn,hl,h0,h1,hv,hm,h4,jE]
 .simp[hn,hl,h0,h1,hv,hm,h4,jE]
theorem Wm(hn:af H n = .an es true rows)(hl:len<=rows.length)(gF:n<H.length)(hv:vs≠[])(hm:len+vs.length<=room)(hi:i<len)(hz:z.length=es):
  run Pv q jE [.c (nY es z fo fr)] (jm 0 [.dX n 0 len,.d (.i .i64 i),.d (.sl es false vs)]) H =
   if len+vs.length<=rows.length then some (.val (.dX n 0 (len+vs.length)) (H.set n (.an es true (aS (aS rows (i+vs.length) ((rows.drop i).take (len - i))) i vs))))
   else some (.val (.aJ H.length 0 (len+vs.length)) (H++[.an es true (jz i vs (rows.take len))])):=by
 have h1:((vs.length:Int)==0)=false:=by have:=vL.2 hv;simp;omega
 have h2:((i:Int)==len)=false:=by simp;omega
 have h3:(i:Int)<=rows.length:=by omega
 have h4:i<=rows.length:=by omega
 have h5:i<=len:=by omega
 have BF:=vL.2 hv;have hm':len+vs.length<=4294967296:=hm;have w1:IntKind.i64.wrap ((len:Int)+vs.length)=len+vs.length:=wrap_i64 (by omega) (by omega)
 have w2:IntKind.i64.wrap ((i:Int)+vs.length)=i+vs.length:=wrap_i64 (by omega) (by omega)
 have w3:IntKind.i64.wrap ((len:Int)+vs.length - i)=len+vs.length - i:=wrap_i64 (by omega) (by omega)
 unfold nY;have ht:vs.take (len+vs.length - i)=vs:=fU (by omega)
 by_cases h6:len+vs.length<=rows.length
 .have h7:¬((rows.length:Int)<len+vs.length):=by omega
  simp(disch:=omega) [hn,hl,h1,h2,hi,w1,w2,h6,h7,jE,aN,aF,toNat_add,KY,KZ,Qu,tX,AY,ht]
 .have h7:((rows.length:Int)<len+vs.length):=by omega
  have e:List.take i (List.take i rows++List.replicate (len+vs.length - i) z)=rows.take i:=by
   rw[vP (by simp;omega),tX,Ez]
  have e2:(List.take (len - i) (List.drop i rows))=List.drop i (List.take len rows):=by rw[List.drop_take]
  have e3:List.take (i+vs.length) (rows.take i++(vs++List.drop (i+vs.length) (List.take i rows++List.replicate (len+vs.length - i) z)))=rows.take i++vs:=by
   rw[<-List.append_assoc,vP (by simp;omega),fU (by simp;omega)]
  have e4:List.drop (i+vs.length+(len - i)) (rows.take i++(vs++List.drop (i+vs.length) (List.take i rows++List.replicate (len+vs.length - i) z)))=[]:=qH (by simp;omega)
  simp(disch:=omega) [hn,h1,h2,hi,w1,w2,w3,h6,h7,jE,aN,aF,toNat_add,KY,KZ,hz,nO,ht,e,e2,tX,AY,jz,hl];have e5:List.take (len - i) (List.drop i (List.take len rows))=List.drop i (List.take len rows):=fU (by rw[AU,List.length_take];omega)
  rw[e3,e4,o9,jX,e5]
theorem Wp(hv:vs≠[])(hm:vs.length<=room):
  run Pv q jE [.c (nY es z fo fr)] (jm 0 [.d (.sl es true []),.d (.i .i64 0),.d (.sl es false vs)]) H=some (.val (.aJ H.length 0 vs.length) (H++[.an es true vs])):=by
 have h1:((vs.length:Int)==0)=false:=by have:=vL.2 hv;simp;omega
 unfold nY;simp[h1,hv,hm,jE]
theorem Wq(hv:vs≠[])(hm:vs.length<=room):
  run Pv q jE [.c (nY es z fo fr)] (jm 0 [.dS es,.d (.i .i64 0),.d (.sl es false vs)]) H=some (.val (.aJ H.length 0 vs.length) (H++[.an es true vs])):=by
 have h1:((vs.length:Int)==0)=false:=by have:=vL.2 hv;simp;omega
 unfold nY;simp[h1,hv,hm,jE]
theorem Wr{c:C}{env:Env}{v:V}{h1:List O}(hr:run Pv q jE [.c c] env H=some (.val v h1)):∃s',aO (ev Pv) q c ⟨env,H,true⟩=(.ret,s')/\s'.ok=true/\aK s'.env 6=v/\s'.heap=h1:=by
 unfold run at hr;simp only[resume]at hr;cases hc:aO (ev Pv) q c ⟨env,H,true⟩with
 |mk x s' =>
  rw[hc]at hr;cases x with
  |normal=>simp[resume,rE,jE]at hr
  |exit id=>simp[resume,rE,jE]at hr
  |ret =>
   simp only[resume,rE]at hr;split at hr
   .rename_i hok
    simp only[jE,bF,dA.val.injEq]at hr;exact⟨s',rfl,hok,hr.1,hr.2⟩
   .simp at hr
theorem Ws(hl:len<=rows.length):(aS rows len vs).take (len+vs.length)=jz len vs (rows.take len):=by
 unfold aS jz;have h1:(rows.take len).length=len:=by simp;omega
 rw[vP (by simp;omega),fU (by simp;omega),AX,tX,Ez,qH (by omega),o9]
theorem Wt(hl:len<=rows.length):(rows.take len++vs).take (len+vs.length)=jz len vs (rows.take len):=by
 unfold jz;have h1:(rows.take len).length=len:=by simp;omega
 rw[fU (by simp;omega),AX,tX,Ez,qH (by omega),o9]
theorem N0{l:List (List D)}(hi:i<=l.length):(jz i vs l).length=l.length+vs.length:=by
 unfold jz;simp;omega
theorem N1{α:Type}{cs new:List α}{o:Nat}(h:o+new.length<=cs.length):(aS cs o new).length=cs.length:=by
 unfold aS;simp;omega
theorem N2(hl:len+vs.length<=rows.length)(hi:i<len):(aS (aS rows (i+vs.length) ((rows.drop i).take (len - i))) i vs).take (len+vs.length)=jz i vs (rows.take len) /\
  (aS (aS rows (i+vs.length) ((rows.drop i).take (len - i))) i vs).length=rows.length:=by
 have e0:((rows.drop i).take (len - i)).length=len - i:=by simp;omega
 have e1:(aS rows (i+vs.length) ((rows.drop i).take (len - i))).length=rows.length:=N1 (by rw[e0];omega)
 refine⟨?_,by rw[N1 (by rw[e1];omega),e1]⟩
 have e2:(aS rows (i+vs.length) ((rows.drop i).take (len - i))).take i=rows.take i:=by
  unfold aS;rw[jX,vP (by simp;omega),tX]
  congr 1;omega
 have e3:(aS rows (i+vs.length) ((rows.drop i).take (len - i))).drop (i+vs.length)=(rows.drop i).take (len - i)++rows.drop (i+vs.length+(len - i)):=by
  unfold aS;rw[jX,e0]
  have:(rows.take (i+vs.length)).length=i+vs.length:=by simp;omega
  rw[List.drop_append_of_le_length (by omega),qH (by omega),jW]
 generalize aS rows (i+vs.length) ((rows.drop i).take (len - i))=Y at *;unfold aS jz;rw[e2,e3,AX,tX,AY (by omega),<-List.append_assoc,vP (by simp;omega),fU (by simp;omega),List.drop_take]
end
end Go.VS
