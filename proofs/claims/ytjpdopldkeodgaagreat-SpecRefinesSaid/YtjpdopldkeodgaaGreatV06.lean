import Derived.Test.YtjpdopldkeodgaaGreatV00
import Derived.Test.YtjpdopldkeodgaaGreatV04
set_option linter.all false
set_option maxHeartbeats 1000000
namespace Go.VS
abbrev Env:=List (Nat×V)
inductive K where
 |c(c:C)
 |bV(id:Nat)
abbrev Fin:=Ex->Env->List O->Option ej
def Ax(fin:Fin)(e:Ex)(s:St):Option ej:=if s.ok then fin e s.env s.heap else none
noncomputable def resume (rec:Rec)(q:Nat)(fin:Fin):List K->Ex->St->Option ej
 | [],e,s=>Ax fin e s
 | .c c::k,.normal,s=>resume rec q fin k (cQ rec q c s).1 (cQ rec q c s).2
 | .c _::k,e,s=>resume rec q fin k e s
 | .bV _::k,.normal,s=>resume rec q fin k .normal s
 | .bV id::k,.exit j,s=>if j=id then resume rec q fin k .normal s else resume rec q fin k (.exit j) s
 | .bV _::k,.ret,s=>resume rec q fin k .ret s
section
variable {P:Prog}{q:Nat}{fin:Fin}{k:List K}{e:Env}{h:List O}
theorem j6(rec:Rec):∀(k:List K)(x:Ex)(s:St),s.ok=false->resume rec q fin k x s=none
 | [],x,s,hs=>by simp[resume,Ax,hs]
 | .c c::k,.normal,s,hs=>by
  simp only[resume];refine j6 rec k _ _ ?_;cases hq:(cQ rec q c s).2.ok with
  |false=>rfl
  |true=>rw[yT hq]at hs;simp at hs
 | .c _::k,.exit j,s,hs=>by simp only[resume];exact j6 rec k _ _ hs
 | .c _::k,.ret,s,hs=>by simp only[resume];exact j6 rec k _ _ hs
 | .bV _::k,.normal,s,hs=>by simp only[resume];exact j6 rec k _ _ hs
 | .bV id::k,.exit j,s,hs=>by
  simp only[resume];split
  .exact j6 rec k _ _ hs
  .exact j6 rec k _ _ hs
 | .bV _::k,.ret,s,hs=>by simp only[resume];exact j6 rec k _ _ hs
def cX(e:Env):A->V
 | .t n=>cA e n
 | .k x=>.d x
@[simp] theorem GN(e:Env)(n:Nat):cX e (.t n)=cA e n:=rfl
@[simp] theorem aax(e:Env)(x:D):cX e (.k x) = .d x:=rfl
def St.res(s:St):Option (Env×List O):=if s.ok then some (s.env,s.heap)else none
def cO(rec:Rec)(i:I)(e:Env)(h:List O):Option (Env×List O):=(aU rec i ⟨e,h,true⟩).res
noncomputable def run (P:Prog)(q:Nat)(fin:Fin)(k:List K)(e:Env)(h:List O):Option ej:=resume (ev P) q fin k .normal ⟨e,h,true⟩
noncomputable def uA (P:Prog)(q:Nat)(fin:Fin)(x:Ex)(k:List K)(e:Env)(h:List O):Option ej:=resume (ev P) q fin k x ⟨e,h,true⟩
noncomputable def sY (P:Prog)(q:Nat)(fin:Fin)(js:List J)(k:List K)(e:Env)(h:List O):Option ej:=resume (ev P) q fin k .normal (fU (ev P) js ⟨e,h,true⟩)
noncomputable def Kw (P:Prog)(q:Nat)(fin:Fin)(js:List J)(k:List K)(o:Option (Env×List O)):Option ej :=
 match o with
 |some p=>sY P q fin js k p.1 p.2
 |none=>none
noncomputable def PU (P:Prog)(q:Nat)(fin:Fin)(d:Nat)(js:List J)(k:List K)(e:Env)(o:Option (Bool×List O)):Option ej :=
 match o with
 |some p=>sY P q fin js k ((d,.d (.b p.1))::e) p.2
 |none=>none
noncomputable def Kx (P:Prog)(q:Nat)(fin:Fin)(a b:C)(k:List K)(e:Env)(h:List O)(x:Bool):Option ej :=
 if x then run P q fin (.c a::k) e h else run P q fin (.c b::k) e h
noncomputable def WZ (P:Prog)(q:Nat)(fin:Fin)(a b:C)(k:List K)(e:Env)(h:List O)(v:V):Option ej :=
 match v with
 | .d (.b x)=>Kx P q fin a b k e h x
 |_=>none
noncomputable def GO (P:Prog)(q:Nat)(fin:Fin)(k:List K)(o:Option (Env×List O)):Option ej :=
 match o with
 |some p=>run P q fin k p.1 p.2
 |none=>none
noncomputable def Ky (P:Prog)(q:Nat)(fin:Fin)(k:List K)(o:Option (Ex×Env×List O)):Option ej :=
 match o with
 |some p=>uA P q fin p.1 k p.2.1 p.2.2
 |none=>none
@[simp] theorem aay{js:List J}:Kw P q fin js k (some (e,h))=sY P q fin js k e h:=rfl
@[simp] theorem aaz{js:List J}:Kw P q fin js k none=none:=rfl
@[simp] theorem aaA{d:Nat}{js:List J}{x:Bool}:PU P q fin d js k e (some (x,h))=sY P q fin js k ((d,.d (.b x))::e) h:=rfl
@[simp] theorem aaB{d:Nat}{js:List J}:PU P q fin d js k e none=none:=rfl
@[simp] theorem aaC{a b:C}:Kx P q fin a b k e h true=run P q fin (.c a::k) e h:=rfl
@[simp] theorem aaD{a b:C}:Kx P q fin a b k e h false=run P q fin (.c b::k) e h:=rfl
@[simp] theorem aaE{a b:C}{x:Bool}:WZ P q fin a b k e h (.d (.b x))=Kx P q fin a b k e h x:=rfl
@[simp] theorem aaF:GO P q fin k (some (e,h))=run P q fin k e h:=rfl
@[simp] theorem aaG:GO P q fin k none=none:=rfl
@[simp] theorem aaH{x:Ex}:Ky P q fin k (some (x,e,h))=uA P q fin x k e h:=rfl
@[simp] theorem aaI:Ky P q fin k none=none:=rfl
noncomputable def uB (P:Prog)(js:List J)(x:A)(e:Env)(h:List O):Option (Bool×List O):=
 match(fU (ev P) js ⟨e,h,true⟩).res with
 |some (e',h')=>match cX e' x with
  | .d (.b y)=>some (y,h')
  |_=>none
 |none=>none
def GP(fE:Bool)(g:V)(h:List O)(B:Option (Bool×List O)):Option (Bool×List O):=
 match g with
 | .d (.b g)=>if g=fE then some (fE,h)else B
 |_=>none
def xD(fE g:Bool)(h:List O)(B:Option (Bool×List O)):Option (Bool×List O):=if g=fE then some (fE,h)else B
@[congr] theorem aaJ {fE g g':Bool}{h:List O}{B B':Option (Bool×List O)}(hg:g=g')(hB:g'=(!fE)->B=B'):xD fE g h B=xD fE g' h B':=by
 subst hg;unfold xD;split
 .rfl
 .rename_i hne
  refine hB ?_;cases g<;>cases fE<;>simp at hne⊢
@[simp] theorem aaK{fE g:Bool}{h:List O}{B:Option (Bool×List O)}:GP fE (.d (.b g)) h B=xD fE g h B:=rfl
@[simp] theorem aaL{g y:Bool}{h:List O}:xD true g h (some (y,h))=some (g||y,h):=by cases g<;>rfl
@[simp] theorem aaM{g y:Bool}{h:List O}:xD false g h (some (y,h))=some (g&&y,h):=by cases g<;>rfl
@[simp] theorem aaN{h:List O}{B:Option (Bool×List O)}:xD true true h B=some (true,h):=rfl
@[simp] theorem aaO{h:List O}{B:Option (Bool×List O)}:xD false false h B=some (false,h):=rfl
@[simp] theorem aaP{h:List O}{B:Option (Bool×List O)}:xD true false h B=B:=rfl
@[simp] theorem aaQ{h:List O}{B:Option (Bool×List O)}:xD false true h B=B:=rfl
theorem PV(rec:Rec)(i:I)(e:Env)(h:List O):(∃e' h',aU rec i ⟨e,h,true⟩=⟨e',h',true⟩/\cO rec i e h=some (e',h'))\/((aU rec i ⟨e,h,true⟩).ok=false/\cO rec i e h=none):=by
 unfold cO St.res;generalize aU rec i ⟨e,h,true⟩=s;obtain⟨e',h',ok⟩:=s;cases ok with
 |true=>exact .inl ⟨e',h',rfl,rfl⟩
 |false=>exact .inr ⟨rfl,rfl⟩
theorem xE{rec:Rec}{js:List J}{s:St}(h:s.ok=false):(fU rec js s).ok=false:=by
 cases hq:(fU rec js s).ok with
 |false=>rfl
 |true=>rw[uz hq]at h;simp at h
@[simp] theorem aaR:sY P q fin [] k e h=run P q fin k e h:=rfl
@[simp] theorem aaS{i:I}{js:List J}:sY P q fin (.op i::js) k e h=Kw P q fin js k (cO (ev P) i e h):=by
 simp only[sY,fU,jj];rcases PV (ev P) i e h with⟨e',h',h1,h2⟩ |⟨h1,h2⟩
 .rw[h1,h2];rfl
 .rw[h2]
  exact j6 _ _ _ _ (xE h1)
noncomputable def PW (d:Option Nat)(e:Env)(h:List O)(o:Option (Env×List O)):Option (Env×List O):=
 match d,o with
 |some d,some (e',_)=>if V.same (cA e' d) (cA e d)then some (e,h)else none
 |_,_=>none
@[simp] theorem aaT{d:Nat}{e':Env}{h':List O}:PW (some d) e h (some (e',h'))=if V.same (cA e' d) (cA e d)then some (e,h)else none:=rfl
@[simp] theorem aaU{i:I}{js:List J}:sY P q fin (.re i::js) k e h=Kw P q fin js k (PW i.dst e h (cO (ev P) i e h)):=by
 simp only[sY,fU,jj,again];cases hd:i.dst with
 |none=>exact j6 _ _ _ _ (xE rfl)
 |some d =>
  rcases PV (ev P) i e h with⟨e',h',h1,h2⟩ |⟨h1,h2⟩
  .rw[h1,h2]
   simp only[Ai,PW];split
   .rfl
   .exact j6 _ _ _ _ (xE rfl)
  .rw[h2]
   simp only[h1,Aj,eI,dI];exact j6 _ _ _ _ (xE rfl)
theorem W0(rec:Rec)(js:List J)(e:Env)(h:List O):(∃e' h',fU rec js ⟨e,h,true⟩=⟨e',h',true⟩)\/(fU rec js ⟨e,h,true⟩).ok=false:=by
 generalize fU rec js ⟨e,h,true⟩=s;obtain⟨e',h',ok⟩:=s;cases ok with
 |true=>exact .inl ⟨e',h',rfl⟩
 |false=>exact .inr rfl
theorem fI{e:Env}{h:List O}{ok:Bool}{x:A}:St.get ⟨e,h,ok⟩ x=cX e x:=by cases x<;>rfl
@[simp] theorem aaV{fE:Bool}{d c:Nat}{body js:List J}{x:A}:sY P q fin (.sc fE d c body x::js) k e h =
  PU P q fin d js k (pL (J.j5 body) e) (GP fE (cA e c) h (uB P body x e h)):=by
 simp only[sY,fU,jj,fI,GN,GP,uB];cases cA e c with
 |d y =>
  cases y with
  |b g =>
   simp only;by_cases hg:g=fE
   .simp only[aK hg];rfl
   .simp only[aD hg]
    rcases W0 (ev P) body e h with⟨e',h',h1⟩ |h1
    .rw[h1]
     simp only[St.res,dF,fI];cases cX e' x with
     |d z =>
      cases z with
      |b y=>rfl
      |_=>exact j6 _ _ _ _ (xE rfl)
     |_=>exact j6 _ _ _ _ (xE rfl)
    .have:(fU (ev P) body ⟨e,h,true⟩).res=none:=by simp[St.res,h1]
     rw[this];refine j6 _ _ _ _ (xE ?_);generalize (fU (ev P) body ⟨e,h,true⟩).get x=z;cases z with
     |d y=>cases y<;>first |exact h1 |rfl
     |_=>rfl
  |_=>exact j6 _ _ _ _ (xE rfl)
 |_=>exact j6 _ _ _ _ (xE rfl)
noncomputable def PX (P:Prog)(js:List J)(x:A)(o:Option (Env×List O)):Option (Bool×List O):=
 match o with
 |some p=>uB P js x p.1 p.2
 |none=>none
noncomputable def PY (P:Prog)(d:Nat)(js:List J)(x:A)(e:Env)(o:Option (Bool×List O)):Option (Bool×List O):=
 match o with
 |some p=>uB P js x ((d,.d (.b p.1))::e) p.2
 |none=>none
@[simp] theorem aaW{js:List J}{x:A}:PX P js x (some (e,h))=uB P js x e h:=rfl
@[simp] theorem aaX{js:List J}{x:A}:PX P js x none=none:=rfl
@[simp] theorem aaY{d:Nat}{js:List J}{x:A}{y:Bool}:PY P d js x e (some (y,h))=uB P js x ((d,.d (.b y))::e) h:=rfl
@[simp] theorem aaZ{d:Nat}{js:List J}{x:A}:PY P d js x e none=none:=rfl
def W3(v:V)(h:List O):Option (Bool×List O):=
 match v with
 | .d (.b y)=>some (y,h)
 |_=>none
@[simp] theorem aa0{y:Bool}{h:List O}:W3 (.d (.b y)) h=some (y,h):=rfl
@[simp] theorem aa1{x:A}:uB P [] x e h=W3 (cX e x) h:=rfl
theorem D9{js:List J}{x:A}{s:St}(hs:s.ok=false):(match(fU (ev P) js s).res with
 |some (e',h')=>match cX e' x with
  | .d (.b y)=>some (y,h')
  |_=>none
 |none=>(none:Option (Bool×List O)))=none:=by
 have:=xE (rec:=ev P) (js:=js) hs;simp[St.res,this]
@[simp] theorem aa2{i:I}{js:List J}{x:A}:uB P (.op i::js) x e h=PX P js x (cO (ev P) i e h):=by
 simp only[uB,fU,jj];rcases PV (ev P) i e h with⟨e',h',h1,h2⟩ |⟨h1,h2⟩
 .rw[h1,h2];rfl
 .rw[h2];exact D9 h1
@[simp] theorem aa3{fE:Bool}{d c:Nat}{body js:List J}{x y:A}:uB P (.sc fE d c body x::js) y e h =
  PY P d js y (pL (J.j5 body) e) (GP fE (cA e c) h (uB P body x e h)):=by
 simp only[uB,fU,jj,fI,GN,GP];cases cA e c with
 |d z =>
  cases z with
  |b g =>
   simp only;by_cases hg:g=fE
   .simp only[aK hg];rfl
   .simp only[aD hg]
    rcases W0 (ev P) body e h with⟨e',h',h1⟩ |h1
    .rw[h1]
     simp only[St.res,dF,fI];cases cX e' x with
     |d z =>
      cases z with
      |b y=>rfl
      |_=>exact D9 rfl
     |_=>exact D9 rfl
    .have:(fU (ev P) body ⟨e,h,true⟩).res=none:=by simp[St.res,h1]
     rw[this];refine D9 ?_;generalize (fU (ev P) body ⟨e,h,true⟩).get x=z;cases z with
     |d y=>cases y<;>first |exact h1 |rfl
     |_=>rfl
  |_=>exact D9 rfl
 |_=>exact D9 rfl
@[simp] theorem aa4:run P q fin [] e h=fin .normal e h:=rfl
@[simp] theorem aa5{id:Nat}:run P q fin (.bV id::k) e h=run P q fin k e h:=rfl
@[simp] theorem aa6:run P q fin (.c .skip::k) e h=run P q fin k e h:=rfl
theorem Ay{rec:Rec}{c:C}{s:St}:resume rec q fin (.c c::k) .normal s=resume rec q fin k (cQ rec q c s).1 (cQ rec q c s).2:=rfl
@[simp] theorem run_seq{a b:C}:run P q fin (.c (.seq a b)::k) e h=run P q fin (.c a::.c b::k) e h:=by
 simp only[run,Ay,cQ];cases h:cQ (ev P) q a ⟨e,h,true⟩with
 |mk x s'=>cases x<;>simp[resume]
@[simp] theorem aa7{js:List J}:run P q fin (.c (.cr js)::k) e h=sY P q fin js k e h:=rfl
@[simp] theorem aa8{fl pm:List Nat}{js:List J}:run P q fin (.c (.lX fl pm js)::k) e h=sY P q fin js k (pL fl e) h:=rfl
def PZ(d:Nat)(e:Env)(h:List O):Option (Env×List O):=(br h (cA e d)).map λp=>((d,.d p.1)::e,p.2)
def Ea(e:Env)(h:List O):List Nat->Option (Env×List O)
 | []=>some (e,h)
 |d::ds=>(PZ d e h).bind λp=>Ea p.1 p.2 ds
theorem W4:∀(ds:List Nat)(e:Env)(h:List O),(∃e' h',vI ⟨e,h,true⟩ ds=⟨e',h',true⟩/\Ea e h ds=some (e',h'))\/((vI ⟨e,h,true⟩ ds).ok=false/\Ea e h ds=none)
 | [],e,h=>.inl ⟨e,h,rfl,rfl⟩
 |d::ds,e,h=>by
  simp only[vI,Ea,PZ,fI,GN];cases ht:br h (cA e d)with
  |none =>
   refine .inr ⟨?_,rfl⟩;simp only[Option.map_none,St.gh];cases hq:(vI (St.fail ⟨e,h,true⟩) ds).ok with
   |false=>rfl
   |true=>have:=GL ds hq;simp at this
  |some p=>exact W4 ds _ _
@[simp] theorem aa9{ds:List Nat}:run P q fin (.c (.oC ds)::k) e h=GO P q fin k (Ea e h ds):=by
 simp only[run,Ay,cQ];rcases W4 ds e h with⟨e',h',h1,h2⟩ |⟨h1,h2⟩
 .rw[h1,h2];rfl
 .rw[h2];exact j6 _ _ _ _ h1
@[simp] theorem run_ite{c:A}{a b:C}:run P q fin (.c (.ite c a b)::k) e h=WZ P q fin a b k e h (cX e c):=by
 simp only[run,Ay,cQ,fI];cases cX e c with
 |d y =>
  cases y with
  |b x=>cases x<;>rfl
  |_=>exact j6 _ _ _ _ rfl
 |_=>exact j6 _ _ _ _ rfl
@[simp] theorem aba{id:Nat}{c:C}:run P q fin (.c (.bV id c)::k) e h=run P q fin (.c c::.bV id::k) e h:=by
 simp only[run,Ay,cQ];cases h:cQ (ev P) q c ⟨e,h,true⟩with
 |mk x s' =>
  cases x with
  |normal=>simp[resume]
  |ret=>simp[resume]
  |exit j=>simp only[resume];split<;>rfl
@[simp] theorem abb{id:Nat}:run P q fin (.c (.exit id)::k) e h=uA P q fin (.exit id) k e h:=rfl
@[simp] theorem abc:run P q fin (.c .ret::k) e h=uA P q fin .ret k e h:=rfl
@[simp] theorem abd{id:Nat}{c:C}:uA P q fin (.exit id) (.c c::k) e h=uA P q fin (.exit id) k e h:=rfl
@[simp] theorem abe{id j:Nat}:uA P q fin (.exit id) (.bV j::k) e h=if id=j then run P q fin k e h else uA P q fin (.exit id) k e h:=rfl
@[simp] theorem abf{x:Ex}:uA P q fin x [] e h=fin x e h:=rfl
@[simp] theorem abg:uA P q fin .ret k e h=fin .ret e h:=by
 unfold uA;induction k with
 |nil=>rfl
 |cons x k ih=>cases x<;>simpa[resume]using ih
@[simp] theorem abh:uA P q fin .normal k e h=run P q fin k e h:=rfl
@[simp] theorem abi{ds:List Nat}:run P q fin (.c (.keep ds)::k) e h=GO P q fin k (canon q ds e h):=by
 simp only[run,Ay,cQ];cases canon q ds e h with
 |none=>exact j6 _ _ _ _ rfl
 |some p=>rfl
def W5:Option ej->Option (Ex×Env×List O)
 |some (.out x e h)=>some (x,e,h)
 |_=>none
@[simp] theorem abj{x:Ex}{e:Env}{h:List O}:W5 (some (.out x e h))=some (x,e,h):=rfl
noncomputable def Eb (P:Prog)(q:Nat)(live:List Nat)(c:C)(p:Option (Env×List O)):Option ej:=p.bind λp=>ev P (.loop q live c p.1 p.2)
@[simp] theorem abk{live:List Nat}{c:C}{e:Env}{h:List O}:Eb P q live c (some (e,h))=ev P (.loop q live c e h):=rfl
@[simp] theorem abl{live:List Nat}{c:C}:run P q fin (.c (.loop live c)::k) e h =
  Ky P q fin k (W5 (Eb P q live c (canon q live e h))):=by
 simp only[run,Ay,cQ,Eb];cases canon q live e h with
 |none=>exact j6 _ _ _ _ rfl
 |some p =>
  simp only[Option.bind];generalize ev P (.loop q live c p.1 p.2)=v;cases v with
  |none=>exact j6 _ _ _ _ rfl
  |some r =>
   cases r with
   |out x e h=>rfl
   |_=>exact j6 _ _ _ _ rfl
def xF(res:List RV)(keep:Bool)(m:Nat)(e:Env)(h:List O):Option ej:=finish res keep m ⟨e,h,true⟩
def Kz(res:List RV)(keep:Bool)(m:Nat):Fin
 | .normal,e,h | .ret,e,h=>xF res keep m e h
 | .exit _,_,_=>none
theorem au{f:Nat}{fn:F}(hf:P f=some fn)(hp:fn.As=none)(xs:List V)(h:List O):
  ev P (.call f xs h)=run P h.length (Kz fn.res fn.keep h.length) [.c fn.code] (oE 0 xs) h:=by
 rw[ev_eq];simp only[mR,hf,hp,run,resume];cases hc:cQ (ev P) h.length fn.code ⟨oE 0 xs,h,true⟩with
 |mk x s =>
  obtain⟨e',h',ok⟩:=s;cases x<;>cases ok<;>simp[Ax,Kz,xF,finish]
theorem Cd{f:Nat}{fn:F}{p:List V->List O->Option (V×List O)}(hf:P f=some fn)(hp:fn.As=some p)(xs:List V)(h:List O):
  ev P (.call f xs h)=(p xs h).map λr=>.val r.1 r.2:=by
 rw[ev_eq];simp only[mR,hf,hp]
noncomputable def GQ (P:Prog)(q:Nat)(live:List Nat)(c:C):Fin
 | .normal,e,h=>Eb P q live c (canon q live e h)
 |x,e,h=>some (.out x e h)
theorem bS(q:Nat)(live:List Nat)(c:C)(env:Env)(h:List O):
  ev P (.loop q live c env h)=run P q (GQ P q live c) [.c c] env h:=by
 rw[ev_eq];simp only[mR,run,resume];cases hc:cQ (ev P) q c ⟨env,h,true⟩with
 |mk x s =>
  obtain⟨e',h',ok⟩:=s;cases x<;>cases ok<;>simp[Ax,GQ,Eb]
def P0(e:Env)(n:Nat)(h:List O):O->Option (Ex×Env×List O)
 | .lp _ _ _ x _=>some (x,e,h.set n .dead)
 |_=>none
def P4(e:Env)(n:Nat)(o:Option (V×List O)):Option (Ex×Env×List O):=
 match o with
 |some p=>P0 e n p.2 (aV p.2 n)
 |none=>none
@[simp] theorem abm{n:Nat}{v:V}:P4 e n (some (v,h))=P0 e n h (aV h n):=rfl
@[simp] theorem abn{n:Nat}:P4 e n none=none:=rfl
@[simp] theorem abo{n:Nat}{ps:List Nat}{a b:C}{x:Ex}{env:Env}:P0 e n h (.lp ps a b x env)=some (x,e,h.set n .dead):=rfl
def W6(e:Env)(o:Option (List O)):Option (Env×List O):=o.map λh=>(e,h)
@[simp] theorem abp:W6 e (some h)=some (e,h):=rfl
@[simp] theorem abq{d n:Nat}:run P q fin (.c (.xA d n)::k) e h=GO P q fin k (W6 e (Cb h n (cA e d))):=by
 simp only[run,Ay,cQ,fI,GN];cases Cb h n (cA e d)with
 |none=>exact j6 _ _ _ _ rfl
 |some h'=>rfl
@[simp] theorem abr{x:A}{live ps:List Nat}{a b:C}:run P q fin (.c (.sn x live ps a b)::k) e h =
  Ky P q fin k (P4 e h.length (lZ (aA (ev P) (h++[.lp ps a b .normal (jM live e)])) (cX e x) [.jh h.length])):=by
 simp only[run,Ay,cQ,fI];cases lZ (aA (ev P) (h++[.lp ps a b .normal (jM live e)])) (cX e x) [.jh h.length]with
 |none=>exact j6 _ _ _ _ rfl
 |some p =>
  obtain⟨v,h'⟩:=p;simp only[abm];cases aV h' h.length with
  |lp _ _ _ y _=>rfl
  |_=>exact j6 _ _ _ _ rfl
def Ce(m:Nat):Fin:=λx _ h=>(cut h m []).map λL=>.out x [] (sub h L)
noncomputable def Cf (P:Prog)(m:Nat)(b:C):Fin
 | .normal,e,h=>run P m (Ce m) [.c b] e h
 |_,_,_=>none
@[simp] theorem abt{m:Nat}{x:Ex}:Ce m x e h=(cut h m []).map λL=>.out x [] (sub h L):=rfl
@[simp] theorem abu{m:Nat}{b:C}:Cf P m b .normal e h=run P m (Ce m) [.c b] e h:=rfl
theorem P5(ps:List Nat)(a b:C)(xs:List V)(env:Env)(h:List O):
  ev P (.round ps a b xs env h)=run P h.length (Cf P h.length b) [.c a] (ps.zip xs++env) h:=by
 rw[ev_eq];simp only[mR,run,resume];cases hc:cQ (ev P) h.length a ⟨ps.zip xs++env,h,true⟩with
 |mk x s =>
  obtain⟨e',h',ok⟩:=s;cases x<;>cases ok<;>simp[Ax,Cf,run,resume];cases hb:cQ (ev P) h.length b ⟨e',h',false⟩with
  |mk y s2 =>
   cases hs:s2.ok with
   |false=>simp
   |true=>have:=yT (rec:=ev P) (m:=h.length) (c:=b) (s:=⟨e',h',false⟩) (by rw[hb];exact hs);simp at this
@[simp] theorem abv{live:List Nat}{c:C}:GQ P q live c .normal e h=Eb P q live c (canon q live e h):=rfl
@[simp] theorem abw{live:List Nat}{c:C}{id:Nat}:GQ P q live c (.exit id) e h=some (.out (.exit id) e h):=rfl
@[simp] theorem abx{live:List Nat}{c:C}:GQ P q live c .ret e h=some (.out .ret e h):=rfl
@[simp] theorem aby{res:List RV}{keep:Bool}{m:Nat}:Kz res keep m .normal e h=xF res keep m e h:=rfl
@[simp] theorem abz{res:List RV}{keep:Bool}{m:Nat}:Kz res keep m .ret e h=xF res keep m e h:=rfl
end
end Go.VS
namespace Go.VS
@[simp] theorem abA(k n:Nat)(v:V)(e:Env):cA ((k,v)::e) n=if k=n then v else cA e n:=rfl
@[simp] theorem abB(n:Nat):cA [] n = .u:=rfl
def p1(d:Nat)(e:Env)(h:List O)(o:Option V):Option (Env×List O):=o.map λv=>((d,v)::e,h)
def p2(d:Nat)(e:Env)(o:Option (V×List O)):Option (Env×List O):=o.map λr=>((d,r.1)::e,r.2)
def xG(d:Option Nat)(e:Env)(o:Option (V×List O)):Option (Env×List O):=o.map λr=>((match d with |some d=>(d,r.1)::e |none=>e),r.2)
def pq(d:Option Nat)(e:Env)(h:List O)(o:Option V):Option (Env×List O):=o.map λv=>((match d with |some d=>(d,v)::e |none=>e),h)
def ph(e:Env)(o:Option (List O)):Option (Env×List O):=o.map λh=>(e,h)
section
variable {d:Nat}{e:Env}{h:List O}{v:V}
@[simp] theorem abC:p1 d e h (some v)=some ((d,v)::e,h):=rfl
@[simp] theorem abD:p1 d e h none=none:=rfl
@[simp] theorem abE:p2 d e (some (v,h))=some ((d,v)::e,h):=rfl
@[simp] theorem abF:p2 d e none=none:=rfl
@[simp] theorem abG:xG (some d) e (some (v,h))=some ((d,v)::e,h):=rfl
@[simp] theorem abH:xG none e (some (v,h))=some (e,h):=rfl
@[simp] theorem abI{dd:Option Nat}:xG dd e none=none:=rfl
@[simp] theorem abJ:pq (some d) e h (some v)=some ((d,v)::e,h):=rfl
@[simp] theorem abK:pq none e h (some v)=some (e,h):=rfl
@[simp] theorem abL{dd:Option Nat}:pq dd e h none=none:=rfl
@[simp] theorem abM:ph e (some h)=some (e,h):=rfl
@[simp] theorem abN:ph e none=none:=rfl
end
theorem lu{d:Nat}{e:Env}{h:List O}{o:Option V}:(St.eJ ⟨e,h,true⟩ d o).res=p1 d e h o:=by cases o<;>rfl
theorem yU{d:Nat}{e:Env}{h:List O}{o:Option (V×List O)}:(St.gh ⟨e,h,true⟩ d o).res=p2 d e o:=by cases o<;>rfl
theorem Ec{d:Option Nat}{e:Env}{h:List O}{o:Option (V×List O)}:(St.lq ⟨e,h,true⟩ d o).res=xG d e o:=by cases o<;>cases d<;>rfl
theorem KA{d:Option Nat}{e:Env}{h:List O}{o:Option V}:(St.mQ ⟨e,h,true⟩ d o).res=pq d e h o:=by cases o<;>cases d<;>rfl
theorem W7{e:Env}{h:List O}{o:Option (List O)}:(St.so ⟨e,h,true⟩ o).res=ph e o:=by cases o<;>rfl
theorem get_map{e:Env}{h:List O}{ok:Bool}{xs:List A}:xs.map (St.get ⟨e,h,ok⟩)=xs.map (cX e):=vo λ_ _=>fI
def P6(c a b:V):Option V:=match c with | .d (.b x)=>some (if x then a else b) |_=>none
def P7(fz:Bool)(n:Nat)(v:V)(h:List O):Option (V×List O):=
 if v.cells.length=n/\v.known=true then
  if fz then some (mkRef v.cells,h)else some (.loc h.length 0 0,h++[eK n [v.cells]])
 else none
def abO(fz:Bool)(n:Nat)(v:V)(h:List O):Option (V×List O):=
 if v.cells.length=n/\v.known=true then
  if fz then(fu v.cells).map λcs=>(.d (.ref cs),h)else some (.loc h.length 0 0,h++[eK n [v.cells]])
 else none
def P8(h:List O)(n:Nat)(p v:V):Option (V×List O):=
 match p with
 | .loc m 0 0 =>
  match aV h m with
  | .aG _ true [z]=>if z.length=n/\v.cells.length=n/\v.known=true then some (mkRef v.cells,h.set m .dead)else none
  |_=>none
 |_=>none
def P9(fz:Bool)(es n:Nat)(rows:Option (List (List V)))(h:List O):Option (V×List O):=
 if fz then(rows.bind fN).map λrows=>(.d (.sl es false rows),h)else rows.map λrows=>(.aR h.length 0 n,h++[eK es rows])
def Qa(f:Nat)(a b:List V):V :=
 match fu a,fu b with
 |some x,some y=>.d (.fn f x y)
 |_,_=>.fn f a b
def Qb:V->Option V
 | .d (.ref cs)=>some (.d (.ref cs))
 | .rf cs=>some (.rf cs)
 | .loc n r c=>some (.loc n r c)
 | .d (.lW t v)=>some (.d (.lW t v))
 |_=>none
def Cg(e:Env)(dflt:Int):Option A->Option Int
 |none=>some dflt
 |some a=>asInt (cX e a)
section
variable {rec:Rec}{d:Nat}{e:Env}{h:List O}
@[simp] theorem abP{x:A}:cO rec (.mv d x) e h=some ((d,cX e x)::e,h):=by simp only[cO,aU,fI];rfl
@[simp] theorem abQ{c a b:A}:cO rec (.pick d c a b) e h=p1 d e h (P6 (cX e c) (cX e a) (cX e b)):=by
 simp only[cO,aU,fI,P6];generalize cX e c=v;cases v with
 |d y=>cases y<;>first |rfl |(simp only;split<;>rfl)
 |_=>rfl
@[simp] theorem abR{x:A}{n:Nat}{fz:Bool}:cO rec (.box d x n fz) e h=p2 d e (P7 fz n (cX e x) h):=by
 simp only[cO,aU,fI,P7];split
 .cases fz
  .simp only[eI,dI];exact yU
  .rfl
 .rfl
@[simp] theorem abS{z:List D}:cO rec (.new d z) e h=some ((d,.loc h.length 0 0)::e,h++[.aG z.length true [z]]):=rfl
@[simp] theorem abT{z:List D}{ps:List (Nat×Nat×A)}:cO rec (.build d z ps) e h=p1 d e h ((fill (z.map .d) (ps.map λp=>(p.1,p.2.1,cX e p.2.2))).map B5):=by
 simp only[cO,aU,lu,fI]
@[simp] theorem abU{es n:Nat}{z:List D}{ps:List (Nat×A)}{fz:Bool}:cO rec (.lf d es n z ps fz) e h=p2 d e (P9 fz es n (xB (List.replicate n (z.map V.d)) es (ps.map λp=>(p.1,cX e p.2))) h):=by
 simp only[cO,aU,fI,P9];cases fz
 .simp only[eI,dI];exact yU
 .simp only[dF,lu]
  generalize (xB _ _ _).bind fN=o;cases o<;>rfl
@[simp] theorem abV{x:A}{n:Nat}{ag:Bool}:cO rec (.ld d x n ag) e h=p1 d e h (yQ h n ag (cX e x)):=by simp only[cO,aU,lu,fI]
@[simp] theorem abW{x y:A}{n:Nat}:cO rec (.st x y n false) e h=ph e (Kb h n (cX e x) (cX e y)):=by simp only[cO,aU,eI,dI,W7,fI]
@[simp] theorem abX{y:A}{n:Nat}:cO rec (.st (.t d) y n true) e h=p2 d e (P8 h n (cA e d) (cX e y)):=by
 simp only[cO,aU,dF,fI,GN,P8];generalize cA e d=v;cases v with
 |loc m r c =>
  cases r with
  |zero =>
   cases c with
   |zero =>
    simp only;generalize aV h m=ob;cases ob with
    |aG es ex rows =>
     cases ex with
     |false=>rfl
     |true =>
      match rows with
      | []=>rfl
      |_::_::_=>rfl
      | [z] =>
       simp only;split
       .exact yU
       .rfl
    |_=>rfl
   |succ c=>rfl
  |succ r=>rfl
 |_=>rfl
@[simp] theorem abY{x:A}{o n:Nat}:cO rec (.fa d x o n) e h=p1 d e h (fa h o n (cX e x)):=by simp only[cO,aU,lu,fI]
@[simp] theorem abZ{x i:A}{es:Nat}:cO rec (.ji d x i es) e h=p1 d e h (ji es (cX e x) (cX e i) h):=by simp only[cO,aU,lu,fI]
@[simp] theorem ab0{x i:A}{len es:Nat}:cO rec (.oB d x i len es) e h=p1 d e h (oB h len es (cX e x) (cX e i)):=by simp only[cO,aU,lu,fI]
@[simp] theorem ab1{x:A}{o n:Nat}{ag:Bool}:cO rec (.rY d x o n ag) e h=p1 d e h (Kj o n ag (cX e x)):=by simp only[cO,aU,lu,fI]
@[simp] theorem ab2{op:BinOp}{x y:A}:cO rec (.bin d op x y) e h=p1 d e h (B6 op (cX e x) (cX e y)):=by simp only[cO,aU,lu,fI]
@[simp] theorem ab3{neg:Bool}{x y:A}{ks:List CK}:cO rec (.eqv d neg x y ks) e h=p1 d e h (J7 ks neg (cX e x) (cX e y)):=by simp only[cO,aU,lu,fI]
@[simp] theorem ab4{neg:Bool}{x y:A}:cO rec (.rZ d neg x y) e h=p1 d e h (J8 neg (cX e x) (cX e y)):=by simp only[cO,aU,lu,fI]
@[simp] theorem ab5{neg:Bool}{x:A}{k:NK}:cO rec (.qo d neg x k) e h=p1 d e h ((isNil h k (cX e x)).map λp=>.d (.b (p != neg))):=by simp only[cO,aU,lu,fI]
@[simp] theorem ab6{op:UnOp}{x:A}:cO rec (.un d op x) e h=p1 d e h (J9 op (cX e x)):=by simp only[cO,aU,lu,fI]
@[simp] theorem ab7{k:IntKind}{x:A}:cO rec (.kB d k x) e h=p1 d e h (kB k (cX e x)):=by simp only[cO,aU,lu,fI]
@[simp] theorem ab8{x:A}{k:LK}:cO rec (.len d x k) e h=p1 d e h (q9 h k (cX e x).wk):=by simp only[cO,aU,lu,fI]
theorem W8{ok:Bool}{dflt:Int}{x:Option A}:uw ⟨e,h,ok⟩ dflt x=Cg e dflt x:=by
 cases x with
 |none=>rfl
 |some a=>simp only[uw,Cg,fI]
@[simp] theorem ab9{x:A}{lo hi:Option A}{es:Nat}:cO rec (.sl d x lo hi es) e h=p1 d e h (Kg h es (cX e x) (Cg e 0 lo) (Cg e (Au (cX e x)) hi)):=by simp only[cO,aU,lu,fI,W8]
@[simp] theorem acd{x:A}{lo hi:Option A}{es:Nat}:cO rec (.sle d x lo hi es) e h=p2 d e (Kh h es (cX e x) (Cg e 0 lo) (Cg e (Au (cX e x)) hi)):=by simp only[cO,aU,yU,fI,W8]
@[simp] theorem ace{x y:A}{es:Nat}:cO rec (.app d x y es) e h=p2 d e (D6 h es (cX e x) (cX e y)):=by simp only[cO,aU,yU,fI]
@[simp] theorem acf{dd:Option Nat}{x:A}{es:Nat}{z:List D}:cO rec (.qp dd x es z) e h=xG dd e ((Kl h es z (cX e x)).map λh=>(.tu [],h)):=by simp only[cO,aU,Ec,fI]
@[simp] theorem acg{dd:Option Nat}{x y:A}{es:Nat}:cO rec (.copy dd x y es) e h=xG dd e (copyV h es (cX e x) (cX e y)):=by simp only[cO,aU,Ec,fI]
@[simp] theorem ach{x:A}{i:Nat}:cO rec (.ext d x i) e h=p1 d e h (Km i (cX e x)):=by simp only[cO,aU,lu,fI]
@[simp] theorem aci{f:Nat}{a b:List A}:cO rec (.gY d f a b) e h=some ((d,Qa f (a.map (cX e)) (b.map (cX e)))::e,h):=by
 simp only[cO,aU,get_map,Qa];generalize fu (a.map (cX e))=x;generalize fu (b.map (cX e))=y;cases x<;>cases y<;>rfl
@[simp] theorem acj:cO rec (.mw d) e h=some ((d,.mp h.length)::e,h++[.mp []]):=rfl
@[simp] theorem ack{m k v:A}{ks:List CK}:cO rec (.fA m k v ks) e h=ph e (Ko ks h (cX e m) (cX e k) (cX e v)):=by simp only[cO,aU,W7,fI]
@[simp] theorem acm{m k:A}{z:D}{ok:Bool}{ks:List CK}:cO rec (.pG d m k z ok ks) e h=p1 d e h (Kn ks h (cX e m) (cX e k) z ok):=by simp only[cO,aU,lu,fI]
@[simp] theorem acn{dd:Option Nat}{f:Nat}{xs:List A}:cO rec (.call dd f xs) e h=pq dd e h (kC rec f (xs.map (cX e))):=by simp only[cO,aU,KA,get_map]
@[simp] theorem aco{dd:Option Nat}{f:Nat}{xs:List A}:cO rec (.mP dd f xs) e h=xG dd e (aJ rec h f (xs.map (cX e))):=by simp only[cO,aU,Ec,get_map]
@[simp] theorem acp{dd:Option Nat}{f:Nat}{xs:List A}:cO rec (.jd dd f xs) e h=xG dd e (aA rec h f (xs.map (cX e))):=by simp only[cO,aU,Ec,get_map]
@[simp] theorem acq{dd:Option Nat}{x:A}{xs:List A}:cO rec (.nR dd x xs) e h=pq dd e h (lZ (kC rec) (cX e x) (xs.map (cX e))):=by simp only[cO,aU,KA,get_map,fI]
@[simp] theorem acr{dd:Option Nat}{x:A}{xs:List A}:cO rec (.pI dd x xs) e h=xG dd e (lZ (aA rec h) (cX e x) (xs.map (cX e))):=by simp only[cO,aU,Ec,get_map,fI]
@[simp] theorem acs{dd:Option Nat}{x:A}{xs:List A}:cO rec (.pK dd x xs) e h=xG dd e (oD rec h (cX e x) (xs.map (cX e))):=by simp only[cO,aU,Ec,get_map,fI]
@[simp] theorem acu{x y:A}{es:Nat}:cO rec (.sk d x y es) e h=p2 d e (yR (D6 h es (cX e x) (cX e y))):=by simp only[cO,aU,yU,fI]
@[simp] theorem acv{f:Nat}{xs:List A}:cO rec (.nq d f xs) e h=p2 d e (yR (aA rec h f (xs.map (cX e)))):=by simp only[cO,aU,yU,get_map]
@[simp] theorem acw{dd:Option Nat}{f:Nat}{xs:List A}:cO rec (.calls dd f xs) e h=pq dd e h (vH rec h f (xs.map (cX e))):=by simp only[cO,aU,KA,get_map]
@[simp] theorem acy{x:A}:cO rec (.sX d x) e h=p1 d e h (Qb (cX e x)):=by
 simp only[cO,aU,fI,Qb];generalize cX e x=v;cases v with
 |d y=>cases y<;>rfl
 |_=>rfl
@[simp] theorem acz{x lo hi mx:A}{es:Nat}:cO rec (.qW d x lo hi mx es) e h=p1 d e h (Ki h es (cX e x) (asInt (cX e lo)) (asInt (cX e hi)) (asInt (cX e mx))):=by simp only[cO,aU,lu,fI]
@[simp] theorem acA{x y:A}:cO rec (.mx d x y) e h=p1 d e h (Kk (cX e x) (cX e y)):=by simp only[cO,aU,lu,fI]
@[simp] theorem acB{t:Nat}{x:A}:cO rec (.nr d t x) e h=p1 d e h (ux t (cX e x)):=by simp only[cO,aU,lu,fI]
@[simp] theorem acC{dd:Option Nat}{nm:String}{j4:List (Nat×Nat×Nat)}{x:A}{xs:List A}:cO rec (.inv dd nm j4 x xs) e h=pq dd e h (cV (kC rec) j4 (cX e x) (xs.map (cX e))):=by simp only[cO,aU,KA,get_map,fI]
@[simp] theorem acD{x:A}:cO rec (.cap d x) e h=p1 d e h (Ke h (cX e x)):=by simp only[cO,aU,lu,fI]
@[simp] theorem acE{n k:A}{es:Nat}{z:List D}:cO rec (.vF d es z n k) e h=p2 d e (Kd h es z (asInt (cX e n)) (asInt (cX e k))):=by simp only[cO,aU,yU,fI]
@[simp] theorem acF{x k:A}{es:Nat}{z:List D}:cO rec (.qX d x k es z) e h=p2 d e (Kc h es z (cX e x) (asInt (cX e k))):=by simp only[cO,aU,yU,fI]
@[simp] theorem acG{x:A}{n:Nat}{ag:Bool}:cO rec (.sj d x n ag) e h=p1 d e h (J' n ag (cX e x)):=by simp only[cO,aU,lu,fI]
@[simp] theorem acH{x:A}{o n:Nat}:cO rec (.pJ d x o n) e h=p1 d e h (Ka o n (cX e x)):=by simp only[cO,aU,lu,fI]
@[simp] theorem acI{f:Nat}{x y:A}{es:Nat}:cO rec (.qY d f x y es) e h=p1 d e h (Kf h es (cX e x) (cX e y)):=by simp only[cO,aU,lu,fI]
end
def Qc(e:Env)(h:List O):RV->Option V
 | .t n=>some (cA e n)
 | .c n k ag=>yQ h k ag (cA e n)
def xH(e:Env)(h:List O):List RV->Option (List V)
 | []=>some []
 |r::rs=>(Qc e h r).bind λv=>(xH e h rs).map (v::·)
theorem Qd{ok:Bool}{e:Env}{h:List O}:∀{rs:List RV},yS ⟨e,h,ok⟩ rs=xH e h rs
 | []=>rfl
 |r::rs=>by
  have:GK ⟨e,h,ok⟩ r=Qc e h r:=by cases r<;>rfl
  simp only[yS,xH,this,Qd (rs:=rs)]
def W9(h:List O)(vs:List V):Option ej:=(gZ h (vs.map V.wk)).map λds=>.val (tuple (ds.map V.d)) []
def az(h:List O)(m:Nat)(vs:List V):Option ej:=(cut h m (V.gu (vs.map V.wk))).map λL=>.val (tuple (V.iI (L.idxOf ·) (vs.map V.wk))) (sub h L)
@[simp] theorem acJ{res:List RV}{e:Env}{h:List O}:xF res false 0 e h=(xH e h res).bind (W9 h):=by
 simp only[xF,finish,dF,Qd,and_self];cases xH e h res<;>rfl
theorem Xa{res:List RV}{e:Env}{h:List O}{keep:Bool}{m:Nat}(hk:¬(m=0/\keep=false)):xF res keep m e h=(xH e h res).bind (az h m):=by
 simp only[xF,finish,dF,Qd,aD hk];cases xH e h res<;>rfl
@[simp] theorem acK{res:List RV}{e:Env}{h:List O}{m:Nat}:xF res true m e h=(xH e h res).bind (az h m):=Xa (by simp)
@[simp] theorem acL{res:List RV}{e:Env}{h:List O}{m:Nat}{keep:Bool}:xF res keep (m+1) e h=(xH e h res).bind (az h (m+1)):=Xa (by simp)
@[simp] theorem acM{rec:Rec}{f:Nat}{xs:List V}{ds:List D}(h:fu xs=some ds):kC rec f xs=match rec (.call f xs [])with |some (.val v [])=>some v |_=>none:=by
 unfold kC;rw[h]<;>rfl
attribute [simp] V.dw V.gu V.dJ V.iI O.dw O.dJ sub
attribute [simp] J.j5 J.rj I.dst I.wr Option.toList pL oE canon jM qZ Qc xH W9 tuple Cg P6 P7 abO mkRef P8 P9 Qa Qb Ea PZ
attribute [simp] gZ ez fu V.known V.cells D.cells B5 B6 arith J7 J8 jN B7 vG V.wk Ke Kc Kd Kf J' Ka isNil J9 kB q9 asInt ji oB fa pack B8 yQ kC lZ Kn GJ B9 lY nS Av GI Ko D7 aac PK Km aq Kb fill xB fN eK D6 At Kg Au aab Ki Kj mnV Kk ux cV Kl copyV aaa yP yR vH Kh V.plain D.Ca D.plain Cb
theorem ak{h:List O}{f n:Nat}{t acc:List Nat}:reach h (f+1) (n::t) acc=if n∈acc then reach h f t acc else reach h f (t++(aV h n).dw) (acc++[n]):=rfl
@[simp] theorem acN{o:O}{h:List O}:aV (o::h) 0=o:=rfl
@[simp] theorem acO{o:O}{h:List O}{n:Nat}:aV (o::h) (n+1)=aV h n:=rfl
theorem acP{h:List O}{x:O}{n:Nat}(hn:n<h.length):aV (h.set n x) n=x:=by simp[aV,List.getD,hn]
@[simp] theorem Ch{h:List O}{x:O}:aV (h++[x]) h.length=x:=by simp[aV,List.getD]
theorem uC{h h':List O}{n:Nat}(hn:n<h.length):aV (h++h') n=aV h n:=by simp[aV,List.getD,sQ hn]
@[simp] theorem Xb{h:List O}{x y:O}:(h++[x]).set h.length y=h++[y]:=by simp
@[simp] theorem acQ{h:List O}{n:Nat}{acc:List Nat}:reach h n [] acc=acc:=by cases n<;>rfl
@[simp] theorem acR{h:List O}:cut h 0 []=some []:=by simp[cut]
theorem toNat_add(a b:Nat):((a:Int)+(b:Int)).toNat=a+b:=by omega
theorem Xc(a b c:Nat):((a:Int)+(b:Int) - (c:Int)).toNat=a+b - c:=by omega
theorem Xd(a b c:Nat):((a:Int)+(b:Int) - ((c:Int)+(b:Int))).toNat=a - c:=by omega
theorem wrap_i64{x:Int}(h1:-9223372036854775808<=x)(h2:x<=9223372036854775807):IntKind.i64.wrap x=x:=by
 have e0:((2:Int) ^ IntKind.i64.bits)=18446744073709551616:=by decide
 have e1:((2:Int) ^ (IntKind.i64.bits - 1))=9223372036854775808:=by decide
 simp only[IntKind.wrap,e0,e1,IntKind.signed,Ai];by_cases hx:0<=x
 .rw[Int.emod_eq_of_lt hx (by omega)]
  simp;omega
 .have:x % 18446744073709551616=x+18446744073709551616:=by omega
  rw[this];simp;omega
end Go.VS
namespace Go.VS
def jO(i:Int)(vs rows:List (List D)):List (List D):=rows.take i.toNat++vs++rows.drop i.toNat
def l5(es:Nat)(xs:List V)(h:List O):Option (V×List O):=
 match xs with
 | [x,.d (.i .i64 i),.d (.sl e false vs)] =>
  if e=es/\vs≠[]/\vs.all (·.length==es)=true then
   match x with
   | .d (.sl e' true [])=>if e'=es/\i=0/\vs.length<=room then some (.aR h.length 0 vs.length,h++[.aG es true vs])else none
   | .iO e'=>if e'=es/\i=0/\vs.length<=room then some (.aR h.length 0 vs.length,h++[.aG es true vs])else none
   | .aR n off len =>
    match aV h n with
    | .aG e' true rows =>
     if e'=es/\off+len<=rows.length/\0<=i/\i<=len/\len+vs.length<=room then
      some (.aR h.length 0 (len+vs.length),h.set n .dead++[.aG es true (jO i vs ((rows.drop off).take len))])else none
    |_=>none
   |_=>none
  else none
 |_=>none
end Go.VS
namespace Go.VS
def u9(es:Nat)(z:List D)(fo fr:Nat):C :=
 ((.seq (.cr [.op (.mv 6 (.k (.sl es true [])))])
 ((
  .seq (.cr [.op (.mv 10 (.t 0)),
  .op (.mv 11 (.t 1)),
  .op (.sl 12 (.t 10) (some (.t 11)) none es)])
 ((
  .seq (.cr [.op (.mv 13 (.t 2)),
  .op (.len 14 (.t 13) .sl),
  .op (.mv 7 (.t 14))])
 ((
  .seq ((.seq (.cr [.op (.mv 15 (.t 7)),
  .op (.bin 16 .eql (.t 15) (.k (.i .i64 0)))])
 (.ite (.t 16)
  ((
   .seq (.cr [.op (.mv 17 (.t 0)),
   .op (.mv 6 (.t 17))])
  (.ret)))
  (.skip))))
 ((
  .seq (.cr [.op (.mv 18 (.t 0)),
  .op (.len 19 (.t 18) .sl),
  .op (.mv 8 (.t 19))])
 ((
  .seq ((.seq (.cr [.op (.mv 20 (.t 1)),
  .op (.mv 21 (.t 8)),
  .op (.bin 22 .eql (.t 20) (.t 21))])
 (.ite (.t 22)
  ((
   .seq (.cr [.op (.mv 23 (.t 0)),
   .op (.mv 24 (.t 2)),
   .op (.app 25 (.t 23) (.t 24) es),
   .op (.mv 6 (.t 25))])
  (.ret)))
  (.skip))))
 ((
  .seq ((.seq (.cr [.op (.mv 26 (.t 8)),
  .op (.mv 27 (.t 7)),
  .op (.bin 28 .add (.t 26) (.t 27)),
  .op (.mv 29 (.t 0)),
  .op (.cap 30 (.t 29)),
  .op (.bin 31 .gtr (.t 28) (.t 30))])
 (.ite (.t 31)
  ((
   .seq (.cr [.op (.mv 32 (.t 0)),
   .op (.mv 33 (.t 1)),
   .op (.sl 34 (.t 32) none (some (.t 33)) es),
   .op (.mv 35 (.t 8)),
   .op (.mv 36 (.t 7)),
   .op (.bin 37 .add (.t 35) (.t 36)),
   .op (.mv 38 (.t 1)),
   .op (.bin 39 .sub (.t 37) (.t 38)),
   .op (.qX 40 (.t 34) (.t 39) es z),
   .op (.mv 9 (.t 40))])
  ((
   .seq (.cr [.op (.mv 41 (.t 9)),
   .op (.mv 42 (.t 1)),
   .op (.sl 43 (.t 41) (some (.t 42)) none es),
   .op (.mv 44 (.t 2)),
   .op (.copy (some 45) (.t 43) (.t 44) es)])
  ((
   .seq (.lX [] [0,1,2,3,4,5,6,7,8] [.op (.mv 46 (.t 9)),
   .op (.mv 47 (.t 1)),
   .op (.mv 48 (.t 7)),
   .op (.bin 49 .add (.t 47) (.t 48)),
   .op (.sl 50 (.t 46) (some (.t 49)) none es),
   .op (.mv 51 (.t 0)),
   .op (.mv 52 (.t 1)),
   .op (.sl 53 (.t 51) (some (.t 52)) none es),
   .op (.copy (some 54) (.t 50) (.t 53) es)])
  ((
   .seq (.cr [.op (.mv 55 (.t 9)),
   .op (.mv 6 (.t 55))])
  (.ret)))))))))
  (.skip))))
 ((
  .seq (.cr [.op (.mv 56 (.t 0)),
  .op (.mv 57 (.t 8)),
  .op (.mv 58 (.t 7)),
  .op (.bin 59 .add (.t 57) (.t 58)),
  .op (.sl 60 (.t 56) none (some (.t 59)) es),
  .op (.mv 0 (.t 60))])
 ((
  .seq ((.seq (.cr [.op (.mv 61 (.t 2)),
  .op (.mv 62 (.t 0)),
  .op (.mv 63 (.t 1)),
  .op (.mv 64 (.t 7)),
  .op (.bin 65 .add (.t 63) (.t 64)),
  .op (.sl 66 (.t 62) (some (.t 65)) none es),
  .op (.qY 67 fo (.t 61) (.t 66) es),
  .op (.un 68 .not (.t 67))])
 (.ite (.t 68)
  ((
   .seq (.lX [] [0,1,2,3,4,5,6,7,8] [.op (.mv 69 (.t 0)),
   .op (.mv 70 (.t 1)),
   .op (.mv 71 (.t 7)),
   .op (.bin 72 .add (.t 70) (.t 71)),
   .op (.sl 73 (.t 69) (some (.t 72)) none es),
   .op (.mv 74 (.t 0)),
   .op (.mv 75 (.t 1)),
   .op (.sl 76 (.t 74) (some (.t 75)) none es),
   .op (.copy (some 77) (.t 73) (.t 76) es)])
  ((
   .seq (.cr [.op (.mv 78 (.t 0)),
   .op (.mv 79 (.t 1)),
   .op (.sl 80 (.t 78) (some (.t 79)) none es),
   .op (.mv 81 (.t 2)),
   .op (.copy (some 82) (.t 80) (.t 81) es)])
  ((
   .seq (.cr [.op (.mv 83 (.t 0)),
   .op (.mv 6 (.t 83))])
  (.ret)))))))
  (.skip))))
 ((
  .seq (.cr [.op (.mv 84 (.t 0)),
  .op (.mv 85 (.t 8)),
  .op (.sl 86 (.t 84) (some (.t 85)) none es),
  .op (.mv 87 (.t 2)),
  .op (.copy (some 88) (.t 86) (.t 87) es)])
 ((
  .seq (.cr [.op (.mv 89 (.t 0)),
  .op (.mv 90 (.t 1)),
  .op (.sl 91 (.t 89) (some (.t 90)) none es),
  .op (.mv 92 (.t 7)),
  .op (.call (some 93) fr [(.t 91),(.t 92)])])
 ((
  .seq (.cr [.op (.mv 94 (.t 0)),
  .op (.mv 6 (.t 94))])
 (.ret)))))))))))))))))))))))))
def oZ:Fin
 | .ret,e,h=>some (.val (cA e 6) h)
 |_,_,_=>none
section
variable {Pv:Prog}{q es fo fr n i len:Nat}{z:List D}{vs rows:List (List D)}{H:List O}
theorem alC(hn:aV H n = .aG es true rows)(hl:len<=rows.length)(hv:vs≠[])(hm:len+vs.length<=room):
  run Pv q oZ [.c (u9 es z fo fr)] (oE 0 [.jc n 0 len,.d (.i .i64 len),.d (.sl es false vs)]) H =
   if len+vs.length<=rows.length then some (.val (.jc n 0 (len+vs.length)) (H.set n (.aG es true (aq rows len vs))))
   else some (.val (.aR H.length 0 (len+vs.length)) (H++[.aG es true (rows.take len++vs)])):=by
 have h1:((vs.length:Int)==0)=false:=by have:=rX.2 hv;simp;omega
 have h2:(len:Int)<=rows.length:=by omega
 unfold u9;by_cases h0:len=0<;>by_cases h4:len+vs.length<=rows.length
 .subst h0;simp at hm h4;simp[hn,h1,hv,hm,h4,oZ]
 .subst h0;simp only[nQ]at hm h4;simp[hn,h1,hv,hm,h4,oZ]
 .simp[hn,hl,h0,h1,hv,hm,h4,oZ]
 .simp[hn,hl,h0,h1,hv,hm,h4,oZ]
theorem alD(hn:aV H n = .aG es true rows)(hl:len<=rows.length)(gi:n<H.length)(hv:vs≠[])(hm:len+vs.length<=room)(hi:i<len)(hz:z.length=es):
  run Pv q oZ [.c (u9 es z fo fr)] (oE 0 [.jc n 0 len,.d (.i .i64 i),.d (.sl es false vs)]) H =
   if len+vs.length<=rows.length then some (.val (.jc n 0 (len+vs.length)) (H.set n (.aG es true (aq (aq rows (i+vs.length) ((rows.drop i).take (len - i))) i vs))))
   else some (.val (.aR H.length 0 (len+vs.length)) (H++[.aG es true (jO i vs (rows.take len))])):=by
 have h1:((vs.length:Int)==0)=false:=by have:=rX.2 hv;simp;omega
 have h2:((i:Int)==len)=false:=by simp;omega
 have h3:(i:Int)<=rows.length:=by omega
 have h4:i<=rows.length:=by omega
 have h5:i<=len:=by omega
 have hv0:=rX.2 hv;have hm':len+vs.length<=4294967296:=hm;have w1:IntKind.i64.wrap ((len:Int)+vs.length)=len+vs.length:=wrap_i64 (by omega) (by omega)
 have w2:IntKind.i64.wrap ((i:Int)+vs.length)=i+vs.length:=wrap_i64 (by omega) (by omega)
 have w3:IntKind.i64.wrap ((len:Int)+vs.length - i)=len+vs.length - i:=wrap_i64 (by omega) (by omega)
 unfold u9;have ht:vs.take (len+vs.length - i)=vs:=gC (by omega)
 by_cases h6:len+vs.length<=rows.length
 .have h7:¬((rows.length:Int)<len+vs.length):=by omega
  simp(disch:=omega) [hn,hl,h1,h2,hi,w1,w2,h6,h7,oZ,aK,aD,toNat_add,Xc,Xd,acP,Ar,JX,ht]
 .have h7:((rows.length:Int)<len+vs.length):=by omega
  have e:List.take i (List.take i rows++List.replicate (len+vs.length - i) z)=rows.take i:=by
   rw[B0 (by simp;omega),Ar,J0]
  have e2:(List.take (len - i) (List.drop i rows))=List.drop i (List.take len rows):=by rw[List.drop_take]
  have e3:List.take (i+vs.length) (rows.take i++(vs++List.drop (i+vs.length) (List.take i rows++List.replicate (len+vs.length - i) z)))=rows.take i++vs:=by
   rw[<-List.append_assoc,B0 (by simp;omega),gC (by simp;omega)]
  have e4:List.drop (i+vs.length+(len - i)) (rows.take i++(vs++List.drop (i+vs.length) (List.take i rows++List.replicate (len+vs.length - i) z)))=[]:=qP (by simp;omega)
  simp(disch:=omega) [hn,h1,h2,hi,w1,w2,w3,h6,h7,oZ,aK,aD,toNat_add,Xc,Xd,hz,uC,ht,e,e2,Ar,JX,jO,hl];have e5:List.take (len - i) (List.drop i (List.take len rows))=List.drop i (List.take len rows):=gC (by rw[PB,List.length_take];omega)
  rw[e3,e4,nk,sU,e5]
theorem alE(hv:vs≠[])(hm:vs.length<=room):
  run Pv q oZ [.c (u9 es z fo fr)] (oE 0 [.d (.sl es true []),.d (.i .i64 0),.d (.sl es false vs)]) H=some (.val (.aR H.length 0 vs.length) (H++[.aG es true vs])):=by
 have h1:((vs.length:Int)==0)=false:=by have:=rX.2 hv;simp;omega
 unfold u9;simp[h1,hv,hm,oZ]
theorem alF(hv:vs≠[])(hm:vs.length<=room):
  run Pv q oZ [.c (u9 es z fo fr)] (oE 0 [.iO es,.d (.i .i64 0),.d (.sl es false vs)]) H=some (.val (.aR H.length 0 vs.length) (H++[.aG es true vs])):=by
 have h1:((vs.length:Int)==0)=false:=by have:=rX.2 hv;simp;omega
 unfold u9;simp[h1,hv,hm,oZ]
theorem alG{c:C}{env:Env}{v:V}{h1:List O}(hr:run Pv q oZ [.c c] env H=some (.val v h1)):∃s',cQ (ev Pv) q c ⟨env,H,true⟩=(.ret,s')/\s'.ok=true/\cA s'.env 6=v/\s'.heap=h1:=by
 unfold run at hr;simp only[resume]at hr;cases hc:cQ (ev Pv) q c ⟨env,H,true⟩with
 |mk x s' =>
  rw[hc]at hr;cases x with
  |normal=>simp[resume,Ax,oZ]at hr
  |exit id=>simp[resume,Ax,oZ]at hr
  |ret =>
   simp only[resume,Ax]at hr;split at hr
   .rename_i hok
    simp only[oZ,gw,ej.val.injEq]at hr;exact⟨s',rfl,hok,hr.1,hr.2⟩
   .simp at hr
theorem alH(hl:len<=rows.length):(aq rows len vs).take (len+vs.length)=jO len vs (rows.take len):=by
 unfold aq jO;have h1:(rows.take len).length=len:=by simp;omega
 rw[B0 (by simp;omega),gC (by simp;omega),PC,Ar,J0,qP (by omega),nk]
theorem alI(hl:len<=rows.length):(rows.take len++vs).take (len+vs.length)=jO len vs (rows.take len):=by
 unfold jO;have h1:(rows.take len).length=len:=by simp;omega
 rw[gC (by simp;omega),PC,Ar,J0,qP (by omega),nk]
theorem alJ{l:List (List D)}(hi:i<=l.length):(jO i vs l).length=l.length+vs.length:=by
 unfold jO;simp;omega
theorem alK{α:Type}{cs new:List α}{o:Nat}(h:o+new.length<=cs.length):(aq cs o new).length=cs.length:=by
 unfold aq;simp;omega
theorem alL(hl:len+vs.length<=rows.length)(hi:i<len):(aq (aq rows (i+vs.length) ((rows.drop i).take (len - i))) i vs).take (len+vs.length)=jO i vs (rows.take len) /\
  (aq (aq rows (i+vs.length) ((rows.drop i).take (len - i))) i vs).length=rows.length:=by
 have e0:((rows.drop i).take (len - i)).length=len - i:=by simp;omega
 have e1:(aq rows (i+vs.length) ((rows.drop i).take (len - i))).length=rows.length:=alK (by rw[e0];omega)
 refine⟨?_,by rw[alK (by rw[e1];omega),e1]⟩
 have e2:(aq rows (i+vs.length) ((rows.drop i).take (len - i))).take i=rows.take i:=by
  unfold aq;rw[sU,B0 (by simp;omega),Ar]
  congr 1;omega
 have e3:(aq rows (i+vs.length) ((rows.drop i).take (len - i))).drop (i+vs.length)=(rows.drop i).take (len - i)++rows.drop (i+vs.length+(len - i)):=by
  unfold aq;rw[sU,e0]
  have:(rows.take (i+vs.length)).length=i+vs.length:=by simp;omega
  rw[List.drop_append_of_le_length (by omega),qP (by omega),mu]
 generalize aq rows (i+vs.length) ((rows.drop i).take (len - i))=Y at *;unfold aq jO;rw[e2,e3,PC,Ar,JX (by omega),<-List.append_assoc,B0 (by simp;omega),gC (by simp;omega),List.drop_take]
end
end Go.VS
namespace Go.VS
section
variable {P:Program}{φ:fj}
mutual
theorem On{h:List O}{g:Gh}{w:World}:∀{x:V}{v:Value},aI φ h g w x v->∀n∈x.dw,n<h.length
 | .u,_,_,n,hn=>by simp[V.dw]at hn
 | .kA,_,_,n,hn=>by simp[V.dw]at hn
 | .d x,_,_,n,hn=>by simp[V.dw]at hn
 | .loc k r c,_,hr,n,hn=>by simp only[V.dw,yJ]at hn;simp only[aI]at hr;rw[hn];exact hr.1
 | .aR k r c,_,hr,n,hn=>by simp only[V.dw,yJ]at hn;simp only[aI]at hr;rw[hn];exact hr.1
 | .jc k r c,_,hr,n,hn=>by simp only[V.dw,yJ]at hn;simp only[aI]at hr;rw[hn];exact hr.1
 | .iO _,_,_,n,hn=>by simp[V.dw]at hn
 | .mp k,_,hr,n,hn=>by simp only[V.dw,yJ]at hn;simp only[aI]at hr;rw[hn];exact hr.1
 | .jh k,_,hr,n,hn=>by simp only[V.dw,yJ]at hn;simp only[aI]at hr;rw[hn];exact hr.1
 | .rf cs,_,hr,n,hn=>by
  simp only[aI]at hr;obtain⟨b,off,us,_,_,h1,_⟩:=hr;exact FW h1 n (by simpa only[V.dw]using hn)
 | .fn f a b,_,hr,n,hn=>by
  simp only[aI]at hr;obtain⟨A,B,_,h1,h2⟩:=hr;simp only[V.dw,dj]at hn;exact hn.elim (FW h1 n) (FW h2 n)
 | .ag cs,_,hr,n,hn=>by
  simp only[aI]at hr;obtain⟨A,_,h1,_⟩:=hr;exact FW h1 n (by simpa only[V.dw]using hn)
 | .tu cs,_,hr,n,hn=>by
  simp only[aI]at hr;obtain⟨A,_,h1⟩:=hr;exact FW h1 n (by simpa only[V.dw]using hn)
theorem FW{h:List O}{g:Gh}{w:World}:∀{xs:List V}{vs:List Value},bT φ h g w xs vs->∀n∈V.gu xs,n<h.length
 | [],_,_,n,hn=>by simp[V.gu]at hn
 |x::xs,v::vs,hr,n,hn=>by
  simp only[bT]at hr;simp only[V.gu,dj]at hn;exact hn.elim (On hr.1 n) (FW hr.2 n)
 |_::_,[],hr,_,_=>by simp[bT]at hr
end
theorem alM{h:List O}{g:Gh}{w:World}{b o:Nat}{x:O}(hr:gz φ h g w b o x):∀n∈x.dw,n<h.length:=by
 intro n hn;cases x with
 |gJ es rows =>
  simp only[O.dw,Ao]at hn;obtain⟨row,hrow,hn⟩:=hn;obtain⟨r,jo,lM⟩:=sS hrow;have hg:rows[r]?=some row:=by simp[jo,lM]
  obtain⟨_,h2⟩:=hr.2.1 r row hg
  have:∀(row:List V),(∀(j:Nat)(c:V),row[j]?=some c->∃v,aI φ h g w c v)->n∈V.gu row->n<h.length:=by
   intro row;induction row with
   |nil=>intro _ hn;simp[V.gu]at hn
   |cons c row ih =>
    intro hc hn;simp only[V.gu,dj]at hn;rcases hn with hn |hn
    .obtain⟨v,hv⟩:=hc 0 c rfl
     exact On hv n hn
    .exact ih (λj c hj=>hc (j+1) c (by simpa using hj)) hn
  exact this row (λj c hj=>let ⟨v,_,_,h3⟩:=h2 j c hj;⟨v,h3⟩) hn
 |mp kv =>
  simp only[O.dw,Ao]at hn;obtain⟨p,hp,hn⟩:=hn;obtain⟨ES,kK,_,⟨hl,h2⟩,_⟩:=hr;obtain⟨r,jo,lM⟩:=sS hp;have alN:r<ES.toList.length:=by omega
  obtain⟨_,h3⟩:=h2 r p ES.toList[r] (by simp[jo,lM]) (by simp)
  exact On h3 n hn
 |lp ps a c e env =>
  simp only[O.dw]at hn;obtain⟨rc,nt,_,_,_,_,h4,_⟩:=hr
  have:∀(env:List (Nat×V)),C2 φ h g w env rc.tmps->n∈qZ env->n<h.length:=by
   intro env;induction env with
   |nil=>intro _ hn;simp[qZ]at hn
   |cons p r ih =>
    intro hr hn;simp only[qZ,dj]at hn;rcases hn with hn |hn
    .exact On (hr p (by simp)) n hn
    .exact ih (λq hq=>hr q (by simp[hq])) hn
  exact this env h4 hn
 |_=>simp[O.dw]at hn
structure UM(K:List O)(g:Gh)(K':List O)(g':Gh)(n:Nat):Prop where
 lt:n<K'.length
 ob:aV K' n=aV K n
 β:g'.β n=g.β n
 o:g'.o n=g.o n
mutual
theorem Oo{K K':List O}{g g':Gh}{w:World}(hI:g'.I=g.I):∀{x:V}{v:Value},(∀n∈x.dw,UM K g K' g' n)->aI φ K g w x v->aI φ K' g' w x v
 | .u,_,_,_=>by simp[aI]
 | .kA,_,_,hr=>by simpa[aI]using hr
 | .d x,_,_,hr=>by simp only[aI]at hr⊢;rw[hI];exact hr
 | .loc n r c,_,hs,hr=>by
  have S:=hs n (by simp[V.dw])
  simp only[aI]at hr⊢;rw[S.ob,S.β,S.o];exact⟨S.lt,hr.2⟩
 | .aR n r c,_,hs,hr=>by
  have S:=hs n (by simp[V.dw])
  simp only[aI]at hr⊢;rw[S.ob,S.β,S.o];exact⟨S.lt,hr.2⟩
 | .jc n r c,_,hs,hr=>by
  have S:=hs n (by simp[V.dw])
  simp only[aI]at hr⊢;rw[S.ob,S.β,S.o];exact⟨S.lt,hr.2⟩
 | .iO _,_,_,hr=>by simpa only[aI]using hr
 | .mp n,_,hs,hr=>by
  have S:=hs n (by simp[V.dw])
  simp only[aI]at hr⊢;rw[S.ob,S.β];exact⟨S.lt,hr.2⟩
 | .jh n,_,hs,hr=>by
  have S:=hs n (by simp[V.dw])
  simp only[aI]at hr⊢;rw[S.ob,S.β];exact⟨S.lt,hr.2⟩
 | .rf cs,_,hs,hr=>by
  simp only[aI]at hr⊢;obtain⟨b,off,us,h0,h1,h2,h3⟩:=hr;exact⟨b,off,us,h0,by rw[hI];exact h1,FX hI (λn hn=>hs n (by simpa only[V.dw]using hn)) h2,h3⟩
 | .fn f a b,_,hs,hr=>by
  simp only[aI]at hr⊢;obtain⟨A,B,h0,h1,h2⟩:=hr;exact⟨A,B,h0,FX hI (λn hn=>hs n (by simp[V.dw,hn])) h1,FX hI (λn hn=>hs n (by simp[V.dw,hn])) h2⟩
 | .ag cs,_,hs,hr=>by
  simp only[aI]at hr⊢;obtain⟨A,h0,h1,h2⟩:=hr;exact⟨A,h0,FX hI (λn hn=>hs n (by simpa only[V.dw]using hn)) h1,h2⟩
 | .tu cs,_,hs,hr=>by
  simp only[aI]at hr⊢;obtain⟨A,h0,h1⟩:=hr;exact⟨A,h0,FX hI (λn hn=>hs n (by simpa only[V.dw]using hn)) h1⟩
theorem FX{K K':List O}{g g':Gh}{w:World}(hI:g'.I=g.I):∀{xs:List V}{vs:List Value},(∀n∈V.gu xs,UM K g K' g' n)->bT φ K g w xs vs->bT φ K' g' w xs vs
 | [],[],_,_=>by simp[bT]
 |x::xs,v::vs,hs,hr=>by
  simp only[bT]at hr⊢;exact⟨Oo hI (λn hn=>hs n (by simp[V.gu,hn])) hr.1,FX hI (λn hn=>hs n (by simp[V.gu,hn])) hr.2⟩
 | [],_::_,_,hr=>by simp[bT]at hr
 |_::_,[],_,hr=>by simp[bT]at hr
end
theorem alO{K K':List O}{g g':Gh}{w:World}{b o:Nat}{x:O}(hI:g'.I=g.I)(hs:∀n∈x.dw,UM K g K' g' n)(hr:gz φ K g w b o x):gz φ K' g' w b o x:=by
 cases x with
 |dead=>trivial
 |aG es ex rows=>simp only[gz]at hr⊢;rw[hI];exact hr
 |gJ es rows =>
  simp only[gz]at hr⊢;rw[hI];refine⟨hr.1,λr row hrow=>?_,hr.2.2⟩
  obtain⟨h1,h2⟩:=hr.2.1 r row hrow;refine⟨h1,λj c hj=>?_⟩
  obtain⟨v,h3,h4,h5⟩:=h2 j c hj;refine⟨v,h3,h4,Oo hI (λn hn=>hs n ?_) h5⟩
  simp only[O.dw,Ao];exact⟨row,kU hrow,ZJ (kU hj) hn⟩
 |mp kv =>
  simp only[gz]at hr⊢;rw[hI];obtain⟨ES,kK,h1,⟨h2,h3⟩,h4⟩:=hr;refine⟨ES,kK,h1,⟨h2,λi p e hp he=>?_⟩,h4⟩
  obtain⟨h5,h6⟩:=h3 i p e hp he;refine⟨by rw[hI];exact h5,Oo hI (λn hn=>hs n ?_) h6⟩
  simp only[O.dw,Ao];exact⟨p,kU hp,hn⟩
 |lp ps a c e env =>
  simp only[gz]at hr⊢;rw[hI];obtain⟨rc,nt,h1,h0,h2,h3,h4,h5⟩:=hr;exact⟨rc,nt,h1,h0,h2,h3,λp hp=>Oo hI (λn hn=>hs n (by simp only[O.dw];exact NC hp hn)) (h4 p hp),h5⟩
theorem alP{H0 K:List O}{g:Gh}{w:World}{j es p:Nat}{Z:List (List D)}(hr:eU φ K g w)(h0:∀k,k<H0.length->aV K k=aV H0 k)(UN:∀k,∀n∈(aV H0 k).dw,n<H0.length)
  (hj:H0.length<=j)(hZ:aV K j = .aG es true Z):eU φ (H0++[.aG es true (Z.take p)]) (g.add H0.length (g.β j) (g.o j) g.I) w:=by
 have FY:∀k,k<H0.length->aV (H0++[.aG es true (Z.take p)]) k=aV K k:=λk hk=>by rw[uC hk,h0 k hk]
 have hl:(aV K j).live=true:=by rw[hZ];rfl
 refine⟨λk=>?_,λa b ha hb he=>?_,hr.new⟩
 .rcases sR k H0.length with hk |hk |hk
  .have hne:k≠H0.length:=by omega
   rw[FY k hk];simp only[Gh.add,aD hne];refine alO (K:=K) (g:=g) rfl (λn hn=>?_) (hr.obj k)
   rw[h0 k hk]at hn;have hlt:=UN k n hn;have NL:n≠H0.length:=by omega
   exact⟨by simp;omega,FY n hlt,by simp[Gh.add,NL],by simp[Gh.add,NL]⟩
  .subst hk
   rw[Ch];have:=hr.obj j;rw[hZ]at this;obtain⟨⟨CS,T,hb,hfit⟩,dS,hI⟩:=this;simp only[Gh.add,dF];have hmul:es*(Z.take p).length<=es*Z.length:=Pp es (by simp[Nat.min_le_right])
   refine⟨⟨CS,T,hb,by omega⟩,uU λr row hrow=>?_,hI⟩
   rw[yK]at hrow;split at hrow
   .exact nY dS hrow
   .simp at hrow
  .rw[uW hk];trivial
 .have key:∀k,(aV (H0++[.aG es true (Z.take p)]) k).live=true->k<=H0.length:=λk hk=>by
   rcases kZ H0.length k with h1 |h1
   .rw[uW h1]at hk;simp[O.live]at hk
   .exact h1
  have ka:=key a ha;have kb:=key b hb;by_cases h1:a=H0.length<;>by_cases h2:b=H0.length
  .omega
  .have hlt:b<H0.length:=by omega
   rw[FY b hlt]at hb;simp only[Gh.add,h1,h2,dF,dI]at he;have:=hr.inj _ _ hl hb he;omega
  .have hlt:a<H0.length:=by omega
   rw[FY a hlt]at ha;simp only[Gh.add,h1,h2,dF,dI]at he;have:=hr.inj _ _ ha hl he;omega
  .have hlt:a<H0.length:=by omega
   have hlt':b<H0.length:=by omega
   rw[FY a hlt]at ha;rw[FY b hlt']at hb;simp only[Gh.add,h1,h2,dI]at he;exact hr.inj _ _ ha hb he
theorem alQ{H0 K h:List O}{g0 g:Gh}{w0 w:World}{m j es p:Nat}{Z:List (List D)}(hf:Frame m h g0 w0 K g w)(h0:∀k,k<H0.length->aV K k=aV H0 k)(hm:m<=H0.length)
  (hj:H0.length<=j)(hZ:aV K j = .aG es true Z):Frame m h g0 w0 (H0++[.aG es true (Z.take p)]) (g.add H0.length (g.β j) (g.o j) g.I) w where
 ext:=hf.ext
 size:=hf.size
 os:=hf.os
 tape:=hf.tape
 output:=hf.output
 oQ n hn:=by
  have hne:n≠H0.length:=by omega
  simp only[Gh.add,aD hne];exact hf.oQ n hn
 keep:=hf.keep
 mG n hn:=by
  rcases sR n H0.length with hk |hk |hk
  .have hne:n≠H0.length:=by omega
   rw[uC hk,<-h0 n hk]at hn;simp only[Gh.add,aD hne];exact hf.mG n hn
  .simp only[Gh.add,hk,dF]
   exact hf.mG j (by rw[hZ];rfl)
  .rw[uW hk]at hn;simp[O.live]at hn
 oR n hn:=by
  have hlt:n<H0.length:=by omega
  have:=hf.oR n hn;have he:aV (H0++[.aG es true (Z.take p)]) n=aV K n:=by rw[uC hlt,h0 n hlt]
  exact⟨λes he'=>by rw[he]at he'⊢;exact this.arr es he',λkv hk=>this.mp kv (by rw[<-he];exact hk),λhk=>this.lp (by rw[<-he];exact hk)⟩
theorem alR{h:List O}{g:Gh}{w:World}(hr:eU φ h g w){n:Nat}(hl:(aV h n).live=true)(m:Nat):eU φ (h.set n .dead) g w/\Frame m h g w (h.set n .dead) g w:=by
 have hle:gS h g w (h.set n .dead) (g.dZ g.I) w:=wu hr hl (jS.refl _ _) (Ext.refl _ _) (λes he=>by simp[O.gM]at he) (λkv hk=>by simp at hk)
 exact⟨wx hr hl (jS.refl _ _) hle (λ_ _=>rfl) trivial,wy .dead hl (jS.refl _ _) (Ext.refl _ _) (λ_ _=>rfl) hle⟩
theorem UO(hm:P.follows .mixedOrders=true)(hk:wY P φ){f:Nat}{F:F}(hF:Oh P φ f F){es fo fr:Nat}{z:List D}(I5:F.code=u9 es z fo fr)(hres:F.res=[.t 6])
  {h:List O}{g:Gh}{w:World}{xs:List V}{args:Array Value}{v:V}{h1:List O}{Q:Ending->World->Prop}(hH:eU φ h g w)(ha:bT φ h g w xs args.toList)
  (hrun:run (λ_=>none) h.length oZ [.c (u9 es z fo fr)] (oE 0 xs) h=some (.val v h1))
  (hQ:∀v' g' w',eU φ h1 g' w'->aI φ h1 g' w' v v'->Frame h.length h g w h1 g' w'->Q (.returned v') w'):Calls P (φ f) args w Q:=by
 obtain⟨fn,c,k1,k2,k3,k4,k5⟩:=hF;obtain⟨s',NM,hok,h6,wX⟩:=alG hrun;have hall:=alm (φ:=φ) hm hk (Pv:=λ_=>none) (λf F hf=>by simp at hf)
 rw[I5]at k4;refine(callsIn_wide (n:=0)).1 (callsIn_of_wp_marks (F:=Wd none) k1 k3 trivial (I3 hm hk hall.1 hall.2.1 hall.2.2 c _ (.inl rfl) k4 (ak8 (gf _) hH ha fn.ntmps) (by rw[NM];exact hok) λg' a' w' hs' hf'=>?_))
 rw[NM]at hs' hf'⊢;simp only at hs' hf';refine alb hH hs' hf' λw' hs' hf'=>?_
 rw[hres]at k5;obtain⟨us,Fp,fX⟩:=Oe hs' k5 (vs:=[cA s'.env 6]) (by simp[yS,GK,St.get])
 refine⟨_,ak3 Fp,?_⟩;rw[h6,wX]at fX;rw[wX]at hf'
 match us,fX with
 | [u],fX =>
  simp only[bT,yN]at fX;exact hQ u g' w' (by rw[<-wX];exact hs'.heap) fX hf'
 | [],fX=>simp[bT]at fX
 |_::_::_,fX=>simp[bT]at fX
theorem UP(hm:P.follows .mixedOrders=true)(hk:wY P φ){f:Nat}{F:F}(hF:Oh P φ f F){es fo fr:Nat}{z:List D}(I5:F.code=u9 es z fo fr)(hres:F.res=[.t 6])(hz:z.length=es)(jF:0<es):
  ak6 P φ f (l5 es):=by
 intro xs h v h1 hp;have hF':=hF;obtain⟨fn,c,k1,k2,k3,_,_⟩:=hF';refine⟨⟨fn,k1,k2,by simp[k3]⟩,λg w args hH ha=>?_⟩
 unfold l5 at hp;split at hp
 .rename_i x i e vs
  split at hp
  .rename_i dV
   obtain⟨rfl,hv,hrl⟩:=dV;split at hp
   ·
    rename_i e';split at hp
    .rename_i gK
     obtain⟨rfl,rfl,hroom⟩:=gK;simp only[gw,ur]at hp;obtain⟨rfl,rfl⟩:=hp;exact UO hm hk hF I5 hres hH ha (alE hv hroom) λv' g' w' q1 q2 q3=>⟨v',g',rfl,q1,q2,q3⟩
    .simp at hp
   .rename_i e'
    split at hp
    .rename_i gK
     obtain⟨rfl,rfl,hroom⟩:=gK;simp only[gw,ur]at hp;obtain⟨rfl,rfl⟩:=hp;exact UO hm hk hF I5 hres hH ha (alF hv hroom) λv' g' w' q1 q2 q3=>⟨v',g',rfl,q1,q2,q3⟩
    .simp at hp
   .rename_i n off len
    split at hp
    .rename_i e' rows hn
     split at hp
     .rename_i gK
      obtain⟨rfl,hle,Yu,oa,hroom⟩:=gK;simp only[gw,ur]at hp;obtain⟨rfl,rfl⟩:=hp;have hl:(aV h n).live=true:=by rw[hn];rfl
      obtain⟨kH,kF⟩:=alR hH hl h.length;have dD:=hH.obj n;rw[hn]at dD;obtain⟨⟨CS,T,hb,hfit⟩,dS,hI⟩:=dD;simp only[dF]at hI
      match hargs:args.toList,ha with
      | [u0,u1,u2],ha=>?_
      simp only[bT,yN]at ha;obtain⟨r0,r1,r2⟩:=ha;simp only[aI]at r0;obtain⟨gi,_,Bp⟩:=r0;rw[hn]at Bp;obtain⟨cap,rfl,hlc,yj,rH,T',hb',oX,hone⟩:=Bp e' rfl;rw[hb]at hb';simp only[gw,Obj.cells.injEq,yN]at hb';obtain⟨rfl,rfl⟩:=hb';simp only[O.len]at yj;obtain⟨H0,UQ⟩:∃H0,h.set n .dead=H0:=⟨_,rfl⟩;rw[UQ]at kH kF⊢;have FZ:H0.length=h.length:=by rw[<-UQ];simp
      obtain⟨iB,UR⟩:∃iB,rows.drop off++List.replicate (cap - (rows.length - off)) (List.replicate e' D.B4)=iB:=⟨_,rfl⟩;have TD:iB.length=cap:=by rw[<-UR];simp;omega
      have Oq:iB.take len=(rows.drop off).take len:=by rw[<-UR,B0 (by simp;omega)]
      have Nt:gz φ (H0++[.aG e' true iB]) (g.add H0.length (g.β n) (g.o n+off*e') g.I) w (g.β n) (g.o n+off*e') (.aG e' true iB):=by
       refine⟨⟨CS,T,hb,by rw[TD];rw[ni]at oX;have:=jg e' cap;omega⟩,uU λr row hr=>?_,by simp only[dF,Gh.add];omega⟩
       rw[<-UR,List.getElem?_append]at hr;split at hr
       .rw[pF]at hr
        obtain⟨q1,q2⟩:=nY dS hr;rw[ni,<-Nat.add_assoc]at q2;exact⟨q1,q2⟩
       .rename_i hge
        obtain⟨jo,lM⟩:=rW.1 hr;simp only[WG,PB]at jo hge;simp only[WH]at lM;subst lM;refine⟨by simp,wh λj c hj=>?_⟩
        obtain⟨hj1,hj2⟩:=rW.1 hj;simp only[WH]at hj2;simp only[WG]at hj1;subst hj2;have hr3:r+1<=cap:=by omega
        have hmul:(r+1)*e'<=cap*e':=lU _ hr3;rw[ni]at oX hmul;have hlt:g.o n+off*e'+r*e'+j<CS.size:=by omega
        exact⟨CS[g.o n+off*e'+r*e'+j],by simp[World.cell?,hb,hlt],hone _ (by simp),by simp[bR]⟩
      have hB:∀k,(aV H0 k).live=true->g.β k≠g.β n:=by
       intro k hk Bm;rw[<-UQ]at hk;by_cases hkn:k=n
       .subst hkn;rw[wq gi]at hk;simp[O.live]at hk
       .rw[pZ hkn]at hk;exact hkn (hH.inj k n hk hl Bm)
      have hHn:=Zy kH hB Nt;have hn':aV (H0++[.aG e' true iB]) H0.length = .aG e' true iB:=Ch;have hFn:Frame h.length h g w (H0++[.aG e' true iB]) (g.add H0.length (g.β n) (g.o n+off*e') g.I) w:=by
       refine⟨kF.ext,kF.size,kF.os,kF.tape,kF.output,λk hk=>?_,kF.keep,λk hk=>?_,λk hk=>?_⟩
       .have hne:k≠H0.length:=by omega
        simp[Gh.add,hne]
       .rcases sR k H0.length with h1 |h1 |h1
        .have hne:k≠H0.length:=by omega
         rw[uC h1]at hk;simp only[Gh.add,aD hne];exact kF.mG k hk
        .exact .inl ⟨n,hl,by simp[Gh.add,h1]⟩
        .rw[uW h1]at hk;simp[O.live]at hk
       .have he:aV (H0++[.aG e' true iB]) k=aV H0 k:=uC (by omega)
        have:=kF.oR k hk;exact⟨λes he'=>by rw[he]at he'⊢;exact this.arr es he',λkv hk=>this.mp kv (by rw[<-he];exact hk),λhk=>this.lp (by rw[<-he];exact hk)⟩
      have UN:∀k,∀n∈(aV H0 k).dw,n<H0.length:=λk=>alM (kH.obj k)
      have alS:bT φ (H0++[.aG e' true iB]) (g.add H0.length (g.β n) (g.o n+off*e') g.I) w [.jc H0.length 0 len,.d (.i .i64 i),.d (.sl e' false vs)] args.toList:=by
       rw[hargs];simp only[bT,yN];refine⟨?_,by simpa only[aI,Gh.add]using r1,by simpa only[aI,Gh.add]using r2⟩
       simp only[aI];refine⟨by simp,rfl,λes he=>?_⟩
       rw[hn']at he⊢;simp only[O.gM,gw]at he;subst he;refine⟨cap,by simp[Gh.add],hlc,by simp only[O.len];omega,CS,T,by simpa only[Gh.add,dF]using hb,?_,hone⟩
       simp only[Gh.add,dF,nQ];rw[ni]at oX;omega
      have hin:(i.toNat:Int)=i:=by omega
      have sE:(H0++[O.aG e' true iB]).length=h.length+1:=by simp[FZ]
      have fin:∀{v1:V}{K:List O}{j:Nat}{Z:List (List D)},run (λ_=>none) (H0++[O.aG e' true iB]).length oZ [.c (u9 e' z fo fr)] (oE 0 [.jc H0.length 0 len,.d (.i .i64 i),.d (.sl e' false vs)]) (H0++[.aG e' true iB])=some (.val v1 K) ->
        (v1 = .aR j 0 (len+vs.length)\/v1 = .jc j 0 (len+vs.length))->(∀k,k<H0.length->aV K k=aV H0 k)->H0.length<=j->aV K j = .aG e' true Z->Z.take (len+vs.length)=jO i vs ((rows.drop off).take len)->len+vs.length<=Z.length ->
        Calls P (φ f) args w λe w'=>∃v' g',e = .returned v'/\eU φ (H0++[O.aG e' true (jO i vs ((rows.drop off).take len))]) g' w' /\
         aI φ (H0++[O.aG e' true (jO i vs ((rows.drop off).take len))]) g' w' (.aR h.length 0 (len+vs.length)) v'/\Frame h.length h g w (H0++[O.aG e' true (jO i vs ((rows.drop off).take len))]) g' w':=by
       intro v1 K j Z hrun TW h0 hj hZ hZt hZl;refine UO hm hk hF I5 hres hHn alS hrun λv' g' w' q1 q2 q3=>?_
       have q4:Frame h.length h g w K g' w':=by
        have q5:Frame h.length (H0++[.aG e' true iB]) (g.add H0.length (g.β n) (g.o n+off*e') g.I) w K g' w' :=
         ⟨q3.ext,q3.size,q3.os,q3.tape,q3.output,λk hk=>q3.oQ k (by omega),q3.keep,q3.mG,λk hk=>q3.oR k (by omega)⟩
        exact hFn.trans q5
       have q6:=alP (p:=len+vs.length) q1 h0 UN hj hZ;have q7:=alQ (p:=len+vs.length) q4 h0 (by omega) hj hZ
       rw[hZt]at q6 q7;refine⟨v',_,rfl,q6,?_,q7⟩;have q8:aI φ K g' w' (.aR j 0 (len+vs.length)) v':=by
        rcases TW with rfl |rfl
        .exact q2
        .exact Ik q2
       simp only[aI]at q8⊢;obtain⟨_,p1,p2⟩:=q8;refine⟨by simp;omega,p1,λes he=>?_⟩
       rw[<-FZ,Ch]at he⊢;simp only[O.gM,gw]at he;subst he;obtain⟨ajc,c1,c2,c3,Tf,T2,c4,c5⟩:=p2 e' (by rw[hZ];rfl)
       refine⟨ajc,by simpa[Gh.add]using c1,c2,?_,Tf,T2,by simpa[Gh.add]using c4,by simpa[Gh.add]using c5⟩
       simp only[O.len];rw[<-hZt];simp;omega
      by_cases Nq:i=len
      .subst Nq
       have hrun:=alC (Pv:=λ_=>none) (q:=(H0++[O.aG e' true iB]).length) (fo:=fo) (fr:=fr) (z:=z) hn' (by omega) hv hroom
       by_cases wM:len+vs.length<=iB.length
       .rw[aK wM]at hrun
        refine fin hrun (.inr rfl) (λk hk=>?_) (gf _) (Z:=aq iB len vs) ?_ ?_ ?_
        .rw[pZ (by omega),uC hk]
        .rw[Xb,Ch]
        .rw[<-Oq];exact alH (by omega)
        .rw[Bi wM];exact wM
       .rw[aD wM]at hrun
        refine fin hrun (.inl rfl) (λk hk=>?_) (by simp) (Z:=iB.take len++vs) ?_ ?_ ?_
        .rw[uC (by simp;omega),uC hk]
        .exact Ch
        .rw[<-Oq];exact alI (by omega)
        .simp;omega
      .obtain⟨i',rfl⟩:∃i':Nat,i=i':=⟨i.toNat,by omega⟩
       have hi':i'<len:=by omega
       have hrun:=alD (Pv:=λ_=>none) (q:=(H0++[O.aG e' true iB]).length) (fo:=fo) (fr:=fr) (z:=z) hn' (by omega) (by simp) hv hroom hi' hz
       by_cases wM:len+vs.length<=iB.length
       .rw[aK wM]at hrun
        refine fin hrun (.inr rfl) (λk hk=>?_) (gf _) (Z:=aq (aq iB (i'+vs.length) ((iB.drop i').take (len - i'))) i' vs) ?_ ?_ ?_
        .rw[pZ (by omega),uC hk]
        .rw[Xb,Ch]
        .rw[<-Oq];exact(alL wM hi').1
        .rw[(alL wM hi').2];exact wM
       .rw[aD wM]at hrun
        refine fin hrun (.inl rfl) (λk hk=>?_) (by simp) (Z:=jO i' vs (iB.take len)) ?_ ?_ ?_
        .rw[uC (by simp;omega),uC hk]
        .exact Ch
        .rw[<-Oq,gC (by rw[alJ (by simp;omega)];simp;omega)]
        .rw[alJ (by simp;omega)];simp;omega
     .simp at hp
    .simp at hp
   .simp at hp
  .simp at hp
 .simp at hp
end
end Go.VS
