import Derived.Test.YtjpdopldkeodgaaGreatV00
import Derived.Test.YtjpdopldkeodgaaGreatV02
set_option linter.all false
set_option maxHeartbeats 1000000
namespace Go.VS
abbrev Env:=List (Nat×V)
inductive K where
 |c(c:C)
 |cr(id:Nat)
abbrev Fin:=Ex->Env->List O->Option dL
def A1(fin:Fin)(e:Ex)(s:St):Option dL:=if s.ok then fin e s.env s.heap else none
noncomputable def resume (rec:Rec)(q:Nat)(fin:Fin):List K->Ex->St->Option dL
 | [],e,s=>A1 fin e s
 | .c c::k,.normal,s=>resume rec q fin k (cS rec q c s).1 (cS rec q c s).2
 | .c _::k,e,s=>resume rec q fin k e s
 | .cr _::k,.normal,s=>resume rec q fin k .normal s
 | .cr id::k,.exit j,s=>if j=id then resume rec q fin k .normal s else resume rec q fin k (.exit j) s
 | .cr _::k,.ret,s=>resume rec q fin k .ret s
section
variable {P:Prog}{q:Nat}{fin:Fin}{k:List K}{e:Env}{h:List O}
theorem ko(rec:Rec):∀(k:List K)(x:Ex)(s:St),s.ok=false->resume rec q fin k x s=none
 | [],x,s,hs=>by simp[resume,A1,hs]
 | .c c::k,.normal,s,hs=>by
  simp only[resume];refine ko rec k _ _ ?_;cases hq:(cS rec q c s).2.ok with
  |false=>rfl
  |true=>rw[zp hq]at hs;simp at hs
 | .c _::k,.exit j,s,hs=>by simp only[resume];exact ko rec k _ _ hs
 | .c _::k,.ret,s,hs=>by simp only[resume];exact ko rec k _ _ hs
 | .cr _::k,.normal,s,hs=>by simp only[resume];exact ko rec k _ _ hs
 | .cr id::k,.exit j,s,hs=>by
  simp only[resume];split
  .exact ko rec k _ _ hs
  .exact ko rec k _ _ hs
 | .cr _::k,.ret,s,hs=>by simp only[resume];exact ko rec k _ _ hs
def c9(e:Env):A->V
 | .t n=>cC e n
 | .k x=>.d x
@[simp] theorem Hy(e:Env)(n:Nat):c9 e (.t n)=cC e n:=rfl
@[simp] theorem aax(e:Env)(x:D):c9 e (.k x) = .d x:=rfl
def St.res(s:St):Option (Env×List O):=if s.ok then some (s.env,s.heap)else none
def cT(rec:Rec)(i:I)(e:Env)(h:List O):Option (Env×List O):=(aU rec i ⟨e,h,true⟩).res
noncomputable def run (P:Prog)(q:Nat)(fin:Fin)(k:List K)(e:Env)(h:List O):Option dL:=resume (ev P) q fin k .normal ⟨e,h,true⟩
noncomputable def uJ (P:Prog)(q:Nat)(fin:Fin)(x:Ex)(k:List K)(e:Env)(h:List O):Option dL:=resume (ev P) q fin k x ⟨e,h,true⟩
noncomputable def tE (P:Prog)(q:Nat)(fin:Fin)(js:List J)(k:List K)(e:Env)(h:List O):Option dL:=resume (ev P) q fin k .normal (fX (ev P) js ⟨e,h,true⟩)
noncomputable def Li (P:Prog)(q:Nat)(fin:Fin)(js:List J)(k:List K)(o:Option (Env×List O)):Option dL :=
 match o with
 |some p=>tE P q fin js k p.1 p.2
 |none=>none
noncomputable def QM (P:Prog)(q:Nat)(fin:Fin)(d:Nat)(js:List J)(k:List K)(e:Env)(o:Option (Bool×List O)):Option dL :=
 match o with
 |some p=>tE P q fin js k ((d,.d (.b p.1))::e) p.2
 |none=>none
noncomputable def Lj (P:Prog)(q:Nat)(fin:Fin)(a b:C)(k:List K)(e:Env)(h:List O)(x:Bool):Option dL :=
 if x then run P q fin (.c a::k) e h else run P q fin (.c b::k) e h
noncomputable def XX (P:Prog)(q:Nat)(fin:Fin)(a b:C)(k:List K)(e:Env)(h:List O)(v:V):Option dL :=
 match v with
 | .d (.b x)=>Lj P q fin a b k e h x
 |_=>none
noncomputable def Hz (P:Prog)(q:Nat)(fin:Fin)(k:List K)(o:Option (Env×List O)):Option dL :=
 match o with
 |some p=>run P q fin k p.1 p.2
 |none=>none
noncomputable def Ll (P:Prog)(q:Nat)(fin:Fin)(k:List K)(o:Option (Ex×Env×List O)):Option dL :=
 match o with
 |some p=>uJ P q fin p.1 k p.2.1 p.2.2
 |none=>none
@[simp] theorem aay{js:List J}:Li P q fin js k (some (e,h))=tE P q fin js k e h:=rfl
@[simp] theorem aaz{js:List J}:Li P q fin js k none=none:=rfl
@[simp] theorem aaA{d:Nat}{js:List J}{x:Bool}:QM P q fin d js k e (some (x,h))=tE P q fin js k ((d,.d (.b x))::e) h:=rfl
@[simp] theorem aaB{d:Nat}{js:List J}:QM P q fin d js k e none=none:=rfl
@[simp] theorem aaC{a b:C}:Lj P q fin a b k e h true=run P q fin (.c a::k) e h:=rfl
@[simp] theorem aaD{a b:C}:Lj P q fin a b k e h false=run P q fin (.c b::k) e h:=rfl
@[simp] theorem aaE{a b:C}{x:Bool}:XX P q fin a b k e h (.d (.b x))=Lj P q fin a b k e h x:=rfl
@[simp] theorem aaF:Hz P q fin k (some (e,h))=run P q fin k e h:=rfl
@[simp] theorem aaG:Hz P q fin k none=none:=rfl
@[simp] theorem aaH{x:Ex}:Ll P q fin k (some (x,e,h))=uJ P q fin x k e h:=rfl
@[simp] theorem aaI:Ll P q fin k none=none:=rfl
noncomputable def uK (P:Prog)(js:List J)(x:A)(e:Env)(h:List O):Option (Bool×List O):=
 match(fX (ev P) js ⟨e,h,true⟩).res with
 |some (e',h')=>match c9 e' x with
  | .d (.b y)=>some (y,h')
  |_=>none
 |none=>none
def HA(fM:Bool)(g:V)(h:List O)(B:Option (Bool×List O)):Option (Bool×List O):=
 match g with
 | .d (.b g)=>if g=fM then some (fM,h)else B
 |_=>none
def xW(fM g:Bool)(h:List O)(B:Option (Bool×List O)):Option (Bool×List O):=if g=fM then some (fM,h)else B
@[congr] theorem aaJ {fM g g':Bool}{h:List O}{B B':Option (Bool×List O)}(hg:g=g')(hB:g'=(!fM)->B=B'):xW fM g h B=xW fM g' h B':=by
 subst hg;unfold xW;split
 .rfl
 .rename_i hne
  refine hB ?_;cases g<;>cases fM<;>simp at hne⊢
@[simp] theorem aaK{fM g:Bool}{h:List O}{B:Option (Bool×List O)}:HA fM (.d (.b g)) h B=xW fM g h B:=rfl
@[simp] theorem aaL{g y:Bool}{h:List O}:xW true g h (some (y,h))=some (g||y,h):=by cases g<;>rfl
@[simp] theorem aaM{g y:Bool}{h:List O}:xW false g h (some (y,h))=some (g&&y,h):=by cases g<;>rfl
@[simp] theorem aaN{h:List O}{B:Option (Bool×List O)}:xW true true h B=some (true,h):=rfl
@[simp] theorem aaO{h:List O}{B:Option (Bool×List O)}:xW false false h B=some (false,h):=rfl
@[simp] theorem aaP{h:List O}{B:Option (Bool×List O)}:xW true false h B=B:=rfl
@[simp] theorem aaQ{h:List O}{B:Option (Bool×List O)}:xW false true h B=B:=rfl
theorem QN(rec:Rec)(i:I)(e:Env)(h:List O):(∃e' h',aU rec i ⟨e,h,true⟩=⟨e',h',true⟩/\cT rec i e h=some (e',h'))\/((aU rec i ⟨e,h,true⟩).ok=false/\cT rec i e h=none):=by
 unfold cT St.res;generalize aU rec i ⟨e,h,true⟩=s;obtain⟨e',h',ok⟩:=s;cases ok with
 |true=>exact .inl ⟨e',h',rfl,rfl⟩
 |false=>exact .inr ⟨rfl,rfl⟩
theorem xX{rec:Rec}{js:List J}{s:St}(h:s.ok=false):(fX rec js s).ok=false:=by
 cases hq:(fX rec js s).ok with
 |false=>rfl
 |true=>rw[uI hq]at h;simp at h
@[simp] theorem aaR:tE P q fin [] k e h=run P q fin k e h:=rfl
@[simp] theorem aaS{i:I}{js:List J}:tE P q fin (.op i::js) k e h=Li P q fin js k (cT (ev P) i e h):=by
 simp only[tE,fX,jv];rcases QN (ev P) i e h with⟨e',h',h1,h2⟩ |⟨h1,h2⟩
 .rw[h1,h2];rfl
 .rw[h2]
  exact ko _ _ _ _ (xX h1)
noncomputable def QO (d:Option Nat)(e:Env)(h:List O)(o:Option (Env×List O)):Option (Env×List O):=
 match d,o with
 |some d,some (e',_)=>if V.same (cC e' d) (cC e d)then some (e,h)else none
 |_,_=>none
@[simp] theorem aaT{d:Nat}{e':Env}{h':List O}:QO (some d) e h (some (e',h'))=if V.same (cC e' d) (cC e d)then some (e,h)else none:=rfl
@[simp] theorem aaU{i:I}{js:List J}:tE P q fin (.re i::js) k e h=Li P q fin js k (QO i.dst e h (cT (ev P) i e h)):=by
 simp only[tE,fX,jv,again];cases hd:i.dst with
 |none=>exact ko _ _ _ _ (xX rfl)
 |some d =>
  rcases QN (ev P) i e h with⟨e',h',h1,h2⟩ |⟨h1,h2⟩
  .rw[h1,h2]
   simp only[xI,QO];split
   .rfl
   .exact ko _ _ _ _ (xX rfl)
  .rw[h2]
   simp only[h1,AM,fG,dK];exact ko _ _ _ _ (xX rfl)
theorem XY(rec:Rec)(js:List J)(e:Env)(h:List O):(∃e' h',fX rec js ⟨e,h,true⟩=⟨e',h',true⟩)\/(fX rec js ⟨e,h,true⟩).ok=false:=by
 generalize fX rec js ⟨e,h,true⟩=s;obtain⟨e',h',ok⟩:=s;cases ok with
 |true=>exact .inl ⟨e',h',rfl⟩
 |false=>exact .inr rfl
theorem fO{e:Env}{h:List O}{ok:Bool}{x:A}:St.get ⟨e,h,ok⟩ x=c9 e x:=by cases x<;>rfl
@[simp] theorem aaV{fM:Bool}{d c:Nat}{body js:List J}{x:A}:tE P q fin (.sc fM d c body x::js) k e h =
  QM P q fin d js k (p7 (J.kj body) e) (HA fM (cC e c) h (uK P body x e h)):=by
 simp only[tE,fX,jv,fO,Hy,HA,uK];cases cC e c with
 |d y =>
  cases y with
  |b g =>
   simp only;by_cases hg:g=fM
   .simp only[aN hg];rfl
   .simp only[aG hg]
    rcases XY (ev P) body e h with⟨e',h',h1⟩ |h1
    .rw[h1]
     simp only[St.res,dH,fO];cases c9 e' x with
     |d z =>
      cases z with
      |b y=>rfl
      |_=>exact ko _ _ _ _ (xX rfl)
     |_=>exact ko _ _ _ _ (xX rfl)
    .have:(fX (ev P) body ⟨e,h,true⟩).res=none:=by simp[St.res,h1]
     rw[this];refine ko _ _ _ _ (xX ?_);generalize (fX (ev P) body ⟨e,h,true⟩).get x=z;cases z with
     |d y=>cases y<;>first |exact h1 |rfl
     |_=>rfl
  |_=>exact ko _ _ _ _ (xX rfl)
 |_=>exact ko _ _ _ _ (xX rfl)
noncomputable def QS (P:Prog)(js:List J)(x:A)(o:Option (Env×List O)):Option (Bool×List O):=
 match o with
 |some p=>uK P js x p.1 p.2
 |none=>none
noncomputable def QT (P:Prog)(d:Nat)(js:List J)(x:A)(e:Env)(o:Option (Bool×List O)):Option (Bool×List O):=
 match o with
 |some p=>uK P js x ((d,.d (.b p.1))::e) p.2
 |none=>none
@[simp] theorem aaW{js:List J}{x:A}:QS P js x (some (e,h))=uK P js x e h:=rfl
@[simp] theorem aaX{js:List J}{x:A}:QS P js x none=none:=rfl
@[simp] theorem aaY{d:Nat}{js:List J}{x:A}{y:Bool}:QT P d js x e (some (y,h))=uK P js x ((d,.d (.b y))::e) h:=rfl
@[simp] theorem aaZ{d:Nat}{js:List J}{x:A}:QT P d js x e none=none:=rfl
def XZ(v:V)(h:List O):Option (Bool×List O):=
 match v with
 | .d (.b y)=>some (y,h)
 |_=>none
@[simp] theorem aa0{y:Bool}{h:List O}:XZ (.d (.b y)) h=some (y,h):=rfl
@[simp] theorem aa1{x:A}:uK P [] x e h=XZ (c9 e x) h:=rfl
theorem Ey{js:List J}{x:A}{s:St}(hs:s.ok=false):(match(fX (ev P) js s).res with
 |some (e',h')=>match c9 e' x with
  | .d (.b y)=>some (y,h')
  |_=>none
 |none=>(none:Option (Bool×List O)))=none:=by
 have:=xX (rec:=ev P) (js:=js) hs;simp[St.res,this]
@[simp] theorem aa2{i:I}{js:List J}{x:A}:uK P (.op i::js) x e h=QS P js x (cT (ev P) i e h):=by
 simp only[uK,fX,jv];rcases QN (ev P) i e h with⟨e',h',h1,h2⟩ |⟨h1,h2⟩
 .rw[h1,h2];rfl
 .rw[h2];exact Ey h1
@[simp] theorem aa3{fM:Bool}{d c:Nat}{body js:List J}{x y:A}:uK P (.sc fM d c body x::js) y e h =
  QT P d js y (p7 (J.kj body) e) (HA fM (cC e c) h (uK P body x e h)):=by
 simp only[uK,fX,jv,fO,Hy,HA];cases cC e c with
 |d z =>
  cases z with
  |b g =>
   simp only;by_cases hg:g=fM
   .simp only[aN hg];rfl
   .simp only[aG hg]
    rcases XY (ev P) body e h with⟨e',h',h1⟩ |h1
    .rw[h1]
     simp only[St.res,dH,fO];cases c9 e' x with
     |d z =>
      cases z with
      |b y=>rfl
      |_=>exact Ey rfl
     |_=>exact Ey rfl
    .have:(fX (ev P) body ⟨e,h,true⟩).res=none:=by simp[St.res,h1]
     rw[this];refine Ey ?_;generalize (fX (ev P) body ⟨e,h,true⟩).get x=z;cases z with
     |d y=>cases y<;>first |exact h1 |rfl
     |_=>rfl
  |_=>exact Ey rfl
 |_=>exact Ey rfl
@[simp] theorem aa4:run P q fin [] e h=fin .normal e h:=rfl
@[simp] theorem aa5{id:Nat}:run P q fin (.cr id::k) e h=run P q fin k e h:=rfl
@[simp] theorem aa6:run P q fin (.c .skip::k) e h=run P q fin k e h:=rfl
theorem A3{rec:Rec}{c:C}{s:St}:resume rec q fin (.c c::k) .normal s=resume rec q fin k (cS rec q c s).1 (cS rec q c s).2:=rfl
@[simp] theorem run_seq{a b:C}:run P q fin (.c (.seq a b)::k) e h=run P q fin (.c a::.c b::k) e h:=by
 simp only[run,A3,cS];cases h:cS (ev P) q a ⟨e,h,true⟩with
 |mk x s'=>cases x<;>simp[resume]
@[simp] theorem aa7{js:List J}:run P q fin (.c (.cB js)::k) e h=tE P q fin js k e h:=rfl
@[simp] theorem aa8{fl pm:List Nat}{js:List J}:run P q fin (.c (.mG fl pm js)::k) e h=tE P q fin js k (p7 fl e) h:=rfl
def QU(d:Nat)(e:Env)(h:List O):Option (Env×List O):=(bt h (cC e d)).map λp=>((d,.d p.1)::e,p.2)
def Ez(e:Env)(h:List O):List Nat->Option (Env×List O)
 | []=>some (e,h)
 |d::ds=>(QU d e h).bind λp=>Ez p.1 p.2 ds
theorem X0:∀(ds:List Nat)(e:Env)(h:List O),(∃e' h',vV ⟨e,h,true⟩ ds=⟨e',h',true⟩/\Ez e h ds=some (e',h'))\/((vV ⟨e,h,true⟩ ds).ok=false/\Ez e h ds=none)
 | [],e,h=>.inl ⟨e,h,rfl,rfl⟩
 |d::ds,e,h=>by
  simp only[vV,Ez,QU,fO,Hy];cases ht:bt h (cC e d)with
  |none =>
   refine .inr ⟨?_,rfl⟩;simp only[Option.map_none,St.gi];cases hq:(vV (St.fail ⟨e,h,true⟩) ds).ok with
   |false=>rfl
   |true=>have:=Hw ds hq;simp at this
  |some p=>exact X0 ds _ _
@[simp] theorem aa9{ds:List Nat}:run P q fin (.c (.qJ ds)::k) e h=Hz P q fin k (Ez e h ds):=by
 simp only[run,A3,cS];rcases X0 ds e h with⟨e',h',h1,h2⟩ |⟨h1,h2⟩
 .rw[h1,h2];rfl
 .rw[h2];exact ko _ _ _ _ h1
@[simp] theorem run_ite{c:A}{a b:C}:run P q fin (.c (.ite c a b)::k) e h=XX P q fin a b k e h (c9 e c):=by
 simp only[run,A3,cS,fO];cases c9 e c with
 |d y =>
  cases y with
  |b x=>cases x<;>rfl
  |_=>exact ko _ _ _ _ rfl
 |_=>exact ko _ _ _ _ rfl
@[simp] theorem aba{id:Nat}{c:C}:run P q fin (.c (.cr id c)::k) e h=run P q fin (.c c::.cr id::k) e h:=by
 simp only[run,A3,cS];cases h:cS (ev P) q c ⟨e,h,true⟩with
 |mk x s' =>
  cases x with
  |normal=>simp[resume]
  |ret=>simp[resume]
  |exit j=>simp only[resume];split<;>rfl
@[simp] theorem abb{id:Nat}:run P q fin (.c (.exit id)::k) e h=uJ P q fin (.exit id) k e h:=rfl
@[simp] theorem abc:run P q fin (.c .ret::k) e h=uJ P q fin .ret k e h:=rfl
@[simp] theorem abd{id:Nat}{c:C}:uJ P q fin (.exit id) (.c c::k) e h=uJ P q fin (.exit id) k e h:=rfl
@[simp] theorem abe{id j:Nat}:uJ P q fin (.exit id) (.cr j::k) e h=if id=j then run P q fin k e h else uJ P q fin (.exit id) k e h:=rfl
@[simp] theorem abf{x:Ex}:uJ P q fin x [] e h=fin x e h:=rfl
@[simp] theorem abg:uJ P q fin .ret k e h=fin .ret e h:=by
 unfold uJ;induction k with
 |nil=>rfl
 |cons x k ih=>cases x<;>simpa[resume]using ih
@[simp] theorem abh:uJ P q fin .normal k e h=run P q fin k e h:=rfl
@[simp] theorem abi{ds:List Nat}:run P q fin (.c (.keep ds)::k) e h=Hz P q fin k (canon q ds e h):=by
 simp only[run,A3,cS];cases canon q ds e h with
 |none=>exact ko _ _ _ _ rfl
 |some p=>rfl
def X1:Option dL->Option (Ex×Env×List O)
 |some (.out x e h)=>some (x,e,h)
 |_=>none
@[simp] theorem abj{x:Ex}{e:Env}{h:List O}:X1 (some (.out x e h))=some (x,e,h):=rfl
noncomputable def EA (P:Prog)(q:Nat)(live:List Nat)(c:C)(p:Option (Env×List O)):Option dL:=p.bind λp=>ev P (.loop q live c p.1 p.2)
@[simp] theorem abk{live:List Nat}{c:C}{e:Env}{h:List O}:EA P q live c (some (e,h))=ev P (.loop q live c e h):=rfl
@[simp] theorem abl{live:List Nat}{c:C}:run P q fin (.c (.loop live c)::k) e h =
  Ll P q fin k (X1 (EA P q live c (canon q live e h))):=by
 simp only[run,A3,cS,EA];cases canon q live e h with
 |none=>exact ko _ _ _ _ rfl
 |some p =>
  simp only[Option.bind];generalize ev P (.loop q live c p.1 p.2)=v;cases v with
  |none=>exact ko _ _ _ _ rfl
  |some r =>
   cases r with
   |out x e h=>rfl
   |_=>exact ko _ _ _ _ rfl
def xY(res:List RV)(keep:Bool)(m:Nat)(e:Env)(h:List O):Option dL:=finish res keep m ⟨e,h,true⟩
def Lm(res:List RV)(keep:Bool)(m:Nat):Fin
 | .normal,e,h | .ret,e,h=>xY res keep m e h
 | .exit _,_,_=>none
theorem au{f:Nat}{fn:F}(hf:P f=some fn)(hp:fn.AW=none)(xs:List V)(h:List O):
  ev P (.call f xs h)=run P h.length (Lm fn.res fn.keep h.length) [.c fn.code] (oR 0 xs) h:=by
 rw[ev_eq];simp only[m9,hf,hp,run,resume];cases hc:cS (ev P) h.length fn.code ⟨oR 0 xs,h,true⟩with
 |mk x s =>
  obtain⟨e',h',ok⟩:=s;cases x<;>cases ok<;>simp[A1,Lm,xY,finish]
theorem CH{f:Nat}{fn:F}{p:List V->List O->Option (V×List O)}(hf:P f=some fn)(hp:fn.AW=some p)(xs:List V)(h:List O):
  ev P (.call f xs h)=(p xs h).map λr=>.val r.1 r.2:=by
 rw[ev_eq];simp only[m9,hf,hp]
noncomputable def HB (P:Prog)(q:Nat)(live:List Nat)(c:C):Fin
 | .normal,e,h=>EA P q live c (canon q live e h)
 |x,e,h=>some (.out x e h)
theorem bY(q:Nat)(live:List Nat)(c:C)(env:Env)(h:List O):
  ev P (.loop q live c env h)=run P q (HB P q live c) [.c c] env h:=by
 rw[ev_eq];simp only[m9,run,resume];cases hc:cS (ev P) q c ⟨env,h,true⟩with
 |mk x s =>
  obtain⟨e',h',ok⟩:=s;cases x<;>cases ok<;>simp[A1,HB,EA]
def QV(e:Env)(n:Nat)(h:List O):O->Option (Ex×Env×List O)
 | .lp _ _ _ x _=>some (x,e,h.set n .dead)
 |_=>none
def QW(e:Env)(n:Nat)(o:Option (V×List O)):Option (Ex×Env×List O):=
 match o with
 |some p=>QV e n p.2 (aV p.2 n)
 |none=>none
@[simp] theorem abm{n:Nat}{v:V}:QW e n (some (v,h))=QV e n h (aV h n):=rfl
@[simp] theorem abn{n:Nat}:QW e n none=none:=rfl
@[simp] theorem abo{n:Nat}{ps:List Nat}{a b:C}{x:Ex}{env:Env}:QV e n h (.lp ps a b x env)=some (x,e,h.set n .dead):=rfl
def X2(e:Env)(o:Option (List O)):Option (Env×List O):=o.map λh=>(e,h)
@[simp] theorem abp:X2 e (some h)=some (e,h):=rfl
@[simp] theorem abq{d n:Nat}:run P q fin (.c (.xT d n)::k) e h=Hz P q fin k (X2 e (CF h n (cC e d))):=by
 simp only[run,A3,cS,fO,Hy];cases CF h n (cC e d)with
 |none=>exact ko _ _ _ _ rfl
 |some h'=>rfl
@[simp] theorem abr{x:A}{live ps:List Nat}{a b:C}:run P q fin (.c (.sK x live ps a b)::k) e h =
  Ll P q fin k (QW e h.length (l9 (aD (ev P) (h++[.lp ps a b .normal (jS live e)])) (c9 e x) [.ju h.length])):=by
 simp only[run,A3,cS,fO];cases l9 (aD (ev P) (h++[.lp ps a b .normal (jS live e)])) (c9 e x) [.ju h.length]with
 |none=>exact ko _ _ _ _ rfl
 |some p =>
  obtain⟨v,h'⟩:=p;simp only[abm];cases aV h' h.length with
  |lp _ _ _ y _=>rfl
  |_=>exact ko _ _ _ _ rfl
def CI(m:Nat):Fin:=λx _ h=>(cut h m []).map λL=>.out x [] (sub h L)
noncomputable def CJ (P:Prog)(m:Nat)(b:C):Fin
 | .normal,e,h=>run P m (CI m) [.c b] e h
 |_,_,_=>none
@[simp] theorem abt{m:Nat}{x:Ex}:CI m x e h=(cut h m []).map λL=>.out x [] (sub h L):=rfl
@[simp] theorem abu{m:Nat}{b:C}:CJ P m b .normal e h=run P m (CI m) [.c b] e h:=rfl
theorem QX(ps:List Nat)(a b:C)(xs:List V)(env:Env)(h:List O):
  ev P (.round ps a b xs env h)=run P h.length (CJ P h.length b) [.c a] (ps.zip xs++env) h:=by
 rw[ev_eq];simp only[m9,run,resume];cases hc:cS (ev P) h.length a ⟨ps.zip xs++env,h,true⟩with
 |mk x s =>
  obtain⟨e',h',ok⟩:=s;cases x<;>cases ok<;>simp[A1,CJ,run,resume];cases hb:cS (ev P) h.length b ⟨e',h',false⟩with
  |mk y s2 =>
   cases hs:s2.ok with
   |false=>simp
   |true=>have:=zp (rec:=ev P) (m:=h.length) (c:=b) (s:=⟨e',h',false⟩) (by rw[hb];exact hs);simp at this
@[simp] theorem abv{live:List Nat}{c:C}:HB P q live c .normal e h=EA P q live c (canon q live e h):=rfl
@[simp] theorem abw{live:List Nat}{c:C}{id:Nat}:HB P q live c (.exit id) e h=some (.out (.exit id) e h):=rfl
@[simp] theorem abx{live:List Nat}{c:C}:HB P q live c .ret e h=some (.out .ret e h):=rfl
@[simp] theorem aby{res:List RV}{keep:Bool}{m:Nat}:Lm res keep m .normal e h=xY res keep m e h:=rfl
@[simp] theorem abz{res:List RV}{keep:Bool}{m:Nat}:Lm res keep m .ret e h=xY res keep m e h:=rfl
end
end Go.VS
namespace Go.VS
@[simp] theorem abA(k n:Nat)(v:V)(e:Env):cC ((k,v)::e) n=if k=n then v else cC e n:=rfl
@[simp] theorem abB(n:Nat):cC [] n = .u:=rfl
def p1(d:Nat)(e:Env)(h:List O)(o:Option V):Option (Env×List O):=o.map λv=>((d,v)::e,h)
def p2(d:Nat)(e:Env)(o:Option (V×List O)):Option (Env×List O):=o.map λr=>((d,r.1)::e,r.2)
def xZ(d:Option Nat)(e:Env)(o:Option (V×List O)):Option (Env×List O):=o.map λr=>((match d with |some d=>(d,r.1)::e |none=>e),r.2)
def pq(d:Option Nat)(e:Env)(h:List O)(o:Option V):Option (Env×List O):=o.map λv=>((match d with |some d=>(d,v)::e |none=>e),h)
def ph(e:Env)(o:Option (List O)):Option (Env×List O):=o.map λh=>(e,h)
section
variable {d:Nat}{e:Env}{h:List O}{v:V}
@[simp] theorem abC:p1 d e h (some v)=some ((d,v)::e,h):=rfl
@[simp] theorem abD:p1 d e h none=none:=rfl
@[simp] theorem abE:p2 d e (some (v,h))=some ((d,v)::e,h):=rfl
@[simp] theorem abF:p2 d e none=none:=rfl
@[simp] theorem abG:xZ (some d) e (some (v,h))=some ((d,v)::e,h):=rfl
@[simp] theorem abH:xZ none e (some (v,h))=some (e,h):=rfl
@[simp] theorem abI{dd:Option Nat}:xZ dd e none=none:=rfl
@[simp] theorem abJ:pq (some d) e h (some v)=some ((d,v)::e,h):=rfl
@[simp] theorem abK:pq none e h (some v)=some (e,h):=rfl
@[simp] theorem abL{dd:Option Nat}:pq dd e h none=none:=rfl
@[simp] theorem abM:ph e (some h)=some (e,h):=rfl
@[simp] theorem abN:ph e none=none:=rfl
end
theorem mg{d:Nat}{e:Env}{h:List O}{o:Option V}:(St.fu ⟨e,h,true⟩ d o).res=p1 d e h o:=by cases o<;>rfl
theorem zq{d:Nat}{e:Env}{h:List O}{o:Option (V×List O)}:(St.gi ⟨e,h,true⟩ d o).res=p2 d e o:=by cases o<;>rfl
theorem EB{d:Option Nat}{e:Env}{h:List O}{o:Option (V×List O)}:(St.lH ⟨e,h,true⟩ d o).res=xZ d e o:=by cases o<;>cases d<;>rfl
theorem Ln{d:Option Nat}{e:Env}{h:List O}{o:Option V}:(St.m8 ⟨e,h,true⟩ d o).res=pq d e h o:=by cases o<;>cases d<;>rfl
theorem X3{e:Env}{h:List O}{o:Option (List O)}:(St.sL ⟨e,h,true⟩ o).res=ph e o:=by cases o<;>rfl
theorem get_map{e:Env}{h:List O}{ok:Bool}{xs:List A}:xs.map (St.get ⟨e,h,ok⟩)=xs.map (c9 e):=vM λ_ _=>fO
def QY(c a b:V):Option V:=match c with | .d (.b x)=>some (if x then a else b) |_=>none
def QZ(fz:Bool)(n:Nat)(v:V)(h:List O):Option (V×List O):=
 if v.cells.length=n/\v.known=true then
  if fz then some (mkRef v.cells,h)else some (.loc h.length 0 0,h++[eP n [v.cells]])
 else none
def abO(fz:Bool)(n:Nat)(v:V)(h:List O):Option (V×List O):=
 if v.cells.length=n/\v.known=true then
  if fz then(eY v.cells).map λcs=>(.d (.ref cs),h)else some (.loc h.length 0 0,h++[eP n [v.cells]])
 else none
def Q2(h:List O)(n:Nat)(p v:V):Option (V×List O):=
 match p with
 | .loc m 0 0 =>
  match aV h m with
  | .aI _ true [z]=>if z.length=n/\v.cells.length=n/\v.known=true then some (mkRef v.cells,h.set m .dead)else none
  |_=>none
 |_=>none
def Q3(fz:Bool)(es n:Nat)(rows:Option (List (List V)))(h:List O):Option (V×List O):=
 if fz then(rows.bind fQ).map λrows=>(.d (.sl es false rows),h)else rows.map λrows=>(.aR h.length 0 n,h++[eP es rows])
def Q4(f:Nat)(a b:List V):V :=
 match eY a,eY b with
 |some x,some y=>.d (.fn f x y)
 |_,_=>.fn f a b
def Q5:V->Option V
 | .d (.ref cs)=>some (.d (.ref cs))
 | .rf cs=>some (.rf cs)
 | .loc n r c=>some (.loc n r c)
 | .d (.kf t v)=>some (.d (.kf t v))
 |_=>none
def CL(e:Env)(dflt:Int):Option A->Option Int
 |none=>some dflt
 |some a=>asInt (c9 e a)
section
variable {rec:Rec}{d:Nat}{e:Env}{h:List O}
@[simp] theorem abP{x:A}:cT rec (.mv d x) e h=some ((d,c9 e x)::e,h):=by simp only[cT,aU,fO];rfl
@[simp] theorem abQ{c a b:A}:cT rec (.pick d c a b) e h=p1 d e h (QY (c9 e c) (c9 e a) (c9 e b)):=by
 simp only[cT,aU,fO,QY];generalize c9 e c=v;cases v with
 |d y=>cases y<;>first |rfl |(simp only;split<;>rfl)
 |_=>rfl
@[simp] theorem abR{x:A}{n:Nat}{fz:Bool}:cT rec (.box d x n fz) e h=p2 d e (QZ fz n (c9 e x) h):=by
 simp only[cT,aU,fO,QZ];split
 .cases fz
  .simp only[fG,dK];exact zq
  .rfl
 .rfl
@[simp] theorem abS{z:List D}:cT rec (.new d z) e h=some ((d,.loc h.length 0 0)::e,h++[.aI z.length true [z]]):=rfl
@[simp] theorem abT{z:List D}{ps:List (Nat×Nat×A)}:cT rec (.build d z ps) e h=p1 d e h ((fill (z.map .d) (ps.map λp=>(p.1,p.2.1,c9 e p.2.2))).map Cx):=by
 simp only[cT,aU,mg,fO]
@[simp] theorem abU{es n:Nat}{z:List D}{ps:List (Nat×A)}{fz:Bool}:cT rec (.mZ d es n z ps fz) e h=p2 d e (Q3 fz es n (xU (List.replicate n (z.map V.d)) es (ps.map λp=>(p.1,c9 e p.2))) h):=by
 simp only[cT,aU,fO,Q3];cases fz
 .simp only[fG,dK];exact zq
 .simp only[dH,mg]
  generalize (xU _ _ _).bind fQ=o;cases o<;>rfl
@[simp] theorem abV{x:A}{n:Nat}{ag:Bool}:cT rec (.ld d x n ag) e h=p1 d e h (zl h n ag (c9 e x)):=by simp only[cT,aU,mg,fO]
@[simp] theorem abW{x y:A}{n:Nat}:cT rec (.st x y n false) e h=ph e (KW h n (c9 e x) (c9 e y)):=by simp only[cT,aU,fG,dK,X3,fO]
@[simp] theorem abX{y:A}{n:Nat}:cT rec (.st (.t d) y n true) e h=p2 d e (Q2 h n (cC e d) (c9 e y)):=by
 simp only[cT,aU,dH,fO,Hy,Q2];generalize cC e d=v;cases v with
 |loc m r c =>
  cases r with
  |zero =>
   cases c with
   |zero =>
    simp only;generalize aV h m=ob;cases ob with
    |aI es ex rows =>
     cases ex with
     |false=>rfl
     |true =>
      match rows with
      | []=>rfl
      |_::_::_=>rfl
      | [z] =>
       simp only;split
       .exact zq
       .rfl
    |_=>rfl
   |succ c=>rfl
  |succ r=>rfl
 |_=>rfl
@[simp] theorem abY{x:A}{o n:Nat}:cT rec (.fa d x o n) e h=p1 d e h (fa h o n (c9 e x)):=by simp only[cT,aU,mg,fO]
@[simp] theorem abZ{x i:A}{es:Nat}:cT rec (.jm d x i es) e h=p1 d e h (jm es (c9 e x) (c9 e i) h):=by simp only[cT,aU,mg,fO]
@[simp] theorem ab0{x i:A}{len es:Nat}:cT rec (.oP d x i len es) e h=p1 d e h (oP h len es (c9 e x) (c9 e i)):=by simp only[cT,aU,mg,fO]
@[simp] theorem ab1{x:A}{o n:Nat}{ag:Bool}:cT rec (.sG d x o n ag) e h=p1 d e h (K4 o n ag (c9 e x)):=by simp only[cT,aU,mg,fO]
@[simp] theorem ab2{op:BinOp}{x y:A}:cT rec (.bin d op x y) e h=p1 d e h (Cy op (c9 e x) (c9 e y)):=by simp only[cT,aU,mg,fO]
@[simp] theorem ab3{neg:Bool}{x y:A}{ks:List CK}:cT rec (.eqv d neg x y ks) e h=p1 d e h (KS ks neg (c9 e x) (c9 e y)):=by simp only[cT,aU,mg,fO]
@[simp] theorem ab4{neg:Bool}{x:A}{k:NK}:cT rec (.qH d neg x k) e h=p1 d e h ((isNil h k (c9 e x)).map λp=>.d (.b (p != neg))):=by simp only[cT,aU,mg,fO]
@[simp] theorem ab5{op:UnOp}{x:A}:cT rec (.un d op x) e h=p1 d e h (KT op (c9 e x)):=by simp only[cT,aU,mg,fO]
@[simp] theorem ab6{k:IntKind}{x:A}:cT rec (.kP d k x) e h=p1 d e h (kP k (c9 e x)):=by simp only[cT,aU,mg,fO]
@[simp] theorem ab7{x:A}{k:LK}:cT rec (.len d x k) e h=p1 d e h (rQ h k (c9 e x).wk):=by simp only[cT,aU,mg,fO]
theorem X4{ok:Bool}{dflt:Int}{x:Option A}:uF ⟨e,h,ok⟩ dflt x=CL e dflt x:=by
 cases x with
 |none=>rfl
 |some a=>simp only[uF,CL,fO]
@[simp] theorem ab8{x:A}{lo hi:Option A}{es:Nat}:cT rec (.sl d x lo hi es) e h=p1 d e h (K1 h es (c9 e x) (CL e 0 lo) (CL e (AY (c9 e x)) hi)):=by simp only[cT,aU,mg,fO,X4]
@[simp] theorem ab9{x:A}{lo hi:Option A}{es:Nat}:cT rec (.sle d x lo hi es) e h=p2 d e (K2 h es (c9 e x) (CL e 0 lo) (CL e (AY (c9 e x)) hi)):=by simp only[cT,aU,zq,fO,X4]
@[simp] theorem acd{x y:A}{es:Nat}:cT rec (.app d x y es) e h=p2 d e (Eu h es (c9 e x) (c9 e y)):=by simp only[cT,aU,zq,fO]
@[simp] theorem ace{dd:Option Nat}{x:A}{es:Nat}{z:List D}:cT rec (.qI dd x es z) e h=xZ dd e ((K6 h es z (c9 e x)).map λh=>(.tu [],h)):=by simp only[cT,aU,EB,fO]
@[simp] theorem acf{dd:Option Nat}{x y:A}{es:Nat}:cT rec (.copy dd x y es) e h=xZ dd e (copyV h es (c9 e x) (c9 e y)):=by simp only[cT,aU,EB,fO]
@[simp] theorem acg{x:A}{i:Nat}:cT rec (.ext d x i) e h=p1 d e h (K7 i (c9 e x)):=by simp only[cT,aU,mg,fO]
@[simp] theorem ach{f:Nat}{a b:List A}:cT rec (.gJ d f a b) e h=some ((d,Q4 f (a.map (c9 e)) (b.map (c9 e)))::e,h):=by
 simp only[cT,aU,get_map,Q4];generalize eY (a.map (c9 e))=x;generalize eY (b.map (c9 e))=y;cases x<;>cases y<;>rfl
@[simp] theorem aci:cT rec (.mF d) e h=some ((d,.mp h.length)::e,h++[.mp []]):=rfl
@[simp] theorem acj{m k v:A}{ks:List CK}:cT rec (.fI m k v ks) e h=ph e (K9 ks h (c9 e m) (c9 e k) (c9 e v)):=by simp only[cT,aU,X3,fO]
@[simp] theorem ack{m k:A}{z:D}{ok:Bool}{ks:List CK}:cT rec (.pY d m k z ok ks) e h=p1 d e h (K8 ks h (c9 e m) (c9 e k) z ok):=by simp only[cT,aU,mg,fO]
@[simp] theorem acm{dd:Option Nat}{f:Nat}{xs:List A}:cT rec (.call dd f xs) e h=pq dd e h (kQ rec f (xs.map (c9 e))):=by simp only[cT,aU,Ln,get_map]
@[simp] theorem acn{dd:Option Nat}{f:Nat}{xs:List A}:cT rec (.nF dd f xs) e h=xZ dd e (aJ rec h f (xs.map (c9 e))):=by simp only[cT,aU,EB,get_map]
@[simp] theorem aco{dd:Option Nat}{f:Nat}{xs:List A}:cT rec (.jo dd f xs) e h=xZ dd e (aD rec h f (xs.map (c9 e))):=by simp only[cT,aU,EB,get_map]
@[simp] theorem acp{dd:Option Nat}{x:A}{xs:List A}:cT rec (.nG dd x xs) e h=pq dd e h (l9 (kQ rec) (c9 e x) (xs.map (c9 e))):=by simp only[cT,aU,Ln,get_map,fO]
@[simp] theorem acq{dd:Option Nat}{x:A}{xs:List A}:cT rec (.pZ dd x xs) e h=xZ dd e (l9 (aD rec h) (c9 e x) (xs.map (c9 e))):=by simp only[cT,aU,EB,get_map,fO]
@[simp] theorem acr{dd:Option Nat}{x:A}{xs:List A}:cT rec (.p6 dd x xs) e h=xZ dd e (oQ rec h (c9 e x) (xs.map (c9 e))):=by simp only[cT,aU,EB,get_map,fO]
@[simp] theorem acs{x y:A}{es:Nat}:cT rec (.sJ d x y es) e h=p2 d e (zm (Eu h es (c9 e x) (c9 e y))):=by simp only[cT,aU,zq,fO]
@[simp] theorem acu{f:Nat}{xs:List A}:cT rec (.nH d f xs) e h=p2 d e (zm (aD rec h f (xs.map (c9 e)))):=by simp only[cT,aU,zq,get_map]
@[simp] theorem acv{dd:Option Nat}{f:Nat}{xs:List A}:cT rec (.calls dd f xs) e h=pq dd e h (vU rec h f (xs.map (c9 e))):=by simp only[cT,aU,Ln,get_map]
@[simp] theorem acw{x:A}:cT rec (.tD d x) e h=p1 d e h (Q5 (c9 e x)):=by
 simp only[cT,aU,fO,Q5];generalize c9 e x=v;cases v with
 |d y=>cases y<;>rfl
 |_=>rfl
@[simp] theorem acy{x lo hi mx:A}{es:Nat}:cT rec (.rN d x lo hi mx es) e h=p1 d e h (K3 h es (c9 e x) (asInt (c9 e lo)) (asInt (c9 e hi)) (asInt (c9 e mx))):=by simp only[cT,aU,mg,fO]
@[simp] theorem acz{x y:A}:cT rec (.mx d x y) e h=p1 d e h (K5 (c9 e x) (c9 e y)):=by simp only[cT,aU,mg,fO]
@[simp] theorem acA{t:Nat}{x:A}:cT rec (.nI d t x) e h=p1 d e h (uG t (c9 e x)):=by simp only[cT,aU,mg,fO]
@[simp] theorem acB{dd:Option Nat}{nm:String}{kg:List (Nat×Nat×Nat)}{x:A}{xs:List A}:cT rec (.inv dd nm kg x xs) e h=pq dd e h (cQ (kQ rec) kg (c9 e x) (xs.map (c9 e))):=by simp only[cT,aU,Ln,get_map,fO]
@[simp] theorem acC{x:A}:cT rec (.cap d x) e h=p1 d e h (KZ h (c9 e x)):=by simp only[cT,aU,mg,fO]
@[simp] theorem acD{n k:A}{es:Nat}{z:List D}:cT rec (.vS d es z n k) e h=p2 d e (KY h es z (asInt (c9 e n)) (asInt (c9 e k))):=by simp only[cT,aU,zq,fO]
@[simp] theorem acE{x k:A}{es:Nat}{z:List D}:cT rec (.sH d x k es z) e h=p2 d e (KX h es z (c9 e x) (asInt (c9 e k))):=by simp only[cT,aU,zq,fO]
@[simp] theorem acF{x:A}{n:Nat}{ag:Bool}:cT rec (.sI d x n ag) e h=p1 d e h (KU n ag (c9 e x)):=by simp only[cT,aU,mg,fO]
@[simp] theorem acG{x:A}{o n:Nat}:cT rec (.p5 d x o n) e h=p1 d e h (KV o n (c9 e x)):=by simp only[cT,aU,mg,fO]
@[simp] theorem acH{f:Nat}{x y:A}{es:Nat}:cT rec (.rO d f x y es) e h=p1 d e h (K0 h es (c9 e x) (c9 e y)):=by simp only[cT,aU,mg,fO]
end
def Q6(e:Env)(h:List O):RV->Option V
 | .t n=>some (cC e n)
 | .c n k ag=>zl h k ag (cC e n)
def x6(e:Env)(h:List O):List RV->Option (List V)
 | []=>some []
 |r::rs=>(Q6 e h r).bind λv=>(x6 e h rs).map (v::·)
theorem Q7{ok:Bool}{e:Env}{h:List O}:∀{rs:List RV},zo ⟨e,h,ok⟩ rs=x6 e h rs
 | []=>rfl
 |r::rs=>by
  have:Hv ⟨e,h,ok⟩ r=Q6 e h r:=by cases r<;>rfl
  simp only[zo,x6,this,Q7 (rs:=rs)]
def X5(h:List O)(vs:List V):Option dL:=(gZ h (vs.map V.wk)).map λds=>.val (tuple (ds.map V.d)) []
def az(h:List O)(m:Nat)(vs:List V):Option dL:=(cut h m (V.gA (vs.map V.wk))).map λL=>.val (tuple (V.iQ (L.idxOf ·) (vs.map V.wk))) (sub h L)
@[simp] theorem acI{res:List RV}{e:Env}{h:List O}:xY res false 0 e h=(x6 e h res).bind (X5 h):=by
 simp only[xY,finish,dH,Q7,and_self];cases x6 e h res<;>rfl
theorem X6{res:List RV}{e:Env}{h:List O}{keep:Bool}{m:Nat}(hk:¬(m=0/\keep=false)):xY res keep m e h=(x6 e h res).bind (az h m):=by
 simp only[xY,finish,dH,Q7,aG hk];cases x6 e h res<;>rfl
@[simp] theorem acJ{res:List RV}{e:Env}{h:List O}{m:Nat}:xY res true m e h=(x6 e h res).bind (az h m):=X6 (by simp)
@[simp] theorem acK{res:List RV}{e:Env}{h:List O}{m:Nat}{keep:Bool}:xY res keep (m+1) e h=(x6 e h res).bind (az h (m+1)):=X6 (by simp)
@[simp] theorem acL{rec:Rec}{f:Nat}{xs:List V}{ds:List D}(h:eY xs=some ds):kQ rec f xs=match rec (.call f xs [])with |some (.val v [])=>some v |_=>none:=by
 unfold kQ;rw[h]<;>rfl
attribute [simp] V.dy V.gA V.dP V.iQ O.dy O.dP sub
attribute [simp] J.kj J.rR I.dst I.wr Option.toList p7 oR canon jS rP Q6 x6 X5 tuple CL QY QZ abO mkRef Q2 Q3 Q4 Q5 Ez QU
attribute [simp] gZ eG eY V.known V.cells D.cells Cx Cy arith KS eqB jT Cz vT V.wk KZ KX KY K0 KU KV isNil KT kP rQ asInt jm oP fa pack CC zl kQ l9 K8 Hu CD l8 om AZ Ht K9 Ev aac QE K7 av KW fill xU fQ eP Eu AX K1 AY aab K3 K4 mnV K5 uG cQ K6 copyV aaa zk zm vU K2 V.plain D.CE D.plain CF
theorem ak{h:List O}{f n:Nat}{t acc:List Nat}:reach h (f+1) (n::t) acc=if n∈acc then reach h f t acc else reach h f (t++(aV h n).dy) (acc++[n]):=rfl
@[simp] theorem acM{o:O}{h:List O}:aV (o::h) 0=o:=rfl
@[simp] theorem acN{o:O}{h:List O}{n:Nat}:aV (o::h) (n+1)=aV h n:=rfl
theorem acO{h:List O}{x:O}{n:Nat}(hn:n<h.length):aV (h.set n x) n=x:=by simp[aV,List.getD,hn]
@[simp] theorem CM{h:List O}{x:O}:aV (h++[x]) h.length=x:=by simp[aV,List.getD]
theorem uL{h h':List O}{n:Nat}(hn:n<h.length):aV (h++h') n=aV h n:=by simp[aV,List.getD,th hn]
@[simp] theorem X7{h:List O}{x y:O}:(h++[x]).set h.length y=h++[y]:=by simp
@[simp] theorem acP{h:List O}{n:Nat}{acc:List Nat}:reach h n [] acc=acc:=by cases n<;>rfl
@[simp] theorem acQ{h:List O}:cut h 0 []=some []:=by simp[cut]
theorem toNat_add(a b:Nat):((a:Int)+(b:Int)).toNat=a+b:=by omega
theorem X8(a b c:Nat):((a:Int)+(b:Int) - (c:Int)).toNat=a+b - c:=by omega
theorem X9(a b c:Nat):((a:Int)+(b:Int) - ((c:Int)+(b:Int))).toNat=a - c:=by omega
theorem wrap_i64{x:Int}(h1:-9223372036854775808<=x)(h2:x<=9223372036854775807):IntKind.i64.wrap x=x:=by
 have e0:((2:Int) ^ IntKind.i64.bits)=18446744073709551616:=by decide
 have e1:((2:Int) ^ (IntKind.i64.bits - 1))=9223372036854775808:=by decide
 simp only[IntKind.wrap,e0,e1,IntKind.signed,xI];by_cases hx:0<=x
 .rw[Int.emod_eq_of_lt hx (by omega)]
  simp;omega
 .have:x % 18446744073709551616=x+18446744073709551616:=by omega
  rw[this];simp;omega
end Go.VS
namespace Go.VS
def jU(i:Int)(vs rows:List (List D)):List (List D):=rows.take i.toNat++vs++rows.drop i.toNat
def mh(es:Nat)(xs:List V)(h:List O):Option (V×List O):=
 match xs with
 | [x,.d (.i .i64 i),.d (.sl e false vs)] =>
  if e=es/\vs≠[]/\vs.all (·.length==es)=true then
   match x with
   | .d (.sl e' true [])=>if e'=es/\i=0/\vs.length<=room then some (.aR h.length 0 vs.length,h++[.aI es true vs])else none
   | .jc e'=>if e'=es/\i=0/\vs.length<=room then some (.aR h.length 0 vs.length,h++[.aI es true vs])else none
   | .aR n off len =>
    match aV h n with
    | .aI e' true rows =>
     if e'=es/\off+len<=rows.length/\0<=i/\i<=len/\len+vs.length<=room then
      some (.aR h.length 0 (len+vs.length),h.set n .dead++[.aI es true (jU i vs ((rows.drop off).take len))])else none
    |_=>none
   |_=>none
  else none
 |_=>none
def vC(es:Nat)(z:List D)(fo fr:Nat):C :=
 ((.seq (.cB [.op (.mv 6 (.k (.sl es true [])))])
 ((
  .seq (.cB [.op (.mv 10 (.t 0)),
  .op (.mv 11 (.t 1)),
  .op (.sl 12 (.t 10) (some (.t 11)) none es)])
 ((
  .seq (.cB [.op (.mv 13 (.t 2)),
  .op (.len 14 (.t 13) .sl),
  .op (.mv 7 (.t 14))])
 ((
  .seq ((.seq (.cB [.op (.mv 15 (.t 7)),
  .op (.bin 16 .eql (.t 15) (.k (.i .i64 0)))])
 (.ite (.t 16)
  ((
   .seq (.cB [.op (.mv 17 (.t 0)),
   .op (.mv 6 (.t 17))])
  (.ret)))
  (.skip))))
 ((
  .seq (.cB [.op (.mv 18 (.t 0)),
  .op (.len 19 (.t 18) .sl),
  .op (.mv 8 (.t 19))])
 ((
  .seq ((.seq (.cB [.op (.mv 20 (.t 1)),
  .op (.mv 21 (.t 8)),
  .op (.bin 22 .eql (.t 20) (.t 21))])
 (.ite (.t 22)
  ((
   .seq (.cB [.op (.mv 23 (.t 0)),
   .op (.mv 24 (.t 2)),
   .op (.app 25 (.t 23) (.t 24) es),
   .op (.mv 6 (.t 25))])
  (.ret)))
  (.skip))))
 ((
  .seq ((.seq (.cB [.op (.mv 26 (.t 8)),
  .op (.mv 27 (.t 7)),
  .op (.bin 28 .add (.t 26) (.t 27)),
  .op (.mv 29 (.t 0)),
  .op (.cap 30 (.t 29)),
  .op (.bin 31 .gtr (.t 28) (.t 30))])
 (.ite (.t 31)
  ((
   .seq (.cB [.op (.mv 32 (.t 0)),
   .op (.mv 33 (.t 1)),
   .op (.sl 34 (.t 32) none (some (.t 33)) es),
   .op (.mv 35 (.t 8)),
   .op (.mv 36 (.t 7)),
   .op (.bin 37 .add (.t 35) (.t 36)),
   .op (.mv 38 (.t 1)),
   .op (.bin 39 .sub (.t 37) (.t 38)),
   .op (.sH 40 (.t 34) (.t 39) es z),
   .op (.mv 9 (.t 40))])
  ((
   .seq (.cB [.op (.mv 41 (.t 9)),
   .op (.mv 42 (.t 1)),
   .op (.sl 43 (.t 41) (some (.t 42)) none es),
   .op (.mv 44 (.t 2)),
   .op (.copy (some 45) (.t 43) (.t 44) es)])
  ((
   .seq (.mG [] [0,1,2,3,4,5,6,7,8] [.op (.mv 46 (.t 9)),
   .op (.mv 47 (.t 1)),
   .op (.mv 48 (.t 7)),
   .op (.bin 49 .add (.t 47) (.t 48)),
   .op (.sl 50 (.t 46) (some (.t 49)) none es),
   .op (.mv 51 (.t 0)),
   .op (.mv 52 (.t 1)),
   .op (.sl 53 (.t 51) (some (.t 52)) none es),
   .op (.copy (some 54) (.t 50) (.t 53) es)])
  ((
   .seq (.cB [.op (.mv 55 (.t 9)),
   .op (.mv 6 (.t 55))])
  (.ret)))))))))
  (.skip))))
 ((
  .seq (.cB [.op (.mv 56 (.t 0)),
  .op (.mv 57 (.t 8)),
  .op (.mv 58 (.t 7)),
  .op (.bin 59 .add (.t 57) (.t 58)),
  .op (.sl 60 (.t 56) none (some (.t 59)) es),
  .op (.mv 0 (.t 60))])
 ((
  .seq ((.seq (.cB [.op (.mv 61 (.t 2)),
  .op (.mv 62 (.t 0)),
  .op (.mv 63 (.t 1)),
  .op (.mv 64 (.t 7)),
  .op (.bin 65 .add (.t 63) (.t 64)),
  .op (.sl 66 (.t 62) (some (.t 65)) none es),
  .op (.rO 67 fo (.t 61) (.t 66) es),
  .op (.un 68 .not (.t 67))])
 (.ite (.t 68)
  ((
   .seq (.mG [] [0,1,2,3,4,5,6,7,8] [.op (.mv 69 (.t 0)),
   .op (.mv 70 (.t 1)),
   .op (.mv 71 (.t 7)),
   .op (.bin 72 .add (.t 70) (.t 71)),
   .op (.sl 73 (.t 69) (some (.t 72)) none es),
   .op (.mv 74 (.t 0)),
   .op (.mv 75 (.t 1)),
   .op (.sl 76 (.t 74) (some (.t 75)) none es),
   .op (.copy (some 77) (.t 73) (.t 76) es)])
  ((
   .seq (.cB [.op (.mv 78 (.t 0)),
   .op (.mv 79 (.t 1)),
   .op (.sl 80 (.t 78) (some (.t 79)) none es),
   .op (.mv 81 (.t 2)),
   .op (.copy (some 82) (.t 80) (.t 81) es)])
  ((
   .seq (.cB [.op (.mv 83 (.t 0)),
   .op (.mv 6 (.t 83))])
  (.ret)))))))
  (.skip))))
 ((
  .seq (.cB [.op (.mv 84 (.t 0)),
  .op (.mv 85 (.t 8)),
  .op (.sl 86 (.t 84) (some (.t 85)) none es),
  .op (.mv 87 (.t 2)),
  .op (.copy (some 88) (.t 86) (.t 87) es)])
 ((
  .seq (.cB [.op (.mv 89 (.t 0)),
  .op (.mv 90 (.t 1)),
  .op (.sl 91 (.t 89) (some (.t 90)) none es),
  .op (.mv 92 (.t 7)),
  .op (.call (some 93) fr [(.t 91),(.t 92)])])
 ((
  .seq (.cB [.op (.mv 94 (.t 0)),
  .op (.mv 6 (.t 94))])
 (.ret)))))))))))))))))))))))))
def pN:Fin
 | .ret,e,h=>some (.val (cC e 6) h)
 |_,_,_=>none
section
variable {Pv:Prog}{q es fo fr n i len:Nat}{z:List D}{vs rows:List (List D)}{H:List O}
theorem amf(hn:aV H n = .aI es true rows)(hl:len<=rows.length)(hv:vs≠[])(hm:len+vs.length<=room):
  run Pv q pN [.c (vC es z fo fr)] (oR 0 [.jl n 0 len,.d (.i .i64 len),.d (.sl es false vs)]) H =
   if len+vs.length<=rows.length then some (.val (.jl n 0 (len+vs.length)) (H.set n (.aI es true (av rows len vs))))
   else some (.val (.aR H.length 0 (len+vs.length)) (H++[.aI es true (rows.take len++vs)])):=by
 have h1:((vs.length:Int)==0)=false:=by have:=rK.2 hv;simp;omega
 have h2:(len:Int)<=rows.length:=by omega
 unfold vC;by_cases h0:len=0<;>by_cases h4:len+vs.length<=rows.length
 .subst h0;simp at hm h4;simp[hn,h1,hv,hm,h4,pN]
 .subst h0;simp only[oh]at hm h4;simp[hn,h1,hv,hm,h4,pN]
 .simp[hn,hl,h0,h1,hv,hm,h4,pN]
 .simp[hn,hl,h0,h1,hv,hm,h4,pN]
theorem amg(hn:aV H n = .aI es true rows)(hl:len<=rows.length)(gj:n<H.length)(hv:vs≠[])(hm:len+vs.length<=room)(hi:i<len)(hz:z.length=es):
  run Pv q pN [.c (vC es z fo fr)] (oR 0 [.jl n 0 len,.d (.i .i64 i),.d (.sl es false vs)]) H =
   if len+vs.length<=rows.length then some (.val (.jl n 0 (len+vs.length)) (H.set n (.aI es true (av (av rows (i+vs.length) ((rows.drop i).take (len - i))) i vs))))
   else some (.val (.aR H.length 0 (len+vs.length)) (H++[.aI es true (jU i vs (rows.take len))])):=by
 have h1:((vs.length:Int)==0)=false:=by have:=rK.2 hv;simp;omega
 have h2:((i:Int)==len)=false:=by simp;omega
 have h3:(i:Int)<=rows.length:=by omega
 have h4:i<=rows.length:=by omega
 have h5:i<=len:=by omega
 have hv0:=rK.2 hv;have hm':len+vs.length<=4294967296:=hm;have w1:IntKind.i64.wrap ((len:Int)+vs.length)=len+vs.length:=wrap_i64 (by omega) (by omega)
 have w2:IntKind.i64.wrap ((i:Int)+vs.length)=i+vs.length:=wrap_i64 (by omega) (by omega)
 have w3:IntKind.i64.wrap ((len:Int)+vs.length - i)=len+vs.length - i:=wrap_i64 (by omega) (by omega)
 unfold vC;have ht:vs.take (len+vs.length - i)=vs:=gD (by omega)
 by_cases h6:len+vs.length<=rows.length
 .have h7:¬((rows.length:Int)<len+vs.length):=by omega
  simp(disch:=omega) [hn,hl,h1,h2,hi,w1,w2,h6,h7,pN,aN,aG,toNat_add,X8,X9,acO,AU,KH,ht]
 .have h7:((rows.length:Int)<len+vs.length):=by omega
  have e:List.take i (List.take i rows++List.replicate (len+vs.length - i) z)=rows.take i:=by
   rw[Ct (by simp;omega),AU,KL]
  have e2:(List.take (len - i) (List.drop i rows))=List.drop i (List.take len rows):=by rw[List.drop_take]
  have e3:List.take (i+vs.length) (rows.take i++(vs++List.drop (i+vs.length) (List.take i rows++List.replicate (len+vs.length - i) z)))=rows.take i++vs:=by
   rw[<-List.append_assoc,Ct (by simp;omega),gD (by simp;omega)]
  have e4:List.drop (i+vs.length+(len - i)) (rows.take i++(vs++List.drop (i+vs.length) (List.take i rows++List.replicate (len+vs.length - i) z)))=[]:=qB (by simp;omega)
  simp(disch:=omega) [hn,h1,h2,hi,w1,w2,w3,h6,h7,pN,aN,aG,toNat_add,X8,X9,hz,uL,ht,e,e2,AU,KH,jU,hl];have e5:List.take (len - i) (List.drop i (List.take len rows))=List.drop i (List.take len rows):=gD (by rw[Qw,List.length_take];omega)
  rw[e3,e4,qG,tw,e5]
theorem amh(hv:vs≠[])(hm:vs.length<=room):
  run Pv q pN [.c (vC es z fo fr)] (oR 0 [.d (.sl es true []),.d (.i .i64 0),.d (.sl es false vs)]) H=some (.val (.aR H.length 0 vs.length) (H++[.aI es true vs])):=by
 have h1:((vs.length:Int)==0)=false:=by have:=rK.2 hv;simp;omega
 unfold vC;simp[h1,hv,hm,pN]
theorem ami(hv:vs≠[])(hm:vs.length<=room):
  run Pv q pN [.c (vC es z fo fr)] (oR 0 [.jc es,.d (.i .i64 0),.d (.sl es false vs)]) H=some (.val (.aR H.length 0 vs.length) (H++[.aI es true vs])):=by
 have h1:((vs.length:Int)==0)=false:=by have:=rK.2 hv;simp;omega
 unfold vC;simp[h1,hv,hm,pN]
theorem amj{c:C}{env:Env}{v:V}{h1:List O}(hr:run Pv q pN [.c c] env H=some (.val v h1)):∃s',cS (ev Pv) q c ⟨env,H,true⟩=(.ret,s')/\s'.ok=true/\cC s'.env 6=v/\s'.heap=h1:=by
 unfold run at hr;simp only[resume]at hr;cases hc:cS (ev Pv) q c ⟨env,H,true⟩with
 |mk x s' =>
  rw[hc]at hr;cases x with
  |normal=>simp[resume,A1,pN]at hr
  |exit id=>simp[resume,A1,pN]at hr
  |ret =>
   simp only[resume,A1]at hr;split at hr
   .rename_i hok
    simp only[pN,gz,dL.val.injEq]at hr;exact⟨s',rfl,hok,hr.1,hr.2⟩
   .simp at hr
theorem amk(hl:len<=rows.length):(av rows len vs).take (len+vs.length)=jU len vs (rows.take len):=by
 unfold av jU;have h1:(rows.take len).length=len:=by simp;omega
 rw[Ct (by simp;omega),gD (by simp;omega),Qx,AU,KL,qB (by omega),qG]
theorem aml(hl:len<=rows.length):(rows.take len++vs).take (len+vs.length)=jU len vs (rows.take len):=by
 unfold jU;have h1:(rows.take len).length=len:=by simp;omega
 rw[gD (by simp;omega),Qx,AU,KL,qB (by omega),qG]
theorem amm{l:List (List D)}(hi:i<=l.length):(jU i vs l).length=l.length+vs.length:=by
 unfold jU;simp;omega
theorem amn{α:Type}{cs new:List α}{o:Nat}(h:o+new.length<=cs.length):(av cs o new).length=cs.length:=by
 unfold av;simp;omega
theorem amo(hl:len+vs.length<=rows.length)(hi:i<len):(av (av rows (i+vs.length) ((rows.drop i).take (len - i))) i vs).take (len+vs.length)=jU i vs (rows.take len) /\
  (av (av rows (i+vs.length) ((rows.drop i).take (len - i))) i vs).length=rows.length:=by
 have e0:((rows.drop i).take (len - i)).length=len - i:=by simp;omega
 have e1:(av rows (i+vs.length) ((rows.drop i).take (len - i))).length=rows.length:=amn (by rw[e0];omega)
 refine⟨?_,by rw[amn (by rw[e1];omega),e1]⟩
 have e2:(av rows (i+vs.length) ((rows.drop i).take (len - i))).take i=rows.take i:=by
  unfold av;rw[tw,Ct (by simp;omega),AU]
  congr 1;omega
 have e3:(av rows (i+vs.length) ((rows.drop i).take (len - i))).drop (i+vs.length)=(rows.drop i).take (len - i)++rows.drop (i+vs.length+(len - i)):=by
  unfold av;rw[tw,e0]
  have:(rows.take (i+vs.length)).length=i+vs.length:=by simp;omega
  rw[List.drop_append_of_le_length (by omega),qB (by omega),mX]
 generalize av rows (i+vs.length) ((rows.drop i).take (len - i))=Y at *;unfold av jU;rw[e2,e3,Qx,AU,KH (by omega),<-List.append_assoc,Ct (by simp;omega),gD (by simp;omega),List.drop_take]
end
end Go.VS
namespace Go.VS
section
variable {P:Program}{φ:fD}
mutual
theorem O9{h:List O}{g:Gh}{w:World}:∀{x:V}{v:Value},aK φ h g w x v->∀n∈x.dy,n<h.length
 | .u,_,_,n,hn=>by simp[V.dy]at hn
 | .kN,_,_,n,hn=>by simp[V.dy]at hn
 | .d x,_,_,n,hn=>by simp[V.dy]at hn
 | .loc k r c,_,hr,n,hn=>by simp only[V.dy,ze]at hn;simp only[aK]at hr;rw[hn];exact hr.1
 | .aR k r c,_,hr,n,hn=>by simp only[V.dy,ze]at hn;simp only[aK]at hr;rw[hn];exact hr.1
 | .jl k r c,_,hr,n,hn=>by simp only[V.dy,ze]at hn;simp only[aK]at hr;rw[hn];exact hr.1
 | .jc _,_,_,n,hn=>by simp[V.dy]at hn
 | .mp k,_,hr,n,hn=>by simp only[V.dy,ze]at hn;simp only[aK]at hr;rw[hn];exact hr.1
 | .ju k,_,hr,n,hn=>by simp only[V.dy,ze]at hn;simp only[aK]at hr;rw[hn];exact hr.1
 | .rf cs,_,hr,n,hn=>by
  simp only[aK]at hr;obtain⟨b,off,us,_,_,h1,_⟩:=hr;exact Gq h1 n (by simpa only[V.dy]using hn)
 | .fn f a b,_,hr,n,hn=>by
  simp only[aK]at hr;obtain⟨A,B,_,h1,h2⟩:=hr;simp only[V.dy,dm]at hn;exact hn.elim (Gq h1 n) (Gq h2 n)
 | .ag cs,_,hr,n,hn=>by
  simp only[aK]at hr;obtain⟨A,_,h1,_⟩:=hr;exact Gq h1 n (by simpa only[V.dy]using hn)
 | .tu cs,_,hr,n,hn=>by
  simp only[aK]at hr;obtain⟨A,_,h1⟩:=hr;exact Gq h1 n (by simpa only[V.dy]using hn)
theorem Gq{h:List O}{g:Gh}{w:World}:∀{xs:List V}{vs:List Value},bU φ h g w xs vs->∀n∈V.gA xs,n<h.length
 | [],_,_,n,hn=>by simp[V.gA]at hn
 |x::xs,v::vs,hr,n,hn=>by
  simp only[bU]at hr;simp only[V.gA,dm]at hn;exact hn.elim (O9 hr.1 n) (Gq hr.2 n)
 |_::_,[],hr,_,_=>by simp[bU]at hr
end
theorem amp{h:List O}{g:Gh}{w:World}{b o:Nat}{x:O}(hr:gC φ h g w b o x):∀n∈x.dy,n<h.length:=by
 intro n hn;cases x with
 |gK es rows =>
  simp only[O.dy,AR]at hn;obtain⟨row,hrow,hn⟩:=hn;obtain⟨r,jX,lX⟩:=tv hrow;have hg:rows[r]?=some row:=by simp[jX,lX]
  obtain⟨_,h2⟩:=hr.2.1 r row hg
  have:∀(row:List V),(∀(j:Nat)(c:V),row[j]?=some c->∃v,aK φ h g w c v)->n∈V.gA row->n<h.length:=by
   intro row;induction row with
   |nil=>intro _ hn;simp[V.gA]at hn
   |cons c row ih =>
    intro hc hn;simp only[V.gA,dm]at hn;rcases hn with hn |hn
    .obtain⟨v,hv⟩:=hc 0 c rfl
     exact O9 hv n hn
    .exact ih (λj c hj=>hc (j+1) c (by simpa using hj)) hn
  exact this row (λj c hj=>let ⟨v,_,_,h3⟩:=h2 j c hj;⟨v,h3⟩) hn
 |mp kv =>
  simp only[O.dy,AR]at hn;obtain⟨p,hp,hn⟩:=hn;obtain⟨ES,kZ,_,⟨hl,h2⟩,_⟩:=hr;obtain⟨r,jX,lX⟩:=tv hp;have amq:r<ES.toList.length:=by omega
  obtain⟨_,h3⟩:=h2 r p ES.toList[r] (by simp[jX,lX]) (by simp)
  exact O9 h3 n hn
 |lp ps a c e env =>
  simp only[O.dy]at hn;obtain⟨rc,nt,_,_,_,_,h4,_⟩:=hr
  have:∀(env:List (Nat×V)),Dr φ h g w env rc.tmps->n∈rP env->n<h.length:=by
   intro env;induction env with
   |nil=>intro _ hn;simp[rP]at hn
   |cons p r ih =>
    intro hr hn;simp only[rP,dm]at hn;rcases hn with hn |hn
    .exact O9 (hr p (by simp)) n hn
    .exact ih (λq hq=>hr q (by simp[hq])) hn
  exact this env h4 hn
 |_=>simp[O.dy]at hn
structure VB(K:List O)(g:Gh)(K':List O)(g':Gh)(n:Nat):Prop where
 lt:n<K'.length
 ob:aV K' n=aV K n
 β:g'.β n=g.β n
 o:g'.o n=g.o n
mutual
theorem Pa{K K':List O}{g g':Gh}{w:World}(hI:g'.I=g.I):∀{x:V}{v:Value},(∀n∈x.dy,VB K g K' g' n)->aK φ K g w x v->aK φ K' g' w x v
 | .u,_,_,_=>by simp[aK]
 | .kN,_,_,hr=>by simpa[aK]using hr
 | .d x,_,_,hr=>by simp only[aK]at hr⊢;rw[hI];exact hr
 | .loc n r c,_,hs,hr=>by
  have S:=hs n (by simp[V.dy])
  simp only[aK]at hr⊢;rw[S.ob,S.β,S.o];exact⟨S.lt,hr.2⟩
 | .aR n r c,_,hs,hr=>by
  have S:=hs n (by simp[V.dy])
  simp only[aK]at hr⊢;rw[S.ob,S.β,S.o];exact⟨S.lt,hr.2⟩
 | .jl n r c,_,hs,hr=>by
  have S:=hs n (by simp[V.dy])
  simp only[aK]at hr⊢;rw[S.ob,S.β,S.o];exact⟨S.lt,hr.2⟩
 | .jc _,_,_,hr=>by simpa only[aK]using hr
 | .mp n,_,hs,hr=>by
  have S:=hs n (by simp[V.dy])
  simp only[aK]at hr⊢;rw[S.ob,S.β];exact⟨S.lt,hr.2⟩
 | .ju n,_,hs,hr=>by
  have S:=hs n (by simp[V.dy])
  simp only[aK]at hr⊢;rw[S.ob,S.β];exact⟨S.lt,hr.2⟩
 | .rf cs,_,hs,hr=>by
  simp only[aK]at hr⊢;obtain⟨b,off,us,h0,h1,h2,h3⟩:=hr;exact⟨b,off,us,h0,by rw[hI];exact h1,Gr hI (λn hn=>hs n (by simpa only[V.dy]using hn)) h2,h3⟩
 | .fn f a b,_,hs,hr=>by
  simp only[aK]at hr⊢;obtain⟨A,B,h0,h1,h2⟩:=hr;exact⟨A,B,h0,Gr hI (λn hn=>hs n (by simp[V.dy,hn])) h1,Gr hI (λn hn=>hs n (by simp[V.dy,hn])) h2⟩
 | .ag cs,_,hs,hr=>by
  simp only[aK]at hr⊢;obtain⟨A,h0,h1,h2⟩:=hr;exact⟨A,h0,Gr hI (λn hn=>hs n (by simpa only[V.dy]using hn)) h1,h2⟩
 | .tu cs,_,hs,hr=>by
  simp only[aK]at hr⊢;obtain⟨A,h0,h1⟩:=hr;exact⟨A,h0,Gr hI (λn hn=>hs n (by simpa only[V.dy]using hn)) h1⟩
theorem Gr{K K':List O}{g g':Gh}{w:World}(hI:g'.I=g.I):∀{xs:List V}{vs:List Value},(∀n∈V.gA xs,VB K g K' g' n)->bU φ K g w xs vs->bU φ K' g' w xs vs
 | [],[],_,_=>by simp[bU]
 |x::xs,v::vs,hs,hr=>by
  simp only[bU]at hr⊢;exact⟨Pa hI (λn hn=>hs n (by simp[V.gA,hn])) hr.1,Gr hI (λn hn=>hs n (by simp[V.gA,hn])) hr.2⟩
 | [],_::_,_,hr=>by simp[bU]at hr
 |_::_,[],_,hr=>by simp[bU]at hr
end
theorem amr{K K':List O}{g g':Gh}{w:World}{b o:Nat}{x:O}(hI:g'.I=g.I)(hs:∀n∈x.dy,VB K g K' g' n)(hr:gC φ K g w b o x):gC φ K' g' w b o x:=by
 cases x with
 |dead=>trivial
 |aI es ex rows=>simp only[gC]at hr⊢;rw[hI];exact hr
 |gK es rows =>
  simp only[gC]at hr⊢;rw[hI];refine⟨hr.1,λr row hrow=>?_,hr.2.2⟩
  obtain⟨h1,h2⟩:=hr.2.1 r row hrow;refine⟨h1,λj c hj=>?_⟩
  obtain⟨v,h3,h4,h5⟩:=h2 j c hj;refine⟨v,h3,h4,Pa hI (λn hn=>hs n ?_) h5⟩
  simp only[O.dy,AR];exact⟨row,lE hrow,aiJ (lE hj) hn⟩
 |mp kv =>
  simp only[gC]at hr⊢;rw[hI];obtain⟨ES,kZ,h1,⟨h2,h3⟩,h4⟩:=hr;refine⟨ES,kZ,h1,⟨h2,λi p e hp he=>?_⟩,h4⟩
  obtain⟨h5,h6⟩:=h3 i p e hp he;refine⟨by rw[hI];exact h5,Pa hI (λn hn=>hs n ?_) h6⟩
  simp only[O.dy,AR];exact⟨p,lE hp,hn⟩
 |lp ps a c e env =>
  simp only[gC]at hr⊢;rw[hI];obtain⟨rc,nt,h1,h0,h2,h3,h4,h5⟩:=hr;exact⟨rc,nt,h1,h0,h2,h3,λp hp=>Pa hI (λn hn=>hs n (by simp only[O.dy];exact Oo hp hn)) (h4 p hp),h5⟩
theorem ams{H0 K:List O}{g:Gh}{w:World}{j es p:Nat}{Z:List (List D)}(hr:fj φ K g w)(h0:∀k,k<H0.length->aV K k=aV H0 k)(VC:∀k,∀n∈(aV H0 k).dy,n<H0.length)
  (hj:H0.length<=j)(hZ:aV K j = .aI es true Z):fj φ (H0++[.aI es true (Z.take p)]) (g.add H0.length (g.β j) (g.o j) g.I) w:=by
 have Gs:∀k,k<H0.length->aV (H0++[.aI es true (Z.take p)]) k=aV K k:=λk hk=>by rw[uL hk,h0 k hk]
 have hl:(aV K j).live=true:=by rw[hZ];rfl
 refine⟨λk=>?_,λa b ha hb he=>?_,hr.new⟩
 .rcases tr k H0.length with hk |hk |hk
  .have hne:k≠H0.length:=by omega
   rw[Gs k hk];simp only[Gh.add,aG hne];refine amr (K:=K) (g:=g) rfl (λn hn=>?_) (hr.obj k)
   rw[h0 k hk]at hn;have hlt:=VC k n hn;have Oy:n≠H0.length:=by omega
   exact⟨by simp;omega,Gs n hlt,by simp[Gh.add,Oy],by simp[Gh.add,Oy]⟩
  .subst hk
   rw[CM];have:=hr.obj j;rw[hZ]at this;obtain⟨⟨CS,T,hb,hfit⟩,dZ,hI⟩:=this;simp only[Gh.add,dH];have hmul:es*(Z.take p).length<=es*Z.length:=Qm es (by simp[Nat.min_le_right])
   refine⟨⟨CS,T,hb,by omega⟩,vk λr row hrow=>?_,hI⟩
   rw[zf]at hrow;split at hrow
   .exact oB dZ hrow
   .simp at hrow
  .rw[vn hk];trivial
 .have key:∀k,(aV (H0++[.aI es true (Z.take p)]) k).live=true->k<=H0.length:=λk hk=>by
   rcases lG H0.length k with h1 |h1
   .rw[vn h1]at hk;simp[O.live]at hk
   .exact h1
  have ka:=key a ha;have kb:=key b hb;by_cases h1:a=H0.length<;>by_cases h2:b=H0.length
  .omega
  .have hlt:b<H0.length:=by omega
   rw[Gs b hlt]at hb;simp only[Gh.add,h1,h2,dH,dK]at he;have:=hr.inj _ _ hl hb he;omega
  .have hlt:a<H0.length:=by omega
   rw[Gs a hlt]at ha;simp only[Gh.add,h1,h2,dH,dK]at he;have:=hr.inj _ _ ha hl he;omega
  .have hlt:a<H0.length:=by omega
   have hlt':b<H0.length:=by omega
   rw[Gs a hlt]at ha;rw[Gs b hlt']at hb;simp only[Gh.add,h1,h2,dK]at he;exact hr.inj _ _ ha hb he
theorem amt{H0 K h:List O}{g0 g:Gh}{w0 w:World}{m j es p:Nat}{Z:List (List D)}(hf:Frame m h g0 w0 K g w)(h0:∀k,k<H0.length->aV K k=aV H0 k)(hm:m<=H0.length)
  (hj:H0.length<=j)(hZ:aV K j = .aI es true Z):Frame m h g0 w0 (H0++[.aI es true (Z.take p)]) (g.add H0.length (g.β j) (g.o j) g.I) w where
 ext:=hf.ext
 size:=hf.size
 os:=hf.os
 tape:=hf.tape
 output:=hf.output
 pE n hn:=by
  have hne:n≠H0.length:=by omega
  simp only[Gh.add,aG hne];exact hf.pE n hn
 keep:=hf.keep
 mL n hn:=by
  rcases tr n H0.length with hk |hk |hk
  .have hne:n≠H0.length:=by omega
   rw[uL hk,<-h0 n hk]at hn;simp only[Gh.add,aG hne];exact hf.mL n hn
  .simp only[Gh.add,hk,dH]
   exact hf.mL j (by rw[hZ];rfl)
  .rw[vn hk]at hn;simp[O.live]at hn
 pF n hn:=by
  have hlt:n<H0.length:=by omega
  have:=hf.pF n hn;have he:aV (H0++[.aI es true (Z.take p)]) n=aV K n:=by rw[uL hlt,h0 n hlt]
  exact⟨λes he'=>by rw[he]at he'⊢;exact this.arr es he',λkv hk=>this.mp kv (by rw[<-he];exact hk),λhk=>this.lp (by rw[<-he];exact hk)⟩
theorem amu{h:List O}{g:Gh}{w:World}(hr:fj φ h g w){n:Nat}(hl:(aV h n).live=true)(m:Nat):fj φ (h.set n .dead) g w/\Frame m h g w (h.set n .dead) g w:=by
 have hle:gT h g w (h.set n .dead) (g.ez g.I) w:=wJ hr hl (jY.refl _ _) (Ext.refl _ _) (λes he=>by simp[O.gN]at he) (λkv hk=>by simp at hk)
 exact⟨wK hr hl (jY.refl _ _) hle (λ_ _=>rfl) trivial,wL .dead hl (jY.refl _ _) (Ext.refl _ _) (λ_ _=>rfl) hle⟩
theorem VD(hm:P.follows .mixedOrders=true)(hk:xl P φ){f:Nat}{F:F}(hF:O3 P φ f F){es fo fr:Nat}{z:List D}(JL:F.code=vC es z fo fr)(hres:F.res=[.t 6])
  {h:List O}{g:Gh}{w:World}{xs:List V}{args:Array Value}{v:V}{h1:List O}{Q:Ending->World->Prop}(hH:fj φ h g w)(ha:bU φ h g w xs args.toList)
  (hrun:run (λ_=>none) h.length pN [.c (vC es z fo fr)] (oR 0 xs) h=some (.val v h1))
  (hQ:∀v' g' w',fj φ h1 g' w'->aK φ h1 g' w' v v'->Frame h.length h g w h1 g' w'->Q (.returned v') w'):Calls P (φ f) args w Q:=by
 obtain⟨fn,c,k1,k2,k3,k4,k5⟩:=hF;obtain⟨s',Oz,hok,h6,xk⟩:=amj hrun;have hall:=al0 (φ:=φ) hm hk (Pv:=λ_=>none) (λf F hf=>by simp at hf)
 rw[JL]at k4;refine(callsIn_wide (n:=0)).1 (callsIn_of_wp_marks (F:=Wd none) k1 k3 trivial (JJ hm hk hall.1 hall.2.1 hall.2.2 c _ (.inl rfl) k4 (alN (gh _) hH ha fn.ntmps) (by rw[Oz];exact hok) λg' a' w' hs' hf'=>?_))
 rw[Oz]at hs' hf'⊢;simp only at hs' hf';refine alQ hH hs' hf' λw' hs' hf'=>?_
 rw[hres]at k5;obtain⟨us,FT,fY⟩:=O0 hs' k5 (vs:=[cC s'.env 6]) (by simp[zo,Hv,St.get])
 refine⟨_,alI FT,?_⟩;rw[h6,xk]at fY;rw[xk]at hf'
 match us,fY with
 | [u],fY =>
  simp only[bU,xP]at fY;exact hQ u g' w' (by rw[<-xk];exact hs'.heap) fY hf'
 | [],fY=>simp[bU]at fY
 |_::_::_,fY=>simp[bU]at fY
theorem VE(hm:P.follows .mixedOrders=true)(hk:xl P φ){f:Nat}{F:F}(hF:O3 P φ f F){es fo fr:Nat}{z:List D}(JL:F.code=vC es z fo fr)(hres:F.res=[.t 6])(hz:z.length=es)(jN:0<es):
  alL P φ f (mh es):=by
 intro xs h v h1 hp;have hF':=hF;obtain⟨fn,c,k1,k2,k3,_,_⟩:=hF';refine⟨⟨fn,k1,k2,by simp[k3]⟩,λg w args hH ha=>?_⟩
 unfold mh at hp;split at hp
 .rename_i x i e vs
  split at hp
  .rename_i eo
   obtain⟨rfl,hv,hrl⟩:=eo;split at hp
   ·
    rename_i e';split at hp
    .rename_i gF
     obtain⟨rfl,rfl,hroom⟩:=gF;simp only[gz,uC]at hp;obtain⟨rfl,rfl⟩:=hp;exact VD hm hk hF JL hres hH ha (amh hv hroom) λv' g' w' q1 q2 q3=>⟨v',g',rfl,q1,q2,q3⟩
    .simp at hp
   .rename_i e'
    split at hp
    .rename_i gF
     obtain⟨rfl,rfl,hroom⟩:=gF;simp only[gz,uC]at hp;obtain⟨rfl,rfl⟩:=hp;exact VD hm hk hF JL hres hH ha (ami hv hroom) λv' g' w' q1 q2 q3=>⟨v',g',rfl,q1,q2,q3⟩
    .simp at hp
   .rename_i n off len
    split at hp
    .rename_i e' rows hn
     split at hp
     .rename_i gF
      obtain⟨rfl,hle,Zt,oE,hroom⟩:=gF;simp only[gz,uC]at hp;obtain⟨rfl,rfl⟩:=hp;have hl:(aV h n).live=true:=by rw[hn];rfl
      obtain⟨kH,kF⟩:=amu hH hl h.length;have dF:=hH.obj n;rw[hn]at dF;obtain⟨⟨CS,T,hb,hfit⟩,dZ,hI⟩:=dF;simp only[dH]at hI
      match hargs:args.toList,ha with
      | [u0,u1,u2],ha=>?_
      simp only[bU,xP]at ha;obtain⟨r0,r1,r2⟩:=ha;simp only[aK]at r0;obtain⟨gj,_,BS⟩:=r0;rw[hn]at BS;obtain⟨cap,rfl,hlc,yH,sk,T',hb',pK,hone⟩:=BS e' rfl;rw[hb]at hb';simp only[gz,Obj.cells.injEq,xP]at hb';obtain⟨rfl,rfl⟩:=hb';simp only[O.len]at yH;obtain⟨H0,VF⟩:∃H0,h.set n .dead=H0:=⟨_,rfl⟩;rw[VF]at kH kF⊢;have Gt:H0.length=h.length:=by rw[<-VF];simp
      obtain⟨iH,VG⟩:∃iH,rows.drop off++List.replicate (cap - (rows.length - off)) (List.replicate e' D.Cw)=iH:=⟨_,rfl⟩;have Uv:iH.length=cap:=by rw[<-VG];simp;omega
      have Pb:iH.take len=(rows.drop off).take len:=by rw[<-VG,Ct (by simp;omega)]
      have Of:gC φ (H0++[.aI e' true iH]) (g.add H0.length (g.β n) (g.o n+off*e') g.I) w (g.β n) (g.o n+off*e') (.aI e' true iH):=by
       refine⟨⟨CS,T,hb,by rw[Uv];rw[nD]at pK;have:=jt e' cap;omega⟩,vk λr row hr=>?_,by simp only[dH,Gh.add];omega⟩
       rw[<-VG,List.getElem?_append]at hr;split at hr
       .rw[pX]at hr
        obtain⟨q1,q2⟩:=oB dZ hr;rw[nD,<-Nat.add_assoc]at q2;exact⟨q1,q2⟩
       .rename_i hge
        obtain⟨jX,lX⟩:=sF.1 hr;simp only[XH,Qw]at jX hge;simp only[XI]at lX;subst lX;refine⟨by simp,wD λj c hj=>?_⟩
        obtain⟨hj1,hj2⟩:=sF.1 hj;simp only[XI]at hj2;simp only[XH]at hj1;subst hj2;have hr3:r+1<=cap:=by omega
        have hmul:(r+1)*e'<=cap*e':=l7 _ hr3;rw[nD]at pK hmul;have hlt:g.o n+off*e'+r*e'+j<CS.size:=by omega
        exact⟨CS[g.o n+off*e'+r*e'+j],by simp[World.cell?,hb,hlt],hone _ (by simp),by simp[bT]⟩
      have hB:∀k,(aV H0 k).live=true->g.β k≠g.β n:=by
       intro k hk BP;rw[<-VF]at hk;by_cases hkn:k=n
       .subst hkn;rw[wI gj]at hk;simp[O.live]at hk
       .rw[qp hkn]at hk;exact hkn (hH.inj k n hk hl BP)
      have hHn:=aiw kH hB Of;have hn':aV (H0++[.aI e' true iH]) H0.length = .aI e' true iH:=CM;have hFn:Frame h.length h g w (H0++[.aI e' true iH]) (g.add H0.length (g.β n) (g.o n+off*e') g.I) w:=by
       refine⟨kF.ext,kF.size,kF.os,kF.tape,kF.output,λk hk=>?_,kF.keep,λk hk=>?_,λk hk=>?_⟩
       .have hne:k≠H0.length:=by omega
        simp[Gh.add,hne]
       .rcases tr k H0.length with h1 |h1 |h1
        .have hne:k≠H0.length:=by omega
         rw[uL h1]at hk;simp only[Gh.add,aG hne];exact kF.mL k hk
        .exact .inl ⟨n,hl,by simp[Gh.add,h1]⟩
        .rw[vn h1]at hk;simp[O.live]at hk
       .have he:aV (H0++[.aI e' true iH]) k=aV H0 k:=uL (by omega)
        have:=kF.pF k hk;exact⟨λes he'=>by rw[he]at he'⊢;exact this.arr es he',λkv hk=>this.mp kv (by rw[<-he];exact hk),λhk=>this.lp (by rw[<-he];exact hk)⟩
      have VC:∀k,∀n∈(aV H0 k).dy,n<H0.length:=λk=>amp (kH.obj k)
      have amv:bU φ (H0++[.aI e' true iH]) (g.add H0.length (g.β n) (g.o n+off*e') g.I) w [.jl H0.length 0 len,.d (.i .i64 i),.d (.sl e' false vs)] args.toList:=by
       rw[hargs];simp only[bU,xP];refine⟨?_,by simpa only[aK,Gh.add]using r1,by simpa only[aK,Gh.add]using r2⟩
       simp only[aK];refine⟨by simp,rfl,λes he=>?_⟩
       rw[hn']at he⊢;simp only[O.gN,gz]at he;subst he;refine⟨cap,by simp[Gh.add],hlc,by simp only[O.len];omega,CS,T,by simpa only[Gh.add,dH]using hb,?_,hone⟩
       simp only[Gh.add,dH,oh];rw[nD]at pK;omega
      have hin:(i.toNat:Int)=i:=by omega
      have rY:(H0++[O.aI e' true iH]).length=h.length+1:=by simp[Gt]
      have fin:∀{v1:V}{K:List O}{j:Nat}{Z:List (List D)},run (λ_=>none) (H0++[O.aI e' true iH]).length pN [.c (vC e' z fo fr)] (oR 0 [.jl H0.length 0 len,.d (.i .i64 i),.d (.sl e' false vs)]) (H0++[.aI e' true iH])=some (.val v1 K) ->
        (v1 = .aR j 0 (len+vs.length)\/v1 = .jl j 0 (len+vs.length))->(∀k,k<H0.length->aV K k=aV H0 k)->H0.length<=j->aV K j = .aI e' true Z->Z.take (len+vs.length)=jU i vs ((rows.drop off).take len)->len+vs.length<=Z.length ->
        Calls P (φ f) args w λe w'=>∃v' g',e = .returned v'/\fj φ (H0++[O.aI e' true (jU i vs ((rows.drop off).take len))]) g' w' /\
         aK φ (H0++[O.aI e' true (jU i vs ((rows.drop off).take len))]) g' w' (.aR h.length 0 (len+vs.length)) v'/\Frame h.length h g w (H0++[O.aI e' true (jU i vs ((rows.drop off).take len))]) g' w':=by
       intro v1 K j Z hrun UN h0 hj hZ hZt hZl;refine VD hm hk hF JL hres hHn amv hrun λv' g' w' q1 q2 q3=>?_
       have q4:Frame h.length h g w K g' w':=by
        have q5:Frame h.length (H0++[.aI e' true iH]) (g.add H0.length (g.β n) (g.o n+off*e') g.I) w K g' w' :=
         ⟨q3.ext,q3.size,q3.os,q3.tape,q3.output,λk hk=>q3.pE k (by omega),q3.keep,q3.mL,λk hk=>q3.pF k (by omega)⟩
        exact hFn.trans q5
       have q6:=ams (p:=len+vs.length) q1 h0 VC hj hZ;have q7:=amt (p:=len+vs.length) q4 h0 (by omega) hj hZ
       rw[hZt]at q6 q7;refine⟨v',_,rfl,q6,?_,q7⟩;have q8:aK φ K g' w' (.aR j 0 (len+vs.length)) v':=by
        rcases UN with rfl |rfl
        .exact q2
        .exact I8 q2
       simp only[aK]at q8⊢;obtain⟨_,p1,p2⟩:=q8;refine⟨by simp;omega,p1,λes he=>?_⟩
       rw[<-Gt,CM]at he⊢;simp only[O.gN,gz]at he;subst he;obtain⟨ajP,c1,c2,c3,Ub,T2,c4,c5⟩:=p2 e' (by rw[hZ];rfl)
       refine⟨ajP,by simpa[Gh.add]using c1,c2,?_,Ub,T2,by simpa[Gh.add]using c4,by simpa[Gh.add]using c5⟩
       simp only[O.len];rw[<-hZt];simp;omega
      by_cases Oc:i=len
      .subst Oc
       have hrun:=amf (Pv:=λ_=>none) (q:=(H0++[O.aI e' true iH]).length) (fo:=fo) (fr:=fr) (z:=z) hn' (by omega) hv hroom
       by_cases wX:len+vs.length<=iH.length
       .rw[aN wX]at hrun
        refine fin hrun (.inr rfl) (λk hk=>?_) (gh _) (Z:=av iH len vs) ?_ ?_ ?_
        .rw[qp (by omega),uL hk]
        .rw[X7,CM]
        .rw[<-Pb];exact amk (by omega)
        .rw[BL wX];exact wX
       .rw[aG wX]at hrun
        refine fin hrun (.inl rfl) (λk hk=>?_) (by simp) (Z:=iH.take len++vs) ?_ ?_ ?_
        .rw[uL (by simp;omega),uL hk]
        .exact CM
        .rw[<-Pb];exact aml (by omega)
        .simp;omega
      .obtain⟨i',rfl⟩:∃i':Nat,i=i':=⟨i.toNat,by omega⟩
       have hi':i'<len:=by omega
       have hrun:=amg (Pv:=λ_=>none) (q:=(H0++[O.aI e' true iH]).length) (fo:=fo) (fr:=fr) (z:=z) hn' (by omega) (by simp) hv hroom hi' hz
       by_cases wX:len+vs.length<=iH.length
       .rw[aN wX]at hrun
        refine fin hrun (.inr rfl) (λk hk=>?_) (gh _) (Z:=av (av iH (i'+vs.length) ((iH.drop i').take (len - i'))) i' vs) ?_ ?_ ?_
        .rw[qp (by omega),uL hk]
        .rw[X7,CM]
        .rw[<-Pb];exact(amo wX hi').1
        .rw[(amo wX hi').2];exact wX
       .rw[aG wX]at hrun
        refine fin hrun (.inl rfl) (λk hk=>?_) (by simp) (Z:=jU i' vs (iH.take len)) ?_ ?_ ?_
        .rw[uL (by simp;omega),uL hk]
        .exact CM
        .rw[<-Pb,gD (by rw[amm (by simp;omega)];simp;omega)]
        .rw[amm (by simp;omega)];simp;omega
     .simp at hp
    .simp at hp
   .simp at hp
  .simp at hp
 .simp at hp
end
end Go.VS
