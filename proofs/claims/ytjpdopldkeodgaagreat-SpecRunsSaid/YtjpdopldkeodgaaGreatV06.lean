import Derived.Test.YtjpdopldkeodgaaGreatV00
import Derived.Test.YtjpdopldkeodgaaGreatV04
set_option linter.all false
set_option maxHeartbeats 1000000
namespace Go.VS
abbrev Env:=List (Nat×V)
inductive K where
 |c(c:C)
 |bY(id:Nat)
abbrev Fin:=Ex->Env->List O->Option dN
def AE(fin:Fin)(e:Ex)(s:St):Option dN:=if s.ok then fin e s.env s.heap else none
noncomputable def resume (rec:Rec)(q:Nat)(fin:Fin):List K->Ex->St->Option dN
 | [],e,s=>AE fin e s
 | .c c::k,.normal,s=>resume rec q fin k (cP rec q c s).1 (cP rec q c s).2
 | .c _::k,e,s=>resume rec q fin k e s
 | .bY _::k,.normal,s=>resume rec q fin k .normal s
 | .bY id::k,.exit j,s=>if j=id then resume rec q fin k .normal s else resume rec q fin k (.exit j) s
 | .bY _::k,.ret,s=>resume rec q fin k .ret s
section
variable {P:Prog}{q:Nat}{fin:Fin}{k:List K}{e:Env}{h:List O}
theorem j8(rec:Rec):∀(k:List K)(x:Ex)(s:St),s.ok=false->resume rec q fin k x s=none
 | [],x,s,hs=>by simp[resume,AE,hs]
 | .c c::k,.normal,s,hs=>by
  simp only[resume];refine j8 rec k _ _ ?_;cases hq:(cP rec q c s).2.ok with
  |false=>rfl
  |true=>rw[yU hq]at hs;simp at hs
 | .c _::k,.exit j,s,hs=>by simp only[resume];exact j8 rec k _ _ hs
 | .c _::k,.ret,s,hs=>by simp only[resume];exact j8 rec k _ _ hs
 | .bY _::k,.normal,s,hs=>by simp only[resume];exact j8 rec k _ _ hs
 | .bY id::k,.exit j,s,hs=>by
  simp only[resume];split
  .exact j8 rec k _ _ hs
  .exact j8 rec k _ _ hs
 | .bY _::k,.ret,s,hs=>by simp only[resume];exact j8 rec k _ _ hs
def cY(e:Env):A->V
 | .t n=>cA e n
 | .k x=>.d x
@[simp] theorem G3(e:Env)(n:Nat):cY e (.t n)=cA e n:=rfl
@[simp] theorem aax(e:Env)(x:D):cY e (.k x) = .d x:=rfl
def St.res(s:St):Option (Env×List O):=if s.ok then some (s.env,s.heap)else none
def cQ(rec:Rec)(i:I)(e:Env)(h:List O):Option (Env×List O):=(aR rec i ⟨e,h,true⟩).res
noncomputable def run (P:Prog)(q:Nat)(fin:Fin)(k:List K)(e:Env)(h:List O):Option dN:=resume (ev P) q fin k .normal ⟨e,h,true⟩
noncomputable def uk (P:Prog)(q:Nat)(fin:Fin)(x:Ex)(k:List K)(e:Env)(h:List O):Option dN:=resume (ev P) q fin k x ⟨e,h,true⟩
noncomputable def sW (P:Prog)(q:Nat)(fin:Fin)(js:List J)(k:List K)(e:Env)(h:List O):Option dN:=resume (ev P) q fin k .normal (fY (ev P) js ⟨e,h,true⟩)
noncomputable def KG (P:Prog)(q:Nat)(fin:Fin)(js:List J)(k:List K)(o:Option (Env×List O)):Option dN :=
 match o with
 |some p=>sW P q fin js k p.1 p.2
 |none=>none
noncomputable def P4 (P:Prog)(q:Nat)(fin:Fin)(d:Nat)(js:List J)(k:List K)(e:Env)(o:Option (Bool×List O)):Option dN :=
 match o with
 |some p=>sW P q fin js k ((d,.d (.b p.1))::e) p.2
 |none=>none
noncomputable def KH (P:Prog)(q:Nat)(fin:Fin)(a b:C)(k:List K)(e:Env)(h:List O)(x:Bool):Option dN :=
 if x then run P q fin (.c a::k) e h else run P q fin (.c b::k) e h
noncomputable def WS (P:Prog)(q:Nat)(fin:Fin)(a b:C)(k:List K)(e:Env)(h:List O)(v:V):Option dN :=
 match v with
 | .d (.b x)=>KH P q fin a b k e h x
 |_=>none
noncomputable def G4 (P:Prog)(q:Nat)(fin:Fin)(k:List K)(o:Option (Env×List O)):Option dN :=
 match o with
 |some p=>run P q fin k p.1 p.2
 |none=>none
noncomputable def KI (P:Prog)(q:Nat)(fin:Fin)(k:List K)(o:Option (Ex×Env×List O)):Option dN :=
 match o with
 |some p=>uk P q fin p.1 k p.2.1 p.2.2
 |none=>none
@[simp] theorem aay{js:List J}:KG P q fin js k (some (e,h))=sW P q fin js k e h:=rfl
@[simp] theorem aaz{js:List J}:KG P q fin js k none=none:=rfl
@[simp] theorem aaA{d:Nat}{js:List J}{x:Bool}:P4 P q fin d js k e (some (x,h))=sW P q fin js k ((d,.d (.b x))::e) h:=rfl
@[simp] theorem aaB{d:Nat}{js:List J}:P4 P q fin d js k e none=none:=rfl
@[simp] theorem aaC{a b:C}:KH P q fin a b k e h true=run P q fin (.c a::k) e h:=rfl
@[simp] theorem aaD{a b:C}:KH P q fin a b k e h false=run P q fin (.c b::k) e h:=rfl
@[simp] theorem aaE{a b:C}{x:Bool}:WS P q fin a b k e h (.d (.b x))=KH P q fin a b k e h x:=rfl
@[simp] theorem aaF:G4 P q fin k (some (e,h))=run P q fin k e h:=rfl
@[simp] theorem aaG:G4 P q fin k none=none:=rfl
@[simp] theorem aaH{x:Ex}:KI P q fin k (some (x,e,h))=uk P q fin x k e h:=rfl
@[simp] theorem aaI:KI P q fin k none=none:=rfl
noncomputable def um (P:Prog)(js:List J)(x:A)(e:Env)(h:List O):Option (Bool×List O):=
 match(fY (ev P) js ⟨e,h,true⟩).res with
 |some (e',h')=>match cY e' x with
  | .d (.b y)=>some (y,h')
  |_=>none
 |none=>none
def G5(fG:Bool)(g:V)(h:List O)(B:Option (Bool×List O)):Option (Bool×List O):=
 match g with
 | .d (.b g)=>if g=fG then some (fG,h)else B
 |_=>none
def xH(fG g:Bool)(h:List O)(B:Option (Bool×List O)):Option (Bool×List O):=if g=fG then some (fG,h)else B
@[congr] theorem aaJ {fG g g':Bool}{h:List O}{B B':Option (Bool×List O)}(hg:g=g')(hB:g'=(!fG)->B=B'):xH fG g h B=xH fG g' h B':=by
 subst hg;unfold xH;split
 .rfl
 .rename_i hne
  refine hB ?_;cases g<;>cases fG<;>simp at hne⊢
@[simp] theorem aaK{fG g:Bool}{h:List O}{B:Option (Bool×List O)}:G5 fG (.d (.b g)) h B=xH fG g h B:=rfl
@[simp] theorem aaL{g y:Bool}{h:List O}:xH true g h (some (y,h))=some (g||y,h):=by cases g<;>rfl
@[simp] theorem aaM{g y:Bool}{h:List O}:xH false g h (some (y,h))=some (g&&y,h):=by cases g<;>rfl
@[simp] theorem aaN{h:List O}{B:Option (Bool×List O)}:xH true true h B=some (true,h):=rfl
@[simp] theorem aaO{h:List O}{B:Option (Bool×List O)}:xH false false h B=some (false,h):=rfl
@[simp] theorem aaP{h:List O}{B:Option (Bool×List O)}:xH true false h B=B:=rfl
@[simp] theorem aaQ{h:List O}{B:Option (Bool×List O)}:xH false true h B=B:=rfl
theorem P5(rec:Rec)(i:I)(e:Env)(h:List O):(∃e' h',aR rec i ⟨e,h,true⟩=⟨e',h',true⟩/\cQ rec i e h=some (e',h'))\/((aR rec i ⟨e,h,true⟩).ok=false/\cQ rec i e h=none):=by
 unfold cQ St.res;generalize aR rec i ⟨e,h,true⟩=s;obtain⟨e',h',ok⟩:=s;cases ok with
 |true=>exact .inl ⟨e',h',rfl,rfl⟩
 |false=>exact .inr ⟨rfl,rfl⟩
theorem xI{rec:Rec}{js:List J}{s:St}(h:s.ok=false):(fY rec js s).ok=false:=by
 cases hq:(fY rec js s).ok with
 |false=>rfl
 |true=>rw[uj hq]at h;simp at h
@[simp] theorem aaR:sW P q fin [] k e h=run P q fin k e h:=rfl
@[simp] theorem aaS{i:I}{js:List J}:sW P q fin (.op i::js) k e h=KG P q fin js k (cQ (ev P) i e h):=by
 simp only[sW,fY,jl];rcases P5 (ev P) i e h with⟨e',h',h1,h2⟩ |⟨h1,h2⟩
 .rw[h1,h2];rfl
 .rw[h2]
  exact j8 _ _ _ _ (xI h1)
noncomputable def P6 (d:Option Nat)(e:Env)(h:List O)(o:Option (Env×List O)):Option (Env×List O):=
 match d,o with
 |some d,some (e',_)=>if V.same (cA e' d) (cA e d)then some (e,h)else none
 |_,_=>none
@[simp] theorem aaT{d:Nat}{e':Env}{h':List O}:P6 (some d) e h (some (e',h'))=if V.same (cA e' d) (cA e d)then some (e,h)else none:=rfl
@[simp] theorem aaU{i:I}{js:List J}:sW P q fin (.re i::js) k e h=KG P q fin js k (P6 i.dst e h (cQ (ev P) i e h)):=by
 simp only[sW,fY,jl,again];cases hd:i.dst with
 |none=>exact j8 _ _ _ _ (xI rfl)
 |some d =>
  rcases P5 (ev P) i e h with⟨e',h',h1,h2⟩ |⟨h1,h2⟩
  .rw[h1,h2]
   simp only[Ao,P6];split
   .rfl
   .exact j8 _ _ _ _ (xI rfl)
  .rw[h2]
   simp only[h1,Ap,eR,dG];exact j8 _ _ _ _ (xI rfl)
theorem WU(rec:Rec)(js:List J)(e:Env)(h:List O):(∃e' h',fY rec js ⟨e,h,true⟩=⟨e',h',true⟩)\/(fY rec js ⟨e,h,true⟩).ok=false:=by
 generalize fY rec js ⟨e,h,true⟩=s;obtain⟨e',h',ok⟩:=s;cases ok with
 |true=>exact .inl ⟨e',h',rfl⟩
 |false=>exact .inr rfl
theorem fK{e:Env}{h:List O}{ok:Bool}{x:A}:St.get ⟨e,h,ok⟩ x=cY e x:=by cases x<;>rfl
@[simp] theorem aaV{fG:Bool}{d c:Nat}{body js:List J}{x:A}:sW P q fin (.sc fG d c body x::js) k e h =
  P4 P q fin d js k (pI (J.j7 body) e) (G5 fG (cA e c) h (um P body x e h)):=by
 simp only[sW,fY,jl,fK,G3,G5,um];cases cA e c with
 |d y =>
  cases y with
  |b g =>
   simp only;by_cases hg:g=fG
   .simp only[aK hg];rfl
   .simp only[aE hg]
    rcases WU (ev P) body e h with⟨e',h',h1⟩ |h1
    .rw[h1]
     simp only[St.res,dH,fK];cases cY e' x with
     |d z =>
      cases z with
      |b y=>rfl
      |_=>exact j8 _ _ _ _ (xI rfl)
     |_=>exact j8 _ _ _ _ (xI rfl)
    .have:(fY (ev P) body ⟨e,h,true⟩).res=none:=by simp[St.res,h1]
     rw[this];refine j8 _ _ _ _ (xI ?_);generalize (fY (ev P) body ⟨e,h,true⟩).get x=z;cases z with
     |d y=>cases y<;>first |exact h1 |rfl
     |_=>rfl
  |_=>exact j8 _ _ _ _ (xI rfl)
 |_=>exact j8 _ _ _ _ (xI rfl)
noncomputable def P7 (P:Prog)(js:List J)(x:A)(o:Option (Env×List O)):Option (Bool×List O):=
 match o with
 |some p=>um P js x p.1 p.2
 |none=>none
noncomputable def P8 (P:Prog)(d:Nat)(js:List J)(x:A)(e:Env)(o:Option (Bool×List O)):Option (Bool×List O):=
 match o with
 |some p=>um P js x ((d,.d (.b p.1))::e) p.2
 |none=>none
@[simp] theorem aaW{js:List J}{x:A}:P7 P js x (some (e,h))=um P js x e h:=rfl
@[simp] theorem aaX{js:List J}{x:A}:P7 P js x none=none:=rfl
@[simp] theorem aaY{d:Nat}{js:List J}{x:A}{y:Bool}:P8 P d js x e (some (y,h))=um P js x ((d,.d (.b y))::e) h:=rfl
@[simp] theorem aaZ{d:Nat}{js:List J}{x:A}:P8 P d js x e none=none:=rfl
def WW(v:V)(h:List O):Option (Bool×List O):=
 match v with
 | .d (.b y)=>some (y,h)
 |_=>none
@[simp] theorem aa0{y:Bool}{h:List O}:WW (.d (.b y)) h=some (y,h):=rfl
@[simp] theorem aa1{x:A}:um P [] x e h=WW (cY e x) h:=rfl
theorem Ei{js:List J}{x:A}{s:St}(hs:s.ok=false):(match(fY (ev P) js s).res with
 |some (e',h')=>match cY e' x with
  | .d (.b y)=>some (y,h')
  |_=>none
 |none=>(none:Option (Bool×List O)))=none:=by
 have:=xI (rec:=ev P) (js:=js) hs;simp[St.res,this]
@[simp] theorem aa2{i:I}{js:List J}{x:A}:um P (.op i::js) x e h=P7 P js x (cQ (ev P) i e h):=by
 simp only[um,fY,jl];rcases P5 (ev P) i e h with⟨e',h',h1,h2⟩ |⟨h1,h2⟩
 .rw[h1,h2];rfl
 .rw[h2];exact Ei h1
@[simp] theorem aa3{fG:Bool}{d c:Nat}{body js:List J}{x y:A}:um P (.sc fG d c body x::js) y e h =
  P8 P d js y (pI (J.j7 body) e) (G5 fG (cA e c) h (um P body x e h)):=by
 simp only[um,fY,jl,fK,G3,G5];cases cA e c with
 |d z =>
  cases z with
  |b g =>
   simp only;by_cases hg:g=fG
   .simp only[aK hg];rfl
   .simp only[aE hg]
    rcases WU (ev P) body e h with⟨e',h',h1⟩ |h1
    .rw[h1]
     simp only[St.res,dH,fK];cases cY e' x with
     |d z =>
      cases z with
      |b y=>rfl
      |_=>exact Ei rfl
     |_=>exact Ei rfl
    .have:(fY (ev P) body ⟨e,h,true⟩).res=none:=by simp[St.res,h1]
     rw[this];refine Ei ?_;generalize (fY (ev P) body ⟨e,h,true⟩).get x=z;cases z with
     |d y=>cases y<;>first |exact h1 |rfl
     |_=>rfl
  |_=>exact Ei rfl
 |_=>exact Ei rfl
@[simp] theorem aa4:run P q fin [] e h=fin .normal e h:=rfl
@[simp] theorem aa5{id:Nat}:run P q fin (.bY id::k) e h=run P q fin k e h:=rfl
@[simp] theorem aa6:run P q fin (.c .skip::k) e h=run P q fin k e h:=rfl
theorem AF{rec:Rec}{c:C}{s:St}:resume rec q fin (.c c::k) .normal s=resume rec q fin k (cP rec q c s).1 (cP rec q c s).2:=rfl
@[simp] theorem run_seq{a b:C}:run P q fin (.c (.seq a b)::k) e h=run P q fin (.c a::.c b::k) e h:=by
 simp only[run,AF,cP];cases h:cP (ev P) q a ⟨e,h,true⟩with
 |mk x s'=>cases x<;>simp[resume]
@[simp] theorem aa7{js:List J}:run P q fin (.c (.cq js)::k) e h=sW P q fin js k e h:=rfl
@[simp] theorem aa8{fl pm:List Nat}{js:List J}:run P q fin (.c (.lu fl pm js)::k) e h=sW P q fin js k (pI fl e) h:=rfl
def P9(d:Nat)(e:Env)(h:List O):Option (Env×List O):=(bp h (cA e d)).map λp=>((d,.d p.1)::e,p.2)
def Ej(e:Env)(h:List O):List Nat->Option (Env×List O)
 | []=>some (e,h)
 |d::ds=>(P9 d e h).bind λp=>Ej p.1 p.2 ds
theorem WX:∀(ds:List Nat)(e:Env)(h:List O),(∃e' h',vK ⟨e,h,true⟩ ds=⟨e',h',true⟩/\Ej e h ds=some (e',h'))\/((vK ⟨e,h,true⟩ ds).ok=false/\Ej e h ds=none)
 | [],e,h=>.inl ⟨e,h,rfl,rfl⟩
 |d::ds,e,h=>by
  simp only[vK,Ej,P9,fK,G3];cases ht:bp h (cA e d)with
  |none =>
   refine .inr ⟨?_,rfl⟩;simp only[Option.map_none,St.gk];cases hq:(vK (St.fail ⟨e,h,true⟩) ds).ok with
   |false=>rfl
   |true=>have:=G1 ds hq;simp at this
  |some p=>exact WX ds _ _
@[simp] theorem aa9{ds:List Nat}:run P q fin (.c (.oD ds)::k) e h=G4 P q fin k (Ej e h ds):=by
 simp only[run,AF,cP];rcases WX ds e h with⟨e',h',h1,h2⟩ |⟨h1,h2⟩
 .rw[h1,h2];rfl
 .rw[h2];exact j8 _ _ _ _ h1
@[simp] theorem run_ite{c:A}{a b:C}:run P q fin (.c (.ite c a b)::k) e h=WS P q fin a b k e h (cY e c):=by
 simp only[run,AF,cP,fK];cases cY e c with
 |d y =>
  cases y with
  |b x=>cases x<;>rfl
  |_=>exact j8 _ _ _ _ rfl
 |_=>exact j8 _ _ _ _ rfl
@[simp] theorem aba{id:Nat}{c:C}:run P q fin (.c (.bY id c)::k) e h=run P q fin (.c c::.bY id::k) e h:=by
 simp only[run,AF,cP];cases h:cP (ev P) q c ⟨e,h,true⟩with
 |mk x s' =>
  cases x with
  |normal=>simp[resume]
  |ret=>simp[resume]
  |exit j=>simp only[resume];split<;>rfl
@[simp] theorem abb{id:Nat}:run P q fin (.c (.exit id)::k) e h=uk P q fin (.exit id) k e h:=rfl
@[simp] theorem abc:run P q fin (.c .ret::k) e h=uk P q fin .ret k e h:=rfl
@[simp] theorem abd{id:Nat}{c:C}:uk P q fin (.exit id) (.c c::k) e h=uk P q fin (.exit id) k e h:=rfl
@[simp] theorem abe{id j:Nat}:uk P q fin (.exit id) (.bY j::k) e h=if id=j then run P q fin k e h else uk P q fin (.exit id) k e h:=rfl
@[simp] theorem abf{x:Ex}:uk P q fin x [] e h=fin x e h:=rfl
@[simp] theorem abg:uk P q fin .ret k e h=fin .ret e h:=by
 unfold uk;induction k with
 |nil=>rfl
 |cons x k ih=>cases x<;>simpa[resume]using ih
@[simp] theorem abh:uk P q fin .normal k e h=run P q fin k e h:=rfl
@[simp] theorem abi{ds:List Nat}:run P q fin (.c (.keep ds)::k) e h=G4 P q fin k (canon q ds e h):=by
 simp only[run,AF,cP];cases canon q ds e h with
 |none=>exact j8 _ _ _ _ rfl
 |some p=>rfl
def WY:Option dN->Option (Ex×Env×List O)
 |some (.out x e h)=>some (x,e,h)
 |_=>none
@[simp] theorem abj{x:Ex}{e:Env}{h:List O}:WY (some (.out x e h))=some (x,e,h):=rfl
noncomputable def Ek (P:Prog)(q:Nat)(live:List Nat)(c:C)(p:Option (Env×List O)):Option dN:=p.bind λp=>ev P (.loop q live c p.1 p.2)
@[simp] theorem abk{live:List Nat}{c:C}{e:Env}{h:List O}:Ek P q live c (some (e,h))=ev P (.loop q live c e h):=rfl
@[simp] theorem abl{live:List Nat}{c:C}:run P q fin (.c (.loop live c)::k) e h =
  KI P q fin k (WY (Ek P q live c (canon q live e h))):=by
 simp only[run,AF,cP,Ek];cases canon q live e h with
 |none=>exact j8 _ _ _ _ rfl
 |some p =>
  simp only[Option.bind];generalize ev P (.loop q live c p.1 p.2)=v;cases v with
  |none=>exact j8 _ _ _ _ rfl
  |some r =>
   cases r with
   |out x e h=>rfl
   |_=>exact j8 _ _ _ _ rfl
def xJ(res:List RV)(keep:Bool)(m:Nat)(e:Env)(h:List O):Option dN:=finish res keep m ⟨e,h,true⟩
def KJ(res:List RV)(keep:Bool)(m:Nat):Fin
 | .normal,e,h | .ret,e,h=>xJ res keep m e h
 | .exit _,_,_=>none
theorem au{f:Nat}{fn:F}(hf:P f=some fn)(hp:fn.Ay=none)(xs:List V)(h:List O):
  ev P (.call f xs h)=run P h.length (KJ fn.res fn.keep h.length) [.c fn.code] (oF 0 xs) h:=by
 rw[ev_eq];simp only[mQ,hf,hp,run,resume];cases hc:cP (ev P) h.length fn.code ⟨oF 0 xs,h,true⟩with
 |mk x s =>
  obtain⟨e',h',ok⟩:=s;cases x<;>cases ok<;>simp[AE,KJ,xJ,finish]
theorem Cn{f:Nat}{fn:F}{p:List V->List O->Option (V×List O)}(hf:P f=some fn)(hp:fn.Ay=some p)(xs:List V)(h:List O):
  ev P (.call f xs h)=(p xs h).map λr=>.val r.1 r.2:=by
 rw[ev_eq];simp only[mQ,hf,hp]
noncomputable def G6 (P:Prog)(q:Nat)(live:List Nat)(c:C):Fin
 | .normal,e,h=>Ek P q live c (canon q live e h)
 |x,e,h=>some (.out x e h)
theorem bT(q:Nat)(live:List Nat)(c:C)(env:Env)(h:List O):
  ev P (.loop q live c env h)=run P q (G6 P q live c) [.c c] env h:=by
 rw[ev_eq];simp only[mQ,run,resume];cases hc:cP (ev P) q c ⟨env,h,true⟩with
 |mk x s =>
  obtain⟨e',h',ok⟩:=s;cases x<;>cases ok<;>simp[AE,G6,Ek]
def Qa(e:Env)(n:Nat)(h:List O):O->Option (Ex×Env×List O)
 | .lp _ _ _ x _=>some (x,e,h.set n .dead)
 |_=>none
def Qb(e:Env)(n:Nat)(o:Option (V×List O)):Option (Ex×Env×List O):=
 match o with
 |some p=>Qa e n p.2 (aU p.2 n)
 |none=>none
@[simp] theorem abm{n:Nat}{v:V}:Qb e n (some (v,h))=Qa e n h (aU h n):=rfl
@[simp] theorem abn{n:Nat}:Qb e n none=none:=rfl
@[simp] theorem abo{n:Nat}{ps:List Nat}{a b:C}{x:Ex}{env:Env}:Qa e n h (.lp ps a b x env)=some (x,e,h.set n .dead):=rfl
def WZ(e:Env)(o:Option (List O)):Option (Env×List O):=o.map λh=>(e,h)
@[simp] theorem abp:WZ e (some h)=some (e,h):=rfl
@[simp] theorem abq{d n:Nat}:run P q fin (.c (.xE d n)::k) e h=G4 P q fin k (WZ e (Ck h n (cA e d))):=by
 simp only[run,AF,cP,fK,G3];cases Ck h n (cA e d)with
 |none=>exact j8 _ _ _ _ rfl
 |some h'=>rfl
@[simp] theorem abr{x:A}{live ps:List Nat}{a b:C}:run P q fin (.c (.qU x live ps a b)::k) e h =
  KI P q fin k (Qb e h.length (lX (az (ev P) (h++[.lp ps a b .normal (jP live e)])) (cY e x) [.jj h.length])):=by
 simp only[run,AF,cP,fK];cases lX (az (ev P) (h++[.lp ps a b .normal (jP live e)])) (cY e x) [.jj h.length]with
 |none=>exact j8 _ _ _ _ rfl
 |some p =>
  obtain⟨v,h'⟩:=p;simp only[abm];cases aU h' h.length with
  |lp _ _ _ y _=>rfl
  |_=>exact j8 _ _ _ _ rfl
def Co(m:Nat):Fin:=λx _ h=>(cut h m []).map λL=>.out x [] (sub h L)
noncomputable def Cq (P:Prog)(m:Nat)(b:C):Fin
 | .normal,e,h=>run P m (Co m) [.c b] e h
 |_,_,_=>none
@[simp] theorem abt{m:Nat}{x:Ex}:Co m x e h=(cut h m []).map λL=>.out x [] (sub h L):=rfl
@[simp] theorem abu{m:Nat}{b:C}:Cq P m b .normal e h=run P m (Co m) [.c b] e h:=rfl
theorem Qc(ps:List Nat)(a b:C)(xs:List V)(env:Env)(h:List O):
  ev P (.round ps a b xs env h)=run P h.length (Cq P h.length b) [.c a] (ps.zip xs++env) h:=by
 rw[ev_eq];simp only[mQ,run,resume];cases hc:cP (ev P) h.length a ⟨ps.zip xs++env,h,true⟩with
 |mk x s =>
  obtain⟨e',h',ok⟩:=s;cases x<;>cases ok<;>simp[AE,Cq,run,resume];cases hb:cP (ev P) h.length b ⟨e',h',false⟩with
  |mk y s2 =>
   cases hs:s2.ok with
   |false=>simp
   |true=>have:=yU (rec:=ev P) (m:=h.length) (c:=b) (s:=⟨e',h',false⟩) (by rw[hb];exact hs);simp at this
@[simp] theorem abv{live:List Nat}{c:C}:G6 P q live c .normal e h=Ek P q live c (canon q live e h):=rfl
@[simp] theorem abw{live:List Nat}{c:C}{id:Nat}:G6 P q live c (.exit id) e h=some (.out (.exit id) e h):=rfl
@[simp] theorem abx{live:List Nat}{c:C}:G6 P q live c .ret e h=some (.out .ret e h):=rfl
@[simp] theorem aby{res:List RV}{keep:Bool}{m:Nat}:KJ res keep m .normal e h=xJ res keep m e h:=rfl
@[simp] theorem abz{res:List RV}{keep:Bool}{m:Nat}:KJ res keep m .ret e h=xJ res keep m e h:=rfl
end
end Go.VS
namespace Go.VS
@[simp] theorem abA(k n:Nat)(v:V)(e:Env):cA ((k,v)::e) n=if k=n then v else cA e n:=rfl
@[simp] theorem abB(n:Nat):cA [] n = .u:=rfl
def p1(d:Nat)(e:Env)(h:List O)(o:Option V):Option (Env×List O):=o.map λv=>((d,v)::e,h)
def p2(d:Nat)(e:Env)(o:Option (V×List O)):Option (Env×List O):=o.map λr=>((d,r.1)::e,r.2)
def xK(d:Option Nat)(e:Env)(o:Option (V×List O)):Option (Env×List O):=o.map λr=>((match d with |some d=>(d,r.1)::e |none=>e),r.2)
def pq(d:Option Nat)(e:Env)(h:List O)(o:Option V):Option (Env×List O):=o.map λv=>((match d with |some d=>(d,v)::e |none=>e),h)
def ph(e:Env)(o:Option (List O)):Option (Env×List O):=o.map λh=>(e,h)
section
variable {d:Nat}{e:Env}{h:List O}{v:V}
@[simp] theorem abC:p1 d e h (some v)=some ((d,v)::e,h):=rfl
@[simp] theorem abD:p1 d e h none=none:=rfl
@[simp] theorem abE:p2 d e (some (v,h))=some ((d,v)::e,h):=rfl
@[simp] theorem abF:p2 d e none=none:=rfl
@[simp] theorem abG:xK (some d) e (some (v,h))=some ((d,v)::e,h):=rfl
@[simp] theorem abH:xK none e (some (v,h))=some (e,h):=rfl
@[simp] theorem abI{dd:Option Nat}:xK dd e none=none:=rfl
@[simp] theorem abJ:pq (some d) e h (some v)=some ((d,v)::e,h):=rfl
@[simp] theorem abK:pq none e h (some v)=some (e,h):=rfl
@[simp] theorem abL{dd:Option Nat}:pq dd e h none=none:=rfl
@[simp] theorem abM:ph e (some h)=some (e,h):=rfl
@[simp] theorem abN:ph e none=none:=rfl
end
theorem lY{d:Nat}{e:Env}{h:List O}{o:Option V}:(St.eZ ⟨e,h,true⟩ d o).res=p1 d e h o:=by cases o<;>rfl
theorem yV{d:Nat}{e:Env}{h:List O}{o:Option (V×List O)}:(St.gk ⟨e,h,true⟩ d o).res=p2 d e o:=by cases o<;>rfl
theorem El{d:Option Nat}{e:Env}{h:List O}{o:Option (V×List O)}:(St.lz ⟨e,h,true⟩ d o).res=xK d e o:=by cases o<;>cases d<;>rfl
theorem KK{d:Option Nat}{e:Env}{h:List O}{o:Option V}:(St.mP ⟨e,h,true⟩ d o).res=pq d e h o:=by cases o<;>cases d<;>rfl
theorem W0{e:Env}{h:List O}{o:Option (List O)}:(St.so ⟨e,h,true⟩ o).res=ph e o:=by cases o<;>rfl
theorem get_map{e:Env}{h:List O}{ok:Bool}{xs:List A}:xs.map (St.get ⟨e,h,ok⟩)=xs.map (cY e):=vu λ_ _=>fK
def Qd(c a b:V):Option V:=match c with | .d (.b x)=>some (if x then a else b) |_=>none
def Qe(fz:Bool)(n:Nat)(v:V)(h:List O):Option (V×List O):=
 if v.cells.length=n/\v.known=true then
  if fz then some (mkRef v.cells,h)else some (.loc h.length 0 0,h++[eK n [v.cells]])
 else none
def abO(fz:Bool)(n:Nat)(v:V)(h:List O):Option (V×List O):=
 if v.cells.length=n/\v.known=true then
  if fz then(fA v.cells).map λcs=>(.d (.ref cs),h)else some (.loc h.length 0 0,h++[eK n [v.cells]])
 else none
def Qf(h:List O)(n:Nat)(p v:V):Option (V×List O):=
 match p with
 | .loc m 0 0 =>
  match aU h m with
  | .aG _ true [z]=>if z.length=n/\v.cells.length=n/\v.known=true then some (mkRef v.cells,h.set m .dead)else none
  |_=>none
 |_=>none
def Qg(fz:Bool)(es n:Nat)(rows:Option (List (List V)))(h:List O):Option (V×List O):=
 if fz then(rows.bind fO).map λrows=>(.d (.sl es false rows),h)else rows.map λrows=>(.aQ h.length 0 n,h++[eK es rows])
def Qh(f:Nat)(a b:List V):V :=
 match fA a,fA b with
 |some x,some y=>.d (.fn f x y)
 |_,_=>.fn f a b
def Qi:V->Option V
 | .d (.ref cs)=>some (.d (.ref cs))
 | .rf cs=>some (.rf cs)
 | .loc n r c=>some (.loc n r c)
 | .d (.mw t v)=>some (.d (.mw t v))
 |_=>none
def Cr(e:Env)(dflt:Int):Option A->Option Int
 |none=>some dflt
 |some a=>asInt (cY e a)
section
variable {rec:Rec}{d:Nat}{e:Env}{h:List O}
@[simp] theorem abP{x:A}:cQ rec (.mv d x) e h=some ((d,cY e x)::e,h):=by simp only[cQ,aR,fK];rfl
@[simp] theorem abQ{c a b:A}:cQ rec (.pick d c a b) e h=p1 d e h (Qd (cY e c) (cY e a) (cY e b)):=by
 simp only[cQ,aR,fK,Qd];generalize cY e c=v;cases v with
 |d y=>cases y<;>first |rfl |(simp only;split<;>rfl)
 |_=>rfl
@[simp] theorem abR{x:A}{n:Nat}{fz:Bool}:cQ rec (.box d x n fz) e h=p2 d e (Qe fz n (cY e x) h):=by
 simp only[cQ,aR,fK,Qe];split
 .cases fz
  .simp only[eR,dG];exact yV
  .rfl
 .rfl
@[simp] theorem abS{z:List D}:cQ rec (.new d z) e h=some ((d,.loc h.length 0 0)::e,h++[.aG z.length true [z]]):=rfl
@[simp] theorem abT{z:List D}{ps:List (Nat×Nat×A)}:cQ rec (.build d z ps) e h=p1 d e h ((fill (z.map .d) (ps.map λp=>(p.1,p.2.1,cY e p.2.2))).map Ce):=by
 simp only[cQ,aR,lY,fK]
@[simp] theorem abU{es n:Nat}{z:List D}{ps:List (Nat×A)}{fz:Bool}:cQ rec (.lq d es n z ps fz) e h=p2 d e (Qg fz es n (xF (List.replicate n (z.map V.d)) es (ps.map λp=>(p.1,cY e p.2))) h):=by
 simp only[cQ,aR,fK,Qg];cases fz
 .simp only[eR,dG];exact yV
 .simp only[dH,lY]
  generalize (xF _ _ _).bind fO=o;cases o<;>rfl
@[simp] theorem abV{x:A}{n:Nat}{ag:Bool}:cQ rec (.ld d x n ag) e h=p1 d e h (yR h n ag (cY e x)):=by simp only[cQ,aR,lY,fK]
@[simp] theorem abW{x y:A}{n:Nat}:cQ rec (.st x y n false) e h=ph e (Kl h n (cY e x) (cY e y)):=by simp only[cQ,aR,eR,dG,W0,fK]
@[simp] theorem abX{y:A}{n:Nat}:cQ rec (.st (.t d) y n true) e h=p2 d e (Qf h n (cA e d) (cY e y)):=by
 simp only[cQ,aR,dH,fK,G3,Qf];generalize cA e d=v;cases v with
 |loc m r c =>
  cases r with
  |zero =>
   cases c with
   |zero =>
    simp only;generalize aU h m=ob;cases ob with
    |aG es ex rows =>
     cases ex with
     |false=>rfl
     |true =>
      match rows with
      | []=>rfl
      |_::_::_=>rfl
      | [z] =>
       simp only;split
       .exact yV
       .rfl
    |_=>rfl
   |succ c=>rfl
  |succ r=>rfl
 |_=>rfl
@[simp] theorem abY{x:A}{o n:Nat}:cQ rec (.fa d x o n) e h=p1 d e h (fa h o n (cY e x)):=by simp only[cQ,aR,lY,fK]
@[simp] theorem abZ{x i:A}{es:Nat}:cQ rec (.jk d x i es) e h=p1 d e h (jk es (cY e x) (cY e i) h):=by simp only[cQ,aR,lY,fK]
@[simp] theorem ab0{x i:A}{len es:Nat}:cQ rec (.oC d x i len es) e h=p1 d e h (oC h len es (cY e x) (cY e i)):=by simp only[cQ,aR,lY,fK]
@[simp] theorem ab1{x:A}{o n:Nat}{ag:Bool}:cQ rec (.sj d x o n ag) e h=p1 d e h (Kt o n ag (cY e x)):=by simp only[cQ,aR,lY,fK]
@[simp] theorem ab2{op:BinOp}{x y:A}:cQ rec (.bin d op x y) e h=p1 d e h (Cf op (cY e x) (cY e y)):=by simp only[cQ,aR,lY,fK]
@[simp] theorem ab3{neg:Bool}{x y:A}{ks:List CK}:cQ rec (.eqv d neg x y ks) e h=p1 d e h (Kh ks neg (cY e x) (cY e y)):=by simp only[cQ,aR,lY,fK]
@[simp] theorem ab4{neg:Bool}{x:A}{k:NK}:cQ rec (.p9 d neg x k) e h=p1 d e h ((isNil h k (cY e x)).map λp=>.d (.b (p != neg))):=by simp only[cQ,aR,lY,fK]
@[simp] theorem ab5{op:UnOp}{x:A}:cQ rec (.un d op x) e h=p1 d e h (Ki op (cY e x)):=by simp only[cQ,aR,lY,fK]
@[simp] theorem ab6{k:IntKind}{x:A}:cQ rec (.kE d k x) e h=p1 d e h (kE k (cY e x)):=by simp only[cQ,aR,lY,fK]
@[simp] theorem ab7{x:A}{k:LK}:cQ rec (.len d x k) e h=p1 d e h (qX h k (cY e x).wk):=by simp only[cQ,aR,lY,fK]
theorem W3{ok:Bool}{dflt:Int}{x:Option A}:uf ⟨e,h,ok⟩ dflt x=Cr e dflt x:=by
 cases x with
 |none=>rfl
 |some a=>simp only[uf,Cr,fK]
@[simp] theorem ab8{x:A}{lo hi:Option A}{es:Nat}:cQ rec (.sl d x lo hi es) e h=p1 d e h (Kq h es (cY e x) (Cr e 0 lo) (Cr e (AA (cY e x)) hi)):=by simp only[cQ,aR,lY,fK,W3]
@[simp] theorem ab9{x:A}{lo hi:Option A}{es:Nat}:cQ rec (.sle d x lo hi es) e h=p2 d e (Kr h es (cY e x) (Cr e 0 lo) (Cr e (AA (cY e x)) hi)):=by simp only[cQ,aR,yV,fK,W3]
@[simp] theorem acd{x y:A}{es:Nat}:cQ rec (.app d x y es) e h=p2 d e (Ef h es (cY e x) (cY e y)):=by simp only[cQ,aR,yV,fK]
@[simp] theorem ace{dd:Option Nat}{x:A}{es:Nat}{z:List D}:cQ rec (.qg dd x es z) e h=xK dd e ((Kv h es z (cY e x)).map λh=>(.tu [],h)):=by simp only[cQ,aR,El,fK]
@[simp] theorem acf{dd:Option Nat}{x y:A}{es:Nat}:cQ rec (.copy dd x y es) e h=xK dd e (copyV h es (cY e x) (cY e y)):=by simp only[cQ,aR,El,fK]
@[simp] theorem acg{x:A}{i:Nat}:cQ rec (.ext d x i) e h=p1 d e h (Kw i (cY e x)):=by simp only[cQ,aR,lY,fK]
@[simp] theorem ach{f:Nat}{a b:List A}:cQ rec (.ij d f a b) e h=some ((d,Qh f (a.map (cY e)) (b.map (cY e)))::e,h):=by
 simp only[cQ,aR,get_map,Qh];generalize fA (a.map (cY e))=x;generalize fA (b.map (cY e))=y;cases x<;>cases y<;>rfl
@[simp] theorem aci:cQ rec (.mB d) e h=some ((d,.mp h.length)::e,h++[.mp []]):=rfl
@[simp] theorem acj{m k v:A}{ks:List CK}:cQ rec (.fE m k v ks) e h=ph e (Ky ks h (cY e m) (cY e k) (cY e v)):=by simp only[cQ,aR,W0,fK]
@[simp] theorem ack{m k:A}{z:D}{ok:Bool}{ks:List CK}:cQ rec (.pE d m k z ok ks) e h=p1 d e h (Kx ks h (cY e m) (cY e k) z ok):=by simp only[cQ,aR,lY,fK]
@[simp] theorem acm{dd:Option Nat}{f:Nat}{xs:List A}:cQ rec (.call dd f xs) e h=pq dd e h (kG rec f (xs.map (cY e))):=by simp only[cQ,aR,KK,get_map]
@[simp] theorem acn{dd:Option Nat}{f:Nat}{xs:List A}:cQ rec (.mO dd f xs) e h=xK dd e (aI rec h f (xs.map (cY e))):=by simp only[cQ,aR,El,get_map]
@[simp] theorem aco{dd:Option Nat}{f:Nat}{xs:List A}:cQ rec (.jf dd f xs) e h=xK dd e (az rec h f (xs.map (cY e))):=by simp only[cQ,aR,El,get_map]
@[simp] theorem acp{dd:Option Nat}{x:A}{xs:List A}:cQ rec (.nR dd x xs) e h=pq dd e h (lX (kG rec) (cY e x) (xs.map (cY e))):=by simp only[cQ,aR,KK,get_map,fK]
@[simp] theorem acq{dd:Option Nat}{x:A}{xs:List A}:cQ rec (.pF dd x xs) e h=xK dd e (lX (az rec h) (cY e x) (xs.map (cY e))):=by simp only[cQ,aR,El,get_map,fK]
@[simp] theorem acr{dd:Option Nat}{x:A}{xs:List A}:cQ rec (.pG dd x xs) e h=xK dd e (oE rec h (cY e x) (xs.map (cY e))):=by simp only[cQ,aR,El,get_map,fK]
@[simp] theorem acs{x y:A}{es:Nat}:cQ rec (.sn d x y es) e h=p2 d e (yS (Ef h es (cY e x) (cY e y))):=by simp only[cQ,aR,yV,fK]
@[simp] theorem acu{f:Nat}{xs:List A}:cQ rec (.nj d f xs) e h=p2 d e (yS (az rec h f (xs.map (cY e)))):=by simp only[cQ,aR,yV,get_map]
@[simp] theorem acv{dd:Option Nat}{f:Nat}{xs:List A}:cQ rec (.calls dd f xs) e h=pq dd e h (vJ rec h f (xs.map (cY e))):=by simp only[cQ,aR,KK,get_map]
@[simp] theorem acw{x:A}:cQ rec (.sV d x) e h=p1 d e h (Qi (cY e x)):=by
 simp only[cQ,aR,fK,Qi];generalize cY e x=v;cases v with
 |d y=>cases y<;>rfl
 |_=>rfl
@[simp] theorem acy{x lo hi mx:A}{es:Nat}:cQ rec (.qQ d x lo hi mx es) e h=p1 d e h (Ks h es (cY e x) (asInt (cY e lo)) (asInt (cY e hi)) (asInt (cY e mx))):=by simp only[cQ,aR,lY,fK]
@[simp] theorem acz{x y:A}:cQ rec (.mx d x y) e h=p1 d e h (Ku (cY e x) (cY e y)):=by simp only[cQ,aR,lY,fK]
@[simp] theorem acA{t:Nat}{x:A}:cQ rec (.nk d t x) e h=p1 d e h (ug t (cY e x)):=by simp only[cQ,aR,lY,fK]
@[simp] theorem acB{dd:Option Nat}{nm:String}{j6:List (Nat×Nat×Nat)}{x:A}{xs:List A}:cQ rec (.inv dd nm j6 x xs) e h=pq dd e h (cV (kG rec) j6 (cY e x) (xs.map (cY e))):=by simp only[cQ,aR,KK,get_map,fK]
@[simp] theorem acC{x:A}:cQ rec (.cap d x) e h=p1 d e h (Ko h (cY e x)):=by simp only[cQ,aR,lY,fK]
@[simp] theorem acD{n k:A}{es:Nat}{z:List D}:cQ rec (.vH d es z n k) e h=p2 d e (Kn h es z (asInt (cY e n)) (asInt (cY e k))):=by simp only[cQ,aR,yV,fK]
@[simp] theorem acE{x k:A}{es:Nat}{z:List D}:cQ rec (.qR d x k es z) e h=p2 d e (Km h es z (cY e x) (asInt (cY e k))):=by simp only[cQ,aR,yV,fK]
@[simp] theorem acF{x:A}{n:Nat}{ag:Bool}:cQ rec (.sk d x n ag) e h=p1 d e h (Kj n ag (cY e x)):=by simp only[cQ,aR,lY,fK]
@[simp] theorem acG{x:A}{o n:Nat}:cQ rec (.nS d x o n) e h=p1 d e h (Kk o n (cY e x)):=by simp only[cQ,aR,lY,fK]
@[simp] theorem acH{f:Nat}{x y:A}{es:Nat}:cQ rec (.qT d f x y es) e h=p1 d e h (Kp h es (cY e x) (cY e y)):=by simp only[cQ,aR,lY,fK]
end
def Qj(e:Env)(h:List O):RV->Option V
 | .t n=>some (cA e n)
 | .c n k ag=>yR h k ag (cA e n)
def xL(e:Env)(h:List O):List RV->Option (List V)
 | []=>some []
 |r::rs=>(Qj e h r).bind λv=>(xL e h rs).map (v::·)
theorem Qk{ok:Bool}{e:Env}{h:List O}:∀{rs:List RV},yT ⟨e,h,ok⟩ rs=xL e h rs
 | []=>rfl
 |r::rs=>by
  have:G0 ⟨e,h,ok⟩ r=Qj e h r:=by cases r<;>rfl
  simp only[yT,xL,this,Qk (rs:=rs)]
def W4(h:List O)(vs:List V):Option dN:=(iq h (vs.map V.wk)).map λds=>.val (tuple (ds.map V.d)) []
def av(h:List O)(m:Nat)(vs:List V):Option dN:=(cut h m (V.gA (vs.map V.wk))).map λL=>.val (tuple (V.iL (L.idxOf ·) (vs.map V.wk))) (sub h L)
@[simp] theorem acI{res:List RV}{e:Env}{h:List O}:xJ res false 0 e h=(xL e h res).bind (W4 h):=by
 simp only[xJ,finish,dH,Qk,and_self];cases xL e h res<;>rfl
theorem W5{res:List RV}{e:Env}{h:List O}{keep:Bool}{m:Nat}(hk:¬(m=0/\keep=false)):xJ res keep m e h=(xL e h res).bind (av h m):=by
 simp only[xJ,finish,dH,Qk,aE hk];cases xL e h res<;>rfl
@[simp] theorem acJ{res:List RV}{e:Env}{h:List O}{m:Nat}:xJ res true m e h=(xL e h res).bind (av h m):=W5 (by simp)
@[simp] theorem acK{res:List RV}{e:Env}{h:List O}{m:Nat}{keep:Bool}:xJ res keep (m+1) e h=(xL e h res).bind (av h (m+1)):=W5 (by simp)
@[simp] theorem acL{rec:Rec}{f:Nat}{xs:List V}{ds:List D}(h:fA xs=some ds):kG rec f xs=match rec (.call f xs [])with |some (.val v [])=>some v |_=>none:=by
 unfold kG;rw[h]<;>rfl
attribute [simp] V.dn V.gA V.dI V.iL O.dn O.dI sub
attribute [simp] J.j7 J.qY I.dst I.wr Option.toList pI oF canon jP qW Qj xL W4 tuple Cr Qd Qe abO mkRef Qf Qg Qh Qi Ej P9
attribute [simp] iq eE fA V.known V.cells D.cells Ce Cf arith Kh eqB jQ Cg vI V.wk Ko Km Kn Kp Kj Kk isNil Ki kE qX asInt jk oC fa pack Ch yR kG lX Kx GZ Ci lW nT AB GY Ky Eg aac PT Kw aq Kl fill xF fO eK Ef Az Kq AA aab Ks Kt mnV Ku ug cV Kv copyV aaa yQ yS vJ Kr V.plain D.Cj D.plain Ck
theorem ak{h:List O}{f n:Nat}{t acc:List Nat}:reach h (f+1) (n::t) acc=if n∈acc then reach h f t acc else reach h f (t++(aU h n).dn) (acc++[n]):=rfl
@[simp] theorem acM{o:O}{h:List O}:aU (o::h) 0=o:=rfl
@[simp] theorem acN{o:O}{h:List O}{n:Nat}:aU (o::h) (n+1)=aU h n:=rfl
theorem acO{h:List O}{x:O}{n:Nat}(hn:n<h.length):aU (h.set n x) n=x:=by simp[aU,List.getD,hn]
@[simp] theorem Cs{h:List O}{x:O}:aU (h++[x]) h.length=x:=by simp[aU,List.getD]
theorem uo{h h':List O}{n:Nat}(hn:n<h.length):aU (h++h') n=aU h n:=by simp[aU,List.getD,sP hn]
@[simp] theorem W6{h:List O}{x y:O}:(h++[x]).set h.length y=h++[y]:=by simp
@[simp] theorem acP{h:List O}{n:Nat}{acc:List Nat}:reach h n [] acc=acc:=by cases n<;>rfl
@[simp] theorem acQ{h:List O}:cut h 0 []=some []:=by simp[cut]
theorem toNat_add(a b:Nat):((a:Int)+(b:Int)).toNat=a+b:=by omega
theorem W7(a b c:Nat):((a:Int)+(b:Int) - (c:Int)).toNat=a+b - c:=by omega
theorem W8(a b c:Nat):((a:Int)+(b:Int) - ((c:Int)+(b:Int))).toNat=a - c:=by omega
theorem wrap_i64{x:Int}(h1:-9223372036854775808<=x)(h2:x<=9223372036854775807):IntKind.i64.wrap x=x:=by
 have e0:((2:Int) ^ IntKind.i64.bits)=18446744073709551616:=by decide
 have e1:((2:Int) ^ (IntKind.i64.bits - 1))=9223372036854775808:=by decide
 simp only[IntKind.wrap,e0,e1,IntKind.signed,Ao];by_cases hx:0<=x
 .rw[Int.emod_eq_of_lt hx (by omega)]
  simp;omega
 .have:x % 18446744073709551616=x+18446744073709551616:=by omega
  rw[this];simp;omega
end Go.VS
namespace Go.VS
def jR(i:Int)(vs rows:List (List D)):List (List D):=rows.take i.toNat++vs++rows.drop i.toNat
def lZ(es:Nat)(xs:List V)(h:List O):Option (V×List O):=
 match xs with
 | [x,.d (.i .i64 i),.d (.sl e false vs)] =>
  if e=es/\vs≠[]/\vs.all (·.length==es)=true then
   match x with
   | .d (.sl e' true [])=>if e'=es/\i=0/\vs.length<=room then some (.aQ h.length 0 vs.length,h++[.aG es true vs])else none
   | .iT e'=>if e'=es/\i=0/\vs.length<=room then some (.aQ h.length 0 vs.length,h++[.aG es true vs])else none
   | .aQ n off len =>
    match aU h n with
    | .aG e' true rows =>
     if e'=es/\off+len<=rows.length/\0<=i/\i<=len/\len+vs.length<=room then
      some (.aQ h.length 0 (len+vs.length),h.set n .dead++[.aG es true (jR i vs ((rows.drop off).take len))])else none
    |_=>none
   |_=>none
  else none
 |_=>none
end Go.VS
namespace Go.VS
def u9(es:Nat)(z:List D)(fo fr:Nat):C :=
 ((.seq (.cq [.op (.mv 6 (.k (.sl es true [])))])
 ((
  .seq (.cq [.op (.mv 10 (.t 0)),
  .op (.mv 11 (.t 1)),
  .op (.sl 12 (.t 10) (some (.t 11)) none es)])
 ((
  .seq (.cq [.op (.mv 13 (.t 2)),
  .op (.len 14 (.t 13) .sl),
  .op (.mv 7 (.t 14))])
 ((
  .seq ((.seq (.cq [.op (.mv 15 (.t 7)),
  .op (.bin 16 .eql (.t 15) (.k (.i .i64 0)))])
 (.ite (.t 16)
  ((
   .seq (.cq [.op (.mv 17 (.t 0)),
   .op (.mv 6 (.t 17))])
  (.ret)))
  (.skip))))
 ((
  .seq (.cq [.op (.mv 18 (.t 0)),
  .op (.len 19 (.t 18) .sl),
  .op (.mv 8 (.t 19))])
 ((
  .seq ((.seq (.cq [.op (.mv 20 (.t 1)),
  .op (.mv 21 (.t 8)),
  .op (.bin 22 .eql (.t 20) (.t 21))])
 (.ite (.t 22)
  ((
   .seq (.cq [.op (.mv 23 (.t 0)),
   .op (.mv 24 (.t 2)),
   .op (.app 25 (.t 23) (.t 24) es),
   .op (.mv 6 (.t 25))])
  (.ret)))
  (.skip))))
 ((
  .seq ((.seq (.cq [.op (.mv 26 (.t 8)),
  .op (.mv 27 (.t 7)),
  .op (.bin 28 .add (.t 26) (.t 27)),
  .op (.mv 29 (.t 0)),
  .op (.cap 30 (.t 29)),
  .op (.bin 31 .gtr (.t 28) (.t 30))])
 (.ite (.t 31)
  ((
   .seq (.cq [.op (.mv 32 (.t 0)),
   .op (.mv 33 (.t 1)),
   .op (.sl 34 (.t 32) none (some (.t 33)) es),
   .op (.mv 35 (.t 8)),
   .op (.mv 36 (.t 7)),
   .op (.bin 37 .add (.t 35) (.t 36)),
   .op (.mv 38 (.t 1)),
   .op (.bin 39 .sub (.t 37) (.t 38)),
   .op (.qR 40 (.t 34) (.t 39) es z),
   .op (.mv 9 (.t 40))])
  ((
   .seq (.cq [.op (.mv 41 (.t 9)),
   .op (.mv 42 (.t 1)),
   .op (.sl 43 (.t 41) (some (.t 42)) none es),
   .op (.mv 44 (.t 2)),
   .op (.copy (some 45) (.t 43) (.t 44) es)])
  ((
   .seq (.lu [] [0,1,2,3,4,5,6,7,8] [.op (.mv 46 (.t 9)),
   .op (.mv 47 (.t 1)),
   .op (.mv 48 (.t 7)),
   .op (.bin 49 .add (.t 47) (.t 48)),
   .op (.sl 50 (.t 46) (some (.t 49)) none es),
   .op (.mv 51 (.t 0)),
   .op (.mv 52 (.t 1)),
   .op (.sl 53 (.t 51) (some (.t 52)) none es),
   .op (.copy (some 54) (.t 50) (.t 53) es)])
  ((
   .seq (.cq [.op (.mv 55 (.t 9)),
   .op (.mv 6 (.t 55))])
  (.ret)))))))))
  (.skip))))
 ((
  .seq (.cq [.op (.mv 56 (.t 0)),
  .op (.mv 57 (.t 8)),
  .op (.mv 58 (.t 7)),
  .op (.bin 59 .add (.t 57) (.t 58)),
  .op (.sl 60 (.t 56) none (some (.t 59)) es),
  .op (.mv 0 (.t 60))])
 ((
  .seq ((.seq (.cq [.op (.mv 61 (.t 2)),
  .op (.mv 62 (.t 0)),
  .op (.mv 63 (.t 1)),
  .op (.mv 64 (.t 7)),
  .op (.bin 65 .add (.t 63) (.t 64)),
  .op (.sl 66 (.t 62) (some (.t 65)) none es),
  .op (.qT 67 fo (.t 61) (.t 66) es),
  .op (.un 68 .not (.t 67))])
 (.ite (.t 68)
  ((
   .seq (.lu [] [0,1,2,3,4,5,6,7,8] [.op (.mv 69 (.t 0)),
   .op (.mv 70 (.t 1)),
   .op (.mv 71 (.t 7)),
   .op (.bin 72 .add (.t 70) (.t 71)),
   .op (.sl 73 (.t 69) (some (.t 72)) none es),
   .op (.mv 74 (.t 0)),
   .op (.mv 75 (.t 1)),
   .op (.sl 76 (.t 74) (some (.t 75)) none es),
   .op (.copy (some 77) (.t 73) (.t 76) es)])
  ((
   .seq (.cq [.op (.mv 78 (.t 0)),
   .op (.mv 79 (.t 1)),
   .op (.sl 80 (.t 78) (some (.t 79)) none es),
   .op (.mv 81 (.t 2)),
   .op (.copy (some 82) (.t 80) (.t 81) es)])
  ((
   .seq (.cq [.op (.mv 83 (.t 0)),
   .op (.mv 6 (.t 83))])
  (.ret)))))))
  (.skip))))
 ((
  .seq (.cq [.op (.mv 84 (.t 0)),
  .op (.mv 85 (.t 8)),
  .op (.sl 86 (.t 84) (some (.t 85)) none es),
  .op (.mv 87 (.t 2)),
  .op (.copy (some 88) (.t 86) (.t 87) es)])
 ((
  .seq (.cq [.op (.mv 89 (.t 0)),
  .op (.mv 90 (.t 1)),
  .op (.sl 91 (.t 89) (some (.t 90)) none es),
  .op (.mv 92 (.t 7)),
  .op (.call (some 93) fr [(.t 91),(.t 92)])])
 ((
  .seq (.cq [.op (.mv 94 (.t 0)),
  .op (.mv 6 (.t 94))])
 (.ret)))))))))))))))))))))))))
def oY:Fin
 | .ret,e,h=>some (.val (cA e 6) h)
 |_,_,_=>none
section
variable {Pv:Prog}{q es fo fr n i len:Nat}{z:List D}{vs rows:List (List D)}{H:List O}
theorem ala(hn:aU H n = .aG es true rows)(hl:len<=rows.length)(hv:vs≠[])(hm:len+vs.length<=room):
  run Pv q oY [.c (u9 es z fo fr)] (oF 0 [.je n 0 len,.d (.i .i64 len),.d (.sl es false vs)]) H =
   if len+vs.length<=rows.length then some (.val (.je n 0 (len+vs.length)) (H.set n (.aG es true (aq rows len vs))))
   else some (.val (.aQ H.length 0 (len+vs.length)) (H++[.aG es true (rows.take len++vs)])):=by
 have h1:((vs.length:Int)==0)=false:=by have:=rX.2 hv;simp;omega
 have h2:(len:Int)<=rows.length:=by omega
 unfold u9;by_cases h0:len=0<;>by_cases h4:len+vs.length<=rows.length
 .subst h0;simp at hm h4;simp[hn,h1,hv,hm,h4,oY]
 .subst h0;simp only[nP]at hm h4;simp[hn,h1,hv,hm,h4,oY]
 .simp[hn,hl,h0,h1,hv,hm,h4,oY]
 .simp[hn,hl,h0,h1,hv,hm,h4,oY]
theorem alb(hn:aU H n = .aG es true rows)(hl:len<=rows.length)(gm:n<H.length)(hv:vs≠[])(hm:len+vs.length<=room)(hi:i<len)(hz:z.length=es):
  run Pv q oY [.c (u9 es z fo fr)] (oF 0 [.je n 0 len,.d (.i .i64 i),.d (.sl es false vs)]) H =
   if len+vs.length<=rows.length then some (.val (.je n 0 (len+vs.length)) (H.set n (.aG es true (aq (aq rows (i+vs.length) ((rows.drop i).take (len - i))) i vs))))
   else some (.val (.aQ H.length 0 (len+vs.length)) (H++[.aG es true (jR i vs (rows.take len))])):=by
 have h1:((vs.length:Int)==0)=false:=by have:=rX.2 hv;simp;omega
 have h2:((i:Int)==len)=false:=by simp;omega
 have h3:(i:Int)<=rows.length:=by omega
 have h4:i<=rows.length:=by omega
 have h5:i<=len:=by omega
 have hv0:=rX.2 hv;have hm':len+vs.length<=4294967296:=hm;have w1:IntKind.i64.wrap ((len:Int)+vs.length)=len+vs.length:=wrap_i64 (by omega) (by omega)
 have w2:IntKind.i64.wrap ((i:Int)+vs.length)=i+vs.length:=wrap_i64 (by omega) (by omega)
 have w3:IntKind.i64.wrap ((len:Int)+vs.length - i)=len+vs.length - i:=wrap_i64 (by omega) (by omega)
 unfold u9;have ht:vs.take (len+vs.length - i)=vs:=gE (by omega)
 by_cases h6:len+vs.length<=rows.length
 .have h7:¬((rows.length:Int)<len+vs.length):=by omega
  simp(disch:=omega) [hn,hl,h1,h2,hi,w1,w2,h6,h7,oY,aK,aE,toNat_add,W7,W8,acO,Ax,J8,ht]
 .have h7:((rows.length:Int)<len+vs.length):=by omega
  have e:List.take i (List.take i rows++List.replicate (len+vs.length - i) z)=rows.take i:=by
   rw[Ca (by simp;omega),Ax,Ka]
  have e2:(List.take (len - i) (List.drop i rows))=List.drop i (List.take len rows):=by rw[List.drop_take]
  have e3:List.take (i+vs.length) (rows.take i++(vs++List.drop (i+vs.length) (List.take i rows++List.replicate (len+vs.length - i) z)))=rows.take i++vs:=by
   rw[<-List.append_assoc,Ca (by simp;omega),gE (by simp;omega)]
  have e4:List.drop (i+vs.length+(len - i)) (rows.take i++(vs++List.drop (i+vs.length) (List.take i rows++List.replicate (len+vs.length - i) z)))=[]:=qK (by simp;omega)
  simp(disch:=omega) [hn,h1,h2,hi,w1,w2,w3,h6,h7,oY,aK,aE,toNat_add,W7,W8,hz,uo,ht,e,e2,Ax,J8,jR,hl];have e5:List.take (len - i) (List.drop i (List.take len rows))=List.drop i (List.take len rows):=gE (by rw[PJ,List.length_take];omega)
  rw[e3,e4,ni,sS,e5]
theorem alc(hv:vs≠[])(hm:vs.length<=room):
  run Pv q oY [.c (u9 es z fo fr)] (oF 0 [.d (.sl es true []),.d (.i .i64 0),.d (.sl es false vs)]) H=some (.val (.aQ H.length 0 vs.length) (H++[.aG es true vs])):=by
 have h1:((vs.length:Int)==0)=false:=by have:=rX.2 hv;simp;omega
 unfold u9;simp[h1,hv,hm,oY]
theorem ald(hv:vs≠[])(hm:vs.length<=room):
  run Pv q oY [.c (u9 es z fo fr)] (oF 0 [.iT es,.d (.i .i64 0),.d (.sl es false vs)]) H=some (.val (.aQ H.length 0 vs.length) (H++[.aG es true vs])):=by
 have h1:((vs.length:Int)==0)=false:=by have:=rX.2 hv;simp;omega
 unfold u9;simp[h1,hv,hm,oY]
theorem ale{c:C}{env:Env}{v:V}{h1:List O}(hr:run Pv q oY [.c c] env H=some (.val v h1)):∃s',cP (ev Pv) q c ⟨env,H,true⟩=(.ret,s')/\s'.ok=true/\cA s'.env 6=v/\s'.heap=h1:=by
 unfold run at hr;simp only[resume]at hr;cases hc:cP (ev Pv) q c ⟨env,H,true⟩with
 |mk x s' =>
  rw[hc]at hr;cases x with
  |normal=>simp[resume,AE,oY]at hr
  |exit id=>simp[resume,AE,oY]at hr
  |ret =>
   simp only[resume,AE]at hr;split at hr
   .rename_i hok
    simp only[oY,gz,dN.val.injEq]at hr;exact⟨s',rfl,hok,hr.1,hr.2⟩
   .simp at hr
theorem alf(hl:len<=rows.length):(aq rows len vs).take (len+vs.length)=jR len vs (rows.take len):=by
 unfold aq jR;have h1:(rows.take len).length=len:=by simp;omega
 rw[Ca (by simp;omega),gE (by simp;omega),PK,Ax,Ka,qK (by omega),ni]
theorem alg(hl:len<=rows.length):(rows.take len++vs).take (len+vs.length)=jR len vs (rows.take len):=by
 unfold jR;have h1:(rows.take len).length=len:=by simp;omega
 rw[gE (by simp;omega),PK,Ax,Ka,qK (by omega),ni]
theorem alh{l:List (List D)}(hi:i<=l.length):(jR i vs l).length=l.length+vs.length:=by
 unfold jR;simp;omega
theorem ali{α:Type}{cs new:List α}{o:Nat}(h:o+new.length<=cs.length):(aq cs o new).length=cs.length:=by
 unfold aq;simp;omega
theorem alj(hl:len+vs.length<=rows.length)(hi:i<len):(aq (aq rows (i+vs.length) ((rows.drop i).take (len - i))) i vs).take (len+vs.length)=jR i vs (rows.take len) /\
  (aq (aq rows (i+vs.length) ((rows.drop i).take (len - i))) i vs).length=rows.length:=by
 have e0:((rows.drop i).take (len - i)).length=len - i:=by simp;omega
 have e1:(aq rows (i+vs.length) ((rows.drop i).take (len - i))).length=rows.length:=ali (by rw[e0];omega)
 refine⟨?_,by rw[ali (by rw[e1];omega),e1]⟩
 have e2:(aq rows (i+vs.length) ((rows.drop i).take (len - i))).take i=rows.take i:=by
  unfold aq;rw[sS,Ca (by simp;omega),Ax]
  congr 1;omega
 have e3:(aq rows (i+vs.length) ((rows.drop i).take (len - i))).drop (i+vs.length)=(rows.drop i).take (len - i)++rows.drop (i+vs.length+(len - i)):=by
  unfold aq;rw[sS,e0]
  have:(rows.take (i+vs.length)).length=i+vs.length:=by simp;omega
  rw[List.drop_append_of_le_length (by omega),qK (by omega),mu]
 generalize aq rows (i+vs.length) ((rows.drop i).take (len - i))=Y at *;unfold aq jR;rw[e2,e3,PK,Ax,J8 (by omega),<-List.append_assoc,Ca (by simp;omega),gE (by simp;omega),List.drop_take]
end
end Go.VS
namespace Go.VS
section
variable {P:Program}{φ:fy}
mutual
theorem Ou{h:List O}{g:Gh}{w:World}:∀{x:V}{v:Value},aJ φ h g w x v->∀n∈x.dn,n<h.length
 | .u,_,_,n,hn=>by simp[V.dn]at hn
 | .kC,_,_,n,hn=>by simp[V.dn]at hn
 | .d x,_,_,n,hn=>by simp[V.dn]at hn
 | .loc k r c,_,hr,n,hn=>by simp only[V.dn,yL]at hn;simp only[aJ]at hr;rw[hn];exact hr.1
 | .aQ k r c,_,hr,n,hn=>by simp only[V.dn,yL]at hn;simp only[aJ]at hr;rw[hn];exact hr.1
 | .je k r c,_,hr,n,hn=>by simp only[V.dn,yL]at hn;simp only[aJ]at hr;rw[hn];exact hr.1
 | .iT _,_,_,n,hn=>by simp[V.dn]at hn
 | .mp k,_,hr,n,hn=>by simp only[V.dn,yL]at hn;simp only[aJ]at hr;rw[hn];exact hr.1
 | .jj k,_,hr,n,hn=>by simp only[V.dn,yL]at hn;simp only[aJ]at hr;rw[hn];exact hr.1
 | .rf cs,_,hr,n,hn=>by
  simp only[aJ]at hr;obtain⟨b,off,us,_,_,h1,_⟩:=hr;exact F7 h1 n (by simpa only[V.dn]using hn)
 | .fn f a b,_,hr,n,hn=>by
  simp only[aJ]at hr;obtain⟨A,B,_,h1,h2⟩:=hr;simp only[V.dn,dc]at hn;exact hn.elim (F7 h1 n) (F7 h2 n)
 | .ag cs,_,hr,n,hn=>by
  simp only[aJ]at hr;obtain⟨A,_,h1,_⟩:=hr;exact F7 h1 n (by simpa only[V.dn]using hn)
 | .tu cs,_,hr,n,hn=>by
  simp only[aJ]at hr;obtain⟨A,_,h1⟩:=hr;exact F7 h1 n (by simpa only[V.dn]using hn)
theorem F7{h:List O}{g:Gh}{w:World}:∀{xs:List V}{vs:List Value},bR φ h g w xs vs->∀n∈V.gA xs,n<h.length
 | [],_,_,n,hn=>by simp[V.gA]at hn
 |x::xs,v::vs,hr,n,hn=>by
  simp only[bR]at hr;simp only[V.gA,dc]at hn;exact hn.elim (Ou hr.1 n) (F7 hr.2 n)
 |_::_,[],hr,_,_=>by simp[bR]at hr
end
theorem alk{h:List O}{g:Gh}{w:World}{b o:Nat}{x:O}(hr:gC φ h g w b o x):∀n∈x.dn,n<h.length:=by
 intro n hn;cases x with
 |gK es rows =>
  simp only[O.dn,Au]at hn;obtain⟨row,hrow,hn⟩:=hn;obtain⟨r,iH,lM⟩:=sR hrow;have hg:rows[r]?=some row:=by simp[iH,lM]
  obtain⟨_,h2⟩:=hr.2.1 r row hg
  have:∀(row:List V),(∀(j:Nat)(c:V),row[j]?=some c->∃v,aJ φ h g w c v)->n∈V.gA row->n<h.length:=by
   intro row;induction row with
   |nil=>intro _ hn;simp[V.gA]at hn
   |cons c row ih =>
    intro hc hn;simp only[V.gA,dc]at hn;rcases hn with hn |hn
    .obtain⟨v,hv⟩:=hc 0 c rfl
     exact Ou hv n hn
    .exact ih (λj c hj=>hc (j+1) c (by simpa using hj)) hn
  exact this row (λj c hj=>let ⟨v,_,_,h3⟩:=h2 j c hj;⟨v,h3⟩) hn
 |mp kv =>
  simp only[O.dn,Au]at hn;obtain⟨p,hp,hn⟩:=hn;obtain⟨ES,kM,_,⟨hl,h2⟩,_⟩:=hr;obtain⟨r,iH,lM⟩:=sR hp;have alm:r<ES.toList.length:=by omega
  obtain⟨_,h3⟩:=h2 r p ES.toList[r] (by simp[iH,lM]) (by simp)
  exact Ou h3 n hn
 |lp ps a c e env =>
  simp only[O.dn]at hn;obtain⟨rc,nt,_,_,_,_,h4,_⟩:=hr
  have:∀(env:List (Nat×V)),C8 φ h g w env rc.tmps->n∈qW env->n<h.length:=by
   intro env;induction env with
   |nil=>intro _ hn;simp[qW]at hn
   |cons p r ih =>
    intro hr hn;simp only[qW,dc]at hn;rcases hn with hn |hn
    .exact Ou (hr p (by simp)) n hn
    .exact ih (λq hq=>hr q (by simp[hq])) hn
  exact this env h4 hn
 |_=>simp[O.dn]at hn
structure UQ(K:List O)(g:Gh)(K':List O)(g':Gh)(n:Nat):Prop where
 lt:n<K'.length
 ob:aU K' n=aU K n
 β:g'.β n=g.β n
 o:g'.o n=g.o n
mutual
theorem Ov{K K':List O}{g g':Gh}{w:World}(hI:g'.I=g.I):∀{x:V}{v:Value},(∀n∈x.dn,UQ K g K' g' n)->aJ φ K g w x v->aJ φ K' g' w x v
 | .u,_,_,_=>by simp[aJ]
 | .kC,_,_,hr=>by simpa[aJ]using hr
 | .d x,_,_,hr=>by simp only[aJ]at hr⊢;rw[hI];exact hr
 | .loc n r c,_,hs,hr=>by
  have S:=hs n (by simp[V.dn])
  simp only[aJ]at hr⊢;rw[S.ob,S.β,S.o];exact⟨S.lt,hr.2⟩
 | .aQ n r c,_,hs,hr=>by
  have S:=hs n (by simp[V.dn])
  simp only[aJ]at hr⊢;rw[S.ob,S.β,S.o];exact⟨S.lt,hr.2⟩
 | .je n r c,_,hs,hr=>by
  have S:=hs n (by simp[V.dn])
  simp only[aJ]at hr⊢;rw[S.ob,S.β,S.o];exact⟨S.lt,hr.2⟩
 | .iT _,_,_,hr=>by simpa only[aJ]using hr
 | .mp n,_,hs,hr=>by
  have S:=hs n (by simp[V.dn])
  simp only[aJ]at hr⊢;rw[S.ob,S.β];exact⟨S.lt,hr.2⟩
 | .jj n,_,hs,hr=>by
  have S:=hs n (by simp[V.dn])
  simp only[aJ]at hr⊢;rw[S.ob,S.β];exact⟨S.lt,hr.2⟩
 | .rf cs,_,hs,hr=>by
  simp only[aJ]at hr⊢;obtain⟨b,off,us,h0,h1,h2,h3⟩:=hr;exact⟨b,off,us,h0,by rw[hI];exact h1,F8 hI (λn hn=>hs n (by simpa only[V.dn]using hn)) h2,h3⟩
 | .fn f a b,_,hs,hr=>by
  simp only[aJ]at hr⊢;obtain⟨A,B,h0,h1,h2⟩:=hr;exact⟨A,B,h0,F8 hI (λn hn=>hs n (by simp[V.dn,hn])) h1,F8 hI (λn hn=>hs n (by simp[V.dn,hn])) h2⟩
 | .ag cs,_,hs,hr=>by
  simp only[aJ]at hr⊢;obtain⟨A,h0,h1,h2⟩:=hr;exact⟨A,h0,F8 hI (λn hn=>hs n (by simpa only[V.dn]using hn)) h1,h2⟩
 | .tu cs,_,hs,hr=>by
  simp only[aJ]at hr⊢;obtain⟨A,h0,h1⟩:=hr;exact⟨A,h0,F8 hI (λn hn=>hs n (by simpa only[V.dn]using hn)) h1⟩
theorem F8{K K':List O}{g g':Gh}{w:World}(hI:g'.I=g.I):∀{xs:List V}{vs:List Value},(∀n∈V.gA xs,UQ K g K' g' n)->bR φ K g w xs vs->bR φ K' g' w xs vs
 | [],[],_,_=>by simp[bR]
 |x::xs,v::vs,hs,hr=>by
  simp only[bR]at hr⊢;exact⟨Ov hI (λn hn=>hs n (by simp[V.gA,hn])) hr.1,F8 hI (λn hn=>hs n (by simp[V.gA,hn])) hr.2⟩
 | [],_::_,_,hr=>by simp[bR]at hr
 |_::_,[],_,hr=>by simp[bR]at hr
end
theorem aln{K K':List O}{g g':Gh}{w:World}{b o:Nat}{x:O}(hI:g'.I=g.I)(hs:∀n∈x.dn,UQ K g K' g' n)(hr:gC φ K g w b o x):gC φ K' g' w b o x:=by
 cases x with
 |dead=>trivial
 |aG es ex rows=>simp only[gC]at hr⊢;rw[hI];exact hr
 |gK es rows =>
  simp only[gC]at hr⊢;rw[hI];refine⟨hr.1,λr row hrow=>?_,hr.2.2⟩
  obtain⟨h1,h2⟩:=hr.2.1 r row hrow;refine⟨h1,λj c hj=>?_⟩
  obtain⟨v,h3,h4,h5⟩:=h2 j c hj;refine⟨v,h3,h4,Ov hI (λn hn=>hs n ?_) h5⟩
  simp only[O.dn,Au];exact⟨row,kY hrow,Zz (kY hj) hn⟩
 |mp kv =>
  simp only[gC]at hr⊢;rw[hI];obtain⟨ES,kM,h1,⟨h2,h3⟩,h4⟩:=hr;refine⟨ES,kM,h1,⟨h2,λi p e hp he=>?_⟩,h4⟩
  obtain⟨h5,h6⟩:=h3 i p e hp he;refine⟨by rw[hI];exact h5,Ov hI (λn hn=>hs n ?_) h6⟩
  simp only[O.dn,Au];exact⟨p,kY hp,hn⟩
 |lp ps a c e env =>
  simp only[gC]at hr⊢;rw[hI];obtain⟨rc,nt,h1,h0,h2,h3,h4,h5⟩:=hr;exact⟨rc,nt,h1,h0,h2,h3,λp hp=>Ov hI (λn hn=>hs n (by simp only[O.dn];exact NJ hp hn)) (h4 p hp),h5⟩
theorem alo{H0 K:List O}{g:Gh}{w:World}{j es p:Nat}{Z:List (List D)}(hr:eX φ K g w)(h0:∀k,k<H0.length->aU K k=aU H0 k)(UR:∀k,∀n∈(aU H0 k).dn,n<H0.length)
  (hj:H0.length<=j)(hZ:aU K j = .aG es true Z):eX φ (H0++[.aG es true (Z.take p)]) (g.add H0.length (g.β j) (g.o j) g.I) w:=by
 have F9:∀k,k<H0.length->aU (H0++[.aG es true (Z.take p)]) k=aU K k:=λk hk=>by rw[uo hk,h0 k hk]
 have hl:(aU K j).live=true:=by rw[hZ];rfl
 refine⟨λk=>?_,λa b ha hb he=>?_,hr.new⟩
 .rcases sQ k H0.length with hk |hk |hk
  .have hne:k≠H0.length:=by omega
   rw[F9 k hk];simp only[Gh.add,aE hne];refine aln (K:=K) (g:=g) rfl (λn hn=>?_) (hr.obj k)
   rw[h0 k hk]at hn;have hlt:=UR k n hn;have NR:n≠H0.length:=by omega
   exact⟨by simp;omega,F9 n hlt,by simp[Gh.add,NR],by simp[Gh.add,NR]⟩
  .subst hk
   rw[Cs];have:=hr.obj j;rw[hZ]at this;obtain⟨⟨CS,T,hb,hfit⟩,dV,hI⟩:=this;simp only[Gh.add,dH];have hmul:es*(Z.take p).length<=es*Z.length:=Px es (by simp[Nat.min_le_right])
   refine⟨⟨CS,T,hb,by omega⟩,uT λr row hrow=>?_,hI⟩
   rw[yM]at hrow;split at hrow
   .exact n7 dV hrow
   .simp at hrow
  .rw[uV hk];trivial
 .have key:∀k,(aU (H0++[.aG es true (Z.take p)]) k).live=true->k<=H0.length:=λk hk=>by
   rcases k9 H0.length k with h1 |h1
   .rw[uV h1]at hk;simp[O.live]at hk
   .exact h1
  have ka:=key a ha;have kb:=key b hb;by_cases h1:a=H0.length<;>by_cases h2:b=H0.length
  .omega
  .have hlt:b<H0.length:=by omega
   rw[F9 b hlt]at hb;simp only[Gh.add,h1,h2,dH,dG]at he;have:=hr.inj _ _ hl hb he;omega
  .have hlt:a<H0.length:=by omega
   rw[F9 a hlt]at ha;simp only[Gh.add,h1,h2,dH,dG]at he;have:=hr.inj _ _ ha hl he;omega
  .have hlt:a<H0.length:=by omega
   have hlt':b<H0.length:=by omega
   rw[F9 a hlt]at ha;rw[F9 b hlt']at hb;simp only[Gh.add,h1,h2,dG]at he;exact hr.inj _ _ ha hb he
theorem alp{H0 K h:List O}{g0 g:Gh}{w0 w:World}{m j es p:Nat}{Z:List (List D)}(hf:Frame m h g0 w0 K g w)(h0:∀k,k<H0.length->aU K k=aU H0 k)(hm:m<=H0.length)
  (hj:H0.length<=j)(hZ:aU K j = .aG es true Z):Frame m h g0 w0 (H0++[.aG es true (Z.take p)]) (g.add H0.length (g.β j) (g.o j) g.I) w where
 ext:=hf.ext
 size:=hf.size
 os:=hf.os
 tape:=hf.tape
 output:=hf.output
 oQ n hn:=by
  have hne:n≠H0.length:=by omega
  simp only[Gh.add,aE hne];exact hf.oQ n hn
 keep:=hf.keep
 mG n hn:=by
  rcases sQ n H0.length with hk |hk |hk
  .have hne:n≠H0.length:=by omega
   rw[uo hk,<-h0 n hk]at hn;simp only[Gh.add,aE hne];exact hf.mG n hn
  .simp only[Gh.add,hk,dH]
   exact hf.mG j (by rw[hZ];rfl)
  .rw[uV hk]at hn;simp[O.live]at hn
 oR n hn:=by
  have hlt:n<H0.length:=by omega
  have:=hf.oR n hn;have he:aU (H0++[.aG es true (Z.take p)]) n=aU K n:=by rw[uo hlt,h0 n hlt]
  exact⟨λes he'=>by rw[he]at he'⊢;exact this.arr es he',λkv hk=>this.mp kv (by rw[<-he];exact hk),λhk=>this.lp (by rw[<-he];exact hk)⟩
theorem alq{h:List O}{g:Gh}{w:World}(hr:eX φ h g w){n:Nat}(hl:(aU h n).live=true)(m:Nat):eX φ (h.set n .dead) g w/\Frame m h g w (h.set n .dead) g w:=by
 have hle:gU h g w (h.set n .dead) (g.eo g.I) w:=wv hr hl (jU.refl _ _) (Ext.refl _ _) (λes he=>by simp[O.gL]at he) (λkv hk=>by simp at hk)
 exact⟨wx hr hl (jU.refl _ _) hle (λ_ _=>rfl) trivial,wy .dead hl (jU.refl _ _) (Ext.refl _ _) (λ_ _=>rfl) hle⟩
theorem US(hm:P.follows .mixedOrders=true)(hk:w7 P φ){f:Nat}{F:F}(hF:Ol P φ f F){es fo fr:Nat}{z:List D}(Jf:F.code=u9 es z fo fr)(hres:F.res=[.t 6])
  {h:List O}{g:Gh}{w:World}{xs:List V}{args:Array Value}{v:V}{h1:List O}{Q:Ending->World->Prop}(hH:eX φ h g w)(ha:bR φ h g w xs args.toList)
  (hrun:run (λ_=>none) h.length oY [.c (u9 es z fo fr)] (oF 0 xs) h=some (.val v h1))
  (hQ:∀v' g' w',eX φ h1 g' w'->aJ φ h1 g' w' v v'->Frame h.length h g w h1 g' w'->Q (.returned v') w'):Calls P (φ f) args w Q:=by
 obtain⟨fn,c,k1,k2,k3,k4,k5⟩:=hF;obtain⟨s',wP,hok,h6,wZ⟩:=ale hrun;have hall:=akV (φ:=φ) hm hk (Pv:=λ_=>none) (λf F hf=>by simp at hf)
 rw[Jf]at k4;refine(callsIn_wide (n:=0)).1 (callsIn_of_wp_marks (F:=Wd none) k1 k3 trivial (Jd hm hk hall.1 hall.2.1 hall.2.2 c _ (.inl rfl) k4 (akI (gj _) hH ha fn.ntmps) (by rw[wP];exact hok) λg' a' w' hs' hf'=>?_))
 rw[wP]at hs' hf'⊢;simp only at hs' hf';refine akL hH hs' hf' λw' hs' hf'=>?_
 rw[hres]at k5;obtain⟨us,FC,gf⟩:=Oi hs' k5 (vs:=[cA s'.env 6]) (by simp[yT,G0,St.get])
 refine⟨_,akD FC,?_⟩;rw[h6,wZ]at gf;rw[wZ]at hf'
 match us,gf with
 | [u],gf =>
  simp only[bR,xD]at gf;exact hQ u g' w' (by rw[<-wZ];exact hs'.heap) gf hf'
 | [],gf=>simp[bR]at gf
 |_::_::_,gf=>simp[bR]at gf
theorem UT(hm:P.follows .mixedOrders=true)(hk:w7 P φ){f:Nat}{F:F}(hF:Ol P φ f F){es fo fr:Nat}{z:List D}(Jf:F.code=u9 es z fo fr)(hres:F.res=[.t 6])(hz:z.length=es)(jH:0<es):
  akG P φ f (lZ es):=by
 intro xs h v h1 hp;have hF':=hF;obtain⟨fn,c,k1,k2,k3,_,_⟩:=hF';refine⟨⟨fn,k1,k2,by simp[k3]⟩,λg w args hH ha=>?_⟩
 unfold lZ at hp;split at hp
 .rename_i x i e vs
  split at hp
  .rename_i dX
   obtain⟨rfl,hv,hrl⟩:=dX;split at hp
   ·
    rename_i e';split at hp
    .rename_i ir
     obtain⟨rfl,rfl,hroom⟩:=ir;simp only[gz,ud]at hp;obtain⟨rfl,rfl⟩:=hp;exact US hm hk hF Jf hres hH ha (alc hv hroom) λv' g' w' q1 q2 q3=>⟨v',g',rfl,q1,q2,q3⟩
    .simp at hp
   .rename_i e'
    split at hp
    .rename_i ir
     obtain⟨rfl,rfl,hroom⟩:=ir;simp only[gz,ud]at hp;obtain⟨rfl,rfl⟩:=hp;exact US hm hk hF Jf hres hH ha (ald hv hroom) λv' g' w' q1 q2 q3=>⟨v',g',rfl,q1,q2,q3⟩
    .simp at hp
   .rename_i n off len
    split at hp
    .rename_i e' rows hn
     split at hp
     .rename_i ir
      obtain⟨rfl,hle,Yk,oc,hroom⟩:=ir;simp only[gz,ud]at hp;obtain⟨rfl,rfl⟩:=hp;have hl:(aU h n).live=true:=by rw[hn];rfl
      obtain⟨kH,kF⟩:=alq hH hl h.length;have dF:=hH.obj n;rw[hn]at dF;obtain⟨⟨CS,T,hb,hfit⟩,dV,hI⟩:=dF;simp only[dH]at hI
      match hargs:args.toList,ha with
      | [u0,u1,u2],ha=>?_
      simp only[bR,xD]at ha;obtain⟨r0,r1,r2⟩:=ha;simp only[aJ]at r0;obtain⟨gm,_,By⟩:=r0;rw[hn]at By;obtain⟨cap,rfl,hlc,yq,rI,T',hb',oU,hone⟩:=By e' rfl;rw[hb]at hb';simp only[gz,Obj.cells.injEq,xD]at hb';obtain⟨rfl,rfl⟩:=hb';simp only[O.len]at yq;obtain⟨H0,UU⟩:∃H0,h.set n .dead=H0:=⟨_,rfl⟩;rw[UU]at kH kF⊢;have Ga:H0.length=h.length:=by rw[<-UU];simp
      obtain⟨iE,UW⟩:∃iE,rows.drop off++List.replicate (cap - (rows.length - off)) (List.replicate e' D.Cd)=iE:=⟨_,rfl⟩;have TH:iE.length=cap:=by rw[<-UW];simp;omega
      have Ow:iE.take len=(rows.drop off).take len:=by rw[<-UW,Ca (by simp;omega)]
      have Nz:gC φ (H0++[.aG e' true iE]) (g.add H0.length (g.β n) (g.o n+off*e') g.I) w (g.β n) (g.o n+off*e') (.aG e' true iE):=by
       refine⟨⟨CS,T,hb,by rw[TH];rw[nh]at oU;have:=ji e' cap;omega⟩,uT λr row hr=>?_,by simp only[dH,Gh.add];omega⟩
       rw[<-UW,List.getElem?_append]at hr;split at hr
       .rw[pz]at hr
        obtain⟨q1,q2⟩:=n7 dV hr;rw[nh,<-Nat.add_assoc]at q2;exact⟨q1,q2⟩
       .rename_i hge
        obtain⟨iH,lM⟩:=rW.1 hr;simp only[Wz,PJ]at iH hge;simp only[WA]at lM;subst lM;refine⟨by simp,wj λj c hj=>?_⟩
        obtain⟨hj1,hj2⟩:=rW.1 hj;simp only[WA]at hj2;simp only[Wz]at hj1;subst hj2;have hr3:r+1<=cap:=by omega
        have hmul:(r+1)*e'<=cap*e':=lU _ hr3;rw[nh]at oU hmul;have hlt:g.o n+off*e'+r*e'+j<CS.size:=by omega
        exact⟨CS[g.o n+off*e'+r*e'+j],by simp[World.cell?,hb,hlt],hone _ (by simp),by simp[bQ]⟩
      have hB:∀k,(aU H0 k).live=true->g.β k≠g.β n:=by
       intro k hk Bv;rw[<-UU]at hk;by_cases hkn:k=n
       .subst hkn;rw[wu gm]at hk;simp[O.live]at hk
       .rw[pS hkn]at hk;exact hkn (hH.inj k n hk hl Bv)
      have hHn:=Zn kH hB Nz;have hn':aU (H0++[.aG e' true iE]) H0.length = .aG e' true iE:=Cs;have hFn:Frame h.length h g w (H0++[.aG e' true iE]) (g.add H0.length (g.β n) (g.o n+off*e') g.I) w:=by
       refine⟨kF.ext,kF.size,kF.os,kF.tape,kF.output,λk hk=>?_,kF.keep,λk hk=>?_,λk hk=>?_⟩
       .have hne:k≠H0.length:=by omega
        simp[Gh.add,hne]
       .rcases sQ k H0.length with h1 |h1 |h1
        .have hne:k≠H0.length:=by omega
         rw[uo h1]at hk;simp only[Gh.add,aE hne];exact kF.mG k hk
        .exact .inl ⟨n,hl,by simp[Gh.add,h1]⟩
        .rw[uV h1]at hk;simp[O.live]at hk
       .have he:aU (H0++[.aG e' true iE]) k=aU H0 k:=uo (by omega)
        have:=kF.oR k hk;exact⟨λes he'=>by rw[he]at he'⊢;exact this.arr es he',λkv hk=>this.mp kv (by rw[<-he];exact hk),λhk=>this.lp (by rw[<-he];exact hk)⟩
      have UR:∀k,∀n∈(aU H0 k).dn,n<H0.length:=λk=>alk (kH.obj k)
      have alr:bR φ (H0++[.aG e' true iE]) (g.add H0.length (g.β n) (g.o n+off*e') g.I) w [.je H0.length 0 len,.d (.i .i64 i),.d (.sl e' false vs)] args.toList:=by
       rw[hargs];simp only[bR,xD];refine⟨?_,by simpa only[aJ,Gh.add]using r1,by simpa only[aJ,Gh.add]using r2⟩
       simp only[aJ];refine⟨by simp,rfl,λes he=>?_⟩
       rw[hn']at he⊢;simp only[O.gL,gz]at he;subst he;refine⟨cap,by simp[Gh.add],hlc,by simp only[O.len];omega,CS,T,by simpa only[Gh.add,dH]using hb,?_,hone⟩
       simp only[Gh.add,dH,nP];rw[nh]at oU;omega
      have hin:(i.toNat:Int)=i:=by omega
      have sC:(H0++[O.aG e' true iE]).length=h.length+1:=by simp[Ga]
      have fin:∀{v1:V}{K:List O}{j:Nat}{Z:List (List D)},run (λ_=>none) (H0++[O.aG e' true iE]).length oY [.c (u9 e' z fo fr)] (oF 0 [.je H0.length 0 len,.d (.i .i64 i),.d (.sl e' false vs)]) (H0++[.aG e' true iE])=some (.val v1 K) ->
        (v1 = .aQ j 0 (len+vs.length)\/v1 = .je j 0 (len+vs.length))->(∀k,k<H0.length->aU K k=aU H0 k)->H0.length<=j->aU K j = .aG e' true Z->Z.take (len+vs.length)=jR i vs ((rows.drop off).take len)->len+vs.length<=Z.length ->
        Calls P (φ f) args w λe w'=>∃v' g',e = .returned v'/\eX φ (H0++[O.aG e' true (jR i vs ((rows.drop off).take len))]) g' w' /\
         aJ φ (H0++[O.aG e' true (jR i vs ((rows.drop off).take len))]) g' w' (.aQ h.length 0 (len+vs.length)) v'/\Frame h.length h g w (H0++[O.aG e' true (jR i vs ((rows.drop off).take len))]) g' w':=by
       intro v1 K j Z hrun T0 h0 hj hZ hZt hZl;refine US hm hk hF Jf hres hHn alr hrun λv' g' w' q1 q2 q3=>?_
       have q4:Frame h.length h g w K g' w':=by
        have q5:Frame h.length (H0++[.aG e' true iE]) (g.add H0.length (g.β n) (g.o n+off*e') g.I) w K g' w' :=
         ⟨q3.ext,q3.size,q3.os,q3.tape,q3.output,λk hk=>q3.oQ k (by omega),q3.keep,q3.mG,λk hk=>q3.oR k (by omega)⟩
        exact hFn.trans q5
       have q6:=alo (p:=len+vs.length) q1 h0 UR hj hZ;have q7:=alp (p:=len+vs.length) q4 h0 (by omega) hj hZ
       rw[hZt]at q6 q7;refine⟨v',_,rfl,q6,?_,q7⟩;have q8:aJ φ K g' w' (.aQ j 0 (len+vs.length)) v':=by
        rcases T0 with rfl |rfl
        .exact q2
        .exact Iv q2
       simp only[aJ]at q8⊢;obtain⟨_,p1,p2⟩:=q8;refine⟨by simp;omega,p1,λes he=>?_⟩
       rw[<-Ga,Cs]at he⊢;simp only[O.gL,gz]at he;subst he;obtain⟨Z3,c1,c2,c3,Tk,T2,c4,c5⟩:=p2 e' (by rw[hZ];rfl)
       refine⟨Z3,by simpa[Gh.add]using c1,c2,?_,Tk,T2,by simpa[Gh.add]using c4,by simpa[Gh.add]using c5⟩
       simp only[O.len];rw[<-hZt];simp;omega
      by_cases Nw:i=len
      .subst Nw
       have hrun:=ala (Pv:=λ_=>none) (q:=(H0++[O.aG e' true iE]).length) (fo:=fo) (fr:=fr) (z:=z) hn' (by omega) hv hroom
       by_cases wN:len+vs.length<=iE.length
       .rw[aK wN]at hrun
        refine fin hrun (.inr rfl) (λk hk=>?_) (gj _) (Z:=aq iE len vs) ?_ ?_ ?_
        .rw[pS (by omega),uo hk]
        .rw[W6,Cs]
        .rw[<-Ow];exact alf (by omega)
        .rw[Br wN];exact wN
       .rw[aE wN]at hrun
        refine fin hrun (.inl rfl) (λk hk=>?_) (by simp) (Z:=iE.take len++vs) ?_ ?_ ?_
        .rw[uo (by simp;omega),uo hk]
        .exact Cs
        .rw[<-Ow];exact alg (by omega)
        .simp;omega
      .obtain⟨i',rfl⟩:∃i':Nat,i=i':=⟨i.toNat,by omega⟩
       have hi':i'<len:=by omega
       have hrun:=alb (Pv:=λ_=>none) (q:=(H0++[O.aG e' true iE]).length) (fo:=fo) (fr:=fr) (z:=z) hn' (by omega) (by simp) hv hroom hi' hz
       by_cases wN:len+vs.length<=iE.length
       .rw[aK wN]at hrun
        refine fin hrun (.inr rfl) (λk hk=>?_) (gj _) (Z:=aq (aq iE (i'+vs.length) ((iE.drop i').take (len - i'))) i' vs) ?_ ?_ ?_
        .rw[pS (by omega),uo hk]
        .rw[W6,Cs]
        .rw[<-Ow];exact(alj wN hi').1
        .rw[(alj wN hi').2];exact wN
       .rw[aE wN]at hrun
        refine fin hrun (.inl rfl) (λk hk=>?_) (by simp) (Z:=jR i' vs (iE.take len)) ?_ ?_ ?_
        .rw[uo (by simp;omega),uo hk]
        .exact Cs
        .rw[<-Ow,gE (by rw[alh (by simp;omega)];simp;omega)]
        .rw[alh (by simp;omega)];simp;omega
     .simp at hp
    .simp at hp
   .simp at hp
  .simp at hp
 .simp at hp
end
end Go.VS
