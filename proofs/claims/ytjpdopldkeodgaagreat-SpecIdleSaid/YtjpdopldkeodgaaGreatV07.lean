import Derived.Test.YtjpdopldkeodgaaGreatV06
import Derived.Test.YtjpdopldkeodgaaGreatV05
set_option linter.all false
set_option maxHeartbeats 1000000
namespace Go.VS.Sp
theorem aot:ev P (.call sO [.d (.sl 5 true [])] [])=some (.val (.d (.sl 5 true [])) []):=by
 rw[au NF rfl];simp[qN,az]
theorem aou(f:Nat)(a b:List D):ev P (.call Mi [.d (.sl 5 true []),.d (.fn f a b)] [])=some (.val (.tu [.d (.ag [I' 0,I' 0,I' 0,I' 0,I' 0]),.d (.b false)]) []):=by
 have hi:ev P (.call x9 [.d (.sl 5 true []),.d (.fn f a b)] [])=some (.val (.d (I' (-1))) []):=by
  have hL:ev P (.loop 0 [0,1,7,8] v5 [(0,.d (.sl 5 true [])),(1,.d (.fn f a b)),(7,.d (I' 0)),(8,.d (I' 0))] [])=some (.out (.exit 0) [] []):=by
   rw[bY]
   conv=>lhs;arg 4;unfold v5
   simp
  rw[au NC rfl];simp[E2,hL]
 rw[au Y7 rfl];simp[IC,hi]
abbrev lA(sz:Int)(s:S)(b:V)(R:List (List D)):List O:=[.gK 11 [[.d (I' sz),.d (I' s.own),.d (I' s.cnt),.d (I' s.time),.d (hD s.hn s.H),.d (.sl 5 true []),b,.d (cD s.cn s.C),.d (.b s.cl),.d (I' s.val),.d (.sl 5 true [])]],.aI 1 true R]
abbrev lN(sz:Int)(s:S)(bd:D):List O:=[.aI 11 true [[I' sz,I' s.own,I' s.cnt,I' s.time,hD s.hn s.H,.sl 5 true [],bd,cD s.cn s.C,.b s.cl,I' s.val,.sl 5 true []]]]
theorem D4(nm:D)(k sz ot:Int)(s:S)(hb:s.bn=false)(hn:s.B.length<=1000000):
  ev P (.call HK [.d (.ag [nm,I' k,I' sz,I' ot]),.d (.ag (s.ab true).row)] [])=some (.val (.loc 0 0 0) (lA sz s (.aR 1 0 s.B.length) (bW s.B))):=by
 have hc:=tV false s.B (by simp) hn
 have h0:=aot;rw[au Tt rfl];simp at hc;simp only[S.ab,S.row,qD,gQ]at *;simp[Fb,hb,hc,h0,aJ,aD,sub,aE,back,az,av,ak,cut,bA,aq,V.aY,bt,aX,bg,aO,aP,aZ,cG]
theorem J6(nm:D)(k sz ot:Int)(s:S)(hb:s.bn=true):
  ev P (.call HK [.d (.ag [nm,I' k,I' sz,I' ot]),.d (.ag ({s with B:=[]}.ab true).row)] [])=some (.val (.loc 0 0 0) (lN sz s (.sl 1 true []))):=by
 have hc:=tV true [] (by simp) (by simp)
 have h0:=aot;rw[au Tt rfl];simp at hc;simp only[S.ab,S.row,qD,gQ]at *;simp[Fb,hb,hc,h0,aJ,aD,sub,aE,back,az,av,ak,cut,bA,aq,V.aY,bt,aX,bg,aO,aP,aZ,cG]
theorem Pr(sz op:Int)(s:S)(i n:Nat)(R:List (List D)):
  ev P (.call EL [.loc 0 0 0,.d (I' op)] (lA sz s (.aR 1 i n) R))=some (.val (.tu [.d (.ag [I' 0,I' 0,I' 0,I' 0,I' 0]),.d (.b false)]) (lA sz s (.aR 1 i n) R)):=by
 have hf:=λf a b=>aou f a b
 rw[au TE rfl];simp[Fp,hf,aJ,aD,sub,aE,back,az,av,ak,cut,bA,aq,V.aY,bt,aX,bg,aO,aP]
abbrev nx(s:S)(b:V)(pk:Bool)(n:Int)(ok:Bool)(q:V):V:=.ag [.d (I' s.own),.d (I' s.cnt),.d (I' s.time),.d (hD s.hn s.H),q,b,.d (cD s.cn s.C),.d (.b s.cl),.d (I' s.val),.d (.b pk),.d (I' n),.d (.b ok),.d (.sl 5 true [])]
theorem GF(sz n':Int)(ok:Bool)(s:S)(i n:Nat)(R:List (List D)):
  ev P (.call uP [.loc 0 0 0,.d (I' n'),.d (.b ok)] (lA sz s (.aR 1 i n) R))=some (.val (nx s (.aR 1 i n) false n' ok (.d (.sl 5 true []))) (lA sz s (.aR 1 i n) R)):=by
 rw[au IL rfl];simp[C4,aJ,aD,sub,aE,back,az,av,ak,cut,bA,aq,V.aY,bt,aX,bg,aO,aP]
abbrev lB(sz:Int)(s:S)(n:Nat)(R:List (List D)):List O:=[.gK 11 [[.d (I' sz),.d (I' s.own),.d (I' s.cnt),.d (I' s.time),.d (hD s.hn s.H),.d (.sl 5 true []),.aR 2 0 n,.d (cD s.cn s.C),.d (.b s.cl),.d (I' s.val),.d (.sl 5 true [])]],.dead,.aI 1 true R]
theorem aov(sz v:Int)(s:S)(n:Nat)(R:List (List D))(hR:R.length=n)(hn:n<=1000):
  ev P (.call CR [.loc 0 0 0,.d (I' v)] (lA sz s (.aR 1 0 n) R))=some (.val (.tu []) (lB sz s (n+1) (R++[[I' v]]))):=by
 have h1:n<=R.length:=by omega
 have h2:¬n+1<=R.length:=by omega
 have h3:n+1<=room:=by unfold room;omega
 have h4:R.take n=R:=by rw[<-hR];simp
 rw[au NJ rfl];simp[C5,h1,h2,h3,h4,aJ,aD,sub,aE,back,az,av,ak,cut,bA,aq,V.aY,bt,aX,bg,aO,aP]
theorem GG(sz:Int)(s:S)(c:Cl)(i n:Nat)(R:List (List D)):
  ev P (.call yc [.loc 0 0 0,.d (.ag c.row)] (lA sz s (.aR 1 i n) R))=some (.val (nx s (.aR 1 i n) true 0 false (.aR 2 0 1)) [.gK 11 [[.d (I' sz),.d (I' s.own),.d (I' s.cnt),.d (I' s.time),.d (hD s.hn s.H),.aR 2 0 1,.aR 1 i n,.d (cD s.cn s.C),.d (.b s.cl),.d (I' s.val),.d (.sl 5 true [])]],.aI 1 true R,.aI 5 true [[I' c.task,I' c.op,I' (if c.op=64 then c.value else 0),I' c.prio,I' (-1)]]]):=by
 have h3:1<=room:=by decide
 rw[au TF rfl];cases h:c.op==64
 .have h':=h
  simp at h';simp[Bn,Cl.row,h,h',h3,aJ,aD,sub,aE,back,az,av,ak,cut,bA,aq,V.aY,bt,aX,bg,aO,aP]
 .have h':=h
  simp at h';simp[Bn,Cl.row,h',h3,aJ,aD,sub,aE,back,az,av,ak,cut,bA,aq,V.aY,bt,aX,bg,aO,aP]
theorem aow(sz op:Int)(s:S)(bd:D):
  ev P (.call EL [.loc 0 0 0,.d (I' op)] (lN sz s bd))=some (.val (.tu [.d (.ag [I' 0,I' 0,I' 0,I' 0,I' 0]),.d (.b false)]) (lN sz s bd)):=by
 have hf:=λf a b=>aou f a b
 rw[au TE rfl];simp[Fp,hf,aJ,aD,sub,aE,back,az,av,ak,cut,bA,aq,V.aY,bt,aX,bg,aO,aP]
theorem aox(sz n':Int)(ok:Bool)(s:S)(bd:D):
  ev P (.call uP [.loc 0 0 0,.d (I' n'),.d (.b ok)] (lN sz s bd))=some (.val (.d (.ag [I' s.own,I' s.cnt,I' s.time,hD s.hn s.H,.sl 5 true [],bd,cD s.cn s.C,.b s.cl,I' s.val,.b false,I' n',.b ok,.sl 5 true []])) (lN sz s bd)):=by
 rw[au IL rfl];simp[C4,aJ,aD,sub,aE,back,az,av,ak,cut,bA,aq,V.aY,bt,aX,bg,aO,aP]
theorem aoy(sz v:Int)(s:S):
  ev P (.call CR [.loc 0 0 0,.d (I' v)] (lN sz s (.sl 1 true [])))=some (.val (.tu []) (lA sz s (.aR 1 0 1) [[I' v]])):=by
 have h3:1<=room:=by decide
 rw[au NJ rfl];simp[C5,h3,aJ,aD,sub,aE,back,az,av,ak,cut,bA,aq,V.aY,bt,aX,bg,aO,aP]
theorem GH(sz:Int)(s:S)(c:Cl)(bd:D):
  ev P (.call yc [.loc 0 0 0,.d (.ag c.row)] (lN sz s bd))=some (.val (nx s (.d bd) true 0 false (.aR 1 0 1)) [.gK 11 [[.d (I' sz),.d (I' s.own),.d (I' s.cnt),.d (I' s.time),.d (hD s.hn s.H),.aR 1 0 1,.d bd,.d (cD s.cn s.C),.d (.b s.cl),.d (I' s.val),.d (.sl 5 true [])]],.aI 5 true [[I' c.task,I' c.op,I' (if c.op=64 then c.value else 0),I' c.prio,I' (-1)]]]):=by
 have h3:1<=room:=by decide
 rw[au TF rfl];cases h:c.op==64
 .have h':=h
  simp at h';simp[Bn,Cl.row,h,h',h3,aJ,aD,sub,aE,back,az,av,ak,cut,bA,aq,V.aY,bt,aX,bg,aO,aP]
 .have h':=h
  simp at h';simp[Bn,Cl.row,h',h3,aJ,aD,sub,aE,back,az,av,ak,cut,bA,aq,V.aY,bt,aX,bg,aO,aP]
theorem Wi(sz:Int)(s:S)(c:Cl)(n:Nat)(R:List (List D))(hR:R.length=n)(hn:n<=1000):
  ev P (.call zy [.loc 0 0 0,.d (.ag c.row)] (lA sz s (.aR 1 0 n) R)) =
   if(n:Int)<sz then some (.val (nx s (.aR 2 0 (n+1)) false 0 true (.d (.sl 5 true []))) (lB sz s (n+1) (R++[[I' c.value]])))else ev P (.call yc [.loc 0 0 0,.d (.ag c.row)] (lA sz s (.aR 1 0 n) R)):=by
 have hw:=Pr sz 65 s 0 n R;have hp:=aov sz c.value s n R hR hn;have hd:=GF sz 0 true s 0 (n+1) (R++[[I' c.value]]);have hk:=GG sz s c 0 n R;rw[au IK rfl];by_cases h:(n:Int)<sz
 .rw[aN h]
  simp only[Cl.row]at *;simp[uV,hw,hp,hd,h,aJ,aD,sub,aE,back,az,av,ak,cut,bA,aq,V.aY,bt,aX,bg,aO,aP]
 .rw[aG h,hk]
  simp only[Cl.row]at *;simp[uV,hw,hk,h,aJ,aD,sub,aE,back,az,av,ak,cut,bA,aq,V.aY,bt,aX,bg,aO,aP]
theorem Wj(sz:Int)(s:S)(c:Cl):
  ev P (.call zy [.loc 0 0 0,.d (.ag c.row)] (lN sz s (.sl 1 true []))) =
   if 0<sz then some (.val (nx s (.aR 1 0 1) false 0 true (.d (.sl 5 true []))) (lA sz s (.aR 1 0 1) [[I' c.value]]))else ev P (.call yc [.loc 0 0 0,.d (.ag c.row)] (lN sz s (.sl 1 true []))):=by
 have hw:=aow sz 65 s (.sl 1 true []);have hp:=aoy sz c.value s;have hd:=GF sz 0 true s 0 1 [[I' c.value]];have hk:=GH sz s c (.sl 1 true []);rw[au IK rfl];by_cases h:0<sz
 .rw[aN h]
  simp only[Cl.row]at *;simp[uV,hw,hp,hd,h,aJ,aD,sub,aE,back,az,av,ak,cut,bA,aq,V.aY,bt,aX,bg,aO,aP]
 .rw[aG h,hk]
  simp only[Cl.row]at *;simp[uV,hw,hk,h,aJ,aD,sub,aE,back,az,av,ak,cut,bA,aq,V.aY,bt,aX,bg,aO,aP]
abbrev lV(sz:Int)(s:S)(bd:D):List O:=[.gK 11 [[.d (I' sz),.d (I' s.own),.d (I' s.cnt),.d (I' s.time),.d (hD s.hn s.H),.d (.sl 5 true []),.d bd,.d (cD s.cn s.C),.d (.b s.cl),.d (I' s.val),.d (.sl 5 true [])]]]
abbrev um(s:S)(bd:D)(n:Int)(ok:Bool):V:=.d (.ag [I' s.own,I' s.cnt,I' s.time,hD s.hn s.H,.sl 5 true [],bd,cD s.cn s.C,.b s.cl,I' s.val,.b false,I' n,.b ok,.sl 5 true []])
theorem aoz(sz:Int)(s:S)(c:Cl)(n:Nat)(a:Int)(R:List (List D))(hR:R.length=n+1):
  ev P (.call p9 [.loc 0 0 0,.d (.ag c.row)] (lA sz s (.aR 1 0 (n+2)) ([I' a]::R)))=some (.val (nx s (.aR 1 1 (n+1)) false a true (.d (.sl 5 true []))) (lA sz s (.aR 1 1 (n+1)) ([I' a]::R))):=by
 have hw:=Pr sz 64 s 0 (n+2) ([I' a]::R);have hd:=GF sz a true s 1 (n+1) ([I' a]::R);rw[au wj rfl];simp only[Cl.row]at *;have h1:(0:Int)<(n:Int)+2:=by omega
 have h2:(1:Int)<=(n:Int)+2:=by omega
 have h3:(1:Int)<(n:Int)+2:=by omega
 have h5:(n:Int)+2<=(R.length:Int)+1:=by omega
 have h6:((n:Int)+2).toNat - 1=n+1:=by omega
 simp[oY,hw,hd,h1,h2,h3,h5,h6,aJ,aD,sub,aE,back,az,av,ak,cut,bA,aq,V.aY,bt,aX,bg,aO,aP]
theorem aoA(sz:Int)(s:S)(c:Cl)(a:Int):
  ev P (.call p9 [.loc 0 0 0,.d (.ag c.row)] (lA sz s (.aR 1 0 1) [[I' a]]))=some (.val (nx s (.aR 2 0 0) false a true (.d (.sl 5 true []))) (lB sz s 0 [])):=by
 have hw:=Pr sz 64 s 0 1 [[I' a]];have hd:=GF sz a true s 0 0 [];rw[au wj rfl];simp only[Cl.row]at *;simp[oY,hw,hd,aJ,aD,sub,aE,back,az,av,ak,cut,bA,aq,V.aY,bt,aX,bg,aO,aP]
theorem Wl(sz:Int)(s:S)(c:Cl):
  ev P (.call p9 [.loc 0 0 0,.d (.ag c.row)] (lA sz s (.aR 1 0 0) [])) =
   if s.cl=true then some (.val (nx s (.aR 1 0 0) false 0 false (.d (.sl 5 true []))) (lA sz s (.aR 1 0 0) []))else ev P (.call yc [.loc 0 0 0,.d (.ag c.row)] (lA sz s (.aR 1 0 0) [])):=by
 have hw:=Pr sz 64 s 0 0 [];have hd:=GF sz 0 false s 0 0 [];have hk:=GG sz s c 0 0 [];rw[au wj rfl];obtain⟨own,cnt,time,hn,H,qn,Q,bn,B,cn,C,cl,val⟩:=s;cases cl
 .rw[aG (by simp),hk]
  simp only[Cl.row]at *;simp[oY,hw,hk,aJ,aD,sub,aE,back,az,av,ak,cut,bA,aq,V.aY,bt,aX,bg,aO,aP]
 .rw[aN rfl]
  simp only[Cl.row]at *;simp[oY,hw,hd,aJ,aD,sub,aE,back,az,av,ak,cut,bA,aq,V.aY,bt,aX,bg,aO,aP]
theorem Wm(sz:Int)(s:S)(c:Cl):
  ev P (.call p9 [.loc 0 0 0,.d (.ag c.row)] (lN sz s (.sl 1 true []))) =
   if s.cl=true then some (.val (.d (.ag [I' s.own,I' s.cnt,I' s.time,hD s.hn s.H,.sl 5 true [],.sl 1 true [],cD s.cn s.C,.b s.cl,I' s.val,.b false,I' 0,.b false,.sl 5 true []])) (lN sz s (.sl 1 true [])))else ev P (.call yc [.loc 0 0 0,.d (.ag c.row)] (lN sz s (.sl 1 true []))):=by
 have hw:=aow sz 64 s (.sl 1 true []);have hd:=aox sz 0 false s (.sl 1 true []);have hk:=GH sz s c (.sl 1 true []);rw[au wj rfl];obtain⟨own,cnt,time,hn,H,qn,Q,bn,B,cn,C,cl,val⟩:=s;cases cl
 .rw[aG (by simp),hk]
  simp only[Cl.row]at *;simp[oY,hw,hk,aJ,aD,sub,aE,back,az,av,ak,cut,bA,aq,V.aY,bt,aX,bg,aO,aP]
 .rw[aN rfl]
  simp only[Cl.row]at *;simp[oY,hw,hd,aJ,aD,sub,aE,back,az,av,ak,cut,bA,aq,V.aY,bt,aX,bg,aO,aP]
abbrev ny:List D:=[I' 0,I' 0,I' 0,.sl 1 true [],.sl 5 true [],.sl 1 true [],.sl 2 true [],.b false,I' 0,.b false,I' 0,.b false,.sl 5 true []]
theorem aoB(sz:Int)(s:S)(c:Cl)(n:Nat)(R:List (List D)):
  ev P (.call Bb [.loc 0 0 0,.d (.ag c.row)] (lA sz s (.aR 1 0 n) R))=some (.val (nx {s with cl:=true} (.aR 1 0 n) false 0 true (.d (.sl 5 true []))) (lA sz {s with cl:=true} (.aR 1 0 n) R)):=by
 have hd:=GF sz 0 true {s with cl:=true} 0 n R;have hL:∀H:List O,H=lA sz {s with cl:=true} (.aR 1 0 n) R++[.aI 13 true [ny]]->ev P (.loop 2 [0,4] rW [(0,.loc 0 0 0),(4,.loc 2 0 0)] H)=some (.out (.exit 0) [(0,.loc 0 0 0),(4,.loc 2 0 0)] H):=by
  intro H hH;subst hH;rw[bY]
  conv=>lhs;arg 4;unfold rW
  simp[aJ,aD,sub,aE,back,az,av,ak,cut,bA,aq,V.aY,bt,aX,bg,aO,aP]
 have hL:=hL _ rfl;simp at hL;rw[au NH rfl];simp only[Cl.row]at *;simp[Bl,hL,hd,aJ,aD,sub,aE,back,az,av,ak,cut,bA,aq,V.aY,bt,aX,bg,aO,aP]
theorem aoC(sz:Int)(s:S)(c:Cl):
  ev P (.call Bb [.loc 0 0 0,.d (.ag c.row)] (lN sz s (.sl 1 true [])))=some (.val (um {s with cl:=true} (.sl 1 true []) 0 true) (lN sz {s with cl:=true} (.sl 1 true []))):=by
 have hd:=aox sz 0 true {s with cl:=true} (.sl 1 true []);have hL:∀H:List O,H=lN sz {s with cl:=true} (.sl 1 true [])++[.aI 13 true [ny]]->ev P (.loop 1 [0,4] rW [(0,.loc 0 0 0),(4,.loc 1 0 0)] H)=some (.out (.exit 0) [(0,.loc 0 0 0),(4,.loc 1 0 0)] H):=by
  intro H hH;subst hH;rw[bY]
  conv=>lhs;arg 4;unfold rW
  simp[aJ,aD,sub,aE,back,az,av,ak,cut,bA,aq,V.aY,bt,aX,bg,aO,aP]
 have hL:=hL _ rfl;simp at hL;rw[au NH rfl];simp only[Cl.row]at *;simp[Bl,hL,hd,aJ,aD,sub,aE,back,az,av,ak,cut,bA,aq,V.aY,bt,aX,bg,aO,aP]
theorem lz:ev P (.call Rs [] [])=some (.val (.mp 0) [.mp [(I' 64,.d (.fn Ba [] [])),(I' 65,.d (.fn sP [] [])),(I' 66,.d (.fn CP [] []))]]):=by
 rw[au ad7 rfl];simp[Sy,az,ak,cut,bA,aq]
theorem aoD(sz:Int)(s:S)(c:Cl)(n:Nat)(R:List (List D))(hR:R.length=n)(hn:n<=1000):
  ev P (.call Ba [.loc 0 0 0,.d (.ag c.row)] (lA sz s (.aR 1 0 n) R))=ev P (.call zy [.loc 0 0 0,.d (.ag c.row)] (lA sz s (.aR 1 0 n) R)):=by
 have hS:=Wi sz s c n R hR hn;rw[GG]at hS;rw[au IJ rfl];by_cases h:(n:Int)<sz
 .rw[aN h]at hS
  rw[hS];simp only[Cl.row]at *;simp[zI,hS,aJ,aD,sub,aE,back,az,av,ak,cut,bA,aq,V.aY,bt,aX,bg,aO,aP]
 .rw[aG h]at hS
  rw[hS];simp only[Cl.row]at *;simp[zI,hS,aJ,aD,sub,aE,back,az,av,ak,cut,bA,aq,V.aY,bt,aX,bg,aO,aP]
theorem aoE(sz:Int)(s:S)(c:Cl):
  ev P (.call Ba [.loc 0 0 0,.d (.ag c.row)] (lN sz s (.sl 1 true [])))=ev P (.call zy [.loc 0 0 0,.d (.ag c.row)] (lN sz s (.sl 1 true []))):=by
 have hS:=Wj sz s c;rw[GH]at hS;rw[au IJ rfl];by_cases h:0<sz
 .rw[aN h]at hS
  rw[hS];simp only[Cl.row]at *;simp[zI,hS,aJ,aD,sub,aE,back,az,av,ak,cut,bA,aq,V.aY,bt,aX,bg,aO,aP]
 .rw[aG h]at hS
  rw[hS];simp only[Cl.row]at *;simp[zI,hS,aJ,aD,sub,aE,back,az,av,ak,cut,bA,aq,V.aY,bt,aX,bg,aO,aP]
theorem aoF(sz:Int)(s:S)(c:Cl)(n:Nat)(a:Int)(R:List (List D))(hR:R.length=n+1):
  ev P (.call sP [.loc 0 0 0,.d (.ag c.row)] (lA sz s (.aR 1 0 (n+2)) ([I' a]::R)))=ev P (.call p9 [.loc 0 0 0,.d (.ag c.row)] (lA sz s (.aR 1 0 (n+2)) ([I' a]::R))):=by
 have hS:=aoz sz s c n a R hR;rw[au wh rfl];rw[hS];simp only[Cl.row]at *;simp[rV,hS,aJ,aD,sub,aE,back,az,av,ak,cut,bA,aq,V.aY,bt,aX,bg,aO,aP]
theorem aoG(sz:Int)(s:S)(c:Cl)(a:Int):
  ev P (.call sP [.loc 0 0 0,.d (.ag c.row)] (lA sz s (.aR 1 0 1) [[I' a]]))=ev P (.call p9 [.loc 0 0 0,.d (.ag c.row)] (lA sz s (.aR 1 0 1) [[I' a]])):=by
 have hS:=aoA sz s c a;rw[au wh rfl];rw[hS];simp only[Cl.row]at *;simp[rV,hS,aJ,aD,sub,aE,back,az,av,ak,cut,bA,aq,V.aY,bt,aX,bg,aO,aP]
theorem aoH(sz:Int)(s:S)(c:Cl):
  ev P (.call sP [.loc 0 0 0,.d (.ag c.row)] (lA sz s (.aR 1 0 0) []))=ev P (.call p9 [.loc 0 0 0,.d (.ag c.row)] (lA sz s (.aR 1 0 0) [])):=by
 have hS:=Wl sz s c;rw[GG]at hS;rw[au wh rfl];by_cases h:s.cl=true
 .rw[aN h]at hS
  rw[hS];simp only[Cl.row]at *;simp[rV,hS,aJ,aD,sub,aE,back,az,av,ak,cut,bA,aq,V.aY,bt,aX,bg,aO,aP]
 .rw[aG h]at hS
  rw[hS];simp only[Cl.row]at *;simp[rV,hS,aJ,aD,sub,aE,back,az,av,ak,cut,bA,aq,V.aY,bt,aX,bg,aO,aP]
theorem aoI(sz:Int)(s:S)(c:Cl):
  ev P (.call sP [.loc 0 0 0,.d (.ag c.row)] (lN sz s (.sl 1 true [])))=ev P (.call p9 [.loc 0 0 0,.d (.ag c.row)] (lN sz s (.sl 1 true []))):=by
 have hS:=Wm sz s c;rw[GH]at hS;rw[au wh rfl];by_cases h:s.cl=true
 .rw[aN h]at hS
  rw[hS];simp only[Cl.row]at *;simp[rV,hS,aJ,aD,sub,aE,back,az,av,ak,cut,bA,aq,V.aY,bt,aX,bg,aO,aP]
 .rw[aG h]at hS
  rw[hS];simp only[Cl.row]at *;simp[rV,hS,aJ,aD,sub,aE,back,az,av,ak,cut,bA,aq,V.aY,bt,aX,bg,aO,aP]
theorem aoJ(sz:Int)(s:S)(c:Cl)(n:Nat)(R:List (List D)):
  ev P (.call CP [.loc 0 0 0,.d (.ag c.row)] (lA sz s (.aR 1 0 n) R))=ev P (.call Bb [.loc 0 0 0,.d (.ag c.row)] (lA sz s (.aR 1 0 n) R)):=by
 have hS:=aoB sz s c n R;rw[au NG rfl];rw[hS];simp only[Cl.row]at *;simp[Fj,hS,aJ,aD,sub,aE,back,az,av,ak,cut,bA,aq,V.aY,bt,aX,bg,aO,aP]
theorem aoK(sz:Int)(s:S)(c:Cl):
  ev P (.call CP [.loc 0 0 0,.d (.ag c.row)] (lN sz s (.sl 1 true [])))=ev P (.call Bb [.loc 0 0 0,.d (.ag c.row)] (lN sz s (.sl 1 true []))):=by
 have hS:=aoC sz s c;rw[au NG rfl];rw[hS];simp only[Cl.row]at *;simp[Fj,hS,aJ,aD,sub,aE,back,az,av,ak,cut,bA,aq,V.aY,bt,aX,bg,aO,aP]
theorem j5(n:Int):ev P (.call Rq [.d (I' n)] [])=some (.val (.d (.b (cZ n))) []):=by
 rw[au ad5 rfl];simp[Sw,cZ]
def Pt(n:Int):Bool:=decide (0<=n)&&decide (n<=9)
theorem j6(n:Int):ev P (.call Rr [.d (I' n)] [])=some (.val (.d (.b (Pt n))) []):=by
 rw[au ad6 rfl];simp[Sx,Pt]
theorem lC(n:Int):ev P (.call HJ [.d (I' n)] [])=some (.val (.d (.b (num n))) []):=by
 rw[au YO rfl];simp[MS,num]
theorem lD(c:Cl):(!cZ c.task||!Pt c.prio||decide (c.now<0)||decide (1099511627776<c.now))=cM c:=by
 unfold cZ Pt cM;rw[y9];simp;omega
def nA(sz ot now:Int)(s:S):S:=if sz<=s.cnt+(now - s.time) / ot then{s with cnt:=sz,time:=now}else{s with cnt:=s.cnt+(now - s.time) / ot,time:=s.time+(now - s.time) / ot*ot}
def Cl.rf(c:Cl):Cl:=if c.op=75 then{c with value:=1}else c
def GI(k:Int)(f g a w r:Nat):Prop :=
 (k=1/\f=sM/\g=oS/\a=A5/\w=EF/\r=Ya)\/(k=2/\f=sN/\g=jB/\a=oT/\w=A6/\r=Yb) \/
 (k=4/\f=tF/\g=p8/\a=zu/\w=CN/\r=Yc)\/(k=5/\f=tG/\g=nJ/\a=A7/\w=Lr/\r=Yd) \/
 (k=6/\f=tH/\g=gn/\a=iR/\w=Ls/\r=Ye)\/(k=7/\f=tJ/\g=rS/\a=uN/\w=HE/\r=Yf) \/
 (k=8/\f=tK/\g=ng/\a=zw/\w=Lt/\r=Yg)\/(k=9/\f=tL/\g=oU/\a=A8/\w=Lu/\r=Yh)
theorem aoL{k:Int}{f g a w r:Nat}(h:GI k f g a w r):ev P (.call Lq [.d (I' k)] [])=some (.val (.tu [.d (.ag [.fn f [] [],.fn g [] [],.fn a [] [],.fn w [] [],.fn r [] []]),.d (.b true)]) []):=by
 rw[au Yq rfl];unfold GI at h;rcases h with⟨rfl,rfl,rfl,rfl,rfl,rfl⟩ |⟨rfl,rfl,rfl,rfl,rfl,rfl⟩ |⟨rfl,rfl,rfl,rfl,rfl,rfl⟩ |⟨rfl,rfl,rfl,rfl,rfl,rfl⟩ |⟨rfl,rfl,rfl,rfl,rfl,rfl⟩ |⟨rfl,rfl,rfl,rfl,rfl,rfl⟩ |⟨rfl,rfl,rfl,rfl,rfl,rfl⟩ |⟨rfl,rfl,rfl,rfl,rfl,rfl⟩<;>simp[Mw,az]
theorem aoM{k:Int}(h:¬(k=1\/k=2\/k=4\/k=5\/k=6\/k=7\/k=8\/k=9)):ev P (.call Lq [.d (I' k)] [])=some (.val (.tu [.d (.ag [.cN,.cN,.cN,.cN,.cN]),.d (.b false)]) []):=by
 rw[au Yq rfl];simp only[nE]at h;obtain⟨h1,h2,h3,h4,h5,h6,h7,h8⟩:=h;have h1:(k==1)=false:=by simpa using h1
 have h2:(k==2)=false:=by simpa using h2
 have h3:(k==4)=false:=by simpa using h3
 have h4:(k==5)=false:=by simpa using h4
 have h5:(k==6)=false:=by simpa using h5
 have h6:(k==7)=false:=by simpa using h6
 have h7:(k==8)=false:=by simpa using h7
 have h8:(k==9)=false:=by simpa using h8
 simp[Mw,h1,h2,h3,h4,h5,h6,h7,h8,az]
end Go.VS.Sp
namespace Go.VS.M
open Go.VS.Sp
theorem aoN{k sz ot:Int}:dN k sz ot=0↔k=1/\sz=0/\ot=0:=by
 unfold dN;by_cases h1:k=1
 .by_cases h2:sz=0/\ot=0
  .obtain⟨rfl,rfl⟩:=h2;simp[h1]
  .have:(sz != 0||ot != 0)=true:=by simp;omega
   simp[h1,this];exact λh=>λh'=>h2 ⟨h,h'⟩
 .simp[h1]
def J7(k sz ot own cnt time:Int)(hs:List Int)(q:List Sp.W)(bs:List Int)(cs:List (List D))(cl:Bool)(val:Int)(o t p:Int):Rp :=
 if dN k sz ot=0 then(if iX own cnt time hs q bs cs cl val=true then qx own q o t p else zr 1)else zr (dN k sz ot)
theorem Wa(nm:D)(k sz ot own cnt time:Int)(hn:Bool)(hs:List Int)(qn:Bool)(q:List Sp.W)(bn:Bool)(bs:List Int)(cn:Bool)(cs:List (List D))(cl:Bool)(val:Int)(t o v p n:Int)
  (h1:hs.length<=1000000)(h2:q.length<=1000000)(h3:bs.length<=1000000)(h4:cs.length<=1000000)(gj:qn=true->q=[]):
  iA (ev P (.call A5 [.d (.ag [nm,I' k,I' sz,I' ot]),.d (.ag [I' own,I' cnt,I' time,hD hn hs,qD qn q,hD bn bs,cD cn cs,.b cl,I' val]),.d (.ag [I' t,I' o,I' v,I' p,I' n])] []))
   (J7 k sz ot own cnt time hs q bs cs cl val o t p):=by
 have hC:=oA nm k sz ot own cnt time hn hs qn q bn bs cn cs cl val h1 h2 h3 h4;unfold J7;by_cases hm:dN k sz ot=0
 .rw[aN hm]at hC⊢
  by_cases hv:iX own cnt time hs q bs cs cl val=true
  .rw[aN hv]
   obtain⟨⟨rfl,rfl,rfl,rfl,rfl,rfl,rfl⟩,hl,m⟩:=AB.1 hv;obtain⟨rfl,rfl,rfl⟩:=aoN.1 hm;exact ang nm hn qn bn cn own q t o v p n gj h2 m.desc hv
  .rw[aG hv]at hC⊢
   exact anh _ _ _ _ _ _ _ _ _ _ _ _ _ _ _ _ _ _ 1 (by decide) hC
 .rw[aG hm]at hC⊢
  exact anh _ _ _ _ _ _ _ _ _ _ _ _ _ _ _ _ _ _ _ hm hC
def ps:List (List D):=[[I' 0],[I' 0],[I' 5],[I' 5]]
end Go.VS.M
namespace Go.VS.Sp
theorem JU(t a b c d e:Int):ev P (.call uO [.d (.ag [I' a,I' b,I' c,I' d,I' e]),.d (.ref [I' t])] [])=some (.val (.d (.b (a != t))) []):=by
 rw[au Tw rfl];simp[Is]
theorem VO{f:Nat}{first caps:List D}{p:W->Bool}(nl:Bool)(l:List W)(hn:l.length<=1000000)
  (hp:∀a b c d e,ev P (.call f (first.map V.d++[.d (.ag [I' a,I' b,I' c,I' d,I' e])]++caps.map V.d) [])=some (.val (.d (.b (p ⟨a,b,c,d,e⟩))) []))
  (R:Option dL)(hR:R=some (.out (.exit 0) [(5,lK 5 (.d (.sl 5 true [])) ((l.filter p).map W.row))] (lM 5 ((l.filter p).map W.row)))):
  ∀(suf pre:List W),l=pre++suf ->
  ev P (.loop 0 [1,5,8,9,10] C1 [(1,.d (.fn f first caps)),(5,lK 5 (.d (.sl 5 true [])) ((pre.filter p).map W.row)),(8,.d (.sl 5 nl (l.map W.row))),(9,.d (I' l.length)),(10,.d (I' pre.length))] (lM 5 ((pre.filter p).map W.row)))=R:=by
 intro suf;induction suf with
 |nil =>
  intro pre hl;have An:l=pre:=by simp[hl]
  subst An;rw[bY,hR]
  conv=>lhs;arg 4;unfold C1
  cases hf:l.filter p with
  |nil=>simp[lK,lM]
  |cons a r=>simp[lK,lM,ak,cut,W.row]
 |cons w suf ih =>
  intro pre hl;clear hR;have hg:l[pre.length]?=some w:=by simp[hl]
  have hlt:(pre.length:Int)<l.length:=by simp[hl];omega
  have hnext:IntKind.i64.wrap ((pre.length:Int)+1)=pre.length+1:=wrap_i64 (by omega) (by omega)
  have bE:=ih (pre++[w]) (by simp[hl])
  simp at bE hp;rw[bY]
  conv=>lhs;arg 4;unfold C1
  cases hf:pre.filter p with
  |nil =>
   simp[hlt,hg,W.row,hp,oy,lK,lM];cases hw:p w
   .simp[hw,hnext,hf,lK,lM,ak]at bE⊢
    exact bE
   .have hr:1<=room:=by decide
    simp[hw,hnext,hf,hr,lK,lM,ak,W.row]at bE⊢;exact bE
  |cons a r =>
   have hrl:r.length<1000000:=by
    have h1:(pre.filter p).length<=pre.length:=oM _ _;have h2:pre.length<=l.length:=by simp[hl]
    rw[hf]at h1;simp at h1;omega
   have hr:r.length+1+1<=room:=by unfold room;omega
   simp[hlt,hg,W.row,hp,oy,lK,lM];cases hw:p w
   .simp[hw,hnext,hf,lK,lM,ak,W.row]at bE⊢
    exact bE
   .simp[hw,hnext,hf,hr,lK,lM,ak,W.row,av,aZ,cG,cy]at bE⊢
    exact bE
def B4(task prio now:Int):Bool:=decide (task<0)||decide (16<=task)||decide (prio<0)||decide (9<prio)||decide (now<0)||decide (1099511627776<now)
def jI(s:S)(task op value prio now:Int):Int :=
 if B4 task prio now=true then 2 else if(op==68||op==69||op==70||op==71)=false then 8 else
 if(op==68&&!num value)=true then 2 else if(s.Q.any λw=>w.task==task)=true then 17 else
 if(op==69&&decide (0<=lQ s.C task))=true then 6 else if((op==71||op==70)&&!decide (0<=lQ s.C task))=true then 20 else 0
theorem J8(s:S)(hs:s.sm)(task op value prio now:Int):
  ev P (.call Rv [.d (.ag s.row),.d (.ag [I' task,I' op,I' value,I' prio,I' now])] [])=some (.val (.d (I' (jI s task op value prio now))) []):=by
 have hF:=jW s.qn s.Q task hs.q;rw[wu]at hF;have nh:=IQ (I' s.own) (I' s.cnt) (I' s.time) (hD s.hn s.H) (qD s.qn s.Q) (hD s.bn s.B) (.b s.cl) (I' s.val) s.cn s.C task hs.c;have hN:=TJ value;unfold jI;generalize (s.Q.any λw=>w.task==task)=a at *
 generalize (jg s.Q task).1=fi at *;generalize lQ s.C task=fk at *;generalize num value=nv at *;rw[au aea rfl];cases hb:(decide (task<0)||decide (16<=task)||decide (prio<0)||decide (9<prio)||decide (now<0)||decide (1099511627776<now))
 .have kX:B4 task prio now=false:=hb
  rw[kX];by_cases eR:op=68
  .subst eR
   cases nv<;>cases a<;>simp[v9,hb,hN,hF,nh]
  .have TL:(op==68)=false:=by simp[eR]
   by_cases kY:op=69
   .subst kY
    cases a
    .by_cases hk:0<=fk<;>simp[v9,hb,hF,nh,hk]
    .simp[v9,hb,hF,nh]
   .have aoO:(op==69)=false:=by simp[kY]
    by_cases gL:op=70
    .subst gL
     cases a
     .by_cases hk:0<=fk<;>simp[v9,hb,hF,nh,hk]
     .simp[v9,hb,hF,nh]
    .have NN:(op==70)=false:=by simp[gL]
     by_cases mo:op=71
     .subst mo
      cases a
      .by_cases hk:0<=fk<;>simp[v9,hb,hF,nh,hk]
      .simp[v9,hb,hF,nh]
     .have aoP:(op==71)=false:=by simp[mo]
      simp[v9,hb,TL,aoO,NN,aoP]
 .have kX:B4 task prio now=true:=hb
  simp[v9,hb,kX]
structure Z where
 o:D
 c:D
 t:D
 h:D
 b:D
 l:D
 v:D
structure cE where
 task:Int
 op:Int
 value:Int
 deriving DecidableEq
def cE.row(w:cE):List D:=[I' w.task,I' w.op,I' w.value,.b true,I' (-1)]
inductive Wo where
 |nil
 |a0(l:List cE)
 |a1(l:List cE)
def bB(z:Z)(sz:Int)(q c w:V):O:=.gK 11 [[.d (I' sz),.d z.o,.d z.c,.d z.t,.d z.h,q,.d z.b,c,.d z.l,.d z.v,w]]
def bN(z:Z)(sz:Int)(q c w:D):O:=.aI 11 true [[I' sz,z.o,z.c,z.t,z.h,q,z.b,c,z.l,z.v,w]]
def hB(z:Z)(sz:Int)(q:D)(C:List K):Option (List (List D))->Wo->List O
 |none,.nil=>[bN z sz q (.sl 2 true []) (.sl 5 true [])]
 |none,.a0 l=>[bB z sz (.d q) (.d (.sl 2 true [])) (.aR 1 0 l.length),.aI 5 true (l.map cE.row)]
 |none,.a1 l=>[bB z sz (.d q) (.d (.sl 2 true [])) (.aR 2 0 l.length),.dead,.aI 5 true (l.map cE.row)]
 |some T,.nil=>[bB z sz (.d q) (.aR 1 0 C.length) (.d (.sl 5 true [])),.aI 2 true (C.map K.row++T)]
 |some T,.a0 l=>[bB z sz (.d q) (.aR 1 0 C.length) (.aR 2 0 l.length),.aI 2 true (C.map K.row++T),.aI 5 true (l.map cE.row)]
 |some T,.a1 l=>[bB z sz (.d q) (.aR 1 0 C.length) (.aR 3 0 l.length),.aI 2 true (C.map K.row++T),.dead,.aI 5 true (l.map cE.row)]
theorem dw:List.range 2=[0,1]:=rfl
theorem dx:List.range 3=[0,1,2]:=rfl
theorem eJ:List.range 4=[0,1,2,3]:=rfl
theorem bX:List.range 5=[0,1,2,3,4]:=rfl
theorem Wp(z:Z)(sz:Int)(q:D)(C:List K) (cs)(t op v p k x:Int):
  ev P (.call HS [.loc 0 0 0,.d (.ag [I' t,I' op,I' v,I' p,I' k]),.d (I' x)] (hB z sz q C cs .nil))=some (.val (.tu []) (hB z sz q C cs (.a0 [⟨t,op,x⟩]))):=by
 have hr:1<=room:=by unfold room;omega
 rw[au Y1 rfl];rcases cs with _ |T<;>simp[Ni,hB,bN,bB,cE.row,ak,cut,dw,dx,eJ,aq,az,hr,V.aY]
theorem J9(z:Z)(sz:Int)(q:D)(C:List K) (cs)(l:List cE)(t op v p k x:Int)(hl:l.length<=1000000):
  ev P (.call HS [.loc 0 0 0,.d (.ag [I' t,I' op,I' v,I' p,I' k]),.d (I' x)] (hB z sz q C cs (.a0 l)))=some (.val (.tu []) (hB z sz q C cs (.a1 (l++[⟨t,op,x⟩])))):=by
 have hr:l.length+1<=room:=by unfold room;omega
 rw[au Y1 rfl];rcases cs with _ |T<;>simp[Ni,hB,bN,bB,cE.row,ak,cut,dw,dx,eJ,bX,aq,az,hr,V.aY,aZ,cy]
theorem xu(nl:Bool)(q:List W)(gj:nl=true->q=[])(hn:q.length<=1000000):
  ev P (.call sO [.d (qD nl q)] [])=if nl=true then some (.val (.d (.sl 5 true [])) [])else some (.val (.aR 0 0 q.length) [.aI 5 true (q.map W.row)]):=by
 rw[au NF rfl];cases nl
 .have hr:q.length<=room:=by unfold room;omega
  cases q with
  |nil=>simp[qN,eP,fQ,ak,cut,az]
  |cons a r =>
   simp at hr;simp[qN,eP,fQ,ak,cut,hr,az]
 .simp[qN,az]
theorem aoQ(nl:Bool)(q:List K)(gj:nl=true->q=[])(hn:q.length<=1000000):
  ev P (.call HR [.d (cD nl q)] [])=if nl=true then some (.val (.d (.sl 2 true [])) [])else some (.val (.aR 0 0 q.length) [.aI 2 true (q.map K.row)]):=by
 rw[au Y0 rfl];cases nl
 .have hr:q.length<=room:=by unfold room;omega
  cases q with
  |nil=>simp[Bm,eP,fQ,ak,cut,az]
  |cons a r =>
   simp at hr;simp[Bm,eP,fQ,ak,cut,hr,az]
 .simp[Bm,az]
def dh(z:Z)(sz:Int)(qn:Bool)(Q:List W)(cn:Bool)(C:List K):List O :=
 match qn,cn with
 |true,true=>[bN z sz (.sl 5 true []) (.sl 2 true []) (.sl 5 true [])]
 |true,false=>[bB z sz (.d (.sl 5 true [])) (.aR 1 0 C.length) (.d (.sl 5 true [])),.aI 2 true (C.map K.row)]
 |false,true=>[bB z sz (.aR 1 0 Q.length) (.d (.sl 2 true [])) (.d (.sl 5 true [])),.aI 5 true (Q.map W.row)]
 |false,false=>[bB z sz (.aR 1 0 Q.length) (.aR 2 0 C.length) (.d (.sl 5 true [])),.aI 5 true (Q.map W.row),.aI 2 true (C.map K.row)]
theorem J'(z:Z)(x0 x1 x3:D)(sz:Int)(qn:Bool)(Q:List W)(cn:Bool)(C:List K)(h1:qn=true->Q=[])(h2:cn=true->C=[])(h3:Q.length<=1000000)(h4:C.length<=1000000):
  ev P (.call LH [.d (.ag [x0,x1,I' sz,x3]),.d (.ag [z.o,z.c,z.t,z.h,qD qn Q,z.b,cD cn C,z.l,z.v])] [])=some (.val (.loc 0 0 0) (dh z sz qn Q cn C)):=by
 have hC:=aoQ cn C h2 h4;have J0:=xu qn Q h1 h3;rw[au aeb rfl];cases qn<;>cases cn<;>simp at hC J0 <;>
  simp[SA,hC,J0,aJ,eP,fQ,V.aY,dh,bN,bB,ak,cut,dw,dx,eJ,bX,aq,az,av]
theorem aoR(nl:Bool)(q:List Int)(gj:nl=true->q=[])(hn:q.length<=1000000):
  ev P (.call tN [.d (hD nl q)] [])=if nl=true then some (.val (.d (.sl 1 true [])) [])else some (.val (.aR 0 0 q.length) [.aI 1 true (bW q)]):=by
 rw[au Tx rfl];cases nl
 .have hr:q.length<=room:=by unfold room;omega
  cases q with
  |nil=>simp[rU,eP,fQ,ak,cut,az]
  |cons a r =>
   simp at hr;simp[rU,eP,fQ,ak,cut,hr,az]
 .simp[rU,az]
theorem AE{α β:Type}{f:α->β}{r:List α}{x:β}:List.take (r.length+1) (r.map f++[x])=r.map f++[x]:=gD (by simp)
theorem aoS{α:Type}{A B:List α}{x y:α}{n:Nat}(h:A.length=n):(A++x::B).set n y=A++y::B:=by
 subst h;simp
theorem Pu{α:Type}{A B:List α}{x:α}{n:Nat}(h:A.length=n):(A++x::B)[n]?=some x:=by
 subst h;simp
inductive Hs where
 |b0
 |b1(l:List cE)
 |c(Q:List W)
def hX(z:Z)(sz:Int)(q:D)(n:Nat)(R:List (List D)):Hs->List O
 | .b0=>[bB z sz (.d q) (.aR 1 0 n) (.d (.sl 5 true [])),.aI 2 true R]
 | .b1 l=>[bB z sz (.d q) (.aR 1 0 n) (.aR 2 0 l.length),.aI 2 true R,.aI 5 true (l.map cE.row)]
 | .c Q=>[bB z sz (.d q) (.aR 2 0 n) (.d (.sl 5 true [])),.aI 5 false (Q.map W.row),.aI 2 true R]
def Hs.m:Hs->Nat
 | .b0=>2
 | .b1 _=>3
 | .c _=>3
def gw(Q:List W)(v:Int)(c:K):K:=if iE Q c.task 70=true then c else⟨c.task,false,c.log++[v]⟩
theorem Wq(z:Z)(sz:Int)(qn:Bool)(Q:List W)(v:Int)(n:Nat)(T:List (List D))(sh:Hs)(hq:Q.length<=1000000)(hn:n<=1000000):∀(suf:List K)(A:List (List D)),A.length+suf.length=n ->
  (∀c∈suf,(c.nl=true->c.log=[])/\c.log.length<=100000) ->
  ev P (.loop sh.m [0,1,14,15] Bh [(0,.loc 0 0 0),(1,.d (I' v)),(14,.d (I' n)),(15,.d (I' A.length))] (hX z sz (qD qn Q) n (A++(suf.map K.row++T)) sh)) =
   some (.out (.exit 0) [(0,.loc 0 0 0),(1,.d (I' v))] (hX z sz (qD qn Q) n (A++((suf.map (gw Q v)).map K.row++T)) sh)):=by
 intro suf;induction suf with
 |nil =>
  intro A hl _
  have:n=A.length:=by simp at hl;exact hl.symm
  rw[bY]
  conv=>lhs;arg 4;unfold Bh
  cases sh<;>simp[this,hX,Hs.m,bB,ak,cut,dw,dx,aq]
 |cons c suf ih =>
  intro A hl hc;have hlt:(A.length:Int)<n:=by simp at hl;omega
  have iK:A.length<n:=by simp at hl;omega
  have hnext:IntKind.i64.wrap ((A.length:Int)+1)=A.length+1:=wrap_i64 (by omega) (by omega)
  have hC:=aoR c.nl c.log (hc c (by simp)).1 (by have:=(hc c (by simp)).2;omega)
  have hr:c.log.length+1<=room:=by have:=(hc c (by simp)).2;unfold room;omega
  have hrow:c.row=[I' c.task,hD c.nl c.log]:=rfl;have hw:∀d0 d1 d2 d3 d5 d6 d7 d8:D,ev P (.call HT [.d (.ag [d0,d1,d2,d3,qD qn Q,d5,d6,d7,d8]),.d (I' c.task),.d (I' 70)] [])=some (.val (.d (.b (iE Q c.task 70))) []):=λd0 d1 d2 d3 d5 d6 d7 d8=>Zc d0 d1 d2 d3 d5 d6 d7 d8 qn Q c.task 70 hq
  have e0:A++((c::suf).map K.row++T)=A++c.row::(suf.map K.row++T):=by simp
  have e1:A++(((c::suf).map (gw Q v)).map K.row++T)=A++[(gw Q v c).row]++((suf.map (gw Q v)).map K.row++T):=by simp
  have bE:=ih (A++[(gw Q v c).row]) (by simp at hl⊢;omega) (λx hx=>hc x (by simp[hx]))
  rw[e0,e1,<-bE];have e2:A++[(gw Q v c).row]++(suf.map K.row++T)=A++(gw Q v c).row::(suf.map K.row++T):=by simp
  rw[e2];have hB:n<=A.length+((suf.map K.row++T).length+1):=by simp at hl⊢;omega
  generalize suf.map K.row++T=B at *;have sE:=Pu (A:=A) (B:=B) (x:=c.row) (n:=A.length) rfl;have B5:=λy=>aoS (A:=A) (B:=B) (x:=c.row) (y:=y) (n:=A.length) rfl
  simp only[l6,vO];generalize hR:ev P (.loop sh.m [0,1,14,15] Bh [(0,.loc 0 0 0),(1,.d (I' v)),(14,.d (I' n)),(15,.d (I' (A.length+1:Nat)))] (hX z sz (qD qn Q) n (A++(gw Q v c).row::B) sh))=R;rw[bY]
  conv=>lhs;arg 4;unfold Bh
  cases B3:iE Q c.task 70
  .have hp:gw Q v c=⟨c.task,false,c.log++[v]⟩:=by simp[gw,B3]
   rw[hp]at hR;have Gn:K.row ⟨c.task,false,c.log++[v]⟩=[I' c.task,.sl 1 false (bW (c.log++[v]))]:=rfl;rw[Gn]at hR;have hw':=hw;rw[B3]at hw';cases gj:c.nl
   .rw[gj]at hC hrow
    rw[hrow]at sE B5;simp at hR hC;cases sh;all_goals
     simp[hX,Hs.m,bB]at hR;simp[hlt,iK,sE,hrow,hw',hX,Hs.m,bB,ak,cut,dw,dx,aq,hnext,hB,hC,aJ,hr,B5,aZ,AE,bt,aX,bg,cy,hR]
   .rw[gj]at hC hrow
    have ji:=(hc c (by simp)).1 gj
    rw[ji]at hrow hC hR;rw[hrow]at sE B5;simp at hR hC;have h1:1<=room:=by unfold room;omega
    cases sh;all_goals
     simp[hX,Hs.m,bB]at hR;simp[hlt,iK,sE,hrow,hw',hX,Hs.m,bB,ak,cut,dw,dx,aq,hnext,hB,hC,aJ,h1,B5,aZ,AE,bt,aX,bg,cy,hR]
  .have hp:gw Q v c=c:=by simp[gw,B3]
   rw[hp]at hR;have hw':=hw;rw[B3]at hw';rw[hrow]at sE hR;simp at hR;cases sh;all_goals
    simp[hX,Hs.m,bB]at hR;simp[hlt,iK,sE,hrow,hw',hX,Hs.m,bB,ak,cut,dw,dx,aq,hnext,hB,hR]
inductive Hk where
 |w0
 |w1(l:List cE)
 |wc(Q:List W)
def bH(z:Z)(sz:Int)(q:D)(C:List K)(i:Nat):Option (List (List D))->Hk->List cE->List O
 |none,.w0,[]=>[bN z sz q (.sl 2 true []) (.sl 5 true [])]
 |none,.w0,a::l=>[bB z sz (.d q) (.d (.sl 2 true [])) (.aR (1+i) 0 (a::l).length)]
 |none,.w1 l,[]=>[bB z sz (.d q) (.d (.sl 2 true [])) (.aR 1 0 l.length),.aI 5 true (l.map cE.row)]
 |none,.w1 l,a::r=>[bB z sz (.d q) (.d (.sl 2 true [])) (.aR (2+i) 0 (l++a::r).length),.dead]
 |none,.wc Q,[]=>[bN z sz q (.sl 2 true []) (.sl 5 true []),.aI 5 false (Q.map W.row)]
 |none,.wc Q,a::l=>[bB z sz (.d q) (.d (.sl 2 true [])) (.aR (2+i) 0 (a::l).length),.aI 5 false (Q.map W.row)]
 |some T,.w0,[]=>[bB z sz (.d q) (.aR 1 0 C.length) (.d (.sl 5 true [])),.aI 2 true (C.map K.row++T)]
 |some T,.w0,a::l=>[bB z sz (.d q) (.aR 1 0 C.length) (.aR (2+i) 0 (a::l).length),.aI 2 true (C.map K.row++T)]
 |some T,.w1 l,[]=>[bB z sz (.d q) (.aR 1 0 C.length) (.aR 2 0 l.length),.aI 2 true (C.map K.row++T),.aI 5 true (l.map cE.row)]
 |some T,.w1 l,a::r=>[bB z sz (.d q) (.aR 1 0 C.length) (.aR (3+i) 0 (l++a::r).length),.aI 2 true (C.map K.row++T),.dead]
 |some T,.wc Q,[]=>[bB z sz (.d q) (.aR 2 0 C.length) (.d (.sl 5 true [])),.aI 5 false (Q.map W.row),.aI 2 true (C.map K.row++T)]
 |some T,.wc Q,a::l=>[bB z sz (.d q) (.aR 2 0 C.length) (.aR (3+i) 0 (a::l).length),.aI 5 false (Q.map W.row),.aI 2 true (C.map K.row++T)]
def fH:Hk->List cE->List O
 |_,[]=>[]
 | .w1 l,a::r=>[.aI 5 true ((l++a::r).map cE.row)]
 |_,a::r=>[.aI 5 true ((a::r).map cE.row)]
def oV:List W->Nat->V
 | [],_=>.d (.sl 5 true [])
 |a::l,i=>.aR i 0 (a::l).length
def oO:List W->List O
 | []=>[]
 |a::l=>[.aI 5 true ((a::l).map W.row)]
def cH(z:Z)(sz:Int)(q:D)(C:List K)(cs:Option (List (List D)))(hk:Hk)(wn:List cE)(ot:List W):List O:=bH z sz q C (oO ot).length cs hk wn++(oO ot++fH hk wn)
def gP:Option (List (List D))->Hk->Nat
 |none,.w0=>1
 |none,_=>2
 |some _,.w0=>2
 |some _,_=>3
def Pw(v:Int)(w:W):cE:=⟨w.task,w.op,v⟩
def pW(v:Int)(Q:List W):List cE:=(Q.filter λw=>w.op==70).map (Pw v)
def pO(Q:List W):List W:=Q.filter λw=>!(w.op==70)
def Hk.len:Hk->Nat
 | .w1 l=>l.length
 |_=>0
set_option maxHeartbeats 4000000 in
theorem aoT(z:Z)(sz:Int)(qd:D)(C:List K)(cs:Option (List (List D)))(hk:Hk)(qn:Bool)(Q:List W)(v:Int)(hq:Q.length<=100000)(hh:hk.len<=100000):∀(suf pre:List W)(wn:List cE)(ot:List W),Q=pre++suf->wn.length<=pre.length->ot.length<=pre.length ->
  ev P (.loop (gP cs hk) [0,1,6,51,52,53] Bi [(0,.loc 0 0 0),(1,.d (I' v)),(6,oV ot (gP cs hk)),(51,.d (qD qn Q)),(52,.d (I' Q.length)),(53,.d (I' pre.length))] (cH z sz qd C cs hk wn ot)) =
   some (.out (.exit 2) [(0,.loc 0 0 0),(6,oV (ot++pO suf) (gP cs hk))] (cH z sz qd C cs hk (wn++pW v suf) (ot++pO suf))):=by
 intro suf;induction suf with
 |nil =>
  intro pre wn ot hl _ _
  have:Q.length=pre.length:=by simp[hl]
  rw[bY]
  conv=>lhs;arg 4;unfold Bi
  rcases cs with _ |T<;>rcases hk with _ |l |Q0<;>rcases wn with _ |⟨a,wn⟩<;>rcases ot with _ |⟨b,ot⟩ <;>
   simp[this,pW,pO,cH,bH,fH,oV,oO,gP,bB,bN,ak,cut,dw,dx,aq]
 |cons w suf ih =>
  intro pre wn ot hl h1 h2;have hg:Q[pre.length]?=some w:=by simp[hl]
  have hlt:(pre.length:Int)<Q.length:=by simp[hl];omega
  have fN:pre.length<Q.length:=by simp[hl]
  have hnext:IntKind.i64.wrap ((pre.length:Int)+1)=pre.length+1:=wrap_i64 (by omega) (by omega)
  cases ho:w.op==70
  .have e1:pW v (w::suf)=pW v suf:=by simp[pW,ho]
   have e2:ot++pO (w::suf)=ot++[w]++pO suf:=by simp[pO,ho]
   have bE:=ih (pre++[w]) wn (ot++[w]) (by simp[hl]) (by simp;omega) (by simp;omega)
   rw[e1,e2,<-bE];generalize hR:ev P (.loop (gP cs hk) [0,1,6,51,52,53] Bi [(0,.loc 0 0 0),(1,.d (I' v)),(6,oV (ot++[w]) (gP cs hk)),(51,.d (qD qn Q)),(52,.d (I' Q.length)),(53,.d (I' (pre++[w]).length))] (cH z sz qd C cs hk wn (ot++[w])))=R;rw[bY]
   conv=>lhs;arg 4;unfold Bi
   rcases ot with _ |⟨b,ot⟩
   .have hr:1<=room:=by unfold room;omega
    rcases cs with _ |T<;>rcases hk with _ |l |Q0<;>rcases wn with _ |⟨a,wn⟩;all_goals
     simp[cH,bH,fH,oV,oO,gP,bB,bN,W.row]at hR;simp[hlt,hg,W.row,ho,hnext,cH,bH,fH,oV,oO,gP,bB,bN,ak,cut,dw,dx,aq,hr,hR]
   .have hr:ot.length+1+1<=room:=by unfold room;simp at h2;omega
    rcases cs with _ |T<;>rcases hk with _ |l |Q0<;>rcases wn with _ |⟨a,wn⟩;all_goals
     simp[cH,bH,fH,oV,oO,gP,bB,bN,W.row]at hR;simp[hlt,hg,W.row,ho,hnext,cH,bH,fH,oV,oO,gP,bB,bN,ak,cut,dw,dx,aq,hr,aZ,cy,hR]
  .have e1:wn++pW v (w::suf)=wn++[⟨w.task,w.op,v⟩]++pW v suf:=by simp[pW,ho,Pw]
   have e2:pO (w::suf)=pO suf:=by simp[pO,ho]
   have bE:=ih (pre++[w]) (wn++[⟨w.task,w.op,v⟩]) ot (by simp[hl]) (by simp;omega) (by simp;omega)
   rw[e1,e2,<-bE];generalize hR:ev P (.loop (gP cs hk) [0,1,6,51,52,53] Bi [(0,.loc 0 0 0),(1,.d (I' v)),(6,oV ot (gP cs hk)),(51,.d (qD qn Q)),(52,.d (I' Q.length)),(53,.d (I' (pre++[w]).length))] (cH z sz qd C cs hk (wn++[⟨w.task,w.op,v⟩]) ot))=R;rw[bY]
   conv=>lhs;arg 4;unfold Bi
   rcases wn with _ |⟨a,wn⟩
   .rcases hk with _ |l |Q0
    .have hw:=Wp z sz qd C cs w.task w.op w.value w.prio w.case v
     rcases cs with _ |T<;>rcases ot with _ |⟨b,ot⟩;all_goals
      simp[hB,bB,bN,cE.row]at hw;simp[cH,bH,fH,oV,oO,gP,bB,bN,cE.row,W.row]at hR;simp[hlt,hg,W.row,ho,hnext,cH,bH,fH,oV,oO,gP,bB,bN,ak,cut,dw,dx,aq,hw,aD,sub,aE,back,hR]
    .have hw:=J9 z sz qd C cs l w.task w.op w.value w.prio w.case v (by simp[Hk.len]at hh;omega)
     rcases cs with _ |T<;>rcases ot with _ |⟨b,ot⟩;all_goals
      simp[hB,bB,bN,cE.row]at hw;simp[cH,bH,fH,oV,oO,gP,bB,bN,cE.row,W.row]at hR;simp[hlt,hg,W.row,ho,hnext,cH,bH,fH,oV,oO,gP,bB,bN,ak,cut,dw,dx,aq,hw,aD,sub,aE,back,hR]
    .have hw:=Wp z sz qd C cs w.task w.op w.value w.prio w.case v
     rcases cs with _ |T<;>rcases ot with _ |⟨b,ot⟩;all_goals
      simp[hB,bB,bN,cE.row]at hw;simp[cH,bH,fH,oV,oO,gP,bB,bN,cE.row,W.row]at hR;simp[hlt,hg,W.row,ho,hnext,cH,bH,fH,oV,oO,gP,bB,bN,ak,cut,dw,dx,aq,hw,aD,sub,aE,back,hR]
   .rcases hk with _ |l |Q0
    .have hw:=J9 z sz qd C cs (a::wn) w.task w.op w.value w.prio w.case v (by simp at h1⊢;omega)
     rcases cs with _ |T<;>rcases ot with _ |⟨b,ot⟩;all_goals
      simp[hB,bB,bN,cE.row]at hw;simp[cH,bH,fH,oV,oO,gP,bB,bN,cE.row,W.row]at hR;simp[hlt,hg,W.row,ho,hnext,cH,bH,fH,oV,oO,gP,bB,bN,cE.row,ak,cut,dw,dx,aq,hw,aD,sub,aE,back,hR]
    .have hw:=J9 z sz qd C cs (l++a::wn) w.task w.op w.value w.prio w.case v (by simp[Hk.len]at h1 hh⊢;omega)
     rcases cs with _ |T<;>rcases ot with _ |⟨b,ot⟩;all_goals
      simp[hB,bB,bN,cE.row]at hw;simp[cH,bH,fH,oV,oO,gP,bB,bN,cE.row,W.row]at hR;simp[hlt,hg,W.row,ho,hnext,cH,bH,fH,oV,oO,gP,bB,bN,cE.row,ak,cut,dw,dx,aq,hw,aD,sub,aE,back,hR]
    .have hw:=J9 z sz qd C cs (a::wn) w.task w.op w.value w.prio w.case v (by simp at h1⊢;omega)
     rcases cs with _ |T<;>rcases ot with _ |⟨b,ot⟩;all_goals
      simp[hB,bB,bN,cE.row]at hw;simp[cH,bH,fH,oV,oO,gP,bB,bN,cE.row,W.row]at hR;simp[hlt,hg,W.row,ho,hnext,cH,bH,fH,oV,oO,gP,bB,bN,cE.row,ak,cut,dw,dx,aq,hw,aD,sub,aE,back,hR]
def pH(z:Z)(sz:Int)(qn:Bool)(Q:List W)(C:List K):Option (List (List D))->Hk->List O
 |cs,.w0=>hB z sz (qD qn Q) C cs .nil
 |cs,.w1 l=>hB z sz (qD qn Q) C cs (.a0 l)
 |none,.wc _=>[bB z sz (.aR 1 0 Q.length) (.d (.sl 2 true [])) (.d (.sl 5 true [])),.aI 5 true (Q.map W.row)]
 |some T,.wc _=>[bB z sz (.aR 1 0 Q.length) (.aR 2 0 C.length) (.d (.sl 5 true [])),.aI 5 true (Q.map W.row),.aI 2 true (C.map K.row++T)]
def Kok(C:List K):Prop:=∀c∈C,(c.nl=true->c.log=[])/\c.log.length<=100000
def qO(Q:List W):D:=qD (decide (Q=[])) Q
def pR(z:Z)(sz:Int)(q:D)(C:List K)(cs:Option (List (List D)))(hk:Hk)(wn:List cE):List O:=bH z sz q C 0 cs hk wn++fH hk wn
theorem aoU(z:Z)(sz:Int)(qn:Bool)(Q:List W)(v:Int)(C:List K)(cs:Option (List (List D)))(hk:Hk)(hq:Q.length<=100000)(hh:hk.len<=100000):
  ev P (.loop (gP cs hk) [0,1,6,51,52,53] Bi [(0,.loc 0 0 0),(1,.d (I' v)),(6,.d (.sl 5 true [])),(51,.d (qD qn Q)),(52,.d (I' Q.length)),(53,.d (I' 0))] (bH z sz (qD qn Q) C 0 cs hk [])) =
   some (.out (.exit 2) [(0,.loc 0 0 0),(6,oV (pO Q) (gP cs hk))] (cH z sz (qD qn Q) C cs hk (pW v Q) (pO Q))):=by
 have h:=aoT z sz (qD qn Q) C cs hk qn Q v hq hh Q [] [] [] rfl (by simp) (by simp)
 have e1:cH z sz (qD qn Q) C cs hk [] []=bH z sz (qD qn Q) C 0 cs hk []:=by
  cases cs<;>cases hk<;>simp[cH,oO,bH,fH]
 rw[e1]at h;have e2:(([]:List W).length:Int)=0:=rfl;rw[e2,mX,mX]at h;exact h
set_option maxHeartbeats 4000000 in
theorem aoV(z:Z)(sz:Int)(qn:Bool)(Q:List W)(v:Int)(C:List K)(cs:Option (List (List D)))(hk:Hk)(uo:cs=none->C=[])(hq:Q.length<=100000)(hc:C.length<=100000)(hC:Kok C)(hh:hk.len<=100000)(qv:∀Q0,hk = .wc Q0->Q0=Q/\qn=false):
  ev P (.call LJ [.loc 0 0 0,.d (I' v)] (pH z sz qn Q C cs hk))=some (.val (.tu []) (pR z sz (qO (pO Q)) (C.map (gw Q v)) cs hk (pW v Q))):=by
 have hL:=aoU z sz qn Q v (C.map (gw Q v)) cs hk hq hh;generalize hwn:pW v Q=wn at *;generalize kT:pO Q=ot at *;rw[au ael rfl];rcases cs with _ |T
 .obtain rfl:=uo rfl
  rcases hk with _ |l |Q0
  .rcases wn with _ |⟨a,wn⟩<;>rcases ot with _ |⟨b,ot⟩
   all_goals
    simp[cH,bH,fH,oV,oO,gP,bB,bN]at hL;simp[Bj,Bh,bY,aX,bg,bt,pH,pR,qO,hB,cH,bH,fH,oV,oO,gP,bB,bN,ak,cut,dw,dx,aq,aZ,hL,az,W.row]
  .rcases wn with _ |⟨a,wn⟩<;>rcases ot with _ |⟨b,ot⟩
   all_goals
    simp[cH,bH,fH,oV,oO,gP,bB,bN]at hL;simp[Bj,Bh,bY,aX,bg,bt,pH,pR,qO,hB,cH,bH,fH,oV,oO,gP,bB,bN,ak,cut,dw,dx,aq,aZ,hL,az,W.row]
  .obtain⟨rfl,rfl⟩:=qv Q0 rfl
   rcases wn with _ |⟨a,wn⟩<;>rcases ot with _ |⟨b,ot⟩;all_goals
    simp[cH,bH,fH,oV,oO,gP,bB,bN]at hL;simp[Bj,Bh,bY,aX,bg,bt,pH,pR,qO,hB,cH,bH,fH,oV,oO,gP,bB,bN,ak,cut,dw,dx,aq,aZ,hL,az,W.row]
 .rcases hk with _ |l |Q0
  .have hM:=Wq z sz qn Q v C.length T .b0 (by omega) (by omega) C [] (by simp) hC
   rcases wn with _ |⟨a,wn⟩<;>rcases ot with _ |⟨b,ot⟩;all_goals
    simp[cH,bH,fH,oV,oO,gP,bB,bN,-List.map_map]at hL;simp[hX,Hs.m,bB,-List.map_map]at hM;simp[Bj,aX,bg,bt,pH,pR,qO,hB,cH,bH,fH,oV,oO,gP,bB,bN,ak,cut,dw,dx,aq,aZ,hM,hL,az,W.row,-List.map_map]
  .have hM:=Wq z sz qn Q v C.length T (.b1 l) (by omega) (by omega) C [] (by simp) hC
   rcases wn with _ |⟨a,wn⟩<;>rcases ot with _ |⟨b,ot⟩;all_goals
    simp[cH,bH,fH,oV,oO,gP,bB,bN,-List.map_map]at hL;simp[hX,Hs.m,bB,-List.map_map]at hM;simp[Bj,aX,bg,bt,pH,pR,qO,hB,cH,bH,fH,oV,oO,gP,bB,bN,ak,cut,dw,dx,aq,aZ,hM,hL,az,W.row,-List.map_map]
  .obtain⟨rfl,rfl⟩:=qv Q0 rfl
   have hM:=Wq z sz false Q0 v C.length T (.c Q0) (by omega) (by omega) C [] (by simp) hC
   rcases wn with _ |⟨a,wn⟩<;>rcases ot with _ |⟨b,ot⟩;all_goals
    simp[cH,bH,fH,oV,oO,gP,bB,bN,-List.map_map]at hL;simp[hX,Hs.m,bB,-List.map_map]at hM;simp[Bj,aX,bg,bt,pH,pR,qO,hB,cH,bH,fH,oV,oO,gP,bB,bN,ak,cut,dw,dx,aq,aZ,hM,hL,az,W.row,-List.map_map]
def hk1:List cE->Hk
 | []=>.w0
 |a::l=>.w1 (a::l)
set_option maxHeartbeats 4000000 in
theorem aoW(z:Z)(sz:Int)(qn:Bool)(Q:List W)(C:List K)(cs:Option (List (List D)))(wn:List cE)(w:W)(uo:cs=none->C=[])(hq:Q.length<=100000)(hc:C.length<=100000)(hC:Kok C)(hh:wn.length<=99999):
  ev P (.round [5] Il Im [.d (.ag [I' w.task,I' w.op,I' w.value,I' w.prio,I' w.case])] [(1,.rf [.loc 0 0 0])] (pH z sz qn Q C cs (hk1 wn))) =
   some (.out .normal [] (pR z sz (qO (pO Q)) (C.map (gw Q w.value)) cs (hk1 wn) (⟨w.task,w.op,0⟩::pW w.value Q))):=by
 have hP:=aoV z sz qn Q w.value C cs (.w1 (wn++[⟨w.task,w.op,0⟩])) uo hq hc hC (by simp[Hk.len];omega) (by intro Q0 h;cases h)
 generalize hwo:pW w.value Q=wo at *;generalize kT:pO Q=ot at *;generalize sq:C.map (gw Q w.value)=C' at *;have hl:C'.length=C.length:=by simp[<-sq]
 rw[QX];rcases wn with _ |⟨a,wn⟩
 .have hw:=Wp z sz (qD qn Q) C cs w.task w.op w.value w.prio w.case 0
  rcases cs with _ |T<;>rcases wo with _ |⟨b,wo⟩;all_goals
   simp[hB,bB,bN,cE.row]at hw;simp[pH,hB,pR,bH,fH,bB,bN,cE.row,qO,hl]at hP;simp[Il,Im,hk1,pH,pR,qO,hB,cH,bH,fH,oV,oO,gP,bB,bN,ak,cut,dw,dx,eJ,aq,aZ,aD,sub,aE,back,hw,hP,cE.row,hl]
 .have hw:=J9 z sz (qD qn Q) C cs (a::wn) w.task w.op w.value w.prio w.case 0 (by simp at hh⊢;omega)
  rcases cs with _ |T<;>rcases wo with _ |⟨b,wo⟩;all_goals
   simp[hB,bB,bN,cE.row]at hw;simp[pH,hB,pR,bH,fH,bB,bN,cE.row,qO,hl]at hP;simp[Il,Im,hk1,pH,pR,qO,hB,cH,bH,fH,oV,oO,gP,bB,bN,ak,cut,dw,dx,eJ,aq,aZ,aD,sub,aE,back,hw,hP,cE.row,hl]
theorem aoX(A B:List (List D))(r:List D)(h:A.length+B.length<=100000):
  ev P (.call RY [.aR 0 0 (A.length+(B.length+1)),.d (I' A.length),.d (I' (A.length+1))] [.aI 5 true (A++r::B)]) =
   some (.val (.aR 0 0 (A.length+B.length)) [.aI 5 true (A++(B++[[I' 0,I' 0,I' 0,I' 0,I' 0]]))]):=by
 have h1:(A.length:Int)<=A.length+1:=by omega
 have h2:(A.length:Int)+1<=A.length+(B.length+1):=by omega
 have h3:(0:Int)<=A.length+1:=by omega
 have h4:((A.length:Int)==A.length+1)=false:=by simp;omega
 have h7:(A.length:Int)<=A.length+(B.length+1):=by omega
 have h5:A.length+B.length<=A.length+(B.length+1):=by omega
 have h6:¬(A.length+(B.length+1)<A.length+B.length):=by omega
 rw[au ae2 rfl];have jr:(A.length:Int)<A.length+1:=by omega
 rcases B with _ |⟨b,B⟩
 .have h9:¬((A.length:Int)+1=0):=by omega
  simp at h2 h5 h6 h7;simp[Nq,ak,cut,h1,h2,h3,h4,h5,h6,h7,h9,jr,az]
 .have h8:(1:Int)<B.length+1+1:=by omega
  have h9:¬((A.length:Int)+1=0):=by omega
  have h12:A.length+1+(B.length+1)<=A.length+(B.length+1+1):=by omega
  obtain⟨x,hx⟩:∃x,List.drop (B.length+1) (r::b::B)=[x]:=G9.1 (by simp)
  have kU:¬((A.length:Int)+(B.length+1)=0):=by omega
  have kC:(0:Int)<=(A.length:Int)+(B.length+1):=by omega
  have sU:(B.length:Int)<=B.length+1:=by omega
  have o9:(B.length:Int)<B.length+1:=by omega
  have zP:((A.length:Int)+(B.length+1)).toNat=A.length+(B.length+1):=by omega
  have zT:((A.length:Int)+(B.length+1+1) - (A.length+(B.length+1))).toNat=1:=by omega
  have zU:A.length+(B.length+1)+1<=A.length+(B.length+1+1):=by omega
  have zV:List.take (A.length+(B.length+1)) (A++b::(B++[x]))=A++b::B:=by
   have:A++b::(B++[x])=(A++b::B)++[x]:=by simp
   rw[this];exact uA (by simp)
  have zW:List.drop (A.length+(B.length+1)+1) (A++b::(B++[x]))=[]:=qB (by simp;omega)
  have iV:((A.length:Int)+(B.length+1+1) - (A.length+1)).toNat=B.length+1:=by omega
  simp at h2 h5 h6 h7;simp[Nq,ak,cut,h1,h2,h3,h4,h5,h6,h7,h8,h9,iV,jr,h12,kU,kC,sU,o9,zP,zT,zU,zV,zW,hx,az]
theorem aoY(A B:List (List D))(r:List D)(h:A.length+B.length<=100000):
  ev P (.call HL [.aR 0 0 (A.length+(B.length+1)),.d (I' A.length),.d (I' (A.length+1))] [.aI 2 true (A++r::B)]) =
   some (.val (.aR 0 0 (A.length+B.length)) [.aI 2 true (A++(B++[[I' 0,.sl 1 true []]]))]):=by
 have h1:(A.length:Int)<=A.length+1:=by omega
 have h2:(A.length:Int)+1<=A.length+(B.length+1):=by omega
 have h3:(0:Int)<=A.length+1:=by omega
 have h4:((A.length:Int)==A.length+1)=false:=by simp;omega
 have h7:(A.length:Int)<=A.length+(B.length+1):=by omega
 have h5:A.length+B.length<=A.length+(B.length+1):=by omega
 have h6:¬(A.length+(B.length+1)<A.length+B.length):=by omega
 rw[au YP rfl];have jr:(A.length:Int)<A.length+1:=by omega
 rcases B with _ |⟨b,B⟩
 .have h9:¬((A.length:Int)+1=0):=by omega
  simp at h2 h5 h6 h7;simp[Fe,ak,cut,h1,h2,h3,h4,h5,h6,h7,h9,jr,az]
 .have h8:(1:Int)<B.length+1+1:=by omega
  have h9:¬((A.length:Int)+1=0):=by omega
  have h12:A.length+1+(B.length+1)<=A.length+(B.length+1+1):=by omega
  obtain⟨x,hx⟩:∃x,List.drop (B.length+1) (r::b::B)=[x]:=G9.1 (by simp)
  have kU:¬((A.length:Int)+(B.length+1)=0):=by omega
  have kC:(0:Int)<=(A.length:Int)+(B.length+1):=by omega
  have sU:(B.length:Int)<=B.length+1:=by omega
  have o9:(B.length:Int)<B.length+1:=by omega
  have zP:((A.length:Int)+(B.length+1)).toNat=A.length+(B.length+1):=by omega
  have zT:((A.length:Int)+(B.length+1+1) - (A.length+(B.length+1))).toNat=1:=by omega
  have zU:A.length+(B.length+1)+1<=A.length+(B.length+1+1):=by omega
  have zV:List.take (A.length+(B.length+1)) (A++b::(B++[x]))=A++b::B:=by
   have:A++b::(B++[x])=(A++b::B)++[x]:=by simp
   rw[this];exact uA (by simp)
  have zW:List.drop (A.length+(B.length+1)+1) (A++b::(B++[x]))=[]:=qB (by simp;omega)
  have iV:((A.length:Int)+(B.length+1+1) - (A.length+1)).toNat=B.length+1:=by omega
  simp at h2 h5 h6 h7;simp[Fe,ak,cut,h1,h2,h3,h4,h5,h6,h7,h8,h9,iV,jr,h12,kU,kC,sU,o9,zP,zT,zU,zV,zW,hx,az]
theorem aoZ(A B:List (List D))(r:List D)(h:A.length+B.length<=100000):
  ev P (.call RQ [.aR 0 0 (A.length+(B.length+1)),.d (I' A.length),.d (I' (A.length+1))] [.aI 5 true (A++r::B)]) =
   some (.val (.aR 0 0 (A.length+B.length)) [.aI 5 true (A++(B++[[I' 0,I' 0,I' 0,.b false,I' 0]]))]):=by
 have h1:(A.length:Int)<=A.length+1:=by omega
 have h2:(A.length:Int)+1<=A.length+(B.length+1):=by omega
 have h3:(0:Int)<=A.length+1:=by omega
 have h4:((A.length:Int)==A.length+1)=false:=by simp;omega
 have h7:(A.length:Int)<=A.length+(B.length+1):=by omega
 have h5:A.length+B.length<=A.length+(B.length+1):=by omega
 have h6:¬(A.length+(B.length+1)<A.length+B.length):=by omega
 rw[au aeR rfl];have jr:(A.length:Int)<A.length+1:=by omega
 rcases B with _ |⟨b,B⟩
 .have h9:¬((A.length:Int)+1=0):=by omega
  simp at h2 h5 h6 h7;simp[Nk,ak,cut,h1,h2,h3,h4,h5,h6,h7,h9,jr,az]
 .have h8:(1:Int)<B.length+1+1:=by omega
  have h9:¬((A.length:Int)+1=0):=by omega
  have h12:A.length+1+(B.length+1)<=A.length+(B.length+1+1):=by omega
  obtain⟨x,hx⟩:∃x,List.drop (B.length+1) (r::b::B)=[x]:=G9.1 (by simp)
  have kU:¬((A.length:Int)+(B.length+1)=0):=by omega
  have kC:(0:Int)<=(A.length:Int)+(B.length+1):=by omega
  have sU:(B.length:Int)<=B.length+1:=by omega
  have o9:(B.length:Int)<B.length+1:=by omega
  have zP:((A.length:Int)+(B.length+1)).toNat=A.length+(B.length+1):=by omega
  have zT:((A.length:Int)+(B.length+1+1) - (A.length+(B.length+1))).toNat=1:=by omega
  have zU:A.length+(B.length+1)+1<=A.length+(B.length+1+1):=by omega
  have zV:List.take (A.length+(B.length+1)) (A++b::(B++[x]))=A++b::B:=by
   have:A++b::(B++[x])=(A++b::B)++[x]:=by simp
   rw[this];exact uA (by simp)
  have zW:List.drop (A.length+(B.length+1)+1) (A++b::(B++[x]))=[]:=qB (by simp;omega)
  have iV:((A.length:Int)+(B.length+1+1) - (A.length+1)).toNat=B.length+1:=by omega
  simp at h2 h5 h6 h7;simp[Nk,ak,cut,h1,h2,h3,h4,h5,h6,h7,h8,h9,iV,jr,h12,kU,kC,sU,o9,zP,zT,zU,zV,zW,hx,az]
theorem ao0(a b c d e:Int):ev P (.call HV [.d (.ag [I' a,I' b,I' c,I' d,I' e])] [])=some (.val (.d (.b (b==68))) []):=by
 rw[au ae1 rfl];simp[Ta]
theorem ao1(nl:Bool)(l:List W)(hn:l.length<=1000000):
  ev P (.call x9 [.d (qD nl l),.d (.fn HV [] [])] [])=some (.val (.d (I' (kB l))) []):=by
 have h:=IP (f:=HV) (first:=[]) (caps:=[]) (p:=λw=>w.op==68) nl l hn (by intro a b c d e;simp[ao0])
 exact h
theorem ao2(z:Z)(sz:Int)(q:D)(C:List K)(cs:Option (List (List D))):
  ev P (.call RP [.loc 0 0 0] (hB z sz q C cs .nil))=some (.val (.fn Mf [] [.rf [.loc 0 0 0]]) (hB z sz q C cs .nil)):=by
 rw[au aeL rfl];rcases cs with _ |T<;>simp[SX,hB,bB,bN,ak,cut,dw,dx,aq,az]
abbrev Px:O:=.lp [5] Il Im .normal [(1,.rf [.loc 1 0 0])]
def aH(z:Z)(sz:Int)(q:D)(C:List K):Option (List (List D))->List cE->List O
 |none,[]=>[Px,bN z sz q (.sl 2 true []) (.sl 5 true [])]
 |none,a::l=>[Px,bB z sz (.d q) (.d (.sl 2 true [])) (.aR 2 0 (a::l).length),.aI 5 true ((a::l).map cE.row)]
 |some T,[]=>[Px,bB z sz (.d q) (.aR 2 0 C.length) (.d (.sl 5 true [])),.aI 2 true (C.map K.row++T)]
 |some T,a::l=>[Px,bB z sz (.d q) (.aR 2 0 C.length) (.aR 3 0 (a::l).length),.aI 2 true (C.map K.row++T),.aI 5 true ((a::l).map cE.row)]
def mA:Option (List (List D))->Nat
 |none=>2
 |some _=>3
def Q1(Q:List W):List W:=Q.eraseIdx (kB Q).toNat
theorem D5(Q:List W):(kB Q = -1/\Q.find? (λw=>w.op==68)=none)\/∃(A B:List W)(w:W),Q=A++w::B/\kB Q=(A.length:Int)/\w.op=68:=by
 rcases Db (p:=λw:W=>w.op==68) Q 0 with⟨h1,h2⟩ |⟨i,c,h1,h2,h3⟩
 .exact .inl ⟨h1,h2⟩
 .right
  have hc:c.op=68:=by have:=Hp h3;simpa using this
  obtain⟨hlt,he⟩:=sF.1 h2;refine⟨Q.take i,Q.drop (i+1),c,?_,?_,hc⟩
  .rw[<-he];simp
  .have:(Q.take i).length=i:=by simp;omega
   rw[this];simp at h1;exact h1
structure Ad where
 qn:Bool
 Q:List W
 C:List K
 wn:List cE
def Ad.step(a:Ad)(w:W):Ad:=⟨decide (pO (Q1 a.Q)=[]),pO (Q1 a.Q),a.C.map (gw (Q1 a.Q) w.value),a.wn++⟨w.task,w.op,0⟩::pW w.value (Q1 a.Q)⟩
def gX(sz:Int):Nat->Ad->Ad
 | 0,a=>a
 |n+1,a=>if kB a.Q<0\/fl sz a.C a.Q=true then a else
  match a.Q[(kB a.Q).toNat]? with
  |none=>a
  |some w=>gX sz n (a.step w)
def Ad.ok(cs:Option (List (List D)))(a:Ad):Prop :=
 (cs=none->a.C=[])/\a.C.length<=100000/\(∀c∈a.C,(c.nl=true->c.log=[])/\c.log.length+a.Q.length<=100000)/\a.Q.length+a.wn.length<=90000/\(a.qn=true->a.Q=[])
theorem D6{A B:List W}{w:W}(h:kB (A++w::B)=(A.length:Int)):Q1 (A++w::B)=A++B:=by
 unfold Q1;rw[h];have e:((A.length:Int)).toNat=A.length:=by omega
 rw[e,Es (by omega)]
 simp
theorem D7(v:Int)(Q:List W):(pO Q).length+(pW v Q).length=Q.length:=by
 unfold pO pW;rw[xM];induction Q with
 |nil=>rfl
 |cons w r ih=>cases h:w.op==70<;>simp[h]<;>omega
theorem GJ(Q:List W):(pO Q).length<=Q.length:=oM _ _
theorem Ad.Wr{cs:Option (List (List D))}{a:Ad}{A B:List W}{w:W}(hQ:a.Q=A++w::B)(h:kB a.Q=(A.length:Int))(hok:a.ok cs):(a.step w).ok cs:=by
 obtain⟨uo,hc,hC,hw,iB⟩:=hok;have nj:Q1 a.Q=A++B:=by rw[hQ];exact D6 (by rw[<-hQ];exact h)
 have hl:=GJ (A++B);have k8:=D7 w.value (A++B);have Ka:a.Q.length=A.length+(B.length+1):=by rw[hQ];simp
 simp only[l6]at hl k8;refine⟨?_,?_,?_,?_,?_⟩
 .intro e;simp[Ad.step,uo e]
 .simp[Ad.step];exact hc
 .intro c jH
  simp only[Ad.step]at jH⊢;obtain⟨c0,hc0,rfl⟩:=gY.1 jH;have:=hC c0 hc0;rw[nj]at *;unfold gw;split
  .exact⟨this.1,by omega⟩
  .refine⟨by simp,?_⟩
   simp only[l6,vO];omega
 .simp only[Ad.step,l6,ir]
  rw[nj];omega
 .simp[Ad.step]
set_option maxHeartbeats 4000000 in
theorem ao3(z:Z)(sz:Int)(cs:Option (List (List D))):∀(n:Nat)(a:Ad),a.Q.length<n->a.ok cs ->
  ev P (.loop (mA cs) [0,1] Np [(0,.ju 0),(1,.rf [.loc 1 0 0])] (aH z sz (qD a.qn a.Q) a.C cs a.wn)) =
   some (.out .ret [] (aH z sz (qD (gX sz n a).qn (gX sz n a).Q) (gX sz n a).C cs (gX sz n a).wn)):=by
 intro n;induction n with
 |zero=>intro a h;omega
 |succ n ih =>
  intro a hn hok;obtain⟨qn,Q,C,wn⟩:=a;obtain⟨uo,hc,hC,hw,iB⟩:=hok;simp only at uo hc hC hw iB hn⊢;have hI:=ao1 qn Q (by omega)
  rw[bY]
  conv=>lhs;arg 4;unfold Np
  by_cases hp:kB Q<0
  .have e:gX sz (n+1) ⟨qn,Q,C,wn⟩=⟨qn,Q,C,wn⟩:=by simp[gX,hp]
   rw[e];rcases cs with _ |T<;>rcases wn with _ |⟨x,wn⟩;all_goals
    simp[aH,mA,bB,bN,hI,hp,ak,cut,dw,dx,eJ,aq]
  .cases hf:fl sz C Q
   .rcases D5 Q with⟨h1,_⟩ |⟨A,B,w,hQ,BT,eR⟩
    .omega
    .have hst:=Ad.Wr (a:=⟨qn,Q,C,wn⟩) hQ BT ⟨uo,hc,hC,hw,iB⟩
     have nj:Q1 Q=A++B:=by rw[hQ];exact D6 (by rw[<-hQ];exact BT)
     have sE:Q[A.length]?=some w:=by rw[hQ];simp
     have Ka:Q.length=A.length+(B.length+1):=by rw[hQ];simp
     have hlt:A.length<Q.length:=by omega
     have e:gX sz (n+1) ⟨qn,Q,C,wn⟩=gX sz n (Ad.step ⟨qn,Q,C,wn⟩ w):=by
      have n1:¬((A.length:Int)<0):=by omega
      simp[gX,n1,hf,BT,sE]
     have DD:(Ad.step ⟨qn,Q,C,wn⟩ w).Q.length<n:=by
      have:=GJ (A++B);simp only[Ad.step,nj];simp at this;omega
     have bE:=ih _ DD hst;rw[e,<-bE];have uq:qn=false:=by
      cases qn
      .rfl
      .rw[iB rfl]at Ka;simp at Ka
     subst uq;simp only[Ad.step,nj];have hR:=aoW z sz false (A++B) C cs wn w uo (by simp;omega) hc (λc jH=>⟨(hC c jH).1,by have:=(hC c jH).2;omega⟩) (by omega)
     have hD:=aoX (A.map W.row) (B.map W.row) w.row (by simp;omega)
     have hK:=xu false Q (by simp) (by omega)
     have jx:w.row=[I' w.task,I' w.op,I' w.value,I' w.prio,I' w.case]:=rfl
     have nN:∀(d0 d1 d2 d3 d5 d7 d8:D)(cn:Bool),ev P (.call A9 [.d (I' sz),.d (.ag [d0,d1,d2,d3,qD false Q,d5,.sl 2 cn (C.map K.row),d7,d8])] [])=some (.val (.d (.b false)) []):=by
      intro d0 d1 d2 d3 d5 d7 d8 cn;have:=NM sz d0 d1 d2 d3 d5 d7 d8 false Q cn C (by omega) (by omega)
      rw[hf]at this;exact this
     have hw1:IntKind.i64.wrap ((A.length:Int)+1)=A.length+1:=wrap_i64 (by omega) (by omega)
     rw[BT]at hI;have n1:¬((A.length:Int)<0):=by omega
     rw[Ka]at hK;have iK:(A.length:Int)<A.length+(B.length+1):=by omega
     have n2:A.length<A.length+(B.length+1):=by omega
     have gV:List.take (A.length+B.length) (A.map W.row++(B.map W.row++[[I' 0,I' 0,I' 0,I' 0,I' 0]]))=(A++B).map W.row:=by
      have:A.map W.row++(B.map W.row++[[I' 0,I' 0,I' 0,I' 0,I' 0]])=(A++B).map W.row++[[I' 0,I' 0,I' 0,I' 0,I' 0]]:=by simp
      rw[this];exact uA (by simp)
     generalize B6:ev P (.loop (mA cs) [0,1] Np [(0,.ju 0),(1,.rf [.loc 1 0 0])] (aH z sz (qD (decide (pO (A++B)=[])) (pO (A++B))) (C.map (gw (A++B) w.value)) cs (wn++⟨w.task,w.op,0⟩::pW w.value (A++B))))=R;generalize hwo:pW w.value (A++B)=wo at *;generalize kT:pO (A++B)=ot at *;generalize sq:C.map (gw (A++B) w.value)=C' at *;have hl:C'.length=C.length:=by simp[<-sq]
     rcases cs with _ |T<;>rcases wn with _ |⟨x,wn⟩
     .obtain rfl:=uo rfl
      simp[aH,mA,bB,bN,hl,qD,cE.row]at B6;simp[hk1,pH,pR,hB,bH,fH,qO,bB,bN,jx,qD,hl,cE.row]at hR hD;simp[hQ,jx]at hK hI nN;simp[hQ,aH,mA,bB,bN,hI,n1,jx,iK,n2,nN,hK,hD,hw1,gV,hR,aJ,aD,sub,aE,back,oQ,bt,aX,bg,V.aY,ak,cut,dw,dx,eJ,aq,aZ,cE.row,B6,hl]
     .obtain rfl:=uo rfl
      simp[aH,mA,bB,bN,hl,qD,cE.row]at B6;simp[hk1,pH,pR,hB,bH,fH,qO,bB,bN,jx,qD,hl,cE.row]at hR hD;simp[hQ,jx]at hK hI nN;simp[hQ,aH,mA,bB,bN,hI,n1,jx,iK,n2,nN,hK,hD,hw1,gV,hR,aJ,aD,sub,aE,back,oQ,bt,aX,bg,V.aY,ak,cut,dw,dx,eJ,aq,aZ,cE.row,B6,hl]
     .simp[aH,mA,bB,bN,hl,qD,cE.row]at B6
      simp[hk1,pH,pR,hB,bH,fH,qO,bB,bN,jx,qD,hl,cE.row]at hR hD;simp[hQ,jx]at hK hI nN;simp[hQ,aH,mA,bB,bN,hI,n1,jx,iK,n2,nN,hK,hD,hw1,gV,hR,aJ,aD,sub,aE,back,oQ,bt,aX,bg,V.aY,ak,cut,dw,dx,eJ,aq,aZ,cE.row,B6,hl]
     .simp[aH,mA,bB,bN,hl,qD,cE.row]at B6
      simp[hk1,pH,pR,hB,bH,fH,qO,bB,bN,jx,qD,hl,cE.row]at hR hD;simp[hQ,jx]at hK hI nN;simp[hQ,aH,mA,bB,bN,hI,n1,jx,iK,n2,nN,hK,hD,hw1,gV,hR,aJ,aD,sub,aE,back,oQ,bt,aX,bg,V.aY,ak,cut,dw,dx,eJ,aq,aZ,cE.row,B6,hl]
   .have e:gX sz (n+1) ⟨qn,Q,C,wn⟩=⟨qn,Q,C,wn⟩:=by simp[gX,hf]
    rw[e];have nN:∀(d0 d1 d2 d3 d5 d7 d8:D),ev P (.call A9 [.d (I' sz),.d (.ag [d0,d1,d2,d3,qD qn Q,d5,.sl 2 false (C.map K.row),d7,d8])] [])=some (.val (.d (.b true)) []):=by
     intro d0 d1 d2 d3 d5 d7 d8;have:=NM sz d0 d1 d2 d3 d5 d7 d8 qn Q false C (by omega) (by omega)
     rw[hf]at this;exact this
    rcases cs with _ |T<;>rcases wn with _ |⟨x,wn⟩
    .obtain rfl:=uo rfl
     simp[fl]at hf
    .obtain rfl:=uo rfl
     simp[fl]at hf
    .simp[aH,mA,bB,bN,hI,hp,nN,ak,cut,dw,dx,eJ,aq,aZ]
    .simp[aH,mA,bB,bN,hI,hp,nN,ak,cut,dw,dx,eJ,aq,aZ]
def cP(sz:Int)(qn:Bool)(Q:List W)(C:List K):Ad:=gX sz (Q.length+1) ⟨qn,Q,C,[]⟩
theorem yU(sz:Int):∀(n:Nat)(a:Ad),(gX sz n a).C.length=a.C.length
 | 0,a=>rfl
 |n+1,a=>by
  unfold gX;split
  .rfl
  .split
   .rfl
   .rw[yU sz n];simp[Ad.step]
set_option maxHeartbeats 4000000 in
theorem Py(z:Z)(sz:Int)(qn:Bool)(Q:List W)(C:List K)(cs:Option (List (List D)))(hk:Hk)(hok:Ad.ok cs ⟨qn,Q,C,[]⟩)(qv:hk = .w0\/(hk = .wc Q/\qn=false)):
  ev P (.call EI [.loc 0 0 0] (pH z sz qn Q C cs hk)) =
   some (.val (.tu []) (pR z sz (qD (cP sz qn Q C).qn (cP sz qn Q C).Q) (cP sz qn Q C).C cs hk (cP sz qn Q C).wn)):=by
 have hP:=ao2 z sz (qD qn Q) C cs;have hL:=ao3 z sz cs (Q.length+1) ⟨qn,Q,C,[]⟩ (by simp) hok
 have hl:(cP sz qn Q C).C.length=C.length:=yU sz _ _;have Kb:cs=none->(cP sz qn Q C).C=[]:=λh=>by
  have h3:C=[]:=hok.1 h;have h2:C.length=0:=by rw[h3];rfl
  exact xS.1 (hl.trans h2)
 change _=some (dL.out .ret [] (aH z sz (qD (cP sz qn Q C).qn (cP sz qn Q C).Q) (cP sz qn Q C).C cs (cP sz qn Q C).wn))at hL;generalize cP sz qn Q C=a at *;obtain⟨nW,Q',C',wn'⟩:=a;simp only at hL hl Kb⊢;have hF:ev P (.call Mf [.ju 0,.rf [.loc 1 0 0]] (aH z sz (qD qn Q) C cs []))=some (.val (.tu []) (aH z sz (qD nW Q') C' cs wn')):=by
  rw[au ae0 rfl];rcases cs with _ |T<;>rcases wn' with _ |⟨x,wn'⟩;all_goals
   simp[aH,mA,bB,bN]at hL;simp[S9,aH,mA,bB,bN,hL,az,ak,cut,dw,dx,eJ,aq]
 rw[au aeg rfl];rcases qv with rfl |⟨rfl,rfl⟩
 .rcases cs with _ |T<;>rcases wn' with _ |⟨x,wn'⟩
  .have yV:C=[]:=hok.1 rfl
   have D8:C'=[]:=Kb rfl;subst yV D8;simp[hB,aH,mA,bB,bN,hl]at hF hP;simp[yj,pH,pR,hB,bH,fH,aH,mA,bB,bN,hP,hF,aD,sub,aE,back,aX,bg,ak,cut,dw,dx,eJ,bX,aq,aZ,az,hl,jS]
  .have yV:C=[]:=hok.1 rfl
   have D8:C'=[]:=Kb rfl;subst yV D8;simp[hB,aH,mA,bB,bN,hl]at hF hP;simp[yj,pH,pR,hB,bH,fH,aH,mA,bB,bN,hP,hF,aD,sub,aE,back,aX,bg,ak,cut,dw,dx,eJ,bX,aq,aZ,az,hl,jS]
  .simp[hB,aH,mA,bB,bN,hl]at hF hP
   simp[yj,pH,pR,hB,bH,fH,aH,mA,bB,bN,hP,hF,aD,sub,aE,back,aX,bg,ak,cut,dw,dx,eJ,bX,aq,aZ,az,hl,jS]
  .simp[hB,aH,mA,bB,bN,hl]at hF hP
   simp[yj,pH,pR,hB,bH,fH,aH,mA,bB,bN,hP,hF,aD,sub,aE,back,aX,bg,ak,cut,dw,dx,eJ,bX,aq,aZ,az,hl,jS]
 .rcases cs with _ |T<;>rcases wn' with _ |⟨x,wn'⟩
  .have yV:C=[]:=hok.1 rfl
   have D8:C'=[]:=Kb rfl;subst yV D8;simp[hB,aH,mA,bB,bN,hl]at hF hP;simp[yj,pH,pR,hB,bH,fH,aH,mA,bB,bN,hP,hF,aD,sub,aE,back,aX,bg,ak,cut,dw,dx,eJ,bX,aq,aZ,az,hl,jS]
  .have yV:C=[]:=hok.1 rfl
   have D8:C'=[]:=Kb rfl;subst yV D8;simp[hB,aH,mA,bB,bN,hl]at hF hP;simp[yj,pH,pR,hB,bH,fH,aH,mA,bB,bN,hP,hF,aD,sub,aE,back,aX,bg,ak,cut,dw,dx,eJ,bX,aq,aZ,az,hl,jS]
  .simp[hB,aH,mA,bB,bN,hl]at hF hP
   simp[yj,pH,pR,hB,bH,fH,aH,mA,bB,bN,hP,hF,aD,sub,aE,back,aX,bg,ak,cut,dw,dx,eJ,bX,aq,aZ,az,hl,jS]
  .simp[hB,aH,mA,bB,bN,hl]at hF hP
   simp[yj,pH,pR,hB,bH,fH,aH,mA,bB,bN,hP,hF,aD,sub,aE,back,aX,bg,ak,cut,dw,dx,eJ,bX,aq,aZ,az,hl,jS]
theorem yP(nl:Bool)(l:List W)(t:Int)(hn:l.length<=1000000):
  ev P (.call vW [.d (qD nl l),.d (I' t)] [])=some (.val (.d (qO (l.filter λw=>w.task != t))) []):=by
 have hf:ev P (.call LV [.d (qD nl l),.d (.fn uO [] [.ref [I' t]])] [])=some (.val (.d (qO (l.filter λw=>w.task != t))) []):=by
  rw[au YX rfl];have hl:=VO (f:=uO) (first:=[]) (caps:=[.ref [I' t]]) (p:=λw=>w.task != t) nl l hn (by intro a b c d e;simp[JU]) _ rfl l [] rfl
  cases hf:l.filter λw=>w.task != t with
  |nil=>simp[hf,lK,lM]at hl;simp[Ir,hl,qO]
  |cons a r=>simp[hf,lK,lM,W.row]at hl;simp[Ir,hl,qO,W.row,aZ]
 rw[au YG rfl];simp[MF,hf]
structure Rp where
 st:S
 parked:Bool
 value:Int
 ok:Bool
 kn:Bool
 wn:List cE
abbrev kD(n:Bool)(l:List cE):D:=.sl 5 n (l.map cE.row)
abbrev Rp.row(r:Rp):List D:=[I' r.st.own,I' r.st.cnt,I' r.st.time,hD r.st.hn r.st.H,qD r.st.qn r.st.Q,hD r.st.bn r.st.B,cD r.st.cn r.st.C,.b r.st.cl,I' r.st.val,.b r.parked,I' r.value,.b r.ok,kD r.kn r.wn]
def S0:S:=⟨0,0,0,true,[],true,[],true,[],true,[],false,0⟩
def pP:Rp:=⟨S0,false,0,false,true,[]⟩
structure S.wz(s:S):Prop where
 h:s.H.length<=1000
 b:s.B.length<=1000
 q:s.Q.length<=1000
 c:s.C.length<=1000
 l:∀c∈s.C,(c.nl=true->c.log=[])/\c.log.length<=1000
 qn:s.qn=true->s.Q=[]
 cn:s.cn=true->s.C=[]
theorem S.wz.sm{s:S}(h:s.wz):s.sm:=⟨by have:=h.h;omega,by have:=h.b;omega,by have:=h.q;omega,by have:=h.c;omega,λc hc=>by have:=(h.l c hc).2;omega⟩
abbrev S.z(s:S):Z:=⟨I' s.own,I' s.cnt,I' s.time,hD s.hn s.H,hD s.bn s.B,.b s.cl,I' s.val⟩
def rE(cn:Bool):Option (List (List D)):=if cn=true then none else some []
abbrev S.put(s:S)(a:Ad):S:={s with qn:=a.qn,Q:=a.Q,C:=a.C}
def wd(k sz ot:Int)(s:S)(t:Int):Rp×Int :=
 if dX k sz ot s≠0 then(pP,1)else if(s.Q.any λw=>w.task==t)=false then(pP,7)else
 let a:=cP sz (decide ((s.Q.filter λw=>w.task != t)=[])) (s.Q.filter λw=>w.task != t) s.C
 (⟨s.put a,false,0,false,decide (a.wn=[]),a.wn⟩,0)
set_option maxHeartbeats 4000000 in
theorem V8(nm:D)(k sz ot:Int)(s:S)(hs:s.wz)(t:Int):
  ev P (.call HE [.d (.ag [nm,I' k,I' sz,I' ot]),.d (.ag s.row),.d (I' t)] [])=some (.val (.tu [.d (.ag (wd k sz ot s t).1.row),.d (I' (wd k sz ot s t).2)]) []):=by
 have hC:=oA nm k sz ot s hs.sm;have hF:=jW s.qn s.Q t (by have:=hs.q;omega)
 rw[wu]at hF;have gy:=J' s.z nm (I' k) (I' ot) sz s.qn s.Q s.cn s.C hs.qn hs.cn (by have:=hs.q;omega) (by have:=hs.c;omega)
 have hR:=yP s.qn s.Q t (by have:=hs.q;omega)
 have hle:(s.Q.filter λw=>w.task != t).length<=s.Q.length:=oM _ _
 have hA:=Py s.z sz (decide ((s.Q.filter λw=>w.task != t)=[])) (s.Q.filter λw=>w.task != t) s.C (rE s.cn) .w0
  ⟨by intro h;apply hs.cn;cases hc:s.cn<;>simp[rE,hc]at h⊢,by have:=hs.c;simp only;omega,λc hc=>⟨(hs.l c hc).1,by have:=(hs.l c hc).2;have:=hs.q;simp only;omega⟩,by have:=hs.q;simp;omega,by simp⟩ (.inl rfl)
 have hl:(cP sz (decide ((s.Q.filter λw=>w.task != t)=[])) (s.Q.filter λw=>w.task != t) s.C).C.length=s.C.length:=yU sz _ _
 have uq:(s.Q.any λw=>w.task==t)=true->s.qn=false:=by
  intro h;cases h2:s.qn
  .rfl
  .rw[hs.qn h2]at h;simp at h
 have GK:s.cn=true->(cP sz (decide ((s.Q.filter λw=>w.task != t)=[])) (s.Q.filter λw=>w.task != t) s.C).C=[]:=λh=>xS.1 (by rw[hl,hs.cn h];rfl)
 unfold wd;generalize (s.Q.filter λw=>w.task != t)=Q' at *
 generalize cP sz (decide (Q'=[])) Q' s.C=a at *;obtain⟨own,cnt,time,hn,H,qn,Q,bn,B,cn,C,cl,val⟩:=s;obtain⟨nW,Q'',C',wn⟩:=a;simp only at hC hF gy hR hA hl hs uq GK⊢;generalize (Q.any λw=>w.task==t)=an at *
 generalize (jg Q t).1=fi at *;have gV:List.take C.length (C'.map K.row)=C'.map K.row:=gD (by simp[hl])
 rw[au adG rfl];by_cases hc:dX k sz ot ⟨own,cnt,time,hn,H,qn,Q,bn,B,cn,C,cl,val⟩=0
 .rw[hc]at hC⊢
  cases an
  .simp[Ib,hC,hF,pP,S0]
  .obtain rfl:=uq rfl
   cases cn<;>rcases wn with _ |⟨x,wn⟩;all_goals
    simp[dh,bB,bN,qO]at gy hR;simp[pH,pR,hB,bH,fH,rE,bB,bN,hl]at hA;simp[Ib,hC,hF,gy,hR,hA,aJ,aD,sub,aE,back,aX,bg,ak,cut,dw,dx,eJ,aq,aZ,az,hl,V.aY,eP,fQ,Rp.row,S.put,gZ,eG,GK,gV]
 .have gF:(dX k sz ot ⟨own,cnt,time,hn,H,qn,Q,bn,B,cn,C,cl,val⟩ != 0)=true:=by simpa using hc
  simp[Ib,hC,hc,gF,pP,S0]
def wB(z:Z)(sz:Int)(qn:Bool)(Q':List W)(cn:Bool)(C:List K):List O :=
 match qn,cn with
 |true,true=>[bN z sz (qD false Q') (.sl 2 true []) (.sl 5 true [])]
 |true,false=>[bB z sz (.d (qD false Q')) (.aR 1 0 C.length) (.d (.sl 5 true [])),.aI 2 true (C.map K.row)]
 |false,true=>[bB z sz (.d (qD false Q')) (.d (.sl 2 true [])) (.d (.sl 5 true [])),.dead]
 |false,false=>[bB z sz (.d (qD false Q')) (.aR 2 0 C.length) (.d (.sl 5 true [])),.dead,.aI 2 true (C.map K.row)]
theorem ao4(z:Z)(sz:Int)(qn:Bool)(Q:List W)(cn:Bool)(C:List K)(t op v p n x:Int)(h1:qn=true->Q=[])(h3:Q.length<=1000000):
  ev P (.call LI [.loc 0 0 0,.d (.ag [I' t,I' op,I' v,I' p,I' n]),.d (I' x)] (dh z sz qn Q cn C))=some (.val (.tu []) (wB z sz qn (Q++[⟨t,op,x,p,-1⟩]) cn C)):=by
 rw[au aek rfl];cases qn
 .have hr:Q.length+1<=room:=by unfold room;omega
  cases cn<;>simp[M0,dh,wB,bN,bB,W.row,ak,cut,dw,dx,eJ,aq,az,hr,V.aY,aZ,AE,cy,bt,aX,bg]
 .have hr:1<=room:=by unfold room;omega
  obtain rfl:=h1 rfl;cases cn<;>simp[M0,dh,wB,bN,bB,W.row,ak,cut,dw,dx,eJ,aq,az,hr,V.aY,aZ,AE,cy,bt,aX,bg]
def j7(C:List K)(t:Int):Nat:=(C.takeWhile λc=>decide (c.task<t)).length
def mC(C:List K)(t:Int):List K:=C.take (j7 C t)++⟨t,true,[]⟩::C.drop (j7 C t)
def sB(z:Z)(sz:Int)(qn:Bool)(Q:List W)(cn:Bool)(C':List K):List O :=
 match qn,cn with
 |true,true=>[bB z sz (.d (.sl 5 true [])) (.aR 1 0 C'.length) (.d (.sl 5 true [])),.aI 2 true (C'.map K.row)]
 |true,false=>[bB z sz (.d (.sl 5 true [])) (.aR 2 0 C'.length) (.d (.sl 5 true [])),.dead,.aI 2 true (C'.map K.row)]
 |false,true=>[bB z sz (.aR 1 0 Q.length) (.aR 2 0 C'.length) (.d (.sl 5 true [])),.aI 5 true (Q.map W.row),.aI 2 true (C'.map K.row)]
 |false,false=>[bB z sz (.aR 1 0 Q.length) (.aR 3 0 C'.length) (.d (.sl 5 true [])),.aI 5 true (Q.map W.row),.dead,.aI 2 true (C'.map K.row)]
theorem ao5(z:Z)(sz:Int)(qn:Bool)(Q:List W)(C:List K)(t:Int)(hn:C.length<=1000000):∀(suf pre:List K),C=pre++suf ->
  ev P (.loop (if qn=true then 2 else 3) [0,1,4] Fc [(0,.loc 0 0 0),(1,.d (I' t)),(4,.d (I' pre.length))] (dh z sz qn Q false C)) =
   some (.out (.exit 0) [(0,.loc 0 0 0),(1,.d (I' t)),(4,.d (I' (pre.length+j7 suf t:Nat)))] (dh z sz qn Q false C)):=by
 intro suf;induction suf with
 |nil =>
  intro pre hl
  have:C.length=pre.length:=by simp[hl]
  rw[bY]
  conv=>lhs;arg 4;unfold Fc
  cases qn<;>simp[this,j7,dh,bB,ak,cut,dw,dx,aq]
 |cons c suf ih =>
  intro pre hl;have hg:C[pre.length]?=some c:=by simp[hl]
  have iK:pre.length<C.length:=by simp[hl]
  have pM:C[pre.length]=c:=by simpa[qE iK]using hg
  have hlt:(pre.length:Int)<C.length:=by omega
  have hnext:IntKind.i64.wrap ((pre.length:Int)+1)=pre.length+1:=wrap_i64 (by omega) (by omega)
  have bE:=ih (pre++[c]) (by simp[hl])
  rw[bY]
  conv=>lhs;arg 4;unfold Fc
  by_cases hc:c.task<t
  .have e:j7 (c::suf) t=j7 suf t+1:=by simp[j7,hc]
   rw[e];have e2:pre.length+(j7 suf t+1)=(pre++[c]).length+j7 suf t:=by simp;omega
   rw[e2,<-bE];generalize hR:ev P (.loop (if qn=true then 2 else 3) [0,1,4] Fc [(0,.loc 0 0 0),(1,.d (I' t)),(4,.d (I' (pre++[c]).length))] (dh z sz qn Q false C))=R
   cases qn;all_goals
    simp[dh,bB]at hR;simp[hlt,iK,pM,K.row,hc,hnext,dh,bB,ak,cut,dw,dx,aq,hR]
  .have e:j7 (c::suf) t=0:=by simp[j7,hc]
   rw[e];cases qn<;>simp[hlt,iK,pM,K.row,hc,hnext,dh,bB,ak,cut,dw,dx,aq]
theorem ao6(C:List K)(t:Int):j7 C t<=C.length:=(XN _).length_le
theorem ao7(z:Z)(sz:Int)(qn:Bool)(Q:List W)(cn:Bool)(C:List K)(t:Int)(h2:cn=true->C=[])(hn:C.length<=100000):
  ev P (.call Rx [.loc 0 0 0,.d (I' t)] (dh z sz qn Q cn C))=some (.val (.tu []) (sB z sz qn Q cn (mC C t))):=by
 have hI:=CH Y9 (p:=mh 2) rfl;have hL:=ao5 z sz qn Q C t (by omega) C [] rfl
 have hb:=ao6 C t;have hlen:(mC C t).length=C.length+1:=by simp[mC];omega
 have hrow:(mC C t).map K.row=(C.map K.row).take (j7 C t)++[I' t,.sl 1 true []]::(C.map K.row).drop (j7 C t):=by simp[mC,Cn,Co,K.row]
 have rY:((C.map K.row).take (j7 C t)++[I' t,.sl 1 true []]::(C.map K.row).drop (j7 C t)).length=C.length+1:=by simp;omega
 rw[au aed rfl];cases cn
 .have hr:C.length+1<=room:=by unfold room;omega
  generalize mC C t=C' at *;generalize j7 C t=N at *;simp only[mY,oh]at hL;cases qn;all_goals
   simp[dh,bB]at hL;simp[MY,hL,hI,mh,jU,hr,hb,dh,sB,bB,bN,aD,sub,aE,back,ak,cut,dw,dx,eJ,aq,az,aZ,hlen,hrow]
 .obtain rfl:=h2 rfl
  have hr:1<=room:=by unfold room;omega
  cases qn<;>simp[MY,Fc,bY,hI,mh,jU,hr,dh,sB,bB,bN,aD,sub,aE,back,ak,cut,dw,dx,eJ,aq,az,mC,j7,K.row]
@[simp] theorem cE.eta(w:cE):cE.mk w.task w.op w.value=w:=rfl
theorem ao8{f:Nat}{first caps:List D}{p:cE->Bool}(nl:Bool)(l:List cE)(hn:l.length<=1000000)
  (hp:∀a b c,ev P (.call f (first.map V.d++[.d (.ag [I' a,I' b,I' c,.b true,I' (-1)])]++caps.map V.d) [])=some (.val (.d (.b (p ⟨a,b,c⟩))) [])):
  ∀(suf pre:List cE),l=pre++suf ->
  ev P (.loop 0 [0,1,7,8] Nj [(0,.d (.sl 5 nl (l.map cE.row))),(1,.d (.fn f first caps)),(7,.d (I' l.length)),(8,.d (I' pre.length))] []) =
   if idx p pre.length suf = -1 then some (.out (.exit 0) [] [])else some (.out .ret [(4,.d (I' (idx p pre.length suf)))] []):=by
 intro suf;induction suf with
 |nil =>
  intro pre hl
  have:l.length=pre.length:=by simp[hl]
  rw[bY]
  conv=>lhs;arg 4;unfold Nj
  simp[this,idx]
 |cons w suf ih =>
  intro pre hl;have hg:l[pre.length]?=some w:=by simp[hl]
  have hlt:(pre.length:Int)<l.length:=by simp[hl];omega
  have hnext:IntKind.i64.wrap ((pre.length:Int)+1)=pre.length+1:=wrap_i64 (by omega) (by omega)
  have bE:=ih (pre++[w]) (by simp[hl])
  simp at bE hp;rw[bY]
  conv=>lhs;arg 4;unfold Nj
  simp[hlt,hg,cE.row,hp,oy];cases hw:p w
  .simp[idx,hw,hnext]
   exact bE
  .have:¬(pre.length:Int) = -1:=by omega
   simp[idx,hw,this]
theorem ao9{f:Nat}{first caps:List D}{p:cE->Bool}(nl:Bool)(l:List cE)(hn:l.length<=1000000)
  (hp:∀a b c,ev P (.call f (first.map V.d++[.d (.ag [I' a,I' b,I' c,.b true,I' (-1)])]++caps.map V.d) [])=some (.val (.d (.b (p ⟨a,b,c⟩))) [])):
  ev P (.call L7 [.d (.sl 5 nl (l.map cE.row)),.d (.fn f first caps)] [])=some (.val (.d (I' (idx p 0 l))) []):=by
 rw[au aeP rfl];have hl:=ao8 nl l hn hp l [] rfl;simp at hl;simp[S2,hl];by_cases hc:idx p 0 l = -1<;>simp[hc]
theorem apa(t x1 x2 x3 x4 a b c:Int):ev P (.call HU [.d (.ag [I' a,I' b,I' c,.b true,I' (-1)]),.d (.ref [I' t,I' x1,I' x2,I' x3,I' x4])] [])=some (.val (.d (.b (a==t))) []):=by
 rw[au aeQ rfl];simp[S3]
def rF(l:List cE)(t:Int):Int:=idx (λw=>w.task==t) 0 l
theorem apb(nl:Bool)(l:List cE)(t x1 x2 x3 x4:Int)(hn:l.length<=1000000):
  ev P (.call L7 [.d (kD nl l),.d (.fn HU [] [.ref [I' t,I' x1,I' x2,I' x3,I' x4]])] [])=some (.val (.d (I' (rF l t))) []):=by
 have h:=ao9 (f:=HU) (first:=[]) (caps:=[.ref [I' t,I' x1,I' x2,I' x3,I' x4]]) (p:=λw=>w.task==t) nl l hn (by intro a b c;simp[apa])
 exact h
theorem apc(q:List Int)(hn:q.length<=1000000):
  ev P (.call RH [.d (hD false q)] [])=some (.val (.d (hD false q)) []):=by
 have hr:q.length<=room:=by unfold room;omega
 rw[au aew rfl];cases q with
 |nil=>simp[Na,rU,eP,fQ,ak,cut,az]
 |cons a r =>
  simp at hr;simp[Na,rU,eP,fQ,ak,cut,hr,az,aZ]
def dR(p:Bool)(v:Int)(ok:Bool):List D:=[I' 0,I' 0,I' 0,.sl 1 true [],.sl 5 true [],.sl 1 true [],.sl 2 true [],.b false,I' 0,.b p,I' v,.b ok,.sl 5 true []]
def iu(qn:Bool)(Q:List W):Hk:=if qn=true then .w0 else .wc Q
set_option maxHeartbeats 4000000 in
theorem apd(z:Z)(sz:Int)(qn:Bool)(Q:List W)(C A B:List K)(c:K)(t op v p n x:Int)(lg:List Int)(hC:C=A++c::B)(hf:lQ C t=(A.length:Int))(ji:c.log=x::lg)
  (h1:qn=true->Q=[])(h3:Q.length<=1000)(h4:C.length<=1000)(h5:∀c∈C,(c.nl=true->c.log=[])/\c.log.length<=1000):
  ev P (.call LM [.loc 0 0 0,.d (.ag [I' t,I' op,I' v,I' p,I' n])] (dh z sz qn Q false C)) =
   some (.val (.d (.ag (dR false x true))) (pR z sz (qD (cP sz qn Q (A++⟨c.task,false,lg⟩::B)).qn (cP sz qn Q (A++⟨c.task,false,lg⟩::B)).Q) (cP sz qn Q (A++⟨c.task,false,lg⟩::B)).C (some []) (iu qn Q) (cP sz qn Q (A++⟨c.task,false,lg⟩::B)).wn)):=by
 have jH:=h5 c (by simp[hC])
 have hlen:(A++⟨c.task,false,lg⟩::B).length=C.length:=by simp[hC]
 have k8:lg.length<=1000:=by have:=jH.2;rw[ji]at this;simp at this;omega
 have gj:c.nl=false:=by
  cases h:c.nl
  .rfl
  .have:=jH.1 h;rw[ji]at this;cases this
 have hok:Ad.ok (some []) ⟨qn,Q,A++⟨c.task,false,lg⟩::B,[]⟩:=by
  refine⟨?_,?_,?_,?_,h1⟩
  .intro h;cases h
  .simp only;omega
  .intro d hd
   simp only at hd⊢;rw[dm,dD]at hd;rcases hd with hd |rfl |hd
   .have:=h5 d (by rw[hC];simp[hd])
    exact⟨this.1,by omega⟩
   .exact⟨by simp,by simp only;omega⟩
   .have:=h5 d (by rw[hC];simp[hd])
    exact⟨this.1,by omega⟩
  .simp;omega
 have hA:=Py z sz qn Q (A++⟨c.task,false,lg⟩::B) (some []) (iu qn Q) hok (by
  cases qn
  .exact .inr ⟨rfl,rfl⟩
  .exact .inl rfl)
 have hl:(cP sz qn Q (A++⟨c.task,false,lg⟩::B)).C.length=C.length:=(yU sz _ _).trans hlen;generalize cP sz qn Q (A++⟨c.task,false,lg⟩::B)=a at *;obtain⟨nW,Q',C',wn⟩:=a;simp only at hA hl⊢;have BK:∀(d0 d1 d2 d3 d4 d5 d7 d8:D),ev P (.call zx [.d (.ag [d0,d1,d2,d3,d4,d5,cD false C,d7,d8]),.d (I' t)] [])=some (.val (.d (I' A.length)) []):=by
  intro d0 d1 d2 d3 d4 d5 d7 d8;have:=IQ d0 d1 d2 d3 d4 d5 d7 d8 false C t (by omega)
  rw[hf]at this;exact this
 have bR:=apc lg (by omega)
 have mO:C.map K.row=A.map K.row++[I' c.task,.sl 1 false (bW (x::lg))]::B.map K.row:=by rw[hC];simp[K.row,gj,ji]
 have sE:=Pu (A:=A.map K.row) (B:=B.map K.row) (x:=[I' c.task,.sl 1 false (bW (x::lg))]) (n:=A.length) (by simp)
 have B5:=λy=>aoS (A:=A.map K.row) (B:=B.map K.row) (x:=[I' c.task,.sl 1 false (bW (x::lg))]) (y:=y) (n:=A.length) (by simp)
 have dQ:C.length=A.length+(B.length+1):=by rw[hC];simp
 have hlt:(A.length:Int)<A.length+(B.length+1):=by omega
 have n2:A.length<A.length+(B.length+1):=by omega
 have gV:∀r:List D,List.take (A.length+(B.length+1)) (A.map K.row++r::B.map K.row)=A.map K.row++r::B.map K.row:=λr=>gD (by simp)
 have h6:(1:Int)<=lg.length+1:=by omega
 rw[au YR rfl];simp only[bW,gm]at sE B5 mO;cases qn
 .rcases wn with _ |⟨w,wn⟩
  all_goals
   simp[pH,pR,hB,bH,fH,iu,bB,bN,hl,dQ,K.row]at hA;have ur:=BK;simp only[cD,mO]at ur;simp[Ff,dh,pR,bH,fH,iu,dR,bB,bN,ur,hA,mO,sE,B5,dQ,gV,hlt,n2,h6,hl,bR,aD,sub,aE,back,ak,cut,dw,dx,eJ,aq,aZ,az,V.aY]
 .obtain rfl:=h1 rfl
  rcases wn with _ |⟨w,wn⟩;all_goals
   simp[pH,pR,hB,bH,fH,iu,bB,bN,hl,dQ,K.row,qD]at hA;have ur:=BK;simp only[cD,mO]at ur;simp[Ff,qD,dh,pR,bH,fH,iu,dR,bB,bN,ur,hA,mO,sE,B5,dQ,gV,hlt,n2,h6,hl,bR,aD,sub,aE,back,ak,cut,dw,dx,eJ,aq,aZ,az,V.aY]
inductive Wn where
 |d(n:Bool)(l:List cE)
 |m(l:List cE)
def nB(z:Z)(sz:Int)(qn:Bool)(q:D)(C:List K):Wn->List O
 | .d n l=>if qn=true then[bB z sz (.d q) (.aR 1 0 C.length) (.d (kD n l)),.aI 2 true (C.map K.row)]else[bB z sz (.d q) (.aR 2 0 C.length) (.d (kD n l)),.dead,.aI 2 true (C.map K.row)]
 | .m l=>if qn=true then[bB z sz (.d q) (.aR 1 0 C.length) (.aR 2 0 l.length),.aI 2 true (C.map K.row),.aI 5 true (l.map cE.row)]else[bB z sz (.d q) (.aR 2 0 C.length) (.aR 3 0 l.length),.dead,.aI 2 true (C.map K.row),.aI 5 true (l.map cE.row)]
def mW:List cE->Wn
 | []=>.d true []
 |a::l=>.m (a::l)
def got(l:List cE)(t:Int):Option (Int×List cE):=if rF l t<0 then none else(l[(rF l t).toNat]?).map λw=>(w.value,l.eraseIdx (rF l t).toNat)
set_option maxHeartbeats 4000000 in
theorem ape(z:Z)(sz:Int)(qn:Bool)(Q:List W)(C A B:List K)(c:K)(t op v p n:Int)(hC:C=A++c::B)(hf:lQ C t=(A.length:Int))(ji:c.log=[])
  (h1:qn=true->Q=[])(h3:Q.length<=1000)(h4:C.length<=1000)(h5:∀c∈C,(c.nl=true->c.log=[])/\c.log.length<=1000)(yW:(cP sz false (Q++[⟨t,op,0,p,-1⟩]) C).wn.length<=100000):
  ev P (.call LM [.loc 0 0 0,.d (.ag [I' t,I' op,I' v,I' p,I' n])] (dh z sz qn Q false C)) =
   some (match got (cP sz false (Q++[⟨t,op,0,p,-1⟩]) C).wn t with
    |none=>.val (.d (.ag (dR true 0 false))) (nB z sz qn (qD (cP sz false (Q++[⟨t,op,0,p,-1⟩]) C).qn (cP sz false (Q++[⟨t,op,0,p,-1⟩]) C).Q) (cP sz false (Q++[⟨t,op,0,p,-1⟩]) C).C (mW (cP sz false (Q++[⟨t,op,0,p,-1⟩]) C).wn))
    |some x=>.val (.d (.ag (dR false x.1 true))) (nB z sz qn (qD (cP sz false (Q++[⟨t,op,0,p,-1⟩]) C).qn (cP sz false (Q++[⟨t,op,0,p,-1⟩]) C).Q) (cP sz false (Q++[⟨t,op,0,p,-1⟩]) C).C (.d false x.2))):=by
 have hw:=ao4 z sz qn Q false C t op v p n 0 h1 (by omega)
 have hok:Ad.ok (some []) ⟨false,Q++[⟨t,op,0,p,-1⟩],C,[]⟩:=by
  refine⟨?_,?_,?_,?_,?_⟩
  .intro h;cases h
  .simp only;omega
  .intro d hd
   have:=h5 d hd;refine⟨this.1,?_⟩;simp;omega
  .simp;omega
  .intro h;cases h
 have hA:=Py z sz false (Q++[⟨t,op,0,p,-1⟩]) C (some []) .w0 hok (.inl rfl);have hl:(cP sz false (Q++[⟨t,op,0,p,-1⟩]) C).C.length=C.length:=yU sz _ _;generalize cP sz false (Q++[⟨t,op,0,p,-1⟩]) C=a at *;obtain⟨nW,Q',C',wn⟩:=a;simp only at hA hl yW⊢;have BK:∀(d0 d1 d2 d3 d4 d5 d7 d8:D),ev P (.call zx [.d (.ag [d0,d1,d2,d3,d4,d5,cD false C,d7,d8]),.d (I' t)] [])=some (.val (.d (I' A.length)) []):=by
  intro d0 d1 d2 d3 d4 d5 d7 d8;have:=IQ d0 d1 d2 d3 d4 d5 d7 d8 false C t (by omega)
  rw[hf]at this;exact this
 have mO:C.map K.row=A.map K.row++[I' c.task,.sl 1 c.nl []]::B.map K.row:=by rw[hC];simp[K.row,ji]
 have sE:=Pu (A:=A.map K.row) (B:=B.map K.row) (x:=[I' c.task,.sl 1 c.nl []]) (n:=A.length) (by simp)
 have dQ:C.length=A.length+(B.length+1):=by rw[hC];simp
 have hlt:(A.length:Int)<A.length+(B.length+1):=by omega
 have n2:A.length<A.length+(B.length+1):=by omega
 have gV:∀r:List D,List.take (A.length+(B.length+1)) (A.map K.row++r::B.map K.row)=A.map K.row++r::B.map K.row:=λr=>gD (by simp)
 have ur:=BK;simp only[cD,mO]at ur;have hk:=λnl=>apb nl wn t op v p n (by omega)
 rw[au YR rfl];by_cases hg:rF wn t<0
 .have hgt:got wn t=none:=by simp[got,hg]
  rw[hgt];cases qn;all_goals
   rcases wn with _ |⟨w,wn⟩;all_goals
    simp[dh,wB,bB,bN,dQ,mO]at hw;simp[pH,pR,hB,bH,fH,bB,bN,hl,dQ,mO]at hA;have qv:=hk false;have hk1:=hk true;simp only[kD,gm,gQ]at qv hk1;simp[Ff,dh,nB,mW,dR,bB,bN,ur,hw,hA,mO,sE,dQ,gV,hlt,n2,hl,qv,hk1,hg,aD,sub,aE,back,ak,cut,dw,dx,eJ,aq,aZ,az,V.aY]
 .rcases Db (p:=λw:cE=>w.task==t) wn 0 with⟨g1,_⟩ |⟨i,w,g1,g2,_⟩
  .exfalso
   have:rF wn t = -1:=g1
   omega
  .have B7:rF wn t=(i:Int):=by simpa[rF]using g1
   obtain⟨W1,W2,hW,hWl⟩:∃W1 W2,wn=W1++w::W2/\W1.length=i:=by
    obtain⟨hlt,he⟩:=sF.1 g2;refine⟨wn.take i,wn.drop (i+1),?_,by simp;omega⟩
    rw[<-he];simp
   subst hWl;have hgt:got wn t=some (w.value,W1++W2):=by
    have e:((W1.length:Int)).toNat=W1.length:=by omega
    simp only[got,B7,e,g2,tA];rw[aG (by omega),hW,Es (by omega)]
    simp
   rw[hgt];rw[B7]at hk;have n3:¬((W1.length:Int)<0):=by omega
   have hW0:wn=W1++w::W2:=hW;have hwn:∃x y,wn=x::y:=by
    cases W1 with
    |nil=>exact⟨w,W2,hW⟩
    |cons a r=>exact⟨a,r++w::W2,hW⟩
   have jx:w.row=[I' w.task,I' w.op,I' w.value,.b true,I' (-1)]:=rfl;have hmr:wn.map cE.row=W1.map cE.row++w.row::W2.map cE.row:=by rw[hW];simp
   have hD:=aoZ (W1.map cE.row) (W2.map cE.row) w.row (by rw[hW]at yW;simp at yW⊢;omega)
   have apf:=Pu (A:=W1.map cE.row) (B:=W2.map cE.row) (x:=w.row) (n:=W1.length) (by simp)
   have apg:wn.length=W1.length+(W2.length+1):=by rw[hW];simp
   have hw1:IntKind.i64.wrap ((W1.length:Int)+1)=W1.length+1:=wrap_i64 (by omega) (by omega)
   have aph:∀r:List D,List.take (W1.length+(W2.length+1)) (W1.map cE.row++r::W2.map cE.row)=W1.map cE.row++r::W2.map cE.row:=λr=>gD (by simp)
   have api:∀r:List D,List.take (W1.length+W2.length) (W1.map cE.row++(W2.map cE.row++[r]))=W1.map cE.row++W2.map cE.row:=λr=>by
    have:W1.map cE.row++(W2.map cE.row++[r])=(W1.map cE.row++W2.map cE.row)++[r]:=by simp
    rw[this];exact uA (by simp)
   have apj:(W1.length:Int)<W1.length+(W2.length+1):=by omega
   have n4:W1.length<W1.length+(W2.length+1):=by omega
   have qv:=hk false;simp only[kD,hmr]at qv;have J1:∀(x:List O),bH z sz (qD nW Q') C' 0 (some []) .w0 wn++fH .w0 wn=[bB z sz (.d (qD nW Q')) (.aR 1 0 C'.length) (.aR 2 0 wn.length),.aI 2 true (C'.map K.row),.aI 5 true (wn.map cE.row)]:=by
    intro _;obtain⟨x,y,hxy⟩:=hwn;rw[hxy];simp[bH,fH]
   unfold pR at hA;rw[J1 []]at hA;rw[hmr,apg]at hA;simp[jx]at hD apf qv;cases qn;all_goals
    simp[dh,wB,bB,bN,dQ,mO]at hw;simp[pH,hB,bB,bN,hl,dQ,mO,jx]at hA;simp[Ff,dh,nB,dR,bB,bN,ur,hw,hA,mO,sE,dQ,gV,hlt,n2,hl,qv,n3,hD,apf,hw1,aph,api,apj,n4,jx,aD,sub,aE,back,bt,aX,bg,ak,cut,dw,dx,eJ,aq,aZ,az,V.aY]
abbrev up(h:List O):List O:=h
theorem apl(z:Z)(sz:Int)(qn:Bool)(Q:List W)(cn:Bool)(C:List K)(t op v p n:Int)(h1:qn=true->Q=[])(h2:cn=true->C=[])(hn:C.length<=100000):
  ev P (.call Rw [.rf [.loc 0 0 0],.d (.ref [I' t,I' op,I' v,I' p,I' n])] (up (dh z sz qn Q cn C)))=some (.val (.d (.ag (dR false 0 true))) (up (sB z sz qn Q cn (mC C t)))):=by
 have hS:=ao7 z sz qn Q cn C t h2 hn;rw[au aec rfl];cases qn<;>cases cn;all_goals
  simp[dh,sB,bB,bN]at hS;simp[SB,up,dh,sB,bB,bN,hS,dR,aD,sub,aE,back,ak,cut,dw,dx,eJ,bX,aq,aZ,az]
set_option maxHeartbeats 4000000 in
theorem apm(z:Z)(sz:Int)(qn:Bool)(Q:List W)(C A B:List K)(c:K)(t op v p n:Int)(hC:C=A++c::B)(hf:lQ C t=(A.length:Int))
  (h1:qn=true->Q=[])(h3:Q.length<=1000)(h4:C.length<=1000)(h5:∀c∈C,(c.nl=true->c.log=[])/\c.log.length<=1000):
  ev P (.call Rz [.rf [.loc 0 0 0],.d (.ref [I' t,I' op,I' v,I' p,I' n])] (up (dh z sz qn Q false C))) =
   some (.val (.d (.ag (dR false 0 true))) (up (pR z sz (qD (cP sz qn Q (A++B)).qn (cP sz qn Q (A++B)).Q) (cP sz qn Q (A++B)).C (some [[I' 0,.sl 1 true []]]) (iu qn Q) (cP sz qn Q (A++B)).wn))):=by
 have dQ:C.length=A.length+(B.length+1):=by rw[hC];simp
 have hlen:(A++B).length=A.length+B.length:=by simp
 have hok:Ad.ok (some [[I' 0,.sl 1 true []]]) ⟨qn,Q,A++B,[]⟩:=by
  refine⟨?_,?_,?_,?_,h1⟩
  .intro h;cases h
  .simp only;omega
  .intro d hd
   simp only at hd⊢;have:=h5 d (by rw[hC];rw[dm]at hd;rcases hd with hd |hd<;>simp[hd])
   exact⟨this.1,by omega⟩
  .simp;omega
 have hA:=Py z sz qn Q (A++B) (some [[I' 0,.sl 1 true []]]) (iu qn Q) hok (by
  cases qn
  .exact .inr ⟨rfl,rfl⟩
  .exact .inl rfl)
 have hl:(cP sz qn Q (A++B)).C.length=A.length+B.length:=(yU sz _ _).trans hlen;generalize cP sz qn Q (A++B)=a at *;obtain⟨nW,Q',C',wn⟩:=a;simp only at hA hl⊢;have BK:∀(d0 d1 d2 d3 d4 d5 d7 d8:D),ev P (.call zx [.d (.ag [d0,d1,d2,d3,d4,d5,cD false C,d7,d8]),.d (I' t)] [])=some (.val (.d (I' A.length)) []):=by
  intro d0 d1 d2 d3 d4 d5 d7 d8;have:=IQ d0 d1 d2 d3 d4 d5 d7 d8 false C t (by omega)
  rw[hf]at this;exact this
 have mO:C.map K.row=A.map K.row++c.row::B.map K.row:=by rw[hC];simp
 have hD:=aoY (A.map K.row) (B.map K.row) c.row (by simp;omega)
 have gV:∀r:List D,List.take (A.length+(B.length+1)) (A.map K.row++r::B.map K.row)=A.map K.row++r::B.map K.row:=λr=>gD (by simp)
 have hw1:IntKind.i64.wrap ((A.length:Int)+1)=A.length+1:=wrap_i64 (by omega) (by omega)
 have ur:=BK;simp only[cD,mO]at ur;rw[au aee rfl];simp at hD;cases qn
 .rcases wn with _ |⟨w,wn⟩
  all_goals
   simp[pH,pR,hB,bH,fH,iu,bB,bN,hl,qD]at hA;simp[MZ,up,dh,pR,bH,fH,iu,bB,bN,ur,hD,hA,mO,dQ,gV,hw1,hl,dR,aD,sub,aE,back,ak,cut,dw,dx,eJ,bX,aq,aZ,az,V.aY,qD]
 .obtain rfl:=h1 rfl
  rcases wn with _ |⟨w,wn⟩;all_goals
   simp[pH,pR,hB,bH,fH,iu,bB,bN,hl,qD]at hA;simp[MZ,up,dh,pR,bH,fH,iu,bB,bN,ur,hD,hA,mO,dQ,gV,hw1,hl,dR,aD,sub,aE,back,ak,cut,dw,dx,eJ,bX,aq,aZ,az,V.aY,qD]
theorem apn(a b c d e:Int):ev P (.call HM [.d (.ag [I' a,I' b,I' c,I' d,I' e])] [])=some (.val (.d (.b (b==68))) []):=by
 rw[au aei rfl];simp[SD]
def busy(Q:List W):Bool:=Q.any λw=>w.op==68
theorem apo(nl:Bool)(l:List W)(hn:l.length<=1000000):
  ev P (.call qL [.d (qD nl l),.d (.fn HM [] [])] [])=some (.val (.d (.b (busy l))) []):=by
 have h:=wq (f:=HM) (first:=[]) (caps:=[]) (p:=λw=>w.op==68) nl l hn (by intro a b c d e;simp[apn])
 exact h
set_option maxHeartbeats 4000000 in
theorem apq(z:Z)(sz:Int)(qn:Bool)(Q:List W)(cn:Bool)(C:List K)(t op v p n:Int)
  (h1:qn=true->Q=[])(h2:cn=true->C=[])(h3:Q.length<=1000)(h4:C.length<=1000)(h5:∀c∈C,(c.nl=true->c.log=[])/\c.log.length<=1000):
  ev P (.call RA [.rf [.loc 0 0 0],.d (.ref [I' t,I' op,I' v,I' p,I' n])] (up (dh z sz qn Q cn C))) =
   some (if(busy Q||fl sz C Q)=true then .val (.d (.ag (dR true 0 false))) (up (wB z sz qn (Q++[⟨t,op,v,p,-1⟩]) cn C))
    else .val (.d (.ag (dR false 0 true))) (up (pR z sz (qO (pO Q)) (C.map (gw Q v)) (rE cn) (iu qn Q) (pW v Q)))):=by
 have hw:=ao4 z sz qn Q cn C t op v p n v h1 (by omega)
 have uu:=apo qn Q (by omega)
 have rG:∀(d0 d1 d2 d3 d5 d7 d8:D),ev P (.call A9 [.d (I' sz),.d (.ag [d0,d1,d2,d3,qD qn Q,d5,cD cn C,d7,d8])] [])=some (.val (.d (.b (fl sz C Q))) []):=λd0 d1 d2 d3 d5 d7 d8=>NM sz d0 d1 d2 d3 d5 d7 d8 qn Q cn C (by omega) (by omega)
 have hP:=aoV z sz qn Q v C (rE cn) (iu qn Q) (by intro h;apply h2;cases cn<;>simp[rE]at h⊢) (by omega) (by omega) (λc hc=>⟨(h5 c hc).1,by have:=(h5 c hc).2;omega⟩) (by cases qn<;>simp[iu,Hk.len])
  (by intro Q0 h;cases qn<;>simp[iu]at h⊢;exact h.symm)
 have hl:(C.map (gw Q v)).length=C.length:=by simp
 generalize C.map (gw Q v)=C' at *;generalize pW v Q=wn at *;generalize pO Q=ot at *;generalize busy Q=bq at *;generalize fl sz C Q=fq at *;rw[au aeh rfl];cases bq
 .cases fq
  .cases qn
   .cases cn
    .rcases wn with _ |⟨w,wn⟩
     all_goals
      simp[pH,pR,hB,bH,fH,iu,rE,bB,bN,hl,qD]at hP;simp[uU,up,dh,pR,bH,fH,iu,rE,bB,bN,uu,rG,hP,hl,dR,aD,sub,aE,back,ak,cut,dw,dx,eJ,bX,aq,aZ,az,V.aY,qD]
    .obtain rfl:=h2 rfl
     simp only[cD,gQ]at rG;have sq:C'=[]:=xS.1 hl;subst sq;rcases wn with _ |⟨w,wn⟩;all_goals
      simp[pH,pR,hB,bH,fH,iu,rE,bB,bN,hl,qD]at hP;simp[uU,up,dh,pR,bH,fH,iu,rE,bB,bN,uu,rG,hP,hl,dR,aD,sub,aE,back,ak,cut,dw,dx,eJ,bX,aq,aZ,az,V.aY,qD]
   .obtain rfl:=h1 rfl
    simp only[qD,gQ]at uu rG;cases cn
    .rcases wn with _ |⟨w,wn⟩
     all_goals
      simp[pH,pR,hB,bH,fH,iu,rE,bB,bN,hl,qD]at hP;simp[uU,up,dh,pR,bH,fH,iu,rE,bB,bN,uu,rG,hP,hl,dR,aD,sub,aE,back,ak,cut,dw,dx,eJ,bX,aq,aZ,az,V.aY,qD]
    .obtain rfl:=h2 rfl
     simp only[cD,gQ]at rG;have sq:C'=[]:=xS.1 hl;subst sq;rcases wn with _ |⟨w,wn⟩;all_goals
      simp[pH,pR,hB,bH,fH,iu,rE,bB,bN,hl,qD]at hP;simp[uU,up,dh,pR,bH,fH,iu,rE,bB,bN,uu,rG,hP,hl,dR,aD,sub,aE,back,ak,cut,dw,dx,eJ,bX,aq,aZ,az,V.aY,qD]
  .cases qn
   .cases cn
    .skip
     simp[dh,wB,bB,bN]at hw;simp[uU,up,dh,wB,bB,bN,uu,rG,hw,dR,aD,sub,aE,back,ak,cut,dw,dx,eJ,bX,aq,aZ,az,V.aY]
    .obtain rfl:=h2 rfl
     simp only[cD,gQ]at rG;simp[dh,wB,bB,bN]at hw;simp[uU,up,dh,wB,bB,bN,uu,rG,hw,dR,aD,sub,aE,back,ak,cut,dw,dx,eJ,bX,aq,aZ,az,V.aY]
   .obtain rfl:=h1 rfl
    simp only[qD,gQ]at uu rG;cases cn
    .skip
     simp[dh,wB,bB,bN]at hw;simp[uU,up,dh,wB,bB,bN,uu,rG,hw,dR,aD,sub,aE,back,ak,cut,dw,dx,eJ,bX,aq,aZ,az,V.aY]
    .obtain rfl:=h2 rfl
     simp only[cD,gQ]at rG;simp[dh,wB,bB,bN]at hw;simp[uU,up,dh,wB,bB,bN,uu,rG,hw,dR,aD,sub,aE,back,ak,cut,dw,dx,eJ,bX,aq,aZ,az,V.aY]
 .cases qn
  .cases cn
   all_goals
    simp[dh,wB,bB,bN]at hw;simp[uU,up,dh,wB,bB,bN,uu,rG,hw,dR,aD,sub,aE,back,ak,cut,dw,dx,eJ,bX,aq,aZ,az,V.aY]
  .obtain rfl:=h1 rfl
   simp only[qD,gQ]at uu;cases cn;all_goals
    simp[dh,wB,bB,bN]at hw;simp[uU,up,dh,wB,bB,bN,uu,rG,hw,dR,aD,sub,aE,back,ak,cut,dw,dx,eJ,bX,aq,aZ,az,V.aY]
theorem apr(cs:Option (List (List D)))(sz:Int):∀(n:Nat)(a:Ad),a.ok cs->(gX sz n a).ok cs
 | 0,a,h=>h
 |n+1,a,h=>by
  unfold gX;split
  .exact h
  .rename_i hn
   rcases D5 a.Q with⟨h1,_⟩ |⟨A,B,w,hQ,hp,_⟩
   .exfalso;apply hn;left;omega
   .have e:((A.length:Int)).toNat=A.length:=by omega
    have hg:a.Q[(kB a.Q).toNat]?=some w:=by rw[hp,e,hQ];simp
    rw[hg];exact apr cs sz n _ (Ad.Wr hQ hp h)
set_option maxHeartbeats 4000000 in
theorem aps(z:Z)(sz:Int)(qn:Bool)(Q:List W)(C A B:List K)(c:K)(t op v p n x:Int)(lg:List Int)(hC:C=A++c::B)(hf:lQ C t=(A.length:Int))(ji:c.log=x::lg)
  (h1:qn=true->Q=[])(h3:Q.length<=1000)(h4:C.length<=1000)(h5:∀c∈C,(c.nl=true->c.log=[])/\c.log.length<=1000):
  ev P (.call LL [.rf [.loc 0 0 0],.d (.ref [I' t,I' op,I' v,I' p,I' n])] (up (dh z sz qn Q false C))) =
   some (.val (.d (.ag (dR false x true))) (up (pR z sz (qD (cP sz qn Q (A++⟨c.task,false,lg⟩::B)).qn (cP sz qn Q (A++⟨c.task,false,lg⟩::B)).Q) (cP sz qn Q (A++⟨c.task,false,lg⟩::B)).C (some []) (iu qn Q) (cP sz qn Q (A++⟨c.task,false,lg⟩::B)).wn))):=by
 have hN:=apd z sz qn Q C A B c t op v p n x lg hC hf ji h1 h3 h4 h5;generalize cP sz qn Q (A++⟨c.task,false,lg⟩::B)=a at *;obtain⟨nW,Q',C',wn⟩:=a;simp only at hN⊢;rw[au YQ rfl];cases qn<;>rcases wn with _ |⟨w,wn⟩;all_goals
  simp[dh,pR,bH,fH,iu,bB,bN,dR]at hN;simp[Io,up,dh,pR,bH,fH,iu,bB,bN,hN,dR,aD,sub,aE,back,ak,cut,dw,dx,eJ,bX,aq,aZ,az,V.aY]
set_option maxHeartbeats 4000000 in
theorem apt(z:Z)(sz:Int)(qn:Bool)(Q:List W)(C A B:List K)(c:K)(t op v p n:Int)(hC:C=A++c::B)(hf:lQ C t=(A.length:Int))(ji:c.log=[])
  (h1:qn=true->Q=[])(h3:Q.length<=1000)(h4:C.length<=1000)(h5:∀c∈C,(c.nl=true->c.log=[])/\c.log.length<=1000)(yW:(cP sz false (Q++[⟨t,op,0,p,-1⟩]) C).wn.length<=100000):
  ev P (.call LL [.rf [.loc 0 0 0],.d (.ref [I' t,I' op,I' v,I' p,I' n])] (up (dh z sz qn Q false C))) =
   some (match got (cP sz false (Q++[⟨t,op,0,p,-1⟩]) C).wn t with
    |none=>.val (.d (.ag (dR true 0 false))) (up (nB z sz qn (qD (cP sz false (Q++[⟨t,op,0,p,-1⟩]) C).qn (cP sz false (Q++[⟨t,op,0,p,-1⟩]) C).Q) (cP sz false (Q++[⟨t,op,0,p,-1⟩]) C).C (mW (cP sz false (Q++[⟨t,op,0,p,-1⟩]) C).wn)))
    |some x=>.val (.d (.ag (dR false x.1 true))) (up (nB z sz qn (qD (cP sz false (Q++[⟨t,op,0,p,-1⟩]) C).qn (cP sz false (Q++[⟨t,op,0,p,-1⟩]) C).Q) (cP sz false (Q++[⟨t,op,0,p,-1⟩]) C).C (.d false x.2)))):=by
 have hN:=ape z sz qn Q C A B c t op v p n hC hf ji h1 h3 h4 h5 yW;generalize cP sz false (Q++[⟨t,op,0,p,-1⟩]) C=a at *;obtain⟨nW,Q',C',wn⟩:=a;simp only at hN⊢;rw[au YQ rfl];cases hg:got wn t with
 |none =>
  rw[hg]at hN;cases qn<;>rcases wn with _ |⟨w,wn⟩;all_goals
   simp[dh,nB,mW,bB,bN,dR]at hN;simp[Io,up,dh,nB,mW,bB,bN,hN,dR,aD,sub,aE,back,ak,cut,dw,dx,eJ,bX,aq,aZ,az,V.aY]
 |some x =>
  rw[hg]at hN;cases qn;all_goals
   simp[dh,nB,mW,bB,bN,dR]at hN;simp[Io,up,dh,nB,mW,bB,bN,hN,dR,aD,sub,aE,back,ak,cut,dw,dx,eJ,bX,aq,aZ,az,V.aY]
def del(C:List K)(t:Int):List K:=C.eraseIdx (lQ C t).toNat
def ap(k sz ot:Int)(s:S)(t op v p n:Int):Rp×Int :=
 if dX k sz ot s≠0 then(pP,1)else if jI s t op v p n≠0 then(pP,jI s t op v p n)else
 if op=69 then(⟨{s with cn:=false,C:=mC s.C t},false,0,true,true,[]⟩,0)else
 if op=71 then
  let a:=cP sz s.qn s.Q (del s.C t)
  (⟨s.put a,false,0,true,decide (a.wn=[]),a.wn⟩,0)else
 if op=68 then
  if(busy s.Q||fl sz s.C s.Q)=true then(⟨{s with qn:=false,Q:=s.Q++[⟨t,op,v,p,-1⟩]},true,0,false,true,[]⟩,0)
  else(⟨{s with qn:=decide (pO s.Q=[]),Q:=pO s.Q,C:=s.C.map (gw s.Q v)},false,0,true,decide (pW v s.Q=[]),pW v s.Q⟩,0)
 else
  match mI s.C t with
  |none=>(pP,0)
  |some c =>
   match c.log with
   |x::lg =>
    let a:=cP sz s.qn s.Q (s.C.set (lQ s.C t).toNat ⟨c.task,false,lg⟩)
    (⟨s.put a,false,x,true,decide (a.wn=[]),a.wn⟩,0)
   | [] =>
    let a:=cP sz false (s.Q++[⟨t,op,0,p,-1⟩]) s.C
    match got a.wn t with
    |none=>(⟨s.put a,true,0,false,decide (a.wn=[]),a.wn⟩,0)
    |some x=>(⟨s.put a,false,x.1,true,false,x.2⟩,0)
theorem Pm(nm:D)(k sz ot:Int)(s:S)(hs:s.wz)(t op v p n:Int)(h:dX k sz ot s≠0\/jI s t op v p n≠0):
  ev P (.call uN [.d (.ag [nm,I' k,I' sz,I' ot]),.d (.ag s.row),.d (.ag [I' t,I' op,I' v,I' p,I' n])] [])=some (.val (.tu [.d (.ag (ap k sz ot s t op v p n).1.row),.d (I' (ap k sz ot s t op v p n).2)]) []):=by
 have hC:=oA nm k sz ot s hs.sm;have hE:=J8 s hs.sm t op v p n;unfold ap;rw[au Fv rfl];by_cases hc:dX k sz ot s=0
 .have h2:jI s t op v p n≠0:=by
   rcases h with h |h
   .exact absurd hc h
   .exact h
  generalize jI s t op v p n=e at *;have h3:(e != 0)=true:=by simpa using h2
  rw[hc]at hC⊢;simp[nK,hC,hE,h2,h3,pP,S0]
 .have gF:(dX k sz ot s != 0)=true:=by simpa using hc
  simp[nK,hC,hc,gF,pP,S0]
set_option maxHeartbeats 4000000 in
theorem apu(nm:D)(k sz ot:Int)(s:S)(hs:s.wz)(t v p n:Int)(hc:dX k sz ot s=0)(he:jI s t 69 v p n=0):
  ev P (.call uN [.d (.ag [nm,I' k,I' sz,I' ot]),.d (.ag s.row),.d (.ag [I' t,I' 69,I' v,I' p,I' n])] [])=some (.val (.tu [.d (.ag (ap k sz ot s t 69 v p n).1.row),.d (I' (ap k sz ot s t 69 v p n).2)]) []):=by
 have hC:=oA nm k sz ot s hs.sm;have hE:=J8 s hs.sm t 69 v p n;rw[hc]at hC;rw[he]at hE;have e:ap k sz ot s t 69 v p n=(⟨{s with cn:=false,C:=mC s.C t},false,0,true,true,[]⟩,0):=by simp[ap,hc,he]
 rw[e];have gy:=J' s.z nm (I' k) (I' ot) sz s.qn s.Q s.cn s.C hs.qn hs.cn (by have:=hs.q;omega) (by have:=hs.c;omega)
 have hO:=apl s.z sz s.qn s.Q s.cn s.C t 69 v p n hs.qn hs.cn (by have:=hs.c;omega)
 obtain⟨own,cnt,time,hn,H,qn,Q,bn,B,cn,C,cl,val⟩:=s;simp only at hC hE gy hO hs⊢;generalize mC C t=C' at *;rw[au Fv rfl];cases qn
 .cases cn
  all_goals
   simp[dh,bB,bN]at gy;simp[dh,sB,bB,bN,dR,up]at hO;simp[nK,hC,hE,gy,hO,aJ,aD,sub,aE,back,aX,bg,ak,cut,dw,dx,eJ,bX,aq,aZ,az,V.aY,eP,fQ,Rp.row,S.put,gZ,eG]
 .obtain rfl:=hs.qn rfl
  cases cn;all_goals
   simp[dh,bB,bN]at gy;simp[dh,sB,bB,bN,dR,up]at hO;simp[nK,hC,hE,gy,hO,aJ,aD,sub,aE,back,aX,bg,ak,cut,dw,dx,eJ,bX,aq,aZ,az,V.aY,eP,fQ,Rp.row,S.put,gZ,eG]
theorem GL{C:List K}{t:Int}(h:0<=lQ C t):∃A c B,C=A++c::B/\lQ C t=(A.length:Int)/\mI C t=some c:=by
 rcases TK C t with⟨h1,_⟩ |⟨i,c,h1,h2,h3⟩
 .omega
 .obtain⟨hlt,he⟩:=sF.1 h2
  have hl:(C.take i).length=i:=by simp;omega
  exact⟨C.take i,c,C.drop (i+1),by rw[<-he];simp,by rw[hl];exact h1,h3⟩
theorem GM{s:S}{t op v p n:Int}(h:jI s t op v p n=0)(ho:op=71\/op=70):0<=lQ s.C t:=by
 unfold jI at h;split at h
 .cases h
 .split at h
  .cases h
  .split at h
   .cases h
   .split at h
    .cases h
    .split at h
     .cases h
     .split at h
      .cases h
      .rename_i h6
       rcases ho with rfl |rfl<;>simp at h6<;>exact h6
theorem Ws{s:S}{t op v p n:Int}(h:jI s t op v p n=0):op=68\/op=69\/op=70\/op=71:=by
 unfold jI at h;split at h
 .cases h
 .split at h
  .cases h
  .rename_i h2
   simp at h2;omega
set_option maxHeartbeats 4000000 in
theorem apv(nm:D)(k sz ot:Int)(s:S)(hs:s.wz)(t v p n:Int)(hc:dX k sz ot s=0)(he:jI s t 71 v p n=0):
  ev P (.call uN [.d (.ag [nm,I' k,I' sz,I' ot]),.d (.ag s.row),.d (.ag [I' t,I' 71,I' v,I' p,I' n])] [])=some (.val (.tu [.d (.ag (ap k sz ot s t 71 v p n).1.row),.d (I' (ap k sz ot s t 71 v p n).2)]) []):=by
 have hC:=oA nm k sz ot s hs.sm;have hE:=J8 s hs.sm t 71 v p n;rw[hc]at hC;rw[he]at hE;obtain⟨A,c,B,hS,hf,_⟩:=GL (GM he (.inl rfl));have Kc:del s.C t=A++B:=by
  have e:((A.length:Int)).toNat=A.length:=by omega
  unfold del;rw[hf,e,hS,Es (by omega)]
  simp
 have e:ap k sz ot s t 71 v p n=(⟨s.put (cP sz s.qn s.Q (A++B)),false,0,true,decide ((cP sz s.qn s.Q (A++B)).wn=[]),(cP sz s.qn s.Q (A++B)).wn⟩,0):=by simp[ap,hc,he,Kc]
 rw[e];have gy:=J' s.z nm (I' k) (I' ot) sz s.qn s.Q s.cn s.C hs.qn hs.cn (by have:=hs.q;omega) (by have:=hs.c;omega)
 have hO:=apm s.z sz s.qn s.Q s.C A B c t 71 v p n hS hf hs.qn hs.q hs.c hs.l;have hl:(cP sz s.qn s.Q (A++B)).C.length=A.length+B.length:=(yU sz _ _).trans (by simp)
 have rz:s.cn=false:=by
  cases h:s.cn
  .rfl
  .have:=hs.cn h;rw[hS]at this;simp at this
 generalize cP sz s.qn s.Q (A++B)=a at *;obtain⟨own,cnt,time,hn,H,qn,Q,bn,B',cn,C,cl,val⟩:=s;obtain⟨nW,Q',C',wn⟩:=a;simp only at hC hE gy hO hs hl rz hS⊢;subst rz;have gV:∀r:List D,List.take (A.length+B.length) (C'.map K.row++[r])=C'.map K.row:=λr=>uA (by simp[hl])
 have jZ:A.length+B.length<=C'.length+1:=by omega
 rw[au Fv rfl];cases qn
 .rcases wn with _ |⟨w,wn⟩
  all_goals
   simp[dh,bB,bN]at gy;simp[dh,pR,bH,fH,iu,bB,bN,dR,hl,up]at hO;simp[nK,hC,hE,gy,hO,aJ,aD,sub,aE,back,aX,bg,ak,cut,dw,dx,eJ,bX,aq,aZ,az,V.aY,eP,fQ,Rp.row,S.put,gZ,eG,gV,jZ]
 .obtain rfl:=hs.qn rfl
  rcases wn with _ |⟨w,wn⟩;all_goals
   simp[dh,bB,bN]at gy;simp[dh,pR,bH,fH,iu,bB,bN,dR,hl,up]at hO;simp[nK,hC,hE,gy,hO,aJ,aD,sub,aE,back,aX,bg,ak,cut,dw,dx,eJ,bX,aq,aZ,az,V.aY,eP,fQ,Rp.row,S.put,gZ,eG,gV,jZ]
set_option maxHeartbeats 4000000 in
theorem apw(nm:D)(k sz ot:Int)(s:S)(hs:s.wz)(t v p n:Int)(hc:dX k sz ot s=0)(he:jI s t 68 v p n=0):
  ev P (.call uN [.d (.ag [nm,I' k,I' sz,I' ot]),.d (.ag s.row),.d (.ag [I' t,I' 68,I' v,I' p,I' n])] [])=some (.val (.tu [.d (.ag (ap k sz ot s t 68 v p n).1.row),.d (I' (ap k sz ot s t 68 v p n).2)]) []):=by
 have hC:=oA nm k sz ot s hs.sm;have hE:=J8 s hs.sm t 68 v p n;rw[hc]at hC;rw[he]at hE;have e:ap k sz ot s t 68 v p n=if(busy s.Q||fl sz s.C s.Q)=true then(⟨{s with qn:=false,Q:=s.Q++[⟨t,68,v,p,-1⟩]},true,0,false,true,[]⟩,0)
  else(⟨{s with qn:=decide (pO s.Q=[]),Q:=pO s.Q,C:=s.C.map (gw s.Q v)},false,0,true,decide (pW v s.Q=[]),pW v s.Q⟩,0):=by simp[ap,hc,he]
 rw[e];have gy:=J' s.z nm (I' k) (I' ot) sz s.qn s.Q s.cn s.C hs.qn hs.cn (by have:=hs.q;omega) (by have:=hs.c;omega)
 have hO:=apq s.z sz s.qn s.Q s.cn s.C t 68 v p n hs.qn hs.cn hs.q hs.c hs.l;have hl:(s.C.map (gw s.Q v)).length=s.C.length:=by simp
 have GK:s.cn=true->s.C.map (gw s.Q v)=[]:=λh=>by rw[hs.cn h];rfl
 generalize s.C.map (gw s.Q v)=C' at *;generalize pW v s.Q=wn at *;generalize pO s.Q=ot' at *;generalize (busy s.Q||fl sz s.C s.Q)=bf at *;obtain⟨own,cnt,time,hn,H,qn,Q,bn,B',cn,C,cl,val⟩:=s;simp only at hC hE gy hO hs hl GK⊢;have yV:cn=true->C=[]:=hs.cn;have gV:List.take C.length (C'.map K.row)=C'.map K.row:=gD (by simp[hl])
 have jZ:C.length<=C'.length:=by omega
 rw[au Fv rfl];cases bf
 .cases qn
  .cases cn<;>rcases wn with _ |⟨w,wn⟩
   all_goals
    simp[dh,bB,bN]at gy;simp[dh,pR,bH,fH,iu,rE,bB,bN,dR,hl,qO,up]at hO;simp[nK,hC,hE,gy,hO,aJ,aD,sub,aE,back,aX,bg,ak,cut,dw,dx,eJ,bX,aq,aZ,az,V.aY,eP,fQ,Rp.row,S.put,gZ,eG,gV,GK,jZ]
  .obtain rfl:=hs.qn rfl
   cases cn<;>rcases wn with _ |⟨w,wn⟩;all_goals
    simp[dh,bB,bN]at gy;simp[dh,pR,bH,fH,iu,rE,bB,bN,dR,hl,qO,up]at hO;simp[nK,hC,hE,gy,hO,aJ,aD,sub,aE,back,aX,bg,ak,cut,dw,dx,eJ,bX,aq,aZ,az,V.aY,eP,fQ,Rp.row,S.put,gZ,eG,gV,GK,jZ]
 .cases qn
  .cases cn
   .skip
    simp[dh,bB,bN]at gy;simp[dh,wB,bB,bN,dR,up]at hO;simp[nK,hC,hE,gy,hO,aJ,aD,sub,aE,back,aX,bg,ak,cut,dw,dx,eJ,bX,aq,aZ,az,V.aY,eP,fQ,Rp.row,S.put,gZ,eG]
   .obtain rfl:=yV rfl
    simp[dh,bB,bN]at gy;simp[dh,wB,bB,bN,dR,up]at hO;simp[nK,hC,hE,gy,hO,aJ,aD,sub,aE,back,aX,bg,ak,cut,dw,dx,eJ,bX,aq,aZ,az,V.aY,eP,fQ,Rp.row,S.put,gZ,eG]
  .obtain rfl:=hs.qn rfl
   cases cn
   .skip
    simp[dh,bB,bN]at gy;simp[dh,wB,bB,bN,dR,up]at hO;simp[nK,hC,hE,gy,hO,aJ,aD,sub,aE,back,aX,bg,ak,cut,dw,dx,eJ,bX,aq,aZ,az,V.aY,eP,fQ,Rp.row,S.put,gZ,eG]
   .obtain rfl:=yV rfl
    simp[dh,bB,bN]at gy;simp[dh,wB,bB,bN,dR,up]at hO;simp[nK,hC,hE,gy,hO,aJ,aD,sub,aE,back,aX,bg,ak,cut,dw,dx,eJ,bX,aq,aZ,az,V.aY,eP,fQ,Rp.row,S.put,gZ,eG]
theorem Wt{A B:List K}{c d:K}:(A++c::B).set A.length d=A++d::B:=by simp
set_option maxHeartbeats 4000000 in
theorem apx(nm:D)(k sz ot:Int)(s:S)(hs:s.wz)(t v p n:Int)(hc:dX k sz ot s=0)(he:jI s t 70 v p n=0):
  ev P (.call uN [.d (.ag [nm,I' k,I' sz,I' ot]),.d (.ag s.row),.d (.ag [I' t,I' 70,I' v,I' p,I' n])] [])=some (.val (.tu [.d (.ag (ap k sz ot s t 70 v p n).1.row),.d (I' (ap k sz ot s t 70 v p n).2)]) []):=by
 have hC:=oA nm k sz ot s hs.sm;have hE:=J8 s hs.sm t 70 v p n;rw[hc]at hC;rw[he]at hE;obtain⟨A,c,B,hS,hf,Wu⟩:=GL (GM he (.inr rfl));have gy:=J' s.z nm (I' k) (I' ot) sz s.qn s.Q s.cn s.C hs.qn hs.cn (by have:=hs.q;omega) (by have:=hs.c;omega)
 have rz:s.cn=false:=by
  cases h:s.cn
  .rfl
  .have:=hs.cn h;rw[hS]at this;simp at this
 have eN:((A.length:Int)).toNat=A.length:=by omega
 cases ji:c.log with
 |cons x lg =>
  have e:ap k sz ot s t 70 v p n=(⟨s.put (cP sz s.qn s.Q (A++⟨c.task,false,lg⟩::B)),false,x,true,decide ((cP sz s.qn s.Q (A++⟨c.task,false,lg⟩::B)).wn=[]),(cP sz s.qn s.Q (A++⟨c.task,false,lg⟩::B)).wn⟩,0):=by
   have e2:s.C.set (lQ s.C t).toNat ⟨c.task,false,lg⟩=A++⟨c.task,false,lg⟩::B:=by rw[hf,eN,hS];exact Wt
   rw[<-e2];simp[ap,hc,he,Wu,ji]
  rw[e];have hO:=aps s.z sz s.qn s.Q s.C A B c t 70 v p n x lg hS hf ji hs.qn hs.q hs.c hs.l;have hl:(cP sz s.qn s.Q (A++⟨c.task,false,lg⟩::B)).C.length=A.length+(B.length+1):=(yU sz _ _).trans (by simp)
  have dQ:s.C.length=A.length+(B.length+1):=by rw[hS];simp
  generalize cP sz s.qn s.Q (A++⟨c.task,false,lg⟩::B)=a at *;clear e;obtain⟨own,cnt,time,hn,H,qn,Q,bn,B',cn,C,cl,val⟩:=s;obtain⟨nW,Q',C',wn⟩:=a;simp only at hC hE gy hO hs hl rz hS dQ⊢;subst rz;have gV:List.take C.length (C'.map K.row)=C'.map K.row:=gD (by simp;omega)
  have jZ:C.length<=C'.length:=by omega
  rw[<-dQ]at hl;rw[au Fv rfl];cases qn
  .rcases wn with _ |⟨w,wn⟩
   all_goals
    simp[dh,bB,bN]at gy;simp[dh,pR,bH,fH,iu,bB,bN,dR,hl,up]at hO;simp[nK,hC,hE,gy,hO,aJ,aD,sub,aE,back,aX,bg,ak,cut,dw,dx,eJ,bX,aq,aZ,az,V.aY,eP,fQ,Rp.row,S.put,gZ,eG,gV,jZ]
  .obtain rfl:=hs.qn rfl
   rcases wn with _ |⟨w,wn⟩;all_goals
    simp[dh,bB,bN]at gy;simp[dh,pR,bH,fH,iu,bB,bN,dR,hl,up]at hO;simp[nK,hC,hE,gy,hO,aJ,aD,sub,aE,back,aX,bg,ak,cut,dw,dx,eJ,bX,aq,aZ,az,V.aY,eP,fQ,Rp.row,S.put,gZ,eG,gV,jZ]
 |nil =>
  have hok:Ad.ok none ⟨false,s.Q++[W.mk t 70 0 p (-1)],[],[]⟩:=by
   have:=hs.q;refine⟨λ_=>rfl,by simp,by simp,by simp;omega,by simp⟩
  have A0:Ad.ok (some []) ⟨false,s.Q++[W.mk t 70 0 p (-1)],s.C,[]⟩:=by
   have hq:=hs.q;have Ar:=hs.c;refine⟨?_,?_,?_,?_,?_⟩
   .intro h;cases h
   .simp only;omega
   .intro d hd
    have:=hs.l d hd;refine⟨this.1,?_⟩;simp;omega
   .simp;omega
   .intro h;cases h
  have yW:(cP sz false (s.Q++[W.mk t 70 0 p (-1)]) s.C).wn.length<=100000:=by
   have:=(apr (some []) sz ((s.Q++[W.mk t 70 0 p (-1)]).length+1) _ A0).2.2.2.1;unfold cP;omega
  have hO:=apt s.z sz s.qn s.Q s.C A B c t 70 v p n hS hf ji hs.qn hs.q hs.c hs.l yW;have hl:(cP sz false (s.Q++[W.mk t 70 0 p (-1)]) s.C).C.length=s.C.length:=yU sz _ _;have e:ap k sz ot s t 70 v p n=match got (cP sz false (s.Q++[W.mk t 70 0 p (-1)]) s.C).wn t with
    |none=>(⟨s.put (cP sz false (s.Q++[W.mk t 70 0 p (-1)]) s.C),true,0,false,decide ((cP sz false (s.Q++[W.mk t 70 0 p (-1)]) s.C).wn=[]),(cP sz false (s.Q++[W.mk t 70 0 p (-1)]) s.C).wn⟩,0)
    |some x=>(⟨s.put (cP sz false (s.Q++[W.mk t 70 0 p (-1)]) s.C),false,x.1,true,false,x.2⟩,0):=by
   first
   |(simp[ap,hc,he,Wu,ji];done)
   |(
    simp[ap,hc,he,Wu,ji];cases got (cP sz false (s.Q++[W.mk t 70 0 p (-1)]) s.C).wn t<;>rfl)
  rw[e];clear yW hok A0;generalize cP sz false (s.Q++[W.mk t 70 0 p (-1)]) s.C=a at *;clear e;obtain⟨own,cnt,time,hn,H,qn,Q,bn,B',cn,C,cl,val⟩:=s;obtain⟨nW,Q',C',wn⟩:=a;simp only at hC hE gy hO hs hl rz hS⊢;subst rz;have gV:List.take C.length (C'.map K.row)=C'.map K.row:=gD (by simp;omega)
  have jZ:C.length<=C'.length:=by omega
  rw[au Fv rfl];cases hg:got wn t with
  |none =>
   rw[hg]at hO;cases qn
   .rcases wn with _ |⟨w,wn⟩
    all_goals
     simp[dh,bB,bN]at gy;simp[dh,nB,mW,bB,bN,dR,hl,up]at hO;simp[nK,hC,hE,gy,hO,aJ,aD,sub,aE,back,aX,bg,ak,cut,dw,dx,eJ,bX,aq,aZ,az,V.aY,eP,fQ,Rp.row,S.put,gZ,eG,gV,jZ]
   .obtain rfl:=hs.qn rfl
    rcases wn with _ |⟨w,wn⟩;all_goals
     simp[dh,bB,bN]at gy;simp[dh,nB,mW,bB,bN,dR,hl,up]at hO;simp[nK,hC,hE,gy,hO,aJ,aD,sub,aE,back,aX,bg,ak,cut,dw,dx,eJ,bX,aq,aZ,az,V.aY,eP,fQ,Rp.row,S.put,gZ,eG,gV,jZ]
  |some x =>
   rw[hg]at hO;cases qn
   .simp[dh,bB,bN]at gy
    simp[dh,nB,mW,bB,bN,dR,hl,up]at hO;simp[nK,hC,hE,gy,hO,aJ,aD,sub,aE,back,aX,bg,ak,cut,dw,dx,eJ,bX,aq,aZ,az,V.aY,eP,fQ,Rp.row,S.put,gZ,eG,gV,jZ]
   .obtain rfl:=hs.qn rfl
    simp[dh,bB,bN]at gy;simp[dh,nB,mW,bB,bN,dR,hl,up]at hO;simp[nK,hC,hE,gy,hO,aJ,aD,sub,aE,back,aX,bg,ak,cut,dw,dx,eJ,bX,aq,aZ,az,V.aY,eP,fQ,Rp.row,S.put,gZ,eG,gV,jZ]
theorem apy(nm:D)(k sz ot:Int)(s:S)(hs:s.wz)(t op v p n:Int):
  ev P (.call uN [.d (.ag [nm,I' k,I' sz,I' ot]),.d (.ag s.row),.d (.ag [I' t,I' op,I' v,I' p,I' n])] [])=some (.val (.tu [.d (.ag (ap k sz ot s t op v p n).1.row),.d (I' (ap k sz ot s t op v p n).2)]) []):=by
 by_cases hc:dX k sz ot s=0
 .by_cases he:jI s t op v p n=0
  .rcases Ws he with rfl |rfl |rfl |rfl
   .exact apw nm k sz ot s hs t v p n hc he
   .exact apu nm k sz ot s hs t v p n hc he
   .exact apx nm k sz ot s hs t v p n hc he
   .exact apv nm k sz ot s hs t v p n hc he
  .exact Pm nm k sz ot s hs t op v p n (.inr he)
 .exact Pm nm k sz ot s hs t op v p n (.inl hc)
theorem eqv{α:Type}{a b:α}(h:∀R,b=R->a=R):a=b:=h _ rfl
structure B8 where
 qn:Bool
 Q:List W
 cn:Bool
 C:List K
 wn:List cE
def B8.step(a:B8)(w:W):B8:=⟨false,pO (a.Q.filter λx=>x.task != w.task),false,a.C.map (gw (a.Q.filter λx=>x.task != w.task) w.value),a.wn++⟨w.task,w.op,0⟩::pW w.value (a.Q.filter λx=>x.task != w.task)⟩
def B8.ok(a:B8):Prop :=
 a.C.length<=100000/\(∀c∈a.C,(c.nl=true->c.log=[])/\c.log.length+a.Q.length<=100000)/\a.Q.length+a.wn.length<=90000
theorem apz{Q:List W}{A B:List W}{w:W}(hQ:Q=A++w::B):(Q.filter λx=>x.task != w.task).length<Q.length:=by
 have h1:=oM (λx:W=>x.task != w.task) A
 have h2:=oM (λx:W=>x.task != w.task) B
 rw[hQ];simp[XJ];omega
theorem B8.Wr{a:B8}{A B:List W}{w:W}(hQ:a.Q=A++w::B)(hok:a.ok):(a.step w).ok:=by
 obtain⟨hc,hC,hw⟩:=hok;have hlt:=apz hQ;unfold B8.step;generalize (a.Q.filter λx=>x.task != w.task)=Q' at *
 have hl:=GJ Q';have k8:=D7 w.value Q';refine⟨?_,?_,?_⟩
 .simp;exact hc
 .intro c jH
  simp only at jH⊢;obtain⟨c0,hc0,rfl⟩:=gY.1 jH;have:=hC c0 hc0;unfold gw;split
  .exact⟨this.1,by omega⟩
  .refine⟨by simp,?_⟩
   simp only[l6,vO];omega
 .simp only[l6,ir]
  omega
theorem wOK{t op v p n:Int}(hb:B4 t p n=false)(ho:68<=op/\op<=71)(hv:num v=true):dU ⟨t,op,v,p,-1⟩=true:=by
 unfold B4 at hb;unfold num at hv;simp at hb hv;unfold dU kR;simp;omega
theorem apA{s:S}{t op v p n:Int}(h:jI s t op v p n=0):B4 t p n=false:=by
 unfold jI at h;split at h
 .cases h
 .rename_i h2;simpa using h2
theorem Wv{s:S}{t v p n:Int}(h:jI s t 68 v p n=0):num v=true:=by
 unfold jI at h;split at h
 .cases h
 .split at h
  .cases h
  .split at h
   .cases h
   .rename_i h2
    simp at h2;exact h2
theorem apB{k sz ot:Int}{s:S}(h:dX k sz ot s=0):dN k sz ot=0/\s.good sz=true:=by
 unfold dX at h;split at h
 .rename_i h1
  refine⟨h1,?_⟩;cases hg:s.good sz
  .rw[hg]at h;simp at h
  .rfl
 .rename_i h1;exact absurd h h1
structure S.same(s s':S):Prop where
 own:s.own=s'.own
 cnt:s.cnt=s'.cnt
 time:s.time=s'.time
 H:s.H=s'.H
 Q:s.Q=s'.Q
 B:s.B=s'.B
 C:s.C=s'.C
 cl:s.cl=s'.cl
 val:s.val=s'.val
theorem S.same.refl(s:S):s.same s:=⟨rfl,rfl,rfl,rfl,rfl,rfl,rfl,rfl,rfl⟩
structure Rp.same(r r':Rp):Prop where
 st:r.st.same r'.st
 parked:r.parked=r'.parked
 value:r.value=r'.value
 ok:r.ok=r'.ok
 wn:r.wn=r'.wn
def tks(Q:List W):List Int:=Q.map (·.task)
theorem apC{A B:List W}{w:W}(h:(tks (A++w::B)).Nodup):(tks (A++B)).Nodup:=by
 have:(A++B).Sublist (A++w::B):=Hf (tj A) (Hg w B)
 exact h.sublist (this.map _)
theorem apD{Q:List W}(h:(tks Q).Nodup):(tks (pO Q)).Nodup:=h.sublist (xN.map _)
theorem Ww{A B:List W}{w:W}{t:Int}(h:w.op=68):iE (A++w::B) t 70=iE (A++B) t 70:=by
 unfold iE;simp[h]
def fits(sz:Int)(C:List K):Prop:=∀c∈C,(c.log.length:Int)<=sz
theorem apE{sz:Int}{C:List K}{Q A B:List W}{w:W}(hQ:Q=A++w::B)(eR:w.op=68)(hf:fl sz C Q=false)(h:fits sz C):fits sz (C.map (gw (A++B) w.value)):=by
 intro c hc;obtain⟨c0,hc0,rfl⟩:=gY.1 hc;unfold gw;cases hw:iE (A++B) c0.task 70
 .have h1:=h c0 hc0
  have:((c0.log.length:Int)==sz&&!iE Q c0.task 70)=false:=by
   unfold fl at hf;rw[oK]at hf;simpa using hf c0 hc0
  rw[hQ,Ww eR,hw]at this;simp at this;simp;omega
 .simp
  exact h c0 hc0
theorem apF{s:S}{t op v p n:Int}(h:jI s t op v p n=0):∀w∈s.Q,w.task≠t:=by
 unfold jI at h;split at h
 .cases h
 .split at h
  .cases h
  .split at h
   .cases h
   .split at h
    .cases h
    .rename_i h4
     intro w hw e;apply h4;exact qC.2 ⟨w,hw,by simpa using e⟩
theorem apG{Q:List W}{w:W}(h:(tks Q).Nodup)(hw:∀x∈Q,x.task≠w.task):(tks (Q++[w])).Nodup:=by
 unfold tks at *;rw[xQ,List.nodup_append];refine⟨h,by simp,?_⟩
 intro a ha b hb;simp at hb;subst hb;obtain⟨x,hx,rfl⟩:=gY.1 ha;exact hw x hx
def Ad.Pz(L M:Nat)(a:Ad):Prop:=(∀c∈a.C,(c.nl=true->c.log=[])/\c.log.length+a.Q.length<=L)/\a.Q.length+a.wn.length<=M/\(a.qn=true->a.Q=[])
theorem Ad.apH{L M:Nat}{a:Ad}{A B:List W}{w:W}(hQ:a.Q=A++w::B)(h:kB a.Q=(A.length:Int))(hok:a.Pz L M):(a.step w).Pz L M:=by
 obtain⟨hC,hw,iB⟩:=hok;have nj:Q1 a.Q=A++B:=by rw[hQ];exact D6 (by rw[<-hQ];exact h)
 have hl:=GJ (A++B);have k8:=D7 w.value (A++B);have Ka:a.Q.length=A.length+(B.length+1):=by rw[hQ];simp
 simp only[l6]at hl k8;refine⟨?_,?_,?_⟩
 .intro c jH
  simp only[Ad.step]at jH⊢;obtain⟨c0,hc0,rfl⟩:=gY.1 jH;have:=hC c0 hc0;rw[nj]at *;unfold gw;split
  .exact⟨this.1,by omega⟩
  .refine⟨by simp,?_⟩
   simp only[l6,vO];omega
 .simp only[Ad.step,l6,ir]
  rw[nj];omega
 .simp[Ad.step]
theorem apI(L M:Nat)(sz:Int):∀(n:Nat)(a:Ad),a.Pz L M->(gX sz n a).Pz L M
 | 0,a,h=>h
 |n+1,a,h=>by
  unfold gX;split
  .exact h
  .rename_i hn
   rcases D5 a.Q with⟨h1,_⟩ |⟨A,B,w,hQ,hp,_⟩
   .exfalso;apply hn;left;omega
   .have e:((A.length:Int)).toNat=A.length:=by omega
    have hg:a.Q[(kB a.Q).toNat]?=some w:=by rw[hp,e,hQ];simp
    rw[hg];exact apI L M sz n _ (Ad.apH hQ hp h)
structure S.xB(s:S)(q c l:Nat):Prop where
 h:s.H.length<=1000
 b:s.B.length<=1000
 q:s.Q.length<=q
 c:s.C.length<=c
 l:∀c∈s.C,(c.nl=true->c.log=[])/\c.log.length<=l
 qn:s.qn=true->s.Q=[]
 cn:s.cn=true->s.C=[]
theorem S.xB.wz{s:S}{q c l:Nat}(h:s.xB q c l)(h1:q<=1000)(h2:c<=1000)(h3:l<=1000):s.wz :=
 ⟨h.h,h.b,by have:=h.q;omega,by have:=h.c;omega,λc hc=>by have:=h.l c hc;exact⟨this.1,by omega⟩,h.qn,h.cn⟩
theorem S.xB.mono{s:S}{q c l q' c' l':Nat}(h:s.xB q c l)(h1:q<=q')(h2:c<=c')(h3:l<=l'):s.xB q' c' l' :=
 ⟨h.h,h.b,by have:=h.q;omega,by have:=h.c;omega,λc hc=>by have:=h.l c hc;exact⟨this.1,by omega⟩,h.qn,h.cn⟩
theorem Wx{s:S}(sz:Int)(qn:Bool)(Q:List W)(C:List K){q c l:Nat}(h1:s.H.length<=1000)(h2:s.B.length<=1000)(hq:Q.length<=q)(hc:C.length<=c)(hl:∀c∈C,(c.nl=true->c.log=[])/\c.log.length<=l)(iB:qn=true->Q=[])(rz:s.cn=true->C=[]):
  (s.put (cP sz qn Q C)).xB q c (l+q)/\(cP sz qn Q C).wn.length<=q:=by
 obtain⟨o1,o2,o3⟩:=apI (l+q) q sz (Q.length+1) ⟨qn,Q,C,[]⟩ ⟨λc hc=>by have:=hl c hc;exact⟨this.1,by simp only;omega⟩,by simp;omega,iB⟩
 have hlen:(cP sz qn Q C).C.length=C.length:=yU sz _ _;change ∀c∈(cP sz qn Q C).C,(c.nl=true->c.log=[])/\c.log.length+(cP sz qn Q C).Q.length<=l+q at o1;change(cP sz qn Q C).Q.length+(cP sz qn Q C).wn.length<=q at o2;change(cP sz qn Q C).qn=true->(cP sz qn Q C).Q=[]at o3;refine⟨⟨h1,h2,by simp only;omega,by simp only;omega,λc hc=>⟨(o1 c hc).1,by have:=(o1 c hc).2;omega⟩,o3,?_⟩,by omega⟩
 intro h;have e:=rz h
 have:(cP sz qn Q C).C.length=0:=by rw[hlen,e];rfl
 exact xS.1 this
theorem apJ{l:List cE}{t:Int}{x:Int×List cE}(h:got l t=some x):x.2.length<=l.length:=by
 unfold got at h;split at h
 .cases h
 .cases hg:l[(rF l t).toNat]? with
  |none=>rw[hg]at h;cases h
  |some w =>
   rw[hg]at h;simp at h;rw[<-h];exact(XO l _).length_le
def Rp.xB(r:Rp)(q c l:Nat):Prop:=r.st.xB q c l/\r.wn.length<=q
theorem Wy(q c l:Nat):pP.xB q c l:=by
 refine⟨⟨by simp[pP,S0],by simp[pP,S0],by simp[pP,S0],by simp[pP,S0],by simp[pP,S0],by simp[pP,S0],by simp[pP,S0]⟩,by simp[pP]⟩
theorem apK{C:List K}{t:Int}{c:K}(h:c∈mC C t):c=⟨t,true,[]⟩\/c∈C:=by
 unfold mC at h;rw[dm,dD]at h;rcases h with h |h |h
 .exact .inr (oa h)
 .exact .inl h
 .exact .inr (mV h)
theorem apL(C:List K)(t:Int):(mC C t).length=C.length+1:=by
 have:=ao6 C t;simp[mC];omega
theorem D9{C:List K}{t:Int}{c:K}(h:mI C t=some c):c∈C:=Qq h
theorem apM{k sz ot:Int}{s:S}{t op v p n:Int}{q c l:Nat}(h:s.xB q c l):(ap k sz ot s t op v p n).1.xB (q+1) (c+1) (l+q+1):=by
 unfold ap;by_cases hc:dX k sz ot s=0
 .by_cases he:jI s t op v p n=0
  .simp only[hc,he,zg,Cv,dK]
   by_cases kY:op=69
   .simp only[kY,dH]
    refine⟨⟨h.h,h.b,by have:=h.q;simp only;omega,by have:=h.c;simp only[apL];omega,?_,h.qn,by simp⟩,by simp⟩
    intro d hd;rcases apK hd with rfl |hd
    .exact⟨by simp,by simp⟩
    .have:=h.l d hd;exact⟨this.1,by omega⟩
   .simp only[kY,dK]
    by_cases mo:op=71
    .simp only[mo,dH]
     have hk:=Wx (s:=s) sz s.qn s.Q (del s.C t) h.h h.b h.q (c:=c) (l:=l) (by have:=h.c;have:=(XO s.C (lQ s.C t).toNat).length_le;unfold del;omega)
      (λd hd=>h.l d (List.mem_of_mem_eraseIdx hd)) h.qn (λe=>by unfold del;rw[h.cn e];rfl)
     exact⟨hk.1.mono (by omega) (by omega) (by omega),by have:=hk.2;simp only;omega⟩
    .simp only[mo,dK]
     by_cases eR:op=68
     .simp only[eR,dH]
      split
      .refine⟨⟨h.h,h.b,by have:=h.q;simp;omega,by have:=h.c;simp only;omega,?_,by simp,h.cn⟩,by simp⟩
       intro d hd;have:=h.l d hd;exact⟨this.1,by omega⟩
      .have h1:=D7 v s.Q
       refine⟨⟨h.h,h.b,by have:=h.q;simp only;omega,by have:=h.c;simp;omega,?_,by simp,λe=>by simp only;rw[h.cn e];rfl⟩,by have:=h.q;simp only;omega⟩
       intro d hd;obtain⟨c0,hc0,rfl⟩:=gY.1 hd;have:=h.l c0 hc0;unfold gw;split
       .exact⟨this.1,by omega⟩
       .refine⟨by simp,?_⟩
        simp only[l6,vO];omega
     .simp only[eR,dK]
      cases hk:mI s.C t with
      |none=>exact Wy _ _ _
      |some c0 =>
       simp only;have jH:=D9 hk;cases ji:c0.log with
       |cons x lg =>
        simp only;have hk:=Wx (s:=s) sz s.qn s.Q (s.C.set (lQ s.C t).toNat ⟨c0.task,false,lg⟩) h.h h.b h.q (c:=c) (l:=l) (by have:=h.c;simp;omega) (by
         intro d hd;rcases KA hd with hd |rfl
         .exact h.l d hd
         .refine⟨by simp,?_⟩
          have:=(h.l c0 jH).2;rw[ji]at this;simp at this⊢;omega) h.qn (λe=>by have:=h.cn e;rw[this]at jH;cases jH)
        exact⟨hk.1.mono (by omega) (by omega) (by omega),by have:=hk.2;simp only;omega⟩
       |nil =>
        simp only;have hk:=Wx (s:=s) sz false (s.Q++[W.mk t op 0 p (-1)]) s.C (q:=q+1) h.h h.b (by have:=h.q;simp;omega) h.c h.l (by simp) h.cn
        cases hg:got (cP sz false (s.Q++[W.mk t op 0 p (-1)]) s.C).wn t with
        |none=>exact⟨hk.1.mono (by omega) (by omega) (by omega),hk.2⟩
        |some y=>exact⟨hk.1.mono (by omega) (by omega) (by omega),by have:=apJ hg;have:=hk.2;simp only;omega⟩
  .simp[hc,he]
   exact Wy _ _ _
 .simp[hc]
  exact Wy _ _ _
def s0:S:=⟨-1,0,0,true,[],true,[],true,[],true,[],false,0⟩
abbrev tCl:=Int×Int×Int
def tCl.row(c:tCl):List D:=[I' c.1,I' c.2.1,I' c.2.2,I' 0,I' 0]
def Wz(sz:Int)(p:Option K)(C:List K):Prop:=C.Pairwise (λa b=>a.task<b.task)/\(∀c∈C,0<=c.task/\c.task<16/\(c.log.length:Int)<=sz/\c.log.all num=true)/\∀x∈p,∀c∈C,x.task<c.task
theorem apN{sz:Int}:∀(C:List K)(p:Option K),vc sz p C=true↔Wz sz p C
 | [],p=>by simp[vc,Wz]
 |c::C,p=>by
  have e1:vc sz p (c::C)=(!lR sz p c&&(c.log.all num&&vc sz (some c) C)):=rfl;have ek:lR sz p c=false↔(0<=c.task/\c.task<16/\(c.log.length:Int)<=sz/\∀x∈p,x.task<c.task):=by
   unfold lR;cases p with
   |none=>simp;omega
   |some q=>simp;omega
  rw[e1];simp only[bD,iZ,ek,apN C (some c)];unfold Wz;simp only[gE,dD,forall_eq_or_imp,Option.mem_def,gz,forall_eq'];constructor
  .rintro⟨⟨a1,a2,a3,a4⟩,b,c1,c2,c3⟩
   exact⟨⟨c3,c1⟩,⟨⟨a1,a2,a3,b⟩,c2⟩,λx hx=>⟨a4 x hx,λd hd=>by have:=a4 x hx;have:=c3 d hd;omega⟩⟩
  .rintro⟨⟨c3,c1⟩,⟨⟨a1,a2,a3,b⟩,c2⟩,h⟩
   exact⟨⟨a1,a2,a3,λx hx=>(h x hx).1⟩,b,c1,c2,c3⟩
structure iO(sz:Int)(C:List K):Prop where
 pw:C.Pairwise (λa b=>a.task<b.task)
 el:∀c∈C,0<=c.task/\c.task<16/\(c.log.length:Int)<=sz/\c.log.all num=true
theorem apO{sz:Int}{C:List K}:vc sz none C=true↔iO sz C:=by
 rw[apN];exact⟨λh=>⟨h.1,h.2.1⟩,λh=>⟨h.pw,h.el,by simp⟩⟩
structure j8(sz:Int)(Q:List W)(C:List K):Prop where
 jJ:iO sz C
 val:∀w∈Q,dU w=true
 len:Q.length<=96
 nd:(tks Q).Nodup
 cs:∀w∈Q,w.case = -1/\(w.op=70/\uX C w=true\/w.op=68)
def Gd(sz:Int)(Q:List W)(C:List K):Prop:=j8 sz Q C/\((∃w∈Q,w.op=68)->fl sz C Q=true)
theorem apP:∀(l:List W)(p:Option W),fT 1 p l=0↔∀w∈l,dU w=true
 | [],p=>by simp[fT]
 |w::l,p=>by
  unfold fT;cases hv:dU w
  .simp[hv]
  .simp[hv,apP l]
theorem xA{Q:List W}:dY Q=0↔Q.length<=96/\∀w∈Q,dU w=true:=by
 unfold dY;by_cases h:96<Q.length
 .rw[aN h]
  constructor
  .intro h;cases h
  .intro h';omega
 .rw[aG h,apP]
  constructor
  .intro h';exact⟨by omega,h'⟩
  .intro h';exact h'.2
theorem apQ{sz:Int}{C:List K}{Q:List W}:∀(suf pre:List W),tq sz C Q pre suf=true ↔
  ((∀x∈pre,∀w∈suf,x.task≠w.task)/\(tks suf).Nodup/\∀w∈suf,w.case = -1/\sS sz C Q w=true)
 | [],pre=>by simp[tq,tks]
 |w::suf,pre=>by
  have e1:tq sz C Q pre (w::suf)=(!pre.any (λx=>x.task==w.task)&&(w.case == -1&&(sS sz C Q w&&tq sz C Q (pre++[w]) suf))):=rfl
  have e2:(!pre.any (λx=>x.task==w.task))=true↔∀x∈pre,x.task≠w.task:=by simp
  rw[e1];simp only[bD,e2,apQ suf (pre++[w]),dO];have e3:(tks (w::suf)).Nodup↔(∀x∈suf,w.task≠x.task)/\(tks suf).Nodup:=by
   unfold tks;rw[gm,Ep];simp only[gY,not_exists,not_and];constructor
   .rintro⟨a,b⟩;exact⟨λx hx e=>a x hx e.symm,b⟩
   .rintro⟨a,b⟩;exact⟨λx hx e=>a x hx e.symm,b⟩
  rw[e3];simp only[dm,dD,List.not_mem_nil,or_false,forall_eq_or_imp];constructor
  .rintro⟨a,b,c,d,e,f⟩
   exact⟨λx hx=>⟨a x hx,λy hy=>d x (.inl hx) y hy⟩,⟨λy hy=>d w (.inr rfl) y hy,e⟩,⟨b,c⟩,f⟩
  .rintro⟨a,⟨b,c⟩,⟨d,e⟩,f⟩
   exact⟨λx hx=>(a x hx).1,d,e,λx hx y hy=>by
    rcases hx with hx |rfl
    .exact(a x hx).2 y hy
    .exact b y hy,c,f⟩
theorem apR{sz:Int}{s:S}:s.good sz=true↔(s.own = -1/\s.uY=false/\Gd sz s.Q s.C):=by
 unfold S.good Gd;simp only[bD,dO,iZ,apO,xA,apQ];constructor
 .rintro⟨⟨a,b,⟨c,d⟩,_,e,f⟩,g⟩
  refine⟨a,g,⟨b,d,c,e,?_⟩,?_⟩
  .intro w hw
   obtain⟨h1,h2⟩:=f w hw;refine⟨h1,?_⟩;unfold sS at h2;by_cases gL:w.op=70
   .rw[aN gL]at h2;exact .inl ⟨gL,h2⟩
   .rw[aG gL]at h2
    by_cases eR:w.op=68
    .exact .inr eR
    .rw[aG eR]at h2;cases h2
  .rintro⟨w,hw,eR⟩
   obtain⟨_,h2⟩:=f w hw;simpa[sS,eR]using h2
 .rintro⟨a,g,⟨b,d,c,e,f⟩,h⟩
  refine⟨⟨a,b,⟨c,d⟩,by simp,e,?_⟩,g⟩
  intro w hw;obtain⟨h1,h2⟩:=f w hw;refine⟨h1,?_⟩;rcases h2 with⟨gL,h2⟩ |eR
  .simp[sS,gL,h2]
  .simp[sS,eR,h ⟨w,hw,eR⟩]
theorem apS{n:Int}:num n=true↔-1099511627776<=n/\n<=1099511627776:=by
 unfold num;simp
theorem Ea{w:W}(h:dU w=true):num w.value=true:=by
 unfold dU kR at h;simp at h;rw[apS];omega
theorem PA{Q:List W}{w:W}(h:w∈pO Q):w∈Q/\w.op≠70:=by
 unfold pO at h;rw[lF]at h;simpa using h
theorem PB{sz:Int}{C:List K}{f:K->K}(h:iO sz C)(ht:∀c,(f c).task=c.task)(hf:∀c∈C,((f c).log.length:Int)<=sz/\(f c).log.all num=true):iO sz (C.map f):=by
 refine⟨?_,?_⟩
 .rw[Hq]
  exact h.pw.imp (fun{a b} hab=>by rw[ht,ht];exact hab)
 .intro c hc
  obtain⟨c0,hc0,rfl⟩:=gY.1 hc;have:=h.el c0 hc0;rw[ht];exact⟨this.1,this.2.1,hf c0 hc0⟩
theorem apT(Q:List W)(v:Int)(c:K):(gw Q v c).task=c.task:=by
 unfold gw;split<;>rfl
theorem j8.step{sz:Int}{Q A B:List W}{C:List K}{w:W}(h:j8 sz Q C)(hQ:Q=A++w::B)(eR:w.op=68)(hf:fl sz C Q=false):j8 sz (pO (A++B)) (C.map (gw (A++B) w.value)):=by
 have hfit:fits sz C:=λc hc=>(h.jJ.el c hc).2.2.1
 have hfs:=apE hQ eR hf hfit;have uw:num w.value=true:=Ea (h.val w (by rw[hQ];simp))
 have hsub:∀x∈A++B,x∈Q:=by
  intro x hx;rw[hQ];rw[dm]at hx;rcases hx with hx |hx<;>simp[hx]
 refine⟨PB h.jJ (apT _ _) ?_,?_,?_,?_,?_⟩
 .intro c hc
  refine⟨hfs _ (gY.2 ⟨c,hc,rfl⟩),?_⟩;have:=(h.jJ.el c hc).2.2.2;unfold gw;split
  .exact this
  .simp only[Kz,this,xK,uw,QB,QC]
 .intro x hx
  exact h.val x (hsub x (PA hx).1)
 .have h1:=GJ (A++B)
  have h2:=h.len;rw[hQ]at h2;simp at h1 h2;omega
 .exact apD (apC (by rw[<-hQ];exact h.nd))
 .intro x hx
  obtain⟨hx1,mj⟩:=PA hx;obtain⟨a,b⟩:=h.cs x (hsub x hx1);refine⟨a,?_⟩;rcases b with⟨b,_⟩ |b
  .exact absurd b mj
  .exact .inr b
theorem apU{Q:List W}(h:kB Q<0):¬∃w∈Q,w.op=68:=by
 have:=Zd (Q:=Q);rw[Qh h]at this;rintro⟨w,hw,eR⟩;have h2:(Q.any λw=>w.op==68)=true:=qC.2 ⟨w,hw,by simpa using eR⟩
 rw[h2]at this;cases this
theorem apW(sz:Int):∀(n:Nat)(a:Ad),a.Q.length<n->j8 sz a.Q a.C->Gd sz (gX sz n a).Q (gX sz n a).C
 | 0,a,hn,_=>by omega
 |n+1,a,hn,h=>by
  unfold gX;by_cases hc:kB a.Q<0\/fl sz a.C a.Q=true
  .rw[aN hc]
   refine⟨h,?_⟩;intro he;rcases hc with hc |hc
   .exact absurd he (apU hc)
   .exact hc
  .rw[aG hc]
   rcases D5 a.Q with⟨h1,_⟩ |⟨A,B,w,hQ,hp,eR⟩
   .exact absurd (.inl (by omega)) hc
   .have e:((A.length:Int)).toNat=A.length:=by omega
    have hg:a.Q[(kB a.Q).toNat]?=some w:=by rw[hp,e,hQ];simp
    have e1:Q1 a.Q=A++B:=by rw[hQ];exact D6 (by rw[<-hQ];exact hp)
    have hf:fl sz a.C a.Q=false:=by
     cases h:fl sz a.C a.Q
     .rfl
     .exact absurd (.inr h) hc
    rw[hg];simp only;refine apW sz n _ ?_ ?_
    .simp only[Ad.step,e1]
     have h1:=GJ (A++B);have h2:a.Q.length=A.length+(B.length+1):=by rw[hQ];simp
     simp at h1;omega
    .simp only[Ad.step,e1]
     exact h.step hQ eR hf
theorem PC{sz:Int}{qn:Bool}{Q:List W}{C:List K}(h:j8 sz Q C):Gd sz (cP sz qn Q C).Q (cP sz qn Q C).C:=apW sz _ _ (by simp) h
theorem B9{Q:List W}{t op:Int}:iE Q t op=true↔∃w∈Q,w.task=t/\w.op=op:=by
 unfold iE;rw[qC];simp
theorem WA{sz:Int}{C C':List K}{Q Q':List W}(h:fl sz C Q=true)(hC:∀c∈C,c∈C')(hQ:∀w∈Q',w.op=70->w∈Q\/∀c∈C,c.task≠w.task):fl sz C' Q'=true:=by
 unfold fl at *;rw[qC]at *;obtain⟨c,hc,h1⟩:=h;refine⟨c,hC c hc,?_⟩;simp only[bD,iZ]at h1⊢;refine⟨h1.1,?_⟩;cases hw:iE Q' c.task 70
 .rfl
 .exfalso
  obtain⟨w,Ca,ht,ho⟩:=B9.1 hw;rcases hQ w Ca ho with h2 |h2
  .have:iE Q c.task 70=true:=B9.2 ⟨w,h2,ht,ho⟩
   rw[h1.2]at this;cases this
  .exact h2 c hc ht.symm
theorem Cb{C:List K}{t:Int}{c:K}(h:mI C t=some c):c.task=t:=by
 have:=Hp h;simpa using this
theorem iO.uniq{sz:Int}{C:List K}(h:iO sz C){a b:K}(ha:a∈C)(hb:b∈C)(e:a.task=b.task):a=b:=by
 have hp:=h.pw;induction C with
 |nil=>cases ha
 |cons x C ih =>
  rw[gE]at hp;rcases dD.1 ha with ha |ha
  .rcases dD.1 hb with hb |hb
   .rw[ha,hb]
   .have:=hp.1 b hb
    rw[ha]at e;omega
  .rcases dD.1 hb with hb |hb
   .have:=hp.1 a ha
    rw[hb]at e;omega
   .exact ih ⟨hp.2,λc hc=>h.el c (by simp[hc])⟩ ha hb hp.2
theorem iO.mI{sz:Int}{C:List K}(h:iO sz C){c:K}(hc:c∈C):mI C c.task=some c:=by
 cases hk:Sp.mI C c.task with
 |none =>
  unfold Sp.mI at hk;rw[KM]at hk;have:=hk c hc;simp at this
 |some d=>rw[h.uniq (D9 hk) hc (Cb hk)]
theorem apX{sz:Int}{C:List K}(h:iO sz C){t:Int}{c:K}:Sp.mI C t=some c↔c∈C/\c.task=t:=by
 constructor
 .intro hk;exact⟨D9 hk,Cb hk⟩
 .rintro⟨h1,rfl⟩;exact h.mI h1
theorem Eb{sz:Int}{C:List K}(h:iO sz C){w:W}:uX C w=true↔(∃c∈C,c.task=w.task/\c.log=[])/\w.value=0:=by
 unfold uX;cases hk:Sp.mI C w.task with
 |none =>
  simp;rintro c hc ht;exfalso;rw[<-ht,h.mI hc]at hk;cases hk
 |some c =>
  have e:(!decide (0<c.log.length)&&w.value==0)=true↔c.log=[]/\w.value=0:=by simp
  simp only[e];constructor
  .rintro⟨a,b⟩;exact⟨⟨c,D9 hk,Cb hk,a⟩,b⟩
  .rintro⟨⟨d,hd,ht,hl⟩,b⟩
   refine⟨?_,b⟩
   have:Sp.mI C w.task=some d:=(apX h).2 ⟨hd,ht⟩
   rw[hk]at this;cases this;exact hl
def fK(s:S)(t:Int):Bool:=s.Q.any λw=>w.task==t
def rm(s:S)(t:Int):List W:=s.Q.filter λw=>w.task != t
def Kd(s:S)(q:D):List D:=[I' s.own,I' s.cnt,I' s.time,hD s.hn s.H,q,hD s.bn s.B,cD s.cn s.C,.b s.cl,I' s.val,.b false,I' 0,.b false,.sl 5 true []]
def Wd(x:Option dL)(s:S)(c t:Int):Prop :=
 if c=0/\fK s t=true then x=some (.val (.tu [.d (.ag (Kd s (qO (rm s t)))),.d (I' 0)]) [])else ∃e,e≠0/\x=some (.val (.tu [.d (.ag ny),.d (I' e)]) [])
theorem mR(s:S)(t:Int)(hn:s.Q.length<=1000000):∃i,ev P (.call jd [.d (qD s.qn s.Q),.d (I' t)] [])=some (.val (.tu [.d (I' i),.d (.b (fK s t))]) []):=by
 have h:=jW s.qn s.Q t hn;rw[wu]at h;exact⟨_,h⟩
theorem apY(nm:D)(k sz ot:Int)(s:S)(t:Int)(hn:s.Q.length<=1000000){ce:Int}(bQ:ev P (.call gn [.d (.ag [nm,I' k,I' sz,I' ot]),.d (.ag s.row)] [])=some (.val (.d (I' ce)) [])):
  Wd (ev P (.call Ls [.d (.ag [nm,I' k,I' sz,I' ot]),.d (.ag s.row),.d (I' t)] [])) s ce t:=by
 obtain⟨i,hF⟩:=mR s t hn;have hR:=yP s.qn s.Q t hn;rw[au adD rfl];unfold Wd rm;obtain⟨b,r,yX⟩:∃b r,qO (s.Q.filter λw=>w.task != t) = .sl 5 b r:=⟨_,_,rfl⟩
 rw[yX]at hR⊢;simp only[S.row]at *;by_cases hc:ce=0
 .subst hc
  cases hq:fK s t
  .rw[hq]at hF
   rw[aG (by simp)]
   exact⟨7,by decide,by simp[Ia,bQ,hF,az,av]⟩
  .rw[hq]at hF
   rw[aN ⟨rfl,rfl⟩];simp[Ia,bQ,hF,hR,Kd,az,av]
 .rw[aG (λh=>hc h.1)]
  have he:(ce != 0)=true:=by simpa using hc
  exact⟨1,by decide,by simp[Ia,bQ,he,az,av]⟩
theorem apZ(nm:D)(k sz ot:Int)(s:S)(t:Int)(hn:s.Q.length<=1000000){ce:Int}(bQ:ev P (.call ng [.d (.ag [nm,I' k,I' sz,I' ot]),.d (.ag s.row)] [])=some (.val (.d (I' ce)) [])):
  Wd (ev P (.call Lt [.d (.ag [nm,I' k,I' sz,I' ot]),.d (.ag s.row),.d (I' t)] [])) s ce t:=by
 obtain⟨i,hF⟩:=mR s t hn;have hW:ev P (.call HN [.d (.ag s.row),.d (I' t)] [])=some (.val (.d (.b (fK s t))) []):=by
  rw[au YT rfl];simp only[S.row]at *;simp[M3,hF]
 have hR:=yP s.qn s.Q t hn;rw[au adI rfl];unfold Wd rm;obtain⟨b,r,yX⟩:∃b r,qO (s.Q.filter λw=>w.task != t) = .sl 5 b r:=⟨_,_,rfl⟩
 rw[yX]at hR⊢;simp only[S.row]at *;by_cases hc:ce=0
 .subst hc
  cases hq:fK s t
  .rw[hq]at hW
   rw[aG (by simp)]
   exact⟨7,by decide,by simp[Ig,bQ,hW,az,av]⟩
  .rw[hq]at hW
   rw[aN ⟨rfl,rfl⟩];simp[Ig,bQ,hW,hR,Kd,az,av]
 .rw[aG (λh=>hc h.1)]
  have he:(ce != 0)=true:=by simpa using hc
  exact⟨ce,hc,by simp[Ig,bQ,he,az,av]⟩
theorem ap0(nm:D)(k sz ot:Int)(s:S)(t:Int)(hn:s.Q.length<=1000000){ce:Int}(bQ:ev P (.call nJ [.d (.ag [nm,I' k,I' sz,I' ot]),.d (.ag s.row)] [])=some (.val (.d (I' ce)) [])):
  Wd (ev P (.call Lr [.d (.ag [nm,I' k,I' sz,I' ot]),.d (.ag s.row),.d (I' t)] [])) s ce t:=by
 obtain⟨i,hF⟩:=mR s t hn;have hW:ev P (.call HI [.d (.ag s.row),.d (I' t)] [])=some (.val (.d (.b (fK s t))) []):=by
  rw[au YM rfl];simp only[S.row]at *;simp[MR,hF]
 have hR:=yP s.qn s.Q t hn;rw[au adB rfl];unfold Wd rm;obtain⟨b,r,yX⟩:∃b r,qO (s.Q.filter λw=>w.task != t) = .sl 5 b r:=⟨_,_,rfl⟩
 rw[yX]at hR⊢;simp only[S.row]at *;by_cases hc:ce=0
 .subst hc
  cases hq:fK s t
  .rw[hq]at hW
   rw[aG (by simp)]
   exact⟨7,by decide,by simp[H9,bQ,hW,az,av]⟩
  .rw[hq]at hW
   rw[aN ⟨rfl,rfl⟩];simp[H9,bQ,hW,hR,Kd,az,av]
 .rw[aG (λh=>hc h.1)]
  have he:(ce != 0)=true:=by simpa using hc
  exact⟨ce,hc,by simp[H9,bQ,he,az,av]⟩
theorem ap1(nm:D)(k sz ot:Int)(s:S)(t:Int)(hn:s.Q.length<=1000000){ce:Int}(bQ:ev P (.call oU [.d (.ag [nm,I' k,I' sz,I' ot]),.d (.ag s.row)] [])=some (.val (.d (I' ce)) [])):
  Wd (ev P (.call Lu [.d (.ag [nm,I' k,I' sz,I' ot]),.d (.ag s.row),.d (I' t)] [])) s ce t:=by
 obtain⟨i,hF⟩:=mR s t hn;have hW:ev P (.call HO [.d (.ag s.row),.d (I' t)] [])=some (.val (.d (.b (fK s t))) []):=by
  rw[au YV rfl];simp only[S.row]at *;simp[M4,hF]
 have hR:=yP s.qn s.Q t hn;rw[au adK rfl];unfold Wd rm;obtain⟨b,r,yX⟩:∃b r,qO (s.Q.filter λw=>w.task != t) = .sl 5 b r:=⟨_,_,rfl⟩
 rw[yX]at hR⊢;simp only[S.row]at *;by_cases hc:ce=0
 .subst hc
  cases hq:fK s t
  .rw[hq]at hW
   rw[aG (by simp)]
   exact⟨7,by decide,by simp[Ih,bQ,hW,az,av]⟩
  .rw[hq]at hW
   rw[aN ⟨rfl,rfl⟩];simp[Ih,bQ,hW,hR,Kd,az,av]
 .rw[aG (λh=>hc h.1)]
  have he:(ce != 0)=true:=by simpa using hc
  exact⟨1,by decide,by simp[Ih,bQ,he,az,av]⟩
def jK(st:Bool)(left:Int):List W->List O
 | []=>[.aI 1 true [[.b st]],.aI 1 true [[I' left]],.aI 1 true [[.sl 5 true []]]]
 |w::r=>[.aI 1 true [[.b st]],.aI 1 true [[I' left]],.gK 1 [[.aR 3 0 (r.length+1)]],.aI 5 true ((w::r).map W.row)]
def rH(st:Bool)(left:Int)(w:W):Bool:=!st&&decide (0<=w.value)&&decide (w.value<=left)
theorem ap2(w:W)(st any:Bool)(left:Int)(hg:rH st left w=false):
  ev P (.call Bc [.d (.ag w.row),.loc 0 0 0,.loc 1 0 0,.d (.ref [.b any]),.loc 2 0 0] (jK st left []))=some (.val (.d (.b false)) (jK (st||!any) left [w])):=by
 rw[au TD rfl];unfold rH at hg;have hr:1<=room:=by decide
 simp[Fm,jK,W.row,hg,hr,aJ,aD,sub,aE,back,az,av,ak,cut,bA,aq,V.aY,bt,aX,bg,aO,aP]
theorem ap3(w a:W)(r:List W)(st any:Bool)(left:Int)(hr:r.length<=1000)(hg:rH st left w=false):
  ev P (.call Bc [.d (.ag w.row),.loc 0 0 0,.loc 1 0 0,.d (.ref [.b any]),.loc 2 0 0] (jK st left (a::r)))=some (.val (.d (.b false)) [.aI 1 true [[.b (st||!any)]],.aI 1 true [[I' left]],.gK 1 [[.aR 4 0 (r.length+1+1)]],.dead,.aI 5 true ((a::r).map W.row++[w.row])]):=by
 rw[au TD rfl];unfold rH at hg;have hr:1<=room:=by decide
 have h1:r.length+1+1<=room:=by unfold room;omega
 simp[Fm,jK,W.row,hg,hr,h1,aJ,aD,sub,aE,back,az,av,ak,cut,bA,aq,V.aY,bt,aX,bg,aO,aP,aZ,cG,cy]
theorem ap4(w:W)(st any:Bool)(left:Int)(O:List W)(hl:0<=left/\left<=1000000)(hg:rH st left w=true):
  ev P (.call Bc [.d (.ag w.row),.loc 0 0 0,.loc 1 0 0,.d (.ref [.b any]),.loc 2 0 0] (jK st left O))=some (.val (.d (.b true)) (jK st (left - w.value) O)):=by
 rw[au TD rfl];have hg':=hg;unfold rH at hg hg';simp at hg';have hw:IntKind.i64.wrap (left - w.value)=left - w.value:=wrap_i64 (by omega) (by omega)
 cases O with
 |nil=>simp[Fm,jK,W.row,hg,hw,aJ,aD,sub,aE,back,az,av,ak,cut,bA,aq,V.aY,bt,aX,bg,aO,aP]
 |cons a r=>simp[Fm,jK,W.row,hg,hw,aJ,aD,sub,aE,back,az,av,ak,cut,bA,aq,V.aY,bt,aX,bg,aO,aP]
def gG:List W->V
 | []=>.d (.sl 5 true [])
 |_::g=>.aR 3 0 (g.length+1)
def qz(st:Bool)(left:Int):List W->List W->List O
 |O,[]=>jK st left O
 | [],b::g=>[.aI 1 true [[.b st]],.aI 1 true [[I' left]],.aI 1 true [[.sl 5 true []]],.aI 5 true ((b::g).map W.row)]
 |a::r,b::g=>[.aI 1 true [[.b st]],.aI 1 true [[I' left]],.gK 1 [[.aR 4 0 (r.length+1)]],.aI 5 true ((b::g).map W.row),.aI 5 true ((a::r).map W.row)]
structure GS where
 st:Bool
 left:Int
 O:List W
 G:List W
def ej(any:Bool):GS->List W->GS
 |s,[]=>s
 |s,w::r=>if rH s.st s.left w then ej any ⟨s.st,s.left - w.value,s.O,s.G++[w]⟩ r else ej any ⟨s.st||!any,s.left,s.O++[w],s.G⟩ r
theorem ap5(any:Bool)(Q:List W)(nl:Bool)(hQ:Q.length<=500):∀(suf pre:List W)(s:GS),Q=pre++suf->0<=s.left/\s.left<=1000000->s.O.length<=pre.length->s.G.length<=pre.length ->
  ev P (.loop 3 [1,5,8,9,10] Fh [(1,.fn Bc [] [.loc 0 0 0,.loc 1 0 0,.d (.ref [.b any]),.loc 2 0 0]),(5,gG s.G),(8,.d (qD nl Q)),(9,.d (I' Q.length)),(10,.d (I' pre.length))] (qz s.st s.left s.O s.G)) =
   some (.out (.exit 0) [(5,gG (ej any s suf).G)] (qz (ej any s suf).st (ej any s suf).left (ej any s suf).O (ej any s suf).G)):=by
 intro suf;induction suf with
 |nil =>
  intro pre s hl _ _ _;have hlen:Q.length=pre.length:=by simp[hl]
  obtain⟨st,left,O,G⟩:=s;unfold ej;rw[bY]
  conv=>lhs;arg 4;unfold Fh
  cases O<;>cases G<;>simp[gG,qz,jK,hlen,aJ,aD,sub,aE,back,az,av,ak,cut,bA,aq,V.aY,bt,aX,bg,aO,aP]
 |cons w suf ih =>
  intro pre s hl hb hO hG;have hg:Q[pre.length]?=some w:=by simp[hl]
  have hlt:(pre.length:Int)<Q.length:=by simp[hl];omega
  have fN:pre.length<=500:=by omega
  have hnext:IntKind.i64.wrap ((pre.length:Int)+1)=pre.length+1:=wrap_i64 (by omega) (by omega)
  have jX:1<=room:=by decide
  obtain⟨st,left,O,G⟩:=s;simp only at hb hO hG;unfold ej;cases hk:rH st left w
  .have bE:=ih (pre++[w]) ⟨st||!any,left,O++[w],G⟩ (by simp[hl]) hb (by simp;omega) (by simp;omega)
   rw[aG (by simpa using hk)]
   refine uD ?_ bE;clear bE;rw[bY]
   conv=>lhs;arg 4;unfold Fh
   cases O with
   |nil =>
    have hc:=ap2 w st any left hk;simp only[jK,W.row]at hc;cases G with
    |nil=>simp[gG,qz,jK,hlt,hg,W.row,hc,hnext,aJ,aD,sub,aE,back,az,av,ak,cut,bA,aq,V.aY,bt,aX,bg,aO,aP,aZ,cG,cy]
    |cons b g=>simp[gG,qz,jK,hlt,hg,W.row,hc,hnext,aJ,aD,sub,aE,back,az,av,ak,cut,bA,aq,V.aY,bt,aX,bg,aO,aP,aZ,cG,cy]
   |cons a r =>
    have hc:=ap3 w a r st any left (by simp at hO;omega) hk
    simp[jK,W.row]at hc;cases G with
    |nil=>simp[gG,qz,jK,hlt,hg,W.row,hc,hnext,aJ,aD,sub,aE,back,az,av,ak,cut,bA,aq,V.aY,bt,aX,bg,aO,aP,aZ,cG,cy]
    |cons b g=>simp[gG,qz,jK,hlt,hg,W.row,hc,hnext,aJ,aD,sub,aE,back,az,av,ak,cut,bA,aq,V.aY,bt,aX,bg,aO,aP,aZ,cG,cy]
  .have hk':=hk
   unfold rH at hk';simp at hk';have bE:=ih (pre++[w]) ⟨st,left - w.value,O,G++[w]⟩ (by simp[hl]) (by simp only;omega) (by simp;omega) (by simp;omega)
   rw[aN (by simpa using hk)]
   refine uD ?_ bE;clear bE;rw[bY]
   conv=>lhs;arg 4;unfold Fh
   have hc:=ap4 w st any left O hb hk;cases O with
   |nil =>
    simp[jK,W.row]at hc;cases G with
    |nil=>simp[gG,qz,jK,hlt,hg,W.row,hc,hnext,jX,aJ,aD,sub,aE,back,az,av,ak,cut,bA,aq,V.aY,bt,aX,bg,aO,aP,aZ,cG,cy]
    |cons b g =>
     have h1:g.length+1+1<=room:=by simp at hG;unfold room;omega
     simp[gG,qz,jK,hlt,hg,W.row,hc,hnext,jX,h1,aJ,aD,sub,aE,back,az,av,ak,cut,bA,aq,V.aY,bt,aX,bg,aO,aP,aZ,cG,cy]
   |cons a r =>
    simp[jK,W.row]at hc;cases G with
    |nil=>simp[gG,qz,jK,hlt,hg,W.row,hc,hnext,jX,aJ,aD,sub,aE,back,az,av,ak,cut,bA,aq,V.aY,bt,aX,bg,aO,aP,aZ,cG,cy]
    |cons b g =>
     have h1:g.length+1+1<=room:=by simp at hG;unfold room;omega
     simp[gG,qz,jK,hlt,hg,W.row,hc,hnext,jX,h1,aJ,aD,sub,aE,back,az,av,ak,cut,bA,aq,V.aY,bt,aX,bg,aO,aP,aZ,cG,cy]
theorem ap6(any:Bool)(Q:List W)(nl:Bool)(n:Int)(hQ:Q.length<=500)(hn:0<=n/\n<=1000000):
  ev P (.call RG [.d (qD nl Q),.fn Bc [] [.loc 0 0 0,.loc 1 0 0,.d (.ref [.b any]),.loc 2 0 0]] (jK false n [])) =
   some (.val (gG (ej any ⟨false,n,[],[]⟩ Q).G) (qz (ej any ⟨false,n,[],[]⟩ Q).st (ej any ⟨false,n,[],[]⟩ Q).left (ej any ⟨false,n,[],[]⟩ Q).O (ej any ⟨false,n,[],[]⟩ Q).G)):=by
 have hL:=ap5 any Q nl hQ Q [] ⟨false,n,[],[]⟩ rfl hn (by simp) (by simp)
 rw[au aev rfl];simp only[gG,qz,jK,mY]at hL⊢;generalize ej any ⟨false,n,[],[]⟩ Q=s at *;obtain⟨st,left,O,G⟩:=s;have hL:ev P (.loop 3 [1,5,8,9,10] Fh [(1,.fn Bc [] [.loc 0 0 0,.loc 1 0 0,.d (.ref [.b any]),.loc 2 0 0]),(5,.d (.sl 5 true [])),(8,.d (qD nl Q)),(9,.d (I' Q.length)),(10,.d (I' 0))] [.aI 1 true [[.b false]],.aI 1 true [[I' n]],.aI 1 true [[.sl 5 true []]]])=some (.out (.exit 0) [(5,gG G)] (qz st left O G)):=hL;cases O<;>cases G<;>simp only[gG,qz,jK]at hL<;>simp[SJ,gG,qz,jK,hL,aJ,aD,sub,aE,back,az,av,ak,cut,bA,aq,V.aY,bt,aX,bg,aO,aP,aZ,cG,cy]
theorem ap7(any:Bool)(Q:List W)(nl:Bool)(n:Int)(hQ:Q.length<=500)(hn:0<=n/\n<=1000000):
  ev P (.call RL [.d (qD nl Q),.d (I' n),.d (.b any)] [])=some (.val (.tu [.d (qO (ej any ⟨false,n,[],[]⟩ Q).G),.d (qO (ej any ⟨false,n,[],[]⟩ Q).O),.d (I' (ej any ⟨false,n,[],[]⟩ Q).left)]) []):=by
 have hF:=ap6 any Q nl n hQ hn;rw[au aeA rfl];generalize ej any ⟨false,n,[],[]⟩ Q=s at *;obtain⟨st,left,O,G⟩:=s;simp only[jK]at hF;cases O<;>cases G<;>simp only[gG,qz,jK]at hF<;>simp[SN,hF,qO,W.row,aJ,aD,sub,aE,back,az,av,ak,cut,bA,aq,V.aY,bt,aX,bg,aO,aP,aZ,cG,cy]
def vG(w:W):List D:=[I' w.task,I' w.op,I' 0,.b true,I' (-1)]
def wV:List W->V
 | []=>.d (.sl 5 true [])
 |_::r=>.aR 1 0 (r.length+1)
def wH:List W->List O
 | []=>[]
 |a::r=>[.aI 5 true ((a::r).map vG)]
theorem ap8(c:List D)(G:List W)(b:Bool)(hG:G.length<=500):∀(suf pre:List W),G=pre++suf ->
  ev P (.loop 1 [6,38,39,40] Ij [(6,wV pre),(38,.d (qD b G)),(39,.d (I' G.length)),(40,.d (I' pre.length))] (.aI 10 true [c]::wH pre)) =
   some (.out (.exit 0) [(6,wV G)] (.aI 10 true [c]::wH G)):=by
 intro suf;induction suf with
 |nil =>
  intro pre hl;have hlen:G.length=pre.length:=by simp[hl]
  have e:pre=G:=by simpa using hl.symm
  subst e;rw[bY]
  conv=>lhs;arg 4;unfold Ij
  cases pre<;>simp[wV,wH,aJ,aD,sub,aE,back,az,av,ak,cut,bA,aq,V.aY,bt,aX,bg,aO,aP,aZ,cG,cy]
 |cons w suf ih =>
  intro pre hl;have hg:G[pre.length]?=some w:=by simp[hl]
  have hlt:(pre.length:Int)<G.length:=by simp[hl];omega
  have fN:pre.length<=500:=by omega
  have hnext:IntKind.i64.wrap ((pre.length:Int)+1)=pre.length+1:=wrap_i64 (by omega) (by omega)
  have jX:1<=room:=by decide
  have bE:=ih (pre++[w]) (by simp[hl])
  obtain⟨i,hi⟩:∃i,i=pre.length:=⟨_,rfl⟩;rw[show(pre++[w]).length=i+1 by simp[hi]]at bE
  rw[<-hi]at hg hlt hnext fN⊢;refine uD ?_ bE;clear bE;rw[bY]
  conv=>lhs;arg 4;unfold Ij
  cases pre with
  |nil=>simp[wV,wH,vG,hlt,hg,W.row,hnext,jX,aJ,aD,sub,aE,back,az,av,ak,cut,bA,aq,V.aY,bt,aX,bg,aO,aP,aZ,cG,cy]
  |cons a r =>
   have h1:r.length+1+1<=room:=by simp at hi;unfold room;omega
   clear hi;simp[wV,wH,vG,hlt,hg,W.row,hnext,jX,h1,aJ,aD,sub,aE,back,az,av,ak,cut,bA,aq,V.aY,bt,aX,bg,aO,aP,aZ,cG,cy]
theorem WB(any:Bool):∀(Q:List W)(s:GS),(ej any s Q).O.length+(ej any s Q).G.length=s.O.length+s.G.length+Q.length
 | [],s=>by simp[ej]
 |w::r,s=>by
  unfold ej;split
  .rw[WB any r];simp;omega
  .rw[WB any r];simp;omega
theorem ap9(s:S)(cnt:Int)(nl:Bool)(Q:List W)(any:Bool)(hQ:Q.length<=500)(hn:0<=cnt/\cnt<=1000000):
  ev P (.call LF [.loc 0 0 0] [.aI 10 true [kJ s cnt (qD nl Q) any]]) =
   some (.val (wV (ej any ⟨false,cnt,[],[]⟩ Q).G) (.aI 10 true [kJ s (ej any ⟨false,cnt,[],[]⟩ Q).left (qO (ej any ⟨false,cnt,[],[]⟩ Q).O) any]::wH (ej any ⟨false,cnt,[],[]⟩ Q).G)):=by
 have hG:=ap7 any Q nl cnt hQ hn;have hlen:=WB any Q ⟨false,cnt,[],[]⟩;generalize ej any ⟨false,cnt,[],[]⟩ Q=g at *;obtain⟨st,left,O,G⟩:=g;simp only[mY]at hlen hG⊢;have hL:=ap8 (kJ s left (qO O) any) G (decide (G=[])) (by omega) G [] rfl
 obtain⟨bo,ro,WC⟩:∃b r,qO O = .sl 5 b r:=⟨_,_,rfl⟩;rw[WC]at hG hL⊢;have hqg:qO G = .sl 5 (decide (G=[])) (G.map W.row):=rfl;rw[hqg]at hG;have hL:ev P (.loop 1 [6,38,39,40] Ij [(6,.d (.sl 5 true [])),(38,.d (qD (decide (G=[])) G)),(39,.d (I' G.length)),(40,.d (I' 0))] [.aI 10 true [kJ s left (.sl 5 bo ro) any]])=some (.out (.exit 0) [(6,wV G)] (.aI 10 true [kJ s left (.sl 5 bo ro) any]::wH G)):=hL;unfold kJ at hL⊢;rw[au ad0 rfl];cases G with
 |nil =>
  simp only[qD,gQ]at hL;simp[wV,wH]at hL hG;simp[MO,wV,wH,hG,hL,aJ,aD,sub,aE,back,az,av,ak,cut,bA,aq,V.aY,bt,aX,bg,aO,aP,aZ,cG,cy]
 |cons a r =>
  simp only[qD,gm,W.row]at hL;simp[wV,wH,vG,W.row]at hL hG;simp[MO,wV,wH,vG,hG,hL,aJ,aD,sub,aE,back,az,av,ak,cut,bA,aq,V.aY,bt,aX,bg,aO,aP,aZ,cG,cy]
def kK(ot:Int)(cnt:Int)(Q:List W):GS:=ej (ot==1) ⟨false,cnt,[],[]⟩ Q
theorem aqa(nm:D)(k sz ot:Int)(s:S)(t:Int)(hn:s.Q.length<=500)(rz:0<=s.cnt/\s.cnt<=1000000){ce:Int}(bQ:ev P (.call p8 [.d (.ag [nm,I' k,I' sz,I' ot]),.d (.ag s.row)] [])=some (.val (.d (I' ce)) [])):
  if ce=0/\fK s t=true then ev P (.call CN [.d (.ag [nm,I' k,I' sz,I' ot]),.d (.ag s.row),.d (I' t)] []) =
    some (.val (.tu [.d (.ag [I' s.own,I' (kK ot s.cnt (rm s t)).left,I' s.time,hD s.hn s.H,qO (kK ot s.cnt (rm s t)).O,hD s.bn s.B,cD s.cn s.C,.b s.cl,I' s.val,.b false,I' 0,.b false,.sl 5 (decide ((kK ot s.cnt (rm s t)).G=[])) ((kK ot s.cnt (rm s t)).G.map vG)]),.d (I' 0)]) [])
   else ∃e,e≠0/\ev P (.call CN [.d (.ag [nm,I' k,I' sz,I' ot]),.d (.ag s.row),.d (I' t)] [])=some (.val (.tu [.d (.ag ny),.d (I' e)]) []):=by
 obtain⟨i,hF⟩:=mR s t (by omega)
 have hR:=yP s.qn s.Q t (by omega)
 have hS:=ap9 s s.cnt (decide (rm s t=[])) (rm s t) (ot==1) (by unfold rm;exact mE (oM _ _) hn) rz
 rw[au Yw rfl];have e1:(s.Q.filter λw=>w.task != t)=rm s t:=rfl
 rw[e1]at hR;have e2:ej (ot==1) ⟨false,s.cnt,[],[]⟩ (rm s t)=kK ot s.cnt (rm s t):=rfl;rw[e2]at hS;generalize kK ot s.cnt (rm s t)=g at *;obtain⟨st,left,O,G⟩:=g;obtain⟨bo,ro,WC⟩:∃b r,qO O = .sl 5 b r:=⟨_,_,rfl⟩;obtain⟨bq,rq,yX⟩:∃b r,qO (rm s t) = .sl 5 b r:=⟨_,_,rfl⟩;have aqb:qD (decide (rm s t=[])) (rm s t) = .sl 5 bq rq:=yX;simp only at hS⊢;rw[WC]at hS⊢;rw[aqb]at hS;rw[yX]at hR;unfold kJ at hS;simp only[S.row]at *;by_cases hc:ce=0
 .subst hc
  cases hq:fK s t
  .rw[hq]at hF
   rw[aG (by simp)]
   exact⟨7,by decide,by simp[CX,bQ,hF,az,av]⟩
  .rw[hq]at hF
   rw[aN ⟨rfl,rfl⟩];cases hb:ot==1;all_goals
    rw[hb]at hS;cases G with
    |nil =>
     simp[wV,wH]at hS;simp[CX,bQ,hF,hR,hb,hS,aJ,aD,sub,aE,back,az,av,ak,cut,bA,aq,V.aY,bt,aX,bg,aO,aP,aZ,cG,cy]
    |cons a r =>
     simp[wV,wH,vG]at hS;simp[CX,bQ,hF,hR,hb,hS,vG,aJ,aD,sub,aE,back,az,av,ak,cut,bA,aq,V.aY,bt,aX,bg,aO,aP,aZ,cG,cy]
 .rw[aG (λh=>hc h.1)]
  have he:(ce != 0)=true:=by simpa using hc
  exact⟨1,by decide,by simp[CX,bQ,he,az,av]⟩
def S.rI(s:S)(t:Int):S:={s with qn:=decide (rm s t=[]),Q:=rm s t}
theorem GN{f:List W->W->Bool}(p:W->Bool)(hm:∀a b w,a.Sublist b->f b w=true->f a w=true):∀(l a b:List W),a.Sublist b->ep f b l=true->ep f a (l.filter p)=true
 | [],_,_,_,_=>rfl
 |w::r,a,b,hab,h=>by
  unfold ep at h;simp only[bD]at h;cases hp:p w
  .rw[XP (by simp[hp])]
   exact GN p hm r a (b++[w]) (hab.trans (List.sublist_append_left _ _)) h.2
  .rw[List.filter_cons_of_pos hp]
   unfold ep;rw[hm a b w hab h.1,GN p hm r (a++[w]) (b++[w]) (hab.append (tj _)) h.2];rfl
theorem GO{p:W->Bool}{a b:List W}(h:a.Sublist b)(hb:b.any p=false):a.any p=false:=by
 rw[oK]at hb⊢;exact λx hx=>hb x (h.subset hx)
theorem yY(s:S)(t:Int):(rm s t).Sublist s.Q:=xN
theorem PD{s:S}(t:Int)(h:dY s.Q=0):dY (rm s t)=0:=by
 rw[xA]at h⊢;exact⟨mE (yY s t).length_le h.1,λw hw=>h.2 w ((yY s t).subset hw)⟩
theorem aqc{sz:Int}{s:S}(t:Int)(h:Ay sz s=true):Ay sz (s.rI t)=true:=by
 unfold Ay at h⊢;simp only[bD,iZ,dO]at h⊢;obtain⟨h1,h2,h3,h4⟩:=h;have hl:=(yY s t).length_le;refine⟨?_,h2,PD t h3,GN _ (λa b w hab hf=>?_) _ [] [] (tj _) h4⟩
 .unfold Gv S.rI at *
  simp at h1⊢;omega
 .unfold fB at hf⊢
  simp only[bD,iZ]at hf⊢;exact⟨hf.1,GO hab hf.2⟩
theorem aqd{sz:Int}{s:S}(t:Int)(h:Az sz s=true):Az sz (s.rI t)=true:=by
 unfold Az at h⊢;simp only[bD,iZ,dO]at h⊢;obtain⟨h1,h2,h3,h4⟩:=h;refine⟨h1,h2,PD t h3,GN _ (λa b w hab hf=>?_) _ [] [] (tj _) h4⟩
 unfold fL at hf⊢;simp only[bD,iZ]at hf⊢;exact⟨hf.1,GO hab hf.2⟩
theorem aqe{s:S}(t:Int)(h:xp s=true):xp (s.rI t)=true:=by
 unfold xp at h⊢;simp only[bD,dO]at h⊢;obtain⟨h1,h2,⟨h3,h4⟩,h5⟩:=h;have hl:=(yY s t).length_le;refine⟨h1,h2,⟨GN _ (λa b w hab hf=>?_) _ [] [] (tj _) h3,PD t h4⟩,?_⟩
 .unfold fF at hf⊢
  simp only[iZ,xL]at hf⊢;exact⟨⟨⟨GO hab hf.1.1.1,hf.1.1.2⟩,hf.1.2⟩,hf.2⟩
 .unfold S.rI
  simp only;cases hc:s.cl
  .rw[hc]at h5;exact h5
  .rw[hc]at h5
   simp at h5⊢
   have:s.Q.length=0:=by rw[h5];rfl
   exact xS.1 (by omega)
theorem aqf{sz:Int}{s:S}(t:Int)(h:xm sz s=true):xm sz (s.rI t)=true:=by
 unfold xm at h⊢;simp only[bD,iZ,dO]at h⊢;obtain⟨h1,h2,h3,h4,h5,h6⟩:=h;have hl:=(yY s t).length_le;refine⟨h1,h2,PD t h3,GN _ (λa b w hab hf=>?_) _ [] [] (tj _) h4,?_,?_⟩
 .unfold fC at hf⊢
  simp only[bD,iZ]at hf⊢;exact⟨hf.1,GO hab hf.2⟩
 .unfold S.rI
  simp only;cases hc:s.cl
  .rfl
  .rw[hc]at h5
   simp at h5⊢
   have:s.Q.length=0:=by rw[h5];rfl
   exact xS.1 (by omega)
 .rw[oK]at h6⊢
  intro w hw;have h:=h6 w ((yY s t).subset hw);have hB:(s.rI t).B=s.B:=rfl;have hQ:(s.rI t).Q=rm s t:=rfl;rw[hB,hQ];unfold yO at h⊢;have hf:∀op,uh s.Q op w.task=false->uh (rm s t) op w.task=false:=λop h=>GO (yY s t) h
  split at h<;>rename_i ho
  .rw[aN ho]
   simp only[KN,xL]at h⊢;exact⟨h.1,hf _ h.2⟩
  .rw[aG ho]
   simp only[KN,xL]at h⊢;exact⟨h.1,hf _ h.2⟩
theorem aqg{k sz ot:Int}{s:S}(t:Int)(hk:k=5\/k=6\/k=8\/k=9)(h:dg k sz ot s=0):dg k sz ot (s.rI t)=0:=by
 have cz:∀{n:Int}{b:Bool},ck n b=0->n=0/\b=true:=fun{n b} h=>by
  have:=qm (n:=n) (b:=b);rw[h]at this;simpa using this.symm
 have zc:∀{n:Int}{b:Bool},n=0->b=true->ck n b=0:=fun{n b} h1 h2=>by subst h1;subst h2;rfl
 rcases hk with rfl |rfl |rfl |rfl
 .obtain⟨h1,h2⟩:=cz (n:=iF 5 sz ot) (b:=Ay sz s) h
  exact zc (n:=iF 5 sz ot) h1 (aqc t h2)
 .obtain⟨h1,h2⟩:=cz (n:=gM 6 sz ot) (b:=xm sz s) h
  exact zc (n:=gM 6 sz ot) h1 (aqf t h2)
 .obtain⟨h1,h2⟩:=cz (n:=jh 8 sz ot) (b:=Az sz s) h
  exact zc (n:=jh 8 sz ot) h1 (aqd t h2)
 .obtain⟨h1,h2⟩:=cz (n:=dM 9 9 sz ot) (b:=xp s) h
  exact zc (n:=dM 9 9 sz ot) h1 (aqe t h2)
structure Cp where
 c:Cl
 w:Wk
def Cp.row(x:Cp):List D:=x.c.row++x.w.row
def dz(k sz ot:Int):S->List Cp->S×Bool
 |a,[]=>(a,true)
 |a,x::r =>
  let e:=eE k sz ot a.pl x.c
  if e.2.2.2≠0 then(a,false)
  else if(x.c.op==61&&ot==0&&!x.w.ok&&x.w.value==0)=true then dz k sz ot a r
  else if(e.2.1 != x.w.value||e.2.2.1 != x.w.ok)=true then(a,false)else dz k sz ot e.1 r
theorem aqh(s:S):s.pl.pl=s.pl:=by
 unfold S.pl;simp only[ke];congr 1
def yZ(w:Wk)(x:W):Bool:=x.task==w.task&&x.op==w.op&&x.case==w.case
def xC(w:Wk):List W->Int×Int->Int×Int
 | [],p=>p
 |x::r,p=>xC w r (if yZ w x then(x.value,x.prio)else p)
def hW:List Cp->List O
 | []=>[]
 |a::r=>[.aI 10 true ((a::r).map Cp.row)]
def iC(Q:List W)(now:Int)(w:Wk):Cp:=⟨⟨w.task,w.op,(xC w Q (0,0)).1,(xC w Q (0,0)).2,now⟩,w⟩
theorem WD(any:Bool):∀(Q:List W)(g:GS),(ej any g Q).left<=g.left
 | [],g=>by simp[ej]
 |w::r,g=>by
  unfold ej;split
  .rename_i h
   have:=WD any r ⟨g.st,g.left - w.value,g.O,g.G++[w]⟩;unfold rH at h;simp at h;simp only at this;omega
  .exact WD any r ⟨g.st||!any,g.left,g.O++[w],g.G⟩
theorem WE(any:Bool):∀(Q:List W)(g:GS),0<=g.left->0<=(ej any g Q).left
 | [],g,h=>by simpa[ej]using h
 |w::r,g,hl=>by
  unfold ej;split
  .rename_i h
   unfold rH at h;simp at h;exact WE any r ⟨g.st,g.left - w.value,g.O,g.G++[w]⟩ (by simp only;omega)
  .exact WE any r ⟨g.st||!any,g.left,g.O++[w],g.G⟩ hl
theorem aqi(any:Bool):∀(Q:List W)(g:GS),g.st=true->ej any g Q=⟨true,g.left,g.O++Q,g.G⟩
 | [],⟨st,l,O,G⟩,h=>by simp at h;simp[ej,h]
 |w::r,⟨st,l,O,G⟩,h=>by
  simp at h;subst h;unfold ej
  have:rH true l w=false:=by simp[rH]
  simp only[this];rw[aG (by simp),aqi any r _ (by rfl)]
  simp
theorem WG:∀(Q:List W)(g:GS),g.st=false->(∀w∈Q,0<=w.value)->(∀w∈g.O,g.left<w.value)->(ej true g Q).st=false/\∀w∈(ej true g Q).O,(ej true g Q).left<w.value
 | [],g,hs,_,h=>⟨by simpa[ej]using hs,by simpa[ej]using h⟩
 |w::r,g,hs,hv,h=>by
  unfold ej;have hw:=hv w (by simp)
  split
  .refine WG r ⟨g.st,g.left - w.value,g.O,g.G++[w]⟩ hs (λx hx=>hv x (by simp[hx])) λx hx=>?_
   have:=h x hx;simp only;omega
  .rename_i hk
   refine WG r ⟨g.st||!true,g.left,g.O++[w],g.G⟩ (by simpa using hs) (λx hx=>hv x (by simp[hx])) λx hx=>?_
   simp only at hx⊢;rcases dm.1 hx with hx |hx
   .exact h x hx
   .simp at hx
    subst hx;unfold rH at hk;rw[hs]at hk;simp at hk;exact hk hw
theorem aqj:∀(Q:List W)(g:GS),g.st=false->(∀w∈Q,0<=w.value) ->
  ((ej false g Q).O=g.O/\(ej false g Q).G=g.G++Q)\/∃A w B,Q=A++w::B/\(ej false g Q).G=g.G++A/\(ej false g Q).O=g.O++w::B/\(ej false g Q).left<w.value
 | [],g,_,_=>.inl (by simp[ej])
 |w::r,g,hs,hv=>by
  unfold ej;have hw:=hv w (by simp)
  split
  .rcases aqj r ⟨g.st,g.left - w.value,g.O,g.G++[w]⟩ hs (λx hx=>hv x (by simp[hx]))with⟨h1,h2⟩ |⟨A,x,B,h1,h2,h3,h4⟩
   .exact .inl ⟨h1,by rw[h2];simp⟩
   .exact .inr ⟨w::A,x,B,by rw[h1];rfl,by rw[h2];simp,h3,h4⟩
  .rename_i hk
   rw[aqi false r _ (by simp)]
   refine .inr ⟨[],w,r,rfl,by simp,by simp,?_⟩
   unfold rH at hk;rw[hs]at hk;simp at hk;exact hk hw
def Cc(x:Option dL)(k sz ot:Int)(s:S):Prop :=
 (∃e,e≠0/\∃r1 r2 r3 r4 r5 r6 r7 r8 r9 nY nZ n8 dR:D,x=some (.val (.tu [.d (.ag [r1,r2,r3,r4,r5,r6,r7,r8,r9,nY,nZ,n8,dR]),.d (I' e)]) [])) \/
 ∃(s':S)(d1 d2 d3:D)(bw:Bool)(l:List Wk),
  x=some (.val (.tu [.d (.ag [I' s'.own,I' s'.cnt,I' s'.time,hD s'.hn s'.H,qD s'.qn s'.Q,hD s'.bn s'.B,cD s'.cn s'.C,.b s'.cl,I' s'.val,d1,d2,d3,.sl 5 bw (l.map Wk.row)]),.d (I' 0)]) []) /\
  s'.fP/\dg k sz ot s=0/\dg k sz ot s'=0/\l.length<=100/\(dz k sz ot (s.ab true) (l.map (iC s.Q s.time))).2=true/\(dz k sz ot (s.ab true) (l.map (iC s.Q s.time))).1.pl=(s'.ab true).pl
theorem WH{f:List W->W->Bool}:∀{l pre:List W},ep f pre l=true↔∀A w B,l=A++w::B->f (pre++A) w=true
 | [],pre=>⟨λ_ A w B h=>by simp at h,λ_=>rfl⟩
 |x::r,pre=>by
  unfold ep;rw[bD,WH];constructor
  .rintro⟨h1,h2⟩ A w B h
   cases A with
   |nil=>simp at h;rw[<-h.1];simpa using h1
   |cons y A =>
    simp at h;have:=h2 A w B h.2;rw[h.1]at this;simpa using this
  .intro h
   exact⟨by simpa using h [] x r rfl,λA w B e=>by have:=h (x::A) w B (by rw[e];rfl);simpa using this⟩
theorem WI{l:List W}:l.Pairwise (λa b=>a.task≠b.task)↔∀A w B,l=A++w::B->∀x∈A,x.task≠w.task:=by
 constructor
 .rintro h A w B rfl x hx
  exact(oN.1 h).2.2 x hx w (by simp)
 .intro h
  induction l with
  |nil=>exact List.Pairwise.nil
  |cons a r ih =>
   refine gE.2 ⟨λb hb=>?_,ih λA w B e x hx=>h (a::A) w B (by rw[e];rfl) x (by simp[hx])⟩
   obtain⟨A,B,e⟩:=Et hb;exact h (a::A) b B (by rw[e];rfl) a (by simp)
structure SW(sz:Int)(w:W):Prop where
 v:dU w=true
 op:w.op=60
 lo:1<=w.value
 hi:w.value<=sz
 cs:w.case = -1
structure Ke(sz ot:Int)(s:S):Prop where
 own:s.own = -1
 lo:0<=s.cnt
 hi:s.cnt<=sz
 tm:s.time=0
 h:s.H=[]
 b:s.B=[]
 c:s.C=[]
 cl:s.cl=false
 val:s.val=0
 len:s.Q.length<=96
 w:∀w∈s.Q,SW sz w
 tk:s.Q.Pairwise λa b=>a.task≠b.task
 st:∀A w B,s.Q=A++w::B->(A≠[]/\ot=0)\/s.cnt<w.value
theorem aqk{sz ot:Int}{s:S}:BX sz ot s=true↔Ke sz ot s:=by
 unfold BX;rw[afK];simp only[bD,iZ,xL,KO,kM,dO,xA,WH];constructor
 .rintro⟨⟨⟨⟨h1,h2⟩,h3⟩,h4,h5⟩,h6,⟨⟨h7,h8⟩,h9⟩,iV⟩
  have hq:∀A w B,s.Q=A++w::B->(SW sz w/\(∀x∈A,x.task≠w.task))/\((A≠[]/\ot=0)\/s.cnt<w.value):=by
   intro A w B e;have h:=h6 A w B e;have hv:=h5 w (by rw[e];simp)
   unfold fS Gu at h;simp at h;obtain⟨⟨⟨⟨g1,g2⟩,g3⟩,g4⟩,g5,g6⟩:=h;refine⟨⟨⟨hv,g1,by omega,by omega,g4⟩,g5⟩,?_⟩
   rcases g6 with⟨g6,g7⟩ |g6
   .exact .inl ⟨by intro e;rw[e]at g6;simp at g6,g7⟩
   .exact .inr g6
  simp at h8;refine⟨h1,by omega,by omega,h7,by grind,by grind,by grind,h9,iV,h4,λw hw=>?_,WI.2 λA w B e=>(hq A w B e).1.2,λA w B e=>(hq A w B e).2⟩
  obtain⟨A,B,e⟩:=Et hw;exact(hq A w B e).1.1
 .rintro⟨h1,h2,h3,h4,h5,h6,h7,h8,h9,iV,jr,h12,kU⟩
  refine⟨⟨⟨⟨h1,by omega⟩,by omega⟩,iV,λw hw=>(jr w hw).v⟩,?_,⟨⟨h4,by simp[h5,h6,h7]⟩,h8⟩,h9⟩
  intro A w B e;have hw:=jr w (by rw[e];simp)
  have ht:=WI.1 h12 A w B e;have hs:=kU A w B e;unfold fS Gu;simp[hw.op,hw.cs];refine⟨⟨hw.lo,hw.hi⟩,ht,?_⟩;rcases hs with⟨g1,g2⟩ |g
  .exact .inl ⟨rK.2 g1,g2⟩
  .exact .inr g
theorem aql{k:Wk}:∀{Q:List W}{p:Int×Int},(∀x∈Q,x.task≠k.task)->xC k Q p=p
 | [],_,_=>rfl
 |x::r,p,h=>by
  unfold xC
  have:yZ k x=false:=by unfold yZ;simp[h x (by simp)]
  rw[this,aG (by simp)]
  exact aql λy hy=>h y (by simp[hy])
theorem aqm{k:Wk}{w:W}:∀{Q:List W}{p:Int×Int},Q.Pairwise (λa b=>a.task≠b.task)->w∈Q->k.task=w.task->k.op=w.op->k.case=w.case->xC k Q p=(w.value,w.prio)
 | [],_,_,h,_,_,_=>by simp at h
 |x::r,p,hd,h,h1,h2,h3=>by
  rw[gE]at hd;unfold xC;rcases dD.1 h with rfl |h
  .have:yZ k w=true:=by unfold yZ;simp[h1,h2,h3]
   rw[this,aN rfl];exact aql λy hy e=>hd.1 y hy (by rw[e,h1])
  .exact aqm hd.2 h h1 h2 h3
theorem GP{Q:List W}{w:W}(now v:Int)(ok:Bool)(hd:Q.Pairwise λa b=>a.task≠b.task)(h:w∈Q)(hc:w.case = -1):
  iC Q now ⟨w.task,w.op,v,ok,-1⟩=⟨⟨w.task,w.op,w.value,w.prio,now⟩,⟨w.task,w.op,v,ok,-1⟩⟩:=by
 unfold iC;rw[aqm (k:=⟨w.task,w.op,v,ok,-1⟩) hd h rfl rfl hc.symm]
theorem nC{k sz ot:Int}{a a':S}{x:Cp}{r:List Cp}{v:Int}{ok:Bool}(he:eE k sz ot a.pl x.c=(a',v,ok,0))(hv:x.w.value=v)(ho:x.w.ok=ok)(hn:x.c.op≠61\/x.w.ok=true\/ot≠0):
  dz k sz ot a (x::r)=dz k sz ot a' r:=by
 have e:dz k sz ot a (x::r) =
  (
   let e:=eE k sz ot a.pl x.c
   if e.2.2.2≠0 then(a,false)
   else if(x.c.op==61&&ot==0&&!x.w.ok&&x.w.value==0)=true then dz k sz ot a r
   else if(e.2.1 != x.w.value||e.2.2.1 != x.w.ok)=true then(a,false)else dz k sz ot e.1 r):=rfl
 have hsk:(x.c.op==61&&ot==0&&!x.w.ok&&x.w.value==0)=false:=by
  rcases hn with h |h |h<;>simp[h]
 rw[e,he,hsk];simp[hv,ho]
theorem vH{k sz ot:Int}{s:S}{c:Cl}(h1:cY k sz ot s=true)(h2:cM c=false)(h3:dJ k c.op=true)(h4:fit k sz c=true)(h5:(raw k sz ot s c).2.2.2=0):eE k sz ot s c=raw k sz ot s c:=by
 unfold eE;rw[h1,h2,h3,h4,h5];simp
theorem aqn{w:W}(h:dU w=true):0<=w.task/\w.task<16/\0<=w.prio/\w.prio<=9:=by
 have:=sR h;unfold dU at h;simp at h;omega
theorem ux{w:W}{now:Int}(h:dU w=true)(hn:0<=now/\now<=1099511627776):cM ⟨w.task,w.op,w.value,w.prio,now⟩=false:=by
 have:=aqn h;unfold cM;simp;omega
def aS(n:Int):S:=⟨-1,n,0,false,[],false,[],false,[],false,[],false,0⟩
theorem aqo{sz ot n:Int}(hn:iU 4 sz ot=0)(h:0<=n/\n<=sz):cY 4 sz ot (aS n)=true:=by
 unfold cY gS gq jq iG qT aS;simp[hn,ck];omega
theorem aqp{sz ot n now:Int}{w:W}(hn:iU 4 sz ot=0)(hw0:0<=now/\now<=1099511627776)(h:0<=n/\n<=sz)(hw:SW sz w)(hle:w.value<=n):eE 4 sz ot (aS n) ⟨w.task,w.op,w.value,w.prio,now⟩=(aS (n - w.value),0,true,0):=by
 have h1:=hw.lo;have h2:=hw.hi;rw[vH (aqo hn h) (ux hw.v hw0) (by unfold dJ;simp[hw.op]) (by unfold fit;simp[h1,h2])]
 .unfold raw eS
  simp[hw.op,aS,gd,hle]
 .unfold raw eS
  simp[hw.op,aS,gd,hle]
def oI(now:Int)(w:W):Cp:=⟨⟨w.task,w.op,w.value,w.prio,now⟩,⟨w.task,w.op,0,true,-1⟩⟩
def tg(w:W):Wk:=⟨w.task,w.op,0,true,-1⟩
theorem Kf{Q G:List W}(now:Int)(hd:Q.Pairwise λa b=>a.task≠b.task)(hG:G.Sublist Q)(hc:∀w∈Q,w.case = -1):(G.map tg).map (iC Q now)=G.map (oI now):=by
 rw[ke];refine vM λw hw=>?_
 have hm:=hG.subset hw;have:=GP now 0 true hd hm (hc w hm);simp only[Function.comp,tg];rw[this];rfl
theorem WJ{sz ot now:Int}(hn:iU 4 sz ot=0)(hw0:0<=now/\now<=1099511627776)(any:Bool):∀(L:List W)(g:GS),0<=g.left/\g.left<=sz->(∀w∈L,SW sz w) ->
  ∃G' O',(ej any g L).G=g.G++G'/\(ej any g L).O=g.O++O'/\G'.Sublist L/\O'.Sublist L/\∀a:S,a.pl=aS g.left->(dz 4 sz ot a (G'.map (oI now))).2=true/\(dz 4 sz ot a (G'.map (oI now))).1.pl=aS (ej any g L).left
 | [],g,_,_=>⟨[],[],by simp[ej],by simp[ej],by simp,by simp,λa ha=>by simp[dz,ej,ha]⟩
 |w::r,g,hg,hw=>by
  have hw1:=hw w (by simp)
  unfold ej;split
  .rename_i hk
   unfold rH at hk;simp at hk;have:=hw1.lo;obtain⟨G',O',h1,h2,h3,h4,h5⟩:=WJ hn hw0 any r ⟨g.st,g.left - w.value,g.O,g.G++[w]⟩ (by simp only;omega) λx hx=>hw x (by simp[hx])
   refine⟨w::G',O',by rw[h1];simp,h2,h3.cons_cons _,h4.cons _,λa ha=>?_⟩
   rw[gm];have he:=aqp hn hw0 hg hw1 hk.2;rw[<-ha]at he;rw[nC (x:=oI now w) he rfl rfl (.inl (by simp[oI,hw1.op]))]
   exact h5 _ rfl
  .obtain⟨G',O',h1,h2,h3,h4,h5⟩:=WJ hn hw0 any r ⟨g.st||!any,g.left,g.O++[w],g.G⟩ hg λx hx=>hw x (by simp[hx])
   exact⟨G',w::O',h1,by rw[h2];simp,h3.cons _,h4.cons_cons _,h5⟩
def S.rD(s:S)(n:Int)(O:List W):S:={s with cnt:=n,qn:=decide (O=[]),Q:=O}
theorem PE{sz ot:Int}(hn:iU 4 sz ot=0):1<=sz/\sz<=100/\(ot=0\/ot=1):=by
 unfold iU at hn;simp at hn;omega
theorem AF{n:Int}{b:Bool}:ck n b=0↔n=0/\b=true:=by
 have h:=qm (n:=n) (b:=b);rw[y9]at h;simpa using h
theorem Ec{sz ot:Int}{s:S}:dg 4 sz ot s=0↔iU 4 sz ot=0/\Ke sz ot s:=by
 have e:dg 4 sz ot s=ck (iU 4 sz ot) (BX sz ot s):=rfl;rw[e,AF,aqk]
theorem aqq{sz ot n now:Int}{s:S}(hn:iU 4 sz ot=0)(hw0:0<=now/\now<=1099511627776)(hs:Ke sz ot s){L:List W}(hL:L.Sublist s.Q)(h0:0<=n/\n<=sz):
  (kK ot n L).G.Sublist s.Q/\(kK ot n L).O.Sublist s.Q/\dg 4 sz ot (s.rD (kK ot n L).left (kK ot n L).O)=0 /\
   ∀a:S,a.pl=aS n->(dz 4 sz ot a ((kK ot n L).G.map (oI now))).2=true/\(dz 4 sz ot a ((kK ot n L).G.map (oI now))).1.pl=((s.rD (kK ot n L).left (kK ot n L).O).ab true).pl:=by
 obtain⟨hlo,hhi,kT⟩:=PE hn;obtain⟨G',O',g1,g2,g3,g4,g5⟩:=WJ hn hw0 (ot==1) L ⟨false,n,[],[]⟩ h0 λw hw=>hs.w w (hL.subset hw)
 have e:ej (ot==1) ⟨false,n,[],[]⟩ L=kK ot n L:=rfl;have ql:=WD (ot==1) L ⟨false,n,[],[]⟩;have k8:=WE (ot==1) L ⟨false,n,[],[]⟩ h0.1;have PF:=WG L ⟨false,n,[],[]⟩ rfl (λw hw=>by have:=(hs.w w (hL.subset hw)).lo;omega) (by simp)
 have aqr:=aqj L ⟨false,n,[],[]⟩ rfl (λw hw=>by have:=(hs.w w (hL.subset hw)).lo;omega)
 have hst:∀A w B,O'=A++w::B->(A≠[]/\ot=0)\/(kK ot n L).left<w.value:=by
  intro A w B eO;rcases kT with kT |kT
  .have hb:(ot==1)=false:=by rw[kT];decide
   rw[hb]at g2 e;rw[e]at g2 aqr;rcases aqr with⟨h1,_⟩ |⟨A',w',B',_,_,h3,h4⟩
   .rw[h1]at g2
    simp at g2;rw[g2]at eO;simp at eO
   .rw[h3]at g2
    simp at g2;rw[<-g2]at eO;cases A with
    |nil=>simp at eO;rw[<-eO.1];exact .inr h4
    |cons a A=>exact .inl ⟨by simp,kT⟩
  .have hb:(ot==1)=true:=by rw[kT];decide
   rw[hb]at g2 e;rw[e]at g2 PF;refine .inr (PF.2 w ?_);rw[g2,eO];simp
 rw[e]at g1 g2 g5 ql k8;simp only[mX]at g1 g2;simp only at ql;subst g1;subst g2;have hlen:=(g4.trans hL).length_le;refine⟨g3.trans hL,g4.trans hL,Ec.2 ⟨hn,?_⟩,λa ha=>?_⟩
 .exact⟨hs.own,k8,by unfold S.rD;simp only;omega,hs.tm,hs.h,hs.b,hs.c,hs.cl,hs.val,by have:=hs.len;unfold S.rD;simp only;omega,λw hw=>hs.w w ((g4.trans hL).subset hw),hs.tk.sublist (g4.trans hL),hst⟩
 .obtain⟨p1,p2⟩:=g5 a ha
  refine⟨p1,p2.trans ?_⟩;unfold S.ab S.pl aS S.rD;simp[hs.own,hs.tm,hs.h,hs.b,hs.c,hs.cl,hs.val]
theorem aqs{sz ot:Int}{s:S}(hs:Ke sz ot s):(s.ab true).pl=aS s.cnt:=by
 unfold S.ab S.pl aS;simp[hs.own,hs.tm,hs.h,hs.b,hs.c,hs.cl,hs.val]
theorem aqt{s:S}(hf:s.fP){n:Int}{O:List W}(h:O.length<=41):(s.rD n O).fP :=
 ⟨⟨hf.wf.h,hf.wf.b,hf.wf.c,hf.wf.k⟩,λh=>by unfold S.rD at *;simpa using h,hf.h,h,hf.b,hf.c,hf.l⟩
theorem aqu(nm:D)(sz ot:Int)(s:S)(t:Int)(hf:s.fP):
  Cc (ev P (.call CN [.d (.ag [nm,I' 4,I' sz,I' ot]),.d (.ag s.row),.d (I' t)] [])) 4 sz ot s:=by
 have bQ:=VJ nm 4 sz ot s hf.sm;have hG:dg 4 sz ot s=ck (iU 4 sz ot) (BX sz ot s):=rfl;rw[<-hG]at bQ;by_cases hc:dg 4 sz ot s=0
 .obtain⟨hn,hs⟩:=Ec.1 hc
  obtain⟨_,hsz,_⟩:=PE hn;have hlo:=hs.lo;have hhi:=hs.hi;have hW:=aqa nm 4 sz ot s t (by have:=hf.q;omega) (by omega) bQ
  by_cases hq:fK s t=true
  .rw[aN ⟨hc,hq⟩]at hW
   obtain⟨g1,g2,g3,g4⟩:=aqq hn (now:=s.time) (by rw[hs.tm];decide) hs (yY s t) ⟨hlo,hhi⟩
   have hlen:=g1.length_le;have rY:=g2.length_le;have GQ:=hf.q;obtain⟨p1,p2⟩:=g4 (s.ab true) (aqs hs);have vI:=Kf s.time hs.tk g1 λw hw=>(hs.w w hw).cs
   refine .inr ⟨s.rD (kK ot s.cnt (rm s t)).left (kK ot s.cnt (rm s t)).O,.b false,I' 0,.b false,decide ((kK ot s.cnt (rm s t)).G=[]),(kK ot s.cnt (rm s t)).G.map tg,?_,aqt hf (by omega),hc,g3,by simp;omega,?_,?_⟩
   .rw[hW,ke]
    rfl
   .rw[vI];exact p1
   .rw[vI];exact p2
  .rw[aG (λh=>hq h.2)]at hW
   obtain⟨e,he,hW⟩:=hW;exact .inl ⟨e,he,_,_,_,_,_,_,_,_,_,_,_,_,_,hW⟩
 .have he:(dg 4 sz ot s != 0)=true:=by simpa using hc
  have hx:ev P (.call CN [.d (.ag [nm,I' 4,I' sz,I' ot]),.d (.ag s.row),.d (I' t)] [])=some (.val (.tu [.d (.ag ny),.d (I' 1)]) []):=by
   rw[au Yw rfl];simp only[S.row]at *;simp[CX,bQ,he,az,av]
  exact .inl ⟨1,by decide,_,_,_,_,_,_,_,_,_,_,_,_,_,hx⟩
end Go.VS.Sp
namespace Go.VS.M
open Go.VS.Sp
def WK(own:Int)(q:List Sp.W)(t:Int):Rp:=if q.any (λw=>w.task==t)=true then⟨own,q.filter (λw=>w.task != t),false,false,none,0⟩else zr 7
def GR(k sz ot own cnt time:Int)(hs:List Int)(q:List Sp.W)(bs:List Int)(cs:List (List D))(cl:Bool)(val:Int)(t:Int):Rp :=
 if dN k sz ot=0 then(if iX own cnt time hs q bs cs cl val=true then WK own q t else zr 1)else zr (dN k sz ot)
theorem aqv(nm k sz ot s0 s1 s2 s3 s4 s5 s6 s7 s8 t:D)(e:Int)(he:e≠0)
  (hC:ev P (.call oS [.d (.ag [nm,k,sz,ot]),.d (.ag [s0,s1,s2,s3,s4,s5,s6,s7,s8])] [])=some (.val (.d (I' e)) [])):
  iA (ev P (.call EF [.d (.ag [nm,k,sz,ot]),.d (.ag [s0,s1,s2,s3,s4,s5,s6,s7,s8]),.d t] [])) (zr e):=by
 have he':(e != 0)=true:=by simpa using he
 refine⟨true,true,true,true,true,?_,by simp[zr]⟩
 rw[au Tr rfl];simp[H6,hC,he',zr]
theorem Wc(nm:D)(k sz ot own cnt time:Int)(hn:Bool)(hs:List Int)(qn:Bool)(q:List Sp.W)(bn:Bool)(bs:List Int)(cn:Bool)(cs:List (List D))(cl:Bool)(val:Int)(t:Int)
  (h1:hs.length<=1000000)(h2:q.length<=1000000)(h3:bs.length<=1000000)(h4:cs.length<=1000000):
  iA (ev P (.call EF [.d (.ag [nm,I' k,I' sz,I' ot]),.d (.ag [I' own,I' cnt,I' time,hD hn hs,qD qn q,hD bn bs,cD cn cs,.b cl,I' val]),.d (I' t)] []))
   (GR k sz ot own cnt time hs q bs cs cl val t):=by
 have hC:=oA nm k sz ot own cnt time hn hs qn q bn bs cn cs cl val h1 h2 h3 h4;unfold GR;by_cases hm:dN k sz ot=0
 .rw[aN hm]at hC⊢
  by_cases hv:iX own cnt time hs q bs cs cl val=true
  .rw[aN hv]at hC⊢
   obtain⟨⟨rfl,rfl,rfl,rfl,rfl,rfl,rfl⟩,hl,m⟩:=AB.1 hv;have hw:=am6 (own:=own) (cnt:=0) (time:=0) (h1:=hD hn []) (h2:=hD bn []) (h3:=cD cn []) (qn:=qn) (q:=q) (cl:=false) (val:=0) t h2;unfold WK;cases hW:q.any λw=>w.task==t
   .rw[aG (by simp)]
    rw[hW]at hw;refine⟨true,true,true,true,true,?_,by simp[zr]⟩
    rw[au Tr rfl];simp[H6,hC,hw,zr]
   .rw[aN rfl]
    rw[hW]at hw;have hr:=yP qn q t h2;refine⟨hn,(q.filter λw=>w.task != t).isEmpty,bn,cn,true,?_,by simp⟩
    rw[au Tr rfl];simp[H6,hC,hw,hr]
  .rw[aG hv]at hC⊢
   exact aqv _ _ _ _ _ _ _ _ _ _ _ _ _ _ 1 (by decide) hC
 .rw[aG hm]at hC⊢
  exact aqv _ _ _ _ _ _ _ _ _ _ _ _ _ _ _ hm hC
end Go.VS.M
namespace Go.VS.M
open Go.VS.Sp
theorem aqw{q:List Sp.W}{b:Nat}{a:Sp.W}(h:a∈q.take b):∃k,k<b/\q[k]?=some a:=by
 obtain⟨k,hk⟩:=XQ.1 h;rw[zf]at hk;split at hk
 .exact⟨k,by assumption,hk⟩
 .simp at hk
theorem aqx{q:List Sp.W}{b:Nat}{a:Sp.W}(h:a∈q.drop b):∃k,b<=k/\q[k]?=some a:=by
 obtain⟨k,hk⟩:=XQ.1 h;rw[pX]at hk;exact⟨b+k,by omega,hk⟩
theorem aqy{own:Int}{q:List Sp.W}{t p:Int}(m:MV own q)(ht:cZ t=true)(hp:0<=p/\p<=9)(hw:(q.any λw=>w.task==t)=false)(he:(lq own q t p).e=0):
  MV (lq own q t p).own (lq own q t p).q:=by
 have ht':0<=t/\t<16:=by simpa[cZ]using ht
 unfold lq at he⊢;split
 .rename_i h
  have ho:own = -1:=by simpa using h
  have hq:=m.free ho;subst hq;exact⟨.inr ht',λh=>rfl,by simp[uj],by simp,by simp⟩
 .rename_i h
  rw[aG h]at he;have ho:own≠-1:=by simpa using h
  split
  .rename_i h2
   rw[aN h2]at he;simp[zr]at he
  .rename_i h2
   have fA:own≠t:=by simpa using h2
   have aqz:q=q.take (iq p q)++q.drop (iq p q):=(AO ..).symm;have h1:∀a,a∈q.take (iq p q)->p<=a.prio:=λa ha=>by
    obtain⟨k,hk,hka⟩:=aqw ha;exact(JV m.desc hka).1 hk
   have h3:∀a,a∈q.drop (iq p q)->a.prio<=p:=λa ha=>by
    obtain⟨k,hk,hka⟩:=aqx ha;have:=JV (p:=p) m.desc hka;omega
   have hne:∀a,a∈q->a.task≠t:=by simpa using hw
   have hd:=m.desc;unfold uj at hd;rw[aqz,oN]at hd;have hs:=m.AA;rw[aqz,oN]at hs;refine⟨m.sK,λh=>absurd h ho,?_,?_,?_⟩
   .unfold uj
    show List.Pairwise _ (q.take (iq p q)++_::q.drop (iq p q))
    rw[oN,gE];refine⟨hd.1,⟨λa ha=>h3 a ha,hd.2.1⟩,λa ha b hb=>?_⟩
    rcases dD.1 hb with rfl |hb
    .exact h1 a ha
    .exact hd.2.2 a ha b hb
   .show List.Pairwise _ (q.take (iq p q)++_::q.drop (iq p q))
    rw[oN,gE];refine⟨hs.1,⟨λa ha=>(hne a (mV ha)).symm,hs.2.1⟩,λa ha b hb=>?_⟩
    rcases dD.1 hb with rfl |hb
    .exact hne a (oa ha)
    .exact hs.2.2 a ha b hb
   .intro w hw'
    rcases dm.1 hw' with h |h
    .exact m.all w (oa h)
    .rcases dD.1 h with rfl |h
     .refine⟨rfl,rfl,rfl,λh=>fA h.symm,?_,?_,?_,?_⟩<;>simp<;>omega
     .exact m.all w (mV h)
theorem aqA{own:Int}{q:List Sp.W}{t:Int}(m:MV own q)(he:(BZ own q t).e=0):MV (BZ own q t).own (BZ own q t).q:=by
 unfold BZ at he⊢;split
 .rename_i h
  rw[aN h]at he;simp[zr]at he
 .cases q with
  |nil=>exact⟨.inl rfl,λ_=>rfl,by simp[uj],by simp,by simp⟩
  |cons w r =>
   have hd:=m.desc;unfold uj at hd;rw[gE]at hd;have hs:=m.AA;rw[gE]at hs;have hw:=m.all w (by simp)
   refine⟨.inr ⟨hw.2.2.2.2.1,hw.2.2.2.2.2.1⟩,λh=>by have:=hw.2.2.2.2.1;simp at h;omega,hd.2,hs.2,λx hx=>?_⟩
   have:=m.all x (by simp[hx])
   have h1:=hs.1 x hx;exact⟨this.1,this.2.1,this.2.2.1,λh=>h1 h.symm,this.2.2.2.2⟩
theorem aqB{own:Int}{q:List Sp.W}{t p:Int}(m:MV own q)(ht:cZ t=true)(hp:0<=p/\p<=9)(hw:(q.any λw=>w.task==t)=false)(he:(B0 own q t p).e=0):
  MV (B0 own q t p).own (B0 own q t p).q:=by
 unfold B0 at he⊢;split
 .exact m
 .rename_i h
  rw[aG h]at he;exact aqy m ht hp hw he
theorem aqC{own:Int}{q:List Sp.W}{o t p:Int}(m:MV own q)(he:(qx own q o t p).e=0):MV (qx own q o t p).own (qx own q o t p).q:=by
 unfold qx at he⊢;split
 .rename_i h;rw[aN h]at he;simp[zr]at he
 rename_i h;rw[aG h]at he;split
 .rename_i h;rw[aN h]at he;simp[zr]at he
 rename_i h2;rw[aG h2]at he;have h2':cZ t=true/\0<=p/\p<=9:=by simp at h2;exact⟨h2.1.1,h2.1.2,h2.2⟩
 split
 .rename_i h;rw[aN h]at he;simp[zr]at he
 rename_i h3;rw[aG h3]at he;have hw:(q.any λw=>w.task==t)=false:=by simpa using h3
 split
 .rename_i h;rw[aN h]at he
  exact aqy m h2'.1 h2'.2 hw he
 rename_i h;rw[aG h]at he;split
 .rename_i h;rw[aN h]at he
  exact aqB m h2'.1 h2'.2 hw he
 .rename_i h;rw[aG h]at he
  exact aqA m he
theorem aqD{own:Int}{q:List Sp.W}(f:Sp.W->Bool)(m:MV own q):MV own (q.filter f):=
 ⟨m.sK,λh=>by rw[m.free h];rfl,m.desc.filter f,m.AA.filter f,λw hw=>m.all w ((lF.1 hw).1)⟩
theorem aqE{own:Int}{q:List Sp.W}(m:MV own q)(h:q.length<=96):iX own 0 0 [] q [] [] false 0=true:=AB.2 ⟨⟨rfl,rfl,rfl,rfl,rfl,rfl,rfl⟩,h,m⟩
end Go.VS.M
