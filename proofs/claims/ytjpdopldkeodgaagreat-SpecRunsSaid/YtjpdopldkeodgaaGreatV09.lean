import Derived.Test.YtjpdopldkeodgaaGreatV08
set_option linter.all false
set_option maxHeartbeats 1000000
namespace Go.VS.Sp
structure S.sz(s:S):Prop where
 h:s.H.length<=10000
 b:s.B.length<=10000
 q:s.Q.length<=10000
 c:s.C.length<=1000
 l:∀c∈s.C,c.log.length<=10000
theorem S.sz.sm{s:S}(h:s.sz):s.sm:=⟨by have:=h.h;omega,by have:=h.b;omega,by have:=h.q;omega,by have:=h.c;omega,λc hc=>by have:=h.l c hc;omega⟩
theorem qz{n:Int}{b:Bool}:(ck n b==0)=(n==0&&b):=by
 unfold ck;by_cases h:n=0
 .cases b<;>simp[h]
 .simp[h]
def we(k sz:Int):List D:=if k=4\/k=8 then grow sz else gn
end Go.VS.Sp
namespace Go.VS.Sp
theorem agr(nm:D)(sz ot:Int)(s:S)(hq:s.Q=[])(hs:s.sm):
  ev P (.call vM [.d (.ag [.fn sX [] [],.fn ql [] []]),.d (.ag [nm,I' 1,I' sz,I' ot]),.d (.ag s.row)] [])=some (.val (.d (.b (cU 1 sz ot s))) []):=by
 have h:=SQ nm 1 sz ot s hq hs;have e:cU 1 sz ot s=(ck (dR 1 1 sz ot) (pP s)==0):=by
  unfold cU;rw[qz];simp[fZ,gB,iY,iC,hq,qz]
 rw[e];simp only[S.row]at h;rw[au Ia rfl];simp[CN,h,eE,fA]
theorem ags(nm:D)(sz ot:Int)(s:S)(hq:s.Q=[])(hs:s.sm):
  ev P (.call vM [.d (.ag [.fn sY [] [],.fn l5 [] []]),.d (.ag [nm,I' 2,I' sz,I' ot]),.d (.ag s.row)] [])=some (.val (.d (.b (cU 2 sz ot s))) []):=by
 have h:=SU nm 2 sz ot s hq hs;have e:cU 2 sz ot s=(ck (dR 2 2 sz ot) (okW s)==0):=by
  unfold cU;rw[qz];simp[fZ,gB,iY,iC,hq,qz]
 rw[e];simp only[S.row]at h;rw[au Ia rfl];simp[CN,h,eE,fA]
theorem agt(nm:D)(sz ot:Int)(s:S)(hq:s.Q=[])(hs:s.sm):
  ev P (.call vM [.d (.ag [.fn uu [] [],.fn qZ [] []]),.d (.ag [nm,I' 4,I' sz,I' ot]),.d (.ag s.row)] [])=some (.val (.d (.b (cU 4 sz ot s))) []):=by
 have h:=SR nm 4 sz ot s hq hs;have e:cU 4 sz ot s=(ck (iV 4 sz ot) (qw sz s)==0):=by
  unfold cU;rw[qz];simp[fZ,gB,iY,iC,hq,qz]
 rw[e];simp only[S.row]at h;rw[au Ia rfl];simp[CN,h,eE,fA]
theorem agu(nm:D)(sz ot:Int)(s:S)(hq:s.Q=[])(hs:s.sm):
  ev P (.call vM [.d (.ag [.fn uz [] [],.fn nU [] []]),.d (.ag [nm,I' 8,I' sz,I' ot]),.d (.ag s.row)] [])=some (.val (.d (.b (cU 8 sz ot s))) []):=by
 have h:=SV nm 8 sz ot s hq hs;have e:cU 8 sz ot s=(ck (jv 8 sz ot) (qx sz s)==0):=by
  unfold cU;rw[qz];simp[fZ,gB,iY,iC,hq,qz]
 rw[e];simp only[S.row]at h;rw[au Ia rfl];simp[CN,h,eE,fA]
theorem agv(nm:D)(sz ot:Int)(s:S)(hq:s.Q=[])(hs:s.sm):
  ev P (.call vM [.d (.ag [.fn uA [] [],.fn qm [] []]),.d (.ag [nm,I' 9,I' sz,I' ot]),.d (.ag s.row)] [])=some (.val (.d (.b (cU 9 sz ot s))) []):=by
 have h:=SX nm 9 sz ot s hq;have e:cU 9 sz ot s=(ck (dR 9 9 sz ot) (okF s)==0):=by
  unfold cU;rw[qz];simp[fZ,gB,iY,iC,hq,qz]
 rw[e];simp only[S.row]at h;rw[au Ia rfl];simp[CN,h,eE,fA]
theorem agw(nm:D)(sz ot:Int)(s:S)(hq:s.Q=[])(hs:s.sm):
  ev P (.call Rj [.d (.ag [.fn uw [] [],.fn oG [] []]),.d (.ag [nm,I' 5,I' sz,I' ot]),.d (.ag s.row)] [])=some (.val (.d (.b (cU 5 sz ot s))) []):=by
 have h:=SS nm 5 sz ot {s with val:=0} hq ⟨hs.h,hs.b,hs.q,hs.c,hs.l⟩;have e:cU 5 sz ot s=(decide (0<=s.val)&&(decide (s.val<sz)&&(ck (iW 5 sz ot) (okB {s with val:=0})==0))):=by
  unfold cU;rw[qz];have e1:(decide (s.val<0)||decide (sz<=s.val))=!(decide (0<=s.val)&&decide (s.val<sz)):=by rw[xB];simp
  rw[e1];simp[fZ,gB,iY,iC,hq,qz];cases(iW 5 sz ot==0)<;>cases decide (0<=s.val)<;>cases decide (s.val<sz)<;>simp
 rw[e];simp only[S.row]at h;generalize ck (iW 5 sz ot) (okB {s with val:=0})=r at *;rw[au afs rfl];cases h1:decide (0<=s.val)
 .simp[HX,h1]
 .cases h2:decide (s.val<sz)
  .simp[HX,h1,h2]
  .simp[HX,h1,h2,h,eE,fA]
theorem Yl(o c t:Int)(q:Bool):(bare o c t q).sm:=⟨by simp[bare],by simp[bare],by simp[bare],by simp[bare],by simp[bare]⟩
theorem agx(nm:D)(sz ot:Int)(s:S)(hq:s.Q=[])(hs:s.sm):
  ev P (.call Rk [.d (.ag [.fn ux [] [],.fn gr [] []]),.d (.ag [nm,I' 6,I' sz,I' ot]),.d (.ag s.row)] [])=some (.val (.d (.b (cU 6 sz ot s))) []):=by
 have h:=M8 nm 6 (dm sz) ot s hq hs;have h0:=M8 nm 6 sz ot (bare (-1) 0 0 true) rfl (Yl _ _ _ _);have hR:=Nc nm 6 sz ot;have e0:(ck (gZ 6 sz ot) (mU sz (bare (-1) 0 0 true))==0)=(gZ 6 sz ot==0):=by
  rw[qz];cases hn:gZ 6 sz ot==0
  .rfl
  .have:¬sz<0:=by
    intro hlt;have hn2:gZ 6 sz ot=0:=by simpa using hn
    unfold gZ at hn2;simp[hlt]at hn2
   simp[mU,v7,bare,this]
 have e:cU 6 sz ot s=((gZ 6 sz ot==0)&&(ck (gZ 6 (dm sz) ot) (mU (dm sz) s)==0)):=by
  unfold cU;simp[fZ,gB,iY,iC,hq]
 rw[e,<-e0];simp only[S.row]at h;generalize ck (gZ 6 (dm sz) ot) (mU (dm sz) s)=r at *;generalize ck (gZ 6 sz ot) (mU sz (bare (-1) 0 0 true))=r0 at *;have h0:ev P (.call gr [.d (.ag [nm,I' 6,I' sz,I' ot]),.d (.ag [I' (-1),I' 0,I' 0,.sl 1 true [],.sl 5 true [],.sl 1 true [],.sl 2 true [],.b false,I' 0])] [])=some (.val (.d (I' r0)) []):=h0;rw[au afu rfl];cases h1:r0==0
 .simp[MN,h0,h1,eE,fA]
 .simp[MN,h0,h1,hR,h,eE,fA]
theorem agy(nm:D)(sz ot:Int)(s:S)(hq:s.Q=[])(hs:s.sm):
  ev P (.call Rl [.d (.ag [.fn uy [] [],.fn su [] []]),.d (.ag [nm,I' 7,I' sz,I' ot]),.d (.ag s.row)] [])=some (.val (.d (.b (cU 7 sz ot s))) []):=by
 have h:=qu nm 7 (dm sz) ot s hs;have h0:=qu nm 7 sz ot (bare (-1) 0 0 true) (Yl _ _ _ _);have hR:=Nc nm 7 sz ot;have e0:(fN 7 sz ot (bare (-1) 0 0 true)==0)=(dQ 7 sz ot==0):=by
  unfold fN;by_cases hn:dQ 7 sz ot=0
  .simp[hn,S.good,bare,vc,tq,ej,fU,S.uL]
  .simp[hn]
 have e:cU 7 sz ot s=((dQ 7 sz ot==0)&&(fN 7 (dm sz) ot s==0)):=by
  unfold cU;simp[fZ,gB,iY,iC,hq]
 rw[e,<-e0];simp only[S.row]at h;generalize fN 7 (dm sz) ot s=r at *;generalize fN 7 sz ot (bare (-1) 0 0 true)=r0 at *;have h0:ev P (.call su [.d (.ag [nm,I' 7,I' sz,I' ot]),.d (.ag [I' (-1),I' 0,I' 0,.sl 1 true [],.sl 5 true [],.sl 1 true [],.sl 2 true [],.b false,I' 0])] [])=some (.val (.d (I' r0)) []):=h0;rw[au afx rfl];cases h1:r0==0
 .simp[MO,h0,h1,eE,fA]
 .simp[MO,h0,h1,hR,h,eE,fA]
end Go.VS.Sp
namespace Go.VS.Sp
theorem oN{k sz ot:Int}{s:S}(h:cU k sz ot s=true):fZ k sz ot=0/\s.Q=[]/\(k=5->0<=s.val/\s.val<sz)/\gB k (iY k sz) ot (iC k s)=0:=by
 unfold cU at h;simp only[bE,dM,JZ]at h;obtain⟨⟨⟨h1,h2⟩,h3⟩,h4⟩:=h;refine⟨h1,h2,λh5=>?_,h4⟩
 simp[h5]at h3;omega
theorem CZ{n:Int}{b:Bool}(h:ck n b=0):b=true:=by
 have:(ck n b==0)=true:=by simp[h]
 rw[qz,bE]at this;exact this.2
theorem C0{n:Int}{b:Bool}(h:ck n b=0):n=0:=by
 have:(ck n b==0)=true:=by simp[h]
 rw[qz,bE]at this;simpa using this.1
theorem Ym{sz ot:Int}{s:S}(h:cU 1 sz ot s=true):pP s=true:=by
 obtain⟨_,_,_,h⟩:=oN h;exact CZ (by simpa[gB,iY,iC]using h)
theorem Yn{sz ot:Int}{s:S}(h:cU 2 sz ot s=true):okW s=true:=by
 obtain⟨_,_,_,h⟩:=oN h;exact CZ (by simpa[gB,iY,iC]using h)
theorem S7{sz ot:Int}{s:S}(h:cU 4 sz ot s=true):iV 4 sz ot=0/\qw sz s=true:=by
 obtain⟨_,_,_,h⟩:=oN h;have h:ck (iV 4 sz ot) (qw sz s)=0:=by simpa[gB,iY,iC]using h
 exact⟨C0 h,CZ h⟩
theorem Yo{sz ot:Int}{s:S}(h:cU 5 sz ot s=true):iW 5 sz ot=0/\okB {s with val:=0}=true/\0<=s.val/\s.val<sz:=by
 obtain⟨_,_,h5,h⟩:=oN h;have h:ck (iW 5 sz ot) (okB {s with val:=0})=0:=by simpa[gB,iY,iC]using h
 exact⟨C0 h,CZ h,h5 rfl⟩
theorem agz{sz ot:Int}{s:S}(h:cU 6 sz ot s=true):gZ 6 sz ot=0/\mU (dm sz) s=true:=by
 obtain⟨h0,_,_,h⟩:=oN h;have h:ck (gZ 6 (dm sz) ot) (mU (dm sz) s)=0:=by simpa[gB,iY,iC]using h
 exact⟨by simpa[fZ]using h0,CZ h⟩
theorem Yp{sz ot:Int}{s:S}(h:cU 7 sz ot s=true):dQ 7 sz ot=0/\S.good (dm sz) s=true:=by
 obtain⟨h0,_,_,h⟩:=oN h;have h:fN 7 (dm sz) ot s=0:=by simpa[gB,iY,iC]using h
 refine⟨by simpa[fZ]using h0,?_⟩
 unfold fN at h;split at h
 .split at h
  .assumption
  .simp at h
 .rename_i h2;exact absurd h h2
theorem Yq{sz ot:Int}{s:S}(h:cU 8 sz ot s=true):jv 8 sz ot=0/\qx sz s=true:=by
 obtain⟨_,_,_,h⟩:=oN h;have h:ck (jv 8 sz ot) (qx sz s)=0:=by simpa[gB,iY,iC]using h
 exact⟨C0 h,CZ h⟩
theorem agA{s:S}(h:pP s=true):s.own = -1\/cW s.own=true:=by
 unfold pP at h;simp at h;exact h.1
theorem Yr{n:Int}(h:cW n=true):0<=n/\n<16:=Nd.1 h
theorem agB{s:S}(h:okW s=true):gH s.H/\(∀x∈s.H,cW x=true)/\(s.own = -1\/(cW s.own=true/\s.H=[])):=by
 unfold okW at h;rw[bE]at h;obtain⟨h1,h2⟩:=h;obtain⟨_,h3,h4⟩:=(M9 s.H none).1 h2;refine⟨h3,h4,?_⟩;unfold CV at h1;rw[M6]at h1;by_cases ho:s.own = -1
 .exact .inl ho
 .right
  simp[ho]at h1;obtain⟨⟨⟨⟨⟨⟨h5,_⟩,_⟩,_⟩,_⟩,_⟩,_⟩:=h1;exact h5
theorem Ys{sz ot:Int}(h:iV 4 sz ot=0):1<=sz/\sz<=100:=by
 unfold iV at h;simp at h;omega
theorem Ni{sz ot:Int}(h:iW 5 sz ot=0):1<=sz/\sz<=100:=by
 unfold iW at h;simp at h;omega
theorem Nj{sz ot:Int}(h:jv 8 sz ot=0):1<=sz/\sz<=100/\1<=ot/\ot<=1099511627776:=by
 unfold jv at h;simp at h;omega
theorem Yt{sz:Int}{s:S}(h:qw sz s=true):0<=s.cnt/\s.cnt<=sz:=by
 unfold qw at h;simp at h;omega
theorem agC{s:S}(h:okB s=true):0<=s.cnt/\s.cnt<=1099511627776:=by
 unfold okB at h;simp at h;omega
theorem Yu{sz:Int}{s:S}(h:qx sz s=true):(0<=s.cnt/\s.cnt<=sz)/\0<=s.time/\s.time<=1099511627776:=by
 unfold qx at h;simp at h;omega
theorem agD{sz:Int}{s:S}(h:S.good sz s=true):gH (qy s)/\∀x∈s.C,cW x.task=true/\¬sz<x.log.length/\x.log.all num=true:=by
 unfold S.good at h;simp only[bE]at h;obtain⟨_,h1,h2⟩:=(Na sz s.C none).1 h.1.2.1;exact⟨h1,h2⟩
theorem S8{c:Cl}(h:cC c=false):cW c.task=true/\0<=c.now/\c.now<=1099511627776:=by
 unfold cC at h;simp at h;refine⟨Nd.2 (by omega),by omega,by omega⟩
theorem agE(nm:D)(sz ot:Int)(s:S)(c:Cl)(hw:s.wf)(hz:s.sz)(ha:cU 1 sz ot s=true)(hc:cC c=false)(hb:dD 1 c.op=true)(hf:fit 1 sz c=true):
  Rel (ev P (.call LD [.d (.ag [.fn sX [] [],.fn ql [] []]),.d (.ag [nm,I' 1,I' sz,I' ot]),.d (.ag s.row),.d (.ag c.row)] [])) (raw 1 sz ot s.pl c):=by
 have h1:=agA (Ym ha);have h2:s.own = -1\/0<=s.own:=by
  rcases h1 with h |h
  .exact .inl h
  .exact .inr (Yr h).1
 have e:raw 1 sz ot s.pl c=eM s.pl c:=rfl;rw[e];exact af4 _ rfl _ _ s hw c h2
theorem agF(nm:D)(sz ot:Int)(s:S)(c:Cl)(hw:s.wf)(hz:s.sz)(ha:cU 2 sz ot s=true)(hc:cC c=false)(hb:dD 2 c.op=true)(hf:fit 2 sz c=true):
  Rel (ev P (.call LF [.d (.ag [.fn sY [] [],.fn l5 [] []]),.d (.ag [nm,I' 2,I' sz,I' ot]),.d (.ag s.row),.d (.ag c.row)] [])) (raw 2 sz ot s.pl c):=by
 obtain⟨h1,h2,h3⟩:=agB (Yn ha);have h4:s.own = -1\/0<=s.own:=by
  rcases h3 with h |h
  .exact .inl h
  .exact .inr (Yr h.1).1
 have h5:s.own = -1\/s.H=[]:=by
  rcases h3 with h |h
  .exact .inl h
  .exact .inr h.2
 have hl:=hz.h;have e:raw 2 sz ot s.pl c=eW s.pl c:=rfl;rw[e];exact age _ rfl _ _ s hw c h1 (by omega) h4
theorem agG(nm:D)(sz ot:Int)(s:S)(c:Cl)(hw:s.wf)(hz:s.sz)(ha:cU 4 sz ot s=true)(hc:cC c=false)(hb:dD 4 c.op=true)(hf:fit 4 sz c=true):
  Rel (ev P (.call LG [.d (.ag [.fn uu [] [],.fn qZ [] []]),.d (.ag [nm,I' 4,I' sz,I' ot]),.d (.ag s.row),.d (.ag c.row)] [])) (raw 4 sz ot s.pl c):=by
 obtain⟨h1,h2⟩:=S7 ha;have h3:=Ys h1;have h4:=Yt h2;have h5:1<=c.value/\c.value<=sz:=by simpa[fit]using hf
 have e:raw 4 sz ot s.pl c=eS sz s.pl c:=rfl;rw[e];exact af5 _ _ nm 4 sz ot s hw c h3.2 h4 h5
theorem agH(nm:D)(sz ot:Int)(s:S)(c:Cl)(hw:s.wf)(hz:s.sz)(ha:cU 5 sz ot s=true)(hc:cC c=false)(hb:dD 5 c.op=true)(hf:fit 5 sz c=true):
  Rel (ev P (.call LH [.d (.ag [.fn uw [] [],.fn oG [] []]),.d (.ag [nm,I' 5,I' sz,I' ot]),.d (.ag s.row),.d (.ag c.row)] [])) (raw 5 sz ot s.pl c):=by
 obtain⟨h1,h2,h3,h4⟩:=Yo ha;have h5:=Ni h1;have h6:=agC h2;simp only at h6;have e:raw 5 sz ot s.pl c=eB sz s.pl:=rfl;rw[e];exact af6 _ rfl _ _ nm 5 sz ot s hw h5.2 ⟨h3,h4⟩ h6
theorem agI(nm:D)(sz ot:Int)(s:S)(c:Cl)(hw:s.wf)(hz:s.sz)(ha:cU 6 sz ot s=true)(hc:cC c=false)(hb:dD 6 c.op=true)(hf:fit 6 sz c=true):
  Rel (ev P (.call LI [.d (.ag [.fn ux [] [],.fn gr [] []]),.d (.ag [nm,I' 6,I' sz,I' ot]),.d (.ag s.row),.d (.ag c.row)] [])) (raw 6 sz ot s.pl c):=by
 have h1:c.op=64\/c.op=65\/c.op=66:=by
  simp[dD]at hb;omega
 have hl:=hz.b;have e:raw 6 sz ot s.pl c=eC (dm sz) s.pl c:=rfl;rw[e];exact agi _ _ nm 6 sz ot s hw c h1 (by omega)
theorem agJ(nm:D)(sz ot:Int)(s:S)(c:Cl)(hw:s.wf)(hz:s.sz)(ha:cU 7 sz ot s=true)(hc:cC c=false)(hb:dD 7 c.op=true)(hf:fit 7 sz c=true):
  Rel (ev P (.call CD [.d (.ag [.fn uy [] [],.fn su [] []]),.d (.ag [nm,I' 7,I' sz,I' ot]),.d (.ag s.row),.d (.ag c.row)] [])) (raw 7 sz ot s.pl c):=by
 obtain⟨_,h1⟩:=Yp ha;obtain⟨h2,h3⟩:=agD h1;have hk:s.tk:=⟨h2,λx hx=>(h3 x hx).1,hz.c,λx hx=>by have:=hz.l x hx;omega⟩
 have ht:=(S8 hc).1;have h4:c.op=68\/c.op=69\/c.op=70\/c.op=71:=by
  simp[dD]at hb;omega
 have e:raw 7 sz ot s.pl c=eT (dm sz) s.pl c:=rfl;rw[e];rcases h4 with h |h |h |h
 .exact agq _ _ nm 7 sz ot s hw c hk ht h
 .exact agk _ _ nm 7 sz ot s hw c hk ht h
 .exact agm _ _ nm 7 sz ot s hw c hk ht h
 .exact agl _ _ nm 7 sz ot s hw c hk ht h
theorem agK(nm:D)(sz ot:Int)(s:S)(c:Cl)(hw:s.wf)(hz:s.sz)(ha:cU 8 sz ot s=true)(hc:cC c=false)(hb:dD 8 c.op=true)(hf:fit 8 sz c=true):
  Rel (ev P (.call LJ [.d (.ag [.fn uz [] [],.fn nU [] []]),.d (.ag [nm,I' 8,I' sz,I' ot]),.d (.ag s.row),.d (.ag c.row)] [])) (raw 8 sz ot s.pl c):=by
 obtain⟨h1,h2⟩:=Yq ha;have h3:=Nj h1;have h4:=Yu h2;have h5:=(S8 hc).2;have h6:c.op=72\/c.op=75:=by simpa[dD]using hb
 have h7:c.op=72->1<=c.value/\c.value<=sz:=by
  intro h;simpa[fit,h]using hf
 have e:raw 8 sz ot s.pl c=eL sz ot s.pl c:=rfl;rw[e];exact af8 _ _ nm 8 sz ot s hw c ⟨h3.1,h3.2.1⟩ h3.2.2 h4.1 h4.2 h5 h6 h7
theorem agL(nm:D)(sz ot:Int)(s:S)(c:Cl)(hw:s.wf)(hz:s.sz)(ha:cU 9 sz ot s=true)(hc:cC c=false)(hb:dD 9 c.op=true)(hf:fit 9 sz c=true):
  Rel (ev P (.call LL [.d (.ag [.fn uA [] [],.fn qm [] []]),.d (.ag [nm,I' 9,I' sz,I' ot]),.d (.ag s.row),.d (.ag c.row)] [])) (raw 9 sz ot s.pl c):=by
 have h1:c.op=73\/c.op=74:=by simpa[dD]using hb
 have e:raw 9 sz ot s.pl c=eF s.pl c:=rfl;rw[e];exact af7 _ rfl _ _ s hw c h1
end Go.VS.Sp
namespace Go.VS.Sp
theorem Yv(sz:Int):∀(C:List K)(p:Option K),vc sz (p.map K.pl) (C.map K.pl)=vc sz p C
 | [],_=>rfl
 |c::C,p=>by
  have ih:=Yv sz C (some c);have e:lE sz (p.map K.pl) (K.pl c)=lE sz p c:=by
   unfold lE;cases p<;>rfl
  show(!lE sz (p.map K.pl) (K.pl c)&&((K.pl c).log.all num&&vc sz ((some c).map K.pl) (C.map K.pl)))=(!lE sz p c&&(c.log.all num&&vc sz (some c) C))
  rw[e,ih];rfl
theorem S9(k sz ot:Int)(s:S)(hq:s.Q=[]):gB k sz ot s.pl=gB k sz ot s:=by
 have hl:s.pl.C.length=s.C.length:=by simp[S.pl]
 have e1:pP s.pl=pP s:=by unfold pP;rw[hl];first |done |rfl
 have e2:okW s.pl=okW s:=by unfold okW CV;rw[hl];first |done |rfl
 have e3:qw sz s.pl=qw sz s:=by unfold qw;rw[hl];first |done |rfl
 have e4:okB s.pl=okB s:=by unfold okB;rw[hl];first |done |rfl
 have e5:mU sz s.pl=mU sz s:=by unfold mU v7;rw[hl];first |done |rfl
 have e6:fN k sz ot s.pl=fN k sz ot s:=by
  have h1:s.pl.Q=[]:=hq;have h2:=Yv sz s.C none;simp only[Option.map_none]at h2;unfold fN S.good;rw[h1,hq];have h3:s.pl.C=s.C.map K.pl:=rfl;have h4:s.pl.uL=s.uL:=rfl;have h5:s.pl.own=s.own:=rfl;rw[h3,h2,h4,h5];rfl
 have e7:qx sz s.pl=qx sz s:=by unfold qx;rw[hl];first |done |rfl
 have e8:okF s.pl=okF s:=by simp[okF,uP,S.pl,JZ]
 unfold gB;rw[e1,e2,e3,e4,e5,e6,e7,e8]
theorem A9(k sz ot:Int)(s:S):cU k sz ot s.pl=cU k sz ot s:=by
 unfold cU;have h1:s.pl.Q=s.Q:=rfl;have h2:s.pl.val=s.val:=rfl;have h3:iC k s.pl=(iC k s).pl:=by unfold iC;split<;>rfl
 rw[h1,h2,h3];by_cases hq:s.Q=[]
 .rw[S9 _ _ _ _ (by unfold iC;split<;>simp[hq])]
 .have:s.Q.isEmpty=false:=by simpa[JZ]using hq
  simp[this]
theorem Yw{k sz ot:Int}(h:fZ k sz ot=0):k=1\/k=2\/k=4\/k=5\/k=6\/k=7\/k=8\/k=9:=by
 by_cases h1:k=1
 .exact .inl h1
 by_cases h2:k=2
 .exact .inr (.inl h2)
 by_cases h4:k=4
 .exact .inr (.inr (.inl h4))
 by_cases h5:k=5
 .exact .inr (.inr (.inr (.inl h5)))
 by_cases h6:k=6
 .exact .inr (.inr (.inr (.inr (.inl h6))))
 by_cases h7:k=7
 .exact .inr (.inr (.inr (.inr (.inr (.inl h7)))))
 by_cases h8:k=8
 .exact .inr (.inr (.inr (.inr (.inr (.inr (.inl h8))))))
 by_cases h9:k=9
 .exact .inr (.inr (.inr (.inr (.inr (.inr (.inr h9))))))
 simp[fZ,h1,h2,h4,h5,h6,h7,h8,h9]at h
theorem Ta{k sz ot:Int}{s:S}(h:cU k sz ot s=true):k=1\/k=2\/k=4\/k=5\/k=6\/k=7\/k=8\/k=9:=Yw (oN h).1
theorem agM:zN.wf:=⟨λ_=>rfl,λ_=>rfl,λ_=>rfl,by simp[zN]⟩
theorem Rel.fail{R:Option dN}(e:Int)(h:R=some (.val (.tu [.d (.ag ct),.d (I' 0),.d (.b false),.d (I' e)]) [])):Rel R (Sp.er zS e):=⟨zN,h,rfl,agM⟩
end Go.VS.Sp
namespace Go.VS.Sp
theorem ew(e:Int):ev P (.call Qo [.d (I' e)] [])=some (.val (.tu [.d (.ag ct),.d (I' 0),.d (.b false),.d (I' e)]) []):=by
 rw[au adM rfl];simp[Rt,ct]
theorem uR:ev P (.call sq [.d (I' 1)] [])=some (.val (.tu [.d (.mw 101 (.ag [.fn sX [] [],.fn ql [] []])),.d (.b true)]) []):=by
 rw[au zc rfl];simp[vP,ug]
theorem sD:ev P (.call sq [.d (I' 2)] [])=some (.val (.tu [.d (.mw 102 (.ag [.fn sY [] [],.fn l5 [] []])),.d (.b true)]) []):=by
 rw[au zc rfl];simp[vP,ug]
theorem rD:ev P (.call sq [.d (I' 4)] [])=some (.val (.tu [.d (.mw 103 (.ag [.fn uu [] [],.fn qZ [] []])),.d (.b true)]) []):=by
 rw[au zc rfl];simp[vP,ug]
theorem Ba:ev P (.call sq [.d (I' 5)] [])=some (.val (.tu [.d (.mw 104 (.ag [.fn uw [] [],.fn oG [] []])),.d (.b true)]) []):=by
 rw[au zc rfl];simp[vP,ug]
theorem tA:ev P (.call sq [.d (I' 6)] [])=some (.val (.tu [.d (.mw 105 (.ag [.fn ux [] [],.fn gr [] []])),.d (.b true)]) []):=by
 rw[au zc rfl];simp[vP,ug]
theorem rE:ev P (.call sq [.d (I' 7)] [])=some (.val (.tu [.d (.mw 106 (.ag [.fn uy [] [],.fn su [] []])),.d (.b true)]) []):=by
 rw[au zc rfl];simp[vP,ug]
theorem wg:ev P (.call sq [.d (I' 8)] [])=some (.val (.tu [.d (.mw 107 (.ag [.fn uz [] [],.fn nU [] []])),.d (.b true)]) []):=by
 rw[au zc rfl];simp[vP,ug]
theorem wh:ev P (.call sq [.d (I' 9)] [])=some (.val (.tu [.d (.mw 108 (.ag [.fn uA [] [],.fn qm [] []])),.d (.b true)]) []):=by
 rw[au zc rfl];simp[vP,ug]
theorem Yx{k:Int}(h:¬(k=1\/k=2\/k=4\/k=5\/k=6\/k=7\/k=8\/k=9)):ev P (.call sq [.d (I' k)] [])=some (.val (.tu [.d .Cc,.d (.b false)]) []):=by
 have b1:(k==1)=false:=by simp;omega
 have b2:(k==2)=false:=by simp;omega
 have b4:(k==4)=false:=by simp;omega
 have b5:(k==5)=false:=by simp;omega
 have b6:(k==6)=false:=by simp;omega
 have b7:(k==7)=false:=by simp;omega
 have b8:(k==8)=false:=by simp;omega
 have b9:(k==9)=false:=by simp;omega
 rw[au zc rfl];simp[vP,b1,b2,b4,b5,b6,b7,b8,b9]
theorem C1:ev P (.call xM [.d (I' 1)] [])=some (.val (.mp 0) [.mp [(I' 50,.d (I' 0)),(I' 51,.d (I' 0)),(I' 52,.d (I' 0))]]):=by
 rw[au A3 rfl];simp[xU,av,ak,cut,an]
theorem zo:ev P (.call xM [.d (I' 2)] [])=some (.val (.mp 0) [.mp [(I' 53,.d (I' 0)),(I' 54,.d (I' 0)),(I' 55,.d (I' 0)),(I' 56,.d (I' 0))]]):=by
 rw[au A3 rfl];simp[xU,av,ak,cut,an]
theorem xY:ev P (.call xM [.d (I' 4)] [])=some (.val (.mp 0) [.mp [(I' 60,.d (I' 1)),(I' 61,.d (I' 1)),(I' 62,.d (I' 1))]]):=by
 rw[au A3 rfl];simp[xU,av,ak,cut,an]
theorem Tb:ev P (.call xM [.d (I' 5)] [])=some (.val (.mp 0) [.mp [(I' 63,.d (I' 0))]]):=by
 rw[au A3 rfl];simp[xU,av,ak,cut,an]
theorem Bb:ev P (.call xM [.d (I' 6)] [])=some (.val (.mp 0) [.mp [(I' 64,.d (I' 2)),(I' 65,.d (I' 0)),(I' 66,.d (I' 0))]]):=by
 rw[au A3 rfl];simp[xU,av,ak,cut,an]
theorem xZ:ev P (.call xM [.d (I' 7)] [])=some (.val (.mp 0) [.mp [(I' 68,.d (I' 2)),(I' 69,.d (I' 0)),(I' 70,.d (I' 0)),(I' 71,.d (I' 0))]]):=by
 rw[au A3 rfl];simp[xU,av,ak,cut,an]
theorem Fj:ev P (.call xM [.d (I' 8)] [])=some (.val (.mp 0) [.mp [(I' 72,.d (I' 1)),(I' 75,.d (I' 0))]]):=by
 rw[au A3 rfl];simp[xU,av,ak,cut,an]
theorem Fk:ev P (.call xM [.d (I' 9)] [])=some (.val (.mp 0) [.mp [(I' 73,.d (I' 2)),(I' 74,.d (I' 0))]]):=by
 rw[au A3 rfl];simp[xU,av,ak,cut,an]
end Go.VS.Sp
namespace Go.VS.Sp
set_option maxHeartbeats 4000000 in
theorem agN(nm:D)(sz ot:Int)(s:S)(c:Cl)(hw:s.wf)(hz:s.sz):
  Rel (ev P (.call uq [.d (.ag [nm,I' 1,I' sz,I' ot]),.d (.ag s.row),.d (.ag c.row)] [])) (dU 1 sz ot s.pl c):=by
 unfold dU;rw[A9];rw[au zb rfl];by_cases hq:s.Q=[]
 .have hA:=agr nm sz ot s hq hz.sm
  simp only[S.row,hq]at hA;cases ha:cU 1 sz ot s
  .rw[ha]at hA
   rw[aK rfl];exact Rel.fail 1 (by simp[dh,Cl.row,uR,hq,hA,cV,ew,ct])
  .rw[ha]at hA
   rw[aE (by decide)]
   cases hc:cC c
   .rw[aE (by decide)]
    have ir:=hc;have hE:=λhb hf=>agE nm sz ot s c hw hz ha ir hb hf
    unfold cC at hc;obtain⟨tk,op,va,pr,nw⟩:=c;simp only at hc;by_cases C2:op=50
    .subst C2
     have hb:dD 1 50=true:=by decide
     simp only[hb];rw[aE (by decide)]
     have hf:fit 1 sz ⟨tk,50,va,pr,nw⟩=true:=by simp[fit]
     rw[hf,aE (by decide)]
     obtain⟨s',h1,h2,h3⟩:=hE hb hf;generalize raw 1 sz ot s.pl ⟨tk,50,va,pr,nw⟩=r at *;simp only[S.row,Cl.row,hq]at h1;cases he:r.2.2.2==0
     .have bZ:¬r.2.2.2=0:=by simpa using he
      have fQ:(r.2.2.2 != 0)=true:=by simpa using bZ
      rw[aE bZ];exact Rel.fail _ (by simp[dh,Cl.row,uR,hq,hA,hc,C1,cV,h1,fQ,ew,ct,aI,ak,cut,an])
     .have bZ:r.2.2.2=0:=by simpa using he
      rw[aK bZ];refine⟨s',?_,h2,h3⟩;simp[dh,Cl.row,uR,hq,hA,hc,C1,cV,h1,bZ,ct,aI,ak,cut,an]
    by_cases zp:op=51
    .subst zp
     have hb:dD 1 51=true:=by decide
     simp only[hb];rw[aE (by decide)]
     have hf:fit 1 sz ⟨tk,51,va,pr,nw⟩=true:=by simp[fit]
     rw[hf,aE (by decide)]
     obtain⟨s',h1,h2,h3⟩:=hE hb hf;generalize raw 1 sz ot s.pl ⟨tk,51,va,pr,nw⟩=r at *;simp only[S.row,Cl.row,hq]at h1;cases he:r.2.2.2==0
     .have bZ:¬r.2.2.2=0:=by simpa using he
      have fQ:(r.2.2.2 != 0)=true:=by simpa using bZ
      rw[aE bZ];exact Rel.fail _ (by simp[dh,Cl.row,uR,hq,hA,hc,C1,cV,h1,fQ,ew,ct,aI,ak,cut,an])
     .have bZ:r.2.2.2=0:=by simpa using he
      rw[aK bZ];refine⟨s',?_,h2,h3⟩;simp[dh,Cl.row,uR,hq,hA,hc,C1,cV,h1,bZ,ct,aI,ak,cut,an]
    by_cases Nk:op=52
    .subst Nk
     have hb:dD 1 52=true:=by decide
     simp only[hb];rw[aE (by decide)]
     have hf:fit 1 sz ⟨tk,52,va,pr,nw⟩=true:=by simp[fit]
     rw[hf,aE (by decide)]
     obtain⟨s',h1,h2,h3⟩:=hE hb hf;generalize raw 1 sz ot s.pl ⟨tk,52,va,pr,nw⟩=r at *;simp only[S.row,Cl.row,hq]at h1;cases he:r.2.2.2==0
     .have bZ:¬r.2.2.2=0:=by simpa using he
      have fQ:(r.2.2.2 != 0)=true:=by simpa using bZ
      rw[aE bZ];exact Rel.fail _ (by simp[dh,Cl.row,uR,hq,hA,hc,C1,cV,h1,fQ,ew,ct,aI,ak,cut,an])
     .have bZ:r.2.2.2=0:=by simpa using he
      rw[aK bZ];refine⟨s',?_,h2,h3⟩;simp[dh,Cl.row,uR,hq,hA,hc,C1,cV,h1,bZ,ct,aI,ak,cut,an]
    have hb:dD 1 op=false:=by
     cases hh:dD 1 op
     .rfl
     .exfalso
      simp[dD]at hh;omega
    simp only[hb];rw[aK trivial];exact Rel.fail 8 (by simp[dh,Cl.row,uR,hq,hA,hc,C1,C2,zp,Nk,cV,ew,ct,aI,ak,cut,an])
   .rw[aK rfl]
    unfold cC at hc;exact Rel.fail 2 (by simp[dh,Cl.row,uR,hq,hA,hc,cV,ew,ct])
 .have ha:cU 1 sz ot s=false:=by
   cases hh:cU 1 sz ot s
   .rfl
   .exact absurd (oN hh).2.1 hq
  rw[ha,aK rfl];have hp:0<s.Q.length:=rX.2 hq;exact Rel.fail 1 (by simp[dh,Cl.row,uR,hp,ew,ct])
end Go.VS.Sp
namespace Go.VS.Sp
set_option maxHeartbeats 4000000 in
theorem agO(nm:D)(sz ot:Int)(s:S)(c:Cl)(hw:s.wf)(hz:s.sz):
  Rel (ev P (.call uq [.d (.ag [nm,I' 2,I' sz,I' ot]),.d (.ag s.row),.d (.ag c.row)] [])) (dU 2 sz ot s.pl c):=by
 unfold dU;rw[A9];rw[au zb rfl];by_cases hq:s.Q=[]
 .have hA:=ags nm sz ot s hq hz.sm
  simp only[S.row,hq]at hA;cases ha:cU 2 sz ot s
  .rw[ha]at hA
   rw[aK rfl];exact Rel.fail 1 (by simp[dh,Cl.row,sD,hq,hA,cV,ew,ct])
  .rw[ha]at hA
   rw[aE (by decide)]
   cases hc:cC c
   .rw[aE (by decide)]
    have ir:=hc;have hE:=λhb hf=>agF nm sz ot s c hw hz ha ir hb hf
    unfold cC at hc;obtain⟨tk,op,va,pr,nw⟩:=c;simp only at hc;by_cases C3:op=53
    .subst C3
     have hb:dD 2 53=true:=by decide
     simp only[hb];rw[aE (by decide)]
     have hf:fit 2 sz ⟨tk,53,va,pr,nw⟩=true:=by simp[fit]
     rw[hf,aE (by decide)]
     obtain⟨s',h1,h2,h3⟩:=hE hb hf;generalize raw 2 sz ot s.pl ⟨tk,53,va,pr,nw⟩=r at *;simp only[S.row,Cl.row,hq]at h1;cases he:r.2.2.2==0
     .have bZ:¬r.2.2.2=0:=by simpa using he
      have fQ:(r.2.2.2 != 0)=true:=by simpa using bZ
      rw[aE bZ];exact Rel.fail _ (by simp[dh,Cl.row,sD,hq,hA,hc,zo,cV,h1,fQ,ew,ct,aI,ak,cut,an])
     .have bZ:r.2.2.2=0:=by simpa using he
      rw[aK bZ];refine⟨s',?_,h2,h3⟩;simp[dh,Cl.row,sD,hq,hA,hc,zo,cV,h1,bZ,ct,aI,ak,cut,an]
    by_cases x6:op=54
    .subst x6
     have hb:dD 2 54=true:=by decide
     simp only[hb];rw[aE (by decide)]
     have hf:fit 2 sz ⟨tk,54,va,pr,nw⟩=true:=by simp[fit]
     rw[hf,aE (by decide)]
     obtain⟨s',h1,h2,h3⟩:=hE hb hf;generalize raw 2 sz ot s.pl ⟨tk,54,va,pr,nw⟩=r at *;simp only[S.row,Cl.row,hq]at h1;cases he:r.2.2.2==0
     .have bZ:¬r.2.2.2=0:=by simpa using he
      have fQ:(r.2.2.2 != 0)=true:=by simpa using bZ
      rw[aE bZ];exact Rel.fail _ (by simp[dh,Cl.row,sD,hq,hA,hc,zo,cV,h1,fQ,ew,ct,aI,ak,cut,an])
     .have bZ:r.2.2.2=0:=by simpa using he
      rw[aK bZ];refine⟨s',?_,h2,h3⟩;simp[dh,Cl.row,sD,hq,hA,hc,zo,cV,h1,bZ,ct,aI,ak,cut,an]
    by_cases lH:op=55
    .subst lH
     have hb:dD 2 55=true:=by decide
     simp only[hb];rw[aE (by decide)]
     have hf:fit 2 sz ⟨tk,55,va,pr,nw⟩=true:=by simp[fit]
     rw[hf,aE (by decide)]
     obtain⟨s',h1,h2,h3⟩:=hE hb hf;generalize raw 2 sz ot s.pl ⟨tk,55,va,pr,nw⟩=r at *;simp only[S.row,Cl.row,hq]at h1;cases he:r.2.2.2==0
     .have bZ:¬r.2.2.2=0:=by simpa using he
      have fQ:(r.2.2.2 != 0)=true:=by simpa using bZ
      rw[aE bZ];exact Rel.fail _ (by simp[dh,Cl.row,sD,hq,hA,hc,zo,cV,h1,fQ,ew,ct,aI,ak,cut,an])
     .have bZ:r.2.2.2=0:=by simpa using he
      rw[aK bZ];refine⟨s',?_,h2,h3⟩;simp[dh,Cl.row,sD,hq,hA,hc,zo,cV,h1,bZ,ct,aI,ak,cut,an]
    by_cases Io:op=56
    .subst Io
     have hb:dD 2 56=true:=by decide
     simp only[hb];rw[aE (by decide)]
     have hf:fit 2 sz ⟨tk,56,va,pr,nw⟩=true:=by simp[fit]
     rw[hf,aE (by decide)]
     obtain⟨s',h1,h2,h3⟩:=hE hb hf;generalize raw 2 sz ot s.pl ⟨tk,56,va,pr,nw⟩=r at *;simp only[S.row,Cl.row,hq]at h1;cases he:r.2.2.2==0
     .have bZ:¬r.2.2.2=0:=by simpa using he
      have fQ:(r.2.2.2 != 0)=true:=by simpa using bZ
      rw[aE bZ];exact Rel.fail _ (by simp[dh,Cl.row,sD,hq,hA,hc,zo,cV,h1,fQ,ew,ct,aI,ak,cut,an])
     .have bZ:r.2.2.2=0:=by simpa using he
      rw[aK bZ];refine⟨s',?_,h2,h3⟩;simp[dh,Cl.row,sD,hq,hA,hc,zo,cV,h1,bZ,ct,aI,ak,cut,an]
    have hb:dD 2 op=false:=by
     cases hh:dD 2 op
     .rfl
     .exfalso
      simp[dD]at hh;omega
    simp only[hb];rw[aK trivial];exact Rel.fail 8 (by simp[dh,Cl.row,sD,hq,hA,hc,zo,C3,x6,lH,Io,cV,ew,ct,aI,ak,cut,an])
   .rw[aK rfl]
    unfold cC at hc;exact Rel.fail 2 (by simp[dh,Cl.row,sD,hq,hA,hc,cV,ew,ct])
 .have ha:cU 2 sz ot s=false:=by
   cases hh:cU 2 sz ot s
   .rfl
   .exact absurd (oN hh).2.1 hq
  rw[ha,aK rfl];have hp:0<s.Q.length:=rX.2 hq;exact Rel.fail 1 (by simp[dh,Cl.row,sD,hp,ew,ct])
end Go.VS.Sp
namespace Go.VS.Sp
set_option maxHeartbeats 4000000 in
theorem agP(nm:D)(sz ot:Int)(s:S)(c:Cl)(hw:s.wf)(hz:s.sz):
  Rel (ev P (.call uq [.d (.ag [nm,I' 4,I' sz,I' ot]),.d (.ag s.row),.d (.ag c.row)] [])) (dU 4 sz ot s.pl c):=by
 unfold dU;rw[A9];rw[au zb rfl];by_cases hq:s.Q=[]
 .have hA:=agt nm sz ot s hq hz.sm
  simp only[S.row,hq]at hA;cases ha:cU 4 sz ot s
  .rw[ha]at hA
   rw[aK rfl];exact Rel.fail 1 (by simp[dh,Cl.row,rD,hq,hA,cV,ew,ct])
  .rw[ha]at hA
   rw[aE (by decide)]
   cases hc:cC c
   .rw[aE (by decide)]
    have ir:=hc;have hE:=λhb hf=>agG nm sz ot s c hw hz ha ir hb hf
    unfold cC at hc;obtain⟨tk,op,va,pr,nw⟩:=c;simp only at hc;by_cases Yy:op=60
    .subst Yy
     have hb:dD 4 60=true:=by decide
     simp only[hb];rw[aE (by decide)]
     cases hv:(decide (va<1)||decide (sz<va))
     .have hf:fit 4 sz ⟨tk,60,va,pr,nw⟩=true:=by
       simp at hv;simp[fit,num];omega
      rw[hf,aE (by decide)]
      obtain⟨s',h1,h2,h3⟩:=hE hb hf;generalize raw 4 sz ot s.pl ⟨tk,60,va,pr,nw⟩=r at *;simp only[S.row,Cl.row,hq]at h1;cases he:r.2.2.2==0
      .have bZ:¬r.2.2.2=0:=by simpa using he
       have fQ:(r.2.2.2 != 0)=true:=by simpa using bZ
       rw[aE bZ];exact Rel.fail _ (by simp[dh,Cl.row,rD,hq,hA,hc,hv,xY,cV,h1,fQ,ew,ct,aI,ak,cut,an])
      .have bZ:r.2.2.2=0:=by simpa using he
       rw[aK bZ];refine⟨s',?_,h2,h3⟩;simp[dh,Cl.row,rD,hq,hA,hc,hv,xY,cV,h1,bZ,ct,aI,ak,cut,an]
     .have hf:fit 4 sz ⟨tk,60,va,pr,nw⟩=false:=by
       cases hh:fit 4 sz ⟨tk,60,va,pr,nw⟩
       .rfl
       .exfalso
        simp at hv;simp[fit,num]at hh;omega
      rw[hf,aK rfl];exact Rel.fail 2 (by simp[dh,Cl.row,rD,hq,hA,hc,hv,xY,cV,ew,ct,aI,ak,cut,an])
    by_cases Fl:op=61
    .subst Fl
     have hb:dD 4 61=true:=by decide
     simp only[hb];rw[aE (by decide)]
     cases hv:(decide (va<1)||decide (sz<va))
     .have hf:fit 4 sz ⟨tk,61,va,pr,nw⟩=true:=by
       simp at hv;simp[fit,num];omega
      rw[hf,aE (by decide)]
      obtain⟨s',h1,h2,h3⟩:=hE hb hf;generalize raw 4 sz ot s.pl ⟨tk,61,va,pr,nw⟩=r at *;simp only[S.row,Cl.row,hq]at h1;cases he:r.2.2.2==0
      .have bZ:¬r.2.2.2=0:=by simpa using he
       have fQ:(r.2.2.2 != 0)=true:=by simpa using bZ
       rw[aE bZ];exact Rel.fail _ (by simp[dh,Cl.row,rD,hq,hA,hc,hv,xY,cV,h1,fQ,ew,ct,aI,ak,cut,an])
      .have bZ:r.2.2.2=0:=by simpa using he
       rw[aK bZ];refine⟨s',?_,h2,h3⟩;simp[dh,Cl.row,rD,hq,hA,hc,hv,xY,cV,h1,bZ,ct,aI,ak,cut,an]
     .have hf:fit 4 sz ⟨tk,61,va,pr,nw⟩=false:=by
       cases hh:fit 4 sz ⟨tk,61,va,pr,nw⟩
       .rfl
       .exfalso
        simp at hv;simp[fit,num]at hh;omega
      rw[hf,aK rfl];exact Rel.fail 2 (by simp[dh,Cl.row,rD,hq,hA,hc,hv,xY,cV,ew,ct,aI,ak,cut,an])
    by_cases Yz:op=62
    .subst Yz
     have hb:dD 4 62=true:=by decide
     simp only[hb];rw[aE (by decide)]
     cases hv:(decide (va<1)||decide (sz<va))
     .have hf:fit 4 sz ⟨tk,62,va,pr,nw⟩=true:=by
       simp at hv;simp[fit,num];omega
      rw[hf,aE (by decide)]
      obtain⟨s',h1,h2,h3⟩:=hE hb hf;generalize raw 4 sz ot s.pl ⟨tk,62,va,pr,nw⟩=r at *;simp only[S.row,Cl.row,hq]at h1;cases he:r.2.2.2==0
      .have bZ:¬r.2.2.2=0:=by simpa using he
       have fQ:(r.2.2.2 != 0)=true:=by simpa using bZ
       rw[aE bZ];exact Rel.fail _ (by simp[dh,Cl.row,rD,hq,hA,hc,hv,xY,cV,h1,fQ,ew,ct,aI,ak,cut,an])
      .have bZ:r.2.2.2=0:=by simpa using he
       rw[aK bZ];refine⟨s',?_,h2,h3⟩;simp[dh,Cl.row,rD,hq,hA,hc,hv,xY,cV,h1,bZ,ct,aI,ak,cut,an]
     .have hf:fit 4 sz ⟨tk,62,va,pr,nw⟩=false:=by
       cases hh:fit 4 sz ⟨tk,62,va,pr,nw⟩
       .rfl
       .exfalso
        simp at hv;simp[fit,num]at hh;omega
      rw[hf,aK rfl];exact Rel.fail 2 (by simp[dh,Cl.row,rD,hq,hA,hc,hv,xY,cV,ew,ct,aI,ak,cut,an])
    have hb:dD 4 op=false:=by
     cases hh:dD 4 op
     .rfl
     .exfalso
      simp[dD]at hh;omega
    simp only[hb];rw[aK trivial];exact Rel.fail 8 (by simp[dh,Cl.row,rD,hq,hA,hc,xY,Yy,Fl,Yz,cV,ew,ct,aI,ak,cut,an])
   .rw[aK rfl]
    unfold cC at hc;exact Rel.fail 2 (by simp[dh,Cl.row,rD,hq,hA,hc,cV,ew,ct])
 .have ha:cU 4 sz ot s=false:=by
   cases hh:cU 4 sz ot s
   .rfl
   .exact absurd (oN hh).2.1 hq
  rw[ha,aK rfl];have hp:0<s.Q.length:=rX.2 hq;exact Rel.fail 1 (by simp[dh,Cl.row,rD,hp,ew,ct])
end Go.VS.Sp
namespace Go.VS.Sp
set_option maxHeartbeats 4000000 in
theorem agQ(nm:D)(sz ot:Int)(s:S)(c:Cl)(hw:s.wf)(hz:s.sz):
  Rel (ev P (.call uq [.d (.ag [nm,I' 5,I' sz,I' ot]),.d (.ag s.row),.d (.ag c.row)] [])) (dU 5 sz ot s.pl c):=by
 unfold dU;rw[A9];rw[au zb rfl];by_cases hq:s.Q=[]
 .have hA:=agw nm sz ot s hq hz.sm
  simp only[S.row,hq]at hA;cases ha:cU 5 sz ot s
  .rw[ha]at hA
   rw[aK rfl];exact Rel.fail 1 (by simp[dh,Cl.row,Ba,hq,hA,cV,ew,ct])
  .rw[ha]at hA
   rw[aE (by decide)]
   cases hc:cC c
   .rw[aE (by decide)]
    have ir:=hc;have hE:=λhb hf=>agH nm sz ot s c hw hz ha ir hb hf
    unfold cC at hc;obtain⟨tk,op,va,pr,nw⟩:=c;simp only at hc;by_cases h63:op=63
    .subst h63
     have hb:dD 5 63=true:=by decide
     simp only[hb];rw[aE (by decide)]
     have hf:fit 5 sz ⟨tk,63,va,pr,nw⟩=true:=by simp[fit]
     rw[hf,aE (by decide)]
     obtain⟨s',h1,h2,h3⟩:=hE hb hf;generalize raw 5 sz ot s.pl ⟨tk,63,va,pr,nw⟩=r at *;simp only[S.row,Cl.row,hq]at h1;cases he:r.2.2.2==0
     .have bZ:¬r.2.2.2=0:=by simpa using he
      have fQ:(r.2.2.2 != 0)=true:=by simpa using bZ
      rw[aE bZ];exact Rel.fail _ (by simp[dh,Cl.row,Ba,hq,hA,hc,Tb,cV,h1,fQ,ew,ct,aI,ak,cut,an])
     .have bZ:r.2.2.2=0:=by simpa using he
      rw[aK bZ];refine⟨s',?_,h2,h3⟩;simp[dh,Cl.row,Ba,hq,hA,hc,Tb,cV,h1,bZ,ct,aI,ak,cut,an]
    have hb:dD 5 op=false:=by
     cases hh:dD 5 op
     .rfl
     .exfalso
      simp[dD]at hh;omega
    simp only[hb];rw[aK trivial];exact Rel.fail 8 (by simp[dh,Cl.row,Ba,hq,hA,hc,Tb,h63,cV,ew,ct,aI,ak,cut,an])
   .rw[aK rfl]
    unfold cC at hc;exact Rel.fail 2 (by simp[dh,Cl.row,Ba,hq,hA,hc,cV,ew,ct])
 .have ha:cU 5 sz ot s=false:=by
   cases hh:cU 5 sz ot s
   .rfl
   .exact absurd (oN hh).2.1 hq
  rw[ha,aK rfl];have hp:0<s.Q.length:=rX.2 hq;exact Rel.fail 1 (by simp[dh,Cl.row,Ba,hp,ew,ct])
end Go.VS.Sp
namespace Go.VS.Sp
set_option maxHeartbeats 4000000 in
theorem agR(nm:D)(sz ot:Int)(s:S)(c:Cl)(hw:s.wf)(hz:s.sz):
  Rel (ev P (.call uq [.d (.ag [nm,I' 6,I' sz,I' ot]),.d (.ag s.row),.d (.ag c.row)] [])) (dU 6 sz ot s.pl c):=by
 unfold dU;rw[A9];rw[au zb rfl];by_cases hq:s.Q=[]
 .have hA:=agx nm sz ot s hq hz.sm
  simp only[S.row,hq]at hA;cases ha:cU 6 sz ot s
  .rw[ha]at hA
   rw[aK rfl];exact Rel.fail 1 (by simp[dh,Cl.row,tA,hq,hA,cV,ew,ct])
  .rw[ha]at hA
   rw[aE (by decide)]
   cases hc:cC c
   .rw[aE (by decide)]
    have ir:=hc;have hE:=λhb hf=>agI nm sz ot s c hw hz ha ir hb hf
    unfold cC at hc;obtain⟨tk,op,va,pr,nw⟩:=c;simp only at hc;by_cases uS:op=64
    .subst uS
     have hb:dD 6 64=true:=by decide
     simp only[hb];rw[aE (by decide)]
     cases hv:(decide (va < -1099511627776)||decide (1099511627776<va))
     .have hf:fit 6 sz ⟨tk,64,va,pr,nw⟩=true:=by
       simp at hv;simp[fit,num];omega
      rw[hf,aE (by decide)]
      obtain⟨s',h1,h2,h3⟩:=hE hb hf;generalize raw 6 sz ot s.pl ⟨tk,64,va,pr,nw⟩=r at *;simp only[S.row,Cl.row,hq]at h1;cases he:r.2.2.2==0
      .have bZ:¬r.2.2.2=0:=by simpa using he
       have fQ:(r.2.2.2 != 0)=true:=by simpa using bZ
       rw[aE bZ];exact Rel.fail _ (by simp[dh,Cl.row,tA,hq,hA,hc,hv,Bb,cV,h1,fQ,ew,ct,aI,ak,cut,an])
      .have bZ:r.2.2.2=0:=by simpa using he
       rw[aK bZ];refine⟨s',?_,h2,h3⟩;simp[dh,Cl.row,tA,hq,hA,hc,hv,Bb,cV,h1,bZ,ct,aI,ak,cut,an]
     .have hf:fit 6 sz ⟨tk,64,va,pr,nw⟩=false:=by
       cases hh:fit 6 sz ⟨tk,64,va,pr,nw⟩
       .rfl
       .exfalso
        simp at hv;simp[fit,num]at hh;omega
      rw[hf,aK rfl];exact Rel.fail 2 (by simp[dh,Cl.row,tA,hq,hA,hc,hv,Bb,cV,ew,ct,aI,ak,cut,an])
    by_cases sE:op=65
    .subst sE
     have hb:dD 6 65=true:=by decide
     simp only[hb];rw[aE (by decide)]
     have hf:fit 6 sz ⟨tk,65,va,pr,nw⟩=true:=by simp[fit]
     rw[hf,aE (by decide)]
     obtain⟨s',h1,h2,h3⟩:=hE hb hf;generalize raw 6 sz ot s.pl ⟨tk,65,va,pr,nw⟩=r at *;simp only[S.row,Cl.row,hq]at h1;cases he:r.2.2.2==0
     .have bZ:¬r.2.2.2=0:=by simpa using he
      have fQ:(r.2.2.2 != 0)=true:=by simpa using bZ
      rw[aE bZ];exact Rel.fail _ (by simp[dh,Cl.row,tA,hq,hA,hc,Bb,cV,h1,fQ,ew,ct,aI,ak,cut,an])
     .have bZ:r.2.2.2=0:=by simpa using he
      rw[aK bZ];refine⟨s',?_,h2,h3⟩;simp[dh,Cl.row,tA,hq,hA,hc,Bb,cV,h1,bZ,ct,aI,ak,cut,an]
    by_cases YA:op=66
    .subst YA
     have hb:dD 6 66=true:=by decide
     simp only[hb];rw[aE (by decide)]
     have hf:fit 6 sz ⟨tk,66,va,pr,nw⟩=true:=by simp[fit]
     rw[hf,aE (by decide)]
     obtain⟨s',h1,h2,h3⟩:=hE hb hf;generalize raw 6 sz ot s.pl ⟨tk,66,va,pr,nw⟩=r at *;simp only[S.row,Cl.row,hq]at h1;cases he:r.2.2.2==0
     .have bZ:¬r.2.2.2=0:=by simpa using he
      have fQ:(r.2.2.2 != 0)=true:=by simpa using bZ
      rw[aE bZ];exact Rel.fail _ (by simp[dh,Cl.row,tA,hq,hA,hc,Bb,cV,h1,fQ,ew,ct,aI,ak,cut,an])
     .have bZ:r.2.2.2=0:=by simpa using he
      rw[aK bZ];refine⟨s',?_,h2,h3⟩;simp[dh,Cl.row,tA,hq,hA,hc,Bb,cV,h1,bZ,ct,aI,ak,cut,an]
    have hb:dD 6 op=false:=by
     cases hh:dD 6 op
     .rfl
     .exfalso
      simp[dD]at hh;omega
    simp only[hb];rw[aK trivial];exact Rel.fail 8 (by simp[dh,Cl.row,tA,hq,hA,hc,Bb,uS,sE,YA,cV,ew,ct,aI,ak,cut,an])
   .rw[aK rfl]
    unfold cC at hc;exact Rel.fail 2 (by simp[dh,Cl.row,tA,hq,hA,hc,cV,ew,ct])
 .have ha:cU 6 sz ot s=false:=by
   cases hh:cU 6 sz ot s
   .rfl
   .exact absurd (oN hh).2.1 hq
  rw[ha,aK rfl];have hp:0<s.Q.length:=rX.2 hq;exact Rel.fail 1 (by simp[dh,Cl.row,tA,hp,ew,ct])
end Go.VS.Sp
namespace Go.VS.Sp
set_option maxHeartbeats 4000000 in
theorem agS(nm:D)(sz ot:Int)(s:S)(c:Cl)(hw:s.wf)(hz:s.sz):
  Rel (ev P (.call uq [.d (.ag [nm,I' 7,I' sz,I' ot]),.d (.ag s.row),.d (.ag c.row)] [])) (dU 7 sz ot s.pl c):=by
 unfold dU;rw[A9];rw[au zb rfl];by_cases hq:s.Q=[]
 .have hA:=agy nm sz ot s hq hz.sm
  simp only[S.row,hq]at hA;cases ha:cU 7 sz ot s
  .rw[ha]at hA
   rw[aK rfl];exact Rel.fail 1 (by simp[dh,Cl.row,rE,hq,hA,cV,ew,ct])
  .rw[ha]at hA
   rw[aE (by decide)]
   cases hc:cC c
   .rw[aE (by decide)]
    have ir:=hc;have hE:=λhb hf=>agJ nm sz ot s c hw hz ha ir hb hf
    unfold cC at hc;obtain⟨tk,op,va,pr,nw⟩:=c;simp only at hc;by_cases fu:op=68
    .subst fu
     have hb:dD 7 68=true:=by decide
     simp only[hb];rw[aE (by decide)]
     cases hv:(decide (va < -1099511627776)||decide (1099511627776<va))
     .have hf:fit 7 sz ⟨tk,68,va,pr,nw⟩=true:=by
       simp at hv;simp[fit,num];omega
      rw[hf,aE (by decide)]
      obtain⟨s',h1,h2,h3⟩:=hE hb hf;generalize raw 7 sz ot s.pl ⟨tk,68,va,pr,nw⟩=r at *;simp only[S.row,Cl.row,hq]at h1;cases he:r.2.2.2==0
      .have bZ:¬r.2.2.2=0:=by simpa using he
       have fQ:(r.2.2.2 != 0)=true:=by simpa using bZ
       rw[aE bZ];exact Rel.fail _ (by simp[dh,Cl.row,rE,hq,hA,hc,hv,xZ,cV,h1,fQ,ew,ct,aI,ak,cut,an])
      .have bZ:r.2.2.2=0:=by simpa using he
       rw[aK bZ];refine⟨s',?_,h2,h3⟩;simp[dh,Cl.row,rE,hq,hA,hc,hv,xZ,cV,h1,bZ,ct,aI,ak,cut,an]
     .have hf:fit 7 sz ⟨tk,68,va,pr,nw⟩=false:=by
       cases hh:fit 7 sz ⟨tk,68,va,pr,nw⟩
       .rfl
       .exfalso
        simp at hv;simp[fit,num]at hh;omega
      rw[hf,aK rfl];exact Rel.fail 2 (by simp[dh,Cl.row,rE,hq,hA,hc,hv,xZ,cV,ew,ct,aI,ak,cut,an])
    by_cases kL:op=69
    .subst kL
     have hb:dD 7 69=true:=by decide
     simp only[hb];rw[aE (by decide)]
     have hf:fit 7 sz ⟨tk,69,va,pr,nw⟩=true:=by simp[fit]
     rw[hf,aE (by decide)]
     obtain⟨s',h1,h2,h3⟩:=hE hb hf;generalize raw 7 sz ot s.pl ⟨tk,69,va,pr,nw⟩=r at *;simp only[S.row,Cl.row,hq]at h1;cases he:r.2.2.2==0
     .have bZ:¬r.2.2.2=0:=by simpa using he
      have fQ:(r.2.2.2 != 0)=true:=by simpa using bZ
      rw[aE bZ];exact Rel.fail _ (by simp[dh,Cl.row,rE,hq,hA,hc,xZ,cV,h1,fQ,ew,ct,aI,ak,cut,an])
     .have bZ:r.2.2.2=0:=by simpa using he
      rw[aK bZ];refine⟨s',?_,h2,h3⟩;simp[dh,Cl.row,rE,hq,hA,hc,xZ,cV,h1,bZ,ct,aI,ak,cut,an]
    by_cases fI:op=70
    .subst fI
     have hb:dD 7 70=true:=by decide
     simp only[hb];rw[aE (by decide)]
     have hf:fit 7 sz ⟨tk,70,va,pr,nw⟩=true:=by simp[fit]
     rw[hf,aE (by decide)]
     obtain⟨s',h1,h2,h3⟩:=hE hb hf;generalize raw 7 sz ot s.pl ⟨tk,70,va,pr,nw⟩=r at *;simp only[S.row,Cl.row,hq]at h1;cases he:r.2.2.2==0
     .have bZ:¬r.2.2.2=0:=by simpa using he
      have fQ:(r.2.2.2 != 0)=true:=by simpa using bZ
      rw[aE bZ];exact Rel.fail _ (by simp[dh,Cl.row,rE,hq,hA,hc,xZ,cV,h1,fQ,ew,ct,aI,ak,cut,an])
     .have bZ:r.2.2.2=0:=by simpa using he
      rw[aK bZ];refine⟨s',?_,h2,h3⟩;simp[dh,Cl.row,rE,hq,hA,hc,xZ,cV,h1,bZ,ct,aI,ak,cut,an]
    by_cases l6:op=71
    .subst l6
     have hb:dD 7 71=true:=by decide
     simp only[hb];rw[aE (by decide)]
     have hf:fit 7 sz ⟨tk,71,va,pr,nw⟩=true:=by simp[fit]
     rw[hf,aE (by decide)]
     obtain⟨s',h1,h2,h3⟩:=hE hb hf;generalize raw 7 sz ot s.pl ⟨tk,71,va,pr,nw⟩=r at *;simp only[S.row,Cl.row,hq]at h1;cases he:r.2.2.2==0
     .have bZ:¬r.2.2.2=0:=by simpa using he
      have fQ:(r.2.2.2 != 0)=true:=by simpa using bZ
      rw[aE bZ];exact Rel.fail _ (by simp[dh,Cl.row,rE,hq,hA,hc,xZ,cV,h1,fQ,ew,ct,aI,ak,cut,an])
     .have bZ:r.2.2.2=0:=by simpa using he
      rw[aK bZ];refine⟨s',?_,h2,h3⟩;simp[dh,Cl.row,rE,hq,hA,hc,xZ,cV,h1,bZ,ct,aI,ak,cut,an]
    have hb:dD 7 op=false:=by
     cases hh:dD 7 op
     .rfl
     .exfalso
      simp[dD]at hh;omega
    simp only[hb];rw[aK trivial];exact Rel.fail 8 (by simp[dh,Cl.row,rE,hq,hA,hc,xZ,fu,kL,fI,l6,cV,ew,ct,aI,ak,cut,an])
   .rw[aK rfl]
    unfold cC at hc;exact Rel.fail 2 (by simp[dh,Cl.row,rE,hq,hA,hc,cV,ew,ct])
 .have ha:cU 7 sz ot s=false:=by
   cases hh:cU 7 sz ot s
   .rfl
   .exact absurd (oN hh).2.1 hq
  rw[ha,aK rfl];have hp:0<s.Q.length:=rX.2 hq;exact Rel.fail 1 (by simp[dh,Cl.row,rE,hp,ew,ct])
end Go.VS.Sp
namespace Go.VS.Sp
set_option maxHeartbeats 4000000 in
theorem agT(nm:D)(sz ot:Int)(s:S)(c:Cl)(hw:s.wf)(hz:s.sz):
  Rel (ev P (.call uq [.d (.ag [nm,I' 8,I' sz,I' ot]),.d (.ag s.row),.d (.ag c.row)] [])) (dU 8 sz ot s.pl c):=by
 unfold dU;rw[A9];rw[au zb rfl];by_cases hq:s.Q=[]
 .have hA:=agu nm sz ot s hq hz.sm
  simp only[S.row,hq]at hA;cases ha:cU 8 sz ot s
  .rw[ha]at hA
   rw[aK rfl];exact Rel.fail 1 (by simp[dh,Cl.row,wg,hq,hA,cV,ew,ct])
  .rw[ha]at hA
   rw[aE (by decide)]
   cases hc:cC c
   .rw[aE (by decide)]
    have ir:=hc;have hE:=λhb hf=>agK nm sz ot s c hw hz ha ir hb hf
    unfold cC at hc;obtain⟨tk,op,va,pr,nw⟩:=c;simp only at hc;by_cases YB:op=72
    .subst YB
     have hb:dD 8 72=true:=by decide
     simp only[hb];rw[aE (by decide)]
     cases hv:(decide (va<1)||decide (sz<va))
     .have hf:fit 8 sz ⟨tk,72,va,pr,nw⟩=true:=by
       simp at hv;simp[fit,num];omega
      rw[hf,aE (by decide)]
      obtain⟨s',h1,h2,h3⟩:=hE hb hf;generalize raw 8 sz ot s.pl ⟨tk,72,va,pr,nw⟩=r at *;simp only[S.row,Cl.row,hq]at h1;cases he:r.2.2.2==0
      .have bZ:¬r.2.2.2=0:=by simpa using he
       have fQ:(r.2.2.2 != 0)=true:=by simpa using bZ
       rw[aE bZ];exact Rel.fail _ (by simp[dh,Cl.row,wg,hq,hA,hc,hv,Fj,cV,h1,fQ,ew,ct,aI,ak,cut,an])
      .have bZ:r.2.2.2=0:=by simpa using he
       rw[aK bZ];refine⟨s',?_,h2,h3⟩;simp[dh,Cl.row,wg,hq,hA,hc,hv,Fj,cV,h1,bZ,ct,aI,ak,cut,an]
     .have hf:fit 8 sz ⟨tk,72,va,pr,nw⟩=false:=by
       cases hh:fit 8 sz ⟨tk,72,va,pr,nw⟩
       .rfl
       .exfalso
        simp at hv;simp[fit,num]at hh;omega
      rw[hf,aK rfl];exact Rel.fail 2 (by simp[dh,Cl.row,wg,hq,hA,hc,hv,Fj,cV,ew,ct,aI,ak,cut,an])
    by_cases zq:op=75
    .subst zq
     have hb:dD 8 75=true:=by decide
     simp only[hb];rw[aE (by decide)]
     have hf:fit 8 sz ⟨tk,75,va,pr,nw⟩=true:=by simp[fit]
     rw[hf,aE (by decide)]
     obtain⟨s',h1,h2,h3⟩:=hE hb hf;generalize raw 8 sz ot s.pl ⟨tk,75,va,pr,nw⟩=r at *;simp only[S.row,Cl.row,hq]at h1;cases he:r.2.2.2==0
     .have bZ:¬r.2.2.2=0:=by simpa using he
      have fQ:(r.2.2.2 != 0)=true:=by simpa using bZ
      rw[aE bZ];exact Rel.fail _ (by simp[dh,Cl.row,wg,hq,hA,hc,Fj,cV,h1,fQ,ew,ct,aI,ak,cut,an])
     .have bZ:r.2.2.2=0:=by simpa using he
      rw[aK bZ];refine⟨s',?_,h2,h3⟩;simp[dh,Cl.row,wg,hq,hA,hc,Fj,cV,h1,bZ,ct,aI,ak,cut,an]
    have hb:dD 8 op=false:=by
     cases hh:dD 8 op
     .rfl
     .exfalso
      simp[dD]at hh;omega
    simp only[hb];rw[aK trivial];exact Rel.fail 8 (by simp[dh,Cl.row,wg,hq,hA,hc,Fj,YB,zq,cV,ew,ct,aI,ak,cut,an])
   .rw[aK rfl]
    unfold cC at hc;exact Rel.fail 2 (by simp[dh,Cl.row,wg,hq,hA,hc,cV,ew,ct])
 .have ha:cU 8 sz ot s=false:=by
   cases hh:cU 8 sz ot s
   .rfl
   .exact absurd (oN hh).2.1 hq
  rw[ha,aK rfl];have hp:0<s.Q.length:=rX.2 hq;exact Rel.fail 1 (by simp[dh,Cl.row,wg,hp,ew,ct])
end Go.VS.Sp
namespace Go.VS.Sp
set_option maxHeartbeats 4000000 in
theorem agU(nm:D)(sz ot:Int)(s:S)(c:Cl)(hw:s.wf)(hz:s.sz):
  Rel (ev P (.call uq [.d (.ag [nm,I' 9,I' sz,I' ot]),.d (.ag s.row),.d (.ag c.row)] [])) (dU 9 sz ot s.pl c):=by
 unfold dU;rw[A9];rw[au zb rfl];by_cases hq:s.Q=[]
 .have hA:=agv nm sz ot s hq hz.sm
  simp only[S.row,hq]at hA;cases ha:cU 9 sz ot s
  .rw[ha]at hA
   rw[aK rfl];exact Rel.fail 1 (by simp[dh,Cl.row,wh,hq,hA,cV,ew,ct])
  .rw[ha]at hA
   rw[aE (by decide)]
   cases hc:cC c
   .rw[aE (by decide)]
    have ir:=hc;have hE:=λhb hf=>agL nm sz ot s c hw hz ha ir hb hf
    unfold cC at hc;obtain⟨tk,op,va,pr,nw⟩:=c;simp only at hc;by_cases YC:op=73
    .subst YC
     have hb:dD 9 73=true:=by decide
     simp only[hb];rw[aE (by decide)]
     cases hv:(decide (va < -1099511627776)||decide (1099511627776<va))
     .have hf:fit 9 sz ⟨tk,73,va,pr,nw⟩=true:=by
       simp at hv;simp[fit,num];omega
      rw[hf,aE (by decide)]
      obtain⟨s',h1,h2,h3⟩:=hE hb hf;generalize raw 9 sz ot s.pl ⟨tk,73,va,pr,nw⟩=r at *;simp only[S.row,Cl.row,hq]at h1;cases he:r.2.2.2==0
      .have bZ:¬r.2.2.2=0:=by simpa using he
       have fQ:(r.2.2.2 != 0)=true:=by simpa using bZ
       rw[aE bZ];exact Rel.fail _ (by simp[dh,Cl.row,wh,hq,hA,hc,hv,Fk,cV,h1,fQ,ew,ct,aI,ak,cut,an])
      .have bZ:r.2.2.2=0:=by simpa using he
       rw[aK bZ];refine⟨s',?_,h2,h3⟩;simp[dh,Cl.row,wh,hq,hA,hc,hv,Fk,cV,h1,bZ,ct,aI,ak,cut,an]
     .have hf:fit 9 sz ⟨tk,73,va,pr,nw⟩=false:=by
       cases hh:fit 9 sz ⟨tk,73,va,pr,nw⟩
       .rfl
       .exfalso
        simp at hv;simp[fit,num]at hh;omega
      rw[hf,aK rfl];exact Rel.fail 2 (by simp[dh,Cl.row,wh,hq,hA,hc,hv,Fk,cV,ew,ct,aI,ak,cut,an])
    by_cases YD:op=74
    .subst YD
     have hb:dD 9 74=true:=by decide
     simp only[hb];rw[aE (by decide)]
     have hf:fit 9 sz ⟨tk,74,va,pr,nw⟩=true:=by simp[fit]
     rw[hf,aE (by decide)]
     obtain⟨s',h1,h2,h3⟩:=hE hb hf;generalize raw 9 sz ot s.pl ⟨tk,74,va,pr,nw⟩=r at *;simp only[S.row,Cl.row,hq]at h1;cases he:r.2.2.2==0
     .have bZ:¬r.2.2.2=0:=by simpa using he
      have fQ:(r.2.2.2 != 0)=true:=by simpa using bZ
      rw[aE bZ];exact Rel.fail _ (by simp[dh,Cl.row,wh,hq,hA,hc,Fk,cV,h1,fQ,ew,ct,aI,ak,cut,an])
     .have bZ:r.2.2.2=0:=by simpa using he
      rw[aK bZ];refine⟨s',?_,h2,h3⟩;simp[dh,Cl.row,wh,hq,hA,hc,Fk,cV,h1,bZ,ct,aI,ak,cut,an]
    have hb:dD 9 op=false:=by
     cases hh:dD 9 op
     .rfl
     .exfalso
      simp[dD]at hh;omega
    simp only[hb];rw[aK trivial];exact Rel.fail 8 (by simp[dh,Cl.row,wh,hq,hA,hc,Fk,YC,YD,cV,ew,ct,aI,ak,cut,an])
   .rw[aK rfl]
    unfold cC at hc;exact Rel.fail 2 (by simp[dh,Cl.row,wh,hq,hA,hc,cV,ew,ct])
 .have ha:cU 9 sz ot s=false:=by
   cases hh:cU 9 sz ot s
   .rfl
   .exact absurd (oN hh).2.1 hq
  rw[ha,aK rfl];have hp:0<s.Q.length:=rX.2 hq;exact Rel.fail 1 (by simp[dh,Cl.row,wh,hp,ew,ct])
end Go.VS.Sp
namespace Go.VS.Sp
theorem agV{s:S}{c:Cl}(h:pP s=true)(ht:cW c.task=true):pP (eM s c).1=true:=by
 have hm:∀x,(x = -1\/cW x=true)->pP {s with own:=x}=true:=by
  intro x hx;unfold pP at h⊢;simp only at h⊢;rw[bE]at h⊢;refine⟨?_,h.2⟩;rcases hx with h1 |h1<;>simp[h1]
 unfold eM;repeat' split
 all_goals first |exact h |exact hm _ (.inl rfl) |exact hm _ (.inr ht)
def YE(s:S):Prop:=s.cnt=0/\s.time=0/\s.B=[]/\s.C=[]/\s.cl=false/\s.val=0
theorem Ip{s:S}:okW s=true↔gH s.H/\(∀x∈s.H,cW x=true)/\(s.own = -1\/(cW s.own=true/\s.H=[]))/\YE s:=by
 unfold okW YE;rw[bE,M9];have e:(!CV s)=true↔(s.own = -1\/(cW s.own=true/\s.H=[]))/\s.cnt=0/\s.time=0/\s.B=[]/\s.C=[]/\s.cl=false/\s.val=0:=by
  unfold CV;rw[M6,M6,M6];simp
  grind
 rw[e];simp
 grind
theorem agW{s:S}{c:Cl}(h:okW s=true)(ht:cW c.task=true)(he:(eW s c).2.2.2=0):okW (eW s c).1=true:=by
 obtain⟨h1,h2,h3,h4⟩:=Ip.1 h;unfold eW at he⊢;by_cases a1:(c.op==54)=true
 .rw[aK a1]at he⊢
  by_cases a2:decide (c.task∈s.H)=true
  .rw[aK a2]at he⊢
   have a3:c.task∈s.H:=by simpa using a2
   refine Ip.2 ⟨Wr B5 h1,λx hx=>h2 x (pe.1 hx).1,?_,h4⟩
   rcases h3 with h |h
   .exact .inl h
   .rw[h.2]at a3;simp at a3
  .rw[aE a2]at he;simp[er]at he
 .rw[aE a1]at he⊢
  by_cases b1:(c.op==56)=true
  .rw[aK b1]at he⊢
   by_cases b2:(s.own==c.task)=true
   .rw[aK b2]
    exact Ip.2 ⟨h1,h2,.inl rfl,h4⟩
   .rw[aE b2]at he;simp[er]at he
  .rw[aE b1]at he⊢
   by_cases b3:(decide (c.task∈s.H)||s.own==c.task)=true
   .rw[aK b3]at he;simp[er]at he
   .rw[aE b3]at he⊢
    by_cases b4:(!(s.own == -1)||(c.op==55&&decide (0<s.H.length)))=true
    .rw[aK b4]at he;simp[er]at he
    .rw[aE b4]at he⊢
     have c1:s.own = -1:=by
      simp at b4;exact b4.1
     have c2:c.task∉s.H:=by
      simp at b3;exact b3.1
     by_cases b5:(c.op==55)=true
     .rw[aK b5]
      have c3:s.H=[]:=by
       rw[b5]at b4;simp at b4;exact b4.2
      exact Ip.2 ⟨h1,h2,.inr ⟨ht,c3⟩,h4⟩
     .rw[aE b5]
      refine Ip.2 ⟨S4 h1 c2,?_,.inl c1,h4⟩;intro x hx;rcases Yg.1 hx with e |e
      .rw[e];exact ht
      .exact h2 x e
theorem agX{sz:Int}{s:S}{c:Cl}(h:qw sz s=true)(hc:1<=c.value/\c.value<=sz):qw sz (eS sz s c).1=true:=by
 have hb:=Yt h;have hm:∀x,0<=x->x<=sz->qw sz {s with cnt:=x}=true:=by
  intro x h1 h2;unfold qw at h⊢;simp only at h⊢;rw[bE]at h⊢;refine⟨?_,h.2⟩;have:=h.1;simp at this⊢;omega
 unfold eS;by_cases a1:(c.op==62)=true
 .rw[aK a1]
  by_cases a2:decide (sz<s.cnt+c.value)=true
  .rw[aK a2];exact h
  .rw[aE a2]
   simp at a2;exact hm _ (by omega) (by omega)
 .rw[aE a1]
  by_cases a2:decide (c.value<=s.cnt)=true
  .rw[aK a2]
   simp at a2;exact hm _ (by omega) (by omega)
  .rw[aE a2]
   split<;>exact h
theorem agY{sz:Int}{s:S}(h:okB {s with val:=0}=true)(hv:0<=s.val/\s.val<sz)(he:(eB sz s).2.2.2=0):okB {(eB sz s).1 with val:=0}=true/\0<=(eB sz s).1.val/\(eB sz s).1.val<sz:=by
 unfold eB at he⊢;by_cases a1:(s.val+1==sz)=true
 .rw[aK a1]at he⊢
  by_cases a2:(s.cnt==1099511627776)=true
  .rw[aK a2]at he;simp[er]at he
  .rw[aE a2]
   refine⟨?_,by simp,by simp;omega⟩
   unfold okB at h⊢;simp only at h⊢;rw[bE]at h⊢;refine⟨?_,h.2⟩;have:=h.1;simp at this a2⊢;omega
 .rw[aE a1]
  simp at a1;exact⟨h,by simp;omega,by simp;omega⟩
theorem Nl{rm:Int}{s:S}:mU rm s=true↔(s.own = -1/\s.cnt=0/\s.time=0/\s.val=0/\s.H=[]/\s.C=[])/\(s.B.length:Int)<=rm/\∀x∈s.B,num x=true:=by
 unfold mU v7;rw[afP];simp
 grind
theorem agZ{rm:Int}{s:S}{c:Cl}(h:mU rm s=true)(hc:c.op=64->num c.value=true):mU rm (eC rm s c).1=true:=by
 obtain⟨h1,h2,h3⟩:=Nl.1 h;unfold eC;by_cases a1:(c.op==64)=true
 .rw[aK a1]
  by_cases a2:s.cl=true
  .rw[aK a2];exact h
  .rw[aE a2]
   by_cases a3:decide (rm<=s.B.length)=true
   .rw[aK a3];exact h
   .rw[aE a3]
    simp at a1 a3;refine Nl.2 ⟨h1,by simp[gd];omega,?_⟩
    intro x hx;rcases dc.1 hx with e |e
    .exact h3 x e
    .rw[yL.1 e];exact hc a1
 .rw[aE a1]
  by_cases a2:(c.op==65)=true
  .rw[aK a2]
   cases hB:s.B with
   |nil=>simp only;split<;>exact h
   |cons b r =>
    rw[hB]at h2 h3;refine Nl.2 ⟨h1,by simp at h2⊢;omega,λx hx=>h3 x (vA _ hx)⟩
  .rw[aE a2]
   split
   .exact h
   .exact Nl.2 ⟨h1,h2,h3⟩
theorem ag0{sz ot:Int}{s:S}{c:Cl}(h:qx sz s=true)(hz:1<=sz)(ho:1<=ot)(hn:0<=c.now/\c.now<=1099511627776)(hc:c.op=72->1<=c.value):qx sz (eL sz ot s c).1=true:=by
 have hb:=Yu h;have hm:∀x y,0<=x->x<=sz->0<=y->y<=1099511627776->qx sz {s with cnt:=x,time:=y}=true:=by
  intro x y h1 h2 h3 h4;unfold qx at h⊢;simp only at h⊢;rw[bE]at h⊢;refine⟨?_,h.2⟩;have:=h.1;simp at this⊢;omega
 unfold eL;by_cases a0:decide (c.now<s.time)=true
 .rw[aK a0];exact h
 .rw[aE a0]
  simp at a0;obtain⟨k0,k1,k2⟩:=Ik (a:=c.now - s.time) (b:=ot) (by omega) ho
  have C4:0<=(c.now - s.time) / ot*ot:=GJ k0 (by omega)
  have hr:∃x y,ny sz ot c.now s={s with cnt:=x,time:=y}/\0<=x/\x<=sz/\0<=y/\y<=1099511627776:=by
   unfold ny;by_cases a1:decide (sz<=s.cnt+(c.now - s.time) / ot)=true
   .rw[aK a1]
    exact⟨_,_,rfl,by omega,by omega,by omega,by omega⟩
   .rw[aE a1]
    simp at a1;exact⟨_,_,rfl,by omega,by omega,by omega,by omega⟩
  obtain⟨x,y,hr,r1,r2,r3,r4⟩:=hr;rw[hr];by_cases a1:(c.op==72)=true
  .rw[aK a1]
   have hv:=hc (by simpa using a1)
   by_cases a2:decide (x<c.value)=true
   .rw[aK a2];exact hm x y r1 r2 r3 r4
   .rw[aE a2]
    simp at a2;exact hm (x - c.value) y (by omega) (by omega) r3 r4
  .rw[aE a1]
   exact hm x y r1 r2 r3 r4
theorem ag1{s:S}{c:Cl}(h:okF s=true)(hc:c.op≠74->num c.value=true):okF (eF s c).1=true:=by
 unfold eF;by_cases a1:(c.op==74)=true
 .rw[aK a1]
  split<;>exact h
 .rw[aE a1]
  split
  .exact h
  .simp at a1
   have hv:=hc a1;unfold okF uP at h⊢;simp[gd]at h⊢;simp[h,hv]
theorem YF{rm:Int}{s:S}(hq:s.Q=[]):S.good rm s=true↔s.own = -1/\vc rm none s.C=true/\s.uL=false:=by
 unfold S.good;rw[hq];have h1:ej []=0:=by decide
 rw[h1];simp[tq]
 grind
theorem ag2{rm:Int}{C:List K}(h1:gH (C.map K.task))(h2:∀x∈C,cW x.task=true/\¬rm<x.log.length/\x.log.all num=true):vc rm none C=true :=
 (Na rm C none).2 ⟨by simp,h1,h2⟩
theorem ag3{rm:Int}{s:S}{c:Cl}(hq:s.Q=[])(h:S.good rm s=true)(ht:cW c.task=true)(hr:1<=rm)(hc:c.op≠69->c.op≠71->c.op≠70->num c.value=true):
  S.good rm (eT rm s c).1=true:=by
 obtain⟨g1,g2,g3⟩:=(YF hq).1 h;obtain⟨_,v1,v2⟩:=(Na rm s.C none).1 g2;have hm:∀C',gH (C'.map K.task)->(∀x∈C',cW x.task=true/\¬rm<x.log.length/\x.log.all num=true)->S.good rm {s with C:=C'}=true :=
  λC' k1 k2=>(YF (s:={s with C:=C'}) hq).2 ⟨g1,ag2 k1 k2,g3⟩
 unfold eT;by_cases a1:(c.op==69)=true
 .rw[aK a1]
  by_cases a2:mF s c.task=true
  .rw[aK a2];exact h
  .rw[aE a2]
   refine hm _ ?_ ?_
   .have e:(s.C.take (bK s c.task)++(⟨c.task,false,[]⟩:K)::s.C.drop (bK s c.task)).map K.task=eV c.task (qy s):=by
     unfold eV;simp[qy,bK,B3,B4]
    rw[e];refine S4 v1 λhin=>a2 ?_
    unfold mF;have:=(Ij v1).2 hin;unfold bK;exact Po this
   .intro x hx
    rcases dc.1 hx with hx |hx
    .exact v2 x (nM hx)
    .rcases dA.1 hx with hx |hx
     .rw[hx]
      refine⟨ht,by simp;omega,by simp⟩
     .exact v2 x (mN hx)
 .rw[aE a1]
  by_cases a2:(c.op==71)=true
  .rw[aK a2]
   by_cases a3:mF s c.task=true
   .rw[aK a3]
    obtain⟨A,kk,B,f1,f2,f3⟩:=Nh s c.task a3;have e:s.C.take (bK s c.task)++s.C.drop (bK s c.task+1)=A++B:=by
     rw[f2,f1];have d1:List.drop (A.length+1) (A++kk::B)=B:=by
      have:A++kk::B=(A++[kk])++B:=by simp
      rw[this];exact D6 (by simp)
     rw[d1,List.take_left]
    rw[e];refine hm _ ?_ ?_
    .refine Wr ?_ v1
     rw[f1];exact List.Sublist.map _ (GM (As A) (GN kk B))
    .intro x hx
     refine v2 x ?_;rw[f1];rcases dc.1 hx with h |h
     .exact D7 _ h
     .exact GL _ (vA _ h)
   .rw[aE a3];exact h
  .rw[aE a2]
   by_cases a4:(c.op==70)=true
   .rw[aK a4]
    by_cases a3:mF s c.task=true
    .rw[aK a3]
     obtain⟨A,⟨kt,kn,kl⟩,B,f1,f2,f3⟩:=Nh s c.task a3;simp only at f3;have hg:s.C[bK s c.task]?=some ⟨kt,kn,kl⟩:=by rw[f2,f1];simp
     rw[hg];cases kl with
     |nil=>exact h
     |cons b r =>
      have e:s.C.set (bK s c.task) ⟨c.task,false,r⟩=A++⟨c.task,false,r⟩::B:=by rw[f2,f1];simp
      show S.good rm {s with C:=s.C.set (bK s c.task) ⟨c.task,false,r⟩}=true
      rw[e];have hk:=v2 ⟨kt,kn,b::r⟩ (by rw[f1];simp)
      refine hm _ ?_ ?_
      .have e2:(A++(⟨c.task,false,r⟩:K)::B).map K.task=s.C.map K.task:=by rw[f1];simp[f3]
       rw[e2];exact v1
      .intro x hx
       rcases dc.1 hx with h |h
       .exact v2 x (by rw[f1];exact D7 _ h)
       .rcases dA.1 h with h |h
        .rw[h]
         obtain⟨_,k2,k3⟩:=hk;simp only[gX,xA,bE]at k2 k3;exact⟨ht,by simp only;omega,k3.2⟩
        .exact v2 x (by rw[f1];exact GL _ (vA _ h))
    .rw[aE a3];exact h
   .rw[aE a4]
    by_cases a5:(s.C.any λx=>decide (rm<=x.log.length))=true
    .rw[aK a5];exact h
    .rw[aE a5]
     have hv:=hc (by simpa using a1) (by simpa using a2) (by simpa using a4)
     refine hm _ ?_ ?_
     .have e2:(s.C.map λx=>(⟨x.task,false,x.log++[c.value]⟩:K)).map K.task=s.C.map K.task:=by
       rw[kB];rfl
      rw[e2];exact v1
     .intro x hx
      obtain⟨w,hw,rfl⟩:=gF.1 hx;obtain⟨k1,k2,k3⟩:=v2 w hw;have h5:¬rm<=(w.log.length:Int):=by
       intro hh;exact a5 (rV.2 ⟨w,hw,Po hh⟩)
      refine⟨k1,by simp;omega,?_⟩
      simp[J0,hv]at k3⊢;exact k3
theorem C5{n:Int}{b:Bool}(h:n=0)(hb:b=true):ck n b=0:=by unfold ck;rw[aK h,hb];rfl
theorem ag4(k sz ot:Int)(s:S)(c:Cl):(raw k sz ot s c).1.Q=s.Q:=by
 unfold raw;repeat' split
 .unfold eM;repeat' split
  all_goals rfl
 .unfold eW;repeat' split
  all_goals rfl
 .unfold eS;repeat' split
  all_goals rfl
 .unfold eB;repeat' split
  all_goals rfl
 .unfold eC;repeat' split
  all_goals rfl
 .unfold eT;repeat' split
  all_goals rfl
 .unfold eL ny;repeat' split
  all_goals rfl
 .unfold eF;repeat' split
  all_goals rfl
theorem ag5(sz:Int):1<=dm sz:=by unfold dm;split<;>omega
theorem Bc{k sz ot:Int}{s:S}(h1:fZ k sz ot=0)(h2:s.Q=[])(h3:k=5->0<=s.val/\s.val<sz)(h4:gB k (iY k sz) ot (iC k s)=0):cU k sz ot s=true:=by
 unfold cU;rw[h1,h2,h4];by_cases h5:k=5
 .have:=h3 h5
  simp[h5];omega
 .simp[h5]
theorem ag6{k sz ot:Int}{s:S}{c:Cl}(ha:cU k sz ot s=true)(hc:cC c=false)(hb:dD k c.op=true)(hf:fit k sz c=true)(he:(raw k sz ot s c).2.2.2=0):
  cU k sz ot (raw k sz ot s c).1=true:=by
 obtain⟨n1,n2,n3,n4⟩:=oN ha;obtain⟨ht,hn⟩:=S8 hc;have hQ:=ag4 k sz ot s c;rw[n2]at hQ;rcases Ta ha with h |h |h |h |h |h |h |h<;>subst h
 .exact Bc n1 hQ (by simp) (by
   have:=agV (c:=c) (Ym ha) ht;exact C5 (C0 (by simpa[gB,iY,iC]using n4)) this)
 .exact Bc n1 hQ (by simp) (by
   have:=agW (c:=c) (Yn ha) ht he;exact C5 (C0 (by simpa[gB,iY,iC]using n4)) this)
 .exact Bc n1 hQ (by simp) (by
   have h5:1<=c.value/\c.value<=sz:=by simpa[fit]using hf
   have:=agX (c:=c) (S7 ha).2 h5;exact C5 (S7 ha).1 this)
 .obtain⟨h1,h2,h3,h4⟩:=Yo ha
  have:=agY h2 ⟨h3,h4⟩ he;exact Bc n1 hQ (λ_=>this.2) (by exact C5 h1 this.1)
 .obtain⟨h1,h2⟩:=agz ha
  have h3:c.op=64->num c.value=true:=by
   intro h;simpa[fit,h]using hf
  have:=agZ h2 h3;refine Bc n1 hQ (by simp) ?_
  exact C5 (C0 (b:=mU (dm sz) s) (by simpa[gB,iY,iC]using n4)) this
 .obtain⟨h1,h2⟩:=Yp ha
  have h4:c.op=68\/c.op=69\/c.op=70\/c.op=71:=by
   simp[dD]at hb;omega
  have h3:c.op≠69->c.op≠71->c.op≠70->num c.value=true:=by
   intro a b d;have h:c.op=68:=by omega
   simpa[fit,h]using hf
  have:=ag3 n2 h2 ht (ag5 sz) h3;refine Bc n1 hQ (by simp) ?_
  have n5:fN 7 (dm sz) ot s=0:=by simpa[gB,iY,iC]using n4
  have n6:dQ 7 (dm sz) ot=0:=by
   unfold fN at n5;split at n5
   .assumption
   .exact n5
  show fN 7 (dm sz) ot (eT (dm sz) s c).1=0
  unfold fN;rw[aK n6,this];rfl
 .obtain⟨h1,h2⟩:=Yq ha
  have h3:=Nj h1;have h7:c.op=72->1<=c.value:=by
   intro h
   have:1<=c.value/\c.value<=sz:=by simpa[fit,h]using hf
   exact this.1
  have:=ag0 h2 h3.1 h3.2.2.1 hn h7;exact Bc n1 hQ (by simp) (by exact C5 h1 this)
 .have h1:c.op=73\/c.op=74:=by simpa[dD]using hb
  have h3:c.op≠74->num c.value=true:=by
   intro h;have h:c.op=73:=by omega
   simpa[fit,h]using hf
  have:=ag1 (s:=s) (c:=c) (CZ (n:=dR 9 9 sz ot) (by simpa[gB,iY,iC]using n4)) h3
  exact Bc n1 hQ (by simp) (by exact C5 (C0 (by simpa[gB,iY,iC]using n4)) this)
theorem YG{k sz ot:Int}{s:S}{c:Cl}(he:(dU k sz ot s c).2.2.2=0):cU k sz ot s=true/\cU k sz ot (dU k sz ot s c).1=true:=by
 unfold dU at he⊢;by_cases h1:cU k sz ot s=false
 .rw[aK h1]at he;simp[er]at he
 .rw[aE h1]at he⊢
  by_cases h2:cC c=true
  .rw[aK h2]at he;simp[er]at he
  .rw[aE h2]at he⊢
   by_cases h3:dD k c.op=false
   .rw[aK h3]at he;simp[er]at he
   .rw[aE h3]at he⊢
    by_cases h4:fit k sz c=false
    .rw[aK h4]at he;simp[er]at he
    .rw[aE h4]at he⊢
     by_cases h5:(raw k sz ot s c).2.2.2=0
     .rw[aK h5]at he⊢
      have ha:cU k sz ot s=true:=by simpa using h1
      exact⟨ha,ag6 ha (by simpa using h2) (by simpa using h3) (by simpa using h4) h5⟩
     .rw[aE h5]at he;exact absurd he h5
end Go.VS.Sp
namespace Go.VS.Sp
theorem Tc(nm:D)(k sz ot:Int)(s:S)(c:Cl)(hw:s.wf)(hz:s.sz):
  Rel (ev P (.call uq [.d (.ag [nm,I' k,I' sz,I' ot]),.d (.ag s.row),.d (.ag c.row)] [])) (dU k sz ot s.pl c):=by
 by_cases hk:k=1\/k=2\/k=4\/k=5\/k=6\/k=7\/k=8\/k=9
 .rcases hk with h |h |h |h |h |h |h |h<;>subst h
  .exact agN nm sz ot s c hw hz
  .exact agO nm sz ot s c hw hz
  .exact agP nm sz ot s c hw hz
  .exact agQ nm sz ot s c hw hz
  .exact agR nm sz ot s c hw hz
  .exact agS nm sz ot s c hw hz
  .exact agT nm sz ot s c hw hz
  .exact agU nm sz ot s c hw hz
 .have ha:cU k sz ot s.pl=false:=by
   cases hh:cU k sz ot s.pl
   .rfl
   .exact absurd (Ta hh) hk
  unfold dU;rw[ha,aK rfl];have hU:=Yx hk;rw[au zb rfl];exact Rel.fail 1 (by simp[dh,Cl.row,hU,ew,ct])
theorem YH(nm:D)(k sz ot:Int)(s:S)(c:Cl)(hw:s.wf)(hz:s.sz):
  ev P (.call KL [.d (.ag [nm,I' k,I' sz,I' ot]),.d (.ag s.row),.d (.ag c.row)] [])=some (.val (.d (.b ((dU k sz ot s.pl c).2.2.2==0))) []):=by
 obtain⟨s',h1,h2,h3⟩:=Tc nm k sz ot s c hw hz;generalize dU k sz ot s.pl c=r at *;simp only[S.row,Cl.row]at h1;rw[au adF rfl];simp[Rq,Cl.row,h1]
theorem Bd(f g:Nat)(nm:D)(k sz ot e:Int)(r:List D)(hr:r.length=9)(h:ev P (.call f [.d (.ag [nm,I' k,I' sz,I' ot])] [])=qv e r):
  ev P (.call xS [.d (.ag [.fn f [] [],.fn g [] []]),.d (.ag [nm,I' k,I' sz,I' ot])] [])=qv e r:=by
 unfold qv at h⊢
 match r,hr with
 | [r0,r1,r2,r3,r4,r5,r6,r7,r8],_ =>
 rw[au afn rfl];by_cases he:e=0
 .rw[aK he]at h⊢
  simp[ML,h,eE,fA]
 .rw[aE he]at h⊢
  simp[ML,h,eE,fA,ct]
theorem Td(nm:D)(k sz ot:Int):ev P (.call KM [.d (.ag [nm,I' k,I' sz,I' ot])] [])=qv (fZ k sz ot) (we k sz):=by
 rw[au adG rfl];by_cases hk:k=1\/k=2\/k=4\/k=5\/k=6\/k=7\/k=8\/k=9
 .rcases hk with h |h |h |h |h |h |h |h<;>subst h
  .have h:=Bd sX ql nm 1 sz ot _ _ rfl (M4 nm 1 sz ot)
   have e:fZ 1 sz ot=dR 1 1 sz ot:=rfl;rw[e];by_cases hm:dR 1 1 sz ot=0<;>simp[vN,uR,cV,h,hm,we,gn,ct]
  .have h:=Bd sY l5 nm 2 sz ot _ _ rfl (M5 nm 2 sz ot)
   have e:fZ 2 sz ot=dR 2 2 sz ot:=rfl;rw[e];by_cases hm:dR 2 2 sz ot=0<;>simp[vN,sD,cV,h,hm,we,gn,ct]
  .have h:=Bd uu qZ nm 4 sz ot _ _ rfl (uM nm 4 sz ot)
   have e:fZ 4 sz ot=iV 4 sz ot:=rfl;rw[e];by_cases hm:iV 4 sz ot=0<;>simp[vN,rD,cV,h,hm,we,grow,ct]
  .have h:=Bd uw oG nm 5 sz ot _ _ rfl (uN nm 5 sz ot)
   have e:fZ 5 sz ot=iW 5 sz ot:=rfl;rw[e];by_cases hm:iW 5 sz ot=0<;>simp[vN,Ba,cV,h,hm,we,gn,ct]
  .have h:=Bd ux gr nm 6 sz ot _ _ rfl (Ff nm 6 sz ot)
   have e:fZ 6 sz ot=gZ 6 sz ot:=rfl;rw[e];by_cases hm:gZ 6 sz ot=0<;>simp[vN,tA,cV,h,hm,we,gn,ct]
  .have h:=Bd uy su nm 7 sz ot _ _ rfl (tj nm 7 sz ot)
   have e:fZ 7 sz ot=dQ 7 sz ot:=rfl;rw[e];by_cases hm:dQ 7 sz ot=0<;>simp[vN,rE,cV,h,hm,we,gn,ct]
  .have h:=Bd uz nU nm 8 sz ot _ _ rfl (uO nm 8 sz ot)
   have e:fZ 8 sz ot=jv 8 sz ot:=rfl;rw[e];by_cases hm:jv 8 sz ot=0<;>simp[vN,wg,cV,h,hm,we,grow,ct]
  .have h:=Bd uA qm nm 9 sz ot _ _ rfl (Fe nm 9 sz ot)
   have e:fZ 9 sz ot=dR 9 9 sz ot:=rfl;rw[e];by_cases hm:dR 9 9 sz ot=0<;>simp[vN,wh,cV,h,hm,we,gn,ct]
 .have hU:=Yx hk
  have e:fZ k sz ot=8:=by
   unfold fZ;repeat' split
   all_goals first |rfl |(exfalso;apply hk;simp[*])
  rw[e];simp[vN,hU,ct]
def eu(k sz:Int):S:=⟨-1,if k=4\/k=8 then sz else 0,0,true,[],true,[],true,[],true,[],false,0⟩
theorem Te(k sz:Int):(eu k sz).row=we k sz:=by
 unfold eu we;by_cases h:k=4\/k=8
 .rw[aK h,aK h];rfl
 .rw[aE h,aE h];rfl
theorem Nm(k sz:Int):(eu k sz).wf:=⟨λ_=>rfl,λ_=>rfl,λ_=>rfl,by simp[eu]⟩
structure S.zn(n:Nat)(s:S):Prop where
 h:s.H.length<=n
 b:s.B.length<=n
 q:s.Q.length<=n
 c:s.C.length<=n
 l:∀c∈s.C,c.log.length<=n
theorem S.zn.sz{n:Nat}{s:S}(h:s.zn n)(hn:n<=1000):s.sz:=⟨by have:=h.h;omega,by have:=h.b;omega,by have:=h.q;omega,by have:=h.c;omega,λc hc=>by have:=h.l c hc;omega⟩
theorem Nn{n:Nat}{s:S}:s.pl.zn n↔s.zn n:=by
 constructor
 .intro h
  refine⟨h.h,h.b,h.q,by have:=h.c;simpa[S.pl]using this,λc hc=>?_⟩
  exact h.l (K.pl c) (Pn hc)
 .intro h
  refine⟨h.h,h.b,h.q,by have:=h.c;simpa[S.pl]using this,λc hc=>?_⟩
  obtain⟨d,hd,rfl⟩:=gF.1 hc;exact h.l d hd
theorem S.zn.up{n:Nat}{s:S}(h:s.zn n):s.zn (n+1):=⟨by have:=h.h;omega,by have:=h.b;omega,by have:=h.q;omega,by have:=h.c;omega,λc hc=>by have:=h.l c hc;omega⟩
theorem ag7(k sz ot:Int){n:Nat}{s:S}(c:Cl)(h:s.zn n):(raw k sz ot s c).1.zn (n+1):=by
 have hu:=h.up;have hs:∀o x t v b,S.zn (n+1) {s with own:=o,cnt:=x,time:=t,val:=v,cl:=b}:=λo x t v b=>⟨hu.h,hu.b,hu.q,hu.c,hu.l⟩
 unfold raw;repeat' split
 .unfold eM;repeat' split
  all_goals exact hs _ _ _ _ _
 .unfold eW;repeat' split
  all_goals first
   |exact hs _ _ _ _ _
   |exact⟨by have h1:=h.h;have h2:=uc (λx=>x != c.task) s.H;simp[gd];omega,hu.b,hu.q,hu.c,hu.l⟩
   |exact⟨by have h1:=h.h;have h2:=tv c.task s.H;simp[gd,eV];omega,hu.b,hu.q,hu.c,hu.l⟩
 .unfold eS;repeat' split
  all_goals exact hs _ _ _ _ _
 .unfold eB;repeat' split
  all_goals exact hs _ _ _ _ _
 .unfold eC;repeat' split
  all_goals first
   |exact hs _ _ _ _ _
   |exact⟨hu.h,by have h1:=h.b;simp[gd];omega,hu.q,hu.c,hu.l⟩
   |exact⟨hu.h,by have h1:=h.b;simp_all;omega,hu.q,hu.c,hu.l⟩
 .unfold eT;repeat' split
  all_goals first
   |exact hs _ _ _ _ _
   |(
    refine⟨hu.h,hu.b,hu.q,?_,?_⟩
    .have h1:=h.c;simp[gd];omega
    .intro x hx
     simp only[gd,dc,dA]at hx;rcases hx with h |h |h
     .exact hu.l x (nM h)
     .rw[h];simp
     .exact hu.l x (mN h))
   |(
    refine⟨hu.h,hu.b,hu.q,?_,?_⟩
    .have h1:=h.c;simp[gd];omega
    .intro x hx
     simp only[gd,dc]at hx;rcases hx with h |h
     .exact hu.l x (nM h)
     .exact hu.l x (mN h))
   |(
    rename_i b r hg;refine⟨hu.h,hu.b,hu.q,?_,?_⟩
    .have h1:=h.c;simp;omega
    .intro x hx
     rcases J1 hx with h2 |h2
     .exact hu.l x h2
     .rw[h2]
      have h3:=h.l _ (kY hg);simp at h3⊢;omega)
   |(
    refine⟨hu.h,hu.b,hu.q,?_,?_⟩
    .have h1:=h.c;simp[gd];omega
    .intro x hx
     simp only[gd]at hx;obtain⟨w,hw,rfl⟩:=gF.1 hx;have h3:=h.l w hw;simp;omega)
 .unfold eL ny;repeat' split
  all_goals exact hs _ _ _ _ _
 .unfold eF;repeat' split
  all_goals exact hs _ _ _ _ _
theorem ag8(n:Nat):zS.zn n:=⟨by simp[zS,zN,S.pl],by simp[zS,zN,S.pl],by simp[zS,zN,S.pl],by simp[zS,zN,S.pl],by simp[zS,zN,S.pl]⟩
theorem YI(k sz ot:Int){n:Nat}{s:S}(c:Cl)(h:s.zn n):(dU k sz ot s c).1.zn (n+1):=by
 unfold dU;repeat' split
 all_goals first |exact ag8 _ |exact ag7 k sz ot c h
end Go.VS.Sp
namespace Go.VS.Sp
structure Wk where
 task:Int
 op:Int
 value:Int
 ok:Bool
 case:Int
def Wk.row(w:Wk):List D:=[I' w.task,I' w.op,I' w.value,.b w.ok,I' w.case]
def Be(k sz ot:Int)(s:S)(c:Cl)(w:Wk):Option S :=
 if((dU k sz ot s c).2.2.2 != 0||c.task != w.task||c.op != w.op)then none
 else if(w.value==(dU k sz ot s c).2.1&&w.ok==(dU k sz ot s c).2.2.1)then some (dU k sz ot s c).1
 else if(c.op==61&&ot==0&&(w.value==0&&!w.ok))then some s else none
def nZ(k sz ot:Int):S->List Cl->List Wk->Option S
 |s,c::l,w::r=>(Be k sz ot s c w).bind λt=>nZ k sz ot t l r
 |s,_,_=>some s
def Iq(b:Bool):Int:=if b then 1 else 0
theorem Tf(v:Int)(b:Bool):ev P (.call G8 [.d (I' v),.d (.b b)] [])=some (.val (.d (.ag [I' v,I' (Iq b)])) []):=by
 rw[au adN rfl];cases b<;>simp[Ru,Iq]
theorem Tg(a b:Bool):(Iq a==Iq b)=(a==b):=by cases a<;>cases b<;>decide
theorem Th(a:Bool):(Iq a==0)=!a:=by cases a<;>decide
theorem ag9(nm:D)(k sz ot:Int)(ln rn:Bool)(l:List Cl)(r:List Wk)(hlr:l.length=r.length)(hn:l.length<=1000):∀(sl:List Cl)(sr:List Wk)(pl:List Cl)(pr:List Wk)(a:S),l=pl++sl->r=pr++sr->pr.length=pl.length->a.wf->a.zn pl.length ->
  match nZ k sz ot a.pl sl sr with
  |none=>ev P (.loop 0 [2,3,7,38,39,40] sx [(2,.d (.sl 5 rn (r.map Wk.row))),(3,.d (.ref [nm,I' k,I' sz,I' ot])),(7,.loc 0 0 0),(38,.d (.sl 5 ln (l.map Cl.row))),(39,.d (I' l.length)),(40,.d (I' pl.length))] [.aG 9 true [a.row]])=some (.out .ret [(6,.d (.b false))] [])
  |some t=>∃a':S,a'.pl=t/\a'.wf/\a'.zn l.length/\ev P (.loop 0 [2,3,7,38,39,40] sx [(2,.d (.sl 5 rn (r.map Wk.row))),(3,.d (.ref [nm,I' k,I' sz,I' ot])),(7,.loc 0 0 0),(38,.d (.sl 5 ln (l.map Cl.row))),(39,.d (I' l.length)),(40,.d (I' pl.length))] [.aG 9 true [a.row]]) =
    some (.out (.exit 0) [(3,.d (.ref [nm,I' k,I' sz,I' ot])),(7,.loc 0 0 0)] [.aG 9 true [a'.row]]):=by
 intro sl;induction sl with
 |nil =>
  intro sr pl pr a hl hr hp hw hz;have h1:l.length=pl.length:=by simp[hl]
  simp only[nZ];refine⟨a,rfl,hw,by rw[h1];exact hz,?_⟩
  rw[bT]
  conv=>lhs;arg 4;unfold sx
  simp[h1,aI,az,sub,aD,back,ak,cut,an,V.aV,bp,aX,aZ,aq,aM,aN]
 |cons c sl ih =>
  intro sr pl pr a hl hr hp hw hz;have hlt:(pl.length:Int)<l.length:=by simp[hl];omega
  have hnext:IntKind.i64.wrap ((pl.length:Int)+1)=pl.length+1:=wrap_i64 (by omega) (by omega)
  have hg:l[pl.length]?=some c:=by simp[hl]
  cases sr with
  |nil=>exfalso;simp[hl,hr]at hlr;omega
  |cons w sr =>
  have hg':r[pl.length]?=some w:=by rw[<-hp];simp[hr]
  obtain⟨a',e1,e2,e3⟩:=Tc nm k sz ot a c hw (hz.sz (by simp[hl]at hn;omega))
  have Ti:a'.zn (pl.length+1):=by
   rw[<-Nn,e2];exact YI k sz ot c (Nn.2 hz)
  have ih1:=ih sr (pl++[c]) (pr++[w]) a' (by simp[hl]) (by simp[hr]) (by simp[hp]) e3 (by simpa using Ti)
  have ih2:=ih sr (pl++[c]) (pr++[w]) a (by simp[hl]) (by simp[hr]) (by simp[hp]) hw (by simpa using hz.up)
  have C4:=Tf 0 false;have mV:=Tf w.value w.ok;unfold nZ Be;generalize dU k sz ot a.pl c=x at *;obtain⟨x1,x2,x3,x4⟩:=x;simp only at e1 e2;have Bf:=Tf x2 x3;rw[e2]at ih1;simp only[S.row,Cl.row]at e1;cases hB:(x4 != 0||c.task != w.task||c.op != w.op)
  .rw[aE (by decide)]
   cases hM:(w.value==x2&&w.ok==x3)
   .rw[aE (by decide)]
    cases hI:(c.op==61&&ot==0&&(w.value==0&&!w.ok))
    .rw[aE (by decide)]
     simp only[Option.bind_none];rw[bT]
     conv=>lhs;arg 4;unfold sx
     simp[hlt,hg,hg',Cl.row,Wk.row,e1,hnext,C4,mV,Bf,hB,hM,hI,Tg,Th,aI,az,sub,aD,back,ak,cut,an,V.aV,bp,aX,aZ,aq,aM,aN]
    .rw[aK rfl,rY]
     have hs:ev P (.loop 0 [2,3,7,38,39,40] sx [(2,.d (.sl 5 rn (r.map Wk.row))),(3,.d (.ref [nm,I' k,I' sz,I' ot])),(7,.loc 0 0 0),(38,.d (.sl 5 ln (l.map Cl.row))),(39,.d (I' l.length)),(40,.d (I' pl.length))] [.aG 9 true [a.row]]) =
       ev P (.loop 0 [2,3,7,38,39,40] sx [(2,.d (.sl 5 rn (r.map Wk.row))),(3,.d (.ref [nm,I' k,I' sz,I' ot])),(7,.loc 0 0 0),(38,.d (.sl 5 ln (l.map Cl.row))),(39,.d (I' l.length)),(40,.d (I' (pl++[c]).length))] [.aG 9 true [a.row]]):=by
      generalize hR:ev P (.loop 0 [2,3,7,38,39,40] sx [(2,.d (.sl 5 rn (r.map Wk.row))),(3,.d (.ref [nm,I' k,I' sz,I' ot])),(7,.loc 0 0 0),(38,.d (.sl 5 ln (l.map Cl.row))),(39,.d (I' l.length)),(40,.d (I' (pl++[c]).length))] [.aG 9 true [a.row]])=R;rw[bT]
      conv=>lhs;arg 4;unfold sx
      simp at hR;simp[hlt,hg,hg',Cl.row,Wk.row,e1,hnext,C4,mV,Bf,hB,hM,hI,Tg,Th,aI,az,sub,aD,back,ak,cut,an,V.aV,bp,aX,aZ,aq,aM,aN];exact hR
     rw[hs];exact ih2
   .rw[aK rfl,rY]
    have hs:ev P (.loop 0 [2,3,7,38,39,40] sx [(2,.d (.sl 5 rn (r.map Wk.row))),(3,.d (.ref [nm,I' k,I' sz,I' ot])),(7,.loc 0 0 0),(38,.d (.sl 5 ln (l.map Cl.row))),(39,.d (I' l.length)),(40,.d (I' pl.length))] [.aG 9 true [a.row]]) =
      ev P (.loop 0 [2,3,7,38,39,40] sx [(2,.d (.sl 5 rn (r.map Wk.row))),(3,.d (.ref [nm,I' k,I' sz,I' ot])),(7,.loc 0 0 0),(38,.d (.sl 5 ln (l.map Cl.row))),(39,.d (I' l.length)),(40,.d (I' (pl++[c]).length))] [.aG 9 true [a'.row]]):=by
     generalize hR:ev P (.loop 0 [2,3,7,38,39,40] sx [(2,.d (.sl 5 rn (r.map Wk.row))),(3,.d (.ref [nm,I' k,I' sz,I' ot])),(7,.loc 0 0 0),(38,.d (.sl 5 ln (l.map Cl.row))),(39,.d (I' l.length)),(40,.d (I' (pl++[c]).length))] [.aG 9 true [a'.row]])=R;rw[bT]
     conv=>lhs;arg 4;unfold sx
     simp at hR;simp[hlt,hg,hg',Cl.row,Wk.row,e1,hnext,C4,mV,Bf,hB,hM,Tg,Th,aI,az,sub,aD,back,ak,cut,an,V.aV,bp,aX,aZ,aq,aM,aN];exact hR
    rw[hs];exact ih1
  .rw[aK rfl]
   simp only[Option.bind_none];rw[bT]
   conv=>lhs;arg 4;unfold sx
   simp[hlt,hg,hg',Cl.row,Wk.row,e1,hnext,C4,mV,Bf,hB,aI,az,sub,aD,back,ak,cut,an,V.aV,bp,aX,aZ,aq,aM,aN]
theorem aha(f g:Nat)(nm:D)(k sz ot e:Int)(s:S)(h:ev P (.call g [.d (.ag [nm,I' k,I' sz,I' ot]),.d (.ag s.row)] [])=some (.val (.d (I' e)) [])):
  ev P (.call xR [.d (.ag [.fn f [] [],.fn g [] []]),.d (.ag [nm,I' k,I' sz,I' ot]),.d (.ag s.row)] [])=some (.val (.d (I' e)) []):=by
 simp only[S.row]at h;rw[au afm rfl];simp[Sv,h,eE,fA]
def x7(k sz ot:Int)(l:List Cl)(r:List Wk):Bool :=
 if(fZ k sz ot != 0||(l.length:Int) != r.length||decide ((1000:Int)<l.length))then false
 else match nZ k sz ot (eu k sz).pl l r with
  |none=>false
  |some t=>gB k sz ot t==0
theorem YJ(k sz:Int)(n:Nat):(eu k sz).zn n:=⟨by simp[eu],by simp[eu],by simp[eu],by simp[eu],by simp[eu]⟩
theorem ahb{k sz ot:Int}{s t:S}{c:Cl}{w:Wk}(h:Be k sz ot s c w=some t)(hq:s.Q=[]):t.Q=[]:=by
 unfold Be at h;by_cases h1:((dU k sz ot s c).2.2.2 != 0||c.task != w.task||c.op != w.op)=true
 .rw[aK h1]at h;cases h
 .rw[aE h1]at h
  by_cases h2:(w.value==(dU k sz ot s c).2.1&&w.ok==(dU k sz ot s c).2.2.1)=true
  .rw[aK h2]at h
   cases h;simp at h1;exact(oN (YG (by simpa using h1.1.1)).2).2.1
  .rw[aE h2]at h
   split at h
   .cases h;exact hq
   .cases h
theorem YK(k sz ot:Int):∀(l:List Cl)(r:List Wk)(s t:S),nZ k sz ot s l r=some t->s.Q=[]->t.Q=[]
 | [],_,s,t,h,hq=>by simp[nZ]at h;rw[<-h];exact hq
 |_::_,[],s,t,h,hq=>by simp[nZ]at h;rw[<-h];exact hq
 |c::l,w::r,s,t,h,hq=>by
  unfold nZ at h;cases hx:Be k sz ot s c w with
  |none=>rw[hx]at h;cases h
  |some u =>
   rw[hx,rY]at h;exact YK k sz ot l r u t h (ahb hx hq)
theorem Bg(f g t:Nat)(ht:t=101\/t=102\/t=103\/t=104\/t=105\/t=106\/t=107\/t=108)(nm:D)(k sz ot:Int)(zu:ev P (.call sq [.d (I' k)] [])=some (.val (.tu [.d (.mw t (.ag [.fn f [] [],.fn g [] []])),.d (.b true)]) []))
  (bS:∀s:S,s.Q=[]->s.sm->ev P (.call g [.d (.ag [nm,I' k,I' sz,I' ot]),.d (.ag s.row)] [])=some (.val (.d (I' (gB k sz ot s))) []))(ln rn:Bool)(l:List Cl)(r:List Wk)(hl:l.length<=100000)(hr:r.length<=100000):
  ev P (.call Ct [.d (.ag [nm,I' k,I' sz,I' ot]),.d (.sl 5 ln (l.map Cl.row)),.d (.sl 5 rn (r.map Wk.row))] [])=some (.val (.d (.b (x7 k sz ot l r))) []):=by
 have hI:=Td nm k sz ot;rw[<-Te]at hI;unfold qv at hI;rw[au Xv rfl];unfold x7;cases hB:(fZ k sz ot != 0||(l.length:Int) != r.length||decide ((1000:Int)<l.length))
 .rw[aE (by decide)]
  have YL:=hB;simp at YL;obtain⟨⟨b1,b2⟩,b3⟩:=YL;have hL:=ag9 nm k sz ot ln rn l r (by omega) (by omega) l r [] [] (eu k sz) rfl rfl rfl (Nm _ _) (YJ _ _ _)
  rw[aK b1,b1]at hI;simp only[S.row]at hI;have hb:((l.length:Int) != r.length||decide ((1000:Int)<l.length))=false:=by rw[b1]at hB;simpa using hB
  cases hx:nZ k sz ot (eu k sz).pl l r with
  |none =>
   rw[hx]at hL;simp only[S.row]at hL;simp at hL;simp[CE,hI,hb,hL,aI,az,sub,aD,back,ak,cut,an,V.aV,bp,aX,aZ,aq,aM,aN]
  |some t =>
   rw[hx]at hL;obtain⟨s,h1,h2,h3,hL⟩:=hL;have hq:s.Q=[]:=by
    have:=YK k sz ot l r _ _ hx rfl;rw[<-h1]at this;exact this
   have hs:=(h3.sz (by omega)).sm
   have hC:=aha f g nm k sz ot _ s (bS s hq hs);have e:gB k sz ot t=gB k sz ot s:=by rw[<-h1];exact S9 k sz ot s hq
   simp only[e];generalize gB k sz ot s=q at *;simp only[S.row]at hL hC;simp at hL;rcases ht with h |h |h |h |h |h |h |h<;>subst h<;>simp[CE,hI,hb,hL,zu,cV,hC,aI,az,sub,aD,back,ak,cut,an,V.aV,bp,aX,aZ,aq,aM,aN]
 .rw[aK rfl]
  by_cases b1:fZ k sz ot=0
  .rw[aK b1,b1]at hI
   rw[b1]at hB;simp only[S.row]at hI;have hb:((l.length:Int) != r.length||decide ((1000:Int)<l.length))=true:=by simpa using hB
   simp[CE,hI,hb]
  .rw[aE b1]at hI
   have b2:(fZ k sz ot != 0)=true:=by simpa using b1
   simp[CE,hI,b2,ct]
end Go.VS.Sp
namespace Go.VS.Sp
theorem ahc{k sz ot:Int}{s:S}{c:Cl}(ho:c.op=61)(he:(dU k sz ot s c).2.2.2=0)(hb:(dU k sz ot s c).2.2.1=false):(dU k sz ot s c).1=s:=by
 obtain⟨ha,_⟩:=YG he;unfold dU at he hb⊢;rw[ha,aE (by decide)]at he hb⊢
 by_cases h2:cC c=true
 .rw[aK h2]at he;simp[er]at he
 .rw[aE h2]at he hb⊢
  by_cases h3:dD k c.op=false
  .rw[aK h3]at he;simp[er]at he
  .rw[aE h3]at he hb⊢
   by_cases h4:fit k sz c=false
   .rw[aK h4]at he;simp[er]at he
   .rw[aE h4]at he hb⊢
    by_cases h5:(raw k sz ot s c).2.2.2=0
    .rw[aK h5]at hb⊢
     have hk:k=4:=by
      rcases Ta ha with h |h |h |h |h |h |h |h<;>subst h<;>simp[dD,ho]at h3;rfl
     subst hk;have e:raw 4 sz ot s c=eS sz s c:=rfl;rw[e]at hb⊢;unfold eS at hb⊢;have o62:(c.op==62)=false:=by simp[ho]
     have o61:(c.op==61)=true:=by simp[ho]
     rw[o62,o61]at hb⊢;rw[aE (by decide)]at hb⊢
     split at hb
     .simp[gd]at hb
     .rename_i h6
      rw[aE h6];rfl
    .rw[aE h5]at he;exact absurd he h5
theorem Ir(nm:D)(k sz ot:Int)(ln rn:Bool)(l:List Cl)(r:List Wk)(hl:l.length<=100000)(hr:r.length<=100000):
  ev P (.call Ct [.d (.ag [nm,I' k,I' sz,I' ot]),.d (.sl 5 ln (l.map Cl.row)),.d (.sl 5 rn (r.map Wk.row))] [])=some (.val (.d (.b (x7 k sz ot l r))) []):=by
 by_cases hk:k=1\/k=2\/k=4\/k=5\/k=6\/k=7\/k=8\/k=9
 .rcases hk with h |h |h |h |h |h |h |h<;>subst h
  .exact Bg sX ql 101 (.inl rfl) nm 1 sz ot uR (λs hq hs=>SQ nm 1 sz ot s hq hs) ln rn l r hl hr
  .exact Bg sY l5 102 (.inr (.inl rfl)) nm 2 sz ot sD (λs hq hs=>SU nm 2 sz ot s hq hs) ln rn l r hl hr
  .exact Bg uu qZ 103 (.inr (.inr (.inl rfl))) nm 4 sz ot rD (λs hq hs=>SR nm 4 sz ot s hq hs) ln rn l r hl hr
  .exact Bg uw oG 104 (.inr (.inr (.inr (.inl rfl)))) nm 5 sz ot Ba (λs hq hs=>SS nm 5 sz ot s hq hs) ln rn l r hl hr
  .exact Bg ux gr 105 (.inr (.inr (.inr (.inr (.inl rfl))))) nm 6 sz ot tA (λs hq hs=>M8 nm 6 sz ot s hq hs) ln rn l r hl hr
  .exact Bg uy su 106 (.inr (.inr (.inr (.inr (.inr (.inl rfl)))))) nm 7 sz ot rE (λs hq hs=>qu nm 7 sz ot s hs) ln rn l r hl hr
  .exact Bg uz nU 107 (.inr (.inr (.inr (.inr (.inr (.inr (.inl rfl))))))) nm 8 sz ot wg (λs hq hs=>SV nm 8 sz ot s hq hs) ln rn l r hl hr
  .exact Bg uA qm 108 (.inr (.inr (.inr (.inr (.inr (.inr (.inr rfl))))))) nm 9 sz ot wh (λs hq hs=>SX nm 9 sz ot s hq) ln rn l r hl hr
 .have hI:=Td nm k sz ot
  have b1:¬fZ k sz ot=0:=λh=>hk (Yw h)
  have b2:(fZ k sz ot != 0)=true:=by simpa using b1
  have e:x7 k sz ot l r=false:=by
   unfold x7;rw[b2];simp
  rw[e];unfold qv at hI;rw[aE b1]at hI;rw[au Xv rfl];simp[CE,hI,b2,ct]
end Go.VS.Sp
namespace Go.VS.Sp
def zw:Cl:=⟨1,64,5,0,0⟩
def C6:Cl:=⟨2,65,0,0,0⟩
def C7:Wk:=⟨1,64,0,true,0⟩
def Is:Wk:=⟨2,65,5,true,0⟩
theorem aw1:((dU 6 0 0 (eu 6 0).pl zw).2.2.2==0)=true:=by decide
theorem aw2:((dU 6 0 0 (eu 6 0).pl C6).2.2.2==0)=false:=by decide
theorem aw3:x7 6 0 0 [zw,C6] [C7,Is]=true:=by decide
theorem aw4:x7 6 0 0 [zw] [C7]=false:=by decide
theorem aw5:x7 6 0 0 [C6,zw] [Is,C7]=false:=by decide
theorem ahd:ev P (.call AG [] [])=some (.val (.d (.ag [.s [],I' 6,I' 0,I' 0])) []):=by
 rw[au adL rfl];simp[Rs]
theorem Fm:ev P (.call G7 [] [])=some (.val (.d (.b true)) []):=by
 have hI:=Td (.s []) 6 0 0;have e0:fZ 6 0 0=0:=by decide
 unfold qv at hI;rw[aK e0,e0,<-Te]at hI;have hz:=(YJ 6 0 0).sz (by decide)
 have h1:=YH (.s []) 6 0 0 (eu 6 0) zw (Nm _ _) hz;have h2:=YH (.s []) 6 0 0 (eu 6 0) C6 (Nm _ _) hz;have h3:=Ir (.s []) 6 0 0 false false [zw,C6] [C7,Is] (by decide) (by decide)
 have h4:=Ir (.s []) 6 0 0 false false [zw] [C7] (by decide) (by decide)
 have h5:=Ir (.s []) 6 0 0 false false [C6,zw] [Is,C7] (by decide) (by decide)
 rw[aw1]at h1;rw[aw2]at h2;rw[aw3]at h3;rw[aw4]at h4;rw[aw5]at h5;simp only[S.row]at hI h1 h2;simp only[fT,gq,Cl.row,Wk.row,zw,C6,C7,Is]at h1 h2 h3 h4 h5;rw[au adE rfl];simp[Ro,ahd,hI,h1,h2,h3,h4,h5,V.aV]
end Go.VS.Sp
namespace Go.VS.Sp
def eI(f:List W->W->Bool):List W->List W->Bool
 |_,[]=>true
 |pre,w::r=>f pre w&&eI f (pre++[w]) r
def Gb(sz:Int)(w:W):Bool:=w.op != 60||decide (w.value<1)||decide (sz<w.value)||w.case != -1
def fS(sz ot cnt:Int)(pre:List W)(w:W):Bool:=!Gb sz w&&(!pre.any (λx=>x.task==w.task)&&(decide ((0:Int)<pre.length)&&ot==0||decide (cnt<w.value)))
theorem alD(nm:D)(k sz ot own cnt time:Int)(a1 a2 a3:D)(cl:Bool)(val:Int)(qn:Bool)(pre:List W)(w:W)(r:List W)(hn:(pre++w::r).length<=1000000):
  ev P (.call Qt [.d (.ag [nm,I' k,I' sz,I' ot]),.d (.ag [I' own,I' cnt,I' time,a1,qD qn (pre++w::r),a2,a3,.b cl,I' val]),.d (I' pre.length)] [])=some (.val (.d (.b (fS sz ot cnt pre w))) []):=by
 have hF:=lD qn (pre++w::r) w.task hn;have mT:=fd_eq (pre:=pre) (w:=w) (r:=r);generalize ju (pre++w::r) w.task=p at *;obtain⟨p1,p2⟩:=p;simp only at mT;have hg:(pre++w::r)[pre.length]?=some w:=by simp
 rw[au ad5 rfl];unfold fS;rw[<-mT];cases h1:Gb sz w
 .unfold Gb at h1
  have hb:(p1 != (pre.length:Int))=!(p1==(pre.length:Int)):=rfl;cases h2:p1==(pre.length:Int)
  .rw[h2]at hb
   simp[EP,W.row,h1,hF,hb]
  .rw[h2]at hb
   cases h3:(decide ((0:Int)<pre.length)&&ot==0)
   .simp[EP,W.row,h1,hF,hb,h3]
    simp at h3
    grind
   .simp[EP,W.row,h1,hF,hb,h3]
    simp at h3
    grind
 .unfold Gb at h1
  simp[EP,W.row,h1]
theorem alE(nm:D)(k sz ot own cnt time:Int)(a1 a2 a3:D)(cl:Bool)(val:Int)(qn:Bool)(Q:List W)(hn:Q.length<=1000000):∀(suf pre:List W),Q=pre++suf ->
  ev P (.loop 0 [2,3,39,40] EE [(2,.d (.ref [nm,I' k,I' sz,I' ot])),(3,.d (.ref [I' own,I' cnt,I' time,a1,qD qn Q,a2,a3,.b cl,I' val])),(39,.d (I' Q.length)),(40,.d (I' pre.length))] []) =
   if eI (fS sz ot cnt) pre suf=true then some (.out (.exit 0) [(3,.d (.ref [I' own,I' cnt,I' time,a1,qD qn Q,a2,a3,.b cl,I' val]))] [])else some (.out .ret [(4,.d (I' 1))] []):=by
 intro suf;induction suf with
 |nil =>
  intro pre hl
  have:Q.length=pre.length:=by simp[hl]
  rw[bT]
  conv=>lhs;arg 4;unfold EE
  simp[this,eI]
 |cons w suf ih =>
  intro pre hl;have hlt:(pre.length:Int)<Q.length:=by simp[hl];omega
  have hnext:IntKind.i64.wrap ((pre.length:Int)+1)=pre.length+1:=wrap_i64 (by omega) (by omega)
  have bD:=ih (pre++[w]) (by simp[hl])
  have hw:=alD nm k sz ot own cnt time a1 a2 a3 cl val qn pre w suf (by rw[<-hl];exact hn)
  rw[<-hl]at hw;generalize hR:(if eI (fS sz ot cnt) (pre++[w]) suf=true then some (dN.out (.exit 0) [(3,V.d (.ref [I' own,I' cnt,I' time,a1,qD qn Q,a2,a3,.b cl,I' val]))] [])else some (.out .ret [(4,.d (I' 1))] []))=R at bD
  rw[bT]
  conv=>lhs;arg 4;unfold EE
  cases hf:fS sz ot cnt pre w
  .rw[hf]at hw
   simp[hlt,hw,eI,hf]
  .rw[hf]at hw
   have hq:eI (fS sz ot cnt) pre (w::suf)=eI (fS sz ot cnt) (pre++[w]) suf:=by simp[eI,hf]
   rw[hq,hR];simp at bD;simp[hlt,hw,hnext];exact bD
def DC(sz ot:Int)(s:S):Bool:=(!(s.own != -1||decide (s.cnt<0)||decide (sz<s.cnt))&&ej s.Q==0)&&(eI (fS sz ot s.cnt) [] s.Q&&!(s.time != 0||decide ((0:Int)<(s.H.length:Int)+s.B.length+s.C.length)||s.cl||s.val != 0))
theorem alF(nm:D)(k sz ot:Int)(s:S)(hs:s.sm):
  ev P (.call qZ [.d (.ag [nm,I' k,I' sz,I' ot]),.d (.ag s.row)] [])=some (.val (.d (I' (ck (iV k sz ot) (DC sz ot s)))) []):=by
 obtain⟨own,cnt,time,hn,H,qn,Q,bn,B,cn,C,cl,val⟩:=s;obtain⟨h1,h2,h3,h4,_⟩:=hs;simp only at h1 h2 h3 h4;have hw1:IntKind.i64.wrap ((H.length:Int)+B.length)=H.length+B.length:=wrap_i64 (by omega) (by omega)
 have dO:IntKind.i64.wrap ((H.length:Int)+B.length+C.length)=H.length+B.length+C.length:=wrap_i64 (by omega) (by omega)
 have hl:=alE nm k sz ot own cnt time (hD hn H) (hD bn B) (cD cn C) cl val qn Q (by omega) Q [] rfl
 simp at hl;have hW:=uI qn Q;rw[au XB rfl];unfold ck DC;cases hm:iV k sz ot==0
 .have hm':iV k sz ot≠0:=by simpa using hm
  have hm2:(iV k sz ot != 0)=true:=by simpa using hm'
  simp[uD,uM,hm',hm2,ct]
 .have hm':iV k sz ot=0:=by simpa using hm
  cases hA:(own != -1||decide (cnt<0)||decide (sz<cnt))
  .cases hw:ej Q==0
   .have hw':(ej Q != 0)=true:=by rw[bne,hw];rfl
    simp[uD,uM,hm',grow,hA,hW,hw,hw']
   .have hw':(ej Q != 0)=false:=by rw[bne,hw];rfl
    cases hq:eI (fS sz ot cnt) [] Q
    .rw[hq]at hl
     simp[uD,uM,hm',grow,hA,hW,hw',hl]
    .rw[hq]at hl
     cases hB:(time != 0||decide ((0:Int)<(H.length:Int)+B.length+C.length)||cl||val != 0)
     .simp[uD,uM,hm',grow,hA,hw1,dO,hB,hW,hw',hw,hl]
     .simp[uD,uM,hm',grow,hA,hw1,dO,hB,hW,hw',hw,hl]
  .simp[uD,uM,hm',grow,hA]
end Go.VS.Sp
namespace Go.VS.Sp
def iG:List Int->List Int->List Int
 |acc,[]=>acc
 |acc,t::r=>if t∈acc then iG acc r else iG (acc++[t]) r
def sK(acc:List Int):List D:=(List.range 16).map fun(k:Nat)=>.b (decide ((k:Int)∈acc))
theorem alG(acc:List Int):(sK acc).length=16:=by simp[sK]
theorem alH(acc:List Int){t:Int}(h:0<=t/\t<16):(sK acc)[t.toNat]?=some (.b (decide (t∈acc))):=by
 have h1:t.toNat<16:=by omega
 have h2:(t.toNat:Int)=t:=by omega
 simp[sK,h1,h2]
theorem alI(acc:List Int){t:Int}(h:0<=t/\t<16):aq (sK acc) t.toNat [.b true]=sK (acc++[t]):=by
 have h1:t.toNat<16:=by omega
 have hl:=alG acc;have e:aq (sK acc) t.toNat [.b true]=(sK acc).set t.toNat (.b true):=by
  unfold aq;rw[List.set_eq_take_append_cons_drop,aK (by omega)]
  simp
 rw[e];apply List.ext_getElem?;intro i;rw[J'];by_cases hi:t.toNat=i
 .subst hi
  have h2:(t.toNat:Int)=t:=by omega
  simp[sK,h1,h2]
 .rw[aE hi]
  by_cases oL:i<16
  .have hne:¬(i:Int)=t:=by omega
   simp[sK,oL,hne]
  .simp[sK,oL]
def yz(n:Nat):V:=if n=0 then .d (.sl 1 true [])else .aQ 1 0 n
def tK(l:List Int):List O:=if l=[]then[]else[.aG 1 true (bW l)]
theorem alJ(nl:Bool)(l:List W)(hn:l.length<=1000000)(ht:∀w∈l,0<=w.task/\w.task<16):∀(suf pre:List W)(acc:List Int),l=pre++suf->acc.length<=pre.length ->
  ev P (.loop 0 [0,3,4,9,10,11] HH [(0,.d (qD nl l)),(3,.loc 0 0 0),(4,yz acc.length),(9,.d (qD nl l)),(10,.d (I' l.length)),(11,.d (I' pre.length))] ([.aG 16 true [sK acc]]++tK acc)) =
   some (.out (.exit 0) [(4,if iG acc (suf.map W.task)=[]then .d (.sl 1 true [])else .aQ 0 0 (iG acc (suf.map W.task)).length)] (tK (iG acc (suf.map W.task)))):=by
 intro suf;induction suf with
 |nil =>
  intro pre acc hl ha
  have:l.length=pre.length:=by simp[hl]
  rw[bT]
  conv=>lhs;arg 4;unfold HH
  cases acc with
  |nil=>simp[this,iG,yz,tK,ak,cut,an]
  |cons a b=>simp[this,iG,yz,tK,ak,cut,an]
 |cons w suf ih =>
  intro pre acc hl ha;have hg:l[pre.length]?=some w:=by simp[hl]
  have hlt:(pre.length:Int)<l.length:=by simp[hl];omega
  have alK:pre.length<l.length:=by simp[hl]
  have hnext:IntKind.i64.wrap ((pre.length:Int)+1)=pre.length+1:=wrap_i64 (by omega) (by omega)
  have hw:=ht w (by simp[hl])
  have h0:¬w.task<0:=by omega
  have hgt:=alH acc hw;have hst:=alI acc hw;have Dj:=alG acc;have Jg:∀h,(sK acc)[w.task.toNat]'h = .b (decide (w.task∈acc)):=λh=>by
   rw[qM h]at hgt;simpa using hgt
  have oL:w.task.toNat+1<=16:=by omega
  rw[fT];by_cases hm:w.task∈acc
  .have bD:=ih (pre++[w]) acc (by simp[hl]) (by simp;omega)
   have hd:iG acc (w.task::suf.map W.task)=iG acc (suf.map W.task):=by simp[iG,hm]
   rw[hd];generalize hR:some (dN.out (.exit 0) [(4,if iG acc (suf.map W.task)=[]then V.d (.sl 1 true [])else V.aQ 0 0 (iG acc (suf.map W.task)).length)] (tK (iG acc (suf.map W.task))))=R at bD⊢
   clear hR;simp[hm]at Jg;rw[bT]
   conv=>lhs;arg 4;unfold HH
   cases acc with
   |nil=>simp at hm
   |cons a b =>
    simp[yz,tK]at bD;simp[hlt,hg,W.row,hw.1,hw.2,Dj,Jg,hnext,yz,tK,ak,cut,an];exact bD
  .have bD:=ih (pre++[w]) (acc++[w.task]) (by simp[hl]) (by simp;omega)
   have hd:iG acc (w.task::suf.map W.task)=iG (acc++[w.task]) (suf.map W.task):=by simp[iG,hm]
   rw[hd];generalize hR:some (dN.out (.exit 0) [(4,if iG (acc++[w.task]) (suf.map W.task)=[]then V.d (.sl 1 true [])else V.aQ 0 0 (iG (acc++[w.task]) (suf.map W.task)).length)] (tK (iG (acc++[w.task]) (suf.map W.task))))=R at bD⊢
   clear hR;simp[hm]at Jg;rw[bT]
   conv=>lhs;arg 4;unfold HH
   cases acc with
   |nil =>
    have hr:1<=room:=by decide
    simp only[mu]at hst;simp[yz,tK]at bD;simp[-aq,hlt,hg,W.row,hw.1,hw.2,Jg,hst,Dj,oL,hr,hnext,yz,tK,ak,cut,an];exact bD
   |cons a b =>
    have hr:b.length+1+1<=room:=by simp at ha;unfold room;omega
    simp only[rZ]at hst;simp[yz,tK]at bD;simp[-aq,hlt,hg,W.row,hw.1,hw.2,Jg,hst,Dj,oL,hr,hnext,yz,tK,ak,cut,an,cz,bk];exact bD
theorem alL(nl:Bool)(l:List W)(hn:l.length<=1000000)(ht:∀w∈l,0<=w.task/\w.task<16):
  ev P (.call Hg [.d (qD nl l)] [])=some (.val (.d (hD (decide (iG [] (l.map W.task)=[])) (iG [] (l.map W.task)))) []):=by
 have hL:=alJ nl l hn ht l [] [] rfl (by simp)
 simp[yz,tK]at hL;have hz:sK []=List.replicate 16 (.b false):=rfl;rw[hz]at hL;generalize iG [] (l.map W.task)=q at *;rw[au aed rfl];cases q with
 |nil =>
  simp at hL;simp[Mc,hL,ak,cut,an]
 |cons a b =>
  simp at hL;simp[Mc,hL,bk,ak,cut,an]
theorem UX:∀(l acc:List Int)(t:Int),iG acc (l++[t])=if t∈iG acc l then iG acc l else iG acc l++[t]
 | [],acc,t=>by simp only[mu,iG];split<;>simp[*]
 |a::r,acc,t=>by
  rw[rZ];unfold iG;split
  .exact UX r acc t
  .exact UX r _ t
end Go.VS.Sp
namespace Go.VS.Sp
theorem UY{pre:List W}{w:W}(h:iG [] (pre.map W.task)=pre.map W.task):
  iG [] ((pre++[w]).map W.task)=if pre.any (λx=>x.task==w.task)then pre.map W.task else(pre++[w]).map W.task:=by
 rw[vF,fT,gq,UX,h];have e:w.task∈pre.map W.task↔(pre.any λx=>x.task==w.task)=true:=by simp
 by_cases hm:w.task∈pre.map W.task
 .rw[aK hm,aK (e.1 hm)]
 .rw[aE hm,aE (λh=>hm (e.2 h))]
theorem alM(qn:Bool)(pre:List W)(w:W)(r:List W)(hn:(pre++w::r).length<=1000000)(ht:∀x∈pre++w::r,0<=x.task/\x.task<16)(hp:iG [] (pre.map W.task)=pre.map W.task):
  ∃b,ev P (.call Hg [.d (.sl 5 qn (List.take (pre.length+1) ((pre++w::r).map W.row)))] [])=some (.val (.d (hD b (if pre.any (λx=>x.task==w.task)then pre.map W.task else(pre++[w]).map W.task))) []):=by
 have e:List.take (pre.length+1) ((pre++w::r).map W.row)=(pre++[w]).map W.row:=by
  rw[<-List.map_take];congr 1;rw[GR,gE (by omega)]
  simp
 have h:=alL qn (pre++[w]) (by simp at hn⊢;omega) (λx hx=>ht x (by simp at hx⊢;rcases hx with h |h;exact .inl h;exact .inr (.inl h)))
 rw[e];rw[UY hp]at h;exact⟨_,h⟩
def DD(w:W):Bool:=w.op != 63||w.value != 0||w.case != -1
def fB(pre:List W)(w:W):Bool:=!DD w&&!pre.any (λx=>x.task==w.task)
def DE(sz:Int)(w:W):Bool:=w.op != 72||decide (w.value<1)||decide (sz<w.value)||w.case != -1
def fL(sz:Int)(pre:List W)(w:W):Bool:=!DE sz w&&!pre.any (λx=>x.task==w.task)
theorem alN(own cnt time:Int)(a1 a2 a3:D)(cl:Bool)(val:Int)(qn:Bool)(Q:List W)(hn:Q.length<=1000000)(ht:∀x∈Q,0<=x.task/\x.task<16):∀(suf pre:List W),Q=pre++suf->iG [] (pre.map W.task)=pre.map W.task ->
  ev P (.loop 0 [3,71,72,73] EF [(3,.d (.ref [I' own,I' cnt,I' time,a1,qD qn Q,a2,a3,.b cl,I' val])),(71,.d (qD qn Q)),(72,.d (I' Q.length)),(73,.d (I' pre.length))] []) =
   if eI fB pre suf=true then some (.out (.exit 0) [] [])else some (.out .ret [(4,.d (I' 1))] []):=by
 intro suf;induction suf with
 |nil =>
  intro pre hl _
  have:Q.length=pre.length:=by simp[hl]
  rw[bT]
  conv=>lhs;arg 4;unfold EF
  simp[this,eI]
 |cons w suf ih =>
  intro pre hl hp;have hg:Q[pre.length]?=some w:=by simp[hl]
  have hlt:(pre.length:Int)<Q.length:=by simp[hl];omega
  have hle:(pre.length:Int)+1<=Q.length:=by omega
  have hle':pre.length+1<=Q.length:=by omega
  have Jh:(0:Int)<=pre.length+1:=by omega
  have Ji:((pre.length:Int)+1).toNat=pre.length+1:=by omega
  have hnext:IntKind.i64.wrap ((pre.length:Int)+1)=pre.length+1:=wrap_i64 (by omega) (by omega)
  have hT:=alM qn pre w suf (by rw[<-hl];exact hn) (by rw[<-hl];exact ht) hp
  rw[<-hl]at hT;obtain⟨b,hT⟩:=hT;rw[bT]
  conv=>lhs;arg 4;unfold EF
  cases h0:DD w
  .have A8:=h0
   unfold DD at A8;cases hm:pre.any λx=>x.task==w.task
   .have hq:eI fB pre (w::suf)=eI fB (pre++[w]) suf:=by simp[eI,fB,h0,hm]
    have iO:iG [] ((pre++[w]).map W.task)=(pre++[w]).map W.task:=by rw[UY hp,hm];rfl
    have bD:=ih (pre++[w]) (by simp[hl]) iO
    rw[hq];generalize hR:(if eI fB (pre++[w]) suf=true then some (dN.out (.exit 0) [] [])else some (.out .ret [(4,.d (I' 1))] []))=R at bD⊢
    clear hR;rw[hm,aE (by simp)]at hT
    simp at bD;simp[hlt,hg,W.row,A8,hle,hle',Jh,Ji,hT,hnext];exact bD
   .have hq:eI fB pre (w::suf)=false:=by simp[eI,fB,hm]
    rw[hq];rw[hm,aK rfl]at hT;have hne:((pre.length:Int) != pre.length+1)=true:=by simp;omega
    simp[hlt,hg,W.row,A8,hle,hle',Jh,Ji,hT,hnext,hne]
  .have hq:eI fB pre (w::suf)=false:=by simp[eI,fB,h0]
   rw[hq];unfold DD at h0;simp[hlt,hg,W.row,h0]
theorem alO(nm:D)(k sz ot own cnt time:Int)(a1 a2 a3:D)(cl:Bool)(val:Int)(qn:Bool)(Q:List W)(hn:Q.length<=1000000)(ht:∀x∈Q,0<=x.task/\x.task<16):∀(suf pre:List W),Q=pre++suf->iG [] (pre.map W.task)=pre.map W.task ->
  ev P (.loop 0 [2,3,70,71,72] EH [(2,.d (.ref [nm,I' k,I' sz,I' ot])),(3,.d (.ref [I' own,I' cnt,I' time,a1,qD qn Q,a2,a3,.b cl,I' val])),(70,.d (qD qn Q)),(71,.d (I' Q.length)),(72,.d (I' pre.length))] []) =
   if eI (fL sz) pre suf=true then some (.out (.exit 0) [] [])else some (.out .ret [(4,.d (I' 1))] []):=by
 intro suf;induction suf with
 |nil =>
  intro pre hl _
  have:Q.length=pre.length:=by simp[hl]
  rw[bT]
  conv=>lhs;arg 4;unfold EH
  simp[this,eI]
 |cons w suf ih =>
  intro pre hl hp;have hg:Q[pre.length]?=some w:=by simp[hl]
  have hlt:(pre.length:Int)<Q.length:=by simp[hl];omega
  have hle:(pre.length:Int)+1<=Q.length:=by omega
  have hle':pre.length+1<=Q.length:=by omega
  have Jh:(0:Int)<=pre.length+1:=by omega
  have Ji:((pre.length:Int)+1).toNat=pre.length+1:=by omega
  have hnext:IntKind.i64.wrap ((pre.length:Int)+1)=pre.length+1:=wrap_i64 (by omega) (by omega)
  have hT:=alM qn pre w suf (by rw[<-hl];exact hn) (by rw[<-hl];exact ht) hp
  rw[<-hl]at hT;obtain⟨b,hT⟩:=hT;rw[bT]
  conv=>lhs;arg 4;unfold EH
  cases h0:DE sz w
  .have A8:=h0
   unfold DE at A8;cases hm:pre.any λx=>x.task==w.task
   .have hq:eI (fL sz) pre (w::suf)=eI (fL sz) (pre++[w]) suf:=by simp[eI,fL,h0,hm]
    have iO:iG [] ((pre++[w]).map W.task)=(pre++[w]).map W.task:=by rw[UY hp,hm];rfl
    have bD:=ih (pre++[w]) (by simp[hl]) iO
    rw[hq];generalize hR:(if eI (fL sz) (pre++[w]) suf=true then some (dN.out (.exit 0) [] [])else some (.out .ret [(4,.d (I' 1))] []))=R at bD⊢
    clear hR;rw[hm,aE (by simp)]at hT
    simp at bD;simp[hlt,hg,W.row,A8,hle,hle',Jh,Ji,hT,hnext];exact bD
   .have hq:eI (fL sz) pre (w::suf)=false:=by simp[eI,fL,hm]
    rw[hq];rw[hm,aK rfl]at hT;have hne:((pre.length:Int) != pre.length+1)=true:=by simp;omega
    simp[hlt,hg,W.row,A8,hle,hle',Jh,Ji,hT,hnext,hne]
  .have hq:eI (fL sz) pre (w::suf)=false:=by simp[eI,fL,h0]
   rw[hq];unfold DE at h0;simp[hlt,hg,W.row,h0]
end Go.VS.Sp
namespace Go.VS.Sp
theorem alP{Q:List W}(h:ej Q=0):∀x∈Q,0<=x.task/\x.task<16:=λx hx=>nx ((Ig h).2 x hx)
def Jj(sz:Int)(s:S):Bool:=s.own != -1||decide (s.cnt<0)||decide (1099511627776<s.cnt)||decide (sz<=s.Q.length)
def Jk(s:S):Bool:=s.time != 0||s.val != 0||s.cl||decide ((0:Int)<(s.H.length:Int)+s.B.length+s.C.length)
def Jl(sz:Int)(s:S):Bool:=!Jj sz s&&(!Jk s&&(ej s.Q==0&&eI fB [] s.Q))
theorem OB(nm:D)(k sz ot:Int)(s:S)(hs:s.sm):
  ev P (.call oG [.d (.ag [nm,I' k,I' sz,I' ot]),.d (.ag s.row)] [])=some (.val (.d (I' (ck (iW k sz ot) (Jl sz s)))) []):=by
 obtain⟨own,cnt,time,hn,H,qn,Q,bn,B,cn,C,cl,val⟩:=s;obtain⟨h1,h2,h3,h4,_⟩:=hs;simp only at h1 h2 h3 h4;have hw1:IntKind.i64.wrap ((H.length:Int)+B.length)=H.length+B.length:=wrap_i64 (by omega) (by omega)
 have dO:IntKind.i64.wrap ((H.length:Int)+B.length+C.length)=H.length+B.length+C.length:=wrap_i64 (by omega) (by omega)
 have hW:=uI qn Q;rw[au XC rfl];unfold ck Jl;cases hm:iW k sz ot==0
 .have hm':iW k sz ot≠0:=by simpa using hm
  have hm2:(iW k sz ot != 0)=true:=by simpa using hm'
  simp[uE,uN,hm',hm2,ct]
 .have hm':iW k sz ot=0:=by simpa using hm
  cases hA:Jj sz ⟨own,cnt,time,hn,H,qn,Q,bn,B,cn,C,cl,val⟩
  .unfold Jj at hA
   simp only at hA;cases hB:Jk ⟨own,cnt,time,hn,H,qn,Q,bn,B,cn,C,cl,val⟩
   .unfold Jk at hB
    simp only at hB;cases hw:ej Q==0
    .have hw':(ej Q != 0)=true:=by rw[bne,hw];rfl
     simp[uE,uN,hm',gn,hA,hw1,dO,hB,hW,hw,hw']
    .have hw':(ej Q != 0)=false:=by rw[bne,hw];rfl
     have hl:=alN own cnt time (hD hn H) (hD bn B) (cD cn C) cl val qn Q (by omega) (alP (by simpa using hw)) Q [] rfl rfl
     simp at hl;cases hq:eI fB [] Q
     .rw[hq]at hl
      simp[uE,uN,hm',gn,hA,hw1,dO,hB,hW,hw,hw',hl]
     .rw[hq]at hl
      simp[uE,uN,hm',gn,hA,hw1,dO,hB,hW,hw,hw',hl]
   .unfold Jk at hB
    simp only at hB;simp[uE,uN,hm',gn,hA,hw1,dO,hB]
  .unfold Jj at hA
   simp only at hA;simp[uE,uN,hm',gn,hA]
def Jm(sz:Int)(s:S):Bool:=s.own != -1||decide (s.cnt<0)||decide (sz<s.cnt)||decide (s.time<0)||decide (1099511627776<s.time)
def Jn(s:S):Bool:=s.val != 0||s.cl||decide ((0:Int)<(s.H.length:Int)+s.B.length+s.C.length)
def Jo(sz:Int)(s:S):Bool:=!Jm sz s&&(!Jn s&&(ej s.Q==0&&eI (fL sz) [] s.Q))
theorem OC(nm:D)(k sz ot:Int)(s:S)(hs:s.sm):
  ev P (.call nU [.d (.ag [nm,I' k,I' sz,I' ot]),.d (.ag s.row)] [])=some (.val (.d (I' (ck (jv k sz ot) (Jo sz s)))) []):=by
 obtain⟨own,cnt,time,hn,H,qn,Q,bn,B,cn,C,cl,val⟩:=s;obtain⟨h1,h2,h3,h4,_⟩:=hs;simp only at h1 h2 h3 h4;have hw1:IntKind.i64.wrap ((H.length:Int)+B.length)=H.length+B.length:=wrap_i64 (by omega) (by omega)
 have dO:IntKind.i64.wrap ((H.length:Int)+B.length+C.length)=H.length+B.length+C.length:=wrap_i64 (by omega) (by omega)
 have hW:=uI qn Q;rw[au XF rfl];unfold ck Jo;cases hm:jv k sz ot==0
 .have hm':jv k sz ot≠0:=by simpa using hm
  have hm2:(jv k sz ot != 0)=true:=by simpa using hm'
  simp[uF,uO,hm',hm2,ct]
 .have hm':jv k sz ot=0:=by simpa using hm
  cases hA:Jm sz ⟨own,cnt,time,hn,H,qn,Q,bn,B,cn,C,cl,val⟩
  .unfold Jm at hA
   simp only at hA;cases hB:Jn ⟨own,cnt,time,hn,H,qn,Q,bn,B,cn,C,cl,val⟩
   .unfold Jn at hB
    simp only at hB;cases hw:ej Q==0
    .have hw':(ej Q != 0)=true:=by rw[bne,hw];rfl
     simp[uF,uO,hm',grow,hA,hw1,dO,hB,hW,hw,hw']
    .have hw':(ej Q != 0)=false:=by rw[bne,hw];rfl
     have hl:=alO nm k sz ot own cnt time (hD hn H) (hD bn B) (cD cn C) cl val qn Q (by omega) (alP (by simpa using hw)) Q [] rfl rfl
     simp at hl;cases hq:eI (fL sz) [] Q
     .rw[hq]at hl
      simp[uF,uO,hm',grow,hA,hw1,dO,hB,hW,hw,hw',hl]
     .rw[hq]at hl
      simp[uF,uO,hm',grow,hA,hw1,dO,hB,hW,hw,hw',hl]
   .unfold Jn at hB
    simp only at hB;simp[uF,uO,hm',grow,hA,hw1,dO,hB]
  .unfold Jm at hA
   simp only at hA;simp[uF,uO,hm',grow,hA]
end Go.VS.Sp
