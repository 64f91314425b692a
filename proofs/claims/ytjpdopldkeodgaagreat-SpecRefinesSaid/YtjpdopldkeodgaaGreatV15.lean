import Derived.Test.YtjpdopldkeodgaaGreatV14
import Derived.Test.YtjpdopldkeodgaaGreatV13
set_option linter.all false
set_option maxHeartbeats 1000000
namespace Go.VS.Sp
theorem asM(sz:Int):1<=dr sz/\sz<=dr sz:=by
 unfold dr;split<;>omega
theorem asN(nm:D)(sz ot:Int)(s:S)(c:Cl)(hf:s.jr)(iZ:s.Q.length<=40):
  mq (ev P (.call iP [.d (.ag [nm,I' 6,I' sz,I' ot]),.d (.ag s.row),.d (.ag c.row)] [])) 6 sz ot s c:=by
 have bZ:ev P (.call gp [.d (.ag [nm,I' 6,I' sz,I' ot]),.d (.ag s.row)] [])=some (.val (.d (I' (fD 6 sz ot s))) []):=amo nm 6 sz ot s hf.sm;by_cases hc:fD 6 sz ot s=0
 .obtain⟨hn,hs⟩:=asC.1 hc
  rw[hc]at bZ;refine mq.of (asI nm 6 sz ot s c hf bZ) λhe=>?_
  unfold DU at he;obtain⟨hb,he⟩:=jf (by decide) he
  have hbd:=vk hb;obtain⟨h2,he⟩:=jf (by decide) he
  obtain⟨h3,he⟩:=jf (by decide) he
  obtain⟨ht,he⟩:=jf (by decide) he
  obtain⟨h5,he⟩:=jf (by decide) he
  obtain⟨h6,_⟩:=jf (b:=(s.cl&&c.op==66)) (a:=17) (r:=0) (by decide) he
  simp at h2 h3 h5 h6;have hop:c.op=64\/c.op=65\/c.op=66:=by omega
  have hv:c.op=64->num c.value=true:=h3;have lK:=hf.b;have OY:=hs.bl;have hsz:0<=sz/\sz<=100:=by
   unfold iq at hn;simp at hn;omega
  obtain⟨jo,lM⟩:=asM sz;have fm:∀(qn bn:Bool)(Q:List W)(B:List Int)(cl:Bool),(({s with qn:=qn,Q:=Q,bn:=bn,B:=B,cl:=cl}:S).ab true).pl=aC B cl:=λqn bn Q B cl=>by
   unfold S.ab S.pl aC;simp[hs.own,hs.cnt,hs.tm,hs.val,hs.h,hs.c]
  have mY:(s.ab true).pl=aC s.B s.cl:=fm s.qn s.bn s.Q s.B s.cl;have iG:∀(qn bn:Bool)(Q:List W)(B:List Int)(cl:Bool),(qn=true->Q=[])->(bn=true->B=[])->Q.length<=41->B.length<=121->({s with qn:=qn,Q:=Q,bn:=bn,B:=B,cl:=cl}:S).jr:=λqn bn Q B cl h1 h2 h3 h4 =>
   ⟨⟨hf.wf.h,h2,hf.wf.c,hf.wf.k⟩,h1,hf.h,h3,h4,hf.c,hf.l⟩
  have Ah:∀s':S,BQ sz s'->fD 6 sz ot s'=0:=λs' h=>asC.2 ⟨hn,h⟩
  have hfl:∀w,(j3 s w).length<=41:=λw=>by
   have:(j3 s w).length<=s.Q.length:=vw _ _
   omega
  have Wc:∀w,decide (j3 s w=[])=true->j3 s w=[]:=λw h=>by simpa using h
  have own:∀(B:List Int)(cl:Bool)(B':List Int)(DV:Bool)(v:Int)(ok:Bool)(R:List Cp)(a:S),(B.length:Int)<=dr sz->(∀n∈B,num n=true)->eC (dr sz) (aC B cl) c=(aC B' DV,v,ok,0)->a.pl=aC B cl ->
    cZ 6 sz ot a (fQ c v ok::R)=cZ 6 sz ot (aC B' DV) R:=λB cl B' DV v ok R a h1 h2 hE ha=>by
   have he:=V7 (c:=c) hn h1 h2 hb hop hv (by rw[hE])
   rw[hE,<-ha]at he;exact mo (x:=fQ c v ok) he rfl rfl (.inl (by unfold fQ;simp only;omega))
  have yE:∀(B:List Int)(cl:Bool)(B':List Int)(DV:Bool)(w:W)(v:Int)(ok:Bool)(R:List Cp)(a:S),w∈s.Q->(B.length:Int)<=dr sz->(∀n∈B,num n=true)->eC (dr sz) (aC B cl) ⟨w.task,w.op,w.value,w.prio,c.now⟩=(aC B' DV,v,ok,0)->a.pl=aC B cl ->
    cZ 6 sz ot a (xq c.now w v ok::R)=cZ 6 sz ot (aC B' DV) R:=λB cl B' DV w v ok R a hw h1 h2 hE ha=>by
   obtain⟨g1,g2⟩:=hs.w w hw;have he:=V7 (c:=⟨w.task,w.op,w.value,w.prio,c.now⟩) hn h1 h2 (uj g1 (by omega)) (by simp only;omega) (λ_=>DK g1) (by rw[hE])
   rw[hE,<-ha]at he;exact mo (x:=xq c.now w v ok) he rfl rfl (.inl (by unfold xq;simp only;omega))
  have xl:∀(w:W)(v:Int)(ok:Bool),w∈s.Q->fJ s.Q c.now ⟨w.task,w.op,v,ok,w.case⟩=xq c.now w v ok:=λw v ok hw=>asF c.now v ok hs.nc hw
  have wL:iN s c=(c.op==65&&s.B.isEmpty):=by
   unfold iN;rcases hop with h |h |h<;>simp[h]
  unfold Wa;rcases hop with ho |ho |ho
  .have bN:s.cl=false:=by cases h:s.cl;rfl;exact absurd ho (h5 h)
   have hl:iN s c=false:=by rw[wL];simp[ho]
   rw[Ae (by decide) hl,aK ho]
   rw[bN]at mY;have hsend:∀B:List Int,(B.length:Int)<dr sz->eC (dr sz) (aC B false) c=(aC (B++[c.value]) false,0,true,0):=λB h=>by
    unfold eC
    have:¬dr sz<=(B.length:Int):=by omega
    simp[ho,aC,gd,this]
   cases hw:fW 65 s.Q with
   |some w =>
    obtain⟨g1,g2⟩:=V8 hw;obtain⟨hB,_⟩:=hs.vr w g1 g2;refine⟨iG _ _ _ _ _ (Wc w) hf.wf.b (hfl w) lK,hc,Ah _ (Wb hs w rfl hs.nb),by simp,?_⟩
    simp only[gB,eI,dI,vE,gk,gn];rw[xl w _ _ g1];unfold iw;rw[show(⟨c,⟨c.task,c.op,0,true,-1⟩⟩:Cp)=fQ c 0 true from rfl]
    rw[hB]at mY;rw[own [] false [c.value] false 0 true _ _ (by simp;omega) (by simp) (hsend [] (by simp;omega)) mY]
    rw[yE [c.value] false [] false w c.value true _ _ g1 (by simp;omega) (by simp[hv ho]) (by unfold eC;simp[g2,aC]) rfl]
    refine⟨rfl,?_⟩;have:=fm (decide (j3 s w=[])) s.bn (j3 s w) s.B s.cl;rw[hB,bN]at this;have e:({s with qn:=decide (j3 s w=[]),Q:=j3 s w}:S)={s with qn:=decide (j3 s w=[]),Q:=j3 s w,bn:=s.bn,B:=[],cl:=false}:=by rw[<-hB,<-bN]
    rw[e,this];rfl
   |none =>
    simp only;have hno:=V9 hw;by_cases hlt:(s.B.length:Int)<sz
    .rw[aK hlt]
     have hQ:s.Q=[]:=by
      cases hq:s.Q with
      |nil=>rfl
      |cons x T =>
       have hx:x∈s.Q:=by rw[hq];simp
       rcases(hs.w x hx).2 with h |⟨h,_⟩
       .have:=(hs.vs x hx h).1;omega
       .exact absurd h (hno x hx)
     have hnb:∀n∈s.B++[c.value],num n=true:=λn hm=>by
      rcases dj.1 hm with hm |hm
      .exact hs.nb n hm
      .simp at hm;rw[hm];exact hv ho
     refine⟨iG _ _ _ _ _ hf.qn (by simp) (by omega) (by simp;omega),hc,Ah _ ?_,by simp,?_⟩
     .have:=O6 hs (B:=s.B++[c.value]) (qn:=s.qn) (bn:=false) (cl:=s.cl) (by simp;omega) hnb
      rw[<-hQ]at this;exact this
     .simp only[gB,eI,dI,gn,nk]
      unfold iw;rw[show(⟨c,⟨c.task,c.op,0,true,-1⟩⟩:Cp)=fQ c 0 true from rfl,own s.B false (s.B++[c.value]) false 0 true _ _ (by omega) hs.nb (hsend s.B (by omega)) mY]
      refine⟨rfl,?_⟩;have:=fm s.qn false s.Q (s.B++[c.value]) s.cl;rw[this,bN];rfl
    .rw[aD hlt]
     refine⟨iG _ _ _ _ _ (by simp) hf.wf.b (by simp;omega) lK,hc,Ah _ (asJ hs iZ hb ht bN hv (.inl ⟨ho,by omega,hno⟩)),by simp,?_⟩
     simp[gB,iw,cZ];rfl
  .rw[aD (by omega),aK ho]
   have gT:∀(x:Int)(B:List Int)(cl:Bool),eC (dr sz) (aC (x::B) cl) c=(aC B cl,x,true,0):=λx B cl=>by
    unfold eC;simp[ho,aC]
   cases hB:s.B with
   |cons x B =>
    have hl:iN s c=false:=by rw[wL,hB];simp
    rw[Ae (by decide) hl]
    rw[hB]at mY OY lK;simp only[iy]at OY lK;have hnb:∀n∈x::B,num n=true:=by rw[<-hB];exact hs.nb
    have We:∀n∈B,num n=true:=λn h=>hnb n (by simp[h])
    have cJ:s.bn=true->B=[]:=λh=>by have:=hf.wf.b h;rw[hB]at this;cases this
    simp only;cases hw:fW 64 s.Q with
    |some w =>
     obtain⟨g1,g2⟩:=V8 hw;have asO:∀n∈B++[w.value],num n=true:=λn hm=>by
      rcases dj.1 hm with hm |hm
      .exact We n hm
      .simp at hm;rw[hm];exact DK (hs.w w g1).1
     refine⟨iG _ _ _ _ _ (Wc w) (λh=>by have:=hf.wf.b h;rw[hB]at this;cases this) (hfl w) (by simp;omega),hc,Ah _ (Wb hs w (by rw[hB];simp) asO),by simp,?_⟩
     simp only[gB,eI,dI,vE,gk,gn];rw[xl w _ _ g1];unfold iw;rw[show(⟨c,⟨c.task,c.op,x,true,-1⟩⟩:Cp)=fQ c x true from rfl,own (x::B) s.cl B s.cl x true _ _ (by simp only[iy];omega) hnb (gT x B s.cl) mY]
     have bN:s.cl=false:=by
      cases h:s.cl
      .rfl
      .have:=hs.cl h;rw[this]at g1;simp at g1
     rw[bN,yE B false (B++[w.value]) false w 0 true _ _ g1 (by omega) We (by
      unfold eC
      have:¬dr sz<=(B.length:Int):=by omega
      simp[g2,aC,gd,this]) rfl]
     refine⟨rfl,?_⟩;have:=fm (decide (j3 s w=[])) s.bn (j3 s w) (B++[w.value]) false;simp only[cZ];rw[this];rfl
    |none =>
     simp only;have hno:=V9 hw;have hQ:s.Q=[]:=by
      cases hq:s.Q with
      |nil=>rfl
      |cons y T =>
       have hx:y∈s.Q:=by rw[hq];simp
       rcases(hs.w y hx).2 with h |⟨h,_⟩
       .exact absurd h (hno y hx)
       .have:=(hs.vr y hx h).1;rw[hB]at this;cases this
     refine⟨iG _ _ _ _ _ hf.qn cJ (by omega) (by omega),hc,Ah _ ?_,by simp,?_⟩
     .have:=O6 hs (B:=B) (qn:=s.qn) (bn:=s.bn) (cl:=s.cl) (by omega) We
      rw[<-hQ]at this;exact this
     .simp only[gB,eI,dI,gn,nk]
      unfold iw;rw[show(⟨c,⟨c.task,c.op,x,true,-1⟩⟩:Cp)=fQ c x true from rfl,own (x::B) s.cl B s.cl x true _ _ (by simp only[iy];omega) hnb (gT x B s.cl) mY]
      refine⟨rfl,?_⟩;have:=fm s.qn s.bn s.Q B s.cl;simp only[cZ];rw[this];rfl
   |nil =>
    have hl:iN s c=true:=by rw[wL,hB];simp[ho]
    rw[VX (by decide) hl]
    rw[hB]at mY;simp only;rw[<-hB];cases hw:fW 64 s.Q with
    |some w =>
     obtain⟨g1,g2⟩:=V8 hw;have bN:s.cl=false:=by
      cases h:s.cl
      .rfl
      .have:=hs.cl h;rw[this]at g1;simp at g1
     rw[bN]at mY;refine⟨iG _ _ _ _ _ (Wc w) hf.wf.b (hfl w) lK,hc,Ah _ (Wb hs w rfl hs.nb),by simp,?_⟩
     simp only[gB,eI,dI,vE,gk,gn];rw[xl w _ _ g1];unfold iw;rw[yE [] false [w.value] false w 0 true _ _ g1 (by simp;omega) (by simp) (by
      unfold eC
      have:¬dr sz<=0:=by omega
      simp[g2,aC,gd,this]) mY]
     rw[show(⟨c,⟨c.task,c.op,w.value,true,-1⟩⟩:Cp)=fQ c w.value true from rfl,own [w.value] false [] false w.value true _ _ (by simp;omega) (by simp[DK (hs.w w g1).1]) (gT w.value [] false) rfl]
     refine⟨rfl,?_⟩;have:=fm (decide (j3 s w=[])) s.bn (j3 s w) s.B s.cl;rw[hB,bN]at this;have e:({s with qn:=decide (j3 s w=[]),Q:=j3 s w}:S)={s with qn:=decide (j3 s w=[]),Q:=j3 s w,bn:=s.bn,B:=[],cl:=false}:=by rw[<-hB,<-bN]
     rw[e,this];rfl
    |none =>
     simp only;have hno:=V9 hw;by_cases bN:s.cl=true
     .rw[aK bN]
      rw[bN]at mY;refine⟨hf,hc,hc,by simp,?_⟩
      simp only[gB,eI,dI,gn,mu];unfold iw;rw[show(⟨c,⟨c.task,c.op,0,false,-1⟩⟩:Cp)=fQ c 0 false from rfl,own [] true [] true 0 false _ _ (by simp;omega) (by simp) (by unfold eC;simp[ho,aC,er]) mY]
      exact⟨rfl,mY.symm⟩
     .have bN:s.cl=false:=by simpa using bN
      rw[aD (by simp[bN])]
      refine⟨iG _ _ _ _ _ (by simp) hf.wf.b (by simp;omega) lK,hc,Ah _ (asJ hs iZ hb ht bN hv (.inr ⟨ho,hB,hno⟩)),by simp,?_⟩
      simp[gB,iw,cZ];rfl
  .rw[aD (by omega),aD (by omega)]
   have bN:s.cl=false:=by cases h:s.cl;rfl;exact absurd ho (h6 h)
   have hl:iN s c=false:=by rw[wL];simp[ho]
   rw[Ae (by decide) hl]
   rw[bN]at mY;have hE:eC (dr sz) (aC s.B false) c=(aC s.B true,0,true,0):=by
    unfold eC;simp[ho,aC,gd]
   have Wf:(s.B.length:Int)<=dr sz:=by omega
   cases hq:s.Q with
   |nil =>
    simp only;rw[<-hq];refine⟨iG _ _ _ _ _ hf.qn hf.wf.b (by omega) lK,hc,Ah _ ?_,by simp,?_⟩
    .have:=O6 hs (B:=s.B) (qn:=s.qn) (bn:=s.bn) (cl:=true) hs.bl hs.nb
     rw[<-hq]at this;exact this
    .simp only[gB,eI,dI,gn,nk]
     unfold iw;rw[show(⟨c,⟨c.task,c.op,0,true,-1⟩⟩:Cp)=fQ c 0 true from rfl,own s.B false s.B true 0 true _ _ Wf hs.nb hE mY]
     refine⟨rfl,?_⟩;have:=fm s.qn s.bn s.Q s.B true;simp only[cZ];rw[this];rfl
   |cons w T =>
    simp only;obtain⟨L,l1,l2,l3⟩:=asK (T.length+1) (w::T);rw[<-hq]at l1;have hlen:T.length+1<=40:=by rw[hq]at iZ;simpa using iZ
    refine⟨iG _ _ _ _ _ (by simp) hf.wf.b (by simp) lK,hc,Ah _ (O6 hs hs.bl hs.nb),by rw[l2];simp;omega,?_⟩
    simp only[gB,eI,dI,vE];have hmap:(ko (T.length+1) (w::T)).map (fJ (w::T) c.now)=L.map λw=>xq c.now w 0 false:=by
     rw[l2,kY,<-hq];exact vo λx hx=>xl x 0 false (l1 x hx)
    rw[hmap];unfold iw;rw[show(⟨c,⟨c.task,c.op,0,true,-1⟩⟩:Cp)=fQ c 0 true from rfl,own s.B false s.B true 0 true _ _ Wf hs.nb hE mY]
    obtain⟨p1,p2⟩:=asL (now:=c.now) hn Wf hs.nb (by omega) L (λx hx=>⟨(hs.w x (l1 x hx)).1,by
     rcases(hs.w x (l1 x hx)).2 with h |⟨h,_⟩
     .exact .inl h
     .exact .inr ⟨h,(hs.vr x (l1 x hx) h).1⟩⟩) (aC s.B true) rfl
    refine⟨p1,p2.trans ?_⟩;have:=fm true s.bn [] s.B true;rw[this]
 .have he:(fD 6 sz ot s != 0)=true:=by simpa using hc
  have hx:ev P (.call iP [.d (.ag [nm,I' 6,I' sz,I' ot]),.d (.ag s.row),.d (.ag c.row)] [])=some (.val (.tu [.d (.ag om),.d (I' 1)]) []):=by
   rw[au j8 rfl];simp only[S.row,Cl.row]at *;simp[jk,bZ,he,az,aq]
  exact mq.er (by decide) hx
end Go.VS.Sp
namespace Go.VS.Sp
theorem asP{sz ot:Int}{s:S}:fD 1 sz ot s=0↔dR 1 1 sz ot=0/\(s.cnt=0/\s.time=0/\s.H=[]/\s.B=[]/\s.C=[]/\s.cl=false/\s.val=0)/\s.Q.length<=96/\M.MV s.own s.Q:=by
 have e:fD 1 sz ot s=ck (dR 1 1 sz ot) (Gc s):=rfl;have e2:Gc s=M.jI s.own s.cnt s.time s.H s.Q s.B (s.C.map K.row) s.cl s.val:=rfl;rw[e,BI,e2,M.Jg,B1]
theorem asQ{sz ot own:Int}(hn:dR 1 1 sz ot=0)(h:own = -1\/0<=own/\own<16):cW 1 sz ot (aW own [])=true:=by
 unfold cW gL gE iV ir pU aW;simp[hn,ck,cY];omega
theorem asR{sz ot own:Int}{c:Cl}(hn:dR 1 1 sz ot=0)(h:own = -1\/0<=own/\own<16)(hb:cG c=false)(ho:c.op=50\/c.op=51\/c.op=52)(he:(eM (aW own []) c).2.2.2=0):eD 1 sz ot (aW own []) c=eM (aW own []) c :=
 uh (asQ hn h) hb (by unfold dH;rcases ho with h |h |h<;>simp[h]) (by unfold fit;rcases ho with h |h |h<;>simp[h]) he
def xu:Option Int->List Wk
 |none=>[]
 |some t=>[⟨t,50,0,true,-1⟩]
theorem asS(nm:D)(sz ot:Int)(s:S)(c:Cl)(hf:s.jr)(iZ:s.Q.length<=40)(hb:cG c=false):
  mq (ev P (.call AA [.d (.ag [nm,I' 1,I' sz,I' ot]),.d (.ag s.row),.d (.ag c.row)] [])) 1 sz ot s c:=by
 have hs:=hf.sm;obtain⟨hn,qn,bn,cn,wn,h,jW⟩:=M.Vd nm 1 sz ot s.own s.cnt s.time s.hn s.H s.qn s.Q s.bn s.B s.cn (s.C.map K.row) s.cl s.val c.task c.op c.value c.prio c.now hs.h hs.q hs.b (by simpa using hs.c) hf.qn
 by_cases he:(M.Jp 1 sz ot s.own s.cnt s.time s.H s.Q s.B (s.C.map K.row) s.cl s.val c.op c.task c.prio).e=0
 .have hv:fD 1 sz ot s=0/\M.Jp 1 sz ot s.own s.cnt s.time s.H s.Q s.B (s.C.map K.row) s.cl s.val c.op c.task c.prio=M.l9 s.own s.Q c.op c.task c.prio:=by
   have e:M.dQ 1 sz ot=dR 1 1 sz ot:=rfl;unfold M.Jp at he⊢;rw[e]at he⊢;by_cases h1:dR 1 1 sz ot=0
   .rw[aK h1]at he⊢
    have ev:Gc s=M.jI s.own s.cnt s.time s.H s.Q s.B (s.C.map K.row) s.cl s.val:=rfl;rw[<-ev]at he⊢;by_cases h2:Gc s=true
    .rw[aK h2]
     exact⟨BI.2 ⟨h1,h2⟩,rfl⟩
    .rw[aD h2]at he
     simp[M.zr]at he
   .rw[aD h1]at he
    simp only[M.zr]at he;exact absurd he h1
  obtain⟨hc,hw⟩:=hv;rw[hw]at h jW he;obtain⟨DW,⟨g1,g2,g3,g4,g5,g6,g7⟩,g8,g9⟩:=asP.1 hc;have O7:=M.ap3 g9 he;have hbd:=vk hb;have fm:(s.ab true).pl=aW s.own []:=by
   unfold S.ab S.pl aW;simp[g1,g2,g3,g4,g5,g6,g7]
  have E7:∀r:M.Rp,((⟨r.own,0,0,hn,[],qn,r.q,bn,[],cn,[],false,0⟩:S).ab true).pl=aW r.own []:=λr=>rfl
  have key:(M.l9 s.own s.Q c.op c.task c.prio).q.length<=41/\iN s c=false /\
    ∀(st:S)(bw:Bool),iw 1 sz ot s (gB c ⟨st,(M.l9 s.own s.Q c.op c.task c.prio).parked,0,(M.l9 s.own s.Q c.op c.task c.prio).ok,bw,xu (M.l9 s.own s.Q c.op c.task c.prio).wk⟩++(xu (M.l9 s.own s.Q c.op c.task c.prio).wk).map (fJ s.Q c.now)) ⟨(M.l9 s.own s.Q c.op c.task c.prio).own,0,0,hn,[],qn,(M.l9 s.own s.Q c.op c.task c.prio).q,bn,[],cn,[],false,0⟩:=by
   have asT:=g9.sn;have one:∀(mh:Int)(ok:Bool)(R:List Cp),(c.op=50\/c.op=51\/c.op=52)->eM (aW s.own []) c=(aW mh [],0,ok,0)->c.op≠61->cZ 1 sz ot (s.ab true) (fQ c 0 ok::R)=cZ 1 sz ot (aW mh []) R:=λmh ok R ho hE Fa=>by
    have he:=asR (c:=c) DW asT hb ho (by rw[hE])
    rw[hE,<-fm]at he;exact mo (x:=fQ c 0 ok) he rfl rfl (.inl Fa)
   unfold M.l9 at he⊢;split at he
   .simp[M.zr]at he
   .rename_i ho
    have ho:c.op=50\/c.op=51\/c.op=52:=by omega
    rw[aD (by omega)]
    have hl:iN s c=false:=by
     unfold iN;rcases ho with h |h |h<;>simp[h]
    split at he
    .simp[M.zr]at he
    .rename_i h2
     rw[aD h2];split at he
     .simp[M.zr]at he
     .rename_i h3
      rw[aD h3];have lock:∀(h5:c.op=50\/c.op=51),(M.iX s.own s.Q c.task c.prio).e=0->(c.op=51->s.own = -1)->(M.iX s.own s.Q c.task c.prio).q.length<=41/\iN s c=false /\
        ∀(st:S)(bw:Bool),iw 1 sz ot s (gB c ⟨st,(M.iX s.own s.Q c.task c.prio).parked,0,(M.iX s.own s.Q c.task c.prio).ok,bw,xu (M.iX s.own s.Q c.task c.prio).wk⟩++(xu (M.iX s.own s.Q c.task c.prio).wk).map (fJ s.Q c.now)) ⟨(M.iX s.own s.Q c.task c.prio).own,0,0,hn,[],qn,(M.iX s.own s.Q c.task c.prio).q,bn,[],cn,[],false,0⟩:=by
       intro h5 he zo;unfold M.iX at he⊢;by_cases h6:s.own = -1
       .have Wg:(s.own == -1)=true:=by simpa using h6
        rw[aK Wg];refine⟨by simp only;omega,hl,λst bw=>?_⟩
        simp only[gB,xu,eI,dI,gn,nk];unfold iw;rw[show(⟨c,⟨c.task,c.op,0,true,-1⟩⟩:Cp)=fQ c 0 true from rfl,one c.task true [] (by omega) (by unfold eM;rcases h5 with h |h<;>simp[h,h6,aW,gd]) (by omega)]
        exact⟨rfl,rfl⟩
       .have Wg:¬(s.own == -1)=true:=by simpa using h6
        rw[aD Wg]at he⊢;split at he
        .simp[M.zr]at he
        .rename_i h7
         rw[aD h7];refine⟨?_,hl,λst bw=>?_⟩
         .have:s.Q.take (M.gA c.prio s.Q)++⟨c.task,50,0,c.prio,-1⟩::s.Q.drop (M.gA c.prio s.Q)=s.Q.take (M.gA c.prio s.Q)++([⟨c.task,50,0,c.prio,-1⟩]++s.Q.drop (M.gA c.prio s.Q)):=rfl
          simp only;rw[this];simp only[lT,List.length_take,PB,uk];omega
         .simp only[gB,xu,dF,gn,nk]
          unfold iw;exact⟨rfl,by rw[E7 ⟨s.own,_,true,false,none,0⟩];exact fm⟩
      split at he
      .rename_i CW
       rw[aK CW];exact lock (.inl CW) he (by omega)
      .rename_i CW
       rw[aD CW];split at he
       .rename_i zo
        rw[aK zo];unfold M.Bw at he⊢;by_cases h0:0<=s.own
        .rw[aK h0]
         refine⟨by simp only;omega,hl,λst bw=>?_⟩
         simp only[gB,xu,eI,dI,gn,nk];unfold iw;have hne:¬s.own = -1:=by omega
         rw[show(⟨c,⟨c.task,c.op,0,false,-1⟩⟩:Cp)=fQ c 0 false from rfl,one s.own false [] (by omega) (by unfold eM;simp[zo,hne,aW,er]) (by omega)]
         exact⟨rfl,rfl⟩
        .rw[aD h0]at he⊢
         exact lock (.inr zo) he (λ_=>by omega)
       .rename_i zo
        rw[aD zo];have Nf:c.op=52:=by omega
        unfold M.Bv at he⊢;split at he
        .simp[M.zr]at he
        .rename_i h7
         have h7:s.own=c.task:=by simpa using h7
         rw[aD (by simpa using h7)]
         have hE:eM (aW s.own []) c=(aW (-1) [],0,true,0):=by unfold eM;simp[Nf,h7,aW,gd]
         cases hq:s.Q with
         |nil =>
          refine⟨by simp,hl,λst bw=>?_⟩
          simp only[gB,xu,eI,dI,gn,nk];unfold iw;rw[show(⟨c,⟨c.task,c.op,0,true,-1⟩⟩:Cp)=fQ c 0 true from rfl,one (-1) true [] ho hE (by omega)]
          exact⟨rfl,rfl⟩
         |cons w r =>
          have xk:w∈s.Q:=by rw[hq];simp
          obtain⟨k1,k2,k3,k4,k5,k6,k7,k8⟩:=g9.all w xk;refine⟨by rw[hq]at iZ;simp at iZ⊢;omega,hl,λst bw=>?_⟩
          have xl:=DN c.now 0 true g9.By xk k3;rw[k1,hq]at xl;simp only[gB,xu,eI,dI,gk,gn,vE];rw[xl];unfold iw;rw[show(⟨c,⟨c.task,c.op,0,true,-1⟩⟩:Cp)=fQ c 0 true from rfl,one (-1) true _ ho hE (by omega)]
          have O4:eM (aW (-1) []) ⟨w.task,50,w.value,w.prio,c.now⟩=(aW w.task [],0,true,0):=by unfold eM;simp[aW,gd]
          have fP:=asR (c:=⟨w.task,50,w.value,w.prio,c.now⟩) DW (.inl rfl) (by unfold cG;simp;omega) (.inl rfl) (by rw[O4])
          rw[O4]at fP;rw[mo (x:=⟨⟨w.task,50,w.value,w.prio,c.now⟩,⟨w.task,50,0,true,-1⟩⟩) fP rfl rfl (.inl (by simp))]
          exact⟨rfl,rfl⟩
  obtain⟨k1,k2,k3⟩:=key;refine .inr ⟨⟨⟨(M.l9 s.own s.Q c.op c.task c.prio).own,0,0,hn,[],qn,(M.l9 s.own s.Q c.op c.task c.prio).q,bn,[],cn,[],false,0⟩,(M.l9 s.own s.Q c.op c.task c.prio).parked,0,(M.l9 s.own s.Q c.op c.task c.prio).ok,wn,xu (M.l9 s.own s.Q c.op c.task c.prio).wk⟩,?_,?_,hc,?_,?_,?_⟩
  .refine h.trans ?_
   rw[he];generalize M.l9 s.own s.Q c.op c.task c.prio=r;obtain⟨r1,r2,r3,r4,r5,r6⟩:=r;cases r5<;>rfl
  .exact⟨⟨λ_=>rfl,λ_=>rfl,λ_=>rfl,by simp⟩,jW,by simp,k1,by simp,by simp,by simp⟩
  .exact asP.2 ⟨DW,⟨rfl,rfl,rfl,rfl,rfl,rfl,rfl⟩,by simp only;omega,O7⟩
  .cases(M.l9 s.own s.Q c.op c.task c.prio).wk<;>simp[xu]
  .rw[Ae (by decide) k2]
   exact k3 _ _
 .exact .inl ⟨_,he,_,_,_,_,_,_,_,_,_,_,_,_,_,h⟩
end Go.VS.Sp
namespace Go.VS.Sp
theorem asU{own:Int}{H:List Int}{t:Int}(ht:0<=t)(h:R.gX own H t=2):own=t:=by
 unfold R.gX at h;split at h
 .rename_i h2
  simp at h2;exact h2.2.symm
 .split at h<;>cases h
theorem asV{own:Int}{H:List Int}{t:Int}(ht:0<=t)(h:R.gX own H t=1):t∈H/\own≠t:=by
 unfold R.gX at h;split at h
 .cases h
 .rename_i h2
  split at h
  .rename_i h3
   exact⟨h3,λe=>h2 (by rw[e];simpa using ht)⟩
  .cases h
theorem asW{sz ot own:Int}{H:List Int}{c:Cl}(hn:dR 2 2 sz ot=0)(ho:own = -1\/(cY own=true/\H=[]))(h1:∀x∈H,cY x=true)(h2:R.gF H)(hb:cG c=false)(hop:53<=c.op/\c.op<=56)(he:(eW (aW own H) c).2.2.2=0):eD 2 sz ot (aW own H) c=eW (aW own H) c :=
 uh (VJ hn ho h1 h2) hb (by unfold dH;simp;omega) (by
  unfold fit;have h3:¬(c.op=72):=by omega
  have h4:¬(c.op=64\/c.op=68\/c.op=73):=by omega
  simp only[h3,h4];simp) he
theorem asX(nm:D)(sz ot:Int)(s:S)(c:Cl)(hf:s.jr)(iZ:s.Q.length<=40):
  mq (ev P (.call pN [.d (.ag [nm,I' 2,I' sz,I' ot]),.d (.ag s.row),.d (.ag c.row)] [])) 2 sz ot s c:=by
 have hs:=hf.sm;have hfh:=hf.h;obtain⟨bn,cn,hn,qn,wn,h,hhn,jW⟩:=R.Vd nm 2 sz ot s.own s.cnt s.time s.hn s.H s.qn s.Q s.bn s.B s.cn (s.C.map K.row) s.cl s.val c.task c.op c.value c.prio c.now hf.wf.1 hf.qn (by omega) (by omega)
 by_cases hc:R.fM 2 sz ot s.own s.cnt s.time s.H s.Q s.B (s.C.map K.row) s.cl s.val=0
 .rw[aK hc]at h hhn jW
  have hc0:fD 2 sz ot s=0:=hc;obtain⟨DW,hM,g1,g2,g3,g4,g5,g6⟩:=aqp.1 hc0;by_cases he:(R.mZ s.own s.H s.Q c.task c.op c.prio c.now).e=0
  .have hb:cG c=false:=by
    cases hb:cG c
    .rfl
    .have kI:R.jX c.task c.prio c.now=true:=by
      unfold cG at hb;unfold R.jX R.cY;simp at hb⊢;omega
     unfold R.mZ at he;rw[aK kI]at he;simp[R.zr]at he
   have O7:=R.anC hM (by omega) he
   have hbd:=vk hb;obtain⟨m1,m2,m3,m4,m5,m6,m7⟩:=R.zW.1 hM;have fm:(s.ab true).pl=aW s.own s.H:=by
    unfold S.ab S.pl aW;simp[g1,g2,g3,g4,g5,g6]
   have asY:=aqo O7;have O8:0<=c.now/\c.now<=1099511627776:=by omega
   have hcs:∀w∈s.Q,w.case = -1:=λw hw=>(m5 w hw).cs
   have one:∀(mh:Int)(H':List Int)(R:List Cp),53<=c.op/\c.op<=56->eW (aW s.own s.H) c=(aW mh H',0,true,0)->cZ 2 sz ot (s.ab true) (fQ c 0 true::R)=cZ 2 sz ot (aW mh H') R:=λmh H' R ho hE=>by
    have he:=asW (c:=c) DW m1 m2 m3 hb ho (by rw[hE])
    rw[hE,<-fm]at he;exact mo (x:=fQ c 0 true) he rfl rfl (.inr (.inl rfl))
   have rS:∀(mh:Int)(H':List Int),(∀x∈H',x∈s.H)->R.gF H'->(mh=s.own\/mh = -1)->53<=c.op/\c.op<=56->eW (aW s.own s.H) c=(aW mh H',0,true,0) ->
     (R.jA mh H' s.Q).2.2.1.length<=s.Q.length/\(R.jA mh H' s.Q).2.2.2.length<=s.Q.length /\
     (cZ 2 sz ot (s.ab true) (fQ c 0 true::((R.jA mh H' s.Q).2.2.2.map vg).map (fJ s.Q c.now))).2=true /\
     (cZ 2 sz ot (s.ab true) (fQ c 0 true::((R.jA mh H' s.Q).2.2.2.map vg).map (fJ s.Q c.now))).1.pl=aW (R.jA mh H' s.Q).1 (R.jA mh H' s.Q).2.1:=λmh H' hsub hsa hown ho hE=>by
    have OT:∀w∈s.Q,R.Gb mh H' w:=λw hw=>by
     have h5:=m5 w hw;refine⟨h5.v,h5.op,h5.val,h5.cs,?_,λh=>h5.zV (hsub _ h)⟩
     rcases hown with rfl |rfl
     .exact h5.no
     .have:=(sy h5.v).1
      omega
    obtain⟨p1,p2,p3⟩:=aqn (sz:=sz) (ot:=ot) O8 DW (λx hx=>m2 x (hsub x hx)) hsa OT m6
    rw[VH c.now m6 p1 hcs,one mh H' _ ho hE];obtain⟨q1,q2⟩:=p3 (aW mh H') rfl;exact⟨p2,p1.length_le,q1,q2⟩
   have key:(R.mZ s.own s.H s.Q c.task c.op c.prio c.now).Q.length<=41/\(R.mZ s.own s.H s.Q c.task c.op c.prio c.now).k.length<=40/\iN s c=false /\
     (cZ 2 sz ot (s.ab true) ((if(R.mZ s.own s.H s.Q c.task c.op c.prio c.now).parked=true then[]else[fQ c 0 (R.mZ s.own s.H s.Q c.task c.op c.prio c.now).ok])++((R.mZ s.own s.H s.Q c.task c.op c.prio c.now).k.map vg).map (fJ s.Q c.now))).2=true /\
     (cZ 2 sz ot (s.ab true) ((if(R.mZ s.own s.H s.Q c.task c.op c.prio c.now).parked=true then[]else[fQ c 0 (R.mZ s.own s.H s.Q c.task c.op c.prio c.now).ok])++((R.mZ s.own s.H s.Q c.task c.op c.prio c.now).k.map vg).map (fJ s.Q c.now))).1.pl=aW (R.mZ s.own s.H s.Q c.task c.op c.prio c.now).own (R.mZ s.own s.H s.Q c.task c.op c.prio c.now).H:=by
    unfold R.mZ at he⊢;split at he
    .simp[R.zr]at he
    .rename_i e1
     rw[aD e1];split at he
     .simp[R.zr]at he
     .rename_i e2
      rw[aD e2];have hop:53<=c.op/\c.op<=56:=by simp at e2;omega
      have hl:iN s c=false:=by
       unfold iN;have h1:¬c.op=70:=by omega
       have h2:¬c.op=63:=by omega
       have h3:¬c.op=65:=by omega
       simp[h1,h2,h3]
      split at he
      .simp[R.zr]at he
      .rename_i e3
       rw[aD e3];split at he
       .rename_i e4
        rw[aK e4];split at he
        .simp[R.zr]at he
        .rename_i e5
         rw[aD e5];have e5:R.gX s.own s.H c.task=0:=by omega
         obtain⟨f1,f2⟩:=(R.Jn hbd.1).1 e5;unfold R.iX;by_cases e6:R.vf s.own s.H s.Q c.op=true
         .rw[aK e6]
          unfold R.vf at e6;by_cases e7:c.op=55
          .rw[aK e7]
           rw[aD (by omega)]at e6
           simp at e6;obtain⟨e8,e9⟩:=e6;refine⟨by simp only;omega,by simp,hl,?_⟩
           have hE:eW (aW s.own s.H) c=(aW c.task s.H,0,true,0):=by
            unfold eW
            have:¬(-1=c.task):=by omega
            simp[e7,e8,e9,aW,gd,this]
           simp only[eI,dI,gn,nk];rw[one _ _ [] hop hE];exact⟨rfl,rfl⟩
          .rw[aD e7]
           have e7':c.op=53:=by omega
           rw[aK e7']at e6;simp at e6;obtain⟨e8,e9⟩:=e6;refine⟨by simp only;omega,by simp,hl,?_⟩
           have hE:eW (aW s.own s.H) c=(aW s.own (R.eR c.task s.H),0,true,0):=by
            unfold eW
            have:¬(-1=c.task):=by omega
            simp[e7',e8,f2,aW,gd,this];rfl
           simp only[eI,dI,gn,nk];rw[one _ _ [] hop hE];exact⟨rfl,rfl⟩
         .rw[aD e6]
          refine⟨by simp;omega,by simp,hl,?_⟩
          simp[cZ,fm]
       .rename_i e4
        rw[aD e4];split at he
        .rename_i e5
         rw[aK e5];split at he
         .simp[R.zr]at he
         .rename_i e6
          rw[aD e6];have e6:R.gX s.own s.H c.task=1:=by omega
          obtain⟨f1,f2⟩:=asV hbd.1 e6;have hE:eW (aW s.own s.H) c=(aW s.own (s.H.filter λx=>x != c.task),0,true,0):=by
           unfold eW;simp[e5,f1,aW,gd]
          obtain⟨k1,k2,k3,k4⟩:=rS s.own (s.H.filter λx=>x != c.task) (λx hx=>(pg.1 hx).1) (m3.sublist BW) (.inl rfl) hop hE
          refine⟨by simp only;omega,by simp only;omega,hl,?_⟩
          simp only[eI,dI,vE];exact⟨k3,k4⟩
        .rename_i e5
         rw[aD e5];split at he
         .simp[R.zr]at he
         .rename_i e6
          rw[aD e6];have e6:R.gX s.own s.H c.task=2:=by omega
          have f1:=asU hbd.1 e6;have hE:eW (aW s.own s.H) c=(aW (-1) s.H,0,true,0):=by
           unfold eW
           have:c.op=56:=by omega
           simp[this,f1,aW,gd]
          obtain⟨k1,k2,k3,k4⟩:=rS (-1) s.H (λx hx=>hx) m3 (.inr rfl) hop hE
          refine⟨by simp only;omega,by simp only;omega,hl,?_⟩
          simp only[eI,dI,vE];exact⟨k3,k4⟩
   rw[he]at h;generalize R.mZ s.own s.H s.Q c.task c.op c.prio c.now=r at *;obtain⟨r1,r2,r3,r4,r5,r6,r7⟩:=r;simp only at *;obtain⟨k1,k2,k3,k4,k5⟩:=key;refine .inr ⟨⟨⟨r1,0,0,hn,r2,qn,r3,bn,[],cn,[],false,0⟩,r4,0,r5,wn,r6.map vg⟩,?_,?_,hc0,?_,by simp;omega,?_⟩
   .refine h.trans ?_
    unfold Ry.row;rw[kY];rfl
   .exact⟨⟨hhn,λ_=>rfl,λ_=>rfl,by simp⟩,jW,by simp only;omega,k1,by simp,by simp,by simp⟩
   .exact aqp.2 ⟨DW,O7,rfl,rfl,rfl,rfl,rfl,rfl⟩
   .rw[Ae (by decide) k3]
    exact⟨k4,k5⟩
  .exact .inl ⟨_,he,_,_,_,_,_,_,_,_,_,_,_,_,_,h⟩
 .rw[aD hc]at h
  exact .inl ⟨1,by decide,_,_,_,_,_,_,_,_,_,_,_,_,_,h⟩
end Go.VS.Sp
namespace Go.VS.Sp
def aT(C:List K):S:=⟨-1,0,0,false,[],false,[],false,[],false,C.map K.pl,false,0⟩
theorem Wh{sz:Int}(h:0<=sz):sz<=dr sz/\1<=dr sz:=by unfold dr;split<;>omega
theorem asZ{a b:Int}{C:List K}(h:iH a C)(hab:a<=b):iH b C:=⟨h.pw,λc hc=>by have:=h.el c hc;exact⟨this.1,this.2.1,by omega,this.2.2.2⟩⟩
theorem as0{rm:Int}{C:List K}(h:iH rm C):iH rm (C.map K.pl):=OO h (λ_=>rfl) (λc hc=>(h.el c hc).2.2)
theorem as1{sz ot:Int}(h:dQ 7 sz ot=0):dQ 7 (dr sz) ot=0:=by
 have hz:=Gm h;have hr:0<=dr sz/\dr sz<=100:=by unfold dr;split<;>omega
 unfold dQ at *;simp at h⊢;exact⟨hr,h.2⟩
theorem as2{sz ot:Int}{C:List K}(hn:dQ 7 sz ot=0)(h:iH (dr sz) C):cW 7 sz ot (aT C)=true:=by
 have e2:gL 7 (iV 7 sz) ot (ir 7 (aT C))=0:=by
  have:fM 7 (dr sz) ot (aT C)=0:=Jz.2 ⟨as1 hn,rfl,rfl,⟨as0 h,by simp[aT],by simp[aT],by simp[aT,tks],by simp[aT]⟩,by simp[aT]⟩
  exact this
 have e1:gE 7 sz ot=0:=hn;unfold cW;rw[e1,e2];rfl
theorem as3{A B:List K}{k:K}{m:Int}(h:iH m (A++k::B)):bI k.task ((A++k::B).map K.task)=A.length:=by
 have hp:=h.pw;rw[oz]at hp;unfold bI;rw[vD,List.takeWhile_append_of_pos]
 .simp
 .intro t ht
  obtain⟨a,ha,rfl⟩:=gV.1 ht;simpa using hp.2.2 a ha k (by simp)
theorem as4{A B:List K}{k:K}{m:Int}(h:iH m (A++k::B)):bK (aT (A++k::B)) k.task=A.length/\mF (aT (A++k::B)) k.task=true:=by
 have e:qB (aT (A++k::B))=(A++k::B).map K.task:=by
  unfold qB aT;rw[kY];rfl
 have hb:bK (aT (A++k::B)) k.task=A.length:=by
  unfold bK;rw[e];exact as3 h
 refine⟨hb,?_⟩;unfold mF;rw[hb,e];simp
theorem as5{C:List K}{t m:Int}(h:iH m C)(hn:∀c∈C,c.task≠t):bK (aT C) t=j0 C t/\mF (aT C) t=false:=by
 have e:qB (aT C)=C.map K.task:=by
  unfold qB aT;rw[kY];rfl
 have hb:bK (aT C) t=j0 C t:=by
  unfold bK j0 bI;rw[e,List.takeWhile_map,yI];rfl
 refine⟨hb,?_⟩;have hsa:gF (C.map K.task):=by
  unfold gF;rw[GG];exact h.pw
 unfold mF bK;rw[e]
 have:¬((C.map K.task)[bI t (C.map K.task)]?=some t):=by
  rw[H6 hsa];intro hm;obtain⟨c,hc,e⟩:=gV.1 hm;exact hn c hc e
 simpa using this
theorem O9{sz ot:Int}{C:List K}{c:Cl}(hn:dQ 7 sz ot=0)(hS:iH (dr sz) C)(hb:cG c=false)(ho:68<=c.op/\c.op<=71)(hv:c.op=68->num c.value=true)(he:(eT (dr sz) (aT C) c).2.2.2=0):eD 7 sz ot (aT C) c=eT (dr sz) (aT C) c :=
 uh (as2 hn hS) hb (by unfold dH;simp;omega) (by
  unfold fit;have h1:¬((7:Int)=4\/c.op=72):=by omega
  rw[aD h1];by_cases h:c.op=68
  .rw[aK (by omega)];exact hv h
  .rw[aD (by omega)]) he
theorem as6{sz ot:Int}{C:List K}{c:Cl}(hn:dQ 7 sz ot=0)(hS:iH (dr sz) C)(hb:cG c=false)(ho:c.op=68)(hv:num c.value=true)(hf:∀x∈C,(x.log.length:Int)<dr sz):
  eD 7 sz ot (aT C) c=(aT (C.map λx=>⟨x.task,false,x.log++[c.value]⟩),0,true,0):=by
 have h:eT (dr sz) (aT C) c=(aT (C.map λx=>⟨x.task,false,x.log++[c.value]⟩),0,true,0):=by
  have OR:((aT C).C.any λx=>decide (dr sz<=x.log.length))=false:=by
   rw[qQ];intro x hx;obtain⟨y,hy,rfl⟩:=gV.1 hx;have:=hf y hy;have e:y.pl.log=y.log:=rfl;rw[e];simpa using this
  unfold eT;rw[OR];simp only[ho];simp only[gd,aT,kY];rfl
 rw[O9 hn hS hb (by omega) (λ_=>hv) (by rw[h]),h]
theorem as7{sz ot x:Int}{A B:List K}{k:K}{lg:List Int}{c:Cl}(hn:dQ 7 sz ot=0)(hS:iH (dr sz) (A++k::B))(hb:cG c=false)(ho:c.op=70)(ht:k.task=c.task)(hl:k.log=x::lg):
  eD 7 sz ot (aT (A++k::B)) c=(aT (A++⟨c.task,false,lg⟩::B),x,true,0):=by
 obtain⟨h1,h2⟩:=as4 hS;rw[ht]at h1 h2;have hg:(aT (A++k::B)).C[A.length]?=some ⟨c.task,false,x::lg⟩:=by
  unfold aT;simp[K.pl,ht,hl]
 have h:eT (dr sz) (aT (A++k::B)) c=(aT (A++⟨c.task,false,lg⟩::B),x,true,0):=by
  unfold eT;rw[h1,h2,hg];simp only[ho];simp[aT,K.pl]
 rw[O9 hn hS hb (by omega) (λh=>by omega) (by rw[h]),h]
theorem as8{sz ot:Int}{C:List K}{c:Cl}(hn:dQ 7 sz ot=0)(hS:iH (dr sz) C)(hb:cG c=false)(ho:c.op=69)(hno:∀k∈C,k.task≠c.task):
  eD 7 sz ot (aT C) c=(aT (mj C c.task),0,true,0):=by
 obtain⟨h1,h2⟩:=as5 hS hno;have h:eT (dr sz) (aT C) c=(aT (mj C c.task),0,true,0):=by
  unfold eT;rw[h1,h2];simp only[ho];simp[gd,aT,mj,K.pl,BU,BV]
 rw[O9 hn hS hb (by omega) (λh=>by omega) (by rw[h]),h]
theorem as9{sz ot:Int}{A B:List K}{k:K}{c:Cl}(hn:dQ 7 sz ot=0)(hS:iH (dr sz) (A++k::B))(hb:cG c=false)(ho:c.op=71)(ht:k.task=c.task):
  eD 7 sz ot (aT (A++k::B)) c=(aT (A++B),0,true,0):=by
 obtain⟨h1,h2⟩:=as4 hS;rw[ht]at h1 h2;have h:eT (dr sz) (aT (A++k::B)) c=(aT (A++B),0,true,0):=by
  unfold eT;rw[h1,h2];simp only[ho];have e1:(List.map K.pl (A++k::B)).take A.length=List.map K.pl A:=by
   rw[vD];exact uo (by simp)
  have e2:(List.map K.pl (A++k::B)).drop (A.length+1)=List.map K.pl B:=by
   rw[vD,gk,<-List.drop_drop,DY (by simp)]
   rfl
  simp only[aT,gd];rw[e1,e2,<-List.map_append];rfl
 rw[O9 hn hS hb (by omega) (λh=>by omega) (by rw[h]),h]
end Go.VS.Sp
namespace Go.VS.Sp
def jL(v:Int)(T:List Int)(x:K):K:=if x.task∈T then⟨x.task,false,[]⟩else⟨x.task,false,x.log++[v]⟩
theorem ata(v:Int)(T:List Int)(x:K):(jL v T x).task=x.task:=by unfold jL;split<;>rfl
theorem atb{rm v:Int}{C:List K}{T:List Int}(h:iH rm C)(hr:0<=rm)(hv:num v=true)(hf:∀x∈C,x.task∉T->(x.log.length:Int)<rm):iH rm (C.map (jL v T)):=
 OO h (ata v T) λc hc=>by
  unfold jL;split
  .exact⟨by simpa using hr,rfl⟩
  .rename_i hn
   have:=hf c hc hn;refine⟨by simp;omega,?_⟩
   simp only[JP,(h.el c hc).2.2.2,xx,hv,PG,PI]
theorem Gq{α β:Type}{f g:α->β}{l:List α}(h:∀x∈l,f x=g x):l.map f=l.map g:=vo h
theorem atc{sz ot v:Int}{C:List K}(hn:dQ 7 sz ot=0)(hS:iH (dr sz) C)(hv:num v=true):∀(rs:List Cp)(T:List Int)(b:S),b.pl=aT (C.map (jL v T)) ->
  (∀x∈C,x.task∉T->(x.log.length:Int)<dr sz) ->
  (∀x∈rs,x.c.op=70/\x.w.value=v/\x.w.ok=true/\cG x.c=false/\x.c.task∉T/\∃k∈C,k.task=x.c.task/\k.log=[]) ->
  rs.Pairwise (λa b=>a.c.task≠b.c.task) ->
  ∃b':S,b'.pl=aT (C.map (jL v (rs.map (·.c.task)++T)))/\∀R,cZ 7 sz ot b (rs++R)=cZ 7 sz ot b' R
 | [],T,b,hb,_,_,_=>⟨b,by simpa using hb,λR=>rfl⟩
 |x::rs,T,b,hb,hf,hx,hp=>by
  rw[gH]at hp;obtain⟨h1,h2,h3,h4,h5,k,hk,nF,sJ⟩:=hx x (by simp)
  obtain⟨A,B,rfl⟩:=J3 hk;have hz:=Wh (Gm hn).1;have hSr:=atb (T:=T) hS (by omega) hv hf
  have Du:jL v T k=⟨k.task,false,[v]⟩:=by
   unfold jL;rw[aD (by rw[nF];exact h5),sJ]
   rfl
  have qm:=hS.pw;rw[oz,gH]at qm;rw[vD,gk,Du]at hSr hb;have hE:=as7 (x:=v) (lg:=[]) hn hSr h4 h1 nF rfl;rw[<-hb]at hE;have hnew:A.map (jL v T)++⟨x.c.task,false,[]⟩::B.map (jL v T)=(A++k::B).map (jL v (x.c.task::T)):=by
   rw[vD,gk];have e1:A.map (jL v T)=A.map (jL v (x.c.task::T)):=Gq λa ha=>by
    have:a.task≠x.c.task:=by have:=qm.2.2 a ha k (by simp);omega
    unfold jL;simp[this]
   have e2:B.map (jL v T)=B.map (jL v (x.c.task::T)):=Gq λa ha=>by
    have:a.task≠x.c.task:=by have:=qm.2.1.1 a ha;omega
    unfold jL;simp[this]
   have e3:jL v (x.c.task::T) k=⟨x.c.task,false,[]⟩:=by
    unfold jL;simp[nF]
   rw[e1,e2,e3]
  rw[hnew]at hE;have fm:(aT ((A++k::B).map (jL v (x.c.task::T)))).pl=aT ((A++k::B).map (jL v (x.c.task::T))):=by
   unfold aT S.pl;simp only[kY];rfl
  obtain⟨b',g1,g2⟩:=atc hn hS hv rs (x.c.task::T) (aT ((A++k::B).map (jL v (x.c.task::T)))) fm (λy hy hyt=>hf y hy λh=>hyt (by simp[h])) (λy hy=>by
   obtain⟨k1,k2,k3,k4,k5,k6⟩:=hx y (by simp[hy])
   refine⟨k1,k2,k3,k4,?_,k6⟩;have:=hp.1 y hy;simp only[dA,nj];exact⟨λe=>this e.symm,k5⟩) hp.2
  refine⟨b',?_,λR=>?_⟩
  .rw[g1]
   congr 1;refine Gq λy hy=>?_
   unfold jL
   have:(y.task∈rs.map (·.c.task)++x.c.task::T)=(y.task∈(x::rs).map (·.c.task)++T):=by
    simp only[gk,dj,dA,eq_iff_iff,or_assoc];constructor
    .rintro(h |h |h)
     .exact .inr (.inl h)
     .exact .inl h
     .exact .inr (.inr h)
    .rintro(h |h |h)
     .exact .inr (.inl h)
     .exact .inl h
     .exact .inr (.inr h)
   simp only[this]
  .rw[<-g2 R,sW]
   exact mo (x:=x) hE h2 h3 (.inl (by omega))
theorem Wi{sz ot:Int}{C:List K}{Q:List W}{p:Cp}{rs:List Cp}{b:S}(hn:dQ 7 sz ot=0)(hg:lR sz Q C)(hf:fl sz C Q=false)(hb:b.pl=aT C)
  (h1:p.c.op=68)(h2:num p.c.value=true)(h3:cG p.c=false)(h4:p.w.value=0)(h5:p.w.ok=true)
  (hr:∀x∈rs,x.c.op=70/\x.w.value=p.c.value/\x.w.ok=true/\cG x.c=false)(ht:rs.map (·.c.task)=tks (Q.filter λw=>w.op==70)):
  ∃b':S,b'.pl=aT (C.map (gr Q p.c.value))/\∀R,cZ 7 sz ot b (p::(rs++R))=cZ 7 sz ot b' R:=by
 have hz:=Wh (Gm hn).1;have hS:=asZ hg.kj hz.1;have Bz:∀x∈C,jl Q x.task 70=true->x.log=[]:=λx hx hw=>by
  obtain⟨w,xk,e1,e2⟩:=BF.1 hw;rcases(hg.cs w xk).2 with⟨_,h⟩ |h
  .obtain⟨⟨k,hk,nF,sJ⟩,_⟩:=(Gl hg.kj).1 h
   rw[hg.kj.uniq hx hk (by rw[nF,e1])]
   exact sJ
  .omega
 have hlt:∀x∈C,(x.log.length:Int)<dr sz:=λx hx=>by
  cases hw:jl Q x.task 70
  .have h1:=(hg.kj.el x hx).2.2.1
   unfold fl at hf;rw[qQ]at hf;have h2:=hf x hx;rw[hw]at h2;simp at h2;omega
  .rw[Bz x hx hw]
   simp only[k9];omega
 have hE:=as6 hn hS h3 h1 h2 hlt;have e0:(C.map λx=>(⟨x.task,false,x.log++[p.c.value]⟩:K))=C.map (jL p.c.value []):=Gq λx _=>by unfold jL;simp
 rw[e0,<-hb]at hE;have fm:(aT (C.map (jL p.c.value []))).pl=aT (C.map (jL p.c.value [])):=by
  unfold aT S.pl;simp only[kY];rfl
 have hnd:(rs.map (·.c.task)).Nodup:=by
  rw[ht];exact hg.nd.sublist (BW.map _)
 obtain⟨b',g1,g2⟩:=atc hn hS h2 rs [] _ fm (λx hx _=>hlt x hx) (λx hx=>by
  obtain⟨k1,k2,k3,k4⟩:=hr x hx;refine⟨k1,k2,k3,k4,by simp,?_⟩
  have hm:x.c.task∈rs.map (·.c.task):=Pf hx
  rw[ht]at hm;obtain⟨w,hw,e⟩:=gV.1 hm;obtain⟨hw1,dG⟩:=pg.1 hw;rcases(hg.cs w hw1).2 with⟨_,h⟩ |h
  .obtain⟨⟨k,hk,nF,sJ⟩,_⟩:=(Gl hg.kj).1 h
   exact⟨k,hk,by rw[nF,e],sJ⟩
  .simp[h]at dG) (by
  unfold List.Nodup at hnd;rw[GG]at hnd;exact hnd)
 refine⟨b',?_,λR=>?_⟩
 .rw[g1,ht]
  unfold aT;simp only[kY];congr 1;refine Gq λx hx=>?_
  have hmem:x.task∈tks (Q.filter λw=>w.op==70)++[]↔jl Q x.task 70=true:=by
   rw[BF,nk];unfold tks;rw[gV];constructor
   .rintro⟨w,hw,e⟩
    obtain⟨a,b⟩:=pg.1 hw;exact⟨w,a,e,by simpa using b⟩
   .rintro⟨w,a,e,b⟩
    exact⟨w,pg.2 ⟨a,by simpa using b⟩,e⟩
  simp only[Function.comp];unfold jL gr;cases hw:jl Q x.task 70
  .rw[aD (by rw[hmem,hw];simp),aD (by simp)]
  .rw[aK (hmem.2 hw),aK rfl]
   unfold K.pl;rw[Bz x hx hw]
 .rw[<-g2 R]
  exact mo (x:=p) hE h4 h5 (.inl (by omega))
end Go.VS.Sp
namespace Go.VS.Sp
def ou(w:cC):Wk:=⟨w.task,w.op,w.value,true,-1⟩
theorem lR.sublist{sz:Int}{Q Q':List W}{C:List K}(h:lR sz Q C)(hs:Q'.Sublist Q):lR sz Q' C :=
 ⟨h.kj,λw hw=>h.val w (hs.subset hw),nh hs.length_le h.len,h.nd.sublist (hs.map _),λw hw=>h.cs w (hs.subset hw)⟩
theorem atd{Q:List W}:(tks Q).Nodup↔Q.Pairwise λa b=>a.task≠b.task:=by
 unfold tks List.Nodup;rw[GG]
theorem DX{A B:List W}{w:W}:(A++B).Sublist (A++w::B):=Gx (Am A) (Gy w B)
theorem Wj(now v:Int){Q0 Q:List W}(hd:Q0.Pairwise λa b=>a.task≠b.task)(hc:∀w∈Q0,w.case = -1)(hs:∀w∈Q,w∈Q0):
  (pW v Q).map (λw=>fJ Q0 now (ou w))=(Q.filter λw=>w.op==70).map λw=>⟨⟨w.task,w.op,w.value,w.prio,now⟩,⟨w.task,w.op,v,true,-1⟩⟩:=by
 unfold pW;rw[kY];refine Gq λw hw=>?_
 have hm:=hs w (pg.1 hw).1;exact DN now v true hd hm (hc w hm)
theorem ate{sz ot now:Int}(hn:dQ 7 sz ot=0)(hw0:0<=now/\now<=1099511627776){Q0 A B:List W}{w:W}{C:List K}{b:S}(hd:Q0.Pairwise λa b=>a.task≠b.task)(hc:∀w∈Q0,w.case = -1)
  (hs:∀x∈A++w::B,x∈Q0)(hg:lR sz (A++w::B) C)(eZ:w.op=68)(hf:fl sz C (A++w::B)=false)(hb:b.pl=aT C):
  ∃b':S,b'.pl=aT (C.map (gr (A++B) w.value))/\∀R,cZ 7 sz ot b ((((⟨w.task,w.op,0⟩:cC)::pW w.value (A++B)).map λw=>fJ Q0 now (ou w))++R)=cZ 7 sz ot b' R:=by
 have hsub:∀x∈A++B,x∈Q0:=λx hx=>hs x (DX.subset hx)
 have xk:=hs w (by simp)
 have ug:=hg.val w (by simp)
 rw[gk,Wj now w.value hd hc hsub];have hp:fJ Q0 now (ou ⟨w.task,w.op,0⟩)=⟨⟨w.task,w.op,w.value,w.prio,now⟩,⟨w.task,w.op,0,true,-1⟩⟩:=DN now 0 true hd xk (hc w xk);rw[hp];have tJ:fl sz C (A++B)=false:=by
  unfold fl at *;simpa only[Vu eZ]using hf
 exact Wi (p:=⟨⟨w.task,w.op,w.value,w.prio,now⟩,⟨w.task,w.op,0,true,-1⟩⟩) hn (hg.sublist DX) tJ hb eZ (DK ug) (uj ug hw0) rfl rfl (λx hx=>by
  obtain⟨y,hy,rfl⟩:=gV.1 hx;obtain⟨hy1,JK⟩:=pg.1 hy;exact⟨by simpa using JK,rfl,rfl,uj (hg.val y (DX.subset hy1)) hw0⟩) (by
  unfold tks;rw[kY];rfl)
theorem atf{sz ot now:Int}(hn:dQ 7 sz ot=0)(hw0:0<=now/\now<=1099511627776){Q0:List W}(hd:Q0.Pairwise λa b=>a.task≠b.task)(hc:∀w∈Q0,w.case = -1):∀(n:Nat)(a:Ad),lR sz a.Q a.C->(∀x∈a.Q,x∈Q0) ->
  ∃L,(gU sz n a).wn=a.wn++L/\L.length<=a.Q.length/\∀b:S,b.pl=aT a.C ->
   (cZ 7 sz ot b (L.map λw=>fJ Q0 now (ou w))).2=true/\(cZ 7 sz ot b (L.map λw=>fJ Q0 now (ou w))).1.pl=aT (gU sz n a).C
 | 0,a,_,_=>⟨[],by simp[gU],by simp,λb hb=>by simp[cZ,gU,hb]⟩
 |n+1,a,hg,hs=>by
  have stay:(gU sz (n+1) a)=a->∃L,(gU sz (n+1) a).wn=a.wn++L/\L.length<=a.Q.length/\∀b:S,b.pl=aT a.C ->
   (cZ 7 sz ot b (L.map λw=>fJ Q0 now (ou w))).2=true/\(cZ 7 sz ot b (L.map λw=>fJ Q0 now (ou w))).1.pl=aT (gU sz (n+1) a).C:=λe=>by
   rw[e];exact⟨[],by simp,by simp,λb hb=>by simp[cZ,hb]⟩
  by_cases hcs:lF a.Q<0\/fl sz a.C a.Q=true
  .exact stay (by unfold gU;rw[aK hcs])
  .rcases DF a.Q with⟨h1,_⟩ |⟨A,B,w,hQ,hp,eZ⟩
   .exact absurd (.inl (by omega)) hcs
   .have e:((A.length:Int)).toNat=A.length:=by omega
    have hgt:a.Q[(lF a.Q).toNat]?=some w:=by rw[hp,e,hQ];simp
    have e1:Q1 a.Q=A++B:=by rw[hQ];exact DG (by rw[<-hQ];exact hp)
    have hf:fl sz a.C a.Q=false:=by
     cases h:fl sz a.C a.Q
     .rfl
     .exact absurd (.inr h) hcs
    have hst:gU sz (n+1) a=gU sz n (a.step w):=by
     conv=>lhs;unfold gU
     rw[aD hcs,hgt]
    have FV:lR sz (a.step w).Q (a.step w).C:=by
     simp only[Ad.step,e1];exact hg.step hQ eZ hf
    obtain⟨L,g1,g2,g3⟩:=atf hn hw0 hd hc n (a.step w) FV (λx hx=>by
     simp only[Ad.step,e1]at hx;exact hs x (by rw[hQ];exact DX.subset (ON hx).1))
    rw[hst,g1];refine⟨⟨w.task,w.op,0⟩::pW w.value (A++B)++L,?_,?_,λb hb=>?_⟩
    .simp only[Ad.step,e1,sU,sW]
    .simp only[Ad.step,e1]at g2
     have:=DH w.value (A++B);rw[hQ];simp at this⊢;omega
    .obtain⟨b',k1,k2⟩:=ate (ot:=ot) hn hw0 hd hc (by rw[<-hQ];exact hs) (by rw[<-hQ];exact hg) eZ (by rw[<-hQ];exact hf) hb
     rw[vD,k2];refine g3 b' ?_;rw[k1];simp only[Ad.step,e1]
theorem atg{sz:Int}{C:List K}(h:iH sz C):C.length<=16:=by
 have h2:gF (C.map K.task):=by
  unfold gF;rw[GG];exact h.pw
 have:=VK 0 (λx hx=>by
  obtain⟨c,hc,rfl⟩:=gV.1 hx;have:=h.el c hc;exact⟨this.1,this.2.1⟩) h2
 simp at this;omega
theorem ath{s:S}:s.uO=false↔s.cnt=0/\s.time=0/\s.H=[]/\s.B=[]/\s.cl=false/\s.val=0:=by
 unfold S.uO;simp;constructor
 .rintro⟨⟨⟨⟨h1,h2⟩,h3,h4⟩,h5⟩,h6⟩
  exact⟨h1,h2,h3,h4,h5,h6⟩
 .rintro⟨h1,h2,h3,h4,h5,h6⟩
  exact⟨⟨⟨⟨h1,h2⟩,h3,h4⟩,h5⟩,h6⟩
theorem ati{s:S}(ho:s.own = -1)(hz:s.uO=false):(s.ab true).pl=aT s.C:=by
 obtain⟨h1,h2,h3,h4,h5,h6⟩:=ath.1 hz;unfold S.ab S.pl aT;simp[ho,h1,h2,h3,h4,h5,h6]
end Go.VS.Sp
namespace Go.VS.Sp
def TR(sz ot:Int)(s:S)(c:Cl)(r:Rp):Prop :=
 r.wn.length<=41/\iw 7 sz ot s (ng 7 s c ⟨r.st,r.parked,r.value,r.ok,r.kn,r.wn.map ou⟩) r.st
theorem atj{s:S}{c:Cl}{k:K}(ho:c.op=70)(hk:mD s.C c.task=some k):iN s c=k.log.isEmpty:=by
 unfold iN;rw[aK ho,hk]
theorem Wl{s:S}{c:Cl}(ho:c.op=68\/c.op=69\/c.op=71):iN s c=false:=by
 unfold iN;rw[aD (by omega)]
 rcases ho with h |h |h<;>simp[h]
theorem Wm{sz ot v:Int}{s:S}{c:Cl}{r:Rp}{C':List K}(hl:iN s c=false)(hp:r.parked=false)(hv:r.value=v)(hk:r.ok=true)(fm:(s.ab true).pl=aT s.C)
  (he:eD 7 sz ot (aT s.C) c=(aT C',v,true,0))(kL:r.wn.length<=41)(Fa:c.op≠61)
  (h:(cZ 7 sz ot (aT C') (r.wn.map λw=>fJ s.Q c.now (ou w))).2=true/\(cZ 7 sz ot (aT C') (r.wn.map λw=>fJ s.Q c.now (ou w))).1.pl=(r.st.ab true).pl):TR sz ot s c r:=by
 refine⟨kL,?_⟩;rw[Ae (by decide) hl]
 have e:gB c ⟨r.st,r.parked,r.value,r.ok,r.kn,r.wn.map ou⟩=[fQ c v true]:=by
  unfold gB;simp only[hp,hv,hk,eI,dI];rfl
 rw[e,kY];rw[<-fm]at he;unfold iw;rw[vE,mo (x:=fQ c v true) he rfl rfl (.inl Fa)];exact h
theorem atk{sz ot:Int}{s:S}{c:Cl}{r:Rp}(hp:r.parked=true)(hw:r.wn=[])(h:(s.ab true).pl=(r.st.ab true).pl):TR sz ot s c r:=by
 refine⟨by rw[hw];simp,?_⟩
 have e:ng 7 s c ⟨r.st,r.parked,r.value,r.ok,r.kn,r.wn.map ou⟩=[]:=by
  unfold ng gB;simp only[hp,hw];simp
 rw[e];exact⟨rfl,h⟩
theorem atl(C:List K):(aT C).pl=aT C:=by
 unfold aT S.pl;simp only[kY];rfl
theorem atm{l:List cC}{t:Int}{x:Int×List cC}(h:got l t=some x):∃A w B,l=A++w::B/\w.task=t/\x=(w.value,A++B):=by
 rcases CM (p:=λw:cC=>w.task==t) l 0 with⟨g1,_⟩ |⟨i,w,g1,g2,g3⟩
 .have BD:qJ l t = -1:=by simpa[qJ]using g1
  unfold got at h;rw[BD,aK (by omega)]at h
  cases h
 .have BD:qJ l t=(i:Int):=by simpa[qJ]using g1
  have e:((i:Int)).toNat=i:=by omega
  unfold got at h;rw[BD,aD (by omega),e,g2]at h
  obtain⟨hlt,he⟩:=rW.1 g2;have hl:(l.take i).length=i:=by simp;omega
  have hsp:l=l.take i++w::l.drop (i+1):=by rw[<-he];simp
  refine⟨l.take i,w,l.drop (i+1),hsp,?_,?_⟩
  .have:=GF g3
   simpa using this
  .simp only[sV,gw]at h
   rw[<-h];congr 1
   conv=>lhs;arg 1;rw[hsp]
   rw[D5 (by omega),hl]
   simp
theorem atn{sz ot:Int}{s:S}{c:Cl}{k:K}{x:Int×List cC}(hn:dQ 7 sz ot=0)(hg:Gd sz s.Q s.C)(hl:s.Q.length<=40)(hb:cG c=false)(fG:c.op=70)(hk:mD s.C c.task=some k)(sJ:k.log=[])(hfr:∀w∈s.Q,w.task≠c.task)
  (hx:got (cR sz false (s.Q++[⟨c.task,70,0,c.prio,-1⟩]) s.C).wn c.task=some x):x.2.length<=41/\∀b:S,b.pl=aT s.C ->
   (cZ 7 sz ot b (x.2.map (λw=>fJ s.Q c.now (ou w))++[fQ c x.1 true])).2=true/\(cZ 7 sz ot b (x.2.map (λw=>fJ s.Q c.now (ou w))++[fQ c x.1 true])).1.pl=aT (cR sz false (s.Q++[⟨c.task,70,0,c.prio,-1⟩]) s.C).C:=by
 obtain⟨ow,how⟩:∃w:W,w=⟨c.task,70,0,c.prio,-1⟩:=⟨_,rfl⟩;have lG:ow.task=c.task:=by rw[how]
 have Pa:ow.op=70:=by rw[how]
 rw[<-how]at hx⊢;have hbd:=vk hb;have iC:k∈s.C:=DJ hk;have nF:=BG hk;have FV:lR sz (s.Q++[ow]) s.C:=by
  refine hg.1.snoc ?_ (by omega) (λw hw=>by rw[lG];exact hfr w hw) (by rw[how];exact⟨rfl,.inl ⟨rfl,(Gl hg.1.kj).2 ⟨⟨k,iC,nF,sJ⟩,rfl⟩⟩⟩)
  rw[how];unfold dO kE;simp;omega
 by_cases hcs:lF (s.Q++[ow])<0\/fl sz s.C (s.Q++[ow])=true
 .rw[aqc hcs]at hx
  simp[got,qJ,idx]at hx
 .rcases DF (s.Q++[ow])with⟨h1,_⟩ |⟨A,B,w,hQ,hp,eZ⟩
  .exact absurd (.inl (by omega)) hcs
  .have e:((A.length:Int)).toNat=A.length:=by omega
   have hgt:(s.Q++[ow])[(lF (s.Q++[ow])).toNat]?=some w:=by rw[hp,e,hQ];simp
   have e1:Q1 (s.Q++[ow])=A++B:=by rw[hQ];exact DG (by rw[<-hQ];exact hp)
   have hf:fl sz s.C (s.Q++[ow])=false:=by
    cases h:fl sz s.C (s.Q++[ow])
    .rfl
    .exact absurd (.inr h) hcs
   obtain⟨B',hB,Af⟩:∃B',B=B'++[ow]/\s.Q=A++w::B':=by
    rcases Ak B with rfl |⟨B',b,rfl⟩
    .obtain⟨h1,h2⟩:=J5 hQ rfl
     simp at h2;rw[<-h2,Pa]at eZ;cases eZ
    .rw[Gt,<-List.cons_append,<-List.append_assoc]at hQ
     obtain⟨h1,h2⟩:=J5 hQ rfl;simp at h2;exact⟨B',by rw[Gt,h2],h1⟩
   have JL:w∈s.Q:=by rw[Af];simp
   have hsz:sz=0:=by
    have hfl:=hg.2 ⟨w,JL,eZ⟩;unfold fl at hfl hf;obtain⟨y,hy,h2⟩:=rV.1 hfl;rw[qQ]at hf;have h3:=hf y hy;simp only[bJ,kX,dN]at h2 h3;have h4:jl (s.Q++[ow]) y.task 70=true:=by
     cases h:jl (s.Q++[ow]) y.task 70
     .exact absurd ⟨h2.1,h⟩ h3
     .rfl
    obtain⟨z,hz,e1,e2⟩:=BF.1 h4;rcases dj.1 hz with hz |hz
    .have:jl s.Q y.task 70=true:=BF.2 ⟨z,hz,e1,e2⟩
     rw[h2.2]at this;cases this
    .simp at hz
     have:y=k:=hg.1.kj.uniq hy iC (by rw[<-e1,hz,lG,nF])
     rw[this,sJ]at h2;have:=h2.1;simp at this;exact this.symm
   have hone:cR sz false (s.Q++[ow]) s.C=(⟨false,s.Q++[ow],s.C,[]⟩:Ad).step w:=by
    unfold cR
    conv=>lhs;unfold gU
    simp only;rw[aD hcs,hgt];simp only;have hlen:(s.Q++[ow]).length=s.Q.length+1:=by simp
    rw[hlen]
    conv=>lhs;unfold gU
    rw[aK];right;simp only[Ad.step,e1];unfold fl;rw[rV];refine⟨k,gV.2 ⟨k,iC,?_⟩,?_⟩
    .unfold gr
     have:jl (A++B) k.task 70=true:=BF.2 ⟨ow,by rw[hB];simp,by rw[lG,nF],Pa⟩
     rw[this,aK rfl]
    .have:jl (pO (A++B)) k.task 70=false:=by
      cases h:jl (pO (A++B)) k.task 70
      .rfl
      .obtain⟨z,hz,_,e2⟩:=BF.1 h
       exact absurd e2 (ON hz).2
     rw[this,sJ,hsz];rfl
   rw[hone]at hx⊢;simp only[Ad.step,e1,mu]at hx⊢;have qm:pW w.value (A++B)=pW w.value (A++B')++[⟨ow.task,ow.op,w.value⟩]:=by
    rw[hB];unfold pW;simp[<-List.append_assoc,Pa,OK]
   have ato:(tks s.Q).Nodup:=hg.1.nd;have mE:x=(w.value,⟨w.task,w.op,0⟩::pW w.value (A++B')):=by
    obtain⟨P1,y,P2,f1,f2,f3⟩:=atm hx;rw[qm]at f1;rcases aq3 (Q:=(⟨w.task,w.op,0⟩:cC)::pW w.value (A++B')) (x:=⟨ow.task,ow.op,w.value⟩) (A:=P1) (w:=y) (B:=P2) (by simpa using f1)with⟨rfl,rfl⟩ |⟨P3,f4⟩
    .have:P2=[]:=by simpa using f1
     rw[f3,this];simp
    .exfalso
     have hy:y∈(⟨w.task,w.op,0⟩:cC)::pW w.value (A++B'):=by rw[f4];simp
     rcases dA.1 hy with hy |hy
     .rw[hy]at f2
      exact hfr w JL f2
     .unfold pW at hy
      obtain⟨z,hz,rfl⟩:=gV.1 hy;exact hfr z (by rw[Af];exact DX.subset (pg.1 hz).1) f2
   rw[mE];refine⟨?_,λb hb0=>?_⟩
   .have h1:=DH w.value (A++B')
    have h2:s.Q.length=A.length+(B'.length+1):=by rw[Af];simp
    simp at h1⊢;omega
   .have tJ:fl sz s.C (A++B)=false:=by
     rw[hQ]at hf;unfold fl at *;simpa only[Vu eZ]using hf
    have atp:lR sz (A++B) s.C:=by
     rw[hQ]at FV;exact FV.sublist DX
    have ug:=hg.1.val w JL;have hsub:∀x∈A++B',x∈s.Q:=λx hx=>by rw[Af];exact DX.subset hx
    have atq:∀w∈s.Q,w.case = -1:=λw hw=>(hg.1.cs w hw).1
    have hd:=atd.1 ato;have hp1:fJ s.Q c.now (ou ⟨w.task,w.op,0⟩)=⟨⟨w.task,w.op,w.value,w.prio,c.now⟩,⟨w.task,w.op,0,true,-1⟩⟩:=DN c.now 0 true hd JL (atq w JL);rw[gk,Wj c.now w.value hd atq hsub,hp1,sW];obtain⟨b',k1,k2⟩:=Wi (ot:=ot) (p:=⟨⟨w.task,w.op,w.value,w.prio,c.now⟩,⟨w.task,w.op,0,true,-1⟩⟩)
     (rs:=((A++B').filter λw=>w.op==70).map (λr=>(⟨⟨r.task,r.op,r.value,r.prio,c.now⟩,⟨r.task,r.op,w.value,true,-1⟩⟩:Cp))++[fQ c w.value true]) hn atp tJ hb0 eZ (DK ug) (uj ug (by omega)) rfl rfl (λx hx=>by
      rcases dj.1 hx with hx |hx
      .obtain⟨y,hy,rfl⟩:=gV.1 hx
       obtain⟨hy1,JK⟩:=pg.1 hy;exact⟨by simpa using JK,rfl,rfl,uj (hg.1.val y (hsub y hy1)) (by omega)⟩
      .simp at hx
       subst hx;exact⟨fG,rfl,rfl,hb⟩) (by
      rw[hB];unfold tks;simp[<-List.append_assoc,Pa,fQ,lG];rfl)
    have k3:=k2 [];rw[nk]at k3;rw[k3];exact⟨rfl,k1⟩
end Go.VS.Sp
namespace Go.VS.Sp
theorem atr{sz ot:Int}{s:S}{c:Cl}(iZ:s.Q.length<=40)(hb:cG c=false)(h1:fM 7 sz ot s=0)(h2:jB s c.task c.op c.value c.prio c.now=0):TR sz ot s c (ap 7 sz ot s c.task c.op c.value c.prio c.now).1:=by
 obtain⟨hmn,hown,hfl,hg,hgf⟩:=Jz.1 h1;have hGd:Gd sz s.Q s.C:=⟨hg,hgf⟩;have hz:=Wh (Gm hmn).1;have hS:=asZ hg.kj hz.1;have hbd:=vk hb;have fm:=ati hown hfl;have hfr:=ao2 h2;have hd:=atd.1 hg.nd;have hcs:∀w∈s.Q,w.case = -1:=λw hw=>(hg.cs w hw).1
 have O8:0<=c.now/\c.now<=1099511627776:=by omega
 have hab:∀(qn:Bool)(Q:List W)(cn:Bool)(C:List K),(({s with qn:=qn,Q:=Q,cn:=cn,C:=C}:S).ab true).pl=aT C:=λqn Q cn C=>ati (s:={s with qn:=qn,Q:=Q,cn:=cn,C:=C}) hown hfl
 have att:∀(qn:Bool)(C:List K),lR sz s.Q C->(cR sz qn s.Q C).wn.length<=41/\(cZ 7 sz ot (aT C) ((cR sz qn s.Q C).wn.map λw=>fJ s.Q c.now (ou w))).2=true/\(cZ 7 sz ot (aT C) ((cR sz qn s.Q C).wn.map λw=>fJ s.Q c.now (ou w))).1.pl=aT (cR sz qn s.Q C).C:=λqn C JM=>by
  obtain⟨L,g1,g2,g3⟩:=atf (ot:=ot) hmn O8 hd hcs (s.Q.length+1) ⟨qn,s.Q,C,[]⟩ JM (λx hx=>hx)
  have e:(cR sz qn s.Q C).wn=L:=g1;have g2:L.length<=s.Q.length:=g2;rw[e];exact⟨by omega,g3 (aT C) (atl C)⟩
 unfold ap;simp only[h1,h2,ne_eq,J1,dI];by_cases kJ:c.op=69
 .rw[aK kJ]
  rw[kJ]at h2;exact Wm (Wl (.inr (.inl kJ))) rfl rfl rfl fm (as8 hmn hS hb kJ (aqa h2)) (by simp) (by omega) ⟨rfl,(atl _).trans (hab s.qn s.Q false (mj s.C c.task)).symm⟩
 .rw[aD kJ]
  by_cases l6:c.op=71
  .rw[aK l6]
   obtain⟨A,k,B,hC,nV,hk⟩:=Gj (Gk h2 (.inl l6));have nF:=BG hk;have Ju:del s.C c.task=A++B:=by
    have eN:((A.length:Int)).toNat=A.length:=by omega
    unfold del;rw[nV,eN,hC,D5 (by omega)]
    simp
   rw[Ju];have JM:lR sz s.Q (A++B):=hg.JA (ap4 hg.kj (by rw[hC];exact Gx (Am A) (Gy k B))) (λw hw d hd hdt=>by
    rw[hC,dj,dA]at hd;rw[dj];rcases hd with hd |rfl |hd
    .exact .inl hd
    .exact absurd (hdt.symm.trans nF) (hfr w hw)
    .exact .inr hd)
   obtain⟨a1,a2,a3⟩:=att s.qn (A++B) JM;rw[hC]at hS;have hE:=as9 hmn hS hb l6 nF;rw[<-hC]at hE;exact Wm (Wl (.inr (.inr l6))) rfl rfl rfl fm hE a1 (by omega) ⟨a2,a3.trans (hab _ _ s.cn _).symm⟩
  .rw[aD l6]
   by_cases eZ:c.op=68
   .rw[aK eZ]
    have Uf:num c.value=true:=by rw[eZ]at h2;exact Vt h2
    cases Gn:(busy s.Q||fl sz s.C s.Q)
    .rw[aD (by simp)]
     have kI:busy s.Q=false/\fl sz s.C s.Q=false:=by simpa using Gn
     have hlen:=DH c.value s.Q;have e:ng 7 s c ⟨{s with qn:=decide (pO s.Q=[]),Q:=pO s.Q,C:=s.C.map (gr s.Q c.value)},false,0,true,decide (pW c.value s.Q=[]),(pW c.value s.Q).map ou⟩=fQ c 0 true::((s.Q.filter λw=>w.op==70).map λw=>⟨⟨w.task,w.op,w.value,w.prio,c.now⟩,⟨w.task,w.op,c.value,true,-1⟩⟩):=by
      rw[Ae (by decide) (Wl (.inl eZ)),kY]
      have:=Wj c.now c.value hd hcs (Q:=s.Q) (λx hx=>hx)
      simp only[Function.comp_def];rw[this];rfl
     refine⟨by simp only;omega,?_⟩
     simp only;rw[e];obtain⟨b',k1,k2⟩:=Wi (ot:=ot) (p:=fQ c 0 true) (rs:=(s.Q.filter λw=>w.op==70).map λw=>⟨⟨w.task,w.op,w.value,w.prio,c.now⟩,⟨w.task,w.op,c.value,true,-1⟩⟩) hmn hg kI.2 fm eZ Uf hb rfl rfl (λx hx=>by
      obtain⟨y,hy,rfl⟩:=gV.1 hx;obtain⟨hy1,JK⟩:=pg.1 hy;exact⟨by simpa using JK,rfl,rfl,uj (hg.val y hy1) O8⟩) (by
      unfold tks;rw[kY];rfl)
     have k3:=k2 [];rw[nk]at k3;unfold iw;rw[k3];exact⟨rfl,k1.trans (hab _ _ s.cn _).symm⟩
    .rw[aK rfl]
     exact atk rfl rfl (fm.trans (hab false _ s.cn s.C).symm)
   .rw[aD eZ]
    have fG:c.op=70:=by have:=Vp h2;omega
    obtain⟨A,k,B,hC,nV,hk⟩:=Gj (Gk h2 (.inr fG));have nF:=BG hk;have hl:=atj fG hk;rw[hk];simp only;have eN:((A.length:Int)).toNat=A.length:=by omega
    cases iW:k.log with
    |cons x lg =>
     simp only;have e2:s.C.set (jR s.C c.task).toNat ⟨k.task,false,lg⟩=A++⟨k.task,false,lg⟩::B:=by rw[nV,eN,hC];exact Vr
     rw[e2];have hel:=hg.kj.el k (DJ hk);rw[iW]at hel;have JM:lR sz s.Q (A++⟨k.task,false,lg⟩::B):=hg.JA (ap5 (c:=k) (by rw[<-hC];exact hg.kj) rfl (by
       have g2:=hel.2.2.1;have g3:=hel.2.2.2;simp at g2 g3⊢;exact⟨by omega,g3.2⟩)) (λw hw d hd hdt=>by
      rw[hC,dj,dA]at hd;rw[dj,dA];rcases hd with hd |rfl |hd
      .exact .inl hd
      .exact absurd (hdt.symm.trans nF) (hfr w hw)
      .exact .inr (.inr hd))
     obtain⟨a1,a2,a3⟩:=att s.qn _ JM;rw[hC]at hS;have hE:=as7 hmn hS hb fG nF iW;rw[<-hC,<-nF]at hE;exact Wm (by rw[hl,iW];rfl) rfl rfl rfl fm hE a1 (by omega) ⟨a2,a3.trans (hab _ _ s.cn _).symm⟩
    |nil =>
     simp only;rw[fG];cases hgt:got (cR sz false (s.Q++[⟨c.task,70,0,c.prio,-1⟩]) s.C).wn c.task with
     |none =>
      have hw:=aqf (w:=W.mk c.task 70 0 c.prio (-1)) (by simp) rfl hgt
      rw[hw];exact atk rfl rfl (fm.trans (hab false _ s.cn s.C).symm)
     |some x =>
      obtain⟨g1,g2⟩:=atn (ot:=ot) hmn hGd iZ hb fG hk iW hfr hgt;refine⟨g1,?_⟩;rw[VX (by decide) (by rw[hl,iW];rfl),kY]
      have:=g2 (s.ab true) fm;exact⟨this.1,this.2.trans (hab _ _ s.cn _).symm⟩
theorem atu(nm:D)(sz ot:Int)(s:S)(c:Cl)(hf:s.jr)(iZ:s.Q.length<=40):
  mq (ev P (.call vJ [.d (.ag [nm,I' 7,I' sz,I' ot]),.d (.ag s.row),.d (.ag c.row)] [])) 7 sz ot s c:=by
 have h:=aoV nm 7 sz ot s (aqh hf) c.task c.op c.value c.prio c.now;by_cases he:(ap 7 sz ot s c.task c.op c.value c.prio c.now).2=0
 .obtain⟨h1,h2⟩:=aqg he
  have hb:cG c=false:=aoX h2;have hgd:=aqb h1 h2 (by omega)
  obtain⟨t1,t2⟩:=atr iZ hb h1 h2;have hfh:=hf.h;have lK:=hf.b;obtain⟨hwf,_⟩:=ao9 (k:=7) (sz:=sz) (ot:=ot) (s:=s) (t:=c.task) (op:=c.op) (v:=c.value) (p:=c.prio) (n:=c.now) (q:=40) (c:=41) (l:=121) ⟨by omega,by omega,iZ,hf.c,λc hc=>⟨hf.wf.k c hc,hf.l c hc⟩,hf.qn,hf.wf.c⟩
  rw[he]at h;generalize (ap 7 sz ot s c.task c.op c.value c.prio c.now).1=r at *;obtain⟨hmn,hown,hfl,hg,hgf⟩:=Jz.1 hgd;have hz:=Gm hmn;obtain⟨f1,f2,f3,f4,f5,f6⟩:=ath.1 hfl;refine .inr ⟨⟨r.st,r.parked,r.value,r.ok,r.kn,r.wn.map ou⟩,?_,?_,h1,hgd,by simp;omega,t2⟩
  .refine h.trans ?_
   unfold Ry.row;rw[kY];rfl
  .have oL:=atg hg.kj
   exact⟨⟨λ_=>f3,λ_=>f4,hwf.cn,λc hc=>(hwf.l c hc).1⟩,hwf.qn,by rw[f3];simp,hwf.q,by rw[f4];simp,by simp only;omega,λc hc=>by have:=(hg.kj.el c hc).2.2.1;omega⟩
 .exact .inl ⟨_,he,_,_,_,_,_,_,_,_,_,_,_,_,_,h⟩
end Go.VS.Sp
namespace Go.VS.Sp
theorem BR(nm:D)(k sz ot:Int)(s:S)(c:Cl){f g a w r:Nat}(hk:Vk k f g a w r)(hw:s.wf)(hq:s.qn=true->s.Q=[])
  (hA:s.jr->s.Q.length<=40->cG c.rf=false->mq (ev P (.call a [.d (.ag [nm,I' k,I' sz,I' ot]),.d (.ag s.row),.d (.ag c.rf.row)] [])) k sz ot s c.rf):
  ev P (.call Ed [.d (.ag [nm,I' k,I' sz,I' ot]),.d (.ag s.row),.d (.ag c.row)] [])=some (.val (.d (.b true)) []):=by
 have wg:=an6 hk;have hG:=Yh s;have hn:=an4 c;have BO:=an5 c;rw[au Xz rfl];cases hg:s.xR
 .rw[hg]at hG
  have hf:s.jr:=anD hw hq hg;have iZ:s.Q.length<=40:=by
   unfold S.xR at hg;simp at hg;omega
  cases hb:cG c
  .rw[hb]at hn
   have Ob:c.rf.row=[I' c.rf.task,I' c.rf.op,I' c.rf.value,I' c.rf.prio,I' c.rf.now]:=rfl;rcases hA hf iZ (by rw[an8];exact hb)with⟨e,he,r1,r2,r3,r4,r5,r6,r7,r8,r9,BJ,BK,BL,eV,hW⟩ |⟨r,hW,tJ,Iz,gK,hl,hp⟩
   .have he':(e != 0)=true:=by simpa using he
    rw[Ob]at hW BO;simp only[S.row,Cl.row]at hG hW hn BO⊢;simp[Cu,wg,hG,hn,BO,hW,he',Ih,az,aq,br,aY,bg,ak,cut,bt,an,V.aZ]
   .have Wp:=anK nm k sz ot s hf
    have hB:=anK nm k sz ot r.st tJ;rw[aK Iz,Iz]at Wp;rw[aK gK,gK]at hB;have iC:=aq1 nm k sz ot s c.rf r (by omega) (by have:=hf.c;omega) (by omega)
    have hsa:(s.ab true).wf:=⟨hw.h,hw.b,hw.c,hw.k⟩;have hza:(s.ab true).zn 200:=⟨by have:=hf.h;unfold S.ab;simp only;omega,by have:=hf.b;unfold S.ab;simp only;omega,by unfold S.ab;simp,by have:=hf.c;unfold S.ab;simp only;omega,λc hc=>by have:=hf.l c hc;omega⟩
    have bN:(ng k s c.rf r).length<=100:=by
     unfold ng gB;split<;>split<;>(try split)<;>(try split)<;>simp<;>omega
    obtain⟨a',p1,p2,p3,p4⟩:=apy nm k sz ot (decide (ng k s c.rf r=[])) (ng k s c.rf r) (s.ab true) bN hsa hza;have hS:=af0 a' (r.st.ab true) (p3.sz (by decide)).sm
    have he:(a'.pl==(r.st.ab true).pl)=true:=by
     rw[p1,hp.2];simp
    rw[he]at hS;rw[hp.1]at p4;obtain⟨lc,hlc⟩:∃x,x=(ng k s c.rf r).map Cp.row:=⟨_,rfl⟩;simp only[m9]at iC;rw[<-hlc]at iC p4;generalize decide (ng k s c.rf r=[])=JG at *;clear hlc bN p1 he hp;rw[Ob]at hW BO iC;simp only[S.ab,S.row,Cl.row,Ry.row,qD,gn]at hG hn BO hW Wp hB iC p4 hS⊢;simp[Cu,wg,hG,hn,BO,hW,Wp,hB,iC,p4,hS,Ih,az,aq,br,aY,bg,ak,cut,bt,an,V.aZ]
  .rw[hb]at hn
   simp only[S.row,Cl.row]at hG hn⊢;simp[Cu,wg,hG,hn,Ih,az,aq]
 .rw[hg]at hG
  simp only[S.row,Cl.row]at hG hn⊢;simp[Cu,wg,hG,Ih,az,aq]
theorem atv(nm:D)(k sz ot:Int)(s:S)(c:Cl)(hk:¬(k=1\/k=2\/k=4\/k=5\/k=6\/k=7\/k=8\/k=9)):
  ev P (.call Ed [.d (.ag [nm,I' k,I' sz,I' ot]),.d (.ag s.row),.d (.ag c.row)] [])=some (.val (.d (.b true)) []):=by
 have wg:=an7 hk;have hG:=Yh s;rw[au Xz rfl];simp only[S.row]at hG⊢;cases hg:s.xR<;>rw[hg]at hG<;>simp[Cu,Cl.row,wg,hG,Ih,az,aq]
end Go.VS.Sp
namespace Go.VS.Sp
theorem atw(nm:D)(k sz ot:Int)(s:S)(c:Cl)(hw:s.wf)(hq:s.qn=true->s.Q=[]):
  ev P (.call Ed [.d (.ag [nm,I' k,I' sz,I' ot]),.d (.ag s.row),.d (.ag c.row)] [])=some (.val (.d (.b true)) []):=by
 by_cases hk:k=1\/k=2\/k=4\/k=5\/k=6\/k=7\/k=8\/k=9
 .rcases hk with rfl |rfl |rfl |rfl |rfl |rfl |rfl |rfl
  .exact BR nm 1 sz ot s c (.inl ⟨rfl,rfl,rfl,rfl,rfl,rfl⟩) hw hq (asS nm sz ot s c.rf)
  .exact BR nm 2 sz ot s c (.inr (.inl ⟨rfl,rfl,rfl,rfl,rfl,rfl⟩)) hw hq λhf iZ _=>asX nm sz ot s c.rf hf iZ
  .exact BR nm 4 sz ot s c (.inr (.inr (.inl ⟨rfl,rfl,rfl,rfl,rfl,rfl⟩))) hw hq λhf iZ _=>aq4 nm sz ot s c.rf hf iZ
  .exact BR nm 5 sz ot s c (.inr (.inr (.inr (.inl ⟨rfl,rfl,rfl,rfl,rfl,rfl⟩)))) hw hq (ark nm sz ot s c.rf)
  .exact BR nm 6 sz ot s c (.inr (.inr (.inr (.inr (.inl ⟨rfl,rfl,rfl,rfl,rfl,rfl⟩))))) hw hq λhf iZ _=>asN nm sz ot s c.rf hf iZ
  .exact BR nm 7 sz ot s c (.inr (.inr (.inr (.inr (.inr (.inl ⟨rfl,rfl,rfl,rfl,rfl,rfl⟩)))))) hw hq λhf iZ _=>atu nm sz ot s c.rf hf iZ
  .exact BR nm 8 sz ot s c (.inr (.inr (.inr (.inr (.inr (.inr (.inl ⟨rfl,rfl,rfl,rfl,rfl,rfl⟩))))))) hw hq (arv nm sz ot s c.rf)
  .exact BR nm 9 sz ot s c (.inr (.inr (.inr (.inr (.inr (.inr (.inr ⟨rfl,rfl,rfl,rfl,rfl,rfl⟩))))))) hw hq λhf iZ _=>arc nm sz ot s c.rf hf iZ
 .exact atv nm k sz ot s c hk
end Go.VS.Sp
