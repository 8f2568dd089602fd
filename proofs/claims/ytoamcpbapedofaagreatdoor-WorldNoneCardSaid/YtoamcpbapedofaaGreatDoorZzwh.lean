/- Parts of the fP. No conditions. -/
import Derived.Test.YtoamcpbapedofaaGreatDoorZzwg
namespace Go.Proofs.YtoamcpbapedofaaGreatDoor
open _root_.List renaming all_eq_true->Iu,getD_eq_getElem?_getD->Ie,getElem?_append_left->Hu,getElem?_append_right->Hw,getElem?_eq_getElem->Hz,getElem?_eq_none->IX,getElem?_eq_some_iff->Ik,length_append->IZ,map_append->IY
open _root_.Nat renaming le_refl->Ho,le_succ->Ic,le_trans->Ii,lt_of_lt_of_le->Hq,pow_le_pow_right->I4,zero_le->Il
open _root_.Go.Proofs.Tryz hiding prog
open _root_.Go.Proofs.Tryz renaming prog->ay
set_option maxRecDepth 8000
set_option maxHeartbeats 8000000
section
structure dY (s s':Sh):Prop where
 bl:s'.aP.length=s.aP.length
 ql:∀ k,(s'.Q.rw k).length<=(s.Q.rw k).length
 fM:s'.B.count=s.B.count
 mu:s'.B.aJ=s.B.aJ
 c:s'.H.c=s.H.c
 ww:s'.H.ww=s.H.ww
theorem dY.refl (s:Sh):dY s s:=⟨rfl,fun _=>Ho _,rfl,rfl,rfl,rfl⟩
theorem dY.heap (s:Sh) {H:HS} (h:H.ww=s.H.ww/\H.c=s.H.c):dY s { s with H:=H }:=⟨rfl,fun _=>Ho _,rfl,rfl,h.2,h.1⟩
theorem pO (b:Bd) (k:Int):(b.rM k).count=b.count/\(b.rM k).aJ=b.aJ:=by
 unfold Bd.rM
 split<;>exact ⟨rfl,rfl⟩
section
variable {N:Nat} {s:Sh} {m:MS}
theorem zi (s:Sh) (m:MS) (o:bI):(kJ s m o).s=s:=by
 unfold kJ lQ jI iC
 repeat' split
 all_goals rfl
theorem zk (s:Sh) (m:MS) (d:MD):dY s (stepM s m d).s:=by
 cases d with
 | nil=>exact dY.refl s
 | jU o=>show dY s (kJ s m o).s;rw [zi];exact dY.refl s
 | once k=>exact ⟨rfl,fun _=>Ho _,(pO _ _).1,(pO _ _).2,rfl,rfl⟩
 | lM v c t =>
   simp only [stepM]
   repeat' split
   all_goals exact dY.refl s
 | add v t =>
   simp only [stepM]
   split<;>exact dY.refl s
 | lN c t =>
   simp only [stepM]
   split
   ·exact ⟨by simp,fun _=>Ho _,rfl,rfl,rfl,rfl⟩
   ·exact dY.refl s
 | iH c f t=>exact dY.heap s (nV _ _)
 | jV t=>exact ⟨rfl,fun _=>Ho _,rfl,rfl,rfl,rfl⟩
 | bU base f t =>
   simp only [stepM]
   split<;>exact dY.refl s
 | load o base=>exact dY.refl s
 | get o=>exact dY.refl s
 | lD v rd=>exact dY.refl s
 | last rd=>exact dY.heap s (Dy rd)
 | alloc o k =>
   simp only [stepM]
   split
   ·exact dY.heap s (uT k)
   ·exact dY.refl s
 | assign o k =>
   simp only [stepM]
   split
   ·exact dY.heap s (xJ k)
   ·exact dY.refl s
 | jW o all=>exact dY.heap s (xI _)
 | jX o k =>
   simp only [stepM]
   split
   ·exact dY.refl s
   ·exact ⟨rfl,fun j=>uO s.Q k j,rfl,rfl,rfl,rfl⟩
 | iq o k =>
   simp only [stepM]
   split
   ·exact dY.heap s (uT k)
   ·exact dY.refl s
 | dR sl c t =>
   cases sl with
   | nil =>
     refine ⟨rfl,fun j=>?_,rfl,rfl,rfl,rfl⟩
     show ((if s.Q.bg=0 then s.Q else s.Q.mO).rw j).length<=_
     split<;>exact Ho _
   | cons a r =>
     simp only [stepM]
     split
     ·exact dY.refl s
     ·exact dY.heap s (qj a)
 | fill o a=>exact dY.heap s (yY _ _)
 | zero o a i =>
   simp only [stepM]
   split
   ·exact dY.heap s (Az _ _)
   ·exact dY.heap s (sQ _ _ _)
theorem zl (s:Sh) (m:MS):dY s (iw s m).1:=by
 unfold iw
 split
 ·exact dY.refl s
 ·exact zk s _ _
theorem mZ.sh {M:Nat} {s':Sh} (h:mZ N s m) (hM:N<=M) (ho:s'.Q.bg<=M) (hq:eH s'):mZ M s' m:=⟨h.aH,h.dw,ho,Ii h.dQ hM,hq,Ii h.sp hM,h.rl,h.nx⟩
theorem CK.sh {M:Nat} {s':Sh} {c:CS} (h:CK N s c) (hM:N<=M) (k:dY s s') (ho:s'.Q.bg<=M) (hq:eH s'):CK M s' c :=
 ⟨k.bl.trans h.mu,h.mu1,h.bl,h.ce,h.rm,h.bY,h.aH,Ii h.fZ hM,Ii h.dr hM,Ii h.wa hM,ho,hq,fun j=>Ii (k.ql j) (Ii (h.ql j) hM),by rw [k.fM];exact ⟨h.fM.1,by have:=h.fM.2;omega⟩,h.ph⟩
structure kP (s s':Sh):Prop where
 bl:s'.aP.length=s.aP.length
 mu:s'.B.aJ=s.B.aJ
 c:s'.H.c=s.H.c
 ww:s'.H.ww=s.H.ww
theorem kP.refl (s:Sh):kP s s:=⟨rfl,rfl,rfl,rfl⟩
theorem xR (b:Bd) (k:Int):(b.iU k).aJ=b.aJ:=by
 unfold Bd.iU
 split<;>rfl
theorem kQ (s:Sh) (c:CS) (p:Nat) (t:CD) (ev:Option Ev):kP s (jr s c p t ev).s:=⟨rfl,xR _ _,rfl,rfl⟩
theorem zo (s:Sh) (c:CS) (d:CD):kP s (dM s c d).s:=by
 cases d with
 | lS=>exact kQ _ _ _ _ _
 | rQ=>exact kQ _ _ _ _ _
 | mW=>exact kQ _ _ _ _ _
 | off=>exact kQ _ _ _ _ _
 | kS v t =>
   simp only [dM]
   split
   ·exact ⟨rfl,rfl,(nV _ _).2,(nV _ _).1⟩
   ·exact kP.refl s
 | work =>
   simp only [dM]
   split<;>exact kP.refl s
 | box m =>
   simp only [dM]
   split
   ·exact ⟨by simp,rfl,rfl,rfl⟩
   ·exact kP.refl s
 | over =>
   simp only [dM]
   repeat' split
   all_goals exact ⟨rfl,rfl,rfl,rfl⟩
 | gJ b =>
   simp only [dM]
   split<;>exact ⟨rfl,rfl,rfl,rfl⟩
 | dR =>
   simp only [dM]
   split<;>exact ⟨rfl,rfl,rfl,rfl⟩
 | block sl =>
   cases sl with
   | nil=>exact ⟨rfl,rfl,rfl,rfl⟩
   | cons a r =>
     simp only [dM]
     split
     ·exact kP.refl s
     ·exact ⟨rfl,rfl,(qj a).2,(qj a).1⟩
 | je t =>
   simp only [dM]
   split<;>exact kP.refl s
 | _=>exact kP.refl s
theorem tq (s:Sh) (c:CS):kP s (bJ s c).s:=by
 unfold bJ
 split
 ·exact zo s c _
 ·split
  ·exact (kQ s { c with eF:=false,aW:=c.aW+1,aH:=1 - c.aH } 1 .lS (some (c.ev 2 (c.aW+1))):kP s (fD s c).s)
  ·exact kP.refl s
structure l7 (N:Nat) (x:WS):Prop where
 len:x.aJ.length=x.aT.aJ
 jc:∀ i m,x.aJ[i]?=some m->m.id=i/\mZ N x.s m
 aT:su N x.s x.aT
 aN:x.aN<=N
 aU:x.aU.length<=N
theorem WS.pR (x:WS) (ev:Option Ev):(x.dn ev).s=x.s/\(x.dn ev).aJ=x.aJ/\(x.dn ev).aT=x.aT/\(x.dn ev).aN=x.aN+1/\(x.dn ev).aU.length<=x.aU.length+1:=by
 cases ev with
 | none=>exact ⟨rfl,rfl,rfl,rfl,Ic _⟩
 | some e=>exact ⟨rfl,rfl,rfl,rfl,by simp [WS.dn]⟩
theorem l7.dn {x y:WS} {ev:Option Ev} (hl:y.aJ.length=y.aT.aJ) (hm:∀ i m,y.aJ[i]?=some m->m.id=i/\mZ (N+1) y.s m) (hc:su (N+1) y.s y.aT) (hp:y.aN<=N) (he:y.aU.length<=N):l7 (N+1) (y.dn ev):=by
 obtain ⟨e1,e2,e3,e4,e5⟩:=y.pR ev
 exact ⟨by rw [e2,e3];exact hl,by rw [e1,e2];exact hm,by rw [e1,e3];exact hc,by rw [e4];omega,by omega⟩
theorem zq {x:WS} (h:l7 N x) (hb:zL x.s.H) (iK:Nat):l7 (N+1) (dJ x iK):=by
 unfold dJ
 cases hw:x.aJ[iK]? with
 | some m =>
   obtain ⟨hid,hp⟩:=h.jc iK m hw
   have hk:=Ak hp
   have hs:=zl x.s m
   refine l7.dn (x:=x) (by show (x.aJ.set iK _).length=_;simpa using h.len) (fun i m' hi=>?_) ⟨h.aT.k.sh (Ic N) hs hk.1.bg hk.1.q,h.aT.nx⟩ h.aN h.aU
   by_cases e:iK=i
   ·subst e
    have hlt:=(Ik.1 hw).1
    have hi':(x.aJ.set iK (iw x.s m).2.1)[iK]?=some m':=hi
    rw [List.getElem?_set_self hlt] at hi'
    cases hi'
    exact ⟨hk.2.2.1.trans hid,hk.1⟩
   ·have hi':(x.aJ.set iK (iw x.s m).2.1)[i]?=some m':=hi
    rw [List.getElem?_set_ne e] at hi'
    obtain ⟨g1,g2⟩:=h.jc i m' hi'
    exact ⟨g1,g2.sh (Ic N) hk.1.bg hk.1.q⟩
 | none =>
   simp only
   split
   ·have hc:=yO h.aT hb
    refine l7.dn (x:=x) (by show x.aJ.length=(bJ x.s x.aT).c.aJ;rw [hc.2.1];exact h.len) (fun i m' hi=>?_) hc.1 h.aN h.aU
    obtain ⟨g1,g2⟩:=h.jc i m' hi
    exact ⟨g1,g2.sh (Ic N) hc.1.k.bg hc.1.k.q⟩
   ·refine l7.dn (x:=x) h.len (fun i m' hi=>?_) ?_ h.aN h.aU
    ·obtain ⟨g1,g2⟩:=h.jc i m' hi
     exact ⟨g1,g2.sh (Ic N) (Nat.le_succ_of_le g2.bg) g2.q⟩
    ·have g:=h.aT.k.more (Ic N)
     exact ⟨⟨g.mu,g.mu1,g.bl,g.ce,g.rm,g.bY,g.aH,g.fZ,g.dr,g.wa,g.bg,g.q,g.ql,g.fM,g.ph⟩,h.aT.nx⟩
end
end
section
open Go.RowKit
section
variable {o o':Ow} {w w' W W':World} {G:bK} {g:MG} {q:CG} {s s':Sh} {m:MS} {c:CS} {ev:Option Ev} {nv:Value} {I:List Nat}
theorem aj.zu (k0:aj ak w W) (k:aj (In o I) W W') (h0:I.contains 0=false) (h9:I.contains 49=false) (hz:∀ x,x<w.heap.size->o x=0\/o x=49):aj ak w W' :=
 k0.gW k (fun i hi hin=>(hz i hi).elim (fun e=>absurd hin (bP e h0)) (fun e=>absurd hin (bP e h9)))
theorem nD.gG (h:nD o w G g s m ev nv) (k:aj (In o I) w w') (h0:I.contains 0=false) (hi:I.contains (20+m.id)=false) (e:aG w o o') (hs:aZ o' w' G s') (hl:s'.aP.length=s.aP.length) (hc:s'.H.c=s.H.c):nD o' w' G g s' m ev nv:=by
 obtain ⟨pv,rv,h1,h2,h3⟩:=h.aO
 have k':=k.nO e
 obtain ⟨_,v,hb,_⟩:=id h.gB
 exact ⟨hs,⟨pv,rv,h1.aK k h.oM hi,(h2.ext e).aK k' h0,(h3.ext e).aK k' hi⟩,(e _ h1.lt).trans h.oM,h.dL.aK k h.oX hi,(e _ h.dL.lt).trans h.oX,(h.gB.ext e).aK k' h0 ((e _ hb.lt).trans h.zQ) hi,(e _ hb.lt).trans h.zQ,h.nt.aK k h.zS h0,(e _ h.nt.lt).trans h.zS,by rw [hl];exact h.qC,by rw [hl];exact h.box8,h.BG.trans hc.symm,h.nP,h.BH⟩
theorem fC.gG (h:fC o w G g s m) (k:aj (In o I) w w') (h0:I.contains 0=false) (hi:I.contains (20+m.id)=false) (hj:I.contains (30+m.id)=false) (e:aG w o o') (hs:aZ o' w' G s') (hl:s'.aP.length=s.aP.length) (hc:s'.H.c=s.H.c):fC o' w' G g s' m:=by
 obtain ⟨ev,nv,h1,hn⟩:=h
 exact ⟨ev,nv,h1.gG k h0 hi e hs hl hc,(hn.ext e).aK (k.nO e) h0 hj⟩
theorem bC.gG (h:bC o w G q s c ev nv) (k:aj (In o I) w w') (h5:I.contains 5=false) (e:aG w o o') (hs:aZ o' w' G s') (hl:s'.aP.length=s.aP.length):bC o' w' G q s' c ev nv:=by
 obtain ⟨v,h1,_⟩:=id h.bY
 have oK:=(e _ h1.lt).trans h.oK
 exact ⟨hs,h.aO.aK k h.oC h5,(e _ h.aO.lt).trans h.oC,(h.bY.ext e).aK oK (k.nO e) h5,oK,by rw [hl];exact h.box8⟩
theorem dB.gG (h:dB o w G q s c) (k:aj (In o I) w w') (h0:I.contains 0=false) (h5:I.contains 5=false) (h40:I.contains 40=false) (e:aG w o o') (hs:aZ o' w' G s') (hl:s'.aP.length=s.aP.length):dB o' w' G q s' c:=by
 obtain ⟨ev,nv,h1,hn⟩:=h
 exact ⟨ev,nv,h1.gG k h5 e hs hl,(hn.ext e).aK (k.nO e) h0 h40⟩
theorem fC.sh (h:fC o w G g s m):aZ o w G s:=by
 obtain ⟨ev,nv,h1,_⟩:=h
 exact h1.sh
theorem fC.qC (h:fC o w G g s m):m.id<s.aP.length/\s.aP.length<=8:=by
 obtain ⟨ev,nv,h1,_⟩:=h
 exact ⟨h1.qC,h1.box8⟩
theorem dB.sh (h:dB o w G q s c):aZ o w G s:=by
 obtain ⟨ev,nv,h1,_⟩:=h
 exact h1.sh
theorem dB.box8 (h:dB o w G q s c):s.aP.length<=8:=by
 obtain ⟨ev,nv,h1,_⟩:=h
 exact h1.box8
structure CW (w W:World) (o:Ow) (G:bK) (gs:List MG) (q:CG) (x:WS):Prop where
 aT:dB o W G q x.s x.aT
 len:gs.length=x.aJ.length
 jc:∀ (i:Nat) g m,gs[i]?=some g->x.aJ[i]?=some m->fC o W G g x.s m/\m.id=i
 pU:∀ b,b<w.heap.size->o b=0\/o b=49
 aB:aj ak w W
variable {gs:List MG} {x y:WS}
theorem CW.l9 (h:CW w W o G gs q x) (k:aj ak W W'):CW w W' o G gs q x :=
 ⟨h.aT.still k,h.len,fun i g m h1 h2=>⟨(h.jc i g m h1 h2).1.still k,(h.jc i g m h1 h2).2⟩,h.pU,h.aB.trans k⟩
theorem CW.gq (h:CW w W o G gs q x) (k:aj (In o I) W W') (hI:I.all (fun i=>decide (50<=i))=true) (e:aG W o o') (hf:fV o' W'):CW w W' o' G gs q x:=by
 have hge:∀ i,i<50->I.contains i=false:=fun i hi=>by
  rw [Bool.eq_false_iff]
  intro hc
  have:=Iu.1 hI i (by simpa using hc)
  simp at this;omega
 have hs:aZ o' W' G x.s:=h.aT.sh.move k (Iu.2 (fun i hi=>by have:=Iu.1 hI i hi;simp at this ⊢;omega)) h.aT.box8 e hf
 refine ⟨h.aT.gG k (hge 0 (by decide)) (hge 5 (by decide)) (hge 40 (by decide)) e hs rfl,h.len,fun i g m h1 h2=>?_,fun b hb=>by rw [e b (Hq hb h.aB.size)];exact h.pU b hb,h.aB.zu k (hge 0 (by decide)) (hge 49 (by decide)) h.pU⟩
 obtain ⟨g1,g2⟩:=h.jc i g m h1 h2
 have:=g1.qC
 exact ⟨g1.gG k (hge 0 (by decide)) (hge _ (by omega)) (hge _ (by omega)) e hs rfl rfl,g2⟩
theorem CW.dn (h:CW w W o G gs q x) (hy:y.s=x.s/\y.aJ=x.aJ/\y.aT=x.aT):CW w W o G gs q y:=by
 obtain ⟨e1,e2,e3⟩:=hy
 exact ⟨by rw [e1,e3];exact h.aT,by rw [e2];exact h.len,by rw [e1,e2];exact h.jc,h.pU,h.aB⟩
theorem CW.xU (h:CW w W o G gs q x) (hcp:Calls ay 335 #[au q.C] W (kL o W G q x.s x.aT)):Calls ay 335 #[au q.C] W fun e W'=>e = .returned (.tuple #[kZ (bJ x.s x.aT).ev,jM (bJ x.s x.aT).ev])/\∃ o',aG W o o'/\CW w W' o' G gs q (dJ x x.aJ.length)/\aj (In o dF) W W':=by
 refine hcp.mono ?_
 rintro e W' ⟨o',rfl,eo,hq,k⟩
 have hsh:=tq x.s x.aT
 refine ⟨rfl,o',eo,?_,k⟩
 have ew:dJ x x.aJ.length=({ x with s:=(bJ x.s x.aT).s,aT:=(bJ x.s x.aT).c }:WS).dn (bJ x.s x.aT).ev:=by
  unfold dJ
  rw [IX (Ho _)]
  simp only [if_true]
 rw [ew]
 have hcw:CW w W' o' G gs q { x with s:=(bJ x.s x.aT).s,aT:=(bJ x.s x.aT).c }:=by
  refine ⟨hq,h.len,fun j g' m' h1 h2=>?_,fun b hb=>by rw [eo b (Hq hb h.aB.size)];exact h.pU b hb,h.aB.zu k jC (by decide) h.pU⟩
  obtain ⟨g3,g4⟩:=h.jc j g' m' h1 h2
  have hj:=g3.qC
  exact ⟨g3.gG k jC (by simp [dF];omega) (by simp [dF];omega) eo hq.sh hsh.bl hsh.c,g4⟩
 obtain ⟨e1,e2,e3,_⟩:=WS.pR { x with s:=(bJ x.s x.aT).s,aT:=(bJ x.s x.aT).c } (bJ x.s x.aT).ev
 exact hcw.dn ⟨e1,e2,e3⟩
theorem CW.eF (h:CW w W o G gs q x):Calls ay 44 #[au q.C] W fun e W'=>e = .returned (.tuple #[])/\CW w W' o G gs q (dJ x (x.aJ.length+1))/\aj (In o [5]) W W':=by
 refine (xQ h.aT).mono ?_
 rintro e W' ⟨rfl,hq,k⟩
 refine ⟨rfl,?_,k⟩
 have ew:dJ x (x.aJ.length+1)=({ x with aT:={ x.aT with eF:=true } }:WS).dn none:=by
  unfold dJ
  rw [IX (by omega)]
  simp only
  rw [bT (by omega)]
 rw [ew]
 have hcw:CW w W' o G gs q { x with aT:={ x.aT with eF:=true } }:=by
  refine ⟨hq,h.len,fun j g' m' h1 h2=>?_,h.pU,h.aB.zu k rfl rfl h.pU⟩
  obtain ⟨g3,g4⟩:=h.jc j g' m' h1 h2
  have hj:=g3.qC
  exact ⟨g3.gG k rfl (by simp;omega) (by simp;omega) (aG.refl _ _) hq.sh rfl rfl,g4⟩
 obtain ⟨e1,e2,e3,_⟩:=WS.pR { x with aT:={ x.aT with eF:=true } } none
 exact hcw.dn ⟨e1,e2,e3⟩
end
end
section
attribute [local go_sem] Oper.semAt_some
open Go.RowKit
section
variable {o o':Ow} {w w':World} {G:bK} {s:Sh}
theorem uo (h:aZ o w G s) (id:Nat) (hid:id<s.aP.length) (a:Option Addr) (n c:Nat) (hn:1000<n):Calls ay 41 #[au G.S,ah (id:Int),.slice a n c] w fun e w'=>e = .returned (.tuple #[.pointer none,ah 3])/\w=w':=by
 obtain ⟨_,_,sa,sc,s4,_⟩:=h.sW
 have EX:(id:Int)<(s.aP.length:Int):=by omega
 have hid0:(0:Int)<=(id:Int):=by omega
 have hid1:¬ (s.aP.length:Int)<=(id:Int):=by omega
 have G7:(1000:Int)<(n:Int):=by omega
 generalize s.aP.length=bl at *
 clear h hid hn
 go_enter func41,ntmps41
 go_wp2_with fail
 go_ret2
 exact ⟨rfl,rfl⟩
end
end
section
open Go.RowKit
section
variable {o o':Ow} {w w' W W':World} {G:bK} {g:MG} {q:CG} {s s':Sh} {m:MS} {c:CS} {I:List Nat} {gs:List MG} {x y:WS} {N:Nat}
theorem CW.CV (h:CW w W o G gs q x) (k:aj ak W W') (e:aG W o o') (hm:fC o' W' G g x.s m) (hid:m.id=x.aJ.length):CW w W' o' G (gs++[g]) q { x with aJ:=x.aJ++[m] }:=by
 have k0:aj (In o []) W W':=k.bZ
 refine ⟨h.aT.gG k0 rfl rfl rfl e hm.sh rfl,by simp [h.len],fun i g' m' h1 h2=>?_,fun b hb=>by rw [e b (Hq hb h.aB.size)];exact h.pU b hb,h.aB.trans k⟩
 have h2':(x.aJ++[m])[i]?=some m':=h2
 by_cases hi:i<x.aJ.length
 ·rw [Hu hi] at h2'
  rw [Hu (by rw [h.len];exact hi)] at h1
  obtain ⟨g1,g2⟩:=h.jc i g' m' h1 h2'
  exact ⟨g1.gG k0 rfl rfl rfl e hm.sh rfl rfl,g2⟩
 ·have hl:=(Ik.1 h2').1
  simp at hl
  obtain rfl:i=x.aJ.length:=by omega
  rw [Hw (Ho _),Nat.sub_self] at h2'
  rw [Hw (by rw [h.len];exact Ho _),h.len,Nat.sub_self] at h1
  cases h1
  cases h2'
  exact ⟨hm,hid⟩
theorem CK.first {s:Sh} {c:aI} {n:Nat} (hok:c.ok=true) (hn:c.m=(n:Int)) (hl:s.aP.length=n) (hq:eH s) (ho:s.Q.bg=0) (hr:∀ k,s.Q.rw k=[]) (hb:s.B.count=0):su 0 s (CS.aS c n):=by
 have h:=dH hok
 refine ⟨⟨hl,⟨by show 1<=n;omega,by show n<=8;omega⟩,?_,?_,⟨?_,?_⟩,Il _,by show 0<2;decide,Ho _,Ho _,Ho _,by omega,hq,fun k=>by rw [hr k];exact Ho _,⟨by omega,by omega⟩,Il _⟩,trivial⟩
 ·show c.b.toNat<=4096;omega
 ·show c.c.toNat<=64;omega
 ·show 1<=c.s.toNat;omega
 ·show c.s.toNat<=4096;omega
end
end
section
attribute [local go_sem ↓] jB
attribute [local go_sem] Oper.semAt_some
open Go.RowKit
theorem Tryz.infoPMut:(ay.info? 40).map (fun i=>(i.zero,i.size,i.bytes))=some (some (.pointer none),1,8):=by kernel_rfl
def eP (o:Ow) (w:World) (v:Value) (gs:List MG):Prop:=w.ownsRow 0 40 1 v gs.length (gs.map fun g=>aF g.M)/\∀ b,v.ownBlock=some b->o b=97
section
variable {o o':Ow} {w w' W W':World} {G:bK} {gs:List MG} {q:CG} {x:WS} {v:Value} {a1 a2 a3 a4:Option Addr} {n1 n2 n3 n4 p1 p2 p3 p4:Nat}
theorem eP.aB {I:List Nat} (h:eP o W v gs) (k:aj (In o I) W W') (h97:I.contains 97=false) (e:aG W o o'):eP o' W' v gs:=by
 refine ⟨iP h.1 k (fun b hb=>bP (h.2 b hb) h97),fun b hb=>?_⟩
 obtain ⟨cur,hc⟩:=qx h.1 hb
 exact (e b (lt_of_block hc)).trans (h.2 b hb)
theorem eP.form (h:eP o W v gs):∃ a c,v = .slice a gs.length c/\∀ (i:Nat) g,gs[i]?=some g->∃ b,a=some ⟨b,0,none⟩/\W.cell? ⟨b,i,none⟩=some (au g.M):=by
 obtain ⟨a,c,rfl,_,_,_,hc⟩:=rG h.1
 refine ⟨a,c,rfl,fun i g hg=>?_⟩
 obtain ⟨b,e,hb,_⟩:=hc i (aF g.M) (by rw [List.getElem?_map,hg];rfl)
 exact ⟨b,e,hb⟩
theorem eP.grow {g:MG} {gs2:List MG} (h:eP o W v gs) (hc:CW w W o G gs2 q x) {N:Nat} (hN:W.cell? ⟨N,0,none⟩=some (aF g.M)) (hl:gs.length<=100):∃ b cap W5,(app9 #[82,82] 82 #[v,.slice (some ⟨N,0,none⟩) 1 1]).run ay W = .ok (.slice (some ⟨b,0,none⟩) (gs.length+1) cap) W5 /\
 ∃ o',aG W o o'/\CW w W5 o' G gs2 q x/\eP o' W5 (.slice (some ⟨b,0,none⟩) (gs.length+1) cap) (gs++[g])/\aj (In o [97]) W W5:=by
 obtain ⟨b,cap,W5,hrun,hown,hgr,hq⟩:=qw (P:=ay) W 82 82 40 (by kernel_rfl) Tryz.infoPMut rfl h.1 (N:=N) (u:=aF g.M) hN rfl (by decide) (by omega)
 have k:aj (In o [97]) W W5:=⟨hgr.os,hgr.tape,hgr.output,hgr.size,fun y hy hn=>hgr.block y hy (fun e=>hn (by
  have e':v.ownBlock=some y:=by first|exact e|exact e.symm
  unfold In
  rw [h.2 y e']
  simp))⟩
 have e:aG W o (o.put b 97):=by
  rcases hq with hq|hq
  ·exact Ow.gI (.inr (h.2 b hq))
  ·exact Ow.gI (.inl hq)
 have hlt:b<W5.heap.size:=by
  rcases hown.2 with ⟨e1,_⟩|⟨g',cap',cur,e1,_,hg',_⟩
  ·cases e1
  ·cases e1;exact lt_of_block hg'
 have hf:fV (o.put b 97) W5:=Ow.iV hc.aT.sh.iF k.size hlt
 refine ⟨b,cap,W5,hrun,o.put b 97,e,hc.gq k rfl e hf,⟨?_,fun b' hb'=>?_⟩,k⟩
 ·rw [IY,IZ]
  exact hown
 ·simp [Value.ownBlock] at hb'
  rw [<- hb']
  exact Ow.iy _ _ _
theorem xW (H:HS) (a:Nat):(H.kG a).1<=100:=by
 unfold HS.kG
 split
 ·unfold HS.nf HS.zG
  cases hh:zD (H.jE a) with
  | none=>exact Il _
  | some cf =>
    obtain ⟨c,f⟩:=cf
    obtain ⟨⟨hc,hf⟩,_⟩:=yF hh
    show f<=100
    have:2^(c+1)<=2^4:=I4 (by decide) (by omega)
    omega
 ·exact Il _
theorem xX (H:HS) (B:Nat):(H.fA B).length<=H.ww/2:=by
 unfold HS.fA
 split
 ·exact Il _
 ·rename_i e
  have hl:∀ a b c:Nat,(rH a b c).length=a:=fun a b c=>by simp [rH]
  rw [hl]
  have h2:2<=2^H.K.getD B 0:=by
   have:2^1<=2^H.K.getD B 0:=I4 (by decide) (by omega)
   exact this
  exact Nat.div_le_div_left h2 (by decide)
theorem dh.jl {D:Nat->Nat} {H:HS} (h:dh w D H):zL H:=by
 have hn:=h.Fz
 refine ⟨xW H,fun b=>Ii (xX H b) ?_⟩
 have:H.ww/2<=H.ww:=Nat.div_le_self _ _
 omega
structure gU (o0:Ow) (w W:World) (o:Ow) (G:bK) (gs:List MG) (q:CG) (x:WS):Prop extends CW w W o G gs q x where
 ex:∀ b,b<w.heap.size->o b=o0 b
section
variable {y:WS} {o0:Ow}
theorem gU.of {gs':List MG} {y':WS} (h:gU o0 w W o G gs q y) (h':CW w W' o' G gs' q y') (e:aG W o o'):gU o0 w W' o' G gs' q y':=⟨h',fun b hb=>(e b (Hq hb h.aB.size)).trans (h.ex b hb)⟩
theorem gU.l9 (h:gU o0 w W o G gs q y) (k:aj ak W W'):gU o0 w W' o G gs q y:=⟨h.toCW.l9 k,h.ex⟩
theorem eP.Dz {g:MG} {gs2:List MG} (h:eP o W v gs) (hc:gU o0 w W o G gs2 q y) {N:Nat} (hN:W.cell? ⟨N,0,none⟩=some (aF g.M)) (hl:gs.length<=100):∃ b cap W5,(app9 #[82,82] 82 #[v,.slice (some ⟨N,0,none⟩) 1 1]).run ay W = .ok (.slice (some ⟨b,0,none⟩) (gs.length+1) cap) W5 /\
 ∃ o',aG W o o'/\gU o0 w W5 o' G gs2 q y/\eP o' W5 (.slice (some ⟨b,0,none⟩) (gs.length+1) cap) (gs++[g])/\aj (In o [97]) W W5:=by
 obtain ⟨b,cap,W5,hrun,o',h1,h2,h3,h4⟩:=h.grow hc.toCW hN hl
 exact ⟨b,cap,W5,hrun,o',h1,hc.of h2 h1,h3,h4⟩
end
end
def dV (x:Nat × Ev):List Value:=[ah (x.1:Int),ah (x.2.iK:Int),ah (x.2.bM:Int),ah (x.2.op:Int),ah x.2.gy,ah (x.2.value:Int)]
def fU (o:Ow) (w:World) (v:Value) (l:List (Nat × Ev)):Prop:=w.ownsRow 0 49 6 v l.length (l.map dV).flatten/\∀ b,v.ownBlock=some b->o b=52
def jQ (G:bK) (q:CG) (x:WS) (mv ev:Value):List Value:=x.s.H.c.cells++[aF G.S,mv,aF q.C,ev,ah (x.aN:Int)]
structure aY (o0:Ow) (w W:World) (o:Ow) (G:bK) (gs:List MG) (q:CG) (x:WS) (Z:Nat):Prop where
 cw:gU o0 w W o G gs q x
 aO:∃ mv ev,aC W Z (jQ G q x mv ev) 84/\eP o W mv gs/\fU o W ev x.aU
 oZ:o Z=51
def Nz (o:Ow):Nat->Prop:=fun b=>o b≠0/\o b≠49
section
variable {o0 o o':Ow} {w w' W W' W'':World} {G:bK} {gs:List MG} {q:CG} {x y:WS} {v:Value} {Z:Nat} {I:List Nat} {l:List (Nat × Ev)}
theorem fU.aB (h:fU o W v l) (k:aj (In o I) W W') (h52:I.contains 52=false) (e:aG W o o'):fU o' W' v l :=
 ⟨iP h.1 k (fun b hb=>bP (h.2 b hb) h52),fun b hb=>(e b (World.ownsRow.lt h.1 b hb).2).trans (h.2 b hb)⟩
theorem fU.nil (o:Ow) (W:World):fU o W (.slice none 0 0) []:=⟨⟨rfl,.inl ⟨rfl,rfl⟩⟩,fun b hb=>by cases hb⟩
theorem eP.nil (o:Ow) (W:World):eP o W (.slice none 0 0) []:=⟨⟨rfl,.inl ⟨rfl,rfl⟩⟩,fun b hb=>by cases hb⟩
theorem mg:∀ r∈l.map dV,r.length=6:=fun r hr=>by
 obtain ⟨x,_,rfl⟩:=List.mem_map.1 hr;rfl
theorem fU.form (h:fU o W v l):∃ a c,v = .slice a l.length c/\(a=none->c=0)/\cZ W a l.length 6 (l.map dV):=by
 obtain ⟨a,c,e,hr,_⟩:=cZ.qY h.1 mg (by simp)
 refine ⟨a,c,e,fun ea=>?_,hr⟩
 rcases h.1.2 with ⟨e1,_⟩|⟨g',cap',cur,e1,_⟩
 ·rw [e1] at e;simp only [Value.slice.injEq] at e;exact e.2.2.symm
 ·rw [e1] at e;rw [ea] at e;simp only [Value.slice.injEq] at e;exact absurd e.1 (by simp)
theorem aj.nz (k:aj (In o I) W W') (h0:I.contains 0=false) (h49:I.contains 49=false):aj (Nz o) W W':=k.mono (fun b _ hb=>by
 unfold In at hb
 refine ⟨fun e=>?_,fun e=>?_⟩
 ·rw [e] at hb;simp at h0;exact h0 hb
 ·rw [e] at hb;simp at h49;exact h49 hb)
theorem aj.CX (k:aj ak W W'):aj (Nz o) W W':=k.mono (fun _ _ f=>f.elim)
theorem aj.nI (h:aj (Nz o) W W') (k:aj (Nz o') W' W'') (e:aG W o o'):aj (Nz o) W W'':=h.gW k (fun i hi hin=>by unfold Nz at *;rw [<- e i hi];exact hin)
theorem Nz.not {b:Nat} (h:o b=0\/o b=49):¬ Nz o b:=fun e=>h.elim e.1 e.2
theorem gU.gq (h:gU o0 w W o G gs q x) (k:aj (In o I) W W') (hI:I.all (fun i=>decide (50<=i))=true) (e:aG W o o') (hf:fV o' W'):gU o0 w W' o' G gs q x:=h.of (h.toCW.gq k hI e hf) e
theorem gU.iF (h:gU o0 w W o G gs q x):fV o W:=h.aT.sh.iF
theorem gU.dn (h:gU o0 w W o G gs q x) (hy:y.s=x.s/\y.aJ=x.aJ/\y.aT=x.aT):gU o0 w W o G gs q y:=⟨h.toCW.dn hy,h.ex⟩
theorem aY.still (h:aY o0 w W o G gs q x Z) (k:aj ak W W'):aY o0 w W' o G gs q x Z:=by
 obtain ⟨mv,ev,h1,h2,h3⟩:=h.aO
 exact ⟨h.cw.l9 k,⟨mv,ev,k.aO h1 (fun f=>f),h2.aB (I:=[]) k.bZ rfl (aG.refl _ _),h3.aB (I:=[]) k.bZ rfl (aG.refl _ _)⟩,h.oZ⟩
theorem aY.gq (h:aY o0 w W o G gs q x Z) (k:aj (In o I) W W') (hI:I.all (fun i=>decide (50<=i))=true) (h51:I.contains 51=false) (h52:I.contains 52=false) (h97:I.contains 97=false) (e:aG W o o') (hf:fV o' W'):aY o0 w W' o' G gs q x Z:=by
 obtain ⟨mv,ev,h1,h2,h3⟩:=h.aO
 exact ⟨h.cw.gq k hI e hf,⟨mv,ev,h1.aK k h.oZ h51,h2.aB k h97 e,h3.aB k h52 e⟩,(e _ h1.lt).trans h.oZ⟩
theorem aY.CY (h:aY o0 w W o G gs q x Z) (u:Obj) (i:Nat) (hi:53<=i):∃ o',aG W o o'/\aY o0 w (W.alloc u) o' G gs q x Z/\o' W.heap.size=i:=by
 have k:aj ak W (W.alloc u):=(aj.refl _ _).alloc _
 have e:aG W o (o.put W.heap.size i):=Ow.gI (.inl (Ho _))
 exact ⟨_,e,h.gq (I:=[]) k.bZ rfl rfl rfl rfl e (Ow.iV h.cw.iF k.size (by simp)),Ow.iy _ _ _⟩
theorem aY.put (h:aY o0 w W o G gs q x Z) (i:Nat) (u:Value) (hc:∀ mv ev,(jQ G q x mv ev).set i u=jQ G q y mv ev) (hy:y.s=x.s/\y.aJ=x.aJ/\y.aT=x.aT/\y.aU=x.aU):aY o0 w (W.setCell ⟨Z,i,none⟩ u) o G gs q y Z/\aj (In o [51]) W (W.setCell ⟨Z,i,none⟩ u):=by
 obtain ⟨mv,ev,h1,h2,h3⟩:=h.aO
 have kz:aj (only Z) W (W.setCell ⟨Z,i,none⟩ u):=(aj.refl _ _).put i u
 have k:aj (In o [51]) W (W.setCell ⟨Z,i,none⟩ u):=kz.jA h.oZ rfl
 refine ⟨⟨(h.cw.gq k rfl (aG.refl _ _) (h.cw.iF.later k.size)).dn ⟨hy.1,hy.2.1,hy.2.2.1⟩,⟨mv,ev,?_,h2.aB k rfl (aG.refl _ _),?_⟩,h.oZ⟩,k⟩
 ·rw [<- hc];exact h1.set i u
 ·rw [hy.2.2.2];exact h3.aB k rfl (aG.refl _ _)
theorem aY.cells (h:aY o0 w W o G gs q x Z):∃ ma mc ea ec,aC W Z (jQ G q x (.slice ma gs.length mc) (.slice ea x.aU.length ec)) 84/\eP o W (.slice ma gs.length mc) gs/\fU o W (.slice ea x.aU.length ec) x.aU/\(ea=none->ec=0)/\cZ W ea x.aU.length 6 (x.aU.map dV) /\
 ∀ (i:Nat) g,gs[i]?=some g->∃ b,ma=some ⟨b,0,none⟩/\W.cell? ⟨b,i,none⟩=some (au g.M):=by
 obtain ⟨mv,ev,h1,h2,h3⟩:=h.aO
 obtain ⟨ma,mc,rfl,hf⟩:=h2.form
 obtain ⟨ea,ec,rfl,hn,hr⟩:=h3.form
 exact ⟨ma,mc,ea,ec,h1,h2,h3,hn,hr,hf⟩
end
structure pV (w:World) (a:Option Addr) (n:Nat) (ps:List (List bI)):Prop where
 len:ps.length=n
 iD:∀ i p,ps[i]?=some p->∃ b off a' c',a=some ⟨b,off,none⟩/\w.cell? ⟨b,off+i,none⟩=some (.slice a' p.length c')/\(a'=none->c'=0)/\cZ w a' p.length 4 (bQ p)
theorem pV.still {w w':World} {a:Option Addr} {n:Nat} {ps:List (List bI)} (h:pV w a n ps) (k:aj ak w w'):pV w' a n ps :=
 ⟨h.len,fun i p hi=>by
  obtain ⟨b,off,a',c',e,h1,h2,h3⟩:=h.iD i p hi
  exact ⟨b,off,a',c',e,k.still h1,h2,h3.below k⟩⟩
def bD (c:aI) (ps:List (List bI)) (i:Nat):WS :=
 ⟨Sh.aS c c.b.toNat c.w.toNat c.c.toNat c.m.toNat,(List.range i).map (fun j=>MS.aS c j (ps.getD j [])),CS.aS c c.m.toNat,[],0⟩
def dO (c:aI) (ps:List (List bI)):WS:=bD c ps c.m.toNat
theorem uq (c:aI) (ps:List (List bI)) (i:Nat):bD c ps (i+1)={ bD c ps i with aJ:=(bD c ps i).aJ++[MS.aS c i (ps.getD i [])] }:=by
 unfold bD
 rw [List.range_succ,IY]
 rfl
def wE (o0:Ow) (w:World) (c:aI) (ps:List (List bI)) (e:Ending) (w':World):Prop :=
 (∃ (o:Ow) (G:bK) (gs:List MG) (q:CG) (Z:Nat),e = .returned (.tuple #[au Z,ah 0])/\aY o0 w w' o G gs q (dO c ps) Z/\w.heap.size<=Z/\∀ p∈ps,p.length<=1000) \/
 (e = .returned (.tuple #[.pointer none,ah 3])/\aj ak w w'/\∃ p∈ps,1000<p.length)
section
variable {o0:Ow} {w:World}
theorem uw (c:aI) (hok:c.ok=false) (v:Value) (hT:dW w):Calls ay 10 #[.agg c.cells.toArray,v] w fun e w'=>e = .returned (.tuple #[.pointer none,ah 1])/\aj ak w w':=by
 obtain ⟨W0,hW0⟩:∃ W',W'=w.alloc (.cells c.cells.toArray 23):=⟨_,rfl⟩
 have HK:Hid (aj ak w W0):=by rw [hW0];exact (aj.refl _ _).alloc _
 have HN:=aA (zf c hok W0 (hT.aB HK.out))
 have hb:=show aC W0 w.heap.size c.cells 23 by rw [hW0];exact aC.aS w _ _
 obtain ⟨c0,c1,c2,c3,c4,c5,c6⟩:=c
 simp only [aI.cells] at *
 clear hT hok
 have y0:=hb.cell 0 rfl;have y1:=hb.cell 1 rfl;have y2:=hb.cell 2 rfl;have y3:=hb.cell 3 rfl;have y4:=hb.cell 4 rfl;have y5:=hb.cell 5 rfl;have y6:=hb.cell 6 rfl
 have HW0:=aA hW0
 rw [hW0] at y0 y1 y2 y3 y4 y5 y6
 clear hW0 hb
 go_enter func10,ntmps10
 go_wp2_with fail
 rw [<- HW0.out]
 refine HN.out.mono ?_
 rintro e w1 ⟨rfl,k1⟩
 have HE:=aA (HK.out.trans k1)
 clear k1
 go_wp2_with fail
 go_ret2
 exact ⟨rfl,HE.out⟩
theorem qO (o0:Ow) (hz0:o0 2=0/\o0 1=0/\o0 11=0) (hT:dW w) (hS:fJ w) (hgl:2<w.heap.size/\1<w.heap.size/\11<w.heap.size) (c:aI) (hok:c.ok=true) (a:Option Addr) (n cp:Nat) (hn:c.m<(n:Int)) :
 Calls ay 10 #[.agg c.cells.toArray,.slice a n cp] w fun e w'=>e = .returned (.tuple #[.pointer none,ah 1])/\aj ak w w':=by
 obtain ⟨W0,hW0⟩:∃ W',W'=w.alloc (.cells c.cells.toArray 23):=⟨_,rfl⟩
 have k0:aj ak w W0:=by rw [hW0];exact (aj.refl _ _).alloc _
 have hcb:=show aC W0 w.heap.size c.cells 23 by rw [hW0];exact aC.aS w _ _
 have jl:=dH hok
 have nG:Hid (Calls ay 39 #[.agg c.cells.toArray] W0 fun e w'=>∃ (G:bK),e = .returned (.tuple #[au G.S,ah 0])/\aj ak W0 w'):=by
  refine (qG o0 hz0 c c.b.toNat c.w.toNat c.c.toNat c.m.toNat hok (by omega) (by omega) (by omega) (by omega) W0 (hT.aB k0) (hS.aB k0) ⟨Hq hgl.1 k0.size,Hq hgl.2.1 k0.size,Hq hgl.2.2 k0.size⟩).mono ?_
  rintro e w' ⟨o,G,rfl,_,_,_,g4⟩
  exact ⟨G,rfl,g4⟩
 obtain ⟨c0,c1,c2,c3,c4,c5,c6⟩:=c
 simp only [aI.cells] at *
 have y0:=hcb.cell 0 rfl;have y1:=hcb.cell 1 rfl;have y2:=hcb.cell 2 rfl;have y3:=hcb.cell 3 rfl;have y4:=hcb.cell 4 rfl;have y5:=hcb.cell 5 rfl;have y6:=hcb.cell 6 rfl
 have HW0:=aA hW0
 have HK:=aA k0
 have kN:=aA hcb
 rw [hW0] at y0 y1 y2 y3 y4 y5 y6
 have hn2:c2<(n:Int):=hn
 clear hW0 hcb k0 jl hT hS hgl hz0 hok hn
 go_enter func10,ntmps10
 go_wp2_with fail
 rw [<- HW0.out]
 refine nG.out.mono ?_
 rintro e w1 ⟨G,rfl,k1⟩
 have y2:=(k1.aO kN.out (fun f=>f)).cell 2 (v := ah c2) rfl
 have HE:=aA (HK.out.trans k1)
 clear k1
 go_wp2_with fail
 go_ret2
 exact ⟨rfl,HE.out⟩
theorem wF (c:aI) (ps:List (List bI)) (i:Nat):(bD c ps i).aJ.length=i:=by simp [bD]
theorem mD (o0:Ow) (hz:∀ b,o0 b=0\/o0 b=49) (hz0:o0 2=0/\o0 1=0/\o0 11=0) (hT:dW w) (hS:fJ w) (hgl:2<w.heap.size/\1<w.heap.size/\11<w.heap.size) (c:aI) (hok:c.ok=true) (ps:List (List bI)) (a:Option Addr) (n cp:Nat) (hp:pV w a n ps) (hn:(n:Int)<=c.m) :
 Calls ay 10 #[.agg c.cells.toArray,.slice a n cp] w (wE o0 w c ps):=by
 obtain ⟨W0,hW0⟩:∃ W',W'=w.alloc (.cells c.cells.toArray 23):=⟨_,rfl⟩
 have k0:aj ak w W0:=by rw [hW0];exact (aj.refl _ _).alloc _
 have hcb:=show aC W0 w.heap.size c.cells 23 by rw [hW0];exact aC.aS w _ _
 have jl:=dH hok
 obtain ⟨k,hk⟩:∃ k:Nat,c.m=(k:Int):=⟨c.m.toNat,by omega⟩
 have hk8:1<=k/\k<=8:=by omega
 have hkn:n<=k:=by omega
 have zx:(bD c ps 0).s.H.c=c:=rfl
 have tu:(bD c ps 0).s.aP.length=k:=by
  show (List.replicate c.m.toNat []).length=k
  rw [List.length_replicate];omega
 have nG:Hid (Calls ay 39 #[.agg c.cells.toArray] W0 fun e w'=>∃ (o:Ow) (G:bK),e = .returned (.tuple #[au G.S,ah 0])/\aZ o w' G (bD c ps 0).s/\(∀ x,x<W0.heap.size->o x=o0 x)/\aj ak W0 w'):=by
  refine (qG o0 hz0 c c.b.toNat c.w.toNat c.c.toNat c.m.toNat hok (by omega) (by omega) (by omega) (by omega) W0 (hT.aB k0) (hS.aB k0) ⟨Hq hgl.1 k0.size,Hq hgl.2.1 k0.size,Hq hgl.2.2 k0.size⟩).mono ?_
  rintro e w' ⟨o,G,rfl,g1,g2,_,g4⟩
  exact ⟨o,G,rfl,g1,g2,g4⟩
 have tC:Hid (∀ (w1:World) (o:Ow) (G:bK),aZ o w1 G (bD c ps 0).s->(∀ x,x<W0.heap.size->o x=o0 x)->aj ak W0 w1->Calls ay 40 #[au G.S] (w1.alloc (.cells (c.cells++[aF G.S,.slice none 0 0,.pointer none,.slice none 0 0,ah 0]).toArray 84)) fun e w'=>∃ (o':Ow) (q:CG),e = .returned (.tuple #[au q.C,ah 0])/\w'.cell? ⟨w1.heap.size,9,none⟩=some (.pointer none)/\w'.frozen? ⟨w1.heap.size,9,none⟩=false/\aj ak W0 w'/\W0.heap.size<=w1.heap.size/\aY o0 w (w'.setCell ⟨w1.heap.size,9,none⟩ (au q.C)) o' G [] q (bD c ps 0) w1.heap.size):=fun w1 o G hsh hlow hkk=>by
  obtain ⟨W2,hW2⟩:∃ W2,W2=w1.alloc (.cells (c.cells++[aF G.S,.slice none 0 0,.pointer none,.slice none 0 0,ah 0]).toArray 84):=⟨_,rfl⟩
  rw [<- hW2]
  have k2:aj ak w1 W2:=by rw [hW2];exact (aj.refl _ _).alloc _
  have hb2:aC W2 w1.heap.size (c.cells++[aF G.S,.slice none 0 0,.pointer none,.slice none 0 0,ah 0]) 84:=by rw [hW2];exact aC.aS w1 _ _
  have e2:aG w1 o (o.put w1.heap.size 51):=Ow.gI (.inl (Ho _))
  have f2:fV (o.put w1.heap.size 51) W2:=Ow.iV hsh.iF k2.size hb2.lt
  have hsh2:aZ (o.put w1.heap.size 51) W2 G (bD c ps 0).s:=hsh.move (I:=[]) k2.bZ rfl (by rw [tu];omega) e2 f2
  refine (wC hsh2 (by rw [tu];omega)).mono ?_
  rintro e w' ⟨o',q,rfl,e3,hco,_,k3⟩
  have hb3:=k3.aO hb2 (fun f=>f)
  have oZ:o' w1.heap.size=51:=(e3 _ hb2.lt).trans (Ow.iy _ _ _)
  have hkw:aj ak W0 w':=(hkk.trans k2).trans k3
  have hex:∀ b,b<w.heap.size->o' b=o0 b:=fun b hb=>by
   have h1:b<W0.heap.size:=Hq hb k0.size
   have h2:b<w1.heap.size:=Hq h1 hkk.size
   rw [e3 b (Hq h2 k2.size),e2 b h2]
   exact hlow b h1
  have hcs:CS.aS (bD c ps 0).s.H.c (bD c ps 0).s.aP.length=(bD c ps 0).aT:=by
   rw [tu,zx,show k=c.m.toNat by omega];rfl
  rw [hcs] at hco
  have hcw:gU o0 w w' o' G [] q (bD c ps 0):=⟨⟨hco,rfl,fun i g m hg _=>by simp at hg,fun b hb=>by rw [hex b hb];exact hz b,k0.trans hkw⟩,hex⟩
  have kz:aj (only w1.heap.size) w' (w'.setCell ⟨w1.heap.size,9,none⟩ (au q.C)):=(aj.refl _ _).put 9 _
  have kz1:=kz.jA (I:=[51]) oZ rfl
  exact ⟨o',q,rfl,hb3.cell 9 rfl,hb3.free 9,hkw,hkk.size,hcw.gq kz1 rfl (aG.refl _ _) (hcw.iF.later kz1.size),⟨.slice none 0 0,.slice none 0 0,hb3.set 9 _,eP.nil _ _,fU.nil _ _⟩,oZ⟩
 have G8:Hid (∀ b,o0 b=0\/o0 b=49):=hz
 have F8:=aA hp
 have F9:Hid (∀ (e:Ending) (w':World),wE o0 w c ps e w'->wE o0 w c ps e w'):=fun _ _ h=>h
 have uU:=aA tu
 have G9:=aA zx
 have HSL:Hid (∀ i,(bD c ps i).s=(bD c ps 0).s):=fun i=>rfl
 have eY:Hid (dO c ps=bD c ps k):=by unfold Hid dO;rw [show c.m.toNat=k by omega]
 obtain ⟨PO,zY⟩:∃ PO,PO=wE o0 w c ps:=⟨_,rfl⟩
 rw [<- zY]
 have Gf:Hid (∀ W (o:Ow) G gs q Z,aY o0 w W o G gs q (bD c ps k) Z->w.heap.size<=Z->(∀ j,j<k->(ps.getD j []).length<=1000)->PO (.returned (.tuple #[au Z,ah 0])) W):=fun W o G gs q Z h hZ hj=>by
  rw [zY]
  refine .inl ⟨o,G,gs,q,Z,rfl,by rw [eY.out];exact h,hZ,fun p hpm=>?_⟩
  obtain ⟨j,hjl,e⟩:=List.getElem_of_mem hpm
  have:=hj j (by have:=hp.len;omega)
  rw [Ie,Hz hjl] at this
  rw [<- e];exact this
 have HP2:Hid (∀ W i,aj ak w W->1000<(ps.getD i []).length->PO (.returned (.tuple #[.pointer none,ah 3])) W):=fun W i hkk hl=>by
  rw [zY]
  refine .inr ⟨rfl,hkk,ps.getD i [],?_,hl⟩
  by_cases hi:i<ps.length
  ·rw [Ie,Hz hi];exact List.getElem_mem _
  ·rw [Ie,IX (by omega)] at hl;exact absurd hl (by decide)
 clear zY F9 tu zx
 have He:Hid (∀ j,(bD c ps j).s.H.c=c):=fun _=>rfl
 obtain ⟨c0,c1,c2,c3,c4,c5,c6⟩:=c
 simp only at hk
 subst hk
 simp only [aI.cells] at hcb hW0 nG tC
 have y0:=hcb.cell 0 rfl;have y1:=hcb.cell 1 rfl;have y2:=hcb.cell 2 rfl;have y3:=hcb.cell 3 rfl;have y4:=hcb.cell 4 rfl;have y5:=hcb.cell 5 rfl;have y6:=hcb.cell 6 rfl
 have HW0:=aA hW0
 have HK:=aA k0
 have kN:=aA hcb
 have Gg:=aA hk8
 have Ep:Hid (w.heap.size<W0.heap.size):=hcb.lt
 rw [hW0] at y0 y1 y2 y3 y4 y5 y6
 have hnk:¬ (k:Int)<(n:Int):=by omega
 simp only [aI.cells]
 clear hW0 hcb k0 jl hT hS hgl hz0 hok hn hz hp hk8
 go_enter func10,ntmps10
 go_wp2_with fail
 rw [<- HW0.out]
 refine nG.out.mono ?_
 rintro e w1 ⟨o1,G,rfl,hsh1,hlow1,k1⟩
 have zX:=aA (tC.out w1 o1 G hsh1 hlow1 k1)
 have hb1:=k1.aO kN.out (fun f=>f)
 have y0:=hb1.cell 0 (v := ah c0) rfl;have y1:=hb1.cell 1 (v := ah c1) rfl;have y2:=hb1.cell 2 (v := ah (k:Int)) rfl;have y3:=hb1.cell 3 (v := ah c3) rfl;have y4:=hb1.cell 4 (v := ah c4) rfl;have y5:=hb1.cell 5 (v := ah c5) rfl;have y6:=hb1.cell 6 (v := ah c6) rfl
 clear hsh1 hlow1 k1 nG tC hb1
 go_wp2_with fail
 generalize w1.heap.size=Z at *
 refine zX.out.mono ?_
 rintro e w3 ⟨o3,q,rfl,z9,f9,k3,hZ,jw⟩
 obtain ⟨W4,sJ⟩:∃ W4,W4=w3.setCell ⟨Z,9,none⟩ (au q.C):=⟨_,rfl⟩
 rw [<- sJ] at jw
 have hb4:(w3.setCell ⟨Z,9,none⟩ (au q.C)).cell? ⟨w.heap.size,2,none⟩=some (ah (k:Int)) :=
  ((k3.aO kN.out (fun f=>f)).iG (a:=⟨Z,9,none⟩) (by have:=Ep.out;simp;omega) _).cell 2 rfl
 have Gh:=aA jw
 have Es:=aA sJ
 have Gi:Hid (w.heap.size<=Z):=by have:=Ep.out;show _<=_;omega
 clear jw k3 zX y0 y1 y2 y3 y4 y5 y6 hZ sJ
 go_wp2_with fail
 rw [<- Es.out]
 clear hb4 z9 f9 Es
 go_loopw [9,10,11,12,40] (fun _ _ _ _ iv wr=>∃ (i:Nat) (o:Ow) (gs:List MG),i<=k/\iv = ah i/\aY o0 w wr o G gs q (bD ⟨c0,c1,k,c3,c4,c5,c6⟩ ps i) Z/\gs.length=i/\∀ j,j<i->(ps.getD j []).length<=1000) (fun _ _ _ _ iv _=>k - (intOf iv).toNat)
 case atStart=>exact ⟨0,o3,[],Il _,rfl,Gh.out,rfl,fun j hj=>absurd hj (Nat.not_lt_zero j)⟩
 case round =>
  obtain ⟨i,o,gs,hi,rfl,jw,hgl,hlen⟩:=hrel
  by_cases hlt:i<k
  ·have wu:(i:Int)<(k:Int):=by omega
   have hi8:(i:Int)<=8:=by have:=Gg.out;omega
   have hi0:(0:Int)<=(i:Int):=by omega
   have Hf:=aA jw
   have jO:=aA hlen
   have Et:Hid (∃ pa pl pc,(ps.getD i []).length=pl/\(pa=none->pc=0)/\cZ wr pa pl 4 (bQ (ps.getD i []))/\((i<n/\∃ b off,a=some ⟨b,off,none⟩/\wr.cell? ⟨b,off+i,none⟩=some (.slice pa pl pc))\/(¬ i<n/\pa=none/\pl=0/\pc=0))):=by
    have hpw:=F8.out.still jw.cw.aB
    by_cases hin:i<n
    ·have hil:i<ps.length:=by rw [hpw.len];exact hin
     obtain ⟨b,off,a',c',e,h1,h2,h3⟩:=hpw.iD i (ps[i]'hil) (Hz hil)
     have eg:ps.getD i []=ps[i]'hil:=by rw [Ie,Hz hil];rfl
     rw [eg]
     exact ⟨a',_,c',rfl,h2,h3,.inl ⟨hin,b,off,e,h1⟩⟩
    ·have eg:ps.getD i []=[]:=by rw [Ie,IX (by rw [hpw.len];omega)];rfl
     rw [eg]
     exact ⟨none,0,0,rfl,fun _=>rfl,⟨rfl,fun h=>absurd h (Nat.lt_irrefl 0)⟩,.inr ⟨hin,rfl,rfl,rfl⟩⟩
   obtain ⟨pa,pl,pc,hpl,hnil,hrec,hcase⟩:=Et.out
   have hbl:(bD ⟨c0,c1,k,c3,c4,c5,c6⟩ ps i).s.aP.length=k:=uU.out
   have h8:=jw.cw.aT.box8
   have hsh:=jw.cw.aT.sh
   have HBAD:Hid (1000<pl->Calls ay 41 #[au G.S,ah (i:Int),.slice pa pl pc] wr fun e w'=>e = .returned (.tuple #[.pointer none,ah 3])/\wr=w'):=fun hl=>uo hsh i (by rw [hbl];exact hlt) pa pl pc hl
   have tH:Hid (pl<=1000->Calls ay 41 #[au G.S,ah (i:Int),.slice pa pl pc] wr fun e w'=>∃ (o':Ow) (g:MG),e = .returned (.tuple #[au g.M,ah 0])/\∃ ma mc,w'.cell? ⟨Z,8,none⟩=some (.slice ma i mc)/\(∀ u,(w'.alloc u).cell? ⟨Z,8,none⟩=some (.slice ma i mc)) /\
    ∃ b cap W8,(app9 #[82,82] 82 #[.slice ma i mc,.slice (some ⟨w'.heap.size,0,none⟩) 1 1]).run ay (w'.alloc (.cells #[au g.M] 40)) = .ok (.slice (some ⟨b,0,none⟩) (i+1) cap) W8/\W8.frozen? ⟨Z,8,none⟩=false/\W8.cell? ⟨Z,8,none⟩=some (.slice ma i mc) /\
    ∃ o8,aY o0 w (W8.setCell ⟨Z,8,none⟩ (.slice (some ⟨b,0,none⟩) (i+1) cap)) o8 G (gs++[g]) q (bD ⟨c0,c1,k,c3,c4,c5,c6⟩ ps (i+1)) Z):=fun hl=>by
    refine (xM hsh h8 i (by rw [hbl];exact hlt) (ps.getD i []) pl hpl.symm hl pa pc hrec hnil).mono ?_
    rintro e w' ⟨o',g,rfl,e1,g1,_,g3⟩
    obtain ⟨ma,mc,ea,ec,hb,hmv,hev,_⟩:=jw.cells
    rw [hgl] at hb hmv
    have Eu:=(e1 _ hb.lt).trans jw.oZ
    have hb':=g3.aO hb (fun f=>f)
    have EZ:gU o0 w w' o' G (gs++[g]) q (bD ⟨c0,c1,k,c3,c4,c5,c6⟩ ps (i+1)):=by
     rw [uq]
     exact jw.cw.of (jw.cw.CV g3 e1 g1 (by rw [wF];rfl)) e1
    have E5:eP o' w' (.slice ma i mc) gs:=hmv.aB (I:=[]) g3.bZ rfl e1
    have hev':fU o' w' (.slice ea (bD ⟨c0,c1,k,c3,c4,c5,c6⟩ ps i).aU.length ec) (bD ⟨c0,c1,k,c3,c4,c5,c6⟩ ps i).aU:=hev.aB (I:=[]) g3.bZ rfl e1
    have k7:aj ak w' (w'.alloc (.cells #[au g.M] 40)):=(aj.refl _ _).alloc _
    obtain ⟨b,cap,W8,hrun,o8,e8,hcw8,hmv8,k8⟩:=(E5.aB (I:=[]) k7.bZ rfl (aG.refl _ _)).Dz (EZ.l9 k7) (N:=w'.heap.size) ((aC.aS w' [aF g.M] 40).cell 0 rfl) (by omega)
    rw [hgl] at hrun hmv8
    have hb7:=k7.aO hb' (fun f=>f)
    have hb8:=hb7.aK k8 Eu rfl
    have hev8:=(hev'.aB (I:=[]) k7.bZ rfl (aG.refl _ _)).aB k8 rfl e8
    have Ew:o8 Z=51:=(e8 _ hb7.lt).trans Eu
    refine ⟨o',g,rfl,ma,mc,hb'.cell 8 rfl,fun u=>(hb'.alloc u).cell 8 rfl,b,cap,W8,hrun,hb8.free 8,hb8.cell 8 rfl,o8,?_⟩
    have kz:aj (only Z) W8 (W8.setCell ⟨Z,8,none⟩ (.slice (some ⟨b,0,none⟩) (i+1) cap)):=(aj.refl _ _).put 8 _
    have kz1:=kz.jA (I:=[51]) Ew rfl
    exact ⟨hcw8.gq kz1 rfl (aG.refl _ _) (hcw8.iF.later kz1.size),⟨.slice (some ⟨b,0,none⟩) (i+1) cap,.slice ea (bD ⟨c0,c1,k,c3,c4,c5,c6⟩ ps i).aU.length ec,hb8.set 8 _,hmv8.aB kz1 rfl (aG.refl _ _),hev8.aB kz1 rfl (aG.refl _ _)⟩,Ew⟩
   have zW:Hid (aj ak w wr):=jw.cw.aB
   have CZ:=aA hpl
   clear jw hlen hrec hnil hbl h8 hsh Et hpl
   rcases hcase with ⟨hin,b,off,rfl,hcell⟩|⟨hin,rfl,rfl,rfl⟩
   ·have E8:(i:Int)<(n:Int):=by omega
    by_cases hl:pl<=1000
    ·have HN:=aA (tH.out hl)
     clear tH HBAD
     go_wp2_with fail
     refine HN.out.mono ?_
     rintro e w6 ⟨o6,g,rfl,ma,mc,d1,d2,b8,cap8,W8,hrun,d3,d4,o8,hw8⟩
     have C9:=aA hw8
     clear hw8 HN hcell
     go_wp2_with fail
     go_roundw
     case rel=>exact ⟨i+1,o8,gs++[g],by omega,by go_num,C9.out,by simp [hgl],fun j hj=>by
      by_cases e:j=i
      ·rw [e,CZ.out];exact hl
      ·exact jO.out j (by omega)⟩
     case measure=>simp [intOf]<;>omega
    ·have HN:=aA (HBAD.out (by omega))
     have HE:=aA (HP2.out wr i zW.out (by rw [CZ.out];omega))
     clear tH HBAD
     go_wp2_with fail
     refine HN.out.mono ?_
     rintro e w6 ⟨rfl,rfl⟩
     clear HN hcell
     go_wp2_with fail
     exact HE.out
   ·have E8:¬ (i:Int)<(n:Int):=by omega
    have HN:=aA (tH.out (by decide))
    clear tH HBAD
    go_wp2_with fail
    refine HN.out.mono ?_
    rintro e w6 ⟨o6,g,rfl,ma,mc,d1,d2,b8,cap8,W8,hrun,d3,d4,o8,hw8⟩
    have C9:=aA hw8
    clear hw8 HN
    go_wp2_with fail
    go_roundw
    case rel=>exact ⟨i+1,o8,gs++[g],by omega,by go_num,C9.out,by simp [hgl],fun j hj=>by
     by_cases e:j=i
     ·rw [e,CZ.out];decide
     ·exact jO.out j (by omega)⟩
    case measure=>simp [intOf]<;>omega
  ·obtain rfl:i=k:=by omega
   have wu:¬ (i:Int)<(i:Int):=by omega
   have HE:=aA (Gf.out wr o G gs q Z jw Gi.out hlen)
   clear jw hlen hlt
   go_wp2_with fail
   exact HE.out
end
theorem Tryz.infoEvent:(ay.info? 49).map (fun i=>(i.zero,i.size,i.bytes))=some (some (.agg #[ah 0,ah 0,ah 0,ah 0,ah 0,ah 0]),6,48):=by kernel_rfl
section
variable {o0 o o':Ow} {w w' W W':World} {G:bK} {gs:List MG} {q:CG} {x y:WS} {v:Value} {Z:Nat} {I:List Nat} {l:List (Nat × Ev)}
theorem fU.grow (h:fU o W v l) (hc:gU o0 w W o G gs q x) {N:Nat} {p:Nat × Ev} (hN:∀ j u,(dV p)[j]?=some u->W.cell? ⟨N,j,none⟩=some u) (hl:l.length<=100000000):∃ b cap W5,(app9 #[37,37] 37 #[v,.slice (some ⟨N,0,none⟩) 1 1]).run ay W = .ok (.slice (some ⟨b,0,none⟩) (l.length+1) cap) W5 /\
 ∃ o',aG W o o'/\gU o0 w W5 o' G gs q x/\fU o' W5 (.slice (some ⟨b,0,none⟩) (l.length+1) cap) (l++[p])/\aj (In o [52]) W W5:=by
 obtain ⟨b,cap,W5,hrun,hown,hgr,hq⟩:=vX (P:=ay) W 37 37 49 (by kernel_rfl) Tryz.infoEvent rfl (by decide) h.1 (N:=N) (us:=dV p) hN rfl (by simp [dV,Value.oneCell']) (by decide) (by omega)
 have k:aj (In o [52]) W W5:=⟨hgr.os,hgr.tape,hgr.output,hgr.size,fun y hy hn=>hgr.block y hy (fun e=>hn (by
  have e':v.ownBlock=some y:=by first|exact e|exact e.symm
  unfold In
  rw [h.2 y e']
  simp))⟩
 have e:aG W o (o.put b 52):=by
  rcases hq with hq|hq
  ·exact Ow.gI (.inr (h.2 b hq))
  ·exact Ow.gI (.inl hq)
 have hlt:b<W5.heap.size:=by
  rcases hown.2 with ⟨e1,_⟩|⟨g',cap',cur,e1,_,hg',_⟩
  ·cases e1
  ·cases e1;exact lt_of_block hg'
 have hf:fV (o.put b 52) W5:=Ow.iV hc.iF k.size hlt
 refine ⟨b,cap,W5,hrun,o.put b 52,e,hc.gq k rfl e hf,⟨?_,fun b' hb'=>?_⟩,k⟩
 ·rw [IY,IZ,List.flatten_append]
  simpa using hown
 ·simp [Value.ownBlock] at hb'
  rw [<- hb']
  exact Ow.iy _ _ _
theorem wG (h:aY o0 w W o G gs q x Z):Calls ay 43 #[au Z,ah (gs.length:Int)] W fun e W'=>e = .returned (.iface 42 (au q.C))/\W=W':=by
 obtain ⟨ma,mc,ea,ec,hb,_⟩:=h.cells
 have y8:=hb.cell 8 (v := .slice ma gs.length mc) rfl
 have y9:=hb.cell 9 (v := au q.C) rfl
 have hnl:¬ (gs.length:Int)<(gs.length:Int):=by omega
 generalize gs.length=n at *
 clear h hb
 go_enter func43,ntmps43
 go_wp2_with fail
 go_ret
 exact ⟨rfl,rfl⟩
theorem wH (h:aY o0 w W o G gs q x Z) {i:Nat} (hi:gs.length<i):Calls ay 43 #[au Z,ah (i:Int)] W fun e W'=>e = .returned .nilIface/\W=W':=by
 obtain ⟨ma,mc,ea,ec,hb,_⟩:=h.cells
 have y8:=hb.cell 8 (v := .slice ma gs.length mc) rfl
 have hnl:¬ (i:Int)<(gs.length:Int):=by omega
 have hne:((i:Int)==(gs.length:Int))=false:=by simp;omega
 generalize gs.length=n at *
 clear h hb hi
 go_enter func43,ntmps43
 go_wp2_with fail
 go_ret
 exact ⟨rfl,rfl⟩
end
end
end Go.Proofs.YtoamcpbapedofaaGreatDoor
