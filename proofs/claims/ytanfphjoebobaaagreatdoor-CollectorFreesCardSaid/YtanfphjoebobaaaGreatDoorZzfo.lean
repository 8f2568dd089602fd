/- Parts of the iy. No conditions. -/
import Derived.Test.YtanfphjoebobaaaGreatDoorZzfn
namespace Go.Proofs.YtanfphjoebobaaaGreatDoor
open _root_.Go.IntWalk renaming i64_in->ajw
open _root_.Go.World renaming drew->ajr
open _root_.List renaming drop_succ_cons->ajt,drop_zero->ajn,getD_eq_getElem?_getD->ajg,getElem?_eq_getElem->ajh,take_zero->ajs
open _root_.Go.Proofs.Tryz hiding prog
open _root_.Go.Proofs.Tryz renaming prog->aA
set_option maxRecDepth 8000
set_option maxHeartbeats 8000000
section
attribute [local go_sem] Oper.semAt_some
open Go.RowKit
section
variable {o o':Ow} {w w':World} {G:fU} {q:CG} {s:Sh} {c:CS} {ev:Option Ev} {nv nv0:Value}
theorem afJ {H:HS} {x jw:Nat} (hp:H.iG x jw=true):(if H.bn x&&decide (jw<2) then (0:Int) else 1)=0:=by
 unfold HS.iG at hp
 rw [Bool.and_eq_true] at hp
 rw [aZ hp.1]
theorem afK (h:bU o w G q s c none nv0) (hl:c.bD.length<=c.room) (hr:c.room<=4096) (x:Nat) (t:CD) (tv:Value) (ht:dK o w q.C t tv) (b0 b1 b2:Nat) (o0:o b0=0) (o1:o b1=0) (o2:o b2=0) (k0:aF w b0 [aJ q.C] 30) (k1:aF w b1 [ah (x:Int)] 3) (k2:aF w b2 [tv] 88) :
 Calls aA 244 #[au b0,au b1,au b2] w (dM o w G q nv0 (aN s c (.lC x t))):=by
 have HC:Hid (∀ V,aj (In o dD) w V->V.cell? ⟨b0,0,none⟩=some (au q.C)/\V.cell? ⟨b1,0,none⟩=some (ah (x:Int))/\V.cell? ⟨b2,0,none⟩=some tv):=fun V hV =>
  ⟨(hV.aH k0 (dR o0 iW)).cell 0 rfl,(hV.aH k1 (dR o1 iW)).cell 0 rfl,(hV.aH k2 (dR o2 iW)).cell 0 rfl⟩
 have hkd:aj aB w w.drew:=(aj.refl aB w).drew
 have hd:=h.still hkd
 obtain ⟨y0,y1,y2⟩:=HC.out w (aj.refl _ _)
 have y3:=h.c0
 have y4:w.cell? ⟨q.C,5,none⟩=some (ah (c.aP:Int)):=h.cell 5 _ rfl
 have y5:=h.sh.sC.1
 have hform:=ht.rJ
 have zy:Hid (Calls aA 216 #[au (G.D 0),ah (x:Int),ah (c.aP:Int)] w.drew fun e w'=>e = .returned (.tuple #[.bool (s.H.iG x c.aP),ah (if s.H.bn x&&decide (c.aP<2) then 0 else 1)])/\bU o w' G q { s with H:=s.H.eF x c.aP } c none nv0/\aj (In o dD) w w'):=by
  refine (Ld hd.sh.heap x c.aP).mono ?_
  rintro e w' ⟨rfl,g1,g2⟩
  obtain ⟨h1,k1⟩:=hd.wQ g2 g1
  exact ⟨rfl,h1,hkd.bV.trans k1⟩
 cases hp:s.H.iG x c.aP with
 | true =>
   have e1:aN s c (.lC x t)=⟨{ s with H:=s.H.eF x c.aP },{ c with dP:=true }.push x,t,none⟩:=by simp only [aN,hp,if_true]
   rw [hp,afJ hp] at zy
   have HS:Hid (∀ W,bU o W G q { s with H:=s.H.eF x c.aP } c none nv0->aj (In o dD) w W->∃ W1,W1=W.setCell ⟨q.C,8,none⟩ (.bool true)/\W.cell? ⟨q.C,8,none⟩=some (.bool c.dP)/\W.frozen? ⟨q.C,8,none⟩=false/\aj (In o dD) w W1/\W1.cell? ⟨q.C,9,none⟩=some (au q.K) /\
    Calls aA 245 #[au q.K,ah (x:Int)] W1.drew fun e w'=>(∃ b,e = .returned (.bool b))/\w'.cell? ⟨b2,0,none⟩=some tv/\iM o w G q nv0 (aN s c (.lC x t)) (.returned tv) w'):=fun W hW hk=>by
    obtain ⟨h1,k1⟩:=hW.put 8 (.bool true) { c with dP:=true } none nv0 rfl ⟨rfl,rfl,rfl⟩
    refine ⟨_,rfl,hW.cell 8 _ rfl,hW.free 8,hk.trans (yh k1),h1.LW,?_⟩
    have kd:aj aB (W.setCell ⟨q.C,8,none⟩ (.bool true)) (W.setCell ⟨q.C,8,none⟩ (.bool true)).drew:=(aj.refl aB _).drew
    refine (aaf (h1.still kd) x hl hr).mono ?_
    rintro e w' ⟨hb,o',eo,h2,k2'⟩
    have kk:aj (In o dD) w w':=(hk.trans (yh k1)).trans (kd.bV.trans (yh k2'))
    have ew:bZ w o o':=fun b hb=>eo b (by have:=((hk.trans (yh k1)).trans kd.bV).size;omega)
    refine ⟨hb,(HC.out w' kk).2.2,o',tv,rfl,ew,?_,jW.of ?_,kk⟩
    ·rw [e1];exact h2
    ·rw [e1];exact dK.ext ew (ht) |>.bg (kk.yF ew) iW
   clear e1
   generalize aN s c (.lC x t)=R at *
   generalize { s with H:=s.H.eF x c.aP }=s' at *
   generalize c.aP=jw at *
   clear h hd hkd ht k0 k1 k2 o0 o1 o2 hp
   rcases hform with rfl|⟨fn,first,caps,rfl⟩
   all_goals
    go_enter func244,ntmps244
    go_wp2_with fail
    refine bG 12 rfl (by kernel_rfl) (by kernel_rfl) (fun K hK=>?_)
    change wpStill _ _ (ajr _) _ _ _
    simp only [List.take_succ_cons,ajs,ajt,ajn] at hK ⊢
    repeat still_step
    refine wpStill_nil ?_
    change ite _ (Oper.wp _ _ _ _ _ _) _
    go_simp
    refine zy.out.mono ?_
    rintro e w1 ⟨rfl,h1,k1⟩
    refine hK _ _ ?_
    clear hK K
    obtain ⟨W1,hW1,z8,f8,kk1,z9,hpush⟩:=HS.out w1 h1 k1
    clear y0 y1 y2 y3 y4 y5
    obtain ⟨y0,y1,y2⟩:=HC.out w1 k1
    obtain ⟨u0,u1,u2⟩:=HC.out W1 kk1
    have HPU:=ay hpush
    have HW1:=ay hW1
    clear h1 k1 zy HS HC kk1 hpush hW1
    repeat still_step
    refine wpStill_nil ?_
    go_wp2_with fail
    rw [<- HW1.out]
    clear y0 y1 y2 z8 f8
    go_wp2_with fail
    refine bG 5 rfl (by kernel_rfl) (by kernel_rfl) (fun K hK=>?_)
    change wpStill _ _ (ajr _) _ _ _
    simp only [List.take_succ_cons,ajs,ajt,ajn] at hK ⊢
    repeat still_step
    refine wpStill_nil ?_
    change ite _ (Oper.wp _ _ _ _ _ _) _
    go_simp
    refine HPU.out.mono ?_
    rintro e w2 ⟨⟨b,rfl⟩,v2,hp⟩
    refine hK _ _ ?_
    clear hK K
    have HP:=ay hp
    clear hp HPU u0 u1 u2 z9
    repeat still_step
    refine wpStill_nil ?_
    go_wp2_with fail
    go_ret
    exact ⟨_,rfl,by first|exact .inl rfl|exact .inr ⟨_,_,_,rfl⟩,HP.out⟩
 | false =>
   have e1:aN s c (.lC x t)=⟨s,c,t,none⟩:=by simp only [aN,hp];rfl
   have hsame:s.H.eF x c.aP=s.H:=by unfold HS.eF;rw [aT (by rw [hp];decide)]
   rw [hp,hsame] at zy
   have HE:Hid (∀ W,bU o W G q { s with H:=s.H } c none nv0->aj (In o dD) w W->iM o w G q nv0 (aN s c (.lC x t)) (.returned tv) W):=fun W hW hk=>by
    rw [e1]
    exact iM.same (r:=⟨s,c,t,none⟩) hW (ht.bg hk iW) hk
   clear e1
   generalize aN s c (.lC x t)=R at *
   obtain ⟨er,her⟩:∃ er:Int,er=if s.H.bn x&&decide (c.aP<2) then 0 else 1:=⟨_,rfl⟩
   rw [<- her] at zy
   have her2:er=0\/er=1:=by rw [her];split<;>simp
   generalize { s with H:=s.H }=s' at *
   generalize c.aP=jw at *
   clear h hd hkd ht k0 k1 k2 o0 o1 o2 hp hsame her
   rcases hform with rfl|⟨fn,first,caps,rfl⟩<;>rcases her2 with rfl|rfl
   all_goals
    go_enter func244,ntmps244
    go_wp2_with fail
    refine bG 12 rfl (by kernel_rfl) (by kernel_rfl) (fun K hK=>?_)
    change wpStill _ _ (ajr _) _ _ _
    simp only [List.take_succ_cons,ajs,ajt,ajn] at hK ⊢
    repeat still_step
    refine wpStill_nil ?_
    change ite _ (Oper.wp _ _ _ _ _ _) _
    go_simp
    refine zy.out.mono ?_
    rintro e w1 ⟨rfl,h1,k1⟩
    refine hK _ _ ?_
    clear hK K
    have HP:=ay (HE.out w1 h1 k1)
    clear y0 y1 y2 y3 y4 y5
    obtain ⟨y0,y1,y2⟩:=HC.out w1 k1
    clear h1 k1 zy HE HC
    repeat still_step
    refine wpStill_nil ?_
    go_wp2_with fail
    go_ret
    exact ⟨_,rfl,by first|exact .inl rfl|exact .inr ⟨_,_,_,rfl⟩,HP.out⟩
end
section
variable {o o':Ow} {w w':World} {G:fU} {q:CG} {s:Sh} {c:CS} {ev:Option Ev} {nv nv0:Value}
theorem afL (h:bU o w G q s c none nv0) (i:Nat) (hi:i<=100) (b0 b1:Nat) (k0:aF w b0 [aJ q.C] 30) (k1:aF w b1 [ah (i:Int)] 3) :
 Calls aA 209 #[au b0,au b1] w (dM o w G q nv0 (aN s c (.cell i))):=by
 have HC:Hid (∀ V,aj aB w V->V.cell? ⟨b0,0,none⟩=some (au q.C)/\V.cell? ⟨b1,0,none⟩=some (ah (i:Int))):=fun V hV =>
  ⟨(hV.aH k0 (fun f=>f)).cell 0 rfl,(hV.aH k1 (fun f=>f)).cell 0 rfl⟩
 obtain ⟨y0,y1⟩:=HC.out w (aj.refl _ _)
 have y3:=h.c0
 have y5:=h.sh.sC.1
 have HCE:Hid (∀ V,aj aB w V->Calls aA 57 #[au (G.D 0),ah (i:Int)] V fun e w'=>e = .returned (.tuple #[ah (s.H.jc (i:Int):Int),ah (s.H.qj (i:Int):Int)])/\V=w'):=fun V hV=>DI (h.still hV).sh.heap (i:Int)
 have HNC:Hid (∀ V,aj aB w V->Calls aA 168 #[au q.C,ah ((i:Int)+1)] V fun e w'=>∃ nv,e = .returned nv/\(dK o w' q.C (c.iI (i+1)) nv/\aj aB w w')/\aj aB V w'):=fun V hV=>by
  have h9:=h.still hV
  have g:=O0 (c:=c) h9.sh.iV q.C (i+1) (h9.cell 3 _ rfl)
  rw [show (((i+1:Nat)):Int)=(i:Int)+1 from by push_cast;rfl] at g
  refine g.mono ?_
  rintro e w' ⟨nv,rfl,g1,g2⟩
  exact ⟨nv,rfl,⟨g1,hV.trans g2⟩,g2⟩
 have KU:Hid (∀ V nv,dK o V q.C (c.iI (i+1)) nv/\aj aB w V->Calls aA 210 #[au q.C,ah (s.H.jc (i:Int):Int),nv] V fun e w'=>dM o w G q nv0 (aN s c (.cell i)) e w'/\aj aB w w'):=fun V nv hV =>
  dM.made2 (r:=aN s c (.cell i)) hV.2 (h.still hV.2) hV.2.bV (He (h.still hV.2).sh.iV q.C _ hV.1)
 have hwi:IntKind.i64.wrap ((i:Int)+1)=(i:Int)+1:=ajw _ (by omega)
 generalize aN s c (.cell i)=R at *
 generalize c.iI (i+1)=d at *
 generalize s.H.jc (i:Int)=v at *
 generalize s.H.qj (i:Int)=er at *
 clear h k0 k1
 go_enter func209,ntmps209
 go_wp2_with fail
 go_quiet (first|(go_at_call 57;exact Calls.quiet_of_same (iQ (HCE.out _ ((aj.refl aB w).drewN _)))))
 obtain ⟨V,hV⟩:∃ V,V=w.drewN nq:=⟨_,rfl⟩
 have HK:Hid (aj aB w V):=by rw [hV];exact (aj.refl _ _).drewN _
 rw [<- hV]
 clear hV y0 y1 y3 y5 nq HCE
 obtain ⟨y0,y1⟩:=HC.out V HK.out
 go_wp2_with fail
 go_region_held3 (fun W'=>W'.cell? ⟨b0,0,none⟩=some (au q.C)/\W'.cell? ⟨b1,0,none⟩=some (ah (i:Int)))
  (first
   | exact ⟨y0,y1⟩
   | exact HC.out _ jF.out
   | exact HC.out _ HX.out.2
   | exact HC.out _ HK.out.drew
   | fail "nR")
  (first
   | (go_at_call 168
      refine (HNC.out _ (by first|exact HK.out.drew|exact HK.out)).mono ?_
      rintro e w2 ⟨nv,rfl,hx,_⟩
      have HX:=ay hx
      clear hx)
   | (go_at_call 210
      refine (KU.out _ _ HX.out).mono ?_
      rintro e w3 ⟨⟨nv3,rfl,hf3,hp3⟩,k3⟩
      have jF:=ay k3
      have HP:=ay hp3
      have Dc:=ay hf3
      clear hp3 hf3 k3)
   | fail "qg")
 all_goals
  have hfm:=Dc.out
  rcases hfm with rfl|⟨fn2,first2,caps2,rfl⟩
  all_goals
   go_wp2_with fail
   go_ret
   exact ⟨_,rfl,by first|exact .inl rfl|exact .inr ⟨_,_,_,rfl⟩,HP.out⟩
end
section
variable {o o':Ow} {w w':World} {G:fU} {q:CG} {s:Sh} {c:CS} {ev:Option Ev} {nv nv0:Value}
theorem acB (h:bU o w G q s c none nv0) (a:Nat) (t:CD) (tv:Value) (ht:dK o w q.C t tv) (b0 b1 b2:Nat) (o0:o b0=0) (o1:o b1=0) (o2:o b2=0) (k0:aF w b0 [aJ q.C] 30) (k1:aF w b1 [ah (a:Int)] 3) (k2:aF w b2 [tv] 88) :
 Calls aA 256 #[au b0,au b1,au b2] w (dM o w G q nv0 (aN s c (.iD a t))):=by
 have HC:Hid (∀ V,aj (In o dD) w V->V.cell? ⟨b0,0,none⟩=some (au q.C)/\V.cell? ⟨b1,0,none⟩=some (ah (a:Int))/\V.cell? ⟨b2,0,none⟩=some tv):=fun V hV =>
  ⟨(hV.aH k0 (dR o0 iW)).cell 0 rfl,(hV.aH k1 (dR o1 iW)).cell 0 rfl,(hV.aH k2 (dR o2 iW)).cell 0 rfl⟩
 have hkd:aj aB w w.drew:=(aj.refl aB w).drew
 have hd:=h.still hkd
 obtain ⟨y0,y1,y2⟩:=HC.out w (aj.refl _ _)
 have y3:=h.c0
 have y5:=h.sh.sC.1
 have hform:=ht.rJ
 have EN:Hid (Calls aA 55 #[au (G.D 0),ah (a:Int)] w.drew fun e w'=>e = .returned (.tuple #[ah ((s.H.dh a).1:Int),ah ((s.H.dh a).2:Int)])/\bU o w' G q s c none nv0/\aj (In o dD) w w'):=by
  refine (Ee hd.sh.heap a).mono ?_
  rintro e w' ⟨rfl,g1,g2⟩
  obtain ⟨h1,k1⟩:=hd.wQ g2 g1
  exact ⟨rfl,h1,hkd.bV.trans k1⟩
 have HFD:Hid (∀ W,bU o W G q s c none nv0->aj (In o dD) w W->Calls aA 257 #[au q.C,ah (a:Int),ah 0,ah ((s.H.dh a).1:Int),tv] W (dM o w G q nv0 (aN s c (.iD a t)))):=fun W hW hk =>
  dM.made (r:=aN s c (.iD a t)) hW hk (LK hW.sh.iV q.C a 0 _ (ht.bg hk iW))
 generalize aN s c (.iD a t)=R at *
 generalize (s.H.dh a).1=n at *
 generalize (s.H.dh a).2=er at *
 clear h hd hkd ht k0 k1 k2 o0 o1 o2
 rcases hform with rfl|⟨fn,first,caps,rfl⟩
 all_goals
  go_enter func256,ntmps256
  go_wp2_with fail
  refine bG 8 rfl (by kernel_rfl) (by kernel_rfl) (fun K hK=>?_)
  change wpStill _ _ (ajr _) _ _ _
  simp only [List.take_succ_cons,ajs,ajt,ajn] at hK ⊢
  repeat still_step
  refine wpStill_nil ?_
  change ite _ (Oper.wp _ _ _ _ _ _) _
  go_simp
  refine EN.out.mono ?_
  rintro e w1 ⟨rfl,h1,k1⟩
  refine hK _ _ ?_
  clear hK K
  have wU:=ay (HFD.out w1 h1 k1)
  clear y0 y1 y2 y3 y5
  obtain ⟨y0,y1,y2⟩:=HC.out w1 k1
  clear h1 k1 EN HFD HC
  repeat still_step
  refine wpStill_nil ?_
  go_wp2_with fail
  refine wU.out.mono ?_
  rintro e w3 ⟨nv,rfl,hf,hp⟩
  have HP:=ay hp
  clear hp wU
  rcases hf with rfl|⟨fn2,first2,caps2,rfl⟩
  all_goals
   go_wp2_with fail
   go_ret
   exact ⟨_,rfl,by first|exact .inl rfl|exact .inr ⟨_,_,_,rfl⟩,HP.out⟩
theorem aer (h:bU o w G q s c none nv0) (a i n:Nat) (hi:i<n) (hn:n<=100) (t:CD) (tv:Value) (ht:dK o w q.C t tv) (b0 b1 b2 b3 b4:Nat) (o0:o b0=0) (o1:o b1=0) (o2:o b2=0) (o3:o b3=0) (o4:o b4=0) (k0:aF w b0 [aJ q.C] 30) (k1:aF w b1 [ah (a:Int)] 3) (k2:aF w b2 [ah (i:Int)] 3) (k3:aF w b3 [ah (n:Int)] 3) (k4:aF w b4 [tv] 88) :
 Calls aA 271 #[au b0,au b1,au b2,au b3,au b4] w (dM o w G q nv0 (aN s c (.field a i n t))):=by
 have HC:Hid (∀ V,aj (In o dD) w V->V.cell? ⟨b0,0,none⟩=some (au q.C)/\V.cell? ⟨b1,0,none⟩=some (ah (a:Int))/\V.cell? ⟨b2,0,none⟩=some (ah (i:Int))/\V.cell? ⟨b3,0,none⟩=some (ah (n:Int))/\V.cell? ⟨b4,0,none⟩=some tv):=fun V hV =>
  ⟨(hV.aH k0 (dR o0 iW)).cell 0 rfl,(hV.aH k1 (dR o1 iW)).cell 0 rfl,(hV.aH k2 (dR o2 iW)).cell 0 rfl,(hV.aH k3 (dR o3 iW)).cell 0 rfl,(hV.aH k4 (dR o4 iW)).cell 0 rfl⟩
 have hkd:aj aB w w.drew:=(aj.refl aB w).drew
 have hd:=h.still hkd
 obtain ⟨y0,y1,y2,y3,y4⟩:=HC.out w (aj.refl _ _)
 have y6:=h.c0
 have y5:=h.sh.sC.1
 have hform:=ht.rJ
 have ny:Hid (Calls aA 56 #[au (G.D 0),ah (a:Int),ah (i:Int)] w.drew fun e w'=>e = .returned (.tuple #[ah (s.H.eU a (i:Int):Int),ah (s.H.mY a (i:Int):Int)])/\bU o w' G q s c none nv0/\aj (In o dD) w w'):=by
  refine (OT hd.sh.heap a (i:Int)).mono ?_
  rintro e w' ⟨rfl,g1,g2⟩
  obtain ⟨h1,k1⟩:=hd.wQ g2 g1
  exact ⟨rfl,h1,hkd.bV.trans k1⟩
 have HNF:Hid (∀ W,bU o W G q s c none nv0/\aj (In o dD) w W->Calls aA 257 #[au q.C,ah (a:Int),ah ((i:Int)+1),ah (n:Int),tv] W fun e w'=>∃ nv,e = .returned nv/\dK o w' q.C (fA a (i+1) n t) nv/\bU o w' G q s c none nv0/\aj (In o dD) w w'):=fun W hW=>by
  have g:=LK hW.1.sh.iV q.C a (i+1) n (ht.bg hW.2 iW)
  rw [show (((i+1:Nat)):Int)=(i:Int)+1 from by push_cast;rfl] at g
  refine g.mono ?_
  rintro e w' ⟨nv,rfl,g1,g2⟩
  exact ⟨nv,rfl,g1,hW.1.still g2,hW.2.trans g2.bV⟩
 have KU:Hid (∀ V nv,dK o V q.C (fA a (i+1) n t) nv/\bU o V G q s c none nv0/\aj (In o dD) w V->Calls aA 210 #[au q.C,ah (s.H.eU a (i:Int):Int),nv] V fun e w'=>dM o w G q nv0 (aN s c (.field a i n t)) e w'/\aj (In o dD) w w'):=fun V nv hV =>
  dM.made2 (r:=aN s c (.field a i n t)) hV.2.2 hV.2.1 hV.2.2 (He hV.2.1.sh.iV q.C _ hV.1)
 have HDR:Hid (∀ V,bU o V G q s c none nv0/\aj (In o dD) w V->bU o V.drew G q s c none nv0/\aj (In o dD) w V.drew):=fun V hV=>⟨hV.1.still ((aj.refl aB V).drew),hV.2.trans ((aj.refl _ V).drew)⟩
 have hwi:IntKind.i64.wrap ((i:Int)+1)=(i:Int)+1:=ajw _ (by omega)
 generalize aN s c (.field a i n t)=R at *
 generalize fA a (i+1) n t=d at *
 generalize s.H.eU a (i:Int)=v at *
 generalize s.H.mY a (i:Int)=er at *
 clear h hd hkd ht k0 k1 k2 k3 k4 o0 o1 o2 o3 o4
 rcases hform with rfl|⟨fn,first,caps,rfl⟩
 ·skip
  go_enter func271,ntmps271
  go_wp2_with fail
  refine bG 9 rfl (by kernel_rfl) (by kernel_rfl) (fun K hK=>?_)
  change wpStill _ _ (ajr _) _ _ _
  simp only [List.take_succ_cons,ajs,ajt,ajn] at hK ⊢
  repeat still_step
  refine wpStill_nil ?_
  change ite _ (Oper.wp _ _ _ _ _ _) _
  go_simp
  refine ny.out.mono ?_
  rintro e w1 ⟨rfl,h1,k1⟩
  refine hK _ _ ?_
  clear hK K
  have bI:=ay (And.intro h1 k1)
  clear y0 y1 y2 y3 y4 y5 y6
  obtain ⟨y0,y1,y2,y3,y4⟩:=HC.out w1 k1
  clear h1 k1 ny
  repeat still_step
  refine wpStill_nil ?_
  go_wp2_with fail
  go_region_held3 (fun W'=>W'.cell? ⟨b0,0,none⟩=some (au q.C)/\W'.cell? ⟨b1,0,none⟩=some (ah (a:Int))/\W'.cell? ⟨b2,0,none⟩=some (ah (i:Int))/\W'.cell? ⟨b3,0,none⟩=some (ah (n:Int))/\W'.cell? ⟨b4,0,none⟩=some (.nilFunc))
   (first
    | exact ⟨y0,y1,y2,y3,y4⟩
    | exact HC.out _ jF.out
    | exact HC.out _ HX.out.2.2
    | exact HC.out _ (HDR.out _ bI.out).2
    | fail "nR")
   (first
    | (go_at_call 257
       refine (HNF.out _ (by first|exact HDR.out _ bI.out|exact bI.out)).mono ?_
       rintro e w2 ⟨nv,rfl,hx⟩
       have HX:=ay hx
       clear hx)
    | (go_at_call 210
       refine (KU.out _ _ HX.out).mono ?_
       rintro e w3 ⟨⟨nv3,rfl,hf3,hp3⟩,k3⟩
       have jF:=ay k3
       have HP:=ay hp3
       have Dc:=ay hf3
       clear hp3 hf3 k3)
    | fail "qg")
  all_goals
   have hfm:=Dc.out
   rcases hfm with rfl|⟨fn2,first2,caps2,rfl⟩
   all_goals
    go_wp2_with fail
    go_ret
    exact ⟨_,rfl,by first|exact .inl rfl|exact .inr ⟨_,_,_,rfl⟩,HP.out⟩
 ·skip
  go_enter func271,ntmps271
  go_wp2_with fail
  refine bG 9 rfl (by kernel_rfl) (by kernel_rfl) (fun K hK=>?_)
  change wpStill _ _ (ajr _) _ _ _
  simp only [List.take_succ_cons,ajs,ajt,ajn] at hK ⊢
  repeat still_step
  refine wpStill_nil ?_
  change ite _ (Oper.wp _ _ _ _ _ _) _
  go_simp
  refine ny.out.mono ?_
  rintro e w1 ⟨rfl,h1,k1⟩
  refine hK _ _ ?_
  clear hK K
  have bI:=ay (And.intro h1 k1)
  clear y0 y1 y2 y3 y4 y5 y6
  obtain ⟨y0,y1,y2,y3,y4⟩:=HC.out w1 k1
  clear h1 k1 ny
  repeat still_step
  refine wpStill_nil ?_
  go_wp2_with fail
  go_region_held3 (fun W'=>W'.cell? ⟨b0,0,none⟩=some (au q.C)/\W'.cell? ⟨b1,0,none⟩=some (ah (a:Int))/\W'.cell? ⟨b2,0,none⟩=some (ah (i:Int))/\W'.cell? ⟨b3,0,none⟩=some (ah (n:Int))/\W'.cell? ⟨b4,0,none⟩=some (.func (.func fn) first caps))
   (first
    | exact ⟨y0,y1,y2,y3,y4⟩
    | exact HC.out _ jF.out
    | exact HC.out _ HX.out.2.2
    | exact HC.out _ (HDR.out _ bI.out).2
    | fail "nR")
   (first
    | (go_at_call 257
       refine (HNF.out _ (by first|exact HDR.out _ bI.out|exact bI.out)).mono ?_
       rintro e w2 ⟨nv,rfl,hx⟩
       have HX:=ay hx
       clear hx)
    | (go_at_call 210
       refine (KU.out _ _ HX.out).mono ?_
       rintro e w3 ⟨⟨nv3,rfl,hf3,hp3⟩,k3⟩
       have jF:=ay k3
       have HP:=ay hp3
       have Dc:=ay hf3
       clear hp3 hf3 k3)
    | fail "qg")
  all_goals
   have hfm:=Dc.out
   rcases hfm with rfl|⟨fn2,first2,caps2,rfl⟩
   all_goals
    go_wp2_with fail
    go_ret
    exact ⟨_,rfl,by first|exact .inl rfl|exact .inr ⟨_,_,_,rfl⟩,HP.out⟩
end
section
variable {w w':World} {R X aO:Nat} {c:bK} {K:List Nat}
theorem O5 (h:nU w R X aO c K) (B:Nat) (hk:K.getD B 0=0):Calls aA 102 #[au R,ah (B:Int)] w fun e w'=>e = .returned (.tuple #[ah 0,.bool false])/\w=w':=by
 have hb:=h.aH
 obtain ⟨c0,c1,c2,c3,c4,c5,c6⟩:=c
 simp only [bK.cells,List.cons_append,List.nil_append] at hb
 have y7:=hb.cell 7 rfl
 have hs:=h.lU
 have hcap:=h.aO
 have Jh:(0:Int)<=(B:Int):=by omega
 rcases Nat.lt_or_ge B K.length with hB|hB
 ·obtain ⟨cur,OX,hcv⟩:=h.jh
  have z:=OX.cell B (hcv _ _ (uw hB))
  rw [hk] at z
  have d1:decide ((K.length:Int)<=(B:Int))=false:=gJ (by omega)
  have hBI:(B:Int)<(K.length:Int):=by omega
  generalize K.length=L at *
  clear h hb hk hs hB
  go_enter func102,ntmps102
  go_wp2_with fail
  go_ret2
  exact ⟨rfl,rfl⟩
 ·have d1:decide ((K.length:Int)<=(B:Int))=true:=fK (by omega)
  have hBI:(K.length:Int)<=(B:Int):=by omega
  generalize K.length=L at *
  clear h hb hk hs hB
  go_enter func102,ntmps102
  go_wp2_with fail
  go_ret2
  exact ⟨rfl,rfl⟩
theorem O6 (h:nU w R X aO c K) (B:Nat) (hk:K.getD B 0=0):Calls aA 63 #[au R,ah (B:Int)] w fun e w'=>e = .returned (.slice none 0 0)/\w=w':=by
 have uN:=ay (O5 h B hk)
 clear h hk
 go_enter func63,ntmps63
 go_wp2_with (go_at_call 102;refine uN.out.mono ?_;rintro e w1 ⟨rfl,rfl⟩)
 go_ret
 exact ⟨rfl,rfl⟩
end
theorem Hf {H:HS} {B:Nat} (h:H.K.getD B 0=0):H.bH B=[]:=by unfold HS.bH;rw [aZ h]
section
variable {o o':Ow} {w w':World} {G:fU} {q:CG} {s:Sh} {c:CS} {ev:Option Ev} {nv nv0:Value}
theorem aI.k4 {D:Nat->Nat} {H:HS} (h:aI w D H) {B:Nat} (hB:H.K.getD B 0≠0):B<H.K.length/\H.K.getD B 0<=4:=by
 have hBl:B<H.K.length:=by
  rcases Nat.lt_or_ge B H.K.length with g|g
  ·exact g
  ·rw [ajg,List.getElem?_eq_none g] at hB
   simp at hB
 refine ⟨hBl,?_⟩
 rw [ajg,ajh hBl]
 exact h.ji.le _ (List.getElem_mem hBl)
theorem Vw (h:bU o w G q s c ev nv) {R X aO:Nat} (ht:nU w R X aO s.H.c s.H.K) (B:Nat):Calls aA 63 #[au R,ah (B:Int)] w fun e w'=>∃ a cp,e = .returned (.slice a (s.H.bH B).length cp)/\dH o w' 3 (.slice a (s.H.bH B).length cp) (aS (s.H.bH B))/\aj aB w w':=by
 by_cases hk:s.H.K.getD B 0=0
 ·rw [Hf hk]
  refine (O6 ht B hk).mono ?_
  rintro e w' ⟨rfl,rfl⟩
  exact ⟨none,0,rfl,dH.nil _ _ _,aj.refl _ _⟩
 ·obtain ⟨hBl,hk4⟩:=h.sh.heap.k4 hk
  have h1:=JV ht s.H.ww B (s.H.K.getD B 0 - 1) h.sh.heap.cw hBl (by omega) (by omega) h.sh.heap.qQ h.sh.heap.sizes
  rw [show s.H.K.getD B 0 - 1+1=s.H.K.getD B 0 by omega] at h1
  have e1:s.H.bH B=mP (s.H.ww/2^(s.H.K.getD B 0)) (2^(s.H.K.getD B 0)) (B*s.H.ww):=by unfold HS.bH;rw [aT hk]
  have hn:=qH h.sh.heap.ji.ok h.sh.heap.ji.len h.sh.heap.cw
  have hle:s.H.ww/2^(s.H.K.getD B 0)<=256:=Nat.le_trans (Nat.div_le_self _ _) hn.2.2.2.1
  refine h1.mono ?_
  rintro e w2 ⟨v,rfl,ho,k2⟩
  have el:(s.H.bH B).length=s.H.ww/2^(s.H.K.getD B 0):=by rw [e1,wL]
  have hr:dH o w2 3 v (aS (s.H.bH B)):=by
   rw [e1]
   exact dH.yG ho (by omega) (fun b hb=>h.sh.iV b hb)
  obtain ⟨a,cp,rfl,_⟩:=id hr
  have el2:(aS (s.H.bH B)).length=(s.H.bH B).length:=by simp [aS]
  rw [el2] at hr ⊢
  exact ⟨a,cp,rfl,hr,k2⟩
theorem afM (h:bU o w G q s c none nv0) (b:Nat) (hb:b<=4096) (b0 b1:Nat) (k0:aF w b0 [aJ q.C] 30) (k1:aF w b1 [ah (b:Int)] 3) :
 Calls aA 285 #[au b0,au b1] w (dM o w G q nv0 (aN s c (.iy b))):=by
 have HC:Hid (∀ V,aj aB w V->V.cell? ⟨b0,0,none⟩=some (au q.C)/\V.cell? ⟨b1,0,none⟩=some (ah (b:Int))/\V.cell? ⟨q.C,0,none⟩=some (au G.S)/\V.cell? ⟨G.S,0,none⟩=some (au (G.D 0))):=fun V hV =>
  ⟨(hV.aH k0 (fun f=>f)).cell 0 rfl,(hV.aH k1 (fun f=>f)).cell 0 rfl,(h.still hV).c0,(h.still hV).sh.sC.1⟩
 obtain ⟨y0,y1,y2,y3⟩:=HC.out w (aj.refl _ _)
 have yK:Hid (∀ V,aj aB w V->Calls aA 62 #[au (G.D 0)] V fun e w'=>∃ R X aO,e = .returned (au R)/\nU w' R X aO s.H.c s.H.K/\aj aB w w'/\aj aB V w'):=fun V hV=>by
  refine (Bo (h.still hV).sh.heap).mono ?_
  rintro e w' ⟨R,X,aO,rfl,g1,g2⟩
  exact ⟨R,X,aO,rfl,g1,hV.trans g2,g2⟩
 have Hg:Hid (∀ V V' R X aO,nU V R X aO s.H.c s.H.K->aj aB V V'->nU V' R X aO s.H.c s.H.K):=fun V V' R X aO ht k=>by
  obtain ⟨g1,⟨cur,g2,g3⟩,g4,g5,g6⟩:=ht
  exact ⟨k.aH g1 (fun f=>f),⟨cur,k.aH g2 (fun f=>f),g3⟩,g4,g5,g6⟩
 have HSL:Hid (∀ V R X aO,aj aB w V->nU V R X aO s.H.c s.H.K->Calls aA 63 #[au R,ah (b:Int)] V fun e w'=>∃ a cp,e = .returned (.slice a (s.H.bH b).length cp)/\dH o w' 3 (.slice a (s.H.bH b).length cp) (aS (s.H.bH b))/\aj aB w w'/\aj aB V w'):=fun V R X aO hV ht=>by
  refine (Vw (h.still hV) ht b).mono ?_
  rintro e w' ⟨a,cp,rfl,g1,g2⟩
  exact ⟨a,cp,rfl,g1,hV.trans g2,g2⟩
 have HWK:Hid (∀ V,aj aB w V->Calls aA 275 #[au q.C,ah ((b:Int)+1)] V fun e w'=>∃ nv,e = .returned nv/\dK o w' q.C (c.iL (b+1)) nv/\aj aB w w'/\aj aB V w'):=fun V hV=>by
  have g:=O1 (c:=c) (h.still hV).sh.iV q.C (b+1) ((h.still hV).cell 2 _ rfl)
  rw [show (((b+1:Nat)):Int)=(b:Int)+1 from by push_cast;rfl] at g
  refine g.mono ?_
  rintro e w' ⟨nv,rfl,g1,g2⟩
  exact ⟨nv,rfl,g1,hV.trans g2,g2⟩
 have HST:Hid (∀ V a cp nv,aj aB w V->dH o V 3 (.slice a (s.H.bH b).length cp) (aS (s.H.bH b))->dK o V q.C (c.iL (b+1)) nv->Calls aA 286 #[au q.C,.slice a (s.H.bH b).length cp,nv] V fun e w'=>dM o w G q nv0 (aN s c (.iy b)) e w'/\aj aB w w'):=fun V a cp nv hV hr hc =>
  dM.made2 (r:=aN s c (.iy b)) hV (h.still hV) hV.bV (LM (h.still hV).sh.iV q.C hc hr)
 have HRS:Hid (∀ V V' v,dH o V 3 v (aS (s.H.bH b))->aj aB V V'->dH o V' 3 v (aS (s.H.bH b))):=fun V V' v h k=>h.still k
 have HCS:Hid (∀ V V' nv,dK o V q.C (c.iL (b+1)) nv->aj aB V V'->dK o V' q.C (c.iL (b+1)) nv):=fun V V' v h k=>h.still k
 have hwi:IntKind.i64.wrap ((b:Int)+1)=(b:Int)+1:=ajw _ (by omega)
 have gQ:Hid (aj aB w w.drew):=(aj.refl aB w).drew
 generalize aN s c (.iy b)=R at *
 generalize c.iL (b+1)=d at *
 generalize s.H.bH b=sl at *
 generalize s.H.c=cf at *
 generalize s.H.K=K at *
 clear h k0 k1
 go_enter func285,ntmps285
 go_wp2_with fail
 go_region_held3 (fun W'=>W'.cell? ⟨b0,0,none⟩=some (au q.C)/\W'.cell? ⟨b1,0,none⟩=some (ah (b:Int))/\W'.cell? ⟨q.C,0,none⟩=some (au G.S)/\W'.cell? ⟨G.S,0,none⟩=some (au (G.D 0)))
  (first
   | exact ⟨y0,y1,y2,y3⟩
   | exact HC.out _ gQ.out
   | fail "nR")
  (first
   | (go_at_call 62
      refine (yK.out _ gQ.out).mono ?_
      rintro e w2 ⟨R1,X1,cap1,rfl,ht1,kw,kv⟩
      have HT1:=ay ht1
      have gQ:=ay kw
      try have EK:=ay (HCS.out _ _ _ EK.out kv)
      clear ht1 kw kv)
   | (go_at_call 63
      refine (HSL.out _ _ _ _ gQ.out HT1.out).mono ?_
      rintro e w2 ⟨a1,cp1,rfl,hr1,kw,kv⟩
      have HR1:=ay hr1
      have gQ:=ay kw
      try have EK:=ay (HCS.out _ _ _ EK.out kv)
      clear hr1 kw kv)
   | (go_at_call 275
      refine (HWK.out _ gQ.out).mono ?_
      rintro e w2 ⟨nv2,rfl,hc2,kw,kv⟩
      have EK:=ay hc2
      have gQ:=ay kw
      try have HR1:=ay (HRS.out _ _ _ HR1.out kv)
      try have HT1:=ay (Hg.out _ _ _ _ _ HT1.out kv)
      clear hc2 kw kv)
   | (go_at_call 286
      refine (HST.out _ _ _ _ gQ.out HR1.out EK.out).mono ?_
      rintro e w3 ⟨⟨nv3,rfl,hf3,hp3⟩,k3⟩
      have gQ:=ay k3
      have HP:=ay hp3
      have Dc:=ay hf3
      clear hp3 hf3 k3)
   | fail "qg")
 all_goals
  have hfm:=Dc.out
  rcases hfm with rfl|⟨fn2,first2,caps2,rfl⟩
  all_goals
   go_wp2_with fail
   go_ret
   exact ⟨_,rfl,by first|exact .inl rfl|exact .inr ⟨_,_,_,rfl⟩,HP.out⟩
end
section
variable {o o':Ow} {w w':World} {G:fU} {q:CG} {s:Sh} {c:CS} {ev:Option Ev} {nv nv0:Value}
theorem afN (h:bU o w G q s c none nv0) (hl:c.bD.length<=c.room) (hr:c.room<=4096):Calls aA 208 #[au q.C] w (dM o w G q nv0 (aN s c .work)):=by
 have y9:=h.LW
 have hmf:=mV
 cases hx:c.bD.getLast? with
 | none =>
   have e1:aN s c .work=⟨s,c,.box 0,none⟩:=by simp only [aN,hx]
   have yL:=ay (SB h hx)
   have HB:Hid (∀ V,bU o V G q s c none nv0->aj aB w V->Calls aA 243 #[au q.C,ah 0] V (dM o w G q nv0 (aN s c .work))):=fun V hV hk=>by
    rw [e1]
    exact dM.made (r:=⟨s,c,.box 0,none⟩) hV hk.bV (JY hV.sh.iV q.C 0)
   generalize aN s c .work=R at *
   clear h hx e1
   go_enter func208,ntmps208
   go_wp2_with fail
   refine yL.out.mono ?_
   rintro e w1 ⟨rfl,h1,k1⟩
   have HB1:=ay (HB.out w1 h1 k1)
   clear h1 k1 HB yL y9
   go_wp2_with fail
   refine HB1.out.mono ?_
   rintro e w3 ⟨nv,rfl,hf,hp⟩
   have HP:=ay hp
   clear hp HB1
   rcases hf with rfl|⟨fn2,first2,caps2,rfl⟩
   all_goals
    go_wp2_with fail
    go_ret
    exact ⟨_,rfl,by first|exact .inl rfl|exact .inr ⟨_,_,_,rfl⟩,HP.out⟩
 | some a =>
   have e1:aN s c .work=⟨s,c.Cb,.iD a .work,none⟩:=by simp only [aN,hx]
   have yL:=ay (O4 h hl hr a hx)
   have HB:Hid (∀ V,bU o V G q s c.Cb none nv0->aj (In o [5]) w V->Calls aA 242 #[au q.C,ah (a:Int),sQ 208 q.C] V (dM o w G q nv0 (aN s c .work))):=fun V hV hk=>by
    rw [e1]
    exact dM.made (r:=⟨s,c.Cb,.iD a .work,none⟩) hV (yh hk) (Eh hV.sh.iV q.C a (t := .work) rfl)
   generalize aN s c .work=R at *
   generalize c.Cb=c' at *
   clear h hx e1 hl hr
   go_enter func208,ntmps208
   go_wp2_with fail
   refine yL.out.mono ?_
   rintro e w1 ⟨rfl,h1,k1⟩
   have HB1:=ay (HB.out w1 h1 k1)
   clear h1 k1 HB yL y9
   go_wp2_with fail
   refine HB1.out.mono ?_
   rintro e w3 ⟨nv,rfl,hf,hp⟩
   have HP:=ay hp
   clear hp HB1
   rcases hf with rfl|⟨fn2,first2,caps2,rfl⟩
   all_goals
    go_wp2_with fail
    go_ret
    exact ⟨_,rfl,by first|exact .inl rfl|exact .inr ⟨_,_,_,rfl⟩,HP.out⟩
theorem afO (_h:bU o w G q s c none nv0) (hk0:aj (In o dD) w w') (h':bU o w' G q s { c with over:=false } none nv0):Calls aA 274 #[au q.C] w' (dM o w G q nv0 (if c.phase=4 then ⟨s,{ c with over:=false },.jV,none⟩ else if c.dP then ⟨s,{ c with over:=false,phase:=4 },.jV,none⟩ else ⟨s,{ c with over:=false },.fP,none⟩)):=by
 have y4:w'.cell? ⟨q.C,4,none⟩=some (ah (c.phase:Int)):=h'.cell 4 _ rfl
 have y8:w'.cell? ⟨q.C,8,none⟩=some (.bool c.dP):=h'.cell 8 _ rfl
 have f4:=h'.free 4
 have hmf:=mV
 by_cases hp:c.phase=4
 ·rw [aZ hp]
  have d0:((c.phase:Int)==4)=true:=by rw [hp];rfl
  have HP:Hid (iM o w G q nv0 ⟨s,{ c with over:=false },.jV,none⟩ (.returned (sQ 283 q.C)) w'):=iM.same (r:=⟨s,{ c with over:=false },.jV,none⟩) h' rfl hk0
  generalize (⟨s,{ c with over:=false },.jV,none⟩:pO)=R at *
  generalize c.phase=ph at *
  generalize c.dP=fr at *
  clear _h h' hk0 hp
  go_enter func274,ntmps274
  go_wp2_with fail
  go_ret
  exact ⟨_,rfl,.inr ⟨_,_,_,rfl⟩,HP.out⟩
 ·rw [aT hp]
  have d0:((c.phase:Int)==4)=false:=by simp;omega
  by_cases hfr:c.dP=true
  ·rw [aZ hfr]
   obtain ⟨h2,k2⟩:=h'.put 4 (ah 4) { c with over:=false,phase:=4 } none nv0 rfl ⟨rfl,rfl,rfl⟩
   have HP:Hid (iM o w G q nv0 ⟨s,{ c with over:=false,phase:=4 },.jV,none⟩ (.returned (sQ 283 q.C)) (w'.setCell ⟨q.C,4,none⟩ (ah 4))):=iM.same (r:=⟨s,{ c with over:=false,phase:=4 },.jV,none⟩) h2 rfl (hk0.trans (yh k2))
   rw [hfr] at y8
   generalize (⟨s,{ c with over:=false,phase:=4 },.jV,none⟩:pO)=R at *
   generalize c.phase=ph at *
   clear _h h' hk0 hp h2 k2 hfr
   go_enter func274,ntmps274
   go_wp2_with fail
   go_ret
   exact ⟨_,rfl,.inr ⟨_,_,_,rfl⟩,HP.out⟩
  ·rw [aT hfr]
   have hfr2:c.dP=false:=by simpa using hfr
   have HP:Hid (iM o w G q nv0 ⟨s,{ c with over:=false },.fP,none⟩ (.returned (sQ 284 q.C)) w'):=iM.same (r:=⟨s,{ c with over:=false },.fP,none⟩) h' rfl hk0
   rw [hfr2] at y8
   generalize (⟨s,{ c with over:=false },.fP,none⟩:pO)=R at *
   generalize c.phase=ph at *
   clear _h h' hk0 hp hfr hfr2
   go_enter func274,ntmps274
   go_wp2_with fail
   go_ret
   exact ⟨_,rfl,.inr ⟨_,_,_,rfl⟩,HP.out⟩
theorem afP (h:bU o w G q s c none nv0) (hw:c.kK<=1000000000):Calls aA 260 #[au q.C] w (dM o w G q nv0 (aN s c .over)):=by
 have y0:=h.c0
 have s3:=h.sh.sC.2.2.2
 have KW:Hid (Calls aA 272 #[au G.Fl] w fun e w'=>e = .returned (.bool s.dw)/\bU o w' G q { s with dw:=false } c none nv0/\aj (In o dD) w w'):=by
  refine (Vl G.Fl s.dw h.sh.dw).mono ?_
  rintro e w' ⟨rfl,g1,g2⟩
  obtain ⟨h1,k1⟩:=h.IX g2 g1
  exact ⟨rfl,h1,k1⟩
 have HK:Hid (∀ W,bU o W G q { s with dw:=false } c none nv0->aj (In o dD) w W->W.cell? ⟨q.C,9,none⟩=some (au q.K)/\Calls aA 273 #[au q.K] W fun e w'=>e = .returned (.bool c.over)/\bU o w' G q { s with dw:=false } { c with over:=false } none nv0/\aj (In o dD) w w'):=fun W hW hk=>by
  refine ⟨hW.LW,(aag hW).mono ?_⟩
  rintro e w' ⟨rfl,h1,k1⟩
  exact ⟨rfl,h1,hk.trans (yh k1)⟩
 cases hcl:(!s.dw && !c.over) with
 | true =>
   obtain ⟨hfl,hov⟩:s.dw=false/\c.over=false:=by simpa using hcl
   have es:({ s with dw:=false }:Sh)=s:=by rw [<- hfl]
   have ec:({ c with over:=false }:CS)=c:=by rw [<- hov]
   have e1:aN s c .over=(if c.phase=4 then ⟨s,{ c with over:=false },.jV,none⟩ else if c.dP then ⟨s,{ c with over:=false,phase:=4 },.jV,none⟩ else ⟨s,{ c with over:=false },.fP,none⟩):=by
    simp only [aN,hcl,if_true]
    have ec2:({ c with over:=false,phase:=4 }:CS)={ c with phase:=4 }:=by rw [<- hov]
    rw [ec,ec2]
   rw [es,hfl] at KW
   rw [es,hov] at HK
   have HR:Hid (∀ W,bU o W G q s { c with over:=false } none nv0->aj (In o dD) w W->Calls aA 274 #[au q.C] W (dM o w G q nv0 (aN s c .over))):=fun W hW hk=>by
    rw [e1]
    exact afO h hk hW
   generalize aN s c .over=R at *
   generalize ({ c with over:=false }:CS)=c' at *
   clear h hcl hfl hov es ec e1
   go_enter func260,ntmps260
   go_wp2_with fail
   refine KW.out.mono ?_
   rintro e w1 ⟨rfl,h1,k1⟩
   obtain ⟨y9,hk9⟩:=HK.out w1 h1 k1
   have HK9:=ay hk9
   clear h1 k1 hk9 HK KW y0 s3
   go_wp2_with fail
   refine HK9.out.mono ?_
   rintro e w2 ⟨rfl,h2,k2⟩
   have HR2:=ay (HR.out w2 h2 k2)
   clear h2 k2 HR HK9 y9
   go_wp2_with fail
   refine HR2.out.mono ?_
   rintro e w3 ⟨nv,rfl,hf,hp⟩
   have HP:=ay hp
   clear hp HR2
   rcases hf with rfl|⟨fn2,first2,caps2,rfl⟩
   all_goals
    go_wp2_with fail
    go_ret
    exact ⟨_,rfl,by first|exact .inl rfl|exact .inr ⟨_,_,_,rfl⟩,HP.out⟩
 | false =>
   have e1:aN s c .over=⟨{ s with dw:=false },{ c with over:=false,dP:=true,kK:=c.kK+1 },c.iL 0,none⟩:=by simp only [aN,hcl];rfl
   have hcl2:s.dw=true\/(s.dw=false/\c.over=true):=by
    revert hcl
    cases s.dw<;>cases c.over<;>simp
   have HW:Hid (∀ W,bU o W G q { s with dw:=false } { c with over:=false } none nv0->aj (In o dD) w W->∃ W1 W2,W1=W.setCell ⟨q.C,8,none⟩ (.bool true)/\W2=W1.setCell ⟨q.C,12,none⟩ (ah ((c.kK:Int)+1))/\W.cell? ⟨q.C,8,none⟩=some (.bool c.dP)/\W.frozen? ⟨q.C,8,none⟩=false/\W1.cell? ⟨q.C,12,none⟩=some (ah (c.kK:Int))/\W1.frozen? ⟨q.C,12,none⟩=false /\
    Calls aA 275 #[au q.C,ah 0] W2 (dM o w G q nv0 (aN s c .over))):=fun W hW hk=>by
    obtain ⟨h1,k1⟩:=hW.put 8 (.bool true) { c with over:=false,dP:=true } none nv0 rfl ⟨rfl,rfl,rfl⟩
    obtain ⟨h2,k2⟩:=h1.put 12 (ah ((c.kK:Int)+1)) { c with over:=false,dP:=true,kK:=c.kK+1 } none nv0 (by show _=nJ G q _ _ _;unfold nJ;push_cast;rfl) ⟨rfl,rfl,rfl⟩
    refine ⟨_,_,rfl,rfl,hW.cell 8 _ rfl,hW.free 8,h1.cell 12 _ rfl,h1.free 12,?_⟩
    rw [e1]
    exact dM.made (r:=⟨{ s with dw:=false },{ c with over:=false,dP:=true,kK:=c.kK+1 },c.iL 0,none⟩) h2 (hk.trans (yh (k1.trans k2))) (O1 (c:=c) h2.sh.iV q.C 0 (h2.cell 2 _ rfl))
   have hw1:IntKind.i64.wrap ((c.kK:Int)+1)=(c.kK:Int)+1:=ajw _ (by omega)
   generalize aN s c .over=R at *
   generalize ({ c with over:=false }:CS)=c' at *
   generalize ({ s with dw:=false }:Sh)=s' at *
   generalize c.kK=wk at *
   generalize c.dP=fr at *
   generalize s.dw=fl at *
   generalize c.over=ov at *
   clear h hcl e1 hw
   rcases hcl2 with rfl|⟨rfl,rfl⟩
   all_goals
    go_enter func260,ntmps260
    go_wp2_with fail
    refine KW.out.mono ?_
    rintro e w1 ⟨rfl,h1,k1⟩
    obtain ⟨y9,hk9⟩:=HK.out w1 h1 k1
    have HK9:=ay hk9
    clear h1 k1 hk9 HK KW y0 s3
    go_wp2_with fail
    refine HK9.out.mono ?_
    rintro e w2 ⟨rfl,h2,k2⟩
    obtain ⟨W1,W2,hW1,hW2,z8,f8,z12,f12,hwk⟩:=HW.out w2 h2 k2
    have HWK:=ay hwk
    rw [hW1] at z12 f12
    have HW1:=ay hW1
    have HW2:=ay hW2
    clear h2 k2 HW HK9 y9 hwk hW1 hW2
    go_wp2_with fail
    rw [<- HW1.out,<- HW2.out]
    refine HWK.out.mono ?_
    rintro e w3 ⟨nv,rfl,hf,hp⟩
    have HP:=ay hp
    clear hp HWK
    rcases hf with rfl|⟨fn2,first2,caps2,rfl⟩
    all_goals
     go_wp2_with fail
     go_ret
     exact ⟨_,rfl,by first|exact .inl rfl|exact .inr ⟨_,_,_,rfl⟩,HP.out⟩
end
section
variable {o o':Ow} {w w':World} {G:fU} {q:CG} {s:Sh} {c:CS} {ev:Option Ev} {nv nv0:Value}
theorem aes (h:bU o w G q s c none nv0) (hq:s.Q.lU):Calls aA 297 #[au q.C] w (dM o w G q nv0 (aN s c .jR)):=by
 obtain ⟨W0,hW0⟩:∃ W',W'=w.alloc (.cells #[aJ q.C] 30):=⟨_,rfl⟩
 have hk:aj aB w W0:=by rw [hW0];exact (aj.refl _ _).alloc _
 have hb:aF W0 w.heap.size [aJ q.C] 30:=by rw [hW0];exact aF.bC w _ _
 have h0:=h.still hk
 have y0:=h0.c0
 have s2:=h0.sh.sC.2.2.1
 have z0:=hb.cell 0 (v := au q.C) rfl
 have HR:=ay (Xq G.Q s.Q W0 h0.sh.sJ hq)
 have hmf:=mV
 have o0:o w.heap.size=0:=h.sh.iV _ (Nat.le_refl _)
 have z1:=z0
 rw [hW0] at y0 s2 z0
 cases hr:s.Q.jR with
 | true =>
   rw [hr] at HR
   have HP:Hid (iM o w G q nv0 (aN s c .jR) (.returned (.func (.func 300) #[] #[au w.heap.size])) W0):=by
    have e1:aN s c .jR=⟨s,c,.off,none⟩:=by simp only [aN,hr,if_true]
    rw [e1]
    exact iM.same (r:=⟨s,c,.off,none⟩) h0 ⟨[w.heap.size],rfl,_,_,rfl,o0,hb,rfl⟩ hk.bV
   have HW:=ay hW0
   generalize aN s c .jR=R at *
   clear h hk hb h0 hW0 hr hq o0
   go_enter func297,ntmps297
   go_wp2_with fail
   rw [<- HW.out]
   refine HR.out.mono ?_
   rintro e w1 ⟨rfl,rfl⟩
   go_wp2_with fail
   go_ret
   exact ⟨_,rfl,.inr ⟨_,_,_,rfl⟩,HP.out⟩
 | false =>
   rw [hr] at HR
   have HP:Hid (iM o w G q nv0 (aN s c .jR) (.returned (sQ 292 q.C)) W0):=by
    have e1:aN s c .jR=⟨s,c,.eX,none⟩:=by simp only [aN,hr];rfl
    rw [e1]
    exact iM.same (r:=⟨s,c,.eX,none⟩) h0 rfl hk.bV
   have HW:=ay hW0
   generalize aN s c .jR=R at *
   clear h hk hb h0 hW0 hr hq o0
   go_enter func297,ntmps297
   go_wp2_with fail
   rw [<- HW.out]
   refine HR.out.mono ?_
   rintro e w1 ⟨rfl,rfl⟩
   go_wp2_with fail
   go_ret
   exact ⟨_,rfl,.inr ⟨_,_,_,rfl⟩,HP.out⟩
theorem aah (x:Qu):(x.any=none/\∀ k,k<4->x.rw k=[])\/∃ m y ys,m<4/\(∀ k,k<m->x.rw k=[])/\x.rw m=y::ys/\x.any=some (m,y.toNat):=by
 have f:∀ k,(match x.rw k with|[]=>(none:Option (Nat × Nat))|y::_=>some (k,y.toNat))=none↔x.rw k=[]:=fun k=>by cases x.rw k<;>simp
 have e:x.any=(List.range 4).findSome? fun k=>match x.rw k with|[]=>none|y::_=>some (k,y.toNat):=rfl
 have er:List.range 4=[0,1,2,3]:=rfl
 rw [er] at e
 cases h0:x.rw 0 with
 | cons y ys=>exact .inr ⟨0,y,ys,by decide,fun k hk=>absurd hk (Nat.not_lt_zero k),h0,by rw [e];simp [h0]⟩
 | nil =>
   cases h1:x.rw 1 with
   | cons y ys=>exact .inr ⟨1,y,ys,by decide,fun k hk=>(by have e:k=0:=(by omega);rw [e];exact h0),h1,by rw [e];simp [h0,h1]⟩
   | nil =>
     cases h2:x.rw 2 with
     | cons y ys=>exact .inr ⟨2,y,ys,by decide,fun k hk=>(by rcases (by omega:k=0\/k=1) with rfl|rfl<;>assumption),h2,by rw [e];simp [h0,h1,h2]⟩
     | nil =>
       cases h3:x.rw 3 with
       | cons y ys=>exact .inr ⟨3,y,ys,by decide,fun k hk=>(by rcases (by omega:k=0\/k=1\/k=2) with rfl|rfl|rfl<;>assumption),h3,by rw [e];simp [h0,h1,h2,h3]⟩
       | nil=>exact .inl ⟨by rw [e];simp [h0,h1,h2,h3],fun k hk=>by rcases (by omega:k=0\/k=1\/k=2\/k=3) with rfl|rfl|rfl|rfl<;>assumption⟩
theorem LX {D0 jw C:Nat} {sl:List Nat} {cv:Value} (hf:kJ o w) (hc:lF o w D0 40 cv sl jw):Calls aA 298 #[au C,cv] w fun e w'=>∃ fn first caps,e = .returned (.func (.func fn) first caps)/\jW o w' D0 C jw (.block sl) (.func (.func fn) first caps)/\aj aB w w':=by
 have hn:=kQ (o:=o) [([aJ C],30),([cv],260)] w hf
 have HE:Hid (jW o (eG w [([aJ C],30),([cv],260)]) D0 C jw (.block sl) (.func (.func 302) #[] #[aJ (w.heap.size+1),aJ w.heap.size])/\aj aB w (eG w [([aJ C],30),([cv],260)])):=by
  obtain ⟨b0,b1,e,⟨o0,k0⟩,⟨o1,k1⟩⟩:=caps2 hn.1
  simp only [vY,List.cons.injEq] at e
  obtain ⟨rfl,rfl,_⟩:=e
  exact ⟨⟨cv,hc.still hn.2,[w.heap.size+1,w.heap.size],rfl,_,_,rfl,o1,k1,_,_,rfl,o0,k0,rfl⟩,hn.2⟩
 have hmf:=mV
 have hcf:(cv = .pointer none)\/∃ C,cv=aJ C:=by
  rcases hc with ⟨h,_⟩|⟨C,_,_,h,_⟩
  ·exact .inl h
  ·exact .inr ⟨C,h⟩
 clear hn hf hc
 rcases hcf with rfl|⟨C1,rfl⟩
 all_goals
  go_enter func298,ntmps298
  go_wp2_with fail
  go_ret
  exact ⟨_,_,_,rfl,HE.out.1,HE.out.2⟩
theorem aeu (h:bU o w G q s c none nv0) (ho:s.Q.dS<=1000000000) (hq:rV s) (oG:c.aP<2):Calls aA 292 #[au q.C] w (dM o w G q nv0 (aN s c .eX)):=by
 have y0:=h.c0
 have s2:=h.sh.sC.2.2.1
 have hmf:=mV
 rcases aah s.Q with ⟨ha,hn⟩|⟨m,x,xs,hm,hn,hx,ha⟩
 ·have e1:aN s c .eX=⟨s,c,.jR,none⟩:=by simp only [aN,ha]
  have HA:=ay (Zo G.Q s.Q w h.sh.sJ hn)
  have HP:Hid (iM o w G q nv0 (aN s c .eX) (.returned (sQ 297 q.C)) w):=by
   rw [e1]
   exact iM.same (r:=⟨s,c,.jR,none⟩) h rfl (aj.refl _ _)
  generalize aN s c .eX=R at *
  clear h e1 ha hn ho hq oG
  go_enter func292,ntmps292
  go_wp2_with fail
  refine HA.out.mono ?_
  rintro e w1 ⟨rfl,rfl⟩
  go_wp2_with fail
  go_ret
  exact ⟨_,rfl,.inr ⟨_,_,_,rfl⟩,HP.out⟩
 ·obtain ⟨hx0,hxK⟩:=hq m x (by rw [hx];exact List.mem_cons_self)
  obtain ⟨n,rfl⟩:∃ n:Nat,x=(n:Int):=⟨x.toNat,by omega⟩
  rw [Int.toNat_natCast] at hxK ha
  have e1:aN s c .eX=⟨{ s with Q:=s.Q.take m },c,.block (s.H.bH n),none⟩:=by simp only [aN,ha]
  have HA:Hid (Calls aA 296 #[au G.Q] w fun e w'=>e = .returned (.tuple #[ah (n:Int),ah (m:Int),ah 0])/\bU o w' G q { s with Q:=s.Q.take m } c none nv0/\aj (In o dD) w w'):=by
   refine (abC G.Q s.Q m (n:Int) xs w h.sh.sJ hm hn hx ho).mono ?_
   rintro e w' ⟨rfl,g1,g2⟩
   obtain ⟨h1,k1⟩:=h.CQ g2 g1
   exact ⟨rfl,h1,k1⟩
  have HN:Hid (∀ W,bU o W G q { s with Q:=s.Q.take m } c none nv0->aj (In o dD) w W->(W.cell? ⟨q.C,0,none⟩=some (au G.S)/\W.cell? ⟨q.C,5,none⟩=some (ah (c.aP:Int))/\W.cell? ⟨G.S,0,none⟩=some (au (G.D 0))) /\
   Calls aA 266 #[au (G.D 0),ah (n:Int),ah (c.aP:Int)] W.drew fun e w'=>∃ C,e = .returned (.tuple #[au C,ah 0]) /\
    Hid (Calls aA 298 #[au q.C,au C] w' (dM o w G q nv0 (aN s c .eX)))):=fun W hW hk=>by
   have kd:aj aB W W.drew:=(aj.refl aB W).drew
   refine ⟨⟨hW.c0,hW.cell 5 _ rfl,hW.sh.sC.1⟩,(ach (H:=s.H) (hW.still kd).sh.heap n c.aP hxK oG).mono ?_⟩
   rintro e w2 ⟨V,gg,nn,cp,rfl,kV,hown,hnn,kV2,hb⟩
   have kWV:aj aB W V:=kd.trans kV
   have kW2:aj aB W w2:=kWV.trans kV2
   refine ⟨V.heap.size,rfl,?_⟩
   have hlt:V.heap.size<w2.heap.size:=hb.lt
   have hV0:=kWV.size
   have eo:bZ w o (o.put V.heap.size 40):=Ow.pF (.inl (by have:=hk.size;omega))
   have eoW:bZ W o (o.put V.heap.size 40):=Ow.pF (.inl (by omega))
   have eoV:bZ V o (o.put V.heap.size 40):=Ow.pF (.inl (Nat.le_refl _))
   have hf2:kJ (o.put V.heap.size 40) w2:=Ow.um hW.sh.iV kW2.size hlt
   have hM2:=hW.DJ kW2 eoW hf2
   have hrow:dH (o.put V.heap.size 40) w2 3 (.slice (some ⟨gg,0,none⟩) nn cp) (aS (s.H.bH n)):=((dH.yG hown (by omega) (fun b hb=>hW.sh.iV b (by have:=kd.size;omega))).ext eoV).still kV2
   have hcur:lF (o.put V.heap.size 40) w2 (G.D 0) 40 (aJ V.heap.size) (s.H.bH n) c.aP := .inr ⟨V.heap.size,n,_,rfl,Ow.qW _ _ _,hb,hrow⟩
   refine (LX (C:=q.C) hf2 hcur).mono ?_
   rintro e w3 ⟨fn,first,caps,rfl,hcn,k3⟩
   refine ⟨_,rfl,.inr ⟨_,_,_,rfl⟩,o.put V.heap.size 40,_,rfl,eo,?_,?_,(hk.trans kW2.bV).trans k3.bV⟩
   ·rw [e1];exact hM2.still k3
   ·rw [e1];exact hcn
  clear e1
  generalize aN s c .eX=R at *
  generalize c.aP=jw at *
  generalize ({ s with Q:=s.Q.take m }:Sh)=s' at *
  clear h ha hn hx hxK hx0 ho hq hm oG
  go_enter func292,ntmps292
  go_wp2_with fail
  refine HA.out.mono ?_
  rintro e w1 ⟨rfl,h1,k1⟩
  obtain ⟨⟨z0,z1,z2⟩,hnn⟩:=HN.out w1 h1 k1
  have Df:=ay hnn
  clear h1 k1 HN HA hnn y0 s2
  go_wp2_with fail
  refine bG 12 rfl (by kernel_rfl) (by kernel_rfl) (fun K hK=>?_)
  change wpStill _ _ (ajr _) _ _ _
  simp only [List.take_succ_cons,ajs,ajt,ajn] at hK ⊢
  repeat still_step
  refine wpStill_nil ?_
  change ite _ (Oper.wp _ _ _ _ _ _) _
  go_simp
  refine Df.out.mono ?_
  rintro e w2 ⟨C1,rfl,hb⟩
  refine hK _ _ ?_
  clear hK K
  have HB:=ay hb.out
  clear hb Df z0 z1 z2
  repeat still_step
  refine wpStill_nil ?_
  go_wp2_with fail
  refine HB.out.mono ?_
  rintro e w3 ⟨nv,rfl,hf,hp⟩
  have HP:=ay hp
  clear hp HB
  rcases hf with rfl|⟨fn2,first2,caps2,rfl⟩
  all_goals
   go_wp2_with fail
   go_ret
   exact ⟨_,rfl,by first|exact .inl rfl|exact .inr ⟨_,_,_,rfl⟩,HP.out⟩
end
section
variable {o o':Ow} {w w':World} {G:fU} {q:CG} {s:Sh} {c:CS} {ev:Option Ev} {nv nv0:Value}
theorem Ya {b:Nat} {xs:List Nat} (h:iE o w b 176 [] xs):Calls aA 259 #[au b] w fun e w'=>e = .returned (.tuple #[ah (dA xs:Int),.bool (!xs.isEmpty)])/\iE o w' b 176 [] xs.tail/\aj (only b) w w':=by
 have HT:Hid (Calls aA 246 #[au b] w fun e w'=>e = .returned (.tuple #[ah (dA xs:Int),.bool (!xs.isEmpty)])/\iE o w' b 176 [] xs.tail/\aj (only b) w w'):=by
  cases xs with
  | nil =>
    refine (Lp h).mono ?_
    rintro e w' ⟨rfl,rfl⟩
    exact ⟨rfl,h,aj.refl _ _⟩
  | cons x xs=>exact Jo x h
 generalize dA xs=hd at *
 generalize (!xs.isEmpty)=ok at *
 clear h
 go_enter func259,ntmps259
 go_wp2_with (go_at_call 246;refine HT.out.mono ?_;rintro e w1 ⟨rfl,h1,k1⟩;have HH:=ay h1;have HK:=ay k1;clear h1 k1)
 go_ret2
 exact ⟨rfl,HH.out,HK.out⟩
theorem aev {m:Nat} (hm:m<s.aV.length):s.aV[m]?=some (s.box m):=by
 unfold Sh.box
 rw [ajg,ajh hm]
 rfl
theorem fH.ahs (h:fH o w G s) {m:Nat} (hm:m<s.aV.length):∃ b off cp,w.cell? ⟨G.S,4,none⟩=some (.slice (some ⟨b,off,none⟩) s.aV.length cp)/\w.cell? ⟨b,off+m,none⟩=some (au (G.bx m)):=by
 obtain ⟨v,h1,h2⟩:=h.sh
 obtain ⟨a,cp,rfl,_,_,h3⟩:=h2.form
 simp only [List.length_map,List.length_range] at h1
 obtain ⟨b,off,rfl,h4⟩:=h3 m (aJ (G.bx m)) (by simp [hm])
 exact ⟨b,off,cp,h1.cell 4 rfl,h4⟩
theorem aht (h:bU o w G q s c none nv0) (m:Nat) (hm:m<c.aG) (hmu:s.aV.length=c.aG) (b0 b1:Nat) (o0:o b0=0) (o1:o b1=0) (k0:aF w b0 [aJ q.C] 30) (k1:aF w b1 [ah (m:Int)] 3) :
 Calls aA 258 #[au b0,au b1] w (dM o w G q nv0 (aN s c (.box m))):=by
 have HC:Hid (∀ V,aj (In o dD) w V->V.cell? ⟨b0,0,none⟩=some (au q.C)/\V.cell? ⟨b1,0,none⟩=some (ah (m:Int))):=fun V hV =>
  ⟨(hV.aH k0 (dR o0 iW)).cell 0 rfl,(hV.aH k1 (dR o1 iW)).cell 0 rfl⟩
 have hkd:aj aB w w.drew:=(aj.refl aB w).drew
 have hd:=h.still hkd
 obtain ⟨y0,y1⟩:=HC.out w (aj.refl _ _)
 have y3:=h.c0
 have hmb:m<s.aV.length:=by omega
 obtain ⟨bb,off,cp,y4,y5⟩:=h.sh.ahs hmb
 have hgb:=aev (s:=s) hmb
 have hbx:=(hd.sh.box m _ hgb).1
 have rX:Hid (Calls aA 259 #[au (G.bx m)] w.drew fun e w'=>e = .returned (.tuple #[ah (dA (s.box m):Int),.bool (!(s.box m).isEmpty)])/\bU o w' G q { s with aV:=s.aV.set m (s.box m).tail } c none nv0/\aj (In o dD) w w'):=by
  refine (Ya hbx).mono ?_
  rintro e w' ⟨rfl,g1,g2⟩
  obtain ⟨h1,k1⟩:=hd.Si hmb g2 g1
  exact ⟨rfl,h1,hkd.bV.trans k1⟩
 have hmf:=mV
 have aiD:(m:Int)<(s.aV.length:Int):=by omega
 have Jh:(0:Int)<=(m:Int):=by omega
 have h8:=h.box8
 generalize hN:s.aV.length=N at *
 cases hb:s.box m with
 | cons a l =>
   rw [hb] at rX
   have e1:aN s c (.box m)=⟨{ s with aV:=s.aV.set m l },c,fC a (.box m),none⟩:=by simp only [aN,hb]
   simp only [dA,List.isEmpty_cons,Bool.not_false,List.tail_cons] at rX
   have zq:Hid (∀ V,bU o V G q { s with aV:=s.aV.set m l } c none nv0/\aj (In o dD) w V->Calls aA 243 #[au q.C,ah (m:Int)] V fun e w'=>∃ nv,e = .returned nv/\dK o w' q.C (.box m) nv/\bU o w' G q { s with aV:=s.aV.set m l } c none nv0/\aj (In o dD) w w'):=fun V hV=>by
    refine (JY hV.1.sh.iV q.C m).mono ?_
    rintro e w' ⟨nv,rfl,g1,g2⟩
    exact ⟨nv,rfl,g1,hV.1.still g2,hV.2.trans g2.bV⟩
   have KU:Hid (∀ V nv,dK o V q.C (.box m) nv/\bU o V G q { s with aV:=s.aV.set m l } c none nv0/\aj (In o dD) w V->Calls aA 210 #[au q.C,ah (a:Int),nv] V fun e w'=>dM o w G q nv0 (aN s c (.box m)) e w'/\aj (In o dD) w w'):=fun V nv hV=>by
    rw [e1]
    exact dM.made2 hV.2.2 (r:=⟨{ s with aV:=s.aV.set m l },c,fC a (.box m),none⟩) hV.2.1 hV.2.2 (He hV.2.1.sh.iV q.C _ hV.1)
   have HDR:Hid (∀ V,bU o V G q { s with aV:=s.aV.set m l } c none nv0/\aj (In o dD) w V->bU o V.drew G q { s with aV:=s.aV.set m l } c none nv0/\aj (In o dD) w V.drew):=fun V hV=>⟨hV.1.still ((aj.refl aB V).drew),hV.2.trans ((aj.refl _ V).drew)⟩
   clear e1
   generalize aN s c (.box m)=R at *
   generalize ({ s with aV:=s.aV.set m l }:Sh)=s' at *
   clear h hd hkd k0 k1 o0 o1 hbx hgb hb hm hmu hmb
   go_enter func258,ntmps258
   go_wp2_with fail
   refine bG 10 rfl (by kernel_rfl) (by kernel_rfl) (fun K hK=>?_)
   change wpStill _ _ (ajr _) _ _ _
   simp only [List.take_succ_cons,ajs,ajt,ajn] at hK ⊢
   repeat still_step
   refine wpStill_nil ?_
   change ite _ (Oper.wp _ _ _ _ _ _) _
   go_simp
   refine rX.out.mono ?_
   rintro e w1 ⟨rfl,h1,k1⟩
   refine hK _ _ ?_
   clear hK K
   have bI:=ay (And.intro h1 k1)
   clear y0 y1 y3 y4 y5
   obtain ⟨y0,y1⟩:=HC.out w1 k1
   clear h1 k1 rX
   repeat still_step
   refine wpStill_nil ?_
   go_wp2_with fail
   go_region_held3 (fun W'=>W'.cell? ⟨b0,0,none⟩=some (au q.C)/\W'.cell? ⟨b1,0,none⟩=some (ah (m:Int)))
    (first
     | exact ⟨y0,y1⟩
     | exact HC.out _ jF.out
     | exact HC.out _ HX.out.2.2
     | exact HC.out _ (HDR.out _ bI.out).2
     | fail "nR")
    (first
     | (go_at_call 243
        refine (zq.out _ (by first|exact HDR.out _ bI.out|exact bI.out)).mono ?_
        rintro e w2 ⟨nv,rfl,hx⟩
        have HX:=ay hx
        clear hx)
     | (go_at_call 210
        refine (KU.out _ _ HX.out).mono ?_
        rintro e w3 ⟨⟨nv3,rfl,hf3,hp3⟩,k3⟩
        have jF:=ay k3
        have HP:=ay hp3
        have Dc:=ay hf3
        clear hp3 hf3 k3)
     | fail "qg")
   all_goals
    have hfm:=Dc.out
    rcases hfm with rfl|⟨fn2,first2,caps2,rfl⟩
    all_goals
     go_wp2_with fail
     go_ret
     exact ⟨_,rfl,by first|exact .inl rfl|exact .inr ⟨_,_,_,rfl⟩,HP.out⟩
 | nil =>
   rw [hb] at rX
   have es:({ s with aV:=s.aV.set m [] }:Sh)=s:=by
    rw [hb] at hgb
    obtain ⟨hlt,he⟩:=List.getElem?_eq_some_iff.1 hgb
    have:s.aV.set m []=s.aV:=by rw [<- he];exact List.set_getElem_self hlt
    rw [this]
   simp only [dA,List.isEmpty_nil,Bool.not_true,List.tail_nil] at rX
   rw [es] at rX
   have hwi:IntKind.i64.wrap ((m:Int)+1)=(m:Int)+1:=ajw _ (by omega)
   by_cases hlt:m+1<c.aG
   ·have e1:aN s c (.box m)=⟨s,c,.box (m+1),none⟩:=by simp only [aN,hb];rw [aZ hlt]
    have d1:decide ((m:Int)+1<(c.aG:Int))=true:=fK (by omega)
    have HA:Hid (∀ V,bU o V G q s c none nv0->aj (In o dD) w V->V.cell? ⟨q.C,1,none⟩=some (ah (c.aG:Int))/\∀ n,Calls aA 243 #[au q.C,ah ((m:Int)+1)] (V.drewN n) (dM o w G q nv0 (aN s c (.box m)))):=fun V hV hk=>by
     refine ⟨hV.cell 1 _ rfl,fun n=>?_⟩
     rw [e1]
     have kd:aj aB V (V.drewN n):=(aj.refl aB V).drewN n
     have g:=JY (hV.still kd).sh.iV q.C (m+1)
     rw [show (((m+1:Nat)):Int)=(m:Int)+1 from by push_cast;rfl] at g
     exact dM.made (r:=⟨s,c,.box (m+1),none⟩) (hV.still kd) (hk.trans kd.bV) g
    clear e1
    generalize aN s c (.box m)=R at *
    generalize c.aG=mu at *
    clear h hd hkd k0 k1 o0 o1 hbx hgb hb hm hmu hmb hlt
    go_enter func258,ntmps258
    go_wp2_with fail
    refine bG 10 rfl (by kernel_rfl) (by kernel_rfl) (fun K hK=>?_)
    change wpStill _ _ (ajr _) _ _ _
    simp only [List.take_succ_cons,ajs,ajt,ajn] at hK ⊢
    repeat still_step
    refine wpStill_nil ?_
    change ite _ (Oper.wp _ _ _ _ _ _) _
    go_simp
    refine rX.out.mono ?_
    rintro e w1 ⟨rfl,h1,k1⟩
    refine hK _ _ ?_
    clear hK K
    obtain ⟨y6,ha⟩:=HA.out w1 h1 k1
    have HA1:=ay ha
    clear y0 y1 y3 y4 y5 ha HA
    obtain ⟨y0,y1⟩:=HC.out w1 k1
    clear h1 k1 rX
    repeat still_step
    refine wpStill_nil ?_
    go_wp2_with fail
    go_quiet (fail)
    go_wp2_with fail
    refine (HA1.out nq).mono ?_
    rintro e w3 ⟨nv,rfl,hf,hp⟩
    have HP:=ay hp
    clear hp HA1
    rcases hf with rfl|⟨fn2,first2,caps2,rfl⟩
    all_goals
     go_wp2_with fail
     go_ret
     exact ⟨_,rfl,by first|exact .inl rfl|exact .inr ⟨_,_,_,rfl⟩,HP.out⟩
   ·have d1:decide ((m:Int)+1<(c.aG:Int))=false:=gJ (by omega)
    have HA:Hid (∀ V,bU o V G q s c none nv0->aj (In o dD) w V->V.cell? ⟨q.C,1,none⟩=some (ah (c.aG:Int))/\∀ n,(V.drewN n).cell? ⟨q.C,9,none⟩=some (au q.K)/\(V.drewN n).cell? ⟨b0,0,none⟩=some (au q.C)/\Calls aA 255 #[au q.K] (V.drewN n) fun e w'=>e = .returned (ah (c.bD.length:Int))/\w'.cell? ⟨b0,0,none⟩=some (au q.C)/\iM o w G q nv0 (aN s c (.box m)) (.returned (if c.bD=[] then sQ 260 q.C else sQ 208 q.C)) w'):=fun V hV hk=>by
     refine ⟨hV.cell 1 _ rfl,fun n=>?_⟩
     have kd:aj aB V (V.drewN n):=(aj.refl aB V).drewN n
     have hk1:=hk.trans kd.bV
     have h1:=hV.still kd
     refine ⟨h1.LW,(HC.out _ hk1).1,(acz h1).mono ?_⟩
     rintro e w' ⟨rfl,g1,g2⟩
     refine ⟨rfl,(HC.out _ (hk1.trans g2.bV)).1,?_⟩
     by_cases hs:c.bD=[]
     ·have e1:aN s c (.box m)=⟨s,c,.over,none⟩:=by simp only [aN,hb];rw [aT hlt,aZ hs]
      rw [e1,aZ hs]
      exact iM.same (r:=⟨s,c,.over,none⟩) g1 rfl (hk1.trans g2.bV)
     ·have e1:aN s c (.box m)=⟨s,c,.work,none⟩:=by simp only [aN,hb];rw [aT hlt,aT hs]
      rw [e1,aT hs]
      exact iM.same (r:=⟨s,c,.work,none⟩) g1 rfl (hk1.trans g2.bV)
    have d2:(c.bD=[]/\decide (0<c.bD.length)=false)\/(c.bD≠[]/\decide (0<c.bD.length)=true):=by
     by_cases hs:c.bD=[]
     ·exact .inl ⟨hs,by rw [hs];rfl⟩
     ·exact .inr ⟨hs,fK (List.length_pos_iff.2 hs)⟩
    rcases d2 with ⟨hs,d2⟩|⟨hs,d2⟩
    ·rw [aZ hs] at HA
     generalize c.bD.length=sl at *
     generalize aN s c (.box m)=R at *
     generalize c.aG=mu at *
     clear h hd hkd k0 k1 o0 o1 hbx hgb hb hm hmu hmb hlt hs
     go_enter func258,ntmps258
     go_wp2_with fail
     refine bG 10 rfl (by kernel_rfl) (by kernel_rfl) (fun K hK=>?_)
     change wpStill _ _ (ajr _) _ _ _
     simp only [List.take_succ_cons,ajs,ajt,ajn] at hK ⊢
     repeat still_step
     refine wpStill_nil ?_
     change ite _ (Oper.wp _ _ _ _ _ _) _
     go_simp
     refine rX.out.mono ?_
     rintro e w1 ⟨rfl,h1,k1⟩
     refine hK _ _ ?_
     clear hK K
     obtain ⟨y6,ha⟩:=HA.out w1 h1 k1
     have HA1:=ay ha
     clear y0 y1 y3 y4 y5 ha HA
     obtain ⟨y0,y1⟩:=HC.out w1 k1
     clear h1 k1 rX
     repeat still_step
     refine wpStill_nil ?_
     go_wp2_with fail
     go_quiet (fail)
     obtain ⟨z9,z0,hln⟩:=HA1.out nq
     have tJ:=ay hln
     clear hln HA1
     go_wp2_with fail
     refine tJ.out.mono ?_
     rintro e w3 ⟨rfl,z1,hp⟩
     have HP:=ay hp
     clear hp tJ z9 z0 y0 y1 y6
     go_wp2_with fail
     go_ret
     exact ⟨_,rfl,.inr ⟨_,_,_,rfl⟩,HP.out⟩
    ·rw [aT hs] at HA
     generalize c.bD.length=sl at *
     generalize aN s c (.box m)=R at *
     generalize c.aG=mu at *
     clear h hd hkd k0 k1 o0 o1 hbx hgb hb hm hmu hmb hlt hs
     go_enter func258,ntmps258
     go_wp2_with fail
     refine bG 10 rfl (by kernel_rfl) (by kernel_rfl) (fun K hK=>?_)
     change wpStill _ _ (ajr _) _ _ _
     simp only [List.take_succ_cons,ajs,ajt,ajn] at hK ⊢
     repeat still_step
     refine wpStill_nil ?_
     change ite _ (Oper.wp _ _ _ _ _ _) _
     go_simp
     refine rX.out.mono ?_
     rintro e w1 ⟨rfl,h1,k1⟩
     refine hK _ _ ?_
     clear hK K
     obtain ⟨y6,ha⟩:=HA.out w1 h1 k1
     have HA1:=ay ha
     clear y0 y1 y3 y4 y5 ha HA
     obtain ⟨y0,y1⟩:=HC.out w1 k1
     clear h1 k1 rX
     repeat still_step
     refine wpStill_nil ?_
     go_wp2_with fail
     go_quiet (fail)
     obtain ⟨z9,z0,hln⟩:=HA1.out nq
     have tJ:=ay hln
     clear hln HA1
     go_wp2_with fail
     refine tJ.out.mono ?_
     rintro e w3 ⟨rfl,z1,hp⟩
     have HP:=ay hp
     clear hp tJ z9 z0 y0 y1 y6
     go_wp2_with fail
     go_ret
     exact ⟨_,rfl,.inr ⟨_,_,_,rfl⟩,HP.out⟩
end
end
end Go.Proofs.YtanfphjoebobaaaGreatDoor
