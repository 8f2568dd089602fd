/- Parts of the iy. No conditions. -/
import Derived.Test.YtanfphjoebobaaaGreatDoorZzfo
namespace Go.Proofs.YtanfphjoebobaaaGreatDoor
open _root_.Go.IntWalk renaming i64_in->ajw
open _root_.Go.World renaming drew->ajr
open _root_.List renaming drop_succ_cons->ajt,drop_zero->ajn,take_zero->ajs
open _root_.Nat renaming le_refl->aje,le_trans->ajU
open _root_.Go.Proofs.Tryz hiding prog
open _root_.Go.Proofs.Tryz renaming prog->aA
set_option maxRecDepth 100000
set_option maxHeartbeats 8000000
section
attribute [local go_sem] Oper.semAt_some
open Go.RowKit
section
variable {o o':Ow} {w w':World} {G:fU} {q:CG} {s:Sh} {c:CS} {ev:Option Ev} {nv nv0:Value}
theorem aew (h:bU o w G q s c none nv0) (hl:c.bD.length<=c.room) (hr:c.room<=4096) (t:CD) (tv:Value) (ht:dK o w q.C t tv) (b0 b1:Nat) (o0:o b0=0) (o1:o b1=0) (k0:aF w b0 [aJ q.C] 30) (k1:aF w b1 [tv] 88) :
 Calls aA 295 #[au b0,au b1] w (dM o w G q nv0 (aN s c (.ig t))):=by
 have HC:Hid (∀ V,aj (In o dD) w V->V.cell? ⟨b0,0,none⟩=some (au q.C)/\V.cell? ⟨b1,0,none⟩=some tv):=fun V hV =>
  ⟨(hV.aH k0 (dR o0 iW)).cell 0 rfl,(hV.aH k1 (dR o1 iW)).cell 0 rfl⟩
 obtain ⟨y0,y1⟩:=HC.out w (aj.refl _ _)
 have y9:=h.LW
 have hform:=ht.rJ
 cases hx:c.bD.getLast? with
 | none =>
   have e1:aN s c (.ig t)=⟨s,c,t,none⟩:=by simp only [aN,hx]
   have yL:=ay (SB h hx)
   have HE:Hid (∀ V,bU o V G q s c none nv0->aj aB w V->iM o w G q nv0 (aN s c (.ig t)) (.returned tv) V):=fun V hV hk=>by
    rw [e1]
    exact iM.same (r:=⟨s,c,t,none⟩) hV (ht.still hk) hk.bV
   clear e1
   generalize aN s c (.ig t)=R at *
   clear h hx hl hr ht k0 k1 o0 o1
   rcases hform with rfl|⟨fn,first,caps,rfl⟩
   all_goals
    go_enter func295,ntmps295
    go_wp2_with fail
    refine yL.out.mono ?_
    rintro e w1 ⟨rfl,h1,k1⟩
    have HP:=ay (HE.out w1 h1 k1)
    clear y0 y1 y9
    obtain ⟨y0,y1⟩:=HC.out w1 k1.bV
    clear h1 k1 HE yL
    go_wp2_with fail
    go_ret
    exact ⟨_,rfl,by first|exact .inl rfl|exact .inr ⟨_,_,_,rfl⟩,HP.out⟩
 | some a =>
   have e1:aN s c (.ig t)=⟨s,c.Cb,.iD a (.ig t),none⟩:=by simp only [aN,hx]
   have yL:=ay (O4 h hl hr a hx)
   have Ws:Hid (∀ V,bU o V G q s c.Cb none nv0/\aj (In o dD) w V->Calls aA 291 #[au q.C,tv] V fun e w'=>∃ nv,e = .returned nv/\dK o w' q.C (.ig t) nv/\bU o w' G q s c.Cb none nv0/\aj (In o dD) w w'):=fun V hV=>by
    refine (LQ hV.1.sh.iV q.C (ht.bg hV.2 iW)).mono ?_
    rintro e w' ⟨nv,rfl,g1,g2⟩
    exact ⟨nv,rfl,g1,hV.1.still g2,hV.2.trans g2.bV⟩
   have yM:Hid (∀ V nv,dK o V q.C (.ig t) nv/\bU o V G q s c.Cb none nv0/\aj (In o dD) w V->Calls aA 242 #[au q.C,ah (a:Int),nv] V fun e w'=>dM o w G q nv0 (aN s c (.ig t)) e w'/\aj (In o dD) w w'):=fun V nv hV=>by
    rw [e1]
    exact dM.made2 hV.2.2 (r:=⟨s,c.Cb,.iD a (.ig t),none⟩) hV.2.1 hV.2.2 (Eh hV.2.1.sh.iV q.C a hV.1)
   have HDR:Hid (∀ V,bU o V G q s c.Cb none nv0/\aj (In o dD) w V->bU o V.drew G q s c.Cb none nv0/\aj (In o dD) w V.drew):=fun V hV=>⟨hV.1.still ((aj.refl aB V).drew),hV.2.trans ((aj.refl _ V).drew)⟩
   clear e1
   generalize aN s c (.ig t)=R at *
   generalize c.Cb=c' at *
   clear h hx hl hr ht k0 k1 o0 o1
   rcases hform with rfl|⟨fn,first,caps,rfl⟩
   ·skip
    go_enter func295,ntmps295
    go_wp2_with fail
    refine yL.out.mono ?_
    rintro e w1 ⟨rfl,h1,k1⟩
    have bI:=ay (And.intro h1 (yh k1))
    clear y0 y1 y9
    obtain ⟨y0,y1⟩:=HC.out w1 bI.out.2
    clear h1 k1 yL
    go_wp2_with fail
    go_region_held3 (fun W'=>W'.cell? ⟨b0,0,none⟩=some (au q.C)/\W'.cell? ⟨b1,0,none⟩=some (.nilFunc))
     (first
      | exact ⟨y0,y1⟩
      | exact HC.out _ jF.out
      | exact HC.out _ HX.out.2.2
      | exact HC.out _ (HDR.out _ bI.out).2
      | fail "nR")
     (first
      | (go_at_call 291
         refine (Ws.out _ (by first|exact HDR.out _ bI.out|exact bI.out)).mono ?_
         rintro e w2 ⟨nv,rfl,hx⟩
         have HX:=ay hx
         clear hx)
      | (go_at_call 242
         refine (yM.out _ _ HX.out).mono ?_
         rintro e w3 ⟨⟨nv3,rfl,hf3,hp3⟩,k3⟩
         have jF:=ay k3
         have HP:=ay hp3
         have Dc:=ay hf3
         clear hp3 hf3 k3)
      | fail "qg")
    all_goals
     have hfm:=Dc.out
     rcases hfm with rfl|⟨fn2,first2,caps2,rfl⟩
     all_goals
      go_wp2_with fail
      go_ret
      exact ⟨_,rfl,by first|exact .inl rfl|exact .inr ⟨_,_,_,rfl⟩,HP.out⟩
   ·skip
    go_enter func295,ntmps295
    go_wp2_with fail
    refine yL.out.mono ?_
    rintro e w1 ⟨rfl,h1,k1⟩
    have bI:=ay (And.intro h1 (yh k1))
    clear y0 y1 y9
    obtain ⟨y0,y1⟩:=HC.out w1 bI.out.2
    clear h1 k1 yL
    go_wp2_with fail
    go_region_held3 (fun W'=>W'.cell? ⟨b0,0,none⟩=some (au q.C)/\W'.cell? ⟨b1,0,none⟩=some (.func (.func fn) first caps))
     (first
      | exact ⟨y0,y1⟩
      | exact HC.out _ jF.out
      | exact HC.out _ HX.out.2.2
      | exact HC.out _ (HDR.out _ bI.out).2
      | fail "nR")
     (first
      | (go_at_call 291
         refine (Ws.out _ (by first|exact HDR.out _ bI.out|exact bI.out)).mono ?_
         rintro e w2 ⟨nv,rfl,hx⟩
         have HX:=ay hx
         clear hx)
      | (go_at_call 242
         refine (yM.out _ _ HX.out).mono ?_
         rintro e w3 ⟨⟨nv3,rfl,hf3,hp3⟩,k3⟩
         have jF:=ay k3
         have HP:=ay hp3
         have Dc:=ay hf3
         clear hp3 hf3 k3)
      | fail "qg")
    all_goals
     have hfm:=Dc.out
     rcases hfm with rfl|⟨fn2,first2,caps2,rfl⟩
     all_goals
      go_wp2_with fail
      go_ret
      exact ⟨_,rfl,by first|exact .inl rfl|exact .inr ⟨_,_,_,rfl⟩,HP.out⟩
theorem dH.cons {l:List Nat} {lv:Value} (h:dH o w 3 lv (aS l)) (hl:l≠[]):∃ b off n cp b2,lv = .slice (some ⟨b,off,none⟩) (n+1) cp/\n+1<=cp/\n=l.tail.length/\w.cell? ⟨b,off,none⟩=some (ah (dA l:Int))/\dH o w 3 (.slice (vw b2 cp 1) n (cp - 1)) (aS l.tail)/\b2=some ⟨b,off,none⟩:=by
 cases l with
 | nil=>exact absurd rfl hl
 | cons a r =>
   obtain ⟨a0,cp,e,h1,h2,h3⟩:=h.form
   have el:(aS (a::r)).length=r.length+1:=by simp [aS]
   rw [el] at e h1
   subst e
   obtain ⟨b,off,rfl,h4⟩:=h3 0 (ah (a:Int)) rfl
   have hc:=h.cut 1 (by omega)
   exact ⟨b,off,r.length,cp,_,rfl,h1,rfl,by rw [Nat.add_zero] at h4;exact h4,by simpa [aS] using hc,rfl⟩
theorem aex (h:bU o w G q s c none nv0) (l:List Nat) (hl:l≠[]) (hlen:l.length<=1000) (t:CD) (tv lv:Value) (ht:dK o w q.C t tv) (hr:dH o w 3 lv (aS l)) (b0 b1 b2:Nat) (_o0:o b0=0) (_o1:o b1=0) (_o2:o b2=0) (k0:aF w b0 [aJ q.C] 30) (k1:aF w b1 [lv] 32) (k2:aF w b2 [tv] 88) :
 Calls aA 290 #[au b0,au b1,au b2] w (dM o w G q nv0 (aN s c (.bH l t))):=by
 obtain ⟨B,off,n,cp,bb,rfl,hcp,hn,_,hrt,rfl⟩:=hr.cons hl
 have HC:Hid (∀ V,aj aB w V->V.cell? ⟨b0,0,none⟩=some (au q.C)/\V.cell? ⟨b1,0,none⟩=some (.slice (some ⟨B,off,none⟩) (n+1) cp)/\V.cell? ⟨b2,0,none⟩=some tv/\V.cell? ⟨B,off,none⟩=some (ah (dA l:Int))/\V.cell? ⟨q.C,0,none⟩=some (au G.S)/\V.cell? ⟨q.C,5,none⟩=some (ah (c.aP:Int))/\V.cell? ⟨G.S,0,none⟩=some (au (G.D 0))):=fun V hV=>by
  have h9:=h.still hV
  obtain ⟨_,_,_,_,_,e,_,_,hc,_,_⟩:=(hr.still hV).cons hl
  cases e
  exact ⟨(hV.aH k0 (fun f=>f)).cell 0 rfl,(hV.aH k1 (fun f=>f)).cell 0 rfl,(hV.aH k2 (fun f=>f)).cell 0 rfl,hc,h9.c0,h9.cell 5 _ rfl,h9.sh.sC.1⟩
 obtain ⟨y0,y1,y2,y3,y4,y5,y6⟩:=HC.out w (aj.refl _ _)
 have hform:=ht.rJ
 have EF:Hid (∀ V,aj aB w V->Calls aA 286 #[au q.C,.slice (vw (some ⟨B,off,none⟩) cp 1) n (cp - 1),tv] V fun e w'=>∃ nv,e = .returned nv/\dK o w' q.C (gX l.tail t) nv/\aj aB w w'/\aj aB V w'):=fun V hV=>by
  subst hn
  refine (LM (h.still hV).sh.iV q.C (ht.still hV) (hrt.still hV)).mono ?_
  rintro e w' ⟨nv,rfl,g1,g2⟩
  exact ⟨nv,rfl,g1,hV.trans g2,g2⟩
 have uO:Hid (∀ V,aj aB w V->Calls aA 28 #[au (G.D 0),ah (dA l:Int)] V fun e w'=>e = .returned (.tuple #[ah ((if s.H.bn (dA l) then s.H.iU (dA l) else 0:Nat):Int),ah (if s.H.bn (dA l) then 0 else 1)])/\V=w'):=fun V hV=>FB (h.still hV).sh.heap _
 have Ws:Hid (∀ V nv,dK o V q.C (gX l.tail t) nv/\aj aB w V->Calls aA 291 #[au q.C,nv] V fun e w'=>∃ nv,e = .returned nv/\dK o w' q.C (.ig (gX l.tail t)) nv/\aj aB w w'):=fun V nv hV=>by
  refine (LQ (h.still hV.2).sh.iV q.C hV.1).mono ?_
  rintro e w' ⟨nv,rfl,g1,g2⟩
  exact ⟨nv,rfl,g1,hV.2.trans g2⟩
 have HCD:Hid (∀ V V' nv,dK o V q.C (gX l.tail t) nv/\aj aB w V->aj aB V V'->dK o V' q.C (gX l.tail t) nv/\aj aB w V'):=fun V V' nv h k=>⟨h.1.still k,h.2.trans k⟩
 have hcut:∀ w:World,(Instr.slice 32 (.slice (some ⟨B,off,none⟩) (n+1) cp) (some (ah 1)) none none).run aA w = .ok (.slice (vw (some ⟨B,off,none⟩) cp 1) (n+1 - 1) (cp - 1)) w:=fun w=>IV (P:=aA) (T:=32) (e:=3) (by kernel_rfl) (by kernel_rfl) (some ⟨B,off,none⟩) (n+1) cp 1 (by omega) w
 rw [Nat.add_sub_cancel] at hcut
 have hca:∃ ca:Option Addr,ca=vw (some ⟨B,off,none⟩) cp 1:=⟨_,rfl⟩
 obtain ⟨ca,hca⟩:=hca
 rw [<- hca] at EF hcut
 have hn1 : n < 1000 := by have:l.tail.length<l.length:=by cases l with|nil=>exact absurd rfl hl|cons a r=>simp
                           omega
 cases hcond:(!s.H.bn (dA l)||s.H.iU (dA l) != c.aP) with
 | true =>
   have e1:aN s c (.bH l t)=⟨s,c,gX l.tail t,none⟩:=by simp only [aN,hcond];rfl
   have HE:Hid (∀ V nv,dK o V q.C (gX l.tail t) nv/\aj aB w V->iM o w G q nv0 (aN s c (.bH l t)) (.returned nv) V):=fun V nv hV=>by
    rw [e1]
    exact iM.same (r:=⟨s,c,gX l.tail t,none⟩) (h.still hV.2) hV.1 hV.2.bV
   have HFO:Hid (∀ V nv,dK o V q.C (gX l.tail t) nv/\aj aB w V->nv = .nilFunc\/∃ fn first caps,nv = .func (.func fn) first caps):=fun V nv hV=>hV.1.rJ
   have Yb:Hid (aj aB w w.drew):=(aj.refl aB w).drew
   have hcs:s.H.bn (dA l)=false\/(s.H.bn (dA l)=true/\∃ k:Nat,k≠c.aP/\s.H.iU (dA l)=k):=by
    revert hcond
    cases s.H.bn (dA l)
    ·intro _;exact .inl rfl
    ·intro hc;exact .inr ⟨rfl,_,by simpa using hc,rfl⟩
   clear e1
   generalize aN s c (.bH l t)=R at *
   generalize gX l.tail t=d at *
   rcases hcs with hb|⟨hb,k,hk,hck⟩
   ·rw [hb] at uO
    simp only [Bool.false_eq_true,if_false] at uO
    generalize dA l=x at *
    generalize c.aP=jw at *
    clear h ht hr hrt k0 k1 k2 _o0 _o1 _o2 hcond hb hlen hl hca hn Ws
    rcases hform with rfl|⟨fn,first,caps,rfl⟩
    all_goals
     go_enter func290,ntmps290
     go_wp2_with fail
     refine bG 4 rfl (by kernel_rfl) (by kernel_rfl) (fun K hK=>?_)
     change wpStill _ _ (ajr _) _ _ _
     simp only [List.take_succ_cons,ajs,ajt,ajn] at hK ⊢
     repeat still_step
     refine wpStill_nil ?_
     change ite _ (Oper.wp _ _ _ _ _ _) _
     go_simp
     refine (EF.out _ Yb.out).mono ?_
     rintro e w1 ⟨nv1,rfl,hc1,kw,kv⟩
     refine hK _ _ ?_
     clear hK K
     have HX:=ay (And.intro hc1 kw)
     clear y0 y1 y2 y3 y4 y5 y6
     obtain ⟨y0,y1,y2,y3,y4,y5,y6⟩:=HC.out w1 kw
     have hf1:=HFO.out _ _ (And.intro hc1 kw)
     clear hc1 kw kv EF
     repeat still_step
     refine wpStill_nil ?_
     rcases hf1 with rfl|⟨fn1,first1,caps1,rfl⟩
     all_goals
      go_wp2_with fail
      go_quiet (first|(go_at_call 28;exact Calls.quiet_of_same (iQ (uO.out _ (HX.out.2.trans ((aj.refl aB w1).drewN _))))))
      obtain ⟨V,hV⟩:∃ V,V=w1.drewN nq:=⟨_,rfl⟩
      have Jt:=ay (HCD.out _ V _ HX.out (by rw [hV];exact (aj.refl aB w1).drewN _))
      rw [<- hV]
      have HP:=ay (HE.out _ _ Jt.out)
      have HY:=ay (HC.out V Jt.out.2)
      clear hV y0 y1 y2 y3 y4 y5 y6 nq uO HX
      obtain ⟨y0,y1,y2,y3,y4,y5,y6⟩:=HY.out
      go_wp2_with fail
      go_ret
      exact ⟨_,rfl,by first|exact .inl rfl|exact .inr ⟨_,_,_,rfl⟩,HP.out⟩
   ·rw [hb] at uO
    simp only [if_true] at uO
    rw [hck] at uO
    have dk:((k:Int)=(c.aP:Int))=False:=eq_false (by omega)
    have dkb:((k:Int)==(c.aP:Int))=false:=by simp;omega
    have dkn:decide (k=c.aP)=false:=gJ hk
    generalize dA l=x at *
    generalize c.aP=jw at *
    clear h ht hr hrt k0 k1 k2 _o0 _o1 _o2 hcond hb hlen hl hca hn Ws hck
    rcases hform with rfl|⟨fn,first,caps,rfl⟩
    all_goals
     go_enter func290,ntmps290
     go_wp2_with fail
     refine bG 4 rfl (by kernel_rfl) (by kernel_rfl) (fun K hK=>?_)
     change wpStill _ _ (ajr _) _ _ _
     simp only [List.take_succ_cons,ajs,ajt,ajn] at hK ⊢
     repeat still_step
     refine wpStill_nil ?_
     change ite _ (Oper.wp _ _ _ _ _ _) _
     go_simp
     refine (EF.out _ Yb.out).mono ?_
     rintro e w1 ⟨nv1,rfl,hc1,kw,kv⟩
     refine hK _ _ ?_
     clear hK K
     have HX:=ay (And.intro hc1 kw)
     clear y0 y1 y2 y3 y4 y5 y6
     obtain ⟨y0,y1,y2,y3,y4,y5,y6⟩:=HC.out w1 kw
     have hf1:=HFO.out _ _ (And.intro hc1 kw)
     clear hc1 kw kv EF
     repeat still_step
     refine wpStill_nil ?_
     rcases hf1 with rfl|⟨fn1,first1,caps1,rfl⟩
     all_goals
      go_wp2_with fail
      go_quiet (first|(go_at_call 28;exact Calls.quiet_of_same (iQ (uO.out _ (HX.out.2.trans ((aj.refl aB w1).drewN _))))))
      obtain ⟨V,hV⟩:∃ V,V=w1.drewN nq:=⟨_,rfl⟩
      have Jt:=ay (HCD.out _ V _ HX.out (by rw [hV];exact (aj.refl aB w1).drewN _))
      rw [<- hV]
      have HP:=ay (HE.out _ _ Jt.out)
      have HY:=ay (HC.out V Jt.out.2)
      clear hV y0 y1 y2 y3 y4 y5 y6 nq uO HX
      obtain ⟨y0,y1,y2,y3,y4,y5,y6⟩:=HY.out
      go_wp2_with fail
      go_ret
      exact ⟨_,rfl,by first|exact .inl rfl|exact .inr ⟨_,_,_,rfl⟩,HP.out⟩
 | false =>
   have e1:aN s c (.bH l t)=⟨s,c,.iD (dA l) (.ig (gX l.tail t)),none⟩:=by simp only [aN,hcond];rfl
   have yM:Hid (∀ V nv,dK o V q.C (.ig (gX l.tail t)) nv/\aj aB w V->Calls aA 242 #[au q.C,ah (dA l:Int),nv] V fun e w'=>dM o w G q nv0 (aN s c (.bH l t)) e w'/\aj aB w w'):=fun V nv hV=>by
    rw [e1]
    exact dM.made2 hV.2 (r:=⟨s,c,.iD (dA l) (.ig (gX l.tail t)),none⟩) (h.still hV.2) hV.2.bV (Eh (h.still hV.2).sh.iV q.C (dA l) hV.1)
   have HFO:Hid (∀ V nv,dK o V q.C (gX l.tail t) nv/\aj aB w V->nv = .nilFunc\/∃ fn first caps,nv = .func (.func fn) first caps):=fun V nv hV=>hV.1.rJ
   have Yb:Hid (aj aB w w.drew):=(aj.refl aB w).drew
   obtain ⟨hb,hk⟩:s.H.bn (dA l)=true/\s.H.iU (dA l)=c.aP:=by simpa using hcond
   rw [hb] at uO
   simp only [if_true] at uO
   rw [hk] at uO
   clear e1
   generalize aN s c (.bH l t)=R at *
   generalize gX l.tail t=d at *
   generalize dA l=x at *
   generalize c.aP=jw at *
   clear h ht hr hrt k0 k1 k2 _o0 _o1 _o2 hcond hb hlen hl hca hn hk
   rcases hform with rfl|⟨fn,first,caps,rfl⟩
   all_goals
    go_enter func290,ntmps290
    go_wp2_with fail
    refine bG 4 rfl (by kernel_rfl) (by kernel_rfl) (fun K hK=>?_)
    change wpStill _ _ (ajr _) _ _ _
    simp only [List.take_succ_cons,ajs,ajt,ajn] at hK ⊢
    repeat still_step
    refine wpStill_nil ?_
    change ite _ (Oper.wp _ _ _ _ _ _) _
    go_simp
    refine (EF.out _ Yb.out).mono ?_
    rintro e w1 ⟨nv1,rfl,hc1,kw,kv⟩
    refine hK _ _ ?_
    clear hK K
    have HX:=ay (And.intro hc1 kw)
    clear y0 y1 y2 y3 y4 y5 y6
    obtain ⟨y0,y1,y2,y3,y4,y5,y6⟩:=HC.out w1 kw
    have hf1:=HFO.out _ _ (And.intro hc1 kw)
    clear hc1 kw kv EF
    repeat still_step
    refine wpStill_nil ?_
    rcases hf1 with rfl|⟨fn1,first1,caps1,rfl⟩
    all_goals
     go_wp2_with fail
     go_quiet (first|(go_at_call 28;exact Calls.quiet_of_same (iQ (uO.out _ (HX.out.2.trans ((aj.refl aB w1).drewN _))))))
     obtain ⟨V,hV⟩:∃ V,V=w1.drewN nq:=⟨_,rfl⟩
     have Jt:=ay (HCD.out _ V _ HX.out (by rw [hV];exact (aj.refl aB w1).drewN _))
     rw [<- hV]
     have HY:=ay (HC.out V Jt.out.2)
     clear hV y0 y1 y2 y3 y4 y5 y6 nq uO HX
     obtain ⟨y0,y1,y2,y3,y4,y5,y6⟩:=HY.out
     go_wp2_with fail
     go_region_held3 (fun W'=>W'.cell? ⟨b0,0,none⟩=some (au q.C)/\W'.cell? ⟨b1,0,none⟩=some (.slice (some ⟨B,off,none⟩) (n+1) cp)/\W'.cell? ⟨B,off,none⟩=some (ah (x:Int)))
      (first
       | exact ⟨y0,y1,y3⟩
       | exact (fun z=>⟨z.1,z.2.1,z.2.2.2.1⟩) (HC.out _ jF.out)
       | exact (fun z=>⟨z.1,z.2.1,z.2.2.2.1⟩) (HC.out _ HZ.out.2)
       | exact (fun z=>⟨z.1,z.2.1,z.2.2.2.1⟩) (HC.out _ Jt.out.2.drew)
       | fail "nR")
      (first
       | (go_at_call 291
          refine (Ws.out _ _ (by first|exact HCD.out _ _ _ Jt.out ((aj.refl aB _).drew)|exact Jt.out)).mono ?_
          rintro e w2 ⟨nv2,rfl,hx⟩
          have HZ:=ay hx
          clear hx)
       | (go_at_call 242
          refine (yM.out _ _ HZ.out).mono ?_
          rintro e w3 ⟨⟨nv3,rfl,hf3,hp3⟩,k3⟩
          have jF:=ay k3
          have HP:=ay hp3
          have Dc:=ay hf3
          clear hp3 hf3 k3)
       | fail "qg")
     all_goals
      have hfm:=Dc.out
      rcases hfm with rfl|⟨fn2,first2,caps2,rfl⟩
      all_goals
       go_wp2_with fail
       go_ret
       exact ⟨_,rfl,by first|exact .inl rfl|exact .inr ⟨_,_,_,rfl⟩,HP.out⟩
end
section
variable {o o':Ow} {w w':World} {G:fU} {q:CG} {s:Sh} {c:CS} {ev:Option Ev} {nv nv0:Value}
theorem aai (h:bU o w G q s c none nv0) (b:Nat) (hb:b<=4096) (uP:∀ k,(s.Q.rw k).length<=1000000000) (b0 b1:Nat) (o0:o b0=0) (o1:o b1=0) (k0:aF w b0 [aJ q.C] 30) (k1:aF w b1 [ah (b:Int)] 3) :
 Calls aA 293 #[au b0,au b1] w (dM o w G q nv0 (aN s c (.iJ b))):=by
 have HC:Hid (∀ V,aj (In o dD) w V->V.cell? ⟨b0,0,none⟩=some (au q.C)/\V.cell? ⟨b1,0,none⟩=some (ah (b:Int))):=fun V hV =>
  ⟨(hV.aH k0 (dR o0 iW)).cell 0 rfl,(hV.aH k1 (dR o1 iW)).cell 0 rfl⟩
 have HS:Hid (∀ V,aj aB w V->V.cell? ⟨q.C,0,none⟩=some (au G.S)/\V.cell? ⟨G.S,0,none⟩=some (au (G.D 0))/\V.cell? ⟨G.S,2,none⟩=some (au G.Q)):=fun V hV=>⟨(h.still hV).c0,(h.still hV).sh.sC.1,(h.still hV).sh.sC.2.2.1⟩
 have hwi:IntKind.i64.wrap ((b:Int)+1)=(b:Int)+1:=ajw _ (by omega)
 have yK:Hid (∀ V,aj aB w V->Calls aA 62 #[au (G.D 0)] V fun e w'=>∃ R X aO,e = .returned (au R)/\nU w' R X aO s.H.c s.H.K/\aj aB w w'/\aj aB V w'):=fun V hV=>by
  refine (Bo (h.still hV).sh.heap).mono ?_
  rintro e w' ⟨R,X,aO,rfl,g1,g2⟩
  exact ⟨R,X,aO,rfl,g1,hV.trans g2,g2⟩
 have Hg:Hid (∀ V V' R X aO,nU V R X aO s.H.c s.H.K->aj aB V V'->nU V' R X aO s.H.c s.H.K):=fun V V' R X aO ht k=>by
  obtain ⟨g1,⟨cur,g2,g3⟩,g4,g5,g6⟩:=ht
  exact ⟨k.aH g1 (fun f=>f),⟨cur,k.aH g2 (fun f=>f),g3⟩,g4,g5,g6⟩
 have gQ:Hid (aj aB w w.drew):=(aj.refl aB w).drew
 have Ju:Hid (∀ V,aj aB w V->aj (In o dD) w V):=fun V hV=>hV.bV
 obtain ⟨y0,y1⟩:=HC.out w (aj.refl _ _)
 obtain ⟨y2,y3,y4⟩:=HS.out w (aj.refl _ _)
 by_cases hk:s.H.K.getD b 0=0
 ·have e1:aN s c (.iJ b)=⟨s,c,c.lW (b+1),none⟩:=by simp only [aN];rw [aZ hk]
  have uN:Hid (∀ V R X aO,aj aB w V->nU V R X aO s.H.c s.H.K->Calls aA 102 #[au R,ah (b:Int)] V fun e w'=>e = .returned (.tuple #[ah 0,.bool false])/\aj aB w w'):=fun V R X aO hV ht=>by
   refine (O5 ht b hk).mono ?_
   rintro e w' ⟨rfl,rfl⟩
   exact ⟨rfl,hV⟩
  have rX:Hid (∀ V,aj aB w V->Calls aA 289 #[au q.C,ah ((b:Int)+1)] V (dM o w G q nv0 (aN s c (.iJ b)))):=fun V hV=>by
   rw [e1]
   have g:=C9 (c:=c) (h.still hV).sh.iV q.C (b+1) ((h.still hV).cell 2 _ rfl)
   rw [show (((b+1:Nat)):Int)=(b:Int)+1 from by push_cast;rfl] at g
   exact dM.made (r:=⟨s,c,c.lW (b+1),none⟩) (h.still hV) hV.bV g
  clear e1
  generalize aN s c (.iJ b)=R at *
  generalize s.H.c=cf at *
  generalize s.H.K=K at *
  clear h k0 k1 o0 o1 uP hk
  go_enter func293,ntmps293
  go_wp2_with fail
  go_region_held3 (fun W'=>W'.cell? ⟨b0,0,none⟩=some (au q.C)/\W'.cell? ⟨b1,0,none⟩=some (ah (b:Int))/\W'.cell? ⟨q.C,0,none⟩=some (au G.S)/\W'.cell? ⟨G.S,0,none⟩=some (au (G.D 0)))
   (first
    | exact ⟨y0,y1,y2,y3⟩
    | exact ⟨(HC.out _ (Ju.out _ bI.out)).1,(HC.out _ (Ju.out _ bI.out)).2,(HS.out _ bI.out).1,(HS.out _ bI.out).2.1⟩
    | exact ⟨(HC.out _ (Ju.out _ gQ.out)).1,(HC.out _ (Ju.out _ gQ.out)).2,(HS.out _ gQ.out).1,(HS.out _ gQ.out).2.1⟩
    | fail "nR")
   (first
    | (go_at_call 62
       refine (yK.out _ gQ.out).mono ?_
       rintro e w2 ⟨R1,X1,cap1,rfl,ht1,kw,kv⟩
       have HT1:=ay ht1
       have gQ:=ay kw
       clear ht1 kw kv)
    | (go_at_call 102
       refine (uN.out _ _ _ _ gQ.out HT1.out).mono ?_
       rintro e w3 ⟨rfl,kw⟩
       have bI:=ay kw
       clear kw)
    | fail "qg")
  all_goals
   clear y0 y1 y2 y3 y4
   obtain ⟨y0,y1⟩:=HC.out _ (Ju.out _ bI.out)
   have Jq:=ay (rX.out _ bI.out)
   clear rX
   go_wp2_with fail
   refine Jq.out.mono ?_
   rintro e w4 ⟨nv,rfl,hf,hp⟩
   have HP:=ay hp
   clear hp Jq
   rcases hf with rfl|⟨fn2,first2,caps2,rfl⟩
   all_goals
    go_wp2_with fail
    go_ret
    exact ⟨_,rfl,by first|exact .inl rfl|exact .inr ⟨_,_,_,rfl⟩,HP.out⟩
 ·obtain ⟨hBl,hk4⟩:=h.sh.heap.k4 hk
  obtain ⟨k,hkk⟩:∃ k,s.H.K.getD b 0=k+1:=⟨s.H.K.getD b 0 - 1,by omega⟩
  have hk3:k<4:=by omega
  have e1:aN s c (.iJ b)=⟨{ s with Q:=s.Q.put (k:Int) b },c,c.lW (b+1),none⟩:=by
   simp only [aN]
   rw [aT hk,hkk,show (((k+1:Nat)):Int) - 1=(k:Int) by omega]
  have uN:Hid (∀ V R X aO,aj aB w V->nU V R X aO s.H.c s.H.K->Calls aA 102 #[au R,ah (b:Int)] V fun e w'=>e = .returned (.tuple #[ah (k:Int),.bool true])/\aj aB w w'):=fun V R X aO hV ht=>by
   refine (Sm ht b k hBl hkk hk3).mono ?_
   rintro e w' ⟨rfl,rfl⟩
   exact ⟨rfl,hV⟩
  have HPU:Hid (∀ V,aj aB w V->Calls aA 294 #[au G.Q,ah (k:Int),ah (b:Int)] V.drew fun e w'=>e = .returned (ah 0)/\bU o w' G q { s with Q:=s.Q.put (k:Int) b } c none nv0/\aj (In o dD) w w'):=fun V hV=>by
   have kd:aj aB w V.drew:=hV.trans (aj.refl aB V).drew
   refine (abB G.Q s.Q (k:Int) (b:Int) V.drew (h.still kd).sh.sJ (by simp [QL,jh];omega) (by rw [s.Q.KP];exact uP k) (h.still kd).sh.iV).mono ?_
   rintro e w' ⟨rfl,g1,g2⟩
   obtain ⟨h1,k1⟩:=(h.still kd).CQ g2 g1
   exact ⟨rfl,h1,kd.bV.trans k1⟩
  have rX:Hid (∀ V,bU o V G q { s with Q:=s.Q.put (k:Int) b } c none nv0->aj (In o dD) w V->Calls aA 289 #[au q.C,ah ((b:Int)+1)] V (dM o w G q nv0 (aN s c (.iJ b)))):=fun V hV hk=>by
   rw [e1]
   have g:=C9 (c:=c) hV.sh.iV q.C (b+1) (hV.cell 2 _ rfl)
   rw [show (((b+1:Nat)):Int)=(b:Int)+1 from by push_cast;rfl] at g
   exact dM.made (r:=⟨{ s with Q:=s.Q.put (k:Int) b },c,c.lW (b+1),none⟩) hV hk g
  clear e1
  generalize aN s c (.iJ b)=R at *
  generalize ({ s with Q:=s.Q.put (k:Int) b }:Sh)=s' at *
  generalize s.H.c=cf at *
  generalize s.H.K=K at *
  clear h k0 k1 o0 o1 uP hk hkk hBl hk4
  go_enter func293,ntmps293
  go_wp2_with fail
  go_region_held3 (fun W'=>W'.cell? ⟨b0,0,none⟩=some (au q.C)/\W'.cell? ⟨b1,0,none⟩=some (ah (b:Int))/\W'.cell? ⟨q.C,0,none⟩=some (au G.S)/\W'.cell? ⟨G.S,0,none⟩=some (au (G.D 0)))
   (first
    | exact ⟨y0,y1,y2,y3⟩
    | exact ⟨(HC.out _ (Ju.out _ bI.out)).1,(HC.out _ (Ju.out _ bI.out)).2,(HS.out _ bI.out).1,(HS.out _ bI.out).2.1⟩
    | exact ⟨(HC.out _ (Ju.out _ gQ.out)).1,(HC.out _ (Ju.out _ gQ.out)).2,(HS.out _ gQ.out).1,(HS.out _ gQ.out).2.1⟩
    | fail "nR")
   (first
    | (go_at_call 62
       refine (yK.out _ gQ.out).mono ?_
       rintro e w2 ⟨R1,X1,cap1,rfl,ht1,kw,kv⟩
       have HT1:=ay ht1
       have gQ:=ay kw
       clear ht1 kw kv)
    | (go_at_call 102
       refine (uN.out _ _ _ _ gQ.out HT1.out).mono ?_
       rintro e w3 ⟨rfl,kw⟩
       have bI:=ay kw
       clear kw)
    | fail "qg")
  all_goals
   clear y0 y1 y2 y3 y4
   obtain ⟨y0,y1⟩:=HC.out _ (Ju.out _ bI.out)
   obtain ⟨y2,y3,y4⟩:=HS.out _ bI.out
   have afQ:=ay (HPU.out _ bI.out)
   clear HPU
   go_wp2_with fail
   refine bG 9 rfl (by kernel_rfl) (by kernel_rfl) (fun K hK=>?_)
   change wpStill _ _ (ajr _) _ _ _
   simp only [List.take_succ_cons,ajs,ajt,ajn] at hK ⊢
   repeat still_step
   refine wpStill_nil ?_
   change ite _ (Oper.wp _ _ _ _ _ _) _
   go_simp
   refine afQ.out.mono ?_
   rintro e w4 ⟨rfl,h1,k1⟩
   refine hK _ _ ?_
   clear hK K
   have Jq:=ay (rX.out _ h1 k1)
   clear y0 y1 y2 y3 y4
   obtain ⟨y0,y1⟩:=HC.out _ k1
   clear rX afQ h1 k1
   repeat still_step
   refine wpStill_nil ?_
   go_wp2_with fail
   refine Jq.out.mono ?_
   rintro e w5 ⟨nv,rfl,hf,hp⟩
   have HP:=ay hp
   clear hp Jq
   rcases hf with rfl|⟨fn2,first2,caps2,rfl⟩
   all_goals
    go_wp2_with fail
    go_ret
    exact ⟨_,rfl,by first|exact .inl rfl|exact .inr ⟨_,_,_,rfl⟩,HP.out⟩
theorem aey (h:bU o w G q s c none nv0) (sl:List Nat) (hq:s.Q.dS<=1000000000) (cv:Value) (hc:lF o w (G.D 0) 40 cv sl c.aP) (b0 b1:Nat) (o0:o b0=0) (o1:o b1=0) (k0:aF w b0 [cv] 260) (k1:aF w b1 [aJ q.C] 30) :
 Calls aA 302 #[au b0,au b1] w (dM o w G q nv0 (aN s c (.block sl))):=by
 have HC:Hid (∀ V,aj (In o dD) w V->V.cell? ⟨b0,0,none⟩=some cv/\V.cell? ⟨b1,0,none⟩=some (au q.C)):=fun V hV =>
  ⟨(hV.aH k0 (dR o0 iW)).cell 0 rfl,(hV.aH k1 (dR o1 iW)).cell 0 rfl⟩
 obtain ⟨y0,y1⟩:=HC.out w (aj.refl _ _)
 have y2:=h.c0
 have y3:=h.sh.sC.2.2.1
 have hcf:(cv = .pointer none)\/∃ C,cv=aJ C:=by
  rcases hc with ⟨h,_⟩|⟨C,_,_,h,_⟩
  ·exact .inl h
  ·exact .inr ⟨C,h⟩
 have hmf:=mV
 have EO:=ay (Js hc)
 cases sl with
 | nil =>
   have e1:aN s c (.block [])=⟨{ s with Q:=s.Q.wO },c,.eX,none⟩:=rfl
   have HD:Hid (Calls aA 279 #[au G.Q] w fun e w'=>(∃ er:Int,e = .returned (ah er))/\w'.cell? ⟨b1,0,none⟩=some (au q.C)/\iM o w G q nv0 (aN s c (.block [])) (.returned (sQ 292 q.C)) w'):=by
    rw [e1]
    refine (Zm G.Q s.Q w h.sh.sJ hq).mono ?_
    rintro e w' ⟨rfl,g1,g2⟩
    obtain ⟨h1,kk⟩:=h.CQ g2 g1
    exact ⟨⟨_,rfl⟩,(HC.out _ kk).2,iM.same (r:=⟨{ s with Q:=s.Q.wO },c,.eX,none⟩) h1 rfl kk⟩
   clear e1
   generalize aN s c (.block [])=R at *
   have Yc:Hid (Calls aA 278 #[cv] w fun e w'=>e = .returned (.bool true)/\w=w'):=EO.out
   clear h hc hq k0 k1 o0 o1 EO
   rcases hcf with rfl|⟨C1,rfl⟩
   all_goals
    go_enter func302,ntmps302
    go_wp2_with fail
    refine Yc.out.mono ?_
    rintro e w1 ⟨rfl,rfl⟩
    go_wp2_with fail
    refine HD.out.mono ?_
    rintro e w2 ⟨⟨er,rfl⟩,z1,hp⟩
    have HP:=ay hp
    clear hp HD y0 y1 y2 y3
    go_wp2_with fail
    go_ret
    exact ⟨_,rfl,.inr ⟨_,_,_,rfl⟩,HP.out⟩
 | cons a r =>
   have Yc:Hid (Calls aA 278 #[cv] w fun e w'=>e = .returned (.bool false)/\w=w'):=EO.out
   have HST:Hid (Calls aA 280 #[cv] w fun e w'=>e = .returned (.tuple #[ah ((if s.uT c.aP a then a else 0:Nat):Int),.bool (s.uT c.aP a)])/\bU o w' G q { s with H:=if s.uT c.aP a then s.H.jH a else s.H } c none nv0/\lF o w' (G.D 0) 40 cv r c.aP/\aj (In o dD) w w'):=by
    refine (Vr h.sh hc (.inl (by decide)) h.box8).mono ?_
    rintro e w' ⟨rfl,g1,g2,g3⟩
    exact ⟨rfl,h.vJ g3 rfl g1 rfl,g2,g3.oW (by decide)⟩
   have LY:Hid (∀ W s' ev,bU o W G q s' c ev nv0->lF o W (G.D 0) 40 cv r c.aP->aj (In o dD) w W->aN s c (.block (a::r))=⟨s',c,.block r,ev⟩->Calls aA 298 #[au q.C,cv] W (dM o w G q nv0 (aN s c (.block (a::r))))):=fun W s' ev hW hcW hk e1=>by
    refine (LX (C:=q.C) hW.sh.iV hcW).mono ?_
    rintro e w' ⟨fn,first,caps,rfl,g1,g2⟩
    rw [e1]
    exact ⟨_,rfl,.inr ⟨_,_,_,rfl⟩,o,_,rfl,bZ.refl _ _,hW.still g2,g1,hk.trans g2.bV⟩
   by_cases hfr:s.uT c.aP a=true
   ·have e1:aN s c (.block (a::r))=⟨{ s with H:=s.H.jH a },c,.block r,some (c.ev 5 a)⟩:=by
     simp only [aN]
     unfold Sh.uT at hfr
     rw [aT (by cases hb:s.H.bn a<;>simp_all)]
    rw [hfr,aZ rfl,aZ rfl] at HST
    have zA:Hid (∀ W,bU o W G q { s with H:=s.H.jH a } c none nv0->lF o W (G.D 0) 40 cv r c.aP->aj (In o dD) w W->Calls aA 79 #[au q.C,ah 5,ah (a:Int)] W fun e w'=>e = .returned (.tuple #[])/\aj (In o dD) w w'/\Calls aA 298 #[au q.C,cv] w' (dM o w G q nv0 (aN s c (.block (a::r))))):=fun W hW hcW hk=>by
     refine (DK hW 5 a).mono ?_
     rintro e w' ⟨rfl,g1,g2⟩
     exact ⟨rfl,hk.trans (yh g2),LY.out w' _ _ g1 (hcW.bg g2 rfl rfl) (hk.trans (yh g2)) e1⟩
    clear e1
    generalize aN s c (.block (a::r))=R at *
    generalize ({ s with H:=s.H.jH a }:Sh)=s' at *
    clear h hc hq k0 k1 o0 o1 EO LY hfr
    rcases hcf with rfl|⟨C1,rfl⟩
    all_goals
     go_enter func302,ntmps302
     go_wp2_with fail
     refine Yc.out.mono ?_
     rintro e w1 ⟨rfl,rfl⟩
     go_wp2_with fail
     refine HST.out.mono ?_
     rintro e w2 ⟨rfl,g1,g2,g3⟩
     have afR:=ay (zA.out w2 g1 g2 g3)
     clear y0 y1 y2 y3
     obtain ⟨y0,y1⟩:=HC.out w2 g3
     clear g1 g2 g3 zA HST
     go_wp2_with fail
     refine afR.out.mono ?_
     rintro e w3 ⟨rfl,kk,uz⟩
     have SC:=ay uz
     clear y0 y1
     obtain ⟨y0,y1⟩:=HC.out w3 kk
     clear kk uz afR
     go_wp2_with fail
     refine SC.out.mono ?_
     rintro e w4 ⟨nv,rfl,hf,hp⟩
     have HP:=ay hp
     clear hp SC
     rcases hf with rfl|⟨fn2,first2,caps2,rfl⟩
     all_goals
      go_wp2_with fail
      go_ret
      exact ⟨_,rfl,by first|exact .inl rfl|exact .inr ⟨_,_,_,rfl⟩,HP.out⟩
   ·have AB:s.uT c.aP a=false:=by simpa using hfr
    have e1:aN s c (.block (a::r))=⟨s,c,.block r,none⟩:=by
     simp only [aN]
     unfold Sh.uT at AB
     rw [aZ (by cases hb:s.H.bn a<;>simp_all)]
    rw [AB,aT (by decide),aT (by decide)] at HST
    have zA:Hid (∀ W,bU o W G q s c none nv0->lF o W (G.D 0) 40 cv r c.aP->aj (In o dD) w W->Calls aA 298 #[au q.C,cv] W (dM o w G q nv0 (aN s c (.block (a::r))))):=fun W hW hcW hk=>LY.out W _ _ hW hcW hk e1
    have Hl:Hid (Calls aA 280 #[cv] w fun e w'=>e = .returned (.tuple #[ah 0,.bool false])/\bU o w' G q s c none nv0/\lF o w' (G.D 0) 40 cv r c.aP/\aj (In o dD) w w'):=HST.out
    clear e1
    generalize aN s c (.block (a::r))=R at *
    clear h hc hq k0 k1 o0 o1 EO LY hfr AB HST
    rcases hcf with rfl|⟨C1,rfl⟩
    all_goals
     go_enter func302,ntmps302
     go_wp2_with fail
     refine Yc.out.mono ?_
     rintro e w1 ⟨rfl,rfl⟩
     go_wp2_with fail
     refine Hl.out.mono ?_
     rintro e w2 ⟨rfl,g1,g2,g3⟩
     have SC:=ay (zA.out w2 g1 g2 g3)
     clear y0 y1 y2 y3
     obtain ⟨y0,y1⟩:=HC.out w2 g3
     clear g1 g2 g3 zA Hl
     go_wp2_with fail
     refine SC.out.mono ?_
     rintro e w4 ⟨nv,rfl,hf,hp⟩
     have HP:=ay hp
     clear hp SC
     rcases hf with rfl|⟨fn2,first2,caps2,rfl⟩
     all_goals
      go_wp2_with fail
      go_ret
      exact ⟨_,rfl,by first|exact .inl rfl|exact .inr ⟨_,_,_,rfl⟩,HP.out⟩
end
end
section
open Go.RowKit
theorem SE:∀ args w,(callFunc 82 args).run aA w = .ok (.enter 82 args) w:=fun args w=>by simp [callFunc,func82,go_sem];rfl
theorem LZ:∀ args w,(callFunc 81 args).run aA w = .ok (.enter 81 args) w:=fun args w=>by simp [callFunc,func81,go_sem];rfl
theorem L6:∀ args w,(callFunc 300 args).run aA w = .ok (.enter 300 args) w:=fun args w=>by simp [callFunc,func300,go_sem];rfl
theorem QB:∀ args w,(callFunc 283 args).run aA w = .ok (.enter 283 args) w:=fun args w=>by simp [callFunc,func283,go_sem];rfl
theorem QC:∀ args w,(callFunc 122 args).run aA w = .ok (.enter 122 args) w:=fun args w=>by simp [callFunc,func122,go_sem];rfl
theorem NS:∀ args w,(callFunc 284 args).run aA w = .ok (.enter 284 args) w:=fun args w=>by simp [callFunc,func284,go_sem];rfl
theorem SG:∀ args w,(callFunc 301 args).run aA w = .ok (.enter 301 args) w:=fun args w=>by simp [callFunc,func301,go_sem];rfl
theorem NT:∀ args w,(callFunc 166 args).run aA w = .ok (.enter 166 args) w:=fun args w=>by simp [callFunc,func166,go_sem];rfl
theorem NU:∀ args w,(callFunc 244 args).run aA w = .ok (.enter 244 args) w:=fun args w=>by simp [callFunc,func244,go_sem];rfl
theorem NV:∀ args w,(callFunc 209 args).run aA w = .ok (.enter 209 args) w:=fun args w=>by simp [callFunc,func209,go_sem];rfl
theorem JZ:∀ args w,(callFunc 256 args).run aA w = .ok (.enter 256 args) w:=fun args w=>by simp [callFunc,func256,go_sem];rfl
theorem L8:∀ args w,(callFunc 271 args).run aA w = .ok (.enter 271 args) w:=fun args w=>by simp [callFunc,func271,go_sem];rfl
theorem NW:∀ args w,(callFunc 285 args).run aA w = .ok (.enter 285 args) w:=fun args w=>by simp [callFunc,func285,go_sem];rfl
theorem SH:∀ args w,(callFunc 208 args).run aA w = .ok (.enter 208 args) w:=fun args w=>by simp [callFunc,func208,go_sem];rfl
theorem SI:∀ args w,(callFunc 260 args).run aA w = .ok (.enter 260 args) w:=fun args w=>by simp [callFunc,func260,go_sem];rfl
theorem QD:∀ args w,(callFunc 297 args).run aA w = .ok (.enter 297 args) w:=fun args w=>by simp [callFunc,func297,go_sem];rfl
theorem QE:∀ args w,(callFunc 292 args).run aA w = .ok (.enter 292 args) w:=fun args w=>by simp [callFunc,func292,go_sem];rfl
theorem QF:∀ args w,(callFunc 258 args).run aA w = .ok (.enter 258 args) w:=fun args w=>by simp [callFunc,func258,go_sem];rfl
theorem L9:∀ args w,(callFunc 295 args).run aA w = .ok (.enter 295 args) w:=fun args w=>by simp [callFunc,func295,go_sem];rfl
theorem Mc:∀ args w,(callFunc 290 args).run aA w = .ok (.enter 290 args) w:=fun args w=>by simp [callFunc,func290,go_sem];rfl
theorem Jc:∀ args w,(callFunc 293 args).run aA w = .ok (.enter 293 args) w:=fun args w=>by simp [callFunc,func293,go_sem];rfl
theorem Md:∀ args w,(callFunc 302 args).run aA w = .ok (.enter 302 args) w:=fun args w=>by simp [callFunc,func302,go_sem];rfl
section
variable {o o':Ow} {w w':World} {G:fU} {q:CG} {s:Sh} {c:CS} {ev:Option Ev} {nv nv0:Value} {N:Nat}
theorem aaj (h:bU o w G q s c none nv0) (ok:CK N s c) (hN:N<=1000000000) (d:CD) (hd:qY c.aG c.dU c.cells d) (v:Value) (hv:jW o w (G.D 0) q.C c.aP d v) (hnil:uo d=false) :
 ∃ fn first caps,v = .func (.func fn) first caps/\(∀ args w,(callFunc fn args).run aA w = .ok (.enter fn args) w)/\Calls aA fn (first++caps) w (dM o w G q nv0 (aN s c d)):=by
 have hop:s.Q.dS<=1000000000:=ajU ok.dS (by omega)
 have uP:∀ k,(s.Q.rw k).length<=1000000000:=fun k=>ajU (ok.ql k) (by omega)
 have hc1:s.B.count<=1000000000:=by have:=ok.qJ.2;omega
 have hmu:=ok.mu1
 have hce:=ok.ce
 have uz:=ok.bl
 cases d with
 | nil=>cases hnil
 | sW=>exact ⟨_,_,_,hv,SE,afG h ok.qJ.1 hc1⟩
 | trace=>exact ⟨_,_,_,hv,QC,aep h⟩
 | work=>exact ⟨_,_,_,hv,SH,afN h ok.bD ok.rm.2⟩
 | over=>exact ⟨_,_,_,hv,SI,afP h (ajU ok.wa hN)⟩
 | jV=>exact ⟨_,_,_,hv,QB,aeo h ok.qJ.1 hc1 (ajU ok.dr hN)⟩
 | fP=>exact ⟨_,_,_,hv,NS,acA h⟩
 | eX=>exact ⟨_,_,_,hv,QE,aeu h hop ok.q ok.aP⟩
 | jR=>exact ⟨_,_,_,hv,QD,aes h ⟨hop,uP⟩⟩
 | jE=>exact ⟨_,_,_,hv,SG,afH h⟩
 | uY =>
   obtain ⟨bs,rfl,hc⟩:=hv
   obtain ⟨b0,rfl,⟨o0,k0⟩⟩:=caps1 hc
   exact ⟨_,_,_,rfl,LZ,ahq h ok.qJ.1 hc1 b0 k0⟩
 | off =>
   obtain ⟨bs,rfl,hc⟩:=hv
   obtain ⟨b0,rfl,⟨o0,k0⟩⟩:=caps1 hc
   exact ⟨_,_,_,rfl,L6,ahr h ok.qJ.1 hc1 b0 k0⟩
 | dJ m t =>
   obtain ⟨tv,ht,bs,rfl,hc⟩:=hv
   obtain ⟨b0,b1,b2,rfl,⟨o0,k0⟩,⟨o1,k1⟩,⟨o2,k2⟩⟩:=caps3 hc
   exact ⟨_,_,_,rfl,NT,afI h hmu.2 m hd.1 t tv ht b0 b1 b2 o0 o1 o2 k0 k1 k2⟩
 | lC x t =>
   obtain ⟨tv,ht,bs,rfl,hc⟩:=hv
   obtain ⟨b0,b1,b2,rfl,⟨o0,k0⟩,⟨o1,k1⟩,⟨o2,k2⟩⟩:=caps3 hc
   exact ⟨_,_,_,rfl,NU,afK h ok.bD ok.rm.2 x t tv ht b0 b1 b2 o0 o1 o2 k0 k1 k2⟩
 | iD a t =>
   obtain ⟨tv,ht,bs,rfl,hc⟩:=hv
   obtain ⟨b0,b1,b2,rfl,⟨o0,k0⟩,⟨o1,k1⟩,⟨o2,k2⟩⟩:=caps3 hc
   exact ⟨_,_,_,rfl,JZ,acB h a t tv ht b0 b1 b2 o0 o1 o2 k0 k1 k2⟩
 | field a i n t =>
   obtain ⟨tv,ht,bs,rfl,hc⟩:=hv
   obtain ⟨b0,b1,b2,b3,b4,rfl,⟨o0,k0⟩,⟨o1,k1⟩,⟨o2,k2⟩,⟨o3,k3⟩,⟨o4,k4⟩⟩:=afF hc
   exact ⟨_,_,_,rfl,L8,aer h a i n hd.1 hd.2.1 t tv ht b0 b1 b2 b3 b4 o0 o1 o2 o3 o4 k0 k1 k2 k3 k4⟩
 | cell i =>
   obtain ⟨bs,rfl,hc⟩:=hv
   obtain ⟨b0,b1,rfl,⟨o0,k0⟩,⟨o1,k1⟩⟩:=caps2 hc
   exact ⟨_,_,_,rfl,NV,afL h i (by have:i<c.cells:=hd;omega) b0 b1 k0 k1⟩
 | box m =>
   obtain ⟨bs,rfl,hc⟩:=hv
   obtain ⟨b0,b1,rfl,⟨o0,k0⟩,⟨o1,k1⟩⟩:=caps2 hc
   exact ⟨_,_,_,rfl,QF,aht h m hd ok.mu b0 b1 o0 o1 k0 k1⟩
 | iy b =>
   obtain ⟨bs,rfl,hc⟩:=hv
   obtain ⟨b0,b1,rfl,⟨o0,k0⟩,⟨o1,k1⟩⟩:=caps2 hc
   exact ⟨_,_,_,rfl,NW,afM h b (by have:b<c.dU:=hd;omega) b0 b1 k0 k1⟩
 | iJ b =>
   obtain ⟨bs,rfl,hc⟩:=hv
   obtain ⟨b0,b1,rfl,⟨o0,k0⟩,⟨o1,k1⟩⟩:=caps2 hc
   exact ⟨_,_,_,rfl,Jc,aai h b (by have:b<c.dU:=hd;omega) uP b0 b1 o0 o1 k0 k1⟩
 | bH l t =>
   obtain ⟨tv,lv,ht,hr,bs,rfl,hc⟩:=hv
   obtain ⟨b0,b1,b2,rfl,⟨o0,k0⟩,⟨o1,k1⟩,⟨o2,k2⟩⟩:=caps3 hc
   exact ⟨_,_,_,rfl,Mc,aex h l hd.1 hd.2.1 t tv lv ht hr b0 b1 b2 o0 o1 o2 k0 k1 k2⟩
 | ig t =>
   obtain ⟨tv,ht,bs,rfl,hc⟩:=hv
   obtain ⟨b0,b1,rfl,⟨o0,k0⟩,⟨o1,k1⟩⟩:=caps2 hc
   exact ⟨_,_,_,rfl,L9,aew h ok.bD ok.rm.2 t tv ht b0 b1 o0 o1 k0 k1⟩
 | block sl =>
   obtain ⟨cv,OX,bs,rfl,hc⟩:=hv
   obtain ⟨b0,b1,rfl,⟨o0,k0⟩,⟨o1,k1⟩⟩:=caps2 hc
   exact ⟨_,_,_,rfl,Md,aey h sl hop cv OX b0 b1 o0 o1 k0 k1⟩
end
end
section
attribute [local go_sem] Oper.semAt_some
open Go.RowKit
section
variable {o o':Ow} {w w':World} {G:fU} {q:CG} {s:Sh} {c:CS} {ev:Option Ev} {nv nv0:Value} {N:Nat}
def QO (o:Ow) (w:World) (G:fU) (q:CG) (r:pO) (w':World):Prop :=
 ∃ o' nv,bZ w o o'/\bU o' w' G q r.s r.c r.ev nv/\jW o' w' (G.D 0) q.C r.c.aP r.next nv/\aj (In o dD) w w'
theorem iM.uj {r:pO} {nv:Value} (h:iM o w G q nv0 r (.returned nv) w'):QO o w G q r (w'.setCell ⟨q.C,10,none⟩ nv):=by
 obtain ⟨o',nY,e,eo,h1,h2,k⟩:=h
 cases e
 obtain ⟨h3,k3⟩:=h1.put 10 nv r.c r.ev nv rfl ⟨rfl,rfl,rfl⟩
 exact ⟨o',nv,eo,h3,h2.bg k3 rfl rfl,k.KN (yh k3) eo⟩
theorem iM.c10 {r:pO} {nv:Value} (h:iM o w G q nv0 r (.returned nv) w'):w'.cell? ⟨q.C,10,none⟩=some nv0/\w'.frozen? ⟨q.C,10,none⟩=false:=by
 obtain ⟨o',nY,e,eo,h1,h2,k⟩:=h
 exact ⟨h1.cell 10 _ rfl,h1.free 10⟩
theorem Yd (h:bU o w G q s c none nv0) (oG:c.aP<2) (hcy:c.cu<=1000000000) (hc0:0<=s.B.count) (hc1:s.B.count<=1000000000):Calls aA 43 #[au q.C] w fun e w'=>e = .returned (.tuple #[])/\QO o w G q (mD s c) w':=by
 obtain ⟨W0,hW0⟩:∃ W',W'=w.alloc (.cells #[aJ q.C] 30):=⟨_,rfl⟩
 have hk:aj aB w W0:=by rw [hW0];exact (aj.refl _ _).alloc _
 have hb:aF W0 w.heap.size [aJ q.C] 30:=by rw [hW0];exact aF.bC w _ _
 have o0:o w.heap.size=0:=h.sh.iV _ (aje _)
 have h0:=h.still hk
 obtain ⟨W1,hW1⟩:∃ W',W'=W0.setCell ⟨q.C,7,none⟩ (.bool false):=⟨_,rfl⟩
 obtain ⟨h1,k1⟩:=h0.put 7 (.bool false) { c with jM:=false } none nv0 rfl ⟨rfl,rfl,rfl⟩
 rw [<- hW1] at h1 k1
 obtain ⟨W2,hW2⟩:∃ W',W'=W1.setCell ⟨q.C,6,none⟩ (ah ((c.cu:Int)+1)):=⟨_,rfl⟩
 obtain ⟨h2,k2⟩:=h1.put 6 (ah ((c.cu:Int)+1)) { c with jM:=false,cu:=c.cu+1 } none nv0 (by show _=nJ G q _ _ _;unfold nJ;push_cast;rfl) ⟨rfl,rfl,rfl⟩
 rw [<- hW2] at h2 k2
 have k02:aj (In o [5]) W0 W2:=k1.trans k2
 have hb2:=hb.bg k02 o0 rfl
 have hw1:IntKind.i64.wrap ((c.cu:Int)+1)=(c.cu:Int)+1:=ajw _ (by omega)
 have hw2:IntKind.i64.wrap (1 - (c.aP:Int))=1 - (c.aP:Int):=ajw _ (by omega)
 have y7:=h0.cell 7 _ rfl
 have f7:=h0.free 7
 have z0:=hb.cell 0 (v := au q.C) rfl
 have y6:=h1.cell 6 _ rfl
 have f6:=h1.free 6
 have z1:=(hb.bg k1 o0 rfl).cell 0 (v := au q.C) rfl
 have y5:=h2.cell 5 _ rfl
 have f5:=h2.free 5
 have z2:=hb2.cell 0 (v := au q.C) rfl
 obtain ⟨W3,hW3⟩:∃ W',W'=(W2.setCell ⟨q.C,5,none⟩ (ah (1 - (c.aP:Int)))).drew:=⟨_,rfl⟩
 obtain ⟨c3,hc3⟩:∃ c':CS,c'={ c with jM:=false,cu:=c.cu+1,aP:=1 - c.aP }:=⟨_,rfl⟩
 obtain ⟨h3,k3⟩:=h2.put 5 (ah (1 - (c.aP:Int))) { c with jM:=false,cu:=c.cu+1,aP:=1 - c.aP } none nv0 (by show _=nJ G q _ _ _;unfold nJ;rw [show ((1 - c.aP:Nat):Int)=1 - (c.aP:Int) by omega];rfl) ⟨rfl,rfl,rfl⟩
 have kd3:aj aB (W2.setCell ⟨q.C,5,none⟩ (ah (1 - (c.aP:Int)))) W3:=by rw [hW3];exact (aj.refl aB _).drew
 have h3':=h3.still kd3
 have k03:aj (In o [5]) W0 W3:=(k02.trans k3).trans kd3.bV
 have hb3:=hb.bg k03 o0 rfl
 have k3I:aj (In o dD) w W3:=hk.bV.trans (yh k03)
 rw [<- hc3] at h3'
 have x0:=hb3.cell 0 (v := au q.C) rfl
 have x6:W3.cell? ⟨q.C,6,none⟩=some (ah ((c.cu:Int)+1)):=by
  have:=h3'.cell 6 _ rfl
  rw [hc3] at this
  push_cast at this
  exact this
 have es:mD s c=Au s c3 1 .uY (some (c3.ev 2 (c.cu+1))):=by rw [hc3];rfl
 have HT:Hid (Calls aA 79 #[au q.C,ah 2,ah ((c.cu:Int)+1)] W3.drew fun e w'=>e = .returned (.tuple #[])/\bU o w' G q s c3 (some (c3.ev 2 (c.cu+1))) nv0/\w'.cell? ⟨w.heap.size,0,none⟩=some (au q.C)/\aj (In o dD) W0 w'):=by
  have kd:aj aB W3 W3.drew:=(aj.refl aB W3).drew
  have g:=DK (h3'.still kd) 2 (c.cu+1)
  rw [show ((c.cu+1:Nat):Int)=(c.cu:Int)+1 by push_cast;rfl] at g
  refine g.mono ?_
  rintro e w' ⟨rfl,g1,g2⟩
  have kk:=kd.bV.trans g2
  exact ⟨rfl,g1,(hb3.bg kk o0 rfl).cell 0 rfl,yh (k03.trans kk)⟩
 have HAK:Hid (∀ V,bU o V G q s c3 (some (c3.ev 2 (c.cu+1))) nv0->aj (In o dD) W0 V->Calls aA 80 #[au q.C,ah 1,.func (.func 81) #[] #[au w.heap.size]] V.drew fun e w'=>∃ fn first caps,e = .returned (.func (.func fn) first caps)/\w'.cell? ⟨q.C,10,none⟩=some nv0/\w'.frozen? ⟨q.C,10,none⟩=false/\w'.cell? ⟨w.heap.size,0,none⟩=some (au q.C)/\(w'.setCell ⟨q.C,10,none⟩ (.func (.func fn) first caps)).cell? ⟨w.heap.size,0,none⟩=some (au q.C)/\Hid (QO o w G q (mD s c) (w'.setCell ⟨q.C,10,none⟩ (.func (.func fn) first caps)))):=fun V hV0 ahV=>by
  have hV:=hV0.still (aj.refl aB V).drew
  have hkV:aj (In o dD) W0 V.drew:=ahV.trans (aj.refl (In o dD) V).drew
  have hbV:aF V.drew w.heap.size [aJ q.C] 30:=hb.bg hkV o0 iW
  have ht:dK o V.drew q.C .uY (.func (.func 81) #[] #[au w.heap.size]):=⟨[w.heap.size],rfl,_,_,rfl,o0,hbV,rfl⟩
  have g:=Ae hV 1 ht hc0 hc1
  rw [<- es] at g
  refine g.mono ?_
  rintro e w' ⟨nv,rfl,hf,hp⟩
  obtain ⟨o2,nv2,e2,eo2,h4,h5,k4⟩:=id hp
  cases e2
  have hfn:∃ fn first caps,nv = .func (.func fn) first caps:=by
   rcases h5.form with ⟨h6,_⟩|⟨_,h6⟩
   ·rw [es] at h6;cases h6
   ·exact h6
  obtain ⟨fn,first,caps,rfl⟩:=hfn
  have hb4:=hbV.bg k4 o0 iW
  have hne:w.heap.size≠q.C:=fun e=>by
   have h9:=h.aH.lt
   rw [<- e] at h9
   exact absurd h9 (Nat.lt_irrefl _)
  exact ⟨fn,first,caps,rfl,hp.c10.1,hp.c10.2,hb4.cell 0 rfl,(hb4.uh (a:=⟨q.C,10,none⟩) hne _).cell 0 rfl,(hp.after (hk.bV.trans hkV)).uj⟩
 have HW0:=ay hW0
 have HW1:=ay hW1
 have HW2:=ay hW2
 have HW3:=ay hW3
 rw [hW0] at y7 f7 z0
 rw [hW1,hW0] at y6 f6 z1
 have hmf:=mV
 generalize mD s c=R at *
 generalize c3.ev 2 (c.cu+1)=zo at *
 generalize c.cu=cy at *
 generalize c.aP=co at *
 clear hW0 hW1 hW2 hW3 h h0 h1 h2 h3 h3' k1 k2 k02 k3 kd3 k03 k3I hb hb2 hb3 hk es hc3
 go_enter func43,ntmps43
 go_wp2_with fail
 rw [<- HW0.out,<- HW1.out,<- HW2.out]
 go_region
 rw [<- HW3.out]
 clear y5 f5 z2 y6 f6 z1 y7 f7 z0
 go_wp2_with fail
 refine bG 5 rfl (by kernel_rfl) (by kernel_rfl) (fun K hK=>?_)
 change wpStill _ _ (ajr _) _ _ _
 simp only [List.take_succ_cons,ajs,ajt,ajn] at hK ⊢
 repeat still_step
 refine wpStill_nil ?_
 change ite _ (Oper.wp _ _ _ _ _ _) _
 go_simp
 refine HT.out.mono ?_
 rintro e w4 ⟨rfl,h4,x4,k4⟩
 refine hK _ _ ?_
 clear hK K
 have nV:=ay (HAK.out w4 h4 k4)
 clear h4 k4 HT HAK x0 x6
 repeat still_step
 refine wpStill_nil ?_
 go_wp2_with fail
 go_region_held3 (fun W'=>W'.cell? ⟨w.heap.size,0,none⟩=some (au q.C))
  (first
   | exact x4
   | exact zs
   | exact zn
   | fail "nR")
  (first
   | (go_at_call 80
      refine nV.out.mono ?_
      rintro e w5 ⟨fn,first,caps,rfl,y10,f10,zn,zs,hp⟩
      have HP:=ay hp.out
      clear hp)
   | fail "qg")
 all_goals
  go_end0
  exact ⟨rfl,HP.out⟩
end
section
variable {o:Ow} {w w':World} {Nt M:Nat}
theorem Ye (fn:Nat) (caps:Array Value) (w:World):Calls aA 127 #[.func (.func fn) #[] caps] w fun e w'=>e = .returned (.func (.func 169) #[] #[aJ w.heap.size])/\w'=w.alloc (.cells #[.func (.func fn) #[] caps] 1):=by
 have hmf:=mV
 go_enter func127,ntmps127
 go_wp2_with fail
 go_ret
 exact ⟨rfl,rfl⟩
def yN (o:Ow) (w:World) (M:Nat) (k:Int) (lv:Value):Prop :=
 if k=1 then dW o w 130 [([aJ M],56)] lv
 else if k=2 then dW o w 132 [] lv
 else if k=3 then dW o w 133 [([aJ M],56)] lv
 else if k=5 then dW o w 137 [([aJ M],56)] lv
 else dW o w 138 [([aJ M],56)] lv
theorem yN.still {k:Int} {lv:Value} (h:yN o w M k lv) (kk:aj aB w w'):yN o w' M k lv:=by
 unfold yN at h ⊢
 by_cases e1:k=1
 ·rw [aZ e1] at h ⊢;exact h.aK kk (fun _ _ f=>f)
 rw [aT e1] at h ⊢
 by_cases e2:k=2
 ·rw [aZ e2] at h ⊢;exact h.aK kk (fun _ _ f=>f)
 rw [aT e2] at h ⊢
 by_cases e3:k=3
 ·rw [aZ e3] at h ⊢;exact h.aK kk (fun _ _ f=>f)
 rw [aT e3] at h ⊢
 by_cases e5:k=5
 ·rw [aZ e5] at h ⊢;exact h.aK kk (fun _ _ f=>f)
 rw [aT e5] at h ⊢
 exact h.aK kk (fun _ _ f=>f)
theorem yN.once {k:Int} {lv dv v:Value} (h:yN o w M k lv) (h1:dW o w 128 [([lv],1),([aJ M],56)] dv) (h2:dW o w 169 [([dv],1)] v):fE o w Nt M (.once k) v:=by
 refine ⟨dv,h2,?_⟩
 unfold yN at h
 by_cases e1:k=1
 ·rw [aZ e1] at h ⊢;exact ⟨lv,h1,h⟩
 rw [aT e1] at h ⊢
 by_cases e2:k=2
 ·rw [aZ e2] at h ⊢;exact ⟨lv,h1,h⟩
 rw [aT e2] at h ⊢
 by_cases e3:k=3
 ·rw [aZ e3] at h ⊢;exact ⟨lv,h1,h⟩
 rw [aT e3] at h ⊢
 by_cases e5:k=5
 ·rw [aZ e5] at h ⊢;exact ⟨lv,h1,h⟩
 rw [aT e5] at h ⊢
 exact ⟨lv,h1,h⟩
theorem Ho (hf:kJ o w) (k:Int) (fn:Nat) (caps:Array Value) (hl:yN o w M k (.func (.func fn) #[] caps)) (b:Nat) (hb:o b=0) (kb:aF w b [aJ M] 56):Calls aA 126 #[.func (.func fn) #[] caps,au b] w fun e w'=>∃ fn caps,e = .returned (.func (.func fn) #[] caps)/\fE o w' Nt M (.once k) (.func (.func fn) #[] caps)/\aj aB w w':=by
 have hc:=kQ (o:=o) [([.func (.func fn) #[] caps],1),([.func (.func 128) #[] #[aJ w.heap.size,aJ b]],1)] w hf
 have HE:Hid (fE o (eG w [([.func (.func fn) #[] caps],1),([.func (.func 128) #[] #[aJ w.heap.size,aJ b]],1)]) Nt M (.once k) (.func (.func 169) #[] #[aJ (w.heap.size+1)])/\aj aB w (eG w [([.func (.func fn) #[] caps],1),([.func (.func 128) #[] #[aJ w.heap.size,aJ b]],1)])):=by
  obtain ⟨b0,b1,e,⟨o0,k0⟩,⟨o1,k1⟩⟩:=caps2 hc.1
  simp only [vY,List.cons.injEq] at e
  obtain ⟨rfl,rfl,_⟩:=e
  exact ⟨(hl.still hc.2).once ⟨[w.heap.size,b],rfl,_,_,rfl,o0,k0,_,_,rfl,hb,hc.2.aH kb (fun f=>f),rfl⟩ ⟨[w.heap.size+1],rfl,_,_,rfl,o1,k1,rfl⟩,hc.2⟩
 have hmf:=mV
 clear hc hl hb kb hf
 go_enter func126,ntmps126
 go_wp2_with fail
 refine (Ye _ _ _).mono ?_
 rintro e w1 ⟨rfl,rfl⟩
 simp only [World.size_alloc]
 go_wp2_with fail
 go_ret
 exact ⟨_,_,rfl,HE.out.1,HE.out.2⟩
end
section
variable {o:Ow} {w w':World} {Nt M:Nat}
theorem SL (hf:kJ o w) (k:Int) (h35:k≠3/\k≠5):Calls aA 91 #[au M,ah k] w fun e w'=>∃ fn caps,e = .returned (.func (.func fn) #[] caps)/\fE o w' Nt M (.once k) (.func (.func fn) #[] caps)/\aj aB w w':=by
 obtain ⟨W1,hW1⟩:∃ W1,W1=w.alloc (.cells #[aJ M] 56):=⟨_,rfl⟩
 have k1:aj aB w W1:=by rw [hW1];exact (aj.refl _ _).alloc _
 have hb1:aF W1 w.heap.size [aJ M] 56:=by rw [hW1];exact aF.bC w _ _
 have ho:o w.heap.size=0:=hf _ (aje _)
 have HL:Hid (∀ fn caps,yN o W1 M k (.func (.func fn) #[] caps)->Calls aA 126 #[.func (.func fn) #[] caps,au w.heap.size] W1 fun e w'=>∃ fn caps,e = .returned (.func (.func fn) #[] caps)/\fE o w' Nt M (.once k) (.func (.func fn) #[] caps)/\aj aB w w'):=fun fn caps hl=>by
  refine (Ho (Nt:=Nt) (hf.aK k1) k fn caps hl w.heap.size ho hb1).mono ?_
  rintro e w' ⟨fn,caps,rfl,h1,h2⟩
  exact ⟨fn,caps,rfl,h1,k1.trans h2⟩
 have HW1:=ay hW1
 have hmf:=mV
 have d3:(k==3)=false:=by simpa using h35.1
 have d5:(k==5)=false:=by simpa using h35.2
 by_cases e1:k=1
 ·subst e1
  have EI:=ay (HL.out 130 #[au w.heap.size] (by unfold yN;rw [aZ rfl];exact ⟨[w.heap.size],rfl,_,_,rfl,ho,hb1,rfl⟩))
  clear HL d3 d5 k1 hb1 ho hW1 hf h35
  go_enter func91,ntmps91
  go_wp2_with fail
  rw [<- HW1.out]
  refine EI.out.mono ?_
  rintro e w2 ⟨fn,caps,rfl,h1,h2⟩
  have HE:=ay (And.intro h1 h2)
  clear h1 h2
  go_wp2_with fail
  go_ret
  exact ⟨_,_,rfl,HE.out.1,HE.out.2⟩
 have d1:(k==1)=false:=by simpa using e1
 by_cases e2:k=2
 ·subst e2
  have EI:=ay (HL.out 132 #[] (by unfold yN;rw [aT (by decide),aZ rfl];exact ⟨[],rfl,rfl⟩))
  clear HL d3 d5 d1 k1 hb1 ho hW1 hf h35 e1
  go_enter func91,ntmps91
  go_wp2_with fail
  rw [<- HW1.out]
  refine EI.out.mono ?_
  rintro e w2 ⟨fn,caps,rfl,h1,h2⟩
  have HE:=ay (And.intro h1 h2)
  clear h1 h2
  go_wp2_with fail
  go_ret
  exact ⟨_,_,rfl,HE.out.1,HE.out.2⟩
 have d2:(k==2)=false:=by simpa using e2
 have EI:=ay (HL.out 138 #[au w.heap.size] (by unfold yN;rw [aT e1,aT e2,aT h35.1,aT h35.2];exact ⟨[w.heap.size],rfl,_,_,rfl,ho,hb1,rfl⟩))
 clear HL k1 hb1 ho hW1 hf h35 e1 e2
 go_enter func91,ntmps91
 go_wp2_with fail
 rw [<- HW1.out]
 refine EI.out.mono ?_
 rintro e w2 ⟨fn,caps,rfl,h1,h2⟩
 have HE:=ay (And.intro h1 h2)
 clear h1 h2
 go_wp2_with fail
 go_ret
 exact ⟨_,_,rfl,HE.out.1,HE.out.2⟩
end
section
variable {o:Ow} {w w':World} {G:fU} {g:MG} {s:Sh} {m:MS} {nv:Value} {ev:Option Ev}
theorem aak {c:Nat} {t:MD} (h:JW t=true):JW (m.pK c t)=true:=by
 unfold MS.pK
 split
 ·exact h
 ·rfl
theorem SN (h:bM o w G g s m ev nv):Calls aA 91 #[au g.M,ah 5] w fun e w'=>∃ fn caps,e = .returned (.func (.func fn) #[] caps)/\fE o w' g.Nt g.M (m.pK m.dQ (.once 5)) (.func (.func fn) #[] caps)/\aj aB w w':=by
 obtain ⟨W1,hW1⟩:∃ W1,W1=w.alloc (.cells #[aJ g.M] 56):=⟨_,rfl⟩
 have k1:aj aB w W1:=by rw [hW1];exact (aj.refl _ _).alloc _
 have hb1:aF W1 w.heap.size [aJ g.M] 56:=by rw [hW1];exact aF.bC w _ _
 have ho:o w.heap.size=0:=h.sh.iV _ (aje _)
 have h1:=h.still k1
 have c0:W1.cell? ⟨w.heap.size,0,none⟩=some (au g.M):=hb1.cell 0 rfl
 have c11:=h1.c11
 have c14:=h1.c14
 have hkd:aj aB W1 W1.drew:=(aj.refl aB W1).drew
 have HL:Hid (Calls aA 126 #[.func (.func 137) #[] #[au w.heap.size],au w.heap.size] W1.drew fun e w'=>∃ fn caps,e = .returned (.func (.func fn) #[] caps)/\(w'.cell? ⟨w.heap.size,0,none⟩=some (au g.M)/\w'.cell? ⟨g.M,11,none⟩=some (au g.Nt)/\w'.cell? ⟨g.M,14,none⟩=some (ah (m.dQ:Int))) /\
  Hid (Calls aA 136 #[au g.Nt,ah (m.dQ:Int),.func (.func fn) #[] caps] w' fun e w2=>∃ fn caps,e = .returned (.func (.func fn) #[] caps)/\(w2.cell? ⟨w.heap.size,0,none⟩=some (au g.M)/\w2.cell? ⟨g.M,11,none⟩=some (au g.Nt)/\w2.cell? ⟨g.M,14,none⟩=some (ah (m.dQ:Int)))/\fE o w2 g.Nt g.M (m.pK m.dQ (.once 5)) (.func (.func fn) #[] caps)/\aj aB w w2)):=by
  refine (Ho (Nt:=g.Nt) (h1.sh.iV.aK hkd) 5 137 #[au w.heap.size] (by unfold yN;rw [aT (by decide),aT (by decide),aT (by decide),aZ rfl];exact ⟨[w.heap.size],rfl,_,_,rfl,ho,hkd.aH hb1 (fun f=>f),rfl⟩) w.heap.size ho (hkd.aH hb1 (fun f=>f))).mono ?_
  rintro e w2 ⟨fn,caps,rfl,h2,k2⟩
  have k12:=hkd.trans k2
  have hM2:=h1.still k12
  refine ⟨fn,caps,rfl,⟨k12.still c0,k12.still c11,k12.still c14⟩,?_⟩
  refine (Ls hM2 m.dQ (.once 5) _ h2).mono ?_
  rintro e w3 ⟨nv3,rfl,h3,k3⟩
  obtain ⟨fn3,caps3,rfl⟩:=h3.aci (aak rfl)
  have k13:=k12.trans k3
  exact ⟨fn3,caps3,rfl,⟨k13.still c0,k13.still c11,k13.still c14⟩,h3,k1.trans k13⟩
 have HW1:=ay hW1
 have hmf:=mV
 generalize m.pK m.dQ (.once 5)=d at *
 generalize m.dQ=mw at *
 clear h h1 hW1 k1 hb1 ho hkd
 go_enter func91,ntmps91
 go_wp2_with fail
 rw [<- HW1.out]
 go_region_held3 (fun w'=>w'.cell? ⟨w.heap.size,0,none⟩=some (au g.M)/\w'.cell? ⟨g.M,11,none⟩=some (au g.Nt)/\w'.cell? ⟨g.M,14,none⟩=some (ah (mw:Int)))
  (first | exact ⟨c0, c11, c14⟩ | exact h5.out | exact h6.out | fail "nR")
  (first
   | (refine HL.out.mono ?_
      rintro e w5 ⟨fn,caps,rfl,h5',HFi⟩
      have h5:=ay h5'
      clear h5')
   | (refine HFi.out.mono ?_
      rintro e w6 ⟨fn6,caps6,rfl,h6',hp,hk⟩
      have h6:=ay h6'
      have HP:=ay (And.intro hp hk)
      clear h6' hp hk)
   | fail "qg")
 clear HL HFi c0 c11 c14 h5 h6
 go_wp2_with fail
 go_ret
 exact ⟨_,_,rfl,HP.out.1,HP.out.2⟩
end
def vM (xs:List Nat):List (Nat × Nat):=(List.range xs.length).map fun j=>(xs.length - 1 - j,xs.getD (xs.length - 1 - j) 0)
theorem yj (xs:List Nat):(vM xs).length=xs.length:=by simp [vM]
theorem FM {xs:List Nat} {j:Nat} (h:j<xs.length):(vM xs)[j]?=some (xs.length - 1 - j,xs.getD (xs.length - 1 - j) 0):=by simp [vM,h]
def xP (pB X:Nat):Nat->Prop:=fun i=>i=pB\/i=X
theorem O7 (a:Option Addr) (n c:Nat) (w:World):Calls aA 134 #[.slice a n c] w fun e w'=>e = .returned (.func (.func 170) #[] #[au w.heap.size])/\w'=w.alloc (.cells #[.slice a n c] 32):=by
 have hmf:∀ (fn:Fn) (first aO:Array Value) (w:World),(Instr.makeFunc fn first aO).run aA w = .ok (.func fn first aO) w:=fun _ _ _ _=>rfl
 go_enter func134,ntmps134
 go_wp2_with fail
 go_ret
 exact ⟨rfl,rfl⟩
theorem acC (xs:List Nat) (pB X:Nat) (hn:xs.length<=64) (m:Nat) (w:World) (hbp:aF w pB [.slice (some ⟨X,0,none⟩) xs.length xs.length] 32) (hbx:aF w X (aS xs) 3) :
 JE Fence.wide m aA 170 #[au pB] (vM xs) Fj (xP pB X) w:=by
 intro l J Jx W hW hJ hJx hY h0
 have hbp1:=hW.aH hbp (fun f=>f)
 have hbx1:=hW.aH hbx (fun f=>f)
 have hc0:=hbp1.cell 0 (v := .slice (some ⟨X,0,none⟩) xs.length xs.length) rfl
 have HLEN:=ay (yj xs)
 have HAT:Hid (∀ j q,j+q+1=xs.length->(vM xs)[j]?=some (q,xs.getD q 0)):=fun j q e=>by
  rw [FM (by omega),show xs.length - 1 - j=q by omega]
 have HV:Hid (∀ q wr,q<xs.length->aF wr X (aS xs) 3->wr.cell? ⟨X,q,none⟩=some (ah ((xs.getD q 0:Nat):Int))):=fun q wr hq hb=>hb.cell q (uw hq)
 have O8:(xs.length:Int)<=64:=by omega
 have hw0:IntKind.i64.wrap ((xs.length:Int) - 1)=(xs.length:Int) - 1:=ajw _ (by omega)
 generalize vM xs=L at *
 obtain ⟨tv,O9⟩:∃ tv,tv=aS xs:=⟨_,rfl⟩
 rw [<- O9] at hbx1 HV
 obtain ⟨ni,hat⟩:∃ f:Nat->Nat,f=fun q=>xs.getD q 0:=⟨_,rfl⟩
 have acD:Hid (∀ j q,j+q+1=xs.length->L[j]?=some (q,ni q)):=fun j q e=>by rw [hat];exact HAT.out j q e
 have HV2:Hid (∀ q wr,q<xs.length->aF wr X tv 3->wr.cell? ⟨X,q,none⟩=some (ah ((ni q:Nat):Int))):=fun q wr h1 h2=>by rw [hat];exact HV.out q wr h1 h2
 clear HAT HV hat O9 hbx hbp
 generalize xs.length=n at *
 refine callsIn_of_wp func170 rfl trivial ?_ rfl
 simp only [ntmps170,List.size_toArray,List.length_cons,List.length_nil,Nat.reduceAdd,Nat.reduceSub,Array.replicate_succ,Array.replicate_zero,List.push_toArray,List.append_toArray,List.nil_append,List.cons_append]
 gi_wp2_with fail
 gi_loopw [3] (fun v wr=>∃ (j:Nat) (i:Int),j<=n/\i=(n:Int) - 1 - j/\v = ah i/\J j wr/\jG (xP pB X) W wr) (fun v _=>(intOf v+1).toNat)
 case atStart=>exact ⟨0,_,by omega,by omega,rfl,h0,jG.refl _ _⟩
 case round =>
  obtain ⟨j,i,hj,hi,rfl,uK,hH⟩:=hrel
  have b1:=hH.aH (.inl rfl) hbp1
  have b2:=hH.aH (.inr rfl) hbx1
  have c1:=b1.cell 0 (v := .slice (some ⟨X,0,none⟩) n n) rfl
  by_cases hlt:j<n
  ·obtain ⟨q,rfl⟩:∃ q:Nat,i=(q:Int):=⟨i.toNat,by omega⟩
   have hq:j+q+1=n:=by omega
   have hqn:q<n:=by omega
   have hq0:(0:Int)<=(q:Int):=by omega
   have Pg:(q:Int)<(n:Int):=by omega
   have c2:=HV2.out q wr hqn b2
   have hL:=acD.out j q hq
   have hwq:IntKind.i64.wrap ((q:Int) - 1)=(q:Int) - 1:=ajw _ (by omega)
   generalize ni q=x at *
   have HY:=ay hY
   have HJ:=ay uK
   have HQ:=ay hq
   clear hY uK hi hq
   obtain ⟨fn,tmps,assign,body,hy,hR⟩:=HY.out j (q,x) #[ah (q:Int),ah (x:Int)] wr hL HJ.out rfl
   gi_wp2_with fail
   refine ⟨fun h=>(by cases h),hR.mono ?_⟩
   rintro e W' (⟨rfl,hJ',hk⟩|⟨rfl,BX⟩)
   ·gi_wp2_with fail
    go_roundw
    case rel=>exact ⟨j+1,(q:Int) - 1,by omega,by have:=HQ.out;omega,by go_num,hJ',hH.trans hk⟩
    case measure=>simp [intOf]<;>omega
   ·gi_wp2_with fail
    refine bodyPost_ret (results_none rfl _ _ _) rfl ?_
    exact ⟨⟨_,rfl⟩,.inr ⟨j+1,by rw [HLEN.out];omega,BX⟩⟩
  ·clear hY
   obtain rfl:i = -1:=by omega
   have GR:Hid (j=n):=by unfold Hid;omega
   clear hi
   gi_wp2_with fail
   go_end0
   exact ⟨⟨_,rfl⟩,.inl (by rw [HLEN.out,<- GR.out];exact uK)⟩
end
end Go.Proofs.YtanfphjoebobaaaGreatDoor
