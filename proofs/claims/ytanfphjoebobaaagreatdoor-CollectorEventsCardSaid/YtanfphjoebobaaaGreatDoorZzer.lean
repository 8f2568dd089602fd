/- Parts of the walk. No conditions. -/
import Derived.Test.YtanfphjoebobaaaGreatDoorZzeq
namespace Go.Proofs.YtanfphjoebobaaaGreatDoor
open _root_.Go.Proofs.Tryz hiding prog
open _root_.Go.Proofs.Tryz renaming prog->ay
set_option maxRecDepth 8000
set_option maxHeartbeats 8000000
section
attribute [local go_sem] Oper.semAt_some
open Go.RowKit
section
variable {o o':Ow} {w w':World} {G:Geo} {q:CG} {s:Sh} {c:CS} {ev:Option Ev} {nv nv0:Value}
theorem Z9 (h:aP o w G q s c none nv0) (hl:c.stk.length<=c.room) (hr:c.room<=4096) (t:CD) (tv:Value) (ht:bg o w q.C t tv) (b0 b1:Nat) (o0:o b0=0) (o1:o b1=0) (k0:aA w b0 [aB q.C] 30) (k1:aA w b1 [tv] 88) :
 Calls ay 295 #[aj b0,aj b1] w (bF o w G q nv0 (aC s c (.empty t))):=by
 have HC:Hid (∀ V,Keep (In o aY) w V->V.cell? ⟨b0,0,none⟩=some (aj q.C)/\V.cell? ⟨b1,0,none⟩=some tv):=fun V hV =>
  ⟨(hV.blk k0 (bI o0 eY)).cell 0 rfl,(hV.blk k1 (bI o1 eY)).cell 0 rfl⟩
 obtain ⟨y0,y1⟩:=HC.out w (Keep.refl _ _)
 have y9:=h.FY
 have hform:=ht.forms
 cases hx:c.stk.getLast? with
 | none =>
   have e1:aC s c (.empty t)=⟨s,c,t,none⟩:=by simp only [aC,hx]
   have qw:=au (L6 h hx)
   have HE:Hid (∀ V,aP o V G q s c none nv0->Keep none_ w V->eG o w G q nv0 (aC s c (.empty t)) (.returned tv) V):=fun V hV hk=>by
    rw [e1]
    exact eG.same (r:=⟨s,c,t,none⟩) hV (ht.still hk) hk.aS
   clear e1
   generalize aC s c (.empty t)=R at *
   clear h hx hl hr ht k0 k1 o0 o1
   rcases hform with rfl|⟨fn,first,caps,rfl⟩
   all_goals
    go_enter func295,ntmps295
    go_wp2_with fail
    refine qw.out.mono ?_
    rintro e w1 ⟨rfl,h1,k1⟩
    have HP:=au (HE.out w1 h1 k1)
    clear y0 y1 y9
    obtain ⟨y0,y1⟩:=HC.out w1 k1.aS
    clear h1 k1 HE qw
    go_wp2_with fail
    go_ret
    exact ⟨_,rfl,by first|exact .inl rfl|exact .inr ⟨_,_,_,rfl⟩,HP.out⟩
 | some a =>
   have e1:aC s c (.empty t)=⟨s,c.pop,.object a (.empty t),none⟩:=by simp only [aC,hx]
   have qw:=au (I4 h hl hr a hx)
   have Qh:Hid (∀ V,aP o V G q s c.pop none nv0/\Keep (In o aY) w V->Calls ay 291 #[aj q.C,tv] V fun e w'=>∃ nv,e = .returned nv/\bg o w' q.C (.empty t) nv/\aP o w' G q s c.pop none nv0/\Keep (In o aY) w w'):=fun V hV=>by
    refine (FV hV.1.sh.fC q.C (ht.aH hV.2 eY)).mono ?_
    rintro e w' ⟨nv,rfl,g1,g2⟩
    exact ⟨nv,rfl,g1,hV.1.still g2,hV.2.trans g2.aS⟩
   have DF:Hid (∀ V nv,bg o V q.C (.empty t) nv/\aP o V G q s c.pop none nv0/\Keep (In o aY) w V->Calls ay 242 #[aj q.C,ah (a:Int),nv] V fun e w'=>bF o w G q nv0 (aC s c (.empty t)) e w'/\Keep (In o aY) w w'):=fun V nv hV=>by
    rw [e1]
    exact bF.made2 hV.2.2 (r:=⟨s,c.pop,.object a (.empty t),none⟩) hV.2.1 hV.2.2 (yC hV.2.1.sh.fC q.C a hV.1)
   have HDR:Hid (∀ V,aP o V G q s c.pop none nv0/\Keep (In o aY) w V->aP o V.drew G q s c.pop none nv0/\Keep (In o aY) w V.drew):=fun V hV=>⟨hV.1.still ((Keep.refl none_ V).drew),hV.2.trans ((Keep.refl _ V).drew)⟩
   clear e1
   generalize aC s c (.empty t)=R at *
   generalize c.pop=c' at *
   clear h hx hl hr ht k0 k1 o0 o1
   rcases hform with rfl|⟨fn,first,caps,rfl⟩
   ·skip
    go_enter func295,ntmps295
    go_wp2_with fail
    refine qw.out.mono ?_
    rintro e w1 ⟨rfl,h1,k1⟩
    have aJ:=au (And.intro h1 (qX k1))
    clear y0 y1 y9
    obtain ⟨y0,y1⟩:=HC.out w1 aJ.out.2
    clear h1 k1 qw
    go_wp2_with fail
    go_region_held3 (fun W'=>W'.cell? ⟨b0,0,none⟩=some (aj q.C)/\W'.cell? ⟨b1,0,none⟩=some (.nilFunc))
     (first
      | exact ⟨y0,y1⟩
      | exact HC.out _ gy.out
      | exact HC.out _ HX.out.2.2
      | exact HC.out _ (HDR.out _ aJ.out).2
      | fail "ji")
     (first
      | (go_at_call 291
         refine (Qh.out _ (by first|exact HDR.out _ aJ.out|exact aJ.out)).mono ?_
         rintro e w2 ⟨nv,rfl,hx⟩
         have HX:=au hx
         clear hx)
      | (go_at_call 242
         refine (DF.out _ _ HX.out).mono ?_
         rintro e w3 ⟨⟨nv3,rfl,hf3,hp3⟩,k3⟩
         have gy:=au k3
         have HP:=au hp3
         have wV:=au hf3
         clear hp3 hf3 k3)
      | fail "jZ")
    all_goals
     have hfm:=wV.out
     rcases hfm with rfl|⟨fn2,first2,caps2,rfl⟩
     all_goals
      go_wp2_with fail
      go_ret
      exact ⟨_,rfl,by first|exact .inl rfl|exact .inr ⟨_,_,_,rfl⟩,HP.out⟩
   ·skip
    go_enter func295,ntmps295
    go_wp2_with fail
    refine qw.out.mono ?_
    rintro e w1 ⟨rfl,h1,k1⟩
    have aJ:=au (And.intro h1 (qX k1))
    clear y0 y1 y9
    obtain ⟨y0,y1⟩:=HC.out w1 aJ.out.2
    clear h1 k1 qw
    go_wp2_with fail
    go_region_held3 (fun W'=>W'.cell? ⟨b0,0,none⟩=some (aj q.C)/\W'.cell? ⟨b1,0,none⟩=some (.func (.func fn) first caps))
     (first
      | exact ⟨y0,y1⟩
      | exact HC.out _ gy.out
      | exact HC.out _ HX.out.2.2
      | exact HC.out _ (HDR.out _ aJ.out).2
      | fail "ji")
     (first
      | (go_at_call 291
         refine (Qh.out _ (by first|exact HDR.out _ aJ.out|exact aJ.out)).mono ?_
         rintro e w2 ⟨nv,rfl,hx⟩
         have HX:=au hx
         clear hx)
      | (go_at_call 242
         refine (DF.out _ _ HX.out).mono ?_
         rintro e w3 ⟨⟨nv3,rfl,hf3,hp3⟩,k3⟩
         have gy:=au k3
         have HP:=au hp3
         have wV:=au hf3
         clear hp3 hf3 k3)
      | fail "jZ")
    all_goals
     have hfm:=wV.out
     rcases hfm with rfl|⟨fn2,first2,caps2,rfl⟩
     all_goals
      go_wp2_with fail
      go_ret
      exact ⟨_,rfl,by first|exact .inl rfl|exact .inr ⟨_,_,_,rfl⟩,HP.out⟩
theorem bC.cons {l:List Nat} {lv:Value} (h:bC o w 3 lv (aG l)) (hl:l≠[]):∃ b off n cp b2,lv = .slice (some ⟨b,off,none⟩) (n+1) cp/\n+1<=cp/\n=l.tail.length/\w.cell? ⟨b,off,none⟩=some (ah (aW l:Int))/\bC o w 3 (.slice (oP b2 cp 1) n (cp - 1)) (aG l.tail)/\b2=some ⟨b,off,none⟩:=by
 cases l with
 | nil=>exact absurd rfl hl
 | cons a r =>
   obtain ⟨a0,cp,e,h1,h2,h3⟩:=h.form
   have el:(aG (a::r)).length=r.length+1:=by simp [aG]
   rw [el] at e h1
   subst e
   obtain ⟨b,off,rfl,h4⟩:=h3 0 (ah (a:Int)) rfl
   have hc:=h.cut 1 (by omega)
   exact ⟨b,off,r.length,cp,_,rfl,h1,rfl,by rw [Nat.add_zero] at h4;exact h4,by simpa [aG] using hc,rfl⟩
theorem aac (h:aP o w G q s c none nv0) (l:List Nat) (hl:l≠[]) (hlen:l.length<=1000) (t:CD) (tv lv:Value) (ht:bg o w q.C t tv) (hr:bC o w 3 lv (aG l)) (b0 b1 b2:Nat) (o0:o b0=0) (o1:o b1=0) (o2:o b2=0) (k0:aA w b0 [aB q.C] 30) (k1:aA w b1 [lv] 32) (k2:aA w b2 [tv] 88) :
 Calls ay 290 #[aj b0,aj b1,aj b2] w (bF o w G q nv0 (aC s c (.slots l t))):=by
 obtain ⟨B,off,n,cp,bb,rfl,hcp,hn,_,hrt,rfl⟩:=hr.cons hl
 have HC:Hid (∀ V,Keep none_ w V->V.cell? ⟨b0,0,none⟩=some (aj q.C)/\V.cell? ⟨b1,0,none⟩=some (.slice (some ⟨B,off,none⟩) (n+1) cp)/\V.cell? ⟨b2,0,none⟩=some tv/\V.cell? ⟨B,off,none⟩=some (ah (aW l:Int))/\V.cell? ⟨q.C,0,none⟩=some (aj G.S)/\V.cell? ⟨q.C,5,none⟩=some (ah (c.color:Int))/\V.cell? ⟨G.S,0,none⟩=some (aj (G.D 0))):=fun V hV=>by
  have h9:=h.still hV
  obtain ⟨_,_,_,_,_,e,_,_,hc,_,_⟩:=(hr.still hV).cons hl
  cases e
  exact ⟨(hV.blk k0 (fun f=>f)).cell 0 rfl,(hV.blk k1 (fun f=>f)).cell 0 rfl,(hV.blk k2 (fun f=>f)).cell 0 rfl,hc,h9.c0,h9.cell 5 _ rfl,h9.sh.sC.1⟩
 obtain ⟨y0,y1,y2,y3,y4,y5,y6⟩:=HC.out w (Keep.refl _ _)
 have hform:=ht.forms
 have yL:Hid (∀ V,Keep none_ w V->Calls ay 286 #[aj q.C,.slice (oP (some ⟨B,off,none⟩) cp 1) n (cp - 1),tv] V fun e w'=>∃ nv,e = .returned nv/\bg o w' q.C (dL l.tail t) nv/\Keep none_ w w'/\Keep none_ V w'):=fun V hV=>by
  subst hn
  refine (FU (h.still hV).sh.fC q.C (ht.still hV) (hrt.still hV)).mono ?_
  rintro e w' ⟨nv,rfl,g1,g2⟩
  exact ⟨nv,rfl,g1,hV.trans g2,g2⟩
 have og:Hid (∀ V,Keep none_ w V->Calls ay 28 #[aj (G.D 0),ah (aW l:Int)] V fun e w'=>e = .returned (.tuple #[ah ((if s.H.bn (aW l) then s.H.dW (aW l) else 0:Nat):Int),ah (if s.H.bn (aW l) then 0 else 1)])/\V=w'):=fun V hV=>vO (h.still hV).sh.heap _
 have Qh:Hid (∀ V nv,bg o V q.C (dL l.tail t) nv/\Keep none_ w V->Calls ay 291 #[aj q.C,nv] V fun e w'=>∃ nv,e = .returned nv/\bg o w' q.C (.empty (dL l.tail t)) nv/\Keep none_ w w'):=fun V nv hV=>by
  refine (FV (h.still hV.2).sh.fC q.C hV.1).mono ?_
  rintro e w' ⟨nv,rfl,g1,g2⟩
  exact ⟨nv,rfl,g1,hV.2.trans g2⟩
 have Y3:Hid (∀ V V' nv,bg o V q.C (dL l.tail t) nv/\Keep none_ w V->Keep none_ V V'->bg o V' q.C (dL l.tail t) nv/\Keep none_ w V'):=fun V V' nv h k=>⟨h.1.still k,h.2.trans k⟩
 have hcut:∀ w:World,(Instr.slice 32 (.slice (some ⟨B,off,none⟩) (n+1) cp) (some (ah 1)) none none).run ay w = .ok (.slice (oP (some ⟨B,off,none⟩) cp 1) (n+1 - 1) (cp - 1)) w:=fun w=>Cj (P:=ay) (T:=32) (e:=3) (by kernel_rfl) (by kernel_rfl) (some ⟨B,off,none⟩) (n+1) cp 1 (by omega) w
 rw [Nat.add_sub_cancel] at hcut
 have hca:∃ ca:Option Addr,ca=oP (some ⟨B,off,none⟩) cp 1:=⟨_,rfl⟩
 obtain ⟨ca,hca⟩:=hca
 rw [<- hca] at yL hcut
 have hn1 : n < 1000 := by have:l.tail.length<l.length:=by cases l with|nil=>exact absurd rfl hl|cons a r=>simp
                           omega
 cases hcond:(!s.H.bn (aW l)||s.H.dW (aW l) != c.color) with
 | true =>
   have e1:aC s c (.slots l t)=⟨s,c,dL l.tail t,none⟩:=by simp only [aC,hcond];rfl
   have HE:Hid (∀ V nv,bg o V q.C (dL l.tail t) nv/\Keep none_ w V->eG o w G q nv0 (aC s c (.slots l t)) (.returned nv) V):=fun V nv hV=>by
    rw [e1]
    exact eG.same (r:=⟨s,c,dL l.tail t,none⟩) (h.still hV.2) hV.1 hV.2.aS
   have Y4:Hid (∀ V nv,bg o V q.C (dL l.tail t) nv/\Keep none_ w V->nv = .nilFunc\/∃ fn first caps,nv = .func (.func fn) first caps):=fun V nv hV=>hV.1.forms
   have Si:Hid (Keep none_ w w.drew):=(Keep.refl none_ w).drew
   have hcs:s.H.bn (aW l)=false\/(s.H.bn (aW l)=true/\∃ k:Nat,k≠c.color/\s.H.dW (aW l)=k):=by
    revert hcond
    cases s.H.bn (aW l)
    ·intro _;exact .inl rfl
    ·intro hc;exact .inr ⟨rfl,_,by simpa using hc,rfl⟩
   clear e1
   generalize aC s c (.slots l t)=R at *
   generalize dL l.tail t=d at *
   rcases hcs with hb|⟨hb,k,hk,hck⟩
   ·rw [hb] at og
    simp only [Bool.false_eq_true,if_false] at og
    generalize aW l=x at *
    generalize c.color=col at *
    clear h ht hr hrt k0 k1 k2 o0 o1 o2 hcond hb hlen hl hca hn Qh
    rcases hform with rfl|⟨fn,first,caps,rfl⟩
    all_goals
     go_enter func290,ntmps290
     go_wp2_with fail
     refine aI 4 rfl (by kernel_rfl) (by kernel_rfl) (fun K hK=>?_)
     change wpStill _ _ (World.drew _) _ _ _
     simp only [List.take_succ_cons,List.take_zero,List.drop_succ_cons,List.drop_zero] at hK ⊢
     repeat still_step
     refine wpStill_nil ?_
     change ite _ (Oper.wp _ _ _ _ _ _) _
     go_simp
     refine (yL.out _ Si.out).mono ?_
     rintro e w1 ⟨nv1,rfl,hc1,kw,kv⟩
     refine hK _ _ ?_
     clear hK K
     have HX:=au (And.intro hc1 kw)
     clear y0 y1 y2 y3 y4 y5 y6
     obtain ⟨y0,y1,y2,y3,y4,y5,y6⟩:=HC.out w1 kw
     have hf1:=Y4.out _ _ (And.intro hc1 kw)
     clear hc1 kw kv yL
     repeat still_step
     refine wpStill_nil ?_
     rcases hf1 with rfl|⟨fn1,first1,caps1,rfl⟩
     all_goals
      go_wp2_with fail
      go_quiet (first|(go_at_call 28;exact Calls.quiet_of_same (eU (og.out _ (HX.out.2.trans ((Keep.refl none_ w1).drewN _))))))
      obtain ⟨V,hV⟩:∃ V,V=w1.drewN nq:=⟨_,rfl⟩
      have DI:=au (Y3.out _ V _ HX.out (by rw [hV];exact (Keep.refl none_ w1).drewN _))
      rw [<- hV]
      have HP:=au (HE.out _ _ DI.out)
      have HY:=au (HC.out V DI.out.2)
      clear hV y0 y1 y2 y3 y4 y5 y6 nq og HX
      obtain ⟨y0,y1,y2,y3,y4,y5,y6⟩:=HY.out
      go_wp2_with fail
      go_ret
      exact ⟨_,rfl,by first|exact .inl rfl|exact .inr ⟨_,_,_,rfl⟩,HP.out⟩
   ·rw [hb] at og
    simp only [if_true] at og
    rw [hck] at og
    have dk:((k:Int)=(c.color:Int))=False:=eq_false (by omega)
    have dkb:((k:Int)==(c.color:Int))=false:=by simp;omega
    have dkn:decide (k=c.color)=false:=decide_eq_false hk
    generalize aW l=x at *
    generalize c.color=col at *
    clear h ht hr hrt k0 k1 k2 o0 o1 o2 hcond hb hlen hl hca hn Qh hck
    rcases hform with rfl|⟨fn,first,caps,rfl⟩
    all_goals
     go_enter func290,ntmps290
     go_wp2_with fail
     refine aI 4 rfl (by kernel_rfl) (by kernel_rfl) (fun K hK=>?_)
     change wpStill _ _ (World.drew _) _ _ _
     simp only [List.take_succ_cons,List.take_zero,List.drop_succ_cons,List.drop_zero] at hK ⊢
     repeat still_step
     refine wpStill_nil ?_
     change ite _ (Oper.wp _ _ _ _ _ _) _
     go_simp
     refine (yL.out _ Si.out).mono ?_
     rintro e w1 ⟨nv1,rfl,hc1,kw,kv⟩
     refine hK _ _ ?_
     clear hK K
     have HX:=au (And.intro hc1 kw)
     clear y0 y1 y2 y3 y4 y5 y6
     obtain ⟨y0,y1,y2,y3,y4,y5,y6⟩:=HC.out w1 kw
     have hf1:=Y4.out _ _ (And.intro hc1 kw)
     clear hc1 kw kv yL
     repeat still_step
     refine wpStill_nil ?_
     rcases hf1 with rfl|⟨fn1,first1,caps1,rfl⟩
     all_goals
      go_wp2_with fail
      go_quiet (first|(go_at_call 28;exact Calls.quiet_of_same (eU (og.out _ (HX.out.2.trans ((Keep.refl none_ w1).drewN _))))))
      obtain ⟨V,hV⟩:∃ V,V=w1.drewN nq:=⟨_,rfl⟩
      have DI:=au (Y3.out _ V _ HX.out (by rw [hV];exact (Keep.refl none_ w1).drewN _))
      rw [<- hV]
      have HP:=au (HE.out _ _ DI.out)
      have HY:=au (HC.out V DI.out.2)
      clear hV y0 y1 y2 y3 y4 y5 y6 nq og HX
      obtain ⟨y0,y1,y2,y3,y4,y5,y6⟩:=HY.out
      go_wp2_with fail
      go_ret
      exact ⟨_,rfl,by first|exact .inl rfl|exact .inr ⟨_,_,_,rfl⟩,HP.out⟩
 | false =>
   have e1:aC s c (.slots l t)=⟨s,c,.object (aW l) (.empty (dL l.tail t)),none⟩:=by simp only [aC,hcond];rfl
   have DF:Hid (∀ V nv,bg o V q.C (.empty (dL l.tail t)) nv/\Keep none_ w V->Calls ay 242 #[aj q.C,ah (aW l:Int),nv] V fun e w'=>bF o w G q nv0 (aC s c (.slots l t)) e w'/\Keep none_ w w'):=fun V nv hV=>by
    rw [e1]
    exact bF.made2 hV.2 (r:=⟨s,c,.object (aW l) (.empty (dL l.tail t)),none⟩) (h.still hV.2) hV.2.aS (yC (h.still hV.2).sh.fC q.C (aW l) hV.1)
   have Y4:Hid (∀ V nv,bg o V q.C (dL l.tail t) nv/\Keep none_ w V->nv = .nilFunc\/∃ fn first caps,nv = .func (.func fn) first caps):=fun V nv hV=>hV.1.forms
   have Si:Hid (Keep none_ w w.drew):=(Keep.refl none_ w).drew
   obtain ⟨hb,hk⟩:s.H.bn (aW l)=true/\s.H.dW (aW l)=c.color:=by simpa using hcond
   rw [hb] at og
   simp only [if_true] at og
   rw [hk] at og
   clear e1
   generalize aC s c (.slots l t)=R at *
   generalize dL l.tail t=d at *
   generalize aW l=x at *
   generalize c.color=col at *
   clear h ht hr hrt k0 k1 k2 o0 o1 o2 hcond hb hlen hl hca hn hk
   rcases hform with rfl|⟨fn,first,caps,rfl⟩
   all_goals
    go_enter func290,ntmps290
    go_wp2_with fail
    refine aI 4 rfl (by kernel_rfl) (by kernel_rfl) (fun K hK=>?_)
    change wpStill _ _ (World.drew _) _ _ _
    simp only [List.take_succ_cons,List.take_zero,List.drop_succ_cons,List.drop_zero] at hK ⊢
    repeat still_step
    refine wpStill_nil ?_
    change ite _ (Oper.wp _ _ _ _ _ _) _
    go_simp
    refine (yL.out _ Si.out).mono ?_
    rintro e w1 ⟨nv1,rfl,hc1,kw,kv⟩
    refine hK _ _ ?_
    clear hK K
    have HX:=au (And.intro hc1 kw)
    clear y0 y1 y2 y3 y4 y5 y6
    obtain ⟨y0,y1,y2,y3,y4,y5,y6⟩:=HC.out w1 kw
    have hf1:=Y4.out _ _ (And.intro hc1 kw)
    clear hc1 kw kv yL
    repeat still_step
    refine wpStill_nil ?_
    rcases hf1 with rfl|⟨fn1,first1,caps1,rfl⟩
    all_goals
     go_wp2_with fail
     go_quiet (first|(go_at_call 28;exact Calls.quiet_of_same (eU (og.out _ (HX.out.2.trans ((Keep.refl none_ w1).drewN _))))))
     obtain ⟨V,hV⟩:∃ V,V=w1.drewN nq:=⟨_,rfl⟩
     have DI:=au (Y3.out _ V _ HX.out (by rw [hV];exact (Keep.refl none_ w1).drewN _))
     rw [<- hV]
     have HY:=au (HC.out V DI.out.2)
     clear hV y0 y1 y2 y3 y4 y5 y6 nq og HX
     obtain ⟨y0,y1,y2,y3,y4,y5,y6⟩:=HY.out
     go_wp2_with fail
     go_region_held3 (fun W'=>W'.cell? ⟨b0,0,none⟩=some (aj q.C)/\W'.cell? ⟨b1,0,none⟩=some (.slice (some ⟨B,off,none⟩) (n+1) cp)/\W'.cell? ⟨B,off,none⟩=some (ah (x:Int)))
      (first
       | exact ⟨y0,y1,y3⟩
       | exact (fun z=>⟨z.1,z.2.1,z.2.2.2.1⟩) (HC.out _ gy.out)
       | exact (fun z=>⟨z.1,z.2.1,z.2.2.2.1⟩) (HC.out _ HZ.out.2)
       | exact (fun z=>⟨z.1,z.2.1,z.2.2.2.1⟩) (HC.out _ DI.out.2.drew)
       | fail "ji")
      (first
       | (go_at_call 291
          refine (Qh.out _ _ (by first|exact Y3.out _ _ _ DI.out ((Keep.refl none_ _).drew)|exact DI.out)).mono ?_
          rintro e w2 ⟨nv2,rfl,hx⟩
          have HZ:=au hx
          clear hx)
       | (go_at_call 242
          refine (DF.out _ _ HZ.out).mono ?_
          rintro e w3 ⟨⟨nv3,rfl,hf3,hp3⟩,k3⟩
          have gy:=au k3
          have HP:=au hp3
          have wV:=au hf3
          clear hp3 hf3 k3)
       | fail "jZ")
     all_goals
      have hfm:=wV.out
      rcases hfm with rfl|⟨fn2,first2,caps2,rfl⟩
      all_goals
       go_wp2_with fail
       go_ret
       exact ⟨_,rfl,by first|exact .inl rfl|exact .inr ⟨_,_,_,rfl⟩,HP.out⟩
end
section
variable {o o':Ow} {w w':World} {G:Geo} {q:CG} {s:Sh} {c:CS} {ev:Option Ev} {nv nv0:Value}
theorem Vo (h:aP o w G q s c none nv0) (b:Nat) (hb:b<=4096) (oh:∀ k,(s.Q.rw k).length<=1000000000) (b0 b1:Nat) (o0:o b0=0) (o1:o b1=0) (k0:aA w b0 [aB q.C] 30) (k1:aA w b1 [ah (b:Int)] 3) :
 Calls ay 293 #[aj b0,aj b1] w (bF o w G q nv0 (aC s c (.enqueue b))):=by
 have HC:Hid (∀ V,Keep (In o aY) w V->V.cell? ⟨b0,0,none⟩=some (aj q.C)/\V.cell? ⟨b1,0,none⟩=some (ah (b:Int))):=fun V hV =>
  ⟨(hV.blk k0 (bI o0 eY)).cell 0 rfl,(hV.blk k1 (bI o1 eY)).cell 0 rfl⟩
 have HS:Hid (∀ V,Keep none_ w V->V.cell? ⟨q.C,0,none⟩=some (aj G.S)/\V.cell? ⟨G.S,0,none⟩=some (aj (G.D 0))/\V.cell? ⟨G.S,2,none⟩=some (aj G.Q)):=fun V hV=>⟨(h.still hV).c0,(h.still hV).sh.sC.1,(h.still hV).sh.sC.2.2.1⟩
 have hwi:IntKind.i64.wrap ((b:Int)+1)=(b:Int)+1:=IntWalk.i64_in _ (by omega)
 have L8:Hid (∀ V,Keep none_ w V->Calls ay 62 #[aj (G.D 0)] V fun e w'=>∃ R X cap,e = .returned (aj R)/\nO w' R X cap s.H.c s.H.K/\Keep none_ w w'/\Keep none_ V w'):=fun V hV=>by
  refine (zB (h.still hV).sh.heap).mono ?_
  rintro e w' ⟨R,X,cap,rfl,g1,g2⟩
  exact ⟨R,X,cap,rfl,g1,hV.trans g2,g2⟩
 have AX:Hid (∀ V V' R X cap,nO V R X cap s.H.c s.H.K->Keep none_ V V'->nO V' R X cap s.H.c s.H.K):=fun V V' R X cap ht k=>by
  obtain ⟨g1,⟨cur,g2,g3⟩,g4,g5,g6⟩:=ht
  exact ⟨k.blk g1 (fun f=>f),⟨cur,k.blk g2 (fun f=>f),g3⟩,g4,g5,g6⟩
 have dN:Hid (Keep none_ w w.drew):=(Keep.refl none_ w).drew
 have DJ:Hid (∀ V,Keep none_ w V->Keep (In o aY) w V):=fun V hV=>hV.aS
 obtain ⟨y0,y1⟩:=HC.out w (Keep.refl _ _)
 obtain ⟨y2,y3,y4⟩:=HS.out w (Keep.refl _ _)
 by_cases hk:s.H.K.getD b 0=0
 ·have e1:aC s c (.enqueue b)=⟨s,c,c.iU (b+1),none⟩:=by simp only [aC];rw [if_pos hk]
  have l9:Hid (∀ V R X cap,Keep none_ w V->nO V R X cap s.H.c s.H.K->Calls ay 102 #[aj R,ah (b:Int)] V fun e w'=>e = .returned (.tuple #[ah 0,.bool false])/\Keep none_ w w'):=fun V R X cap hV ht=>by
   refine (I5 ht b hk).mono ?_
   rintro e w' ⟨rfl,rfl⟩
   exact ⟨rfl,hV⟩
  have ny:Hid (∀ V,Keep none_ w V->Calls ay 289 #[aj q.C,ah ((b:Int)+1)] V (bF o w G q nv0 (aC s c (.enqueue b)))):=fun V hV=>by
   rw [e1]
   have g:=wU (c:=c) (h.still hV).sh.fC q.C (b+1) ((h.still hV).cell 2 _ rfl)
   rw [show (((b+1:Nat)):Int)=(b:Int)+1 from by push_cast;rfl] at g
   exact bF.made (r:=⟨s,c,c.iU (b+1),none⟩) (h.still hV) hV.aS g
  clear e1
  generalize aC s c (.enqueue b)=R at *
  generalize s.H.c=cf at *
  generalize s.H.K=K at *
  clear h k0 k1 o0 o1 oh hk
  go_enter func293,ntmps293
  go_wp2_with fail
  go_region_held3 (fun W'=>W'.cell? ⟨b0,0,none⟩=some (aj q.C)/\W'.cell? ⟨b1,0,none⟩=some (ah (b:Int))/\W'.cell? ⟨q.C,0,none⟩=some (aj G.S)/\W'.cell? ⟨G.S,0,none⟩=some (aj (G.D 0)))
   (first
    | exact ⟨y0,y1,y2,y3⟩
    | exact ⟨(HC.out _ (DJ.out _ aJ.out)).1,(HC.out _ (DJ.out _ aJ.out)).2,(HS.out _ aJ.out).1,(HS.out _ aJ.out).2.1⟩
    | exact ⟨(HC.out _ (DJ.out _ dN.out)).1,(HC.out _ (DJ.out _ dN.out)).2,(HS.out _ dN.out).1,(HS.out _ dN.out).2.1⟩
    | fail "ji")
   (first
    | (go_at_call 62
       refine (L8.out _ dN.out).mono ?_
       rintro e w2 ⟨R1,X1,cap1,rfl,ht1,kw,kv⟩
       have HT1:=au ht1
       have dN:=au kw
       clear ht1 kw kv)
    | (go_at_call 102
       refine (l9.out _ _ _ _ dN.out HT1.out).mono ?_
       rintro e w3 ⟨rfl,kw⟩
       have aJ:=au kw
       clear kw)
    | fail "jZ")
  all_goals
   clear y0 y1 y2 y3 y4
   obtain ⟨y0,y1⟩:=HC.out _ (DJ.out _ aJ.out)
   have Dz:=au (ny.out _ aJ.out)
   clear ny
   go_wp2_with fail
   refine Dz.out.mono ?_
   rintro e w4 ⟨nv,rfl,hf,hp⟩
   have HP:=au hp
   clear hp Dz
   rcases hf with rfl|⟨fn2,first2,caps2,rfl⟩
   all_goals
    go_wp2_with fail
    go_ret
    exact ⟨_,rfl,by first|exact .inl rfl|exact .inr ⟨_,_,_,rfl⟩,HP.out⟩
 ·obtain ⟨hBl,hk4⟩:=h.sh.heap.k4 hk
  obtain ⟨k,hkk⟩:∃ k,s.H.K.getD b 0=k+1:=⟨s.H.K.getD b 0 - 1,by omega⟩
  have hk3:k<4:=by omega
  have e1:aC s c (.enqueue b)=⟨{ s with Q:=s.Q.put (k:Int) b },c,c.iU (b+1),none⟩:=by
   simp only [aC]
   rw [if_neg hk,hkk,show (((k+1:Nat)):Int) - 1=(k:Int) by omega]
  have l9:Hid (∀ V R X cap,Keep none_ w V->nO V R X cap s.H.c s.H.K->Calls ay 102 #[aj R,ah (b:Int)] V fun e w'=>e = .returned (.tuple #[ah (k:Int),.bool true])/\Keep none_ w w'):=fun V R X cap hV ht=>by
   refine (LU ht b k hBl hkk hk3).mono ?_
   rintro e w' ⟨rfl,rfl⟩
   exact ⟨rfl,hV⟩
  have Vh:Hid (∀ V,Keep none_ w V->Calls ay 294 #[aj G.Q,ah (k:Int),ah (b:Int)] V.drew fun e w'=>e = .returned (ah 0)/\aP o w' G q { s with Q:=s.Q.put (k:Int) b } c none nv0/\Keep (In o aY) w w'):=fun V hV=>by
   have kd:Keep none_ w V.drew:=hV.trans (Keep.refl none_ V).drew
   refine (Xh G.Q s.Q (k:Int) (b:Int) V.drew (h.still kd).sh.queue (by simp [Kq,cls];omega) (by rw [s.Q.row_of];exact oh k) (h.still kd).sh.fC).mono ?_
   rintro e w' ⟨rfl,g1,g2⟩
   obtain ⟨h1,k1⟩:=(h.still kd).wM g2 g1
   exact ⟨rfl,h1,kd.aS.trans k1⟩
  have ny:Hid (∀ V,aP o V G q { s with Q:=s.Q.put (k:Int) b } c none nv0->Keep (In o aY) w V->Calls ay 289 #[aj q.C,ah ((b:Int)+1)] V (bF o w G q nv0 (aC s c (.enqueue b)))):=fun V hV hk=>by
   rw [e1]
   have g:=wU (c:=c) hV.sh.fC q.C (b+1) (hV.cell 2 _ rfl)
   rw [show (((b+1:Nat)):Int)=(b:Int)+1 from by push_cast;rfl] at g
   exact bF.made (r:=⟨{ s with Q:=s.Q.put (k:Int) b },c,c.iU (b+1),none⟩) hV hk g
  clear e1
  generalize aC s c (.enqueue b)=R at *
  generalize ({ s with Q:=s.Q.put (k:Int) b }:Sh)=s' at *
  generalize s.H.c=cf at *
  generalize s.H.K=K at *
  clear h k0 k1 o0 o1 oh hk hkk hBl hk4
  go_enter func293,ntmps293
  go_wp2_with fail
  go_region_held3 (fun W'=>W'.cell? ⟨b0,0,none⟩=some (aj q.C)/\W'.cell? ⟨b1,0,none⟩=some (ah (b:Int))/\W'.cell? ⟨q.C,0,none⟩=some (aj G.S)/\W'.cell? ⟨G.S,0,none⟩=some (aj (G.D 0)))
   (first
    | exact ⟨y0,y1,y2,y3⟩
    | exact ⟨(HC.out _ (DJ.out _ aJ.out)).1,(HC.out _ (DJ.out _ aJ.out)).2,(HS.out _ aJ.out).1,(HS.out _ aJ.out).2.1⟩
    | exact ⟨(HC.out _ (DJ.out _ dN.out)).1,(HC.out _ (DJ.out _ dN.out)).2,(HS.out _ dN.out).1,(HS.out _ dN.out).2.1⟩
    | fail "ji")
   (first
    | (go_at_call 62
       refine (L8.out _ dN.out).mono ?_
       rintro e w2 ⟨R1,X1,cap1,rfl,ht1,kw,kv⟩
       have HT1:=au ht1
       have dN:=au kw
       clear ht1 kw kv)
    | (go_at_call 102
       refine (l9.out _ _ _ _ dN.out HT1.out).mono ?_
       rintro e w3 ⟨rfl,kw⟩
       have aJ:=au kw
       clear kw)
    | fail "jZ")
  all_goals
   clear y0 y1 y2 y3 y4
   obtain ⟨y0,y1⟩:=HC.out _ (DJ.out _ aJ.out)
   obtain ⟨y2,y3,y4⟩:=HS.out _ aJ.out
   have abr:=au (Vh.out _ aJ.out)
   clear Vh
   go_wp2_with fail
   refine aI 9 rfl (by kernel_rfl) (by kernel_rfl) (fun K hK=>?_)
   change wpStill _ _ (World.drew _) _ _ _
   simp only [List.take_succ_cons,List.take_zero,List.drop_succ_cons,List.drop_zero] at hK ⊢
   repeat still_step
   refine wpStill_nil ?_
   change ite _ (Oper.wp _ _ _ _ _ _) _
   go_simp
   refine abr.out.mono ?_
   rintro e w4 ⟨rfl,h1,k1⟩
   refine hK _ _ ?_
   clear hK K
   have Dz:=au (ny.out _ h1 k1)
   clear y0 y1 y2 y3 y4
   obtain ⟨y0,y1⟩:=HC.out _ k1
   clear ny abr h1 k1
   repeat still_step
   refine wpStill_nil ?_
   go_wp2_with fail
   refine Dz.out.mono ?_
   rintro e w5 ⟨nv,rfl,hf,hp⟩
   have HP:=au hp
   clear hp Dz
   rcases hf with rfl|⟨fn2,first2,caps2,rfl⟩
   all_goals
    go_wp2_with fail
    go_ret
    exact ⟨_,rfl,by first|exact .inl rfl|exact .inr ⟨_,_,_,rfl⟩,HP.out⟩
theorem aad (h:aP o w G q s c none nv0) (sl:List Nat) (hq:s.Q.opn<=1000000000) (cv:Value) (hc:iH o w (G.D 0) 40 cv sl c.color) (b0 b1:Nat) (o0:o b0=0) (o1:o b1=0) (k0:aA w b0 [cv] 260) (k1:aA w b1 [aB q.C] 30) :
 Calls ay 302 #[aj b0,aj b1] w (bF o w G q nv0 (aC s c (.block sl))):=by
 have HC:Hid (∀ V,Keep (In o aY) w V->V.cell? ⟨b0,0,none⟩=some cv/\V.cell? ⟨b1,0,none⟩=some (aj q.C)):=fun V hV =>
  ⟨(hV.blk k0 (bI o0 eY)).cell 0 rfl,(hV.blk k1 (bI o1 eY)).cell 0 rfl⟩
 obtain ⟨y0,y1⟩:=HC.out w (Keep.refl _ _)
 have y2:=h.c0
 have y3:=h.sh.sC.2.2.1
 have hcf:(cv = .pointer none)\/∃ C,cv=aB C:=by
  rcases hc with ⟨h,_⟩|⟨C,_,_,h,_⟩
  ·exact .inl h
  ·exact .inr ⟨C,h⟩
 have hmf:=jc
 have yR:=au (DC hc)
 cases sl with
 | nil =>
   have e1:aC s c (.block [])=⟨{ s with Q:=s.Q.qh },c,.sweep,none⟩:=rfl
   have HD:Hid (Calls ay 279 #[aj G.Q] w fun e w'=>(∃ er:Int,e = .returned (ah er))/\w'.cell? ⟨b1,0,none⟩=some (aj q.C)/\eG o w G q nv0 (aC s c (.block [])) (.returned (bnd 292 q.C)) w'):=by
    rw [e1]
    refine (Um G.Q s.Q w h.sh.queue hq).mono ?_
    rintro e w' ⟨rfl,g1,g2⟩
    obtain ⟨h1,kk⟩:=h.wM g2 g1
    exact ⟨⟨_,rfl⟩,(HC.out _ kk).2,eG.same (r:=⟨{ s with Q:=s.Q.qh },c,.sweep,none⟩) h1 rfl kk⟩
   clear e1
   generalize aC s c (.block [])=R at *
   have Sj:Hid (Calls ay 278 #[cv] w fun e w'=>e = .returned (.bool true)/\w=w'):=yR.out
   clear h hc hq k0 k1 o0 o1 yR
   rcases hcf with rfl|⟨C1,rfl⟩
   all_goals
    go_enter func302,ntmps302
    go_wp2_with fail
    refine Sj.out.mono ?_
    rintro e w1 ⟨rfl,rfl⟩
    go_wp2_with fail
    refine HD.out.mono ?_
    rintro e w2 ⟨⟨er,rfl⟩,z1,hp⟩
    have HP:=au hp
    clear hp HD y0 y1 y2 y3
    go_wp2_with fail
    go_ret
    exact ⟨_,rfl,.inr ⟨_,_,_,rfl⟩,HP.out⟩
 | cons a r =>
   have Sj:Hid (Calls ay 278 #[cv] w fun e w'=>e = .returned (.bool false)/\w=w'):=yR.out
   have HST:Hid (Calls ay 280 #[cv] w fun e w'=>e = .returned (.tuple #[ah ((if s.frees c.color a then a else 0:Nat):Int),.bool (s.frees c.color a)])/\aP o w' G q { s with H:=if s.frees c.color a then s.H.fV a else s.H } c none nv0/\iH o w' (G.D 0) 40 cv r c.color/\Keep (In o aY) w w'):=by
    refine (O0 h.sh hc (.inl (by decide)) h.box8).mono ?_
    rintro e w' ⟨rfl,g1,g2,g3⟩
    exact ⟨rfl,h.share g3 rfl g1 rfl,g2,g3.jP (by decide)⟩
   have Y5:Hid (∀ W s' ev,aP o W G q s' c ev nv0->iH o W (G.D 0) 40 cv r c.color->Keep (In o aY) w W->aC s c (.block (a::r))=⟨s',c,.block r,ev⟩->Calls ay 298 #[aj q.C,cv] W (bF o w G q nv0 (aC s c (.block (a::r))))):=fun W s' ev hW hcW hk e1=>by
    refine (FZ (C:=q.C) hW.sh.fC hcW).mono ?_
    rintro e w' ⟨fn,first,caps,rfl,g1,g2⟩
    rw [e1]
    exact ⟨_,rfl,.inr ⟨_,_,_,rfl⟩,o,_,rfl,aQ.refl _ _,hW.still g2,g1,hk.trans g2.aS⟩
   by_cases hfr:s.frees c.color a=true
   ·have e1:aC s c (.block (a::r))=⟨{ s with H:=s.H.fV a },c,.block r,some (c.ev 5 a)⟩:=by
     simp only [aC]
     unfold Sh.frees at hfr
     rw [if_neg (by cases hb:s.H.bn a<;>simp_all)]
    rw [hfr,if_pos rfl,if_pos rfl] at HST
    have sO:Hid (∀ W,aP o W G q { s with H:=s.H.fV a } c none nv0->iH o W (G.D 0) 40 cv r c.color->Keep (In o aY) w W->Calls ay 79 #[aj q.C,ah 5,ah (a:Int)] W fun e w'=>e = .returned (.tuple #[])/\Keep (In o aY) w w'/\Calls ay 298 #[aj q.C,cv] w' (bF o w G q nv0 (aC s c (.block (a::r))))):=fun W hW hcW hk=>by
     refine (xM hW 5 a).mono ?_
     rintro e w' ⟨rfl,g1,g2⟩
     exact ⟨rfl,hk.trans (qX g2),Y5.out w' _ _ g1 (hcW.aH g2 rfl rfl) (hk.trans (qX g2)) e1⟩
    clear e1
    generalize aC s c (.block (a::r))=R at *
    generalize ({ s with H:=s.H.fV a }:Sh)=s' at *
    clear h hc hq k0 k1 o0 o1 yR Y5 hfr
    rcases hcf with rfl|⟨C1,rfl⟩
    all_goals
     go_enter func302,ntmps302
     go_wp2_with fail
     refine Sj.out.mono ?_
     rintro e w1 ⟨rfl,rfl⟩
     go_wp2_with fail
     refine HST.out.mono ?_
     rintro e w2 ⟨rfl,g1,g2,g3⟩
     have abt:=au (sO.out w2 g1 g2 g3)
     clear y0 y1 y2 y3
     obtain ⟨y0,y1⟩:=HC.out w2 g3
     clear g1 g2 g3 sO HST
     go_wp2_with fail
     refine abt.out.mono ?_
     rintro e w3 ⟨rfl,kk,hbl⟩
     have L9:=au hbl
     clear y0 y1
     obtain ⟨y0,y1⟩:=HC.out w3 kk
     clear kk hbl abt
     go_wp2_with fail
     refine L9.out.mono ?_
     rintro e w4 ⟨nv,rfl,hf,hp⟩
     have HP:=au hp
     clear hp L9
     rcases hf with rfl|⟨fn2,first2,caps2,rfl⟩
     all_goals
      go_wp2_with fail
      go_ret
      exact ⟨_,rfl,by first|exact .inl rfl|exact .inr ⟨_,_,_,rfl⟩,HP.out⟩
   ·have uS:s.frees c.color a=false:=by simpa using hfr
    have e1:aC s c (.block (a::r))=⟨s,c,.block r,none⟩:=by
     simp only [aC]
     unfold Sh.frees at uS
     rw [if_pos (by cases hb:s.H.bn a<;>simp_all)]
    rw [uS,if_neg (by decide),if_neg (by decide)] at HST
    have sO:Hid (∀ W,aP o W G q s c none nv0->iH o W (G.D 0) 40 cv r c.color->Keep (In o aY) w W->Calls ay 298 #[aj q.C,cv] W (bF o w G q nv0 (aC s c (.block (a::r))))):=fun W hW hcW hk=>Y5.out W _ _ hW hcW hk e1
    have AY:Hid (Calls ay 280 #[cv] w fun e w'=>e = .returned (.tuple #[ah 0,.bool false])/\aP o w' G q s c none nv0/\iH o w' (G.D 0) 40 cv r c.color/\Keep (In o aY) w w'):=HST.out
    clear e1
    generalize aC s c (.block (a::r))=R at *
    clear h hc hq k0 k1 o0 o1 yR Y5 hfr uS HST
    rcases hcf with rfl|⟨C1,rfl⟩
    all_goals
     go_enter func302,ntmps302
     go_wp2_with fail
     refine Sj.out.mono ?_
     rintro e w1 ⟨rfl,rfl⟩
     go_wp2_with fail
     refine AY.out.mono ?_
     rintro e w2 ⟨rfl,g1,g2,g3⟩
     have L9:=au (sO.out w2 g1 g2 g3)
     clear y0 y1 y2 y3
     obtain ⟨y0,y1⟩:=HC.out w2 g3
     clear g1 g2 g3 sO AY
     go_wp2_with fail
     refine L9.out.mono ?_
     rintro e w4 ⟨nv,rfl,hf,hp⟩
     have HP:=au hp
     clear hp L9
     rcases hf with rfl|⟨fn2,first2,caps2,rfl⟩
     all_goals
      go_wp2_with fail
      go_ret
      exact ⟨_,rfl,by first|exact .inl rfl|exact .inr ⟨_,_,_,rfl⟩,HP.out⟩
end
end
section
open Go.RowKit
theorem Mc:∀ args w,(callFunc 82 args).run ay w = .ok (.enter 82 args) w:=fun args w=>by simp [callFunc,func82,go_sem];rfl
theorem F5:∀ args w,(callFunc 81 args).run ay w = .ok (.enter 81 args) w:=fun args w=>by simp [callFunc,func81,go_sem];rfl
theorem F6:∀ args w,(callFunc 300 args).run ay w = .ok (.enter 300 args) w:=fun args w=>by simp [callFunc,func300,go_sem];rfl
theorem JY:∀ args w,(callFunc 283 args).run ay w = .ok (.enter 283 args) w:=fun args w=>by simp [callFunc,func283,go_sem];rfl
theorem JZ:∀ args w,(callFunc 122 args).run ay w = .ok (.enter 122 args) w:=fun args w=>by simp [callFunc,func122,go_sem];rfl
theorem G9:∀ args w,(callFunc 284 args).run ay w = .ok (.enter 284 args) w:=fun args w=>by simp [callFunc,func284,go_sem];rfl
theorem Md:∀ args w,(callFunc 301 args).run ay w = .ok (.enter 301 args) w:=fun args w=>by simp [callFunc,func301,go_sem];rfl
theorem He:∀ args w,(callFunc 166 args).run ay w = .ok (.enter 166 args) w:=fun args w=>by simp [callFunc,func166,go_sem];rfl
theorem Hf:∀ args w,(callFunc 244 args).run ay w = .ok (.enter 244 args) w:=fun args w=>by simp [callFunc,func244,go_sem];rfl
theorem Hg:∀ args w,(callFunc 209 args).run ay w = .ok (.enter 209 args) w:=fun args w=>by simp [callFunc,func209,go_sem];rfl
theorem Es:∀ args w,(callFunc 256 args).run ay w = .ok (.enter 256 args) w:=fun args w=>by simp [callFunc,func256,go_sem];rfl
theorem F7:∀ args w,(callFunc 271 args).run ay w = .ok (.enter 271 args) w:=fun args w=>by simp [callFunc,func271,go_sem];rfl
theorem Hl:∀ args w,(callFunc 285 args).run ay w = .ok (.enter 285 args) w:=fun args w=>by simp [callFunc,func285,go_sem];rfl
theorem Me:∀ args w,(callFunc 208 args).run ay w = .ok (.enter 208 args) w:=fun args w=>by simp [callFunc,func208,go_sem];rfl
theorem MB:∀ args w,(callFunc 260 args).run ay w = .ok (.enter 260 args) w:=fun args w=>by simp [callFunc,func260,go_sem];rfl
theorem J3:∀ args w,(callFunc 297 args).run ay w = .ok (.enter 297 args) w:=fun args w=>by simp [callFunc,func297,go_sem];rfl
theorem J4:∀ args w,(callFunc 292 args).run ay w = .ok (.enter 292 args) w:=fun args w=>by simp [callFunc,func292,go_sem];rfl
theorem J5:∀ args w,(callFunc 258 args).run ay w = .ok (.enter 258 args) w:=fun args w=>by simp [callFunc,func258,go_sem];rfl
theorem F8:∀ args w,(callFunc 295 args).run ay w = .ok (.enter 295 args) w:=fun args w=>by simp [callFunc,func295,go_sem];rfl
theorem F9:∀ args w,(callFunc 290 args).run ay w = .ok (.enter 290 args) w:=fun args w=>by simp [callFunc,func290,go_sem];rfl
theorem Di:∀ args w,(callFunc 293 args).run ay w = .ok (.enter 293 args) w:=fun args w=>by simp [callFunc,func293,go_sem];rfl
theorem Gf:∀ args w,(callFunc 302 args).run ay w = .ok (.enter 302 args) w:=fun args w=>by simp [callFunc,func302,go_sem];rfl
section
variable {o o':Ow} {w w':World} {G:Geo} {q:CG} {s:Sh} {c:CS} {ev:Option Ev} {nv nv0:Value} {N:Nat}
theorem Vp (h:aP o w G q s c none nv0) (ok:CK N s c) (hN:N<=1000000000) (d:CD) (hd:lN c.muts c.blocks c.cells d) (v:Value) (hv:gJ o w (G.D 0) q.C c.color d v) (hnil:oJ d=false) :
 ∃ fn first caps,v = .func (.func fn) first caps/\(∀ args w,(callFunc fn args).run ay w = .ok (.enter fn args) w)/\Calls ay fn (first++caps) w (bF o w G q nv0 (aC s c d)):=by
 have hop:s.Q.opn<=1000000000:=Nat.le_trans ok.opn (by omega)
 have oh:∀ k,(s.Q.rw k).length<=1000000000:=fun k=>Nat.le_trans (ok.ql k) (by omega)
 have hc1:s.B.count<=1000000000:=by have:=ok.cnt.2;omega
 have hmu:=ok.mu1
 have hce:=ok.ce
 have hbl:=ok.bl
 cases d with
 | nil=>cases hnil
 | scan=>exact ⟨_,_,_,hv,Mc,abg h ok.cnt.1 hc1⟩
 | trace=>exact ⟨_,_,_,hv,JZ,ZY h⟩
 | work=>exact ⟨_,_,_,hv,Me,abo h ok.stk ok.rm.2⟩
 | over=>exact ⟨_,_,_,hv,MB,abq h (Nat.le_trans ok.wa hN)⟩
 | drain=>exact ⟨_,_,_,hv,JY,ZX h ok.cnt.1 hc1 (Nat.le_trans ok.dr hN)⟩
 | marked=>exact ⟨_,_,_,hv,G9,X0 h⟩
 | sweep=>exact ⟨_,_,_,hv,J4,Z7 h hop ok.q ok.color⟩
 | rests=>exact ⟨_,_,_,hv,J3,Z5 h ⟨hop,oh⟩⟩
 | idle=>exact ⟨_,_,_,hv,Md,abh h⟩
 | arm =>
   obtain ⟨bs,rfl,hc⟩:=hv
   obtain ⟨b0,rfl,⟨o0,k0⟩⟩:=caps1 hc
   exact ⟨_,_,_,rfl,F5,acJ h ok.cnt.1 hc1 b0 k0⟩
 | off =>
   obtain ⟨bs,rfl,hc⟩:=hv
   obtain ⟨b0,rfl,⟨o0,k0⟩⟩:=caps1 hc
   exact ⟨_,_,_,rfl,F6,acK h ok.cnt.1 hc1 b0 k0⟩
 | wait m t =>
   obtain ⟨tv,ht,bs,rfl,hc⟩:=hv
   obtain ⟨b0,b1,b2,rfl,⟨o0,k0⟩,⟨o1,k1⟩,⟨o2,k2⟩⟩:=caps3 hc
   exact ⟨_,_,_,rfl,He,abj h hmu.2 m hd.1 t tv ht b0 b1 b2 o0 o1 o2 k0 k1 k2⟩
 | look x t =>
   obtain ⟨tv,ht,bs,rfl,hc⟩:=hv
   obtain ⟨b0,b1,b2,rfl,⟨o0,k0⟩,⟨o1,k1⟩,⟨o2,k2⟩⟩:=caps3 hc
   exact ⟨_,_,_,rfl,Hf,abl h ok.stk ok.rm.2 x t tv ht b0 b1 b2 o0 o1 o2 k0 k1 k2⟩
 | object a t =>
   obtain ⟨tv,ht,bs,rfl,hc⟩:=hv
   obtain ⟨b0,b1,b2,rfl,⟨o0,k0⟩,⟨o1,k1⟩,⟨o2,k2⟩⟩:=caps3 hc
   exact ⟨_,_,_,rfl,Es,X3 h a t tv ht b0 b1 b2 o0 o1 o2 k0 k1 k2⟩
 | field a i n t =>
   obtain ⟨tv,ht,bs,rfl,hc⟩:=hv
   obtain ⟨b0,b1,b2,b3,b4,rfl,⟨o0,k0⟩,⟨o1,k1⟩,⟨o2,k2⟩,⟨o3,k3⟩,⟨o4,k4⟩⟩:=abf hc
   exact ⟨_,_,_,rfl,F7,Z4 h a i n hd.1 hd.2.1 t tv ht b0 b1 b2 b3 b4 o0 o1 o2 o3 o4 k0 k1 k2 k3 k4⟩
 | cell i =>
   obtain ⟨bs,rfl,hc⟩:=hv
   obtain ⟨b0,b1,rfl,⟨o0,k0⟩,⟨o1,k1⟩⟩:=caps2 hc
   exact ⟨_,_,_,rfl,Hg,abm h i (by have:i<c.cells:=hd;omega) b0 b1 k0 k1⟩
 | box m =>
   obtain ⟨bs,rfl,hc⟩:=hv
   obtain ⟨b0,b1,rfl,⟨o0,k0⟩,⟨o1,k1⟩⟩:=caps2 hc
   exact ⟨_,_,_,rfl,J5,acM h m hd ok.mu b0 b1 o0 o1 k0 k1⟩
 | walk b =>
   obtain ⟨bs,rfl,hc⟩:=hv
   obtain ⟨b0,b1,rfl,⟨o0,k0⟩,⟨o1,k1⟩⟩:=caps2 hc
   exact ⟨_,_,_,rfl,Hl,abn h b (by have:b<c.blocks:=hd;omega) b0 b1 k0 k1⟩
 | enqueue b =>
   obtain ⟨bs,rfl,hc⟩:=hv
   obtain ⟨b0,b1,rfl,⟨o0,k0⟩,⟨o1,k1⟩⟩:=caps2 hc
   exact ⟨_,_,_,rfl,Di,Vo h b (by have:b<c.blocks:=hd;omega) oh b0 b1 o0 o1 k0 k1⟩
 | slots l t =>
   obtain ⟨tv,lv,ht,hr,bs,rfl,hc⟩:=hv
   obtain ⟨b0,b1,b2,rfl,⟨o0,k0⟩,⟨o1,k1⟩,⟨o2,k2⟩⟩:=caps3 hc
   exact ⟨_,_,_,rfl,F9,aac h l hd.1 hd.2.1 t tv lv ht hr b0 b1 b2 o0 o1 o2 k0 k1 k2⟩
 | empty t =>
   obtain ⟨tv,ht,bs,rfl,hc⟩:=hv
   obtain ⟨b0,b1,rfl,⟨o0,k0⟩,⟨o1,k1⟩⟩:=caps2 hc
   exact ⟨_,_,_,rfl,F8,Z9 h ok.stk ok.rm.2 t tv ht b0 b1 o0 o1 k0 k1⟩
 | block sl =>
   obtain ⟨cv,U5,bs,rfl,hc⟩:=hv
   obtain ⟨b0,b1,rfl,⟨o0,k0⟩,⟨o1,k1⟩⟩:=caps2 hc
   exact ⟨_,_,_,rfl,Gf,aad h sl hop cv U5 b0 b1 o0 o1 k0 k1⟩
end
end
section
attribute [local go_sem] Oper.semAt_some
open Go.RowKit
section
variable {o o':Ow} {w w':World} {G:Geo} {q:CG} {s:Sh} {c:CS} {ev:Option Ev} {nv nv0:Value} {N:Nat}
def Kt (o:Ow) (w:World) (G:Geo) (q:CG) (r:kF) (w':World):Prop :=
 ∃ o' nv,aQ w o o'/\aP o' w' G q r.s r.c r.ev nv/\gJ o' w' (G.D 0) q.C r.c.color r.next nv/\Keep (In o aY) w w'
theorem eG.lay {r:kF} {nv:Value} (h:eG o w G q nv0 r (.returned nv) w'):Kt o w G q r (w'.setCell ⟨q.C,10,none⟩ nv):=by
 obtain ⟨o',jC,e,eo,h1,h2,k⟩:=h
 cases e
 obtain ⟨h3,k3⟩:=h1.put 10 nv r.c r.ev nv rfl ⟨rfl,rfl,rfl⟩
 exact ⟨o',nv,eo,h3,h2.aH k3 rfl rfl,k.EX (qX k3) eo⟩
theorem eG.c10 {r:kF} {nv:Value} (h:eG o w G q nv0 r (.returned nv) w'):w'.cell? ⟨q.C,10,none⟩=some nv0/\w'.frozen? ⟨q.C,10,none⟩=false:=by
 obtain ⟨o',jC,e,eo,h1,h2,k⟩:=h
 exact ⟨h1.cell 10 _ rfl,h1.free 10⟩
theorem Sl (h:aP o w G q s c none nv0) (jB:c.color<2) (hcy:c.cycles<=1000000000) (hc0:0<=s.B.count) (hc1:s.B.count<=1000000000):Calls ay 43 #[aj q.C] w fun e w'=>e = .returned (.tuple #[])/\Kt o w G q (gY s c) w':=by
 obtain ⟨W0,hW0⟩:∃ W',W'=w.alloc (.cells #[aB q.C] 30):=⟨_,rfl⟩
 have hk:Keep none_ w W0:=by rw [hW0];exact (Keep.refl _ _).alloc _
 have hb:aA W0 w.heap.size [aB q.C] 30:=by rw [hW0];exact aA.new w _ _
 have o0:o w.heap.size=0:=h.sh.fC _ (Nat.le_refl _)
 have h0:=h.still hk
 obtain ⟨W1,hW1⟩:∃ W',W'=W0.setCell ⟨q.C,7,none⟩ (.bool false):=⟨_,rfl⟩
 obtain ⟨h1,k1⟩:=h0.put 7 (.bool false) { c with wish:=false } none nv0 rfl ⟨rfl,rfl,rfl⟩
 rw [<- hW1] at h1 k1
 obtain ⟨W2,hW2⟩:∃ W',W'=W1.setCell ⟨q.C,6,none⟩ (ah ((c.cycles:Int)+1)):=⟨_,rfl⟩
 obtain ⟨h2,k2⟩:=h1.put 6 (ah ((c.cycles:Int)+1)) { c with wish:=false,cycles:=c.cycles+1 } none nv0 (by show _=jv G q _ _ _;unfold jv;push_cast;rfl) ⟨rfl,rfl,rfl⟩
 rw [<- hW2] at h2 k2
 have k02:Keep (In o [5]) W0 W2:=k1.trans k2
 have hb2:=hb.aH k02 o0 rfl
 have hw1:IntKind.i64.wrap ((c.cycles:Int)+1)=(c.cycles:Int)+1:=IntWalk.i64_in _ (by omega)
 have hw2:IntKind.i64.wrap (1 - (c.color:Int))=1 - (c.color:Int):=IntWalk.i64_in _ (by omega)
 have y7:=h0.cell 7 _ rfl
 have f7:=h0.free 7
 have z0:=hb.cell 0 (v := aj q.C) rfl
 have y6:=h1.cell 6 _ rfl
 have f6:=h1.free 6
 have z1:=(hb.aH k1 o0 rfl).cell 0 (v := aj q.C) rfl
 have y5:=h2.cell 5 _ rfl
 have f5:=h2.free 5
 have z2:=hb2.cell 0 (v := aj q.C) rfl
 obtain ⟨W3,hW3⟩:∃ W',W'=(W2.setCell ⟨q.C,5,none⟩ (ah (1 - (c.color:Int)))).drew:=⟨_,rfl⟩
 obtain ⟨c3,hc3⟩:∃ c':CS,c'={ c with wish:=false,cycles:=c.cycles+1,color:=1 - c.color }:=⟨_,rfl⟩
 obtain ⟨h3,k3⟩:=h2.put 5 (ah (1 - (c.color:Int))) { c with wish:=false,cycles:=c.cycles+1,color:=1 - c.color } none nv0 (by show _=jv G q _ _ _;unfold jv;rw [show ((1 - c.color:Nat):Int)=1 - (c.color:Int) by omega];rfl) ⟨rfl,rfl,rfl⟩
 have kd3:Keep none_ (W2.setCell ⟨q.C,5,none⟩ (ah (1 - (c.color:Int)))) W3:=by rw [hW3];exact (Keep.refl none_ _).drew
 have h3':=h3.still kd3
 have k03:Keep (In o [5]) W0 W3:=(k02.trans k3).trans kd3.aS
 have hb3:=hb.aH k03 o0 rfl
 have k3I:Keep (In o aY) w W3:=hk.aS.trans (qX k03)
 rw [<- hc3] at h3'
 have x0:=hb3.cell 0 (v := aj q.C) rfl
 have x6:W3.cell? ⟨q.C,6,none⟩=some (ah ((c.cycles:Int)+1)):=by
  have:=h3'.cell 6 _ rfl
  rw [hc3] at this
  push_cast at this
  exact this
 have es:gY s c=uP s c3 1 .arm (some (c3.ev 2 (c.cycles+1))):=by rw [hc3];rfl
 have HT:Hid (Calls ay 79 #[aj q.C,ah 2,ah ((c.cycles:Int)+1)] W3.drew fun e w'=>e = .returned (.tuple #[])/\aP o w' G q s c3 (some (c3.ev 2 (c.cycles+1))) nv0/\w'.cell? ⟨w.heap.size,0,none⟩=some (aj q.C)/\Keep (In o aY) W0 w'):=by
  have kd:Keep none_ W3 W3.drew:=(Keep.refl none_ W3).drew
  have g:=xM (h3'.still kd) 2 (c.cycles+1)
  rw [show ((c.cycles+1:Nat):Int)=(c.cycles:Int)+1 by push_cast;rfl] at g
  refine g.mono ?_
  rintro e w' ⟨rfl,g1,g2⟩
  have kk:=kd.aS.trans g2
  exact ⟨rfl,g1,(hb3.aH kk o0 rfl).cell 0 rfl,qX (k03.trans kk)⟩
 have HAK:Hid (∀ V,aP o V G q s c3 (some (c3.ev 2 (c.cycles+1))) nv0->Keep (In o aY) W0 V->Calls ay 80 #[aj q.C,ah 1,.func (.func 81) #[] #[aj w.heap.size]] V.drew fun e w'=>∃ fn first caps,e = .returned (.func (.func fn) first caps)/\w'.cell? ⟨q.C,10,none⟩=some nv0/\w'.frozen? ⟨q.C,10,none⟩=false/\w'.cell? ⟨w.heap.size,0,none⟩=some (aj q.C)/\(w'.setCell ⟨q.C,10,none⟩ (.func (.func fn) first caps)).cell? ⟨w.heap.size,0,none⟩=some (aj q.C)/\Hid (Kt o w G q (gY s c) (w'.setCell ⟨q.C,10,none⟩ (.func (.func fn) first caps)))):=fun V hV0 adr=>by
  have hV:=hV0.still (Keep.refl none_ V).drew
  have hkV:Keep (In o aY) W0 V.drew:=adr.trans (Keep.refl (In o aY) V).drew
  have hbV:aA V.drew w.heap.size [aB q.C] 30:=hb.aH hkV o0 eY
  have ht:bg o V.drew q.C .arm (.func (.func 81) #[] #[aj w.heap.size]):=⟨[w.heap.size],rfl,_,_,rfl,o0,hbV,rfl⟩
  have g:=uz hV 1 ht hc0 hc1
  rw [<- es] at g
  refine g.mono ?_
  rintro e w' ⟨nv,rfl,hf,hp⟩
  obtain ⟨o2,nv2,e2,eo2,h4,h5,k4⟩:=id hp
  cases e2
  have hfn:∃ fn first caps,nv = .func (.func fn) first caps:=by
   rcases h5.form with ⟨h6,_⟩|⟨_,h6⟩
   ·rw [es] at h6;cases h6
   ·exact h6
  obtain ⟨fn,first,caps,rfl⟩:=hfn
  have hb4:=hbV.aH k4 o0 eY
  have hne:w.heap.size≠q.C:=fun e=>by
   have h9:=h.blk.lt
   rw [<- e] at h9
   exact absurd h9 (Nat.lt_irrefl _)
  exact ⟨fn,first,caps,rfl,hp.c10.1,hp.c10.2,hb4.cell 0 rfl,(hb4.other (a:=⟨q.C,10,none⟩) hne _).cell 0 rfl,(hp.after (hk.aS.trans hkV)).lay⟩
 have HW0:=au hW0
 have HW1:=au hW1
 have HW2:=au hW2
 have HW3:=au hW3
 rw [hW0] at y7 f7 z0
 rw [hW1,hW0] at y6 f6 z1
 have hmf:=jc
 generalize gY s c=R at *
 generalize c3.ev 2 (c.cycles+1)=evs at *
 generalize c.cycles=cy at *
 generalize c.color=co at *
 clear hW0 hW1 hW2 hW3 h h0 h1 h2 h3 h3' k1 k2 k02 k3 kd3 k03 k3I hb hb2 hb3 hk es hc3
 go_enter func43,ntmps43
 go_wp2_with fail
 rw [<- HW0.out,<- HW1.out,<- HW2.out]
 go_region
 rw [<- HW3.out]
 clear y5 f5 z2 y6 f6 z1 y7 f7 z0
 go_wp2_with fail
 refine aI 5 rfl (by kernel_rfl) (by kernel_rfl) (fun K hK=>?_)
 change wpStill _ _ (World.drew _) _ _ _
 simp only [List.take_succ_cons,List.take_zero,List.drop_succ_cons,List.drop_zero] at hK ⊢
 repeat still_step
 refine wpStill_nil ?_
 change ite _ (Oper.wp _ _ _ _ _ _) _
 go_simp
 refine HT.out.mono ?_
 rintro e w4 ⟨rfl,h4,x4,k4⟩
 refine hK _ _ ?_
 clear hK K
 have mM:=au (HAK.out w4 h4 k4)
 clear h4 k4 HT HAK x0 x6
 repeat still_step
 refine wpStill_nil ?_
 go_wp2_with fail
 go_region_held3 (fun W'=>W'.cell? ⟨w.heap.size,0,none⟩=some (aj q.C))
  (first
   | exact x4
   | exact zs
   | exact zn
   | fail "ji")
  (first
   | (go_at_call 80
      refine mM.out.mono ?_
      rintro e w5 ⟨fn,first,caps,rfl,y10,f10,zn,zs,hp⟩
      have HP:=au hp.out
      clear hp)
   | fail "jZ")
 all_goals
  go_end0
  exact ⟨rfl,HP.out⟩
end
section
variable {o:Ow} {w w':World} {Nt M:Nat}
theorem Sm (fn:Nat) (caps:Array Value) (w:World):Calls ay 127 #[.func (.func fn) #[] caps] w fun e w'=>e = .returned (.func (.func 169) #[] #[aB w.heap.size])/\w'=w.alloc (.cells #[.func (.func fn) #[] caps] 1):=by
 have hmf:=jc
 go_enter func127,ntmps127
 go_wp2_with fail
 go_ret
 exact ⟨rfl,rfl⟩
def rQ (o:Ow) (w:World) (M:Nat) (k:Int) (lv:Value):Prop :=
 if k=1 then bK o w 130 [([aB M],56)] lv
 else if k=2 then bK o w 132 [] lv
 else if k=3 then bK o w 133 [([aB M],56)] lv
 else if k=5 then bK o w 137 [([aB M],56)] lv
 else bK o w 138 [([aB M],56)] lv
theorem rQ.still {k:Int} {lv:Value} (h:rQ o w M k lv) (kk:Keep none_ w w'):rQ o w' M k lv:=by
 unfold rQ at h ⊢
 by_cases e1:k=1
 ·rw [if_pos e1] at h ⊢;exact h.keep kk (fun _ _ f=>f)
 rw [if_neg e1] at h ⊢
 by_cases e2:k=2
 ·rw [if_pos e2] at h ⊢;exact h.keep kk (fun _ _ f=>f)
 rw [if_neg e2] at h ⊢
 by_cases e3:k=3
 ·rw [if_pos e3] at h ⊢;exact h.keep kk (fun _ _ f=>f)
 rw [if_neg e3] at h ⊢
 by_cases e5:k=5
 ·rw [if_pos e5] at h ⊢;exact h.keep kk (fun _ _ f=>f)
 rw [if_neg e5] at h ⊢
 exact h.keep kk (fun _ _ f=>f)
theorem rQ.once {k:Int} {lv dv v:Value} (h:rQ o w M k lv) (h1:bK o w 128 [([lv],1),([aB M],56)] dv) (h2:bK o w 169 [([dv],1)] v):dw o w Nt M (.once k) v:=by
 refine ⟨dv,h2,?_⟩
 unfold rQ at h
 by_cases e1:k=1
 ·rw [if_pos e1] at h ⊢;exact ⟨lv,h1,h⟩
 rw [if_neg e1] at h ⊢
 by_cases e2:k=2
 ·rw [if_pos e2] at h ⊢;exact ⟨lv,h1,h⟩
 rw [if_neg e2] at h ⊢
 by_cases e3:k=3
 ·rw [if_pos e3] at h ⊢;exact ⟨lv,h1,h⟩
 rw [if_neg e3] at h ⊢
 by_cases e5:k=5
 ·rw [if_pos e5] at h ⊢;exact ⟨lv,h1,h⟩
 rw [if_neg e5] at h ⊢
 exact ⟨lv,h1,h⟩
theorem AZ (hf:gX o w) (k:Int) (fn:Nat) (caps:Array Value) (hl:rQ o w M k (.func (.func fn) #[] caps)) (b:Nat) (hb:o b=0) (kb:aA w b [aB M] 56):Calls ay 126 #[.func (.func fn) #[] caps,aj b] w fun e w'=>∃ fn caps,e = .returned (.func (.func fn) #[] caps)/\dw o w' Nt M (.once k) (.func (.func fn) #[] caps)/\Keep none_ w w':=by
 have hc:=iq (o:=o) [([.func (.func fn) #[] caps],1),([.func (.func 128) #[] #[aB w.heap.size,aB b]],1)] w hf
 have HE:Hid (dw o (bU w [([.func (.func fn) #[] caps],1),([.func (.func 128) #[] #[aB w.heap.size,aB b]],1)]) Nt M (.once k) (.func (.func 169) #[] #[aB (w.heap.size+1)])/\Keep none_ w (bU w [([.func (.func fn) #[] caps],1),([.func (.func 128) #[] #[aB w.heap.size,aB b]],1)])):=by
  obtain ⟨b0,b1,e,⟨o0,k0⟩,⟨o1,k1⟩⟩:=caps2 hc.1
  simp only [idxs,List.cons.injEq] at e
  obtain ⟨rfl,rfl,_⟩:=e
  exact ⟨(hl.still hc.2).once ⟨[w.heap.size,b],rfl,_,_,rfl,o0,k0,_,_,rfl,hb,hc.2.blk kb (fun f=>f),rfl⟩ ⟨[w.heap.size+1],rfl,_,_,rfl,o1,k1,rfl⟩,hc.2⟩
 have hmf:=jc
 clear hc hl hb kb hf
 go_enter func126,ntmps126
 go_wp2_with fail
 refine (Sm _ _ _).mono ?_
 rintro e w1 ⟨rfl,rfl⟩
 simp only [World.size_alloc]
 go_wp2_with fail
 go_ret
 exact ⟨_,_,rfl,HE.out.1,HE.out.2⟩
end
section
variable {o:Ow} {w w':World} {Nt M:Nat}
theorem MF (hf:gX o w) (k:Int) (h35:k≠3/\k≠5):Calls ay 91 #[aj M,ah k] w fun e w'=>∃ fn caps,e = .returned (.func (.func fn) #[] caps)/\dw o w' Nt M (.once k) (.func (.func fn) #[] caps)/\Keep none_ w w':=by
 obtain ⟨W1,hW1⟩:∃ W1,W1=w.alloc (.cells #[aB M] 56):=⟨_,rfl⟩
 have k1:Keep none_ w W1:=by rw [hW1];exact (Keep.refl _ _).alloc _
 have hb1:aA W1 w.heap.size [aB M] 56:=by rw [hW1];exact aA.new w _ _
 have ho:o w.heap.size=0:=hf _ (Nat.le_refl _)
 have HL:Hid (∀ fn caps,rQ o W1 M k (.func (.func fn) #[] caps)->Calls ay 126 #[.func (.func fn) #[] caps,aj w.heap.size] W1 fun e w'=>∃ fn caps,e = .returned (.func (.func fn) #[] caps)/\dw o w' Nt M (.once k) (.func (.func fn) #[] caps)/\Keep none_ w w'):=fun fn caps hl=>by
  refine (AZ (Nt:=Nt) (hf.keep k1) k fn caps hl w.heap.size ho hb1).mono ?_
  rintro e w' ⟨fn,caps,rfl,h1,h2⟩
  exact ⟨fn,caps,rfl,h1,k1.trans h2⟩
 have HW1:=au hW1
 have hmf:=jc
 have d3:(k==3)=false:=by simpa using h35.1
 have d5:(k==5)=false:=by simpa using h35.2
 by_cases e1:k=1
 ·subst e1
  have yN:=au (HL.out 130 #[aj w.heap.size] (by unfold rQ;rw [if_pos rfl];exact ⟨[w.heap.size],rfl,_,_,rfl,ho,hb1,rfl⟩))
  clear HL d3 d5 k1 hb1 ho hW1 hf h35
  go_enter func91,ntmps91
  go_wp2_with fail
  rw [<- HW1.out]
  refine yN.out.mono ?_
  rintro e w2 ⟨fn,caps,rfl,h1,h2⟩
  have HE:=au (And.intro h1 h2)
  clear h1 h2
  go_wp2_with fail
  go_ret
  exact ⟨_,_,rfl,HE.out.1,HE.out.2⟩
 have d1:(k==1)=false:=by simpa using e1
 by_cases e2:k=2
 ·subst e2
  have yN:=au (HL.out 132 #[] (by unfold rQ;rw [if_neg (by decide),if_pos rfl];exact ⟨[],rfl,rfl⟩))
  clear HL d3 d5 d1 k1 hb1 ho hW1 hf h35 e1
  go_enter func91,ntmps91
  go_wp2_with fail
  rw [<- HW1.out]
  refine yN.out.mono ?_
  rintro e w2 ⟨fn,caps,rfl,h1,h2⟩
  have HE:=au (And.intro h1 h2)
  clear h1 h2
  go_wp2_with fail
  go_ret
  exact ⟨_,_,rfl,HE.out.1,HE.out.2⟩
 have d2:(k==2)=false:=by simpa using e2
 have yN:=au (HL.out 138 #[aj w.heap.size] (by unfold rQ;rw [if_neg e1,if_neg e2,if_neg h35.1,if_neg h35.2];exact ⟨[w.heap.size],rfl,_,_,rfl,ho,hb1,rfl⟩))
 clear HL k1 hb1 ho hW1 hf h35 e1 e2
 go_enter func91,ntmps91
 go_wp2_with fail
 rw [<- HW1.out]
 refine yN.out.mono ?_
 rintro e w2 ⟨fn,caps,rfl,h1,h2⟩
 have HE:=au (And.intro h1 h2)
 clear h1 h2
 go_wp2_with fail
 go_ret
 exact ⟨_,_,rfl,HE.out.1,HE.out.2⟩
end
end
end Go.Proofs.YtanfphjoebobaaaGreatDoor
