/- Parts of a walk, put together and made shorter by a program of mine. No conditions. -/
import Derived.Test.YtanfphjoebobaaaGreatDoorZzcv
namespace Go.Proofs.YtanfphjoebobaaaGreatDoor
set_option maxRecDepth 8000
set_option maxHeartbeats 8000000
section
attribute [local go_sem] Oper.semAt_some
open Go.RowKit
section
variable {o o':Ow} {w w':World} {G:Geo} {q:CG} {s:Sh} {c:CS} {ev:Option Ev} {nv nv0:Value}
theorem JR {b:Nat} {xs:List Nat} (h:cZ o w b 176 [] xs):Calls Tryz.prog 259 #[.pointer (some ⟨b,0,none⟩)] w fun e w'=>e = .returned (.tuple #[.int .i64 (aJ xs:Int),.bool (!xs.isEmpty)])∧cZ o w' b 176 [] xs.tail∧Keep (only b) w w':=by
 have HT:Hid (Calls Tryz.prog 246 #[.pointer (some ⟨b,0,none⟩)] w fun e w'=>e = .returned (.tuple #[.int .i64 (aJ xs:Int),.bool (!xs.isEmpty)])∧cZ o w' b 176 [] xs.tail∧Keep (only b) w w'):=by
  cases xs with
  | nil =>
    refine (zf h).mono ?_
    rintro e w' ⟨rfl,rfl⟩
    exact ⟨rfl,h,Keep.refl _ _⟩
  | cons x xs=>exact xw x h
 generalize aJ xs=hd at *
 generalize (!xs.isEmpty)=ok at *
 clear h
 go_enter Tryz.func259,Tryz.ntmps259
 go_wp2_with (go_at_call 246;refine HT.out.mono ?_;rintro e w1 ⟨rfl,h1,k1⟩;have HH:=Lib.hid h1;have HK:=Lib.hid k1;clear h1 k1)
 go_ret2
 exact ⟨rfl,HH.out,HK.out⟩
theorem Rx {m:Nat} (hm:m<s.boxes.length):s.boxes[m]?=some (s.box m):=by
 unfold Sh.box
 rw [List.getD_eq_getElem?_getD,List.getElem?_eq_getElem hm]
 rfl
theorem ShAt.UZ (h:ShAt o w G s) {m:Nat} (hm:m<s.boxes.length):∃ b off cp,w.cell? ⟨G.S,4,none⟩=some (.slice (some ⟨b,off,none⟩) s.boxes.length cp)∧w.cell? ⟨b,off+m,none⟩=some (.pointer (some ⟨G.bx m,0,none⟩)):=by
 obtain ⟨v,h1,h2⟩:=h.sh
 obtain ⟨a,cp,rfl,_,_,h3⟩:=h2.form
 simp only [List.length_map,List.length_range] at h1
 obtain ⟨b,off,rfl,h4⟩:=h3 m (ah (G.bx m)) (by simp [hm])
 exact ⟨b,off,cp,h1.cell 4 rfl,h4⟩
theorem U0 (h:CAt o w G q s c none nv0) (m:Nat) (hm:m<c.muts) (hmu:s.boxes.length=c.muts) (b0 b1:Nat) (o0:o b0=0) (o1:o b1=0) (k0:Blk w b0 [ah q.C] 30) (k1:Blk w b1 [.int .i64 (m:Int)] 3) :
 Calls Tryz.prog 258 #[.pointer (some ⟨b0,0,none⟩),.pointer (some ⟨b1,0,none⟩)] w (aP o w G q nv0 (aj s c (.box m))):=by
 have HC:Hid (∀ V,Keep (In o aK) w V→V.cell? ⟨b0,0,none⟩=some (.pointer (some ⟨q.C,0,none⟩))∧V.cell? ⟨b1,0,none⟩=some (.int .i64 (m:Int))):=fun V hV =>
  ⟨(hV.blk k0 (aU o0 dM)).cell 0 rfl,(hV.blk k1 (aU o1 dM)).cell 0 rfl⟩
 have hkd:Keep none_ w w.drew:=(Keep.refl none_ w).drew
 have hd:=h.still hkd
 obtain ⟨y0,y1⟩:=HC.out w (Keep.refl _ _)
 have y3:=h.c0
 have hmb:m<s.boxes.length:=by omega
 obtain ⟨bb,off,cp,y4,y5⟩:=h.sh.UZ hmb
 have hgb:=Rx (s:=s) hmb
 have hbx:=(hd.sh.box m _ hgb).1
 have HNX:Hid (Calls Tryz.prog 259 #[.pointer (some ⟨G.bx m,0,none⟩)] w.drew fun e w'=>e = .returned (.tuple #[.int .i64 (aJ (s.box m):Int),.bool (!(s.box m).isEmpty)])∧CAt o w' G q { s with boxes:=s.boxes.set m (s.box m).tail } c none nv0∧Keep (In o aK) w w'):=by
  refine (JR hbx).mono ?_
  rintro e w' ⟨rfl,g1,g2⟩
  obtain ⟨h1,k1⟩:=hd.EH hmb g2 g1
  exact ⟨rfl,h1,hkd.aF.trans k1⟩
 have hmf:=gV
 have V3:(m:Int)<(s.boxes.length:Int):=by omega
 have h0I:(0:Int)≤(m:Int):=by omega
 have h8:=h.box8
 generalize hN:s.boxes.length=N at *
 cases hb:s.box m with
 | cons a l =>
   rw [hb] at HNX
   have e1:aj s c (.box m)=⟨{ s with boxes:=s.boxes.set m l },c,bG a (.box m),none⟩:=by simp only [aj,hb]
   simp only [aJ,List.isEmpty_cons,Bool.not_false,List.tail_cons] at HNX
   have HNB:Hid (∀ V,CAt o V G q { s with boxes:=s.boxes.set m l } c none nv0∧Keep (In o aK) w V→Calls Tryz.prog 243 #[.pointer (some ⟨q.C,0,none⟩),.int .i64 (m:Int)] V fun e w'=>∃ nv,e = .returned nv∧aO o w' q.C (.box m) nv∧CAt o w' G q { s with boxes:=s.boxes.set m l } c none nv0∧Keep (In o aK) w w'):=fun V hV=>by
    refine (yh hV.1.sh.fut q.C m).mono ?_
    rintro e w' ⟨nv,rfl,g1,g2⟩
    exact ⟨nv,rfl,g1,hV.1.still g2,hV.2.trans g2.aF⟩
   have HLK:Hid (∀ V nv,aO o V q.C (.box m) nv∧CAt o V G q { s with boxes:=s.boxes.set m l } c none nv0∧Keep (In o aK) w V→Calls Tryz.prog 210 #[.pointer (some ⟨q.C,0,none⟩),.int .i64 (a:Int),nv] V fun e w'=>aP o w G q nv0 (aj s c (.box m)) e w'∧Keep (In o aK) w w'):=fun V nv hV=>by
    rw [e1]
    exact aP.made2 hV.2.2 (r:=⟨{ s with boxes:=s.boxes.set m l },c,bG a (.box m),none⟩) hV.2.1 hV.2.2 (vG hV.2.1.sh.fut q.C _ hV.1)
   have HDR:Hid (∀ V,CAt o V G q { s with boxes:=s.boxes.set m l } c none nv0∧Keep (In o aK) w V→CAt o V.drew G q { s with boxes:=s.boxes.set m l } c none nv0∧Keep (In o aK) w V.drew):=fun V hV=>⟨hV.1.still ((Keep.refl none_ V).drew),hV.2.trans ((Keep.refl _ V).drew)⟩
   clear e1
   generalize aj s c (.box m)=R at *
   generalize ({ s with boxes:=s.boxes.set m l }:Sh)=s' at *
   clear h hd hkd k0 k1 o0 o1 hbx hgb hb hm hmu hmb
   go_enter Tryz.func258,Tryz.ntmps258
   go_wp2_with fail
   refine aA 10 rfl (by kernel_rfl) (by kernel_rfl) (fun K hK=>?_)
   change wpStill _ _ (World.drew _) _ _ _
   simp only [List.take_succ_cons,List.take_zero,List.drop_succ_cons,List.drop_zero] at hK ⊢
   repeat still_step
   refine wpStill_nil ?_
   change ite _ (Oper.wp _ _ _ _ _ _) _
   go_simp
   refine HNX.out.mono ?_
   rintro e w1 ⟨rfl,h1,k1⟩
   refine hK _ _ ?_
   clear hK K
   have HK1:=Lib.hid (And.intro h1 k1)
   clear y0 y1 y3 y4 y5
   obtain ⟨y0,y1⟩:=HC.out w1 k1
   clear h1 k1 HNX
   repeat still_step
   refine wpStill_nil ?_
   go_wp2_with fail
   go_region_held3 (fun W'=>W'.cell? ⟨b0,0,none⟩=some (.pointer (some ⟨q.C,0,none⟩))∧W'.cell? ⟨b1,0,none⟩=some (.int .i64 (m:Int)))
    (first
     | exact ⟨y0,y1⟩
     | exact HC.out _ HK3.out
     | exact HC.out _ HX.out.2.2
     | exact HC.out _ (HDR.out _ HK1.out).2
     | fail "iw")
    (first
     | (go_at_call 243
        refine (HNB.out _ (by first|exact HDR.out _ HK1.out|exact HK1.out)).mono ?_
        rintro e w2 ⟨nv,rfl,hx⟩
        have HX:=Lib.hid hx
        clear hx)
     | (go_at_call 210
        refine (HLK.out _ _ HX.out).mono ?_
        rintro e w3 ⟨⟨nv3,rfl,hf3,hp3⟩,k3⟩
        have HK3:=Lib.hid k3
        have HP:=Lib.hid hp3
        have HFM:=Lib.hid hf3
        clear hp3 hf3 k3)
     | fail "jc")
   all_goals
    have hfm:=HFM.out
    rcases hfm with rfl|⟨fn2,first2,caps2,rfl⟩
    all_goals
     go_wp2_with fail
     go_ret
     exact ⟨_,rfl,by first|exact .inl rfl|exact .inr ⟨_,_,_,rfl⟩,HP.out⟩
 | nil =>
   rw [hb] at HNX
   have es:({ s with boxes:=s.boxes.set m [] }:Sh)=s:=by
    rw [hb] at hgb
    obtain ⟨hlt,he⟩:=List.getElem?_eq_some_iff.1 hgb
    have:s.boxes.set m []=s.boxes:=by rw [← he];exact List.set_getElem_self hlt
    rw [this]
   simp only [aJ,List.isEmpty_nil,Bool.not_true,List.tail_nil] at HNX
   rw [es] at HNX
   have hwi:IntKind.i64.wrap ((m:Int)+1)=(m:Int)+1:=IntWalk.i64_in _ (by omega)
   by_cases hlt:m+1<c.muts
   ·have e1:aj s c (.box m)=⟨s,c,.box (m+1),none⟩:=by simp only [aj,hb];rw [if_pos hlt]
    have d1:decide ((m:Int)+1<(c.muts:Int))=true:=decide_eq_true (by omega)
    have HA:Hid (∀ V,CAt o V G q s c none nv0→Keep (In o aK) w V→V.cell? ⟨q.C,1,none⟩=some (.int .i64 (c.muts:Int))∧∀ n,Calls Tryz.prog 243 #[.pointer (some ⟨q.C,0,none⟩),.int .i64 ((m:Int)+1)] (V.drewN n) (aP o w G q nv0 (aj s c (.box m)))):=fun V hV hk=>by
     refine ⟨hV.cell 1 _ rfl,fun n=>?_⟩
     rw [e1]
     have kd:Keep none_ V (V.drewN n):=(Keep.refl none_ V).drewN n
     have g:=yh (hV.still kd).sh.fut q.C (m+1)
     rw [show (((m+1:Nat)):Int)=(m:Int)+1 from by push_cast;rfl] at g
     exact aP.made (r:=⟨s,c,.box (m+1),none⟩) (hV.still kd) (hk.trans kd.aF) g
    clear e1
    generalize aj s c (.box m)=R at *
    generalize c.muts=mu at *
    clear h hd hkd k0 k1 o0 o1 hbx hgb hb hm hmu hmb hlt
    go_enter Tryz.func258,Tryz.ntmps258
    go_wp2_with fail
    refine aA 10 rfl (by kernel_rfl) (by kernel_rfl) (fun K hK=>?_)
    change wpStill _ _ (World.drew _) _ _ _
    simp only [List.take_succ_cons,List.take_zero,List.drop_succ_cons,List.drop_zero] at hK ⊢
    repeat still_step
    refine wpStill_nil ?_
    change ite _ (Oper.wp _ _ _ _ _ _) _
    go_simp
    refine HNX.out.mono ?_
    rintro e w1 ⟨rfl,h1,k1⟩
    refine hK _ _ ?_
    clear hK K
    obtain ⟨y6,ha⟩:=HA.out w1 h1 k1
    have HA1:=Lib.hid ha
    clear y0 y1 y3 y4 y5 ha HA
    obtain ⟨y0,y1⟩:=HC.out w1 k1
    clear h1 k1 HNX
    repeat still_step
    refine wpStill_nil ?_
    go_wp2_with fail
    go_quiet (fail)
    go_wp2_with fail
    refine (HA1.out nq).mono ?_
    rintro e w3 ⟨nv,rfl,hf,hp⟩
    have HP:=Lib.hid hp
    clear hp HA1
    rcases hf with rfl|⟨fn2,first2,caps2,rfl⟩
    all_goals
     go_wp2_with fail
     go_ret
     exact ⟨_,rfl,by first|exact .inl rfl|exact .inr ⟨_,_,_,rfl⟩,HP.out⟩
   ·have d1:decide ((m:Int)+1<(c.muts:Int))=false:=decide_eq_false (by omega)
    have HA:Hid (∀ V,CAt o V G q s c none nv0→Keep (In o aK) w V→V.cell? ⟨q.C,1,none⟩=some (.int .i64 (c.muts:Int))∧∀ n,(V.drewN n).cell? ⟨q.C,9,none⟩=some (.pointer (some ⟨q.K,0,none⟩))∧(V.drewN n).cell? ⟨b0,0,none⟩=some (.pointer (some ⟨q.C,0,none⟩))∧Calls Tryz.prog 255 #[.pointer (some ⟨q.K,0,none⟩)] (V.drewN n) fun e w'=>e = .returned (.int .i64 (c.stk.length:Int))∧w'.cell? ⟨b0,0,none⟩=some (.pointer (some ⟨q.C,0,none⟩))∧dI o w G q nv0 (aj s c (.box m)) (.returned (if c.stk=[] then bnd 260 q.C else bnd 208 q.C)) w'):=fun V hV hk=>by
     refine ⟨hV.cell 1 _ rfl,fun n=>?_⟩
     have kd:Keep none_ V (V.drewN n):=(Keep.refl none_ V).drewN n
     have hk1:=hk.trans kd.aF
     have h1:=hV.still kd
     refine ⟨h1.zC,(HC.out _ hk1).1,(PU h1).mono ?_⟩
     rintro e w' ⟨rfl,g1,g2⟩
     refine ⟨rfl,(HC.out _ (hk1.trans g2.aF)).1,?_⟩
     by_cases hs:c.stk=[]
     ·have e1:aj s c (.box m)=⟨s,c,.over,none⟩:=by simp only [aj,hb];rw [if_neg hlt,if_pos hs]
      rw [e1,if_pos hs]
      exact dI.same (r:=⟨s,c,.over,none⟩) g1 rfl (hk1.trans g2.aF)
     ·have e1:aj s c (.box m)=⟨s,c,.work,none⟩:=by simp only [aj,hb];rw [if_neg hlt,if_neg hs]
      rw [e1,if_neg hs]
      exact dI.same (r:=⟨s,c,.work,none⟩) g1 rfl (hk1.trans g2.aF)
    have d2:(c.stk=[]∧decide (0<c.stk.length)=false)∨(c.stk≠[]∧decide (0<c.stk.length)=true):=by
     by_cases hs:c.stk=[]
     ·exact .inl ⟨hs,by rw [hs];rfl⟩
     ·exact .inr ⟨hs,decide_eq_true (List.length_pos_iff.2 hs)⟩
    rcases d2 with ⟨hs,d2⟩|⟨hs,d2⟩
    ·rw [if_pos hs] at HA
     generalize c.stk.length=sl at *
     generalize aj s c (.box m)=R at *
     generalize c.muts=mu at *
     clear h hd hkd k0 k1 o0 o1 hbx hgb hb hm hmu hmb hlt hs
     go_enter Tryz.func258,Tryz.ntmps258
     go_wp2_with fail
     refine aA 10 rfl (by kernel_rfl) (by kernel_rfl) (fun K hK=>?_)
     change wpStill _ _ (World.drew _) _ _ _
     simp only [List.take_succ_cons,List.take_zero,List.drop_succ_cons,List.drop_zero] at hK ⊢
     repeat still_step
     refine wpStill_nil ?_
     change ite _ (Oper.wp _ _ _ _ _ _) _
     go_simp
     refine HNX.out.mono ?_
     rintro e w1 ⟨rfl,h1,k1⟩
     refine hK _ _ ?_
     clear hK K
     obtain ⟨y6,ha⟩:=HA.out w1 h1 k1
     have HA1:=Lib.hid ha
     clear y0 y1 y3 y4 y5 ha HA
     obtain ⟨y0,y1⟩:=HC.out w1 k1
     clear h1 k1 HNX
     repeat still_step
     refine wpStill_nil ?_
     go_wp2_with fail
     go_quiet (fail)
     obtain ⟨z9,z0,hln⟩:=HA1.out nq
     have HLN:=Lib.hid hln
     clear hln HA1
     go_wp2_with fail
     refine HLN.out.mono ?_
     rintro e w3 ⟨rfl,z1,hp⟩
     have HP:=Lib.hid hp
     clear hp HLN z9 z0 y0 y1 y6
     go_wp2_with fail
     go_ret
     exact ⟨_,rfl,.inr ⟨_,_,_,rfl⟩,HP.out⟩
    ·rw [if_neg hs] at HA
     generalize c.stk.length=sl at *
     generalize aj s c (.box m)=R at *
     generalize c.muts=mu at *
     clear h hd hkd k0 k1 o0 o1 hbx hgb hb hm hmu hmb hlt hs
     go_enter Tryz.func258,Tryz.ntmps258
     go_wp2_with fail
     refine aA 10 rfl (by kernel_rfl) (by kernel_rfl) (fun K hK=>?_)
     change wpStill _ _ (World.drew _) _ _ _
     simp only [List.take_succ_cons,List.take_zero,List.drop_succ_cons,List.drop_zero] at hK ⊢
     repeat still_step
     refine wpStill_nil ?_
     change ite _ (Oper.wp _ _ _ _ _ _) _
     go_simp
     refine HNX.out.mono ?_
     rintro e w1 ⟨rfl,h1,k1⟩
     refine hK _ _ ?_
     clear hK K
     obtain ⟨y6,ha⟩:=HA.out w1 h1 k1
     have HA1:=Lib.hid ha
     clear y0 y1 y3 y4 y5 ha HA
     obtain ⟨y0,y1⟩:=HC.out w1 k1
     clear h1 k1 HNX
     repeat still_step
     refine wpStill_nil ?_
     go_wp2_with fail
     go_quiet (fail)
     obtain ⟨z9,z0,hln⟩:=HA1.out nq
     have HLN:=Lib.hid hln
     clear hln HA1
     go_wp2_with fail
     refine HLN.out.mono ?_
     rintro e w3 ⟨rfl,z1,hp⟩
     have HP:=Lib.hid hp
     clear hp HLN z9 z0 y0 y1 y6
     go_wp2_with fail
     go_ret
     exact ⟨_,rfl,.inr ⟨_,_,_,rfl⟩,HP.out⟩
end
section
variable {o o':Ow} {w w':World} {G:Geo} {q:CG} {s:Sh} {c:CS} {ev:Option Ev} {nv nv0:Value}
theorem Ry (h:CAt o w G q s c none nv0) (hl:c.stk.length≤c.room) (hr:c.room≤4096) (t:CD) (tv:Value) (ht:aO o w q.C t tv) (b0 b1:Nat) (o0:o b0=0) (o1:o b1=0) (k0:Blk w b0 [ah q.C] 30) (k1:Blk w b1 [tv] 88) :
 Calls Tryz.prog 295 #[.pointer (some ⟨b0,0,none⟩),.pointer (some ⟨b1,0,none⟩)] w (aP o w G q nv0 (aj s c (.empty t))):=by
 have HC:Hid (∀ V,Keep (In o aK) w V→V.cell? ⟨b0,0,none⟩=some (.pointer (some ⟨q.C,0,none⟩))∧V.cell? ⟨b1,0,none⟩=some tv):=fun V hV =>
  ⟨(hV.blk k0 (aU o0 dM)).cell 0 rfl,(hV.blk k1 (aU o1 dM)).cell 0 rfl⟩
 obtain ⟨y0,y1⟩:=HC.out w (Keep.refl _ _)
 have y9:=h.zC
 have hform:=ht.forms
 cases hx:c.stk.getLast? with
 | none =>
   have e1:aj s c (.empty t)=⟨s,c,t,none⟩:=by simp only [aj,hx]
   have HP0:=Lib.hid (EO h hx)
   have HE:Hid (∀ V,CAt o V G q s c none nv0→Keep none_ w V→dI o w G q nv0 (aj s c (.empty t)) (.returned tv) V):=fun V hV hk=>by
    rw [e1]
    exact dI.same (r:=⟨s,c,t,none⟩) hV (ht.still hk) hk.aF
   clear e1
   generalize aj s c (.empty t)=R at *
   clear h hx hl hr ht k0 k1 o0 o1
   rcases hform with rfl|⟨fn,first,caps,rfl⟩
   all_goals
    go_enter Tryz.func295,Tryz.ntmps295
    go_wp2_with fail
    refine HP0.out.mono ?_
    rintro e w1 ⟨rfl,h1,k1⟩
    have HP:=Lib.hid (HE.out w1 h1 k1)
    clear y0 y1 y9
    obtain ⟨y0,y1⟩:=HC.out w1 k1.aF
    clear h1 k1 HE HP0
    go_wp2_with fail
    go_ret
    exact ⟨_,rfl,by first|exact .inl rfl|exact .inr ⟨_,_,_,rfl⟩,HP.out⟩
 | some a =>
   have e1:aj s c (.empty t)=⟨s,c.pop,.object a (.empty t),none⟩:=by simp only [aj,hx]
   have HP0:=Lib.hid (BP h hl hr a hx)
   have HNE:Hid (∀ V,CAt o V G q s c.pop none nv0∧Keep (In o aK) w V→Calls Tryz.prog 291 #[.pointer (some ⟨q.C,0,none⟩),tv] V fun e w'=>∃ nv,e = .returned nv∧aO o w' q.C (.empty t) nv∧CAt o w' G q s c.pop none nv0∧Keep (In o aK) w w'):=fun V hV=>by
    refine (zy hV.1.sh.fut q.C (ht.ay hV.2 dM)).mono ?_
    rintro e w' ⟨nv,rfl,g1,g2⟩
    exact ⟨nv,rfl,g1,hV.1.still g2,hV.2.trans g2.aF⟩
   have HOB:Hid (∀ V nv,aO o V q.C (.empty t) nv∧CAt o V G q s c.pop none nv0∧Keep (In o aK) w V→Calls Tryz.prog 242 #[.pointer (some ⟨q.C,0,none⟩),.int .i64 (a:Int),nv] V fun e w'=>aP o w G q nv0 (aj s c (.empty t)) e w'∧Keep (In o aK) w w'):=fun V nv hV=>by
    rw [e1]
    exact aP.made2 hV.2.2 (r:=⟨s,c.pop,.object a (.empty t),none⟩) hV.2.1 hV.2.2 (rP hV.2.1.sh.fut q.C a hV.1)
   have HDR:Hid (∀ V,CAt o V G q s c.pop none nv0∧Keep (In o aK) w V→CAt o V.drew G q s c.pop none nv0∧Keep (In o aK) w V.drew):=fun V hV=>⟨hV.1.still ((Keep.refl none_ V).drew),hV.2.trans ((Keep.refl _ V).drew)⟩
   clear e1
   generalize aj s c (.empty t)=R at *
   generalize c.pop=c' at *
   clear h hx hl hr ht k0 k1 o0 o1
   rcases hform with rfl|⟨fn,first,caps,rfl⟩
   ·skip
    go_enter Tryz.func295,Tryz.ntmps295
    go_wp2_with fail
    refine HP0.out.mono ?_
    rintro e w1 ⟨rfl,h1,k1⟩
    have HK1:=Lib.hid (And.intro h1 (k5I k1))
    clear y0 y1 y9
    obtain ⟨y0,y1⟩:=HC.out w1 HK1.out.2
    clear h1 k1 HP0
    go_wp2_with fail
    go_region_held3 (fun W'=>W'.cell? ⟨b0,0,none⟩=some (.pointer (some ⟨q.C,0,none⟩))∧W'.cell? ⟨b1,0,none⟩=some (.nilFunc))
     (first
      | exact ⟨y0,y1⟩
      | exact HC.out _ HK3.out
      | exact HC.out _ HX.out.2.2
      | exact HC.out _ (HDR.out _ HK1.out).2
      | fail "iw")
     (first
      | (go_at_call 291
         refine (HNE.out _ (by first|exact HDR.out _ HK1.out|exact HK1.out)).mono ?_
         rintro e w2 ⟨nv,rfl,hx⟩
         have HX:=Lib.hid hx
         clear hx)
      | (go_at_call 242
         refine (HOB.out _ _ HX.out).mono ?_
         rintro e w3 ⟨⟨nv3,rfl,hf3,hp3⟩,k3⟩
         have HK3:=Lib.hid k3
         have HP:=Lib.hid hp3
         have HFM:=Lib.hid hf3
         clear hp3 hf3 k3)
      | fail "jc")
    all_goals
     have hfm:=HFM.out
     rcases hfm with rfl|⟨fn2,first2,caps2,rfl⟩
     all_goals
      go_wp2_with fail
      go_ret
      exact ⟨_,rfl,by first|exact .inl rfl|exact .inr ⟨_,_,_,rfl⟩,HP.out⟩
   ·skip
    go_enter Tryz.func295,Tryz.ntmps295
    go_wp2_with fail
    refine HP0.out.mono ?_
    rintro e w1 ⟨rfl,h1,k1⟩
    have HK1:=Lib.hid (And.intro h1 (k5I k1))
    clear y0 y1 y9
    obtain ⟨y0,y1⟩:=HC.out w1 HK1.out.2
    clear h1 k1 HP0
    go_wp2_with fail
    go_region_held3 (fun W'=>W'.cell? ⟨b0,0,none⟩=some (.pointer (some ⟨q.C,0,none⟩))∧W'.cell? ⟨b1,0,none⟩=some (.func (.func fn) first caps))
     (first
      | exact ⟨y0,y1⟩
      | exact HC.out _ HK3.out
      | exact HC.out _ HX.out.2.2
      | exact HC.out _ (HDR.out _ HK1.out).2
      | fail "iw")
     (first
      | (go_at_call 291
         refine (HNE.out _ (by first|exact HDR.out _ HK1.out|exact HK1.out)).mono ?_
         rintro e w2 ⟨nv,rfl,hx⟩
         have HX:=Lib.hid hx
         clear hx)
      | (go_at_call 242
         refine (HOB.out _ _ HX.out).mono ?_
         rintro e w3 ⟨⟨nv3,rfl,hf3,hp3⟩,k3⟩
         have HK3:=Lib.hid k3
         have HP:=Lib.hid hp3
         have HFM:=Lib.hid hf3
         clear hp3 hf3 k3)
      | fail "jc")
    all_goals
     have hfm:=HFM.out
     rcases hfm with rfl|⟨fn2,first2,caps2,rfl⟩
     all_goals
      go_wp2_with fail
      go_ret
      exact ⟨_,rfl,by first|exact .inl rfl|exact .inr ⟨_,_,_,rfl⟩,HP.out⟩
theorem aV.cons {l:List Nat} {lv:Value} (h:aV o w 3 lv (aC l)) (hl:l≠[]):∃ b off n cp b2,lv = .slice (some ⟨b,off,none⟩) (n+1) cp∧n+1≤cp∧n=l.tail.length∧w.cell? ⟨b,off,none⟩=some (.int .i64 (aJ l:Int))∧aV o w 3 (.slice (kU b2 cp 1) n (cp - 1)) (aC l.tail)∧b2=some ⟨b,off,none⟩:=by
 cases l with
 | nil=>exact absurd rfl hl
 | cons a r =>
   obtain ⟨a0,cp,e,h1,h2,h3⟩:=h.form
   have el:(aC (a::r)).length=r.length+1:=by simp [aC]
   rw [el] at e h1
   subst e
   obtain ⟨b,off,rfl,h4⟩:=h3 0 (.int .i64 (a:Int)) rfl
   have hc:=h.cut 1 (by omega)
   exact ⟨b,off,r.length,cp,_,rfl,h1,rfl,by rw [Nat.add_zero] at h4;exact h4,by simpa [aC] using hc,rfl⟩
theorem Rz (h:CAt o w G q s c none nv0) (l:List Nat) (hl:l≠[]) (hlen:l.length≤1000) (t:CD) (tv lv:Value) (ht:aO o w q.C t tv) (hr:aV o w 3 lv (aC l)) (b0 b1 b2:Nat) (o0:o b0=0) (o1:o b1=0) (o2:o b2=0) (k0:Blk w b0 [ah q.C] 30) (k1:Blk w b1 [lv] 32) (k2:Blk w b2 [tv] 88) :
 Calls Tryz.prog 290 #[.pointer (some ⟨b0,0,none⟩),.pointer (some ⟨b1,0,none⟩),.pointer (some ⟨b2,0,none⟩)] w (aP o w G q nv0 (aj s c (.slots l t))):=by
 obtain ⟨B,off,n,cp,bb,rfl,hcp,hn,_,hrt,rfl⟩:=hr.cons hl
 have HC:Hid (∀ V,Keep none_ w V→V.cell? ⟨b0,0,none⟩=some (.pointer (some ⟨q.C,0,none⟩))∧V.cell? ⟨b1,0,none⟩=some (.slice (some ⟨B,off,none⟩) (n+1) cp)∧V.cell? ⟨b2,0,none⟩=some tv∧V.cell? ⟨B,off,none⟩=some (.int .i64 (aJ l:Int))∧V.cell? ⟨q.C,0,none⟩=some (.pointer (some ⟨G.S,0,none⟩))∧V.cell? ⟨q.C,5,none⟩=some (.int .i64 (c.color:Int))∧V.cell? ⟨G.S,0,none⟩=some (.pointer (some ⟨G.D 0,0,none⟩))):=fun V hV=>by
  have h9:=h.still hV
  obtain ⟨_,_,_,_,_,e,_,_,hc,_,_⟩:=(hr.still hV).cons hl
  cases e
  exact ⟨(hV.blk k0 (fun f=>f)).cell 0 rfl,(hV.blk k1 (fun f=>f)).cell 0 rfl,(hV.blk k2 (fun f=>f)).cell 0 rfl,hc,h9.c0,h9.cell 5 _ rfl,h9.sh.sC.1⟩
 obtain ⟨y0,y1,y2,y3,y4,y5,y6⟩:=HC.out w (Keep.refl _ _)
 have hform:=ht.forms
 have HNS:Hid (∀ V,Keep none_ w V→Calls Tryz.prog 286 #[.pointer (some ⟨q.C,0,none⟩),.slice (kU (some ⟨B,off,none⟩) cp 1) n (cp - 1),tv] V fun e w'=>∃ nv,e = .returned nv∧aO o w' q.C (bU l.tail t) nv∧Keep none_ w w'∧Keep none_ V w'):=fun V hV=>by
  subst hn
  refine (zx (h.still hV).sh.fut q.C (ht.still hV) (hrt.still hV)).mono ?_
  rintro e w' ⟨nv,rfl,g1,g2⟩
  exact ⟨nv,rfl,g1,hV.trans g2,g2⟩
 have HCO:Hid (∀ V,Keep none_ w V→Calls Tryz.prog 28 #[.pointer (some ⟨G.D 0,0,none⟩),.int .i64 (aJ l:Int)] V fun e w'=>e = .returned (.tuple #[.int .i64 ((if s.H.bn (aJ l) then s.H.dA (aJ l) else 0:Nat):Int),.int .i64 (if s.H.bn (aJ l) then 0 else 1)])∧V=w'):=fun V hV=>pK (h.still hV).sh.heap _
 have HNE:Hid (∀ V nv,aO o V q.C (bU l.tail t) nv∧Keep none_ w V→Calls Tryz.prog 291 #[.pointer (some ⟨q.C,0,none⟩),nv] V fun e w'=>∃ nv,e = .returned nv∧aO o w' q.C (.empty (bU l.tail t)) nv∧Keep none_ w w'):=fun V nv hV=>by
  refine (zy (h.still hV.2).sh.fut q.C hV.1).mono ?_
  rintro e w' ⟨nv,rfl,g1,g2⟩
  exact ⟨nv,rfl,g1,hV.2.trans g2⟩
 have HCD:Hid (∀ V V' nv,aO o V q.C (bU l.tail t) nv∧Keep none_ w V→Keep none_ V V'→aO o V' q.C (bU l.tail t) nv∧Keep none_ w V'):=fun V V' nv h k=>⟨h.1.still k,h.2.trans k⟩
 have hcut:∀ w:World,(Instr.slice 32 (.slice (some ⟨B,off,none⟩) (n+1) cp) (some (.int .i64 1)) none none).run Tryz.prog w = .ok (.slice (kU (some ⟨B,off,none⟩) cp 1) (n+1 - 1) (cp - 1)) w:=fun w=>wH (P:=Tryz.prog) (T:=32) (e:=3) (by kernel_rfl) (by kernel_rfl) (some ⟨B,off,none⟩) (n+1) cp 1 (by omega) w
 rw [Nat.add_sub_cancel] at hcut
 have hca:∃ ca:Option Addr,ca=kU (some ⟨B,off,none⟩) cp 1:=⟨_,rfl⟩
 obtain ⟨ca,hca⟩:=hca
 rw [← hca] at HNS hcut
 have hn1 : n < 1000 := by have:l.tail.length<l.length:=by cases l with|nil=>exact absurd rfl hl|cons a r=>simp
                           omega
 cases hcond:(!s.H.bn (aJ l)||s.H.dA (aJ l) != c.color) with
 | true =>
   have e1:aj s c (.slots l t)=⟨s,c,bU l.tail t,none⟩:=by simp only [aj,hcond];rfl
   have HE:Hid (∀ V nv,aO o V q.C (bU l.tail t) nv∧Keep none_ w V→dI o w G q nv0 (aj s c (.slots l t)) (.returned nv) V):=fun V nv hV=>by
    rw [e1]
    exact dI.same (r:=⟨s,c,bU l.tail t,none⟩) (h.still hV.2) hV.1 hV.2.aF
   have HFO:Hid (∀ V nv,aO o V q.C (bU l.tail t) nv∧Keep none_ w V→nv = .nilFunc∨∃ fn first caps,nv = .func (.func fn) first caps):=fun V nv hV=>hV.1.forms
   have JU:Hid (Keep none_ w w.drew):=(Keep.refl none_ w).drew
   have hcs:s.H.bn (aJ l)=false∨(s.H.bn (aJ l)=true∧∃ k:Nat,k≠c.color∧s.H.dA (aJ l)=k):=by
    revert hcond
    cases s.H.bn (aJ l)
    ·intro _;exact .inl rfl
    ·intro hc;exact .inr ⟨rfl,_,by simpa using hc,rfl⟩
   clear e1
   generalize aj s c (.slots l t)=R at *
   generalize bU l.tail t=d at *
   rcases hcs with hb|⟨hb,k,hk,hck⟩
   ·rw [hb] at HCO
    simp only [Bool.false_eq_true,if_false] at HCO
    generalize aJ l=x at *
    generalize c.color=col at *
    clear h ht hr hrt k0 k1 k2 o0 o1 o2 hcond hb hlen hl hca hn HNE
    rcases hform with rfl|⟨fn,first,caps,rfl⟩
    all_goals
     go_enter Tryz.func290,Tryz.ntmps290
     go_wp2_with fail
     refine aA 4 rfl (by kernel_rfl) (by kernel_rfl) (fun K hK=>?_)
     change wpStill _ _ (World.drew _) _ _ _
     simp only [List.take_succ_cons,List.take_zero,List.drop_succ_cons,List.drop_zero] at hK ⊢
     repeat still_step
     refine wpStill_nil ?_
     change ite _ (Oper.wp _ _ _ _ _ _) _
     go_simp
     refine (HNS.out _ JU.out).mono ?_
     rintro e w1 ⟨nv1,rfl,hc1,kw,kv⟩
     refine hK _ _ ?_
     clear hK K
     have HX:=Lib.hid (And.intro hc1 kw)
     clear y0 y1 y2 y3 y4 y5 y6
     obtain ⟨y0,y1,y2,y3,y4,y5,y6⟩:=HC.out w1 kw
     have hf1:=HFO.out _ _ (And.intro hc1 kw)
     clear hc1 kw kv HNS
     repeat still_step
     refine wpStill_nil ?_
     rcases hf1 with rfl|⟨fn1,first1,caps1,rfl⟩
     all_goals
      go_wp2_with fail
      go_quiet (first|(go_at_call 28;exact Calls.quiet_of_same (dK (HCO.out _ (HX.out.2.trans ((Keep.refl none_ w1).drewN _))))))
      obtain ⟨V,hV⟩:∃ V,V=w1.drewN nq:=⟨_,rfl⟩
      have HX2:=Lib.hid (HCD.out _ V _ HX.out (by rw [hV];exact (Keep.refl none_ w1).drewN _))
      rw [← hV]
      have HP:=Lib.hid (HE.out _ _ HX2.out)
      have HY:=Lib.hid (HC.out V HX2.out.2)
      clear hV y0 y1 y2 y3 y4 y5 y6 nq HCO HX
      obtain ⟨y0,y1,y2,y3,y4,y5,y6⟩:=HY.out
      go_wp2_with fail
      go_ret
      exact ⟨_,rfl,by first|exact .inl rfl|exact .inr ⟨_,_,_,rfl⟩,HP.out⟩
   ·rw [hb] at HCO
    simp only [if_true] at HCO
    rw [hck] at HCO
    have dk:((k:Int)=(c.color:Int))=False:=eq_false (by omega)
    have dkb:((k:Int)==(c.color:Int))=false:=by simp;omega
    have dkn:decide (k=c.color)=false:=decide_eq_false hk
    generalize aJ l=x at *
    generalize c.color=col at *
    clear h ht hr hrt k0 k1 k2 o0 o1 o2 hcond hb hlen hl hca hn HNE hck
    rcases hform with rfl|⟨fn,first,caps,rfl⟩
    all_goals
     go_enter Tryz.func290,Tryz.ntmps290
     go_wp2_with fail
     refine aA 4 rfl (by kernel_rfl) (by kernel_rfl) (fun K hK=>?_)
     change wpStill _ _ (World.drew _) _ _ _
     simp only [List.take_succ_cons,List.take_zero,List.drop_succ_cons,List.drop_zero] at hK ⊢
     repeat still_step
     refine wpStill_nil ?_
     change ite _ (Oper.wp _ _ _ _ _ _) _
     go_simp
     refine (HNS.out _ JU.out).mono ?_
     rintro e w1 ⟨nv1,rfl,hc1,kw,kv⟩
     refine hK _ _ ?_
     clear hK K
     have HX:=Lib.hid (And.intro hc1 kw)
     clear y0 y1 y2 y3 y4 y5 y6
     obtain ⟨y0,y1,y2,y3,y4,y5,y6⟩:=HC.out w1 kw
     have hf1:=HFO.out _ _ (And.intro hc1 kw)
     clear hc1 kw kv HNS
     repeat still_step
     refine wpStill_nil ?_
     rcases hf1 with rfl|⟨fn1,first1,caps1,rfl⟩
     all_goals
      go_wp2_with fail
      go_quiet (first|(go_at_call 28;exact Calls.quiet_of_same (dK (HCO.out _ (HX.out.2.trans ((Keep.refl none_ w1).drewN _))))))
      obtain ⟨V,hV⟩:∃ V,V=w1.drewN nq:=⟨_,rfl⟩
      have HX2:=Lib.hid (HCD.out _ V _ HX.out (by rw [hV];exact (Keep.refl none_ w1).drewN _))
      rw [← hV]
      have HP:=Lib.hid (HE.out _ _ HX2.out)
      have HY:=Lib.hid (HC.out V HX2.out.2)
      clear hV y0 y1 y2 y3 y4 y5 y6 nq HCO HX
      obtain ⟨y0,y1,y2,y3,y4,y5,y6⟩:=HY.out
      go_wp2_with fail
      go_ret
      exact ⟨_,rfl,by first|exact .inl rfl|exact .inr ⟨_,_,_,rfl⟩,HP.out⟩
 | false =>
   have e1:aj s c (.slots l t)=⟨s,c,.object (aJ l) (.empty (bU l.tail t)),none⟩:=by simp only [aj,hcond];rfl
   have HOB:Hid (∀ V nv,aO o V q.C (.empty (bU l.tail t)) nv∧Keep none_ w V→Calls Tryz.prog 242 #[.pointer (some ⟨q.C,0,none⟩),.int .i64 (aJ l:Int),nv] V fun e w'=>aP o w G q nv0 (aj s c (.slots l t)) e w'∧Keep none_ w w'):=fun V nv hV=>by
    rw [e1]
    exact aP.made2 hV.2 (r:=⟨s,c,.object (aJ l) (.empty (bU l.tail t)),none⟩) (h.still hV.2) hV.2.aF (rP (h.still hV.2).sh.fut q.C (aJ l) hV.1)
   have HFO:Hid (∀ V nv,aO o V q.C (bU l.tail t) nv∧Keep none_ w V→nv = .nilFunc∨∃ fn first caps,nv = .func (.func fn) first caps):=fun V nv hV=>hV.1.forms
   have JU:Hid (Keep none_ w w.drew):=(Keep.refl none_ w).drew
   obtain ⟨hb,hk⟩:s.H.bn (aJ l)=true∧s.H.dA (aJ l)=c.color:=by simpa using hcond
   rw [hb] at HCO
   simp only [if_true] at HCO
   rw [hk] at HCO
   clear e1
   generalize aj s c (.slots l t)=R at *
   generalize bU l.tail t=d at *
   generalize aJ l=x at *
   generalize c.color=col at *
   clear h ht hr hrt k0 k1 k2 o0 o1 o2 hcond hb hlen hl hca hn hk
   rcases hform with rfl|⟨fn,first,caps,rfl⟩
   all_goals
    go_enter Tryz.func290,Tryz.ntmps290
    go_wp2_with fail
    refine aA 4 rfl (by kernel_rfl) (by kernel_rfl) (fun K hK=>?_)
    change wpStill _ _ (World.drew _) _ _ _
    simp only [List.take_succ_cons,List.take_zero,List.drop_succ_cons,List.drop_zero] at hK ⊢
    repeat still_step
    refine wpStill_nil ?_
    change ite _ (Oper.wp _ _ _ _ _ _) _
    go_simp
    refine (HNS.out _ JU.out).mono ?_
    rintro e w1 ⟨nv1,rfl,hc1,kw,kv⟩
    refine hK _ _ ?_
    clear hK K
    have HX:=Lib.hid (And.intro hc1 kw)
    clear y0 y1 y2 y3 y4 y5 y6
    obtain ⟨y0,y1,y2,y3,y4,y5,y6⟩:=HC.out w1 kw
    have hf1:=HFO.out _ _ (And.intro hc1 kw)
    clear hc1 kw kv HNS
    repeat still_step
    refine wpStill_nil ?_
    rcases hf1 with rfl|⟨fn1,first1,caps1,rfl⟩
    all_goals
     go_wp2_with fail
     go_quiet (first|(go_at_call 28;exact Calls.quiet_of_same (dK (HCO.out _ (HX.out.2.trans ((Keep.refl none_ w1).drewN _))))))
     obtain ⟨V,hV⟩:∃ V,V=w1.drewN nq:=⟨_,rfl⟩
     have HX2:=Lib.hid (HCD.out _ V _ HX.out (by rw [hV];exact (Keep.refl none_ w1).drewN _))
     rw [← hV]
     have HY:=Lib.hid (HC.out V HX2.out.2)
     clear hV y0 y1 y2 y3 y4 y5 y6 nq HCO HX
     obtain ⟨y0,y1,y2,y3,y4,y5,y6⟩:=HY.out
     go_wp2_with fail
     go_region_held3 (fun W'=>W'.cell? ⟨b0,0,none⟩=some (.pointer (some ⟨q.C,0,none⟩))∧W'.cell? ⟨b1,0,none⟩=some (.slice (some ⟨B,off,none⟩) (n+1) cp)∧W'.cell? ⟨B,off,none⟩=some (.int .i64 (x:Int)))
      (first
       | exact ⟨y0,y1,y3⟩
       | exact (fun z=>⟨z.1,z.2.1,z.2.2.2.1⟩) (HC.out _ HK3.out)
       | exact (fun z=>⟨z.1,z.2.1,z.2.2.2.1⟩) (HC.out _ HZ.out.2)
       | exact (fun z=>⟨z.1,z.2.1,z.2.2.2.1⟩) (HC.out _ HX2.out.2.drew)
       | fail "iw")
      (first
       | (go_at_call 291
          refine (HNE.out _ _ (by first|exact HCD.out _ _ _ HX2.out ((Keep.refl none_ _).drew)|exact HX2.out)).mono ?_
          rintro e w2 ⟨nv2,rfl,hx⟩
          have HZ:=Lib.hid hx
          clear hx)
       | (go_at_call 242
          refine (HOB.out _ _ HZ.out).mono ?_
          rintro e w3 ⟨⟨nv3,rfl,hf3,hp3⟩,k3⟩
          have HK3:=Lib.hid k3
          have HP:=Lib.hid hp3
          have HFM:=Lib.hid hf3
          clear hp3 hf3 k3)
       | fail "jc")
     all_goals
      have hfm:=HFM.out
      rcases hfm with rfl|⟨fn2,first2,caps2,rfl⟩
      all_goals
       go_wp2_with fail
       go_ret
       exact ⟨_,rfl,by first|exact .inl rfl|exact .inr ⟨_,_,_,rfl⟩,HP.out⟩
end
end
end Go.Proofs.YtanfphjoebobaaaGreatDoor
