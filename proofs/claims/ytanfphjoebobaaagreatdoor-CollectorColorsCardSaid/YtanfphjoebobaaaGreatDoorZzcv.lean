/- Parts of a walk, put together and made shorter by a program of mine. No conditions. -/
import Derived.Test.YtanfphjoebobaaaGreatDoorZzcu
import Derived.Test.YtanfphjoebobaaaGreatDoorZzcr
namespace Go.Proofs.YtanfphjoebobaaaGreatDoor
set_option maxRecDepth 8000
set_option maxHeartbeats 8000000
section
attribute [local go_sem] Oper.semAt_some
open Go.RowKit
section
variable {o o':Ow} {w w':World} {G:Geo} {q:CG} {s:Sh} {c:CS} {ev:Option Ev} {nv nv0:Value}
theorem PW (h:CAt o w G q s c none nv0) (a:Nat) (t:CD) (tv:Value) (ht:aO o w q.C t tv) (b0 b1 b2:Nat) (o0:o b0=0) (o1:o b1=0) (o2:o b2=0) (k0:Blk w b0 [ah q.C] 30) (k1:Blk w b1 [.int .i64 (a:Int)] 3) (k2:Blk w b2 [tv] 88) :
 Calls Tryz.prog 256 #[.pointer (some ⟨b0,0,none⟩),.pointer (some ⟨b1,0,none⟩),.pointer (some ⟨b2,0,none⟩)] w (aP o w G q nv0 (aj s c (.object a t))):=by
 have HC:Hid (∀ V,Keep (In o aK) w V→V.cell? ⟨b0,0,none⟩=some (.pointer (some ⟨q.C,0,none⟩))∧V.cell? ⟨b1,0,none⟩=some (.int .i64 (a:Int))∧V.cell? ⟨b2,0,none⟩=some tv):=fun V hV =>
  ⟨(hV.blk k0 (aU o0 dM)).cell 0 rfl,(hV.blk k1 (aU o1 dM)).cell 0 rfl,(hV.blk k2 (aU o2 dM)).cell 0 rfl⟩
 have hkd:Keep none_ w w.drew:=(Keep.refl none_ w).drew
 have hd:=h.still hkd
 obtain ⟨y0,y1,y2⟩:=HC.out w (Keep.refl _ _)
 have y3:=h.c0
 have y5:=h.sh.sC.1
 have hform:=ht.forms
 have HFT:Hid (Calls Tryz.prog 55 #[.pointer (some ⟨G.D 0,0,none⟩),.int .i64 (a:Int)] w.drew fun e w'=>e = .returned (.tuple #[.int .i64 ((s.H.aT a).1:Int),.int .i64 ((s.H.aT a).2:Int)])∧CAt o w' G q s c none nv0∧Keep (In o aK) w w'):=by
  refine (xu hd.sh.heap a).mono ?_
  rintro e w' ⟨rfl,g1,g2⟩
  obtain ⟨h1,k1⟩:=hd.lU g2 g1
  exact ⟨rfl,h1,hkd.aF.trans k1⟩
 have HFD:Hid (∀ W,CAt o W G q s c none nv0→Keep (In o aK) w W→Calls Tryz.prog 257 #[.pointer (some ⟨q.C,0,none⟩),.int .i64 (a:Int),.int .i64 0,.int .i64 ((s.H.aT a).1:Int),tv] W (aP o w G q nv0 (aj s c (.object a t)))):=fun W hW hk =>
  aP.made (r:=aj s c (.object a t)) hW hk (zu hW.sh.fut q.C a 0 _ (ht.ay hk dM))
 generalize aj s c (.object a t)=R at *
 generalize (s.H.aT a).1=n at *
 generalize (s.H.aT a).2=er at *
 clear h hd hkd ht k0 k1 k2 o0 o1 o2
 rcases hform with rfl|⟨fn,first,caps,rfl⟩
 all_goals
  go_enter Tryz.func256,Tryz.ntmps256
  go_wp2_with fail
  refine aA 8 rfl (by kernel_rfl) (by kernel_rfl) (fun K hK=>?_)
  change wpStill _ _ (World.drew _) _ _ _
  simp only [List.take_succ_cons,List.take_zero,List.drop_succ_cons,List.drop_zero] at hK ⊢
  repeat still_step
  refine wpStill_nil ?_
  change ite _ (Oper.wp _ _ _ _ _ _) _
  go_simp
  refine HFT.out.mono ?_
  rintro e w1 ⟨rfl,h1,k1⟩
  refine hK _ _ ?_
  clear hK K
  have HF1:=Lib.hid (HFD.out w1 h1 k1)
  clear y0 y1 y2 y3 y5
  obtain ⟨y0,y1,y2⟩:=HC.out w1 k1
  clear h1 k1 HFT HFD HC
  repeat still_step
  refine wpStill_nil ?_
  go_wp2_with fail
  refine HF1.out.mono ?_
  rintro e w3 ⟨nv,rfl,hf,hp⟩
  have HP:=Lib.hid hp
  clear hp HF1
  rcases hf with rfl|⟨fn2,first2,caps2,rfl⟩
  all_goals
   go_wp2_with fail
   go_ret
   exact ⟨_,rfl,by first|exact .inl rfl|exact .inr ⟨_,_,_,rfl⟩,HP.out⟩
theorem Rt (h:CAt o w G q s c none nv0) (a i n:Nat) (hi:i<n) (hn:n≤100) (t:CD) (tv:Value) (ht:aO o w q.C t tv) (b0 b1 b2 b3 b4:Nat) (o0:o b0=0) (o1:o b1=0) (o2:o b2=0) (o3:o b3=0) (o4:o b4=0) (k0:Blk w b0 [ah q.C] 30) (k1:Blk w b1 [.int .i64 (a:Int)] 3) (k2:Blk w b2 [.int .i64 (i:Int)] 3) (k3:Blk w b3 [.int .i64 (n:Int)] 3) (k4:Blk w b4 [tv] 88) :
 Calls Tryz.prog 271 #[.pointer (some ⟨b0,0,none⟩),.pointer (some ⟨b1,0,none⟩),.pointer (some ⟨b2,0,none⟩),.pointer (some ⟨b3,0,none⟩),.pointer (some ⟨b4,0,none⟩)] w (aP o w G q nv0 (aj s c (.field a i n t))):=by
 have HC:Hid (∀ V,Keep (In o aK) w V→V.cell? ⟨b0,0,none⟩=some (.pointer (some ⟨q.C,0,none⟩))∧V.cell? ⟨b1,0,none⟩=some (.int .i64 (a:Int))∧V.cell? ⟨b2,0,none⟩=some (.int .i64 (i:Int))∧V.cell? ⟨b3,0,none⟩=some (.int .i64 (n:Int))∧V.cell? ⟨b4,0,none⟩=some tv):=fun V hV =>
  ⟨(hV.blk k0 (aU o0 dM)).cell 0 rfl,(hV.blk k1 (aU o1 dM)).cell 0 rfl,(hV.blk k2 (aU o2 dM)).cell 0 rfl,(hV.blk k3 (aU o3 dM)).cell 0 rfl,(hV.blk k4 (aU o4 dM)).cell 0 rfl⟩
 have hkd:Keep none_ w w.drew:=(Keep.refl none_ w).drew
 have hd:=h.still hkd
 obtain ⟨y0,y1,y2,y3,y4⟩:=HC.out w (Keep.refl _ _)
 have y6:=h.c0
 have y5:=h.sh.sC.1
 have hform:=ht.forms
 have HLT:Hid (Calls Tryz.prog 56 #[.pointer (some ⟨G.D 0,0,none⟩),.int .i64 (a:Int),.int .i64 (i:Int)] w.drew fun e w'=>e = .returned (.tuple #[.int .i64 (s.H.bQ a (i:Int):Int),.int .i64 (s.H.iC a (i:Int):Int)])∧CAt o w' G q s c none nv0∧Keep (In o aK) w w'):=by
  refine (MK hd.sh.heap a (i:Int)).mono ?_
  rintro e w' ⟨rfl,g1,g2⟩
  obtain ⟨h1,k1⟩:=hd.lU g2 g1
  exact ⟨rfl,h1,hkd.aF.trans k1⟩
 have HNF:Hid (∀ W,CAt o W G q s c none nv0∧Keep (In o aK) w W→Calls Tryz.prog 257 #[.pointer (some ⟨q.C,0,none⟩),.int .i64 (a:Int),.int .i64 ((i:Int)+1),.int .i64 (n:Int),tv] W fun e w'=>∃ nv,e = .returned nv∧aO o w' q.C (bD a (i+1) n t) nv∧CAt o w' G q s c none nv0∧Keep (In o aK) w w'):=fun W hW=>by
  have g:=zu hW.1.sh.fut q.C a (i+1) n (ht.ay hW.2 dM)
  rw [show (((i+1:Nat)):Int)=(i:Int)+1 from by push_cast;rfl] at g
  refine g.mono ?_
  rintro e w' ⟨nv,rfl,g1,g2⟩
  exact ⟨nv,rfl,g1,hW.1.still g2,hW.2.trans g2.aF⟩
 have HLK:Hid (∀ V nv,aO o V q.C (bD a (i+1) n t) nv∧CAt o V G q s c none nv0∧Keep (In o aK) w V→Calls Tryz.prog 210 #[.pointer (some ⟨q.C,0,none⟩),.int .i64 (s.H.bQ a (i:Int):Int),nv] V fun e w'=>aP o w G q nv0 (aj s c (.field a i n t)) e w'∧Keep (In o aK) w w'):=fun V nv hV =>
  aP.made2 (r:=aj s c (.field a i n t)) hV.2.2 hV.2.1 hV.2.2 (vG hV.2.1.sh.fut q.C _ hV.1)
 have HDR:Hid (∀ V,CAt o V G q s c none nv0∧Keep (In o aK) w V→CAt o V.drew G q s c none nv0∧Keep (In o aK) w V.drew):=fun V hV=>⟨hV.1.still ((Keep.refl none_ V).drew),hV.2.trans ((Keep.refl _ V).drew)⟩
 have hwi:IntKind.i64.wrap ((i:Int)+1)=(i:Int)+1:=IntWalk.i64_in _ (by omega)
 generalize aj s c (.field a i n t)=R at *
 generalize bD a (i+1) n t=d at *
 generalize s.H.bQ a (i:Int)=v at *
 generalize s.H.iC a (i:Int)=er at *
 clear h hd hkd ht k0 k1 k2 k3 k4 o0 o1 o2 o3 o4
 rcases hform with rfl|⟨fn,first,caps,rfl⟩
 ·skip
  go_enter Tryz.func271,Tryz.ntmps271
  go_wp2_with fail
  refine aA 9 rfl (by kernel_rfl) (by kernel_rfl) (fun K hK=>?_)
  change wpStill _ _ (World.drew _) _ _ _
  simp only [List.take_succ_cons,List.take_zero,List.drop_succ_cons,List.drop_zero] at hK ⊢
  repeat still_step
  refine wpStill_nil ?_
  change ite _ (Oper.wp _ _ _ _ _ _) _
  go_simp
  refine HLT.out.mono ?_
  rintro e w1 ⟨rfl,h1,k1⟩
  refine hK _ _ ?_
  clear hK K
  have HK1:=Lib.hid (And.intro h1 k1)
  clear y0 y1 y2 y3 y4 y5 y6
  obtain ⟨y0,y1,y2,y3,y4⟩:=HC.out w1 k1
  clear h1 k1 HLT
  repeat still_step
  refine wpStill_nil ?_
  go_wp2_with fail
  go_region_held3 (fun W'=>W'.cell? ⟨b0,0,none⟩=some (.pointer (some ⟨q.C,0,none⟩))∧W'.cell? ⟨b1,0,none⟩=some (.int .i64 (a:Int))∧W'.cell? ⟨b2,0,none⟩=some (.int .i64 (i:Int))∧W'.cell? ⟨b3,0,none⟩=some (.int .i64 (n:Int))∧W'.cell? ⟨b4,0,none⟩=some (.nilFunc))
   (first
    | exact ⟨y0,y1,y2,y3,y4⟩
    | exact HC.out _ HK3.out
    | exact HC.out _ HX.out.2.2
    | exact HC.out _ (HDR.out _ HK1.out).2
    | fail "iw")
   (first
    | (go_at_call 257
       refine (HNF.out _ (by first|exact HDR.out _ HK1.out|exact HK1.out)).mono ?_
       rintro e w2 ⟨nv,rfl,hx⟩
       have HX:=Lib.hid hx
       clear hx)
    | (go_at_call 210
       refine (HLK.out _ _ HX.out).mono ?_
       rintro e w3 ⟨⟨nv3,rfl,hf3,hp3⟩,k3⟩
       have HK3:=Lib.hid k3
       have HP:=Lib.hid hp3
       have HFM:=Lib.hid hf3
       clear hp3 hf3 k3)
    | fail "jc")
  all_goals
   have hfm:=HFM.out
   rcases hfm with rfl|⟨fn2,first2,caps2,rfl⟩
   all_goals
    go_wp2_with fail
    go_ret
    exact ⟨_,rfl,by first|exact .inl rfl|exact .inr ⟨_,_,_,rfl⟩,HP.out⟩
 ·skip
  go_enter Tryz.func271,Tryz.ntmps271
  go_wp2_with fail
  refine aA 9 rfl (by kernel_rfl) (by kernel_rfl) (fun K hK=>?_)
  change wpStill _ _ (World.drew _) _ _ _
  simp only [List.take_succ_cons,List.take_zero,List.drop_succ_cons,List.drop_zero] at hK ⊢
  repeat still_step
  refine wpStill_nil ?_
  change ite _ (Oper.wp _ _ _ _ _ _) _
  go_simp
  refine HLT.out.mono ?_
  rintro e w1 ⟨rfl,h1,k1⟩
  refine hK _ _ ?_
  clear hK K
  have HK1:=Lib.hid (And.intro h1 k1)
  clear y0 y1 y2 y3 y4 y5 y6
  obtain ⟨y0,y1,y2,y3,y4⟩:=HC.out w1 k1
  clear h1 k1 HLT
  repeat still_step
  refine wpStill_nil ?_
  go_wp2_with fail
  go_region_held3 (fun W'=>W'.cell? ⟨b0,0,none⟩=some (.pointer (some ⟨q.C,0,none⟩))∧W'.cell? ⟨b1,0,none⟩=some (.int .i64 (a:Int))∧W'.cell? ⟨b2,0,none⟩=some (.int .i64 (i:Int))∧W'.cell? ⟨b3,0,none⟩=some (.int .i64 (n:Int))∧W'.cell? ⟨b4,0,none⟩=some (.func (.func fn) first caps))
   (first
    | exact ⟨y0,y1,y2,y3,y4⟩
    | exact HC.out _ HK3.out
    | exact HC.out _ HX.out.2.2
    | exact HC.out _ (HDR.out _ HK1.out).2
    | fail "iw")
   (first
    | (go_at_call 257
       refine (HNF.out _ (by first|exact HDR.out _ HK1.out|exact HK1.out)).mono ?_
       rintro e w2 ⟨nv,rfl,hx⟩
       have HX:=Lib.hid hx
       clear hx)
    | (go_at_call 210
       refine (HLK.out _ _ HX.out).mono ?_
       rintro e w3 ⟨⟨nv3,rfl,hf3,hp3⟩,k3⟩
       have HK3:=Lib.hid k3
       have HP:=Lib.hid hp3
       have HFM:=Lib.hid hf3
       clear hp3 hf3 k3)
    | fail "jc")
  all_goals
   have hfm:=HFM.out
   rcases hfm with rfl|⟨fn2,first2,caps2,rfl⟩
   all_goals
    go_wp2_with fail
    go_ret
    exact ⟨_,rfl,by first|exact .inl rfl|exact .inr ⟨_,_,_,rfl⟩,HP.out⟩
end
section
variable {w w':World} {R X cap:Nat} {c:aB} {K:List Nat}
theorem BQ (h:kF w R X cap c K) (B:Nat) (hk:K.getD B 0=0):Calls Tryz.prog 102 #[.pointer (some ⟨R,0,none⟩),.int .i64 (B:Int)] w fun e w'=>e = .returned (.tuple #[.int .i64 0,.bool false])∧w=w':=by
 have hb:=h.blk
 obtain ⟨c0,c1,c2,c3,c4,c5,c6⟩:=c
 simp only [aB.cells,List.cons_append,List.nil_append] at hb
 have y7:=hb.cell 7 rfl
 have hs:=h.small
 have hcap:=h.cap
 have h0I:(0:Int)≤(B:Int):=by omega
 rcases Nat.lt_or_ge B K.length with hB|hB
 ·obtain ⟨cur,hcu,hcv⟩:=h.cls
  have z:=hcu.cell B (hcv _ _ (kE hB))
  rw [hk] at z
  have d1:decide ((K.length:Int)≤(B:Int))=false:=decide_eq_false (by omega)
  have hBI:(B:Int)<(K.length:Int):=by omega
  generalize K.length=L at *
  clear h hb hk hs hB
  go_enter Tryz.func102,Tryz.ntmps102
  go_wp2_with fail
  go_ret2
  exact ⟨rfl,rfl⟩
 ·have d1:decide ((K.length:Int)≤(B:Int))=true:=decide_eq_true (by omega)
  have hBI:(K.length:Int)≤(B:Int):=by omega
  generalize K.length=L at *
  clear h hb hk hs hB
  go_enter Tryz.func102,Tryz.ntmps102
  go_wp2_with fail
  go_ret2
  exact ⟨rfl,rfl⟩
theorem Np (h:kF w R X cap c K) (B:Nat) (hk:K.getD B 0=0):Calls Tryz.prog 63 #[.pointer (some ⟨R,0,none⟩),.int .i64 (B:Int)] w fun e w'=>e = .returned (.slice none 0 0)∧w=w':=by
 have HCL:=Lib.hid (BQ h B hk)
 clear h hk
 go_enter Tryz.func63,Tryz.ntmps63
 go_wp2_with (go_at_call 102;refine HCL.out.mono ?_;rintro e w1 ⟨rfl,rfl⟩)
 go_ret
 exact ⟨rfl,rfl⟩
end
theorem Nq {H:HS} {B:Nat} (h:H.K.getD B 0=0):H.slots B=[]:=by unfold HS.slots;rw [if_pos h]
section
variable {o o':Ow} {w w':World} {G:Geo} {q:CG} {s:Sh} {c:CS} {ev:Option Ev} {nv nv0:Value}
theorem au.k4 {D:Nat→Nat} {H:HS} (h:au w D H) {B:Nat} (hB:H.K.getD B 0≠0):B<H.K.length∧H.K.getD B 0≤4:=by
 have hBl:B<H.K.length:=by
  rcases Nat.lt_or_ge B H.K.length with g|g
  ·exact g
  ·rw [List.getD_eq_getElem?_getD,List.getElem?_eq_none g] at hB
   simp at hB
 refine ⟨hBl,?_⟩
 rw [List.getD_eq_getElem?_getD,List.getElem?_eq_getElem hBl]
 exact h.table.le _ (List.getElem_mem hBl)
theorem G7 (h:CAt o w G q s c ev nv) {R X cap:Nat} (ht:kF w R X cap s.H.c s.H.K) (B:Nat):Calls Tryz.prog 63 #[.pointer (some ⟨R,0,none⟩),.int .i64 (B:Int)] w fun e w'=>∃ a cp,e = .returned (.slice a (s.H.slots B).length cp)∧aV o w' 3 (.slice a (s.H.slots B).length cp) (aC (s.H.slots B))∧Keep none_ w w':=by
 by_cases hk:s.H.K.getD B 0=0
 ·rw [Nq hk]
  refine (Np ht B hk).mono ?_
  rintro e w' ⟨rfl,rfl⟩
  exact ⟨none,0,rfl,aV.nil _ _ _,Keep.refl _ _⟩
 ·obtain ⟨hBl,hk4⟩:=h.sh.heap.k4 hk
  have h1:=EK ht s.H.ww B (s.H.K.getD B 0 - 1) h.sh.heap.cw hBl (by omega) (by omega) h.sh.heap.tabs h.sh.heap.sizes
  rw [show s.H.K.getD B 0 - 1+1=s.H.K.getD B 0 by omega] at h1
  have e1:s.H.slots B=iV (s.H.ww/2^(s.H.K.getD B 0)) (2^(s.H.K.getD B 0)) (B*s.H.ww):=by unfold HS.slots;rw [if_neg hk]
  have hn:=jm h.sh.heap.table.ok h.sh.heap.table.len h.sh.heap.cw
  have hle:s.H.ww/2^(s.H.K.getD B 0)≤256:=Nat.le_trans (Nat.div_le_self _ _) hn.2.2.2.1
  refine h1.mono ?_
  rintro e w2 ⟨v,rfl,ho,k2⟩
  have el:(s.H.slots B).length=s.H.ww/2^(s.H.K.getD B 0):=by rw [e1,pI]
  have hr:aV o w2 3 v (aC (s.H.slots B)):=by
   rw [e1]
   exact aV.pJ ho (by omega) (fun b hb=>h.sh.fut b hb)
  obtain ⟨a,cp,rfl,_⟩:=id hr
  have el2:(aC (s.H.slots B)).length=(s.H.slots B).length:=by simp [aC]
  rw [el2] at hr ⊢
  exact ⟨a,cp,rfl,hr,k2⟩
theorem TK (h:CAt o w G q s c none nv0) (b:Nat) (hb:b≤4096) (b0 b1:Nat) (k0:Blk w b0 [ah q.C] 30) (k1:Blk w b1 [.int .i64 (b:Int)] 3) :
 Calls Tryz.prog 285 #[.pointer (some ⟨b0,0,none⟩),.pointer (some ⟨b1,0,none⟩)] w (aP o w G q nv0 (aj s c (.walk b))):=by
 have HC:Hid (∀ V,Keep none_ w V→V.cell? ⟨b0,0,none⟩=some (.pointer (some ⟨q.C,0,none⟩))∧V.cell? ⟨b1,0,none⟩=some (.int .i64 (b:Int))∧V.cell? ⟨q.C,0,none⟩=some (.pointer (some ⟨G.S,0,none⟩))∧V.cell? ⟨G.S,0,none⟩=some (.pointer (some ⟨G.D 0,0,none⟩))):=fun V hV =>
  ⟨(hV.blk k0 (fun f=>f)).cell 0 rfl,(hV.blk k1 (fun f=>f)).cell 0 rfl,(h.still hV).c0,(h.still hV).sh.sC.1⟩
 obtain ⟨y0,y1,y2,y3⟩:=HC.out w (Keep.refl _ _)
 have HTB:Hid (∀ V,Keep none_ w V→Calls Tryz.prog 62 #[.pointer (some ⟨G.D 0,0,none⟩)] V fun e w'=>∃ R X cap,e = .returned (.pointer (some ⟨R,0,none⟩))∧kF w' R X cap s.H.c s.H.K∧Keep none_ w w'∧Keep none_ V w'):=fun V hV=>by
  refine (tK (h.still hV).sh.heap).mono ?_
  rintro e w' ⟨R,X,cap,rfl,g1,g2⟩
  exact ⟨R,X,cap,rfl,g1,hV.trans g2,g2⟩
 have HTK:Hid (∀ V V' R X cap,kF V R X cap s.H.c s.H.K→Keep none_ V V'→kF V' R X cap s.H.c s.H.K):=fun V V' R X cap ht k=>by
  obtain ⟨g1,⟨cur,g2,g3⟩,g4,g5,g6⟩:=ht
  exact ⟨k.blk g1 (fun f=>f),⟨cur,k.blk g2 (fun f=>f),g3⟩,g4,g5,g6⟩
 have HSL:Hid (∀ V R X cap,Keep none_ w V→kF V R X cap s.H.c s.H.K→Calls Tryz.prog 63 #[.pointer (some ⟨R,0,none⟩),.int .i64 (b:Int)] V fun e w'=>∃ a cp,e = .returned (.slice a (s.H.slots b).length cp)∧aV o w' 3 (.slice a (s.H.slots b).length cp) (aC (s.H.slots b))∧Keep none_ w w'∧Keep none_ V w'):=fun V R X cap hV ht=>by
  refine (G7 (h.still hV) ht b).mono ?_
  rintro e w' ⟨a,cp,rfl,g1,g2⟩
  exact ⟨a,cp,rfl,g1,hV.trans g2,g2⟩
 have HWK:Hid (∀ V,Keep none_ w V→Calls Tryz.prog 275 #[.pointer (some ⟨q.C,0,none⟩),.int .i64 ((b:Int)+1)] V fun e w'=>∃ nv,e = .returned nv∧aO o w' q.C (c.dH (b+1)) nv∧Keep none_ w w'∧Keep none_ V w'):=fun V hV=>by
  have g:=BN (c:=c) (h.still hV).sh.fut q.C (b+1) ((h.still hV).cell 2 _ rfl)
  rw [show (((b+1:Nat)):Int)=(b:Int)+1 from by push_cast;rfl] at g
  refine g.mono ?_
  rintro e w' ⟨nv,rfl,g1,g2⟩
  exact ⟨nv,rfl,g1,hV.trans g2,g2⟩
 have HST:Hid (∀ V a cp nv,Keep none_ w V→aV o V 3 (.slice a (s.H.slots b).length cp) (aC (s.H.slots b))→aO o V q.C (c.dH (b+1)) nv→Calls Tryz.prog 286 #[.pointer (some ⟨q.C,0,none⟩),.slice a (s.H.slots b).length cp,nv] V fun e w'=>aP o w G q nv0 (aj s c (.walk b)) e w'∧Keep none_ w w'):=fun V a cp nv hV hr hc =>
  aP.made2 (r:=aj s c (.walk b)) hV (h.still hV) hV.aF (zx (h.still hV).sh.fut q.C hc hr)
 have HRS:Hid (∀ V V' v,aV o V 3 v (aC (s.H.slots b))→Keep none_ V V'→aV o V' 3 v (aC (s.H.slots b))):=fun V V' v h k=>h.still k
 have HCS:Hid (∀ V V' nv,aO o V q.C (c.dH (b+1)) nv→Keep none_ V V'→aO o V' q.C (c.dH (b+1)) nv):=fun V V' v h k=>h.still k
 have hwi:IntKind.i64.wrap ((b:Int)+1)=(b:Int)+1:=IntWalk.i64_in _ (by omega)
 have HK0:Hid (Keep none_ w w.drew):=(Keep.refl none_ w).drew
 generalize aj s c (.walk b)=R at *
 generalize c.dH (b+1)=d at *
 generalize s.H.slots b=sl at *
 generalize s.H.c=cf at *
 generalize s.H.K=K at *
 clear h k0 k1
 go_enter Tryz.func285,Tryz.ntmps285
 go_wp2_with fail
 go_region_held3 (fun W'=>W'.cell? ⟨b0,0,none⟩=some (.pointer (some ⟨q.C,0,none⟩))∧W'.cell? ⟨b1,0,none⟩=some (.int .i64 (b:Int))∧W'.cell? ⟨q.C,0,none⟩=some (.pointer (some ⟨G.S,0,none⟩))∧W'.cell? ⟨G.S,0,none⟩=some (.pointer (some ⟨G.D 0,0,none⟩)))
  (first
   | exact ⟨y0,y1,y2,y3⟩
   | exact HC.out _ HK0.out
   | fail "iw")
  (first
   | (go_at_call 62
      refine (HTB.out _ HK0.out).mono ?_
      rintro e w2 ⟨R1,X1,cap1,rfl,ht1,kw,kv⟩
      have HT1:=Lib.hid ht1
      have HK0:=Lib.hid kw
      try have HNW:=Lib.hid (HCS.out _ _ _ HNW.out kv)
      clear ht1 kw kv)
   | (go_at_call 63
      refine (HSL.out _ _ _ _ HK0.out HT1.out).mono ?_
      rintro e w2 ⟨a1,cp1,rfl,hr1,kw,kv⟩
      have HR1:=Lib.hid hr1
      have HK0:=Lib.hid kw
      try have HNW:=Lib.hid (HCS.out _ _ _ HNW.out kv)
      clear hr1 kw kv)
   | (go_at_call 275
      refine (HWK.out _ HK0.out).mono ?_
      rintro e w2 ⟨nv2,rfl,hc2,kw,kv⟩
      have HNW:=Lib.hid hc2
      have HK0:=Lib.hid kw
      try have HR1:=Lib.hid (HRS.out _ _ _ HR1.out kv)
      try have HT1:=Lib.hid (HTK.out _ _ _ _ _ HT1.out kv)
      clear hc2 kw kv)
   | (go_at_call 286
      refine (HST.out _ _ _ _ HK0.out HR1.out HNW.out).mono ?_
      rintro e w3 ⟨⟨nv3,rfl,hf3,hp3⟩,k3⟩
      have HK0:=Lib.hid k3
      have HP:=Lib.hid hp3
      have HFM:=Lib.hid hf3
      clear hp3 hf3 k3)
   | fail "jc")
 all_goals
  have hfm:=HFM.out
  rcases hfm with rfl|⟨fn2,first2,caps2,rfl⟩
  all_goals
   go_wp2_with fail
   go_ret
   exact ⟨_,rfl,by first|exact .inl rfl|exact .inr ⟨_,_,_,rfl⟩,HP.out⟩
end
section
variable {o o':Ow} {w w':World} {G:Geo} {q:CG} {s:Sh} {c:CS} {ev:Option Ev} {nv nv0:Value}
theorem TL (h:CAt o w G q s c none nv0) (hl:c.stk.length≤c.room) (hr:c.room≤4096):Calls Tryz.prog 208 #[.pointer (some ⟨q.C,0,none⟩)] w (aP o w G q nv0 (aj s c .work)):=by
 have y9:=h.zC
 have hmf:=gV
 cases hx:c.stk.getLast? with
 | none =>
   have e1:aj s c .work=⟨s,c,.box 0,none⟩:=by simp only [aj,hx]
   have HP0:=Lib.hid (EO h hx)
   have HB:Hid (∀ V,CAt o V G q s c none nv0→Keep none_ w V→Calls Tryz.prog 243 #[.pointer (some ⟨q.C,0,none⟩),.int .i64 0] V (aP o w G q nv0 (aj s c .work))):=fun V hV hk=>by
    rw [e1]
    exact aP.made (r:=⟨s,c,.box 0,none⟩) hV hk.aF (yh hV.sh.fut q.C 0)
   generalize aj s c .work=R at *
   clear h hx e1
   go_enter Tryz.func208,Tryz.ntmps208
   go_wp2_with fail
   refine HP0.out.mono ?_
   rintro e w1 ⟨rfl,h1,k1⟩
   have HB1:=Lib.hid (HB.out w1 h1 k1)
   clear h1 k1 HB HP0 y9
   go_wp2_with fail
   refine HB1.out.mono ?_
   rintro e w3 ⟨nv,rfl,hf,hp⟩
   have HP:=Lib.hid hp
   clear hp HB1
   rcases hf with rfl|⟨fn2,first2,caps2,rfl⟩
   all_goals
    go_wp2_with fail
    go_ret
    exact ⟨_,rfl,by first|exact .inl rfl|exact .inr ⟨_,_,_,rfl⟩,HP.out⟩
 | some a =>
   have e1:aj s c .work=⟨s,c.pop,.object a .work,none⟩:=by simp only [aj,hx]
   have HP0:=Lib.hid (BP h hl hr a hx)
   have HB:Hid (∀ V,CAt o V G q s c.pop none nv0→Keep (In o [5]) w V→Calls Tryz.prog 242 #[.pointer (some ⟨q.C,0,none⟩),.int .i64 (a:Int),bnd 208 q.C] V (aP o w G q nv0 (aj s c .work))):=fun V hV hk=>by
    rw [e1]
    exact aP.made (r:=⟨s,c.pop,.object a .work,none⟩) hV (k5I hk) (rP hV.sh.fut q.C a (t := .work) rfl)
   generalize aj s c .work=R at *
   generalize c.pop=c' at *
   clear h hx e1 hl hr
   go_enter Tryz.func208,Tryz.ntmps208
   go_wp2_with fail
   refine HP0.out.mono ?_
   rintro e w1 ⟨rfl,h1,k1⟩
   have HB1:=Lib.hid (HB.out w1 h1 k1)
   clear h1 k1 HB HP0 y9
   go_wp2_with fail
   refine HB1.out.mono ?_
   rintro e w3 ⟨nv,rfl,hf,hp⟩
   have HP:=Lib.hid hp
   clear hp HB1
   rcases hf with rfl|⟨fn2,first2,caps2,rfl⟩
   all_goals
    go_wp2_with fail
    go_ret
    exact ⟨_,rfl,by first|exact .inl rfl|exact .inr ⟨_,_,_,rfl⟩,HP.out⟩
theorem TM (h:CAt o w G q s c none nv0) (hk0:Keep (In o aK) w w') (h':CAt o w' G q s { c with over:=false } none nv0):Calls Tryz.prog 274 #[.pointer (some ⟨q.C,0,none⟩)] w' (aP o w G q nv0 (if c.phase=4 then ⟨s,{ c with over:=false },.drain,none⟩ else if c.fresh then ⟨s,{ c with over:=false,phase:=4 },.drain,none⟩ else ⟨s,{ c with over:=false },.marked,none⟩)):=by
 have y4:w'.cell? ⟨q.C,4,none⟩=some (.int .i64 (c.phase:Int)):=h'.cell 4 _ rfl
 have y8:w'.cell? ⟨q.C,8,none⟩=some (.bool c.fresh):=h'.cell 8 _ rfl
 have f4:=h'.free 4
 have hmf:=gV
 by_cases hp:c.phase=4
 ·rw [if_pos hp]
  have d0:((c.phase:Int)==4)=true:=by rw [hp];rfl
  have HP:Hid (dI o w G q nv0 ⟨s,{ c with over:=false },.drain,none⟩ (.returned (bnd 283 q.C)) w'):=dI.same (r:=⟨s,{ c with over:=false },.drain,none⟩) h' rfl hk0
  generalize (⟨s,{ c with over:=false },.drain,none⟩:iT)=R at *
  generalize c.phase=ph at *
  generalize c.fresh=fr at *
  clear h h' hk0 hp
  go_enter Tryz.func274,Tryz.ntmps274
  go_wp2_with fail
  go_ret
  exact ⟨_,rfl,.inr ⟨_,_,_,rfl⟩,HP.out⟩
 ·rw [if_neg hp]
  have d0:((c.phase:Int)==4)=false:=by simp;omega
  by_cases hfr:c.fresh=true
  ·rw [if_pos hfr]
   obtain ⟨h2,k2⟩:=h'.put 4 (.int .i64 4) { c with over:=false,phase:=4 } none nv0 rfl ⟨rfl,rfl,rfl⟩
   have HP:Hid (dI o w G q nv0 ⟨s,{ c with over:=false,phase:=4 },.drain,none⟩ (.returned (bnd 283 q.C)) (w'.setCell ⟨q.C,4,none⟩ (.int .i64 4))):=dI.same (r:=⟨s,{ c with over:=false,phase:=4 },.drain,none⟩) h2 rfl (hk0.trans (k5I k2))
   rw [hfr] at y8
   generalize (⟨s,{ c with over:=false,phase:=4 },.drain,none⟩:iT)=R at *
   generalize c.phase=ph at *
   clear h h' hk0 hp h2 k2 hfr
   go_enter Tryz.func274,Tryz.ntmps274
   go_wp2_with fail
   go_ret
   exact ⟨_,rfl,.inr ⟨_,_,_,rfl⟩,HP.out⟩
  ·rw [if_neg hfr]
   have hfr2:c.fresh=false:=by simpa using hfr
   have HP:Hid (dI o w G q nv0 ⟨s,{ c with over:=false },.marked,none⟩ (.returned (bnd 284 q.C)) w'):=dI.same (r:=⟨s,{ c with over:=false },.marked,none⟩) h' rfl hk0
   rw [hfr2] at y8
   generalize (⟨s,{ c with over:=false },.marked,none⟩:iT)=R at *
   generalize c.phase=ph at *
   clear h h' hk0 hp hfr hfr2
   go_enter Tryz.func274,Tryz.ntmps274
   go_wp2_with fail
   go_ret
   exact ⟨_,rfl,.inr ⟨_,_,_,rfl⟩,HP.out⟩
theorem TN (h:CAt o w G q s c none nv0) (hw:c.walks≤1000000000):Calls Tryz.prog 260 #[.pointer (some ⟨q.C,0,none⟩)] w (aP o w G q nv0 (aj s c .over)):=by
 have y0:=h.c0
 have s3:=h.sh.sC.2.2.2
 have HLW:Hid (Calls Tryz.prog 272 #[.pointer (some ⟨G.Fl,0,none⟩)] w fun e w'=>e = .returned (.bool s.flag)∧CAt o w' G q { s with flag:=false } c none nv0∧Keep (In o aK) w w'):=by
  refine (GN G.Fl s.flag h.sh.flag).mono ?_
  rintro e w' ⟨rfl,g1,g2⟩
  obtain ⟨h1,k1⟩:=h.wJ g2 g1
  exact ⟨rfl,h1,k1⟩
 have HK:Hid (∀ W,CAt o W G q { s with flag:=false } c none nv0→Keep (In o aK) w W→W.cell? ⟨q.C,9,none⟩=some (.pointer (some ⟨q.K,0,none⟩))∧Calls Tryz.prog 273 #[.pointer (some ⟨q.K,0,none⟩)] W fun e w'=>e = .returned (.bool c.over)∧CAt o w' G q { s with flag:=false } { c with over:=false } none nv0∧Keep (In o aK) w w'):=fun W hW hk=>by
  refine ⟨hW.zC,(Nl hW).mono ?_⟩
  rintro e w' ⟨rfl,h1,k1⟩
  exact ⟨rfl,h1,hk.trans (k5I k1)⟩
 cases hcl:(!s.flag && !c.over) with
 | true =>
   obtain ⟨hfl,hov⟩:s.flag=false∧c.over=false:=by simpa using hcl
   have es:({ s with flag:=false }:Sh)=s:=by rw [← hfl]
   have ec:({ c with over:=false }:CS)=c:=by rw [← hov]
   have e1:aj s c .over=(if c.phase=4 then ⟨s,{ c with over:=false },.drain,none⟩ else if c.fresh then ⟨s,{ c with over:=false,phase:=4 },.drain,none⟩ else ⟨s,{ c with over:=false },.marked,none⟩):=by
    simp only [aj,hcl,if_true]
    have ec2:({ c with over:=false,phase:=4 }:CS)={ c with phase:=4 }:=by rw [← hov]
    rw [ec,ec2]
   rw [es,hfl] at HLW
   rw [es,hov] at HK
   have HR:Hid (∀ W,CAt o W G q s { c with over:=false } none nv0→Keep (In o aK) w W→Calls Tryz.prog 274 #[.pointer (some ⟨q.C,0,none⟩)] W (aP o w G q nv0 (aj s c .over))):=fun W hW hk=>by
    rw [e1]
    exact TM h hk hW
   generalize aj s c .over=R at *
   generalize ({ c with over:=false }:CS)=c' at *
   clear h hcl hfl hov es ec e1
   go_enter Tryz.func260,Tryz.ntmps260
   go_wp2_with fail
   refine HLW.out.mono ?_
   rintro e w1 ⟨rfl,h1,k1⟩
   obtain ⟨y9,hk9⟩:=HK.out w1 h1 k1
   have HK9:=Lib.hid hk9
   clear h1 k1 hk9 HK HLW y0 s3
   go_wp2_with fail
   refine HK9.out.mono ?_
   rintro e w2 ⟨rfl,h2,k2⟩
   have HR2:=Lib.hid (HR.out w2 h2 k2)
   clear h2 k2 HR HK9 y9
   go_wp2_with fail
   refine HR2.out.mono ?_
   rintro e w3 ⟨nv,rfl,hf,hp⟩
   have HP:=Lib.hid hp
   clear hp HR2
   rcases hf with rfl|⟨fn2,first2,caps2,rfl⟩
   all_goals
    go_wp2_with fail
    go_ret
    exact ⟨_,rfl,by first|exact .inl rfl|exact .inr ⟨_,_,_,rfl⟩,HP.out⟩
 | false =>
   have e1:aj s c .over=⟨{ s with flag:=false },{ c with over:=false,fresh:=true,walks:=c.walks+1 },c.dH 0,none⟩:=by simp only [aj,hcl];rfl
   have hcl2:s.flag=true∨(s.flag=false∧c.over=true):=by
    revert hcl
    cases s.flag<;>cases c.over<;>simp
   have HW:Hid (∀ W,CAt o W G q { s with flag:=false } { c with over:=false } none nv0→Keep (In o aK) w W→∃ W1 W2,W1=W.setCell ⟨q.C,8,none⟩ (.bool true)∧W2=W1.setCell ⟨q.C,12,none⟩ (.int .i64 ((c.walks:Int)+1))∧W.cell? ⟨q.C,8,none⟩=some (.bool c.fresh)∧W.frozen? ⟨q.C,8,none⟩=false∧W1.cell? ⟨q.C,12,none⟩=some (.int .i64 (c.walks:Int))∧W1.frozen? ⟨q.C,12,none⟩=false ∧
    Calls Tryz.prog 275 #[.pointer (some ⟨q.C,0,none⟩),.int .i64 0] W2 (aP o w G q nv0 (aj s c .over))):=fun W hW hk=>by
    obtain ⟨h1,k1⟩:=hW.put 8 (.bool true) { c with over:=false,fresh:=true } none nv0 rfl ⟨rfl,rfl,rfl⟩
    obtain ⟨h2,k2⟩:=h1.put 12 (.int .i64 ((c.walks:Int)+1)) { c with over:=false,fresh:=true,walks:=c.walks+1 } none nv0 (by show _=ig G q _ _ _;unfold ig;push_cast;rfl) ⟨rfl,rfl,rfl⟩
    refine ⟨_,_,rfl,rfl,hW.cell 8 _ rfl,hW.free 8,h1.cell 12 _ rfl,h1.free 12,?_⟩
    rw [e1]
    exact aP.made (r:=⟨{ s with flag:=false },{ c with over:=false,fresh:=true,walks:=c.walks+1 },c.dH 0,none⟩) h2 (hk.trans (k5I (k1.trans k2))) (BN (c:=c) h2.sh.fut q.C 0 (h2.cell 2 _ rfl))
   have hw1:IntKind.i64.wrap ((c.walks:Int)+1)=(c.walks:Int)+1:=IntWalk.i64_in _ (by omega)
   generalize aj s c .over=R at *
   generalize ({ c with over:=false }:CS)=c' at *
   generalize ({ s with flag:=false }:Sh)=s' at *
   generalize c.walks=wk at *
   generalize c.fresh=fr at *
   generalize s.flag=fl at *
   generalize c.over=ov at *
   clear h hcl e1 hw
   rcases hcl2 with rfl|⟨rfl,rfl⟩
   all_goals
    go_enter Tryz.func260,Tryz.ntmps260
    go_wp2_with fail
    refine HLW.out.mono ?_
    rintro e w1 ⟨rfl,h1,k1⟩
    obtain ⟨y9,hk9⟩:=HK.out w1 h1 k1
    have HK9:=Lib.hid hk9
    clear h1 k1 hk9 HK HLW y0 s3
    go_wp2_with fail
    refine HK9.out.mono ?_
    rintro e w2 ⟨rfl,h2,k2⟩
    obtain ⟨W1,W2,hW1,hW2,z8,f8,z12,f12,hwk⟩:=HW.out w2 h2 k2
    have HWK:=Lib.hid hwk
    rw [hW1] at z12 f12
    have HW1:=Lib.hid hW1
    have HW2:=Lib.hid hW2
    clear h2 k2 HW HK9 y9 hwk hW1 hW2
    go_wp2_with fail
    rw [← HW1.out,← HW2.out]
    refine HWK.out.mono ?_
    rintro e w3 ⟨nv,rfl,hf,hp⟩
    have HP:=Lib.hid hp
    clear hp HWK
    rcases hf with rfl|⟨fn2,first2,caps2,rfl⟩
    all_goals
     go_wp2_with fail
     go_ret
     exact ⟨_,rfl,by first|exact .inl rfl|exact .inr ⟨_,_,_,rfl⟩,HP.out⟩
end
section
variable {o o':Ow} {w w':World} {G:Geo} {q:CG} {s:Sh} {c:CS} {ev:Option Ev} {nv nv0:Value}
theorem Ru (h:CAt o w G q s c none nv0) (hq:s.Q.small):Calls Tryz.prog 297 #[.pointer (some ⟨q.C,0,none⟩)] w (aP o w G q nv0 (aj s c .rests)):=by
 obtain ⟨W0,hW0⟩:∃ W',W'=w.alloc (.cells #[ah q.C] 30):=⟨_,rfl⟩
 have hk:Keep none_ w W0:=by rw [hW0];exact (Keep.refl _ _).alloc _
 have hb:Blk W0 w.heap.size [ah q.C] 30:=by rw [hW0];exact Blk.new w _ _
 have h0:=h.still hk
 have y0:=h0.c0
 have s2:=h0.sh.sC.2.2.1
 have z0:=hb.cell 0 (v := .pointer (some ⟨q.C,0,none⟩)) rfl
 have HR:=Lib.hid (I9 G.Q s.Q W0 h0.sh.queue hq)
 have hmf:=gV
 have o0:o w.heap.size=0:=h.sh.fut _ (Nat.le_refl _)
 have z1:=z0
 rw [hW0] at y0 s2 z0
 cases hr:s.Q.rests with
 | true =>
   rw [hr] at HR
   have HP:Hid (dI o w G q nv0 (aj s c .rests) (.returned (.func (.func 300) #[] #[.pointer (some ⟨w.heap.size,0,none⟩)])) W0):=by
    have e1:aj s c .rests=⟨s,c,.off,none⟩:=by simp only [aj,hr,if_true]
    rw [e1]
    exact dI.same (r:=⟨s,c,.off,none⟩) h0 ⟨[w.heap.size],rfl,_,_,rfl,o0,hb,rfl⟩ hk.aF
   have HW:=Lib.hid hW0
   generalize aj s c .rests=R at *
   clear h hk hb h0 hW0 hr hq o0
   go_enter Tryz.func297,Tryz.ntmps297
   go_wp2_with fail
   rw [← HW.out]
   refine HR.out.mono ?_
   rintro e w1 ⟨rfl,rfl⟩
   go_wp2_with fail
   go_ret
   exact ⟨_,rfl,.inr ⟨_,_,_,rfl⟩,HP.out⟩
 | false =>
   rw [hr] at HR
   have HP:Hid (dI o w G q nv0 (aj s c .rests) (.returned (bnd 292 q.C)) W0):=by
    have e1:aj s c .rests=⟨s,c,.sweep,none⟩:=by simp only [aj,hr];rfl
    rw [e1]
    exact dI.same (r:=⟨s,c,.sweep,none⟩) h0 rfl hk.aF
   have HW:=Lib.hid hW0
   generalize aj s c .rests=R at *
   clear h hk hb h0 hW0 hr hq o0
   go_enter Tryz.func297,Tryz.ntmps297
   go_wp2_with fail
   rw [← HW.out]
   refine HR.out.mono ?_
   rintro e w1 ⟨rfl,rfl⟩
   go_wp2_with fail
   go_ret
   exact ⟨_,rfl,.inr ⟨_,_,_,rfl⟩,HP.out⟩
theorem Nr (x:Qu):(x.any=none∧∀ k,k<4→x.rw k=[])∨∃ m y ys,m<4∧(∀ k,k<m→x.rw k=[])∧x.rw m=y::ys∧x.any=some (m,y.toNat):=by
 have f:∀ k,(match x.rw k with|[]=>(none:Option (Nat × Nat))|y::_=>some (k,y.toNat))=none↔x.rw k=[]:=fun k=>by cases x.rw k<;>simp
 have e:x.any=(List.range 4).findSome? fun k=>match x.rw k with|[]=>none|y::_=>some (k,y.toNat):=rfl
 have er:List.range 4=[0,1,2,3]:=rfl
 rw [er] at e
 cases h0:x.rw 0 with
 | cons y ys=>exact .inr ⟨0,y,ys,by decide,fun k hk=>absurd hk (Nat.not_lt_zero k),h0,by rw [e];simp [h0]⟩
 | nil =>
   cases h1:x.rw 1 with
   | cons y ys=>exact .inr ⟨1,y,ys,by decide,fun k hk=>(by have e:k=0:=(by omega);rw [e];exact h0),h1,by rw [e];simp [h0,h1]⟩
   | nil =>
     cases h2:x.rw 2 with
     | cons y ys=>exact .inr ⟨2,y,ys,by decide,fun k hk=>(by rcases (by omega:k=0∨k=1) with rfl|rfl<;>assumption),h2,by rw [e];simp [h0,h1,h2]⟩
     | nil =>
       cases h3:x.rw 3 with
       | cons y ys=>exact .inr ⟨3,y,ys,by decide,fun k hk=>(by rcases (by omega:k=0∨k=1∨k=2) with rfl|rfl|rfl<;>assumption),h3,by rw [e];simp [h0,h1,h2,h3]⟩
       | nil=>exact .inl ⟨by rw [e];simp [h0,h1,h2,h3],fun k hk=>by rcases (by omega:k=0∨k=1∨k=2∨k=3) with rfl|rfl|rfl|rfl<;>assumption⟩
theorem zD {D0 col C:Nat} {sl:List Nat} {cv:Value} (hf:Fut o w) (hc:fQ o w D0 40 cv sl col):Calls Tryz.prog 298 #[.pointer (some ⟨C,0,none⟩),cv] w fun e w'=>∃ fn first caps,e = .returned (.func (.func fn) first caps)∧eG o w' D0 C col (.block sl) (.func (.func fn) first caps)∧Keep none_ w w':=by
 have hn:=fG (o:=o) [([ah C],30),([cv],260)] w hf
 have HE:Hid (eG o (aZ w [([ah C],30),([cv],260)]) D0 C col (.block sl) (.func (.func 302) #[] #[ah (w.heap.size+1),ah w.heap.size])∧Keep none_ w (aZ w [([ah C],30),([cv],260)])):=by
  obtain ⟨b0,b1,e,⟨o0,k0⟩,⟨o1,k1⟩⟩:=caps2 hn.1
  simp only [idxs,List.cons.injEq] at e
  obtain ⟨rfl,rfl,_⟩:=e
  exact ⟨⟨cv,hc.still hn.2,[w.heap.size+1,w.heap.size],rfl,_,_,rfl,o1,k1,_,_,rfl,o0,k0,rfl⟩,hn.2⟩
 have hmf:=gV
 have hcf:(cv = .pointer none)∨∃ C,cv=ah C:=by
  rcases hc with ⟨h,_⟩|⟨C,_,_,h,_⟩
  ·exact .inl h
  ·exact .inr ⟨C,h⟩
 clear hn hf hc
 rcases hcf with rfl|⟨C1,rfl⟩
 all_goals
  go_enter Tryz.func298,Tryz.ntmps298
  go_wp2_with fail
  go_ret
  exact ⟨_,_,_,rfl,HE.out.1,HE.out.2⟩
theorem Rw (h:CAt o w G q s c none nv0) (ho:s.Q.opn≤1000000000) (hq:QOk s) (gU:c.color<2):Calls Tryz.prog 292 #[.pointer (some ⟨q.C,0,none⟩)] w (aP o w G q nv0 (aj s c .sweep)):=by
 have y0:=h.c0
 have s2:=h.sh.sC.2.2.1
 have hmf:=gV
 rcases Nr s.Q with ⟨ha,hn⟩|⟨m,x,xs,hm,hn,hx,ha⟩
 ·have e1:aj s c .sweep=⟨s,c,.rests,none⟩:=by simp only [aj,ha]
  have HA:=Lib.hid (LU G.Q s.Q w h.sh.queue hn)
  have HP:Hid (dI o w G q nv0 (aj s c .sweep) (.returned (bnd 297 q.C)) w):=by
   rw [e1]
   exact dI.same (r:=⟨s,c,.rests,none⟩) h rfl (Keep.refl _ _)
  generalize aj s c .sweep=R at *
  clear h e1 ha hn ho hq gU
  go_enter Tryz.func292,Tryz.ntmps292
  go_wp2_with fail
  refine HA.out.mono ?_
  rintro e w1 ⟨rfl,rfl⟩
  go_wp2_with fail
  go_ret
  exact ⟨_,rfl,.inr ⟨_,_,_,rfl⟩,HP.out⟩
 ·obtain ⟨hx0,hxK⟩:=hq m x (by rw [hx];exact List.mem_cons_self)
  obtain ⟨n,rfl⟩:∃ n:Nat,x=(n:Int):=⟨x.toNat,by omega⟩
  rw [Int.toNat_natCast] at hxK ha
  have e1:aj s c .sweep=⟨{ s with Q:=s.Q.take m },c,.block (s.H.slots n),none⟩:=by simp only [aj,ha]
  have HA:Hid (Calls Tryz.prog 296 #[.pointer (some ⟨G.Q,0,none⟩)] w fun e w'=>e = .returned (.tuple #[.int .i64 (n:Int),.int .i64 (m:Int),.int .i64 0])∧CAt o w' G q { s with Q:=s.Q.take m } c none nv0∧Keep (In o aK) w w'):=by
   refine (OJ G.Q s.Q m (n:Int) xs w h.sh.queue hm hn hx ho).mono ?_
   rintro e w' ⟨rfl,g1,g2⟩
   obtain ⟨h1,k1⟩:=h.qE g2 g1
   exact ⟨rfl,h1,k1⟩
  have HN:Hid (∀ W,CAt o W G q { s with Q:=s.Q.take m } c none nv0→Keep (In o aK) w W→(W.cell? ⟨q.C,0,none⟩=some (.pointer (some ⟨G.S,0,none⟩))∧W.cell? ⟨q.C,5,none⟩=some (.int .i64 (c.color:Int))∧W.cell? ⟨G.S,0,none⟩=some (.pointer (some ⟨G.D 0,0,none⟩))) ∧
   Calls Tryz.prog 266 #[.pointer (some ⟨G.D 0,0,none⟩),.int .i64 (n:Int),.int .i64 (c.color:Int)] W.drew fun e w'=>∃ C,e = .returned (.tuple #[.pointer (some ⟨C,0,none⟩),.int .i64 0]) ∧
    Hid (Calls Tryz.prog 298 #[.pointer (some ⟨q.C,0,none⟩),.pointer (some ⟨C,0,none⟩)] w' (aP o w G q nv0 (aj s c .sweep)))):=fun W hW hk=>by
   have kd:Keep none_ W W.drew:=(Keep.refl none_ W).drew
   refine ⟨⟨hW.c0,hW.cell 5 _ rfl,hW.sh.sC.1⟩,(Pq (H:=s.H) (hW.still kd).sh.heap n c.color hxK gU).mono ?_⟩
   rintro e w2 ⟨V,gg,nn,cp,rfl,kV,hown,hnn,kV2,hb⟩
   have kWV:Keep none_ W V:=kd.trans kV
   have kW2:Keep none_ W w2:=kWV.trans kV2
   refine ⟨V.heap.size,rfl,?_⟩
   have hlt:V.heap.size<w2.heap.size:=hb.lt
   have hV0:=kWV.size
   have eo:aH w o (o.put V.heap.size 40):=Ow.iM (.inl (by have:=hk.size;omega))
   have eoW:aH W o (o.put V.heap.size 40):=Ow.iM (.inl (by omega))
   have eoV:aH V o (o.put V.heap.size 40):=Ow.iM (.inl (Nat.le_refl _))
   have hf2:Fut (o.put V.heap.size 40) w2:=Ow.kD hW.sh.fut kW2.size hlt
   have hM2:=hW.qV kW2 eoW hf2
   have hrow:aV (o.put V.heap.size 40) w2 3 (.slice (some ⟨gg,0,none⟩) nn cp) (aC (s.H.slots n)):=((aV.pJ hown (by omega) (fun b hb=>hW.sh.fut b (by have:=kd.size;omega))).ext eoV).still kV2
   have hcur:fQ (o.put V.heap.size 40) w2 (G.D 0) 40 (ah V.heap.size) (s.H.slots n) c.color := .inr ⟨V.heap.size,n,_,rfl,Ow.jB _ _ _,hb,hrow⟩
   refine (zD (C:=q.C) hf2 hcur).mono ?_
   rintro e w3 ⟨fn,first,caps,rfl,hcn,k3⟩
   refine ⟨_,rfl,.inr ⟨_,_,_,rfl⟩,o.put V.heap.size 40,_,rfl,eo,?_,?_,(hk.trans kW2.aF).trans k3.aF⟩
   ·rw [e1];exact hM2.still k3
   ·rw [e1];exact hcn
  clear e1
  generalize aj s c .sweep=R at *
  generalize c.color=col at *
  generalize ({ s with Q:=s.Q.take m }:Sh)=s' at *
  clear h ha hn hx hxK hx0 ho hq hm gU
  go_enter Tryz.func292,Tryz.ntmps292
  go_wp2_with fail
  refine HA.out.mono ?_
  rintro e w1 ⟨rfl,h1,k1⟩
  obtain ⟨⟨z0,z1,z2⟩,hnn⟩:=HN.out w1 h1 k1
  have HNN:=Lib.hid hnn
  clear h1 k1 HN HA hnn y0 s2
  go_wp2_with fail
  refine aA 12 rfl (by kernel_rfl) (by kernel_rfl) (fun K hK=>?_)
  change wpStill _ _ (World.drew _) _ _ _
  simp only [List.take_succ_cons,List.take_zero,List.drop_succ_cons,List.drop_zero] at hK ⊢
  repeat still_step
  refine wpStill_nil ?_
  change ite _ (Oper.wp _ _ _ _ _ _) _
  go_simp
  refine HNN.out.mono ?_
  rintro e w2 ⟨C1,rfl,hb⟩
  refine hK _ _ ?_
  clear hK K
  have HB:=Lib.hid hb.out
  clear hb HNN z0 z1 z2
  repeat still_step
  refine wpStill_nil ?_
  go_wp2_with fail
  refine HB.out.mono ?_
  rintro e w3 ⟨nv,rfl,hf,hp⟩
  have HP:=Lib.hid hp
  clear hp HB
  rcases hf with rfl|⟨fn2,first2,caps2,rfl⟩
  all_goals
   go_wp2_with fail
   go_ret
   exact ⟨_,rfl,by first|exact .inl rfl|exact .inr ⟨_,_,_,rfl⟩,HP.out⟩
end
end
end Go.Proofs.YtanfphjoebobaaaGreatDoor
