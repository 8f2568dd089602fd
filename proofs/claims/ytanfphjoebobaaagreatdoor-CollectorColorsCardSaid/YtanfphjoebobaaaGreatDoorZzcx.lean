/- Parts of a walk, put together and made shorter by a program of mine. No conditions. -/
import Derived.Test.YtanfphjoebobaaaGreatDoorZzcw
import Derived.BigRegion
import Derived.Test.YtanfphjoebobaaaGreatDoorZzcs
import Derived.Deep.RegionHeld3
namespace Go.Proofs.YtanfphjoebobaaaGreatDoor
set_option maxRecDepth 8000
set_option maxHeartbeats 8000000
section
attribute [local go_sem] Oper.semAt_some
open Go.RowKit
section
variable {o o':Ow} {w w':World} {G:Geo} {q:CG} {s:Sh} {c:CS} {ev:Option Ev} {nv nv0:Value}
theorem Ns (h:CAt o w G q s c none nv0) (b:Nat) (hb:b≤4096) (hql:∀ k,(s.Q.rw k).length≤1000000000) (b0 b1:Nat) (o0:o b0=0) (o1:o b1=0) (k0:Blk w b0 [ah q.C] 30) (k1:Blk w b1 [.int .i64 (b:Int)] 3) :
 Calls Tryz.prog 293 #[.pointer (some ⟨b0,0,none⟩),.pointer (some ⟨b1,0,none⟩)] w (aP o w G q nv0 (aj s c (.enqueue b))):=by
 have HC:Hid (∀ V,Keep (In o aK) w V→V.cell? ⟨b0,0,none⟩=some (.pointer (some ⟨q.C,0,none⟩))∧V.cell? ⟨b1,0,none⟩=some (.int .i64 (b:Int))):=fun V hV =>
  ⟨(hV.blk k0 (aU o0 dM)).cell 0 rfl,(hV.blk k1 (aU o1 dM)).cell 0 rfl⟩
 have HS:Hid (∀ V,Keep none_ w V→V.cell? ⟨q.C,0,none⟩=some (.pointer (some ⟨G.S,0,none⟩))∧V.cell? ⟨G.S,0,none⟩=some (.pointer (some ⟨G.D 0,0,none⟩))∧V.cell? ⟨G.S,2,none⟩=some (.pointer (some ⟨G.Q,0,none⟩))):=fun V hV=>⟨(h.still hV).c0,(h.still hV).sh.sC.1,(h.still hV).sh.sC.2.2.1⟩
 have hwi:IntKind.i64.wrap ((b:Int)+1)=(b:Int)+1:=IntWalk.i64_in _ (by omega)
 have HTB:Hid (∀ V,Keep none_ w V→Calls Tryz.prog 62 #[.pointer (some ⟨G.D 0,0,none⟩)] V fun e w'=>∃ R X cap,e = .returned (.pointer (some ⟨R,0,none⟩))∧kF w' R X cap s.H.c s.H.K∧Keep none_ w w'∧Keep none_ V w'):=fun V hV=>by
  refine (tK (h.still hV).sh.heap).mono ?_
  rintro e w' ⟨R,X,cap,rfl,g1,g2⟩
  exact ⟨R,X,cap,rfl,g1,hV.trans g2,g2⟩
 have HTK:Hid (∀ V V' R X cap,kF V R X cap s.H.c s.H.K→Keep none_ V V'→kF V' R X cap s.H.c s.H.K):=fun V V' R X cap ht k=>by
  obtain ⟨g1,⟨cur,g2,g3⟩,g4,g5,g6⟩:=ht
  exact ⟨k.blk g1 (fun f=>f),⟨cur,k.blk g2 (fun f=>f),g3⟩,g4,g5,g6⟩
 have HK0:Hid (Keep none_ w w.drew):=(Keep.refl none_ w).drew
 have HCK:Hid (∀ V,Keep none_ w V→Keep (In o aK) w V):=fun V hV=>hV.aF
 obtain ⟨y0,y1⟩:=HC.out w (Keep.refl _ _)
 obtain ⟨y2,y3,y4⟩:=HS.out w (Keep.refl _ _)
 by_cases hk:s.H.K.getD b 0=0
 ·have e1:aj s c (.enqueue b)=⟨s,c,c.gy (b+1),none⟩:=by simp only [aj];rw [if_pos hk]
  have HCL:Hid (∀ V R X cap,Keep none_ w V→kF V R X cap s.H.c s.H.K→Calls Tryz.prog 102 #[.pointer (some ⟨R,0,none⟩),.int .i64 (b:Int)] V fun e w'=>e = .returned (.tuple #[.int .i64 0,.bool false])∧Keep none_ w w'):=fun V R X cap hV ht=>by
   refine (BQ ht b hk).mono ?_
   rintro e w' ⟨rfl,rfl⟩
   exact ⟨rfl,hV⟩
  have HNX:Hid (∀ V,Keep none_ w V→Calls Tryz.prog 289 #[.pointer (some ⟨q.C,0,none⟩),.int .i64 ((b:Int)+1)] V (aP o w G q nv0 (aj s c (.enqueue b)))):=fun V hV=>by
   rw [e1]
   have g:=qI (c:=c) (h.still hV).sh.fut q.C (b+1) ((h.still hV).cell 2 _ rfl)
   rw [show (((b+1:Nat)):Int)=(b:Int)+1 from by push_cast;rfl] at g
   exact aP.made (r:=⟨s,c,c.gy (b+1),none⟩) (h.still hV) hV.aF g
  clear e1
  generalize aj s c (.enqueue b)=R at *
  generalize s.H.c=cf at *
  generalize s.H.K=K at *
  clear h k0 k1 o0 o1 hql hk
  go_enter Tryz.func293,Tryz.ntmps293
  go_wp2_with fail
  go_region_held3 (fun W'=>W'.cell? ⟨b0,0,none⟩=some (.pointer (some ⟨q.C,0,none⟩))∧W'.cell? ⟨b1,0,none⟩=some (.int .i64 (b:Int))∧W'.cell? ⟨q.C,0,none⟩=some (.pointer (some ⟨G.S,0,none⟩))∧W'.cell? ⟨G.S,0,none⟩=some (.pointer (some ⟨G.D 0,0,none⟩)))
   (first
    | exact ⟨y0,y1,y2,y3⟩
    | exact ⟨(HC.out _ (HCK.out _ HK1.out)).1,(HC.out _ (HCK.out _ HK1.out)).2,(HS.out _ HK1.out).1,(HS.out _ HK1.out).2.1⟩
    | exact ⟨(HC.out _ (HCK.out _ HK0.out)).1,(HC.out _ (HCK.out _ HK0.out)).2,(HS.out _ HK0.out).1,(HS.out _ HK0.out).2.1⟩
    | fail "iw")
   (first
    | (go_at_call 62
       refine (HTB.out _ HK0.out).mono ?_
       rintro e w2 ⟨R1,X1,cap1,rfl,ht1,kw,kv⟩
       have HT1:=Lib.hid ht1
       have HK0:=Lib.hid kw
       clear ht1 kw kv)
    | (go_at_call 102
       refine (HCL.out _ _ _ _ HK0.out HT1.out).mono ?_
       rintro e w3 ⟨rfl,kw⟩
       have HK1:=Lib.hid kw
       clear kw)
    | fail "jc")
  all_goals
   clear y0 y1 y2 y3 y4
   obtain ⟨y0,y1⟩:=HC.out _ (HCK.out _ HK1.out)
   have HN1:=Lib.hid (HNX.out _ HK1.out)
   clear HNX
   go_wp2_with fail
   refine HN1.out.mono ?_
   rintro e w4 ⟨nv,rfl,hf,hp⟩
   have HP:=Lib.hid hp
   clear hp HN1
   rcases hf with rfl|⟨fn2,first2,caps2,rfl⟩
   all_goals
    go_wp2_with fail
    go_ret
    exact ⟨_,rfl,by first|exact .inl rfl|exact .inr ⟨_,_,_,rfl⟩,HP.out⟩
 ·obtain ⟨hBl,hk4⟩:=h.sh.heap.k4 hk
  obtain ⟨k,hkk⟩:∃ k,s.H.K.getD b 0=k+1:=⟨s.H.K.getD b 0 - 1,by omega⟩
  have hk3:k<4:=by omega
  have e1:aj s c (.enqueue b)=⟨{ s with Q:=s.Q.put (k:Int) b },c,c.gy (b+1),none⟩:=by
   simp only [aj]
   rw [if_neg hk,hkk,show (((k+1:Nat)):Int) - 1=(k:Int) by omega]
  have HCL:Hid (∀ V R X cap,Keep none_ w V→kF V R X cap s.H.c s.H.K→Calls Tryz.prog 102 #[.pointer (some ⟨R,0,none⟩),.int .i64 (b:Int)] V fun e w'=>e = .returned (.tuple #[.int .i64 (k:Int),.bool true])∧Keep none_ w w'):=fun V R X cap hV ht=>by
   refine (EJ ht b k hBl hkk hk3).mono ?_
   rintro e w' ⟨rfl,rfl⟩
   exact ⟨rfl,hV⟩
  have HPU:Hid (∀ V,Keep none_ w V→Calls Tryz.prog 294 #[.pointer (some ⟨G.Q,0,none⟩),.int .i64 (k:Int),.int .i64 (b:Int)] V.drew fun e w'=>e = .returned (.int .i64 0)∧CAt o w' G q { s with Q:=s.Q.put (k:Int) b } c none nv0∧Keep (In o aK) w w'):=fun V hV=>by
   have kd:Keep none_ w V.drew:=hV.trans (Keep.refl none_ V).drew
   refine (OI G.Q s.Q (k:Int) (b:Int) V.drew (h.still kd).sh.queue (by simp [DI,cls];omega) (by rw [s.Q.row_of];exact hql k) (h.still kd).sh.fut).mono ?_
   rintro e w' ⟨rfl,g1,g2⟩
   obtain ⟨h1,k1⟩:=(h.still kd).qE g2 g1
   exact ⟨rfl,h1,kd.aF.trans k1⟩
  have HNX:Hid (∀ V,CAt o V G q { s with Q:=s.Q.put (k:Int) b } c none nv0→Keep (In o aK) w V→Calls Tryz.prog 289 #[.pointer (some ⟨q.C,0,none⟩),.int .i64 ((b:Int)+1)] V (aP o w G q nv0 (aj s c (.enqueue b)))):=fun V hV hk=>by
   rw [e1]
   have g:=qI (c:=c) hV.sh.fut q.C (b+1) (hV.cell 2 _ rfl)
   rw [show (((b+1:Nat)):Int)=(b:Int)+1 from by push_cast;rfl] at g
   exact aP.made (r:=⟨{ s with Q:=s.Q.put (k:Int) b },c,c.gy (b+1),none⟩) hV hk g
  clear e1
  generalize aj s c (.enqueue b)=R at *
  generalize ({ s with Q:=s.Q.put (k:Int) b }:Sh)=s' at *
  generalize s.H.c=cf at *
  generalize s.H.K=K at *
  clear h k0 k1 o0 o1 hql hk hkk hBl hk4
  go_enter Tryz.func293,Tryz.ntmps293
  go_wp2_with fail
  go_region_held3 (fun W'=>W'.cell? ⟨b0,0,none⟩=some (.pointer (some ⟨q.C,0,none⟩))∧W'.cell? ⟨b1,0,none⟩=some (.int .i64 (b:Int))∧W'.cell? ⟨q.C,0,none⟩=some (.pointer (some ⟨G.S,0,none⟩))∧W'.cell? ⟨G.S,0,none⟩=some (.pointer (some ⟨G.D 0,0,none⟩)))
   (first
    | exact ⟨y0,y1,y2,y3⟩
    | exact ⟨(HC.out _ (HCK.out _ HK1.out)).1,(HC.out _ (HCK.out _ HK1.out)).2,(HS.out _ HK1.out).1,(HS.out _ HK1.out).2.1⟩
    | exact ⟨(HC.out _ (HCK.out _ HK0.out)).1,(HC.out _ (HCK.out _ HK0.out)).2,(HS.out _ HK0.out).1,(HS.out _ HK0.out).2.1⟩
    | fail "iw")
   (first
    | (go_at_call 62
       refine (HTB.out _ HK0.out).mono ?_
       rintro e w2 ⟨R1,X1,cap1,rfl,ht1,kw,kv⟩
       have HT1:=Lib.hid ht1
       have HK0:=Lib.hid kw
       clear ht1 kw kv)
    | (go_at_call 102
       refine (HCL.out _ _ _ _ HK0.out HT1.out).mono ?_
       rintro e w3 ⟨rfl,kw⟩
       have HK1:=Lib.hid kw
       clear kw)
    | fail "jc")
  all_goals
   clear y0 y1 y2 y3 y4
   obtain ⟨y0,y1⟩:=HC.out _ (HCK.out _ HK1.out)
   obtain ⟨y2,y3,y4⟩:=HS.out _ HK1.out
   have TP:=Lib.hid (HPU.out _ HK1.out)
   clear HPU
   go_wp2_with fail
   refine aA 9 rfl (by kernel_rfl) (by kernel_rfl) (fun K hK=>?_)
   change wpStill _ _ (World.drew _) _ _ _
   simp only [List.take_succ_cons,List.take_zero,List.drop_succ_cons,List.drop_zero] at hK ⊢
   repeat still_step
   refine wpStill_nil ?_
   change ite _ (Oper.wp _ _ _ _ _ _) _
   go_simp
   refine TP.out.mono ?_
   rintro e w4 ⟨rfl,h1,k1⟩
   refine hK _ _ ?_
   clear hK K
   have HN1:=Lib.hid (HNX.out _ h1 k1)
   clear y0 y1 y2 y3 y4
   obtain ⟨y0,y1⟩:=HC.out _ k1
   clear HNX TP h1 k1
   repeat still_step
   refine wpStill_nil ?_
   go_wp2_with fail
   refine HN1.out.mono ?_
   rintro e w5 ⟨nv,rfl,hf,hp⟩
   have HP:=Lib.hid hp
   clear hp HN1
   rcases hf with rfl|⟨fn2,first2,caps2,rfl⟩
   all_goals
    go_wp2_with fail
    go_ret
    exact ⟨_,rfl,by first|exact .inl rfl|exact .inr ⟨_,_,_,rfl⟩,HP.out⟩
theorem RF (h:CAt o w G q s c none nv0) (sl:List Nat) (hq:s.Q.opn≤1000000000) (cv:Value) (hc:fQ o w (G.D 0) 40 cv sl c.color) (b0 b1:Nat) (o0:o b0=0) (o1:o b1=0) (k0:Blk w b0 [cv] 260) (k1:Blk w b1 [ah q.C] 30) :
 Calls Tryz.prog 302 #[.pointer (some ⟨b0,0,none⟩),.pointer (some ⟨b1,0,none⟩)] w (aP o w G q nv0 (aj s c (.block sl))):=by
 have HC:Hid (∀ V,Keep (In o aK) w V→V.cell? ⟨b0,0,none⟩=some cv∧V.cell? ⟨b1,0,none⟩=some (.pointer (some ⟨q.C,0,none⟩))):=fun V hV =>
  ⟨(hV.blk k0 (aU o0 dM)).cell 0 rfl,(hV.blk k1 (aU o1 dM)).cell 0 rfl⟩
 obtain ⟨y0,y1⟩:=HC.out w (Keep.refl _ _)
 have y2:=h.c0
 have y3:=h.sh.sC.2.2.1
 have hcf:(cv = .pointer none)∨∃ C,cv=ah C:=by
  rcases hc with ⟨h,_⟩|⟨C,_,_,h,_⟩
  ·exact .inl h
  ·exact .inr ⟨C,h⟩
 have hmf:=gV
 have HDN:=Lib.hid (xB hc)
 cases sl with
 | nil =>
   have e1:aj s c (.block [])=⟨{ s with Q:=s.Q.lQ },c,.sweep,none⟩:=rfl
   have HD:Hid (Calls Tryz.prog 279 #[.pointer (some ⟨G.Q,0,none⟩)] w fun e w'=>(∃ er:Int,e = .returned (.int .i64 er))∧w'.cell? ⟨b1,0,none⟩=some (.pointer (some ⟨q.C,0,none⟩))∧dI o w G q nv0 (aj s c (.block [])) (.returned (bnd 292 q.C)) w'):=by
    rw [e1]
    refine (LM G.Q s.Q w h.sh.queue hq).mono ?_
    rintro e w' ⟨rfl,g1,g2⟩
    obtain ⟨h1,kk⟩:=h.qE g2 g1
    exact ⟨⟨_,rfl⟩,(HC.out _ kk).2,dI.same (r:=⟨{ s with Q:=s.Q.lQ },c,.sweep,none⟩) h1 rfl kk⟩
   clear e1
   generalize aj s c (.block [])=R at *
   have JV:Hid (Calls Tryz.prog 278 #[cv] w fun e w'=>e = .returned (.bool true)∧w=w'):=HDN.out
   clear h hc hq k0 k1 o0 o1 HDN
   rcases hcf with rfl|⟨C1,rfl⟩
   all_goals
    go_enter Tryz.func302,Tryz.ntmps302
    go_wp2_with fail
    refine JV.out.mono ?_
    rintro e w1 ⟨rfl,rfl⟩
    go_wp2_with fail
    refine HD.out.mono ?_
    rintro e w2 ⟨⟨er,rfl⟩,z1,hp⟩
    have HP:=Lib.hid hp
    clear hp HD y0 y1 y2 y3
    go_wp2_with fail
    go_ret
    exact ⟨_,rfl,.inr ⟨_,_,_,rfl⟩,HP.out⟩
 | cons a r =>
   have JV:Hid (Calls Tryz.prog 278 #[cv] w fun e w'=>e = .returned (.bool false)∧w=w'):=HDN.out
   have HST:Hid (Calls Tryz.prog 280 #[cv] w fun e w'=>e = .returned (.tuple #[.int .i64 ((if s.frees c.color a then a else 0:Nat):Int),.bool (s.frees c.color a)])∧CAt o w' G q { s with H:=if s.frees c.color a then s.H.dX a else s.H } c none nv0∧fQ o w' (G.D 0) 40 cv r c.color∧Keep (In o aK) w w'):=by
    refine (GY h.sh hc (.inl (by decide)) h.box8).mono ?_
    rintro e w' ⟨rfl,g1,g2,g3⟩
    exact ⟨rfl,h.share g3 rfl g1 rfl,g2,g3.iI (by decide)⟩
   have HBL:Hid (∀ W s' ev,CAt o W G q s' c ev nv0→fQ o W (G.D 0) 40 cv r c.color→Keep (In o aK) w W→aj s c (.block (a::r))=⟨s',c,.block r,ev⟩→Calls Tryz.prog 298 #[.pointer (some ⟨q.C,0,none⟩),cv] W (aP o w G q nv0 (aj s c (.block (a::r))))):=fun W s' ev hW hcW hk e1=>by
    refine (zD (C:=q.C) hW.sh.fut hcW).mono ?_
    rintro e w' ⟨fn,first,caps,rfl,g1,g2⟩
    rw [e1]
    exact ⟨_,rfl,.inr ⟨_,_,_,rfl⟩,o,_,rfl,aH.refl _ _,hW.still g2,g1,hk.trans g2.aF⟩
   by_cases hfr:s.frees c.color a=true
   ·have e1:aj s c (.block (a::r))=⟨{ s with H:=s.H.dX a },c,.block r,some (c.ev 5 a)⟩:=by
     simp only [aj]
     unfold Sh.frees at hfr
     rw [if_neg (by cases hb:s.H.bn a<;>simp_all)]
    rw [hfr,if_pos rfl,if_pos rfl] at HST
    have HTL:Hid (∀ W,CAt o W G q { s with H:=s.H.dX a } c none nv0→fQ o W (G.D 0) 40 cv r c.color→Keep (In o aK) w W→Calls Tryz.prog 79 #[.pointer (some ⟨q.C,0,none⟩),.int .i64 5,.int .i64 (a:Int)] W fun e w'=>e = .returned (.tuple #[])∧Keep (In o aK) w w'∧Calls Tryz.prog 298 #[.pointer (some ⟨q.C,0,none⟩),cv] w' (aP o w G q nv0 (aj s c (.block (a::r))))):=fun W hW hcW hk=>by
     refine (qW hW 5 a).mono ?_
     rintro e w' ⟨rfl,g1,g2⟩
     exact ⟨rfl,hk.trans (k5I g2),HBL.out w' _ _ g1 (hcW.ay g2 rfl rfl) (hk.trans (k5I g2)) e1⟩
    clear e1
    generalize aj s c (.block (a::r))=R at *
    generalize ({ s with H:=s.H.dX a }:Sh)=s' at *
    clear h hc hq k0 k1 o0 o1 HDN HBL hfr
    rcases hcf with rfl|⟨C1,rfl⟩
    all_goals
     go_enter Tryz.func302,Tryz.ntmps302
     go_wp2_with fail
     refine JV.out.mono ?_
     rintro e w1 ⟨rfl,rfl⟩
     go_wp2_with fail
     refine HST.out.mono ?_
     rintro e w2 ⟨rfl,g1,g2,g3⟩
     have TQ:=Lib.hid (HTL.out w2 g1 g2 g3)
     clear y0 y1 y2 y3
     obtain ⟨y0,y1⟩:=HC.out w2 g3
     clear g1 g2 g3 HTL HST
     go_wp2_with fail
     refine TQ.out.mono ?_
     rintro e w3 ⟨rfl,kk,hbl⟩
     have EP:=Lib.hid hbl
     clear y0 y1
     obtain ⟨y0,y1⟩:=HC.out w3 kk
     clear kk hbl TQ
     go_wp2_with fail
     refine EP.out.mono ?_
     rintro e w4 ⟨nv,rfl,hf,hp⟩
     have HP:=Lib.hid hp
     clear hp EP
     rcases hf with rfl|⟨fn2,first2,caps2,rfl⟩
     all_goals
      go_wp2_with fail
      go_ret
      exact ⟨_,rfl,by first|exact .inl rfl|exact .inr ⟨_,_,_,rfl⟩,HP.out⟩
   ·have hff:s.frees c.color a=false:=by simpa using hfr
    have e1:aj s c (.block (a::r))=⟨s,c,.block r,none⟩:=by
     simp only [aj]
     unfold Sh.frees at hff
     rw [if_pos (by cases hb:s.H.bn a<;>simp_all)]
    rw [hff,if_neg (by decide),if_neg (by decide)] at HST
    have HTL:Hid (∀ W,CAt o W G q s c none nv0→fQ o W (G.D 0) 40 cv r c.color→Keep (In o aK) w W→Calls Tryz.prog 298 #[.pointer (some ⟨q.C,0,none⟩),cv] W (aP o w G q nv0 (aj s c (.block (a::r))))):=fun W hW hcW hk=>HBL.out W _ _ hW hcW hk e1
    have vH:Hid (Calls Tryz.prog 280 #[cv] w fun e w'=>e = .returned (.tuple #[.int .i64 0,.bool false])∧CAt o w' G q s c none nv0∧fQ o w' (G.D 0) 40 cv r c.color∧Keep (In o aK) w w'):=HST.out
    clear e1
    generalize aj s c (.block (a::r))=R at *
    clear h hc hq k0 k1 o0 o1 HDN HBL hfr hff HST
    rcases hcf with rfl|⟨C1,rfl⟩
    all_goals
     go_enter Tryz.func302,Tryz.ntmps302
     go_wp2_with fail
     refine JV.out.mono ?_
     rintro e w1 ⟨rfl,rfl⟩
     go_wp2_with fail
     refine vH.out.mono ?_
     rintro e w2 ⟨rfl,g1,g2,g3⟩
     have EP:=Lib.hid (HTL.out w2 g1 g2 g3)
     clear y0 y1 y2 y3
     obtain ⟨y0,y1⟩:=HC.out w2 g3
     clear g1 g2 g3 HTL vH
     go_wp2_with fail
     refine EP.out.mono ?_
     rintro e w4 ⟨nv,rfl,hf,hp⟩
     have HP:=Lib.hid hp
     clear hp EP
     rcases hf with rfl|⟨fn2,first2,caps2,rfl⟩
     all_goals
      go_wp2_with fail
      go_ret
      exact ⟨_,rfl,by first|exact .inl rfl|exact .inr ⟨_,_,_,rfl⟩,HP.out⟩
end
end
section
open Go.RowKit
theorem ER:∀ args w,(callFunc 82 args).run Tryz.prog w = .ok (.enter 82 args) w:=fun args w=>by simp [callFunc,Tryz.func82,go_sem];rfl
theorem zF:∀ args w,(callFunc 81 args).run Tryz.prog w = .ok (.enter 81 args) w:=fun args w=>by simp [callFunc,Tryz.func81,go_sem];rfl
theorem zG:∀ args w,(callFunc 300 args).run Tryz.prog w = .ok (.enter 300 args) w:=fun args w=>by simp [callFunc,Tryz.func300,go_sem];rfl
theorem Dq:∀ args w,(callFunc 283 args).run Tryz.prog w = .ok (.enter 283 args) w:=fun args w=>by simp [callFunc,Tryz.func283,go_sem];rfl
theorem Dt:∀ args w,(callFunc 122 args).run Tryz.prog w = .ok (.enter 122 args) w:=fun args w=>by simp [callFunc,Tryz.func122,go_sem];rfl
theorem Ak:∀ args w,(callFunc 284 args).run Tryz.prog w = .ok (.enter 284 args) w:=fun args w=>by simp [callFunc,Tryz.func284,go_sem];rfl
theorem ES:∀ args w,(callFunc 301 args).run Tryz.prog w = .ok (.enter 301 args) w:=fun args w=>by simp [callFunc,Tryz.func301,go_sem];rfl
theorem Am:∀ args w,(callFunc 166 args).run Tryz.prog w = .ok (.enter 166 args) w:=fun args w=>by simp [callFunc,Tryz.func166,go_sem];rfl
theorem Ap:∀ args w,(callFunc 244 args).run Tryz.prog w = .ok (.enter 244 args) w:=fun args w=>by simp [callFunc,Tryz.func244,go_sem];rfl
theorem Aq:∀ args w,(callFunc 209 args).run Tryz.prog w = .ok (.enter 209 args) w:=fun args w=>by simp [callFunc,Tryz.func209,go_sem];rfl
theorem yj:∀ args w,(callFunc 256 args).run Tryz.prog w = .ok (.enter 256 args) w:=fun args w=>by simp [callFunc,Tryz.func256,go_sem];rfl
theorem zH:∀ args w,(callFunc 271 args).run Tryz.prog w = .ok (.enter 271 args) w:=fun args w=>by simp [callFunc,Tryz.func271,go_sem];rfl
theorem Ar:∀ args w,(callFunc 285 args).run Tryz.prog w = .ok (.enter 285 args) w:=fun args w=>by simp [callFunc,Tryz.func285,go_sem];rfl
theorem ET:∀ args w,(callFunc 208 args).run Tryz.prog w = .ok (.enter 208 args) w:=fun args w=>by simp [callFunc,Tryz.func208,go_sem];rfl
theorem EU:∀ args w,(callFunc 260 args).run Tryz.prog w = .ok (.enter 260 args) w:=fun args w=>by simp [callFunc,Tryz.func260,go_sem];rfl
theorem Du:∀ args w,(callFunc 297 args).run Tryz.prog w = .ok (.enter 297 args) w:=fun args w=>by simp [callFunc,Tryz.func297,go_sem];rfl
theorem Dv:∀ args w,(callFunc 292 args).run Tryz.prog w = .ok (.enter 292 args) w:=fun args w=>by simp [callFunc,Tryz.func292,go_sem];rfl
theorem Dw:∀ args w,(callFunc 258 args).run Tryz.prog w = .ok (.enter 258 args) w:=fun args w=>by simp [callFunc,Tryz.func258,go_sem];rfl
theorem zI:∀ args w,(callFunc 295 args).run Tryz.prog w = .ok (.enter 295 args) w:=fun args w=>by simp [callFunc,Tryz.func295,go_sem];rfl
theorem zJ:∀ args w,(callFunc 290 args).run Tryz.prog w = .ok (.enter 290 args) w:=fun args w=>by simp [callFunc,Tryz.func290,go_sem];rfl
theorem wW:∀ args w,(callFunc 293 args).run Tryz.prog w = .ok (.enter 293 args) w:=fun args w=>by simp [callFunc,Tryz.func293,go_sem];rfl
theorem zK:∀ args w,(callFunc 302 args).run Tryz.prog w = .ok (.enter 302 args) w:=fun args w=>by simp [callFunc,Tryz.func302,go_sem];rfl
section
variable {o o':Ow} {w w':World} {G:Geo} {q:CG} {s:Sh} {c:CS} {ev:Option Ev} {nv nv0:Value} {N:Nat}
theorem Nu (h:CAt o w G q s c none nv0) (ok:CK N s c) (hN:N≤1000000000) (d:CD) (hd:jC c.muts c.blocks c.cells d) (v:Value) (hv:eG o w (G.D 0) q.C c.color d v) (hnil:kR d=false) :
 ∃ fn first caps,v = .func (.func fn) first caps∧(∀ args w,(callFunc fn args).run Tryz.prog w = .ok (.enter fn args) w)∧Calls Tryz.prog fn (first++caps) w (aP o w G q nv0 (aj s c d)):=by
 have hop:s.Q.opn≤1000000000:=Nat.le_trans ok.opn (by omega)
 have hql:∀ k,(s.Q.rw k).length≤1000000000:=fun k=>Nat.le_trans (ok.ql k) (by omega)
 have hc1:s.B.count≤1000000000:=by have:=ok.cnt.2;omega
 have hmu:=ok.mu1
 have hce:=ok.ce
 have hbl:=ok.bl
 cases d with
 | nil=>cases hnil
 | scan=>exact ⟨_,_,_,hv,ER,TB h ok.cnt.1 hc1⟩
 | trace=>exact ⟨_,_,_,hv,Dt,Rq h⟩
 | work=>exact ⟨_,_,_,hv,ET,TL h ok.stk ok.rm.2⟩
 | over=>exact ⟨_,_,_,hv,EU,TN h (Nat.le_trans ok.wa hN)⟩
 | drain=>exact ⟨_,_,_,hv,Dq,Ro h ok.cnt.1 hc1 (Nat.le_trans ok.dr hN)⟩
 | marked=>exact ⟨_,_,_,hv,Ak,PV h⟩
 | sweep=>exact ⟨_,_,_,hv,Dv,Rw h hop ok.q ok.color⟩
 | rests=>exact ⟨_,_,_,hv,Du,Ru h ⟨hop,hql⟩⟩
 | idle=>exact ⟨_,_,_,hv,ES,TD h⟩
 | arm =>
   obtain ⟨bs,rfl,hc⟩:=hv
   obtain ⟨b0,rfl,⟨o0,k0⟩⟩:=caps1 hc
   exact ⟨_,_,_,rfl,zF,UW h ok.cnt.1 hc1 b0 k0⟩
 | off =>
   obtain ⟨bs,rfl,hc⟩:=hv
   obtain ⟨b0,rfl,⟨o0,k0⟩⟩:=caps1 hc
   exact ⟨_,_,_,rfl,zG,UY h ok.cnt.1 hc1 b0 k0⟩
 | wait m t =>
   obtain ⟨tv,ht,bs,rfl,hc⟩:=hv
   obtain ⟨b0,b1,b2,rfl,⟨o0,k0⟩,⟨o1,k1⟩,⟨o2,k2⟩⟩:=caps3 hc
   exact ⟨_,_,_,rfl,Am,TF h hmu.2 m hd.1 t tv ht b0 b1 b2 o0 o1 o2 k0 k1 k2⟩
 | look x t =>
   obtain ⟨tv,ht,bs,rfl,hc⟩:=hv
   obtain ⟨b0,b1,b2,rfl,⟨o0,k0⟩,⟨o1,k1⟩,⟨o2,k2⟩⟩:=caps3 hc
   exact ⟨_,_,_,rfl,Ap,TI h ok.stk ok.rm.2 x t tv ht b0 b1 b2 o0 o1 o2 k0 k1 k2⟩
 | object a t =>
   obtain ⟨tv,ht,bs,rfl,hc⟩:=hv
   obtain ⟨b0,b1,b2,rfl,⟨o0,k0⟩,⟨o1,k1⟩,⟨o2,k2⟩⟩:=caps3 hc
   exact ⟨_,_,_,rfl,yj,PW h a t tv ht b0 b1 b2 o0 o1 o2 k0 k1 k2⟩
 | field a i n t =>
   obtain ⟨tv,ht,bs,rfl,hc⟩:=hv
   obtain ⟨b0,b1,b2,b3,b4,rfl,⟨o0,k0⟩,⟨o1,k1⟩,⟨o2,k2⟩,⟨o3,k3⟩,⟨o4,k4⟩⟩:=TA hc
   exact ⟨_,_,_,rfl,zH,Rt h a i n hd.1 hd.2.1 t tv ht b0 b1 b2 b3 b4 o0 o1 o2 o3 o4 k0 k1 k2 k3 k4⟩
 | cell i =>
   obtain ⟨bs,rfl,hc⟩:=hv
   obtain ⟨b0,b1,rfl,⟨o0,k0⟩,⟨o1,k1⟩⟩:=caps2 hc
   exact ⟨_,_,_,rfl,Aq,TJ h i (by have:i<c.cells:=hd;omega) b0 b1 k0 k1⟩
 | box m =>
   obtain ⟨bs,rfl,hc⟩:=hv
   obtain ⟨b0,b1,rfl,⟨o0,k0⟩,⟨o1,k1⟩⟩:=caps2 hc
   exact ⟨_,_,_,rfl,Dw,U0 h m hd ok.mu b0 b1 o0 o1 k0 k1⟩
 | walk b =>
   obtain ⟨bs,rfl,hc⟩:=hv
   obtain ⟨b0,b1,rfl,⟨o0,k0⟩,⟨o1,k1⟩⟩:=caps2 hc
   exact ⟨_,_,_,rfl,Ar,TK h b (by have:b<c.blocks:=hd;omega) b0 b1 k0 k1⟩
 | enqueue b =>
   obtain ⟨bs,rfl,hc⟩:=hv
   obtain ⟨b0,b1,rfl,⟨o0,k0⟩,⟨o1,k1⟩⟩:=caps2 hc
   exact ⟨_,_,_,rfl,wW,Ns h b (by have:b<c.blocks:=hd;omega) hql b0 b1 o0 o1 k0 k1⟩
 | slots l t =>
   obtain ⟨tv,lv,ht,hr,bs,rfl,hc⟩:=hv
   obtain ⟨b0,b1,b2,rfl,⟨o0,k0⟩,⟨o1,k1⟩,⟨o2,k2⟩⟩:=caps3 hc
   exact ⟨_,_,_,rfl,zJ,Rz h l hd.1 hd.2.1 t tv lv ht hr b0 b1 b2 o0 o1 o2 k0 k1 k2⟩
 | empty t =>
   obtain ⟨tv,ht,bs,rfl,hc⟩:=hv
   obtain ⟨b0,b1,rfl,⟨o0,k0⟩,⟨o1,k1⟩⟩:=caps2 hc
   exact ⟨_,_,_,rfl,zI,Ry h ok.stk ok.rm.2 t tv ht b0 b1 o0 o1 k0 k1⟩
 | block sl =>
   obtain ⟨cv,hcu,bs,rfl,hc⟩:=hv
   obtain ⟨b0,b1,rfl,⟨o0,k0⟩,⟨o1,k1⟩⟩:=caps2 hc
   exact ⟨_,_,_,rfl,zK,RF h sl hop cv hcu b0 b1 o0 o1 k0 k1⟩
end
end
section
attribute [local go_sem] Oper.semAt_some
open Go.RowKit
section
variable {o o':Ow} {w w':World} {G:Geo} {q:CG} {s:Sh} {c:CS} {ev:Option Ev} {nv nv0:Value} {N:Nat}
def DL (o:Ow) (w:World) (G:Geo) (q:CG) (r:iT) (w':World):Prop :=
 ∃ o' nv,aH w o o'∧CAt o' w' G q r.s r.c r.ev nv∧eG o' w' (G.D 0) q.C r.c.color r.next nv∧Keep (In o aK) w w'
theorem dI.lay {r:iT} {nv:Value} (h:dI o w G q nv0 r (.returned nv) w'):DL o w G q r (w'.setCell ⟨q.C,10,none⟩ nv):=by
 obtain ⟨o',nv',e,eo,h1,h2,k⟩:=h
 cases e
 obtain ⟨h3,k3⟩:=h1.put 10 nv r.c r.ev nv rfl ⟨rfl,rfl,rfl⟩
 exact ⟨o',nv,eo,h3,h2.ay k3 rfl rfl,k.yP (k5I k3) eo⟩
theorem dI.c10 {r:iT} {nv:Value} (h:dI o w G q nv0 r (.returned nv) w'):w'.cell? ⟨q.C,10,none⟩=some nv0∧w'.frozen? ⟨q.C,10,none⟩=false:=by
 obtain ⟨o',nv',e,eo,h1,h2,k⟩:=h
 exact ⟨h1.cell 10 _ rfl,h1.free 10⟩
theorem JW (h:CAt o w G q s c none nv0) (gU:c.color<2) (hcy:c.cycles≤1000000000) (hc0:0≤s.B.count) (hc1:s.B.count≤1000000000):Calls Tryz.prog 43 #[.pointer (some ⟨q.C,0,none⟩)] w fun e w'=>e = .returned (.tuple #[])∧DL o w G q (gI s c) w':=by
 obtain ⟨W0,hW0⟩:∃ W',W'=w.alloc (.cells #[ah q.C] 30):=⟨_,rfl⟩
 have hk:Keep none_ w W0:=by rw [hW0];exact (Keep.refl _ _).alloc _
 have hb:Blk W0 w.heap.size [ah q.C] 30:=by rw [hW0];exact Blk.new w _ _
 have o0:o w.heap.size=0:=h.sh.fut _ (Nat.le_refl _)
 have h0:=h.still hk
 obtain ⟨W1,hW1⟩:∃ W',W'=W0.setCell ⟨q.C,7,none⟩ (.bool false):=⟨_,rfl⟩
 obtain ⟨h1,k1⟩:=h0.put 7 (.bool false) { c with wish:=false } none nv0 rfl ⟨rfl,rfl,rfl⟩
 rw [← hW1] at h1 k1
 obtain ⟨W2,hW2⟩:∃ W',W'=W1.setCell ⟨q.C,6,none⟩ (.int .i64 ((c.cycles:Int)+1)):=⟨_,rfl⟩
 obtain ⟨h2,k2⟩:=h1.put 6 (.int .i64 ((c.cycles:Int)+1)) { c with wish:=false,cycles:=c.cycles+1 } none nv0 (by show _=ig G q _ _ _;unfold ig;push_cast;rfl) ⟨rfl,rfl,rfl⟩
 rw [← hW2] at h2 k2
 have k02:Keep (In o [5]) W0 W2:=k1.trans k2
 have hb2:=hb.ay k02 o0 rfl
 have hw1:IntKind.i64.wrap ((c.cycles:Int)+1)=(c.cycles:Int)+1:=IntWalk.i64_in _ (by omega)
 have hw2:IntKind.i64.wrap (1 - (c.color:Int))=1 - (c.color:Int):=IntWalk.i64_in _ (by omega)
 have y7:=h0.cell 7 _ rfl
 have f7:=h0.free 7
 have z0:=hb.cell 0 (v := .pointer (some ⟨q.C,0,none⟩)) rfl
 have y6:=h1.cell 6 _ rfl
 have f6:=h1.free 6
 have z1:=(hb.ay k1 o0 rfl).cell 0 (v := .pointer (some ⟨q.C,0,none⟩)) rfl
 have y5:=h2.cell 5 _ rfl
 have f5:=h2.free 5
 have z2:=hb2.cell 0 (v := .pointer (some ⟨q.C,0,none⟩)) rfl
 obtain ⟨W3,hW3⟩:∃ W',W'=(W2.setCell ⟨q.C,5,none⟩ (.int .i64 (1 - (c.color:Int)))).drew:=⟨_,rfl⟩
 obtain ⟨c3,hc3⟩:∃ c':CS,c'={ c with wish:=false,cycles:=c.cycles+1,color:=1 - c.color }:=⟨_,rfl⟩
 obtain ⟨h3,k3⟩:=h2.put 5 (.int .i64 (1 - (c.color:Int))) { c with wish:=false,cycles:=c.cycles+1,color:=1 - c.color } none nv0 (by show _=ig G q _ _ _;unfold ig;rw [show ((1 - c.color:Nat):Int)=1 - (c.color:Int) by omega];rfl) ⟨rfl,rfl,rfl⟩
 have kd3:Keep none_ (W2.setCell ⟨q.C,5,none⟩ (.int .i64 (1 - (c.color:Int)))) W3:=by rw [hW3];exact (Keep.refl none_ _).drew
 have h3':=h3.still kd3
 have k03:Keep (In o [5]) W0 W3:=(k02.trans k3).trans kd3.aF
 have hb3:=hb.ay k03 o0 rfl
 have k3I:Keep (In o aK) w W3:=hk.aF.trans (k5I k03)
 rw [← hc3] at h3'
 have x0:=hb3.cell 0 (v := .pointer (some ⟨q.C,0,none⟩)) rfl
 have x6:W3.cell? ⟨q.C,6,none⟩=some (.int .i64 ((c.cycles:Int)+1)):=by
  have:=h3'.cell 6 _ rfl
  rw [hc3] at this
  push_cast at this
  exact this
 have es:gI s c=oU s c3 1 .arm (some (c3.ev 2 (c.cycles+1))):=by rw [hc3];rfl
 have HT:Hid (Calls Tryz.prog 79 #[.pointer (some ⟨q.C,0,none⟩),.int .i64 2,.int .i64 ((c.cycles:Int)+1)] W3.drew fun e w'=>e = .returned (.tuple #[])∧CAt o w' G q s c3 (some (c3.ev 2 (c.cycles+1))) nv0∧w'.cell? ⟨w.heap.size,0,none⟩=some (.pointer (some ⟨q.C,0,none⟩))∧Keep (In o aK) W0 w'):=by
  have kd:Keep none_ W3 W3.drew:=(Keep.refl none_ W3).drew
  have g:=qW (h3'.still kd) 2 (c.cycles+1)
  rw [show ((c.cycles+1:Nat):Int)=(c.cycles:Int)+1 by push_cast;rfl] at g
  refine g.mono ?_
  rintro e w' ⟨rfl,g1,g2⟩
  have kk:=kd.aF.trans g2
  exact ⟨rfl,g1,(hb3.ay kk o0 rfl).cell 0 rfl,k5I (k03.trans kk)⟩
 have HAK:Hid (∀ V,CAt o V G q s c3 (some (c3.ev 2 (c.cycles+1))) nv0→Keep (In o aK) W0 V→Calls Tryz.prog 80 #[.pointer (some ⟨q.C,0,none⟩),.int .i64 1,.func (.func 81) #[] #[.pointer (some ⟨w.heap.size,0,none⟩)]] V.drew fun e w'=>∃ fn first caps,e = .returned (.func (.func fn) first caps)∧w'.cell? ⟨q.C,10,none⟩=some nv0∧w'.frozen? ⟨q.C,10,none⟩=false∧w'.cell? ⟨w.heap.size,0,none⟩=some (.pointer (some ⟨q.C,0,none⟩))∧(w'.setCell ⟨q.C,10,none⟩ (.func (.func fn) first caps)).cell? ⟨w.heap.size,0,none⟩=some (.pointer (some ⟨q.C,0,none⟩))∧Hid (DL o w G q (gI s c) (w'.setCell ⟨q.C,10,none⟩ (.func (.func fn) first caps)))):=fun V hV0 Vr=>by
  have hV:=hV0.still (Keep.refl none_ V).drew
  have hkV:Keep (In o aK) W0 V.drew:=Vr.trans (Keep.refl (In o aK) V).drew
  have hbV:Blk V.drew w.heap.size [ah q.C] 30:=hb.ay hkV o0 dM
  have ht:aO o V.drew q.C .arm (.func (.func 81) #[] #[.pointer (some ⟨w.heap.size,0,none⟩)]):=⟨[w.heap.size],rfl,_,_,rfl,o0,hbV,rfl⟩
  have g:=oH hV 1 ht hc0 hc1
  rw [← es] at g
  refine g.mono ?_
  rintro e w' ⟨nv,rfl,hf,hp⟩
  obtain ⟨o2,nv2,e2,eo2,h4,h5,k4⟩:=id hp
  cases e2
  have hfn:∃ fn first caps,nv = .func (.func fn) first caps:=by
   rcases h5.form with ⟨h6,_⟩|⟨_,h6⟩
   ·rw [es] at h6;cases h6
   ·exact h6
  obtain ⟨fn,first,caps,rfl⟩:=hfn
  have hb4:=hbV.ay k4 o0 dM
  have hne:w.heap.size≠q.C:=fun e=>by
   have h9:=h.blk.lt
   rw [← e] at h9
   exact absurd h9 (Nat.lt_irrefl _)
  exact ⟨fn,first,caps,rfl,hp.c10.1,hp.c10.2,hb4.cell 0 rfl,(hb4.other (a:=⟨q.C,10,none⟩) hne _).cell 0 rfl,(hp.after (hk.aF.trans hkV)).lay⟩
 have HW0:=Lib.hid hW0
 have HW1:=Lib.hid hW1
 have HW2:=Lib.hid hW2
 have HW3:=Lib.hid hW3
 rw [hW0] at y7 f7 z0
 rw [hW1,hW0] at y6 f6 z1
 have hmf:=gV
 generalize gI s c=R at *
 generalize c3.ev 2 (c.cycles+1)=evs at *
 generalize c.cycles=cy at *
 generalize c.color=co at *
 clear hW0 hW1 hW2 hW3 h h0 h1 h2 h3 h3' k1 k2 k02 k3 kd3 k03 k3I hb hb2 hb3 hk es hc3
 go_enter Tryz.func43,Tryz.ntmps43
 go_wp2_with fail
 rw [← HW0.out,← HW1.out,← HW2.out]
 go_region
 rw [← HW3.out]
 clear y5 f5 z2 y6 f6 z1 y7 f7 z0
 go_wp2_with fail
 refine aA 5 rfl (by kernel_rfl) (by kernel_rfl) (fun K hK=>?_)
 change wpStill _ _ (World.drew _) _ _ _
 simp only [List.take_succ_cons,List.take_zero,List.drop_succ_cons,List.drop_zero] at hK ⊢
 repeat still_step
 refine wpStill_nil ?_
 change ite _ (Oper.wp _ _ _ _ _ _) _
 go_simp
 refine HT.out.mono ?_
 rintro e w4 ⟨rfl,h4,x4,k4⟩
 refine hK _ _ ?_
 clear hK K
 have HK4:=Lib.hid (HAK.out w4 h4 k4)
 clear h4 k4 HT HAK x0 x6
 repeat still_step
 refine wpStill_nil ?_
 go_wp2_with fail
 go_region_held3 (fun W'=>W'.cell? ⟨w.heap.size,0,none⟩=some (.pointer (some ⟨q.C,0,none⟩)))
  (first
   | exact x4
   | exact zs
   | exact zn
   | fail "iw")
  (first
   | (go_at_call 80
      refine HK4.out.mono ?_
      rintro e w5 ⟨fn,first,caps,rfl,y10,f10,zn,zs,hp⟩
      have HP:=Lib.hid hp.out
      clear hp)
   | fail "jc")
 all_goals
  go_end0
  exact ⟨rfl,HP.out⟩
end
section
variable {o:Ow} {w w':World} {Nt M:Nat}
theorem JX (fn:Nat) (caps:Array Value) (w:World):Calls Tryz.prog 127 #[.func (.func fn) #[] caps] w fun e w'=>e = .returned (.func (.func 169) #[] #[ah w.heap.size])∧w'=w.alloc (.cells #[.func (.func fn) #[] caps] 1):=by
 have hmf:=gV
 go_enter Tryz.func127,Tryz.ntmps127
 go_wp2_with fail
 go_ret
 exact ⟨rfl,rfl⟩
def ni (o:Ow) (w:World) (M:Nat) (k:Int) (lv:Value):Prop :=
 if k=1 then Clo o w 130 [([ah M],56)] lv
 else if k=2 then Clo o w 132 [] lv
 else if k=3 then Clo o w 133 [([ah M],56)] lv
 else if k=5 then Clo o w 137 [([ah M],56)] lv
 else Clo o w 138 [([ah M],56)] lv
theorem ni.still {k:Int} {lv:Value} (h:ni o w M k lv) (kk:Keep none_ w w'):ni o w' M k lv:=by
 unfold ni at h ⊢
 by_cases e1:k=1
 ·rw [if_pos e1] at h ⊢;exact h.keep kk (fun _ _ f=>f)
 rw [if_neg e1] at h ⊢
 by_cases e2:k=2
 ·rw [if_pos e2] at h ⊢;exact h.keep kk (fun _ _ f=>f)
 rw [if_neg e2] at h ⊢
 by_cases e3:k=3
 ·rw [if_pos e3] at h ⊢;exact h.keep kk (fun _ _ f=>f)
 rw [if_neg e3] at h ⊢
 by_cases e5:k=5
 ·rw [if_pos e5] at h ⊢;exact h.keep kk (fun _ _ f=>f)
 rw [if_neg e5] at h ⊢
 exact h.keep kk (fun _ _ f=>f)
theorem ni.once {k:Int} {lv dv v:Value} (h:ni o w M k lv) (h1:Clo o w 128 [([lv],1),([ah M],56)] dv) (h2:Clo o w 169 [([dv],1)] v):bH o w Nt M (.once k) v:=by
 refine ⟨dv,h2,?_⟩
 unfold ni at h
 by_cases e1:k=1
 ·rw [if_pos e1] at h ⊢;exact ⟨lv,h1,h⟩
 rw [if_neg e1] at h ⊢
 by_cases e2:k=2
 ·rw [if_pos e2] at h ⊢;exact ⟨lv,h1,h⟩
 rw [if_neg e2] at h ⊢
 by_cases e3:k=3
 ·rw [if_pos e3] at h ⊢;exact ⟨lv,h1,h⟩
 rw [if_neg e3] at h ⊢
 by_cases e5:k=5
 ·rw [if_pos e5] at h ⊢;exact ⟨lv,h1,h⟩
 rw [if_neg e5] at h ⊢
 exact ⟨lv,h1,h⟩
theorem vI (hf:Fut o w) (k:Int) (fn:Nat) (caps:Array Value) (hl:ni o w M k (.func (.func fn) #[] caps)) (b:Nat) (hb:o b=0) (kb:Blk w b [ah M] 56):Calls Tryz.prog 126 #[.func (.func fn) #[] caps,.pointer (some ⟨b,0,none⟩)] w fun e w'=>∃ fn caps,e = .returned (.func (.func fn) #[] caps)∧bH o w' Nt M (.once k) (.func (.func fn) #[] caps)∧Keep none_ w w':=by
 have hc:=fG (o:=o) [([.func (.func fn) #[] caps],1),([.func (.func 128) #[] #[ah w.heap.size,ah b]],1)] w hf
 have HE:Hid (bH o (aZ w [([.func (.func fn) #[] caps],1),([.func (.func 128) #[] #[ah w.heap.size,ah b]],1)]) Nt M (.once k) (.func (.func 169) #[] #[ah (w.heap.size+1)])∧Keep none_ w (aZ w [([.func (.func fn) #[] caps],1),([.func (.func 128) #[] #[ah w.heap.size,ah b]],1)])):=by
  obtain ⟨b0,b1,e,⟨o0,k0⟩,⟨o1,k1⟩⟩:=caps2 hc.1
  simp only [idxs,List.cons.injEq] at e
  obtain ⟨rfl,rfl,_⟩:=e
  exact ⟨(hl.still hc.2).once ⟨[w.heap.size,b],rfl,_,_,rfl,o0,k0,_,_,rfl,hb,hc.2.blk kb (fun f=>f),rfl⟩ ⟨[w.heap.size+1],rfl,_,_,rfl,o1,k1,rfl⟩,hc.2⟩
 have hmf:=gV
 clear hc hl hb kb hf
 go_enter Tryz.func126,Tryz.ntmps126
 go_wp2_with fail
 refine (JX _ _ _).mono ?_
 rintro e w1 ⟨rfl,rfl⟩
 simp only [World.size_alloc]
 go_wp2_with fail
 go_ret
 exact ⟨_,_,rfl,HE.out.1,HE.out.2⟩
end
section
variable {o:Ow} {w w':World} {Nt M:Nat}
theorem EW (hf:Fut o w) (k:Int) (h35:k≠3∧k≠5):Calls Tryz.prog 91 #[.pointer (some ⟨M,0,none⟩),.int .i64 k] w fun e w'=>∃ fn caps,e = .returned (.func (.func fn) #[] caps)∧bH o w' Nt M (.once k) (.func (.func fn) #[] caps)∧Keep none_ w w':=by
 obtain ⟨W1,hW1⟩:∃ W1,W1=w.alloc (.cells #[ah M] 56):=⟨_,rfl⟩
 have k1:Keep none_ w W1:=by rw [hW1];exact (Keep.refl _ _).alloc _
 have hb1:Blk W1 w.heap.size [ah M] 56:=by rw [hW1];exact Blk.new w _ _
 have ho:o w.heap.size=0:=hf _ (Nat.le_refl _)
 have HL:Hid (∀ fn caps,ni o W1 M k (.func (.func fn) #[] caps)→Calls Tryz.prog 126 #[.func (.func fn) #[] caps,.pointer (some ⟨w.heap.size,0,none⟩)] W1 fun e w'=>∃ fn caps,e = .returned (.func (.func fn) #[] caps)∧bH o w' Nt M (.once k) (.func (.func fn) #[] caps)∧Keep none_ w w'):=fun fn caps hl=>by
  refine (vI (Nt:=Nt) (hf.keep k1) k fn caps hl w.heap.size ho hb1).mono ?_
  rintro e w' ⟨fn,caps,rfl,h1,h2⟩
  exact ⟨fn,caps,rfl,h1,k1.trans h2⟩
 have HW1:=Lib.hid hW1
 have hmf:=gV
 have d3:(k==3)=false:=by simpa using h35.1
 have d5:(k==5)=false:=by simpa using h35.2
 by_cases e1:k=1
 ·subst e1
  have HL1:=Lib.hid (HL.out 130 #[.pointer (some ⟨w.heap.size,0,none⟩)] (by unfold ni;rw [if_pos rfl];exact ⟨[w.heap.size],rfl,_,_,rfl,ho,hb1,rfl⟩))
  clear HL d3 d5 k1 hb1 ho hW1 hf h35
  go_enter Tryz.func91,Tryz.ntmps91
  go_wp2_with fail
  rw [← HW1.out]
  refine HL1.out.mono ?_
  rintro e w2 ⟨fn,caps,rfl,h1,h2⟩
  have HE:=Lib.hid (And.intro h1 h2)
  clear h1 h2
  go_wp2_with fail
  go_ret
  exact ⟨_,_,rfl,HE.out.1,HE.out.2⟩
 have d1:(k==1)=false:=by simpa using e1
 by_cases e2:k=2
 ·subst e2
  have HL1:=Lib.hid (HL.out 132 #[] (by unfold ni;rw [if_neg (by decide),if_pos rfl];exact ⟨[],rfl,rfl⟩))
  clear HL d3 d5 d1 k1 hb1 ho hW1 hf h35 e1
  go_enter Tryz.func91,Tryz.ntmps91
  go_wp2_with fail
  rw [← HW1.out]
  refine HL1.out.mono ?_
  rintro e w2 ⟨fn,caps,rfl,h1,h2⟩
  have HE:=Lib.hid (And.intro h1 h2)
  clear h1 h2
  go_wp2_with fail
  go_ret
  exact ⟨_,_,rfl,HE.out.1,HE.out.2⟩
 have d2:(k==2)=false:=by simpa using e2
 have HL1:=Lib.hid (HL.out 138 #[.pointer (some ⟨w.heap.size,0,none⟩)] (by unfold ni;rw [if_neg e1,if_neg e2,if_neg h35.1,if_neg h35.2];exact ⟨[w.heap.size],rfl,_,_,rfl,ho,hb1,rfl⟩))
 clear HL k1 hb1 ho hW1 hf h35 e1 e2
 go_enter Tryz.func91,Tryz.ntmps91
 go_wp2_with fail
 rw [← HW1.out]
 refine HL1.out.mono ?_
 rintro e w2 ⟨fn,caps,rfl,h1,h2⟩
 have HE:=Lib.hid (And.intro h1 h2)
 clear h1 h2
 go_wp2_with fail
 go_ret
 exact ⟨_,_,rfl,HE.out.1,HE.out.2⟩
end
section
variable {o:Ow} {w w':World} {G:Geo} {g:MG} {s:Sh} {m:MS} {nv:Value} {ev:Option Ev}
theorem Nv {c:Nat} {t:MD} (h:xZ t=true):xZ (m.iQ c t)=true:=by
 unfold MS.iQ
 split
 ·exact h
 ·rfl
theorem EX (h:MAt o w G g s m ev nv):Calls Tryz.prog 91 #[.pointer (some ⟨g.M,0,none⟩),.int .i64 5] w fun e w'=>∃ fn caps,e = .returned (.func (.func fn) #[] caps)∧bH o w' g.Nt g.M (m.iQ m.want (.once 5)) (.func (.func fn) #[] caps)∧Keep none_ w w':=by
 obtain ⟨W1,hW1⟩:∃ W1,W1=w.alloc (.cells #[ah g.M] 56):=⟨_,rfl⟩
 have k1:Keep none_ w W1:=by rw [hW1];exact (Keep.refl _ _).alloc _
 have hb1:Blk W1 w.heap.size [ah g.M] 56:=by rw [hW1];exact Blk.new w _ _
 have ho:o w.heap.size=0:=h.sh.fut _ (Nat.le_refl _)
 have h1:=h.still k1
 have c0:W1.cell? ⟨w.heap.size,0,none⟩=some (.pointer (some ⟨g.M,0,none⟩)):=hb1.cell 0 rfl
 have c11:=h1.c11
 have c14:=h1.c14
 have hkd:Keep none_ W1 W1.drew:=(Keep.refl none_ W1).drew
 have HL:Hid (Calls Tryz.prog 126 #[.func (.func 137) #[] #[.pointer (some ⟨w.heap.size,0,none⟩)],.pointer (some ⟨w.heap.size,0,none⟩)] W1.drew fun e w'=>∃ fn caps,e = .returned (.func (.func fn) #[] caps)∧(w'.cell? ⟨w.heap.size,0,none⟩=some (.pointer (some ⟨g.M,0,none⟩))∧w'.cell? ⟨g.M,11,none⟩=some (.pointer (some ⟨g.Nt,0,none⟩))∧w'.cell? ⟨g.M,14,none⟩=some (.int .i64 (m.want:Int))) ∧
  Hid (Calls Tryz.prog 136 #[.pointer (some ⟨g.Nt,0,none⟩),.int .i64 (m.want:Int),.func (.func fn) #[] caps] w' fun e w2=>∃ fn caps,e = .returned (.func (.func fn) #[] caps)∧(w2.cell? ⟨w.heap.size,0,none⟩=some (.pointer (some ⟨g.M,0,none⟩))∧w2.cell? ⟨g.M,11,none⟩=some (.pointer (some ⟨g.Nt,0,none⟩))∧w2.cell? ⟨g.M,14,none⟩=some (.int .i64 (m.want:Int)))∧bH o w2 g.Nt g.M (m.iQ m.want (.once 5)) (.func (.func fn) #[] caps)∧Keep none_ w w2)):=by
  refine (vI (Nt:=g.Nt) (h1.sh.fut.keep hkd) 5 137 #[.pointer (some ⟨w.heap.size,0,none⟩)] (by unfold ni;rw [if_neg (by decide),if_neg (by decide),if_neg (by decide),if_pos rfl];exact ⟨[w.heap.size],rfl,_,_,rfl,ho,hkd.blk hb1 (fun f=>f),rfl⟩) w.heap.size ho (hkd.blk hb1 (fun f=>f))).mono ?_
  rintro e w2 ⟨fn,caps,rfl,h2,k2⟩
  have k12:=hkd.trans k2
  have hM2:=h1.still k12
  refine ⟨fn,caps,rfl,⟨k12.still c0,k12.still c11,k12.still c14⟩,?_⟩
  refine (zi hM2 m.want (.once 5) _ h2).mono ?_
  rintro e w3 ⟨nv3,rfl,h3,k3⟩
  obtain ⟨fn3,caps3,rfl⟩:=h3.Pv (Nv rfl)
  have k13:=k12.trans k3
  exact ⟨fn3,caps3,rfl,⟨k13.still c0,k13.still c11,k13.still c14⟩,h3,k1.trans k13⟩
 have HW1:=Lib.hid hW1
 have hmf:=gV
 generalize m.iQ m.want (.once 5)=d at *
 generalize m.want=mw at *
 clear h h1 hW1 k1 hb1 ho hkd
 go_enter Tryz.func91,Tryz.ntmps91
 go_wp2_with fail
 rw [← HW1.out]
 go_region_held3 (fun w'=>w'.cell? ⟨w.heap.size,0,none⟩=some (.pointer (some ⟨g.M,0,none⟩))∧w'.cell? ⟨g.M,11,none⟩=some (.pointer (some ⟨g.Nt,0,none⟩))∧w'.cell? ⟨g.M,14,none⟩=some (.int .i64 (mw:Int)))
  (first | exact ⟨c0, c11, c14⟩ | exact h5.out | exact h6.out | fail "iw")
  (first
   | (refine HL.out.mono ?_
      rintro e w5 ⟨fn,caps,rfl,h5',HFi⟩
      have h5:=Lib.hid h5'
      clear h5')
   | (refine HFi.out.mono ?_
      rintro e w6 ⟨fn6,caps6,rfl,h6',hp,hk⟩
      have h6:=Lib.hid h6'
      have HP:=Lib.hid (And.intro hp hk)
      clear h6' hp hk)
   | fail "jc")
 clear HL HFi c0 c11 c14 h5 h6
 go_wp2_with fail
 go_ret
 exact ⟨_,_,rfl,HP.out.1,HP.out.2⟩
end
end
end Go.Proofs.YtanfphjoebobaaaGreatDoor
