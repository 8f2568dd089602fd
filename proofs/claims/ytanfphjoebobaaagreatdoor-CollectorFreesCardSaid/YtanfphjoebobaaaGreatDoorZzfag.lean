/- Parts of the iy. No conditions. -/
import Derived.Test.YtanfphjoebobaaaGreatDoorZzfaf
namespace Go.Proofs.YtanfphjoebobaaaGreatDoor
open _root_.List renaming getD_eq_getElem?_getD->ajg,getElem?_eq_getElem->ajh
open _root_.Nat renaming zero_le->aki
open _root_.Go.Proofs.Tryz hiding prog
open _root_.Go.Proofs.Tryz renaming prog->aA
set_option maxRecDepth 100000
set_option maxHeartbeats 32000000
section
attribute [local go_sem] Oper.semAt_some
open Go.RowKit
theorem afd {w:World} {s:Nat} {e:TypeId} {v:Value} {n:Nat} {xs:List Value} (h:w.ownsRow s e 1 v n xs):n<=9223372036854775807:=by
 rcases h.2 with ⟨_,rfl⟩|⟨_,_,_,_,_,_,h1,h2,_⟩
 ·exact aki _
 ·exact Nat.le_trans h1 (Nat.le_trans h2 (by decide))
theorem UZ {o:Ow} {w:World} {v:Value} {l:List Nat} (h:dH o w 3 v (aS l)):∃ a c,v = .slice a l.length c/\gY .i64 w a l.length (l.map fun x:Nat=>(x:Int)):=by
 obtain ⟨a,c,rfl,_,_,hf⟩:=h.form
 rw [rF] at *
 refine ⟨a,c,rfl,by simp,fun h0=>?_⟩
 obtain ⟨b,off,e,_⟩:=hf 0 _ (qG h0)
 refine ⟨b,off,e,fun j hj=>?_⟩
 obtain ⟨b',off',e',hc⟩:=hf j _ (qG hj)
 rw [e] at e'
 cases e'
 rw [hc,ajg,ajg,List.getElem?_map,ajh hj];rfl
theorem IQ (x:xE) (a1 a2 a3 a4:Option Addr) (n1 n2 n3 n4 p1 p2 p3 p4:Nat) (w:World) (h:Ir w x a1 a2 a3 a4 n1 n2 n3 n4) (hL:laidMetH aA Rows.collectorFreesRow.laid w) :
 Calls aA 8 #[Aj x.c a1 a2 a3 a4 n1 n2 n3 n4 p1 p2 p3 p4] w fun e w'=>e = .returned (.bool true)/\aj aB w w':=by
 have hL' : laidMetH aA [("math/bits.deBruijn64tab", Rows.laid_math_bits_deBruijn64tab), ("dustpan/config.limits", Rows.laid_dustpan_config_limits), ("dustpan/class.sizes", Rows.laid_dustpan_class_sizes), ("dustpan/phase.known", Rows.laid_dustpan_phase_known), ("dustpan/op.kinds", Rows.laid_dustpan_op_kinds)] w := hL
 rw [MakeChecks.laidMetH_plain _ _ _ (by kernel_rfl)] at hL'
 obtain ⟨hla,hkn⟩:=adw hL'
 have Dx:=ay hla
 have jQ:=ay hkn
 clear hL hL' hla hkn
 obtain ⟨W0,hW0⟩:∃ W0,W0=w.alloc (.cells #[ah x.c.b,ah x.c.w,ah x.c.m,ah x.c.r,ah x.c.c,ah x.c.l,ah x.c.s,.slice a1 n1 p1,.slice a2 n2 p2,.slice a3 n3 p3,.slice a4 n4 p4] 26):=⟨_,rfl⟩
 have k0:aj aB w W0:=by rw [hW0];exact (aj.refl _ _).alloc _
 have hb0:aF W0 w.heap.size [ah x.c.b,ah x.c.w,ah x.c.m,ah x.c.r,ah x.c.c,ah x.c.l,ah x.c.s,.slice a1 n1 p1,.slice a2 n2 p2,.slice a3 n3 p3,.slice a4 n4 p4] 26:=by rw [hW0];exact aF.bC w _ _
 have HW0:=ay hW0
 have gQ:=ay k0
 have HB0:=ay hb0
 have HST:=ay h
 clear hW0 k0 hb0 h
 go_enter func8,ntmps8
 go_wp2_with fail
 rw [<- HW0.out]
 refine (abb x.c a1 a2 a3 a4 n1 n2 n3 n4 p1 p2 p3 p4 W0).mono ?_
 rintro e w1 ⟨rfl,k1⟩
 have bI:Hid (aj aB w w1):=gQ.out.trans k1
 have HB1:Hid (aF w1 w.heap.size [ah x.c.b,ah x.c.w,ah x.c.m,ah x.c.r,ah x.c.c,ah x.c.l,ah x.c.s,.slice a1 n1 p1,.slice a2 n2 p2,.slice a3 n3 p3,.slice a4 n4 p4] 26):=k1.aH HB0.out (fun f=>f)
 clear k1 gQ HB0 HW0
 have Qq:Hid (Calls aA 10 #[] w1 fun e w'=>e = .returned (.bool true)/\aj aB w1 w'):=VJ (Dx.out.still bI.out)
 cases hg:IC n1 n2 n3 n4 with
 | true =>
   go_wp2_with fail
   refine Qq.out.mono ?_
   rintro e w2 ⟨rfl,k2⟩
   have dF:Hid (aj aB w w2):=bI.out.trans k2
   clear k2 Qq
   go_wp2_with fail
   go_ret
   exact ⟨rfl,dF.out⟩
 | false =>
   obtain ⟨m1,m2,m3,m4⟩:=aaZ hg
   clear hg
   go_wp2_with fail
   refine Qq.out.mono ?_
   rintro e w2 ⟨rfl,k2⟩
   have dF:Hid (aj aB w w2):=bI.out.trans k2
   have hb2:=k2.aH HB1.out (fun f=>f)
   have z0:=hb2.cell 0 rfl;have z1:=hb2.cell 1 rfl;have z2:=hb2.cell 2 rfl;have z3:=hb2.cell 3 rfl;have z4:=hb2.cell 4 rfl;have z5:=hb2.cell 5 rfl;have z6:=hb2.cell 6 rfl;have z7:=hb2.cell 7 rfl;have z8:=hb2.cell 8 rfl;have z9:=hb2.cell 9 rfl;have z10:=hb2.cell 10 rfl
   have Ur:Hid (Calls aA 11 #[Aj x.c a1 a2 a3 a4 n1 n2 n3 n4 p1 p2 p3 p4] w2 (I9 w2 x)):=Ut (Dx.out.still dF.out) (HST.out.still dF.out) m1 m2 m3 m4
   have hrl:x.rg.length<=20:=by have:=HST.out.r.len;omega
   clear k2 Qq hb2 HB1 bI m1 m2 m3 m4
   go_wp2_with fail
   clear z0 z1 z2 z3 z4 z5 z6 z7 z8 z9 z10
   refine Ur.out.mono ?_
   intro e2 w3 hm
   obtain ⟨o,G,q,gs,ma,mc,a,c,rfl,hcw,hok,hfw,hmv,hrow,hI,hgl⟩:=hm.get hrl
   rw [<- hI.aQ]
   clear hm Ur hrow
   obtain ⟨d,hd,hdk⟩:=abe x.c
   have Xc:=CI.made hd hcw hok hfw hmv hI hgl
   have HDK:=ay hdk
   have HCI:=ay Xc
   have tJ:Hid (gs.length=d.m):=Xc.len
   generalize iY x=y at *
   have HG:Hid (∀ W,CI d w2 W o G gs q (.slice ma gs.length mc) 300 y 0 0->W.cell? ⟨G.S,0,none⟩=some (au (G.D 0))):=fun W h=>h.cw.aC.sh.yQ.1
   have hG:=HG.out _ Xc
   have yK:Hid (∀ W,CI d w2 W o G gs q (.slice ma gs.length mc) 300 y 0 0->pI W):=fun W h=>(Dx.out.still (dF.out.trans h.cw.aK)).b
   have PG:=ay (Xc.of hdk (yK.out _ Xc))
   have hrl9:=hrl
   clear hcw hok hfw hmv hI hgl hd hdk Xc hrl hrl9
   go_wp2_with fail
   refine PG.out.mono ?_
   rintro e w4 ⟨Av,Tv,rfl,hE4,hC4,_⟩
   obtain ⟨aa,ca,eA,_⟩:=gy hE4.a
   obtain ⟨us,_,u2,_⟩:=hE4.t
   obtain ⟨ta,tc,eT,_⟩:=gy u2
   have Pm:=ay hE4
   have ZV:=ay hC4
   subst eA eT
   clear hG PG hE4 hC4 u2 HCI
   obtain ⟨W5,nI⟩:∃ W5,W5=w4.alloc (.cells #[.slice aa y.s.H.aQ.length ca,.slice ta y.s.H.aQ.length tc] 69):=⟨_,rfl⟩
   have k5:aj aB w4 W5:=by rw [nI];exact (aj.refl _ _).alloc _
   have hX5:aF W5 w4.heap.size [.slice aa y.s.H.aQ.length ca,.slice ta y.s.H.aQ.length tc] 69:=by rw [nI];exact aF.bC w4 _ _
   have HEB:Hid (∀ W,aj aB W5 W->W.cell? ⟨w4.heap.size,0,none⟩=some (.slice aa y.s.H.aQ.length ca)/\W.cell? ⟨w4.heap.size,1,none⟩=some (.slice ta y.s.H.aQ.length tc)):=fun W k=>⟨k.still (hX5.cell 0 rfl),k.still (hX5.cell 1 rfl)⟩
   have U0:=ay (ZV.out.still k5)
   have adB:Hid (∀ W,aj aB W5 W->Calls aA 31 #[au G.S,.slice ma gs.length mc] W fun e w'=>∃ v,e = .returned v/\w'.ownsRow 0 3 1 v (jK y d.ce d.m).length (aS (jK y d.ce d.m))/\aj aB W w'/\aj aB W5 w'):=fun W k=>by
    refine (abk (U0.out.still k) HDK.out).mono ?_
    rintro e w' ⟨v,rfl,h1,h2⟩
    exact ⟨v,rfl,bQ h1 (aki _),h2,k.trans h2⟩
   have agU:Hid (∀ W rv,aj aB W5 W->W.ownsRow 0 3 1 rv (jK y d.ce d.m).length (aS (jK y d.ce d.m))->Calls aA 29 #[.agg #[.slice aa y.s.H.aQ.length ca,.slice ta y.s.H.aQ.length tc],rv] W fun e w'=>∃ v,e = .returned v/\w'.ownsRow W5.heap.size 3 1 v (rG d 0 y).length (aS (rG d 0 y))/\aj aB W w'/\aj aB W5 w'):=fun W rv k hr=>by
    refine ((U0.out.still k).ahD HDK.out (Pm.out.still (k5.trans k)) hr).mono ?_
    rintro e w' ⟨v,rfl,m,hm,h1,h2⟩
    rw [WY hm] at h1
    exact ⟨v,rfl,bQ h1 k.size,h2,k.trans h2⟩
   have agV:Hid (∀ W rv,aj aB W5 W->W.ownsRow 0 3 1 rv (jK y d.ce d.m).length (aS (jK y d.ce d.m))->Calls aA 34 #[.agg #[.slice aa y.s.H.aQ.length ca,.slice ta y.s.H.aQ.length tc],rv] W fun e w'=>∃ v,e = .returned v/\w'.ownsRow W5.heap.size 3 1 v (wI d 0 y).length (aS (wI d 0 y))/\aj aB W w'/\aj aB W5 w'):=fun W rv k hr=>by
    refine ((U0.out.still k).but HDK.out (Pm.out.still (k5.trans k)) hr).mono ?_
    rintro e w' ⟨v,rfl,m,hm,h1,h2⟩
    rw [WY hm] at h1
    exact ⟨v,rfl,bQ h1 k.size,h2,k.trans h2⟩
   have HK:=ay (aj.refl aB W5).drew
   have AQ:=ay nI
   clear nI k5 hX5 Pm
   go_wp2_with fail
   rw [<- AQ.out]
   go_region_held3 (fun W'=>W'.cell? ⟨w4.heap.size,0,none⟩=some (.slice aa y.s.H.aQ.length ca)/\W'.cell? ⟨w4.heap.size,1,none⟩=some (.slice ta y.s.H.aQ.length tc))
    (first
     | exact HEB.out _ HK.out
     | fail "nR")
    (first
     | (go_at_call 31
        refine (adB.out _ HK.out).mono ?_
        rintro e w9 ⟨rv,rfl,hr,k1,k2⟩
        have zh:=ay (bY zh.out k1)
        have qO:=ay hr
        have HK:=ay k2
        clear hr k1 k2)
     | (go_at_call 31
        refine (adB.out _ HK.out).mono ?_
        rintro e w9 ⟨rv,rfl,hr,k1,k2⟩
        have qO:=ay hr
        have HK:=ay k2
        clear hr k1 k2)
     | (go_at_call 29
        refine (agU.out _ _ HK.out qO.out).mono ?_
        rintro e w9 ⟨iv,rfl,hr,k1,k2⟩
        have zh:=ay hr
        have HK:=ay k2
        clear hr k1 k2)
     | (go_at_call 34
        refine (agV.out _ _ HK.out qO.out).mono ?_
        rintro e w9 ⟨bv,rfl,hr,k1,k2⟩
        have zh:=ay (bY zh.out k1)
        have agW:=ay hr
        have HK:=ay k2
        clear hr k1 k2)
     | fail "qg")
   have Xd:=ay (U0.out.still HK.out)
   have hn0:=(Xd.out.Oo HDK.out).2.1
   have hpt:=UQ (Gm d 0 y) y.s.H.aQ
   have hr9:dH o w9 3 iv (aS (rG d 0 y)):=dH.yG (by have h:=zh.out;rw [<- rF] at h;exact h) (by rw [rF];show (List.filter _ _).length<=_;omega) (fun b hb=>U0.out.cw.aC.sh.iV b hb)
   have hq9:dH o w9 3 bv (aS (wI d 0 y)):=dH.yG (by have h:=agW.out;rw [<- rF] at h;exact h) (by rw [rF];show (List.filter _ _).length<=_;omega) (fun b hb=>U0.out.cw.aC.sh.iV b hb)
   obtain ⟨ia,ic,eI,_⟩:=hr9.form
   obtain ⟨ba,bc,eB,_⟩:=hq9.form
   rw [rF] at eI eB
   subst eI eB
   have HR9:=ay hr9
   have HQ9:=ay hq9
   have zy:Hid ((rG d 0 y).length+(wI d 0 y).length=y.s.H.aQ.length/\y.s.H.aQ.length<=141):=⟨hpt,hn0⟩
   have hG:=Xd.out.cw.aC.sh.yQ.1
   have sN:Hid (∀ W,aj aB w9 W->Calls aA 26 #[au (G.D 0)] W fun e w'=>e = .returned (.agg d.qE.cells.toArray)/\aj aB W w'):=fun W k=>(Xd.out.still k).config
   clear adB agU agV HEB AQ zh agW qO HK U0 ZV hn0 hpt hr9 hq9
   go_wp2_with fail
   refine (sN.out _ (by first|exact aj.refl _ _|exact (aj.refl _ _).drew)).mono ?_
   rintro e w10 ⟨rfl,k10⟩
   have agX:Hid (aj aB w9 w10):=k10
   clear sN hG k10
   go_wp2_with fail
   refine (HDK.out.KE w10).mono ?_
   rintro e w11 ⟨rfl,k11⟩
   have hk11:=agX.out.trans k11
   have adC:Hid (dH o w11 3 (.slice ia (rG d 0 y).length ic) (aS (rG d 0 y))/\dH o w11 3 (.slice ba (wI d 0 y).length bc) (aS (wI d 0 y))):=⟨HR9.out.still hk11,HQ9.out.still hk11⟩
   have Qe:=ay ((Xd.out.still hk11).adT HDK.out (by omega))
   have adD:=ay (Xd.out.still hk11)
   clear k11 hk11 Xd HR9 HQ9 agX
   go_wp2_with fail
   refine Qe.out.mono ?_
   rintro e w12 ⟨fv,pv,o2,z,x0,out,ph,rfl,hC,hcx,hf,hp,Gn⟩
   have hr12:=hcx.row adC.out.1
   have hq12:=hcx.row adC.out.2
   have Nr:Hid (out.length=(wI d 0 y).length):=abm adD.out HDK.out Gn
   have HOJ:Hid (z.s.H.aQ=rG d 0 y):=IG Gn.left
   have HAG:Hid (∀ κ' x1 z2 out2 ph2,Es (jd d.m d.b d.ce κ' z) x1 out2 ph2 z2->out2=[]/\z2.s.H.aQ=rG d 0 y):=fun κ' x1 z2 out2 ph2 h=>Y1 Gn h
   have HIO:Hid (∀ a∈wI d 0 y,out.contains a=true):=fun a ha=>by
    have:=(Gn.dd a).2 ((UR adD.out HDK.out).1 ha)
    simpa using this
   have UW:=ay Gn.path
   obtain ⟨fa,fc,rfl,_⟩:=hf.form
   obtain ⟨pa,pc,rfl,_⟩:=hp.form
   have agY:=ay hf
   have adE:=ay hp
   have zL:=ay hC
   have adF:=ay hr12
   have agZ:=ay hq12
   have yK:Hid (∀ W,aj aB w12 W->pI W):=fun W k=>(Dx.out.still (dF.out.trans (zL.out.still k).cw.aK)).b
   have yM:Hid (∀ W,aj aB w12 W->Calls aA 23 #[au (G.D 0)] W fun e w'=>∃ (a:Option Addr) (c:Nat),e = .returned (.slice a (rG d 0 y).length c)/\Hid (gY .i64 w' a (rG d 0 y).length ((rG d 0 y).map fun x:Nat=>(x:Int)))/\aj aB W w'/\aj aB w12 w'):=fun W k=>by
    have:=Qr (zL.out.still k).cw.aC.sh.heap (yK.out W k)
    rw [HOJ.out] at this
    refine this.mono ?_
    rintro e w' ⟨a,c,rfl,h1,_,h3⟩
    exact ⟨a,c,rfl,h1,h3,k.trans h3⟩
   have PL:Hid (∀ W (a:Option Addr) (c:Nat),aj aB w12 W->gY .i64 W a (rG d 0 y).length ((rG d 0 y).map fun x:Nat=>(x:Int))->Calls aA 22 #[.slice a (rG d 0 y).length c,.slice ia (rG d 0 y).length ic] W fun e w'=>e = .returned (.bool true)/\aj aB W w'/\aj aB w12 w'):=fun W a c k h1=>by
    obtain ⟨_,_,e9,h2⟩:=UZ (adF.out.still k)
    cases e9
    refine (Ky a ia (rG d 0 y).length (rG d 0 y).length c ic _ _ W h1 h2 (by have:=zy.out;omega) (by have:=zy.out;omega)).mono ?_
    rintro e w' ⟨rfl,k2⟩
    exact ⟨by rw [beq_self_eq_true],k2,k.trans k2⟩
   have HPH:Hid (∀ W,aj aB w12 W->Calls aA 35 #[.slice pa ph.length pc] W fun e w'=>e = .returned (.bool true)/\aj aB w12 w'):=fun W k=>by
    obtain ⟨_,_,e9,h2⟩:=Gl (bY adE.out.1 k)
    cases e9
    refine (adq UW.out h2 (afd adE.out.1) (jQ.out.still (dF.out.trans (zL.out.still k).cw.aK))).mono ?_
    rintro e w' ⟨rfl,k2⟩
    exact ⟨rfl,k.trans k2⟩
   have HPS:Hid (∀ W,aj aB w12 W->Calls aA 17 #[au q.C] W fun e w'=>e = .returned (ah 0)/\W=w'):=fun W k=>by
    have:=wR (zL.out.still k).cw.aC
    rw [zL.out.mF.ph] at this
    exact this
   have HBS:Hid (∀ W,aj aB w12 W->Calls aA 20 #[au q.C] W fun e w'=>e = .returned (.bool false)/\W=w'):=fun W k=>by
    have:=aaz (zL.out.still k).cw.aC
    rw [zL.out.mF.nx] at this
    exact this
   have HCS:Hid (∀ W,aj aB w12 W->Calls aA 19 #[au q.C] W fun e w'=>e = .returned (ah 1)/\W=w'):=fun W k=>by
    have:=VD (zL.out.still k).cw.aC
    rw [zL.out.nH] at this
    exact this
   have Xe:Hid (∀ W,aj aB w12 W->W.cell? ⟨G.S,0,none⟩=some (au (G.D 0))):=fun W k=>(zL.out.still k).cw.aC.sh.yQ.1
   have hG:=Xe.out w12 (aj.refl _ _)
   obtain ⟨n2,hn2⟩:∃ n2,n2=(wI d 0 y).length:=⟨_,rfl⟩
   have hfl:=Nr.out
   have G7:=ay hn2
   have hsum:IntKind.i64.wrap (((rG d 0 y).length:Int)+(n2:Int))=(y.s.H.aQ.length:Int):=by
    have:=zy.out
    rw [IntWalk.i64_in _ (by omega)];omega
   have ajc:(n2:Int)<=141:=by have:=zy.out;omega
   rw [<- hn2] at hfl ⊢
   rw [hfl]
   clear Qe adC adD hC hcx hf hp Gn hr12 hq12 hn2 hfl
   go_wp2_with fail
   refine (yM.out w12 (aj.refl _ _)).mono ?_
   rintro e w13 ⟨a13,c13,rfl,h13,_,k13⟩
   have aha:=ay (PL.out w13 a13 c13 k13 h13.out)
   clear hG h13 k13
   go_wp2_with fail
   refine aha.out.mono ?_
   rintro e w14 ⟨rfl,_,k14⟩
   have ahb:=ay (HPH.out w14 k14)
   clear aha k14 HPH
   go_wp2_with fail
   refine ahb.out.mono ?_
   rintro e w15 ⟨rfl,k15⟩
   have U1:=ay k15
   clear ahb k15
   go_wp2_with fail
   refine (HPS.out w15 U1.out).mono ?_
   rintro e w16 ⟨rfl,rfl⟩
   clear HPS
   go_wp2_with fail
   refine (HBS.out w15 U1.out).mono ?_
   rintro e w16 ⟨rfl,rfl⟩
   clear HBS
   go_wp2_with fail
   refine (HCS.out w15 U1.out).mono ?_
   rintro e w16 ⟨rfl,rfl⟩
   clear HCS
   go_wp2_with fail
   have zh:Hid (∀ W i,aj aB w12 W->i<n2->∃ b off,ba=some ⟨b,off,none⟩/\W.cell? ⟨b,off+i,none⟩=some (ah (((wI d 0 y).getD i 0:Nat):Int))/\Calls aA 36 #[.slice fa n2 fc,ah (((wI d 0 y).getD i 0:Nat):Int)] W fun e w'=>e = .returned (.bool true)/\W=w'):=fun W i k hi=>by
    have hi':i<(wI d 0 y).length:=by rw [<- G7.out];exact hi
    obtain ⟨a',c',e9,_,_,hform⟩:=(agZ.out.still k).form
    rw [rF,<- G7.out] at e9
    cases e9
    obtain ⟨b,off,e8,hcc⟩:=hform i _ (qG hi')
    refine ⟨b,off,e8,hcc,?_⟩
    obtain ⟨_,_,e7,h2⟩:=Gl (bY agY.out.1 k)
    cases e7
    have hfl:out.length=n2:=by rw [G7.out];exact Nr.out
    rw [hfl] at h2
    refine (Zb fa n2 fc _ _ W h2 (by omega)).mono ?_
    rintro e w' ⟨rfl,rfl⟩
    refine ⟨?_,rfl⟩
    rw [WX,HIO.out _ (by rw [ajg,ajh hi'];exact List.getElem_mem _)]
   clear HIO agY adE Nr UW hsum zy
   go_loopw [14] (fun iv wr=>∃ i:Nat,i<=n2/\iv = ah i/\aj aB w12 wr) (fun iv _=>n2 - (intOf iv).toNat)
   case atStart=>exact ⟨0,aki _,rfl,U1.out⟩
   case round =>
    obtain ⟨i,hi,rfl,hk⟩:=hrel
    have HK:=ay hk
    by_cases hlt:i<n2
    ·have lJ:(i:Int)<(n2:Int):=by omega
     have hi0:(0:Int)<=(i:Int):=by omega
     obtain ⟨b,off,rfl,hcc,hin⟩:=zh.out wr i hk hlt
     have HI:=ay hin
     have ny:=ay hlt
     generalize (wI d 0 y).getD i 0=u at *
     clear hk hi hlt hin
     go_wp2_with fail
     refine HI.out.mono ?_
     rintro e w17 ⟨rfl,rfl⟩
     clear HI
     go_wp2_with fail
     exact ⟨⟨i+1,ny.out,by go_num,HK.out⟩,by have:=ny.out;simp [intOf];omega⟩
    ·obtain rfl:i=n2:=by omega
     have lJ:¬ (i:Int)<(i:Int):=by omega
     have Qe:=ay ((zL.out.still hk).adT HDK.out (by omega))
     have aiA:=ay (zL.out.still hk)
     have hr16:=adF.out.still hk
     have ahc:=ay hr16
     clear hk hi hlt hr16 zh yM PL zL adF agZ Xe yK U1
     go_wp2_with fail
     refine Qe.out.mono ?_
     rintro e w17 ⟨fv2,pv2,o3,z2,x2,out2,ph2,rfl,hC,hcx,hf,hp,Gn⟩
     obtain ⟨rfl,hoj⟩:=HAG.out _ _ _ _ _ Gn
     obtain ⟨fa2,fc2,rfl,_⟩:=hf.form
     have ahd:=ay (hcx.row ahc.out)
     have U2:=ay hC
     have aiB:=ay hoj
     have yK:Hid (∀ W,aj aB w17 W->pI W):=fun W k=>(Dx.out.still (dF.out.trans (U2.out.still k).cw.aK)).b
     have Xe:Hid (∀ W,aj aB w17 W->W.cell? ⟨G.S,0,none⟩=some (au (G.D 0))):=fun W k=>(U2.out.still k).cw.aC.sh.yQ.1
     have hG:=Xe.out w17 (aj.refl _ _)
     have yM:Hid (Calls aA 23 #[au (G.D 0)] w17 fun e w'=>∃ (a:Option Addr) (c:Nat),e = .returned (.slice a (rG d 0 y).length c)/\gY .i64 w' a (rG d 0 y).length ((rG d 0 y).map fun x:Nat=>(x:Int))/\aj aB w17 w'):=by
      have:=Qr U2.out.cw.aC.sh.heap (yK.out w17 (aj.refl _ _))
      rw [aiB.out] at this
      refine this.mono ?_
      rintro e w' ⟨a,c,rfl,h1,_,h3⟩
      exact ⟨a,c,rfl,h1,h3⟩
     have HL9:Hid ((rG d 0 y).length<=9223372036854775807):=by
      obtain ⟨_,_,_,h2,h3,_⟩:=ahd.out.form
      rw [rF] at h2 h3
      show _<=_;omega
     clear Qe hC hcx hf hp Gn hoj HAG aiA ahc
     rw [List.length_nil]
     go_wp2_with fail
     refine yM.out.mono ?_
     rintro e w18 ⟨a18,c18,rfl,h18,k18⟩
     have ahe:Hid (Calls aA 22 #[.slice a18 (rG d 0 y).length c18,.slice ia (rG d 0 y).length ic] w18 fun e w'=>e = .returned (.bool true)/\aj aB w17 w'):=by
      obtain ⟨_,_,e9,h2⟩:=UZ (ahd.out.still k18)
      cases e9
      refine (Ky a18 ia (rG d 0 y).length (rG d 0 y).length c18 ic _ _ w18 h18 h2 HL9.out HL9.out).mono ?_
      rintro e w' ⟨rfl,k2⟩
      exact ⟨by rw [beq_self_eq_true],k18.trans k2⟩
     clear yM h18 k18 hG
     go_wp2_with fail
     refine ahe.out.mono ?_
     rintro e w19 ⟨rfl,k19⟩
     have hG:=Xe.out w19 k19
     have ahf:=ay (Y9 (U2.out.still k19).cw.aC.sh.heap (yK.out w19 k19))
     have Xb:Hid (∀ W,aj (only (G.D 1)) w19 W->aj aB w W):=fun W k=>by
      have hc:=U2.out.still k19
      have hd:w2.heap.size<=G.D 1:=by
       rcases Nat.lt_or_ge (G.D 1) w2.heap.size with g|g
       ·have h1:=hc.cw.aC.sh.oD 1 (by decide)
        rcases hc.cw.yI _ g with h2|h2<;>rw [h1] at h2<;>cases h2
       ·exact g
      exact dF.out.trans (hc.cw.aK.QJ k hd)
     clear ahe k19 Xe yK
     go_wp2_with fail
     refine ahf.out.mono ?_
     rintro e w20 ⟨rfl,k20⟩
     have Zy:=ay (Xb.out _ k20)
     clear ahf k20 Xb
     go_wp2_with fail
     go_ret
     exact ⟨rfl,Zy.out⟩
end
end Go.Proofs.YtanfphjoebobaaaGreatDoor
