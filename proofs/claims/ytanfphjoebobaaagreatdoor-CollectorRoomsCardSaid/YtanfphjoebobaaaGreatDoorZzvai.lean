/- Parts of the walk. No conditions. -/
import Derived.Test.YtanfphjoebobaaaGreatDoorZzvah
namespace Go.Proofs.YtanfphjoebobaaaGreatDoor
open _root_.Go.Proofs.Tryz hiding prog
open _root_.Go.Proofs.Tryz renaming prog->ay
set_option maxRecDepth 100000
set_option maxHeartbeats 16000000
section
attribute [local go_sem] Oper.semAt_some
open Go.RowKit
section
variable {w w' W W':World} {D:Nat->Nat} {H:HS}
theorem Ju (h:aF w D H) (hT:l7 w):Calls ay 23 #[aj (D 0)] w fun e w'=>∃ (a:Option Addr) (c:Nat),e = .returned (.slice a H.objs.length c)/\fH .i64 w' a H.objs.length (H.objs.map fun x:Nat=>(x:Int))/\H.objs.length<=1048577/\Keep none_ w w':=by
 refine (wO h hT).mono ?_
 rintro e w' ⟨v,rfl,ho,k⟩
 have e:aK H.objs=(H.objs.map fun x:Nat=>(x:Int)).map (Value.int .i64):=by simp [aK]
 rw [e] at ho
 obtain ⟨a,c,rfl,hi,_⟩:=fH.EF ho
 refine ⟨a,c,rfl,hi,?_,k⟩
 have h1:=Ee H.bn H.sz
 have h2:=h.inv.nle
 unfold HS.objs
 unfold HS.sz at h1 ⊢
 omega
theorem BN (x:mM) (a1 a2 a3 a4:Option Addr) (n1 n2 n3 n4 p1 p2 p3 p4:Nat) (cs:List Value) (w:World) (h:zK w x a1 a2 a3 a4 n1 n2 n3 n4) (hcs:je [.int .u8,.int .u8] cs) (hL:laidMetH ay Rows.collectorRoomsRow.laid w) :
 Calls ay 5 #[pR x.c a1 a2 a3 a4 n1 n2 n3 n4 p1 p2 p3 p4,.agg cs.toArray] w fun e w'=>e = .returned (.bool true)/\Keep none_ w w':=by
 have hL' : laidMetH ay [("math/bits.deBruijn64tab", Rows.laid_math_bits_deBruijn64tab), ("dustpan/config.limits", Rows.laid_dustpan_config_limits), ("dustpan/class.sizes", Rows.laid_dustpan_class_sizes), ("dustpan/op.kinds", Rows.laid_dustpan_op_kinds)] w := hL
 rw [MakeChecks.laidMetH_plain _ _ _ (by kernel_rfl)] at hL'
 have rZ:=au (Qa hL')
 clear hL hL'
 obtain ⟨r0,r1,rfl,hr0,hr1⟩:=hcs.two
 have hc0:=bounds_u8 hr0
 have hc1:=bounds_u8 hr1
 obtain ⟨d,d2,hd,hdk,hd2,hdk2,dm,db,dc⟩:=Zj x r0 r1
 have HDM:=au (And.intro dm (And.intro db dc))
 have HDK:=au hdk
 have aaX:=au hdk2
 have HD1:=au hd
 have HD2:=au hd2
 clear hcs hr0 hr1 dm db dc hdk hdk2 hd hd2
 obtain ⟨X,hX⟩:∃ X,X=w.heap.size:=⟨_,rfl⟩
 obtain ⟨W0,hW0⟩:∃ W0,W0=(w.alloc (.cells #[ah x.c.b,ah x.c.w,ah x.c.m,ah x.c.r,ah x.c.c,ah x.c.l,ah x.c.s,.slice a1 n1 p1,.slice a2 n2 p2,.slice a3 n3 p3,.slice a4 n4 p4] 26)).alloc (.cells #[.int .u8 r0,.int .u8 r1] 60):=⟨_,rfl⟩
 have k0:Keep none_ w W0:=by rw [hW0];exact ((Keep.refl _ _).alloc _).alloc _
 have hb0:aA W0 w.heap.size [ah x.c.b,ah x.c.w,ah x.c.m,ah x.c.r,ah x.c.c,ah x.c.l,ah x.c.s,.slice a1 n1 p1,.slice a2 n2 p2,.slice a3 n3 p3,.slice a4 n4 p4] 26:=by rw [hW0];exact (aA.new w _ _).alloc _
 have hq0:aA W0 (w.heap.size+1) [.int .u8 r0,.int .u8 r1] 60:=by
  rw [hW0]
  have:=aA.new (w.alloc (.cells #[ah x.c.b,ah x.c.w,ah x.c.m,ah x.c.r,ah x.c.c,ah x.c.l,ah x.c.s,.slice a1 n1 p1,.slice a2 n2 p2,.slice a3 n3 p3,.slice a4 n4 p4] 26)) [.int .u8 r0,.int .u8 r1] 60
  simpa using this
 have HW0:=au hW0
 have dY:=au k0
 have HB0:=au hb0
 have HQ0:=au hq0
 have HST:=au h
 clear hW0 k0 hb0 hq0 h hX X
 go_enter func5,ntmps5
 go_wp2_with fail
 rw [<- HW0.out]
 refine (Jo x.c a1 a2 a3 a4 n1 n2 n3 n4 p1 p2 p3 p4 W0).mono ?_
 rintro e w1 ⟨rfl,k1⟩
 have aJ:Hid (Keep none_ w w1):=dY.out.trans k1
 have HB1:=au (k1.blk HB0.out (fun f=>f))
 have HQ1:=au (k1.blk HQ0.out (fun f=>f))
 clear k1 dY HB0 HQ0 HW0
 have Gh:Hid (Calls ay 10 #[] w1 fun e w'=>e = .returned (.bool true)/\Keep none_ w1 w'):=DF (rZ.out.still aJ.out)
 cases hg:yJ n1 n2 n3 n4 with
 | true =>
   go_wp2_with fail
   refine Gh.out.mono ?_
   rintro e w2 ⟨rfl,k2⟩
   have bP:Hid (Keep none_ w w2):=aJ.out.trans k2
   clear k2 Gh
   go_wp2_with fail
   go_ret
   exact ⟨rfl,bP.out⟩
 | false =>
   obtain ⟨m1,m2,m3,m4⟩:=Jm hg
   clear hg
   go_wp2_with fail
   refine Gh.out.mono ?_
   rintro e w2 ⟨rfl,k2⟩
   have bP:Hid (Keep none_ w w2):=aJ.out.trans k2
   have hb2:=k2.blk HB1.out (fun f=>f)
   have hq2:=k2.blk HQ1.out (fun f=>f)
   have q0:=hq2.cell 0 rfl
   have f6:=hb2.free 6
   have zf:=hb2.cell 6 rfl
   obtain ⟨V3,NW⟩:∃ V3,V3=w2.setCell ⟨w.heap.size,6,none⟩ (ah r0):=⟨_,rfl⟩
   have hk3:Keep none_ w V3:=by rw [NW];exact bP.out.dS (Nat.le_refl _) _ _
   have hsz3:V3.heap.size=w2.heap.size:=by rw [NW];simp
   have hb3:aA V3 w.heap.size [ah x.c.b,ah x.c.w,ah x.c.m,ah x.c.r,ah x.c.c,ah x.c.l,ah r0,.slice a1 n1 p1,.slice a2 n2 p2,.slice a3 n3 p3,.slice a4 n4 p4] 26:=by rw [NW];exact hb2.set 6 _
   have hq3:aA V3 (w.heap.size+1) [.int .u8 r0,.int .u8 r1] 60:=by rw [NW];exact hq2.other (by simp) _
   have z0:=hb3.cell 0 rfl;have z1:=hb3.cell 1 rfl;have z2:=hb3.cell 2 rfl;have z3:=hb3.cell 3 rfl;have z4:=hb3.cell 4 rfl;have z5:=hb3.cell 5 rfl;have z6:=hb3.cell 6 rfl;have z7:=hb3.cell 7 rfl;have z8:=hb3.cell 8 rfl;have z9:=hb3.cell 9 rfl;have z10:=hb3.cell 10 rfl
   have hrl:x.rg.length<=20:=by have:=HST.out.r.len;omega
   have HRL:=au hrl
   have hlt3:w.heap.size<V3.heap.size:=hb3.lt
   have DC:Hid (Calls ay 11 #[pR (x.room r0).c a1 a2 a3 a4 n1 n2 n3 n4 p1 p2 p3 p4] V3 (rV (fun b=>if b=w.heap.size then 49 else 0) V3 (x.room r0))):=by
    have hg:=rZ.out.g
    refine Ep (x:=x.room r0) (fun b=>if b=w.heap.size then 49 else 0) (fun b=>?_) ⟨if_neg (by omega),if_neg (by omega),if_neg (by omega)⟩ (rZ.out.still hk3) ⟨(HST.out.still hk3).s,(HST.out.still hk3).f,(HST.out.still hk3).c,(HST.out.still hk3).r⟩ m1 m2 m3 m4
    split
    ·exact .inr rfl
    ·exact .inl rfl
   have gI:=au hk3
   have HB3:=au hb3
   have HQ3:=au hq3
   have Vl:=au NW
   have aaY:=au hlt3
   have HM:=au (And.intro m1 (And.intro m2 (And.intro m3 m4)))
   rw [NW] at z0 z1 z2 z3 z4 z5 z6 z7 z8 z9 z10
   clear k2 Gh hb2 hq2 HB1 HQ1 aJ bP hk3 hsz3 hb3 hq3 hrl hlt3 NW m1 m2 m3 m4
   go_wp2_with fail
   rw [<- Vl.out]
   clear z0 z1 z2 z3 z4 z5 z6 z7 z8 z9 z10 q0 f6 zf
   refine DC.out.mono ?_
   intro e2 w4 hm
   obtain ⟨o1,G1,q1,gs1,ma1,mc1,rv1,rfl,hz1,hI1,hC1⟩:=hm.get HRL.out
   have hc1':=(hC1 d HD1.out).base gI.out
   have hoX:o1 w.heap.size=49:=(hz1.ex _ aaY.out).trans (if_pos rfl)
   have hb4:=hz1.keep.blk HB3.out (fun f=>f)
   have hq4:=hz1.keep.blk HQ3.out (fun f=>f)
   have hk4:Keep none_ w w4:=gI.out.trans hz1.keep
   have q0:=hq4.cell 1 rfl
   have f6:=hb4.free 6
   have zf:=hb4.cell 6 rfl
   obtain ⟨V5,Qd⟩:∃ V5,V5=w4.setCell ⟨w.heap.size,6,none⟩ (ah r1):=⟨_,rfl⟩
   have hk5:Keep none_ w V5:=by rw [Qd];exact hk4.dS (Nat.le_refl _) _ _
   have hb5:aA V5 w.heap.size [ah x.c.b,ah x.c.w,ah x.c.m,ah x.c.r,ah x.c.c,ah x.c.l,ah r1,.slice a1 n1 p1,.slice a2 n2 p2,.slice a3 n3 p3,.slice a4 n4 p4] 26:=by rw [Qd];exact hb4.set 6 _
   have z0:=hb5.cell 0 rfl;have z1:=hb5.cell 1 rfl;have z2:=hb5.cell 2 rfl;have z3:=hb5.cell 3 rfl;have z4:=hb5.cell 4 rfl;have z5:=hb5.cell 5 rfl;have z6:=hb5.cell 6 rfl;have z7:=hb5.cell 7 rfl;have z8:=hb5.cell 8 rfl;have z9:=hb5.cell 9 rfl;have z10:=hb5.cell 10 rfl
   have hk45:Keep (In o1 [49]) w4 V5:=by rw [Qd];exact ((Keep.refl (only w.heap.size) w4).put 6 _).qg hoX rfl
   have hc1:=hc1'.moveF hk45 hk5
   have aaZ:Hid (Calls ay 11 #[pR (x.room r1).c a1 a2 a3 a4 n1 n2 n3 n4 p1 p2 p3 p4] V5 (rV (fun b=>if o1 b=0 then 0 else 49) V5 (x.room r1))):=by
    have hg:=hz1.coll.sh.qw
    refine Ep (x:=x.room r1) (fun b=>if o1 b=0 then 0 else 49) (fun b=>?_) ⟨if_pos hg.1,if_pos hg.2.1,if_pos hg.2.2⟩ (rZ.out.still hk5) ⟨(HST.out.still hk5).s,(HST.out.still hk5).f,(HST.out.still hk5).c,(HST.out.still hk5).r⟩ HM.out.1 HM.out.2.1 HM.out.2.2.1 HM.out.2.2.2
    split
    ·exact .inl rfl
    ·exact .inr rfl
   have uJ:=au hc1
   have HI1:=au hI1
   have LK:=au hk5
   have HV5:=au Qd
   rw [Qd] at z0 z1 z2 z3 z4 z5 z6 z7 z8 z9 z10
   clear hm DC hz1 hI1 hC1 hc1' hoX hb4 hq4 hk4 hk5 hb5 hk45 hc1 Qd gI HB3 HQ3 Vl aaY HM
   go_wp2_with fail
   rw [<- HV5.out]
   clear z0 z1 z2 z3 z4 z5 z6 z7 z8 z9 z10 q0 f6 zf
   refine aaZ.out.mono ?_
   intro e2 w6 hm
   obtain ⟨o2,G2,q2,gs2,ma2,mc2,rv2,rfl,hz2,hI2,hC2⟩:=hm.get HRL.out
   obtain ⟨o1',hc1,ha,hb⟩:=XJ (o0:=fun b=>if o1 b=0 then 0 else 49) uJ.out (fun _=>rfl) ((hC2 d2 HD2.out).base LK.out) hz2.keep hz2.ex
   obtain ⟨hmH,hmR⟩:=VG x r0 r1 HRL.out HI1.out hI2
   have Yt:Hid (∀ x0 y0 u1 u2 v1 v2 z z',xU (eY d.m d.b d.ce 0 (bJ (x.room r0))) x0 u1 v1 z->xU (eY d2.m d2.b d2.ce 0 (bJ (x.room r1))) y0 u2 v2 z'->z'.s.H.objs=z.s.H.objs):=fun x0 y0 u1 u2 v1 v2 z z' h1 h2=>by
    rw [HDM.out.1,HDM.out.2.1,HDM.out.2.2] at h2
    exact VF h1 h2 hmH hmR
   have uU:Hid (CI d w w6 o1' G1 gs1 q1 (.slice ma1 gs1.length mc1) 300 (bJ (x.room r0)) 0 0/\CI d2 w w6 o2 G2 gs2 q2 (.slice ma2 gs2.length mc2) 300 (bJ (x.room r1)) 0 0/\Apart w6 o1' o2/\Apart w6 o2 o1'):=⟨hc1,(hC2 d2 HD2.out).base LK.out,ha,hb⟩
   clear hm aaZ hz2 hI2 hC2 hc1 ha hb hmH hmR uJ HI1 LK HV5
   generalize bJ (x.room r0)=y1 at *
   generalize bJ (x.room r1)=y2 at *
   have rD:Hid (∀ W,Keep none_ w6 W->Calls ay 26 #[aj (G1.D 0)] W fun e w'=>e = .returned (.agg d.conf.cells.toArray)/\Keep none_ W w'):=fun W k=>(uU.out.1.still k).config
   have hG:=uU.out.1.cw.coll.sh.qG.1
   go_wp2_with fail
   refine (rD.out _ (by first|exact Keep.refl _ _|exact (Keep.refl _ _).drew)).mono ?_
   rintro e w7 ⟨rfl,k7⟩
   have Yp:Hid (Keep none_ w6 w7):=k7
   clear rD hG k7
   go_wp2_with fail
   refine (HDK.out.bound w7).mono ?_
   rintro e w8 ⟨rfl,k8⟩
   have HK8:Hid (Keep none_ w6 w8):=Yp.out.trans k8
   have VH:=CI.aaW (uU.out.1.still HK8.out) (uU.out.2.1.still HK8.out) (uU.out.2.2.1.later uU.out.1.cw.coll.sh.dU) (uU.out.2.2.2.later uU.out.2.1.cw.coll.sh.dU) HDK.out (by omega)
   have Jl:=au VH
   clear Yp k8 HK8 uU VH
   go_wp2_with fail
   refine Jl.out.mono ?_
   rintro e w9 ⟨fv,pv,o3,z,x0,out,ph,rfl,hc1,hc2,hb,abb⟩
   have VI:Hid (∀ y0 u2 v2 z',xU (eY d2.m d2.b d2.ce 0 y2) y0 u2 v2 z'->z'.s.H.objs=z.s.H.objs):=fun y0 u2 v2 z' h2=>Yt.out _ _ _ _ _ _ _ _ abb h2
   have uU:=au (And.intro hc1 (And.intro hc2 hb))
   have hG:=hc2.cw.coll.sh.qG.1
   have rD:Hid (∀ W,Keep none_ w9 W->Calls ay 26 #[aj (G2.D 0)] W fun e w'=>e = .returned (.agg d2.conf.cells.toArray)/\Keep none_ W w'):=fun W k=>(uU.out.2.1.still k).config
   clear Jl Yt hc1 hc2 hb abb
   go_wp2_with fail
   refine (rD.out _ (by first|exact Keep.refl _ _|exact (Keep.refl _ _).drew)).mono ?_
   rintro e w10 ⟨rfl,k10⟩
   have abd:Hid (Keep none_ w9 w10):=k10
   clear rD hG k10
   go_wp2_with fail
   refine (aaX.out.bound w10).mono ?_
   rintro e w11 ⟨rfl,k11⟩
   have XL:Hid (Keep none_ w9 w11):=abd.out.trans k11
   have VH:Calls ay 27 #[aj q2.C,.slice ma2 gs2.length mc2,ah (d2.most:Int)] w11 fun e W'=>∃ (fv pv:Value) (o':Ow) (z':WS),e = .returned (.tuple #[fv,pv,.bool true])/\CI d2 w W' o' G2 gs2 q2 (.slice ma2 gs2.length mc2) (300+9000001) z' (1 - 0) (0+1)/\CI d w W' o3 G1 gs1 q1 (.slice ma1 gs1.length mc1) (300+9000001) z (1 - 0) (0+1)/\z'.s.H.objs=z.s.H.objs:=by
    have hc1:=uU.out.1.still XL.out
    have hc2:=uU.out.2.1.still XL.out
    have hb:=uU.out.2.2.later (W':=w11) uU.out.2.1.cw.coll.sh.dU
    refine (hc2.cycle aaX.out (by omega)).mono ?_
    rintro e W' ⟨fv,pv,o',z',x1,out',kT,rfl,h1,h2,_,_,h5⟩
    have k:Keep (In o3 [49]) w11 W':=h2.k.toO (fun b hb' hi=>by rw [hb b hb' hi];decide)
    exact ⟨fv,pv,o',z',rfl,h1,hc1.moveF k h1.cw.keep,VI.out _ _ _ _ h5⟩
   have Jl:=au VH
   clear abd k11 XL uU VH VI
   go_wp2_with fail
   refine Jl.out.mono ?_
   rintro e w12 ⟨fv2,pv2,o4,z',rfl,hc2,hc1,abe⟩
   have hKW:Keep none_ w w12:=hc1.cw.keep
   have yB:Hid (∀ (D:Nat) W,Keep none_ w12 W->(D=G1.D 0\/D=G2.D 0)->Calls ay 23 #[aj D] W fun e w'=>∃ (a:Option Addr) (c:Nat),e = .returned (.slice a z.s.H.objs.length c)/\fH .i64 w' a z.s.H.objs.length (z.s.H.objs.map fun x:Nat=>(x:Int))/\z.s.H.objs.length<=1048577/\Keep none_ W w'):=fun D W k hD=>by
    have hT:l7 W:=(rZ.out.still (hKW.trans k)).b
    rcases hD with rfl|rfl
    ·exact Ju (hc1.cw.coll.sh.heap.still k) hT
    ·have:=Ju (hc2.cw.coll.sh.heap.still k) hT
     rw [abe] at this
     exact this
   have HG:Hid (∀ W,Keep none_ w12 W->W.cell? ⟨G1.S,0,none⟩=some (aj (G1.D 0))/\W.cell? ⟨G2.S,0,none⟩=some (aj (G2.D 0))):=fun W k=>⟨k.still hc1.cw.coll.sh.qG.1,k.still hc2.cw.coll.sh.qG.1⟩
   have LM:=au hKW
   have HK:=au (Keep.refl none_ w12).drew
   generalize z.s.H.objs=l at *
   have Du:Hid (∀ W (a a':Option Addr) (c c':Nat),fH .i64 W a l.length (l.map fun x:Nat=>(x:Int))->fH .i64 W a' l.length (l.map fun x:Nat=>(x:Int))->l.length<=1048577->Calls ay 22 #[.slice a l.length c,.slice a' l.length c'] W fun e w'=>e = .returned (.bool true)/\Keep none_ W w'):=fun W a a' c c' h1 h2 hl=>by
    refine (Ew a a' l.length l.length c c' _ _ W h1 h2 (by omega) (by omega)).mono ?_
    rintro e w' ⟨rfl,k⟩
    exact ⟨by rw [beq_self_eq_true],k⟩
   generalize l.length=L at *
   generalize (l.map fun x:Nat=>(x:Int))=zs at *
   clear hc2 hc1 abe hKW Jl
   go_wp2_with fail
   go_region_held3 (fun W'=>W'.cell? ⟨G1.S,0,none⟩=some (aj (G1.D 0))/\W'.cell? ⟨G2.S,0,none⟩=some (aj (G2.D 0)))
    (first
     | exact HG.out _ HK.out
     | fail "jB")
    (first
     | (go_at_call 23
        refine (yB.out _ _ HK.out (by first|exact Or.inl rfl|exact Or.inr rfl)).mono ?_
        rintro e w13 ⟨a13,c13,rfl,hi,hl,k13⟩
        have HJ:=au (HI.out.below k13)
        have HI:=au hi
        have HK:=au (HK.out.trans k13)
        have HL:=au hl
        clear hi k13 hl)
     | (go_at_call 23
        refine (yB.out _ _ HK.out (by first|exact Or.inl rfl|exact Or.inr rfl)).mono ?_
        rintro e w13 ⟨a13,c13,rfl,hi,hl,k13⟩
        have HI:=au hi
        have HK:=au (HK.out.trans k13)
        have HL:=au hl
        clear hi k13 hl)
     | (go_at_call 22
        refine (Du.out _ _ _ _ _ (by first|exact HI.out|exact HJ.out) (by first|exact HI.out|exact HJ.out) HL.out).mono ?_
        rintro e w14 ⟨rfl,k14⟩
        have HK:=au (HK.out.trans k14)
        clear k14)
     | fail "kG")
   all_goals
    go_wp2_with fail
    go_ret
    exact ⟨rfl,LM.out.trans HK.out⟩
end
end
end Go.Proofs.YtanfphjoebobaaaGreatDoor
