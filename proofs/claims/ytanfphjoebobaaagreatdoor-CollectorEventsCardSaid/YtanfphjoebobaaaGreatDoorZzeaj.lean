/- Parts of the walk. No conditions. -/
import Derived.Test.YtanfphjoebobaaaGreatDoorZzeai
namespace Go.Proofs.YtanfphjoebobaaaGreatDoor
open _root_.Go.Proofs.Tryz hiding prog
open _root_.Go.Proofs.Tryz renaming prog->ay
set_option maxRecDepth 100000
set_option maxHeartbeats 32000000
section
attribute [local go_sem] Oper.semAt_some
open Go.RowKit
section
variable {o o' o0:Ow} {w w' W W' W0:World} {G:Geo} {gs:List MG} {q:CG} {x y:WS} {v mv:Value} {N i n κ K:Nat} {l:List Nat} {d:Dm}
structure EvW (d:Dm) (w W0:World) (o0:Ow) (G:Geo) (gs:List MG) (q:CG) (mv:Value) (N:Nat) (W:World) (o:Ow) (z:WS):Prop where
 s:iF w W0 o0 G gs q mv N W o z (.slice none 0 0) (.slice none 0 0) [] []
 l:z.muts.length=d.m
theorem EvW.still (h:EvW d w W0 o0 G gs q mv N W o x) (k:Keep none_ W W'):EvW d w W0 o0 G gs q mv N W' o x:=⟨h.s.still k,h.l⟩
theorem acs {ma:Option Addr} {mc:Nat} (h:EvW d w W0 o0 G gs q (.slice ma gs.length mc) N W o (aO i x)) (hN:N<=1000000000) (hg:gs.length=d.m) (hi:i<d.m):∃ b g0,ma=some ⟨b,0,none⟩/\W.cell? ⟨b,i,none⟩=some (aj g0)/\Calls ay 24 #[aj g0] W fun e W'=>(∃ v1 v2,e = .returned (.tuple #[v1,v2]))/\∃ o',EvW d w W0 o0 G gs q (.slice ma gs.length mc) (N+1) W' o' (aO (i+1) x):=by
 obtain ⟨g0,hg0⟩:∃ g,gs[i]?=some g:=⟨gs[i]'(by omega),List.getElem?_eq_getElem _⟩
 obtain ⟨m0,hm0⟩:∃ m,(aO i x).muts[i]?=some m:=⟨(aO i x).muts[i]'(by rw [h.l];omega),List.getElem?_eq_getElem _⟩
 obtain ⟨a',c',e2,hform⟩:=h.s.mv.form
 cases e2
 obtain ⟨bA,e3,hcA⟩:=hform i g0 hg0
 refine ⟨bA,g0.M,e3,hcA,(h.s.pick hN hg0 hm0).mono ?_⟩
 rintro e W' ⟨hv,o',hs⟩
 exact ⟨hv,o',hs,(GK _ _).trans h.l⟩
theorem acu (h:EvW d w W0 o0 G gs q mv N W o (aO d.m x)) (hN:N<=1000000000):Calls ay 12 #[aj q.C] W fun e W'=>e = .returned (.tuple #[kX (iD d.m x),jq (iD d.m x)])/\∃ o',EvW d w W0 o0 G gs q mv (N+1) W' o' (aZ d.m x):=by
 have h1:=h.s.coll hN
 rw [h.l] at h1
 refine h1.mono ?_
 rintro e W' ⟨e1,o',h2⟩
 exact ⟨e1,o',h2,(GK _ _).trans h.l⟩
theorem WY {H:HS} {a κ:Nat} (h:H.co a=(κ==1)) (hk:κ<2):H.dW a=κ:=by
 unfold HS.dW
 rw [h]
 rcases (by omega:κ=0\/κ=1) with rfl|rfl<;>rfl
theorem Am (x:qI) (a1 a2 a3 a4:Option Addr) (n1 n2 n3 n4 p1 p2 p3 p4:Nat) (k:Int) (w:World) (h:BU w x a1 a2 a3 a4 n1 n2 n3 n4) (hk:(Lit.int .u8 k).wf=true) (hL:laidMetH ay Rows.collectorEventsRow.laid w) :
 Calls ay 7 #[uI x.c a1 a2 a3 a4 n1 n2 n3 n4 p1 p2 p3 p4,.int .u8 k] w fun e w'=>e = .returned (.bool true)/\Keep none_ w w':=by
 have hL' : laidMetH ay [("math/bits.deBruijn64tab", Rows.laid_math_bits_deBruijn64tab), ("dustpan/config.limits", Rows.laid_dustpan_config_limits), ("dustpan/class.sizes", Rows.laid_dustpan_class_sizes), ("dustpan/phase.known", Rows.laid_dustpan_phase_known), ("dustpan/op.kinds", Rows.laid_dustpan_op_kinds)] w := hL
 rw [MakeChecks.laidMetH_plain _ _ _ (by kernel_rfl)] at hL'
 obtain ⟨hla,hkn⟩:=YK hL'
 have Ad:=au hla
 have gU:=au hkn
 clear hL hL' hla hkn
 obtain ⟨kk,rfl,hkk⟩:∃ m:Nat,k=(m:Int)/\m<=255:=by
  simp [Lit.wf] at hk
  have h1:IntKind.u8.min=0:=by decide
  have h2:IntKind.u8.max=255:=by decide
  exact ⟨k.toNat,by omega,by omega⟩
 clear hk
 obtain ⟨W0,hW0⟩:∃ W0,W0=w.alloc (.cells #[ah x.c.b,ah x.c.w,ah x.c.m,ah x.c.r,ah x.c.c,ah x.c.l,ah x.c.s,.slice a1 n1 p1,.slice a2 n2 p2,.slice a3 n3 p3,.slice a4 n4 p4] 26):=⟨_,rfl⟩
 have k0:Keep none_ w W0:=by rw [hW0];exact (Keep.refl _ _).alloc _
 have hb0:aA W0 w.heap.size [ah x.c.b,ah x.c.w,ah x.c.m,ah x.c.r,ah x.c.c,ah x.c.l,ah x.c.s,.slice a1 n1 p1,.slice a2 n2 p2,.slice a3 n3 p3,.slice a4 n4 p4] 26:=by rw [hW0];exact aA.new w _ _
 have HW0:=au hW0
 have dN:=au k0
 have HB0:=au hb0
 have HST:=au h
 clear hW0 k0 hb0 h
 go_enter func7,ntmps7
 go_wp2_with fail
 rw [<- HW0.out]
 refine (WE x.c a1 a2 a3 a4 n1 n2 n3 n4 p1 p2 p3 p4 W0).mono ?_
 rintro e w1 ⟨rfl,k1⟩
 have aJ:Hid (Keep none_ w w1):=dN.out.trans k1
 have HB1:Hid (aA w1 w.heap.size [ah x.c.b,ah x.c.w,ah x.c.m,ah x.c.r,ah x.c.c,ah x.c.l,ah x.c.s,.slice a1 n1 p1,.slice a2 n2 p2,.slice a3 n3 p3,.slice a4 n4 p4] 26):=k1.blk HB0.out (fun f=>f)
 clear k1 dN HB0 HW0
 have Zu:Hid (Calls ay 10 #[] w1 fun e w'=>e = .returned (.bool true)/\Keep none_ w1 w'):=Pq (Ad.out.still aJ.out)
 cases hg:Cc n1 n2 n3 n4 with
 | true =>
   go_wp2_with fail
   refine Zu.out.mono ?_
   rintro e w2 ⟨rfl,k2⟩
   have bJ:Hid (Keep none_ w w2):=aJ.out.trans k2
   clear k2 Zu
   go_wp2_with fail
   go_ret
   exact ⟨rfl,bJ.out⟩
 | false =>
   obtain ⟨m1,m2,m3,m4⟩:=WC hg
   clear hg
   go_wp2_with fail
   refine Zu.out.mono ?_
   rintro e w2 ⟨rfl,k2⟩
   have bJ:Hid (Keep none_ w w2):=aJ.out.trans k2
   have hb2:=k2.blk HB1.out (fun f=>f)
   have z0:=hb2.cell 0 rfl;have z1:=hb2.cell 1 rfl;have z2:=hb2.cell 2 rfl;have z3:=hb2.cell 3 rfl;have z4:=hb2.cell 4 rfl;have z5:=hb2.cell 5 rfl;have z6:=hb2.cell 6 rfl;have z7:=hb2.cell 7 rfl;have z8:=hb2.cell 8 rfl;have z9:=hb2.cell 9 rfl;have z10:=hb2.cell 10 rfl
   have NZ:Hid (Calls ay 11 #[uI x.c a1 a2 a3 a4 n1 n2 n3 n4 p1 p2 p3 p4] w2 (Dc w2 x)):=N7 (Ad.out.still bJ.out) (HST.out.still bJ.out) m1 m2 m3 m4
   have hrl:x.rg.length<=20:=by have:=HST.out.r.len;omega
   clear k2 Zu hb2 HB1 aJ m1 m2 m3 m4
   go_wp2_with fail
   clear z0 z1 z2 z3 z4 z5 z6 z7 z8 z9 z10
   refine NZ.out.mono ?_
   intro e2 w3 hm
   obtain ⟨o,G,q,gs,ma,mc,a,c,rfl,hcw,hok,hfw,hmv,hrow,hI,hgl⟩:=hm.get hrl
   clear hm NZ hrow
   obtain ⟨d,hd,hdk⟩:=WG x.c
   have QG:=CI.made hd hcw hok hfw hmv hI hgl
   have HDK:=au hdk
   have HCI:=au QG
   have kP:Hid (gs.length=d.m):=QG.len
   generalize fA x=y at *
   have HG:Hid (∀ W,CI d w2 W o G gs q (.slice ma gs.length mc) 300 y 0 0->W.cell? ⟨G.S,0,none⟩=some (aj (G.D 0))):=fun W h=>h.cw.coll.sh.uD.1
   have hG:=HG.out _ QG
   have L8:Hid (∀ W,CI d w2 W o G gs q (.slice ma gs.length mc) 300 y 0 0->lT W):=fun W h=>(Ad.out.still (bJ.out.trans h.cw.keep)).b
   have Jo:=au (QG.of hdk (L8.out _ QG))
   have hrl9:=hrl
   clear hcw hok hfw hmv hI hgl hd hdk QG hrl hrl9
   go_wp2_with fail
   refine Jo.out.mono ?_
   rintro e w4 ⟨Av,Tv,rfl,Zv,hC4,_⟩
   obtain ⟨aa,ca,eA,_⟩:=dP Zv.a
   obtain ⟨us,_,u2,_⟩:=Zv.t
   obtain ⟨ta,tc,eT,_⟩:=dP u2
   have MK:=au Zv
   have Qa:=au hC4
   have LQ:=au (WL hC4 HDK.out)
   clear hG Jo Zv hC4 u2 HCI eA eT
   go_wp2_with fail
   refine LQ.out.mono ?_
   rintro e w5 ⟨rv,rfl,ho5,k5⟩
   have Zw:=au (Qa.out.still k5)
   have HRC:=au ((Qa.out.still k5).reach HDK.out (MK.out.still k5) (bD ho5 (Nat.zero_le _)))
   clear LQ ho5 k5 MK Qa
   go_wp2_with fail
   refine HRC.out.mono ?_
   rintro e w6 ⟨iv,rfl,m,hm,ho6,k6⟩
   have Je:=au (Zw.out.still k6)
   have hl6:(y.s.H.objs.filter m).length<=141:=Nat.le_trans (List.length_filter_le _ _) (Zw.out.nums HDK.out).2.1
   have hr6:bC o w6 3 iv (aG (y.s.H.objs.filter m)):=bC.tV (by rw [<- qU] at ho6;exact ho6) (by rw [qU];omega) (fun b hb=>Zw.out.cw.coll.sh.fC b hb)
   obtain ⟨L,P6⟩:∃ L,L=y.s.H.objs.filter m:=⟨_,rfl⟩
   have HRL:Hid (∀ a∈L,(dR d.m d.b d.ce 0 y).gZ a):=fun a ha=>by
    rw [P6] at ha
    exact (hm a).1 (List.mem_filter.1 ha).2
   rw [<- P6] at hr6 hl6
   obtain ⟨ia,ic,eI,_⟩:=hr6.form
   rw [qU] at eI
   subst eI
   have HR6:=au hr6
   have HL6:=au hl6
   have uy:Hid (∀ W,Keep none_ w6 W->Calls ay 26 #[aj (G.D 0)] W fun e w'=>e = .returned (.agg d.conf.cells.toArray)/\Keep none_ W w'):=fun W k=>(Je.out.still k).config
   have hG:=HG.out _ Je.out
   clear HRC hm ho6 k6 hl6 hr6 P6 Zw
   go_wp2_with fail
   refine (uy.out _ (by first|exact Keep.refl _ _|exact (Keep.refl _ _).drew)).mono ?_
   rintro e w7 ⟨rfl,k7⟩
   have Zo:Hid (Keep none_ w6 w7):=k7
   clear uy hG k7
   go_wp2_with fail
   refine (HDK.out.bound w7).mono ?_
   rintro e w8 ⟨rfl,k8⟩
   have hk8:=Zo.out.trans k8
   have lU:Hid (CI d w2 w8 o G gs q (.slice ma gs.length mc) 300 y 0 0/\bC o w8 3 (.slice ia L.length ic) (aG L)):=⟨Je.out.still hk8,HR6.out.still hk8⟩
   have hmI:(d.most:Int)<=1000000:=by have:=HDK.out.most.2;omega
   have hm1:1<=d.most:=by have:=HDK.out.most.1;omega
   have HM1:=au hm1
   clear k8 hk8 Je HR6 Zo HG L8 hm1
   obtain ⟨r,hr⟩:∃ r,r=kk%3:=⟨_,rfl⟩
   have hr1:(kk:Int).tmod 3=(r:Int):=by rw [Int.tmod_eq_emod_of_nonneg (by omega)];omega
   have hr2:(kk:Int)%3=(r:Int):=by omega
   have hr3:r<=2:=by omega
   clear hr
   go_wp2_with fail
   go_loopw [11,12,13,14,15,16,17,18,19] (fun kv _ _ _ _ _ _ _ _ wr=>∃ (t:Nat) (o:Ow) (x:WS) (κ:Nat),t<=r+1/\kv = ah ((t:Int)+1)/\κ=t%2/\CI d w2 wr o G gs q (.slice ma gs.length mc) (300+t*9000010) x κ t/\bC o wr 3 (.slice ia L.length ic) (aG L)/\∀ a∈L,(dR d.m d.b d.ce κ x).gZ a) (fun kv _ _ _ _ _ _ _ _ _=>r+2 - (intOf kv).toNat)
   case atStart=>exact ⟨0,o,y,0,Nat.zero_le _,rfl,rfl,by rw [Nat.zero_mul,Nat.add_zero];exact lU.out.1,lU.out.2,HRL.out⟩
   case round =>
    obtain ⟨t,o1,x1,κ,ht,rfl,hκ,hC,hR,hre⟩:=hrel
    by_cases htk:t<r+1
    ·have Qn : (t:Int)+1<=1+(r:Int):=by omega
     have hS0:iF w2 wr o1 G gs q (.slice ma gs.length mc) (300+t*9000010) wr o1 x1 (.slice none 0 0) (.slice none 0 0) [] []:=⟨hC.cw,hC.ok,hC.few,CX.refl _ _,hC.mv,kZ.nil _ _ _,kZ.nil _ _ _⟩
     have HW1:=au hS0.Zt
     have qW:=au hC
     have HR1:=au hR
     have acv:=au hre
     have Zx:=au hκ
     generalize wr=Wo at *
     clear hC hR hre hS0 hκ lU HRL
     go_wp2_with fail
     refine HW1.out.mono ?_
     rintro e w9 ⟨rfl,hs9⟩
     have HW2:=au hs9.Zt
     clear hs9 HW1
     go_wp2_with fail
     refine HW2.out.mono ?_
     rintro e w10 ⟨rfl,hs10⟩
     obtain ⟨xb,hxb⟩:∃ xb,xb=bP (bP x1 (x1.muts.length+1)) ((bP x1 (x1.muts.length+1)).muts.length+1):=⟨_,rfl⟩
     rw [<- hxb] at hs10
     have e1:xb.s=x1.s:=by rw [hxb,pR,pR]
     have e2:xb.muts=x1.muts:=by rw [hxb,pR,pR]
     have e3:xb.coll={ x1.coll with wish:=true }:=by rw [hxb,pR,pR]
     have Zy:oN d.m d.b d.ce κ xb:=qW.out.jm.congr e1 e2 (by rw [e3];exact ⟨rfl,rfl,rfl,rfl,rfl,rfl,rfl,rfl⟩)
     have hcp:dR d.m d.b d.ce κ xb=dR d.m d.b d.ce κ x1:=by unfold dR;rw [e1,e2]
     have hwb:xb.coll.wish=true:=by rw [e3]
     have hcb:xb.coll.cycles=t:=by rw [e3];exact qW.out.jd
     have hpb:xb.coll.phase=0:=Zy.ph
     have hRb:∀ (i:Nat) (m:MS),xb.muts[i]?=some m->m.regs.length<=d.r:=by rw [e2];exact qW.out.regs
     have hmb:uJ d.m d.b d.ce d.r (xb.s.H.ww/2)+2<=d.most:=by rw [e1,qW.out.ww];exact HDK.out.most.1
     have hdb:jL xb.coll:=by rw [e3];exact qW.out.dr
     have hlb:xb.muts.length=d.m:=Zy.muts
     have Zz:Hid (∀ n st z,sG (dR d.m d.b d.ce κ x1) d.r t d.most xb n st z->st<3->_):=fun n st z h h3=>sG.round Zy hwb hRb hmb hdb hcb (by rw [hcp];exact h) h3
     rw [hcp] at Zz
     have HEN:Hid (∀ n st z,sG (dR d.m d.b d.ce κ x1) d.r t d.most xb n st z->¬ (n<d.most/\st<3)->zY (dR d.m d.b d.ce κ x1) z/\z.coll.wish=false/\z.coll.cycles=t+1/\jL z.coll/\st=3):=fun n st z h hn=>h.ends HM1.out hn
     have qw:Hid (sG (dR d.m d.b d.ce κ x1) d.r t d.most xb 0 0 xb) := .inl ⟨rfl,rfl,rfl⟩
     have adT:Hid (EvW d w2 Wo o1 G gs q (.slice ma gs.length mc) (302+t*9000010) w10 o1 xb):=⟨hs10.more (by omega),hlb⟩
     have HWS:Hid (Calls ay 16 #[aj q.C] w10 fun e w'=>e = .returned (.bool true)/\w10=w'):=by
      have:=DL hs10.cw.coll
      rw [hwb] at this
      exact this
     have HPS:Hid (Calls ay 17 #[aj q.C] w10 fun e w'=>e = .returned (ah 0)/\w10=w'):=by
      have:=oH hs10.cw.coll
      rw [hpb] at this
      exact this
     obtain ⟨κ2,hκ2⟩:∃ κ2,κ2=1 - κ:=⟨_,rfl⟩
     have YM:Hid (κ2=1 - κ/\κ<=1):=⟨hκ2,by have:=Zx.out;omega⟩
     have hm21:((t:Int)+1).tmod 2=(κ2:Int):=by have:=Zx.out;rw [Int.tmod_eq_emod_of_nonneg (by omega)];omega
     have hm22:((t:Int)+1)%2=(κ2:Int):=by have:=Zx.out;omega
     have htb:(t:Int)<=2:=by omega
     rw [<- hκ2] at Zz
     obtain ⟨p,hp⟩:∃ p,p=dR d.m d.b d.ce κ x1:=⟨_,rfl⟩
     have HPX:=au hp
     rw [<- hp] at Zz HEN qw
     clear hp
     clear hs10 hxb e1 e2 e3 Zy hwb hcb hpb hRb hmb hdb hlb hcp HW2 hκ2
     go_wp2_with fail
     refine HWS.out.mono ?_
     rintro e w11 ⟨rfl,rfl⟩
     clear HWS
     go_wp2_with fail
     refine HPS.out.mono ?_
     rintro e w11 ⟨rfl,rfl⟩
     clear HPS
     go_wp2_with fail
     go_loopw [12,13,14,15,16,17,18,19] (fun sv nv _ _ _ _ _ _ wr=>∃ (n st:Nat) (o':Ow) (z:WS),n<=d.most/\sv = ah st/\nv = ah n/\st<=3/\EvW d w2 Wo o1 G gs q (.slice ma gs.length mc) (302+t*9000010+n*(d.m+1)) wr o' z/\sG p d.r t d.most xb n st z) (fun _ nv _ _ _ _ _ _ _=>d.most - (intOf nv).toNat)
     case atStart=>exact ⟨0,0,o1,xb,Nat.zero_le _,rfl,rfl,by omega,by rw [Nat.zero_mul,Nat.add_zero];exact adT.out,qw.out⟩
     case round =>
      obtain ⟨n,st,o3,z,hn,rfl,rfl,hst,hs,hpp⟩:=hrel
      by_cases hgo:n<d.most/\st<3
      ·have I9 : (n:Int)<(d.most:Int):=by omega
       have hsI:(st:Int)<3:=by omega
       have hsum:n*(d.m+1)<=d.most*(d.m+1)/\(n+1)*(d.m+1)=n*(d.m+1)+(d.m+1):=⟨Nat.mul_le_mul_right _ hn,by rw [Nat.add_mul,Nat.one_mul]⟩
       have hbig:302+t*9000010+n*(d.m+1)+(d.m+1)<=900000000:=by
        have h1:(n+1)*(d.m+1)<=1000000*5:=Nat.mul_le_mul (by omega) (by have:=HDK.out.m;omega)
        omega
       have HSB:Hid (302+t*9000010+n*(d.m+1)+(d.m+1)=302+t*9000010+(n+1)*(d.m+1)):=by show _=_;omega
       have acw:=au hbig
       have HS:=au hs
       have Aa:=au (Zz.out n st z hpp hgo.2)
       generalize wr=Wi at *
       clear hs hpp hsum hbig
       go_wp2_with fail
       go_loopw [14] (fun iv wr=>∃ (j:Nat) (o':Ow),j<=gs.length/\iv = ah j/\EvW d w2 Wo o1 G gs q (.slice ma gs.length mc) (302+t*9000010+n*(d.m+1)+j) wr o' (aO j z)) (fun iv _=>gs.length - (intOf iv).toNat)
       case atStart=>exact ⟨0,o3,Nat.zero_le _,rfl,by rw [Nat.add_zero];exact HS.out⟩
       case round =>
        obtain ⟨j,o4,hj,rfl,hs⟩:=hrel
        have hgl8:(gs.length:Int)<=4:=by have:=kP.out;have:=HDK.out.m;omega
        by_cases hjn:j<gs.length
        ·have IJ:(j:Int)<(gs.length:Int):=by omega
         have hj0:(0:Int)<=(j:Int):=by omega
         obtain ⟨bA,g0,e9,hcA,hpk⟩:=acs hs (by have:=acw.out;have:=kP.out;omega) kP.out (by have:=kP.out;omega)
         cases e9
         have DV:=au hpk
         clear hs hpk
         go_wp2_with fail
         refine DV.out.mono ?_
         rintro e w12 ⟨⟨v1,v2,rfl⟩,o5,hs5⟩
         have vw:=au hs5
         clear hs5 DV hcA
         go_wp2_with fail
         exact ⟨⟨j+1,o5,by omega,by go_num,vw.out⟩,by simp [intOf];omega⟩
        ·have IJ:¬ (j:Int)<(gs.length:Int):=by omega
         have hjm:j=d.m:=by have:=kP.out;omega
         rw [hjm] at hs
         have A8:=au (acu hs (by have:=acw.out;omega))
         clear hs hjm
         obtain ⟨ev,hev⟩:∃ ev,ev=iD d.m z:=⟨_,rfl⟩
         obtain ⟨z2,hz2⟩:∃ z2,z2=aZ d.m z:=⟨_,rfl⟩
         rw [<- hev,<- hz2] at A8 Aa
         clear hev hz2
         go_wp2_with fail
         refine A8.out.mono ?_
         rintro e w12 ⟨rfl,o6,hs6⟩
         have yh:Hid (EvW d w2 Wo o1 G gs q (.slice ma gs.length mc) (302+t*9000010+(n+1)*(d.m+1)) w12 o6 z2):=by rw [<- HSB.out];exact hs6
         clear hs6 A8 hj hjn IJ
         rcases Aa.out with ⟨hst1,rfl,hp1⟩|⟨rfl,rfl,hp1,hw1,hc1,hy1⟩|⟨rfl,rfl,hp1,hk1,hf1,hc1,hr1⟩|⟨rfl,aa9,rfl,hp1,hb1⟩|⟨rfl,rfl,hp1⟩
         ·
          have hag:kX none = .agg #[ah 0,ah 0,ah 0,ah 0,ah 0,ah 0]:=rfl
          have htl:jq none = .bool false:=rfl
          rw [hag,htl]
          obtain ⟨W7,iG⟩:∃ W7,W7=w12.alloc (.cells #[ah 0,ah 0,ah 0,ah 0,ah 0,ah 0] 37):=⟨_,rfl⟩
          have k7:Keep none_ w12 W7:=by rw [iG];exact (Keep.refl _ _).alloc _
          have hb7:aA W7 w12.heap.size [ah 0,ah 0,ah 0,ah 0,ah 0,ah 0] 37:=by rw [iG];exact aA.new w12 _ _
          have jo:=au (yh.out.still k7)
          have BA:=au hp1
          have y0:=hb7.cell 0 rfl;have y1:=hb7.cell 1 rfl;have y2:=hb7.cell 2 rfl;have y3:=hb7.cell 3 rfl;have y4:=hb7.cell 4 rfl;have y5:=hb7.cell 5 rfl
          rw [iG] at y0 y1 y2 y3 y4 y5 jo
          clear k7 hb7 hp1 iG yh Aa
          go_wp2_with fail
          exact ⟨⟨n+1,st,o6,z2,by omega,rfl,by go_num,hst,jo.out,BA.out⟩,by simp [intOf];omega⟩
         ·
          have hag:kX (some ⟨d.m,2,0,0,t+1⟩) = .agg #[ah 0,ah (gs.length:Int),ah 2,ah 0,ah 0,ah ((t:Int)+1)]:=by rw [kP.out];rfl
          have htl:jq (some ⟨d.m,2,0,0,t+1⟩) = .bool true:=rfl
          rw [hag,htl]
          obtain ⟨W7,iG⟩:∃ W7,W7=w12.alloc (.cells #[ah 0,ah (gs.length:Int),ah 2,ah 0,ah 0,ah ((t:Int)+1)] 37):=⟨_,rfl⟩
          have k7:Keep none_ w12 W7:=by rw [iG];exact (Keep.refl _ _).alloc _
          have hb7:aA W7 w12.heap.size [ah 0,ah (gs.length:Int),ah 2,ah 0,ah 0,ah ((t:Int)+1)] 37:=by rw [iG];exact aA.new w12 _ _
          have jo:=au (yh.out.still k7)
          have BA:=au hp1
          have jY:=au hb7
          have y0:=hb7.cell 0 rfl;have y1:=hb7.cell 1 rfl;have y2:=hb7.cell 2 rfl;have y3:=hb7.cell 3 rfl;have y4:=hb7.cell 4 rfl;have y5:=hb7.cell 5 rfl
          rw [iG] at y0 y1 y2 y3 y4 y5
          have rF:=au iG
          have Ak:=au (DL (yh.out.still k7).s.cw.coll)
          have l9:=au (Gi (yh.out.still k7).s.cw.coll)
          have Gy:=au (DK (yh.out.still k7).s.cw.coll)
          rw [hw1] at Ak
          rw [hc1] at l9
          rw [hy1,show (((t+1:Nat)):Int)=(t:Int)+1 from by push_cast;rfl] at Gy
          clear k7 hb7 hp1 iG yh Aa hw1 hc1 hy1
          go_wp2_with fail
          rw [<- rF.out]
          refine Ak.out.mono ?_
          rintro e w13 ⟨rfl,rfl⟩
          clear Ak y0 y1 y2 y3 y4 y5
          go_wp2_with fail
          refine l9.out.mono ?_
          rintro e w13 ⟨rfl,rfl⟩
          clear l9
          go_wp2_with fail
          refine Gy.out.mono ?_
          rintro e w13 ⟨rfl,rfl⟩
          clear Gy
          go_wp2_with fail
          exact ⟨⟨n+1,1,o6,z2,by omega,rfl,by go_num,by omega,jo.out,BA.out⟩,by simp [intOf];omega⟩
         ·
          have hag:kX (some ⟨d.m,3,0,0,t+1⟩) = .agg #[ah 0,ah (gs.length:Int),ah 3,ah 0,ah 0,ah ((t:Int)+1)]:=by rw [kP.out];rfl
          have htl:jq (some ⟨d.m,3,0,0,t+1⟩) = .bool true:=rfl
          rw [hag,htl]
          obtain ⟨W7,iG⟩:∃ W7,W7=w12.alloc (.cells #[ah 0,ah (gs.length:Int),ah 3,ah 0,ah 0,ah ((t:Int)+1)] 37):=⟨_,rfl⟩
          have k7:Keep none_ w12 W7:=by rw [iG];exact (Keep.refl _ _).alloc _
          have hb7:aA W7 w12.heap.size [ah 0,ah (gs.length:Int),ah 3,ah 0,ah 0,ah ((t:Int)+1)] 37:=by rw [iG];exact aA.new w12 _ _
          have jo:=au (yh.out.still k7)
          have BA:=au hp1
          have jY:=au hb7
          have y0:=hb7.cell 0 rfl;have y1:=hb7.cell 1 rfl;have y2:=hb7.cell 2 rfl;have y3:=hb7.cell 3 rfl;have y4:=hb7.cell 4 rfl;have y5:=hb7.cell 5 rfl
          rw [iG] at y0 y1 y2 y3 y4 y5
          have rF:=au iG
          have HSK:=au (TY (yh.out.still k7).s.cw.coll hk1)
          have YN:Hid (∀ W,Keep none_ W7 W->∀ u,u<L.length->∃ b off,ia=some ⟨b,off,none⟩/\W.cell? ⟨b,off+u,none⟩=some (ah ((L.getD u 0:Nat):Int))/\Calls ay 28 #[aj (G.D 0),ah ((L.getD u 0:Nat):Int)] W fun e w'=>e = .returned (.tuple #[ah (κ2:Int),ah 0])/\W=w'):=fun W k u hu=>by
           have hs:=(jo.out.still k).s
           have hrow:=hs.cx.row HR1.out
           obtain ⟨a',c',e9,_,_,hf⟩:=hrow.form
           rw [qU] at e9
           cases e9
           obtain ⟨b,off,e8,hcc⟩:=hf u _ (tN hu)
           refine ⟨b,off,e8,hcc,(vO hs.cw.coll.sh.heap (L.getD u 0)).mono ?_⟩
           rintro e w' ⟨rfl,rfl⟩
           have hmem:L.getD u 0∈L:=by rw [List.getD_eq_getElem?_getD,List.getElem?_eq_getElem hu];exact List.getElem_mem _
           obtain ⟨q1,q2⟩:=hr1 _ (by rw [HPX.out];exact acv.out _ hmem)
           refine ⟨?_,rfl⟩
           rw [if_pos q1,if_pos q1]
           have:z2.s.H.dW (L.getD u 0)=κ2:=WY q2 (by have:=YM.out;omega)
           rw [this]
          have WA:Hid (∀ W,Keep none_ W7 W->Calls ay 17 #[aj q.C] W fun e w'=>e = .returned (ah 6)/\W=w'):=fun W k=>by
           have:=oH (jo.out.still k).s.cw.coll
           rw [hf1] at this
           exact this
          have HCC:Hid (∀ W,Keep none_ W7 W->Calls ay 18 #[aj q.C] W fun e w'=>e = .returned (ah (κ2:Int))/\W=w'):=fun W k=>by
           have:=Gi (jo.out.still k).s.cw.coll
           rw [hc1] at this
           exact this
          have HMY:Hid (∀ W,Keep none_ W7 W->Calls ay 32 #[ah 5,ah 6] W fun e w'=>e = .returned (.bool true)/\Keep none_ W w'):=fun W k=>aaC 5 6 (by decide) W (gU.out.still (bJ.out.trans (jo.out.still k).s.cw.keep))
          have ZA:Hid (∀ W,Keep none_ W7 W->W.cell? ⟨G.S,0,none⟩=some (aj (G.D 0))):=fun W k=>(jo.out.still k).s.cw.coll.sh.uD.1
          have hLI:(L.length:Int)<=141:=by have:=HL6.out;omega
          clear k7 hb7 hp1 iG yh Aa hk1 hf1 hc1 hr1
          go_wp2_with fail
          rw [<- rF.out]
          refine HSK.out.mono ?_
          rintro e w13 ⟨⟨sa,sc,rfl⟩,k13⟩
          have Ua:=au k13
          clear HSK y0 y1 y2 y3 y4 y5 k13
          go_wp2_with fail
          refine (WA.out _ Ua.out).mono ?_
          rintro e w14 ⟨rfl,rfl⟩
          clear WA
          go_wp2_with fail
          refine (HMY.out _ Ua.out).mono ?_
          rintro e w14 ⟨rfl,k14⟩
          have acy:=au (Ua.out.trans k14)
          clear HMY k14 Ua
          go_wp2_with fail
          go_loopw [17,18,19] (fun iv _ _ wr=>∃ u:Nat,u<=L.length/\iv = ah u/\Keep none_ W7 wr) (fun iv _ _ _=>L.length - (intOf iv).toNat)
          case atStart=>exact ⟨0,Nat.zero_le _,rfl,acy.out⟩
          case round =>
           obtain ⟨u,hu,rfl,ku⟩:=hrel
           have WZ:=au ku
           by_cases huL:u<L.length
           ·have huI:(u:Int)<(L.length:Int):=by omega
            have hu0:(0:Int)<=(u:Int):=by omega
            obtain ⟨b,off,rfl,_,_⟩:=YN.out _ ku u huL
            have VY:Hid (∀ W,Keep none_ W7 W->W.cell? ⟨G.S,0,none⟩=some (aj (G.D 0))/\W.cell? ⟨b,off+u,none⟩=some (ah ((L.getD u 0:Nat):Int))):=fun W k=>by
             obtain ⟨b',off',e9,hcc,_⟩:=YN.out W k u huL
             cases e9
             exact ⟨ZA.out W k,hcc⟩
            have vC:Hid (∀ W,Keep none_ W7 W->Calls ay 28 #[aj (G.D 0),ah ((L.getD u 0:Nat):Int)] W fun e w'=>e = .returned (.tuple #[ah (κ2:Int),ah 0])/\W=w'):=fun W k=>by
             obtain ⟨_,_,_,_,hcc⟩:=YN.out W k u huL
             exact hcc
            generalize L.getD u 0=uu at *
            clear ku acy
            go_wp2_with fail
            go_region_held3 (fun W'=>W'.cell? ⟨G.S,0,none⟩=some (aj (G.D 0))/\W'.cell? ⟨b,off+u,none⟩=some (ah ((uu:Nat):Int)))
             (first
              | exact VY.out _ WZ.out.drew
              | exact VY.out _ WZ.out
              | fail "ji")
             (first
              | (go_at_call 28
                 refine (vC.out _ (by first|exact WZ.out.drew|exact WZ.out)).mono ?_
                 rintro e w15 ⟨rfl,rfl⟩)
              | fail "jZ")
            all_goals
             have sQ:=au WZ.out.drew
             clear VY vC
             go_wp2_with fail
             refine (HCC.out _ sQ.out).mono ?_
             rintro e w15 ⟨rfl,rfl⟩
             go_wp2_with fail
             exact ⟨⟨u+1,by omega,by go_num,sQ.out⟩,by simp [intOf];omega⟩
           ·have huI:¬ (u:Int)<(L.length:Int):=by omega
            have HS8:=au (jo.out.still ku)
            clear ku
            go_wp2_with fail
            exact ⟨⟨n+1,2,o6,z2,by omega,rfl,by go_num,by omega,HS8.out,BA.out⟩,by simp [intOf];omega⟩
         ·
          have hag:kX (some ⟨d.m,5,0,0,aa9⟩) = .agg #[ah 0,ah (gs.length:Int),ah 5,ah 0,ah 0,ah (aa9:Int)]:=by rw [kP.out];rfl
          have htl:jq (some ⟨d.m,5,0,0,aa9⟩) = .bool true:=rfl
          rw [hag,htl]
          obtain ⟨W7,iG⟩:∃ W7,W7=w12.alloc (.cells #[ah 0,ah (gs.length:Int),ah 5,ah 0,ah 0,ah (aa9:Int)] 37):=⟨_,rfl⟩
          have k7:Keep none_ w12 W7:=by rw [iG];exact (Keep.refl _ _).alloc _
          have hb7:aA W7 w12.heap.size [ah 0,ah (gs.length:Int),ah 5,ah 0,ah 0,ah (aa9:Int)] 37:=by rw [iG];exact aA.new w12 _ _
          have jo:=au (yh.out.still k7)
          have BA:=au hp1
          have jY:=au hb7
          have y0:=hb7.cell 0 rfl;have y1:=hb7.cell 1 rfl;have y2:=hb7.cell 2 rfl;have y3:=hb7.cell 3 rfl;have y4:=hb7.cell 4 rfl;have y5:=hb7.cell 5 rfl
          rw [iG] at y0 y1 y2 y3 y4 y5
          have rF:=au iG
          have HIS:Hid (∀ W,Keep none_ W7 W->Calls ay 33 #[aj (G.D 0),ah (aa9:Int)] W fun e w'=>e = .returned (.bool false)/\W=w'):=fun W k=>by
           have:=CB (jo.out.still k).s.cw.coll.sh.heap aa9
           rw [hb1] at this
           exact this
          have ZA:Hid (∀ W,Keep none_ W7 W->W.cell? ⟨G.S,0,none⟩=some (aj (G.D 0))/\W.cell? ⟨w12.heap.size,5,none⟩=some (ah (aa9:Int))):=fun W k=>⟨(jo.out.still k).s.cw.coll.sh.uD.1,k.still (jY.out.cell 5 rfl)⟩
          have sQ:=au (Keep.refl none_ W7).drew
          clear k7 hb7 hp1 iG yh Aa hb1
          go_wp2_with fail
          rw [<- rF.out]
          rw [<- rF.out] at y0 y1 y2 y3 y4 y5
          go_region_held3 (fun W'=>W'.cell? ⟨G.S,0,none⟩=some (aj (G.D 0))/\W'.cell? ⟨w12.heap.size,5,none⟩=some (ah (aa9:Int)))
           (first
            | exact ZA.out _ sQ.out
            | fail "ji")
           (first
            | (go_at_call 33
               refine (HIS.out _ sQ.out).mono ?_
               rintro e w15 ⟨rfl,rfl⟩)
            | fail "jZ")
          all_goals
           have HS8:=au (jo.out.still sQ.out)
           clear y0 y1 y2 y3 y4 y5 HIS ZA
           go_wp2_with fail
           exact ⟨⟨n+1,2,o6,z2,by omega,rfl,by go_num,by omega,HS8.out,BA.out⟩,by simp [intOf];omega⟩
         ·
          have hag:kX (some ⟨d.m,4,0,0,t+1⟩) = .agg #[ah 0,ah (gs.length:Int),ah 4,ah 0,ah 0,ah ((t:Int)+1)]:=by rw [kP.out];rfl
          have htl:jq (some ⟨d.m,4,0,0,t+1⟩) = .bool true:=rfl
          rw [hag,htl]
          obtain ⟨W7,iG⟩:∃ W7,W7=w12.alloc (.cells #[ah 0,ah (gs.length:Int),ah 4,ah 0,ah 0,ah ((t:Int)+1)] 37):=⟨_,rfl⟩
          have k7:Keep none_ w12 W7:=by rw [iG];exact (Keep.refl _ _).alloc _
          have hb7:aA W7 w12.heap.size [ah 0,ah (gs.length:Int),ah 4,ah 0,ah 0,ah ((t:Int)+1)] 37:=by rw [iG];exact aA.new w12 _ _
          have jo:=au (yh.out.still k7)
          have BA:=au hp1
          have jY:=au hb7
          have y0:=hb7.cell 0 rfl;have y1:=hb7.cell 1 rfl;have y2:=hb7.cell 2 rfl;have y3:=hb7.cell 3 rfl;have y4:=hb7.cell 4 rfl;have y5:=hb7.cell 5 rfl
          rw [iG] at y0 y1 y2 y3 y4 y5
          have rF:=au iG
          rw [rF.out] at jo
          clear k7 hb7 hp1 iG yh Aa
          go_wp2_with fail
          exact ⟨⟨n+1,3,o6,z2,by omega,rfl,by go_num,by omega,jo.out,BA.out⟩,by simp [intOf];omega⟩
      ·obtain ⟨hl9,hw9,hc9,hd9,rfl⟩:=HEN.out n st z hpp hgo
       have HC9:Hid (CI d w2 wr o3 G gs q (.slice ma gs.length mc) (300+(t+1)*9000010) z κ2 (t+1)):=by
        have h9:n*(d.m+1)<=1000000*5:=Nat.mul_le_mul (by omega) (by have:=HDK.out.m;omega)
        have:=(hs.s.more (M:=300+(t+1)*9000010) (by omega)).ends (κ:=κ) (x:=x1) (K:=t+1) (by rw [<- HPX.out];exact hl9) hw9 hc9 hd9 qW.out
        rw [YM.out.1]
        exact this
       have HR9:=au (hs.s.cx.row HR1.out)
       have acz:Hid (∀ a∈L,(dR d.m d.b d.ce κ2 z).gZ a):=fun a ha=>by
        rw [HPX.out] at hl9
        exact (hl9.rch κ2 a).2 (acv.out a ha)
       have HKB:Hid (κ2=(t+1)%2):=by have h1:=YM.out;have h2:=Zx.out;show _=_;omega
       clear hl9 hw9 hc9 hd9 hs hpp
       by_cases hnl:n<d.most
       ·have I9:(n:Int)<(d.most:Int):=by omega
        go_wp2_with fail
        exact ⟨⟨t+1,o3,z,κ2,by omega,by go_num,HKB.out,HC9.out,HR9.out,acz.out⟩,by simp [intOf];omega⟩
       ·have I9:¬ (n:Int)<(d.most:Int):=by omega
        go_wp2_with fail
        exact ⟨⟨t+1,o3,z,κ2,by omega,by go_num,HKB.out,HC9.out,HR9.out,acz.out⟩,by simp [intOf];omega⟩
    ·have Qn:¬ (t:Int)+1<=1+(r:Int):=by omega
     have hd1:=JJ hC.jm.ph hC.dr
     have HCR:=au (Ph hC.cw.coll)
     have Gy:Hid (∀ W,Keep none_ wr W->Calls ay 19 #[aj q.C] W fun e w'=>e = .returned (ah (x1.coll.cycles:Int))/\W=w'):=fun W k=>DK (hC.still k).cw.coll
     have Y7:=au hC.cw.keep
     have Zl:¬ (x1.coll.drains:Int)<(x1.coll.cycles:Int):=by omega
     have aeD:(x1.coll.cycles:Int)<=(x1.coll.drains:Int):=by omega
     have hwI:(0:Int)<=(x1.coll.walks:Int):=by omega
     generalize x1.coll.cycles=cy at *
     generalize x1.coll.drains=dr at *
     generalize x1.coll.walks=wk at *
     clear hC hR hre hκ hd1 lU HRL
     go_wp2_with fail
     refine HCR.out.mono ?_
     rintro e w9 ⟨rfl,k9⟩
     have I7:=au k9
     clear HCR k9
     go_wp2_with fail
     refine (Gy.out _ I7.out).mono ?_
     rintro e w10 ⟨rfl,rfl⟩
     clear Gy
     go_wp2_with fail
     go_ret
     exact ⟨rfl,bJ.out.trans (Y7.out.trans I7.out)⟩
end
end
end Go.Proofs.YtanfphjoebobaaaGreatDoor
