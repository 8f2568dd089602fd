/- Parts of the fP. No conditions. -/
import Derived.Test.YtoamcpbapedofaaGreatDoorZzwc
import Derived.Test.YtoamcpbapedofaaGreatDoorZzwd
namespace Go.Proofs.YtoamcpbapedofaaGreatDoor
open _root_.Bool renaming eq_false_iff->IE
open _root_.List renaming all_eq_true->Iu,getElem?_eq_some_iff->Ik,getElem?_take_of_lt->IC,replicate->Ht
open _root_.Nat renaming le_refl->Ho,le_trans->Ii
open _root_.Go.Proofs.Tryz hiding prog
open _root_.Go.Proofs.Tryz renaming prog->ay
set_option maxRecDepth 10000
set_option maxHeartbeats 2000000
section
attribute [local go_sem] Oper.semAt_some
open Go.RowKit
structure dU (w:World) (L iR iX aR tR sz:Nat) (In F:List Nat):Prop where
 aO:∃ M:List Int,M.length=4/\aC w L (([au aR,au tR,au iR]++fF F)++M.map (Value.int .i64)) 242
 set:dS w iR iX sz In
 A8:F.length=4
 Fj:∀ x∈F,x<=1048576
section
variable {w w':World} {L iR iX aR tR sz:Nat} {In F:List Nat}
theorem dU.aB {S:Nat->Prop} (h:dU w L iR iX aR tR sz In F) (k:aj S w w') (hL:¬ S L) (hR:¬ S iR) (hX:¬ S iX):dU w' L iR iX aR tR sz In F:=by
 obtain ⟨M,hM,hb⟩:=h.aO
 exact ⟨⟨M,hM,k.aO hb hL⟩,h.set.aB k hR hX,h.A8,h.Fj⟩
theorem dU.still (h:dU w L iR iX aR tR sz In F) (k:aj ak w w'):dU w' L iR iX aR tR sz In F:=h.aB k (fun f=>f) (fun f=>f) (fun f=>f)
theorem dU.lt (h:dU w L iR iX aR tR sz In F):L<w.heap.size:=by
 obtain ⟨M,hM,hb⟩:=h.aO
 exact hb.lt
theorem dU.ne (h:dU w L iR iX aR tR sz In F):L≠iR/\L≠iX:=by
 obtain ⟨M,hM,hb⟩:=h.aO
 obtain ⟨cap,h1⟩:=h.set.aO
 obtain ⟨cur,h2,_⟩:=h.set.jv
 refine ⟨fun e=>?_,fun e=>?_⟩
 ·rw [e] at hb;exact absurd (hb.gV h1).2 (by decide)
 ·rw [e] at hb;exact absurd (hb.gV h2).2 (by decide)
end
section
variable {w w':World} {L iR iX aR aX tR sz:Nat} {In F A:List Nat}
theorem Ap {tX b ww:Nat} {c:aI} {K:List Nat} (hA:dP w aR aX A) (uQ:eu w tR tX c K) (hb:c.b=b) (hw:c.w=ww) (hlen:A.length=b*ww) (hT:dW w):Calls ay 106 #[au aR,au tR] w fun e w'=>∃ L iR iX,e = .returned (.tuple #[au L,ah 0])/\dU w' L iR iX aR tR (b*ww+1) (Ht ((b*ww+1+63)/64) 0) [0,0,0,0]/\w.heap.size<=L/\w.heap.size<=iR/\w.heap.size<=iX/\aj ak w w':=by
 have hn:=oq uQ.ok hb hw
 have HC:=aA (ng uQ)
 have HW:Hid (∀ W,aj ak w W->Calls ay 104 #[.agg c.cells.toArray] W fun e w'=>e = .returned (ah ((b*ww:Nat):Int))/\aj ak W w'):=fun W hW=>ou uQ.ok hb hw W (hT.aB hW)
 have HL:Hid (∀ W,aj ak w W->Calls ay 129 #[au aR] W fun e w'=>e = .returned (ah ((b*ww:Nat):Int))/\W=w'):=fun W hW=>by
  have h9:=yQ (hA.still hW)
  rw [hlen] at h9
  exact h9
 have HB:Hid (∀ W,Calls ay 107 #[ah (((b*ww:Nat):Int)+1)] W fun e w'=>∃ B X,e = .returned (.tuple #[au B,ah 0])/\dS w' B X (b*ww+1) (Ht ((b*ww+1+63)/64) 0)/\W.heap.size<=B/\W.heap.size<=X/\aj ak W w'):=fun W=>by
  have h9:=sF (b*ww+1) (by omega) W
  rw [show (((b*ww+1:Nat):Nat):Int)=((b*ww:Nat):Int)+1 by omega] at h9
  exact h9
 generalize b*ww=N at *
 have hwr:IntKind.i64.wrap ((N:Int)+1)=(N:Int)+1:=IntWalk.i64_in _ (by omega)
 generalize (Ht ((N+1+63)/64) 0)=In' at *
 obtain ⟨c0,c1,c2,c3,c4,c5,c6⟩:=c
 simp only [aI.cells] at *
 clear hA uQ hb hw hlen hT hn
 go_enter func106,ntmps106
 go_wp2_with (first
  | (go_at_call 109;refine HC.out.mono ?_;rintro e w1 ⟨rfl,hk1⟩;have dI:=aA hk1;clear hk1)
  | (go_at_call 104;refine (HW.out _ dI.out).mono ?_;rintro e w2 ⟨rfl,hk2⟩;have cu:=aA (dI.out.trans hk2);clear hk2)
  | (go_at_call 129;refine (HL.out _ cu.out).mono ?_;rintro e w3 ⟨rfl,rfl⟩)
  | (go_at_call 107;refine (HB.out _).mono ?_;rintro e w4 ⟨iR,iX,rfl,hs,h1,h2,hk4⟩;have HS:=aA hs;have gQ:=aA (cu.out.trans hk4);have DI:Hid (w.heap.size<=iR/\w.heap.size<=iX):=⟨Ii cu.out.size h1,Ii cu.out.size h2⟩;clear hs h1 h2 hk4))
 obtain ⟨W5,ny⟩:∃ W',W'=w4.alloc (.cells #[au aR,au tR,au iR,ah 0,ah 0,ah 0,ah 0,ah 0,ah 0,ah 0,ah 0] 242):=⟨_,rfl⟩
 rw [<- ny]
 go_ret2
 have hk5:aj ak w4 W5:=by rw [ny];exact (aj.refl _ _).alloc _
 refine ⟨w4.heap.size,iR,iX,rfl,⟨⟨[0,0,0,0],rfl,?_⟩,HS.out.still hk5,rfl,by decide⟩,gQ.out.size,DI.out.1,DI.out.2,gQ.out.trans hk5⟩
 rw [ny]
 exact aC.aS w4 _ _
end
end
section
open Go.RowKit
theorem yS {w:World} {base n:Nat} {e:TypeId} {v:Value} {xs:List Value} (h:w.ownsRow base e 1 v n xs) (h1:1<=n):∃ g cap,v = .slice (some ⟨g,0,none⟩) n cap/\base<=g:=by
 rcases h.2 with ⟨rfl,h0⟩|⟨g,cap,cur,rfl,hb,_⟩
 ·omega
 ·exact ⟨g,cap,rfl,hb⟩
theorem sH (ad:Addr) (n c:Nat) (xs:List Value) (w:World) (h:zH w (some ad) n xs) (hm:n<=4000000000) (h1:∀ u∈xs,u.oneCell'=true) :
 Calls ay 130 #[.slice (some ad) n c] w fun e w'=>∃ v',e = .returned v'/\w'.ownsRow w.heap.size 168 1 v' n xs/\aj ak w w':=by
 obtain ⟨rfl,hc⟩:=h
 have hn:=fun w=>Lib.run_eql_slice_nil (P:=ay) w 237 168 (some ad) xs.length c 0 0 (by kernel_rfl)
 obtain ⟨i0,hi1,hi2,hi3,hi4⟩:=info_parts Tryz.infoU
 have hw0:∀ w:World,(w.alloc (.cells #[] 168)).ownsRow w.heap.size 168 1 (.slice (some ⟨w.heap.size,0,none⟩) 0 0) 0 []:=fun w=>World.ownsRow_made w #[] 0 (Ho _) (by decide) rfl
 have hcell:∀ (j:Nat) (u:Value),xs[j]?=some u->(w.alloc (.cells #[] 168)).cell? (ad.add j)=some u:=fun j u hj=>by
  have hjl:=(Ik.1 hj).1
  obtain ⟨b,off,e,hx⟩:=hc (by omega)
  injection e with e
  subst e
  have hcl:=hx j u hj
  have ea:(⟨b,off,none⟩:Addr).add j=⟨b,off+j,none⟩:=by simp only [Addr.add];split<;>simp_all
  rw [ea,World.cell?_alloc_lt _ _ _ (World.block_lt_of_cell? _ _ hcl)]
  exact hcl
 have HC:=aA hcell
 have HU:=aA h1
 clear hcell hc h1
 go_enter func130,ntmps130
 go_wp2_with (at_builtin;refine wpList_append_own _ rfl _ _ 237 rfl w.heap.size 168 i0 (.int .u64 0) 1 8 (by kernel_rfl) hi1 hi2 hi3 hi4 rfl (by decide) _ _ _ rfl (hw0 w) ad xs.length c xs rfl (by simp) HC.out HU.out (by unfold maxLen;omega) (by omega) (by simp) ?_;intro v' w1 hown hgr _)
 have hown':w1.ownsRow w.heap.size 168 1 v' xs.length xs:=by simpa using hown
 have hkeep:aj ak w w1:=((aj.refl ak w).alloc _).kR hgr (fun k e hk=>absurd hk (by have e':w.heap.size=k:=Option.some.inj e;omega))
 clear hown hgr
 go_wp2
 go_ret
 exact ⟨_,rfl,hown',hkeep⟩
section
variable {w w':World} {B X size:Nat} {W:List Nat}
theorem dS.cells (h:dS w B X size W):zH w (some ⟨X,0,none⟩) W.length (gY W):=by
 obtain ⟨cur,h2,h3⟩:=h.jv
 refine ⟨by simp [gY],fun _=>⟨X,0,rfl,fun j u hj=>?_⟩⟩
 rw [Nat.zero_add]
 exact h2.cell j (h3 j u hj)
theorem xw (h:dS w B X size W) (h1:1<=size):Calls ay 108 #[au B] w fun e w'=>∃ B' X',e = .returned (au B')/\dS w' B' X' size W/\w.heap.size<=B'/\w.heap.size<=X'/\aj ak w w':=by
 obtain ⟨cap,hb⟩:=h.aO
 have y0:=hb.cell 0 rfl
 have y1:=hb.cell 1 rfl
 have hlen:=h.len
 have hsz:=h.sz
 have HC:=aA (sH ⟨X,0,none⟩ W.length cap (gY W) w.drew (h.still (k:=(aj.refl ak w).drew)).cells (by omega) (fun u hu=>by obtain ⟨z,_,rfl⟩:=List.mem_map.1 hu;rfl))
 have H:=aA h
 have Fp:Hid (1<=W.length):=by unfold Hid;omega
 generalize DJ:W.length=wl at *
 have Fq:=aA DJ
 clear h hb hlen hsz h1 DJ
 go_enter func108,ntmps108
 go_wp2_with fail
 go_region_held3 (fun w'=>w'.cell? ⟨B,0,none⟩=some (.slice (some ⟨X,0,none⟩) wl cap)/\w'.cell? ⟨B,1,none⟩=some (ah (size:Int)))
  (first | exact ⟨y0, y1⟩ | exact ⟨dI.out.still y0, dI.out.still y1⟩ | exact ⟨(dI.out.alloc _).still y0, (dI.out.alloc _).still y1⟩ | fail "kV")
  ((go_at_call 130
    refine HC.out.mono ?_
    rintro e w1 ⟨v,rfl,hown,hk1⟩
    obtain ⟨g,cp,rfl,hge⟩:=yS hown Fp.out
    have Fv:=aA hge
    have HOWN:=aA hown
    have dI:=aA ((aj.refl ak w).drew.trans hk1)
    clear hown hk1 hge))
 obtain ⟨W2,hW2⟩:∃ W',W'=w1.alloc (.cells #[.slice (some ⟨g,0,none⟩) wl cp,ah (size:Int)] 244):=⟨_,rfl⟩
 rw [<- hW2]
 go_wp2_with fail
 go_ret
 have hk2:aj ak w1 W2:=by rw [hW2];exact (aj.refl _ _).alloc _
 refine ⟨w1.heap.size,g,rfl,⟨⟨cp,?_⟩,?_,H.out.len,H.out.lt,H.out.sz⟩,dI.out.size,Fv.out,dI.out.trans hk2⟩
 ·rw [hW2,Fq.out];exact aC.aS w1 _ _
 ·rcases HOWN.out.2 with ⟨h,_⟩|⟨g',cap',cur,hv,hb,hg,hn,hm,hs,hc⟩
  ·cases h
  ·cases hv
   refine ⟨cur.toList,hk2.aO (by unfold aC;simpa using hg) (fun f=>f),fun i v hi=>?_⟩
   rw [<- hc] at hi
   have hl:=(Ik.1 hi).1
   rw [IC (by simp at hl;omega)] at hi
   exact hi
end
def lW (w:World) (B X size:Nat) (s:Nat->Bool):Prop:=∃ W,dS w B X size W/\∀ n:Nat,sD size W (n:Int)=s n
section
variable {w w':World} {B X size:Nat} {s:Nat->Bool}
theorem lW.aB {S:Nat->Prop} (h:lW w B X size s) (k:aj S w w') (hB:¬ S B) (hX:¬ S X):lW w' B X size s:=by
 obtain ⟨W,h1,h2⟩:=h
 exact ⟨W,h1.aB k hB hX,h2⟩
end
end
section
attribute [local go_sem] Oper.semAt_some
open Go.RowKit
structure dh (w:World) (D:Nat->Nat) (H:HS):Prop where
 inj:∀ i j,i<13->j<13->D i=D j->i=j
 aO:aC w (D 0) [au (D 1),au (D 3),au (D 5),au (D 8),au (D 10),.slice (some ⟨D 12,0,none⟩) H.cells.length H.cells.length] 202
 vW:dP w (D 1) (D 2) H.A
 jY:eu w (D 3) (D 4) H.c H.K
 lists:∃ In,dU w (D 5) (D 6) (D 7) (D 1) (D 3) H.sz In H.F/\∀ n:Nat,sD H.sz In (n:Int)=H.AX n
 yH:lW w (D 8) (D 9) H.sz H.bn
 BF:lW w (D 10) (D 11) H.sz H.co
 DK:aC w (D 12) (fF H.cells) 3
 cb:H.c.b=H.b
 cw:H.c.w=H.ww
 cc:H.c.c=(H.cells.length:Int)
 lF:AZ H
 yT:dW w
 zO:fJ w
 o9:∀ i,i<13->D i≠2/\D i≠1/\D i≠11
section
variable {w w':World} {D:Nat->Nat} {H:HS}
theorem dh.Fz (h:dh w D H):1<=H.b/\H.b<=4096/\16<=H.ww/\H.ww<=256/\H.b*H.ww<=1048576:=oq h.jY.ok h.cb h.cw
theorem dh.aB {S:Nat->Prop} (h:dh w D H) (k:aj S w w') (hS:∀ i,i<13->¬ S (D i)) (h1:¬ S 2) (h2:¬ S 1) (h3:¬ S 11):dh w' D H:=by
 obtain ⟨In,hl,hi⟩:=h.lists
 exact ⟨h.inj,k.aO h.aO (hS 0 (by decide)),h.vW.aB k (hS 1 (by decide)) (hS 2 (by decide)),h.jY.aB k (hS 3 (by decide)) (hS 4 (by decide)),⟨In,hl.aB k (hS 5 (by decide)) (hS 6 (by decide)) (hS 7 (by decide)),hi⟩,
  h.yH.aB k (hS 8 (by decide)) (hS 9 (by decide)),h.BF.aB k (hS 10 (by decide)) (hS 11 (by decide)),k.aO h.DK (hS 12 (by decide)),h.cb,h.cw,h.cc,h.lF,h.yT.vg k h1 h2,h.zO.vg k h3,h.o9⟩
theorem dh.still (h:dh w D H) (k:aj ak w w'):dh w' D H:=h.aB k (fun _ _ f=>f) (fun f=>f) (fun f=>f) (fun f=>f)
theorem nC (h:dh w D H):Calls ay 77 #[au (D 0)] w fun e w'=>e = .returned (.agg H.c.cells.toArray)/\aj ak w w':=by
 obtain ⟨W0,hW0⟩:∃ W',W'=w.alloc (.cells #[ah 0,ah 0,ah 0,ah 0,ah 0,ah 0,ah 0] 23):=⟨_,rfl⟩
 have hk0:aj ak w W0:=by rw [hW0];exact (aj.refl _ _).alloc _
 have HC:=aA (ng (h.jY.still hk0))
 have y1:∀ o,(w.alloc o).cell? ⟨D 0,1,none⟩=some (au (D 3)):=fun o=>((aj.refl ak w).alloc o).still (h.aO.cell 1 rfl)
 have HO:Hid (aC W0 w.heap.size [ah 0,ah 0,ah 0,ah 0,ah 0,ah 0,ah 0] 23):=by rw [hW0];exact aC.aS w _ _
 have HK:=aA hk0
 generalize H.c=c at *
 obtain ⟨c0,c1,c2,c3,c4,c5,c6⟩:=c
 simp only [aI.cells] at *
 have GU:w.heap.size<=w.heap.size:=Ho _
 clear h hk0
 go_enter func77,ntmps77
 go_wp2_with fail
 rw [<- hW0]
 clear hW0
 refine HC.out.mono ?_
 rintro e w1 ⟨rfl,hk1⟩
 have dI:=aA (HK.out.trans hk1)
 have ho1:=hk1.aO HO.out (fun f=>f)
 clear hk1 HK HC HO y1
 generalize hO:w.heap.size=O at *
 have o0:=ho1.cell 0 rfl;have o1:=ho1.cell 1 rfl;have o2:=ho1.cell 2 rfl;have o3:=ho1.cell 3 rfl;have o4:=ho1.cell 4 rfl;have o5:=ho1.cell 5 rfl;have o6:=ho1.cell 6 rfl
 have f0:=ho1.free 0;have f1:=ho1.free 1;have f2:=ho1.free 2;have f3:=ho1.free 3;have f4:=ho1.free 4;have f5:=ho1.free 5;have f6:=ho1.free 6
 have FB:=aA ho1
 have FC:=aA hO
 clear ho1 hO
 go_wp2_with fail
 obtain ⟨W4,sJ⟩:∃ W',W'=(((((((w1.setCell ⟨O,0,none⟩ (ah c0)).setCell ⟨O,1,none⟩ (ah c1)).setCell ⟨O,2,none⟩ (ah c2)).setCell ⟨O,3,none⟩ (ah c3)).setCell ⟨O,4,none⟩ (ah c4)).setCell ⟨O,5,none⟩ (ah c5)).setCell ⟨O,6,none⟩ (ah c6)):=⟨_,rfl⟩
 rw [<- sJ]
 have hF:aC W4 O [ah c0,ah c1,ah c2,ah c3,ah c4,ah c5,ah c6] 23:=by rw [sJ];exact ((((((FB.out.set 0 _).set 1 _).set 2 _).set 3 _).set 4 _).set 5 _).set 6 _
 have k0:=hF.cell 0 rfl;have k1:=hF.cell 1 rfl;have k2:=hF.cell 2 rfl;have k3:=hF.cell 3 rfl;have k4:=hF.cell 4 rfl;have k5:=hF.cell 5 rfl;have k6:=hF.cell 6 rfl
 have hk4:aj ak w W4:=by
  rw [sJ]
  exact dI.out.gW (((((((((aj.refl (only O) w1).put 0 _).put 1 _).put 2 _).put 3 _).put 4 _).put 5 _).put 6 _)) (fun i hi e=>by unfold only at e;have:=FC.out;omega)
 refine bodyPost_ret (v := .agg #[ah c0,ah c1,ah c2,ah c3,ah c4,ah c5,ah c6]) (by simp [results,Tryz.f77,go_sem,k0,k1,k2,k3,k4,k5,k6]) rfl ⟨rfl,hk4⟩
end
section
variable {w w':World} {D:Nat->Nat} {H:HS}
theorem dh.DL (h:dh w D H) (i:Nat) (hi:i<13):D i<w.heap.size:=by
 obtain ⟨In,hl,_⟩:=h.lists
 obtain ⟨cap,hs1⟩:=hl.set.aO
 obtain ⟨cur,hs2,_⟩:=hl.set.jv
 obtain ⟨W1,hbn,_⟩:=h.yH
 obtain ⟨W2,hco,_⟩:=h.BF
 obtain ⟨cap1,hb1⟩:=hbn.aO
 obtain ⟨cur1,hb2,_⟩:=hbn.jv
 obtain ⟨cap2,hc1⟩:=hco.aO
 obtain ⟨cur2,hc2,_⟩:=hco.jv
 obtain ⟨ld,st,ha⟩:=h.vW.aO
 match i,hi with
 | 0,_=>exact h.aO.lt
 | 1,_=>exact ha.lt
 | 2,_=>exact h.vW.jv.lt
 | 3,_=>exact h.jY.aO.lt
 | 4,_=>exact h.jY.wZ.lt
 | 5,_=>exact hl.lt
 | 6,_=>exact hs1.lt
 | 7,_=>exact hs2.lt
 | 8,_=>exact hb1.lt
 | 9,_=>exact hb2.lt
 | 10,_=>exact hc1.lt
 | 11,_=>exact hc2.lt
 | 12,_=>exact h.DK.lt
theorem dh.Dw (h:dh w D H):2<w.heap.size/\1<w.heap.size/\11<w.heap.size :=
 ⟨h.yT.lt.1,h.yT.lt.2,h.zO.lt⟩
end
end
section
attribute [local go_sem ↓] jB
attribute [local go_sem] Oper.semAt_some
open Go.RowKit
def Dx (v:Value):Prop:=∀ n c,v = .slice none n c->c=0
def iY (o:Ow) (w:World) (b:Nat) (T:TypeId) (rest:List Value) (xs:List Nat):Prop:=o b≠0/\∃ v,aC w b (v::rest) T/\dK o w 3 v (fF xs)/\Dx v
section
variable {o:Ow} {w w':World} {b:Nat} {T:TypeId} {rest:List Value} {xs:List Nat}
theorem iY.aB {S:Nat->Prop} (h:iY o w b T rest xs) (k:aj S w w') (hb:¬ S b) (h0:∀ x,o x=0->¬ S x):iY o w' b T rest xs:=by
 obtain ⟨ho,v,h1,h2,h3⟩:=h
 exact ⟨ho,v,k.aO h1 hb,h2.aB k h0,h3⟩
theorem iY.ext {o':Ow} (h:iY o w b T rest xs) (e:aG w o o'):iY o' w b T rest xs:=by
 obtain ⟨ho,v,h1,h2,h3⟩:=h
 exact ⟨by rw [e b h1.lt];exact ho,v,h1,h2.ext e,h3⟩
end
end
section
open Go.RowKit
def iZ (o:Ow) (w:World):List (List Value × TypeId)->List Nat->Prop
 | [],bs=>bs=[]
 | (cs,T)::l,bs=>∃ b r,bs=b::r/\o b=0/\aC w b cs T/\iZ o w l r
abbrev aF (b:Nat):Value := au b
def aV (o:Ow) (w:World) (fn:Nat) (l:List (List Value × TypeId)) (v:Value):Prop:=∃ bs,v = .func (.func fn) #[] (bs.map aF).toArray/\iZ o w l bs
section
variable {o:Ow} {w w':World}
theorem iZ.aB {S:Nat->Prop} (k:aj S w w') (h0:∀ b,o b=0->¬ S b):∀ {l:List (List Value × TypeId)} {bs:List Nat},iZ o w l bs->iZ o w' l bs
 | [],_,h=>h
 | (cs,T)::l,bs,h=>by
   obtain ⟨b,r,e,h1,h2,h3⟩:=h
   exact ⟨b,r,e,h1,k.aO h2 (h0 b h1),iZ.aB k h0 h3⟩
theorem iZ.ext {o':Ow} (e:aG w o o'):∀ {l:List (List Value × TypeId)} {bs:List Nat},iZ o w l bs->iZ o' w l bs
 | [],_,h=>h
 | (cs,T)::l,bs,h=>by
   obtain ⟨b,r,e1,h1,h2,h3⟩:=h
   exact ⟨b,r,e1,(e b h2.lt).trans h1,h2,iZ.ext e h3⟩
theorem aV.aB {S:Nat->Prop} {fn:Nat} {l:List (List Value × TypeId)} {v:Value} (h:aV o w fn l v) (k:aj S w w') (h0:∀ b,o b=0->¬ S b):aV o w' fn l v:=by
 obtain ⟨bs,e,hc⟩:=h
 exact ⟨bs,e,hc.aB k h0⟩
theorem aV.ext {o':Ow} {fn:Nat} {l:List (List Value × TypeId)} {v:Value} (h:aV o w fn l v) (e:aG w o o'):aV o' w fn l v:=by
 obtain ⟨bs,e1,hc⟩:=h
 exact ⟨bs,e1,hc.ext e⟩
end
def kW (o:Ow) (w:World) (M:Nat):RD->Value->Prop
 | .bU base f _,v=>∃ op:bI,op.b=f/\aV o w 250 [([aF M],40),([ah (base:Int)],3),(op.cells,75)] v
 | .cell i _,v=>∃ op:bI,op.a=i/\aV o w 256 [([aF M],40),(op.cells,75)] v
def kX (o:Ow) (w:World) (M:Nat):RD->Value->Prop
 | .bU base f x,v=>∃ op:bI,op.b=f/\aV o w 252 [([aF M],40),([ah (base:Int)],3),(op.cells,75),([ah (x:Int)],3)] v
 | .cell i x,v=>∃ op:bI,op.a=i/\aV o w 257 [([aF M],40),(op.cells,75),([ah (x:Int)],3)] v
def fO (o:Ow) (w:World) (M:Nat) (rd:RD) (v:Value):Prop:=∃ wv,kX o w M rd wv/\aV o w 278 [([wv],1),([aF M],40)] v
def eX (o:Ow) (w:World) (Nt M:Nat):MD->Value->Prop
 | .nil,v=>v = .nilFunc
 | .jU op,v=>aV o w 189 [([aF M],40),(op.cells,75)] v
 | .once k,v=>∃ dv,aV o w 208 [([dv],1)] v/\(if k=1 then ∃ lv,aV o w 194 [([lv],1),([aF M],40)] dv/\aV o w 196 [([aF M],40)] lv
  else if k=2 then ∃ lv,aV o w 194 [([lv],1),([aF M],40)] dv/\aV o w 198 [] lv
  else if k=3 then ∃ lv,aV o w 194 [([lv],1),([aF M],40)] dv/\aV o w 199 [([aF M],40)] lv
  else if k=5 then ∃ lv,aV o w 194 [([lv],1),([aF M],40)] dv/\aV o w 203 [([aF M],40)] lv
  else ∃ lv,aV o w 194 [([lv],1),([aF M],40)] dv/\aV o w 204 [([aF M],40)] lv)
 | .lM x c t,v=>∃ tv av,eX o w Nt M t tv/\aV o w 210 [([aF Nt],157),([ah (x:Int)],3),([tv],151)] av/\aV o w 212 [([aF Nt],157),([ah (x:Int)],3),([ah (c:Int)],3),([tv],151),([av],150)] v
 | .add x t,v=>∃ tv,eX o w Nt M t tv/\aV o w 210 [([aF Nt],157),([ah (x:Int)],3),([tv],151)] v
 | .lN c t,v=>∃ tv,eX o w Nt M t tv/\aV o w 216 [([aF Nt],157),([tv],151),([ah (c:Int)],3)] v
 | .iH c f t,v=>∃ tv,eX o w Nt M t tv/\aV o w 235 [([aF Nt],157),([ah (c:Int)],3),([.bool f],4),([tv],151)] v
 | .jV t,v=>∃ tv,eX o w Nt M t tv/\aV o w 238 [([aF Nt],157),([tv],151)] v
 | .bU base f t,v=>∃ tv,eX o w Nt M t tv/\aV o w 273 [([aF M],40),([ah (base:Int)],3),([ah f],3),([tv],151)] v
 | .load op base,v=>aV o w 247 [([aF M],40),([ah (base:Int)],3),(op.cells,75)] v
 | .get op,v=>aV o w 254 [([aF M],40),(op.cells,75)] v
 | .lD x rd,v=>∃ rv lv,kW o w M rd rv/\fO o w M rd lv/\aV o w 279 [([rv],36),([aF M],40),([lv],150),([ah (x:Int)],3)] v
 | .last rd,v=>fO o w M rd v
 | .alloc op k,v=>aV o w 241 [([aF M],40),([ah (k:Int)],3),(op.cells,75)] v
 | .assign op k,v=>aV o w 244 [([aF M],40),(op.cells,75),([ah (k:Int)],3)] v
 | .jW op all,v=>2<=all.length/\∃ av,dK o w 3 av (fF all)/\aV o w 297 [([aF M],40),([av],57),([ah ((all.length - 1:Nat):Int)],3),(op.cells,75)] v
 | .jX op k,v=>aV o w 270 [([aF M],40),(op.cells,75),([ah (k:Int)],3)] v
 | .iq op k,v=>aV o w 293 [([aF M],40),([ah (k:Int)],3),(op.cells,75)] v
 | .dR _ _ _,_=>False
 | .fill op a,v=>aV o w 266 [([aF M],40),([ah (a:Int)],3),(op.cells,75)] v
 | .zero op a i,v=>aV o w 289 [([ah (i:Int)],3),(op.cells,75),([aF M],40),([ah (a:Int)],3)] v
def jZ (o:Ow) (w:World) (D0 q:Nat) (v:Value) (sl:List Nat) (c:Nat):Prop :=
 (v = .pointer none/\sl=[])\/∃ C b sv,v=aF C/\o C=q/\aC w C [aF D0,sv,ah (b:Int),ah (c:Int)] 367/\dK o w 3 sv (fF sl)
def jL (o:Ow) (w:World) (D0:Nat) (g:Nat × Nat) (q:Nat):MD->Value->Prop
 | .dR sl c t,v=>∃ cv tv,jZ o w D0 q cv sl c/\eX o w g.1 g.2 t tv/\aV o w 313 [([cv],352),([aF g.2],40),([tv],151)] v
 | d,v=>eX o w g.1 g.2 d v
theorem jL.of {o:Ow} {w:World} {D0:Nat} {g:Nat × Nat} {q:Nat} {d:MD} {v:Value} (h:eX o w g.1 g.2 d v):jL o w D0 g q d v:=by
 cases d<;>first|exact h|exact h.elim
structure cZ (w:World) (a:Option Addr) (n sz:Nat) (rs:List (List Value)):Prop where
 len:rs.length=n
 iD:0<n->∃ b off,a=some ⟨b,off,none⟩/\∀ i r,rs[i]?=some r->∀ j v,r[j]?=some v->w.cell? ⟨b,off+i*sz+j,none⟩=some v
theorem cZ.below {w w' a n sz rs} (h:cZ w a n sz rs) (k:aj ak w w'):cZ w' a n sz rs:=by
 refine ⟨h.len,fun h0=>?_⟩
 obtain ⟨b,off,e,hc⟩:=h.iD h0
 exact ⟨b,off,e,fun i r hi j v hj=>k.still (hc i r hi j v hj)⟩
theorem cZ.nil (w:World) (sz:Nat):cZ w none 0 sz []:=⟨rfl,fun h=>absurd h (Nat.lt_irrefl 0)⟩
theorem cZ.qY {w:World} {base n sz:Nat} {T:TypeId} {v:Value} {rs:List (List Value)} (h:w.ownsRow base T sz v n rs.flatten) (hr:∀ r∈rs,r.length=sz) (hn:rs.length=n) :
 ∃ a c,v = .slice a n c/\cZ w a n sz rs/\n<=c:=by
 obtain ⟨hl,hf⟩:=h
 have idx:∀ (rs:List (List Value)),(∀ r∈rs,r.length=sz)->∀ i r,rs[i]?=some r->∀ j v,r[j]?=some v->rs.flatten[i*sz+j]?=some v:=by
  intro rs
  induction rs with
  | nil=>intro _ i r h;simp at h
  | cons r0 rs ih =>
    intro hr i r hi j v hj
    have h0:r0.length=sz:=hr r0 (by simp)
    rw [List.flatten_cons]
    cases i with
    | zero =>
      simp at hi;subst hi
      have:=(Ik.1 hj).1
      rw [Nat.zero_mul,Nat.zero_add,List.getElem?_append_left (by omega)];exact hj
    | succ i =>
      have e:(i+1)*sz+j=r0.length+(i*sz+j):=by rw [Nat.succ_mul,h0];omega
      rw [e,List.getElem?_append_right (by omega),Nat.add_sub_cancel_left]
      exact ih (fun r h=>hr r (by simp [h])) i r (by simpa using hi) j v hj
 rcases hf with ⟨rfl,h0⟩|⟨g,cap,cur,rfl,_,hg,hnc,_,hs,hc⟩
 ·rcases Nat.eq_zero_or_pos n with hz|hz
  ·subst hz
   have:rs=[]:=List.eq_nil_of_length_eq_zero hn
   subst this
   exact ⟨none,0,rfl,cZ.nil _ _,Ho _⟩
  ·omega
 ·refine ⟨_,cap,rfl,⟨hn,fun _=>⟨g,0,rfl,fun i r hi j v hj=>?_⟩⟩,hnc⟩
  have h1:=idx rs hr i r hi j v hj
  rw [<- hc] at h1
  have hlt:i*sz+j<n*sz:=by
   have:=(Ik.1 h1).1
   simp at this;omega
  have h2:cur[i*sz+j]?=some v:=by
   rw [IC hlt] at h1
   simpa using h1
  simp [World.cell?,hg,h2]
end
section
open Go.RowKit Go.Deep
section
variable {P:Program} {w:World}
end
theorem nT {sz:Nat}:∀ (rs:List (List Value)),(∀ r∈rs,r.length=sz)->rs.flatten.length=rs.length*sz
 | [],_=>by simp
 | r::rs,h=>by
   have:=nT rs (fun r hr=>h r (by simp [hr]))
   have h0:=h r (by simp)
   simp [Nat.succ_mul,h0,this,Nat.add_comm]
end
section
open Go.RowKit
structure bK where
 S:Nat
 D:Nat->Nat
 B:Nat
 Q:Nat
 Fl:Nat
 bx:Nat->Nat
structure aZ (o:Ow) (w:World) (G:bK) (s:Sh):Prop where
 iF:fV o w
 sh:∃ v,aC w G.S [aF (G.D 0),aF G.B,aF G.Q,aF G.Fl,v] 144/\dK o w 145 v ((List.range s.aP.length).map fun i=>aF (G.bx i))
 oS:o G.S=0
 heap:dh w G.D s.H
 oD:∀ i,i<13->o (G.D i)=1
 o9:o 2=0/\o 1=0/\o 11=0
 pq:dZ w G.B s.B
 oB:o G.B=2
 pz:jG o w G.Q s.Q
 oQ:o G.Q=3
 jH:aC w G.Fl [.bool s.jH] 141
 oF:o G.Fl=4
 box:∀ i l,s.aP[i]?=some l->iY o w (G.bx i) 212 [] l/\o (G.bx i)=10+i
section
variable {o:Ow} {w w':World} {G:bK} {s:Sh} {I:List Nat}
theorem jG.aK {B:Nat} {q:Qu} {i:Nat} (h:jG o w B q) (k:aj (In o I) w w') (h0:I.contains 0=false) (hB:o B=i) (hI:I.contains i=false):jG o w' B q:=by
 obtain ⟨ho,hl,vs,hv,hb,hr⟩:=h
 exact ⟨ho,hl,vs,hv,hb.aK k hB hI,fun i v zs h1 h2=>(hr i v zs h1 h2).aK k h0⟩
theorem jG.nO {o':Ow} {B:Nat} {q:Qu} (h:jG o w B q) (e:aG w o o'):jG o' w B q:=by
 obtain ⟨ho,hl,vs,hv,hb,hr⟩:=h
 exact ⟨by rw [e B hb.lt];exact ho,hl,vs,hv,hb,fun i v zs h1 h2=>(hr i v zs h1 h2).ext e⟩
theorem iY.aK {b:Nat} {T:TypeId} {rest:List Value} {xs:List Nat} {i:Nat} (h:iY o w b T rest xs) (k:aj (In o I) w w') (h0:I.contains 0=false) (hB:o b=i) (hI:I.contains i=false):iY o w' b T rest xs :=
 h.aB k (bP hB hI) (fun x hx=>bP hx h0)
theorem aZ.qZ (h:aZ o w G s) (k:aj (In o I) w w') (h0:I.contains 0=false) (h1:I.contains 1=false):dh w' G.D s.H :=
 h.heap.aB k (fun i hi=>bP (h.oD i hi) h1) (bP h.o9.1 h0) (bP h.o9.2.1 h0) (bP h.o9.2.2 h0)
theorem aZ.qp {s':Sh} (h:aZ o w G s) (k:aj (In o I) w w') (h0:I.contains 0=false) (hH:dh w' G.D s'.H) (hB:dZ w' G.B s'.B) (hQ:jG o w' G.Q s'.Q) (hF:aC w' G.Fl [.bool s'.jH] 141)
 (hl:s'.aP.length=s.aP.length) (hX:∀ i l,s'.aP[i]?=some l->iY o w' (G.bx i) 212 [] l):aZ o w' G s':=by
 obtain ⟨v,hs1,hs2⟩:=h.sh
 refine ⟨h.iF.aB k,⟨v,hs1.aK k h.oS h0,?_⟩,h.oS,hH,h.oD,h.o9,hB,h.oB,hQ,h.oQ,hF,h.oF,fun i l hi=>⟨hX i l hi,?_⟩⟩
 ·rw [hl];exact hs2.aK k h0
 ·have hlt:=(Ik.1 hi).1
  exact (h.box i _ (List.getElem?_eq_getElem (by omega))).2
theorem aZ.yU (h:aZ o w G s) (k:aj (In o I) w w') (h0:I.contains 0=false) (hI:∀ i,i<s.aP.length->I.contains (10+i)=false):∀ i l,s.aP[i]?=some l->iY o w' (G.bx i) 212 [] l:=fun i l hi =>
 (h.box i l hi).1.aK k h0 (h.box i l hi).2 (hI i (Ik.1 hi).1)
theorem aZ.aK (h:aZ o w G s) (k:aj (In o I) w w') (hI:I.all (fun i=>decide (20<=i))=true) (h8:s.aP.length<=8):aZ o w' G s:=by
 have hge:∀ i,i<20->I.contains i=false:=fun i hi=>by
  rw [IE]
  intro hc
  have:=Iu.1 hI i (by simpa using hc)
  simp at this;omega
 exact h.qp k (hge 0 (by decide)) (h.qZ k (hge 0 (by decide)) (hge 1 (by decide))) (h.pq.aB k (bP h.oB (hge 2 (by decide)))) (h.pz.aK k (hge 0 (by decide)) h.oQ (hge 3 (by decide))) (h.jH.aK k h.oF (hge 4 (by decide))) rfl (h.yU k (hge 0 (by decide)) (fun i hi=>hge _ (by omega)))
theorem aZ.nU {B:Bd} (h:aZ o w G s) (k:aj (only G.B) w w') (hB:dZ w' G.B B):aZ o w' G { s with B:=B }/\aj (In o [2]) w w':=by
 have k1:aj (In o [2]) w w':=k.jA h.oB rfl
 exact ⟨h.qp (s':={ s with B:=B }) k1 rfl (h.qZ k1 rfl rfl) hB (h.pz.aK k1 rfl h.oQ rfl) (h.jH.aK k1 h.oF rfl) rfl (h.yU k1 rfl (fun i hi=>by simp;omega)),k1⟩
theorem aZ.move {o':Ow} (h:aZ o w G s) (k:aj (In o I) w w') (hI:I.all (fun i=>decide (20<=i))=true) (h8:s.aP.length<=8) (e:aG w o o') (hf:fV o' w'):aZ o' w' G s:=by
 have k':=k.nO e
 have hge:∀ i,i<20->I.contains i=false:=fun i hi=>by
  rw [IE]
  intro hc
  have:=Iu.1 hI i (by simpa using hc)
  simp at this;omega
 obtain ⟨v,hs1,hs2⟩:=h.sh
 have hg:=h.heap.Dw
 have DN:(o' G.Q:Nat)=3:=by
  obtain ⟨ho,hl,vs,hv,hb,hr⟩:=h.pz
  exact (e _ hb.lt).trans h.oQ
 refine ⟨hf,⟨v,hs1.aK k h.oS (hge 0 (by decide)),(hs2.ext e).aK k' (hge 0 (by decide))⟩,(e _ hs1.lt).trans h.oS,h.qZ k (hge 0 (by decide)) (hge 1 (by decide)),fun i hi=>(e _ (h.heap.DL i hi)).trans (h.oD i hi),⟨(e _ hg.1).trans h.o9.1,(e _ hg.2.1).trans h.o9.2.1,(e _ hg.2.2).trans h.o9.2.2⟩,
  h.pq.aB k (bP h.oB (hge 2 (by decide))),(e _ h.pq.aO.lt).trans h.oB,(h.pz.nO e).aK k' (hge 0 (by decide)) DN (hge 3 (by decide)),DN,h.jH.aK k h.oF (hge 4 (by decide)),(e _ h.jH.lt).trans h.oF,fun i l hi=>?_⟩
 obtain ⟨h1,h2⟩:=h.box i l hi
 obtain ⟨_,v',hb,_,_⟩:=id h1
 have h3:o' (G.bx i)=10+i:=(e _ hb.lt).trans h2
 exact ⟨(h1.ext e).aK k' (hge 0 (by decide)) h3 (hge _ (by have:=(Ik.1 hi).1;omega)),h3⟩
end
structure MG where
 M:Nat
 X:Nat
 Bf:Nat
 Nt:Nat
def kK:Option Ev->List Value
 | none=>[ah 0,ah 0,ah 0,ah 0,ah 0,ah 0,.bool false]
 | some e=>[ah 0,ah (e.iK:Int),ah (e.bM:Int),ah (e.op:Int),ah e.gy,ah (e.value:Int),.bool true]
def pF (G:bK) (g:MG) (m:MS) (ev:Option Ev) (pv rv nv:Value):List Value :=
 aF G.S::m.c.cells++[ah (m.id:Int),.slice (some ⟨g.X,0,none⟩) m.dL.length m.dL.length,aF g.Bf,aF g.Nt,ah (m.qg:Int),ah (m.aH:Int),ah (m.dw:Int),pv,rv,nv,ah (m.held:Int),ah (m.dN:Int),ah (m.most0:Int),ah (m.most1:Int),.bool m.Bq]++kK ev
def gZ (o:Ow) (w:World) (v:Value) (prog:List bI):Prop :=
 ∃ a c,v = .slice a prog.length c/\prog.length<=1000/\(0<prog.length->∃ b off cs,a=some ⟨b,off,none⟩/\o b=0/\aC w b cs 75/\∀ i op,prog[i]?=some op->∀ j u,op.cells[j]?=some u->cs[off+i*4+j]?=some u)
def yV (dQ:List (Int × Nat)):List Value:=(dQ.map fun r=>[Value.int .i64 r.1,Value.int .i64 (r.2:Int)]).flatten
def kY (o:Ow) (w:World) (i:Nat) (v:Value) (dQ:List (Int × Nat)):Prop:=w.ownsRow 0 328 2 v dQ.length (yV dQ)/\∀ b,v.ownBlock=some b->o b=20+i
structure nD (o:Ow) (w:World) (G:bK) (g:MG) (s:Sh) (m:MS) (ev:Option Ev) (nv:Value):Prop where
 sh:aZ o w G s
 aO:∃ pv rv,aC w g.M (pF G g m ev pv rv nv) 164/\gZ o w pv m.prog/\kY o w m.id rv m.dQ
 oM:o g.M=20+m.id
 dL:aC w g.X (fF m.dL) 3
 oX:o g.X=20+m.id
 gB:iY o w g.Bf 216 [ah m.c.l] m.gB
 zQ:o g.Bf=20+m.id
 nt:aC w g.Nt [aF (G.D 0),aF g.Bf,aF (G.bx m.id),aF G.Fl] 218
 zS:o g.Nt=0
 qC:m.id<s.aP.length
 box8:s.aP.length<=8
 BG:m.c=s.H.c
 nP:(m.dL.length:Int)=m.c.r
 BH:(m.gB.length:Int)<=m.c.l
section
variable {o:Ow} {w w':World} {G:bK} {g:MG} {s:Sh} {m:MS} {ev:Option Ev} {nv:Value}
theorem gZ.aK {I:List Nat} {v:Value} {p:List bI} (h:gZ o w v p) (k:aj (In o I) w w') (h0:I.contains 0=false):gZ o w' v p:=by
 obtain ⟨a,c,e,h1,h2⟩:=h
 refine ⟨a,c,e,h1,fun hp=>?_⟩
 obtain ⟨b,off,cs,e1,e2,e3,e4⟩:=h2 hp
 exact ⟨b,off,cs,e1,e2,e3.aK k e2 h0,e4⟩
theorem gZ.ext {o':Ow} {v:Value} {p:List bI} (h:gZ o w v p) (e:aG w o o'):gZ o' w v p:=by
 obtain ⟨a,c,e0,h1,h2⟩:=h
 refine ⟨a,c,e0,h1,fun hp=>?_⟩
 obtain ⟨b,off,cs,e1,e2,e3,e4⟩:=h2 hp
 exact ⟨b,off,cs,e1,(e b e3.lt).trans e2,e3,e4⟩
theorem kY.aK {I:List Nat} {i:Nat} {v:Value} {r:List (Int × Nat)} (h:kY o w i v r) (k:aj (In o I) w w') (hI:I.contains (20+i)=false):kY o w' i v r :=
 ⟨iP h.1 k (fun b hb=>bP (h.2 b hb) hI),h.2⟩
theorem kY.ext {o':Ow} {i:Nat} {v:Value} {r:List (Int × Nat)} (h:kY o w i v r) (e:aG w o o'):kY o' w i v r:=by
 refine ⟨h.1,fun b hb=>?_⟩
 obtain ⟨cur,hc⟩:∃ cur:Array Value,w.heap[b]?=some (.cells cur 328 (0,0)):=by
  rcases h.1.2 with ⟨e1,_⟩|⟨g,cap,cur,e1,_,hg,_⟩
  ·rw [e1] at hb;simp [Value.ownBlock] at hb
  ·rw [e1] at hb;simp [Value.ownBlock] at hb;subst hb;exact ⟨cur,hg⟩
 exact (e b (lt_of_block hc)).trans (h.2 b hb)
theorem nD.pG {s':Sh} {I:List Nat} (h:nD o w G g s m ev nv) (k:aj (In o I) w w') (h0:I.contains 0=false) (hi:I.contains (20+m.id)=false) (hs:aZ o w' G s') (hl:s'.aP.length=s.aP.length) (hc:s'.H.c=s.H.c):nD o w' G g s' m ev nv:=by
 obtain ⟨pv,rv,h1,h2,h3⟩:=h.aO
 exact ⟨hs,⟨pv,rv,h1.aK k h.oM hi,h2.aK k h0,h3.aK k hi⟩,h.oM,h.dL.aK k h.oX hi,h.oX,h.gB.aK k h0 h.zQ hi,h.zQ,h.nt.aK k h.zS h0,h.zS,by rw [hl];exact h.qC,by rw [hl];exact h.box8,h.BG.trans hc.symm,h.nP,h.BH⟩
theorem nD.still (h:nD o w G g s m ev nv) (k:aj ak w w'):nD o w' G g s m ev nv:=by
 have k0:aj (In o []) w w':=k.bZ
 exact h.pG k0 rfl rfl (h.sh.aK k0 rfl h.box8) rfl rfl
end
end
section
attribute [local go_sem] Oper.semAt_some
open Go.RowKit
def lX (w:World):List (List Value × TypeId)->World
 | []=>w
 | (cs,T)::l=>lX (w.alloc (.cells cs.toArray T)) l
def yX (n:Nat):List (List Value × TypeId)->List Nat
 | []=>[]
 | _::l=>n::yX (n+1) l
theorem sK {o:Ow}:∀ (l:List (List Value × TypeId)) (w:World),fV o w->iZ o (lX w l) l (yX w.heap.size l)/\aj ak w (lX w l)
 | [],w,_=>⟨rfl,aj.refl _ _⟩
 | (cs,T)::l,w,hf=>by
   have k:aj ak w (w.alloc (.cells cs.toArray T)):=(aj.refl _ _).alloc _
   obtain ⟨h1,h2⟩:=sK l (w.alloc (.cells cs.toArray T)) (hf.aB k)
   rw [World.size_alloc] at h1
   exact ⟨⟨w.heap.size,_,rfl,hf _ (Ho _),h2.aO (aC.aS w cs T) (fun f=>f),h1⟩,k.trans h2⟩
theorem kW.aB {o:Ow} {w w':World} {M:Nat} {S:Nat->Prop} {rd:RD} {v:Value} (h:kW o w M rd v) (k:aj S w w') (h0:∀ b,o b=0->¬ S b):kW o w' M rd v:=by
 cases rd with
 | bU base f x=>obtain ⟨op,e,h1⟩:=h;exact ⟨op,e,h1.aB k h0⟩
 | cell i x=>obtain ⟨op,e,h1⟩:=h;exact ⟨op,e,h1.aB k h0⟩
theorem kX.aB {o:Ow} {w w':World} {M:Nat} {S:Nat->Prop} {rd:RD} {v:Value} (h:kX o w M rd v) (k:aj S w w') (h0:∀ b,o b=0->¬ S b):kX o w' M rd v:=by
 cases rd with
 | bU base f x=>obtain ⟨op,e,h1⟩:=h;exact ⟨op,e,h1.aB k h0⟩
 | cell i x=>obtain ⟨op,e,h1⟩:=h;exact ⟨op,e,h1.aB k h0⟩
theorem fO.aB {o:Ow} {w w':World} {M:Nat} {S:Nat->Prop} {rd:RD} {v:Value} (h:fO o w M rd v) (k:aj S w w') (h0:∀ b,o b=0->¬ S b):fO o w' M rd v:=by
 obtain ⟨wv,h1,h2⟩:=h
 exact ⟨wv,h1.aB k h0,h2.aB k h0⟩
theorem kW.ext {o o':Ow} {w:World} {M:Nat} {rd:RD} {v:Value} (h:kW o w M rd v) (e:aG w o o'):kW o' w M rd v:=by
 cases rd with
 | bU base f x=>obtain ⟨op,e1,h1⟩:=h;exact ⟨op,e1,h1.ext e⟩
 | cell i x=>obtain ⟨op,e1,h1⟩:=h;exact ⟨op,e1,h1.ext e⟩
theorem kX.ext {o o':Ow} {w:World} {M:Nat} {rd:RD} {v:Value} (h:kX o w M rd v) (e:aG w o o'):kX o' w M rd v:=by
 cases rd with
 | bU base f x=>obtain ⟨op,e1,h1⟩:=h;exact ⟨op,e1,h1.ext e⟩
 | cell i x=>obtain ⟨op,e1,h1⟩:=h;exact ⟨op,e1,h1.ext e⟩
theorem fO.ext {o o':Ow} {w:World} {M:Nat} {rd:RD} {v:Value} (h:fO o w M rd v) (e:aG w o o'):fO o' w M rd v:=by
 obtain ⟨wv,h1,h2⟩:=h
 exact ⟨wv,h1.ext e,h2.ext e⟩
theorem eX.aB {o:Ow} {w w':World} {Nt M:Nat} {S:Nat->Prop} (k:aj S w w') (h0:∀ b,o b=0->¬ S b):∀ {d:MD} {v:Value},eX o w Nt M d v->eX o w' Nt M d v:=by
 intro d
 induction d with
 | nil=>intro v h;exact h
 | jU op=>intro v h;exact aV.aB h k h0
 | once q =>
   intro v h
   obtain ⟨dv,h1,h2⟩:=h
   refine ⟨dv,h1.aB k h0,?_⟩
   revert h2
   split
   ·rintro ⟨lv,h2,h3⟩;exact ⟨lv,h2.aB k h0,h3.aB k h0⟩
   split
   ·rintro ⟨lv,h2,h3⟩;exact ⟨lv,h2.aB k h0,h3.aB k h0⟩
   split
   ·rintro ⟨lv,h2,h3⟩;exact ⟨lv,h2.aB k h0,h3.aB k h0⟩
   split
   ·rintro ⟨lv,h2,h3⟩;exact ⟨lv,h2.aB k h0,h3.aB k h0⟩
   ·rintro ⟨lv,h2,h3⟩;exact ⟨lv,h2.aB k h0,h3.aB k h0⟩
 | lM x c t ih =>
   intro v h
   obtain ⟨tv,av,h1,h2,h3⟩:=h
   exact ⟨tv,av,ih h1,h2.aB k h0,h3.aB k h0⟩
 | add x t ih=>intro v h;obtain ⟨tv,h1,h2⟩:=h;exact ⟨tv,ih h1,h2.aB k h0⟩
 | lN c t ih=>intro v h;obtain ⟨tv,h1,h2⟩:=h;exact ⟨tv,ih h1,h2.aB k h0⟩
 | iH c f t ih=>intro v h;obtain ⟨tv,h1,h2⟩:=h;exact ⟨tv,ih h1,h2.aB k h0⟩
 | jV t ih=>intro v h;obtain ⟨tv,h1,h2⟩:=h;exact ⟨tv,ih h1,h2.aB k h0⟩
 | bU base f t ih=>intro v h;obtain ⟨tv,h1,h2⟩:=h;exact ⟨tv,ih h1,h2.aB k h0⟩
 | load op base=>intro v h;exact aV.aB h k h0
 | get op=>intro v h;exact aV.aB h k h0
 | lD x rd =>
   intro v h
   obtain ⟨rv,lv,h1,h2,h3⟩:=h
   exact ⟨rv,lv,h1.aB k h0,h2.aB k h0,h3.aB k h0⟩
 | last rd=>intro v h;exact fO.aB h k h0
 | alloc op q=>intro v h;exact aV.aB h k h0
 | assign op q=>intro v h;exact aV.aB h k h0
 | jW op all =>
   intro v h
   obtain ⟨h1,av,h2,h3⟩:=h
   exact ⟨h1,av,h2.aB k h0,h3.aB k h0⟩
 | jX op q=>intro v h;exact aV.aB h k h0
 | iq op q=>intro v h;exact aV.aB h k h0
 | dR sl c t=>intro v h;exact h.elim
 | fill op a=>intro v h;exact aV.aB h k h0
 | zero op a i=>intro v h;exact aV.aB h k h0
theorem eX.ext {o o':Ow} {w:World} {Nt M:Nat} (e:aG w o o'):∀ {d:MD} {v:Value},eX o w Nt M d v->eX o' w Nt M d v:=by
 intro d
 induction d with
 | nil=>intro v h;exact h
 | jU op=>intro v h;exact aV.ext h e
 | once q =>
   intro v h
   obtain ⟨dv,h1,h2⟩:=h
   refine ⟨dv,h1.ext e,?_⟩
   revert h2
   split
   ·rintro ⟨lv,h2,h3⟩;exact ⟨lv,h2.ext e,h3.ext e⟩
   split
   ·rintro ⟨lv,h2,h3⟩;exact ⟨lv,h2.ext e,h3.ext e⟩
   split
   ·rintro ⟨lv,h2,h3⟩;exact ⟨lv,h2.ext e,h3.ext e⟩
   split
   ·rintro ⟨lv,h2,h3⟩;exact ⟨lv,h2.ext e,h3.ext e⟩
   ·rintro ⟨lv,h2,h3⟩;exact ⟨lv,h2.ext e,h3.ext e⟩
 | lM x c t ih =>
   intro v h
   obtain ⟨tv,av,h1,h2,h3⟩:=h
   exact ⟨tv,av,ih h1,h2.ext e,h3.ext e⟩
 | add x t ih=>intro v h;obtain ⟨tv,h1,h2⟩:=h;exact ⟨tv,ih h1,h2.ext e⟩
 | lN c t ih=>intro v h;obtain ⟨tv,h1,h2⟩:=h;exact ⟨tv,ih h1,h2.ext e⟩
 | iH c f t ih=>intro v h;obtain ⟨tv,h1,h2⟩:=h;exact ⟨tv,ih h1,h2.ext e⟩
 | jV t ih=>intro v h;obtain ⟨tv,h1,h2⟩:=h;exact ⟨tv,ih h1,h2.ext e⟩
 | bU base f t ih=>intro v h;obtain ⟨tv,h1,h2⟩:=h;exact ⟨tv,ih h1,h2.ext e⟩
 | load op base=>intro v h;exact aV.ext h e
 | get op=>intro v h;exact aV.ext h e
 | lD x rd =>
   intro v h
   obtain ⟨rv,lv,h1,h2,h3⟩:=h
   exact ⟨rv,lv,h1.ext e,h2.ext e,h3.ext e⟩
 | last rd=>intro v h;exact fO.ext h e
 | alloc op q=>intro v h;exact aV.ext h e
 | assign op q=>intro v h;exact aV.ext h e
 | jW op all =>
   intro v h
   obtain ⟨h1,av,h2,h3⟩:=h
   exact ⟨h1,av,h2.ext e,h3.ext e⟩
 | jX op q=>intro v h;exact aV.ext h e
 | iq op q=>intro v h;exact aV.ext h e
 | dR sl c t=>intro v h;exact h.elim
 | fill op a=>intro v h;exact aV.ext h e
 | zero op a i=>intro v h;exact aV.ext h e
section
variable {o:Ow} {w w':World} {Nt M:Nat}
theorem eX.aK {I:List Nat} {d:MD} {v:Value} (h:eX o w Nt M d v) (k:aj (In o I) w w') (h0:I.contains 0=false):eX o w' Nt M d v:=h.aB k (fun b hb=>bP hb h0)
end
section
variable {o:Ow} {w w':World} {G:bK} {g:MG} {s:Sh} {m:MS} {ev:Option Ev} {nv0:Value}
theorem caps3 {l0 l1 l2:List Value × TypeId} {bs:List Nat} (h:iZ o w [l0,l1,l2] bs):∃ b0 b1 b2,bs=[b0,b1,b2]/\(o b0=0/\aC w b0 l0.1 l0.2)/\(o b1=0/\aC w b1 l1.1 l1.2)/\(o b2=0/\aC w b2 l2.1 l2.2):=by
 obtain ⟨b0,r0,rfl,o0,k0,b1,r1,rfl,o1,k1,b2,r2,rfl,o2,k2,rfl⟩:=h
 exact ⟨b0,b1,b2,rfl,⟨o0,k0⟩,⟨o1,k1⟩,⟨o2,k2⟩⟩
theorem caps2 {l0 l1:List Value × TypeId} {bs:List Nat} (h:iZ o w [l0,l1] bs):∃ b0 b1,bs=[b0,b1]/\(o b0=0/\aC w b0 l0.1 l0.2)/\(o b1=0/\aC w b1 l1.1 l1.2):=by
 obtain ⟨b0,r0,rfl,o0,k0,b1,r1,rfl,o1,k1,rfl⟩:=h
 exact ⟨b0,b1,rfl,⟨o0,k0⟩,⟨o1,k1⟩⟩
end
end
section
attribute [local go_sem ↓] jB
attribute [local go_sem] Oper.semAt_some
open Go.RowKit
theorem vX {P:Program} (w:World) (t ty e:TypeId) (ht:P.underlying t=some (.slice e)) {z:Value} {size bytes:Nat} (hi:(P.info? e).map (fun i=>(i.zero,i.size,i.bytes))=some (some z,size,bytes)) (hzs:z.cells.size=size) (h0:0<size)
 {v:Value} {n:Nat} {xs us:List Value} (hown:w.ownsRow 0 e size v n xs) {N:Nat} (hN:∀ j x,us[j]?=some x->w.cell? ⟨N,j,none⟩=some x) (GV:us.length=size) (hu:∀ u∈us,u.oneCell'=true) (hb:bytes<=1000) (hn:n<=100000000000) :
 ∃ g cap w',(Builtin.append_ #[t,t] ty #[v,.slice (some ⟨N,0,none⟩) 1 1]).run P w = .ok (.slice (some ⟨g,0,none⟩) (n+1) cap) w'/\w'.ownsRow 0 e size (.slice (some ⟨g,0,none⟩) (n+1) cap) (n+1) (xs++us) /\
  w.grownBy w' v.ownBlock/\(v.ownBlock=some g\/w.heap.size<=g):=by
 obtain ⟨i,hi1,hi2,hi3,hi4⟩:=info_parts hi
 have hbytes:(n+1)*bytes<=140737488355328:=Ii (Nat.mul_le_mul (show n+1<=100000000001 by omega) hb) (by decide)
 have hnews:∀ j x,us[j]?=some x->w.cell? ((⟨N,0,none⟩:Addr).add j)=some x:=by
  intro j x hj
  have ea:(⟨N,0,none⟩:Addr).add j=⟨N,j,none⟩:=by simp only [Addr.add];split<;>simp_all
  rw [ea];exact hN j x hj
 have hul1:us.length=1*size:=by omega
 have shape:∀ {v':Value} {W:World} {B:Nat},W.ownsRow B e size v' (n+1) (xs++us)->∃ g cap,v' = .slice (some ⟨g,0,none⟩) (n+1) cap/\B<=g:=by
  intro v' W B h
  rcases h.2 with ⟨_,h0'⟩|⟨g,cap,cur,rfl,hB,_⟩
  ·omega
  ·exact ⟨g,cap,rfl,hB⟩
 rcases hown.2 with ⟨rfl,rfl⟩|⟨g,cap,cur,rfl,hbg,hg,hnc,hcm,hcs,htake⟩
 ·have hown':w.ownsRow w.heap.size e size (.slice none 0 0) 0 xs:=⟨hown.1,.inl ⟨rfl,rfl⟩⟩
  obtain ⟨v',w',hr,h2,h3,_⟩:=run_append_own (P:=P) w w.heap.size t ty e i z size bytes ht hi1 hi2 hi3 hi4 hzs h0 _ 0 xs hown' ⟨N,0,none⟩ 1 1 us hul1 hnews hu (by unfold maxLen;omega) hbytes (Ho _)
  obtain ⟨g,cap,rfl,hB⟩:=shape h2
  exact ⟨g,cap,w',hr,iQ h2 (Nat.zero_le _),h3,.inr hB⟩
 ·by_cases hroom:n+1<=cap
  ·obtain ⟨w',hr,h2,h3⟩:=run_append_own_spare (P:=P) w 0 t ty e i size ht hi1 hi3 g n cap xs hown ⟨N,0,none⟩ 1 1 us hul1 hnews hu hroom
   exact ⟨g,cap,w',hr,h2,h3,.inl rfl⟩
  ·have holds:∀ j x,xs[j]?=some x->w.cell? ((⟨g,0,none⟩:Addr).add j)=some x:=hown.cells (g:=g) rfl
   obtain ⟨v',w',hr,h2,h3⟩:=run_append_arg_grows (P:=P) w t ty e i z size bytes ht hi1 hi2 hi3 hi4 hzs h0 ⟨g,0,none⟩ n cap xs hown.1 holds ⟨N,0,none⟩ 1 1 us hul1 hnews (by omega) (by unfold maxLen;omega) hbytes
   obtain ⟨g',cap',rfl,hB⟩:=shape h2
   exact ⟨g',cap',w',hr,iQ h2 (Nat.zero_le _),⟨h3.os,h3.tape,h3.output,h3.size,fun k hk _=>h3.block k hk (by simp)⟩,.inr hB⟩
section
variable {o:Ow} {w w':World} {G:bK} {g:MG} {s:Sh} {m:MS} {ev:Option Ev} {nv:Value}
theorem vY (ev:Option Ev):∃ a b c d e f t,kK ev=[a,b,c,d,e,f,t]:=by
 cases ev with
 | none=>exact ⟨_,_,_,_,_,_,_,rfl⟩
 | some x=>exact ⟨_,_,_,_,_,_,_,rfl⟩
end
end
section
attribute [local go_sem] Oper.semAt_some
open Go.RowKit
section
variable {o:Ow} {w w':World} {G:bK} {g:MG} {s:Sh} {m:MS} {nv:Value}
theorem BI:∀ (fn:Fn) (first cap:Array Value) (w:World),(Instr.makeFunc fn first cap).run ay w = .ok (.func fn first cap) w:=fun _ _ _ _=>rfl
end
section
variable {o:Ow} {w w':World} {G:bK} {s:Sh} {q:Nat} {v:Value} {sl:List Nat} {c:Nat}
theorem jZ.aK {I:List Nat} {D0:Nat} (h:jZ o w D0 q v sl c) (k:aj (In o I) w w') (h0:I.contains 0=false) (hq:I.contains q=false):jZ o w' D0 q v sl c:=by
 rcases h with h|⟨C,b,sv,h1,h2,h3,h4⟩
 ·exact .inl h
 ·exact .inr ⟨C,b,sv,h1,h2,h3.aK k h2 hq,h4.aK k h0⟩
theorem jZ.ext {o':Ow} {D0:Nat} (h:jZ o w D0 q v sl c) (e:aG w o o'):jZ o' w D0 q v sl c:=by
 rcases h with h|⟨C,b,sv,h1,h2,h3,h4⟩
 ·exact .inl h
 ·exact .inr ⟨C,b,sv,h1,(e C h3.lt).trans h2,h3,h4.ext e⟩
end
end
section
open Go.RowKit
section
variable {o:Ow} {w w':World} {G:bK} {g:MG} {s:Sh} {m:MS} {nv:Value} {ev:Option Ev} {N:Nat}
def fC (o:Ow) (w:World) (G:bK) (g:MG) (s:Sh) (m:MS):Prop:=∃ ev nv,nD o w G g s m ev nv/\jL o w (G.D 0) (g.Nt,g.M) (30+m.id) m.next nv
end
end
section
attribute [local go_sem] Oper.semAt_some
open Go.RowKit
section
variable {o o':Ow} {w w':World} {G:bK} {g:MG} {s:Sh} {m:MS} {nv:Value} {ev:Option Ev}
theorem jL.aK {D0 q:Nat} {gg:Nat × Nat} {d:MD} {v:Value} {I:List Nat} (h:jL o w D0 gg q d v) (k:aj (In o I) w w') (h0:I.contains 0=false) (hq:I.contains q=false):jL o w' D0 gg q d v:=by
 cases d with
 | dR sl c t =>
   obtain ⟨cv,tv,h1,h2,h3⟩:=h
   exact ⟨cv,tv,h1.aK k h0 hq,h2.aK k h0,h3.aB k (fun b hb=>bP hb h0)⟩
 | _=>exact jL.of (eX.aK (o:=o) (Nt:=gg.1) (M:=gg.2) h k h0)
theorem jL.ext {D0 q:Nat} {gg:Nat × Nat} {d:MD} {v:Value} (h:jL o w D0 gg q d v) (e:aG w o o'):jL o' w D0 gg q d v:=by
 cases d with
 | dR sl c t =>
   obtain ⟨cv,tv,h1,h2,h3⟩:=h
   exact ⟨cv,tv,h1.ext e,eX.ext e h2,h3.ext e⟩
 | _=>exact jL.of (eX.ext (o:=o) (Nt:=gg.1) (M:=gg.2) e h)
def kZ:Option Ev->Value
 | none => .agg #[ah 0,ah 0,ah 0,ah 0,ah 0,ah 0]
 | some e => .agg #[ah 0,ah (e.iK:Int),ah (e.bM:Int),ah (e.op:Int),ah e.gy,ah (e.value:Int)]
def jM (ev:Option Ev):Value := .bool ev.isSome
abbrev zero6:Array Value:=#[ah 0,ah 0,ah 0,ah 0,ah 0,ah 0]
end
end
section
open Go.RowKit
abbrev pI (fn C:Nat):Value := .func (.func fn) #[aF C] #[]
def bV (o:Ow) (w:World) (C:Nat):CD->Value->Prop
 | .nil,v=>v = .nilFunc
 | .iW m t,v=>∃ tv,bV o w C t tv/\aV o w 345 [([aF C],42),([ah (m:Int)],3),([tv],151)] v
 | .lS,v=>aV o w 339 [([aF C],42)] v
 | .rQ,v=>v=pI 340 C
 | .trace,v=>v=pI 343 C
 | .work,v=>v=pI 350 C
 | .over,v=>v=pI 364 C
 | .mW,v=>v=pI 376 C
 | .oP,v=>v=pI 377 C
 | .dR,v=>v=pI 383 C
 | .mP,v=>v=pI 388 C
 | .off,v=>aV o w 391 [([aF C],42)] v
 | .vO,v=>v=pI 392 C
 | .kS x t,v=>∃ tv,bV o w C t tv/\aV o w 357 [([aF C],42),([ah (x:Int)],3),([tv],151)] v
 | .cell i,v=>aV o w 351 [([aF C],42),([ah (i:Int)],3)] v
 | .gX a t,v=>∃ tv,bV o w C t tv/\aV o w 360 [([aF C],42),([ah (a:Int)],3),([tv],151)] v
 | .bU a i n t,v=>∃ tv,bV o w C t tv/\aV o w 369 [([aF C],42),([ah (a:Int)],3),([ah (i:Int)],3),([ah (n:Int)],3),([tv],151)] v
 | .box m,v=>aV o w 362 [([aF C],42),([ah (m:Int)],3)] v
 | .fP b,v=>aV o w 378 [([aF C],42),([ah (b:Int)],3)] v
 | .fA l t,v=>∃ tv lv,bV o w C t tv/\dK o w 3 lv (fF l)/\aV o w 381 [([aF C],42),([lv],57),([tv],151)] v
 | .je t,v=>∃ tv,bV o w C t tv/\aV o w 386 [([aF C],42),([tv],151)] v
 | .gJ b,v=>aV o w 384 [([aF C],42),([ah (b:Int)],3)] v
 | .block _,_=>False
def dD (o:Ow) (w:World) (D0 C col:Nat):CD->Value->Prop
 | .block sl,v=>∃ cv,jZ o w D0 40 cv sl col/\aV o w 393 [([cv],352),([aF C],42)] v
 | d,v=>bV o w C d v
theorem dD.of {o:Ow} {w:World} {D0 C col:Nat} {d:CD} {v:Value} (h:bV o w C d v):dD o w D0 C col d v:=by
 cases d<;>first|exact h|exact h.elim
section
variable {o o':Ow} {w w':World} {C:Nat}
theorem bV.aB {S:Nat->Prop} (k:aj S w w') (h0:∀ b,o b=0->¬ S b):∀ {d:CD} {v:Value},bV o w C d v->bV o w' C d v:=by
 intro d
 induction d with
 | iW m t ih=>intro v h;obtain ⟨tv,h1,h2⟩:=h;exact ⟨tv,ih h1,h2.aB k h0⟩
 | lS=>intro v h;exact aV.aB h k h0
 | off=>intro v h;exact aV.aB h k h0
 | kS x t ih=>intro v h;obtain ⟨tv,h1,h2⟩:=h;exact ⟨tv,ih h1,h2.aB k h0⟩
 | cell i=>intro v h;exact aV.aB h k h0
 | gX a t ih=>intro v h;obtain ⟨tv,h1,h2⟩:=h;exact ⟨tv,ih h1,h2.aB k h0⟩
 | bU a i n t ih=>intro v h;obtain ⟨tv,h1,h2⟩:=h;exact ⟨tv,ih h1,h2.aB k h0⟩
 | box m=>intro v h;exact aV.aB h k h0
 | fP b=>intro v h;exact aV.aB h k h0
 | gJ b=>intro v h;exact aV.aB h k h0
 | fA l t ih=>intro v h;obtain ⟨tv,lv,h1,h2,h3⟩:=h;exact ⟨tv,lv,ih h1,h2.aB k h0,h3.aB k h0⟩
 | je t ih=>intro v h;obtain ⟨tv,h1,h2⟩:=h;exact ⟨tv,ih h1,h2.aB k h0⟩
 | _=>intro v h;exact h
theorem bV.aK {I:List Nat} {d:CD} {v:Value} (h:bV o w C d v) (k:aj (In o I) w w') (h0:I.contains 0=false):bV o w' C d v:=bV.aB k (fun b hb=>bP hb h0) h
theorem bV.still {d:CD} {v:Value} (h:bV o w C d v) (k:aj ak w w'):bV o w' C d v:=bV.aB k (fun _ _ f=>f) h
theorem bV.ext (e:aG w o o'):∀ {d:CD} {v:Value},bV o w C d v->bV o' w C d v:=by
 intro d
 induction d with
 | iW m t ih=>intro v h;obtain ⟨tv,h1,h2⟩:=h;exact ⟨tv,ih h1,h2.ext e⟩
 | lS=>intro v h;exact aV.ext h e
 | off=>intro v h;exact aV.ext h e
 | kS x t ih=>intro v h;obtain ⟨tv,h1,h2⟩:=h;exact ⟨tv,ih h1,h2.ext e⟩
 | cell i=>intro v h;exact aV.ext h e
 | gX a t ih=>intro v h;obtain ⟨tv,h1,h2⟩:=h;exact ⟨tv,ih h1,h2.ext e⟩
 | bU a i n t ih=>intro v h;obtain ⟨tv,h1,h2⟩:=h;exact ⟨tv,ih h1,h2.ext e⟩
 | box m=>intro v h;exact aV.ext h e
 | fP b=>intro v h;exact aV.ext h e
 | gJ b=>intro v h;exact aV.ext h e
 | fA l t ih=>intro v h;obtain ⟨tv,lv,h1,h2,h3⟩:=h;exact ⟨tv,lv,ih h1,h2.ext e,h3.ext e⟩
 | je t ih=>intro v h;obtain ⟨tv,h1,h2⟩:=h;exact ⟨tv,ih h1,h2.ext e⟩
 | _=>intro v h;exact h
theorem bV.form {d:CD} {v:Value} (h:bV o w C d v):(jk d=true/\v = .nilFunc)\/(jk d=false/\∃ fn first caps,v = .func (.func fn) first caps):=by
 cases d with
 | nil=>exact .inl ⟨rfl,h⟩
 | iW m t=>obtain ⟨tv,_,bs,rfl,_⟩:=h;exact .inr ⟨rfl,_,_,_,rfl⟩
 | lS=>obtain ⟨bs,rfl,_⟩:=h;exact .inr ⟨rfl,_,_,_,rfl⟩
 | off=>obtain ⟨bs,rfl,_⟩:=h;exact .inr ⟨rfl,_,_,_,rfl⟩
 | kS x t=>obtain ⟨tv,_,bs,rfl,_⟩:=h;exact .inr ⟨rfl,_,_,_,rfl⟩
 | cell i=>obtain ⟨bs,rfl,_⟩:=h;exact .inr ⟨rfl,_,_,_,rfl⟩
 | gX a t=>obtain ⟨tv,_,bs,rfl,_⟩:=h;exact .inr ⟨rfl,_,_,_,rfl⟩
 | bU a i n t=>obtain ⟨tv,_,bs,rfl,_⟩:=h;exact .inr ⟨rfl,_,_,_,rfl⟩
 | box m=>obtain ⟨bs,rfl,_⟩:=h;exact .inr ⟨rfl,_,_,_,rfl⟩
 | fP b=>obtain ⟨bs,rfl,_⟩:=h;exact .inr ⟨rfl,_,_,_,rfl⟩
 | fA l t=>obtain ⟨tv,lv,_,_,bs,rfl,_⟩:=h;exact .inr ⟨rfl,_,_,_,rfl⟩
 | je t=>obtain ⟨tv,_,bs,rfl,_⟩:=h;exact .inr ⟨rfl,_,_,_,rfl⟩
 | gJ b=>obtain ⟨bs,rfl,_⟩:=h;exact .inr ⟨rfl,_,_,_,rfl⟩
 | block sl=>exact h.elim
 | _=>exact .inr ⟨rfl,_,_,_,h⟩
theorem dD.aK {D0 col:Nat} {d:CD} {v:Value} {I:List Nat} (h:dD o w D0 C col d v) (k:aj (In o I) w w') (h0:I.contains 0=false) (h5:I.contains 40=false):dD o w' D0 C col d v:=by
 cases d with
 | block sl =>
   obtain ⟨cv,h1,h2⟩:=h
   exact ⟨cv,h1.aK k h0 h5,h2.aB k (fun b hb=>bP hb h0)⟩
 | _=>exact dD.of (bV.aK (o:=o) (C:=C) h k h0)
theorem dD.still {D0 col:Nat} {d:CD} {v:Value} (h:dD o w D0 C col d v) (k:aj ak w w'):dD o w' D0 C col d v:=h.aK (I:=[]) k.bZ rfl rfl
theorem dD.ext {D0 col:Nat} {d:CD} {v:Value} (h:dD o w D0 C col d v) (e:aG w o o'):dD o' w D0 C col d v:=by
 cases d with
 | block sl =>
   obtain ⟨cv,h1,h2⟩:=h
   exact ⟨cv,h1.ext e,h2.ext e⟩
 | _=>exact dD.of (bV.ext (o:=o) (C:=C) e h)
theorem dD.form {D0 col:Nat} {d:CD} {v:Value} (h:dD o w D0 C col d v):(jk d=true/\v = .nilFunc)\/(jk d=false/\∃ fn first caps,v = .func (.func fn) first caps):=by
 cases d with
 | block sl=>obtain ⟨cv,_,bs,rfl,_⟩:=h;exact .inr ⟨rfl,_,_,_,rfl⟩
 | _=>exact bV.form (o:=o) (w:=w) (C:=C) h
end
end
end Go.Proofs.YtoamcpbapedofaaGreatDoor
