/- Parts of the fP. No conditions. -/
import Derived.Test.YtoamcpbapedofaaGreatDoorZzwh
import Derived.Lib.MinMax
namespace Go.Proofs.YtoamcpbapedofaaGreatDoor
open _root_.Go.IntWalk renaming i64_in->IG
open _root_.List renaming getD_eq_getElem?_getD->Ie,getElem?_eq_getElem->Hz,getElem?_eq_none->IX,getElem?_eq_some_iff->Ik,getElem?_map->I5,replicate->Ht
open _root_.Nat renaming le_refl->Ho,le_trans->Ii
open _root_.Go.Proofs.Tryz hiding prog
open _root_.Go.Proofs.Tryz renaming prog->ay
set_option maxRecDepth 10000
set_option maxHeartbeats 8000000
section
attribute [local go_sem ↓] jB
attribute [local go_sem] Oper.semAt_some
open Go.RowKit
section
variable {o0 o o':Ow} {w w' W W':World} {G:bK} {gs:List MG} {q:CG} {x y:WS} {v:Value} {Z:Nat} {I:List Nat} {l:List (Nat × Ev)}
theorem aY.Dc (h:aY o0 w W o G gs q x Z) (hc:gU o0 w W' o' G gs q y) (k:aj (In o I) W W') (h51:I.contains 51=false) (h52:I.contains 52=false) (h97:I.contains 97=false) (e:aG W o o') (hcc:y.s.H.c=x.s.H.c):aY o0 w W' o' G gs q { y with aU:=x.aU,aN:=x.aN } Z:=by
 obtain ⟨mv,ev,h1,h2,h3⟩:=h.aO
 refine ⟨hc.dn ⟨rfl,rfl,rfl⟩,⟨mv,ev,?_,h2.aB k h97 e,h3.aB k h52 e⟩,(e _ h1.lt).trans h.oZ⟩
 have:jQ G q { y with aU:=x.aU,aN:=x.aN } mv ev=jQ G q x mv ev:=by unfold jQ;rw [<- hcc]
 rw [this]
 exact h1.aK k h.oZ h51
theorem aY.nY {E:Nat} (h:aY o0 w W o G gs q x Z) (hE:o E=53) (i:Nat) (u:Value):aY o0 w (W.setCell ⟨E,i,none⟩ u) o G gs q x Z/\aj (In o [53]) W (W.setCell ⟨E,i,none⟩ u):=by
 have k:aj (In o [53]) W (W.setCell ⟨E,i,none⟩ u):=aj.jA ((aj.refl _ _).put i u) hE rfl
 exact ⟨h.gq k rfl rfl rfl rfl (aG.refl _ _) (h.cw.iF.later k.size),k⟩
theorem aY.lay6 {E:Nat} {b0 b1 b2 b3 b4 b5:Value} (h:aY o0 w W o G gs q x Z) (hE:o E=53) (hb:aC W E [b0,b1,b2,b3,b4,b5] 49) (a0 a1 a2 a3 a4 a5:Value):∃ V,V=(((((W.setCell ⟨E,0,none⟩ a0).setCell ⟨E,1,none⟩ a1).setCell ⟨E,2,none⟩ a2).setCell ⟨E,3,none⟩ a3).setCell ⟨E,4,none⟩ a4).setCell ⟨E,5,none⟩ a5/\aY o0 w V o G gs q x Z/\aj (In o [53]) W V/\aC V E [a0,a1,a2,a3,a4,a5] 49:=by
 obtain ⟨h0,k0⟩:=h.nY hE 0 a0
 obtain ⟨h1,k1⟩:=h0.nY hE 1 a1
 obtain ⟨h2,k2⟩:=h1.nY hE 2 a2
 obtain ⟨h3,k3⟩:=h2.nY hE 3 a3
 obtain ⟨h4,k4⟩:=h3.nY hE 4 a4
 obtain ⟨h5,k5⟩:=h4.nY hE 5 a5
 exact ⟨_,rfl,h5,((((k0.trans k1).trans k2).trans k3).trans k4).trans k5,(((((hb.set 0 a0).set 1 a1).set 2 a2).set 3 a3).set 4 a4).set 5 a5⟩
theorem aY.told (h:aY o0 w W o G gs q x Z) {E:Nat} {e:Ev} (hb:aC W E (dV (x.aN,e)) 49) (hlen:x.aU.length<=100000000) (hp:x.aN<=100000000):∃ ea ec b cap W5,W.cell? ⟨Z,10,none⟩=some (.slice ea x.aU.length ec) /\
 (app9 #[37,37] 37 #[.slice ea x.aU.length ec,.slice (some ⟨W.heap.size,0,none⟩) 1 1]).run ay (W.alloc (.cells (dV (x.aN,e)).toArray 49)).drew = .ok (.slice (some ⟨b,0,none⟩) (x.aU.length+1) cap) W5/\W5.frozen? ⟨Z,10,none⟩=false/\W5.cell? ⟨Z,10,none⟩=some (.slice ea x.aU.length ec) /\
 (W5.setCell ⟨Z,10,none⟩ (.slice (some ⟨b,0,none⟩) (x.aU.length+1) cap)).cell? ⟨Z,11,none⟩=some (ah (x.aN:Int))/\(W5.setCell ⟨Z,10,none⟩ (.slice (some ⟨b,0,none⟩) (x.aU.length+1) cap)).frozen? ⟨Z,11,none⟩=false /\
 ∃ o5,aG W o o5/\aY o0 w ((W5.setCell ⟨Z,10,none⟩ (.slice (some ⟨b,0,none⟩) (x.aU.length+1) cap)).setCell ⟨Z,11,none⟩ (ah ((x.aN:Int)+1))) o5 G gs q (x.dn (some e)) Z /\
  aj (In o [51,52]) W ((W5.setCell ⟨Z,10,none⟩ (.slice (some ⟨b,0,none⟩) (x.aU.length+1) cap)).setCell ⟨Z,11,none⟩ (ah ((x.aN:Int)+1))):=by
 obtain ⟨ma,mc,ea,ec,hz,hmv,hev,_⟩:=h.cells
 obtain ⟨W1,hW1⟩:∃ W1,W1=(W.alloc (.cells (dV (x.aN,e)).toArray 49)).drew:=⟨_,rfl⟩
 have k1:aj ak W W1:=by rw [hW1];exact ((aj.refl _ _).alloc _).drew
 have hN:aC W1 W.heap.size (dV (x.aN,e)) 49:=by rw [hW1];exact (aC.aS W _ _).drew
 have hcw1:=h.cw.l9 k1
 have hev1:fU o W1 (.slice ea x.aU.length ec) x.aU:=hev.aB (I:=[]) k1.bZ rfl (aG.refl _ _)
 obtain ⟨b,cap,W5,hrun,o5,e5,hcw5,hev5,k5⟩:=hev1.grow hcw1 (N:=W.heap.size) (p:=(x.aN,e)) (fun j u hj=>hN.cell j hj) hlen
 rw [hW1] at hrun
 have hz1:=k1.aO hz (fun f=>f)
 have hz5:=hz1.aK k5 h.oZ rfl
 have Df:o5 Z=51:=(e5 _ hz1.lt).trans h.oZ
 have hmv5:=(hmv.aB (I:=[]) k1.bZ rfl (aG.refl _ _)).aB k5 rfl e5
 have kz1:aj (In o5 [51]) W5 (W5.setCell ⟨Z,10,none⟩ (.slice (some ⟨b,0,none⟩) (x.aU.length+1) cap)):=aj.jA ((aj.refl _ _).put 10 _) Df rfl
 have hz6:=hz5.set 10 (.slice (some ⟨b,0,none⟩) (x.aU.length+1) cap)
 have kz2:aj (In o5 [51]) (W5.setCell ⟨Z,10,none⟩ (.slice (some ⟨b,0,none⟩) (x.aU.length+1) cap)) ((W5.setCell ⟨Z,10,none⟩ (.slice (some ⟨b,0,none⟩) (x.aU.length+1) cap)).setCell ⟨Z,11,none⟩ (ah ((x.aN:Int)+1))):=aj.jA ((aj.refl _ _).put 11 _) Df rfl
 have kz:=kz1.trans kz2
 refine ⟨ea,ec,b,cap,W5,hz.cell 10 rfl,hrun,hz5.free 10,hz5.cell 10 rfl,hz6.cell 11 rfl,hz6.free 11,o5,fun B hB=>e5 B (Nat.lt_of_lt_of_le hB k1.size),⟨?_,⟨.slice ma gs.length mc,.slice (some ⟨b,0,none⟩) (x.aU.length+1) cap,?_,hmv5.aB kz rfl (aG.refl _ _),?_⟩,Df⟩,?_⟩
 ·exact (hcw5.gq kz rfl (aG.refl _ _) (hcw5.iF.later kz.size)).dn ⟨rfl,rfl,rfl⟩
 ·have hz7:=hz6.set 11 (ah ((x.aN:Int)+1))
  exact hz7
 ·have:fU o5 ((W5.setCell ⟨Z,10,none⟩ (.slice (some ⟨b,0,none⟩) (x.aU.length+1) cap)).setCell ⟨Z,11,none⟩ (ah ((x.aN:Int)+1))) (.slice (some ⟨b,0,none⟩) (x.aU.length+1) cap) (x.aU++[(x.aN,e)]):=hev5.aB kz rfl (aG.refl _ _)
  exact this
 ·have ka:aj (In o [51,52]) W W1:=k1.bZ
  have kb:aj (In o [51,52]) W1 W5:=k5.qQ rfl
  have kc:aj (In o5 [51,52]) W5 _:=kz.qQ rfl
  exact ka.trans (kb.wY kc e5)
theorem aY.Dh (h:aY o0 w W o G gs q x Z):W.cell? ⟨Z,11,none⟩=some (ah (x.aN:Int))/\W.frozen? ⟨Z,11,none⟩=false/\aY o0 w (W.setCell ⟨Z,11,none⟩ (ah ((x.aN:Int)+1))) o G gs q (x.dn none) Z/\aj (In o [51]) W (W.setCell ⟨Z,11,none⟩ (ah ((x.aN:Int)+1))):=by
 obtain ⟨mv,ev,h1,_⟩:=h.aO
 refine ⟨h1.cell 11 rfl,h1.free 11,?_⟩
 exact h.put (y:=x.dn none) 11 (ah ((x.aN:Int)+1)) (fun mv ev=>rfl) ⟨rfl,rfl,rfl,rfl⟩
theorem zy (h:aY o0 w W o G gs q x Z) (i:Nat) (hi:i<=gs.length) (hg8:gs.length<=100) (hpk:x.aN<100000) (hlen:x.aU.length<=100000000) (ev:Option Ev) (y:WS) (T fn P:Nat)
 (hme : ∀ V : World, (method 494 T (.pointer (some ⟨P, 0, none⟩)) "Pick").run ay V = .ok (fn, .pointer (some ⟨P, 0, none⟩)) V) (hcf : ∀ (args : Array Value) (V : World), (callFunc fn args).run ay V = .ok (.enter fn args) V)
 (zZ:∀ V,aj ak W V->Calls ay 43 #[au Z,ah (i:Int)] V fun e V'=>e = .returned (.iface T (au P))/\V=V')
 (hpick:∀ V o1,aj ak W V->aG W o o1->aY o0 w V o1 G gs q x Z->Calls ay fn #[au P] V fun e V'=>e = .returned (.tuple #[kZ ev,jM ev])/\∃ o',aG V o1 o'/\aY o0 w V' o' G gs q { y with aU:=x.aU,aN:=x.aN } Z/\aj (In o1 I) V V') (hy:y=({ y with aU:=x.aU,aN:=x.aN }:WS).dn ev) (h0:I.contains 0=false) (h49:I.contains 49=false) (h53:I.contains 53=false) :
 Calls ay 13 #[au Z,ah (i:Int)] W fun e W'=>e = .returned (ah 0)/\∃ o',aG W o o'/\aY o0 w W' o' G gs q y Z/\aj (Nz o) W W':=by
 obtain ⟨W1,hW1⟩:∃ W1,W1=W.alloc (.cells zero6 49):=⟨_,rfl⟩
 have k1:aj ak W W1:=by rw [hW1];exact (aj.refl _ _).alloc _
 obtain ⟨o1,e1,h1,hE⟩:=h.CY (.cells zero6 49) 53 (Ho _)
 rw [<- hW1] at h1
 obtain ⟨ma,mc,ea,ec,hz,_⟩:=h.cells
 have y8:=hz.cell 8 (v := .slice ma gs.length mc) rfl
 have y11:=hz.cell 11 (v := ah (x.aN:Int)) rfl
 have Di:¬ (i:Int)<0:=by omega
 have hi1:¬ ((gs.length:Int)+1)<(i:Int):=by omega
 have hd0:decide ((i:Int)<0)=false:=rE Di
 have hd1:decide (((gs.length:Int)+1)<(i:Int))=false:=rE hi1
 have hwr:IntKind.i64.wrap ((gs.length:Int)+1)=(gs.length:Int)+1:=IG _ (by omega)
 have Fa:((x.aN:Int)==100000)=false:=by simp;omega
 have hE1:aC W1 W.heap.size zero6.toList 49:=by rw [hW1];exact aC.aS W _ _
 have Aa:Hid (Calls ay fn #[au P] W1 fun e V'=>e = .returned (.tuple #[kZ ev,jM ev])/\∃ o',aG W o o'/\aY o0 w V' o' G gs q { y with aU:=x.aU,aN:=x.aN } Z/\o' W.heap.size=53/\aC V' W.heap.size zero6.toList 49/\aj (Nz o1) W V'):=by
  refine (hpick W1 o1 k1 e1 h1).mono ?_
  rintro e V' ⟨rfl,o',e2,h2,k2⟩
  exact ⟨rfl,o',e1.trans k1.size e2,h2,(e2 _ hE1.lt).trans hE,hE1.aK k2 hE h53,(k1.CX).nI (k2.nz h0 h49) (aG.refl _ _)⟩
 have HY:=aA hy
 have Ey:Hid (∀ V,aj (Nz o1) W V->aj (Nz o) W V):=fun V k=>(aj.refl ak W).CX.nI k e1
 have Gj:Hid (∀ V,aj (Nz o1) W V->W.heap.size<=V.heap.size):=fun V k=>k.size
 have jO:Hid (x.aU.length<=100000000/\x.aN<=100000000):=⟨hlen,by omega⟩
 have HM:=aA (zZ W1 k1)
 have HW1:=aA hW1
 clear h hz zZ hi hg8 hpk hlen hW1 hy hpick h0 h49 h53 hE1 e1 h1 hE k1
 generalize gs.length=n at *
 go_enter func13,ntmps13
 go_wp2_with fail
 rw [<- HW1.out]
 refine HM.out.mono ?_
 rintro e V ⟨rfl,rfl⟩
 clear HM
 go_wp2_with fail
 cases ev with
 | none =>
   refine Aa.out.mono ?_
   rintro e V ⟨rfl,o2,e2,h2,hE2,hB2,k2⟩
   clear Aa
   obtain ⟨V3,jy,h3,k3,hB3⟩:=h2.lay6 hE2 hB2 (ah 0) (ah 0) (ah 0) (ah 0) (ah 0) (ah 0)
   obtain ⟨_,_,h4,k4⟩:=h3.Dh
   have r0:=hB2.cell 0 (v := ah 0) rfl;have r1:=hB2.cell 1 (v := ah 0) rfl;have r2:=hB2.cell 2 (v := ah 0) rfl;have r3:=hB2.cell 3 (v := ah 0) rfl;have r4:=hB2.cell 4 (v := ah 0) rfl;have r5:=hB2.cell 5 (v := ah 0) rfl
   have f0:=hB2.free 0;have f1:=hB2.free 1;have f2:=hB2.free 2;have f3:=hB2.free 3;have f4:=hB2.free 4;have f5:=hB2.free 5
   have eY:Hid (aY o0 w (V3.setCell ⟨Z,11,none⟩ (ah ((x.aN:Int)+1))) o2 G gs q y Z/\aj (Nz o) W (V3.setCell ⟨Z,11,none⟩ (ah ((x.aN:Int)+1)))):=by
    refine ⟨by rw [HY.out];exact h4,?_⟩
    exact ((Ey.out V k2).nI (k3.nz rfl rfl) e2).nI (k4.nz rfl rfl) e2
   rw [jy] at eY
   obtain ⟨mv,ev,hz2,_⟩:=h2.aO
   have y11:=hz2.cell 11 (v := ah (x.aN:Int)) rfl
   have f11:=hz2.free 11
   have Dj:¬ W.heap.size=Z:=fun e=>by have:=h2.oZ;rw [<- e,hE2] at this;omega
   have Gl:¬ Z=W.heap.size:=fun e=>Dj e.symm
   have hwp:IntKind.i64.wrap ((x.aN:Int)+1)=(x.aN:Int)+1:=IG _ (by have:=jO.out.2;omega)
   have HE2:=aA e2
   clear h2 hE2 hB2 k2 h3 k3 hB3 h4 k4 e2 jy hz2
   generalize W.heap.size=E at *
   unfold kZ jM
   simp only [Option.isSome_none]
   generalize x.aN=pk at *
   go_wp2_with fail
   go_ret
   exact ⟨rfl,o2,HE2.out,eY.out⟩
 | some ev =>
   refine Aa.out.mono ?_
   rintro e V ⟨rfl,o2,e2,h2,hE2,hB2,k2⟩
   clear Aa
   obtain ⟨V3,jy,h3,k3,hB3⟩:=h2.lay6 hE2 hB2 (ah 0) (ah (ev.iK:Int)) (ah (ev.bM:Int)) (ah (ev.op:Int)) (ah ev.gy) (ah (ev.value:Int))
   have r0:=hB2.cell 0 (v := ah 0) rfl;have r1:=hB2.cell 1 (v := ah 0) rfl;have r2:=hB2.cell 2 (v := ah 0) rfl;have r3:=hB2.cell 3 (v := ah 0) rfl;have r4:=hB2.cell 4 (v := ah 0) rfl;have r5:=hB2.cell 5 (v := ah 0) rfl
   have f0:=hB2.free 0;have f1:=hB2.free 1;have f2:=hB2.free 2;have f3:=hB2.free 3;have f4:=hB2.free 4;have f5:=hB2.free 5
   obtain ⟨h5,k5⟩:=h3.nY hE2 0 (ah (x.aN:Int))
   obtain ⟨V5,xY⟩:∃ V5,V5=V3.setCell ⟨W.heap.size,0,none⟩ (ah (x.aN:Int)):=⟨_,rfl⟩
   have jm:aC V5 W.heap.size (dV (x.aN,ev)) 49:=by rw [xY];exact hB3.set 0 (ah (x.aN:Int))
   rw [<- xY] at h5 k5
   obtain ⟨ea,ec,b,cap,W5,t10,hrun,fz,tz,t11,f11,o5,e5,h6,k6⟩:=h5.told (e:=ev) jm jO.out.1 jO.out.2
   have hsz:V5.heap.size=V.heap.size:=by rw [xY,jy];simp
   rw [hsz] at hrun
   have Fb:∀ u,(V5.alloc u).cell? ⟨Z,10,none⟩=some (.slice ea x.aU.length ec):=fun u=>((aj.refl ak V5).alloc u).still t10
   obtain ⟨mv,Dk,hz2,_⟩:=h2.aO
   have y11:=hz2.cell 11 (v := ah (x.aN:Int)) rfl
   have Dl:Dk = .slice ea x.aU.length ec:=by
    have h9:V5.cell? ⟨Z,10,none⟩=some Dk:=((k3.trans k5).aO hz2 (bP h2.oZ rfl)).cell 10 rfl
    rw [t10] at h9;exact (Option.some.inj h9).symm
   have y10:=hz2.cell 10 (v:=Dk) rfl
   rw [Dl] at y10
   have Dj:¬ W.heap.size=Z:=fun e=>by have:=h2.oZ;rw [<- e,hE2] at this;omega
   have Gl:¬ Z=W.heap.size:=fun e=>Dj e.symm
   have eY:Hid (aY o0 w ((W5.setCell ⟨Z,10,none⟩ (.slice (some ⟨b,0,none⟩) (x.aU.length+1) cap)).setCell ⟨Z,11,none⟩ (ah ((x.aN:Int)+1))) o5 G gs q y Z/\aj (Nz o) W ((W5.setCell ⟨Z,10,none⟩ (.slice (some ⟨b,0,none⟩) (x.aU.length+1) cap)).setCell ⟨Z,11,none⟩ (ah ((x.aN:Int)+1)))):=by
    refine ⟨by rw [HY.out];exact h6,?_⟩
    exact (((Ey.out V k2).nI (k3.nz rfl rfl) e2).nI (k5.nz rfl rfl) e2).nI (k6.nz rfl rfl) e2
   have Gm:Hid (aG W o o5):=e2.trans (Ii (Gj.out V k2) (Ii k3.size k5.size)) e5
   rw [xY,jy] at hrun Fb
   have hwp:IntKind.i64.wrap ((x.aN:Int)+1)=(x.aN:Int)+1:=IG _ (by have:=jO.out.2;omega)
   clear h2 hE2 hB2 k2 h3 k3 hB3 h5 k5 jm h6 k6 e2 e5 jy xY hz2 Dl t10 hsz
   generalize W.heap.size=E at *
   unfold kZ jM
   simp only [Option.isSome_some]
   simp only [dV] at hrun
   generalize x.aN=pk at *
   generalize x.aU.length=el at *
   go_wp2_with fail
   go_region
   go_wp2_with fail
   go_ret
   exact ⟨rfl,o5,Gm.out,eY.out⟩
end
end
section
attribute [local go_sem] Oper.semAt_some
open Go.RowKit
theorem xZ (P : Nat) (V : World) : (method 494 42 (.pointer (some ⟨P, 0, none⟩)) "Pick").run ay V = .ok (335, .pointer (some ⟨P, 0, none⟩)) V := by kernel_rfl
section
variable {o0 o o':Ow} {w w' W W':World} {G:bK} {gs:List MG} {q:CG} {x y:WS} {v:Value} {Z:Nat} {I:List Nat} {l:List (Nat × Ev)}
theorem aY.zA (h:aY o0 w W o G gs q x Z):gs.length=x.aJ.length:=h.cw.len
theorem aY.len8 (h:aY o0 w W o G gs q x Z):x.aJ.length<=8:=by
 rcases Nat.lt_or_ge 8 x.aJ.length with h8|h8
 ·have hl:=h.zA
  have hm:=h.cw.jc 8 (gs[8]'(by omega)) (x.aJ[8]'h8) (Hz _) (Hz _)
  have:=hm.1.qC
  have h2:=hm.2
  omega
 ·exact h8
theorem x9 (z:WS) (ev:Option Ev):z.dn ev=({ z.dn ev with aU:=z.aU,aN:=z.aN }:WS).dn ev:=by cases ev<;>rfl
theorem wI (h:aY o0 w W o G gs q x Z) (hpk:x.aN<100000) (n1:Nat) (hn1:n1=x.aJ.length+1) :
 Calls ay 13 #[au Z,ah (n1:Int)] W fun e W'=>e = .returned (ah 0)/\∃ o',aG W o o'/\aY o0 w W' o' G gs q (dJ x n1) Z/\aj (Nz o) W W':=by
 have h8:=h.len8
 have hl:=h.zA
 obtain ⟨W1,hW1⟩:∃ W1,W1=W.alloc (.cells zero6 49):=⟨_,rfl⟩
 have k1:aj ak W W1:=by rw [hW1];exact (aj.refl _ _).alloc _
 have h1:=h.still k1
 obtain ⟨ma,mc,ea,ec,hz,_⟩:=h.cells
 have y8:=hz.cell 8 (v := .slice ma gs.length mc) rfl
 have y11:=hz.cell 11 (v := ah (x.aN:Int)) rfl
 have y9:=(k1.aO hz (fun f=>f)).cell 9 (v := au q.C) rfl
 have Di:¬ (n1:Int)<0:=by omega
 have hi1:¬ ((gs.length:Int)+1)<(n1:Int):=by omega
 have hd0:decide ((n1:Int)<0)=false:=rE Di
 have hd1:decide (((gs.length:Int)+1)<(n1:Int))=false:=rE hi1
 have hwr:IntKind.i64.wrap ((gs.length:Int)+1)=(gs.length:Int)+1:=IG _ (by omega)
 have Fa:((x.aN:Int)==100000)=false:=by simp;omega
 have hwp:IntKind.i64.wrap ((x.aN:Int)+1)=(x.aN:Int)+1:=IG _ (by omega)
 have HM:=aA (wH (i:=n1) h1 (by omega))
 have Ez:Hid (Calls ay 44 #[au q.C] W1 fun e V'=>e = .returned (.tuple #[])/\V'.cell? ⟨Z,11,none⟩=some (ah (x.aN:Int))/\V'.frozen? ⟨Z,11,none⟩=false/\aY o0 w (V'.setCell ⟨Z,11,none⟩ (ah ((x.aN:Int)+1))) o G gs q (dJ x n1) Z/\aj (Nz o) W (V'.setCell ⟨Z,11,none⟩ (ah ((x.aN:Int)+1)))):=by
  refine (h1.cw.toCW.eF).mono ?_
  rintro e V' ⟨rfl,h2,k2⟩
  have hp2:dJ x (x.aJ.length+1)={ x with aT:={ x.aT with eF:=true },aN:=x.aN+1 }:=by
   unfold dJ
   rw [IX (by omega)]
   simp only
   rw [bT (by omega)]
   rfl
  have h3:=h1.Dc (h1.cw.of h2 (aG.refl _ _)) k2 rfl rfl rfl (aG.refl _ _) (by rw [hp2])
  obtain ⟨z1,z2,h4,k4⟩:=h3.Dh
  have z1':V'.cell? ⟨Z,11,none⟩=some (ah (x.aN:Int)):=z1
  have h4':aY o0 w (V'.setCell ⟨Z,11,none⟩ (ah ((x.aN:Int)+1))) o G gs q _ Z:=h4
  refine ⟨rfl,z1',z2,?_,((k1.CX).nI (k2.nz rfl rfl) (aG.refl _ _)).nI (k4.nz rfl rfl) (aG.refl _ _)⟩
  have e9:dJ x n1=({ dJ x (x.aJ.length+1) with aU:=x.aU,aN:=x.aN }:WS).dn none:=by
   rw [hn1,hp2];rfl
  rw [e9]
  exact h4'
 have HW1:=aA hW1
 generalize gs.length=n at *
 generalize x.aN=pk at *
 clear h hz hl h8 hpk hW1 h1 hn1 k1
 go_enter func13,ntmps13
 go_wp2_with fail
 rw [<- HW1.out]
 refine HM.out.mono ?_
 rintro e V ⟨rfl,rfl⟩
 clear HM
 go_wp2_with fail
 refine Ez.out.mono ?_
 rintro e V ⟨rfl,z1,z2,h4,k4⟩
 have eY:=aA (And.intro h4 k4)
 clear Ez h4 k4
 go_wp2_with fail
 go_ret
 exact ⟨rfl,o,aG.refl _ _,eY.out⟩
theorem qI (i:Int) (W:World):Calls ay 13 #[.pointer none,ah i] W fun e W'=>e = .returned (ah 11)/\W=W':=by
 go_enter func13,ntmps13
 go_wp2_with fail
 go_ret
 exact ⟨rfl,rfl⟩
end
section
variable {o0 o o':Ow} {w w' W W':World} {G:bK} {gs:List MG} {q:CG} {x y:WS} {v:Value} {Z:Nat} {I:List Nat} {l:List (Nat × Ev)}
theorem uV (n:Nat) (hn:n=x.aJ.length):dJ x n=({ x with s:=(bJ x.s x.aT).s,aT:=(bJ x.s x.aT).c }:WS).dn (bJ x.s x.aT).ev:=by
 unfold dJ
 rw [IX (by omega),hn]
 simp only [if_true]
theorem uy (h:aY o0 w W o G gs q x Z) (hpk:x.aN<100000) (hev:x.aU.length<=100000000) (n:Nat) (hn:n=x.aJ.length)
 (hcp:∀ V o1,dB o1 V G q x.s x.aT->Calls ay 335 #[au q.C] V (kL o1 V G q x.s x.aT)) :
 Calls ay 13 #[au Z,ah (n:Int)] W fun e W'=>e = .returned (ah 0)/\∃ o',aG W o o'/\aY o0 w W' o' G gs q (dJ x n) Z/\aj (Nz o) W W':=by
 have h8:=h.len8
 have hl:=h.zA
 have hs:(dJ x n).s=(bJ x.s x.aT).s:=by
  rw [uV n hn]
  exact (WS.pR _ _).1
 have Gn:n=gs.length:=by omega
 refine zy h n (by omega) (by omega) hpk hev (bJ x.s x.aT).ev (dJ x n) 42 335 q.C (I:=dF) (xZ q.C) (fun args V=>by simp [callFunc,func335,go_sem];rfl) (fun V k=>by rw [Gn];exact wG (h.still k)) (fun V o1 k e h1=>?_) ?_ jC rfl rfl
 ·refine (h1.cw.toCW.xU (hcp V o1 h1.cw.aT)).mono ?_
  rintro e V' ⟨rfl,o2,e2,h2,k2⟩
  rw [<- hn] at h2
  exact ⟨rfl,o2,e2,h1.Dc (h1.cw.of h2 e2) k2 rfl rfl rfl e2 (by rw [hs];exact (tq x.s x.aT).c),k2⟩
 ·rw [uV n hn]
  exact x9 _ _
theorem uz {N:Nat} (h:aY o0 w W o G gs q x Z) (ok:l7 N x) (hN:N<=100000000) (hpk:x.aN<100000) (n:Nat) (hn:n=x.aJ.length) (hnil:jk x.aT.next=true) (hws:x.aT.eF=true) :
 Calls ay 13 #[au Z,ah (n:Int)] W fun e W'=>e = .returned (ah 0)/\∃ o',aG W o o'/\aY o0 w W' o' G gs q (dJ x n) Z/\aj (Nz o) W W' :=
 uy h hpk (Ii ok.aU hN) n hn (fun V o1 hc=>by
  obtain ⟨ev,nv,h1,h2⟩:=hc
  exact uh h1 h2 ok.aT.k (by omega) hnil hws)
def fK (x:WS) (l:List Nat):WS:=l.foldl dJ x
theorem yc (x:WS) (l:List Nat) (i:Nat):fK x (l++[i])=dJ (fK x l) i:=by simp [fK]
theorem yg {x:WS} {l:List Nat} {j:Nat} (hj:j<l.length):fK x (l.take (j+1))=dJ (fK x (l.take j)) (l.getD j 0):=by
 rw [<- yc,List.take_add_one,Hz hj,Ie,Hz hj]
 rfl
theorem zB (h:aY o0 w W o G gs q x Z) (l:List Nat) (a:Option Addr) (c:Nat) (hc:yA .i64 W a l.length (l.map fun i:Nat=>(i:Int))) (hz:∀ b off,a=some ⟨b,off,none⟩->o b=0\/o b=49) (hl:l.length<=1000000)
 (hpk:∀ j V o1,j<l.length->aG W o o1->aj (Nz o) W V->aY o0 w V o1 G gs q (fK x (l.take j)) Z->Calls ay 13 #[au Z,ah (l.getD j 0:Int)] V fun e V'=>e = .returned (ah 0)/\∃ o',aG V o1 o'/\aY o0 w V' o' G gs q (dJ (fK x (l.take j)) (l.getD j 0)) Z/\aj (Nz o1) V V') :
 Calls ay 12 #[au Z,.slice a l.length c] W fun e W'=>e = .returned (.tuple #[ah (l.length:Int),ah 0])/\∃ o',aG W o o'/\aY o0 w W' o' G gs q (fK x l) Z/\aj (Nz o) W W':=by
 have HP:Hid (∀ j V o1,j<l.length->aG W o o1->aj (Nz o) W V->aY o0 w V o1 G gs q (fK x (l.take j)) Z->Calls ay 13 #[au Z,ah (l.getD j 0:Int)] V fun e V'=>e = .returned (ah 0)/\∃ o',aG W o o'/\aY o0 w V' o' G gs q (fK x (l.take (j+1))) Z/\aj (Nz o) W V'):=fun j V o1 hj e k hw=>by
  refine (hpk j V o1 hj e k hw).mono ?_
  rintro e' V' ⟨rfl,o',e2,h2,k2⟩
  exact ⟨rfl,o',e.trans k.size e2,by rw [yg hj];exact h2,k.nI k2 e⟩
 have HC:Hid (∀ j,j<l.length->∀ V,aj (Nz o) W V->∃ b off,a=some ⟨b,off,none⟩/\V.cell? ⟨b,off+j,none⟩=some (ah (l.getD j 0:Int))):=fun j hj V k=>by
  obtain ⟨b,off,e,hcc⟩:=hc.iD (by omega)
  refine ⟨b,off,e,k.uY ?_ (Nz.not (hz b off e))⟩
  have h9:=hcc j (by omega)
  rw [show (l.map fun i:Nat=>(i:Int)).getD j 0=(l.getD j 0:Int) by rw [Ie,Ie,I5,Hz hj];rfl] at h9
  exact h9
 have eY:Hid (fK x (l.take l.length)=fK x l):=by rw [Hid,List.take_length]
 obtain ⟨n,hn⟩:∃ n,n=l.length:=⟨_,rfl⟩
 rw [<- hn] at HP HC hl eY ⊢
 have HW0:=aA h
 clear hn hc hz hpk h
 go_enter func12,ntmps12
 go_wp2_with fail
 refine wp_scope_straight ?_
 go_wp2_with fail
 refine wp_label ?_
 go_wp2_with fail
 go_loopw [6,7,8,9,16] (fun nn e _ _ iv wr=>∃ (j:Nat) (o1:Ow),j<=n/\nn = ah n/\e = ah 0/\iv = ah j/\aG W o o1/\aY o0 w wr o1 G gs q (fK x (l.take j)) Z/\aj (Nz o) W wr) (fun _ _ _ _ iv _=>n - (intOf iv).toNat)
 case atStart=>exact ⟨0,o,Nat.zero_le _,rfl,rfl,rfl,aG.refl _ _,HW0.out,aj.refl _ _⟩
 case round =>
  obtain ⟨j,o1,hj,rfl,rfl,rfl,e,hw,k⟩:=hrel
  by_cases hlt:j<n
  ·have wu:(j:Int)<(n:Int):=by omega
   have hj0:(0:Int)<=(j:Int):=by omega
   obtain ⟨b,off,rfl,hcell⟩:=HC.out j hlt wr k
   have EC:=aA (HP.out j wr o1 hlt e k hw)
   clear e hw k HC HP
   go_wp2_with fail
   refine EC.out.mono ?_
   rintro e V ⟨rfl,o2,e2,h2,k2⟩
   have HI:=aA (And.intro e2 (And.intro h2 k2))
   clear EC hcell e2 h2 k2
   go_wp2_with fail
   go_roundw
   case rel=>exact ⟨j+1,o2,by omega,rfl,rfl,by go_num,HI.out⟩
   case measure=>simp [intOf]<;>omega
  ·obtain rfl:j=n:=by omega
   have wu:¬ (j:Int)<(j:Int):=by omega
   have HI:Hid (aG W o o1/\aY o0 w wr o1 G gs q (fK x l) Z/\aj (Nz o) W wr):=⟨e,by rw [<- eY.out];exact hw,k⟩
   clear e hw k HC HP hlt
   go_wp2_with fail
   go_ret2
   exact ⟨rfl,o1,HI.out⟩
end
theorem uD (a:Option Addr) (n c:Nat) (rs:List (List Value)) (w:World) (h:cZ w a n 6 rs) (hr:∀ r∈rs,r.length=6) (hnil:a=none->c=0) (hm:n<=100000000) (h1:∀ r∈rs,∀ u∈r,u.oneCell'=true) :
 Calls ay 45 #[.slice a n c] w fun e w'=>∃ v',e = .returned v'/\w'.ownsRow w.heap.size 49 6 v' n rs.flatten/\aj ak w w':=by
 have hlen:=nT rs hr
 have hnl:=h.len
 cases a with
 | none =>
   have h0:n=0:=by
    rcases Nat.eq_zero_or_pos n with h0|h0
    ·exact h0
    ·obtain ⟨b,off,e,_⟩:=h.iD h0;cases e
   subst h0
   have:rs=[]:=List.eq_nil_of_length_eq_zero hnl
   subst this
   obtain rfl:=hnil rfl
   clear h hr hnil hm h1 hlen hnl
   have hn:=fun w=>Lib.run_eql_slice_nil (P:=ay) w 37 49 none 0 0 0 0 (by kernel_rfl)
   go_enter func45,ntmps45
   go_wp2
   go_ret
   exact ⟨_,rfl,World.ownsRow_nil _ _ _ _,aj.refl _ _⟩
 | some ad =>
   have hn:=fun w=>Lib.run_eql_slice_nil (P:=ay) w 37 49 (some ad) n c 0 0 (by kernel_rfl)
   obtain ⟨i0,hi1,hi2,hi3,hi4⟩:=info_parts Tryz.infoEvent
   have hw0:∀ w:World,(w.alloc (.cells #[] 49)).ownsRow w.heap.size 49 6 (.slice (some ⟨w.heap.size,0,none⟩) 0 0) 0 []:=fun w=>World.ownsRow_made w #[] 0 (Ho _) (by decide) rfl
   have HC:=aA (fun j u hj=>(h.below ((aj.refl ak w).alloc (.cells #[] 49))).qH (by decide) hr rfl j u hj)
   have HU:Hid (∀ u∈rs.flatten,u.oneCell'=true):=fun u hu=>by
    obtain ⟨r,hr1,hr2⟩:=List.mem_flatten.1 hu
    exact h1 r hr1 u hr2
   rw [hnl] at hlen
   generalize rs.flatten=xs at *
   clear h hr hnil h1 hnl
   go_enter func45,ntmps45
   go_wp2_with (at_builtin;refine wpList_append_own _ rfl _ _ 37 rfl w.heap.size 49 i0 (.agg #[ah 0,ah 0,ah 0,ah 0,ah 0,ah 0]) 6 48 (by kernel_rfl) hi1 hi2 hi3 hi4 rfl (by decide) _ _ _ rfl (hw0 w) ad n c xs rfl hlen HC.out HU.out (by unfold maxLen;omega) (by omega) (by simp) ?_;intro v' w1 hown hgr _)
   have hown':w1.ownsRow w.heap.size 49 6 v' n xs:=by simpa using hown
   have hkeep:aj ak w w1:=((aj.refl ak w).alloc _).kR hgr (fun k e hk=>absurd hk (by have e':w.heap.size=k:=Option.some.inj e;omega))
   clear hown hgr
   go_wp2
   go_ret
   exact ⟨_,rfl,hown',hkeep⟩
theorem yh {l:List (Nat × Ev)}:∀ r∈l.map dV,∀ u∈r,u.oneCell'=true:=fun r hr u hu=>by
 obtain ⟨x,_,rfl⟩:=List.mem_map.1 hr
 simp [dV] at hu
 rcases hu with rfl|rfl|rfl|rfl|rfl|rfl<;>rfl
section
variable {o0 o o':Ow} {w w' W W':World} {G:bK} {gs:List MG} {q:CG} {x y:WS} {v:Value} {Z:Nat} {I:List Nat} {l:List (Nat × Ev)}
theorem fU.cut0 (h:fU o W v l):∀ V:World,(Instr.slice 37 v (some (ah 0)) none none).run ay V = .ok v V:=fun V=>by
 obtain ⟨i,hi1,hi2,_,_⟩:=info_parts Tryz.infoEvent
 have ht:ay.underlying 37=some (.slice 49):=by kernel_rfl
 rcases h.1.2 with ⟨rfl,e2⟩|⟨g',cap',cur,rfl,_⟩
 ·simp [Instr.slice,run_underlying ht,sizeOf,typeInfo,hi1,hi2,go_sem]
 ·simp [Instr.slice,run_underlying ht,sizeOf,typeInfo,hi1,hi2,go_sem,Addr.add]
theorem uF (h:aY o0 w W o G gs q x Z) (hl:x.aU.length<=100000000):Calls ay 16 #[au Z] W fun e W'=>∃ a c,e = .returned (.slice a x.aU.length c)/\cZ W' a x.aU.length 6 (x.aU.map dV)/\aj ak W W':=by
 have ED:Hid (Calls ay 17 #[au Z,ah 0] W fun e W'=>∃ a c,e = .returned (.slice a x.aU.length c)/\cZ W' a x.aU.length 6 (x.aU.map dV)/\aj ak W W'):=by
  obtain ⟨ma,mc,ea,ec,hz,_,hev,hn,hr,_⟩:=h.cells
  have y10:=hz.cell 10 (v := .slice ea x.aU.length ec) rfl
  have hcut:=hev.cut0
  have GI:W.drew.cell? ⟨Z,10,none⟩=some (.slice ea x.aU.length ec):=((aj.refl ak W).drew).still y10
  have uU:Hid (∀ V,aj ak W V->Calls ay 45 #[.slice ea x.aU.length ec] V fun e w'=>∃ a c,e = .returned (.slice a x.aU.length c)/\cZ w' a x.aU.length 6 (x.aU.map dV)/\aj ak W w'):=fun V k=>by
   refine (uD ea x.aU.length ec (x.aU.map dV) V (hr.below k) mg hn hl yh).mono ?_
   rintro e w' ⟨v',rfl,ho,hk⟩
   obtain ⟨a,c,rfl,hrec,_⟩:=cZ.qY ho mg (by simp)
   exact ⟨a,c,rfl,hrec,k.trans hk⟩
  have hmin:min (0:Int) (x.aU.length:Int)=0:=by omega
  generalize x.aU.length=n at *
  generalize x.aU.map dV=rs at *
  have hn0:¬ (n:Int)<0:=by omega
  clear h hz hev hn hr hl
  go_enter func17,ntmps17
  go_wp2_with fail
  refine fQ 13 rfl (by kernel_rfl) (by kernel_rfl) (fun K hK=>?_)
  change wpStill _ _ (World.drew _) _ _ _
  simp only [List.take_succ_cons,List.take_zero,List.drop_succ_cons,List.drop_zero] at hK ⊢
  repeat still_step
  refine wpStill_nil ?_
  change ite _ (Oper.wp _ _ _ _ _ _) _
  go_simp
  refine (uU.out _ ((aj.refl ak W).drew)).mono ?_
  rintro e w1 ⟨a,c,rfl,hrec,hk⟩
  refine hK _ _ ?_
  clear hK K
  repeat still_step
  refine wpStill_nil ?_
  go_wp2_with fail
  go_ret
  exact ⟨a,c,rfl,hrec,hk⟩
 clear h hl
 go_enter func16,ntmps16
 go_wp2_with fail
 refine ED.out.mono ?_
 rintro e w1 ⟨a,c,rfl,hrec,hk⟩
 have HR:=aA (And.intro hrec hk)
 clear ED hrec hk
 go_wp2_with fail
 go_ret
 exact ⟨a,c,rfl,HR.out.1,HR.out.2⟩
end
theorem nZ (a:Option Addr) (n c:Nat) (W:World):Calls ay 12 #[.pointer none,.slice a n c] W fun e W'=>e = .returned (.tuple #[ah 0,ah 11])/\W=W':=by
 go_enter func12,ntmps12
 go_wp2_with fail
 refine wp_scope_straight ?_
 go_wp2_with fail
 simp only [Exit.noGoto]
 go_ret2
 exact ⟨rfl,rfl⟩
theorem nJ (W:World):Calls ay 14 #[.pointer none] W fun e W'=>e = .returned (.agg #[ah 0,ah 0,ah 0,ah 0,ah 0,ah 0,ah 0])/\aj ak W W':=by
 obtain ⟨W0,hW0⟩:∃ W0,W0=W.alloc (.cells #[ah 0,ah 0,ah 0,ah 0,ah 0,ah 0,ah 0] 23):=⟨_,rfl⟩
 have hk:aj ak W W0:=by rw [hW0];exact (aj.refl _ _).alloc _
 have hb:aC W0 W.heap.size [ah 0,ah 0,ah 0,ah 0,ah 0,ah 0,ah 0] 23:=by rw [hW0];exact aC.aS W _ _
 have f0:=hb.free 0;have f1:=hb.free 1;have f2:=hb.free 2;have f3:=hb.free 3;have f4:=hb.free 4;have f5:=hb.free 5;have f6:=hb.free 6
 have r0:=hb.cell 0 (v := ah 0) rfl;have r1:=hb.cell 1 (v := ah 0) rfl;have r2:=hb.cell 2 (v := ah 0) rfl;have r3:=hb.cell 3 (v := ah 0) rfl;have r4:=hb.cell 4 (v := ah 0) rfl;have r5:=hb.cell 5 (v := ah 0) rfl;have r6:=hb.cell 6 (v := ah 0) rfl
 have HK:=aA hk
 have HW0:=aA hW0
 clear hk hb hW0
 go_enter func14,ntmps14
 go_wp2_with fail
 rw [<- HW0.out]
 refine bodyPost_ret (v := .agg #[ah 0,ah 0,ah 0,ah 0,ah 0,ah 0,ah 0]) (by simp [results,Tryz.f14,go_sem,r0,r1,r2,r3,r4,r5,r6]) rfl ⟨rfl,HK.out⟩
theorem pW (W:World):Calls ay 15 #[.pointer none] W fun e W'=>e = .returned (ah 0)/\W=W':=by
 go_enter func15,ntmps15
 go_wp2_with fail
 go_ret
 exact ⟨rfl,rfl⟩
theorem lC (i:Int) (W:World):Calls ay 17 #[.pointer none,ah i] W fun e W'=>e = .returned (.slice none 0 0)/\W=W':=by
 go_enter func17,ntmps17
 go_wp2_with fail
 go_ret
 exact ⟨rfl,rfl⟩
theorem nK (W:World):Calls ay 16 #[.pointer none] W fun e W'=>e = .returned (.slice none 0 0)/\W=W':=by
 have H:=aA (lC 0 W)
 go_enter func16,ntmps16
 go_wp2_with fail
 refine H.out.mono ?_
 rintro e w1 ⟨rfl,rfl⟩
 go_wp2_with fail
 go_ret
 exact ⟨rfl,rfl⟩
theorem tJ (i:Int) (W:World):Calls ay 18 #[.pointer none,ah i] W fun e W'=>e = .returned (.pointer none)/\W=W':=by
 go_enter func18,ntmps18
 go_wp2_with fail
 go_ret
 exact ⟨rfl,rfl⟩
theorem qJ (W:World):Calls ay 19 #[.pointer none] W fun e W'=>e = .returned (.pointer none)/\W=W':=by
 go_enter func19,ntmps19
 go_wp2_with fail
 go_ret
 exact ⟨rfl,rfl⟩
theorem nM (W:World):Calls ay 20 #[.pointer none] W fun e W'=>e = .returned (.pointer none)/\W=W':=by
 go_enter func20,ntmps20
 go_wp2_with fail
 go_ret
 exact ⟨rfl,rfl⟩
theorem qK (W:World):Calls ay 21 #[.pointer none] W fun e W'=>e = .returned (.bool false)/\W=W':=by
 go_enter func21,ntmps21
 go_wp2_with fail
 go_ret
 exact ⟨rfl,rfl⟩
theorem qL (W:World):Calls ay 22 #[.pointer none] W fun e W'=>e = .returned (.bool false)/\W=W':=by
 go_enter func22,ntmps22
 go_wp2_with fail
 go_ret
 exact ⟨rfl,rfl⟩
structure pX (w:World):Prop where
 t:dW w
 s:fJ w
 g:2<w.heap.size/\1<w.heap.size/\11<w.heap.size
theorem pX.aB {w w':World} (h:pX w) (k:aj ak w w'):pX w':=⟨h.t.aB k,h.s.aB k,by have:=k.size;have:=h.g;omega⟩
theorem yj {c:aI} {ps:List (List bI)} (hok:c.ok=true):l7 0 (dO c ps):=by
 obtain ⟨n,hn⟩:∃ n:Nat,c.m=(n:Int):=⟨c.m.toNat,by have:=dH hok;omega⟩
 have hn2:c.m.toNat=n:=by omega
 have hb:=dH hok
 have hq:∀ k,(dO c ps).s.Q.rw k=[]:=fun k=>by
  show ([[],[],[],[]]:List (List Int)).getD k []=[]
  match k with
  | 0=>rfl
  | 1=>rfl
  | 2=>rfl
  | 3=>rfl
  | k+4=>rfl
 have hqo:eH (dO c ps).s:=fun k b hx=>by rw [hq k] at hx;cases hx
 have hl:(dO c ps).s.aP.length=n:=by
  show (Ht c.m.toNat []).length=n
  rw [List.length_replicate];omega
 refine ⟨by show ((List.range c.m.toNat).map _).length=c.m.toNat;simp,fun i m hm=>?_,?_,Ho _,Ho _⟩
 ·have hm':((List.range c.m.toNat).map (fun j=>MS.aS c j (ps.getD j [])))[i]?=some m:=hm
  rw [I5] at hm'
  have hlt:i<c.m.toNat:=by
   rcases Nat.lt_or_ge i c.m.toNat with g|g
   ·exact g
   ·rw [IX (by simpa using g)] at hm';cases hm'
  rw [Hz (by simpa using hlt)] at hm'
  simp at hm'
  subst hm'
  exact ⟨rfl,mZ.first i _ hqo rfl (by omega)⟩
 ·have:CS.aS c c.m.toNat=CS.aS c n:=by rw [hn2]
  show su 0 (dO c ps).s (CS.aS c c.m.toNat)
  rw [this]
  exact CK.first hok hn hl hqo rfl hq rfl
def aw22:aI:=⟨1,16,1,1,0,1,1⟩
theorem uX:aw22.ok=true:=by decide
theorem qo:(fK (dO aw22 []) [2,1]).aU=[(1,⟨1,2,0,0,1⟩)]:=by rfl
theorem uG (w:World) (hT:pX w):Calls ay 23 #[] w fun e w'=>e = .returned (.bool true)/\aj ak w w':=by
 have tC:Hid (Calls ay 10 #[.agg aw22.cells.toArray,.slice none 0 0] w fun e w'=>∃ (o:Ow) (G:bK) (gs:List MG) (q:CG) (Z:Nat),e = .returned (.tuple #[au Z,ah 0])/\aY (fun _=>0) w w' o G gs q (dO aw22 []) Z):=by
  refine (mD (fun _=>0) (fun _ => .inl rfl) ⟨rfl,rfl,rfl⟩ hT.t hT.s hT.g aw22 uX [] none 0 0 ⟨rfl,fun i p hi=>by simp at hi⟩ (by decide)).mono ?_
  rintro e w' (⟨o,G,gs,q,Z,rfl,h,_⟩|⟨_,_,p,hp,_⟩)
  ·exact ⟨o,G,gs,q,Z,rfl,h⟩
  ·cases hp
 have Dn:Hid (∀ W o G gs q Z,aY (fun _=>0) w W o G gs q (dO aw22 []) Z->Calls ay 12 #[au Z,.slice (some ⟨W.heap.size,0,none⟩) 2 2] (W.alloc (.cells #[ah 2,ah 1] 3)) fun e W'=>e = .returned (.tuple #[ah 2,ah 0])/\∃ o',aY (fun _=>0) w W' o' G gs q (fK (dO aw22 []) [2,1]) Z):=fun W o G gs q Z h=>by
  have k1:aj ak W (W.alloc (.cells #[ah 2,ah 1] 3)):=(aj.refl _ _).alloc _
  have hb:aC (W.alloc (.cells #[ah 2,ah 1] 3)) W.heap.size [ah 2,ah 1] 3:=aC.aS W _ _
  have h1:=h.still k1
  have hml:(dO aw22 []).aJ.length=1:=rfl
  refine (zB h1 [2,1] (some ⟨W.heap.size,0,none⟩) 2 ⟨rfl,fun _=>⟨_,0,rfl,fun j hj=>?_⟩⟩ (fun b off e=>by cases e;exact .inl (h.cw.iF _ (Ho _))) (by decide) (fun j V o1 hj e k hw=>?_)).mono ?_
  ·have hj2:j<2:=hj
   rw [Nat.zero_add]
   rcases (by omega:j=0\/j=1) with rfl|rfl
   ·exact hb.cell 0 rfl
   ·exact hb.cell 1 rfl
  ·have hj2:j<2:=hj
   have hok0:l7 0 (dO aw22 []):=yj uX
   rcases (by omega:j=0\/j=1) with rfl|rfl
   ·exact wI hw (by decide) 2 (by rfl)
   ·have hok1:l7 1 (fK (dO aw22 []) [2]):=zq hok0 h.cw.aT.sh.heap.jl 2
    exact uz hw hok1 (by decide) (by decide) 1 (by rfl) (by rfl) (by rfl)
  ·rintro e W' ⟨rfl,o',_,h9,_⟩
   exact ⟨rfl,o',h9⟩
 have EF:Hid (∀ W o G gs q Z,aY (fun _=>0) w W o G gs q (fK (dO aw22 []) [2,1]) Z->Calls ay 16 #[au Z] W fun e W'=>∃ b off c,e = .returned (.slice (some ⟨b,off,none⟩) 1 c)/\W'.cell? ⟨b,off,none⟩=some (ah 1)/\W'.cell? ⟨b,off+1,none⟩=some (ah 1)/\W'.cell? ⟨b,off+2,none⟩=some (ah 2)/\W'.cell? ⟨b,off+3,none⟩=some (ah 0)/\W'.cell? ⟨b,off+4,none⟩=some (ah 0)/\W'.cell? ⟨b,off+5,none⟩=some (ah 1)/\aj ak w W'):=fun W o G gs q Z h=>by
  refine (uF h (by rw [qo];decide)).mono ?_
  rintro e W' ⟨a,c,rfl,hr,hk⟩
  rw [qo] at hr
  obtain ⟨b,off,rfl,hc⟩:=hr.iD (by decide)
  have h0:=hc 0 _ rfl
  refine ⟨b,off,c,by rw [qo];rfl,?_,?_,?_,?_,?_,?_,h.cw.aB.trans hk⟩
  ·exact h0 0 _ rfl
  ·exact h0 1 _ rfl
  ·exact h0 2 _ rfl
  ·exact h0 3 _ rfl
  ·exact h0 4 _ rfl
  ·exact h0 5 _ rfl
 have hce:aw22.cells.toArray=#[ah 1,ah 16,ah 1,ah 1,ah 0,ah 1,ah 1]:=rfl
 rw [hce] at tC
 clear hT hce
 generalize fK (dO aw22 []) [2,1]=y at *
 generalize dO aw22 []=x at *
 go_enter func23,ntmps23
 go_wp2_with fail
 refine tC.out.mono ?_
 rintro e w1 ⟨o,G,gs,q,Z,rfl,h1⟩
 have HR1:=aA (Dn.out w1 o G gs q Z h1)
 clear h1 tC Dn
 go_wp2_with fail
 refine HR1.out.mono ?_
 rintro e w2 ⟨rfl,o2,h2⟩
 have HE2:=aA (EF.out w2 o2 G gs q Z h2)
 clear h2 EF HR1
 go_wp2_with fail
 refine HE2.out.mono ?_
 rintro e w3 ⟨b,off,c,rfl,c0,c1,c2,c3,c4,c5,k3⟩
 have HK:=aA k3
 clear k3 HE2
 go_wp2_with fail
 go_ret
 exact ⟨rfl,HK.out⟩
end
section
open Go.RowKit
theorem wJ (c:aI) (w:World):Calls ay 9 #[.agg c.cells.toArray] w fun e w'=>e = .returned (.bool c.ok)/\aj ak w w':=by
 obtain ⟨b,ww,m,r,cc,l,s⟩:=c
 obtain ⟨b0,h0⟩:∃ x,x=decide (1<=b/\b<=4096):=⟨_,rfl⟩
 obtain ⟨b1,h1⟩:∃ x,x=decide (16<=ww/\ww<=256):=⟨_,rfl⟩
 obtain ⟨b2,h2⟩:∃ x,x=decide (1<=m/\m<=8):=⟨_,rfl⟩
 obtain ⟨b3,h3⟩:∃ x,x=decide (1<=r/\r<=64):=⟨_,rfl⟩
 obtain ⟨b4,h4⟩:∃ x,x=decide (0<=cc/\cc<=64):=⟨_,rfl⟩
 obtain ⟨b5,h5⟩:∃ x,x=decide (1<=l/\l<=256):=⟨_,rfl⟩
 obtain ⟨b6,h6⟩:∃ x,x=decide (1<=s/\s<=4096):=⟨_,rfl⟩
 have e:aI.ok ⟨b,ww,m,r,cc,l,s⟩=(b0&&b1&&b2&&b3&&b4&&b5&&b6):=by rw [h0,h1,h2,h3,h4,h5,h6];rfl
 have HW:Hid (∀ x lo hi y W,y=decide (lo<=x/\x<=hi)->Calls ay 38 #[ah x,ah lo,ah hi] W fun e w'=>e = .returned (.bool y)/\W=w'):=fun x lo hi y W hy=>by
  rw [hy,Bool.decide_and];exact (wP x lo hi W).mono (fun _ _ h=>⟨h.1,h.2.symm⟩)
 have H:=aA (And.intro h0 (And.intro h1 (And.intro h2 (And.intro h3 (And.intro h4 (And.intro h5 h6))))))
 clear h0 h1 h2 h3 h4 h5 h6
 rw [e]
 clear e
 simp only [aI.cells]
 obtain ⟨W0,hW0⟩:∃ W',W'=w.alloc (.cells #[ah b,ah ww,ah m,ah r,ah cc,ah l,ah s] 23):=⟨_,rfl⟩
 have HK:Hid (aj ak w W0):=by rw [hW0];exact (aj.refl _ _).alloc _
 have HA:Hid (aC W0 w.heap.size [ah b,ah ww,ah m,ah r,ah cc,ah l,ah s] 23):=by rw [hW0];exact aC.aS w _ _
 have d0:=HA.out.cell 0 rfl;have d1:=HA.out.cell 1 rfl;have d2:=HA.out.cell 2 rfl;have d3:=HA.out.cell 3 rfl;have d4:=HA.out.cell 4 rfl;have d5:=HA.out.cell 5 rfl;have d6:=HA.out.cell 6 rfl
 have yt:Hid (Calls ay 38 #[ah b,ah 1,ah 4096] W0 fun e w'=>e = .returned (.bool b0)/\W0=w'):=HW.out _ _ _ _ _ H.out.1
 have yu:Hid (Calls ay 38 #[ah ww,ah 16,ah 256] W0 fun e w'=>e = .returned (.bool b1)/\W0=w'):=HW.out _ _ _ _ _ H.out.2.1
 have HC2:Hid (Calls ay 38 #[ah m,ah 1,ah 8] W0 fun e w'=>e = .returned (.bool b2)/\W0=w'):=HW.out _ _ _ _ _ H.out.2.2.1
 have Gp:Hid (Calls ay 38 #[ah r,ah 1,ah 64] W0 fun e w'=>e = .returned (.bool b3)/\W0=w'):=HW.out _ _ _ _ _ H.out.2.2.2.1
 have Gq:Hid (Calls ay 38 #[ah cc,ah 0,ah 64] W0 fun e w'=>e = .returned (.bool b4)/\W0=w'):=HW.out _ _ _ _ _ H.out.2.2.2.2.1
 have Gs:Hid (Calls ay 38 #[ah l,ah 1,ah 256] W0 fun e w'=>e = .returned (.bool b5)/\W0=w'):=HW.out _ _ _ _ _ H.out.2.2.2.2.2.1
 have xH:Hid (Calls ay 38 #[ah s,ah 1,ah 4096] W0 fun e w'=>e = .returned (.bool b6)/\W0=w'):=HW.out _ _ _ _ _ H.out.2.2.2.2.2.2
 clear HW H HA
 have HW0:=aA hW0
 clear hW0
 go_enter func9,ntmps9
 go_wp2_with fail
 rw [<- HW0.out]
 refine yt.out.mono ?_
 rintro e w1 ⟨rfl,rfl⟩
 cases b0 with
 | false =>
   go_wp2_with fail
   go_ret
   exact ⟨rfl,HK.out⟩
 | true =>
 go_wp2_with fail
 refine yu.out.mono ?_
 rintro e w1 ⟨rfl,rfl⟩
 cases b1 with
 | false =>
   go_wp2_with fail
   go_ret
   exact ⟨rfl,HK.out⟩
 | true =>
 go_wp2_with fail
 refine HC2.out.mono ?_
 rintro e w1 ⟨rfl,rfl⟩
 cases b2 with
 | false =>
   go_wp2_with fail
   go_ret
   exact ⟨rfl,HK.out⟩
 | true =>
 go_wp2_with fail
 refine Gp.out.mono ?_
 rintro e w1 ⟨rfl,rfl⟩
 cases b3 with
 | false =>
   go_wp2_with fail
   go_ret
   exact ⟨rfl,HK.out⟩
 | true =>
 go_wp2_with fail
 refine Gq.out.mono ?_
 rintro e w1 ⟨rfl,rfl⟩
 cases b4 with
 | false =>
   go_wp2_with fail
   go_ret
   exact ⟨rfl,HK.out⟩
 | true =>
 go_wp2_with fail
 refine Gs.out.mono ?_
 rintro e w1 ⟨rfl,rfl⟩
 cases b5 with
 | false =>
   go_wp2_with fail
   go_ret
   exact ⟨rfl,HK.out⟩
 | true =>
 go_wp2_with fail
 refine xH.out.mono ?_
 rintro e w1 ⟨rfl,rfl⟩
 go_wp2_with fail
 go_ret
 exact ⟨by simp,HK.out⟩
theorem og (n:Nat) (w:World) (hn:n<=2000):(Instr.makeSlice 31 (ah (n:Int)) (ah (n:Int))).run ay w = .ok (.slice (some ⟨w.heap.size,0,none⟩) n n) (w.alloc (.cells (madeCells #[ah 0,ah 0,ah 0,ah 0] (n*4)) 75)) /\
 cZ (w.alloc (.cells (madeCells #[ah 0,ah 0,ah 0,ah 0] (n*4)) 75)) (some ⟨w.heap.size,0,none⟩) n 4 (bQ (Ht n ⟨0,0,0,0⟩)):=by
 obtain ⟨i0,hi1,hi2,hi3,hi4⟩:=info_parts Tryz.infoOpC
 constructor
 ·have h:=run_makeSlice (P:=ay) w 31 75 i0 (.agg #[ah 0,ah 0,ah 0,ah 0]) (by kernel_rfl) hi1 hi2 .i64 .i64 (n:Int) (n:Int) (by omega) (Int.le_refl _) (by rw [hi3];omega) (by rw [hi4];omega) (by omega)
  rw [hi3,Int.toNat_natCast] at h
  exact h
 ·refine ⟨by simp [bQ],fun h0=>⟨_,0,rfl,fun i r hi j v hj=>?_⟩⟩
  have hin:i<n:=by have:=(Ik.1 hi).1;simpa [bQ] using this
  have hr:r=[ah 0,ah 0,ah 0,ah 0]:=by
   simp [bQ,List.getElem?_replicate,hin,bI.cells] at hi;exact hi.symm
  subst hr
  have hj4:=(Ik.1 hj).1
  simp at hj4
  have hv:v = ah 0:=by
   rcases (by omega:j=0\/j=1\/j=2\/j=3) with rfl|rfl|rfl|rfl<;>(simp at hj;exact hj.symm)
  subst hv
  have hz:∀ q,q<4->(#[Value.int .i64 0,ah 0,ah 0,ah 0]:Array Value)[q]! = ah 0:=fun q hq=>by
   rcases (by omega:q=0\/q=1\/q=2\/q=3) with rfl|rfl|rfl|rfl<;>rfl
  have hb:=aC.aS w (madeCells #[ah 0,ah 0,ah 0,ah 0] (n*4)).toList 75
  have e:(madeCells #[Value.int .i64 0,ah 0,ah 0,ah 0] (n*4)).toList.toArray=madeCells #[ah 0,ah 0,ah 0,ah 0] (n*4):=by simp
  rw [e] at hb
  refine hb.cell _ ?_
  have hlt:i*4+j<n*4:=by omega
  rw [Nat.zero_add]
  simp only [madeCells]
  rw [Array.getElem?_toList,Array.getElem?_map,Array.getElem?_range,jh hlt]
  simp only [Option.map_some]
  exact congrArg some (hz _ (Nat.mod_lt _ (by decide)))
end
end Go.Proofs.YtoamcpbapedofaaGreatDoor
