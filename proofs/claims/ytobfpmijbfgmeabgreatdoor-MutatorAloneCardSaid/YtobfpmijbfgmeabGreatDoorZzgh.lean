/- Parts of the walk. No conditions. -/
import Derived.Test.YtobfpmijbfgmeabGreatDoorZzgg
namespace Go.Proofs.YtobfpmijbfgmeabGreatDoor
open _root_.List renaming all_eq_true->acp,getD_eq_getElem?_getD->ace,getElem?_eq_getElem->abr,getElem?_eq_none->acK,getElem_mem->acJ
open _root_.Go.Proofs.Tryz hiding prog
open _root_.Go.Proofs.Tryz renaming prog->ay
set_option maxRecDepth 4000
set_option maxHeartbeats 2000000
section
attribute [local go_sem] Oper.semAt_some
open Go.RowKit
def yE (D:Nat->Nat) (I:List Nat):Nat->Prop:=fun x=>∃ i∈I,x=D i
def HF (D:Nat->Nat):Nat->Prop:=fun x=>∃ i,i<13/\x=D i
structure aK (w:World) (D:Nat->Nat) (H:HS):Prop where
 inj:∀ i j,i<13->j<13->D i=D j->i=j
 aC:aB w (D 0) [ak (D 1),ak (D 3),ak (D 5),ak (D 8),ak (D 10),.slice (some ⟨D 12,0,none⟩) H.cells.length H.cells.length] 108
 jc:bV w (D 1) (D 2) H.A
 fV:dW w (D 3) (D 4) H.c H.K
 lists:∃ In,bP w (D 5) (D 6) (D 7) (D 1) (D 3) H.sz In H.F/\∀ n:Nat,jT H.sz In (n:Int)=H.eY n
 jh:lI w (D 8) (D 9) H.sz H.bn
 uH:lI w (D 10) (D 11) H.sz H.co
 pI:aB w (D 12) (bg H.cells) 3
 cb:H.c.b=H.b
 cw:H.c.w=H.ww
 cc:H.c.c=(H.cells.length:Int)
 dQ:dB H
 lW:gY w
 sizes:eX w
 qU:∀ i,i<13->D i≠2/\D i≠3/\D i≠1
section
variable {w w':World} {D:Nat->Nat} {H:HS}
theorem dN (inj:∀ i j,i<13->j<13->D i=D j->i=j) (j:Nat) (I:List Nat) (h:(decide (j<13)&&I.all (fun i=>decide (i<13)&&decide (i≠j)))=true):¬ yE D I (D j):=by
 rintro ⟨i,hi,e⟩
 simp only [Bool.and_eq_true,decide_eq_true_eq,acp] at h
 have h2:=h.2 i hi
 exact h2.2 (inj i j h2.1 h.1 e.symm)
theorem aK.aan (h:aK w D H):H.K.length=H.b:=by
 have h1:=h.fV.len
 have h2:=h.cb
 omega
theorem aK.UF (h:aK w D H):1<=H.b/\H.b<=4096/\16<=H.ww/\H.ww<=256/\H.b*H.ww<=1048576:=mM h.fV.ok h.cb h.cw
theorem aK.GV (h:aK w D H) (a:Nat):lF H.K.length H.ww H.K a=H.dY a:=by rw [h.aan];rfl
theorem aK.aH {S:Nat->Prop} (h:aK w D H) (k:aj S w w') (hS:∀ i,i<13->¬ S (D i)) (h1:¬ S 2) (h2:¬ S 3) (h3:¬ S 1):aK w' D H:=by
 obtain ⟨In,hl,hi⟩:=h.lists
 exact ⟨h.inj,k.aC h.aC (hS 0 (by decide)),h.jc.aH k (hS 1 (by decide)) (hS 2 (by decide)),h.fV.aH k (hS 3 (by decide)) (hS 4 (by decide)),⟨In,hl.aH k (hS 5 (by decide)) (hS 6 (by decide)) (hS 7 (by decide)),hi⟩,
  h.jh.aH k (hS 8 (by decide)) (hS 9 (by decide)),h.uH.aH k (hS 10 (by decide)) (hS 11 (by decide)),k.aC h.pI (hS 12 (by decide)),h.cb,h.cw,h.cc,h.dQ,h.lW.mJ k h1 h2,h.sizes.mJ k h3,h.qU⟩
theorem aK.still (h:aK w D H) (k:aj aA w w'):aK w' D H:=h.aH k (fun _ _ f=>f) (fun f=>f) (fun f=>f) (fun f=>f)
theorem aK.zQ (h:aK w D H) {S:Nat->Prop} (hS:∀ x,S x->HF D x):¬ S 2/\¬ S 3/\¬ S 1:=by
 refine ⟨fun e=>?_,fun e=>?_,fun e=>?_⟩
 all_goals
  obtain ⟨i,hi,e⟩:=hS _ e
 ·exact (h.qU i hi).1 e.symm
 ·exact (h.qU i hi).2.1 e.symm
 ·exact (h.qU i hi).2.2 e.symm
theorem uI {I:List Nat} (h:I.all (fun i=>decide (i<13))=true) (x:Nat) (hx:yE D I x):HF D x:=by
 obtain ⟨i,hi,e⟩:=hx
 exact ⟨i,by simpa using acp.1 h i hi,e⟩
theorem aj.hf {I:List Nat} (k:aj (yE D I) w w') (h:I.all (fun i=>decide (i<13))=true):aj (HF D) w w':=k.mono (fun x _ hx=>uI h x hx)
theorem aj.gW (k:aj aA w w'):aj (HF D) w w':=k.mono (fun _ _ f=>f.elim)
theorem aj.sel1 {i:Nat} (k:aj (only (D i)) w w') {I:List Nat} (h:I.contains i=true):aj (yE D I) w w':=k.mono (fun x _ e=>⟨i,by simpa using h,e⟩)
theorem aK.GX (h:aK w D H) {A:List Nat} (k:aj (yE D [1,2]) w w') (hA:bV w' (D 1) (D 2) A) (hi:dB { H with A:=A }):aK w' D { H with A:=A }:=by
 obtain ⟨In,hl,hin⟩:=h.lists
 have g:=h.zQ (uI (D:=D) (I:=[1,2]) rfl)
 exact ⟨h.inj,k.aC h.aC (dN h.inj 0 _ rfl),hA,h.fV.aH k (dN h.inj 3 _ rfl) (dN h.inj 4 _ rfl),⟨In,hl.aH k (dN h.inj 5 _ rfl) (dN h.inj 6 _ rfl) (dN h.inj 7 _ rfl),hin⟩,
  h.jh.aH k (dN h.inj 8 _ rfl) (dN h.inj 9 _ rfl),h.uH.aH k (dN h.inj 10 _ rfl) (dN h.inj 11 _ rfl),k.aC h.pI (dN h.inj 12 _ rfl),h.cb,h.cw,h.cc,hi,h.lW.mJ k g.1 g.2.1,h.sizes.mJ k g.2.2,h.qU⟩
theorem aK.wR (h:aK w D H) (k:aj (only (D 1)) w w') (hA:bV w' (D 1) (D 2) H.A):aK w' D H:=h.GX (k.sel1 rfl) hA h.dQ
theorem aK.SA (h:aK w D H) {K:List Nat} (k:aj (yE D [4]) w w') (hT:dW w' (D 3) (D 4) H.c K) (hi:dB { H with K:=K }):aK w' D { H with K:=K }:=by
 obtain ⟨In,hl,hin⟩:=h.lists
 have g:=h.zQ (uI (D:=D) (I:=[4]) rfl)
 exact ⟨h.inj,k.aC h.aC (dN h.inj 0 _ rfl),h.jc.aH k (dN h.inj 1 _ rfl) (dN h.inj 2 _ rfl),hT,⟨In,hl.aH k (dN h.inj 5 _ rfl) (dN h.inj 6 _ rfl) (dN h.inj 7 _ rfl),hin⟩,
  h.jh.aH k (dN h.inj 8 _ rfl) (dN h.inj 9 _ rfl),h.uH.aH k (dN h.inj 10 _ rfl) (dN h.inj 11 _ rfl),k.aC h.pI (dN h.inj 12 _ rfl),h.cb,h.cw,h.cc,hi,h.lW.mJ k g.1 g.2.1,h.sizes.mJ k g.2.2,h.qU⟩
theorem aK.Bh (h:aK w D H) {A:List Nat} {fr:List (List Nat)} {In:List Nat} (k:aj (yE D [1,2,5,7]) w w') (hA:bV w' (D 1) (D 2) A) (hL:bP w' (D 5) (D 6) (D 7) (D 1) (D 3) H.sz In (HS.F { H with A:=A,fr:=fr })) (hin:∀ n:Nat,jT H.sz In (n:Int)=HS.eY { H with A:=A,fr:=fr } n)
 (hi:dB { H with A:=A,fr:=fr }):aK w' D { H with A:=A,fr:=fr }:=by
 have g:=h.zQ (uI (D:=D) (I:=[1,2,5,7]) rfl)
 exact ⟨h.inj,k.aC h.aC (dN h.inj 0 _ rfl),hA,h.fV.aH k (dN h.inj 3 _ rfl) (dN h.inj 4 _ rfl),⟨In,hL,hin⟩,
  h.jh.aH k (dN h.inj 8 _ rfl) (dN h.inj 9 _ rfl),h.uH.aH k (dN h.inj 10 _ rfl) (dN h.inj 11 _ rfl),k.aC h.pI (dN h.inj 12 _ rfl),h.cb,h.cw,h.cc,hi,h.lW.mJ k g.1 g.2.1,h.sizes.mJ k g.2.2,h.qU⟩
theorem aK.DV (h:aK w D H) {s:Nat->Bool} (k:aj (yE D [9]) w w') (hB:lI w' (D 8) (D 9) H.sz s) (hi:dB { H with bn:=s }):aK w' D { H with bn:=s }:=by
 obtain ⟨In,hl,hin⟩:=h.lists
 have g:=h.zQ (uI (D:=D) (I:=[9]) rfl)
 exact ⟨h.inj,k.aC h.aC (dN h.inj 0 _ rfl),h.jc.aH k (dN h.inj 1 _ rfl) (dN h.inj 2 _ rfl),h.fV.aH k (dN h.inj 3 _ rfl) (dN h.inj 4 _ rfl),⟨In,hl.aH k (dN h.inj 5 _ rfl) (dN h.inj 6 _ rfl) (dN h.inj 7 _ rfl),hin⟩,
  hB,h.uH.aH k (dN h.inj 10 _ rfl) (dN h.inj 11 _ rfl),k.aC h.pI (dN h.inj 12 _ rfl),h.cb,h.cw,h.cc,hi,h.lW.mJ k g.1 g.2.1,h.sizes.mJ k g.2.2,h.qU⟩
theorem aK.DW (h:aK w D H) {s:Nat->Bool} (k:aj (yE D [11]) w w') (hB:lI w' (D 10) (D 11) H.sz s) (hi:dB { H with co:=s }):aK w' D { H with co:=s }:=by
 obtain ⟨In,hl,hin⟩:=h.lists
 have g:=h.zQ (uI (D:=D) (I:=[11]) rfl)
 exact ⟨h.inj,k.aC h.aC (dN h.inj 0 _ rfl),h.jc.aH k (dN h.inj 1 _ rfl) (dN h.inj 2 _ rfl),h.fV.aH k (dN h.inj 3 _ rfl) (dN h.inj 4 _ rfl),⟨In,hl.aH k (dN h.inj 5 _ rfl) (dN h.inj 6 _ rfl) (dN h.inj 7 _ rfl),hin⟩,
  h.jh.aH k (dN h.inj 8 _ rfl) (dN h.inj 9 _ rfl),hB,k.aC h.pI (dN h.inj 12 _ rfl),h.cb,h.cw,h.cc,hi,h.lW.mJ k g.1 g.2.1,h.sizes.mJ k g.2.2,h.qU⟩
theorem aK.GY (h:aK w D H) {cl:List Nat} (k:aj (yE D [12]) w w') (hB:aB w' (D 12) (bg cl) 3) (hl:cl.length=H.cells.length) (hi:dB { H with cells:=cl }):aK w' D { H with cells:=cl }:=by
 obtain ⟨In,hl2,hin⟩:=h.lists
 have g:=h.zQ (uI (D:=D) (I:=[12]) rfl)
 refine ⟨h.inj,?_,h.jc.aH k (dN h.inj 1 _ rfl) (dN h.inj 2 _ rfl),h.fV.aH k (dN h.inj 3 _ rfl) (dN h.inj 4 _ rfl),⟨In,hl2.aH k (dN h.inj 5 _ rfl) (dN h.inj 6 _ rfl) (dN h.inj 7 _ rfl),hin⟩,
  h.jh.aH k (dN h.inj 8 _ rfl) (dN h.inj 9 _ rfl),h.uH.aH k (dN h.inj 10 _ rfl) (dN h.inj 11 _ rfl),hB,h.cb,h.cw,?_,hi,h.lW.mJ k g.1 g.2.1,h.sizes.mJ k g.2.2,h.qU⟩
 ·have:=k.aC h.aC (dN h.inj 0 _ rfl)
  rw [<- hl] at this;exact this
 ·show H.c.c=(cl.length:Int)
  rw [hl];exact h.cc
theorem Af (h:aK w D H):Calls ay 35 #[ak (D 0)] w fun e w'=>e = .returned (.agg H.c.cells.toArray)/\aj aA w w':=by
 obtain ⟨W0,hW0⟩:∃ W',W'=w.alloc (.cells #[ah 0,ah 0,ah 0,ah 0,ah 0,ah 0,ah 0] 23):=⟨_,rfl⟩
 have hk0:aj aA w W0:=by rw [hW0];exact (aj.refl _ _).alloc _
 have HC:=au (rQ (h.fV.still hk0))
 have y1:∀ o,(w.alloc o).cell? ⟨D 0,1,none⟩=some (ak (D 3)):=fun o=>((aj.refl aA w).alloc o).still (h.aC.cell 1 rfl)
 have HO:Hid (aB W0 w.heap.size [ah 0,ah 0,ah 0,ah 0,ah 0,ah 0,ah 0] 23):=by rw [hW0];exact aB.aW w _ _
 have HK:=au hk0
 generalize H.c=c at *
 obtain ⟨c0,c1,c2,c3,c4,c5,c6⟩:=c
 simp only [aS.cells] at *
 have WB:w.heap.size<=w.heap.size:=Nat.le_refl _
 clear h hk0
 go_enter func35,ntmps35
 go_wp2_with fail
 rw [<- hW0]
 clear hW0
 refine HC.out.mono ?_
 rintro e w1 ⟨rfl,hk1⟩
 have aZ:=au (HK.out.trans hk1)
 have ho1:=hk1.aC HO.out (fun f=>f)
 clear hk1 HK HC HO y1
 generalize hO:w.heap.size=O at *
 have o0:=ho1.cell 0 rfl;have o1:=ho1.cell 1 rfl;have o2:=ho1.cell 2 rfl;have o3:=ho1.cell 3 rfl;have o4:=ho1.cell 4 rfl;have o5:=ho1.cell 5 rfl;have o6:=ho1.cell 6 rfl
 have f0:=ho1.free 0;have f1:=ho1.free 1;have f2:=ho1.free 2;have f3:=ho1.free 3;have f4:=ho1.free 4;have f5:=ho1.free 5;have f6:=ho1.free 6
 have lD:=au ho1
 have GZ:=au hO
 clear ho1 hO
 go_wp2_with fail
 obtain ⟨W4,fC⟩:∃ W',W'=(((((((w1.setCell ⟨O,0,none⟩ (ah c0)).setCell ⟨O,1,none⟩ (ah c1)).setCell ⟨O,2,none⟩ (ah c2)).setCell ⟨O,3,none⟩ (ah c3)).setCell ⟨O,4,none⟩ (ah c4)).setCell ⟨O,5,none⟩ (ah c5)).setCell ⟨O,6,none⟩ (ah c6)):=⟨_,rfl⟩
 rw [<- fC]
 have hF:aB W4 O [ah c0,ah c1,ah c2,ah c3,ah c4,ah c5,ah c6] 23:=by rw [fC];exact ((((((lD.out.set 0 _).set 1 _).set 2 _).set 3 _).set 4 _).set 5 _).set 6 _
 have k0:=hF.cell 0 rfl;have k1:=hF.cell 1 rfl;have k2:=hF.cell 2 rfl;have k3:=hF.cell 3 rfl;have k4:=hF.cell 4 rfl;have k5:=hF.cell 5 rfl;have k6:=hF.cell 6 rfl
 have hk4:aj aA w W4:=by
  rw [fC]
  exact aZ.out.jI (((((((((aj.refl (only O) w1).put 0 _).put 1 _).put 2 _).put 3 _).put 4 _).put 5 _).put 6 _)) (fun i hi e=>by unfold only at e;have:=GZ.out;omega)
 refine bodyPost_ret (v := .agg #[ah c0,ah c1,ah c2,ah c3,ah c4,ah c5,ah c6]) (by simp [results,Tryz.f35,go_sem,k0,k1,k2,k3,k4,k5,k6]) rfl ⟨rfl,hk4⟩
theorem Cm (c:Nat) (w:World):Calls ay 183 #[ah (c:Int)] w fun e w'=>e = .returned (.bool (decide (c<2)))/\w=w':=by
 by_cases h0:c=0
 ·subst h0
  go_enter func183,ntmps183
  go_wp2_with fail
  go_ret
  exact ⟨rfl,rfl⟩
 ·have d0:((c:Int)==0)=false:=by simp;omega
  by_cases h1:c=1
  ·subst h1
   go_enter func183,ntmps183
   go_wp2_with fail
   go_ret
   exact ⟨rfl,rfl⟩
  ·have d1:((c:Int)==1)=false:=by simp;omega
   have HE:Hid (decide (c<2)=false):=dD (by omega)
   clear h0 h1
   go_enter func183,ntmps183
   go_wp2_with fail
   go_ret
   rw [HE.out]
   exact ⟨rfl,rfl⟩
theorem DX (h:aK w D H) (a:Nat):Calls ay 18 #[ak (D 0),ah (a:Int)] w fun e w'=>e = .returned (.bool (H.bn a))/\w=w':=by
 have y3:=h.aC.cell 3 rfl
 have HB:=au (h.jh.Ll a)
 generalize H.bn a=x at *
 clear h
 go_enter func18,ntmps18
 go_wp2_with (go_at_call 49;refine HB.out.mono ?_;rintro e w1 ⟨rfl,rfl⟩)
 go_ret
 exact ⟨rfl,rfl⟩
theorem xE (h:aK w D H) (v:Nat):Calls ay 198 #[ak (D 0),ah (v:Int)] w fun e w'=>e = .returned (.bool (decide (v<=H.n)))/\w=w':=by
 have y0:=h.aC.cell 0 rfl
 have HB:=au (Gv h.jc)
 rw [h.dQ.lU] at HB
 have HE:Hid (decide ((v:Int)<=((H.b*H.ww:Nat):Int))=decide (v<=H.n)):=by unfold Hid HS.n;simp only [Int.ofNat_le]
 generalize H.n=n at *
 generalize H.b*H.ww=m at *
 have h0:decide ((0:Int)<=(v:Int))=true:=cZ (by omega)
 clear h
 go_enter func198,ntmps198
 go_wp2_with (go_at_call 89;refine HB.out.mono ?_;rintro e w1 ⟨rfl,rfl⟩)
 all_goals
  go_ret
  refine ⟨?_,rfl⟩
  rw [<- HE.out]
  simp
theorem CB (h:aK w D H) (a:Nat):Calls ay 124 #[ak (D 0),ah (a:Int)] w fun e w'=>e = .returned (.tuple #[ah ((if H.bn a then H.ku a else 0:Nat):Int),ah (if H.bn a then 0 else 1)])/\w=w':=by
 have y4:=h.aC.cell 4 rfl
 have HI:=au (DX h a)
 have HB:=au (h.uH.Ll a)
 unfold HS.ku
 generalize H.bn a=x at *
 generalize H.co a=y at *
 clear h
 cases x
 ·go_enter func124,ntmps124
  go_wp2_with (first|(go_at_call 18;refine HI.out.mono ?_;rintro e w1 ⟨rfl,rfl⟩)|(go_at_call 49;refine HB.out.mono ?_;rintro e w1 ⟨rfl,rfl⟩))
  go_ret2
  exact ⟨rfl,rfl⟩
 ·cases y
  all_goals
   go_enter func124,ntmps124
   go_wp2_with (first|(go_at_call 18;refine HI.out.mono ?_;rintro e w1 ⟨rfl,rfl⟩)|(go_at_call 49;refine HB.out.mono ?_;rintro e w1 ⟨rfl,rfl⟩))
   go_ret2
   exact ⟨rfl,rfl⟩
theorem Nk (h:aK w D H) (a c:Nat):Calls ay 157 #[ak (D 0),ah (a:Int),ah (c:Int)] w fun e w'=>e = .returned (.tuple #[.bool (H.jM a c),ah (if H.bn a&&decide (c<2) then 0 else 1)])/\aK w' D (H.iV a c)/\aj (HF D) w w':=by
 have y4:=h.aC.cell 4 rfl
 have HI:=au (DX h a)
 have HC:=au (Cm c w)
 by_cases hx:H.bn a=true
 ·by_cases hc:c<2
  ·have ha:a<H.sz:=h.jh.vI hx
   have HP:=au (h.uH.put a ha (c==1))
   rw [hx] at HI
   rw [cZ hc] at HC
   have PL:Hid (((c:Int)==1)=(c==1)):=by unfold Hid;rw [Bool.eq_iff_iff];simp;omega
   have HE:Hid (H.jM a c=(H.co a != (c==1))/\(H.bn a&&decide (c<2))=true):=⟨by unfold HS.jM;rw [hx,cZ hc];simp,by rw [hx,cZ hc];rfl⟩
   have HR:Hid (∀ w',aj (only (D 11)) w w'->lI w' (D 10) (D 11) H.sz (jL H.co a (c==1))->aK w' D (H.iV a c)):=fun w' k hs=>by
    by_cases hp:H.jM a c=true
    ·unfold HS.iV
     rw [aV hp]
     exact h.DW (k.sel1 rfl) hs (h.dQ.iD a (c==1))
    ·unfold HS.iV
     rw [aO hp]
     have hq:H.co a=(c==1):=by rw [HE.out.1] at hp;simpa using hp
     have hu:jL H.co a (c==1)=H.co:=by
      funext x
      unfold jL
      split
      ·rename_i e;subst e;exact hq.symm
      ·rfl
     rw [hu] at hs
     exact h.DW (s:=H.co) (k.sel1 rfl) hs h.dQ
   rw [HE.out.1,HE.out.2]
   generalize H.iV a c=H' at *
   generalize (H.co a != (c==1))=z at *
   have aao:=PL.out
   generalize (c==1)=cc at *
   clear h hx hc ha HE PL
   go_enter func157,ntmps157
   go_wp2_with (first|(go_at_call 18;refine HI.out.mono ?_;rintro e w1 ⟨rfl,rfl⟩)|(go_at_call 183;refine HC.out.mono ?_;rintro e w1 ⟨rfl,rfl⟩)|(go_at_call 184;refine HP.out.mono ?_;rintro e w1 ⟨rfl,hs,hk⟩;have HS:=au hs;have HK:=au hk;clear hs hk))
   go_ret2
   exact ⟨rfl,HR.out _ HK.out HS.out,(HK.out.sel1 (I:=[11]) rfl).hf rfl⟩
  ·have HE:Hid (H.jM a c=false/\(H.bn a&&decide (c<2))=false/\H.iV a c=H):=by
    have h1:H.jM a c=false:=by unfold HS.jM;rw [dD hc];simp
    exact ⟨h1,by rw [dD hc];simp,by unfold HS.iV;rw [h1];rfl⟩
   rw [HE.out.1,HE.out.2.1,HE.out.2.2]
   rw [dD hc] at HC
   rw [hx] at HI
   have HH:=au h
   clear h hx hc HE
   go_enter func157,ntmps157
   go_wp2_with (first|(go_at_call 18;refine HI.out.mono ?_;rintro e w1 ⟨rfl,rfl⟩)|(go_at_call 183;refine HC.out.mono ?_;rintro e w1 ⟨rfl,rfl⟩))
   go_ret2
   exact ⟨rfl,HH.out,aj.refl _ _⟩
 ·have hx0:H.bn a=false:=by simpa using hx
  have HE:Hid (H.jM a c=false/\(H.bn a&&decide (c<2))=false/\H.iV a c=H):=by
   have h1:H.jM a c=false:=by unfold HS.jM;rw [hx0];simp
   exact ⟨h1,by rw [hx0];simp,by unfold HS.iV;rw [h1];rfl⟩
  rw [HE.out.1,HE.out.2.1,HE.out.2.2]
  rw [hx0] at HI
  have HH:=au h
  clear h hx hx0 HE
  go_enter func157,ntmps157
  go_wp2_with (first|(go_at_call 18;refine HI.out.mono ?_;rintro e w1 ⟨rfl,rfl⟩)|(go_at_call 183;refine HC.out.mono ?_;rintro e w1 ⟨rfl,rfl⟩))
  go_ret2
  exact ⟨rfl,HH.out,aj.refl _ _⟩
end
section
variable {w w':World} {D:Nat->Nat} {H:HS}
theorem yT (h:aK w D H) (i:Int):Calls ay 175 #[ak (D 0),ah i] w fun e w'=>e = .returned (.tuple #[ah (H.kW i:Int),ah (H.kJ i:Int)])/\w=w':=by
 have y5:=h.aC.cell 5 rfl
 have hlen:H.cells.length<=64:=by
  have h1:=(iT h.fV.ok).2.2.2.2.1
  have h2:=h.cc
  omega
 by_cases h0:i<0
 ·have HE:Hid (H.kJ i=9/\H.kW i=0):=by
   have h1:H.kJ i=9:=by unfold HS.kJ;rw [aV (.inl h0)]
   exact ⟨h1,by unfold HS.kW;rw [h1];rfl⟩
  rw [HE.out.1,HE.out.2]
  have d0:decide (i<0)=true:=cZ h0
  generalize H.cells.length=n at *
  clear h h0 HE
  go_enter func175,ntmps175
  go_wp2_with fail
  go_ret2
  exact ⟨rfl,rfl⟩
 ·have d0:decide (i<0)=false:=dD h0
  by_cases h1:(H.cells.length:Int)<=i
  ·have HE:Hid (H.kJ i=9/\H.kW i=0):=by
    have h2:H.kJ i=9:=by unfold HS.kJ;rw [aV (.inr h1)]
    exact ⟨h2,by unfold HS.kW;rw [h2];rfl⟩
   rw [HE.out.1,HE.out.2]
   have d1:decide ((H.cells.length:Int)<=i)=true:=cZ h1
   have h2:(0:Int)<=i:=by omega
   generalize H.cells.length=n at *
   clear h h0 HE
   go_enter func175,ntmps175
   go_wp2_with fail
   go_ret2
   exact ⟨rfl,rfl⟩
  ·obtain ⟨j,rfl⟩:∃ j:Nat,i=(j:Int):=⟨i.toNat,by omega⟩
   have hj:j<H.cells.length:=by omega
   have HE:Hid (H.kJ (j:Int)=0/\H.kW (j:Int)=H.cells.getD j 0):=by
    have h2:H.kJ (j:Int)=0:=by unfold HS.kJ;rw [aO (by omega)]
    exact ⟨h2,by unfold HS.kW;rw [h2];rfl⟩
   rw [HE.out.1,HE.out.2]
   have d1:decide ((H.cells.length:Int)<=(j:Int))=false:=dD h1
   have z:=h.pI.cell j (kS hj)
   have Ag:(j:Int)<(H.cells.length:Int):=by omega
   have Cc:(0:Int)<=(j:Int):=by omega
   generalize H.cells.getD j 0=x at *
   generalize H.cells.length=n at *
   clear h h0 h1 HE hj
   go_enter func175,ntmps175
   go_wp2_with fail
   go_ret2
   exact ⟨rfl,rfl⟩
theorem G5 (h:aK w D H) (i:Int) (v:Nat):Calls ay 178 #[ak (D 0),ah i,ah (v:Int)] w fun e w'=>e = .returned (ah (H.rF i v:Int))/\aK w' D (H.ng i v)/\aj (HF D) w w':=by
 have y5:=h.aC.cell 5 rfl
 have hlen:H.cells.length<=64:=by
  have h1:=(iT h.fV.ok).2.2.2.2.1
  have h2:=h.cc
  omega
 have HC:=au (yT h i)
 have HV:=au (xE h v)
 by_cases h0:H.kJ i=0
 ·obtain ⟨j,rfl⟩:∃ j:Nat,i=(j:Int):=⟨i.toNat,by unfold HS.kJ at h0;split at h0<;>omega⟩
  have hj:j<H.cells.length:=by unfold HS.kJ at h0;split at h0<;>omega
  rw [h0] at HC
  by_cases hv:v<=H.n
  ·have HE:Hid (H.rF (j:Int) v=0/\H.ng (j:Int) v=H.setCell j v):=by
    have h2:H.rF (j:Int) v=0:=by unfold HS.rF;rw [h0,aV rfl,aV hv]
    exact ⟨h2,by unfold HS.ng;rw [h2,aV rfl];rfl⟩
   rw [HE.out.1,HE.out.2]
   rw [cZ hv] at HV
   have z:=h.pI.cell j (kS hj)
   have fz:=h.pI.free j
   have Ag:(j:Int)<(H.cells.length:Int):=by omega
   have Cc:(0:Int)<=(j:Int):=by omega
   have hk:aj (only (D 12)) w (w.setCell ⟨D 12,j,none⟩ (ah (v:Int))):=(aj.refl _ _).put _ _
   have hR:aK (w.setCell ⟨D 12,j,none⟩ (ah (v:Int))) D (H.setCell j v):=by
    refine h.GY (cl:=H.cells.set j v) (hk.sel1 rfl) ?_ (by simp) (h.dQ.setCell j v hv)
    rw [xq]
    exact h.pI.set j _
   have HR:Hid (aK (w.setCell ⟨D 12,j,none⟩ (ah (v:Int))) D (H.setCell j v)/\aj (HF D) w (w.setCell ⟨D 12,j,none⟩ (ah (v:Int)))):=⟨hR,(hk.sel1 (I:=[12]) rfl).hf rfl⟩
   generalize H.setCell j v=H' at *
   generalize H.kW (j:Int)=cp at *
   generalize H.cells.getD j 0=x at *
   generalize H.cells.length=n at *
   clear h h0 HE hj hv hk hR
   go_enter func178,ntmps178
   go_wp2_with (first|(go_at_call 175;refine HC.out.mono ?_;rintro e w1 ⟨rfl,rfl⟩)|(go_at_call 198;refine HV.out.mono ?_;rintro e w1 ⟨rfl,rfl⟩))
   go_ret
   exact ⟨rfl,HR.out.1,HR.out.2⟩
  ·have HE:Hid (H.rF (j:Int) v=4/\H.ng (j:Int) v=H):=by
    have h2:H.rF (j:Int) v=4:=by unfold HS.rF;rw [h0,aV rfl,aO hv]
    exact ⟨h2,by unfold HS.ng;rw [h2];rfl⟩
   rw [HE.out.1,HE.out.2]
   rw [dD hv] at HV
   have HH:=au h
   generalize H.kW (j:Int)=cp at *
   generalize H.cells.length=n at *
   clear h h0 HE hj hv
   go_enter func178,ntmps178
   go_wp2_with (first|(go_at_call 175;refine HC.out.mono ?_;rintro e w1 ⟨rfl,rfl⟩)|(go_at_call 198;refine HV.out.mono ?_;rintro e w1 ⟨rfl,rfl⟩))
   go_ret
   exact ⟨rfl,HH.out,aj.refl _ _⟩
 ·have h9:H.kJ i=9:=by unfold HS.kJ at h0 ⊢;split<;>simp_all
  have HE:Hid (H.rF i v=9/\H.ng i v=H):=by
   have h2:H.rF i v=9:=by unfold HS.rF;rw [aO h0]
   exact ⟨h2,by unfold HS.ng;rw [h2];rfl⟩
  rw [HE.out.1,HE.out.2]
  rw [h9] at HC
  have HH:=au h
  generalize H.kW i=cp at *
  generalize H.cells.length=n at *
  clear h h0 HE h9
  go_enter func178,ntmps178
  go_wp2_with (first|(go_at_call 175;refine HC.out.mono ?_;rintro e w1 ⟨rfl,rfl⟩)|(go_at_call 198;refine HV.out.mono ?_;rintro e w1 ⟨rfl,rfl⟩))
  go_ret
  exact ⟨rfl,HH.out,aj.refl _ _⟩
def HS.gQ (H:HS) (a:Nat):Nat:=match H.dY a with
 | none=>0
 | some (_,k)=>k
theorem aK.WY (h:aK w D H) (a:Nat):∃ B:Nat,Calls ay 111 #[ak (D 3),ah (a:Int)] w fun e w'=>e = .returned (.tuple #[ah (B:Int),ah (H.gQ a:Int),.bool (H.dY a).isSome])/\aj aA w w':=by
 have e:=h.GV a
 cases ho:H.dY a with
 | none =>
   rw [ho] at e
   refine ⟨0,?_⟩
   have h1:=EC h.fV H.ww a h.cw e h.lW h.sizes
   unfold HS.gQ
   rw [ho];exact h1
 | some x =>
   obtain ⟨B,k⟩:=x
   rw [ho] at e
   refine ⟨B,?_⟩
   have h1:=Cj h.fV H.ww a B k h.cw e h.lW h.sizes
   unfold HS.gQ
   rw [ho];exact h1
theorem rZ (h:aK w D H) (a:Nat):Calls ay 77 #[ak (D 0),ah (a:Int)] w fun e w'=>e = .returned (.tuple #[ah (H.gQ a:Int),.bool (H.jH a)])/\aj aA w w':=by
 obtain ⟨B,hO⟩:=h.WY a
 have HO:=au hO
 have HB:Hid (∀ W,aj aA w W->Calls ay 49 #[ak (D 8),ah (a:Int)] W fun e w'=>e = .returned (.bool (H.bn a))/\W=w'):=fun W hW=>(h.still hW).jh.Ll a
 have HL:Hid (∀ W,aj aA w W->Calls ay 112 #[ak (D 5),ah (a:Int)] W fun e w'=>e = .returned (.bool (H.eY a))/\W=w'):=fun W hW=>by
  obtain ⟨In,hl,hi⟩:=(h.still hW).lists
  rw [<- hi a]
  exact RZ hl a
 have hY:∀ W,aj aA w W->W.cell? ⟨D 0,3,none⟩=some (ak (D 8))/\W.cell? ⟨D 0,2,none⟩=some (ak (D 5)):=fun W hW=>⟨(h.still hW).aC.cell 3 rfl,(h.still hW).aC.cell 2 rfl⟩
 have HY:=au hY
 have y1:=h.aC.cell 1 rfl
 have HE:Hid (H.jH a=((H.dY a).isSome && !H.bn a && !H.eY a)):=rfl
 rw [HE.out]
 generalize (H.dY a).isSome=p at *
 generalize H.bn a=x at *
 generalize H.eY a=y at *
 generalize H.gQ a=k at *
 clear h hO hY HE
 cases p<;>cases x<;>cases y
 all_goals
  go_enter func77,ntmps77
  go_wp2_with (go_at_call 111;refine HO.out.mono ?_;rintro e w1 ⟨rfl,hk1⟩;have aZ:=au hk1;have z3:=(HY.out w1 hk1).1;have z2:=(HY.out w1 hk1).2;have HBW:=au (HB.out w1 hk1);have WR:=au (HL.out w1 hk1);clear hk1)
  go_wp2_with (first|(go_at_call 49;refine HBW.out.mono ?_;rintro e w2 ⟨rfl,rfl⟩)|(go_at_call 112;refine WR.out.mono ?_;rintro e w2 ⟨rfl,rfl⟩))
  go_ret2
  exact ⟨rfl,aZ.out⟩
theorem wo (h:aK w D H) (a:Nat):Calls ay 78 #[ak (D 0),ah (a:Int)] w fun e w'=>e = .returned (.tuple #[ah (H.nf a:Int),.bool (H.kN a).isSome])/\aK w' D H/\aj (only (D 1)) w w':=by
 have hal:=h.dQ.lU
 have hL:∃ er:Int,Calls ay 55 #[ak (D 1),ah (a:Int)] w fun e w'=>e = .returned (.tuple #[.int .u64 (H.dV a:Int),ah er])/\aK w' D H/\aj (only (D 1)) w w':=by
  by_cases ha:1<=a/\a<=H.A.length
  ·refine ⟨0,?_⟩
   have h1:=AZ h.jc (a - 1) (by omega)
   rw [show ((a - 1:Nat):Int)+1=(a:Int) by omega] at h1
   refine h1.mono ?_
   rintro e w' ⟨rfl,h2,h3⟩
   refine ⟨?_,h.wR h3 h2,h3⟩
   unfold HS.dV pY
   rw [aV ha.1]
  ·refine ⟨KZ a,?_⟩
   refine (Px h.jc (a:Int) (by omega)).mono ?_
   rintro e w' ⟨rfl,h3⟩
   refine ⟨?_,h.still h3,h3.mono (fun _ _ f=>f.elim)⟩
   have:H.dV a=0:=by
    unfold HS.dV pY
    split
    ·rw [ace,acK (by omega)];rfl
    ·rfl
   rw [this];rfl
 obtain ⟨er,hL⟩:=hL
 have HL:=au hL
 have y0:=h.aC.cell 0 rfl
 have hP:∃ c:Nat,∀ W,eX W->Calls ay 113 #[.int .u64 (H.dV a:Int)] W fun e w'=>e = .returned (.tuple #[ah (c:Int),ah (H.nf a:Int),.bool (H.kN a).isSome])/\W=w':=by
  have hx:=h.dQ.Zp a
  unfold HS.nf HS.kN
  cases hp:yQ (H.dV a) with
  | none=>exact ⟨0,fun W hS=>GN _ hx hp W hS⟩
  | some cf =>
    obtain ⟨c,f⟩:=cf
    obtain ⟨h1,h2⟩:=GL hp
    rw [h2]
    exact ⟨c,fun W hS=>JC c f h1 W hS⟩
 obtain ⟨c,hP⟩:=hP
 have HP:=au hP
 generalize H.dV a=x at *
 generalize H.nf a=n at *
 generalize (H.kN a).isSome=p at *
 clear h hL hP hal
 go_enter func78,ntmps78
 go_wp2_with (go_at_call 55;refine HL.out.mono ?_;rintro e w1 ⟨rfl,h1,k1⟩;have HH:=au h1;have HK:=au k1;clear h1 k1)
 have CG:=au (HP.out _ HH.out.sizes)
 go_wp2_with (go_at_call 113;refine CG.out.mono ?_;rintro e w2 ⟨rfl,rfl⟩)
 go_ret2
 exact ⟨rfl,HH.out,HK.out⟩
end
section
variable {w w':World} {L iR iX aR aX tR sz:Nat} {In F A:List Nat}
theorem SB (h:bP w L iR iX aR tR sz In F) (pp:Int) (k b1 b2:Nat) (hin:fA sz In pp true=false) (hb1:aB w b1 [ak L] 105) (hb2:aB w b2 [ah pp] 3) :
 Calls ay 221 #[ah (k:Int),ak b1,ak b2] w fun e w'=>e = .returned (ah 11)/\bP w' L iR iX aR tR sz In F/\aj (only iX) w w':=by
 obtain ⟨q0,q1,q2⟩:=h.uG
 have wO:=au (uD (h.set.still (k:=(aj.refl aA w).drew)) pp true)
 have hpl:lG sz In pp true=In:=by unfold lG;rw [aO (by rw [hin];decide)]
 rw [hin,hpl] at wO
 have hLn:=h.ne
 have y1:=hb1.cell 0 rfl
 have y2:=hb2.cell 0 rfl
 have H:=au h
 have HN:=au hLn
 clear h hb1 hb2 hLn hpl hin
 go_enter func221,ntmps221
 go_wp2_with fail
 refine aN 5 rfl (by kernel_rfl) (by kernel_rfl) (fun K hK=>?_)
 change wpStill _ _ (World.drew _) _ _ _
 simp only [List.take_succ_cons,List.take_zero,List.drop_succ_cons,List.drop_zero] at hK ⊢
 repeat still_step
 refine wpStill_nil ?_
 change ite _ (Oper.wp _ _ _ w.drew _ _) _
 go_simp
 refine wO.out.mono ?_
 rintro e w1 ⟨rfl,hs1,hk1⟩
 refine hK _ _ ?_
 clear hK K
 have hk01:aj (only iX) w w1:=(aj.refl _ _).drew.trans hk1
 have mQ:=au (H.out.Gy hk01 HN.out.2 hs1)
 have aZ:=au hk01
 clear hs1 hk1 hk01 y1 y2 q0 q1 q2 wO
 repeat still_step
 refine wpStill_nil ?_
 go_wp2_with fail
 go_ret
 exact ⟨rfl,mQ.out,aZ.out⟩
theorem VH (h:bP w L iR iX aR tR sz In F) (pp:Int)
 (hO:∀ W,aj aA w W->Calls ay 111 #[ak tR,ah pp] W fun e w'=>e = .returned (.tuple #[ah 0,ah 0,.bool false])/\aj aA W w') :
 Calls ay 217 #[ak L,ah pp] w fun e w'=>e = .returned (ah 1)/\aj aA w w':=by
 obtain ⟨W0,hW0⟩:∃ W',W'=(w.alloc (.cells #[ak L] 105)).alloc (.cells #[ah pp] 3):=⟨_,rfl⟩
 have hk0:aj aA w W0:=by rw [hW0];exact ((aj.refl _ _).alloc _).alloc _
 have HSL:Hid (Calls ay 220 #[ak L,ah pp,.func (.func 221) #[] #[ak w.heap.size,ak (w.heap.size+1)]] W0 fun e w'=>e = .returned (ah 1)/\aj aA w w'):=by
  have HO:=au (hO W0 hk0)
  obtain ⟨q0,q1,q2⟩:=(h.still hk0).uG
  have jZ:=au hk0
  clear h hO hW0 hk0
  unfold Hid
  go_enter func220,ntmps220
  go_wp2_with (go_at_call 111;refine HO.out.mono ?_;rintro e w1 ⟨rfl,hk1⟩;have aZ:=au hk1;clear hk1)
  go_ret
  exact ⟨rfl,jZ.out.trans aZ.out⟩
 have hmf:∀ (fn:Fn) (first aJ:Array Value) (w:World),(Instr.makeFunc fn first aJ).run ay w = .ok (.func fn first aJ) w:=fun _ _ _ _=>rfl
 clear h hO hk0
 go_enter func217,ntmps217
 go_wp2_with fail
 rw [<- hW0]
 clear hW0
 refine HSL.out.mono ?_
 rintro e w1 ⟨rfl,h1⟩
 have H1:=au h1
 clear h1
 go_wp2_with fail
 go_ret
 exact ⟨rfl,H1.out⟩
theorem VI (h:bP w L iR iX aR tR sz In F) (pp:Int) (k:Nat) (B0:Int) (hin:fA sz In pp true=false)
 (hO:∀ W,aj aA w W->Calls ay 111 #[ak tR,ah pp] W fun e w'=>e = .returned (.tuple #[ah B0,ah (k:Int),.bool true])/\aj aA W w') :
 Calls ay 217 #[ak L,ah pp] w fun e w'=>e = .returned (ah 11)/\bP w' L iR iX aR tR sz In F/\aj (only iX) w w':=by
 obtain ⟨W0,hW0⟩:∃ W',W'=(w.alloc (.cells #[ak L] 105)).alloc (.cells #[ah pp] 3):=⟨_,rfl⟩
 have hk0:aj aA w W0:=by rw [hW0];exact ((aj.refl _ _).alloc _).alloc _
 have hb1:aB W0 w.heap.size [ak L] 105:=by rw [hW0];exact (aB.aW w _ _).alloc _
 have hb2:aB W0 (w.heap.size+1) [ah pp] 3:=by
  rw [hW0]
  have h:=aB.aW (w.alloc (.cells #[ak L] 105)) [ah pp] 3
  rw [World.size_alloc] at h
  exact h
 have HSL:Hid (Calls ay 220 #[ak L,ah pp,.func (.func 221) #[] #[ak w.heap.size,ak (w.heap.size+1)]] W0 fun e w'=>e = .returned (ah 11)/\bP w' L iR iX aR tR sz In F/\aj (only iX) w w'):=by
  have HC:Hid (∀ W,aj aA W0 W->Calls ay 221 #[ah (k:Int),ak w.heap.size,ak (w.heap.size+1)] W fun e w'=>e = .returned (ah 11)/\bP w' L iR iX aR tR sz In F/\aj (only iX) W w'):=fun W hW =>
   SB ((h.still hk0).still hW) pp k _ _ hin (hW.aC hb1 (fun f=>f)) (hW.aC hb2 (fun f=>f))
  have HO:=au (hO W0 hk0)
  obtain ⟨q0,q1,q2⟩:=(h.still hk0).uG
  have jZ:=au hk0
  clear h hin hO hW0 hk0 hb1 hb2
  unfold Hid
  go_enter func220,ntmps220
  go_wp2_with (first
   | (go_at_call 111;refine HO.out.mono ?_;rintro e w1 ⟨rfl,hk1⟩;have aZ:=au hk1;clear hk1)
   | (go_at_call 221;refine (HC.out _ aZ.out).mono ?_;rintro e w2 ⟨rfl,h1,h3⟩;have H1:=au h1;have H3:=au h3;clear h1 h3))
  go_ret
  exact ⟨rfl,H1.out,(jZ.out.mono (fun _ _ f=>f.elim)).trans ((aZ.out.mono (fun _ _ f=>f.elim)).trans H3.out)⟩
 have hmf:∀ (fn:Fn) (first aJ:Array Value) (w:World),(Instr.makeFunc fn first aJ).run ay w = .ok (.func fn first aJ) w:=fun _ _ _ _=>rfl
 clear h hin hO hb1 hb2 hk0
 go_enter func217,ntmps217
 go_wp2_with fail
 rw [<- hW0]
 clear hW0
 refine HSL.out.mono ?_
 rintro e w1 ⟨rfl,h1,h3⟩
 have H1:=au h1;have H3:=au h3
 clear h1 h3
 go_wp2_with fail
 go_ret
 exact ⟨rfl,H1.out,H3.out⟩
end
theorem WZ {In:List Nat} {sz:Nat} {H:HS} (hi:∀ n:Nat,jT sz In (n:Int)=H.eY n) {a:Nat} (ha:a<sz):fA sz In (a:Int) true = !H.eY a:=by
 unfold fA
 rw [hi,cZ (by omega),Bool.true_and]
 cases H.eY a<;>rfl
section
variable {w w':World} {D:Nat->Nat} {H:HS}
theorem UG {H:HS} {k:Nat} (l:List Nat) (H':HS) (hf:H'.fr=H.fr.set k l):H'.F=H.F.set k (l.headD 0):=by
 unfold HS.F
 rw [hf,List.map_set]
theorem Nl (h:aK w D H) (k:Nat) (hk:k<4):Calls ay 186 #[ak (D 5),ah (k:Int)] w fun e w'=>e = .returned (.tuple #[ah ((H.dh k).1:Int),ah ((H.dh k).2.1:Int)])/\aK w' D (H.dh k).2.2/\aj (HF D) w w':=by
 obtain ⟨In,hl,hi⟩:=h.lists
 have hf:=H.Sz h.dQ.kF hk
 unfold HS.dh
 cases hr:H.row k with
 | nil =>
   rw [hr] at hf
   refine (Nb hl k hk hf).mono ?_
   rintro e w' ⟨rfl,rfl⟩
   exact ⟨rfl,h,aj.refl _ _⟩
 | cons a l =>
   rw [hr] at hf
   obtain ⟨hw,⟨B,ho⟩,hb,hin,hn⟩:=h.dQ.UE hk hr
   obtain ⟨o1,o2,_⟩:=dK ho
   have hal:=h.dQ.lU
   have ha:a=(a - 1)+1:=by omega
   have hne:D 7≠D 2:=fun e=>absurd (h.inj 7 2 (by decide) (by decide) e) (by decide)
   have hwd:H.A.getD (a - 1) 0=dM (l.headD 0):=by
    unfold HS.dV pY at hw
    rw [aV o1] at hw;exact hw
   refine (Sv hl h.jc hne (a - 1) k (l.headD 0) hk (hf.trans ha) (by omega) hwd hn).mono ?_
   rintro e w' ⟨rfl,h1,h2,h3⟩
   rw [show ((a - 1:Nat):Int)+1=(a:Int) by omega] at h1 ⊢
   refine ⟨rfl,?_,?_⟩
   ·refine h.Bh (A:=H.A) (fr:=H.fr.set k (H.row k).tail) (In:=lG H.sz In (a:Int) false) (h3.mono (fun x _ hx=>?_)) h2 ?_ ?_ (h.dQ.take hk)
    ·rcases hx with e|e|e
     ·exact ⟨5,by simp,e⟩
     ·exact ⟨7,by simp,e⟩
     ·exact ⟨1,by simp,e⟩
    ·rw [UG (H.row k).tail _ rfl,hr]
     exact h1
    ·intro n
     rw [DU hl.set.len (by unfold HS.sz;omega),hi]
     exact (h.dQ.GU hk hr n).symm
   ·refine h3.mono (fun x _ hx=>?_)
    rcases hx with e|e|e
    ·exact ⟨5,by decide,e⟩
    ·exact ⟨7,by decide,e⟩
    ·exact ⟨1,by decide,e⟩
theorem ED (h:aK w D H) (k:Nat) (hk:k<4):Calls ay 163 #[ak (D 0),ah (k:Int)] w fun e w'=>e = .returned (.tuple #[ah ((H.dh k).1:Int),ah ((H.dh k).2.1:Int)])/\aK w' D (H.dh k).2.2/\aj (HF D) w w':=by
 have HT:=au (Nl h k hk)
 have y2:=h.aC.cell 2 rfl
 generalize (H.dh k).1=r1 at *
 generalize (H.dh k).2.1=r2 at *
 generalize (H.dh k).2.2=H' at *
 clear h
 go_enter func163,ntmps163
 go_wp2_with (go_at_call 186;refine HT.out.mono ?_;rintro e w1 ⟨rfl,h1,k1⟩;have HH:=au h1;have HK:=au k1;clear h1 k1)
 go_ret2
 exact ⟨rfl,HH.out,HK.out⟩
theorem EF (h:aK w D H) (a:Nat) (hb:H.bn a=false):Calls ay 217 #[ak (D 5),ah (a:Int)] w fun e w'=>(∃ er:Int,e = .returned (ah er))/\aK w' D (H.fA a)/\aj (HF D) w w':=by
 obtain ⟨In,hl,hi⟩:=h.lists
 have eo:=h.GV a
 unfold HS.fA
 cases ho:H.dY a with
 | none =>
   rw [ho] at eo
   refine (VH hl (a:Int) (fun W hW=>EC (h.still hW).fV H.ww a h.cw eo (h.still hW).lW (h.still hW).sizes)).mono ?_
   rintro e w' ⟨rfl,h1⟩
   exact ⟨⟨_,rfl⟩,h.still h1,h1.gW⟩
 | some x =>
   obtain ⟨B,k⟩:=x
   rw [ho] at eo
   have hk:=h.dQ.gQ ho
   obtain ⟨o1,o2,_⟩:=dK ho
   have hal:=h.dQ.lU
   have hsz:a<H.sz:=by unfold HS.sz;omega
   have hO:∀ W,aj aA w W->Calls ay 111 #[ak (D 3),ah (a:Int)] W fun e w'=>e = .returned (.tuple #[ah (B:Int),ah (k:Int),.bool true])/\aj aA W w' :=
    fun W hW=>Cj (h.still hW).fV H.ww a B k h.cw eo (h.still hW).lW (h.still hW).sizes
   cases hin:H.eY a with
   | true =>
     simp only [hb,Bool.or_true,if_true]
     refine (VI hl (a:Int) k B (by rw [WZ hi hsz,hin];rfl) hO).mono ?_
     rintro e w' ⟨rfl,h1,h2⟩
     have hk2:aj (yE D [1,2,5,7]) w w':=h2.sel1 (i:=7) rfl
     have n1:¬ only (D 7) (D 1):=fun e=>absurd (h.inj 1 7 (by decide) (by decide) e) (by decide)
     have n2:¬ only (D 7) (D 2):=fun e=>absurd (h.inj 2 7 (by decide) (by decide) e) (by decide)
     exact ⟨⟨_,rfl⟩,h.Bh (A:=H.A) (fr:=H.fr) hk2 (h.jc.aH h2 n1 n2) h1 hi h.dQ,hk2.hf rfl⟩
   | false =>
     simp only [hb,Bool.or_self,Bool.false_eq_true,if_false]
     have hne:D 7≠D 2:=fun e=>absurd (h.inj 7 2 (by decide) (by decide) e) (by decide)
     have ha:((a - 1:Nat):Int)+1=(a:Int):=by omega
     have hin':jT H.sz In (((a - 1:Nat):Int)+1)=false:=by rw [ha,hi];exact hin
     refine (show Calls _ _ _ _ _ by rw [<- ha];exact Sr hl h.jc hne (a - 1) k B (by omega) (by unfold HS.sz;omega) hin' hk (by rw [ha];exact hO)).mono ?_
     rintro e w' ⟨rfl,h1,h2,h3⟩
     rw [ha,show a - 1+1=a by omega] at h1
     rw [H.Sz h.dQ.kF hk] at h2
     refine ⟨⟨_,rfl⟩,?_,?_⟩
     ·refine h.Bh (A:=H.A.set (a - 1) (dM ((H.row k).headD 0))) (fr:=H.fr.set k (a::H.row k)) (In:=lG H.sz In (a:Int) true) (h3.mono (fun x _ hx=>?_)) h2 ?_ ?_ (h.dQ.put ho hb hin)
      ·rcases hx with e|e|e|e
       ·exact ⟨5,by simp,e⟩
       ·exact ⟨7,by simp,e⟩
       ·exact ⟨1,by simp,e⟩
       ·exact ⟨2,by simp,e⟩
      ·rw [UG (a::H.row k) _ rfl]
       exact h1
      ·intro n
       rw [DU hl.set.len hsz,hi]
       exact (h.dQ.Lh ho hb hin n).symm
     ·refine h3.mono (fun x _ hx=>?_)
      rcases hx with e|e|e|e
      ·exact ⟨5,by decide,e⟩
      ·exact ⟨7,by decide,e⟩
      ·exact ⟨1,by decide,e⟩
      ·exact ⟨2,by decide,e⟩
theorem SC (h:aK w D H) (a:Nat):Calls ay 209 #[ak (D 0),ah (a:Int)] w fun e w'=>(∃ er:Int,e = .returned (ah er))/\aK w' D (H.fA a)/\aj (HF D) w w':=by
 have y3:=h.aC.cell 3 rfl
 have y2:=h.aC.cell 2 rfl
 have HB:=au (h.jh.Ll a)
 cases hb:H.bn a with
 | true =>
   have HE:Hid (H.fA a=H):=by
    unfold Hid HS.fA
    split
    ·rfl
    ·rw [hb];rfl
   rw [HE.out]
   rw [hb] at HB
   have HH:=au h
   clear h hb HE
   go_enter func209,ntmps209
   go_wp2_with (go_at_call 49;refine HB.out.mono ?_;rintro e w1 ⟨rfl,rfl⟩)
   go_ret
   exact ⟨⟨_,rfl⟩,HH.out,aj.refl _ _⟩
 | false =>
   have HP:=au (EF h a hb)
   rw [hb] at HB
   generalize H.fA a=H' at *
   clear h hb
   go_enter func209,ntmps209
   go_wp2_with (first|(go_at_call 49;refine HB.out.mono ?_;rintro e w1 ⟨rfl,rfl⟩)|(go_at_call 217;refine HP.out.mono ?_;rintro e w1 ⟨⟨er,rfl⟩,h1,k1⟩;have HH:=au h1;have HK:=au k1;clear h1 k1))
   go_ret
   exact ⟨⟨_,rfl⟩,HH.out,HK.out⟩
theorem PN (h:aK w D H) (a:Nat):Calls ay 219 #[ak (D 0),ah (a:Int)] w fun e w'=>(∃ er:Int,e = .returned (ah er))/\aK w' D (H.lJ a)/\aj (HF D) w w':=by
 have y3:=h.aC.cell 3 rfl
 cases hb:H.bn a with
 | false =>
   have HE:Hid (H.lJ a=H):=by unfold Hid HS.lJ;rw [hb];rfl
   rw [HE.out]
   have Lm:=h.jh.WU a hb
   have wO:=au Lm
   have HR:Hid (∀ w',lI w' (D 8) (D 9) H.sz H.bn->aj (only (D 9)) w w'->aK w' D H):=fun w' hs k=>h.DV (s:=H.bn) (k.sel1 rfl) hs h.dQ
   clear h hb HE Lm
   go_enter func219,ntmps219
   go_wp2_with (go_at_call 184;refine wO.out.mono ?_;rintro e w1 ⟨rfl,hs,k1⟩;have HS:=au hs;have HK:=au k1;clear hs k1)
   go_ret
   exact ⟨⟨_,rfl⟩,HR.out _ HS.out HK.out,(HK.out.sel1 (I:=[9]) rfl).hf rfl⟩
 | true =>
   have HE:Hid (H.lJ a=(H.xC a).fA a):=by unfold Hid HS.lJ;rw [hb];rfl
   rw [HE.out]
   have ha:=h.jh.vI hb
   have Lm:=h.jh.put a ha false
   rw [hb] at Lm
   have wO:=au Lm
   have HR:Hid (∀ w',lI w' (D 8) (D 9) H.sz (jL H.bn a false)->aj (only (D 9)) w w'->aK w' D (H.xC a)):=fun w' hs k=>h.DV (s:=jL H.bn a false) (k.sel1 rfl) hs (h.dQ.xC a)
   have HL:Hid (∀ w',aK w' D (H.xC a)->Calls ay 217 #[ak (D 5),ah (a:Int)] w' fun e w2=>(∃ er:Int,e = .returned (ah er))/\aK w2 D ((H.xC a).fA a)/\aj (HF D) w' w2):=fun w' h' =>
    EF h' a (by show jL H.bn a false a=false;unfold jL;rw [aV rfl])
   generalize (H.xC a).fA a=H2 at *
   clear h hb HE Lm ha
   go_enter func219,ntmps219
   go_wp2_with (go_at_call 184;refine wO.out.mono ?_;rintro e w1 ⟨rfl,hs,k1⟩;have sW:=au (HR.out _ hs k1);have HK:=au ((k1.sel1 (D:=D) (i:=9) (I:=[9]) rfl).hf rfl);have z2:=(HR.out _ hs k1).aC.cell 2 rfl;clear hs k1)
   have sS:=au (HL.out _ sW.out)
   go_wp2_with (go_at_call 217;refine sS.out.mono ?_;rintro e w2 ⟨⟨er,rfl⟩,h2,k2⟩;have uJ:=au h2;have bH:=au k2;clear h2 k2)
   go_ret
   exact ⟨⟨_,rfl⟩,uJ.out,HK.out.trans bH.out⟩
theorem JJ (h:aK w D H) (B:Nat) (hB:H.K.getD B 0≠0):Calls ay 57 #[ak (D 3),ah (B:Int)] w fun e w'=>∃ v,e = .returned v/\w'.ownsRow w.heap.size 3 1 v (H.bZ B).length ((H.bZ B).map fun x:Nat => ah (x:Int))/\aj aA w w':=by
 have hBl:B<H.K.length:=by
  rcases Nat.lt_or_ge B H.K.length with g|g
  ·exact g
  ·rw [ace,acK g] at hB
   simp at hB
 have hk4:H.K.getD B 0<=4:=by
  rw [ace,abr hBl]
  exact h.fV.le _ (acJ hBl)
 have h1:=Pm h.fV H.ww B (H.K.getD B 0 - 1) h.cw hBl (by omega) (by omega) h.lW h.sizes
 rw [show H.K.getD B 0 - 1+1=H.K.getD B 0 by omega] at h1
 unfold HS.bZ
 rw [aO hB,qG]
 exact h1
theorem JK (h:aK w D H) (k:Nat) (hk:k<4):Calls ay 190 #[ak (D 0),ah (k:Int)] w fun e w'=>∃ v,e = .returned (.tuple #[v,ah ((H.bT k).2.1:Int)])/\w'.ownsRow w.heap.size 3 1 v (H.bT k).1.length ((H.bT k).1.map fun x:Nat => ah (x:Int))/\aK w' D (H.bT k).2.2/\aj (HF D) w w':=by
 have y1:=h.aC.cell 1 rfl
 unfold HS.bT
 cases hf:H.K.findIdx? (fun x=>x==0) with
 | none =>
   have hl:∀ j,j<H.K.length->H.K.getD j 0≠0:=fun j hj e=>by
    rw [List.findIdx?_eq_none_iff] at hf
    have:=hf _ (acJ hj)
    rw [ace,abr hj] at e
    simp at e this
    exact this e
   have HA:=au (Gs h.fV k hl hk)
   have HH:=au h
   have HN:Hid (w.ownsRow w.heap.size 3 1 (.slice none 0 0) 0 []):=⟨rfl,.inl ⟨rfl,rfl⟩⟩
   clear h hf hl
   go_enter func190,ntmps190
   go_wp2_with (go_at_call 203;refine HA.out.mono ?_;rintro e w1 ⟨rfl,rfl⟩)
   go_ret2
   exact ⟨_,rfl,HN.out,HH.out,aj.refl _ _⟩
 | some B =>
   obtain ⟨hB,h0,hl⟩:=List.findIdx?_eq_some_iff_getElem.1 hf
   have h0':H.K.getD B 0=0:=by
    rw [ace,abr hB];simpa using h0
   have hl':∀ j,j<B->H.K.getD j 0≠0:=fun j hj e=>by
    have:=hl j hj
    rw [ace,abr (by omega)] at e
    simp at e this
    exact this e
   dsimp only
   have HA:=au (MO h.fV B k hB h0' hl' hk)
   have HR:Hid (∀ w',dW w' (D 3) (D 4) H.c (H.K.set B (k+1))->aj (only (D 4)) w w'->aK w' D (H.assign B k)):=fun w' ht kk=>h.SA (K:=H.K.set B (k+1)) (kk.sel1 rfl) ht (h.dQ.assign h0' hk)
   have HL:Hid (∀ w',aK w' D (H.assign B k)->Calls ay 57 #[ak (D 3),ah (B:Int)] w' fun e w2=>∃ v,e = .returned v/\w2.ownsRow w'.heap.size 3 1 v ((H.assign B k).bZ B).length (((H.assign B k).bZ B).map fun x:Nat => ah (x:Int))/\aj aA w' w2):=fun w' h' =>
    JJ h' B (by show (H.K.set B (k+1)).getD B 0≠0;rw [nV hB];omega)
   generalize (H.assign B k).bZ B=sl at *
   generalize H.assign B k=H2 at *
   clear h hf hB h0 hl h0' hl'
   go_enter func190,ntmps190
   go_wp2_with (go_at_call 203;refine HA.out.mono ?_;rintro e w1 ⟨rfl,ht,k1⟩;have sW:=au (HR.out _ ht k1);have HK:=au k1;have z1:=(HR.out _ ht k1).aC.cell 1 rfl;clear ht k1)
   have sS:=au (HL.out _ sW.out)
   go_wp2_with (go_at_call 57;refine sS.out.mono ?_;rintro e w2 ⟨v,rfl,ho,k2⟩;have HO:=au ho;have bH:=au k2;clear ho k2)
   go_ret2
   exact ⟨v,rfl,dF HO.out HK.out.size,sW.out.still bH.out,((HK.out.sel1 (D:=D) (i:=4) (I:=[4]) rfl).hf rfl).trans bH.out.gW⟩
end
end
end Go.Proofs.YtobfpmijbfgmeabGreatDoor
