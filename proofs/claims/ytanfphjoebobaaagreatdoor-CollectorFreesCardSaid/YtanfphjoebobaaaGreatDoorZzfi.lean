/- Parts of the iy. No conditions. -/
import Derived.Test.YtanfphjoebobaaaGreatDoorZzfh
namespace Go.Proofs.YtanfphjoebobaaaGreatDoor
open _root_.Bool renaming and_eq_true->akD,eq_iff_iff->ajO
open _root_.Int renaming toNat_natCast->ajv
open _root_.List renaming all_eq_true->akA,getD_eq_getElem?_getD->ajg,getElem?_eq_getElem->ajh,getElem?_eq_none->ajK,getElem_mem->aji
open _root_.Go.Proofs.Tryz hiding prog
open _root_.Go.Proofs.Tryz renaming prog->aA
set_option maxRecDepth 4000
set_option maxHeartbeats 4000000
section
attribute [local go_sem] Oper.semAt_some
open Go.RowKit
def Gt (D:Nat->Nat) (I:List Nat):Nat->Prop:=fun x=>∃ i∈I,x=D i
def HF (D:Nat->Nat):Nat->Prop:=fun x=>∃ i,i<13/\x=D i
structure aI (w:World) (D:Nat->Nat) (H:HS):Prop where
 inj:∀ i j,i<13->j<13->D i=D j->i=j
 aH:aF w (D 0) [au (D 1),au (D 3),au (D 5),au (D 8),au (D 10),.slice (some ⟨D 12,0,none⟩) H.cells.length H.cells.length] 101
 lY:dY w (D 1) (D 2) H.A
 ji:iF w (D 3) (D 4) H.c H.K
 lists:∃ In,dN w (D 5) (D 6) (D 7) (D 1) (D 3) H.sz In H.F/\∀ n:Nat,oU H.sz In (n:Int)=H.jg n
 kG:qP w (D 8) (D 9) H.sz H.bn
 Cj:qP w (D 10) (D 11) H.sz H.co
 lS:aF w (D 12) (aS H.cells) 3
 cb:H.c.b=H.b
 cw:H.c.w=H.ww
 cc:H.c.c=(H.cells.length:Int)
 gU:eu H
 qQ:lu w
 sizes:jk w
 xu:∀ i,i<13->D i≠3/\D i≠4/\D i≠2
theorem lu.sH {S:Nat->Prop} {w w':World} (h:lu w) (k:aj S w w') (h1:¬ S 3) (h2:¬ S 4):lu w':=⟨fun i r hr=>k.nP (h.xg i r hr) h1,fun i s hs=>k.nP (h.kind i s hs) h2⟩
theorem jk.sH {S:Nat->Prop} {w w':World} (h:jk w) (k:aj S w w') (h1:¬ S 2):jk w':=fun i r hr=>k.nP (h i r hr) h1
section
variable {w w':World} {D:Nat->Nat} {H:HS}
theorem gV (inj:∀ i j,i<13->j<13->D i=D j->i=j) (j:Nat) (I:List Nat) (h:(decide (j<13)&&I.all (fun i=>decide (i<13)&&decide (i≠j)))=true):¬ Gt D I (D j):=by
 rintro ⟨i,hi,e⟩
 simp only [akD,decide_eq_true_eq,akA] at h
 have h2:=h.2 i hi
 exact h2.2 (inj i j h2.1 h.1 e.symm)
theorem aI.ahP (h:aI w D H):H.K.length=H.b:=by
 have h1:=h.ji.len
 have h2:=h.cb
 omega
theorem aI.ZK (h:aI w D H):1<=H.b/\H.b<=4096/\16<=H.ww/\H.ww<=256/\H.b*H.ww<=1048576:=qH h.ji.ok h.cb h.cw
theorem aI.RS (h:aI w D H) (a:Nat):qI H.K.length H.ww H.K a=H.iC a:=by rw [h.ahP];rfl
theorem aI.aK {S:Nat->Prop} (h:aI w D H) (k:aj S w w') (hS:∀ i,i<13->¬ S (D i)) (h1:¬ S 3) (h2:¬ S 4) (h3:¬ S 2):aI w' D H:=by
 obtain ⟨In,hl,hi⟩:=h.lists
 exact ⟨h.inj,k.aH h.aH (hS 0 (by decide)),h.lY.aK k (hS 1 (by decide)) (hS 2 (by decide)),h.ji.aK k (hS 3 (by decide)) (hS 4 (by decide)),⟨In,hl.aK k (hS 5 (by decide)) (hS 6 (by decide)) (hS 7 (by decide)),hi⟩,
  h.kG.aK k (hS 8 (by decide)) (hS 9 (by decide)),h.Cj.aK k (hS 10 (by decide)) (hS 11 (by decide)),k.aH h.lS (hS 12 (by decide)),h.cb,h.cw,h.cc,h.gU,h.qQ.sH k h1 h2,h.sizes.sH k h3,h.xu⟩
theorem aI.still (h:aI w D H) (k:aj aB w w'):aI w' D H:=h.aK k (fun _ _ f=>f) (fun f=>f) (fun f=>f) (fun f=>f)
theorem aI.IW (h:aI w D H) {S:Nat->Prop} (hS:∀ x,S x->HF D x):¬ S 3/\¬ S 4/\¬ S 2:=by
 refine ⟨fun e=>?_,fun e=>?_,fun e=>?_⟩
 all_goals
  obtain ⟨i,hi,e⟩:=hS _ e
 ·exact (h.xu i hi).1 e.symm
 ·exact (h.xu i hi).2.1 e.symm
 ·exact (h.xu i hi).2.2 e.symm
theorem Cm {I:List Nat} (h:I.all (fun i=>decide (i<13))=true) (x:Nat) (hx:Gt D I x):HF D x:=by
 obtain ⟨i,hi,e⟩:=hx
 exact ⟨i,by simpa using akA.1 h i hi,e⟩
theorem aj.hf {I:List Nat} (k:aj (Gt D I) w w') (h:I.all (fun i=>decide (i<13))=true):aj (HF D) w w':=k.mono (fun x _ hx=>Cm h x hx)
theorem aj.jU (k:aj aB w w'):aj (HF D) w w':=k.mono (fun _ _ f=>f.elim)
theorem aj.sel1 {i:Nat} (k:aj (only (D i)) w w') {I:List Nat} (h:I.contains i=true):aj (Gt D I) w w':=k.mono (fun x _ e=>⟨i,by simpa using h,e⟩)
theorem aI.RU (h:aI w D H) {A:List Nat} (k:aj (Gt D [1,2]) w w') (hA:dY w' (D 1) (D 2) A) (hi:eu { H with A:=A }):aI w' D { H with A:=A }:=by
 obtain ⟨In,hl,hin⟩:=h.lists
 have g:=h.IW (Cm (D:=D) (I:=[1,2]) rfl)
 exact ⟨h.inj,k.aH h.aH (gV h.inj 0 _ rfl),hA,h.ji.aK k (gV h.inj 3 _ rfl) (gV h.inj 4 _ rfl),⟨In,hl.aK k (gV h.inj 5 _ rfl) (gV h.inj 6 _ rfl) (gV h.inj 7 _ rfl),hin⟩,
  h.kG.aK k (gV h.inj 8 _ rfl) (gV h.inj 9 _ rfl),h.Cj.aK k (gV h.inj 10 _ rfl) (gV h.inj 11 _ rfl),k.aH h.lS (gV h.inj 12 _ rfl),h.cb,h.cw,h.cc,hi,h.qQ.sH k g.1 g.2.1,h.sizes.sH k g.2.2,h.xu⟩
theorem aI.EJ (h:aI w D H) (k:aj (only (D 1)) w w') (hA:dY w' (D 1) (D 2) H.A):aI w' D H:=h.RU (k.sel1 rfl) hA h.gU
theorem aI.abW (h:aI w D H) {K:List Nat} (k:aj (Gt D [4]) w w') (hT:iF w' (D 3) (D 4) H.c K) (hi:eu { H with K:=K }):aI w' D { H with K:=K }:=by
 obtain ⟨In,hl,hin⟩:=h.lists
 have g:=h.IW (Cm (D:=D) (I:=[4]) rfl)
 exact ⟨h.inj,k.aH h.aH (gV h.inj 0 _ rfl),h.lY.aK k (gV h.inj 1 _ rfl) (gV h.inj 2 _ rfl),hT,⟨In,hl.aK k (gV h.inj 5 _ rfl) (gV h.inj 6 _ rfl) (gV h.inj 7 _ rfl),hin⟩,
  h.kG.aK k (gV h.inj 8 _ rfl) (gV h.inj 9 _ rfl),h.Cj.aK k (gV h.inj 10 _ rfl) (gV h.inj 11 _ rfl),k.aH h.lS (gV h.inj 12 _ rfl),h.cb,h.cw,h.cc,hi,h.qQ.sH k g.1 g.2.1,h.sizes.sH k g.2.2,h.xu⟩
theorem aI.JR (h:aI w D H) {A:List Nat} {fr:List (List Nat)} {In:List Nat} (k:aj (Gt D [1,2,5,7]) w w') (hA:dY w' (D 1) (D 2) A) (hL:dN w' (D 5) (D 6) (D 7) (D 1) (D 3) H.sz In (HS.F { H with A:=A,fr:=fr })) (hin:∀ n:Nat,oU H.sz In (n:Int)=HS.jg { H with A:=A,fr:=fr } n)
 (hi:eu { H with A:=A,fr:=fr }):aI w' D { H with A:=A,fr:=fr }:=by
 have g:=h.IW (Cm (D:=D) (I:=[1,2,5,7]) rfl)
 exact ⟨h.inj,k.aH h.aH (gV h.inj 0 _ rfl),hA,h.ji.aK k (gV h.inj 3 _ rfl) (gV h.inj 4 _ rfl),⟨In,hL,hin⟩,
  h.kG.aK k (gV h.inj 8 _ rfl) (gV h.inj 9 _ rfl),h.Cj.aK k (gV h.inj 10 _ rfl) (gV h.inj 11 _ rfl),k.aH h.lS (gV h.inj 12 _ rfl),h.cb,h.cw,h.cc,hi,h.qQ.sH k g.1 g.2.1,h.sizes.sH k g.2.2,h.xu⟩
theorem aI.NH (h:aI w D H) {s:Nat->Bool} (k:aj (Gt D [9]) w w') (hB:qP w' (D 8) (D 9) H.sz s) (hi:eu { H with bn:=s }):aI w' D { H with bn:=s }:=by
 obtain ⟨In,hl,hin⟩:=h.lists
 have g:=h.IW (Cm (D:=D) (I:=[9]) rfl)
 exact ⟨h.inj,k.aH h.aH (gV h.inj 0 _ rfl),h.lY.aK k (gV h.inj 1 _ rfl) (gV h.inj 2 _ rfl),h.ji.aK k (gV h.inj 3 _ rfl) (gV h.inj 4 _ rfl),⟨In,hl.aK k (gV h.inj 5 _ rfl) (gV h.inj 6 _ rfl) (gV h.inj 7 _ rfl),hin⟩,
  hB,h.Cj.aK k (gV h.inj 10 _ rfl) (gV h.inj 11 _ rfl),k.aH h.lS (gV h.inj 12 _ rfl),h.cb,h.cw,h.cc,hi,h.qQ.sH k g.1 g.2.1,h.sizes.sH k g.2.2,h.xu⟩
theorem aI.NI (h:aI w D H) {s:Nat->Bool} (k:aj (Gt D [11]) w w') (hB:qP w' (D 10) (D 11) H.sz s) (hi:eu { H with co:=s }):aI w' D { H with co:=s }:=by
 obtain ⟨In,hl,hin⟩:=h.lists
 have g:=h.IW (Cm (D:=D) (I:=[11]) rfl)
 exact ⟨h.inj,k.aH h.aH (gV h.inj 0 _ rfl),h.lY.aK k (gV h.inj 1 _ rfl) (gV h.inj 2 _ rfl),h.ji.aK k (gV h.inj 3 _ rfl) (gV h.inj 4 _ rfl),⟨In,hl.aK k (gV h.inj 5 _ rfl) (gV h.inj 6 _ rfl) (gV h.inj 7 _ rfl),hin⟩,
  h.kG.aK k (gV h.inj 8 _ rfl) (gV h.inj 9 _ rfl),hB,k.aH h.lS (gV h.inj 12 _ rfl),h.cb,h.cw,h.cc,hi,h.qQ.sH k g.1 g.2.1,h.sizes.sH k g.2.2,h.xu⟩
theorem aI.afz (h:aI w D H) {cl:List Nat} (k:aj (Gt D [12]) w w') (hB:aF w' (D 12) (aS cl) 3) (hl:cl.length=H.cells.length) (hi:eu { H with cells:=cl }):aI w' D { H with cells:=cl }:=by
 obtain ⟨In,hl2,hin⟩:=h.lists
 have g:=h.IW (Cm (D:=D) (I:=[12]) rfl)
 refine ⟨h.inj,?_,h.lY.aK k (gV h.inj 1 _ rfl) (gV h.inj 2 _ rfl),h.ji.aK k (gV h.inj 3 _ rfl) (gV h.inj 4 _ rfl),⟨In,hl2.aK k (gV h.inj 5 _ rfl) (gV h.inj 6 _ rfl) (gV h.inj 7 _ rfl),hin⟩,
  h.kG.aK k (gV h.inj 8 _ rfl) (gV h.inj 9 _ rfl),h.Cj.aK k (gV h.inj 10 _ rfl) (gV h.inj 11 _ rfl),hB,h.cb,h.cw,?_,hi,h.qQ.sH k g.1 g.2.1,h.sizes.sH k g.2.2,h.xu⟩
 ·have:=k.aH h.aH (gV h.inj 0 _ rfl)
  rw [<- hl] at this;exact this
 ·show H.c.c=(cl.length:Int)
  rw [hl];exact h.cc
theorem zO (h:aI w D H):Calls aA 26 #[au (D 0)] w fun e w'=>e = .returned (.agg H.c.cells.toArray)/\aj aB w w':=by
 obtain ⟨W0,hW0⟩:∃ W',W'=w.alloc (.cells #[ah 0,ah 0,ah 0,ah 0,ah 0,ah 0,ah 0] 23):=⟨_,rfl⟩
 have hk0:aj aB w W0:=by rw [hW0];exact (aj.refl _ _).alloc _
 have HC:=ay (zN (h.ji.still hk0))
 have y1:∀ o,(w.alloc o).cell? ⟨D 0,1,none⟩=some (au (D 3)):=fun o=>((aj.refl aB w).alloc o).still (h.aH.cell 1 rfl)
 have HO:Hid (aF W0 w.heap.size [ah 0,ah 0,ah 0,ah 0,ah 0,ah 0,ah 0] 23):=by rw [hW0];exact aF.bC w _ _
 have HK:=ay hk0
 generalize H.c=c at *
 obtain ⟨c0,c1,c2,c3,c4,c5,c6⟩:=c
 simp only [bK.cells] at *
 have hOg:w.heap.size<=w.heap.size:=Nat.le_refl _
 clear h hk0
 go_enter func26,ntmps26
 go_wp2_with fail
 rw [<- hW0]
 clear hW0
 refine HC.out.mono ?_
 rintro e w1 ⟨rfl,hk1⟩
 have bI:=ay (HK.out.trans hk1)
 have ho1:=hk1.aH HO.out (fun f=>f)
 clear hk1 HK HC HO y1
 generalize hO:w.heap.size=O at *
 have o0:=ho1.cell 0 rfl;have o1:=ho1.cell 1 rfl;have o2:=ho1.cell 2 rfl;have o3:=ho1.cell 3 rfl;have o4:=ho1.cell 4 rfl;have o5:=ho1.cell 5 rfl;have o6:=ho1.cell 6 rfl
 have f0:=ho1.free 0;have f1:=ho1.free 1;have f2:=ho1.free 2;have f3:=ho1.free 3;have f4:=ho1.free 4;have f5:=ho1.free 5;have f6:=ho1.free 6
 have uI:=ay ho1
 have HOE:=ay hO
 clear ho1 hO
 go_wp2_with fail
 obtain ⟨W4,l9⟩:∃ W',W'=(((((((w1.setCell ⟨O,0,none⟩ (ah c0)).setCell ⟨O,1,none⟩ (ah c1)).setCell ⟨O,2,none⟩ (ah c2)).setCell ⟨O,3,none⟩ (ah c3)).setCell ⟨O,4,none⟩ (ah c4)).setCell ⟨O,5,none⟩ (ah c5)).setCell ⟨O,6,none⟩ (ah c6)):=⟨_,rfl⟩
 rw [<- l9]
 have hF:aF W4 O [ah c0,ah c1,ah c2,ah c3,ah c4,ah c5,ah c6] 23:=by rw [l9];exact ((((((uI.out.set 0 _).set 1 _).set 2 _).set 3 _).set 4 _).set 5 _).set 6 _
 have k0:=hF.cell 0 rfl;have k1:=hF.cell 1 rfl;have k2:=hF.cell 2 rfl;have k3:=hF.cell 3 rfl;have k4:=hF.cell 4 rfl;have k5:=hF.cell 5 rfl;have k6:=hF.cell 6 rfl
 have hk4:aj aB w W4:=by
  rw [l9]
  exact bI.out.kF (((((((((aj.refl (only O) w1).put 0 _).put 1 _).put 2 _).put 3 _).put 4 _).put 5 _).put 6 _)) (fun i hi e=>by unfold only at e;have:=HOE.out;omega)
 refine bodyPost_ret (v := .agg #[ah c0,ah c1,ah c2,ah c3,ah c4,ah c5,ah c6]) (by simp [results,Tryz.f26,go_sem,k0,k1,k2,k3,k4,k5,k6]) rfl ⟨rfl,hk4⟩
theorem Lc (c:Nat) (w:World):Calls aA 113 #[ah (c:Int)] w fun e w'=>e = .returned (.bool (decide (c<2)))/\w=w':=by
 by_cases h0:c=0
 ·subst h0
  go_enter func113,ntmps113
  go_wp2_with fail
  go_ret
  exact ⟨rfl,rfl⟩
 ·have d0:((c:Int)==0)=false:=by simp;omega
  by_cases h1:c=1
  ·subst h1
   go_enter func113,ntmps113
   go_wp2_with fail
   go_ret
   exact ⟨rfl,rfl⟩
  ·have d1:((c:Int)==1)=false:=by simp;omega
   have HE:Hid (decide (c<2)=false):=gJ (by omega)
   clear h0 h1
   go_enter func113,ntmps113
   go_wp2_with fail
   go_ret
   rw [HE.out]
   exact ⟨rfl,rfl⟩
theorem NJ (h:aI w D H) (a:Nat):Calls aA 33 #[au (D 0),ah (a:Int)] w fun e w'=>e = .returned (.bool (H.bn a))/\w=w':=by
 have y3:=h.aH.cell 3 rfl
 have HB:=ay (h.kG.Wi a)
 generalize H.bn a=x at *
 clear h
 go_enter func33,ntmps33
 go_wp2_with (go_at_call 54;refine HB.out.mono ?_;rintro e w1 ⟨rfl,rfl⟩)
 go_ret
 exact ⟨rfl,rfl⟩
theorem Fz (h:aI w D H) (v:Nat):Calls aA 118 #[au (D 0),ah (v:Int)] w fun e w'=>e = .returned (.bool (decide (v<=H.n)))/\w=w':=by
 have y0:=h.aH.cell 0 rfl
 have HB:=ay (RF h.lY)
 rw [h.gU.sU] at HB
 have HE:Hid (decide ((v:Int)<=((H.b*H.ww:Nat):Int))=decide (v<=H.n)):=by unfold Hid HS.n;simp only [Int.ofNat_le]
 generalize H.n=n at *
 generalize H.b*H.ww=m at *
 have h0:decide ((0:Int)<=(v:Int))=true:=fK (by omega)
 clear h
 go_enter func118,ntmps118
 go_wp2_with (go_at_call 157;refine HB.out.mono ?_;rintro e w1 ⟨rfl,rfl⟩)
 all_goals
  go_ret
  refine ⟨?_,rfl⟩
  rw [<- HE.out]
  simp
theorem FB (h:aI w D H) (a:Nat):Calls aA 28 #[au (D 0),ah (a:Int)] w fun e w'=>e = .returned (.tuple #[ah ((if H.bn a then H.iU a else 0:Nat):Int),ah (if H.bn a then 0 else 1)])/\w=w':=by
 have y4:=h.aH.cell 4 rfl
 have HI:=ay (NJ h a)
 have HB:=ay (h.Cj.Wi a)
 unfold HS.iU
 generalize H.bn a=x at *
 generalize H.co a=y at *
 clear h
 cases x
 ·go_enter func28,ntmps28
  go_wp2_with (first|(go_at_call 33;refine HI.out.mono ?_;rintro e w1 ⟨rfl,rfl⟩)|(go_at_call 54;refine HB.out.mono ?_;rintro e w1 ⟨rfl,rfl⟩))
  go_ret2
  exact ⟨rfl,rfl⟩
 ·cases y
  all_goals
   go_enter func28,ntmps28
   go_wp2_with (first|(go_at_call 33;refine HI.out.mono ?_;rintro e w1 ⟨rfl,rfl⟩)|(go_at_call 54;refine HB.out.mono ?_;rintro e w1 ⟨rfl,rfl⟩))
   go_ret2
   exact ⟨rfl,rfl⟩
theorem Ld (h:aI w D H) (a c:Nat):Calls aA 216 #[au (D 0),ah (a:Int),ah (c:Int)] w fun e w'=>e = .returned (.tuple #[.bool (H.iG a c),ah (if H.bn a&&decide (c<2) then 0 else 1)])/\aI w' D (H.eF a c)/\aj (HF D) w w':=by
 have y4:=h.aH.cell 4 rfl
 have HI:=ay (NJ h a)
 have HC:=ay (Lc c w)
 by_cases hx:H.bn a=true
 ·by_cases hc:c<2
  ·have ha:a<H.sz:=h.kG.yI hx
   have HP:=ay (h.Cj.put a ha (c==1))
   rw [hx] at HI
   rw [fK hc] at HC
   have ZL:Hid (((c:Int)==1)=(c==1)):=by unfold Hid;rw [ajO];simp;omega
   have HE:Hid (H.iG a c=(H.co a != (c==1))/\(H.bn a&&decide (c<2))=true):=⟨by unfold HS.iG;rw [hx,fK hc];simp,by rw [hx,fK hc];rfl⟩
   have HR:Hid (∀ w',aj (only (D 11)) w w'->qP w' (D 10) (D 11) H.sz (iZ H.co a (c==1))->aI w' D (H.eF a c)):=fun w' k hs=>by
    by_cases hp:H.iG a c=true
    ·unfold HS.eF
     rw [aZ hp]
     exact h.NI (k.sel1 rfl) hs (h.gU.iK a (c==1))
    ·unfold HS.eF
     rw [aT hp]
     have hq:H.co a=(c==1):=by rw [HE.out.1] at hp;simpa using hp
     have hu:iZ H.co a (c==1)=H.co:=by
      funext x
      unfold iZ
      split
      ·rename_i e;subst e;exact hq.symm
      ·rfl
     rw [hu] at hs
     exact h.NI (s:=H.co) (k.sel1 rfl) hs h.gU
   rw [HE.out.1,HE.out.2]
   generalize H.eF a c=H' at *
   generalize (H.co a != (c==1))=z at *
   have ahQ:=ZL.out
   generalize (c==1)=cc at *
   clear h hx hc ha HE ZL
   go_enter func216,ntmps216
   go_wp2_with (first|(go_at_call 33;refine HI.out.mono ?_;rintro e w1 ⟨rfl,rfl⟩)|(go_at_call 113;refine HC.out.mono ?_;rintro e w1 ⟨rfl,rfl⟩)|(go_at_call 163;refine HP.out.mono ?_;rintro e w1 ⟨rfl,hs,hk⟩;have HS:=ay hs;have HK:=ay hk;clear hs hk))
   go_ret2
   exact ⟨rfl,HR.out _ HK.out HS.out,(HK.out.sel1 (I:=[11]) rfl).hf rfl⟩
  ·have HE:Hid (H.iG a c=false/\(H.bn a&&decide (c<2))=false/\H.eF a c=H):=by
    have h1:H.iG a c=false:=by unfold HS.iG;rw [gJ hc];simp
    exact ⟨h1,by rw [gJ hc];simp,by unfold HS.eF;rw [h1];rfl⟩
   rw [HE.out.1,HE.out.2.1,HE.out.2.2]
   rw [gJ hc] at HC
   rw [hx] at HI
   have HH:=ay h
   clear h hx hc HE
   go_enter func216,ntmps216
   go_wp2_with (first|(go_at_call 33;refine HI.out.mono ?_;rintro e w1 ⟨rfl,rfl⟩)|(go_at_call 113;refine HC.out.mono ?_;rintro e w1 ⟨rfl,rfl⟩))
   go_ret2
   exact ⟨rfl,HH.out,aj.refl _ _⟩
 ·have hx0:H.bn a=false:=by simpa using hx
  have HE:Hid (H.iG a c=false/\(H.bn a&&decide (c<2))=false/\H.eF a c=H):=by
   have h1:H.iG a c=false:=by unfold HS.iG;rw [hx0];simp
   exact ⟨h1,by rw [hx0];simp,by unfold HS.eF;rw [h1];rfl⟩
  rw [HE.out.1,HE.out.2.1,HE.out.2.2]
  rw [hx0] at HI
  have HH:=ay h
  clear h hx hx0 HE
  go_enter func216,ntmps216
  go_wp2_with (first|(go_at_call 33;refine HI.out.mono ?_;rintro e w1 ⟨rfl,rfl⟩)|(go_at_call 113;refine HC.out.mono ?_;rintro e w1 ⟨rfl,rfl⟩))
  go_ret2
  exact ⟨rfl,HH.out,aj.refl _ _⟩
end
section
variable {w w':World} {D:Nat->Nat} {H:HS}
theorem DI (h:aI w D H) (i:Int):Calls aA 57 #[au (D 0),ah i] w fun e w'=>e = .returned (.tuple #[ah (H.jc i:Int),ah (H.qj i:Int)])/\w=w':=by
 have y5:=h.aH.cell 5 rfl
 have hlen:H.cells.length<=64:=by
  have h1:=(jC h.ji.ok).2.2.2.2.1
  have h2:=h.cc
  omega
 by_cases h0:i<0
 ·have HE:Hid (H.qj i=9/\H.jc i=0):=by
   have h1:H.qj i=9:=by unfold HS.qj;rw [aZ (.inl h0)]
   exact ⟨h1,by unfold HS.jc;rw [h1];rfl⟩
  rw [HE.out.1,HE.out.2]
  have d0:decide (i<0)=true:=fK h0
  generalize H.cells.length=n at *
  clear h h0 HE
  go_enter func57,ntmps57
  go_wp2_with fail
  go_ret2
  exact ⟨rfl,rfl⟩
 ·have d0:decide (i<0)=false:=gJ h0
  by_cases h1:(H.cells.length:Int)<=i
  ·have HE:Hid (H.qj i=9/\H.jc i=0):=by
    have h2:H.qj i=9:=by unfold HS.qj;rw [aZ (.inr h1)]
    exact ⟨h2,by unfold HS.jc;rw [h2];rfl⟩
   rw [HE.out.1,HE.out.2]
   have d1:decide ((H.cells.length:Int)<=i)=true:=fK h1
   have h2:(0:Int)<=i:=by omega
   generalize H.cells.length=n at *
   clear h h0 HE
   go_enter func57,ntmps57
   go_wp2_with fail
   go_ret2
   exact ⟨rfl,rfl⟩
  ·obtain ⟨j,rfl⟩:∃ j:Nat,i=(j:Int):=⟨i.toNat,by omega⟩
   have hj:j<H.cells.length:=by omega
   have HE:Hid (H.qj (j:Int)=0/\H.jc (j:Int)=H.cells.getD j 0):=by
    have h2:H.qj (j:Int)=0:=by unfold HS.qj;rw [aT (by omega)]
    exact ⟨h2,by unfold HS.jc;rw [h2];rfl⟩
   rw [HE.out.1,HE.out.2]
   have d1:decide ((H.cells.length:Int)<=(j:Int))=false:=gJ h1
   have z:=h.lS.cell j (uw hj)
   have ZM:(j:Int)<(H.cells.length:Int):=by omega
   have Jh:(0:Int)<=(j:Int):=by omega
   generalize H.cells.getD j 0=x at *
   generalize H.cells.length=n at *
   clear h h0 h1 HE hj
   go_enter func57,ntmps57
   go_wp2_with fail
   go_ret2
   exact ⟨rfl,rfl⟩
theorem RV (h:aI w D H) (i:Int) (v:Nat):Calls aA 74 #[au (D 0),ah i,ah (v:Int)] w fun e w'=>e = .returned (ah (H.BZ i v:Int))/\aI w' D (H.vU i v)/\aj (HF D) w w':=by
 have y5:=h.aH.cell 5 rfl
 have hlen:H.cells.length<=64:=by
  have h1:=(jC h.ji.ok).2.2.2.2.1
  have h2:=h.cc
  omega
 have HC:=ay (DI h i)
 have HV:=ay (Fz h v)
 by_cases h0:H.qj i=0
 ·obtain ⟨j,rfl⟩:∃ j:Nat,i=(j:Int):=⟨i.toNat,by unfold HS.qj at h0;split at h0<;>omega⟩
  have hj:j<H.cells.length:=by unfold HS.qj at h0;split at h0<;>omega
  rw [h0] at HC
  by_cases hv:v<=H.n
  ·have HE:Hid (H.BZ (j:Int) v=0/\H.vU (j:Int) v=H.setCell j v):=by
    have h2:H.BZ (j:Int) v=0:=by unfold HS.BZ;rw [h0,aZ rfl,aZ hv]
    exact ⟨h2,by unfold HS.vU;rw [h2,aZ rfl];rfl⟩
   rw [HE.out.1,HE.out.2]
   rw [fK hv] at HV
   have z:=h.lS.cell j (uw hj)
   have fz:=h.lS.free j
   have ZM:(j:Int)<(H.cells.length:Int):=by omega
   have Jh:(0:Int)<=(j:Int):=by omega
   have hk:aj (only (D 12)) w (w.setCell ⟨D 12,j,none⟩ (ah (v:Int))):=(aj.refl _ _).put _ _
   have hR:aI (w.setCell ⟨D 12,j,none⟩ (ah (v:Int))) D (H.setCell j v):=by
    refine h.afz (cl:=H.cells.set j v) (hk.sel1 rfl) ?_ (by simp) (h.gU.setCell j v hv)
    rw [Fq]
    exact h.lS.set j _
   have HR:Hid (aI (w.setCell ⟨D 12,j,none⟩ (ah (v:Int))) D (H.setCell j v)/\aj (HF D) w (w.setCell ⟨D 12,j,none⟩ (ah (v:Int)))):=⟨hR,(hk.sel1 (I:=[12]) rfl).hf rfl⟩
   generalize H.setCell j v=H' at *
   generalize H.jc (j:Int)=cp at *
   generalize H.cells.getD j 0=x at *
   generalize H.cells.length=n at *
   clear h h0 HE hj hv hk hR
   go_enter func74,ntmps74
   go_wp2_with (first|(go_at_call 57;refine HC.out.mono ?_;rintro e w1 ⟨rfl,rfl⟩)|(go_at_call 118;refine HV.out.mono ?_;rintro e w1 ⟨rfl,rfl⟩))
   go_ret
   exact ⟨rfl,HR.out.1,HR.out.2⟩
  ·have HE:Hid (H.BZ (j:Int) v=4/\H.vU (j:Int) v=H):=by
    have h2:H.BZ (j:Int) v=4:=by unfold HS.BZ;rw [h0,aZ rfl,aT hv]
    exact ⟨h2,by unfold HS.vU;rw [h2];rfl⟩
   rw [HE.out.1,HE.out.2]
   rw [gJ hv] at HV
   have HH:=ay h
   generalize H.jc (j:Int)=cp at *
   generalize H.cells.length=n at *
   clear h h0 HE hj hv
   go_enter func74,ntmps74
   go_wp2_with (first|(go_at_call 57;refine HC.out.mono ?_;rintro e w1 ⟨rfl,rfl⟩)|(go_at_call 118;refine HV.out.mono ?_;rintro e w1 ⟨rfl,rfl⟩))
   go_ret
   exact ⟨rfl,HH.out,aj.refl _ _⟩
 ·have h9:H.qj i=9:=by unfold HS.qj at h0 ⊢;split<;>simp_all
  have HE:Hid (H.BZ i v=9/\H.vU i v=H):=by
   have h2:H.BZ i v=9:=by unfold HS.BZ;rw [aT h0]
   exact ⟨h2,by unfold HS.vU;rw [h2];rfl⟩
  rw [HE.out.1,HE.out.2]
  rw [h9] at HC
  have HH:=ay h
  generalize H.jc i=cp at *
  generalize H.cells.length=n at *
  clear h h0 HE h9
  go_enter func74,ntmps74
  go_wp2_with (first|(go_at_call 57;refine HC.out.mono ?_;rintro e w1 ⟨rfl,rfl⟩)|(go_at_call 118;refine HV.out.mono ?_;rintro e w1 ⟨rfl,rfl⟩))
  go_ret
  exact ⟨rfl,HH.out,aj.refl _ _⟩
def HS.jh (H:HS) (a:Nat):Nat:=match H.iC a with
 | none=>0
 | some (_,k)=>k
theorem aI.afA (h:aI w D H) (a:Nat):∃ B:Nat,Calls aA 149 #[au (D 3),ah (a:Int)] w fun e w'=>e = .returned (.tuple #[ah (B:Int),ah (H.jh a:Int),.bool (H.iC a).isSome])/\aj aB w w':=by
 have e:=h.RS a
 cases ho:H.iC a with
 | none =>
   rw [ho] at e
   refine ⟨0,?_⟩
   have h1:=OM h.ji H.ww a h.cw e h.qQ h.sizes
   unfold HS.jh
   rw [ho];exact h1
 | some x =>
   obtain ⟨B,k⟩:=x
   rw [ho] at e
   refine ⟨B,?_⟩
   have h1:=La h.ji H.ww a B k h.cw e h.qQ h.sizes
   unfold HS.jh
   rw [ho];exact h1
theorem Ad (h:aI w D H) (a:Nat):Calls aA 105 #[au (D 0),ah (a:Int)] w fun e w'=>e = .returned (.tuple #[ah (H.jh a:Int),.bool (H.qU a)])/\aj aB w w':=by
 obtain ⟨B,hO⟩:=h.afA a
 have HO:=ay hO
 have HB:Hid (∀ W,aj aB w W->Calls aA 54 #[au (D 8),ah (a:Int)] W fun e w'=>e = .returned (.bool (H.bn a))/\W=w'):=fun W hW=>(h.still hW).kG.Wi a
 have HL:Hid (∀ W,aj aB w W->Calls aA 150 #[au (D 5),ah (a:Int)] W fun e w'=>e = .returned (.bool (H.jg a))/\W=w'):=fun W hW=>by
  obtain ⟨In,hl,hi⟩:=(h.still hW).lists
  rw [<- hi a]
  exact abP hl a
 have hY:∀ W,aj aB w W->W.cell? ⟨D 0,3,none⟩=some (au (D 8))/\W.cell? ⟨D 0,2,none⟩=some (au (D 5)):=fun W hW=>⟨(h.still hW).aH.cell 3 rfl,(h.still hW).aH.cell 2 rfl⟩
 have HY:=ay hY
 have y1:=h.aH.cell 1 rfl
 have HE:Hid (H.qU a=((H.iC a).isSome && !H.bn a && !H.jg a)):=rfl
 rw [HE.out]
 generalize (H.iC a).isSome=p at *
 generalize H.bn a=x at *
 generalize H.jg a=y at *
 generalize H.jh a=k at *
 clear h hO hY HE
 cases p<;>cases x<;>cases y
 all_goals
  go_enter func105,ntmps105
  go_wp2_with (go_at_call 149;refine HO.out.mono ?_;rintro e w1 ⟨rfl,hk1⟩;have bI:=ay hk1;have z3:=(HY.out w1 hk1).1;have z2:=(HY.out w1 hk1).2;have HBW:=ay (HB.out w1 hk1);have KW:=ay (HL.out w1 hk1);clear hk1)
  go_wp2_with (first|(go_at_call 54;refine HBW.out.mono ?_;rintro e w2 ⟨rfl,rfl⟩)|(go_at_call 150;refine KW.out.mono ?_;rintro e w2 ⟨rfl,rfl⟩))
  go_ret2
  exact ⟨rfl,bI.out⟩
theorem Ec (h:aI w D H) (a:Nat):Calls aA 143 #[au (D 0),ah (a:Int)] w fun e w'=>e = .returned (.tuple #[ah (H.nf a:Int),.bool (H.tK a).isSome])/\aI w' D H/\aj (only (D 1)) w w':=by
 have hal:=h.gU.sU
 have hL:∃ er:Int,Calls aA 99 #[au (D 1),ah (a:Int)] w fun e w'=>e = .returned (.tuple #[.int .u64 (H.jf a:Int),ah er])/\aI w' D H/\aj (only (D 1)) w w':=by
  by_cases ha:1<=a/\a<=H.A.length
  ·refine ⟨0,?_⟩
   have h1:=JO h.lY (a - 1) (by omega)
   rw [show ((a - 1:Nat):Int)+1=(a:Int) by omega] at h1
   refine h1.mono ?_
   rintro e w' ⟨rfl,h2,h3⟩
   refine ⟨?_,h.EJ h3 h2,h3⟩
   unfold HS.jf vG
   rw [aZ ha.1]
  ·refine ⟨V9 a,?_⟩
   refine (ZF h.lY (a:Int) (by omega)).mono ?_
   rintro e w' ⟨rfl,h3⟩
   refine ⟨?_,h.still h3,h3.mono (fun _ _ f=>f.elim)⟩
   have:H.jf a=0:=by
    unfold HS.jf vG
    split
    ·rw [ajg,ajK (by omega)];rfl
    ·rfl
   rw [this];rfl
 obtain ⟨er,hL⟩:=hL
 have HL:=ay hL
 have y0:=h.aH.cell 0 rfl
 have hP:∃ c:Nat,∀ W,jk W->Calls aA 192 #[.int .u64 (H.jf a:Int)] W fun e w'=>e = .returned (.tuple #[ah (c:Int),ah (H.nf a:Int),.bool (H.tK a).isSome])/\W=w':=by
  have hx:=h.gU.wlt a
  unfold HS.nf HS.tK
  cases hp:Ey (H.jf a) with
  | none=>exact ⟨0,fun W hS=>QY _ hx hp W hS⟩
  | some cf =>
    obtain ⟨c,f⟩:=cf
    obtain ⟨h1,h2⟩:=Fb hp
    rw [h2]
    exact ⟨c,fun W hS=>U6 c f h1 W hS⟩
 obtain ⟨c,hP⟩:=hP
 have HP:=ay hP
 generalize H.jf a=x at *
 generalize H.nf a=n at *
 generalize (H.tK a).isSome=p at *
 clear h hL hP hal
 go_enter func143,ntmps143
 go_wp2_with (go_at_call 99;refine HL.out.mono ?_;rintro e w1 ⟨rfl,h1,k1⟩;have HH:=ay h1;have HK:=ay k1;clear h1 k1)
 have Le:=ay (HP.out _ HH.out.sizes)
 go_wp2_with (go_at_call 192;refine Le.out.mono ?_;rintro e w2 ⟨rfl,rfl⟩)
 go_ret2
 exact ⟨rfl,HH.out,HK.out⟩
end
section
variable {w w':World} {L iR iX aR aX tR sz:Nat} {In F A:List Nat}
theorem abX (h:dN w L iR iX aR tR sz In F) (pp:Int) (k b1 b2:Nat) (hin:jA sz In pp true=false) (hb1:aF w b1 [au L] 98) (hb2:aF w b2 [ah pp] 3) :
 Calls aA 238 #[ah (k:Int),au b1,au b2] w fun e w'=>e = .returned (ah 11)/\dN w' L iR iX aR tR sz In F/\aj (only iX) w w':=by
 obtain ⟨q0,q1,q2⟩:=h.Ci
 have EH:=ay (Cc (h.set.still (k:=(aj.refl aB w).drew)) pp true)
 have hpl:kP sz In pp true=In:=by unfold kP;rw [aT (by rw [hin];decide)]
 rw [hin,hpl] at EH
 have hLn:=h.ne
 have y1:=hb1.cell 0 rfl
 have y2:=hb2.cell 0 rfl
 have H:=ay h
 have HN:=ay hLn
 clear h hb1 hb2 hLn hpl hin
 go_enter func238,ntmps238
 go_wp2_with fail
 refine bG 5 rfl (by kernel_rfl) (by kernel_rfl) (fun K hK=>?_)
 change wpStill _ _ (World.drew _) _ _ _
 simp only [List.take_succ_cons,List.take_zero,List.drop_succ_cons,List.drop_zero] at hK ⊢
 repeat still_step
 refine wpStill_nil ?_
 change ite _ (Oper.wp _ _ _ w.drew _ _) _
 go_simp
 refine EH.out.mono ?_
 rintro e w1 ⟨rfl,hs1,hk1⟩
 refine hK _ _ ?_
 clear hK K
 have hk01:aj (only iX) w w1:=(aj.refl _ _).drew.trans hk1
 have mJ:=ay (H.out.RI hk01 HN.out.2 hs1)
 have bI:=ay hk01
 clear hs1 hk1 hk01 y1 y2 q0 q1 q2 EH
 repeat still_step
 refine wpStill_nil ?_
 go_wp2_with fail
 go_ret
 exact ⟨rfl,mJ.out,bI.out⟩
theorem aej (h:dN w L iR iX aR tR sz In F) (pp:Int)
 (hO:∀ W,aj aB w W->Calls aA 149 #[au tR,ah pp] W fun e w'=>e = .returned (.tuple #[ah 0,ah 0,.bool false])/\aj aB W w') :
 Calls aA 204 #[au L,ah pp] w fun e w'=>e = .returned (ah 1)/\aj aB w w':=by
 obtain ⟨W0,hW0⟩:∃ W',W'=(w.alloc (.cells #[au L] 98)).alloc (.cells #[ah pp] 3):=⟨_,rfl⟩
 have hk0:aj aB w W0:=by rw [hW0];exact ((aj.refl _ _).alloc _).alloc _
 have HSL:Hid (Calls aA 237 #[au L,ah pp,.func (.func 238) #[] #[au w.heap.size,au (w.heap.size+1)]] W0 fun e w'=>e = .returned (ah 1)/\aj aB w w'):=by
  have HO:=ay (hO W0 hk0)
  obtain ⟨q0,q1,q2⟩:=(h.still hk0).Ci
  have gQ:=ay hk0
  clear h hO hW0 hk0
  unfold Hid
  go_enter func237,ntmps237
  go_wp2_with (go_at_call 149;refine HO.out.mono ?_;rintro e w1 ⟨rfl,hk1⟩;have bI:=ay hk1;clear hk1)
  go_ret
  exact ⟨rfl,gQ.out.trans bI.out⟩
 have hmf:∀ (fn:Fn) (first aO:Array Value) (w:World),(Instr.makeFunc fn first aO).run aA w = .ok (.func fn first aO) w:=fun _ _ _ _=>rfl
 clear h hO hk0
 go_enter func204,ntmps204
 go_wp2_with fail
 rw [<- hW0]
 clear hW0
 refine HSL.out.mono ?_
 rintro e w1 ⟨rfl,h1⟩
 have H1:=ay h1
 clear h1
 go_wp2_with fail
 go_ret
 exact ⟨rfl,H1.out⟩
theorem aek (h:dN w L iR iX aR tR sz In F) (pp:Int) (k:Nat) (B0:Int) (hin:jA sz In pp true=false)
 (hO:∀ W,aj aB w W->Calls aA 149 #[au tR,ah pp] W fun e w'=>e = .returned (.tuple #[ah B0,ah (k:Int),.bool true])/\aj aB W w') :
 Calls aA 204 #[au L,ah pp] w fun e w'=>e = .returned (ah 11)/\dN w' L iR iX aR tR sz In F/\aj (only iX) w w':=by
 obtain ⟨W0,hW0⟩:∃ W',W'=(w.alloc (.cells #[au L] 98)).alloc (.cells #[ah pp] 3):=⟨_,rfl⟩
 have hk0:aj aB w W0:=by rw [hW0];exact ((aj.refl _ _).alloc _).alloc _
 have hb1:aF W0 w.heap.size [au L] 98:=by rw [hW0];exact (aF.bC w _ _).alloc _
 have hb2:aF W0 (w.heap.size+1) [ah pp] 3:=by
  rw [hW0]
  have h:=aF.bC (w.alloc (.cells #[au L] 98)) [ah pp] 3
  rw [World.size_alloc] at h
  exact h
 have HSL:Hid (Calls aA 237 #[au L,ah pp,.func (.func 238) #[] #[au w.heap.size,au (w.heap.size+1)]] W0 fun e w'=>e = .returned (ah 11)/\dN w' L iR iX aR tR sz In F/\aj (only iX) w w'):=by
  have HC:Hid (∀ W,aj aB W0 W->Calls aA 238 #[ah (k:Int),au w.heap.size,au (w.heap.size+1)] W fun e w'=>e = .returned (ah 11)/\dN w' L iR iX aR tR sz In F/\aj (only iX) W w'):=fun W hW =>
   abX ((h.still hk0).still hW) pp k _ _ hin (hW.aH hb1 (fun f=>f)) (hW.aH hb2 (fun f=>f))
  have HO:=ay (hO W0 hk0)
  obtain ⟨q0,q1,q2⟩:=(h.still hk0).Ci
  have gQ:=ay hk0
  clear h hin hO hW0 hk0 hb1 hb2
  unfold Hid
  go_enter func237,ntmps237
  go_wp2_with (first
   | (go_at_call 149;refine HO.out.mono ?_;rintro e w1 ⟨rfl,hk1⟩;have bI:=ay hk1;clear hk1)
   | (go_at_call 238;refine (HC.out _ bI.out).mono ?_;rintro e w2 ⟨rfl,h1,h3⟩;have H1:=ay h1;have H3:=ay h3;clear h1 h3))
  go_ret
  exact ⟨rfl,H1.out,(gQ.out.mono (fun _ _ f=>f.elim)).trans ((bI.out.mono (fun _ _ f=>f.elim)).trans H3.out)⟩
 have hmf:∀ (fn:Fn) (first aO:Array Value) (w:World),(Instr.makeFunc fn first aO).run aA w = .ok (.func fn first aO) w:=fun _ _ _ _=>rfl
 clear h hin hO hb1 hb2 hk0
 go_enter func204,ntmps204
 go_wp2_with fail
 rw [<- hW0]
 clear hW0
 refine HSL.out.mono ?_
 rintro e w1 ⟨rfl,h1,h3⟩
 have H1:=ay h1;have H3:=ay h3
 clear h1 h3
 go_wp2_with fail
 go_ret
 exact ⟨rfl,H1.out,H3.out⟩
end
theorem afB {In:List Nat} {sz:Nat} {H:HS} (hi:∀ n:Nat,oU sz In (n:Int)=H.jg n) {a:Nat} (ha:a<sz):jA sz In (a:Int) true = !H.jg a:=by
 unfold jA
 rw [hi,fK (by omega),Bool.true_and]
 cases H.jg a<;>rfl
section
variable {w w':World} {D:Nat->Nat} {H:HS}
theorem adI {H:HS} {k:Nat} (l:List Nat) (H':HS) (hf:H'.fr=H.fr.set k l):H'.F=H.F.set k (l.headD 0):=by
 unfold HS.F
 rw [hf,List.map_set]
theorem XJ (h:aI w D H) (k:Nat) (hk:k<4):Calls aA 202 #[au (D 5),ah (k:Int)] w fun e w'=>e = .returned (.tuple #[ah ((H.iT k).1:Int),ah ((H.iT k).2.1:Int)])/\aI w' D (H.iT k).2.2/\aj (HF D) w w':=by
 obtain ⟨In,hl,hi⟩:=h.lists
 have hf:=H.abw h.gU.oP hk
 unfold HS.iT
 cases hr:H.row k with
 | nil =>
   rw [hr] at hf
   refine (XG hl k hk hf).mono ?_
   rintro e w' ⟨rfl,rfl⟩
   exact ⟨rfl,h,aj.refl _ _⟩
 | cons a l =>
   rw [hr] at hf
   obtain ⟨hw,⟨B,ho⟩,hb,hin,hn⟩:=h.gU.ahg hk hr
   obtain ⟨o1,o2,_⟩:=gB ho
   have hal:=h.gU.sU
   have ha:a=(a - 1)+1:=by omega
   have hne:D 7≠D 2:=fun e=>absurd (h.inj 7 2 (by decide) (by decide) e) (by decide)
   have hwd:H.A.getD (a - 1) 0=gI (l.headD 0):=by
    unfold HS.jf vG at hw
    rw [aZ o1] at hw;exact hw
   refine (abV hl h.lY hne (a - 1) k (l.headD 0) hk (hf.trans ha) (by omega) hwd hn).mono ?_
   rintro e w' ⟨rfl,h1,h2,h3⟩
   rw [show ((a - 1:Nat):Int)+1=(a:Int) by omega] at h1 ⊢
   refine ⟨rfl,?_,?_⟩
   ·refine h.JR (A:=H.A) (fr:=H.fr.set k (H.row k).tail) (In:=kP H.sz In (a:Int) false) (h3.mono (fun x _ hx=>?_)) h2 ?_ ?_ (h.gU.take hk)
    ·rcases hx with e|e|e
     ·exact ⟨5,by simp,e⟩
     ·exact ⟨7,by simp,e⟩
     ·exact ⟨1,by simp,e⟩
    ·rw [adI (H.row k).tail _ rfl,hr]
     exact h1
    ·intro n
     rw [NG hl.set.len (by unfold HS.sz;omega),hi]
     exact (h.gU.abx hk hr n).symm
   ·refine h3.mono (fun x _ hx=>?_)
    rcases hx with e|e|e
    ·exact ⟨5,by decide,e⟩
    ·exact ⟨7,by decide,e⟩
    ·exact ⟨1,by decide,e⟩
theorem G6 (h:aI w D H) (k:Nat) (hk:k<4):Calls aA 159 #[au (D 0),ah (k:Int)] w fun e w'=>e = .returned (.tuple #[ah ((H.iT k).1:Int),ah ((H.iT k).2.1:Int)])/\aI w' D (H.iT k).2.2/\aj (HF D) w w':=by
 have HT:=ay (XJ h k hk)
 have y2:=h.aH.cell 2 rfl
 generalize (H.iT k).1=r1 at *
 generalize (H.iT k).2.1=r2 at *
 generalize (H.iT k).2.2=H' at *
 clear h
 go_enter func159,ntmps159
 go_wp2_with (go_at_call 202;refine HT.out.mono ?_;rintro e w1 ⟨rfl,h1,k1⟩;have HH:=ay h1;have HK:=ay k1;clear h1 k1)
 go_ret2
 exact ⟨rfl,HH.out,HK.out⟩
theorem OO (h:aI w D H) (a:Nat) (hb:H.bn a=false):Calls aA 204 #[au (D 5),ah (a:Int)] w fun e w'=>(∃ er:Int,e = .returned (ah er))/\aI w' D (H.jA a)/\aj (HF D) w w':=by
 obtain ⟨In,hl,hi⟩:=h.lists
 have eo:=h.RS a
 unfold HS.jA
 cases ho:H.iC a with
 | none =>
   rw [ho] at eo
   refine (aej hl (a:Int) (fun W hW=>OM (h.still hW).ji H.ww a h.cw eo (h.still hW).qQ (h.still hW).sizes)).mono ?_
   rintro e w' ⟨rfl,h1⟩
   exact ⟨⟨_,rfl⟩,h.still h1,h1.jU⟩
 | some x =>
   obtain ⟨B,k⟩:=x
   rw [ho] at eo
   have hk:=h.gU.jh ho
   obtain ⟨o1,o2,_⟩:=gB ho
   have hal:=h.gU.sU
   have hsz:a<H.sz:=by unfold HS.sz;omega
   have hO:∀ W,aj aB w W->Calls aA 149 #[au (D 3),ah (a:Int)] W fun e w'=>e = .returned (.tuple #[ah (B:Int),ah (k:Int),.bool true])/\aj aB W w' :=
    fun W hW=>La (h.still hW).ji H.ww a B k h.cw eo (h.still hW).qQ (h.still hW).sizes
   cases hin:H.jg a with
   | true =>
     simp only [hb,Bool.or_true,if_true]
     refine (aek hl (a:Int) k B (by rw [afB hi hsz,hin];rfl) hO).mono ?_
     rintro e w' ⟨rfl,h1,h2⟩
     have hk2:aj (Gt D [1,2,5,7]) w w':=h2.sel1 (i:=7) rfl
     have n1:¬ only (D 7) (D 1):=fun e=>absurd (h.inj 1 7 (by decide) (by decide) e) (by decide)
     have n2:¬ only (D 7) (D 2):=fun e=>absurd (h.inj 2 7 (by decide) (by decide) e) (by decide)
     exact ⟨⟨_,rfl⟩,h.JR (A:=H.A) (fr:=H.fr) hk2 (h.lY.aK h2 n1 n2) h1 hi h.gU,hk2.hf rfl⟩
   | false =>
     simp only [hb,Bool.or_self,Bool.false_eq_true,if_false]
     have hne:D 7≠D 2:=fun e=>absurd (h.inj 7 2 (by decide) (by decide) e) (by decide)
     have ha:((a - 1:Nat):Int)+1=(a:Int):=by omega
     have hin':oU H.sz In (((a - 1:Nat):Int)+1)=false:=by rw [ha,hi];exact hin
     refine (show Calls _ _ _ _ _ by rw [<- ha];exact abU hl h.lY hne (a - 1) k B (by omega) (by unfold HS.sz;omega) hin' hk (by rw [ha];exact hO)).mono ?_
     rintro e w' ⟨rfl,h1,h2,h3⟩
     rw [ha,show a - 1+1=a by omega] at h1
     rw [H.abw h.gU.oP hk] at h2
     refine ⟨⟨_,rfl⟩,?_,?_⟩
     ·refine h.JR (A:=H.A.set (a - 1) (gI ((H.row k).headD 0))) (fr:=H.fr.set k (a::H.row k)) (In:=kP H.sz In (a:Int) true) (h3.mono (fun x _ hx=>?_)) h2 ?_ ?_ (h.gU.put ho hb hin)
      ·rcases hx with e|e|e|e
       ·exact ⟨5,by simp,e⟩
       ·exact ⟨7,by simp,e⟩
       ·exact ⟨1,by simp,e⟩
       ·exact ⟨2,by simp,e⟩
      ·rw [adI (a::H.row k) _ rfl]
       exact h1
      ·intro n
       rw [NG hl.set.len hsz,hi]
       exact (h.gU.adZ ho hb hin n).symm
     ·refine h3.mono (fun x _ hx=>?_)
      rcases hx with e|e|e|e
      ·exact ⟨5,by decide,e⟩
      ·exact ⟨7,by decide,e⟩
      ·exact ⟨1,by decide,e⟩
      ·exact ⟨2,by decide,e⟩
theorem abY (h:aI w D H) (a:Nat):Calls aA 161 #[au (D 0),ah (a:Int)] w fun e w'=>(∃ er:Int,e = .returned (ah er))/\aI w' D (H.jA a)/\aj (HF D) w w':=by
 have y3:=h.aH.cell 3 rfl
 have y2:=h.aH.cell 2 rfl
 have HB:=ay (h.kG.Wi a)
 cases hb:H.bn a with
 | true =>
   have HE:Hid (H.jA a=H):=by
    unfold Hid HS.jA
    split
    ·rfl
    ·rw [hb];rfl
   rw [HE.out]
   rw [hb] at HB
   have HH:=ay h
   clear h hb HE
   go_enter func161,ntmps161
   go_wp2_with (go_at_call 54;refine HB.out.mono ?_;rintro e w1 ⟨rfl,rfl⟩)
   go_ret
   exact ⟨⟨_,rfl⟩,HH.out,aj.refl _ _⟩
 | false =>
   have HP:=ay (OO h a hb)
   rw [hb] at HB
   generalize H.jA a=H' at *
   clear h hb
   go_enter func161,ntmps161
   go_wp2_with (first|(go_at_call 54;refine HB.out.mono ?_;rintro e w1 ⟨rfl,rfl⟩)|(go_at_call 204;refine HP.out.mono ?_;rintro e w1 ⟨⟨er,rfl⟩,h1,k1⟩;have HH:=ay h1;have HK:=ay k1;clear h1 k1))
   go_ret
   exact ⟨⟨_,rfl⟩,HH.out,HK.out⟩
theorem ZN (h:aI w D H) (a:Nat):Calls aA 288 #[au (D 0),ah (a:Int)] w fun e w'=>(∃ er:Int,e = .returned (ah er))/\aI w' D (H.jH a)/\aj (HF D) w w':=by
 have y3:=h.aH.cell 3 rfl
 cases hb:H.bn a with
 | false =>
   have HE:Hid (H.jH a=H):=by unfold Hid HS.jH;rw [hb];rfl
   rw [HE.out]
   have Wj:=h.kG.afy a hb
   have EH:=ay Wj
   have HR:Hid (∀ w',qP w' (D 8) (D 9) H.sz H.bn->aj (only (D 9)) w w'->aI w' D H):=fun w' hs k=>h.NH (s:=H.bn) (k.sel1 rfl) hs h.gU
   clear h hb HE Wj
   go_enter func288,ntmps288
   go_wp2_with (go_at_call 163;refine EH.out.mono ?_;rintro e w1 ⟨rfl,hs,k1⟩;have HS:=ay hs;have HK:=ay k1;clear hs k1)
   go_ret
   exact ⟨⟨_,rfl⟩,HR.out _ HS.out HK.out,(HK.out.sel1 (I:=[9]) rfl).hf rfl⟩
 | true =>
   have HE:Hid (H.jH a=(H.rZ a).jA a):=by unfold Hid HS.jH;rw [hb];rfl
   rw [HE.out]
   have ha:=h.kG.yI hb
   have Wj:=h.kG.put a ha false
   rw [hb] at Wj
   have EH:=ay Wj
   have HR:Hid (∀ w',qP w' (D 8) (D 9) H.sz (iZ H.bn a false)->aj (only (D 9)) w w'->aI w' D (H.rZ a)):=fun w' hs k=>h.NH (s:=iZ H.bn a false) (k.sel1 rfl) hs (h.gU.rZ a)
   have HL:Hid (∀ w',aI w' D (H.rZ a)->Calls aA 204 #[au (D 5),ah (a:Int)] w' fun e w2=>(∃ er:Int,e = .returned (ah er))/\aI w2 D ((H.rZ a).jA a)/\aj (HF D) w' w2):=fun w' h' =>
    OO h' a (by show iZ H.bn a false a=false;unfold iZ;rw [aZ rfl])
   generalize (H.rZ a).jA a=H2 at *
   clear h hb HE Wj ha
   go_enter func288,ntmps288
   go_wp2_with (go_at_call 163;refine EH.out.mono ?_;rintro e w1 ⟨rfl,hs,k1⟩;have AP:=ay (HR.out _ hs k1);have HK:=ay ((k1.sel1 (D:=D) (i:=9) (I:=[9]) rfl).hf rfl);have z2:=(HR.out _ hs k1).aH.cell 2 rfl;clear hs k1)
   have EI:=ay (HL.out _ AP.out)
   go_wp2_with (go_at_call 204;refine EI.out.mono ?_;rintro e w2 ⟨⟨er,rfl⟩,h2,k2⟩;have zu:=ay h2;have dF:=ay k2;clear h2 k2)
   go_ret
   exact ⟨⟨_,rfl⟩,zu.out,HK.out.trans dF.out⟩
theorem Vg (h:aI w D H) (B:Nat) (hB:H.K.getD B 0≠0):Calls aA 63 #[au (D 3),ah (B:Int)] w fun e w'=>∃ v,e = .returned v/\w'.ownsRow w.heap.size 3 1 v (H.bH B).length ((H.bH B).map fun x:Nat => ah (x:Int))/\aj aB w w':=by
 have hBl:B<H.K.length:=by
  rcases Nat.lt_or_ge B H.K.length with g|g
  ·exact g
  ·rw [ajg,ajK g] at hB
   simp at hB
 have hk4:H.K.getD B 0<=4:=by
  rw [ajg,ajh hBl]
  exact h.ji.le _ (aji hBl)
 have h1:=ZA h.ji H.ww B (H.K.getD B 0 - 1) h.cw hBl (by omega) (by omega) h.qQ h.sizes
 rw [show H.K.getD B 0 - 1+1=H.K.getD B 0 by omega] at h1
 unfold HS.bH
 rw [aT hB,wL]
 exact h1
theorem Jl (h:aI w D H) (k:Nat) (hk:k<4):Calls aA 160 #[au (D 0),ah (k:Int)] w fun e w'=>∃ v,e = .returned (.tuple #[v,ah ((H.gq k).2.1:Int)])/\w'.ownsRow w.heap.size 3 1 v (H.gq k).1.length ((H.gq k).1.map fun x:Nat => ah (x:Int))/\aI w' D (H.gq k).2.2/\aj (HF D) w w':=by
 have y1:=h.aH.cell 1 rfl
 unfold HS.gq
 cases hf:H.K.findIdx? (fun x=>x==0) with
 | none =>
   have hl:∀ j,j<H.K.length->H.K.getD j 0≠0:=fun j hj e=>by
    rw [List.findIdx?_eq_none_iff] at hf
    have:=hf _ (aji hj)
    rw [ajg,ajh hj] at e
    simp at e this
    exact this e
   have HA:=ay (Rx h.ji k hl hk)
   have HH:=ay h
   have HN:Hid (w.ownsRow w.heap.size 3 1 (.slice none 0 0) 0 []):=⟨rfl,.inl ⟨rfl,rfl⟩⟩
   clear h hf hl
   go_enter func160,ntmps160
   go_wp2_with (go_at_call 203;refine HA.out.mono ?_;rintro e w1 ⟨rfl,rfl⟩)
   go_ret2
   exact ⟨_,rfl,HN.out,HH.out,aj.refl _ _⟩
 | some B =>
   obtain ⟨hB,h0,hl⟩:=List.findIdx?_eq_some_iff_getElem.1 hf
   have h0':H.K.getD B 0=0:=by
    rw [ajg,ajh hB];simpa using h0
   have hl':∀ j,j<B->H.K.getD j 0≠0:=fun j hj e=>by
    have:=hl j hj
    rw [ajg,ajh (by omega)] at e
    simp at e this
    exact this e
   dsimp only
   have HA:=ay (Xy h.ji B k hB h0' hl' hk)
   have HR:Hid (∀ w',iF w' (D 3) (D 4) H.c (H.K.set B (k+1))->aj (only (D 4)) w w'->aI w' D (H.assign B k)):=fun w' ht kk=>h.abW (K:=H.K.set B (k+1)) (kk.sel1 rfl) ht (h.gU.assign h0' hk)
   have HL:Hid (∀ w',aI w' D (H.assign B k)->Calls aA 63 #[au (D 3),ah (B:Int)] w' fun e w2=>∃ v,e = .returned v/\w2.ownsRow w'.heap.size 3 1 v ((H.assign B k).bH B).length (((H.assign B k).bH B).map fun x:Nat => ah (x:Int))/\aj aB w' w2):=fun w' h' =>
    Vg h' B (by show (H.K.set B (k+1)).getD B 0≠0;rw [Gz hB];omega)
   generalize (H.assign B k).bH B=sl at *
   generalize H.assign B k=H2 at *
   clear h hf hB h0 hl h0' hl'
   go_enter func160,ntmps160
   go_wp2_with (go_at_call 203;refine HA.out.mono ?_;rintro e w1 ⟨rfl,ht,k1⟩;have AP:=ay (HR.out _ ht k1);have HK:=ay k1;have z1:=(HR.out _ ht k1).aH.cell 1 rfl;clear ht k1)
   have EI:=ay (HL.out _ AP.out)
   go_wp2_with (go_at_call 63;refine EI.out.mono ?_;rintro e w2 ⟨v,rfl,ho,k2⟩;have HO:=ay ho;have dF:=ay k2;clear ho k2)
   go_ret2
   exact ⟨v,rfl,bQ HO.out HK.out.size,AP.out.still dF.out,((HK.out.sel1 (D:=D) (i:=4) (I:=[4]) rfl).hf rfl).trans dF.out.jU⟩
end
section
variable {w w':World} {D:Nat->Nat} {H:HS}
theorem Lh {a:Nat} (hh:H.qU a=true):∃ B k,H.iC a=some (B,k)/\H.bn a=false/\H.jg a=false/\H.jh a=k:=by
 unfold HS.qU at hh
 simp only [akD,Bool.not_eq_true'] at hh
 obtain ⟨⟨h1,h2⟩,h3⟩:=hh
 obtain ⟨⟨B,k⟩,ho⟩:=Option.isSome_iff_exists.1 h1
 exact ⟨B,k,ho,h2,h3,by unfold HS.jh;rw [ho]⟩
theorem Jm (h:aI w D H) (x v:Nat) (h1:1<=x) (h2:x<=H.b*H.ww) (hv:v<sD) (hi:eu (H.uj x v)):Calls aA 119 #[au (D 1),ah (x:Int),.int .u64 (v:Int)] w fun e w'=>e = .returned (ah 0)/\aI w' D (H.uj x v)/\aj (HF D) w w':=by
 have hal:=h.gU.sU
 have hx:((x - 1:Nat):Int)+1=(x:Int):=by omega
 have h9:=OH h.lY (x - 1) (by omega) v (by unfold sD at hv;omega)
 rw [hx] at h9
 refine h9.mono ?_
 rintro e w' ⟨rfl,g1,g2⟩
 have hk:aj (Gt D [1,2]) w w':=g2.mono (fun y _ hy=>by
  rcases hy with e|e
  ·exact ⟨1,by simp,e⟩
  ·exact ⟨2,by simp,e⟩)
 exact ⟨rfl,h.RU (A:=H.A.set (x - 1) v) hk g1 hi,hk.hf rfl⟩
theorem XK (h:aI w D H) (a f:Nat) (hf:f<=15):Calls aA 115 #[au (D 0),ah (a:Int),ah (f:Int)] w fun e w'=>(∃ er:Int,e = .returned (ah er))/\aI w' D (H.kR a (f:Int))/\aj (HF D) w w':=by
 have HA:=ay (Ad h a)
 have HH:=ay h
 have hY:∀ W,aj aB w W->W.cell? ⟨D 0,0,none⟩=some (au (D 1)):=fun W hW=>(h.still hW).aH.cell 0 rfl
 have HY:=ay hY
 cases hh:H.qU a with
 | false =>
   have HE:Hid (H.kR a (f:Int)=H):=by
    unfold Hid HS.kR
    split
    ·rfl
    ·rw [hh];rfl
   rw [HE.out]
   rw [hh] at HA
   generalize H.jh a=k at *
   clear h hh HE hY
   go_enter func115,ntmps115
   go_wp2_with (go_at_call 105;refine HA.out.mono ?_;rintro e w1 ⟨rfl,k1⟩;have HK:=ay k1;clear k1)
   go_ret
   exact ⟨⟨_,rfl⟩,HH.out.still HK.out,HK.out.jU⟩
 | true =>
   obtain ⟨B,k,ho,hb,hi,hc⟩:=Lh hh
   have hk:=h.gU.jh ho
   rw [hh,hc] at HA
   have HO:Hid (∀ W,aj aB w W->Calls aA 162 #[ah (k:Int),ah (f:Int)] W fun e w'=>e = .returned (.tuple #[.int .u64 ((if mX k f then lT k f else 0:Nat):Int),.bool (decide (mX k f))])/\W=w'):=fun W hW=>BP k f (by omega) (by omega) W (h.sizes.aK hW)
   by_cases hok:mX k f
   ·have HE:Hid (H.kR a (f:Int)=H.wK a k f):=by
     unfold Hid HS.kR
     rw [ho]
     simp only [ajv]
     rw [hh,fK hok,fK (Int.natCast_nonneg f)]
     rfl
    rw [HE.out]
    rw [aZ hok,fK hok] at HO
    obtain ⟨o1,o2,_⟩:=gB ho
    have hox:=(wJ hok).2.2.1
    have HST:Hid (∀ W,aj aB w W->Calls aA 119 #[au (D 1),ah (a:Int),.int .u64 (lT k f:Int)] W fun e w'=>e = .returned (ah 0)/\aI w' D (H.wK a k f)/\aj (HF D) W w'):=fun W hW =>
     Jm (h.still hW) a (lT k f) o1 o2 (by unfold sD;omega) (h.gU.wK ho hb hi hok)
    generalize H.wK a k f=H2 at *
    generalize lT k f=ow at *
    clear h hh HE hY ho hok hb hi hc hox o1 o2
    go_enter func115,ntmps115
    go_wp2_with (go_at_call 105;refine HA.out.mono ?_;rintro e w1 ⟨rfl,k1⟩;have HK:=ay k1;have z0:=HY.out _ k1;clear k1)
    have uI:=ay (HO.out _ HK.out)
    have ahR:=ay (HST.out _ HK.out)
    go_wp2_with (first|(go_at_call 162;refine uI.out.mono ?_;rintro e w2 ⟨rfl,rfl⟩)|(go_at_call 119;refine ahR.out.mono ?_;rintro e w2 ⟨rfl,h2,k2⟩;have zu:=ay h2;have dF:=ay k2;clear h2 k2))
    go_ret
    exact ⟨⟨_,rfl⟩,zu.out,HK.out.jU.trans dF.out⟩
   ·have HE:Hid (H.kR a (f:Int)=H):=by
     unfold Hid HS.kR
     rw [ho]
     simp only [ajv]
     rw [gJ hok]
     simp
    rw [HE.out]
    rw [aT hok,gJ hok] at HO
    clear h hh HE ho hok hb hi hc
    go_enter func115,ntmps115
    go_wp2_with (go_at_call 105;refine HA.out.mono ?_;rintro e w1 ⟨rfl,k1⟩;have HK:=ay k1;clear k1)
    have uI:=ay (HO.out _ HK.out)
    go_wp2_with (go_at_call 162;refine uI.out.mono ?_;rintro e w2 ⟨rfl,rfl⟩)
    go_ret
    exact ⟨⟨_,rfl⟩,HH.out.still HK.out,HK.out.jU⟩
def HS.Bh (H:HS) (a c:Nat):Nat:=if H.qU a&&decide (c<2) then (if (H.tK a).isSome then 0 else 11) else 1
theorem ZO (h:aI w D H) (a c:Nat):Calls aA 116 #[au (D 0),ah (a:Int),ah (c:Int)] w fun e w'=>e = .returned (ah (H.Bh a c:Int))/\aI w' D (H.oV a c)/\aj (HF D) w w':=by
 have HA:=ay (Ad h a)
 have uO:Hid (∀ W,Calls aA 113 #[ah (c:Int)] W fun e w'=>e = .returned (.bool (decide (c<2)))/\W=w'):=fun W=>Lc c W
 have DF:Hid (∀ W,aj aB w W->Calls aA 143 #[au (D 0),ah (a:Int)] W fun e w'=>e = .returned (.tuple #[ah (H.nf a:Int),.bool (H.tK a).isSome])/\aI w' D H/\aj (only (D 1)) W w'):=fun W hW=>Ec (h.still hW) a
 have HH:=ay h
 generalize hn:H.nf a=n at DF
 cases hh:H.qU a with
 | false =>
   have HE:Hid (H.oV a c=H/\H.Bh a c=1):=by
    refine ⟨?_,?_⟩
    ·unfold HS.oV;rw [hh];rfl
    ·unfold HS.Bh;rw [hh];rfl
   rw [HE.out.1,HE.out.2]
   rw [hh] at HA
   generalize H.jh a=k at *
   generalize decide (c<2)=cc at *
   clear h hh HE hn
   go_enter func116,ntmps116
   go_wp2_with (go_at_call 105;refine HA.out.mono ?_;rintro e w1 ⟨rfl,k1⟩;have HK:=ay k1;clear k1)
   go_ret
   exact ⟨rfl,HH.out.still HK.out,HK.out.jU⟩
 | true =>
   obtain ⟨B,k,ho,hb,hi,hc⟩:=Lh hh
   rw [hh,hc] at HA
   by_cases hc2:c<2
   ·rw [fK hc2] at uO
    cases hm:H.tK a with
    | none =>
      have HE:Hid (H.oV a c=H/\H.Bh a c=11):=by
       refine ⟨?_,?_⟩
       ·unfold HS.oV;rw [hm];simp
       ·unfold HS.Bh;rw [hh,hm,fK hc2];rfl
      rw [HE.out.1,HE.out.2]
      rw [hm] at DF
      clear h hh HE hn ho hb hi hc hc2 hm
      go_enter func116,ntmps116
      go_wp2_with (first|(go_at_call 105;refine HA.out.mono ?_;rintro e w1 ⟨rfl,k1⟩;have HK:=ay k1;have CB:=ay (DF.out _ k1);clear k1)|(go_at_call 113;refine (uO.out _).mono ?_;rintro e w1 ⟨rfl,rfl⟩)|(go_at_call 143;refine CB.out.mono ?_;rintro e w2 ⟨rfl,h2,k2⟩;have zu:=ay h2;have dF:=ay k2;clear h2 k2))
      go_ret
      exact ⟨rfl,zu.out,HK.out.jU.trans ((dF.out.sel1 (D:=D) (i:=1) (I:=[1]) rfl).hf rfl)⟩
    | some m =>
      have HE:Hid (H.oV a c=H.Aq a (c==1)/\H.Bh a c=0):=by
       refine ⟨?_,?_⟩
       ·unfold HS.oV;rw [hh,hm,fK hc2];rfl
       ·unfold HS.Bh;rw [hh,hm,fK hc2];rfl
      rw [HE.out.1,HE.out.2]
      rw [hm] at DF
      obtain ⟨o1,o2,_⟩:=gB ho
      have ha:a<H.sz:=by unfold HS.sz;omega
      have Le:Hid (∀ W,aI W D H->Calls aA 163 #[au (D 8),ah (a:Int),.bool true] W fun e w'=>(∃ r,e = .returned (.bool r))/\aI w' D { H with bn:=iZ H.bn a true }/\aj (HF D) W w'):=fun W hW=>by
       refine (hW.kG.put a ha true).mono ?_
       rintro e w' ⟨rfl,g1,g2⟩
       have hi2:eu { H with bn:=iZ H.bn a true }:=by
        have:=h.gU.Aq (H.co a) ho hi hm
        have e2:H.Aq a (H.co a)={ H with bn:=iZ H.bn a true }:=by
         unfold HS.Aq
         congr 1
         funext x
         unfold iZ
         split
         ·rename_i e;rw [e]
         ·rfl
        rw [e2] at this;exact this
       exact ⟨⟨_,rfl⟩,hW.NH (g2.sel1 rfl) g1 hi2,(g2.sel1 (I:=[9]) rfl).hf rfl⟩
      have HP2:Hid (∀ W,aI W D { H with bn:=iZ H.bn a true }->Calls aA 163 #[au (D 10),ah (a:Int),.bool (c==1)] W fun e w'=>(∃ r,e = .returned (.bool r))/\aI w' D (H.Aq a (c==1))/\aj (HF D) W w'):=fun W hW=>by
       refine (hW.Cj.put a ha (c==1)).mono ?_
       rintro e w' ⟨rfl,g1,g2⟩
       exact ⟨⟨_,rfl⟩,hW.NI (s:=iZ H.co a (c==1)) (g2.sel1 rfl) g1 (h.gU.Aq (c==1) ho hi hm),(g2.sel1 (I:=[11]) rfl).hf rfl⟩
      have ZL:Hid (((c:Int)==1)=(c==1)):=by unfold Hid;rw [ajO];simp;omega
      have ahQ:=ZL.out
      generalize { H with bn:=iZ H.bn a true }=H1 at *
      generalize H.Aq a (c==1)=H2 at *
      generalize (c==1)=cc at *
      clear h hh HE hn ho hb hi hc hc2 hm o1 o2 ha ZL
      go_enter func116,ntmps116
      go_wp2_with (first|(go_at_call 105;refine HA.out.mono ?_;rintro e w1 ⟨rfl,k1⟩;have HK:=ay k1;have CB:=ay (DF.out _ k1);clear k1)|(go_at_call 113;refine (uO.out _).mono ?_;rintro e w1 ⟨rfl,rfl⟩)|(go_at_call 143;refine CB.out.mono ?_;rintro e w2 ⟨rfl,h2,k2⟩;have zu:=ay h2;have dF:=ay k2;have z3:=h2.aH.cell 3 rfl;clear h2 k2)|fail)
      refine (Le.out _ zu.out).mono ?_
      rintro e w3 ⟨⟨r,rfl⟩,h3,k3⟩
      have RX:=ay h3
      have jF:=ay k3
      have z4:=h3.aH.cell 4 rfl
      clear h3 k3 z3
      go_wp2_with fail
      refine (HP2.out _ RX.out).mono ?_
      rintro e w4 ⟨⟨r4,rfl⟩,h4,k4⟩
      have OQ:=ay h4
      have nV:=ay k4
      clear h4 k4 z4
      go_wp2_with fail
      go_ret
      exact ⟨rfl,OQ.out,HK.out.jU.trans (((dF.out.sel1 (D:=D) (i:=1) (I:=[1]) rfl).hf rfl).trans (jF.out.trans nV.out))⟩
   ·have HE:Hid (H.oV a c=H/\H.Bh a c=1):=by
     refine ⟨?_,?_⟩
     ·unfold HS.oV;rw [gJ hc2];simp
     ·unfold HS.Bh;rw [gJ hc2];simp
    rw [HE.out.1,HE.out.2]
    rw [gJ hc2] at uO
    clear h hh HE hn ho hb hi hc hc2
    go_enter func116,ntmps116
    go_wp2_with (first|(go_at_call 105;refine HA.out.mono ?_;rintro e w1 ⟨rfl,k1⟩;have HK:=ay k1;clear k1)|(go_at_call 113;refine (uO.out _).mono ?_;rintro e w1 ⟨rfl,rfl⟩))
    go_ret
    exact ⟨rfl,HH.out.still HK.out,HK.out.jU⟩
end
end
end Go.Proofs.YtanfphjoebobaaaGreatDoor
