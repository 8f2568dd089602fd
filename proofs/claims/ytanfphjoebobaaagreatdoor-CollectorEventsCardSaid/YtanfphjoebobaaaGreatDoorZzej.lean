/- Parts of the walk. No conditions. -/
import Derived.Test.YtanfphjoebobaaaGreatDoorZzei
import Derived.Test.YtanfphjoebobaaaGreatDoorZzed
namespace Go.Proofs.YtanfphjoebobaaaGreatDoor
open _root_.Go.Proofs.Tryz hiding prog
open _root_.Go.Proofs.Tryz renaming prog->ay
set_option maxRecDepth 4000
set_option maxHeartbeats 2000000
section
attribute [local go_sem] Oper.semAt_some
open Go.RowKit
def sel (D:Nat->Nat) (I:List Nat):Nat->Prop:=fun x=>∃ i∈I,x=D i
def HF (D:Nat->Nat):Nat->Prop:=fun x=>∃ i,i<13/\x=D i
structure aF (w:World) (D:Nat->Nat) (H:HS):Prop where
 inj:∀ i j,i<13->j<13->D i=D j->i=j
 blk:aA w (D 0) [aj (D 1),aj (D 3),aj (D 5),aj (D 8),aj (D 10),.slice (some ⟨D 12,0,none⟩) H.cells.length H.cells.length] 101
 arena:dH w (D 1) (D 2) H.A
 table:dU w (D 3) (D 4) H.c H.K
 lists:∃ In,bH w (D 5) (D 6) (D 7) (D 1) (D 3) H.sz In H.F/\∀ n:Nat,jK H.sz In (n:Int)=H.inn n
 born:lH w (D 8) (D 9) H.sz H.bn
 cols:lH w (D 10) (D 11) H.sz H.co
 iP:aA w (D 12) (aG H.cells) 3
 cb:H.c.b=H.b
 cw:H.c.w=H.ww
 cc:H.c.c=(H.cells.length:Int)
 inv:bZ H
 tabs:Tabs w
 sizes:Sizes w
 qF:∀ i,i<13->D i≠3/\D i≠4/\D i≠2
theorem Tabs.mO {S:Nat->Prop} {w w':World} (h:Tabs w) (k:Keep S w w') (h1:¬ S 3) (h2:¬ S 4):Tabs w':=⟨fun i r hr=>k.jM (h.lim i r hr) h1,fun i s hs=>k.jM (h.kind i s hs) h2⟩
theorem Sizes.mO {S:Nat->Prop} {w w':World} (h:Sizes w) (k:Keep S w w') (h1:¬ S 2):Sizes w':=fun i r hr=>k.jM (h i r hr) h1
section
variable {w w':World} {D:Nat->Nat} {H:HS}
theorem dJ (inj:∀ i j,i<13->j<13->D i=D j->i=j) (j:Nat) (I:List Nat) (h:(decide (j<13)&&I.all (fun i=>decide (i<13)&&decide (i≠j)))=true):¬ sel D I (D j):=by
 rintro ⟨i,hi,e⟩
 simp only [Bool.and_eq_true,decide_eq_true_eq,List.all_eq_true] at h
 have h2:=h.2 i hi
 exact h2.2 (inj i j h2.1 h.1 e.symm)
theorem aF.adk (h:aF w D H):H.K.length=H.b:=by
 have h1:=h.table.len
 have h2:=h.cb
 omega
theorem aF.nat (h:aF w D H):1<=H.b/\H.b<=4096/\16<=H.ww/\H.ww<=256/\H.b*H.ww<=1048576:=lD h.table.ok h.cb h.cw
theorem aF.Ls (h:aF w D H) (a:Nat):lJ H.K.length H.ww H.K a=H.owner a:=by rw [h.adk];rfl
theorem aF.keep {S:Nat->Prop} (h:aF w D H) (k:Keep S w w') (hS:∀ i,i<13->¬ S (D i)) (h1:¬ S 3) (h2:¬ S 4) (h3:¬ S 2):aF w' D H:=by
 obtain ⟨In,hl,hi⟩:=h.lists
 exact ⟨h.inj,k.blk h.blk (hS 0 (by decide)),h.arena.keep k (hS 1 (by decide)) (hS 2 (by decide)),h.table.keep k (hS 3 (by decide)) (hS 4 (by decide)),⟨In,hl.keep k (hS 5 (by decide)) (hS 6 (by decide)) (hS 7 (by decide)),hi⟩,
  h.born.keep k (hS 8 (by decide)) (hS 9 (by decide)),h.cols.keep k (hS 10 (by decide)) (hS 11 (by decide)),k.blk h.iP (hS 12 (by decide)),h.cb,h.cw,h.cc,h.inv,h.tabs.mO k h1 h2,h.sizes.mO k h3,h.qF⟩
theorem aF.still (h:aF w D H) (k:Keep none_ w w'):aF w' D H:=h.keep k (fun _ _ f=>f) (fun f=>f) (fun f=>f) (fun f=>f)
theorem aF.Cm (h:aF w D H) {S:Nat->Prop} (hS:∀ x,S x->HF D x):¬ S 3/\¬ S 4/\¬ S 2:=by
 refine ⟨fun e=>?_,fun e=>?_,fun e=>?_⟩
 all_goals
  obtain ⟨i,hi,e⟩:=hS _ e
 ·exact (h.qF i hi).1 e.symm
 ·exact (h.qF i hi).2.1 e.symm
 ·exact (h.qF i hi).2.2 e.symm
theorem wJ {I:List Nat} (h:I.all (fun i=>decide (i<13))=true) (x:Nat) (hx:sel D I x):HF D x:=by
 obtain ⟨i,hi,e⟩:=hx
 exact ⟨i,by simpa using List.all_eq_true.1 h i hi,e⟩
theorem Keep.hf {I:List Nat} (k:Keep (sel D I) w w') (h:I.all (fun i=>decide (i<13))=true):Keep (HF D) w w':=k.mono (fun x _ hx=>wJ h x hx)
theorem Keep.gI (k:Keep none_ w w'):Keep (HF D) w w':=k.mono (fun _ _ f=>f.elim)
theorem Keep.sel1 {i:Nat} (k:Keep (only (D i)) w w') {I:List Nat} (h:I.contains i=true):Keep (sel D I) w w':=k.mono (fun x _ e=>⟨i,by simpa using h,e⟩)
theorem aF.Lu (h:aF w D H) {A:List Nat} (k:Keep (sel D [1,2]) w w') (hA:dH w' (D 1) (D 2) A) (hi:bZ { H with A:=A }):aF w' D { H with A:=A }:=by
 obtain ⟨In,hl,hin⟩:=h.lists
 have g:=h.Cm (wJ (D:=D) (I:=[1,2]) rfl)
 exact ⟨h.inj,k.blk h.blk (dJ h.inj 0 _ rfl),hA,h.table.keep k (dJ h.inj 3 _ rfl) (dJ h.inj 4 _ rfl),⟨In,hl.keep k (dJ h.inj 5 _ rfl) (dJ h.inj 6 _ rfl) (dJ h.inj 7 _ rfl),hin⟩,
  h.born.keep k (dJ h.inj 8 _ rfl) (dJ h.inj 9 _ rfl),h.cols.keep k (dJ h.inj 10 _ rfl) (dJ h.inj 11 _ rfl),k.blk h.iP (dJ h.inj 12 _ rfl),h.cb,h.cw,h.cc,hi,h.tabs.mO k g.1 g.2.1,h.sizes.mO k g.2.2,h.qF⟩
theorem aF.loaded (h:aF w D H) (k:Keep (only (D 1)) w w') (hA:dH w' (D 1) (D 2) H.A):aF w' D H:=h.Lu (k.sel1 rfl) hA h.inv
theorem aF.setTable (h:aF w D H) {K:List Nat} (k:Keep (sel D [4]) w w') (hT:dU w' (D 3) (D 4) H.c K) (hi:bZ { H with K:=K }):aF w' D { H with K:=K }:=by
 obtain ⟨In,hl,hin⟩:=h.lists
 have g:=h.Cm (wJ (D:=D) (I:=[4]) rfl)
 exact ⟨h.inj,k.blk h.blk (dJ h.inj 0 _ rfl),h.arena.keep k (dJ h.inj 1 _ rfl) (dJ h.inj 2 _ rfl),hT,⟨In,hl.keep k (dJ h.inj 5 _ rfl) (dJ h.inj 6 _ rfl) (dJ h.inj 7 _ rfl),hin⟩,
  h.born.keep k (dJ h.inj 8 _ rfl) (dJ h.inj 9 _ rfl),h.cols.keep k (dJ h.inj 10 _ rfl) (dJ h.inj 11 _ rfl),k.blk h.iP (dJ h.inj 12 _ rfl),h.cb,h.cw,h.cc,hi,h.tabs.mO k g.1 g.2.1,h.sizes.mO k g.2.2,h.qF⟩
theorem aF.Ej (h:aF w D H) {A:List Nat} {fr:List (List Nat)} {In:List Nat} (k:Keep (sel D [1,2,5,7]) w w') (hA:dH w' (D 1) (D 2) A) (hL:bH w' (D 5) (D 6) (D 7) (D 1) (D 3) H.sz In (HS.F { H with A:=A,fr:=fr })) (hin:∀ n:Nat,jK H.sz In (n:Int)=HS.inn { H with A:=A,fr:=fr } n)
 (hi:bZ { H with A:=A,fr:=fr }):aF w' D { H with A:=A,fr:=fr }:=by
 have g:=h.Cm (wJ (D:=D) (I:=[1,2,5,7]) rfl)
 exact ⟨h.inj,k.blk h.blk (dJ h.inj 0 _ rfl),hA,h.table.keep k (dJ h.inj 3 _ rfl) (dJ h.inj 4 _ rfl),⟨In,hL,hin⟩,
  h.born.keep k (dJ h.inj 8 _ rfl) (dJ h.inj 9 _ rfl),h.cols.keep k (dJ h.inj 10 _ rfl) (dJ h.inj 11 _ rfl),k.blk h.iP (dJ h.inj 12 _ rfl),h.cb,h.cw,h.cc,hi,h.tabs.mO k g.1 g.2.1,h.sizes.mO k g.2.2,h.qF⟩
theorem aF.GX (h:aF w D H) {s:Nat->Bool} (k:Keep (sel D [9]) w w') (hB:lH w' (D 8) (D 9) H.sz s) (hi:bZ { H with bn:=s }):aF w' D { H with bn:=s }:=by
 obtain ⟨In,hl,hin⟩:=h.lists
 have g:=h.Cm (wJ (D:=D) (I:=[9]) rfl)
 exact ⟨h.inj,k.blk h.blk (dJ h.inj 0 _ rfl),h.arena.keep k (dJ h.inj 1 _ rfl) (dJ h.inj 2 _ rfl),h.table.keep k (dJ h.inj 3 _ rfl) (dJ h.inj 4 _ rfl),⟨In,hl.keep k (dJ h.inj 5 _ rfl) (dJ h.inj 6 _ rfl) (dJ h.inj 7 _ rfl),hin⟩,
  hB,h.cols.keep k (dJ h.inj 10 _ rfl) (dJ h.inj 11 _ rfl),k.blk h.iP (dJ h.inj 12 _ rfl),h.cb,h.cw,h.cc,hi,h.tabs.mO k g.1 g.2.1,h.sizes.mO k g.2.2,h.qF⟩
theorem aF.GY (h:aF w D H) {s:Nat->Bool} (k:Keep (sel D [11]) w w') (hB:lH w' (D 10) (D 11) H.sz s) (hi:bZ { H with co:=s }):aF w' D { H with co:=s }:=by
 obtain ⟨In,hl,hin⟩:=h.lists
 have g:=h.Cm (wJ (D:=D) (I:=[11]) rfl)
 exact ⟨h.inj,k.blk h.blk (dJ h.inj 0 _ rfl),h.arena.keep k (dJ h.inj 1 _ rfl) (dJ h.inj 2 _ rfl),h.table.keep k (dJ h.inj 3 _ rfl) (dJ h.inj 4 _ rfl),⟨In,hl.keep k (dJ h.inj 5 _ rfl) (dJ h.inj 6 _ rfl) (dJ h.inj 7 _ rfl),hin⟩,
  h.born.keep k (dJ h.inj 8 _ rfl) (dJ h.inj 9 _ rfl),hB,k.blk h.iP (dJ h.inj 12 _ rfl),h.cb,h.cw,h.cc,hi,h.tabs.mO k g.1 g.2.1,h.sizes.mO k g.2.2,h.qF⟩
theorem aF.aaX (h:aF w D H) {cl:List Nat} (k:Keep (sel D [12]) w w') (hB:aA w' (D 12) (aG cl) 3) (hl:cl.length=H.cells.length) (hi:bZ { H with cells:=cl }):aF w' D { H with cells:=cl }:=by
 obtain ⟨In,hl2,hin⟩:=h.lists
 have g:=h.Cm (wJ (D:=D) (I:=[12]) rfl)
 refine ⟨h.inj,?_,h.arena.keep k (dJ h.inj 1 _ rfl) (dJ h.inj 2 _ rfl),h.table.keep k (dJ h.inj 3 _ rfl) (dJ h.inj 4 _ rfl),⟨In,hl2.keep k (dJ h.inj 5 _ rfl) (dJ h.inj 6 _ rfl) (dJ h.inj 7 _ rfl),hin⟩,
  h.born.keep k (dJ h.inj 8 _ rfl) (dJ h.inj 9 _ rfl),h.cols.keep k (dJ h.inj 10 _ rfl) (dJ h.inj 11 _ rfl),hB,h.cb,h.cw,?_,hi,h.tabs.mO k g.1 g.2.1,h.sizes.mO k g.2.2,h.qF⟩
 ·have:=k.blk h.blk (dJ h.inj 0 _ rfl)
  rw [<- hl] at this;exact this
 ·show H.c.c=(cl.length:Int)
  rw [hl];exact h.cc
theorem yu (h:aF w D H):Calls ay 26 #[aj (D 0)] w fun e w'=>e = .returned (.agg H.c.cells.toArray)/\Keep none_ w w':=by
 obtain ⟨W0,hW0⟩:∃ W',W'=w.alloc (.cells #[ah 0,ah 0,ah 0,ah 0,ah 0,ah 0,ah 0] 23):=⟨_,rfl⟩
 have hk0:Keep none_ w W0:=by rw [hW0];exact (Keep.refl _ _).alloc _
 have HC:=au (tY (h.table.still hk0))
 have y1:∀ o,(w.alloc o).cell? ⟨D 0,1,none⟩=some (aj (D 3)):=fun o=>((Keep.refl none_ w).alloc o).still (h.blk.cell 1 rfl)
 have HO:Hid (aA W0 w.heap.size [ah 0,ah 0,ah 0,ah 0,ah 0,ah 0,ah 0] 23):=by rw [hW0];exact aA.new w _ _
 have HK:=au hk0
 generalize H.c=c at *
 obtain ⟨c0,c1,c2,c3,c4,c5,c6⟩:=c
 simp only [aK.cells] at *
 have hOg:w.heap.size<=w.heap.size:=Nat.le_refl _
 clear h hk0
 go_enter func26,ntmps26
 go_wp2_with fail
 rw [<- hW0]
 clear hW0
 refine HC.out.mono ?_
 rintro e w1 ⟨rfl,hk1⟩
 have aJ:=au (HK.out.trans hk1)
 have ho1:=hk1.blk HO.out (fun f=>f)
 clear hk1 HK HC HO y1
 generalize hO:w.heap.size=O at *
 have o0:=ho1.cell 0 rfl;have o1:=ho1.cell 1 rfl;have o2:=ho1.cell 2 rfl;have o3:=ho1.cell 3 rfl;have o4:=ho1.cell 4 rfl;have o5:=ho1.cell 5 rfl;have o6:=ho1.cell 6 rfl
 have f0:=ho1.free 0;have f1:=ho1.free 1;have f2:=ho1.free 2;have f3:=ho1.free 3;have f4:=ho1.free 4;have f5:=ho1.free 5;have f6:=ho1.free 6
 have nV:=au ho1
 have HOE:=au hO
 clear ho1 hO
 go_wp2_with fail
 obtain ⟨W4,iZ⟩:∃ W',W'=(((((((w1.setCell ⟨O,0,none⟩ (ah c0)).setCell ⟨O,1,none⟩ (ah c1)).setCell ⟨O,2,none⟩ (ah c2)).setCell ⟨O,3,none⟩ (ah c3)).setCell ⟨O,4,none⟩ (ah c4)).setCell ⟨O,5,none⟩ (ah c5)).setCell ⟨O,6,none⟩ (ah c6)):=⟨_,rfl⟩
 rw [<- iZ]
 have hF:aA W4 O [ah c0,ah c1,ah c2,ah c3,ah c4,ah c5,ah c6] 23:=by rw [iZ];exact ((((((nV.out.set 0 _).set 1 _).set 2 _).set 3 _).set 4 _).set 5 _).set 6 _
 have k0:=hF.cell 0 rfl;have k1:=hF.cell 1 rfl;have k2:=hF.cell 2 rfl;have k3:=hF.cell 3 rfl;have k4:=hF.cell 4 rfl;have k5:=hF.cell 5 rfl;have k6:=hF.cell 6 rfl
 have hk4:Keep none_ w W4:=by
  rw [iZ]
  exact aJ.out.trans' (((((((((Keep.refl (only O) w1).put 0 _).put 1 _).put 2 _).put 3 _).put 4 _).put 5 _).put 6 _)) (fun i hi e=>by unfold only at e;have:=HOE.out;omega)
 refine bodyPost_ret (v := .agg #[ah c0,ah c1,ah c2,ah c3,ah c4,ah c5,ah c6]) (by simp [results,Tryz.f26,go_sem,k0,k1,k2,k3,k4,k5,k6]) rfl ⟨rfl,hk4⟩
theorem Fj (c:Nat) (w:World):Calls ay 113 #[ah (c:Int)] w fun e w'=>e = .returned (.bool (decide (c<2)))/\w=w':=by
 by_cases h0:c=0
 ·subst h0
  go_enter func113,ntmps113
  go_wp2_with fail
  go_ret
  exact ⟨rfl,rfl⟩
 ·have d0:((c:Int)==0)=false:=by simp;omega
  by_cases h1:c=1
  ·subst h1
   go_enter func113,ntmps113
   go_wp2_with fail
   go_ret
   exact ⟨rfl,rfl⟩
  ·have d1:((c:Int)==1)=false:=by simp;omega
   have HE:Hid (decide (c<2)=false):=decide_eq_false (by omega)
   clear h0 h1
   go_enter func113,ntmps113
   go_wp2_with fail
   go_ret
   rw [HE.out]
   exact ⟨rfl,rfl⟩
theorem CB (h:aF w D H) (a:Nat):Calls ay 33 #[aj (D 0),ah (a:Int)] w fun e w'=>e = .returned (.bool (H.bn a))/\w=w':=by
 have y3:=h.blk.cell 3 rfl
 have HB:=au (h.born.has a)
 generalize H.bn a=x at *
 clear h
 go_enter func33,ntmps33
 go_wp2_with (go_at_call 54;refine HB.out.mono ?_;rintro e w1 ⟨rfl,rfl⟩)
 go_ret
 exact ⟨rfl,rfl⟩
theorem zx (h:aF w D H) (v:Nat):Calls ay 118 #[aj (D 0),ah (v:Int)] w fun e w'=>e = .returned (.bool (decide (v<=H.n)))/\w=w':=by
 have y0:=h.blk.cell 0 rfl
 have HB:=au (Le h.arena)
 rw [h.inv.nI] at HB
 have HE:Hid (decide ((v:Int)<=((H.b*H.ww:Nat):Int))=decide (v<=H.n)):=by unfold Hid HS.n;simp only [Int.ofNat_le]
 generalize H.n=n at *
 generalize H.b*H.ww=m at *
 have h0:decide ((0:Int)<=(v:Int))=true:=decide_eq_true (by omega)
 clear h
 go_enter func118,ntmps118
 go_wp2_with (go_at_call 157;refine HB.out.mono ?_;rintro e w1 ⟨rfl,rfl⟩)
 all_goals
  go_ret
  refine ⟨?_,rfl⟩
  rw [<- HE.out]
  simp
theorem vO (h:aF w D H) (a:Nat):Calls ay 28 #[aj (D 0),ah (a:Int)] w fun e w'=>e = .returned (.tuple #[ah ((if H.bn a then H.dW a else 0:Nat):Int),ah (if H.bn a then 0 else 1)])/\w=w':=by
 have y4:=h.blk.cell 4 rfl
 have HI:=au (CB h a)
 have HB:=au (h.cols.has a)
 unfold HS.dW
 generalize H.bn a=x at *
 generalize H.co a=y at *
 clear h
 cases x
 ·go_enter func28,ntmps28
  go_wp2_with (first|(go_at_call 33;refine HI.out.mono ?_;rintro e w1 ⟨rfl,rfl⟩)|(go_at_call 54;refine HB.out.mono ?_;rintro e w1 ⟨rfl,rfl⟩))
  go_ret2
  exact ⟨rfl,rfl⟩
 ·cases y
  all_goals
   go_enter func28,ntmps28
   go_wp2_with (first|(go_at_call 33;refine HI.out.mono ?_;rintro e w1 ⟨rfl,rfl⟩)|(go_at_call 54;refine HB.out.mono ?_;rintro e w1 ⟨rfl,rfl⟩))
   go_ret2
   exact ⟨rfl,rfl⟩
theorem Fp (h:aF w D H) (a c:Nat):Calls ay 216 #[aj (D 0),ah (a:Int),ah (c:Int)] w fun e w'=>e = .returned (.tuple #[.bool (H.dX a c),ah (if H.bn a&&decide (c<2) then 0 else 1)])/\aF w' D (H.bQ a c)/\Keep (HF D) w w':=by
 have y4:=h.blk.cell 4 rfl
 have HI:=au (CB h a)
 have HC:=au (Fj c w)
 by_cases hx:H.bn a=true
 ·by_cases hc:c<2
  ·have ha:a<H.sz:=h.born.low hx
   have HP:=au (h.cols.put a ha (c==1))
   rw [hx] at HI
   rw [decide_eq_true hc] at HC
   have UM:Hid (((c:Int)==1)=(c==1)):=by unfold Hid;rw [Bool.eq_iff_iff];simp;omega
   have HE:Hid (H.dX a c=(H.co a != (c==1))/\(H.bn a&&decide (c<2))=true):=⟨by unfold HS.dX;rw [hx,decide_eq_true hc];simp,by rw [hx,decide_eq_true hc];rfl⟩
   have HR:Hid (∀ w',Keep (only (D 11)) w w'->lH w' (D 10) (D 11) H.sz (upd H.co a (c==1))->aF w' D (H.bQ a c)):=fun w' k hs=>by
    by_cases hp:H.dX a c=true
    ·unfold HS.bQ
     rw [if_pos hp]
     exact h.GY (k.sel1 rfl) hs (h.inv.eu a (c==1))
    ·unfold HS.bQ
     rw [if_neg hp]
     have hq:H.co a=(c==1):=by rw [HE.out.1] at hp;simpa using hp
     have hu:upd H.co a (c==1)=H.co:=by
      funext x
      unfold upd
      split
      ·rename_i e;subst e;exact hq.symm
      ·rfl
     rw [hu] at hs
     exact h.GY (s:=H.co) (k.sel1 rfl) hs h.inv
   rw [HE.out.1,HE.out.2]
   generalize H.bQ a c=H' at *
   generalize (H.co a != (c==1))=z at *
   have adl:=UM.out
   generalize (c==1)=cc at *
   clear h hx hc ha HE UM
   go_enter func216,ntmps216
   go_wp2_with (first|(go_at_call 33;refine HI.out.mono ?_;rintro e w1 ⟨rfl,rfl⟩)|(go_at_call 113;refine HC.out.mono ?_;rintro e w1 ⟨rfl,rfl⟩)|(go_at_call 163;refine HP.out.mono ?_;rintro e w1 ⟨rfl,hs,hk⟩;have HS:=au hs;have HK:=au hk;clear hs hk))
   go_ret2
   exact ⟨rfl,HR.out _ HK.out HS.out,(HK.out.sel1 (I:=[11]) rfl).hf rfl⟩
  ·have HE:Hid (H.dX a c=false/\(H.bn a&&decide (c<2))=false/\H.bQ a c=H):=by
    have h1:H.dX a c=false:=by unfold HS.dX;rw [decide_eq_false hc];simp
    exact ⟨h1,by rw [decide_eq_false hc];simp,by unfold HS.bQ;rw [h1];rfl⟩
   rw [HE.out.1,HE.out.2.1,HE.out.2.2]
   rw [decide_eq_false hc] at HC
   rw [hx] at HI
   have HH:=au h
   clear h hx hc HE
   go_enter func216,ntmps216
   go_wp2_with (first|(go_at_call 33;refine HI.out.mono ?_;rintro e w1 ⟨rfl,rfl⟩)|(go_at_call 113;refine HC.out.mono ?_;rintro e w1 ⟨rfl,rfl⟩))
   go_ret2
   exact ⟨rfl,HH.out,Keep.refl _ _⟩
 ·have hx0:H.bn a=false:=by simpa using hx
  have HE:Hid (H.dX a c=false/\(H.bn a&&decide (c<2))=false/\H.bQ a c=H):=by
   have h1:H.dX a c=false:=by unfold HS.dX;rw [hx0];simp
   exact ⟨h1,by rw [hx0];simp,by unfold HS.bQ;rw [h1];rfl⟩
  rw [HE.out.1,HE.out.2.1,HE.out.2.2]
  rw [hx0] at HI
  have HH:=au h
  clear h hx hx0 HE
  go_enter func216,ntmps216
  go_wp2_with (first|(go_at_call 33;refine HI.out.mono ?_;rintro e w1 ⟨rfl,rfl⟩)|(go_at_call 113;refine HC.out.mono ?_;rintro e w1 ⟨rfl,rfl⟩))
  go_ret2
  exact ⟨rfl,HH.out,Keep.refl _ _⟩
end
section
variable {w w':World} {D:Nat->Nat} {H:HS}
theorem xH (h:aF w D H) (i:Int):Calls ay 57 #[aj (D 0),ah i] w fun e w'=>e = .returned (.tuple #[ah (H.cellP i:Int),ah (H.kQ i:Int)])/\w=w':=by
 have y5:=h.blk.cell 5 rfl
 have hlen:H.cells.length<=64:=by
  have h1:=(fQ h.table.ok).2.2.2.2.1
  have h2:=h.cc
  omega
 by_cases h0:i<0
 ·have HE:Hid (H.kQ i=9/\H.cellP i=0):=by
   have h1:H.kQ i=9:=by unfold HS.kQ;rw [if_pos (.inl h0)]
   exact ⟨h1,by unfold HS.cellP;rw [h1];rfl⟩
  rw [HE.out.1,HE.out.2]
  have d0:decide (i<0)=true:=decide_eq_true h0
  generalize H.cells.length=n at *
  clear h h0 HE
  go_enter func57,ntmps57
  go_wp2_with fail
  go_ret2
  exact ⟨rfl,rfl⟩
 ·have d0:decide (i<0)=false:=decide_eq_false h0
  by_cases h1:(H.cells.length:Int)<=i
  ·have HE:Hid (H.kQ i=9/\H.cellP i=0):=by
    have h2:H.kQ i=9:=by unfold HS.kQ;rw [if_pos (.inr h1)]
    exact ⟨h2,by unfold HS.cellP;rw [h2];rfl⟩
   rw [HE.out.1,HE.out.2]
   have d1:decide ((H.cells.length:Int)<=i)=true:=decide_eq_true h1
   have h2:(0:Int)<=i:=by omega
   generalize H.cells.length=n at *
   clear h h0 HE
   go_enter func57,ntmps57
   go_wp2_with fail
   go_ret2
   exact ⟨rfl,rfl⟩
  ·obtain ⟨j,rfl⟩:∃ j:Nat,i=(j:Int):=⟨i.toNat,by omega⟩
   have hj:j<H.cells.length:=by omega
   have HE:Hid (H.kQ (j:Int)=0/\H.cellP (j:Int)=H.cells.getD j 0):=by
    have h2:H.kQ (j:Int)=0:=by unfold HS.kQ;rw [if_neg (by omega)]
    exact ⟨h2,by unfold HS.cellP;rw [h2];rfl⟩
   rw [HE.out.1,HE.out.2]
   have d1:decide ((H.cells.length:Int)<=(j:Int))=false:=decide_eq_false h1
   have z:=h.iP.cell j (nK hj)
   have IJ:(j:Int)<(H.cells.length:Int):=by omega
   have Iw:(0:Int)<=(j:Int):=by omega
   generalize H.cells.getD j 0=x at *
   generalize H.cells.length=n at *
   clear h h0 h1 HE hj
   go_enter func57,ntmps57
   go_wp2_with fail
   go_ret2
   exact ⟨rfl,rfl⟩
theorem LC (h:aF w D H) (i:Int) (v:Nat):Calls ay 74 #[aj (D 0),ah i,ah (v:Int)] w fun e w'=>e = .returned (ah (H.wE i v:Int))/\aF w' D (H.oG i v)/\Keep (HF D) w w':=by
 have y5:=h.blk.cell 5 rfl
 have hlen:H.cells.length<=64:=by
  have h1:=(fQ h.table.ok).2.2.2.2.1
  have h2:=h.cc
  omega
 have HC:=au (xH h i)
 have HV:=au (zx h v)
 by_cases h0:H.kQ i=0
 ·obtain ⟨j,rfl⟩:∃ j:Nat,i=(j:Int):=⟨i.toNat,by unfold HS.kQ at h0;split at h0<;>omega⟩
  have hj:j<H.cells.length:=by unfold HS.kQ at h0;split at h0<;>omega
  rw [h0] at HC
  by_cases hv:v<=H.n
  ·have HE:Hid (H.wE (j:Int) v=0/\H.oG (j:Int) v=H.setCell j v):=by
    have h2:H.wE (j:Int) v=0:=by unfold HS.wE;rw [h0,if_pos rfl,if_pos hv]
    exact ⟨h2,by unfold HS.oG;rw [h2,if_pos rfl];rfl⟩
   rw [HE.out.1,HE.out.2]
   rw [decide_eq_true hv] at HV
   have z:=h.iP.cell j (nK hj)
   have fz:=h.iP.free j
   have IJ:(j:Int)<(H.cells.length:Int):=by omega
   have Iw:(0:Int)<=(j:Int):=by omega
   have hk:Keep (only (D 12)) w (w.setCell ⟨D 12,j,none⟩ (ah (v:Int))):=(Keep.refl _ _).put _ _
   have hR:aF (w.setCell ⟨D 12,j,none⟩ (ah (v:Int))) D (H.setCell j v):=by
    refine h.aaX (cl:=H.cells.set j v) (hk.sel1 rfl) ?_ (by simp) (h.inv.setCell j v hv)
    rw [zq]
    exact h.iP.set j _
   have HR:Hid (aF (w.setCell ⟨D 12,j,none⟩ (ah (v:Int))) D (H.setCell j v)/\Keep (HF D) w (w.setCell ⟨D 12,j,none⟩ (ah (v:Int)))):=⟨hR,(hk.sel1 (I:=[12]) rfl).hf rfl⟩
   generalize H.setCell j v=H' at *
   generalize H.cellP (j:Int)=cp at *
   generalize H.cells.getD j 0=x at *
   generalize H.cells.length=n at *
   clear h h0 HE hj hv hk hR
   go_enter func74,ntmps74
   go_wp2_with (first|(go_at_call 57;refine HC.out.mono ?_;rintro e w1 ⟨rfl,rfl⟩)|(go_at_call 118;refine HV.out.mono ?_;rintro e w1 ⟨rfl,rfl⟩))
   go_ret
   exact ⟨rfl,HR.out.1,HR.out.2⟩
  ·have HE:Hid (H.wE (j:Int) v=4/\H.oG (j:Int) v=H):=by
    have h2:H.wE (j:Int) v=4:=by unfold HS.wE;rw [h0,if_pos rfl,if_neg hv]
    exact ⟨h2,by unfold HS.oG;rw [h2];rfl⟩
   rw [HE.out.1,HE.out.2]
   rw [decide_eq_false hv] at HV
   have HH:=au h
   generalize H.cellP (j:Int)=cp at *
   generalize H.cells.length=n at *
   clear h h0 HE hj hv
   go_enter func74,ntmps74
   go_wp2_with (first|(go_at_call 57;refine HC.out.mono ?_;rintro e w1 ⟨rfl,rfl⟩)|(go_at_call 118;refine HV.out.mono ?_;rintro e w1 ⟨rfl,rfl⟩))
   go_ret
   exact ⟨rfl,HH.out,Keep.refl _ _⟩
 ·have h9:H.kQ i=9:=by unfold HS.kQ at h0 ⊢;split<;>simp_all
  have HE:Hid (H.wE i v=9/\H.oG i v=H):=by
   have h2:H.wE i v=9:=by unfold HS.wE;rw [if_neg h0]
   exact ⟨h2,by unfold HS.oG;rw [h2];rfl⟩
  rw [HE.out.1,HE.out.2]
  rw [h9] at HC
  have HH:=au h
  generalize H.cellP i=cp at *
  generalize H.cells.length=n at *
  clear h h0 HE h9
  go_enter func74,ntmps74
  go_wp2_with (first|(go_at_call 57;refine HC.out.mono ?_;rintro e w1 ⟨rfl,rfl⟩)|(go_at_call 118;refine HV.out.mono ?_;rintro e w1 ⟨rfl,rfl⟩))
  go_ret
  exact ⟨rfl,HH.out,Keep.refl _ _⟩
def HS.cls (H:HS) (a:Nat):Nat:=match H.owner a with
 | none=>0
 | some (_,k)=>k
theorem aF.aaY (h:aF w D H) (a:Nat):∃ B:Nat,Calls ay 149 #[aj (D 3),ah (a:Int)] w fun e w'=>e = .returned (.tuple #[ah (B:Int),ah (H.cls a:Int),.bool (H.owner a).isSome])/\Keep none_ w w':=by
 have e:=h.Ls a
 cases ho:H.owner a with
 | none =>
   rw [ho] at e
   refine ⟨0,?_⟩
   have h1:=IG h.table H.ww a h.cw e h.tabs h.sizes
   unfold HS.cls
   rw [ho];exact h1
 | some x =>
   obtain ⟨B,k⟩:=x
   rw [ho] at e
   refine ⟨B,?_⟩
   have h1:=Fh h.table H.ww a B k h.cw e h.tabs h.sizes
   unfold HS.cls
   rw [ho];exact h1
theorem xI (h:aF w D H) (a:Nat):Calls ay 105 #[aj (D 0),ah (a:Int)] w fun e w'=>e = .returned (.tuple #[ah (H.cls a:Int),.bool (H.hand a)])/\Keep none_ w w':=by
 obtain ⟨B,hO⟩:=h.aaY a
 have HO:=au hO
 have HB:Hid (∀ W,Keep none_ w W->Calls ay 54 #[aj (D 8),ah (a:Int)] W fun e w'=>e = .returned (.bool (H.bn a))/\W=w'):=fun W hW=>(h.still hW).born.has a
 have HL:Hid (∀ W,Keep none_ w W->Calls ay 150 #[aj (D 5),ah (a:Int)] W fun e w'=>e = .returned (.bool (H.inn a))/\W=w'):=fun W hW=>by
  obtain ⟨In,hl,hi⟩:=(h.still hW).lists
  rw [<- hi a]
  exact Xv hl a
 have hY:∀ W,Keep none_ w W->W.cell? ⟨D 0,3,none⟩=some (aj (D 8))/\W.cell? ⟨D 0,2,none⟩=some (aj (D 5)):=fun W hW=>⟨(h.still hW).blk.cell 3 rfl,(h.still hW).blk.cell 2 rfl⟩
 have HY:=au hY
 have y1:=h.blk.cell 1 rfl
 have HE:Hid (H.hand a=((H.owner a).isSome && !H.bn a && !H.inn a)):=rfl
 rw [HE.out]
 generalize (H.owner a).isSome=p at *
 generalize H.bn a=x at *
 generalize H.inn a=y at *
 generalize H.cls a=k at *
 clear h hO hY HE
 cases p<;>cases x<;>cases y
 all_goals
  go_enter func105,ntmps105
  go_wp2_with (go_at_call 149;refine HO.out.mono ?_;rintro e w1 ⟨rfl,hk1⟩;have aJ:=au hk1;have z3:=(HY.out w1 hk1).1;have z2:=(HY.out w1 hk1).2;have HBW:=au (HB.out w1 hk1);have Fb:=au (HL.out w1 hk1);clear hk1)
  go_wp2_with (first|(go_at_call 54;refine HBW.out.mono ?_;rintro e w2 ⟨rfl,rfl⟩)|(go_at_call 150;refine Fb.out.mono ?_;rintro e w2 ⟨rfl,rfl⟩))
  go_ret2
  exact ⟨rfl,aJ.out⟩
theorem yw (h:aF w D H) (a:Nat):Calls ay 143 #[aj (D 0),ah (a:Int)] w fun e w'=>e = .returned (.tuple #[ah (H.nf a:Int),.bool (H.hdr a).isSome])/\aF w' D H/\Keep (only (D 1)) w w':=by
 have hal:=h.inv.nI
 have hL:∃ er:Int,Calls ay 99 #[aj (D 1),ah (a:Int)] w fun e w'=>e = .returned (.tuple #[.int .u64 (H.word a:Int),ah er])/\aF w' D H/\Keep (only (D 1)) w w':=by
  by_cases ha:1<=a/\a<=H.A.length
  ·refine ⟨0,?_⟩
   have h1:=Eh h.arena (a - 1) (by omega)
   rw [show ((a - 1:Nat):Int)+1=(a:Int) by omega] at h1
   refine h1.mono ?_
   rintro e w' ⟨rfl,h2,h3⟩
   refine ⟨?_,h.loaded h3 h2,h3⟩
   unfold HS.word pY
   rw [if_pos ha.1]
  ·refine ⟨P7 a,?_⟩
   refine (UG h.arena (a:Int) (by omega)).mono ?_
   rintro e w' ⟨rfl,h3⟩
   refine ⟨?_,h.still h3,h3.mono (fun _ _ f=>f.elim)⟩
   have:H.word a=0:=by
    unfold HS.word pY
    split
    ·rw [List.getD_eq_getElem?_getD,List.getElem?_eq_none (by omega)];rfl
    ·rfl
   rw [this];rfl
 obtain ⟨er,hL⟩:=hL
 have HL:=au hL
 have y0:=h.blk.cell 0 rfl
 have hP:∃ c:Nat,∀ W,Sizes W->Calls ay 192 #[.int .u64 (H.word a:Int)] W fun e w'=>e = .returned (.tuple #[ah (c:Int),ah (H.nf a:Int),.bool (H.hdr a).isSome])/\W=w':=by
  have hx:=h.inv.wlt a
  unfold HS.nf HS.hdr
  cases hp:yH (H.word a) with
  | none=>exact ⟨0,fun W hS=>Kz _ hx hp W hS⟩
  | some cf =>
    obtain ⟨c,f⟩:=cf
    obtain ⟨h1,h2⟩:=zf hp
    rw [h2]
    exact ⟨c,fun W hS=>OC c f h1 W hS⟩
 obtain ⟨c,hP⟩:=hP
 have HP:=au hP
 generalize H.word a=x at *
 generalize H.nf a=n at *
 generalize (H.hdr a).isSome=p at *
 clear h hL hP hal
 go_enter func143,ntmps143
 go_wp2_with (go_at_call 99;refine HL.out.mono ?_;rintro e w1 ⟨rfl,h1,k1⟩;have HH:=au h1;have HK:=au k1;clear h1 k1)
 have Fq:=au (HP.out _ HH.out.sizes)
 go_wp2_with (go_at_call 192;refine Fq.out.mono ?_;rintro e w2 ⟨rfl,rfl⟩)
 go_ret2
 exact ⟨rfl,HH.out,HK.out⟩
end
section
variable {w w':World} {L iR iX aR aX tR sz:Nat} {In F A:List Nat}
theorem XD (h:bH w L iR iX aR tR sz In F) (pp:Int) (k b1 b2:Nat) (hin:fK sz In pp true=false) (hb1:aA w b1 [aj L] 98) (hb2:aA w b2 [ah pp] 3) :
 Calls ay 238 #[ah (k:Int),aj b1,aj b2] w fun e w'=>e = .returned (ah 11)/\bH w' L iR iX aR tR sz In F/\Keep (only iX) w w':=by
 obtain ⟨q0,q1,q2⟩:=h.ptrs
 have yM:=au (wH (h.set.still (k:=(Keep.refl none_ w).drew)) pp true)
 have hpl:ig sz In pp true=In:=by unfold ig;rw [if_neg (by rw [hin];decide)]
 rw [hin,hpl] at yM
 have hLn:=h.ne
 have y1:=hb1.cell 0 rfl
 have y2:=hb2.cell 0 rfl
 have H:=au h
 have HN:=au hLn
 clear h hb1 hb2 hLn hpl hin
 go_enter func238,ntmps238
 go_wp2_with fail
 refine aI 5 rfl (by kernel_rfl) (by kernel_rfl) (fun K hK=>?_)
 change wpStill _ _ (World.drew _) _ _ _
 simp only [List.take_succ_cons,List.take_zero,List.drop_succ_cons,List.drop_zero] at hK ⊢
 repeat still_step
 refine wpStill_nil ?_
 change ite _ (Oper.wp _ _ _ w.drew _ _) _
 go_simp
 refine yM.out.mono ?_
 rintro e w1 ⟨rfl,hs1,hk1⟩
 refine hK _ _ ?_
 clear hK K
 have hk01:Keep (only iX) w w1:=(Keep.refl _ _).drew.trans hk1
 have jJ:=au (H.out.Ll hk01 HN.out.2 hs1)
 have aJ:=au hk01
 clear hs1 hk1 hk01 y1 y2 q0 q1 q2 yM
 repeat still_step
 refine wpStill_nil ?_
 go_wp2_with fail
 go_ret
 exact ⟨rfl,jJ.out,aJ.out⟩
theorem ZR (h:bH w L iR iX aR tR sz In F) (pp:Int)
 (hO:∀ W,Keep none_ w W->Calls ay 149 #[aj tR,ah pp] W fun e w'=>e = .returned (.tuple #[ah 0,ah 0,.bool false])/\Keep none_ W w') :
 Calls ay 204 #[aj L,ah pp] w fun e w'=>e = .returned (ah 1)/\Keep none_ w w':=by
 obtain ⟨W0,hW0⟩:∃ W',W'=(w.alloc (.cells #[aj L] 98)).alloc (.cells #[ah pp] 3):=⟨_,rfl⟩
 have hk0:Keep none_ w W0:=by rw [hW0];exact ((Keep.refl _ _).alloc _).alloc _
 have HSL:Hid (Calls ay 237 #[aj L,ah pp,.func (.func 238) #[] #[aj w.heap.size,aj (w.heap.size+1)]] W0 fun e w'=>e = .returned (ah 1)/\Keep none_ w w'):=by
  have HO:=au (hO W0 hk0)
  obtain ⟨q0,q1,q2⟩:=(h.still hk0).ptrs
  have dN:=au hk0
  clear h hO hW0 hk0
  unfold Hid
  go_enter func237,ntmps237
  go_wp2_with (go_at_call 149;refine HO.out.mono ?_;rintro e w1 ⟨rfl,hk1⟩;have aJ:=au hk1;clear hk1)
  go_ret
  exact ⟨rfl,dN.out.trans aJ.out⟩
 have hmf:∀ (fn:Fn) (first cap:Array Value) (w:World),(Instr.makeFunc fn first cap).run ay w = .ok (.func fn first cap) w:=fun _ _ _ _=>rfl
 clear h hO hk0
 go_enter func204,ntmps204
 go_wp2_with fail
 rw [<- hW0]
 clear hW0
 refine HSL.out.mono ?_
 rintro e w1 ⟨rfl,h1⟩
 have H1:=au h1
 clear h1
 go_wp2_with fail
 go_ret
 exact ⟨rfl,H1.out⟩
theorem ZT (h:bH w L iR iX aR tR sz In F) (pp:Int) (k:Nat) (B0:Int) (hin:fK sz In pp true=false)
 (hO:∀ W,Keep none_ w W->Calls ay 149 #[aj tR,ah pp] W fun e w'=>e = .returned (.tuple #[ah B0,ah (k:Int),.bool true])/\Keep none_ W w') :
 Calls ay 204 #[aj L,ah pp] w fun e w'=>e = .returned (ah 11)/\bH w' L iR iX aR tR sz In F/\Keep (only iX) w w':=by
 obtain ⟨W0,hW0⟩:∃ W',W'=(w.alloc (.cells #[aj L] 98)).alloc (.cells #[ah pp] 3):=⟨_,rfl⟩
 have hk0:Keep none_ w W0:=by rw [hW0];exact ((Keep.refl _ _).alloc _).alloc _
 have hb1:aA W0 w.heap.size [aj L] 98:=by rw [hW0];exact (aA.new w _ _).alloc _
 have hb2:aA W0 (w.heap.size+1) [ah pp] 3:=by
  rw [hW0]
  have h:=aA.new (w.alloc (.cells #[aj L] 98)) [ah pp] 3
  rw [World.size_alloc] at h
  exact h
 have HSL:Hid (Calls ay 237 #[aj L,ah pp,.func (.func 238) #[] #[aj w.heap.size,aj (w.heap.size+1)]] W0 fun e w'=>e = .returned (ah 11)/\bH w' L iR iX aR tR sz In F/\Keep (only iX) w w'):=by
  have HC:Hid (∀ W,Keep none_ W0 W->Calls ay 238 #[ah (k:Int),aj w.heap.size,aj (w.heap.size+1)] W fun e w'=>e = .returned (ah 11)/\bH w' L iR iX aR tR sz In F/\Keep (only iX) W w'):=fun W hW =>
   XD ((h.still hk0).still hW) pp k _ _ hin (hW.blk hb1 (fun f=>f)) (hW.blk hb2 (fun f=>f))
  have HO:=au (hO W0 hk0)
  obtain ⟨q0,q1,q2⟩:=(h.still hk0).ptrs
  have dN:=au hk0
  clear h hin hO hW0 hk0 hb1 hb2
  unfold Hid
  go_enter func237,ntmps237
  go_wp2_with (first
   | (go_at_call 149;refine HO.out.mono ?_;rintro e w1 ⟨rfl,hk1⟩;have aJ:=au hk1;clear hk1)
   | (go_at_call 238;refine (HC.out _ aJ.out).mono ?_;rintro e w2 ⟨rfl,h1,h3⟩;have H1:=au h1;have H3:=au h3;clear h1 h3))
  go_ret
  exact ⟨rfl,H1.out,(dN.out.mono (fun _ _ f=>f.elim)).trans ((aJ.out.mono (fun _ _ f=>f.elim)).trans H3.out)⟩
 have hmf:∀ (fn:Fn) (first cap:Array Value) (w:World),(Instr.makeFunc fn first cap).run ay w = .ok (.func fn first cap) w:=fun _ _ _ _=>rfl
 clear h hin hO hb1 hb2 hk0
 go_enter func204,ntmps204
 go_wp2_with fail
 rw [<- hW0]
 clear hW0
 refine HSL.out.mono ?_
 rintro e w1 ⟨rfl,h1,h3⟩
 have H1:=au h1;have H3:=au h3
 clear h1 h3
 go_wp2_with fail
 go_ret
 exact ⟨rfl,H1.out,H3.out⟩
end
theorem aaZ {In:List Nat} {sz:Nat} {H:HS} (hi:∀ n:Nat,jK sz In (n:Int)=H.inn n) {a:Nat} (ha:a<sz):fK sz In (a:Int) true = !H.inn a:=by
 unfold fK
 rw [hi,decide_eq_true (by omega),Bool.true_and]
 cases H.inn a<;>rfl
section
variable {w w':World} {D:Nat->Nat} {H:HS}
theorem YT {H:HS} {k:Nat} (l:List Nat) (H':HS) (hf:H'.fr=H.fr.set k l):H'.F=H.F.set k (l.headD 0):=by
 unfold HS.F
 rw [hf,List.map_set]
theorem Rn (h:aF w D H) (k:Nat) (hk:k<4):Calls ay 202 #[aj (D 5),ah (k:Int)] w fun e w'=>e = .returned (.tuple #[ah ((H.eX k).1:Int),ah ((H.eX k).2.1:Int)])/\aF w' D (H.eX k).2.2/\Keep (HF D) w w':=by
 obtain ⟨In,hl,hi⟩:=h.lists
 have hf:=H.aaH h.inv.lu hk
 unfold HS.eX
 cases hr:H.row k with
 | nil =>
   rw [hr] at hf
   refine (Rj hl k hk hf).mono ?_
   rintro e w' ⟨rfl,rfl⟩
   exact ⟨rfl,h,Keep.refl _ _⟩
 | cons a l =>
   rw [hr] at hf
   obtain ⟨hw,⟨B,ho⟩,hb,hin,hn⟩:=h.inv.taken hk hr
   obtain ⟨o1,o2,_⟩:=dV ho
   have hal:=h.inv.nI
   have ha:a=(a - 1)+1:=by omega
   have hne:D 7≠D 2:=fun e=>absurd (h.inj 7 2 (by decide) (by decide) e) (by decide)
   have hwd:H.A.getD (a - 1) 0=dM (l.headD 0):=by
    unfold HS.word pY at hw
    rw [if_pos o1] at hw;exact hw
   refine (XC hl h.arena hne (a - 1) k (l.headD 0) hk (hf.trans ha) (by omega) hwd hn).mono ?_
   rintro e w' ⟨rfl,h1,h2,h3⟩
   rw [show ((a - 1:Nat):Int)+1=(a:Int) by omega] at h1 ⊢
   refine ⟨rfl,?_,?_⟩
   ·refine h.Ej (A:=H.A) (fr:=H.fr.set k (H.row k).tail) (In:=ig H.sz In (a:Int) false) (h3.mono (fun x _ hx=>?_)) h2 ?_ ?_ (h.inv.take hk)
    ·rcases hx with e|e|e
     ·exact ⟨5,by simp,e⟩
     ·exact ⟨7,by simp,e⟩
     ·exact ⟨1,by simp,e⟩
    ·rw [YT (H.row k).tail _ rfl,hr]
     exact h1
    ·intro n
     rw [GV hl.set.len (by unfold HS.sz;omega),hi]
     exact (h.inv.Xf hk hr n).symm
   ·refine h3.mono (fun x _ hx=>?_)
    rcases hx with e|e|e
    ·exact ⟨5,by decide,e⟩
    ·exact ⟨7,by decide,e⟩
    ·exact ⟨1,by decide,e⟩
theorem AP (h:aF w D H) (k:Nat) (hk:k<4):Calls ay 159 #[aj (D 0),ah (k:Int)] w fun e w'=>e = .returned (.tuple #[ah ((H.eX k).1:Int),ah ((H.eX k).2.1:Int)])/\aF w' D (H.eX k).2.2/\Keep (HF D) w w':=by
 have HT:=au (Rn h k hk)
 have y2:=h.blk.cell 2 rfl
 generalize (H.eX k).1=r1 at *
 generalize (H.eX k).2.1=r2 at *
 generalize (H.eX k).2.2=H' at *
 clear h
 go_enter func159,ntmps159
 go_wp2_with (go_at_call 202;refine HT.out.mono ?_;rintro e w1 ⟨rfl,h1,k1⟩;have HH:=au h1;have HK:=au k1;clear h1 k1)
 go_ret2
 exact ⟨rfl,HH.out,HK.out⟩
theorem IK (h:aF w D H) (a:Nat) (hb:H.bn a=false):Calls ay 204 #[aj (D 5),ah (a:Int)] w fun e w'=>(∃ er:Int,e = .returned (ah er))/\aF w' D (H.fK a)/\Keep (HF D) w w':=by
 obtain ⟨In,hl,hi⟩:=h.lists
 have eo:=h.Ls a
 unfold HS.fK
 cases ho:H.owner a with
 | none =>
   rw [ho] at eo
   refine (ZR hl (a:Int) (fun W hW=>IG (h.still hW).table H.ww a h.cw eo (h.still hW).tabs (h.still hW).sizes)).mono ?_
   rintro e w' ⟨rfl,h1⟩
   exact ⟨⟨_,rfl⟩,h.still h1,h1.gI⟩
 | some x =>
   obtain ⟨B,k⟩:=x
   rw [ho] at eo
   have hk:=h.inv.cls ho
   obtain ⟨o1,o2,_⟩:=dV ho
   have hal:=h.inv.nI
   have hsz:a<H.sz:=by unfold HS.sz;omega
   have hO:∀ W,Keep none_ w W->Calls ay 149 #[aj (D 3),ah (a:Int)] W fun e w'=>e = .returned (.tuple #[ah (B:Int),ah (k:Int),.bool true])/\Keep none_ W w' :=
    fun W hW=>Fh (h.still hW).table H.ww a B k h.cw eo (h.still hW).tabs (h.still hW).sizes
   cases hin:H.inn a with
   | true =>
     simp only [hb,Bool.or_true,if_true]
     refine (ZT hl (a:Int) k B (by rw [aaZ hi hsz,hin];rfl) hO).mono ?_
     rintro e w' ⟨rfl,h1,h2⟩
     have hk2:Keep (sel D [1,2,5,7]) w w':=h2.sel1 (i:=7) rfl
     have n1:¬ only (D 7) (D 1):=fun e=>absurd (h.inj 1 7 (by decide) (by decide) e) (by decide)
     have n2:¬ only (D 7) (D 2):=fun e=>absurd (h.inj 2 7 (by decide) (by decide) e) (by decide)
     exact ⟨⟨_,rfl⟩,h.Ej (A:=H.A) (fr:=H.fr) hk2 (h.arena.keep h2 n1 n2) h1 hi h.inv,hk2.hf rfl⟩
   | false =>
     simp only [hb,Bool.or_self,Bool.false_eq_true,if_false]
     have hne:D 7≠D 2:=fun e=>absurd (h.inj 7 2 (by decide) (by decide) e) (by decide)
     have ha:((a - 1:Nat):Int)+1=(a:Int):=by omega
     have hin':jK H.sz In (((a - 1:Nat):Int)+1)=false:=by rw [ha,hi];exact hin
     refine (show Calls _ _ _ _ _ by rw [<- ha];exact XB hl h.arena hne (a - 1) k B (by omega) (by unfold HS.sz;omega) hin' hk (by rw [ha];exact hO)).mono ?_
     rintro e w' ⟨rfl,h1,h2,h3⟩
     rw [ha,show a - 1+1=a by omega] at h1
     rw [H.aaH h.inv.lu hk] at h2
     refine ⟨⟨_,rfl⟩,?_,?_⟩
     ·refine h.Ej (A:=H.A.set (a - 1) (dM ((H.row k).headD 0))) (fr:=H.fr.set k (a::H.row k)) (In:=ig H.sz In (a:Int) true) (h3.mono (fun x _ hx=>?_)) h2 ?_ ?_ (h.inv.put ho hb hin)
      ·rcases hx with e|e|e|e
       ·exact ⟨5,by simp,e⟩
       ·exact ⟨7,by simp,e⟩
       ·exact ⟨1,by simp,e⟩
       ·exact ⟨2,by simp,e⟩
      ·rw [YT (a::H.row k) _ rfl]
       exact h1
      ·intro n
       rw [GV hl.set.len hsz,hi]
       exact (h.inv.ZH ho hb hin n).symm
     ·refine h3.mono (fun x _ hx=>?_)
      rcases hx with e|e|e|e
      ·exact ⟨5,by decide,e⟩
      ·exact ⟨7,by decide,e⟩
      ·exact ⟨1,by decide,e⟩
      ·exact ⟨2,by decide,e⟩
theorem XE (h:aF w D H) (a:Nat):Calls ay 161 #[aj (D 0),ah (a:Int)] w fun e w'=>(∃ er:Int,e = .returned (ah er))/\aF w' D (H.fK a)/\Keep (HF D) w w':=by
 have y3:=h.blk.cell 3 rfl
 have y2:=h.blk.cell 2 rfl
 have HB:=au (h.born.has a)
 cases hb:H.bn a with
 | true =>
   have HE:Hid (H.fK a=H):=by
    unfold Hid HS.fK
    split
    ·rfl
    ·rw [hb];rfl
   rw [HE.out]
   rw [hb] at HB
   have HH:=au h
   clear h hb HE
   go_enter func161,ntmps161
   go_wp2_with (go_at_call 54;refine HB.out.mono ?_;rintro e w1 ⟨rfl,rfl⟩)
   go_ret
   exact ⟨⟨_,rfl⟩,HH.out,Keep.refl _ _⟩
 | false =>
   have HP:=au (IK h a hb)
   rw [hb] at HB
   generalize H.fK a=H' at *
   clear h hb
   go_enter func161,ntmps161
   go_wp2_with (first|(go_at_call 54;refine HB.out.mono ?_;rintro e w1 ⟨rfl,rfl⟩)|(go_at_call 204;refine HP.out.mono ?_;rintro e w1 ⟨⟨er,rfl⟩,h1,k1⟩;have HH:=au h1;have HK:=au k1;clear h1 k1))
   go_ret
   exact ⟨⟨_,rfl⟩,HH.out,HK.out⟩
theorem UN (h:aF w D H) (a:Nat):Calls ay 288 #[aj (D 0),ah (a:Int)] w fun e w'=>(∃ er:Int,e = .returned (ah er))/\aF w' D (H.fV a)/\Keep (HF D) w w':=by
 have y3:=h.blk.cell 3 rfl
 cases hb:H.bn a with
 | false =>
   have HE:Hid (H.fV a=H):=by unfold Hid HS.fV;rw [hb];rfl
   rw [HE.out]
   have P9:=h.born.aaW a hb
   have yM:=au P9
   have HR:Hid (∀ w',lH w' (D 8) (D 9) H.sz H.bn->Keep (only (D 9)) w w'->aF w' D H):=fun w' hs k=>h.GX (s:=H.bn) (k.sel1 rfl) hs h.inv
   clear h hb HE P9
   go_enter func288,ntmps288
   go_wp2_with (go_at_call 163;refine yM.out.mono ?_;rintro e w1 ⟨rfl,hs,k1⟩;have HS:=au hs;have HK:=au k1;clear hs k1)
   go_ret
   exact ⟨⟨_,rfl⟩,HR.out _ HS.out HK.out,(HK.out.sel1 (I:=[9]) rfl).hf rfl⟩
 | true =>
   have HE:Hid (H.fV a=(H.kill a).fK a):=by unfold Hid HS.fV;rw [hb];rfl
   rw [HE.out]
   have ha:=h.born.low hb
   have P9:=h.born.put a ha false
   rw [hb] at P9
   have yM:=au P9
   have HR:Hid (∀ w',lH w' (D 8) (D 9) H.sz (upd H.bn a false)->Keep (only (D 9)) w w'->aF w' D (H.kill a)):=fun w' hs k=>h.GX (s:=upd H.bn a false) (k.sel1 rfl) hs (h.inv.kill a)
   have HL:Hid (∀ w',aF w' D (H.kill a)->Calls ay 204 #[aj (D 5),ah (a:Int)] w' fun e w2=>(∃ er:Int,e = .returned (ah er))/\aF w2 D ((H.kill a).fK a)/\Keep (HF D) w' w2):=fun w' h' =>
    IK h' a (by show upd H.bn a false a=false;unfold upd;rw [if_pos rfl])
   generalize (H.kill a).fK a=H2 at *
   clear h hb HE P9 ha
   go_enter func288,ntmps288
   go_wp2_with (go_at_call 163;refine yM.out.mono ?_;rintro e w1 ⟨rfl,hs,k1⟩;have uZ:=au (HR.out _ hs k1);have HK:=au ((k1.sel1 (D:=D) (i:=9) (I:=[9]) rfl).hf rfl);have z2:=(HR.out _ hs k1).blk.cell 2 rfl;clear hs k1)
   have yN:=au (HL.out _ uZ.out)
   go_wp2_with (go_at_call 204;refine yN.out.mono ?_;rintro e w2 ⟨⟨er,rfl⟩,h2,k2⟩;have sK:=au h2;have bJ:=au k2;clear h2 k2)
   go_ret
   exact ⟨⟨_,rfl⟩,sK.out,HK.out.trans bJ.out⟩
theorem OO (h:aF w D H) (B:Nat) (hB:H.K.getD B 0≠0):Calls ay 63 #[aj (D 3),ah (B:Int)] w fun e w'=>∃ v,e = .returned v/\w'.ownsRow w.heap.size 3 1 v (H.slots B).length ((H.slots B).map fun x:Nat => ah (x:Int))/\Keep none_ w w':=by
 have hBl:B<H.K.length:=by
  rcases Nat.lt_or_ge B H.K.length with g|g
  ·exact g
  ·rw [List.getD_eq_getElem?_getD,List.getElem?_eq_none g] at hB
   simp at hB
 have hk4:H.K.getD B 0<=4:=by
  rw [List.getD_eq_getElem?_getD,List.getElem?_eq_getElem hBl]
  exact h.table.le _ (List.getElem_mem hBl)
 have h1:=UC h.table H.ww B (H.K.getD B 0 - 1) h.cw hBl (by omega) (by omega) h.tabs h.sizes
 rw [show H.K.getD B 0 - 1+1=H.K.getD B 0 by omega] at h1
 unfold HS.slots
 rw [if_neg hB,vN]
 exact h1
theorem Dv (h:aF w D H) (k:Nat) (hk:k<4):Calls ay 160 #[aj (D 0),ah (k:Int)] w fun e w'=>∃ v,e = .returned (.tuple #[v,ah ((H.dF k).2.1:Int)])/\w'.ownsRow w.heap.size 3 1 v (H.dF k).1.length ((H.dF k).1.map fun x:Nat => ah (x:Int))/\aF w' D (H.dF k).2.2/\Keep (HF D) w w':=by
 have y1:=h.blk.cell 1 rfl
 unfold HS.dF
 cases hf:H.K.findIdx? (fun x=>x==0) with
 | none =>
   have hl:∀ j,j<H.K.length->H.K.getD j 0≠0:=fun j hj e=>by
    rw [List.findIdx?_eq_none_iff] at hf
    have:=hf _ (List.getElem_mem hj)
    rw [List.getD_eq_getElem?_getD,List.getElem?_eq_getElem hj] at e
    simp at e this
    exact this e
   have HA:=au (La h.table k hl hk)
   have HH:=au h
   have HN:Hid (w.ownsRow w.heap.size 3 1 (.slice none 0 0) 0 []):=⟨rfl,.inl ⟨rfl,rfl⟩⟩
   clear h hf hl
   go_enter func160,ntmps160
   go_wp2_with (go_at_call 203;refine HA.out.mono ?_;rintro e w1 ⟨rfl,rfl⟩)
   go_ret2
   exact ⟨_,rfl,HN.out,HH.out,Keep.refl _ _⟩
 | some B =>
   obtain ⟨hB,h0,hl⟩:=List.findIdx?_eq_some_iff_getElem.1 hf
   have h0':H.K.getD B 0=0:=by
    rw [List.getD_eq_getElem?_getD,List.getElem?_eq_getElem hB];simpa using h0
   have hl':∀ j,j<B->H.K.getD j 0≠0:=fun j hj e=>by
    have:=hl j hj
    rw [List.getD_eq_getElem?_getD,List.getElem?_eq_getElem (by omega)] at e
    simp at e this
    exact this e
   dsimp only
   have HA:=au (Q5 h.table B k hB h0' hl' hk)
   have HR:Hid (∀ w',dU w' (D 3) (D 4) H.c (H.K.set B (k+1))->Keep (only (D 4)) w w'->aF w' D (H.assign B k)):=fun w' ht kk=>h.setTable (K:=H.K.set B (k+1)) (kk.sel1 rfl) ht (h.inv.assign h0' hk)
   have HL:Hid (∀ w',aF w' D (H.assign B k)->Calls ay 63 #[aj (D 3),ah (B:Int)] w' fun e w2=>∃ v,e = .returned v/\w2.ownsRow w'.heap.size 3 1 v ((H.assign B k).slots B).length (((H.assign B k).slots B).map fun x:Nat => ah (x:Int))/\Keep none_ w' w2):=fun w' h' =>
    OO h' B (by show (H.K.set B (k+1)).getD B 0≠0;rw [Ar hB];omega)
   generalize (H.assign B k).slots B=sl at *
   generalize H.assign B k=H2 at *
   clear h hf hB h0 hl h0' hl'
   go_enter func160,ntmps160
   go_wp2_with (go_at_call 203;refine HA.out.mono ?_;rintro e w1 ⟨rfl,ht,k1⟩;have uZ:=au (HR.out _ ht k1);have HK:=au k1;have z1:=(HR.out _ ht k1).blk.cell 1 rfl;clear ht k1)
   have yN:=au (HL.out _ uZ.out)
   go_wp2_with (go_at_call 63;refine yN.out.mono ?_;rintro e w2 ⟨v,rfl,ho,k2⟩;have HO:=au ho;have bJ:=au k2;clear ho k2)
   go_ret2
   exact ⟨v,rfl,bD HO.out HK.out.size,uZ.out.still bJ.out,((HK.out.sel1 (D:=D) (i:=4) (I:=[4]) rfl).hf rfl).trans bJ.out.gI⟩
end
end
end Go.Proofs.YtanfphjoebobaaaGreatDoor
