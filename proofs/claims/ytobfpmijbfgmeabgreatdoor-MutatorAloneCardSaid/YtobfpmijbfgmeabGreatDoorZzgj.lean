/- Parts of the walk. No conditions. -/
import Derived.Test.YtobfpmijbfgmeabGreatDoorZzgi
import Derived.Laws.CopyOwn
import Derived.Laws.EntriesVeiled
namespace Go.Proofs.YtobfpmijbfgmeabGreatDoor
open _root_.Go.World renaming drew->abx,size_alloc->abw
open _root_.List renaming drop_succ_cons->abz,drop_zero->abt,eq_of_mem_replicate->aco,getD_eq_getElem?_getD->ace,getElem?_eq_getElem->abr,getElem?_eq_some_iff->abl,nodup_nil->acT,pairwise_iff_getElem->acU,replicate->abn,take_zero->aby
open _root_.Go.Proofs.Tryz hiding prog
open _root_.Go.Proofs.Tryz renaming prog->ay
set_option maxRecDepth 4000
set_option maxHeartbeats 4000000
section
attribute [local go_sem] Oper.semAt_some
open Go.RowKit
def HS.aW (c:aS) (b ww nc:Nat):HS:=⟨c,b,ww,abn (b*ww) 0,abn b 0,[[],[],[],[]],fun _=>false,fun _=>false,abn nc 0⟩
theorem CQ (c:aS) (b ww nc:Nat) (h:b*ww<=1048576):dB (HS.aW c b ww nc):=by
 have hrow:∀ k,(HS.aW c b ww nc).row k=[]:=fun k=>by
  match k with
  | 0=>rfl
  | 1=>rfl
  | 2=>rfl
  | 3=>rfl
  | n+4=>rfl
 have hz:∀ a,(HS.aW c b ww nc).dV a=0:=fun a=>by
  unfold HS.dV pY HS.aW
  split
  ·rw [ace,List.getElem?_replicate]
   split<;>rfl
  ·rfl
 refine ⟨by simp [HS.aW],h,fun x hx=>?_,fun x hx=>?_,rfl,fun k _=>?_,fun k _=>?_,fun k _ a ha=>?_,fun a ha=>?_,fun a _ _ _ => .inl (hz a),fun x hx=>?_,fun a _ _ _=>hz a⟩
 ·rw [aco hx];decide
 ·rw [aco hx];decide
 ·rw [hrow];trivial
 ·rw [hrow];exact acT
 ·rw [hrow] at ha;cases ha
 ·cases ha
 ·rw [aco hx];exact Nat.zero_le _
theorem G9 {w:World} {B X n:Nat} (h:fG w B X n (abn ((n+63)/64) 0)):lI w B X n (fun _=>false) :=
 ⟨_,h,fun m=>by unfold jT;rw [KY];simp⟩
def xH (l:List Nat):Nat->Nat:=fun i=>l.getD i 0
theorem PV {l:List Nat} (hl:l.length=13) (hn:l.Nodup):∀ i j,i<13->j<13->xH l i=xH l j->i=j:=by
 intro i j hi hj e
 unfold xH at e
 rw [ace,abr (by omega),ace,abr (by omega)] at e
 simp only [Option.getD_some] at e
 rcases Nat.lt_trichotomy i j with h|h|h
 ·exact absurd e (acU.1 hn i j (by omega) (by omega) h)
 ·exact h
 ·exact absurd e.symm (acU.1 hn j i (by omega) (by omega) h)
theorem VJ (c:aS) (b ww nc:Nat) (hok:c.ok=true) (hcb:c.b=b) (hcw:c.w=ww) (hcc:c.c=nc) (w:World) (hT:gY w) (hS:eX w):Calls ay 31 #[.agg c.cells.toArray] w fun e w'=>∃ D,e = .returned (.tuple #[ak (D 0),ah 0])/\aK w' D (HS.aW c b ww nc)/\(∀ i,i<13->w.heap.size<=D i)/\aj aA w w':=by
 have hn:=mM hok hcb hcw
 have hbd:=iT hok
 have hnc:nc<=64:=by omega
 have hmk:∀ w:World,(Instr.makeSlice 35 (ah (nc:Int)) (ah (nc:Int))).run ay w = .ok (.slice (some ⟨w.heap.size,0,none⟩) nc nc) (w.alloc (.cells (eU (ah 0) nc).toArray 3)) :=
  fun w=>wM (P:=ay) (by kernel_rfl) Tryz.infoInt rfl (by decide) nc (by omega) _ rfl w
 obtain ⟨W0,hW0⟩:∃ W',W'=w.alloc (.cells c.cells.toArray 23):=⟨_,rfl⟩
 have HK:Hid (aj aA w W0):=by rw [hW0];exact (aj.refl _ _).alloc _
 have HN:=au (Vy c b hok hcb W0 (hT.aH HK.out))
 have HB:=au (show aB W0 w.heap.size c.cells 23 by rw [hW0];exact aB.aW w _ _)
 have sO:Hid (W0.heap.size=w.heap.size+1):=by rw [Hid,hW0];simp
 have Xc:Hid (∀ W,aj aA w W->Calls ay 60 #[.agg c.cells.toArray] W fun e w'=>e = .returned (ah ((b*ww:Nat):Int))/\aj aA W w'):=fun W hW=>tu hok hcb hcw W (hT.aH hW)
 have Xd:Hid (∀ W,Calls ay 61 #[ah ((b*ww:Nat):Int)] W fun e w'=>∃ R X,e = .returned (.tuple #[ak R,ah 0])/\bV w' R X (abn (b*ww) 0)/\W.heap.size<=R/\W.heap.size<=X/\aj aA W w'):=fun W=>RX (b*ww) (by have:=Nat.mul_le_mul hn.1 hn.2.2.1;omega) hn.2.2.2.2 W
 have pR:Hid (∀ W aR aX tR tX,bV W aR aX (abn (b*ww) 0)->dW W tR tX c (abn b 0)->aj aA w W->Calls ay 62 #[ak aR,ak tR] W fun e w'=>∃ L iR iX,e = .returned (.tuple #[ak L,ah 0])/\bP w' L iR iX aR tR (b*ww+1) (abn ((b*ww+1+63)/64) 0) [0,0,0,0]/\W.heap.size<=L/\W.heap.size<=iR/\W.heap.size<=iX/\aj aA W w'):=fun W aR aX tR tX hA Lc hW =>
  VF hA Lc hcb hcw (by simp) (hT.aH hW)
 have gG:Hid (∀ W,Calls ay 63 #[ah (((b*ww:Nat):Int)+1)] W fun e w'=>∃ B X,e = .returned (.tuple #[ak B,ah 0])/\fG w' B X (b*ww+1) (abn ((b*ww+1+63)/64) 0)/\W.heap.size<=B/\W.heap.size<=X/\aj aA W w'):=fun W=>by
  have h9:=Gu (b*ww+1) (by omega) W
  rw [show (((b*ww+1:Nat):Nat):Int)=((b*ww:Nat):Int)+1 by omega] at h9
  exact h9
 have Xe:=au (CQ c b ww nc hn.2.2.2.2)
 have Lp:Hid (gY w/\eX w):=⟨hT,hS⟩
 have aaq:((b*ww:Nat):Int)<=1048576:=by omega
 have hwr:IntKind.i64.wrap (((b*ww:Nat):Int)+1)=((b*ww:Nat):Int)+1:=IntWalk.i64_in _ (by omega)
 obtain ⟨NN,hNN⟩:∃ NN,NN=b*ww:=⟨_,rfl⟩
 have yF:=au hNN
 rw [<- hNN] at Xc Xd pR gG aaq hwr
 obtain ⟨c0,c1,c2,c3,c4,c5,c6⟩:=c
 simp only at hcb hcw hcc
 subst hcb
 subst hcw
 subst hcc
 simp only [aS.cells] at *
 clear hT hS hok hn hbd hNN
 go_enter func31,ntmps31
 go_wp2_with fail
 rw [<- hW0]
 clear hW0
 refine HN.out.mono ?_
 rintro e w1 ⟨tR,tX,rfl,ht,t1,t2,hk1⟩
 have HT1:=au ht
 have Zu:Hid (w.heap.size+1<=tR/\w.heap.size+1<=tX/\tR≠tX/\tR<w1.heap.size/\tX<w1.heap.size):=by have h9:=sO.out;exact ⟨by omega,by omega,ht.ne,ht.aC.lt,ht.gQ.lt⟩
 have aZ:=au (HK.out.trans hk1)
 have HB1:=au (hk1.aC HB.out (fun f=>f))
 have y0:=HB1.out.cell 0 rfl;have y1:=HB1.out.cell 1 rfl;have y2:=HB1.out.cell 2 rfl;have y3:=HB1.out.cell 3 rfl;have y4:=HB1.out.cell 4 rfl;have y5:=HB1.out.cell 5 rfl;have y6:=HB1.out.cell 6 rfl
 clear ht t1 t2 hk1 HN HK HB
 have Xf:=au (Xc.out _ aZ.out)
 go_wp2_with fail
 refine Xf.out.mono ?_
 rintro e w2 ⟨rfl,hk2⟩
 have bH:=au (aZ.out.trans hk2)
 have HT2:=au (HT1.out.still hk2)
 have HB2:=au (hk2.aC HB1.out (fun f=>f))
 have HS2:Hid (w1.heap.size<=w2.heap.size):=hk2.size
 clear hk2 Xf Xc HT1 HB1 y0 y1 y2 y3 y4 y5 y6
 go_wp2_with fail
 refine (Xd.out _).mono ?_
 rintro e w3 ⟨aR,aX,rfl,ha,a1,a2,hk3⟩
 have lT:=au (bH.out.trans hk3)
 have HT3:=au (HT2.out.still hk3)
 have HB3:=au (hk3.aC HB2.out (fun f=>f))
 have GH:=au ha
 have Ac:Hid (w2.heap.size<=aR/\w2.heap.size<=aX/\aR≠aX/\aR<w3.heap.size/\aX<w3.heap.size):=⟨a1,a2,ha.ne,by obtain ⟨_,_,h9⟩:=ha.aC;exact h9.lt,ha.kL.lt⟩
 clear hk3 ha a1 a2 HT2 HB2
 have Xg:=au (pR.out _ _ _ _ _ GH.out HT3.out lT.out)
 go_wp2_with fail
 refine Xg.out.mono ?_
 rintro e w4 ⟨L,iR,iX,rfl,hl,l1,l2,l3,hk4⟩
 have kR:=au (lT.out.trans hk4)
 have HT4:=au (HT3.out.still hk4)
 have HB4:=au (hk4.aC HB3.out (fun f=>f))
 have UD:=au (GH.out.still hk4)
 have Zv:=au hl
 have Zw:Hid (w3.heap.size<=L/\w3.heap.size<=iR/\w3.heap.size<=iX/\L≠iR/\L≠iX/\iR≠iX/\L<w4.heap.size/\iR<w4.heap.size/\iX<w4.heap.size):=⟨l1,l2,l3,hl.ne.1,hl.ne.2,hl.set.ne,hl.lt,by obtain ⟨_,h9⟩:=hl.set.aC;exact h9.lt,by obtain ⟨_,h9,_⟩:=hl.set.kL;exact h9.lt⟩
 clear hk4 hl l1 l2 l3 HT3 HB3 GH Xg pR
 go_wp2_with fail
 refine (gG.out _).mono ?_
 rintro e w5 ⟨bR,bX,rfl,hs,s1,s2,hk5⟩
 have Xh:=au (kR.out.trans hk5)
 have Zx:=au (HT4.out.still hk5)
 have Xi:=au (hk5.aC HB4.out (fun f=>f))
 have Zy:=au (UD.out.still hk5)
 have Zz:=au (Zv.out.still hk5)
 have yG:=au hs
 have ZA:Hid (w4.heap.size<=bR/\w4.heap.size<=bX/\bR≠bX/\bR<w5.heap.size/\bX<w5.heap.size):=⟨s1,s2,hs.ne,by obtain ⟨_,h9⟩:=hs.aC;exact h9.lt,by obtain ⟨_,h9,_⟩:=hs.kL;exact h9.lt⟩
 clear hk5 hs s1 s2 HT4 HB4 UD Zv
 have PW:Hid (∀ W,aj aA w5 W->Calls ay 64 #[ak bR] W fun e w'=>∃ B' X',e = .returned (ak B')/\fG w' B' X' (NN+1) (abn ((NN+1+63)/64) 0)/\W.heap.size<=B'/\W.heap.size<=X'/\aj aA W w'):=fun W hW=>Ew (yG.out.still hW) (by omega)
 have gI:Hid (∀ cR cX cl d0 W,aj aA w5 W->fG W cR cX (NN+1) (abn ((NN+1+63)/64) 0)->aB W cl (bg (abn nc 0)) 3->aB W d0 [ak aR,ak tR,ak L,ak bR,ak cR,.slice (some ⟨cl,0,none⟩) nc nc] 108 ->
  w5.heap.size<=cR->w5.heap.size<=cX->w5.heap.size<=cl->w5.heap.size<=d0->cl≠cX ->
  aK W (xH [d0,aR,aX,tR,tX,L,iR,iX,bR,bX,cR,cX,cl]) (HS.aW ⟨b,ww,c2,c3,nc,c5,c6⟩ b ww nc)/\∀ i,i<13->w.heap.size<=xH [d0,aR,aX,tR,tX,L,iR,iX,bR,bX,cR,cX,cl] i):=by
  intro cR cX cl d0 W hW hc hcl hd g1 g2 g3 g4 g5
  have q1:=Zu.out;have q2:=HS2.out;have q3:=Ac.out;have q4:=Zw.out;have q5:=ZA.out
  have q6:=hc.ne
  have q7:d0≠cR:=fun e=>by obtain ⟨_,h9⟩:=hc.aC;rw [e] at hd;exact absurd (hd.gK h9).2 (by decide)
  have q8:d0≠cX:=fun e=>by obtain ⟨_,h9,_⟩:=hc.kL;rw [e] at hd;exact absurd (hd.gK h9).2 (by decide)
  have q9:d0≠cl:=fun e=>by rw [e] at hd;exact absurd (hd.gK hcl).2 (by decide)
  have q10:cl≠cR:=fun e=>by obtain ⟨_,h9⟩:=hc.aC;rw [e] at hcl;exact absurd (hcl.gK h9).2 (by decide)
  have hge:∀ i,i<13->w.heap.size+1<=xH [d0,aR,aX,tR,tX,L,iR,iX,bR,bX,cR,cX,cl] i:=by
   intro i hi
   match i,hi with
   | 0,_=>show _<=d0;omega
   | 1,_=>show _<=aR;omega
   | 2,_=>show _<=aX;omega
   | 3,_=>show _<=tR;omega
   | 4,_=>show _<=tX;omega
   | 5,_=>show _<=L;omega
   | 6,_=>show _<=iR;omega
   | 7,_=>show _<=iX;omega
   | 8,_=>show _<=bR;omega
   | 9,_=>show _<=bX;omega
   | 10,_=>show _<=cR;omega
   | 11,_=>show _<=cX;omega
   | 12,_=>show _<=cl;omega
  have hkW:=Xh.out.trans hW
  have gl:2<w.heap.size/\3<w.heap.size/\1<w.heap.size :=
   ⟨Lp.out.1.lt.1,Lp.out.1.lt.2,Lp.out.2.lt⟩
  refine ⟨⟨PV rfl ?_,?_,?_,Zx.out.still hW,⟨abn ((NN+1+63)/64) 0,?_,?_⟩,?_,?_,hcl,rfl,rfl,?_,Xe.out,Lp.out.1.aH hkW,Lp.out.2.aH hkW,fun i hi=>?_⟩,fun i hi=>by have:=hge i hi;omega⟩
  ·simp only [List.nodup_cons,List.mem_cons,List.not_mem_nil,or_false,not_or,acT,and_true,not_false_eq_true]
   clear hd hcl hc hW hkW hge gl
   refine ⟨⟨?_,?_,?_,?_,?_,?_,?_,?_,?_,?_,?_,?_⟩,⟨?_,?_,?_,?_,?_,?_,?_,?_,?_,?_,?_⟩,⟨?_,?_,?_,?_,?_,?_,?_,?_,?_,?_⟩,⟨?_,?_,?_,?_,?_,?_,?_,?_,?_⟩,⟨?_,?_,?_,?_,?_,?_,?_,?_⟩,⟨?_,?_,?_,?_,?_,?_,?_⟩,⟨?_,?_,?_,?_,?_,?_⟩,⟨?_,?_,?_,?_,?_⟩,⟨?_,?_,?_,?_⟩,⟨?_,?_,?_⟩,⟨?_,?_⟩,?_⟩<;>omega
  ·show aB W d0 _ _
   simpa [HS.aW,xH] using hd
  ·show bV W aR aX (abn (b*ww) 0)
   rw [<- yF.out];exact Zy.out.still hW
  ·show bP W L iR iX aR tR (b*ww+1) _ [0,0,0,0]
   rw [<- yF.out];exact Zz.out.still hW
  ·intro m
   show jT (b*ww+1) _ _=false
   unfold jT
   rw [KY];simp
  ·show lI W bR bX (b*ww+1) (fun _=>false)
   rw [<- yF.out];exact G9 (yG.out.still hW)
  ·show lI W cR cX (b*ww+1) (fun _=>false)
   rw [<- yF.out];exact G9 hc
  ·show (nc:Int)=((abn nc 0).length:Int)
   simp
  ·have h9:=hge i hi
   exact ⟨by omega,by omega,by omega⟩
 have xI:Hid (∀ W,aj aA w5 W->W.cell? ⟨w.heap.size,4,none⟩=some (ah (nc:Int))):=fun W hW=>hW.still (Xi.out.cell 4 rfl)
 have y4:=xI.out w5 (aj.refl _ _)
 have mV:=au Xh.out
 clear Xh Zx Xi Zy Zz yG ZA Zw Ac HS2 Zu Xe Lp kR lT bH aZ gG Xd yF sO
 go_wp2_with fail
 go_region_held3 (fun w'=>w'.cell? ⟨w.heap.size,4,none⟩=some (ah (nc:Int)))
  (first | exact xI.out _ (aj.refl _ _) | exact xI.out _ (aj.refl _ _).drew | exact xI.out _ ((aj.refl _ _).alloc _) | exact xI.out _ ((aj.refl _ _).alloc _).drew | exact xI.out _ ((aj.refl _ _).drew.alloc _) | exact xI.out _ CS.out | exact xI.out _ (CS.out.alloc _) | exact xI.out _ ((CS.out.alloc _).alloc _) | fail "oO")
  ((go_at_call 64
    refine (PW.out _ (by first | exact (aj.refl _ _).drew | exact ((aj.refl _ _).alloc _).drew | exact (aj.refl _ _).drew.alloc _ | fail "vC")).mono ?_
    rintro e w6 ⟨cR,cX,rfl,hc,g1,g2,hk6⟩
    have PX:=au hc
    have ZB:=au (And.intro g1 g2)
    have aar:=au hk6
    have CS : Hid (aj aA w5 w6) := by first | exact (aj.refl _ _).drew.trans hk6 | exact ((aj.refl _ _).alloc _).drew.trans hk6 | exact ((aj.refl _ _).drew.alloc _).trans hk6 | fail "aaQ"
    clear hc g1 g2 hk6))
 all_goals
  go_wp2_with fail
  go_ret2
 ·
  have hz:eU (ah 0) nc=bg (abn nc 0):=by simp [eU,bg]
  have hs5:=CS.out.size
  have k7:aj aA w6 ((w6.alloc (.cells (eU (ah 0) nc).toArray 3)).alloc (.cells #[ak aR,ak tR,ak L,ak bR,ak cR,.slice (some ⟨w6.heap.size,0,none⟩) nc nc] 108)):=((aj.refl _ _).alloc _).alloc _
  have hcl:=(aB.aW w6 (eU (ah 0) nc) 3).alloc (.cells #[ak aR,ak tR,ak L,ak bR,ak cR,.slice (some ⟨w6.heap.size,0,none⟩) nc nc] 108)
  have hd:=aB.aW (w6.alloc (.cells (eU (ah 0) nc).toArray 3)) [ak aR,ak tR,ak L,ak bR,ak cR,.slice (some ⟨w6.heap.size,0,none⟩) nc nc] 108
  rw [abw] at hd
  have hlt:cX<w6.heap.size:=by obtain ⟨_,h9,_⟩:=PX.out.kL;exact h9.lt
  have g6:=ZB.out
  have He:=gI.out cR cX w6.heap.size (w6.heap.size+1) _ (CS.out.trans k7) (PX.out.still k7) (by rw [<- hz];exact hcl) hd (by first|omega|exact g6.1|(have:=g6.1;simp at this;omega)) (by first|omega|exact g6.2|(have:=g6.2;simp at this;omega)) hs5 (by omega) (by omega)
  exact ⟨_,rfl,He.1,He.2,mV.out.trans (CS.out.trans k7)⟩
 ·
  have hz:eU (ah 0) nc=bg (abn nc 0):=by simp [eU,bg]
  have hs5:=CS.out.size
  have k7:aj aA w6 (w6.alloc (.cells #[ak aR,ak tR,ak L,ak bR,ak cR,.slice (some ⟨w5.heap.size,0,none⟩) nc nc] 108)):=(aj.refl _ _).alloc _
  have hcl0:=(aar.out.aC ((aB.aW w5 (eU (ah 0) nc) 3).drew) (fun f=>f))
  have hcl:=hcl0.alloc (.cells #[ak aR,ak tR,ak L,ak bR,ak cR,.slice (some ⟨w5.heap.size,0,none⟩) nc nc] 108)
  have hd:=aB.aW w6 [ak aR,ak tR,ak L,ak bR,ak cR,.slice (some ⟨w5.heap.size,0,none⟩) nc nc] 108
  have g6:=ZB.out
  have g61:w5.heap.size+1<=cR:=by have:=g6.1;simpa using this
  have g62:w5.heap.size+1<=cX:=by have:=g6.2;simpa using this
  have He:=gI.out cR cX w5.heap.size w6.heap.size _ (CS.out.trans k7) (PX.out.still k7) (by rw [<- hz];exact hcl) hd (by omega) (by omega) (Nat.le_refl _) hs5 (by omega)
  exact ⟨_,rfl,He.1,He.2,mV.out.trans (CS.out.trans k7)⟩
end
section
open Go.RowKit
structure Bd where
 Hf:Int
 kind:Int
 count:Int
 os:List Bool
def Bd.cells (b:Bd):List Value := ah b.Hf :: ah b.kind :: ah b.count::b.os.map Value.bool
structure lK (w:World) (B:Nat) (b:Bd):Prop where
 aC:aB w B b.cells 134
 len:b.os.length=8
 lo:1<=b.Hf
 hi:b.Hf<=8
theorem lK.aH {S w w' B b} (h:lK w B b) (k:aj S w w') (hs:¬ S B):lK w' B b:=⟨k.aC h.aC hs,h.len,h.lo,h.hi⟩
def Bd.is (b:Bd) (m:Int):Bool:=decide (0<=m)&&decide (m<b.Hf)
def Bd.qI (b:Bd) (m:Int):Bool:=b.os.getD m.toNat false
def Bd.ji (b:Bd) (m:Int):Bool:=b.is m&&b.qI m
def Bd.oV (b:Bd) (m:Int):Int:=if b.ji m then b.kind else 0
theorem EG (B:Nat) (b:Bd) (m:Int) (w:World) (hb:lK w B b) :
 Calls ay 91 #[ak B,ah m] w fun e w'=>e = .returned (.bool (b.is m))/\w=w':=by
 have hc:=hb.aC.cell 0 (v := ah b.Hf) rfl
 clear hb
 go_enter func91,ntmps91
 go_wp2
 ·go_ret
  exact ⟨by simp [Bd.is, *],rfl⟩
 ·go_ret
  have:¬ (0<=m):=by omega
  exact ⟨by simp [Bd.is, *],rfl⟩
theorem vJ (B:Nat) (b:Bd) (m:Int) (w:World) (hb:lK w B b) (h:b.is m=true) :
 Calls ay 91 #[ak B,ah m] w fun e w'=>e = .returned (.bool true)/\w=w':=by
 rw [<- h];exact EG B b m w hb
theorem Hg (B:Nat) (b:Bd) (m:Int) (w:World) (hb:lK w B b) (h:b.is m=false) :
 Calls ay 91 #[ak B,ah m] w fun e w'=>e = .returned (.bool false)/\w=w':=by
 rw [<- h];exact EG B b m w hb
theorem lK.Hl {w B b} (hb:lK w B b) {m:Int} (h:b.is m=true):w.cell? ⟨B,3+m.toNat,none⟩=some (.bool (b.qI m)):=by
 have hl:=hb.len;have:=hb.hi
 simp [Bd.is] at h
 refine hb.aC.cell _ ?_
 rw [Nat.add_comm]
 simp [Bd.cells,Bd.qI,ace]
 rw [abr (by omega)];simp
theorem DY (B:Nat) (b:Bd) (m:Int) (w:World) (hb:lK w B b) :
 Calls ay 66 #[ak B,ah m] w fun e w'=>e = .returned (.tuple #[ah (b.oV m),.bool (b.ji m)])/\w=w':=by
 cases h:b.is m with
 | false =>
   have hp:b.ji m=false:=by simp [Bd.ji,h]
   have HP:=au hp;clear hp
   go_enter func66,ntmps66
   go_wp2_with (go_at_call 91;refine (Hg B b m _ hb h).mono ?_;rintro e w' ⟨rfl,rfl⟩)
   go_ret2
   simp [HP.out,Bd.oV]
 | true =>
   have hco:=hb.Hl h
   have hc1:=hb.aC.cell 1 (v := ah b.kind) rfl
   have hm1:0<=m:=by simp [Bd.is] at h;exact h.1
   have hm2:m<8:=by have:=hb.hi;simp [Bd.is] at h;omega
   have hp:b.ji m=b.qI m:=by simp [Bd.ji,h]
   have HP:=au hp;clear hp
   cases ho:b.qI m with
   | false =>
     rw [ho] at hco
     go_enter func66,ntmps66
     go_wp2_with (go_at_call 91;refine (vJ B b m _ hb h).mono ?_;rintro e w' ⟨rfl,rfl⟩)
     go_ret2
     simp [HP.out,ho,Bd.oV]
   | true =>
     rw [ho] at hco
     go_enter func66,ntmps66
     go_wp2_with (go_at_call 91;refine (vJ B b m _ hb h).mono ?_;rintro e w' ⟨rfl,rfl⟩)
     go_ret2
     simp [HP.out,ho,Bd.oV]
def Bd.close (b:Bd) (m:Int):Bd:={ b with os:=b.os.set m.toNat false }
def Bd.Bj (b:Bd) (m:Int):Int:=if b.is m then (if b.qI m then 0 else 11) else 4
def Bd.rH (b:Bd) (m:Int):Bd:=if b.ji m then b.close m else b
theorem lK.close {w B b} (hb:lK w B b) (m:Int):lK (w.setCell ⟨B,3+m.toNat,none⟩ (.bool false)) B (b.close m):=by
 refine ⟨?_,by simp [Bd.close,hb.len],hb.lo,hb.hi⟩
 have:=hb.aC.set (3+m.toNat) (.bool false)
 rw [Nat.add_comm] at this ⊢
 simpa [Bd.cells,Bd.close,List.map_set] using this
theorem FV (B:Nat) (b:Bd) (m:Int) (w:World) (hb:lK w B b) :
 Calls ay 95 #[ak B,ah m] w fun e w'=>e = .returned (ah (b.Bj m))/\lK w' B (b.rH m)/\aj (only B) w w':=by
 cases h:b.is m with
 | false =>
   have HE:Hid (b.Bj m=4/\b.rH m=b):=by simp [Hid,Bd.Bj,Bd.rH,Bd.ji,h]
   go_enter func95,ntmps95
   go_wp2_with (go_at_call 91;refine (Hg B b m _ hb h).mono ?_;rintro e w' ⟨rfl,rfl⟩)
   go_ret
   rw [HE.out.1,HE.out.2]
   exact ⟨rfl,hb,aj.refl _ _⟩
 | true =>
   have hco:=hb.Hl h
   have hm1:0<=m:=by simp [Bd.is] at h;exact h.1
   have hm2:m<8:=by have:=hb.hi;simp [Bd.is] at h;omega
   cases ho:b.qI m with
   | false =>
     have HE:Hid (b.Bj m=11/\b.rH m=b):=by simp [Hid,Bd.Bj,Bd.rH,Bd.ji,h,ho]
     rw [ho] at hco
     go_enter func95,ntmps95
     go_wp2_with (go_at_call 91;refine (vJ B b m _ hb h).mono ?_;rintro e w' ⟨rfl,rfl⟩)
     go_ret
     rw [HE.out.1,HE.out.2]
     exact ⟨rfl,hb,aj.refl _ _⟩
   | true =>
     have HE:Hid (b.Bj m=0/\b.rH m=b.close m):=by simp [Hid,Bd.Bj,Bd.rH,Bd.ji,h,ho]
     have hfz:=hb.aC.free (3+m.toNat)
     have HB:=au (hb.close m)
     rw [ho] at hco
     go_enter func95,ntmps95
     go_wp2_with (go_at_call 91;refine (vJ B b m _ hb h).mono ?_;rintro e w' ⟨rfl,rfl⟩)
     go_ret
     rw [HE.out.1,HE.out.2]
     exact ⟨rfl,HB.out,(aj.refl (only B) _).put _ _⟩
def Bd.aW (m:Int):Bd:=⟨m,0,0,abn 8 false⟩
theorem Nu (m:Int) (w:World) (h:1<=m) (h8:m<=8) :
 Calls ay 32 #[ah m] w fun e w'=>e = .returned (.tuple #[ak w.heap.size,ah 0])/\lK w' w.heap.size (Bd.aW m)/\aj aA w w':=by
 have HN:∀ w:World,Hid (lK (w.alloc (.cells (Bd.aW m).cells.toArray 134)) w.heap.size (Bd.aW m)):=fun w=>⟨aB.aW w (Bd.aW m).cells 134,rfl,h,h8⟩
 go_enter func32,ntmps32
 go_wp2
 go_ret2
 exact ⟨rfl,(HN w).out,(aj.refl _ _).alloc _⟩
theorem sK {B:Nat} {b:Bd} {m:Int} {w:World} {p:Bool} {k:Int} (hb:lK w B b) (h1:b.ji m=p) (h2:b.oV m=k) :
 Calls ay 66 #[ak B,ah m] w fun e w'=>e = .returned (.tuple #[ah k,.bool p])/\w=w':=by
 rw [<- h1,<- h2];exact DY B b m w hb
theorem dI.F7 {o:Ow} {w w':World} {T:TypeId} {v:Value} {xs:List Value} {B:Nat} (h:dI o w T v xs) (k:aj (only B) w w') (ho:o B≠0):dI o w' T v xs:=h.aH k (fun b hb e=>by unfold only at e;subst e;exact ho hb)
structure Qu where
 rows:List (List Int)
 gU:Nat
structure jk (o:Ow) (w:World) (B:Nat) (q:Qu):Prop where
 own:o B≠0
 len:q.rows.length=4
 aC:∃ vs:List Value,vs.length=4/\aB w B (vs++[ah q.gU]) 137/\∀ (i:Nat) (v:Value) (zs:List Int),vs[i]?=some v->q.rows[i]?=some zs->dI o w 3 v (zs.map (Value.int .i64))
def gQ (k:Int):Bool:=decide (0<=k)&&decide (k<4)
theorem VK (k:Int) (w:World):Calls ay 108 #[ah k] w fun e w'=>e = .returned (.bool (gQ k))/\w=w':=by
 go_enter func108,ntmps108
 go_wp2
 ·go_ret
  exact ⟨by simp [gQ, *],rfl⟩
 ·go_ret
  have:¬ 0<=k:=by omega
  exact ⟨by simp [gQ, *],rfl⟩
theorem Ho {k:Int} {w:World} {p:Bool} (h:gQ k=p):Calls ay 108 #[ah k] w fun e w'=>e = .returned (.bool p)/\w=w':=by
 rw [<- h];exact VK k w
def Qu.row (q:Qu) (k:Int):List Int:=q.rows.getD k.toNat []
theorem jk.jR {o:Ow} {w B q} (h:jk o w B q) {k:Int} (hk:gQ k=true):∃ a n c,w.cell? ⟨B,k.toNat,none⟩=some (.slice a n c)/\dI o w 3 (.slice a n c) ((q.row k).map (Value.int .i64))/\n=(q.row k).length:=by
 obtain ⟨ho,hl,vs,hv,hb,hr⟩:=h
 have hk':k.toNat<4:=by simp [gQ] at hk;omega
 have h1:vs[k.toNat]?=some (vs[k.toNat]'(by omega)):=abr _
 have h2:q.rows[k.toNat]?=some (q.row k):=by
  rw [Qu.row,ace,abr (by omega)];rfl
 have hrow:=hr _ _ _ h1 h2
 obtain ⟨a,c,e,h3⟩:=id hrow
 refine ⟨a,_,c,?_,e▸hrow,by simp⟩
 rw [<- e]
 refine hb.cell _ ?_
 rw [List.getElem?_append_left (by omega)];exact h1
theorem jk.UL {o:Ow} {w B q} (h:jk o w B q):w.cell? ⟨B,4,none⟩=some (ah q.gU):=by
 obtain ⟨ho,hl,vs,hv,hb,hr⟩:=h
 refine hb.cell _ ?_
 rw [List.getElem?_append_right (by omega),hv];rfl
theorem jk.free {o:Ow} {w B q} (h:jk o w B q) (i:Nat):w.frozen? ⟨B,i,none⟩=false:=by
 obtain ⟨ho,hl,vs,hv,hb,hr⟩:=h
 exact hb.free i
def Qu.yV (q:Qu) (n:Nat):Qu:={ q with gU:=n }
theorem jk.yV {o:Ow} {w B q} (h:jk o w B q) (n:Nat):jk o (w.setCell ⟨B,4,none⟩ (ah n)) B (q.yV n):=by
 obtain ⟨ho,hl,vs,hv,hb,hr⟩:=h
 refine ⟨ho,hl,vs,hv,?_,fun i v zs h1 h2=>(hr i v zs h1 h2).F7 ((aj.refl (only B) _).put _ _) ho⟩
 have:=hb.set 4 (ah n)
 rw [List.set_append_right _ _ (by omega),hv] at this
 exact this
def Qu.CU (q:Qu):Int:=if q.gU=0 then 11 else 0
def Qu.tN (q:Qu):Qu:=q.yV (q.gU - 1)
theorem PY {o:Ow} (B:Nat) (q:Qu) (w:World) (h:jk o w B q) (hm:q.gU<=1000000000):Calls ay 215 #[ak B] w fun e w'=>e = .returned (ah q.CU)/\jk o w' B q.tN/\aj (only B) w w':=by
 have hc:=h.UL
 have hf:=h.free 4
 by_cases h0:q.gU=0
 ·have HE:Hid (q.CU=11/\q.tN=q):=by
   refine ⟨by simp [Qu.CU,h0],?_⟩
   obtain ⟨r,o⟩:=q
   simp at h0;subst h0;rfl
  rw [h0] at hc
  clear h0
  go_enter func215,ntmps215
  go_wp2
  go_ret
  rw [HE.out.1,HE.out.2]
  exact ⟨rfl,h,aj.refl _ _⟩
 ·have HE:Hid (q.CU=0):=by simp [Hid,Qu.CU,h0]
  have hne:((q.gU:Int)==0)=false:=by simp;omega
  have h1:(1:Int)<=q.gU:=by omega
  have hs:=h.yV (q.gU - 1)
  have e:((q.gU - 1:Nat):Int)=(q.gU:Int) - 1:=by omega
  rw [e] at hs
  have HS:=au hs
  clear hs e h0
  go_enter func215,ntmps215
  go_wp2
  go_ret
  rw [HE.out]
  exact ⟨rfl,HS.out,(aj.refl (only B) _).put _ _⟩
theorem jk.setRow {o:Ow} {w B q} (h:jk o w B q) {k:Int} (hk:gQ k=true) {v:Value} {zs:List Int} (hv:dI o w 3 v (zs.map (Value.int .i64))) :
 jk o (w.setCell ⟨B,k.toNat,none⟩ v) B { q with rows:=q.rows.set k.toNat zs }:=by
 obtain ⟨ho,hl,vs,hvl,hb,hr⟩:=h
 have hk':k.toNat<4:=by simp [gQ] at hk;omega
 have hkeep:∀ u,aj (only B) w (w.setCell ⟨B,k.toNat,none⟩ u):=fun u=>(aj.refl (only B) _).put _ _
 refine ⟨ho,by simpa using hl,vs.set k.toNat v,by simpa using hvl,?_,fun i u zs' h1 h2=>?_⟩
 ·have:=hb.set k.toNat v
  rw [List.set_append_left _ _ (by omega)] at this
  exact this
 ·by_cases e:k.toNat=i
  ·subst e
   rw [List.getElem?_set_self (by omega)] at h1 h2
   simp at h1 h2
   subst h1 h2
   exact hv.F7 (hkeep _) ho
  ·rw [List.getElem?_set_ne e] at h1 h2
   exact (hr i u zs' h1 h2).F7 (hkeep _) ho
theorem jk.drew {o:Ow} {w B q} (h:jk o w B q):jk o w.drew B q:=⟨h.own,h.len,h.aC⟩
def Qu.take (q:Qu) (k:Int):Qu:={ rows:=q.rows.set k.toNat ((q.row k).drop 1),gU:=q.gU+1 }
theorem JO {o:Ow} (B:Nat) (q:Qu) (k:Int) (w:World) (hq:jk o w B q) (h:gQ k=true) (h0:q.row k=[]):Calls ay 205 #[ak B,ah k] w fun e w'=>e = .returned (.tuple #[ah 0,ah 12])/\w=w':=by
 obtain ⟨a,n,c,hc,hr,hn⟩:=hq.jR h
 have hk0:0<=k:=by simp [gQ] at h;omega
 have hk4:k<4:=by simp [gQ] at h;omega
 rw [h0] at hn
 simp at hn
 rw [hn] at hc
 clear hr hn h0
 go_enter func205,ntmps205
 go_wp2_with (go_at_call 108;refine (Ho h).mono ?_;rintro e w' ⟨rfl,rfl⟩)
 go_ret2
 exact ⟨rfl,rfl⟩
theorem PZ {o:Ow} (B:Nat) (q:Qu) (k x:Int) (xs:List Int) (w:World) (hq:jk o w B q) (h:gQ k=true) (h0:q.row k=x::xs) (hm:q.gU<=1000000000) :
 Calls ay 205 #[ak B,ah k] w fun e w'=>e = .returned (.tuple #[ah x,ah 0])/\jk o w' B (q.take k)/\aj (only B) w w':=by
 obtain ⟨a,n,c,hc,hr,hn⟩:=hq.jR h
 have hk0:0<=k:=by simp [gQ] at h;omega
 have hk4:k<4:=by simp [gQ] at h;omega
 have hcut:=hr.cut 1 (by rw [hn,h0];simp)
 have hQ:=hq.setRow (zs:=(q.row k).drop 1) h (by rw [List.map_drop];exact hcut)
 have hQ2:=hQ.yV (q.gU+1)
 have e9:((q.gU+1:Nat):Int)=(q.gU:Int)+1:=by omega
 rw [e9] at hQ2
 have hop:∀ v,(w.setCell ⟨B,k.toNat,none⟩ v).cell? ⟨B,4,none⟩=some (ah q.gU):=fun v=>by
  rw [World.cell?_setCell_other]
  ·exact hq.UL
  ·intro e
   injection e with _ e2
   omega
 obtain ⟨-,-,-,hcell⟩:=hr.toV.cells
 rw [h0] at hn hcell
 simp only [List.length_cons] at hn
 obtain ⟨b',off',rfl,hx⟩:=hcell (by omega)
 have hx0:=hx 0 (ah x) rfl
 rw [Nat.add_zero] at hx0
 have hne:((n:Int)==0)=false:=by simp;omega
 have hpos:(0:Int)<n:=by omega
 have hf:=hq.free k.toNat
 have hf4:=hq.free 4
 have HQ:=au hQ2
 have hn9:(n:Int)<=4000000000000:=by
  have:=hr.toV.cells.2.1;have:=hr.toV.cells.2.2.1;omega
 clear hcell hx hn h0 hQ hQ2 hr hcut e9
 by_cases hc1:c=1
 ·subst hc1
  have e:sH (some ⟨b',off',none⟩) 1 1=some ⟨b',off',none⟩:=rfl
  rw [e] at HQ
  go_enter func205,ntmps205
  go_wp2_with (go_at_call 108;refine (Ho h).mono ?_;rintro e w' ⟨rfl,rfl⟩)
  go_region
  all_goals
   go_wp2_with fail
   go_ret2
   exact ⟨rfl,HQ.out.drew,(((aj.refl (only B) _).put _ _).put _ _).drew⟩
 ·have e:sH (some ⟨b',off',none⟩) c 1=some ⟨b',off'+1,none⟩:=by simp [sH,hc1,Addr.add]
  rw [e] at HQ
  clear e
  go_enter func205,ntmps205
  go_wp2_with (go_at_call 108;refine (Ho h).mono ?_;rintro e w' ⟨rfl,rfl⟩)
  go_region
  all_goals
   go_wp2_with fail
   go_ret2
   exact ⟨rfl,HQ.out.drew,(((aj.refl (only B) _).put _ _).put _ _).drew⟩
def Qu.rw (q:Qu) (k:Nat):List Int:=q.rows.getD k []
theorem Qu.P5 (q:Qu) (k:Nat):q.row (k:Int)=q.rw k:=by simp [Qu.row,Qu.rw]
theorem P6 (k:Nat) (h:k<4):gQ (k:Int)=true:=by simp [gQ];omega
end
section
open Go.RowKit Go.Sort
structure bQ where
 k:Int
 a:Int
 b:Int
 c:Int
deriving DecidableEq
def bQ.cells (o:bQ):List Value:=[ah o.k,ah o.a,ah o.b,ah o.c]
def kD (k:Int):Bool:=decide (1<=k)&&decide (k<9)
def l7 (k:Int):List UInt8:=if kD k then qF.getD (2*k.toNat+1) [] else []
def xJ (k:Int):List UInt8:=if kD k then qF.getD (2*k.toNat) [] else []
theorem P7 (k:Int) (w:World):Calls ay 130 #[ah k] w fun e w'=>e = .returned (.bool (kD k))/\w'=w:=by
 by_cases h:1<=k
 ·have h1:decide (1<=k)=true:=cZ h
  clear h
  go_enter func130,ntmps130
  go_wp2
  go_ret
  exact ⟨by simp [kD,h1],rfl⟩
 ·have h1:decide (1<=k)=false:=dD h
  clear h
  go_enter func130,ntmps130
  go_wp2
  go_ret
  exact ⟨by simp [kD,h1],rfl⟩
theorem SE (k:Int) (w:World) (hT:gY w):Calls ay 160 #[ah k] w fun e w'=>e = .returned (.string ⟨(l7 k).toArray⟩)/\w'=w:=by
 have HIS:=au (P7 k)
 cases hk:kD k with
 | false =>
   have HE:Hid (l7 k=[]):=by simp [Hid,l7,hk]
   rw [hk] at HIS
   clear hk hT
   go_enter func160,ntmps160
   go_wp2_with (go_at_call 130;refine (HIS.out _).mono ?_;rintro e w1 ⟨rfl,rfl⟩)
   go_ret
   exact ⟨by rw [HE.out];rfl,rfl⟩
 | true =>
   have hk':=hk
   simp [kD] at hk'
   obtain ⟨n,rfl⟩:∃ n:Nat,k=n:=⟨k.toNat,by omega⟩
   have hlt:2*n+1<qF.length:=by simp [qF];omega
   have hc:=hT.kind (2*n+1) _ (abr hlt)
   have HE:Hid (l7 (n:Int)=qF[2*n+1]):=by
    simp only [Hid,l7,hk,if_true]
    simp [hlt]
   rw [HE.out]
   generalize qF[2*n+1]=s at *
   have hc2:w.cell? ⟨3,n*2+1,none⟩=some (.string ⟨s.toArray⟩):=by rw [Nat.mul_comm];exact hc
   rw [hk] at HIS
   clear hk hT HE hc
   have hn:(n:Int)<9:=by omega
   have hn2:n<9:=by omega
   clear hk'
   go_enter func160,ntmps160
   go_wp2_with (go_at_call 130;refine (HIS.out _).mono ?_;rintro e w1 ⟨rfl,rfl⟩)
   go_ret
   exact ⟨rfl,rfl⟩
def bY (cur n below e:Int):Int:=if cur=0/\(n<0\/below<=n) then e else cur
theorem yX (n below e cur:Int) (O:Nat) (w:World) (hO:aB w O [ah cur] 28) :
 Calls ay 131 #[ah n,ah below,ah e,ak O] w fun x w'=>x = .returned (.tuple #[])/\aB w' O [ah (bY cur n below e)] 28/\aj (only O) w w':=by
 have c0:=hO.cell 0 rfl
 have f0:=hO.free 0
 have HO:=au hO
 clear hO
 by_cases h0:cur=0
 ·subst h0
  by_cases h1:n<0
  ·have HE:Hid (bY 0 n below e=e):=by simp [Hid,bY,h1]
   have h1':decide (n<0)=true:=cZ h1
   clear h1
   go_enter func131,ntmps131
   go_wp2
   go_end0
   exact ⟨rfl,by rw [HE.out];exact HO.out.set 0 _,(aj.refl _ _).put _ _⟩
  ·have h1':decide (n<0)=false:=dD h1
   by_cases h2:below<=n
   ·have HE:Hid (bY 0 n below e=e):=by simp [Hid,bY,h2]
    have h2':decide (below<=n)=true:=cZ h2
    clear h1 h2
    go_enter func131,ntmps131
    go_wp2
    go_end0
    exact ⟨rfl,by rw [HE.out];exact HO.out.set 0 _,(aj.refl _ _).put _ _⟩
   ·have HE:Hid (bY 0 n below e=0):=by unfold Hid bY;exact aO (by omega)
    have h2':decide (below<=n)=false:=dD h2
    clear h1 h2
    go_enter func131,ntmps131
    go_wp2
    go_end0
    exact ⟨rfl,by rw [HE.out];exact HO.out,aj.refl _ _⟩
 ·have HE:Hid (bY cur n below e=cur):=by simp [Hid,bY,h0]
  have h0':(cur==0)=false:=by simpa using h0
  clear h0
  go_enter func131,ntmps131
  go_wp2
  go_end0
  exact ⟨rfl,by rw [HE.out];exact HO.out,aj.refl _ _⟩
def eu (c:aS) (cur:Int) (l:UInt8) (n:Int):Int:=if l=114 then bY cur n c.r 5 else if l=99 then bY cur n c.c 9 else if l=115 then bY cur n 16 8 else cur
theorem Nv (c:aS) (l:UInt8) (n cur:Int) (B i O V C:Nat) (w:World) (hO:aB w O [ah cur] 28) (hV:aB w V [.func (.func 131) #[] #[ak O]] 189) (hC:aB w C c.cells 23) (hn:w.cell? ⟨B,i,none⟩=some (ah n)) :
 Calls ay 133 #[.int .u8 l.toNat,.pointer (some ⟨B,i,none⟩),ak V,ak C] w fun x w'=>x = .returned (.tuple #[])/\aB w' O [ah (eu c cur l n)] 28/\aj (only O) w w':=by
 have v0:=hV.cell 0 rfl
 have k3:w.cell? ⟨C,3,none⟩=some (ah c.r):=hC.cell 3 rfl
 have k4:w.cell? ⟨C,4,none⟩=some (ah c.c):=hC.cell 4 rfl
 have HO:=au hO
 clear hO hV hC
 by_cases h1:l=114
 ·subst h1
  have HE:Hid (eu c cur 114 n=bY cur n c.r 5):=by simp [Hid,eu]
  rw [HE.out]
  have HW:Hid (∀ w',aB w' O [ah cur] 28->_):=fun w' h=>yX n c.r 5 cur O w' h
  generalize bY cur n c.r 5=q at *
  generalize c.r=below at *
  go_enter func133,ntmps133
  go_wp2_with fail
  refine wp_region_still_tail 6 (by kernel_rfl) (by kernel_rfl) ?_
  change wpStill _ _ (abx _) _ _ _
  simp only [List.take_succ_cons,aby,abz,abt]
  repeat still_step
  refine wpStill_nil ?_
  change wpList _ _ _ _ _ w.drew
  go_wp2_with (go_at_call 131;refine (HW.out _ HO.out.drew).mono ?_;rintro e w1 ⟨rfl,hb,hk⟩)
  go_end0
  exact ⟨rfl,hb,(aj.refl _ _).drew.trans hk⟩
 by_cases h2:l=99
 ·subst h2
  have HE:Hid (eu c cur 99 n=bY cur n c.c 9):=by simp [Hid,eu]
  rw [HE.out]
  have HW:Hid (∀ w',aB w' O [ah cur] 28->_):=fun w' h=>yX n c.c 9 cur O w' h
  generalize bY cur n c.c 9=q at *
  generalize c.c=below at *
  clear h1
  go_enter func133,ntmps133
  go_wp2_with fail
  refine wp_region_still_tail 6 (by kernel_rfl) (by kernel_rfl) ?_
  change wpStill _ _ (abx _) _ _ _
  simp only [List.take_succ_cons,aby,abz,abt]
  repeat still_step
  refine wpStill_nil ?_
  change wpList _ _ _ _ _ w.drew
  go_wp2_with (go_at_call 131;refine (HW.out _ HO.out.drew).mono ?_;rintro e w1 ⟨rfl,hb,hk⟩)
  go_end0
  exact ⟨rfl,hb,(aj.refl _ _).drew.trans hk⟩
 by_cases h3:l=115
 ·subst h3
  have HE:Hid (eu c cur 115 n=bY cur n 16 8):=by simp [Hid,eu]
  rw [HE.out]
  have HW:Hid (∀ w',aB w' O [ah cur] 28->_):=fun w' h=>yX n 16 8 cur O w' h
  generalize bY cur n 16 8=q at *
  clear h1 h2 k3 k4
  go_enter func133,ntmps133
  go_wp2_with fail
  refine wp_region_still_tail 4 (by kernel_rfl) (by kernel_rfl) ?_
  change wpStill _ _ (abx _) _ _ _
  simp only [List.take_succ_cons,aby,abz,abt]
  repeat still_step
  refine wpStill_nil ?_
  change wpList _ _ _ _ _ w.drew
  go_wp2_with (go_at_call 131;refine (HW.out _ HO.out.drew).mono ?_;rintro e w1 ⟨rfl,hb,hk⟩)
  go_end0
  exact ⟨rfl,hb,(aj.refl _ _).drew.trans hk⟩
 have HE:Hid (eu c cur l n=cur):=by simp [Hid,eu,h1,h2,h3]
 rw [HE.out]
 have e1:((l.toNat:Int)==114)=false:=by
  rw [beq_eq_false_iff_ne]; intro h; exact h1 (UInt8.toNat_inj.1 (by have:l.toNat=114:=by omega
                                                                     simpa using this))
 have e2:((l.toNat:Int)==99)=false:=by
  rw [beq_eq_false_iff_ne]; intro h; exact h2 (UInt8.toNat_inj.1 (by have:l.toNat=99:=by omega
                                                                     simpa using this))
 have e3:((l.toNat:Int)==115)=false:=by
  rw [beq_eq_false_iff_ne]; intro h; exact h3 (UInt8.toNat_inj.1 (by have:l.toNat=115:=by omega
                                                                     simpa using this))
 clear h1 h2 h3 k3 k4
 generalize (l.toNat:Int)=li at *
 go_enter func133,ntmps133
 go_wp2_with fail
 go_end0
 exact ⟨rfl,HO.out,aj.refl _ _⟩
theorem Nw {w:World} {s:List UInt8} {aJ:Nat} {e:TypeId} {fr:Nat × Nat} {j:Nat} {l:UInt8} (h:s[j]?=some l):(w.alloc (.cells (bytesRow ⟨s.toArray⟩ aJ) e fr)).cell? ⟨w.heap.size,j,none⟩=some (.int .u8 l.toNat):=by
 have hj:=(abl.1 h).1
 have e1:(w.alloc (.cells (bytesRow ⟨s.toArray⟩ aJ) e fr)).heap[w.heap.size]?=some (.cells (bytesRow ⟨s.toArray⟩ aJ) e fr):=by
  show (w.heap.push _)[w.heap.size]?=_
  simp
 have e2:(bytesRow ⟨s.toArray⟩ aJ)[j]?=some (.int .u8 l.toNat):=by
  unfold bytesRow
  rw [Array.getElem?_append_left (by simpa using hj)]
  simp [h]
 unfold World.cell?
 simp only [e1]
 exact e2
theorem Hq (k:Int):(l7 k).length<=3:=by
 unfold l7
 split
 ·rename_i h
  simp [kD] at h
  obtain ⟨n,rfl⟩:∃ n:Nat,k=n:=⟨k.toNat,by omega⟩
  have hn:n<9:=by omega
  simp only [Int.toNat_natCast]
  have:∀ n,n<9->(qF.getD (2*n+1) []).length<=3:=by decide
  exact this n hn
 ·simp
theorem Ny (s:List UInt8) (w:World):∃ N aJ W1,(convert 9 213 (.string ⟨s.toArray⟩)).run ay w = .ok (.slice (some ⟨N,0,none⟩) s.length aJ) W1/\Hid (∀ j l,s[j]?=some l->W1.cell? ⟨N,j,none⟩=some (.int .u8 l.toNat))/\Hid (aj aA w W1)/\Hid (w.heap.size<=N):=by
 have h:=run_bytes_of_string (P:=ay) w 9 213 5 ⟨s.toArray⟩ (by kernel_rfl) (by kernel_rfl) (by kernel_rfl)
 have e:(⟨s.toArray⟩:ByteArray).size=s.length:=by simp [ByteArray.size]
 rw [e] at h
 exact ⟨_,_,_,h,fun j l hj=>Nw (w:=w.drew) hj,(aj.refl _ _).drew.alloc _,Nat.le_refl _⟩
theorem SG (f:FuncId) (caps:Array Value) (S:Nat->Prop) (I:Nat->World->Prop) (B:Nat) (k:Int) (w:World) (hT:gY w) (hB:w.cell? ⟨B,0,none⟩=some (ah k)) (h0:I 0 w)
 (hcf:∀ (args:Array Value) (w:World),(callFunc f args).run ay w = .ok (.enter f args) w)
 (hI:∀ j W W',I j W->aj aA W W'->I j W') (hS:∀ i,S i->i<w.heap.size)
 (hstep:∀ j l W,(l7 k)[j]?=some l->I j W->aj S w W->Calls ay f (#[.int .u8 l.toNat,.pointer (some ⟨B,j+1,none⟩)]++caps) W fun x W'=>x = .returned (.tuple #[])/\I (j+1) W'/\aj S W W') :
 Calls ay 132 #[ak B,.func (.func f) #[] caps] w fun x w'=>x = .returned (.tuple #[])/\I (l7 k).length w'/\aj S w w':=by
 obtain ⟨W0,hW0⟩:∃ W',W'=(w.alloc (.cells #[.pointer (some ⟨B,1,none⟩),.pointer (some ⟨B,2,none⟩),.pointer (some ⟨B,3,none⟩)] 212)).drew:=⟨_,rfl⟩
 have hk0:aj aA w W0:=by rw [hW0];exact ((aj.refl _ _).alloc _).drew
 have hb0:aB W0 w.heap.size [.pointer (some ⟨B,1,none⟩),.pointer (some ⟨B,2,none⟩),.pointer (some ⟨B,3,none⟩)] 212:=by rw [hW0];exact (aB.aW w _ _).drew
 obtain ⟨s,hs⟩:∃ s,s=l7 k:=⟨_,rfl⟩
 have HL:Hid (s.length<=3):=by rw [hs];exact Hq k
 have HU:=au (SE k W0 (hT.aH hk0))
 have hB0:=hk0.still hB
 rw [<- hs] at HU hstep ⊢
 obtain ⟨N,aJ,W1,hcv,HC,aZ,HN⟩:=Ny s W0
 have P8:Hid (w.heap.size<=N):=Nat.le_trans hk0.size HN.out
 have HI:=au hI
 have HS:=au hS
 have YR:=au hstep
 have H0:Hid (I 0 W1):=hI _ _ _ (hI _ _ _ h0 hk0) aZ.out
 have HB1:=au (aZ.out.aC hb0 (fun f=>f))
 have Xj:=au (hk0.trans aZ.out)
 clear hT hI hS hstep h0 hs HN hk0 hb0 hB
 go_enter func132,ntmps132
 go_wp2_with fail
 go_region
 rw [<- hW0]
 clear hW0
 go_wp2_with (go_at_call 160;refine HU.out.mono ?_;rintro e w1 ⟨rfl,rfl⟩)
 go_loopg [5,6,24] s.length (fun g i5 l6 i24 wr=>∃ j:Nat,g+j=s.length/\i24 = ah j/\Hid (I j wr)/\Hid (aj S W1 wr))
 case atStart=>exact ⟨0,rfl,rfl,H0,aj.refl _ _⟩
 case round =>
  obtain ⟨j,hg,rfl,HJ,P9⟩:=hrel
  clear H0
  by_cases hlt:j<s.length
  ·have hj3:j<3:=by have:=HL.out;omega
   have hltz:(j:Int)<s.length:=by omega
   have aaT:(j:Int)<3:=by omega
   have cl:=P9.out.jV (HC.out j _ (abr hlt)) (fun h=>absurd (HS.out _ h) (by have:=P8.out;simp;omega))
   have cp:wr.cell? ⟨w.heap.size,j,none⟩=some (.pointer (some ⟨B,j+1,none⟩)):=by
    refine P9.out.jV (HB1.out.cell j ?_) (fun h=>absurd (HS.out _ h) (by simp))
    rcases (by omega:j=0\/j=1\/j=2) with rfl|rfl|rfl<;>rfl
   have YS:=au (YR.out j _ wr (abr hlt) HJ.out ((Xj.out.mono (fun _ _ f=>f.elim)).trans P9.out))
   generalize s[j]=l at *
   clear hj3
   go_wp2_with (refine YS.out.mono ?_;rintro e w2 ⟨rfl,hj2,hk2⟩)
   have HJ2:=au hj2
   have bH:=au (P9.out.trans hk2)
   clear hj2 hk2
   go_roundg (gk - 1)
   case measure=>omega
   case rel=>exact ⟨j+1,by omega,by go_num,HJ2,bH⟩
  ·obtain rfl:j=s.length:=by omega
   have hge:¬ ((s.length:Int)<s.length):=by omega
   clear hg
   go_wp2_with fail
   go_end0
   exact ⟨rfl,HJ.out,(Xj.out.mono (fun _ _ f=>f.elim)).trans P9.out⟩
def qJ (o:bQ) (j:Nat):Int:=if j=0 then o.a else if j=1 then o.b else o.c
def oN (c:aS) (o:bQ):Nat->Int
 | 0=>0
 | j+1=>eu c (oN c o j) ((l7 o.k).getD j 0) (qJ o j)
def dG (c:aS) (o:bQ):Int:=if c.ok&&kD o.k then oN c o (l7 o.k).length else 1
structure EH (c:aS) (o:bQ) (C B O V:Nat) (j:Nat) (W:World):Prop where
 hc:aB W C c.cells 23
 hb:aB W B o.cells 45
 ho:aB W O [ah (oN c o j)] 28
 hv:aB W V [.func (.func 131) #[] #[ak O]] 189
theorem EH.later {c:aS} {o:bQ} {C B O V j:Nat} {W W':World} (h:EH c o C B O V j W) (k:aj aA W W'):EH c o C B O V j W' :=
 ⟨k.aC h.hc (fun f=>f),k.aC h.hb (fun f=>f),k.aC h.ho (fun f=>f),k.aC h.hv (fun f=>f)⟩
theorem EH.step {c:aS} {o:bQ} {C B O V j:Nat} {W:World} {l:UInt8} (h:EH c o C B O V j W) (hl:(l7 o.k)[j]?=some l) (hC:C≠O) (hB:B≠O) (hV:V≠O) :
 Calls ay 133 (#[.int .u8 l.toNat,.pointer (some ⟨B,j+1,none⟩)]++#[ak V,ak C]) W fun x W'=>x = .returned (.tuple #[])/\EH c o C B O V (j+1) W'/\aj (only O) W W':=by
 have hj3:j<3:=Nat.lt_of_lt_of_le (abl.1 hl).1 (Hq o.k)
 have hn:W.cell? ⟨B,j+1,none⟩=some (ah (qJ o j)):=by
  refine h.hb.cell (j+1) ?_
  rcases (by omega:j=0\/j=1\/j=2) with rfl|rfl|rfl<;>rfl
 refine (Nv c l (qJ o j) (oN c o j) B (j+1) O V C W h.ho h.hv h.hc hn).mono ?_
 rintro x W' ⟨rfl,hb,hk⟩
 have e:oN c o (j+1)=eu c (oN c o j) l (qJ o j):=by
  rw [oN,ace,hl];rfl
 exact ⟨rfl,⟨hk.aC h.hc hC,hk.aC h.hb hB,by rw [e];exact hb,hk.aC h.hv hV⟩,hk⟩
theorem EI (c:aS) (o:bQ) (w:World) (hT:gY w):Calls ay 105 #[.agg c.cells.toArray,.agg o.cells.toArray] w fun e w'=>e = .returned (ah (dG c o))/\aj aA w w':=by
 obtain ⟨W0,hW0⟩:∃ W',W'=(w.alloc (.cells c.cells.toArray 23)).alloc (.cells o.cells.toArray 45):=⟨_,rfl⟩
 have mO:Hid (aB W0 w.heap.size c.cells 23):=by rw [hW0];exact (aB.aW w _ _).alloc _
 have Cb:Hid (aB W0 (w.heap.size+1) o.cells 45):=by rw [hW0];have h:=aB.aW (w.alloc (.cells c.cells.toArray 23)) o.cells 45;simp only [abw] at h;exact h
 have jZ:Hid (aj aA w W0):=by rw [hW0];exact ((aj.refl _ _).alloc _).alloc _
 have HT:=au (hT.aH jZ.out)
 have HR:=au (vk c W0 HT.out)
 have HIS:=au (P7 o.k)
 clear hT
 have k0:W0.cell? ⟨w.heap.size,0,none⟩=some (ah c.b):=mO.out.cell 0 rfl
 have k1:W0.cell? ⟨w.heap.size,1,none⟩=some (ah c.w):=mO.out.cell 1 rfl
 have k2:W0.cell? ⟨w.heap.size,2,none⟩=some (ah c.m):=mO.out.cell 2 rfl
 have k3:W0.cell? ⟨w.heap.size,3,none⟩=some (ah c.r):=mO.out.cell 3 rfl
 have k4:W0.cell? ⟨w.heap.size,4,none⟩=some (ah c.c):=mO.out.cell 4 rfl
 have k5:W0.cell? ⟨w.heap.size,5,none⟩=some (ah c.l):=mO.out.cell 5 rfl
 have k6:W0.cell? ⟨w.heap.size,6,none⟩=some (ah c.s):=mO.out.cell 6 rfl
 have hcc:c.cells.toArray=#[ah c.b,ah c.w,ah c.m,ah c.r,ah c.c,ah c.l,ah c.s]:=rfl
 have hoc:o.cells.toArray=#[ah o.k,ah o.a,ah o.b,ah o.c]:=rfl
 rw [hcc,hoc] at hW0 ⊢
 rw [hcc] at HR
 clear hcc hoc
 go_enter func105,ntmps105
 go_wp2_with fail
 rw [<- hW0]
 clear hW0 k0 k1 k2 k3 k4 k5 k6
 refine HR.out.mono ?_
 rintro e w1 ⟨rfl,hk1⟩
 have nH:=au (hk1.aC mO.out (fun f=>f))
 have lD:=au (hk1.aC Cb.out (fun f=>f))
 have aZ:=au (jZ.out.trans hk1)
 have HT1:=au (HT.out.aH hk1)
 have sO:Hid (w.heap.size+2<=w1.heap.size):=by have h:=lD.out.lt;unfold Hid;omega
 clear hk1 mO Cb jZ HT HR
 cases hok:c.ok with
 | false =>
   have HE:Hid (dG c o=1):=by simp [Hid,dG,hok]
   clear hok
   go_wp2_with fail
   go_ret
   exact ⟨by rw [HE.out];rfl,aZ.out⟩
 | true =>
   cases hik:kD o.k with
   | false =>
     have HE:Hid (dG c o=1):=by simp [Hid,dG,hik]
     have d0:w1.cell? ⟨w.heap.size+1,0,none⟩=some (ah o.k):=lD.out.cell 0 rfl
     rw [hik] at HIS
     clear hok hik
     go_wp2_with (go_at_call 130;refine (HIS.out _).mono ?_;rintro e w1 ⟨rfl,rfl⟩)
     go_ret
     exact ⟨by rw [HE.out];rfl,aZ.out⟩
   | true =>
     have HE:Hid (dG c o=oN c o (l7 o.k).length):=by simp [Hid,dG,hok,hik]
     have d0:w1.cell? ⟨w.heap.size+1,0,none⟩=some (ah o.k):=lD.out.cell 0 rfl
     rw [hik] at HIS
     clear hok hik
     have hmf:∀ (fn:Fn) (first aJ:Array Value) (w:World),(Instr.makeFunc fn first aJ).run ay w = .ok (.func fn first aJ) w:=fun _ _ _ _=>rfl
     obtain ⟨W2,hW2⟩:∃ W',W'=(w1.alloc (.cells #[ah 0] 28)).alloc (.cells #[.func (.func 131) #[] #[ak w1.heap.size]] 189):=⟨_,rfl⟩
     have hk2:aj aA w1 W2:=by rw [hW2];exact ((aj.refl _ _).alloc _).alloc _
     have hO2:aB W2 w1.heap.size [ah 0] 28:=by rw [hW2];exact (aB.aW w1 _ _).alloc _
     have hV2:aB W2 (w1.heap.size+1) [.func (.func 131) #[] #[ak w1.heap.size]] 189:=by rw [hW2];have h:=aB.aW (w1.alloc (.cells #[ah 0] 28)) [.func (.func 131) #[] #[ak w1.heap.size]] 189;simp only [abw] at h;exact h
     have hI:EH c o w.heap.size (w.heap.size+1) w1.heap.size (w1.heap.size+1) 0 W2:=⟨hk2.aC nH.out (fun f=>f),hk2.aC lD.out (fun f=>f),hO2,hV2⟩
     have hsz:=sO.out
     have YT:=au (SG 133 #[ak (w1.heap.size+1),ak w.heap.size] (only w1.heap.size) (EH c o w.heap.size (w.heap.size+1) w1.heap.size (w1.heap.size+1)) (w.heap.size+1) o.k W2 (HT1.out.aH hk2) (hk2.still d0) hI
      (fun args w=>by simp [callFunc,func133,go_sem];rfl) (fun j W W' h k=>h.later k) (fun i hi=>by unfold only at hi;have:=hV2.lt;omega)
      (fun j l W hl h k=>h.step hl (by omega) (by omega) (by omega)))
     have bH:=au (aZ.out.trans hk2)
     clear hk2 hO2 hV2 hI hsz
     go_wp2_with (go_at_call 130;refine (HIS.out _).mono ?_;rintro e w1 ⟨rfl,rfl⟩)
     rw [<- hW2]
     clear hW2
     refine YT.out.mono ?_
     rintro e w3 ⟨rfl,ZC,hk3⟩
     have c3:=ZC.ho.cell 0 rfl
     have hK:=bH.out.jI hk3 (fun i hi h=>absurd hi (by unfold only at h;have:=sO.out;omega))
     clear ZC hk3
     go_wp2_with fail
     go_ret
     exact ⟨by rw [HE.out];rfl,hK⟩
end
section
structure Ev where
 Xk:Nat
 kind:Nat
 op:Nat
 code:Int
 value:Nat
deriving DecidableEq
structure Sh where
 H:HS
 B:Bd
 Q:Qu
 pJ:Bool
 eF:List (List Nat)
inductive RD where
 | field (base:Nat) (f:Int) (v:Nat)
 | cell (i:Int) (v:Nat)
inductive MD where
 | nil
 | gZ (o:bQ)
 | once (k:Int)
 | lX (v c:Nat) (t:MD)
 | add (v:Nat) (t:MD)
 | oG (c:Nat) (t:MD)
 | iD (c:Nat) (fresh:Bool) (t:MD)
 | mW (t:MD)
 | field (base:Nat) (f:Int) (t:MD)
 | load (o:bQ) (base:Nat)
 | get (o:bQ)
 | jC (v:Nat) (rd:RD)
 | last (rd:RD)
 | alloc (o:bQ) (k:Nat)
 | assign (o:bQ) (k:Nat)
 | iQ (o:bQ) (all:List Nat)
 | iK (o:bQ) (k:Nat)
 | ig (o:bQ) (k:Nat)
 | fD (sl:List Nat) (c:Nat) (t:MD)
 | fill (o:bQ) (a:Nat)
 | zero (o:bQ) (a i:Nat)
structure MS where
 id:Nat
 c:aS
 aI:List Nat
 bJ:List Nat
 gu:Nat
 bK:Nat
 dA:Nat
 prog:List bQ
 aU:List (Int × Nat)
 next:MD
 held:Nat
 aY:Nat
 most0:Nat
 most1:Nat
 lY:Bool
structure lZ where
 s:Sh
 m:MS
 next:MD
 ev:Option Ev
def Sh.box (s:Sh) (i:Nat):List Nat:=s.eF.getD i []
def mX (v c:Nat) (t:MD):MD:=if v=0 then t else .lX v c t
def MS.nJ (m:MS) (c:Nat) (t:MD):MD:=if m.bJ=[] then t else .oG c t
def MS.ni (m:MS) (v:Nat) (rd:RD):MD:=if m.gu=0 then .last rd else .jC v rd
def MS.did (m:MS) (code:Int) (v:Nat):MS:={ m with held:=0,aU:=m.aU++[(code,v)] }
def MS.ev (m:MS) (code:Int) (v:Nat):Ev:=⟨m.id,1,m.aU.length,code,v⟩
def iq (s:Sh) (m:MS) (code:Int) (v:Nat):lZ:=⟨s,m.did code v,.nil,some (m.ev code v)⟩
def jU (s:Sh) (m:MS) (r:Int) (v:Nat):lZ:=iq s { m with aI:=m.aI.set r.toNat v } 0 v
def jA (s:Sh) (m:MS) (base:Nat) (f:Int) (t:MD):lZ:=if base=0 then iq s m 6 0 else ⟨s,m,.field base f t,none⟩
def MS.fP (m:MS) (r:Int):Nat:=m.aI.getD r.toNat 0
def iC (o:bQ) (all:List Nat):MD:=if all.length=1 then .fill o (all.getD 0 0) else .iQ o all
def nT (s:Sh) (m:MS) (o:bQ):lZ :=
 if dG m.c o≠0 then iq s m (dG m.c o) 0
 else if o.k=1 then ⟨s,m,.alloc o (iG o.b),none⟩
 else if o.k=2 then jA s m (m.fP o.b) o.c (.load o (m.fP o.b))
 else if o.k=3 then jA s m (m.fP o.a) o.b (m.ni (m.fP o.c) (.field (m.fP o.a) o.b (m.fP o.c)))
 else if o.k=4 then ⟨s,m,.get o,none⟩
 else if o.k=5 then ⟨s,m,m.ni (m.fP o.b) (.cell o.a (m.fP o.b)),none⟩
 else if o.k=6 then iq s { m with aI:=m.aI.set o.a.toNat 0 } 0 0
 else if o.k=7 then jU s m o.a (m.fP o.b)
 else iq s m 0 0
def kY (m:MS) (k:Int):MS :=
 if k=1 then { m with bJ:=[],gu:=2,dA:=1 - m.bK }
 else if k=2 then m
 else if k=3 then { m with bK:=m.dA }
 else if k=5 then { m with gu:=1 }
 else { m with bJ:=[],gu:=0 }
def RD.read (H:HS):RD->Nat
 | .field base f _=>H.iE base f
 | .cell i _=>H.kW i
def RD.CV (H:HS):RD->HS
 | .field base f v=>H.dX base f v
 | .cell i v=>H.ng i v
def jo (l:List Nat):Nat:=l.headD 0
def stepM (s:Sh) (m:MS):MD->lZ
 | .nil=>⟨s,m,.nil,none⟩
 | .gZ o=>nT s m o
 | .once k=>⟨{ s with B:=s.B.rH m.id },kY m k,.nil,none⟩
 | .lX v c t =>
   if !s.H.bn v||s.H.ku v==c then ⟨s,m,t,none⟩
   else if m.bJ.length=m.c.l.toNat then ⟨s,m,m.nJ c (.add v t),none⟩
   else ⟨s,{ m with bJ:=m.bJ++[v] },t,none⟩
 | .add v t=>if m.bJ.length=m.c.l.toNat then ⟨s,m,t,none⟩ else ⟨s,{ m with bJ:=m.bJ++[v] },t,none⟩
 | .oG c t=>if s.box m.id=[] then ⟨{ s with eF:=s.eF.set m.id m.bJ },{ m with bJ:=[] },t,none⟩ else ⟨s,m,.iD c false t,none⟩
 | .iD c fresh t =>
   ⟨{ s with H:=s.H.iV (jo m.bJ) c },{ m with bJ:=m.bJ.tail },
    if m.bJ.tail≠[] then .iD c (fresh||s.H.jM (jo m.bJ) c) t else if (fresh||s.H.jM (jo m.bJ) c)=true then .mW t else t,none⟩
 | .mW t=>⟨{ s with pJ:=true },m,t,none⟩
 | .field base f t=>if f<0\/((s.H.gV base).1:Int)<=f then iq s m 7 0 else ⟨s,m,t,none⟩
 | .load o base=>jU s m o.a (s.H.iE base o.c)
 | .get o=>jU s m o.a (s.H.kW o.b)
 | .jC v rd=>⟨s,{ m with held:=rd.read s.H },mX (rd.read s.H) m.dA (if m.gu=2 then mX v m.dA (.last rd) else .last rd),none⟩
 | .last rd=>iq { s with H:=rd.CV s.H } m 0 0
 | .alloc o k=>if (s.H.dh k).2.1=0 then ⟨{ s with H:=(s.H.dh k).2.2 },m,.fill o (s.H.dh k).1,none⟩ else ⟨s,m,.assign o k,none⟩
 | .assign o k=>if (s.H.bT k).2.1=0 then ⟨{ s with H:=(s.H.bT k).2.2 },m,iC o (s.H.bT k).1,none⟩ else ⟨s,m,.iK o k,none⟩
 | .iQ o all=>⟨{ s with H:=s.H.fA (all.getD (all.length - 1) 0) },m,iC o (all.take (all.length - 1)),none⟩
 | .iK o k =>
   match s.Q.rw k with
   | []=>⟨s,m,.ig o k,none⟩
   | x::_=>⟨{ s with Q:=s.Q.take k },m,.fD (s.H.bZ x.toNat) m.bK (.ig o k),none⟩
 | .ig o k=>if (s.H.dh k).2.1=0 then ⟨{ s with H:=(s.H.dh k).2.2 },m,.fill o (s.H.dh k).1,none⟩ else iq s m 10 0
 | .fD sl c t =>
   match sl with
   | []=>⟨{ s with Q:=if s.Q.gU=0 then s.Q else s.Q.tN },m,t,none⟩
   | a::r=>if !s.H.bn a||s.H.ku a==c then ⟨s,m,.fD r c t,none⟩ else ⟨{ s with H:=s.H.lJ a },m,.fD r c t,some ⟨m.id,5,0,0,a⟩⟩
 | .fill o a=>⟨{ s with H:=s.H.jf a o.b },m,.zero o a 0,none⟩
 | .zero o a i=>if (i:Int)=o.b then jU { s with H:=s.H.iZ a m.bK } m o.a a else ⟨{ s with H:=s.H.dX a i 0 },m,.zero o a (i+1),none⟩
def qK (dA:Nat):List Nat->MD
 | [] => .once 3
 | v::l=>mX v dA (qK dA l)
def jg (s:Sh) (m:MS):MD :=
 if s.B.ji m.id then
  if s.B.kind=3 then qK m.dA m.aI
  else if s.B.kind=5 then m.nJ m.dA (.once 5)
  else .once s.B.kind
 else match m.prog[m.aU.length]? with
  | some o => .gZ o
  | none => .nil
def MS.most (m:MS):MS:=if m.lY then { m with most1:=max m.most1 m.aY } else { m with most0:=max m.most0 m.aY }
def dR:MD->Bool
 | .nil=>true
 | _=>false
def cu (s:Sh) (m:MS):Sh × MS × Option Ev :=
 if dR m.next then (s,{ m with aY:=1,lY:=s.B.ji m.id,next:=jg s m },none)
 else
  let r:=stepM s { m with aY:=m.aY+1 } m.next
  (r.s,if dR r.next then { r.m with next := .nil }.most else { r.m with next:=r.next },r.ev)
end
end Go.Proofs.YtobfpmijbfgmeabGreatDoor
