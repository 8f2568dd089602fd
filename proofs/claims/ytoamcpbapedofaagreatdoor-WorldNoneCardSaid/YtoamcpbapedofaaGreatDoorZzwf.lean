/- Parts of the fP. No conditions. -/
import Derived.Test.YtoamcpbapedofaaGreatDoorZzwe
namespace Go.Proofs.YtoamcpbapedofaaGreatDoor
open _root_.Go.IntWalk renaming i64_in->IG
open _root_.List renaming eq_of_mem_replicate->Iq,getD_eq_getElem?_getD->Ie,getElem?_eq_getElem->Hz,nodup_nil->II,pairwise_iff_getElem->IJ,replicate->Ht
open _root_.Nat renaming le_refl->Ho
open _root_.Go.Proofs.Tryz hiding prog
open _root_.Go.Proofs.Tryz renaming prog->ay
set_option maxRecDepth 8000
set_option maxHeartbeats 8000000
section
open Go.RowKit
structure CG where
 C:Nat
 K:Nat
def dX (G:bK) (q:CG) (c:CS) (ev:Option Ev) (nv:Value):List Value :=
 [aF G.S,ah (c.aJ:Int),ah (c.bG:Int),ah (c.cells:Int),ah (c.phase:Int),ah (c.aH:Int),ah (c.aW:Int),.bool c.eF,.bool c.ig,aF q.K,nv,ah (c.jJ:Int),ah (c.kT:Int)]++kK ev
def lg (o:Ow) (w:World) (K dA:Nat) (over:Bool) (l:List Nat):Prop :=
 ∃ v,aC w K [v,ah (dA:Int),.bool over] 214/\w.ownsRow 0 3 1 v l.length (fF l)/\∀ b,v.ownBlock=some b->o b=5
structure bC (o:Ow) (w:World) (G:bK) (q:CG) (s:Sh) (c:CS) (ev:Option Ev) (nv:Value):Prop where
 sh:aZ o w G s
 aO:aC w q.C (dX G q c ev nv) 153
 oC:o q.C=5
 bY:lg o w q.K c.dA c.over c.bY
 oK:o q.K=5
 box8:s.aP.length<=8
def dF:List Nat:=[1,2,3,4,5,10,11,12,13,14,15,16,17,40]
section
variable {o o':Ow} {w w':World} {G:bK} {q:CG} {s:Sh} {c:CS} {ev:Option Ev} {nv:Value}
theorem lg.aK {K dA:Nat} {over:Bool} {l:List Nat} {I:List Nat} (h:lg o w K dA over l) (hK:o K=5) (k:aj (In o I) w w') (hI:I.contains 5=false):lg o w' K dA over l:=by
 obtain ⟨v,h1,h2,h3⟩:=h
 exact ⟨v,h1.aK k hK hI,iP h2 k (fun b hb=>bP (h3 b hb) hI),h3⟩
theorem lg.ext {K dA:Nat} {over:Bool} {l:List Nat} (h:lg o w K dA over l) (e:aG w o o'):lg o' w K dA over l:=by
 obtain ⟨v,h1,h2,h3⟩:=h
 refine ⟨v,h1,h2,fun b hb=>?_⟩
 obtain ⟨cur,hc⟩:=qx h2 hb
 exact (e b (lt_of_block hc)).trans (h3 b hb)
theorem bC.pG {s':Sh} {I:List Nat} (h:bC o w G q s c ev nv) (k:aj (In o I) w w') (h5:I.contains 5=false) (hs:aZ o w' G s') (hl:s'.aP.length=s.aP.length):bC o w' G q s' c ev nv :=
 ⟨hs,h.aO.aK k h.oC h5,h.oC,h.bY.aK h.oK k h5,h.oK,by rw [hl];exact h.box8⟩
theorem bC.still (h:bC o w G q s c ev nv) (k:aj ak w w'):bC o w' G q s c ev nv:=by
 have k0:aj (In o []) w w':=k.bZ
 exact h.pG k0 rfl (h.sh.aK k0 rfl h.box8) rfl
theorem bC.gq (h:bC o w G q s c ev nv) (k:aj ak w w') (e:aG w o o') (hf:fV o' w'):bC o' w' G q s c ev nv:=by
 obtain ⟨v,hs1,_⟩:=id h.bY
 have e1:=(e _ h.aO.lt).trans h.oC
 have e2:=(e _ hs1.lt).trans h.oK
 have k0:aj (In o' []) w w':=k.bZ
 exact ⟨h.sh.move (I:=[]) k.bZ rfl h.box8 e hf,h.aO.aK k0 e1 rfl,e1,(h.bY.ext e).aK e2 k0 rfl,e2,h.box8⟩
theorem bC.BJ (h:bC o w G q s c ev nv):q.C≠q.K/\∀ v xs n,w.ownsRow 0 3 1 v n xs->v.ownBlock≠some q.C/\v.ownBlock≠some q.K:=by
 obtain ⟨v,hs1,_⟩:=id h.bY
 refine ⟨fun e=>?_,fun v xs n hr=>⟨iI h.aO hr (by decide),iI hs1 hr (by decide)⟩⟩
 have h1:=h.aO
 rw [e] at h1
 exact absurd (h1.gV hs1).2 (by decide)
theorem sh5 (h:aZ o w G s) (k:aj (In o [5]) w w') (h8:s.aP.length<=8):aZ o w' G s :=
 h.qp k rfl (h.qZ k rfl rfl) (h.pq.aB k (bP h.oB rfl)) (h.pz.aK k rfl h.oQ rfl) (h.jH.aK k h.oF rfl) rfl (h.yU k rfl (fun i hi=>by simp<;>omega))
theorem bC.struct (h:bC o w G q s c ev nv) (kC:aj (only q.C) w w') (c':CS) (ev':Option Ev) (qE:Value) (hc:aC w q.C (dX G q c ev nv) 153->aC w' q.C (dX G q c' ev' qE) 153)
 (e:c'.dA=c.dA/\c'.over=c.over/\c'.bY=c.bY):bC o w' G q s c' ev' qE/\aj (In o [5]) w w':=by
 have k:aj (In o [5]) w w':=kC.jA h.oC rfl
 obtain ⟨v,h1,h2,h3⟩:=id h.bY
 have ne:=h.BJ
 refine ⟨⟨sh5 h.sh k h.box8,hc h.aO,h.oC,?_,h.oK,h.box8⟩,k⟩
 rw [e.1,e.2.1,e.2.2]
 exact ⟨v,kC.aO h1 (fun e=>ne.1 e.symm),iP h2 kC (fun b hb e=>(ne.2 _ _ _ h2).1 (by rw [hb];exact congrArg some e)),h3⟩
theorem bC.put (h:bC o w G q s c ev nv) (i:Nat) (u:Value) (c':CS) (ev':Option Ev) (qE:Value) (hc:(dX G q c ev nv).set i u=dX G q c' ev' qE)
 (e:c'.dA=c.dA/\c'.over=c.over/\c'.bY=c.bY):bC o (w.setCell ⟨q.C,i,none⟩ u) G q s c' ev' qE/\aj (In o [5]) w (w.setCell ⟨q.C,i,none⟩ u) :=
 h.struct ((aj.refl _ _).put i u) c' ev' qE (fun hb=>by
  have:=hb.set i u
  rwa [hc] at this) e
theorem bC.cell (h:bC o w G q s c ev nv) (i:Nat) (u:Value) (hu:(dX G q c ev nv)[i]?=some u):w.cell? ⟨q.C,i,none⟩=some u:=h.aO.cell i hu
theorem bC.nU {B:Bd} (h:bC o w G q s c ev nv) (k:aj (only G.B) w w') (hB:dZ w' G.B B):bC o w' G q { s with B:=B } c ev nv/\aj (In o dF) w w':=by
 obtain ⟨h1,k1⟩:=h.sh.nU k hB
 exact ⟨h.pG k1 rfl h1 rfl,k1.qQ (by decide)⟩
theorem zT (k:aj (In o [5]) w w'):aj (In o dF) w w':=k.qQ (by decide)
def gK (o:Ow) (w:World) (G:bK) (q:CG) (nv0:Value) (r:fB) (e:Ending) (w':World):Prop :=
 ∃ o' nv,e = .returned nv/\aG w o o'/\bC o' w' G q r.s r.c r.ev nv0/\dD o' w' (G.D 0) q.C r.c.aH r.next nv/\aj (In o dF) w w'
theorem gK.same {r:fB} {nv nv0:Value} (h:bC o w' G q r.s r.c r.ev nv0) (hc:bV o w' q.C r.next nv) (k:aj (In o dF) w w'):gK o w G q nv0 r (.returned nv) w':=⟨o,nv,rfl,aG.refl _ _,h,dD.of hc,k⟩
theorem gK.after {r:fB} {e:Ending} {w1 w2:World} {nv0:Value} (k:aj (In o dF) w w1) (h:gK o w1 G q nv0 r e w2):gK o w G q nv0 r e w2:=by
 obtain ⟨o',nv,e1,e2,h1,h2,k2⟩:=h
 exact ⟨o',nv,e1,fun b hb=>e2 b (Nat.lt_of_lt_of_le hb k.size),h1,h2,k.trans k2⟩
end
end
section
attribute [local go_sem] Oper.semAt_some
open Go.RowKit
theorem bV.zU {o:Ow} {w:World} {C:Nat} {d:CD} {v:Value} (h:bV o w C d v):v = .nilFunc\/∃ fn first caps,v = .func (.func fn) first caps:=by
 rcases h.form with ⟨_,h⟩|⟨_,h⟩
 ·exact .inl h
 ·exact .inr h
section
variable {o:Ow} {w w':World}
theorem xA (hf:fV o w) (C:Nat) (m:Nat) {t:CD} {tv:Value} (ht:bV o w C t tv):Calls ay 342 #[au C,ah (m:Int),tv] w fun e w'=>∃ nv,e = .returned nv/\bV o w' C (.iW m t) nv/\aj ak w w':=by
 have hn:=sK (o:=o) [([aF C],42),([ah (m:Int)],3),([tv],151)] w hf
 have HE:Hid (bV o (lX w [([aF C],42),([ah (m:Int)],3),([tv],151)]) C (.iW m t) (.func (.func 345) #[] #[aF (w.heap.size),aF (w.heap.size+1),aF (w.heap.size+1+1)])/\aj ak w (lX w [([aF C],42),([ah (m:Int)],3),([tv],151)])):=by
  obtain ⟨b0,b1,b2,e,⟨o0,k0⟩,⟨o1,k1⟩,⟨o2,k2⟩⟩:=caps3 hn.1
  simp only [yX,List.cons.injEq] at e
  obtain ⟨rfl,rfl,rfl,_⟩:=e
  exact ⟨⟨tv,ht.still hn.2,[w.heap.size,w.heap.size+1,w.heap.size+1+1],rfl,_,_,rfl,o0,k0,_,_,rfl,o1,k1,_,_,rfl,o2,k2,rfl⟩,hn.2⟩
 have hmf:=BI
 have hform:=ht.zU
 clear hn hf ht
 rcases hform with rfl|⟨fn,first,caps,rfl⟩
 all_goals
  go_enter func342,ntmps342
  go_wp2_with fail
  go_ret
  exact ⟨_,rfl,HE.out.1,HE.out.2⟩
end
section
variable {o o':Ow} {w w':World} {G:bK} {q:CG} {s:Sh} {c:CS} {ev:Option Ev} {nv nv0:Value}
def mX (o:Ow) (w:World) (G:bK) (q:CG) (nv0:Value) (r:fB) (e:Ending) (w':World):Prop :=
 ∃ nv,e = .returned nv/\(nv = .nilFunc\/∃ fn first caps,nv = .func (.func fn) first caps)/\gK o w G q nv0 r (.returned nv) w'
theorem gK.toF {r:fB} {e:Ending} (h:gK o w G q nv0 r e w'):mX o w G q nv0 r e w':=by
 obtain ⟨o',nv,rfl,e1,h1,h2,k⟩:=h
 refine ⟨nv,rfl,?_,o',nv,rfl,e1,h1,h2,k⟩
 rcases h2.form with ⟨_,h⟩|⟨_,h⟩
 ·exact .inl h
 ·exact .inr h
theorem mX.made {f:Nat} {args:Array Value} {r:fB} {W:World} (h:bC o W G q r.s r.c r.ev nv0) (k:aj (In o dF) w W) (hc:Calls ay f args W fun e w'=>∃ nv,e = .returned nv/\bV o w' q.C r.next nv/\aj ak W w'):Calls ay f args W (mX o w G q nv0 r):=by
 refine hc.mono ?_
 rintro e w' ⟨nv,rfl,h1,k1⟩
 exact (gK.same (h.still k1) h1 (k.trans k1.bZ)).toF
theorem jC:dF.contains 0=false:=by decide
theorem aZ.sC (h:aZ o w G s):w.cell? ⟨G.S,0,none⟩=some (au (G.D 0))/\w.cell? ⟨G.S,1,none⟩=some (au G.B)/\w.cell? ⟨G.S,2,none⟩=some (au G.Q)/\w.cell? ⟨G.S,3,none⟩=some (au G.Fl):=by
 obtain ⟨v,h1,_⟩:=h.sh
 exact ⟨h1.cell 0 rfl,h1.cell 1 rfl,h1.cell 2 rfl,h1.cell 3 rfl⟩
theorem bC.c0 (h:bC o w G q s c ev nv):w.cell? ⟨q.C,0,none⟩=some (au G.S):=h.cell 0 _ rfl
theorem bC.free (h:bC o w G q s c ev nv) (i:Nat):w.frozen? ⟨q.C,i,none⟩=false:=h.aO.free i
theorem bC.aU (h:bC o w G q s c ev nv):∃ a b d e f x t,w.cell? ⟨q.C,13,none⟩=some a/\w.cell? ⟨q.C,14,none⟩=some b/\w.cell? ⟨q.C,15,none⟩=some d/\w.cell? ⟨q.C,16,none⟩=some e/\w.cell? ⟨q.C,17,none⟩=some f/\w.cell? ⟨q.C,18,none⟩=some x/\w.cell? ⟨q.C,19,none⟩=some t:=by
 obtain ⟨a,b,c',d,e,f,t,he⟩:=vY ev
 refine ⟨a,b,c',d,e,f,t,?_,?_,?_,?_,?_,?_,?_⟩
 all_goals
  refine h.cell _ _ ?_
  unfold dX
  rw [he]
  rfl
theorem xB (h:bC o w G q s c ev nv) (bM value:Nat):Calls ay 337 #[au q.C,ah (bM:Int),ah (value:Int)] w fun e w'=>e = .returned (.tuple #[])/\bC o w' G q s c (some (c.ev bM value)) nv/\aj (In o [5]) w w':=by
 have c1:w.cell? ⟨q.C,1,none⟩=some (ah (c.aJ:Int)):=h.cell 1 _ rfl
 obtain ⟨x0,x1,x2,x3,x4,x5,x6,e0,e1,e2,e3,e4,e5,e6⟩:=h.aU
 have f0:=h.free 13;have f1:=h.free 14;have f2:=h.free 15;have f3:=h.free 16;have f4:=h.free 17;have f5:=h.free 18;have f6:=h.free 19
 have k:aj (only q.C) w (((((((w.setCell ⟨q.C,13,none⟩ (ah 0)).setCell ⟨q.C,14,none⟩ (ah (c.aJ:Int))).setCell ⟨q.C,15,none⟩ (ah (bM:Int))).setCell ⟨q.C,16,none⟩ (ah 0)).setCell ⟨q.C,17,none⟩ (ah 0)).setCell ⟨q.C,18,none⟩ (ah (value:Int))).setCell ⟨q.C,19,none⟩ (.bool true)) :=
  (((((((aj.refl _ _).put _ _).put _ _).put _ _).put _ _).put _ _).put _ _).put _ _
 have HE:=aA (h.struct k c (some (c.ev bM value)) nv (fun hb=>by
  have:=((((((hb.set 13 (ah 0)).set 14 (ah (c.aJ:Int))).set 15 (ah (bM:Int))).set 16 (ah 0)).set 17 (ah 0)).set 18 (ah (value:Int))).set 19 (.bool true)
  obtain ⟨a,b,c',d,e,f,t,he⟩:=vY ev
  unfold dX at this ⊢
  rw [he] at this
  exact this) ⟨rfl,rfl,rfl⟩)
 generalize c.ev bM value=x at *
 generalize c.aJ=mi at *
 clear h k
 go_enter func337,ntmps337
 go_wp2_with fail
 go_end0
 exact ⟨rfl,HE.out.1,HE.out.2⟩
theorem xC (h:bC o w G q s c ev nv0) (p:Nat) {t:CD} {tv:Value} (ht:bV o w q.C t tv) (hc0:0<=s.B.count) (hc1:s.B.count<=1000000000):Calls ay 338 #[au q.C,ah (p:Int),tv] w (mX o w G q nv0 (jr s c p t ev)):=by
 have y4:=h.cell 4 _ rfl
 have f4:=h.free 4
 obtain ⟨W1,hW1⟩:∃ W1,W1=w.setCell ⟨q.C,4,none⟩ (ah (p:Int)):=⟨_,rfl⟩
 obtain ⟨h1,k1⟩:=h.put 4 (ah (p:Int)) { c with phase:=p } ev nv0 rfl ⟨rfl,rfl,rfl⟩
 rw [<- hW1] at h1 k1
 have y0:=h1.c0
 have s1:=h1.sh.sC.2.1
 have HB:Hid (Calls ay 341 #[au G.B,ah (p:Int)] W1 fun e w'=>(∃ er:Int,e = .returned (ah er))/\bC o w' G q (s.oU p) { c with phase:=p } ev nv0/\aj (In o dF) w w'):=by
  refine (vK G.B s.B (p:Int) W1 h1.sh.pq hc0 hc1).mono ?_
  rintro e w' ⟨rfl,g1,g2⟩
  obtain ⟨h2,k2⟩:=h1.nU g2 g1
  exact ⟨⟨_,rfl⟩,h2,(zT k1).trans k2⟩
 have DR:Hid (∀ W,bC o W G q (s.oU p) { c with phase:=p } ev nv0->aj (In o dF) w W->Calls ay 342 #[au q.C,ah 0,tv] W (mX o w G q nv0 (jr s c p t ev))):=fun W hW hk =>
  mX.made (r:=jr s c p t ev) hW hk (xA hW.sh.iF q.C 0 (ht.aK hk jC))
 have HW:=aA hW1
 have hform:=ht.zU
 rw [hW1] at y0 s1
 generalize c.phase=ph at *
 generalize jr s c p t ev=R at *
 clear h h1 k1 ht hW1 hc0 hc1
 rcases hform with rfl|⟨fn,first,caps,rfl⟩
 all_goals
  go_enter func338,ntmps338
  go_wp2_with fail
  rw [<- HW.out]
  refine HB.out.mono ?_
  rintro e w2 ⟨⟨er,rfl⟩,g1,g2⟩
  have H2:=aA (DR.out w2 g1 g2)
  clear g1 g2 y0 s1 y4 f4 HB DR
  go_wp2_with fail
  refine H2.out.mono ?_
  rintro e w3 ⟨nv,rfl,hf,hp⟩
  have HP:=aA hp
  clear hp H2
  rcases hf with rfl|⟨fn2,first2,caps2,rfl⟩
  all_goals
   go_wp2_with fail
   go_ret
   exact ⟨_,rfl,by first|exact .inl rfl|exact .inr ⟨_,_,_,rfl⟩,HP.out⟩
end
section
variable {o o':Ow} {w w':World} {G:bK} {q:CG} {s:Sh} {c:CS} {ev:Option Ev} {nv nv0:Value} {N:Nat}
def ru (o:Ow) (w:World) (G:bK) (q:CG) (r:fB) (w':World):Prop :=
 ∃ o' nv,aG w o o'/\bC o' w' G q r.s r.c r.ev nv/\dD o' w' (G.D 0) q.C r.c.aH r.next nv/\aj (In o dF) w w'
theorem gK.lD {r:fB} {nv:Value} (h:gK o w G q nv0 r (.returned nv) w'):ru o w G q r (w'.setCell ⟨q.C,10,none⟩ nv):=by
 obtain ⟨o',qE,e,eo,h1,h2,k⟩:=h
 cases e
 obtain ⟨h3,k3⟩:=h1.put 10 nv r.c r.ev nv rfl ⟨rfl,rfl,rfl⟩
 exact ⟨o',nv,eo,h3,h2.aK k3 rfl rfl,k.wY (zT k3) eo⟩
theorem gK.c10 {r:fB} {nv:Value} (h:gK o w G q nv0 r (.returned nv) w'):w'.cell? ⟨q.C,10,none⟩=some nv0/\w'.frozen? ⟨q.C,10,none⟩=false:=by
 obtain ⟨o',qE,e,eo,h1,h2,k⟩:=h
 exact ⟨h1.cell 10 _ rfl,h1.free 10⟩
theorem vZ (h:bC o w G q s c none nv0) (Gz:c.aH<2) (hcy:c.aW<=1000000000) (hc0:0<=s.B.count) (hc1:s.B.count<=1000000000):Calls ay 336 #[au q.C] w fun e w'=>e = .returned (.tuple #[])/\ru o w G q (fD s c) w':=by
 obtain ⟨W0,hW0⟩:∃ W',W'=w.alloc (.cells #[aF q.C] 42):=⟨_,rfl⟩
 have hk:aj ak w W0:=by rw [hW0];exact (aj.refl _ _).alloc _
 have hb:aC W0 w.heap.size [aF q.C] 42:=by rw [hW0];exact aC.aS w _ _
 have o0:o w.heap.size=0:=h.sh.iF _ (Ho _)
 have h0:=h.still hk
 obtain ⟨W1,hW1⟩:∃ W',W'=W0.setCell ⟨q.C,7,none⟩ (.bool false):=⟨_,rfl⟩
 obtain ⟨h1,k1⟩:=h0.put 7 (.bool false) { c with eF:=false } none nv0 rfl ⟨rfl,rfl,rfl⟩
 rw [<- hW1] at h1 k1
 obtain ⟨W2,hW2⟩:∃ W',W'=W1.setCell ⟨q.C,6,none⟩ (ah ((c.aW:Int)+1)):=⟨_,rfl⟩
 obtain ⟨h2,k2⟩:=h1.put 6 (ah ((c.aW:Int)+1)) { c with eF:=false,aW:=c.aW+1 } none nv0 (by show _=dX G q _ _ _;unfold dX;push_cast;rfl) ⟨rfl,rfl,rfl⟩
 rw [<- hW2] at h2 k2
 have k02:aj (In o [5]) W0 W2:=k1.trans k2
 have hb2:=hb.aK k02 o0 rfl
 have hw1:IntKind.i64.wrap ((c.aW:Int)+1)=(c.aW:Int)+1:=IG _ (by omega)
 have hw2:IntKind.i64.wrap (1 - (c.aH:Int))=1 - (c.aH:Int):=IG _ (by omega)
 have y7:=h0.cell 7 _ rfl
 have f7:=h0.free 7
 have z0:=hb.cell 0 (v := au q.C) rfl
 have y6:=h1.cell 6 _ rfl
 have f6:=h1.free 6
 have z1:=(hb.aK k1 o0 rfl).cell 0 (v := au q.C) rfl
 have y5:=h2.cell 5 _ rfl
 have f5:=h2.free 5
 have z2:=hb2.cell 0 (v := au q.C) rfl
 obtain ⟨W3,hW3⟩:∃ W',W'=(W2.setCell ⟨q.C,5,none⟩ (ah (1 - (c.aH:Int)))).drew:=⟨_,rfl⟩
 obtain ⟨c3,hc3⟩:∃ c':CS,c'={ c with eF:=false,aW:=c.aW+1,aH:=1 - c.aH }:=⟨_,rfl⟩
 obtain ⟨h3,k3⟩:=h2.put 5 (ah (1 - (c.aH:Int))) { c with eF:=false,aW:=c.aW+1,aH:=1 - c.aH } none nv0 (by show _=dX G q _ _ _;unfold dX;rw [show ((1 - c.aH:Nat):Int)=1 - (c.aH:Int) by omega];rfl) ⟨rfl,rfl,rfl⟩
 have kd3:aj ak (W2.setCell ⟨q.C,5,none⟩ (ah (1 - (c.aH:Int)))) W3:=by rw [hW3];exact (aj.refl ak _).drew
 have h3':=h3.still kd3
 have k03:aj (In o [5]) W0 W3:=(k02.trans k3).trans kd3.bZ
 have hb3:=hb.aK k03 o0 rfl
 have FD:aj (In o dF) w W3:=hk.bZ.trans (zT k03)
 rw [<- hc3] at h3'
 have x0:=hb3.cell 0 (v := au q.C) rfl
 have x6:W3.cell? ⟨q.C,6,none⟩=some (ah ((c.aW:Int)+1)):=by
  have:=h3'.cell 6 _ rfl
  rw [hc3] at this
  push_cast at this
  exact this
 have es:fD s c=jr s c3 1 .lS (some (c3.ev 2 (c.aW+1))):=by rw [hc3];rfl
 have HT:Hid (Calls ay 337 #[au q.C,ah 2,ah ((c.aW:Int)+1)] W3.drew fun e w'=>e = .returned (.tuple #[])/\bC o w' G q s c3 (some (c3.ev 2 (c.aW+1))) nv0/\w'.cell? ⟨w.heap.size,0,none⟩=some (au q.C)/\aj (In o dF) W0 w'):=by
  have kd:aj ak W3 W3.drew:=(aj.refl ak W3).drew
  have g:=xB (h3'.still kd) 2 (c.aW+1)
  rw [show ((c.aW+1:Nat):Int)=(c.aW:Int)+1 by push_cast;rfl] at g
  refine g.mono ?_
  rintro e w' ⟨rfl,g1,g2⟩
  have kk:=kd.bZ.trans g2
  exact ⟨rfl,g1,(hb3.aK kk o0 rfl).cell 0 rfl,zT (k03.trans kk)⟩
 have DT:Hid (∀ V,bC o V G q s c3 (some (c3.ev 2 (c.aW+1))) nv0->aj (In o dF) W0 V->Calls ay 338 #[au q.C,ah 1,.func (.func 339) #[] #[au w.heap.size]] V.drew fun e w'=>∃ fn first caps,e = .returned (.func (.func fn) first caps)/\w'.cell? ⟨q.C,10,none⟩=some nv0/\w'.frozen? ⟨q.C,10,none⟩=false/\w'.cell? ⟨w.heap.size,0,none⟩=some (au q.C)/\(w'.setCell ⟨q.C,10,none⟩ (.func (.func fn) first caps)).cell? ⟨w.heap.size,0,none⟩=some (au q.C)/\Hid (ru o w G q (fD s c) (w'.setCell ⟨q.C,10,none⟩ (.func (.func fn) first caps)))):=fun V hV0 EO=>by
  have hV:=hV0.still (aj.refl ak V).drew
  have DU:aj (In o dF) W0 V.drew:=EO.trans (aj.refl (In o dF) V).drew
  have DV:aC V.drew w.heap.size [aF q.C] 42:=hb.aK DU o0 jC
  have ht:bV o V.drew q.C .lS (.func (.func 339) #[] #[au w.heap.size]):=⟨[w.heap.size],rfl,_,_,rfl,o0,DV,rfl⟩
  have g:=xC hV 1 ht hc0 hc1
  rw [<- es] at g
  refine g.mono ?_
  rintro e w' ⟨nv,rfl,hf,hp⟩
  obtain ⟨o2,nv2,e2,eo2,h4,h5,k4⟩:=id hp
  cases e2
  have hfn:∃ fn first caps,nv = .func (.func fn) first caps:=by
   rcases h5.form with ⟨h6,_⟩|⟨_,h6⟩
   ·rw [es] at h6;cases h6
   ·exact h6
  obtain ⟨fn,first,caps,rfl⟩:=hfn
  have hb4:=DV.aK k4 o0 jC
  have hne:w.heap.size≠q.C:=fun e=>by
   have h9:=h.aO.lt
   rw [<- e] at h9
   exact absurd h9 (Nat.lt_irrefl _)
  exact ⟨fn,first,caps,rfl,hp.c10.1,hp.c10.2,hb4.cell 0 rfl,(hb4.iG (a:=⟨q.C,10,none⟩) hne _).cell 0 rfl,(hp.after (hk.bZ.trans DU)).lD⟩
 have HW0:=aA hW0
 have HW1:=aA hW1
 have HW2:=aA hW2
 have HW3:=aA hW3
 rw [hW0] at y7 f7 z0
 rw [hW1,hW0] at y6 f6 z1
 have hmf:=BI
 generalize fD s c=R at *
 generalize c3.ev 2 (c.aW+1)=aU at *
 generalize c.aW=cy at *
 generalize c.aH=co at *
 clear hW0 hW1 hW2 hW3 h h0 h1 h2 h3 h3' k1 k2 k02 k3 kd3 k03 FD hb hb2 hb3 hk es hc3
 go_enter func336,ntmps336
 go_wp2_with fail
 rw [<- HW0.out,<- HW1.out,<- HW2.out]
 go_region
 rw [<- HW3.out]
 clear y5 f5 z2 y6 f6 z1 y7 f7 z0
 go_wp2_with fail
 refine fQ 5 rfl (by kernel_rfl) (by kernel_rfl) (fun K hK=>?_)
 change wpStill _ _ (World.drew _) _ _ _
 simp only [List.take_succ_cons,List.take_zero,List.drop_succ_cons,List.drop_zero] at hK ⊢
 repeat still_step
 refine wpStill_nil ?_
 change ite _ (Oper.wp _ _ _ _ _ _) _
 go_simp
 refine HT.out.mono ?_
 rintro e w4 ⟨rfl,h4,x4,k4⟩
 refine hK _ _ ?_
 clear hK K
 have gQ:=aA (DT.out w4 h4 k4)
 clear h4 k4 HT DT x0 x6
 repeat still_step
 refine wpStill_nil ?_
 go_wp2_with fail
 go_region_held3 (fun W'=>W'.cell? ⟨w.heap.size,0,none⟩=some (au q.C))
  (first
   | exact x4
   | exact zs
   | exact zn
   | fail "kV")
  (first
   | (go_at_call 338
      refine gQ.out.mono ?_
      rintro e w5 ⟨fn,first,caps,rfl,y10,f10,zn,zs,hp⟩
      have HP:=aA hp.out
      clear hp)
   | fail "zV")
 all_goals
  go_end0
  exact ⟨rfl,HP.out⟩
end
section
variable {o:Ow} {w w':World} {G:bK} {g:MG} {s:Sh} {m:MS} {nv:Value} {ev:Option Ev}
theorem Aq:∀ w,(binOp .neq 151 .nilFunc .nilFunc).run ay w = .ok (.bool false) w:=fun w=>by first|rfl|(simp [binOp,go_sem];done)|(simp [binOp,go_sem];rfl)
end
def HS.aS (c:aI) (b ww nc:Nat):HS:=⟨c,b,ww,Ht (b*ww) 0,Ht b 0,[[],[],[],[]],fun _=>false,fun _=>false,Ht nc 0⟩
theorem wo (c:aI) (b ww nc:Nat) (h:b*ww<=1048576):AZ (HS.aS c b ww nc):=by
 have hrow:∀ k,(HS.aS c b ww nc).row k=[]:=fun k=>by
  match k with
  | 0=>rfl
  | 1=>rfl
  | 2=>rfl
  | 3=>rfl
  | n+4=>rfl
 have hz:∀ a,(HS.aS c b ww nc).jE a=0:=fun a=>by
  unfold HS.jE zF HS.aS
  split
  ·rw [Ie,List.getElem?_replicate]
   split<;>rfl
  ·rfl
 refine ⟨by simp [HS.aS],h,fun x hx=>?_,fun x hx=>?_,rfl,fun k _=>?_,fun k _=>?_,fun k _ a ha=>?_,fun a ha=>?_,fun a _ _ _ => .inl (hz a),fun x hx=>?_,fun a _ _ _=>hz a⟩
 ·rw [Iq hx];decide
 ·rw [Iq hx];decide
 ·rw [hrow];trivial
 ·rw [hrow];exact II
 ·rw [hrow] at ha;cases ha
 ·cases ha
 ·rw [Iq hx];exact Nat.zero_le _
theorem sN {w:World} {B X n:Nat} (h:dS w B X n (Ht ((n+63)/64) 0)):lW w B X n (fun _=>false) :=
 ⟨_,h,fun m=>by unfold sD;rw [uP];simp⟩
def lq (l:List Nat):Nat->Nat:=fun i=>l.getD i 0
theorem xE {l:List Nat} (hl:l.length=13) (hn:l.Nodup):∀ i j,i<13->j<13->lq l i=lq l j->i=j:=by
 intro i j hi hj e
 unfold lq at e
 rw [Ie,Hz (by omega),Ie,Hz (by omega)] at e
 simp only [Option.getD_some] at e
 rcases Nat.lt_trichotomy i j with h|h|h
 ·exact absurd e (IJ.1 hn i j (by omega) (by omega) h)
 ·exact h
 ·exact absurd e.symm (IJ.1 hn j i (by omega) (by omega) h)
theorem Ar (c:aI) (hok:c.ok=false) (w:World) (hT:dW w):Calls ay 103 #[.agg c.cells.toArray] w fun e w'=>e = .returned (.tuple #[.pointer none,ah 1])/\aj ak w w':=by
 obtain ⟨W0,hW0⟩:∃ W',W'=w.alloc (.cells c.cells.toArray 23):=⟨_,rfl⟩
 have HK:Hid (aj ak w W0):=by rw [hW0];exact (aj.refl _ _).alloc _
 have HR:=aA (lJ c W0 (hT.aB HK.out))
 rw [hok] at HR
 obtain ⟨c0,c1,c2,c3,c4,c5,c6⟩:=c
 simp only [aI.cells] at *
 clear hT hok
 go_enter func103,ntmps103
 go_wp2_with fail
 rw [<- hW0]
 clear hW0
 refine HR.out.mono ?_
 rintro e w1 ⟨rfl,hk1⟩
 have dI:=aA (HK.out.trans hk1)
 clear hk1 HR HK
 go_wp2_with fail
 go_ret2
 exact ⟨rfl,dI.out⟩
theorem Au (c:aI) (hok:c.ok=false) (w:World) (hT:dW w):Calls ay 73 #[.agg c.cells.toArray] w fun e w'=>e = .returned (.tuple #[.pointer none,ah 1])/\aj ak w w':=by
 obtain ⟨W0,hW0⟩:∃ W',W'=w.alloc (.cells c.cells.toArray 23):=⟨_,rfl⟩
 have HK:Hid (aj ak w W0):=by rw [hW0];exact (aj.refl _ _).alloc _
 have hN:Calls ay 103 #[.agg c.cells.toArray] W0 fun e w'=>e = .returned (.tuple #[.pointer none,ah 1])/\aj ak W0 w':=Ar c hok W0 (hT.aB HK.out)
 have HN:=aA hN
 have HB:=aA (show aC W0 w.heap.size c.cells 23 by rw [hW0];exact aC.aS w _ _)
 obtain ⟨c0,c1,c2,c3,c4,c5,c6⟩:=c
 simp only [aI.cells] at *
 clear hT hok hN
 go_enter func73,ntmps73
 go_wp2_with fail
 rw [<- hW0]
 clear hW0
 refine HN.out.mono ?_
 rintro e w1 ⟨rfl,hk1⟩
 have dI:=aA (HK.out.trans hk1)
 clear hk1 HN HK HB
 go_wp2_with fail
 go_ret2
 exact ⟨rfl,dI.out⟩
theorem Aw (c:aI) (b ww nc:Nat) (hok:c.ok=true) (hcb:c.b=b) (hcw:c.w=ww) (hcc:c.c=nc) (w:World) (hT:dW w) (hS:fJ w):Calls ay 73 #[.agg c.cells.toArray] w fun e w'=>∃ D,e = .returned (.tuple #[au (D 0),ah 0])/\dh w' D (HS.aS c b ww nc)/\(∀ i,i<13->w.heap.size<=D i)/\aj ak w w':=by
 have hn:=oq hok hcb hcw
 have jl:=dH hok
 have hnc:nc<=64:=by omega
 have hmk:∀ w:World,(Instr.makeSlice 57 (ah (nc:Int)) (ah (nc:Int))).run ay w = .ok (.slice (some ⟨w.heap.size,0,none⟩) nc nc) (w.alloc (.cells (bf (ah 0) nc).toArray 3)) :=
  fun w=>kE (P:=ay) (by kernel_rfl) Tryz.infoInt rfl (by decide) nc (by omega) _ rfl w
 obtain ⟨W0,hW0⟩:∃ W',W'=w.alloc (.cells c.cells.toArray 23):=⟨_,rfl⟩
 have HK:Hid (aj ak w W0):=by rw [hW0];exact (aj.refl _ _).alloc _
 have HN:=aA (Am c b hok hcb W0 (hT.aB HK.out))
 have HB:=aA (show aC W0 w.heap.size c.cells 23 by rw [hW0];exact aC.aS w _ _)
 have ni:Hid (W0.heap.size=w.heap.size+1):=by rw [Hid,hW0];simp
 have BK:Hid (∀ W,aj ak w W->Calls ay 104 #[.agg c.cells.toArray] W fun e w'=>e = .returned (ah ((b*ww:Nat):Int))/\aj ak W w'):=fun W hW=>ou hok hcb hcw W (hT.aB hW)
 have BL:Hid (∀ W,Calls ay 105 #[ah ((b*ww:Nat):Int)] W fun e w'=>∃ R X,e = .returned (.tuple #[au R,ah 0])/\dP w' R X (Ht (b*ww) 0)/\W.heap.size<=R/\W.heap.size<=X/\aj ak W w'):=fun W=>yR (b*ww) (by have:=Nat.mul_le_mul hn.1 hn.2.2.1;omega) hn.2.2.2.2 W
 have jO:Hid (∀ W aR aX tR tX,dP W aR aX (Ht (b*ww) 0)->eu W tR tX c (Ht b 0)->aj ak w W->Calls ay 106 #[au aR,au tR] W fun e w'=>∃ L iR iX,e = .returned (.tuple #[au L,ah 0])/\dU w' L iR iX aR tR (b*ww+1) (Ht ((b*ww+1+63)/64) 0) [0,0,0,0]/\W.heap.size<=L/\W.heap.size<=iR/\W.heap.size<=iX/\aj ak W w'):=fun W aR aX tR tX hA uQ hW =>
  Ap hA uQ hcb hcw (by simp) (hT.aB hW)
 have bH:Hid (∀ W,Calls ay 107 #[ah (((b*ww:Nat):Int)+1)] W fun e w'=>∃ B X,e = .returned (.tuple #[au B,ah 0])/\dS w' B X (b*ww+1) (Ht ((b*ww+1+63)/64) 0)/\W.heap.size<=B/\W.heap.size<=X/\aj ak W w'):=fun W=>by
  have h9:=sF (b*ww+1) (by omega) W
  rw [show (((b*ww+1:Nat):Nat):Int)=((b*ww:Nat):Int)+1 by omega] at h9
  exact h9
 have BM:=aA (wo c b ww nc hn.2.2.2.2)
 have uS:Hid (dW w/\fJ w):=⟨hT,hS⟩
 have EP:((b*ww:Nat):Int)<=1048576:=by omega
 have hwr:IntKind.i64.wrap (((b*ww:Nat):Int)+1)=((b*ww:Nat):Int)+1:=IG _ (by omega)
 obtain ⟨NN,hNN⟩:∃ NN,NN=b*ww:=⟨_,rfl⟩
 have xG:=aA hNN
 rw [<- hNN] at BK BL jO bH EP hwr
 obtain ⟨c0,c1,c2,c3,c4,c5,c6⟩:=c
 simp only at hcb hcw hcc
 subst hcb
 subst hcw
 subst hcc
 simp only [aI.cells] at *
 clear hT hS hok hn jl hNN
 go_enter func73,ntmps73
 go_wp2_with fail
 rw [<- hW0]
 clear hW0
 refine HN.out.mono ?_
 rintro e w1 ⟨tR,tX,rfl,ht,t1,t2,hk1⟩
 have HT1:=aA ht
 have DW:Hid (w.heap.size+1<=tR/\w.heap.size+1<=tX/\tR≠tX/\tR<w1.heap.size/\tX<w1.heap.size):=by have h9:=ni.out;exact ⟨by omega,by omega,ht.ne,ht.aO.lt,ht.wZ.lt⟩
 have dI:=aA (HK.out.trans hk1)
 have HB1:=aA (hk1.aO HB.out (fun f=>f))
 have y0:=HB1.out.cell 0 rfl;have y1:=HB1.out.cell 1 rfl;have y2:=HB1.out.cell 2 rfl;have y3:=HB1.out.cell 3 rfl;have y4:=HB1.out.cell 4 rfl;have y5:=HB1.out.cell 5 rfl;have y6:=HB1.out.cell 6 rfl
 clear ht t1 t2 hk1 HN HK HB
 have BN:=aA (BK.out _ dI.out)
 go_wp2_with fail
 refine BN.out.mono ?_
 rintro e w2 ⟨rfl,hk2⟩
 have cu:=aA (dI.out.trans hk2)
 have HT2:=aA (HT1.out.still hk2)
 have HB2:=aA (hk2.aO HB1.out (fun f=>f))
 have HS2:Hid (w1.heap.size<=w2.heap.size):=hk2.size
 clear hk2 BN BK HT1 HB1 y0 y1 y2 y3 y4 y5 y6
 go_wp2_with fail
 refine (BL.out _).mono ?_
 rintro e w3 ⟨aR,aX,rfl,ha,a1,a2,hk3⟩
 have jP:=aA (cu.out.trans hk3)
 have HT3:=aA (HT2.out.still hk3)
 have HB3:=aA (hk3.aO HB2.out (fun f=>f))
 have BO:=aA ha
 have DX:Hid (w2.heap.size<=aR/\w2.heap.size<=aX/\aR≠aX/\aR<w3.heap.size/\aX<w3.heap.size):=⟨a1,a2,ha.ne,by obtain ⟨_,_,h9⟩:=ha.aO;exact h9.lt,ha.jv.lt⟩
 clear hk3 ha a1 a2 HT2 HB2
 have BP:=aA (jO.out _ _ _ _ _ BO.out HT3.out jP.out)
 go_wp2_with fail
 refine BP.out.mono ?_
 rintro e w4 ⟨L,iR,iX,rfl,hl,l1,l2,l3,hk4⟩
 have gQ:=aA (jP.out.trans hk4)
 have HT4:=aA (HT3.out.still hk4)
 have HB4:=aA (hk4.aO HB3.out (fun f=>f))
 have DY:=aA (BO.out.still hk4)
 have qF:=aA hl
 have DZ:Hid (w3.heap.size<=L/\w3.heap.size<=iR/\w3.heap.size<=iX/\L≠iR/\L≠iX/\iR≠iX/\L<w4.heap.size/\iR<w4.heap.size/\iX<w4.heap.size):=⟨l1,l2,l3,hl.ne.1,hl.ne.2,hl.set.ne,hl.lt,by obtain ⟨_,h9⟩:=hl.set.aO;exact h9.lt,by obtain ⟨_,h9,_⟩:=hl.set.jv;exact h9.lt⟩
 clear hk4 hl l1 l2 l3 HT3 HB3 BO BP jO
 go_wp2_with fail
 refine (bH.out _).mono ?_
 rintro e w5 ⟨bR,bX,rfl,hs,s1,s2,hk5⟩
 have BQ:=aA (gQ.out.trans hk5)
 have D5:=aA (HT4.out.still hk5)
 have BR:=aA (hk5.aO HB4.out (fun f=>f))
 have D6:=aA (DY.out.still hk5)
 have D7:=aA (qF.out.still hk5)
 have BU:=aA hs
 have D8:Hid (w4.heap.size<=bR/\w4.heap.size<=bX/\bR≠bX/\bR<w5.heap.size/\bX<w5.heap.size):=⟨s1,s2,hs.ne,by obtain ⟨_,h9⟩:=hs.aO;exact h9.lt,by obtain ⟨_,h9,_⟩:=hs.jv;exact h9.lt⟩
 clear hk5 hs s1 s2 HT4 HB4 DY qF
 have FH:Hid (∀ W,aj ak w5 W->Calls ay 108 #[au bR] W fun e w'=>∃ B' X',e = .returned (au B')/\dS w' B' X' (NN+1) (Ht ((NN+1+63)/64) 0)/\W.heap.size<=B'/\W.heap.size<=X'/\aj ak W w'):=fun W hW=>xw (BU.out.still hW) (by omega)
 have eY:Hid (∀ cR cX cl d0 W,aj ak w5 W->dS W cR cX (NN+1) (Ht ((NN+1+63)/64) 0)->aC W cl (fF (Ht nc 0)) 3->aC W d0 [au aR,au tR,au L,au bR,au cR,.slice (some ⟨cl,0,none⟩) nc nc] 202 ->
  w5.heap.size<=cR->w5.heap.size<=cX->w5.heap.size<=cl->w5.heap.size<=d0->cl≠cX ->
  dh W (lq [d0,aR,aX,tR,tX,L,iR,iX,bR,bX,cR,cX,cl]) (HS.aS ⟨b,ww,c2,c3,nc,c5,c6⟩ b ww nc)/\∀ i,i<13->w.heap.size<=lq [d0,aR,aX,tR,tX,L,iR,iX,bR,bX,cR,cX,cl] i):=by
  intro cR cX cl d0 W hW hc hcl hd g1 g2 g3 g4 g5
  have q1:=DW.out;have q2:=HS2.out;have q3:=DX.out;have q4:=DZ.out;have q5:=D8.out
  have q6:=hc.ne
  have q7:d0≠cR:=fun e=>by obtain ⟨_,h9⟩:=hc.aO;rw [e] at hd;exact absurd (hd.gV h9).2 (by decide)
  have q8:d0≠cX:=fun e=>by obtain ⟨_,h9,_⟩:=hc.jv;rw [e] at hd;exact absurd (hd.gV h9).2 (by decide)
  have q9:d0≠cl:=fun e=>by rw [e] at hd;exact absurd (hd.gV hcl).2 (by decide)
  have q10:cl≠cR:=fun e=>by obtain ⟨_,h9⟩:=hc.aO;rw [e] at hcl;exact absurd (hcl.gV h9).2 (by decide)
  have hge:∀ i,i<13->w.heap.size+1<=lq [d0,aR,aX,tR,tX,L,iR,iX,bR,bX,cR,cX,cl] i:=by
   intro i hi
   match i,hi with
   | 0,_=>show _<=d0;omega
   | 1,_=>show _<=aR;omega
   | 2,_=>show _<=aX;omega
   | 3,_=>show _<=tR;omega
   | 4,_=>show _<=tX;omega
   | 5,_=>show _<=L;omega
   | 6,_=>show _<=iR;omega
   | 7,_=>show _<=iX;omega
   | 8,_=>show _<=bR;omega
   | 9,_=>show _<=bX;omega
   | 10,_=>show _<=cR;omega
   | 11,_=>show _<=cX;omega
   | 12,_=>show _<=cl;omega
  have hkW:=BQ.out.trans hW
  have gl:2<w.heap.size/\1<w.heap.size/\11<w.heap.size :=
   ⟨uS.out.1.lt.1,uS.out.1.lt.2,uS.out.2.lt⟩
  refine ⟨⟨xE rfl ?_,?_,?_,D5.out.still hW,⟨Ht ((NN+1+63)/64) 0,?_,?_⟩,?_,?_,hcl,rfl,rfl,?_,BM.out,uS.out.1.aB hkW,uS.out.2.aB hkW,fun i hi=>?_⟩,fun i hi=>by have:=hge i hi;omega⟩
  ·simp only [List.nodup_cons,List.mem_cons,List.not_mem_nil,or_false,not_or,II,and_true,not_false_eq_true]
   clear hd hcl hc hW hkW hge gl
   refine ⟨⟨?_,?_,?_,?_,?_,?_,?_,?_,?_,?_,?_,?_⟩,⟨?_,?_,?_,?_,?_,?_,?_,?_,?_,?_,?_⟩,⟨?_,?_,?_,?_,?_,?_,?_,?_,?_,?_⟩,⟨?_,?_,?_,?_,?_,?_,?_,?_,?_⟩,⟨?_,?_,?_,?_,?_,?_,?_,?_⟩,⟨?_,?_,?_,?_,?_,?_,?_⟩,⟨?_,?_,?_,?_,?_,?_⟩,⟨?_,?_,?_,?_,?_⟩,⟨?_,?_,?_,?_⟩,⟨?_,?_,?_⟩,⟨?_,?_⟩,?_⟩<;>omega
  ·show aC W d0 _ _
   simpa [HS.aS,lq] using hd
  ·show dP W aR aX (Ht (b*ww) 0)
   rw [<- xG.out];exact D6.out.still hW
  ·show dU W L iR iX aR tR (b*ww+1) _ [0,0,0,0]
   rw [<- xG.out];exact D7.out.still hW
  ·intro m
   show sD (b*ww+1) _ _=false
   unfold sD
   rw [uP];simp
  ·show lW W bR bX (b*ww+1) (fun _=>false)
   rw [<- xG.out];exact sN (BU.out.still hW)
  ·show lW W cR cX (b*ww+1) (fun _=>false)
   rw [<- xG.out];exact sN hc
  ·show (nc:Int)=((Ht nc 0).length:Int)
   simp
  ·have h9:=hge i hi
   exact ⟨by omega,by omega,by omega⟩
 have lu:Hid (∀ W,aj ak w5 W->W.cell? ⟨w.heap.size,4,none⟩=some (ah (nc:Int))):=fun W hW=>hW.still (BR.out.cell 4 rfl)
 have y4:=lu.out w5 (aj.refl _ _)
 have zW:=aA BQ.out
 clear BQ D5 BR D6 D7 BU D8 DZ DX HS2 DW BM uS gQ jP cu dI bH BL xG ni
 go_wp2_with fail
 go_region_held3 (fun w'=>w'.cell? ⟨w.heap.size,4,none⟩=some (ah (nc:Int)))
  (first | exact lu.out _ (aj.refl _ _) | exact lu.out _ (aj.refl _ _).drew | exact lu.out _ ((aj.refl _ _).alloc _) | exact lu.out _ ((aj.refl _ _).alloc _).drew | exact lu.out _ ((aj.refl _ _).drew.alloc _) | exact lu.out _ pJ.out | exact lu.out _ (pJ.out.alloc _) | exact lu.out _ ((pJ.out.alloc _).alloc _) | fail "kV")
  ((go_at_call 108
    refine (FH.out _ (by first | exact (aj.refl _ _).drew | exact ((aj.refl _ _).alloc _).drew | exact (aj.refl _ _).drew.alloc _ | fail "zV")).mono ?_
    rintro e w6 ⟨cR,cX,rfl,hc,g1,g2,hk6⟩
    have xH:=aA hc
    have D9:=aA (And.intro g1 g2)
    have ER:=aA hk6
    have pJ : Hid (aj ak w5 w6) := by first | exact (aj.refl _ _).drew.trans hk6 | exact ((aj.refl _ _).alloc _).drew.trans hk6 | exact ((aj.refl _ _).drew.alloc _).trans hk6 | fail "Gx"
    clear hc g1 g2 hk6))
 all_goals
  go_wp2_with fail
  go_ret2
 ·
  have hz:bf (ah 0) nc=fF (Ht nc 0):=by simp [bf,fF]
  have hs5:=pJ.out.size
  have k7:aj ak w6 ((w6.alloc (.cells (bf (ah 0) nc).toArray 3)).alloc (.cells #[au aR,au tR,au L,au bR,au cR,.slice (some ⟨w6.heap.size,0,none⟩) nc nc] 202)):=((aj.refl _ _).alloc _).alloc _
  have hcl:=(aC.aS w6 (bf (ah 0) nc) 3).alloc (.cells #[au aR,au tR,au L,au bR,au cR,.slice (some ⟨w6.heap.size,0,none⟩) nc nc] 202)
  have hd:=aC.aS (w6.alloc (.cells (bf (ah 0) nc).toArray 3)) [au aR,au tR,au L,au bR,au cR,.slice (some ⟨w6.heap.size,0,none⟩) nc nc] 202
  rw [World.size_alloc] at hd
  have hlt:cX<w6.heap.size:=by obtain ⟨_,h9,_⟩:=xH.out.jv;exact h9.lt
  have g6:=D9.out
  have sO:=eY.out cR cX w6.heap.size (w6.heap.size+1) _ (pJ.out.trans k7) (xH.out.still k7) (by rw [<- hz];exact hcl) hd (by first|omega|exact g6.1|(have:=g6.1;simp at this;omega)) (by first|omega|exact g6.2|(have:=g6.2;simp at this;omega)) hs5 (by omega) (by omega)
  exact ⟨_,rfl,sO.1,sO.2,zW.out.trans (pJ.out.trans k7)⟩
 ·
  have hz:bf (ah 0) nc=fF (Ht nc 0):=by simp [bf,fF]
  have hs5:=pJ.out.size
  have k7:aj ak w6 (w6.alloc (.cells #[au aR,au tR,au L,au bR,au cR,.slice (some ⟨w5.heap.size,0,none⟩) nc nc] 202)):=(aj.refl _ _).alloc _
  have hcl0:=(ER.out.aO ((aC.aS w5 (bf (ah 0) nc) 3).drew) (fun f=>f))
  have hcl:=hcl0.alloc (.cells #[au aR,au tR,au L,au bR,au cR,.slice (some ⟨w5.heap.size,0,none⟩) nc nc] 202)
  have hd:=aC.aS w6 [au aR,au tR,au L,au bR,au cR,.slice (some ⟨w5.heap.size,0,none⟩) nc nc] 202
  have g6:=D9.out
  have g61:w5.heap.size+1<=cR:=by have:=g6.1;simpa using this
  have g62:w5.heap.size+1<=cX:=by have:=g6.2;simpa using this
  have sO:=eY.out cR cX w5.heap.size w6.heap.size _ (pJ.out.trans k7) (xH.out.still k7) (by rw [<- hz];exact hcl) hd (by omega) (by omega) (Ho _) hs5 (by omega)
  exact ⟨_,rfl,sO.1,sO.2,zW.out.trans (pJ.out.trans k7)⟩
end
section
def Sh.aS (c:aI) (b ww nc n:Nat):Sh:=⟨HS.aS c b ww nc,Bd.aS (n:Int),⟨[[],[],[],[]],0⟩,false,Ht n []⟩
def MS.aS (c:aI) (id:Nat) (prog:List bI):MS:=⟨id,c,Ht c.r.toNat 0,[],0,0,0,prog,[],.nil,0,0,0,0,false⟩
theorem mZ.first {s:Sh} {c:aI} (id:Nat) (prog:List bI) (hq:eH s) (ho:s.Q.bg=0) (hr:0<=c.r):mZ 0 s (MS.aS c id prog) :=
 ⟨(by show 0<2;decide),(by show 0<2;decide),by omega,by simp [MS.aS],hq,Ho _,by simp only [MS.aS,List.length_replicate];omega,trivial⟩
section
variable {H:HS}
theorem uT (k:Nat):(H.iJ k).2.2.ww=H.ww/\(H.iJ k).2.2.c=H.c:=by unfold HS.iJ;split<;>exact ⟨rfl,rfl⟩
theorem xI (a:Nat):(H.nN a).ww=H.ww/\(H.nN a).c=H.c:=by
 unfold HS.nN
 split
 ·exact ⟨rfl,rfl⟩
 ·split<;>exact ⟨rfl,rfl⟩
theorem yY (a:Nat) (f:Int):(H.kF a f).ww=H.ww/\(H.kF a f).c=H.c:=by
 unfold HS.kF
 split
 ·exact ⟨rfl,rfl⟩
 ·split<;>exact ⟨rfl,rfl⟩
theorem Az (a c:Nat):(H.mM a c).ww=H.ww/\(H.mM a c).c=H.c:=by unfold HS.mM;split<;>exact ⟨rfl,rfl⟩
theorem qj (a:Nat):(H.jS a).ww=H.ww/\(H.jS a).c=H.c:=by
 unfold HS.jS
 split
 ·exact xI (H:=H.Ba a) a
 ·exact ⟨rfl,rfl⟩
theorem sQ (a:Nat) (f:Int) (v:Nat):(H.jF a f v).ww=H.ww/\(H.jF a f v).c=H.c:=by unfold HS.jF;split<;>exact ⟨rfl,rfl⟩
theorem BX (i:Int) (v:Nat):(H.qc i v).ww=H.ww/\(H.qc i v).c=H.c:=by unfold HS.qc;split<;>exact ⟨rfl,rfl⟩
theorem nV (a c:Nat):(H.jg a c).ww=H.ww/\(H.jg a c).c=H.c:=by unfold HS.jg;split<;>exact ⟨rfl,rfl⟩
theorem xJ (k:Nat):(H.iE k).2.2.ww=H.ww/\(H.iE k).2.2.c=H.c:=by unfold HS.iE;split<;>exact ⟨rfl,rfl⟩
theorem Dy (rd:RD):(rd.qU H).ww=H.ww/\(rd.qU H).c=H.c:=by
 cases rd with
 | bU b f v=>exact sQ b f v
 | cell i v=>exact BX i v
end
section
variable {s:Sh} {m:MS}
end
end
section
attribute [local go_sem] Oper.semAt_some
open Go.RowKit
def dB (o:Ow) (w:World) (G:bK) (q:CG) (s:Sh) (c:CS):Prop:=∃ ev nv,bC o w G q s c ev nv/\dD o w (G.D 0) q.C c.aH c.next nv
def kL (o:Ow) (w:World) (G:bK) (q:CG) (s:Sh) (c:CS):Ending->World->Prop:=fun e w'=>∃ o',e = .returned (.tuple #[kZ (bJ s c).ev,jM (bJ s c).ev])/\aG w o o'/\dB o' w' G q (bJ s c).s (bJ s c).c/\aj (In o dF) w w'
section
variable {o o':Ow} {w w':World} {G:bK} {q:CG} {s:Sh} {c:CS} {ev:Option Ev} {nv nv0:Value} {N:Nat}
def lY (w:World) (M:Nat):World:=((((((w.setCell ⟨M,13,none⟩ (ah 0)).setCell ⟨M,14,none⟩ (ah 0)).setCell ⟨M,15,none⟩ (ah 0)).setCell ⟨M,16,none⟩ (ah 0)).setCell ⟨M,17,none⟩ (ah 0)).setCell ⟨M,18,none⟩ (ah 0)).setCell ⟨M,19,none⟩ (.bool false)
theorem bC.BZ (h:bC o w G q s c ev nv):bC o (lY w q.C) G q s c none nv/\aj (In o [5]) w (lY w q.C):=by
 have k:aj (only q.C) w (lY w q.C):=(((((((aj.refl _ _).put _ _).put _ _).put _ _).put _ _).put _ _).put _ _).put _ _
 exact h.struct k c none nv (fun hb=>by
  have:=((((((hb.set 13 (ah 0)).set 14 (ah 0)).set 15 (ah 0)).set 16 (ah 0)).set 17 (ah 0)).set 18 (ah 0)).set 19 (.bool false)
  obtain ⟨a,b,c',d,e,f,t,he⟩:=vY ev
  unfold dX at this ⊢
  rw [he] at this
  exact this) ⟨rfl,rfl,rfl⟩
theorem bC.pick0 (h:bC o w G q s c ev nv) {d:CD} (hn:dD o w (G.D 0) q.C c.aH d nv):∃ o1 W2,W2=lY (w.alloc (.cells zero6 49)) q.C/\aG w o o1/\o1 w.heap.size=99 /\
 bC o1 W2 G q s c none nv/\dD o1 W2 (G.D 0) q.C c.aH d nv/\aj (In o dF) w W2/\aC W2 w.heap.size zero6.toList 49:=by
 obtain ⟨W0,hW0⟩:∃ W0,W0=w.alloc (.cells zero6 49):=⟨_,rfl⟩
 have k0:aj ak w W0:=by rw [hW0];exact (aj.refl _ _).alloc _
 have hR:aC W0 w.heap.size zero6.toList 49:=by rw [hW0];exact aC.aS w _ _
 have e0:W0.heap.size=w.heap.size+1:=by rw [hW0];simp
 obtain ⟨o1,ho1⟩:∃ o1,o1=o.put w.heap.size 99:=⟨_,rfl⟩
 have hext:aG w o o1:=by rw [ho1];exact Ow.gI (.inl (Ho _))
 have hR1:o1 w.heap.size=99:=by rw [ho1];exact Ow.iy _ _ _
 have hf1:fV o1 W0:=by rw [ho1];exact Ow.iV h.sh.iF k0.size (by omega)
 have h0:bC o1 W0 G q s c ev nv:=h.gq k0 hext hf1
 have n0:dD o1 W0 (G.D 0) q.C c.aH d nv:=(hn.ext hext).aK (I:=[]) k0.bZ rfl rfl
 obtain ⟨h1,k1⟩:=h0.BZ
 refine ⟨o1,_,by rw [hW0],hext,hR1,h1,n0.aK k1 rfl rfl,?_,hR.aK k1 hR1 rfl⟩
 refine (k0.bZ (o:=o) (I:=dF)).gW k1 (fun i hi hin=>?_)
 unfold In at hin ⊢
 rw [hext i hi] at hin
 simp at hin
 simp [dF,hin]
theorem bC.AA {R:Nat} (h:bC o w G q s c ev nv) {d:CD} {col:Nat} {v:Value} (hn:dD o w (G.D 0) q.C col d v) (k:aj (only R) w w') (hR:o R=99):bC o w' G q s c ev nv/\dD o w' (G.D 0) q.C col d v:=by
 have k1:aj (In o [99]) w w':=k.jA hR rfl
 exact ⟨h.pG k1 rfl (h.sh.aK k1 rfl h.box8) rfl,hn.aK k1 rfl rfl⟩
theorem bC.behind (h:bC o w G q s c ev nv):(∃ a b c d e f t,∀ x,(w.alloc x).cell? ⟨q.C,13,none⟩=some a/\(w.alloc x).cell? ⟨q.C,14,none⟩=some b/\(w.alloc x).cell? ⟨q.C,15,none⟩=some c/\(w.alloc x).cell? ⟨q.C,16,none⟩=some d/\(w.alloc x).cell? ⟨q.C,17,none⟩=some e/\(w.alloc x).cell? ⟨q.C,18,none⟩=some f/\(w.alloc x).cell? ⟨q.C,19,none⟩=some t) /\
 (∀ x,(w.alloc x).cell? ⟨q.C,7,none⟩=some (.bool c.eF))/\(∀ x,(w.alloc x).cell? ⟨q.C,10,none⟩=some nv)/\(∀ x i,(w.alloc x).frozen? ⟨q.C,i,none⟩=false):=by
 obtain ⟨a,b,c',d,e,f,t,e0,e1,e2,e3,e4,e5,e6⟩:=h.aU
 have k:∀ x,aj ak w (w.alloc x):=fun x=>(aj.refl _ _).alloc x
 exact ⟨⟨a,b,c',d,e,f,t,fun x=>⟨(k x).still e0,(k x).still e1,(k x).still e2,(k x).still e3,(k x).still e4,(k x).still e5,(k x).still e6⟩⟩,fun x=>(h.still (k x)).cell 7 _ rfl,fun x=>(h.still (k x)).cell 10 _ rfl,fun x i=>(h.still (k x)).free i⟩
theorem bC.evs3 (h:bC o w G q s c ev nv):∃ (a b c d e:Int) (t:Bool),(w.cell? ⟨q.C,13,none⟩=some (ah 0)/\w.cell? ⟨q.C,14,none⟩=some (ah a)/\w.cell? ⟨q.C,15,none⟩=some (ah b)/\w.cell? ⟨q.C,16,none⟩=some (ah c)/\w.cell? ⟨q.C,17,none⟩=some (ah d)/\w.cell? ⟨q.C,18,none⟩=some (ah e)/\w.cell? ⟨q.C,19,none⟩=some (.bool t))/\kZ ev = .agg #[ah 0,ah a,ah b,ah c,ah d,ah e]/\jM ev = .bool t:=by
 cases ev with
 | none =>
   refine ⟨0,0,0,0,0,false,⟨?_,?_,?_,?_,?_,?_,?_⟩,rfl,rfl⟩
   all_goals exact h.cell _ _ rfl
 | some x =>
   refine ⟨x.iK,x.bM,x.op,x.gy,x.value,true,⟨?_,?_,?_,?_,?_,?_,?_⟩,rfl,rfl⟩
   all_goals exact h.cell _ _ rfl
def pK (o:Ow) (w:World) (G:bK) (q:CG) (s:Sh) (c:CS) (W:World):Prop :=
 ∃ (a b c' d e:Int) (t:Bool),(W.cell? ⟨q.C,13,none⟩=some (ah 0)/\W.cell? ⟨q.C,14,none⟩=some (ah a)/\W.cell? ⟨q.C,15,none⟩=some (ah b)/\W.cell? ⟨q.C,16,none⟩=some (ah c')/\W.cell? ⟨q.C,17,none⟩=some (ah d)/\W.cell? ⟨q.C,18,none⟩=some (ah e)/\W.cell? ⟨q.C,19,none⟩=some (.bool t)) /\
  aC W w.heap.size zero6.toList 49/\Hid (∀ w6,aj (only w.heap.size) W w6->kL o w G q s c (.returned (.tuple #[.agg #[ah 0,ah a,ah b,ah c',ah d,ah e],.bool t])) w6)
theorem pK.of {o1:Ow} {W2 W4:World} {r:fB} (hext:aG w o o1) (hR:o1 w.heap.size=99) (hB:aC W2 w.heap.size zero6.toList 49) (k2:aj (In o dF) w W2) (hn:ru o1 W2 G q r W4) (hp:bJ s c=⟨r.s,{ r.c with next:=r.next },r.next,r.ev⟩):pK o w G q s c W4:=by
 obtain ⟨o2,v,e2,h4,n4,k4⟩:=hn
 have hlt:=hB.lt
 obtain ⟨a,b,c',d,e,t,hcs,ea,et⟩:=h4.evs3
 refine ⟨a,b,c',d,e,t,hcs,hB.aK k4 hR (by decide),fun w6 k6=>?_⟩
 have hR2:o2 w.heap.size=99:=(e2 _ hlt).trans hR
 obtain ⟨h6,n6⟩:=h4.AA n4 k6 hR2
 unfold kL
 rw [hp,<- ea,<- et]
 refine ⟨o2,rfl,hext.trans k2.size e2,⟨r.ev,v,⟨h6.sh,h6.aO,h6.oC,h6.bY,h6.oK,h6.box8⟩,n6⟩,?_⟩
 have k46:aj (fun b=>In o1 dF b\/b=w.heap.size) W2 w6:=(k4.mono (fun _ _ h=>Or.inl h)).trans (k6.mono (fun b _ h=>Or.inr h))
 refine k2.gW k46 (fun i hi hin=>?_)
 rcases hin with hin|hin
 ·unfold In at hin ⊢
  rw [hext i hi] at hin
  exact hin
 ·omega
end
section
variable {o o':Ow} {w w':World} {G:bK} {q:CG} {s:Sh} {c:CS} {ev:Option Ev} {nv nv0:Value} {N:Nat}
theorem xK {d:CD} (h:jk d=true):d = .nil:=by
 cases d<;>first|rfl|cases h
theorem uh (h:bC o w G q s c ev nv) (hn:dD o w (G.D 0) q.C c.aH c.next nv) (ok:CK N s c) (hN:N<=1000000000) (hnil:jk c.next=true) (hws:c.eF=true):Calls ay 335 #[au q.C] w (kL o w G q s c):=by
 obtain ⟨o1,W2,hW2,hext,hR,h2,n2,k2,hB⟩:=h.pick0 hn
 obtain ⟨⟨x0,x1,x2,x3,x4,x5,x6,hx⟩,hws0,hnx0,hfr0⟩:=h.behind
 have f10:=fun x=>hfr0 x 10
 have f13:=fun x=>hfr0 x 13
 have f14:=fun x=>hfr0 x 14
 have f15:=fun x=>hfr0 x 15
 have f16:=fun x=>hfr0 x 16
 have f17:=fun x=>hfr0 x 17
 have f18:=fun x=>hfr0 x 18
 have f19:=fun x=>hfr0 x 19
 have g13:=fun x=>(hx x).1
 have g14:=fun x=>(hx x).2.1
 have g15:=fun x=>(hx x).2.2.1
 have g16:=fun x=>(hx x).2.2.2.1
 have g17:=fun x=>(hx x).2.2.2.2.1
 have g18:=fun x=>(hx x).2.2.2.2.2.1
 have g19:=fun x=>(hx x).2.2.2.2.2.2
 have yZ:=hW2
 unfold lY at yZ
 have HW2:=aA yZ
 have Ea:=xK hnil
 rw [Ea] at hn n2
 obtain rfl:nv = .nilFunc:=hn
 have hp:bJ s c=⟨(fD s c).s,{ (fD s c).c with next:=(fD s c).next },(fD s c).next,(fD s c).ev⟩:=by
  unfold bJ
  simp only
  rw [bT (by rw [hnil];decide),jh hws]
 have HST:Hid (Calls ay 336 #[au q.C] W2 fun e w'=>e = .returned (.tuple #[])/\Hid (pK o w G q s c w')):=by
  refine (vZ h2 ok.aH (Nat.le_trans ok.fZ hN) ok.fM.1 (by have:=ok.fM.2;omega)).mono ?_
  rintro e w' ⟨rfl,g⟩
  exact ⟨rfl,pK.of hext hR hB k2 g hp⟩
 have hnq:=Aq
 rw [hws] at hws0
 unfold pK at HST
 generalize kL o w G q s c=PO at *
 clear h h2 n2 k2 hext hW2 yZ hx hfr0 hB Ea hnil hp hR hws ok hN
 go_enter func335,ntmps335
 go_wp2_with fail
 rw [<- HW2.out]
 refine HST.out.mono ?_
 rintro e W5 ⟨rfl,Eb⟩
 clear f10 f13 f14 f15 f16 f17 f18 f19 g13 g14 g15 g16 g17 g18 g19 hws0 hnx0 HW2 HST
 obtain ⟨a,b,c9,d,e,t,⟨y0,y1,y2,y3,y4,y5,y6⟩,jm,hend⟩:=Eb.out
 have eY:=aA hend.out
 obtain ⟨W6,Cb⟩:∃ W6,W6=W5.drew:=⟨_,rfl⟩
 have k56:aj ak W5 W6:=by rw [Cb];exact (aj.refl ak W5).drew
 have kM:=k56.aO jm (fun f=>f)
 have zf0:=jm.free 0
 have zf1:=jm.free 1
 have zf2:=jm.free 2
 have zf3:=jm.free 3
 have zf4:=jm.free 4
 have zf5:=jm.free 5
 have z0:W5.cell? ⟨w.heap.size,0,none⟩=some (ah 0):=jm.cell 0 rfl
 have z1:W5.cell? ⟨w.heap.size,1,none⟩=some (ah 0):=jm.cell 1 rfl
 have z2:W5.cell? ⟨w.heap.size,2,none⟩=some (ah 0):=jm.cell 2 rfl
 have z3:W5.cell? ⟨w.heap.size,3,none⟩=some (ah 0):=jm.cell 3 rfl
 have z4:W5.cell? ⟨w.heap.size,4,none⟩=some (ah 0):=jm.cell 4 rfl
 have z5:W5.cell? ⟨w.heap.size,5,none⟩=some (ah 0):=jm.cell 5 rfl
 have FI:=k56.still y0
 have x1':=k56.still y1
 have x2':=k56.still y2
 have x3':=k56.still y3
 have FK:=k56.still y4
 have FM:=k56.still y5
 have FN:=k56.still y6
 have yf0:=kM.free 0
 have yf1:=kM.free 1
 have yf2:=kM.free 2
 have yf3:=kM.free 3
 have yf4:=kM.free 4
 have yf5:=kM.free 5
 have r0:W6.cell? ⟨w.heap.size,0,none⟩=some (ah 0):=kM.cell 0 rfl
 have r1:W6.cell? ⟨w.heap.size,1,none⟩=some (ah 0):=kM.cell 1 rfl
 have r2:W6.cell? ⟨w.heap.size,2,none⟩=some (ah 0):=kM.cell 2 rfl
 have r3:W6.cell? ⟨w.heap.size,3,none⟩=some (ah 0):=kM.cell 3 rfl
 have r4:W6.cell? ⟨w.heap.size,4,none⟩=some (ah 0):=kM.cell 4 rfl
 have r5:W6.cell? ⟨w.heap.size,5,none⟩=some (ah 0):=kM.cell 5 rfl
 rw [Cb] at r0 r1 r2 r3 r4 r5 yf0 yf1 yf2 yf3 yf4 yf5 FI x1' x2' x3' FK FM FN
 clear hend jm kM k56 Cb Eb
 go_wp2_with fail
 go_region
 go_wp2_with fail
 refine bodyPost_ret (v := .tuple #[.agg #[ah 0,ah a,ah b,ah c9,ah d,ah e],.bool t]) (by simp [results,Tryz.f335,go_sem,zf0,zf1,zf2,zf3,zf4,zf5,z0,z1,z2,z3,z4,z5]) rfl ?_
 exact eY.out _ ((((((((aj.refl (only w.heap.size) _).put _ _).put _ _).put _ _).put _ _).put _ _).put _ _).drew)
end
end
end Go.Proofs.YtoamcpbapedofaaGreatDoor
