/- Parts of the walk. No conditions. -/
import Derived.Test.YtobfpmijbfgmeabGreatDoorZzgk
namespace Go.Proofs.YtobfpmijbfgmeabGreatDoor
open _root_.Go.World renaming size_alloc->abw
open _root_.List renaming getElem?_eq_getElem->abr,range->acZ,replicate->abn
open _root_.Nat renaming not_lt_zero->ada,zero_le->abZ
open _root_.Go.Proofs.Tryz hiding prog
open _root_.Go.Proofs.Tryz renaming prog->ay
set_option maxRecDepth 8000
set_option maxHeartbeats 8000000
section
attribute [local go_sem ↓] mD
attribute [local go_sem] Oper.semAt_some
open Go.RowKit
theorem Tryz.infoPBox:(ay.info? 84).map (fun i=>(i.zero,i.size,i.bytes))=some (some (.pointer none),1,8):=by kernel_rfl
theorem Xm (w:World):Calls ay 33 #[] w fun e w'=>e = .returned (ak w.heap.size)/\w'=w.alloc (.cells #[.slice none 0 0,.slice none 0 0,.slice none 0 0,.slice none 0 0,ah 0] 137):=by
 go_enter func33,ntmps33
 go_wp2_with fail
 go_ret
 exact ⟨rfl,rfl⟩
theorem VR (w:World):Calls ay 34 #[] w fun e w'=>e = .returned (ak w.heap.size)/\w'=w.alloc (.cells #[.slice none 0 0] 141):=by
 go_enter func34,ntmps34
 go_wp2_with fail
 go_ret
 exact ⟨rfl,rfl⟩
theorem jk.first {o:Ow} {w:World} {B:Nat} (hB:o B≠0) (hb:aB w B [.slice none 0 0,.slice none 0 0,.slice none 0 0,.slice none 0 0,ah 0] 137):jk o w B ⟨[[],[],[],[]],0⟩:=by
 refine ⟨hB,rfl,[.slice none 0 0,.slice none 0 0,.slice none 0 0,.slice none 0 0],rfl,hb,fun i v zs h1 h2=>?_⟩
 match i with
 | 0=>simp at h1 h2;subst h1 h2;exact dI.nil _ _ _
 | 1=>simp at h1 h2;subst h1 h2;exact dI.nil _ _ _
 | 2=>simp at h1 h2;subst h1 h2;exact dI.nil _ _ _
 | 3=>simp at h1 h2;subst h1 h2;exact dI.nil _ _ _
 | n+4=>simp at h1
theorem dI.Xn {o:Ow} {w:World} {T:TypeId} {v:Value} {xs:List Value} {base n:Nat} (h:w.ownsRow base T 1 v n xs) (hm:n<=4000000000000) (hf:∀ b,v.ownBlock=some b->o b=0):dI o w T v xs:=by
 obtain ⟨hl,hf2⟩:=h
 rcases hf2 with ⟨rfl,rfl⟩|⟨g,aJ,cur,rfl,hg0,hg,hn,_,hs,hc⟩
 ·have:xs=[]:=List.eq_nil_of_length_eq_zero (by simpa using hl)
  subst this
  exact dI.nil _ _ _
 ·have hnl:n=xs.length:=by simpa using hl.symm
  subst hnl
  refine ⟨_,aJ,rfl,hn,hm,fun _=>⟨g,0,cur.toList,rfl,hf g rfl,by unfold aB;simpa using hg,fun j hj=>?_⟩⟩
  rw [<- hc]
  simp [hj]
structure Hz (W0:World) (S N0:Nat) (ps:List Value) (j:Nat) (W:World):Prop where
 aH:aj (only S) W0 W
 row:∃ (sv:Value) (bx:Nat->Nat),aB W S (ps++[sv]) 54/\W.ownsRow N0 84 1 sv j ((acZ j).map fun i=>aF (bx i))/\(∀ i,i<j->N0<=bx i/\bx i<W.heap.size/\aB W (bx i) [.slice none 0 0] 141)/\∀ i k,i<k->k<j->bx i<bx k
theorem VT (o0:Ow) (hz0:o0 2=0/\o0 3=0/\o0 1=0) {w:World} {D:Nat->Nat} {H:HS} {B Q Fl S N0:Nat} {b:Bd} {W0 W1 W2:World} {n:Nat} (hH:aK W1 D H) (hD:∀ i,i<13->w.heap.size<=D i) (hsz:w.heap.size<=W1.heap.size) (hB:lK W0 B b) (hQ:aB W0 Q [.slice none 0 0,.slice none 0 0,.slice none 0 0,.slice none 0 0,ah 0] 137)
 (hF:aB W0 Fl [.bool false] 83) (h1:W1.heap.size<=B) (h2:B<Q) (h3:Q<Fl) (h4:Fl<S) (h5:S<N0) (h6:N0=W0.heap.size) (k1:aj aA W1 W0) (hgl:2<w.heap.size/\3<w.heap.size/\1<w.heap.size) (hn:n<=8) (hI:Hz W0 S N0 [aF (D 0),aF B,aF Q,aF Fl] n W2) :
 ∃ (o:Ow) (G:eH),G.S=S/\eG o W2 G ⟨H,b,⟨[[],[],[],[]],0⟩,false,abn n []⟩/\(∀ x,x<w.heap.size->o x=o0 x)/\∀ x,w.heap.size<=x->o x<20:=by
 obtain ⟨hk,sv,bx,hS,hrow,hbx,hmono⟩:=hI
 have hDlt:∀ i,i<13->D i<W1.heap.size:=fun i hi=>hH.UJ i hi
 classical
 obtain ⟨o,ho⟩:∃ o:Ow,∀ x,o x=if x<w.heap.size then o0 x else if x<W1.heap.size then (if ∃ i,i<13/\D i=x then 1 else 0) else if x=B then 2 else if x=Q then 3 else if x=Fl then 4 else if h:∃ i,i<n/\bx i=x then 10+h.choose else 0:=⟨fun x=>if x<w.heap.size then o0 x else if x<W1.heap.size then (if ∃ i,i<13/\D i=x then 1 else 0) else if x=B then 2 else if x=Q then 3 else if x=Fl then 4 else if h:∃ i,i<n/\bx i=x then 10+h.choose else 0,fun _=>rfl⟩
 have Xo:∀ i,i<n->o (bx i)=10+i:=fun i hi=>by
  have hb:=hbx i hi
  rw [ho,aO (by omega),aO (by omega),aO (by omega),aO (by omega),aO (by omega)]
  have hex:∃ k,k<n/\bx k=bx i:=⟨i,hi,rfl⟩
  rw [dif_pos hex]
  have hc:=hex.choose_spec
  rcases Nat.lt_trichotomy hex.choose i with h|h|h
  ·have:=hmono _ _ h hi;omega
  ·omega
  ·have:=hmono _ _ h hc.1;omega
 have hO:o S=0:=by
  rw [ho,aO (by omega),aO (by omega),aO (by omega),aO (by omega),aO (by omega),dif_neg]
  rintro ⟨i,hi,e⟩
  have:=(hbx i hi).1;omega
 have hoB:o B=2:=by rw [ho,aO (by omega),aO (by omega),aV rfl]
 have ZG:o Q=3:=by rw [ho,aO (by omega),aO (by omega),aO (by omega),aV rfl]
 have hoF:o Fl=4:=by rw [ho,aO (by omega),aO (by omega),aO (by omega),aO (by omega),aV rfl]
 have hoD:∀ i,i<13->o (D i)=1:=fun i hi=>by
  rw [ho,aO (by have:=hD i hi;omega),aV (hDlt i hi),aV ⟨i,hi,rfl⟩]
 have hz:∀ x,x<w.heap.size->o x=o0 x:=fun x hx=>by rw [ho,aV hx]
 have hS0:S<W0.heap.size:=by omega
 refine ⟨o,⟨S,D,B,Q,Fl,bx⟩,rfl,⟨?_,⟨sv,hS,?_⟩,hO,?_,hoD,⟨(hz _ hgl.1).trans hz0.1,(hz _ hgl.2.1).trans hz0.2.1,(hz _ hgl.2.2).trans hz0.2.2⟩,?_,hoB,?_,ZG,?_,hoF,?_⟩,hz,fun x hx0=>?_⟩
 ·intro x hx
  have h9:=hk.size
  rw [ho,aO (by omega),aO (by omega),aO (by omega),aO (by omega),aO (by omega),dif_neg]
  rintro ⟨i,hi,e⟩
  have:=(hbx i hi).2.1;omega
 ·have e:(abn n ([]:List Nat)).length=n:=by simp
  show dI o W2 84 sv ((acZ (abn n ([]:List Nat)).length).map fun i=>aF (bx i))
  rw [e]
  refine dI.Xn hrow (by omega) (fun g hg=>?_)
  have hgl2:=(World.ownsRow.lt hrow g hg).1
  rw [ho,aO (by omega),aO (by omega),aO (by omega),aO (by omega),aO (by omega),dif_neg]
  rintro ⟨i,hi,e⟩
  exact jY (hbx i hi).2.2 hrow (by decide) (by rw [hg,e])
 ·exact (hH.still k1).aH hk (fun i hi e=>by have:=hDlt i hi;unfold only at e;omega) (fun e=>by unfold only at e;omega) (fun e=>by unfold only at e;omega) (fun e=>by unfold only at e;omega)
 ·exact hB.aH hk (fun e=>by unfold only at e;omega)
 ·exact jk.first (by rw [ZG];decide) (hk.aC hQ (fun e=>by have e':Q=S:=e;omega))
 ·exact hk.aC hF (fun e=>by have e':Fl=S:=e;omega)
 ·intro i l hi
  have hin:i<n:=by have:=(List.getElem?_eq_some_iff.1 hi).1;simpa using this
  have el:l=[]:=by simp [List.getElem?_replicate,hin] at hi;exact hi
  subst el
  exact ⟨⟨by rw [Xo i hin];omega,.slice none 0 0,(hbx i hin).2.2,dI.nil _ _ _,fun _ _ e=>by cases e;rfl⟩,Xo i hin⟩
 ·rw [ho,aO (by omega)]
  repeat' split
  all_goals first|omega|(rename_i hex;have:=hex.choose_spec.1;omega)
theorem Qg (o0:Ow) (hz0:o0 2=0/\o0 3=0/\o0 1=0) (c:aS) (b ww nc n:Nat) (hok:c.ok=true) (hcb:c.b=b) (hcw:c.w=ww) (hcc:c.c=nc) (hcm:c.m=n) (w:World) (hT:gY w) (hS:eX w) (hgl:2<w.heap.size/\3<w.heap.size/\1<w.heap.size):Calls ay 6 #[.agg c.cells.toArray] w fun e w'=>∃ (o:Ow) (G:eH),e = .returned (.tuple #[ak G.S,ah 0])/\eG o w' G (Sh.aW c b ww nc n)/\(∀ x,x<w.heap.size->o x=o0 x)/\(∀ x,w.heap.size<=x->o x<20)/\aj aA w w':=by
 obtain ⟨W0,hW0⟩:∃ W',W'=w.alloc (.cells c.cells.toArray 23):=⟨_,rfl⟩
 have HK:Hid (aj aA w W0):=by rw [hW0];exact (aj.refl _ _).alloc _
 have HN:=au (VJ c b ww nc hok hcb hcw hcc W0 (hT.aH HK.out) (hS.aH HK.out))
 have HB:=au (show aB W0 w.heap.size c.cells 23 by rw [hW0];exact aB.aW w _ _)
 have hbd:=iT hok
 have hn1:1<=n/\n<=8:=by omega
 have Ia:=au hn1
 have gG:Hid (∀ W,Calls ay 32 #[ah (n:Int)] W fun e w'=>e = .returned (.tuple #[ak W.heap.size,ah 0])/\lK w' W.heap.size (Bd.aW (n:Int))/\aj aA W w'):=fun W=>Nu (n:Int) W (by omega) (by omega)
 have EK:Hid (∀ (D:Nat->Nat) (B Q Fl S N0:Nat) (W1 W2 W3:World),aK W1 D (HS.aW c b ww nc)->(∀ i,i<13->w.heap.size<=D i)->w.heap.size<=W1.heap.size->lK W2 B (Bd.aW (n:Int))->aB W2 Q [.slice none 0 0,.slice none 0 0,.slice none 0 0,.slice none 0 0,ah 0] 137->aB W2 Fl [.bool false] 83 ->
  W1.heap.size<=B->B<Q->Q<Fl->Fl<S->S<N0->N0=W2.heap.size->aj aA W1 W2->Hz W2 S N0 [aF (D 0),aF B,aF Q,aF Fl] n W3->∃ (o:Ow) (G:eH),G.S=S/\eG o W3 G (Sh.aW c b ww nc n)/\(∀ x,x<w.heap.size->o x=o0 x)/\∀ x,w.heap.size<=x->o x<20) :=
  fun D B Q Fl S N0 W1 W2 W3 p1 p2 p3 p4 p5 p6 p7 p8 p9 p10 p11 p12 p13 p14=>VT o0 hz0 p1 p2 p3 p4 p5 p6 p7 p8 p9 p10 p11 p12 p13 hgl hn1.2 p14
 obtain ⟨c0,c1,c2,c3,c4,c5,c6⟩:=c
 simp only at hcm
 subst hcm
 simp only [aS.cells] at HN HB ⊢
 have HW0:=au hW0
 clear hT hok hS hgl hbd hcb hcw hcc hW0
 go_enter func6,ntmps6
 go_wp2_with fail
 simp only [aS.cells] at HW0
 rw [<- HW0.out]
 refine HN.out.mono ?_
 rintro e w1 ⟨D,rfl,hH,hD,k1⟩
 have HH:=au hH
 have HD:Hid (∀ i,i<13->w.heap.size<=D i):=fun i hi=>Nat.le_trans HK.out.size (hD i hi)
 have hb1:=k1.aC HB.out (fun f=>f)
 have y2:w1.cell? ⟨w.heap.size,2,none⟩=some (ah (n:Int)):=hb1.cell 2 rfl
 have HB1:=au hb1
 have aZ:=au (HK.out.trans k1)
 clear hH hD k1 HB HK HN hb1
 go_wp2_with fail
 refine (gG.out _).mono ?_
 rintro e w2 ⟨rfl,hBd,k2⟩
 have KW:=au hBd
 have bH:=au k2
 have hb2:=k2.aC HB1.out (fun f=>f)
 have HB2:=au hb2
 clear hBd k2 y2 HB1 hb2 gG
 go_wp2_with fail
 refine (Xm _).mono ?_
 rintro e w3 ⟨rfl,hw3⟩
 obtain ⟨W5,nG⟩:∃ W5,W5=(w3.alloc (.cells #[.bool false] 83)).alloc (.cells #[aF (D 0),aF w1.heap.size,aF w2.heap.size,aF w3.heap.size,.slice none 0 0] 54):=⟨_,rfl⟩
 have k3:aj aA w2 w3:=by rw [hw3];exact (aj.refl _ _).alloc _
 have k5:aj aA w3 W5:=by rw [nG];exact ((aj.refl _ _).alloc _).alloc _
 have e3:w3.heap.size=w2.heap.size+1:=by rw [hw3];simp
 have e5:W5.heap.size=w3.heap.size+2:=by rw [nG];simp
 have hq:aB w3 w2.heap.size [.slice none 0 0,.slice none 0 0,.slice none 0 0,.slice none 0 0,ah 0] 137:=by rw [hw3];exact aB.aW w2 _ _
 have hfl:aB W5 w3.heap.size [.bool false] 83:=by rw [nG];exact (aB.aW w3 _ _).alloc _
 have hsh:aB W5 (w3.heap.size+1) [aF (D 0),aF w1.heap.size,aF w2.heap.size,aF w3.heap.size,.slice none 0 0] 54:=by
  rw [nG]
  have h9:=aB.aW (w3.alloc (.cells #[.bool false] 83)) [aF (D 0),aF w1.heap.size,aF w2.heap.size,aF w3.heap.size,.slice none 0 0] 54
  rw [abw] at h9
  exact h9
 have HI0:Hid (Hz W5 (w3.heap.size+1) W5.heap.size [aF (D 0),aF w1.heap.size,aF w2.heap.size,aF w3.heap.size] 0 W5):=⟨aj.refl _ _,.slice none 0 0,fun _=>0,hsh,World.ownsRow_nil _ _ _ _,fun i hi=>absurd hi (ada i),fun i k _ hk=>absurd hk (ada k)⟩
 have hb5:=(k3.trans k5).aC HB2.out (fun f=>f)
 have y2:∀ x y,((w3.alloc x).alloc y).cell? ⟨w.heap.size,2,none⟩=some (ah (n:Int)):=fun x y=>(((k3.aC HB2.out (fun f=>f)).alloc x).alloc y).cell 2 rfl
 have gI:Hid (∀ W3,Hz W5 (w3.heap.size+1) W5.heap.size [aF (D 0),aF w1.heap.size,aF w2.heap.size,aF w3.heap.size] n W3->∃ (o:Ow) (G:eH),G.S=w3.heap.size+1/\eG o W3 G (Sh.aW ⟨c0,c1,n,c3,c4,c5,c6⟩ b ww nc n)/\(∀ x,x<w.heap.size->o x=o0 x)/\(∀ x,w.heap.size<=x->o x<20)/\aj aA w W3):=fun W3 hI=>by
  have s2:=KW.out.aC.lt
  have s1:=aZ.out.size
  obtain ⟨o,G,g1,g2,g3,g4⟩:=EK.out D w1.heap.size w2.heap.size w3.heap.size (w3.heap.size+1) W5.heap.size w1 W5 W3 HH.out HD.out aZ.out.size (KW.out.aH (k3.trans k5) (fun f=>f)) (k5.aC hq (fun f=>f)) hfl (Nat.le_refl _) (by omega) (by omega) (by omega) (by omega) rfl ((bH.out.trans k3).trans k5) hI
  exact ⟨o,G,g1,g2,g3,g4,(((aZ.out.trans bH.out).trans k3).trans k5).YQ hI.aH (by omega)⟩
 have Qh:=au nG
 have sO:Hid (W5.heap.size=w3.heap.size+2):=e5
 have LG:Hid (w.heap.size<W5.heap.size/\w.heap.size≠w3.heap.size+1):=by
  have:=HB2.out.lt;exact ⟨by omega,by omega⟩
 have Xi:=au hb5
 clear k3 k5 e3 e5 hq hfl hsh hb5 hw3 KW bH HB2 EK HH HD aZ nG
 go_wp2_with fail
 rw [<- Qh.out]
 clear y2
 go_loopw [32] (fun i wr=>∃ k:Nat,k<=n/\i = ah k/\Hz W5 (w3.heap.size+1) W5.heap.size [aF (D 0),aF w1.heap.size,aF w2.heap.size,aF w3.heap.size] k wr) (fun i _=>n - (intOf i).toNat)
 case atStart=>exact ⟨0,abZ _,rfl,HI0.out⟩
 case round =>
  obtain ⟨k,hk,rfl,hI⟩:=hrel
  by_cases hlt:k<n
  ·obtain ⟨hkp,sv,bx,hS,hrow,hbx,hmono⟩:=hI
   obtain ⟨sa,sc,rfl⟩:∃ a c,sv = .slice a k c:=by
    obtain ⟨a,aJ,rfl,_⟩:=kE (dF hrow (abZ _))
    exact ⟨a,aJ,rfl⟩
   have oz:(k:Int)<(n:Int):=by omega
   have hk8:k<8:=by have:=Ia.out;omega
   have Gg:(k:Int)<8:=by omega
   have hsS:w3.heap.size+1<wr.heap.size:=hS.lt
   have HL:Hid (Calls ay 34 #[] wr.drew fun e w9=>e = .returned (ak wr.heap.size)/\w9.cell? ⟨w3.heap.size+1,4,none⟩=some (.slice sa k sc)/\(∀ x,(w9.alloc x).cell? ⟨w3.heap.size+1,4,none⟩=some (.slice sa k sc)) /\
    ∃ q aJ w5,(app9 #[52,52] 52 #[.slice sa k sc,.slice (some ⟨w9.heap.size,0,none⟩) 1 1]).run ay (w9.alloc (.cells #[ak wr.heap.size] 84)) = .ok (.slice (some ⟨q,0,none⟩) (k+1) aJ) w5/\w5.frozen? ⟨w3.heap.size+1,4,none⟩=false/\w5.cell? ⟨w3.heap.size+1,4,none⟩=some (.slice sa k sc) /\
     Hid (Hz W5 (w3.heap.size+1) W5.heap.size [aF (D 0),aF w1.heap.size,aF w2.heap.size,aF w3.heap.size] (k+1) (w5.setCell ⟨w3.heap.size+1,4,none⟩ (.slice (some ⟨q,0,none⟩) (k+1) aJ)))):=by
    refine (VR _).mono ?_
    rintro e w9 ⟨rfl,hw9⟩
    have k9:aj aA wr w9:=by rw [hw9];exact ((aj.refl aA wr).drew).alloc _
    have e9:w9.heap.size=wr.heap.size+1:=by rw [hw9];simp
    have hb9:aB w9 wr.heap.size [.slice none 0 0] 141:=by rw [hw9];exact aB.aW wr.drew _ _
    obtain ⟨W1,hW1⟩:∃ W1,W1=w9.alloc (.cells #[ak wr.heap.size] 84):=⟨_,rfl⟩
    have k91:aj aA w9 W1:=by rw [hW1];exact (aj.refl _ _).alloc _
    have k1:aj aA wr W1:=k9.trans k91
    have hN1:W1.cell? ⟨w9.heap.size,0,none⟩=some (ak wr.heap.size):=by
     rw [hW1];exact (aB.aW w9 [ak wr.heap.size] 84).cell 0 rfl
    have hbn:aB W1 wr.heap.size [.slice none 0 0] 141:=k91.aC hb9 (fun f=>f)
    have e1:W1.heap.size=wr.heap.size+2:=by rw [hW1];simp [e9]
    have ZH:=k9.aC hS (fun f=>f)
    have hrow1:=gy hrow k1
    obtain ⟨q,aJ,w5,hrun,hown,hgr,hq⟩:=qx (P:=ay) W1 52 52 84 (by kernel_rfl) Tryz.infoPBox rfl (dF hrow1 (abZ _)) (N:=w9.heap.size) (u := ak wr.heap.size) hN1 rfl (by decide) (by omega)
    have aas:(Value.slice sa k sc).ownBlock≠some (w3.heap.size+1):=jY (k1.aC hS (fun f=>f)) hrow1 (by decide)
    have aat:∀ i,i<k->(Value.slice sa k sc).ownBlock≠some (bx i):=fun i hi=>jY (k1.aC (hbx i hi).2.2 (fun f=>f)) hrow1 (by decide)
    have aau:(Value.slice sa k sc).ownBlock≠some wr.heap.size:=jY hbn hrow1 (by decide)
    have hS5:aB w5 (w3.heap.size+1) ([aF (D 0),aF w1.heap.size,aF w2.heap.size,aF w3.heap.size]++[.slice sa k sc]) 54:=(k1.aC hS (fun f=>f)).jJ hgr aas
    have f5:=hS5.free 4
    have c5:w5.cell? ⟨w3.heap.size+1,4,none⟩=some (.slice sa k sc):=hS5.cell 4 rfl
    have hge:W5.heap.size<=q:=by
     rcases hq with h|h
     ·exact (World.ownsRow.lt hrow1 q h).1
     ·have:=hkp.size;omega
    have NH:Hid (Hz W5 (w3.heap.size+1) W5.heap.size [aF (D 0),aF w1.heap.size,aF w2.heap.size,aF w3.heap.size] (k+1) (w5.setCell ⟨w3.heap.size+1,4,none⟩ (.slice (some ⟨q,0,none⟩) (k+1) aJ))):=by
     have s5:=hgr.size
     have sk:=hkp.size
     have hsz:=sO.out
     refine ⟨?_,.slice (some ⟨q,0,none⟩) (k+1) aJ,fun i=>if i=k then wr.heap.size else bx i,?_,?_,?_,?_⟩
     ·have h8:aj (fun x=>(Value.slice sa k sc).ownBlock=some x) wr w5:=(k1.mono (fun _ _ f=>f.elim)).trans ⟨hgr.os,hgr.tape,hgr.output,hgr.size,fun x hx hn=>hgr.block x hx (fun e=>by first|exact hn e|exact hn e.symm)⟩
      have h9:aj (only (w3.heap.size+1)) W5 w5:=hkp.jI h8 (fun i hi hin=>absurd (World.ownsRow.lt hrow1 i hin).1 (by omega))
      exact h9.put 4 _
     ·exact hS5.set 4 _
     ·have e:(acZ (k+1)).map (fun i=>aF (if i=k then wr.heap.size else bx i))=(acZ k).map (fun i=>aF (bx i))++[aF wr.heap.size]:=by
       rw [List.range_succ,List.map_append]
       congr 1
       ·refine List.map_congr_left (fun i hi=>?_)
        rw [aO (by have:=List.mem_range.1 hi;omega)]
       ·simp
      rw [e]
      exact Gn (vF (a:=⟨w3.heap.size+1,4,none⟩) hown (fun x hx=>by simp [Value.ownBlock] at hx;show x≠w3.heap.size+1;omega) _) hge
     ·intro i hi
      by_cases e:i=k
      ·subst e
       dsimp only
       rw [aV rfl]
       exact ⟨sk,by simp;omega,(hbn.jJ hgr aau).og (by simp;omega) _⟩
      ·dsimp only
       rw [aO e]
       obtain ⟨g1,g2,g3⟩:=hbx i (by omega)
       exact ⟨g1,by simp;omega,((k1.aC g3 (fun f=>f)).jJ hgr (aat i (by omega))).og (by simp;omega) _⟩
     ·intro i j hij hj
      by_cases e:j=k
      ·subst e
       dsimp only
       rw [aV rfl,aO (by omega)]
       exact (hbx i hij).2.1
      ·dsimp only
       rw [aO e,aO (by omega)]
       exact hmono i j hij (by omega)
    exact ⟨rfl,ZH.cell 4 rfl,fun x=>(ZH.alloc x).cell 4 rfl,q,aJ,w5,by rw [<- hW1];exact hrun,f5,c5,NH⟩
   have c0:wr.cell? ⟨w3.heap.size+1,4,none⟩=some (.slice sa k sc):=hS.cell 4 rfl
   have c0d:wr.drew.cell? ⟨w3.heap.size+1,4,none⟩=some (.slice sa k sc):=((aj.refl aA wr).drew).still c0
   clear hkp hS hrow hbx hmono
   go_wp2_with fail
   go_region_with (go_at_call 34;refine HL.out.mono ?_;rintro e w9 ⟨rfl,h9a,h9b,q,aJ,w5,hrun9,f5,c5,NH⟩)
   all_goals
    go_wp2_with fail
    go_roundw
    case rel=>exact ⟨k+1,by omega,by go_num,NH.out⟩
    case measure=>simp [intOf]<;>omega
  ·have e1:k=n:=by omega
   subst e1
   have HE:=au (gI.out wr hI)
   have hnlt:¬ (k:Int)<(k:Int):=by omega
   clear hI hlt
   go_wp2_with fail
   go_ret2
   obtain ⟨o,G,g1,g2,g3,g4,g5⟩:=HE.out
   exact ⟨o,G,by rw [g1];rfl,g2,g3,g4,g5⟩
theorem Ib (c:aS) (b ww nc n:Nat) (hok:c.ok=true) (hcb:c.b=b) (hcw:c.w=ww) (hcc:c.c=nc) (hcm:c.m=n) (w:World) (hT:gY w) (hS:eX w) (hgl:2<w.heap.size/\3<w.heap.size/\1<w.heap.size):Calls ay 6 #[.agg c.cells.toArray] w fun e w'=>∃ (o:Ow) (G:eH),e = .returned (.tuple #[ak G.S,ah 0])/\eG o w' G (Sh.aW c b ww nc n)/\(∀ x,x<w.heap.size->o x=0)/\(∀ x,o x<20)/\aj aA w w':=by
 refine (Qg (fun _=>0) ⟨rfl,rfl,rfl⟩ c b ww nc n hok hcb hcw hcc hcm w hT hS hgl).mono ?_
 rintro e w' ⟨o,G,rfl,h1,h2,h3,h4⟩
 refine ⟨o,G,rfl,h1,h2,fun x=>?_,h4⟩
 by_cases hx:x<w.heap.size
 ·rw [h2 x hx];decide
 ·exact h3 x (by omega)
end
section
attribute [local go_sem] Oper.semAt_some
open Go.RowKit
section
variable {o:Ow} {w w':World} {b:Nat} {room:Int} {xs:List Nat}
theorem dZ.YV (h:dZ o w b 143 [ah room] xs):w.cell? ⟨b,1,none⟩=some (ah room):=by
 obtain ⟨_,v,h1,_⟩:=h
 exact h1.cell 1 rfl
theorem xO (h:dZ o w b 143 [ah room] xs):Calls ay 125 #[ak b] w fun e w'=>e = .returned (.bool ((xs.length:Int)==room))/\aj aA w w':=by
 have HC:Hid (∀ W,aj aA w W->Calls ay 153 #[ak b] W fun e w'=>e = .returned (ah (xs.length:Int))/\W=w'):=fun W hW=>rV (h.still hW)
 have c1:=h.YV
 have hlen:(xs.length:Int)<=4000000000000:=by obtain ⟨a,c,_,_,_,_,hm,_⟩:=h.form;omega
 generalize xs.length=n at *
 clear h
 go_enter func125,ntmps125
 go_wp2_with fail
 go_quiet (first|(go_at_call 153;exact Calls.quiet_of_same (fE (HC.out _ ((aj.refl aA w).drewN _)))))
 go_wp2_with fail
 go_ret
 exact ⟨rfl,(aj.refl _ _).drewN _⟩
theorem EL (h:dZ o w b 143 [ah room] xs):Calls ay 126 #[ak b] w fun e w'=>e = .returned (ah (xs.length:Int))/\w=w':=by
 have HC:=au (rV h)
 clear h
 go_enter func126,ntmps126
 go_wp2_with (go_at_call 153;refine HC.out.mono ?_;rintro e w1 ⟨rfl,rfl⟩)
 go_ret
 exact ⟨rfl,rfl⟩
theorem NI (h:dZ o w b 143 [ah room] xs) (x:Nat) (hf:((xs.length:Int)==room)=true):Calls ay 122 #[ak b,ah (x:Int)] w fun e w'=>e = .returned (.bool false)/\aj aA w w':=by
 have HF:=au (xO h)
 rw [hf] at HF
 clear h hf
 go_enter func122,ntmps122
 go_wp2_with (go_at_call 125;refine HF.out.mono ?_;rintro e w1 ⟨rfl,k1⟩;have HK:=au k1;clear k1)
 go_ret
 exact ⟨rfl,HK.out⟩
theorem NJ (h:dZ o w b 143 [ah room] xs) (x:Nat) (hf:((xs.length:Int)==room)=false) (hf0:jS o w) (hm:xs.length<=100000):Calls ay 122 #[ak b,ah (x:Int)] w fun e w'=>e = .returned (.bool true)/\dZ o w' b 143 [ah room] (xs++[x])/\aj (only b) w w':=by
 have HF:=au (xO h)
 rw [hf] at HF
 have HA:Hid (∀ W,aj aA w W->Calls ay 152 #[ak b,ah (x:Int)] W fun e w'=>e = .returned (.tuple #[])/\dZ o w' b 143 [ah room] (xs++[x])/\aj (only b) W w'):=fun W hW=>Qe (h.still hW) x (hf0.aH hW) hm
 clear h hf hf0 hm
 go_enter func122,ntmps122
 go_wp2_with (go_at_call 125;refine HF.out.mono ?_;rintro e w1 ⟨rfl,k1⟩;have HK:=au k1;have HA1:=au (HA.out _ k1);clear k1)
 go_wp2_with (go_at_call 152;refine HA1.out.mono ?_;rintro e w2 ⟨rfl,h2,k2⟩;have HH:=au h2;have bH:=au k2;clear h2 k2)
 go_ret
 exact ⟨rfl,HH.out,(HK.out.mono (fun _ _ f=>f.elim)).trans bH.out⟩
theorem NK (h:dZ o w b 143 [ah room] xs):Calls ay 156 #[ak b] w fun e w'=>e = .returned (.tuple #[ah (jo xs:Int),.bool (!xs.isEmpty)])/\dZ o w' b 143 [ah room] xs.tail/\aj (only b) w w':=by
 have HT:Hid (Calls ay 182 #[ak b] w fun e w'=>e = .returned (.tuple #[ah (jo xs:Int),.bool (!xs.isEmpty)])/\dZ o w' b 143 [ah room] xs.tail/\aj (only b) w w'):=by
  cases xs with
  | nil =>
    refine (ND h).mono ?_
    rintro e w' ⟨rfl,rfl⟩
    exact ⟨rfl,h,aj.refl _ _⟩
  | cons x xs=>exact JQ x h
 generalize jo xs=hd at *
 generalize (!xs.isEmpty)=ok at *
 clear h
 go_enter func156,ntmps156
 go_wp2_with (go_at_call 182;refine HT.out.mono ?_;rintro e w1 ⟨rfl,h1,k1⟩;have HH:=au h1;have HK:=au k1;clear h1 k1)
 go_ret2
 exact ⟨rfl,HH.out,HK.out⟩
theorem wz (h:dZ o w b 143 [ah room] xs):Calls ay 97 #[ak b] w fun e w'=>e = .returned (.tuple #[])/\dZ o w' b 143 [ah room] []/\aj (only b) w w':=by
 obtain ⟨a,c,hc,_,_,_,_,hf,_⟩:=h.form
 have HS:=au (h.set (dI.nil o w 3) (ys:=[]) (fun _ _ e=>by cases e;rfl))
 clear h
 go_enter func97,ntmps97
 go_wp2_with fail
 go_end0
 exact ⟨rfl,HS.out,(aj.refl (only b) _).put _ _⟩
theorem JR (F:Nat) (f:Bool) (h:aB w F [.bool f] 83):Calls ay 159 #[ak F] w fun e w'=>e = .returned (.tuple #[])/\aB w' F [.bool true] 83/\aj (only F) w w':=by
 have c0:=h.cell 0 rfl
 have f0:=h.free 0
 have HS:=au (h.set 0 (.bool true))
 clear h
 go_enter func159,ntmps159
 go_wp2_with fail
 go_end0
 exact ⟨rfl,HS.out,(aj.refl (only F) _).put _ _⟩
theorem Qi {B:Nat} {ys:List Nat} (h:dZ o w b 143 [ah room] xs) (hb:dZ o w B 141 [] ys) (hy:ys≠[]):Calls ay 128 #[ak B,ak b] w fun e w'=>e = .returned (.bool false)/\w=w':=by
 have HC:=au (rV hb)
 have hpos:0<ys.length:=List.length_pos_iff.2 hy
 have d0:decide ((0:Int)<(ys.length:Int))=true:=cZ (by omega)
 have d1:decide (0<ys.length)=true:=cZ hpos
 generalize ys.length=n at *
 clear h hb hy
 go_enter func128,ntmps128
 go_wp2_with (go_at_call 153;refine HC.out.mono ?_;rintro e w1 ⟨rfl,rfl⟩)
 go_ret
 exact ⟨rfl,rfl⟩
theorem NM {B:Nat} (h:dZ o w b 143 [ah room] xs) (hb:dZ o w B 141 [] []) (hne:B≠b) (hf0:jS o w):Calls ay 128 #[ak B,ak b] w fun e w'=>e = .returned (.bool true)/\dZ o w' b 143 [ah room] []/\dZ o w' B 141 [] xs/\aj (fun i=>i=B\/i=b) w w':=by
 have HC:=au (rV hb)
 have hlen:xs.length<=4000000000000:=by obtain ⟨a,c,_,_,_,_,hm,_⟩:=h.form;exact hm
 have HA:=au (Qd h)
 have HH:=au h
 have HB:=au hb
 have HN:=au hne
 have HF:=au hf0
 have HL:=au hlen
 clear h hb hne hf0 hlen
 go_enter func128,ntmps128
 go_wp2_with (go_at_call 153;refine HC.out.mono ?_;rintro e w1 ⟨rfl,rfl⟩)
 refine HA.out.mono ?_
 rintro e w1 ⟨v,rfl,ho,k1⟩
 obtain ⟨a',cap',rfl,_,_,hnl,_⟩:=kE (dF ho (abZ _))
 have HNL:=au hnl
 have HO:=au ho
 have aZ:=au k1
 obtain ⟨_,_,cB,_,_,_,_,fB,_⟩:=(HB.out.still k1).form
 clear ho k1 hnl
 go_wp2_with fail
 have hrow:dI o w1 3 (.slice a' xs.length cap') (bg xs):=dI.qc HO.out HL.out (fun x hx=>HF.out x hx)
 have hnil:NC (.slice a' xs.length cap'):=fun n c e=>by injection e with e1 e2 e3;rw [<- e3];exact HNL.out e1
 have hS2:=(HB.out.still aZ.out).set hrow hnil
 have k2:aj (only B) w1 (w1.setCell ⟨B,0,none⟩ (.slice a' xs.length cap')):=(aj.refl _ _).put 0 _
 have hb2:dZ o (w1.setCell ⟨B,0,none⟩ (.slice a' xs.length cap')) b 143 [ah room] xs:=(HH.out.still aZ.out).aH k2 (fun e=>HN.out e.symm) (fun x hx e=>by unfold only at e;subst e;exact HB.out.1 hx)
 have HS2:=au hS2
 have bH:=au k2
 have sQ:=au (wz hb2)
 clear hS2 k2 hb2 hrow hnil
 refine sQ.out.mono ?_
 rintro e w3 ⟨rfl,h3,k3⟩
 have Xa:=au h3
 have lT:=au k3
 clear h3 k3
 go_wp2_with fail
 go_ret
 refine ⟨rfl,Xa.out,HS2.out.aH lT.out (fun e=>HN.out e) (fun x hx e=>by unfold only at e;subst e;exact HH.out.1 hx),?_⟩
 exact (aZ.out.mono (fun _ _ f=>f.elim)).trans ((bH.out.mono (fun _ _ e=>Or.inl e)).trans (lT.out.mono (fun _ _ e=>Or.inr e)))
end
def fZ (w:World):List (List Value × TypeId)->World
 | []=>w
 | (cs,T)::l=>fZ (w.alloc (.cells cs.toArray T)) l
def o7 (n:Nat):List (List Value × TypeId)->List Nat
 | []=>[]
 | _::l=>n::o7 (n+1) l
theorem gJ {o:Ow}:∀ (l:List (List Value × TypeId)) (w:World),jS o w->ny o (fZ w l) l (o7 w.heap.size l)/\aj aA w (fZ w l)
 | [],w,_=>⟨rfl,aj.refl _ _⟩
 | (cs,T)::l,w,hf=>by
   have k:aj aA w (w.alloc (.cells cs.toArray T)):=(aj.refl _ _).alloc _
   obtain ⟨h1,h2⟩:=gJ l (w.alloc (.cells cs.toArray T)) (hf.aH k)
   rw [abw] at h1
   exact ⟨⟨w.heap.size,_,rfl,hf _ (Nat.le_refl _),h2.aC (aB.aW w cs T) (fun f=>f),h1⟩,k.trans h2⟩
theorem nK.aH {o:Ow} {w w':World} {M:Nat} {S:Nat->Prop} {rd:RD} {v:Value} (h:nK o w M rd v) (k:aj S w w') (h0:∀ b,o b=0->¬ S b):nK o w' M rd v:=by
 cases rd with
 | field base f x=>obtain ⟨op,e,h1⟩:=h;exact ⟨op,e,h1.aH k h0⟩
 | cell i x=>obtain ⟨op,e,h1⟩:=h;exact ⟨op,e,h1.aH k h0⟩
theorem nN.aH {o:Ow} {w w':World} {M:Nat} {S:Nat->Prop} {rd:RD} {v:Value} (h:nN o w M rd v) (k:aj S w w') (h0:∀ b,o b=0->¬ S b):nN o w' M rd v:=by
 cases rd with
 | field base f x=>obtain ⟨op,e,h1⟩:=h;exact ⟨op,e,h1.aH k h0⟩
 | cell i x=>obtain ⟨op,e,h1⟩:=h;exact ⟨op,e,h1.aH k h0⟩
theorem jF.aH {o:Ow} {w w':World} {M:Nat} {S:Nat->Prop} {rd:RD} {v:Value} (h:jF o w M rd v) (k:aj S w w') (h0:∀ b,o b=0->¬ S b):jF o w' M rd v:=by
 obtain ⟨wv,h1,h2⟩:=h
 exact ⟨wv,h1.aH k h0,h2.aH k h0⟩
theorem nK.ext {o o':Ow} {w:World} {M:Nat} {rd:RD} {v:Value} (h:nK o w M rd v) (e:dL w o o'):nK o' w M rd v:=by
 cases rd with
 | field base f x=>obtain ⟨op,e1,h1⟩:=h;exact ⟨op,e1,h1.ext e⟩
 | cell i x=>obtain ⟨op,e1,h1⟩:=h;exact ⟨op,e1,h1.ext e⟩
theorem nN.ext {o o':Ow} {w:World} {M:Nat} {rd:RD} {v:Value} (h:nN o w M rd v) (e:dL w o o'):nN o' w M rd v:=by
 cases rd with
 | field base f x=>obtain ⟨op,e1,h1⟩:=h;exact ⟨op,e1,h1.ext e⟩
 | cell i x=>obtain ⟨op,e1,h1⟩:=h;exact ⟨op,e1,h1.ext e⟩
theorem jF.ext {o o':Ow} {w:World} {M:Nat} {rd:RD} {v:Value} (h:jF o w M rd v) (e:dL w o o'):jF o' w M rd v:=by
 obtain ⟨wv,h1,h2⟩:=h
 exact ⟨wv,h1.ext e,h2.ext e⟩
theorem bG.aH {o:Ow} {w w':World} {Nt M:Nat} {S:Nat->Prop} (k:aj S w w') (h0:∀ b,o b=0->¬ S b):∀ {d:MD} {v:Value},bG o w Nt M d v->bG o w' Nt M d v:=by
 intro d
 induction d with
 | nil=>intro v h;exact h
 | gZ op=>intro v h;exact dH.aH h k h0
 | once q =>
   intro v h
   obtain ⟨dv,h1,h2⟩:=h
   refine ⟨dv,h1.aH k h0,?_⟩
   revert h2
   split
   ·rintro ⟨lv,h2,h3⟩;exact ⟨lv,h2.aH k h0,h3.aH k h0⟩
   split
   ·rintro ⟨lv,h2,h3⟩;exact ⟨lv,h2.aH k h0,h3.aH k h0⟩
   split
   ·rintro ⟨lv,h2,h3⟩;exact ⟨lv,h2.aH k h0,h3.aH k h0⟩
   split
   ·rintro ⟨lv,h2,h3⟩;exact ⟨lv,h2.aH k h0,h3.aH k h0⟩
   ·rintro ⟨lv,h2,h3⟩;exact ⟨lv,h2.aH k h0,h3.aH k h0⟩
 | lX x c t ih =>
   intro v h
   obtain ⟨tv,av,h1,h2,h3⟩:=h
   exact ⟨tv,av,ih h1,h2.aH k h0,h3.aH k h0⟩
 | add x t ih=>intro v h;obtain ⟨tv,h1,h2⟩:=h;exact ⟨tv,ih h1,h2.aH k h0⟩
 | oG c t ih=>intro v h;obtain ⟨tv,h1,h2⟩:=h;exact ⟨tv,ih h1,h2.aH k h0⟩
 | iD c f t ih=>intro v h;obtain ⟨tv,h1,h2⟩:=h;exact ⟨tv,ih h1,h2.aH k h0⟩
 | mW t ih=>intro v h;obtain ⟨tv,h1,h2⟩:=h;exact ⟨tv,ih h1,h2.aH k h0⟩
 | field base f t ih=>intro v h;obtain ⟨tv,h1,h2⟩:=h;exact ⟨tv,ih h1,h2.aH k h0⟩
 | load op base=>intro v h;exact dH.aH h k h0
 | get op=>intro v h;exact dH.aH h k h0
 | jC x rd =>
   intro v h
   obtain ⟨rv,lv,h1,h2,h3⟩:=h
   exact ⟨rv,lv,h1.aH k h0,h2.aH k h0,h3.aH k h0⟩
 | last rd=>intro v h;exact jF.aH h k h0
 | alloc op q=>intro v h;exact dH.aH h k h0
 | assign op q=>intro v h;exact dH.aH h k h0
 | iQ op all =>
   intro v h
   obtain ⟨h1,av,h2,h3⟩:=h
   exact ⟨h1,av,h2.aH k h0,h3.aH k h0⟩
 | iK op q=>intro v h;exact dH.aH h k h0
 | ig op q=>intro v h;exact dH.aH h k h0
 | fD sl c t=>intro v h;exact h.elim
 | fill op a=>intro v h;exact dH.aH h k h0
 | zero op a i=>intro v h;exact dH.aH h k h0
theorem bG.ext {o o':Ow} {w:World} {Nt M:Nat} (e:dL w o o'):∀ {d:MD} {v:Value},bG o w Nt M d v->bG o' w Nt M d v:=by
 intro d
 induction d with
 | nil=>intro v h;exact h
 | gZ op=>intro v h;exact dH.ext h e
 | once q =>
   intro v h
   obtain ⟨dv,h1,h2⟩:=h
   refine ⟨dv,h1.ext e,?_⟩
   revert h2
   split
   ·rintro ⟨lv,h2,h3⟩;exact ⟨lv,h2.ext e,h3.ext e⟩
   split
   ·rintro ⟨lv,h2,h3⟩;exact ⟨lv,h2.ext e,h3.ext e⟩
   split
   ·rintro ⟨lv,h2,h3⟩;exact ⟨lv,h2.ext e,h3.ext e⟩
   split
   ·rintro ⟨lv,h2,h3⟩;exact ⟨lv,h2.ext e,h3.ext e⟩
   ·rintro ⟨lv,h2,h3⟩;exact ⟨lv,h2.ext e,h3.ext e⟩
 | lX x c t ih =>
   intro v h
   obtain ⟨tv,av,h1,h2,h3⟩:=h
   exact ⟨tv,av,ih h1,h2.ext e,h3.ext e⟩
 | add x t ih=>intro v h;obtain ⟨tv,h1,h2⟩:=h;exact ⟨tv,ih h1,h2.ext e⟩
 | oG c t ih=>intro v h;obtain ⟨tv,h1,h2⟩:=h;exact ⟨tv,ih h1,h2.ext e⟩
 | iD c f t ih=>intro v h;obtain ⟨tv,h1,h2⟩:=h;exact ⟨tv,ih h1,h2.ext e⟩
 | mW t ih=>intro v h;obtain ⟨tv,h1,h2⟩:=h;exact ⟨tv,ih h1,h2.ext e⟩
 | field base f t ih=>intro v h;obtain ⟨tv,h1,h2⟩:=h;exact ⟨tv,ih h1,h2.ext e⟩
 | load op base=>intro v h;exact dH.ext h e
 | get op=>intro v h;exact dH.ext h e
 | jC x rd =>
   intro v h
   obtain ⟨rv,lv,h1,h2,h3⟩:=h
   exact ⟨rv,lv,h1.ext e,h2.ext e,h3.ext e⟩
 | last rd=>intro v h;exact jF.ext h e
 | alloc op q=>intro v h;exact dH.ext h e
 | assign op q=>intro v h;exact dH.ext h e
 | iQ op all =>
   intro v h
   obtain ⟨h1,av,h2,h3⟩:=h
   exact ⟨h1,av,h2.ext e,h3.ext e⟩
 | iK op q=>intro v h;exact dH.ext h e
 | ig op q=>intro v h;exact dH.ext h e
 | fD sl c t=>intro v h;exact h.elim
 | fill op a=>intro v h;exact dH.ext h e
 | zero op a i=>intro v h;exact dH.ext h e
theorem dH.form {o:Ow} {w:World} {fn:Nat} {l:List (List Value × TypeId)} {v:Value} (h:dH o w fn l v):v = .nilFunc\/∃ (fn:Nat) (caps:Array Value),v = .func (.func fn) #[] caps:=by
 obtain ⟨bs,e,_⟩:=h
 exact .inr ⟨_,_,e⟩
theorem bG.form {o:Ow} {w:World} {Nt M:Nat} {d:MD} {v:Value} (h:bG o w Nt M d v):v = .nilFunc\/∃ (fn:Nat) (caps:Array Value),v = .func (.func fn) #[] caps:=by
 cases d with
 | nil=>exact .inl h
 | gZ op=>exact dH.form h
 | once q=>obtain ⟨dv,h1,_⟩:=h;exact h1.form
 | lX x c t=>obtain ⟨tv,av,_,_,h3⟩:=h;exact h3.form
 | add x t=>obtain ⟨tv,_,h3⟩:=h;exact h3.form
 | oG c t=>obtain ⟨tv,_,h3⟩:=h;exact h3.form
 | iD c f t=>obtain ⟨tv,_,h3⟩:=h;exact h3.form
 | mW t=>obtain ⟨tv,_,h3⟩:=h;exact h3.form
 | field base f t=>obtain ⟨tv,_,h3⟩:=h;exact h3.form
 | load op base=>exact dH.form h
 | get op=>exact dH.form h
 | jC x rd=>obtain ⟨_,_,_,_,h3⟩:=h;exact h3.form
 | last rd=>obtain ⟨_,_,h3⟩:=h;exact h3.form
 | alloc op q=>exact dH.form h
 | assign op q=>exact dH.form h
 | iQ op all=>obtain ⟨_,_,_,h3⟩:=h;exact h3.form
 | iK op q=>exact dH.form h
 | ig op q=>exact dH.form h
 | fD sl c t=>exact h.elim
 | fill op a=>exact dH.form h
 | zero op a i=>exact dH.form h
theorem iW.form {o:Ow} {w:World} {D0:Nat} {g:Nat × Nat} {q:Nat} {d:MD} {v:Value} (h:iW o w D0 g q d v):v = .nilFunc\/∃ (fn:Nat) (caps:Array Value),v = .func (.func fn) #[] caps:=by
 cases d with
 | fD sl c t=>obtain ⟨_,_,_,_,h3⟩:=h;exact h3.form
 | _=>exact bG.form h
section
variable {o:Ow} {w w':World} {Nt M:Nat}
theorem bG.aP {I:List Nat} {d:MD} {v:Value} (h:bG o w Nt M d v) (k:aj (In o I) w w') (h0:I.contains 0=false):bG o w' Nt M d v:=h.aH k (fun b hb=>fU hb h0)
theorem bG.still {d:MD} {v:Value} (h:bG o w Nt M d v) (k:aj aA w w'):bG o w' Nt M d v:=h.aH k (fun _ _ f=>f)
theorem NP (hf:jS o w) (v c:Nat) (t:MD) (tv:Value) (ht:bG o w Nt M t tv):Calls ay 101 #[ak Nt,ah (v:Int),ah (c:Int),tv] w fun e w'=>∃ nv,e = .returned nv/\bG o w' Nt M (mX v c t) nv/\aj aA w w':=by
 by_cases h0:v=0
 ·subst h0
  have hc:=gJ (o:=o) [([aF Nt],90),([ah 0],3),([ah (c:Int)],3),([tv],95)] w hf
  have HE:Hid (bG o (fZ w [([aF Nt],90),([ah 0],3),([ah (c:Int)],3),([tv],95)]) Nt M (mX 0 c t) tv/\aj aA w (fZ w [([aF Nt],90),([ah 0],3),([ah (c:Int)],3),([tv],95)])):=⟨ht.still hc.2,hc.2⟩
  have hform:=ht.form
  clear hc ht hf
  rcases hform with rfl|⟨fn,caps,rfl⟩
  all_goals
   go_enter func101,ntmps101
   go_wp2_with fail
   go_ret
   exact ⟨_,rfl,HE.out.1,HE.out.2⟩
 ·have d0:((v:Int)==0)=false:=by simp;omega
  obtain ⟨n,hn⟩:∃ n,n=w.heap.size:=⟨_,rfl⟩
  obtain ⟨av,hav⟩:∃ av:Value,av = .func (.func 121) #[] #[aF n,aF (n+1),aF (n+1+1+1)]:=⟨_,rfl⟩
  have hc:=gJ (o:=o) [([aF Nt],90),([ah (v:Int)],3),([ah (c:Int)],3),([tv],95),([av],94)] w hf
  obtain ⟨W,hW⟩:∃ W,W=fZ w [([aF Nt],90),([ah (v:Int)],3),([ah (c:Int)],3),([tv],95),([av],94)]:=⟨_,rfl⟩
  rw [<- hW,<- hn] at hc
  have HE:Hid (bG o W Nt M (mX v c t) (.func (.func 123) #[] #[aF n,aF (n+1),aF (n+1+1),aF (n+1+1+1),aF (n+1+1+1+1)])/\aj aA w W):=by
   refine ⟨?_,hc.2⟩
   unfold mX
   rw [aO h0]
   refine ⟨tv,av,ht.still hc.2,⟨[n,n+1,n+1+1+1],hav,?_⟩,⟨_,rfl,hc.1⟩⟩
   obtain ⟨b0,r0,e0,o0,k0,hc1⟩:=hc.1
   obtain ⟨b1,r1,e1,o1,k1,hc2⟩:=hc1
   obtain ⟨b2,r2,e2,o2,k2,hc3⟩:=hc2
   obtain ⟨b3,r3,e3,o3,k3,hc4⟩:=hc3
   simp only [o7,List.cons.injEq] at e0
   obtain ⟨rfl,rfl⟩:=e0
   simp only [List.cons.injEq] at e1
   obtain ⟨rfl,rfl⟩:=e1
   simp only [List.cons.injEq] at e2
   obtain ⟨rfl,rfl⟩:=e2
   simp only [List.cons.injEq] at e3
   obtain ⟨rfl,rfl⟩:=e3
   exact ⟨_,_,rfl,o0,k0,_,_,rfl,o1,k1,_,_,rfl,o3,k3,rfl⟩
  have EM:W=((((w.alloc (.cells #[ak Nt] 90)).alloc (.cells #[ah (v:Int)] 3)).alloc (.cells #[ah (c:Int)] 3)).alloc (.cells #[tv] 95)).alloc (.cells #[.func (.func 121) #[] #[ak w.heap.size,ak (w.heap.size+1),ak (w.heap.size+1+1+1)]] 94):=by rw [hW,hav,hn];rfl
  have uQ:=au EM
  have HN:=au hn
  have hmf:∀ (fn:Fn) (first aJ:Array Value) (w:World),(Instr.makeFunc fn first aJ).run ay w = .ok (.func fn first aJ) w:=fun _ _ _ _=>rfl
  have hform:=ht.form
  clear hc ht hf h0 hW EM hav hn
  rcases hform with rfl|⟨fn,caps,rfl⟩
  all_goals
   go_enter func101,ntmps101
   go_wp2_with fail
   go_ret
   rw [uQ.out,HN.out] at HE
   exact ⟨_,rfl,HE.out.1,HE.out.2⟩
theorem Aj (hf:jS o w) (c:Nat) (f:Bool) (t:MD) (tv:Value) (ht:bG o w Nt M t tv):Calls ay 129 #[ak Nt,ah (c:Int),.bool f,tv] w fun e w'=>∃ nv,e = .returned nv/\bG o w' Nt M (.iD c f t) nv/\aj aA w w':=by
 have hc:=gJ (o:=o) [([aF Nt],90),([ah (c:Int)],3),([.bool f],4),([tv],95)] w hf
 have HE:Hid (bG o (fZ w [([aF Nt],90),([ah (c:Int)],3),([.bool f],4),([tv],95)]) Nt M (.iD c f t) (.func (.func 155) #[] #[aF w.heap.size,aF (w.heap.size+1),aF (w.heap.size+1+1),aF (w.heap.size+1+1+1)])/\aj aA w (fZ w [([aF Nt],90),([ah (c:Int)],3),([.bool f],4),([tv],95)])):=⟨⟨tv,ht.still hc.2,⟨_,rfl,hc.1⟩⟩,hc.2⟩
 have hmf:∀ (fn:Fn) (first aJ:Array Value) (w:World),(Instr.makeFunc fn first aJ).run ay w = .ok (.func fn first aJ) w:=fun _ _ _ _=>rfl
 have hform:=ht.form
 clear hc ht hf
 rcases hform with rfl|⟨fn,caps,rfl⟩
 all_goals
  go_enter func129,ntmps129
  go_wp2_with fail
  go_ret
  exact ⟨_,rfl,HE.out.1,HE.out.2⟩
end
def aT (i:Nat):List Nat:=[1,2,3,4,10+i,20+i,30+i]
def aG (o:Ow) (w:World) (G:eH) (g:MG) (nv0:Value) (i:Nat) (r:lZ) (e:Ending) (w':World):Prop :=
 ∃ o' nv,e = .returned nv/\dL w o o'/\aQ o' w' G g r.s r.m r.ev nv0/\iW o' w' (G.D 0) (g.Nt,g.M) (30+i) r.next nv/\aj (In o (aT i)) w w'
theorem bD (i:Nat):(aT i).contains 0=false:=by simp [aT];omega
section
variable {o:Ow} {w w':World} {G:eH} {g:MG} {s:Sh} {m:MS} {ev:Option Ev} {nv0:Value}
theorem aQ.cl (h:aQ o w G g s m ev nv0):1<=m.c.l/\m.c.l<=256:=by
 have h1:=(iT h.sh.heap.fV.ok).2.2.2.2.2.1
 rw [<- h.uO] at h1;exact h1
theorem aQ.full (h:aQ o w G g s m ev nv0):((m.bJ.length:Int)==m.c.l)=decide (m.bJ.length=m.c.l.toNat):=by
 have:=h.cl
 rw [Bool.eq_iff_iff]
 simp;omega
theorem aQ.aav (h:aQ o w G g s m ev nv0):(m.bJ.length:Int)<=m.c.l:=h.uP
theorem aQ.UM (h:aQ o w G g s m ev nv0):dZ o w (G.bx m.id) 141 [] (s.box m.id)/\o (G.bx m.id)=10+m.id:=by
 have:=h.sh.box m.id (s.eF[m.id]'h.qB) (abr h.qB)
 unfold Sh.box
 rw [List.getD_eq_getElem?_getD,abr h.qB]
 exact this
theorem aG.same {r:lZ} {nv:Value} {w':World} {i:Nat} (h:aQ o w' G g r.s r.m r.ev nv0) (hc:bG o w' g.Nt g.M r.next nv) (k:aj (In o (aT i)) w w'):aG o w G g nv0 i r (.returned nv) w':=⟨o,nv,rfl,dL.refl _ _,h,iW.of (g:=(g.Nt,g.M)) hc,k⟩
theorem Ic (h:aQ o w G g s m ev nv0) (k:aj (only g.Bf) w w'):aj (In o (aT m.id)) w w':=k.rU h.uN (by simp [aT])
theorem EN (h:aQ o w G g s m ev nv0) (x:Nat) (t:MD) (tv:Value) (ht:bG o w g.Nt g.M t tv) (b0 b1 b2:Nat) (o0:o b0=0) (o1:o b1=0) (o2:o b2=0) (h0:aB w b0 [aF g.Nt] 90) (h1:aB w b1 [ah (x:Int)] 3) (h2:aB w b2 [tv] 95) :
 Calls ay 121 #[ak b0,ak b1,ak b2] w fun e w'=>e = .returned tv/\aQ o w' G g (stepM s m (.add x t)).s (stepM s m (.add x t)).m ev nv0/\bG o w' g.Nt g.M t tv/\aj (In o (aT m.id)) w w':=by
 have c0:w.cell? ⟨b0,0,none⟩=some (ak g.Nt):=h0.cell 0 rfl
 have c1:=h1.cell 0 rfl
 have n1:w.cell? ⟨g.Nt,1,none⟩=some (ak g.Bf):=h.nt.cell 1 rfl
 have hcl:=h.cl
 have YW:=h.uP
 have gI:Hid (Calls ay 122 #[ak g.Bf,ah (x:Int)] w.drew fun e w'=>(∃ r,e = .returned (.bool r))/\aQ o w' G g (stepM s m (.add x t)).s (stepM s m (.add x t)).m ev nv0/\bG o w' g.Nt g.M t tv/\aj (In o (aT m.id)) w w'/\aB w' b2 [tv] 95):=by
  have hd:=h.still (k:=(aj.refl aA w).drew)
  have htd:=ht.still (k:=(aj.refl aA w).drew)
  have hkd:aj aA w w.drew:=(aj.refl aA w).drew
  have NQ:=h.full
  by_cases hf:m.bJ.length=m.c.l.toNat
  ·rw [cZ hf] at NQ
   refine (NI hd.bJ x NQ).mono ?_
   rintro e w' ⟨rfl,k⟩
   have e1:stepM s m (.add x t)=⟨s,m,t,none⟩:=by simp only [stepM,aV hf]
   rw [e1]
   exact ⟨⟨_,rfl⟩,hd.still k,htd.still k,(hkd.trans k).bU,(hkd.trans k).aC h2 (fun f=>f)⟩
  ·rw [dD hf] at NQ
   refine (NJ hd.bJ x NQ hd.sh.fK (by omega)).mono ?_
   rintro e w' ⟨rfl,hb,k⟩
   have e1:stepM s m (.add x t)=⟨s,{ m with bJ:=m.bJ++[x] },t,none⟩:=by simp only [stepM,aO hf]
   rw [e1]
   have kk:aj (In o (aT m.id)) w w':=(hkd.bU).trans (Ic hd k)
   have hlen:((m.bJ++[x]).length:Int)<=m.c.l:=by
    have h9:=h.aav
    simp only [List.length_append,List.length_cons,List.length_nil]
    omega
   exact ⟨⟨_,rfl⟩,(hd.CW k hb hlen).1,ht.aP kk (bD _),kk,h2.aP kk o2 (bD _)⟩
 have _:=o0
 have _:=o1
 have hform:=ht.form
 generalize (stepM s m (.add x t)).s=s' at *
 generalize (stepM s m (.add x t)).m=m' at *
 clear h ht o0 o1 o2 h0 h1 h2 hcl YW
 rcases hform with rfl|⟨fn,caps,rfl⟩
 all_goals
  go_enter func121,ntmps121
  go_wp2_with fail
  refine aN 5 rfl (by kernel_rfl) (by kernel_rfl) (fun K hK=>?_)
  change wpStill _ _ (World.drew _) _ _ _
  simp only [List.take_succ_cons,List.take_zero,List.drop_succ_cons,List.drop_zero] at hK ⊢
  repeat still_step
  refine wpStill_nil ?_
  change ite _ (Oper.wp _ _ _ w.drew _ _) _
  go_simp
  refine gI.out.mono ?_
  rintro e w1 ⟨⟨r,rfl⟩,g1,g2,g3,g4⟩
  refine hK _ _ ?_
  clear hK K
  have HR:=au (And.intro g1 (And.intro g2 g3))
  have c2:=g4.cell 0 rfl
  clear g1 g2 g3 g4 c0 c1 n1 gI
  refine wpStill_nil ?_
  go_wp2_with fail
  go_ret
  exact ⟨rfl,HR.out.1,HR.out.2.1,HR.out.2.2⟩
end
end
end Go.Proofs.YtobfpmijbfgmeabGreatDoor
