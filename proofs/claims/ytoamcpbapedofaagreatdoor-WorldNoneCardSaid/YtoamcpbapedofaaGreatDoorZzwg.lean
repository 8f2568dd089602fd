/- Parts of the fP. No conditions. -/
import Derived.Test.YtoamcpbapedofaaGreatDoorZzwf
namespace Go.Proofs.YtoamcpbapedofaaGreatDoor
open _root_.Go.World renaming ownsRow_nil->IQ,size_alloc->H9
open _root_.List renaming eq_nil_of_length_eq_zero->IK,flatten_cons->IV,getElem?_append_left->Hu,getElem?_append_right->Hw,getElem?_eq_some_iff->Ik,mem_map->IW,range->IL,replicate->Ht
open _root_.Nat renaming le_refl->Ho,not_lt_zero->IU,zero_le->Il
open _root_.Go.Proofs.Tryz hiding prog
open _root_.Go.Proofs.Tryz renaming prog->ay
set_option maxRecDepth 10000
set_option maxHeartbeats 8000000
section
attribute [local go_sem ↓] jB
attribute [local go_sem] Oper.semAt_some
open Go.RowKit
theorem Tryz.infoPBox:(ay.info? 145).map (fun i=>(i.zero,i.size,i.bytes))=some (some (.pointer none),1,8):=by kernel_rfl
theorem Cc (w:World):Calls ay 75 #[] w fun e w'=>e = .returned (au w.heap.size)/\w'=w.alloc (.cells #[.slice none 0 0,.slice none 0 0,.slice none 0 0,.slice none 0 0,ah 0] 208):=by
 go_enter func75,ntmps75
 go_wp2_with fail
 go_ret
 exact ⟨rfl,rfl⟩
theorem AB (w:World):Calls ay 76 #[] w fun e w'=>e = .returned (au w.heap.size)/\w'=w.alloc (.cells #[.slice none 0 0] 212):=by
 go_enter func76,ntmps76
 go_wp2_with fail
 go_ret
 exact ⟨rfl,rfl⟩
theorem jG.first {o:Ow} {w:World} {B:Nat} (hB:o B≠0) (hb:aC w B [.slice none 0 0,.slice none 0 0,.slice none 0 0,.slice none 0 0,ah 0] 208):jG o w B ⟨[[],[],[],[]],0⟩:=by
 refine ⟨hB,rfl,[.slice none 0 0,.slice none 0 0,.slice none 0 0,.slice none 0 0],rfl,hb,fun i v zs h1 h2=>?_⟩
 match i with
 | 0=>simp at h1 h2;subst h1 h2;exact dK.nil _ _ _
 | 1=>simp at h1 h2;subst h1 h2;exact dK.nil _ _ _
 | 2=>simp at h1 h2;subst h1 h2;exact dK.nil _ _ _
 | 3=>simp at h1 h2;subst h1 h2;exact dK.nil _ _ _
 | n+4=>simp at h1
theorem dK.Ce {o:Ow} {w:World} {T:TypeId} {v:Value} {xs:List Value} {base n:Nat} (h:w.ownsRow base T 1 v n xs) (hm:n<=4000000000000) (hf:∀ b,v.ownBlock=some b->o b=0):dK o w T v xs:=by
 obtain ⟨hl,hf2⟩:=h
 rcases hf2 with ⟨rfl,rfl⟩|⟨g,cap,cur,rfl,hg0,hg,hn,_,hs,hc⟩
 ·have:xs=[]:=IK (by simpa using hl)
  subst this
  exact dK.nil _ _ _
 ·have hnl:n=xs.length:=by simpa using hl.symm
  subst hnl
  refine ⟨_,cap,rfl,hn,hm,fun _=>⟨g,0,cur.toList,rfl,hf g rfl,by unfold aC;simpa using hg,fun j hj=>?_⟩⟩
  rw [<- hc]
  simp [hj]
structure sS (W0:World) (S N0:Nat) (ps:List Value) (j:Nat) (W:World):Prop where
 aB:aj (only S) W0 W
 row:∃ (sv:Value) (bx:Nat->Nat),aC W S (ps++[sv]) 144/\W.ownsRow N0 145 1 sv j ((IL j).map fun i=>aF (bx i))/\(∀ i,i<j->N0<=bx i/\bx i<W.heap.size/\aC W (bx i) [.slice none 0 0] 212)/\∀ i k,i<k->k<j->bx i<bx k
theorem AL (o0:Ow) (hz0:o0 2=0/\o0 1=0/\o0 11=0) {w:World} {D:Nat->Nat} {H:HS} {B Q Fl S N0:Nat} {b:Bd} {W0 W1 W2:World} {n:Nat} (hH:dh W1 D H) (hD:∀ i,i<13->w.heap.size<=D i) (hsz:w.heap.size<=W1.heap.size) (hB:dZ W0 B b) (hQ:aC W0 Q [.slice none 0 0,.slice none 0 0,.slice none 0 0,.slice none 0 0,ah 0] 208)
 (hF:aC W0 Fl [.bool false] 141) (h1:W1.heap.size<=B) (h2:B<Q) (h3:Q<Fl) (h4:Fl<S) (h5:S<N0) (h6:N0=W0.heap.size) (k1:aj ak W1 W0) (hgl:2<w.heap.size/\1<w.heap.size/\11<w.heap.size) (hn:n<=8) (hI:sS W0 S N0 [aF (D 0),aF B,aF Q,aF Fl] n W2) :
 ∃ (o:Ow) (G:bK),G.S=S/\aZ o W2 G ⟨H,b,⟨[[],[],[],[]],0⟩,false,Ht n []⟩/\(∀ x,x<w.heap.size->o x=o0 x)/\∀ x,w.heap.size<=x->o x<20:=by
 obtain ⟨hk,sv,bx,hS,hrow,hbx,hmono⟩:=hI
 have hDlt:∀ i,i<13->D i<W1.heap.size:=fun i hi=>hH.DL i hi
 classical
 obtain ⟨o,ho⟩:∃ o:Ow,∀ x,o x=if x<w.heap.size then o0 x else if x<W1.heap.size then (if ∃ i,i<13/\D i=x then 1 else 0) else if x=B then 2 else if x=Q then 3 else if x=Fl then 4 else if h:∃ i,i<n/\bx i=x then 10+h.choose else 0:=⟨fun x=>if x<w.heap.size then o0 x else if x<W1.heap.size then (if ∃ i,i<13/\D i=x then 1 else 0) else if x=B then 2 else if x=Q then 3 else if x=Fl then 4 else if h:∃ i,i<n/\bx i=x then 10+h.choose else 0,fun _=>rfl⟩
 have Ci:∀ i,i<n->o (bx i)=10+i:=fun i hi=>by
  have hb:=hbx i hi
  rw [ho,bT (by omega),bT (by omega),bT (by omega),bT (by omega),bT (by omega)]
  have hex:∃ k,k<n/\bx k=bx i:=⟨i,hi,rfl⟩
  rw [dif_pos hex]
  have hc:=hex.choose_spec
  rcases Nat.lt_trichotomy hex.choose i with h|h|h
  ·have:=hmono _ _ h hi;omega
  ·omega
  ·have:=hmono _ _ h hc.1;omega
 have hO:o S=0:=by
  rw [ho,bT (by omega),bT (by omega),bT (by omega),bT (by omega),bT (by omega),dif_neg]
  rintro ⟨i,hi,e⟩
  have:=(hbx i hi).1;omega
 have FP:o B=2:=by rw [ho,bT (by omega),bT (by omega),jh rfl]
 have Ec:o Q=3:=by rw [ho,bT (by omega),bT (by omega),bT (by omega),jh rfl]
 have FQ:o Fl=4:=by rw [ho,bT (by omega),bT (by omega),bT (by omega),bT (by omega),jh rfl]
 have FT:∀ i,i<13->o (D i)=1:=fun i hi=>by
  rw [ho,bT (by have:=hD i hi;omega),jh (hDlt i hi),jh ⟨i,hi,rfl⟩]
 have hz:∀ x,x<w.heap.size->o x=o0 x:=fun x hx=>by rw [ho,jh hx]
 have hS0:S<W0.heap.size:=by omega
 refine ⟨o,⟨S,D,B,Q,Fl,bx⟩,rfl,⟨?_,⟨sv,hS,?_⟩,hO,?_,FT,⟨(hz _ hgl.1).trans hz0.1,(hz _ hgl.2.1).trans hz0.2.1,(hz _ hgl.2.2).trans hz0.2.2⟩,?_,FP,?_,Ec,?_,FQ,?_⟩,hz,fun x hx0=>?_⟩
 ·intro x hx
  have h9:=hk.size
  rw [ho,bT (by omega),bT (by omega),bT (by omega),bT (by omega),bT (by omega),dif_neg]
  rintro ⟨i,hi,e⟩
  have:=(hbx i hi).2.1;omega
 ·have e:(Ht n ([]:List Nat)).length=n:=by simp
  show dK o W2 145 sv ((IL (Ht n ([]:List Nat)).length).map fun i=>aF (bx i))
  rw [e]
  refine dK.Ce hrow (by omega) (fun g hg=>?_)
  have hgl2:=(World.ownsRow.lt hrow g hg).1
  rw [ho,bT (by omega),bT (by omega),bT (by omega),bT (by omega),bT (by omega),dif_neg]
  rintro ⟨i,hi,e⟩
  exact iI (hbx i hi).2.2 hrow (by decide) (by rw [hg,e])
 ·exact (hH.still k1).aB hk (fun i hi e=>by have:=hDlt i hi;unfold only at e;omega) (fun e=>by unfold only at e;omega) (fun e=>by unfold only at e;omega) (fun e=>by unfold only at e;omega)
 ·exact hB.aB hk (fun e=>by unfold only at e;omega)
 ·exact jG.first (by rw [Ec];decide) (hk.aO hQ (fun e=>by have e':Q=S:=e;omega))
 ·exact hk.aO hF (fun e=>by have e':Fl=S:=e;omega)
 ·intro i l hi
  have hin:i<n:=by have:=(Ik.1 hi).1;simpa using this
  have el:l=[]:=by simp [List.getElem?_replicate,hin] at hi;exact hi
  subst el
  exact ⟨⟨by rw [Ci i hin];omega,.slice none 0 0,(hbx i hin).2.2,dK.nil _ _ _,fun _ _ e=>by cases e;rfl⟩,Ci i hin⟩
 ·rw [ho,bT (by omega)]
  repeat' split
  all_goals first|omega|(rename_i hex;have:=hex.choose_spec.1;omega)
theorem zf (c:aI) (hok:c.ok=false) (w:World) (hT:dW w):Calls ay 39 #[.agg c.cells.toArray] w fun e w'=>e = .returned (.tuple #[.pointer none,ah 1])/\aj ak w w':=by
 obtain ⟨W0,hW0⟩:∃ W',W'=w.alloc (.cells c.cells.toArray 23):=⟨_,rfl⟩
 have HK:Hid (aj ak w W0):=by rw [hW0];exact (aj.refl _ _).alloc _
 have HN:=aA (Au c hok W0 (hT.aB HK.out))
 have HB:=aA (show aC W0 w.heap.size c.cells 23 by rw [hW0];exact aC.aS w _ _)
 obtain ⟨c0,c1,c2,c3,c4,c5,c6⟩:=c
 simp only [aI.cells] at *
 clear hT hok
 have HW0:=aA hW0
 clear hW0
 go_enter func39,ntmps39
 go_wp2_with fail
 rw [<- HW0.out]
 refine HN.out.mono ?_
 rintro e w1 ⟨rfl,k1⟩
 have HE:=aA (HK.out.trans k1)
 clear k1
 go_wp2_with fail
 go_ret2
 exact ⟨rfl,HE.out⟩
theorem qG (o0:Ow) (hz0:o0 2=0/\o0 1=0/\o0 11=0) (c:aI) (b ww nc n:Nat) (hok:c.ok=true) (hcb:c.b=b) (hcw:c.w=ww) (hcc:c.c=nc) (hcm:c.m=n) (w:World) (hT:dW w) (hS:fJ w) (hgl:2<w.heap.size/\1<w.heap.size/\11<w.heap.size):Calls ay 39 #[.agg c.cells.toArray] w fun e w'=>∃ (o:Ow) (G:bK),e = .returned (.tuple #[au G.S,ah 0])/\aZ o w' G (Sh.aS c b ww nc n)/\(∀ x,x<w.heap.size->o x=o0 x)/\(∀ x,w.heap.size<=x->o x<20)/\aj ak w w':=by
 obtain ⟨W0,hW0⟩:∃ W',W'=w.alloc (.cells c.cells.toArray 23):=⟨_,rfl⟩
 have HK:Hid (aj ak w W0):=by rw [hW0];exact (aj.refl _ _).alloc _
 have HN:=aA (Aw c b ww nc hok hcb hcw hcc W0 (hT.aB HK.out) (hS.aB HK.out))
 have HB:=aA (show aC W0 w.heap.size c.cells 23 by rw [hW0];exact aC.aS w _ _)
 have jl:=dH hok
 have hn1:1<=n/\n<=8:=by omega
 have zX:=aA hn1
 have bH:Hid (∀ W,Calls ay 74 #[ah (n:Int)] W fun e w'=>e = .returned (.tuple #[au W.heap.size,ah 0])/\dZ w' W.heap.size (Bd.aS (n:Int))/\aj ak W w'):=fun W=>vJ (n:Int) W (by omega) (by omega)
 have nG:Hid (∀ (D:Nat->Nat) (B Q Fl S N0:Nat) (W1 W2 W3:World),dh W1 D (HS.aS c b ww nc)->(∀ i,i<13->w.heap.size<=D i)->w.heap.size<=W1.heap.size->dZ W2 B (Bd.aS (n:Int))->aC W2 Q [.slice none 0 0,.slice none 0 0,.slice none 0 0,.slice none 0 0,ah 0] 208->aC W2 Fl [.bool false] 141 ->
  W1.heap.size<=B->B<Q->Q<Fl->Fl<S->S<N0->N0=W2.heap.size->aj ak W1 W2->sS W2 S N0 [aF (D 0),aF B,aF Q,aF Fl] n W3->∃ (o:Ow) (G:bK),G.S=S/\aZ o W3 G (Sh.aS c b ww nc n)/\(∀ x,x<w.heap.size->o x=o0 x)/\∀ x,w.heap.size<=x->o x<20) :=
  fun D B Q Fl S N0 W1 W2 W3 p1 p2 p3 p4 p5 p6 p7 p8 p9 p10 p11 p12 p13 p14=>AL o0 hz0 p1 p2 p3 p4 p5 p6 p7 p8 p9 p10 p11 p12 p13 hgl hn1.2 p14
 obtain ⟨c0,c1,c2,c3,c4,c5,c6⟩:=c
 simp only at hcm
 subst hcm
 simp only [aI.cells] at HN HB ⊢
 have HW0:=aA hW0
 clear hT hok hS hgl jl hcb hcw hcc hW0
 go_enter func39,ntmps39
 go_wp2_with fail
 simp only [aI.cells] at HW0
 rw [<- HW0.out]
 refine HN.out.mono ?_
 rintro e w1 ⟨D,rfl,hH,hD,k1⟩
 have HH:=aA hH
 have HD:Hid (∀ i,i<13->w.heap.size<=D i):=fun i hi=>Nat.le_trans HK.out.size (hD i hi)
 have hb1:=k1.aO HB.out (fun f=>f)
 have y2:w1.cell? ⟨w.heap.size,2,none⟩=some (ah (n:Int)):=hb1.cell 2 rfl
 have HB1:=aA hb1
 have dI:=aA (HK.out.trans k1)
 clear hH hD k1 HB HK HN hb1
 go_wp2_with fail
 refine (bH.out _).mono ?_
 rintro e w2 ⟨rfl,hBd,k2⟩
 have zM:=aA hBd
 have cu:=aA k2
 have hb2:=k2.aO HB1.out (fun f=>f)
 have HB2:=aA hb2
 clear hBd k2 y2 HB1 hb2 bH
 go_wp2_with fail
 refine (Cc _).mono ?_
 rintro e w3 ⟨rfl,hw3⟩
 obtain ⟨W5,ny⟩:∃ W5,W5=(w3.alloc (.cells #[.bool false] 141)).alloc (.cells #[aF (D 0),aF w1.heap.size,aF w2.heap.size,aF w3.heap.size,.slice none 0 0] 144):=⟨_,rfl⟩
 have k3:aj ak w2 w3:=by rw [hw3];exact (aj.refl _ _).alloc _
 have k5:aj ak w3 W5:=by rw [ny];exact ((aj.refl _ _).alloc _).alloc _
 have e3:w3.heap.size=w2.heap.size+1:=by rw [hw3];simp
 have e5:W5.heap.size=w3.heap.size+2:=by rw [ny];simp
 have hq:aC w3 w2.heap.size [.slice none 0 0,.slice none 0 0,.slice none 0 0,.slice none 0 0,ah 0] 208:=by rw [hw3];exact aC.aS w2 _ _
 have hfl:aC W5 w3.heap.size [.bool false] 141:=by rw [ny];exact (aC.aS w3 _ _).alloc _
 have hsh:aC W5 (w3.heap.size+1) [aF (D 0),aF w1.heap.size,aF w2.heap.size,aF w3.heap.size,.slice none 0 0] 144:=by
  rw [ny]
  have h9:=aC.aS (w3.alloc (.cells #[.bool false] 141)) [aF (D 0),aF w1.heap.size,aF w2.heap.size,aF w3.heap.size,.slice none 0 0] 144
  rw [H9] at h9
  exact h9
 have HI0:Hid (sS W5 (w3.heap.size+1) W5.heap.size [aF (D 0),aF w1.heap.size,aF w2.heap.size,aF w3.heap.size] 0 W5):=⟨aj.refl _ _,.slice none 0 0,fun _=>0,hsh,IQ _ _ _ _,fun i hi=>absurd hi (IU i),fun i k _ hk=>absurd hk (IU k)⟩
 have hb5:=(k3.trans k5).aO HB2.out (fun f=>f)
 have y2:∀ x y,((w3.alloc x).alloc y).cell? ⟨w.heap.size,2,none⟩=some (ah (n:Int)):=fun x y=>(((k3.aO HB2.out (fun f=>f)).alloc x).alloc y).cell 2 rfl
 have eY:Hid (∀ W3,sS W5 (w3.heap.size+1) W5.heap.size [aF (D 0),aF w1.heap.size,aF w2.heap.size,aF w3.heap.size] n W3->∃ (o:Ow) (G:bK),G.S=w3.heap.size+1/\aZ o W3 G (Sh.aS ⟨c0,c1,n,c3,c4,c5,c6⟩ b ww nc n)/\(∀ x,x<w.heap.size->o x=o0 x)/\(∀ x,w.heap.size<=x->o x<20)/\aj ak w W3):=fun W3 hI=>by
  have s2:=zM.out.aO.lt
  have s1:=dI.out.size
  obtain ⟨o,G,g1,g2,g3,g4⟩:=nG.out D w1.heap.size w2.heap.size w3.heap.size (w3.heap.size+1) W5.heap.size w1 W5 W3 HH.out HD.out dI.out.size (zM.out.aB (k3.trans k5) (fun f=>f)) (k5.aO hq (fun f=>f)) hfl (Ho _) (by omega) (by omega) (by omega) (by omega) rfl ((cu.out.trans k3).trans k5) hI
  exact ⟨o,G,g1,g2,g3,g4,(((dI.out.trans cu.out).trans k3).trans k5).Dt hI.aB (by omega)⟩
 have FU:=aA ny
 have ni:Hid (W5.heap.size=w3.heap.size+2):=e5
 have kN:Hid (w.heap.size<W5.heap.size/\w.heap.size≠w3.heap.size+1):=by
  have:=HB2.out.lt;exact ⟨by omega,by omega⟩
 have BR:=aA hb5
 clear k3 k5 e3 e5 hq hfl hsh hb5 hw3 zM cu HB2 nG HH HD dI ny
 go_wp2_with fail
 rw [<- FU.out]
 clear y2
 go_loopw [32] (fun i wr=>∃ k:Nat,k<=n/\i = ah k/\sS W5 (w3.heap.size+1) W5.heap.size [aF (D 0),aF w1.heap.size,aF w2.heap.size,aF w3.heap.size] k wr) (fun i _=>n - (intOf i).toNat)
 case atStart=>exact ⟨0,Il _,rfl,HI0.out⟩
 case round =>
  obtain ⟨k,hk,rfl,hI⟩:=hrel
  by_cases hlt:k<n
  ·obtain ⟨hkp,sv,bx,hS,hrow,hbx,hmono⟩:=hI
   obtain ⟨sa,sc,rfl⟩:∃ a c,sv = .slice a k c:=by
    obtain ⟨a,cap,rfl,_⟩:=rG (iQ hrow (Il _))
    exact ⟨a,cap,rfl⟩
   have wu:(k:Int)<(n:Int):=by omega
   have hk8:k<8:=by have:=zX.out;omega
   have GX:(k:Int)<8:=by omega
   have hsS:w3.heap.size+1<wr.heap.size:=hS.lt
   have HL:Hid (Calls ay 76 #[] wr.drew fun e w9=>e = .returned (au wr.heap.size)/\w9.cell? ⟨w3.heap.size+1,4,none⟩=some (.slice sa k sc)/\(∀ x,(w9.alloc x).cell? ⟨w3.heap.size+1,4,none⟩=some (.slice sa k sc)) /\
    ∃ q cap w5,(app9 #[142,142] 142 #[.slice sa k sc,.slice (some ⟨w9.heap.size,0,none⟩) 1 1]).run ay (w9.alloc (.cells #[au wr.heap.size] 145)) = .ok (.slice (some ⟨q,0,none⟩) (k+1) cap) w5/\w5.frozen? ⟨w3.heap.size+1,4,none⟩=false/\w5.cell? ⟨w3.heap.size+1,4,none⟩=some (.slice sa k sc) /\
     Hid (sS W5 (w3.heap.size+1) W5.heap.size [aF (D 0),aF w1.heap.size,aF w2.heap.size,aF w3.heap.size] (k+1) (w5.setCell ⟨w3.heap.size+1,4,none⟩ (.slice (some ⟨q,0,none⟩) (k+1) cap)))):=by
    refine (AB _).mono ?_
    rintro e w9 ⟨rfl,hw9⟩
    have k9:aj ak wr w9:=by rw [hw9];exact ((aj.refl ak wr).drew).alloc _
    have e9:w9.heap.size=wr.heap.size+1:=by rw [hw9];simp
    have hb9:aC w9 wr.heap.size [.slice none 0 0] 212:=by rw [hw9];exact aC.aS wr.drew _ _
    obtain ⟨W1,hW1⟩:∃ W1,W1=w9.alloc (.cells #[au wr.heap.size] 145):=⟨_,rfl⟩
    have k91:aj ak w9 W1:=by rw [hW1];exact (aj.refl _ _).alloc _
    have k1:aj ak wr W1:=k9.trans k91
    have hN1:W1.cell? ⟨w9.heap.size,0,none⟩=some (au wr.heap.size):=by
     rw [hW1];exact (aC.aS w9 [au wr.heap.size] 145).cell 0 rfl
    have hbn:aC W1 wr.heap.size [.slice none 0 0] 212:=k91.aO hb9 (fun f=>f)
    have e1:W1.heap.size=wr.heap.size+2:=by rw [hW1];simp [e9]
    have Ed:=k9.aO hS (fun f=>f)
    have hrow1:=lK hrow k1
    obtain ⟨q,cap,w5,hrun,hown,hgr,hq⟩:=qw (P:=ay) W1 142 142 145 (by kernel_rfl) Tryz.infoPBox rfl (iQ hrow1 (Il _)) (N:=w9.heap.size) (u := au wr.heap.size) hN1 rfl (by decide) (by omega)
    have ES:(Value.slice sa k sc).ownBlock≠some (w3.heap.size+1):=iI (k1.aO hS (fun f=>f)) hrow1 (by decide)
    have ET:∀ i,i<k->(Value.slice sa k sc).ownBlock≠some (bx i):=fun i hi=>iI (k1.aO (hbx i hi).2.2 (fun f=>f)) hrow1 (by decide)
    have EU:(Value.slice sa k sc).ownBlock≠some wr.heap.size:=iI hbn hrow1 (by decide)
    have hS5:aC w5 (w3.heap.size+1) ([aF (D 0),aF w1.heap.size,aF w2.heap.size,aF w3.heap.size]++[.slice sa k sc]) 144:=(k1.aO hS (fun f=>f)).kR hgr ES
    have f5:=hS5.free 4
    have c5:w5.cell? ⟨w3.heap.size+1,4,none⟩=some (.slice sa k sc):=hS5.cell 4 rfl
    have hge:W5.heap.size<=q:=by
     rcases hq with h|h
     ·exact (World.ownsRow.lt hrow1 q h).1
     ·have:=hkp.size;omega
    have wz:Hid (sS W5 (w3.heap.size+1) W5.heap.size [aF (D 0),aF w1.heap.size,aF w2.heap.size,aF w3.heap.size] (k+1) (w5.setCell ⟨w3.heap.size+1,4,none⟩ (.slice (some ⟨q,0,none⟩) (k+1) cap))):=by
     have s5:=hgr.size
     have sk:=hkp.size
     have hsz:=ni.out
     refine ⟨?_,.slice (some ⟨q,0,none⟩) (k+1) cap,fun i=>if i=k then wr.heap.size else bx i,?_,?_,?_,?_⟩
     ·have h8:aj (fun x=>(Value.slice sa k sc).ownBlock=some x) wr w5:=(k1.mono (fun _ _ f=>f.elim)).trans ⟨hgr.os,hgr.tape,hgr.output,hgr.size,fun x hx hn=>hgr.block x hx (fun e=>by first|exact hn e|exact hn e.symm)⟩
      have h9:aj (only (w3.heap.size+1)) W5 w5:=hkp.gW h8 (fun i hi hin=>absurd (World.ownsRow.lt hrow1 i hin).1 (by omega))
      exact h9.put 4 _
     ·exact hS5.set 4 _
     ·have e:(IL (k+1)).map (fun i=>aF (if i=k then wr.heap.size else bx i))=(IL k).map (fun i=>aF (bx i))++[aF wr.heap.size]:=by
       rw [List.range_succ,List.map_append]
       congr 1
       ·refine List.map_congr_left (fun i hi=>?_)
        rw [bT (by have:=List.mem_range.1 hi;omega)]
       ·simp
      rw [e]
      exact Bc (wV (a:=⟨w3.heap.size+1,4,none⟩) hown (fun x hx=>by simp [Value.ownBlock] at hx;show x≠w3.heap.size+1;omega) _) hge
     ·intro i hi
      by_cases e:i=k
      ·subst e
       dsimp only
       rw [jh rfl]
       exact ⟨sk,by simp;omega,(hbn.kR hgr EU).iG (by simp;omega) _⟩
      ·dsimp only
       rw [bT e]
       obtain ⟨g1,g2,g3⟩:=hbx i (by omega)
       exact ⟨g1,by simp;omega,((k1.aO g3 (fun f=>f)).kR hgr (ET i (by omega))).iG (by simp;omega) _⟩
     ·intro i j hij hj
      by_cases e:j=k
      ·subst e
       dsimp only
       rw [jh rfl,bT (by omega)]
       exact (hbx i hij).2.1
      ·dsimp only
       rw [bT e,bT (by omega)]
       exact hmono i j hij (by omega)
    exact ⟨rfl,Ed.cell 4 rfl,fun x=>(Ed.alloc x).cell 4 rfl,q,cap,w5,by rw [<- hW1];exact hrun,f5,c5,wz⟩
   have c0:wr.cell? ⟨w3.heap.size+1,4,none⟩=some (.slice sa k sc):=hS.cell 4 rfl
   have GY:wr.drew.cell? ⟨w3.heap.size+1,4,none⟩=some (.slice sa k sc):=((aj.refl ak wr).drew).still c0
   clear hkp hS hrow hbx hmono
   go_wp2_with fail
   go_region_with (go_at_call 76;refine HL.out.mono ?_;rintro e w9 ⟨rfl,GZ,G5,q,cap,w5,hrun9,f5,c5,wz⟩)
   all_goals
    go_wp2_with fail
    go_roundw
    case rel=>exact ⟨k+1,by omega,by go_num,wz.out⟩
    case measure=>simp [intOf]<;>omega
  ·have e1:k=n:=by omega
   subst e1
   have HE:=aA (eY.out wr hI)
   have hnlt:¬ (k:Int)<(k:Int):=by omega
   clear hI hlt
   go_wp2_with fail
   go_ret2
   obtain ⟨o,G,g1,g2,g3,g4,g5⟩:=HE.out
   exact ⟨o,G,by rw [g1];rfl,g2,g3,g4,g5⟩
end
section
open Go.RowKit
theorem Tryz.infoOpC:(ay.info? 75).map (fun i=>(i.zero,i.size,i.bytes))=some (some (.agg #[ah 0,ah 0,ah 0,ah 0]),4,32):=by kernel_rfl
theorem sU {sz:Nat} (h0:0<sz):∀ (rs:List (List Value)),(∀ r∈rs,r.length=sz)->∀ j u,rs.flatten[j]?=some u->∃ i r q,rs[i]?=some r/\r[q]?=some u/\j=i*sz+q
 | [],_,j,u,h=>by simp at h
 | r0::rs,hr,j,u,h=>by
   have hl:r0.length=sz:=hr r0 (by simp)
   rw [IV] at h
   rcases Nat.lt_or_ge j r0.length with h1|h1
   ·rw [Hu h1] at h
    exact ⟨0,r0,j,rfl,h,by omega⟩
   ·rw [Hw h1] at h
    obtain ⟨i,r,q,e1,e2,e3⟩:=sU h0 rs (fun r h=>hr r (by simp [h])) _ u h
    refine ⟨i+1,r,q,by simpa using e1,e2,?_⟩
    rw [Nat.succ_mul];omega
theorem cZ.qH {w:World} {a:Option Addr} {n sz:Nat} {rs:List (List Value)} (h:cZ w a n sz rs) (hs:0<sz) (hr:∀ r∈rs,r.length=sz) {ad:Addr} (ha:a=some ad):∀ j u,rs.flatten[j]?=some u->w.cell? (ad.add j)=some u:=by
 intro j u hj
 obtain ⟨i,r,q,e1,e2,rfl⟩:=sU hs rs hr j u hj
 have hi:=(Ik.1 e1).1
 obtain ⟨b,off,e,hc⟩:=h.iD (by have:=h.len;omega)
 rw [ha] at e
 injection e with e
 subst e
 have ea:(⟨b,off,none⟩:Addr).add (i*sz+q)=⟨b,off+i*sz+q,none⟩:=by simp only [Addr.add];split<;>simp_all<;>omega
 rw [ea]
 exact hc i r e1 q u e2
theorem uj (a:Option Addr) (n c:Nat) (rs:List (List Value)) (w:World) (h:cZ w a n 4 rs) (hr:∀ r∈rs,r.length=4) (hnil:a=none->c=0) (hm:n<=100000000) (h1:∀ r∈rs,∀ u∈r,u.oneCell'=true) :
 Calls ay 81 #[.slice a n c] w fun e w'=>∃ v',e = .returned v'/\w'.ownsRow w.heap.size 75 4 v' n rs.flatten/\aj ak w w':=by
 have hlen:=nT rs hr
 have hnl:=h.len
 cases a with
 | none =>
   have h0:n=0:=by
    rcases Nat.eq_zero_or_pos n with h0|h0
    ·exact h0
    ·obtain ⟨b,off,e,_⟩:=h.iD h0;cases e
   subst h0
   have:rs=[]:=IK hnl
   subst this
   obtain rfl:=hnil rfl
   clear h hr hnil hm h1 hlen hnl
   have hn:=fun w=>Lib.run_eql_slice_nil (P:=ay) w 31 75 none 0 0 0 0 (by kernel_rfl)
   go_enter func81,ntmps81
   go_wp2
   go_ret
   exact ⟨_,rfl,IQ _ _ _ _,aj.refl _ _⟩
 | some ad =>
   have hn:=fun w=>Lib.run_eql_slice_nil (P:=ay) w 31 75 (some ad) n c 0 0 (by kernel_rfl)
   obtain ⟨i0,hi1,hi2,hi3,hi4⟩:=info_parts Tryz.infoOpC
   have hw0:∀ w:World,(w.alloc (.cells #[] 75)).ownsRow w.heap.size 75 4 (.slice (some ⟨w.heap.size,0,none⟩) 0 0) 0 []:=fun w=>World.ownsRow_made w #[] 0 (Ho _) (by decide) rfl
   have HC:=aA (fun j u hj=>(h.below ((aj.refl ak w).alloc (.cells #[] 75))).qH (by decide) hr rfl j u hj)
   have HU:Hid (∀ u∈rs.flatten,u.oneCell'=true):=fun u hu=>by
    obtain ⟨r,hr1,hr2⟩:=List.mem_flatten.1 hu
    exact h1 r hr1 u hr2
   rw [hnl] at hlen
   generalize rs.flatten=xs at *
   clear h hr hnil h1 hnl
   go_enter func81,ntmps81
   go_wp2_with (at_builtin;refine wpList_append_own _ rfl _ _ 31 rfl w.heap.size 75 i0 (.agg #[ah 0,ah 0,ah 0,ah 0]) 4 32 (by kernel_rfl) hi1 hi2 hi3 hi4 rfl (by decide) _ _ _ rfl (hw0 w) ad n c xs rfl hlen HC.out HU.out (by unfold maxLen;omega) (by omega) (by simp) ?_;intro v' w1 hown hgr _)
   have hown':w1.ownsRow w.heap.size 75 4 v' n xs:=by simpa using hown
   have hkeep:aj ak w w1:=((aj.refl ak w).alloc _).kR hgr (fun k e hk=>absurd hk (by have e':w.heap.size=k:=Option.some.inj e;omega))
   clear hown hgr
   go_wp2
   go_ret
   exact ⟨_,rfl,hown',hkeep⟩
end
section
attribute [local go_sem] Oper.semAt_some
open Go.RowKit
section
variable {o o':Ow} {w w':World} {G:bK} {g:MG} {s:Sh} {m:MS} {nv:Value} {ev:Option Ev}
theorem fC.still (h:fC o w G g s m) (k:aj ak w w'):fC o w' G g s m:=by
 obtain ⟨ev,nv,h1,hn⟩:=h
 exact ⟨ev,nv,h1.still k,hn.aK (I:=[]) k.bZ rfl rfl⟩
end
theorem AO (l:Int) (w:World) (h:1<=l) (h2:l<=256):Calls ay 79 #[ah l] w fun e w'=>e = .returned (.tuple #[au w.heap.size,ah 0])/\w'=w.alloc (.cells #[.slice none 0 0,ah l] 216):=by
 have h3:¬ l<1:=by omega
 have h4:¬ 256<l:=by omega
 go_enter func79,ntmps79
 go_wp2_with fail
 go_ret2
 exact ⟨rfl,rfl⟩
theorem AP (a b c d:Nat) (w:World):Calls ay 80 #[au a,au b,au c,au d] w fun e w'=>e = .returned (.tuple #[au w.heap.size,ah 0])/\w'=w.alloc (.cells #[au a,au b,au c,au d] 218):=by
 go_enter func80,ntmps80
 go_wp2_with fail
 go_ret2
 exact ⟨rfl,rfl⟩
def bQ (prog:List bI):List (List Value):=prog.map bI.cells
theorem nH {prog:List bI}:∀ r∈bQ prog,r.length=4:=fun r hr=>by
 obtain ⟨op,_,rfl⟩:=IW.1 hr;rfl
theorem um {prog:List bI}:∀ r∈bQ prog,∀ u∈r,u.oneCell'=true:=fun r hr u hu=>by
 obtain ⟨op,_,rfl⟩:=IW.1 hr
 simp [bI.cells] at hu
 rcases hu with rfl|rfl|rfl|rfl<;>rfl
theorem sV {sz:Nat}:∀ (rs:List (List Value)),(∀ r∈rs,r.length=sz)->∀ i r,rs[i]?=some r->∀ j v,r[j]?=some v->rs.flatten[i*sz+j]?=some v
 | [],_,i,r,h,_,_,_=>by simp at h
 | r0::rs,hr,i,r,hi,j,v,hj=>by
   have h0:r0.length=sz:=hr r0 (by simp)
   rw [IV]
   cases i with
   | zero =>
     simp at hi;subst hi
     have:=(Ik.1 hj).1
     rw [Nat.zero_mul,Nat.zero_add,Hu (by omega)];exact hj
   | succ i =>
     have e:(i+1)*sz+j=r0.length+(i*sz+j):=by rw [Nat.succ_mul,h0];omega
     rw [e,Hw (by omega),Nat.add_sub_cancel_left]
     exact sV rs (fun r h=>hr r (by simp [h])) i r (by simpa using hi) j v hj
theorem gZ.qY {o:Ow} {w:World} {base n:Nat} {v:Value} {prog:List bI} (h:w.ownsRow base 75 4 v n (bQ prog).flatten) (hn:n=prog.length) (hm:n<=1000) (hf:∀ b,v.ownBlock=some b->o b=0):gZ o w v prog:=by
 subst hn
 obtain ⟨hl,hf2⟩:=h
 rcases hf2 with ⟨rfl,h0⟩|⟨g,cap,cur,rfl,hg0,hg,hn,_,hs,hc⟩
 ·exact ⟨none,0,by rw [h0],hm,fun hp=>by omega⟩
 ·refine ⟨_,cap,rfl,hm,fun hp=>⟨g,0,cur.toList,rfl,hf g rfl,by unfold aC;simpa using hg,fun i op hi j u hj=>?_⟩⟩
  have h1:=sV (bQ prog) nH i op.cells (by unfold bQ;rw [List.getElem?_map,hi];rfl) j u hj
  rw [<- hc] at h1
  have hlt:=(Ik.1 h1).1
  rw [Nat.zero_add]
  rw [List.getElem?_take_of_lt (by simp at hlt;omega)] at h1
  exact h1
theorem AQ {o:Ow} {w0 V:World} {G:bK} {s:Sh} {id M X Bf Nt n:Nat} {prog:List bI} {pv:Value} (h:aZ o w0 G s) (hid:id<s.aP.length) (h8:s.aP.length<=8) (k:aj ak w0 V)
 (hM:aC V M (pF G ⟨M,X,Bf,Nt⟩ (MS.aS s.H.c id prog) none pv (.slice none 0 0) .nilFunc) 164) (hX:aC V X (fF (Ht s.H.c.r.toNat 0)) 3) (hB:aC V Bf [.slice none 0 0,ah s.H.c.l] 216) (hN:aC V Nt [aF (G.D 0),aF Bf,aF (G.bx id),aF G.Fl] 218)
 (hp:V.ownsRow w0.heap.size 75 4 pv n (bQ prog).flatten) (hn:n=prog.length) (hm:n<=1000) (g1:w0.heap.size<=M) (g2:w0.heap.size<=X) (g3:w0.heap.size<=Bf) (g4:w0.heap.size<=Nt) :
 ∃ o',aG w0 o o'/\fC o' V G ⟨M,X,Bf,Nt⟩ s (MS.aS s.H.c id prog)/\(∀ x,o' x=o x\/(w0.heap.size<=x/\o' x=20+id)):=by
 have FV:M≠X:=fun e=>by rw [e] at hM;exact absurd (hM.gV hX).2 (by decide)
 have FW:M≠Bf:=fun e=>by rw [e] at hM;exact absurd (hM.gV hB).2 (by decide)
 have FX:X≠Bf:=fun e=>by rw [e] at hX;exact absurd (hX.gV hB).2 (by decide)
 have FY:Nt≠M:=fun e=>by rw [e] at hN;exact absurd (hN.gV hM).2 (by decide)
 have FZ:Nt≠X:=fun e=>by rw [e] at hN;exact absurd (hN.gV hX).2 (by decide)
 have F5:Nt≠Bf:=fun e=>by rw [e] at hN;exact absurd (hN.gV hB).2 (by decide)
 obtain ⟨o',ho⟩:∃ o':Ow,o'=((o.put M (20+id)).put X (20+id)).put Bf (20+id):=⟨_,rfl⟩
 have hM':o' M=20+id:=by rw [ho];unfold Ow.put;rw [bT FW,bT FV,jh rfl]
 have hX':o' X=20+id:=by rw [ho];unfold Ow.put;rw [bT FX,jh rfl]
 have hB':o' Bf=20+id:=by rw [ho];unfold Ow.put;rw [jh rfl]
 have hoth:∀ x,x≠M->x≠X->x≠Bf->o' x=o x:=fun x h1 h2 h3=>by rw [ho];unfold Ow.put;rw [bT h3,bT h2,bT h1]
 have hext:aG w0 o o':=fun b hb=>hoth b (by omega) (by omega) (by omega)
 have EW:fV o' V:=fun b hb=>by
  rw [hoth b (by have:=hM.lt;omega) (by have:=hX.lt;omega) (by have:=hB.lt;omega)]
  exact h.iF b (by have:=k.size;omega)
 have hsh:aZ o' V G s:=h.move (I:=[]) k.bZ rfl h8 hext EW
 have jl:=dH h.heap.jY.ok
 refine ⟨o',hext,⟨none,.nilFunc,⟨hsh,⟨pv,.slice none 0 0,hM,?_,⟨rfl,.inl ⟨rfl,rfl⟩⟩,fun b hb=>by simp [Value.ownBlock] at hb⟩,hM',hX,hX',⟨by show o' Bf≠0;rw [hB'];omega,.slice none 0 0,hB,dK.nil _ _ _,fun _ _ e=>by cases e;rfl⟩,hB',hN,?_,hid,h8,rfl,?_,?_⟩,rfl⟩,fun x=>?_⟩
 ·refine gZ.qY hp hn hm (fun b hb=>?_)
  have hlt:=(World.ownsRow.lt hp b hb).1
  have hlt2:=(World.ownsRow.lt hp b hb).2
  rw [hoth b (fun e=>iI hM hp (by decide) (by rw [hb,e])) (fun e=>iI hX hp (by decide) (by rw [hb,e])) (fun e=>iI hB hp (by decide) (by rw [hb,e]))]
  exact h.iF b hlt
 ·show o' Nt=0
  rw [hoth Nt FY FZ F5]
  exact h.iF Nt g4
 ·show ((Ht s.H.c.r.toNat 0).length:Int)=s.H.c.r
  rw [List.length_replicate];omega
 ·show (0:Int)<=s.H.c.l;omega
 ·by_cases e1:x=M
  ·right;rw [e1];exact ⟨g1,hM'⟩
  by_cases e2:x=X
  ·right;rw [e2];exact ⟨g2,hX'⟩
  by_cases e3:x=Bf
  ·right;rw [e3];exact ⟨g3,hB'⟩
  ·left;exact hoth x e1 e2 e3
section
variable {o o':Ow} {w w':World} {G:bK} {s:Sh}
theorem aZ.sW (h:aZ o w G s):w.cell? ⟨G.S,0,none⟩=some (au (G.D 0))/\w.cell? ⟨G.S,3,none⟩=some (au G.Fl)/\∃ a c,w.cell? ⟨G.S,4,none⟩=some (.slice a s.aP.length c)/\∀ i,i<s.aP.length->∃ b off,a=some ⟨b,off,none⟩/\w.cell? ⟨b,off+i,none⟩=some (au (G.bx i)):=by
 obtain ⟨v,hb,hr⟩:=h.sh
 obtain ⟨a,c,rfl,_,_,hc⟩:=hr.form
 simp only [List.length_map,List.length_range] at hb
 refine ⟨hb.cell 0 rfl,hb.cell 3 rfl,a,c,hb.cell 4 rfl,fun i hi=>?_⟩
 exact hc i (aF (G.bx i)) (by simp [hi])
theorem aZ.still (h:aZ o w G s) (k:aj ak w w') (h8:s.aP.length<=8):aZ o w' G s:=h.aK (I:=[]) k.bZ rfl h8
theorem xM (h:aZ o w G s) (h8:s.aP.length<=8) (id:Nat) (hid:id<s.aP.length) (prog:List bI) (n:Nat) (hn:n=prog.length) (hm:n<=1000) (a:Option Addr) (c:Nat) (hr:cZ w a n 4 (bQ prog)) (hnil:a=none->c=0) :
 Calls ay 41 #[au G.S,ah (id:Int),.slice a n c] w fun e w'=>∃ (o':Ow) (g:MG),e = .returned (.tuple #[au g.M,ah 0])/\aG w o o'/\fC o' w' G g s (MS.aS s.H.c id prog)/\(∀ x,o' x=o x\/(w.heap.size<=x/\o' x=20+id))/\aj ak w w':=by
 obtain ⟨s0,s3,sa,sc,s4,Cj⟩:=h.sW
 obtain ⟨sb,GH,rfl,Ee⟩:=Cj id hid
 have jl:=dH h.heap.jY.ok
 have sZ:=aA (nC h.heap)
 have nG:Hid (∀ W,aj ak w W->aZ o W G s):=fun W hW=>h.still hW h8
 have HR:Hid (∀ W,aj ak w W->cZ W a n 4 (bQ prog)):=fun W hW=>hr.below hW
 have uU:Hid (∀ W,aj ak w W->Calls ay 81 #[.slice a n c] W fun e w'=>∃ v',e = .returned v'/\w'.ownsRow W.heap.size 75 4 v' n (bQ prog).flatten/\aj ak W w'):=fun W hW=>uj a n c (bQ prog) W (hr.below hW) nH hnil (by omega) um
 obtain ⟨m9,hm9⟩:∃ m9,m9=MS.aS s.H.c id prog:=⟨_,rfl⟩
 rw [<- hm9]
 have nX:Hid (∀ (V:World) (M X Bf Nt:Nat) (pv:Value),aj ak w V->aC V M (pF G ⟨M,X,Bf,Nt⟩ (MS.aS s.H.c id prog) none pv (.slice none 0 0) .nilFunc) 164->aC V X (fF (Ht s.H.c.r.toNat 0)) 3->aC V Bf [.slice none 0 0,ah s.H.c.l] 216->aC V Nt [aF (G.D 0),aF Bf,aF (G.bx id),aF G.Fl] 218->V.ownsRow w.heap.size 75 4 pv n (bQ prog).flatten->w.heap.size<=M->w.heap.size<=X->w.heap.size<=Bf->w.heap.size<=Nt ->
  ∃ (o':Ow) (g:MG),g.M=M/\aG w o o'/\fC o' V G g s m9/\(∀ x,o' x=o x\/(w.heap.size<=x/\o' x=20+id))/\aj ak w V):=fun V M X Bf Nt pv k p1 p2 p3 p4 p5 p6 p7 p8 p9=>by
  obtain ⟨o',q1,q2,q3⟩:=AQ h hid h8 k p1 p2 p3 p4 p5 hn hm p6 p7 p8 p9
  exact ⟨o',⟨M,X,Bf,Nt⟩,rfl,q1,by rw [hm9];exact q2,q3,k⟩
 obtain ⟨r,hrr⟩:∃ r:Nat,s.H.c.r=(r:Int):=⟨s.H.c.r.toNat,by omega⟩
 have hr64:(r:Int)<=64:=by omega
 have hmk:∀ w:World,(Instr.makeSlice 57 (ah (r:Int)) (ah (r:Int))).run ay w = .ok (.slice (some ⟨w.heap.size,0,none⟩) r r) (w.alloc (.cells (bf (ah 0) r).toArray 3)) :=
  fun w=>kE (P:=ay) (by kernel_rfl) Tryz.infoInt rfl (by decide) r (by omega) _ rfl w
 have Ef:fF (Ht s.H.c.r.toNat 0)=bf (ah 0) r:=by
  rw [hrr];simp [fF,bf]
 have jO:Hid (∀ W,Calls ay 79 #[ah s.H.c.l] W fun e w'=>e = .returned (.tuple #[au W.heap.size,ah 0])/\w'=W.alloc (.cells #[.slice none 0 0,ah s.H.c.l] 216)):=fun W=>AO _ W (by omega) (by omega)
 have EX:(id:Int)<(s.aP.length:Int):=by omega
 have hid0:(0:Int)<=(id:Int):=by omega
 have hid1:¬ (s.aP.length:Int)<=(id:Int):=by omega
 have G6:(n:Int)<=1000:=by omega
 have hmN:¬ (1000:Int)<(n:Int):=by omega
 rw [Ef] at nX
 have HC:Hid (∃ c0 c1 c2 c4 c6,s.H.c=⟨c0,c1,c2,r,c4,s.H.c.l,c6⟩):=⟨s.H.c.b,s.H.c.w,s.H.c.m,s.H.c.c,s.H.c.s,by rw [<- hrr]⟩
 obtain ⟨c0,c1,c2,c4,c6,hcc⟩:=HC.out
 obtain ⟨l,hl⟩:∃ l,l=s.H.c.l:=⟨_,rfl⟩
 rw [<- hl] at hcc nX jO
 simp only [pF,MS.aS,hcc,aI.cells] at nX sZ
 generalize s.aP.length=bl at *
 clear h hr hnil hn jl hrr Ef hcc hl HC hm9
 go_enter func41,ntmps41
 go_wp2_with fail
 refine sZ.out.mono ?_
 rintro e w1 ⟨rfl,k1⟩
 obtain ⟨W2,hW2⟩:∃ W2,W2=w1.alloc (.cells #[ah c0,ah c1,ah c2,ah (r:Int),ah c4,ah l,ah c6] 23):=⟨_,rfl⟩
 have k2:aj ak w W2:=by rw [hW2];exact k1.alloc _
 have hcb:aC W2 w1.heap.size [ah c0,ah c1,ah c2,ah (r:Int),ah c4,ah l,ah c6] 23:=by rw [hW2];exact aC.aS w1 _ _
 have HW2:=aA hW2
 have cu:=aA k2
 have Cm:Hid (w.heap.size<=w1.heap.size):=k1.size
 have kN:=aA hcb
 have Eh:=aA s0
 have Ei:=aA s3
 have xO:=aA s4
 have Ej:=aA Ee
 clear k1 sZ hW2 k2 hcb s0 s3 s4 Ee
 go_wp2_with fail
 rw [<- HW2.out]
 refine (jO.out _).mono ?_
 rintro e w3 ⟨rfl,hw3⟩
 have k23:aj ak W2 w3:=by rw [hw3];exact (aj.refl _ _).alloc _
 have hbf:aC w3 W2.heap.size [.slice none 0 0,ah l] 216:=by rw [hw3];exact aC.aS W2 _ _
 have k3:aj ak w w3:=cu.out.trans k23
 have s0:=k3.still Eh.out
 have s3:=k3.still Ei.out
 have s4:=k3.still xO.out
 have sx:=k3.still Ej.out
 have F6:aj ak w w3.drew:=k3.drew
 have Em:=aA (AP (G.D 0) W2.heap.size (G.bx id) G.Fl w3.drew)
 have CB:=aA hbf
 have jP:=aA k3
 have CJ:=aA k23
 clear hw3 k23 hbf k3 F6 jO
 go_wp2_with fail
 refine fQ 16 rfl (by kernel_rfl) (by kernel_rfl) (fun K hK=>?_)
 change wpStill _ _ (World.drew _) _ _ _
 simp only [List.take_succ_cons,List.take_zero,List.drop_succ_cons,List.drop_zero] at hK ⊢
 repeat still_step
 refine wpStill_nil ?_
 change ite _ (Oper.wp _ _ _ _ _ _) _
 go_simp
 refine Em.out.mono ?_
 rintro e w4 ⟨rfl,hw4⟩
 refine hK _ _ ?_
 clear hK K
 have k34:aj ak w3 w4:=by rw [hw4];exact (aj.refl ak w3).drew.alloc _
 have hnt:aC w4 w3.heap.size [au (G.D 0),au W2.heap.size,au (G.bx id),au G.Fl] 218:=by rw [hw4];exact aC.aS w3.drew _ _
 have e4:w4.heap.size=w3.heap.size+1:=by rw [hw4];simp
 have CO:=aA (k34.aO CB.out (fun f=>f))
 have lZ:=aA ((CJ.out.trans k34).aO kN.out (fun f=>f))
 have gQ:=aA (jP.out.trans k34)
 have CP:=aA hnt
 have En:Hid (w.heap.size<=w1.heap.size/\w1.heap.size<W2.heap.size/\W2.heap.size<w3.heap.size):=⟨Cm.out,kN.out.lt,CB.out.lt⟩
 clear hw4 k34 hnt s0 s3 s4 sx Em CB kN CJ jP e4
 repeat still_step
 refine wpStill_nil ?_
 have qm:Hid (∀ W',aj ak w4 W'->W'.cell? ⟨w1.heap.size,0,none⟩=some (ah c0)/\W'.cell? ⟨w1.heap.size,1,none⟩=some (ah c1)/\W'.cell? ⟨w1.heap.size,2,none⟩=some (ah c2)/\W'.cell? ⟨w1.heap.size,3,none⟩=some (ah (r:Int))/\W'.cell? ⟨w1.heap.size,4,none⟩=some (ah c4)/\W'.cell? ⟨w1.heap.size,5,none⟩=some (ah l)/\W'.cell? ⟨w1.heap.size,6,none⟩=some (ah c6)):=fun W' hW=>⟨hW.still (lZ.out.cell 0 rfl),hW.still (lZ.out.cell 1 rfl),hW.still (lZ.out.cell 2 rfl),hW.still (lZ.out.cell 3 rfl),hW.still (lZ.out.cell 4 rfl),hW.still (lZ.out.cell 5 rfl),hW.still (lZ.out.cell 6 rfl)⟩
 have CQ:Hid (∀ W,aj ak w4 W->Calls ay 81 #[.slice a n c] W fun e w'=>∃ a8 c8,e = .returned (.slice a8 n c8)/\Hid (w'.ownsRow w.heap.size 75 4 (.slice a8 n c8) n (bQ prog).flatten)/\Hid (aj ak W w')/\Hid (aj ak w4 w')/\(∀ x,aj ak w4 (w'.alloc x))):=fun W hW=>by
  refine (uU.out W (gQ.out.trans hW)).mono ?_
  rintro e w' ⟨v',rfl,h1,h2⟩
  obtain ⟨a8,c8,rfl⟩:∃ a8 c8,v' = .slice a8 n c8:=by
   rcases h1.2 with ⟨e1,e2⟩|⟨q,cap,cur,e1,_⟩
   ·exact ⟨none,0,by rw [e1,e2]⟩
   ·exact ⟨_,_,e1⟩
  exact ⟨a8,c8,rfl,iQ h1 (gQ.out.trans hW).size,h2,hW.trans h2,fun x=>(hW.trans h2).alloc x⟩
 have eY:Hid (∀ (V:World) (X:Nat) (pv:Value),aj ak w4 V->w.heap.size<=X->aC V X (bf (ah 0) r) 3->V.ownsRow w.heap.size 75 4 pv n (bQ prog).flatten ->
  ∃ (o':Ow) (g:MG),g.M=V.heap.size/\aG w o o'/\fC o' (V.alloc (.cells #[au G.S,ah c0,ah c1,ah c2,ah (r:Int),ah c4,ah l,ah c6,ah (id:Int),.slice (some ⟨X,0,none⟩) r r,au W2.heap.size,au w3.heap.size,ah 0,ah 0,ah 0,pv,.slice none 0 0,.nilFunc,ah 0,ah 0,ah 0,ah 0,.bool false,ah 0,ah 0,ah 0,ah 0,ah 0,ah 0,.bool false] 164)) G g s m9/\(∀ x,o' x=o x\/(w.heap.size<=x/\o' x=20+id))/\aj ak w (V.alloc (.cells #[au G.S,ah c0,ah c1,ah c2,ah (r:Int),ah c4,ah l,ah c6,ah (id:Int),.slice (some ⟨X,0,none⟩) r r,au W2.heap.size,au w3.heap.size,ah 0,ah 0,ah 0,pv,.slice none 0 0,.nilFunc,ah 0,ah 0,ah 0,ah 0,.bool false,ah 0,ah 0,ah 0,ah 0,ah 0,ah 0,.bool false] 164))):=fun V X pv k p1 p2 p3=>by
  have kv:aj ak V (V.alloc (.cells #[au G.S,ah c0,ah c1,ah c2,ah (r:Int),ah c4,ah l,ah c6,ah (id:Int),.slice (some ⟨X,0,none⟩) r r,au W2.heap.size,au w3.heap.size,ah 0,ah 0,ah 0,pv,.slice none 0 0,.nilFunc,ah 0,ah 0,ah 0,ah 0,.bool false,ah 0,ah 0,ah 0,ah 0,ah 0,ah 0,.bool false] 164)):=(aj.refl _ _).alloc _
  have he:=En.out
  exact nX.out _ V.heap.size X W2.heap.size w3.heap.size pv ((gQ.out.trans k).trans kv) (by refine Eq.mpr ?_ (aC.aS V [au G.S,ah c0,ah c1,ah c2,ah (r:Int),ah c4,ah l,ah c6,ah (id:Int),.slice (some ⟨X,0,none⟩) r r,au W2.heap.size,au w3.heap.size,ah 0,ah 0,ah 0,pv,.slice none 0 0,.nilFunc,ah 0,ah 0,ah 0,ah 0,.bool false,ah 0,ah 0,ah 0,ah 0,ah 0,ah 0,.bool false] 164);congr 1;simp [kK]) (kv.aO p2 (fun f=>f)) ((k.trans kv).aO CO.out (fun f=>f)) ((k.trans kv).aO CP.out (fun f=>f)) (lK p3 kv) (by have:=(gQ.out.trans k).size;omega) p1 (by omega) (by omega)
 have ni:Hid (w.heap.size<=w4.heap.size):=gQ.out.size
 have F7:=aA (CQ.out w4.drew ((aj.refl ak w4).drew))
 have EY:=aA (CQ.out (w4.alloc (.cells (bf (ah 0) r).toArray 3)).drew (((aj.refl ak w4).alloc _).drew))
 clear uU nX En gQ lZ CP CO nG HR HW2 cu Cm Eh Ei xO Ej
 go_wp2_with fail
 go_region_held3 (fun W'=>W'.cell? ⟨w1.heap.size,0,none⟩=some (ah c0)/\W'.cell? ⟨w1.heap.size,1,none⟩=some (ah c1)/\W'.cell? ⟨w1.heap.size,2,none⟩=some (ah c2)/\W'.cell? ⟨w1.heap.size,3,none⟩=some (ah (r:Int))/\W'.cell? ⟨w1.heap.size,4,none⟩=some (ah c4)/\W'.cell? ⟨w1.heap.size,5,none⟩=some (ah l)/\W'.cell? ⟨w1.heap.size,6,none⟩=some (ah c6))
  (first
   | exact qm.out _ ((aj.refl ak w4).drew)
   | exact qm.out _ (((aj.refl ak w4).drew).alloc _)
   | exact qm.out _ (((aj.refl ak w4).alloc _).drew)
   | exact qm.out _ hk48.out
   | exact qm.out _ (wB _)
   | exact qm.out _ ((wB _).alloc _)
   | fail "kV")
  (first
   | ((first|refine F7.out.mono ?_|refine EY.out.mono ?_)
      rintro e w8 ⟨a8,c8,rfl,hown,hk8,hk48,wB⟩)
   | fail "zV")
 all_goals
  go_wp2_with fail
  go_ret2
  first
   | (obtain ⟨o',g,q1,q2,q3,q4,q5⟩:=eY.out w8 w4.heap.size (.slice a8 n c8) hk48.out ni.out (hk8.out.aO ((aC.aS w4 (bf (ah 0) r) 3).drew) (fun f=>f)) hown.out
      exact ⟨o',g,by rw [q1];rfl,q2,q3,q4,q5⟩)
   | (obtain ⟨o',g,q1,q2,q3,q4,q5⟩:=eY.out (w8.alloc (.cells (bf (ah 0) r).toArray 3)) w8.heap.size (.slice a8 n c8) (wB _) (Nat.le_trans ni.out hk48.out.size) (aC.aS w8 (bf (ah 0) r) 3) (lK hown.out ((aj.refl ak w8).alloc _))
      rw [H9] at q1
      exact ⟨o',g,by rw [q1];rfl,q2,q3,q4,q5⟩)
end
def CS.aS (c:aI) (n:Nat):CS:=⟨n,c.b.toNat,c.c.toNat,c.s.toNat,0,0,0,false,false,[],false,.nil,0,0⟩
section
variable {o o':Ow} {w w':World} {G:bK} {s:Sh}
theorem xP (dA:Int) (h1:1<=dA) (h2:dA<=4096) (w:World):Calls ay 78 #[ah dA] w fun e w'=>e = .returned (.tuple #[au w.heap.size,ah 0])/\w'=w.alloc (.cells #[.slice none 0 0,ah dA,.bool false] 214):=by
 have d1:¬ dA<1:=by omega
 have d2:¬ (4096:Int)<dA:=by omega
 go_enter func78,ntmps78
 go_wp2_with fail
 go_ret2
 exact ⟨rfl,rfl⟩
theorem zh (h:aZ o w G s) (h8:s.aP.length<=8) {V:World} {C K:Nat} (k:aj ak w V) (hb:1<=s.H.c.b) (hc:0<=s.H.c.c) (hs:1<=s.H.c.s)
 (hC:aC V C (dX G ⟨C,K⟩ (CS.aS s.H.c s.aP.length) none .nilFunc) 153) (hK:aC V K [.slice none 0 0,ah s.H.c.s,.bool false] 214) (h1:w.heap.size<=C) (h2:w.heap.size<=K) :
 ∃ (o':Ow),aG w o o'/\dB o' V G ⟨C,K⟩ s (CS.aS s.H.c s.aP.length)/\∀ x,o' x=o x\/(w.heap.size<=x/\o' x=5):=by
 have e1:aG w o (o.put K 5):=Ow.gI (.inl h2)
 have f1:fV (o.put K 5) V:=Ow.iV h.iF k.size hK.lt
 have e2:aG w (o.put K 5) ((o.put K 5).put C 5):=Ow.gI (.inl h1)
 have f2:fV ((o.put K 5).put C 5) V:=Ow.iV f1 (Ho _) hC.lt
 have e:aG w o ((o.put K 5).put C 5):=fun b hb=>(e2 b hb).trans (e1 b hb)
 have oC:((o.put K 5).put C 5) C=5:=Ow.iy _ _ _
 have oK:((o.put K 5).put C 5) K=5:=by
  by_cases hx:K=C
  ·rw [hx];exact Ow.iy _ _ _
  ·unfold Ow.put
   simp [hx]
 have hs2:s.H.c.s=((CS.aS s.H.c s.aP.length).dA:Int):=by show s.H.c.s=((s.H.c.s.toNat:Nat):Int);omega
 refine ⟨_,e,⟨none,.nilFunc,⟨h.move (I:=[]) k.bZ rfl h8 e f2,hC,oC,⟨.slice none 0 0,?_,⟨rfl,.inl ⟨rfl,rfl⟩⟩,fun b hb=>by cases hb⟩,oK,h8⟩,rfl⟩,fun x=>?_⟩
 ·rw [<- hs2];exact hK
 ·unfold Ow.put
  by_cases hx:x=C
  ·exact .inr ⟨by omega,by simp [hx]⟩
  ·by_cases hy:x=K
   ·exact .inr ⟨by omega,by simp [hx,hy]⟩
   ·exact .inl (by simp [hx,hy])
theorem wC (h:aZ o w G s) (h8:s.aP.length<=8):Calls ay 40 #[au G.S] w fun e w'=>∃ (o':Ow) (q:CG),e = .returned (.tuple #[au q.C,ah 0])/\aG w o o'/\dB o' w' G q s (CS.aS s.H.c s.aP.length)/\(∀ x,o' x=o x\/(w.heap.size<=x/\o' x=5))/\aj ak w w':=by
 obtain ⟨s0,s3,sa,sc,s4,Cj⟩:=h.sW
 have jl:=dH h.heap.jY.ok
 have sZ:=aA (nC h.heap)
 obtain ⟨nb,hnb⟩:∃ n:Nat,s.H.c.b=(n:Int):=⟨s.H.c.b.toNat,by omega⟩
 obtain ⟨nc,hnc⟩:∃ n:Nat,s.H.c.c=(n:Int):=⟨s.H.c.c.toNat,by omega⟩
 have nX:Hid (∀ (V:World) (C K:Nat),aj ak w V->aC V C [aF G.S,ah (s.aP.length:Int),ah s.H.c.b,ah s.H.c.c,ah 0,ah 0,ah 0,.bool false,.bool false,aF K,.nilFunc,ah 0,ah 0,ah 0,ah 0,ah 0,ah 0,ah 0,ah 0,.bool false] 153->aC V K [.slice none 0 0,ah s.H.c.s,.bool false] 214->w.heap.size<=C->w.heap.size<=K ->
  ∃ (o':Ow) (q:CG),q.C=C/\aG w o o'/\dB o' V G q s (CS.aS s.H.c s.aP.length)/\(∀ x,o' x=o x\/(w.heap.size<=x/\o' x=5))/\aj ak w V):=fun V C K k p1 p2 p3 p4=>by
  obtain ⟨o',q1,q2,q3⟩:=zh (C:=C) (K:=K) h h8 k (by omega) (by omega) (by omega) (by
   have:dX G ⟨C,K⟩ (CS.aS s.H.c s.aP.length) none .nilFunc=[aF G.S,ah (s.aP.length:Int),ah s.H.c.b,ah s.H.c.c,ah 0,ah 0,ah 0,.bool false,.bool false,aF K,.nilFunc,ah 0,ah 0,ah 0,ah 0,ah 0,ah 0,ah 0,ah 0,.bool false]:=by
    rw [hnb,hnc]
    simp [dX,CS.aS,kK,hnb,hnc]
   rw [this];exact p1) p2 p3 p4
  exact ⟨o',_,rfl,q1,q2,q3,k⟩
 have Eo:Hid (∀ W,Calls ay 78 #[ah s.H.c.s] W fun e w'=>e = .returned (.tuple #[au W.heap.size,ah 0])/\w'=W.alloc (.cells #[.slice none 0 0,ah s.H.c.s,.bool false] 214)):=fun W=>xP _ (by omega) (by omega) W
 have HC:Hid (∃ c1 c2 c3 c5,s.H.c=⟨s.H.c.b,c1,c2,c3,s.H.c.c,c5,s.H.c.s⟩):=⟨s.H.c.w,s.H.c.m,s.H.c.r,s.H.c.l,rfl⟩
 obtain ⟨c1,c2,c3,c5,hcc⟩:=HC.out
 have CU:s.H.c.cells=[ah s.H.c.b,ah c1,ah c2,ah c3,ah s.H.c.c,ah c5,ah s.H.c.s]:=by
  rw [hcc];rfl
 rw [CU] at sZ
 generalize CS.aS s.H.c s.aP.length=cs at *
 generalize s.H.c.b=kb at *
 generalize s.H.c.c=kc at *
 generalize s.H.c.s=ks at *
 generalize s.aP.length=bl at *
 clear CU hcc HC jl hnb hnc Cj
 go_enter func40,ntmps40
 go_wp2_with fail
 refine sZ.out.mono ?_
 rintro e w1 ⟨rfl,k1⟩
 obtain ⟨W2,hW2⟩:∃ W2,W2=w1.alloc (.cells #[ah kb,ah c1,ah c2,ah c3,ah kc,ah c5,ah ks] 23):=⟨_,rfl⟩
 have k2:aj ak w W2:=by rw [hW2];exact k1.alloc _
 have hcb:aC W2 w1.heap.size [ah kb,ah c1,ah c2,ah c3,ah kc,ah c5,ah ks] 23:=by rw [hW2];exact aC.aS w1 _ _
 have HW2:=aA hW2
 have cu:=aA k2
 have y0:=hcb.cell 6 (v := ah ks) rfl
 rw [hW2] at y0
 have kN:=aA hcb
 have xO:=aA s4
 clear k1 sZ hW2 k2 hcb s0 s3 s4
 go_wp2_with fail
 rw [<- HW2.out]
 refine (Eo.out _).mono ?_
 rintro e w3 ⟨rfl,hw3⟩
 have k23:aj ak W2 w3:=by rw [hw3];exact (aj.refl _ _).alloc _
 have hst:aC w3 W2.heap.size [.slice none 0 0,ah ks,.bool false] 214:=by rw [hw3];exact aC.aS W2 _ _
 have k3:aj ak w w3:=cu.out.trans k23
 have z4:=k3.still xO.out
 have z0:=k23.still (kN.out.cell 0 (v := ah kb) rfl)
 have z6:=k23.still (kN.out.cell 4 (v := ah kc) rfl)
 have HST:=aA hst
 have jP:=aA k3
 have ni:Hid (w.heap.size<=W2.heap.size):=cu.out.size
 clear k23 hst k3 hw3 y0 Eo xO kN HW2
 go_wp2_with fail
 go_region
 go_wp2_with fail
 go_ret2
 obtain ⟨o',q,q1,q2,q3,q4,q5⟩:=nX.out (w3.alloc (.cells #[au G.S,ah (bl:Int),ah kb,ah kc,ah 0,ah 0,ah 0,.bool false,.bool false,au W2.heap.size,.nilFunc,ah 0,ah 0,ah 0,ah 0,ah 0,ah 0,ah 0,ah 0,.bool false] 153)).drew w3.heap.size W2.heap.size ((jP.out.alloc _).drew) ((aC.aS w3 [aF G.S,ah (bl:Int),ah kb,ah kc,ah 0,ah 0,ah 0,.bool false,.bool false,aF W2.heap.size,.nilFunc,ah 0,ah 0,ah 0,ah 0,ah 0,ah 0,ah 0,ah 0,.bool false] 153).drew) ((HST.out.alloc _).drew) jP.out.size ni.out
 exact ⟨o',q,by rw [q1];rfl,q2,q3,q4,q5⟩
end
section
variable {o o':Ow} {w w':World} {G:bK} {q:CG} {s:Sh} {c:CS}
theorem dB.still (h:dB o w G q s c) (k:aj ak w w'):dB o w' G q s c:=by
 obtain ⟨ev,nv,h1,hn⟩:=h
 exact ⟨ev,nv,h1.still k,hn.still k⟩
theorem dB.cell (h:dB o w G q s c):w.cell? ⟨q.C,4,none⟩=some (ah (c.phase:Int))/\w.cell? ⟨q.C,5,none⟩=some (ah (c.aH:Int))/\w.cell? ⟨q.C,6,none⟩=some (ah (c.aW:Int))/\w.cell? ⟨q.C,7,none⟩=some (.bool c.eF)/\w.cell? ⟨q.C,11,none⟩=some (ah (c.jJ:Int))/\w.cell? ⟨q.C,12,none⟩=some (ah (c.kT:Int))/\w.frozen? ⟨q.C,7,none⟩=false:=by
 obtain ⟨ev,nv,h1,hn⟩:=h
 exact ⟨h1.cell 4 _ rfl,h1.cell 5 _ rfl,h1.cell 6 _ rfl,h1.cell 7 _ rfl,h1.cell 11 _ rfl,h1.cell 12 _ rfl,h1.free 7⟩
theorem xQ (h:dB o w G q s c):Calls ay 44 #[au q.C] w fun e w'=>e = .returned (.tuple #[])/\dB o w' G q s { c with eF:=true }/\aj (In o [5]) w w':=by
 obtain ⟨y4,y5,y6,y7,y11,y12,f7⟩:=h.cell
 have HE:Hid (dB o (w.setCell ⟨q.C,7,none⟩ (.bool true)) G q s { c with eF:=true }/\aj (In o [5]) w (w.setCell ⟨q.C,7,none⟩ (.bool true))):=by
  obtain ⟨ev,nv,h1,hn⟩:=h
  obtain ⟨h2,k2⟩:=h1.put 7 (.bool true) { c with eF:=true } ev nv rfl ⟨rfl,rfl,rfl⟩
  exact ⟨⟨ev,nv,h2,hn.aK k2 rfl rfl⟩,k2⟩
 clear h
 go_enter func44,ntmps44
 go_wp2_with fail
 go_end0
 exact ⟨rfl,HE.out.1,HE.out.2⟩
end
end
end Go.Proofs.YtoamcpbapedofaaGreatDoor
