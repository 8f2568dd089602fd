/- Parts of a walk, put together and made shorter by a program of mine. No conditions. -/
import Derived.Test.YtanfphjoebobaaaGreatDoorZzcab
import Derived.Test.YtanfphjoebobaaaGreatDoorZzco
import Derived.BigRegion
import Derived.Deep.RegionHeld3
import Derived.Deep.RegionWith
import Derived.Test.YtanfphjoebobaaaGreatDoorZzcn
namespace Go.Proofs.YtanfphjoebobaaaGreatDoor
set_option maxRecDepth 10000
set_option maxHeartbeats 8000000
section
attribute [local go_sem ↓] jZ
attribute [local go_sem] Oper.semAt_some
open Go.RowKit
theorem Tryz.infoPBox:(Tryz.prog.info? 122).map (fun i=>(i.zero,i.size,i.bytes))=some (some (.pointer none),1,8):=by kernel_rfl
theorem TU (w:World):Calls Tryz.prog 69 #[] w fun e w'=>e = .returned (.pointer (some ⟨w.heap.size,0,none⟩))∧w'=w.alloc (.cells #[.slice none 0 0,.slice none 0 0,.slice none 0 0,.slice none 0 0,.int .i64 0] 172):=by
 go_enter Tryz.func69,Tryz.ntmps69
 go_wp2_with fail
 go_ret
 exact ⟨rfl,rfl⟩
theorem RH (w:World):Calls Tryz.prog 70 #[] w fun e w'=>e = .returned (.pointer (some ⟨w.heap.size,0,none⟩))∧w'=w.alloc (.cells #[.slice none 0 0] 176):=by
 go_enter Tryz.func70,Tryz.ntmps70
 go_wp2_with fail
 go_ret
 exact ⟨rfl,rfl⟩
theorem dV.first {o:Ow} {w:World} {B:Nat} (hB:o B≠0) (hb:Blk w B [.slice none 0 0,.slice none 0 0,.slice none 0 0,.slice none 0 0,.int .i64 0] 172):dV o w B ⟨[[],[],[],[]],0⟩:=by
 refine ⟨hB,rfl,[.slice none 0 0,.slice none 0 0,.slice none 0 0,.slice none 0 0],rfl,hb,fun i v zs h1 h2=>?_⟩
 match i with
 | 0=>simp at h1 h2;subst h1 h2;exact aV.nil _ _ _
 | 1=>simp at h1 h2;subst h1 h2;exact aV.nil _ _ _
 | 2=>simp at h1 h2;subst h1 h2;exact aV.nil _ _ _
 | 3=>simp at h1 h2;subst h1 h2;exact aV.nil _ _ _
 | n+4=>simp at h1
theorem aV.TV {o:Ow} {w:World} {T:TypeId} {v:Value} {xs:List Value} {base n:Nat} (h:w.ownsRow base T 1 v n xs) (hm:n≤4000000000000) (hf:∀ b,v.ownBlock=some b→o b=0):aV o w T v xs:=by
 obtain ⟨hl,hf2⟩:=h
 rcases hf2 with ⟨rfl,rfl⟩|⟨g,cap,cur,rfl,hg0,hg,hn,_,hs,hc⟩
 ·have:xs=[]:=List.eq_nil_of_length_eq_zero (by simpa using hl)
  subst this
  exact aV.nil _ _ _
 ·have hnl:n=xs.length:=by simpa using hl.symm
  subst hnl
  refine ⟨_,cap,rfl,hn,hm,fun _=>⟨g,0,cur.toList,rfl,hf g rfl,by unfold Blk;simpa using hg,fun j hj=>?_⟩⟩
  rw [← hc]
  simp [hj]
structure ShI (W0:World) (S N0:Nat) (ps:List Value) (j:Nat) (W:World):Prop where
 keep:Keep (only S) W0 W
 row:∃ (sv:Value) (bx:Nat→Nat),Blk W S (ps++[sv]) 53∧W.ownsRow N0 122 1 sv j ((List.range j).map fun i=>ah (bx i))∧(∀ i,i<j→N0≤bx i∧bx i<W.heap.size∧Blk W (bx i) [.slice none 0 0] 176)∧∀ i k,i<k→k<j→bx i<bx k
theorem RI (o0:Ow) (hz0:o0 3=0∧o0 4=0∧o0 2=0) {w:World} {D:Nat→Nat} {H:HS} {B Q Fl S N0:Nat} {b:Bd} {W0 W1 W2:World} {n:Nat} (hH:au W1 D H) (hD:∀ i,i<13→w.heap.size≤D i) (hsz:w.heap.size≤W1.heap.size) (hB:eX W0 B b) (hQ:Blk W0 Q [.slice none 0 0,.slice none 0 0,.slice none 0 0,.slice none 0 0,.int .i64 0] 172)
 (hF:Blk W0 Fl [.bool false] 121) (h1:W1.heap.size≤B) (h2:B<Q) (h3:Q<Fl) (h4:Fl<S) (h5:S<N0) (h6:N0=W0.heap.size) (k1:Keep none_ W1 W0) (hgl:3<w.heap.size∧4<w.heap.size∧2<w.heap.size) (hn:n≤8) (hI:ShI W0 S N0 [ah (D 0),ah B,ah Q,ah Fl] n W2) :
 ∃ (o:Ow) (G:Geo),G.S=S∧ShAt o W2 G ⟨H,b,⟨[[],[],[],[]],0⟩,false,List.replicate n []⟩∧(∀ x,x<w.heap.size→o x=o0 x)∧∀ x,w.heap.size≤x→o x<20:=by
 obtain ⟨hk,sv,bx,hS,hrow,hbx,hmono⟩:=hI
 have hDlt:∀ i,i<13→D i<W1.heap.size:=fun i hi=>hH.ltD i hi
 classical
 obtain ⟨o,ho⟩:∃ o:Ow,∀ x,o x=if x<w.heap.size then o0 x else if x<W1.heap.size then (if ∃ i,i<13∧D i=x then 1 else 0) else if x=B then 2 else if x=Q then 3 else if x=Fl then 4 else if h:∃ i,i<n∧bx i=x then 10+h.choose else 0:=⟨fun x=>if x<w.heap.size then o0 x else if x<W1.heap.size then (if ∃ i,i<13∧D i=x then 1 else 0) else if x=B then 2 else if x=Q then 3 else if x=Fl then 4 else if h:∃ i,i<n∧bx i=x then 10+h.choose else 0,fun _=>rfl⟩
 have TW:∀ i,i<n→o (bx i)=10+i:=fun i hi=>by
  have hb:=hbx i hi
  rw [ho,if_neg (by omega),if_neg (by omega),if_neg (by omega),if_neg (by omega),if_neg (by omega)]
  have hex:∃ k,k<n∧bx k=bx i:=⟨i,hi,rfl⟩
  rw [dif_pos hex]
  have hc:=hex.choose_spec
  rcases Nat.lt_trichotomy hex.choose i with h|h|h
  ·have:=hmono _ _ h hi;omega
  ·omega
  ·have:=hmono _ _ h hc.1;omega
 have hO:o S=0:=by
  rw [ho,if_neg (by omega),if_neg (by omega),if_neg (by omega),if_neg (by omega),if_neg (by omega),dif_neg]
  rintro ⟨i,hi,e⟩
  have:=(hbx i hi).1;omega
 have hoB:o B=2:=by rw [ho,if_neg (by omega),if_neg (by omega),if_pos rfl]
 have hoQ:o Q=3:=by rw [ho,if_neg (by omega),if_neg (by omega),if_neg (by omega),if_pos rfl]
 have hoF:o Fl=4:=by rw [ho,if_neg (by omega),if_neg (by omega),if_neg (by omega),if_neg (by omega),if_pos rfl]
 have hoD:∀ i,i<13→o (D i)=1:=fun i hi=>by
  rw [ho,if_neg (by have:=hD i hi;omega),if_pos (hDlt i hi),if_pos ⟨i,hi,rfl⟩]
 have hz:∀ x,x<w.heap.size→o x=o0 x:=fun x hx=>by rw [ho,if_pos hx]
 have hS0:S<W0.heap.size:=by omega
 refine ⟨o,⟨S,D,B,Q,Fl,bx⟩,rfl,⟨?_,⟨sv,hS,?_⟩,hO,?_,hoD,⟨(hz _ hgl.1).trans hz0.1,(hz _ hgl.2.1).trans hz0.2.1,(hz _ hgl.2.2).trans hz0.2.2⟩,?_,hoB,?_,hoQ,?_,hoF,?_⟩,hz,fun x hx0=>?_⟩
 ·intro x hx
  have h9:=hk.size
  rw [ho,if_neg (by omega),if_neg (by omega),if_neg (by omega),if_neg (by omega),if_neg (by omega),dif_neg]
  rintro ⟨i,hi,e⟩
  have:=(hbx i hi).2.1;omega
 ·have e:(List.replicate n ([]:List Nat)).length=n:=by simp
  show aV o W2 122 sv ((List.range (List.replicate n ([]:List Nat)).length).map fun i=>ah (bx i))
  rw [e]
  refine aV.TV hrow (by omega) (fun g hg=>?_)
  have hgl2:=(World.ownsRow.lt hrow g hg).1
  rw [ho,if_neg (by omega),if_neg (by omega),if_neg (by omega),if_neg (by omega),if_neg (by omega),dif_neg]
  rintro ⟨i,hi,e⟩
  exact own_ne (hbx i hi).2.2 hrow (by decide) (by rw [hg,e])
 ·exact (hH.still k1).keep hk (fun i hi e=>by have:=hDlt i hi;unfold only at e;omega) (fun e=>by unfold only at e;omega) (fun e=>by unfold only at e;omega) (fun e=>by unfold only at e;omega)
 ·exact hB.keep hk (fun e=>by unfold only at e;omega)
 ·exact dV.first (by rw [hoQ];decide) (hk.blk hQ (fun e=>by have e':Q=S:=e;omega))
 ·exact hk.blk hF (fun e=>by have e':Fl=S:=e;omega)
 ·intro i l hi
  have hin:i<n:=by have:=(List.getElem?_eq_some_iff.1 hi).1;simpa using this
  have el:l=[]:=by simp [List.getElem?_replicate,hin] at hi;exact hi
  subst el
  exact ⟨⟨by rw [TW i hin];omega,.slice none 0 0,(hbx i hin).2.2,aV.nil _ _ _,fun _ _ e=>by cases e;rfl⟩,TW i hin⟩
 ·rw [ho,if_neg (by omega)]
  repeat' split
  all_goals first|omega|(rename_i hex;have:=hex.choose_spec.1;omega)
theorem NH (o0:Ow) (hz0:o0 3=0∧o0 4=0∧o0 2=0) (c:aB) (b ww nc n:Nat) (hok:c.ok=true) (hcb:c.b=b) (hcw:c.w=ww) (hcc:c.c=nc) (hcm:c.m=n) (w:World) (hT:Tabs w) (hS:Sizes w) (hgl:3<w.heap.size∧4<w.heap.size∧2<w.heap.size):Calls Tryz.prog 39 #[.agg c.cells.toArray] w fun e w'=>∃ (o:Ow) (G:Geo),e = .returned (.tuple #[.pointer (some ⟨G.S,0,none⟩),.int .i64 0])∧ShAt o w' G (Sh.new c b ww nc n)∧(∀ x,x<w.heap.size→o x=o0 x)∧(∀ x,w.heap.size≤x→o x<20)∧Keep none_ w w':=by
 obtain ⟨W0,hW0⟩:∃ W',W'=w.alloc (.cells c.cells.toArray 23):=⟨_,rfl⟩
 have HK:Hid (Keep none_ w W0):=by rw [hW0];exact (Keep.refl _ _).alloc _
 have HN:=Lib.hid (RG c b ww nc hok hcb hcw hcc W0 (hT.keep HK.out) (hS.keep HK.out))
 have HB:=Lib.hid (show Blk W0 w.heap.size c.cells 23 by rw [hW0];exact Blk.new w _ _)
 have hbd:=dW hok
 have hn1:1≤n∧n≤8:=by omega
 have HN1:=Lib.hid hn1
 have HBN:Hid (∀ W,Calls Tryz.prog 68 #[.int .i64 (n:Int)] W fun e w'=>e = .returned (.tuple #[.pointer (some ⟨W.heap.size,0,none⟩),.int .i64 0])∧eX w' W.heap.size (Bd.new (n:Int))∧Keep none_ W w'):=fun W=>I7 (n:Int) W (by omega) (by omega)
 have HSH:Hid (∀ (D:Nat→Nat) (B Q Fl S N0:Nat) (W1 W2 W3:World),au W1 D (HS.new c b ww nc)→(∀ i,i<13→w.heap.size≤D i)→w.heap.size≤W1.heap.size→eX W2 B (Bd.new (n:Int))→Blk W2 Q [.slice none 0 0,.slice none 0 0,.slice none 0 0,.slice none 0 0,.int .i64 0] 172→Blk W2 Fl [.bool false] 121 →
  W1.heap.size≤B→B<Q→Q<Fl→Fl<S→S<N0→N0=W2.heap.size→Keep none_ W1 W2→ShI W2 S N0 [ah (D 0),ah B,ah Q,ah Fl] n W3→∃ (o:Ow) (G:Geo),G.S=S∧ShAt o W3 G (Sh.new c b ww nc n)∧(∀ x,x<w.heap.size→o x=o0 x)∧∀ x,w.heap.size≤x→o x<20) :=
  fun D B Q Fl S N0 W1 W2 W3 p1 p2 p3 p4 p5 p6 p7 p8 p9 p10 p11 p12 p13 p14=>RI o0 hz0 p1 p2 p3 p4 p5 p6 p7 p8 p9 p10 p11 p12 p13 hgl hn1.2 p14
 obtain ⟨c0,c1,c2,c3,c4,c5,c6⟩:=c
 simp only at hcm
 subst hcm
 simp only [aB.cells] at HN HB ⊢
 have HW0:=Lib.hid hW0
 clear hT hok hS hgl hbd hcb hcw hcc hW0
 go_enter Tryz.func39,Tryz.ntmps39
 go_wp2_with fail
 simp only [aB.cells] at HW0
 rw [← HW0.out]
 refine HN.out.mono ?_
 rintro e w1 ⟨D,rfl,hH,hD,k1⟩
 have HH:=Lib.hid hH
 have HD:Hid (∀ i,i<13→w.heap.size≤D i):=fun i hi=>Nat.le_trans HK.out.size (hD i hi)
 have hb1:=k1.blk HB.out (fun f=>f)
 have y2:w1.cell? ⟨w.heap.size,2,none⟩=some (.int .i64 (n:Int)):=hb1.cell 2 rfl
 have HB1:=Lib.hid hb1
 have HK1:=Lib.hid (HK.out.trans k1)
 clear hH hD k1 HB HK HN hb1
 go_wp2_with fail
 refine (HBN.out _).mono ?_
 rintro e w2 ⟨rfl,hBd,k2⟩
 have HBD:=Lib.hid hBd
 have HK2:=Lib.hid k2
 have hb2:=k2.blk HB1.out (fun f=>f)
 have HB2:=Lib.hid hb2
 clear hBd k2 y2 HB1 hb2 HBN
 go_wp2_with fail
 refine (TU _).mono ?_
 rintro e w3 ⟨rfl,hw3⟩
 obtain ⟨W5,hW5⟩:∃ W5,W5=(w3.alloc (.cells #[.bool false] 121)).alloc (.cells #[ah (D 0),ah w1.heap.size,ah w2.heap.size,ah w3.heap.size,.slice none 0 0] 53):=⟨_,rfl⟩
 have k3:Keep none_ w2 w3:=by rw [hw3];exact (Keep.refl _ _).alloc _
 have k5:Keep none_ w3 W5:=by rw [hW5];exact ((Keep.refl _ _).alloc _).alloc _
 have e3:w3.heap.size=w2.heap.size+1:=by rw [hw3];simp
 have e5:W5.heap.size=w3.heap.size+2:=by rw [hW5];simp
 have hq:Blk w3 w2.heap.size [.slice none 0 0,.slice none 0 0,.slice none 0 0,.slice none 0 0,.int .i64 0] 172:=by rw [hw3];exact Blk.new w2 _ _
 have hfl:Blk W5 w3.heap.size [.bool false] 121:=by rw [hW5];exact (Blk.new w3 _ _).alloc _
 have hsh:Blk W5 (w3.heap.size+1) [ah (D 0),ah w1.heap.size,ah w2.heap.size,ah w3.heap.size,.slice none 0 0] 53:=by
  rw [hW5]
  have h9:=Blk.new (w3.alloc (.cells #[.bool false] 121)) [ah (D 0),ah w1.heap.size,ah w2.heap.size,ah w3.heap.size,.slice none 0 0] 53
  rw [World.size_alloc] at h9
  exact h9
 have HI0:Hid (ShI W5 (w3.heap.size+1) W5.heap.size [ah (D 0),ah w1.heap.size,ah w2.heap.size,ah w3.heap.size] 0 W5):=⟨Keep.refl _ _,.slice none 0 0,fun _=>0,hsh,World.ownsRow_nil _ _ _ _,fun i hi=>absurd hi (Nat.not_lt_zero i),fun i k _ hk=>absurd hk (Nat.not_lt_zero k)⟩
 have hb5:=(k3.trans k5).blk HB2.out (fun f=>f)
 have y2:∀ x y,((w3.alloc x).alloc y).cell? ⟨w.heap.size,2,none⟩=some (.int .i64 (n:Int)):=fun x y=>(((k3.blk HB2.out (fun f=>f)).alloc x).alloc y).cell 2 rfl
 have dO:Hid (∀ W3,ShI W5 (w3.heap.size+1) W5.heap.size [ah (D 0),ah w1.heap.size,ah w2.heap.size,ah w3.heap.size] n W3→∃ (o:Ow) (G:Geo),G.S=w3.heap.size+1∧ShAt o W3 G (Sh.new ⟨c0,c1,n,c3,c4,c5,c6⟩ b ww nc n)∧(∀ x,x<w.heap.size→o x=o0 x)∧(∀ x,w.heap.size≤x→o x<20)∧Keep none_ w W3):=fun W3 hI=>by
  have s2:=HBD.out.blk.lt
  have s1:=HK1.out.size
  obtain ⟨o,G,g1,g2,g3,g4⟩:=HSH.out D w1.heap.size w2.heap.size w3.heap.size (w3.heap.size+1) W5.heap.size w1 W5 W3 HH.out HD.out HK1.out.size (HBD.out.keep (k3.trans k5) (fun f=>f)) (k5.blk hq (fun f=>f)) hfl (Nat.le_refl _) (by omega) (by omega) (by omega) (by omega) rfl ((HK2.out.trans k3).trans k5) hI
  exact ⟨o,G,g1,g2,g3,g4,(((HK1.out.trans HK2.out).trans k3).trans k5).UH hI.keep (by omega)⟩
 have HW5:=Lib.hid hW5
 have HSZ:Hid (W5.heap.size=w3.heap.size+2):=e5
 have HCB:Hid (w.heap.size<W5.heap.size∧w.heap.size≠w3.heap.size+1):=by
  have:=HB2.out.lt;exact ⟨by omega,by omega⟩
 have HB5:=Lib.hid hb5
 clear k3 k5 e3 e5 hq hfl hsh hb5 hw3 HBD HK2 HB2 HSH HH HD HK1 hW5
 go_wp2_with fail
 rw [← HW5.out]
 clear y2
 go_loopw [32] (fun i wr=>∃ k:Nat,k≤n∧i = .int .i64 k∧ShI W5 (w3.heap.size+1) W5.heap.size [ah (D 0),ah w1.heap.size,ah w2.heap.size,ah w3.heap.size] k wr) (fun i _=>n - (intOf i).toNat)
 case atStart=>exact ⟨0,Nat.zero_le _,rfl,HI0.out⟩
 case round =>
  obtain ⟨k,hk,rfl,hI⟩:=hrel
  by_cases hlt:k<n
  ·obtain ⟨hkp,sv,bx,hS,hrow,hbx,hmono⟩:=hI
   obtain ⟨sa,sc,rfl⟩:∃ a c,sv = .slice a k c:=by
    obtain ⟨a,cap,rfl,_⟩:=jk (dP hrow (Nat.zero_le _))
    exact ⟨a,cap,rfl⟩
   have oV:(k:Int)<(n:Int):=by omega
   have hk8:k<8:=by have:=HN1.out;omega
   have hkI:(k:Int)<8:=by omega
   have hsS:w3.heap.size+1<wr.heap.size:=hS.lt
   have HL:Hid (Calls Tryz.prog 70 #[] wr.drew fun e w9=>e = .returned (.pointer (some ⟨wr.heap.size,0,none⟩))∧w9.cell? ⟨w3.heap.size+1,4,none⟩=some (.slice sa k sc)∧(∀ x,(w9.alloc x).cell? ⟨w3.heap.size+1,4,none⟩=some (.slice sa k sc)) ∧
    ∃ q cap w5,(app9 #[51,51] 51 #[.slice sa k sc,.slice (some ⟨w9.heap.size,0,none⟩) 1 1]).run Tryz.prog (w9.alloc (.cells #[.pointer (some ⟨wr.heap.size,0,none⟩)] 122)) = .ok (.slice (some ⟨q,0,none⟩) (k+1) cap) w5∧w5.frozen? ⟨w3.heap.size+1,4,none⟩=false∧w5.cell? ⟨w3.heap.size+1,4,none⟩=some (.slice sa k sc) ∧
     Hid (ShI W5 (w3.heap.size+1) W5.heap.size [ah (D 0),ah w1.heap.size,ah w2.heap.size,ah w3.heap.size] (k+1) (w5.setCell ⟨w3.heap.size+1,4,none⟩ (.slice (some ⟨q,0,none⟩) (k+1) cap)))):=by
    refine (RH _).mono ?_
    rintro e w9 ⟨rfl,hw9⟩
    have k9:Keep none_ wr w9:=by rw [hw9];exact ((Keep.refl none_ wr).drew).alloc _
    have e9:w9.heap.size=wr.heap.size+1:=by rw [hw9];simp
    have hb9:Blk w9 wr.heap.size [.slice none 0 0] 176:=by rw [hw9];exact Blk.new wr.drew _ _
    obtain ⟨W1,hW1⟩:∃ W1,W1=w9.alloc (.cells #[.pointer (some ⟨wr.heap.size,0,none⟩)] 122):=⟨_,rfl⟩
    have k91:Keep none_ w9 W1:=by rw [hW1];exact (Keep.refl _ _).alloc _
    have k1:Keep none_ wr W1:=k9.trans k91
    have hN1:W1.cell? ⟨w9.heap.size,0,none⟩=some (.pointer (some ⟨wr.heap.size,0,none⟩)):=by
     rw [hW1];exact (Blk.new w9 [.pointer (some ⟨wr.heap.size,0,none⟩)] 122).cell 0 rfl
    have hbn:Blk W1 wr.heap.size [.slice none 0 0] 176:=k91.blk hb9 (fun f=>f)
    have e1:W1.heap.size=wr.heap.size+2:=by rw [hW1];simp [e9]
    have hS9:=k9.blk hS (fun f=>f)
    have hrow1:=fA hrow k1
    obtain ⟨q,cap,w5,hrun,hown,hgr,hq⟩:=mQ (P:=Tryz.prog) W1 51 51 122 (by kernel_rfl) Tryz.infoPBox rfl (dP hrow1 (Nat.zero_le _)) (N:=w9.heap.size) (u := .pointer (some ⟨wr.heap.size,0,none⟩)) hN1 rfl (by decide) (by omega)
    have Vu:(Value.slice sa k sc).ownBlock≠some (w3.heap.size+1):=own_ne (k1.blk hS (fun f=>f)) hrow1 (by decide)
    have Vw:∀ i,i<k→(Value.slice sa k sc).ownBlock≠some (bx i):=fun i hi=>own_ne (k1.blk (hbx i hi).2.2 (fun f=>f)) hrow1 (by decide)
    have Vx:(Value.slice sa k sc).ownBlock≠some wr.heap.size:=own_ne hbn hrow1 (by decide)
    have hS5:Blk w5 (w3.heap.size+1) ([ah (D 0),ah w1.heap.size,ah w2.heap.size,ah w3.heap.size]++[.slice sa k sc]) 53:=(k1.blk hS (fun f=>f)).grown hgr Vu
    have f5:=hS5.free 4
    have c5:w5.cell? ⟨w3.heap.size+1,4,none⟩=some (.slice sa k sc):=hS5.cell 4 rfl
    have hge:W5.heap.size≤q:=by
     rcases hq with h|h
     ·exact (World.ownsRow.lt hrow1 q h).1
     ·have:=hkp.size;omega
    have J9:Hid (ShI W5 (w3.heap.size+1) W5.heap.size [ah (D 0),ah w1.heap.size,ah w2.heap.size,ah w3.heap.size] (k+1) (w5.setCell ⟨w3.heap.size+1,4,none⟩ (.slice (some ⟨q,0,none⟩) (k+1) cap))):=by
     have s5:=hgr.size
     have sk:=hkp.size
     have hsz:=HSZ.out
     refine ⟨?_,.slice (some ⟨q,0,none⟩) (k+1) cap,fun i=>if i=k then wr.heap.size else bx i,?_,?_,?_,?_⟩
     ·have h8:Keep (fun x=>(Value.slice sa k sc).ownBlock=some x) wr w5:=(k1.mono (fun _ _ f=>f.elim)).trans ⟨hgr.os,hgr.tape,hgr.output,hgr.size,fun x hx hn=>hgr.block x hx (fun e=>by first|exact hn e|exact hn e.symm)⟩
      have h9:Keep (only (w3.heap.size+1)) W5 w5:=hkp.trans' h8 (fun i hi hin=>absurd (World.ownsRow.lt hrow1 i hin).1 (by omega))
      exact h9.put 4 _
     ·exact hS5.set 4 _
     ·have e:(List.range (k+1)).map (fun i=>ah (if i=k then wr.heap.size else bx i))=(List.range k).map (fun i=>ah (bx i))++[ah wr.heap.size]:=by
       rw [List.range_succ,List.map_append]
       congr 1
       ·refine List.map_congr_left (fun i hi=>?_)
        rw [if_neg (by have:=List.mem_range.1 hi;omega)]
       ·simp
      rw [e]
      exact D9 (oz (a:=⟨w3.heap.size+1,4,none⟩) hown (fun x hx=>by simp [Value.ownBlock] at hx;show x≠w3.heap.size+1;omega) _) hge
     ·intro i hi
      by_cases e:i=k
      ·subst e
       dsimp only
       rw [if_pos rfl]
       exact ⟨sk,by simp;omega,(hbn.grown hgr Vx).other (by simp;omega) _⟩
      ·dsimp only
       rw [if_neg e]
       obtain ⟨g1,g2,g3⟩:=hbx i (by omega)
       exact ⟨g1,by simp;omega,((k1.blk g3 (fun f=>f)).grown hgr (Vw i (by omega))).other (by simp;omega) _⟩
     ·intro i j hij hj
      by_cases e:j=k
      ·subst e
       dsimp only
       rw [if_pos rfl,if_neg (by omega)]
       exact (hbx i hij).2.1
      ·dsimp only
       rw [if_neg e,if_neg (by omega)]
       exact hmono i j hij (by omega)
    exact ⟨rfl,hS9.cell 4 rfl,fun x=>(hS9.alloc x).cell 4 rfl,q,cap,w5,by rw [← hW1];exact hrun,f5,c5,J9⟩
   have c0:wr.cell? ⟨w3.heap.size+1,4,none⟩=some (.slice sa k sc):=hS.cell 4 rfl
   have c0d:wr.drew.cell? ⟨w3.heap.size+1,4,none⟩=some (.slice sa k sc):=((Keep.refl none_ wr).drew).still c0
   clear hkp hS hrow hbx hmono
   go_wp2_with fail
   go_region_with (go_at_call 70;refine HL.out.mono ?_;rintro e w9 ⟨rfl,h9a,h9b,q,cap,w5,hrun9,f5,c5,J9⟩)
   all_goals
    go_wp2_with fail
    go_roundw
    case rel=>exact ⟨k+1,by omega,by go_num,J9.out⟩
    case measure=>simp [intOf]<;>omega
  ·have e1:k=n:=by omega
   subst e1
   have HE:=Lib.hid (dO.out wr hI)
   have hnlt:¬ (k:Int)<(k:Int):=by omega
   clear hI hlt
   go_wp2_with fail
   go_ret2
   obtain ⟨o,G,g1,g2,g3,g4,g5⟩:=HE.out
   exact ⟨o,G,by rw [g1];rfl,g2,g3,g4,g5⟩
end
section
attribute [local go_sem] Oper.semAt_some
open Go.RowKit
section
variable {o o':Ow} {w w':World} {G:Geo} {g:MG} {s:Sh} {m:MS} {nv:Value} {ev:Option Ev}
theorem MAt.evs3 (h:MAt o w G g s m ev nv):∃ (a b c d e:Int) (t:Bool),(w.cell? ⟨g.M,23,none⟩=some (.int .i64 0)∧w.cell? ⟨g.M,24,none⟩=some (.int .i64 a)∧w.cell? ⟨g.M,25,none⟩=some (.int .i64 b)∧w.cell? ⟨g.M,26,none⟩=some (.int .i64 c)∧w.cell? ⟨g.M,27,none⟩=some (.int .i64 d)∧w.cell? ⟨g.M,28,none⟩=some (.int .i64 e)∧w.cell? ⟨g.M,29,none⟩=some (.bool t))∧lC ev = .agg #[.int .i64 0,.int .i64 a,.int .i64 b,.int .i64 c,.int .i64 d,.int .i64 e]∧jQ ev = .bool t:=by
 cases ev with
 | none =>
   refine ⟨0,0,0,0,0,false,⟨?_,?_,?_,?_,?_,?_,?_⟩,rfl,rfl⟩
   all_goals exact h.cell _ _ (fun _ _=>rfl)
 | some x =>
   refine ⟨x.who,x.kind,x.op,x.code,x.value,true,⟨?_,?_,?_,?_,?_,?_,?_⟩,rfl,rfl⟩
   all_goals exact h.cell _ _ (fun _ _=>rfl)
theorem Fh {o1 o2:Ow} {W2 W4 w6:World} {m2:MS} {s2:Sh} {v:Value} (hext:aH w o o1) (hR:o1 w.heap.size=99) (hlt:w.heap.size<W2.heap.size) (k2:Keep (In o (bg m.id)) w W2) (e2:aH W2 o1 o2) (k4:Keep (In o1 (bg m.id)) W2 W4)
 (h4:MAt o2 W4 G g s2 m2 ev v) (hid:m2.id=m.id) (n4:iD o2 W4 (G.D 0) (g.Nt,g.M) (30+m2.id) m2.next v) (hp:aQ s m=(s2,m2,ev)) (k6:Keep (only w.heap.size) W4 w6):iO o w G g s m (.returned (.tuple #[lC ev,jQ ev])) w6:=by
 have hR2:o2 w.heap.size=99:=(e2 _ hlt).trans hR
 obtain ⟨h6,n6⟩:=h4.wM n4 k6 hR2
 unfold iO
 rw [hp]
 refine ⟨o2,rfl,hext.trans k2.size e2,⟨ev,v,h6,n6⟩,?_⟩
 have k46:Keep (fun b=>In o1 (bg m.id) b∨b=w.heap.size) W2 w6:=(k4.mono (fun _ _ h=>Or.inl h)).trans (k6.mono (fun b _ h=>Or.inr h))
 refine k2.trans' k46 (fun i hi hin=>?_)
 rcases hin with hin|hin
 ·unfold In at hin ⊢
  rw [hext i hi] at hin
  exact hin
 ·omega
theorem P8 {N:Nat} (h:MAt o w G g s m ev nv) (hn:iD o w (G.D 0) (g.Nt,g.M) (30+m.id) m.next nv) (ok:Pok N s m) (hN:N≤1000000000) (hst:wL m.next) (hnn:isNil m.next=false) (hgo:isNil (stepM s { m with spent:=m.spent+1 } m.next).next=false):Calls Tryz.prog 24 #[.pointer (some ⟨g.M,0,none⟩)] w (iO o w G g s m):=by
 have i8:m.id<8:=Nat.lt_of_lt_of_le h.idl h.box8
 obtain ⟨o1,W2,hW2,hext,hR,h2,n2,k2,hB⟩:=h.pick0 hn
 obtain ⟨⟨x0,x1,x2,x3,x4,x5,x6,hx⟩,hsp0,hnx0,hfr0⟩:=h.behind
 have yw:Sok N s { m with spent:=m.spent+1 }:=⟨ok.color,ok.want,ok.opn,ok.res,ok.q,ok.rl⟩
 obtain ⟨fn,bs,hnv,hcf,hS⟩:=hst h2 yw hN ok.nx nv n2 hnn
 have rk:=step_ok yw m.next ok.nx
 have hp:aQ s m=((stepM s { m with spent:=m.spent+1 } m.next).s,{ (stepM s { m with spent:=m.spent+1 } m.next).m with next:=(stepM s { m with spent:=m.spent+1 } m.next).next },(stepM s { m with spent:=m.spent+1 } m.next).ev):=by
  unfold aQ
  rw [hnn,if_neg (by decide)]
  simp only [hgo,Bool.false_eq_true,if_false]
 have hid:=rk.id
 simp only at hid
 obtain ⟨caps,zM⟩:∃ caps,caps=(bs.map ah).toArray:=⟨_,rfl⟩
 rw [← zM] at hnv hS
 clear zM
 generalize stepM s { m with spent:=m.spent+1 } m.next=R at *
 have HS:Hid (Calls Tryz.prog fn caps W2 fun e w3=>∃ fn3 caps3,e = .returned (.func (.func fn3) #[] caps3)∧w3.frozen? ⟨g.M,17,none⟩=false∧w3.cell? ⟨g.M,17,none⟩=some nv ∧
  ∀ W4,W4=w3.setCell ⟨g.M,17,none⟩ (.func (.func fn3) #[] caps3)→W4.cell? ⟨g.M,17,none⟩=some (.func (.func fn3) #[] caps3)∧∃ (a b c d e:Int) (t:Bool),(W4.cell? ⟨g.M,23,none⟩=some (.int .i64 0)∧W4.cell? ⟨g.M,24,none⟩=some (.int .i64 a)∧W4.cell? ⟨g.M,25,none⟩=some (.int .i64 b)∧W4.cell? ⟨g.M,26,none⟩=some (.int .i64 c)∧W4.cell? ⟨g.M,27,none⟩=some (.int .i64 d)∧W4.cell? ⟨g.M,28,none⟩=some (.int .i64 e)∧W4.cell? ⟨g.M,29,none⟩=some (.bool t)) ∧
   Blk W4 w.heap.size zero6.toList 37∧Hid (∀ w6,Keep (only w.heap.size) W4 w6→iO o w G g s m (.returned (.tuple #[.agg #[.int .i64 0,.int .i64 a,.int .i64 b,.int .i64 c,.int .i64 d,.int .i64 e],.bool t])) w6)):=by
  refine hS.mono ?_
  rintro e w3 ⟨o2,v3,rfl,e2,h3,n3,k3⟩
  rcases n3.form2 with ⟨hc,_⟩|⟨_,fn3,caps3,rfl⟩
  ·rw [hgo] at hc;cases hc
  refine ⟨fn3,caps3,rfl,h3.free 17,h3.c17,fun W4 hW4=>?_⟩
  obtain ⟨h4,k4⟩:=h3.Fe (.func (.func fn3) #[] caps3)
  rw [← hW4] at h4 k4
  rw [hid] at k4
  obtain ⟨a,b,c,d,e,t,hcs,ea,et⟩:=h4.evs3
  have k24:Keep (In o1 (bg m.id)) W2 W4:=k3.yP (k4.iI (by simp [bg])) e2
  have hB4:Blk W4 w.heap.size zero6.toList 37:=hB.ay k24 hR (by simp [bg]<;>omega)
  refine ⟨h4.c17,a,b,c,d,e,t,hcs,hB4,fun w6 k6=>?_⟩
  rw [← ea,← et]
  have n4:iD o2 W4 (G.D 0) (g.Nt,g.M) (30+R.m.id) R.next (.func (.func fn3) #[] caps3):=by
   rw [hid];exact n3.ay k4 (by simp<;>omega) (by simp<;>omega)
  exact Fh hext hR hB.lt k2 e2 k24 (h4.withNext R.next) hid n4 hp k6
 have hsp:=ok.sp
 have Fg:(m.spent:Int)≤1000000000:=by omega
 have zL:(0:Int)≤(m.spent:Int):=by omega
 have jD:=hW2
 unfold qH at jD
 have HW2:=Lib.hid jD
 subst hnv
 have hnq:=yt fn caps
 have heq:=PI
 have f17:=fun x=>hfr0 x 17
 have f19:=fun x=>hfr0 x 19
 have f23:=fun x=>hfr0 x 23
 have f24:=fun x=>hfr0 x 24
 have f25:=fun x=>hfr0 x 25
 have f26:=fun x=>hfr0 x 26
 have f27:=fun x=>hfr0 x 27
 have f28:=fun x=>hfr0 x 28
 have f29:=fun x=>hfr0 x 29
 have g23:=fun x=>(hx x).1
 have g24:=fun x=>(hx x).2.1
 have g25:=fun x=>(hx x).2.2.1
 have g26:=fun x=>(hx x).2.2.2.1
 have g27:=fun x=>(hx x).2.2.2.2.1
 have g28:=fun x=>(hx x).2.2.2.2.2.1
 have g29:=fun x=>(hx x).2.2.2.2.2.2
 generalize iO o w G g s m=PO at *
 generalize m.spent=sp at *
 clear h hn h2 n2 k2 hext hW2 jD hx hfr0 hB hnn hgo hsp rk yw hp ok hS hid
 go_enter Tryz.func24,Tryz.ntmps24
 go_wp2_with fail
 rw [← HW2.out]
 refine HS.out.mono ?_
 rintro e w3 ⟨fn3,caps3,rfl,e17,d17,hs⟩
 obtain ⟨W5,hW5⟩:∃ W5,W5=w3.setCell ⟨g.M,17,none⟩ (.func (.func fn3) #[] caps3):=⟨_,rfl⟩
 obtain ⟨z17,a,b,c,d,e,t,⟨y0,y1,y2,y3,y4,y5,y6⟩,hB5,hend⟩:=hs W5 hW5
 have dO:=Lib.hid hend
 obtain ⟨W6,hW6⟩:∃ W6,W6=W5.drew:=⟨_,rfl⟩
 have k56:Keep none_ W5 W6:=by rw [hW6];exact (Keep.refl none_ W5).drew
 have hB6:=k56.blk hB5 (fun f=>f)
 have HW5:=Lib.hid hW5
 have zf0:=hB5.free 0
 have zf1:=hB5.free 1
 have zf2:=hB5.free 2
 have zf3:=hB5.free 3
 have zf4:=hB5.free 4
 have zf5:=hB5.free 5
 have z0:W5.cell? ⟨w.heap.size,0,none⟩=some (.int .i64 0):=hB5.cell 0 rfl
 have z1:W5.cell? ⟨w.heap.size,1,none⟩=some (.int .i64 0):=hB5.cell 1 rfl
 have z2:W5.cell? ⟨w.heap.size,2,none⟩=some (.int .i64 0):=hB5.cell 2 rfl
 have z3:W5.cell? ⟨w.heap.size,3,none⟩=some (.int .i64 0):=hB5.cell 3 rfl
 have z4:W5.cell? ⟨w.heap.size,4,none⟩=some (.int .i64 0):=hB5.cell 4 rfl
 have z5:W5.cell? ⟨w.heap.size,5,none⟩=some (.int .i64 0):=hB5.cell 5 rfl
 have x0':=k56.still y0;have x1':=k56.still y1;have x2':=k56.still y2;have x3':=k56.still y3;have x4':=k56.still y4;have x5':=k56.still y5;have x6':=k56.still y6
 have yf0:=hB6.free 0
 have yf1:=hB6.free 1
 have yf2:=hB6.free 2
 have yf3:=hB6.free 3
 have yf4:=hB6.free 4
 have yf5:=hB6.free 5
 have r0:W6.cell? ⟨w.heap.size,0,none⟩=some (.int .i64 0):=hB6.cell 0 rfl
 have r1:W6.cell? ⟨w.heap.size,1,none⟩=some (.int .i64 0):=hB6.cell 1 rfl
 have r2:W6.cell? ⟨w.heap.size,2,none⟩=some (.int .i64 0):=hB6.cell 2 rfl
 have r3:W6.cell? ⟨w.heap.size,3,none⟩=some (.int .i64 0):=hB6.cell 3 rfl
 have r4:W6.cell? ⟨w.heap.size,4,none⟩=some (.int .i64 0):=hB6.cell 4 rfl
 have r5:W6.cell? ⟨w.heap.size,5,none⟩=some (.int .i64 0):=hB6.cell 5 rfl
 rw [hW6] at r0 r1 r2 r3 r4 r5 yf0 yf1 yf2 yf3 yf4 yf5 x0' x1' x2' x3' x4' x5' x6'
 clear f17 f19 f23 f24 f25 f26 f27 f28 f29 g23 g24 g25 g26 g27 g28 g29 hsp0 hnx0 hend hs hB5 hB6 Fg zL HS k56 hW6 hnq hcf
 rw [hW5] at z17
 clear hW5
 go_wp2_with fail
 rw [← HW5.out]
 clear e17 d17 z17
 go_region
 go_wp2_with fail
 refine bodyPost_ret (v := .tuple #[.agg #[.int .i64 0,.int .i64 a,.int .i64 b,.int .i64 c,.int .i64 d,.int .i64 e],.bool t]) (by simp [results,Tryz.f24,go_sem,zf0,zf1,zf2,zf3,zf4,zf5,z0,z1,z2,z3,z4,z5]) rfl ?_
 exact dO.out _ ((((((((Keep.refl (only w.heap.size) _).put _ _).put _ _).put _ _).put _ _).put _ _).put _ _).drew)
end
section
variable {o o':Ow} {w w':World} {G:Geo} {g:MG} {s:Sh} {m:MS} {nv:Value} {ev:Option Ev}
theorem MAt.RJ (h:MAt o w G g s m ev .nilFunc):MAt o (w.setCell ⟨g.M,20+(if m.ans then 1 else 0),none⟩ (.int .i64 ((max (if m.ans then m.most1 else m.most0) m.spent:Nat):Int))) G g s { m with next := .nil }.most ev .nilFunc∧Keep (In o [20+m.id]) w (w.setCell ⟨g.M,20+(if m.ans then 1 else 0),none⟩ (.int .i64 ((max (if m.ans then m.most1 else m.most0) m.spent:Nat):Int))):=by
 obtain ⟨id,c,regs,buf,mode,color,want,prog,res,next,held,spent,most0,most1,ans⟩:=m
 cases ans with
 | true =>
   obtain ⟨h1,k1⟩:=h.put 21 (.int .i64 ((max most1 spent:Nat):Int)) ⟨id,c,regs,buf,mode,color,want,prog,res,next,held,spent,most0,max most1 spent,true⟩ ev .nilFunc (fun pv rv=>rfl) ⟨rfl,rfl,rfl,rfl,rfl,rfl⟩
   exact ⟨h1.withNext .nil,k1⟩
 | false =>
   obtain ⟨h1,k1⟩:=h.put 20 (.int .i64 ((max most0 spent:Nat):Int)) ⟨id,c,regs,buf,mode,color,want,prog,res,next,held,spent,max most0 spent,most1,false⟩ ev .nilFunc (fun pv rv=>rfl) ⟨rfl,rfl,rfl,rfl,rfl,rfl⟩
   exact ⟨h1.withNext .nil,k1⟩
theorem MAt.U3 (h:MAt o w G g s m ev nv):w.cell? ⟨g.M,20+(if m.ans then 1 else 0),none⟩=some (.int .i64 ((if m.ans then m.most1 else m.most0:Nat):Int)):=by
 cases ha:m.ans with
 | true=>exact h.cell 21 _ (fun _ _=>rfl)
 | false=>exact h.cell 20 _ (fun _ _=>rfl)
theorem NI {N:Nat} (h:MAt o w G g s m ev nv) (hn:iD o w (G.D 0) (g.Nt,g.M) (30+m.id) m.next nv) (ok:Pok N s m) (hN:N≤1000000000) (hst:wL m.next) (hnn:isNil m.next=false) (hgo:isNil (stepM s { m with spent:=m.spent+1 } m.next).next=true):Calls Tryz.prog 24 #[.pointer (some ⟨g.M,0,none⟩)] w (iO o w G g s m):=by
 have i8:m.id<8:=Nat.lt_of_lt_of_le h.idl h.box8
 obtain ⟨o1,W2,hW2,hext,hR,h2,n2,k2,hB⟩:=h.pick0 hn
 obtain ⟨⟨x0,x1,x2,x3,x4,x5,x6,hx⟩,hsp0,hnx0,hfr0⟩:=h.behind
 have yw:Sok N s { m with spent:=m.spent+1 }:=⟨ok.color,ok.want,ok.opn,ok.res,ok.q,ok.rl⟩
 obtain ⟨fn,bs,hnv,hcf,hS⟩:=hst h2 yw hN ok.nx nv n2 hnn
 have rk:=step_ok yw m.next ok.nx
 have hp:aQ s m=((stepM s { m with spent:=m.spent+1 } m.next).s,{ (stepM s { m with spent:=m.spent+1 } m.next).m with next := .nil }.most,(stepM s { m with spent:=m.spent+1 } m.next).ev):=by
  unfold aQ
  rw [hnn,if_neg (by decide)]
  simp only [hgo,if_true]
 have hid:=rk.id
 simp only at hid
 obtain ⟨caps,zM⟩:∃ caps,caps=(bs.map ah).toArray:=⟨_,rfl⟩
 rw [← zM] at hnv hS
 clear zM
 generalize stepM s { m with spent:=m.spent+1 } m.next=R at *
 have HS:Hid (Calls Tryz.prog fn caps W2 fun e w3=>e = .returned .nilFunc∧w3.frozen? ⟨g.M,17,none⟩=false∧w3.cell? ⟨g.M,17,none⟩=some nv ∧
  ∃ (an:Bool) (mo spn:Nat),∀ W4,W4=w3.setCell ⟨g.M,17,none⟩ .nilFunc→W4.cell? ⟨g.M,17,none⟩=some .nilFunc∧W4.cell? ⟨g.M,22,none⟩=some (.bool an)∧W4.cell? ⟨g.M,19,none⟩=some (.int .i64 (spn:Int))∧W4.cell? ⟨g.M,20+(if an then 1 else 0),none⟩=some (.int .i64 (mo:Int))∧W4.frozen? ⟨g.M,20+(if an then 1 else 0),none⟩=false ∧
  ∃ (a b c d e:Int) (t:Bool),∀ W5,W5=(W4.setCell ⟨g.M,20+(if an then 1 else 0),none⟩ (.int .i64 ((max mo spn:Nat):Int))).drew→(W5.cell? ⟨g.M,23,none⟩=some (.int .i64 0)∧W5.cell? ⟨g.M,24,none⟩=some (.int .i64 a)∧W5.cell? ⟨g.M,25,none⟩=some (.int .i64 b)∧W5.cell? ⟨g.M,26,none⟩=some (.int .i64 c)∧W5.cell? ⟨g.M,27,none⟩=some (.int .i64 d)∧W5.cell? ⟨g.M,28,none⟩=some (.int .i64 e)∧W5.cell? ⟨g.M,29,none⟩=some (.bool t)) ∧
   Blk W5 w.heap.size zero6.toList 37∧Hid (∀ w6,Keep (only w.heap.size) W5 w6→iO o w G g s m (.returned (.tuple #[.agg #[.int .i64 0,.int .i64 a,.int .i64 b,.int .i64 c,.int .i64 d,.int .i64 e],.bool t])) w6)):=by
  refine hS.mono ?_
  rintro e w3 ⟨o2,v3,rfl,e2,h3,n3,k3⟩
  rcases n3.form2 with ⟨_,rfl⟩|⟨hc,_⟩
  rotate_left
  ·rw [hgo] at hc;cases hc
  refine ⟨rfl,h3.free 17,h3.c17,R.m.ans,(if R.m.ans then R.m.most1 else R.m.most0),R.m.spent,fun W4 hW4=>?_⟩
  obtain ⟨h4,k4⟩:=h3.Fe .nilFunc
  rw [← hW4] at h4 k4
  rw [hid] at k4
  refine ⟨h4.c17,h4.c22,h4.c19,h4.U3,h4.free _,?_⟩
  obtain ⟨h5,k5⟩:=h4.RJ
  rw [hid] at k5
  obtain ⟨a,b,c,d,e,t,-,ea,et⟩:=h5.evs3
  refine ⟨a,b,c,d,e,t,fun W5 hW5=>?_⟩
  have k5d:Keep none_ (W4.setCell ⟨g.M,20+(if R.m.ans then 1 else 0),none⟩ (.int .i64 ((max (if R.m.ans then R.m.most1 else R.m.most0) R.m.spent:Nat):Int))) W5:=by rw [hW5];exact (Keep.refl none_ _).drew
  have h6:=h5.still k5d
  obtain ⟨a',b',c',d',e',t',hcs,ea',et'⟩:=h6.evs3
  have e9:(a=a'∧b=b'∧c=c'∧d=d'∧e=e')∧t=t':=by
   rw [ea] at ea';rw [et] at et'
   simp at ea' et'
   exact ⟨ea',et'⟩
  obtain ⟨⟨rfl,rfl,rfl,rfl,rfl⟩,rfl⟩:=e9
  have k24:Keep (In o1 (bg m.id)) W2 W5:=(k3.yP ((k4.trans k5).iI (by simp [bg])) e2).trans k5d.aF
  have hB4:Blk W5 w.heap.size zero6.toList 37:=hB.ay k24 hR (by simp [bg]<;>omega)
  refine ⟨hcs,hB4,fun w6 k6=>?_⟩
  rw [← ea,← et]
  have er:({ R.m with next := .nil }:MS).most.id=m.id∧({ R.m with next := .nil }:MS).most.next = .nil:=by
   unfold MS.most
   split<;>exact ⟨hid,rfl⟩
  exact Fh hext hR hB.lt k2 e2 k24 h6 er.1 (by rw [er.2];rfl) hp k6
 have hsp:=ok.sp
 have Fg:(m.spent:Int)≤1000000000:=by omega
 have zL:(0:Int)≤(m.spent:Int):=by omega
 have jD:=hW2
 unfold qH at jD
 have HW2:=Lib.hid jD
 subst hnv
 have hnq:=yt fn caps
 have heq:=Rn
 have f17:=fun x=>hfr0 x 17
 have f19:=fun x=>hfr0 x 19
 have f23:=fun x=>hfr0 x 23
 have f24:=fun x=>hfr0 x 24
 have f25:=fun x=>hfr0 x 25
 have f26:=fun x=>hfr0 x 26
 have f27:=fun x=>hfr0 x 27
 have f28:=fun x=>hfr0 x 28
 have f29:=fun x=>hfr0 x 29
 have g23:=fun x=>(hx x).1
 have g24:=fun x=>(hx x).2.1
 have g25:=fun x=>(hx x).2.2.1
 have g26:=fun x=>(hx x).2.2.2.1
 have g27:=fun x=>(hx x).2.2.2.2.1
 have g28:=fun x=>(hx x).2.2.2.2.2.1
 have g29:=fun x=>(hx x).2.2.2.2.2.2
 generalize iO o w G g s m=PO at *
 generalize m.spent=sp at *
 clear h hn h2 n2 k2 hext hW2 jD hx hfr0 hB hnn hgo hsp rk yw hp ok hS hid
 go_enter Tryz.func24,Tryz.ntmps24
 go_wp2_with fail
 rw [← HW2.out]
 refine HS.out.mono ?_
 rintro e w3 ⟨rfl,e17,d17,an,mo,spn,hs⟩
 obtain ⟨W4,hW4⟩:∃ W4,W4=w3.setCell ⟨g.M,17,none⟩ .nilFunc:=⟨_,rfl⟩
 obtain ⟨z17,z22,z19,z20,zf20,a,b,c,d,e,t,hs5⟩:=hs W4 hW4
 have HW4:=Lib.hid hW4
 have HS5:=Lib.hid hs5
 have zd19:W4.drew.cell? ⟨g.M,19,none⟩=some (.int .i64 (spn:Int)):=(Keep.refl none_ W4).drew.still z19
 have zd20:=((Keep.refl none_ W4).drew).still z20
 rw [hW4] at z17 z22
 clear f17 f19 f23 f24 f25 f26 f27 f28 f29 g23 g24 g25 g26 g27 g28 g29 hsp0 hnx0 hs5 hs Fg zL HS hnq hcf hW4
 by_cases hle:spn≤mo
 ·have hmx:max mo spn=mo:=Nat.max_eq_left hle
  rw [hmx] at HS5
  have P9:(spn:Int)≤(mo:Int):=by omega
  clear hmx hle
  cases an
  all_goals
   simp only [Bool.false_eq_true,if_false,if_true,Nat.add_zero,Nat.reduceAdd] at z20 zf20 zd20 HS5
   obtain ⟨⟨y0,y1,y2,y3,y4,y5,y6⟩,hB5,hend⟩:=HS5.out _ rfl
   go_wp2_with fail
   rw [← HW4.out]
   clear e17 d17 z17 z22
   go_region
   go_wp2_with fail
   have dO:=Lib.hid hend
   have zf0:=hB5.free 0
   have zf1:=hB5.free 1
   have zf2:=hB5.free 2
   have zf3:=hB5.free 3
   have zf4:=hB5.free 4
   have zf5:=hB5.free 5
   have z0:=hB5.cell 0 (v := .int .i64 0) rfl
   have z1:=hB5.cell 1 (v := .int .i64 0) rfl
   have z2:=hB5.cell 2 (v := .int .i64 0) rfl
   have z3:=hB5.cell 3 (v := .int .i64 0) rfl
   have z4:=hB5.cell 4 (v := .int .i64 0) rfl
   have z5:=hB5.cell 5 (v := .int .i64 0) rfl
   clear hend hB5 HS5 zd19 zd20 z19 z20 zf20 P9
   generalize (W4.setCell _ _).drew=W5 at *
   have x0':=(Keep.refl none_ W5).drew.still y0;have x1':=(Keep.refl none_ W5).drew.still y1;have x2':=(Keep.refl none_ W5).drew.still y2;have x3':=(Keep.refl none_ W5).drew.still y3;have x4':=(Keep.refl none_ W5).drew.still y4;have x5':=(Keep.refl none_ W5).drew.still y5;have x6':=(Keep.refl none_ W5).drew.still y6
   have r0:=(Keep.refl none_ W5).drew.still z0;have r1:=(Keep.refl none_ W5).drew.still z1;have r2:=(Keep.refl none_ W5).drew.still z2;have r3:=(Keep.refl none_ W5).drew.still z3;have r4:=(Keep.refl none_ W5).drew.still z4;have r5:=(Keep.refl none_ W5).drew.still z5
   go_region
   go_wp2_with fail
   refine bodyPost_ret (v := .tuple #[.agg #[.int .i64 0,.int .i64 a,.int .i64 b,.int .i64 c,.int .i64 d,.int .i64 e],.bool t]) (by simp [results,Tryz.f24,go_sem,zf0,zf1,zf2,zf3,zf4,zf5,z0,z1,z2,z3,z4,z5]) rfl ?_
   exact dO.out _ ((((((((Keep.refl (only w.heap.size) _).put _ _).put _ _).put _ _).put _ _).put _ _).put _ _).drew)
 ·have hmx:max mo spn=spn:=Nat.max_eq_right (by omega)
  rw [hmx] at HS5
  have P9:¬ (spn:Int)≤(mo:Int):=by omega
  have oV:(mo:Int)<(spn:Int):=by omega
  clear hmx hle
  cases an
  all_goals
   simp only [Bool.false_eq_true,if_false,if_true,Nat.add_zero,Nat.reduceAdd] at z20 zf20 zd20 HS5
   obtain ⟨⟨y0,y1,y2,y3,y4,y5,y6⟩,hB5,hend⟩:=HS5.out _ rfl
   go_wp2_with fail
   rw [← HW4.out]
   clear e17 d17 z17 z22
   go_region
   go_wp2_with fail
   have dO:=Lib.hid hend
   have zf0:=hB5.free 0
   have zf1:=hB5.free 1
   have zf2:=hB5.free 2
   have zf3:=hB5.free 3
   have zf4:=hB5.free 4
   have zf5:=hB5.free 5
   have z0:=hB5.cell 0 (v := .int .i64 0) rfl
   have z1:=hB5.cell 1 (v := .int .i64 0) rfl
   have z2:=hB5.cell 2 (v := .int .i64 0) rfl
   have z3:=hB5.cell 3 (v := .int .i64 0) rfl
   have z4:=hB5.cell 4 (v := .int .i64 0) rfl
   have z5:=hB5.cell 5 (v := .int .i64 0) rfl
   clear hend hB5 HS5 zd19 zd20 z19 z20 zf20 P9
   generalize (W4.setCell _ _).drew=W5 at *
   have x0':=(Keep.refl none_ W5).drew.still y0;have x1':=(Keep.refl none_ W5).drew.still y1;have x2':=(Keep.refl none_ W5).drew.still y2;have x3':=(Keep.refl none_ W5).drew.still y3;have x4':=(Keep.refl none_ W5).drew.still y4;have x5':=(Keep.refl none_ W5).drew.still y5;have x6':=(Keep.refl none_ W5).drew.still y6
   have r0:=(Keep.refl none_ W5).drew.still z0;have r1:=(Keep.refl none_ W5).drew.still z1;have r2:=(Keep.refl none_ W5).drew.still z2;have r3:=(Keep.refl none_ W5).drew.still z3;have r4:=(Keep.refl none_ W5).drew.still z4;have r5:=(Keep.refl none_ W5).drew.still z5
   go_region
   go_wp2_with fail
   refine bodyPost_ret (v := .tuple #[.agg #[.int .i64 0,.int .i64 a,.int .i64 b,.int .i64 c,.int .i64 d,.int .i64 e],.bool t]) (by simp [results,Tryz.f24,go_sem,zf0,zf1,zf2,zf3,zf4,zf5,z0,z1,z2,z3,z4,z5]) rfl ?_
   exact dO.out _ ((((((((Keep.refl (only w.heap.size) _).put _ _).put _ _).put _ _).put _ _).put _ _).put _ _).drew)
end
end
section
open Go.RowKit
theorem Tryz.infoOpC:(Tryz.prog.info? 83).map (fun i=>(i.zero,i.size,i.bytes))=some (some (.agg #[.int .i64 0,.int .i64 0,.int .i64 0,.int .i64 0]),4,32):=by kernel_rfl
theorem Fj {sz:Nat} (h0:0<sz):∀ (rs:List (List Value)),(∀ r∈rs,r.length=sz)→∀ j u,rs.flatten[j]?=some u→∃ i r q,rs[i]?=some r∧r[q]?=some u∧j=i*sz+q
 | [],_,j,u,h=>by simp at h
 | r0::rs,hr,j,u,h=>by
   have hl:r0.length=sz:=hr r0 (by simp)
   rw [List.flatten_cons] at h
   rcases Nat.lt_or_ge j r0.length with h1|h1
   ·rw [List.getElem?_append_left h1] at h
    exact ⟨0,r0,j,rfl,h,by omega⟩
   ·rw [List.getElem?_append_right h1] at h
    obtain ⟨i,r,q,e1,e2,e3⟩:=Fj h0 rs (fun r h=>hr r (by simp [h])) _ u h
    refine ⟨i+1,r,q,by simpa using e1,e2,?_⟩
    rw [Nat.succ_mul];omega
theorem lu.NJ {w:World} {a:Option Addr} {n sz:Nat} {rs:List (List Value)} (h:lu w a n sz rs) (hs:0<sz) (hr:∀ r∈rs,r.length=sz) {ad:Addr} (ha:a=some ad):∀ j u,rs.flatten[j]?=some u→w.cell? (ad.add j)=some u:=by
 intro j u hj
 obtain ⟨i,r,q,e1,e2,rfl⟩:=Fj hs rs hr j u hj
 have hi:=(List.getElem?_eq_some_iff.1 e1).1
 obtain ⟨b,off,e,hc⟩:=h.at_ (by have:=h.len;omega)
 rw [ha] at e
 injection e with e
 subst e
 have ea:(⟨b,off,none⟩:Addr).add (i*sz+q)=⟨b,off+i*sz+q,none⟩:=by simp only [Addr.add];split<;>simp_all<;>omega
 rw [ea]
 exact hc i r e1 q u e2
theorem Hf (a:Option Addr) (n c:Nat) (rs:List (List Value)) (w:World) (h:lu w a n 4 rs) (hr:∀ r∈rs,r.length=4) (hnil:a=none→c=0) (hm:n≤100000000) (h1:∀ r∈rs,∀ u∈r,u.oneCell'=true) :
 Calls Tryz.prog 77 #[.slice a n c] w fun e w'=>∃ v',e = .returned v'∧w'.ownsRow w.heap.size 83 4 v' n rs.flatten∧Keep none_ w w':=by
 have hlen:=EG rs hr
 have hnl:=h.len
 cases a with
 | none =>
   have h0:n=0:=by
    rcases Nat.eq_zero_or_pos n with h0|h0
    ·exact h0
    ·obtain ⟨b,off,e,_⟩:=h.at_ h0;cases e
   subst h0
   have:rs=[]:=List.eq_nil_of_length_eq_zero hnl
   subst this
   obtain rfl:=hnil rfl
   clear h hr hnil hm h1 hlen hnl
   have hn:=fun w=>Lib.run_eql_slice_nil (P:=Tryz.prog) w 81 83 none 0 0 0 0 (by kernel_rfl)
   go_enter Tryz.func77,Tryz.ntmps77
   go_wp2
   go_ret
   exact ⟨_,rfl,World.ownsRow_nil _ _ _ _,Keep.refl _ _⟩
 | some ad =>
   have hn:=fun w=>Lib.run_eql_slice_nil (P:=Tryz.prog) w 81 83 (some ad) n c 0 0 (by kernel_rfl)
   obtain ⟨i0,hi1,hi2,hi3,hi4⟩:=info_parts Tryz.infoOpC
   have hw0:∀ w:World,(w.alloc (.cells #[] 83)).ownsRow w.heap.size 83 4 (.slice (some ⟨w.heap.size,0,none⟩) 0 0) 0 []:=fun w=>World.ownsRow_made w #[] 0 (Nat.le_refl _) (by decide) rfl
   have HC:=Lib.hid (fun j u hj=>(h.below ((Keep.refl none_ w).alloc (.cells #[] 83))).NJ (by decide) hr rfl j u hj)
   have HU:Hid (∀ u∈rs.flatten,u.oneCell'=true):=fun u hu=>by
    obtain ⟨r,hr1,hr2⟩:=List.mem_flatten.1 hu
    exact h1 r hr1 u hr2
   rw [hnl] at hlen
   generalize rs.flatten=xs at *
   clear h hr hnil h1 hnl
   go_enter Tryz.func77,Tryz.ntmps77
   go_wp2_with (at_builtin;refine wpList_append_own _ rfl _ _ 81 rfl w.heap.size 83 i0 (.agg #[.int .i64 0,.int .i64 0,.int .i64 0,.int .i64 0]) 4 32 (by kernel_rfl) hi1 hi2 hi3 hi4 rfl (by decide) _ _ _ rfl (hw0 w) ad n c xs rfl hlen HC.out HU.out (by unfold maxLen;omega) (by omega) (by simp) ?_;intro v' w1 hown hgr _)
   have hown':w1.ownsRow w.heap.size 83 4 v' n xs:=by simpa using hown
   have hkeep:Keep none_ w w1:=((Keep.refl none_ w).alloc _).grown hgr (fun k e hk=>absurd hk (by have e':w.heap.size=k:=Option.some.inj e;omega))
   clear hown hgr
   go_wp2
   go_ret
   exact ⟨_,rfl,hown',hkeep⟩
end
end Go.Proofs.YtanfphjoebobaaaGreatDoor
