/- Parts of the iy. No conditions. -/
import Derived.Test.YtanfphjoebobaaaGreatDoorZzfv
namespace Go.Proofs.YtanfphjoebobaaaGreatDoor
open _root_.Bool renaming true_and->akG
open _root_.Int renaming toNat_natCast->ajv
open _root_.List renaming getD_eq_getElem?_getD->ajg,getElem?_append_left->ajk,getElem?_append_right->ajl,getElem?_eq_getElem->ajh,getElem?_eq_some_iff->ake,getElem?_set_ne->ajB,getElem?_set_self->ajA,length_set->aku,map_append->alk,range_succ->alj
open _root_.Nat renaming le_refl->aje,le_trans->ajU,lt_of_lt_of_le->ajf,zero_le->aki
open _root_.Go.Proofs.Tryz hiding prog
open _root_.Go.Proofs.Tryz renaming prog->aA
set_option maxRecDepth 8000
set_option maxHeartbeats 8000000
section
attribute [local go_sem] Oper.semAt_some
open Go.RowKit
def gG (H:HS) (sz:List Nat):HS:=sz.foldl (fun H z=>(H.vN (z%4) 0).2) H
theorem Yx (H:HS) (sz:List Nat) (j:Nat) (hj:j<sz.length):gG H (sz.take (j+1))=((gG H (sz.take j)).vN (sz.getD j 0%4) 0).2:=by
 unfold gG
 rw [List.take_add_one,ajh hj,List.foldl_append,ajg,ajh hj]
 rfl
def gu (all fl:List Nat) (a:Nat) (p:HS × Nat):Nat->HS × Nat
 | 0=>p
 | f+1=>if (gu all fl a p f).2<fl.length then ((gu all fl a p f).1.jJ a (f:Int) (qx all (fl.getD (gu all fl a p f).2 0)),(gu all fl a p f).2+1) else gu all fl a p f
def oI (all fl:List Nat) (p:HS × Nat):Nat->HS × Nat
 | 0=>p
 | i+1=>gu all fl (all.getD i 0) (oI all fl p i) ((oI all fl p i).1.dh (all.getD i 0)).1
def xC (all ce:List Nat) (H:HS):Nat->HS
 | 0=>H
 | i+1=>(xC all ce H i).vU (i:Int) (qx all (ce.getD i 0))
def xQ (H:HS) (sz fl ce:List Nat):HS:=xC (gG H sz).aQ ce (oI (gG H sz).aQ fl (gG H sz,0) (gG H sz).aQ.length).1 ce.length
theorem MN {all fl:List Nat} {a:Nat} {p:HS × Nat} {f:Nat} (h:¬ (gu all fl a p f).2<fl.length):∀ d,gu all fl a p (f+d)=gu all fl a p f
 | 0=>rfl
 | d+1=>by
   have e:=MN h d
   show (if (gu all fl a p (f+d)).2<fl.length then _ else gu all fl a p (f+d))=_
   rw [e,aT h]
theorem J7 {all fl:List Nat} {a:Nat} {p:HS × Nat} (h:p.2<=fl.length):∀ f,(gu all fl a p f).2<=fl.length
 | 0=>h
 | f+1=>by
   show (if (gu all fl a p f).2<fl.length then _ else gu all fl a p f).2<=_
   split
   ·assumption
   ·exact J7 h f
theorem TP {all fl:List Nat} {p:HS × Nat} (h:p.2<=fl.length):∀ i,(oI all fl p i).2<=fl.length
 | 0=>h
 | i+1=>J7 (TP h i) _
theorem DT (H:HS) (a:Nat):(H.dh a).1<=100:=by
 unfold HS.dh
 split
 ·unfold HS.nf HS.tK
  cases hh:Ey (H.jf a) with
  | none=>exact aki _
  | some cf =>
    obtain ⟨c,f⟩:=cf
    obtain ⟨⟨hc,hf⟩,_⟩:=Fb hh
    show f<=100
    have:2^(c+1)<=2^4:=Nat.pow_le_pow_right (by decide) (by omega)
    omega
 ·exact aki _
section
variable {w w':World} {D:Nat->Nat} {H:HS} {a1 a2 a3 a4:Option Addr} {n1 n2 n3 n4 p1 p2 p3 p4:Nat}
theorem TQ {z:Nat}:∃ r:Nat,(z:Int).tmod 4=(r:Int)/\(z:Int)%4=(r:Int)/\r=z%4/\r<=3 :=
 ⟨z%4,by rw [Int.tmod_eq_emod_of_nonneg (by omega)];omega,by omega,rfl,by omega⟩
theorem acT (h:aI w D H) (hT:∀ W,aj (HF D) w W->pI W) (c0 c1 c2 c3 c4 c5 c6:Int) (sz fl ce:List Nat)
 (h1:∀ W,aj (HF D) w W->yt W a1 n1 sz) (h2:∀ W,aj (HF D) w W->yt W a2 n2 fl) (h3:∀ W,aj (HF D) w W->yt W a3 n3 ce) (m1:n1<=30) (m2:n2<=100) (m3:n3<=20) :
 Calls aA 40 #[au (D 0),.agg #[ah c0,ah c1,ah c2,ah c3,ah c4,ah c5,ah c6,.slice a1 n1 p1,.slice a2 n2 p2,.slice a3 n3 p3,.slice a4 n4 p4]] w
  fun e w'=>∃ v,e = .returned v/\w'.ownsRow w.heap.size 3 1 v (gG H sz).aQ.length (aS (gG H sz).aQ)/\aI w' D (xQ H sz fl ce)/\aj (HF D) w w'/\(gG H sz).aQ.length<=1048577:=by
 have hD:=h.Lj
 have l1:=(h1 w (aj.refl _ _)).len
 have l2:=(h2 w (aj.refl _ _)).len
 have l3:=(h3 w (aj.refl _ _)).len
 obtain ⟨W0,hW0⟩:∃ W',W'=w.alloc (.cells #[ah c0,ah c1,ah c2,ah c3,ah c4,ah c5,ah c6,.slice a1 n1 p1,.slice a2 n2 p2,.slice a3 n3 p3,.slice a4 n4 p4] 26):=⟨_,rfl⟩
 have k0:aj aB w W0:=by rw [hW0];exact (aj.refl _ _).alloc _
 have PK:aj (HF D) w W0:=k0.mono (fun _ _ f=>f.elim)
 have hb:aF W0 w.heap.size [ah c0,ah c1,ah c2,ah c3,ah c4,ah c5,ah c6,.slice a1 n1 p1,.slice a2 n2 p2,.slice a3 n3 p3,.slice a4 n4 p4] 26:=by rw [hW0];exact aF.bC w _ _
 have Tt:Hid (∀ W,aj (HF D) W0 W->W.cell? ⟨w.heap.size,7,none⟩=some (.slice a1 n1 p1)/\W.cell? ⟨w.heap.size,8,none⟩=some (.slice a2 n2 p2)/\W.cell? ⟨w.heap.size,9,none⟩=some (.slice a3 n3 p3)):=fun W hW=>by
  have hb':=hW.aH hb (fun hh=>by obtain ⟨i,hi,e⟩:=hh;have:=hD i hi;omega)
  exact ⟨hb'.cell 7 rfl,hb'.cell 8 rfl,hb'.cell 9 rfl⟩
 have HI0:Hid (aI W0 D (gG H (sz.take 0))/\aj (HF D) W0 W0):=⟨h.still k0,aj.refl _ _⟩
 have HMK:Hid (∀ W j,j<n1->aI W D (gG H (sz.take j))/\aj (HF D) W0 W->∃ b off z,a1=some ⟨b,off,none⟩/\W.cell? ⟨b,off+j,none⟩=some (.int .u8 ((z:Nat):Int))/\z<256/\Calls aA 71 #[au (D 0),ah ((z%4:Nat):Int),ah 0] W fun e w'=>(∃ va vb:Int,e = .returned (.tuple #[ah va,ah vb]))/\aI w' D (gG H (sz.take (j+1)))/\aj (HF D) W0 w'):=fun W j hj hW=>by
  obtain ⟨b,off,e,hc,hz⟩:=(h1 W (PK.trans hW.2)).cell hj
  refine ⟨b,off,_,e,hc,hz,(aaE hW.1 (sz.getD j 0%4) 0 (by omega) (by decide)).mono ?_⟩
  rintro e w' ⟨hv,g1,g2⟩
  rw [Yx _ _ _ (by omega)]
  exact ⟨hv,g1,hW.2.trans g2⟩
 have yM:Hid (∀ W,aI W D (gG H (sz.take n1))/\aj (HF D) W0 W->Calls aA 23 #[au (D 0)] W fun e w'=>∃ a c,e = .returned (.slice a (gG H sz).aQ.length c)/\w'.ownsRow w.heap.size 3 1 (.slice a (gG H sz).aQ.length c) (gG H sz).aQ.length (aS (gG H sz).aQ)/\aI w' D (gG H sz)/\aj (HF D) W0 w'/\(gG H sz).aQ.length<=1048577):=fun W hW=>by
  have hh:=hW.1
  rw [show sz.take n1=sz from by rw [<- l1];exact List.take_length] at hh
  refine (yT hh (hT W (PK.trans hW.2))).mono ?_
  rintro e w' ⟨v,rfl,ho,k⟩
  obtain ⟨a,c,rfl,_⟩:=gy (bQ ho (aki _))
  refine ⟨a,c,rfl,bQ ho (PK.trans hW.2).size,hh.still k,hW.2.trans (k.mono (fun _ _ f=>f.elim)),?_⟩
  have h1:=FV (gG H sz).bn (gG H sz).sz
  have h2:=hh.gU.zk
  unfold HS.aQ
  unfold HS.sz at h1 ⊢
  omega
 have uy:Hid (∀ W p,p=oI (gG H sz).aQ fl (gG H sz,0) (gG H sz).aQ.length->aI W D (xC (gG H sz).aQ ce p.1 n3)->aI W D (xQ H sz fl ce)):=fun W p e hW=>by
  unfold xQ
  rw [<- e,l3]
  exact hW
 have HFI:Hid (oI (gG H sz).aQ fl (gG H sz,0) 0=(gG H sz,0)):=rfl
 have aif:=ay PK
 clear hb
 generalize gG H sz=H1 at *
 generalize hob:H1.aQ=aQ at *
 have HW0:=ay hW0
 have qO:Hid (∀ W a c,W.ownsRow w.heap.size 3 1 (.slice a aQ.length c) aQ.length (aS aQ)->(J6 W a aQ.length aQ/\aQ.length<=9223372036854775807/\∀ W',aj (HF D) W W'->W'.ownsRow w.heap.size 3 1 (.slice a aQ.length c) aQ.length (aS aQ))):=fun W a c ho=>by
  refine ⟨?_,?_,fun W' k=>gK ho k (fun b hb hh=>?_)⟩
  ·have e:aS aQ=(aQ.map fun x:Nat=>(x:Int)).map (Value.int .i64):=by simp [aS]
   rw [e] at ho
   obtain ⟨a',c',ee,hi,_⟩:=gY.GN ho
   cases ee
   exact hi
  ·rcases ho.2 with ⟨_,hn⟩|⟨g,aO,cur,_,_,_,hn,hm,_⟩
   ·omega
   ·have:maxLen=9223372036854775807:=rfl
    omega
  ·obtain ⟨i,hi,e⟩:=hh
   have h9:=hD i hi
   rcases ho.2 with ⟨e2,_⟩|⟨g,aO,cur,e2,hg,_⟩
   ·rw [e2] at hb;cases hb
   ·rw [e2] at hb
    have e3:g=b:=by simpa [Value.ownBlock] using hb
    omega
 have rX:Hid (∀ W p a,aI W D p->Calls aA 55 #[au (D 0),ah ((a:Nat):Int)] W fun e w'=>(∃ er:Int,e = .returned (.tuple #[ah ((p.dh a).1:Int),ah er]))/\aI w' D p/\aj (HF D) W w'):=fun W p a hW=>by
  refine (Ee hW a).mono ?_
  rintro e w' ⟨rfl,g1,g2⟩
  exact ⟨⟨_,rfl⟩,g1,g2⟩
 have HST:Hid (∀ W p a f v,aI W D p->Calls aA 72 #[au (D 0),ah ((a:Nat):Int),ah ((f:Nat):Int),ah ((v:Nat):Int)] W fun e w'=>(∃ er:Int,e = .returned (ah er))/\aI w' D (p.jJ a (f:Int) v)/\aj (HF D) W w'):=fun W p a f v hW=>by
  refine (Lm hW a (f:Int) v).mono ?_
  rintro e w' ⟨rfl,g1,g2⟩
  exact ⟨⟨_,rfl⟩,g1,g2⟩
 have WA:Hid (∀ W p i v,aI W D p->Calls aA 74 #[au (D 0),ah ((i:Nat):Int),ah ((v:Nat):Int)] W fun e w'=>(∃ er:Int,e = .returned (ah er))/\aI w' D (p.vU (i:Int) v)/\aj (HF D) W w'):=fun W p i v hW=>by
  refine (RV hW (i:Int) v).mono ?_
  rintro e w' ⟨rfl,g1,g2⟩
  exact ⟨⟨_,rfl⟩,g1,g2⟩
 have PL:Hid (∀ W a c n,J6 W a aQ.length aQ->n<256->Calls aA 73 #[.slice a aQ.length c,.int .u8 ((n:Nat):Int)] W fun e w'=>e = .returned (ah (qx aQ n:Int))/\W=w'):=fun W a c n hn h9=>acS aQ hn n h9
 have H2:Hid (∀ W,aj (HF D) W0 W->yt W a2 n2 fl):=fun W k=>h2 W (PK.trans k)
 have H3:Hid (∀ W,aj (HF D) W0 W->yt W a3 n3 ce):=fun W k=>h3 W (PK.trans k)
 have iH:Hid (∀ W a c,W.ownsRow w.heap.size 3 1 (.slice a aQ.length c) aQ.length (aS aQ)->aI W D (xQ H sz fl ce)->aj (HF D) W0 W->aQ.length<=1048577->∃ v,(Ending.returned (.slice a aQ.length c)) = .returned v/\W.ownsRow w.heap.size 3 1 v aQ.length (aS aQ)/\aI W D (xQ H sz fl ce)/\aj (HF D) w W/\aQ.length<=1048577):=fun W a c g1 g2 g3 g4=>⟨_,rfl,g1,g2,PK.trans g3,g4⟩
 have hm1:(n1:Int)<=30:=by omega
 have hm2:(n2:Int)<=100:=by omega
 have hm3:(n3:Int)<=20:=by omega
 generalize xQ H sz fl ce=LP at *
 clear h hT h1 h2 h3 k0 PK aif hW0 hD
 go_enter func40,ntmps40
 go_wp2_with fail
 rw [<- HW0.out]
 go_loopw [5] (fun i wr=>∃ j:Nat,j<=n1/\i = ah j/\aI wr D (gG H (sz.take j))/\aj (HF D) W0 wr) (fun i _=>n1 - (intOf i).toNat)
 case atStart=>exact ⟨0,aki _,rfl,HI0.out⟩
 case round =>
  obtain ⟨j,hj,rfl,hI⟩:=hrel
  obtain ⟨x7,x8,x9⟩:=Tt.out wr hI.2
  by_cases hlt:j<n1
  ·have lJ:(j:Int)<(n1:Int):=by omega
   have hj0:(0:Int)<=(j:Int):=by omega
   obtain ⟨b,off,z,rfl,hz,hz2,hmk⟩:=HMK.out wr j hlt hI
   obtain ⟨r,hr1,hr2,hr3,hr4⟩:=TQ (z:=z)
   rw [<- hr3] at hmk
   have agh:=ay hmk
   clear hmk hI hr3
   go_wp2_with fail
   refine agh.out.mono ?_
   rintro e w2 ⟨⟨va,vb,rfl⟩,g1,g2⟩
   have HI2:Hid (aI w2 D (gG H (sz.take (j+1)))/\aj (HF D) W0 w2):=⟨g1,g2⟩
   clear g1 g2 agh hz x7 x8 x9
   go_wp2_with fail
   go_roundw
   case rel=>exact ⟨j+1,by omega,by go_num,HI2.out⟩
   case measure=>simp [intOf]<;>omega
  ·obtain rfl:j=n1:=by omega
   have hnlt:¬ (j:Int)<(j:Int):=by omega
   have agi:=ay (yM.out wr hI)
   clear hI hlt HMK yM
   go_wp2_with fail
   refine agi.out.mono ?_
   rintro e w3 ⟨a,c,rfl,ho,g1,g2,qV⟩
   have Ac:=ay qV
   obtain ⟨hnum,hln,hrow⟩:=qO.out w3 a c ho
   have zX:=ay hrow
   have CJ:=ay qO.out
   have HI3:Hid (aI w3 D (oI aQ fl (H1,0) 0).1/\aj (HF D) W0 w3/\aj (HF D) w3 w3):=⟨g1,g2,aj.refl _ _⟩
   have jF:=ay g2
   clear ho g1 g2 hnum hrow agi x7 x8 x9 qV
   have HR3:Hid (∀ W,aj (HF D) w3 W->J6 W a aQ.length aQ/\W.ownsRow w.heap.size 3 1 (.slice a aQ.length c) aQ.length (aS aQ)):=fun W k=>⟨(CJ.out W a c (zX.out W k)).1,zX.out W k⟩
   clear CJ zX
   generalize hL:aQ.length=L at *
   go_wp2_with fail
   go_loopw [7,8,9,10,11] (fun kv i nv ev fv wr=>∃ t:Nat,t<=L/\i = ah t/\kv = ah ((oI aQ fl (H1,0) t).2:Nat)/\aI wr D (oI aQ fl (H1,0) t).1/\aj (HF D) w3 wr) (fun kv i nv ev fv _=>L - (intOf i).toNat)
   case atStart=>exact ⟨0,aki _,rfl,rfl,HI3.out.1,HI3.out.2.2⟩
   case round =>
    obtain ⟨t,ht,rfl,rfl,hh,hk⟩:=hrel
    by_cases htL:t<L
    ·have htI:(t:Int)<(L:Int):=by omega
     have ht0:(0:Int)<=(t:Int):=by omega
     have hle:=TP (all:=aQ) (fl:=fl) (p:=(H1,0)) (aki _) t
     rw [l2] at hle
     obtain ⟨b,off,rfl,hc⟩:=(HR3.out wr hk).1.cell htL
     have eA:oI aQ fl (H1,0) (t+1)=gu aQ fl (aQ.getD t 0) (oI aQ fl (H1,0) t) ((oI aQ fl (H1,0) t).1.dh (aQ.getD t 0)).1:=rfl
     have HEA:=ay eA
     clear eA
     obtain ⟨N,hN⟩:∃ N,N=((oI aQ fl (H1,0) t).1.dh (aQ.getD t 0)).1:=⟨_,rfl⟩
     have aiF:N<=100:=by rw [hN];exact DT _ _
     have wU:=rX.out wr (oI aQ fl (H1,0) t).1 (aQ.getD t 0) hh
     rw [<- hN] at wU HEA
     have HF2:=ay wU
     have HKw:=ay hk
     clear wU hN hh
     generalize oI aQ fl (H1,0) t=P at *
     generalize hx:aQ.getD t 0=x at *
     go_wp2_with fail
     refine HF2.out.mono ?_
     rintro e w4 ⟨⟨er,rfl⟩,g1,g2⟩
     have HI4:Hid (aI w4 D P.1/\aj (HF D) w3 w4):=⟨g1,HKw.out.trans g2⟩
     clear g1 g2 HF2 hc hk
     have HRW:Hid (∀ W,aj (HF D) w3 W->J6 W (some ⟨b,off,none⟩) L aQ):=fun W k=>(HR3.out W k).1
     go_wp2_with fail
     go_loopw [7,11] (fun kv fv wr=>∃ f:Nat,f<=N/\fv = ah f/\kv = ah ((gu aQ fl x P f).2:Nat)/\aI wr D (gu aQ fl x P f).1/\aj (HF D) w3 wr) (fun kv fv _=>N - (intOf fv).toNat)
     case atStart=>exact ⟨0,aki _,rfl,rfl,HI4.out⟩
     case round =>
      obtain ⟨f,hf,rfl,rfl,hh,hk⟩:=hrel
      have hq:=J7 (all:=aQ) (fl:=fl) (a:=x) (p:=P) (by rw [l2];exact hle) f
      rw [l2] at hq
      obtain ⟨_,x8,_⟩:=Tt.out wr (jF.out.trans hk)
      have Pg:((gu aQ fl x P f).2:Int)<=(n2:Int):=by omega
      by_cases hcond:f<N/\(gu aQ fl x P f).2<n2
      ·obtain ⟨PN,hkn⟩:=hcond
       have hfI:(f:Int)<(N:Int):=by omega
       have aiM:((gu aQ fl x P f).2:Int)<(n2:Int):=by omega
       have hf0:(0:Int)<=(f:Int):=by omega
       have hk0:(0:Int)<=((gu aQ fl x P f).2:Int):=by omega
       obtain ⟨b2,off2,rfl,hz,hz2⟩:=(H2.out wr (jF.out.trans hk)).cell hkn
       have eO:gu aQ fl x P (f+1)=((gu aQ fl x P f).1.jJ x (f:Int) (qx aQ (fl.getD (gu aQ fl x P f).2 0)),(gu aQ fl x P f).2+1):=by
        show (if (gu aQ fl x P f).2<fl.length then _ else gu aQ fl x P f)=_
        rw [aZ (by rw [l2];exact hkn)]
       have HEO:=ay eO
       clear eO
       have mJ:Hid (∀ W,aI W D (gu aQ fl x P f).1->aj (HF D) wr W->Calls aA 72 #[au (D 0),ah ((x:Nat):Int),ah ((f:Nat):Int),ah ((qx aQ (fl.getD (gu aQ fl x P f).2 0):Nat):Int)] W fun e w'=>(∃ er:Int,e = .returned (ah er))/\Hid (aI w' D ((gu aQ fl x P f).1.jJ x (f:Int) (qx aQ (fl.getD (gu aQ fl x P f).2 0))))/\Hid (aj (HF D) wr w')):=fun W hW k=>by
        refine (HST.out W _ x f _ hW).mono ?_
        rintro e w' ⟨hv,g1,g2⟩
        exact ⟨hv,g1,k.trans g2⟩
       have QT:Hid (∀ W,aj (HF D) wr W->W.cell? ⟨w.heap.size,8,none⟩=some (.slice (some ⟨b2,off2,none⟩) n2 p2)/\W.cell? ⟨b,off+t,none⟩=some (ah ((x:Nat):Int))/\W.cell? ⟨b2,off2+(gu aQ fl x P f).2,none⟩=some (.int .u8 ((fl.getD (gu aQ fl x P f).2 0:Nat):Int))):=fun W k=>by
        obtain ⟨_,_,e2,hc2⟩:=(HRW.out W (hk.trans k)).cell htL
        cases e2
        obtain ⟨_,_,e3,hc3,_⟩:=(H2.out W (jF.out.trans (hk.trans k))).cell hkn
        cases e3
        rw [hx] at hc2
        exact ⟨(Tt.out W (jF.out.trans (hk.trans k))).2.1,hc2,hc3⟩
       obtain ⟨y8,yc,yz⟩:=QT.out wr (aj.refl _ _)
       have TR:Hid (Calls aA 73 #[.slice (some ⟨b,off,none⟩) L c,.int .u8 ((fl.getD (gu aQ fl x P f).2 0:Nat):Int)] wr.drew fun e w'=>e = .returned (ah (qx aQ (fl.getD (gu aQ fl x P f).2 0):Int))/\wr.drew=w'):=PL.out wr.drew _ c _ (HRW.out _ (hk.trans (aj.refl (HF D) wr).drew)) hz2
       have HH:Hid (aI wr.drew D (gu aQ fl x P f).1/\aj (HF D) wr wr.drew):=⟨hh.still (aj.refl aB wr).drew,(aj.refl _ wr).drew⟩
       have HKK:=ay hk
       clear hh hk hz x8 hz2
       generalize (gu aQ fl x P f).1.jJ x (f:Int) (qx aQ (fl.getD (gu aQ fl x P f).2 0))=P2 at *
       generalize qx aQ (fl.getD (gu aQ fl x P f).2 0)=v at *
       generalize fl.getD (gu aQ fl x P f).2 0=z at *
       generalize (gu aQ fl x P f).2=kk at *
       generalize (gu aQ fl x P f).1=P1 at *
       go_wp2_with fail
       go_region_held3 (fun W'=>W'.cell? ⟨w.heap.size,8,none⟩=some (.slice (some ⟨b2,off2,none⟩) n2 p2)/\W'.cell? ⟨b,off+t,none⟩=some (ah ((x:Nat):Int))/\W'.cell? ⟨b2,off2+kk,none⟩=some (.int .u8 ((z:Nat):Int)))
        (first
         | exact ⟨y8,yc,yz⟩
         | exact QT.out _ hk5.out
         | exact QT.out _ HH.out.2
         | fail "nR")
        (first
         | (go_at_call 73
            refine TR.out.mono ?_
            rintro e w5 ⟨rfl,rfl⟩)
         | (go_at_call 72
            refine (mJ.out _ HH.out.1 HH.out.2).mono ?_
            rintro e w5 ⟨⟨er2,rfl⟩,g5,hk5⟩)
         | fail "qg")
       all_goals
        have TS:Hid (aI w5 D P2/\aj (HF D) w3 w5):=⟨g5.out,HKK.out.trans hk5.out⟩
        clear g5 hk5 y8 yc yz mJ QT TR HH
        go_wp2_with fail
        go_roundw
        case rel=>exact ⟨f+1,by omega,by go_num,by rw [HEO.out];go_num,by rw [HEO.out];exact TS.out⟩
        case measure=>simp [intOf]<;>omega
      ·have Hl:Hid (gu aQ fl x P N=gu aQ fl x P f):=by
        by_cases PN:f<N
        ·have hns:¬ (gu aQ fl x P f).2<fl.length:=by rw [l2];exact fun h9=>hcond ⟨PN,h9⟩
         have:=MN hns (N - f)
         rw [show f+(N - f)=N by omega] at this
         exact this
        ·rw [show f=N by omega];rfl
       have MO:Hid (aI wr D (oI aQ fl (H1,0) (t+1)).1/\aj (HF D) w3 wr):=by
        rw [HEA.out,Hl.out]
        exact ⟨hh,hk⟩
       have HE6:Hid (oI aQ fl (H1,0) (t+1)=gu aQ fl x P f):=HEA.out.trans Hl.out
       have hcond2:(f<N/\¬ (gu aQ fl x P f).2<n2)\/¬ f<N:=by
        by_cases PN:f<N
        ·exact .inl ⟨PN,fun h9=>hcond ⟨PN,h9⟩⟩
        ·exact .inr PN
       clear hh hk Hl HEA hcond
       rcases hcond2 with ⟨PN,hnk⟩|PN
       ·have hfI:(f:Int)<(N:Int):=by omega
        have aiN:¬ ((gu aQ fl x P f).2:Int)<(n2:Int):=by omega
        generalize hkk:(gu aQ fl x P f).2=kk at *
        go_wp2_with fail
        go_roundw
        case rel=>exact ⟨t+1,by omega,by go_num,by rw [HE6.out,hkk],MO.out⟩
        case measure=>simp [intOf]<;>omega
       ·have hfI:¬ (f:Int)<(N:Int):=by omega
        generalize hkk:(gu aQ fl x P f).2=kk at *
        go_wp2_with fail
        go_roundw
        case rel=>exact ⟨t+1,by omega,by go_num,by rw [HE6.out,hkk],MO.out⟩
        case measure=>simp [intOf]<;>omega
    ·obtain rfl:t=L:=by omega
     have htI:¬ (t:Int)<(t:Int):=by omega
     have HI7:Hid (aI wr D (xC aQ ce (oI aQ fl (H1,0) t).1 0)/\aj (HF D) w3 wr):=⟨hh,hk⟩
     have HP7:Hid (∀ W,aI W D (xC aQ ce (oI aQ fl (H1,0) t).1 n3)->aI W D LP):=fun W g=>uy.out W _ rfl g
     clear hh hk
     generalize (oI aQ fl (H1,0) t).1=P at *
     generalize (oI aQ fl (H1,0) t).2=kk at *
     go_wp2_with fail
     go_loopw [12] (fun i wr=>∃ y:Nat,y<=n3/\i = ah y/\aI wr D (xC aQ ce P y)/\aj (HF D) w3 wr) (fun i _=>n3 - (intOf i).toNat)
     case atStart=>exact ⟨0,aki _,rfl,HI7.out⟩
     case round =>
      obtain ⟨y,hy,rfl,hh,hk⟩:=hrel
      obtain ⟨_,_,x9⟩:=Tt.out wr (jF.out.trans hk)
      by_cases hyn:y<n3
      ·have hyI:(y:Int)<(n3:Int):=by omega
       have hy0:(0:Int)<=(y:Int):=by omega
       obtain ⟨b3,off3,rfl,hz,hz2⟩:=(H3.out wr (jF.out.trans hk)).cell hyn
       have TR:Hid (Calls aA 73 #[.slice a t c,.int .u8 ((ce.getD y 0:Nat):Int)] wr fun e w'=>e = .returned (ah (qx aQ (ce.getD y 0):Int))/\wr=w'):=PL.out wr a c _ (HR3.out wr hk).1 hz2
       have mJ:Hid (Calls aA 74 #[au (D 0),ah ((y:Nat):Int),ah ((qx aQ (ce.getD y 0):Nat):Int)] wr fun e w'=>(∃ er:Int,e = .returned (ah er))/\aI w' D (xC aQ ce P (y+1))/\aj (HF D) w3 w'):=by
        refine (WA.out wr _ y (qx aQ (ce.getD y 0)) hh).mono ?_
        rintro e w' ⟨hv,g1,g2⟩
        exact ⟨hv,g1,hk.trans g2⟩
       clear hh hk hz2
       generalize qx aQ (ce.getD y 0)=v at *
       generalize ce.getD y 0=z at *
       go_wp2_with fail
       refine TR.out.mono ?_
       rintro e w5 ⟨rfl,rfl⟩
       go_wp2_with fail
       refine mJ.out.mono ?_
       rintro e w6 ⟨⟨er,rfl⟩,g1,g2⟩
       have qN:Hid (aI w6 D (xC aQ ce P (y+1))/\aj (HF D) w3 w6):=⟨g1,g2⟩
       clear g1 g2 hz x9 mJ TR
       go_wp2_with fail
       go_roundw
       case rel=>exact ⟨y+1,by omega,by go_num,qN.out⟩
       case measure=>simp [intOf]<;>omega
      ·obtain rfl:y=n3:=by omega
       have hyI:¬ (y:Int)<(y:Int):=by omega
       have HE:=ay (iH.out wr a c (HR3.out wr hk).2 (HP7.out wr hh) (jF.out.trans hk) Ac.out)
       clear hh hk
       go_wp2_with fail
       go_ret
       exact HE.out
end
end
section
open Go.RowKit
section
variable {o o':Ow} {w w' W W':World} {G:fU} {g:MG} {q:CG} {s s':Sh} {m:MS} {c:CS} {I:List Nat} {gs:List MG} {x y:WS} {N:Nat}
theorem CW.Yy (h:CW w W o G gs q x) (k:aj (HF G.D) W W') {H:HS} (hH:aI W' G.D H) (hc:H.c=x.s.H.c):CW w W' o G gs q { x with s:={ x.s with H:=H } }/\aj (In o [1]) W W':=by
 obtain ⟨hs,k1⟩:=h.aC.sh.wQ k hH h.aC.box8
 refine ⟨⟨h.aC.ru k1 rfl rfl rfl (bZ.refl _ _) hs rfl,h.len,fun i g m h1 h2=>?_,h.yI,h.aK.TA k1 rfl rfl h.yI⟩,k1⟩
 obtain ⟨g1,g2⟩:=h.gW i g m h1 h2
 exact ⟨g1.ru k1 rfl (by simp<;>omega) (by simp<;>omega) (bZ.refl _ _) hs rfl hc,g2⟩
theorem CW.agj (h:CW w W o G gs q x) (k:aj aB W W') (e:bZ W o o') (hm:qw o' W' G g x.s m) (hid:m.id=x.aG.length):CW w W' o' G (gs++[g]) q { x with aG:=x.aG++[m] }:=by
 have k0:aj (In o []) W W':=k.bV
 refine ⟨h.aC.ru k0 rfl rfl rfl e hm.sh rfl,by simp [h.len],fun i g' m' h1 h2=>?_,fun b hb=>by rw [e b (ajf hb h.aK.size)];exact h.yI b hb,h.aK.trans k⟩
 have h2':(x.aG++[m])[i]?=some m':=h2
 by_cases hi:i<x.aG.length
 ·rw [ajk hi] at h2'
  rw [ajk (by rw [h.len];exact hi)] at h1
  obtain ⟨g1,g2⟩:=h.gW i g' m' h1 h2'
  exact ⟨g1.ru k0 rfl rfl rfl e hm.sh rfl rfl,g2⟩
 ·have hl:=(ake.1 h2').1
  simp at hl
  obtain rfl:i=x.aG.length:=by omega
  rw [ajl (aje _),Nat.sub_self] at h2'
  rw [ajl (by rw [h.len];exact aje _),h.len,Nat.sub_self] at h1
  cases h1
  cases h2'
  exact ⟨hm,hid⟩
theorem CK.first {s:Sh} {c:bK} {n:Nat} (hok:c.ok=true) (hn:c.m=(n:Int)) (hl:s.aV.length=n) (hq:rV s) (ho:s.Q.dS=0) (hr:∀ k,s.Q.rw k=[]) (hb:s.B.count=0):OC 0 s (CS.bC c n):=by
 have h:=jC hok
 refine ⟨⟨hl,⟨by show 1<=n;omega,by show n<=8;omega⟩,?_,?_,⟨?_,?_⟩,aki _,by show 0<2;decide,aje _,aje _,aje _,by omega,hq,fun k=>by rw [hr k];exact aje _,⟨by omega,by omega⟩,aki _⟩,trivial⟩
 ·show c.b.toNat<=4096;omega
 ·show c.c.toNat<=64;omega
 ·show 1<=c.s.toNat;omega
 ·show c.s.toNat<=4096;omega
theorem AL.ahx {M:Nat} (h:AL N s m) (hM:N<=M):AL M s m:=⟨h.aP,h.dQ,ajU h.dS hM,ajU h.dG hM,h.q,ajU h.sp hM,h.rl,h.nx⟩
theorem uQ.more {M:Nat} (h:uQ N x) (hM:N<=M):uQ M x :=
 ⟨h.len,fun i m hi=>⟨(h.gW i m hi).1,(h.gW i m hi).2.ahx hM⟩,⟨h.aC.k.more hM,h.aC.nx⟩,ajU h.nS hM,ajU h.zo hM⟩
end
end
section
attribute [local go_sem ↓] nD
attribute [local go_sem] Oper.semAt_some
open Go.RowKit
theorem Tryz.infoPMut:(aA.info? 56).map (fun i=>(i.zero,i.size,i.bytes))=some (some (.pointer none),1,8):=by kernel_rfl
theorem Tryz.infoOp:(aA.info? 83).map (fun i=>(i.zero,i.size,i.bytes))=some (some (.agg #[ah 0,ah 0,ah 0,ah 0]),4,32):=by kernel_rfl
structure xE where
 c:bK
 sz:List Nat
 fl:List Nat
 ce:List Nat
 rg:List Nat
def rO (r:Int) (rg:List Nat) (j:Nat):List jy:=(List.range j).map fun k:Nat=>⟨4,(k:Int)%r,((rg.getD k 0%4:Nat):Int),0⟩
def uD (r:Int) (rg:List Nat) (i:Nat):List jy:=if i=0 then rO r rg rg.length else []
def jY (c:bK) (x:xE) (i:Nat):WS :=
 ⟨{ Sh.bC c c.b.toNat c.w.toNat c.c.toNat c.m.toNat with H:=xQ (HS.bC c c.b.toNat c.w.toNat c.c.toNat) x.sz x.fl x.ce },(List.range i).map (fun j=>MS.bC c j (uD c.r x.rg j)),CS.bC c c.m.toNat,[],0⟩
def tC:Nat->WS->WS
 | 0,x=>x
 | f+1,x=>match x.aG with
   | []=>x
   | m::_=>if mZ m then x else tC f (eY x 0)
def iY (x:xE):WS:=tC 300 (jY x.c.bJ x x.c.bJ.m.toNat)
theorem Bv (c:bK):c.bJ.ok=true:=by
 obtain ⟨b,w,m,r,cc,l,s⟩:=c
 have e:∀ (p q:Prop) [Decidable p] [Decidable q],p->q->(decide p&&decide q)=true:=fun p q _ _ hp hq=>by rw [fK hp,fK hq];rfl
 have e2:∀ (x:Bool) (q:Prop) [Decidable q],x=true->q->(x&&decide q)=true:=fun x q _ hp hq=>by rw [hp,fK hq];rfl
 unfold bK.ok bK.bJ
 simp only
 exact e2 _ _ (e2 _ _ (e2 _ _ (e2 _ _ (e2 _ _ (e _ _ (by omega) (by omega)) (by omega)) (by omega)) (by omega)) (by omega)) (by omega)
theorem Yz (r:Int) (rg:List Nat) (j:Nat):rO r rg (j+1)=rO r rg j++[⟨4,(j:Int)%r,((rg.getD j 0%4:Nat):Int),0⟩]:=by
 unfold rO
 rw [alj,alk]
 rfl
theorem Ic (r:Int) (rg:List Nat) (j:Nat):(rO r rg j).length=j:=by simp [rO]
theorem YA (c:bK) (x:xE) (i:Nat):jY c x (i+1)={ jY c x i with aG:=(jY c x i).aG++[MS.bC c i (uD c.r x.rg i)] }:=by
 unfold jY
 rw [alj,alk]
 rfl
theorem TT (all ce:List Nat) (H:HS):∀ i,(xC all ce H i).c=H.c
 | 0=>rfl
 | i+1=>((aap _ _).2).trans (TT all ce H i)
theorem Oa (all fl:List Nat) (a:Nat) (p:HS × Nat):∀ f,(gu all fl a p f).1.c=p.1.c
 | 0=>rfl
 | f+1=>by
   show (if (gu all fl a p f).2<fl.length then _ else gu all fl a p f).1.c=_
   split
   ·exact ((FT _ _ _).2).trans (Oa all fl a p f)
   ·exact Oa all fl a p f
theorem WB (all fl:List Nat) (p:HS × Nat):∀ i,(oI all fl p i).1.c=p.1.c
 | 0=>rfl
 | i+1=>(Oa _ _ _ _ _).trans (WB all fl p i)
theorem TU (H:HS) (a:Nat):∀ i,(H.pV a i).c=H.c
 | 0=>rfl
 | i+1=>((FT _ _ _).2).trans (TU H a i)
theorem aaK:∀ (l:List Nat) (H:HS),(H.kP l).c=H.c
 | [],_=>rfl
 | a::l,H=>(aaK l (H.jA a)).trans (SX a).2
theorem aeH (H:HS) (f c:Nat):(H.vN f c).2.c=H.c:=by
 have hs:∀ k,(H.iw k).2.2.c=H.c:=fun k=>by
  unfold HS.iw
  split
  ·exact (NZ k).2
  ·split
   ·exact (aaK _ _).trans (Pn k).2
   ·rfl
 unfold HS.vN
 split
 ·exact ((Wy _ _).2).trans ((TU _ _ _).trans (((SY _ _).2).trans (hs _)))
 ·exact hs _
theorem aeI (sz:List Nat):∀ (H:HS),(gG H sz).c=H.c:=by
 induction sz with
 | nil=>intro H;rfl
 | cons z l ih=>intro H;exact (ih _).trans (aeH _ _ _)
theorem WC (H:HS) (sz fl ce:List Nat):(xQ H sz fl ce).c=H.c:=(TT _ _ _ _).trans ((WB _ _ _ _).trans (aeI _ _))
theorem fH.aii {o:Ow} {W:World} {G:fU} {s:Sh} {N:Nat} (h:fH o W G s) (hlow:∀ b,b<N->o b=0\/o b=49) {b:Nat} (hb:b<N):¬ HF G.D b:=by
 rintro ⟨i,hi,e⟩
 have:=h.oD i hi
 rw [<- e] at this
 rcases hlow b hb with h9|h9<;>rw [h9] at this<;>cases this
structure Laid (w:World):Prop where
 t:lu w
 s:jk w
 b:pI w
 g:3<w.heap.size/\4<w.heap.size/\2<w.heap.size
theorem Laid.still {w w':World} (h:Laid w) (k:aj aB w w'):Laid w':=⟨h.t.aK k,h.s.aK k,h.b.still k,⟨ajf h.g.1 k.size,ajf h.g.2.1 k.size,ajf h.g.2.2 k.size⟩⟩
def lG (o:Ow) (w:World) (v:Value) (gs:List MG):Prop:=w.ownsRow 0 56 1 v gs.length (gs.map fun g=>aJ g.M)/\∀ b,v.ownBlock=some b->o b=97
section
variable {o o':Ow} {w w' W W':World} {G:fU} {gs:List MG} {q:CG} {x:WS} {v:Value} {a1 a2 a3 a4:Option Addr} {n1 n2 n3 n4 p1 p2 p3 p4:Nat}
theorem lG.aK {I:List Nat} (h:lG o W v gs) (k:aj (In o I) W W') (h97:I.contains 97=false) (e:bZ W o o'):lG o' W' v gs:=by
 refine ⟨gK h.1 k (fun b hb=>dR (h.2 b hb) h97),fun b hb=>?_⟩
 obtain ⟨cur,hc⟩:=nG h.1 hb
 exact (e b (lt_of_block hc)).trans (h.2 b hb)
theorem lG.form (h:lG o W v gs):∃ a c,v = .slice a gs.length c/\∀ (i:Nat) g,gs[i]?=some g->∃ b,a=some ⟨b,0,none⟩/\W.cell? ⟨b,i,none⟩=some (au g.M):=by
 obtain ⟨a,c,rfl,_,_,_,hc⟩:=gy h.1
 refine ⟨a,c,rfl,fun i g hg=>?_⟩
 obtain ⟨b,e,hb,_⟩:=hc i (aJ g.M) (by rw [List.getElem?_map,hg];rfl)
 exact ⟨b,e,hb⟩
theorem lG.grow {g:MG} {gs2:List MG} (h:lG o W v gs) (hc:CW w W o G gs2 q x) {N:Nat} (hN:W.cell? ⟨N,0,none⟩=some (aJ g.M)) (hl:gs.length<=100):∃ b aO W5,(app9 #[31,31] 31 #[v,.slice (some ⟨N,0,none⟩) 1 1]).run aA W = .ok (.slice (some ⟨b,0,none⟩) (gs.length+1) aO) W5 /\
 ∃ o',bZ W o o'/\CW w W5 o' G gs2 q x/\lG o' W5 (.slice (some ⟨b,0,none⟩) (gs.length+1) aO) (gs++[g])/\aj (In o [97]) W W5:=by
 obtain ⟨b,aO,W5,hrun,hown,hgr,hq⟩:=uJ (P:=aA) W 31 31 56 (by kernel_rfl) Tryz.infoPMut rfl h.1 (N:=N) (u:=aJ g.M) hN rfl (by decide) (by omega)
 have k:aj (In o [97]) W W5:=⟨hgr.os,hgr.tape,hgr.output,hgr.size,fun y hy hn=>hgr.block y hy (fun e=>hn (by
  have e':v.ownBlock=some y:=by first|exact e|exact e.symm
  unfold In
  rw [h.2 y e']
  simp))⟩
 have e:bZ W o (o.put b 97):=by
  rcases hq with hq|hq
  ·exact Ow.pF (.inr (h.2 b hq))
  ·exact Ow.pF (.inl hq)
 have hlt:b<W5.heap.size:=by
  rcases hown.2 with ⟨e1,_⟩|⟨g',cap',cur,e1,_,hg',_⟩
  ·cases e1
  ·cases e1;exact lt_of_block hg'
 have hf:kJ (o.put b 97) W5:=Ow.um hc.aC.sh.iV k.size hlt
 refine ⟨b,aO,W5,hrun,o.put b 97,e,hc.DJ k rfl e hf,⟨?_,fun b' hb'=>?_⟩,k⟩
 ·rw [alk,List.length_append]
  exact hown
 ·simp [Value.ownBlock] at hb'
  rw [<- hb']
  exact Ow.qW _ _ _
end
end
section
structure CP where
 H:HS
 κ:Nat
 mu:Nat
 bl:Nat
 ce:Nat
 lg:Nat
 aW:Nat->List Nat
def CP.rt (p:CP) (v:Nat):Prop:=(∃ j:Nat,j<p.ce/\v=p.H.jc (j:Int))\/∃ i,i<p.mu/\v∈p.aW i
inductive CP.lq (p:CP):Nat->Prop
 | zI {v:Nat}:p.rt v->p.H.bn v=true->CP.lq p v
 | mM {a j:Nat}:CP.lq p a->j<(p.H.dh a).1->p.H.bn (p.H.eU a (j:Int))=true->CP.lq p (p.H.eU a (j:Int))
theorem CP.lq.bn {p:CP} {a:Nat} (h:p.lq a):p.H.bn a=true:=by cases h<;>assumption
def CP.Aw (p:CP) (v:Nat):Prop:=p.H.bn v=true->p.lq v
def CP.kb (p:CP):Bool:=p.κ==1
def CP.kE (p:CP) (co:Nat->Bool) (l v:Nat):Prop:=p.H.bn v=true->co v=p.kb\/v=l
def dO:CD->Nat
 | .lC v _=>v
 | _=>0
def Ie:CD->Prop
 | .work=>True
 | .iy _=>True
 | .bH _ t=>Ie t
 | _=>False
def WE:CD->Prop
 | .work=>True
 | .ig t=>Ie t
 | _=>False
def lkT:CD->Prop
 | .cell _=>True
 | .work=>True
 | .box _=>True
 | .field _ _ _ t=>WE t
 | .ig t=>Ie t
 | _=>False
def Af (ph:Nat):Prop:=ph=4\/ph=5
def CP.fQ (p:CP) (ph:Nat):CD->Prop
 | .dJ m t=>m<p.mu/\((ph=1/\t = .uY)\/(ph=2/\t = .sW)\/(ph=3/\t = .trace)\/(ph=5/\t = .work))
 | .uY=>ph=1
 | .sW=>ph=2
 | .trace=>ph=3
 | .cell i=>ph=4/\i<p.ce
 | .lC _ t=>Af ph/\lkT t/\(∀ i,t = .cell i->ph=4/\i<p.ce)/\∀ m,t = .box m->m<p.mu
 | .work=>Af ph
 | .over=>Af ph
 | .jV=>ph=4
 | .box m=>Af ph/\m<p.mu
 | .fP=>ph=5
 | .iD _ t=>Af ph/\WE t
 | .field _ _ _ t=>Af ph/\WE t
 | .iy b=>Af ph/\b<p.bl
 | .bH l t=>Af ph/\l≠[]/\Ie t
 | .ig t=>Af ph/\Ie t
 | _=>False
def CP.kL (p:CP) (a:Nat):CD->Prop
 | .lC _ t=>CP.kL p a t
 | .iD b t=>a=b\/CP.kL p a t
 | .field b _ _ t=>a=b\/CP.kL p a t
 | .bH l t=>a∈l\/CP.kL p a t
 | .iy b=>∃ B,b<=B/\B<p.bl/\a∈p.H.bH B
 | .ig t=>CP.kL p a t
 | _=>False
def CP.pq (p:CP) (ok:Nat->Prop):CD->Prop
 | .lC _ t=>CP.pq p ok t
 | .field a i n t=>(n=(p.H.dh a).1/\i<n/\∀ j:Nat,j<i->ok (p.H.eU a (j:Int)))/\CP.pq p ok t
 | .iD _ t=>CP.pq p ok t
 | .bH _ t=>CP.pq p ok t
 | .ig t=>CP.pq p ok t
 | _=>True
def CP.rP (p:CP):CD->Prop
 | .lC v t=>p.Aw v/\CP.rP p t
 | .iD a t=>p.lq a/\CP.rP p t
 | .field a _ _ t=>p.lq a/\CP.rP p t
 | .bH _ t=>CP.rP p t
 | .ig t=>CP.rP p t
 | _=>True
def CP.nK (p:CP):CD->Nat
 | .cell i=>i
 | .lC _ t=>CP.nK p t
 | _=>p.ce
def CP.sS (p:CP):CD->Nat
 | .box m=>m
 | .lC _ t=>CP.sS p t
 | .over=>p.mu
 | .fP=>p.mu
 | _=>0
def rQ:CD->Bool
 | .over=>true
 | .fP=>true
 | _=>false
def zV:MD->Prop
 | .once k=>k=3
 | .lH _ _ t=>zV t
 | _=>False
def DU:MD->Prop
 | .add _ t=>zV t
 | .once _=>True
 | _=>False
def Ob (aY:List Nat):MD->Prop
 | .nil=>True
 | .once k=>k=5->aY=[]
 | .lH _ _ t=>zV t
 | .add _ t=>aY=[]/\zV t
 | .nT _ t=>DU t
 | .iK _ _ t=>DU t
 | .kX t=>aY=[]/\DU t
 | _=>False
def zJ:MD->Int
 | .once k=>k
 | .lH _ _ t=>zJ t
 | .add _ t=>zJ t
 | .nT _ t=>zJ t
 | .iK _ _ t=>zJ t
 | .kX t=>zJ t
 | _=>0
def uF:MD->List Nat
 | .lH v _ t=>v::uF t
 | .add v t=>v::uF t
 | .nT _ t=>uF t
 | .iK _ _ t=>uF t
 | .kX t=>uF t
 | _=>[]
def lM:MD->Bool
 | .iK _ f _=>f
 | .kX _=>true
 | _=>false
def CP.yU (p:CP):MD->Prop
 | .lH v c t=>p.Aw v/\c=p.κ/\CP.yU p t
 | .add v t=>p.Aw v/\CP.yU p t
 | .nT c t=>c=p.κ/\CP.yU p t
 | .iK c _ t=>c=p.κ/\CP.yU p t
 | .kX t=>CP.yU p t
 | _=>True
structure BI (mu:Nat) (b:Bd):Prop where
 aG:b.aG=(mu:Int)
 len:b.os.length=8
 le:mu<=8
 out:∀ i,mu<=i->b.os.getD i false=false
structure MI (p:CP) (s:Sh) (l ph:Nat) (i:Nat) (m:MS):Prop where
 id:m.id=i
 prog:m.prog.length<=m.dG.length
 aW:m.aW=p.aW i
 lg:1<=m.c.l.toNat
 dQ:(ph=1/\s.B.bF i=true)\/m.dQ=p.κ
 aP:m.aP=if ph<3\/(ph=3/\s.B.bF i=true) then 1 - p.κ else p.κ
 jE:s.B.bF i=false->m.next = .nil
 kind:s.B.bF i=true->s.B.kind=(ph:Int)
 TV:m.next ≠ .nil->zJ m.next=(ph:Int)
 fQ:Ob m.aY m.next
 gd:p.yU m.next
 aY:∀ v∈m.aY,p.Aw v
 yg:3<=ph->¬ (ph=3/\s.B.bF i=true/\m.next = .nil)->∀ v∈m.aW,p.kE s.H.co l v\/v∈m.aY\/v∈s.box i\/v∈uF m.next
 buf5:ph=5->s.B.bF i=false->m.aY=[]
def pwW (x:WS):Prop:=x.s.dw=true\/x.aC.over=true\/∃ (i:Nat) (m:MS),x.aG[i]?=some m/\lM m.next=true
structure jO (p:CP) (x:WS):Prop where
 k2:p.κ<2
 mu8:1<=p.mu/\p.mu<=8
 heap:∃ f,x.s.H={ p.H with co:=f }
 aG:x.aG.length=p.mu
 tY:x.aC.aG=p.mu
 box:x.s.aV.length=p.mu
 jw:x.aC.aP=p.κ
 rY:x.aC.dU=p.bl
 uG:x.aC.cells=p.ce
 bd:BI p.mu x.s.B
 gW:∀ i m,x.aG[i]?=some m->MI p x.s (dO x.aC.next) x.aC.phase i m
 wt:∀ i,i<p.mu->x.s.B.bF i=true->∃ m t,x.aC.next = .dJ m t/\m<=i
 ph:1<=x.aC.phase/\x.aC.phase<=5
 fQ:p.fQ x.aC.phase x.aC.next
 src:p.rP x.aC.next
 bD:∀ a∈x.aC.bD,p.lq a
 tZ:∀ i,∀ v∈x.s.box i,p.Aw v
 wo:∀ a,p.H.bn a=true->x.s.H.co a=p.kb->p.lq a
 mM:p.pq (p.kE x.s.H.co (dO x.aC.next)) x.aC.next
 lS:4<=x.aC.phase->∀ j:Nat,j<p.nK x.aC.next->p.kE x.s.H.co (dO x.aC.next) (p.H.jc (j:Int))
 yJ:pwW x\/∀ a,p.H.bn a=true->x.s.H.co a=p.kb->a∈x.aC.bD\/p.kL a x.aC.next\/∀ j:Nat,j<(p.H.dh a).1->p.kE x.s.H.co (dO x.aC.next) (p.H.eU a (j:Int))
 bx:∀ j,j<p.sS x.aC.next->x.s.box j=[]
 stk0:rQ x.aC.next=true->x.aC.bD=[]
 mk0:x.aC.next = .fP->x.s.dw=false/\x.aC.over=false
 q:(∀ k,x.s.Q.rw k=[])/\x.s.Q.dS=0/\x.s.Q.rows.length=4
theorem BI.bF {mu:Nat} {b:Bd} (h:BI mu b) (i:Nat):b.bF (i:Int)=b.os.getD i false:=by
 unfold Bd.bF Bd.is Bd.vV
 rw [h.aG,ajv]
 by_cases hi:i<mu
 ·rw [fK (by omega),fK (by omega),akG,akG]
 ·rw [h.out i (by omega)];simp
theorem BI.aeJ {mu:Nat} {b:Bd} (h:BI mu b) {i:Nat} (hp:b.bF (i:Int)=true):i<mu:=by
 rw [h.bF] at hp
 rcases Nat.lt_or_ge i mu with h1|h1
 ·exact h1
 ·rw [h.out i h1] at hp;cases hp
theorem BI.mg {mu:Nat} {b:Bd} (h:BI mu b) (i:Nat):BI mu (b.lV (i:Int))/\(∀ j:Nat,(b.lV (i:Int)).bF (j:Int)=if j=i then false else b.bF (j:Int))/\(b.lV (i:Int)).kind=b.kind:=by
 unfold Bd.lV
 by_cases hp:b.bF (i:Int)=true
 ·rw [aZ hp]
  have hi:=h.aeJ hp
  have hb:BI mu (b.close (i:Int)):=by
   refine ⟨h.aG,?_,h.le,fun j hj=>?_⟩
   ·show (b.os.set _ false).length=8
    rw [aku];exact h.len
   ·show (b.os.set (i:Int).toNat false).getD j false=false
    rw [ajv,ajg,ajB (by omega),<- ajg]
    exact h.out j hj
  refine ⟨hb,fun j=>?_,rfl⟩
  rw [hb.bF,h.bF]
  show (b.os.set (i:Int).toNat false).getD j false=_
  rw [ajv,ajg]
  by_cases e:j=i
  ·subst e
   have:=h.len;have:=h.le
   rw [aZ rfl,ajA (by omega)];rfl
  ·rw [aT e,ajB (fun e'=>e e'.symm),<- ajg]
 ·rw [aT hp]
  refine ⟨h,fun j=>?_,rfl⟩
  by_cases e:j=i
  ·subst e
   rw [aZ rfl];simpa using hp
  ·rw [aT e]
theorem QH {l:List Bool} (h:∀ i,l.getD i false=false):vk l=false:=by
 have key:∀ l:List Bool,(∀ b∈l,b=false)->vk l=false:=fun l hl=>by
  rw [Bool.eq_false_iff]
  intro hh
  first
   | (unfold vk at hh
      rw [List.any_eq_true] at hh
      obtain ⟨b,hb,hb2⟩:=hh
      rw [hl b hb] at hb2;cases hb2)
 refine key l (fun b hb=>?_)
 obtain ⟨i,hi,rfl⟩:=List.mem_iff_getElem.1 hb
 have:=h i
 rw [ajg,ajh hi] at this
 exact this
theorem BA:∀ (k:Nat) (l:List Bool) (j:Nat),k<=l.length->(wM k l).length=l.length/\(wM k l).getD j false=if j<k then true else l.getD j false
 | 0,l,j,_=>⟨rfl,by rw [aT (by omega)];rfl⟩
 | k+1,l,j,hk=>by
   obtain ⟨h1,h2⟩:=BA k l j (by omega)
   refine ⟨by show ((wM k l).set k true).length=_;rw [aku];exact h1,?_⟩
   show ((wM k l).set k true).getD j false=_
   rw [ajg]
   by_cases e:k=j
   ·subst e
    rw [ajA (by omega),aZ (by omega)];rfl
   ·rw [ajB e,<- ajg,h2]
    by_cases h3:j<k
    ·rw [aZ h3,aZ (by omega)]
    ·rw [aT h3,aT (by omega)]
theorem BI.qR {mu:Nat} {b:Bd} (h:BI mu b) (h0:∀ i,i<mu->b.bF (i:Int)=false) (k:Nat):BI mu (b.vW (k:Int))/\(∀ j:Nat,(b.vW (k:Int)).bF (j:Int)=decide (j<mu))/\(b.vW (k:Int)).kind=(k:Int):=by
 have ha:b.all=true:=by
  unfold Bd.all
  rw [QH (fun i=>?_)];rfl
  rcases Nat.lt_or_ge i mu with h1|h1
  ·rw [<- h.bF];exact h0 i h1
  ·exact h.out i h1
 have hle:=h.le;have hlen:=h.len
 have hm:b.aG.toNat=mu:=by rw [h.aG,ajv]
 unfold Bd.vW
 rw [aZ ha,hm]
 have hb:BI mu (b.yE (k:Int) mu):=by
  refine ⟨h.aG,?_,h.le,fun j hj=>?_⟩
  ·exact (BA mu b.os 0 (by omega)).1.trans hlen
  ·exact (BA mu b.os j (by omega)).2.trans (by rw [aT (by omega)];exact h.out j hj)
 refine ⟨hb,fun j=>?_,rfl⟩
 rw [hb.bF]
 refine (BA mu b.os j (by omega)).2.trans ?_
 by_cases h1:j<mu
 ·rw [aZ h1,fK h1]
 ·rw [aT h1,gJ h1];exact h.out j (by omega)
section
variable {p:CP} {x y:WS} {s s':Sh} {m m':MS} {i l l' ph:Nat}
theorem CP.J8 {co co':Nat->Bool} (hm:∀ a,p.H.bn a=true->co a=p.kb->co' a=p.kb) {v:Nat} (h:p.kE co l v):p.kE co' l v:=fun hb=>(h hb).imp (hm v hb) (fun h=>h)
theorem CP.TW (h0:p.H.bn 0=false) {co:Nat->Bool}:p.kE co l 0:=fun hb=>by rw [h0] at hb;cases hb
theorem FY (hk:p.κ<2) {f:Nat->Bool} (v a:Nat):(HS.eF { p.H with co:=f } v p.κ).co a=if a=v/\p.H.bn v=true then p.kb else f a:=by
 unfold HS.eF HS.iG
 have hkk:decide (p.κ<2)=true:=fK hk
 show HS.co (if (p.H.bn v&&decide (p.κ<2)&&(f v != (p.κ==1)))=true then _ else _) a=_
 rw [hkk,Bool.and_true]
 unfold CP.kb
 by_cases hb:p.H.bn v=true
 ·rw [hb,akG]
  by_cases hc:f v=(p.κ==1)
  ·rw [hc]
   simp only [bne_self_eq_false,Bool.false_eq_true,if_false]
   by_cases ha:a=v
   ·subst ha;rw [aZ ⟨rfl,trivial⟩];exact hc
   ·rw [aT (fun h=>ha h.1)]
  ·have:(f v != (p.κ==1))=true:=by simpa [bne] using hc
   rw [this,aZ rfl]
   show iZ f v (p.κ==1) a=_
   unfold iZ
   by_cases ha:a=v
   ·rw [aZ ha,aZ ⟨ha,rfl⟩]
   ·rw [aT ha,aT (fun h=>ha h.1)]
 ·have hb':p.H.bn v=false:=by simpa using hb
  rw [aT (fun h:a=v/\p.H.bn v=true=>hb h.2),hb',Bool.false_and,aT (by decide)]
theorem MP {f:Nat->Bool} (v c:Nat):∃ f',HS.eF { p.H with co:=f } v c={ p.H with co:=f' }:=by
 unfold HS.eF
 split
 ·exact ⟨_,rfl⟩
 ·exact ⟨f,rfl⟩
theorem BD (hk:p.κ<2) {f:Nat->Bool} (v:Nat):HS.iG { p.H with co:=f } v p.κ=true↔p.H.bn v=true/\f v≠p.kb:=by
 unfold HS.iG CP.kb
 rw [fK hk]
 simp [bne]
theorem FZ (hk:p.κ<2) {f:Nat->Bool} (v:Nat):(HS.iU { p.H with co:=f } v==p.κ)=true↔f v=p.kb:=by
 unfold HS.iU CP.kb
 show ((if f v=true then 1 else 0)==p.κ)=true↔_
 rcases (by omega:p.κ=0\/p.κ=1) with e|e<;>rw [e]<;>cases f v<;>decide
theorem jO.congr (h:jO p x) (hs:y.s=x.s) (hm:y.aG=x.aG) (hc:y.aC=x.aC):jO p y:=by
 obtain ⟨a,b,c,d,e⟩:=x
 obtain ⟨a',b',c',d',e'⟩:=y
 cases hs;cases hm;cases hc
 exact ⟨h.k2,h.mu8,h.heap,h.aG,h.tY,h.box,h.jw,h.rY,h.uG,h.bd,h.gW,h.wt,h.ph,h.fQ,h.src,h.bD,h.tZ,h.wo,h.mM,h.lS,h.yJ,h.bx,h.stk0,h.mk0,h.q⟩
theorem CP.ng {ok ok':Nat->Prop} (hm:∀ v,ok v->ok' v):∀ d:CD,p.pq ok d->p.pq ok' d
 | .lC _ t,h=>CP.ng hm t h
 | .field _ _ _ t,h=>⟨⟨h.1.1,h.1.2.1,fun j hj=>hm _ (h.1.2.2 j hj)⟩,CP.ng hm t h.2⟩
 | .iD _ t,h=>CP.ng hm t h
 | .bH _ t,h=>CP.ng hm t h
 | .ig t,h=>CP.ng hm t h
 | .nil,_=>trivial
 | .dJ _ _,_=>trivial
 | .uY,_=>trivial
 | .sW,_=>trivial
 | .trace,_=>trivial
 | .work,_=>trivial
 | .over,_=>trivial
 | .jV,_=>trivial
 | .fP,_=>trivial
 | .eX,_=>trivial
 | .jR,_=>trivial
 | .off,_=>trivial
 | .jE,_=>trivial
 | .cell _,_=>trivial
 | .box _,_=>trivial
 | .iy _,_=>trivial
 | .iJ _,_=>trivial
 | .block _,_=>trivial
theorem MI.agk (h:MI p s l ph i m) (hp:s'.B.bF (i:Int)=s.B.bF (i:Int)) (hk:s'.B.kind=s.B.kind) (hb:s'.box i=s.box i) (hm:∀ a,p.H.bn a=true->s.H.co a=p.kb->s'.H.co a=p.kb):MI p s' l ph i m :=
 ⟨h.id,h.prog,h.aW,h.lg,by rw [hp];exact h.dQ,by rw [hp];exact h.aP,by rw [hp];exact h.jE,by rw [hp,hk];exact h.kind,h.TV,h.fQ,h.gd,h.aY,
  by rw [hp,hb];exact fun a b v hv=>(h.yg a b v hv).imp (CP.J8 hm) (fun h=>h),by rw [hp];exact h.buf5⟩
structure MU (p:CP) (s:Sh) (m:MS) (l ph i:Nat) (s':Sh) (m':MS):Prop where
 heap:∃ f,s'.H={ p.H with co:=f }
 mono:∀ a,p.H.bn a=true->s.H.co a=p.kb->s'.H.co a=p.kb
 wo:∀ a,p.H.bn a=true->s'.H.co a=p.kb->p.lq a
 len:s'.aV.length=s.aV.length
 MQ:∀ j,j≠i->s'.box j=s.box j
 bx:∀ v∈s'.box i,p.Aw v
 bxw:s'.box i=s.box i\/s.B.bF (i:Int)=true
 bd:BI p.mu s'.B
 kind:s'.B.kind=s.B.kind
 bF:∀ j:Nat,j≠i->s'.B.bF (j:Int)=s.B.bF (j:Int)
 YB:s'.B.bF (i:Int)=true->s.B.bF (i:Int)=true
 q:s'.Q=s.Q
 mi:MI p s' l ph i m'
 dw:s.dw=true->s'.dw=true
 flag2:s'.dw=true->s.dw=true\/s.B.bF (i:Int)=true
 pr:lM m.next=true->lM m'.next=true\/s'.dw=true
 bC:∀ a,p.H.bn a=true->s'.H.co a=p.kb->s.H.co a=p.kb\/lM m'.next=true\/s'.dw=true
theorem jO.mu (h:jO p x) (hm:x.aG[i]?=some m) (u:MU p x.s m (dO x.aC.next) x.aC.phase i s' m'):jO p { x with s:=s',aG:=x.aG.set i m' }:=by
 have hlt:=(ake.1 hm).1
 have Az:i<p.mu:=by rw [<- h.aG];exact hlt
 have tH:∀ v,p.kE x.s.H.co (dO x.aC.next) v->p.kE s'.H.co (dO x.aC.next) v:=fun v=>CP.J8 u.mono
 have hpw:pwW x->pwW { x with s:=s',aG:=x.aG.set i m' }:=by
  rintro (hf|ho|⟨j,mj,hj,hpr⟩)
  ·exact .inl (u.dw hf)
  ·exact .inr (.inl ho)
  ·by_cases e:j=i
   ·subst e
    rw [hm] at hj;cases hj
    rcases u.pr hpr with h1|h1
    ·exact .inr (.inr ⟨j,m',by show (x.aG.set j m')[j]?=_;rw [ajA hlt],h1⟩)
    ·exact .inl h1
   ·exact .inr (.inr ⟨j,mj,by show (x.aG.set i m')[j]?=_;rw [ajB (fun e'=>e e'.symm)];exact hj,hpr⟩)
 refine ⟨h.k2,h.mu8,u.heap,by show (x.aG.set i m').length=_;rw [aku];exact h.aG,h.tY,u.len.trans h.box,h.jw,h.rY,h.uG,u.bd,fun j mj hj=>?_,fun j hj hp=>?_,h.ph,h.fQ,h.src,h.bD,fun j v hv=>?_,u.wo,
  CP.ng tH _ h.mM,fun h4 j hj=>tH _ (h.lS h4 j hj),?_,fun j hj=>?_,h.stk0,fun hmk=>?_,by rw [show ({ x with s:=s',aG:=x.aG.set i m' }:WS).s.Q=x.s.Q from u.q];exact h.q⟩
 ·have hj':(x.aG.set i m')[j]?=some mj:=hj
  by_cases e:j=i
  ·subst e
   rw [ajA hlt] at hj'
   cases hj'
   exact u.mi
  ·rw [ajB (fun e'=>e e'.symm)] at hj'
   exact (h.gW j mj hj').agk (u.bF j e) u.kind (u.MQ j e) u.mono
 ·by_cases e:j=i
  ·subst e;exact h.wt j hj (u.YB hp)
  ·exact h.wt j hj (by rw [<- u.bF j e];exact hp)
 ·by_cases e:j=i
  ·subst e;exact u.bx v hv
  ·exact h.tZ j v (by rw [<- u.MQ j e];exact hv)
 ·rcases h.yJ with h1|h1
  ·exact .inl (hpw h1)
  ·by_cases hw:lM m'.next=true\/s'.dw=true
   ·refine .inl ?_
    rcases hw with h2|h2
    ·exact .inr (.inr ⟨i,m',by show (x.aG.set i m')[i]?=_;rw [ajA hlt],h2⟩)
    ·exact .inl h2
   ·refine .inr fun a ha hc=>?_
    rcases u.bC a ha hc with h2|h2
    ·rcases h1 a ha h2 with h3|h3|h3
     ·exact .inl h3
     ·exact .inr (.inl h3)
     ·exact .inr (.inr fun j hj=>tH _ (h3 j hj))
    ·exact absurd h2 hw
 ·by_cases e:j=i
  ·subst e
   rcases u.bxw with h1|h1
   ·show s'.box j=[];rw [h1];exact h.bx j hj
   ·obtain ⟨k,t,ht,_⟩:=h.wt j Az h1
    exfalso
    have hj':j<p.sS x.aC.next:=hj
    rw [ht] at hj'
    exact Nat.not_lt_zero _ hj'
  ·exact (u.MQ j e).trans (h.bx j hj)
 ·obtain ⟨h1,h2⟩:=h.mk0 hmk
  refine ⟨?_,h2⟩
  by_cases hf:s'.dw=true
  ·rcases u.flag2 hf with h3|h3
   ·rw [h1] at h3;cases h3
   ·obtain ⟨k,t,ht,_⟩:=h.wt i Az h3
    have hmk':x.aC.next = .fP:=hmk
    rw [hmk'] at ht;cases ht
  ·show s'.dw=false
   simpa using hf
end
end
end Go.Proofs.YtanfphjoebobaaaGreatDoor
