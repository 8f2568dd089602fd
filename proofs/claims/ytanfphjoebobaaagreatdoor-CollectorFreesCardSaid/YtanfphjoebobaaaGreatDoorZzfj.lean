/- Parts of the iy. No conditions. -/
import Derived.Test.YtanfphjoebobaaaGreatDoorZzfi
namespace Go.Proofs.YtanfphjoebobaaaGreatDoor
open _root_.Bool renaming eq_false_iff->akL
open _root_.Go.Addr renaming add->akh
open _root_.Go.IntWalk renaming i64_in->ajw
open _root_.Go.World renaming block_lt_of_cell?->akl,size_alloc->ajq
open _root_.Int renaming toNat_natCast->ajv
open _root_.List renaming all_eq_true->akA,eq_nil_of_length_eq_zero->akg,getElem?_eq_getElem->ajh,getElem?_eq_some_iff->ake
open _root_.Nat renaming eq_zero_or_pos->akK,le_refl->aje,lt_irrefl->ajY
open _root_.Go.Proofs.Tryz hiding prog
open _root_.Go.Proofs.Tryz renaming prog->aA
set_option maxRecDepth 100000
set_option maxHeartbeats 4000000
section
attribute [local go_sem] Oper.semAt_some
open Go.RowKit
section
variable {w w':World} {D:Nat->Nat} {H:HS}
theorem NK {a:Nat} (h:H.qB a=0):a≠0/\H.Dy a=true:=by
 unfold HS.qB at h
 split at h
 ·cases h
 ·split at h
  ·rename_i h1 h2;exact ⟨h1,h2⟩
  ·cases h
theorem FC (h:aI w D H) (a:Nat) (f:Value) (he:H.qB a≠0):Calls aA 96 #[au (D 0),ah (a:Int),f] w fun e w'=>e = .returned (ah (H.qB a:Int))/\aI w' D H/\aj (HF D) w w':=by
 have HH:=ay h
 by_cases h0:a=0
 ·subst h0
  have HE:Hid (H.qB 0=6):=rfl
  rw [HE.out]
  clear h he HE
  go_enter func96,ntmps96
  go_wp2_with fail
  go_ret
  exact ⟨rfl,HH.out,aj.refl _ _⟩
 ·have ho:H.Dy a=false:=by
   unfold HS.qB at he
   rw [aT h0] at he
   cases hx:H.Dy a
   ·rfl
   ·rw [hx] at he;exact absurd rfl he
  have HE:Hid (H.qB a=1):=by unfold Hid HS.qB;rw [aT h0,ho];rfl
  rw [HE.out]
  have HA:=ay (Ad h a)
  have DF:Hid (∀ W,aj aB w W->Calls aA 143 #[au (D 0),ah (a:Int)] W fun e w'=>e = .returned (.tuple #[ah (H.nf a:Int),.bool (H.tK a).isSome])/\aI w' D H/\aj (only (D 1)) W w'):=fun W hW=>Ec (h.still hW) a
  have HB:Hid (∀ W,aI W D H->Calls aA 54 #[au (D 8),ah (a:Int)] W fun e w'=>e = .returned (.bool (H.bn a))/\W=w'):=fun W hW=>hW.kG.Wi a
  have d0:((a:Int)==0)=false:=by simp;omega
  unfold HS.Dy at ho
  generalize hn:H.nf a=n at DF
  generalize H.jh a=k at *
  generalize H.bn a=x at *
  generalize H.qU a=y at *
  generalize (H.tK a).isSome=z at *
  clear h he HE h0 hn
  cases x
  ·cases y
   ·clear ho
    cases z
    all_goals
     go_enter func96,ntmps96
     go_wp2_with (first|(go_at_call 105;refine HA.out.mono ?_;rintro e w1 ⟨rfl,k1⟩;have HK:=ay k1;have CB:=ay (DF.out _ k1);clear k1)|(go_at_call 143;refine CB.out.mono ?_;rintro e w2 ⟨rfl,h2,k2⟩;have zu:=ay h2;have dF:=ay k2;have z3:=h2.aH.cell 3 rfl;have HB2:=ay (HB.out _ h2);clear h2 k2)|(go_at_call 54;refine HB2.out.mono ?_;rintro e w3 ⟨rfl,rfl⟩))
     go_ret
     exact ⟨rfl,zu.out,HK.out.jU.trans ((dF.out.sel1 (D:=D) (i:=1) (I:=[1]) rfl).hf rfl)⟩
   ·cases z
    ·clear ho
     go_enter func96,ntmps96
     go_wp2_with (first|(go_at_call 105;refine HA.out.mono ?_;rintro e w1 ⟨rfl,k1⟩;have HK:=ay k1;have CB:=ay (DF.out _ k1);clear k1)|(go_at_call 143;refine CB.out.mono ?_;rintro e w2 ⟨rfl,h2,k2⟩;have zu:=ay h2;have dF:=ay k2;have z3:=h2.aH.cell 3 rfl;have HB2:=ay (HB.out _ h2);clear h2 k2)|(go_at_call 54;refine HB2.out.mono ?_;rintro e w3 ⟨rfl,rfl⟩))
     go_ret
     exact ⟨rfl,zu.out,HK.out.jU.trans ((dF.out.sel1 (D:=D) (i:=1) (I:=[1]) rfl).hf rfl)⟩
    ·cases ho
  ·cases ho
theorem Ed (h:aI w D H) (a:Nat) (fn:Nat) (hf:∀ args w,(callFunc fn args).run aA w = .ok (.enter fn args) w) (caps:Array Value) (er:Int) (P:World->Prop) (he:H.qB a=0)
 (hc:∀ W,aI W D H->aj (HF D) w W->Calls aA fn (#[ah (H.nf a:Int)]++caps) W fun e w'=>e = .returned (ah er)/\P w') :
 Calls aA 96 #[au (D 0),ah (a:Int),.func (.func fn) #[] caps] w fun e w'=>e = .returned (ah er)/\P w':=by
 obtain ⟨h0,ho⟩:=NK he
 have HA:=ay (Ad h a)
 have DF:Hid (∀ W,aj aB w W->Calls aA 143 #[au (D 0),ah (a:Int)] W fun e w'=>e = .returned (.tuple #[ah (H.nf a:Int),.bool (H.tK a).isSome])/\aI w' D H/\aj (only (D 1)) W w'):=fun W hW=>Ec (h.still hW) a
 have HB:Hid (∀ W,aI W D H->Calls aA 54 #[au (D 8),ah (a:Int)] W fun e w'=>e = .returned (.bool (H.bn a))/\W=w'):=fun W hW=>hW.kG.Wi a
 have d0:((a:Int)==0)=false:=by simp;omega
 have HC:=ay hc
 unfold HS.Dy at ho
 generalize H.nf a=n at *
 generalize H.jh a=k at *
 generalize H.bn a=x at *
 generalize H.qU a=y at *
 generalize (H.tK a).isSome=z at *
 clear h he h0 hc
 cases x
 ·cases y
  ·cases ho
  ·cases z
   ·cases ho
   ·clear ho
    go_enter func96,ntmps96
    go_wp2_with (first|(go_at_call 105;refine HA.out.mono ?_;rintro e w1 ⟨rfl,k1⟩;have HK:=ay k1;have CB:=ay (DF.out _ k1);clear k1)|(go_at_call 143;refine CB.out.mono ?_;rintro e w2 ⟨rfl,h2,k2⟩;have zu:=ay h2;have dF:=ay k2;have z3:=h2.aH.cell 3 rfl;have HB2:=ay (HB.out _ h2);clear h2 k2)|(go_at_call 54;refine HB2.out.mono ?_;rintro e w3 ⟨rfl,rfl⟩))
    refine (HC.out _ zu.out (HK.out.jU.trans ((dF.out.sel1 (D:=D) (i:=1) (I:=[1]) rfl).hf rfl))).mono ?_
    rintro e w4 ⟨rfl,hp⟩
    have HP:=ay hp
    clear hp
    go_wp2_with fail
    go_ret
    exact ⟨rfl,HP.out⟩
 ·clear ho
  cases y<;>cases z
  all_goals
   go_enter func96,ntmps96
   go_wp2_with (first|(go_at_call 105;refine HA.out.mono ?_;rintro e w1 ⟨rfl,k1⟩;have HK:=ay k1;have CB:=ay (DF.out _ k1);clear k1)|(go_at_call 143;refine CB.out.mono ?_;rintro e w2 ⟨rfl,h2,k2⟩;have zu:=ay h2;have dF:=ay k2;have z3:=h2.aH.cell 3 rfl;have HB2:=ay (HB.out _ h2);clear h2 k2)|(go_at_call 54;refine HB2.out.mono ?_;rintro e w3 ⟨rfl,rfl⟩))
   refine (HC.out _ zu.out (HK.out.jU.trans ((dF.out.sel1 (D:=D) (i:=1) (I:=[1]) rfl).hf rfl))).mono ?_
   rintro e w4 ⟨rfl,hp⟩
   have HP:=ay hp
   clear hp
   go_wp2_with fail
   go_ret
   exact ⟨rfl,HP.out⟩
theorem Ee (h:aI w D H) (a:Nat):Calls aA 55 #[au (D 0),ah (a:Int)] w fun e w'=>e = .returned (.tuple #[ah ((H.dh a).1:Int),ah ((H.dh a).2:Int)])/\aI w' D H/\aj (HF D) w w':=by
 obtain ⟨W0,hW0⟩:∃ W',W'=w.alloc (.cells #[ah 0] 3):=⟨_,rfl⟩
 have hk0:aj aB w W0:=by rw [hW0];exact (aj.refl _ _).alloc _
 have hb0:aF W0 w.heap.size [ah 0] 3:=by rw [hW0];exact aF.bC w _ _
 have h0:=h.still hk0
 have hD:∀ i,i<13->D i<w.heap.size:=fun i hi=>by
  have hl:=h.lists
  obtain ⟨In,hl,_⟩:=hl
  obtain ⟨aO,hs1⟩:=hl.set.aH
  obtain ⟨cur,hs2,_⟩:=hl.set.pU
  obtain ⟨W1,hbn,_⟩:=h.kG
  obtain ⟨W2,hco,_⟩:=h.Cj
  obtain ⟨cap1,hb1⟩:=hbn.aH
  obtain ⟨cur1,hb2,_⟩:=hbn.pU
  obtain ⟨cap2,hc1⟩:=hco.aH
  obtain ⟨cur2,hc2,_⟩:=hco.pU
  obtain ⟨ld,st,ha⟩:=h.lY.aH
  match i,hi with
  | 0,_=>exact h.aH.lt
  | 1,_=>exact ha.lt
  | 2,_=>exact h.lY.pU.lt
  | 3,_=>exact h.ji.aH.lt
  | 4,_=>exact h.ji.jh.lt
  | 5,_=>exact hl.lt
  | 6,_=>exact hs1.lt
  | 7,_=>exact hs2.lt
  | 8,_=>exact hb1.lt
  | 9,_=>exact hb2.lt
  | 10,_=>exact hc1.lt
  | 11,_=>exact hc2.lt
  | 12,_=>exact h.lS.lt
 have hnew:¬ HF D w.heap.size:=by
  rintro ⟨i,hi,e⟩
  have:=hD i hi
  omega
 have hmf:∀ (fn:Fn) (first aO:Array Value) (w:World),(Instr.makeFunc fn first aO).run aA w = .ok (.func fn first aO) w:=fun _ _ _ _=>rfl
 unfold HS.dh
 by_cases he:H.qB a=0
 ·have tV:∀ W,aI W D H->aj (HF D) W0 W->Calls aA 97 (#[ah (H.nf a:Int)]++#[au w.heap.size]) W fun e w'=>e = .returned (ah 0)/\(aI w' D H/\aj (HF D) w w'/\w'.cell? ⟨w.heap.size,0,none⟩=some (ah (H.nf a:Int))):=fun W hW hk=>by
   have hbW:=hk.aH hb0 hnew
   have hlt:=hbW.lt
   have c0:=hbW.cell 0 rfl
   have f0:=hbW.free 0
   have hR:aI (W.setCell ⟨w.heap.size,0,none⟩ (ah (H.nf a:Int))) D H:=hW.aK ((aj.refl (only w.heap.size) W).put 0 _) (fun i hi e=>hnew ⟨i,hi,e.symm⟩) (fun e=>by
    have h9:=akl _ _ (h.qQ.xg 0 1 rfl);unfold only at e;rw [e] at h9;exact ajY _ h9) (fun e=>by
    have h9:=akl _ _ (h.qQ.kind 0 [] rfl);unfold only at e;rw [e] at h9;exact ajY _ h9) (fun e=>by
    have h9:=akl _ _ (h.sizes 0 2 rfl);unfold only at e;rw [e] at h9;exact ajY _ h9)
   have hK:aj (HF D) w (W.setCell ⟨w.heap.size,0,none⟩ (ah (H.nf a:Int))):=(hk0.jU.trans hk).iP (aje _) 0 _
   have hb2:=(hbW.set 0 (ah (H.nf a:Int))).cell 0 (v := ah (H.nf a:Int)) rfl
   have HR:Hid (aI (W.setCell ⟨w.heap.size,0,none⟩ (ah (H.nf a:Int))) D H/\aj (HF D) w (W.setCell ⟨w.heap.size,0,none⟩ (ah (H.nf a:Int)))/\(W.setCell ⟨w.heap.size,0,none⟩ (ah (H.nf a:Int))).cell? ⟨w.heap.size,0,none⟩=some (ah (H.nf a:Int))):=⟨hR,hK,hb2⟩
   generalize H.nf a=n at *
   generalize w.heap.size=O at *
   clear h h0 hk0 hb0 hD hnew hmf he hW hk hbW hlt hR hK hb2 hW0
   show Calls aA 97 #[ah (n:Int),au O] W _
   go_enter func97,ntmps97
   go_wp2_with fail
   go_ret
   exact ⟨rfl,HR.out⟩
  have HO:=ay (Ed h0 a 97 (fun args w=>by simp [callFunc,func97,go_sem];rfl) #[au w.heap.size] 0 _ he tV)
  rw [aZ he]
  generalize H.nf a=n at *
  clear h h0 hk0 hb0 hD hnew he tV
  go_enter func55,ntmps55
  go_wp2_with fail
  rw [<- hW0]
  clear hW0
  refine HO.out.mono ?_
  rintro e w1 ⟨rfl,h1,k1,c1⟩
  have AP:=ay h1
  have bI:=ay k1
  clear h1 k1
  go_wp2_with fail
  go_ret2
  exact ⟨rfl,AP.out,bI.out⟩
 ·have HO:=ay (FC h0 a (.func (.func 97) #[] #[au w.heap.size]) he)
  rw [aT he]
  have HB0:=ay hb0
  have EK:=ay hnew
  have gQ:=ay hk0
  generalize H.qB a=n at *
  clear h h0 hk0 hb0 hD hnew he
  go_enter func55,ntmps55
  go_wp2_with fail
  rw [<- hW0]
  clear hW0
  refine HO.out.mono ?_
  rintro e w1 ⟨rfl,h1,k1⟩
  have AP:=ay h1
  have bI:=ay k1
  have c1:=(k1.aH HB0.out EK.out).cell 0 rfl
  clear h1 k1
  go_wp2_with fail
  go_ret2
  exact ⟨rfl,AP.out,gQ.out.jU.trans bI.out⟩
end
section
variable {w w':World} {D:Nat->Nat} {H:HS}
theorem aI.Lj (h:aI w D H) (i:Nat) (hi:i<13):D i<w.heap.size:=by
 obtain ⟨In,hl,_⟩:=h.lists
 obtain ⟨aO,hs1⟩:=hl.set.aH
 obtain ⟨cur,hs2,_⟩:=hl.set.pU
 obtain ⟨W1,hbn,_⟩:=h.kG
 obtain ⟨W2,hco,_⟩:=h.Cj
 obtain ⟨cap1,hb1⟩:=hbn.aH
 obtain ⟨cur1,hb2,_⟩:=hbn.pU
 obtain ⟨cap2,hc1⟩:=hco.aH
 obtain ⟨cur2,hc2,_⟩:=hco.pU
 obtain ⟨ld,st,ha⟩:=h.lY.aH
 match i,hi with
 | 0,_=>exact h.aH.lt
 | 1,_=>exact ha.lt
 | 2,_=>exact h.lY.pU.lt
 | 3,_=>exact h.ji.aH.lt
 | 4,_=>exact h.ji.jh.lt
 | 5,_=>exact hl.lt
 | 6,_=>exact hs1.lt
 | 7,_=>exact hs2.lt
 | 8,_=>exact hb1.lt
 | 9,_=>exact hb2.lt
 | 10,_=>exact hc1.lt
 | 11,_=>exact hc2.lt
 | 12,_=>exact h.lS.lt
theorem aI.Bj (h:aI w D H) {b:Nat} (hb:w.heap.size<=b):¬ HF D b:=by
 rintro ⟨i,hi,e⟩
 have:=h.Lj i hi
 omega
theorem aI.Ll (h:aI w D H):3<w.heap.size/\4<w.heap.size/\2<w.heap.size :=
 ⟨akl _ _ (h.qQ.xg 0 1 rfl),akl _ _ (h.qQ.kind 0 [] rfl),akl _ _ (h.sizes 0 2 rfl)⟩
theorem aI.afC {w0:World} (h0:aI w0 D H) (h:aI w D H) {b:Nat} (hb:w0.heap.size<=b) (v:Value):aI (w.setCell ⟨b,0,none⟩ v) D H:=by
 have g:=h0.Ll
 refine h.aK ((aj.refl (only b) w).put 0 v) (fun i hi e=>?_) (fun e=>?_) (fun e=>?_) (fun e=>?_)
 ·have:=h0.Lj i hi;unfold only at e;omega
 ·unfold only at e;omega
 ·unfold only at e;omega
 ·unfold only at e;omega
theorem XL (h:aI w D H) (x:Nat) (h1:1<=x) (h2:x<=H.b*H.ww):Calls aA 99 #[au (D 1),ah (x:Int)] w fun e w'=>e = .returned (.tuple #[.int .u64 (H.jf x:Int),ah 0])/\aI w' D H/\aj (only (D 1)) w w':=by
 have hal:=h.gU.sU
 have h9:=JO h.lY (x - 1) (by omega)
 rw [show ((x - 1:Nat):Int)+1=(x:Int) by omega] at h9
 refine h9.mono ?_
 rintro e w' ⟨rfl,g2,g3⟩
 refine ⟨?_,h.EJ g3 g2,g3⟩
 unfold HS.jf vG
 rw [aZ h1]
theorem XM (n:Nat) (f:Int) (bf bh ba bw:Nat) (w:World) (hf:f<0\/(n:Int)<=f) (hb:aF w bf [ah f] 3) :
 Calls aA 98 #[ah (n:Int),au bf,au bh,au ba,au bw] w fun e w'=>e = .returned (ah 7)/\w=w':=by
 have c0:=hb.cell 0 rfl
 by_cases h0:f<0
 ·have d0:decide (f<0)=true:=fK h0
  clear hf hb h0
  go_enter func98,ntmps98
  go_wp2_with fail
  go_ret
  exact ⟨rfl,rfl⟩
 ·have d0:decide (f<0)=false:=gJ h0
  have d1:decide ((n:Int)<=f)=true:=fK (by omega)
  clear hf hb h0
  go_enter func98,ntmps98
  go_wp2_with fail
  go_ret
  exact ⟨rfl,rfl⟩
theorem Vh (h:aI w D H) (n f a bf bh ba bw:Nat) (hf:f<n) (ha:1<=a+1+f) (hx:a+1+f<=H.b*H.ww) (hb1:aF w bf [ah (f:Int)] 3) (hb2:aF w bh [au (D 0)] 47) (hb3:aF w ba [ah (a:Int)] 3) (hb4:aF w bw [.int .u64 0] 146) (hnw:¬ only (D 1) bw) (hn2:¬ only (D 1) bh/\¬ only (D 1) ba/\¬ only (D 1) bf) :
 Calls aA 98 #[ah (n:Int),au bf,au bh,au ba,au bw] w fun e w'=>e = .returned (ah 0)/\∃ w1,aj (only (D 1)) w w1/\aI w1 D H/\w'=w1.setCell ⟨bw,0,none⟩ (.int .u64 (H.jf (a+1+f):Int)):=by
 have abZ:=h.gU.zk
 have c1:=hb1.cell 0 rfl
 have c2:=hb2.cell 0 rfl
 have c3:=hb3.cell 0 rfl
 have c4:=hb4.cell 0 rfl
 have f4:=hb4.free 0
 have y0:=h.aH.cell 0 rfl
 have d0:decide ((f:Int)<0)=false:=gJ (by omega)
 have d1:decide (n<=f)=false:=gJ (by omega)
 have HL:=ay (XL (h.still (k:=(aj.refl aB w).drew)) (a+1+f) ha hx)
 have e1:IntKind.i64.wrap ((a:Int)+1)=(a:Int)+1:=ajw _ (by omega)
 have e2:IntKind.i64.wrap ((a:Int)+1+(f:Int))=((a+1+f:Nat):Int):=by rw [ajw _ (by omega)];omega
 obtain ⟨pp,hpp⟩:∃ pp:Int,pp=((a+1+f:Nat):Int):=⟨_,rfl⟩
 rw [<- hpp] at e2 HL
 generalize H.jf (a+1+f)=x at *
 have HH:=ay h
 have HB4:=ay hb4
 have EK:=ay hnw
 have G7:=ay hn2
 have CJ:Hid (¬ only bw bh/\¬ only bw (D 0)/\¬ only bw ba/\¬ only bw bf):=by
  refine ⟨fun e=>?_,fun e=>?_,fun e=>?_,fun e=>?_⟩
  all_goals unfold only at e
  ·rw [e] at hb2;exact absurd (hb2.jL hb4).2 (by decide)
  ·have h9:=h.aH;rw [e] at h9;exact absurd (h9.jL hb4).2 (by decide)
  ·rw [e] at hb3;exact absurd (hb3.jL hb4).2 (by decide)
  ·rw [e] at hb1;exact absurd (hb1.jL hb4).2 (by decide)
 have hge:(0:Int)<=(a:Int)+1:=by omega
 clear h hb1 hb2 hb3 hb4 hf ha hx hnw hn2 hpp abZ
 go_enter func98,ntmps98
 go_wp2_with fail
 go_region_held3 (fun w'=>w'.cell? ⟨bh,0,none⟩=some (au (D 0))/\w'.cell? ⟨D 0,0,none⟩=some (au (D 1))/\w'.cell? ⟨ba,0,none⟩=some (ah (a:Int))/\w'.cell? ⟨bf,0,none⟩=some (ah (f:Int)))
  (first | exact ⟨c2, y0, c3, c1⟩ | exact mJ.out | exact HS2.out _ | fail "nR")
  ((go_at_call 99
    refine HL.out.mono ?_
    rintro e w1 ⟨rfl,h1,k1⟩
    have mJ:Hid (w1.cell? ⟨bh,0,none⟩=some (au (D 0))/\w1.cell? ⟨D 0,0,none⟩=some (au (D 1))/\w1.cell? ⟨ba,0,none⟩=some (ah (a:Int))/\w1.cell? ⟨bf,0,none⟩=some (ah (f:Int))):=⟨k1.nP c2 G7.out.1,h1.aH.cell 0 rfl,k1.nP c3 G7.out.2.1,k1.nP c1 G7.out.2.2⟩
    have HS2:Hid (∀ v,(w1.setCell ⟨bw,0,none⟩ v).cell? ⟨bh,0,none⟩=some (au (D 0))/\(w1.setCell ⟨bw,0,none⟩ v).cell? ⟨D 0,0,none⟩=some (au (D 1))/\(w1.setCell ⟨bw,0,none⟩ v).cell? ⟨ba,0,none⟩=some (ah (a:Int))/\(w1.setCell ⟨bw,0,none⟩ v).cell? ⟨bf,0,none⟩=some (ah (f:Int))):=fun v=>by
     have kk:=(aj.refl (only bw) w1).put 0 v
     exact ⟨kk.nP mJ.out.1 CJ.out.1,kk.nP mJ.out.2.1 CJ.out.2.1,kk.nP mJ.out.2.2.1 CJ.out.2.2.1,kk.nP mJ.out.2.2.2 CJ.out.2.2.2⟩
    have AP:=ay h1
    have bI:=ay ((aj.refl _ w).drew.trans k1)
    have c41:=(((aj.refl _ w).drew.trans k1).aH HB4.out EK.out).cell 0 rfl
    have f41:=(((aj.refl _ w).drew.trans k1).aH HB4.out EK.out).free 0
    clear h1 k1))
 go_wp2_with fail
 go_ret
 exact ⟨rfl,w1,bI.out,AP.out,rfl⟩
theorem OT (h:aI w D H) (a:Nat) (f:Int):Calls aA 56 #[au (D 0),ah (a:Int),ah f] w fun e w'=>e = .returned (.tuple #[ah (H.eU a f:Int),ah (H.mY a f:Int)])/\aI w' D H/\aj (HF D) w w':=by
 obtain ⟨W0,hW0⟩:∃ W',W'=(((w.alloc (.cells #[au (D 0)] 47)).alloc (.cells #[ah (a:Int)] 3)).alloc (.cells #[ah f] 3)).alloc (.cells #[.int .u64 0] 146):=⟨_,rfl⟩
 have hk0:aj aB w W0:=by rw [hW0];exact ((((aj.refl _ _).alloc _).alloc _).alloc _).alloc _
 have hb1:aF W0 w.heap.size [au (D 0)] 47:=by rw [hW0];exact (((aF.bC w _ _).alloc _).alloc _).alloc _
 have hb2:aF W0 (w.heap.size+1) [ah (a:Int)] 3:=by
  rw [hW0]
  have h:=aF.bC (w.alloc (.cells #[au (D 0)] 47)) [ah (a:Int)] 3
  rw [ajq] at h
  exact (h.alloc _).alloc _
 have hb3:aF W0 (w.heap.size+1+1) [ah f] 3:=by
  rw [hW0]
  have h:=aF.bC ((w.alloc (.cells #[au (D 0)] 47)).alloc (.cells #[ah (a:Int)] 3)) [ah f] 3
  rw [ajq,ajq] at h
  exact h.alloc _
 have hb4:aF W0 (w.heap.size+1+1+1) [.int .u64 0] 146:=by
  rw [hW0]
  have h:=aF.bC (((w.alloc (.cells #[au (D 0)] 47)).alloc (.cells #[ah (a:Int)] 3)).alloc (.cells #[ah f] 3)) [.int .u64 0] 146
  rw [ajq,ajq,ajq] at h
  exact h
 have h0:=h.still hk0
 have n1:=h.Bj (b:=w.heap.size) (aje _)
 have n2:=h.Bj (b:=w.heap.size+1) (by omega)
 have n3:=h.Bj (b:=w.heap.size+1+1) (by omega)
 have n4:=h.Bj (b:=w.heap.size+1+1+1) (by omega)
 have hmf:∀ (fn:Fn) (first aO:Array Value) (w:World),(Instr.makeFunc fn first aO).run aA w = .ok (.func fn first aO) w:=fun _ _ _ _=>rfl
 have key:Hid (Calls aA 96 #[au (D 0),ah (a:Int),.func (.func 98) #[] #[au (w.heap.size+1+1),au w.heap.size,au (w.heap.size+1),au (w.heap.size+1+1+1)]] W0 fun e w'=>e = .returned (ah (H.mY a f:Int))/\(aI w' D H/\aj (HF D) w w'/\w'.cell? ⟨w.heap.size+1+1+1,0,none⟩=some (.int .u64 (H.eU a f:Int)))):=by
  by_cases he:H.qB a=0
  ·refine Ed h0 a 98 (fun args w=>by simp [callFunc,func98,go_sem];rfl) _ _ _ he (fun W hW hk=>?_)
   have g1:=hk.aH hb1 n1
   have g2:=hk.aH hb2 n2
   have g3:=hk.aH hb3 n3
   have g4:=hk.aH hb4 n4
   by_cases hf:f<0\/(H.nf a:Int)<=f
   ·have hE:H.mY a f=7:=by unfold HS.mY;rw [aZ he,aZ hf]
    have hP:H.eU a f=0:=by unfold HS.eU;rw [hE];rfl
    rw [hE,hP]
    refine (XM (H.nf a) f _ _ _ _ W hf g3).mono ?_
    rintro e w' ⟨rfl,rfl⟩
    exact ⟨rfl,hW,hk0.jU.trans hk,g4.cell 0 rfl⟩
   ·obtain ⟨j,rfl⟩:∃ j:Nat,f=(j:Int):=⟨f.toNat,by omega⟩
    have hE:H.mY a (j:Int)=0:=by unfold HS.mY;rw [aZ he,aT hf]
    have hP:H.eU a (j:Int)=H.jf (a+1+j):=by unfold HS.eU;rw [hE,aZ rfl,ajv]
    rw [hE,hP]
    have hfl:=h.gU.field (NK he).2 (f:=j) (by omega)
    refine (Vh hW (H.nf a) j a _ _ _ _ (by omega) (by omega) hfl.2.1 g3 g1 g2 g4 (fun e=>n4 ⟨1,by decide,e⟩) ⟨fun e=>n1 ⟨1,by decide,e⟩,fun e=>n2 ⟨1,by decide,e⟩,fun e=>n3 ⟨1,by decide,e⟩⟩).mono ?_
    rintro e w' ⟨rfl,w1,k1,hh1,rfl⟩
    have k1':aj (HF D) w w1:=(hk0.jU.trans hk).trans ((k1.sel1 (D:=D) (i:=1) (I:=[1]) rfl).hf rfl)
    have g41:=k1.aH g4 (fun e=>n4 ⟨1,by decide,e⟩)
    exact ⟨rfl,h.afC hh1 (by omega) _,k1'.iP (by omega) 0 _,(g41.set 0 _).cell 0 rfl⟩
  ·have hE:H.mY a f=H.qB a:=by unfold HS.mY;rw [aT he]
   have hP:H.eU a f=0:=by unfold HS.eU;rw [hE,aT he]
   rw [hE,hP]
   refine (FC h0 a _ he).mono ?_
   rintro e w' ⟨rfl,g1,g2⟩
   exact ⟨rfl,g1,hk0.jU.trans g2,(g2.aH hb4 n4).cell 0 rfl⟩
 have hlt:H.eU a f<sD:=by
  unfold HS.eU
  split
  ·exact h.gU.wlt _
  ·decide
 have lJ:(H.eU a f:Int)<216172782113783808:=by unfold sD at hlt;omega
 have HWR:Hid (wrap64 (H.eU a f:Int)=(H.eU a f:Int)):=IntWalk.wrap64_in _ (by omega)
 generalize H.eU a f=x at *
 generalize H.mY a f=er at *
 clear h h0 hk0 hb1 hb2 hb3 hb4 n1 n2 n3 n4 hlt
 go_enter func56,ntmps56
 go_wp2_with fail
 rw [<- hW0]
 clear hW0
 refine key.out.mono ?_
 rintro e w1 ⟨rfl,h1,k1,c1⟩
 have AP:=ay h1
 have bI:=ay k1
 clear h1 k1 key
 go_wp2_with fail
 go_ret2
 exact ⟨by first|rfl|rw [HWR.out],AP.out,bI.out⟩
end
section
variable {w w':World} {D:Nat->Nat} {H:HS}
theorem Vj (n:Nat) (f:Int) (bf bh bv ba:Nat) (w:World) (hf:f<0\/(n:Int)<=f) (hb:aF w bf [ah f] 3) :
 Calls aA 117 #[ah (n:Int),au bf,au bh,au bv,au ba] w fun e w'=>e = .returned (ah 7)/\w=w':=by
 have c0:=hb.cell 0 rfl
 by_cases h0:f<0
 ·have d0:decide (f<0)=true:=fK h0
  clear hf hb h0
  go_enter func117,ntmps117
  go_wp2_with fail
  go_ret
  exact ⟨rfl,rfl⟩
 ·have d0:decide (f<0)=false:=gJ h0
  have d1:decide ((n:Int)<=f)=true:=fK (by omega)
  clear hf hb h0
  go_enter func117,ntmps117
  go_wp2_with fail
  go_ret
  exact ⟨rfl,rfl⟩
theorem Qy (h:aI w D H) (n f v bf bh bv ba:Nat) (hf:f<n) (hv:¬ v<=H.n) (hb1:aF w bf [ah (f:Int)] 3) (hb2:aF w bh [au (D 0)] 47) (hb3:aF w bv [ah (v:Int)] 3) :
 Calls aA 117 #[ah (n:Int),au bf,au bh,au bv,au ba] w fun e w'=>e = .returned (ah 4)/\w=w':=by
 have c1:=hb1.cell 0 rfl
 have c2:=hb2.cell 0 rfl
 have c3:=hb3.cell 0 rfl
 have d0:decide ((f:Int)<0)=false:=gJ (by omega)
 have d1:decide (n<=f)=false:=gJ (by omega)
 have HV:=ay (Fz h v)
 rw [gJ hv] at HV
 clear h hb1 hb2 hb3 hf hv
 go_enter func117,ntmps117
 go_wp2_with (go_at_call 118;refine HV.out.mono ?_;rintro e w1 ⟨rfl,rfl⟩)
 go_ret
 exact ⟨rfl,rfl⟩
theorem RY (h:aI w D H) (n f a v bf bh bv ba:Nat) (hf:f<n) (hv:v<=H.n) (ha:1<=a+1+f) (hx:a+1+f<=H.b*H.ww) (hi:eu (H.uj (a+1+f) v)) (hb1:aF w bf [ah (f:Int)] 3) (hb2:aF w bh [au (D 0)] 47) (hb3:aF w bv [ah (v:Int)] 3) (hb4:aF w ba [ah (a:Int)] 3) :
 Calls aA 117 #[ah (n:Int),au bf,au bh,au bv,au ba] w fun e w'=>e = .returned (ah 0)/\aI w' D (H.uj (a+1+f) v)/\aj (HF D) w w':=by
 have abZ:=h.gU.zk
 have hvn:v<=1048576:=by unfold HS.n at hv;omega
 have c1:=hb1.cell 0 rfl
 have c2:=hb2.cell 0 rfl
 have c3:=hb3.cell 0 rfl
 have c4:=hb4.cell 0 rfl
 have y0:=h.aH.cell 0 rfl
 have d0:decide ((f:Int)<0)=false:=gJ (by omega)
 have d1:decide (n<=f)=false:=gJ (by omega)
 have HV:=ay (Fz h v)
 rw [fK hv] at HV
 have HL:=ay (Jm (h.still (k:=(aj.refl aB w).drew)) (a+1+f) v ha hx (by unfold sD;omega) hi)
 have e1:IntKind.i64.wrap ((a:Int)+1)=(a:Int)+1:=ajw _ (by omega)
 have e2:IntKind.i64.wrap ((a:Int)+1+(f:Int))=((a+1+f:Nat):Int):=by rw [ajw _ (by omega)];omega
 have HEU:Hid (IntKind.u64.wrap (v:Int)=(v:Int)):=IntWalk.u64_in _ (by omega)
 obtain ⟨pp,hpp⟩:∃ pp:Int,pp=((a+1+f:Nat):Int):=⟨_,rfl⟩
 rw [<- hpp] at e2 HL
 generalize H.uj (a+1+f) v=H2 at *
 have hge:(0:Int)<=(a:Int)+1:=by omega
 clear h hb1 hb2 hb3 hb4 hf ha hx hpp abZ hi hv hvn
 go_enter func117,ntmps117
 go_wp2_with (go_at_call 118;refine HV.out.mono ?_;rintro e w1 ⟨rfl,rfl⟩)
 refine bG 10 rfl (by kernel_rfl) (by kernel_rfl) (fun K hK=>?_)
 change wpStill _ _ (World.drew _) _ _ _
 simp only [List.take_succ_cons,List.take_zero,List.drop_succ_cons,List.drop_zero] at hK ⊢
 repeat still_step
 refine wpStill_nil ?_
 change ite _ (Oper.wp _ _ _ w.drew _ _) _
 go_simp
 rw [HEU.out]
 refine HL.out.mono ?_
 rintro e w1 ⟨rfl,h1,k1⟩
 refine hK _ _ ?_
 clear hK K
 have AP:=ay h1
 have bI:=ay ((aj.refl (HF D) w).drew.trans k1)
 clear h1 k1 c1 c2 c3 c4 y0
 repeat still_step
 refine wpStill_nil ?_
 go_wp2_with fail
 go_ret
 exact ⟨rfl,AP.out,bI.out⟩
theorem Lm (h:aI w D H) (a:Nat) (f:Int) (v:Nat):Calls aA 72 #[au (D 0),ah (a:Int),ah f,ah (v:Int)] w fun e w'=>e = .returned (ah (H.uX a f v:Int))/\aI w' D (H.jJ a f v)/\aj (HF D) w w':=by
 obtain ⟨W0,hW0⟩:∃ W',W'=(((w.alloc (.cells #[au (D 0)] 47)).alloc (.cells #[ah (a:Int)] 3)).alloc (.cells #[ah f] 3)).alloc (.cells #[ah (v:Int)] 3):=⟨_,rfl⟩
 have hk0:aj aB w W0:=by rw [hW0];exact ((((aj.refl _ _).alloc _).alloc _).alloc _).alloc _
 have hb1:aF W0 w.heap.size [au (D 0)] 47:=by rw [hW0];exact (((aF.bC w _ _).alloc _).alloc _).alloc _
 have hb2:aF W0 (w.heap.size+1) [ah (a:Int)] 3:=by
  rw [hW0]
  have h:=aF.bC (w.alloc (.cells #[au (D 0)] 47)) [ah (a:Int)] 3
  rw [ajq] at h
  exact (h.alloc _).alloc _
 have hb3:aF W0 (w.heap.size+1+1) [ah f] 3:=by
  rw [hW0]
  have h:=aF.bC ((w.alloc (.cells #[au (D 0)] 47)).alloc (.cells #[ah (a:Int)] 3)) [ah f] 3
  rw [ajq,ajq] at h
  exact h.alloc _
 have hb4:aF W0 (w.heap.size+1+1+1) [ah (v:Int)] 3:=by
  rw [hW0]
  have h:=aF.bC (((w.alloc (.cells #[au (D 0)] 47)).alloc (.cells #[ah (a:Int)] 3)).alloc (.cells #[ah f] 3)) [ah (v:Int)] 3
  rw [ajq,ajq,ajq] at h
  exact h
 have h0:=h.still hk0
 have n1:=h.Bj (b:=w.heap.size) (aje _)
 have n2:=h.Bj (b:=w.heap.size+1) (by omega)
 have n3:=h.Bj (b:=w.heap.size+1+1) (by omega)
 have n4:=h.Bj (b:=w.heap.size+1+1+1) (by omega)
 have hmf:∀ (fn:Fn) (first aO:Array Value) (w:World),(Instr.makeFunc fn first aO).run aA w = .ok (.func fn first aO) w:=fun _ _ _ _=>rfl
 have key:Hid (Calls aA 96 #[au (D 0),ah (a:Int),.func (.func 117) #[] #[au (w.heap.size+1+1),au w.heap.size,au (w.heap.size+1+1+1),au (w.heap.size+1)]] W0 fun e w'=>e = .returned (ah (H.uX a f v:Int))/\(aI w' D (H.jJ a f v)/\aj (HF D) w w')):=by
  by_cases he:H.qB a=0
  ·refine Ed h0 a 117 (fun args w=>by simp [callFunc,func117,go_sem];rfl) _ _ _ he (fun W hW hk=>?_)
   have g1:=hk.aH hb1 n1
   have g2:=hk.aH hb2 n2
   have g3:=hk.aH hb3 n3
   have g4:=hk.aH hb4 n4
   by_cases hf:f<0\/(H.nf a:Int)<=f
   ·have hE:H.uX a f v=7:=by unfold HS.uX HS.mY;rw [aZ he,aZ hf];rfl
    have hP:H.jJ a f v=H:=by unfold HS.jJ;rw [hE];rfl
    rw [hE,hP]
    refine (Vj (H.nf a) f _ _ _ _ W hf g3).mono ?_
    rintro e w' ⟨rfl,rfl⟩
    exact ⟨rfl,hW,hk0.jU.trans hk⟩
   ·obtain ⟨j,rfl⟩:∃ j:Nat,f=(j:Int):=⟨f.toNat,by omega⟩
    have hE0:H.mY a (j:Int)=0:=by unfold HS.mY;rw [aZ he,aT hf]
    have hfl:=h.gU.field (NK he).2 (f:=j) (by omega)
    by_cases hv:v<=H.n
    ·have hE:H.uX a (j:Int) v=0:=by unfold HS.uX;rw [hE0,aZ rfl,aZ hv]
     have hP:H.jJ a (j:Int) v=H.uj (a+1+j) v:=by unfold HS.jJ;rw [hE,aZ rfl,ajv]
     rw [hE,hP]
     have hvn:v<=1048576:=by have:=h.gU.zk;unfold HS.n at hv;omega
     refine (RY hW (H.nf a) j a v _ _ _ _ (by omega) hv (by omega) hfl.2.1 (h.gU.uj (by omega) hfl.2.1 hfl.1 hfl.2.2.2 (by unfold sD;omega)) g3 g1 g4 g2).mono ?_
     rintro e w' ⟨rfl,hh1,k1⟩
     exact ⟨rfl,hh1,(hk0.jU.trans hk).trans k1⟩
    ·have hE:H.uX a (j:Int) v=4:=by unfold HS.uX;rw [hE0,aZ rfl,aT hv]
     have hP:H.jJ a (j:Int) v=H:=by unfold HS.jJ;rw [hE];rfl
     rw [hE,hP]
     refine (Qy hW (H.nf a) j v _ _ _ _ (by omega) hv g3 g1 g4).mono ?_
     rintro e w' ⟨rfl,rfl⟩
     exact ⟨rfl,hW,hk0.jU.trans hk⟩
  ·have hE:H.uX a f v=H.qB a:=by unfold HS.uX HS.mY;rw [aT he,aT he]
   have hP:H.jJ a f v=H:=by unfold HS.jJ;rw [hE,aT he]
   rw [hE,hP]
   refine (FC h0 a _ he).mono ?_
   rintro e w' ⟨rfl,g1,g2⟩
   exact ⟨rfl,g1,hk0.jU.trans g2⟩
 generalize H.jJ a f v=H2 at *
 generalize H.uX a f v=er at *
 clear h h0 hk0 hb1 hb2 hb3 hb4 n1 n2 n3 n4
 go_enter func72,ntmps72
 go_wp2_with fail
 rw [<- hW0]
 clear hW0
 refine key.out.mono ?_
 rintro e w1 ⟨rfl,h1,k1⟩
 have AP:=ay h1
 have bI:=ay k1
 clear h1 k1 key
 go_wp2_with fail
 go_ret
 exact ⟨rfl,AP.out,bI.out⟩
end
end
section
open Go.RowKit
theorem Tryz.infoI:(aA.info? 3).map (fun i=>(i.zero,i.size,i.bytes))=some (some (ah 0),1,8):=by kernel_rfl
theorem CO (a:Option Addr) (n c:Nat) (xs:List Value) (w:World) (h:Cells w a n xs) (hnil:a=none->c=0) (hm:n<=4000000000000) (h1:∀ u∈xs,u.oneCell'=true) :
 Calls aA 85 #[.slice a n c] w fun e w'=>∃ v',e = .returned v'/\w'.ownsRow w.heap.size 3 1 v' n xs/\aj aB w w':=by
 obtain ⟨rfl,hc⟩:=h
 cases a with
 | none =>
   have h0:xs=[]:=by
    cases xs with
    | nil=>rfl
    | cons x xs=>obtain ⟨b,off,e,_⟩:=hc (by simp);cases e
   subst h0
   obtain rfl:=hnil rfl
   simp only [List.length_nil]
   clear hc hm hnil h1
   have hn:=fun w=>Lib.run_eql_slice_nil (P:=aA) w 32 3 none 0 0 0 0 Tryz.underlying32
   go_enter func85,ntmps85
   go_wp2
   go_ret
   exact ⟨_,rfl,World.ownsRow_nil _ _ _ _,aj.refl _ _⟩
 | some ad =>
   have hn:=fun w=>Lib.run_eql_slice_nil (P:=aA) w 32 3 (some ad) xs.length c 0 0 Tryz.underlying32
   obtain ⟨i0,hi1,hi2,hi3,hi4⟩:=info_parts Tryz.infoI
   have hw0:∀ w:World,(w.alloc (.cells #[] 3)).ownsRow w.heap.size 3 1 (.slice (some ⟨w.heap.size,0,none⟩) 0 0) 0 []:=fun w=>World.ownsRow_made w #[] 0 (aje _) (by decide) rfl
   have hcell:∀ (j:Nat) (u:Value),xs[j]?=some u->(w.alloc (.cells #[] 3)).cell? (ad.add j)=some u:=fun j u hj=>by
    have hjl:=(ake.1 hj).1
    obtain ⟨b,off,e,hx⟩:=hc (by omega)
    injection e with e
    subst e
    have hcl:=hx j u hj
    have ea:(⟨b,off,none⟩:Addr).add j=⟨b,off+j,none⟩:=by simp only [akh];split<;>simp_all
    rw [ea,World.cell?_alloc_lt _ _ _ (akl _ _ hcl)]
    exact hcl
   have HC:=ay hcell
   have HU:=ay h1
   clear hcell hc h1
   go_enter func85,ntmps85
   go_wp2_with (at_builtin;refine wpList_append_own _ rfl _ _ 32 rfl w.heap.size 3 i0 (ah 0) 1 8 Tryz.underlying32 hi1 hi2 hi3 hi4 rfl (by decide) _ _ _ rfl (hw0 w) ad xs.length c xs rfl (by simp) HC.out HU.out (by unfold maxLen;omega) (by omega) (by simp) ?_;intro v' w1 hown hgr _)
   have hown':w1.ownsRow w.heap.size 3 1 v' xs.length xs:=by simpa using hown
   have hkeep:aj aB w w1:=((aj.refl aB w).alloc _).qh hgr (fun k e hk=>absurd hk (by have e':w.heap.size=k:=Option.some.inj e;omega))
   clear hown hgr
   go_wp2
   go_ret
   exact ⟨_,rfl,hown',hkeep⟩
end
section
attribute [local go_sem ↓] nD
attribute [local go_sem] Oper.semAt_some
open Go.RowKit
theorem ael {P:Program} {o:Ow} (w:World) (t ty e:TypeId) (ht:P.underlying t=some (.slice e)) {z:Value} {bytes:Nat} (hi:(P.info? e).map (fun i=>(i.zero,i.size,i.bytes))=some (some z,1,bytes)) (hzs:z.cells.size=1)
 {a:Option Addr} {n:Nat} {xs:List Value} (hrow:dH o w e (.slice a n n) xs) (hnil:a=none->n=0) {N:Nat} {u:Value} (hN:w.cell? ⟨N,0,none⟩=some u) (hu:u.oneCell'=true) (hb:bytes<=1000) (hn:n<=100000000000) :
 ∃ g aO w',(Builtin.append_ #[t,t] ty #[.slice a n n,.slice (some ⟨N,0,none⟩) 1 1]).run P w = .ok (.slice (some ⟨g,0,none⟩) (n+1) aO) w'/\w'.ownsRow w.heap.size e 1 (.slice (some ⟨g,0,none⟩) (n+1) aO) (n+1) (xs++[u])/\w.grownBy w' none/\w.heap.size<=g:=by
 obtain ⟨i,hi1,hi2,hi3,hi4⟩:=info_parts hi
 have hbytes:(n+1)*bytes<=140737488355328:=Nat.le_trans (Nat.mul_le_mul (show n+1<=100000000001 by omega) hb) (by decide)
 have hnews:∀ j x,[u][j]?=some x->w.cell? ((⟨N,0,none⟩:Addr).add j)=some x:=by
  intro j x hj
  cases j with
  | zero=>simp at hj;subst hj;simpa [akh] using hN
  | succ j=>simp at hj
 have h1:∀ x∈[u],x.oneCell'=true:=by simpa using hu
 have shape:∀ {v':Value} {W:World} {B:Nat},W.ownsRow B e 1 v' (n+1) (xs++[u])->∃ g aO,v' = .slice (some ⟨g,0,none⟩) (n+1) aO/\B<=g:=by
  intro v' W B h
  rcases h.2 with ⟨_,h0⟩|⟨g,aO,cur,rfl,hB,_⟩
  ·omega
  ·exact ⟨g,aO,rfl,hB⟩
 obtain ⟨a',c',ee,hl,hm,hc⟩:=hrow
 simp only [Value.slice.injEq] at ee
 obtain ⟨rfl,hnx,rfl⟩:=ee
 cases a with
 | none =>
   have h0:=hnil rfl
   subst h0
   have hx:xs=[]:=akg hnx.symm
   subst hx
   have hown':w.ownsRow w.heap.size e 1 (.slice none 0 0) 0 []:=⟨rfl,.inl ⟨rfl,rfl⟩⟩
   obtain ⟨v',w',hr,h2,h3,_⟩:=run_append_own (P:=P) w w.heap.size t ty e i z 1 bytes ht hi1 hi2 hi3 hi4 hzs (by decide) _ 0 [] hown' ⟨N,0,none⟩ 1 1 [u] rfl hnews h1 (by unfold maxLen;omega) hbytes (aje _)
   obtain ⟨g,aO,rfl,hB⟩:=shape h2
   exact ⟨g,aO,w',hr,h2,h3,hB⟩
 | some ad =>
   have holds:∀ j x,xs[j]?=some x->w.cell? (ad.add j)=some x:=fun j x hj=>by
    have hlt:=(ake.1 hj).1
    obtain ⟨b,off,cs,e1,_,hb1,hj2⟩:=hc (by omega)
    cases e1
    have ea:(⟨b,off,none⟩:Addr).add j=⟨b,off+j,none⟩:=by simp only [akh];split<;>simp_all
    rw [ea]
    exact hb1.cell _ ((hj2 j hlt).trans hj)
   obtain ⟨v',w',hr,h2,h3⟩:=run_append_arg_grows (P:=P) w t ty e i z 1 bytes ht hi1 hi2 hi3 hi4 hzs (by decide) ad n n xs (by omega) holds ⟨N,0,none⟩ 1 1 [u] rfl hnews (by omega) (by unfold maxLen;omega) hbytes
   obtain ⟨g',cap',rfl,hB⟩:=shape h2
   exact ⟨g',cap',w',hr,h2,h3,hB⟩
def XO (v:Value):Prop:=∀ n c,v = .slice none n c->c=0
def iE (o:Ow) (w:World) (b:Nat) (T:TypeId) (eP:List Value) (xs:List Nat):Prop:=o b≠0/\∃ v,aF w b (v::eP) T/\dH o w 3 v (aS xs)/\XO v
section
variable {o:Ow} {w w':World} {b:Nat} {T:TypeId} {eP:List Value} {xs:List Nat}
theorem iE.aK {S:Nat->Prop} (h:iE o w b T eP xs) (k:aj S w w') (hb:¬ S b) (h0:∀ x,o x=0->¬ S x):iE o w' b T eP xs:=by
 obtain ⟨ho,v,h1,h2,h3⟩:=h
 exact ⟨ho,v,k.aH h1 hb,h2.aK k h0,h3⟩
theorem iE.still (h:iE o w b T eP xs) (k:aj aB w w'):iE o w' b T eP xs:=h.aK k (fun f=>f) (fun _ _ f=>f)
theorem iE.ext {o':Ow} (h:iE o w b T eP xs) (e:bZ w o o'):iE o' w b T eP xs:=by
 obtain ⟨ho,v,h1,h2,h3⟩:=h
 exact ⟨by rw [e b h1.lt];exact ho,v,h1,h2.ext e,h3⟩
theorem iE.form (h:iE o w b T eP xs):∃ a c,w.cell? ⟨b,0,none⟩=some (.slice a xs.length c)/\dH o w 3 (.slice a xs.length c) (aS xs)/\aF w b (.slice a xs.length c::eP) T/\xs.length<=c/\xs.length<=4000000000000/\w.frozen? ⟨b,0,none⟩=false/\(a=none->c=0):=by
 obtain ⟨ho,v,h1,h2,h3⟩:=h
 obtain ⟨a,c,rfl,hl,hm,hc⟩:=id h2
 have e:(aS xs).length=xs.length:=by simp [aS]
 rw [e] at h1 h2 hl hm
 exact ⟨a,c,h1.cell 0 rfl,h2,h1,hl,hm,h1.free 0,fun e=>h3 _ c (by rw [e])⟩
theorem iE.set (h:iE o w b T eP xs) {v:Value} {ys:List Nat} (hv:dH o w 3 v (aS ys)) (hn:XO v):iE o (w.setCell ⟨b,0,none⟩ v) b T eP ys:=by
 obtain ⟨ho,u,h1,h2,h3⟩:=h
 exact ⟨ho,v,h1.set 0 v,hv.QK ((aj.refl _ _).put 0 v) ho,hn⟩
theorem zQ (h:iE o w b T eP xs):Calls aA 212 #[au b] w fun e w'=>e = .returned (ah (xs.length:Int))/\w=w':=by
 obtain ⟨a,c,hc,_⟩:=h.form
 clear h
 go_enter func212,ntmps212
 go_wp2_with fail
 go_ret
 exact ⟨rfl,rfl⟩
theorem ZP (h:iE o w b T eP xs):Calls aA 213 #[au b] w fun e w'=>∃ v,e = .returned v/\w'.ownsRow w.heap.size 3 1 v xs.length (aS xs)/\aj aB w w':=by
 obtain ⟨a,c,hc,hr,hb,hl,hm,_,hnil⟩:=h.form
 have HC:=ay (CO a xs.length c (aS xs) w (hr.toV.toCells) hnil hm (fun u hu=>by obtain ⟨z,_,rfl⟩:=List.mem_map.1 hu;rfl))
 clear h hnil hr hb hl hm
 go_enter func213,ntmps213
 go_wp2_with (go_at_call 85;refine HC.out.mono ?_;rintro e w1 ⟨v,rfl,ho,hk⟩;have HO:=ay ho;have HK:=ay hk;clear ho hk)
 go_ret
 exact ⟨v,rfl,HO.out,HK.out⟩
theorem Lp (h:iE o w b T eP []):Calls aA 246 #[au b] w fun e w'=>e = .returned (.tuple #[ah 0,.bool false])/\w=w':=by
 obtain ⟨a,c,hc,_⟩:=h.form
 clear h
 go_enter func246,ntmps246
 go_wp2_with fail
 go_ret2
 exact ⟨rfl,rfl⟩
theorem Jo (x:Nat) (h:iE o w b T eP (x::xs)):Calls aA 246 #[au b] w fun e w'=>e = .returned (.tuple #[ah (x:Int),.bool true])/\iE o w' b T eP xs/\aj (only b) w w':=by
 obtain ⟨a,c,hc,hr,hb,hl,hm,hf,_⟩:=h.form
 simp only [List.length_cons] at hc hr hb hl hm
 have hcut:=hr.cut 1 (by omega)
 rw [show (aS (x::xs)).drop 1=aS xs from rfl] at hcut
 obtain ⟨a',c',ee,_,_,hcell⟩:=hr.form
 simp only [Value.slice.injEq] at ee
 obtain ⟨e1,e9,e2⟩:=ee
 subst e1;subst e2
 obtain ⟨b',off',rfl,hx⟩:=hcell 0 (ah (x:Int)) rfl
 rw [Nat.add_zero] at hx
 clear e9
 have hset:=h.set hcut (fun n c' e=>by unfold vw at e;split at e<;>cases e)
 have XP:=fun w=>IV (P:=aA) (T:=32) (e:=3) (by kernel_rfl) (by kernel_rfl) (some ⟨b',off',none⟩) (xs.length+1) c 1 (by omega) w
 have hne:(((xs.length+1:Nat):Int)==0)=false:=by simp;omega
 have hpos:(0:Int)<((xs.length+1:Nat):Int):=by omega
 have HS:Hid (iE o (w.setCell ⟨b,0,none⟩ (.slice (vw (some ⟨b',off',none⟩) c 1) (xs.length+1 - 1) (c - 1))) b T eP xs):=hset
 simp only [show (((1:Nat)):Int)=1 from rfl] at XP
 generalize hL:xs.length+1=L at *
 have HL:=ay hL
 generalize vw (some ⟨b',off',none⟩) c 1=ca at *
 clear h hr hb hl hm hcut hset hcell hL
 go_enter func246,ntmps246
 go_wp2_with fail
 go_ret2
 exact ⟨rfl,HS.out,(aj.refl (only b) _).put _ _⟩
theorem ZQ (h:iE o w b T eP xs) (x:Nat) (hf0:kJ o w) (hm:xs.length<=100000):Calls aA 211 #[au b,ah (x:Int)] w fun e w'=>e = .returned (.tuple #[])/\iE o w' b T eP (xs++[x])/\aj (only b) w w':=by
 obtain ⟨a,c,hc,hr,hb,hl,_,hf,_⟩:=h.form
 obtain ⟨n,hn⟩:∃ n,n=xs.length:=⟨_,rfl⟩
 rw [<- hn] at hc hr hb hl hm
 obtain ⟨W1,hW1⟩:∃ W',W'=(w.alloc (.cells #[ah (x:Int)] 3)).drew:=⟨_,rfl⟩
 have hk1:aj aB w W1:=by rw [hW1];exact ((aj.refl _ _).alloc _).drew
 have hr1:dH o W1 3 (.slice a n n) (aS xs):=by
  obtain ⟨a',c',ee,_,hm2,hc2⟩:=hr.still hk1
  simp only [Value.slice.injEq] at ee
  obtain ⟨rfl,hnl,rfl⟩:=ee
  exact ⟨a,n,by rw [<- hnl],by omega,by omega,hc2⟩
 have hnil:a=none->n=0:=fun e=>by
  rcases akK n with h0|h0
  ·exact h0
  ·obtain ⟨_,_,_,h1⟩:=hr.toV.cells
   obtain ⟨b',off,e2,_⟩:=h1 h0
   rw [e] at e2;cases e2
 have hsl:∀ W:World,(Instr.slice 32 (.slice a n c) none (some (ah (n:Int))) (some (ah (n:Int)))).run aA W = .ok (.slice a n n) W:=fun W=>by
  have ht:aA.underlying 32=some (.slice 3):=by kernel_rfl
  have hi:(aA.info? 3).map (·.size)=some 1:=by kernel_rfl
  obtain ⟨i,hi1,hi2⟩:=Option.map_eq_some_iff.1 hi
  have h1:¬ c<n:=by omega
  cases a with
  | none =>
    simp [Instr.slice,run_underlying ht,sizeOf,typeInfo,hi1,go_sem,h1]
  | some ad =>
    simp [Instr.slice,run_underlying ht,sizeOf,typeInfo,hi1,go_sem,h1,akh]
 obtain ⟨g,aO,w5,hrun,hown,hgr,hge⟩:=ael (P:=aA) W1 32 32 3 (by kernel_rfl) Tryz.infoInt rfl hr1 hnil (N:=w.heap.size) (u := ah (x:Int)) (by rw [hW1];exact ((aF.bC w _ _).drew).cell 0 rfl) rfl (by decide) (by omega)
 have hrun9:(app9 #[32,32] 32 #[.slice a n n,.slice (some ⟨w.heap.size,0,none⟩) 1 1]).run aA (w.alloc (.cells #[ah (x:Int)] 3)).drew = .ok (.slice (some ⟨g,0,none⟩) (n+1) aO) w5:=by rw [<- hW1];exact hrun
 have hk5:aj aB w w5:=hk1.trans ⟨hgr.os,hgr.tape,hgr.output,hgr.size,fun k hk _=>hgr.block k hk (by simp)⟩
 have hrow5:dH o w5 3 (.slice (some ⟨g,0,none⟩) (n+1) aO) (aS (xs++[x])):=by
  have h9:w5.ownsRow W1.heap.size 3 1 (.slice (some ⟨g,0,none⟩) (n+1) aO) (n+1) (aS (xs++[x])):=by
   have e:aS (xs++[x])=aS xs++[ah (x:Int)]:=by simp [aS]
   rw [e];exact hown
  exact dH.yG h9 (by omega) (fun b hb=>hf0 b (Nat.le_trans hk1.size hb))
 have c5:=hk5.still hc
 have f5:=(hk5.aH hb (fun f=>f)).free 0
 have iH:Hid (iE o (w5.setCell ⟨b,0,none⟩ (.slice (some ⟨g,0,none⟩) (n+1) aO)) b T eP (xs++[x])/\aj (only b) w (w5.setCell ⟨b,0,none⟩ (.slice (some ⟨g,0,none⟩) (n+1) aO))) :=
  ⟨(h.still hk5).set hrow5 (fun _ _ e=>by cases e),(hk5.mono (fun _ _ f=>f.elim)).put 0 _⟩
 have hlt:b<w.heap.size:=hb.lt
 have hc1:∀ o,(w.alloc o).cell? ⟨b,0,none⟩=some (.slice a n c):=fun o=>((aj.refl aB w).alloc o).still hc
 have hn0:(n:Int)<=100000:=by omega
 clear h hr hb hl hf hk1 hr1 hnil hrun hown hgr hge hk5 hrow5 hf0 hm hn hW1
 go_enter func211,ntmps211
 go_region
 all_goals
  go_wp2_with fail
  go_end0
  exact ⟨rfl,iH.out.1,iH.out.2⟩
end
end
section
open Go.RowKit
def tq (o:Ow) (w:World):List (List Value × TypeId)->List Nat->Prop
 | [],bs=>bs=[]
 | (cs,T)::l,bs=>∃ b r,bs=b::r/\o b=0/\aF w b cs T/\tq o w l r
abbrev aJ (b:Nat):Value := au b
def dW (o:Ow) (w:World) (fn:Nat) (l:List (List Value × TypeId)) (v:Value):Prop:=∃ bs,v = .func (.func fn) #[] (bs.map aJ).toArray/\tq o w l bs
section
variable {o:Ow} {w w':World}
theorem tq.aK {S:Nat->Prop} (k:aj S w w') (h0:∀ b,o b=0->¬ S b):∀ {l:List (List Value × TypeId)} {bs:List Nat},tq o w l bs->tq o w' l bs
 | [],_,h=>h
 | (cs,T)::l,bs,h=>by
   obtain ⟨b,r,e,h1,h2,h3⟩:=h
   exact ⟨b,r,e,h1,k.aH h2 (h0 b h1),tq.aK k h0 h3⟩
theorem tq.ext {o':Ow} (e:bZ w o o'):∀ {l:List (List Value × TypeId)} {bs:List Nat},tq o w l bs->tq o' w l bs
 | [],_,h=>h
 | (cs,T)::l,bs,h=>by
   obtain ⟨b,r,e1,h1,h2,h3⟩:=h
   exact ⟨b,r,e1,(e b h2.lt).trans h1,h2,tq.ext e h3⟩
theorem dW.aK {S:Nat->Prop} {fn:Nat} {l:List (List Value × TypeId)} {v:Value} (h:dW o w fn l v) (k:aj S w w') (h0:∀ b,o b=0->¬ S b):dW o w' fn l v:=by
 obtain ⟨bs,e,hc⟩:=h
 exact ⟨bs,e,hc.aK k h0⟩
theorem dW.ext {o':Ow} {fn:Nat} {l:List (List Value × TypeId)} {v:Value} (h:dW o w fn l v) (e:bZ w o o'):dW o' w fn l v:=by
 obtain ⟨bs,e1,hc⟩:=h
 exact ⟨bs,e1,hc.ext e⟩
end
def zS (o:Ow) (w:World) (M:Nat):RD->Value->Prop
 | .field bP f _,v=>∃ op:jy,op.b=f/\dW o w 227 [([aJ M],56),([ah (bP:Int)],3),(op.cells,83)] v
 | .cell i _,v=>∃ op:jy,op.a=i/\dW o w 231 [([aJ M],56),(op.cells,83)] v
def zT (o:Ow) (w:World) (M:Nat):RD->Value->Prop
 | .field bP f x,v=>∃ op:jy,op.b=f/\dW o w 229 [([aJ M],56),([ah (bP:Int)],3),(op.cells,83),([ah (x:Int)],3)] v
 | .cell i x,v=>∃ op:jy,op.a=i/\dW o w 232 [([aJ M],56),(op.cells,83),([ah (x:Int)],3)] v
def qo (o:Ow) (w:World) (M:Nat) (rd:RD) (v:Value):Prop:=∃ wv,zT o w M rd wv/\dW o w 253 [([wv],1),([aJ M],56)] v
def fE (o:Ow) (w:World) (Nt M:Nat):MD->Value->Prop
 | .nil,v=>v = .nilFunc
 | .kU op,v=>dW o w 92 [([aJ M],56),(op.cells,83)] v
 | .once k,v=>∃ dv,dW o w 169 [([dv],1)] v/\(if k=1 then ∃ lv,dW o w 128 [([lv],1),([aJ M],56)] dv/\dW o w 130 [([aJ M],56)] lv
  else if k=2 then ∃ lv,dW o w 128 [([lv],1),([aJ M],56)] dv/\dW o w 132 [] lv
  else if k=3 then ∃ lv,dW o w 128 [([lv],1),([aJ M],56)] dv/\dW o w 133 [([aJ M],56)] lv
  else if k=5 then ∃ lv,dW o w 128 [([lv],1),([aJ M],56)] dv/\dW o w 137 [([aJ M],56)] lv
  else ∃ lv,dW o w 128 [([lv],1),([aJ M],56)] dv/\dW o w 138 [([aJ M],56)] lv)
 | .lH x c t,v=>∃ tv av,fE o w Nt M t tv/\dW o w 171 [([aJ Nt],104),([ah (x:Int)],3),([tv],88)] av/\dW o w 173 [([aJ Nt],104),([ah (x:Int)],3),([ah (c:Int)],3),([tv],88),([av],87)] v
 | .add x t,v=>∃ tv,fE o w Nt M t tv/\dW o w 171 [([aJ Nt],104),([ah (x:Int)],3),([tv],88)] v
 | .nT c t,v=>∃ tv,fE o w Nt M t tv/\dW o w 176 [([aJ Nt],104),([tv],88),([ah (c:Int)],3)] v
 | .iK c f t,v=>∃ tv,fE o w Nt M t tv/\dW o w 214 [([aJ Nt],104),([ah (c:Int)],3),([.bool f],4),([tv],88)] v
 | .kX t,v=>∃ tv,fE o w Nt M t tv/\dW o w 217 [([aJ Nt],104),([tv],88)] v
 | .field bP f t,v=>∃ tv,fE o w Nt M t tv/\dW o w 252 [([aJ M],56),([ah (bP:Int)],3),([ah f],3),([tv],88)] v
 | .load op bP,v=>dW o w 225 [([aJ M],56),([ah (bP:Int)],3),(op.cells,83)] v
 | .get op,v=>dW o w 230 [([aJ M],56),(op.cells,83)] v
 | .uj x rd,v=>∃ rv lv,zS o w M rd rv/\qo o w M rd lv/\dW o w 254 [([rv],44),([aJ M],56),([lv],87),([ah (x:Int)],3)] v
 | .last rd,v=>qo o w M rd v
 | .alloc op k,v=>dW o w 220 [([aJ M],56),([ah (k:Int)],3),(op.cells,83)] v
 | .assign op k,v=>dW o w 222 [([aJ M],56),(op.cells,83),([ah (k:Int)],3)] v
 | .xJ op all,v=>2<=all.length/\∃ av,dH o w 3 av (aS all)/\dW o w 268 [([aJ M],56),([av],32),([ah ((all.length - 1:Nat):Int)],3),(op.cells,83)] v
 | .xK op k,v=>dW o w 249 [([aJ M],56),(op.cells,83),([ah (k:Int)],3)] v
 | .wP op k,v=>dW o w 264 [([aJ M],56),([ah (k:Int)],3),(op.cells,83)] v
 | .eX _ _ _,_=>False
 | .fill op a,v=>dW o w 247 [([aJ M],56),([ah (a:Int)],3),(op.cells,83)] v
 | .zero op a i,v=>dW o w 263 [([ah (i:Int)],3),(op.cells,83),([aJ M],56),([ah (a:Int)],3)] v
def lF (o:Ow) (w:World) (D0 q:Nat) (v:Value) (sl:List Nat) (c:Nat):Prop :=
 (v = .pointer none/\sl=[])\/∃ C b sv,v=aJ C/\o C=q/\aF w C [aJ D0,sv,ah (b:Int),ah (c:Int)] 266/\dH o w 3 sv (aS sl)
def oz (o:Ow) (w:World) (D0:Nat) (g:Nat × Nat) (q:Nat):MD->Value->Prop
 | .eX sl c t,v=>∃ cv tv,lF o w D0 q cv sl c/\fE o w g.1 g.2 t tv/\dW o w 277 [([cv],260),([aJ g.2],56),([tv],88)] v
 | d,v=>fE o w g.1 g.2 d v
theorem oz.of {o:Ow} {w:World} {D0:Nat} {g:Nat × Nat} {q:Nat} {d:MD} {v:Value} (h:fE o w g.1 g.2 d v):oz o w D0 g q d v:=by
 cases d<;>first|exact h|exact h.elim
structure vI (w:World) (a:Option Addr) (n sz:Nat) (rs:List (List Value)):Prop where
 len:rs.length=n
 ni:0<n->∃ b off,a=some ⟨b,off,none⟩/\∀ i r,rs[i]?=some r->∀ j v,r[j]?=some v->w.cell? ⟨b,off+i*sz+j,none⟩=some v
theorem vI.below {w w' a n sz rs} (h:vI w a n sz rs) (k:aj aB w w'):vI w' a n sz rs:=by
 refine ⟨h.len,fun h0=>?_⟩
 obtain ⟨b,off,e,hc⟩:=h.ni h0
 exact ⟨b,off,e,fun i r hi j v hj=>k.still (hc i r hi j v hj)⟩
theorem vI.nil (w:World) (sz:Nat):vI w none 0 sz []:=⟨rfl,fun h=>absurd h (ajY 0)⟩
theorem vI.yG {w:World} {bP n sz:Nat} {T:TypeId} {v:Value} {rs:List (List Value)} (h:w.ownsRow bP T sz v n rs.flatten) (hr:∀ r∈rs,r.length=sz) (hn:rs.length=n) :
 ∃ a c,v = .slice a n c/\vI w a n sz rs/\n<=c:=by
 obtain ⟨hl,hf⟩:=h
 have idx:∀ (rs:List (List Value)),(∀ r∈rs,r.length=sz)->∀ i r,rs[i]?=some r->∀ j v,r[j]?=some v->rs.flatten[i*sz+j]?=some v:=by
  intro rs
  induction rs with
  | nil=>intro _ i r h;simp at h
  | cons r0 rs ih =>
    intro hr i r hi j v hj
    have h0:r0.length=sz:=hr r0 (by simp)
    rw [List.flatten_cons]
    cases i with
    | zero =>
      simp at hi;subst hi
      have:=(ake.1 hj).1
      rw [Nat.zero_mul,Nat.zero_add,List.getElem?_append_left (by omega)];exact hj
    | succ i =>
      have e:(i+1)*sz+j=r0.length+(i*sz+j):=by rw [Nat.succ_mul,h0];omega
      rw [e,List.getElem?_append_right (by omega),Nat.add_sub_cancel_left]
      exact ih (fun r h=>hr r (by simp [h])) i r (by simpa using hi) j v hj
 rcases hf with ⟨rfl,h0⟩|⟨g,aO,cur,rfl,_,hg,hnc,_,hs,hc⟩
 ·rcases akK n with hz|hz
  ·subst hz
   have:rs=[]:=akg hn
   subst this
   exact ⟨none,0,rfl,vI.nil _ _,aje _⟩
  ·omega
 ·refine ⟨_,aO,rfl,⟨hn,fun _=>⟨g,0,rfl,fun i r hi j v hj=>?_⟩⟩,hnc⟩
  have h1:=idx rs hr i r hi j v hj
  rw [<- hc] at h1
  have hlt:i*sz+j<n*sz:=by
   have:=(ake.1 h1).1
   simp at this;omega
  have h2:cur[i*sz+j]?=some v:=by
   rw [List.getElem?_take_of_lt hlt] at h1
   simpa using h1
  simp [World.cell?,hg,h2]
end
section
open Go.RowKit Go.Deep
section
variable {P:Program} {w:World}
end
theorem RZ {sz:Nat}:∀ (rs:List (List Value)),(∀ r∈rs,r.length=sz)->rs.flatten.length=rs.length*sz
 | [],_=>by simp
 | r::rs,h=>by
   have:=RZ rs (fun r hr=>h r (by simp [hr]))
   have h0:=h r (by simp)
   simp [Nat.succ_mul,h0,this,Nat.add_comm]
end
section
open Go.RowKit
structure fU where
 S:Nat
 D:Nat->Nat
 B:Nat
 Q:Nat
 Fl:Nat
 bx:Nat->Nat
structure fH (o:Ow) (w:World) (G:fU) (s:Sh):Prop where
 iV:kJ o w
 sh:∃ v,aF w G.S [aJ (G.D 0),aJ G.B,aJ G.Q,aJ G.Fl,v] 53/\dH o w 122 v ((List.range s.aV.length).map fun i=>aJ (G.bx i))
 oS:o G.S=0
 heap:aI w G.D s.H
 oD:∀ i,i<13->o (G.D i)=1
 xu:o 3=0/\o 4=0/\o 2=0
 rH:kH w G.B s.B
 oB:o G.B=2
 sJ:jB o w G.Q s.Q
 oQ:o G.Q=3
 dw:aF w G.Fl [.bool s.dw] 121
 oF:o G.Fl=4
 box:∀ i l,s.aV[i]?=some l->iE o w (G.bx i) 176 [] l/\o (G.bx i)=10+i
section
variable {o:Ow} {w w':World} {G:fU} {s:Sh} {I:List Nat}
theorem jB.bg {B:Nat} {q:Qu} {i:Nat} (h:jB o w B q) (k:aj (In o I) w w') (h0:I.contains 0=false) (hB:o B=i) (hI:I.contains i=false):jB o w' B q:=by
 obtain ⟨ho,hl,vs,hv,hb,hr⟩:=h
 exact ⟨ho,hl,vs,hv,hb.bg k hB hI,fun i v zs h1 h2=>(hr i v zs h1 h2).bg k h0⟩
theorem jB.yF {o':Ow} {B:Nat} {q:Qu} (h:jB o w B q) (e:bZ w o o'):jB o' w B q:=by
 obtain ⟨ho,hl,vs,hv,hb,hr⟩:=h
 exact ⟨by rw [e B hb.lt];exact ho,hl,vs,hv,hb,fun i v zs h1 h2=>(hr i v zs h1 h2).ext e⟩
theorem iE.bg {b:Nat} {T:TypeId} {eP:List Value} {xs:List Nat} {i:Nat} (h:iE o w b T eP xs) (k:aj (In o I) w w') (h0:I.contains 0=false) (hB:o b=i) (hI:I.contains i=false):iE o w' b T eP xs :=
 h.aK k (dR hB hI) (fun _x hx=>dR hx h0)
theorem fH.zU (h:fH o w G s) (k:aj (In o I) w w') (h0:I.contains 0=false) (h1:I.contains 1=false):aI w' G.D s.H :=
 h.heap.aK k (fun i hi=>dR (h.oD i hi) h1) (dR h.xu.1 h0) (dR h.xu.2.1 h0) (dR h.xu.2.2 h0)
theorem fH.hfO (h:fH o w G s) (k:aj (HF G.D) w w') (h1:I.contains 1=true):aj (In o I) w w':=k.mono (fun x _ hx=>by
 obtain ⟨i,hi,e⟩:=hx
 unfold In
 rw [e,h.oD i hi]
 simpa using h1)
theorem fH.iZ {s':Sh} (h:fH o w G s) (k:aj (In o I) w w') (h0:I.contains 0=false) (hH:aI w' G.D s'.H) (hB:kH w' G.B s'.B) (hQ:jB o w' G.Q s'.Q) (hF:aF w' G.Fl [.bool s'.dw] 121)
 (hl:s'.aV.length=s.aV.length) (hX:∀ i l,s'.aV[i]?=some l->iE o w' (G.bx i) 176 [] l):fH o w' G s':=by
 obtain ⟨v,hs1,hs2⟩:=h.sh
 refine ⟨h.iV.aK k,⟨v,hs1.bg k h.oS h0,?_⟩,h.oS,hH,h.oD,h.xu,hB,h.oB,hQ,h.oQ,hF,h.oF,fun i l hi=>⟨hX i l hi,?_⟩⟩
 ·rw [hl];exact hs2.bg k h0
 ·have hlt:=(ake.1 hi).1
  exact (h.box i _ (ajh (by omega))).2
theorem fH.JU (h:fH o w G s) (k:aj (In o I) w w') (h0:I.contains 0=false) (hI:∀ i,i<s.aV.length->I.contains (10+i)=false):∀ i l,s.aV[i]?=some l->iE o w' (G.bx i) 176 [] l:=fun i l hi =>
 (h.box i l hi).1.bg k h0 (h.box i l hi).2 (hI i (ake.1 hi).1)
theorem fH.bg (h:fH o w G s) (k:aj (In o I) w w') (hI:I.all (fun i=>decide (20<=i))=true) (h8:s.aV.length<=8):fH o w' G s:=by
 have hge:∀ i,i<20->I.contains i=false:=fun i hi=>by
  rw [akL]
  intro hc
  have:=akA.1 hI i (by simpa using hc)
  simp at this;omega
 exact h.iZ k (hge 0 (by decide)) (h.zU k (hge 0 (by decide)) (hge 1 (by decide))) (h.rH.aK k (dR h.oB (hge 2 (by decide)))) (h.sJ.bg k (hge 0 (by decide)) h.oQ (hge 3 (by decide))) (h.dw.bg k h.oF (hge 4 (by decide))) rfl (h.JU k (hge 0 (by decide)) (fun i hi=>hge _ (by omega)))
theorem fH.wQ {H:HS} (h:fH o w G s) (k:aj (HF G.D) w w') (hH:aI w' G.D H) (_h8:s.aV.length<=8):fH o w' G { s with H:=H }/\aj (In o [1]) w w':=by
 have k1:aj (In o [1]) w w':=h.hfO k rfl
 exact ⟨h.iZ (s':={ s with H:=H }) k1 rfl hH (h.rH.aK k1 (dR h.oB rfl)) (h.sJ.bg k1 rfl h.oQ rfl) (h.dw.bg k1 h.oF rfl) rfl (h.JU k1 rfl (fun i hi=>by simp;omega)),k1⟩
theorem fH.zG {B:Bd} (h:fH o w G s) (k:aj (only G.B) w w') (hB:kH w' G.B B):fH o w' G { s with B:=B }/\aj (In o [2]) w w':=by
 have k1:aj (In o [2]) w w':=k.xI h.oB rfl
 exact ⟨h.iZ (s':={ s with B:=B }) k1 rfl (h.zU k1 rfl rfl) hB (h.sJ.bg k1 rfl h.oQ rfl) (h.dw.bg k1 h.oF rfl) rfl (h.JU k1 rfl (fun i hi=>by simp;omega)),k1⟩
theorem fH.CQ {Q:Qu} (h:fH o w G s) (k:aj (only G.Q) w w') (hQ:jB o w' G.Q Q):fH o w' G { s with Q:=Q }/\aj (In o [3]) w w':=by
 have k1:aj (In o [3]) w w':=k.xI h.oQ rfl
 exact ⟨h.iZ (s':={ s with Q:=Q }) k1 rfl (h.zU k1 rfl rfl) (h.rH.aK k1 (dR h.oB rfl)) hQ (h.dw.bg k1 h.oF rfl) rfl (h.JU k1 rfl (fun i hi=>by simp;omega)),k1⟩
theorem fH.IX {f:Bool} (h:fH o w G s) (k:aj (only G.Fl) w w') (hF:aF w' G.Fl [.bool f] 121):fH o w' G { s with dw:=f }/\aj (In o [4]) w w':=by
 have k1:aj (In o [4]) w w':=k.xI h.oF rfl
 exact ⟨h.iZ (s':={ s with dw:=f }) k1 rfl (h.zU k1 rfl rfl) (h.rH.aK k1 (dR h.oB rfl)) (h.sJ.bg k1 rfl h.oQ rfl) hF rfl (h.JU k1 rfl (fun i hi=>by simp;omega)),k1⟩
theorem fH.Si {j:Nat} {l:List Nat} (h:fH o w G s) (hj:j<s.aV.length) (k:aj (only (G.bx j)) w w') (hX:iE o w' (G.bx j) 176 [] l) (_h8:s.aV.length<=8):fH o w' G { s with aV:=s.aV.set j l }/\aj (In o [10+j]) w w':=by
 have oj:=(h.box j _ (ajh hj)).2
 have k1:aj (In o [10+j]) w w':=k.xI oj (by simp)
 have h0:([10+j]:List Nat).contains 0=false:=by simp;omega
 refine ⟨h.iZ (s':={ s with aV:=s.aV.set j l }) k1 h0 (h.zU k1 h0 (by simp;omega)) (h.rH.aK k1 (dR h.oB (by simp;omega))) (h.sJ.bg k1 h0 h.oQ (by simp;omega)) (h.dw.bg k1 h.oF (by simp;omega)) (by simp) (fun i l' hi=>?_),k1⟩
 by_cases e:j=i
 ·subst e
  rw [List.getElem?_set_self hj] at hi
  cases hi
  exact hX
 ·rw [List.getElem?_set_ne e] at hi
  exact (h.box i l' hi).1.bg k1 h0 (h.box i l' hi).2 (by simp;omega)
theorem fH.move {o':Ow} (h:fH o w G s) (k:aj (In o I) w w') (hI:I.all (fun i=>decide (20<=i))=true) (h8:s.aV.length<=8) (e:bZ w o o') (hf:kJ o' w'):fH o' w' G s:=by
 have k':=k.yF e
 have hge:∀ i,i<20->I.contains i=false:=fun i hi=>by
  rw [akL]
  intro hc
  have:=akA.1 hI i (by simpa using hc)
  simp at this;omega
 obtain ⟨v,hs1,hs2⟩:=h.sh
 have hg:=h.heap.Ll
 have ZR:(o' G.Q:Nat)=3:=by
  obtain ⟨ho,hl,vs,hv,hb,hr⟩:=h.sJ
  exact (e _ hb.lt).trans h.oQ
 refine ⟨hf,⟨v,hs1.bg k h.oS (hge 0 (by decide)),(hs2.ext e).bg k' (hge 0 (by decide))⟩,(e _ hs1.lt).trans h.oS,h.zU k (hge 0 (by decide)) (hge 1 (by decide)),fun i hi=>(e _ (h.heap.Lj i hi)).trans (h.oD i hi),⟨(e _ hg.1).trans h.xu.1,(e _ hg.2.1).trans h.xu.2.1,(e _ hg.2.2).trans h.xu.2.2⟩,
  h.rH.aK k (dR h.oB (hge 2 (by decide))),(e _ h.rH.aH.lt).trans h.oB,(h.sJ.yF e).bg k' (hge 0 (by decide)) ZR (hge 3 (by decide)),ZR,h.dw.bg k h.oF (hge 4 (by decide)),(e _ h.dw.lt).trans h.oF,fun i l hi=>?_⟩
 obtain ⟨h1,h2⟩:=h.box i l hi
 obtain ⟨_,v',hb,_,_⟩:=id h1
 have h3:o' (G.bx i)=10+i:=(e _ hb.lt).trans h2
 exact ⟨(h1.ext e).bg k' (hge 0 (by decide)) h3 (hge _ (by have:=(ake.1 hi).1;omega)),h3⟩
end
end
end Go.Proofs.YtanfphjoebobaaaGreatDoor
