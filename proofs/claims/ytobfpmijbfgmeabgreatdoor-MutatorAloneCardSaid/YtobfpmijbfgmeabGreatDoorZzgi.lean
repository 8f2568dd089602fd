/- Parts of the walk. No conditions. -/
import Derived.Test.YtobfpmijbfgmeabGreatDoorZzgh
namespace Go.Proofs.YtobfpmijbfgmeabGreatDoor
open _root_.Go.IntWalk renaming i64_in->abD
open _root_.Go.World renaming size_alloc->abw
open _root_.Int renaming toNat_natCast->abB
open _root_.Nat renaming le_refl->abg,lt_irrefl->abP
open _root_.Go.Proofs.Tryz hiding prog
open _root_.Go.Proofs.Tryz renaming prog->ay
set_option maxRecDepth 4000
set_option maxHeartbeats 4000000
section
attribute [local go_sem] Oper.semAt_some
open Go.RowKit
section
variable {w w':World} {D:Nat->Nat} {H:HS}
theorem CJ {a:Nat} (hh:H.jH a=true):∃ B k,H.dY a=some (B,k)/\H.bn a=false/\H.eY a=false/\H.gQ a=k:=by
 unfold HS.jH at hh
 simp only [Bool.and_eq_true,Bool.not_eq_true'] at hh
 obtain ⟨⟨h1,h2⟩,h3⟩:=hh
 obtain ⟨⟨B,k⟩,ho⟩:=Option.isSome_iff_exists.1 h1
 exact ⟨B,k,ho,h2,h3,by unfold HS.gQ;rw [ho]⟩
theorem Ah (h:aK w D H) (x v:Nat) (h1:1<=x) (h2:x<=H.b*H.ww) (hv:v<kU) (hi:dB (H.jC x v)):Calls ay 199 #[ak (D 1),ah (x:Int),.int .u64 (v:Int)] w fun e w'=>e = .returned (ah 0)/\aK w' D (H.jC x v)/\aj (HF D) w w':=by
 have hal:=h.dQ.lU
 have hx:((x - 1:Nat):Int)+1=(x:Int):=by omega
 have h9:=Eu h.jc (x - 1) (by omega) v (by unfold kU at hv;omega)
 rw [hx] at h9
 refine h9.mono ?_
 rintro e w' ⟨rfl,g1,g2⟩
 have hk:aj (yE D [1,2]) w w':=g2.mono (fun y _ hy=>by
  rcases hy with e|e
  ·exact ⟨1,by simp,e⟩
  ·exact ⟨2,by simp,e⟩)
 exact ⟨rfl,h.GX (A:=H.A.set (x - 1) v) hk g1 hi,hk.hf rfl⟩
theorem Np (h:aK w D H) (a f:Nat) (hf:f<=15):Calls ay 188 #[ak (D 0),ah (a:Int),ah (f:Int)] w fun e w'=>(∃ er:Int,e = .returned (ah er))/\aK w' D (H.jf a (f:Int))/\aj (HF D) w w':=by
 have HA:=au (rZ h a)
 have HH:=au h
 have hY:∀ W,aj aA w W->W.cell? ⟨D 0,0,none⟩=some (ak (D 1)):=fun W hW=>(h.still hW).aC.cell 0 rfl
 have HY:=au hY
 cases hh:H.jH a with
 | false =>
   have HE:Hid (H.jf a (f:Int)=H):=by
    unfold Hid HS.jf
    split
    ·rfl
    ·rw [hh];rfl
   rw [HE.out]
   rw [hh] at HA
   generalize H.gQ a=k at *
   clear h hh HE hY
   go_enter func188,ntmps188
   go_wp2_with (go_at_call 77;refine HA.out.mono ?_;rintro e w1 ⟨rfl,k1⟩;have HK:=au k1;clear k1)
   go_ret
   exact ⟨⟨_,rfl⟩,HH.out.still HK.out,HK.out.gW⟩
 | true =>
   obtain ⟨B,k,ho,hb,hi,hc⟩:=CJ hh
   have hk:=h.dQ.gQ ho
   rw [hh,hc] at HA
   have HO:Hid (∀ W,aj aA w W->Calls ay 179 #[ah (k:Int),ah (f:Int)] W fun e w'=>e = .returned (.tuple #[.int .u64 ((if iY k f then iM k f else 0:Nat):Int),.bool (decide (iY k f))])/\W=w'):=fun W hW=>uz k f (by omega) (by omega) W (h.sizes.aH hW)
   by_cases hok:iY k f
   ·have HE:Hid (H.jf a (f:Int)=H.oq a k f):=by
     unfold Hid HS.jf
     rw [ho]
     simp only [abB]
     rw [hh,cZ hok,cZ (Int.natCast_nonneg f)]
     rfl
    rw [HE.out]
    rw [aV hok,cZ hok] at HO
    obtain ⟨o1,o2,_⟩:=dK ho
    have hox:=(mP hok).2.2.1
    have HST:Hid (∀ W,aj aA w W->Calls ay 199 #[ak (D 1),ah (a:Int),.int .u64 (iM k f:Int)] W fun e w'=>e = .returned (ah 0)/\aK w' D (H.oq a k f)/\aj (HF D) W w'):=fun W hW =>
     Ah (h.still hW) a (iM k f) o1 o2 (by unfold kU;omega) (h.dQ.oq ho hb hi hok)
    generalize H.oq a k f=H2 at *
    generalize iM k f=ow at *
    clear h hh HE hY ho hok hb hi hc hox o1 o2
    go_enter func188,ntmps188
    go_wp2_with (go_at_call 77;refine HA.out.mono ?_;rintro e w1 ⟨rfl,k1⟩;have HK:=au k1;have z0:=HY.out _ k1;clear k1)
    have lD:=au (HO.out _ HK.out)
    have aap:=au (HST.out _ HK.out)
    go_wp2_with (first|(go_at_call 179;refine lD.out.mono ?_;rintro e w2 ⟨rfl,rfl⟩)|(go_at_call 199;refine aap.out.mono ?_;rintro e w2 ⟨rfl,h2,k2⟩;have uJ:=au h2;have bH:=au k2;clear h2 k2))
    go_ret
    exact ⟨⟨_,rfl⟩,uJ.out,HK.out.gW.trans bH.out⟩
   ·have HE:Hid (H.jf a (f:Int)=H):=by
     unfold Hid HS.jf
     rw [ho]
     simp only [abB]
     rw [dD hok]
     simp
    rw [HE.out]
    rw [aO hok,dD hok] at HO
    clear h hh HE ho hok hb hi hc
    go_enter func188,ntmps188
    go_wp2_with (go_at_call 77;refine HA.out.mono ?_;rintro e w1 ⟨rfl,k1⟩;have HK:=au k1;clear k1)
    have lD:=au (HO.out _ HK.out)
    go_wp2_with (go_at_call 179;refine lD.out.mono ?_;rintro e w2 ⟨rfl,rfl⟩)
    go_ret
    exact ⟨⟨_,rfl⟩,HH.out.still HK.out,HK.out.gW⟩
def HS.tJ (H:HS) (a c:Nat):Nat:=if H.jH a&&decide (c<2) then (if (H.kN a).isSome then 0 else 11) else 1
theorem PS (h:aK w D H) (a c:Nat):Calls ay 202 #[ak (D 0),ah (a:Int),ah (c:Int)] w fun e w'=>e = .returned (ah (H.tJ a c:Int))/\aK w' D (H.iZ a c)/\aj (HF D) w w':=by
 have HA:=au (rZ h a)
 have PU:Hid (∀ W,Calls ay 183 #[ah (c:Int)] W fun e w'=>e = .returned (.bool (decide (c<2)))/\W=w'):=fun W=>Cm c W
 have vH:Hid (∀ W,aj aA w W->Calls ay 78 #[ak (D 0),ah (a:Int)] W fun e w'=>e = .returned (.tuple #[ah (H.nf a:Int),.bool (H.kN a).isSome])/\aK w' D H/\aj (only (D 1)) W w'):=fun W hW=>wo (h.still hW) a
 have HH:=au h
 generalize hn:H.nf a=n at vH
 cases hh:H.jH a with
 | false =>
   have HE:Hid (H.iZ a c=H/\H.tJ a c=1):=by
    refine ⟨?_,?_⟩
    ·unfold HS.iZ;rw [hh];rfl
    ·unfold HS.tJ;rw [hh];rfl
   rw [HE.out.1,HE.out.2]
   rw [hh] at HA
   generalize H.gQ a=k at *
   generalize decide (c<2)=cc at *
   clear h hh HE hn
   go_enter func202,ntmps202
   go_wp2_with (go_at_call 77;refine HA.out.mono ?_;rintro e w1 ⟨rfl,k1⟩;have HK:=au k1;clear k1)
   go_ret
   exact ⟨rfl,HH.out.still HK.out,HK.out.gW⟩
 | true =>
   obtain ⟨B,k,ho,hb,hi,hc⟩:=CJ hh
   rw [hh,hc] at HA
   by_cases hc2:c<2
   ·rw [cZ hc2] at PU
    cases hm:H.kN a with
    | none =>
      have HE:Hid (H.iZ a c=H/\H.tJ a c=11):=by
       refine ⟨?_,?_⟩
       ·unfold HS.iZ;rw [hm];simp
       ·unfold HS.tJ;rw [hh,hm,cZ hc2];rfl
      rw [HE.out.1,HE.out.2]
      rw [hm] at vH
      clear h hh HE hn ho hb hi hc hc2 hm
      go_enter func202,ntmps202
      go_wp2_with (first|(go_at_call 77;refine HA.out.mono ?_;rintro e w1 ⟨rfl,k1⟩;have HK:=au k1;have uK:=au (vH.out _ k1);clear k1)|(go_at_call 183;refine (PU.out _).mono ?_;rintro e w1 ⟨rfl,rfl⟩)|(go_at_call 78;refine uK.out.mono ?_;rintro e w2 ⟨rfl,h2,k2⟩;have uJ:=au h2;have bH:=au k2;clear h2 k2))
      go_ret
      exact ⟨rfl,uJ.out,HK.out.gW.trans ((bH.out.sel1 (D:=D) (i:=1) (I:=[1]) rfl).hf rfl)⟩
    | some m =>
      have HE:Hid (H.iZ a c=H.rE a (c==1)/\H.tJ a c=0):=by
       refine ⟨?_,?_⟩
       ·unfold HS.iZ;rw [hh,hm,cZ hc2];rfl
       ·unfold HS.tJ;rw [hh,hm,cZ hc2];rfl
      rw [HE.out.1,HE.out.2]
      rw [hm] at vH
      obtain ⟨o1,o2,_⟩:=dK ho
      have ha:a<H.sz:=by unfold HS.sz;omega
      have CG:Hid (∀ W,aK W D H->Calls ay 184 #[ak (D 8),ah (a:Int),.bool true] W fun e w'=>(∃ r,e = .returned (.bool r))/\aK w' D { H with bn:=jL H.bn a true }/\aj (HF D) W w'):=fun W hW=>by
       refine (hW.jh.put a ha true).mono ?_
       rintro e w' ⟨rfl,g1,g2⟩
       have hi2:dB { H with bn:=jL H.bn a true }:=by
        have:=h.dQ.rE (H.co a) ho hi hm
        have e2:H.rE a (H.co a)={ H with bn:=jL H.bn a true }:=by
         unfold HS.rE
         congr 1
         funext x
         unfold jL
         split
         ·rename_i e;rw [e]
         ·rfl
        rw [e2] at this;exact this
       exact ⟨⟨_,rfl⟩,hW.DV (g2.sel1 rfl) g1 hi2,(g2.sel1 (I:=[9]) rfl).hf rfl⟩
      have HP2:Hid (∀ W,aK W D { H with bn:=jL H.bn a true }->Calls ay 184 #[ak (D 10),ah (a:Int),.bool (c==1)] W fun e w'=>(∃ r,e = .returned (.bool r))/\aK w' D (H.rE a (c==1))/\aj (HF D) W w'):=fun W hW=>by
       refine (hW.uH.put a ha (c==1)).mono ?_
       rintro e w' ⟨rfl,g1,g2⟩
       exact ⟨⟨_,rfl⟩,hW.DW (s:=jL H.co a (c==1)) (g2.sel1 rfl) g1 (h.dQ.rE (c==1) ho hi hm),(g2.sel1 (I:=[11]) rfl).hf rfl⟩
      have PL:Hid (((c:Int)==1)=(c==1)):=by unfold Hid;rw [Bool.eq_iff_iff];simp;omega
      have aao:=PL.out
      generalize { H with bn:=jL H.bn a true }=H1 at *
      generalize H.rE a (c==1)=H2 at *
      generalize (c==1)=cc at *
      clear h hh HE hn ho hb hi hc hc2 hm o1 o2 ha PL
      go_enter func202,ntmps202
      go_wp2_with (first|(go_at_call 77;refine HA.out.mono ?_;rintro e w1 ⟨rfl,k1⟩;have HK:=au k1;have uK:=au (vH.out _ k1);clear k1)|(go_at_call 183;refine (PU.out _).mono ?_;rintro e w1 ⟨rfl,rfl⟩)|(go_at_call 78;refine uK.out.mono ?_;rintro e w2 ⟨rfl,h2,k2⟩;have uJ:=au h2;have bH:=au k2;have z3:=h2.aC.cell 3 rfl;clear h2 k2)|fail)
      refine (CG.out _ uJ.out).mono ?_
      rintro e w3 ⟨⟨r,rfl⟩,h3,k3⟩
      have Xa:=au h3
      have lT:=au k3
      have z4:=h3.aC.cell 4 rfl
      clear h3 k3 z3
      go_wp2_with fail
      refine (HP2.out _ Xa.out).mono ?_
      rintro e w4 ⟨⟨r4,rfl⟩,h4,k4⟩
      have UH:=au h4
      have kR:=au k4
      clear h4 k4 z4
      go_wp2_with fail
      go_ret
      exact ⟨rfl,UH.out,HK.out.gW.trans (((bH.out.sel1 (D:=D) (i:=1) (I:=[1]) rfl).hf rfl).trans (lT.out.trans kR.out))⟩
   ·have HE:Hid (H.iZ a c=H/\H.tJ a c=1):=by
     refine ⟨?_,?_⟩
     ·unfold HS.iZ;rw [dD hc2];simp
     ·unfold HS.tJ;rw [dD hc2];simp
    rw [HE.out.1,HE.out.2]
    rw [dD hc2] at PU
    clear h hh HE hn ho hb hi hc hc2
    go_enter func202,ntmps202
    go_wp2_with (first|(go_at_call 77;refine HA.out.mono ?_;rintro e w1 ⟨rfl,k1⟩;have HK:=au k1;clear k1)|(go_at_call 183;refine (PU.out _).mono ?_;rintro e w1 ⟨rfl,rfl⟩))
    go_ret
    exact ⟨rfl,HH.out.still HK.out,HK.out.gW⟩
end
section
variable {w w':World} {D:Nat->Nat} {H:HS}
theorem zS {a:Nat} (h:H.lH a=0):a≠0/\H.sU a=true:=by
 unfold HS.lH at h
 split at h
 ·cases h
 ·split at h
  ·rename_i h1 h2;exact ⟨h1,h2⟩
  ·cases h
theorem xG (h:aK w D H) (a:Nat) (f:Value) (he:H.lH a≠0):Calls ay 52 #[ak (D 0),ah (a:Int),f] w fun e w'=>e = .returned (ah (H.lH a:Int))/\aK w' D H/\aj (HF D) w w':=by
 have HH:=au h
 by_cases h0:a=0
 ·subst h0
  have HE:Hid (H.lH 0=6):=rfl
  rw [HE.out]
  clear h he HE
  go_enter func52,ntmps52
  go_wp2_with fail
  go_ret
  exact ⟨rfl,HH.out,aj.refl _ _⟩
 ·have ho:H.sU a=false:=by
   unfold HS.lH at he
   rw [aO h0] at he
   cases hx:H.sU a
   ·rfl
   ·rw [hx] at he;exact absurd rfl he
  have HE:Hid (H.lH a=1):=by unfold Hid HS.lH;rw [aO h0,ho];rfl
  rw [HE.out]
  have HA:=au (rZ h a)
  have vH:Hid (∀ W,aj aA w W->Calls ay 78 #[ak (D 0),ah (a:Int)] W fun e w'=>e = .returned (.tuple #[ah (H.nf a:Int),.bool (H.kN a).isSome])/\aK w' D H/\aj (only (D 1)) W w'):=fun W hW=>wo (h.still hW) a
  have HB:Hid (∀ W,aK W D H->Calls ay 49 #[ak (D 8),ah (a:Int)] W fun e w'=>e = .returned (.bool (H.bn a))/\W=w'):=fun W hW=>hW.jh.Ll a
  have d0:((a:Int)==0)=false:=by simp;omega
  unfold HS.sU at ho
  generalize hn:H.nf a=n at vH
  generalize H.gQ a=k at *
  generalize H.bn a=x at *
  generalize H.jH a=y at *
  generalize (H.kN a).isSome=z at *
  clear h he HE h0 hn
  cases x
  ·cases y
   ·clear ho
    cases z
    all_goals
     go_enter func52,ntmps52
     go_wp2_with (first|(go_at_call 77;refine HA.out.mono ?_;rintro e w1 ⟨rfl,k1⟩;have HK:=au k1;have uK:=au (vH.out _ k1);clear k1)|(go_at_call 78;refine uK.out.mono ?_;rintro e w2 ⟨rfl,h2,k2⟩;have uJ:=au h2;have bH:=au k2;have z3:=h2.aC.cell 3 rfl;have HB2:=au (HB.out _ h2);clear h2 k2)|(go_at_call 49;refine HB2.out.mono ?_;rintro e w3 ⟨rfl,rfl⟩))
     go_ret
     exact ⟨rfl,uJ.out,HK.out.gW.trans ((bH.out.sel1 (D:=D) (i:=1) (I:=[1]) rfl).hf rfl)⟩
   ·cases z
    ·clear ho
     go_enter func52,ntmps52
     go_wp2_with (first|(go_at_call 77;refine HA.out.mono ?_;rintro e w1 ⟨rfl,k1⟩;have HK:=au k1;have uK:=au (vH.out _ k1);clear k1)|(go_at_call 78;refine uK.out.mono ?_;rintro e w2 ⟨rfl,h2,k2⟩;have uJ:=au h2;have bH:=au k2;have z3:=h2.aC.cell 3 rfl;have HB2:=au (HB.out _ h2);clear h2 k2)|(go_at_call 49;refine HB2.out.mono ?_;rintro e w3 ⟨rfl,rfl⟩))
     go_ret
     exact ⟨rfl,uJ.out,HK.out.gW.trans ((bH.out.sel1 (D:=D) (i:=1) (I:=[1]) rfl).hf rfl)⟩
    ·cases ho
  ·cases ho
theorem wu (h:aK w D H) (a:Nat) (fn:Nat) (hf:∀ args w,(callFunc fn args).run ay w = .ok (.enter fn args) w) (caps:Array Value) (er:Int) (P:World->Prop) (he:H.lH a=0)
 (hc:∀ W,aK W D H->aj (HF D) w W->Calls ay fn (#[ah (H.nf a:Int)]++caps) W fun e w'=>e = .returned (ah er)/\P w') :
 Calls ay 52 #[ak (D 0),ah (a:Int),.func (.func fn) #[] caps] w fun e w'=>e = .returned (ah er)/\P w':=by
 obtain ⟨h0,ho⟩:=zS he
 have HA:=au (rZ h a)
 have vH:Hid (∀ W,aj aA w W->Calls ay 78 #[ak (D 0),ah (a:Int)] W fun e w'=>e = .returned (.tuple #[ah (H.nf a:Int),.bool (H.kN a).isSome])/\aK w' D H/\aj (only (D 1)) W w'):=fun W hW=>wo (h.still hW) a
 have HB:Hid (∀ W,aK W D H->Calls ay 49 #[ak (D 8),ah (a:Int)] W fun e w'=>e = .returned (.bool (H.bn a))/\W=w'):=fun W hW=>hW.jh.Ll a
 have d0:((a:Int)==0)=false:=by simp;omega
 have HC:=au hc
 unfold HS.sU at ho
 generalize H.nf a=n at *
 generalize H.gQ a=k at *
 generalize H.bn a=x at *
 generalize H.jH a=y at *
 generalize (H.kN a).isSome=z at *
 clear h he h0 hc
 cases x
 ·cases y
  ·cases ho
  ·cases z
   ·cases ho
   ·clear ho
    go_enter func52,ntmps52
    go_wp2_with (first|(go_at_call 77;refine HA.out.mono ?_;rintro e w1 ⟨rfl,k1⟩;have HK:=au k1;have uK:=au (vH.out _ k1);clear k1)|(go_at_call 78;refine uK.out.mono ?_;rintro e w2 ⟨rfl,h2,k2⟩;have uJ:=au h2;have bH:=au k2;have z3:=h2.aC.cell 3 rfl;have HB2:=au (HB.out _ h2);clear h2 k2)|(go_at_call 49;refine HB2.out.mono ?_;rintro e w3 ⟨rfl,rfl⟩))
    refine (HC.out _ uJ.out (HK.out.gW.trans ((bH.out.sel1 (D:=D) (i:=1) (I:=[1]) rfl).hf rfl))).mono ?_
    rintro e w4 ⟨rfl,hp⟩
    have HP:=au hp
    clear hp
    go_wp2_with fail
    go_ret
    exact ⟨rfl,HP.out⟩
 ·clear ho
  cases y<;>cases z
  all_goals
   go_enter func52,ntmps52
   go_wp2_with (first|(go_at_call 77;refine HA.out.mono ?_;rintro e w1 ⟨rfl,k1⟩;have HK:=au k1;have uK:=au (vH.out _ k1);clear k1)|(go_at_call 78;refine uK.out.mono ?_;rintro e w2 ⟨rfl,h2,k2⟩;have uJ:=au h2;have bH:=au k2;have z3:=h2.aC.cell 3 rfl;have HB2:=au (HB.out _ h2);clear h2 k2)|(go_at_call 49;refine HB2.out.mono ?_;rintro e w3 ⟨rfl,rfl⟩))
   refine (HC.out _ uJ.out (HK.out.gW.trans ((bH.out.sel1 (D:=D) (i:=1) (I:=[1]) rfl).hf rfl))).mono ?_
   rintro e w4 ⟨rfl,hp⟩
   have HP:=au hp
   clear hp
   go_wp2_with fail
   go_ret
   exact ⟨rfl,HP.out⟩
theorem Ai (h:aK w D H) (a:Nat):Calls ay 25 #[ak (D 0),ah (a:Int)] w fun e w'=>e = .returned (.tuple #[ah ((H.gV a).1:Int),ah ((H.gV a).2:Int)])/\aK w' D H/\aj (HF D) w w':=by
 obtain ⟨W0,hW0⟩:∃ W',W'=w.alloc (.cells #[ah 0] 3):=⟨_,rfl⟩
 have hk0:aj aA w W0:=by rw [hW0];exact (aj.refl _ _).alloc _
 have hb0:aB W0 w.heap.size [ah 0] 3:=by rw [hW0];exact aB.aW w _ _
 have h0:=h.still hk0
 have hD:∀ i,i<13->D i<w.heap.size:=fun i hi=>by
  have hl:=h.lists
  obtain ⟨In,hl,_⟩:=hl
  obtain ⟨aJ,hs1⟩:=hl.set.aC
  obtain ⟨cur,hs2,_⟩:=hl.set.kL
  obtain ⟨W1,hbn,_⟩:=h.jh
  obtain ⟨W2,hco,_⟩:=h.uH
  obtain ⟨cap1,hb1⟩:=hbn.aC
  obtain ⟨cur1,hb2,_⟩:=hbn.kL
  obtain ⟨cap2,hc1⟩:=hco.aC
  obtain ⟨cur2,hc2,_⟩:=hco.kL
  obtain ⟨ld,st,ha⟩:=h.jc.aC
  match i,hi with
  | 0,_=>exact h.aC.lt
  | 1,_=>exact ha.lt
  | 2,_=>exact h.jc.kL.lt
  | 3,_=>exact h.fV.aC.lt
  | 4,_=>exact h.fV.gQ.lt
  | 5,_=>exact hl.lt
  | 6,_=>exact hs1.lt
  | 7,_=>exact hs2.lt
  | 8,_=>exact hb1.lt
  | 9,_=>exact hb2.lt
  | 10,_=>exact hc1.lt
  | 11,_=>exact hc2.lt
  | 12,_=>exact h.pI.lt
 have hnew:¬ HF D w.heap.size:=by
  rintro ⟨i,hi,e⟩
  have:=hD i hi
  omega
 have hmf:∀ (fn:Fn) (first aJ:Array Value) (w:World),(Instr.makeFunc fn first aJ).run ay w = .ok (.func fn first aJ) w:=fun _ _ _ _=>rfl
 unfold HS.gV
 by_cases he:H.lH a=0
 ·have nH:∀ W,aK W D H->aj (HF D) W0 W->Calls ay 53 (#[ah (H.nf a:Int)]++#[ak w.heap.size]) W fun e w'=>e = .returned (ah 0)/\(aK w' D H/\aj (HF D) w w'/\w'.cell? ⟨w.heap.size,0,none⟩=some (ah (H.nf a:Int))):=fun W hW hk=>by
   have hbW:=hk.aC hb0 hnew
   have hlt:=hbW.lt
   have c0:=hbW.cell 0 rfl
   have f0:=hbW.free 0
   have hR:aK (W.setCell ⟨w.heap.size,0,none⟩ (ah (H.nf a:Int))) D H:=hW.aH ((aj.refl (only w.heap.size) W).put 0 _) (fun i hi e=>hnew ⟨i,hi,e.symm⟩) (fun e=>by
    have h9:=h.lW.lt.1;unfold only at e;rw [e] at h9;exact abP _ h9) (fun e=>by
    have h9:=h.lW.lt.2;unfold only at e;rw [e] at h9;exact abP _ h9) (fun e=>by
    have h9:=h.sizes.lt;unfold only at e;rw [e] at h9;exact abP _ h9)
   have hK:aj (HF D) w (W.setCell ⟨w.heap.size,0,none⟩ (ah (H.nf a:Int))):=(hk0.gW.trans hk).dS (abg _) 0 _
   have hb2:=(hbW.set 0 (ah (H.nf a:Int))).cell 0 (v := ah (H.nf a:Int)) rfl
   have HR:Hid (aK (W.setCell ⟨w.heap.size,0,none⟩ (ah (H.nf a:Int))) D H/\aj (HF D) w (W.setCell ⟨w.heap.size,0,none⟩ (ah (H.nf a:Int)))/\(W.setCell ⟨w.heap.size,0,none⟩ (ah (H.nf a:Int))).cell? ⟨w.heap.size,0,none⟩=some (ah (H.nf a:Int))):=⟨hR,hK,hb2⟩
   generalize H.nf a=n at *
   generalize w.heap.size=O at *
   clear h h0 hk0 hb0 hD hnew hmf he hW hk hbW hlt hR hK hb2 hW0
   show Calls ay 53 #[ah (n:Int),ak O] W _
   go_enter func53,ntmps53
   go_wp2_with fail
   go_ret
   exact ⟨rfl,HR.out⟩
  have HO:=au (wu h0 a 53 (fun args w=>by simp [callFunc,func53,go_sem];rfl) #[ak w.heap.size] 0 _ he nH)
  rw [aV he]
  generalize H.nf a=n at *
  clear h h0 hk0 hb0 hD hnew he nH
  go_enter func25,ntmps25
  go_wp2_with fail
  rw [<- hW0]
  clear hW0
  refine HO.out.mono ?_
  rintro e w1 ⟨rfl,h1,k1,c1⟩
  have sW:=au h1
  have aZ:=au k1
  clear h1 k1
  go_wp2_with fail
  go_ret2
  exact ⟨rfl,sW.out,aZ.out⟩
 ·have HO:=au (xG h0 a (.func (.func 53) #[] #[ak w.heap.size]) he)
  rw [aO he]
  have HB0:=au hb0
  have G6:=au hnew
  have jZ:=au hk0
  generalize H.lH a=n at *
  clear h h0 hk0 hb0 hD hnew he
  go_enter func25,ntmps25
  go_wp2_with fail
  rw [<- hW0]
  clear hW0
  refine HO.out.mono ?_
  rintro e w1 ⟨rfl,h1,k1⟩
  have sW:=au h1
  have aZ:=au k1
  have c1:=(k1.aC HB0.out G6.out).cell 0 rfl
  clear h1 k1
  go_wp2_with fail
  go_ret2
  exact ⟨rfl,sW.out,jZ.out.gW.trans aZ.out⟩
end
section
variable {w w':World} {D:Nat->Nat} {H:HS}
theorem aK.UJ (h:aK w D H) (i:Nat) (hi:i<13):D i<w.heap.size:=by
 obtain ⟨In,hl,_⟩:=h.lists
 obtain ⟨aJ,hs1⟩:=hl.set.aC
 obtain ⟨cur,hs2,_⟩:=hl.set.kL
 obtain ⟨W1,hbn,_⟩:=h.jh
 obtain ⟨W2,hco,_⟩:=h.uH
 obtain ⟨cap1,hb1⟩:=hbn.aC
 obtain ⟨cur1,hb2,_⟩:=hbn.kL
 obtain ⟨cap2,hc1⟩:=hco.aC
 obtain ⟨cur2,hc2,_⟩:=hco.kL
 obtain ⟨ld,st,ha⟩:=h.jc.aC
 match i,hi with
 | 0,_=>exact h.aC.lt
 | 1,_=>exact ha.lt
 | 2,_=>exact h.jc.kL.lt
 | 3,_=>exact h.fV.aC.lt
 | 4,_=>exact h.fV.gQ.lt
 | 5,_=>exact hl.lt
 | 6,_=>exact hs1.lt
 | 7,_=>exact hs2.lt
 | 8,_=>exact hb1.lt
 | 9,_=>exact hb2.lt
 | 10,_=>exact hc1.lt
 | 11,_=>exact hc2.lt
 | 12,_=>exact h.pI.lt
theorem aK.tK (h:aK w D H) {b:Nat} (hb:w.heap.size<=b):¬ HF D b:=by
 rintro ⟨i,hi,e⟩
 have:=h.UJ i hi
 omega
theorem aK.UK (h:aK w D H):2<w.heap.size/\3<w.heap.size/\1<w.heap.size :=
 ⟨h.lW.lt.1,h.lW.lt.2,h.sizes.lt⟩
theorem aK.Xb {w0:World} (h0:aK w0 D H) (h:aK w D H) {b:Nat} (hb:w0.heap.size<=b) (v:Value):aK (w.setCell ⟨b,0,none⟩ v) D H:=by
 have g:=h0.UK
 refine h.aH ((aj.refl (only b) w).put 0 v) (fun i hi e=>?_) (fun e=>?_) (fun e=>?_) (fun e=>?_)
 ·have:=h0.UJ i hi;unfold only at e;omega
 ·unfold only at e;omega
 ·unfold only at e;omega
 ·unfold only at e;omega
theorem Nq (h:aK w D H) (x:Nat) (h1:1<=x) (h2:x<=H.b*H.ww):Calls ay 55 #[ak (D 1),ah (x:Int)] w fun e w'=>e = .returned (.tuple #[.int .u64 (H.dV x:Int),ah 0])/\aK w' D H/\aj (only (D 1)) w w':=by
 have hal:=h.dQ.lU
 have h9:=AZ h.jc (x - 1) (by omega)
 rw [show ((x - 1:Nat):Int)+1=(x:Int) by omega] at h9
 refine h9.mono ?_
 rintro e w' ⟨rfl,g2,g3⟩
 refine ⟨?_,h.wR g3 g2,g3⟩
 unfold HS.dV pY
 rw [aV h1]
theorem Nr (n:Nat) (f:Int) (bf bh ba bw:Nat) (w:World) (hf:f<0\/(n:Int)<=f) (hb:aB w bf [ah f] 3) :
 Calls ay 54 #[ah (n:Int),ak bf,ak bh,ak ba,ak bw] w fun e w'=>e = .returned (ah 7)/\w=w':=by
 have c0:=hb.cell 0 rfl
 by_cases h0:f<0
 ·have d0:decide (f<0)=true:=cZ h0
  clear hf hb h0
  go_enter func54,ntmps54
  go_wp2_with fail
  go_ret
  exact ⟨rfl,rfl⟩
 ·have d0:decide (f<0)=false:=dD h0
  have d1:decide ((n:Int)<=f)=true:=cZ (by omega)
  clear hf hb h0
  go_enter func54,ntmps54
  go_wp2_with fail
  go_ret
  exact ⟨rfl,rfl⟩
theorem JL (h:aK w D H) (n f a bf bh ba bw:Nat) (hf:f<n) (ha:1<=a+1+f) (hx:a+1+f<=H.b*H.ww) (hb1:aB w bf [ah (f:Int)] 3) (hb2:aB w bh [ak (D 0)] 48) (hb3:aB w ba [ah (a:Int)] 3) (hb4:aB w bw [.int .u64 0] 118) (hnw:¬ only (D 1) bw) (hn2:¬ only (D 1) bh/\¬ only (D 1) ba/\¬ only (D 1) bf) :
 Calls ay 54 #[ah (n:Int),ak bf,ak bh,ak ba,ak bw] w fun e w'=>e = .returned (ah 0)/\∃ w1,aj (only (D 1)) w w1/\aK w1 D H/\w'=w1.setCell ⟨bw,0,none⟩ (.int .u64 (H.dV (a+1+f):Int)):=by
 have Ns:=h.dQ.sV
 have c1:=hb1.cell 0 rfl
 have c2:=hb2.cell 0 rfl
 have c3:=hb3.cell 0 rfl
 have c4:=hb4.cell 0 rfl
 have f4:=hb4.free 0
 have y0:=h.aC.cell 0 rfl
 have d0:decide ((f:Int)<0)=false:=dD (by omega)
 have d1:decide (n<=f)=false:=dD (by omega)
 have HL:=au (Nq (h.still (k:=(aj.refl aA w).drew)) (a+1+f) ha hx)
 have e1:IntKind.i64.wrap ((a:Int)+1)=(a:Int)+1:=abD _ (by omega)
 have e2:IntKind.i64.wrap ((a:Int)+1+(f:Int))=((a+1+f:Nat):Int):=by rw [abD _ (by omega)];omega
 obtain ⟨pp,hpp⟩:∃ pp:Int,pp=((a+1+f:Nat):Int):=⟨_,rfl⟩
 rw [<- hpp] at e2 HL
 generalize H.dV (a+1+f)=x at *
 have HH:=au h
 have HB4:=au hb4
 have G6:=au hnw
 have G7:=au hn2
 have CO:Hid (¬ only bw bh/\¬ only bw (D 0)/\¬ only bw ba/\¬ only bw bf):=by
  refine ⟨fun e=>?_,fun e=>?_,fun e=>?_,fun e=>?_⟩
  all_goals unfold only at e
  ·rw [e] at hb2;exact absurd (hb2.gK hb4).2 (by decide)
  ·have h9:=h.aC;rw [e] at h9;exact absurd (h9.gK hb4).2 (by decide)
  ·rw [e] at hb3;exact absurd (hb3.gK hb4).2 (by decide)
  ·rw [e] at hb1;exact absurd (hb1.gK hb4).2 (by decide)
 have hge:(0:Int)<=(a:Int)+1:=by omega
 clear h hb1 hb2 hb3 hb4 hf ha hx hnw hn2 hpp Ns
 go_enter func54,ntmps54
 go_wp2_with fail
 go_region_held3 (fun w'=>w'.cell? ⟨bh,0,none⟩=some (ak (D 0))/\w'.cell? ⟨D 0,0,none⟩=some (ak (D 1))/\w'.cell? ⟨ba,0,none⟩=some (ah (a:Int))/\w'.cell? ⟨bf,0,none⟩=some (ah (f:Int)))
  (first | exact ⟨c2, y0, c3, c1⟩ | exact mQ.out | exact HS2.out _ | fail "oO")
  ((go_at_call 55
    refine HL.out.mono ?_
    rintro e w1 ⟨rfl,h1,k1⟩
    have mQ:Hid (w1.cell? ⟨bh,0,none⟩=some (ak (D 0))/\w1.cell? ⟨D 0,0,none⟩=some (ak (D 1))/\w1.cell? ⟨ba,0,none⟩=some (ah (a:Int))/\w1.cell? ⟨bf,0,none⟩=some (ah (f:Int))):=⟨k1.jV c2 G7.out.1,h1.aC.cell 0 rfl,k1.jV c3 G7.out.2.1,k1.jV c1 G7.out.2.2⟩
    have HS2:Hid (∀ v,(w1.setCell ⟨bw,0,none⟩ v).cell? ⟨bh,0,none⟩=some (ak (D 0))/\(w1.setCell ⟨bw,0,none⟩ v).cell? ⟨D 0,0,none⟩=some (ak (D 1))/\(w1.setCell ⟨bw,0,none⟩ v).cell? ⟨ba,0,none⟩=some (ah (a:Int))/\(w1.setCell ⟨bw,0,none⟩ v).cell? ⟨bf,0,none⟩=some (ah (f:Int))):=fun v=>by
     have kk:=(aj.refl (only bw) w1).put 0 v
     exact ⟨kk.jV mQ.out.1 CO.out.1,kk.jV mQ.out.2.1 CO.out.2.1,kk.jV mQ.out.2.2.1 CO.out.2.2.1,kk.jV mQ.out.2.2.2 CO.out.2.2.2⟩
    have sW:=au h1
    have aZ:=au ((aj.refl _ w).drew.trans k1)
    have c41:=(((aj.refl _ w).drew.trans k1).aC HB4.out G6.out).cell 0 rfl
    have f41:=(((aj.refl _ w).drew.trans k1).aC HB4.out G6.out).free 0
    clear h1 k1))
 go_wp2_with fail
 go_ret
 exact ⟨rfl,w1,aZ.out,sW.out,rfl⟩
theorem yU (h:aK w D H) (a:Nat) (f:Int):Calls ay 26 #[ak (D 0),ah (a:Int),ah f] w fun e w'=>e = .returned (.tuple #[ah (H.iE a f:Int),ah (H.jm a f:Int)])/\aK w' D H/\aj (HF D) w w':=by
 obtain ⟨W0,hW0⟩:∃ W',W'=(((w.alloc (.cells #[ak (D 0)] 48)).alloc (.cells #[ah (a:Int)] 3)).alloc (.cells #[ah f] 3)).alloc (.cells #[.int .u64 0] 118):=⟨_,rfl⟩
 have hk0:aj aA w W0:=by rw [hW0];exact ((((aj.refl _ _).alloc _).alloc _).alloc _).alloc _
 have hb1:aB W0 w.heap.size [ak (D 0)] 48:=by rw [hW0];exact (((aB.aW w _ _).alloc _).alloc _).alloc _
 have hb2:aB W0 (w.heap.size+1) [ah (a:Int)] 3:=by
  rw [hW0]
  have h:=aB.aW (w.alloc (.cells #[ak (D 0)] 48)) [ah (a:Int)] 3
  rw [abw] at h
  exact (h.alloc _).alloc _
 have hb3:aB W0 (w.heap.size+1+1) [ah f] 3:=by
  rw [hW0]
  have h:=aB.aW ((w.alloc (.cells #[ak (D 0)] 48)).alloc (.cells #[ah (a:Int)] 3)) [ah f] 3
  rw [abw,abw] at h
  exact h.alloc _
 have hb4:aB W0 (w.heap.size+1+1+1) [.int .u64 0] 118:=by
  rw [hW0]
  have h:=aB.aW (((w.alloc (.cells #[ak (D 0)] 48)).alloc (.cells #[ah (a:Int)] 3)).alloc (.cells #[ah f] 3)) [.int .u64 0] 118
  rw [abw,abw,abw] at h
  exact h
 have h0:=h.still hk0
 have n1:=h.tK (b:=w.heap.size) (abg _)
 have n2:=h.tK (b:=w.heap.size+1) (by omega)
 have n3:=h.tK (b:=w.heap.size+1+1) (by omega)
 have n4:=h.tK (b:=w.heap.size+1+1+1) (by omega)
 have hmf:∀ (fn:Fn) (first aJ:Array Value) (w:World),(Instr.makeFunc fn first aJ).run ay w = .ok (.func fn first aJ) w:=fun _ _ _ _=>rfl
 have key:Hid (Calls ay 52 #[ak (D 0),ah (a:Int),.func (.func 54) #[] #[ak (w.heap.size+1+1),ak w.heap.size,ak (w.heap.size+1),ak (w.heap.size+1+1+1)]] W0 fun e w'=>e = .returned (ah (H.jm a f:Int))/\(aK w' D H/\aj (HF D) w w'/\w'.cell? ⟨w.heap.size+1+1+1,0,none⟩=some (.int .u64 (H.iE a f:Int)))):=by
  by_cases he:H.lH a=0
  ·refine wu h0 a 54 (fun args w=>by simp [callFunc,func54,go_sem];rfl) _ _ _ he (fun W hW hk=>?_)
   have g1:=hk.aC hb1 n1
   have g2:=hk.aC hb2 n2
   have g3:=hk.aC hb3 n3
   have g4:=hk.aC hb4 n4
   by_cases hf:f<0\/(H.nf a:Int)<=f
   ·have hE:H.jm a f=7:=by unfold HS.jm;rw [aV he,aV hf]
    have hP:H.iE a f=0:=by unfold HS.iE;rw [hE];rfl
    rw [hE,hP]
    refine (Nr (H.nf a) f _ _ _ _ W hf g3).mono ?_
    rintro e w' ⟨rfl,rfl⟩
    exact ⟨rfl,hW,hk0.gW.trans hk,g4.cell 0 rfl⟩
   ·obtain ⟨j,rfl⟩:∃ j:Nat,f=(j:Int):=⟨f.toNat,by omega⟩
    have hE:H.jm a (j:Int)=0:=by unfold HS.jm;rw [aV he,aO hf]
    have hP:H.iE a (j:Int)=H.dV (a+1+j):=by unfold HS.iE;rw [hE,aV rfl,abB]
    rw [hE,hP]
    have hfl:=h.dQ.field (zS he).2 (f:=j) (by omega)
    refine (JL hW (H.nf a) j a _ _ _ _ (by omega) (by omega) hfl.2.1 g3 g1 g2 g4 (fun e=>n4 ⟨1,by decide,e⟩) ⟨fun e=>n1 ⟨1,by decide,e⟩,fun e=>n2 ⟨1,by decide,e⟩,fun e=>n3 ⟨1,by decide,e⟩⟩).mono ?_
    rintro e w' ⟨rfl,w1,k1,hh1,rfl⟩
    have k1':aj (HF D) w w1:=(hk0.gW.trans hk).trans ((k1.sel1 (D:=D) (i:=1) (I:=[1]) rfl).hf rfl)
    have g41:=k1.aC g4 (fun e=>n4 ⟨1,by decide,e⟩)
    exact ⟨rfl,h.Xb hh1 (by omega) _,k1'.dS (by omega) 0 _,(g41.set 0 _).cell 0 rfl⟩
  ·have hE:H.jm a f=H.lH a:=by unfold HS.jm;rw [aO he]
   have hP:H.iE a f=0:=by unfold HS.iE;rw [hE,aO he]
   rw [hE,hP]
   refine (xG h0 a _ he).mono ?_
   rintro e w' ⟨rfl,g1,g2⟩
   exact ⟨rfl,g1,hk0.gW.trans g2,(g2.aC hb4 n4).cell 0 rfl⟩
 have hlt:H.iE a f<kU:=by
  unfold HS.iE
  split
  ·exact h.dQ.Zp _
  ·decide
 have oz:(H.iE a f:Int)<216172782113783808:=by unfold kU at hlt;omega
 have HWR:Hid (wrap64 (H.iE a f:Int)=(H.iE a f:Int)):=IntWalk.wrap64_in _ (by omega)
 generalize H.iE a f=x at *
 generalize H.jm a f=er at *
 clear h h0 hk0 hb1 hb2 hb3 hb4 n1 n2 n3 n4 hlt
 go_enter func26,ntmps26
 go_wp2_with fail
 rw [<- hW0]
 clear hW0
 refine key.out.mono ?_
 rintro e w1 ⟨rfl,h1,k1,c1⟩
 have sW:=au h1
 have aZ:=au k1
 clear h1 k1 key
 go_wp2_with fail
 go_ret2
 exact ⟨by first|rfl|rw [HWR.out],sW.out,aZ.out⟩
end
section
variable {w w':World} {D:Nat->Nat} {H:HS}
theorem JM (n:Nat) (f:Int) (bf bh bv ba:Nat) (w:World) (hf:f<0\/(n:Int)<=f) (hb:aB w bf [ah f] 3) :
 Calls ay 197 #[ah (n:Int),ak bf,ak bh,ak bv,ak ba] w fun e w'=>e = .returned (ah 7)/\w=w':=by
 have c0:=hb.cell 0 rfl
 by_cases h0:f<0
 ·have d0:decide (f<0)=true:=cZ h0
  clear hf hb h0
  go_enter func197,ntmps197
  go_wp2_with fail
  go_ret
  exact ⟨rfl,rfl⟩
 ·have d0:decide (f<0)=false:=dD h0
  have d1:decide ((n:Int)<=f)=true:=cZ (by omega)
  clear hf hb h0
  go_enter func197,ntmps197
  go_wp2_with fail
  go_ret
  exact ⟨rfl,rfl⟩
theorem FU (h:aK w D H) (n f v bf bh bv ba:Nat) (hf:f<n) (hv:¬ v<=H.n) (hb1:aB w bf [ah (f:Int)] 3) (hb2:aB w bh [ak (D 0)] 48) (hb3:aB w bv [ah (v:Int)] 3) :
 Calls ay 197 #[ah (n:Int),ak bf,ak bh,ak bv,ak ba] w fun e w'=>e = .returned (ah 4)/\w=w':=by
 have c1:=hb1.cell 0 rfl
 have c2:=hb2.cell 0 rfl
 have c3:=hb3.cell 0 rfl
 have d0:decide ((f:Int)<0)=false:=dD (by omega)
 have d1:decide (n<=f)=false:=dD (by omega)
 have HV:=au (xE h v)
 rw [dD hv] at HV
 clear h hb1 hb2 hb3 hf hv
 go_enter func197,ntmps197
 go_wp2_with (go_at_call 198;refine HV.out.mono ?_;rintro e w1 ⟨rfl,rfl⟩)
 go_ret
 exact ⟨rfl,rfl⟩
theorem G8 (h:aK w D H) (n f a v bf bh bv ba:Nat) (hf:f<n) (hv:v<=H.n) (ha:1<=a+1+f) (hx:a+1+f<=H.b*H.ww) (hi:dB (H.jC (a+1+f) v)) (hb1:aB w bf [ah (f:Int)] 3) (hb2:aB w bh [ak (D 0)] 48) (hb3:aB w bv [ah (v:Int)] 3) (hb4:aB w ba [ah (a:Int)] 3) :
 Calls ay 197 #[ah (n:Int),ak bf,ak bh,ak bv,ak ba] w fun e w'=>e = .returned (ah 0)/\aK w' D (H.jC (a+1+f) v)/\aj (HF D) w w':=by
 have Ns:=h.dQ.sV
 have hvn:v<=1048576:=by unfold HS.n at hv;omega
 have c1:=hb1.cell 0 rfl
 have c2:=hb2.cell 0 rfl
 have c3:=hb3.cell 0 rfl
 have c4:=hb4.cell 0 rfl
 have y0:=h.aC.cell 0 rfl
 have d0:decide ((f:Int)<0)=false:=dD (by omega)
 have d1:decide (n<=f)=false:=dD (by omega)
 have HV:=au (xE h v)
 rw [cZ hv] at HV
 have HL:=au (Ah (h.still (k:=(aj.refl aA w).drew)) (a+1+f) v ha hx (by unfold kU;omega) hi)
 have e1:IntKind.i64.wrap ((a:Int)+1)=(a:Int)+1:=abD _ (by omega)
 have e2:IntKind.i64.wrap ((a:Int)+1+(f:Int))=((a+1+f:Nat):Int):=by rw [abD _ (by omega)];omega
 have HEU:Hid (IntKind.u64.wrap (v:Int)=(v:Int)):=IntWalk.u64_in _ (by omega)
 obtain ⟨pp,hpp⟩:∃ pp:Int,pp=((a+1+f:Nat):Int):=⟨_,rfl⟩
 rw [<- hpp] at e2 HL
 generalize H.jC (a+1+f) v=H2 at *
 have hge:(0:Int)<=(a:Int)+1:=by omega
 clear h hb1 hb2 hb3 hb4 hf ha hx hpp Ns hi hv hvn
 go_enter func197,ntmps197
 go_wp2_with (go_at_call 198;refine HV.out.mono ?_;rintro e w1 ⟨rfl,rfl⟩)
 refine aN 10 rfl (by kernel_rfl) (by kernel_rfl) (fun K hK=>?_)
 change wpStill _ _ (World.drew _) _ _ _
 simp only [List.take_succ_cons,List.take_zero,List.drop_succ_cons,List.drop_zero] at hK ⊢
 repeat still_step
 refine wpStill_nil ?_
 change ite _ (Oper.wp _ _ _ w.drew _ _) _
 go_simp
 rw [HEU.out]
 refine HL.out.mono ?_
 rintro e w1 ⟨rfl,h1,k1⟩
 refine hK _ _ ?_
 clear hK K
 have sW:=au h1
 have aZ:=au ((aj.refl (HF D) w).drew.trans k1)
 clear h1 k1 c1 c2 c3 c4 y0
 repeat still_step
 refine wpStill_nil ?_
 go_wp2_with fail
 go_ret
 exact ⟨rfl,sW.out,aZ.out⟩
theorem CP (h:aK w D H) (a:Nat) (f:Int) (v:Nat):Calls ay 173 #[ak (D 0),ah (a:Int),ah f,ah (v:Int)] w fun e w'=>e = .returned (ah (H.lV a f v:Int))/\aK w' D (H.dX a f v)/\aj (HF D) w w':=by
 obtain ⟨W0,hW0⟩:∃ W',W'=(((w.alloc (.cells #[ak (D 0)] 48)).alloc (.cells #[ah (a:Int)] 3)).alloc (.cells #[ah f] 3)).alloc (.cells #[ah (v:Int)] 3):=⟨_,rfl⟩
 have hk0:aj aA w W0:=by rw [hW0];exact ((((aj.refl _ _).alloc _).alloc _).alloc _).alloc _
 have hb1:aB W0 w.heap.size [ak (D 0)] 48:=by rw [hW0];exact (((aB.aW w _ _).alloc _).alloc _).alloc _
 have hb2:aB W0 (w.heap.size+1) [ah (a:Int)] 3:=by
  rw [hW0]
  have h:=aB.aW (w.alloc (.cells #[ak (D 0)] 48)) [ah (a:Int)] 3
  rw [abw] at h
  exact (h.alloc _).alloc _
 have hb3:aB W0 (w.heap.size+1+1) [ah f] 3:=by
  rw [hW0]
  have h:=aB.aW ((w.alloc (.cells #[ak (D 0)] 48)).alloc (.cells #[ah (a:Int)] 3)) [ah f] 3
  rw [abw,abw] at h
  exact h.alloc _
 have hb4:aB W0 (w.heap.size+1+1+1) [ah (v:Int)] 3:=by
  rw [hW0]
  have h:=aB.aW (((w.alloc (.cells #[ak (D 0)] 48)).alloc (.cells #[ah (a:Int)] 3)).alloc (.cells #[ah f] 3)) [ah (v:Int)] 3
  rw [abw,abw,abw] at h
  exact h
 have h0:=h.still hk0
 have n1:=h.tK (b:=w.heap.size) (abg _)
 have n2:=h.tK (b:=w.heap.size+1) (by omega)
 have n3:=h.tK (b:=w.heap.size+1+1) (by omega)
 have n4:=h.tK (b:=w.heap.size+1+1+1) (by omega)
 have hmf:∀ (fn:Fn) (first aJ:Array Value) (w:World),(Instr.makeFunc fn first aJ).run ay w = .ok (.func fn first aJ) w:=fun _ _ _ _=>rfl
 have key:Hid (Calls ay 52 #[ak (D 0),ah (a:Int),.func (.func 197) #[] #[ak (w.heap.size+1+1),ak w.heap.size,ak (w.heap.size+1+1+1),ak (w.heap.size+1)]] W0 fun e w'=>e = .returned (ah (H.lV a f v:Int))/\(aK w' D (H.dX a f v)/\aj (HF D) w w')):=by
  by_cases he:H.lH a=0
  ·refine wu h0 a 197 (fun args w=>by simp [callFunc,func197,go_sem];rfl) _ _ _ he (fun W hW hk=>?_)
   have g1:=hk.aC hb1 n1
   have g2:=hk.aC hb2 n2
   have g3:=hk.aC hb3 n3
   have g4:=hk.aC hb4 n4
   by_cases hf:f<0\/(H.nf a:Int)<=f
   ·have hE:H.lV a f v=7:=by unfold HS.lV HS.jm;rw [aV he,aV hf];rfl
    have hP:H.dX a f v=H:=by unfold HS.dX;rw [hE];rfl
    rw [hE,hP]
    refine (JM (H.nf a) f _ _ _ _ W hf g3).mono ?_
    rintro e w' ⟨rfl,rfl⟩
    exact ⟨rfl,hW,hk0.gW.trans hk⟩
   ·obtain ⟨j,rfl⟩:∃ j:Nat,f=(j:Int):=⟨f.toNat,by omega⟩
    have hE0:H.jm a (j:Int)=0:=by unfold HS.jm;rw [aV he,aO hf]
    have hfl:=h.dQ.field (zS he).2 (f:=j) (by omega)
    by_cases hv:v<=H.n
    ·have hE:H.lV a (j:Int) v=0:=by unfold HS.lV;rw [hE0,aV rfl,aV hv]
     have hP:H.dX a (j:Int) v=H.jC (a+1+j) v:=by unfold HS.dX;rw [hE,aV rfl,abB]
     rw [hE,hP]
     have hvn:v<=1048576:=by have:=h.dQ.sV;unfold HS.n at hv;omega
     refine (G8 hW (H.nf a) j a v _ _ _ _ (by omega) hv (by omega) hfl.2.1 (h.dQ.jC (by omega) hfl.2.1 hfl.1 hfl.2.2.2 (by unfold kU;omega)) g3 g1 g4 g2).mono ?_
     rintro e w' ⟨rfl,hh1,k1⟩
     exact ⟨rfl,hh1,(hk0.gW.trans hk).trans k1⟩
    ·have hE:H.lV a (j:Int) v=4:=by unfold HS.lV;rw [hE0,aV rfl,aO hv]
     have hP:H.dX a (j:Int) v=H:=by unfold HS.dX;rw [hE];rfl
     rw [hE,hP]
     refine (FU hW (H.nf a) j v _ _ _ _ (by omega) hv g3 g1 g4).mono ?_
     rintro e w' ⟨rfl,rfl⟩
     exact ⟨rfl,hW,hk0.gW.trans hk⟩
  ·have hE:H.lV a f v=H.lH a:=by unfold HS.lV HS.jm;rw [aO he,aO he]
   have hP:H.dX a f v=H:=by unfold HS.dX;rw [hE,aO he]
   rw [hE,hP]
   refine (xG h0 a _ he).mono ?_
   rintro e w' ⟨rfl,g1,g2⟩
   exact ⟨rfl,g1,hk0.gW.trans g2⟩
 generalize H.dX a f v=H2 at *
 generalize H.lV a f v=er at *
 clear h h0 hk0 hb1 hb2 hb3 hb4 n1 n2 n3 n4
 go_enter func173,ntmps173
 go_wp2_with fail
 rw [<- hW0]
 clear hW0
 refine key.out.mono ?_
 rintro e w1 ⟨rfl,h1,k1⟩
 have sW:=au h1
 have aZ:=au k1
 clear h1 k1 key
 go_wp2_with fail
 go_ret
 exact ⟨rfl,sW.out,aZ.out⟩
end
end
end Go.Proofs.YtobfpmijbfgmeabGreatDoor
