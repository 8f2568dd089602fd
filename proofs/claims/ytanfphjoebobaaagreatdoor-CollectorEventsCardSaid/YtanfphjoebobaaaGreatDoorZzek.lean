/- Parts of the walk. No conditions. -/
import Derived.Test.YtanfphjoebobaaaGreatDoorZzej
namespace Go.Proofs.YtanfphjoebobaaaGreatDoor
open _root_.Go.Proofs.Tryz hiding prog
open _root_.Go.Proofs.Tryz renaming prog->ay
set_option maxRecDepth 100000
set_option maxHeartbeats 4000000
section
attribute [local go_sem] Oper.semAt_some
open Go.RowKit
section
variable {w w':World} {D:Nat->Nat} {H:HS}
theorem Fv {a:Nat} (hh:H.hand a=true):∃ B k,H.owner a=some (B,k)/\H.bn a=false/\H.inn a=false/\H.cls a=k:=by
 unfold HS.hand at hh
 simp only [Bool.and_eq_true,Bool.not_eq_true'] at hh
 obtain ⟨⟨h1,h2⟩,h3⟩:=hh
 obtain ⟨⟨B,k⟩,ho⟩:=Option.isSome_iff_exists.1 h1
 exact ⟨B,k,ho,h2,h3,by unfold HS.cls;rw [ho]⟩
theorem Dw (h:aF w D H) (x v:Nat) (h1:1<=x) (h2:x<=H.b*H.ww) (hv:v<mG) (hi:bZ (H.lay x v)):Calls ay 119 #[aj (D 1),ah (x:Int),.int .u64 (v:Int)] w fun e w'=>e = .returned (ah 0)/\aF w' D (H.lay x v)/\Keep (HF D) w w':=by
 have hal:=h.inv.nI
 have hx:((x - 1:Nat):Int)+1=(x:Int):=by omega
 have h9:=Iz h.arena (x - 1) (by omega) v (by unfold mG at hv;omega)
 rw [hx] at h9
 refine h9.mono ?_
 rintro e w' ⟨rfl,g1,g2⟩
 have hk:Keep (sel D [1,2]) w w':=g2.mono (fun y _ hy=>by
  rcases hy with e|e
  ·exact ⟨1,by simp,e⟩
  ·exact ⟨2,by simp,e⟩)
 exact ⟨rfl,h.Lu (A:=H.A.set (x - 1) v) hk g1 hi,hk.hf rfl⟩
theorem Ro (h:aF w D H) (a f:Nat) (hf:f<=15):Calls ay 115 #[aj (D 0),ah (a:Int),ah (f:Int)] w fun e w'=>(∃ er:Int,e = .returned (ah er))/\aF w' D (H.iy a (f:Int))/\Keep (HF D) w w':=by
 have HA:=au (xI h a)
 have HH:=au h
 have hY:∀ W,Keep none_ w W->W.cell? ⟨D 0,0,none⟩=some (aj (D 1)):=fun W hW=>(h.still hW).blk.cell 0 rfl
 have HY:=au hY
 cases hh:H.hand a with
 | false =>
   have HE:Hid (H.iy a (f:Int)=H):=by
    unfold Hid HS.iy
    split
    ·rfl
    ·rw [hh];rfl
   rw [HE.out]
   rw [hh] at HA
   generalize H.cls a=k at *
   clear h hh HE hY
   go_enter func115,ntmps115
   go_wp2_with (go_at_call 105;refine HA.out.mono ?_;rintro e w1 ⟨rfl,k1⟩;have HK:=au k1;clear k1)
   go_ret
   exact ⟨⟨_,rfl⟩,HH.out.still HK.out,HK.out.gI⟩
 | true =>
   obtain ⟨B,k,ho,hb,hi,hc⟩:=Fv hh
   have hk:=h.inv.cls ho
   rw [hh,hc] at HA
   have HO:Hid (∀ W,Keep none_ w W->Calls ay 162 #[ah (k:Int),ah (f:Int)] W fun e w'=>e = .returned (.tuple #[.int .u64 ((if jh k f then iQ k f else 0:Nat):Int),.bool (decide (jh k f))])/\W=w'):=fun W hW=>wz k f (by omega) (by omega) W (h.sizes.keep hW)
   by_cases hok:jh k f
   ·have HE:Hid (H.iy a (f:Int)=H.begin a k f):=by
     unfold Hid HS.iy
     rw [ho]
     simp only [Int.toNat_natCast]
     rw [hh,decide_eq_true hok,decide_eq_true (Int.natCast_nonneg f)]
     rfl
    rw [HE.out]
    rw [if_pos hok,decide_eq_true hok] at HO
    obtain ⟨o1,o2,_⟩:=dV ho
    have hox:=(pX hok).2.2.1
    have HST:Hid (∀ W,Keep none_ w W->Calls ay 119 #[aj (D 1),ah (a:Int),.int .u64 (iQ k f:Int)] W fun e w'=>e = .returned (ah 0)/\aF w' D (H.begin a k f)/\Keep (HF D) W w'):=fun W hW =>
     Dw (h.still hW) a (iQ k f) o1 o2 (by unfold mG;omega) (h.inv.begin ho hb hi hok)
    generalize H.begin a k f=H2 at *
    generalize iQ k f=ow at *
    clear h hh HE hY ho hok hb hi hc hox o1 o2
    go_enter func115,ntmps115
    go_wp2_with (go_at_call 105;refine HA.out.mono ?_;rintro e w1 ⟨rfl,k1⟩;have HK:=au k1;have z0:=HY.out _ k1;clear k1)
    have nV:=au (HO.out _ HK.out)
    have adn:=au (HST.out _ HK.out)
    go_wp2_with (first|(go_at_call 162;refine nV.out.mono ?_;rintro e w2 ⟨rfl,rfl⟩)|(go_at_call 119;refine adn.out.mono ?_;rintro e w2 ⟨rfl,h2,k2⟩;have sK:=au h2;have bJ:=au k2;clear h2 k2))
    go_ret
    exact ⟨⟨_,rfl⟩,sK.out,HK.out.gI.trans bJ.out⟩
   ·have HE:Hid (H.iy a (f:Int)=H):=by
     unfold Hid HS.iy
     rw [ho]
     simp only [Int.toNat_natCast]
     rw [decide_eq_false hok]
     simp
    rw [HE.out]
    rw [if_neg hok,decide_eq_false hok] at HO
    clear h hh HE ho hok hb hi hc
    go_enter func115,ntmps115
    go_wp2_with (go_at_call 105;refine HA.out.mono ?_;rintro e w1 ⟨rfl,k1⟩;have HK:=au k1;clear k1)
    have nV:=au (HO.out _ HK.out)
    go_wp2_with (go_at_call 162;refine nV.out.mono ?_;rintro e w2 ⟨rfl,rfl⟩)
    go_ret
    exact ⟨⟨_,rfl⟩,HH.out.still HK.out,HK.out.gI⟩
def HS.vP (H:HS) (a c:Nat):Nat:=if H.hand a&&decide (c<2) then (if (H.hdr a).isSome then 0 else 11) else 1
theorem UO (h:aF w D H) (a c:Nat):Calls ay 116 #[aj (D 0),ah (a:Int),ah (c:Int)] w fun e w'=>e = .returned (ah (H.vP a c:Int))/\aF w' D (H.jO a c)/\Keep (HF D) w w':=by
 have HA:=au (xI h a)
 have og:Hid (∀ W,Calls ay 113 #[ah (c:Int)] W fun e w'=>e = .returned (.bool (decide (c<2)))/\W=w'):=fun W=>Fj c W
 have xG:Hid (∀ W,Keep none_ w W->Calls ay 143 #[aj (D 0),ah (a:Int)] W fun e w'=>e = .returned (.tuple #[ah (H.nf a:Int),.bool (H.hdr a).isSome])/\aF w' D H/\Keep (only (D 1)) W w'):=fun W hW=>yw (h.still hW) a
 have HH:=au h
 generalize hn:H.nf a=n at xG
 cases hh:H.hand a with
 | false =>
   have HE:Hid (H.jO a c=H/\H.vP a c=1):=by
    refine ⟨?_,?_⟩
    ·unfold HS.jO;rw [hh];rfl
    ·unfold HS.vP;rw [hh];rfl
   rw [HE.out.1,HE.out.2]
   rw [hh] at HA
   generalize H.cls a=k at *
   generalize decide (c<2)=cc at *
   clear h hh HE hn
   go_enter func116,ntmps116
   go_wp2_with (go_at_call 105;refine HA.out.mono ?_;rintro e w1 ⟨rfl,k1⟩;have HK:=au k1;clear k1)
   go_ret
   exact ⟨rfl,HH.out.still HK.out,HK.out.gI⟩
 | true =>
   obtain ⟨B,k,ho,hb,hi,hc⟩:=Fv hh
   rw [hh,hc] at HA
   by_cases hc2:c<2
   ·rw [decide_eq_true hc2] at og
    cases hm:H.hdr a with
    | none =>
      have HE:Hid (H.jO a c=H/\H.vP a c=11):=by
       refine ⟨?_,?_⟩
       ·unfold HS.jO;rw [hm];simp
       ·unfold HS.vP;rw [hh,hm,decide_eq_true hc2];rfl
      rw [HE.out.1,HE.out.2]
      rw [hm] at xG
      clear h hh HE hn ho hb hi hc hc2 hm
      go_enter func116,ntmps116
      go_wp2_with (first|(go_at_call 105;refine HA.out.mono ?_;rintro e w1 ⟨rfl,k1⟩;have HK:=au k1;have wK:=au (xG.out _ k1);clear k1)|(go_at_call 113;refine (og.out _).mono ?_;rintro e w1 ⟨rfl,rfl⟩)|(go_at_call 143;refine wK.out.mono ?_;rintro e w2 ⟨rfl,h2,k2⟩;have sK:=au h2;have bJ:=au k2;clear h2 k2))
      go_ret
      exact ⟨rfl,sK.out,HK.out.gI.trans ((bJ.out.sel1 (D:=D) (i:=1) (I:=[1]) rfl).hf rfl)⟩
    | some m =>
      have HE:Hid (H.jO a c=H.bear a (c==1)/\H.vP a c=0):=by
       refine ⟨?_,?_⟩
       ·unfold HS.jO;rw [hh,hm,decide_eq_true hc2];rfl
       ·unfold HS.vP;rw [hh,hm,decide_eq_true hc2];rfl
      rw [HE.out.1,HE.out.2]
      rw [hm] at xG
      obtain ⟨o1,o2,_⟩:=dV ho
      have ha:a<H.sz:=by unfold HS.sz;omega
      have Fq:Hid (∀ W,aF W D H->Calls ay 163 #[aj (D 8),ah (a:Int),.bool true] W fun e w'=>(∃ r,e = .returned (.bool r))/\aF w' D { H with bn:=upd H.bn a true }/\Keep (HF D) W w'):=fun W hW=>by
       refine (hW.born.put a ha true).mono ?_
       rintro e w' ⟨rfl,g1,g2⟩
       have hi2:bZ { H with bn:=upd H.bn a true }:=by
        have:=h.inv.bear (H.co a) ho hi hm
        have e2:H.bear a (H.co a)={ H with bn:=upd H.bn a true }:=by
         unfold HS.bear
         congr 1
         funext x
         unfold upd
         split
         ·rename_i e;rw [e]
         ·rfl
        rw [e2] at this;exact this
       exact ⟨⟨_,rfl⟩,hW.GX (g2.sel1 rfl) g1 hi2,(g2.sel1 (I:=[9]) rfl).hf rfl⟩
      have HP2:Hid (∀ W,aF W D { H with bn:=upd H.bn a true }->Calls ay 163 #[aj (D 10),ah (a:Int),.bool (c==1)] W fun e w'=>(∃ r,e = .returned (.bool r))/\aF w' D (H.bear a (c==1))/\Keep (HF D) W w'):=fun W hW=>by
       refine (hW.cols.put a ha (c==1)).mono ?_
       rintro e w' ⟨rfl,g1,g2⟩
       exact ⟨⟨_,rfl⟩,hW.GY (s:=upd H.co a (c==1)) (g2.sel1 rfl) g1 (h.inv.bear (c==1) ho hi hm),(g2.sel1 (I:=[11]) rfl).hf rfl⟩
      have UM:Hid (((c:Int)==1)=(c==1)):=by unfold Hid;rw [Bool.eq_iff_iff];simp;omega
      have adl:=UM.out
      generalize { H with bn:=upd H.bn a true }=H1 at *
      generalize H.bear a (c==1)=H2 at *
      generalize (c==1)=cc at *
      clear h hh HE hn ho hb hi hc hc2 hm o1 o2 ha UM
      go_enter func116,ntmps116
      go_wp2_with (first|(go_at_call 105;refine HA.out.mono ?_;rintro e w1 ⟨rfl,k1⟩;have HK:=au k1;have wK:=au (xG.out _ k1);clear k1)|(go_at_call 113;refine (og.out _).mono ?_;rintro e w1 ⟨rfl,rfl⟩)|(go_at_call 143;refine wK.out.mono ?_;rintro e w2 ⟨rfl,h2,k2⟩;have sK:=au h2;have bJ:=au k2;have z3:=h2.blk.cell 3 rfl;clear h2 k2)|fail)
      refine (Fq.out _ sK.out).mono ?_
      rintro e w3 ⟨⟨r,rfl⟩,h3,k3⟩
      have LD:=au h3
      have gy:=au k3
      have z4:=h3.blk.cell 4 rfl
      clear h3 k3 z3
      go_wp2_with fail
      refine (HP2.out _ LD.out).mono ?_
      rintro e w4 ⟨⟨r4,rfl⟩,h4,k4⟩
      have UQ:=au h4
      have mM:=au k4
      clear h4 k4 z4
      go_wp2_with fail
      go_ret
      exact ⟨rfl,UQ.out,HK.out.gI.trans (((bJ.out.sel1 (D:=D) (i:=1) (I:=[1]) rfl).hf rfl).trans (gy.out.trans mM.out))⟩
   ·have HE:Hid (H.jO a c=H/\H.vP a c=1):=by
     refine ⟨?_,?_⟩
     ·unfold HS.jO;rw [decide_eq_false hc2];simp
     ·unfold HS.vP;rw [decide_eq_false hc2];simp
    rw [HE.out.1,HE.out.2]
    rw [decide_eq_false hc2] at og
    clear h hh HE hn ho hb hi hc hc2
    go_enter func116,ntmps116
    go_wp2_with (first|(go_at_call 105;refine HA.out.mono ?_;rintro e w1 ⟨rfl,k1⟩;have HK:=au k1;clear k1)|(go_at_call 113;refine (og.out _).mono ?_;rintro e w1 ⟨rfl,rfl⟩))
    go_ret
    exact ⟨rfl,HH.out.still HK.out,HK.out.gI⟩
end
section
variable {w w':World} {D:Nat->Nat} {H:HS}
theorem GZ {a:Nat} (h:H.lq a=0):a≠0/\H.xB a=true:=by
 unfold HS.lq at h
 split at h
 ·cases h
 ·split at h
  ·rename_i h1 h2;exact ⟨h1,h2⟩
  ·cases h
theorem zy (h:aF w D H) (a:Nat) (f:Value) (he:H.lq a≠0):Calls ay 96 #[aj (D 0),ah (a:Int),f] w fun e w'=>e = .returned (ah (H.lq a:Int))/\aF w' D H/\Keep (HF D) w w':=by
 have HH:=au h
 by_cases h0:a=0
 ·subst h0
  have HE:Hid (H.lq 0=6):=rfl
  rw [HE.out]
  clear h he HE
  go_enter func96,ntmps96
  go_wp2_with fail
  go_ret
  exact ⟨rfl,HH.out,Keep.refl _ _⟩
 ·have ho:H.xB a=false:=by
   unfold HS.lq at he
   rw [if_neg h0] at he
   cases hx:H.xB a
   ·rfl
   ·rw [hx] at he;exact absurd rfl he
  have HE:Hid (H.lq a=1):=by unfold Hid HS.lq;rw [if_neg h0,ho];rfl
  rw [HE.out]
  have HA:=au (xI h a)
  have xG:Hid (∀ W,Keep none_ w W->Calls ay 143 #[aj (D 0),ah (a:Int)] W fun e w'=>e = .returned (.tuple #[ah (H.nf a:Int),.bool (H.hdr a).isSome])/\aF w' D H/\Keep (only (D 1)) W w'):=fun W hW=>yw (h.still hW) a
  have HB:Hid (∀ W,aF W D H->Calls ay 54 #[aj (D 8),ah (a:Int)] W fun e w'=>e = .returned (.bool (H.bn a))/\W=w'):=fun W hW=>hW.born.has a
  have d0:((a:Int)==0)=false:=by simp;omega
  unfold HS.xB at ho
  generalize hn:H.nf a=n at xG
  generalize H.cls a=k at *
  generalize H.bn a=x at *
  generalize H.hand a=y at *
  generalize (H.hdr a).isSome=z at *
  clear h he HE h0 hn
  cases x
  ·cases y
   ·clear ho
    cases z
    all_goals
     go_enter func96,ntmps96
     go_wp2_with (first|(go_at_call 105;refine HA.out.mono ?_;rintro e w1 ⟨rfl,k1⟩;have HK:=au k1;have wK:=au (xG.out _ k1);clear k1)|(go_at_call 143;refine wK.out.mono ?_;rintro e w2 ⟨rfl,h2,k2⟩;have sK:=au h2;have bJ:=au k2;have z3:=h2.blk.cell 3 rfl;have HB2:=au (HB.out _ h2);clear h2 k2)|(go_at_call 54;refine HB2.out.mono ?_;rintro e w3 ⟨rfl,rfl⟩))
     go_ret
     exact ⟨rfl,sK.out,HK.out.gI.trans ((bJ.out.sel1 (D:=D) (i:=1) (I:=[1]) rfl).hf rfl)⟩
   ·cases z
    ·clear ho
     go_enter func96,ntmps96
     go_wp2_with (first|(go_at_call 105;refine HA.out.mono ?_;rintro e w1 ⟨rfl,k1⟩;have HK:=au k1;have wK:=au (xG.out _ k1);clear k1)|(go_at_call 143;refine wK.out.mono ?_;rintro e w2 ⟨rfl,h2,k2⟩;have sK:=au h2;have bJ:=au k2;have z3:=h2.blk.cell 3 rfl;have HB2:=au (HB.out _ h2);clear h2 k2)|(go_at_call 54;refine HB2.out.mono ?_;rintro e w3 ⟨rfl,rfl⟩))
     go_ret
     exact ⟨rfl,sK.out,HK.out.gI.trans ((bJ.out.sel1 (D:=D) (i:=1) (I:=[1]) rfl).hf rfl)⟩
    ·cases ho
  ·cases ho
theorem yx (h:aF w D H) (a:Nat) (fn:Nat) (hf:∀ args w,(callFunc fn args).run ay w = .ok (.enter fn args) w) (caps:Array Value) (er:Int) (P:World->Prop) (he:H.lq a=0)
 (hc:∀ W,aF W D H->Keep (HF D) w W->Calls ay fn (#[ah (H.nf a:Int)]++caps) W fun e w'=>e = .returned (ah er)/\P w') :
 Calls ay 96 #[aj (D 0),ah (a:Int),.func (.func fn) #[] caps] w fun e w'=>e = .returned (ah er)/\P w':=by
 obtain ⟨h0,ho⟩:=GZ he
 have HA:=au (xI h a)
 have xG:Hid (∀ W,Keep none_ w W->Calls ay 143 #[aj (D 0),ah (a:Int)] W fun e w'=>e = .returned (.tuple #[ah (H.nf a:Int),.bool (H.hdr a).isSome])/\aF w' D H/\Keep (only (D 1)) W w'):=fun W hW=>yw (h.still hW) a
 have HB:Hid (∀ W,aF W D H->Calls ay 54 #[aj (D 8),ah (a:Int)] W fun e w'=>e = .returned (.bool (H.bn a))/\W=w'):=fun W hW=>hW.born.has a
 have d0:((a:Int)==0)=false:=by simp;omega
 have HC:=au hc
 unfold HS.xB at ho
 generalize H.nf a=n at *
 generalize H.cls a=k at *
 generalize H.bn a=x at *
 generalize H.hand a=y at *
 generalize (H.hdr a).isSome=z at *
 clear h he h0 hc
 cases x
 ·cases y
  ·cases ho
  ·cases z
   ·cases ho
   ·clear ho
    go_enter func96,ntmps96
    go_wp2_with (first|(go_at_call 105;refine HA.out.mono ?_;rintro e w1 ⟨rfl,k1⟩;have HK:=au k1;have wK:=au (xG.out _ k1);clear k1)|(go_at_call 143;refine wK.out.mono ?_;rintro e w2 ⟨rfl,h2,k2⟩;have sK:=au h2;have bJ:=au k2;have z3:=h2.blk.cell 3 rfl;have HB2:=au (HB.out _ h2);clear h2 k2)|(go_at_call 54;refine HB2.out.mono ?_;rintro e w3 ⟨rfl,rfl⟩))
    refine (HC.out _ sK.out (HK.out.gI.trans ((bJ.out.sel1 (D:=D) (i:=1) (I:=[1]) rfl).hf rfl))).mono ?_
    rintro e w4 ⟨rfl,hp⟩
    have HP:=au hp
    clear hp
    go_wp2_with fail
    go_ret
    exact ⟨rfl,HP.out⟩
 ·clear ho
  cases y<;>cases z
  all_goals
   go_enter func96,ntmps96
   go_wp2_with (first|(go_at_call 105;refine HA.out.mono ?_;rintro e w1 ⟨rfl,k1⟩;have HK:=au k1;have wK:=au (xG.out _ k1);clear k1)|(go_at_call 143;refine wK.out.mono ?_;rintro e w2 ⟨rfl,h2,k2⟩;have sK:=au h2;have bJ:=au k2;have z3:=h2.blk.cell 3 rfl;have HB2:=au (HB.out _ h2);clear h2 k2)|(go_at_call 54;refine HB2.out.mono ?_;rintro e w3 ⟨rfl,rfl⟩))
   refine (HC.out _ sK.out (HK.out.gI.trans ((bJ.out.sel1 (D:=D) (i:=1) (I:=[1]) rfl).hf rfl))).mono ?_
   rintro e w4 ⟨rfl,hp⟩
   have HP:=au hp
   clear hp
   go_wp2_with fail
   go_ret
   exact ⟨rfl,HP.out⟩
theorem yA (h:aF w D H) (a:Nat):Calls ay 55 #[aj (D 0),ah (a:Int)] w fun e w'=>e = .returned (.tuple #[ah ((H.aV a).1:Int),ah ((H.aV a).2:Int)])/\aF w' D H/\Keep (HF D) w w':=by
 obtain ⟨W0,hW0⟩:∃ W',W'=w.alloc (.cells #[ah 0] 3):=⟨_,rfl⟩
 have hk0:Keep none_ w W0:=by rw [hW0];exact (Keep.refl _ _).alloc _
 have hb0:aA W0 w.heap.size [ah 0] 3:=by rw [hW0];exact aA.new w _ _
 have h0:=h.still hk0
 have hD:∀ i,i<13->D i<w.heap.size:=fun i hi=>by
  have hl:=h.lists
  obtain ⟨In,hl,_⟩:=hl
  obtain ⟨cap,hs1⟩:=hl.set.blk
  obtain ⟨cur,hs2,_⟩:=hl.set.lF
  obtain ⟨W1,hbn,_⟩:=h.born
  obtain ⟨W2,hco,_⟩:=h.cols
  obtain ⟨cap1,hb1⟩:=hbn.blk
  obtain ⟨cur1,hb2,_⟩:=hbn.lF
  obtain ⟨cap2,hc1⟩:=hco.blk
  obtain ⟨cur2,hc2,_⟩:=hco.lF
  obtain ⟨ld,st,ha⟩:=h.arena.blk
  match i,hi with
  | 0,_=>exact h.blk.lt
  | 1,_=>exact ha.lt
  | 2,_=>exact h.arena.lF.lt
  | 3,_=>exact h.table.blk.lt
  | 4,_=>exact h.table.cls.lt
  | 5,_=>exact hl.lt
  | 6,_=>exact hs1.lt
  | 7,_=>exact hs2.lt
  | 8,_=>exact hb1.lt
  | 9,_=>exact hb2.lt
  | 10,_=>exact hc1.lt
  | 11,_=>exact hc2.lt
  | 12,_=>exact h.iP.lt
 have hnew:¬ HF D w.heap.size:=by
  rintro ⟨i,hi,e⟩
  have:=hD i hi
  omega
 have hmf:∀ (fn:Fn) (first cap:Array Value) (w:World),(Instr.makeFunc fn first cap).run ay w = .ok (.func fn first cap) w:=fun _ _ _ _=>rfl
 unfold HS.aV
 by_cases he:H.lq a=0
 ·have qW:∀ W,aF W D H->Keep (HF D) W0 W->Calls ay 97 (#[ah (H.nf a:Int)]++#[aj w.heap.size]) W fun e w'=>e = .returned (ah 0)/\(aF w' D H/\Keep (HF D) w w'/\w'.cell? ⟨w.heap.size,0,none⟩=some (ah (H.nf a:Int))):=fun W hW hk=>by
   have hbW:=hk.blk hb0 hnew
   have hlt:=hbW.lt
   have c0:=hbW.cell 0 rfl
   have f0:=hbW.free 0
   have hR:aF (W.setCell ⟨w.heap.size,0,none⟩ (ah (H.nf a:Int))) D H:=hW.keep ((Keep.refl (only w.heap.size) W).put 0 _) (fun i hi e=>hnew ⟨i,hi,e.symm⟩) (fun e=>by
    have h9:=World.block_lt_of_cell? _ _ (h.tabs.lim 0 1 rfl);unfold only at e;rw [e] at h9;exact Nat.lt_irrefl _ h9) (fun e=>by
    have h9:=World.block_lt_of_cell? _ _ (h.tabs.kind 0 [] rfl);unfold only at e;rw [e] at h9;exact Nat.lt_irrefl _ h9) (fun e=>by
    have h9:=World.block_lt_of_cell? _ _ (h.sizes 0 2 rfl);unfold only at e;rw [e] at h9;exact Nat.lt_irrefl _ h9)
   have hK:Keep (HF D) w (W.setCell ⟨w.heap.size,0,none⟩ (ah (H.nf a:Int))):=(hk0.gI.trans hk).eP (Nat.le_refl _) 0 _
   have hb2:=(hbW.set 0 (ah (H.nf a:Int))).cell 0 (v := ah (H.nf a:Int)) rfl
   have HR:Hid (aF (W.setCell ⟨w.heap.size,0,none⟩ (ah (H.nf a:Int))) D H/\Keep (HF D) w (W.setCell ⟨w.heap.size,0,none⟩ (ah (H.nf a:Int)))/\(W.setCell ⟨w.heap.size,0,none⟩ (ah (H.nf a:Int))).cell? ⟨w.heap.size,0,none⟩=some (ah (H.nf a:Int))):=⟨hR,hK,hb2⟩
   generalize H.nf a=n at *
   generalize w.heap.size=O at *
   clear h h0 hk0 hb0 hD hnew hmf he hW hk hbW hlt hR hK hb2 hW0
   show Calls ay 97 #[ah (n:Int),aj O] W _
   go_enter func97,ntmps97
   go_wp2_with fail
   go_ret
   exact ⟨rfl,HR.out⟩
  have HO:=au (yx h0 a 97 (fun args w=>by simp [callFunc,func97,go_sem];rfl) #[aj w.heap.size] 0 _ he qW)
  rw [if_pos he]
  generalize H.nf a=n at *
  clear h h0 hk0 hb0 hD hnew he qW
  go_enter func55,ntmps55
  go_wp2_with fail
  rw [<- hW0]
  clear hW0
  refine HO.out.mono ?_
  rintro e w1 ⟨rfl,h1,k1,c1⟩
  have uZ:=au h1
  have aJ:=au k1
  clear h1 k1
  go_wp2_with fail
  go_ret2
  exact ⟨rfl,uZ.out,aJ.out⟩
 ·have HO:=au (zy h0 a (.func (.func 97) #[] #[aj w.heap.size]) he)
  rw [if_neg he]
  have HB0:=au hb0
  have yO:=au hnew
  have dN:=au hk0
  generalize H.lq a=n at *
  clear h h0 hk0 hb0 hD hnew he
  go_enter func55,ntmps55
  go_wp2_with fail
  rw [<- hW0]
  clear hW0
  refine HO.out.mono ?_
  rintro e w1 ⟨rfl,h1,k1⟩
  have uZ:=au h1
  have aJ:=au k1
  have c1:=(k1.blk HB0.out yO.out).cell 0 rfl
  clear h1 k1
  go_wp2_with fail
  go_ret2
  exact ⟨rfl,uZ.out,dN.out.gI.trans aJ.out⟩
end
section
variable {w w':World} {D:Nat->Nat} {H:HS}
theorem aF.ltD (h:aF w D H) (i:Nat) (hi:i<13):D i<w.heap.size:=by
 obtain ⟨In,hl,_⟩:=h.lists
 obtain ⟨cap,hs1⟩:=hl.set.blk
 obtain ⟨cur,hs2,_⟩:=hl.set.lF
 obtain ⟨W1,hbn,_⟩:=h.born
 obtain ⟨W2,hco,_⟩:=h.cols
 obtain ⟨cap1,hb1⟩:=hbn.blk
 obtain ⟨cur1,hb2,_⟩:=hbn.lF
 obtain ⟨cap2,hc1⟩:=hco.blk
 obtain ⟨cur2,hc2,_⟩:=hco.lF
 obtain ⟨ld,st,ha⟩:=h.arena.blk
 match i,hi with
 | 0,_=>exact h.blk.lt
 | 1,_=>exact ha.lt
 | 2,_=>exact h.arena.lF.lt
 | 3,_=>exact h.table.blk.lt
 | 4,_=>exact h.table.cls.lt
 | 5,_=>exact hl.lt
 | 6,_=>exact hs1.lt
 | 7,_=>exact hs2.lt
 | 8,_=>exact hb1.lt
 | 9,_=>exact hb2.lt
 | 10,_=>exact hc1.lt
 | 11,_=>exact hc2.lt
 | 12,_=>exact h.iP.lt
theorem aF.xJ (h:aF w D H) {b:Nat} (hb:w.heap.size<=b):¬ HF D b:=by
 rintro ⟨i,hi,e⟩
 have:=h.ltD i hi
 omega
theorem aF.Fz (h:aF w D H):3<w.heap.size/\4<w.heap.size/\2<w.heap.size :=
 ⟨World.block_lt_of_cell? _ _ (h.tabs.lim 0 1 rfl),World.block_lt_of_cell? _ _ (h.tabs.kind 0 [] rfl),World.block_lt_of_cell? _ _ (h.sizes 0 2 rfl)⟩
theorem aF.abb {w0:World} (h0:aF w0 D H) (h:aF w D H) {b:Nat} (hb:w0.heap.size<=b) (v:Value):aF (w.setCell ⟨b,0,none⟩ v) D H:=by
 have g:=h0.Fz
 refine h.keep ((Keep.refl (only b) w).put 0 v) (fun i hi e=>?_) (fun e=>?_) (fun e=>?_) (fun e=>?_)
 ·have:=h0.ltD i hi;unfold only at e;omega
 ·unfold only at e;omega
 ·unfold only at e;omega
 ·unfold only at e;omega
theorem Rq (h:aF w D H) (x:Nat) (h1:1<=x) (h2:x<=H.b*H.ww):Calls ay 99 #[aj (D 1),ah (x:Int)] w fun e w'=>e = .returned (.tuple #[.int .u64 (H.word x:Int),ah 0])/\aF w' D H/\Keep (only (D 1)) w w':=by
 have hal:=h.inv.nI
 have h9:=Eh h.arena (x - 1) (by omega)
 rw [show ((x - 1:Nat):Int)+1=(x:Int) by omega] at h9
 refine h9.mono ?_
 rintro e w' ⟨rfl,g2,g3⟩
 refine ⟨?_,h.loaded g3 g2,g3⟩
 unfold HS.word pY
 rw [if_pos h1]
theorem Rt (n:Nat) (f:Int) (bf bh ba bw:Nat) (w:World) (hf:f<0\/(n:Int)<=f) (hb:aA w bf [ah f] 3) :
 Calls ay 98 #[ah (n:Int),aj bf,aj bh,aj ba,aj bw] w fun e w'=>e = .returned (ah 7)/\w=w':=by
 have c0:=hb.cell 0 rfl
 by_cases h0:f<0
 ·have d0:decide (f<0)=true:=decide_eq_true h0
  clear hf hb h0
  go_enter func98,ntmps98
  go_wp2_with fail
  go_ret
  exact ⟨rfl,rfl⟩
 ·have d0:decide (f<0)=false:=decide_eq_false h0
  have d1:decide ((n:Int)<=f)=true:=decide_eq_true (by omega)
  clear hf hb h0
  go_enter func98,ntmps98
  go_wp2_with fail
  go_ret
  exact ⟨rfl,rfl⟩
theorem OQ (h:aF w D H) (n f a bf bh ba bw:Nat) (hf:f<n) (ha:1<=a+1+f) (hx:a+1+f<=H.b*H.ww) (hb1:aA w bf [ah (f:Int)] 3) (hb2:aA w bh [aj (D 0)] 47) (hb3:aA w ba [ah (a:Int)] 3) (hb4:aA w bw [.int .u64 0] 146) (hnw:¬ only (D 1) bw) (hn2:¬ only (D 1) bh/\¬ only (D 1) ba/\¬ only (D 1) bf) :
 Calls ay 98 #[ah (n:Int),aj bf,aj bh,aj ba,aj bw] w fun e w'=>e = .returned (ah 0)/\∃ w1,Keep (only (D 1)) w w1/\aF w1 D H/\w'=w1.setCell ⟨bw,0,none⟩ (.int .u64 (H.word (a+1+f):Int)):=by
 have XF:=h.inv.nle
 have c1:=hb1.cell 0 rfl
 have c2:=hb2.cell 0 rfl
 have c3:=hb3.cell 0 rfl
 have c4:=hb4.cell 0 rfl
 have f4:=hb4.free 0
 have y0:=h.blk.cell 0 rfl
 have d0:decide ((f:Int)<0)=false:=decide_eq_false (by omega)
 have d1:decide (n<=f)=false:=decide_eq_false (by omega)
 have HL:=au (Rq (h.still (k:=(Keep.refl none_ w).drew)) (a+1+f) ha hx)
 have e1:IntKind.i64.wrap ((a:Int)+1)=(a:Int)+1:=IntWalk.i64_in _ (by omega)
 have e2:IntKind.i64.wrap ((a:Int)+1+(f:Int))=((a+1+f:Nat):Int):=by rw [IntWalk.i64_in _ (by omega)];omega
 obtain ⟨pp,hpp⟩:∃ pp:Int,pp=((a+1+f:Nat):Int):=⟨_,rfl⟩
 rw [<- hpp] at e2 HL
 generalize H.word (a+1+f)=x at *
 have HH:=au h
 have HB4:=au hb4
 have yO:=au hnw
 have LG:=au hn2
 have wL:Hid (¬ only bw bh/\¬ only bw (D 0)/\¬ only bw ba/\¬ only bw bf):=by
  refine ⟨fun e=>?_,fun e=>?_,fun e=>?_,fun e=>?_⟩
  all_goals unfold only at e
  ·rw [e] at hb2;exact absurd (hb2.uniq hb4).2 (by decide)
  ·have h9:=h.blk;rw [e] at h9;exact absurd (h9.uniq hb4).2 (by decide)
  ·rw [e] at hb3;exact absurd (hb3.uniq hb4).2 (by decide)
  ·rw [e] at hb1;exact absurd (hb1.uniq hb4).2 (by decide)
 have hge:(0:Int)<=(a:Int)+1:=by omega
 clear h hb1 hb2 hb3 hb4 hf ha hx hnw hn2 hpp XF
 go_enter func98,ntmps98
 go_wp2_with fail
 go_region_held3 (fun w'=>w'.cell? ⟨bh,0,none⟩=some (aj (D 0))/\w'.cell? ⟨D 0,0,none⟩=some (aj (D 1))/\w'.cell? ⟨ba,0,none⟩=some (ah (a:Int))/\w'.cell? ⟨bf,0,none⟩=some (ah (f:Int)))
  (first | exact ⟨c2, y0, c3, c1⟩ | exact jJ.out | exact HS2.out _ | fail "ji")
  ((go_at_call 99
    refine HL.out.mono ?_
    rintro e w1 ⟨rfl,h1,k1⟩
    have jJ:Hid (w1.cell? ⟨bh,0,none⟩=some (aj (D 0))/\w1.cell? ⟨D 0,0,none⟩=some (aj (D 1))/\w1.cell? ⟨ba,0,none⟩=some (ah (a:Int))/\w1.cell? ⟨bf,0,none⟩=some (ah (f:Int))):=⟨k1.jM c2 LG.out.1,h1.blk.cell 0 rfl,k1.jM c3 LG.out.2.1,k1.jM c1 LG.out.2.2⟩
    have HS2:Hid (∀ v,(w1.setCell ⟨bw,0,none⟩ v).cell? ⟨bh,0,none⟩=some (aj (D 0))/\(w1.setCell ⟨bw,0,none⟩ v).cell? ⟨D 0,0,none⟩=some (aj (D 1))/\(w1.setCell ⟨bw,0,none⟩ v).cell? ⟨ba,0,none⟩=some (ah (a:Int))/\(w1.setCell ⟨bw,0,none⟩ v).cell? ⟨bf,0,none⟩=some (ah (f:Int))):=fun v=>by
     have kk:=(Keep.refl (only bw) w1).put 0 v
     exact ⟨kk.jM jJ.out.1 wL.out.1,kk.jM jJ.out.2.1 wL.out.2.1,kk.jM jJ.out.2.2.1 wL.out.2.2.1,kk.jM jJ.out.2.2.2 wL.out.2.2.2⟩
    have uZ:=au h1
    have aJ:=au ((Keep.refl _ w).drew.trans k1)
    have c41:=(((Keep.refl _ w).drew.trans k1).blk HB4.out yO.out).cell 0 rfl
    have f41:=(((Keep.refl _ w).drew.trans k1).blk HB4.out yO.out).free 0
    clear h1 k1))
 go_wp2_with fail
 go_ret
 exact ⟨rfl,w1,aJ.out,uZ.out,rfl⟩
theorem IL (h:aF w D H) (a:Nat) (f:Int):Calls ay 56 #[aj (D 0),ah (a:Int),ah f] w fun e w'=>e = .returned (.tuple #[ah (H.bY a f:Int),ah (H.jk a f:Int)])/\aF w' D H/\Keep (HF D) w w':=by
 obtain ⟨W0,hW0⟩:∃ W',W'=(((w.alloc (.cells #[aj (D 0)] 47)).alloc (.cells #[ah (a:Int)] 3)).alloc (.cells #[ah f] 3)).alloc (.cells #[.int .u64 0] 146):=⟨_,rfl⟩
 have hk0:Keep none_ w W0:=by rw [hW0];exact ((((Keep.refl _ _).alloc _).alloc _).alloc _).alloc _
 have hb1:aA W0 w.heap.size [aj (D 0)] 47:=by rw [hW0];exact (((aA.new w _ _).alloc _).alloc _).alloc _
 have hb2:aA W0 (w.heap.size+1) [ah (a:Int)] 3:=by
  rw [hW0]
  have h:=aA.new (w.alloc (.cells #[aj (D 0)] 47)) [ah (a:Int)] 3
  rw [World.size_alloc] at h
  exact (h.alloc _).alloc _
 have hb3:aA W0 (w.heap.size+1+1) [ah f] 3:=by
  rw [hW0]
  have h:=aA.new ((w.alloc (.cells #[aj (D 0)] 47)).alloc (.cells #[ah (a:Int)] 3)) [ah f] 3
  rw [World.size_alloc,World.size_alloc] at h
  exact h.alloc _
 have hb4:aA W0 (w.heap.size+1+1+1) [.int .u64 0] 146:=by
  rw [hW0]
  have h:=aA.new (((w.alloc (.cells #[aj (D 0)] 47)).alloc (.cells #[ah (a:Int)] 3)).alloc (.cells #[ah f] 3)) [.int .u64 0] 146
  rw [World.size_alloc,World.size_alloc,World.size_alloc] at h
  exact h
 have h0:=h.still hk0
 have n1:=h.xJ (b:=w.heap.size) (Nat.le_refl _)
 have n2:=h.xJ (b:=w.heap.size+1) (by omega)
 have n3:=h.xJ (b:=w.heap.size+1+1) (by omega)
 have n4:=h.xJ (b:=w.heap.size+1+1+1) (by omega)
 have hmf:∀ (fn:Fn) (first cap:Array Value) (w:World),(Instr.makeFunc fn first cap).run ay w = .ok (.func fn first cap) w:=fun _ _ _ _=>rfl
 have key:Hid (Calls ay 96 #[aj (D 0),ah (a:Int),.func (.func 98) #[] #[aj (w.heap.size+1+1),aj w.heap.size,aj (w.heap.size+1),aj (w.heap.size+1+1+1)]] W0 fun e w'=>e = .returned (ah (H.jk a f:Int))/\(aF w' D H/\Keep (HF D) w w'/\w'.cell? ⟨w.heap.size+1+1+1,0,none⟩=some (.int .u64 (H.bY a f:Int)))):=by
  by_cases he:H.lq a=0
  ·refine yx h0 a 98 (fun args w=>by simp [callFunc,func98,go_sem];rfl) _ _ _ he (fun W hW hk=>?_)
   have g1:=hk.blk hb1 n1
   have g2:=hk.blk hb2 n2
   have g3:=hk.blk hb3 n3
   have g4:=hk.blk hb4 n4
   by_cases hf:f<0\/(H.nf a:Int)<=f
   ·have hE:H.jk a f=7:=by unfold HS.jk;rw [if_pos he,if_pos hf]
    have hP:H.bY a f=0:=by unfold HS.bY;rw [hE];rfl
    rw [hE,hP]
    refine (Rt (H.nf a) f _ _ _ _ W hf g3).mono ?_
    rintro e w' ⟨rfl,rfl⟩
    exact ⟨rfl,hW,hk0.gI.trans hk,g4.cell 0 rfl⟩
   ·obtain ⟨j,rfl⟩:∃ j:Nat,f=(j:Int):=⟨f.toNat,by omega⟩
    have hE:H.jk a (j:Int)=0:=by unfold HS.jk;rw [if_pos he,if_neg hf]
    have hP:H.bY a (j:Int)=H.word (a+1+j):=by unfold HS.bY;rw [hE,if_pos rfl,Int.toNat_natCast]
    rw [hE,hP]
    have hfl:=h.inv.field (GZ he).2 (f:=j) (by omega)
    refine (OQ hW (H.nf a) j a _ _ _ _ (by omega) (by omega) hfl.2.1 g3 g1 g2 g4 (fun e=>n4 ⟨1,by decide,e⟩) ⟨fun e=>n1 ⟨1,by decide,e⟩,fun e=>n2 ⟨1,by decide,e⟩,fun e=>n3 ⟨1,by decide,e⟩⟩).mono ?_
    rintro e w' ⟨rfl,w1,k1,hh1,rfl⟩
    have k1':Keep (HF D) w w1:=(hk0.gI.trans hk).trans ((k1.sel1 (D:=D) (i:=1) (I:=[1]) rfl).hf rfl)
    have g41:=k1.blk g4 (fun e=>n4 ⟨1,by decide,e⟩)
    exact ⟨rfl,h.abb hh1 (by omega) _,k1'.eP (by omega) 0 _,(g41.set 0 _).cell 0 rfl⟩
  ·have hE:H.jk a f=H.lq a:=by unfold HS.jk;rw [if_neg he]
   have hP:H.bY a f=0:=by unfold HS.bY;rw [hE,if_neg he]
   rw [hE,hP]
   refine (zy h0 a _ he).mono ?_
   rintro e w' ⟨rfl,g1,g2⟩
   exact ⟨rfl,g1,hk0.gI.trans g2,(g2.blk hb4 n4).cell 0 rfl⟩
 have hlt:H.bY a f<mG:=by
  unfold HS.bY
  split
  ·exact h.inv.wlt _
  ·decide
 have oV:(H.bY a f:Int)<216172782113783808:=by unfold mG at hlt;omega
 have HWR:Hid (wrap64 (H.bY a f:Int)=(H.bY a f:Int)):=IntWalk.wrap64_in _ (by omega)
 generalize H.bY a f=x at *
 generalize H.jk a f=er at *
 clear h h0 hk0 hb1 hb2 hb3 hb4 n1 n2 n3 n4 hlt
 go_enter func56,ntmps56
 go_wp2_with fail
 rw [<- hW0]
 clear hW0
 refine key.out.mono ?_
 rintro e w1 ⟨rfl,h1,k1,c1⟩
 have uZ:=au h1
 have aJ:=au k1
 clear h1 k1 key
 go_wp2_with fail
 go_ret2
 exact ⟨by first|rfl|rw [HWR.out],uZ.out,aJ.out⟩
end
section
variable {w w':World} {D:Nat->Nat} {H:HS}
theorem OT (n:Nat) (f:Int) (bf bh bv ba:Nat) (w:World) (hf:f<0\/(n:Int)<=f) (hb:aA w bf [ah f] 3) :
 Calls ay 117 #[ah (n:Int),aj bf,aj bh,aj bv,aj ba] w fun e w'=>e = .returned (ah 7)/\w=w':=by
 have c0:=hb.cell 0 rfl
 by_cases h0:f<0
 ·have d0:decide (f<0)=true:=decide_eq_true h0
  clear hf hb h0
  go_enter func117,ntmps117
  go_wp2_with fail
  go_ret
  exact ⟨rfl,rfl⟩
 ·have d0:decide (f<0)=false:=decide_eq_false h0
  have d1:decide ((n:Int)<=f)=true:=decide_eq_true (by omega)
  clear hf hb h0
  go_enter func117,ntmps117
  go_wp2_with fail
  go_ret
  exact ⟨rfl,rfl⟩
theorem JV (h:aF w D H) (n f v bf bh bv ba:Nat) (hf:f<n) (hv:¬ v<=H.n) (hb1:aA w bf [ah (f:Int)] 3) (hb2:aA w bh [aj (D 0)] 47) (hb3:aA w bv [ah (v:Int)] 3) :
 Calls ay 117 #[ah (n:Int),aj bf,aj bh,aj bv,aj ba] w fun e w'=>e = .returned (ah 4)/\w=w':=by
 have c1:=hb1.cell 0 rfl
 have c2:=hb2.cell 0 rfl
 have c3:=hb3.cell 0 rfl
 have d0:decide ((f:Int)<0)=false:=decide_eq_false (by omega)
 have d1:decide (n<=f)=false:=decide_eq_false (by omega)
 have HV:=au (zx h v)
 rw [decide_eq_false hv] at HV
 clear h hb1 hb2 hb3 hf hv
 go_enter func117,ntmps117
 go_wp2_with (go_at_call 118;refine HV.out.mono ?_;rintro e w1 ⟨rfl,rfl⟩)
 go_ret
 exact ⟨rfl,rfl⟩
theorem LH (h:aF w D H) (n f a v bf bh bv ba:Nat) (hf:f<n) (hv:v<=H.n) (ha:1<=a+1+f) (hx:a+1+f<=H.b*H.ww) (hi:bZ (H.lay (a+1+f) v)) (hb1:aA w bf [ah (f:Int)] 3) (hb2:aA w bh [aj (D 0)] 47) (hb3:aA w bv [ah (v:Int)] 3) (hb4:aA w ba [ah (a:Int)] 3) :
 Calls ay 117 #[ah (n:Int),aj bf,aj bh,aj bv,aj ba] w fun e w'=>e = .returned (ah 0)/\aF w' D (H.lay (a+1+f) v)/\Keep (HF D) w w':=by
 have XF:=h.inv.nle
 have hvn:v<=1048576:=by unfold HS.n at hv;omega
 have c1:=hb1.cell 0 rfl
 have c2:=hb2.cell 0 rfl
 have c3:=hb3.cell 0 rfl
 have c4:=hb4.cell 0 rfl
 have y0:=h.blk.cell 0 rfl
 have d0:decide ((f:Int)<0)=false:=decide_eq_false (by omega)
 have d1:decide (n<=f)=false:=decide_eq_false (by omega)
 have HV:=au (zx h v)
 rw [decide_eq_true hv] at HV
 have HL:=au (Dw (h.still (k:=(Keep.refl none_ w).drew)) (a+1+f) v ha hx (by unfold mG;omega) hi)
 have e1:IntKind.i64.wrap ((a:Int)+1)=(a:Int)+1:=IntWalk.i64_in _ (by omega)
 have e2:IntKind.i64.wrap ((a:Int)+1+(f:Int))=((a+1+f:Nat):Int):=by rw [IntWalk.i64_in _ (by omega)];omega
 have HEU:Hid (IntKind.u64.wrap (v:Int)=(v:Int)):=IntWalk.u64_in _ (by omega)
 obtain ⟨pp,hpp⟩:∃ pp:Int,pp=((a+1+f:Nat):Int):=⟨_,rfl⟩
 rw [<- hpp] at e2 HL
 generalize H.lay (a+1+f) v=H2 at *
 have hge:(0:Int)<=(a:Int)+1:=by omega
 clear h hb1 hb2 hb3 hb4 hf ha hx hpp XF hi hv hvn
 go_enter func117,ntmps117
 go_wp2_with (go_at_call 118;refine HV.out.mono ?_;rintro e w1 ⟨rfl,rfl⟩)
 refine aI 10 rfl (by kernel_rfl) (by kernel_rfl) (fun K hK=>?_)
 change wpStill _ _ (World.drew _) _ _ _
 simp only [List.take_succ_cons,List.take_zero,List.drop_succ_cons,List.drop_zero] at hK ⊢
 repeat still_step
 refine wpStill_nil ?_
 change ite _ (Oper.wp _ _ _ w.drew _ _) _
 go_simp
 rw [HEU.out]
 refine HL.out.mono ?_
 rintro e w1 ⟨rfl,h1,k1⟩
 refine hK _ _ ?_
 clear hK K
 have uZ:=au h1
 have aJ:=au ((Keep.refl (HF D) w).drew.trans k1)
 clear h1 k1 c1 c2 c3 c4 y0
 repeat still_step
 refine wpStill_nil ?_
 go_wp2_with fail
 go_ret
 exact ⟨rfl,uZ.out,aJ.out⟩
theorem FB (h:aF w D H) (a:Nat) (f:Int) (v:Nat):Calls ay 72 #[aj (D 0),ah (a:Int),ah f,ah (v:Int)] w fun e w'=>e = .returned (ah (H.oI a f v:Int))/\aF w' D (H.gu a f v)/\Keep (HF D) w w':=by
 obtain ⟨W0,hW0⟩:∃ W',W'=(((w.alloc (.cells #[aj (D 0)] 47)).alloc (.cells #[ah (a:Int)] 3)).alloc (.cells #[ah f] 3)).alloc (.cells #[ah (v:Int)] 3):=⟨_,rfl⟩
 have hk0:Keep none_ w W0:=by rw [hW0];exact ((((Keep.refl _ _).alloc _).alloc _).alloc _).alloc _
 have hb1:aA W0 w.heap.size [aj (D 0)] 47:=by rw [hW0];exact (((aA.new w _ _).alloc _).alloc _).alloc _
 have hb2:aA W0 (w.heap.size+1) [ah (a:Int)] 3:=by
  rw [hW0]
  have h:=aA.new (w.alloc (.cells #[aj (D 0)] 47)) [ah (a:Int)] 3
  rw [World.size_alloc] at h
  exact (h.alloc _).alloc _
 have hb3:aA W0 (w.heap.size+1+1) [ah f] 3:=by
  rw [hW0]
  have h:=aA.new ((w.alloc (.cells #[aj (D 0)] 47)).alloc (.cells #[ah (a:Int)] 3)) [ah f] 3
  rw [World.size_alloc,World.size_alloc] at h
  exact h.alloc _
 have hb4:aA W0 (w.heap.size+1+1+1) [ah (v:Int)] 3:=by
  rw [hW0]
  have h:=aA.new (((w.alloc (.cells #[aj (D 0)] 47)).alloc (.cells #[ah (a:Int)] 3)).alloc (.cells #[ah f] 3)) [ah (v:Int)] 3
  rw [World.size_alloc,World.size_alloc,World.size_alloc] at h
  exact h
 have h0:=h.still hk0
 have n1:=h.xJ (b:=w.heap.size) (Nat.le_refl _)
 have n2:=h.xJ (b:=w.heap.size+1) (by omega)
 have n3:=h.xJ (b:=w.heap.size+1+1) (by omega)
 have n4:=h.xJ (b:=w.heap.size+1+1+1) (by omega)
 have hmf:∀ (fn:Fn) (first cap:Array Value) (w:World),(Instr.makeFunc fn first cap).run ay w = .ok (.func fn first cap) w:=fun _ _ _ _=>rfl
 have key:Hid (Calls ay 96 #[aj (D 0),ah (a:Int),.func (.func 117) #[] #[aj (w.heap.size+1+1),aj w.heap.size,aj (w.heap.size+1+1+1),aj (w.heap.size+1)]] W0 fun e w'=>e = .returned (ah (H.oI a f v:Int))/\(aF w' D (H.gu a f v)/\Keep (HF D) w w')):=by
  by_cases he:H.lq a=0
  ·refine yx h0 a 117 (fun args w=>by simp [callFunc,func117,go_sem];rfl) _ _ _ he (fun W hW hk=>?_)
   have g1:=hk.blk hb1 n1
   have g2:=hk.blk hb2 n2
   have g3:=hk.blk hb3 n3
   have g4:=hk.blk hb4 n4
   by_cases hf:f<0\/(H.nf a:Int)<=f
   ·have hE:H.oI a f v=7:=by unfold HS.oI HS.jk;rw [if_pos he,if_pos hf];rfl
    have hP:H.gu a f v=H:=by unfold HS.gu;rw [hE];rfl
    rw [hE,hP]
    refine (OT (H.nf a) f _ _ _ _ W hf g3).mono ?_
    rintro e w' ⟨rfl,rfl⟩
    exact ⟨rfl,hW,hk0.gI.trans hk⟩
   ·obtain ⟨j,rfl⟩:∃ j:Nat,f=(j:Int):=⟨f.toNat,by omega⟩
    have hE0:H.jk a (j:Int)=0:=by unfold HS.jk;rw [if_pos he,if_neg hf]
    have hfl:=h.inv.field (GZ he).2 (f:=j) (by omega)
    by_cases hv:v<=H.n
    ·have hE:H.oI a (j:Int) v=0:=by unfold HS.oI;rw [hE0,if_pos rfl,if_pos hv]
     have hP:H.gu a (j:Int) v=H.lay (a+1+j) v:=by unfold HS.gu;rw [hE,if_pos rfl,Int.toNat_natCast]
     rw [hE,hP]
     have hvn:v<=1048576:=by have:=h.inv.nle;unfold HS.n at hv;omega
     refine (LH hW (H.nf a) j a v _ _ _ _ (by omega) hv (by omega) hfl.2.1 (h.inv.lay (by omega) hfl.2.1 hfl.1 hfl.2.2.2 (by unfold mG;omega)) g3 g1 g4 g2).mono ?_
     rintro e w' ⟨rfl,hh1,k1⟩
     exact ⟨rfl,hh1,(hk0.gI.trans hk).trans k1⟩
    ·have hE:H.oI a (j:Int) v=4:=by unfold HS.oI;rw [hE0,if_pos rfl,if_neg hv]
     have hP:H.gu a (j:Int) v=H:=by unfold HS.gu;rw [hE];rfl
     rw [hE,hP]
     refine (JV hW (H.nf a) j v _ _ _ _ (by omega) hv g3 g1 g4).mono ?_
     rintro e w' ⟨rfl,rfl⟩
     exact ⟨rfl,hW,hk0.gI.trans hk⟩
  ·have hE:H.oI a f v=H.lq a:=by unfold HS.oI HS.jk;rw [if_neg he,if_neg he]
   have hP:H.gu a f v=H:=by unfold HS.gu;rw [hE,if_neg he]
   rw [hE,hP]
   refine (zy h0 a _ he).mono ?_
   rintro e w' ⟨rfl,g1,g2⟩
   exact ⟨rfl,g1,hk0.gI.trans g2⟩
 generalize H.gu a f v=H2 at *
 generalize H.oI a f v=er at *
 clear h h0 hk0 hb1 hb2 hb3 hb4 n1 n2 n3 n4
 go_enter func72,ntmps72
 go_wp2_with fail
 rw [<- hW0]
 clear hW0
 refine key.out.mono ?_
 rintro e w1 ⟨rfl,h1,k1⟩
 have uZ:=au h1
 have aJ:=au k1
 clear h1 k1 key
 go_wp2_with fail
 go_ret
 exact ⟨rfl,uZ.out,aJ.out⟩
end
end
section
open Go.RowKit
theorem Tryz.infoI:(ay.info? 3).map (fun i=>(i.zero,i.size,i.bytes))=some (some (ah 0),1,8):=by kernel_rfl
theorem rP (a:Option Addr) (n c:Nat) (xs:List Value) (w:World) (h:Cells w a n xs) (hnil:a=none->c=0) (hm:n<=4000000000000) (h1:∀ u∈xs,u.oneCell'=true) :
 Calls ay 85 #[.slice a n c] w fun e w'=>∃ v',e = .returned v'/\w'.ownsRow w.heap.size 3 1 v' n xs/\Keep none_ w w':=by
 obtain ⟨rfl,hc⟩:=h
 cases a with
 | none =>
   have h0:xs=[]:=by
    cases xs with
    | nil=>rfl
    | cons x xs=>obtain ⟨b,off,e,_⟩:=hc (by simp);cases e
   subst h0
   obtain rfl:=hnil rfl
   simp only [List.length_nil]
   clear hc hm hnil h1
   have hn:=fun w=>Lib.run_eql_slice_nil (P:=ay) w 32 3 none 0 0 0 0 Tryz.underlying32
   go_enter func85,ntmps85
   go_wp2
   go_ret
   exact ⟨_,rfl,World.ownsRow_nil _ _ _ _,Keep.refl _ _⟩
 | some ad =>
   have hn:=fun w=>Lib.run_eql_slice_nil (P:=ay) w 32 3 (some ad) xs.length c 0 0 Tryz.underlying32
   obtain ⟨i0,hi1,hi2,hi3,hi4⟩:=info_parts Tryz.infoI
   have hw0:∀ w:World,(w.alloc (.cells #[] 3)).ownsRow w.heap.size 3 1 (.slice (some ⟨w.heap.size,0,none⟩) 0 0) 0 []:=fun w=>World.ownsRow_made w #[] 0 (Nat.le_refl _) (by decide) rfl
   have hcell:∀ (j:Nat) (u:Value),xs[j]?=some u->(w.alloc (.cells #[] 3)).cell? (ad.add j)=some u:=fun j u hj=>by
    have hjl:=(List.getElem?_eq_some_iff.1 hj).1
    obtain ⟨b,off,e,hx⟩:=hc (by omega)
    injection e with e
    subst e
    have hcl:=hx j u hj
    have ea:(⟨b,off,none⟩:Addr).add j=⟨b,off+j,none⟩:=by simp only [Addr.add];split<;>simp_all
    rw [ea,World.cell?_alloc_lt _ _ _ (World.block_lt_of_cell? _ _ hcl)]
    exact hcl
   have HC:=au hcell
   have HU:=au h1
   clear hcell hc h1
   go_enter func85,ntmps85
   go_wp2_with (at_builtin;refine wpList_append_own _ rfl _ _ 32 rfl w.heap.size 3 i0 (ah 0) 1 8 Tryz.underlying32 hi1 hi2 hi3 hi4 rfl (by decide) _ _ _ rfl (hw0 w) ad xs.length c xs rfl (by simp) HC.out HU.out (by unfold maxLen;omega) (by omega) (by simp) ?_;intro v' w1 hown hgr _)
   have hown':w1.ownsRow w.heap.size 3 1 v' xs.length xs:=by simpa using hown
   have hkeep:Keep none_ w w1:=((Keep.refl none_ w).alloc _).grown hgr (fun k e hk=>absurd hk (by have e':w.heap.size=k:=Option.some.inj e;omega))
   clear hown hgr
   go_wp2
   go_ret
   exact ⟨_,rfl,hown',hkeep⟩
end
section
attribute [local go_sem ↓] jT
attribute [local go_sem] Oper.semAt_some
open Go.RowKit
theorem ZU {P:Program} {o:Ow} (w:World) (t ty e:TypeId) (ht:P.underlying t=some (.slice e)) {z:Value} {bytes:Nat} (hi:(P.info? e).map (fun i=>(i.zero,i.size,i.bytes))=some (some z,1,bytes)) (hzs:z.cells.size=1)
 {a:Option Addr} {n:Nat} {xs:List Value} (hrow:bC o w e (.slice a n n) xs) (hnil:a=none->n=0) {N:Nat} {u:Value} (hN:w.cell? ⟨N,0,none⟩=some u) (hu:u.oneCell'=true) (hb:bytes<=1000) (hn:n<=100000000000) :
 ∃ g cap w',(Builtin.append_ #[t,t] ty #[.slice a n n,.slice (some ⟨N,0,none⟩) 1 1]).run P w = .ok (.slice (some ⟨g,0,none⟩) (n+1) cap) w'/\w'.ownsRow w.heap.size e 1 (.slice (some ⟨g,0,none⟩) (n+1) cap) (n+1) (xs++[u])/\w.grownBy w' none/\w.heap.size<=g:=by
 obtain ⟨i,hi1,hi2,hi3,hi4⟩:=info_parts hi
 have hbytes:(n+1)*bytes<=140737488355328:=Nat.le_trans (Nat.mul_le_mul (show n+1<=100000000001 by omega) hb) (by decide)
 have hnews:∀ j x,[u][j]?=some x->w.cell? ((⟨N,0,none⟩:Addr).add j)=some x:=by
  intro j x hj
  cases j with
  | zero=>simp at hj;subst hj;simpa [Addr.add] using hN
  | succ j=>simp at hj
 have h1:∀ x∈[u],x.oneCell'=true:=by simpa using hu
 have shape:∀ {v':Value} {W:World} {B:Nat},W.ownsRow B e 1 v' (n+1) (xs++[u])->∃ g cap,v' = .slice (some ⟨g,0,none⟩) (n+1) cap/\B<=g:=by
  intro v' W B h
  rcases h.2 with ⟨_,h0⟩|⟨g,cap,cur,rfl,hB,_⟩
  ·omega
  ·exact ⟨g,cap,rfl,hB⟩
 obtain ⟨a',c',ee,hl,hm,hc⟩:=hrow
 simp only [Value.slice.injEq] at ee
 obtain ⟨rfl,hnx,rfl⟩:=ee
 cases a with
 | none =>
   have h0:=hnil rfl
   subst h0
   have hx:xs=[]:=List.eq_nil_of_length_eq_zero hnx.symm
   subst hx
   have hown':w.ownsRow w.heap.size e 1 (.slice none 0 0) 0 []:=⟨rfl,.inl ⟨rfl,rfl⟩⟩
   obtain ⟨v',w',hr,h2,h3,_⟩:=run_append_own (P:=P) w w.heap.size t ty e i z 1 bytes ht hi1 hi2 hi3 hi4 hzs (by decide) _ 0 [] hown' ⟨N,0,none⟩ 1 1 [u] rfl hnews h1 (by unfold maxLen;omega) hbytes (Nat.le_refl _)
   obtain ⟨g,cap,rfl,hB⟩:=shape h2
   exact ⟨g,cap,w',hr,h2,h3,hB⟩
 | some ad =>
   have holds:∀ j x,xs[j]?=some x->w.cell? (ad.add j)=some x:=fun j x hj=>by
    have hlt:=(List.getElem?_eq_some_iff.1 hj).1
    obtain ⟨b,off,cs,e1,_,hb1,hj2⟩:=hc (by omega)
    cases e1
    have ea:(⟨b,off,none⟩:Addr).add j=⟨b,off+j,none⟩:=by simp only [Addr.add];split<;>simp_all
    rw [ea]
    exact hb1.cell _ ((hj2 j hlt).trans hj)
   obtain ⟨v',w',hr,h2,h3⟩:=run_append_arg_grows (P:=P) w t ty e i z 1 bytes ht hi1 hi2 hi3 hi4 hzs (by decide) ad n n xs (by omega) holds ⟨N,0,none⟩ 1 1 [u] rfl hnews (by omega) (by unfold maxLen;omega) hbytes
   obtain ⟨g',cap',rfl,hB⟩:=shape h2
   exact ⟨g',cap',w',hr,h2,h3,hB⟩
def Ru (v:Value):Prop:=∀ n c,v = .slice none n c->c=0
def dS (o:Ow) (w:World) (b:Nat) (T:TypeId) (rest:List Value) (xs:List Nat):Prop:=o b≠0/\∃ v,aA w b (v::rest) T/\bC o w 3 v (aG xs)/\Ru v
section
variable {o:Ow} {w w':World} {b:Nat} {T:TypeId} {rest:List Value} {xs:List Nat}
theorem dS.keep {S:Nat->Prop} (h:dS o w b T rest xs) (k:Keep S w w') (hb:¬ S b) (h0:∀ x,o x=0->¬ S x):dS o w' b T rest xs:=by
 obtain ⟨ho,v,h1,h2,h3⟩:=h
 exact ⟨ho,v,k.blk h1 hb,h2.keep k h0,h3⟩
theorem dS.still (h:dS o w b T rest xs) (k:Keep none_ w w'):dS o w' b T rest xs:=h.keep k (fun f=>f) (fun _ _ f=>f)
theorem dS.ext {o':Ow} (h:dS o w b T rest xs) (e:aQ w o o'):dS o' w b T rest xs:=by
 obtain ⟨ho,v,h1,h2,h3⟩:=h
 exact ⟨by rw [e b h1.lt];exact ho,v,h1,h2.ext e,h3⟩
theorem dS.form (h:dS o w b T rest xs):∃ a c,w.cell? ⟨b,0,none⟩=some (.slice a xs.length c)/\bC o w 3 (.slice a xs.length c) (aG xs)/\aA w b (.slice a xs.length c::rest) T/\xs.length<=c/\xs.length<=4000000000000/\w.frozen? ⟨b,0,none⟩=false/\(a=none->c=0):=by
 obtain ⟨ho,v,h1,h2,h3⟩:=h
 obtain ⟨a,c,rfl,hl,hm,hc⟩:=id h2
 have e:(aG xs).length=xs.length:=by simp [aG]
 rw [e] at h1 h2 hl hm
 exact ⟨a,c,h1.cell 0 rfl,h2,h1,hl,hm,h1.free 0,fun e=>h3 _ c (by rw [e])⟩
theorem dS.set (h:dS o w b T rest xs) {v:Value} {ys:List Nat} (hv:bC o w 3 v (aG ys)) (hn:Ru v):dS o (w.setCell ⟨b,0,none⟩ v) b T rest ys:=by
 obtain ⟨ho,u,h1,h2,h3⟩:=h
 exact ⟨ho,v,h1.set 0 v,hv.Ko ((Keep.refl _ _).put 0 v) ho,hn⟩
theorem tZ (h:dS o w b T rest xs):Calls ay 212 #[aj b] w fun e w'=>e = .returned (ah (xs.length:Int))/\w=w':=by
 obtain ⟨a,c,hc,_⟩:=h.form
 clear h
 go_enter func212,ntmps212
 go_wp2_with fail
 go_ret
 exact ⟨rfl,rfl⟩
theorem UR (h:dS o w b T rest xs):Calls ay 213 #[aj b] w fun e w'=>∃ v,e = .returned v/\w'.ownsRow w.heap.size 3 1 v xs.length (aG xs)/\Keep none_ w w':=by
 obtain ⟨a,c,hc,hr,hb,hl,hm,_,hnil⟩:=h.form
 have HC:=au (rP a xs.length c (aG xs) w (hr.toV.toCells) hnil hm (fun u hu=>by obtain ⟨z,_,rfl⟩:=List.mem_map.1 hu;rfl))
 clear h hnil hr hb hl hm
 go_enter func213,ntmps213
 go_wp2_with (go_at_call 85;refine HC.out.mono ?_;rintro e w1 ⟨v,rfl,ho,hk⟩;have HO:=au ho;have HK:=au hk;clear ho hk)
 go_ret
 exact ⟨v,rfl,HO.out,HK.out⟩
theorem FC (h:dS o w b T rest []):Calls ay 246 #[aj b] w fun e w'=>e = .returned (.tuple #[ah 0,.bool false])/\w=w':=by
 obtain ⟨a,c,hc,_⟩:=h.form
 clear h
 go_enter func246,ntmps246
 go_wp2_with fail
 go_ret2
 exact ⟨rfl,rfl⟩
theorem Dx (x:Nat) (h:dS o w b T rest (x::xs)):Calls ay 246 #[aj b] w fun e w'=>e = .returned (.tuple #[ah (x:Int),.bool true])/\dS o w' b T rest xs/\Keep (only b) w w':=by
 obtain ⟨a,c,hc,hr,hb,hl,hm,hf,_⟩:=h.form
 simp only [List.length_cons] at hc hr hb hl hm
 have hcut:=hr.cut 1 (by omega)
 rw [show (aG (x::xs)).drop 1=aG xs from rfl] at hcut
 obtain ⟨a',c',ee,_,_,hcell⟩:=hr.form
 simp only [Value.slice.injEq] at ee
 obtain ⟨e1,e9,e2⟩:=ee
 subst e1;subst e2
 obtain ⟨b',off',rfl,hx⟩:=hcell 0 (ah (x:Int)) rfl
 rw [Nat.add_zero] at hx
 clear e9
 have hset:=h.set hcut (fun n c' e=>by unfold oP at e;split at e<;>cases e)
 have Rw:=fun w=>Cj (P:=ay) (T:=32) (e:=3) (by kernel_rfl) (by kernel_rfl) (some ⟨b',off',none⟩) (xs.length+1) c 1 (by omega) w
 have hne:(((xs.length+1:Nat):Int)==0)=false:=by simp;omega
 have hpos:(0:Int)<((xs.length+1:Nat):Int):=by omega
 have HS:Hid (dS o (w.setCell ⟨b,0,none⟩ (.slice (oP (some ⟨b',off',none⟩) c 1) (xs.length+1 - 1) (c - 1))) b T rest xs):=hset
 simp only [show (((1:Nat)):Int)=1 from rfl] at Rw
 generalize hL:xs.length+1=L at *
 have HL:=au hL
 generalize oP (some ⟨b',off',none⟩) c 1=ca at *
 clear h hr hb hl hm hcut hset hcell hL
 go_enter func246,ntmps246
 go_wp2_with fail
 go_ret2
 exact ⟨rfl,HS.out,(Keep.refl (only b) _).put _ _⟩
theorem UU (h:dS o w b T rest xs) (x:Nat) (hf0:gX o w) (hm:xs.length<=100000):Calls ay 211 #[aj b,ah (x:Int)] w fun e w'=>e = .returned (.tuple #[])/\dS o w' b T rest (xs++[x])/\Keep (only b) w w':=by
 obtain ⟨a,c,hc,hr,hb,hl,_,hf,_⟩:=h.form
 obtain ⟨n,hn⟩:∃ n,n=xs.length:=⟨_,rfl⟩
 rw [<- hn] at hc hr hb hl hm
 obtain ⟨W1,hW1⟩:∃ W',W'=(w.alloc (.cells #[ah (x:Int)] 3)).drew:=⟨_,rfl⟩
 have hk1:Keep none_ w W1:=by rw [hW1];exact ((Keep.refl _ _).alloc _).drew
 have hr1:bC o W1 3 (.slice a n n) (aG xs):=by
  obtain ⟨a',c',ee,_,hm2,hc2⟩:=hr.still hk1
  simp only [Value.slice.injEq] at ee
  obtain ⟨rfl,hnl,rfl⟩:=ee
  exact ⟨a,n,by rw [<- hnl],by omega,by omega,hc2⟩
 have hnil:a=none->n=0:=fun e=>by
  rcases Nat.eq_zero_or_pos n with h0|h0
  ·exact h0
  ·obtain ⟨_,_,_,h1⟩:=hr.toV.cells
   obtain ⟨b',off,e2,_⟩:=h1 h0
   rw [e] at e2;cases e2
 have hsl:∀ W:World,(Instr.slice 32 (.slice a n c) none (some (ah (n:Int))) (some (ah (n:Int)))).run ay W = .ok (.slice a n n) W:=fun W=>by
  have ht:ay.underlying 32=some (.slice 3):=by kernel_rfl
  have hi:(ay.info? 3).map (·.size)=some 1:=by kernel_rfl
  obtain ⟨i,hi1,hi2⟩:=Option.map_eq_some_iff.1 hi
  have h1:¬ c<n:=by omega
  cases a with
  | none =>
    simp [Instr.slice,run_underlying ht,sizeOf,typeInfo,hi1,go_sem,h1]
  | some ad =>
    simp [Instr.slice,run_underlying ht,sizeOf,typeInfo,hi1,hi2,go_sem,h1,Addr.add]
 obtain ⟨g,cap,w5,hrun,hown,hgr,hge⟩:=ZU (P:=ay) W1 32 32 3 (by kernel_rfl) Tryz.infoInt rfl hr1 hnil (N:=w.heap.size) (u := ah (x:Int)) (by rw [hW1];exact ((aA.new w _ _).drew).cell 0 rfl) rfl (by decide) (by omega)
 have hrun9:(app9 #[32,32] 32 #[.slice a n n,.slice (some ⟨w.heap.size,0,none⟩) 1 1]).run ay (w.alloc (.cells #[ah (x:Int)] 3)).drew = .ok (.slice (some ⟨g,0,none⟩) (n+1) cap) w5:=by rw [<- hW1];exact hrun
 have hk5:Keep none_ w w5:=hk1.trans ⟨hgr.os,hgr.tape,hgr.output,hgr.size,fun k hk _=>hgr.block k hk (by simp)⟩
 have hrow5:bC o w5 3 (.slice (some ⟨g,0,none⟩) (n+1) cap) (aG (xs++[x])):=by
  have h9:w5.ownsRow W1.heap.size 3 1 (.slice (some ⟨g,0,none⟩) (n+1) cap) (n+1) (aG (xs++[x])):=by
   have e:aG (xs++[x])=aG xs++[ah (x:Int)]:=by simp [aG]
   rw [e];exact hown
  exact bC.tV h9 (by omega) (fun b hb=>hf0 b (Nat.le_trans hk1.size hb))
 have c5:=hk5.still hc
 have f5:=(hk5.blk hb (fun f=>f)).free 0
 have fD:Hid (dS o (w5.setCell ⟨b,0,none⟩ (.slice (some ⟨g,0,none⟩) (n+1) cap)) b T rest (xs++[x])/\Keep (only b) w (w5.setCell ⟨b,0,none⟩ (.slice (some ⟨g,0,none⟩) (n+1) cap))) :=
  ⟨(h.still hk5).set hrow5 (fun _ _ e=>by cases e),(hk5.mono (fun _ _ f=>f.elim)).put 0 _⟩
 have hlt:b<w.heap.size:=hb.lt
 have hc1:∀ o,(w.alloc o).cell? ⟨b,0,none⟩=some (.slice a n c):=fun o=>((Keep.refl none_ w).alloc o).still hc
 have hn0:(n:Int)<=100000:=by omega
 clear h hr hb hl hf hk1 hr1 hnil hrun hown hgr hge hk5 hrow5 hf0 hm hn hW1
 go_enter func211,ntmps211
 go_region
 all_goals
  go_wp2_with fail
  go_end0
  exact ⟨rfl,fD.out.1,fD.out.2⟩
end
end
end Go.Proofs.YtanfphjoebobaaaGreatDoor
