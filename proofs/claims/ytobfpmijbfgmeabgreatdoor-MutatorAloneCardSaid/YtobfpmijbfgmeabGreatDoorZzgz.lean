/- Parts of the walk. No conditions. -/
import Derived.Test.YtobfpmijbfgmeabGreatDoorZzgy
namespace Go.Proofs.YtobfpmijbfgmeabGreatDoor
open _root_.Bool renaming eq_false_iff->acY
open _root_.Int renaming le_refl->adG,toNat_natCast->abB
open _root_.List renaming getD_eq_getElem?_getD->ace,getElem?_eq_getElem->abr,getElem?_replicate->adI,length_replicate->adH,mem_of_getElem?->adp,replicate->abn
open _root_.Nat renaming lt_of_lt_of_le->abj,zero_le->abZ
open _root_.Go.Proofs.Tryz hiding prog
open _root_.Go.Proofs.Tryz renaming prog->ay
set_option maxHeartbeats 400000
section
def wJ (H:HS) (k:Nat) (all:List Nat):Prop:=all.Nodup/\∀ a∈all,H.jH a=true/\∃ B,H.dY a=some (B,k)
def Md (c:aS) (H:HS) (R:List Nat) (o:bQ):MD->Prop
 | .gZ o'=>o'=o
 | .field b f t=>dG c o=0/\b≠0/\((o.k=2/\b=R.getD o.b.toNat 0/\f=o.c/\t = .load o b)\/(o.k=3/\b=R.getD o.a.toNat 0/\f=o.b/\t = .last (.field b f (R.getD o.c.toNat 0))))
 | .load o' b=>o'=o/\dG c o=0/\o.k=2/\b≠0/\b=R.getD o.b.toNat 0/\0<=o.c/\o.c<((H.gV b).1:Int)
 | .last (.field b f v)=>dG c o=0/\o.k=3/\b≠0/\b=R.getD o.a.toNat 0/\f=o.b/\v=R.getD o.c.toNat 0/\0<=f/\f<((H.gV b).1:Int)
 | .last (.cell i v)=>dG c o=0/\o.k=5/\i=o.a/\v=R.getD o.b.toNat 0
 | .get o'=>o'=o/\dG c o=0/\o.k=4
 | .alloc o' k=>o'=o/\dG c o=0/\o.k=1/\k=iG o.b
 | .assign o' k=>o'=o/\dG c o=0/\o.k=1/\k=iG o.b
 | .iQ o' all=>o'=o/\dG c o=0/\o.k=1/\wJ H (iG o.b) all
 | .iK o' k=>o'=o/\dG c o=0/\o.k=1/\k=iG o.b/\∀ x∈H.K,x≠0
 | .ig o' k=>o'=o/\dG c o=0/\o.k=1/\k=iG o.b/\∀ x∈H.K,x≠0
 | .fill o' a=>o'=o/\dG c o=0/\o.k=1/\wJ H (iG o.b) [a]
 | .zero o' a i=>o'=o/\dG c o=0/\o.k=1/\H.jH a=true/\H.kN a=some o.b.toNat/\(i:Int)<=o.b/\∀ j,j<i->H.dV (a+1+j)=0
 | _=>False
def Jm (c:aS) (H:HS) (A:List Nat) (S:List Int) (L:List bF) (o:bQ) (code:Int) (v:Nat) (P:List Nat->List Int->List bF->Prop):Prop :=
 (code=10/\o.k=1/\dG c o=0/\v=0/\H.row (iG o.b)=[]/\(∀ x∈H.K,x≠0)/\P A S L) \/
 (code≠10/\code=(fH c S L 0 o).2.2.2/\∃ A',((o.k=1/\code=0/\A'=A++[v]/\v∉A/\H.bn v=true)\/(¬ (o.k=1/\code=0)/\A'=A))/\v=dO A' (fH c S L 0 o).2.2.1/\P A' (fH c S L 0 o).1 (fH c S L 0 o).2.1)
theorem Jm.mono {c:aS} {H:HS} {A:List Nat} {S:List Int} {L:List bF} {o:bQ} {code:Int} {v:Nat} {P Q:List Nat->List Int->List bF->Prop} (h:Jm c H A S L o code v P) (hq:∀ a s l,P a s l->Q a s l):Jm c H A S L o code v Q:=by
 rcases h with ⟨h1,h2,h3,h4,h5,h6,h7⟩|⟨h1,h2,A',h3,h4,h5⟩
 ·exact .inl ⟨h1,h2,h3,h4,h5,h6,hq _ _ _ h7⟩
 ·exact .inr ⟨h1,h2,A',h3,h4,hq _ _ _ h5⟩
def iO (c:aS) (m:MS) (A:List Nat) (S:List Int) (L:List bF) (o:bQ) (r:lZ):Prop :=
 (r.ev=none/\dR r.next=false/\r.m=m/\iI c r.s.H m.aI A S L/\Md c r.s.H m.aI o r.next) \/
 (∃ code v R',r.next = .nil/\r.ev=some (m.ev code v)/\r.m={ m with aI:=R',held:=0,aU:=m.aU++[(code,v)] }/\Jm c r.s.H A S L o code v (iI c r.s.H R'))
section
variable {c:aS} {H H':HS} {R A:List Nat} {S:List Int} {L:List bF} {s:Sh} {m:MS} {o:bQ}
theorem iO.next {s':Sh} {d:MD} (hA:iI c s'.H m.aI A S L) (hm:Md c s'.H m.aI o d) (hn:dR d=false):iO c m A S L o ⟨s',m,d,none⟩ := .inl ⟨rfl,hn,rfl,hA,hm⟩
theorem iO.dU (hA:iI c s.H m.aI A S L) {code:Int} (h10:code≠10) (h0:code≠0) (hr:fH c S L 0 o=(S,L,0,code)):iO c m A S L o (iq s m code 0) :=
 .inr ⟨code,0,_,rfl,rfl,rfl,.inr ⟨h10,by rw [hr],A,.inr ⟨fun h=>h0 h.2,rfl⟩,by rw [hr,kK],by rw [hr];exact hA⟩⟩
theorem iO.Ye {s':Sh} {r x:Int} {v:Nat} (hA:iI c s'.H m.aI A S L) (hr:0<=r/\r<c.r) (h0:0<=x) (h1:x<=(A.length:Int)) (hv:v=dO A x) (hk:o.k≠1) (hd:fH c S L 0 o=(S,fJ L 1 0 r x,x,0)):iO c m A S L o (jU s' m r v):=by
 refine .inr ⟨0,v,_,rfl,rfl,rfl,.inr ⟨by decide,by rw [hd],A,.inr ⟨fun h=>hk h.1,rfl⟩,by rw [hd];exact hv,?_⟩⟩
 rw [hd,hv]
 exact hA.yZ hr h0 h1
theorem iI.c0 (hc:c.ok=true):¬ ((0:Int)<0\/c.m<=0):=by have:=iT hc;omega
theorem zX (h:iI c H R A S L) {x:Int} (h0:0<=x) (h1:x<=(A.length:Int)) (hb:dO A x≠0):∃ (i a:Nat),x=(i:Int)+1/\A[i]?=some a/\dO A x=a/\H.bn a=true/\(H.gV a).1=H.nf a/\S.getD (x - 1).toNat 0=(H.nf a:Int):=by
 have hx:x≠0:=fun e=>hb ((h.told h0 h1).1.2 e)
 obtain ⟨i,hi,a,ha,ht⟩:=Jk (A:=A) (x:=x) ⟨by omega,h1⟩
 have hbn:=(h.bn a).2 (adp ha)
 have hp:=h.Jl (adp ha)
 refine ⟨i,a,hi,ha,ht,hbn,?_,?_⟩
 ·unfold HS.gV HS.lH
  rw [aO (by omega:a≠0),aV (qQ hbn),aV rfl]
 ·rw [show (x - 1).toNat=i by omega];exact h.qC i a ha
theorem BK {a:Nat} (h1:1<=a) (hb:H.bn a=true) {f:Int} (hf:0<=f/\f<(H.nf a:Int)):H.jm a f=0:=by
 unfold HS.jm HS.lH
 rw [aO (by omega:a≠0),aV (qQ hb),aV rfl,aO (by omega)]
theorem Ru (hc:c.ok=true) (hm:m.c=c) (hM:m.gu=0) (hA:iI c s.H m.aI A S L) (o:bQ):iO c m A S L o (nT s m o):=by
 have h1:=iI.c0 hc
 have ly:∀ v rd,m.ni v rd = .last rd:=fun v rd=>by unfold MS.ni;rw [aV hM]
 subst hm
 unfold nT
 by_cases h2:dG m.c o=0
 rotate_left
 ·rw [aV h2]
  exact iO.dU hA XU h2 (LY h1 _ h2)
 rw [aO (fun h=>h h2)]
 have kG:∀ r:Int,0<=r/\r<m.c.r->m.fP r=dO A (dw L 1 0 r):=fun r hr=>by
  have:=hA.fP r.toNat (by have:=hA.rl;omega)
  rw [show ((r.toNat:Nat):Int)=r by omega] at this
  exact this
 obtain ⟨k,a,b,d⟩:=o
 rcases jE h2 with ⟨rfl,ha,hb⟩|⟨rfl,ha,hb⟩|⟨rfl,ha,hb⟩|⟨rfl,ha,hb⟩|⟨rfl,ha,hb⟩|⟨rfl,ha⟩|⟨rfl,ha,hb⟩|rfl
 all_goals simp only [Int.reduceEq,if_true,if_false]
 ·exact iO.next hA ⟨rfl,h2,rfl,rfl⟩ rfl
 ·simp only at ha hb
  unfold jA
  have ht:=hA.told (hA.kP 1 0 b).1 (hA.kP 1 0 b).2
  split
  ·rename_i e
   rw [kG b hb] at e
   exact iO.dU hA (by decide) (by decide) (U6 h1 h2 (ht.1.1 e))
  ·rename_i e
   exact iO.next hA ⟨h2,e,.inl ⟨rfl,rfl,rfl,rfl⟩⟩ rfl
 ·simp only at ha hb
  unfold jA
  have ht:=hA.told (hA.kP 1 0 a).1 (hA.kP 1 0 a).2
  split
  ·rename_i e
   rw [kG a ha] at e
   exact iO.dU hA (by decide) (by decide) (U8 h1 h2 (ht.1.1 e))
  ·rename_i e
   rw [ly]
   exact iO.next hA ⟨h2,e,.inr ⟨rfl,rfl,rfl,rfl⟩⟩ rfl
 ·exact iO.next hA ⟨rfl,h2,rfl⟩ rfl
 ·rw [ly]
  exact iO.next hA ⟨h2,rfl,rfl,rfl⟩ rfl
 ·simp only at ha
  refine .inr ⟨0,0,_,rfl,rfl,rfl,.inr ⟨by decide,by rw [rdo6 h1 h2],A,.inr ⟨fun h=>by have:=h.1;simp at this,rfl⟩,by rw [rdo6 h1 h2,kK],?_⟩⟩
  rw [rdo6 h1 h2]
  have:=hA.yZ ha (x:=0) (adG _) (by omega)
  rw [kK] at this
  exact this
 ·simp only at ha hb
  exact iO.Ye hA ha (hA.kP 1 0 b).1 (hA.kP 1 0 b).2 (kG b hb) (by show (7:Int)≠1;decide) (rdo7 h1 h2)
 ·refine .inr ⟨0,0,_,rfl,rfl,rfl,.inr ⟨by decide,by rw [rdo8 h1 h2],A,.inr ⟨fun h=>by have:=h.1;simp at this,rfl⟩,by rw [rdo8 h1 h2,kK],?_⟩⟩
  rw [rdo8 h1 h2]
  exact hA
end
section
variable {c:aS} {H H':HS} {R A:List Nat} {S:List Int} {L:List bF} {s:Sh} {m:MS} {o:bQ}
theorem FI {a v:Nat} {f:Int} (h:H.jm a f=0) (hv:v<=H.n):H.lV a f v=0:=by
 unfold HS.lV
 rw [aV h,aV hv]
theorem wJ.iQ {k:Nat} {all:List Nat} (h2:dG c o=0) (h3:o.k=1) (hk:k=iG o.b) (hl:1<=all.length) (h:wJ H k all):Md c H R o (iC o all)/\dR (iC o all)=false:=by
 subst hk
 unfold iC
 split
 ·rename_i e
  refine ⟨⟨rfl,h2,h3,?_⟩,rfl⟩
  match all,e with
  | [x],_=>exact h
 ·exact ⟨⟨rfl,h2,h3,h⟩,rfl⟩
theorem KL (hi:dB H) (hkl:H.K.length=H.b) {B k:Nat} (hB:B<H.b) (h0:H.K.getD B 0=0):wJ (H.assign B k) k ((H.assign B k).bZ B):=by
 refine ⟨AP B,fun a ha=>?_⟩
 obtain ⟨k',ho⟩:=vT (H:=H.assign B k) hB ha
 have hs:=dK ho
 have hK:(H.K.set B (k+1)).getD B 0=k+1:=nV (by omega) _
 have hk:k'=k:=by
  have h4:(H.K.set B (k+1)).getD B 0=k'+1:=hs.2.2.2.1
  omega
 subst hk
 have hno:∀ B' q,H.dY a≠some (B',q):=fun B' q h=>by
  have h5:=dK h
  have:B'=B:=by rw [h5.2.2.1,hs.2.2.1];rfl
  rw [this,h0] at h5
  have:=h5.2.2.2.1
  omega
 refine ⟨lC.2 ⟨by rw [ho];rfl,?_,?_⟩,B,ho⟩
 ·rw [acY]
  intro hb
  obtain ⟨B',q,f,h6,_⟩:=hi.jh a hb
  exact hno _ _ h6
 ·rw [acY]
  intro hb
  obtain ⟨q,hq,hm⟩:=hi.eY.1 (show H.eY a=true from hb)
  obtain ⟨_,B',h6⟩:=hi.jW q hq a hm
  exact hno _ _ h6
theorem Jo (hA:iI c s.H m.aI A S L) (h2:dG c o=0) (h3:o.k=1) {k:Nat} (hk:k=iG o.b) (he:(s.H.dh k).2.1=0):iO c m A S L o ⟨{ s with H:=(s.H.dh k).2.2 },m,.fill o (s.H.dh k).1,none⟩:=by
 have hk4:k<4:=by rw [hk];exact yY _
 have hs:=Rt (H:=s.H) k
 cases hr:s.H.row k with
 | nil=>unfold HS.dh at he;rw [hr] at he;cases he
 | cons a l =>
   have e:s.H.dh k=(a,0,s.H.take k):=by unfold HS.dh;rw [hr]
   rw [e] at hs ⊢
   obtain ⟨_,⟨B,ho⟩,hb,hi,_⟩:=hA.dQ.UE hk4 hr
   have hA':=hA.same hs (hA.dQ.take hk4)
   refine iO.next hA' ⟨rfl,h2,h3,?_⟩ rfl
   refine ⟨by simp,fun x hx=>?_⟩
   simp at hx
   subst hx
   refine ⟨lC.2 ⟨by show (s.H.dY x).isSome=true;rw [ho];rfl,hb,?_⟩,B,by rw [<- hk];exact ho⟩
   show (s.H.take k).eY x=false
   rw [hA.dQ.GU hk4 hr,aV rfl]
theorem zK {a b d:Int} (h:dG c ⟨1,a,b,d⟩=0):(0<=a/\a<c.r)/\0<=b/\iY (iG b) b.toNat:=by
 rcases jE h with ⟨_,ha,hb⟩|⟨h,_⟩|⟨h,_⟩|⟨h,_⟩|⟨h,_⟩|⟨h,_⟩|⟨h,_⟩|h
 ·simp only at ha hb
  refine ⟨ha,hb.1,yY _,?_⟩
  unfold iG
  rw [aO (by omega)]
  split
  ·show _<=2;omega
  ·split
   ·show _<=4;omega
   ·split
    ·show _<=8;omega
    ·rw [aV (by omega)];show _<=16;omega
 all_goals (simp only at h;omega)
theorem OU (hA:iI c s.H m.aI A S L) (Jp:16<=s.H.ww) (h2:dG c o=0) (h3:o.k=1) {k:Nat} (hk:k=iG o.b):iO c m A S L o (stepM s m (.assign o k)):=by
 have hk4:k<4:=by rw [hk];exact yY _
 have hs:=KJ (H:=s.H) k
 simp only [stepM]
 cases hf:s.H.K.findIdx? (fun x=>x==0) with
 | none =>
   have e:s.H.bT k=([],10,s.H):=by unfold HS.bT;rw [hf]
   rw [e,aO (show ¬ ((10:Nat)=0) by decide)]
   refine iO.next hA ⟨rfl,h2,h3,hk,fun x hx e=>?_⟩ rfl
   have:=List.findIdx?_eq_none_iff.1 hf x hx
   rw [e] at this;cases this
 | some B =>
   have e:s.H.bT k=((s.H.assign B k).bZ B,0,s.H.assign B k):=by unfold HS.bT;rw [hf]
   rw [List.findIdx?_eq_some_iff_getElem] at hf
   obtain ⟨hlt,hz,_⟩:=hf
   have h0:s.H.K.getD B 0=0:=by
    rw [ace,abr hlt]
    simpa using hz
   have hB:B<s.H.b:=by have:=hA.kl;omega
   rw [e] at hs ⊢
   rw [aV rfl]
   have hA':=hA.same hs (hA.dQ.assign h0 hk4)
   have hl:((s.H.assign B k).bZ B).length=s.H.ww/2^(k+1):=by
    have hK:(s.H.assign B k).K.getD B 0=k+1:=nV hlt _
    unfold HS.bZ
    rw [hK,aO (by omega)]
    simp [jD,HS.assign]
   have hp:=IB hk4
   have hl1:1<=s.H.ww/2^(k+1):=(Nat.le_div_iff_mul_le hp.2).2 (by omega)
   have hcv:=wJ.iQ (R:=m.aI) h2 h3 hk (by rw [hl];exact hl1) (KL hA.dQ hA.kl hB h0)
   exact iO.next hA' hcv.1 hcv.2
theorem Rw (hA:iI c s.H m.aI A S L) (h2:dG c o=0) (h3:o.k=1) {all:List Nat} (hl:2<=all.length) (h:wJ s.H (iG o.b) all):iO c m A S L o (stepM s m (.iQ o all)):=by
 simp only [stepM]
 obtain ⟨x,hx⟩:∃ x,all[all.length - 1]?=some x:=⟨_,abr (by omega)⟩
 have hxm:=adp hx
 have hxd:all.getD (all.length - 1) 0=x:=by rw [ace,hx];rfl
 rw [hxd]
 obtain ⟨hh,B,ho⟩:=h.2 x hxm
 obtain ⟨_,hb,hi⟩:=lC.1 hh
 have hp:s.H.fA x=s.H.put x (iG o.b):=by
  unfold HS.fA
  rw [ho]
  simp only
  rw [hb,hi,aO (by decide)]
 have hsm:=Ug hA.dQ x
 rw [hp] at hsm ⊢
 have hA':=hA.same hsm (hA.dQ.put ho hb hi)
 have hnd:(all.take (all.length - 1)).Nodup:=h.1.sublist (List.take_sublist _ _)
 have hnx:x∉all.take (all.length - 1):=fun hm=>by
  obtain ⟨i,hi1,hi2⟩:=List.mem_iff_getElem.1 hm
  rw [List.getElem_take] at hi2
  have hi3:i<all.length - 1:=by simp at hi1;omega
  have hi4:all[i]?=some x:=List.getElem?_eq_some_iff.2 ⟨by omega,hi2⟩
  have:=(List.getElem?_inj (by omega) h.1).1 (hi4.trans hx.symm)
  omega
 have Y6:wJ (s.H.put x (iG o.b)) (iG o.b) (all.take (all.length - 1)):=by
  refine ⟨hnd,fun a ha=>?_⟩
  have ham:=List.mem_of_mem_take ha
  obtain ⟨g1,g2⟩:=h.2 a ham
  obtain ⟨k1,k2,k3⟩:=lC.1 g1
  refine ⟨lC.2 ⟨k1,k2,?_⟩,g2⟩
  rw [hA.dQ.Lh ho hb hi,aO (fun e:a=x=>hnx (by rw [<- e];exact ha))]
  exact k3
 have hcv:=wJ.iQ (R:=m.aI) h2 h3 rfl (by rw [List.length_take];omega) Y6
 exact iO.next hA' hcv.1 hcv.2
theorem Uh (hA:iI c s.H m.aI A S L) (h2:dG c o=0) (h3:o.k=1) {a:Nat} (h:wJ s.H (iG o.b) [a]):iO c m A S L o (stepM s m (.fill o a)):=by
 simp only [stepM]
 obtain ⟨hh,B,ho⟩:=h.2 a (by simp)
 obtain ⟨h4,hb,hi⟩:=lC.1 hh
 have hfit:0<=o.b/\iY (iG o.b) o.b.toNat:=by
  obtain ⟨ok,oa,ob,oc⟩:=o
  simp only at h3
  subst h3
  exact (zK h2).2
 have hp:s.H.jf a o.b=s.H.oq a (iG o.b) o.b.toNat:=by
  unfold HS.jf
  rw [ho]
  simp only
  rw [hh,cZ hfit.1,cZ hfit.2,aV (by rfl)]
 have hsm:=OQ hA.dQ a o.b
 rw [hp] at hsm ⊢
 have hA':=hA.same hsm (hA.dQ.oq ho hb hi hfit.2)
 refine iO.next hA' ⟨rfl,h2,h3,lC.2 ⟨h4,hb,hi⟩,?_,by show (0:Int)<=_;exact hfit.1,fun j hj=>absurd hj (by omega)⟩ rfl
 have hs:=dK ho
 have hw:(s.H.oq a (iG o.b) o.b.toNat).dV a=iM (iG o.b) o.b.toNat:=by
  unfold HS.dV
  rw [show (s.H.oq a (iG o.b) o.b.toNat).A=s.H.A.set (a - 1) (iM (iG o.b) o.b.toNat) from rfl,qo hs.1 (by have:=hA.dQ.lU;omega),aV rfl]
 unfold HS.kN
 rw [hw,DT hfit.2];rfl
theorem Ui (hc:c.ok=true) (hA:iI c s.H m.aI A S L) (nC:m.bK<2) (h2:dG c o=0) (h3:o.k=1) {a i:Nat} (hh:s.H.jH a=true) (kN:s.H.kN a=some o.b.toNat) (hi:(i:Int)<=o.b) (hz:∀ j,j<i->s.H.dV (a+1+j)=0):iO c m A S L o (stepM s m (.zero o a i)):=by
 have hfit:(0<=o.a/\o.a<c.r)/\0<=o.b:=by
  obtain ⟨ok,oa,ob,oc⟩:=o
  simp only at h3
  subst h3
  exact ⟨(zK h2).1,(zK h2).2.1⟩
 obtain ⟨h4,hb,hin⟩:=lC.1 hh
 obtain ⟨⟨B,k⟩,ho⟩:=Option.isSome_iff_exists.1 h4
 have hs:=dK ho
 simp only [stepM]
 by_cases e:(i:Int)=o.b
 ·rw [aV e]
  have hp:s.H.iZ a m.bK=s.H.rE a (m.bK==1):=by
   unfold HS.iZ
   rw [hh,kN,cZ nC,aV (by rfl)]
  have had:=hA.add hh kN (by rw [<- e];simpa using hz) (m.bK==1) hfit.1
  have hob:((o.b.toNat:Nat):Int)=o.b:=by omega
  rw [hob] at had
  have hrd:fH c S L 0 o=(S++[o.b],fJ L 1 0 o.a ((S.length:Int)+1),(S.length:Int)+1,0):=by
   unfold fH
   rw [aO (iI.c0 hc),aO (fun h=>h h2),aV h3]
  refine .inr ⟨0,a,_,rfl,rfl,rfl,.inr ⟨by decide,by rw [hrd],A++[a],.inl ⟨h3,rfl,rfl,had.2,?_⟩,?_,?_⟩⟩
  ·show (s.H.iZ a m.bK).bn a=true
   rw [hp]
   show jL s.H.bn a true a=true
   unfold jL
   rw [aV rfl]
  ·rw [hrd,hA.len,FD]
  ·rw [hrd]
   show iI c (s.H.iZ a m.bK) (m.aI.set o.a.toNat a) _ _ _
   rw [hp]
   exact had.1
 ·rw [aO e]
  have hO:s.H.sU a=true:=by unfold HS.sU;rw [hh,kN];simp
  have hnf:s.H.nf a=o.b.toNat:=by unfold HS.nf;rw [kN];rfl
  have hfl:=hA.dQ.field hO (f:=i) (by omega)
  have hp:s.H.dX a (i:Int) 0=s.H.jC (a+1+i) 0:=by
   have hle:s.H.jm a (i:Int)=0:=by
    unfold HS.jm HS.lH
    rw [aO (by omega:a≠0),aV hO,aV rfl,aO (by omega)]
   unfold HS.dX
   rw [aV (FI hle (abZ _)),abB]
  have hsm:=OT hA.dQ hh (i:Int) 0
  rw [hp] at hsm ⊢
  have hA':=hA.same hsm (hA.dQ.jC (by omega) hfl.2.1 hfl.1 hfl.2.2.2 (by decide))
  have hw:∀ y,(s.H.jC (a+1+i) 0).dV y=if y=a+1+i then 0 else s.H.dV y:=fun y=>qo (by omega) (by have:=hA.dQ.lU;omega) _ y
  refine iO.next hA' ⟨rfl,h2,h3,lC.2 ⟨h4,hb,hin⟩,?_,by omega,fun j hj=>?_⟩ rfl
  ·unfold HS.kN
   rw [hw,aO (by omega)]
   exact kN
  ·rw [hw]
   split
   ·rfl
   ·exact hz j (by omega)
theorem Uj {N:Nat} (hc:c.ok=true) (hm:m.c=c) (hM:m.gu=0) (hq:∀ k,s.Q.rw k=[]) (hs:qV N s m) (Jp:16<=s.H.ww) (hA:iI c s.H m.aI A S L) (d:MD) (hd:qh d) (hn:dR d=false) (hmid:Md c s.H m.aI o d):iO c m A S L o (stepM s m d):=by
 have h1:=iI.c0 hc
 have kG:∀ r:Int,0<=r/\r<c.r->m.aI.getD r.toNat 0=dO A (dw L 1 0 r):=fun r hr=>by
  have:=hA.fP r.toNat (by have:=hA.rl;omega)
  rw [show ((r.toNat:Nat):Int)=r by omega] at this
  exact this
 cases d with
 | nil=>cases hn
 | gZ o' =>
   obtain rfl:o'=o:=hmid
   exact Ru hc hm hM hA o'
 | field b f t =>
   obtain ⟨h2,hb0,hx⟩:=hmid
   obtain ⟨ok,oa,ob,oc⟩:=o
   simp only [stepM]
   rcases hx with ⟨hk,hb,hf,ht⟩|⟨hk,hb,hf,ht⟩
   all_goals
    simp only at hk hb hf
    subst hk
   ·have hcs:=jE h2
    simp only [Int.reduceEq,false_and,false_or,true_and,or_false] at hcs
    rw [kG ob hcs.2] at hb
    obtain ⟨i,a,hi,ha,hta,hbn,hfp,hsz⟩:=zX hA (hA.kP 1 0 ob).1 (hA.kP 1 0 ob).2 (by rw [<- hb];exact hb0)
    have hx0:dw L 1 0 ob≠0:=by omega
    have hba:b=a:=hb.trans hta
    split
    ·rename_i e
     refine iO.dU hA (by decide) (by decide) (U7 h1 h2 hx0 ?_)
     rw [hsz,<- hfp,<- hba,<- hf]
     exact e
    ·rename_i e
     subst ht
     refine iO.next hA ⟨rfl,h2,rfl,hb0,?_,?_,?_⟩ rfl
     ·rw [kG ob hcs.2];exact hb
     ·simp only;omega
     ·simp only;omega
   ·have hcs:=jE h2
    simp only [Int.reduceEq,false_and,false_or,true_and,or_false] at hcs
    rw [kG oa hcs.1] at hb
    obtain ⟨i,a,hi,ha,hta,hbn,hfp,hsz⟩:=zX hA (hA.kP 1 0 oa).1 (hA.kP 1 0 oa).2 (by rw [<- hb];exact hb0)
    have hx0:dw L 1 0 oa≠0:=by omega
    have hba:b=a:=hb.trans hta
    split
    ·rename_i e
     refine iO.dU hA (by decide) (by decide) (U9 h1 h2 hx0 ?_)
     rw [hsz,<- hfp,<- hba,<- hf]
     exact e
    ·rename_i e
     subst ht
     refine iO.next hA ⟨h2,rfl,hb0,?_,hf,rfl,?_,?_⟩ rfl
     ·rw [kG oa hcs.1];exact hb
     ·omega
     ·omega
 | load o' b =>
   obtain ⟨rfl,h2,hk,hb0,hb,hf0,hf1⟩:=hmid
   obtain ⟨ok,oa,ob,oc⟩:=o'
   simp only at hk hb hf0 hf1
   subst hk
   have hcs:=jE h2
   simp only [Int.reduceEq,false_and,false_or,true_and,or_false] at hcs
   rw [kG ob hcs.2] at hb
   obtain ⟨i,a,hi,ha,hta,hbn,hfp,hsz⟩:=zX hA (hA.kP 1 0 ob).1 (hA.kP 1 0 ob).2 (by rw [<- hb];exact hb0)
   have hba:b=a:=hb.trans hta
   subst hba
   rw [hfp] at hf1
   have hpos:=hA.Jl (adp ha)
   refine iO.Ye hA hcs.1 (hA.kP 3 (dw L 1 0 ob) oc).1 (hA.kP 3 (dw L 1 0 ob) oc).2 ?_ (by show (2:Int)≠1;decide) ?_
   ·unfold HS.iE
    simp only
    rw [aV (BK hpos.1 hbn ⟨hf0,hf1⟩),hA.FH i b oc.toNat ha (by omega),hi,show ((oc.toNat:Nat):Int)=oc by omega]
   ·exact rdo2 h1 h2 (by omega) (by rw [hsz];omega)
 | last rd =>
   cases rd with
   | field b f v =>
     obtain ⟨h2,hk,hb0,hb,hf,hv,hf0,hf1⟩:=hmid
     obtain ⟨ok,oa,ob,oc⟩:=o
     simp only at hk hb hf hv
     subst hk
     subst hf
     have hcs:=jE h2
     simp only [Int.reduceEq,false_and,false_or,true_and,or_false] at hcs
     rw [kG oa hcs.1] at hb
     rw [kG oc hcs.2] at hv
     obtain ⟨i,a,hi,ha,hta,hbn,hfp,hsz⟩:=zX hA (hA.kP 1 0 oa).1 (hA.kP 1 0 oa).2 (by rw [<- hb];exact hb0)
     have hba:b=a:=hb.trans hta
     subst hba
     rw [hfp] at hf1
     have hpos:=hA.Jl (adp ha)
     have ht:=(hA.told (hA.kP 1 0 oc).1 (hA.kP 1 0 oc).2).2
     have hst:s.H.dX b f v=s.H.jC (b+1+f.toNat) v:=by
      unfold HS.dX
      rw [aV (FI (BK hpos.1 hbn ⟨hf0,hf1⟩) (by rw [hv];exact ht))]
     have hrd:fH c S L 0 ⟨3,oa,f,oc⟩=(S,fJ L 3 (dw L 1 0 oa) f (dw L 1 0 oc),0,0):=rdo3 h1 h2 (by omega) (by rw [hsz];omega)
     refine .inr ⟨0,0,_,rfl,rfl,rfl,.inr ⟨by decide,by rw [hrd],A,.inr ⟨fun h=>by have:=h.1;simp at this,rfl⟩,by rw [hrd,kK],?_⟩⟩
     rw [hrd]
     show iI c (s.H.dX b f v) m.aI A S _
     rw [hst,hv,hi]
     exact hA.Yc ha ⟨hf0,hf1⟩ (hA.kP 1 0 oc).1 (hA.kP 1 0 oc).2
   | cell i v =>
     obtain ⟨h2,hk,hi,hv⟩:=hmid
     obtain ⟨ok,oa,ob,oc⟩:=o
     simp only at hk hi hv
     subst hk
     subst hi
     have hcs:=jE h2
     simp only [Int.reduceEq,false_and,false_or,true_and,or_false] at hcs
     rw [kG ob hcs.2] at hv
     have ht:=(hA.told (hA.kP 1 0 ob).1 (hA.kP 1 0 ob).2).2
     have hcl:=hA.cl
     have hst:s.H.ng i v=s.H.setCell i.toNat v:=by
      have hce:s.H.kJ i=0:=by
       unfold HS.kJ
       rw [aO (by omega)]
      have hse:s.H.rF i v=0:=by
       unfold HS.rF
       rw [aV hce,aV (by rw [hv];exact ht)]
      unfold HS.ng
      rw [aV hse]
     have hrd:fH c S L 0 ⟨5,i,ob,oc⟩=(S,fJ L 2 0 i (dw L 1 0 ob),0,0):=rdo5 h1 h2
     refine .inr ⟨0,0,_,rfl,rfl,rfl,.inr ⟨by decide,by rw [hrd],A,.inr ⟨fun h=>by have:=h.1;simp at this,rfl⟩,by rw [hrd,kK],?_⟩⟩
     rw [hrd]
     show iI c (s.H.ng i v) m.aI A S _
     rw [hst,hv]
     exact hA.GY hcs.1 (hA.kP 1 0 ob).1 (hA.kP 1 0 ob).2
 | get o' =>
   obtain ⟨rfl,h2,hk⟩:=hmid
   obtain ⟨ok,oa,ob,oc⟩:=o'
   simp only at hk
   subst hk
   have hcs:=jE h2
   simp only [Int.reduceEq,false_and,false_or,true_and,or_false] at hcs
   have hcl:=hA.cl
   refine iO.Ye hA hcs.1 (hA.kP 2 0 ob).1 (hA.kP 2 0 ob).2 ?_ (by show (4:Int)≠1;decide) ?_
   ·have hce:s.H.kJ ob=0:=by
     unfold HS.kJ
     rw [aO (by omega)]
    unfold HS.kW
    simp only
    rw [aV hce,hA.pI ob.toNat (by omega),show ((ob.toNat:Nat):Int)=ob by omega]
   ·exact rdo4 h1 h2
 | alloc o' k =>
   obtain ⟨rfl,h2,h3,hk⟩:=hmid
   simp only [stepM]
   split
   ·rename_i e;exact Jo hA h2 h3 hk e
   ·exact iO.next hA ⟨rfl,h2,h3,hk⟩ rfl
 | assign o' k =>
   obtain ⟨rfl,h2,h3,hk⟩:=hmid
   exact OU hA Jp h2 h3 hk
 | iQ o' all =>
   obtain ⟨rfl,h2,h3,hk⟩:=hmid
   exact Rw hA h2 h3 hd hk
 | iK o' k =>
   obtain ⟨rfl,h2,h3,hk,hK⟩:=hmid
   simp only [stepM]
   rw [hq k]
   exact iO.next hA ⟨rfl,h2,h3,hk,hK⟩ rfl
 | ig o' k =>
   obtain ⟨rfl,h2,h3,hk,hK⟩:=hmid
   simp only [stepM]
   split
   ·rename_i e;exact Jo hA h2 h3 hk e
   ·rename_i e
    refine .inr ⟨10,0,_,rfl,rfl,rfl,.inl ⟨rfl,h3,h2,rfl,?_,hK,hA⟩⟩
    show s.H.row (iG o'.b)=[]
    rw [<- hk]
    unfold HS.dh at e
    split at e
    ·assumption
    ·exact absurd rfl e
 | fill o' a =>
   obtain ⟨rfl,h2,h3,hk⟩:=hmid
   exact Uh hA h2 h3 hk
 | zero o' a i =>
   obtain ⟨rfl,h2,h3,hh,kN,hi,hz⟩:=hmid
   exact Ui hc hA hs.bK h2 h3 hh kN hi hz
 | _=>exact hd.elim
end
structure wK (c:aS) (s:Sh) (m:MS) (A:List Nat) (S:List Int) (L:List bF):Prop where
 qE:iI c s.H m.aI A S L
 qp:BG s m
 cf:m.c=c
 mid:dR m.next=false->∃ o,m.prog[m.aU.length]?=some o/\Md c s.H m.aI o m.next
 sp:dR m.next=false->m.aY+mg s.H.ww m.next<=s.H.ww+26
 lY:dR m.next=false->m.lY=false
 mo:m.most0<=s.H.ww+26
 m1:m.most1=0
 held:m.held=0
section
variable {c:aS} {A:List Nat} {S:List Int} {L:List bF} {s:Sh} {m:MS} {o:bQ}
theorem Uk {N:Nat} (hc:c.ok=true) (ok:qA N s m) (h:wK c s m A S L) (hd:jG m=false) :
 ((cu s m).2.2=none/\(cu s m).2.1.aU=m.aU/\wK c (cu s m).1 (cu s m).2.1 A S L) \/
 (∃ o code v,m.prog[m.aU.length]?=some o/\(cu s m).2.2=some (m.ev code v)/\(cu s m).2.1.aU=m.aU++[(code,v)]/\Jm c (cu s m).1.H A S L o code v (wK c (cu s m).1 (cu s m).2.1)):=by
 have hcm:=Fa ok h.qp hd
 have hle:=h.qp.le
 unfold cu at hcm ⊢
 by_cases hn:dR m.next=true
 ·rw [aV hn] at hcm ⊢
  have hlt:m.aU.length<m.prog.length:=by
   unfold jG at hd
   rw [hn,Bool.true_and] at hd
   have:=of_decide_eq_false hd
   omega
  have hb:jg s m = .gZ (m.prog[m.aU.length]'hlt):=by
   unfold jg
   rw [h.qp.s.ji,aO (by decide),abr hlt]
  refine .inl ⟨rfl,rfl,h.qE,hcm.1,h.cf,fun _=>⟨_,abr hlt,?_⟩,fun _=>?_,fun _=>h.qp.s.ji,h.mo,h.m1,h.held⟩
  ·show Md c s.H m.aI _ (jg s m)
   rw [hb];rfl
  ·show 1+mg s.H.ww (jg s m)<=_
   rw [hb]
   show 1+(s.H.ww+25)<=s.H.ww+26
   omega
 ·rw [aO hn] at hcm ⊢
  have hn':dR m.next=false:=by simpa using hn
  obtain ⟨o,ho,hmid⟩:=h.mid hn'
  have uV:qV N s { m with aY:=m.aY+1 }:=⟨ok.bK,ok.dA,ok.gU,ok.aU,ok.q,ok.rl⟩
  have r:=Uj (m:={ m with aY:=m.aY+1 }) (o:=o) hc h.cf h.qp.s.gu h.qp.s.q uV h.qp.s.ww h.qE m.next h.qp.nx hn' hmid
  have rc:=E5 (m:={ m with aY:=m.aY+1 }) (h.qp.s.congr ⟨rfl,rfl⟩) m.next ok.nx h.qp.nx hn'
  have hsp:=h.sp hn'
  have abd:=E8 (W:=s.H.ww) m.next ok.nx h.qp.nx hn'
  have Jp:=rc.ww
  have hls:=rc.TK
  have han:=h.lY hn'
  generalize stepM s { m with aY:=m.aY+1 } m.next=T at *
  obtain ⟨Ts,Tm,Tn,Te⟩:=T
  simp only at hcm Jp hls ⊢
  rcases r with ⟨r1,r2,r3,r4,r5⟩|⟨code,v,R',r1,r2,r3,r4⟩
  ·simp only at r1 r2 r3 r4 r5
   subst r1
   subst r3
   have hne:¬ (dR Tn=true):=by rw [r2];decide
   rw [aO hne] at hcm ⊢
   refine .inl ⟨rfl,rfl,r4,hcm.1,h.cf,fun _=>⟨o,ho,r5⟩,fun _=>?_,fun _=>han,?_,h.m1,h.held⟩
   ·show m.aY+1+mg Ts.H.ww Tn<=Ts.H.ww+26
    rw [Jp]
    omega
   ·have:=h.mo
    show m.most0<=Ts.H.ww+26
    rw [Jp]
    omega
  ·simp only at r1 r2 r3 r4
   subst r1
   subst r2
   subst r3
   rw [aV (show dR MD.nil=true from rfl)] at hcm ⊢
   have DN:({ m with aI:=R',aU:=m.aU++[(code,v)],next:=MD.nil,held:=0,aY:=m.aY+1 }:MS).most={ m with aI:=R',aU:=m.aU++[(code,v)],next:=MD.nil,held:=0,aY:=m.aY+1,most0:=max m.most0 (m.aY+1) }:=by
    unfold MS.most
    rw [aO (show ¬ (m.lY=true) by rw [han];decide)]
   rw [show ({ ({ ({ m with aY:=m.aY+1 }:MS) with aI:=R',held:=0,aU:=m.aU++[(code,v)] }:MS) with next:=MD.nil }:MS)={ m with aI:=R',aU:=m.aU++[(code,v)],next:=MD.nil,held:=0,aY:=m.aY+1 } from rfl,DN] at hcm ⊢
   refine .inr ⟨o,code,v,ho,rfl,rfl,?_⟩
   refine r4.mono (fun a' s' l' hA=>?_)
   refine ⟨hA,hcm.1,h.cf,fun h=>(by cases h),fun h=>(by cases h),fun h=>(by cases h),?_,h.m1,rfl⟩
   have:=h.mo
   show max m.most0 (m.aY+1)<=Ts.H.ww+26
   rw [Jp]
   omega
end
end
section
attribute [local go_sem] Oper.semAt_some
open Go.RowKit
def Ow.fill (o:Ow) (a b i:Nat):Ow:=fun x=>if a<=x/\x<b then i else o x
section
variable {o o':Ow} {w W W':World} {Z:List (Nat × List Value × TypeId)} {G:eH} {g:MG} {s:Sh} {m:MS} {c:aS} {B:Nat} {S:List Int} {L:List bF} {A:List Nat} {av:Value}
theorem Ow.Ul {b i:Nat}:dL W o (o.fill W.heap.size b i):=fun x hx=>by
 unfold Ow.fill
 rw [aO (by omega)]
structure yu (o:Ow) (w W:World) (Z:List (Nat × List Value × TypeId)) (G:eH) (g:MG) (s:Sh) (m:MS) (c:aS) (B:Nat) (S:List Int) (L:List bF) (A:List Nat) (av:Value):Prop where
 nU:jX o W G g s m
 vI:∀ x,x<w.heap.size->o x=0
 aH:aj aA w W
 own:∀ z∈Z,o z.1=0/\aB W z.1 z.2.1 z.2.2
 gr:∃ vs vl,jP (fun k=>o k=95) B c S L vs vl W
 row:W.ownsRow 0 3 1 av A.length (bg A)
 ro:∀ b,av.ownBlock=some b->o b=97
def bC (w W:World) (Z:List (Nat × List Value × TypeId)) (G:eH) (g:MG) (s:Sh) (m:MS) (c:aS) (B:Nat) (S:List Int) (L:List bF) (A:List Nat) (av:Value):Prop:=∃ o,yu o w W Z G g s m c B S L A av
theorem yu.fK (h:yu o w W Z G g s m c B S L A av):jS o W:=by
 obtain ⟨ev,nv,h1,_⟩:=h.nU
 exact h1.sh.fK
theorem yu.Yf (h:yu o w W Z G g s m c B S L A av) (e:dL W o o'):∃ vs vl,jP (fun k=>o' k=95) B c S L vs vl W:=by
 obtain ⟨vs,vl,hr⟩:=h.gr
 exact ⟨vs,vl,hr.there.mono (fun k hk=>(e k hk.2).trans hk.1)⟩
theorem yu.step {s':Sh} {m':MS} {I:List Nat} (h:yu o w W Z G g s m c B S L A av) (e:dL W o o') (k:aj (In o I) W W') (h0:I.contains 0=false) (h5:I.contains 95=false) (h7:I.contains 97=false) (h':jX o' W' G g s' m'):yu o' w W' Z G g s' m' c B S L A av:=by
 obtain ⟨vs,vl,hr⟩:=h.Yf e
 have hlt:∀ b,av.ownBlock=some b->b<W.heap.size:=fun b hb=>(World.ownsRow.lt h.row b hb).2
 exact ⟨h',fun x hx=>(e x (abj hx h.aH.size)).trans (h.vI x hx),h.aH.Dv k h0 h.vI,fun z hz=>⟨(e _ (h.own z hz).2.lt).trans (h.own z hz).1,(h.own z hz).2.aP k (h.own z hz).1 h0⟩,
  ⟨vs,vl,hr.aH (k.yS e) (fun i hi=>fU hi h5)⟩,fQ h.row k (fun b hb=>fU (h.ro b hb) h7),fun b hb=>(e b (hlt b hb)).trans (h.ro b hb)⟩
theorem bC.step {s':Sh} {m':MS} {I:List Nat} (h:yu o w W Z G g s m c B S L A av) (e:dL W o o') (k:aj (In o I) W W') (h0:I.contains 0=false) (h5:I.contains 95=false) (h7:I.contains 97=false) (h':jX o' W' G g s' m'):bC w W' Z G g s' m' c B S L A av:=⟨o',h.step e k h0 h5 h7 h'⟩
theorem bC.toZ (h:bC w W Z G g s m c B S L A av):rM w W Z G g s m:=by
 obtain ⟨o,h⟩:=h
 exact ⟨o,h.nU,h.vI,h.aH,h.own⟩
theorem bC.still (h:bC w W Z G g s m c B S L A av) (k:aj aA W W'):bC w W' Z G g s m c B S L A av:=by
 obtain ⟨o,h⟩:=h
 exact bC.step (I:=[]) h (dL.refl _ _) k.bU rfl rfl rfl (h.nU.vO (I:=[]) k.bU rfl (dL.refl _ _) (h.fK.aH k))
theorem bC.aH (h:bC w W Z G g s m c B S L A av):aj aA w W:=by
 obtain ⟨o,h⟩:=h
 exact h.aH
theorem bC.pick {N:Nat} (h:bC w W Z G g s m c B S L A av) (ok:qA N s m) (hN:N<=1000000000) (hid:m.id<8):Calls ay 10 #[ak g.M] W fun e w'=>e = .returned (.tuple #[xY (cu s m).2.2,wW (cu s m).2.2])/\bC w w' Z G g (cu s m).1 (cu s m).2.1 c B S L A av:=by
 obtain ⟨o,h⟩:=h
 refine (Fe h.nU ok hN (EZ _)).mono ?_
 rintro e w' ⟨o',rfl,e1,g1,k1⟩
 exact ⟨rfl,bC.step h e1 k1 (bD _) (by simp [aT];omega) (by simp [aT];omega) g1⟩
theorem bC.done (h:bC w W Z G g s m c B S L A av):Calls ay 8 #[ak g.M] W fun e w'=>e = .returned (.bool (jG m))/\bC w w' Z G g s m c B S L A av:=by
 obtain ⟨o,h1⟩:=id h
 refine (Fh h1.nU).mono ?_
 rintro e w' ⟨rfl,k⟩
 exact ⟨rfl,h.still k⟩
theorem bC.sF (h:bC w W Z G g s m c B S L A av):aK W G.D s.H:=by
 obtain ⟨o,h⟩:=h
 obtain ⟨ev,nv,h1,_⟩:=h.nU
 exact h1.sh.heap
theorem bC.pz (h:bC w W Z G g s m c B S L A av) (k:aj (HF G.D) W W') (hH:aK W' G.D s.H):bC w W' Z G g s m c B S L A av:=by
 obtain ⟨o,h⟩:=h
 obtain ⟨g2,k2⟩:=h.nU.pz k hH rfl
 exact bC.step h (dL.refl _ _) k2 rfl rfl rfl g2
theorem bC.jR (h:bC w W Z G g s m c B S L A av) (hl:L.length<=100000) (k m' n:Int):Calls ay 24 #[ak B,ah k,ah m',ah n] W fun e w'=>e = .returned (ah (dw L k m' n))/\w'=W:=by
 obtain ⟨o,h⟩:=h
 obtain ⟨vs,vl,hr⟩:=h.gr
 exact LZ hr hl k m' n
theorem bC.do_ (h:bC w W Z G g s m c B S L A av) (hl:L.length<=90000) (hS:S.length<=1000) (mi:Int) (op:bQ) (OE:∀ b,dw L 1 mi b≠0->1<=dw L 1 mi b/\dw L 1 mi b<=(S.length:Int)) :
 Calls ay 16 #[ak B,ah mi,.agg op.cells.toArray] W fun e w'=>e = .returned (.tuple #[ah (fH c S L mi op).2.2.1,ah (fH c S L mi op).2.2.2])/\bC w w' Z G g s m c B (fH c S L mi op).1 (fH c S L mi op).2.1 A av:=by
 obtain ⟨o,h⟩:=h
 obtain ⟨vs,vl,hr⟩:=h.gr
 refine (Wn (hr.mono (F':=fun k=>o k=95\/W.heap.size<=k) (fun k hk => .inl hk)) (fun k hk => .inr hk) hl hS mi op OE).mono ?_
 rintro e w' ⟨rfl,⟨vs',zF,hr'⟩,k⟩
 have k1:aj (In o [95]) W w':=k.mono (fun x hx hx2=>by
  rcases hx2 with h9|h9
  ·unfold In;rw [h9];simp
  ·omega)
 have e1:dL W o (o.fill W.heap.size w'.heap.size 95):=Ow.Ul
 have hf:jS (o.fill W.heap.size w'.heap.size 95) w':=fun x hx=>by
  unfold Ow.fill
  rw [aO (by omega)]
  exact h.fK x (Nat.le_trans k.size hx)
 have hlt:∀ b,av.ownBlock=some b->b<W.heap.size:=fun b hb=>(World.ownsRow.lt h.row b hb).2
 refine ⟨rfl,o.fill W.heap.size w'.heap.size 95,h.nU.vO k1 rfl e1 hf,fun x hx=>(e1 x (abj hx h.aH.size)).trans (h.vI x hx),h.aH.Dv k1 rfl h.vI,fun z hz=>⟨(e1 _ (h.own z hz).2.lt).trans (h.own z hz).1,(h.own z hz).2.aP k1 (h.own z hz).1 rfl⟩,
  ⟨vs',zF,hr'.there.mono (fun x hx=>?_)⟩,fQ h.row k1 (fun b hb=>fU (h.ro b hb) rfl),fun b hb=>(e1 b (hlt b hb)).trans (h.ro b hb)⟩
 unfold Ow.fill
 rcases hx.1 with h9|h9
 ·by_cases h8:W.heap.size<=x/\x<w'.heap.size
  ·rw [aV h8]
  ·rw [aO h8];exact h9
 ·rw [aV ⟨h9,hx.2⟩]
theorem bC.grow {Yg:Value} {q:Nat} {A':List Nat} (h:bC w W Z G g s m c B S L A av) (hgr:W.grownBy W' av.ownBlock) (hv':Yg.ownBlock=some q) (hq:av.ownBlock=some q\/W.heap.size<=q) (hlt:q<W'.heap.size) (hrow:W'.ownsRow 0 3 1 Yg A'.length (bg A')):bC w W' Z G g s m c B S L A' Yg:=by
 obtain ⟨o,h⟩:=h
 have k:aj (In o [97]) W W':=⟨hgr.os,hgr.tape,hgr.output,hgr.size,fun x hx hn=>hgr.block x hx (fun e=>hn (by
  have e':av.ownBlock=some x:=by first|exact e|exact e.symm
  unfold In
  rw [h.ro x e']
  simp))⟩
 have e:dL W o (o.put q 97):=by
  rcases hq with hq|hq
  ·exact Ow.pq (.inr (h.ro q hq))
  ·exact Ow.pq (.inl hq)
 have hf:jS (o.put q 97) W':=Ow.uh h.fK k.size hlt
 obtain ⟨vs,vl,hr⟩:=h.Yf e
 refine ⟨o.put q 97,h.nU.vO k rfl e hf,fun x hx=>(e x (abj hx h.aH.size)).trans (h.vI x hx),h.aH.Dv k rfl h.vI,fun z hz=>⟨(e _ (h.own z hz).2.lt).trans (h.own z hz).1,(h.own z hz).2.aP k (h.own z hz).1 rfl⟩,
  ⟨vs,vl,hr.aH (k.yS e) (fun i hi=>fU hi rfl)⟩,hrow,fun b hb=>?_⟩
 rw [hv'] at hb
 cases hb
 exact Ow.rG _ _ _
theorem bC.push {a:Option Addr} {cp:Nat} (h:bC w W Z G g s m c B S L A (.slice a A.length cp)) (x:Nat) (hl:A.length<=100000):∃ q aJ W5,(app9 #[35,35] 35 #[.slice a A.length cp,.slice (some ⟨W.heap.size,0,none⟩) 1 1]).run ay (W.alloc (.cells #[ah (x:Int)] 3)) = .ok (.slice (some ⟨q,0,none⟩) (A.length+1) aJ) W5 /\
 bC w W5 Z G g s m c B S L (A++[x]) (.slice (some ⟨q,0,none⟩) (A++[x]).length aJ):=by
 obtain ⟨W4,fC⟩:∃ W',W'=W.alloc (.cells #[ah (x:Int)] 3):=⟨_,rfl⟩
 have hk4:aj aA W W4:=by rw [fC];exact (aj.refl _ _).alloc _
 have h4:=h.still hk4
 have hrow:W4.ownsRow 0 3 1 (.slice a A.length cp) A.length (bg A):=by
  obtain ⟨o,h9⟩:=h4
  exact h9.row
 obtain ⟨q,aJ,w5,hrun,hown,hgr,hwh⟩:=qx (P:=ay) W4 35 35 3 (by kernel_rfl) Tryz.infoInt rfl hrow (N:=W.heap.size) (u := ah (x:Int)) (by rw [fC];exact (aB.aW W _ _).cell 0 rfl) rfl (by decide) (by omega)
 have e:bg (A++[x])=bg A++[ah (x:Int)]:=by simp [bg]
 have hlt:q<w5.heap.size:=(World.ownsRow.lt hown q rfl).2
 refine ⟨q,aJ,w5,by rw [<- fC];exact hrun,?_⟩
 refine h4.grow hgr rfl hwh hlt ?_
 rw [e,List.length_append,List.length_singleton]
 exact hown
theorem rM.Y7 (h:rM w W Z G g s m) (c:aS):bC w (W.alloc (.cells #[ah c.b,ah c.w,ah c.m,ah c.r,ah c.c,ah c.l,ah c.s,.slice none 0 0,.slice none 0 0] 38)) Z G g s m c W.heap.size [] [] [] (.slice none 0 0):=by
 obtain ⟨o,h1,h2,h3,h4⟩:=h
 have k:aj aA W (W.alloc (.cells #[ah c.b,ah c.w,ah c.m,ah c.r,ah c.c,ah c.l,ah c.s,.slice none 0 0,.slice none 0 0] 38)):=(aj.refl _ _).alloc _
 generalize hW1:W.alloc (.cells #[ah c.b,ah c.w,ah c.m,ah c.r,ah c.c,ah c.l,ah c.s,.slice none 0 0,.slice none 0 0] 38)=W1 at *
 have hb':aB W1 W.heap.size [ah c.b,ah c.w,ah c.m,ah c.r,ah c.c,ah c.l,ah c.s,.slice none 0 0,.slice none 0 0] 38:=by rw [<- hW1];exact aB.aW W _ _
 have e:dL W o (o.put W.heap.size 95):=Ow.pq (.inl (Nat.le_refl _))
 have hf0:jS o W:=by
  obtain ⟨ev,nv,h5,_⟩:=id h1
  exact h5.sh.fK
 have hf:jS (o.put W.heap.size 95) W1:=Ow.uh hf0 k.size hb'.lt
 exact ⟨o.put W.heap.size 95,h1.vO (I:=[]) k.bU rfl e hf,fun x hx=>(e x (abj hx h3.size)).trans (h2 x hx),h3.trans k,fun z hz=>⟨(e _ (h4 z hz).2.lt).trans (h4 z hz).1,k.aC (h4 z hz).2 (fun f=>f)⟩,
  ⟨_,_,⟨hb',⟨rfl,.inl ⟨rfl,rfl⟩⟩,⟨rfl,.inl ⟨rfl,rfl⟩⟩,Ow.rG _ _ _,fun k hk=>(by simp [Value.ownBlock] at hk),fun k hk=>(by simp [Value.ownBlock] at hk)⟩⟩,⟨rfl,.inl ⟨rfl,rfl⟩⟩,fun b hb=>by simp [Value.ownBlock] at hb⟩
theorem bC.AV {a:Option Addr} {cp:Nat} (h:bC w W Z G g s m c B S L A (.slice a A.length cp)):gB .i64 W a A.length (A.map fun y:Nat=>(y:Int)):=by
 obtain ⟨o,h⟩:=h
 exact IU h.row
theorem bC.sizes (h:bC w W Z G g s m c B S L A av):∃ a aJ,W.cell? ⟨B,7,none⟩=some (.slice a S.length aJ)/\gB .i64 W a S.length S:=by
 obtain ⟨o,h⟩:=h
 obtain ⟨vs,vl,hr⟩:=h.gr
 obtain ⟨a,aJ,rfl,h2,_⟩:=hr.sizes
 exact ⟨a,aJ,hr.aC.cell 7 rfl,h2⟩
theorem bC.Yh (h:bC w W Z G g s m c B S L A av) {z:Nat × List Value × TypeId} (hz:z∈Z):aB W z.1 z.2.1 z.2.2:=h.toZ.aC hz
theorem bC.TK {Z':List (Nat × List Value × TypeId)} (h:bC w W Z G g s m c B S L A av) (hz:∀ z∈Z',z∈Z):bC w W Z' G g s m c B S L A av:=by
 obtain ⟨o,h⟩:=h
 exact ⟨o,h.nU,h.vI,h.aH,fun z hm=>h.own z (hz z hm),h.gr,h.row,h.ro⟩
theorem bC.more (h:bC w W Z G g s m c B S L A av) (cs:List Value) (T:TypeId):bC w (W.alloc (.cells cs.toArray T)) ((W.heap.size,cs,T)::Z) G g s m c B S L A av:=by
 obtain ⟨o,h⟩:=h
 have k:aj aA W (W.alloc (.cells cs.toArray T)):=(aj.refl _ _).alloc _
 have h2:=h.step (I:=[]) (dL.refl _ _) k.bU rfl rfl rfl (h.nU.vO (I:=[]) k.bU rfl (dL.refl _ _) (h.fK.aH k))
 refine ⟨o,h2.nU,h2.vI,h2.aH,fun z hz=>?_,h2.gr,h2.row,h2.ro⟩
 rcases List.mem_cons.1 hz with rfl|hz
 ·exact ⟨h.fK _ (Nat.le_refl _),aB.aW W cs T⟩
 ·exact h2.own z hz
theorem bC.lg (h:bC w W Z G g s m c B S L A av) (k:Nat) (hk:k<4):Calls ay 13 #[ak (G.D 0),ah (k:Int)] W fun e w'=>(∃ a c,e = .returned (.slice a (s.H.row k).length c))/\bC w w' Z G g s m c B S L A av:=by
 refine (DI h.sF k hk).mono ?_
 rintro e w' ⟨v,rfl,hr,hH,kk⟩
 obtain ⟨a,cc,rfl,_⟩:=kE (dF hr (abZ _))
 refine ⟨⟨a,cc,rfl⟩,h.pz (kk.mono (fun x _ hx=>⟨1,by decide,by unfold only at hx;exact hx⟩)) hH⟩
theorem bC.Yi (h:bC w W Z G g s m c B S L A av) (a:Nat):Calls ay 25 #[ak (G.D 0),ah (a:Int)] W fun e w'=>e = .returned (.tuple #[ah ((s.H.gV a).1:Int),ah ((s.H.gV a).2:Int)])/\bC w w' Z G g s m c B S L A av:=by
 refine (Ai h.sF a).mono ?_
 rintro e w' ⟨rfl,hH,kk⟩
 exact ⟨rfl,h.pz kk hH⟩
theorem bC.load (h:bC w W Z G g s m c B S L A av) (a:Nat) (f:Int):Calls ay 26 #[ak (G.D 0),ah (a:Int),ah f] W fun e w'=>e = .returned (.tuple #[ah ((s.H.iE a f:Nat):Int),ah ((s.H.jm a f:Nat):Int)])/\bC w w' Z G g s m c B S L A av:=by
 refine (yU h.sF a f).mono ?_
 rintro e w' ⟨rfl,hH,kk⟩
 exact ⟨rfl,h.pz kk hH⟩
theorem bC.Jh (h:bC w W Z G g s m c B S L A av) (hT:nD w):Calls ay 29 #[ak (G.D 0)] W fun e w'=>e = .returned (.bool true)/\aj aA w w':=by
 refine (OO h.sF (hT.still h.aH)).mono ?_
 rintro e w' ⟨rfl,kk⟩
 refine ⟨rfl,?_⟩
 obtain ⟨o,h9⟩:=h
 obtain ⟨ev,nv,h1,_⟩:=h9.nU
 have:aj (In o [1]) W w':=kk.rU (h1.sh.oD 1 (by decide)) rfl
 exact h9.aH.Dv this rfl h9.vI
theorem bC.s0 (h:bC w W Z G g s m c B S L A av):W.cell? ⟨G.S,0,none⟩=some (ak (G.D 0)):=h.toZ.sh.1
theorem bC.add {Zr:List (Nat × List Value × TypeId)} (h:bC w W Z G g s m c B S L A av) (k:aj aA W W') (hz:∀ z∈Zr,W.heap.size<=z.1/\aB W' z.1 z.2.1 z.2.2):bC w W' (Zr++Z) G g s m c B S L A av:=by
 obtain ⟨o,h⟩:=h
 have h2:=h.step (I:=[]) (dL.refl _ _) k.bU rfl rfl rfl (h.nU.vO (I:=[]) k.bU rfl (dL.refl _ _) (h.fK.aH k))
 refine ⟨o,h2.nU,h2.vI,h2.aH,fun z hzm=>?_,h2.gr,h2.row,h2.ro⟩
 rcases List.mem_append.1 hzm with h6|h6
 ·exact ⟨h.fK _ (hz z h6).1,(hz z h6).2⟩
 ·exact h2.own z h6
theorem bC.results (h:bC w W Z G g s m c B S L A av) (hl:m.aU.length<=100000000):Calls ay 21 #[ak g.M] W fun e w'=>(∃ a c,e = .returned (.slice a m.aU.length c))/\bC w w' Z G g s m c B S L A av:=by
 obtain ⟨o,h9⟩:=id h
 obtain ⟨ev,nv,h4,_⟩:=id h9.nU
 refine (zy h4 hl).mono ?_
 rintro e w' ⟨a,c,rfl,_,_,k⟩
 exact ⟨⟨a,c,rfl⟩,h.still k⟩
theorem bC.held (h:bC w W Z G g s m c B S L A av):Calls ay 22 #[ak g.M] W fun e w'=>e = .returned (ah (m.held:Int))/\W=w':=by
 obtain ⟨o,h9⟩:=id h
 obtain ⟨ev,nv,h4,_⟩:=id h9.nU
 exact QC h4
theorem bC.busy (h:bC w W Z G g s m c B S L A av):Calls ay 23 #[ak g.M] W fun e w'=>e = .returned (.bool (!dR m.next))/\W=w':=by
 obtain ⟨o,h9⟩:=id h
 exact Fg h9.nU
theorem bC.most (h:bC w W Z G g s m c B S L A av):Calls ay 27 #[ak g.M] W fun e w'=>e = .returned (.tuple #[ah (m.most0:Int),ah (m.most1:Int)])/\bC w w' Z G g s m c B S L A av:=by
 obtain ⟨o,h9⟩:=id h
 obtain ⟨ev,nv,h4,_⟩:=id h9.nU
 refine (QV h4).mono ?_
 rintro e w' ⟨rfl,rfl⟩
 exact ⟨rfl,h.still (aj.refl _ _).drew⟩
theorem bC.oJ (h:bC w W Z G g s m c B S L A av) (hT:nD w):Calls ay 28 #[ak (G.D 0)] W fun e w'=>(∃ a c,e = .returned (.slice a s.H.oJ.length c))/\bC w w' Z G g s m c B S L A av:=by
 refine (zD h.sF (hT.still h.aH)).mono ?_
 rintro e w' ⟨v,rfl,ho,k⟩
 obtain ⟨a,cc,rfl,_⟩:=kE (dF ho (abZ _))
 exact ⟨⟨a,cc,rfl⟩,h.still k⟩
theorem bC.aI (h:bC w W Z G g s m c B S L A av):Calls ay 20 #[ak g.M] W fun e w'=>∃ ra rc Z3,e = .returned (.slice ra m.aI.length rc)/\bC w w' (Z3++Z) G g s m c B S L A av/\wG (Z3++Z) (.slice ra m.aI.length rc) m.aI:=by
 obtain ⟨o,h9⟩:=id h
 obtain ⟨ev,nv,h4,_⟩:=id h9.nU
 refine (QD h4).mono ?_
 rintro e w' ⟨vr,rfl,ho,kk⟩
 obtain ⟨Zr,z1,z2⟩:=KG ho
 obtain ⟨ra,rc,rfl,_⟩:=kE (dF ho (abZ _))
 exact ⟨ra,rc,Zr,rfl,h.add kk z1,(wG.of z2).more (fun z hz=>by simp [hz])⟩
end
end
section
section
variable {c:aS} {H:HS} {R A:List Nat} {S:List Int} {L:List bF} {s:Sh} {m:MS}
theorem iI.oJ (h:iI c H R A S L):H.oJ.length=A.length:=by
 have hnd:H.oJ.Nodup:=by
  unfold HS.oJ iw
  exact List.nodup_range.filter _
 refine ((List.perm_ext_iff_of_nodup hnd h.nd).2 (fun a=>?_)).length_eq
 unfold HS.oJ iw
 rw [List.mem_filter,List.mem_range,<- h.bn a]
 constructor
 ·exact fun h=>h.2
 ·intro hb
  have:=(h.Jl ((h.bn a).1 hb)).2
  refine ⟨?_,hb⟩
  unfold HS.n at this
  unfold HS.sz
  omega
theorem iI.gV (h:iI c H R A S L) {i a:Nat} (ha:A[i]?=some a):H.gV a=(H.nf a,0):=by
 have hbn:=(h.bn a).2 (adp ha)
 have hp:=h.Jl (adp ha)
 unfold HS.gV HS.lH
 rw [aO (by omega:a≠0),aV (qQ hbn),aV rfl]
theorem iI.iE (h:iI c H R A S L) {i a f:Nat} (ha:A[i]?=some a) (hf:f<H.nf a):H.jm a (f:Int)=0/\H.iE a (f:Int)=dO A (dw L 3 ((i:Int)+1) f):=by
 have hbn:=(h.bn a).2 (adp ha)
 have hp:=h.Jl (adp ha)
 have he:=BK hp.1 hbn (f:=(f:Int)) (by omega)
 refine ⟨he,?_⟩
 unfold HS.iE
 rw [aV he,abB]
 exact h.FH i a f ha hf
theorem iI.nf15 (h:iI c H R A S L) {i a:Nat} (ha:A[i]?=some a):H.nf a<=15:=by
 obtain ⟨B,k,m,_,hm,_,_,e⟩:=h.dQ.PG (qQ ((h.bn a).2 (adp ha)))
 rw [e]
 have:=(mP hm).2.1
 omega
theorem wK.first {q:aS} {b ww nc n:Nat} {prog:List bQ} (hc:q.c=(nc:Int)) (hr:0<=q.r) (hw:16<=ww) (hn:b*ww<=1048576) (hC:BG (Sh.aW q b ww nc n) (MS.aW q 0 prog)):wK q (Sh.aW q b ww nc n) (MS.aW q 0 prog) [] [] []:=by
 refine ⟨⟨CQ q b ww nc hn,rfl,List.nodup_nil,fun a=>⟨fun h=>(by cases h),fun h=>(by cases h)⟩,fun k m n=>⟨adG _,adG _⟩,?_,?_,fun r hr=>?_,fun i hi=>?_,fun i a h=>(by cases h),fun i a j h=>(by cases h),fun m n h=>rfl,?_⟩,hC,rfl,fun h=>(by cases h),fun h=>(by cases h),fun h=>(by cases h),abZ _,rfl,rfl⟩
 ·show ((abn q.r.toNat 0).length:Int)=q.r
  rw [adH];omega
 ·show ((abn nc 0).length:Int)=q.c
  rw [adH];omega
 ·show (abn q.r.toNat 0).getD r 0=_
  rw [show dO [] (dw [] 1 0 (r:Int))=0 from kK]
  simp [ace,adI]
  split<;>rfl
 ·show (abn nc 0).getD i 0=_
  rw [show dO [] (dw [] 2 0 (i:Int))=0 from kK]
  simp [ace,adI]
  split<;>rfl
 ·show (abn b 0).length=b
  exact adH
end
end
section
open Go.RowKit
def Me (zs:List Int) (m:Int):Bool:=zs.any (· == m)
theorem BL {zs:List Int} {m:Int}:Me zs m=true↔m∈zs:=by
 simp [Me]
theorem Yj (a:Option Addr) (n c:Nat) (zs:List Int) (m:Int) (w:World) (h:gB .i64 w a n zs) (hm:n<=9223372036854775807) :
 Calls ay 17 #[.slice a n c,ah m] w fun e w'=>e = .returned (.bool (Me zs m))/\w=w':=by
 go_enter func17,ntmps17
 go_wp2
 go_loop [5] (fun i=>∃ k:Nat,k<=n/\i = ah k/\∀ j,j<k->zs.getD j 0≠m) (fun i=>n - (intOf i).toNat)
 case atStart=>exact ⟨0,abZ _,rfl,fun j hj=>absurd hj (by omega)⟩
 case round =>
  obtain ⟨k,hk,rfl,hr⟩:=hrel
  have hl:=h.len
  by_cases hlt:k<n
  ·obtain ⟨b,off,rfl,hc⟩:=h.jR (by omega)
   have hck:=hc k hlt
   by_cases hx:zs.getD k 0=m
   ·rw [hx] at hck
    have HE:Hid (Me zs m=true):=BL.2 (by
     rw [<- hx,ace,abr (by omega)]
     exact List.getElem_mem _)
    clear hc hr h hx hl
    go_wp2
    go_ret
    exact ⟨by rw [HE.out];rfl,rfl⟩
   ·have hne:(zs.getD k 0==m)=false:=by simpa using hx
    have HR:Hid (∀ j,j<k+1->zs.getD j 0≠m):=fun j hj=>by
     rcases Nat.lt_succ_iff_lt_or_eq.1 hj with h1|h1
     ·exact hr j h1
     ·rw [h1];exact hx
    generalize zs.getD k 0=x at hck hne
    clear hc hr h hx hl
    go_wp2
    go_round
    case rel=>exact ⟨k+1,by omega,by go_num,HR.out⟩
    case measure=>simp [intOf];omega
  ·have HE:Hid (Me zs m=false):=by
    unfold Hid
    rw [acY]
    intro e
    obtain ⟨j,hj,hje⟩:=List.getElem_of_mem (BL.1 e)
    refine hr j (by omega) ?_
    rw [ace,abr hj]
    exact hje
   clear hr h hl
   go_wp2
   go_ret
   exact ⟨by rw [HE.out];rfl,rfl⟩
theorem Y8 {a:Option Addr} {n c:Nat} {zs:List Int} {m:Int} {w:World} {p:Bool} (h:gB .i64 w a n zs) (hm:n<=9223372036854775807) (hp:Me zs m=p) :
 Calls ay 17 #[.slice a n c,ah m] w fun e w'=>e = .returned (.bool p)/\w=w':=by
 rw [<- hp];exact Yj a n c zs m w h hm
end
end Go.Proofs.YtobfpmijbfgmeabGreatDoor
