/- Parts of the iy. No conditions. -/
import Derived.Test.YtanfphjoebobaaaGreatDoorZzff
import Derived.Test.YtanfphjoebobaaaGreatDoorZzfg
namespace Go.Proofs.YtanfphjoebobaaaGreatDoor
open _root_.Bool renaming and_eq_true->akD,true_and->akG
open _root_.Go.World renaming size_alloc->ajq
open _root_.Int renaming toNat_natCast->ajv
open _root_.List renaming drop_succ_cons->ajt,drop_zero->ajn,getD_eq_getElem?_getD->ajg,getElem?_append_right->ajl,getElem?_eq_getElem->ajh,getElem?_eq_none->ajK,getElem?_eq_some_iff->ake,getElem_mem->aji,nil_append->akr,replicate->ajj,set_append_right->akk,take_zero->ajs
open _root_.Nat renaming add_sub_cancel_left->akF,div_add_mod->ajC,div_lt_iff_lt_mul->akH,le_trans->ajU,lt_or_ge->ajz,mod_lt->akI,mul_comm->akJ,mul_le_mul_right->ajE,zero_add->ajI
open _root_.Go.Proofs.Tryz hiding prog
open _root_.Go.Proofs.Tryz renaming prog->aA
set_option maxRecDepth 10000
set_option maxHeartbeats 2000000
section
attribute [local go_sem] Oper.semAt_some
open Go.RowKit
structure dN (w:World) (L iR iX aR tR sz:Nat) (In F:List Nat):Prop where
 aH:∃ M:List Int,M.length=4/\aF w L (([au aR,au tR,au iR]++aS F)++M.map (Value.int .i64)) 208
 set:jo w iR iX sz In
 oP:F.length=4
 ZG:∀ x∈F,x<=1048576
theorem ZH {P F:List Value} {M:List Int} (hP:P.length=3) (k:Nat) (hk:k<F.length) (v:Value):((P++F)++M.map (Value.int .i64)).set (3+k) v=(P++F.set k v)++M.map (Value.int .i64):=by
 rw [List.set_append_left _ _ (by simp;omega),akk _ _ (by omega),hP,akF]
theorem XF {P F:List Value} {M:List Int} (hP:P.length=3) (hF:F.length=4) (k:Nat) (x:Int):((P++F)++M.map (Value.int .i64)).set (7+k) (ah x)=(P++F)++(M.set k x).map (Value.int .i64):=by
 rw [akk _ _ (by simp;omega),List.map_set]
 congr 1
 simp [hP,hF]
section
variable {w w':World} {L iR iX aR tR sz:Nat} {In F:List Nat}
theorem dN.aK {S:Nat->Prop} (h:dN w L iR iX aR tR sz In F) (k:aj S w w') (hL:¬ S L) (hR:¬ S iR) (hX:¬ S iX):dN w' L iR iX aR tR sz In F:=by
 obtain ⟨M,hM,hb⟩:=h.aH
 exact ⟨⟨M,hM,k.aH hb hL⟩,h.set.aK k hR hX,h.oP,h.ZG⟩
theorem dN.still (h:dN w L iR iX aR tR sz In F) (k:aj aB w w'):dN w' L iR iX aR tR sz In F:=h.aK k (fun f=>f) (fun f=>f) (fun f=>f)
theorem dN.Ci (h:dN w L iR iX aR tR sz In F):w.cell? ⟨L,0,none⟩=some (au aR)/\w.cell? ⟨L,1,none⟩=some (au tR)/\w.cell? ⟨L,2,none⟩=some (au iR):=by
 obtain ⟨M,hM,hb⟩:=h.aH
 exact ⟨hb.cell 0 rfl,hb.cell 1 rfl,hb.cell 2 rfl⟩
theorem dN.first (h:dN w L iR iX aR tR sz In F) {k:Nat} (hk:k<4):w.cell? ⟨L,3+k,none⟩=some (ah (F.getD k 0:Nat))/\F.getD k 0<=1048576:=by
 obtain ⟨M,hM,hb⟩:=h.aH
 have hl:=h.oP
 refine ⟨hb.cell (3+k) ?_,?_⟩
 ·rw [List.getElem?_append_left (by simp [aS];omega),ajl (by simp)]
  simp only [List.length_cons,List.length_nil,ajI]
  rw [akF]
  exact uw (by omega)
 ·rw [ajg,ajh (by omega)]
  exact h.ZG _ (aji _)
theorem dN.many (h:dN w L iR iX aR tR sz In F) {k:Nat} (hk:k<4):∃ m:Int,w.cell? ⟨L,7+k,none⟩=some (ah m):=by
 obtain ⟨M,hM,hb⟩:=h.aH
 have hl:=h.oP
 refine ⟨M.getD k 0,hb.cell (7+k) ?_⟩
 rw [ajl (by simp [aS];omega)]
 have e:7+k - (([au aR,au tR,au iR]:List Value)++aS F).length=k:=by simp [aS,hl]
 rw [e,List.getElem?_map,ajh (by omega),ajg,ajh (by omega)];rfl
theorem dN.free (h:dN w L iR iX aR tR sz In F) (j:Nat):w.frozen? ⟨L,j,none⟩=false:=by
 obtain ⟨M,hM,hb⟩:=h.aH
 exact hb.free j
theorem dN.lt (h:dN w L iR iX aR tR sz In F):L<w.heap.size:=by
 obtain ⟨M,hM,hb⟩:=h.aH
 exact hb.lt
theorem dN.ne (h:dN w L iR iX aR tR sz In F):L≠iR/\L≠iX:=by
 obtain ⟨M,hM,hb⟩:=h.aH
 obtain ⟨aO,h1⟩:=h.set.aH
 obtain ⟨cur,h2,_⟩:=h.set.pU
 refine ⟨fun e=>?_,fun e=>?_⟩
 ·rw [e] at hb;exact absurd (hb.jL h1).2 (by decide)
 ·rw [e] at hb;exact absurd (hb.jL h2).2 (by decide)
theorem dN.afw (h:dN w L iR iX aR tR sz In F) {k x:Nat} (hk:k<4) (hx:x<=1048576):dN (w.setCell ⟨L,3+k,none⟩ (ah (x:Int))) L iR iX aR tR sz In (F.set k x):=by
 obtain ⟨M,hM,hb⟩:=h.aH
 have hl:=h.oP
 have hkp:aj (only L) w (w.setCell ⟨L,3+k,none⟩ (ah (x:Int))):=(aj.refl _ _).put _ _
 have hn:=h.ne
 refine ⟨⟨M,hM,?_⟩,h.set.aK hkp (fun e=>hn.1 e.symm) (fun e=>hn.2 e.symm),by simpa using hl,fun y hy=>?_⟩
 ·have h9:=hb.set (3+k) (ah (x:Int))
  rw [ZH rfl k (by simp [aS];omega)] at h9
  rw [Fq]
  exact h9
 ·rcases List.mem_or_eq_of_mem_set hy with h1|rfl
  ·exact h.ZG y h1
  ·exact hx
theorem dN.afx (h:dN w L iR iX aR tR sz In F) (k:Nat) (x:Int):dN (w.setCell ⟨L,7+k,none⟩ (ah x)) L iR iX aR tR sz In F:=by
 obtain ⟨M,hM,hb⟩:=h.aH
 have hl:=h.oP
 have hkp:aj (only L) w (w.setCell ⟨L,7+k,none⟩ (ah x)):=(aj.refl _ _).put _ _
 have hn:=h.ne
 refine ⟨⟨M.set k x,by simpa using hM,?_⟩,h.set.aK hkp (fun e=>hn.1 e.symm) (fun e=>hn.2 e.symm),hl,h.ZG⟩
 have h9:=hb.set (7+k) (ah x)
 rw [XF rfl (by simp [aS,hl]) k x] at h9
 exact h9
theorem dN.RI (h:dN w L iR iX aR tR sz In F) {In':List Nat} {S:Nat->Prop} (hk:aj S w w') (hS:¬ S L) (hs:jo w' iR iX sz In'):dN w' L iR iX aR tR sz In' F:=by
 obtain ⟨M,hM,hb⟩:=h.aH
 exact ⟨⟨M,hM,hk.aH hb hS⟩,hs,h.oP,h.ZG⟩
theorem abP (h:dN w L iR iX aR tR sz In F) (n:Int):Calls aA 150 #[au L,ah n] w fun e w'=>e = .returned (.bool (oU sz In n))/\w=w':=by
 have y2:=h.Ci.2.2
 have HH:=ay (JM h.set n)
 generalize oU sz In n=hb at *
 clear h
 go_enter func150,ntmps150
 go_wp2_with (go_at_call 54;refine HH.out.mono ?_;rintro e w1 ⟨rfl,rfl⟩)
 go_ret
 exact ⟨rfl,rfl⟩
theorem RJ {aX:Nat} {A:List Nat} (h:dN w L iR iX aR tR sz In F) (hA:dY w aR aX A) (p nx:Nat) (hp:p<A.length) (hw:A.getD p 0=gI nx) (hn:nx<=1048576):Calls aA 153 #[au L,ah ((p:Int)+1)] w fun e w'=>e = .returned (ah (nx:Int))/\dY w' aR aX A/\aj (only aR) w w':=by
 have y0:=h.Ci.1
 have HL:=ay (JO hA p hp)
 rw [hw] at HL
 have HN:=ay (fun W=>U7 nx hn W)
 generalize gI nx=lw at *
 clear h hA hw hp
 go_enter func153,ntmps153
 go_wp2_with (first
  | (go_at_call 99;refine HL.out.mono ?_;rintro e w1 ⟨rfl,hA1,hk1⟩;have HA1:=ay hA1;have bI:=ay hk1;clear hA1 hk1)
  | (go_at_call 199;refine (HN.out _).mono ?_;rintro e w2 ⟨rfl,rfl⟩))
 go_ret
 exact ⟨rfl,HA1.out,bI.out⟩
end
def put4 (L iX aR aX:Nat):Nat->Prop:=fun i=>i=L\/i=iX\/i=aR\/i=aX
section
variable {w w':World} {L iR iX aR aX tR sz:Nat} {In F A:List Nat}
theorem ZI (h:dN w L iR iX aR tR sz In F) (hA:dY w aR aX A) (hne:iX≠aX) (p k b1 b2:Nat) (hp:p<A.length) (hps:p+1<sz) (hin:oU sz In ((p:Int)+1)=false) (hk:k<4) (hb1:aF w b1 [au L] 98) (hb2:aF w b2 [ah ((p:Int)+1)] 3) :
 Calls aA 238 #[ah (k:Int),au b1,au b2] w fun e w'=>e = .returned (ah 0)/\dN w' L iR iX aR tR sz (kP sz In ((p:Int)+1) true) (F.set k (p+1))/\dY w' aR aX (A.set p (gI (F.getD k 0)))/\aj (put4 L iX aR aX) w w':=by
 obtain ⟨pp,hpp⟩:∃ pp:Int,pp=(p:Int)+1:=⟨_,rfl⟩
 rw [<- hpp] at hb2 hin ⊢
 have hps2:jA sz In pp true=true:=by
  unfold jA
  rw [hin,fK (by omega)];rfl
 obtain ⟨q0,q1,q2⟩:=h.Ci
 have EH:=ay (Cc (h.set.still (k:=(aj.refl aB w).drew)) pp true)
 rw [hps2] at EH
 obtain ⟨qf,hfk⟩:=h.first hk
 have hpl:p<1048576:=Nat.lt_of_lt_of_le hp hA.len
 have hLn:=h.ne
 obtain ⟨M0,hM0,hbL⟩:=h.aH
 obtain ⟨cap0,hbi⟩:=h.set.aH
 obtain ⟨cur0,hbx,_⟩:=h.set.pU
 obtain ⟨ld,st,hbr⟩:=hA.aH
 have Fv:=hA.pU
 have n1:b1≠iX:=fun e=>by rw [e] at hb1;exact absurd (hb1.jL hbx).2 (by decide)
 have n2:b2≠iX:=fun e=>by rw [e] at hb2;exact absurd (hb2.jL hbx).2 (by decide)
 have n3:b1≠L:=fun e=>by rw [e] at hb1;exact absurd (hb1.jL hbL).2 (by decide)
 have n4:b2≠L:=fun e=>by rw [e] at hb2;exact absurd (hb2.jL hbL).2 (by decide)
 have n5:aR≠iX:=fun e=>by rw [e] at hbr;exact absurd (hbr.jL hbx).2 (by decide)
 have n6:aR≠L:=fun e=>by rw [e] at hbr;exact absurd (hbr.jL hbL).2 (by decide)
 have n7:aX≠L:=fun e=>by rw [e] at Fv;exact absurd (Fv.jL hbL).2 (by decide)
 have n8:aR≠iR:=fun e=>by rw [e] at hbr;exact absurd (hbr.jL hbi).2 (by decide)
 have n9:aX≠iR:=fun e=>by rw [e] at Fv;exact absurd (Fv.jL hbi).2 (by decide)
 have y1:=hb1.cell 0 rfl
 have y2:=hb2.cell 0 rfl
 have HN:Hid (b1≠iX/\b2≠iX/\b1≠L/\b2≠L/\aR≠iX/\aR≠L/\aX≠L/\L≠iR/\L≠iX/\aR≠iR/\aX≠iR/\iX≠aX):=⟨n1,n2,n3,n4,n5,n6,n7,hLn.1,hLn.2,n8,n9,hne⟩
 have H:=ay h
 have HA:=ay hA
 have HB1:=ay hb1
 have HB2:=ay hb2
 have KU:=ay (fun W=>Fa (F.getD k 0) (by omega) W)
 rw [aZ hfk,fK hfk] at KU
 have HFK:Hid (F.getD k 0<=1048576):=hfk
 have OD:Hid (p<1048576):=hpl
 have HP:Hid (p<A.length):=hp
 have nV:Hid (k<4):=hk
 have QX:(k:Int)<4:=by omega
 generalize hf:F.getD k 0=fk at *
 have HF:=ay hf
 have KW:Hid (gI fk<18446744073709551616):=by have:=(xk hfk).1;unfold Hid;omega
 generalize gI fk=lw at *
 have Ji:=ay hpp
 clear h hA hb1 hb2 hbL hbi hbx hbr Fv hps hin hk hp hpl n1 n2 n3 n4 n5 n6 n7 n8 n9 hLn hne hps2 hfk hf hpp hM0
 go_enter func238,ntmps238
 go_wp2_with fail
 refine bG 5 rfl (by kernel_rfl) (by kernel_rfl) (fun K hK=>?_)
 change wpStill _ _ (World.drew _) _ _ _
 simp only [List.take_succ_cons,ajs,ajt,ajn] at hK ⊢
 repeat still_step
 refine wpStill_nil ?_
 change ite _ (Oper.wp _ _ _ w.drew _ _) _
 go_simp
 refine EH.out.mono ?_
 rintro e w1 ⟨rfl,hs1,hk1⟩
 refine hK _ _ ?_
 clear hK K
 have hk01:aj (only iX) w w1:=(aj.refl _ _).drew.trans hk1
 have mJ:=ay (H.out.RI hk01 (HN.out.2.2.2.2.2.2.2.2.1) hs1)
 have bI:=ay hk01
 have HA1:=ay (HA.out.aK hk01 (HN.out.2.2.2.2.1) (fun e=>HN.out.2.2.2.2.2.2.2.2.2.2.2 e.symm))
 have abQ:=ay (hk01.aH HB1.out HN.out.1)
 have abR:=ay (hk01.aH HB2.out HN.out.2.1)
 clear hs1 hk1 hk01 y1 y2 q0 q1 q2 qf EH
 have y1:=abQ.out.cell 0 rfl
 have y2:=abR.out.cell 0 rfl
 obtain ⟨q0,q1,q2⟩:=mJ.out.Ci
 have qf:=(mJ.out.first nV.out).1
 rw [HF.out] at qf
 repeat still_step
 refine wpStill_nil ?_
 go_wp2_with (go_at_call 239;refine (KU.out _).mono ?_;rintro e w2 ⟨rfl,rfl⟩)
 have fF:=mJ.out.free (3+k)
 go_region
 obtain ⟨W2,hW2⟩:∃ W',W'=(w1.setCell ⟨L,3+k,none⟩ (ah pp)).drew:=⟨_,rfl⟩
 rw [<- hW2]
 have hk12:aj (only L) w1 W2:=by rw [hW2];exact ((aj.refl _ _).put _ _).drew
 have HS2:Hid (dN W2 L iR iX aR tR sz (kP sz In pp true) (F.set k (p+1))):=by
  have h1:=mJ.out.afw nV.out (x:=p+1) (by have:=OD.out;omega)
  rw [show (((p+1:Nat):Nat):Int)=pp by have:=Ji.out;omega] at h1
  rw [hW2]
  exact h1.still (k:=(aj.refl aB _).drew)
 have HA2:=ay (HA1.out.aK hk12 HN.out.2.2.2.2.2.1 HN.out.2.2.2.2.2.2.1)
 have abS:=ay (hk12.aH abQ.out HN.out.2.2.1)
 have abT:=ay (hk12.aH abR.out HN.out.2.2.2.1)
 have dF:Hid (aj (put4 L iX aR aX) w W2):=(bI.out.mono (fun i _ e=>Or.inr (Or.inl e))).trans (hk12.mono (fun i _ e=>Or.inl e))
 clear hW2 hk12 fF mJ HA1 abQ abR bI y1 y2 q0 q1 q2 qf
 have y1:=abS.out.cell 0 rfl
 have y2:=abT.out.cell 0 rfl
 obtain ⟨q0,q1,q2⟩:=HS2.out.Ci
 obtain ⟨mm,qm⟩:=HS2.out.many nV.out
 have fM:=HS2.out.free (7+k)
 go_wp2_with fail
 go_region
 obtain ⟨W3,hW3⟩:∃ W',W'=(W2.setCell ⟨L,7+k,none⟩ (ah (wrap64 (mm+1)))).drew:=⟨_,rfl⟩
 rw [<- hW3]
 have hk23:aj (only L) W2 W3:=by rw [hW3];exact ((aj.refl _ _).put _ _).drew
 have KY:Hid (dN W3 L iR iX aR tR sz (kP sz In pp true) (F.set k (p+1))):=by
  rw [hW3]
  exact (HS2.out.afx k _).still (k:=(aj.refl aB _).drew)
 have RN:=ay (HA2.out.aK hk23 HN.out.2.2.2.2.2.1 HN.out.2.2.2.2.2.2.1)
 have ahN:=ay (hk23.aH abS.out HN.out.2.2.1)
 have ahO:=ay (hk23.aH abT.out HN.out.2.2.2.1)
 have jF:Hid (aj (put4 L iX aR aX) w W3):=dF.out.trans (hk23.mono (fun i _ e=>Or.inl e))
 clear hW3 hk23 fM qm HS2 HA2 abS abT dF y1 y2 q0 q1 q2
 have y1:=ahN.out.cell 0 rfl
 have y2:=ahO.out.cell 0 rfl
 obtain ⟨q0,q1,q2⟩:=KY.out.Ci
 have HST:=ay (OH (RN.out.still (k:=(aj.refl aB W3).drew)) p HP.out lw KW.out)
 rw [<- Ji.out] at HST
 go_wp2_with fail
 refine bG 6 rfl (by kernel_rfl) (by kernel_rfl) (fun K hK=>?_)
 change wpStill _ _ (World.drew _) _ _ _
 simp only [List.take_succ_cons,ajs,ajt,ajn] at hK ⊢
 repeat still_step
 refine wpStill_nil ?_
 change ite _ (Oper.wp _ _ _ W3.drew _ _) _
 go_simp
 refine HST.out.mono ?_
 rintro e w4 ⟨rfl,ha4,hk4⟩
 refine hK _ _ ?_
 clear hK K y1 y2 q0 q1 q2
 have hk34:=(aj.refl _ W3).drew.trans hk4
 have KZ:=ay (KY.out.aK hk34 (fun e=>e.elim (fun e=>HN.out.2.2.2.2.2.1 e.symm) (fun e=>HN.out.2.2.2.2.2.2.1 e.symm)) (fun e=>e.elim (fun e=>HN.out.2.2.2.2.2.2.2.2.2.1 e.symm) (fun e=>HN.out.2.2.2.2.2.2.2.2.2.2.1 e.symm)) (fun e=>e.elim (fun e=>HN.out.2.2.2.2.1 e.symm) (fun e=>HN.out.2.2.2.2.2.2.2.2.2.2.2 e)))
 have HA4:=ay ha4
 have RP:=ay (jF.out.trans (hk34.mono (T:=put4 L iX aR aX) (fun i _ e=>Or.inr (Or.inr e))))
 clear ha4 hk4 hk34
 repeat still_step
 refine wpStill_nil ?_
 go_wp2_with fail
 go_ret
 exact ⟨rfl,KZ.out,HA4.out,RP.out⟩
theorem abU (h:dN w L iR iX aR tR sz In F) (hA:dY w aR aX A) (hne:iX≠aX) (p k:Nat) (B0:Int) (hp:p<A.length) (hps:p+1<sz) (hin:oU sz In ((p:Int)+1)=false) (hk:k<4)
 (hO:∀ W,aj aB w W->Calls aA 149 #[au tR,ah ((p:Int)+1)] W fun e w'=>e = .returned (.tuple #[ah B0,ah (k:Int),.bool true])/\aj aB W w') :
 Calls aA 204 #[au L,ah ((p:Int)+1)] w fun e w'=>e = .returned (ah 0)/\dN w' L iR iX aR tR sz (kP sz In ((p:Int)+1) true) (F.set k (p+1))/\dY w' aR aX (A.set p (gI (F.getD k 0)))/\aj (put4 L iX aR aX) w w':=by
 obtain ⟨W0,hW0⟩:∃ W',W'=(w.alloc (.cells #[au L] 98)).alloc (.cells #[ah ((p:Int)+1)] 3):=⟨_,rfl⟩
 have hk0:aj aB w W0:=by rw [hW0];exact ((aj.refl _ _).alloc _).alloc _
 have hb1:aF W0 w.heap.size [au L] 98:=by rw [hW0];exact (aF.bC w _ _).alloc _
 have hb2:aF W0 (w.heap.size+1) [ah ((p:Int)+1)] 3:=by
  rw [hW0]
  have h:=aF.bC (w.alloc (.cells #[au L] 98)) [ah ((p:Int)+1)] 3
  rw [ajq] at h
  exact h
 have HSL:Hid (Calls aA 237 #[au L,ah ((p:Int)+1),.func (.func 238) #[] #[au w.heap.size,au (w.heap.size+1)]] W0 fun e w'=>e = .returned (ah 0)/\dN w' L iR iX aR tR sz (kP sz In ((p:Int)+1) true) (F.set k (p+1))/\dY w' aR aX (A.set p (gI (F.getD k 0)))/\aj (put4 L iX aR aX) w w'):=by
  have HC:Hid (∀ W,aj aB W0 W->Calls aA 238 #[ah (k:Int),au w.heap.size,au (w.heap.size+1)] W fun e w'=>e = .returned (ah 0)/\dN w' L iR iX aR tR sz (kP sz In ((p:Int)+1) true) (F.set k (p+1))/\dY w' aR aX (A.set p (gI (F.getD k 0)))/\aj (put4 L iX aR aX) W w'):=fun W hW =>
   ZI ((h.still hk0).still hW) ((hA.still hk0).still hW) hne p k _ _ hp hps hin hk (hW.aH hb1 (fun f=>f)) (hW.aH hb2 (fun f=>f))
  have HO:=ay (hO W0 hk0)
  obtain ⟨q0,q1,q2⟩:=(h.still hk0).Ci
  have gQ:=ay hk0
  generalize kP sz In ((p:Int)+1) true=In' at *
  generalize F.set k (p+1)=F' at *
  generalize A.set p (gI (F.getD k 0))=A' at *
  generalize ((p:Int)+1)=pp at *
  clear h hA hne hp hps hin hk hO hW0 hk0 hb1 hb2
  unfold Hid
  go_enter func237,ntmps237
  go_wp2_with (first
   | (go_at_call 149;refine HO.out.mono ?_;rintro e w1 ⟨rfl,hk1⟩;have bI:=ay hk1;clear hk1)
   | (go_at_call 238;refine (HC.out _ bI.out).mono ?_;rintro e w2 ⟨rfl,h1,h2,h3⟩;have H1:=ay h1;have H2:=ay h2;have H3:=ay h3;clear h1 h2 h3))
  go_ret
  exact ⟨rfl,H1.out,H2.out,(gQ.out.mono (fun _ _ f=>f.elim)).trans ((bI.out.mono (fun _ _ f=>f.elim)).trans H3.out)⟩
 have hmf:∀ (fn:Fn) (first aO:Array Value) (w:World),(Instr.makeFunc fn first aO).run aA w = .ok (.func fn first aO) w:=fun _ _ _ _=>rfl
 generalize kP sz In ((p:Int)+1) true=In' at *
 generalize F.set k (p+1)=F' at *
 generalize A.set p (gI (F.getD k 0))=A' at *
 generalize ((p:Int)+1)=pp at *
 clear h hA hne hp hps hin hk hO hb1 hb2 hk0
 go_enter func204,ntmps204
 go_wp2_with fail
 rw [<- hW0]
 clear hW0
 refine HSL.out.mono ?_
 rintro e w1 ⟨rfl,h1,h2,h3⟩
 have H1:=ay h1;have H2:=ay h2;have H3:=ay h3
 clear h1 h2 h3
 go_wp2_with fail
 go_ret
 exact ⟨rfl,H1.out,H2.out,H3.out⟩
end
section
variable {w w':World} {L iR iX aR aX tR sz:Nat} {In F A:List Nat}
theorem XG (h:dN w L iR iX aR tR sz In F) (k:Nat) (hk:k<4) (hf:F.getD k 0=0):Calls aA 202 #[au L,ah (k:Int)] w fun e w'=>e = .returned (.tuple #[ah 0,ah 12])/\w=w':=by
 have HI:=ay (qA (k:Int) w)
 rw [fK (by omega)] at HI
 have qf:=(h.first hk).1
 rw [hf] at qf
 have QX:(k:Int)<4:=by omega
 clear h hk hf
 go_enter func202,ntmps202
 go_wp2_with (go_at_call 198;refine HI.out.mono ?_;rintro e w1 ⟨rfl,rfl⟩)
 go_ret2
 exact ⟨rfl,rfl⟩
def take3 (L iX aR:Nat):Nat->Prop:=fun i=>i=L\/i=iX\/i=aR
theorem abV (h:dN w L iR iX aR tR sz In F) (hA:dY w aR aX A) (hne:iX≠aX) (p k nx:Nat) (hk:k<4) (hf:F.getD k 0=p+1) (hp:p<A.length) (hw:A.getD p 0=gI nx) (hn:nx<=1048576) :
 Calls aA 202 #[au L,ah (k:Int)] w fun e w'=>e = .returned (.tuple #[ah ((p:Int)+1),ah 0])/\dN w' L iR iX aR tR sz (kP sz In ((p:Int)+1) false) (F.set k nx)/\dY w' aR aX A/\aj (take3 L iX aR) w w':=by
 have HI:=ay (fun W=>qA (k:Int) W)
 have hI:=fun W=>qA (k:Int) W
 simp only [fK (show (0<=(k:Int)/\(k:Int)<4) by omega)] at hI
 have HI:=ay hI
 have qf:=(h.first hk).1
 rw [hf] at qf
 have qe:(((p+1:Nat):Nat):Int)=(p:Int)+1:=by omega
 rw [qe] at qf
 have QX:(k:Int)<4:=by omega
 have rX:=ay (RJ (h.still (k:=(aj.refl aB w).drew)) (hA.still (k:=(aj.refl aB w).drew)) p nx hp hw hn)
 have fF:=h.free (3+k)
 have hLn:=h.ne
 obtain ⟨M0,hM0,hbL⟩:=h.aH
 obtain ⟨cap0,hbi⟩:=h.set.aH
 obtain ⟨cur0,hbx,_⟩:=h.set.pU
 obtain ⟨ld,st,hbr⟩:=hA.aH
 have Fv:=hA.pU
 have n5:aR≠iX:=fun e=>by rw [e] at hbr;exact absurd (hbr.jL hbx).2 (by decide)
 have n6:aR≠L:=fun e=>by rw [e] at hbr;exact absurd (hbr.jL hbL).2 (by decide)
 have n7:aX≠L:=fun e=>by rw [e] at Fv;exact absurd (Fv.jL hbL).2 (by decide)
 have n8:aR≠iR:=fun e=>by rw [e] at hbr;exact absurd (hbr.jL hbi).2 (by decide)
 have HN:Hid (aR≠iX/\aR≠L/\aX≠L/\L≠iR/\L≠iX/\aR≠iR/\iX≠aX/\aX≠aR):=⟨n5,n6,n7,hLn.1,hLn.2,n8,hne,fun e=>hA.ne e.symm⟩
 have H:=ay h
 have HA:=ay hA
 have nV:Hid (k<4):=hk
 have zq:Hid (nx<=1048576):=hn
 have hz:((p:Int)+1==0)=false:=by simp;omega
 obtain ⟨pp,hpp⟩:∃ pp:Int,pp=(p:Int)+1:=⟨_,rfl⟩
 rw [<- hpp] at qf hz rX ⊢
 clear h hA hbL hbi hbx hbr Fv hk hp hf hw n5 n6 n7 n8 hLn hne hpp hM0 hI hn qe
 go_enter func202,ntmps202
 go_wp2_with (go_at_call 198;refine (HI.out _).mono ?_;rintro e w1 ⟨rfl,rfl⟩)
 go_region_held3 (fun _=>True)
  (first | exact trivial | fail "nR")
  ((go_at_call 153
    refine rX.out.mono ?_
    rintro e w1 ⟨rfl,ha1,hk1⟩
    have hk01:aj (only aR) w w1:=(aj.refl _ _).drew.trans hk1
    have mJ:=ay (H.out.aK hk01 (fun e=>HN.out.2.1 e.symm) (fun e=>HN.out.2.2.2.2.2.1 e.symm) (fun e=>HN.out.1 e.symm))
    have HA1:=ay ha1
    have bI:=ay hk01
    have qf1:=hk01.nP qf (fun e=>HN.out.2.1 e.symm)
    have fF1:=mJ.out.free (3+k)
    have jQ:Hid (w1.cell? ⟨L,3+k,none⟩=some (ah pp)/\w1.frozen? ⟨L,3+k,none⟩=false):=⟨qf1,fF1⟩
    clear ha1 hk1 hk01))
 obtain ⟨W2,hW2⟩:∃ W',W'=w1.setCell ⟨L,3+k,none⟩ (ah (nx:Int)):=⟨_,rfl⟩
 rw [<- hW2]
 have hk12:aj (only L) w1 W2:=by rw [hW2];exact (aj.refl _ _).put _ _
 have HS2:Hid (dN W2 L iR iX aR tR sz In (F.set k nx)):=by
  rw [hW2]
  exact mJ.out.afw nV.out zq.out
 have HA2:=ay (HA1.out.aK hk12 HN.out.2.1 HN.out.2.2.1)
 have dF:Hid (aj (take3 L iX aR) w W2):=(bI.out.mono (fun i _ e=>Or.inr (Or.inr e))).trans (hk12.mono (fun i _ e=>Or.inl e))
 clear hW2 hk12 qf fF qf1 fF1 jQ mJ HA1 bI rX
 obtain ⟨mm,qm⟩:=HS2.out.many nV.out
 have fM:=HS2.out.free (7+k)
 go_wp2_with fail
 go_region
 obtain ⟨W3,hW3⟩:∃ W',W'=(W2.setCell ⟨L,7+k,none⟩ (ah (wrap64 (mm - 1)))).drew:=⟨_,rfl⟩
 rw [<- hW3]
 have hk23:aj (only L) W2 W3:=by rw [hW3];exact ((aj.refl _ _).put _ _).drew
 have KY:Hid (dN W3 L iR iX aR tR sz In (F.set k nx)):=by
  rw [hW3]
  exact (HS2.out.afx k _).still (k:=(aj.refl aB _).drew)
 have RN:=ay (HA2.out.aK hk23 HN.out.2.1 HN.out.2.2.1)
 have jF:Hid (aj (take3 L iX aR) w W3):=dF.out.trans (hk23.mono (fun i _ e=>Or.inl e))
 clear hW3 hk23 fM qm HS2 HA2 dF
 obtain ⟨q0,q1,q2⟩:=KY.out.Ci
 have EH:=ay (Cc KY.out.set pp false)
 generalize jA sz In pp false=pb at *
 go_wp2_with (go_at_call 163;refine EH.out.mono ?_;rintro e w4 ⟨rfl,hs4,hk4⟩;have KZ:=ay hs4;have RP:=ay hk4;clear hs4 hk4)
 go_ret2
 exact ⟨rfl,KY.out.RI RP.out HN.out.2.2.2.2.1 KZ.out,RN.out.aK RP.out HN.out.1 (fun e=>HN.out.2.2.2.2.2.2.1 e.symm),jF.out.trans (RP.out.mono (fun i _ e=>Or.inr (Or.inl e)))⟩
theorem aei {tX b ww:Nat} {c:bK} {K:List Nat} (hA:dY w aR aX A) (Wh:iF w tR tX c K) (hb:c.b=b) (hw:c.w=ww) (hlen:A.length=b*ww) (hT:lu w):Calls aA 110 #[au aR,au tR] w fun e w'=>∃ L iR iX,e = .returned (.tuple #[au L,ah 0])/\dN w' L iR iX aR tR (b*ww+1) (ajj ((b*ww+1+63)/64) 0) [0,0,0,0]/\w.heap.size<=L/\w.heap.size<=iR/\w.heap.size<=iX/\aj aB w w':=by
 have hn:=qH Wh.ok hb hw
 have HC:=ay (zN Wh)
 have HW:Hid (∀ W,aj aB w W->Calls aA 108 #[.agg c.cells.toArray] W fun e w'=>e = .returned (ah ((b*ww:Nat):Int))/\aj aB W w'):=fun W hW=>Ba Wh.ok hb hw W (hT.aK hW)
 have HL:Hid (∀ W,aj aB w W->Calls aA 157 #[au aR] W fun e w'=>e = .returned (ah ((b*ww:Nat):Int))/\W=w'):=fun W hW=>by
  have h9:=RF (hA.still hW)
  rw [hlen] at h9
  exact h9
 have HB:Hid (∀ W,Calls aA 111 #[ah (((b*ww:Nat):Int)+1)] W fun e w'=>∃ B X,e = .returned (.tuple #[au B,ah 0])/\jo w' B X (b*ww+1) (ajj ((b*ww+1+63)/64) 0)/\W.heap.size<=B/\W.heap.size<=X/\aj aB W w'):=fun W=>by
  have h9:=Rz (b*ww+1) (by omega) W
  rw [show (((b*ww+1:Nat):Nat):Int)=((b*ww:Nat):Int)+1 by omega] at h9
  exact h9
 generalize b*ww=N at *
 have hwr:IntKind.i64.wrap ((N:Int)+1)=(N:Int)+1:=IntWalk.i64_in _ (by omega)
 generalize (ajj ((N+1+63)/64) 0)=In' at *
 obtain ⟨c0,c1,c2,c3,c4,c5,c6⟩:=c
 simp only [bK.cells] at *
 clear hA Wh hb hw hlen hT hn
 go_enter func110,ntmps110
 go_wp2_with (first
  | (go_at_call 53;refine HC.out.mono ?_;rintro e w1 ⟨rfl,hk1⟩;have bI:=ay hk1;clear hk1)
  | (go_at_call 108;refine (HW.out _ bI.out).mono ?_;rintro e w2 ⟨rfl,hk2⟩;have dF:=ay (bI.out.trans hk2);clear hk2)
  | (go_at_call 157;refine (HL.out _ dF.out).mono ?_;rintro e w3 ⟨rfl,rfl⟩)
  | (go_at_call 111;refine (HB.out _).mono ?_;rintro e w4 ⟨iR,iX,rfl,hs,h1,h2,hk4⟩;have HS:=ay hs;have nV:=ay (dF.out.trans hk4);have Jj:Hid (w.heap.size<=iR/\w.heap.size<=iX):=⟨ajU dF.out.size h1,ajU dF.out.size h2⟩;clear hs h1 h2 hk4))
 obtain ⟨W5,nI⟩:∃ W',W'=w4.alloc (.cells #[au aR,au tR,au iR,ah 0,ah 0,ah 0,ah 0,ah 0,ah 0,ah 0,ah 0] 208):=⟨_,rfl⟩
 rw [<- nI]
 go_ret2
 have hk5:aj aB w4 W5:=by rw [nI];exact (aj.refl _ _).alloc _
 refine ⟨w4.heap.size,iR,iX,rfl,⟨⟨[0,0,0,0],rfl,?_⟩,HS.out.still hk5,rfl,by decide⟩,nV.out.size,Jj.out.1,Jj.out.2,nV.out.trans hk5⟩
 rw [nI]
 exact aF.bC w4 _ _
end
end
section
open Go.RowKit
theorem JQ {w:World} {bP n:Nat} {e:TypeId} {v:Value} {xs:List Value} (h:w.ownsRow bP e 1 v n xs) (h1:1<=n):∃ g aO,v = .slice (some ⟨g,0,none⟩) n aO/\bP<=g:=by
 rcases h.2 with ⟨rfl,h0⟩|⟨g,aO,cur,rfl,hb,_⟩
 ·omega
 ·exact ⟨g,aO,rfl,hb⟩
theorem RQ (ad:Addr) (n c:Nat) (xs:List Value) (w:World) (h:Cells w (some ad) n xs) (hm:n<=4000000000) (h1:∀ u∈xs,u.oneCell'=true) :
 Calls aA 123 #[.slice (some ad) n c] w fun e w'=>∃ v',e = .returned v'/\w'.ownsRow w.heap.size 146 1 v' n xs/\aj aB w w':=by
 obtain ⟨rfl,hc⟩:=h
 have hn:=fun w=>Lib.run_eql_slice_nil (P:=aA) w 147 146 (some ad) xs.length c 0 0 (by kernel_rfl)
 obtain ⟨i0,hi1,hi2,hi3,hi4⟩:=info_parts Tryz.infoU
 have hw0:∀ w:World,(w.alloc (.cells #[] 146)).ownsRow w.heap.size 146 1 (.slice (some ⟨w.heap.size,0,none⟩) 0 0) 0 []:=fun w=>World.ownsRow_made w #[] 0 (Nat.le_refl _) (by decide) rfl
 have hcell:∀ (j:Nat) (u:Value),xs[j]?=some u->(w.alloc (.cells #[] 146)).cell? (ad.add j)=some u:=fun j u hj=>by
  have hjl:=(ake.1 hj).1
  obtain ⟨b,off,e,hx⟩:=hc (by omega)
  injection e with e
  subst e
  have hcl:=hx j u hj
  have ea:(⟨b,off,none⟩:Addr).add j=⟨b,off+j,none⟩:=by simp only [Addr.add];split<;>simp_all
  rw [ea,World.cell?_alloc_lt _ _ _ (World.block_lt_of_cell? _ _ hcl)]
  exact hcl
 have HC:=ay hcell
 have HU:=ay h1
 clear hcell hc h1
 go_enter func123,ntmps123
 go_wp2_with (at_builtin;refine wpList_append_own _ rfl _ _ 147 rfl w.heap.size 146 i0 (.int .u64 0) 1 8 (by kernel_rfl) hi1 hi2 hi3 hi4 rfl (by decide) _ _ _ rfl (hw0 w) ad xs.length c xs rfl (by simp) HC.out HU.out (by unfold maxLen;omega) (by omega) (by simp) ?_;intro v' w1 hown hgr _)
 have hown':w1.ownsRow w.heap.size 146 1 v' xs.length xs:=by simpa using hown
 have hkeep:aj aB w w1:=((aj.refl aB w).alloc _).qh hgr (fun k e hk=>absurd hk (by have e':w.heap.size=k:=Option.some.inj e;omega))
 clear hown hgr
 go_wp2
 go_ret
 exact ⟨_,rfl,hown',hkeep⟩
section
variable {w w':World} {B X size:Nat} {W:List Nat}
theorem jo.cells (h:jo w B X size W):Cells w (some ⟨X,0,none⟩) W.length (mQ W):=by
 obtain ⟨cur,h2,h3⟩:=h.pU
 refine ⟨by simp [mQ],fun _=>⟨X,0,rfl,fun j u hj=>?_⟩⟩
 rw [ajI]
 exact h2.cell j (h3 j u hj)
theorem OI (h:jo w B X size W) (h1:1<=size):Calls aA 88 #[au B] w fun e w'=>∃ B' X',e = .returned (au B')/\jo w' B' X' size W/\w.heap.size<=B'/\w.heap.size<=X'/\aj aB w w':=by
 obtain ⟨aO,hb⟩:=h.aH
 have y0:=hb.cell 0 rfl
 have y1:=hb.cell 1 rfl
 have hlen:=h.len
 have hsz:=h.sz
 have HC:=ay (RQ ⟨X,0,none⟩ W.length aO (mQ W) w.drew (h.still (k:=(aj.refl aB w).drew)).cells (by omega) (fun u hu=>by obtain ⟨z,_,rfl⟩:=List.mem_map.1 hu;rfl))
 have H:=ay h
 have EI:Hid (1<=W.length):=by unfold Hid;omega
 generalize hWL:W.length=wl at *
 have DC:=ay hWL
 clear h hb hlen hsz h1 hWL
 go_enter func88,ntmps88
 go_wp2_with fail
 go_region_held3 (fun w'=>w'.cell? ⟨B,0,none⟩=some (.slice (some ⟨X,0,none⟩) wl aO)/\w'.cell? ⟨B,1,none⟩=some (ah (size:Int)))
  (first | exact ⟨y0, y1⟩ | exact ⟨bI.out.still y0, bI.out.still y1⟩ | exact ⟨(bI.out.alloc _).still y0, (bI.out.alloc _).still y1⟩ | fail "nR")
  ((go_at_call 123
    refine HC.out.mono ?_
    rintro e w1 ⟨v,rfl,hown,hk1⟩
    obtain ⟨g,cp,rfl,hge⟩:=JQ hown EI.out
    have HGE:=ay hge
    have HOWN:=ay hown
    have bI:=ay ((aj.refl aB w).drew.trans hk1)
    clear hown hk1 hge))
 obtain ⟨W2,hW2⟩:∃ W',W'=w1.alloc (.cells #[.slice (some ⟨g,0,none⟩) wl cp,ah (size:Int)] 149):=⟨_,rfl⟩
 rw [<- hW2]
 go_wp2_with fail
 go_ret
 have hk2:aj aB w1 W2:=by rw [hW2];exact (aj.refl _ _).alloc _
 refine ⟨w1.heap.size,g,rfl,⟨⟨cp,?_⟩,?_,H.out.len,H.out.lt,H.out.sz⟩,bI.out.size,HGE.out,bI.out.trans hk2⟩
 ·rw [hW2,DC.out];exact aF.bC w1 _ _
 ·rcases HOWN.out.2 with ⟨h,_⟩|⟨g',cap',cur,hv,hb,hg,hn,hm,hs,hc⟩
  ·cases h
  ·cases hv
   refine ⟨cur.toList,hk2.aH (by unfold aF;simpa using hg) (fun f=>f),fun i v hi=>?_⟩
   rw [<- hc] at hi
   have hl:=(ake.1 hi).1
   rw [List.getElem?_take_of_lt (by simp at hl;omega)] at hi
   exact hi
end
theorem NG {size:Nat} {W:List Nat} (hl:W.length=(size+63)/64) {n:Nat} (hn:n<size) (jg:Bool) (m:Nat):oU size (kP size W (n:Int) jg) (m:Int)=if m=n then jg else oU size W (m:Int):=by
 have h0:decide (0<=(n:Int)/\(n:Int)<(size:Int))=true:=fK (by omega)
 have hb:oU size W (n:Int)=lI W n:=by unfold oU;rw [h0,akG,ajv]
 unfold kP jA
 rw [h0,akG,hb]
 by_cases he:lI W n=jg
 ·rw [aT (by rw [he];simp)]
  split
  ·rename_i e;subst e;rw [hb,he]
  ·rfl
 ·rw [aZ (by simpa using he)]
  unfold oU
  rw [ajv,ajv]
  split
  ·rename_i e;subst e
   rw [h0,akG,ZB (by omega)]
   revert he
   cases lI W m<;>cases jg<;>simp
  ·rename_i e
   rw [Xz e]
def qP (w:World) (B X size:Nat) (s:Nat->Bool):Prop:=∃ W,jo w B X size W/\∀ n:Nat,oU size W (n:Int)=s n
section
variable {w w':World} {B X size:Nat} {s:Nat->Bool}
theorem qP.aK {S:Nat->Prop} (h:qP w B X size s) (k:aj S w w') (hB:¬ S B) (hX:¬ S X):qP w' B X size s:=by
 obtain ⟨W,h1,h2⟩:=h
 exact ⟨W,h1.aK k hB hX,h2⟩
theorem qP.Wi (h:qP w B X size s) (n:Nat):Calls aA 54 #[au B,ah (n:Int)] w fun e w'=>e = .returned (.bool (s n))/\w=w':=by
 obtain ⟨W,h1,h2⟩:=h
 rw [<- h2 n]
 exact JM h1 n
theorem qP.yI (h:qP w B X size s) {n:Nat} (hn:s n=true):n<size:=by
 obtain ⟨W,h1,h2⟩:=h
 rw [<- h2 n] at hn
 unfold oU at hn
 simp only [akD,decide_eq_true_eq] at hn
 omega
theorem qP.put (h:qP w B X size s) (n:Nat) (hn:n<size) (jg:Bool):Calls aA 163 #[au B,ah (n:Int),.bool jg] w fun e w'=>e = .returned (.bool (s n != jg))/\qP w' B X size (iZ s n jg)/\aj (only X) w w':=by
 obtain ⟨W,h1,h2⟩:=h
 have e:jA size W (n:Int) jg=(s n != jg):=by
  unfold jA
  rw [fK (by omega),akG,h2]
 rw [<- e]
 refine (Cc h1 n jg).mono ?_
 rintro e w' ⟨rfl,h3,h4⟩
 exact ⟨rfl,⟨_,h3,fun m=>by rw [NG h1.len hn,h2];rfl⟩,h4⟩
theorem qP.afy (h:qP w B X size s) (n:Nat) (hn:s n=false):Calls aA 163 #[au B,ah (n:Int),.bool false] w fun e w'=>e = .returned (.bool false)/\qP w' B X size s/\aj (only X) w w':=by
 obtain ⟨W,h1,h2⟩:=h
 have e:jA size W (n:Int) false=false:=by
  unfold jA
  rw [h2,hn];simp
 have e2:kP size W (n:Int) false=W:=by unfold kP;rw [aT (by rw [e];decide)]
 refine (Cc h1 n false).mono ?_
 rintro e' w' ⟨rfl,h3,h4⟩
 rw [e2] at h3
 rw [e]
 exact ⟨rfl,⟨_,h3,h2⟩,h4⟩
end
section
variable {c:bK} {b ww:Nat} (hok:c.ok=true) (hb:c.b=b) (hw:c.w=ww)
include hok hb hw
theorem XH (k:Nat) (a:Int) (ha:a<1\/((b*ww:Nat):Int)<a) (w:World) (hT:lu w):Calls aA 197 #[.agg c.cells.toArray,ah (k:Int),ah a] w fun e w'=>e = .returned (.tuple #[.agg #[ah 0,ah 0,ah 0],.bool false])/\aj aB w w':=by
 obtain ⟨W0,hW0⟩:∃ W',W'=(w.alloc (.cells c.cells.toArray 23)).alloc (.cells #[ah 0,ah 0,ah 0] 229):=⟨_,rfl⟩
 have HK:Hid (aj aB w W0):=by rw [hW0];exact ((aj.refl _ _).alloc _).alloc _
 have HC:=ay (Jd hok hb hw a ha W0 (hT.aK HK.out))
 have HO:Hid (aF W0 (w.heap.size+1) [ah 0,ah 0,ah 0] 229):=by
  rw [hW0]
  have h:=aF.bC (w.alloc (.cells c.cells.toArray 23)) [ah 0,ah 0,ah 0] 229
  rw [ajq] at h
  exact h
 obtain ⟨c0,c1,c2,c3,c4,c5,c6⟩:=c
 simp only [bK.cells] at *
 have hOg:w.heap.size<=w.heap.size+1:=by omega
 clear hT hok hb hw ha
 go_enter func197,ntmps197
 go_wp2_with fail
 rw [<- hW0]
 clear hW0
 refine HC.out.mono ?_
 rintro e w1 ⟨rfl,hk1⟩
 have bI:=ay (HK.out.trans hk1)
 have ho1:=hk1.aH HO.out (fun f=>f)
 clear hk1 HK HC HO
 generalize w.heap.size+1=O at *
 have o0:=ho1.cell 0 rfl;have o1:=ho1.cell 1 rfl;have o2:=ho1.cell 2 rfl
 have f0:=ho1.free 0;have f1:=ho1.free 1;have f2:=ho1.free 2
 have uI:=ay ho1
 clear ho1
 go_wp2_with fail
 obtain ⟨W4,l9⟩:∃ W',W'=(((w1.setCell ⟨O,0,none⟩ (ah 0)).setCell ⟨O,1,none⟩ (ah 0)).setCell ⟨O,2,none⟩ (ah 0)):=⟨_,rfl⟩
 rw [<- l9]
 have hF:aF W4 O [ah 0,ah 0,ah 0] 229:=by rw [l9];exact ((uI.out.set 0 _).set 1 _).set 2 _
 have k0:=hF.cell 0 rfl;have k1:=hF.cell 1 rfl;have k2:=hF.cell 2 rfl
 have hk4:aj aB w W4:=by
  rw [l9]
  exact bI.out.kF (((((aj.refl (only O) w1).put 0 _).put 1 _).put 2 _)) (fun i hi e=>absurd hi (by unfold only at e;omega))
 refine bodyPost_ret (v := .tuple #[.agg #[ah 0,ah 0,ah 0],.bool false]) (by simp [results,Tryz.f197,go_sem,k0,k1,k2]) rfl ⟨rfl,hk4⟩
theorem Jk (k B0 L:Nat) (hk:k<4) (hB:B0<b) (hL:L<ww) (hs:ww/2^(k+1)<=L/2^(k+1)) (w:World) (hT:lu w) (hS:jk w):Calls aA 197 #[.agg c.cells.toArray,ah (k:Int),ah (((B0*ww+L:Nat):Int)+1)] w fun e w'=>e = .returned (.tuple #[.agg #[ah 0,ah 0,ah 0],.bool false])/\aj aB w w':=by
 obtain ⟨W0,hW0⟩:∃ W',W'=(w.alloc (.cells c.cells.toArray 23)).alloc (.cells #[ah 0,ah 0,ah 0] 229):=⟨_,rfl⟩
 have HK:Hid (aj aB w W0):=by rw [hW0];exact ((aj.refl _ _).alloc _).alloc _
 have hn:=qH hok hb hw
 have hz:=xZ hk
 have q2:B0*ww+L<b*ww:=by
  have h3:(B0+1)*ww<=b*ww:=ajE ww (Nat.succ_le_of_lt hB)
  have h4:(B0+1)*ww=B0*ww+ww:=by rw [Nat.add_mul,Nat.one_mul]
  omega
 have q3:(B0*ww+L)/ww=B0:=by
  rw [Nat.add_comm,Nat.add_mul_div_right _ _ (by omega),Nat.div_eq_of_lt hL,ajI]
 have HC:=ay (Bc hok hb hw (B0*ww+L) q2 W0 (hT.aK HK.out))
 rw [q3] at HC
 have HB:=ay (show aF W0 w.heap.size c.cells 23 by rw [hW0];exact (aF.bC w _ _).alloc _)
 have HO:Hid (aF W0 (w.heap.size+1) [ah 0,ah 0,ah 0] 229):=by
  rw [hW0]
  have h:=aF.bC (w.alloc (.cells c.cells.toArray 23)) [ah 0,ah 0,ah 0] 229
  rw [ajq] at h
  exact h
 have hI:=fun W=>qA (k:Int) W
 have HZ:Hid (∀ W,aj aB w W->Calls aA 201 #[ah (k:Int)] W fun e w'=>e = .returned (ah ((2^(k+1):Nat):Int))/\W=w'):=fun W hW=>by
  have h:=A8 (k:Int) W (hS.aK hW)
  rw [KF hk] at h
  simpa using h
 have HP:Hid (∀ W,aj aB w W->Calls aA 194 #[ah (ww:Int),ah (k:Int)] W fun e w'=>e = .returned (ah ((ww/2^(k+1):Nat):Int))/\W=w'):=fun W hW=>Dw ww k ⟨hn.2.2.1,hn.2.2.2.1⟩ hk W (hS.aK hW)
 have hkd:decide (0<=(k:Int)/\(k:Int)<4)=true:=fK (by omega)
 simp only [hkd] at hI
 have HI:=ay hI
 clear hI
 obtain ⟨c0,c1,c2,c3,c4,c5,c6⟩:=c
 simp only at hb hw
 subst hb hw
 have hmul:(B0:Int)*(ww:Int)=((B0*ww:Nat):Int):=by simp
 have hM:B0*ww<=b*ww:=ajE _ (by omega)
 have d1':decide (((ww/2^(k+1):Nat):Int)<=((L/2^(k+1):Nat):Int))=true:=fK (by omega)
 obtain ⟨s,hsE⟩:∃ s,s=L/2^(k+1):=⟨_,rfl⟩
 obtain ⟨j,hjE⟩:∃ j,j=L%2^(k+1):=⟨_,rfl⟩
 rw [<- hsE] at d1' hs
 generalize 2^(k+1)=z at *
 generalize ww/z=per at *
 generalize b*ww=N at *
 generalize B0*ww=M at *
 obtain ⟨hleft,hq,hr,hr2,hq2,hm1,hs1,hmw,_,hz0,hz1,hz2,hzI⟩:=Q5 (per:=s+1) hz hsE.symm hjE.symm hL hn.2.2.2.1 (ajU hM hn.2.2.2.2) (Nat.lt_succ_self s)
 have HD:=ay d1'
 obtain ⟨aa,Gq⟩:∃ aa:Int,aa=((M+L:Nat):Int)+1:=⟨_,rfl⟩
 rw [<- Gq] at HC hleft ⊢
 simp only [bK.cells] at *
 clear hT hS hok q2 q3 hn hkd hs hM Gq hsE hjE d1'
 go_enter func197,ntmps197
 go_wp2_with fail
 rw [<- hW0]
 clear hW0
 refine HC.out.mono ?_
 rintro e w1 ⟨rfl,hk1⟩
 have bI:=ay (HK.out.trans hk1)
 have uI:=ay (hk1.aH HO.out (fun f=>f))
 have HB1:=ay (hk1.aH HB.out (fun f=>f))
 have y1:=(hk1.aH HB.out (fun f=>f)).cell 1 rfl
 clear hk1 HK HC HB HO
 go_wp2_with (go_at_call 198;refine (HI.out _).mono ?_;rintro e w2 ⟨rfl,rfl⟩)
 go_region_held3 (fun w'=>aj aB w1 w')
  (first | exact aj.refl _ _ | exact (aj.refl _ _).drew | exact (aj.refl _ _).drew.alloc _ | assumption | exact aj.alloc (by assumption) _ | fail "nR")
  ((go_at_call 201
    refine (HZ.out _ (bI.out.trans (by first | assumption | exact aj.alloc (by assumption) _ | exact (aj.refl _ _).drew | exact (aj.refl _ _).drew.alloc _ | fail "qg"))).mono ?_
    rintro e w2 ⟨rfl,rfl⟩))
 all_goals
  obtain ⟨W2,hW2⟩:∃ W',W'=(w1.alloc (.cells #[ah (B0:Int),ah (s:Int),ah (j:Int)] 229)).drew:=⟨_,rfl⟩
  rw [<- hW2]
  have dF:Hid (aj aB w W2):=by rw [hW2];exact (bI.out.alloc _).drew
  have hp2:aF W2 w1.heap.size [ah (B0:Int),ah (s:Int),ah (j:Int)] 229:=by rw [hW2];exact (aF.bC w1 _ _).drew
  have ho2:aF W2 (w.heap.size+1) [ah 0,ah 0,ah 0] 229:=by rw [hW2];exact (uI.out.alloc _).drew
  have hb2:=show aF W2 w.heap.size _ 23 by rw [hW2];exact (HB1.out.alloc _).drew
  have hlt:w.heap.size+1<w1.heap.size:=uI.out.lt
  have hOg:w.heap.size<=w.heap.size+1:=by omega
  clear hW2 y1 HB1 uI bI HZ hr hr2 hq hq2 hm1 hs1 hleft hmul hmw hz0 hz1 hz2 hzI
  generalize w1.heap.size=D at *
  generalize w.heap.size+1=O at *
  have y1:=hb2.cell 1 rfl
  have p1:=hp2.cell 1 rfl
  have Q7:=ay ho2
  clear hp2 ho2 hb2
  go_wp2_with fail
  have d1:=HD.out
  go_quiet (first|(go_at_call 194;exact Calls.quiet_of_same (iQ (HP.out _ (dF.out.drewN _)))))
  obtain ⟨W3,hW3⟩:∃ W',W'=W2.drewN nq:=⟨_,rfl⟩
  rw [<- hW3]
  have jF:Hid (aj aB w W3):=by rw [hW3];exact dF.out.drewN _
  have h23:aj aB W2 W3:=by rw [hW3];exact (aj.refl _ _).drewN _
  have ho3:=h23.aH Q7.out (fun f=>f)
  clear hW3 h23 y1 p1 Q7 dF
  have o0:=ho3.cell 0 rfl;have o1:=ho3.cell 1 rfl;have o2:=ho3.cell 2 rfl
  have f0:=ho3.free 0;have f1:=ho3.free 1;have f2:=ho3.free 2
  have zX:=ay ho3
  clear ho3
  have d2:per<=s:=Int.ofNat_le.1 (of_decide_eq_true HD.out)
  go_wp2_with fail
  obtain ⟨W4,l9⟩:∃ W',W'=(((W3.setCell ⟨O,0,none⟩ (ah 0)).setCell ⟨O,1,none⟩ (ah 0)).setCell ⟨O,2,none⟩ (ah 0)):=⟨_,rfl⟩
  rw [<- l9]
  have hF:aF W4 O [ah 0,ah 0,ah 0] 229:=by rw [l9];exact ((zX.out.set 0 _).set 1 _).set 2 _
  have k0:=hF.cell 0 rfl;have k1:=hF.cell 1 rfl;have k2:=hF.cell 2 rfl
  have hk4:aj aB w W4:=by
   rw [l9]
   exact jF.out.kF (((((aj.refl (only O) W3).put 0 _).put 1 _).put 2 _)) (fun i hi e=>absurd hi (by unfold only at e;omega))
  refine bodyPost_ret (v := .tuple #[.agg #[ah 0,ah 0,ah 0],.bool false]) (by simp [results,Tryz.f197,go_sem,k0,k1,k2]) rfl ⟨rfl,hk4⟩
theorem ZJ (k p:Nat) (hk:k<4) (hp:p<b*ww) (w:World) (hT:lu w) (hS:jk w):∃ (B0 s j:Nat) (ok:Bool),(ok=true->B0=p/ww/\s=p%ww/2^(k+1)/\j=p%ww%2^(k+1))/\(ok=true↔p%ww/2^(k+1)<ww/2^(k+1)) /\
 Calls aA 197 #[.agg c.cells.toArray,ah (k:Int),ah ((p:Int)+1)] w fun e w'=>e = .returned (.tuple #[.agg #[ah (B0:Int),ah (s:Int),ah (j:Int)],.bool ok])/\aj aB w w':=by
 have hn:=qH hok hb hw
 have hB:p/ww<b:=by rw [akH (by omega)];exact hp
 have hL:p%ww<ww:=akI _ (by omega)
 have e1:p/ww*ww+p%ww=p:=by have:=ajC p ww;rw [akJ] at this;exact this
 by_cases hs:p%ww/2^(k+1)<ww/2^(k+1)
 ·have h:=Ot hok hb hw k (p/ww) (p%ww/2^(k+1)) (p%ww%2^(k+1)) hk hB hs (akI _ (Nat.two_pow_pos _)) w hT hS
  rw [show p%ww/2^(k+1)*2^(k+1)+p%ww%2^(k+1)=p%ww by rw [akJ];exact ajC _ _,e1] at h
  exact ⟨_,_,_,true,fun _=>⟨rfl,rfl,rfl⟩,by simpa using hs,h⟩
 ·have h:=Jk hok hb hw k (p/ww) (p%ww) hk hB hL (by omega) w hT hS
  rw [e1] at h
  exact ⟨0,0,0,false,fun e=>(nomatch e),by simpa using hs,h⟩
end
section
variable {w:World} {R X:Nat} {c:bK} {K:List Nat}
theorem Vf (h:iF w R X c K) (B:Nat) (hB:B<K.length) (hk:K.getD B 0=0):Calls aA 102 #[au R,ah (B:Int)] w fun e w'=>e = .returned (.tuple #[ah 0,.bool false])/\w=w':=by
 have hb:=h.aH
 obtain ⟨c0,c1,c2,c3,c4,c5,c6⟩:=c
 simp only [bK.cells,List.cons_append,akr] at hb
 have y7:=hb.cell 7 rfl
 have z:=h.jh.cell B (uw hB)
 rw [hk] at z
 have hs:=h.lU
 have d1:decide ((K.length:Int)<=(B:Int))=false:=gJ (by omega)
 have hBI:(B:Int)<(K.length:Int):=by omega
 have Jh:(0:Int)<=(B:Int):=by omega
 generalize K.length=L at *
 clear h hb hk hs hB
 go_enter func102,ntmps102
 go_wp2_with fail
 go_ret2
 exact ⟨rfl,rfl⟩
theorem XI (h:iF w R X c K) (B:Nat) (hB:K.length<=B):Calls aA 102 #[au R,ah (B:Int)] w fun e w'=>e = .returned (.tuple #[ah 0,.bool false])/\w=w':=by
 have hb:=h.aH
 obtain ⟨c0,c1,c2,c3,c4,c5,c6⟩:=c
 simp only [bK.cells,List.cons_append,akr] at hb
 have y7:=hb.cell 7 rfl
 have hs:=h.lU
 have d1:decide ((K.length:Int)<=(B:Int))=true:=fK (by omega)
 have hBI:(K.length:Int)<=(B:Int):=by omega
 have Jh:(0:Int)<=(B:Int):=by omega
 generalize K.length=L at *
 clear h hb hs hB
 go_enter func102,ntmps102
 go_wp2_with fail
 go_ret2
 exact ⟨rfl,rfl⟩
theorem OJ (h:iF w R X c K) (B:Nat):Calls aA 102 #[au R,ah (B:Int)] w fun e w'=>e = .returned (.tuple #[ah ((K.getD B 0 - 1:Nat):Int),.bool (decide (K.getD B 0≠0))])/\w=w':=by
 rcases ajz B K.length with hB|hB
 ·by_cases h0:K.getD B 0=0
  ·have h1:=Vf h B hB h0
   rw [h0];exact h1
  ·have hle:K.getD B 0<=4:=by
    rw [ajg,ajh hB]
    exact h.le _ (aji hB)
   have h1:=G5 h B (K.getD B 0 - 1) hB (by omega) (by omega)
   rw [fK h0];exact h1
 ·have h1:=XI h B hB
  rw [ajg,ajK hB];exact h1
theorem OL (h:iF w R X c K) (a:Int) (B k B1 s j:Nat) (okb okc okf:Bool)
 (hAB:∀ W,aj aB w W->Calls aA 196 #[.agg c.cells.toArray,ah a] W fun e w'=>e = .returned (.tuple #[ah (B:Int),.bool okb])/\aj aB W w')
 (hCL:∀ W,aj aB w W->Calls aA 102 #[au R,ah (B:Int)] W fun e w'=>e = .returned (.tuple #[ah (k:Int),.bool okc])/\W=w')
 (hF:∀ W,aj aB w W->Calls aA 197 #[.agg c.cells.toArray,ah (k:Int),ah a] W fun e w'=>e = .returned (.tuple #[.agg #[ah (B1:Int),ah (s:Int),ah (j:Int)],.bool okf])/\aj aB W w')
 (hno:(okf&&okc&&(j==0))=false) :
 Calls aA 149 #[au R,ah a] w fun e w'=>e = .returned (.tuple #[ah 0,ah 0,.bool false])/\aj aB w w':=by
 have HC:Hid (∀ W,aj aB w W->Calls aA 53 #[au R] W fun e w'=>e = .returned (.agg c.cells.toArray)/\aj aB W w'):=fun W hW=>zN (h.still hW)
 have HAB:=ay hAB
 have uN:=ay hCL
 have HF:=ay hF
 obtain ⟨c0,c1,c2,c3,c4,c5,c6⟩:=c
 simp only [bK.cells] at *
 have HKK:=ay (aj.refl aB w)
 clear h hAB hCL hF
 cases okf with
 | false =>
   clear hno
   go_enter func149,ntmps149
   go_wp2_with (first
    | (go_at_call 53;refine (HC.out _ HKK.out).mono ?_;rintro e w1 ⟨rfl,hk1⟩;have HKK:=ay (HKK.out.trans hk1);clear hk1)
    | (go_at_call 196;refine (HAB.out _ HKK.out).mono ?_;rintro e w1 ⟨rfl,hk1⟩;have HKK:=ay (HKK.out.trans hk1);clear hk1)
    | (go_at_call 197;refine (HF.out _ HKK.out).mono ?_;rintro e w1 ⟨rfl,hk1⟩;have HKK:=ay (HKK.out.trans hk1);clear hk1)
    | (go_at_call 102;refine (uN.out _ HKK.out).mono ?_;rintro e w1 ⟨rfl,rfl⟩))
   go_ret3
   exact ⟨rfl,HKK.out.alloc _⟩
 | true =>
   cases okc with
   | false =>
     clear hno
     go_enter func149,ntmps149
     go_wp2_with (first
      | (go_at_call 53;refine (HC.out _ HKK.out).mono ?_;rintro e w1 ⟨rfl,hk1⟩;have HKK:=ay (HKK.out.trans hk1);clear hk1)
      | (go_at_call 196;refine (HAB.out _ HKK.out).mono ?_;rintro e w1 ⟨rfl,hk1⟩;have HKK:=ay (HKK.out.trans hk1);clear hk1)
      | (go_at_call 197;refine (HF.out _ HKK.out).mono ?_;rintro e w1 ⟨rfl,hk1⟩;have HKK:=ay (HKK.out.trans hk1);clear hk1)
      | (go_at_call 102;refine (uN.out _ HKK.out).mono ?_;rintro e w1 ⟨rfl,rfl⟩))
     go_ret3
     exact ⟨rfl,HKK.out.alloc _⟩
   | true =>
     have hj:j≠0:=by intro e;subst e;simp at hno
     have d1:((j:Int)==0)=false:=by simp;omega
     have d2:((j:Int) != 0)=true:=by simp only [bne,d1];rfl
     clear hno hj
     go_enter func149,ntmps149
     go_wp2_with (first
      | (go_at_call 53;refine (HC.out _ HKK.out).mono ?_;rintro e w1 ⟨rfl,hk1⟩;have HKK:=ay (HKK.out.trans hk1);clear hk1)
      | (go_at_call 196;refine (HAB.out _ HKK.out).mono ?_;rintro e w1 ⟨rfl,hk1⟩;have HKK:=ay (HKK.out.trans hk1);clear hk1)
      | (go_at_call 197;refine (HF.out _ HKK.out).mono ?_;rintro e w1 ⟨rfl,hk1⟩;have HKK:=ay (HKK.out.trans hk1);clear hk1)
      | (go_at_call 102;refine (uN.out _ HKK.out).mono ?_;rintro e w1 ⟨rfl,rfl⟩))
     go_ret3
     exact ⟨rfl,HKK.out.alloc _⟩
theorem OM (h:iF w R X c K) (ww a:Nat) (hw:c.w=ww) (ho:qI K.length ww K a=none) (hT:lu w) (hS:jk w):Calls aA 149 #[au R,ah (a:Int)] w fun e w'=>e = .returned (.tuple #[ah 0,ah 0,.bool false])/\aj aB w w':=by
 have hn:=qH h.ok h.len hw
 have hk4:∀ B,K.getD B 0<=4:=fun B=>by
  rcases ajz B K.length with h1|h1
  ·rw [ajg,ajh h1]
   exact h.le _ (aji h1)
  ·rw [ajg,ajK h1];exact Nat.zero_le _
 by_cases hin:1<=a/\a<=K.length*ww
 ·obtain ⟨p,rfl⟩:∃ p,a=p+1:=⟨a - 1,by omega⟩
  have hp:p<K.length*ww:=by omega
  have e:(((p+1:Nat):Nat):Int)=(p:Int)+1:=by omega
  rw [e]
  have hB:p/ww<K.length:=by rw [akH (by omega)];exact hp
  obtain ⟨k,hk,hkK⟩:∃ k,k<4/\k=K.getD (p/ww) 0 - 1:=⟨_,by have:=hk4 (p/ww);omega,rfl⟩
  have key:∃ (B0 s j:Nat) (ok:Bool),(ok=true->B0=p/ww/\s=p%ww/2^(k+1)/\j=p%ww%2^(k+1))/\(ok=true↔p%ww/2^(k+1)<ww/2^(k+1)) /\
   ∀ W,aj aB w W->Calls aA 197 #[.agg c.cells.toArray,ah (k:Int),ah ((p:Int)+1)] W fun e w'=>e = .returned (.tuple #[.agg #[ah (B0:Int),ah (s:Int),ah (j:Int)],.bool ok])/\aj aB W w':=by
   by_cases hs:p%ww/2^(k+1)<ww/2^(k+1)
   ·refine ⟨p/ww,_,_,true,fun _=>⟨rfl,rfl,rfl⟩,by simpa using hs,fun W hW=>?_⟩
    obtain ⟨B0,s,j,ok,h1,h2,h3⟩:=ZJ h.ok h.len hw k p hk hp W (hT.aK hW) (hS.aK hW)
    have hok:=h2.2 hs
    obtain ⟨rfl,rfl,rfl⟩:=h1 hok
    rw [hok] at h3;exact h3
   ·refine ⟨0,0,0,false,fun e=>(nomatch e),by simpa using hs,fun W hW=>?_⟩
    have hL:p%ww<ww:=akI _ (by omega)
    have e1:p/ww*ww+p%ww=p:=by have:=ajC p ww;rw [akJ] at this;exact this
    have h9:=Jk h.ok h.len hw k (p/ww) (p%ww) hk hB hL (by omega) W (hT.aK hW) (hS.aK hW)
    rw [e1] at h9;exact h9
  obtain ⟨B0,s,j,ok,h1,h2,h3⟩:=key
  refine OL h _ (p/ww) k B0 s j true (decide (K.getD (p/ww) 0≠0)) ok (fun W hW=>Bc h.ok h.len hw p hp W (hT.aK hW)) (fun W hW=>by rw [hkK];exact OJ (h.still hW) (p/ww)) h3 ?_
  rw [Bool.eq_false_iff]
  intro hc
  simp only [akD,decide_eq_true_eq,beq_iff_eq] at hc
  obtain ⟨⟨g1,g2⟩,g3⟩:=hc
  obtain ⟨_,_,g4⟩:=h1 g1
  have hkk:K.getD (p/ww) 0=k+1:=by omega
  have:=JD (b:=K.length) (ww:=ww) (K:=K) (a:=p+1) (B:=p/ww) (k:=k) (by omega) (by omega) (by simp) hkk (by simpa using g4.symm.trans g3) (by simpa using h2.1 g1)
  rw [ho] at this;cases this
 ·have hout:(a:Int)<1\/((K.length*ww:Nat):Int)<(a:Int):=by omega
  have hb1:0<K.length:=by have:=h.lU;omega
  refine OL h (a:Int) 0 (K.getD 0 0 - 1) 0 0 0 false (decide (K.getD 0 0≠0)) false (fun W hW=>?_) (fun W hW=>OJ (h.still hW) 0) (fun W hW=>?_) rfl
  ·exact Jd h.ok h.len hw (a:Int) hout W (hT.aK hW)
  ·exact XH h.ok h.len hw _ (a:Int) hout W (hT.aK hW)
theorem La (h:iF w R X c K) (ww a B k:Nat) (hw:c.w=ww) (ho:qI K.length ww K a=some (B,k)) (hT:lu w) (hS:jk w):Calls aA 149 #[au R,ah (a:Int)] w fun e w'=>e = .returned (.tuple #[ah (B:Int),ah (k:Int),.bool true])/\aj aB w w':=by
 have hn:=qH h.ok h.len hw
 obtain ⟨h1,h2,h3,h4,h5,h6⟩:=gB ho
 have hB:B<K.length:=by
  rcases ajz B K.length with g|g
  ·exact g
  ·rw [ajg,ajK g] at h4
   simp at h4
 have hk:k<4:=by
  have:K.getD B 0<=4:=by
   rw [ajg,ajh hB]
   exact h.le _ (aji hB)
  omega
 have h9:=Zz h ww B k ((a - 1)%ww/2^(k+1)) hw hB h4 hk h6 hT hS
 have e1:B*ww+(a - 1)%ww/2^(k+1)*2^(k+1)=a - 1:=by
  have g1:=ajC (a - 1) ww
  have g2:=ajC ((a - 1)%ww) (2^(k+1))
  rw [h5,Nat.add_zero,akJ] at g2
  rw [g2,h3,akJ];exact g1
 rw [e1,show (((a - 1:Nat):Nat):Int)+1=(a:Int) by omega] at h9
 exact h9
end
end
end Go.Proofs.YtanfphjoebobaaaGreatDoor
