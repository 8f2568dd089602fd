/- Parts of the walk. No conditions. -/
import Derived.Test.YtobfpmijbfgmeabGreatDoorZzgd
import Derived.Test.YtobfpmijbfgmeabGreatDoorZzge
namespace Go.Proofs.YtobfpmijbfgmeabGreatDoor
open _root_.List renaming drop_succ_cons->abz,drop_zero->abt,getD_eq_getElem?_getD->ace,getElem?_append_right->abp,getElem?_eq_getElem->abr,getElem?_eq_some_iff->abl,replicate->abn,set_append_right->acw,take_zero->aby
open _root_.Nat renaming add_sub_cancel_left->acy
open _root_.Go.Proofs.Tryz hiding prog
open _root_.Go.Proofs.Tryz renaming prog->ay
set_option maxRecDepth 10000
set_option maxHeartbeats 2000000
section
attribute [local go_sem] Oper.semAt_some
open Go.RowKit
structure bP (w:World) (L iR iX aR tR sz:Nat) (In F:List Nat):Prop where
 aC:∃ M:List Int,M.length=4/\aB w L (([ak aR,ak tR,ak iR]++bg F)++M.map (Value.int .i64)) 166
 set:fG w iR iX sz In
 kF:F.length=4
 Py:∀ x∈F,x<=1048576
theorem Pz {P F:List Value} {M:List Int} (hP:P.length=3) (k:Nat) (hk:k<F.length) (v:Value):((P++F)++M.map (Value.int .i64)).set (3+k) v=(P++F.set k v)++M.map (Value.int .i64):=by
 rw [List.set_append_left _ _ (by simp;omega),acw _ _ (by omega),hP,acy]
theorem Na {P F:List Value} {M:List Int} (hP:P.length=3) (hF:F.length=4) (k:Nat) (x:Int):((P++F)++M.map (Value.int .i64)).set (7+k) (ah x)=(P++F)++(M.set k x).map (Value.int .i64):=by
 rw [acw _ _ (by simp;omega),List.map_set]
 congr 1
 simp [hP,hF]
section
variable {w w':World} {L iR iX aR tR sz:Nat} {In F:List Nat}
theorem bP.aH {S:Nat->Prop} (h:bP w L iR iX aR tR sz In F) (k:aj S w w') (hL:¬ S L) (hR:¬ S iR) (hX:¬ S iX):bP w' L iR iX aR tR sz In F:=by
 obtain ⟨M,hM,hb⟩:=h.aC
 exact ⟨⟨M,hM,k.aC hb hL⟩,h.set.aH k hR hX,h.kF,h.Py⟩
theorem bP.still (h:bP w L iR iX aR tR sz In F) (k:aj aA w w'):bP w' L iR iX aR tR sz In F:=h.aH k (fun f=>f) (fun f=>f) (fun f=>f)
theorem bP.uG (h:bP w L iR iX aR tR sz In F):w.cell? ⟨L,0,none⟩=some (ak aR)/\w.cell? ⟨L,1,none⟩=some (ak tR)/\w.cell? ⟨L,2,none⟩=some (ak iR):=by
 obtain ⟨M,hM,hb⟩:=h.aC
 exact ⟨hb.cell 0 rfl,hb.cell 1 rfl,hb.cell 2 rfl⟩
theorem bP.first (h:bP w L iR iX aR tR sz In F) {k:Nat} (hk:k<4):w.cell? ⟨L,3+k,none⟩=some (ah (F.getD k 0:Nat))/\F.getD k 0<=1048576:=by
 obtain ⟨M,hM,hb⟩:=h.aC
 have hl:=h.kF
 refine ⟨hb.cell (3+k) ?_,?_⟩
 ·rw [List.getElem?_append_left (by simp [bg];omega),abp (by simp)]
  simp only [List.length_cons,List.length_nil,Nat.zero_add]
  rw [acy]
  exact kS (by omega)
 ·rw [ace,abr (by omega)]
  exact h.Py _ (List.getElem_mem _)
theorem bP.many (h:bP w L iR iX aR tR sz In F) {k:Nat} (hk:k<4):∃ m:Int,w.cell? ⟨L,7+k,none⟩=some (ah m):=by
 obtain ⟨M,hM,hb⟩:=h.aC
 have hl:=h.kF
 refine ⟨M.getD k 0,hb.cell (7+k) ?_⟩
 rw [abp (by simp [bg];omega)]
 have e:7+k - (([ak aR,ak tR,ak iR]:List Value)++bg F).length=k:=by simp [bg,hl]
 rw [e,List.getElem?_map,abr (by omega),ace,abr (by omega)];rfl
theorem bP.free (h:bP w L iR iX aR tR sz In F) (j:Nat):w.frozen? ⟨L,j,none⟩=false:=by
 obtain ⟨M,hM,hb⟩:=h.aC
 exact hb.free j
theorem bP.lt (h:bP w L iR iX aR tR sz In F):L<w.heap.size:=by
 obtain ⟨M,hM,hb⟩:=h.aC
 exact hb.lt
theorem bP.ne (h:bP w L iR iX aR tR sz In F):L≠iR/\L≠iX:=by
 obtain ⟨M,hM,hb⟩:=h.aC
 obtain ⟨aJ,h1⟩:=h.set.aC
 obtain ⟨cur,h2,_⟩:=h.set.kL
 refine ⟨fun e=>?_,fun e=>?_⟩
 ·rw [e] at hb;exact absurd (hb.gK h1).2 (by decide)
 ·rw [e] at hb;exact absurd (hb.gK h2).2 (by decide)
theorem bP.WO (h:bP w L iR iX aR tR sz In F) {k x:Nat} (hk:k<4) (hx:x<=1048576):bP (w.setCell ⟨L,3+k,none⟩ (ah (x:Int))) L iR iX aR tR sz In (F.set k x):=by
 obtain ⟨M,hM,hb⟩:=h.aC
 have hl:=h.kF
 have hkp:aj (only L) w (w.setCell ⟨L,3+k,none⟩ (ah (x:Int))):=(aj.refl _ _).put _ _
 have hn:=h.ne
 refine ⟨⟨M,hM,?_⟩,h.set.aH hkp (fun e=>hn.1 e.symm) (fun e=>hn.2 e.symm),by simpa using hl,fun y hy=>?_⟩
 ·have h9:=hb.set (3+k) (ah (x:Int))
  rw [Pz rfl k (by simp [bg];omega)] at h9
  rw [xq]
  exact h9
 ·rcases List.mem_or_eq_of_mem_set hy with h1|rfl
  ·exact h.Py y h1
  ·exact hx
theorem bP.WQ (h:bP w L iR iX aR tR sz In F) (k:Nat) (x:Int):bP (w.setCell ⟨L,7+k,none⟩ (ah x)) L iR iX aR tR sz In F:=by
 obtain ⟨M,hM,hb⟩:=h.aC
 have hl:=h.kF
 have hkp:aj (only L) w (w.setCell ⟨L,7+k,none⟩ (ah x)):=(aj.refl _ _).put _ _
 have hn:=h.ne
 refine ⟨⟨M.set k x,by simpa using hM,?_⟩,h.set.aH hkp (fun e=>hn.1 e.symm) (fun e=>hn.2 e.symm),hl,h.Py⟩
 have h9:=hb.set (7+k) (ah x)
 rw [Na rfl (by simp [bg,hl]) k x] at h9
 exact h9
theorem bP.Gy (h:bP w L iR iX aR tR sz In F) {In':List Nat} {S:Nat->Prop} (hk:aj S w w') (hS:¬ S L) (hs:fG w' iR iX sz In'):bP w' L iR iX aR tR sz In' F:=by
 obtain ⟨M,hM,hb⟩:=h.aC
 exact ⟨⟨M,hM,hk.aC hb hS⟩,hs,h.kF,h.Py⟩
theorem RZ (h:bP w L iR iX aR tR sz In F) (n:Int):Calls ay 112 #[ak L,ah n] w fun e w'=>e = .returned (.bool (jT sz In n))/\w=w':=by
 have y2:=h.uG.2.2
 have HH:=au (AY h.set n)
 generalize jT sz In n=hb at *
 clear h
 go_enter func112,ntmps112
 go_wp2_with (go_at_call 49;refine HH.out.mono ?_;rintro e w1 ⟨rfl,rfl⟩)
 go_ret
 exact ⟨rfl,rfl⟩
theorem Gz {aX:Nat} {A:List Nat} (h:bP w L iR iX aR tR sz In F) (hA:bV w aR aX A) (p nx:Nat) (hp:p<A.length) (hw:A.getD p 0=dM nx) (hn:nx<=1048576):Calls ay 75 #[ak L,ah ((p:Int)+1)] w fun e w'=>e = .returned (ah (nx:Int))/\bV w' aR aX A/\aj (only aR) w w':=by
 have y0:=h.uG.1
 have HL:=au (AZ hA p hp)
 rw [hw] at HL
 have HN:=au (fun W=>JD nx hn W)
 generalize dM nx=lw at *
 clear h hA hw hp
 go_enter func75,ntmps75
 go_wp2_with (first
  | (go_at_call 55;refine HL.out.mono ?_;rintro e w1 ⟨rfl,hA1,hk1⟩;have HA1:=au hA1;have aZ:=au hk1;clear hA1 hk1)
  | (go_at_call 109;refine (HN.out _).mono ?_;rintro e w2 ⟨rfl,rfl⟩))
 go_ret
 exact ⟨rfl,HA1.out,aZ.out⟩
end
def put4 (L iX aR aX:Nat):Nat->Prop:=fun i=>i=L\/i=iX\/i=aR\/i=aX
section
variable {w w':World} {L iR iX aR aX tR sz:Nat} {In F A:List Nat}
theorem PD (h:bP w L iR iX aR tR sz In F) (hA:bV w aR aX A) (hne:iX≠aX) (p k b1 b2:Nat) (hp:p<A.length) (hps:p+1<sz) (hin:jT sz In ((p:Int)+1)=false) (hk:k<4) (hb1:aB w b1 [ak L] 105) (hb2:aB w b2 [ah ((p:Int)+1)] 3) :
 Calls ay 221 #[ah (k:Int),ak b1,ak b2] w fun e w'=>e = .returned (ah 0)/\bP w' L iR iX aR tR sz (lG sz In ((p:Int)+1) true) (F.set k (p+1))/\bV w' aR aX (A.set p (dM (F.getD k 0)))/\aj (put4 L iX aR aX) w w':=by
 obtain ⟨pp,hpp⟩:∃ pp:Int,pp=(p:Int)+1:=⟨_,rfl⟩
 rw [<- hpp] at hb2 hin ⊢
 have hps2:fA sz In pp true=true:=by
  unfold fA
  rw [hin,cZ (by omega)];rfl
 obtain ⟨q0,q1,q2⟩:=h.uG
 have wO:=au (uD (h.set.still (k:=(aj.refl aA w).drew)) pp true)
 rw [hps2] at wO
 obtain ⟨qf,hfk⟩:=h.first hk
 have hpl:p<1048576:=Nat.lt_of_lt_of_le hp hA.len
 have hLn:=h.ne
 obtain ⟨M0,hM0,hbL⟩:=h.aC
 obtain ⟨cap0,hbi⟩:=h.set.aC
 obtain ⟨cur0,hbx,_⟩:=h.set.kL
 obtain ⟨ld,st,hbr⟩:=hA.aC
 have xw:=hA.kL
 have n1:b1≠iX:=fun e=>by rw [e] at hb1;exact absurd (hb1.gK hbx).2 (by decide)
 have n2:b2≠iX:=fun e=>by rw [e] at hb2;exact absurd (hb2.gK hbx).2 (by decide)
 have n3:b1≠L:=fun e=>by rw [e] at hb1;exact absurd (hb1.gK hbL).2 (by decide)
 have n4:b2≠L:=fun e=>by rw [e] at hb2;exact absurd (hb2.gK hbL).2 (by decide)
 have n5:aR≠iX:=fun e=>by rw [e] at hbr;exact absurd (hbr.gK hbx).2 (by decide)
 have n6:aR≠L:=fun e=>by rw [e] at hbr;exact absurd (hbr.gK hbL).2 (by decide)
 have n7:aX≠L:=fun e=>by rw [e] at xw;exact absurd (xw.gK hbL).2 (by decide)
 have n8:aR≠iR:=fun e=>by rw [e] at hbr;exact absurd (hbr.gK hbi).2 (by decide)
 have n9:aX≠iR:=fun e=>by rw [e] at xw;exact absurd (xw.gK hbi).2 (by decide)
 have y1:=hb1.cell 0 rfl
 have y2:=hb2.cell 0 rfl
 have HN:Hid (b1≠iX/\b2≠iX/\b1≠L/\b2≠L/\aR≠iX/\aR≠L/\aX≠L/\L≠iR/\L≠iX/\aR≠iR/\aX≠iR/\iX≠aX):=⟨n1,n2,n3,n4,n5,n6,n7,hLn.1,hLn.2,n8,n9,hne⟩
 have H:=au h
 have HA:=au hA
 have HB1:=au hb1
 have HB2:=au hb2
 have Zl:=au (fun W=>xu (F.getD k 0) (by omega) W)
 rw [aV hfk,cZ hfk] at Zl
 have HFK:Hid (F.getD k 0<=1048576):=hfk
 have Gp:Hid (p<1048576):=hpl
 have HP:Hid (p<A.length):=hp
 have kR:Hid (k<4):=hk
 have Gg:(k:Int)<4:=by omega
 generalize hf:F.getD k 0=fk at *
 have HF:=au hf
 have WR:Hid (dM fk<18446744073709551616):=by have:=(pO hfk).1;unfold Hid;omega
 generalize dM fk=lw at *
 have Ad:=au hpp
 clear h hA hb1 hb2 hbL hbi hbx hbr xw hps hin hk hp hpl n1 n2 n3 n4 n5 n6 n7 n8 n9 hLn hne hps2 hfk hf hpp hM0
 go_enter func221,ntmps221
 go_wp2_with fail
 refine aN 5 rfl (by kernel_rfl) (by kernel_rfl) (fun K hK=>?_)
 change wpStill _ _ (World.drew _) _ _ _
 simp only [List.take_succ_cons,aby,abz,abt] at hK ⊢
 repeat still_step
 refine wpStill_nil ?_
 change ite _ (Oper.wp _ _ _ w.drew _ _) _
 go_simp
 refine wO.out.mono ?_
 rintro e w1 ⟨rfl,hs1,hk1⟩
 refine hK _ _ ?_
 clear hK K
 have hk01:aj (only iX) w w1:=(aj.refl _ _).drew.trans hk1
 have mQ:=au (H.out.Gy hk01 (HN.out.2.2.2.2.2.2.2.2.1) hs1)
 have aZ:=au hk01
 have HA1:=au (HA.out.aH hk01 (HN.out.2.2.2.2.1) (fun e=>HN.out.2.2.2.2.2.2.2.2.2.2.2 e.symm))
 have Si:=au (hk01.aC HB1.out HN.out.1)
 have Sj:=au (hk01.aC HB2.out HN.out.2.1)
 clear hs1 hk1 hk01 y1 y2 q0 q1 q2 qf wO
 have y1:=Si.out.cell 0 rfl
 have y2:=Sj.out.cell 0 rfl
 obtain ⟨q0,q1,q2⟩:=mQ.out.uG
 have qf:=(mQ.out.first kR.out).1
 rw [HF.out] at qf
 repeat still_step
 refine wpStill_nil ?_
 go_wp2_with (go_at_call 180;refine (Zl.out _).mono ?_;rintro e w2 ⟨rfl,rfl⟩)
 have fF:=mQ.out.free (3+k)
 go_region
 obtain ⟨W2,hW2⟩:∃ W',W'=(w1.setCell ⟨L,3+k,none⟩ (ah pp)).drew:=⟨_,rfl⟩
 rw [<- hW2]
 have hk12:aj (only L) w1 W2:=by rw [hW2];exact ((aj.refl _ _).put _ _).drew
 have HS2:Hid (bP W2 L iR iX aR tR sz (lG sz In pp true) (F.set k (p+1))):=by
  have h1:=mQ.out.WO kR.out (x:=p+1) (by have:=Gp.out;omega)
  rw [show (((p+1:Nat):Nat):Int)=pp by have:=Ad.out;omega] at h1
  rw [hW2]
  exact h1.still (k:=(aj.refl aA _).drew)
 have HA2:=au (HA1.out.aH hk12 HN.out.2.2.2.2.2.1 HN.out.2.2.2.2.2.2.1)
 have Sl:=au (hk12.aC Si.out HN.out.2.2.1)
 have Sm:=au (hk12.aC Sj.out HN.out.2.2.2.1)
 have bH:Hid (aj (put4 L iX aR aX) w W2):=(aZ.out.mono (fun i _ e=>Or.inr (Or.inl e))).trans (hk12.mono (fun i _ e=>Or.inl e))
 clear hW2 hk12 fF mQ HA1 Si Sj aZ y1 y2 q0 q1 q2 qf
 have y1:=Sl.out.cell 0 rfl
 have y2:=Sm.out.cell 0 rfl
 obtain ⟨q0,q1,q2⟩:=HS2.out.uG
 obtain ⟨mm,qm⟩:=HS2.out.many kR.out
 have fM:=HS2.out.free (7+k)
 go_wp2_with fail
 go_region
 obtain ⟨W3,hW3⟩:∃ W',W'=(W2.setCell ⟨L,7+k,none⟩ (ah (wrap64 (mm+1)))).drew:=⟨_,rfl⟩
 rw [<- hW3]
 have hk23:aj (only L) W2 W3:=by rw [hW3];exact ((aj.refl _ _).put _ _).drew
 have yD:Hid (bP W3 L iR iX aR tR sz (lG sz In pp true) (F.set k (p+1))):=by
  rw [hW3]
  exact (HS2.out.WQ k _).still (k:=(aj.refl aA _).drew)
 have GH:=au (HA2.out.aH hk23 HN.out.2.2.2.2.2.1 HN.out.2.2.2.2.2.2.1)
 have aal:=au (hk23.aC Sl.out HN.out.2.2.1)
 have aam:=au (hk23.aC Sm.out HN.out.2.2.2.1)
 have lT:Hid (aj (put4 L iX aR aX) w W3):=bH.out.trans (hk23.mono (fun i _ e=>Or.inl e))
 clear hW3 hk23 fM qm HS2 HA2 Sl Sm bH y1 y2 q0 q1 q2
 have y1:=aal.out.cell 0 rfl
 have y2:=aam.out.cell 0 rfl
 obtain ⟨q0,q1,q2⟩:=yD.out.uG
 have HST:=au (Eu (GH.out.still (k:=(aj.refl aA W3).drew)) p HP.out lw WR.out)
 rw [<- Ad.out] at HST
 go_wp2_with fail
 refine aN 6 rfl (by kernel_rfl) (by kernel_rfl) (fun K hK=>?_)
 change wpStill _ _ (World.drew _) _ _ _
 simp only [List.take_succ_cons,aby,abz,abt] at hK ⊢
 repeat still_step
 refine wpStill_nil ?_
 change ite _ (Oper.wp _ _ _ W3.drew _ _) _
 go_simp
 refine HST.out.mono ?_
 rintro e w4 ⟨rfl,ha4,hk4⟩
 refine hK _ _ ?_
 clear hK K y1 y2 q0 q1 q2
 have hk34:=(aj.refl _ W3).drew.trans hk4
 have La:=au (yD.out.aH hk34 (fun e=>e.elim (fun e=>HN.out.2.2.2.2.2.1 e.symm) (fun e=>HN.out.2.2.2.2.2.2.1 e.symm)) (fun e=>e.elim (fun e=>HN.out.2.2.2.2.2.2.2.2.2.1 e.symm) (fun e=>HN.out.2.2.2.2.2.2.2.2.2.2.1 e.symm)) (fun e=>e.elim (fun e=>HN.out.2.2.2.2.1 e.symm) (fun e=>HN.out.2.2.2.2.2.2.2.2.2.2.2 e)))
 have UD:=au ha4
 have GI:=au (lT.out.trans (hk34.mono (T:=put4 L iX aR aX) (fun i _ e=>Or.inr (Or.inr e))))
 clear ha4 hk4 hk34
 repeat still_step
 refine wpStill_nil ?_
 go_wp2_with fail
 go_ret
 exact ⟨rfl,La.out,UD.out,GI.out⟩
theorem Sr (h:bP w L iR iX aR tR sz In F) (hA:bV w aR aX A) (hne:iX≠aX) (p k:Nat) (B0:Int) (hp:p<A.length) (hps:p+1<sz) (hin:jT sz In ((p:Int)+1)=false) (hk:k<4)
 (hO:∀ W,aj aA w W->Calls ay 111 #[ak tR,ah ((p:Int)+1)] W fun e w'=>e = .returned (.tuple #[ah B0,ah (k:Int),.bool true])/\aj aA W w') :
 Calls ay 217 #[ak L,ah ((p:Int)+1)] w fun e w'=>e = .returned (ah 0)/\bP w' L iR iX aR tR sz (lG sz In ((p:Int)+1) true) (F.set k (p+1))/\bV w' aR aX (A.set p (dM (F.getD k 0)))/\aj (put4 L iX aR aX) w w':=by
 obtain ⟨W0,hW0⟩:∃ W',W'=(w.alloc (.cells #[ak L] 105)).alloc (.cells #[ah ((p:Int)+1)] 3):=⟨_,rfl⟩
 have hk0:aj aA w W0:=by rw [hW0];exact ((aj.refl _ _).alloc _).alloc _
 have hb1:aB W0 w.heap.size [ak L] 105:=by rw [hW0];exact (aB.aW w _ _).alloc _
 have hb2:aB W0 (w.heap.size+1) [ah ((p:Int)+1)] 3:=by
  rw [hW0]
  have h:=aB.aW (w.alloc (.cells #[ak L] 105)) [ah ((p:Int)+1)] 3
  rw [World.size_alloc] at h
  exact h
 have HSL:Hid (Calls ay 220 #[ak L,ah ((p:Int)+1),.func (.func 221) #[] #[ak w.heap.size,ak (w.heap.size+1)]] W0 fun e w'=>e = .returned (ah 0)/\bP w' L iR iX aR tR sz (lG sz In ((p:Int)+1) true) (F.set k (p+1))/\bV w' aR aX (A.set p (dM (F.getD k 0)))/\aj (put4 L iX aR aX) w w'):=by
  have HC:Hid (∀ W,aj aA W0 W->Calls ay 221 #[ah (k:Int),ak w.heap.size,ak (w.heap.size+1)] W fun e w'=>e = .returned (ah 0)/\bP w' L iR iX aR tR sz (lG sz In ((p:Int)+1) true) (F.set k (p+1))/\bV w' aR aX (A.set p (dM (F.getD k 0)))/\aj (put4 L iX aR aX) W w'):=fun W hW =>
   PD ((h.still hk0).still hW) ((hA.still hk0).still hW) hne p k _ _ hp hps hin hk (hW.aC hb1 (fun f=>f)) (hW.aC hb2 (fun f=>f))
  have HO:=au (hO W0 hk0)
  obtain ⟨q0,q1,q2⟩:=(h.still hk0).uG
  have jZ:=au hk0
  generalize lG sz In ((p:Int)+1) true=In' at *
  generalize F.set k (p+1)=F' at *
  generalize A.set p (dM (F.getD k 0))=A' at *
  generalize ((p:Int)+1)=pp at *
  clear h hA hne hp hps hin hk hO hW0 hk0 hb1 hb2
  unfold Hid
  go_enter func220,ntmps220
  go_wp2_with (first
   | (go_at_call 111;refine HO.out.mono ?_;rintro e w1 ⟨rfl,hk1⟩;have aZ:=au hk1;clear hk1)
   | (go_at_call 221;refine (HC.out _ aZ.out).mono ?_;rintro e w2 ⟨rfl,h1,h2,h3⟩;have H1:=au h1;have H2:=au h2;have H3:=au h3;clear h1 h2 h3))
  go_ret
  exact ⟨rfl,H1.out,H2.out,(jZ.out.mono (fun _ _ f=>f.elim)).trans ((aZ.out.mono (fun _ _ f=>f.elim)).trans H3.out)⟩
 have hmf:∀ (fn:Fn) (first aJ:Array Value) (w:World),(Instr.makeFunc fn first aJ).run ay w = .ok (.func fn first aJ) w:=fun _ _ _ _=>rfl
 generalize lG sz In ((p:Int)+1) true=In' at *
 generalize F.set k (p+1)=F' at *
 generalize A.set p (dM (F.getD k 0))=A' at *
 generalize ((p:Int)+1)=pp at *
 clear h hA hne hp hps hin hk hO hb1 hb2 hk0
 go_enter func217,ntmps217
 go_wp2_with fail
 rw [<- hW0]
 clear hW0
 refine HSL.out.mono ?_
 rintro e w1 ⟨rfl,h1,h2,h3⟩
 have H1:=au h1;have H2:=au h2;have H3:=au h3
 clear h1 h2 h3
 go_wp2_with fail
 go_ret
 exact ⟨rfl,H1.out,H2.out,H3.out⟩
end
section
variable {w w':World} {L iR iX aR aX tR sz:Nat} {In F A:List Nat}
theorem Nb (h:bP w L iR iX aR tR sz In F) (k:Nat) (hk:k<4) (hf:F.getD k 0=0):Calls ay 186 #[ak L,ah (k:Int)] w fun e w'=>e = .returned (.tuple #[ah 0,ah 12])/\w=w':=by
 have HI:=au (lq (k:Int) w)
 rw [cZ (by omega)] at HI
 have qf:=(h.first hk).1
 rw [hf] at qf
 have Gg:(k:Int)<4:=by omega
 clear h hk hf
 go_enter func186,ntmps186
 go_wp2_with (go_at_call 108;refine HI.out.mono ?_;rintro e w1 ⟨rfl,rfl⟩)
 go_ret2
 exact ⟨rfl,rfl⟩
def take3 (L iX aR:Nat):Nat->Prop:=fun i=>i=L\/i=iX\/i=aR
theorem Sv (h:bP w L iR iX aR tR sz In F) (hA:bV w aR aX A) (hne:iX≠aX) (p k nx:Nat) (hk:k<4) (hf:F.getD k 0=p+1) (hp:p<A.length) (hw:A.getD p 0=dM nx) (hn:nx<=1048576) :
 Calls ay 186 #[ak L,ah (k:Int)] w fun e w'=>e = .returned (.tuple #[ah ((p:Int)+1),ah 0])/\bP w' L iR iX aR tR sz (lG sz In ((p:Int)+1) false) (F.set k nx)/\bV w' aR aX A/\aj (take3 L iX aR) w w':=by
 have HI:=au (fun W=>lq (k:Int) W)
 have hI:=fun W=>lq (k:Int) W
 simp only [cZ (show (0<=(k:Int)/\(k:Int)<4) by omega)] at hI
 have HI:=au hI
 have qf:=(h.first hk).1
 rw [hf] at qf
 have qe:(((p+1:Nat):Nat):Int)=(p:Int)+1:=by omega
 rw [qe] at qf
 have Gg:(k:Int)<4:=by omega
 have qH:=au (Gz (h.still (k:=(aj.refl aA w).drew)) (hA.still (k:=(aj.refl aA w).drew)) p nx hp hw hn)
 have fF:=h.free (3+k)
 have hLn:=h.ne
 obtain ⟨M0,hM0,hbL⟩:=h.aC
 obtain ⟨cap0,hbi⟩:=h.set.aC
 obtain ⟨cur0,hbx,_⟩:=h.set.kL
 obtain ⟨ld,st,hbr⟩:=hA.aC
 have xw:=hA.kL
 have n5:aR≠iX:=fun e=>by rw [e] at hbr;exact absurd (hbr.gK hbx).2 (by decide)
 have n6:aR≠L:=fun e=>by rw [e] at hbr;exact absurd (hbr.gK hbL).2 (by decide)
 have n7:aX≠L:=fun e=>by rw [e] at xw;exact absurd (xw.gK hbL).2 (by decide)
 have n8:aR≠iR:=fun e=>by rw [e] at hbr;exact absurd (hbr.gK hbi).2 (by decide)
 have HN:Hid (aR≠iX/\aR≠L/\aX≠L/\L≠iR/\L≠iX/\aR≠iR/\iX≠aX/\aX≠aR):=⟨n5,n6,n7,hLn.1,hLn.2,n8,hne,fun e=>hA.ne e.symm⟩
 have H:=au h
 have HA:=au hA
 have kR:Hid (k<4):=hk
 have HNB:Hid (nx<=1048576):=hn
 have hz:((p:Int)+1==0)=false:=by simp;omega
 obtain ⟨pp,hpp⟩:∃ pp:Int,pp=(p:Int)+1:=⟨_,rfl⟩
 rw [<- hpp] at qf hz qH ⊢
 clear h hA hbL hbi hbx hbr xw hk hp hf hw n5 n6 n7 n8 hLn hne hpp hM0 hI hn qe
 go_enter func186,ntmps186
 go_wp2_with (go_at_call 108;refine (HI.out _).mono ?_;rintro e w1 ⟨rfl,rfl⟩)
 go_region_held3 (fun _=>True)
  (first | exact trivial | fail "oO")
  ((go_at_call 75
    refine qH.out.mono ?_
    rintro e w1 ⟨rfl,ha1,hk1⟩
    have hk01:aj (only aR) w w1:=(aj.refl _ _).drew.trans hk1
    have mQ:=au (H.out.aH hk01 (fun e=>HN.out.2.1 e.symm) (fun e=>HN.out.2.2.2.2.2.1 e.symm) (fun e=>HN.out.1 e.symm))
    have HA1:=au ha1
    have aZ:=au hk01
    have qf1:=hk01.jV qf (fun e=>HN.out.2.1 e.symm)
    have Zm:=mQ.out.free (3+k)
    have iF:Hid (w1.cell? ⟨L,3+k,none⟩=some (ah pp)/\w1.frozen? ⟨L,3+k,none⟩=false):=⟨qf1,Zm⟩
    clear ha1 hk1 hk01))
 obtain ⟨W2,hW2⟩:∃ W',W'=w1.setCell ⟨L,3+k,none⟩ (ah (nx:Int)):=⟨_,rfl⟩
 rw [<- hW2]
 have hk12:aj (only L) w1 W2:=by rw [hW2];exact (aj.refl _ _).put _ _
 have HS2:Hid (bP W2 L iR iX aR tR sz In (F.set k nx)):=by
  rw [hW2]
  exact mQ.out.WO kR.out HNB.out
 have HA2:=au (HA1.out.aH hk12 HN.out.2.1 HN.out.2.2.1)
 have bH:Hid (aj (take3 L iX aR) w W2):=(aZ.out.mono (fun i _ e=>Or.inr (Or.inr e))).trans (hk12.mono (fun i _ e=>Or.inl e))
 clear hW2 hk12 qf fF qf1 Zm iF mQ HA1 aZ qH
 obtain ⟨mm,qm⟩:=HS2.out.many kR.out
 have fM:=HS2.out.free (7+k)
 go_wp2_with fail
 go_region
 obtain ⟨W3,hW3⟩:∃ W',W'=(W2.setCell ⟨L,7+k,none⟩ (ah (wrap64 (mm - 1)))).drew:=⟨_,rfl⟩
 rw [<- hW3]
 have hk23:aj (only L) W2 W3:=by rw [hW3];exact ((aj.refl _ _).put _ _).drew
 have yD:Hid (bP W3 L iR iX aR tR sz In (F.set k nx)):=by
  rw [hW3]
  exact (HS2.out.WQ k _).still (k:=(aj.refl aA _).drew)
 have GH:=au (HA2.out.aH hk23 HN.out.2.1 HN.out.2.2.1)
 have lT:Hid (aj (take3 L iX aR) w W3):=bH.out.trans (hk23.mono (fun i _ e=>Or.inl e))
 clear hW3 hk23 fM qm HS2 HA2 bH
 obtain ⟨q0,q1,q2⟩:=yD.out.uG
 have wO:=au (uD yD.out.set pp false)
 generalize fA sz In pp false=pb at *
 go_wp2_with (go_at_call 184;refine wO.out.mono ?_;rintro e w4 ⟨rfl,hs4,hk4⟩;have La:=au hs4;have GI:=au hk4;clear hs4 hk4)
 go_ret2
 exact ⟨rfl,yD.out.Gy GI.out HN.out.2.2.2.2.1 La.out,GH.out.aH GI.out HN.out.1 (fun e=>HN.out.2.2.2.2.2.2.1 e.symm),lT.out.trans (GI.out.mono (fun i _ e=>Or.inr (Or.inl e)))⟩
theorem VF {tX b ww:Nat} {c:aS} {K:List Nat} (hA:bV w aR aX A) (Lc:dW w tR tX c K) (hb:c.b=b) (hw:c.w=ww) (hlen:A.length=b*ww) (hT:gY w):Calls ay 62 #[ak aR,ak tR] w fun e w'=>∃ L iR iX,e = .returned (.tuple #[ak L,ah 0])/\bP w' L iR iX aR tR (b*ww+1) (abn ((b*ww+1+63)/64) 0) [0,0,0,0]/\w.heap.size<=L/\w.heap.size<=iR/\w.heap.size<=iX/\aj aA w w':=by
 have hn:=mM Lc.ok hb hw
 have HC:=au (rQ Lc)
 have HW:Hid (∀ W,aj aA w W->Calls ay 60 #[.agg c.cells.toArray] W fun e w'=>e = .returned (ah ((b*ww:Nat):Int))/\aj aA W w'):=fun W hW=>tu Lc.ok hb hw W (hT.aH hW)
 have HL:Hid (∀ W,aj aA w W->Calls ay 89 #[ak aR] W fun e w'=>e = .returned (ah ((b*ww:Nat):Int))/\W=w'):=fun W hW=>by
  have h9:=Gv (hA.still hW)
  rw [hlen] at h9
  exact h9
 have HB:Hid (∀ W,Calls ay 63 #[ah (((b*ww:Nat):Int)+1)] W fun e w'=>∃ B X,e = .returned (.tuple #[ak B,ah 0])/\fG w' B X (b*ww+1) (abn ((b*ww+1+63)/64) 0)/\W.heap.size<=B/\W.heap.size<=X/\aj aA W w'):=fun W=>by
  have h9:=Gu (b*ww+1) (by omega) W
  rw [show (((b*ww+1:Nat):Nat):Int)=((b*ww:Nat):Int)+1 by omega] at h9
  exact h9
 generalize b*ww=N at *
 have hwr:IntKind.i64.wrap ((N:Int)+1)=(N:Int)+1:=IntWalk.i64_in _ (by omega)
 generalize (abn ((N+1+63)/64) 0)=In' at *
 obtain ⟨c0,c1,c2,c3,c4,c5,c6⟩:=c
 simp only [aS.cells] at *
 clear hA Lc hb hw hlen hT hn
 go_enter func62,ntmps62
 go_wp2_with (first
  | (go_at_call 65;refine HC.out.mono ?_;rintro e w1 ⟨rfl,hk1⟩;have aZ:=au hk1;clear hk1)
  | (go_at_call 60;refine (HW.out _ aZ.out).mono ?_;rintro e w2 ⟨rfl,hk2⟩;have bH:=au (aZ.out.trans hk2);clear hk2)
  | (go_at_call 89;refine (HL.out _ bH.out).mono ?_;rintro e w3 ⟨rfl,rfl⟩)
  | (go_at_call 63;refine (HB.out _).mono ?_;rintro e w4 ⟨iR,iX,rfl,hs,h1,h2,hk4⟩;have HS:=au hs;have kR:=au (bH.out.trans hk4);have wP:Hid (w.heap.size<=iR/\w.heap.size<=iX):=⟨Nat.le_trans bH.out.size h1,Nat.le_trans bH.out.size h2⟩;clear hs h1 h2 hk4))
 obtain ⟨W5,nG⟩:∃ W',W'=w4.alloc (.cells #[ak aR,ak tR,ak iR,ah 0,ah 0,ah 0,ah 0,ah 0,ah 0,ah 0,ah 0] 166):=⟨_,rfl⟩
 rw [<- nG]
 go_ret2
 have hk5:aj aA w4 W5:=by rw [nG];exact (aj.refl _ _).alloc _
 refine ⟨w4.heap.size,iR,iX,rfl,⟨⟨[0,0,0,0],rfl,?_⟩,HS.out.still hk5,rfl,by decide⟩,kR.out.size,wP.out.1,wP.out.2,kR.out.trans hk5⟩
 rw [nG]
 exact aB.aW w4 _ _
end
end
section
open Go.RowKit
theorem A8 {w:World} {base n:Nat} {e:TypeId} {v:Value} {xs:List Value} (h:w.ownsRow base e 1 v n xs) (h1:1<=n):∃ g aJ,v = .slice (some ⟨g,0,none⟩) n aJ/\base<=g:=by
 rcases h.2 with ⟨rfl,h0⟩|⟨g,aJ,cur,rfl,hb,_⟩
 ·omega
 ·exact ⟨g,aJ,rfl,hb⟩
theorem GK (ad:Addr) (n c:Nat) (xs:List Value) (w:World) (h:Cells w (some ad) n xs) (hm:n<=4000000000) (h1:∀ u∈xs,u.oneCell'=true) :
 Calls ay 90 #[.slice (some ad) n c] w fun e w'=>∃ v',e = .returned v'/\w'.ownsRow w.heap.size 118 1 v' n xs/\aj aA w w':=by
 obtain ⟨rfl,hc⟩:=h
 have hn:=fun w=>Lib.run_eql_slice_nil (P:=ay) w 154 118 (some ad) xs.length c 0 0 (by kernel_rfl)
 obtain ⟨i0,hi1,hi2,hi3,hi4⟩:=info_parts Tryz.infoU
 have hw0:∀ w:World,(w.alloc (.cells #[] 118)).ownsRow w.heap.size 118 1 (.slice (some ⟨w.heap.size,0,none⟩) 0 0) 0 []:=fun w=>World.ownsRow_made w #[] 0 (Nat.le_refl _) (by decide) rfl
 have hcell:∀ (j:Nat) (u:Value),xs[j]?=some u->(w.alloc (.cells #[] 118)).cell? (ad.add j)=some u:=fun j u hj=>by
  have hjl:=(abl.1 hj).1
  obtain ⟨b,off,e,hx⟩:=hc (by omega)
  injection e with e
  subst e
  have hcl:=hx j u hj
  have ea:(⟨b,off,none⟩:Addr).add j=⟨b,off+j,none⟩:=by simp only [Addr.add];split<;>simp_all
  rw [ea,World.cell?_alloc_lt _ _ _ (World.block_lt_of_cell? _ _ hcl)]
  exact hcl
 have HC:=au hcell
 have HU:=au h1
 clear hcell hc h1
 go_enter func90,ntmps90
 go_wp2_with (at_builtin;refine wpList_append_own _ rfl _ _ 154 rfl w.heap.size 118 i0 (.int .u64 0) 1 8 (by kernel_rfl) hi1 hi2 hi3 hi4 rfl (by decide) _ _ _ rfl (hw0 w) ad xs.length c xs rfl (by simp) HC.out HU.out (by unfold maxLen;omega) (by omega) (by simp) ?_;intro v' w1 hown hgr _)
 have hown':w1.ownsRow w.heap.size 118 1 v' xs.length xs:=by simpa using hown
 have hkeep:aj aA w w1:=((aj.refl aA w).alloc _).jJ hgr (fun k e hk=>absurd hk (by have e':w.heap.size=k:=Option.some.inj e;omega))
 clear hown hgr
 go_wp2
 go_ret
 exact ⟨_,rfl,hown',hkeep⟩
section
variable {w w':World} {B X size:Nat} {W:List Nat}
theorem fG.cells (h:fG w B X size W):Cells w (some ⟨X,0,none⟩) W.length (jy W):=by
 obtain ⟨cur,h2,h3⟩:=h.kL
 refine ⟨by simp [jy],fun _=>⟨X,0,rfl,fun j u hj=>?_⟩⟩
 rw [Nat.zero_add]
 exact h2.cell j (h3 j u hj)
theorem Ew (h:fG w B X size W) (h1:1<=size):Calls ay 64 #[ak B] w fun e w'=>∃ B' X',e = .returned (ak B')/\fG w' B' X' size W/\w.heap.size<=B'/\w.heap.size<=X'/\aj aA w w':=by
 obtain ⟨aJ,hb⟩:=h.aC
 have y0:=hb.cell 0 rfl
 have y1:=hb.cell 1 rfl
 have hlen:=h.len
 have hsz:=h.sz
 have HC:=au (GK ⟨X,0,none⟩ W.length aJ (jy W) w.drew (h.still (k:=(aj.refl aA w).drew)).cells (by omega) (fun u hu=>by obtain ⟨z,_,rfl⟩:=List.mem_map.1 hu;rfl))
 have H:=au h
 have sS:Hid (1<=W.length):=by unfold Hid;omega
 generalize Zn:W.length=wl at *
 have vG:=au Zn
 clear h hb hlen hsz h1 Zn
 go_enter func64,ntmps64
 go_wp2_with fail
 go_region_held3 (fun w'=>w'.cell? ⟨B,0,none⟩=some (.slice (some ⟨X,0,none⟩) wl aJ)/\w'.cell? ⟨B,1,none⟩=some (ah (size:Int)))
  (first | exact ⟨y0, y1⟩ | exact ⟨aZ.out.still y0, aZ.out.still y1⟩ | exact ⟨(aZ.out.alloc _).still y0, (aZ.out.alloc _).still y1⟩ | fail "oO")
  ((go_at_call 90
    refine HC.out.mono ?_
    rintro e w1 ⟨v,rfl,hown,hk1⟩
    obtain ⟨g,cp,rfl,hge⟩:=A8 hown sS.out
    have Zo:=au hge
    have HOWN:=au hown
    have aZ:=au ((aj.refl aA w).drew.trans hk1)
    clear hown hk1 hge))
 obtain ⟨W2,hW2⟩:∃ W',W'=w1.alloc (.cells #[.slice (some ⟨g,0,none⟩) wl cp,ah (size:Int)] 156):=⟨_,rfl⟩
 rw [<- hW2]
 go_wp2_with fail
 go_ret
 have hk2:aj aA w1 W2:=by rw [hW2];exact (aj.refl _ _).alloc _
 refine ⟨w1.heap.size,g,rfl,⟨⟨cp,?_⟩,?_,H.out.len,H.out.lt,H.out.sz⟩,aZ.out.size,Zo.out,aZ.out.trans hk2⟩
 ·rw [hW2,vG.out];exact aB.aW w1 _ _
 ·rcases HOWN.out.2 with ⟨h,_⟩|⟨g',cap',cur,hv,hb,hg,hn,hm,hs,hc⟩
  ·cases h
  ·cases hv
   refine ⟨cur.toList,hk2.aC (by unfold aB;simpa using hg) (fun f=>f),fun i v hi=>?_⟩
   rw [<- hc] at hi
   have hl:=(abl.1 hi).1
   rw [List.getElem?_take_of_lt (by simp at hl;omega)] at hi
   exact hi
end
def yQ (x:Nat):Option (Nat × Nat):=if iY (x/256%256) (x%256)/\iM (x/256%256) (x%256)=x then some (x/256%256,x%256) else none
theorem DT {c f:Nat} (h:iY c f):yQ (iM c f)=some (c,f):=by
 obtain ⟨_,_,_,_,h2,h3⟩:=mP h
 unfold yQ
 rw [h2,h3,aV ⟨h,rfl⟩]
theorem GL {x c f:Nat} (h:yQ x=some (c,f)):iY c f/\x=iM c f:=by
 unfold yQ at h
 split at h
 ·rename_i h1
  simp only [Option.some.injEq,Prod.mk.injEq] at h
  obtain ⟨rfl,rfl⟩:=h
  exact ⟨h1.1,h1.2.symm⟩
 ·cases h
theorem WS {x:Nat} (h:yQ x=none) (ho:iY (x/256%256) (x%256)):iM (x/256%256) (x%256)≠x:=fun e=>by
 unfold yQ at h
 rw [aV ⟨ho,e⟩] at h
 cases h
def pX (x:Nat):Nat:=if x%72057594037927936<=1048576/\dM (x%72057594037927936)=x then 2 else 0
theorem int_ne {a b:Nat} (h:a≠b):((a:Int)==(b:Int))=false:=by
 simp;omega
theorem WT {a b:Nat} (h:a=b):((a:Int)==(b:Int))=true:=by
 simp;omega
theorem JF (x:Nat) (hx:x<216172782113783808) (h:yQ x=none) (w:World) (hS:eX w):Calls ay 143 #[.int .u64 (x:Int)] w fun e w'=>e = .returned (ah (pX x:Int))/\w=w':=by
 have HP:=au (vY x (by omega) w)
 have HO:=au (uz (x/256%256) (x%256) (by omega) (by omega) w hS)
 have HA:=au (sJ x (by omega) w)
 have HL:=au (xu (x%72057594037927936) (by omega) w)
 have hno:=WS h
 have lQ:Hid (pX x=if x%72057594037927936<=1048576/\dM (x%72057594037927936)=x then 2 else 0):=rfl
 have hkk:x/72057594037927936=1\/x/72057594037927936=2\/x/72057594037927936=0:=by omega
 have xA:x/72057594037927936≠2->∀ a,dM a≠x\/72057594037927936<=a:=fun hk a=>by
  rcases Nat.lt_or_ge a 72057594037927936 with h1|h1
  ·left;intro e;unfold dM at e;omega
  ·right;exact h1
 have hz:x/72057594037927936=0->pX x=0:=fun hk=>by
  rw [lQ.out,aO]
  rintro ⟨_,h2⟩
  unfold dM at h2;omega
 have h1':x/72057594037927936=1->pX x=0:=fun hk=>by
  rw [lQ.out,aO]
  rintro ⟨_,h2⟩
  unfold dM at h2;omega
 rcases hkk with hk|hk|hk
 ·have hke:=rY x 1 hk
  rw [h1' hk]
  have pR:Hid (x%72057594037927936<=1048576->((dM (x%72057594037927936):Int)==(x:Int))=false):=fun _=>int_ne (fun e=>by unfold dM at e;omega)
  by_cases ho:iY (x/256%256) (x%256)
  ·have hne:=int_ne (hno ho)
   rw [aV ho,cZ ho] at HO
   by_cases hl:x%72057594037927936<=1048576
   ·have hln:=pR.out hl
    rw [aV hl,cZ hl] at HL
    generalize x/256%256=c at *
    generalize x%256=f at *
    generalize x%72057594037927936=a at *
    generalize iM c f=ow at *
    generalize dM a=lw at *
    clear h hno ho hl hz h1' xA hk lQ pR hS
    go_enter func143,ntmps143
    go_wp2_with (first|(go_at_call 147;refine HP.out.mono ?_;rintro e w1 ⟨rfl,rfl⟩)|(go_at_call 179;refine HO.out.mono ?_;rintro e w1 ⟨rfl,rfl⟩)|(go_at_call 144;refine HA.out.mono ?_;rintro e w1 ⟨rfl,rfl⟩)|(go_at_call 180;refine HL.out.mono ?_;rintro e w1 ⟨rfl,rfl⟩))
    go_ret
    exact ⟨rfl,rfl⟩
   ·rw [aO hl,dD hl] at HL
    generalize x/256%256=c at *
    generalize x%256=f at *
    generalize x%72057594037927936=a at *
    generalize iM c f=ow at *
    clear h hno ho hl hz h1' xA hk lQ pR hS
    go_enter func143,ntmps143
    go_wp2_with (first|(go_at_call 147;refine HP.out.mono ?_;rintro e w1 ⟨rfl,rfl⟩)|(go_at_call 179;refine HO.out.mono ?_;rintro e w1 ⟨rfl,rfl⟩)|(go_at_call 144;refine HA.out.mono ?_;rintro e w1 ⟨rfl,rfl⟩)|(go_at_call 180;refine HL.out.mono ?_;rintro e w1 ⟨rfl,rfl⟩))
    go_ret
    exact ⟨rfl,rfl⟩
  ·rw [aO ho,dD ho] at HO
   by_cases hl:x%72057594037927936<=1048576
   ·have hln:=pR.out hl
    rw [aV hl,cZ hl] at HL
    generalize x/256%256=c at *
    generalize x%256=f at *
    generalize x%72057594037927936=a at *
    generalize dM a=lw at *
    clear h hno ho hl hz h1' xA hk lQ pR hS
    go_enter func143,ntmps143
    go_wp2_with (first|(go_at_call 147;refine HP.out.mono ?_;rintro e w1 ⟨rfl,rfl⟩)|(go_at_call 179;refine HO.out.mono ?_;rintro e w1 ⟨rfl,rfl⟩)|(go_at_call 144;refine HA.out.mono ?_;rintro e w1 ⟨rfl,rfl⟩)|(go_at_call 180;refine HL.out.mono ?_;rintro e w1 ⟨rfl,rfl⟩))
    go_ret
    exact ⟨rfl,rfl⟩
   ·rw [aO hl,dD hl] at HL
    generalize x/256%256=c at *
    generalize x%256=f at *
    generalize x%72057594037927936=a at *
    clear h hno ho hl hz h1' xA hk lQ pR hS
    go_enter func143,ntmps143
    go_wp2_with (first|(go_at_call 147;refine HP.out.mono ?_;rintro e w1 ⟨rfl,rfl⟩)|(go_at_call 179;refine HO.out.mono ?_;rintro e w1 ⟨rfl,rfl⟩)|(go_at_call 144;refine HA.out.mono ?_;rintro e w1 ⟨rfl,rfl⟩)|(go_at_call 180;refine HL.out.mono ?_;rintro e w1 ⟨rfl,rfl⟩))
    go_ret
    exact ⟨rfl,rfl⟩
 ·have hke:=rY x 2 hk
  by_cases hl:x%72057594037927936<=1048576
  ·rw [aV hl,cZ hl] at HL
   have hq:dM (x%72057594037927936)=x:=by unfold dM;omega
   have HR:Hid (pX x=2):=by unfold Hid;rw [lQ.out,aV ⟨hl,hq⟩]
   have hqe:=WT hq
   rw [HR.out]
   generalize x%72057594037927936=a at *
   generalize dM a=lw at *
   clear h hno hl hz h1' xA hk lQ hS HO HP hq HR
   go_enter func143,ntmps143
   go_wp2_with (first|(go_at_call 144;refine HA.out.mono ?_;rintro e w1 ⟨rfl,rfl⟩)|(go_at_call 180;refine HL.out.mono ?_;rintro e w1 ⟨rfl,rfl⟩))
   go_ret
   exact ⟨rfl,rfl⟩
  ·rw [aO hl,dD hl] at HL
   have HR:Hid (pX x=0):=by unfold Hid;rw [lQ.out,aO (fun e=>hl e.1)]
   rw [HR.out]
   generalize x%72057594037927936=a at *
   clear h hno hl hz h1' xA hk lQ hS HO HP HR
   go_enter func143,ntmps143
   go_wp2_with (first|(go_at_call 144;refine HA.out.mono ?_;rintro e w1 ⟨rfl,rfl⟩)|(go_at_call 180;refine HL.out.mono ?_;rintro e w1 ⟨rfl,rfl⟩))
   go_ret
   exact ⟨rfl,rfl⟩
 ·have hke:=rY x 0 hk
  rw [hz hk]
  clear h hno hz h1' xA hk lQ hS HO HP HA HL
  go_enter func143,ntmps143
  go_wp2_with fail
  go_ret
  exact ⟨rfl,rfl⟩
theorem GN (x:Nat) (hx:x<216172782113783808) (h:yQ x=none) (w:World) (hS:eX w):Calls ay 113 #[.int .u64 (x:Int)] w fun e w'=>e = .returned (.tuple #[ah 0,ah 0,.bool false])/\w=w':=by
 have HK:=au (JF x hx h w hS)
 have hne:((pX x:Int)==1)=false:=by
  have:pX x=2\/pX x=0:=by unfold pX;split<;>simp
  rcases this with e|e<;>rw [e]<;>rfl
 have hne2:((pX x:Int) != 1)=true:=by simp only [bne,hne];rfl
 generalize pX x=kk at *
 clear h
 go_enter func113,ntmps113
 go_wp2_with (go_at_call 143;refine HK.out.mono ?_;rintro e w1 ⟨rfl,rfl⟩)
 go_ret3
 exact ⟨rfl,rfl⟩
end
end Go.Proofs.YtobfpmijbfgmeabGreatDoor
