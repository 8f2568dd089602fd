/- Parts of the walk. No conditions. -/
import Derived.Test.YtanfphjoebobaaaGreatDoorZzeg
import Derived.Test.YtanfphjoebobaaaGreatDoorZzeh
namespace Go.Proofs.YtanfphjoebobaaaGreatDoor
open _root_.Go.Proofs.Tryz hiding prog
open _root_.Go.Proofs.Tryz renaming prog->ay
set_option maxRecDepth 10000
set_option maxHeartbeats 2000000
section
attribute [local go_sem] Oper.semAt_some
open Go.RowKit
structure bH (w:World) (L iR iX aR tR sz:Nat) (In F:List Nat):Prop where
 blk:∃ M:List Int,M.length=4/\aA w L (([aj aR,aj tR,aj iR]++aG F)++M.map (Value.int .i64)) 208
 set:fH w iR iX sz In
 lu:F.length=4
 UH:∀ x∈F,x<=1048576
theorem UJ {P F:List Value} {M:List Int} (hP:P.length=3) (k:Nat) (hk:k<F.length) (v:Value):((P++F)++M.map (Value.int .i64)).set (3+k) v=(P++F.set k v)++M.map (Value.int .i64):=by
 rw [List.set_append_left _ _ (by simp;omega),List.set_append_right _ _ (by omega),hP,Nat.add_sub_cancel_left]
theorem Ri {P F:List Value} {M:List Int} (hP:P.length=3) (hF:F.length=4) (k:Nat) (x:Int):((P++F)++M.map (Value.int .i64)).set (7+k) (ah x)=(P++F)++(M.set k x).map (Value.int .i64):=by
 rw [List.set_append_right _ _ (by simp;omega),List.map_set]
 congr 1
 simp [hP,hF]
section
variable {w w':World} {L iR iX aR tR sz:Nat} {In F:List Nat}
theorem bH.keep {S:Nat->Prop} (h:bH w L iR iX aR tR sz In F) (k:Keep S w w') (hL:¬ S L) (hR:¬ S iR) (hX:¬ S iX):bH w' L iR iX aR tR sz In F:=by
 obtain ⟨M,hM,hb⟩:=h.blk
 exact ⟨⟨M,hM,k.blk hb hL⟩,h.set.keep k hR hX,h.lu,h.UH⟩
theorem bH.still (h:bH w L iR iX aR tR sz In F) (k:Keep none_ w w'):bH w' L iR iX aR tR sz In F:=h.keep k (fun f=>f) (fun f=>f) (fun f=>f)
theorem bH.ptrs (h:bH w L iR iX aR tR sz In F):w.cell? ⟨L,0,none⟩=some (aj aR)/\w.cell? ⟨L,1,none⟩=some (aj tR)/\w.cell? ⟨L,2,none⟩=some (aj iR):=by
 obtain ⟨M,hM,hb⟩:=h.blk
 exact ⟨hb.cell 0 rfl,hb.cell 1 rfl,hb.cell 2 rfl⟩
theorem bH.first (h:bH w L iR iX aR tR sz In F) {k:Nat} (hk:k<4):w.cell? ⟨L,3+k,none⟩=some (ah (F.getD k 0:Nat))/\F.getD k 0<=1048576:=by
 obtain ⟨M,hM,hb⟩:=h.blk
 have hl:=h.lu
 refine ⟨hb.cell (3+k) ?_,?_⟩
 ·rw [List.getElem?_append_left (by simp [aG];omega),List.getElem?_append_right (by simp)]
  simp only [List.length_cons,List.length_nil,Nat.zero_add]
  rw [Nat.add_sub_cancel_left]
  exact nK (by omega)
 ·rw [List.getD_eq_getElem?_getD,List.getElem?_eq_getElem (by omega)]
  exact h.UH _ (List.getElem_mem _)
theorem bH.many (h:bH w L iR iX aR tR sz In F) {k:Nat} (hk:k<4):∃ m:Int,w.cell? ⟨L,7+k,none⟩=some (ah m):=by
 obtain ⟨M,hM,hb⟩:=h.blk
 have hl:=h.lu
 refine ⟨M.getD k 0,hb.cell (7+k) ?_⟩
 rw [List.getElem?_append_right (by simp [aG];omega)]
 have e:7+k - (([aj aR,aj tR,aj iR]:List Value)++aG F).length=k:=by simp [aG,hl]
 rw [e,List.getElem?_map,List.getElem?_eq_getElem (by omega),List.getD_eq_getElem?_getD,List.getElem?_eq_getElem (by omega)];rfl
theorem bH.free (h:bH w L iR iX aR tR sz In F) (j:Nat):w.frozen? ⟨L,j,none⟩=false:=by
 obtain ⟨M,hM,hb⟩:=h.blk
 exact hb.free j
theorem bH.lt (h:bH w L iR iX aR tR sz In F):L<w.heap.size:=by
 obtain ⟨M,hM,hb⟩:=h.blk
 exact hb.lt
theorem bH.ne (h:bH w L iR iX aR tR sz In F):L≠iR/\L≠iX:=by
 obtain ⟨M,hM,hb⟩:=h.blk
 obtain ⟨cap,h1⟩:=h.set.blk
 obtain ⟨cur,h2,_⟩:=h.set.lF
 refine ⟨fun e=>?_,fun e=>?_⟩
 ·rw [e] at hb;exact absurd (hb.uniq h1).2 (by decide)
 ·rw [e] at hb;exact absurd (hb.uniq h2).2 (by decide)
theorem bH.aaU (h:bH w L iR iX aR tR sz In F) {k x:Nat} (hk:k<4) (hx:x<=1048576):bH (w.setCell ⟨L,3+k,none⟩ (ah (x:Int))) L iR iX aR tR sz In (F.set k x):=by
 obtain ⟨M,hM,hb⟩:=h.blk
 have hl:=h.lu
 have hkp:Keep (only L) w (w.setCell ⟨L,3+k,none⟩ (ah (x:Int))):=(Keep.refl _ _).put _ _
 have hn:=h.ne
 refine ⟨⟨M,hM,?_⟩,h.set.keep hkp (fun e=>hn.1 e.symm) (fun e=>hn.2 e.symm),by simpa using hl,fun y hy=>?_⟩
 ·have h9:=hb.set (3+k) (ah (x:Int))
  rw [UJ rfl k (by simp [aG];omega)] at h9
  rw [zq]
  exact h9
 ·rcases List.mem_or_eq_of_mem_set hy with h1|rfl
  ·exact h.UH y h1
  ·exact hx
theorem bH.aaV (h:bH w L iR iX aR tR sz In F) (k:Nat) (x:Int):bH (w.setCell ⟨L,7+k,none⟩ (ah x)) L iR iX aR tR sz In F:=by
 obtain ⟨M,hM,hb⟩:=h.blk
 have hl:=h.lu
 have hkp:Keep (only L) w (w.setCell ⟨L,7+k,none⟩ (ah x)):=(Keep.refl _ _).put _ _
 have hn:=h.ne
 refine ⟨⟨M.set k x,by simpa using hM,?_⟩,h.set.keep hkp (fun e=>hn.1 e.symm) (fun e=>hn.2 e.symm),hl,h.UH⟩
 have h9:=hb.set (7+k) (ah x)
 rw [Ri rfl (by simp [aG,hl]) k x] at h9
 exact h9
theorem bH.Ll (h:bH w L iR iX aR tR sz In F) {In':List Nat} {S:Nat->Prop} (hk:Keep S w w') (hS:¬ S L) (hs:fH w' iR iX sz In'):bH w' L iR iX aR tR sz In' F:=by
 obtain ⟨M,hM,hb⟩:=h.blk
 exact ⟨⟨M,hM,hk.blk hb hS⟩,hs,h.lu,h.UH⟩
theorem Xv (h:bH w L iR iX aR tR sz In F) (n:Int):Calls ay 150 #[aj L,ah n] w fun e w'=>e = .returned (.bool (jK sz In n))/\w=w':=by
 have y2:=h.ptrs.2.2
 have HH:=au (Ef h.set n)
 generalize jK sz In n=hb at *
 clear h
 go_enter func150,ntmps150
 go_wp2_with (go_at_call 54;refine HH.out.mono ?_;rintro e w1 ⟨rfl,rfl⟩)
 go_ret
 exact ⟨rfl,rfl⟩
theorem Xw {aX:Nat} {A:List Nat} (h:bH w L iR iX aR tR sz In F) (hA:dH w aR aX A) (p nx:Nat) (hp:p<A.length) (hw:A.getD p 0=dM nx) (hn:nx<=1048576):Calls ay 153 #[aj L,ah ((p:Int)+1)] w fun e w'=>e = .returned (ah (nx:Int))/\dH w' aR aX A/\Keep (only aR) w w':=by
 have y0:=h.ptrs.1
 have HL:=au (Eh hA p hp)
 rw [hw] at HL
 have HN:=au (fun W=>OD nx hn W)
 generalize dM nx=lw at *
 clear h hA hw hp
 go_enter func153,ntmps153
 go_wp2_with (first
  | (go_at_call 99;refine HL.out.mono ?_;rintro e w1 ⟨rfl,hA1,hk1⟩;have HA1:=au hA1;have aJ:=au hk1;clear hA1 hk1)
  | (go_at_call 199;refine (HN.out _).mono ?_;rintro e w2 ⟨rfl,rfl⟩))
 go_ret
 exact ⟨rfl,HA1.out,aJ.out⟩
end
def put4 (L iX aR aX:Nat):Nat->Prop:=fun i=>i=L\/i=iX\/i=aR\/i=aX
section
variable {w w':World} {L iR iX aR aX tR sz:Nat} {In F A:List Nat}
theorem UK (h:bH w L iR iX aR tR sz In F) (hA:dH w aR aX A) (hne:iX≠aX) (p k b1 b2:Nat) (hp:p<A.length) (hps:p+1<sz) (hin:jK sz In ((p:Int)+1)=false) (hk:k<4) (hb1:aA w b1 [aj L] 98) (hb2:aA w b2 [ah ((p:Int)+1)] 3) :
 Calls ay 238 #[ah (k:Int),aj b1,aj b2] w fun e w'=>e = .returned (ah 0)/\bH w' L iR iX aR tR sz (ig sz In ((p:Int)+1) true) (F.set k (p+1))/\dH w' aR aX (A.set p (dM (F.getD k 0)))/\Keep (put4 L iX aR aX) w w':=by
 obtain ⟨pp,hpp⟩:∃ pp:Int,pp=(p:Int)+1:=⟨_,rfl⟩
 rw [<- hpp] at hb2 hin ⊢
 have hps2:fK sz In pp true=true:=by
  unfold fK
  rw [hin,decide_eq_true (by omega)];rfl
 obtain ⟨q0,q1,q2⟩:=h.ptrs
 have yM:=au (wH (h.set.still (k:=(Keep.refl none_ w).drew)) pp true)
 rw [hps2] at yM
 obtain ⟨qf,hfk⟩:=h.first hk
 have hpl:p<1048576:=Nat.lt_of_lt_of_le hp hA.len
 have hLn:=h.ne
 obtain ⟨M0,hM0,hbL⟩:=h.blk
 obtain ⟨cap0,hbi⟩:=h.set.blk
 obtain ⟨cur0,hbx,_⟩:=h.set.lF
 obtain ⟨ld,st,hbr⟩:=hA.blk
 have zu:=hA.lF
 have n1:b1≠iX:=fun e=>by rw [e] at hb1;exact absurd (hb1.uniq hbx).2 (by decide)
 have n2:b2≠iX:=fun e=>by rw [e] at hb2;exact absurd (hb2.uniq hbx).2 (by decide)
 have n3:b1≠L:=fun e=>by rw [e] at hb1;exact absurd (hb1.uniq hbL).2 (by decide)
 have n4:b2≠L:=fun e=>by rw [e] at hb2;exact absurd (hb2.uniq hbL).2 (by decide)
 have n5:aR≠iX:=fun e=>by rw [e] at hbr;exact absurd (hbr.uniq hbx).2 (by decide)
 have n6:aR≠L:=fun e=>by rw [e] at hbr;exact absurd (hbr.uniq hbL).2 (by decide)
 have n7:aX≠L:=fun e=>by rw [e] at zu;exact absurd (zu.uniq hbL).2 (by decide)
 have n8:aR≠iR:=fun e=>by rw [e] at hbr;exact absurd (hbr.uniq hbi).2 (by decide)
 have n9:aX≠iR:=fun e=>by rw [e] at zu;exact absurd (zu.uniq hbi).2 (by decide)
 have y1:=hb1.cell 0 rfl
 have y2:=hb2.cell 0 rfl
 have HN:Hid (b1≠iX/\b2≠iX/\b1≠L/\b2≠L/\aR≠iX/\aR≠L/\aX≠L/\L≠iR/\L≠iX/\aR≠iR/\aX≠iR/\iX≠aX):=⟨n1,n2,n3,n4,n5,n6,n7,hLn.1,hLn.2,n8,n9,hne⟩
 have H:=au h
 have HA:=au hA
 have HB1:=au hb1
 have HB2:=au hb2
 have Fa:=au (fun W=>yZ (F.getD k 0) (by omega) W)
 rw [if_pos hfk,decide_eq_true hfk] at Fa
 have HFK:Hid (F.getD k 0<=1048576):=hfk
 have Ir:Hid (p<1048576):=hpl
 have HP:Hid (p<A.length):=hp
 have mM:Hid (k<4):=hk
 have PI:(k:Int)<4:=by omega
 generalize hf:F.getD k 0=fk at *
 have HF:=au hf
 have Fb:Hid (dM fk<18446744073709551616):=by have:=(qE hfk).1;unfold Hid;omega
 generalize dM fk=lw at *
 have Dt:=au hpp
 clear h hA hb1 hb2 hbL hbi hbx hbr zu hps hin hk hp hpl n1 n2 n3 n4 n5 n6 n7 n8 n9 hLn hne hps2 hfk hf hpp hM0
 go_enter func238,ntmps238
 go_wp2_with fail
 refine aI 5 rfl (by kernel_rfl) (by kernel_rfl) (fun K hK=>?_)
 change wpStill _ _ (World.drew _) _ _ _
 simp only [List.take_succ_cons,List.take_zero,List.drop_succ_cons,List.drop_zero] at hK ⊢
 repeat still_step
 refine wpStill_nil ?_
 change ite _ (Oper.wp _ _ _ w.drew _ _) _
 go_simp
 refine yM.out.mono ?_
 rintro e w1 ⟨rfl,hs1,hk1⟩
 refine hK _ _ ?_
 clear hK K
 have hk01:Keep (only iX) w w1:=(Keep.refl _ _).drew.trans hk1
 have jJ:=au (H.out.Ll hk01 (HN.out.2.2.2.2.2.2.2.2.1) hs1)
 have aJ:=au hk01
 have HA1:=au (HA.out.keep hk01 (HN.out.2.2.2.2.1) (fun e=>HN.out.2.2.2.2.2.2.2.2.2.2.2 e.symm))
 have Xx:=au (hk01.blk HB1.out HN.out.1)
 have Xy:=au (hk01.blk HB2.out HN.out.2.1)
 clear hs1 hk1 hk01 y1 y2 q0 q1 q2 qf yM
 have y1:=Xx.out.cell 0 rfl
 have y2:=Xy.out.cell 0 rfl
 obtain ⟨q0,q1,q2⟩:=jJ.out.ptrs
 have qf:=(jJ.out.first mM.out).1
 rw [HF.out] at qf
 repeat still_step
 refine wpStill_nil ?_
 go_wp2_with (go_at_call 239;refine (Fa.out _).mono ?_;rintro e w2 ⟨rfl,rfl⟩)
 have fF:=jJ.out.free (3+k)
 go_region
 obtain ⟨W2,hW2⟩:∃ W',W'=(w1.setCell ⟨L,3+k,none⟩ (ah pp)).drew:=⟨_,rfl⟩
 rw [<- hW2]
 have hk12:Keep (only L) w1 W2:=by rw [hW2];exact ((Keep.refl _ _).put _ _).drew
 have HS2:Hid (bH W2 L iR iX aR tR sz (ig sz In pp true) (F.set k (p+1))):=by
  have h1:=jJ.out.aaU mM.out (x:=p+1) (by have:=Ir.out;omega)
  rw [show (((p+1:Nat):Nat):Int)=pp by have:=Dt.out;omega] at h1
  rw [hW2]
  exact h1.still (k:=(Keep.refl none_ _).drew)
 have HA2:=au (HA1.out.keep hk12 HN.out.2.2.2.2.2.1 HN.out.2.2.2.2.2.2.1)
 have Xz:=au (hk12.blk Xx.out HN.out.2.2.1)
 have XA:=au (hk12.blk Xy.out HN.out.2.2.2.1)
 have bJ:Hid (Keep (put4 L iX aR aX) w W2):=(aJ.out.mono (fun i _ e=>Or.inr (Or.inl e))).trans (hk12.mono (fun i _ e=>Or.inl e))
 clear hW2 hk12 fF jJ HA1 Xx Xy aJ y1 y2 q0 q1 q2 qf
 have y1:=Xz.out.cell 0 rfl
 have y2:=XA.out.cell 0 rfl
 obtain ⟨q0,q1,q2⟩:=HS2.out.ptrs
 obtain ⟨mm,qm⟩:=HS2.out.many mM.out
 have fM:=HS2.out.free (7+k)
 go_wp2_with fail
 go_region
 obtain ⟨W3,hW3⟩:∃ W',W'=(W2.setCell ⟨L,7+k,none⟩ (ah (wrap64 (mm+1)))).drew:=⟨_,rfl⟩
 rw [<- hW3]
 have hk23:Keep (only L) W2 W3:=by rw [hW3];exact ((Keep.refl _ _).put _ _).drew
 have Fe:Hid (bH W3 L iR iX aR tR sz (ig sz In pp true) (F.set k (p+1))):=by
  rw [hW3]
  exact (HS2.out.aaV k _).still (k:=(Keep.refl none_ _).drew)
 have Lm:=au (HA2.out.keep hk23 HN.out.2.2.2.2.2.1 HN.out.2.2.2.2.2.2.1)
 have adh:=au (hk23.blk Xz.out HN.out.2.2.1)
 have adi:=au (hk23.blk XA.out HN.out.2.2.2.1)
 have gy:Hid (Keep (put4 L iX aR aX) w W3):=bJ.out.trans (hk23.mono (fun i _ e=>Or.inl e))
 clear hW3 hk23 fM qm HS2 HA2 Xz XA bJ y1 y2 q0 q1 q2
 have y1:=adh.out.cell 0 rfl
 have y2:=adi.out.cell 0 rfl
 obtain ⟨q0,q1,q2⟩:=Fe.out.ptrs
 have HST:=au (Iz (Lm.out.still (k:=(Keep.refl none_ W3).drew)) p HP.out lw Fb.out)
 rw [<- Dt.out] at HST
 go_wp2_with fail
 refine aI 6 rfl (by kernel_rfl) (by kernel_rfl) (fun K hK=>?_)
 change wpStill _ _ (World.drew _) _ _ _
 simp only [List.take_succ_cons,List.take_zero,List.drop_succ_cons,List.drop_zero] at hK ⊢
 repeat still_step
 refine wpStill_nil ?_
 change ite _ (Oper.wp _ _ _ W3.drew _ _) _
 go_simp
 refine HST.out.mono ?_
 rintro e w4 ⟨rfl,ha4,hk4⟩
 refine hK _ _ ?_
 clear hK K y1 y2 q0 q1 q2
 have hk34:=(Keep.refl _ W3).drew.trans hk4
 have Fg:=au (Fe.out.keep hk34 (fun e=>e.elim (fun e=>HN.out.2.2.2.2.2.1 e.symm) (fun e=>HN.out.2.2.2.2.2.2.1 e.symm)) (fun e=>e.elim (fun e=>HN.out.2.2.2.2.2.2.2.2.2.1 e.symm) (fun e=>HN.out.2.2.2.2.2.2.2.2.2.2.1 e.symm)) (fun e=>e.elim (fun e=>HN.out.2.2.2.2.1 e.symm) (fun e=>HN.out.2.2.2.2.2.2.2.2.2.2.2 e)))
 have YS:=au ha4
 have Lp:=au (gy.out.trans (hk34.mono (T:=put4 L iX aR aX) (fun i _ e=>Or.inr (Or.inr e))))
 clear ha4 hk4 hk34
 repeat still_step
 refine wpStill_nil ?_
 go_wp2_with fail
 go_ret
 exact ⟨rfl,Fg.out,YS.out,Lp.out⟩
theorem XB (h:bH w L iR iX aR tR sz In F) (hA:dH w aR aX A) (hne:iX≠aX) (p k:Nat) (B0:Int) (hp:p<A.length) (hps:p+1<sz) (hin:jK sz In ((p:Int)+1)=false) (hk:k<4)
 (hO:∀ W,Keep none_ w W->Calls ay 149 #[aj tR,ah ((p:Int)+1)] W fun e w'=>e = .returned (.tuple #[ah B0,ah (k:Int),.bool true])/\Keep none_ W w') :
 Calls ay 204 #[aj L,ah ((p:Int)+1)] w fun e w'=>e = .returned (ah 0)/\bH w' L iR iX aR tR sz (ig sz In ((p:Int)+1) true) (F.set k (p+1))/\dH w' aR aX (A.set p (dM (F.getD k 0)))/\Keep (put4 L iX aR aX) w w':=by
 obtain ⟨W0,hW0⟩:∃ W',W'=(w.alloc (.cells #[aj L] 98)).alloc (.cells #[ah ((p:Int)+1)] 3):=⟨_,rfl⟩
 have hk0:Keep none_ w W0:=by rw [hW0];exact ((Keep.refl _ _).alloc _).alloc _
 have hb1:aA W0 w.heap.size [aj L] 98:=by rw [hW0];exact (aA.new w _ _).alloc _
 have hb2:aA W0 (w.heap.size+1) [ah ((p:Int)+1)] 3:=by
  rw [hW0]
  have h:=aA.new (w.alloc (.cells #[aj L] 98)) [ah ((p:Int)+1)] 3
  rw [World.size_alloc] at h
  exact h
 have HSL:Hid (Calls ay 237 #[aj L,ah ((p:Int)+1),.func (.func 238) #[] #[aj w.heap.size,aj (w.heap.size+1)]] W0 fun e w'=>e = .returned (ah 0)/\bH w' L iR iX aR tR sz (ig sz In ((p:Int)+1) true) (F.set k (p+1))/\dH w' aR aX (A.set p (dM (F.getD k 0)))/\Keep (put4 L iX aR aX) w w'):=by
  have HC:Hid (∀ W,Keep none_ W0 W->Calls ay 238 #[ah (k:Int),aj w.heap.size,aj (w.heap.size+1)] W fun e w'=>e = .returned (ah 0)/\bH w' L iR iX aR tR sz (ig sz In ((p:Int)+1) true) (F.set k (p+1))/\dH w' aR aX (A.set p (dM (F.getD k 0)))/\Keep (put4 L iX aR aX) W w'):=fun W hW =>
   UK ((h.still hk0).still hW) ((hA.still hk0).still hW) hne p k _ _ hp hps hin hk (hW.blk hb1 (fun f=>f)) (hW.blk hb2 (fun f=>f))
  have HO:=au (hO W0 hk0)
  obtain ⟨q0,q1,q2⟩:=(h.still hk0).ptrs
  have dN:=au hk0
  generalize ig sz In ((p:Int)+1) true=In' at *
  generalize F.set k (p+1)=F' at *
  generalize A.set p (dM (F.getD k 0))=A' at *
  generalize ((p:Int)+1)=pp at *
  clear h hA hne hp hps hin hk hO hW0 hk0 hb1 hb2
  unfold Hid
  go_enter func237,ntmps237
  go_wp2_with (first
   | (go_at_call 149;refine HO.out.mono ?_;rintro e w1 ⟨rfl,hk1⟩;have aJ:=au hk1;clear hk1)
   | (go_at_call 238;refine (HC.out _ aJ.out).mono ?_;rintro e w2 ⟨rfl,h1,h2,h3⟩;have H1:=au h1;have H2:=au h2;have H3:=au h3;clear h1 h2 h3))
  go_ret
  exact ⟨rfl,H1.out,H2.out,(dN.out.mono (fun _ _ f=>f.elim)).trans ((aJ.out.mono (fun _ _ f=>f.elim)).trans H3.out)⟩
 have hmf:∀ (fn:Fn) (first cap:Array Value) (w:World),(Instr.makeFunc fn first cap).run ay w = .ok (.func fn first cap) w:=fun _ _ _ _=>rfl
 generalize ig sz In ((p:Int)+1) true=In' at *
 generalize F.set k (p+1)=F' at *
 generalize A.set p (dM (F.getD k 0))=A' at *
 generalize ((p:Int)+1)=pp at *
 clear h hA hne hp hps hin hk hO hb1 hb2 hk0
 go_enter func204,ntmps204
 go_wp2_with fail
 rw [<- hW0]
 clear hW0
 refine HSL.out.mono ?_
 rintro e w1 ⟨rfl,h1,h2,h3⟩
 have H1:=au h1;have H2:=au h2;have H3:=au h3
 clear h1 h2 h3
 go_wp2_with fail
 go_ret
 exact ⟨rfl,H1.out,H2.out,H3.out⟩
end
section
variable {w w':World} {L iR iX aR aX tR sz:Nat} {In F A:List Nat}
theorem Rj (h:bH w L iR iX aR tR sz In F) (k:Nat) (hk:k<4) (hf:F.getD k 0=0):Calls ay 202 #[aj L,ah (k:Int)] w fun e w'=>e = .returned (.tuple #[ah 0,ah 12])/\w=w':=by
 have HI:=au (lI (k:Int) w)
 rw [decide_eq_true (by omega)] at HI
 have qf:=(h.first hk).1
 rw [hf] at qf
 have PI:(k:Int)<4:=by omega
 clear h hk hf
 go_enter func202,ntmps202
 go_wp2_with (go_at_call 198;refine HI.out.mono ?_;rintro e w1 ⟨rfl,rfl⟩)
 go_ret2
 exact ⟨rfl,rfl⟩
def take3 (L iX aR:Nat):Nat->Prop:=fun i=>i=L\/i=iX\/i=aR
theorem XC (h:bH w L iR iX aR tR sz In F) (hA:dH w aR aX A) (hne:iX≠aX) (p k nx:Nat) (hk:k<4) (hf:F.getD k 0=p+1) (hp:p<A.length) (hw:A.getD p 0=dM nx) (hn:nx<=1048576) :
 Calls ay 202 #[aj L,ah (k:Int)] w fun e w'=>e = .returned (.tuple #[ah ((p:Int)+1),ah 0])/\bH w' L iR iX aR tR sz (ig sz In ((p:Int)+1) false) (F.set k nx)/\dH w' aR aX A/\Keep (take3 L iX aR) w w':=by
 have HI:=au (fun W=>lI (k:Int) W)
 have hI:=fun W=>lI (k:Int) W
 simp only [decide_eq_true (show (0<=(k:Int)/\(k:Int)<4) by omega)] at hI
 have HI:=au hI
 have qf:=(h.first hk).1
 rw [hf] at qf
 have qe:(((p+1:Nat):Nat):Int)=(p:Int)+1:=by omega
 rw [qe] at qf
 have PI:(k:Int)<4:=by omega
 have ny:=au (Xw (h.still (k:=(Keep.refl none_ w).drew)) (hA.still (k:=(Keep.refl none_ w).drew)) p nx hp hw hn)
 have fF:=h.free (3+k)
 have hLn:=h.ne
 obtain ⟨M0,hM0,hbL⟩:=h.blk
 obtain ⟨cap0,hbi⟩:=h.set.blk
 obtain ⟨cur0,hbx,_⟩:=h.set.lF
 obtain ⟨ld,st,hbr⟩:=hA.blk
 have zu:=hA.lF
 have n5:aR≠iX:=fun e=>by rw [e] at hbr;exact absurd (hbr.uniq hbx).2 (by decide)
 have n6:aR≠L:=fun e=>by rw [e] at hbr;exact absurd (hbr.uniq hbL).2 (by decide)
 have n7:aX≠L:=fun e=>by rw [e] at zu;exact absurd (zu.uniq hbL).2 (by decide)
 have n8:aR≠iR:=fun e=>by rw [e] at hbr;exact absurd (hbr.uniq hbi).2 (by decide)
 have HN:Hid (aR≠iX/\aR≠L/\aX≠L/\L≠iR/\L≠iX/\aR≠iR/\iX≠aX/\aX≠aR):=⟨n5,n6,n7,hLn.1,hLn.2,n8,hne,fun e=>hA.ne e.symm⟩
 have H:=au h
 have HA:=au hA
 have mM:Hid (k<4):=hk
 have sJ:Hid (nx<=1048576):=hn
 have hz:((p:Int)+1==0)=false:=by simp;omega
 obtain ⟨pp,hpp⟩:∃ pp:Int,pp=(p:Int)+1:=⟨_,rfl⟩
 rw [<- hpp] at qf hz ny ⊢
 clear h hA hbL hbi hbx hbr zu hk hp hf hw n5 n6 n7 n8 hLn hne hpp hM0 hI hn qe
 go_enter func202,ntmps202
 go_wp2_with (go_at_call 198;refine (HI.out _).mono ?_;rintro e w1 ⟨rfl,rfl⟩)
 go_region_held3 (fun _=>True)
  (first | exact trivial | fail "ji")
  ((go_at_call 153
    refine ny.out.mono ?_
    rintro e w1 ⟨rfl,ha1,hk1⟩
    have hk01:Keep (only aR) w w1:=(Keep.refl _ _).drew.trans hk1
    have jJ:=au (H.out.keep hk01 (fun e=>HN.out.2.1 e.symm) (fun e=>HN.out.2.2.2.2.2.1 e.symm) (fun e=>HN.out.1 e.symm))
    have HA1:=au ha1
    have aJ:=au hk01
    have qf1:=hk01.jM qf (fun e=>HN.out.2.1 e.symm)
    have fF1:=jJ.out.free (3+k)
    have gU:Hid (w1.cell? ⟨L,3+k,none⟩=some (ah pp)/\w1.frozen? ⟨L,3+k,none⟩=false):=⟨qf1,fF1⟩
    clear ha1 hk1 hk01))
 obtain ⟨W2,hW2⟩:∃ W',W'=w1.setCell ⟨L,3+k,none⟩ (ah (nx:Int)):=⟨_,rfl⟩
 rw [<- hW2]
 have hk12:Keep (only L) w1 W2:=by rw [hW2];exact (Keep.refl _ _).put _ _
 have HS2:Hid (bH W2 L iR iX aR tR sz In (F.set k nx)):=by
  rw [hW2]
  exact jJ.out.aaU mM.out sJ.out
 have HA2:=au (HA1.out.keep hk12 HN.out.2.1 HN.out.2.2.1)
 have bJ:Hid (Keep (take3 L iX aR) w W2):=(aJ.out.mono (fun i _ e=>Or.inr (Or.inr e))).trans (hk12.mono (fun i _ e=>Or.inl e))
 clear hW2 hk12 qf fF qf1 fF1 gU jJ HA1 aJ ny
 obtain ⟨mm,qm⟩:=HS2.out.many mM.out
 have fM:=HS2.out.free (7+k)
 go_wp2_with fail
 go_region
 obtain ⟨W3,hW3⟩:∃ W',W'=(W2.setCell ⟨L,7+k,none⟩ (ah (wrap64 (mm - 1)))).drew:=⟨_,rfl⟩
 rw [<- hW3]
 have hk23:Keep (only L) W2 W3:=by rw [hW3];exact ((Keep.refl _ _).put _ _).drew
 have Fe:Hid (bH W3 L iR iX aR tR sz In (F.set k nx)):=by
  rw [hW3]
  exact (HS2.out.aaV k _).still (k:=(Keep.refl none_ _).drew)
 have Lm:=au (HA2.out.keep hk23 HN.out.2.1 HN.out.2.2.1)
 have gy:Hid (Keep (take3 L iX aR) w W3):=bJ.out.trans (hk23.mono (fun i _ e=>Or.inl e))
 clear hW3 hk23 fM qm HS2 HA2 bJ
 obtain ⟨q0,q1,q2⟩:=Fe.out.ptrs
 have yM:=au (wH Fe.out.set pp false)
 generalize fK sz In pp false=pb at *
 go_wp2_with (go_at_call 163;refine yM.out.mono ?_;rintro e w4 ⟨rfl,hs4,hk4⟩;have Fg:=au hs4;have Lp:=au hk4;clear hs4 hk4)
 go_ret2
 exact ⟨rfl,Fe.out.Ll Lp.out HN.out.2.2.2.2.1 Fg.out,Lm.out.keep Lp.out HN.out.1 (fun e=>HN.out.2.2.2.2.2.2.1 e.symm),gy.out.trans (Lp.out.mono (fun i _ e=>Or.inr (Or.inl e)))⟩
theorem ZQ {tX b ww:Nat} {c:aK} {K:List Nat} (hA:dH w aR aX A) (P8:dU w tR tX c K) (hb:c.b=b) (hw:c.w=ww) (hlen:A.length=b*ww) (hT:Tabs w):Calls ay 110 #[aj aR,aj tR] w fun e w'=>∃ L iR iX,e = .returned (.tuple #[aj L,ah 0])/\bH w' L iR iX aR tR (b*ww+1) (List.replicate ((b*ww+1+63)/64) 0) [0,0,0,0]/\w.heap.size<=L/\w.heap.size<=iR/\w.heap.size<=iX/\Keep none_ w w':=by
 have hn:=lD P8.ok hb hw
 have HC:=au (tY P8)
 have HW:Hid (∀ W,Keep none_ w W->Calls ay 108 #[.agg c.cells.toArray] W fun e w'=>e = .returned (ah ((b*ww:Nat):Int))/\Keep none_ W w'):=fun W hW=>vJ P8.ok hb hw W (hT.keep hW)
 have HL:Hid (∀ W,Keep none_ w W->Calls ay 157 #[aj aR] W fun e w'=>e = .returned (ah ((b*ww:Nat):Int))/\W=w'):=fun W hW=>by
  have h9:=Le (hA.still hW)
  rw [hlen] at h9
  exact h9
 have HB:Hid (∀ W,Calls ay 111 #[ah (((b*ww:Nat):Int)+1)] W fun e w'=>∃ B X,e = .returned (.tuple #[aj B,ah 0])/\fH w' B X (b*ww+1) (List.replicate ((b*ww+1+63)/64) 0)/\W.heap.size<=B/\W.heap.size<=X/\Keep none_ W w'):=fun W=>by
  have h9:=Ld (b*ww+1) (by omega) W
  rw [show (((b*ww+1:Nat):Nat):Int)=((b*ww:Nat):Int)+1 by omega] at h9
  exact h9
 generalize b*ww=N at *
 have hwr:IntKind.i64.wrap ((N:Int)+1)=(N:Int)+1:=IntWalk.i64_in _ (by omega)
 generalize (List.replicate ((N+1+63)/64) 0)=In' at *
 obtain ⟨c0,c1,c2,c3,c4,c5,c6⟩:=c
 simp only [aK.cells] at *
 clear hA P8 hb hw hlen hT hn
 go_enter func110,ntmps110
 go_wp2_with (first
  | (go_at_call 53;refine HC.out.mono ?_;rintro e w1 ⟨rfl,hk1⟩;have aJ:=au hk1;clear hk1)
  | (go_at_call 108;refine (HW.out _ aJ.out).mono ?_;rintro e w2 ⟨rfl,hk2⟩;have bJ:=au (aJ.out.trans hk2);clear hk2)
  | (go_at_call 157;refine (HL.out _ bJ.out).mono ?_;rintro e w3 ⟨rfl,rfl⟩)
  | (go_at_call 111;refine (HB.out _).mono ?_;rintro e w4 ⟨iR,iX,rfl,hs,h1,h2,hk4⟩;have HS:=au hs;have mM:=au (bJ.out.trans hk4);have HLE:Hid (w.heap.size<=iR/\w.heap.size<=iX):=⟨Nat.le_trans bJ.out.size h1,Nat.le_trans bJ.out.size h2⟩;clear hs h1 h2 hk4))
 obtain ⟨W5,jX⟩:∃ W',W'=w4.alloc (.cells #[aj aR,aj tR,aj iR,ah 0,ah 0,ah 0,ah 0,ah 0,ah 0,ah 0,ah 0] 208):=⟨_,rfl⟩
 rw [<- jX]
 go_ret2
 have hk5:Keep none_ w4 W5:=by rw [jX];exact (Keep.refl _ _).alloc _
 refine ⟨w4.heap.size,iR,iX,rfl,⟨⟨[0,0,0,0],rfl,?_⟩,HS.out.still hk5,rfl,by decide⟩,mM.out.size,HLE.out.1,HLE.out.2,mM.out.trans hk5⟩
 rw [jX]
 exact aA.new w4 _ _
end
end
section
open Go.RowKit
theorem Ei {w:World} {base n:Nat} {e:TypeId} {v:Value} {xs:List Value} (h:w.ownsRow base e 1 v n xs) (h1:1<=n):∃ g cap,v = .slice (some ⟨g,0,none⟩) n cap/\base<=g:=by
 rcases h.2 with ⟨rfl,h0⟩|⟨g,cap,cur,rfl,hb,_⟩
 ·omega
 ·exact ⟨g,cap,rfl,hb⟩
theorem Lr (ad:Addr) (n c:Nat) (xs:List Value) (w:World) (h:Cells w (some ad) n xs) (hm:n<=4000000000) (h1:∀ u∈xs,u.oneCell'=true) :
 Calls ay 123 #[.slice (some ad) n c] w fun e w'=>∃ v',e = .returned v'/\w'.ownsRow w.heap.size 146 1 v' n xs/\Keep none_ w w':=by
 obtain ⟨rfl,hc⟩:=h
 have hn:=fun w=>Lib.run_eql_slice_nil (P:=ay) w 147 146 (some ad) xs.length c 0 0 (by kernel_rfl)
 obtain ⟨i0,hi1,hi2,hi3,hi4⟩:=info_parts Tryz.infoU
 have hw0:∀ w:World,(w.alloc (.cells #[] 146)).ownsRow w.heap.size 146 1 (.slice (some ⟨w.heap.size,0,none⟩) 0 0) 0 []:=fun w=>World.ownsRow_made w #[] 0 (Nat.le_refl _) (by decide) rfl
 have hcell:∀ (j:Nat) (u:Value),xs[j]?=some u->(w.alloc (.cells #[] 146)).cell? (ad.add j)=some u:=fun j u hj=>by
  have hjl:=(List.getElem?_eq_some_iff.1 hj).1
  obtain ⟨b,off,e,hx⟩:=hc (by omega)
  injection e with e
  subst e
  have hcl:=hx j u hj
  have ea:(⟨b,off,none⟩:Addr).add j=⟨b,off+j,none⟩:=by simp only [Addr.add];split<;>simp_all
  rw [ea,World.cell?_alloc_lt _ _ _ (World.block_lt_of_cell? _ _ hcl)]
  exact hcl
 have HC:=au hcell
 have HU:=au h1
 clear hcell hc h1
 go_enter func123,ntmps123
 go_wp2_with (at_builtin;refine wpList_append_own _ rfl _ _ 147 rfl w.heap.size 146 i0 (.int .u64 0) 1 8 (by kernel_rfl) hi1 hi2 hi3 hi4 rfl (by decide) _ _ _ rfl (hw0 w) ad xs.length c xs rfl (by simp) HC.out HU.out (by unfold maxLen;omega) (by omega) (by simp) ?_;intro v' w1 hown hgr _)
 have hown':w1.ownsRow w.heap.size 146 1 v' xs.length xs:=by simpa using hown
 have hkeep:Keep none_ w w1:=((Keep.refl none_ w).alloc _).grown hgr (fun k e hk=>absurd hk (by have e':w.heap.size=k:=Option.some.inj e;omega))
 clear hown hgr
 go_wp2
 go_ret
 exact ⟨_,rfl,hown',hkeep⟩
section
variable {w w':World} {B X size:Nat} {W:List Nat}
theorem fH.cells (h:fH w B X size W):Cells w (some ⟨X,0,none⟩) W.length (jf W):=by
 obtain ⟨cur,h2,h3⟩:=h.lF
 refine ⟨by simp [jf],fun _=>⟨X,0,rfl,fun j u hj=>?_⟩⟩
 rw [Nat.zero_add]
 exact h2.cell j (h3 j u hj)
theorem IB (h:fH w B X size W) (h1:1<=size):Calls ay 88 #[aj B] w fun e w'=>∃ B' X',e = .returned (aj B')/\fH w' B' X' size W/\w.heap.size<=B'/\w.heap.size<=X'/\Keep none_ w w':=by
 obtain ⟨cap,hb⟩:=h.blk
 have y0:=hb.cell 0 rfl
 have y1:=hb.cell 1 rfl
 have hlen:=h.len
 have hsz:=h.sz
 have HC:=au (Lr ⟨X,0,none⟩ W.length cap (jf W) w.drew (h.still (k:=(Keep.refl none_ w).drew)).cells (by omega) (fun u hu=>by obtain ⟨z,_,rfl⟩:=List.mem_map.1 hu;rfl))
 have H:=au h
 have yN:Hid (1<=W.length):=by unfold Hid;omega
 generalize hWL:W.length=wl at *
 have xE:=au hWL
 clear h hb hlen hsz h1 hWL
 go_enter func88,ntmps88
 go_wp2_with fail
 go_region_held3 (fun w'=>w'.cell? ⟨B,0,none⟩=some (.slice (some ⟨X,0,none⟩) wl cap)/\w'.cell? ⟨B,1,none⟩=some (ah (size:Int)))
  (first | exact ⟨y0, y1⟩ | exact ⟨aJ.out.still y0, aJ.out.still y1⟩ | exact ⟨(aJ.out.alloc _).still y0, (aJ.out.alloc _).still y1⟩ | fail "ji")
  ((go_at_call 123
    refine HC.out.mono ?_
    rintro e w1 ⟨v,rfl,hown,hk1⟩
    obtain ⟨g,cp,rfl,hge⟩:=Ei hown yN.out
    have HGE:=au hge
    have HOWN:=au hown
    have aJ:=au ((Keep.refl none_ w).drew.trans hk1)
    clear hown hk1 hge))
 obtain ⟨W2,hW2⟩:∃ W',W'=w1.alloc (.cells #[.slice (some ⟨g,0,none⟩) wl cp,ah (size:Int)] 149):=⟨_,rfl⟩
 rw [<- hW2]
 go_wp2_with fail
 go_ret
 have hk2:Keep none_ w1 W2:=by rw [hW2];exact (Keep.refl _ _).alloc _
 refine ⟨w1.heap.size,g,rfl,⟨⟨cp,?_⟩,?_,H.out.len,H.out.lt,H.out.sz⟩,aJ.out.size,HGE.out,aJ.out.trans hk2⟩
 ·rw [hW2,xE.out];exact aA.new w1 _ _
 ·rcases HOWN.out.2 with ⟨h,_⟩|⟨g',cap',cur,hv,hb,hg,hn,hm,hs,hc⟩
  ·cases h
  ·cases hv
   refine ⟨cur.toList,hk2.blk (by unfold aA;simpa using hg) (fun f=>f),fun i v hi=>?_⟩
   rw [<- hc] at hi
   have hl:=(List.getElem?_eq_some_iff.1 hi).1
   rw [List.getElem?_take_of_lt (by simp at hl;omega)] at hi
   exact hi
end
theorem GV {size:Nat} {W:List Nat} (hl:W.length=(size+63)/64) {n:Nat} (hn:n<size) (inn:Bool) (m:Nat):jK size (ig size W (n:Int) inn) (m:Int)=if m=n then inn else jK size W (m:Int):=by
 have h0:decide (0<=(n:Int)/\(n:Int)<(size:Int))=true:=decide_eq_true (by omega)
 have hb:jK size W (n:Int)=iK W n:=by unfold jK;rw [h0,Bool.true_and,Int.toNat_natCast]
 unfold ig fK
 rw [h0,Bool.true_and,hb]
 by_cases he:iK W n=inn
 ·rw [if_neg (by rw [he];simp)]
  split
  ·rename_i e;subst e;rw [hb,he]
  ·rfl
 ·rw [if_pos (by simpa using he)]
  unfold jK
  rw [Int.toNat_natCast,Int.toNat_natCast]
  split
  ·rename_i e;subst e
   rw [h0,Bool.true_and,UD (by omega)]
   revert he
   cases iK W m<;>cases inn<;>simp
  ·rename_i e
   rw [Q7 e]
def lH (w:World) (B X size:Nat) (s:Nat->Bool):Prop:=∃ W,fH w B X size W/\∀ n:Nat,jK size W (n:Int)=s n
section
variable {w w':World} {B X size:Nat} {s:Nat->Bool}
theorem lH.keep {S:Nat->Prop} (h:lH w B X size s) (k:Keep S w w') (hB:¬ S B) (hX:¬ S X):lH w' B X size s:=by
 obtain ⟨W,h1,h2⟩:=h
 exact ⟨W,h1.keep k hB hX,h2⟩
theorem lH.has (h:lH w B X size s) (n:Nat):Calls ay 54 #[aj B,ah (n:Int)] w fun e w'=>e = .returned (.bool (s n))/\w=w':=by
 obtain ⟨W,h1,h2⟩:=h
 rw [<- h2 n]
 exact Ef h1 n
theorem lH.low (h:lH w B X size s) {n:Nat} (hn:s n=true):n<size:=by
 obtain ⟨W,h1,h2⟩:=h
 rw [<- h2 n] at hn
 unfold jK at hn
 simp only [Bool.and_eq_true,decide_eq_true_eq] at hn
 omega
theorem lH.put (h:lH w B X size s) (n:Nat) (hn:n<size) (inn:Bool):Calls ay 163 #[aj B,ah (n:Int),.bool inn] w fun e w'=>e = .returned (.bool (s n != inn))/\lH w' B X size (upd s n inn)/\Keep (only X) w w':=by
 obtain ⟨W,h1,h2⟩:=h
 have e:fK size W (n:Int) inn=(s n != inn):=by
  unfold fK
  rw [decide_eq_true (by omega),Bool.true_and,h2]
 rw [<- e]
 refine (wH h1 n inn).mono ?_
 rintro e w' ⟨rfl,h3,h4⟩
 exact ⟨rfl,⟨_,h3,fun m=>by rw [GV h1.len hn,h2];rfl⟩,h4⟩
theorem lH.aaW (h:lH w B X size s) (n:Nat) (hn:s n=false):Calls ay 163 #[aj B,ah (n:Int),.bool false] w fun e w'=>e = .returned (.bool false)/\lH w' B X size s/\Keep (only X) w w':=by
 obtain ⟨W,h1,h2⟩:=h
 have e:fK size W (n:Int) false=false:=by
  unfold fK
  rw [h2,hn];simp
 have e2:ig size W (n:Int) false=W:=by unfold ig;rw [if_neg (by rw [e];decide)]
 refine (wH h1 n false).mono ?_
 rintro e' w' ⟨rfl,h3,h4⟩
 rw [e2] at h3
 rw [e]
 exact ⟨rfl,⟨_,h3,h2⟩,h4⟩
end
section
variable {c:aK} {b ww:Nat} (hok:c.ok=true) (hb:c.b=b) (hw:c.w=ww)
include hok hb hw
theorem Rk (k:Nat) (a:Int) (ha:a<1\/((b*ww:Nat):Int)<a) (w:World) (hT:Tabs w):Calls ay 197 #[.agg c.cells.toArray,ah (k:Int),ah a] w fun e w'=>e = .returned (.tuple #[.agg #[ah 0,ah 0,ah 0],.bool false])/\Keep none_ w w':=by
 obtain ⟨W0,hW0⟩:∃ W',W'=(w.alloc (.cells c.cells.toArray 23)).alloc (.cells #[ah 0,ah 0,ah 0] 229):=⟨_,rfl⟩
 have HK:Hid (Keep none_ w W0):=by rw [hW0];exact ((Keep.refl _ _).alloc _).alloc _
 have HC:=au (Dj hok hb hw a ha W0 (hT.keep HK.out))
 have HO:Hid (aA W0 (w.heap.size+1) [ah 0,ah 0,ah 0] 229):=by
  rw [hW0]
  have h:=aA.new (w.alloc (.cells c.cells.toArray 23)) [ah 0,ah 0,ah 0] 229
  rw [World.size_alloc] at h
  exact h
 obtain ⟨c0,c1,c2,c3,c4,c5,c6⟩:=c
 simp only [aK.cells] at *
 have hOg:w.heap.size<=w.heap.size+1:=by omega
 clear hT hok hb hw ha
 go_enter func197,ntmps197
 go_wp2_with fail
 rw [<- hW0]
 clear hW0
 refine HC.out.mono ?_
 rintro e w1 ⟨rfl,hk1⟩
 have aJ:=au (HK.out.trans hk1)
 have ho1:=hk1.blk HO.out (fun f=>f)
 clear hk1 HK HC HO
 generalize w.heap.size+1=O at *
 have o0:=ho1.cell 0 rfl;have o1:=ho1.cell 1 rfl;have o2:=ho1.cell 2 rfl
 have f0:=ho1.free 0;have f1:=ho1.free 1;have f2:=ho1.free 2
 have nV:=au ho1
 clear ho1
 go_wp2_with fail
 obtain ⟨W4,iZ⟩:∃ W',W'=(((w1.setCell ⟨O,0,none⟩ (ah 0)).setCell ⟨O,1,none⟩ (ah 0)).setCell ⟨O,2,none⟩ (ah 0)):=⟨_,rfl⟩
 rw [<- iZ]
 have hF:aA W4 O [ah 0,ah 0,ah 0] 229:=by rw [iZ];exact ((nV.out.set 0 _).set 1 _).set 2 _
 have k0:=hF.cell 0 rfl;have k1:=hF.cell 1 rfl;have k2:=hF.cell 2 rfl
 have hk4:Keep none_ w W4:=by
  rw [iZ]
  exact aJ.out.trans' (((((Keep.refl (only O) w1).put 0 _).put 1 _).put 2 _)) (fun i hi e=>absurd hi (by unfold only at e;omega))
 refine bodyPost_ret (v := .tuple #[.agg #[ah 0,ah 0,ah 0],.bool false]) (by simp [results,Tryz.f197,go_sem,k0,k1,k2]) rfl ⟨rfl,hk4⟩
theorem Du (k B0 L:Nat) (hk:k<4) (hB:B0<b) (hL:L<ww) (hs:ww/2^(k+1)<=L/2^(k+1)) (w:World) (hT:Tabs w) (hS:Sizes w):Calls ay 197 #[.agg c.cells.toArray,ah (k:Int),ah (((B0*ww+L:Nat):Int)+1)] w fun e w'=>e = .returned (.tuple #[.agg #[ah 0,ah 0,ah 0],.bool false])/\Keep none_ w w':=by
 obtain ⟨W0,hW0⟩:∃ W',W'=(w.alloc (.cells c.cells.toArray 23)).alloc (.cells #[ah 0,ah 0,ah 0] 229):=⟨_,rfl⟩
 have HK:Hid (Keep none_ w W0):=by rw [hW0];exact ((Keep.refl _ _).alloc _).alloc _
 have hn:=lD hok hb hw
 have hz:=qV hk
 have q2:B0*ww+L<b*ww:=by
  have h3:(B0+1)*ww<=b*ww:=Nat.mul_le_mul_right ww (Nat.succ_le_of_lt hB)
  have h4:(B0+1)*ww=B0*ww+ww:=by rw [Nat.add_mul,Nat.one_mul]
  omega
 have q3:(B0*ww+L)/ww=B0:=by
  rw [Nat.add_comm,Nat.add_mul_div_right _ _ (by omega),Nat.div_eq_of_lt hL,Nat.zero_add]
 have HC:=au (vK hok hb hw (B0*ww+L) q2 W0 (hT.keep HK.out))
 rw [q3] at HC
 have HB:=au (show aA W0 w.heap.size c.cells 23 by rw [hW0];exact (aA.new w _ _).alloc _)
 have HO:Hid (aA W0 (w.heap.size+1) [ah 0,ah 0,ah 0] 229):=by
  rw [hW0]
  have h:=aA.new (w.alloc (.cells c.cells.toArray 23)) [ah 0,ah 0,ah 0] 229
  rw [World.size_alloc] at h
  exact h
 have hI:=fun W=>lI (k:Int) W
 have HZ:Hid (∀ W,Keep none_ w W->Calls ay 201 #[ah (k:Int)] W fun e w'=>e = .returned (ah ((2^(k+1):Nat):Int))/\W=w'):=fun W hW=>by
  have h:=vI (k:Int) W (hS.keep hW)
  rw [EP hk] at h
  simpa using h
 have HP:Hid (∀ W,Keep none_ w W->Calls ay 194 #[ah (ww:Int),ah (k:Int)] W fun e w'=>e = .returned (ah ((ww/2^(k+1):Nat):Int))/\W=w'):=fun W hW=>xA ww k ⟨hn.2.2.1,hn.2.2.2.1⟩ hk W (hS.keep hW)
 have hkd:decide (0<=(k:Int)/\(k:Int)<4)=true:=decide_eq_true (by omega)
 simp only [hkd] at hI
 have HI:=au hI
 clear hI
 obtain ⟨c0,c1,c2,c3,c4,c5,c6⟩:=c
 simp only at hb hw
 subst hb hw
 have hmul:(B0:Int)*(ww:Int)=((B0*ww:Nat):Int):=by simp
 have hM:B0*ww<=b*ww:=Nat.mul_le_mul_right _ (by omega)
 have d1':decide (((ww/2^(k+1):Nat):Int)<=((L/2^(k+1):Nat):Int))=true:=decide_eq_true (by omega)
 obtain ⟨s,hsE⟩:∃ s,s=L/2^(k+1):=⟨_,rfl⟩
 obtain ⟨j,hjE⟩:∃ j,j=L%2^(k+1):=⟨_,rfl⟩
 rw [<- hsE] at d1' hs
 generalize 2^(k+1)=z at *
 generalize ww/z=per at *
 generalize b*ww=N at *
 generalize B0*ww=M at *
 obtain ⟨hleft,hq,hr,hr2,hq2,hm1,hs1,hmw,_,hz0,hz1,hz2,hzI⟩:=KC (per:=s+1) hz hsE.symm hjE.symm hL hn.2.2.2.1 (Nat.le_trans hM hn.2.2.2.2) (Nat.lt_succ_self s)
 have HD:=au d1'
 obtain ⟨aa,Ae⟩:∃ aa:Int,aa=((M+L:Nat):Int)+1:=⟨_,rfl⟩
 rw [<- Ae] at HC hleft ⊢
 simp only [aK.cells] at *
 clear hT hS hok q2 q3 hn hkd hs hM Ae hsE hjE d1'
 go_enter func197,ntmps197
 go_wp2_with fail
 rw [<- hW0]
 clear hW0
 refine HC.out.mono ?_
 rintro e w1 ⟨rfl,hk1⟩
 have aJ:=au (HK.out.trans hk1)
 have nV:=au (hk1.blk HO.out (fun f=>f))
 have HB1:=au (hk1.blk HB.out (fun f=>f))
 have y1:=(hk1.blk HB.out (fun f=>f)).cell 1 rfl
 clear hk1 HK HC HB HO
 go_wp2_with (go_at_call 198;refine (HI.out _).mono ?_;rintro e w2 ⟨rfl,rfl⟩)
 go_region_held3 (fun w'=>Keep none_ w1 w')
  (first | exact Keep.refl _ _ | exact (Keep.refl _ _).drew | exact (Keep.refl _ _).drew.alloc _ | assumption | exact Keep.alloc (by assumption) _ | fail "ji")
  ((go_at_call 201
    refine (HZ.out _ (aJ.out.trans (by first | assumption | exact Keep.alloc (by assumption) _ | exact (Keep.refl _ _).drew | exact (Keep.refl _ _).drew.alloc _ | fail "jZ"))).mono ?_
    rintro e w2 ⟨rfl,rfl⟩))
 all_goals
  obtain ⟨W2,hW2⟩:∃ W',W'=(w1.alloc (.cells #[ah (B0:Int),ah (s:Int),ah (j:Int)] 229)).drew:=⟨_,rfl⟩
  rw [<- hW2]
  have bJ:Hid (Keep none_ w W2):=by rw [hW2];exact (aJ.out.alloc _).drew
  have hp2:aA W2 w1.heap.size [ah (B0:Int),ah (s:Int),ah (j:Int)] 229:=by rw [hW2];exact (aA.new w1 _ _).drew
  have ho2:aA W2 (w.heap.size+1) [ah 0,ah 0,ah 0] 229:=by rw [hW2];exact (nV.out.alloc _).drew
  have hb2:=show aA W2 w.heap.size _ 23 by rw [hW2];exact (HB1.out.alloc _).drew
  have hlt:w.heap.size+1<w1.heap.size:=nV.out.lt
  have hOg:w.heap.size<=w.heap.size+1:=by omega
  clear hW2 y1 HB1 nV aJ HZ hr hr2 hq hq2 hm1 hs1 hleft hmul hmw hz0 hz1 hz2 hzI
  generalize w1.heap.size=D at *
  generalize w.heap.size+1=O at *
  have y1:=hb2.cell 1 rfl
  have p1:=hp2.cell 1 rfl
  have KD:=au ho2
  clear hp2 ho2 hb2
  go_wp2_with fail
  have d1:=HD.out
  go_quiet (first|(go_at_call 194;exact Calls.quiet_of_same (eU (HP.out _ (bJ.out.drewN _)))))
  obtain ⟨W3,hW3⟩:∃ W',W'=W2.drewN nq:=⟨_,rfl⟩
  rw [<- hW3]
  have gy:Hid (Keep none_ w W3):=by rw [hW3];exact bJ.out.drewN _
  have h23:Keep none_ W2 W3:=by rw [hW3];exact (Keep.refl _ _).drewN _
  have ho3:=h23.blk KD.out (fun f=>f)
  clear hW3 h23 y1 p1 KD bJ
  have o0:=ho3.cell 0 rfl;have o1:=ho3.cell 1 rfl;have o2:=ho3.cell 2 rfl
  have f0:=ho3.free 0;have f1:=ho3.free 1;have f2:=ho3.free 2
  have um:=au ho3
  clear ho3
  have d2:per<=s:=Int.ofNat_le.1 (of_decide_eq_true HD.out)
  go_wp2_with fail
  obtain ⟨W4,iZ⟩:∃ W',W'=(((W3.setCell ⟨O,0,none⟩ (ah 0)).setCell ⟨O,1,none⟩ (ah 0)).setCell ⟨O,2,none⟩ (ah 0)):=⟨_,rfl⟩
  rw [<- iZ]
  have hF:aA W4 O [ah 0,ah 0,ah 0] 229:=by rw [iZ];exact ((um.out.set 0 _).set 1 _).set 2 _
  have k0:=hF.cell 0 rfl;have k1:=hF.cell 1 rfl;have k2:=hF.cell 2 rfl
  have hk4:Keep none_ w W4:=by
   rw [iZ]
   exact gy.out.trans' (((((Keep.refl (only O) W3).put 0 _).put 1 _).put 2 _)) (fun i hi e=>absurd hi (by unfold only at e;omega))
  refine bodyPost_ret (v := .tuple #[.agg #[ah 0,ah 0,ah 0],.bool false]) (by simp [results,Tryz.f197,go_sem,k0,k1,k2]) rfl ⟨rfl,hk4⟩
theorem UL (k p:Nat) (hk:k<4) (hp:p<b*ww) (w:World) (hT:Tabs w) (hS:Sizes w):∃ (B0 s j:Nat) (ok:Bool),(ok=true->B0=p/ww/\s=p%ww/2^(k+1)/\j=p%ww%2^(k+1))/\(ok=true↔p%ww/2^(k+1)<ww/2^(k+1)) /\
 Calls ay 197 #[.agg c.cells.toArray,ah (k:Int),ah ((p:Int)+1)] w fun e w'=>e = .returned (.tuple #[.agg #[ah (B0:Int),ah (s:Int),ah (j:Int)],.bool ok])/\Keep none_ w w':=by
 have hn:=lD hok hb hw
 have hB:p/ww<b:=by rw [Nat.div_lt_iff_lt_mul (by omega)];exact hp
 have hL:p%ww<ww:=Nat.mod_lt _ (by omega)
 have e1:p/ww*ww+p%ww=p:=by have:=Nat.div_add_mod p ww;rw [Nat.mul_comm] at this;exact this
 by_cases hs:p%ww/2^(k+1)<ww/2^(k+1)
 ·have h:=Ig hok hb hw k (p/ww) (p%ww/2^(k+1)) (p%ww%2^(k+1)) hk hB hs (Nat.mod_lt _ (Nat.two_pow_pos _)) w hT hS
  rw [show p%ww/2^(k+1)*2^(k+1)+p%ww%2^(k+1)=p%ww by rw [Nat.mul_comm];exact Nat.div_add_mod _ _,e1] at h
  exact ⟨_,_,_,true,fun _=>⟨rfl,rfl,rfl⟩,by simpa using hs,h⟩
 ·have h:=Du hok hb hw k (p/ww) (p%ww) hk hB hL (by omega) w hT hS
  rw [e1] at h
  exact ⟨0,0,0,false,fun e=>(nomatch e),by simpa using hs,h⟩
end
section
variable {w:World} {R X:Nat} {c:aK} {K:List Nat}
theorem OM (h:dU w R X c K) (B:Nat) (hB:B<K.length) (hk:K.getD B 0=0):Calls ay 102 #[aj R,ah (B:Int)] w fun e w'=>e = .returned (.tuple #[ah 0,.bool false])/\w=w':=by
 have hb:=h.blk
 obtain ⟨c0,c1,c2,c3,c4,c5,c6⟩:=c
 simp only [aK.cells,List.cons_append,List.nil_append] at hb
 have y7:=hb.cell 7 rfl
 have z:=h.cls.cell B (nK hB)
 rw [hk] at z
 have hs:=h.small
 have d1:decide ((K.length:Int)<=(B:Int))=false:=decide_eq_false (by omega)
 have hBI:(B:Int)<(K.length:Int):=by omega
 have Iw:(0:Int)<=(B:Int):=by omega
 generalize K.length=L at *
 clear h hb hk hs hB
 go_enter func102,ntmps102
 go_wp2_with fail
 go_ret2
 exact ⟨rfl,rfl⟩
theorem Rl (h:dU w R X c K) (B:Nat) (hB:K.length<=B):Calls ay 102 #[aj R,ah (B:Int)] w fun e w'=>e = .returned (.tuple #[ah 0,.bool false])/\w=w':=by
 have hb:=h.blk
 obtain ⟨c0,c1,c2,c3,c4,c5,c6⟩:=c
 simp only [aK.cells,List.cons_append,List.nil_append] at hb
 have y7:=hb.cell 7 rfl
 have hs:=h.small
 have d1:decide ((K.length:Int)<=(B:Int))=true:=decide_eq_true (by omega)
 have hBI:(K.length:Int)<=(B:Int):=by omega
 have Iw:(0:Int)<=(B:Int):=by omega
 generalize K.length=L at *
 clear h hb hs hB
 go_enter func102,ntmps102
 go_wp2_with fail
 go_ret2
 exact ⟨rfl,rfl⟩
theorem IC (h:dU w R X c K) (B:Nat):Calls ay 102 #[aj R,ah (B:Int)] w fun e w'=>e = .returned (.tuple #[ah ((K.getD B 0 - 1:Nat):Int),.bool (decide (K.getD B 0≠0))])/\w=w':=by
 rcases Nat.lt_or_ge B K.length with hB|hB
 ·by_cases h0:K.getD B 0=0
  ·have h1:=OM h B hB h0
   rw [h0];exact h1
  ·have hle:K.getD B 0<=4:=by
    rw [List.getD_eq_getElem?_getD,List.getElem?_eq_getElem hB]
    exact h.le _ (List.getElem_mem hB)
   have h1:=AO h B (K.getD B 0 - 1) hB (by omega) (by omega)
   rw [decide_eq_true h0];exact h1
 ·have h1:=Rl h B hB
  rw [List.getD_eq_getElem?_getD,List.getElem?_eq_none hB];exact h1
theorem IE (h:dU w R X c K) (a:Int) (B k B1 s j:Nat) (okb okc okf:Bool)
 (hAB:∀ W,Keep none_ w W->Calls ay 196 #[.agg c.cells.toArray,ah a] W fun e w'=>e = .returned (.tuple #[ah (B:Int),.bool okb])/\Keep none_ W w')
 (hCL:∀ W,Keep none_ w W->Calls ay 102 #[aj R,ah (B:Int)] W fun e w'=>e = .returned (.tuple #[ah (k:Int),.bool okc])/\W=w')
 (hF:∀ W,Keep none_ w W->Calls ay 197 #[.agg c.cells.toArray,ah (k:Int),ah a] W fun e w'=>e = .returned (.tuple #[.agg #[ah (B1:Int),ah (s:Int),ah (j:Int)],.bool okf])/\Keep none_ W w')
 (hno:(okf&&okc&&(j==0))=false) :
 Calls ay 149 #[aj R,ah a] w fun e w'=>e = .returned (.tuple #[ah 0,ah 0,.bool false])/\Keep none_ w w':=by
 have HC:Hid (∀ W,Keep none_ w W->Calls ay 53 #[aj R] W fun e w'=>e = .returned (.agg c.cells.toArray)/\Keep none_ W w'):=fun W hW=>tY (h.still hW)
 have HAB:=au hAB
 have l9:=au hCL
 have HF:=au hF
 obtain ⟨c0,c1,c2,c3,c4,c5,c6⟩:=c
 simp only [aK.cells] at *
 have HKK:=au (Keep.refl none_ w)
 clear h hAB hCL hF
 cases okf with
 | false =>
   clear hno
   go_enter func149,ntmps149
   go_wp2_with (first
    | (go_at_call 53;refine (HC.out _ HKK.out).mono ?_;rintro e w1 ⟨rfl,hk1⟩;have HKK:=au (HKK.out.trans hk1);clear hk1)
    | (go_at_call 196;refine (HAB.out _ HKK.out).mono ?_;rintro e w1 ⟨rfl,hk1⟩;have HKK:=au (HKK.out.trans hk1);clear hk1)
    | (go_at_call 197;refine (HF.out _ HKK.out).mono ?_;rintro e w1 ⟨rfl,hk1⟩;have HKK:=au (HKK.out.trans hk1);clear hk1)
    | (go_at_call 102;refine (l9.out _ HKK.out).mono ?_;rintro e w1 ⟨rfl,rfl⟩))
   go_ret3
   exact ⟨rfl,HKK.out.alloc _⟩
 | true =>
   cases okc with
   | false =>
     clear hno
     go_enter func149,ntmps149
     go_wp2_with (first
      | (go_at_call 53;refine (HC.out _ HKK.out).mono ?_;rintro e w1 ⟨rfl,hk1⟩;have HKK:=au (HKK.out.trans hk1);clear hk1)
      | (go_at_call 196;refine (HAB.out _ HKK.out).mono ?_;rintro e w1 ⟨rfl,hk1⟩;have HKK:=au (HKK.out.trans hk1);clear hk1)
      | (go_at_call 197;refine (HF.out _ HKK.out).mono ?_;rintro e w1 ⟨rfl,hk1⟩;have HKK:=au (HKK.out.trans hk1);clear hk1)
      | (go_at_call 102;refine (l9.out _ HKK.out).mono ?_;rintro e w1 ⟨rfl,rfl⟩))
     go_ret3
     exact ⟨rfl,HKK.out.alloc _⟩
   | true =>
     have hj:j≠0:=by intro e;subst e;simp at hno
     have d1:((j:Int)==0)=false:=by simp;omega
     have d2:((j:Int) != 0)=true:=by simp only [bne,d1];rfl
     clear hno hj
     go_enter func149,ntmps149
     go_wp2_with (first
      | (go_at_call 53;refine (HC.out _ HKK.out).mono ?_;rintro e w1 ⟨rfl,hk1⟩;have HKK:=au (HKK.out.trans hk1);clear hk1)
      | (go_at_call 196;refine (HAB.out _ HKK.out).mono ?_;rintro e w1 ⟨rfl,hk1⟩;have HKK:=au (HKK.out.trans hk1);clear hk1)
      | (go_at_call 197;refine (HF.out _ HKK.out).mono ?_;rintro e w1 ⟨rfl,hk1⟩;have HKK:=au (HKK.out.trans hk1);clear hk1)
      | (go_at_call 102;refine (l9.out _ HKK.out).mono ?_;rintro e w1 ⟨rfl,rfl⟩))
     go_ret3
     exact ⟨rfl,HKK.out.alloc _⟩
theorem IG (h:dU w R X c K) (ww a:Nat) (hw:c.w=ww) (ho:lJ K.length ww K a=none) (hT:Tabs w) (hS:Sizes w):Calls ay 149 #[aj R,ah (a:Int)] w fun e w'=>e = .returned (.tuple #[ah 0,ah 0,.bool false])/\Keep none_ w w':=by
 have hn:=lD h.ok h.len hw
 have hk4:∀ B,K.getD B 0<=4:=fun B=>by
  rcases Nat.lt_or_ge B K.length with h1|h1
  ·rw [List.getD_eq_getElem?_getD,List.getElem?_eq_getElem h1]
   exact h.le _ (List.getElem_mem h1)
  ·rw [List.getD_eq_getElem?_getD,List.getElem?_eq_none h1];exact Nat.zero_le _
 by_cases hin:1<=a/\a<=K.length*ww
 ·obtain ⟨p,rfl⟩:∃ p,a=p+1:=⟨a - 1,by omega⟩
  have hp:p<K.length*ww:=by omega
  have e:(((p+1:Nat):Nat):Int)=(p:Int)+1:=by omega
  rw [e]
  have hB:p/ww<K.length:=by rw [Nat.div_lt_iff_lt_mul (by omega)];exact hp
  obtain ⟨k,hk,hkK⟩:∃ k,k<4/\k=K.getD (p/ww) 0 - 1:=⟨_,by have:=hk4 (p/ww);omega,rfl⟩
  have key:∃ (B0 s j:Nat) (ok:Bool),(ok=true->B0=p/ww/\s=p%ww/2^(k+1)/\j=p%ww%2^(k+1))/\(ok=true↔p%ww/2^(k+1)<ww/2^(k+1)) /\
   ∀ W,Keep none_ w W->Calls ay 197 #[.agg c.cells.toArray,ah (k:Int),ah ((p:Int)+1)] W fun e w'=>e = .returned (.tuple #[.agg #[ah (B0:Int),ah (s:Int),ah (j:Int)],.bool ok])/\Keep none_ W w':=by
   by_cases hs:p%ww/2^(k+1)<ww/2^(k+1)
   ·refine ⟨p/ww,_,_,true,fun _=>⟨rfl,rfl,rfl⟩,by simpa using hs,fun W hW=>?_⟩
    obtain ⟨B0,s,j,ok,h1,h2,h3⟩:=UL h.ok h.len hw k p hk hp W (hT.keep hW) (hS.keep hW)
    have hok:=h2.2 hs
    obtain ⟨rfl,rfl,rfl⟩:=h1 hok
    rw [hok] at h3;exact h3
   ·refine ⟨0,0,0,false,fun e=>(nomatch e),by simpa using hs,fun W hW=>?_⟩
    have hL:p%ww<ww:=Nat.mod_lt _ (by omega)
    have e1:p/ww*ww+p%ww=p:=by have:=Nat.div_add_mod p ww;rw [Nat.mul_comm] at this;exact this
    have h9:=Du h.ok h.len hw k (p/ww) (p%ww) hk hB hL (by omega) W (hT.keep hW) (hS.keep hW)
    rw [e1] at h9;exact h9
  obtain ⟨B0,s,j,ok,h1,h2,h3⟩:=key
  refine IE h _ (p/ww) k B0 s j true (decide (K.getD (p/ww) 0≠0)) ok (fun W hW=>vK h.ok h.len hw p hp W (hT.keep hW)) (fun W hW=>by rw [hkK];exact IC (h.still hW) (p/ww)) h3 ?_
  rw [Bool.eq_false_iff]
  intro hc
  simp only [Bool.and_eq_true,decide_eq_true_eq,beq_iff_eq] at hc
  obtain ⟨⟨g1,g2⟩,g3⟩:=hc
  obtain ⟨_,_,g4⟩:=h1 g1
  have hkk:K.getD (p/ww) 0=k+1:=by omega
  have:=D6 (b:=K.length) (ww:=ww) (K:=K) (a:=p+1) (B:=p/ww) (k:=k) (by omega) (by omega) (by simp) hkk (by simpa using g4.symm.trans g3) (by simpa using h2.1 g1)
  rw [ho] at this;cases this
 ·have hout:(a:Int)<1\/((K.length*ww:Nat):Int)<(a:Int):=by omega
  have hb1:0<K.length:=by have:=h.small;omega
  refine IE h (a:Int) 0 (K.getD 0 0 - 1) 0 0 0 false (decide (K.getD 0 0≠0)) false (fun W hW=>?_) (fun W hW=>IC (h.still hW) 0) (fun W hW=>?_) rfl
  ·exact Dj h.ok h.len hw (a:Int) hout W (hT.keep hW)
  ·exact Rk h.ok h.len hw _ (a:Int) hout W (hT.keep hW)
theorem Fh (h:dU w R X c K) (ww a B k:Nat) (hw:c.w=ww) (ho:lJ K.length ww K a=some (B,k)) (hT:Tabs w) (hS:Sizes w):Calls ay 149 #[aj R,ah (a:Int)] w fun e w'=>e = .returned (.tuple #[ah (B:Int),ah (k:Int),.bool true])/\Keep none_ w w':=by
 have hn:=lD h.ok h.len hw
 obtain ⟨h1,h2,h3,h4,h5,h6⟩:=dV ho
 have hB:B<K.length:=by
  rcases Nat.lt_or_ge B K.length with g|g
  ·exact g
  ·rw [List.getD_eq_getElem?_getD,List.getElem?_eq_none g] at h4
   simp at h4
 have hk:k<4:=by
  have:K.getD B 0<=4:=by
   rw [List.getD_eq_getElem?_getD,List.getElem?_eq_getElem hB]
   exact h.le _ (List.getElem_mem hB)
  omega
 have h9:=UA h ww B k ((a - 1)%ww/2^(k+1)) hw hB h4 hk h6 hT hS
 have e1:B*ww+(a - 1)%ww/2^(k+1)*2^(k+1)=a - 1:=by
  have g1:=Nat.div_add_mod (a - 1) ww
  have g2:=Nat.div_add_mod ((a - 1)%ww) (2^(k+1))
  rw [h5,Nat.add_zero,Nat.mul_comm] at g2
  rw [g2,h3,Nat.mul_comm];exact g1
 rw [e1,show (((a - 1:Nat):Nat):Int)+1=(a:Int) by omega] at h9
 exact h9
end
end
end Go.Proofs.YtanfphjoebobaaaGreatDoor
