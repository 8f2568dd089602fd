/- Parts of a walk, put together and made shorter by a program of mine. No conditions. -/
import Derived.Test.YtanfphjoebobaaaGreatDoorZzch
import Derived.Test.YtanfphjoebobaaaGreatDoorZzcc
import Derived.Test.YtanfphjoebobaaaGreatDoorZzci
import Derived.Test.YtanfphjoebobaaaGreatDoorZzcj
import Derived.Test.YtanfphjoebobaaaGreatDoorZzcd
import Derived.Lib.SliceRun
import Derived.Deep.RegionHeld3
namespace Go.Proofs.YtanfphjoebobaaaGreatDoor
set_option maxRecDepth 10000
set_option maxHeartbeats 2000000
section
attribute [local go_sem] Oper.semAt_some
open Go.RowKit
structure aS (w:World) (L iR iX aR tR sz:Nat) (In F:List Nat):Prop where
 blk:∃ M:List Int,M.length=4∧Blk w L (([.pointer (some ⟨aR,0,none⟩),.pointer (some ⟨tR,0,none⟩),.pointer (some ⟨iR,0,none⟩)]++aC F)++M.map (Value.int .i64)) 208
 set:dR w iR iX sz In
 ji:F.length=4
 fle:∀ x∈F,x≤1048576
theorem Me {P F:List Value} {M:List Int} (hP:P.length=3) (k:Nat) (hk:k<F.length) (v:Value):((P++F)++M.map (Value.int .i64)).set (3+k) v=(P++F.set k v)++M.map (Value.int .i64):=by
 rw [List.set_append_left _ _ (by simp;omega),List.set_append_right _ _ (by omega),hP,Nat.add_sub_cancel_left]
theorem Jm {P F:List Value} {M:List Int} (hP:P.length=3) (hF:F.length=4) (k:Nat) (x:Int):((P++F)++M.map (Value.int .i64)).set (7+k) (.int .i64 x)=(P++F)++(M.set k x).map (Value.int .i64):=by
 rw [List.set_append_right _ _ (by simp;omega),List.map_set]
 congr 1
 simp [hP,hF]
section
variable {w w':World} {L iR iX aR tR sz:Nat} {In F:List Nat}
theorem aS.keep {S:Nat→Prop} (h:aS w L iR iX aR tR sz In F) (k:Keep S w w') (hL:¬ S L) (hR:¬ S iR) (hX:¬ S iX):aS w' L iR iX aR tR sz In F:=by
 obtain ⟨M,hM,hb⟩:=h.blk
 exact ⟨⟨M,hM,k.blk hb hL⟩,h.set.keep k hR hX,h.ji,h.fle⟩
theorem aS.still (h:aS w L iR iX aR tR sz In F) (k:Keep none_ w w'):aS w' L iR iX aR tR sz In F:=h.keep k (fun f=>f) (fun f=>f) (fun f=>f)
theorem aS.ptrs (h:aS w L iR iX aR tR sz In F):w.cell? ⟨L,0,none⟩=some (.pointer (some ⟨aR,0,none⟩))∧w.cell? ⟨L,1,none⟩=some (.pointer (some ⟨tR,0,none⟩))∧w.cell? ⟨L,2,none⟩=some (.pointer (some ⟨iR,0,none⟩)):=by
 obtain ⟨M,hM,hb⟩:=h.blk
 exact ⟨hb.cell 0 rfl,hb.cell 1 rfl,hb.cell 2 rfl⟩
theorem aS.first (h:aS w L iR iX aR tR sz In F) {k:Nat} (hk:k<4):w.cell? ⟨L,3+k,none⟩=some (.int .i64 (F.getD k 0:Nat))∧F.getD k 0≤1048576:=by
 obtain ⟨M,hM,hb⟩:=h.blk
 have hl:=h.ji
 refine ⟨hb.cell (3+k) ?_,?_⟩
 ·rw [List.getElem?_append_left (by simp [aC];omega),List.getElem?_append_right (by simp)]
  simp only [List.length_cons,List.length_nil,Nat.zero_add]
  rw [Nat.add_sub_cancel_left]
  exact kE (by omega)
 ·rw [List.getD_eq_getElem?_getD,List.getElem?_eq_getElem (by omega)]
  exact h.fle _ (List.getElem_mem _)
theorem aS.many (h:aS w L iR iX aR tR sz In F) {k:Nat} (hk:k<4):∃ m:Int,w.cell? ⟨L,7+k,none⟩=some (.int .i64 m):=by
 obtain ⟨M,hM,hb⟩:=h.blk
 have hl:=h.ji
 refine ⟨M.getD k 0,hb.cell (7+k) ?_⟩
 rw [List.getElem?_append_right (by simp [aC];omega)]
 have e:7+k - (([.pointer (some ⟨aR,0,none⟩),.pointer (some ⟨tR,0,none⟩),.pointer (some ⟨iR,0,none⟩)]:List Value)++aC F).length=k:=by simp [aC,hl]
 rw [e,List.getElem?_map,List.getElem?_eq_getElem (by omega),List.getD_eq_getElem?_getD,List.getElem?_eq_getElem (by omega)];rfl
theorem aS.free (h:aS w L iR iX aR tR sz In F) (j:Nat):w.frozen? ⟨L,j,none⟩=false:=by
 obtain ⟨M,hM,hb⟩:=h.blk
 exact hb.free j
theorem aS.lt (h:aS w L iR iX aR tR sz In F):L<w.heap.size:=by
 obtain ⟨M,hM,hb⟩:=h.blk
 exact hb.lt
theorem aS.ne (h:aS w L iR iX aR tR sz In F):L≠iR∧L≠iX:=by
 obtain ⟨M,hM,hb⟩:=h.blk
 obtain ⟨cap,h1⟩:=h.set.blk
 obtain ⟨cur,h2,_⟩:=h.set.wds
 refine ⟨fun e=>?_,fun e=>?_⟩
 ·rw [e] at hb;exact absurd (hb.uniq h1).2 (by decide)
 ·rw [e] at hb;exact absurd (hb.uniq h2).2 (by decide)
theorem aS.Tf (h:aS w L iR iX aR tR sz In F) {k x:Nat} (hk:k<4) (hx:x≤1048576):aS (w.setCell ⟨L,3+k,none⟩ (.int .i64 (x:Int))) L iR iX aR tR sz In (F.set k x):=by
 obtain ⟨M,hM,hb⟩:=h.blk
 have hl:=h.ji
 have hkp:Keep (only L) w (w.setCell ⟨L,3+k,none⟩ (.int .i64 (x:Int))):=(Keep.refl _ _).put _ _
 have hn:=h.ne
 refine ⟨⟨M,hM,?_⟩,h.set.keep hkp (fun e=>hn.1 e.symm) (fun e=>hn.2 e.symm),by simpa using hl,fun y hy=>?_⟩
 ·have h9:=hb.set (3+k) (.int .i64 (x:Int))
  rw [Me rfl k (by simp [aC];omega)] at h9
  rw [tq]
  exact h9
 ·rcases List.mem_or_eq_of_mem_set hy with h1|rfl
  ·exact h.fle y h1
  ·exact hx
theorem aS.Ti (h:aS w L iR iX aR tR sz In F) (k:Nat) (x:Int):aS (w.setCell ⟨L,7+k,none⟩ (.int .i64 x)) L iR iX aR tR sz In F:=by
 obtain ⟨M,hM,hb⟩:=h.blk
 have hl:=h.ji
 have hkp:Keep (only L) w (w.setCell ⟨L,7+k,none⟩ (.int .i64 x)):=(Keep.refl _ _).put _ _
 have hn:=h.ne
 refine ⟨⟨M.set k x,by simpa using hM,?_⟩,h.set.keep hkp (fun e=>hn.1 e.symm) (fun e=>hn.2 e.symm),hl,h.fle⟩
 have h9:=hb.set (7+k) (.int .i64 x)
 rw [Jm rfl (by simp [aC,hl]) k x] at h9
 exact h9
theorem aS.Eu (h:aS w L iR iX aR tR sz In F) {In':List Nat} {S:Nat→Prop} (hk:Keep S w w') (hS:¬ S L) (hs:dR w' iR iX sz In'):aS w' L iR iX aR tR sz In' F:=by
 obtain ⟨M,hM,hb⟩:=h.blk
 exact ⟨⟨M,hM,hk.blk hb hS⟩,hs,h.ji,h.fle⟩
theorem O0 (h:aS w L iR iX aR tR sz In F) (n:Int):Calls Tryz.prog 150 #[.pointer (some ⟨L,0,none⟩),.int .i64 n] w fun e w'=>e = .returned (.bool (iG sz In n))∧w=w':=by
 have y2:=h.ptrs.2.2
 have HH:=Lib.hid (xR h.set n)
 generalize iG sz In n=hb at *
 clear h
 go_enter Tryz.func150,Tryz.ntmps150
 go_wp2_with (go_at_call 54;refine HH.out.mono ?_;rintro e w1 ⟨rfl,rfl⟩)
 go_ret
 exact ⟨rfl,rfl⟩
theorem O1 {aX:Nat} {A:List Nat} (h:aS w L iR iX aR tR sz In F) (hA:bM w aR aX A) (p nx:Nat) (hp:p<A.length) (hw:A.getD p 0=bW nx) (hn:nx≤1048576):Calls Tryz.prog 153 #[.pointer (some ⟨L,0,none⟩),.int .i64 ((p:Int)+1)] w fun e w'=>e = .returned (.int .i64 (nx:Int))∧bM w' aR aX A∧Keep (only aR) w w':=by
 have y0:=h.ptrs.1
 have HL:=Lib.hid (xU hA p hp)
 rw [hw] at HL
 have HN:=Lib.hid (fun W=>Gs nx hn W)
 generalize bW nx=lw at *
 clear h hA hw hp
 go_enter Tryz.func153,Tryz.ntmps153
 go_wp2_with (first
  | (go_at_call 99;refine HL.out.mono ?_;rintro e w1 ⟨rfl,hA1,hk1⟩;have HA1:=Lib.hid hA1;have HK1:=Lib.hid hk1;clear hA1 hk1)
  | (go_at_call 199;refine (HN.out _).mono ?_;rintro e w2 ⟨rfl,rfl⟩))
 go_ret
 exact ⟨rfl,HA1.out,HK1.out⟩
end
def put4 (L iX aR aX:Nat):Nat→Prop:=fun i=>i=L∨i=iX∨i=aR∨i=aX
section
variable {w w':World} {L iR iX aR aX tR sz:Nat} {In F A:List Nat}
theorem MB (h:aS w L iR iX aR tR sz In F) (hA:bM w aR aX A) (hne:iX≠aX) (p k b1 b2:Nat) (hp:p<A.length) (hps:p+1<sz) (hin:iG sz In ((p:Int)+1)=false) (hk:k<4) (hb1:Blk w b1 [.pointer (some ⟨L,0,none⟩)] 98) (hb2:Blk w b2 [.int .i64 ((p:Int)+1)] 3) :
 Calls Tryz.prog 238 #[.int .i64 (k:Int),.pointer (some ⟨b1,0,none⟩),.pointer (some ⟨b2,0,none⟩)] w fun e w'=>e = .returned (.int .i64 0)∧aS w' L iR iX aR tR sz (fE sz In ((p:Int)+1) true) (F.set k (p+1))∧bM w' aR aX (A.set p (bW (F.getD k 0)))∧Keep (put4 L iX aR aX) w w':=by
 obtain ⟨pp,hpp⟩:∃ pp:Int,pp=(p:Int)+1:=⟨_,rfl⟩
 rw [← hpp] at hb2 hin ⊢
 have hps2:dU sz In pp true=true:=by
  unfold dU
  rw [hin,decide_eq_true (by omega)];rfl
 obtain ⟨q0,q1,q2⟩:=h.ptrs
 have HBP:=Lib.hid (qy (h.set.still (k:=(Keep.refl none_ w).drew)) pp true)
 rw [hps2] at HBP
 obtain ⟨qf,hfk⟩:=h.first hk
 have hpl:p<1048576:=Nat.lt_of_lt_of_le hp hA.len
 have hLn:=h.ne
 obtain ⟨M0,hM0,hbL⟩:=h.blk
 obtain ⟨cap0,hbi⟩:=h.set.blk
 obtain ⟨cur0,hbx,_⟩:=h.set.wds
 obtain ⟨ld,st,hbr⟩:=hA.blk
 have tu:=hA.wds
 have n1:b1≠iX:=fun e=>by rw [e] at hb1;exact absurd (hb1.uniq hbx).2 (by decide)
 have n2:b2≠iX:=fun e=>by rw [e] at hb2;exact absurd (hb2.uniq hbx).2 (by decide)
 have n3:b1≠L:=fun e=>by rw [e] at hb1;exact absurd (hb1.uniq hbL).2 (by decide)
 have n4:b2≠L:=fun e=>by rw [e] at hb2;exact absurd (hb2.uniq hbL).2 (by decide)
 have n5:aR≠iX:=fun e=>by rw [e] at hbr;exact absurd (hbr.uniq hbx).2 (by decide)
 have n6:aR≠L:=fun e=>by rw [e] at hbr;exact absurd (hbr.uniq hbL).2 (by decide)
 have n7:aX≠L:=fun e=>by rw [e] at tu;exact absurd (tu.uniq hbL).2 (by decide)
 have n8:aR≠iR:=fun e=>by rw [e] at hbr;exact absurd (hbr.uniq hbi).2 (by decide)
 have n9:aX≠iR:=fun e=>by rw [e] at tu;exact absurd (tu.uniq hbi).2 (by decide)
 have y1:=hb1.cell 0 rfl
 have y2:=hb2.cell 0 rfl
 have HN:Hid (b1≠iX∧b2≠iX∧b1≠L∧b2≠L∧aR≠iX∧aR≠L∧aX≠L∧L≠iR∧L≠iX∧aR≠iR∧aX≠iR∧iX≠aX):=⟨n1,n2,n3,n4,n5,n6,n7,hLn.1,hLn.2,n8,n9,hne⟩
 have H:=Lib.hid h
 have HA:=Lib.hid hA
 have HB1:=Lib.hid hb1
 have HB2:=Lib.hid hb2
 have HLK:=Lib.hid (fun W=>sO (F.getD k 0) (by omega) W)
 rw [if_pos hfk,decide_eq_true hfk] at HLK
 have HFK:Hid (F.getD k 0≤1048576):=hfk
 have HPL:Hid (p<1048576):=hpl
 have HP:Hid (p<A.length):=hp
 have HK4:Hid (k<4):=hk
 have hkI:(k:Int)<4:=by omega
 generalize hf:F.getD k 0=fk at *
 have HF:=Lib.hid hf
 have HLW:Hid (bW fk<18446744073709551616):=by have:=(lY hfk).1;unfold Hid;omega
 generalize bW fk=lw at *
 have HPP:=Lib.hid hpp
 clear h hA hb1 hb2 hbL hbi hbx hbr tu hps hin hk hp hpl n1 n2 n3 n4 n5 n6 n7 n8 n9 hLn hne hps2 hfk hf hpp hM0
 go_enter Tryz.func238,Tryz.ntmps238
 go_wp2_with fail
 refine aA 5 rfl (by kernel_rfl) (by kernel_rfl) (fun K hK=>?_)
 change wpStill _ _ (World.drew _) _ _ _
 simp only [List.take_succ_cons,List.take_zero,List.drop_succ_cons,List.drop_zero] at hK ⊢
 repeat still_step
 refine wpStill_nil ?_
 change ite _ (Oper.wp _ _ _ w.drew _ _) _
 go_simp
 refine HBP.out.mono ?_
 rintro e w1 ⟨rfl,hs1,hk1⟩
 refine hK _ _ ?_
 clear hK K
 have hk01:Keep (only iX) w w1:=(Keep.refl _ _).drew.trans hk1
 have HS1:=Lib.hid (H.out.Eu hk01 (HN.out.2.2.2.2.2.2.2.2.1) hs1)
 have HK1:=Lib.hid hk01
 have HA1:=Lib.hid (HA.out.keep hk01 (HN.out.2.2.2.2.1) (fun e=>HN.out.2.2.2.2.2.2.2.2.2.2.2 e.symm))
 have O3:=Lib.hid (hk01.blk HB1.out HN.out.1)
 have O4:=Lib.hid (hk01.blk HB2.out HN.out.2.1)
 clear hs1 hk1 hk01 y1 y2 q0 q1 q2 qf HBP
 have y1:=O3.out.cell 0 rfl
 have y2:=O4.out.cell 0 rfl
 obtain ⟨q0,q1,q2⟩:=HS1.out.ptrs
 have qf:=(HS1.out.first HK4.out).1
 rw [HF.out] at qf
 repeat still_step
 refine wpStill_nil ?_
 go_wp2_with (go_at_call 239;refine (HLK.out _).mono ?_;rintro e w2 ⟨rfl,rfl⟩)
 have fF:=HS1.out.free (3+k)
 go_region
 obtain ⟨W2,hW2⟩:∃ W',W'=(w1.setCell ⟨L,3+k,none⟩ (.int .i64 pp)).drew:=⟨_,rfl⟩
 rw [← hW2]
 have hk12:Keep (only L) w1 W2:=by rw [hW2];exact ((Keep.refl _ _).put _ _).drew
 have HS2:Hid (aS W2 L iR iX aR tR sz (fE sz In pp true) (F.set k (p+1))):=by
  have h1:=HS1.out.Tf HK4.out (x:=p+1) (by have:=HPL.out;omega)
  rw [show (((p+1:Nat):Nat):Int)=pp by have:=HPP.out;omega] at h1
  rw [hW2]
  exact h1.still (k:=(Keep.refl none_ _).drew)
 have HA2:=Lib.hid (HA1.out.keep hk12 HN.out.2.2.2.2.2.1 HN.out.2.2.2.2.2.2.1)
 have O5:=Lib.hid (hk12.blk O3.out HN.out.2.2.1)
 have O6:=Lib.hid (hk12.blk O4.out HN.out.2.2.2.1)
 have HK2:Hid (Keep (put4 L iX aR aX) w W2):=(HK1.out.mono (fun i _ e=>Or.inr (Or.inl e))).trans (hk12.mono (fun i _ e=>Or.inl e))
 clear hW2 hk12 fF HS1 HA1 O3 O4 HK1 y1 y2 q0 q1 q2 qf
 have y1:=O5.out.cell 0 rfl
 have y2:=O6.out.cell 0 rfl
 obtain ⟨q0,q1,q2⟩:=HS2.out.ptrs
 obtain ⟨mm,qm⟩:=HS2.out.many HK4.out
 have fM:=HS2.out.free (7+k)
 go_wp2_with fail
 go_region
 obtain ⟨W3,hW3⟩:∃ W',W'=(W2.setCell ⟨L,7+k,none⟩ (.int .i64 (wrap64 (mm+1)))).drew:=⟨_,rfl⟩
 rw [← hW3]
 have hk23:Keep (only L) W2 W3:=by rw [hW3];exact ((Keep.refl _ _).put _ _).drew
 have HS3:Hid (aS W3 L iR iX aR tR sz (fE sz In pp true) (F.set k (p+1))):=by
  rw [hW3]
  exact (HS2.out.Ti k _).still (k:=(Keep.refl none_ _).drew)
 have HA3:=Lib.hid (HA2.out.keep hk23 HN.out.2.2.2.2.2.1 HN.out.2.2.2.2.2.2.1)
 have Vh:=Lib.hid (hk23.blk O5.out HN.out.2.2.1)
 have Vj:=Lib.hid (hk23.blk O6.out HN.out.2.2.2.1)
 have HK3:Hid (Keep (put4 L iX aR aX) w W3):=HK2.out.trans (hk23.mono (fun i _ e=>Or.inl e))
 clear hW3 hk23 fM qm HS2 HA2 O5 O6 HK2 y1 y2 q0 q1 q2
 have y1:=Vh.out.cell 0 rfl
 have y2:=Vj.out.cell 0 rfl
 obtain ⟨q0,q1,q2⟩:=HS3.out.ptrs
 have HST:=Lib.hid (Bq (HA3.out.still (k:=(Keep.refl none_ W3).drew)) p HP.out lw HLW.out)
 rw [← HPP.out] at HST
 go_wp2_with fail
 refine aA 6 rfl (by kernel_rfl) (by kernel_rfl) (fun K hK=>?_)
 change wpStill _ _ (World.drew _) _ _ _
 simp only [List.take_succ_cons,List.take_zero,List.drop_succ_cons,List.drop_zero] at hK ⊢
 repeat still_step
 refine wpStill_nil ?_
 change ite _ (Oper.wp _ _ _ W3.drew _ _) _
 go_simp
 refine HST.out.mono ?_
 rintro e w4 ⟨rfl,ha4,hk4⟩
 refine hK _ _ ?_
 clear hK K y1 y2 q0 q1 q2
 have hk34:=(Keep.refl _ W3).drew.trans hk4
 have HS4:=Lib.hid (HS3.out.keep hk34 (fun e=>e.elim (fun e=>HN.out.2.2.2.2.2.1 e.symm) (fun e=>HN.out.2.2.2.2.2.2.1 e.symm)) (fun e=>e.elim (fun e=>HN.out.2.2.2.2.2.2.2.2.2.1 e.symm) (fun e=>HN.out.2.2.2.2.2.2.2.2.2.2.1 e.symm)) (fun e=>e.elim (fun e=>HN.out.2.2.2.2.1 e.symm) (fun e=>HN.out.2.2.2.2.2.2.2.2.2.2.2 e)))
 have HA4:=Lib.hid ha4
 have Ew:=Lib.hid (HK3.out.trans (hk34.mono (T:=put4 L iX aR aX) (fun i _ e=>Or.inr (Or.inr e))))
 clear ha4 hk4 hk34
 repeat still_step
 refine wpStill_nil ?_
 go_wp2_with fail
 go_ret
 exact ⟨rfl,HS4.out,HA4.out,Ew.out⟩
theorem O7 (h:aS w L iR iX aR tR sz In F) (hA:bM w aR aX A) (hne:iX≠aX) (p k:Nat) (B0:Int) (hp:p<A.length) (hps:p+1<sz) (hin:iG sz In ((p:Int)+1)=false) (hk:k<4)
 (hO:∀ W,Keep none_ w W→Calls Tryz.prog 149 #[.pointer (some ⟨tR,0,none⟩),.int .i64 ((p:Int)+1)] W fun e w'=>e = .returned (.tuple #[.int .i64 B0,.int .i64 (k:Int),.bool true])∧Keep none_ W w') :
 Calls Tryz.prog 204 #[.pointer (some ⟨L,0,none⟩),.int .i64 ((p:Int)+1)] w fun e w'=>e = .returned (.int .i64 0)∧aS w' L iR iX aR tR sz (fE sz In ((p:Int)+1) true) (F.set k (p+1))∧bM w' aR aX (A.set p (bW (F.getD k 0)))∧Keep (put4 L iX aR aX) w w':=by
 obtain ⟨W0,hW0⟩:∃ W',W'=(w.alloc (.cells #[.pointer (some ⟨L,0,none⟩)] 98)).alloc (.cells #[.int .i64 ((p:Int)+1)] 3):=⟨_,rfl⟩
 have hk0:Keep none_ w W0:=by rw [hW0];exact ((Keep.refl _ _).alloc _).alloc _
 have hb1:Blk W0 w.heap.size [.pointer (some ⟨L,0,none⟩)] 98:=by rw [hW0];exact (Blk.new w _ _).alloc _
 have hb2:Blk W0 (w.heap.size+1) [.int .i64 ((p:Int)+1)] 3:=by
  rw [hW0]
  have h:=Blk.new (w.alloc (.cells #[.pointer (some ⟨L,0,none⟩)] 98)) [.int .i64 ((p:Int)+1)] 3
  rw [World.size_alloc] at h
  exact h
 have HSL:Hid (Calls Tryz.prog 237 #[.pointer (some ⟨L,0,none⟩),.int .i64 ((p:Int)+1),.func (.func 238) #[] #[.pointer (some ⟨w.heap.size,0,none⟩),.pointer (some ⟨w.heap.size+1,0,none⟩)]] W0 fun e w'=>e = .returned (.int .i64 0)∧aS w' L iR iX aR tR sz (fE sz In ((p:Int)+1) true) (F.set k (p+1))∧bM w' aR aX (A.set p (bW (F.getD k 0)))∧Keep (put4 L iX aR aX) w w'):=by
  have HC:Hid (∀ W,Keep none_ W0 W→Calls Tryz.prog 238 #[.int .i64 (k:Int),.pointer (some ⟨w.heap.size,0,none⟩),.pointer (some ⟨w.heap.size+1,0,none⟩)] W fun e w'=>e = .returned (.int .i64 0)∧aS w' L iR iX aR tR sz (fE sz In ((p:Int)+1) true) (F.set k (p+1))∧bM w' aR aX (A.set p (bW (F.getD k 0)))∧Keep (put4 L iX aR aX) W w'):=fun W hW =>
   MB ((h.still hk0).still hW) ((hA.still hk0).still hW) hne p k _ _ hp hps hin hk (hW.blk hb1 (fun f=>f)) (hW.blk hb2 (fun f=>f))
  have HO:=Lib.hid (hO W0 hk0)
  obtain ⟨q0,q1,q2⟩:=(h.still hk0).ptrs
  have HK0:=Lib.hid hk0
  generalize fE sz In ((p:Int)+1) true=In' at *
  generalize F.set k (p+1)=F' at *
  generalize A.set p (bW (F.getD k 0))=A' at *
  generalize ((p:Int)+1)=pp at *
  clear h hA hne hp hps hin hk hO hW0 hk0 hb1 hb2
  unfold Hid
  go_enter Tryz.func237,Tryz.ntmps237
  go_wp2_with (first
   | (go_at_call 149;refine HO.out.mono ?_;rintro e w1 ⟨rfl,hk1⟩;have HK1:=Lib.hid hk1;clear hk1)
   | (go_at_call 238;refine (HC.out _ HK1.out).mono ?_;rintro e w2 ⟨rfl,h1,h2,h3⟩;have H1:=Lib.hid h1;have H2:=Lib.hid h2;have H3:=Lib.hid h3;clear h1 h2 h3))
  go_ret
  exact ⟨rfl,H1.out,H2.out,(HK0.out.mono (fun _ _ f=>f.elim)).trans ((HK1.out.mono (fun _ _ f=>f.elim)).trans H3.out)⟩
 have hmf:∀ (fn:Fn) (first cap:Array Value) (w:World),(Instr.makeFunc fn first cap).run Tryz.prog w = .ok (.func fn first cap) w:=fun _ _ _ _=>rfl
 generalize fE sz In ((p:Int)+1) true=In' at *
 generalize F.set k (p+1)=F' at *
 generalize A.set p (bW (F.getD k 0))=A' at *
 generalize ((p:Int)+1)=pp at *
 clear h hA hne hp hps hin hk hO hb1 hb2 hk0
 go_enter Tryz.func204,Tryz.ntmps204
 go_wp2_with fail
 rw [← hW0]
 clear hW0
 refine HSL.out.mono ?_
 rintro e w1 ⟨rfl,h1,h2,h3⟩
 have H1:=Lib.hid h1;have H2:=Lib.hid h2;have H3:=Lib.hid h3
 clear h1 h2 h3
 go_wp2_with fail
 go_ret
 exact ⟨rfl,H1.out,H2.out,H3.out⟩
end
section
variable {w w':World} {L iR iX aR aX tR sz:Nat} {In F A:List Nat}
theorem Jo (h:aS w L iR iX aR tR sz In F) (k:Nat) (hk:k<4) (hf:F.getD k 0=0):Calls Tryz.prog 202 #[.pointer (some ⟨L,0,none⟩),.int .i64 (k:Int)] w fun e w'=>e = .returned (.tuple #[.int .i64 0,.int .i64 12])∧w=w':=by
 have HI:=Lib.hid (jv (k:Int) w)
 rw [decide_eq_true (by omega)] at HI
 have qf:=(h.first hk).1
 rw [hf] at qf
 have hkI:(k:Int)<4:=by omega
 clear h hk hf
 go_enter Tryz.func202,Tryz.ntmps202
 go_wp2_with (go_at_call 198;refine HI.out.mono ?_;rintro e w1 ⟨rfl,rfl⟩)
 go_ret2
 exact ⟨rfl,rfl⟩
def take3 (L iX aR:Nat):Nat→Prop:=fun i=>i=L∨i=iX∨i=aR
theorem O8 (h:aS w L iR iX aR tR sz In F) (hA:bM w aR aX A) (hne:iX≠aX) (p k nx:Nat) (hk:k<4) (hf:F.getD k 0=p+1) (hp:p<A.length) (hw:A.getD p 0=bW nx) (hn:nx≤1048576) :
 Calls Tryz.prog 202 #[.pointer (some ⟨L,0,none⟩),.int .i64 (k:Int)] w fun e w'=>e = .returned (.tuple #[.int .i64 ((p:Int)+1),.int .i64 0])∧aS w' L iR iX aR tR sz (fE sz In ((p:Int)+1) false) (F.set k nx)∧bM w' aR aX A∧Keep (take3 L iX aR) w w':=by
 have HI:=Lib.hid (fun W=>jv (k:Int) W)
 have hI:=fun W=>jv (k:Int) W
 simp only [decide_eq_true (show (0≤(k:Int)∧(k:Int)<4) by omega)] at hI
 have HI:=Lib.hid hI
 have qf:=(h.first hk).1
 rw [hf] at qf
 have qe:(((p+1:Nat):Nat):Int)=(p:Int)+1:=by omega
 rw [qe] at qf
 have hkI:(k:Int)<4:=by omega
 have HNX:=Lib.hid (O1 (h.still (k:=(Keep.refl none_ w).drew)) (hA.still (k:=(Keep.refl none_ w).drew)) p nx hp hw hn)
 have fF:=h.free (3+k)
 have hLn:=h.ne
 obtain ⟨M0,hM0,hbL⟩:=h.blk
 obtain ⟨cap0,hbi⟩:=h.set.blk
 obtain ⟨cur0,hbx,_⟩:=h.set.wds
 obtain ⟨ld,st,hbr⟩:=hA.blk
 have tu:=hA.wds
 have n5:aR≠iX:=fun e=>by rw [e] at hbr;exact absurd (hbr.uniq hbx).2 (by decide)
 have n6:aR≠L:=fun e=>by rw [e] at hbr;exact absurd (hbr.uniq hbL).2 (by decide)
 have n7:aX≠L:=fun e=>by rw [e] at tu;exact absurd (tu.uniq hbL).2 (by decide)
 have n8:aR≠iR:=fun e=>by rw [e] at hbr;exact absurd (hbr.uniq hbi).2 (by decide)
 have HN:Hid (aR≠iX∧aR≠L∧aX≠L∧L≠iR∧L≠iX∧aR≠iR∧iX≠aX∧aX≠aR):=⟨n5,n6,n7,hLn.1,hLn.2,n8,hne,fun e=>hA.ne e.symm⟩
 have H:=Lib.hid h
 have HA:=Lib.hid hA
 have HK4:Hid (k<4):=hk
 have HNB:Hid (nx≤1048576):=hn
 have hz:((p:Int)+1==0)=false:=by simp;omega
 obtain ⟨pp,hpp⟩:∃ pp:Int,pp=(p:Int)+1:=⟨_,rfl⟩
 rw [← hpp] at qf hz HNX ⊢
 clear h hA hbL hbi hbx hbr tu hk hp hf hw n5 n6 n7 n8 hLn hne hpp hM0 hI hn qe
 go_enter Tryz.func202,Tryz.ntmps202
 go_wp2_with (go_at_call 198;refine (HI.out _).mono ?_;rintro e w1 ⟨rfl,rfl⟩)
 go_region_held3 (fun _=>True)
  (first | exact trivial | fail "iw")
  ((go_at_call 153
    refine HNX.out.mono ?_
    rintro e w1 ⟨rfl,ha1,hk1⟩
    have hk01:Keep (only aR) w w1:=(Keep.refl _ _).drew.trans hk1
    have HS1:=Lib.hid (H.out.keep hk01 (fun e=>HN.out.2.1 e.symm) (fun e=>HN.out.2.2.2.2.2.1 e.symm) (fun e=>HN.out.1 e.symm))
    have HA1:=Lib.hid ha1
    have HK1:=Lib.hid hk01
    have qf1:=hk01.iY qf (fun e=>HN.out.2.1 e.symm)
    have fF1:=HS1.out.free (3+k)
    have HKN:Hid (w1.cell? ⟨L,3+k,none⟩=some (.int .i64 pp)∧w1.frozen? ⟨L,3+k,none⟩=false):=⟨qf1,fF1⟩
    clear ha1 hk1 hk01))
 obtain ⟨W2,hW2⟩:∃ W',W'=w1.setCell ⟨L,3+k,none⟩ (.int .i64 (nx:Int)):=⟨_,rfl⟩
 rw [← hW2]
 have hk12:Keep (only L) w1 W2:=by rw [hW2];exact (Keep.refl _ _).put _ _
 have HS2:Hid (aS W2 L iR iX aR tR sz In (F.set k nx)):=by
  rw [hW2]
  exact HS1.out.Tf HK4.out HNB.out
 have HA2:=Lib.hid (HA1.out.keep hk12 HN.out.2.1 HN.out.2.2.1)
 have HK2:Hid (Keep (take3 L iX aR) w W2):=(HK1.out.mono (fun i _ e=>Or.inr (Or.inr e))).trans (hk12.mono (fun i _ e=>Or.inl e))
 clear hW2 hk12 qf fF qf1 fF1 HKN HS1 HA1 HK1 HNX
 obtain ⟨mm,qm⟩:=HS2.out.many HK4.out
 have fM:=HS2.out.free (7+k)
 go_wp2_with fail
 go_region
 obtain ⟨W3,hW3⟩:∃ W',W'=(W2.setCell ⟨L,7+k,none⟩ (.int .i64 (wrap64 (mm - 1)))).drew:=⟨_,rfl⟩
 rw [← hW3]
 have hk23:Keep (only L) W2 W3:=by rw [hW3];exact ((Keep.refl _ _).put _ _).drew
 have HS3:Hid (aS W3 L iR iX aR tR sz In (F.set k nx)):=by
  rw [hW3]
  exact (HS2.out.Ti k _).still (k:=(Keep.refl none_ _).drew)
 have HA3:=Lib.hid (HA2.out.keep hk23 HN.out.2.1 HN.out.2.2.1)
 have HK3:Hid (Keep (take3 L iX aR) w W3):=HK2.out.trans (hk23.mono (fun i _ e=>Or.inl e))
 clear hW3 hk23 fM qm HS2 HA2 HK2
 obtain ⟨q0,q1,q2⟩:=HS3.out.ptrs
 have HBP:=Lib.hid (qy HS3.out.set pp false)
 generalize dU sz In pp false=pb at *
 go_wp2_with (go_at_call 163;refine HBP.out.mono ?_;rintro e w4 ⟨rfl,hs4,hk4⟩;have HS4:=Lib.hid hs4;have Ew:=Lib.hid hk4;clear hs4 hk4)
 go_ret2
 exact ⟨rfl,HS3.out.Eu Ew.out HN.out.2.2.2.2.1 HS4.out,HA3.out.keep Ew.out HN.out.1 (fun e=>HN.out.2.2.2.2.2.2.1 e.symm),HK3.out.trans (Ew.out.mono (fun i _ e=>Or.inr (Or.inl e)))⟩
theorem Rh {tX b ww:Nat} {c:aB} {K:List Nat} (hA:bM w aR aX A) (hTb:dh w tR tX c K) (hb:c.b=b) (hw:c.w=ww) (hlen:A.length=b*ww) (hT:Tabs w):Calls Tryz.prog 110 #[.pointer (some ⟨aR,0,none⟩),.pointer (some ⟨tR,0,none⟩)] w fun e w'=>∃ L iR iX,e = .returned (.tuple #[.pointer (some ⟨L,0,none⟩),.int .i64 0])∧aS w' L iR iX aR tR (b*ww+1) (List.replicate ((b*ww+1+63)/64) 0) [0,0,0,0]∧w.heap.size≤L∧w.heap.size≤iR∧w.heap.size≤iX∧Keep none_ w w':=by
 have hn:=jm hTb.ok hb hw
 have HC:=Lib.hid (nY hTb)
 have HW:Hid (∀ W,Keep none_ w W→Calls Tryz.prog 108 #[.agg c.cells.toArray] W fun e w'=>e = .returned (.int .i64 ((b*ww:Nat):Int))∧Keep none_ W w'):=fun W hW=>pz hTb.ok hb hw W (hT.keep hW)
 have HL:Hid (∀ W,Keep none_ w W→Calls Tryz.prog 157 #[.pointer (some ⟨aR,0,none⟩)] W fun e w'=>e = .returned (.int .i64 ((b*ww:Nat):Int))∧W=w'):=fun W hW=>by
  have h9:=Es (hA.still hW)
  rw [hlen] at h9
  exact h9
 have HB:Hid (∀ W,Calls Tryz.prog 111 #[.int .i64 (((b*ww:Nat):Int)+1)] W fun e w'=>∃ B X,e = .returned (.tuple #[.pointer (some ⟨B,0,none⟩),.int .i64 0])∧dR w' B X (b*ww+1) (List.replicate ((b*ww+1+63)/64) 0)∧W.heap.size≤B∧W.heap.size≤X∧Keep none_ W w'):=fun W=>by
  have h9:=Ep (b*ww+1) (by omega) W
  rw [show (((b*ww+1:Nat):Nat):Int)=((b*ww:Nat):Int)+1 by omega] at h9
  exact h9
 generalize b*ww=N at *
 have hwr:IntKind.i64.wrap ((N:Int)+1)=(N:Int)+1:=IntWalk.i64_in _ (by omega)
 generalize (List.replicate ((N+1+63)/64) 0)=In' at *
 obtain ⟨c0,c1,c2,c3,c4,c5,c6⟩:=c
 simp only [aB.cells] at *
 clear hA hTb hb hw hlen hT hn
 go_enter Tryz.func110,Tryz.ntmps110
 go_wp2_with (first
  | (go_at_call 53;refine HC.out.mono ?_;rintro e w1 ⟨rfl,hk1⟩;have HK1:=Lib.hid hk1;clear hk1)
  | (go_at_call 108;refine (HW.out _ HK1.out).mono ?_;rintro e w2 ⟨rfl,hk2⟩;have HK2:=Lib.hid (HK1.out.trans hk2);clear hk2)
  | (go_at_call 157;refine (HL.out _ HK2.out).mono ?_;rintro e w3 ⟨rfl,rfl⟩)
  | (go_at_call 111;refine (HB.out _).mono ?_;rintro e w4 ⟨iR,iX,rfl,hs,h1,h2,hk4⟩;have HS:=Lib.hid hs;have HK4:=Lib.hid (HK2.out.trans hk4);have HLE:Hid (w.heap.size≤iR∧w.heap.size≤iX):=⟨Nat.le_trans HK2.out.size h1,Nat.le_trans HK2.out.size h2⟩;clear hs h1 h2 hk4))
 obtain ⟨W5,hW5⟩:∃ W',W'=w4.alloc (.cells #[.pointer (some ⟨aR,0,none⟩),.pointer (some ⟨tR,0,none⟩),.pointer (some ⟨iR,0,none⟩),.int .i64 0,.int .i64 0,.int .i64 0,.int .i64 0,.int .i64 0,.int .i64 0,.int .i64 0,.int .i64 0] 208):=⟨_,rfl⟩
 rw [← hW5]
 go_ret2
 have hk5:Keep none_ w4 W5:=by rw [hW5];exact (Keep.refl _ _).alloc _
 refine ⟨w4.heap.size,iR,iX,rfl,⟨⟨[0,0,0,0],rfl,?_⟩,HS.out.still hk5,rfl,by decide⟩,HK4.out.size,HLE.out.1,HLE.out.2,HK4.out.trans hk5⟩
 rw [hW5]
 exact Blk.new w4 _ _
end
end
section
open Go.RowKit
theorem xW {w:World} {base n:Nat} {e:TypeId} {v:Value} {xs:List Value} (h:w.ownsRow base e 1 v n xs) (h1:1≤n):∃ g cap,v = .slice (some ⟨g,0,none⟩) n cap∧base≤g:=by
 rcases h.2 with ⟨rfl,h0⟩|⟨g,cap,cur,rfl,hb,_⟩
 ·omega
 ·exact ⟨g,cap,rfl,hb⟩
theorem Ey (ad:Addr) (n c:Nat) (xs:List Value) (w:World) (h:Cells w (some ad) n xs) (hm:n≤4000000000) (h1:∀ u∈xs,u.oneCell'=true) :
 Calls Tryz.prog 123 #[.slice (some ad) n c] w fun e w'=>∃ v',e = .returned v'∧w'.ownsRow w.heap.size 146 1 v' n xs∧Keep none_ w w':=by
 obtain ⟨rfl,hc⟩:=h
 have hn:=fun w=>Lib.run_eql_slice_nil (P:=Tryz.prog) w 147 146 (some ad) xs.length c 0 0 (by kernel_rfl)
 obtain ⟨i0,hi1,hi2,hi3,hi4⟩:=info_parts Tryz.infoU
 have hw0:∀ w:World,(w.alloc (.cells #[] 146)).ownsRow w.heap.size 146 1 (.slice (some ⟨w.heap.size,0,none⟩) 0 0) 0 []:=fun w=>World.ownsRow_made w #[] 0 (Nat.le_refl _) (by decide) rfl
 have hcell:∀ (j:Nat) (u:Value),xs[j]?=some u→(w.alloc (.cells #[] 146)).cell? (ad.add j)=some u:=fun j u hj=>by
  have hjl:=(List.getElem?_eq_some_iff.1 hj).1
  obtain ⟨b,off,e,hx⟩:=hc (by omega)
  injection e with e
  subst e
  have hcl:=hx j u hj
  have ea:(⟨b,off,none⟩:Addr).add j=⟨b,off+j,none⟩:=by simp only [Addr.add];split<;>simp_all
  rw [ea,World.cell?_alloc_lt _ _ _ (World.block_lt_of_cell? _ _ hcl)]
  exact hcl
 have HC:=Lib.hid hcell
 have HU:=Lib.hid h1
 clear hcell hc h1
 go_enter Tryz.func123,Tryz.ntmps123
 go_wp2_with (at_builtin;refine wpList_append_own _ rfl _ _ 147 rfl w.heap.size 146 i0 (.int .u64 0) 1 8 (by kernel_rfl) hi1 hi2 hi3 hi4 rfl (by decide) _ _ _ rfl (hw0 w) ad xs.length c xs rfl (by simp) HC.out HU.out (by unfold maxLen;omega) (by omega) (by simp) ?_;intro v' w1 hown hgr _)
 have hown':w1.ownsRow w.heap.size 146 1 v' xs.length xs:=by simpa using hown
 have hkeep:Keep none_ w w1:=((Keep.refl none_ w).alloc _).grown hgr (fun k e hk=>absurd hk (by have e':w.heap.size=k:=Option.some.inj e;omega))
 clear hown hgr
 go_wp2
 go_ret
 exact ⟨_,rfl,hown',hkeep⟩
section
variable {w w':World} {B X size:Nat} {W:List Nat}
theorem dR.cells (h:dR w B X size W):Cells w (some ⟨X,0,none⟩) W.length (gQ W):=by
 obtain ⟨cur,h2,h3⟩:=h.wds
 refine ⟨by simp [gQ],fun _=>⟨X,0,rfl,fun j u hj=>?_⟩⟩
 rw [Nat.zero_add]
 exact h2.cell j (h3 j u hj)
theorem Bv (h:dR w B X size W) (h1:1≤size):Calls Tryz.prog 88 #[.pointer (some ⟨B,0,none⟩)] w fun e w'=>∃ B' X',e = .returned (.pointer (some ⟨B',0,none⟩))∧dR w' B' X' size W∧w.heap.size≤B'∧w.heap.size≤X'∧Keep none_ w w':=by
 obtain ⟨cap,hb⟩:=h.blk
 have y0:=hb.cell 0 rfl
 have y1:=hb.cell 1 rfl
 have hlen:=h.len
 have hsz:=h.sz
 have HC:=Lib.hid (Ey ⟨X,0,none⟩ W.length cap (gQ W) w.drew (h.still (k:=(Keep.refl none_ w).drew)).cells (by omega) (fun u hu=>by obtain ⟨z,_,rfl⟩:=List.mem_map.1 hu;rfl))
 have H:=Lib.hid h
 have HL1:Hid (1≤W.length):=by unfold Hid;omega
 generalize hWL:W.length=wl at *
 have HWL:=Lib.hid hWL
 clear h hb hlen hsz h1 hWL
 go_enter Tryz.func88,Tryz.ntmps88
 go_wp2_with fail
 go_region_held3 (fun w'=>w'.cell? ⟨B,0,none⟩=some (.slice (some ⟨X,0,none⟩) wl cap)∧w'.cell? ⟨B,1,none⟩=some (.int .i64 (size:Int)))
  (first | exact ⟨y0, y1⟩ | exact ⟨HK1.out.still y0, HK1.out.still y1⟩ | exact ⟨(HK1.out.alloc _).still y0, (HK1.out.alloc _).still y1⟩ | fail "iw")
  ((go_at_call 123
    refine HC.out.mono ?_
    rintro e w1 ⟨v,rfl,hown,hk1⟩
    obtain ⟨g,cp,rfl,hge⟩:=xW hown HL1.out
    have HGE:=Lib.hid hge
    have HOWN:=Lib.hid hown
    have HK1:=Lib.hid ((Keep.refl none_ w).drew.trans hk1)
    clear hown hk1 hge))
 obtain ⟨W2,hW2⟩:∃ W',W'=w1.alloc (.cells #[.slice (some ⟨g,0,none⟩) wl cp,.int .i64 (size:Int)] 149):=⟨_,rfl⟩
 rw [← hW2]
 go_wp2_with fail
 go_ret
 have hk2:Keep none_ w1 W2:=by rw [hW2];exact (Keep.refl _ _).alloc _
 refine ⟨w1.heap.size,g,rfl,⟨⟨cp,?_⟩,?_,H.out.len,H.out.lt,H.out.sz⟩,HK1.out.size,HGE.out,HK1.out.trans hk2⟩
 ·rw [hW2,HWL.out];exact Blk.new w1 _ _
 ·rcases HOWN.out.2 with ⟨h,_⟩|⟨g',cap',cur,hv,hb,hg,hn,hm,hs,hc⟩
  ·cases h
  ·cases hv
   refine ⟨cur.toList,hk2.blk (by unfold Blk;simpa using hg) (fun f=>f),fun i v hi=>?_⟩
   rw [← hc] at hi
   have hl:=(List.getElem?_eq_some_iff.1 hi).1
   rw [List.getElem?_take_of_lt (by simp at hl;omega)] at hi
   exact hi
end
theorem Aa {size:Nat} {W:List Nat} (hl:W.length=(size+63)/64) {n:Nat} (hn:n<size) (inn:Bool) (m:Nat):iG size (fE size W (n:Int) inn) (m:Int)=if m=n then inn else iG size W (m:Int):=by
 have h0:decide (0≤(n:Int)∧(n:Int)<(size:Int))=true:=decide_eq_true (by omega)
 have hb:iG size W (n:Int)=fZ W n:=by unfold iG;rw [h0,Bool.true_and,Int.toNat_natCast]
 unfold fE dU
 rw [h0,Bool.true_and,hb]
 by_cases he:fZ W n=inn
 ·rw [if_neg (by rw [he];simp)]
  split
  ·rename_i e;subst e;rw [hb,he]
  ·rfl
 ·rw [if_pos (by simpa using he)]
  unfold iG
  rw [Int.toNat_natCast,Int.toNat_natCast]
  split
  ·rename_i e;subst e
   rw [h0,Bool.true_and,L8 (by omega)]
   revert he
   cases fZ W m<;>cases inn<;>simp
  ·rename_i e
   rw [Jh e]
def jq (w:World) (B X size:Nat) (s:Nat→Bool):Prop:=∃ W,dR w B X size W∧∀ n:Nat,iG size W (n:Int)=s n
section
variable {w w':World} {B X size:Nat} {s:Nat→Bool}
theorem jq.keep {S:Nat→Prop} (h:jq w B X size s) (k:Keep S w w') (hB:¬ S B) (hX:¬ S X):jq w' B X size s:=by
 obtain ⟨W,h1,h2⟩:=h
 exact ⟨W,h1.keep k hB hX,h2⟩
theorem jq.has (h:jq w B X size s) (n:Nat):Calls Tryz.prog 54 #[.pointer (some ⟨B,0,none⟩),.int .i64 (n:Int)] w fun e w'=>e = .returned (.bool (s n))∧w=w':=by
 obtain ⟨W,h1,h2⟩:=h
 rw [← h2 n]
 exact xR h1 n
theorem jq.low (h:jq w B X size s) {n:Nat} (hn:s n=true):n<size:=by
 obtain ⟨W,h1,h2⟩:=h
 rw [← h2 n] at hn
 unfold iG at hn
 simp only [Bool.and_eq_true,decide_eq_true_eq] at hn
 omega
theorem jq.put (h:jq w B X size s) (n:Nat) (hn:n<size) (inn:Bool):Calls Tryz.prog 163 #[.pointer (some ⟨B,0,none⟩),.int .i64 (n:Int),.bool inn] w fun e w'=>e = .returned (.bool (s n != inn))∧jq w' B X size (upd s n inn)∧Keep (only X) w w':=by
 obtain ⟨W,h1,h2⟩:=h
 have e:dU size W (n:Int) inn=(s n != inn):=by
  unfold dU
  rw [decide_eq_true (by omega),Bool.true_and,h2]
 rw [← e]
 refine (qy h1 n inn).mono ?_
 rintro e w' ⟨rfl,h3,h4⟩
 exact ⟨rfl,⟨_,h3,fun m=>by rw [Aa h1.len hn,h2];rfl⟩,h4⟩
theorem jq.Tj (h:jq w B X size s) (n:Nat) (hn:s n=false):Calls Tryz.prog 163 #[.pointer (some ⟨B,0,none⟩),.int .i64 (n:Int),.bool false] w fun e w'=>e = .returned (.bool false)∧jq w' B X size s∧Keep (only X) w w':=by
 obtain ⟨W,h1,h2⟩:=h
 have e:dU size W (n:Int) false=false:=by
  unfold dU
  rw [h2,hn];simp
 have e2:fE size W (n:Int) false=W:=by unfold fE;rw [if_neg (by rw [e];decide)]
 refine (qy h1 n false).mono ?_
 rintro e' w' ⟨rfl,h3,h4⟩
 rw [e2] at h3
 rw [e]
 exact ⟨rfl,⟨_,h3,h2⟩,h4⟩
end
end
end Go.Proofs.YtanfphjoebobaaaGreatDoor
