/- Parts of the walk. No conditions. -/
import Derived.Test.YtanfphjoebobaaaGreatDoorZzeb
import Derived.RangeFuncNested
import Derived.LoopNIn
import Derived.LoopIn
import Derived.Deep.OwnRows
import Derived.Deep.DeepAppendRoom
namespace Go.Proofs.YtanfphjoebobaaaGreatDoor
open _root_.Go.Proofs.Tryz hiding prog
open _root_.Go.Proofs.Tryz renaming prog->ay
set_option maxRecDepth 100000
set_option maxHeartbeats 2000000
section
open Go.RowKit
theorem qV {k:Nat} (h:k<4):2<=2^(k+1)/\2^(k+1)<=16:=by
 obtain rfl|rfl|rfl|rfl:k=0\/k=1\/k=2\/k=3:=by omega
 all_goals decide
theorem zk {b ww z B0 s j:Nat} (hz:2<=z/\z<=16) (hw:16<=ww/\ww<=256) (hB:B0<b) (hs:s<ww/z) (hj:j<z) :
 s*z+j<ww/\B0*ww+(s*z+j)<b*ww/\(B0*ww+(s*z+j))/ww=B0/\(s*z+j)/z=s/\(s*z+j)%z=j:=by
 have h1:(s+1)*z<=ww:=Nat.le_trans (Nat.mul_le_mul_right z (Nat.succ_le_of_lt hs)) (Nat.div_mul_le_self ww z)
 have h2:(s+1)*z=s*z+z:=by rw [Nat.add_mul,Nat.one_mul]
 have h3:(B0+1)*ww<=b*ww:=Nat.mul_le_mul_right ww (Nat.succ_le_of_lt hB)
 have h4:(B0+1)*ww=B0*ww+ww:=by rw [Nat.add_mul,Nat.one_mul]
 refine ⟨by omega,by omega,?_,?_,?_⟩
 ·rw [Nat.add_comm,Nat.add_mul_div_right _ _ (by omega),Nat.div_eq_of_lt (by omega),Nat.zero_add]
 ·rw [Nat.add_comm,Nat.add_mul_div_right _ _ (by omega),Nat.div_eq_of_lt hj,Nat.zero_add]
 ·rw [Nat.add_comm,Nat.add_mul_mod_self_right,Nat.mod_eq_of_lt hj]
theorem KC {M L s j z ww per:Nat} (hz:2<=z/\z<=16) (h4:L/z=s) (h5:L%z=j) (hL:L<ww) (hw:ww<=256) (hM:M<=1048576) (hs:s<per) :
 wrap64 (wrap64 (((M+L:Nat):Int)+1 - 1) - (M:Int))=(L:Int)/\wrap64 ((L:Int)/(z:Int))=(s:Int)/\wrap64 ((L:Int)%(z:Int))=(j:Int)/\(L:Int).tmod (z:Int)=(j:Int)/\(L:Int).tdiv (z:Int)=(s:Int)/\wrap64 ((L:Int).tdiv (z:Int))=(s:Int) /\
 IntKind.i64.wrap (s:Int)=(s:Int)/\IntKind.i64.wrap (M:Int)=(M:Int)/\decide ((per:Int)<=(s:Int))=false/\((z:Int)==0)=false/\¬ (z:Int)=0/\¬ z=0/\(2:Int)<=(z:Int):=by
 have hs1:s<=L:=by rw [<- h4];exact Nat.div_le_self _ _
 have hj1:j<=L:=by rw [<- h5];exact Nat.mod_le _ _
 have e1:((L:Int)/(z:Int))=(s:Int):=by rw [<- h4];simp
 have e2:((L:Int)%(z:Int))=(j:Int):=by rw [<- h5];simp
 have e3:(L:Int).tmod (z:Int)=(j:Int):=by rw [Int.tmod_eq_emod_of_nonneg (by omega),e2]
 have e4:(L:Int).tdiv (z:Int)=(s:Int):=by rw [Int.tdiv_eq_ediv_of_nonneg (by omega),e1]
 rw [e1,e2,e3,e4]
 clear e1 e2 e3 e4 h4 h5
 refine ⟨?_,IntWalk.wrap64_in _ (by omega),IntWalk.wrap64_in _ (by omega),rfl,rfl,IntWalk.wrap64_in _ (by omega),IntWalk.i64_in _ (by omega),IntWalk.i64_in _ (by omega),decide_eq_false (by omega),by simp;omega,by omega,by omega,by omega⟩
 rw [show ((M+L:Nat):Int)+1 - 1=((M+L:Nat):Int) by omega,IntWalk.wrap64_in ((M+L:Nat):Int) (by omega),show ((M+L:Nat):Int) - (M:Int)=(L:Int) by omega,IntWalk.wrap64_in (L:Int) (by omega)]
theorem eU {P:Program} {f:Nat} {args:Array Value} {w:World} {p:Ending->Prop} (h:Calls P f args w fun e w'=>p e/\w=w'):Calls P f args w fun e w'=>p e/\w'=w:=h.mono fun _ _ k=>⟨k.1,k.2.symm⟩
section
variable {c:aK} {b ww:Nat} (hok:c.ok=true) (hb:c.b=b) (hw:c.w=ww)
include hok hb hw
theorem Ig (k B0 s j:Nat) (hk:k<4) (hB:B0<b) (hs:s<ww/2^(k+1)) (hj:j<2^(k+1)) (w:World) (hT:Tabs w) (hS:Sizes w):Calls ay 197 #[.agg c.cells.toArray,ah (k:Int),ah (((B0*ww+(s*2^(k+1)+j):Nat):Int)+1)] w fun e w'=>e = .returned (.tuple #[.agg #[ah (B0:Int),ah (s:Int),ah (j:Int)],.bool true])/\Keep none_ w w':=by
 obtain ⟨W0,hW0⟩:∃ W',W'=(w.alloc (.cells c.cells.toArray 23)).alloc (.cells #[ah 0,ah 0,ah 0] 229):=⟨_,rfl⟩
 have HK:Hid (Keep none_ w W0):=by rw [hW0];exact ((Keep.refl _ _).alloc _).alloc _
 have hn:=lD hok hb hw
 have hz:=qV hk
 obtain ⟨q1,q2,q3,q4,q5⟩:=zk (b:=b) hz ⟨hn.2.2.1,hn.2.2.2.1⟩ hB hs hj
 have HC:=au (vK hok hb hw (B0*ww+(s*2^(k+1)+j)) q2 W0 (hT.keep HK.out))
 rw [q3] at HC
 have HB:=au (show aA W0 w.heap.size c.cells 23 by rw [hW0];exact (aA.new w _ _).alloc _)
 have HO:Hid (aA W0 (w.heap.size+1) [ah 0,ah 0,ah 0] 229):=by
  rw [hW0]
  have h:=aA.new (w.alloc (.cells c.cells.toArray 23)) [ah 0,ah 0,ah 0] 229
  rw [World.size_alloc] at h
  exact h
 have hI:=fun W=>lI (k:Int) W
 have HZ:Hid (∀ W,Keep none_ w W->Calls ay 201 #[ah (k:Int)] W fun e w'=>e = .returned (ah ((2^(k+1):Nat):Int))/\W=w'):=fun W hW=>by
  have h:=vI (k:Int) W (hS.keep hW)
  rw [EP hk] at h
  simpa using h
 have HP:Hid (∀ W,Keep none_ w W->Calls ay 194 #[ah (ww:Int),ah (k:Int)] W fun e w'=>e = .returned (ah ((ww/2^(k+1):Nat):Int))/\W=w'):=fun W hW=>xA ww k ⟨hn.2.2.1,hn.2.2.2.1⟩ hk W (hS.keep hW)
 have hkd:decide (0<=(k:Int)/\(k:Int)<4)=true:=decide_eq_true (by omega)
 simp only [hkd] at hI
 have HI:=au hI
 clear hI
 obtain ⟨c0,c1,c2,c3,c4,c5,c6⟩:=c
 simp only at hb hw
 subst hb hw
 have hmul:(B0:Int)*(ww:Int)=((B0*ww:Nat):Int):=by simp
 have hM:B0*ww<=b*ww:=Nat.mul_le_mul_right _ (by omega)
 generalize s*2^(k+1)+j=L at *
 generalize 2^(k+1)=z at *
 generalize ww/z=per at *
 generalize b*ww=N at *
 generalize B0*ww=M at *
 obtain ⟨hleft,hq,hr,hr2,hq2,hm1,hs1,hmw,d1,hz0,hz1,hz2,hzI⟩:=KC hz q4 q5 (Nat.lt_of_le_of_lt (Nat.le_refl _) q1) hn.2.2.2.1 (Nat.le_trans hM hn.2.2.2.2) hs
 obtain ⟨aa,Ae⟩:∃ aa:Int,aa=((M+L:Nat):Int)+1:=⟨_,rfl⟩
 rw [<- Ae] at HC hleft ⊢
 simp only [aK.cells] at *
 clear hT hS hok q1 q2 q3 q4 q5 hn hkd hs hj hM Ae
 go_enter func197,ntmps197
 go_wp2_with fail
 rw [<- hW0]
 clear hW0
 refine HC.out.mono ?_
 rintro e w1 ⟨rfl,hk1⟩
 have aJ:=au (HK.out.trans hk1)
 have nV:=au (hk1.blk HO.out (fun f=>f))
 have HB1:=au (hk1.blk HB.out (fun f=>f))
 have y1:=(hk1.blk HB.out (fun f=>f)).cell 1 rfl
 clear hk1 HK HC HB HO
 go_wp2_with (go_at_call 198;refine (HI.out _).mono ?_;rintro e w2 ⟨rfl,rfl⟩)
 go_region_held3 (fun w'=>Keep none_ w1 w')
  (first | exact Keep.refl _ _ | exact (Keep.refl _ _).drew | exact (Keep.refl _ _).drew.alloc _ | assumption | exact Keep.alloc (by assumption) _ | fail "ji")
  ((go_at_call 201
    refine (HZ.out _ (aJ.out.trans (by first | assumption | exact Keep.alloc (by assumption) _ | exact (Keep.refl _ _).drew | exact (Keep.refl _ _).drew.alloc _ | fail "jZ"))).mono ?_
    rintro e w2 ⟨rfl,rfl⟩))
 all_goals
  obtain ⟨W2,hW2⟩:∃ W',W'=(w1.alloc (.cells #[ah (B0:Int),ah (s:Int),ah (j:Int)] 229)).drew:=⟨_,rfl⟩
  rw [<- hW2]
  have bJ:Hid (Keep none_ w W2):=by rw [hW2];exact (aJ.out.alloc _).drew
  have hp2:aA W2 w1.heap.size [ah (B0:Int),ah (s:Int),ah (j:Int)] 229:=by rw [hW2];exact (aA.new w1 _ _).drew
  have ho2:aA W2 (w.heap.size+1) [ah 0,ah 0,ah 0] 229:=by rw [hW2];exact (nV.out.alloc _).drew
  have hb2:=show aA W2 w.heap.size _ 23 by rw [hW2];exact (HB1.out.alloc _).drew
  have hlt:w.heap.size+1<w1.heap.size:=nV.out.lt
  have hOg:w.heap.size<=w.heap.size+1:=by omega
  clear hW2 y1 HB1 nV aJ HZ hr hr2 hq hq2 hm1 hs1 hleft hmul hmw hz0 hz1 hz2 hzI
  generalize w1.heap.size=D at *
  generalize w.heap.size+1=O at *
  have y1:=hb2.cell 1 rfl
  have p0:=hp2.cell 0 rfl;have p1:=hp2.cell 1 rfl;have p2:=hp2.cell 2 rfl
  have o0:=ho2.cell 0 rfl;have o1:=ho2.cell 1 rfl;have o2:=ho2.cell 2 rfl
  have f0:=ho2.free 0;have f1:=ho2.free 1;have f2:=ho2.free 2
  have KD:=au ho2
  have aaI:=au hp2
  clear hp2 ho2 hb2
  go_wp2_with fail
  go_quiet (first|(go_at_call 194;exact Calls.quiet_of_same (eU (HP.out _ (bJ.out.drewN _)))))
  obtain ⟨W3,hW3⟩:∃ W',W'=W2.drewN nq:=⟨_,rfl⟩
  rw [<- hW3]
  have gy:Hid (Keep none_ w W3):=by rw [hW3];exact bJ.out.drewN _
  have h23:Keep none_ W2 W3:=by rw [hW3];exact (Keep.refl _ _).drewN _
  have hp3:=h23.blk aaI.out (fun f=>f)
  have ho3:=h23.blk KD.out (fun f=>f)
  clear hW3 h23 y1 p0 p1 p2 o0 o1 o2 f0 f1 f2 aaI KD bJ
  have p0:=hp3.cell 0 rfl;have p1:=hp3.cell 1 rfl;have p2:=hp3.cell 2 rfl
  have o0:=ho3.cell 0 rfl;have o1:=ho3.cell 1 rfl;have o2:=ho3.cell 2 rfl
  have f0:=ho3.free 0;have f1:=ho3.free 1;have f2:=ho3.free 2
  have um:=au ho3
  clear hp3 ho3
  have d2:¬ (per<=s):=fun h=>absurd (decide_eq_true (Int.ofNat_le.2 h)) (by rw [d1];decide)
  go_wp2_with fail
  obtain ⟨W4,iZ⟩:∃ W',W'=(((W3.setCell ⟨O,0,none⟩ (ah (B0:Int))).setCell ⟨O,1,none⟩ (ah (s:Int))).setCell ⟨O,2,none⟩ (ah (j:Int))):=⟨_,rfl⟩
  rw [<- iZ]
  have hF:aA W4 O [ah (B0:Int),ah (s:Int),ah (j:Int)] 229:=by rw [iZ];exact ((um.out.set 0 _).set 1 _).set 2 _
  have k0:=hF.cell 0 rfl;have k1:=hF.cell 1 rfl;have k2:=hF.cell 2 rfl
  have hk4:Keep none_ w W4:=by
   rw [iZ]
   exact gy.out.trans' (((((Keep.refl (only O) W3).put 0 _).put 1 _).put 2 _)) (fun i hi e=>absurd hi (by unfold only at e;omega))
  refine bodyPost_ret (v := .tuple #[.agg #[ah (B0:Int),ah (s:Int),ah (j:Int)],.bool true]) (by simp [results,Tryz.f197,go_sem,k0,k1,k2]) rfl ⟨rfl,hk4⟩
end
section
variable {c:aK} {b ww:Nat} (hok:c.ok=true) (hb:c.b=b) (hw:c.w=ww)
include hok hb hw
theorem ZI (k B0 s:Nat) (hk:k<4) (hB:B0<b) (hs:s<ww/2^(k+1)) (w:World) (hT:Tabs w) (hS:Sizes w):Calls ay 195 #[.agg c.cells.toArray,ah (k:Int),.agg #[ah (B0:Int),ah (s:Int),ah 0]] w fun e w'=>e = .returned (.tuple #[ah (((B0*ww+s*2^(k+1):Nat):Int)+1),.bool true])/\Keep none_ w w':=by
 obtain ⟨W0,hW0⟩:∃ W',W'=(w.alloc (.cells c.cells.toArray 23)).alloc (.cells #[ah (B0:Int),ah (s:Int),ah 0] 229):=⟨_,rfl⟩
 have HK:Hid (Keep none_ w W0):=by rw [hW0];exact ((Keep.refl _ _).alloc _).alloc _
 have hn:=lD hok hb hw
 have hz:=qV hk
 obtain ⟨q1,q2,q3,q4,q5⟩:=zk (b:=b) (j:=0) hz ⟨hn.2.2.1,hn.2.2.2.1⟩ hB hs (by omega)
 have HR:=au (xw c W0 (hT.keep HK.out))
 rw [hok] at HR
 have HB:=au (show aA W0 w.heap.size c.cells 23 by rw [hW0];exact (aA.new w _ _).alloc _)
 have HO:Hid (aA W0 (w.heap.size+1) [ah (B0:Int),ah (s:Int),ah 0] 229):=by
  rw [hW0]
  have h:=aA.new (w.alloc (.cells c.cells.toArray 23)) [ah (B0:Int),ah (s:Int),ah 0] 229
  rw [World.size_alloc] at h
  exact h
 have hI:=fun W=>lI (k:Int) W
 have hkd:decide (0<=(k:Int)/\(k:Int)<4)=true:=decide_eq_true (by omega)
 simp only [hkd] at hI
 have HI:=au hI
 have HZ:Hid (∀ W,Keep none_ w W->Calls ay 201 #[ah (k:Int)] W fun e w'=>e = .returned (ah ((2^(k+1):Nat):Int))/\W=w'):=fun W hW=>by
  have h:=vI (k:Int) W (hS.keep hW)
  rw [EP hk] at h
  simpa using h
 have HP:Hid (∀ W,Keep none_ w W->Calls ay 194 #[ah (ww:Int),ah (k:Int)] W fun e w'=>e = .returned (ah ((ww/2^(k+1):Nat):Int))/\W=w'):=fun W hW=>xA ww k ⟨hn.2.2.1,hn.2.2.2.1⟩ hk W (hS.keep hW)
 obtain ⟨c0,c1,c2,c3,c4,c5,c6⟩:=c
 simp only at hb hw
 subst hb hw
 have hmul:(B0:Int)*(ww:Int)=((B0*ww:Nat):Int):=by simp
 have hmul2:(s:Int)*((2^(k+1):Nat):Int)=((s*2^(k+1):Nat):Int):=by rw [Int.natCast_mul]
 have hM:B0*ww<=b*ww:=Nat.mul_le_mul_right _ (by omega)
 rw [Nat.add_zero] at q1 q2 q3 q4 q5
 generalize s*2^(k+1)=L at *
 generalize 2^(k+1)=z at *
 generalize ww/z=per at *
 generalize b*ww=N at *
 generalize B0*ww=M at *
 have e1:IntKind.i64.wrap (1+(M:Int))=1+(M:Int):=IntWalk.i64_in _ (by omega)
 have e2:IntKind.i64.wrap (1+(M:Int)+(L:Int))=((M+L:Nat):Int)+1:=by rw [IntWalk.i64_in _ (by omega)];omega
 have e3:IntKind.i64.wrap (M:Int)=(M:Int):=IntWalk.i64_in _ (by omega)
 have e4:IntKind.i64.wrap (L:Int)=(L:Int):=IntWalk.i64_in _ (by omega)
 have e5:IntKind.i64.wrap (((M+L:Nat):Int)+1)=((M+L:Nat):Int)+1:=IntWalk.i64_in _ (by omega)
 obtain ⟨R,hR⟩:∃ R:Int,R=((M+L:Nat):Int)+1:=⟨_,rfl⟩
 rw [<- hR] at e2 e5 ⊢
 have d1:decide ((b:Int)<=(B0:Int))=false:=decide_eq_false (by omega)
 have d2:decide ((per:Int)<=(s:Int))=false:=decide_eq_false (fun h=>absurd hs (Nat.not_lt.2 (Int.ofNat_le.1 h)))
 have d3:decide ((z:Int)<=0)=false:=decide_eq_false (fun h=>by have:=hz.1;omega)
 have n1:decide (b<=B0)=false:=decide_eq_false (by omega)
 have n2:decide ((B0:Int)<0)=false:=decide_eq_false (by omega)
 have n3:decide (per<=s)=false:=decide_eq_false (Nat.not_le.2 hs)
 have n4:decide ((s:Int)<0)=false:=decide_eq_false (by omega)
 have n5:¬ z=0:=fun h=>by have:=hz.1;omega
 have n6:¬ (b<=B0):=by omega
 have n7:¬ (per<=s):=Nat.not_le.2 hs
 simp only [aK.cells] at *
 clear hT hS hok q1 q2 q3 q4 q5 hn hkd hs hM hR hI hz hk hB
 go_enter func195,ntmps195
 go_wp2_with fail
 rw [<- hW0]
 clear hW0
 refine HR.out.mono ?_
 rintro e w1 ⟨rfl,hk1⟩
 have aJ:=au (HK.out.trans hk1)
 have nV:=au (hk1.blk HO.out (fun f=>f))
 have HB1:=au (hk1.blk HB.out (fun f=>f))
 clear hk1 HK HR HB HO
 have y0:=HB1.out.cell 0 rfl
 have y1:=HB1.out.cell 1 rfl
 have o0:=nV.out.cell 0 rfl;have o1:=nV.out.cell 1 rfl;have o2:=nV.out.cell 2 rfl
 go_wp2_with (go_at_call 198;refine (HI.out _).mono ?_;rintro e w2 ⟨rfl,rfl⟩)
 go_quiet (first|(go_at_call 194;exact Calls.quiet_of_same (eU (HP.out _ (aJ.out.drewN _)))))
 obtain ⟨W2,hW2⟩:∃ W',W'=w1.drewN nq:=⟨_,rfl⟩
 rw [<- hW2]
 have bJ:Hid (Keep none_ w W2):=by rw [hW2];exact aJ.out.drewN _
 have hkd:Keep none_ w1 W2:=by rw [hW2];exact (Keep.refl _ _).drewN _
 have Dk:=au (hkd.blk nV.out (fun f=>f))
 have HB2:=au (hkd.blk HB1.out (fun f=>f))
 clear hkd
 clear hW2 aJ nV HB1 y0 y1 o0 o1 o2
 have y0:=HB2.out.cell 0 rfl
 have y1:=HB2.out.cell 1 rfl
 have o0:=Dk.out.cell 0 rfl;have o1:=Dk.out.cell 1 rfl;have o2:=Dk.out.cell 2 rfl
 go_wp2_with fail
 go_quiet (first|(go_at_call 201;exact Calls.quiet_of_same (eU (HZ.out _ (bJ.out.drewN _)))))
 obtain ⟨W3,hW3⟩:∃ W',W'=W2.drewN nq:=⟨_,rfl⟩
 rw [<- hW3]
 have gy:Hid (Keep none_ w W3):=by rw [hW3];exact bJ.out.drewN _
 have hkd:Keep none_ W2 W3:=by rw [hW3];exact (Keep.refl _ _).drewN _
 have um:=au (hkd.blk Dk.out (fun f=>f))
 have HB3:=au (hkd.blk HB2.out (fun f=>f))
 clear hkd
 clear hW3 bJ Dk HB2 y0 y1 o0 o1 o2
 have y0:=HB3.out.cell 0 rfl
 have y1:=HB3.out.cell 1 rfl
 have o0:=um.out.cell 0 rfl;have o1:=um.out.cell 1 rfl;have o2:=um.out.cell 2 rfl
 go_wp2_with fail
 go_quiet (first|(go_at_call 201;exact Calls.quiet_of_same (eU (HZ.out _ (gy.out.drewN _)))))
 obtain ⟨W4,iZ⟩:∃ W',W'=W3.drewN nq:=⟨_,rfl⟩
 rw [<- iZ]
 have mM:Hid (Keep none_ w W4):=by rw [iZ];exact gy.out.drewN _
 have hkd:Keep none_ W3 W4:=by rw [iZ];exact (Keep.refl _ _).drewN _
 have Ih:=au (hkd.blk um.out (fun f=>f))
 have HB4:=au (hkd.blk HB3.out (fun f=>f))
 clear hkd
 clear iZ gy um HB3 y0 y1 o0 o1 o2
 have y0:=HB4.out.cell 0 rfl
 have y1:=HB4.out.cell 1 rfl
 have o0:=Ih.out.cell 0 rfl;have o1:=Ih.out.cell 1 rfl;have o2:=Ih.out.cell 2 rfl
 go_wp2_with fail
 go_ret2
 exact ⟨rfl,mM.out⟩
end
end
section
open Go.RowKit
structure Holds (G:Nat->Prop) (W W':World):Prop where
 size:W.heap.size<=W'.heap.size
 same:∀ b,G b->W'.heap[b]?=W.heap[b]?
theorem Holds.refl (G:Nat->Prop) (W:World):Holds G W W:=⟨Nat.le_refl _,fun _ _=>rfl⟩
theorem Holds.trans {G:Nat->Prop} {A B C:World} (h:Holds G A B) (k:Holds G B C):Holds G A C:=⟨Nat.le_trans h.size k.size,fun b hb=>(k.same b hb).trans (h.same b hb)⟩
theorem Holds.putObj {G:Nat->Prop} (W:World) (l:Nat) (o:Obj) (hl:¬ G l):Holds G W (W.putObj l o):=⟨by simp,fun b hb=>World.putObj_heap_other (fun e=>hl (e▸hb))⟩
theorem Holds.rH {G S:Nat->Prop} {W W':World} (k:Keep S W W') (hG:∀ b,G b->b<W.heap.size/\¬ S b):Holds G W W':=⟨k.size,fun b hb=>k.block b (hG b hb).1 (hG b hb).2⟩
theorem Holds.blk {G:Nat->Prop} {W W':World} (h:Holds G W W') {B cs T} (hB:G B) (hb:aA W B cs T):aA W' B cs T:=by
 unfold aA at *
 rw [h.same B hB];exact hb
def J9 (I:World->Prop):Prop:=∀ W W',I W->Keep none_ W W'->I W'
def D7 {α:Type} (F:Fence) (n:Nat) (P:Program) (g:Nat) (lb:Array Value) (all:List α) (Enc:World->α->Array Value->Prop) (G:Nat->Prop) (w:World):Prop :=
 ∀ (l:Nat) (J Jx:Nat->World->Prop) (W:World),Keep none_ w W->(∀ k,J9 (J k))->(∀ k,J9 (Jx k)) ->
  (∀ (k:Nat) (x:α) (args:Array Value) (W1:World),all[k]?=some x->J k W1->Enc W1 x args->YieldAt F (n - 1) P l args W1 fun e W' =>
   (e = .returned (.bool true)/\J (k+1) W'/\Holds G W1 W')\/(e = .returned (.bool false)/\Jx (k+1) W')) ->
  J 0 W ->
  CallsIn F n P g (#[.func (.yield l) #[] #[]]++lb) W fun e W'=>(∃ v,e = .returned v)/\(J all.length W'\/∃ k,k<=all.length/\Jx k W')
def roundEnd (B:Nat) (G:Nat->Prop) (I:Nat->World->Prop) (Ix:Code->Nat->World->Prop) (k:Nat) (W:World):Exit->Act->World->Prop
 | .normal,_,W'=>KeepsFrom B W W'/\Holds G W W'/\I k W'
 | .ret,_,W'=>KeepsFrom B W W'/\Ix .ret k W'
 | .exit id,_,W'=>KeepsFrom B W W'/\Ix (.exit id) k W'
 | .goto t,_,W'=>KeepsFrom B W W'/\Ix (.goto t) k W'
 | .panic _,_,_=>False
 | .outgrown,_,_=>False
theorem rJ {β:Type} {S:Nat->Prop} {w:World} {B:Nat} (hB:w.heap.size<=B):OwnFrom B (fun (_:β) W=>Keep S w W):=by
 rintro s W W' row h hg hr
 exact h.trans' (T:=fun i=>row=some i) ⟨hg.os,hg.tape,hg.output,hg.size,fun k hk n=>hg.block k hk (fun e=>n e.symm)⟩ (fun i hi e=>absurd (hr i e).1 (by omega))
theorem jE {β:Type} {b B:Nat} {cs:β->List Value} {T:TypeId}:OwnFrom B (fun (s:β) W=>aA W b (cs s) T):=by
 rintro s W W' row h hg hr
 have hlt:=h.lt
 unfold aA at *
 rw [hg.block b hlt (fun e=>?_)]
 ·exact h
 ·obtain ⟨_,_,ho,hc⟩:=hr b e.symm
  rw [h] at ho
  cases ho
  simp [Obj.isCells] at hc
theorem KeepsFrom.rH {B:Nat} {W W':World} (k:Keep none_ W W'):KeepsFrom B W W' :=
 ⟨k.size,fun i _ _ h _=>(k.block i (Array.getElem?_eq_some_iff.1 h).1 (fun f=>f)).trans h⟩
theorem Keep.takeDeferred {S:Nat->Prop} {w0 W:World} (h:Keep S w0 W) {D:Nat} (hD:w0.heap.size<=D) (o:Obj):Keep S w0 (W.putObj D o) :=
 h.trans' (T:=fun i=>i=D) ⟨rfl,rfl,rfl,by simp,fun k _ n=>World.putObj_heap_other n⟩ (fun i hi e=>absurd hi (by omega))
theorem aA.putObj {W:World} {b:Nat} {cs:List Value} {T:TypeId} (h:aA W b cs T) {D:Nat} {o o':Obj} (hD:W.heap[D]?=some o) (ho:o.isCells=false):aA (W.putObj D o') b cs T:=by
 unfold aA at *
 rw [World.putObj_heap_other (fun e=>by subst e;rw [h] at hD;cases hD;simp [Obj.isCells] at ho)];exact h
variable {F:Fence} {n:Nat} {P:Program}
theorem GL {α:Type} {g:Operand} {ps:Array Tmp} {assign body:Code} {Q:Exit->Act->World->Prop} {a:Act} {w:World}
 (hro:F.round=none) (h1:1<=n) {gf:Nat} {lb:Array Value} (hg:a.eval g = .func (.func gf) #[] lb) (hFg:F.fn gf) (eg:∀ args w,(callFunc gf args).run P w = .ok (.enter gf args) w)
 {all:List α} {Enc:World->α->Array Value->Prop} {G:Nat->Prop} (hseq:D7 F (n - 1) P gf lb all Enc G w)
 (hG:∀ b,G b->b<w.heap.size) (hps:∀ W x args,Enc W x args->args.size=ps.size)
 (I:Nat->World->Prop) (Ix:Code->Nat->World->Prop) (hI:OwnFrom w.heap.size I) (hIx:∀ c,OwnFrom w.heap.size (Ix c)) (h0:I 0 w)
 (KE:∀ (l:Nat) (k:Nat) (x:α) (args:Array Value) (W:World),all[k]?=some x->Enc W x args->I k W ->
  assign.wpIn (F.inRound l) (n - 1 - 1) P (Exit.then (fun a₁ W₁=>∃ J:World->Prop,KeepsFrom w.heap.size W W₁/\Holds G W W₁/\J W₁/\OwnFrom w.heap.size (fun (_:Unit) W=>J W) /\
   ∀ W₂,J W₂->body.wpIn (F.inRound l) (n - 1 - 1) P (roundEnd w.heap.size G I Ix (k+1) W₂) a₁ W₂) (fun _ _ _=>False))
   { tmps:=(ps.zip args).foldl (fun t (p,v)=>t.setIfInBounds p v) a.tmps,defers:=[] } W)
 (hdone:∀ (D:Nat) (W:World),w.heap.size<=D->I all.length W->W.heap[D]?=some (.deferred (some []))->Q .normal { a with defers:={ target := .collected D,args:=#[] }::a.defers } W)
 (hstop:∀ (D:Nat) (c:Code) (k:Nat) (W:World),w.heap.size<=D->k<=all.length->Ix c k W->W.heap[D]?=some (.deferred (some []))->c.wpIn F n P Q { a with defers:={ target := .collected D,args:=#[] }::a.defers } W) :
 (Code.rangeFunc g ps assign body).wpIn F n P Q a w:=by
 refine wpIn_rangeFunc fun fn hfn=>?_
 rw [hro]
 let lK:LoopState->Option Code->Loop:=fun st pe=>{ state:=st,pending:=pe,fn,tmps:=a.tmps,params:=ps,assign,body,defers:=w.heap.size }
 let D:=w.heap.size
 let L:=w.heap.size+1
 let W1:=(w.alloc (.deferred (some []))).alloc (.loop (lK .ready none))
 have Ug:Keep none_ w W1:=((Keep.refl _ _).alloc _).alloc _
 have sW1:W1.heap.size=w.heap.size+2:=by simp [W1]
 have eL:W1.heap[L]?=some (.loop (lK .ready none)):=by
  have:=World.alloc_heap_new (w.alloc (.deferred (some []))) (.loop (lK .ready none))
  rwa [World.size_alloc] at this
 have eD:W1.heap[D]?=some (.deferred (some [])):=(Below.heap_alloc _ _ _ (by simp [D])).trans (World.alloc_heap_new w _)
 have grow:∀ {β:Type} {B:Nat} {K:β->World->Prop},OwnFrom B K->∀ {s:β} {A C:World},K s A->Keep none_ A C->K s C:=by
  intro β B K hK s A C hs k
  exact hK s A C none hs ⟨k.os,k.tape,k.output,k.size,fun i hi _=>k.block i hi (fun f=>f)⟩ (fun _ e=>by cases e)
 have hlG:¬ G L:=fun h=>by have:=hG _ h;simp [L] at this;omega
 refine ⟨L,[{ target := .collected D,args:=#[] }],W1,{ target := .fn (.func gf) lb,args:=#[.func (.yield L) #[] #[]] },W1,gf,#[.func (.yield L) #[] #[]]++lb,W1,run_enterLoop_outer _ _ _ _ _,?_,?_,?_,fun _=>h1,?_⟩
 ·simp only [resolve,hg];simp [go_sem]
 ·intro f' hf';simp [Target.leads] at hf';subst hf';exact hFg
 ·simp [invoke,go_sem,eg]
 refine (hseq L (fun k W=>I k W/\W.heap[L]?=some (.loop (lK .ready none))/\W.heap[D]?=some (.deferred (some [])))
  (fun k W=>∃ c,Ix c k W/\W.heap[L]?=some (.loop (lK .done (some c)))/\W.heap[D]?=some (.deferred (some []))) W1 Ug ?_ ?_ ?_ ⟨grow hI h0 Ug,eL,eD⟩).mono ?_
 ·rintro k A C ⟨h,hl,hd⟩ kk
  exact ⟨grow hI h kk,(kk.block L (Array.getElem?_eq_some_iff.1 hl).1 (fun f=>f)).trans hl,(kk.block D (Array.getElem?_eq_some_iff.1 hd).1 (fun f=>f)).trans hd⟩
 ·rintro k A C ⟨c,h,hl,hd⟩ kk
  exact ⟨c,grow (hIx c) h kk,(kk.block L (Array.getElem?_eq_some_iff.1 hl).1 (fun f=>f)).trans hl,(kk.block D (Array.getElem?_eq_some_iff.1 hd).1 (fun f=>f)).trans hd⟩
 ·
  rintro k x args W hx ⟨hi,hl,hd⟩ henc
  refine ⟨fn,_,assign,body,run_yield hl (hps _ _ _ henc),roundIn_of_wpIn hfn (wpIn_mono (KE L k x args W hx henc hi) ?_)⟩
  rintro e a1 Wa hp1
  cases e<;>try exact hp1.elim
  obtain ⟨Jr,kr,gr,jr,hJr,hbd⟩:=hp1
  have hla:=kr.same L _ (by simp [L]) hl rfl
  have hda:=kr.same D _ (Nat.le_refl _) hd rfl
  have hlt:=(Array.getElem?_eq_some_iff.1 hla).1
  refine ⟨_,run_beginRound hla rfl,?_⟩
  let W2:=Wa.putObj L (.loop { lK .ready none with state := .busy })
  have hl2:W2.heap[L]?=some (.loop { lK .ready none with state := .busy }):=World.putObj_heap_same hlt
  have hd2:W2.heap[D]?=some (.deferred (some [])):=(World.putObj_heap_other (by simp [D,L])).trans hda
  have hj2:Jr W2:=hJr.putObj (s:=()) _ jr (by simp [L]) hla rfl
  refine wpIn_mono (hbd W2 hj2) ?_
  have fin:∀ (j:Option Code) (W3:World),KeepsFrom w.heap.size W2 W3->∃ W4:World,(Instr.endRound L j).run P W3 = .ok (.bool j.isNone) W4/\W4=W3.putObj L (.loop (lK (if j.isNone then .ready else .done) j)) /\
   (∃ o:Obj,W3.heap[L]?=some o/\o.isCells=false)/\W4.heap[L]?=some (.loop (lK (if j.isNone then .ready else .done) j))/\W4.heap[D]?=some (.deferred (some [])):=fun j W3 k3=>by
   have hl3:=k3.same L _ (by simp [L]) hl2 rfl
   exact ⟨_,run_endRound j hl3,rfl,⟨_,hl3,rfl⟩,World.putObj_heap_same (Array.getElem?_eq_some_iff.1 hl3).1,(World.putObj_heap_other (by simp [D,L])).trans (k3.same D _ (Nat.le_refl _) hd2 rfl)⟩
  rintro e a3 W3 hp
  cases e with
  | normal =>
    obtain ⟨k3,g3,i3⟩:=hp
    obtain ⟨W4,hr,rfl,⟨o,ho,hoc⟩,hl4,hd4⟩:=fin none W3 k3
    exact ⟨_,_,hr,.inl ⟨rfl,⟨hI.putObj _ i3 (by simp [L]) ho hoc,hl4,hd4⟩,((gr.trans (Holds.putObj Wa L _ hlG)).trans g3).trans (Holds.putObj W3 L _ hlG)⟩⟩
  | ret =>
    obtain ⟨k3,i3⟩:=hp
    obtain ⟨W4,hr,rfl,⟨o,ho,hoc⟩,hl4,hd4⟩:=fin (some .ret) W3 k3
    exact ⟨_,_,hr,.inr ⟨rfl,.ret,(hIx _).putObj _ i3 (by simp [L]) ho hoc,hl4,hd4⟩⟩
  | exit id =>
    obtain ⟨k3,i3⟩:=hp
    obtain ⟨W4,hr,rfl,⟨o,ho,hoc⟩,hl4,hd4⟩:=fin (some (.exit id)) W3 k3
    exact ⟨_,_,hr,.inr ⟨rfl,.exit id,(hIx _).putObj _ i3 (by simp [L]) ho hoc,hl4,hd4⟩⟩
  | goto t =>
    obtain ⟨k3,i3⟩:=hp
    obtain ⟨W4,hr,rfl,⟨o,ho,hoc⟩,hl4,hd4⟩:=fin (some (.goto t)) W3 k3
    exact ⟨_,_,hr,.inr ⟨rfl,.goto t,(hIx _).putObj _ i3 (by simp [L]) ho hoc,hl4,hd4⟩⟩
  | panic ch=>exact hp.elim
  | outgrown=>exact hp.elim
 ·
  rintro e W ⟨⟨v,rfl⟩,(⟨hi,hl,hd⟩|⟨k,hk,c,hi,hl,hd⟩)⟩
  ·exact ⟨none,_,run_endLoop hl (by simp [lK]),hdone D _ (Nat.le_refl _) (hI.putObj _ hi (by simp [L]) hl rfl) ((World.putObj_heap_other (by simp [D,L])).trans hd)⟩
  ·exact ⟨some c,_,run_endLoop hl (by simp [lK]),hstop D c k _ (Nat.le_refl _) hk ((hIx c).putObj _ hi (by simp [L]) hl rfl) ((World.putObj_heap_other (by simp [D,L])).trans hd)⟩
end
section
open Go.RowKit Go.Deep
theorem Keep.grown {S:Nat->Prop} {w0 w w':World} {row:Option Nat} (h:Keep S w0 w) (g:w.grownBy w' row) (hr:∀ k,row=some k->k<w0.heap.size->S k):Keep S w0 w' :=
 h.trans' (T:=fun i=>row=some i) ⟨g.os,g.tape,g.output,g.size,fun k hk n=>g.block k hk (fun e=>n e.symm)⟩ (fun i hi e=>hr i e hi)
theorem Keep.grew {w0 w w':World} {base n size:Nat} {e:TypeId} {v:Value} {xs:List Value} (h:Keep none_ w0 w) (hown:w.ownsRow base e size v n xs) (hb:w0.heap.size<=base) (g:w.grownBy w' v.ownBlock):Keep none_ w0 w' :=
 h.grown g (fun k hk hl=>by have:=(hown.lt k hk).1;omega)
theorem aA.grown {w w':World} {B:Nat} {cs:List Value} {T:TypeId} {row:Option Nat} (h:aA w B cs T) (g:w.grownBy w' row) (hne:row≠some B):aA w' B cs T:=by
 have hlt:=h.lt
 unfold aA at *
 rw [g.block B hlt (fun e=>hne e.symm)];exact h
theorem own_ne {w:World} {B:Nat} {cs:List Value} {T e:TypeId} {base n size:Nat} {v:Value} {xs:List Value} (hb:aA w B cs T) (h:w.ownsRow base e size v n xs) (hne:e≠T):v.ownBlock≠some B:=by
 rcases h.2 with ⟨rfl,_⟩|⟨g,cap,cur,rfl,_,hg,_⟩
 ·simp [Value.ownBlock]
 ·intro hx
  simp [Value.ownBlock] at hx
  subst hx
  unfold aA at hb
  rw [hg] at hb
  simp at hb
  exact hne hb.2
theorem dY {w w':World} {S:Nat->Prop} {e:TypeId} {base n size:Nat} {v:Value} {xs:List Value} (h:w.ownsRow base e size v n xs) (k:Keep S w w') (hne:∀ B,v.ownBlock=some B->¬ S B):w'.ownsRow base e size v n xs:=by
 refine ⟨h.1,?_⟩
 rcases h.2 with hn|⟨g,cap,cur,rfl,hb,hg,rest⟩
 ·exact .inl hn
 ·refine .inr ⟨g,cap,cur,rfl,hb,?_,rest⟩
  rw [k.block g (Array.getElem?_eq_some_iff.1 hg).1 (hne g rfl)]
  exact hg
theorem bD {w:World} {base base' n size:Nat} {e:TypeId} {v:Value} {xs:List Value} (h:w.ownsRow base e size v n xs) (hb:base'<=base):w.ownsRow base' e size v n xs:=by
 refine ⟨h.1,?_⟩
 rcases h.2 with hn|⟨g,cap,cur,rfl,hg,rest⟩
 ·exact .inl hn
 ·exact .inr ⟨g,cap,cur,rfl,Nat.le_trans hb hg,rest⟩
theorem bV {w w':World} {base n size:Nat} {e:TypeId} {v:Value} {xs:List Value} (h:w.ownsRow base e size v n xs) (k:Keep none_ w w'):w'.ownsRow base e size v n xs:=dY h k (fun _ _ f=>f)
section
variable {P:Program} {w:World}
def zeros (z:Value) (n:Nat):List Value:=List.replicate n z
theorem Uh (z:Value) (n:Nat):(zeros z n).length=n:=by simp [zeros]
theorem QM (z:Value) (n:Nat):madeCells #[z] n=(zeros z n).toArray:=by
 apply Array.ext
 ·simp [madeCells,zeros]
 ·intro i h1 h2
  simp [madeCells,zeros,Nat.mod_one]
theorem run_mk {T e:TypeId} {z:Value} {bytes:Nat} (ht:P.underlying T=some (.slice e)) (hi:(P.info? e).map (fun i=>(i.zero,i.size,i.bytes))=some (some z,1,bytes)) (hz:z.cells=#[z]) (hb:bytes<=1000)
 (n:Nat) (hn:n<=100000000000) (L:Int) (hL:L=n) (w:World) :
 (Instr.makeSlice T (ah L) (ah L)).run P w = .ok (.slice (some ⟨w.heap.size,0,none⟩) n n) (w.alloc (.cells (zeros z n).toArray e)):=by
 subst hL
 rw [<- QM]
 exact run_make_row' T e z bytes ht hi hz .i64 .i64 n (Nat.le_trans (Nat.mul_le_mul hb hn) (by decide)) (by omega) w
end
end
section
open Go.RowKit
def KF (w:World) (T:TypeId) (v:Value) (xs:List Value):Prop :=
 ∃ a c,v = .slice a xs.length c/\xs.length<=c/\xs.length<=4000000000000/\(0<xs.length->∃ b off cs,a=some ⟨b,off,none⟩/\aA w b cs T/\∀ j,j<xs.length->cs[off+j]?=xs[j]?)
theorem KF.cells {w:World} {T:TypeId} {a:Option Addr} {n c:Nat} {xs:List Value} (h:KF w T (.slice a n c) xs):n=xs.length/\n<=c/\n<=4000000000000/\(0<n->∃ b off,a=some ⟨b,off,none⟩/\∀ j v,xs[j]?=some v->w.cell? ⟨b,off+j,none⟩=some v):=by
 obtain ⟨a',c',e,hl,hm,hc⟩:=h
 simp at e
 obtain ⟨rfl,rfl,rfl⟩:=e
 refine ⟨rfl,hl,hm,fun h0=>?_⟩
 obtain ⟨b,off,cs,rfl,hb,hj⟩:=hc h0
 refine ⟨b,off,rfl,fun j v hv=>hb.cell _ ?_⟩
 rw [hj j (List.getElem?_eq_some_iff.1 hv).1,hv]
def oP (a:Option Addr) (c k:Nat):Option Addr:=if c=k then a else a.map (·.add k)
theorem Cj {P:Program} {T e:TypeId} (ht:P.underlying T=some (.slice e)) (hi:(P.info? e).map (·.size)=some 1) (a:Option Addr) (n c k:Nat) (hk:k<=n) (w:World) :
 (Instr.slice T (.slice a n c) (some (ah (k:Int))) none none).run P w = .ok (.slice (oP a c k) (n - k) (c - k)) w:=by
 obtain ⟨i,hi1,hi2⟩:=Option.map_eq_some_iff.1 hi
 have hnk:¬ n<k:=by omega
 simp [Instr.slice,run_underlying ht,sizeOf,typeInfo,hi1,hi2,oP,go_sem]
 exact fun h=>absurd h hnk
def Cells (w:World) (a:Option Addr) (n:Nat) (xs:List Value):Prop :=
 xs.length=n/\(0<n->∃ b off,a=some ⟨b,off,none⟩/\∀ j v,xs[j]?=some v->w.cell? ⟨b,off+j,none⟩=some v)
theorem KF.toCells {w:World} {T:TypeId} {a:Option Addr} {n c:Nat} {xs:List Value} (h:KF w T (.slice a n c) xs):Cells w a n xs:=⟨h.cells.1.symm,h.cells.2.2.2⟩
theorem fU.KG {k:IntKind} {w:World} {base:Nat} {T:TypeId} {v:Value} {n:Nat} {zs:List Int} (h:w.ownsRow base T 1 v n (zs.map (Value.int k))):∃ a c,v = .slice a n c/\fU k w a n zs/\n<=c:=by
 obtain ⟨hl,hf⟩:=h
 rcases hf with ⟨rfl,rfl⟩|⟨g,cap,cur,rfl,_,hg,hn,_,hs,hc⟩
 ·exact ⟨none,0,rfl,⟨by simpa using hl,fun h=>absurd h (Nat.lt_irrefl 0)⟩,Nat.le_refl _⟩
 ·refine ⟨_,cap,rfl,⟨by simpa using hl,fun _=>⟨g,0,rfl,fun j hj=>?_⟩⟩,hn⟩
  have e:cur[j]?=some (.int k (zs.getD j 0)):=by
   have h1:(cur.toList.take (n*1))[j]?=cur[j]?:=by simp [hj]
   rw [<- h1,hc]
   have hj2:j<zs.length:=by simp at hl;omega
   simp [hj2]
  simp [World.cell?,hg,e]
def app9 (ats:Array TypeId) (ty:TypeId) (args:Array Value):Sem Value:=Builtin.append_ ats ty args
theorem jT (ats:Array TypeId) (ty:TypeId) (args:Array Value):Builtin.append_ ats ty args=app9 ats ty args:=rfl
theorem Tryz.infoInt:(ay.info? 3).map (fun i=>(i.zero,i.size,i.bytes))=some (some (ah 0),1,8):=by kernel_rfl
theorem dP {w:World} {e:TypeId} {v:Value} {n:Nat} {xs:List Value} (h:w.ownsRow 0 e 1 v n xs):∃ a cap,v = .slice a n cap/\xs.length=n/\n<=cap/\(a=none->cap=0) /\
 ∀ j u,xs[j]?=some u->∃ g,a=some ⟨g,0,none⟩/\w.cell? ⟨g,j,none⟩=some u/\w.frozen? ⟨g,j,none⟩=false:=by
 obtain ⟨hl,hf⟩:=h
 have hl':xs.length=n:=by simpa using hl
 rcases hf with ⟨rfl,rfl⟩|⟨g,cap,cur,rfl,_,hg,hn,_,hs,hc⟩
 ·have:xs=[]:=List.eq_nil_of_length_eq_zero hl'
  subst this
  exact ⟨none,0,rfl,rfl,Nat.le_refl _,fun _=>rfl,fun j u h=>by simp at h⟩
 ·refine ⟨_,cap,rfl,hl',hn,fun h=>(by cases h),fun j u hj=>⟨g,rfl,?_,?_⟩⟩
  ·have hj2:=(List.getElem?_eq_some_iff.1 hj).1
   rw [<- hc] at hj
   rw [List.getElem?_take_of_lt (by omega)] at hj
   simp [World.cell?,hg]
   simpa using hj
  ·simp [World.frozen?,hg]
theorem Ui {w:World} {e:TypeId} {g n cap:Nat} {xs:List Value} (h:w.ownsRow 0 e 1 (.slice (some ⟨g,0,none⟩) n cap) n xs):∃ cur:Array Value,w.heap[g]?=some (.cells cur e (0,0)):=by
 rcases h.2 with ⟨h,_⟩|⟨g',cap',cur,hv,_,hg,_⟩
 ·cases h
 ·cases hv
  exact ⟨cur,hg⟩
theorem uo {w:World} {e:TypeId} {v:Value} {n:Nat} {xs:List Value} (h:w.ownsRow 0 e 1 v n xs) {a:Addr} (ha:∀ k,v.ownBlock=some k->k≠a.block) (u:Value):(w.setCell a u).ownsRow 0 e 1 v n xs :=
 ownsRow_setCell_other h (fun e=>ha _ e rfl) u
theorem nY {P:Program} (w:World) (t ty e:TypeId) (ht:P.underlying t=some (.slice e)) {z:Value} {bytes:Nat} (hi:(P.info? e).map (fun i=>(i.zero,i.size,i.bytes))=some (some z,1,bytes)) (hzs:z.cells.size=1)
 {v:Value} {n:Nat} {xs:List Value} (hown:w.ownsRow 0 e 1 v n xs) {N:Nat} {u:Value} (hN:w.cell? ⟨N,0,none⟩=some u) (hu:u.oneCell'=true) (hb:bytes<=1000) (hn:n<=100000000000) :
 ∃ g cap w',(Builtin.append_ #[t,t] ty #[v,.slice (some ⟨N,0,none⟩) 1 1]).run P w = .ok (.slice (some ⟨g,0,none⟩) (n+1) cap) w'/\w'.ownsRow 0 e 1 (.slice (some ⟨g,0,none⟩) (n+1) cap) (n+1) (xs++[u]) /\
  w.grownBy w' v.ownBlock/\(v.ownBlock=some g\/w.heap.size<=g):=by
 obtain ⟨i,hi1,hi2,hi3,hi4⟩:=info_parts hi
 have hbytes:(n+1)*bytes<=140737488355328:=Nat.le_trans (Nat.mul_le_mul (show n+1<=100000000001 by omega) hb) (by decide)
 have hnews:∀ j x,[u][j]?=some x->w.cell? ((⟨N,0,none⟩:Addr).add j)=some x:=by
  intro j x hj
  cases j with
  | zero=>simp at hj;subst hj;simpa [Addr.add] using hN
  | succ j=>simp at hj
 have h1:∀ x∈[u],x.oneCell'=true:=by simpa using hu
 have shape:∀ {v':Value} {W:World} {B:Nat},W.ownsRow B e 1 v' (n+1) (xs++[u])->∃ g cap,v' = .slice (some ⟨g,0,none⟩) (n+1) cap/\B<=g:=by
  intro v' W B h
  rcases h.2 with ⟨_,h0⟩|⟨g,cap,cur,rfl,hB,_⟩
  ·omega
  ·exact ⟨g,cap,rfl,hB⟩
 rcases hown.2 with ⟨rfl,rfl⟩|⟨g,cap,cur,rfl,hbg,hg,hnc,hcm,hcs,htake⟩
 ·have hown':w.ownsRow w.heap.size e 1 (.slice none 0 0) 0 xs:=⟨hown.1,.inl ⟨rfl,rfl⟩⟩
  obtain ⟨v',w',hr,h2,h3,_⟩:=run_append_own (P:=P) w w.heap.size t ty e i z 1 bytes ht hi1 hi2 hi3 hi4 hzs (by decide) _ 0 xs hown' ⟨N,0,none⟩ 1 1 [u] rfl hnews h1 (by unfold maxLen;omega) hbytes (Nat.le_refl _)
  obtain ⟨g,cap,rfl,hB⟩:=shape h2
  exact ⟨g,cap,w',hr,bD h2 (Nat.zero_le _),h3,.inr hB⟩
 ·by_cases hroom:n+1<=cap
  ·obtain ⟨w',hr,h2,h3⟩:=run_append_own_spare (P:=P) w 0 t ty e i 1 ht hi1 hi3 g n cap xs hown ⟨N,0,none⟩ 1 1 [u] rfl hnews h1 hroom
   exact ⟨g,cap,w',hr,h2,h3,.inl rfl⟩
  ·have holds:∀ j x,xs[j]?=some x->w.cell? ((⟨g,0,none⟩:Addr).add j)=some x:=hown.cells (g:=g) rfl
   obtain ⟨v',w',hr,h2,h3⟩:=run_append_arg_grows (P:=P) w t ty e i z 1 bytes ht hi1 hi2 hi3 hi4 hzs (by decide) ⟨g,0,none⟩ n cap xs hown.1 holds ⟨N,0,none⟩ 1 1 [u] rfl hnews (by omega) (by unfold maxLen;omega) hbytes
   obtain ⟨g',cap',rfl,hB⟩:=shape h2
   exact ⟨g',cap',w',hr,bD h2 (Nat.zero_le _),⟨h3.os,h3.tape,h3.output,h3.size,fun k hk _=>h3.block k hk (by simp)⟩,.inr hB⟩
end
section
attribute [local go_sem ↓] jT
attribute [local go_sem] Oper.semAt_some
open Go.RowKit
section
variable {c:aK} {b ww:Nat} (hok:c.ok=true) (hb:c.b=b) (hw:c.w=ww)
include hok hb hw
theorem Uj (k B0 s:Nat) (hk:k<4) (hB:B0<b) (hs:s<ww/2^(k+1)) (w:World) (hT:Tabs w) (hS:Sizes w):Calls ay 147 #[.agg c.cells.toArray,ah (k:Int),ah (B0:Int),ah (s:Int)] w fun e w'=>e = .returned (ah (((B0*ww+s*2^(k+1):Nat):Int)+1))/\Keep none_ w w':=by
 obtain ⟨W0,hW0⟩:∃ W',W'=w.alloc (.cells c.cells.toArray 23):=⟨_,rfl⟩
 have HK:Hid (Keep none_ w W0):=by rw [hW0];exact (Keep.refl _ _).alloc _
 have HO:=au (ZI hok hb hw k B0 s hk hB hs W0 (hT.keep HK.out) (hS.keep HK.out))
 have hB:=show aA W0 w.heap.size c.cells 23 by rw [hW0];exact aA.new w _ _
 obtain ⟨R,hR⟩:∃ R:Int,R=((B0*ww+s*2^(k+1):Nat):Int)+1:=⟨_,rfl⟩
 rw [<- hR] at HO ⊢
 clear hR
 obtain ⟨c0,c1,c2,c3,c4,c5,c6⟩:=c
 simp only [aK.cells] at *
 have y0:=hB.cell 0 rfl;have y1:=hB.cell 1 rfl;have y2:=hB.cell 2 rfl;have y3:=hB.cell 3 rfl;have y4:=hB.cell 4 rfl;have y5:=hB.cell 5 rfl;have y6:=hB.cell 6 rfl
 clear hT hS hok hb hw hs hB
 go_enter func147,ntmps147
 go_wp2_with fail
 rw [<- hW0]
 clear hW0
 refine HO.out.mono ?_
 rintro e w1 ⟨rfl,hk1⟩
 have aJ:=au (HK.out.trans hk1)
 clear hk1 HK HO y0 y1 y2 y3 y4 y5 y6
 go_wp2_with fail
 go_ret
 exact ⟨rfl,aJ.out⟩
end
def wB (per z:Nat):List (Nat × Nat):=(List.range per).map fun i=>(i,i*z)
theorem vM (per z:Nat):(wB per z).length=per:=by simp [wB]
theorem Ii {per z j:Nat} (h:j<per):(wB per z)[j]?=some (j,j*z):=by simp [wB,h]
def zl (_:World) (x:Nat × Nat) (args:Array Value):Prop:=args=#[ah (x.1:Int),ah (x.2:Int)]
theorem KH (ww k:Int) (w:World):Calls ay 146 #[ah ww,ah k] w fun e w'=>e = .returned (.func (.func 193) #[] #[aj w.heap.size,aj (w.heap.size+1)])/\aA w' w.heap.size [ah ww] 3/\aA w' (w.heap.size+1) [ah k] 3/\Keep none_ w w':=by
 have hmf:∀ (fn:Fn) (first cap:Array Value) (w:World),(Instr.makeFunc fn first cap).run ay w = .ok (.func fn first cap) w:=fun _ _ _ _=>rfl
 have hb:∀ w:World,Hid (aA ((w.alloc (.cells #[ah ww] 3)).alloc (.cells #[ah k] 3)) w.heap.size [ah ww] 3/\aA ((w.alloc (.cells #[ah ww] 3)).alloc (.cells #[ah k] 3)) (w.heap.size+1) [ah k] 3):=fun w =>
  ⟨(aA.new w [ah ww] 3).alloc _,by have:=aA.new (w.alloc (.cells #[ah ww] 3)) [ah k] 3;simpa using this⟩
 go_enter func146,ntmps146
 go_wp2
 go_ret
 exact ⟨rfl,(hb _).out.1,(hb _).out.2,((Keep.refl _ _).alloc _).alloc _⟩
def wC (pB kB:Nat):Nat->Prop:=fun i=>i=pB\/i=kB\/i=2
theorem QN (ww k pB kB:Nat) (hw:16<=ww/\ww<=256) (hk:k<4) (m:Nat) (w:World) (hS:Sizes w) (hbp:aA w pB [ah (ww:Int)] 3) (hbk:aA w kB [ah (k:Int)] 3) :
 D7 Fence.wide m ay 193 #[aj pB,aj kB] (wB (ww/2^(k+1)) (2^(k+1))) zl (wC pB kB) w:=by
 intro l J Jx W hW hJ hJx hY h0
 have hbk1:=hW.blk hbk (fun f=>f)
 have hbp1:=hW.blk hbp (fun f=>f)
 have hc0:=hbp1.cell 0 (v := ah (ww:Int)) rfl
 have hc1:=hbk1.cell 0 (v := ah (k:Int)) rfl
 have HP:=au (xA ww k hw hk W (hS.keep hW))
 have hsz:W.cell? ⟨2,k,none⟩=some (ah ((2^(k+1):Nat):Int)):=(hS.keep hW) k _ (show Ci[k]?=some ((2^(k+1):Nat):Int) from by
  obtain rfl|rfl|rfl|rfl:k=0\/k=1\/k=2\/k=3:=by omega
  all_goals rfl)
 have hz:=qV hk
 have aaJ:∀ j,j<ww/2^(k+1)->j*2^(k+1)<=256:=fun j hj=>by
  have h1:j*2^(k+1)<=(ww/2^(k+1))*2^(k+1):=Nat.mul_le_mul_right _ (Nat.le_of_lt hj)
  have h2:=Nat.div_mul_le_self ww (2^(k+1))
  omega
 have hpl:ww/2^(k+1)<=256:=Nat.le_trans (Nat.div_le_self _ _) hw.2
 have PI:(k:Int)<4:=by omega
 generalize 2^(k+1)=z at *
 generalize ww/z=per at *
 have acY:=au aaJ
 clear aaJ hk hw hS
 refine callsIn_of_wp func193 rfl trivial ?_ rfl
 simp only [ntmps193,List.size_toArray,List.length_cons,List.length_nil,Nat.reduceAdd,Nat.reduceSub,Array.replicate_succ,Array.replicate_zero,List.push_toArray,List.append_toArray,List.nil_append,List.cons_append]
 gi_wp2_with fail
 refine ⟨trivial,fun h=>(by cases h),CallsIn.mono (callsIn_wide.2 HP.out) ?_⟩
 rintro e w1 ⟨rfl,rfl⟩
 gi_wp2_with fail
 gi_loopw [8] (fun i wr=>∃ j:Nat,j<=per/\i = ah j/\J j wr/\Holds (wC pB kB) W wr) (fun i _=>per - (intOf i).toNat)
 case atStart=>exact ⟨0,by omega,rfl,h0,Holds.refl _ _⟩
 case round =>
  obtain ⟨j,hj,rfl,uU,hH⟩:=hrel
  have b1:=hH.blk (.inl rfl) hbp1
  have b2:=hH.blk (.inr (.inl rfl)) hbk1
  have c1:=b1.cell 0 (v := ah (ww:Int)) rfl
  have c2:=b2.cell 0 (v := ah (k:Int)) rfl
  have c3:wr.cell? ⟨2,k,none⟩=some (ah (z:Int)):=by
   rw [World.cell?_of_block (w:=W) (hH.same 2 (.inr (.inr rfl)))];exact hsz
  by_cases hlt:j<per
  ·have hmul:(j:Int)*(z:Int)=((j*z:Nat):Int):=by simp
   have acZ:=acY.out j hlt
   obtain ⟨x2,hx2⟩:∃ x2,x2=j*z:=⟨_,rfl⟩
   rw [<- hx2] at hmul acZ
   have hwr:IntKind.i64.wrap (x2:Int)=(x2:Int):=IntWalk.i64_in _ (by omega)
   have HX:=au hx2
   have HY:=au hY
   have HJ:=au uU
   clear hx2 hY uU
   obtain ⟨fn,tmps,assign,body,hy,hR⟩:=HY.out j (j,j*z) #[ah (j:Int),ah (x2:Int)] wr (Ii hlt) HJ.out (by rw [HX.out];rfl)
   gi_wp2_with fail
   refine ⟨fun h=>(by cases h),hR.mono ?_⟩
   rintro e W' (⟨rfl,hJ',hk⟩|⟨rfl,D8⟩)
   ·gi_wp2_with fail
    go_roundw
    case rel=>exact ⟨j+1,by omega,by go_num,hJ',hH.trans hk⟩
    case measure=>simp [intOf];omega
   ·gi_wp2_with fail
    refine bodyPost_ret (results_none rfl _ _ _) rfl ?_
    exact ⟨⟨_,rfl⟩,.inr ⟨j+1,by rw [vM];omega,D8⟩⟩
  ·clear hY
   have hje:j=per:=by omega
   have KI:=au hje
   clear hje
   gi_wp2_with fail
   go_end0
   exact ⟨⟨_,rfl⟩,.inl (by rw [vM,<- KI.out];exact uU)⟩
def kH (per z base:Nat):List Nat:=(List.range per).map fun i=>base+i*z+1
theorem vN (per z base:Nat):(kH per z base).length=per:=by simp [kH]
theorem OI (j z base:Nat):kH (j+1) z base=kH j z base++[base+j*z+1]:=by simp [kH,List.range_succ]
structure Aw (w:World) (N O:Nat) (cf:List Value) (k B0 z base:Nat) (j:Nat) (W:World):Prop where
 keep:Keep none_ w W
 cf:aA W w.heap.size cf 23
 k:aA W (w.heap.size+1) [ah (k:Int)] 3
 b:aA W (w.heap.size+1+1) [ah (B0:Int)] 3
 big:N<=W.heap.size
 o:∃ v,aA W O [v] 32/\W.ownsRow N 3 1 v j ((kH j z base).map fun x:Nat => ah (x:Int))
theorem Aw.own {w:World} {N O:Nat} {cf:List Value} {k B0 z base B:Nat} (hB:w.heap.size<=B):OwnFrom B (Aw w N O cf k B0 z base):=by
 rintro j W W' row ⟨h1,h2,h3,h4,hN,v,h5,h6⟩ hg hr
 refine ⟨rJ (β:=Nat) hB j W W' row h1 hg hr,jE (β:=Nat) (cs:=fun _=>_) j W W' row h2 hg hr,jE (β:=Nat) (cs:=fun _=>_) j W W' row h3 hg hr,jE (β:=Nat) (cs:=fun _=>_) j W W' row h4 hg hr,Nat.le_trans hN hg.size,v,jE (β:=Nat) (cs:=fun _=>_) j W W' row h5 hg hr,?_⟩
 refine dY (S:=fun i=>row=some i) h6 ⟨hg.os,hg.tape,hg.output,hg.size,fun k hk n=>hg.block k hk (fun e=>n e.symm)⟩ (fun g hg' e=>?_)
 obtain ⟨_,_,ho,hc⟩:=hr g e
 obtain ⟨n,cap,rfl⟩:∃ n cap,v = .slice (some ⟨g,0,none⟩) n cap:=by
  obtain ⟨a,cap,rfl,_⟩:=dP (bD h6 (Nat.zero_le _))
  cases a with
  | none=>simp [Value.ownBlock] at hg'
  | some a =>
    rcases h6.2 with ⟨h,_⟩|⟨g2,cap2,cur2,hv,_⟩
    ·cases h
    ·cases hv
     simp [Value.ownBlock] at hg'
     subst hg'
     exact ⟨_,_,rfl⟩
 have h7:=bD h6 (Nat.zero_le _)
 have hn:n=j:=by
  rcases h6.2 with ⟨h,_⟩|⟨g2,cap2,cur2,hv,_⟩
  ·cases h
  ·cases hv;rfl
 subst hn
 obtain ⟨cur,hcur⟩:=Ui h7
 rw [hcur] at ho
 cases ho
 simp [Obj.isCells] at hc
theorem Aw.later {w:World} {N O:Nat} {cf:List Value} {k B0 z base j:Nat} {W W':World} (h:Aw w N O cf k B0 z base j W) (hk:Keep none_ W W'):Aw w N O cf k B0 z base j W':=by
 obtain ⟨v,h5,h6⟩:=h.o
 exact ⟨h.keep.trans hk,hk.blk h.cf (fun f=>f),hk.blk h.k (fun f=>f),hk.blk h.b (fun f=>f),Nat.le_trans h.big hk.size,v,hk.blk h5 (fun f=>f),bV h6 hk⟩
theorem jI {w:World} {e:TypeId} {v:Value} {n q:Nat} {xs:List Value} (h:w.ownsRow 0 e 1 v n xs) (hq:v.ownBlock=some q):∃ cur:Array Value,w.heap[q]?=some (.cells cur e (0,0)):=by
 rcases h.2 with ⟨rfl,_⟩|⟨g2,cap2,cur2,rfl,_,hg,_⟩
 ·simp [Value.ownBlock] at hq
 ·simp [Value.ownBlock] at hq
  subst hq
  exact ⟨_,hg⟩
theorem KJ {w:World} {e:TypeId} {base g n cap:Nat} {xs:List Value} (h:w.ownsRow 0 e 1 (.slice (some ⟨g,0,none⟩) n cap) n xs) (hg:base<=g):w.ownsRow base e 1 (.slice (some ⟨g,0,none⟩) n cap) n xs:=by
 refine ⟨h.1,?_⟩
 rcases h.2 with ⟨h,_⟩|⟨g',cap',cur,hv,_,rest⟩
 ·cases h
 ·cases hv
  exact .inr ⟨g,cap,cur,rfl,hg,rest⟩
end
section
def HS.eX (H:HS) (k:Nat):Nat × Nat × HS:=match H.row k with
 | []=>(0,12,H)
 | a::_=>(a,0,H.take k)
def jF (f:Int):Nat:=if f<0 then 0 else if f<=1 then 0 else if f<=3 then 1 else if f<=7 then 2 else if f<=15 then 3 else 0
def HS.slots (H:HS) (B:Nat):List Nat:=if H.K.getD B 0=0 then [] else kH (H.ww/2^H.K.getD B 0) (2^H.K.getD B 0) (B*H.ww)
def HS.dF (H:HS) (k:Nat):List Nat × Nat × HS:=match H.K.findIdx? (fun x=>x==0) with
 | none=>([],10,H)
 | some B=>((H.assign B k).slots B,0,H.assign B k)
def HS.fK (H:HS) (a:Nat):HS:=match H.owner a with
 | none=>H
 | some (_,k)=>if H.bn a||H.inn a then H else H.put a k
def HS.iy (H:HS) (a:Nat) (f:Int):HS:=match H.owner a with
 | none=>H
 | some (_,k)=>if H.hand a&&decide (0<=f)&&decide (jh k f.toNat) then H.begin a k f.toNat else H
def HS.jO (H:HS) (a c:Nat):HS:=if H.hand a&&decide (c<2)&&(H.hdr a).isSome then H.bear a (c==1) else H
def HS.fV (H:HS) (a:Nat):HS:=if H.bn a then (H.kill a).fK a else H
def HS.aV (H:HS) (a:Nat):Nat × Nat:=if H.lq a=0 then (H.nf a,0) else (0,H.lq a)
def HS.jk (H:HS) (a:Nat) (f:Int):Nat:=if H.lq a=0 then (if f<0\/(H.nf a:Int)<=f then 7 else 0) else H.lq a
def HS.bY (H:HS) (a:Nat) (f:Int):Nat:=if H.jk a f=0 then H.word (a+1+f.toNat) else 0
def HS.oI (H:HS) (a:Nat) (f:Int) (v:Nat):Nat:=if H.jk a f=0 then (if v<=H.n then 0 else 4) else H.jk a f
def HS.gu (H:HS) (a:Nat) (f:Int) (v:Nat):HS:=if H.oI a f v=0 then H.lay (a+1+f.toNat) v else H
def HS.dW (H:HS) (a:Nat):Nat:=if H.co a then 1 else 0
def HS.dX (H:HS) (a c:Nat):Bool:=H.bn a&&decide (c<2)&&(H.co a != (c==1))
def HS.bQ (H:HS) (a c:Nat):HS:=if H.dX a c then H.eu a (c==1) else H
def HS.kQ (H:HS) (i:Int):Nat:=if i<0\/(H.cells.length:Int)<=i then 9 else 0
def HS.cellP (H:HS) (i:Int):Nat:=if H.kQ i=0 then H.cells.getD i.toNat 0 else 0
def HS.wE (H:HS) (i:Int) (v:Nat):Nat:=if H.kQ i=0 then (if v<=H.n then 0 else 4) else 9
def HS.oG (H:HS) (i:Int) (v:Nat):HS:=if H.wE i v=0 then H.setCell i.toNat v else H
end
end Go.Proofs.YtanfphjoebobaaaGreatDoor
