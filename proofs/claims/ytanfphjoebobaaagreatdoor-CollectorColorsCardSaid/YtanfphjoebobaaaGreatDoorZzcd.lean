/- Parts of a walk, put together and made shorter by a program of mine. No conditions. -/
import Derived.Test.YtanfphjoebobaaaGreatDoorZzcb
import Derived.Test.YtanfphjoebobaaaGreatDoorZzca
import Derived.RangeFuncNested
import Derived.RangeFuncLeaves
import Derived.WalkKit
import Derived.OwnWalkIn
import Derived.TacticsInMore
import Derived.LoopNIn
import Derived.LoopIn
import Derived.Deep.OwnRows
import Derived.Test.YtanfphjoebobaaaGreatDoorRows
import Derived.WalkSpells
import Derived.WalkLawsBesides
import Derived.Lib.Hide
import Derived.ArgAppend
import Derived.Deep.DeepAppendRoom
namespace Go.Proofs.YtanfphjoebobaaaGreatDoor
set_option maxRecDepth 4000
set_option maxHeartbeats 2000000
section
open Go.RowKit
theorem mP {k:Nat} (h:k<4):2≤2^(k+1)∧2^(k+1)≤16:=by
 obtain rfl|rfl|rfl|rfl:k=0∨k=1∨k=2∨k=3:=by omega
 all_goals decide
theorem sV {b ww z B0 s j:Nat} (hz:2≤z∧z≤16) (hw:16≤ww∧ww≤256) (hB:B0<b) (hs:s<ww/z) (hj:j<z) :
 s*z+j<ww∧B0*ww+(s*z+j)<b*ww∧(B0*ww+(s*z+j))/ww=B0∧(s*z+j)/z=s∧(s*z+j)%z=j:=by
 have h1:(s+1)*z≤ww:=Nat.le_trans (Nat.mul_le_mul_right z (Nat.succ_le_of_lt hs)) (Nat.div_mul_le_self ww z)
 have h2:(s+1)*z=s*z+z:=by rw [Nat.add_mul,Nat.one_mul]
 have h3:(B0+1)*ww≤b*ww:=Nat.mul_le_mul_right ww (Nat.succ_le_of_lt hB)
 have h4:(B0+1)*ww=B0*ww+ww:=by rw [Nat.add_mul,Nat.one_mul]
 refine ⟨by omega,by omega,?_,?_,?_⟩
 ·rw [Nat.add_comm,Nat.add_mul_div_right _ _ (by omega),Nat.div_eq_of_lt (by omega),Nat.zero_add]
 ·rw [Nat.add_comm,Nat.add_mul_div_right _ _ (by omega),Nat.div_eq_of_lt hj,Nat.zero_add]
 ·rw [Nat.add_comm,Nat.add_mul_mod_self_right,Nat.mod_eq_of_lt hj]
theorem DX {M L s j z ww per:Nat} (hz:2≤z∧z≤16) (h4:L/z=s) (h5:L%z=j) (hL:L<ww) (hw:ww≤256) (hM:M≤1048576) (hs:s<per) :
 wrap64 (wrap64 (((M+L:Nat):Int)+1 - 1) - (M:Int))=(L:Int)∧wrap64 ((L:Int)/(z:Int))=(s:Int)∧wrap64 ((L:Int)%(z:Int))=(j:Int)∧(L:Int).tmod (z:Int)=(j:Int)∧(L:Int).tdiv (z:Int)=(s:Int)∧wrap64 ((L:Int).tdiv (z:Int))=(s:Int) ∧
 IntKind.i64.wrap (s:Int)=(s:Int)∧IntKind.i64.wrap (M:Int)=(M:Int)∧decide ((per:Int)≤(s:Int))=false∧((z:Int)==0)=false∧¬ (z:Int)=0∧¬ z=0∧(2:Int)≤(z:Int):=by
 have hs1:s≤L:=by rw [← h4];exact Nat.div_le_self _ _
 have hj1:j≤L:=by rw [← h5];exact Nat.mod_le _ _
 have e1:((L:Int)/(z:Int))=(s:Int):=by rw [← h4];simp
 have e2:((L:Int)%(z:Int))=(j:Int):=by rw [← h5];simp
 have e3:(L:Int).tmod (z:Int)=(j:Int):=by rw [Int.tmod_eq_emod_of_nonneg (by omega),e2]
 have e4:(L:Int).tdiv (z:Int)=(s:Int):=by rw [Int.tdiv_eq_ediv_of_nonneg (by omega),e1]
 rw [e1,e2,e3,e4]
 clear e1 e2 e3 e4 h4 h5
 refine ⟨?_,IntWalk.wrap64_in _ (by omega),IntWalk.wrap64_in _ (by omega),rfl,rfl,IntWalk.wrap64_in _ (by omega),IntWalk.i64_in _ (by omega),IntWalk.i64_in _ (by omega),decide_eq_false (by omega),by simp;omega,by omega,by omega,by omega⟩
 rw [show ((M+L:Nat):Int)+1 - 1=((M+L:Nat):Int) by omega,IntWalk.wrap64_in ((M+L:Nat):Int) (by omega),show ((M+L:Nat):Int) - (M:Int)=(L:Int) by omega,IntWalk.wrap64_in (L:Int) (by omega)]
theorem dK {P:Program} {f:Nat} {args:Array Value} {w:World} {p:Ending→Prop} (h:Calls P f args w fun e w'=>p e∧w=w'):Calls P f args w fun e w'=>p e∧w'=w:=h.mono fun _ _ k=>⟨k.1,k.2.symm⟩
section
variable {c:aB} {b ww:Nat} (hok:c.ok=true) (hb:c.b=b) (hw:c.w=ww)
include hok hb hw
theorem A8 (k B0 s j:Nat) (hk:k<4) (hB:B0<b) (hs:s<ww/2^(k+1)) (hj:j<2^(k+1)) (w:World) (hT:Tabs w) (hS:Sizes w):Calls Tryz.prog 197 #[.agg c.cells.toArray,.int .i64 (k:Int),.int .i64 (((B0*ww+(s*2^(k+1)+j):Nat):Int)+1)] w fun e w'=>e = .returned (.tuple #[.agg #[.int .i64 (B0:Int),.int .i64 (s:Int),.int .i64 (j:Int)],.bool true])∧Keep none_ w w':=by
 obtain ⟨W0,hW0⟩:∃ W',W'=(w.alloc (.cells c.cells.toArray 23)).alloc (.cells #[.int .i64 0,.int .i64 0,.int .i64 0] 229):=⟨_,rfl⟩
 have HK:Hid (Keep none_ w W0):=by rw [hW0];exact ((Keep.refl _ _).alloc _).alloc _
 have hn:=jm hok hb hw
 have hz:=mP hk
 obtain ⟨q1,q2,q3,q4,q5⟩:=sV (b:=b) hz ⟨hn.2.2.1,hn.2.2.2.1⟩ hB hs hj
 have HC:=Lib.hid (pF hok hb hw (B0*ww+(s*2^(k+1)+j)) q2 W0 (hT.keep HK.out))
 rw [q3] at HC
 have HB:=Lib.hid (show Blk W0 w.heap.size c.cells 23 by rw [hW0];exact (Blk.new w _ _).alloc _)
 have HO:Hid (Blk W0 (w.heap.size+1) [.int .i64 0,.int .i64 0,.int .i64 0] 229):=by
  rw [hW0]
  have h:=Blk.new (w.alloc (.cells c.cells.toArray 23)) [.int .i64 0,.int .i64 0,.int .i64 0] 229
  rw [World.size_alloc] at h
  exact h
 have hI:=fun W=>jv (k:Int) W
 have HZ:Hid (∀ W,Keep none_ w W→Calls Tryz.prog 201 #[.int .i64 (k:Int)] W fun e w'=>e = .returned (.int .i64 ((2^(k+1):Nat):Int))∧W=w'):=fun W hW=>by
  have h:=pq (k:Int) W (hS.keep hW)
  rw [yK hk] at h
  simpa using h
 have HP:Hid (∀ W,Keep none_ w W→Calls Tryz.prog 194 #[.int .i64 (ww:Int),.int .i64 (k:Int)] W fun e w'=>e = .returned (.int .i64 ((ww/2^(k+1):Nat):Int))∧W=w'):=fun W hW=>qQ ww k ⟨hn.2.2.1,hn.2.2.2.1⟩ hk W (hS.keep hW)
 have hkd:decide (0≤(k:Int)∧(k:Int)<4)=true:=decide_eq_true (by omega)
 simp only [hkd] at hI
 have HI:=Lib.hid hI
 clear hI
 obtain ⟨c0,c1,c2,c3,c4,c5,c6⟩:=c
 simp only at hb hw
 subst hb hw
 have hmul:(B0:Int)*(ww:Int)=((B0*ww:Nat):Int):=by simp
 have hM:B0*ww≤b*ww:=Nat.mul_le_mul_right _ (by omega)
 generalize s*2^(k+1)+j=L at *
 generalize 2^(k+1)=z at *
 generalize ww/z=per at *
 generalize b*ww=N at *
 generalize B0*ww=M at *
 obtain ⟨hleft,hq,hr,hr2,hq2,hm1,hs1,hmw,d1,hz0,hz1,hz2,hzI⟩:=DX hz q4 q5 (Nat.lt_of_le_of_lt (Nat.le_refl _) q1) hn.2.2.2.1 (Nat.le_trans hM hn.2.2.2.2) hs
 obtain ⟨aa,haa⟩:∃ aa:Int,aa=((M+L:Nat):Int)+1:=⟨_,rfl⟩
 rw [← haa] at HC hleft ⊢
 simp only [aB.cells] at *
 clear hT hS hok q1 q2 q3 q4 q5 hn hkd hs hj hM haa
 go_enter Tryz.func197,Tryz.ntmps197
 go_wp2_with fail
 rw [← hW0]
 clear hW0
 refine HC.out.mono ?_
 rintro e w1 ⟨rfl,hk1⟩
 have HK1:=Lib.hid (HK.out.trans hk1)
 have HO1:=Lib.hid (hk1.blk HO.out (fun f=>f))
 have HB1:=Lib.hid (hk1.blk HB.out (fun f=>f))
 have y1:=(hk1.blk HB.out (fun f=>f)).cell 1 rfl
 clear hk1 HK HC HB HO
 go_wp2_with (go_at_call 198;refine (HI.out _).mono ?_;rintro e w2 ⟨rfl,rfl⟩)
 go_region_held3 (fun w'=>Keep none_ w1 w')
  (first | exact Keep.refl _ _ | exact (Keep.refl _ _).drew | exact (Keep.refl _ _).drew.alloc _ | assumption | exact Keep.alloc (by assumption) _ | fail "iw")
  ((go_at_call 201
    refine (HZ.out _ (HK1.out.trans (by first | assumption | exact Keep.alloc (by assumption) _ | exact (Keep.refl _ _).drew | exact (Keep.refl _ _).drew.alloc _ | fail "jc"))).mono ?_
    rintro e w2 ⟨rfl,rfl⟩))
 all_goals
  obtain ⟨W2,hW2⟩:∃ W',W'=(w1.alloc (.cells #[.int .i64 (B0:Int),.int .i64 (s:Int),.int .i64 (j:Int)] 229)).drew:=⟨_,rfl⟩
  rw [← hW2]
  have HK2:Hid (Keep none_ w W2):=by rw [hW2];exact (HK1.out.alloc _).drew
  have hp2:Blk W2 w1.heap.size [.int .i64 (B0:Int),.int .i64 (s:Int),.int .i64 (j:Int)] 229:=by rw [hW2];exact (Blk.new w1 _ _).drew
  have ho2:Blk W2 (w.heap.size+1) [.int .i64 0,.int .i64 0,.int .i64 0] 229:=by rw [hW2];exact (HO1.out.alloc _).drew
  have hb2:=show Blk W2 w.heap.size _ 23 by rw [hW2];exact (HB1.out.alloc _).drew
  have hlt:w.heap.size+1<w1.heap.size:=HO1.out.lt
  have hOg:w.heap.size≤w.heap.size+1:=by omega
  clear hW2 y1 HB1 HO1 HK1 HZ hr hr2 hq hq2 hm1 hs1 hleft hmul hmw hz0 hz1 hz2 hzI
  generalize w1.heap.size=D at *
  generalize w.heap.size+1=O at *
  have y1:=hb2.cell 1 rfl
  have p0:=hp2.cell 0 rfl;have p1:=hp2.cell 1 rfl;have p2:=hp2.cell 2 rfl
  have o0:=ho2.cell 0 rfl;have o1:=ho2.cell 1 rfl;have o2:=ho2.cell 2 rfl
  have f0:=ho2.free 0;have f1:=ho2.free 1;have f2:=ho2.free 2
  have DY:=Lib.hid ho2
  have SH:=Lib.hid hp2
  clear hp2 ho2 hb2
  go_wp2_with fail
  go_quiet (first|(go_at_call 194;exact Calls.quiet_of_same (dK (HP.out _ (HK2.out.drewN _)))))
  obtain ⟨W3,hW3⟩:∃ W',W'=W2.drewN nq:=⟨_,rfl⟩
  rw [← hW3]
  have HK3:Hid (Keep none_ w W3):=by rw [hW3];exact HK2.out.drewN _
  have h23:Keep none_ W2 W3:=by rw [hW3];exact (Keep.refl _ _).drewN _
  have hp3:=h23.blk SH.out (fun f=>f)
  have ho3:=h23.blk DY.out (fun f=>f)
  clear hW3 h23 y1 p0 p1 p2 o0 o1 o2 f0 f1 f2 SH DY HK2
  have p0:=hp3.cell 0 rfl;have p1:=hp3.cell 1 rfl;have p2:=hp3.cell 2 rfl
  have o0:=ho3.cell 0 rfl;have o1:=ho3.cell 1 rfl;have o2:=ho3.cell 2 rfl
  have f0:=ho3.free 0;have f1:=ho3.free 1;have f2:=ho3.free 2
  have HO3:=Lib.hid ho3
  clear hp3 ho3
  have d2:¬ (per≤s):=fun h=>absurd (decide_eq_true (Int.ofNat_le.2 h)) (by rw [d1];decide)
  go_wp2_with fail
  obtain ⟨W4,hW4⟩:∃ W',W'=(((W3.setCell ⟨O,0,none⟩ (.int .i64 (B0:Int))).setCell ⟨O,1,none⟩ (.int .i64 (s:Int))).setCell ⟨O,2,none⟩ (.int .i64 (j:Int))):=⟨_,rfl⟩
  rw [← hW4]
  have hF:Blk W4 O [.int .i64 (B0:Int),.int .i64 (s:Int),.int .i64 (j:Int)] 229:=by rw [hW4];exact ((HO3.out.set 0 _).set 1 _).set 2 _
  have k0:=hF.cell 0 rfl;have k1:=hF.cell 1 rfl;have k2:=hF.cell 2 rfl
  have hk4:Keep none_ w W4:=by
   rw [hW4]
   exact HK3.out.trans' (((((Keep.refl (only O) W3).put 0 _).put 1 _).put 2 _)) (fun i hi e=>absurd hi (by unfold only at e;omega))
  refine bodyPost_ret (v := .tuple #[.agg #[.int .i64 (B0:Int),.int .i64 (s:Int),.int .i64 (j:Int)],.bool true]) (by simp [results,Tryz.f197,go_sem,k0,k1,k2]) rfl ⟨rfl,hk4⟩
end
section
variable {c:aB} {b ww:Nat} (hok:c.ok=true) (hb:c.b=b) (hw:c.w=ww)
include hok hb hw
theorem QW (k B0 s:Nat) (hk:k<4) (hB:B0<b) (hs:s<ww/2^(k+1)) (w:World) (hT:Tabs w) (hS:Sizes w):Calls Tryz.prog 195 #[.agg c.cells.toArray,.int .i64 (k:Int),.agg #[.int .i64 (B0:Int),.int .i64 (s:Int),.int .i64 0]] w fun e w'=>e = .returned (.tuple #[.int .i64 (((B0*ww+s*2^(k+1):Nat):Int)+1),.bool true])∧Keep none_ w w':=by
 obtain ⟨W0,hW0⟩:∃ W',W'=(w.alloc (.cells c.cells.toArray 23)).alloc (.cells #[.int .i64 (B0:Int),.int .i64 (s:Int),.int .i64 0] 229):=⟨_,rfl⟩
 have HK:Hid (Keep none_ w W0):=by rw [hW0];exact ((Keep.refl _ _).alloc _).alloc _
 have hn:=jm hok hb hw
 have hz:=mP hk
 obtain ⟨q1,q2,q3,q4,q5⟩:=sV (b:=b) (j:=0) hz ⟨hn.2.2.1,hn.2.2.2.1⟩ hB hs (by omega)
 have HR:=Lib.hid (qP c W0 (hT.keep HK.out))
 rw [hok] at HR
 have HB:=Lib.hid (show Blk W0 w.heap.size c.cells 23 by rw [hW0];exact (Blk.new w _ _).alloc _)
 have HO:Hid (Blk W0 (w.heap.size+1) [.int .i64 (B0:Int),.int .i64 (s:Int),.int .i64 0] 229):=by
  rw [hW0]
  have h:=Blk.new (w.alloc (.cells c.cells.toArray 23)) [.int .i64 (B0:Int),.int .i64 (s:Int),.int .i64 0] 229
  rw [World.size_alloc] at h
  exact h
 have hI:=fun W=>jv (k:Int) W
 have hkd:decide (0≤(k:Int)∧(k:Int)<4)=true:=decide_eq_true (by omega)
 simp only [hkd] at hI
 have HI:=Lib.hid hI
 have HZ:Hid (∀ W,Keep none_ w W→Calls Tryz.prog 201 #[.int .i64 (k:Int)] W fun e w'=>e = .returned (.int .i64 ((2^(k+1):Nat):Int))∧W=w'):=fun W hW=>by
  have h:=pq (k:Int) W (hS.keep hW)
  rw [yK hk] at h
  simpa using h
 have HP:Hid (∀ W,Keep none_ w W→Calls Tryz.prog 194 #[.int .i64 (ww:Int),.int .i64 (k:Int)] W fun e w'=>e = .returned (.int .i64 ((ww/2^(k+1):Nat):Int))∧W=w'):=fun W hW=>qQ ww k ⟨hn.2.2.1,hn.2.2.2.1⟩ hk W (hS.keep hW)
 obtain ⟨c0,c1,c2,c3,c4,c5,c6⟩:=c
 simp only at hb hw
 subst hb hw
 have hmul:(B0:Int)*(ww:Int)=((B0*ww:Nat):Int):=by simp
 have hmul2:(s:Int)*((2^(k+1):Nat):Int)=((s*2^(k+1):Nat):Int):=by rw [Int.natCast_mul]
 have hM:B0*ww≤b*ww:=Nat.mul_le_mul_right _ (by omega)
 rw [Nat.add_zero] at q1 q2 q3 q4 q5
 generalize s*2^(k+1)=L at *
 generalize 2^(k+1)=z at *
 generalize ww/z=per at *
 generalize b*ww=N at *
 generalize B0*ww=M at *
 have e1:IntKind.i64.wrap (1+(M:Int))=1+(M:Int):=IntWalk.i64_in _ (by omega)
 have e2:IntKind.i64.wrap (1+(M:Int)+(L:Int))=((M+L:Nat):Int)+1:=by rw [IntWalk.i64_in _ (by omega)];omega
 have e3:IntKind.i64.wrap (M:Int)=(M:Int):=IntWalk.i64_in _ (by omega)
 have e4:IntKind.i64.wrap (L:Int)=(L:Int):=IntWalk.i64_in _ (by omega)
 have e5:IntKind.i64.wrap (((M+L:Nat):Int)+1)=((M+L:Nat):Int)+1:=IntWalk.i64_in _ (by omega)
 obtain ⟨R,hR⟩:∃ R:Int,R=((M+L:Nat):Int)+1:=⟨_,rfl⟩
 rw [← hR] at e2 e5 ⊢
 have d1:decide ((b:Int)≤(B0:Int))=false:=decide_eq_false (by omega)
 have d2:decide ((per:Int)≤(s:Int))=false:=decide_eq_false (fun h=>absurd hs (Nat.not_lt.2 (Int.ofNat_le.1 h)))
 have d3:decide ((z:Int)≤0)=false:=decide_eq_false (fun h=>by have:=hz.1;omega)
 have n1:decide (b≤B0)=false:=decide_eq_false (by omega)
 have n2:decide ((B0:Int)<0)=false:=decide_eq_false (by omega)
 have n3:decide (per≤s)=false:=decide_eq_false (Nat.not_le.2 hs)
 have n4:decide ((s:Int)<0)=false:=decide_eq_false (by omega)
 have n5:¬ z=0:=fun h=>by have:=hz.1;omega
 have n6:¬ (b≤B0):=by omega
 have n7:¬ (per≤s):=Nat.not_le.2 hs
 simp only [aB.cells] at *
 clear hT hS hok q1 q2 q3 q4 q5 hn hkd hs hM hR hI hz hk hB
 go_enter Tryz.func195,Tryz.ntmps195
 go_wp2_with fail
 rw [← hW0]
 clear hW0
 refine HR.out.mono ?_
 rintro e w1 ⟨rfl,hk1⟩
 have HK1:=Lib.hid (HK.out.trans hk1)
 have HO1:=Lib.hid (hk1.blk HO.out (fun f=>f))
 have HB1:=Lib.hid (hk1.blk HB.out (fun f=>f))
 clear hk1 HK HR HB HO
 have y0:=HB1.out.cell 0 rfl
 have y1:=HB1.out.cell 1 rfl
 have o0:=HO1.out.cell 0 rfl;have o1:=HO1.out.cell 1 rfl;have o2:=HO1.out.cell 2 rfl
 go_wp2_with (go_at_call 198;refine (HI.out _).mono ?_;rintro e w2 ⟨rfl,rfl⟩)
 go_quiet (first|(go_at_call 194;exact Calls.quiet_of_same (dK (HP.out _ (HK1.out.drewN _)))))
 obtain ⟨W2,hW2⟩:∃ W',W'=w1.drewN nq:=⟨_,rfl⟩
 rw [← hW2]
 have HK2:Hid (Keep none_ w W2):=by rw [hW2];exact HK1.out.drewN _
 have hkd:Keep none_ w1 W2:=by rw [hW2];exact (Keep.refl _ _).drewN _
 have HO2:=Lib.hid (hkd.blk HO1.out (fun f=>f))
 have HB2:=Lib.hid (hkd.blk HB1.out (fun f=>f))
 clear hkd
 clear hW2 HK1 HO1 HB1 y0 y1 o0 o1 o2
 have y0:=HB2.out.cell 0 rfl
 have y1:=HB2.out.cell 1 rfl
 have o0:=HO2.out.cell 0 rfl;have o1:=HO2.out.cell 1 rfl;have o2:=HO2.out.cell 2 rfl
 go_wp2_with fail
 go_quiet (first|(go_at_call 201;exact Calls.quiet_of_same (dK (HZ.out _ (HK2.out.drewN _)))))
 obtain ⟨W3,hW3⟩:∃ W',W'=W2.drewN nq:=⟨_,rfl⟩
 rw [← hW3]
 have HK3:Hid (Keep none_ w W3):=by rw [hW3];exact HK2.out.drewN _
 have hkd:Keep none_ W2 W3:=by rw [hW3];exact (Keep.refl _ _).drewN _
 have HO3:=Lib.hid (hkd.blk HO2.out (fun f=>f))
 have HB3:=Lib.hid (hkd.blk HB2.out (fun f=>f))
 clear hkd
 clear hW3 HK2 HO2 HB2 y0 y1 o0 o1 o2
 have y0:=HB3.out.cell 0 rfl
 have y1:=HB3.out.cell 1 rfl
 have o0:=HO3.out.cell 0 rfl;have o1:=HO3.out.cell 1 rfl;have o2:=HO3.out.cell 2 rfl
 go_wp2_with fail
 go_quiet (first|(go_at_call 201;exact Calls.quiet_of_same (dK (HZ.out _ (HK3.out.drewN _)))))
 obtain ⟨W4,hW4⟩:∃ W',W'=W3.drewN nq:=⟨_,rfl⟩
 rw [← hW4]
 have HK4:Hid (Keep none_ w W4):=by rw [hW4];exact HK3.out.drewN _
 have hkd:Keep none_ W3 W4:=by rw [hW4];exact (Keep.refl _ _).drewN _
 have HO4:=Lib.hid (hkd.blk HO3.out (fun f=>f))
 have HB4:=Lib.hid (hkd.blk HB3.out (fun f=>f))
 clear hkd
 clear hW4 HK3 HO3 HB3 y0 y1 o0 o1 o2
 have y0:=HB4.out.cell 0 rfl
 have y1:=HB4.out.cell 1 rfl
 have o0:=HO4.out.cell 0 rfl;have o1:=HO4.out.cell 1 rfl;have o2:=HO4.out.cell 2 rfl
 go_wp2_with fail
 go_ret2
 exact ⟨rfl,HK4.out⟩
end
end
section
open Go.RowKit
structure Holds (G:Nat→Prop) (W W':World):Prop where
 size:W.heap.size≤W'.heap.size
 same:∀ b,G b→W'.heap[b]?=W.heap[b]?
theorem Holds.refl (G:Nat→Prop) (W:World):Holds G W W:=⟨Nat.le_refl _,fun _ _=>rfl⟩
theorem Holds.trans {G:Nat→Prop} {A B C:World} (h:Holds G A B) (k:Holds G B C):Holds G A C:=⟨Nat.le_trans h.size k.size,fun b hb=>(k.same b hb).trans (h.same b hb)⟩
theorem Holds.putObj {G:Nat→Prop} (W:World) (l:Nat) (o:Obj) (hl:¬ G l):Holds G W (W.putObj l o):=⟨by simp,fun b hb=>World.putObj_heap_other (fun e=>hl (e▸hb))⟩
theorem Holds.mZ {G S:Nat→Prop} {W W':World} (k:Keep S W W') (hG:∀ b,G b→b<W.heap.size∧¬ S b):Holds G W W':=⟨k.size,fun b hb=>k.block b (hG b hb).1 (hG b hb).2⟩
theorem Holds.blk {G:Nat→Prop} {W W':World} (h:Holds G W W') {B cs T} (hB:G B) (hb:Blk W B cs T):Blk W' B cs T:=by
 unfold Blk at *
 rw [h.same B hB];exact hb
def DC (I:World→Prop):Prop:=∀ W W',I W→Keep none_ W W'→I W'
def xH {α:Type} (F:Fence) (n:Nat) (P:Program) (g:Nat) (lb:Array Value) (all:List α) (Enc:World→α→Array Value→Prop) (G:Nat→Prop) (w:World):Prop :=
 ∀ (l:Nat) (J Jx:Nat→World→Prop) (W:World),Keep none_ w W→(∀ k,DC (J k))→(∀ k,DC (Jx k)) →
  (∀ (k:Nat) (x:α) (args:Array Value) (W1:World),all[k]?=some x→J k W1→Enc W1 x args→YieldAt F (n - 1) P l args W1 fun e W' =>
   (e = .returned (.bool true)∧J (k+1) W'∧Holds G W1 W')∨(e = .returned (.bool false)∧Jx (k+1) W')) →
  J 0 W →
  CallsIn F n P g (#[.func (.yield l) #[] #[]]++lb) W fun e W'=>(∃ v,e = .returned v)∧(J all.length W'∨∃ k,k≤all.length∧Jx k W')
def roundEnd (B:Nat) (G:Nat→Prop) (I:Nat→World→Prop) (Ix:Code→Nat→World→Prop) (k:Nat) (W:World):Exit→Act→World→Prop
 | .normal,_,W'=>KeepsFrom B W W'∧Holds G W W'∧I k W'
 | .ret,_,W'=>KeepsFrom B W W'∧Ix .ret k W'
 | .exit id,_,W'=>KeepsFrom B W W'∧Ix (.exit id) k W'
 | .goto t,_,W'=>KeepsFrom B W W'∧Ix (.goto t) k W'
 | .panic _,_,_=>False
 | .outgrown,_,_=>False
theorem ng {β:Type} {S:Nat→Prop} {w:World} {B:Nat} (hB:w.heap.size≤B):OwnFrom B (fun (_:β) W=>Keep S w W):=by
 rintro s W W' row h hg hr
 exact h.trans' (T:=fun i=>row=some i) ⟨hg.os,hg.tape,hg.output,hg.size,fun k hk n=>hg.block k hk (fun e=>n e.symm)⟩ (fun i hi e=>absurd (hr i e).1 (by omega))
theorem iy {β:Type} {b B:Nat} {cs:β→List Value} {T:TypeId}:OwnFrom B (fun (s:β) W=>Blk W b (cs s) T):=by
 rintro s W W' row h hg hr
 have hlt:=h.lt
 unfold Blk at *
 rw [hg.block b hlt (fun e=>?_)]
 ·exact h
 ·obtain ⟨_,_,ho,hc⟩:=hr b e.symm
  rw [h] at ho
  cases ho
  simp [Obj.isCells] at hc
theorem KeepsFrom.mZ {B:Nat} {W W':World} (k:Keep none_ W W'):KeepsFrom B W W' :=
 ⟨k.size,fun i _ _ h _=>(k.block i (Array.getElem?_eq_some_iff.1 h).1 (fun f=>f)).trans h⟩
theorem Keep.takeDeferred {S:Nat→Prop} {w0 W:World} (h:Keep S w0 W) {D:Nat} (hD:w0.heap.size≤D) (o:Obj):Keep S w0 (W.putObj D o) :=
 h.trans' (T:=fun i=>i=D) ⟨rfl,rfl,rfl,by simp,fun k _ n=>World.putObj_heap_other n⟩ (fun i hi e=>absurd hi (by omega))
theorem Blk.putObj {W:World} {b:Nat} {cs:List Value} {T:TypeId} (h:Blk W b cs T) {D:Nat} {o o':Obj} (hD:W.heap[D]?=some o) (ho:o.isCells=false):Blk (W.putObj D o') b cs T:=by
 unfold Blk at *
 rw [World.putObj_heap_other (fun e=>by subst e;rw [h] at hD;cases hD;simp [Obj.isCells] at ho)];exact h
variable {F:Fence} {n:Nat} {P:Program}
theorem zW {α:Type} {g:Operand} {ps:Array Tmp} {assign body:Code} {Q:Exit→Act→World→Prop} {a:Act} {w:World}
 (hro:F.round=none) (h1:1≤n) {gf:Nat} {lb:Array Value} (hg:a.eval g = .func (.func gf) #[] lb) (hFg:F.fn gf) (eg:∀ args w,(callFunc gf args).run P w = .ok (.enter gf args) w)
 {all:List α} {Enc:World→α→Array Value→Prop} {G:Nat→Prop} (hseq:xH F (n - 1) P gf lb all Enc G w)
 (hG:∀ b,G b→b<w.heap.size) (hps:∀ W x args,Enc W x args→args.size=ps.size)
 (I:Nat→World→Prop) (Ix:Code→Nat→World→Prop) (hI:OwnFrom w.heap.size I) (hIx:∀ c,OwnFrom w.heap.size (Ix c)) (h0:I 0 w)
 (DZ:∀ (l:Nat) (k:Nat) (x:α) (args:Array Value) (W:World),all[k]?=some x→Enc W x args→I k W →
  assign.wpIn (F.inRound l) (n - 1 - 1) P (Exit.then (fun a₁ W₁=>∃ J:World→Prop,KeepsFrom w.heap.size W W₁∧Holds G W W₁∧J W₁∧OwnFrom w.heap.size (fun (_:Unit) W=>J W) ∧
   ∀ W₂,J W₂→body.wpIn (F.inRound l) (n - 1 - 1) P (roundEnd w.heap.size G I Ix (k+1) W₂) a₁ W₂) (fun _ _ _=>False))
   { tmps:=(ps.zip args).foldl (fun t (p,v)=>t.setIfInBounds p v) a.tmps,defers:=[] } W)
 (hdone:∀ (D:Nat) (W:World),w.heap.size≤D→I all.length W→W.heap[D]?=some (.deferred (some []))→Q .normal { a with defers:={ target := .collected D,args:=#[] }::a.defers } W)
 (hstop:∀ (D:Nat) (c:Code) (k:Nat) (W:World),w.heap.size≤D→k≤all.length→Ix c k W→W.heap[D]?=some (.deferred (some []))→c.wpIn F n P Q { a with defers:={ target := .collected D,args:=#[] }::a.defers } W) :
 (Code.rangeFunc g ps assign body).wpIn F n P Q a w:=by
 refine wpIn_rangeFunc fun fn hfn=>?_
 rw [hro]
 let jA:LoopState→Option Code→Loop:=fun st pe=>{ state:=st,pending:=pe,fn,tmps:=a.tmps,params:=ps,assign,body,defers:=w.heap.size }
 let D:=w.heap.size
 let L:=w.heap.size+1
 let W1:=(w.alloc (.deferred (some []))).alloc (.loop (jA .ready none))
 have kW1:Keep none_ w W1:=((Keep.refl _ _).alloc _).alloc _
 have sW1:W1.heap.size=w.heap.size+2:=by simp [W1]
 have eL:W1.heap[L]?=some (.loop (jA .ready none)):=by
  have:=World.alloc_heap_new (w.alloc (.deferred (some []))) (.loop (jA .ready none))
  rwa [World.size_alloc] at this
 have eD:W1.heap[D]?=some (.deferred (some [])):=(Below.heap_alloc _ _ _ (by simp [D])).trans (World.alloc_heap_new w _)
 have grow:∀ {β:Type} {B:Nat} {K:β→World→Prop},OwnFrom B K→∀ {s:β} {A C:World},K s A→Keep none_ A C→K s C:=by
  intro β B K hK s A C hs k
  exact hK s A C none hs ⟨k.os,k.tape,k.output,k.size,fun i hi _=>k.block i hi (fun f=>f)⟩ (fun _ e=>by cases e)
 have hlG:¬ G L:=fun h=>by have:=hG _ h;simp [L] at this;omega
 refine ⟨L,[{ target := .collected D,args:=#[] }],W1,{ target := .fn (.func gf) lb,args:=#[.func (.yield L) #[] #[]] },W1,gf,#[.func (.yield L) #[] #[]]++lb,W1,run_enterLoop_outer _ _ _ _ _,?_,?_,?_,fun _=>h1,?_⟩
 ·simp only [resolve,hg];simp [go_sem]
 ·intro f' hf';simp [Target.leads] at hf';subst hf';exact hFg
 ·simp [invoke,go_sem,eg]
 refine (hseq L (fun k W=>I k W∧W.heap[L]?=some (.loop (jA .ready none))∧W.heap[D]?=some (.deferred (some [])))
  (fun k W=>∃ c,Ix c k W∧W.heap[L]?=some (.loop (jA .done (some c)))∧W.heap[D]?=some (.deferred (some []))) W1 kW1 ?_ ?_ ?_ ⟨grow hI h0 kW1,eL,eD⟩).mono ?_
 ·rintro k A C ⟨h,hl,hd⟩ kk
  exact ⟨grow hI h kk,(kk.block L (Array.getElem?_eq_some_iff.1 hl).1 (fun f=>f)).trans hl,(kk.block D (Array.getElem?_eq_some_iff.1 hd).1 (fun f=>f)).trans hd⟩
 ·rintro k A C ⟨c,h,hl,hd⟩ kk
  exact ⟨c,grow (hIx c) h kk,(kk.block L (Array.getElem?_eq_some_iff.1 hl).1 (fun f=>f)).trans hl,(kk.block D (Array.getElem?_eq_some_iff.1 hd).1 (fun f=>f)).trans hd⟩
 ·
  rintro k x args W hx ⟨hi,hl,hd⟩ henc
  refine ⟨fn,_,assign,body,run_yield hl (hps _ _ _ henc),roundIn_of_wpIn hfn (wpIn_mono (DZ L k x args W hx henc hi) ?_)⟩
  rintro e a1 Wa hp1
  cases e<;>try exact hp1.elim
  obtain ⟨Jr,kr,gr,jr,hJr,hbd⟩:=hp1
  have hla:=kr.same L _ (by simp [L]) hl rfl
  have hda:=kr.same D _ (Nat.le_refl _) hd rfl
  have hlt:=(Array.getElem?_eq_some_iff.1 hla).1
  refine ⟨_,run_beginRound hla rfl,?_⟩
  let W2:=Wa.putObj L (.loop { jA .ready none with state := .busy })
  have hl2:W2.heap[L]?=some (.loop { jA .ready none with state := .busy }):=World.putObj_heap_same hlt
  have hd2:W2.heap[D]?=some (.deferred (some [])):=(World.putObj_heap_other (by simp [D,L])).trans hda
  have hj2:Jr W2:=hJr.putObj (s:=()) _ jr (by simp [L]) hla rfl
  refine wpIn_mono (hbd W2 hj2) ?_
  have fin:∀ (j:Option Code) (W3:World),KeepsFrom w.heap.size W2 W3→∃ W4:World,(Instr.endRound L j).run P W3 = .ok (.bool j.isNone) W4∧W4=W3.putObj L (.loop (jA (if j.isNone then .ready else .done) j)) ∧
   (∃ o:Obj,W3.heap[L]?=some o∧o.isCells=false)∧W4.heap[L]?=some (.loop (jA (if j.isNone then .ready else .done) j))∧W4.heap[D]?=some (.deferred (some [])):=fun j W3 k3=>by
   have hl3:=k3.same L _ (by simp [L]) hl2 rfl
   exact ⟨_,run_endRound j hl3,rfl,⟨_,hl3,rfl⟩,World.putObj_heap_same (Array.getElem?_eq_some_iff.1 hl3).1,(World.putObj_heap_other (by simp [D,L])).trans (k3.same D _ (Nat.le_refl _) hd2 rfl)⟩
  rintro e a3 W3 hp
  cases e with
  | normal =>
    obtain ⟨k3,g3,i3⟩:=hp
    obtain ⟨W4,hr,rfl,⟨o,ho,hoc⟩,hl4,hd4⟩:=fin none W3 k3
    exact ⟨_,_,hr,.inl ⟨rfl,⟨hI.putObj _ i3 (by simp [L]) ho hoc,hl4,hd4⟩,((gr.trans (Holds.putObj Wa L _ hlG)).trans g3).trans (Holds.putObj W3 L _ hlG)⟩⟩
  | ret =>
    obtain ⟨k3,i3⟩:=hp
    obtain ⟨W4,hr,rfl,⟨o,ho,hoc⟩,hl4,hd4⟩:=fin (some .ret) W3 k3
    exact ⟨_,_,hr,.inr ⟨rfl,.ret,(hIx _).putObj _ i3 (by simp [L]) ho hoc,hl4,hd4⟩⟩
  | exit id =>
    obtain ⟨k3,i3⟩:=hp
    obtain ⟨W4,hr,rfl,⟨o,ho,hoc⟩,hl4,hd4⟩:=fin (some (.exit id)) W3 k3
    exact ⟨_,_,hr,.inr ⟨rfl,.exit id,(hIx _).putObj _ i3 (by simp [L]) ho hoc,hl4,hd4⟩⟩
  | goto t =>
    obtain ⟨k3,i3⟩:=hp
    obtain ⟨W4,hr,rfl,⟨o,ho,hoc⟩,hl4,hd4⟩:=fin (some (.goto t)) W3 k3
    exact ⟨_,_,hr,.inr ⟨rfl,.goto t,(hIx _).putObj _ i3 (by simp [L]) ho hoc,hl4,hd4⟩⟩
  | panic ch=>exact hp.elim
  | outgrown=>exact hp.elim
 ·
  rintro e W ⟨⟨v,rfl⟩,(⟨hi,hl,hd⟩|⟨k,hk,c,hi,hl,hd⟩)⟩
  ·exact ⟨none,_,run_endLoop hl (by simp [jA]),hdone D _ (Nat.le_refl _) (hI.putObj _ hi (by simp [L]) hl rfl) ((World.putObj_heap_other (by simp [D,L])).trans hd)⟩
  ·exact ⟨some c,_,run_endLoop hl (by simp [jA]),hstop D c k _ (Nat.le_refl _) hk ((hIx c).putObj _ hi (by simp [L]) hl rfl) ((World.putObj_heap_other (by simp [D,L])).trans hd)⟩
end
section
open Go.RowKit Go.Deep
theorem Keep.grown {S:Nat→Prop} {w0 w w':World} {row:Option Nat} (h:Keep S w0 w) (g:w.grownBy w' row) (hr:∀ k,row=some k→k<w0.heap.size→S k):Keep S w0 w' :=
 h.trans' (T:=fun i=>row=some i) ⟨g.os,g.tape,g.output,g.size,fun k hk n=>g.block k hk (fun e=>n e.symm)⟩ (fun i hi e=>hr i e hi)
theorem Keep.grew {w0 w w':World} {base n size:Nat} {e:TypeId} {v:Value} {xs:List Value} (h:Keep none_ w0 w) (hown:w.ownsRow base e size v n xs) (hb:w0.heap.size≤base) (g:w.grownBy w' v.ownBlock):Keep none_ w0 w' :=
 h.grown g (fun k hk hl=>by have:=(hown.lt k hk).1;omega)
theorem Blk.grown {w w':World} {B:Nat} {cs:List Value} {T:TypeId} {row:Option Nat} (h:Blk w B cs T) (g:w.grownBy w' row) (hne:row≠some B):Blk w' B cs T:=by
 have hlt:=h.lt
 unfold Blk at *
 rw [g.block B hlt (fun e=>hne e.symm)];exact h
theorem own_ne {w:World} {B:Nat} {cs:List Value} {T e:TypeId} {base n size:Nat} {v:Value} {xs:List Value} (hb:Blk w B cs T) (h:w.ownsRow base e size v n xs) (hne:e≠T):v.ownBlock≠some B:=by
 rcases h.2 with ⟨rfl,_⟩|⟨g,cap,cur,rfl,_,hg,_⟩
 ·simp [Value.ownBlock]
 ·intro hx
  simp [Value.ownBlock] at hx
  subst hx
  unfold Blk at hb
  rw [hg] at hb
  simp at hb
  exact hne hb.2
theorem fD {w w':World} {S:Nat→Prop} {e:TypeId} {base n size:Nat} {v:Value} {xs:List Value} (h:w.ownsRow base e size v n xs) (k:Keep S w w') (hne:∀ B,v.ownBlock=some B→¬ S B):w'.ownsRow base e size v n xs:=by
 refine ⟨h.1,?_⟩
 rcases h.2 with hn|⟨g,cap,cur,rfl,hb,hg,rest⟩
 ·exact .inl hn
 ·refine .inr ⟨g,cap,cur,rfl,hb,?_,rest⟩
  rw [k.block g (Array.getElem?_eq_some_iff.1 hg).1 (hne g rfl)]
  exact hg
theorem dP {w:World} {base base' n size:Nat} {e:TypeId} {v:Value} {xs:List Value} (h:w.ownsRow base e size v n xs) (hb:base'≤base):w.ownsRow base' e size v n xs:=by
 refine ⟨h.1,?_⟩
 rcases h.2 with hn|⟨g,cap,cur,rfl,hg,rest⟩
 ·exact .inl hn
 ·exact .inr ⟨g,cap,cur,rfl,Nat.le_trans hb hg,rest⟩
theorem fA {w w':World} {base n size:Nat} {e:TypeId} {v:Value} {xs:List Value} (h:w.ownsRow base e size v n xs) (k:Keep none_ w w'):w'.ownsRow base e size v n xs:=fD h k (fun _ _ f=>f)
section
variable {P:Program} {w:World}
def zeros (z:Value) (n:Nat):List Value:=List.replicate n z
theorem LD (z:Value) (n:Nat):(zeros z n).length=n:=by simp [zeros]
theorem I4 (z:Value) (n:Nat):madeCells #[z] n=(zeros z n).toArray:=by
 apply Array.ext
 ·simp [madeCells,zeros]
 ·intro i h1 h2
  simp [madeCells,zeros,Nat.mod_one]
theorem run_mk {T e:TypeId} {z:Value} {bytes:Nat} (ht:P.underlying T=some (.slice e)) (hi:(P.info? e).map (fun i=>(i.zero,i.size,i.bytes))=some (some z,1,bytes)) (hz:z.cells=#[z]) (hb:bytes≤1000)
 (n:Nat) (hn:n≤100000000000) (L:Int) (hL:L=n) (w:World) :
 (Instr.makeSlice T (.int .i64 L) (.int .i64 L)).run P w = .ok (.slice (some ⟨w.heap.size,0,none⟩) n n) (w.alloc (.cells (zeros z n).toArray e)):=by
 subst hL
 rw [← I4]
 exact run_make_row' T e z bytes ht hi hz .i64 .i64 n (Nat.le_trans (Nat.mul_le_mul hb hn) (by decide)) (by omega) w
end
end
section
open Go.RowKit
def D6 (w:World) (T:TypeId) (v:Value) (xs:List Value):Prop :=
 ∃ a c,v = .slice a xs.length c∧xs.length≤c∧xs.length≤4000000000000∧(0<xs.length→∃ b off cs,a=some ⟨b,off,none⟩∧Blk w b cs T∧∀ j,j<xs.length→cs[off+j]?=xs[j]?)
theorem D6.cells {w:World} {T:TypeId} {a:Option Addr} {n c:Nat} {xs:List Value} (h:D6 w T (.slice a n c) xs):n=xs.length∧n≤c∧n≤4000000000000∧(0<n→∃ b off,a=some ⟨b,off,none⟩∧∀ j v,xs[j]?=some v→w.cell? ⟨b,off+j,none⟩=some v):=by
 obtain ⟨a',c',e,hl,hm,hc⟩:=h
 simp at e
 obtain ⟨rfl,rfl,rfl⟩:=e
 refine ⟨rfl,hl,hm,fun h0=>?_⟩
 obtain ⟨b,off,cs,rfl,hb,hj⟩:=hc h0
 refine ⟨b,off,rfl,fun j v hv=>hb.cell _ ?_⟩
 rw [hj j (List.getElem?_eq_some_iff.1 hv).1,hv]
def kU (a:Option Addr) (c k:Nat):Option Addr:=if c=k then a else a.map (·.add k)
theorem wH {P:Program} {T e:TypeId} (ht:P.underlying T=some (.slice e)) (hi:(P.info? e).map (·.size)=some 1) (a:Option Addr) (n c k:Nat) (hk:k≤n) (w:World) :
 (Instr.slice T (.slice a n c) (some (.int .i64 (k:Int))) none none).run P w = .ok (.slice (kU a c k) (n - k) (c - k)) w:=by
 obtain ⟨i,hi1,hi2⟩:=Option.map_eq_some_iff.1 hi
 have hnk:¬ n<k:=by omega
 simp [Instr.slice,run_underlying ht,sizeOf,typeInfo,hi1,hi2,kU,go_sem]
 exact fun h=>absurd h hnk
def Cells (w:World) (a:Option Addr) (n:Nat) (xs:List Value):Prop :=
 xs.length=n∧(0<n→∃ b off,a=some ⟨b,off,none⟩∧∀ j v,xs[j]?=some v→w.cell? ⟨b,off+j,none⟩=some v)
theorem D6.QX {w:World} {T:TypeId} {a:Option Addr} {n c:Nat} {xs:List Value} (h:D6 w T (.slice a n c) xs):Cells w a n xs:=⟨h.cells.1.symm,h.cells.2.2.2⟩
theorem fC.D7 {k:IntKind} {w:World} {base:Nat} {T:TypeId} {v:Value} {n:Nat} {zs:List Int} (h:w.ownsRow base T 1 v n (zs.map (Value.int k))):∃ a c,v = .slice a n c∧fC k w a n zs∧n≤c:=by
 obtain ⟨hl,hf⟩:=h
 rcases hf with ⟨rfl,rfl⟩|⟨g,cap,cur,rfl,_,hg,hn,_,hs,hc⟩
 ·exact ⟨none,0,rfl,⟨by simpa using hl,fun h=>absurd h (Nat.lt_irrefl 0)⟩,Nat.le_refl _⟩
 ·refine ⟨_,cap,rfl,⟨by simpa using hl,fun _=>⟨g,0,rfl,fun j hj=>?_⟩⟩,hn⟩
  have e:cur[j]?=some (.int k (zs.getD j 0)):=by
   have h1:(cur.toList.take (n*1))[j]?=cur[j]?:=by simp [hj]
   rw [← h1,hc]
   have hj2:j<zs.length:=by simp at hl;omega
   simp [hj2]
  simp [World.cell?,hg,e]
def app9 (ats:Array TypeId) (ty:TypeId) (args:Array Value):Sem Value:=Builtin.append_ ats ty args
theorem jZ (ats:Array TypeId) (ty:TypeId) (args:Array Value):Builtin.append_ ats ty args=app9 ats ty args:=rfl
theorem Tryz.infoInt:(Tryz.prog.info? 3).map (fun i=>(i.zero,i.size,i.bytes))=some (some (.int .i64 0),1,8):=by kernel_rfl
theorem jk {w:World} {e:TypeId} {v:Value} {n:Nat} {xs:List Value} (h:w.ownsRow 0 e 1 v n xs):∃ a cap,v = .slice a n cap∧xs.length=n∧n≤cap∧(a=none→cap=0) ∧
 ∀ j u,xs[j]?=some u→∃ g,a=some ⟨g,0,none⟩∧w.cell? ⟨g,j,none⟩=some u∧w.frozen? ⟨g,j,none⟩=false:=by
 obtain ⟨hl,hf⟩:=h
 have hl':xs.length=n:=by simpa using hl
 rcases hf with ⟨rfl,rfl⟩|⟨g,cap,cur,rfl,_,hg,hn,_,hs,hc⟩
 ·have:xs=[]:=List.eq_nil_of_length_eq_zero hl'
  subst this
  exact ⟨none,0,rfl,rfl,Nat.le_refl _,fun _=>rfl,fun j u h=>by simp at h⟩
 ·refine ⟨_,cap,rfl,hl',hn,fun h=>(by cases h),fun j u hj=>⟨g,rfl,?_,?_⟩⟩
  ·have hj2:=(List.getElem?_eq_some_iff.1 hj).1
   rw [← hc] at hj
   rw [List.getElem?_take_of_lt (by omega)] at hj
   simp [World.cell?,hg]
   simpa using hj
  ·simp [World.frozen?,hg]
theorem LG {w:World} {e:TypeId} {g n cap:Nat} {xs:List Value} (h:w.ownsRow 0 e 1 (.slice (some ⟨g,0,none⟩) n cap) n xs):∃ cur:Array Value,w.heap[g]?=some (.cells cur e (0,0)):=by
 rcases h.2 with ⟨h,_⟩|⟨g',cap',cur,hv,_,hg,_⟩
 ·cases h
 ·cases hv
  exact ⟨cur,hg⟩
theorem oz {w:World} {e:TypeId} {v:Value} {n:Nat} {xs:List Value} (h:w.ownsRow 0 e 1 v n xs) {a:Addr} (ha:∀ k,v.ownBlock=some k→k≠a.block) (u:Value):(w.setCell a u).ownsRow 0 e 1 v n xs :=
 ownsRow_setCell_other h (fun e=>ha _ e rfl) u
theorem mQ {P:Program} (w:World) (t ty e:TypeId) (ht:P.underlying t=some (.slice e)) {z:Value} {bytes:Nat} (hi:(P.info? e).map (fun i=>(i.zero,i.size,i.bytes))=some (some z,1,bytes)) (hzs:z.cells.size=1)
 {v:Value} {n:Nat} {xs:List Value} (hown:w.ownsRow 0 e 1 v n xs) {N:Nat} {u:Value} (hN:w.cell? ⟨N,0,none⟩=some u) (hu:u.oneCell'=true) (hb:bytes≤1000) (hn:n≤100000000000) :
 ∃ g cap w',(Builtin.append_ #[t,t] ty #[v,.slice (some ⟨N,0,none⟩) 1 1]).run P w = .ok (.slice (some ⟨g,0,none⟩) (n+1) cap) w'∧w'.ownsRow 0 e 1 (.slice (some ⟨g,0,none⟩) (n+1) cap) (n+1) (xs++[u]) ∧
  w.grownBy w' v.ownBlock∧(v.ownBlock=some g∨w.heap.size≤g):=by
 obtain ⟨i,hi1,hi2,hi3,hi4⟩:=info_parts hi
 have hbytes:(n+1)*bytes≤140737488355328:=Nat.le_trans (Nat.mul_le_mul (show n+1≤100000000001 by omega) hb) (by decide)
 have hnews:∀ j x,[u][j]?=some x→w.cell? ((⟨N,0,none⟩:Addr).add j)=some x:=by
  intro j x hj
  cases j with
  | zero=>simp at hj;subst hj;simpa [Addr.add] using hN
  | succ j=>simp at hj
 have h1:∀ x∈[u],x.oneCell'=true:=by simpa using hu
 have shape:∀ {v':Value} {W:World} {B:Nat},W.ownsRow B e 1 v' (n+1) (xs++[u])→∃ g cap,v' = .slice (some ⟨g,0,none⟩) (n+1) cap∧B≤g:=by
  intro v' W B h
  rcases h.2 with ⟨_,h0⟩|⟨g,cap,cur,rfl,hB,_⟩
  ·omega
  ·exact ⟨g,cap,rfl,hB⟩
 rcases hown.2 with ⟨rfl,rfl⟩|⟨g,cap,cur,rfl,hbg,hg,hnc,hcm,hcs,htake⟩
 ·have hown':w.ownsRow w.heap.size e 1 (.slice none 0 0) 0 xs:=⟨hown.1,.inl ⟨rfl,rfl⟩⟩
  obtain ⟨v',w',hr,h2,h3,_⟩:=run_append_own (P:=P) w w.heap.size t ty e i z 1 bytes ht hi1 hi2 hi3 hi4 hzs (by decide) _ 0 xs hown' ⟨N,0,none⟩ 1 1 [u] rfl hnews h1 (by unfold maxLen;omega) hbytes (Nat.le_refl _)
  obtain ⟨g,cap,rfl,hB⟩:=shape h2
  exact ⟨g,cap,w',hr,dP h2 (Nat.zero_le _),h3,.inr hB⟩
 ·by_cases hroom:n+1≤cap
  ·obtain ⟨w',hr,h2,h3⟩:=run_append_own_spare (P:=P) w 0 t ty e i 1 ht hi1 hi3 g n cap xs hown ⟨N,0,none⟩ 1 1 [u] rfl hnews h1 hroom
   exact ⟨g,cap,w',hr,h2,h3,.inl rfl⟩
  ·have holds:∀ j x,xs[j]?=some x→w.cell? ((⟨g,0,none⟩:Addr).add j)=some x:=hown.cells (g:=g) rfl
   obtain ⟨v',w',hr,h2,h3⟩:=run_append_arg_grows (P:=P) w t ty e i z 1 bytes ht hi1 hi2 hi3 hi4 hzs (by decide) ⟨g,0,none⟩ n cap xs hown.1 holds ⟨N,0,none⟩ 1 1 [u] rfl hnews (by omega) (by unfold maxLen;omega) hbytes
   obtain ⟨g',cap',rfl,hB⟩:=shape h2
   exact ⟨g',cap',w',hr,dP h2 (Nat.zero_le _),⟨h3.os,h3.tape,h3.output,h3.size,fun k hk _=>h3.block k hk (by simp)⟩,.inr hB⟩
end
end Go.Proofs.YtanfphjoebobaaaGreatDoor
