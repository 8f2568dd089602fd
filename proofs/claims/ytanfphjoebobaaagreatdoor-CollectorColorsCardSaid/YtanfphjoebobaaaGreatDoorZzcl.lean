/- Parts of a walk, put together and made shorter by a program of mine. No conditions. -/
import Derived.Test.YtanfphjoebobaaaGreatDoorZzch
import Derived.Test.YtanfphjoebobaaaGreatDoorZzcc
import Derived.Test.YtanfphjoebobaaaGreatDoorZzck
import Derived.Test.YtanfphjoebobaaaGreatDoorZzce
namespace Go.Proofs.YtanfphjoebobaaaGreatDoor
set_option maxRecDepth 4000
set_option maxHeartbeats 2000000
section
open Go.RowKit
section
variable {c:aB} {b ww:Nat} (hok:c.ok=true) (hb:c.b=b) (hw:c.w=ww)
include hok hb hw
theorem Jp (k:Nat) (a:Int) (ha:a<1∨((b*ww:Nat):Int)<a) (w:World) (hT:Tabs w):Calls Tryz.prog 197 #[.agg c.cells.toArray,.int .i64 (k:Int),.int .i64 a] w fun e w'=>e = .returned (.tuple #[.agg #[.int .i64 0,.int .i64 0,.int .i64 0],.bool false])∧Keep none_ w w':=by
 obtain ⟨W0,hW0⟩:∃ W',W'=(w.alloc (.cells c.cells.toArray 23)).alloc (.cells #[.int .i64 0,.int .i64 0,.int .i64 0] 229):=⟨_,rfl⟩
 have HK:Hid (Keep none_ w W0):=by rw [hW0];exact ((Keep.refl _ _).alloc _).alloc _
 have HC:=Lib.hid (wX hok hb hw a ha W0 (hT.keep HK.out))
 have HO:Hid (Blk W0 (w.heap.size+1) [.int .i64 0,.int .i64 0,.int .i64 0] 229):=by
  rw [hW0]
  have h:=Blk.new (w.alloc (.cells c.cells.toArray 23)) [.int .i64 0,.int .i64 0,.int .i64 0] 229
  rw [World.size_alloc] at h
  exact h
 obtain ⟨c0,c1,c2,c3,c4,c5,c6⟩:=c
 simp only [aB.cells] at *
 have hOg:w.heap.size≤w.heap.size+1:=by omega
 clear hT hok hb hw ha
 go_enter Tryz.func197,Tryz.ntmps197
 go_wp2_with fail
 rw [← hW0]
 clear hW0
 refine HC.out.mono ?_
 rintro e w1 ⟨rfl,hk1⟩
 have HK1:=Lib.hid (HK.out.trans hk1)
 have ho1:=hk1.blk HO.out (fun f=>f)
 clear hk1 HK HC HO
 generalize w.heap.size+1=O at *
 have o0:=ho1.cell 0 rfl;have o1:=ho1.cell 1 rfl;have o2:=ho1.cell 2 rfl
 have f0:=ho1.free 0;have f1:=ho1.free 1;have f2:=ho1.free 2
 have HO1:=Lib.hid ho1
 clear ho1
 go_wp2_with fail
 obtain ⟨W4,hW4⟩:∃ W',W'=(((w1.setCell ⟨O,0,none⟩ (.int .i64 0)).setCell ⟨O,1,none⟩ (.int .i64 0)).setCell ⟨O,2,none⟩ (.int .i64 0)):=⟨_,rfl⟩
 rw [← hW4]
 have hF:Blk W4 O [.int .i64 0,.int .i64 0,.int .i64 0] 229:=by rw [hW4];exact ((HO1.out.set 0 _).set 1 _).set 2 _
 have k0:=hF.cell 0 rfl;have k1:=hF.cell 1 rfl;have k2:=hF.cell 2 rfl
 have hk4:Keep none_ w W4:=by
  rw [hW4]
  exact HK1.out.trans' (((((Keep.refl (only O) w1).put 0 _).put 1 _).put 2 _)) (fun i hi e=>absurd hi (by unfold only at e;omega))
 refine bodyPost_ret (v := .tuple #[.agg #[.int .i64 0,.int .i64 0,.int .i64 0],.bool false]) (by simp [results,Tryz.f197,go_sem,k0,k1,k2]) rfl ⟨rfl,hk4⟩
theorem xg (k B0 L:Nat) (hk:k<4) (hB:B0<b) (hL:L<ww) (hs:ww/2^(k+1)≤L/2^(k+1)) (w:World) (hT:Tabs w) (hS:Sizes w):Calls Tryz.prog 197 #[.agg c.cells.toArray,.int .i64 (k:Int),.int .i64 (((B0*ww+L:Nat):Int)+1)] w fun e w'=>e = .returned (.tuple #[.agg #[.int .i64 0,.int .i64 0,.int .i64 0],.bool false])∧Keep none_ w w':=by
 obtain ⟨W0,hW0⟩:∃ W',W'=(w.alloc (.cells c.cells.toArray 23)).alloc (.cells #[.int .i64 0,.int .i64 0,.int .i64 0] 229):=⟨_,rfl⟩
 have HK:Hid (Keep none_ w W0):=by rw [hW0];exact ((Keep.refl _ _).alloc _).alloc _
 have hn:=jm hok hb hw
 have hz:=mP hk
 have q2:B0*ww+L<b*ww:=by
  have h3:(B0+1)*ww≤b*ww:=Nat.mul_le_mul_right ww (Nat.succ_le_of_lt hB)
  have h4:(B0+1)*ww=B0*ww+ww:=by rw [Nat.add_mul,Nat.one_mul]
  omega
 have q3:(B0*ww+L)/ww=B0:=by
  rw [Nat.add_comm,Nat.add_mul_div_right _ _ (by omega),Nat.div_eq_of_lt hL,Nat.zero_add]
 have HC:=Lib.hid (pF hok hb hw (B0*ww+L) q2 W0 (hT.keep HK.out))
 rw [q3] at HC
 have HB:=Lib.hid (show Blk W0 w.heap.size c.cells 23 by rw [hW0];exact (Blk.new w _ _).alloc _)
 have HO:Hid (Blk W0 (w.heap.size+1) [.int .i64 0,.int .i64 0,.int .i64 0] 229):=by
  rw [hW0]
  have h:=Blk.new (w.alloc (.cells c.cells.toArray 23)) [.int .i64 0,.int .i64 0,.int .i64 0] 229
  rw [World.size_alloc] at h
  exact h
 have hI:=fun W=>jv (k:Int) W
 have HZ:Hid (∀ W,Keep none_ w W→Calls Tryz.prog 201 #[.int .i64 (k:Int)] W fun e w'=>e = .returned (.int .i64 ((2^(k+1):Nat):Int))∧W=w'):=fun W hW=>by
  have h:=pq (k:Int) W (hS.keep hW)
  rw [yK hk] at h
  simpa using h
 have HP:Hid (∀ W,Keep none_ w W→Calls Tryz.prog 194 #[.int .i64 (ww:Int),.int .i64 (k:Int)] W fun e w'=>e = .returned (.int .i64 ((ww/2^(k+1):Nat):Int))∧W=w'):=fun W hW=>qQ ww k ⟨hn.2.2.1,hn.2.2.2.1⟩ hk W (hS.keep hW)
 have hkd:decide (0≤(k:Int)∧(k:Int)<4)=true:=decide_eq_true (by omega)
 simp only [hkd] at hI
 have HI:=Lib.hid hI
 clear hI
 obtain ⟨c0,c1,c2,c3,c4,c5,c6⟩:=c
 simp only at hb hw
 subst hb hw
 have hmul:(B0:Int)*(ww:Int)=((B0*ww:Nat):Int):=by simp
 have hM:B0*ww≤b*ww:=Nat.mul_le_mul_right _ (by omega)
 have d1':decide (((ww/2^(k+1):Nat):Int)≤((L/2^(k+1):Nat):Int))=true:=decide_eq_true (by omega)
 obtain ⟨s,hsE⟩:∃ s,s=L/2^(k+1):=⟨_,rfl⟩
 obtain ⟨j,hjE⟩:∃ j,j=L%2^(k+1):=⟨_,rfl⟩
 rw [← hsE] at d1' hs
 generalize 2^(k+1)=z at *
 generalize ww/z=per at *
 generalize b*ww=N at *
 generalize B0*ww=M at *
 obtain ⟨hleft,hq,hr,hr2,hq2,hm1,hs1,hmw,_,hz0,hz1,hz2,hzI⟩:=DX (per:=s+1) hz hsE.symm hjE.symm hL hn.2.2.2.1 (Nat.le_trans hM hn.2.2.2.2) (Nat.lt_succ_self s)
 have HD:=Lib.hid d1'
 obtain ⟨aa,haa⟩:∃ aa:Int,aa=((M+L:Nat):Int)+1:=⟨_,rfl⟩
 rw [← haa] at HC hleft ⊢
 simp only [aB.cells] at *
 clear hT hS hok q2 q3 hn hkd hs hM haa hsE hjE d1'
 go_enter Tryz.func197,Tryz.ntmps197
 go_wp2_with fail
 rw [← hW0]
 clear hW0
 refine HC.out.mono ?_
 rintro e w1 ⟨rfl,hk1⟩
 have HK1:=Lib.hid (HK.out.trans hk1)
 have HO1:=Lib.hid (hk1.blk HO.out (fun f=>f))
 have HB1:=Lib.hid (hk1.blk HB.out (fun f=>f))
 have y1:=(hk1.blk HB.out (fun f=>f)).cell 1 rfl
 clear hk1 HK HC HB HO
 go_wp2_with (go_at_call 198;refine (HI.out _).mono ?_;rintro e w2 ⟨rfl,rfl⟩)
 go_region_held3 (fun w'=>Keep none_ w1 w')
  (first | exact Keep.refl _ _ | exact (Keep.refl _ _).drew | exact (Keep.refl _ _).drew.alloc _ | assumption | exact Keep.alloc (by assumption) _ | fail "iw")
  ((go_at_call 201
    refine (HZ.out _ (HK1.out.trans (by first | assumption | exact Keep.alloc (by assumption) _ | exact (Keep.refl _ _).drew | exact (Keep.refl _ _).drew.alloc _ | fail "jc"))).mono ?_
    rintro e w2 ⟨rfl,rfl⟩))
 all_goals
  obtain ⟨W2,hW2⟩:∃ W',W'=(w1.alloc (.cells #[.int .i64 (B0:Int),.int .i64 (s:Int),.int .i64 (j:Int)] 229)).drew:=⟨_,rfl⟩
  rw [← hW2]
  have HK2:Hid (Keep none_ w W2):=by rw [hW2];exact (HK1.out.alloc _).drew
  have hp2:Blk W2 w1.heap.size [.int .i64 (B0:Int),.int .i64 (s:Int),.int .i64 (j:Int)] 229:=by rw [hW2];exact (Blk.new w1 _ _).drew
  have ho2:Blk W2 (w.heap.size+1) [.int .i64 0,.int .i64 0,.int .i64 0] 229:=by rw [hW2];exact (HO1.out.alloc _).drew
  have hb2:=show Blk W2 w.heap.size _ 23 by rw [hW2];exact (HB1.out.alloc _).drew
  have hlt:w.heap.size+1<w1.heap.size:=HO1.out.lt
  have hOg:w.heap.size≤w.heap.size+1:=by omega
  clear hW2 y1 HB1 HO1 HK1 HZ hr hr2 hq hq2 hm1 hs1 hleft hmul hmw hz0 hz1 hz2 hzI
  generalize w1.heap.size=D at *
  generalize w.heap.size+1=O at *
  have y1:=hb2.cell 1 rfl
  have p1:=hp2.cell 1 rfl
  have DY:=Lib.hid ho2
  clear hp2 ho2 hb2
  go_wp2_with fail
  have d1:=HD.out
  go_quiet (first|(go_at_call 194;exact Calls.quiet_of_same (dK (HP.out _ (HK2.out.drewN _)))))
  obtain ⟨W3,hW3⟩:∃ W',W'=W2.drewN nq:=⟨_,rfl⟩
  rw [← hW3]
  have HK3:Hid (Keep none_ w W3):=by rw [hW3];exact HK2.out.drewN _
  have h23:Keep none_ W2 W3:=by rw [hW3];exact (Keep.refl _ _).drewN _
  have ho3:=h23.blk DY.out (fun f=>f)
  clear hW3 h23 y1 p1 DY HK2
  have o0:=ho3.cell 0 rfl;have o1:=ho3.cell 1 rfl;have o2:=ho3.cell 2 rfl
  have f0:=ho3.free 0;have f1:=ho3.free 1;have f2:=ho3.free 2
  have HO3:=Lib.hid ho3
  clear ho3
  have d2:per≤s:=Int.ofNat_le.1 (of_decide_eq_true HD.out)
  go_wp2_with fail
  obtain ⟨W4,hW4⟩:∃ W',W'=(((W3.setCell ⟨O,0,none⟩ (.int .i64 0)).setCell ⟨O,1,none⟩ (.int .i64 0)).setCell ⟨O,2,none⟩ (.int .i64 0)):=⟨_,rfl⟩
  rw [← hW4]
  have hF:Blk W4 O [.int .i64 0,.int .i64 0,.int .i64 0] 229:=by rw [hW4];exact ((HO3.out.set 0 _).set 1 _).set 2 _
  have k0:=hF.cell 0 rfl;have k1:=hF.cell 1 rfl;have k2:=hF.cell 2 rfl
  have hk4:Keep none_ w W4:=by
   rw [hW4]
   exact HK3.out.trans' (((((Keep.refl (only O) W3).put 0 _).put 1 _).put 2 _)) (fun i hi e=>absurd hi (by unfold only at e;omega))
  refine bodyPost_ret (v := .tuple #[.agg #[.int .i64 0,.int .i64 0,.int .i64 0],.bool false]) (by simp [results,Tryz.f197,go_sem,k0,k1,k2]) rfl ⟨rfl,hk4⟩
theorem MF (k p:Nat) (hk:k<4) (hp:p<b*ww) (w:World) (hT:Tabs w) (hS:Sizes w):∃ (B0 s j:Nat) (ok:Bool),(ok=true→B0=p/ww∧s=p%ww/2^(k+1)∧j=p%ww%2^(k+1))∧(ok=true↔p%ww/2^(k+1)<ww/2^(k+1)) ∧
 Calls Tryz.prog 197 #[.agg c.cells.toArray,.int .i64 (k:Int),.int .i64 ((p:Int)+1)] w fun e w'=>e = .returned (.tuple #[.agg #[.int .i64 (B0:Int),.int .i64 (s:Int),.int .i64 (j:Int)],.bool ok])∧Keep none_ w w':=by
 have hn:=jm hok hb hw
 have hB:p/ww<b:=by rw [Nat.div_lt_iff_lt_mul (by omega)];exact hp
 have hL:p%ww<ww:=Nat.mod_lt _ (by omega)
 have e1:p/ww*ww+p%ww=p:=by have:=Nat.div_add_mod p ww;rw [Nat.mul_comm] at this;exact this
 by_cases hs:p%ww/2^(k+1)<ww/2^(k+1)
 ·have h:=A8 hok hb hw k (p/ww) (p%ww/2^(k+1)) (p%ww%2^(k+1)) hk hB hs (Nat.mod_lt _ (Nat.two_pow_pos _)) w hT hS
  rw [show p%ww/2^(k+1)*2^(k+1)+p%ww%2^(k+1)=p%ww by rw [Nat.mul_comm];exact Nat.div_add_mod _ _,e1] at h
  exact ⟨_,_,_,true,fun _=>⟨rfl,rfl,rfl⟩,by simpa using hs,h⟩
 ·have h:=xg hok hb hw k (p/ww) (p%ww) hk hB hL (by omega) w hT hS
  rw [e1] at h
  exact ⟨0,0,0,false,fun e=>(nomatch e),by simpa using hs,h⟩
end
section
variable {w:World} {R X:Nat} {c:aB} {K:List Nat}
theorem Gz (h:dh w R X c K) (B:Nat) (hB:B<K.length) (hk:K.getD B 0=0):Calls Tryz.prog 102 #[.pointer (some ⟨R,0,none⟩),.int .i64 (B:Int)] w fun e w'=>e = .returned (.tuple #[.int .i64 0,.bool false])∧w=w':=by
 have hb:=h.blk
 obtain ⟨c0,c1,c2,c3,c4,c5,c6⟩:=c
 simp only [aB.cells,List.cons_append,List.nil_append] at hb
 have y7:=hb.cell 7 rfl
 have z:=h.cls.cell B (kE hB)
 rw [hk] at z
 have hs:=h.small
 have d1:decide ((K.length:Int)≤(B:Int))=false:=decide_eq_false (by omega)
 have hBI:(B:Int)<(K.length:Int):=by omega
 have h0I:(0:Int)≤(B:Int):=by omega
 generalize K.length=L at *
 clear h hb hk hs hB
 go_enter Tryz.func102,Tryz.ntmps102
 go_wp2_with fail
 go_ret2
 exact ⟨rfl,rfl⟩
theorem Jq (h:dh w R X c K) (B:Nat) (hB:K.length≤B):Calls Tryz.prog 102 #[.pointer (some ⟨R,0,none⟩),.int .i64 (B:Int)] w fun e w'=>e = .returned (.tuple #[.int .i64 0,.bool false])∧w=w':=by
 have hb:=h.blk
 obtain ⟨c0,c1,c2,c3,c4,c5,c6⟩:=c
 simp only [aB.cells,List.cons_append,List.nil_append] at hb
 have y7:=hb.cell 7 rfl
 have hs:=h.small
 have d1:decide ((K.length:Int)≤(B:Int))=true:=decide_eq_true (by omega)
 have hBI:(K.length:Int)≤(B:Int):=by omega
 have h0I:(0:Int)≤(B:Int):=by omega
 generalize K.length=L at *
 clear h hb hs hB
 go_enter Tryz.func102,Tryz.ntmps102
 go_wp2_with fail
 go_ret2
 exact ⟨rfl,rfl⟩
theorem BA (h:dh w R X c K) (B:Nat):Calls Tryz.prog 102 #[.pointer (some ⟨R,0,none⟩),.int .i64 (B:Int)] w fun e w'=>e = .returned (.tuple #[.int .i64 ((K.getD B 0 - 1:Nat):Int),.bool (decide (K.getD B 0≠0))])∧w=w':=by
 rcases Nat.lt_or_ge B K.length with hB|hB
 ·by_cases h0:K.getD B 0=0
  ·have h1:=Gz h B hB h0
   rw [h0];exact h1
  ·have hle:K.getD B 0≤4:=by
    rw [List.getD_eq_getElem?_getD,List.getElem?_eq_getElem hB]
    exact h.le _ (List.getElem_mem hB)
   have h1:=uZ h B (K.getD B 0 - 1) hB (by omega) (by omega)
   rw [decide_eq_true h0];exact h1
 ·have h1:=Jq h B hB
  rw [List.getD_eq_getElem?_getD,List.getElem?_eq_none hB];exact h1
theorem BD (h:dh w R X c K) (a:Int) (B k B1 s j:Nat) (okb okc okf:Bool)
 (hAB:∀ W,Keep none_ w W→Calls Tryz.prog 196 #[.agg c.cells.toArray,.int .i64 a] W fun e w'=>e = .returned (.tuple #[.int .i64 (B:Int),.bool okb])∧Keep none_ W w')
 (hCL:∀ W,Keep none_ w W→Calls Tryz.prog 102 #[.pointer (some ⟨R,0,none⟩),.int .i64 (B:Int)] W fun e w'=>e = .returned (.tuple #[.int .i64 (k:Int),.bool okc])∧W=w')
 (hF:∀ W,Keep none_ w W→Calls Tryz.prog 197 #[.agg c.cells.toArray,.int .i64 (k:Int),.int .i64 a] W fun e w'=>e = .returned (.tuple #[.agg #[.int .i64 (B1:Int),.int .i64 (s:Int),.int .i64 (j:Int)],.bool okf])∧Keep none_ W w')
 (hno:(okf&&okc&&(j==0))=false) :
 Calls Tryz.prog 149 #[.pointer (some ⟨R,0,none⟩),.int .i64 a] w fun e w'=>e = .returned (.tuple #[.int .i64 0,.int .i64 0,.bool false])∧Keep none_ w w':=by
 have HC:Hid (∀ W,Keep none_ w W→Calls Tryz.prog 53 #[.pointer (some ⟨R,0,none⟩)] W fun e w'=>e = .returned (.agg c.cells.toArray)∧Keep none_ W w'):=fun W hW=>nY (h.still hW)
 have HAB:=Lib.hid hAB
 have HCL:=Lib.hid hCL
 have HF:=Lib.hid hF
 obtain ⟨c0,c1,c2,c3,c4,c5,c6⟩:=c
 simp only [aB.cells] at *
 have HKK:=Lib.hid (Keep.refl none_ w)
 clear h hAB hCL hF
 cases okf with
 | false =>
   clear hno
   go_enter Tryz.func149,Tryz.ntmps149
   go_wp2_with (first
    | (go_at_call 53;refine (HC.out _ HKK.out).mono ?_;rintro e w1 ⟨rfl,hk1⟩;have HKK:=Lib.hid (HKK.out.trans hk1);clear hk1)
    | (go_at_call 196;refine (HAB.out _ HKK.out).mono ?_;rintro e w1 ⟨rfl,hk1⟩;have HKK:=Lib.hid (HKK.out.trans hk1);clear hk1)
    | (go_at_call 197;refine (HF.out _ HKK.out).mono ?_;rintro e w1 ⟨rfl,hk1⟩;have HKK:=Lib.hid (HKK.out.trans hk1);clear hk1)
    | (go_at_call 102;refine (HCL.out _ HKK.out).mono ?_;rintro e w1 ⟨rfl,rfl⟩))
   go_ret3
   exact ⟨rfl,HKK.out.alloc _⟩
 | true =>
   cases okc with
   | false =>
     clear hno
     go_enter Tryz.func149,Tryz.ntmps149
     go_wp2_with (first
      | (go_at_call 53;refine (HC.out _ HKK.out).mono ?_;rintro e w1 ⟨rfl,hk1⟩;have HKK:=Lib.hid (HKK.out.trans hk1);clear hk1)
      | (go_at_call 196;refine (HAB.out _ HKK.out).mono ?_;rintro e w1 ⟨rfl,hk1⟩;have HKK:=Lib.hid (HKK.out.trans hk1);clear hk1)
      | (go_at_call 197;refine (HF.out _ HKK.out).mono ?_;rintro e w1 ⟨rfl,hk1⟩;have HKK:=Lib.hid (HKK.out.trans hk1);clear hk1)
      | (go_at_call 102;refine (HCL.out _ HKK.out).mono ?_;rintro e w1 ⟨rfl,rfl⟩))
     go_ret3
     exact ⟨rfl,HKK.out.alloc _⟩
   | true =>
     have hj:j≠0:=by intro e;subst e;simp at hno
     have d1:((j:Int)==0)=false:=by simp;omega
     have d2:((j:Int) != 0)=true:=by simp only [bne,d1];rfl
     clear hno hj
     go_enter Tryz.func149,Tryz.ntmps149
     go_wp2_with (first
      | (go_at_call 53;refine (HC.out _ HKK.out).mono ?_;rintro e w1 ⟨rfl,hk1⟩;have HKK:=Lib.hid (HKK.out.trans hk1);clear hk1)
      | (go_at_call 196;refine (HAB.out _ HKK.out).mono ?_;rintro e w1 ⟨rfl,hk1⟩;have HKK:=Lib.hid (HKK.out.trans hk1);clear hk1)
      | (go_at_call 197;refine (HF.out _ HKK.out).mono ?_;rintro e w1 ⟨rfl,hk1⟩;have HKK:=Lib.hid (HKK.out.trans hk1);clear hk1)
      | (go_at_call 102;refine (HCL.out _ HKK.out).mono ?_;rintro e w1 ⟨rfl,rfl⟩))
     go_ret3
     exact ⟨rfl,HKK.out.alloc _⟩
theorem BF (h:dh w R X c K) (ww a:Nat) (hw:c.w=ww) (ho:jw K.length ww K a=none) (hT:Tabs w) (hS:Sizes w):Calls Tryz.prog 149 #[.pointer (some ⟨R,0,none⟩),.int .i64 (a:Int)] w fun e w'=>e = .returned (.tuple #[.int .i64 0,.int .i64 0,.bool false])∧Keep none_ w w':=by
 have hn:=jm h.ok h.len hw
 have hk4:∀ B,K.getD B 0≤4:=fun B=>by
  rcases Nat.lt_or_ge B K.length with h1|h1
  ·rw [List.getD_eq_getElem?_getD,List.getElem?_eq_getElem h1]
   exact h.le _ (List.getElem_mem h1)
  ·rw [List.getD_eq_getElem?_getD,List.getElem?_eq_none h1];exact Nat.zero_le _
 by_cases hin:1≤a∧a≤K.length*ww
 ·obtain ⟨p,rfl⟩:∃ p,a=p+1:=⟨a - 1,by omega⟩
  have hp:p<K.length*ww:=by omega
  have e:(((p+1:Nat):Nat):Int)=(p:Int)+1:=by omega
  rw [e]
  have hB:p/ww<K.length:=by rw [Nat.div_lt_iff_lt_mul (by omega)];exact hp
  obtain ⟨k,hk,hkK⟩:∃ k,k<4∧k=K.getD (p/ww) 0 - 1:=⟨_,by have:=hk4 (p/ww);omega,rfl⟩
  have key:∃ (B0 s j:Nat) (ok:Bool),(ok=true→B0=p/ww∧s=p%ww/2^(k+1)∧j=p%ww%2^(k+1))∧(ok=true↔p%ww/2^(k+1)<ww/2^(k+1)) ∧
   ∀ W,Keep none_ w W→Calls Tryz.prog 197 #[.agg c.cells.toArray,.int .i64 (k:Int),.int .i64 ((p:Int)+1)] W fun e w'=>e = .returned (.tuple #[.agg #[.int .i64 (B0:Int),.int .i64 (s:Int),.int .i64 (j:Int)],.bool ok])∧Keep none_ W w':=by
   by_cases hs:p%ww/2^(k+1)<ww/2^(k+1)
   ·refine ⟨p/ww,_,_,true,fun _=>⟨rfl,rfl,rfl⟩,by simpa using hs,fun W hW=>?_⟩
    obtain ⟨B0,s,j,ok,h1,h2,h3⟩:=MF h.ok h.len hw k p hk hp W (hT.keep hW) (hS.keep hW)
    have hok:=h2.2 hs
    obtain ⟨rfl,rfl,rfl⟩:=h1 hok
    rw [hok] at h3;exact h3
   ·refine ⟨0,0,0,false,fun e=>(nomatch e),by simpa using hs,fun W hW=>?_⟩
    have hL:p%ww<ww:=Nat.mod_lt _ (by omega)
    have e1:p/ww*ww+p%ww=p:=by have:=Nat.div_add_mod p ww;rw [Nat.mul_comm] at this;exact this
    have h9:=xg h.ok h.len hw k (p/ww) (p%ww) hk hB hL (by omega) W (hT.keep hW) (hS.keep hW)
    rw [e1] at h9;exact h9
  obtain ⟨B0,s,j,ok,h1,h2,h3⟩:=key
  refine BD h _ (p/ww) k B0 s j true (decide (K.getD (p/ww) 0≠0)) ok (fun W hW=>pF h.ok h.len hw p hp W (hT.keep hW)) (fun W hW=>by rw [hkK];exact BA (h.still hW) (p/ww)) h3 ?_
  rw [Bool.eq_false_iff]
  intro hc
  simp only [Bool.and_eq_true,decide_eq_true_eq,beq_iff_eq] at hc
  obtain ⟨⟨g1,g2⟩,g3⟩:=hc
  obtain ⟨_,_,g4⟩:=h1 g1
  have hkk:K.getD (p/ww) 0=k+1:=by omega
  have:=xG (b:=K.length) (ww:=ww) (K:=K) (a:=p+1) (B:=p/ww) (k:=k) (by omega) (by omega) (by simp) hkk (by simpa using g4.symm.trans g3) (by simpa using h2.1 g1)
  rw [ho] at this;cases this
 ·have hout:(a:Int)<1∨((K.length*ww:Nat):Int)<(a:Int):=by omega
  have hb1:0<K.length:=by have:=h.small;omega
  refine BD h (a:Int) 0 (K.getD 0 0 - 1) 0 0 0 false (decide (K.getD 0 0≠0)) false (fun W hW=>?_) (fun W hW=>BA (h.still hW) 0) (fun W hW=>?_) rfl
  ·exact wX h.ok h.len hw (a:Int) hout W (hT.keep hW)
  ·exact Jp h.ok h.len hw _ (a:Int) hout W (hT.keep hW)
theorem yU (h:dh w R X c K) (ww a B k:Nat) (hw:c.w=ww) (ho:jw K.length ww K a=some (B,k)) (hT:Tabs w) (hS:Sizes w):Calls Tryz.prog 149 #[.pointer (some ⟨R,0,none⟩),.int .i64 (a:Int)] w fun e w'=>e = .returned (.tuple #[.int .i64 (B:Int),.int .i64 (k:Int),.bool true])∧Keep none_ w w':=by
 have hn:=jm h.ok h.len hw
 obtain ⟨h1,h2,h3,h4,h5,h6⟩:=dD ho
 have hB:B<K.length:=by
  rcases Nat.lt_or_ge B K.length with g|g
  ·exact g
  ·rw [List.getD_eq_getElem?_getD,List.getElem?_eq_none g] at h4
   simp at h4
 have hk:k<4:=by
  have:K.getD B 0≤4:=by
   rw [List.getD_eq_getElem?_getD,List.getElem?_eq_getElem hB]
   exact h.le _ (List.getElem_mem hB)
  omega
 have h9:=LZ h ww B k ((a - 1)%ww/2^(k+1)) hw hB h4 hk h6 hT hS
 have e1:B*ww+(a - 1)%ww/2^(k+1)*2^(k+1)=a - 1:=by
  have g1:=Nat.div_add_mod (a - 1) ww
  have g2:=Nat.div_add_mod ((a - 1)%ww) (2^(k+1))
  rw [h5,Nat.add_zero,Nat.mul_comm] at g2
  rw [g2,h3,Nat.mul_comm];exact g1
 rw [e1,show (((a - 1:Nat):Nat):Int)+1=(a:Int) by omega] at h9
 exact h9
end
end
section
attribute [local go_sem] Oper.semAt_some
open Go.RowKit
def sel (D:Nat→Nat) (I:List Nat):Nat→Prop:=fun x=>∃ i∈I,x=D i
def HF (D:Nat→Nat):Nat→Prop:=fun x=>∃ i,i<13∧x=D i
structure au (w:World) (D:Nat→Nat) (H:HS):Prop where
 inj:∀ i j,i<13→j<13→D i=D j→i=j
 blk:Blk w (D 0) [.pointer (some ⟨D 1,0,none⟩),.pointer (some ⟨D 3,0,none⟩),.pointer (some ⟨D 5,0,none⟩),.pointer (some ⟨D 8,0,none⟩),.pointer (some ⟨D 10,0,none⟩),.slice (some ⟨D 12,0,none⟩) H.cells.length H.cells.length] 101
 arena:bM w (D 1) (D 2) H.A
 table:dh w (D 3) (D 4) H.c H.K
 lists:∃ In,aS w (D 5) (D 6) (D 7) (D 1) (D 3) H.sz In H.F∧∀ n:Nat,iG H.sz In (n:Int)=H.inn n
 born:jq w (D 8) (D 9) H.sz H.bn
 cols:jq w (D 10) (D 11) H.sz H.co
 cel:Blk w (D 12) (aC H.cells) 3
 cb:H.c.b=H.b
 cw:H.c.w=H.ww
 cc:H.c.c=(H.cells.length:Int)
 inv:bF H
 tabs:Tabs w
 sizes:Sizes w
 glo:∀ i,i<13→D i≠3∧D i≠4∧D i≠2
theorem Tabs.jO {S:Nat→Prop} {w w':World} (h:Tabs w) (k:Keep S w w') (h1:¬ S 3) (h2:¬ S 4):Tabs w':=⟨fun i r hr=>k.iY (h.lim i r hr) h1,fun i s hs=>k.iY (h.kind i s hs) h2⟩
theorem Sizes.jO {S:Nat→Prop} {w w':World} (h:Sizes w) (k:Keep S w w') (h1:¬ S 2):Sizes w':=fun i r hr=>k.iY (h i r hr) h1
section
variable {w w':World} {D:Nat→Nat} {H:HS}
theorem bT (inj:∀ i j,i<13→j<13→D i=D j→i=j) (j:Nat) (I:List Nat) (h:(decide (j<13)&&I.all (fun i=>decide (i<13)&&decide (i≠j)))=true):¬ sel D I (D j):=by
 rintro ⟨i,hi,e⟩
 simp only [Bool.and_eq_true,decide_eq_true_eq,List.all_eq_true] at h
 have h2:=h.2 i hi
 exact h2.2 (inj i j h2.1 h.1 e.symm)
theorem au.Vk (h:au w D H):H.K.length=H.b:=by
 have h1:=h.table.len
 have h2:=h.cb
 omega
theorem au.nat (h:au w D H):1≤H.b∧H.b≤4096∧16≤H.ww∧H.ww≤256∧H.b*H.ww≤1048576:=jm h.table.ok h.cb h.cw
theorem au.Ez (h:au w D H) (a:Nat):jw H.K.length H.ww H.K a=H.owner a:=by rw [h.Vk];rfl
theorem au.keep {S:Nat→Prop} (h:au w D H) (k:Keep S w w') (hS:∀ i,i<13→¬ S (D i)) (h1:¬ S 3) (h2:¬ S 4) (h3:¬ S 2):au w' D H:=by
 obtain ⟨In,hl,hi⟩:=h.lists
 exact ⟨h.inj,k.blk h.blk (hS 0 (by decide)),h.arena.keep k (hS 1 (by decide)) (hS 2 (by decide)),h.table.keep k (hS 3 (by decide)) (hS 4 (by decide)),⟨In,hl.keep k (hS 5 (by decide)) (hS 6 (by decide)) (hS 7 (by decide)),hi⟩,
  h.born.keep k (hS 8 (by decide)) (hS 9 (by decide)),h.cols.keep k (hS 10 (by decide)) (hS 11 (by decide)),k.blk h.cel (hS 12 (by decide)),h.cb,h.cw,h.cc,h.inv,h.tabs.jO k h1 h2,h.sizes.jO k h3,h.glo⟩
theorem au.still (h:au w D H) (k:Keep none_ w w'):au w' D H:=h.keep k (fun _ _ f=>f) (fun f=>f) (fun f=>f) (fun f=>f)
theorem au.wI (h:au w D H) {S:Nat→Prop} (hS:∀ x,S x→HF D x):¬ S 3∧¬ S 4∧¬ S 2:=by
 refine ⟨fun e=>?_,fun e=>?_,fun e=>?_⟩
 all_goals
  obtain ⟨i,hi,e⟩:=hS _ e
 ·exact (h.glo i hi).1 e.symm
 ·exact (h.glo i hi).2.1 e.symm
 ·exact (h.glo i hi).2.2 e.symm
theorem qB {I:List Nat} (h:I.all (fun i=>decide (i<13))=true) (x:Nat) (hx:sel D I x):HF D x:=by
 obtain ⟨i,hi,e⟩:=hx
 exact ⟨i,by simpa using List.all_eq_true.1 h i hi,e⟩
theorem Keep.hf {I:List Nat} (k:Keep (sel D I) w w') (h:I.all (fun i=>decide (i<13))=true):Keep (HF D) w w':=k.mono (fun x _ hx=>qB h x hx)
theorem Keep.eF (k:Keep none_ w w'):Keep (HF D) w w':=k.mono (fun _ _ f=>f.elim)
theorem Keep.sel1 {i:Nat} (k:Keep (only (D i)) w w') {I:List Nat} (h:I.contains i=true):Keep (sel D I) w w':=k.mono (fun x _ e=>⟨i,by simpa using h,e⟩)
theorem au.EC (h:au w D H) {A:List Nat} (k:Keep (sel D [1,2]) w w') (hA:bM w' (D 1) (D 2) A) (hi:bF { H with A:=A }):au w' D { H with A:=A }:=by
 obtain ⟨In,hl,hin⟩:=h.lists
 have g:=h.wI (qB (D:=D) (I:=[1,2]) rfl)
 exact ⟨h.inj,k.blk h.blk (bT h.inj 0 _ rfl),hA,h.table.keep k (bT h.inj 3 _ rfl) (bT h.inj 4 _ rfl),⟨In,hl.keep k (bT h.inj 5 _ rfl) (bT h.inj 6 _ rfl) (bT h.inj 7 _ rfl),hin⟩,
  h.born.keep k (bT h.inj 8 _ rfl) (bT h.inj 9 _ rfl),h.cols.keep k (bT h.inj 10 _ rfl) (bT h.inj 11 _ rfl),k.blk h.cel (bT h.inj 12 _ rfl),h.cb,h.cw,h.cc,hi,h.tabs.jO k g.1 g.2.1,h.sizes.jO k g.2.2,h.glo⟩
theorem au.loaded (h:au w D H) (k:Keep (only (D 1)) w w') (hA:bM w' (D 1) (D 2) H.A):au w' D H:=h.EC (k.sel1 rfl) hA h.inv
theorem au.setTable (h:au w D H) {K:List Nat} (k:Keep (sel D [4]) w w') (hT:dh w' (D 3) (D 4) H.c K) (hi:bF { H with K:=K }):au w' D { H with K:=K }:=by
 obtain ⟨In,hl,hin⟩:=h.lists
 have g:=h.wI (qB (D:=D) (I:=[4]) rfl)
 exact ⟨h.inj,k.blk h.blk (bT h.inj 0 _ rfl),h.arena.keep k (bT h.inj 1 _ rfl) (bT h.inj 2 _ rfl),hT,⟨In,hl.keep k (bT h.inj 5 _ rfl) (bT h.inj 6 _ rfl) (bT h.inj 7 _ rfl),hin⟩,
  h.born.keep k (bT h.inj 8 _ rfl) (bT h.inj 9 _ rfl),h.cols.keep k (bT h.inj 10 _ rfl) (bT h.inj 11 _ rfl),k.blk h.cel (bT h.inj 12 _ rfl),h.cb,h.cw,h.cc,hi,h.tabs.jO k g.1 g.2.1,h.sizes.jO k g.2.2,h.glo⟩
theorem au.xX (h:au w D H) {A:List Nat} {fr:List (List Nat)} {In:List Nat} (k:Keep (sel D [1,2,5,7]) w w') (hA:bM w' (D 1) (D 2) A) (hL:aS w' (D 5) (D 6) (D 7) (D 1) (D 3) H.sz In (HS.F { H with A:=A,fr:=fr })) (hin:∀ n:Nat,iG H.sz In (n:Int)=HS.inn { H with A:=A,fr:=fr } n)
 (hi:bF { H with A:=A,fr:=fr }):au w' D { H with A:=A,fr:=fr }:=by
 have g:=h.wI (qB (D:=D) (I:=[1,2,5,7]) rfl)
 exact ⟨h.inj,k.blk h.blk (bT h.inj 0 _ rfl),hA,h.table.keep k (bT h.inj 3 _ rfl) (bT h.inj 4 _ rfl),⟨In,hL,hin⟩,
  h.born.keep k (bT h.inj 8 _ rfl) (bT h.inj 9 _ rfl),h.cols.keep k (bT h.inj 10 _ rfl) (bT h.inj 11 _ rfl),k.blk h.cel (bT h.inj 12 _ rfl),h.cb,h.cw,h.cc,hi,h.tabs.jO k g.1 g.2.1,h.sizes.jO k g.2.2,h.glo⟩
theorem au.Ac (h:au w D H) {s:Nat→Bool} (k:Keep (sel D [9]) w w') (hB:jq w' (D 8) (D 9) H.sz s) (hi:bF { H with bn:=s }):au w' D { H with bn:=s }:=by
 obtain ⟨In,hl,hin⟩:=h.lists
 have g:=h.wI (qB (D:=D) (I:=[9]) rfl)
 exact ⟨h.inj,k.blk h.blk (bT h.inj 0 _ rfl),h.arena.keep k (bT h.inj 1 _ rfl) (bT h.inj 2 _ rfl),h.table.keep k (bT h.inj 3 _ rfl) (bT h.inj 4 _ rfl),⟨In,hl.keep k (bT h.inj 5 _ rfl) (bT h.inj 6 _ rfl) (bT h.inj 7 _ rfl),hin⟩,
  hB,h.cols.keep k (bT h.inj 10 _ rfl) (bT h.inj 11 _ rfl),k.blk h.cel (bT h.inj 12 _ rfl),h.cb,h.cw,h.cc,hi,h.tabs.jO k g.1 g.2.1,h.sizes.jO k g.2.2,h.glo⟩
theorem au.Ad (h:au w D H) {s:Nat→Bool} (k:Keep (sel D [11]) w w') (hB:jq w' (D 10) (D 11) H.sz s) (hi:bF { H with co:=s }):au w' D { H with co:=s }:=by
 obtain ⟨In,hl,hin⟩:=h.lists
 have g:=h.wI (qB (D:=D) (I:=[11]) rfl)
 exact ⟨h.inj,k.blk h.blk (bT h.inj 0 _ rfl),h.arena.keep k (bT h.inj 1 _ rfl) (bT h.inj 2 _ rfl),h.table.keep k (bT h.inj 3 _ rfl) (bT h.inj 4 _ rfl),⟨In,hl.keep k (bT h.inj 5 _ rfl) (bT h.inj 6 _ rfl) (bT h.inj 7 _ rfl),hin⟩,
  h.born.keep k (bT h.inj 8 _ rfl) (bT h.inj 9 _ rfl),hB,k.blk h.cel (bT h.inj 12 _ rfl),h.cb,h.cw,h.cc,hi,h.tabs.jO k g.1 g.2.1,h.sizes.jO k g.2.2,h.glo⟩
theorem au.Tm (h:au w D H) {cl:List Nat} (k:Keep (sel D [12]) w w') (hB:Blk w' (D 12) (aC cl) 3) (hl:cl.length=H.cells.length) (hi:bF { H with cells:=cl }):au w' D { H with cells:=cl }:=by
 obtain ⟨In,hl2,hin⟩:=h.lists
 have g:=h.wI (qB (D:=D) (I:=[12]) rfl)
 refine ⟨h.inj,?_,h.arena.keep k (bT h.inj 1 _ rfl) (bT h.inj 2 _ rfl),h.table.keep k (bT h.inj 3 _ rfl) (bT h.inj 4 _ rfl),⟨In,hl2.keep k (bT h.inj 5 _ rfl) (bT h.inj 6 _ rfl) (bT h.inj 7 _ rfl),hin⟩,
  h.born.keep k (bT h.inj 8 _ rfl) (bT h.inj 9 _ rfl),h.cols.keep k (bT h.inj 10 _ rfl) (bT h.inj 11 _ rfl),hB,h.cb,h.cw,?_,hi,h.tabs.jO k g.1 g.2.1,h.sizes.jO k g.2.2,h.glo⟩
 ·have:=k.blk h.blk (bT h.inj 0 _ rfl)
  rw [← hl] at this;exact this
 ·show H.c.c=(cl.length:Int)
  rw [hl];exact h.cc
theorem rG (h:au w D H):Calls Tryz.prog 26 #[.pointer (some ⟨D 0,0,none⟩)] w fun e w'=>e = .returned (.agg H.c.cells.toArray)∧Keep none_ w w':=by
 obtain ⟨W0,hW0⟩:∃ W',W'=w.alloc (.cells #[.int .i64 0,.int .i64 0,.int .i64 0,.int .i64 0,.int .i64 0,.int .i64 0,.int .i64 0] 23):=⟨_,rfl⟩
 have hk0:Keep none_ w W0:=by rw [hW0];exact (Keep.refl _ _).alloc _
 have HC:=Lib.hid (nY (h.table.still hk0))
 have y1:∀ o,(w.alloc o).cell? ⟨D 0,1,none⟩=some (.pointer (some ⟨D 3,0,none⟩)):=fun o=>((Keep.refl none_ w).alloc o).still (h.blk.cell 1 rfl)
 have HO:Hid (Blk W0 w.heap.size [.int .i64 0,.int .i64 0,.int .i64 0,.int .i64 0,.int .i64 0,.int .i64 0,.int .i64 0] 23):=by rw [hW0];exact Blk.new w _ _
 have HK:=Lib.hid hk0
 generalize H.c=c at *
 obtain ⟨c0,c1,c2,c3,c4,c5,c6⟩:=c
 simp only [aB.cells] at *
 have hOg:w.heap.size≤w.heap.size:=Nat.le_refl _
 clear h hk0
 go_enter Tryz.func26,Tryz.ntmps26
 go_wp2_with fail
 rw [← hW0]
 clear hW0
 refine HC.out.mono ?_
 rintro e w1 ⟨rfl,hk1⟩
 have HK1:=Lib.hid (HK.out.trans hk1)
 have ho1:=hk1.blk HO.out (fun f=>f)
 clear hk1 HK HC HO y1
 generalize hO:w.heap.size=O at *
 have o0:=ho1.cell 0 rfl;have o1:=ho1.cell 1 rfl;have o2:=ho1.cell 2 rfl;have o3:=ho1.cell 3 rfl;have o4:=ho1.cell 4 rfl;have o5:=ho1.cell 5 rfl;have o6:=ho1.cell 6 rfl
 have f0:=ho1.free 0;have f1:=ho1.free 1;have f2:=ho1.free 2;have f3:=ho1.free 3;have f4:=ho1.free 4;have f5:=ho1.free 5;have f6:=ho1.free 6
 have HO1:=Lib.hid ho1
 have HOE:=Lib.hid hO
 clear ho1 hO
 go_wp2_with fail
 obtain ⟨W4,hW4⟩:∃ W',W'=(((((((w1.setCell ⟨O,0,none⟩ (.int .i64 c0)).setCell ⟨O,1,none⟩ (.int .i64 c1)).setCell ⟨O,2,none⟩ (.int .i64 c2)).setCell ⟨O,3,none⟩ (.int .i64 c3)).setCell ⟨O,4,none⟩ (.int .i64 c4)).setCell ⟨O,5,none⟩ (.int .i64 c5)).setCell ⟨O,6,none⟩ (.int .i64 c6)):=⟨_,rfl⟩
 rw [← hW4]
 have hF:Blk W4 O [.int .i64 c0,.int .i64 c1,.int .i64 c2,.int .i64 c3,.int .i64 c4,.int .i64 c5,.int .i64 c6] 23:=by rw [hW4];exact ((((((HO1.out.set 0 _).set 1 _).set 2 _).set 3 _).set 4 _).set 5 _).set 6 _
 have k0:=hF.cell 0 rfl;have k1:=hF.cell 1 rfl;have k2:=hF.cell 2 rfl;have k3:=hF.cell 3 rfl;have k4:=hF.cell 4 rfl;have k5:=hF.cell 5 rfl;have k6:=hF.cell 6 rfl
 have hk4:Keep none_ w W4:=by
  rw [hW4]
  exact HK1.out.trans' (((((((((Keep.refl (only O) w1).put 0 _).put 1 _).put 2 _).put 3 _).put 4 _).put 5 _).put 6 _)) (fun i hi e=>by unfold only at e;have:=HOE.out;omega)
 refine bodyPost_ret (v := .agg #[.int .i64 c0,.int .i64 c1,.int .i64 c2,.int .i64 c3,.int .i64 c4,.int .i64 c5,.int .i64 c6]) (by simp [results,Tryz.f26,go_sem,k0,k1,k2,k3,k4,k5,k6]) rfl ⟨rfl,hk4⟩
theorem yV (c:Nat) (w:World):Calls Tryz.prog 113 #[.int .i64 (c:Int)] w fun e w'=>e = .returned (.bool (decide (c<2)))∧w=w':=by
 by_cases h0:c=0
 ·subst h0
  go_enter Tryz.func113,Tryz.ntmps113
  go_wp2_with fail
  go_ret
  exact ⟨rfl,rfl⟩
 ·have d0:((c:Int)==0)=false:=by simp;omega
  by_cases h1:c=1
  ·subst h1
   go_enter Tryz.func113,Tryz.ntmps113
   go_wp2_with fail
   go_ret
   exact ⟨rfl,rfl⟩
  ·have d1:((c:Int)==1)=false:=by simp;omega
   have HE:Hid (decide (c<2)=false):=decide_eq_false (by omega)
   clear h0 h1
   go_enter Tryz.func113,Tryz.ntmps113
   go_wp2_with fail
   go_ret
   rw [HE.out]
   exact ⟨rfl,rfl⟩
theorem Ae (h:au w D H) (a:Nat):Calls Tryz.prog 33 #[.pointer (some ⟨D 0,0,none⟩),.int .i64 (a:Int)] w fun e w'=>e = .returned (.bool (H.bn a))∧w=w':=by
 have y3:=h.blk.cell 3 rfl
 have HB:=Lib.hid (h.born.has a)
 generalize H.bn a=x at *
 clear h
 go_enter Tryz.func33,Tryz.ntmps33
 go_wp2_with (go_at_call 54;refine HB.out.mono ?_;rintro e w1 ⟨rfl,rfl⟩)
 go_ret
 exact ⟨rfl,rfl⟩
theorem tC (h:au w D H) (v:Nat):Calls Tryz.prog 118 #[.pointer (some ⟨D 0,0,none⟩),.int .i64 (v:Int)] w fun e w'=>e = .returned (.bool (decide (v≤H.n)))∧w=w':=by
 have y0:=h.blk.cell 0 rfl
 have HB:=Lib.hid (Es h.arena)
 rw [h.inv.jY] at HB
 have HE:Hid (decide ((v:Int)≤((H.b*H.ww:Nat):Int))=decide (v≤H.n)):=by unfold Hid HS.n;simp only [Int.ofNat_le]
 generalize H.n=n at *
 generalize H.b*H.ww=m at *
 have h0:decide ((0:Int)≤(v:Int))=true:=decide_eq_true (by omega)
 clear h
 go_enter Tryz.func118,Tryz.ntmps118
 go_wp2_with (go_at_call 157;refine HB.out.mono ?_;rintro e w1 ⟨rfl,rfl⟩)
 all_goals
  go_ret
  refine ⟨?_,rfl⟩
  rw [← HE.out]
  simp
theorem pK (h:au w D H) (a:Nat):Calls Tryz.prog 28 #[.pointer (some ⟨D 0,0,none⟩),.int .i64 (a:Int)] w fun e w'=>e = .returned (.tuple #[.int .i64 ((if H.bn a then H.dA a else 0:Nat):Int),.int .i64 (if H.bn a then 0 else 1)])∧w=w':=by
 have y4:=h.blk.cell 4 rfl
 have HI:=Lib.hid (Ae h a)
 have HB:=Lib.hid (h.cols.has a)
 unfold HS.dA
 generalize H.bn a=x at *
 generalize H.co a=y at *
 clear h
 cases x
 ·go_enter Tryz.func28,Tryz.ntmps28
  go_wp2_with (first|(go_at_call 33;refine HI.out.mono ?_;rintro e w1 ⟨rfl,rfl⟩)|(go_at_call 54;refine HB.out.mono ?_;rintro e w1 ⟨rfl,rfl⟩))
  go_ret2
  exact ⟨rfl,rfl⟩
 ·cases y
  all_goals
   go_enter Tryz.func28,Tryz.ntmps28
   go_wp2_with (first|(go_at_call 33;refine HI.out.mono ?_;rintro e w1 ⟨rfl,rfl⟩)|(go_at_call 54;refine HB.out.mono ?_;rintro e w1 ⟨rfl,rfl⟩))
   go_ret2
   exact ⟨rfl,rfl⟩
theorem yX (h:au w D H) (a c:Nat):Calls Tryz.prog 216 #[.pointer (some ⟨D 0,0,none⟩),.int .i64 (a:Int),.int .i64 (c:Int)] w fun e w'=>e = .returned (.tuple #[.bool (H.dw a c),.int .i64 (if H.bn a&&decide (c<2) then 0 else 1)])∧au w' D (H.aY a c)∧Keep (HF D) w w':=by
 have y4:=h.blk.cell 4 rfl
 have HI:=Lib.hid (Ae h a)
 have HC:=Lib.hid (yV c w)
 by_cases hx:H.bn a=true
 ·by_cases hc:c<2
  ·have ha:a<H.sz:=h.born.low hx
   have HP:=Lib.hid (h.cols.put a ha (c==1))
   rw [hx] at HI
   rw [decide_eq_true hc] at HC
   have HEQ:Hid (((c:Int)==1)=(c==1)):=by unfold Hid;rw [Bool.eq_iff_iff];simp;omega
   have HE:Hid (H.dw a c=(H.co a != (c==1))∧(H.bn a&&decide (c<2))=true):=⟨by unfold HS.dw;rw [hx,decide_eq_true hc];simp,by rw [hx,decide_eq_true hc];rfl⟩
   have HR:Hid (∀ w',Keep (only (D 11)) w w'→jq w' (D 10) (D 11) H.sz (upd H.co a (c==1))→au w' D (H.aY a c)):=fun w' k hs=>by
    by_cases hp:H.dw a c=true
    ·unfold HS.aY
     rw [if_pos hp]
     exact h.Ad (k.sel1 rfl) hs (h.inv.dG a (c==1))
    ·unfold HS.aY
     rw [if_neg hp]
     have hq:H.co a=(c==1):=by rw [HE.out.1] at hp;simpa using hp
     have hu:upd H.co a (c==1)=H.co:=by
      funext x
      unfold upd
      split
      ·rename_i e;subst e;exact hq.symm
      ·rfl
     rw [hu] at hs
     exact h.Ad (s:=H.co) (k.sel1 rfl) hs h.inv
   rw [HE.out.1,HE.out.2]
   generalize H.aY a c=H' at *
   generalize (H.co a != (c==1))=z at *
   have Vl:=HEQ.out
   generalize (c==1)=cc at *
   clear h hx hc ha HE HEQ
   go_enter Tryz.func216,Tryz.ntmps216
   go_wp2_with (first|(go_at_call 33;refine HI.out.mono ?_;rintro e w1 ⟨rfl,rfl⟩)|(go_at_call 113;refine HC.out.mono ?_;rintro e w1 ⟨rfl,rfl⟩)|(go_at_call 163;refine HP.out.mono ?_;rintro e w1 ⟨rfl,hs,hk⟩;have HS:=Lib.hid hs;have HK:=Lib.hid hk;clear hs hk))
   go_ret2
   exact ⟨rfl,HR.out _ HK.out HS.out,(HK.out.sel1 (I:=[11]) rfl).hf rfl⟩
  ·have HE:Hid (H.dw a c=false∧(H.bn a&&decide (c<2))=false∧H.aY a c=H):=by
    have h1:H.dw a c=false:=by unfold HS.dw;rw [decide_eq_false hc];simp
    exact ⟨h1,by rw [decide_eq_false hc];simp,by unfold HS.aY;rw [h1];rfl⟩
   rw [HE.out.1,HE.out.2.1,HE.out.2.2]
   rw [decide_eq_false hc] at HC
   rw [hx] at HI
   have HH:=Lib.hid h
   clear h hx hc HE
   go_enter Tryz.func216,Tryz.ntmps216
   go_wp2_with (first|(go_at_call 33;refine HI.out.mono ?_;rintro e w1 ⟨rfl,rfl⟩)|(go_at_call 113;refine HC.out.mono ?_;rintro e w1 ⟨rfl,rfl⟩))
   go_ret2
   exact ⟨rfl,HH.out,Keep.refl _ _⟩
 ·have hx0:H.bn a=false:=by simpa using hx
  have HE:Hid (H.dw a c=false∧(H.bn a&&decide (c<2))=false∧H.aY a c=H):=by
   have h1:H.dw a c=false:=by unfold HS.dw;rw [hx0];simp
   exact ⟨h1,by rw [hx0];simp,by unfold HS.aY;rw [h1];rfl⟩
  rw [HE.out.1,HE.out.2.1,HE.out.2.2]
  rw [hx0] at HI
  have HH:=Lib.hid h
  clear h hx hx0 HE
  go_enter Tryz.func216,Tryz.ntmps216
  go_wp2_with (first|(go_at_call 33;refine HI.out.mono ?_;rintro e w1 ⟨rfl,rfl⟩)|(go_at_call 113;refine HC.out.mono ?_;rintro e w1 ⟨rfl,rfl⟩))
  go_ret2
  exact ⟨rfl,HH.out,Keep.refl _ _⟩
end
end
end Go.Proofs.YtanfphjoebobaaaGreatDoor
