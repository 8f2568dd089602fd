/- Parts of a walk, put together and made shorter by a program of mine. No conditions. -/
import Derived.Test.YtanfphjoebobaaaGreatDoorZzcan
import Derived.Test.YtanfphjoebobaaaGreatDoorZzcaa
import Derived.Deep.RegionHeld3
import Derived.IntWalk
import Derived.Test.YtanfphjoebobaaaGreatDoorZzcap
import Derived.Test.YtanfphjoebobaaaGreatDoorZzcaf
namespace Go.Proofs.YtanfphjoebobaaaGreatDoor
set_option maxRecDepth 100000
set_option maxHeartbeats 16000000
section
attribute [local go_sem] Oper.semAt_some
open Go.RowKit
section
variable {w w':World}
theorem times_any (a b p:Nat) (ha:1≤a) (hp:a*b=p) (hp2:p≤1000000000000) (w:World):Calls Tryz.prog 50 #[.int .i64 (a:Int),.int .i64 (b:Int)] w fun e w'=>e = .returned (.int .i64 (p:Int))∧w=w':=by
 obtain ⟨q,hq⟩:∃ q,q=4611686018427387904/a:=⟨_,rfl⟩
 have hbq:b≤q:=by
  rw [hq,Nat.le_div_iff_mul_le (by omega),Nat.mul_comm,hp];omega
 have hq1:(4611686018427387904:Int).tdiv (a:Int)=(q:Int):=by
  rw [Int.tdiv_eq_ediv_of_nonneg (by omega),hq];rfl
 have hq2:(4611686018427387904:Int)/(a:Int)=(q:Int):=by rw [hq];rfl
 have hql:q≤4611686018427387904:=by rw [hq];exact Nat.div_le_self _ _
 have hqI:(q:Int)≤4611686018427387904:=by omega
 have hI:(0:Int)<(a:Int):=by omega
 have h0:¬ (a:Int)=0:=by omega
 have hnb:¬ (q:Int)<(b:Int):=by omega
 have hm:(a:Int)*(b:Int)=(p:Int):=by rw [← hp];simp
 have hpI:(p:Int)≤1000000000000:=by omega
 clear hq hp hbq
 go_enter Tryz.func50,Tryz.ntmps50
 go_wp2_with fail
 go_ret
 exact ⟨rfl,rfl⟩
abbrev mM (b w m r c l s:Nat):Value := .agg #[.int .i64 (b:Int),.int .i64 (w:Int),.int .i64 (m:Int),.int .i64 (r:Int),.int .i64 (c:Int),.int .i64 (l:Int),.int .i64 (s:Int)]
variable {b ww m r c l s:Nat}
theorem Hz (hb:b≤4096) (hw:ww≤256) (n:Nat) (hn:b*(ww/2)=n) (w:World):Calls Tryz.prog 94 #[mM b ww m r c l s] w fun e w'=>e = .returned (.int .i64 (n:Int))∧Keep none_ w w':=by
 obtain ⟨W0,hW0⟩:∃ W0,W0=w.alloc (.cells #[.int .i64 (b:Int),.int .i64 (ww:Int),.int .i64 (m:Int),.int .i64 (r:Int),.int .i64 (c:Int),.int .i64 (l:Int),.int .i64 (s:Int)] 23):=⟨_,rfl⟩
 have k0:Keep none_ w W0:=by rw [hW0];exact (Keep.refl _ _).alloc _
 have hbk:Blk W0 w.heap.size [.int .i64 (b:Int),.int .i64 (ww:Int),.int .i64 (m:Int),.int .i64 (r:Int),.int .i64 (c:Int),.int .i64 (l:Int),.int .i64 (s:Int)] 23:=by rw [hW0];exact Blk.new w _ _
 have y0:=hbk.cell 0 rfl;have y1:=hbk.cell 1 rfl
 have HK0:=Lib.hid k0
 rw [hW0] at y0 y1 HK0
 obtain ⟨h,hh⟩:∃ h,h=ww/2:=⟨_,rfl⟩
 have e1:(ww:Int).tdiv 2=(h:Int):=by rw [Int.tdiv_eq_ediv_of_nonneg (by omega)];omega
 have e2:(ww:Int)/2=(h:Int):=by omega
 have hm2:(b:Int)*(h:Int)=(n:Int):=by rw [← hn,hh];simp
 have hhI:(h:Int)≤128:=by omega
 have hnI:(n:Int)≤1000000:=by
  have:b*h≤4096*128:=Nat.mul_le_mul hb (by omega)
  rw [← hh] at hn
  omega
 clear hbk hW0 k0 hn hh
 go_enter Tryz.func94,Tryz.ntmps94
 go_wp2_with fail
 go_ret
 exact ⟨rfl,HK0.out⟩
theorem Gl (hw:ww≤256) (hl:l≤256) (w:World):Calls Tryz.prog 51 #[mM b ww m r c l s] w fun e w'=>e = .returned (.int .i64 ((64+4*l+ww:Nat):Int))∧Keep none_ w w':=by
 obtain ⟨W0,hW0⟩:∃ W0,W0=w.alloc (.cells #[.int .i64 (b:Int),.int .i64 (ww:Int),.int .i64 (m:Int),.int .i64 (r:Int),.int .i64 (c:Int),.int .i64 (l:Int),.int .i64 (s:Int)] 23):=⟨_,rfl⟩
 have k0:Keep none_ w W0:=by rw [hW0];exact (Keep.refl _ _).alloc _
 have hbk:Blk W0 w.heap.size [.int .i64 (b:Int),.int .i64 (ww:Int),.int .i64 (m:Int),.int .i64 (r:Int),.int .i64 (c:Int),.int .i64 (l:Int),.int .i64 (s:Int)] 23:=by rw [hW0];exact Blk.new w _ _
 have y5:=hbk.cell 5 rfl;have y1:=hbk.cell 1 rfl
 have HK0:=Lib.hid k0
 rw [hW0] at y5 y1 HK0
 have hlI:(l:Int)≤256:=by omega
 have hwI:(ww:Int)≤256:=by omega
 clear hbk hW0 k0
 go_enter Tryz.func51,Tryz.ntmps51
 go_wp2_with fail
 go_ret
 exact ⟨by simp,HK0.out⟩
theorem wF (hr:r≤64) (hl:l≤256) (q:Nat) (hq:r*(l+8)=q) (w:World):Calls Tryz.prog 52 #[mM b ww m r c l s] w fun e w'=>e = .returned (.int .i64 ((16+q+4*l:Nat):Int))∧Keep none_ w w':=by
 obtain ⟨W0,hW0⟩:∃ W0,W0=w.alloc (.cells #[.int .i64 (b:Int),.int .i64 (ww:Int),.int .i64 (m:Int),.int .i64 (r:Int),.int .i64 (c:Int),.int .i64 (l:Int),.int .i64 (s:Int)] 23):=⟨_,rfl⟩
 have k0:Keep none_ w W0:=by rw [hW0];exact (Keep.refl _ _).alloc _
 have hbk:Blk W0 w.heap.size [.int .i64 (b:Int),.int .i64 (ww:Int),.int .i64 (m:Int),.int .i64 (r:Int),.int .i64 (c:Int),.int .i64 (l:Int),.int .i64 (s:Int)] 23:=by rw [hW0];exact Blk.new w _ _
 have y5:=hbk.cell 5 rfl;have y3:=hbk.cell 3 rfl
 have HK0:=Lib.hid k0
 rw [hW0] at y5 y3 HK0
 have hlI:(l:Int)≤256:=by omega
 have hm2:(r:Int)*((l:Int)+8)=(q:Int):=by rw [← hq];simp
 have hqI:(q:Int)≤100000:=by
  have:r*(l+8)≤64*264:=Nat.mul_le_mul hr (by omega)
  omega
 clear hbk hW0 k0 hq
 go_enter Tryz.func52,Tryz.ntmps52
 go_wp2_with fail
 go_ret
 exact ⟨by simp,HK0.out⟩
theorem yJ (E1 E2:Int) (a b p:Nat) (h1:E1=(a:Int)) (h2:E2=(b:Int)) (ha:1≤a) (hp:a*b=p) (hp2:p≤1000000000000) (w:World):Calls Tryz.prog 50 #[.int .i64 E1,.int .i64 E2] w fun e w'=>e = .returned (.int .i64 (p:Int))∧w=w':=by
 subst h1 h2
 exact times_any a b p ha hp hp2 w
theorem Dz (hb:b≤4) (hw:ww≤40) (hm:m≤4) (hr:r≤5) (hc:c≤4) (hl:l≤4) (n o aa X mk:Nat) (hn:b*(ww/2)=n) (ho:o=64+4*l+ww) (haa:aa=16+r*(l+8)+4*l) (hX:X=40*n+2*m*(l+4)+2*c+o+aa+40) (hmk:(2*n+6)*X=mk) (w:World) :
 Calls Tryz.prog 49 #[mM b ww m r c l s,.int .i64 1] w fun e w'=>e = .returned (.int .i64 (mk:Int))∧Keep none_ w w':=by
 obtain ⟨W0,hW0⟩:∃ W0,W0=w.alloc (.cells #[.int .i64 (b:Int),.int .i64 (ww:Int),.int .i64 (m:Int),.int .i64 (r:Int),.int .i64 (c:Int),.int .i64 (l:Int),.int .i64 (s:Int)] 23):=⟨_,rfl⟩
 have k0:Keep none_ w W0:=by rw [hW0];exact (Keep.refl _ _).alloc _
 have hbk:Blk W0 w.heap.size [.int .i64 (b:Int),.int .i64 (ww:Int),.int .i64 (m:Int),.int .i64 (r:Int),.int .i64 (c:Int),.int .i64 (l:Int),.int .i64 (s:Int)] 23:=by rw [hW0];exact Blk.new w _ _
 have HCL:Hid (∀ W,Keep none_ W0 W→W.cell? ⟨w.heap.size,0,none⟩=some (.int .i64 (b:Int))∧W.cell? ⟨w.heap.size,1,none⟩=some (.int .i64 (ww:Int))∧W.cell? ⟨w.heap.size,2,none⟩=some (.int .i64 (m:Int))∧W.cell? ⟨w.heap.size,3,none⟩=some (.int .i64 (r:Int))∧W.cell? ⟨w.heap.size,4,none⟩=some (.int .i64 (c:Int))∧W.cell? ⟨w.heap.size,5,none⟩=some (.int .i64 (l:Int))∧W.cell? ⟨w.heap.size,6,none⟩=some (.int .i64 (s:Int))):=fun W k=>by
  have h:=k.blk hbk (fun f=>f)
  exact ⟨h.cell 0 rfl,h.cell 1 rfl,h.cell 2 rfl,h.cell 3 rfl,h.cell 4 rfl,h.cell 5 rfl,h.cell 6 rfl⟩
 obtain ⟨y0,y1,y2,y3,y4,y5,y6⟩:=HCL.out W0 (Keep.refl _ _)
 have HK0:=Lib.hid k0
 have HW0:=Lib.hid hW0
 obtain ⟨ml,hml⟩:∃ ml,ml=2*m*(l+4):=⟨_,rfl⟩
 have UG:2*(m:Int)*((l:Int)+4)=(ml:Int):=by rw [hml];simp
 have hml2:ml≤2*4*8:=by rw [hml];exact Nat.mul_le_mul (Nat.mul_le_mul_left 2 hm) (by omega)
 have hn2:n≤4*20:=by rw [← hn];exact Nat.mul_le_mul hb (by omega)
 have hrl2:r*(l+8)≤5*12:=Nat.mul_le_mul hr (by omega)
 have haa2:aa≤100:=by omega
 have ho2:o≤120:=by omega
 rw [← hml] at hX
 have hX2:X≤4000:=by omega
 have hmk2:mk≤166*4000:=by rw [← hmk];exact Nat.mul_le_mul (by omega) hX2
 have HSL:Hid (∀ W,Calls Tryz.prog 94 #[mM b ww m r c l s] W fun e w'=>e = .returned (.int .i64 (n:Int))∧Keep none_ W w'):=fun W=>Hz (by omega) (by omega) n hn W
 have HOP:Hid (∀ W,Calls Tryz.prog 51 #[mM b ww m r c l s] W fun e w'=>e = .returned (.int .i64 (o:Int))∧Keep none_ W w'):=fun W=>by
  have h:=Gl (b:=b) (m:=m) (r:=r) (c:=c) (s:=s) (ww:=ww) (l:=l) (by omega) (by omega) W
  rw [← ho] at h;exact h
 have HAN:Hid (∀ W,Calls Tryz.prog 52 #[mM b ww m r c l s] W fun e w'=>e = .returned (.int .i64 (aa:Int))∧Keep none_ W w'):=fun W=>by
  have h:=wF (b:=b) (m:=m) (r:=r) (c:=c) (s:=s) (ww:=ww) (l:=l) (by omega) (by omega) (r*(l+8)) rfl W
  rw [← haa] at h;exact h
 obtain ⟨z,hz⟩:∃ z,z=2*n+6:=⟨_,rfl⟩
 rw [← hz] at hmk
 have HT:Hid (∀ W (E1 E2 P:Int),((E1=1∧E2=(z:Int)∧P=(z:Int))∨(E1=(z:Int)∧E2=(X:Int)∧P=(mk:Int)))→Calls Tryz.prog 50 #[.int .i64 E1,.int .i64 E2] W fun e w'=>e = .returned (.int .i64 P)∧W=w'):=fun W E1 E2 P h=>by
  rcases h with ⟨h1,h2,rfl⟩|⟨h1,h2,rfl⟩
  ·exact yJ E1 E2 1 z _ h1 h2 (by omega) (by omega) (by omega) W
  ·exact yJ E1 E2 z X mk h1 h2 (by omega) hmk (by omega) W
 have HZ:Hid (2*(n:Int)+6=(z:Int)):=by show _=_;omega
 have HX:Hid ((X:Int)=40*(n:Int)+(ml:Int)+2*(c:Int)+(o:Int)+(aa:Int)+40):=by show _=_;omega
 have i1:(n:Int)≤80:=by omega
 have i2:(ml:Int)≤64:=by omega
 have i3:(o:Int)≤120:=by omega
 have i4:(aa:Int)≤100:=by omega
 have i5:(c:Int)≤4:=by omega
 have i6:(l:Int)≤4:=by omega
 have i7:(m:Int)≤4:=by omega
 have g1:Hid (IntKind.i64.wrap (40*(n:Int))=40*(n:Int)):=IntWalk.i64_in _ (by omega)
 have g2:Hid (IntKind.i64.wrap (2*(m:Int))=2*(m:Int)):=IntWalk.i64_in _ (by omega)
 have g3:Hid (IntKind.i64.wrap ((l:Int)+4)=(l:Int)+4):=IntWalk.i64_in _ (by omega)
 have g4:Hid (IntKind.i64.wrap (2*(m:Int)*((l:Int)+4))=(ml:Int)):=by show _=_;rw [UG];exact IntWalk.i64_in _ (by omega)
 have g5:Hid (IntKind.i64.wrap (40*(n:Int)+(ml:Int))=40*(n:Int)+(ml:Int)):=IntWalk.i64_in _ (by omega)
 have g6:Hid (IntKind.i64.wrap (2*(c:Int))=2*(c:Int)):=IntWalk.i64_in _ (by omega)
 have g7:Hid (IntKind.i64.wrap (40*(n:Int)+(ml:Int)+2*(c:Int))=40*(n:Int)+(ml:Int)+2*(c:Int)):=IntWalk.i64_in _ (by omega)
 have g8:Hid (IntKind.i64.wrap (40*(n:Int)+(ml:Int)+2*(c:Int)+(o:Int))=40*(n:Int)+(ml:Int)+2*(c:Int)+(o:Int)):=IntWalk.i64_in _ (by omega)
 have g9:Hid (IntKind.i64.wrap (40*(n:Int)+(ml:Int)+2*(c:Int)+(o:Int)+(aa:Int))=40*(n:Int)+(ml:Int)+2*(c:Int)+(o:Int)+(aa:Int)):=IntWalk.i64_in _ (by omega)
 have g10:Hid (IntKind.i64.wrap (40*(n:Int)+(ml:Int)+2*(c:Int)+(o:Int)+(aa:Int)+40)=40*(n:Int)+(ml:Int)+2*(c:Int)+(o:Int)+(aa:Int)+40):=IntWalk.i64_in _ (by omega)
 have f1:Hid (IntKind.i64.wrap (2*(n:Int))=2*(n:Int)):=IntWalk.i64_in _ (by omega)
 have f2:Hid (IntKind.i64.wrap (2*(n:Int)+6)=2*(n:Int)+6):=IntWalk.i64_in _ (by omega)
 rw [hW0] at y0 y1 y2 y3 y4 y5 y6
 clear UG
 clear hbk hW0 k0 hn ho haa hX hmk hml hn2 hrl2 haa2 ho2 hX2 hmk2 hml2 hb hw hm hr hc hl hz
 go_enter Tryz.func49,Tryz.ntmps49
 go_wp2_with fail
 rw [← HW0.out]
 refine (HSL.out W0).mono ?_
 rintro e w1 ⟨rfl,k1⟩
 have HK:=Lib.hid k1.drew
 clear k1 y0 y1 y2 y3 y4 y5 y6 HSL HW0
 go_wp2_with fail
 go_region_held3 (fun W'=>W'.cell? ⟨w.heap.size,0,none⟩=some (.int .i64 (b:Int))∧W'.cell? ⟨w.heap.size,1,none⟩=some (.int .i64 (ww:Int))∧W'.cell? ⟨w.heap.size,2,none⟩=some (.int .i64 (m:Int))∧W'.cell? ⟨w.heap.size,3,none⟩=some (.int .i64 (r:Int))∧W'.cell? ⟨w.heap.size,4,none⟩=some (.int .i64 (c:Int))∧W'.cell? ⟨w.heap.size,5,none⟩=some (.int .i64 (l:Int))∧W'.cell? ⟨w.heap.size,6,none⟩=some (.int .i64 (s:Int)))
  (first
   | exact HCL.out _ HK.out
   | fail "iw")
  (first
   | (go_at_call 51
      refine (HOP.out _).mono ?_
      rintro e w2 ⟨rfl,k2⟩
      have HK:=Lib.hid (HK.out.trans k2)
      clear k2)
   | (go_at_call 52
      refine (HAN.out _).mono ?_
      rintro e w2 ⟨rfl,k2⟩
      have HK:=Lib.hid (HK.out.trans k2)
      clear k2)
   | (go_at_call 50
      refine (HT.out _ _ _ _ (by first|exact Or.inr ⟨rfl,(by rw [g1.out,g2.out,g3.out,g4.out,g5.out,g6.out,g7.out,g8.out,g9.out,g10.out];exact HX.out.symm),rfl⟩|exact Or.inl ⟨rfl,(by rw [f1.out,f2.out];exact HZ.out),rfl⟩)).mono ?_
      rintro e w2 ⟨rfl,rfl⟩)
   | fail "jc")
 all_goals
  go_wp2_with fail
  go_ret
  exact ⟨rfl,HK0.out.trans HK.out⟩
theorem H7 (hb:b≤4) (hw:ww≤40) (hm:m≤4) (hr:r≤5) (hc:c≤4) (hl:l≤4) (o aa mk bb:Nat) (ho:o=64+4*l+ww) (haa:aa=16+r*(l+8)+4*l) (hmk:(2*(b*(ww/2))+6)*(40*(b*(ww/2))+2*m*(l+4)+2*c+o+aa+40)=mk) (hbb:bb=2*b*(ww+8)+3*o+2*aa+4*m+60) (hmk2:mk≤1000000) (w:World) :
 Calls Tryz.prog 25 #[mM b ww m r c l s,.int .i64 1] w fun e w'=>e = .returned (.int .i64 ((mk+bb:Nat):Int))∧Keep none_ w w':=by
 obtain ⟨W0,hW0⟩:∃ W0,W0=w.alloc (.cells #[.int .i64 (b:Int),.int .i64 (ww:Int),.int .i64 (m:Int),.int .i64 (r:Int),.int .i64 (c:Int),.int .i64 (l:Int),.int .i64 (s:Int)] 23):=⟨_,rfl⟩
 have k0:Keep none_ w W0:=by rw [hW0];exact (Keep.refl _ _).alloc _
 have hbk:Blk W0 w.heap.size [.int .i64 (b:Int),.int .i64 (ww:Int),.int .i64 (m:Int),.int .i64 (r:Int),.int .i64 (c:Int),.int .i64 (l:Int),.int .i64 (s:Int)] 23:=by rw [hW0];exact Blk.new w _ _
 have HCL:Hid (∀ W,Keep none_ W0 W→W.cell? ⟨w.heap.size,0,none⟩=some (.int .i64 (b:Int))∧W.cell? ⟨w.heap.size,1,none⟩=some (.int .i64 (ww:Int))∧W.cell? ⟨w.heap.size,2,none⟩=some (.int .i64 (m:Int))∧W.cell? ⟨w.heap.size,3,none⟩=some (.int .i64 (r:Int))∧W.cell? ⟨w.heap.size,4,none⟩=some (.int .i64 (c:Int))∧W.cell? ⟨w.heap.size,5,none⟩=some (.int .i64 (l:Int))∧W.cell? ⟨w.heap.size,6,none⟩=some (.int .i64 (s:Int))):=fun W k=>by
  have h:=k.blk hbk (fun f=>f)
  exact ⟨h.cell 0 rfl,h.cell 1 rfl,h.cell 2 rfl,h.cell 3 rfl,h.cell 4 rfl,h.cell 5 rfl,h.cell 6 rfl⟩
 obtain ⟨y0,y1,y2,y3,y4,y5,y6⟩:=HCL.out W0 (Keep.refl _ _)
 have HK0:=Lib.hid k0
 have HW0:=Lib.hid hW0
 obtain ⟨q,hq⟩:∃ q,q=2*b*(ww+8):=⟨_,rfl⟩
 have hqI:2*(b:Int)*((ww:Int)+8)=(q:Int):=by rw [hq];simp
 have hq2:q≤2*4*48:=by rw [hq];exact Nat.mul_le_mul (Nat.mul_le_mul_left 2 hb) (by omega)
 have hrl2:r*(l+8)≤5*12:=Nat.mul_le_mul hr (by omega)
 have haa2:aa≤100:=by omega
 have ho2:o≤120:=by omega
 rw [← hq] at hbb
 have hbb2:bb≤2000:=by omega
 have HMK:Hid (∀ W,Calls Tryz.prog 49 #[mM b ww m r c l s,.int .i64 1] W fun e w'=>e = .returned (.int .i64 (mk:Int))∧Keep none_ W w'):=fun W=>Dz hb hw hm hr hc hl _ o aa _ mk rfl ho haa rfl hmk W
 have HOP:Hid (∀ W,Calls Tryz.prog 51 #[mM b ww m r c l s] W fun e w'=>e = .returned (.int .i64 (o:Int))∧Keep none_ W w'):=fun W=>by
  have h:=Gl (b:=b) (m:=m) (r:=r) (c:=c) (s:=s) (ww:=ww) (l:=l) (by omega) (by omega) W
  rw [← ho] at h;exact h
 have HAN:Hid (∀ W,Calls Tryz.prog 52 #[mM b ww m r c l s] W fun e w'=>e = .returned (.int .i64 (aa:Int))∧Keep none_ W w'):=fun W=>by
  have h:=wF (b:=b) (m:=m) (r:=r) (c:=c) (s:=s) (ww:=ww) (l:=l) (by omega) (by omega) (r*(l+8)) rfl W
  rw [← haa] at h;exact h
 have HT:Hid (∀ W (E2:Int),E2=(bb:Int)→Calls Tryz.prog 50 #[.int .i64 1,.int .i64 E2] W fun e w'=>e = .returned (.int .i64 (bb:Int))∧W=w'):=fun W E2 h2=>yJ 1 E2 1 bb _ rfl h2 (by omega) (by omega) (by omega) W
 have HX:Hid ((bb:Int)=(q:Int)+3*(o:Int)+2*(aa:Int)+4*(m:Int)+60):=by show _=_;omega
 have i1:(q:Int)≤384:=by omega
 have i3:(o:Int)≤120:=by omega
 have i4:(aa:Int)≤100:=by omega
 have i5:(b:Int)≤4:=by omega
 have i6:(ww:Int)≤40:=by omega
 have i7:(m:Int)≤4:=by omega
 have i8:(mk:Int)≤1000000:=by omega
 have i9:(bb:Int)≤2000:=by omega
 have g1:Hid (IntKind.i64.wrap (2*(b:Int))=2*(b:Int)):=IntWalk.i64_in _ (by omega)
 have g2:Hid (IntKind.i64.wrap ((ww:Int)+8)=(ww:Int)+8):=IntWalk.i64_in _ (by omega)
 have g3:Hid (IntKind.i64.wrap (2*(b:Int)*((ww:Int)+8))=(q:Int)):=by show _=_;rw [hqI];exact IntWalk.i64_in _ (by omega)
 have g4:Hid (IntKind.i64.wrap (3*(o:Int))=3*(o:Int)):=IntWalk.i64_in _ (by omega)
 have g5:Hid (IntKind.i64.wrap ((q:Int)+3*(o:Int))=(q:Int)+3*(o:Int)):=IntWalk.i64_in _ (by omega)
 have g6:Hid (IntKind.i64.wrap (2*(aa:Int))=2*(aa:Int)):=IntWalk.i64_in _ (by omega)
 have g7:Hid (IntKind.i64.wrap ((q:Int)+3*(o:Int)+2*(aa:Int))=(q:Int)+3*(o:Int)+2*(aa:Int)):=IntWalk.i64_in _ (by omega)
 have g8:Hid (IntKind.i64.wrap (4*(m:Int))=4*(m:Int)):=IntWalk.i64_in _ (by omega)
 have g9:Hid (IntKind.i64.wrap ((q:Int)+3*(o:Int)+2*(aa:Int)+4*(m:Int))=(q:Int)+3*(o:Int)+2*(aa:Int)+4*(m:Int)):=IntWalk.i64_in _ (by omega)
 have g10:Hid (IntKind.i64.wrap ((q:Int)+3*(o:Int)+2*(aa:Int)+4*(m:Int)+60)=(q:Int)+3*(o:Int)+2*(aa:Int)+4*(m:Int)+60):=IntWalk.i64_in _ (by omega)
 have hd:¬ (4611686018427387904 - (bb:Int))<(mk:Int):=by omega
 rw [hW0] at y0 y1 y2 y3 y4 y5 y6
 clear hqI hq hbk hW0 k0 ho haa hmk hbb hrl2 haa2 ho2 hbb2 hq2 hb hw hm hr hc hl hmk2
 go_enter Tryz.func25,Tryz.ntmps25
 go_wp2_with fail
 rw [← HW0.out]
 rw [← HW0.out] at y0 y1 y2 y3 y4 y5 y6
 have HK:=Lib.hid (Keep.refl none_ W0).drew
 clear HW0
 go_region_held3 (fun W'=>W'.cell? ⟨w.heap.size,0,none⟩=some (.int .i64 (b:Int))∧W'.cell? ⟨w.heap.size,1,none⟩=some (.int .i64 (ww:Int))∧W'.cell? ⟨w.heap.size,2,none⟩=some (.int .i64 (m:Int))∧W'.cell? ⟨w.heap.size,3,none⟩=some (.int .i64 (r:Int))∧W'.cell? ⟨w.heap.size,4,none⟩=some (.int .i64 (c:Int))∧W'.cell? ⟨w.heap.size,5,none⟩=some (.int .i64 (l:Int))∧W'.cell? ⟨w.heap.size,6,none⟩=some (.int .i64 (s:Int)))
  (first
   | exact HCL.out _ HK.out
   | fail "iw")
  (first
   | (go_at_call 49
      refine (HMK.out _).mono ?_
      rintro e w2 ⟨rfl,k2⟩
      have HK:=Lib.hid (HK.out.trans k2)
      clear k2)
   | (go_at_call 51
      refine (HOP.out _).mono ?_
      rintro e w2 ⟨rfl,k2⟩
      have HK:=Lib.hid (HK.out.trans k2)
      clear k2)
   | (go_at_call 52
      refine (HAN.out _).mono ?_
      rintro e w2 ⟨rfl,k2⟩
      have HK:=Lib.hid (HK.out.trans k2)
      clear k2)
   | (go_at_call 50
      refine (HT.out _ _ (by rw [g1.out,g2.out,g3.out,g4.out,g5.out,g6.out,g7.out,g8.out,g9.out,g10.out];exact HX.out.symm)).mono ?_
      rintro e w2 ⟨rfl,rfl⟩)
   | fail "jc")
 all_goals
  go_wp2_with fail
  go_ret
  exact ⟨rfl,HK0.out.trans HK.out⟩
theorem Lm (hb:b≤4) (hw:ww≤40) (hm:m≤4) (hr:r≤5) (hc:c≤4) (hl:l≤4) (hN:wU b ww m r c l≤1000000) (w:World) :
 Calls Tryz.prog 25 #[mM b ww m r c l s,.int .i64 1] w fun e w'=>e = .returned (.int .i64 ((wU b ww m r c l:Nat):Int))∧Keep none_ w w':=by
 have h:=H7 (b:=b) (ww:=ww) (m:=m) (r:=r) (c:=c) (l:=l) (s:=s) hb hw hm hr hc hl _ _ _ _ rfl rfl rfl rfl (by unfold wU at hN;omega) w
 exact h
end
end
section
open Go.RowKit
structure Dm where
 b:Nat
 w:Nat
 m:Nat
 r:Nat
 ce:Nat
 l:Nat
 s:Nat
structure Dm.Ok (d:Dm):Prop where
 b:1≤d.b∧d.b≤4
 w:16≤d.w∧d.w≤35
 m:1≤d.m∧d.m≤4
 r:1≤d.r∧d.r≤5
 ce:d.ce≤3
 l:1≤d.l∧d.l≤4
def Dm.conf (d:Dm):aB:=⟨d.b,d.w,d.m,d.r,d.ce,d.l,d.s⟩
def Dm.most (d:Dm):Nat:=wU d.b d.w d.m d.r d.ce d.l
theorem Oz (c:aB):∃ d:Dm,c.little=d.conf∧d.Ok:=by
 obtain ⟨b,w,m,r,ce,l,s⟩:=c
 refine ⟨⟨(1+b%4).toNat,(16+w%20).toNat,(1+m%4).toNat,(1+r%5).toNat,(ce%4).toNat,(1+l%4).toNat,(1+s%4).toNat⟩,?_,⟨?_,?_,?_,?_,?_,?_⟩⟩
 ·simp only [aB.little,Dm.conf,aB.mk.injEq];omega
 all_goals
  simp only
  omega
section
variable {o o' o0:Ow} {w w' W W' W0:World} {G:Geo} {gs:List MG} {q:CG} {x y:WS} {v mv:Value} {N κ K:Nat} {d:Dm}
theorem Dm.Ok.most (h:d.Ok):sK d.m d.b d.ce d.r (d.w/2)+2≤d.most∧d.most≤1000000:=by
 obtain ⟨h1,_,h3⟩:=KZ h.b h.w h.m h.r h.ce h.l
 exact ⟨h1,h3⟩
theorem Dm.Ok.bound (h:d.Ok) (w:World):Calls Tryz.prog 25 #[.agg d.conf.cells.toArray,.int .i64 1] w fun e w'=>e = .returned (.int .i64 (d.most:Int))∧Keep none_ w w':=by
 have h1:=h.b;have h2:=h.w;have h3:=h.m;have h4:=h.r;have h5:=h.ce;have h6:=h.l
 exact Lm (s:=d.s) (by omega) (by omega) (by omega) (by omega) (by omega) (by omega) h.most.2 w
structure CI (d:Dm) (w W:World) (o:Ow) (G:Geo) (gs:List MG) (q:CG) (mv:Value) (N:Nat) (x:WS) (κ K:Nat):Prop where
 cw:CW w W o G gs q x
 ok:WOk N x
 few:nN x
 mv:fV o W mv gs
 idl:Idl d.m d.b d.ce κ x
 regs:∀ (i:Nat) (m:MS),x.muts[i]?=some m→m.regs.length≤d.r
 ww:x.s.H.ww=d.w
 conf:x.s.H.c=d.conf
 dr:jF x.coll
 wish:x.coll.wish=false
 cyc:x.coll.cycles=K
 len:gs.length=d.m
theorem CI.still (h:CI d w W o G gs q mv N x κ K) (k:Keep none_ W W'):CI d w W' o G gs q mv N x κ K :=
 ⟨h.cw.nG k,h.ok,h.few,h.mv.keep (I:=[]) k.aF rfl (aH.refl _ _),h.idl,h.regs,h.ww,h.conf,h.dr,h.wish,h.cyc,h.len⟩
theorem CI.made {X:StP} {ma:Option Addr} {mc:Nat} (hd:X.c.little=d.conf) (hcw:CW w W o G gs q (dN X)) (hok:WOk 300 (dN X)) (hfw:nN (dN X)) (hmv:fV o W (.slice ma gs.length mc) gs) (hI:La X) (hgl:gs.length=X.c.little.m.toNat):CI d w W o G gs q (.slice ma gs.length mc) 300 (dN X) 0 0:=by
 obtain ⟨i1,i2,i3,i4,i5,i6,i7,i8,i9⟩:=hI
 rw [hd] at i1 i4 i6 i7 hgl
 refine ⟨hcw,hok,hfw,hmv,i1,i4,i6,i7,i8,?_,?_,hgl⟩
 ·rw [i3];rfl
 ·rw [i3];rfl
theorem CI.config (h:CI d w W o G gs q mv N x κ K):Calls Tryz.prog 26 #[.pointer (some ⟨G.D 0,0,none⟩)] W fun e w'=>e = .returned (.agg d.conf.cells.toArray)∧Keep none_ W w':=by
 have:=rG h.cw.coll.sh.heap
 rw [h.conf] at this
 exact this
theorem CI.cycle (h:CI d w W o G gs q mv N x κ K) (hd:d.Ok) (hN:N≤900000000):Calls Tryz.prog 27 #[.pointer (some ⟨q.C,0,none⟩),mv,.int .i64 (d.most:Int)] W fun e W'=>∃ (fv pv:Value) (o':Ow) (z x0:WS) (out ph:List Nat),e = .returned (.tuple #[fv,pv,.bool true])∧CI d w W' o' G gs q mv (N+9000001) z (1 - κ) (K+1)∧CX W o W' o'∧jh 98 o' W' fv out∧jh 99 o' W' pv ph∧Le (gW d.m d.b d.ce κ x) x0 out ph z:=by
 obtain ⟨hm1,hm2⟩:=hd.most
 refine (Df h.cw h.ok h.few h.mv d.most (by omega)).mono ?_
 rintro e W' ⟨fv,pv,o',rfl,hs⟩
 rw [yI,h.len] at *
 have hI:Idl d.m d.b d.ce κ { x with coll:={ x.coll with wish:=true },picks:=x.picks+1 }:=h.idl.congr rfl rfl ⟨rfl,rfl,rfl,rfl,rfl,rfl,rfl,rfl⟩
 obtain ⟨out,ph,z,hr,hc⟩:=Lj hI rfl h.regs d.most (by rw [show ({ x with coll:={ x.coll with wish:=true },picks:=x.picks+1 }:WS).s.H.ww=d.w from h.ww];exact hm1) h.dr
 have hr':gJ d.m d.most { x with coll:={ x.coll with wish:=true },picks:=x.picks+1 } [] [x.coll.phase]=(out,ph,true,z):=hr
 rw [hr'] at hs ⊢
 obtain ⟨s1,s2,s3,s4,s5,s6,s7⟩:=hs
 have hk:N+1+d.most*(d.m+1)≤N+9000001:=by
  have h1:d.most*(d.m+1)≤d.most*9:=Nat.mul_le_mul_left _ (by have:=hd.m;omega)
  omega
 refine ⟨fv,pv,o',z,_,out,ph,rfl,⟨s1,s2.more hk,s3,s5,hc.idl,fun i m hm=>?_,hc.geo.2.2.1.trans h.ww,hc.geo.2.2.2.1.trans h.conf,hc.dr ?_,hc.cnt.1,?_,h.len⟩,s4,s6,s7,hc⟩
 ·rw [hc.regs i m hm]
  show (((x.muts[i]?).map MS.regs).getD []).length≤d.r
  cases hx:x.muts[i]? with
  | none=>exact Nat.zero_le _
  | some m'=>exact h.regs i m' hx
 ·refine Gi rfl ?_
  have:=Dh h.idl.ph h.dr
  show x.coll.cycles+1≤x.coll.drains+1
  omega
 ·rw [hc.cnt.2,← h.cyc]
  rfl
end
end
section
attribute [local go_sem] Oper.semAt_some
open Go.RowKit
section
variable {o o' o0:Ow} {w w' W W' W0:World} {G:Geo} {gs:List MG} {q:CG} {x y:WS} {v mv:Value} {N i n κ K:Nat} {l:List Nat} {d:Dm}
theorem CI.color (h:CI d w W o G gs q mv N x κ K) (hT:jU W):Calls Tryz.prog 23 #[.pointer (some ⟨G.D 0,0,none⟩)] W fun e w'=>∃ (a:Option Addr) (c:Nat),e = .returned (.slice a x.s.H.objs.length c)∧CI d w w' o G gs q mv N x κ K∧x.s.H.objs.length≤1048577∧(∀ t,t<x.s.H.objs.length→∃ b off u,a=some ⟨b,off,none⟩∧∀ W,Keep none_ w' W→W.cell? ⟨b,off+t,none⟩=some (.int .i64 ((u:Nat):Int))∧Calls Tryz.prog 28 #[.pointer (some ⟨G.D 0,0,none⟩),.int .i64 (u:Int)] W fun e w''=>e = .returned (.tuple #[.int .i64 (κ:Int),.int .i64 0])∧W=w''):=by
 refine (vN h.cw.coll.sh.heap hT).mono ?_
 rintro e w' ⟨v,rfl,ho,k⟩
 obtain ⟨a,c,rfl,hlen⟩:=jk (dP ho (Nat.zero_le _))
 have hn:Nums w' a x.s.H.objs.length x.s.H.objs:=by
  have e:aC x.s.H.objs=(x.s.H.objs.map fun x:Nat=>(x:Int)).map (Value.int .i64):=by simp [aC]
  rw [e] at ho
  obtain ⟨a',c',ee,hi,_⟩:=fC.D7 ho
  cases ee
  exact hi
 have hle:x.s.H.objs.length≤1048577:=by
  have h1:=yx x.s.H.bn x.s.H.sz
  have h2:=h.cw.coll.sh.heap.inv.nle
  unfold HS.objs
  unfold HS.sz at h1 ⊢
  omega
 refine ⟨a,c,rfl,h.still k,hle,fun t ht=>?_⟩
 obtain ⟨b,off,e1,hc⟩:=hn.cell ht
 refine ⟨b,off,_,e1,fun W kW=>⟨kW.still hc,?_⟩⟩
 refine (pK ((h.still k).still kW).cw.coll.sh.heap (x.s.H.objs.getD t 0)).mono ?_
 rintro e w'' ⟨rfl,rfl⟩
 have hmem:x.s.H.objs.getD t 0∈x.s.H.objs:=by
  rw [List.getD_eq_getElem?_getD,List.getElem?_eq_getElem ht]
  exact List.getElem_mem _
 have hbn:x.s.H.bn (x.s.H.objs.getD t 0)=true:=(kP.1 hmem).2
 have hco:=h.idl.all _ hbn
 refine ⟨?_,rfl⟩
 rw [if_pos hbn,if_pos hbn]
 have hk:=h.idl.k2
 have:x.s.H.dA (x.s.H.objs.getD t 0)=κ:=by
  unfold HS.dA
  rw [hco]
  rcases (by omega:κ=0∨κ=1) with rfl|rfl<;>rfl
 rw [this]
theorem uN (x:StP) (a1 a2 a3 a4:Option Addr) (n1 n2 n3 n4 p1 p2 p3 p4:Nat) (k:Int) (w:World) (h:wu w x a1 a2 a3 a4 n1 n2 n3 n4) (hk:(Lit.int .u8 k).wf=true) (hL:laidMetH Tryz.prog Rows.collectorColorsRow.laid w) :
 Calls Tryz.prog 6 #[oN x.c a1 a2 a3 a4 n1 n2 n3 n4 p1 p2 p3 p4,.int .u8 k] w fun e w'=>e = .returned (.bool true)∧Keep none_ w w':=by
 have hL' : laidMetH Tryz.prog [("math/bits.deBruijn64tab", Rows.laid_math_bits_deBruijn64tab), ("dustpan/config.limits", Rows.laid_dustpan_config_limits), ("dustpan/class.sizes", Rows.laid_dustpan_class_sizes), ("dustpan/op.kinds", Rows.laid_dustpan_op_kinds)] w := hL
 rw [MakeChecks.laidMetH_plain _ _ _ (by kernel_rfl)] at hL'
 have HLA:=Lib.hid (SA hL')
 clear hL hL'
 obtain ⟨kk,rfl,hkk⟩:∃ m:Nat,k=(m:Int)∧m≤255:=by
  simp [Lit.wf] at hk
  have h1:IntKind.u8.min=0:=by decide
  have h2:IntKind.u8.max=255:=by decide
  exact ⟨k.toNat,by omega,by omega⟩
 clear hk
 obtain ⟨W0,hW0⟩:∃ W0,W0=w.alloc (.cells #[.int .i64 x.c.b,.int .i64 x.c.w,.int .i64 x.c.m,.int .i64 x.c.r,.int .i64 x.c.c,.int .i64 x.c.l,.int .i64 x.c.s,.slice a1 n1 p1,.slice a2 n2 p2,.slice a3 n3 p3,.slice a4 n4 p4] 26):=⟨_,rfl⟩
 have k0:Keep none_ w W0:=by rw [hW0];exact (Keep.refl _ _).alloc _
 have hb0:Blk W0 w.heap.size [.int .i64 x.c.b,.int .i64 x.c.w,.int .i64 x.c.m,.int .i64 x.c.r,.int .i64 x.c.c,.int .i64 x.c.l,.int .i64 x.c.s,.slice a1 n1 p1,.slice a2 n2 p2,.slice a3 n3 p3,.slice a4 n4 p4] 26:=by rw [hW0];exact Blk.new w _ _
 have HW0:=Lib.hid hW0
 have HK0:=Lib.hid k0
 have HB0:=Lib.hid hb0
 have HST:=Lib.hid h
 clear hW0 k0 hb0 h
 go_enter Tryz.func6,Tryz.ntmps6
 go_wp2_with fail
 rw [← HW0.out]
 refine (Oy x.c a1 a2 a3 a4 n1 n2 n3 n4 p1 p2 p3 p4 W0).mono ?_
 rintro e w1 ⟨rfl,k1⟩
 have HK1:Hid (Keep none_ w w1):=HK0.out.trans k1
 have HB1:Hid (Blk w1 w.heap.size [.int .i64 x.c.b,.int .i64 x.c.w,.int .i64 x.c.m,.int .i64 x.c.r,.int .i64 x.c.c,.int .i64 x.c.l,.int .i64 x.c.s,.slice a1 n1 p1,.slice a2 n2 p2,.slice a3 n3 p3,.slice a4 n4 p4] 26):=k1.blk HB0.out (fun f=>f)
 clear k1 HK0 HB0 HW0
 have HAW:Hid (Calls Tryz.prog 10 #[] w1 fun e w'=>e = .returned (.bool true)∧Keep none_ w1 w'):=Hy (HLA.out.still HK1.out)
 cases hg:wE n1 n2 n3 n4 with
 | true =>
   go_wp2_with fail
   refine HAW.out.mono ?_
   rintro e w2 ⟨rfl,k2⟩
   have HK2:Hid (Keep none_ w w2):=HK1.out.trans k2
   clear k2 HAW
   go_wp2_with fail
   go_ret
   exact ⟨rfl,HK2.out⟩
 | false =>
   obtain ⟨m1,m2,m3,m4⟩:=Ox hg
   clear hg
   go_wp2_with fail
   refine HAW.out.mono ?_
   rintro e w2 ⟨rfl,k2⟩
   have HK2:Hid (Keep none_ w w2):=HK1.out.trans k2
   have hb2:=k2.blk HB1.out (fun f=>f)
   have z0:=hb2.cell 0 rfl;have z1:=hb2.cell 1 rfl;have z2:=hb2.cell 2 rfl;have z3:=hb2.cell 3 rfl;have z4:=hb2.cell 4 rfl;have z5:=hb2.cell 5 rfl;have z6:=hb2.cell 6 rfl;have z7:=hb2.cell 7 rfl;have z8:=hb2.cell 8 rfl;have z9:=hb2.cell 9 rfl;have z10:=hb2.cell 10 rfl
   have HMD:Hid (Calls Tryz.prog 11 #[oN x.c a1 a2 a3 a4 n1 n2 n3 n4 p1 p2 p3 p4] w2 (wS w2 x)):=F9 (HLA.out.still HK2.out) (HST.out.still HK2.out) m1 m2 m3 m4
   have hrl:x.rg.length≤20:=by have:=HST.out.r.len;omega
   clear k2 HAW hb2 HB1 HK1
   go_wp2_with fail
   clear z0 z1 z2 z3 z4 z5 z6 z7 z8 z9 z10
   refine HMD.out.mono ?_
   intro e2 w3 hm
   obtain ⟨o,G,q,gs,ma,mc,a,c,rfl,hcw,hok,hfw,hmv,hrow,hI,hgl⟩:=hm.get hrl
   clear hm HMD hrow
   obtain ⟨d,hd,hdk⟩:=Oz x.c
   have hCI:=CI.made hd hcw hok hfw hmv hI hgl
   generalize dN x=y at *
   have HDK:=Lib.hid hdk
   have HCF:Hid (∀ W,Keep none_ w3 W→Calls Tryz.prog 26 #[.pointer (some ⟨G.D 0,0,none⟩)] W fun e w'=>e = .returned (.agg d.conf.cells.toArray)∧CI d w2 w' o G gs q (.slice ma gs.length mc) 300 y 0 0):=fun W k=>by
    refine (hCI.still k).config.mono ?_
    rintro e w' ⟨rfl,k'⟩
    exact ⟨rfl,(hCI.still k).still k'⟩
   have hG:=hcw.coll.sh.qK.1
   clear hcw hok hfw hmv hI hgl hd hdk hCI
   go_wp2_with fail
   refine (HCF.out _ (by first|exact Keep.refl _ _|exact (Keep.refl _ _).drew)).mono ?_
   rintro e w4 ⟨rfl,hC4⟩
   have HC4:=Lib.hid hC4
   clear hC4 HCF hG
   go_wp2_with fail
   refine (HDK.out.bound w4).mono ?_
   rintro e w5 ⟨rfl,k5⟩
   have HC5:Hid (CI d w2 w5 o G gs q (.slice ma gs.length mc) 300 y 0 0):=HC4.out.still k5
   have hmI:(d.most:Int)≤1000000:=by have:=HDK.out.most.2;omega
   clear k5 HC4
   obtain ⟨r,hr⟩:∃ r,r=kk%4:=⟨_,rfl⟩
   have hr1:(kk:Int).tmod 4=(r:Int):=by rw [Int.tmod_eq_emod_of_nonneg (by omega)];omega
   have hr2:(kk:Int)%4=(r:Int):=by omega
   have hr3:r≤3:=by omega
   clear hr
   go_wp2_with fail
   go_loopw [10,11,12,13,14,15,16,17,18] (fun kv _ _ _ _ _ _ _ _ wr=>∃ (t:Nat) (o:Ow) (x:WS) (κ:Nat),t≤r+1∧kv = .int .i64 t∧CI d w2 wr o G gs q (.slice ma gs.length mc) (300+t*9000001) x κ t) (fun kv _ _ _ _ _ _ _ _ _=>r+1 - (intOf kv).toNat)
   case atStart=>exact ⟨0,o,y,0,Nat.zero_le _,rfl,HC5.out⟩
   case round =>
    obtain ⟨t,o1,x1,κ,ht,rfl,hC⟩:=hrel
    have HC:=Lib.hid hC
    clear hC HC5
    by_cases htk:t<r+1
    ·have htI:(t:Int)<1+(r:Int):=by omega
     have hκ:(κ:Int)≤1:=by have:=HC.out.idl.k2;omega
     obtain ⟨κ2,hκ2⟩:∃ κ2,κ2=1 - κ:=⟨_,rfl⟩
     have hκ3:1 - (κ:Int)=(κ2:Int):=by omega
     have HCY:Hid (Calls Tryz.prog 27 #[.pointer (some ⟨q.C,0,none⟩),.slice ma gs.length mc,.int .i64 (d.most:Int)] wr fun e W'=>∃ (fv pv:Value) (o':Ow) (z:WS),e = .returned (.tuple #[fv,pv,.bool true])∧CI d w2 W' o' G gs q (.slice ma gs.length mc) (300+(t+1)*9000001) z κ2 (t+1)):=by
      refine (HC.out.cycle HDK.out (by omega)).mono ?_
      rintro e w6 ⟨fv,pv,o2,z,x0,out,ph,rfl,hC6,_,_,_,_⟩
      rw [← hκ2] at hC6
      have e:300+t*9000001+9000001=300+(t+1)*9000001:=by omega
      rw [e] at hC6
      exact ⟨fv,pv,o2,z,rfl,hC6⟩
     clear hκ2
     go_wp2_with fail
     refine (uj HC.out.cw.coll).mono ?_
     rintro e w6 ⟨rfl,rfl⟩
     rw [show (x1.coll.color:Int)=(κ:Int) by rw [HC.out.idl.col]]
     go_wp2_with fail
     refine HCY.out.mono ?_
     rintro e w6 ⟨fv,pv,o2,z,rfl,hC6⟩
     have HC6:=Lib.hid hC6
     clear HCY
     clear hC6 HC
     go_wp2_with fail
     refine (uj HC6.out.cw.coll).mono ?_
     rintro e w7 ⟨rfl,rfl⟩
     rw [show (z.coll.color:Int)=(κ2:Int) by rw [HC6.out.idl.col]]
     go_wp2_with fail
     refine (Ho HC6.out.cw.coll).mono ?_
     rintro e w7 ⟨rfl,rfl⟩
     rw [HC6.out.wish]
     go_wp2_with fail
     refine (Hl HC6.out.cw.coll).mono ?_
     rintro e w7 ⟨rfl,rfl⟩
     rw [show (z.coll.cycles:Int)=(t:Int)+1 by rw [HC6.out.cyc];omega]
     have hG6:=HC6.out.cw.coll.sh.qK.1
     have HOB:=Lib.hid (HC6.out.color ((HLA.out.still (HK2.out.trans HC6.out.cw.keep)).b))
     go_wp2_with fail
     refine HOB.out.mono ?_
     rintro e w8 ⟨a8,c8,rfl,hC8,hle,gU⟩
     have HC8:=Lib.hid hC8
     have VT:=Lib.hid gU
     generalize hLL:z.s.H.objs.length=L at *
     have hLI:(L:Int)≤1048577:=by omega
     clear hC8 gU HOB hG6 HC6
     go_wp2_with fail
     go_loopw [16,17,18] (fun iv _ _ wr=>∃ u:Nat,u≤L∧iv = .int .i64 u∧Keep none_ w8 wr) (fun iv _ _ _=>L - (intOf iv).toNat)
     case atStart=>exact ⟨0,Nat.zero_le _,rfl,Keep.refl _ _⟩
     case round =>
      obtain ⟨u,hu,rfl,ku⟩:=hrel
      have HKU:=Lib.hid ku
      have HCW:=Lib.hid (HC8.out.still ku)
      by_cases huL:u<L
      ·have huI:(u:Int)<(L:Int):=by omega
       have hu0:(0:Int)≤(u:Int):=by omega
       obtain ⟨b,off,uu,rfl,hcc⟩:=VT.out u huL
       have HSC:Hid (∀ W,Keep none_ w8 W→W.cell? ⟨G.S,0,none⟩=some (.pointer (some ⟨G.D 0,0,none⟩))∧W.cell? ⟨b,off+u,none⟩=some (.int .i64 ((uu:Nat):Int))):=fun W k=>⟨(HC8.out.still k).cw.coll.sh.qK.1,(hcc W k).1⟩
       have HCC:Hid (∀ W,Keep none_ w8 W→Calls Tryz.prog 28 #[.pointer (some ⟨G.D 0,0,none⟩),.int .i64 (uu:Int)] W fun e w''=>e = .returned (.tuple #[.int .i64 (κ2:Int),.int .i64 0])∧W=w''):=fun W k=>(hcc W k).2
       clear hcc ku HCW
       go_wp2_with fail
       go_region_held3 (fun W'=>W'.cell? ⟨G.S,0,none⟩=some (.pointer (some ⟨G.D 0,0,none⟩))∧W'.cell? ⟨b,off+u,none⟩=some (.int .i64 ((uu:Nat):Int)))
        (first
         | exact HSC.out _ HKU.out.drew
         | exact HSC.out _ HKU.out
         | fail "iw")
        (first
         | (go_at_call 28
            refine (HCC.out _ (by first|exact HKU.out.drew|exact HKU.out)).mono ?_
            rintro e w9 ⟨rfl,rfl⟩)
         | fail "jc")
       all_goals
        have HKD:=Lib.hid HKU.out.drew
        have HCW:=Lib.hid (HC8.out.still HKD.out)
        clear HSC HCC
        go_wp2_with fail
        refine (uj HCW.out.cw.coll).mono ?_
        rintro e w9 ⟨rfl,rfl⟩
        rw [show (z.coll.color:Int)=(κ2:Int) by rw [HCW.out.idl.col]]
        go_wp2_with fail
        exact ⟨⟨u+1,by omega,by go_num,HKD.out⟩,by simp [intOf];omega⟩
      ·obtain rfl:u=L:=by omega
       have huI:¬ (u:Int)<(u:Int):=by omega
       clear ku
       go_wp2_with fail
       exact ⟨⟨t+1,o2,z,κ2,by omega,by go_num,HCW.out⟩,by simp [intOf];omega⟩
    ·have htI:¬ (t:Int)<1+(r:Int):=by omega
     clear htk ht
     go_wp2_with fail
     go_ret
     exact ⟨rfl,HK2.out.trans HC.out.cw.keep⟩
end
end
end Go.Proofs.YtanfphjoebobaaaGreatDoor
