/- Parts of the walk. No conditions. -/
import Derived.Test.YtanfphjoebobaaaGreatDoorZzeaf
namespace Go.Proofs.YtanfphjoebobaaaGreatDoor
open _root_.Go.Proofs.Tryz hiding prog
open _root_.Go.Proofs.Tryz renaming prog->ay
set_option maxRecDepth 8000
set_option maxHeartbeats 8000000
section
attribute [local go_sem] Oper.semAt_some
open Go.RowKit
section
variable {w w':World}
theorem times_any (a b p:Nat) (ha:1<=a) (hp:a*b=p) (hp2:p<=1000000000000) (w:World):Calls ay 50 #[ah (a:Int),ah (b:Int)] w fun e w'=>e = .returned (ah (p:Int))/\w=w':=by
 obtain ⟨q,hq⟩:∃ q,q=4611686018427387904/a:=⟨_,rfl⟩
 have hbq:b<=q:=by
  rw [hq,Nat.le_div_iff_mul_le (by omega),Nat.mul_comm,hp];omega
 have hq1:(4611686018427387904:Int).tdiv (a:Int)=(q:Int):=by
  rw [Int.tdiv_eq_ediv_of_nonneg (by omega),hq];rfl
 have hq2:(4611686018427387904:Int)/(a:Int)=(q:Int):=by rw [hq];rfl
 have oh:q<=4611686018427387904:=by rw [hq];exact Nat.div_le_self _ _
 have Jb:(q:Int)<=4611686018427387904:=by omega
 have hI:(0:Int)<(a:Int):=by omega
 have h0:¬ (a:Int)=0:=by omega
 have hnb:¬ (q:Int)<(b:Int):=by omega
 have hm:(a:Int)*(b:Int)=(p:Int):=by rw [<- hp];simp
 have hpI:(p:Int)<=1000000000000:=by omega
 clear hq hp hbq
 go_enter func50,ntmps50
 go_wp2_with fail
 go_ret
 exact ⟨rfl,rfl⟩
abbrev qP (b w m r c l s:Nat):Value := .agg #[ah (b:Int),ah (w:Int),ah (m:Int),ah (r:Int),ah (c:Int),ah (l:Int),ah (s:Int)]
variable {b ww m r c l s:Nat}
theorem Pv (hb:b<=4096) (hw:ww<=256) (n:Nat) (hn:b*(ww/2)=n) (w:World):Calls ay 94 #[qP b ww m r c l s] w fun e w'=>e = .returned (ah (n:Int))/\Keep none_ w w':=by
 obtain ⟨W0,hW0⟩:∃ W0,W0=w.alloc (.cells #[ah (b:Int),ah (ww:Int),ah (m:Int),ah (r:Int),ah (c:Int),ah (l:Int),ah (s:Int)] 23):=⟨_,rfl⟩
 have k0:Keep none_ w W0:=by rw [hW0];exact (Keep.refl _ _).alloc _
 have hbk:aA W0 w.heap.size [ah (b:Int),ah (ww:Int),ah (m:Int),ah (r:Int),ah (c:Int),ah (l:Int),ah (s:Int)] 23:=by rw [hW0];exact aA.new w _ _
 have y0:=hbk.cell 0 rfl;have y1:=hbk.cell 1 rfl
 have dN:=au k0
 rw [hW0] at y0 y1 dN
 obtain ⟨h,hh⟩:∃ h,h=ww/2:=⟨_,rfl⟩
 have e1:(ww:Int).tdiv 2=(h:Int):=by rw [Int.tdiv_eq_ediv_of_nonneg (by omega)];omega
 have e2:(ww:Int)/2=(h:Int):=by omega
 have hm2:(b:Int)*(h:Int)=(n:Int):=by rw [<- hn,hh];simp
 have hhI:(h:Int)<=128:=by omega
 have I9:(n:Int)<=1000000:=by
  have:b*h<=4096*128:=Nat.mul_le_mul hb (by omega)
  rw [<- hh] at hn
  omega
 clear hbk hW0 k0 hn hh
 go_enter func94,ntmps94
 go_wp2_with fail
 go_ret
 exact ⟨rfl,dN.out⟩
theorem Og (hw:ww<=256) (hl:l<=256) (w:World):Calls ay 51 #[qP b ww m r c l s] w fun e w'=>e = .returned (ah ((64+4*l+ww:Nat):Int))/\Keep none_ w w':=by
 obtain ⟨W0,hW0⟩:∃ W0,W0=w.alloc (.cells #[ah (b:Int),ah (ww:Int),ah (m:Int),ah (r:Int),ah (c:Int),ah (l:Int),ah (s:Int)] 23):=⟨_,rfl⟩
 have k0:Keep none_ w W0:=by rw [hW0];exact (Keep.refl _ _).alloc _
 have hbk:aA W0 w.heap.size [ah (b:Int),ah (ww:Int),ah (m:Int),ah (r:Int),ah (c:Int),ah (l:Int),ah (s:Int)] 23:=by rw [hW0];exact aA.new w _ _
 have y5:=hbk.cell 5 rfl;have y1:=hbk.cell 1 rfl
 have dN:=au k0
 rw [hW0] at y5 y1 dN
 have hlI:(l:Int)<=256:=by omega
 have hwI:(ww:Int)<=256:=by omega
 clear hbk hW0 k0
 go_enter func51,ntmps51
 go_wp2_with fail
 go_ret
 exact ⟨by simp,dN.out⟩
theorem Ce (hr:r<=64) (hl:l<=256) (q:Nat) (hq:r*(l+8)=q) (w:World):Calls ay 52 #[qP b ww m r c l s] w fun e w'=>e = .returned (ah ((16+q+4*l:Nat):Int))/\Keep none_ w w':=by
 obtain ⟨W0,hW0⟩:∃ W0,W0=w.alloc (.cells #[ah (b:Int),ah (ww:Int),ah (m:Int),ah (r:Int),ah (c:Int),ah (l:Int),ah (s:Int)] 23):=⟨_,rfl⟩
 have k0:Keep none_ w W0:=by rw [hW0];exact (Keep.refl _ _).alloc _
 have hbk:aA W0 w.heap.size [ah (b:Int),ah (ww:Int),ah (m:Int),ah (r:Int),ah (c:Int),ah (l:Int),ah (s:Int)] 23:=by rw [hW0];exact aA.new w _ _
 have y5:=hbk.cell 5 rfl;have y3:=hbk.cell 3 rfl
 have dN:=au k0
 rw [hW0] at y5 y3 dN
 have hlI:(l:Int)<=256:=by omega
 have hm2:(r:Int)*((l:Int)+8)=(q:Int):=by rw [<- hq];simp
 have Jb:(q:Int)<=100000:=by
  have:r*(l+8)<=64*264:=Nat.mul_le_mul hr (by omega)
  omega
 clear hbk hW0 k0 hq
 go_enter func52,ntmps52
 go_wp2_with fail
 go_ret
 exact ⟨by simp,dN.out⟩
theorem EK (E1 E2:Int) (a b p:Nat) (h1:E1=(a:Int)) (h2:E2=(b:Int)) (ha:1<=a) (hp:a*b=p) (hp2:p<=1000000000000) (w:World):Calls ay 50 #[ah E1,ah E2] w fun e w'=>e = .returned (ah (p:Int))/\w=w':=by
 subst h1 h2
 exact times_any a b p ha hp hp2 w
theorem J8 (hb:b<=4) (hw:ww<=40) (hm:m<=4) (hr:r<=5) (hc:c<=4) (hl:l<=4) (n o aa X mk:Nat) (hn:b*(ww/2)=n) (ho:o=64+4*l+ww) (Ae:aa=16+r*(l+8)+4*l) (hX:X=40*n+2*m*(l+4)+2*c+o+aa+40) (hmk:(2*n+6)*X=mk) (w:World) :
 Calls ay 49 #[qP b ww m r c l s,ah 1] w fun e w'=>e = .returned (ah (mk:Int))/\Keep none_ w w':=by
 obtain ⟨W0,hW0⟩:∃ W0,W0=w.alloc (.cells #[ah (b:Int),ah (ww:Int),ah (m:Int),ah (r:Int),ah (c:Int),ah (l:Int),ah (s:Int)] 23):=⟨_,rfl⟩
 have k0:Keep none_ w W0:=by rw [hW0];exact (Keep.refl _ _).alloc _
 have hbk:aA W0 w.heap.size [ah (b:Int),ah (ww:Int),ah (m:Int),ah (r:Int),ah (c:Int),ah (l:Int),ah (s:Int)] 23:=by rw [hW0];exact aA.new w _ _
 have l9:Hid (∀ W,Keep none_ W0 W->W.cell? ⟨w.heap.size,0,none⟩=some (ah (b:Int))/\W.cell? ⟨w.heap.size,1,none⟩=some (ah (ww:Int))/\W.cell? ⟨w.heap.size,2,none⟩=some (ah (m:Int))/\W.cell? ⟨w.heap.size,3,none⟩=some (ah (r:Int))/\W.cell? ⟨w.heap.size,4,none⟩=some (ah (c:Int))/\W.cell? ⟨w.heap.size,5,none⟩=some (ah (l:Int))/\W.cell? ⟨w.heap.size,6,none⟩=some (ah (s:Int))):=fun W k=>by
  have h:=k.blk hbk (fun f=>f)
  exact ⟨h.cell 0 rfl,h.cell 1 rfl,h.cell 2 rfl,h.cell 3 rfl,h.cell 4 rfl,h.cell 5 rfl,h.cell 6 rfl⟩
 obtain ⟨y0,y1,y2,y3,y4,y5,y6⟩:=l9.out W0 (Keep.refl _ _)
 have dN:=au k0
 have HW0:=au hW0
 obtain ⟨ml,hml⟩:∃ ml,ml=2*m*(l+4):=⟨_,rfl⟩
 have acg:2*(m:Int)*((l:Int)+4)=(ml:Int):=by rw [hml];simp
 have hml2:ml<=2*4*8:=by rw [hml];exact Nat.mul_le_mul (Nat.mul_le_mul_left 2 hm) (by omega)
 have hn2:n<=4*20:=by rw [<- hn];exact Nat.mul_le_mul hb (by omega)
 have hrl2:r*(l+8)<=5*12:=Nat.mul_le_mul hr (by omega)
 have haa2:aa<=100:=by omega
 have ho2:o<=120:=by omega
 rw [<- hml] at hX
 have hX2:X<=4000:=by omega
 have hmk2:mk<=166*4000:=by rw [<- hmk];exact Nat.mul_le_mul (by omega) hX2
 have HSL:Hid (∀ W,Calls ay 94 #[qP b ww m r c l s] W fun e w'=>e = .returned (ah (n:Int))/\Keep none_ W w'):=fun W=>Pv (by omega) (by omega) n hn W
 have Oh:Hid (∀ W,Calls ay 51 #[qP b ww m r c l s] W fun e w'=>e = .returned (ah (o:Int))/\Keep none_ W w'):=fun W=>by
  have h:=Og (b:=b) (m:=m) (r:=r) (c:=c) (s:=s) (ww:=ww) (l:=l) (by omega) (by omega) W
  rw [<- ho] at h;exact h
 have vg:Hid (∀ W,Calls ay 52 #[qP b ww m r c l s] W fun e w'=>e = .returned (ah (aa:Int))/\Keep none_ W w'):=fun W=>by
  have h:=Ce (b:=b) (m:=m) (r:=r) (c:=c) (s:=s) (ww:=ww) (l:=l) (by omega) (by omega) (r*(l+8)) rfl W
  rw [<- Ae] at h;exact h
 obtain ⟨z,hz⟩:∃ z,z=2*n+6:=⟨_,rfl⟩
 rw [<- hz] at hmk
 have HT:Hid (∀ W (E1 E2 P:Int),((E1=1/\E2=(z:Int)/\P=(z:Int))\/(E1=(z:Int)/\E2=(X:Int)/\P=(mk:Int)))->Calls ay 50 #[ah E1,ah E2] W fun e w'=>e = .returned (ah P)/\W=w'):=fun W E1 E2 P h=>by
  rcases h with ⟨h1,h2,rfl⟩|⟨h1,h2,rfl⟩
  ·exact EK E1 E2 1 z _ h1 h2 (by omega) (by omega) (by omega) W
  ·exact EK E1 E2 z X mk h1 h2 (by omega) hmk (by omega) W
 have HZ:Hid (2*(n:Int)+6=(z:Int)):=by show _=_;omega
 have HX:Hid ((X:Int)=40*(n:Int)+(ml:Int)+2*(c:Int)+(o:Int)+(aa:Int)+40):=by show _=_;omega
 have i1:(n:Int)<=80:=by omega
 have i2:(ml:Int)<=64:=by omega
 have i3:(o:Int)<=120:=by omega
 have i4:(aa:Int)<=100:=by omega
 have i5:(c:Int)<=4:=by omega
 have i6:(l:Int)<=4:=by omega
 have i7:(m:Int)<=4:=by omega
 have g1:Hid (IntKind.i64.wrap (40*(n:Int))=40*(n:Int)):=IntWalk.i64_in _ (by omega)
 have g2:Hid (IntKind.i64.wrap (2*(m:Int))=2*(m:Int)):=IntWalk.i64_in _ (by omega)
 have g3:Hid (IntKind.i64.wrap ((l:Int)+4)=(l:Int)+4):=IntWalk.i64_in _ (by omega)
 have g4:Hid (IntKind.i64.wrap (2*(m:Int)*((l:Int)+4))=(ml:Int)):=by show _=_;rw [acg];exact IntWalk.i64_in _ (by omega)
 have g5:Hid (IntKind.i64.wrap (40*(n:Int)+(ml:Int))=40*(n:Int)+(ml:Int)):=IntWalk.i64_in _ (by omega)
 have g6:Hid (IntKind.i64.wrap (2*(c:Int))=2*(c:Int)):=IntWalk.i64_in _ (by omega)
 have g7:Hid (IntKind.i64.wrap (40*(n:Int)+(ml:Int)+2*(c:Int))=40*(n:Int)+(ml:Int)+2*(c:Int)):=IntWalk.i64_in _ (by omega)
 have g8:Hid (IntKind.i64.wrap (40*(n:Int)+(ml:Int)+2*(c:Int)+(o:Int))=40*(n:Int)+(ml:Int)+2*(c:Int)+(o:Int)):=IntWalk.i64_in _ (by omega)
 have g9:Hid (IntKind.i64.wrap (40*(n:Int)+(ml:Int)+2*(c:Int)+(o:Int)+(aa:Int))=40*(n:Int)+(ml:Int)+2*(c:Int)+(o:Int)+(aa:Int)):=IntWalk.i64_in _ (by omega)
 have g10:Hid (IntKind.i64.wrap (40*(n:Int)+(ml:Int)+2*(c:Int)+(o:Int)+(aa:Int)+40)=40*(n:Int)+(ml:Int)+2*(c:Int)+(o:Int)+(aa:Int)+40):=IntWalk.i64_in _ (by omega)
 have f1:Hid (IntKind.i64.wrap (2*(n:Int))=2*(n:Int)):=IntWalk.i64_in _ (by omega)
 have f2:Hid (IntKind.i64.wrap (2*(n:Int)+6)=2*(n:Int)+6):=IntWalk.i64_in _ (by omega)
 rw [hW0] at y0 y1 y2 y3 y4 y5 y6
 clear acg
 clear hbk hW0 k0 hn ho Ae hX hmk hml hn2 hrl2 haa2 ho2 hX2 hmk2 hml2 hb hw hm hr hc hl hz
 go_enter func49,ntmps49
 go_wp2_with fail
 rw [<- HW0.out]
 refine (HSL.out W0).mono ?_
 rintro e w1 ⟨rfl,k1⟩
 have HK:=au k1.drew
 clear k1 y0 y1 y2 y3 y4 y5 y6 HSL HW0
 go_wp2_with fail
 go_region_held3 (fun W'=>W'.cell? ⟨w.heap.size,0,none⟩=some (ah (b:Int))/\W'.cell? ⟨w.heap.size,1,none⟩=some (ah (ww:Int))/\W'.cell? ⟨w.heap.size,2,none⟩=some (ah (m:Int))/\W'.cell? ⟨w.heap.size,3,none⟩=some (ah (r:Int))/\W'.cell? ⟨w.heap.size,4,none⟩=some (ah (c:Int))/\W'.cell? ⟨w.heap.size,5,none⟩=some (ah (l:Int))/\W'.cell? ⟨w.heap.size,6,none⟩=some (ah (s:Int)))
  (first
   | exact l9.out _ HK.out
   | fail "ji")
  (first
   | (go_at_call 51
      refine (Oh.out _).mono ?_
      rintro e w2 ⟨rfl,k2⟩
      have HK:=au (HK.out.trans k2)
      clear k2)
   | (go_at_call 52
      refine (vg.out _).mono ?_
      rintro e w2 ⟨rfl,k2⟩
      have HK:=au (HK.out.trans k2)
      clear k2)
   | (go_at_call 50
      refine (HT.out _ _ _ _ (by first|exact Or.inr ⟨rfl,(by rw [g1.out,g2.out,g3.out,g4.out,g5.out,g6.out,g7.out,g8.out,g9.out,g10.out];exact HX.out.symm),rfl⟩|exact Or.inl ⟨rfl,(by rw [f1.out,f2.out];exact HZ.out),rfl⟩)).mono ?_
      rintro e w2 ⟨rfl,rfl⟩)
   | fail "jZ")
 all_goals
  go_wp2_with fail
  go_ret
  exact ⟨rfl,dN.out.trans HK.out⟩
theorem Px (hb:b<=4) (hw:ww<=40) (hm:m<=4) (hr:r<=5) (hc:c<=4) (hl:l<=4) (o aa mk bb:Nat) (ho:o=64+4*l+ww) (Ae:aa=16+r*(l+8)+4*l) (hmk:(2*(b*(ww/2))+6)*(40*(b*(ww/2))+2*m*(l+4)+2*c+o+aa+40)=mk) (hbb:bb=2*b*(ww+8)+3*o+2*aa+4*m+60) (hmk2:mk<=1000000) (w:World) :
 Calls ay 25 #[qP b ww m r c l s,ah 1] w fun e w'=>e = .returned (ah ((mk+bb:Nat):Int))/\Keep none_ w w':=by
 obtain ⟨W0,hW0⟩:∃ W0,W0=w.alloc (.cells #[ah (b:Int),ah (ww:Int),ah (m:Int),ah (r:Int),ah (c:Int),ah (l:Int),ah (s:Int)] 23):=⟨_,rfl⟩
 have k0:Keep none_ w W0:=by rw [hW0];exact (Keep.refl _ _).alloc _
 have hbk:aA W0 w.heap.size [ah (b:Int),ah (ww:Int),ah (m:Int),ah (r:Int),ah (c:Int),ah (l:Int),ah (s:Int)] 23:=by rw [hW0];exact aA.new w _ _
 have l9:Hid (∀ W,Keep none_ W0 W->W.cell? ⟨w.heap.size,0,none⟩=some (ah (b:Int))/\W.cell? ⟨w.heap.size,1,none⟩=some (ah (ww:Int))/\W.cell? ⟨w.heap.size,2,none⟩=some (ah (m:Int))/\W.cell? ⟨w.heap.size,3,none⟩=some (ah (r:Int))/\W.cell? ⟨w.heap.size,4,none⟩=some (ah (c:Int))/\W.cell? ⟨w.heap.size,5,none⟩=some (ah (l:Int))/\W.cell? ⟨w.heap.size,6,none⟩=some (ah (s:Int))):=fun W k=>by
  have h:=k.blk hbk (fun f=>f)
  exact ⟨h.cell 0 rfl,h.cell 1 rfl,h.cell 2 rfl,h.cell 3 rfl,h.cell 4 rfl,h.cell 5 rfl,h.cell 6 rfl⟩
 obtain ⟨y0,y1,y2,y3,y4,y5,y6⟩:=l9.out W0 (Keep.refl _ _)
 have dN:=au k0
 have HW0:=au hW0
 obtain ⟨q,hq⟩:∃ q,q=2*b*(ww+8):=⟨_,rfl⟩
 have Jb:2*(b:Int)*((ww:Int)+8)=(q:Int):=by rw [hq];simp
 have hq2:q<=2*4*48:=by rw [hq];exact Nat.mul_le_mul (Nat.mul_le_mul_left 2 hb) (by omega)
 have hrl2:r*(l+8)<=5*12:=Nat.mul_le_mul hr (by omega)
 have haa2:aa<=100:=by omega
 have ho2:o<=120:=by omega
 rw [<- hq] at hbb
 have hbb2:bb<=2000:=by omega
 have Za:Hid (∀ W,Calls ay 49 #[qP b ww m r c l s,ah 1] W fun e w'=>e = .returned (ah (mk:Int))/\Keep none_ W w'):=fun W=>J8 hb hw hm hr hc hl _ o aa _ mk rfl ho Ae rfl hmk W
 have Oh:Hid (∀ W,Calls ay 51 #[qP b ww m r c l s] W fun e w'=>e = .returned (ah (o:Int))/\Keep none_ W w'):=fun W=>by
  have h:=Og (b:=b) (m:=m) (r:=r) (c:=c) (s:=s) (ww:=ww) (l:=l) (by omega) (by omega) W
  rw [<- ho] at h;exact h
 have vg:Hid (∀ W,Calls ay 52 #[qP b ww m r c l s] W fun e w'=>e = .returned (ah (aa:Int))/\Keep none_ W w'):=fun W=>by
  have h:=Ce (b:=b) (m:=m) (r:=r) (c:=c) (s:=s) (ww:=ww) (l:=l) (by omega) (by omega) (r*(l+8)) rfl W
  rw [<- Ae] at h;exact h
 have HT:Hid (∀ W (E2:Int),E2=(bb:Int)->Calls ay 50 #[ah 1,ah E2] W fun e w'=>e = .returned (ah (bb:Int))/\W=w'):=fun W E2 h2=>EK 1 E2 1 bb _ rfl h2 (by omega) (by omega) (by omega) W
 have HX:Hid ((bb:Int)=(q:Int)+3*(o:Int)+2*(aa:Int)+4*(m:Int)+60):=by show _=_;omega
 have i1:(q:Int)<=384:=by omega
 have i3:(o:Int)<=120:=by omega
 have i4:(aa:Int)<=100:=by omega
 have i5:(b:Int)<=4:=by omega
 have i6:(ww:Int)<=40:=by omega
 have i7:(m:Int)<=4:=by omega
 have i8:(mk:Int)<=1000000:=by omega
 have i9:(bb:Int)<=2000:=by omega
 have g1:Hid (IntKind.i64.wrap (2*(b:Int))=2*(b:Int)):=IntWalk.i64_in _ (by omega)
 have g2:Hid (IntKind.i64.wrap ((ww:Int)+8)=(ww:Int)+8):=IntWalk.i64_in _ (by omega)
 have g3:Hid (IntKind.i64.wrap (2*(b:Int)*((ww:Int)+8))=(q:Int)):=by show _=_;rw [Jb];exact IntWalk.i64_in _ (by omega)
 have g4:Hid (IntKind.i64.wrap (3*(o:Int))=3*(o:Int)):=IntWalk.i64_in _ (by omega)
 have g5:Hid (IntKind.i64.wrap ((q:Int)+3*(o:Int))=(q:Int)+3*(o:Int)):=IntWalk.i64_in _ (by omega)
 have g6:Hid (IntKind.i64.wrap (2*(aa:Int))=2*(aa:Int)):=IntWalk.i64_in _ (by omega)
 have g7:Hid (IntKind.i64.wrap ((q:Int)+3*(o:Int)+2*(aa:Int))=(q:Int)+3*(o:Int)+2*(aa:Int)):=IntWalk.i64_in _ (by omega)
 have g8:Hid (IntKind.i64.wrap (4*(m:Int))=4*(m:Int)):=IntWalk.i64_in _ (by omega)
 have g9:Hid (IntKind.i64.wrap ((q:Int)+3*(o:Int)+2*(aa:Int)+4*(m:Int))=(q:Int)+3*(o:Int)+2*(aa:Int)+4*(m:Int)):=IntWalk.i64_in _ (by omega)
 have g10:Hid (IntKind.i64.wrap ((q:Int)+3*(o:Int)+2*(aa:Int)+4*(m:Int)+60)=(q:Int)+3*(o:Int)+2*(aa:Int)+4*(m:Int)+60):=IntWalk.i64_in _ (by omega)
 have hd:¬ (4611686018427387904 - (bb:Int))<(mk:Int):=by omega
 rw [hW0] at y0 y1 y2 y3 y4 y5 y6
 clear Jb hq hbk hW0 k0 ho Ae hmk hbb hrl2 haa2 ho2 hbb2 hq2 hb hw hm hr hc hl hmk2
 go_enter func25,ntmps25
 go_wp2_with fail
 rw [<- HW0.out]
 rw [<- HW0.out] at y0 y1 y2 y3 y4 y5 y6
 have HK:=au (Keep.refl none_ W0).drew
 clear HW0
 go_region_held3 (fun W'=>W'.cell? ⟨w.heap.size,0,none⟩=some (ah (b:Int))/\W'.cell? ⟨w.heap.size,1,none⟩=some (ah (ww:Int))/\W'.cell? ⟨w.heap.size,2,none⟩=some (ah (m:Int))/\W'.cell? ⟨w.heap.size,3,none⟩=some (ah (r:Int))/\W'.cell? ⟨w.heap.size,4,none⟩=some (ah (c:Int))/\W'.cell? ⟨w.heap.size,5,none⟩=some (ah (l:Int))/\W'.cell? ⟨w.heap.size,6,none⟩=some (ah (s:Int)))
  (first
   | exact l9.out _ HK.out
   | fail "ji")
  (first
   | (go_at_call 49
      refine (Za.out _).mono ?_
      rintro e w2 ⟨rfl,k2⟩
      have HK:=au (HK.out.trans k2)
      clear k2)
   | (go_at_call 51
      refine (Oh.out _).mono ?_
      rintro e w2 ⟨rfl,k2⟩
      have HK:=au (HK.out.trans k2)
      clear k2)
   | (go_at_call 52
      refine (vg.out _).mono ?_
      rintro e w2 ⟨rfl,k2⟩
      have HK:=au (HK.out.trans k2)
      clear k2)
   | (go_at_call 50
      refine (HT.out _ _ (by rw [g1.out,g2.out,g3.out,g4.out,g5.out,g6.out,g7.out,g8.out,g9.out,g10.out];exact HX.out.symm)).mono ?_
      rintro e w2 ⟨rfl,rfl⟩)
   | fail "jZ")
 all_goals
  go_wp2_with fail
  go_ret
  exact ⟨rfl,dN.out.trans HK.out⟩
theorem TS (hb:b<=4) (hw:ww<=40) (hm:m<=4) (hr:r<=5) (hc:c<=4) (hl:l<=4) (hN:Df b ww m r c l<=1000000) (w:World) :
 Calls ay 25 #[qP b ww m r c l s,ah 1] w fun e w'=>e = .returned (ah ((Df b ww m r c l:Nat):Int))/\Keep none_ w w':=by
 have h:=Px (b:=b) (ww:=ww) (m:=m) (r:=r) (c:=c) (l:=l) (s:=s) hb hw hm hr hc hl _ _ _ _ rfl rfl rfl rfl (by unfold Df at hN;omega) w
 exact h
end
end
section
open Go.RowKit
structure Dm where
 b:Nat
 w:Nat
 m:Nat
 r:Nat
 ce:Nat
 l:Nat
 s:Nat
structure Dm.Ok (d:Dm):Prop where
 b:1<=d.b/\d.b<=4
 w:16<=d.w/\d.w<=35
 m:1<=d.m/\d.m<=4
 r:1<=d.r/\d.r<=5
 ce:d.ce<=3
 l:1<=d.l/\d.l<=4
def Dm.conf (d:Dm):aK:=⟨d.b,d.w,d.m,d.r,d.ce,d.l,d.s⟩
def Dm.most (d:Dm):Nat:=Df d.b d.w d.m d.r d.ce d.l
theorem WG (c:aK):∃ d:Dm,c.little=d.conf/\d.Ok:=by
 obtain ⟨b,w,m,r,ce,l,s⟩:=c
 refine ⟨⟨(1+b%4).toNat,(16+w%20).toNat,(1+m%4).toNat,(1+r%5).toNat,(ce%4).toNat,(1+l%4).toNat,(1+s%4).toNat⟩,?_,⟨?_,?_,?_,?_,?_,?_⟩⟩
 ·simp only [aK.little,Dm.conf,aK.mk.injEq];omega
 all_goals
  simp only
  omega
section
variable {o o' o0:Ow} {w w' W W' W0:World} {G:Geo} {gs:List MG} {q:CG} {x y:WS} {v mv:Value} {N κ K:Nat} {d:Dm}
theorem Dm.Ok.most (h:d.Ok):uJ d.m d.b d.ce d.r (d.w/2)+2<=d.most/\d.most<=1000000:=by
 obtain ⟨h1,_,h3⟩:=TL h.b h.w h.m h.r h.ce h.l
 exact ⟨h1,h3⟩
theorem Dm.Ok.bound (h:d.Ok) (w:World):Calls ay 25 #[.agg d.conf.cells.toArray,ah 1] w fun e w'=>e = .returned (ah (d.most:Int))/\Keep none_ w w':=by
 have h1:=h.b;have h2:=h.w;have h3:=h.m;have h4:=h.r;have h5:=h.ce;have h6:=h.l
 exact TS (s:=d.s) (by omega) (by omega) (by omega) (by omega) (by omega) (by omega) h.most.2 w
structure CI (d:Dm) (w W:World) (o:Ow) (G:Geo) (gs:List MG) (q:CG) (mv:Value) (N:Nat) (x:WS) (κ K:Nat):Prop where
 cw:CW w W o G gs q x
 ok:oq N x
 few:sF x
 mv:iJ o W mv gs
 jm:oN d.m d.b d.ce κ x
 regs:∀ (i:Nat) (m:MS),x.muts[i]?=some m->m.regs.length<=d.r
 ww:x.s.H.ww=d.w
 conf:x.s.H.c=d.conf
 dr:jL x.coll
 wish:x.coll.wish=false
 jd:x.coll.cycles=K
 len:gs.length=d.m
theorem CI.still (h:CI d w W o G gs q mv N x κ K) (k:Keep none_ W W'):CI d w W' o G gs q mv N x κ K :=
 ⟨h.cw.rX k,h.ok,h.few,h.mv.keep (I:=[]) k.aS rfl (aQ.refl _ _),h.jm,h.regs,h.ww,h.conf,h.dr,h.wish,h.jd,h.len⟩
theorem CI.made {X:qI} {ma:Option Addr} {mc:Nat} (hd:X.c.little=d.conf) (hcw:CW w W o G gs q (fA X)) (hok:oq 300 (fA X)) (hfw:sF (fA X)) (hmv:iJ o W (.slice ma gs.length mc) gs) (hI:TM X) (hgl:gs.length=X.c.little.m.toNat):CI d w W o G gs q (.slice ma gs.length mc) 300 (fA X) 0 0:=by
 obtain ⟨i1,i2,i3,i4,i5,i6,i7,i8,i9⟩:=hI
 rw [hd] at i1 i4 i6 i7 hgl
 refine ⟨hcw,hok,hfw,hmv,i1,i4,i6,i7,i8,?_,?_,hgl⟩
 ·rw [i3];rfl
 ·rw [i3];rfl
theorem CI.config (h:CI d w W o G gs q mv N x κ K):Calls ay 26 #[aj (G.D 0)] W fun e w'=>e = .returned (.agg d.conf.cells.toArray)/\Keep none_ W w':=by
 have:=yu h.cw.coll.sh.heap
 rw [h.conf] at this
 exact this
end
end
section
def tK (A:List Nat):Nat:=A.foldl max 0
theorem WH (A:List Nat) (a:Nat):tK (A++[a])=max (tK A) a:=by simp [tK]
theorem aaw {A:List Nat} {a:Nat} (h:a∈A):a<=tK A:=by
 have key:∀ (A:List Nat) (z:Nat),z<=A.foldl max z/\∀ a∈A,a<=A.foldl max z:=fun A=>by
  induction A with
  | nil=>intro z;exact ⟨Nat.le_refl _,fun a h=>by cases h⟩
  | cons b A ih =>
    intro z
    obtain ⟨h1,h2⟩:=ih (max z b)
    refine ⟨Nat.le_trans (Nat.le_max_left _ _) h1,fun a ha=>?_⟩
    rcases List.mem_cons.1 ha with e|e
    ·rw [e];exact Nat.le_trans (Nat.le_max_right _ _) h1
    ·exact h2 a e
 exact (key A 0).2 a h
theorem QF {A:List Nat} {m:Nat} (h:∀ a∈A,a<=m):tK A<=m:=by
 have key:∀ (A:List Nat) (z:Nat),z<=m->(∀ a∈A,a<=m)->A.foldl max z<=m:=fun A=>by
  induction A with
  | nil=>intro z hz _;exact hz
  | cons b A ih =>
    intro z hz h
    exact ih _ (Nat.max_le.2 ⟨hz,h b List.mem_cons_self⟩) (fun a ha=>h a (List.mem_cons_of_mem _ ha))
 exact key A 0 (Nat.zero_le _) h
def qR (A:List Nat) (i v:Nat):Nat:=if A.idxOf v<i then A.idxOf v+1 else 0
def pV (A:List Nat) (n i:Nat):List Nat:=(List.range n).map (qR A i)
theorem WI (A:List Nat) (n:Nat):pV A n 0=List.replicate n 0:=by
 unfold pV qR
 simp [List.map_const']
theorem xk (A:List Nat) (n i:Nat):(pV A n i).length=n:=by simp [pV]
theorem EL {A:List Nat} (hn:A.Nodup) {i:Nat} (hi:i<A.length):A.idxOf A[i]=i:=hn.idxOf_getElem i hi
theorem WJ {A:List Nat} (hn:A.Nodup) {n i:Nat} (hi:i<A.length):pV A n (i+1)=(pV A n i).set A[i] (i+1):=by
 apply List.ext_getElem?
 intro v
 by_cases hv:v<n
 ·rw [List.getElem?_set]
  unfold pV
  simp only [List.length_map,List.length_range]
  rw [List.getElem?_map,List.getElem?_map,List.getElem?_range hv]
  simp only [Option.map_some]
  by_cases e:A[i]=v
  ·rw [if_pos e,if_pos (by rw [e];exact hv)]
   unfold qR
   rw [<- e,EL hn hi,if_pos (by omega)]
  ·rw [if_neg e]
   unfold qR
   have:A.idxOf v≠i:=fun h=>e (by
    subst h
    exact List.getElem_idxOf hi)
   congr 1
   split<;>split<;>first|rfl|omega
 ·rw [List.getElem?_eq_none (by rw [xk];omega),List.getElem?_eq_none (by rw [List.length_set,xk];omega)]
theorem Oi {A:List Nat} {v:Nat}:qR A A.length v≠0↔v∈A:=by
 unfold qR
 rw [<- List.idxOf_lt_length_iff]
 split<;>simp_all
theorem aax {A:List Nat} {v:Nat} (h:v∈A):∃ hi:qR A A.length v - 1<A.length,A[qR A A.length v - 1]=v/\1<=qR A A.length v:=by
 have h1:=List.idxOf_lt_length_iff.2 h
 have e:qR A A.length v=A.idxOf v+1:=by unfold qR;rw [if_pos h1]
 rw [e]
 exact ⟨by simpa using h1,by simp,by omega⟩
theorem aay {A:List Nat} (hn:A.Nodup) {m:Nat->Bool} {i:Nat} (hi:i<A.length):A.map (upd m A[i] true)=(A.map m).set i true:=by
 apply List.ext_getElem?
 intro j
 rw [List.getElem?_set,List.getElem?_map,List.getElem?_map]
 by_cases e:i=j
 ·subst e
  rw [if_pos rfl,if_pos (by simpa using hi),List.getElem?_eq_getElem hi]
  simp [upd]
 ·rw [if_neg e]
  cases hj:A[j]? with
  | none=>rfl
  | some x =>
    obtain ⟨hj1,hj2⟩:=List.getElem?_eq_some_iff.1 hj
    have:x≠A[i]:=fun h=>e (by
     rw [<- hj2] at h
     have h1:=EL hn hi
     have h2:=EL hn hj1
     rw [h] at h2
     omega)
    simp [upd,this]
inductive ER (A:List Nat) (T:Nat->List Nat) (R:List Nat):Nat->Prop
 | root {v:Nat}:v∈R->v∈A->ER A T R v
 | edge {a v:Nat}:ER A T R a->v∈T a->v∈A->ER A T R v
structure xq (A:List Nat) (T:Nat->List Nat) (R:List Nat) (m:Nat->Bool) (todo:List Nat):Prop where
 ok:∀ a,m a=true->ER A T R a
 td:∀ v∈todo,v∈A->ER A T R v
 rt:∀ v∈R,v∈A->m v=true\/v∈todo
 ed:∀ a,m a=true->∀ v∈T a,v∈A->m v=true\/v∈todo
section
variable {A:List Nat} {T:Nat->List Nat} {R:List Nat} {m:Nat->Bool} {todo:List Nat} {a:Nat}
theorem xq.first:xq A T R (fun _=>false) R:=⟨fun _ h=>(by cases h),fun v h1 h2 => .root h1 h2,fun v h _ => .inr h,fun _ h=>by cases h⟩
theorem xq.skip (h:xq A T R m (todo++[a])) (ha:a∈A->m a=true):xq A T R m todo:=by
 refine ⟨h.ok,fun v h1 h2=>h.td v (List.mem_append_left _ h1) h2,fun v h1 h2=>?_,fun b hb v h1 h2=>?_⟩
 ·rcases h.rt v h1 h2 with g|g
  ·exact .inl g
  ·rcases List.mem_append.1 g with g|g
   ·exact .inr g
   ·rw [List.mem_singleton.1 g] at h2 ⊢;exact .inl (ha h2)
 ·rcases h.ed b hb v h1 h2 with g|g
  ·exact .inl g
  ·rcases List.mem_append.1 g with g|g
   ·exact .inr g
   ·rw [List.mem_singleton.1 g] at h2 ⊢;exact .inl (ha h2)
theorem xq.take (h:xq A T R m (todo++[a])) (ha:a∈A):xq A T R (upd m a true) (todo++T a):=by
 have hE:ER A T R a:=h.td a (List.mem_append_right _ List.mem_cons_self) ha
 have hm:∀ v,m v=true\/v∈todo++[a]->upd m a true v=true\/v∈todo++T a:=fun v g=>by
  unfold upd
  by_cases e:v=a
  ·left;rw [if_pos e]
  ·rw [if_neg e]
   rcases g with g|g
   ·exact .inl g
   ·rcases List.mem_append.1 g with g|g
    ·exact .inr (List.mem_append_left _ g)
    ·exact absurd (List.mem_singleton.1 g) e
 refine ⟨fun b hb=>?_,fun v h1 h2=>?_,fun v h1 h2=>hm v (h.rt v h1 h2),fun b hb v h1 h2=>?_⟩
 ·unfold upd at hb
  by_cases e:b=a
  ·rw [e];exact hE
  ·rw [if_neg e] at hb;exact h.ok b hb
 ·rcases List.mem_append.1 h1 with g|g
  ·exact h.td v (List.mem_append_left _ g) h2
  ·exact .edge hE g h2
 ·unfold upd at hb
  by_cases e:b=a
  ·rw [e] at h1
   exact .inr (List.mem_append_right _ h1)
  ·rw [if_neg e] at hb;exact hm v (h.ed b hb v h1 h2)
theorem xq.done (h:xq A T R m []) (v:Nat):m v=true↔ER A T R v:=by
 refine ⟨h.ok v,fun hv=>?_⟩
 induction hv with
 | root h1 h2=>exact (h.rt _ h1 h2).resolve_right (by simp)
 | edge _ h1 h2 ih=>exact (h.ed _ ih _ h1 h2).resolve_right (by simp)
def mX (A:List Nat) (T:Nat->List Nat) (m:Nat->Bool):Nat:=(A.map fun a=>if m a then 0 else (T a).length).sum
theorem JK:∀ (A:List Nat) (m:Nat->Bool) (a:Nat),a∈A->A.Nodup->m a=false->mX A T (upd m a true)+(T a).length=mX A T m
 | [],_,_,h,_,_=>by cases h
 | b::A,m,a,h,hn,hm=>by
   obtain ⟨h1,h2⟩:=List.nodup_cons.1 hn
   by_cases e:a=b
   ·subst e
    have h3:mX A T (upd m a true)=mX A T m:=by
     unfold mX
     congr 1
     refine List.map_congr_left fun x hx=>?_
     have hxa:x≠a:=fun e=>h1 (by rw [<- e];exact hx)
     have hu:upd m a true x=m x:=by unfold upd;exact if_neg hxa
     rw [hu]
    show (if upd m a true a=true then 0 else (T a).length)+mX A T (upd m a true)+(T a).length=(if m a=true then 0 else (T a).length)+mX A T m
    rw [h3,hm]
    simp [upd]
    omega
   ·have ha:a∈A:=by
     rcases List.mem_cons.1 h with g|g
     ·exact absurd g e
     ·exact g
    have h3:=JK A m a ha h2 hm
    show (if upd m a true b=true then 0 else (T b).length)+mX A T (upd m a true)+(T a).length=(if m b=true then 0 else (T b).length)+mX A T m
    have h4:upd m a true b=m b:=by unfold upd;rw [if_neg (fun e'=>e e'.symm)]
    rw [h4]
    omega
end
def toN (H:HS) (a n:Nat):List Nat:=((List.range n).map fun k:Nat=>H.bY a (k:Int)).filter (fun v=>v != 0)
def toP (H:HS) (a:Nat):List Nat:=toN H a (H.aV a).1
theorem toN_succ (H:HS) (a n:Nat):toN H a (n+1)=if H.bY a (n:Int)=0 then toN H a n else toN H a n++[H.bY a (n:Int)]:=by
 unfold toN
 rw [List.range_succ,List.map_append,List.filter_append]
 by_cases h:H.bY a (n:Int)=0
 ·rw [if_pos h];simp [h]
 ·rw [if_neg h];simp [h]
theorem toN_len (H:HS) (a n:Nat):(toN H a n).length<=n:=by
 have:=List.length_filter_le (fun v:Nat=>v != 0) ((List.range n).map fun k:Nat=>H.bY a (k:Int))
 unfold toN
 simpa using this
def kK (H:HS) (n:Nat):List Nat:=(List.range n).map fun j:Nat=>H.cellP (j:Int)
theorem Py (H:HS) (n:Nat):kK H (n+1)=kK H n++[H.cellP (n:Int)]:=by
 unfold kK
 rw [List.range_succ,List.map_append];rfl
def xY (x:WS) (n:Nat):List Nat:=(List.range n).flatMap fun i=>((x.muts[i]?).map MS.regs).getD []
theorem Gz (x:WS) (n:Nat):xY x (n+1)=xY x n++((x.muts[n]?).map MS.regs).getD []:=by
 unfold xY
 rw [List.range_succ,List.flatMap_append];simp
def jA (x:WS) (ce n:Nat):List Nat:=kK x.s.H ce++xY x n
theorem ach {m b ce κ:Nat} {x:WS} (h0:x.s.H.bn 0=false) (hlt:∀ a,x.s.H.bn a=true->a<x.s.H.sz) (v:Nat):ER x.s.H.objs (toP x.s.H) (jA x ce m) v↔(dR m b ce κ x).gZ v:=by
 have hob:∀ a,a∈x.s.H.objs↔x.s.H.bn a=true:=fun a=>by
  unfold HS.objs
  rw [lC]
  exact ⟨fun h=>h.2,fun h=>⟨hlt a h,h⟩⟩
 constructor
 ·intro h
  induction h with
  | root h1 h2 =>
    refine CP.gZ.root ?_ ((hob _).1 h2)
    rcases List.mem_append.1 h1 with g|g
    ·unfold kK at g
     obtain ⟨j,hj,e⟩:=List.mem_map.1 g
     exact .inl ⟨j,List.mem_range.1 hj,e.symm⟩
    ·unfold xY at g
     obtain ⟨i,hi,e⟩:=List.mem_flatMap.1 g
     exact .inr ⟨i,List.mem_range.1 hi,e⟩
  | edge _ h1 h2 ih =>
    unfold toP toN at h1
    obtain ⟨g1,g2⟩:=List.mem_filter.1 h1
    obtain ⟨j,hj,e⟩:=List.mem_map.1 g1
    rw [<- e] at h2 ⊢
    exact CP.gZ.jg ih (List.mem_range.1 hj) ((hob _).1 h2)
 ·intro h
  induction h with
  | root h1 h2 =>
    refine ER.root ?_ ((hob _).2 h2)
    rcases h1 with ⟨j,hj,e⟩|⟨i,hi,e⟩
    ·exact List.mem_append_left _ (List.mem_map.2 ⟨j,List.mem_range.2 hj,e.symm⟩)
    ·exact List.mem_append_right _ (List.mem_flatMap.2 ⟨i,List.mem_range.2 hi,e⟩)
  | jg _ hj hb ih =>
    refine ER.edge ih ?_ ((hob _).2 hb)
    refine List.mem_filter.2 ⟨List.mem_map.2 ⟨_,List.mem_range.2 hj,rfl⟩,?_⟩
    rename_i a j _
    have:x.s.H.bY a (j:Int)≠0:=fun e=>by
     have hb':x.s.H.bn (x.s.H.bY a (j:Int))=true:=hb
     rw [e,h0] at hb';cases hb'
    exact bne_iff_ne.2 this
section
variable {p:CP} {x y z x0:WS} {R mu bl ce κ k lf st:Nat} {dead out phl:List Nat}
structure zY (p:CP) (z:WS):Prop where
 jm:oN p.mu p.bl p.ce p.κ z
 bn:∀ a,z.s.H.bn a=true↔p.gZ a
 regs:∀ (i:Nat) (m:MS),z.muts[i]?=some m->m.regs=p.regs i
 jg:∀ a,p.gZ a->z.s.H.aV a=p.H.aV a/\∀ j:Nat,z.s.H.bY a (j:Int)=p.H.bY a (j:Int)
 geo:z.s.H.K=p.H.K/\z.s.H.b=p.H.b/\z.s.H.ww=p.H.ww/\z.s.H.c=p.H.c/\z.s.H.cells=p.H.cells
theorem zY.rch (h:zY (dR mu bl ce κ x) z) (κ':Nat) (a:Nat):(dR mu bl ce κ' z).gZ a↔(dR mu bl ce κ x).gZ a:=by
 have hcell:∀ j:Nat,z.s.H.cellP (j:Int)=x.s.H.cellP (j:Int):=fun j=>by
  unfold HS.cellP HS.kQ
  rw [h.geo.2.2.2.2];rfl
 constructor
 ·intro hr
  exact (h.bn a).1 hr.bn
 ·intro hr
  induction hr with
  | root h1 h2 =>
    rename_i v
    refine CP.gZ.root ?_ ((h.bn v).2 (CP.gZ.root h1 h2))
    rcases h1 with ⟨j,hj,e⟩|⟨i,hi,e⟩
    ·exact .inl ⟨j,hj,e.trans (hcell j).symm⟩
    ·refine .inr ⟨i,hi,?_⟩
     have hl:i<z.muts.length:=by rw [h.jm.muts];exact hi
     have hz:z.muts[i]?=some z.muts[i]:=List.getElem?_eq_getElem hl
     show v∈((z.muts[i]?).map MS.regs).getD []
     rw [hz]
     show v∈(z.muts[i]).regs
     rw [h.regs i _ hz]
     exact e
  | jg h1 h2 h3 ih =>
    rename_i a j
    obtain ⟨f1,f2⟩:=h.jg a h1
    have hb:=(h.bn _).2 (CP.gZ.jg h1 h2 h3)
    have:=CP.gZ.jg (p:=dR mu bl ce κ' z) ih (j:=j) (by show j<(z.s.H.aV a).1;rw [f1];exact h2) (by show z.s.H.bn (z.s.H.bY a (j:Int))=true;rw [f2];exact hb)
    have e:(dR mu bl ce κ' z).H.bY a (j:Int)=(dR mu bl ce κ x).H.bY a (j:Int):=f2 j
    rw [e] at this
    exact this
theorem step6 (s:Sh) (c:CS) (d:CD) (h:(aC s c d).c.phase=6):c.phase=6\/d = .marked:=by
 cases d with
 | arm=>have h':(2:Nat)=6:=h;omega
 | scan=>have h':(3:Nat)=6:=h;omega
 | trace=>have h':(4:Nat)=6:=h;omega
 | drain=>have h':(5:Nat)=6:=h;omega
 | off=>have h':(7:Nat)=6:=h;omega
 | idle=>have h':(0:Nat)=6:=h;omega
 | marked=>exact .inr rfl
 | over =>
   simp only [aC] at h
   split at h
   ·split at h
    ·exact .inl h
    ·split at h
     ·have h':(4:Nat)=6:=h;omega
     ·exact .inl h
   ·exact .inl h
 | look v t =>
   simp only [aC] at h
   split at h
   ·unfold CS.push at h
    simp only at h
    split at h<;>exact .inl h
   ·exact .inl h
 | work =>
   simp only [aC] at h
   split at h<;>exact .inl h
 | box m =>
   simp only [aC] at h
   split at h<;>exact .inl h
 | sweep =>
   simp only [aC] at h
   split at h<;>exact .inl h
 | block sl =>
   cases sl with
   | nil=>exact .inl h
   | cons a r =>
     simp only [aC] at h
     split at h<;>exact .inl h
 | empty t =>
   simp only [aC] at h
   split at h<;>exact .inl h
 | _=>exact .inl h
theorem jD.ph (h:jD p x dead):1<=x.coll.phase/\x.coll.phase<=7:=by
 cases h with
 | mark h1 _=>have:=h1.ph;omega
 | sweep h1 =>
   have:=h1.dD
   unfold CP.BQ at this
   split at this<;>first|omega|exact this.elim
theorem jW.ph (h:jW p x dead):6<=x.coll.phase:=by
 have:=h.dD
 unfold CP.BQ at this
 split at this<;>first|omega|exact this.elim
structure DY (p:CP) (R k:Nat) (x:WS) (st lf:Nat):Prop where
 jd:∃ dead,jD p x dead
 st:(st=1/\x.coll.phase<=5)\/(st=2/\6<=x.coll.phase)
 rest:p.rest R x+1<=lf
 wish:x.coll.wish=false
 cycles:x.coll.cycles=k
 dr:jL x.coll
theorem DY.left1 (h:DY p R k x st lf):1<=lf:=by have:=h.rest;omega
theorem DY.round (g:DW p R) (h:DY p R k x st lf) :
 (iD p.mu x=none/\DY p R k (aZ p.mu x) st (lf - 1)) \/
 (st=1/\iD p.mu x=some ⟨p.mu,3,0,0,k⟩/\DY p R k (aZ p.mu x) 2 (lf - 1)/\(aZ p.mu x).coll.stk=[]/\(aZ p.mu x).coll.phase=6/\(aZ p.mu x).coll.color=p.κ/\(∀ a,p.gZ a->(aZ p.mu x).s.H.bn a=true/\(aZ p.mu x).s.H.co a=p.kb)) \/
 (st=2/\∃ a,iD p.mu x=some ⟨p.mu,5,0,0,a⟩/\DY p R k (aZ p.mu x) 2 (lf - 1)/\(aZ p.mu x).s.H.bn a=false) \/
 (st=2/\iD p.mu x=some ⟨p.mu,4,0,0,k⟩/\zY p (aZ p.mu x)/\(aZ p.mu x).coll.wish=false/\(aZ p.mu x).coll.cycles=k/\jL (aZ p.mu x).coll):=by
 obtain ⟨dead,hc⟩:=h.jd
 have hM:=MR.all g hc p.mu (Nat.le_refl _)
 obtain ⟨iW,ht,hlt⟩:=hM.round g
 obtain ⟨_,hyl,hcm,jB,_⟩:=hM.jd.bd
 obtain ⟨e1,e2,e3⟩:=Gw (aO p.mu x) hyl
 obtain ⟨t1,t2,t3,t4⟩:=TQ hM.jd
 have hco:=hM.coll
 have hrs:(aZ p.mu x).s=(bM (aO p.mu x).s (aO p.mu x).coll).s:=e1
 have hrc:(aZ p.mu x).coll=(bM (aO p.mu x).s (aO p.mu x).coll).c:=e3
 have hev:iD p.mu x=(bM (aO p.mu x).s (aO p.mu x).coll).ev:=rfl
 have hrest:p.rest R (aZ p.mu x)+1<=lf - 1:=by
  have:p.rest R (aZ p.mu x)=p.rest R { aO p.mu x with s:=(bM (aO p.mu x).s (aO p.mu x).coll).s,coll:=(bM (aO p.mu x).s (aO p.mu x).coll).c }:=xX e1 e2 e3
  rw [this]
  have hr:=h.rest
  exact Nat.le_trans hlt (by omega)
 have hw:(aZ p.mu x).coll.wish=false:=by rw [hrc,t3,hco];exact h.wish
 have hcy:(aZ p.mu x).coll.cycles=k:=by rw [hrc,t4,hco];exact h.cycles
 have hdr:jL (aZ p.mu x).coll:=by rw [hrc];exact t2 (by rw [hco];exact h.dr)
 have hpe:(aO p.mu x).coll.phase=x.coll.phase:=by rw [hco]
 have hce:∀ kind value,(aO p.mu x).coll.ev kind value=⟨p.mu,kind,0,0,value⟩:=fun kind value=>by
  show (⟨(aO p.mu x).coll.muts,kind,0,0,value⟩:Ev)=_
  rw [hcm]
 have hck:(aO p.mu x).coll.cycles=k:=by rw [hco];exact h.cycles
 have mk:∀ st' dd,jD p { aO p.mu x with s:=(bM (aO p.mu x).s (aO p.mu x).coll).s,coll:=(bM (aO p.mu x).s (aO p.mu x).coll).c } dd->((st'=1/\(aZ p.mu x).coll.phase<=5)\/(st'=2/\6<=(aZ p.mu x).coll.phase))->DY p R k (aZ p.mu x) st' (lf - 1):=fun st' dd h1 h2 =>
  ⟨⟨dd,h1.congr e1 e2 e3⟩,h2,hrest,hw,hcy,hdr⟩
 have hmay:tJ x.coll.phase (aZ p.mu x).coll.phase=true:=by rw [hrc,<- hpe];exact t1
 have hph1:=hc.ph
 cases ht with
 | none h1 h2 h3 =>
   refine .inl ⟨by rw [hev];exact h1,mk st _ h3 ?_⟩
   have hph2:1<=(aZ p.mu x).coll.phase/\(aZ p.mu x).coll.phase<=7:=by rw [hrc];exact h3.ph
   rcases h.st with ⟨a1,a2⟩|⟨a1,a2⟩
   ·refine .inl ⟨a1,?_⟩
    refine Classical.byContradiction fun hn=>?_
    have h56:(aZ p.mu x).coll.phase=6:=by
     unfold tJ at hmay
     rw [Bool.or_eq_true] at hmay
     rcases hmay with hm|hm
     ·have:x.coll.phase=(aZ p.mu x).coll.phase:=by simpa using hm
      omega
     ·simp at hm
      omega
    have e:bM (aO p.mu x).s (aO p.mu x).coll=⟨(aC (aO p.mu x).s (aO p.mu x).coll (aO p.mu x).coll.next).s,{ (aC (aO p.mu x).s (aO p.mu x).coll (aO p.mu x).coll.next).c with next:=(aC (aO p.mu x).s (aO p.mu x).coll (aO p.mu x).coll.next).next },(aC (aO p.mu x).s (aO p.mu x).coll (aO p.mu x).coll.next).next,(aC (aO p.mu x).s (aO p.mu x).coll (aO p.mu x).coll.next).ev⟩:=by
     unfold bM
     rw [hM.jd.busy];rfl
    rw [hrc,e] at h56
    rcases step6 _ _ _ h56 with q|q
    ·rw [hpe] at q;omega
    ·rw [e,q] at h1
     cases h1
   ·refine .inr ⟨a1,?_⟩
    unfold tJ at hmay
    rw [Bool.or_eq_true] at hmay
    rcases hmay with hm|hm
    ·have:x.coll.phase=(aZ p.mu x).coll.phase:=by simpa using hm
     omega
    ·simp at hm
     omega
 | marked h1 h2 h3 h4 h5 h6 h7 h8 h9 =>
   have hp6:(aZ p.mu x).coll.phase=6:=by rw [hrc];exact h6
   have hst:st=1:=by
    rcases h.st with ⟨a1,a2⟩|⟨a1,a2⟩
    ·exact a1
    ·exfalso
     unfold tJ at hmay
     cases hM.jd with
     | mark q1 _=>have:=q1.ph;omega
     | sweep q1=>have:=q1.dD;rw [h5] at this;exact this
   refine .inr (.inl ⟨hst,by rw [hev,h1,hce,hck],mk 2 _ h4 (.inr ⟨rfl,by omega⟩),by rw [hrc];exact h7,hp6,?_,fun a ha=>?_⟩)
   ·obtain ⟨_,_,_,q,_⟩:=(h4.congr e1 e2 e3:jD p (aZ p.mu x) _).bd
    exact q
   ·obtain ⟨q1,q2⟩:=(h8 a).1 ha
    rw [hrs]
    exact ⟨by rw [h9];exact q1,q2⟩
 | freed h1 h2 h3 h4 h5 =>
   have hst:st=2:=by
    rcases h.st with ⟨a1,a2⟩|⟨a1,a2⟩
    ·have:=h4.ph;omega
    ·exact a1
   rename_i a
   have hph2:1<=(aZ p.mu x).coll.phase/\(aZ p.mu x).coll.phase<=7:=by rw [hrc];exact h3.ph
   refine .inr (.inr (.inl ⟨hst,a,by rw [hev,h1,hce],mk 2 _ h3 (.inr ⟨rfl,?_⟩),by rw [hrs];exact h5⟩))
   have h66:=h4.ph
   rw [hpe] at h66
   unfold tJ at hmay
   rw [Bool.or_eq_true] at hmay
   rcases hmay with hm|hm
   ·have:x.coll.phase=(aZ p.mu x).coll.phase:=by simpa using hm
    omega
   ·simp at hm
    omega
 | V4 h1 h2 h3 h4 h5 h6 h7 =>
   have hst:st=2:=by
    rcases h.st with ⟨a1,a2⟩|⟨a1,a2⟩
    ·have:=h4.ph;omega
    ·exact a1
   have hzs:(aZ p.mu x).s=(aO p.mu x).s:=by
    rw [hrs]
    exact congrArg WS.s h6
   have hbn:∀ a,(aO p.mu x).s.H.bn a=true↔p.gZ a:=fun a=>by
    have:=h7 a
    rw [<- hzs,hrs];exact this
   refine .inr (.inr (.inr ⟨hst,by rw [hev,h1,hce,hck],⟨h3.congr e1 e2 (by rw [hrc];exact ⟨rfl,rfl,rfl,rfl,rfl,rfl,rfl,rfl⟩),fun a=>by rw [hzs];exact hbn a,fun i m hm=>?_,fun a ha=>by rw [hzs];exact h4.jg a ha,by rw [hzs];exact h4.geo⟩,hw,hcy,hdr⟩))
   have:(aZ p.mu x).muts=(aO p.mu x).muts:=e2
   rw [this] at hm
   exact (h4.dK i m hm).regs
theorem oN.aaz (h:oN mu bl ce κ x) (hw:x.coll.wish=true) (hR:∀ (i:Nat) (m:MS),x.muts[i]?=some m->m.regs.length<=R) (most:Nat) (hm:uJ mu bl ce R (x.s.H.ww/2)+2<=most) (hdr:jL x.coll) :
 DW (dR mu bl ce κ x) R/\iD mu x=some ⟨mu,2,0,0,x.coll.cycles+1⟩/\DY (dR mu bl ce κ x) R (x.coll.cycles+1) (aZ mu x) 1 (most - 1)/\(aZ mu x).coll.color=1 - κ:=by
 obtain ⟨h1,h2,h3,h4⟩:=h.Zm mu (Nat.le_refl _)
 have hcp:dR mu bl ce κ (aO mu x)=dR mu bl ce κ x:=by
  unfold dR
  rw [h2]
  have:(fun i=>(((aO mu x).muts[i]?).map MS.regs).getD [])=fun i=>((x.muts[i]?).map MS.regs).getD []:=funext fun i=>by rw [h4 i]
  rw [this]
 have hR2:∀ (i:Nat) (m:MS),(aO mu x).muts[i]?=some m->m.regs.length<=R:=fun i m hm=>by
  have:=h4 i
  rw [hm] at this
  cases hx:x.muts[i]? with
  | none=>rw [hx] at this;cases this
  | some m' =>
    rw [hx] at this
    simp at this
    rw [this]
    exact hR i m' hx
 obtain ⟨g,hb⟩:=h1.bound hR2
 obtain ⟨s1,s2,s3,s4,s5⟩:=h1.start
 rw [hcp] at g hb s1 s2
 rw [h2] at hb
 obtain ⟨e1,e2,e3⟩:=Gw (aO mu x) h1.muts
 have hpc:bM (aO mu x).s (aO mu x).coll=⟨(gY (aO mu x).s (aO mu x).coll).s,{ (gY (aO mu x).s (aO mu x).coll).c with next:=(gY (aO mu x).s (aO mu x).coll).next },(gY (aO mu x).s (aO mu x).coll).next,(gY (aO mu x).s (aO mu x).coll).ev⟩:=by
  unfold bM
  rw [h1.nx,if_neg (by decide),if_pos (by rw [h3];exact hw)]
 rw [hpc] at e1 e3
 have hrw:jD (dR mu bl ce κ x) (aZ mu x) []:=(jD.mark s1 s2).congr e1 e2 e3
 have hrs:(dR mu bl ce κ x).rest R (aZ mu x)=(dR mu bl ce κ x).rest R (jy (aO mu x)):=xX e1 e2 e3
 have hev:iD mu x=some ⟨mu,2,0,0,x.coll.cycles+1⟩:=by
  show (bM (aO mu x).s (aO mu x).coll).ev=_
  rw [hpc]
  have:(gY (aO mu x).s (aO mu x).coll).ev=some ((aO mu x).coll.ev 2 ((aO mu x).coll.cycles+1)):=s3
  rw [this,h3]
  show some (⟨x.coll.muts,2,0,0,x.coll.cycles+1⟩:Ev)=_
  rw [h.cmu]
 have hcc:(aZ mu x).coll={ (gY (aO mu x).s (aO mu x).coll).c with next:=(gY (aO mu x).s (aO mu x).coll).next }:=e3
 have mV:(aZ mu x).coll.phase=1:=by rw [hcc];rfl
 obtain ⟨_,_,_,hcl,_⟩:=hrw.bd
 refine ⟨g,hev,⟨⟨[],hrw⟩,.inl ⟨rfl,by omega⟩,by omega,by rw [hcc];rfl,?_,?_⟩,hcl⟩
 ·rw [hcc]
  show (aO mu x).coll.cycles+1=x.coll.cycles+1
  rw [h3]
 ·rw [hcc]
  refine Yz rfl ?_
  have:=JJ h.ph hdr
  show (aO mu x).coll.cycles+1<=(aO mu x).coll.drains+1
  rw [h3]
  omega
def sG (p:CP) (R K most:Nat) (x:WS) (n st:Nat) (z:WS):Prop :=
 (n=0/\st=0/\z=x)\/(0<n/\(st=1\/st=2)/\DY p R (K+1) z st (most - n))\/(st=3/\zY p z/\z.coll.wish=false/\z.coll.cycles=K+1/\jL z.coll)
theorem sG.round {n K most:Nat} (hI:oN mu bl ce κ x) (hw:x.coll.wish=true) (hR:∀ (i:Nat) (m:MS),x.muts[i]?=some m->m.regs.length<=R) (hm:uJ mu bl ce R (x.s.H.ww/2)+2<=most) (hdr:jL x.coll) (hK:x.coll.cycles=K)
 (h:sG (dR mu bl ce κ x) R K most x n st z) (h3:st<3) :
 ((st=1\/st=2)/\iD mu z=none/\sG (dR mu bl ce κ x) R K most x (n+1) st (aZ mu z)) \/
 (st=0/\iD mu z=some ⟨mu,2,0,0,K+1⟩/\sG (dR mu bl ce κ x) R K most x (n+1) 1 (aZ mu z)/\(aZ mu z).coll.wish=false/\(aZ mu z).coll.color=1 - κ/\(aZ mu z).coll.cycles=K+1) \/
 (st=1/\iD mu z=some ⟨mu,3,0,0,K+1⟩/\sG (dR mu bl ce κ x) R K most x (n+1) 2 (aZ mu z)/\(aZ mu z).coll.stk=[]/\(aZ mu z).coll.phase=6/\(aZ mu z).coll.color=1 - κ/\(∀ a,(dR mu bl ce κ x).gZ a->(aZ mu z).s.H.bn a=true/\(aZ mu z).s.H.co a=(1 - κ==1))) \/
 (st=2/\∃ a,iD mu z=some ⟨mu,5,0,0,a⟩/\sG (dR mu bl ce κ x) R K most x (n+1) 2 (aZ mu z)/\(aZ mu z).s.H.bn a=false) \/
 (st=2/\iD mu z=some ⟨mu,4,0,0,K+1⟩/\sG (dR mu bl ce κ x) R K most x (n+1) 3 (aZ mu z)):=by
 obtain ⟨g,s1,s2,s3⟩:=hI.aaz hw hR most hm hdr
 rw [hK] at s1 s2
 rcases h with ⟨rfl,rfl,rfl⟩|⟨h0,hst,hE⟩|⟨e,_⟩
 ·exact .inr (.inl ⟨rfl,s1,.inr (.inl ⟨by omega,.inl rfl,s2⟩),s2.wish,s3,s2.cycles⟩)
 ·have hsub:most - n - 1=most - (n+1):=by omega
  have hrd:=hE.round g
  rw [hsub] at hrd
  rcases hrd with ⟨r1,r2⟩|⟨r0,r1,r2,r3,r4,r5,r6⟩|⟨r0,a,r1,r2,r3⟩|⟨r0,r1,r2,r3,r4,r5⟩
  ·exact .inl ⟨hst,r1,.inr (.inl ⟨by omega,hst,r2⟩)⟩
  ·exact .inr (.inr (.inl ⟨r0,r1,.inr (.inl ⟨by omega,.inr rfl,r2⟩),r3,r4,r5,r6⟩))
  ·exact .inr (.inr (.inr (.inl ⟨r0,a,r1,.inr (.inl ⟨by omega,.inr rfl,r2⟩),r3⟩)))
  ·exact .inr (.inr (.inr (.inr ⟨r0,r1,.inr (.inr ⟨rfl,r2,r3,r4,r5⟩)⟩)))
 ·omega
theorem sG.ends {n K most:Nat} {p:CP} (h:sG p R K most x n st z) (hm:1<=most) (hn:¬ (n<most/\st<3)):zY p z/\z.coll.wish=false/\z.coll.cycles=K+1/\jL z.coll/\st=3:=by
 rcases h with ⟨rfl,rfl,rfl⟩|⟨h0,hst,hE⟩|⟨e,h1,h2,h3,h4⟩
 ·exact absurd ⟨hm,by omega⟩ hn
 ·have:=hE.left1
  exact absurd ⟨by omega,by omega⟩ hn
 ·exact ⟨h1,h2,h3,h4,e⟩
end
end
end Go.Proofs.YtanfphjoebobaaaGreatDoor
