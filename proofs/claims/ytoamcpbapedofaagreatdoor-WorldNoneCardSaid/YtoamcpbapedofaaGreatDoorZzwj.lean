/- Parts of the fP. No conditions. -/
import Derived.Test.YtoamcpbapedofaaGreatDoorZzwi
namespace Go.Proofs.YtoamcpbapedofaaGreatDoor
open _root_.Go.IntWalk renaming i64_in->IG
open _root_.List renaming mem_singleton->I7,replicate->Ht
open _root_.Go.Proofs.Tryz hiding prog
open _root_.Go.Proofs.Tryz renaming prog->ay
set_option maxRecDepth 100000
set_option maxHeartbeats 16000000
section
attribute [local go_sem] Oper.semAt_some
open Go.RowKit
theorem mF {w:World} (hS:w.ShapedOpen ay) {g:Nat} (hg:g<ay.globals.size) (hr:((((begin ay (fun _ _=>0) default).world.heap[g]?).bind Obj.row?)).isSome=true):g<w.heap.size:=by
 obtain ⟨⟨zero,t⟩,hz⟩:=Option.isSome_iff_exists.1 hr
 obtain ⟨cs,hc,_⟩:=hS.1 g zero t hg hz
 exact lt_of_block hc
theorem wK (c:aI):c.lG.ok=true:=by
 obtain ⟨b,w,m,r,cc,l,s⟩:=c
 have e:∀ (p q:Prop) [Decidable p] [Decidable q],p->q->(decide p&&decide q)=true:=fun p q _ _ hp hq=>by rw [uH hp,uH hq];rfl
 have e2:∀ (x:Bool) (q:Prop) [Decidable q],x=true->q->(x&&decide q)=true:=fun x q _ hp hq=>by rw [hp,uH hq];rfl
 unfold aI.ok aI.lG
 simp only
 exact e2 _ _ (e2 _ _ (e2 _ _ (e2 _ _ (e2 _ _ (e _ _ (by omega) (by omega)) (by omega)) (by omega)) (by omega)) (by omega)) (by omega)
theorem Tryz.infoSOp:(ay.info? 31).map (fun i=>(i.zero,i.size,i.bytes))=some (some (.slice none 0 0),1,24):=by kernel_rfl
theorem zC {W:World} {B:Nat} {a:Option Addr} {n:Nat} {p:List bI} {c:Nat} (hb:W.cell? ⟨B,0,none⟩=some (.slice a p.length c)) (hn:a=none->c=0) (hr:cZ W a p.length 4 (bQ p)):pV W (some ⟨B,0,none⟩) 1 [p] :=
 ⟨rfl,fun i q hi=>by
  obtain ⟨rfl,rfl⟩:i=0/\q=p:=by
   rcases i with _|i
   ·simp at hi;exact ⟨rfl,hi.symm⟩
   ·simp at hi
  exact ⟨B,0,a,c,rfl,hb,hn,hr⟩⟩
theorem qP (z0:List Value) (n more:Int) (w:World) (h0:dG [.int .i64,.int .i64,.int .i64,.int .i64,.int .i64,.int .i64,.int .i64] z0) (Hg:(Lit.int .i64 n).wf=true) (hmo:(Lit.int .u8 more).wf=true) (hL:laidMetH ay Rows.worldNoneRow.laid w) (hSh:w.ShapedOpen ay) :
 Calls ay 3 #[.agg z0.toArray,ah n,.int .u8 more] w fun e w'=>e = .returned (.bool true)/\aj ak w w':=by
 have hL' : laidMetH ay [("dustpan/config.limits", Rows.laid_dustpan_config_limits)] w := hL
 rw [MakeChecks.laidMetH_plain _ _ _ (by kernel_rfl)] at hL'
 have HT:Hid (pX w):=⟨⟨AU hL',mF hSh (of_decide_eq_true (by kernel_rfl)) (by kernel_rfl)⟩,mF hSh (of_decide_eq_true (by kernel_rfl)) (by kernel_rfl),mF hSh (of_decide_eq_true (by kernel_rfl)) (by kernel_rfl),mF hSh (of_decide_eq_true (by kernel_rfl)) (by kernel_rfl),mF hSh (of_decide_eq_true (by kernel_rfl)) (by kernel_rfl)⟩
 clear hL hL' hSh
 obtain ⟨c,rfl,-⟩:=Af h0
 have HRR:=aA (fun W=>wJ c W)
 have tK:=aA (fun W=>vk c W)
 obtain ⟨q,hq⟩:∃ q,q=c.lG:=⟨_,rfl⟩
 rw [<- hq] at tK
 have wL:q.ok=true:=by rw [hq];exact wK c
 have Gt:=dH wL
 obtain ⟨m,hm⟩:∃ b:Nat,q.m=b:=⟨q.m.toNat,by omega⟩
 have hm8:m<=8:=by omega
 have hm1:1<=m:=by omega
 have pY:Hid (∀ W a,aj ak w W->Calls ay 10 #[.agg q.cells.toArray,.slice a (m+1) (m+1)] W fun e w'=>e = .returned (.tuple #[.pointer none,ah 1])/\Hid (aj ak w w')/\Hid (aj ak W w')):=fun W a hW=>by
  refine (qO (fun _=>0) ⟨rfl,rfl,rfl⟩ (HT.out.aB hW).t (HT.out.aB hW).s (HT.out.aB hW).g q wL a (m+1) (m+1) (by omega)).mono ?_
  rintro e w' ⟨rfl,k⟩
  exact ⟨rfl,hW.trans k,k⟩
 obtain ⟨mo,hmo1,hmo2⟩:∃ mo:Nat,more=(mo:Int)/\mo<=255:=by
  simp [Lit.wf] at hmo
  have h1:IntKind.u8.min=0:=by decide
  have h2:IntKind.u8.max=255:=by decide
  exact ⟨more.toNat,by omega,by omega⟩
 subst hmo1
 obtain ⟨r12,hr12⟩:∃ r12,r12=mo%12:=⟨_,rfl⟩
 have hr11:r12<12:=by omega
 have GK:(mo:Int).tmod 12=(r12:Int):=by rw [hr12];rfl
 have hrem2:(mo:Int)%12=(r12:Int):=by rw [hr12];rfl
 obtain ⟨N,hN⟩:∃ N,N=995+r12:=⟨_,rfl⟩
 have EG:(995:Int)+(r12:Int)=(N:Int):=by omega
 have Gu:N<=1006:=by omega
 have Dp:∀ w:World,(Instr.makeSlice 31 (ah (N:Int)) (ah (N:Int))).run ay w = .ok (.slice (some ⟨w.heap.size,0,none⟩) N N) (w.alloc (.cells (madeCells #[ah 0,ah 0,ah 0,ah 0] (N*4)) 75)):=fun w=>(og N w (by omega)).1
 have Dq:∀ w:World,(Instr.makeSlice 30 (ah ((m:Int)+1)) (ah ((m:Int)+1))).run ay w = .ok (.slice (some ⟨w.heap.size,0,none⟩) (m+1) (m+1)) (w.alloc (.cells (bf (.slice none 0 0) (m+1)).toArray 31)) :=
  fun w=>kE (P:=ay) (by kernel_rfl) Tryz.infoSOp rfl (by decide) (m+1) (by omega) _ (by omega) w
 obtain ⟨f3,hf3⟩:∃ f3:Int,f3=if 1000<N then 3 else 0:=⟨_,rfl⟩
 have Ac:Hid (∀ W B A c',aj ak w W->W.cell? ⟨B,0,none⟩=some (.slice (some ⟨A,0,none⟩) N N)->cZ W (some ⟨A,0,none⟩) N 4 (bQ (Ht N ⟨0,0,0,0⟩))->Calls ay 10 #[.agg q.cells.toArray,.slice (some ⟨B,0,none⟩) 1 c'] W fun e w'=>(∃ p,e = .returned (.tuple #[.pointer p,ah f3]))/\Hid (aj ak W w')):=fun W B A c' hW hb hr=>by
  have hpl:(Ht N (⟨0,0,0,0⟩:bI)).length=N:=by simp
  refine (mD (fun _=>0) (fun _ => .inl rfl) ⟨rfl,rfl,rfl⟩ (HT.out.aB hW).t (HT.out.aB hW).s (HT.out.aB hW).g q wL [Ht N ⟨0,0,0,0⟩] (some ⟨B,0,none⟩) 1 c' (zC (c:=N) (a:=some ⟨A,0,none⟩) (n:=1) (by rw [hpl];exact hb) (fun e=>by cases e) (by rw [hpl];exact hr)) (by omega)).mono ?_
  rintro e w' (⟨o,G,gs,q',Z,rfl,h,_,hle⟩|⟨rfl,k,p,hp,hle⟩)
  ·have hN0:¬ 1000<N:=by have:=hle _ (I7.2 rfl);rw [hpl] at this;omega
   exact ⟨⟨_,by rw [hf3,bT hN0]⟩,h.cw.aB⟩
  ·have hN0:1000<N:=by rw [I7.1 hp,hpl] at hle;exact hle
   exact ⟨⟨none,by rw [hf3,jh hN0]⟩,k⟩
 have HL2:Hid (∀ X:World,aj ak w X->Calls ay 10 #[.agg q.cells.toArray,.slice (some ⟨X.heap.size+1,0,none⟩) 1 1] ((X.alloc (.cells (madeCells #[ah 0,ah 0,ah 0,ah 0] (N*4)) 75)).alloc (.cells #[.slice (some ⟨X.heap.size,0,none⟩) N N] 31)) fun e w'=>(∃ p,e = .returned (.tuple #[.pointer p,ah f3]))/\Hid (aj ak X w')):=fun X hX=>by
  have k1:aj ak X (X.alloc (.cells (madeCells #[ah 0,ah 0,ah 0,ah 0] (N*4)) 75)):=(aj.refl _ _).alloc _
  have k2:aj ak (X.alloc (.cells (madeCells #[ah 0,ah 0,ah 0,ah 0] (N*4)) 75)) ((X.alloc (.cells (madeCells #[ah 0,ah 0,ah 0,ah 0] (N*4)) 75)).alloc (.cells #[.slice (some ⟨X.heap.size,0,none⟩) N N] 31)):=(aj.refl _ _).alloc _
  have hb:=aC.aS (X.alloc (.cells (madeCells #[ah 0,ah 0,ah 0,ah 0] (N*4)) 75)) [.slice (some ⟨X.heap.size,0,none⟩) N N] 31
  rw [World.size_alloc] at hb
  refine (Ac.out _ _ _ 1 (hX.trans (k1.trans k2)) (hb.cell 0 rfl) (((og N X (by omega)).2).below k2)).mono ?_
  rintro e w' ⟨h1,h2⟩
  exact ⟨h1,(k1.trans k2).trans h2.out⟩
 have Gv:Hid (∀ W:World,cZ (W.alloc (.cells (madeCells #[ah 0,ah 0,ah 0,ah 0] (N*4)) 75)) (some ⟨W.heap.size,0,none⟩) N 4 (bQ (Ht N ⟨0,0,0,0⟩))):=fun W=>(og N W (by omega)).2
 have yw:Hid (∀ W,aj ak w W->c.ok=false->Calls ay 10 #[.agg c.cells.toArray,.slice none 0 0] W fun e w'=>e = .returned (.tuple #[.pointer none,ah 1])/\Hid (aj ak W w')):=fun W hW hok=>by
  refine (uw c hok (.slice none 0 0) (HT.out.aB hW).t).mono ?_
  rintro e w' ⟨rfl,k⟩
  exact ⟨rfl,k⟩
 have EH:Hid (∀ W,aj ak w W->Calls ay 23 #[] W fun e w'=>e = .returned (.bool true)/\Hid (aj ak W w')):=fun W hW=>uG W (HT.out.aB hW)
 obtain ⟨W0,hW0⟩:∃ W',W'=w.alloc (.cells c.cells.toArray 23):=⟨_,rfl⟩
 have hk0:aj ak w W0:=by rw [hW0];exact (aj.refl _ _).alloc _
 have hb0:aC W0 w.heap.size c.cells 23:=by rw [hW0];exact aC.aS w _ _
 have EI:=aA hk0
 have yt:=aA hb0
 have hqm:q.cells.toArray=#[ah q.b,ah q.w,ah (m:Int),ah q.r,ah q.c,ah q.l,ah q.s]:=by simp [aI.cells,hm]
 rw [hqm] at tK pY HL2
 clear Ac Gv
 generalize q.b=q0 at *
 generalize q.w=q1 at *
 generalize q.r=q3 at *
 generalize q.c=q4 at *
 generalize q.l=q5 at *
 generalize q.s=q6 at *
 obtain ⟨ok,hok⟩:∃ ok,ok=c.ok:=⟨_,rfl⟩
 rw [<- hok] at HRR yw
 clear hok
 obtain ⟨c0,c1,c2,c3,c4,c5,c6⟩:=c
 simp only [aI.cells] at HRR tK yw hW0 yt ⊢
 have HW0:=aA hW0
 have HF3:=aA hf3
 clear h0 hq wL Gt hm hf3 hmo2 hr12 hN hW0 hk0 hb0 hqm
 go_enter func3,ntmps3
 go_wp2_with fail
 rw [<- HW0.out]
 refine (HRR.out W0).mono ?_
 rintro e w1 ⟨rfl,k1⟩
 have hcb:=k1.aO yt.out (fun f=>f)
 have dI:Hid (aj ak w w1):=EI.out.trans k1
 have yu:=aA hcb
 have y0:=hcb.cell 0 rfl;have y1:=hcb.cell 1 rfl;have y2:=hcb.cell 2 rfl;have y3:=hcb.cell 3 rfl;have y4:=hcb.cell 4 rfl;have y5:=hcb.cell 5 rfl;have y6:=hcb.cell 6 rfl
 clear k1 hcb EI yt HRR
 have GL:=aA (fun (W:World) (a:Option Addr) (n c:Nat)=>nZ a n c W)
 have hwr:IntKind.i64.wrap ((m:Int)+1)=(m:Int)+1:=IG _ (by omega)
 have GN:IntKind.i64.wrap ((r12:Int))=(r12:Int):=IG _ (by omega)
 have hw2:IntKind.i64.wrap ((995:Int)+(r12:Int))=(N:Int):=by rw [EG];exact IG _ (by omega)
 have hw3:IntKind.u8.wrap ((r12:Int))=(r12:Int):=by
  rcases (by omega:r12=0\/r12=1\/r12=2\/r12=3\/r12=4\/r12=5\/r12=6\/r12=7\/r12=8\/r12=9\/r12=10\/r12=11) with rfl|rfl|rfl|rfl|rfl|rfl|rfl|rfl|rfl|rfl|rfl|rfl<;>decide
 have hsp3:(f3=3/\(1000:Int)<(N:Int)/\decide ((1000:Int)<(N:Int))=true/\decide ((N:Int)<=1000)=false)\/(f3=0/\¬ (1000:Int)<(N:Int)/\decide ((1000:Int)<(N:Int))=false/\decide ((N:Int)<=1000)=true):=by
  rw [HF3.out]
  by_cases h:1000<N
  ·rw [jh h];exact .inl ⟨rfl,by omega,uH (by omega),rE (by omega)⟩
  ·rw [bT h];exact .inr ⟨rfl,by omega,rE (by omega),uH (by omega)⟩
 have EJ:=aA hsp3
 clear hsp3 hm8 hm1 Gu hr11 EG
 cases ok with
 | false =>
   go_wp2_with fail
   refine (yw.out w1 dI.out trivial).mono ?_
   rintro e V ⟨rfl,k2⟩
   have yx:Hid (aj ak w V):=dI.out.trans k2.out
   have hcb:=k2.out.aO yu.out (fun f=>f)
   clear y0 y1 y2 y3 y4 y5 y6
   have y0:=hcb.cell 0 rfl;have y1:=hcb.cell 1 rfl;have y2:=hcb.cell 2 rfl;have y3:=hcb.cell 3 rfl;have y4:=hcb.cell 4 rfl;have y5:=hcb.cell 5 rfl;have y6:=hcb.cell 6 rfl
   clear hcb k2 dI yu yw
   go_wp2_with fail
   refine (tK.out V).mono ?_
   rintro e V2 ⟨rfl,k2⟩
   have cu:=aA (yx.out.trans k2)
   clear k2 y0 y1 y2 y3 y4 y5 y6 yx tK
   go_wp2_with fail
   obtain ⟨V3,jy⟩:∃ W',W'=V2.alloc (.cells #[ah q0,ah q1,ah (m:Int),ah q3,ah q4,ah q5,ah q6] 23):=⟨_,rfl⟩
   rw [<- jy]
   have jP:Hid (aj ak w V3):=by rw [jy];exact cu.out.alloc _
   have HD3:Hid (aC V3 V2.heap.size [ah q0,ah q1,ah (m:Int),ah q3,ah q4,ah q5,ah q6] 23):=by rw [jy];exact aC.aS V2 _ _
   clear jy cu
   generalize V2.heap.size=D at *
   have s0:=HD3.out.cell 0 rfl;have s1:=HD3.out.cell 1 rfl;have s2:=HD3.out.cell 2 rfl;have s3:=HD3.out.cell 3 rfl;have s4:=HD3.out.cell 4 rfl;have s5:=HD3.out.cell 5 rfl;have s6:=HD3.out.cell 6 rfl
   have HA:∀ o,aj ak V3 (V3.drew.alloc o):=fun o=>((aj.refl _ _).drew).alloc o
   have HA2:Hid (∀ o,aj ak w (V3.drew.alloc o)):=fun o=>jP.out.drew.alloc o
   go_region_held3 (fun w'=>w'.cell? ⟨D,0,none⟩=some (ah q0)/\w'.cell? ⟨D,1,none⟩=some (ah q1)/\w'.cell? ⟨D,2,none⟩=some (ah (m:Int))/\w'.cell? ⟨D,3,none⟩=some (ah q3)/\w'.cell? ⟨D,4,none⟩=some (ah q4)/\w'.cell? ⟨D,5,none⟩=some (ah q5)/\w'.cell? ⟨D,6,none⟩=some (ah q6))
    (first
     | exact ⟨s0,s1,s2,s3,s4,s5,s6⟩
     | exact ⟨(HA _).still s0,(HA _).still s1,(HA _).still s2,(HA _).still s3,(HA _).still s4,(HA _).still s5,(HA _).still s6⟩
     | exact ⟨hk4.still s0,hk4.still s1,hk4.still s2,hk4.still s3,hk4.still s4,hk4.still s5,hk4.still s6⟩
     | fail "kV")
    ((go_at_call 10
      refine (pY.out _ _ (HA2.out _)).mono ?_
      rintro e w4 ⟨rfl,tN,tV⟩
      have hk4:=(HA _).trans tV.out))
   have gQ:=aA tN.out
   have HD4:=aA (hk4.aO HD3.out (fun f=>f))
   clear s0 s1 s2 s3 s4 s5 s6 HA HA2 hk4 jP HD3 Dq hwr tN tV pY
   go_wp2_with fail
   have s0:=HD4.out.cell 0 rfl;have s1:=HD4.out.cell 1 rfl;have s2:=HD4.out.cell 2 rfl;have s3:=HD4.out.cell 3 rfl;have s4:=HD4.out.cell 4 rfl;have s5:=HD4.out.cell 5 rfl;have s6:=HD4.out.cell 6 rfl
   have HB:∀ o,aj ak w4 (w4.drew.alloc o):=fun o=>((aj.refl _ _).drew).alloc o
   have HB2:∀ o o',aj ak w4 ((w4.drew.alloc o).alloc o'):=fun o o'=>(HB o).alloc o'
   have qF:=aA (HL2.out w4.drew gQ.out.drew)
   clear HL2
   go_region_held3 (fun w'=>w'.cell? ⟨D,0,none⟩=some (ah q0)/\w'.cell? ⟨D,1,none⟩=some (ah q1)/\w'.cell? ⟨D,2,none⟩=some (ah (m:Int))/\w'.cell? ⟨D,3,none⟩=some (ah q3)/\w'.cell? ⟨D,4,none⟩=some (ah q4)/\w'.cell? ⟨D,5,none⟩=some (ah q5)/\w'.cell? ⟨D,6,none⟩=some (ah q6))
    (first
     | exact ⟨s0,s1,s2,s3,s4,s5,s6⟩
     | exact ⟨(HB _).still s0,(HB _).still s1,(HB _).still s2,(HB _).still s3,(HB _).still s4,(HB _).still s5,(HB _).still s6⟩
     | exact ⟨(HB2 _ _).still s0,(HB2 _ _).still s1,(HB2 _ _).still s2,(HB2 _ _).still s3,(HB2 _ _).still s4,(HB2 _ _).still s5,(HB2 _ _).still s6⟩
     | exact ⟨hk5.still s0,hk5.still s1,hk5.still s2,hk5.still s3,hk5.still s4,hk5.still s5,hk5.still s6⟩
     | fail "kV")
    ((go_at_call 10
      refine qF.out.mono ?_
      rintro e w5 ⟨⟨p5,rfl⟩,tY⟩
      have hk5:=((aj.refl ak w4).drew).trans tY.out))
   all_goals
    have jo:aj ak w w5:=gQ.out.trans hk5
    clear s0 s1 s2 s3 s4 s5 s6 HB HB2 qF gQ HD4 hk5 tY Dp
    rcases EJ.out with ⟨rfl,hn0,hn1,hn2⟩|⟨rfl,hn0,hn1,hn2⟩
    all_goals
     go_wp2_with (first
      | (go_at_call 12;refine (nZ _ _ _ _).mono ?_;rintro e w6 ⟨rfl,rfl⟩;have jo:=jo.alloc (.cells #[ah n] 3))
      | (go_at_call 13;refine (qI _ _).mono ?_;rintro e w6 ⟨rfl,rfl⟩)
      | (go_at_call 14;refine (nJ _).mono ?_;rintro e w6 ⟨rfl,k6⟩;have jo:=jo.trans k6;clear k6)
      | (go_at_call 15;refine (pW _).mono ?_;rintro e w6 ⟨rfl,rfl⟩)
      | (go_at_call 16;refine (nK _).mono ?_;rintro e w6 ⟨rfl,rfl⟩)
      | (go_at_call 17;refine (lC _ _).mono ?_;rintro e w6 ⟨rfl,rfl⟩)
      | (go_at_call 18;refine (tJ _ _).mono ?_;rintro e w6 ⟨rfl,rfl⟩)
      | (go_at_call 19;refine (qJ _).mono ?_;rintro e w6 ⟨rfl,rfl⟩)
      | (go_at_call 20;refine (nM _).mono ?_;rintro e w6 ⟨rfl,rfl⟩)
      | (go_at_call 21;refine (qK _).mono ?_;rintro e w6 ⟨rfl,rfl⟩)
      | (go_at_call 22;refine (qL _).mono ?_;rintro e w6 ⟨rfl,rfl⟩)
      | (go_at_call 23;refine (EH.out _ jo).mono ?_;rintro e w6 ⟨rfl,k6⟩;have jo:=jo.trans k6.out;clear k6))
     go_ret
     exact ⟨rfl,jo⟩
 | true =>
   generalize w1=V at *
   have yx:=dI
   clear dI yu yw
   go_wp2_with fail
   refine (tK.out V).mono ?_
   rintro e V2 ⟨rfl,k2⟩
   have cu:=aA (yx.out.trans k2)
   clear k2 y0 y1 y2 y3 y4 y5 y6 yx tK
   go_wp2_with fail
   obtain ⟨V3,jy⟩:∃ W',W'=V2.alloc (.cells #[ah q0,ah q1,ah (m:Int),ah q3,ah q4,ah q5,ah q6] 23):=⟨_,rfl⟩
   rw [<- jy]
   have jP:Hid (aj ak w V3):=by rw [jy];exact cu.out.alloc _
   have HD3:Hid (aC V3 V2.heap.size [ah q0,ah q1,ah (m:Int),ah q3,ah q4,ah q5,ah q6] 23):=by rw [jy];exact aC.aS V2 _ _
   clear jy cu
   generalize V2.heap.size=D at *
   have s0:=HD3.out.cell 0 rfl;have s1:=HD3.out.cell 1 rfl;have s2:=HD3.out.cell 2 rfl;have s3:=HD3.out.cell 3 rfl;have s4:=HD3.out.cell 4 rfl;have s5:=HD3.out.cell 5 rfl;have s6:=HD3.out.cell 6 rfl
   have HA:∀ o,aj ak V3 (V3.drew.alloc o):=fun o=>((aj.refl _ _).drew).alloc o
   have HA2:Hid (∀ o,aj ak w (V3.drew.alloc o)):=fun o=>jP.out.drew.alloc o
   go_region_held3 (fun w'=>w'.cell? ⟨D,0,none⟩=some (ah q0)/\w'.cell? ⟨D,1,none⟩=some (ah q1)/\w'.cell? ⟨D,2,none⟩=some (ah (m:Int))/\w'.cell? ⟨D,3,none⟩=some (ah q3)/\w'.cell? ⟨D,4,none⟩=some (ah q4)/\w'.cell? ⟨D,5,none⟩=some (ah q5)/\w'.cell? ⟨D,6,none⟩=some (ah q6))
    (first
     | exact ⟨s0,s1,s2,s3,s4,s5,s6⟩
     | exact ⟨(HA _).still s0,(HA _).still s1,(HA _).still s2,(HA _).still s3,(HA _).still s4,(HA _).still s5,(HA _).still s6⟩
     | exact ⟨hk4.still s0,hk4.still s1,hk4.still s2,hk4.still s3,hk4.still s4,hk4.still s5,hk4.still s6⟩
     | fail "kV")
    ((go_at_call 10
      refine (pY.out _ _ (HA2.out _)).mono ?_
      rintro e w4 ⟨rfl,tN,tV⟩
      have hk4:=(HA _).trans tV.out))
   have gQ:=aA tN.out
   have HD4:=aA (hk4.aO HD3.out (fun f=>f))
   clear s0 s1 s2 s3 s4 s5 s6 HA HA2 hk4 jP HD3 Dq hwr tN tV pY
   go_wp2_with fail
   have s0:=HD4.out.cell 0 rfl;have s1:=HD4.out.cell 1 rfl;have s2:=HD4.out.cell 2 rfl;have s3:=HD4.out.cell 3 rfl;have s4:=HD4.out.cell 4 rfl;have s5:=HD4.out.cell 5 rfl;have s6:=HD4.out.cell 6 rfl
   have HB:∀ o,aj ak w4 (w4.drew.alloc o):=fun o=>((aj.refl _ _).drew).alloc o
   have HB2:∀ o o',aj ak w4 ((w4.drew.alloc o).alloc o'):=fun o o'=>(HB o).alloc o'
   have qF:=aA (HL2.out w4.drew gQ.out.drew)
   clear HL2
   go_region_held3 (fun w'=>w'.cell? ⟨D,0,none⟩=some (ah q0)/\w'.cell? ⟨D,1,none⟩=some (ah q1)/\w'.cell? ⟨D,2,none⟩=some (ah (m:Int))/\w'.cell? ⟨D,3,none⟩=some (ah q3)/\w'.cell? ⟨D,4,none⟩=some (ah q4)/\w'.cell? ⟨D,5,none⟩=some (ah q5)/\w'.cell? ⟨D,6,none⟩=some (ah q6))
    (first
     | exact ⟨s0,s1,s2,s3,s4,s5,s6⟩
     | exact ⟨(HB _).still s0,(HB _).still s1,(HB _).still s2,(HB _).still s3,(HB _).still s4,(HB _).still s5,(HB _).still s6⟩
     | exact ⟨(HB2 _ _).still s0,(HB2 _ _).still s1,(HB2 _ _).still s2,(HB2 _ _).still s3,(HB2 _ _).still s4,(HB2 _ _).still s5,(HB2 _ _).still s6⟩
     | exact ⟨hk5.still s0,hk5.still s1,hk5.still s2,hk5.still s3,hk5.still s4,hk5.still s5,hk5.still s6⟩
     | fail "kV")
    ((go_at_call 10
      refine qF.out.mono ?_
      rintro e w5 ⟨⟨p5,rfl⟩,tY⟩
      have hk5:=((aj.refl ak w4).drew).trans tY.out))
   all_goals
    have jo:aj ak w w5:=gQ.out.trans hk5
    clear s0 s1 s2 s3 s4 s5 s6 HB HB2 qF gQ HD4 hk5 tY Dp
    rcases EJ.out with ⟨rfl,hn0,hn1,hn2⟩|⟨rfl,hn0,hn1,hn2⟩
    all_goals
     go_wp2_with (first
      | (go_at_call 12;refine (nZ _ _ _ _).mono ?_;rintro e w6 ⟨rfl,rfl⟩;have jo:=jo.alloc (.cells #[ah n] 3))
      | (go_at_call 13;refine (qI _ _).mono ?_;rintro e w6 ⟨rfl,rfl⟩)
      | (go_at_call 14;refine (nJ _).mono ?_;rintro e w6 ⟨rfl,k6⟩;have jo:=jo.trans k6;clear k6)
      | (go_at_call 15;refine (pW _).mono ?_;rintro e w6 ⟨rfl,rfl⟩)
      | (go_at_call 16;refine (nK _).mono ?_;rintro e w6 ⟨rfl,rfl⟩)
      | (go_at_call 17;refine (lC _ _).mono ?_;rintro e w6 ⟨rfl,rfl⟩)
      | (go_at_call 18;refine (tJ _ _).mono ?_;rintro e w6 ⟨rfl,rfl⟩)
      | (go_at_call 19;refine (qJ _).mono ?_;rintro e w6 ⟨rfl,rfl⟩)
      | (go_at_call 20;refine (nM _).mono ?_;rintro e w6 ⟨rfl,rfl⟩)
      | (go_at_call 21;refine (qK _).mono ?_;rintro e w6 ⟨rfl,rfl⟩)
      | (go_at_call 22;refine (qL _).mono ?_;rintro e w6 ⟨rfl,rfl⟩)
      | (go_at_call 23;refine (EH.out _ jo).mono ?_;rintro e w6 ⟨rfl,k6⟩;have jo:=jo.trans k6.out;clear k6))
     go_ret
     exact ⟨rfl,jo⟩
end
end Go.Proofs.YtoamcpbapedofaaGreatDoor
