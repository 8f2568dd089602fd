/- Parts of the walk. No conditions. -/
import Derived.Test.YtanfphjoebobaaaGreatDoorZzeo
namespace Go.Proofs.YtanfphjoebobaaaGreatDoor
open _root_.Go.Proofs.Tryz hiding prog
open _root_.Go.Proofs.Tryz renaming prog->ay
set_option maxRecDepth 100000
set_option maxHeartbeats 4000000
section
attribute [local go_sem ↓] jT
attribute [local go_sem] Oper.semAt_some
open Go.RowKit
section
variable {o:Ow} {w w':World} {K room:Nat} {ov:Bool} {l:List Nat}
def XW (w:World) (K:Nat):Nat->Prop:=fun b=>b=K\/∃ v,w.cell? ⟨K,0,none⟩=some v/\v.ownBlock=some b
theorem JW (h:fZ o w K room ov l) (hf:l.length=room) (x b0 b1:Nat) (hb0:aA w b0 [aj K] 86) (hb1:aA w b1 [ah (x:Int)] 3):Calls ay 262 #[aj b0,aj b1] w fun e w'=>e = .returned (.bool false)/\fZ o w' K room true l/\Keep (only K) w w':=by
 obtain ⟨v,h1,h2,h3⟩:=h
 obtain ⟨a,c,rfl,_⟩:=dP h2
 have y0:=h1.cell 0 (v := .slice a l.length c) rfl
 have y1:=h1.cell 1 rfl
 have y2:=h1.cell 2 rfl
 have f2:=h1.free 2
 have z0:=hb0.cell 0 (v := aj K) rfl
 have z1:=hb1.cell 0 (v := ah (x:Int)) rfl
 have d0:((l.length:Int)==(room:Int))=true:=by simp;omega
 have HE:Hid (∀ V,Keep none_ w V->V.cell? ⟨b0,0,none⟩=some (aj K)/\V.cell? ⟨K,2,none⟩=some (.bool ov)/\V.frozen? ⟨K,2,none⟩=false/\fZ o (V.setCell ⟨K,2,none⟩ (.bool true)) K room true l/\Keep (only K) w (V.setCell ⟨K,2,none⟩ (.bool true))):=fun V hV=>by
  have g1:=hV.blk h1 (fun f=>f)
  have g2:=bV h2 hV
  exact ⟨(hV.blk hb0 (fun f=>f)).cell 0 rfl,g1.cell 2 rfl,g1.free 2,⟨_,g1.set 2 _,dY g2 ((Keep.refl (only K) _).put 2 _) (fun b hb e=>own_ne g1 g2 (by decide) (by rw [hb];exact congrArg some e)),h3⟩,(hV.mono (fun _ _ f=>f.elim)).put 2 _⟩
 generalize l.length=n at *
 clear h1 h2 h3 hb0 hb1 hf
 go_enter func262,ntmps262
 go_wp2_with fail
 go_quiet (fail)
 have HK:Hid (Keep none_ w (w.drewN nq)):=(Keep.refl _ _).drewN _
 obtain ⟨g0,g1,g2,g3,g4⟩:=HE.out _ HK.out
 have HG:=au (And.intro g3 g4)
 clear g3 g4 y0 y1 y2 f2 z0 z1 HE HK
 go_wp2_with fail
 go_ret
 exact ⟨rfl,HG.out.1,HG.out.2⟩
theorem JX (h:fZ o w K room ov l) (hf:l.length≠room) (hm:l.length<=100000) (hF:gX o w) (hK:o K=5) (x b0 b1:Nat) (hb0:aA w b0 [aj K] 86) (hb1:aA w b1 [ah (x:Int)] 3):Calls ay 262 #[aj b0,aj b1] w fun e w'=>e = .returned (.bool true)/\∃ o',aQ w o o'/\gX o' w'/\fZ o' w' K room ov (l++[x])/\Keep (XW w K) w w':=by
 obtain ⟨v,h1,h2,h3⟩:=h
 obtain ⟨a,c,rfl,_⟩:=dP h2
 have y0:=h1.cell 0 (v := .slice a l.length c) rfl
 have y1:=h1.cell 1 rfl
 have z0:=hb0.cell 0 (v := aj K) rfl
 have z1:=hb1.cell 0 (v := ah (x:Int)) rfl
 have d0:((l.length:Int)==(room:Int))=false:=by simp;omega
 have HE:Hid (∀ V,Keep none_ w V->aA V K [.slice a l.length c,ah (room:Int),.bool ov] 135/\V.ownsRow 0 3 1 (.slice a l.length c) l.length (aG l)/\aA V b0 [aj K] 86/\aA V b1 [ah (x:Int)] 3):=fun V hV =>
  ⟨hV.blk h1 (fun f=>f),bV h2 hV,hV.blk hb0 (fun f=>f),hV.blk hb1 (fun f=>f)⟩
 have HO:=au h3
 have HF:=au hF
 have HM:=au hm
 have HKK:=au hK
 have HY:=au y0
 obtain ⟨n,hn⟩:∃ n,n=l.length:=⟨_,rfl⟩
 have HN:=au hn
 rw [<- hn] at y0 d0 HE HM HY HO
 clear h1 h2 h3 hb0 hb1 hf hF hm hK hn
 go_enter func262,ntmps262
 go_wp2_with fail
 go_quiet (fail)
 obtain ⟨V,hV⟩:∃ V,V=w.drewN nq:=⟨_,rfl⟩
 have hk:Keep none_ w V:=by rw [hV];exact (Keep.refl _ _).drewN _
 rw [<- hV]
 clear hV y0 y1 z0 z1 nq
 obtain ⟨g1,g2,g3,g4⟩:=HE.out V hk
 obtain ⟨V1,hV1⟩:∃ V1,V1=(V.alloc (.cells #[ah (x:Int)] 3)).drew:=⟨_,rfl⟩
 have hk1:Keep none_ V V1:=by rw [hV1];exact ((Keep.refl _ _).alloc _).drew
 obtain ⟨g,cap,w5,hrun,hown,hgr,hwh⟩:=nY (P:=ay) V1 32 32 3 (by kernel_rfl) Tryz.infoInt rfl (bV g2 hk1) (N:=V.heap.size) (u := ah (x:Int)) (by rw [hV1];exact ((aA.new V _ _).drew).cell 0 rfl) rfl (by decide) (by have:=HM.out;omega)
 have hrun9:(app9 #[32,32] 32 #[.slice a n c,.slice (some ⟨V.heap.size,0,none⟩) 1 1]).run ay (V.alloc (.cells #[ah (x:Int)] 3)).drew = .ok (.slice (some ⟨g,0,none⟩) (n+1) cap) w5:=by rw [<- hV1];exact hrun
 have hne:(Value.slice a n c).ownBlock≠some K:=own_ne g1 g2 (by decide)
 have k5:Keep (fun b=>(Value.slice a n c).ownBlock=some b) w w5:=((hk.trans hk1).mono (fun _ _ f=>f.elim)).trans ⟨hgr.os,hgr.tape,hgr.output,hgr.size,fun k hk' hn=>hgr.block k hk' (fun e=>hn e.symm)⟩
 have hg1':=((hk1.blk g1 (fun f=>f)).grown hgr hne)
 have y0:=g1.cell 0 (v := .slice a n c) rfl
 have z0:=g3.cell 0 (v := aj K) rfl
 have z1:=g4.cell 0 (v := ah (x:Int)) rfl
 have c1:∀ u,(V.alloc u).cell? ⟨K,0,none⟩=some (.slice a n c):=fun u=>(g1.alloc u).cell 0 rfl
 have c2:∀ u,(V.alloc u).cell? ⟨b0,0,none⟩=some (aj K):=fun u=>(g3.alloc u).cell 0 rfl
 have c5:=hg1'.cell 0 (v := .slice a n c) rfl
 have f5:=hg1'.free 0
 have z5:=((hk1.blk g3 (fun f=>f)).grown hgr (own_ne g3 g2 (by decide))).cell 0 (v := aj K) rfl
 have fD:Hid (∃ o',aQ w o o'/\gX o' (w5.setCell ⟨K,0,none⟩ (.slice (some ⟨g,0,none⟩) (n+1) cap))/\fZ o' (w5.setCell ⟨K,0,none⟩ (.slice (some ⟨g,0,none⟩) (n+1) cap)) K room ov (l++[x])/\Keep (XW w K) w (w5.setCell ⟨K,0,none⟩ (.slice (some ⟨g,0,none⟩) (n+1) cap))):=by
  have U2:∃ cur:Array Value,w5.heap[g]?=some (.cells cur 3 (0,0)):=by
   rcases hown.2 with ⟨e1,_⟩|⟨g',cap',cur,e1,_,hg',_⟩
   ·cases e1
   ·cases e1;exact ⟨cur,hg'⟩
  have XY:g<w5.heap.size:=lt_of_block U2.choose_spec
  have hsz:w.heap.size<=V1.heap.size:=(hk.trans hk1).size
  have hext:aQ w o (o.put g 5):=Ow.jU (hwh.elim (fun e => .inr (HO.out g e)) (fun e => .inl (by omega)))
  refine ⟨o.put g 5,hext,?_,⟨.slice (some ⟨g,0,none⟩) (n+1) cap,hg1'.set 0 _,?_,fun b hb=>?_⟩,?_⟩
  ·exact (Ow.nJ HF.out k5.size XY).later (by simp)
  ·have e:aG (l++[x])=aG l++[ah (x:Int)]:=by simp [aG]
   rw [e,List.length_append,<- HN.out]
   exact uo hown (fun b hb=>by
    simp [Value.ownBlock] at hb
    subst hb
    intro e
    have e':g=K:=e
    rcases hwh with h9|h9
    ·exact hne (by rw [h9,e'])
    ·have:=(hk1.blk g1 (fun f=>f)).lt
     omega) _
  ·simp [Value.ownBlock] at hb
   rw [<- hb]
   exact Ow.lM _ _ _
  ·have kk:Keep (XW w K) w w5:=Keep.mono k5 (fun b _ hb=>Or.inr ⟨_,HY.out,hb⟩)
   exact kk.setCell (p:=⟨K,0,none⟩) (fun _=>Or.inl rfl) _
 clear hown hgr hwh hrun hk1 k5 hg1' hne g1 g2 g3 g4 hk hV1 HE HO HF HM HKK HY HN
 go_wp2_with fail
 go_region
 all_goals
  go_wp2_with fail
  go_ret
  exact ⟨rfl,fD.out⟩
end
section
variable {o o':Ow} {w w':World} {G:Geo} {q:CG} {s:Sh} {c:CS} {ev:Option Ev} {nv:Value}
theorem aP.FY (h:aP o w G q s c ev nv):w.cell? ⟨q.C,9,none⟩=some (aB q.K):=h.cell 9 _ rfl
theorem Ve (h:aP o w G q s c ev nv) (x:Nat) (hl:c.stk.length<=c.room) (hr:c.room<=4096):Calls ay 245 #[aj q.K,ah (x:Int)] w fun e w'=>(∃ b,e = .returned (.bool b))/\∃ o',aQ w o o'/\aP o' w' G q s (c.push x) ev nv/\Keep (In o [5]) w w':=by
 obtain ⟨W0,hW0⟩:∃ W',W'=(w.alloc (.cells #[aj q.K] 86)).alloc (.cells #[ah (x:Int)] 3):=⟨_,rfl⟩
 have hk:Keep none_ w W0:=by rw [hW0];exact ((Keep.refl _ _).alloc _).alloc _
 have hb0:aA W0 w.heap.size [aj q.K] 86:=by rw [hW0];exact (aA.new w _ _).alloc _
 have hb1:aA W0 (w.heap.size+1) [ah (x:Int)] 3:=by
  rw [hW0]
  have h9:=aA.new (w.alloc (.cells #[aj q.K] 86)) [ah (x:Int)] 3
  rwa [World.size_alloc] at h9
 have h0:=h.still hk
 have qW:Hid (Calls ay 262 #[aj w.heap.size,aj (w.heap.size+1)] W0 fun e w'=>∃ b,e = .returned (.bool b)/\∃ o',aQ w o o'/\aP o' w' G q s (c.push x) ev nv/\Keep (In o [5]) w w'):=by
  by_cases hf:c.stk.length=c.room
  ·refine (JW h0.stk hf x _ _ hb0 hb1).mono ?_
   rintro e w' ⟨rfl,h1,k1⟩
   obtain ⟨h2,k2⟩:=h0.Qe (o':=o) h1 (k1.mono (fun b _ e => .inl e)) (aQ.refl _ _) (h0.sh.fC.keep k1)
   refine ⟨false,rfl,o,aQ.refl _ _,?_,hk.aS.trans k2⟩
   unfold CS.push
   rw [if_pos hf]
   exact h2
  ·refine (JX h0.stk hf (by omega) h0.sh.fC h0.oK x _ _ hb0 hb1).mono ?_
   rintro e w' ⟨rfl,o',e1,f1,h1,k1⟩
   obtain ⟨h2,k2⟩:=h0.Qe h1 k1 e1 f1
   refine ⟨true,rfl,o',fun b hb=>e1 b (Nat.lt_of_lt_of_le hb hk.size),?_,hk.aS.trans k2⟩
   unfold CS.push
   rw [if_neg hf]
   exact h2
 have HC:=au (IZ q.K 262 _ FW W0 _ qW.out)
 have HW:=au hW0
 have z0:=hb0.cell 0 (v := aj q.K) rfl
 have hmf:=jc
 generalize c.push x=c' at *
 clear h hk hb0 hb1 h0 hW0 qW hl hr
 go_enter func245,ntmps245
 go_wp2_with fail
 rw [<- HW.out]
 go_wp2_with fail
 refine HC.out.mono ?_
 rintro e w1 ⟨b,rfl,h1⟩
 have HE:=au h1
 clear h1 HC
 go_wp2_with fail
 go_ret
 exact ⟨⟨b,rfl⟩,HE.out⟩
theorem I4 (h:aP o w G q s c ev nv) (hl:c.stk.length<=c.room) (hr:c.room<=4096) (x:Nat) (hx:c.stk.getLast?=some x):Calls ay 241 #[aj q.K] w fun e w'=>e = .returned (.tuple #[ah (x:Int),.bool true])/\aP o w' G q s c.pop ev nv/\Keep (In o [5]) w w':=by
 refine (O3 h.stk (by omega) x hx).mono ?_
 rintro e w' ⟨rfl,h1,k1⟩
 obtain ⟨h2,k2⟩:=h.Vb h1 (k1.mono (fun b _ e => .inl e))
 exact ⟨rfl,h2,k2⟩
theorem L6 (h:aP o w G q s c ev nv) (hx:c.stk.getLast?=none):Calls ay 241 #[aj q.K] w fun e w'=>e = .returned (.tuple #[ah 0,.bool false])/\aP o w' G q s c ev nv/\Keep none_ w w':=by
 have e:c.stk=[]:=by
  cases hc:c.stk with
  | nil=>rfl
  | cons a l=>rw [hc] at hx;simp [List.getLast?] at hx
 have hs:=h.stk
 rw [e] at hs
 refine (RY hs).mono ?_
 rintro e w' ⟨rfl,k1⟩
 exact ⟨rfl,h.still k1,k1⟩
theorem XZ (h:aP o w G q s c ev nv):Calls ay 255 #[aj q.K] w fun e w'=>e = .returned (ah (c.stk.length:Int))/\aP o w' G q s c ev nv/\Keep none_ w w':=by
 refine (zC h.stk).mono ?_
 rintro e w' ⟨rfl,k1⟩
 exact ⟨rfl,h.still k1,k1⟩
theorem Vf (h:aP o w G q s c ev nv):Calls ay 273 #[aj q.K] w fun e w'=>e = .returned (.bool c.over)/\aP o w' G q s { c with over:=false } ev nv/\Keep (In o [5]) w w':=by
 refine (O4 h.stk).mono ?_
 rintro e w' ⟨rfl,h1,k1⟩
 obtain ⟨h2,k2⟩:=h.Vb h1 (k1.mono (fun b _ e => .inl e))
 exact ⟨rfl,h2,k2⟩
end
end
section
attribute [local go_sem] Oper.semAt_some
open Go.RowKit
section
variable {o o':Ow} {w w':World} {G:Geo} {q:CG} {s:Sh} {c:CS} {ev:Option Ev} {nv nv0:Value}
def bF (o:Ow) (w:World) (G:Geo) (q:CG) (nv0:Value) (r:kF) (e:Ending) (w':World):Prop :=
 ∃ nv,e = .returned nv/\(nv = .nilFunc\/∃ fn first caps,nv = .func (.func fn) first caps)/\eG o w G q nv0 r (.returned nv) w'
theorem eG.toF {r:kF} {e:Ending} (h:eG o w G q nv0 r e w'):bF o w G q nv0 r e w':=by
 obtain ⟨o',nv,rfl,e1,h1,h2,k⟩:=h
 refine ⟨nv,rfl,?_,o',nv,rfl,e1,h1,h2,k⟩
 rcases h2.form with ⟨_,h⟩|⟨_,h⟩
 ·exact .inl h
 ·exact .inr h
theorem bF.after {r:kF} {e:Ending} {w1 w2:World} (k:Keep (In o aY) w w1) (h:bF o w1 G q nv0 r e w2):bF o w G q nv0 r e w2:=by
 obtain ⟨nv,e1,hf,hp⟩:=h
 exact ⟨nv,e1,hf,hp.after k⟩
theorem bF.made {f:Nat} {args:Array Value} {r:kF} {W:World} (h:aP o W G q r.s r.c r.ev nv0) (k:Keep (In o aY) w W) (hc:Calls ay f args W fun e w'=>∃ nv,e = .returned nv/\bg o w' q.C r.next nv/\Keep none_ W w'):Calls ay f args W (bF o w G q nv0 r):=by
 refine hc.mono ?_
 rintro e w' ⟨nv,rfl,h1,k1⟩
 exact (eG.same (h.still k1) h1 (k.trans k1.aS)).toF
theorem bF.made2 {f:Nat} {args:Array Value} {r:kF} {W:World} {S:Nat->Prop} (kS:Keep S w W) (h:aP o W G q r.s r.c r.ev nv0) (k:Keep (In o aY) w W) (hc:Calls ay f args W fun e w'=>∃ nv,e = .returned nv/\bg o w' q.C r.next nv/\Keep none_ W w'):Calls ay f args W fun e w'=>bF o w G q nv0 r e w'/\Keep S w w':=by
 refine hc.mono ?_
 rintro e w' ⟨nv,rfl,h1,k1⟩
 exact ⟨(eG.same (h.still k1) h1 (k.trans k1.aS)).toF,kS.trans (k1.mono (fun _ _ f=>f.elim))⟩
theorem eY:aY.contains 0=false:=by decide
theorem ShAt.sC (h:ShAt o w G s):w.cell? ⟨G.S,0,none⟩=some (aj (G.D 0))/\w.cell? ⟨G.S,1,none⟩=some (aj G.B)/\w.cell? ⟨G.S,2,none⟩=some (aj G.Q)/\w.cell? ⟨G.S,3,none⟩=some (aj G.Fl):=by
 obtain ⟨v,h1,_⟩:=h.sh
 exact ⟨h1.cell 0 rfl,h1.cell 1 rfl,h1.cell 2 rfl,h1.cell 3 rfl⟩
theorem aP.c0 (h:aP o w G q s c ev nv):w.cell? ⟨q.C,0,none⟩=some (aj G.S):=h.cell 0 _ rfl
theorem aP.free (h:aP o w G q s c ev nv) (i:Nat):w.frozen? ⟨q.C,i,none⟩=false:=h.blk.free i
theorem aP.evs (h:aP o w G q s c ev nv):∃ a b d e f x t,w.cell? ⟨q.C,13,none⟩=some a/\w.cell? ⟨q.C,14,none⟩=some b/\w.cell? ⟨q.C,15,none⟩=some d/\w.cell? ⟨q.C,16,none⟩=some e/\w.cell? ⟨q.C,17,none⟩=some f/\w.cell? ⟨q.C,18,none⟩=some x/\w.cell? ⟨q.C,19,none⟩=some t:=by
 obtain ⟨a,b,c',d,e,f,t,he⟩:=CO ev
 refine ⟨a,b,c',d,e,f,t,?_,?_,?_,?_,?_,?_,?_⟩
 all_goals
  refine h.cell _ _ ?_
  unfold jv
  rw [he]
  rfl
theorem xM (h:aP o w G q s c ev nv) (kind value:Nat):Calls ay 79 #[aj q.C,ah (kind:Int),ah (value:Int)] w fun e w'=>e = .returned (.tuple #[])/\aP o w' G q s c (some (c.ev kind value)) nv/\Keep (In o [5]) w w':=by
 have c1:w.cell? ⟨q.C,1,none⟩=some (ah (c.muts:Int)):=h.cell 1 _ rfl
 obtain ⟨x0,x1,x2,x3,x4,x5,x6,e0,e1,e2,e3,e4,e5,e6⟩:=h.evs
 have f0:=h.free 13;have f1:=h.free 14;have f2:=h.free 15;have f3:=h.free 16;have f4:=h.free 17;have f5:=h.free 18;have f6:=h.free 19
 have k:Keep (only q.C) w (((((((w.setCell ⟨q.C,13,none⟩ (ah 0)).setCell ⟨q.C,14,none⟩ (ah (c.muts:Int))).setCell ⟨q.C,15,none⟩ (ah (kind:Int))).setCell ⟨q.C,16,none⟩ (ah 0)).setCell ⟨q.C,17,none⟩ (ah 0)).setCell ⟨q.C,18,none⟩ (ah (value:Int))).setCell ⟨q.C,19,none⟩ (.bool true)) :=
  (((((((Keep.refl _ _).put _ _).put _ _).put _ _).put _ _).put _ _).put _ _).put _ _
 have HE:=au (h.struct k c (some (c.ev kind value)) nv (fun hb=>by
  have:=((((((hb.set 13 (ah 0)).set 14 (ah (c.muts:Int))).set 15 (ah (kind:Int))).set 16 (ah 0)).set 17 (ah 0)).set 18 (ah (value:Int))).set 19 (.bool true)
  obtain ⟨a,b,c',d,e,f,t,he⟩:=CO ev
  unfold jv at this ⊢
  rw [he] at this
  exact this) ⟨rfl,rfl,rfl⟩)
 generalize c.ev kind value=x at *
 generalize c.muts=mi at *
 clear h k
 go_enter func79,ntmps79
 go_wp2_with fail
 go_end0
 exact ⟨rfl,HE.out.1,HE.out.2⟩
theorem uz (h:aP o w G q s c ev nv0) (p:Nat) {t:CD} {tv:Value} (ht:bg o w q.C t tv) (hc0:0<=s.B.count) (hc1:s.B.count<=1000000000):Calls ay 80 #[aj q.C,ah (p:Int),tv] w (bF o w G q nv0 (uP s c p t ev)):=by
 have y4:=h.cell 4 _ rfl
 have f4:=h.free 4
 obtain ⟨W1,hW1⟩:∃ W1,W1=w.setCell ⟨q.C,4,none⟩ (ah (p:Int)):=⟨_,rfl⟩
 obtain ⟨h1,k1⟩:=h.put 4 (ah (p:Int)) { c with phase:=p } ev nv0 rfl ⟨rfl,rfl,rfl⟩
 rw [<- hW1] at h1 k1
 have y0:=h1.c0
 have s1:=h1.sh.sC.2.1
 have HB:Hid (Calls ay 120 #[aj G.B,ah (p:Int)] W1 fun e w'=>(∃ er:Int,e = .returned (ah er))/\aP o w' G q (s.ask p) { c with phase:=p } ev nv0/\Keep (In o aY) w w'):=by
  refine (QS G.B s.B (p:Int) W1 h1.sh.board hc0 hc1).mono ?_
  rintro e w' ⟨rfl,g1,g2⟩
  obtain ⟨h2,k2⟩:=h1.tq g2 g1
  exact ⟨⟨_,rfl⟩,h2,(qX k1).trans k2⟩
 have HWT:Hid (∀ W,aP o W G q (s.ask p) { c with phase:=p } ev nv0->Keep (In o aY) w W->Calls ay 121 #[aj q.C,ah 0,tv] W (bF o w G q nv0 (uP s c p t ev))):=fun W hW hk =>
  bF.made (r:=uP s c p t ev) hW hk (AU hW.sh.fC q.C 0 (ht.aH hk eY))
 have HW:=au hW1
 have hform:=ht.forms
 rw [hW1] at y0 s1
 generalize c.phase=ph at *
 generalize uP s c p t ev=R at *
 clear h h1 k1 ht hW1 hc0 hc1
 rcases hform with rfl|⟨fn,first,caps,rfl⟩
 all_goals
  go_enter func80,ntmps80
  go_wp2_with fail
  rw [<- HW.out]
  refine HB.out.mono ?_
  rintro e w2 ⟨⟨er,rfl⟩,g1,g2⟩
  have H2:=au (HWT.out w2 g1 g2)
  clear g1 g2 y0 s1 y4 f4 HB HWT
  go_wp2_with fail
  refine H2.out.mono ?_
  rintro e w3 ⟨nv,rfl,hf,hp⟩
  have HP:=au hp
  clear hp H2
  rcases hf with rfl|⟨fn2,first2,caps2,rfl⟩
  all_goals
   go_wp2_with fail
   go_ret
   exact ⟨_,rfl,by first|exact .inl rfl|exact .inr ⟨_,_,_,rfl⟩,HP.out⟩
end
section
variable {o o':Ow} {w w':World} {G:Geo} {q:CG} {s:Sh} {c:CS} {ev:Option Ev} {nv nv0:Value}
theorem abg (h:aP o w G q s c none nv0) (hc0:0<=s.B.count) (hc1:s.B.count<=1000000000):Calls ay 82 #[aj q.C] w (bF o w G q nv0 (aC s c .scan)):=by
 have HA:Hid (Calls ay 80 #[aj q.C,ah 3,bnd 122 q.C] w (bF o w G q nv0 (aC s c .scan))):=uz h 3 (t := .trace) (tv:=bnd 122 q.C) rfl hc0 hc1
 have hmf:=jc
 generalize aC s c .scan=R at *
 clear h hc0 hc1
 go_enter func82,ntmps82
 go_wp2_with fail
 refine HA.out.mono ?_
 rintro e w3 ⟨nv,rfl,hf,hp⟩
 have HP:=au hp
 clear hp HA
 rcases hf with rfl|⟨fn2,first2,caps2,rfl⟩
 all_goals
  go_wp2_with fail
  go_ret
  exact ⟨_,rfl,by first|exact .inl rfl|exact .inr ⟨_,_,_,rfl⟩,HP.out⟩
theorem acJ (h:aP o w G q s c none nv0) (hc0:0<=s.B.count) (hc1:s.B.count<=1000000000) (b0:Nat) (k0:aA w b0 [aB q.C] 30):Calls ay 81 #[aj b0] w (bF o w G q nv0 (aC s c .arm)):=by
 have HA:Hid (Calls ay 80 #[aj q.C,ah 2,bnd 82 q.C] w (bF o w G q nv0 (aC s c .arm))):=uz h 2 (t := .scan) (tv:=bnd 82 q.C) rfl hc0 hc1
 have hmf:=jc
 have z0:w.cell? ⟨b0,0,none⟩=some (aj q.C):=k0.cell 0 rfl
 generalize aC s c .arm=R at *
 clear h hc0 hc1 k0
 go_enter func81,ntmps81
 go_wp2_with fail
 refine HA.out.mono ?_
 rintro e w3 ⟨nv,rfl,hf,hp⟩
 have HP:=au hp
 clear hp HA
 rcases hf with rfl|⟨fn2,first2,caps2,rfl⟩
 all_goals
  go_wp2_with fail
  go_ret
  exact ⟨_,rfl,by first|exact .inl rfl|exact .inr ⟨_,_,_,rfl⟩,HP.out⟩
theorem acK (h:aP o w G q s c none nv0) (hc0:0<=s.B.count) (hc1:s.B.count<=1000000000) (b0:Nat) (k0:aA w b0 [aB q.C] 30):Calls ay 300 #[aj b0] w (bF o w G q nv0 (aC s c .off)):=by
 have HA:Hid (Calls ay 80 #[aj q.C,ah 7,bnd 301 q.C] w (bF o w G q nv0 (aC s c .off))):=uz h 7 (t := .idle) (tv:=bnd 301 q.C) rfl hc0 hc1
 have hmf:=jc
 have z0:w.cell? ⟨b0,0,none⟩=some (aj q.C):=k0.cell 0 rfl
 generalize aC s c .off=R at *
 clear h hc0 hc1 k0
 go_enter func300,ntmps300
 go_wp2_with fail
 refine HA.out.mono ?_
 rintro e w3 ⟨nv,rfl,hf,hp⟩
 have HP:=au hp
 clear hp HA
 rcases hf with rfl|⟨fn2,first2,caps2,rfl⟩
 all_goals
  go_wp2_with fail
  go_ret
  exact ⟨_,rfl,by first|exact .inl rfl|exact .inr ⟨_,_,_,rfl⟩,HP.out⟩
theorem ZX (h:aP o w G q s c none nv0) (hc0:0<=s.B.count) (hc1:s.B.count<=1000000000) (hd:c.drains<=1000000000):Calls ay 283 #[aj q.C] w (bF o w G q nv0 (aC s c .drain)):=by
 have y8:=h.cell 8 _ rfl
 have f8:=h.free 8
 have f11:=h.free 11
 obtain ⟨W1,hW1⟩:∃ W1,W1=w.setCell ⟨q.C,8,none⟩ (.bool false):=⟨_,rfl⟩
 obtain ⟨h1,k1⟩:=h.put 8 (.bool false) { c with fresh:=false } none nv0 rfl ⟨rfl,rfl,rfl⟩
 rw [<- hW1] at h1 k1
 have y11:=h1.cell 11 _ rfl
 have f11':=h1.free 11
 obtain ⟨W2,hW2⟩:∃ W2,W2=W1.setCell ⟨q.C,11,none⟩ (ah ((c.drains:Int)+1)):=⟨_,rfl⟩
 obtain ⟨h2,k2⟩:=h1.put 11 (ah ((c.drains:Int)+1)) { c with fresh:=false,drains:=c.drains+1 } none nv0 (by show _=jv G q _ _ _;unfold jv;push_cast;rfl) ⟨rfl,rfl,rfl⟩
 rw [<- hW2] at h2 k2
 have HA:Hid (Calls ay 80 #[aj q.C,ah 5,bnd 208 q.C] W2 (bF o w G q nv0 (aC s c .drain))):=(uz h2 5 (t := .work) (tv:=bnd 208 q.C) rfl hc0 hc1).mono (fun e w' hp=>hp.after (qX (k1.trans k2)))
 have hmf:=jc
 have hw1:IntKind.i64.wrap ((c.drains:Int)+1)=(c.drains:Int)+1:=IntWalk.i64_in _ (by omega)
 generalize aC s c .drain=R at *
 have HW1:=au hW1
 have HW2:=au hW2
 have y0:=h.c0
 rw [hW1] at y11 f11'
 generalize c.fresh=fr at *
 generalize c.drains=dr at *
 clear h h1 h2 k1 k2 hW1 hW2 hc0 hc1
 go_enter func283,ntmps283
 go_wp2_with fail
 rw [<- HW1.out,<- HW2.out]
 refine HA.out.mono ?_
 rintro e w3 ⟨nv,rfl,hf,hp⟩
 have HP:=au hp
 clear hp HA
 rcases hf with rfl|⟨fn2,first2,caps2,rfl⟩
 all_goals
  go_wp2_with fail
  go_ret
  exact ⟨_,rfl,by first|exact .inl rfl|exact .inr ⟨_,_,_,rfl⟩,HP.out⟩
theorem ZY (h:aP o w G q s c none nv0):Calls ay 122 #[aj q.C] w (bF o w G q nv0 (aC s c .trace)):=by
 have y4:=h.cell 4 _ rfl
 have f4:=h.free 4
 obtain ⟨W1,hW1⟩:∃ W1,W1=w.setCell ⟨q.C,4,none⟩ (ah 4):=⟨_,rfl⟩
 obtain ⟨h1,k1⟩:=h.put 4 (ah 4) { c with phase:=4 } none nv0 rfl ⟨rfl,rfl,rfl⟩
 rw [<- hW1] at h1 k1
 have HA:Hid (Calls ay 168 #[aj q.C,ah 0] W1 (bF o w G q nv0 (aC s c .trace))):=bF.made (r:=aC s c .trace) h1 (qX k1) (IX (c:=c) h1.sh.fC q.C 0 (h1.cell 3 _ rfl))
 generalize aC s c .trace=R at *
 have HW1:=au hW1
 generalize c.phase=ph at *
 clear h h1 k1 hW1
 go_enter func122,ntmps122
 go_wp2_with fail
 rw [<- HW1.out]
 refine HA.out.mono ?_
 rintro e w3 ⟨nv,rfl,hf,hp⟩
 have HP:=au hp
 clear hp HA
 rcases hf with rfl|⟨fn2,first2,caps2,rfl⟩
 all_goals
  go_wp2_with fail
  go_ret
  exact ⟨_,rfl,by first|exact .inl rfl|exact .inr ⟨_,_,_,rfl⟩,HP.out⟩
theorem X0 (h:aP o w G q s c none nv0):Calls ay 284 #[aj q.C] w (bF o w G q nv0 (aC s c .marked)):=by
 have y6:=h.cell 6 _ rfl
 have HT:Hid (Calls ay 79 #[aj q.C,ah 3,ah (c.cycles:Int)] w fun e w'=>e = .returned (.tuple #[])/\aP o w' G q s c (some (c.ev 3 c.cycles)) nv0/\Keep (In o [5]) w w'):=xM h 3 c.cycles
 have HS:Hid (∀ W,aP o W G q s c (some (c.ev 3 c.cycles)) nv0->Keep (In o [5]) w W->∃ W1,W1=W.setCell ⟨q.C,4,none⟩ (ah 6)/\(∃ ph:Int,W.cell? ⟨q.C,4,none⟩=some (ah ph))/\W.frozen? ⟨q.C,4,none⟩=false/\Calls ay 289 #[aj q.C,ah 0] W1 (bF o w G q nv0 (aC s c .marked))):=fun W hW hk=>by
  obtain ⟨h1,k1⟩:=hW.put 4 (ah 6) { c with phase:=6 } (some (c.ev 3 c.cycles)) nv0 rfl ⟨rfl,rfl,rfl⟩
  exact ⟨_,rfl,⟨_,hW.cell 4 _ rfl⟩,hW.free 4,bF.made (r:=aC s c .marked) h1 (qX (hk.trans k1)) (wU (c:=c) h1.sh.fC q.C 0 (h1.cell 2 _ rfl))⟩
 generalize aC s c .marked=R at *
 generalize c.cycles=cy at *
 clear h
 go_enter func284,ntmps284
 go_wp2_with fail
 refine HT.out.mono ?_
 rintro e w1 ⟨rfl,h1,k1⟩
 obtain ⟨W1,hW1,⟨ph,y4⟩,f4,ha⟩:=HS.out w1 h1 k1
 have HA:=au ha
 have HW1:=au hW1
 clear h1 k1 HS HT ha hW1 y6
 go_wp2_with fail
 rw [<- HW1.out]
 refine HA.out.mono ?_
 rintro e w3 ⟨nv,rfl,hf,hp⟩
 have HP:=au hp
 clear hp HA
 rcases hf with rfl|⟨fn2,first2,caps2,rfl⟩
 all_goals
  go_wp2_with fail
  go_ret
  exact ⟨_,rfl,by first|exact .inl rfl|exact .inr ⟨_,_,_,rfl⟩,HP.out⟩
theorem abh (h:aP o w G q s c none nv0):Calls ay 301 #[aj q.C] w (bF o w G q nv0 (aC s c .idle)):=by
 have y4:=h.cell 4 _ rfl
 have f4:=h.free 4
 obtain ⟨W1,hW1⟩:∃ W1,W1=w.setCell ⟨q.C,4,none⟩ (ah 0):=⟨_,rfl⟩
 obtain ⟨h1,k1⟩:=h.put 4 (ah 0) { c with phase:=0 } none nv0 rfl ⟨rfl,rfl,rfl⟩
 rw [<- hW1] at h1 k1
 have y6:=h1.cell 6 _ rfl
 rw [hW1] at y6
 have HT:Hid (Calls ay 79 #[aj q.C,ah 4,ah (c.cycles:Int)] W1 fun e w'=>e = .returned (.tuple #[])/\eG o w G q nv0 (aC s c .idle) (.returned .nilFunc) w'):=by
  refine (xM h1 4 c.cycles).mono ?_
  rintro e w' ⟨rfl,g1,g2⟩
  exact ⟨rfl,eG.same (r:=aC s c .idle) g1 rfl (qX (k1.trans g2))⟩
 generalize aC s c .idle=R at *
 have HW1:=au hW1
 generalize c.phase=ph at *
 generalize c.cycles=cy at *
 clear h h1 k1 hW1
 go_enter func301,ntmps301
 go_wp2_with fail
 rw [<- HW1.out]
 refine HT.out.mono ?_
 rintro e w3 ⟨rfl,hp⟩
 have HP:=au hp
 clear hp HT
 go_wp2_with fail
 go_ret
 exact ⟨_,rfl,.inl rfl,HP.out⟩
end
section
variable {o o':Ow} {w w':World} {G:Geo} {q:CG} {s:Sh} {c:CS} {ev:Option Ev} {nv nv0:Value}
theorem abj (h:aP o w G q s c none nv0) (hmu:c.muts<=8) (m:Nat) (hm:m<c.muts) (t:CD) (tv:Value) (ht:bg o w q.C t tv) (b0 b1 b2:Nat) (o0:o b0=0) (o1:o b1=0) (o2:o b2=0) (k0:aA w b0 [aB q.C] 30) (k1:aA w b1 [ah (m:Int)] 3) (k2:aA w b2 [tv] 88) :
 Calls ay 166 #[aj b0,aj b1,aj b2] w (bF o w G q nv0 (aC s c (.wait m t))):=by
 have HC:Hid (∀ V,Keep none_ w V->V.cell? ⟨b0,0,none⟩=some (aj q.C)/\V.cell? ⟨b1,0,none⟩=some (ah (m:Int))/\V.cell? ⟨b2,0,none⟩=some tv/\V.cell? ⟨q.C,0,none⟩=some (aj G.S)/\V.cell? ⟨q.C,1,none⟩=some (ah (c.muts:Int))/\V.cell? ⟨G.S,1,none⟩=some (aj G.B)):=fun V hV=>by
  have h9:=h.still hV
  exact ⟨(hV.blk k0 (fun f=>f)).cell 0 rfl,(hV.blk k1 (fun f=>f)).cell 0 rfl,(hV.blk k2 (fun f=>f)).cell 0 rfl,h9.c0,h9.cell 1 _ rfl,h9.sh.sC.2.1⟩
 have vg:Hid (∀ V,Keep none_ w V->Calls ay 167 #[aj G.B,ah (m:Int)] V fun e w'=>e = .returned (.bool (s.B.did m))/\V=w'):=fun V hV=>ET G.B s.B (m:Int) V (h.still hV).sh.board
 have hform:=ht.forms
 have HST:Hid (∀ V,Keep none_ w V->aP o V G q s c none nv0/\bg o V q.C t tv):=fun V hV=>⟨h.still hV,ht.still hV⟩
 have e1:aC s c (.wait m t)=⟨s,c,if !s.B.did m then .wait m t else if m+1<c.muts then .wait (m+1) t else t,none⟩:=rfl
 have hwm:IntKind.i64.wrap ((m:Int)+1)=(m:Int)+1:=IntWalk.i64_in _ (by omega)
 obtain ⟨y0,y1,y2,y3,y4,y5⟩:=HC.out w (Keep.refl _ _)
 cases hd:s.B.did m with
 | false =>
   rw [hd] at vg e1
   have HW:Hid (∀ V,Keep none_ w V->Calls ay 121 #[aj q.C,ah (m:Int),tv] V (bF o w G q nv0 (aC s c (.wait m t)))):=fun V hV=>by
    rw [e1]
    exact bF.made (r:=⟨s,c,.wait m t,none⟩) (HST.out V hV).1 hV.aS (AU (HST.out V hV).1.sh.fC q.C m (HST.out V hV).2)
   generalize aC s c (.wait m t)=R at *
   clear h ht k0 k1 k2 o0 o1 o2 HST hd e1
   rcases hform with rfl|⟨fn,first,caps,rfl⟩
   all_goals
    go_enter func166,ntmps166
    go_wp2_with fail
    go_quiet (first|(go_at_call 167;exact Calls.quiet_of_same (eU (vg.out _ ((Keep.refl none_ w).drewN _)))))
    obtain ⟨V,hV⟩:∃ V,V=w.drewN nq:=⟨_,rfl⟩
    have hk:Keep none_ w V:=by rw [hV];exact (Keep.refl _ _).drewN _
    rw [<- hV]
    clear hV y0 y1 y2 y3 y4 y5
    obtain ⟨y0,y1,y2,y3,y4,y5⟩:=HC.out V hk
    have Vg:=au (HW.out V hk)
    clear HW HC vg hk
    go_wp2_with fail
    refine Vg.out.mono ?_
    rintro e w3 ⟨nv,rfl,hf,hp⟩
    have HP:=au hp
    clear hp Vg
    rcases hf with rfl|⟨fn2,first2,caps2,rfl⟩
    all_goals
     go_wp2_with fail
     go_ret
     exact ⟨_,rfl,by first|exact .inl rfl|exact .inr ⟨_,_,_,rfl⟩,HP.out⟩
 | true =>
   rw [hd] at vg e1
   by_cases hlt:m+1<c.muts
   ·have oV:(m:Int)+1<(c.muts:Int):=by omega
    have HW:Hid (∀ V,Keep none_ w V->Calls ay 121 #[aj q.C,ah ((m:Int)+1),tv] V (bF o w G q nv0 (aC s c (.wait m t)))):=fun V hV=>by
     have h9:=AU (HST.out V hV).1.sh.fC q.C (m+1) (HST.out V hV).2
     rw [show (((m+1:Nat)):Int)=(m:Int)+1 from by push_cast;rfl] at h9
     rw [e1]
     exact bF.made (r:=⟨s,c,_,none⟩) (HST.out V hV).1 hV.aS (by simp only [Bool.not_true,Bool.false_eq_true,if_false,if_pos hlt];exact h9)
    generalize aC s c (.wait m t)=R at *
    clear h ht k0 k1 k2 o0 o1 o2 HST hd e1 hlt hm
    generalize c.muts=mu at *
    rcases hform with rfl|⟨fn,first,caps,rfl⟩
    all_goals
     go_enter func166,ntmps166
     go_wp2_with fail
     go_quiet (first|(go_at_call 167;exact Calls.quiet_of_same (eU (vg.out _ ((Keep.refl none_ w).drewN _)))))
     obtain ⟨V,hV⟩:∃ V,V=w.drewN nq:=⟨_,rfl⟩
     have hk:Keep none_ w V:=by rw [hV];exact (Keep.refl _ _).drewN _
     rw [<- hV]
     clear hV y0 y1 y2 y3 y4 y5 nq
     obtain ⟨y0,y1,y2,y3,y4,y5⟩:=HC.out V hk
     go_wp2_with fail
     go_quiet (fail)
     obtain ⟨V2,hV2⟩:∃ V2,V2=V.drewN nq:=⟨_,rfl⟩
     have hk2:Keep none_ w V2:=by rw [hV2];exact hk.drewN _
     rw [<- hV2]
     clear hV2 y0 y1 y2 y3 y4 y5
     obtain ⟨y0,y1,y2,y3,y4,y5⟩:=HC.out V2 hk2
     have Vg:=au (HW.out V2 hk2)
     clear HW HC vg hk hk2
     go_wp2_with fail
     refine Vg.out.mono ?_
     rintro e w3 ⟨nv,rfl,hf,hp⟩
     have HP:=au hp
     clear hp Vg
     rcases hf with rfl|⟨fn2,first2,caps2,rfl⟩
     all_goals
      go_wp2_with fail
      go_ret
      exact ⟨_,rfl,by first|exact .inl rfl|exact .inr ⟨_,_,_,rfl⟩,HP.out⟩
   ·have oV:¬ ((m:Int)+1<(c.muts:Int)):=by omega
    have HE:Hid (∀ V,Keep none_ w V->eG o w G q nv0 (aC s c (.wait m t)) (.returned tv) V):=fun V hV=>by
     rw [e1]
     exact eG.same (r:=⟨s,c,_,none⟩) (HST.out V hV).1 (by simp only [Bool.not_true,Bool.false_eq_true,if_false,if_neg hlt];exact (HST.out V hV).2) hV.aS
    generalize aC s c (.wait m t)=R at *
    clear h ht k0 k1 k2 o0 o1 o2 HST hd e1 hlt hm
    generalize c.muts=mu at *
    rcases hform with rfl|⟨fn,first,caps,rfl⟩
    all_goals
     go_enter func166,ntmps166
     go_wp2_with fail
     go_quiet (first|(go_at_call 167;exact Calls.quiet_of_same (eU (vg.out _ ((Keep.refl none_ w).drewN _)))))
     obtain ⟨V,hV⟩:∃ V,V=w.drewN nq:=⟨_,rfl⟩
     have hk:Keep none_ w V:=by rw [hV];exact (Keep.refl _ _).drewN _
     rw [<- hV]
     clear hV y0 y1 y2 y3 y4 y5 nq
     obtain ⟨y0,y1,y2,y3,y4,y5⟩:=HC.out V hk
     go_wp2_with fail
     go_quiet (fail)
     obtain ⟨V2,hV2⟩:∃ V2,V2=V.drewN nq:=⟨_,rfl⟩
     have hk2:Keep none_ w V2:=by rw [hV2];exact hk.drewN _
     rw [<- hV2]
     clear hV2 y0 y1 y2 y3 y4 y5
     obtain ⟨y0,y1,y2,y3,y4,y5⟩:=HC.out V2 hk2
     have vk:=au (HE.out V2 hk2)
     clear HE HC vg hk hk2
     go_wp2_with fail
     go_ret
     exact ⟨_,rfl,by first|exact .inl rfl|exact .inr ⟨_,_,_,rfl⟩,vk.out⟩
end
section
variable {o o':Ow} {w w':World} {G:Geo} {q:CG} {s:Sh} {c:CS} {ev:Option Ev} {nv nv0:Value}
theorem abk {H:HS} {x col:Nat} (hp:H.dX x col=true):(if H.bn x&&decide (col<2) then (0:Int) else 1)=0:=by
 unfold HS.dX at hp
 rw [Bool.and_eq_true] at hp
 rw [if_pos hp.1]
theorem abl (h:aP o w G q s c none nv0) (hl:c.stk.length<=c.room) (hr:c.room<=4096) (x:Nat) (t:CD) (tv:Value) (ht:bg o w q.C t tv) (b0 b1 b2:Nat) (o0:o b0=0) (o1:o b1=0) (o2:o b2=0) (k0:aA w b0 [aB q.C] 30) (k1:aA w b1 [ah (x:Int)] 3) (k2:aA w b2 [tv] 88) :
 Calls ay 244 #[aj b0,aj b1,aj b2] w (bF o w G q nv0 (aC s c (.look x t))):=by
 have HC:Hid (∀ V,Keep (In o aY) w V->V.cell? ⟨b0,0,none⟩=some (aj q.C)/\V.cell? ⟨b1,0,none⟩=some (ah (x:Int))/\V.cell? ⟨b2,0,none⟩=some tv):=fun V hV =>
  ⟨(hV.blk k0 (bI o0 eY)).cell 0 rfl,(hV.blk k1 (bI o1 eY)).cell 0 rfl,(hV.blk k2 (bI o2 eY)).cell 0 rfl⟩
 have hkd:Keep none_ w w.drew:=(Keep.refl none_ w).drew
 have hd:=h.still hkd
 obtain ⟨y0,y1,y2⟩:=HC.out w (Keep.refl _ _)
 have y3:=h.c0
 have y4:w.cell? ⟨q.C,5,none⟩=some (ah (c.color:Int)):=h.cell 5 _ rfl
 have y5:=h.sh.sC.1
 have hform:=ht.forms
 have Ag:Hid (Calls ay 216 #[aj (G.D 0),ah (x:Int),ah (c.color:Int)] w.drew fun e w'=>e = .returned (.tuple #[.bool (s.H.dX x c.color),ah (if s.H.bn x&&decide (c.color<2) then 0 else 1)])/\aP o w' G q { s with H:=s.H.bQ x c.color } c none nv0/\Keep (In o aY) w w'):=by
  refine (Fp hd.sh.heap x c.color).mono ?_
  rintro e w' ⟨rfl,g1,g2⟩
  obtain ⟨h1,k1⟩:=hd.qp g2 g1
  exact ⟨rfl,h1,hkd.aS.trans k1⟩
 cases hp:s.H.dX x c.color with
 | true =>
   have e1:aC s c (.look x t)=⟨{ s with H:=s.H.bQ x c.color },{ c with fresh:=true }.push x,t,none⟩:=by simp only [aC,hp,if_true]
   rw [hp,abk hp] at Ag
   have HS:Hid (∀ W,aP o W G q { s with H:=s.H.bQ x c.color } c none nv0->Keep (In o aY) w W->∃ W1,W1=W.setCell ⟨q.C,8,none⟩ (.bool true)/\W.cell? ⟨q.C,8,none⟩=some (.bool c.fresh)/\W.frozen? ⟨q.C,8,none⟩=false/\Keep (In o aY) w W1/\W1.cell? ⟨q.C,9,none⟩=some (aj q.K) /\
    Calls ay 245 #[aj q.K,ah (x:Int)] W1.drew fun e w'=>(∃ b,e = .returned (.bool b))/\w'.cell? ⟨b2,0,none⟩=some tv/\eG o w G q nv0 (aC s c (.look x t)) (.returned tv) w'):=fun W hW hk=>by
    obtain ⟨h1,k1⟩:=hW.put 8 (.bool true) { c with fresh:=true } none nv0 rfl ⟨rfl,rfl,rfl⟩
    refine ⟨_,rfl,hW.cell 8 _ rfl,hW.free 8,hk.trans (qX k1),h1.FY,?_⟩
    have kd:Keep none_ (W.setCell ⟨q.C,8,none⟩ (.bool true)) (W.setCell ⟨q.C,8,none⟩ (.bool true)).drew:=(Keep.refl none_ _).drew
    refine (Ve (h1.still kd) x hl hr).mono ?_
    rintro e w' ⟨hb,o',eo,h2,k2'⟩
    have kk:Keep (In o aY) w w':=(hk.trans (qX k1)).trans (kd.aS.trans (qX k2'))
    have ew:aQ w o o':=fun b hb=>eo b (by have:=((hk.trans (qX k1)).trans kd.aS).size;omega)
    refine ⟨hb,(HC.out w' kk).2.2,o',tv,rfl,ew,?_,gJ.of ?_,kk⟩
    ·rw [e1];exact h2
    ·rw [e1];exact bg.ext ew (ht) |>.aH (kk.rO ew) eY
   clear e1
   generalize aC s c (.look x t)=R at *
   generalize { s with H:=s.H.bQ x c.color }=s' at *
   generalize c.color=col at *
   clear h hd hkd ht k0 k1 k2 o0 o1 o2 hp
   rcases hform with rfl|⟨fn,first,caps,rfl⟩
   all_goals
    go_enter func244,ntmps244
    go_wp2_with fail
    refine aI 12 rfl (by kernel_rfl) (by kernel_rfl) (fun K hK=>?_)
    change wpStill _ _ (World.drew _) _ _ _
    simp only [List.take_succ_cons,List.take_zero,List.drop_succ_cons,List.drop_zero] at hK ⊢
    repeat still_step
    refine wpStill_nil ?_
    change ite _ (Oper.wp _ _ _ _ _ _) _
    go_simp
    refine Ag.out.mono ?_
    rintro e w1 ⟨rfl,h1,k1⟩
    refine hK _ _ ?_
    clear hK K
    obtain ⟨W1,hW1,z8,f8,kk1,z9,hpush⟩:=HS.out w1 h1 k1
    clear y0 y1 y2 y3 y4 y5
    obtain ⟨y0,y1,y2⟩:=HC.out w1 k1
    obtain ⟨u0,u1,u2⟩:=HC.out W1 kk1
    have Vh:=au hpush
    have HW1:=au hW1
    clear h1 k1 Ag HS HC kk1 hpush hW1
    repeat still_step
    refine wpStill_nil ?_
    go_wp2_with fail
    rw [<- HW1.out]
    clear y0 y1 y2 z8 f8
    go_wp2_with fail
    refine aI 5 rfl (by kernel_rfl) (by kernel_rfl) (fun K hK=>?_)
    change wpStill _ _ (World.drew _) _ _ _
    simp only [List.take_succ_cons,List.take_zero,List.drop_succ_cons,List.drop_zero] at hK ⊢
    repeat still_step
    refine wpStill_nil ?_
    change ite _ (Oper.wp _ _ _ _ _ _) _
    go_simp
    refine Vh.out.mono ?_
    rintro e w2 ⟨⟨b,rfl⟩,v2,hp⟩
    refine hK _ _ ?_
    clear hK K
    have HP:=au hp
    clear hp Vh u0 u1 u2 z9
    repeat still_step
    refine wpStill_nil ?_
    go_wp2_with fail
    go_ret
    exact ⟨_,rfl,by first|exact .inl rfl|exact .inr ⟨_,_,_,rfl⟩,HP.out⟩
 | false =>
   have e1:aC s c (.look x t)=⟨s,c,t,none⟩:=by simp only [aC,hp];rfl
   have hsame:s.H.bQ x c.color=s.H:=by unfold HS.bQ;rw [if_neg (by rw [hp];decide)]
   rw [hp,hsame] at Ag
   have HE:Hid (∀ W,aP o W G q { s with H:=s.H } c none nv0->Keep (In o aY) w W->eG o w G q nv0 (aC s c (.look x t)) (.returned tv) W):=fun W hW hk=>by
    rw [e1]
    exact eG.same (r:=⟨s,c,t,none⟩) hW (ht.aH hk eY) hk
   clear e1
   generalize aC s c (.look x t)=R at *
   obtain ⟨er,her⟩:∃ er:Int,er=if s.H.bn x&&decide (c.color<2) then 0 else 1:=⟨_,rfl⟩
   rw [<- her] at Ag
   have her2:er=0\/er=1:=by rw [her];split<;>simp
   generalize { s with H:=s.H }=s' at *
   generalize c.color=col at *
   clear h hd hkd ht k0 k1 k2 o0 o1 o2 hp hsame her
   rcases hform with rfl|⟨fn,first,caps,rfl⟩<;>rcases her2 with rfl|rfl
   all_goals
    go_enter func244,ntmps244
    go_wp2_with fail
    refine aI 12 rfl (by kernel_rfl) (by kernel_rfl) (fun K hK=>?_)
    change wpStill _ _ (World.drew _) _ _ _
    simp only [List.take_succ_cons,List.take_zero,List.drop_succ_cons,List.drop_zero] at hK ⊢
    repeat still_step
    refine wpStill_nil ?_
    change ite _ (Oper.wp _ _ _ _ _ _) _
    go_simp
    refine Ag.out.mono ?_
    rintro e w1 ⟨rfl,h1,k1⟩
    refine hK _ _ ?_
    clear hK K
    have HP:=au (HE.out w1 h1 k1)
    clear y0 y1 y2 y3 y4 y5
    obtain ⟨y0,y1,y2⟩:=HC.out w1 k1
    clear h1 k1 Ag HE HC
    repeat still_step
    refine wpStill_nil ?_
    go_wp2_with fail
    go_ret
    exact ⟨_,rfl,by first|exact .inl rfl|exact .inr ⟨_,_,_,rfl⟩,HP.out⟩
end
section
variable {o o':Ow} {w w':World} {G:Geo} {q:CG} {s:Sh} {c:CS} {ev:Option Ev} {nv nv0:Value}
theorem abm (h:aP o w G q s c none nv0) (i:Nat) (hi:i<=100) (b0 b1:Nat) (k0:aA w b0 [aB q.C] 30) (k1:aA w b1 [ah (i:Int)] 3) :
 Calls ay 209 #[aj b0,aj b1] w (bF o w G q nv0 (aC s c (.cell i))):=by
 have HC:Hid (∀ V,Keep none_ w V->V.cell? ⟨b0,0,none⟩=some (aj q.C)/\V.cell? ⟨b1,0,none⟩=some (ah (i:Int))):=fun V hV =>
  ⟨(hV.blk k0 (fun f=>f)).cell 0 rfl,(hV.blk k1 (fun f=>f)).cell 0 rfl⟩
 obtain ⟨y0,y1⟩:=HC.out w (Keep.refl _ _)
 have y3:=h.c0
 have y5:=h.sh.sC.1
 have Vj:Hid (∀ V,Keep none_ w V->Calls ay 57 #[aj (G.D 0),ah (i:Int)] V fun e w'=>e = .returned (.tuple #[ah (s.H.cellP (i:Int):Int),ah (s.H.kQ (i:Int):Int)])/\V=w'):=fun V hV=>xH (h.still hV).sh.heap (i:Int)
 have HNC:Hid (∀ V,Keep none_ w V->Calls ay 168 #[aj q.C,ah ((i:Int)+1)] V fun e w'=>∃ nv,e = .returned nv/\(bg o w' q.C (c.dZ (i+1)) nv/\Keep none_ w w')/\Keep none_ V w'):=fun V hV=>by
  have h9:=h.still hV
  have g:=IX (c:=c) h9.sh.fC q.C (i+1) (h9.cell 3 _ rfl)
  rw [show (((i+1:Nat)):Int)=(i:Int)+1 from by push_cast;rfl] at g
  refine g.mono ?_
  rintro e w' ⟨nv,rfl,g1,g2⟩
  exact ⟨nv,rfl,⟨g1,hV.trans g2⟩,g2⟩
 have Fa:Hid (∀ V nv,bg o V q.C (c.dZ (i+1)) nv/\Keep none_ w V->Calls ay 210 #[aj q.C,ah (s.H.cellP (i:Int):Int),nv] V fun e w'=>bF o w G q nv0 (aC s c (.cell i)) e w'/\Keep none_ w w'):=fun V nv hV =>
  bF.made2 (r:=aC s c (.cell i)) hV.2 (h.still hV.2) hV.2.aS (AV (h.still hV.2).sh.fC q.C _ hV.1)
 have hwi:IntKind.i64.wrap ((i:Int)+1)=(i:Int)+1:=IntWalk.i64_in _ (by omega)
 generalize aC s c (.cell i)=R at *
 generalize c.dZ (i+1)=d at *
 generalize s.H.cellP (i:Int)=v at *
 generalize s.H.kQ (i:Int)=er at *
 clear h k0 k1
 go_enter func209,ntmps209
 go_wp2_with fail
 go_quiet (first|(go_at_call 57;exact Calls.quiet_of_same (eU (Vj.out _ ((Keep.refl none_ w).drewN _)))))
 obtain ⟨V,hV⟩:∃ V,V=w.drewN nq:=⟨_,rfl⟩
 have HK:Hid (Keep none_ w V):=by rw [hV];exact (Keep.refl _ _).drewN _
 rw [<- hV]
 clear hV y0 y1 y3 y5 nq Vj
 obtain ⟨y0,y1⟩:=HC.out V HK.out
 go_wp2_with fail
 go_region_held3 (fun W'=>W'.cell? ⟨b0,0,none⟩=some (aj q.C)/\W'.cell? ⟨b1,0,none⟩=some (ah (i:Int)))
  (first
   | exact ⟨y0,y1⟩
   | exact HC.out _ gy.out
   | exact HC.out _ HX.out.2
   | exact HC.out _ HK.out.drew
   | fail "ji")
  (first
   | (go_at_call 168
      refine (HNC.out _ (by first|exact HK.out.drew|exact HK.out)).mono ?_
      rintro e w2 ⟨nv,rfl,hx,_⟩
      have HX:=au hx
      clear hx)
   | (go_at_call 210
      refine (Fa.out _ _ HX.out).mono ?_
      rintro e w3 ⟨⟨nv3,rfl,hf3,hp3⟩,k3⟩
      have gy:=au k3
      have HP:=au hp3
      have wV:=au hf3
      clear hp3 hf3 k3)
   | fail "jZ")
 all_goals
  have hfm:=wV.out
  rcases hfm with rfl|⟨fn2,first2,caps2,rfl⟩
  all_goals
   go_wp2_with fail
   go_ret
   exact ⟨_,rfl,by first|exact .inl rfl|exact .inr ⟨_,_,_,rfl⟩,HP.out⟩
end
section
variable {o o':Ow} {w w':World} {G:Geo} {q:CG} {s:Sh} {c:CS} {ev:Option Ev} {nv nv0:Value}
theorem X3 (h:aP o w G q s c none nv0) (a:Nat) (t:CD) (tv:Value) (ht:bg o w q.C t tv) (b0 b1 b2:Nat) (o0:o b0=0) (o1:o b1=0) (o2:o b2=0) (k0:aA w b0 [aB q.C] 30) (k1:aA w b1 [ah (a:Int)] 3) (k2:aA w b2 [tv] 88) :
 Calls ay 256 #[aj b0,aj b1,aj b2] w (bF o w G q nv0 (aC s c (.object a t))):=by
 have HC:Hid (∀ V,Keep (In o aY) w V->V.cell? ⟨b0,0,none⟩=some (aj q.C)/\V.cell? ⟨b1,0,none⟩=some (ah (a:Int))/\V.cell? ⟨b2,0,none⟩=some tv):=fun V hV =>
  ⟨(hV.blk k0 (bI o0 eY)).cell 0 rfl,(hV.blk k1 (bI o1 eY)).cell 0 rfl,(hV.blk k2 (bI o2 eY)).cell 0 rfl⟩
 have hkd:Keep none_ w w.drew:=(Keep.refl none_ w).drew
 have hd:=h.still hkd
 obtain ⟨y0,y1,y2⟩:=HC.out w (Keep.refl _ _)
 have y3:=h.c0
 have y5:=h.sh.sC.1
 have hform:=ht.forms
 have Qg:Hid (Calls ay 55 #[aj (G.D 0),ah (a:Int)] w.drew fun e w'=>e = .returned (.tuple #[ah ((s.H.aV a).1:Int),ah ((s.H.aV a).2:Int)])/\aP o w' G q s c none nv0/\Keep (In o aY) w w'):=by
  refine (yA hd.sh.heap a).mono ?_
  rintro e w' ⟨rfl,g1,g2⟩
  obtain ⟨h1,k1⟩:=hd.qp g2 g1
  exact ⟨rfl,h1,hkd.aS.trans k1⟩
 have HFD:Hid (∀ W,aP o W G q s c none nv0->Keep (In o aY) w W->Calls ay 257 #[aj q.C,ah (a:Int),ah 0,ah ((s.H.aV a).1:Int),tv] W (bF o w G q nv0 (aC s c (.object a t)))):=fun W hW hk =>
  bF.made (r:=aC s c (.object a t)) hW hk (FT hW.sh.fC q.C a 0 _ (ht.aH hk eY))
 generalize aC s c (.object a t)=R at *
 generalize (s.H.aV a).1=n at *
 generalize (s.H.aV a).2=er at *
 clear h hd hkd ht k0 k1 k2 o0 o1 o2
 rcases hform with rfl|⟨fn,first,caps,rfl⟩
 all_goals
  go_enter func256,ntmps256
  go_wp2_with fail
  refine aI 8 rfl (by kernel_rfl) (by kernel_rfl) (fun K hK=>?_)
  change wpStill _ _ (World.drew _) _ _ _
  simp only [List.take_succ_cons,List.take_zero,List.drop_succ_cons,List.drop_zero] at hK ⊢
  repeat still_step
  refine wpStill_nil ?_
  change ite _ (Oper.wp _ _ _ _ _ _) _
  go_simp
  refine Qg.out.mono ?_
  rintro e w1 ⟨rfl,h1,k1⟩
  refine hK _ _ ?_
  clear hK K
  have wQ:=au (HFD.out w1 h1 k1)
  clear y0 y1 y2 y3 y5
  obtain ⟨y0,y1,y2⟩:=HC.out w1 k1
  clear h1 k1 Qg HFD HC
  repeat still_step
  refine wpStill_nil ?_
  go_wp2_with fail
  refine wQ.out.mono ?_
  rintro e w3 ⟨nv,rfl,hf,hp⟩
  have HP:=au hp
  clear hp wQ
  rcases hf with rfl|⟨fn2,first2,caps2,rfl⟩
  all_goals
   go_wp2_with fail
   go_ret
   exact ⟨_,rfl,by first|exact .inl rfl|exact .inr ⟨_,_,_,rfl⟩,HP.out⟩
theorem Z4 (h:aP o w G q s c none nv0) (a i n:Nat) (hi:i<n) (hn:n<=100) (t:CD) (tv:Value) (ht:bg o w q.C t tv) (b0 b1 b2 b3 b4:Nat) (o0:o b0=0) (o1:o b1=0) (o2:o b2=0) (o3:o b3=0) (o4:o b4=0) (k0:aA w b0 [aB q.C] 30) (k1:aA w b1 [ah (a:Int)] 3) (k2:aA w b2 [ah (i:Int)] 3) (k3:aA w b3 [ah (n:Int)] 3) (k4:aA w b4 [tv] 88) :
 Calls ay 271 #[aj b0,aj b1,aj b2,aj b3,aj b4] w (bF o w G q nv0 (aC s c (.field a i n t))):=by
 have HC:Hid (∀ V,Keep (In o aY) w V->V.cell? ⟨b0,0,none⟩=some (aj q.C)/\V.cell? ⟨b1,0,none⟩=some (ah (a:Int))/\V.cell? ⟨b2,0,none⟩=some (ah (i:Int))/\V.cell? ⟨b3,0,none⟩=some (ah (n:Int))/\V.cell? ⟨b4,0,none⟩=some tv):=fun V hV =>
  ⟨(hV.blk k0 (bI o0 eY)).cell 0 rfl,(hV.blk k1 (bI o1 eY)).cell 0 rfl,(hV.blk k2 (bI o2 eY)).cell 0 rfl,(hV.blk k3 (bI o3 eY)).cell 0 rfl,(hV.blk k4 (bI o4 eY)).cell 0 rfl⟩
 have hkd:Keep none_ w w.drew:=(Keep.refl none_ w).drew
 have hd:=h.still hkd
 obtain ⟨y0,y1,y2,y3,y4⟩:=HC.out w (Keep.refl _ _)
 have y6:=h.c0
 have y5:=h.sh.sC.1
 have hform:=ht.forms
 have uT:Hid (Calls ay 56 #[aj (G.D 0),ah (a:Int),ah (i:Int)] w.drew fun e w'=>e = .returned (.tuple #[ah (s.H.bY a (i:Int):Int),ah (s.H.jk a (i:Int):Int)])/\aP o w' G q s c none nv0/\Keep (In o aY) w w'):=by
  refine (IL hd.sh.heap a (i:Int)).mono ?_
  rintro e w' ⟨rfl,g1,g2⟩
  obtain ⟨h1,k1⟩:=hd.qp g2 g1
  exact ⟨rfl,h1,hkd.aS.trans k1⟩
 have HNF:Hid (∀ W,aP o W G q s c none nv0/\Keep (In o aY) w W->Calls ay 257 #[aj q.C,ah (a:Int),ah ((i:Int)+1),ah (n:Int),tv] W fun e w'=>∃ nv,e = .returned nv/\bg o w' q.C (cu a (i+1) n t) nv/\aP o w' G q s c none nv0/\Keep (In o aY) w w'):=fun W hW=>by
  have g:=FT hW.1.sh.fC q.C a (i+1) n (ht.aH hW.2 eY)
  rw [show (((i+1:Nat)):Int)=(i:Int)+1 from by push_cast;rfl] at g
  refine g.mono ?_
  rintro e w' ⟨nv,rfl,g1,g2⟩
  exact ⟨nv,rfl,g1,hW.1.still g2,hW.2.trans g2.aS⟩
 have Fa:Hid (∀ V nv,bg o V q.C (cu a (i+1) n t) nv/\aP o V G q s c none nv0/\Keep (In o aY) w V->Calls ay 210 #[aj q.C,ah (s.H.bY a (i:Int):Int),nv] V fun e w'=>bF o w G q nv0 (aC s c (.field a i n t)) e w'/\Keep (In o aY) w w'):=fun V nv hV =>
  bF.made2 (r:=aC s c (.field a i n t)) hV.2.2 hV.2.1 hV.2.2 (AV hV.2.1.sh.fC q.C _ hV.1)
 have HDR:Hid (∀ V,aP o V G q s c none nv0/\Keep (In o aY) w V->aP o V.drew G q s c none nv0/\Keep (In o aY) w V.drew):=fun V hV=>⟨hV.1.still ((Keep.refl none_ V).drew),hV.2.trans ((Keep.refl _ V).drew)⟩
 have hwi:IntKind.i64.wrap ((i:Int)+1)=(i:Int)+1:=IntWalk.i64_in _ (by omega)
 generalize aC s c (.field a i n t)=R at *
 generalize cu a (i+1) n t=d at *
 generalize s.H.bY a (i:Int)=v at *
 generalize s.H.jk a (i:Int)=er at *
 clear h hd hkd ht k0 k1 k2 k3 k4 o0 o1 o2 o3 o4
 rcases hform with rfl|⟨fn,first,caps,rfl⟩
 ·skip
  go_enter func271,ntmps271
  go_wp2_with fail
  refine aI 9 rfl (by kernel_rfl) (by kernel_rfl) (fun K hK=>?_)
  change wpStill _ _ (World.drew _) _ _ _
  simp only [List.take_succ_cons,List.take_zero,List.drop_succ_cons,List.drop_zero] at hK ⊢
  repeat still_step
  refine wpStill_nil ?_
  change ite _ (Oper.wp _ _ _ _ _ _) _
  go_simp
  refine uT.out.mono ?_
  rintro e w1 ⟨rfl,h1,k1⟩
  refine hK _ _ ?_
  clear hK K
  have aJ:=au (And.intro h1 k1)
  clear y0 y1 y2 y3 y4 y5 y6
  obtain ⟨y0,y1,y2,y3,y4⟩:=HC.out w1 k1
  clear h1 k1 uT
  repeat still_step
  refine wpStill_nil ?_
  go_wp2_with fail
  go_region_held3 (fun W'=>W'.cell? ⟨b0,0,none⟩=some (aj q.C)/\W'.cell? ⟨b1,0,none⟩=some (ah (a:Int))/\W'.cell? ⟨b2,0,none⟩=some (ah (i:Int))/\W'.cell? ⟨b3,0,none⟩=some (ah (n:Int))/\W'.cell? ⟨b4,0,none⟩=some (.nilFunc))
   (first
    | exact ⟨y0,y1,y2,y3,y4⟩
    | exact HC.out _ gy.out
    | exact HC.out _ HX.out.2.2
    | exact HC.out _ (HDR.out _ aJ.out).2
    | fail "ji")
   (first
    | (go_at_call 257
       refine (HNF.out _ (by first|exact HDR.out _ aJ.out|exact aJ.out)).mono ?_
       rintro e w2 ⟨nv,rfl,hx⟩
       have HX:=au hx
       clear hx)
    | (go_at_call 210
       refine (Fa.out _ _ HX.out).mono ?_
       rintro e w3 ⟨⟨nv3,rfl,hf3,hp3⟩,k3⟩
       have gy:=au k3
       have HP:=au hp3
       have wV:=au hf3
       clear hp3 hf3 k3)
    | fail "jZ")
  all_goals
   have hfm:=wV.out
   rcases hfm with rfl|⟨fn2,first2,caps2,rfl⟩
   all_goals
    go_wp2_with fail
    go_ret
    exact ⟨_,rfl,by first|exact .inl rfl|exact .inr ⟨_,_,_,rfl⟩,HP.out⟩
 ·skip
  go_enter func271,ntmps271
  go_wp2_with fail
  refine aI 9 rfl (by kernel_rfl) (by kernel_rfl) (fun K hK=>?_)
  change wpStill _ _ (World.drew _) _ _ _
  simp only [List.take_succ_cons,List.take_zero,List.drop_succ_cons,List.drop_zero] at hK ⊢
  repeat still_step
  refine wpStill_nil ?_
  change ite _ (Oper.wp _ _ _ _ _ _) _
  go_simp
  refine uT.out.mono ?_
  rintro e w1 ⟨rfl,h1,k1⟩
  refine hK _ _ ?_
  clear hK K
  have aJ:=au (And.intro h1 k1)
  clear y0 y1 y2 y3 y4 y5 y6
  obtain ⟨y0,y1,y2,y3,y4⟩:=HC.out w1 k1
  clear h1 k1 uT
  repeat still_step
  refine wpStill_nil ?_
  go_wp2_with fail
  go_region_held3 (fun W'=>W'.cell? ⟨b0,0,none⟩=some (aj q.C)/\W'.cell? ⟨b1,0,none⟩=some (ah (a:Int))/\W'.cell? ⟨b2,0,none⟩=some (ah (i:Int))/\W'.cell? ⟨b3,0,none⟩=some (ah (n:Int))/\W'.cell? ⟨b4,0,none⟩=some (.func (.func fn) first caps))
   (first
    | exact ⟨y0,y1,y2,y3,y4⟩
    | exact HC.out _ gy.out
    | exact HC.out _ HX.out.2.2
    | exact HC.out _ (HDR.out _ aJ.out).2
    | fail "ji")
   (first
    | (go_at_call 257
       refine (HNF.out _ (by first|exact HDR.out _ aJ.out|exact aJ.out)).mono ?_
       rintro e w2 ⟨nv,rfl,hx⟩
       have HX:=au hx
       clear hx)
    | (go_at_call 210
       refine (Fa.out _ _ HX.out).mono ?_
       rintro e w3 ⟨⟨nv3,rfl,hf3,hp3⟩,k3⟩
       have gy:=au k3
       have HP:=au hp3
       have wV:=au hf3
       clear hp3 hf3 k3)
    | fail "jZ")
  all_goals
   have hfm:=wV.out
   rcases hfm with rfl|⟨fn2,first2,caps2,rfl⟩
   all_goals
    go_wp2_with fail
    go_ret
    exact ⟨_,rfl,by first|exact .inl rfl|exact .inr ⟨_,_,_,rfl⟩,HP.out⟩
end
end
end Go.Proofs.YtanfphjoebobaaaGreatDoor
