/- Parts of the walk. No conditions. -/
import Derived.Test.YtanfphjoebobaaaGreatDoorZzeu
namespace Go.Proofs.YtanfphjoebobaaaGreatDoor
open _root_.Go.Proofs.Tryz hiding prog
open _root_.Go.Proofs.Tryz renaming prog->ay
set_option maxRecDepth 8000
set_option maxHeartbeats 8000000
section
attribute [local go_sem] Oper.semAt_some
open Go.RowKit
def gG (o:Ow) (w:World) (G:Geo) (q:CG) (s:Sh) (c:CS):Prop:=∃ ev nv,aP o w G q s c ev nv/\gJ o w (G.D 0) q.C c.color c.next nv
def rU (o:Ow) (w:World) (G:Geo) (q:CG) (s:Sh) (c:CS):Ending->World->Prop:=fun e w'=>∃ o',e = .returned (.tuple #[kX (bM s c).ev,jq (bM s c).ev])/\aQ w o o'/\gG o' w' G q (bM s c).s (bM s c).c/\Keep (In o aY) w w'
section
variable {o o':Ow} {w w':World} {G:Geo} {q:CG} {s:Sh} {c:CS} {ev:Option Ev} {nv nv0:Value} {N:Nat}
def wW (w:World) (M:Nat):World:=((((((w.setCell ⟨M,13,none⟩ (ah 0)).setCell ⟨M,14,none⟩ (ah 0)).setCell ⟨M,15,none⟩ (ah 0)).setCell ⟨M,16,none⟩ (ah 0)).setCell ⟨M,17,none⟩ (ah 0)).setCell ⟨M,18,none⟩ (ah 0)).setCell ⟨M,19,none⟩ (.bool false)
theorem aP.LX (h:aP o w G q s c ev nv):aP o (wW w q.C) G q s c none nv/\Keep (In o [5]) w (wW w q.C):=by
 have k:Keep (only q.C) w (wW w q.C):=(((((((Keep.refl _ _).put _ _).put _ _).put _ _).put _ _).put _ _).put _ _).put _ _
 exact h.struct k c none nv (fun hb=>by
  have:=((((((hb.set 13 (ah 0)).set 14 (ah 0)).set 15 (ah 0)).set 16 (ah 0)).set 17 (ah 0)).set 18 (ah 0)).set 19 (.bool false)
  obtain ⟨a,b,c',d,e,f,t,he⟩:=CO ev
  unfold jv at this ⊢
  rw [he] at this
  exact this) ⟨rfl,rfl,rfl⟩
theorem aP.pick0 (h:aP o w G q s c ev nv) {d:CD} (hn:gJ o w (G.D 0) q.C c.color d nv):∃ o1 W2,W2=wW (w.alloc (.cells zero6 37)) q.C/\aQ w o o1/\o1 w.heap.size=99 /\
 aP o1 W2 G q s c none nv/\gJ o1 W2 (G.D 0) q.C c.color d nv/\Keep (In o aY) w W2/\aA W2 w.heap.size zero6.toList 37:=by
 obtain ⟨W0,hW0⟩:∃ W0,W0=w.alloc (.cells zero6 37):=⟨_,rfl⟩
 have k0:Keep none_ w W0:=by rw [hW0];exact (Keep.refl _ _).alloc _
 have hR:aA W0 w.heap.size zero6.toList 37:=by rw [hW0];exact aA.new w _ _
 have e0:W0.heap.size=w.heap.size+1:=by rw [hW0];simp
 obtain ⟨o1,ho1⟩:∃ o1,o1=o.put w.heap.size 99:=⟨_,rfl⟩
 have hext:aQ w o o1:=by rw [ho1];exact Ow.jU (.inl (Nat.le_refl _))
 have hR1:o1 w.heap.size=99:=by rw [ho1];exact Ow.lM _ _ _
 have hf1:gX o1 W0:=by rw [ho1];exact Ow.nJ h.sh.fC k0.size (by omega)
 have h0:aP o1 W0 G q s c ev nv:=h.xK k0 hext hf1
 have n0:gJ o1 W0 (G.D 0) q.C c.color d nv:=(hn.ext hext).aH (I:=[]) k0.aS rfl rfl
 obtain ⟨h1,k1⟩:=h0.LX
 refine ⟨o1,_,by rw [hW0],hext,hR1,h1,n0.aH k1 rfl rfl,?_,hR.aH k1 hR1 rfl⟩
 refine (k0.aS (o:=o) (I:=aY)).trans' k1 (fun i hi hin=>?_)
 unfold In at hin ⊢
 rw [hext i hi] at hin
 simp at hin
 simp [aY,hin]
theorem aP.CU {R:Nat} (h:aP o w G q s c ev nv) {d:CD} {col:Nat} {v:Value} (hn:gJ o w (G.D 0) q.C col d v) (k:Keep (only R) w w') (hR:o R=99):aP o w' G q s c ev nv/\gJ o w' (G.D 0) q.C col d v:=by
 have k1:Keep (In o [99]) w w':=k.qK hR rfl
 exact ⟨h.share k1 rfl (h.sh.aH k1 rfl h.box8) rfl,hn.aH k1 rfl rfl⟩
theorem Vx (fn:Nat) (first caps:Array Value):∀ w,(binOp .neq 88 (.func (.func fn) first caps) .nilFunc).run ay w = .ok (.bool true) w:=fun w=>by first|rfl|(simp [binOp,go_sem];done)|(simp [binOp,go_sem];rfl)
theorem aP.behind (h:aP o w G q s c ev nv):(∃ a b c d e f t,∀ x,(w.alloc x).cell? ⟨q.C,13,none⟩=some a/\(w.alloc x).cell? ⟨q.C,14,none⟩=some b/\(w.alloc x).cell? ⟨q.C,15,none⟩=some c/\(w.alloc x).cell? ⟨q.C,16,none⟩=some d/\(w.alloc x).cell? ⟨q.C,17,none⟩=some e/\(w.alloc x).cell? ⟨q.C,18,none⟩=some f/\(w.alloc x).cell? ⟨q.C,19,none⟩=some t) /\
 (∀ x,(w.alloc x).cell? ⟨q.C,7,none⟩=some (.bool c.wish))/\(∀ x,(w.alloc x).cell? ⟨q.C,10,none⟩=some nv)/\(∀ x i,(w.alloc x).frozen? ⟨q.C,i,none⟩=false):=by
 obtain ⟨a,b,c',d,e,f,t,e0,e1,e2,e3,e4,e5,e6⟩:=h.evs
 have k:∀ x,Keep none_ w (w.alloc x):=fun x=>(Keep.refl _ _).alloc x
 exact ⟨⟨a,b,c',d,e,f,t,fun x=>⟨(k x).still e0,(k x).still e1,(k x).still e2,(k x).still e3,(k x).still e4,(k x).still e5,(k x).still e6⟩⟩,fun x=>(h.still (k x)).cell 7 _ rfl,fun x=>(h.still (k x)).cell 10 _ rfl,fun x i=>(h.still (k x)).free i⟩
theorem aP.evs3 (h:aP o w G q s c ev nv):∃ (a b c d e:Int) (t:Bool),(w.cell? ⟨q.C,13,none⟩=some (ah 0)/\w.cell? ⟨q.C,14,none⟩=some (ah a)/\w.cell? ⟨q.C,15,none⟩=some (ah b)/\w.cell? ⟨q.C,16,none⟩=some (ah c)/\w.cell? ⟨q.C,17,none⟩=some (ah d)/\w.cell? ⟨q.C,18,none⟩=some (ah e)/\w.cell? ⟨q.C,19,none⟩=some (.bool t))/\kX ev = .agg #[ah 0,ah a,ah b,ah c,ah d,ah e]/\jq ev = .bool t:=by
 cases ev with
 | none =>
   refine ⟨0,0,0,0,0,false,⟨?_,?_,?_,?_,?_,?_,?_⟩,rfl,rfl⟩
   all_goals exact h.cell _ _ rfl
 | some x =>
   refine ⟨x.who,x.kind,x.op,x.code,x.value,true,⟨?_,?_,?_,?_,?_,?_,?_⟩,rfl,rfl⟩
   all_goals exact h.cell _ _ rfl
def rV (o:Ow) (w:World) (G:Geo) (q:CG) (s:Sh) (c:CS) (W:World):Prop :=
 ∃ (a b c' d e:Int) (t:Bool),(W.cell? ⟨q.C,13,none⟩=some (ah 0)/\W.cell? ⟨q.C,14,none⟩=some (ah a)/\W.cell? ⟨q.C,15,none⟩=some (ah b)/\W.cell? ⟨q.C,16,none⟩=some (ah c')/\W.cell? ⟨q.C,17,none⟩=some (ah d)/\W.cell? ⟨q.C,18,none⟩=some (ah e)/\W.cell? ⟨q.C,19,none⟩=some (.bool t)) /\
  aA W w.heap.size zero6.toList 37/\Hid (∀ w6,Keep (only w.heap.size) W w6->rU o w G q s c (.returned (.tuple #[.agg #[ah 0,ah a,ah b,ah c',ah d,ah e],.bool t])) w6)
theorem rV.of {o1:Ow} {W2 W4:World} {r:kF} (hext:aQ w o o1) (hR:o1 w.heap.size=99) (hB:aA W2 w.heap.size zero6.toList 37) (k2:Keep (In o aY) w W2) (hn:Kt o1 W2 G q r W4) (hp:bM s c=⟨r.s,{ r.c with next:=r.next },r.next,r.ev⟩):rV o w G q s c W4:=by
 obtain ⟨o2,v,e2,h4,n4,k4⟩:=hn
 have hlt:=hB.lt
 obtain ⟨a,b,c',d,e,t,hcs,ea,et⟩:=h4.evs3
 refine ⟨a,b,c',d,e,t,hcs,hB.aH k4 hR (by decide),fun w6 k6=>?_⟩
 have hR2:o2 w.heap.size=99:=(e2 _ hlt).trans hR
 obtain ⟨h6,n6⟩:=h4.CU n4 k6 hR2
 unfold rU
 rw [hp,<- ea,<- et]
 refine ⟨o2,rfl,hext.trans k2.size e2,⟨r.ev,v,⟨h6.sh,h6.blk,h6.oC,h6.stk,h6.oK,h6.box8⟩,n6⟩,?_⟩
 have k46:Keep (fun b=>In o1 aY b\/b=w.heap.size) W2 w6:=(k4.mono (fun _ _ h=>Or.inl h)).trans (k6.mono (fun b _ h=>Or.inr h))
 refine k2.trans' k46 (fun i hi hin=>?_)
 rcases hin with hin|hin
 ·unfold In at hin ⊢
  rw [hext i hi] at hin
  exact hin
 ·omega
end
section
variable {o o':Ow} {w w':World} {G:Geo} {q:CG} {s:Sh} {c:CS} {ev:Option Ev} {nv nv0:Value} {N:Nat}
theorem Jh {d:CD} (h:oJ d=true):d = .nil:=by
 cases d<;>first|rfl|cases h
theorem SG (h:aP o w G q s c ev nv) (hn:gJ o w (G.D 0) q.C c.color c.next nv) (hnil:oJ c.next=true) (hws:c.wish=false):Calls ay 12 #[aj q.C] w (rU o w G q s c):=by
 obtain ⟨o1,W2,hW2,hext,hR,h2,n2,k2,hB⟩:=h.pick0 hn
 obtain ⟨⟨x0,x1,x2,x3,x4,x5,x6,hx⟩,hws0,hnx0,hfr0⟩:=h.behind
 have f10:=fun x=>hfr0 x 10
 have f13:=fun x=>hfr0 x 13
 have f14:=fun x=>hfr0 x 14
 have f15:=fun x=>hfr0 x 15
 have f16:=fun x=>hfr0 x 16
 have f17:=fun x=>hfr0 x 17
 have f18:=fun x=>hfr0 x 18
 have f19:=fun x=>hfr0 x 19
 have g13:=fun x=>(hx x).1
 have g14:=fun x=>(hx x).2.1
 have g15:=fun x=>(hx x).2.2.1
 have g16:=fun x=>(hx x).2.2.2.1
 have g17:=fun x=>(hx x).2.2.2.2.1
 have g18:=fun x=>(hx x).2.2.2.2.2.1
 have g19:=fun x=>(hx x).2.2.2.2.2.2
 have lQ:=hW2
 unfold wW at lQ
 have HW2:=au lQ
 have Jg:=Jh hnil
 rw [Jg] at hn n2
 obtain rfl:nv = .nilFunc:=hn
 have hp:bM s c=⟨s,{ c with next := .nil },.nil,none⟩:=by
  unfold bM
  simp only
  rw [if_neg (by rw [hnil];decide),if_neg (by rw [hws];decide)]
 have sO:Hid (rV o w G q s c W2):=rV.of (r:=⟨s,c,.nil,none⟩) hext hR hB k2 ⟨o1,.nilFunc,aQ.refl _ _,h2,n2,Keep.refl _ _⟩ hp
 have hnq:=CY
 rw [hws] at hws0
 unfold rV at sO
 generalize rU o w G q s c=PO at *
 clear h h2 n2 k2 hext hW2 lQ hx hfr0 hB Jg hnil hp hR hws
 go_enter func12,ntmps12
 go_wp2_with fail
 rw [<- HW2.out]
 clear f10 f13 f14 f15 f16 f17 f18 f19 g13 g14 g15 g16 g17 g18 g19 hws0 hnx0 HW2
 generalize W2=W5 at *
 obtain ⟨a,b,c9,d,e,t,⟨y0,y1,y2,y3,y4,y5,y6⟩,dh,hend⟩:=sO.out
 have fD:=au hend.out
 obtain ⟨W6,oL⟩:∃ W6,W6=W5.drew:=⟨_,rfl⟩
 have k56:Keep none_ W5 W6:=by rw [oL];exact (Keep.refl none_ W5).drew
 have eH:=k56.blk dh (fun f=>f)
 have zf0:=dh.free 0
 have zf1:=dh.free 1
 have zf2:=dh.free 2
 have zf3:=dh.free 3
 have zf4:=dh.free 4
 have zf5:=dh.free 5
 have z0:W5.cell? ⟨w.heap.size,0,none⟩=some (ah 0):=dh.cell 0 rfl
 have z1:W5.cell? ⟨w.heap.size,1,none⟩=some (ah 0):=dh.cell 1 rfl
 have z2:W5.cell? ⟨w.heap.size,2,none⟩=some (ah 0):=dh.cell 2 rfl
 have z3:W5.cell? ⟨w.heap.size,3,none⟩=some (ah 0):=dh.cell 3 rfl
 have z4:W5.cell? ⟨w.heap.size,4,none⟩=some (ah 0):=dh.cell 4 rfl
 have z5:W5.cell? ⟨w.heap.size,5,none⟩=some (ah 0):=dh.cell 5 rfl
 have Ba:=k56.still y0
 have x1':=k56.still y1
 have x2':=k56.still y2
 have x3':=k56.still y3
 have Bc:=k56.still y4
 have Bg:=k56.still y5
 have Bh:=k56.still y6
 have yf0:=eH.free 0
 have yf1:=eH.free 1
 have yf2:=eH.free 2
 have yf3:=eH.free 3
 have yf4:=eH.free 4
 have yf5:=eH.free 5
 have r0:W6.cell? ⟨w.heap.size,0,none⟩=some (ah 0):=eH.cell 0 rfl
 have r1:W6.cell? ⟨w.heap.size,1,none⟩=some (ah 0):=eH.cell 1 rfl
 have r2:W6.cell? ⟨w.heap.size,2,none⟩=some (ah 0):=eH.cell 2 rfl
 have r3:W6.cell? ⟨w.heap.size,3,none⟩=some (ah 0):=eH.cell 3 rfl
 have r4:W6.cell? ⟨w.heap.size,4,none⟩=some (ah 0):=eH.cell 4 rfl
 have r5:W6.cell? ⟨w.heap.size,5,none⟩=some (ah 0):=eH.cell 5 rfl
 rw [oL] at r0 r1 r2 r3 r4 r5 yf0 yf1 yf2 yf3 yf4 yf5 Ba x1' x2' x3' Bc Bg Bh
 clear hend dh eH k56 oL sO
 go_region
 go_wp2_with fail
 refine bodyPost_ret (v := .tuple #[.agg #[ah 0,ah a,ah b,ah c9,ah d,ah e],.bool t]) (by simp [results,Tryz.f12,go_sem,zf0,zf1,zf2,zf3,zf4,zf5,z0,z1,z2,z3,z4,z5]) rfl ?_
 exact fD.out _ ((((((((Keep.refl (only w.heap.size) _).put _ _).put _ _).put _ _).put _ _).put _ _).put _ _).drew)
theorem O8 (h:aP o w G q s c ev nv) (hn:gJ o w (G.D 0) q.C c.color c.next nv) (ok:CK N s c) (hN:N<=1000000000) (hnil:oJ c.next=true) (hws:c.wish=true):Calls ay 12 #[aj q.C] w (rU o w G q s c):=by
 obtain ⟨o1,W2,hW2,hext,hR,h2,n2,k2,hB⟩:=h.pick0 hn
 obtain ⟨⟨x0,x1,x2,x3,x4,x5,x6,hx⟩,hws0,hnx0,hfr0⟩:=h.behind
 have f10:=fun x=>hfr0 x 10
 have f13:=fun x=>hfr0 x 13
 have f14:=fun x=>hfr0 x 14
 have f15:=fun x=>hfr0 x 15
 have f16:=fun x=>hfr0 x 16
 have f17:=fun x=>hfr0 x 17
 have f18:=fun x=>hfr0 x 18
 have f19:=fun x=>hfr0 x 19
 have g13:=fun x=>(hx x).1
 have g14:=fun x=>(hx x).2.1
 have g15:=fun x=>(hx x).2.2.1
 have g16:=fun x=>(hx x).2.2.2.1
 have g17:=fun x=>(hx x).2.2.2.2.1
 have g18:=fun x=>(hx x).2.2.2.2.2.1
 have g19:=fun x=>(hx x).2.2.2.2.2.2
 have lQ:=hW2
 unfold wW at lQ
 have HW2:=au lQ
 have Jg:=Jh hnil
 rw [Jg] at hn n2
 obtain rfl:nv = .nilFunc:=hn
 have hp:bM s c=⟨(gY s c).s,{ (gY s c).c with next:=(gY s c).next },(gY s c).next,(gY s c).ev⟩:=by
  unfold bM
  simp only
  rw [if_neg (by rw [hnil];decide),if_pos hws]
 have HST:Hid (Calls ay 43 #[aj q.C] W2 fun e w'=>e = .returned (.tuple #[])/\Hid (rV o w G q s c w')):=by
  refine (Sl h2 ok.color (Nat.le_trans ok.jd hN) ok.cnt.1 (by have:=ok.cnt.2;omega)).mono ?_
  rintro e w' ⟨rfl,g⟩
  exact ⟨rfl,rV.of hext hR hB k2 g hp⟩
 have hnq:=CY
 rw [hws] at hws0
 unfold rV at HST
 generalize rU o w G q s c=PO at *
 clear h h2 n2 k2 hext hW2 lQ hx hfr0 hB Jg hnil hp hR hws ok hN
 go_enter func12,ntmps12
 go_wp2_with fail
 rw [<- HW2.out]
 refine HST.out.mono ?_
 rintro e W5 ⟨rfl,sO⟩
 clear f10 f13 f14 f15 f16 f17 f18 f19 g13 g14 g15 g16 g17 g18 g19 hws0 hnx0 HW2 HST
 obtain ⟨a,b,c9,d,e,t,⟨y0,y1,y2,y3,y4,y5,y6⟩,dh,hend⟩:=sO.out
 have fD:=au hend.out
 obtain ⟨W6,oL⟩:∃ W6,W6=W5.drew:=⟨_,rfl⟩
 have k56:Keep none_ W5 W6:=by rw [oL];exact (Keep.refl none_ W5).drew
 have eH:=k56.blk dh (fun f=>f)
 have zf0:=dh.free 0
 have zf1:=dh.free 1
 have zf2:=dh.free 2
 have zf3:=dh.free 3
 have zf4:=dh.free 4
 have zf5:=dh.free 5
 have z0:W5.cell? ⟨w.heap.size,0,none⟩=some (ah 0):=dh.cell 0 rfl
 have z1:W5.cell? ⟨w.heap.size,1,none⟩=some (ah 0):=dh.cell 1 rfl
 have z2:W5.cell? ⟨w.heap.size,2,none⟩=some (ah 0):=dh.cell 2 rfl
 have z3:W5.cell? ⟨w.heap.size,3,none⟩=some (ah 0):=dh.cell 3 rfl
 have z4:W5.cell? ⟨w.heap.size,4,none⟩=some (ah 0):=dh.cell 4 rfl
 have z5:W5.cell? ⟨w.heap.size,5,none⟩=some (ah 0):=dh.cell 5 rfl
 have Ba:=k56.still y0
 have x1':=k56.still y1
 have x2':=k56.still y2
 have x3':=k56.still y3
 have Bc:=k56.still y4
 have Bg:=k56.still y5
 have Bh:=k56.still y6
 have yf0:=eH.free 0
 have yf1:=eH.free 1
 have yf2:=eH.free 2
 have yf3:=eH.free 3
 have yf4:=eH.free 4
 have yf5:=eH.free 5
 have r0:W6.cell? ⟨w.heap.size,0,none⟩=some (ah 0):=eH.cell 0 rfl
 have r1:W6.cell? ⟨w.heap.size,1,none⟩=some (ah 0):=eH.cell 1 rfl
 have r2:W6.cell? ⟨w.heap.size,2,none⟩=some (ah 0):=eH.cell 2 rfl
 have r3:W6.cell? ⟨w.heap.size,3,none⟩=some (ah 0):=eH.cell 3 rfl
 have r4:W6.cell? ⟨w.heap.size,4,none⟩=some (ah 0):=eH.cell 4 rfl
 have r5:W6.cell? ⟨w.heap.size,5,none⟩=some (ah 0):=eH.cell 5 rfl
 rw [oL] at r0 r1 r2 r3 r4 r5 yf0 yf1 yf2 yf3 yf4 yf5 Ba x1' x2' x3' Bc Bg Bh
 clear hend dh eH k56 oL sO
 go_wp2_with fail
 go_region
 go_wp2_with fail
 refine bodyPost_ret (v := .tuple #[.agg #[ah 0,ah a,ah b,ah c9,ah d,ah e],.bool t]) (by simp [results,Tryz.f12,go_sem,zf0,zf1,zf2,zf3,zf4,zf5,z0,z1,z2,z3,z4,z5]) rfl ?_
 exact fD.out _ ((((((((Keep.refl (only w.heap.size) _).put _ _).put _ _).put _ _).put _ _).put _ _).put _ _).drew)
theorem X9 (h:aP o w G q s c ev nv) (hn:gJ o w (G.D 0) q.C c.color c.next nv) (ok:CK N s c) (hN:N<=1000000000) (hd:lN c.muts c.blocks c.cells c.next) (hnil:oJ c.next=false):Calls ay 12 #[aj q.C] w (rU o w G q s c):=by
 obtain ⟨o1,W2,hW2,hext,hR,h2,n2,k2,hB⟩:=h.pick0 hn
 obtain ⟨⟨x0,x1,x2,x3,x4,x5,x6,hx⟩,hws0,hnx0,hfr0⟩:=h.behind
 have f10:=fun x=>hfr0 x 10
 have f13:=fun x=>hfr0 x 13
 have f14:=fun x=>hfr0 x 14
 have f15:=fun x=>hfr0 x 15
 have f16:=fun x=>hfr0 x 16
 have f17:=fun x=>hfr0 x 17
 have f18:=fun x=>hfr0 x 18
 have f19:=fun x=>hfr0 x 19
 have g13:=fun x=>(hx x).1
 have g14:=fun x=>(hx x).2.1
 have g15:=fun x=>(hx x).2.2.1
 have g16:=fun x=>(hx x).2.2.2.1
 have g17:=fun x=>(hx x).2.2.2.2.1
 have g18:=fun x=>(hx x).2.2.2.2.2.1
 have g19:=fun x=>(hx x).2.2.2.2.2.2
 have lQ:=hW2
 unfold wW at lQ
 have HW2:=au lQ
 obtain ⟨fn,first,caps,MZ,hcf,hS⟩:=Vp h2 ok hN c.next hd nv n2 hnil
 have hp:bM s c=⟨(aC s c c.next).s,{ (aC s c c.next).c with next:=(aC s c c.next).next },(aC s c c.next).next,(aC s c c.next).ev⟩:=by
  unfold bM
  simp only
  rw [if_pos (by rw [hnil];rfl)]
 have HS:Hid (Calls ay fn (first++caps) W2 fun e w3=>∃ nv3,e = .returned nv3/\(nv3 = .nilFunc\/∃ fn3 first3 caps3,nv3 = .func (.func fn3) first3 caps3)/\w3.frozen? ⟨q.C,10,none⟩=false/\w3.cell? ⟨q.C,10,none⟩=some nv/\Hid (rV o w G q s c (w3.setCell ⟨q.C,10,none⟩ nv3))):=by
  refine hS.mono ?_
  rintro e w3 ⟨nv3,rfl,hf,hpp⟩
  exact ⟨nv3,rfl,hf,hpp.c10.2,hpp.c10.1,rV.of hext hR hB k2 hpp.lay hp⟩
 subst MZ
 have hnq:=Vx fn first caps
 unfold rV at HS
 generalize rU o w G q s c=PO at *
 clear h h2 n2 k2 hext hW2 lQ hx hfr0 hB hnil hp hR ok hN hS hd hn
 go_enter func12,ntmps12
 go_wp2_with fail
 rw [<- HW2.out]
 refine HS.out.mono ?_
 rintro e w3 ⟨nv3,rfl,hf,e10,d10,sO⟩
 obtain ⟨W5,jX⟩:∃ W5,W5=w3.setCell ⟨q.C,10,none⟩ nv3:=⟨_,rfl⟩
 rw [<- jX] at sO
 have MX:=au jX
 clear f10 f13 f14 f15 f16 f17 f18 f19 g13 g14 g15 g16 g17 g18 g19 hws0 hnx0 HW2 HS jX
 obtain ⟨a,b,c9,d,e,t,⟨y0,y1,y2,y3,y4,y5,y6⟩,dh,hend⟩:=sO.out
 have fD:=au hend.out
 obtain ⟨W6,oL⟩:∃ W6,W6=W5.drew:=⟨_,rfl⟩
 have k56:Keep none_ W5 W6:=by rw [oL];exact (Keep.refl none_ W5).drew
 have eH:=k56.blk dh (fun f=>f)
 have zf0:=dh.free 0
 have zf1:=dh.free 1
 have zf2:=dh.free 2
 have zf3:=dh.free 3
 have zf4:=dh.free 4
 have zf5:=dh.free 5
 have z0:W5.cell? ⟨w.heap.size,0,none⟩=some (ah 0):=dh.cell 0 rfl
 have z1:W5.cell? ⟨w.heap.size,1,none⟩=some (ah 0):=dh.cell 1 rfl
 have z2:W5.cell? ⟨w.heap.size,2,none⟩=some (ah 0):=dh.cell 2 rfl
 have z3:W5.cell? ⟨w.heap.size,3,none⟩=some (ah 0):=dh.cell 3 rfl
 have z4:W5.cell? ⟨w.heap.size,4,none⟩=some (ah 0):=dh.cell 4 rfl
 have z5:W5.cell? ⟨w.heap.size,5,none⟩=some (ah 0):=dh.cell 5 rfl
 have Ba:=k56.still y0
 have x1':=k56.still y1
 have x2':=k56.still y2
 have x3':=k56.still y3
 have Bc:=k56.still y4
 have Bg:=k56.still y5
 have Bh:=k56.still y6
 have yf0:=eH.free 0
 have yf1:=eH.free 1
 have yf2:=eH.free 2
 have yf3:=eH.free 3
 have yf4:=eH.free 4
 have yf5:=eH.free 5
 have r0:W6.cell? ⟨w.heap.size,0,none⟩=some (ah 0):=eH.cell 0 rfl
 have r1:W6.cell? ⟨w.heap.size,1,none⟩=some (ah 0):=eH.cell 1 rfl
 have r2:W6.cell? ⟨w.heap.size,2,none⟩=some (ah 0):=eH.cell 2 rfl
 have r3:W6.cell? ⟨w.heap.size,3,none⟩=some (ah 0):=eH.cell 3 rfl
 have r4:W6.cell? ⟨w.heap.size,4,none⟩=some (ah 0):=eH.cell 4 rfl
 have r5:W6.cell? ⟨w.heap.size,5,none⟩=some (ah 0):=eH.cell 5 rfl
 rw [oL] at r0 r1 r2 r3 r4 r5 yf0 yf1 yf2 yf3 yf4 yf5 Ba x1' x2' x3' Bc Bg Bh
 clear hend dh eH k56 oL sO
 rcases hf with rfl|⟨fn3,first3,caps3,rfl⟩
 all_goals
  go_wp2_with fail
  rw [<- MX.out]
  clear e10 d10
  go_region
  go_wp2_with fail
  refine bodyPost_ret (v := .tuple #[.agg #[ah 0,ah a,ah b,ah c9,ah d,ah e],.bool t]) (by simp [results,Tryz.f12,go_sem,zf0,zf1,zf2,zf3,zf4,zf5,z0,z1,z2,z3,z4,z5]) rfl ?_
  exact fD.out _ ((((((((Keep.refl (only w.heap.size) _).put _ _).put _ _).put _ _).put _ _).put _ _).put _ _).drew)
theorem Vy (h:gG o w G q s c) (ok:Iq N s c) (hN:N<=1000000000):Calls ay 12 #[aj q.C] w (rU o w G q s c):=by
 obtain ⟨ev,nv,h1,hn⟩:=h
 cases hnil:oJ c.next with
 | false=>exact X9 h1 hn ok.k hN ok.nx hnil
 | true =>
   cases hw:c.wish with
   | false=>exact SG h1 hn hnil hw
   | true=>exact O8 h1 hn ok.k hN hnil hw
end
end
section
attribute [local go_sem ↓] jT
attribute [local go_sem] Oper.semAt_some
open Go.RowKit
theorem Tryz.infoPBox:(ay.info? 122).map (fun i=>(i.zero,i.size,i.bytes))=some (some (.pointer none),1,8):=by kernel_rfl
theorem abx (w:World):Calls ay 69 #[] w fun e w'=>e = .returned (aj w.heap.size)/\w'=w.alloc (.cells #[.slice none 0 0,.slice none 0 0,.slice none 0 0,.slice none 0 0,ah 0] 172):=by
 go_enter func69,ntmps69
 go_wp2_with fail
 go_ret
 exact ⟨rfl,rfl⟩
theorem aaf (w:World):Calls ay 70 #[] w fun e w'=>e = .returned (aj w.heap.size)/\w'=w.alloc (.cells #[.slice none 0 0] 176):=by
 go_enter func70,ntmps70
 go_wp2_with fail
 go_ret
 exact ⟨rfl,rfl⟩
theorem fP.first {o:Ow} {w:World} {B:Nat} (hB:o B≠0) (hb:aA w B [.slice none 0 0,.slice none 0 0,.slice none 0 0,.slice none 0 0,ah 0] 172):fP o w B ⟨[[],[],[],[]],0⟩:=by
 refine ⟨hB,rfl,[.slice none 0 0,.slice none 0 0,.slice none 0 0,.slice none 0 0],rfl,hb,fun i v zs h1 h2=>?_⟩
 match i with
 | 0=>simp at h1 h2;subst h1 h2;exact bC.nil _ _ _
 | 1=>simp at h1 h2;subst h1 h2;exact bC.nil _ _ _
 | 2=>simp at h1 h2;subst h1 h2;exact bC.nil _ _ _
 | 3=>simp at h1 h2;subst h1 h2;exact bC.nil _ _ _
 | n+4=>simp at h1
theorem bC.aby {o:Ow} {w:World} {T:TypeId} {v:Value} {xs:List Value} {base n:Nat} (h:w.ownsRow base T 1 v n xs) (hm:n<=4000000000000) (hf:∀ b,v.ownBlock=some b->o b=0):bC o w T v xs:=by
 obtain ⟨hl,hf2⟩:=h
 rcases hf2 with ⟨rfl,rfl⟩|⟨g,cap,cur,rfl,hg0,hg,hn,_,hs,hc⟩
 ·have:xs=[]:=List.eq_nil_of_length_eq_zero (by simpa using hl)
  subst this
  exact bC.nil _ _ _
 ·have hnl:n=xs.length:=by simpa using hl.symm
  subst hnl
  refine ⟨_,cap,rfl,hn,hm,fun _=>⟨g,0,cur.toList,rfl,hf g rfl,by unfold aA;simpa using hg,fun j hj=>?_⟩⟩
  rw [<- hc]
  simp [hj]
structure Na (W0:World) (S N0:Nat) (ps:List Value) (j:Nat) (W:World):Prop where
 keep:Keep (only S) W0 W
 row:∃ (sv:Value) (bx:Nat->Nat),aA W S (ps++[sv]) 53/\W.ownsRow N0 122 1 sv j ((List.range j).map fun i=>aB (bx i))/\(∀ i,i<j->N0<=bx i/\bx i<W.heap.size/\aA W (bx i) [.slice none 0 0] 176)/\∀ i k,i<k->k<j->bx i<bx k
theorem aag (o0:Ow) (hz0:o0 3=0/\o0 4=0/\o0 2=0) {w:World} {D:Nat->Nat} {H:HS} {B Q Fl S N0:Nat} {b:Bd} {W0 W1 W2:World} {n:Nat} (hH:aF W1 D H) (hD:∀ i,i<13->w.heap.size<=D i) (hsz:w.heap.size<=W1.heap.size) (hB:gW W0 B b) (hQ:aA W0 Q [.slice none 0 0,.slice none 0 0,.slice none 0 0,.slice none 0 0,ah 0] 172)
 (hF:aA W0 Fl [.bool false] 121) (h1:W1.heap.size<=B) (h2:B<Q) (h3:Q<Fl) (h4:Fl<S) (h5:S<N0) (h6:N0=W0.heap.size) (k1:Keep none_ W1 W0) (hgl:3<w.heap.size/\4<w.heap.size/\2<w.heap.size) (hn:n<=8) (hI:Na W0 S N0 [aB (D 0),aB B,aB Q,aB Fl] n W2) :
 ∃ (o:Ow) (G:Geo),G.S=S/\ShAt o W2 G ⟨H,b,⟨[[],[],[],[]],0⟩,false,List.replicate n []⟩/\(∀ x,x<w.heap.size->o x=o0 x)/\∀ x,w.heap.size<=x->o x<20:=by
 obtain ⟨hk,sv,bx,hS,hrow,hbx,hmono⟩:=hI
 have hDlt:∀ i,i<13->D i<W1.heap.size:=fun i hi=>hH.ltD i hi
 classical
 obtain ⟨o,ho⟩:∃ o:Ow,∀ x,o x=if x<w.heap.size then o0 x else if x<W1.heap.size then (if ∃ i,i<13/\D i=x then 1 else 0) else if x=B then 2 else if x=Q then 3 else if x=Fl then 4 else if h:∃ i,i<n/\bx i=x then 10+h.choose else 0:=⟨fun x=>if x<w.heap.size then o0 x else if x<W1.heap.size then (if ∃ i,i<13/\D i=x then 1 else 0) else if x=B then 2 else if x=Q then 3 else if x=Fl then 4 else if h:∃ i,i<n/\bx i=x then 10+h.choose else 0,fun _=>rfl⟩
 have abz:∀ i,i<n->o (bx i)=10+i:=fun i hi=>by
  have hb:=hbx i hi
  rw [ho,if_neg (by omega),if_neg (by omega),if_neg (by omega),if_neg (by omega),if_neg (by omega)]
  have hex:∃ k,k<n/\bx k=bx i:=⟨i,hi,rfl⟩
  rw [dif_pos hex]
  have hc:=hex.choose_spec
  rcases Nat.lt_trichotomy hex.choose i with h|h|h
  ·have:=hmono _ _ h hi;omega
  ·omega
  ·have:=hmono _ _ h hc.1;omega
 have hO:o S=0:=by
  rw [ho,if_neg (by omega),if_neg (by omega),if_neg (by omega),if_neg (by omega),if_neg (by omega),dif_neg]
  rintro ⟨i,hi,e⟩
  have:=(hbx i hi).1;omega
 have hoB:o B=2:=by rw [ho,if_neg (by omega),if_neg (by omega),if_pos rfl]
 have hoQ:o Q=3:=by rw [ho,if_neg (by omega),if_neg (by omega),if_neg (by omega),if_pos rfl]
 have hoF:o Fl=4:=by rw [ho,if_neg (by omega),if_neg (by omega),if_neg (by omega),if_neg (by omega),if_pos rfl]
 have hoD:∀ i,i<13->o (D i)=1:=fun i hi=>by
  rw [ho,if_neg (by have:=hD i hi;omega),if_pos (hDlt i hi),if_pos ⟨i,hi,rfl⟩]
 have hz:∀ x,x<w.heap.size->o x=o0 x:=fun x hx=>by rw [ho,if_pos hx]
 have hS0:S<W0.heap.size:=by omega
 refine ⟨o,⟨S,D,B,Q,Fl,bx⟩,rfl,⟨?_,⟨sv,hS,?_⟩,hO,?_,hoD,⟨(hz _ hgl.1).trans hz0.1,(hz _ hgl.2.1).trans hz0.2.1,(hz _ hgl.2.2).trans hz0.2.2⟩,?_,hoB,?_,hoQ,?_,hoF,?_⟩,hz,fun x hx0=>?_⟩
 ·intro x hx
  have h9:=hk.size
  rw [ho,if_neg (by omega),if_neg (by omega),if_neg (by omega),if_neg (by omega),if_neg (by omega),dif_neg]
  rintro ⟨i,hi,e⟩
  have:=(hbx i hi).2.1;omega
 ·have e:(List.replicate n ([]:List Nat)).length=n:=by simp
  show bC o W2 122 sv ((List.range (List.replicate n ([]:List Nat)).length).map fun i=>aB (bx i))
  rw [e]
  refine bC.aby hrow (by omega) (fun g hg=>?_)
  have hgl2:=(World.ownsRow.lt hrow g hg).1
  rw [ho,if_neg (by omega),if_neg (by omega),if_neg (by omega),if_neg (by omega),if_neg (by omega),dif_neg]
  rintro ⟨i,hi,e⟩
  exact own_ne (hbx i hi).2.2 hrow (by decide) (by rw [hg,e])
 ·exact (hH.still k1).keep hk (fun i hi e=>by have:=hDlt i hi;unfold only at e;omega) (fun e=>by unfold only at e;omega) (fun e=>by unfold only at e;omega) (fun e=>by unfold only at e;omega)
 ·exact hB.keep hk (fun e=>by unfold only at e;omega)
 ·exact fP.first (by rw [hoQ];decide) (hk.blk hQ (fun e=>by have e':Q=S:=e;omega))
 ·exact hk.blk hF (fun e=>by have e':Fl=S:=e;omega)
 ·intro i l hi
  have hin:i<n:=by have:=(List.getElem?_eq_some_iff.1 hi).1;simpa using this
  have el:l=[]:=by simp [List.getElem?_replicate,hin] at hi;exact hi
  subst el
  exact ⟨⟨by rw [abz i hin];omega,.slice none 0 0,(hbx i hin).2.2,bC.nil _ _ _,fun _ _ e=>by cases e;rfl⟩,abz i hin⟩
 ·rw [ho,if_neg (by omega)]
  repeat' split
  all_goals first|omega|(rename_i hex;have:=hex.choose_spec.1;omega)
theorem Vz (o0:Ow) (hz0:o0 3=0/\o0 4=0/\o0 2=0) (c:aK) (b ww nc n:Nat) (hok:c.ok=true) (hcb:c.b=b) (hcw:c.w=ww) (hcc:c.c=nc) (hcm:c.m=n) (w:World) (hT:Tabs w) (hS:Sizes w) (hgl:3<w.heap.size/\4<w.heap.size/\2<w.heap.size):Calls ay 39 #[.agg c.cells.toArray] w fun e w'=>∃ (o:Ow) (G:Geo),e = .returned (.tuple #[aj G.S,ah 0])/\ShAt o w' G (Sh.new c b ww nc n)/\(∀ x,x<w.heap.size->o x=o0 x)/\(∀ x,w.heap.size<=x->o x<20)/\Keep none_ w w':=by
 obtain ⟨W0,hW0⟩:∃ W',W'=w.alloc (.cells c.cells.toArray 23):=⟨_,rfl⟩
 have HK:Hid (Keep none_ w W0):=by rw [hW0];exact (Keep.refl _ _).alloc _
 have HN:=au (aae c b ww nc hok hcb hcw hcc W0 (hT.keep HK.out) (hS.keep HK.out))
 have HB:=au (show aA W0 w.heap.size c.cells 23 by rw [hW0];exact aA.new w _ _)
 have hbd:=fQ hok
 have hn1:1<=n/\n<=8:=by omega
 have Dz:=au hn1
 have gq:Hid (∀ W,Calls ay 68 #[ah (n:Int)] W fun e w'=>e = .returned (.tuple #[aj W.heap.size,ah 0])/\gW w' W.heap.size (Bd.new (n:Int))/\Keep none_ W w'):=fun W=>QO (n:Int) W (by omega) (by omega)
 have Ji:Hid (∀ (D:Nat->Nat) (B Q Fl S N0:Nat) (W1 W2 W3:World),aF W1 D (HS.new c b ww nc)->(∀ i,i<13->w.heap.size<=D i)->w.heap.size<=W1.heap.size->gW W2 B (Bd.new (n:Int))->aA W2 Q [.slice none 0 0,.slice none 0 0,.slice none 0 0,.slice none 0 0,ah 0] 172->aA W2 Fl [.bool false] 121 ->
  W1.heap.size<=B->B<Q->Q<Fl->Fl<S->S<N0->N0=W2.heap.size->Keep none_ W1 W2->Na W2 S N0 [aB (D 0),aB B,aB Q,aB Fl] n W3->∃ (o:Ow) (G:Geo),G.S=S/\ShAt o W3 G (Sh.new c b ww nc n)/\(∀ x,x<w.heap.size->o x=o0 x)/\∀ x,w.heap.size<=x->o x<20) :=
  fun D B Q Fl S N0 W1 W2 W3 p1 p2 p3 p4 p5 p6 p7 p8 p9 p10 p11 p12 p13 p14=>aag o0 hz0 p1 p2 p3 p4 p5 p6 p7 p8 p9 p10 p11 p12 p13 hgl hn1.2 p14
 obtain ⟨c0,c1,c2,c3,c4,c5,c6⟩:=c
 simp only at hcm
 subst hcm
 simp only [aK.cells] at HN HB ⊢
 have HW0:=au hW0
 clear hT hok hS hgl hbd hcb hcw hcc hW0
 go_enter func39,ntmps39
 go_wp2_with fail
 simp only [aK.cells] at HW0
 rw [<- HW0.out]
 refine HN.out.mono ?_
 rintro e w1 ⟨D,rfl,hH,hD,k1⟩
 have HH:=au hH
 have HD:Hid (∀ i,i<13->w.heap.size<=D i):=fun i hi=>Nat.le_trans HK.out.size (hD i hi)
 have hb1:=k1.blk HB.out (fun f=>f)
 have y2:w1.cell? ⟨w.heap.size,2,none⟩=some (ah (n:Int)):=hb1.cell 2 rfl
 have HB1:=au hb1
 have aJ:=au (HK.out.trans k1)
 clear hH hD k1 HB HK HN hb1
 go_wp2_with fail
 refine (gq.out _).mono ?_
 rintro e w2 ⟨rfl,hBd,k2⟩
 have uw:=au hBd
 have bJ:=au k2
 have hb2:=k2.blk HB1.out (fun f=>f)
 have HB2:=au hb2
 clear hBd k2 y2 HB1 hb2 gq
 go_wp2_with fail
 refine (abx _).mono ?_
 rintro e w3 ⟨rfl,hw3⟩
 obtain ⟨W5,jX⟩:∃ W5,W5=(w3.alloc (.cells #[.bool false] 121)).alloc (.cells #[aB (D 0),aB w1.heap.size,aB w2.heap.size,aB w3.heap.size,.slice none 0 0] 53):=⟨_,rfl⟩
 have k3:Keep none_ w2 w3:=by rw [hw3];exact (Keep.refl _ _).alloc _
 have k5:Keep none_ w3 W5:=by rw [jX];exact ((Keep.refl _ _).alloc _).alloc _
 have e3:w3.heap.size=w2.heap.size+1:=by rw [hw3];simp
 have e5:W5.heap.size=w3.heap.size+2:=by rw [jX];simp
 have hq:aA w3 w2.heap.size [.slice none 0 0,.slice none 0 0,.slice none 0 0,.slice none 0 0,ah 0] 172:=by rw [hw3];exact aA.new w2 _ _
 have hfl:aA W5 w3.heap.size [.bool false] 121:=by rw [jX];exact (aA.new w3 _ _).alloc _
 have hsh:aA W5 (w3.heap.size+1) [aB (D 0),aB w1.heap.size,aB w2.heap.size,aB w3.heap.size,.slice none 0 0] 53:=by
  rw [jX]
  have h9:=aA.new (w3.alloc (.cells #[.bool false] 121)) [aB (D 0),aB w1.heap.size,aB w2.heap.size,aB w3.heap.size,.slice none 0 0] 53
  rw [World.size_alloc] at h9
  exact h9
 have HI0:Hid (Na W5 (w3.heap.size+1) W5.heap.size [aB (D 0),aB w1.heap.size,aB w2.heap.size,aB w3.heap.size] 0 W5):=⟨Keep.refl _ _,.slice none 0 0,fun _=>0,hsh,World.ownsRow_nil _ _ _ _,fun i hi=>absurd hi (Nat.not_lt_zero i),fun i k _ hk=>absurd hk (Nat.not_lt_zero k)⟩
 have hb5:=(k3.trans k5).blk HB2.out (fun f=>f)
 have y2:∀ x y,((w3.alloc x).alloc y).cell? ⟨w.heap.size,2,none⟩=some (ah (n:Int)):=fun x y=>(((k3.blk HB2.out (fun f=>f)).alloc x).alloc y).cell 2 rfl
 have fD:Hid (∀ W3,Na W5 (w3.heap.size+1) W5.heap.size [aB (D 0),aB w1.heap.size,aB w2.heap.size,aB w3.heap.size] n W3->∃ (o:Ow) (G:Geo),G.S=w3.heap.size+1/\ShAt o W3 G (Sh.new ⟨c0,c1,n,c3,c4,c5,c6⟩ b ww nc n)/\(∀ x,x<w.heap.size->o x=o0 x)/\(∀ x,w.heap.size<=x->o x<20)/\Keep none_ w W3):=fun W3 hI=>by
  have s2:=uw.out.blk.lt
  have s1:=aJ.out.size
  obtain ⟨o,G,g1,g2,g3,g4⟩:=Ji.out D w1.heap.size w2.heap.size w3.heap.size (w3.heap.size+1) W5.heap.size w1 W5 W3 HH.out HD.out aJ.out.size (uw.out.keep (k3.trans k5) (fun f=>f)) (k5.blk hq (fun f=>f)) hfl (Nat.le_refl _) (by omega) (by omega) (by omega) (by omega) rfl ((bJ.out.trans k3).trans k5) hI
  exact ⟨o,G,g1,g2,g3,g4,(((aJ.out.trans bJ.out).trans k3).trans k5).QH hI.keep (by omega)⟩
 have MX:=au jX
 have uV:Hid (W5.heap.size=w3.heap.size+2):=e5
 have vC:Hid (w.heap.size<W5.heap.size/\w.heap.size≠w3.heap.size+1):=by
  have:=HB2.out.lt;exact ⟨by omega,by omega⟩
 have HB5:=au hb5
 clear k3 k5 e3 e5 hq hfl hsh hb5 hw3 uw bJ HB2 Ji HH HD aJ jX
 go_wp2_with fail
 rw [<- MX.out]
 clear y2
 go_loopw [32] (fun i wr=>∃ k:Nat,k<=n/\i = ah k/\Na W5 (w3.heap.size+1) W5.heap.size [aB (D 0),aB w1.heap.size,aB w2.heap.size,aB w3.heap.size] k wr) (fun i _=>n - (intOf i).toNat)
 case atStart=>exact ⟨0,Nat.zero_le _,rfl,HI0.out⟩
 case round =>
  obtain ⟨k,hk,rfl,hI⟩:=hrel
  by_cases hlt:k<n
  ·obtain ⟨hkp,sv,bx,hS,hrow,hbx,hmono⟩:=hI
   obtain ⟨sa,sc,rfl⟩:∃ a c,sv = .slice a k c:=by
    obtain ⟨a,cap,rfl,_⟩:=dP (bD hrow (Nat.zero_le _))
    exact ⟨a,cap,rfl⟩
   have oV:(k:Int)<(n:Int):=by omega
   have hk8:k<8:=by have:=Dz.out;omega
   have PI:(k:Int)<8:=by omega
   have hsS:w3.heap.size+1<wr.heap.size:=hS.lt
   have HL:Hid (Calls ay 70 #[] wr.drew fun e w9=>e = .returned (aj wr.heap.size)/\w9.cell? ⟨w3.heap.size+1,4,none⟩=some (.slice sa k sc)/\(∀ x,(w9.alloc x).cell? ⟨w3.heap.size+1,4,none⟩=some (.slice sa k sc)) /\
    ∃ q cap w5,(app9 #[51,51] 51 #[.slice sa k sc,.slice (some ⟨w9.heap.size,0,none⟩) 1 1]).run ay (w9.alloc (.cells #[aj wr.heap.size] 122)) = .ok (.slice (some ⟨q,0,none⟩) (k+1) cap) w5/\w5.frozen? ⟨w3.heap.size+1,4,none⟩=false/\w5.cell? ⟨w3.heap.size+1,4,none⟩=some (.slice sa k sc) /\
     Hid (Na W5 (w3.heap.size+1) W5.heap.size [aB (D 0),aB w1.heap.size,aB w2.heap.size,aB w3.heap.size] (k+1) (w5.setCell ⟨w3.heap.size+1,4,none⟩ (.slice (some ⟨q,0,none⟩) (k+1) cap)))):=by
    refine (aaf _).mono ?_
    rintro e w9 ⟨rfl,hw9⟩
    have k9:Keep none_ wr w9:=by rw [hw9];exact ((Keep.refl none_ wr).drew).alloc _
    have e9:w9.heap.size=wr.heap.size+1:=by rw [hw9];simp
    have hb9:aA w9 wr.heap.size [.slice none 0 0] 176:=by rw [hw9];exact aA.new wr.drew _ _
    obtain ⟨W1,hW1⟩:∃ W1,W1=w9.alloc (.cells #[aj wr.heap.size] 122):=⟨_,rfl⟩
    have k91:Keep none_ w9 W1:=by rw [hW1];exact (Keep.refl _ _).alloc _
    have k1:Keep none_ wr W1:=k9.trans k91
    have hN1:W1.cell? ⟨w9.heap.size,0,none⟩=some (aj wr.heap.size):=by
     rw [hW1];exact (aA.new w9 [aj wr.heap.size] 122).cell 0 rfl
    have hbn:aA W1 wr.heap.size [.slice none 0 0] 176:=k91.blk hb9 (fun f=>f)
    have e1:W1.heap.size=wr.heap.size+2:=by rw [hW1];simp [e9]
    have hS9:=k9.blk hS (fun f=>f)
    have hrow1:=bV hrow k1
    obtain ⟨q,cap,w5,hrun,hown,hgr,hq⟩:=nY (P:=ay) W1 51 51 122 (by kernel_rfl) Tryz.infoPBox rfl (bD hrow1 (Nat.zero_le _)) (N:=w9.heap.size) (u := aj wr.heap.size) hN1 rfl (by decide) (by omega)
    have adu:(Value.slice sa k sc).ownBlock≠some (w3.heap.size+1):=own_ne (k1.blk hS (fun f=>f)) hrow1 (by decide)
    have adv:∀ i,i<k->(Value.slice sa k sc).ownBlock≠some (bx i):=fun i hi=>own_ne (k1.blk (hbx i hi).2.2 (fun f=>f)) hrow1 (by decide)
    have adw:(Value.slice sa k sc).ownBlock≠some wr.heap.size:=own_ne hbn hrow1 (by decide)
    have hS5:aA w5 (w3.heap.size+1) ([aB (D 0),aB w1.heap.size,aB w2.heap.size,aB w3.heap.size]++[.slice sa k sc]) 53:=(k1.blk hS (fun f=>f)).grown hgr adu
    have f5:=hS5.free 4
    have c5:w5.cell? ⟨w3.heap.size+1,4,none⟩=some (.slice sa k sc):=hS5.cell 4 rfl
    have hge:W5.heap.size<=q:=by
     rcases hq with h|h
     ·exact (World.ownsRow.lt hrow1 q h).1
     ·have:=hkp.size;omega
    have SH:Hid (Na W5 (w3.heap.size+1) W5.heap.size [aB (D 0),aB w1.heap.size,aB w2.heap.size,aB w3.heap.size] (k+1) (w5.setCell ⟨w3.heap.size+1,4,none⟩ (.slice (some ⟨q,0,none⟩) (k+1) cap))):=by
     have s5:=hgr.size
     have sk:=hkp.size
     have hsz:=uV.out
     refine ⟨?_,.slice (some ⟨q,0,none⟩) (k+1) cap,fun i=>if i=k then wr.heap.size else bx i,?_,?_,?_,?_⟩
     ·have h8:Keep (fun x=>(Value.slice sa k sc).ownBlock=some x) wr w5:=(k1.mono (fun _ _ f=>f.elim)).trans ⟨hgr.os,hgr.tape,hgr.output,hgr.size,fun x hx hn=>hgr.block x hx (fun e=>by first|exact hn e|exact hn e.symm)⟩
      have h9:Keep (only (w3.heap.size+1)) W5 w5:=hkp.trans' h8 (fun i hi hin=>absurd (World.ownsRow.lt hrow1 i hin).1 (by omega))
      exact h9.put 4 _
     ·exact hS5.set 4 _
     ·have e:(List.range (k+1)).map (fun i=>aB (if i=k then wr.heap.size else bx i))=(List.range k).map (fun i=>aB (bx i))++[aB wr.heap.size]:=by
       rw [List.range_succ,List.map_append]
       congr 1
       ·refine List.map_congr_left (fun i hi=>?_)
        rw [if_neg (by have:=List.mem_range.1 hi;omega)]
       ·simp
      rw [e]
      exact KJ (uo (a:=⟨w3.heap.size+1,4,none⟩) hown (fun x hx=>by simp [Value.ownBlock] at hx;show x≠w3.heap.size+1;omega) _) hge
     ·intro i hi
      by_cases e:i=k
      ·subst e
       dsimp only
       rw [if_pos rfl]
       exact ⟨sk,by simp;omega,(hbn.grown hgr adw).other (by simp;omega) _⟩
      ·dsimp only
       rw [if_neg e]
       obtain ⟨g1,g2,g3⟩:=hbx i (by omega)
       exact ⟨g1,by simp;omega,((k1.blk g3 (fun f=>f)).grown hgr (adv i (by omega))).other (by simp;omega) _⟩
     ·intro i j hij hj
      by_cases e:j=k
      ·subst e
       dsimp only
       rw [if_pos rfl,if_neg (by omega)]
       exact (hbx i hij).2.1
      ·dsimp only
       rw [if_neg e,if_neg (by omega)]
       exact hmono i j hij (by omega)
    exact ⟨rfl,hS9.cell 4 rfl,fun x=>(hS9.alloc x).cell 4 rfl,q,cap,w5,by rw [<- hW1];exact hrun,f5,c5,SH⟩
   have c0:wr.cell? ⟨w3.heap.size+1,4,none⟩=some (.slice sa k sc):=hS.cell 4 rfl
   have c0d:wr.drew.cell? ⟨w3.heap.size+1,4,none⟩=some (.slice sa k sc):=((Keep.refl none_ wr).drew).still c0
   clear hkp hS hrow hbx hmono
   go_wp2_with fail
   go_region_with (go_at_call 70;refine HL.out.mono ?_;rintro e w9 ⟨rfl,h9a,h9b,q,cap,w5,hrun9,f5,c5,SH⟩)
   all_goals
    go_wp2_with fail
    go_roundw
    case rel=>exact ⟨k+1,by omega,by go_num,SH.out⟩
    case measure=>simp [intOf]<;>omega
  ·have e1:k=n:=by omega
   subst e1
   have HE:=au (fD.out wr hI)
   have hnlt:¬ (k:Int)<(k:Int):=by omega
   clear hI hlt
   go_wp2_with fail
   go_ret2
   obtain ⟨o,G,g1,g2,g3,g4,g5⟩:=HE.out
   exact ⟨o,G,by rw [g1];rfl,g2,g3,g4,g5⟩
end
section
attribute [local go_sem] Oper.semAt_some
open Go.RowKit
section
variable {o o':Ow} {w w':World} {G:Geo} {g:MG} {s:Sh} {m:MS} {nv:Value} {ev:Option Ev}
theorem aN.evs3 (h:aN o w G g s m ev nv):∃ (a b c d e:Int) (t:Bool),(w.cell? ⟨g.M,23,none⟩=some (ah 0)/\w.cell? ⟨g.M,24,none⟩=some (ah a)/\w.cell? ⟨g.M,25,none⟩=some (ah b)/\w.cell? ⟨g.M,26,none⟩=some (ah c)/\w.cell? ⟨g.M,27,none⟩=some (ah d)/\w.cell? ⟨g.M,28,none⟩=some (ah e)/\w.cell? ⟨g.M,29,none⟩=some (.bool t))/\kX ev = .agg #[ah 0,ah a,ah b,ah c,ah d,ah e]/\jq ev = .bool t:=by
 cases ev with
 | none =>
   refine ⟨0,0,0,0,0,false,⟨?_,?_,?_,?_,?_,?_,?_⟩,rfl,rfl⟩
   all_goals exact h.cell _ _ (fun _ _=>rfl)
 | some x =>
   refine ⟨x.who,x.kind,x.op,x.code,x.value,true,⟨?_,?_,?_,?_,?_,?_,?_⟩,rfl,rfl⟩
   all_goals exact h.cell _ _ (fun _ _=>rfl)
theorem Nb {o1 o2:Ow} {W2 W4 w6:World} {m2:MS} {s2:Sh} {v:Value} (hext:aQ w o o1) (hR:o1 w.heap.size=99) (hlt:w.heap.size<W2.heap.size) (k2:Keep (In o (bW m.id)) w W2) (e2:aQ W2 o1 o2) (k4:Keep (In o1 (bW m.id)) W2 W4)
 (h4:aN o2 W4 G g s2 m2 ev v) (hid:m2.id=m.id) (n4:jG o2 W4 (G.D 0) (g.Nt,g.M) (30+m2.id) m2.next v) (hp:bG s m=(s2,m2,ev)) (k6:Keep (only w.heap.size) W4 w6):jV o w G g s m (.returned (.tuple #[kX ev,jq ev])) w6:=by
 have hR2:o2 w.heap.size=99:=(e2 _ hlt).trans hR
 obtain ⟨h6,n6⟩:=h4.CU n4 k6 hR2
 unfold jV
 rw [hp]
 refine ⟨o2,rfl,hext.trans k2.size e2,⟨ev,v,h6,n6⟩,?_⟩
 have k46:Keep (fun b=>In o1 (bW m.id) b\/b=w.heap.size) W2 w6:=(k4.mono (fun _ _ h=>Or.inl h)).trans (k6.mono (fun b _ h=>Or.inr h))
 refine k2.trans' k46 (fun i hi hin=>?_)
 rcases hin with hin|hin
 ·unfold In at hin ⊢
  rw [hext i hi] at hin
  exact hin
 ·omega
theorem Ya {N:Nat} (h:aN o w G g s m ev nv) (hn:jG o w (G.D 0) (g.Nt,g.M) (30+m.id) m.next nv) (ok:uX N s m) (hN:N<=1000000000) (hst:CQ m.next) (hnn:isNil m.next=false) (hgo:isNil (stepM s { m with spent:=m.spent+1 } m.next).next=false):Calls ay 24 #[aj g.M] w (jV o w G g s m):=by
 have i8:m.id<8:=Nat.lt_of_lt_of_le h.jm h.box8
 obtain ⟨o1,W2,hW2,hext,hR,h2,n2,k2,hB⟩:=h.pick0 hn
 obtain ⟨⟨x0,x1,x2,x3,x4,x5,x6,hx⟩,hsp0,hnx0,hfr0⟩:=h.behind
 have Ew:xC N s { m with spent:=m.spent+1 }:=⟨ok.color,ok.want,ok.opn,ok.res,ok.q,ok.rl⟩
 obtain ⟨fn,bs,MZ,hcf,hS⟩:=hst h2 Ew hN ok.nx nv n2 hnn
 have rk:=step_ok Ew m.next ok.nx
 have hp:bG s m=((stepM s { m with spent:=m.spent+1 } m.next).s,{ (stepM s { m with spent:=m.spent+1 } m.next).m with next:=(stepM s { m with spent:=m.spent+1 } m.next).next },(stepM s { m with spent:=m.spent+1 } m.next).ev):=by
  unfold bG
  rw [hnn,if_neg (by decide)]
  simp only [hgo,Bool.false_eq_true,if_false]
 have hid:=rk.id
 simp only at hid
 obtain ⟨caps,Gh⟩:∃ caps,caps=(bs.map aB).toArray:=⟨_,rfl⟩
 rw [<- Gh] at MZ hS
 clear Gh
 generalize stepM s { m with spent:=m.spent+1 } m.next=R at *
 have HS:Hid (Calls ay fn caps W2 fun e w3=>∃ fn3 caps3,e = .returned (.func (.func fn3) #[] caps3)/\w3.frozen? ⟨g.M,17,none⟩=false/\w3.cell? ⟨g.M,17,none⟩=some nv /\
  ∀ W4,W4=w3.setCell ⟨g.M,17,none⟩ (.func (.func fn3) #[] caps3)->W4.cell? ⟨g.M,17,none⟩=some (.func (.func fn3) #[] caps3)/\∃ (a b c d e:Int) (t:Bool),(W4.cell? ⟨g.M,23,none⟩=some (ah 0)/\W4.cell? ⟨g.M,24,none⟩=some (ah a)/\W4.cell? ⟨g.M,25,none⟩=some (ah b)/\W4.cell? ⟨g.M,26,none⟩=some (ah c)/\W4.cell? ⟨g.M,27,none⟩=some (ah d)/\W4.cell? ⟨g.M,28,none⟩=some (ah e)/\W4.cell? ⟨g.M,29,none⟩=some (.bool t)) /\
   aA W4 w.heap.size zero6.toList 37/\Hid (∀ w6,Keep (only w.heap.size) W4 w6->jV o w G g s m (.returned (.tuple #[.agg #[ah 0,ah a,ah b,ah c,ah d,ah e],.bool t])) w6)):=by
  refine hS.mono ?_
  rintro e w3 ⟨o2,v3,rfl,e2,h3,n3,k3⟩
  rcases n3.form2 with ⟨hc,_⟩|⟨_,fn3,caps3,rfl⟩
  ·rw [hgo] at hc;cases hc
  refine ⟨fn3,caps3,rfl,h3.free 17,h3.c17,fun W4 iZ=>?_⟩
  obtain ⟨h4,k4⟩:=h3.MV (.func (.func fn3) #[] caps3)
  rw [<- iZ] at h4 k4
  rw [hid] at k4
  obtain ⟨a,b,c,d,e,t,hcs,ea,et⟩:=h4.evs3
  have k24:Keep (In o1 (bW m.id)) W2 W4:=k3.EX (k4.jP (by simp [bW])) e2
  have hB4:aA W4 w.heap.size zero6.toList 37:=hB.aH k24 hR (by simp [bW]<;>omega)
  refine ⟨h4.c17,a,b,c,d,e,t,hcs,hB4,fun w6 k6=>?_⟩
  rw [<- ea,<- et]
  have n4:jG o2 W4 (G.D 0) (g.Nt,g.M) (30+R.m.id) R.next (.func (.func fn3) #[] caps3):=by
   rw [hid];exact n3.aH k4 (by simp<;>omega) (by simp<;>omega)
  exact Nb hext hR hB.lt k2 e2 k24 (h4.withNext R.next) hid n4 hp k6
 have hsp:=ok.sp
 have MW:(m.spent:Int)<=1000000000:=by omega
 have Gg:(0:Int)<=(m.spent:Int):=by omega
 have lQ:=hW2
 unfold wS at lQ
 have HW2:=au lQ
 subst MZ
 have hnq:=Et fn caps
 have heq:=XU
 have f17:=fun x=>hfr0 x 17
 have f19:=fun x=>hfr0 x 19
 have f23:=fun x=>hfr0 x 23
 have f24:=fun x=>hfr0 x 24
 have f25:=fun x=>hfr0 x 25
 have f26:=fun x=>hfr0 x 26
 have f27:=fun x=>hfr0 x 27
 have f28:=fun x=>hfr0 x 28
 have f29:=fun x=>hfr0 x 29
 have g23:=fun x=>(hx x).1
 have g24:=fun x=>(hx x).2.1
 have g25:=fun x=>(hx x).2.2.1
 have g26:=fun x=>(hx x).2.2.2.1
 have g27:=fun x=>(hx x).2.2.2.2.1
 have g28:=fun x=>(hx x).2.2.2.2.2.1
 have g29:=fun x=>(hx x).2.2.2.2.2.2
 generalize jV o w G g s m=PO at *
 generalize m.spent=sp at *
 clear h hn h2 n2 k2 hext hW2 lQ hx hfr0 hB hnn hgo hsp rk Ew hp ok hS hid
 go_enter func24,ntmps24
 go_wp2_with fail
 rw [<- HW2.out]
 refine HS.out.mono ?_
 rintro e w3 ⟨fn3,caps3,rfl,e17,d17,hs⟩
 obtain ⟨W5,jX⟩:∃ W5,W5=w3.setCell ⟨g.M,17,none⟩ (.func (.func fn3) #[] caps3):=⟨_,rfl⟩
 obtain ⟨z17,a,b,c,d,e,t,⟨y0,y1,y2,y3,y4,y5,y6⟩,dh,hend⟩:=hs W5 jX
 have fD:=au hend
 obtain ⟨W6,oL⟩:∃ W6,W6=W5.drew:=⟨_,rfl⟩
 have k56:Keep none_ W5 W6:=by rw [oL];exact (Keep.refl none_ W5).drew
 have eH:=k56.blk dh (fun f=>f)
 have MX:=au jX
 have zf0:=dh.free 0
 have zf1:=dh.free 1
 have zf2:=dh.free 2
 have zf3:=dh.free 3
 have zf4:=dh.free 4
 have zf5:=dh.free 5
 have z0:W5.cell? ⟨w.heap.size,0,none⟩=some (ah 0):=dh.cell 0 rfl
 have z1:W5.cell? ⟨w.heap.size,1,none⟩=some (ah 0):=dh.cell 1 rfl
 have z2:W5.cell? ⟨w.heap.size,2,none⟩=some (ah 0):=dh.cell 2 rfl
 have z3:W5.cell? ⟨w.heap.size,3,none⟩=some (ah 0):=dh.cell 3 rfl
 have z4:W5.cell? ⟨w.heap.size,4,none⟩=some (ah 0):=dh.cell 4 rfl
 have z5:W5.cell? ⟨w.heap.size,5,none⟩=some (ah 0):=dh.cell 5 rfl
 have Ba:=k56.still y0;have x1':=k56.still y1;have x2':=k56.still y2;have x3':=k56.still y3;have Bc:=k56.still y4;have Bg:=k56.still y5;have Bh:=k56.still y6
 have yf0:=eH.free 0
 have yf1:=eH.free 1
 have yf2:=eH.free 2
 have yf3:=eH.free 3
 have yf4:=eH.free 4
 have yf5:=eH.free 5
 have r0:W6.cell? ⟨w.heap.size,0,none⟩=some (ah 0):=eH.cell 0 rfl
 have r1:W6.cell? ⟨w.heap.size,1,none⟩=some (ah 0):=eH.cell 1 rfl
 have r2:W6.cell? ⟨w.heap.size,2,none⟩=some (ah 0):=eH.cell 2 rfl
 have r3:W6.cell? ⟨w.heap.size,3,none⟩=some (ah 0):=eH.cell 3 rfl
 have r4:W6.cell? ⟨w.heap.size,4,none⟩=some (ah 0):=eH.cell 4 rfl
 have r5:W6.cell? ⟨w.heap.size,5,none⟩=some (ah 0):=eH.cell 5 rfl
 rw [oL] at r0 r1 r2 r3 r4 r5 yf0 yf1 yf2 yf3 yf4 yf5 Ba x1' x2' x3' Bc Bg Bh
 clear f17 f19 f23 f24 f25 f26 f27 f28 f29 g23 g24 g25 g26 g27 g28 g29 hsp0 hnx0 hend hs dh eH MW Gg HS k56 oL hnq hcf
 rw [jX] at z17
 clear jX
 go_wp2_with fail
 rw [<- MX.out]
 clear e17 d17 z17
 go_region
 go_wp2_with fail
 refine bodyPost_ret (v := .tuple #[.agg #[ah 0,ah a,ah b,ah c,ah d,ah e],.bool t]) (by simp [results,Tryz.f24,go_sem,zf0,zf1,zf2,zf3,zf4,zf5,z0,z1,z2,z3,z4,z5]) rfl ?_
 exact fD.out _ ((((((((Keep.refl (only w.heap.size) _).put _ _).put _ _).put _ _).put _ _).put _ _).put _ _).drew)
end
end
end Go.Proofs.YtanfphjoebobaaaGreatDoor
