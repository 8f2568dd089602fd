/- Parts of a walk, put together and made shorter by a program of mine. No conditions. -/
import Derived.Test.YtanfphjoebobaaaGreatDoorZzcaa
import Derived.Test.YtanfphjoebobaaaGreatDoorZzcg
import Derived.Test.YtanfphjoebobaaaGreatDoorZzcs
import Derived.BigRegion
import Derived.Test.YtanfphjoebobaaaGreatDoorZzcx
namespace Go.Proofs.YtanfphjoebobaaaGreatDoor
set_option maxRecDepth 8000
set_option maxHeartbeats 8000000
section
def Sh.new (c:aB) (b ww nc n:Nat):Sh:=⟨HS.new c b ww nc,Bd.new (n:Int),⟨[[],[],[],[]],0⟩,false,List.replicate n []⟩
def MS.new (c:aB) (id:Nat) (prog:List OpR):MS:=⟨id,c,List.replicate c.r.toNat 0,[],0,0,0,prog,[],.nil,0,0,0,0,false⟩
theorem Pok.first {s:Sh} {c:aB} (id:Nat) (prog:List OpR) (hq:QOk s) (ho:s.Q.opn=0) (hr:0≤c.r):Pok 0 s (MS.new c id prog) :=
 ⟨(by show 0<2;decide),(by show 0<2;decide),by omega,by simp [MS.new],hq,Nat.le_refl _,by simp only [MS.new,List.length_replicate];omega,trivial⟩
def DR:Nat→Sh→MS→Sh × MS
 | 0,s,m=>(s,m)
 | n+1,s,m=>((aQ (DR n s m).1 (DR n s m).2).1,(aQ (DR n s m).1 (DR n s m).2).2.1)
def fU (m:MS):Bool:=isNil m.next&&decide (m.res.length=m.prog.length)
def awC:aB:=⟨1,16,1,2,0,1,1⟩
def awS:Sh:=Sh.new awC 1 16 0 1
def awM:MS:=MS.new awC 0 [⟨1,0,1,0⟩,⟨7,1,0,0⟩]
section
variable {H:HS}
theorem Aw (k:Nat):(H.dL k).2.2.ww=H.ww∧(H.dL k).2.2.c=H.c:=by unfold HS.dL;split<;>exact ⟨rfl,rfl⟩
theorem E8 (a:Nat):(H.dU a).ww=H.ww∧(H.dU a).c=H.c:=by
 unfold HS.dU
 split
 ·exact ⟨rfl,rfl⟩
 ·split<;>exact ⟨rfl,rfl⟩
theorem Fa (a:Nat) (f:Int):(H.fJ a f).ww=H.ww∧(H.fJ a f).c=H.c:=by
 unfold HS.fJ
 split
 ·exact ⟨rfl,rfl⟩
 ·split<;>exact ⟨rfl,rfl⟩
theorem Ir (a c:Nat):(H.iH a c).ww=H.ww∧(H.iH a c).c=H.c:=by unfold HS.iH;split<;>exact ⟨rfl,rfl⟩
theorem Az (a:Nat):(H.dX a).ww=H.ww∧(H.dX a).c=H.c:=by
 unfold HS.dX
 split
 ·exact E8 (H:=H.kill a) a
 ·exact ⟨rfl,rfl⟩
theorem uh (a:Nat) (f:Int) (v:Nat):(H.dY a f v).ww=H.ww∧(H.dY a f v).c=H.c:=by unfold HS.dY;split<;>exact ⟨rfl,rfl⟩
theorem NC (i:Int) (v:Nat):(H.kN i v).ww=H.ww∧(H.kN i v).c=H.c:=by unfold HS.kN;split<;>exact ⟨rfl,rfl⟩
theorem yu (a c:Nat):(H.aY a c).ww=H.ww∧(H.aY a c).c=H.c:=by unfold HS.aY;split<;>exact ⟨rfl,rfl⟩
theorem BX (k:Nat):(H.bJ k).2.2.ww=H.ww∧(H.bJ k).2.2.c=H.c:=by unfold HS.bJ;split<;>exact ⟨rfl,rfl⟩
theorem U2 (rd:RD):(rd.write H).ww=H.ww∧(rd.write H).c=H.c:=by
 cases rd with
 | field b f v=>exact uh b f v
 | cell i v=>exact NC i v
end
def cost (W:Nat):MD→Nat
 | .start _=>W+25
 | .field _ _ t=>1+cost W t
 | .load _ _=>1
 | .get _=>1
 | .last _=>1
 | .alloc _ _=>W+24
 | .assign _ _=>W+23
 | .lS _ all=>all.length+17
 | .claim _ _=>21
 | .again _ _=>20
 | .fill _ _=>18
 | .zero _ _ i=>16 - i
 | _=>0
def J6:MD→Prop
 | .nil=>True
 | .start _=>True
 | .field _ _ t=>J6 t∧isNil t=false
 | .load _ _=>True
 | .get _=>True
 | .last _=>True
 | .alloc _ _=>True
 | .assign _ _=>True
 | .lS _ all=>2≤all.length
 | .claim _ _=>True
 | .again _ _=>True
 | .fill _ _=>True
 | .zero _ _ _=>True
 | _=>False
structure QI (s:Sh) (m:MS):Prop where
 pend:s.B.pend m.id=false
 mode:m.mode=0
 q:∀ k,s.Q.rw k=[]
 ww:16≤s.H.ww
structure V5 (W:Nat) (m:MS) (d:MD) (r:lT):Prop where
 s:QI r.s r.m
 nx:J6 r.next
 ww:r.s.H.ww=W
 less:cost W r.next+1≤cost W d
 res:r.m.res.length=if isNil r.next then m.res.length+1 else m.res.length
section
variable {s:Sh} {m:MS}
structure Calm (s:Sh) (m:MS):Prop where
 s:QI s m
 nx:J6 m.next
 le:m.res.length≤m.prog.length
 lt:isNil m.next=false→m.res.length<m.prog.length
def todo (W:Nat) (m:MS):Nat:=if isNil m.next then (m.prog.length - m.res.length)*(W+27) else (m.prog.length - m.res.length - 1)*(W+27)+cost W m.next
theorem Fb {d:MD} (h:isNil d=true):d = .nil:=by cases d<;>first|rfl|cases h
end
end
section
attribute [local go_sem] Oper.semAt_some
open Go.RowKit
def iO (o:Ow) (w:World) (G:Geo) (g:MG) (s:Sh) (m:MS):Ending→World→Prop:=fun e w'=>∃ o',e = .returned (.tuple #[lC (aQ s m).2.2,jQ (aQ s m).2.2])∧aH w o o'∧jf o' w' G g (aQ s m).1 (aQ s m).2.1∧Keep (In o (bg m.id)) w w'
section
variable {o o':Ow} {w w':World} {G:Geo} {g:MG} {s:Sh} {m:MS} {nv:Value} {ev:Option Ev}
theorem MAt.c19 (h:MAt o w G g s m ev nv):w.cell? ⟨g.M,19,none⟩=some (.int .i64 (m.spent:Int)):=h.cell 19 _ (fun _ _=>rfl)
theorem MAt.c22 (h:MAt o w G g s m ev nv):w.cell? ⟨g.M,22,none⟩=some (.bool m.ans):=h.cell 22 _ (fun _ _=>rfl)
theorem MAt.Fe (h:MAt o w G g s m ev nv):∀ nv',MAt o (w.setCell ⟨g.M,17,none⟩ nv') G g s m ev nv'∧Keep (In o [20+m.id]) w (w.setCell ⟨g.M,17,none⟩ nv'):=fun nv'=>h.put 17 nv' m ev nv' (fun pv rv=>rfl) ⟨rfl,rfl,rfl,rfl,rfl,rfl⟩
theorem MAt.behind (h:MAt o w G g s m ev nv):(∃ a b c d e f t,∀ x,(w.alloc x).cell? ⟨g.M,23,none⟩=some a∧(w.alloc x).cell? ⟨g.M,24,none⟩=some b∧(w.alloc x).cell? ⟨g.M,25,none⟩=some c∧(w.alloc x).cell? ⟨g.M,26,none⟩=some d∧(w.alloc x).cell? ⟨g.M,27,none⟩=some e∧(w.alloc x).cell? ⟨g.M,28,none⟩=some f∧(w.alloc x).cell? ⟨g.M,29,none⟩=some t) ∧
 (∀ x,(w.alloc x).cell? ⟨g.M,19,none⟩=some (.int .i64 (m.spent:Int)))∧(∀ x,(w.alloc x).cell? ⟨g.M,17,none⟩=some nv)∧(∀ x i,(w.alloc x).frozen? ⟨g.M,i,none⟩=false):=by
 obtain ⟨a,b,c,d,e,f,t,e0,e1,e2,e3,e4,e5,e6⟩:=h.evs
 have k:∀ x,Keep none_ w (w.alloc x):=fun x=>(Keep.refl _ _).alloc x
 exact ⟨⟨a,b,c,d,e,f,t,fun x=>⟨(k x).still e0,(k x).still e1,(k x).still e2,(k x).still e3,(k x).still e4,(k x).still e5,(k x).still e6⟩⟩,fun x=>(h.still (k x)).c19,fun x=>(h.still (k x)).c17,fun x i=>(h.still (k x)).free i⟩
theorem J7 (h:MAt o w G g s m ev nv) (hn:iD o w (G.D 0) (g.Nt,g.M) (30+m.id) m.next nv) (hnil:isNil m.next=true) (hsp:m.spent≤1000000000):Calls Tryz.prog 24 #[.pointer (some ⟨g.M,0,none⟩)] w (iO o w G g s m):=by
 have i8:m.id<8:=Nat.lt_of_lt_of_le h.idl h.box8
 obtain ⟨o1,W2,hW2,hext,hR,h2,n2,k2,hB⟩:=h.pick0 hn
 obtain ⟨⟨x0,x1,x2,x3,x4,x5,x6,hx⟩,hsp0,hnx0,hfr0⟩:=h.behind
 have enx:=Fb hnil
 rw [enx] at hn n2
 obtain rfl:nv = .nilFunc:=hn
 have HP:Hid (∀ W3,W3=W2.setCell ⟨g.M,19,none⟩ (.int .i64 1)→Calls Tryz.prog 48 #[.pointer (some ⟨g.M,0,none⟩)] W3 fun e w4=>∃ v,e = .returned v∧(v = .nilFunc∨∃ (fn:Nat) (caps:Array Value),v = .func (.func fn) #[] caps)∧w4.frozen? ⟨g.M,17,none⟩=false∧w4.cell? ⟨g.M,17,none⟩=some .nilFunc ∧
  ∀ W5,W5=w4.setCell ⟨g.M,17,none⟩ v→(W5.cell? ⟨g.M,23,none⟩=some (.int .i64 0)∧W5.cell? ⟨g.M,24,none⟩=some (.int .i64 0)∧W5.cell? ⟨g.M,25,none⟩=some (.int .i64 0)∧W5.cell? ⟨g.M,26,none⟩=some (.int .i64 0)∧W5.cell? ⟨g.M,27,none⟩=some (.int .i64 0)∧W5.cell? ⟨g.M,28,none⟩=some (.int .i64 0)∧W5.cell? ⟨g.M,29,none⟩=some (.bool false)) ∧
   Blk W5 w.heap.size zero6.toList 37∧Hid (∀ w6,Keep (only w.heap.size) W5 w6→iO o w G g s m (.returned (.tuple #[.agg zero6,.bool false])) w6)):=fun W3 hW3=>by
  have h3:MAt o1 W3 G g s { m with spent:=1 } none .nilFunc∧Keep (In o1 [20+m.id]) W2 W3:=by
   rw [hW3];exact h2.put 19 (.int .i64 1) { m with spent:=1 } none .nilFunc (fun pv rv=>rfl) ⟨rfl,rfl,rfl,rfl,rfl,rfl⟩
  refine (J4 h3.1).mono ?_
  rintro e w4 ⟨v,rfl,h4,c4,k4⟩
  refine ⟨v,rfl,c4.form,h4.free 17,h4.c17,fun W5 hW5=>?_⟩
  obtain ⟨h5,k5⟩:=h4.Fe v
  rw [← hW5] at h5 k5
  have k25:Keep (In o1 [20+m.id]) W2 W5:=(h3.2.trans k4).trans k5
  have hB5:Blk W5 w.heap.size zero6.toList 37:=hB.ay k25 hR (by simp<;>omega)
  have c5:bH o1 W5 g.Nt g.M (bI s { m with spent:=1 }) v:=c4.ay k5 (by simp<;>omega)
  refine ⟨⟨h5.cell 23 _ (fun _ _=>rfl),h5.cell 24 _ (fun _ _=>rfl),h5.cell 25 _ (fun _ _=>rfl),h5.cell 26 _ (fun _ _=>rfl),h5.cell 27 _ (fun _ _=>rfl),h5.cell 28 _ (fun _ _=>rfl),h5.cell 29 _ (fun _ _=>rfl)⟩,hB5,fun w6 k6=>?_⟩
  obtain ⟨h6,n6⟩:=h5.wM (d:=bI s m) (v:=v) (iD.of (g:=(g.Nt,g.M)) c5) k6 hR
  have ep:aQ s m=(s,{ m with spent:=1,ans:=s.B.pend m.id,next:=bI s m },none):=by
   unfold aQ
   rw [if_pos hnil]
  unfold iO
  rw [ep]
  refine ⟨o1,rfl,hext,⟨none,v,h6.withNext (bI s m),n6⟩,?_⟩
  have k26:Keep (fun b=>In o1 [20+m.id] b∨b=w.heap.size) W2 w6:=(k25.mono (fun _ _ h=>Or.inl h)).trans (k6.mono (fun b _ h=>Or.inr h))
  refine k2.trans' k26 (fun i hi hin=>?_)
  rcases hin with hin|hin
  ·unfold In at hin ⊢
   rw [hext i hi] at hin
   simp at hin
   simp [bg,hin]
  ·omega
 have Fg:(m.spent:Int)≤1000000000:=by omega
 have zL:(0:Int)≤(m.spent:Int):=by omega
 have jD:=hW2
 unfold qH at jD
 have HW2:=Lib.hid jD
 have hnq:=wP
 have f17:=fun x=>hfr0 x 17
 have f19:=fun x=>hfr0 x 19
 have f23:=fun x=>hfr0 x 23
 have f24:=fun x=>hfr0 x 24
 have f25:=fun x=>hfr0 x 25
 have f26:=fun x=>hfr0 x 26
 have f27:=fun x=>hfr0 x 27
 have f28:=fun x=>hfr0 x 28
 have f29:=fun x=>hfr0 x 29
 have g23:=fun x=>(hx x).1
 have g24:=fun x=>(hx x).2.1
 have g25:=fun x=>(hx x).2.2.1
 have g26:=fun x=>(hx x).2.2.2.1
 have g27:=fun x=>(hx x).2.2.2.2.1
 have g28:=fun x=>(hx x).2.2.2.2.2.1
 have g29:=fun x=>(hx x).2.2.2.2.2.2
 generalize iO o w G g s m=PO at *
 generalize m.spent=sp at *
 clear h h2 n2 k2 hext hW2 jD hx hfr0 hB enx hnil hsp
 go_enter Tryz.func24,Tryz.ntmps24
 go_wp2_with fail
 rw [← HW2.out]
 refine (HP.out _ rfl).mono ?_
 rintro e w4 ⟨v,rfl,hform,e17,d17,hs⟩
 obtain ⟨W5,hW5⟩:∃ W5,W5=w4.setCell ⟨g.M,17,none⟩ v:=⟨_,rfl⟩
 obtain ⟨⟨y0,y1,y2,y3,y4,y5,y6⟩,hB5,hend⟩:=hs W5 hW5
 obtain ⟨W6,hW6⟩:∃ W6,W6=W5.drew:=⟨_,rfl⟩
 have k56:Keep none_ W5 W6:=by rw [hW6];exact (Keep.refl none_ W5).drew
 have hB6:=k56.blk hB5 (fun f=>f)
 have dO:=Lib.hid hend
 have HW5:=Lib.hid hW5
 have HB6:=Lib.hid hB6
 have zf0:=hB5.free 0
 have zf1:=hB5.free 1
 have zf2:=hB5.free 2
 have zf3:=hB5.free 3
 have zf4:=hB5.free 4
 have zf5:=hB5.free 5
 have z0:W5.cell? ⟨w.heap.size,0,none⟩=some (.int .i64 0):=hB5.cell 0 rfl
 have z1:W5.cell? ⟨w.heap.size,1,none⟩=some (.int .i64 0):=hB5.cell 1 rfl
 have z2:W5.cell? ⟨w.heap.size,2,none⟩=some (.int .i64 0):=hB5.cell 2 rfl
 have z3:W5.cell? ⟨w.heap.size,3,none⟩=some (.int .i64 0):=hB5.cell 3 rfl
 have z4:W5.cell? ⟨w.heap.size,4,none⟩=some (.int .i64 0):=hB5.cell 4 rfl
 have z5:W5.cell? ⟨w.heap.size,5,none⟩=some (.int .i64 0):=hB5.cell 5 rfl
 have x0':=k56.still y0;have x1':=k56.still y1;have x2':=k56.still y2;have x3':=k56.still y3;have x4':=k56.still y4;have x5':=k56.still y5;have x6':=k56.still y6
 rw [hW6] at x0' x1' x2' x3' x4' x5' x6'
 have yf0:=hB6.free 0
 have yf1:=hB6.free 1
 have yf2:=hB6.free 2
 have yf3:=hB6.free 3
 have yf4:=hB6.free 4
 have yf5:=hB6.free 5
 have r0:W6.cell? ⟨w.heap.size,0,none⟩=some (.int .i64 0):=hB6.cell 0 rfl
 have r1:W6.cell? ⟨w.heap.size,1,none⟩=some (.int .i64 0):=hB6.cell 1 rfl
 have r2:W6.cell? ⟨w.heap.size,2,none⟩=some (.int .i64 0):=hB6.cell 2 rfl
 have r3:W6.cell? ⟨w.heap.size,3,none⟩=some (.int .i64 0):=hB6.cell 3 rfl
 have r4:W6.cell? ⟨w.heap.size,4,none⟩=some (.int .i64 0):=hB6.cell 4 rfl
 have r5:W6.cell? ⟨w.heap.size,5,none⟩=some (.int .i64 0):=hB6.cell 5 rfl
 rw [hW6] at r0 r1 r2 r3 r4 r5 yf0 yf1 yf2 yf3 yf4 yf5
 clear f17 f19 f23 f24 f25 f26 f27 f28 f29 g23 g24 g25 g26 g27 g28 g29 hsp0 hnx0 hend hs hW5 hB5 hB6 HB6 Fg zL HP k56 hW6
 rcases hform with rfl|⟨fn,caps,rfl⟩
 all_goals
  go_wp2_with fail
  rw [← HW5.out]
  clear e17 d17
  go_region
  go_wp2_with fail
  refine bodyPost_ret (v := .tuple #[.agg zero6,.bool false]) (by simp [results,Tryz.f24,go_sem,zf0,zf1,zf2,zf3,zf4,zf5,z0,z1,z2,z3,z4,z5]) rfl ?_
  exact dO.out _ ((((((((Keep.refl (only w.heap.size) _).put _ _).put _ _).put _ _).put _ _).put _ _).put _ _).drew)
end
def eY (o:Ow) (w:World) (G:Geo) (q:CG) (s:Sh) (c:CS):Prop:=∃ ev nv,CAt o w G q s c ev nv∧eG o w (G.D 0) q.C c.color c.next nv
def ny (o:Ow) (w:World) (G:Geo) (q:CG) (s:Sh) (c:CS):Ending→World→Prop:=fun e w'=>∃ o',e = .returned (.tuple #[lC (aW s c).ev,jQ (aW s c).ev])∧aH w o o'∧eY o' w' G q (aW s c).s (aW s c).c∧Keep (In o aK) w w'
section
variable {o o':Ow} {w w':World} {G:Geo} {q:CG} {s:Sh} {c:CS} {ev:Option Ev} {nv nv0:Value} {N:Nat}
def qJ (w:World) (M:Nat):World:=((((((w.setCell ⟨M,13,none⟩ (.int .i64 0)).setCell ⟨M,14,none⟩ (.int .i64 0)).setCell ⟨M,15,none⟩ (.int .i64 0)).setCell ⟨M,16,none⟩ (.int .i64 0)).setCell ⟨M,17,none⟩ (.int .i64 0)).setCell ⟨M,18,none⟩ (.int .i64 0)).setCell ⟨M,19,none⟩ (.bool false)
theorem CAt.EM (h:CAt o w G q s c ev nv):CAt o (qJ w q.C) G q s c none nv∧Keep (In o [5]) w (qJ w q.C):=by
 have k:Keep (only q.C) w (qJ w q.C):=(((((((Keep.refl _ _).put _ _).put _ _).put _ _).put _ _).put _ _).put _ _).put _ _
 exact h.struct k c none nv (fun hb=>by
  have:=((((((hb.set 13 (.int .i64 0)).set 14 (.int .i64 0)).set 15 (.int .i64 0)).set 16 (.int .i64 0)).set 17 (.int .i64 0)).set 18 (.int .i64 0)).set 19 (.bool false)
  obtain ⟨a,b,c',d,e,f,t,he⟩:=wK ev
  unfold ig at this ⊢
  rw [he] at this
  exact this) ⟨rfl,rfl,rfl⟩
theorem CAt.pick0 (h:CAt o w G q s c ev nv) {d:CD} (hn:eG o w (G.D 0) q.C c.color d nv):∃ o1 W2,W2=qJ (w.alloc (.cells zero6 37)) q.C∧aH w o o1∧o1 w.heap.size=99 ∧
 CAt o1 W2 G q s c none nv∧eG o1 W2 (G.D 0) q.C c.color d nv∧Keep (In o aK) w W2∧Blk W2 w.heap.size zero6.toList 37:=by
 obtain ⟨W0,hW0⟩:∃ W0,W0=w.alloc (.cells zero6 37):=⟨_,rfl⟩
 have k0:Keep none_ w W0:=by rw [hW0];exact (Keep.refl _ _).alloc _
 have hR:Blk W0 w.heap.size zero6.toList 37:=by rw [hW0];exact Blk.new w _ _
 have e0:W0.heap.size=w.heap.size+1:=by rw [hW0];simp
 obtain ⟨o1,ho1⟩:∃ o1,o1=o.put w.heap.size 99:=⟨_,rfl⟩
 have hext:aH w o o1:=by rw [ho1];exact Ow.iM (.inl (Nat.le_refl _))
 have hR1:o1 w.heap.size=99:=by rw [ho1];exact Ow.jB _ _ _
 have hf1:Fut o1 W0:=by rw [ho1];exact Ow.kD h.sh.fut k0.size (by omega)
 have h0:CAt o1 W0 G q s c ev nv:=h.qV k0 hext hf1
 have n0:eG o1 W0 (G.D 0) q.C c.color d nv:=(hn.ext hext).ay (I:=[]) k0.aF rfl rfl
 obtain ⟨h1,k1⟩:=h0.EM
 refine ⟨o1,_,by rw [hW0],hext,hR1,h1,n0.ay k1 rfl rfl,?_,hR.ay k1 hR1 rfl⟩
 refine (k0.aF (o:=o) (I:=aK)).trans' k1 (fun i hi hin=>?_)
 unfold In at hin ⊢
 rw [hext i hi] at hin
 simp at hin
 simp [aK,hin]
theorem CAt.wM {R:Nat} (h:CAt o w G q s c ev nv) {d:CD} {col:Nat} {v:Value} (hn:eG o w (G.D 0) q.C col d v) (k:Keep (only R) w w') (hR:o R=99):CAt o w' G q s c ev nv∧eG o w' (G.D 0) q.C col d v:=by
 have k1:Keep (In o [99]) w w':=k.mD hR rfl
 exact ⟨h.share k1 rfl (h.sh.ay k1 rfl h.box8) rfl,hn.ay k1 rfl rfl⟩
theorem ND (fn:Nat) (first caps:Array Value):∀ w,(binOp .neq 88 (.func (.func fn) first caps) .nilFunc).run Tryz.prog w = .ok (.bool true) w:=fun w=>by first|rfl|(simp [binOp,go_sem];done)|(simp [binOp,go_sem];rfl)
theorem CAt.behind (h:CAt o w G q s c ev nv):(∃ a b c d e f t,∀ x,(w.alloc x).cell? ⟨q.C,13,none⟩=some a∧(w.alloc x).cell? ⟨q.C,14,none⟩=some b∧(w.alloc x).cell? ⟨q.C,15,none⟩=some c∧(w.alloc x).cell? ⟨q.C,16,none⟩=some d∧(w.alloc x).cell? ⟨q.C,17,none⟩=some e∧(w.alloc x).cell? ⟨q.C,18,none⟩=some f∧(w.alloc x).cell? ⟨q.C,19,none⟩=some t) ∧
 (∀ x,(w.alloc x).cell? ⟨q.C,7,none⟩=some (.bool c.wish))∧(∀ x,(w.alloc x).cell? ⟨q.C,10,none⟩=some nv)∧(∀ x i,(w.alloc x).frozen? ⟨q.C,i,none⟩=false):=by
 obtain ⟨a,b,c',d,e,f,t,e0,e1,e2,e3,e4,e5,e6⟩:=h.evs
 have k:∀ x,Keep none_ w (w.alloc x):=fun x=>(Keep.refl _ _).alloc x
 exact ⟨⟨a,b,c',d,e,f,t,fun x=>⟨(k x).still e0,(k x).still e1,(k x).still e2,(k x).still e3,(k x).still e4,(k x).still e5,(k x).still e6⟩⟩,fun x=>(h.still (k x)).cell 7 _ rfl,fun x=>(h.still (k x)).cell 10 _ rfl,fun x i=>(h.still (k x)).free i⟩
theorem CAt.evs3 (h:CAt o w G q s c ev nv):∃ (a b c d e:Int) (t:Bool),(w.cell? ⟨q.C,13,none⟩=some (.int .i64 0)∧w.cell? ⟨q.C,14,none⟩=some (.int .i64 a)∧w.cell? ⟨q.C,15,none⟩=some (.int .i64 b)∧w.cell? ⟨q.C,16,none⟩=some (.int .i64 c)∧w.cell? ⟨q.C,17,none⟩=some (.int .i64 d)∧w.cell? ⟨q.C,18,none⟩=some (.int .i64 e)∧w.cell? ⟨q.C,19,none⟩=some (.bool t))∧lC ev = .agg #[.int .i64 0,.int .i64 a,.int .i64 b,.int .i64 c,.int .i64 d,.int .i64 e]∧jQ ev = .bool t:=by
 cases ev with
 | none =>
   refine ⟨0,0,0,0,0,false,⟨?_,?_,?_,?_,?_,?_,?_⟩,rfl,rfl⟩
   all_goals exact h.cell _ _ rfl
 | some x =>
   refine ⟨x.who,x.kind,x.op,x.code,x.value,true,⟨?_,?_,?_,?_,?_,?_,?_⟩,rfl,rfl⟩
   all_goals exact h.cell _ _ rfl
def nC (o:Ow) (w:World) (G:Geo) (q:CG) (s:Sh) (c:CS) (W:World):Prop :=
 ∃ (a b c' d e:Int) (t:Bool),(W.cell? ⟨q.C,13,none⟩=some (.int .i64 0)∧W.cell? ⟨q.C,14,none⟩=some (.int .i64 a)∧W.cell? ⟨q.C,15,none⟩=some (.int .i64 b)∧W.cell? ⟨q.C,16,none⟩=some (.int .i64 c')∧W.cell? ⟨q.C,17,none⟩=some (.int .i64 d)∧W.cell? ⟨q.C,18,none⟩=some (.int .i64 e)∧W.cell? ⟨q.C,19,none⟩=some (.bool t)) ∧
  Blk W w.heap.size zero6.toList 37∧Hid (∀ w6,Keep (only w.heap.size) W w6→ny o w G q s c (.returned (.tuple #[.agg #[.int .i64 0,.int .i64 a,.int .i64 b,.int .i64 c',.int .i64 d,.int .i64 e],.bool t])) w6)
theorem nC.of {o1:Ow} {W2 W4:World} {r:iT} (hext:aH w o o1) (hR:o1 w.heap.size=99) (hB:Blk W2 w.heap.size zero6.toList 37) (k2:Keep (In o aK) w W2) (hn:DL o1 W2 G q r W4) (hp:aW s c=⟨r.s,{ r.c with next:=r.next },r.next,r.ev⟩):nC o w G q s c W4:=by
 obtain ⟨o2,v,e2,h4,n4,k4⟩:=hn
 have hlt:=hB.lt
 obtain ⟨a,b,c',d,e,t,hcs,ea,et⟩:=h4.evs3
 refine ⟨a,b,c',d,e,t,hcs,hB.ay k4 hR (by decide),fun w6 k6=>?_⟩
 have hR2:o2 w.heap.size=99:=(e2 _ hlt).trans hR
 obtain ⟨h6,n6⟩:=h4.wM n4 k6 hR2
 unfold ny
 rw [hp,← ea,← et]
 refine ⟨o2,rfl,hext.trans k2.size e2,⟨r.ev,v,⟨h6.sh,h6.blk,h6.oC,h6.stk,h6.oK,h6.box8⟩,n6⟩,?_⟩
 have k46:Keep (fun b=>In o1 aK b∨b=w.heap.size) W2 w6:=(k4.mono (fun _ _ h=>Or.inl h)).trans (k6.mono (fun b _ h=>Or.inr h))
 refine k2.trans' k46 (fun i hi hin=>?_)
 rcases hin with hin|hin
 ·unfold In at hin ⊢
  rw [hext i hi] at hin
  exact hin
 ·omega
end
section
variable {o o':Ow} {w w':World} {G:Geo} {q:CG} {s:Sh} {c:CS} {ev:Option Ev} {nv nv0:Value} {N:Nat}
theorem BZ {d:CD} (h:kR d=true):d = .nil:=by
 cases d<;>first|rfl|cases h
theorem J8 (h:CAt o w G q s c ev nv) (hn:eG o w (G.D 0) q.C c.color c.next nv) (hnil:kR c.next=true) (hws:c.wish=false):Calls Tryz.prog 12 #[.pointer (some ⟨q.C,0,none⟩)] w (ny o w G q s c):=by
 obtain ⟨o1,W2,hW2,hext,hR,h2,n2,k2,hB⟩:=h.pick0 hn
 obtain ⟨⟨x0,x1,x2,x3,x4,x5,x6,hx⟩,hws0,hnx0,hfr0⟩:=h.behind
 have f10:=fun x=>hfr0 x 10
 have f13:=fun x=>hfr0 x 13
 have f14:=fun x=>hfr0 x 14
 have f15:=fun x=>hfr0 x 15
 have f16:=fun x=>hfr0 x 16
 have f17:=fun x=>hfr0 x 17
 have f18:=fun x=>hfr0 x 18
 have f19:=fun x=>hfr0 x 19
 have g13:=fun x=>(hx x).1
 have g14:=fun x=>(hx x).2.1
 have g15:=fun x=>(hx x).2.2.1
 have g16:=fun x=>(hx x).2.2.2.1
 have g17:=fun x=>(hx x).2.2.2.2.1
 have g18:=fun x=>(hx x).2.2.2.2.2.1
 have g19:=fun x=>(hx x).2.2.2.2.2.2
 have jD:=hW2
 unfold qJ at jD
 have HW2:=Lib.hid jD
 have enx:=BZ hnil
 rw [enx] at hn n2
 obtain rfl:nv = .nilFunc:=hn
 have hp:aW s c=⟨s,{ c with next := .nil },.nil,none⟩:=by
  unfold aW
  simp only
  rw [if_neg (by rw [hnil];decide),if_neg (by rw [hws];decide)]
 have HTL:Hid (nC o w G q s c W2):=nC.of (r:=⟨s,c,.nil,none⟩) hext hR hB k2 ⟨o1,.nilFunc,aH.refl _ _,h2,n2,Keep.refl _ _⟩ hp
 have hnq:=wP
 rw [hws] at hws0
 unfold nC at HTL
 generalize ny o w G q s c=PO at *
 clear h h2 n2 k2 hext hW2 jD hx hfr0 hB enx hnil hp hR hws
 go_enter Tryz.func12,Tryz.ntmps12
 go_wp2_with fail
 rw [← HW2.out]
 clear f10 f13 f14 f15 f16 f17 f18 f19 g13 g14 g15 g16 g17 g18 g19 hws0 hnx0 HW2
 generalize W2=W5 at *
 obtain ⟨a,b,c9,d,e,t,⟨y0,y1,y2,y3,y4,y5,y6⟩,hB5,hend⟩:=HTL.out
 have dO:=Lib.hid hend.out
 obtain ⟨W6,hW6⟩:∃ W6,W6=W5.drew:=⟨_,rfl⟩
 have k56:Keep none_ W5 W6:=by rw [hW6];exact (Keep.refl none_ W5).drew
 have hB6:=k56.blk hB5 (fun f=>f)
 have zf0:=hB5.free 0
 have zf1:=hB5.free 1
 have zf2:=hB5.free 2
 have zf3:=hB5.free 3
 have zf4:=hB5.free 4
 have zf5:=hB5.free 5
 have z0:W5.cell? ⟨w.heap.size,0,none⟩=some (.int .i64 0):=hB5.cell 0 rfl
 have z1:W5.cell? ⟨w.heap.size,1,none⟩=some (.int .i64 0):=hB5.cell 1 rfl
 have z2:W5.cell? ⟨w.heap.size,2,none⟩=some (.int .i64 0):=hB5.cell 2 rfl
 have z3:W5.cell? ⟨w.heap.size,3,none⟩=some (.int .i64 0):=hB5.cell 3 rfl
 have z4:W5.cell? ⟨w.heap.size,4,none⟩=some (.int .i64 0):=hB5.cell 4 rfl
 have z5:W5.cell? ⟨w.heap.size,5,none⟩=some (.int .i64 0):=hB5.cell 5 rfl
 have x0':=k56.still y0
 have x1':=k56.still y1
 have x2':=k56.still y2
 have x3':=k56.still y3
 have x4':=k56.still y4
 have x5':=k56.still y5
 have x6':=k56.still y6
 have yf0:=hB6.free 0
 have yf1:=hB6.free 1
 have yf2:=hB6.free 2
 have yf3:=hB6.free 3
 have yf4:=hB6.free 4
 have yf5:=hB6.free 5
 have r0:W6.cell? ⟨w.heap.size,0,none⟩=some (.int .i64 0):=hB6.cell 0 rfl
 have r1:W6.cell? ⟨w.heap.size,1,none⟩=some (.int .i64 0):=hB6.cell 1 rfl
 have r2:W6.cell? ⟨w.heap.size,2,none⟩=some (.int .i64 0):=hB6.cell 2 rfl
 have r3:W6.cell? ⟨w.heap.size,3,none⟩=some (.int .i64 0):=hB6.cell 3 rfl
 have r4:W6.cell? ⟨w.heap.size,4,none⟩=some (.int .i64 0):=hB6.cell 4 rfl
 have r5:W6.cell? ⟨w.heap.size,5,none⟩=some (.int .i64 0):=hB6.cell 5 rfl
 rw [hW6] at r0 r1 r2 r3 r4 r5 yf0 yf1 yf2 yf3 yf4 yf5 x0' x1' x2' x3' x4' x5' x6'
 clear hend hB5 hB6 k56 hW6 HTL
 go_region
 go_wp2_with fail
 refine bodyPost_ret (v := .tuple #[.agg #[.int .i64 0,.int .i64 a,.int .i64 b,.int .i64 c9,.int .i64 d,.int .i64 e],.bool t]) (by simp [results,Tryz.f12,go_sem,zf0,zf1,zf2,zf3,zf4,zf5,z0,z1,z2,z3,z4,z5]) rfl ?_
 exact dO.out _ ((((((((Keep.refl (only w.heap.size) _).put _ _).put _ _).put _ _).put _ _).put _ _).put _ _).drew)
theorem He (h:CAt o w G q s c ev nv) (hn:eG o w (G.D 0) q.C c.color c.next nv) (ok:CK N s c) (hN:N≤1000000000) (hnil:kR c.next=true) (hws:c.wish=true):Calls Tryz.prog 12 #[.pointer (some ⟨q.C,0,none⟩)] w (ny o w G q s c):=by
 obtain ⟨o1,W2,hW2,hext,hR,h2,n2,k2,hB⟩:=h.pick0 hn
 obtain ⟨⟨x0,x1,x2,x3,x4,x5,x6,hx⟩,hws0,hnx0,hfr0⟩:=h.behind
 have f10:=fun x=>hfr0 x 10
 have f13:=fun x=>hfr0 x 13
 have f14:=fun x=>hfr0 x 14
 have f15:=fun x=>hfr0 x 15
 have f16:=fun x=>hfr0 x 16
 have f17:=fun x=>hfr0 x 17
 have f18:=fun x=>hfr0 x 18
 have f19:=fun x=>hfr0 x 19
 have g13:=fun x=>(hx x).1
 have g14:=fun x=>(hx x).2.1
 have g15:=fun x=>(hx x).2.2.1
 have g16:=fun x=>(hx x).2.2.2.1
 have g17:=fun x=>(hx x).2.2.2.2.1
 have g18:=fun x=>(hx x).2.2.2.2.2.1
 have g19:=fun x=>(hx x).2.2.2.2.2.2
 have jD:=hW2
 unfold qJ at jD
 have HW2:=Lib.hid jD
 have enx:=BZ hnil
 rw [enx] at hn n2
 obtain rfl:nv = .nilFunc:=hn
 have hp:aW s c=⟨(gI s c).s,{ (gI s c).c with next:=(gI s c).next },(gI s c).next,(gI s c).ev⟩:=by
  unfold aW
  simp only
  rw [if_neg (by rw [hnil];decide),if_pos hws]
 have HST:Hid (Calls Tryz.prog 43 #[.pointer (some ⟨q.C,0,none⟩)] W2 fun e w'=>e = .returned (.tuple #[])∧Hid (nC o w G q s c w')):=by
  refine (JW h2 ok.color (Nat.le_trans ok.cyc hN) ok.cnt.1 (by have:=ok.cnt.2;omega)).mono ?_
  rintro e w' ⟨rfl,g⟩
  exact ⟨rfl,nC.of hext hR hB k2 g hp⟩
 have hnq:=wP
 rw [hws] at hws0
 unfold nC at HST
 generalize ny o w G q s c=PO at *
 clear h h2 n2 k2 hext hW2 jD hx hfr0 hB enx hnil hp hR hws ok hN
 go_enter Tryz.func12,Tryz.ntmps12
 go_wp2_with fail
 rw [← HW2.out]
 refine HST.out.mono ?_
 rintro e W5 ⟨rfl,HTL⟩
 clear f10 f13 f14 f15 f16 f17 f18 f19 g13 g14 g15 g16 g17 g18 g19 hws0 hnx0 HW2 HST
 obtain ⟨a,b,c9,d,e,t,⟨y0,y1,y2,y3,y4,y5,y6⟩,hB5,hend⟩:=HTL.out
 have dO:=Lib.hid hend.out
 obtain ⟨W6,hW6⟩:∃ W6,W6=W5.drew:=⟨_,rfl⟩
 have k56:Keep none_ W5 W6:=by rw [hW6];exact (Keep.refl none_ W5).drew
 have hB6:=k56.blk hB5 (fun f=>f)
 have zf0:=hB5.free 0
 have zf1:=hB5.free 1
 have zf2:=hB5.free 2
 have zf3:=hB5.free 3
 have zf4:=hB5.free 4
 have zf5:=hB5.free 5
 have z0:W5.cell? ⟨w.heap.size,0,none⟩=some (.int .i64 0):=hB5.cell 0 rfl
 have z1:W5.cell? ⟨w.heap.size,1,none⟩=some (.int .i64 0):=hB5.cell 1 rfl
 have z2:W5.cell? ⟨w.heap.size,2,none⟩=some (.int .i64 0):=hB5.cell 2 rfl
 have z3:W5.cell? ⟨w.heap.size,3,none⟩=some (.int .i64 0):=hB5.cell 3 rfl
 have z4:W5.cell? ⟨w.heap.size,4,none⟩=some (.int .i64 0):=hB5.cell 4 rfl
 have z5:W5.cell? ⟨w.heap.size,5,none⟩=some (.int .i64 0):=hB5.cell 5 rfl
 have x0':=k56.still y0
 have x1':=k56.still y1
 have x2':=k56.still y2
 have x3':=k56.still y3
 have x4':=k56.still y4
 have x5':=k56.still y5
 have x6':=k56.still y6
 have yf0:=hB6.free 0
 have yf1:=hB6.free 1
 have yf2:=hB6.free 2
 have yf3:=hB6.free 3
 have yf4:=hB6.free 4
 have yf5:=hB6.free 5
 have r0:W6.cell? ⟨w.heap.size,0,none⟩=some (.int .i64 0):=hB6.cell 0 rfl
 have r1:W6.cell? ⟨w.heap.size,1,none⟩=some (.int .i64 0):=hB6.cell 1 rfl
 have r2:W6.cell? ⟨w.heap.size,2,none⟩=some (.int .i64 0):=hB6.cell 2 rfl
 have r3:W6.cell? ⟨w.heap.size,3,none⟩=some (.int .i64 0):=hB6.cell 3 rfl
 have r4:W6.cell? ⟨w.heap.size,4,none⟩=some (.int .i64 0):=hB6.cell 4 rfl
 have r5:W6.cell? ⟨w.heap.size,5,none⟩=some (.int .i64 0):=hB6.cell 5 rfl
 rw [hW6] at r0 r1 r2 r3 r4 r5 yf0 yf1 yf2 yf3 yf4 yf5 x0' x1' x2' x3' x4' x5' x6'
 clear hend hB5 hB6 k56 hW6 HTL
 go_wp2_with fail
 go_region
 go_wp2_with fail
 refine bodyPost_ret (v := .tuple #[.agg #[.int .i64 0,.int .i64 a,.int .i64 b,.int .i64 c9,.int .i64 d,.int .i64 e],.bool t]) (by simp [results,Tryz.f12,go_sem,zf0,zf1,zf2,zf3,zf4,zf5,z0,z1,z2,z3,z4,z5]) rfl ?_
 exact dO.out _ ((((((((Keep.refl (only w.heap.size) _).put _ _).put _ _).put _ _).put _ _).put _ _).put _ _).drew)
theorem P7 (h:CAt o w G q s c ev nv) (hn:eG o w (G.D 0) q.C c.color c.next nv) (ok:CK N s c) (hN:N≤1000000000) (hd:jC c.muts c.blocks c.cells c.next) (hnil:kR c.next=false):Calls Tryz.prog 12 #[.pointer (some ⟨q.C,0,none⟩)] w (ny o w G q s c):=by
 obtain ⟨o1,W2,hW2,hext,hR,h2,n2,k2,hB⟩:=h.pick0 hn
 obtain ⟨⟨x0,x1,x2,x3,x4,x5,x6,hx⟩,hws0,hnx0,hfr0⟩:=h.behind
 have f10:=fun x=>hfr0 x 10
 have f13:=fun x=>hfr0 x 13
 have f14:=fun x=>hfr0 x 14
 have f15:=fun x=>hfr0 x 15
 have f16:=fun x=>hfr0 x 16
 have f17:=fun x=>hfr0 x 17
 have f18:=fun x=>hfr0 x 18
 have f19:=fun x=>hfr0 x 19
 have g13:=fun x=>(hx x).1
 have g14:=fun x=>(hx x).2.1
 have g15:=fun x=>(hx x).2.2.1
 have g16:=fun x=>(hx x).2.2.2.1
 have g17:=fun x=>(hx x).2.2.2.2.1
 have g18:=fun x=>(hx x).2.2.2.2.2.1
 have g19:=fun x=>(hx x).2.2.2.2.2.2
 have jD:=hW2
 unfold qJ at jD
 have HW2:=Lib.hid jD
 obtain ⟨fn,first,caps,hnv,hcf,hS⟩:=Nu h2 ok hN c.next hd nv n2 hnil
 have hp:aW s c=⟨(aj s c c.next).s,{ (aj s c c.next).c with next:=(aj s c c.next).next },(aj s c c.next).next,(aj s c c.next).ev⟩:=by
  unfold aW
  simp only
  rw [if_pos (by rw [hnil];rfl)]
 have HS:Hid (Calls Tryz.prog fn (first++caps) W2 fun e w3=>∃ nv3,e = .returned nv3∧(nv3 = .nilFunc∨∃ fn3 first3 caps3,nv3 = .func (.func fn3) first3 caps3)∧w3.frozen? ⟨q.C,10,none⟩=false∧w3.cell? ⟨q.C,10,none⟩=some nv∧Hid (nC o w G q s c (w3.setCell ⟨q.C,10,none⟩ nv3))):=by
  refine hS.mono ?_
  rintro e w3 ⟨nv3,rfl,hf,hpp⟩
  exact ⟨nv3,rfl,hf,hpp.c10.2,hpp.c10.1,nC.of hext hR hB k2 hpp.lay hp⟩
 subst hnv
 have hnq:=ND fn first caps
 unfold nC at HS
 generalize ny o w G q s c=PO at *
 clear h h2 n2 k2 hext hW2 jD hx hfr0 hB hnil hp hR ok hN hS hd hn
 go_enter Tryz.func12,Tryz.ntmps12
 go_wp2_with fail
 rw [← HW2.out]
 refine HS.out.mono ?_
 rintro e w3 ⟨nv3,rfl,hf,e10,d10,HTL⟩
 obtain ⟨W5,hW5⟩:∃ W5,W5=w3.setCell ⟨q.C,10,none⟩ nv3:=⟨_,rfl⟩
 rw [← hW5] at HTL
 have HW5:=Lib.hid hW5
 clear f10 f13 f14 f15 f16 f17 f18 f19 g13 g14 g15 g16 g17 g18 g19 hws0 hnx0 HW2 HS hW5
 obtain ⟨a,b,c9,d,e,t,⟨y0,y1,y2,y3,y4,y5,y6⟩,hB5,hend⟩:=HTL.out
 have dO:=Lib.hid hend.out
 obtain ⟨W6,hW6⟩:∃ W6,W6=W5.drew:=⟨_,rfl⟩
 have k56:Keep none_ W5 W6:=by rw [hW6];exact (Keep.refl none_ W5).drew
 have hB6:=k56.blk hB5 (fun f=>f)
 have zf0:=hB5.free 0
 have zf1:=hB5.free 1
 have zf2:=hB5.free 2
 have zf3:=hB5.free 3
 have zf4:=hB5.free 4
 have zf5:=hB5.free 5
 have z0:W5.cell? ⟨w.heap.size,0,none⟩=some (.int .i64 0):=hB5.cell 0 rfl
 have z1:W5.cell? ⟨w.heap.size,1,none⟩=some (.int .i64 0):=hB5.cell 1 rfl
 have z2:W5.cell? ⟨w.heap.size,2,none⟩=some (.int .i64 0):=hB5.cell 2 rfl
 have z3:W5.cell? ⟨w.heap.size,3,none⟩=some (.int .i64 0):=hB5.cell 3 rfl
 have z4:W5.cell? ⟨w.heap.size,4,none⟩=some (.int .i64 0):=hB5.cell 4 rfl
 have z5:W5.cell? ⟨w.heap.size,5,none⟩=some (.int .i64 0):=hB5.cell 5 rfl
 have x0':=k56.still y0
 have x1':=k56.still y1
 have x2':=k56.still y2
 have x3':=k56.still y3
 have x4':=k56.still y4
 have x5':=k56.still y5
 have x6':=k56.still y6
 have yf0:=hB6.free 0
 have yf1:=hB6.free 1
 have yf2:=hB6.free 2
 have yf3:=hB6.free 3
 have yf4:=hB6.free 4
 have yf5:=hB6.free 5
 have r0:W6.cell? ⟨w.heap.size,0,none⟩=some (.int .i64 0):=hB6.cell 0 rfl
 have r1:W6.cell? ⟨w.heap.size,1,none⟩=some (.int .i64 0):=hB6.cell 1 rfl
 have r2:W6.cell? ⟨w.heap.size,2,none⟩=some (.int .i64 0):=hB6.cell 2 rfl
 have r3:W6.cell? ⟨w.heap.size,3,none⟩=some (.int .i64 0):=hB6.cell 3 rfl
 have r4:W6.cell? ⟨w.heap.size,4,none⟩=some (.int .i64 0):=hB6.cell 4 rfl
 have r5:W6.cell? ⟨w.heap.size,5,none⟩=some (.int .i64 0):=hB6.cell 5 rfl
 rw [hW6] at r0 r1 r2 r3 r4 r5 yf0 yf1 yf2 yf3 yf4 yf5 x0' x1' x2' x3' x4' x5' x6'
 clear hend hB5 hB6 k56 hW6 HTL
 rcases hf with rfl|⟨fn3,first3,caps3,rfl⟩
 all_goals
  go_wp2_with fail
  rw [← HW5.out]
  clear e10 d10
  go_region
  go_wp2_with fail
  refine bodyPost_ret (v := .tuple #[.agg #[.int .i64 0,.int .i64 a,.int .i64 b,.int .i64 c9,.int .i64 d,.int .i64 e],.bool t]) (by simp [results,Tryz.f12,go_sem,zf0,zf1,zf2,zf3,zf4,zf5,z0,z1,z2,z3,z4,z5]) rfl ?_
  exact dO.out _ ((((((((Keep.refl (only w.heap.size) _).put _ _).put _ _).put _ _).put _ _).put _ _).put _ _).drew)
theorem NG (h:eY o w G q s c) (ok:Cok N s c) (hN:N≤1000000000):Calls Tryz.prog 12 #[.pointer (some ⟨q.C,0,none⟩)] w (ny o w G q s c):=by
 obtain ⟨ev,nv,h1,hn⟩:=h
 cases hnil:kR c.next with
 | false=>exact P7 h1 hn ok.k hN ok.nx hnil
 | true =>
   cases hw:c.wish with
   | false=>exact J8 h1 hn hnil hw
   | true=>exact He h1 hn ok.k hN hnil hw
end
end
end Go.Proofs.YtanfphjoebobaaaGreatDoor
