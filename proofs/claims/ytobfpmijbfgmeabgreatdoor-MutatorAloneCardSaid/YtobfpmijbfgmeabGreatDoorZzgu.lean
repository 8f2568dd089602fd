/- Parts of the walk. No conditions. -/
import Derived.Test.YtobfpmijbfgmeabGreatDoorZzgt
namespace Go.Proofs.YtobfpmijbfgmeabGreatDoor
open _root_.Bool renaming false_eq_true->ade
open _root_.List renaming flatten_cons->adf,getElem?_append_left->abo,getElem?_append_right->abp,getElem?_eq_some_iff->abl,mem_map->adg,replicate->abn
open _root_.Nat renaming lt_of_lt_of_le->abj
open _root_.Go.Proofs.Tryz hiding prog
open _root_.Go.Proofs.Tryz renaming prog->ay
set_option maxRecDepth 10000
set_option maxHeartbeats 8000000
section
attribute [local go_sem] Oper.semAt_some
open Go.RowKit
def kH (o:Ow) (w:World) (G:eH) (g:MG) (s:Sh) (m:MS):Ending->World->Prop:=fun e w'=>∃ o',e = .returned (.tuple #[xY (cu s m).2.2,wW (cu s m).2.2])/\dL w o o'/\jX o' w' G g (cu s m).1 (cu s m).2.1/\aj (In o (aT m.id)) w w'
section
variable {o o':Ow} {w w':World} {G:eH} {g:MG} {s:Sh} {m:MS} {nv:Value} {ev:Option Ev}
theorem aQ.c19 (h:aQ o w G g s m ev nv):w.cell? ⟨g.M,19,none⟩=some (ah (m.aY:Int)):=h.cell 19 _ (fun _ _=>rfl)
theorem aQ.c22 (h:aQ o w G g s m ev nv):w.cell? ⟨g.M,22,none⟩=some (.bool m.lY):=h.cell 22 _ (fun _ _=>rfl)
theorem aQ.IC (h:aQ o w G g s m ev nv):∀ iP,aQ o (w.setCell ⟨g.M,17,none⟩ iP) G g s m ev iP/\aj (In o [20+m.id]) w (w.setCell ⟨g.M,17,none⟩ iP):=fun iP=>h.put 17 iP m ev iP (fun pv rv=>rfl) ⟨rfl,rfl,rfl,rfl,rfl,rfl⟩
theorem aQ.behind (h:aQ o w G g s m ev nv):(∃ a b c d e f t,∀ x,(w.alloc x).cell? ⟨g.M,23,none⟩=some a/\(w.alloc x).cell? ⟨g.M,24,none⟩=some b/\(w.alloc x).cell? ⟨g.M,25,none⟩=some c/\(w.alloc x).cell? ⟨g.M,26,none⟩=some d/\(w.alloc x).cell? ⟨g.M,27,none⟩=some e/\(w.alloc x).cell? ⟨g.M,28,none⟩=some f/\(w.alloc x).cell? ⟨g.M,29,none⟩=some t) /\
 (∀ x,(w.alloc x).cell? ⟨g.M,19,none⟩=some (ah (m.aY:Int)))/\(∀ x,(w.alloc x).cell? ⟨g.M,17,none⟩=some nv)/\(∀ x i,(w.alloc x).frozen? ⟨g.M,i,none⟩=false):=by
 obtain ⟨a,b,c,d,e,f,t,e0,e1,e2,e3,e4,e5,e6⟩:=h.ZJ
 have k:∀ x,aj aA w (w.alloc x):=fun x=>(aj.refl _ _).alloc x
 exact ⟨⟨a,b,c,d,e,f,t,fun x=>⟨(k x).still e0,(k x).still e1,(k x).still e2,(k x).still e3,(k x).still e4,(k x).still e5,(k x).still e6⟩⟩,fun x=>(h.still (k x)).c19,fun x=>(h.still (k x)).c17,fun x i=>(h.still (k x)).free i⟩
theorem Ov (h:aQ o w G g s m ev nv) (hn:iW o w (G.D 0) (g.Nt,g.M) (30+m.id) m.next nv) (hnil:dR m.next=true) (hsp:m.aY<=1000000000):Calls ay 10 #[ak g.M] w (kH o w G g s m):=by
 have i8:m.id<8:=abj h.qB h.box8
 obtain ⟨o1,W2,hW2,hext,hR,h2,n2,k2,hB⟩:=h.pick0 hn
 obtain ⟨⟨x0,x1,x2,x3,x4,x5,x6,hx⟩,hsp0,hnx0,hfr0⟩:=h.behind
 have ZT:=TL hnil
 rw [ZT] at hn n2
 obtain rfl:nv = .nilFunc:=hn
 have HP:Hid (∀ W3,W3=W2.setCell ⟨g.M,19,none⟩ (ah 1)->Calls ay 39 #[ak g.M] W3 fun e w4=>∃ v,e = .returned v/\(v = .nilFunc\/∃ (fn:Nat) (caps:Array Value),v = .func (.func fn) #[] caps)/\w4.frozen? ⟨g.M,17,none⟩=false/\w4.cell? ⟨g.M,17,none⟩=some .nilFunc /\
  ∀ W5,W5=w4.setCell ⟨g.M,17,none⟩ v->(W5.cell? ⟨g.M,23,none⟩=some (ah 0)/\W5.cell? ⟨g.M,24,none⟩=some (ah 0)/\W5.cell? ⟨g.M,25,none⟩=some (ah 0)/\W5.cell? ⟨g.M,26,none⟩=some (ah 0)/\W5.cell? ⟨g.M,27,none⟩=some (ah 0)/\W5.cell? ⟨g.M,28,none⟩=some (ah 0)/\W5.cell? ⟨g.M,29,none⟩=some (.bool false)) /\
   aB W5 w.heap.size zero6.toList 41/\Hid (∀ w6,aj (only w.heap.size) W5 w6->kH o w G g s m (.returned (.tuple #[.agg zero6,.bool false])) w6)):=fun W3 hW3=>by
  have h3:aQ o1 W3 G g s { m with aY:=1 } none .nilFunc/\aj (In o1 [20+m.id]) W2 W3:=by
   rw [hW3];exact h2.put 19 (ah 1) { m with aY:=1 } none .nilFunc (fun pv rv=>rfl) ⟨rfl,rfl,rfl,rfl,rfl,rfl⟩
  refine (Ot h3.1).mono ?_
  rintro e w4 ⟨v,rfl,h4,c4,k4⟩
  refine ⟨v,rfl,c4.form,h4.free 17,h4.c17,fun W5 nG=>?_⟩
  obtain ⟨h5,k5⟩:=h4.IC v
  rw [<- nG] at h5 k5
  have k25:aj (In o1 [20+m.id]) W2 W5:=(h3.2.trans k4).trans k5
  have eP:aB W5 w.heap.size zero6.toList 41:=hB.aP k25 hR (by simp<;>omega)
  have c5:bG o1 W5 g.Nt g.M (jg s { m with aY:=1 }) v:=c4.aP k5 (by simp<;>omega)
  refine ⟨⟨h5.cell 23 _ (fun _ _=>rfl),h5.cell 24 _ (fun _ _=>rfl),h5.cell 25 _ (fun _ _=>rfl),h5.cell 26 _ (fun _ _=>rfl),h5.cell 27 _ (fun _ _=>rfl),h5.cell 28 _ (fun _ _=>rfl),h5.cell 29 _ (fun _ _=>rfl)⟩,eP,fun w6 k6=>?_⟩
  obtain ⟨h6,n6⟩:=h5.LQ (d:=jg s m) (v:=v) (iW.of (g:=(g.Nt,g.M)) c5) k6 hR
  have ep:cu s m=(s,{ m with aY:=1,lY:=s.B.ji m.id,next:=jg s m },none):=by
   unfold cu
   rw [aV hnil]
  unfold kH
  rw [ep]
  refine ⟨o1,rfl,hext,⟨none,v,h6.xX (jg s m),n6⟩,?_⟩
  have k26:aj (fun b=>In o1 [20+m.id] b\/b=w.heap.size) W2 w6:=(k25.mono (fun _ _ h=>Or.inl h)).trans (k6.mono (fun b _ h=>Or.inr h))
  refine k2.jI k26 (fun i hi hin=>?_)
  rcases hin with hin|hin
  ·unfold In at hin ⊢
   rw [hext i hi] at hin
   simp at hin
   simp [aT,hin]
  ·omega
 have IE:(m.aY:Int)<=1000000000:=by omega
 have Dq:(0:Int)<=(m.aY:Int):=by omega
 have uX:=hW2
 unfold uU at uX
 have HW2:=au uX
 have hnq:=LU
 have f17:=fun x=>hfr0 x 17
 have f19:=fun x=>hfr0 x 19
 have f23:=fun x=>hfr0 x 23
 have f24:=fun x=>hfr0 x 24
 have f25:=fun x=>hfr0 x 25
 have f26:=fun x=>hfr0 x 26
 have f27:=fun x=>hfr0 x 27
 have f28:=fun x=>hfr0 x 28
 have f29:=fun x=>hfr0 x 29
 have g23:=fun x=>(hx x).1
 have g24:=fun x=>(hx x).2.1
 have g25:=fun x=>(hx x).2.2.1
 have g26:=fun x=>(hx x).2.2.2.1
 have g27:=fun x=>(hx x).2.2.2.2.1
 have g28:=fun x=>(hx x).2.2.2.2.2.1
 have g29:=fun x=>(hx x).2.2.2.2.2.2
 generalize kH o w G g s m=PO at *
 generalize m.aY=sp at *
 clear h h2 n2 k2 hext hW2 uX hx hfr0 hB ZT hnil hsp
 go_enter func10,ntmps10
 go_wp2_with fail
 rw [<- HW2.out]
 refine (HP.out _ rfl).mono ?_
 rintro e w4 ⟨v,rfl,hform,e17,d17,hs⟩
 obtain ⟨W5,nG⟩:∃ W5,W5=w4.setCell ⟨g.M,17,none⟩ v:=⟨_,rfl⟩
 obtain ⟨⟨y0,y1,y2,y3,y4,y5,y6⟩,eP,hend⟩:=hs W5 nG
 obtain ⟨W6,yH⟩:∃ W6,W6=W5.drew:=⟨_,rfl⟩
 have k56:aj aA W5 W6:=by rw [yH];exact (aj.refl aA W5).drew
 have nI:=k56.aC eP (fun f=>f)
 have gI:=au hend
 have Qh:=au nG
 have HB6:=au nI
 have zf0:=eP.free 0
 have zf1:=eP.free 1
 have zf2:=eP.free 2
 have zf3:=eP.free 3
 have zf4:=eP.free 4
 have zf5:=eP.free 5
 have z0:W5.cell? ⟨w.heap.size,0,none⟩=some (ah 0):=eP.cell 0 rfl
 have z1:W5.cell? ⟨w.heap.size,1,none⟩=some (ah 0):=eP.cell 1 rfl
 have z2:W5.cell? ⟨w.heap.size,2,none⟩=some (ah 0):=eP.cell 2 rfl
 have z3:W5.cell? ⟨w.heap.size,3,none⟩=some (ah 0):=eP.cell 3 rfl
 have z4:W5.cell? ⟨w.heap.size,4,none⟩=some (ah 0):=eP.cell 4 rfl
 have z5:W5.cell? ⟨w.heap.size,5,none⟩=some (ah 0):=eP.cell 5 rfl
 have QG:=k56.still y0;have x1':=k56.still y1;have x2':=k56.still y2;have x3':=k56.still y3;have QH:=k56.still y4;have QI:=k56.still y5;have QJ:=k56.still y6
 rw [yH] at QG x1' x2' x3' QH QI QJ
 have yf0:=nI.free 0
 have yf1:=nI.free 1
 have yf2:=nI.free 2
 have yf3:=nI.free 3
 have yf4:=nI.free 4
 have yf5:=nI.free 5
 have r0:W6.cell? ⟨w.heap.size,0,none⟩=some (ah 0):=nI.cell 0 rfl
 have r1:W6.cell? ⟨w.heap.size,1,none⟩=some (ah 0):=nI.cell 1 rfl
 have r2:W6.cell? ⟨w.heap.size,2,none⟩=some (ah 0):=nI.cell 2 rfl
 have r3:W6.cell? ⟨w.heap.size,3,none⟩=some (ah 0):=nI.cell 3 rfl
 have r4:W6.cell? ⟨w.heap.size,4,none⟩=some (ah 0):=nI.cell 4 rfl
 have r5:W6.cell? ⟨w.heap.size,5,none⟩=some (ah 0):=nI.cell 5 rfl
 rw [yH] at r0 r1 r2 r3 r4 r5 yf0 yf1 yf2 yf3 yf4 yf5
 clear f17 f19 f23 f24 f25 f26 f27 f28 f29 g23 g24 g25 g26 g27 g28 g29 hsp0 hnx0 hend hs nG eP nI HB6 IE Dq HP k56 yH
 rcases hform with rfl|⟨fn,caps,rfl⟩
 all_goals
  go_wp2_with fail
  rw [<- Qh.out]
  clear e17 d17
  go_region
  go_wp2_with fail
  refine bodyPost_ret (v := .tuple #[.agg zero6,.bool false]) (by simp [results,Tryz.f10,go_sem,zf0,zf1,zf2,zf3,zf4,zf5,z0,z1,z2,z3,z4,z5]) rfl ?_
  exact gI.out _ ((((((((aj.refl (only w.heap.size) _).put _ _).put _ _).put _ _).put _ _).put _ _).put _ _).drew)
end
section
variable {o o':Ow} {w w':World} {G:eH} {g:MG} {s:Sh} {m:MS} {nv:Value} {ev:Option Ev}
theorem aQ.evs3 (h:aQ o w G g s m ev nv):∃ (a b c d e:Int) (t:Bool),(w.cell? ⟨g.M,23,none⟩=some (ah 0)/\w.cell? ⟨g.M,24,none⟩=some (ah a)/\w.cell? ⟨g.M,25,none⟩=some (ah b)/\w.cell? ⟨g.M,26,none⟩=some (ah c)/\w.cell? ⟨g.M,27,none⟩=some (ah d)/\w.cell? ⟨g.M,28,none⟩=some (ah e)/\w.cell? ⟨g.M,29,none⟩=some (.bool t))/\xY ev = .agg #[ah 0,ah a,ah b,ah c,ah d,ah e]/\wW ev = .bool t:=by
 cases ev with
 | none =>
   refine ⟨0,0,0,0,0,false,⟨?_,?_,?_,?_,?_,?_,?_⟩,rfl,rfl⟩
   all_goals exact h.cell _ _ (fun _ _=>rfl)
 | some x =>
   refine ⟨x.Xk,x.kind,x.op,x.code,x.value,true,⟨?_,?_,?_,?_,?_,?_,?_⟩,rfl,rfl⟩
   all_goals exact h.cell _ _ (fun _ _=>rfl)
theorem IG {o1 o2:Ow} {W2 W4 w6:World} {m2:MS} {s2:Sh} {v:Value} (hext:dL w o o1) (hR:o1 w.heap.size=99) (hlt:w.heap.size<W2.heap.size) (k2:aj (In o (aT m.id)) w W2) (e2:dL W2 o1 o2) (k4:aj (In o1 (aT m.id)) W2 W4)
 (h4:aQ o2 W4 G g s2 m2 ev v) (hid:m2.id=m.id) (n4:iW o2 W4 (G.D 0) (g.Nt,g.M) (30+m2.id) m2.next v) (hp:cu s m=(s2,m2,ev)) (k6:aj (only w.heap.size) W4 w6):kH o w G g s m (.returned (.tuple #[xY ev,wW ev])) w6:=by
 have hR2:o2 w.heap.size=99:=(e2 _ hlt).trans hR
 obtain ⟨h6,n6⟩:=h4.LQ n4 k6 hR2
 unfold kH
 rw [hp]
 refine ⟨o2,rfl,hext.trans k2.size e2,⟨ev,v,h6,n6⟩,?_⟩
 have k46:aj (fun b=>In o1 (aT m.id) b\/b=w.heap.size) W2 w6:=(k4.mono (fun _ _ h=>Or.inl h)).trans (k6.mono (fun b _ h=>Or.inr h))
 refine k2.jI k46 (fun i hi hin=>?_)
 rcases hin with hin|hin
 ·unfold In at hin ⊢
  rw [hext i hi] at hin
  exact hin
 ·omega
theorem TM {N:Nat} (h:aQ o w G g s m ev nv) (hn:iW o w (G.D 0) (g.Nt,g.M) (30+m.id) m.next nv) (ok:qA N s m) (hN:N<=1000000000) (hst:F9 m.next) (hnn:dR m.next=false) (hgo:dR (stepM s { m with aY:=m.aY+1 } m.next).next=false):Calls ay 10 #[ak g.M] w (kH o w G g s m):=by
 have i8:m.id<8:=abj h.qB h.box8
 obtain ⟨o1,W2,hW2,hext,hR,h2,n2,k2,hB⟩:=h.pick0 hn
 obtain ⟨⟨x0,x1,x2,x3,x4,x5,x6,hx⟩,hsp0,hnx0,hfr0⟩:=h.behind
 have uV:qV N s { m with aY:=m.aY+1 }:=⟨ok.bK,ok.dA,ok.gU,ok.aU,ok.q,ok.rl⟩
 obtain ⟨fn,bs,QK,hcf,hS⟩:=hst h2 uV hN ok.nx nv n2 hnn
 have rk:=zT uV m.next ok.nx
 have hp:cu s m=((stepM s { m with aY:=m.aY+1 } m.next).s,{ (stepM s { m with aY:=m.aY+1 } m.next).m with next:=(stepM s { m with aY:=m.aY+1 } m.next).next },(stepM s { m with aY:=m.aY+1 } m.next).ev):=by
  unfold cu
  rw [hnn,aO (by decide)]
  simp only [hgo,ade,if_false]
 have hid:=rk.id
 simp only at hid
 obtain ⟨caps,Dt⟩:∃ caps,caps=(bs.map aF).toArray:=⟨_,rfl⟩
 rw [<- Dt] at QK hS
 clear Dt
 generalize stepM s { m with aY:=m.aY+1 } m.next=R at *
 have HS:Hid (Calls ay fn caps W2 fun e w3=>∃ fn3 caps3,e = .returned (.func (.func fn3) #[] caps3)/\w3.frozen? ⟨g.M,17,none⟩=false/\w3.cell? ⟨g.M,17,none⟩=some nv /\
  ∀ W4,W4=w3.setCell ⟨g.M,17,none⟩ (.func (.func fn3) #[] caps3)->W4.cell? ⟨g.M,17,none⟩=some (.func (.func fn3) #[] caps3)/\∃ (a b c d e:Int) (t:Bool),(W4.cell? ⟨g.M,23,none⟩=some (ah 0)/\W4.cell? ⟨g.M,24,none⟩=some (ah a)/\W4.cell? ⟨g.M,25,none⟩=some (ah b)/\W4.cell? ⟨g.M,26,none⟩=some (ah c)/\W4.cell? ⟨g.M,27,none⟩=some (ah d)/\W4.cell? ⟨g.M,28,none⟩=some (ah e)/\W4.cell? ⟨g.M,29,none⟩=some (.bool t)) /\
   aB W4 w.heap.size zero6.toList 41/\Hid (∀ w6,aj (only w.heap.size) W4 w6->kH o w G g s m (.returned (.tuple #[.agg #[ah 0,ah a,ah b,ah c,ah d,ah e],.bool t])) w6)):=by
  refine hS.mono ?_
  rintro e w3 ⟨o2,v3,rfl,e2,h3,n3,k3⟩
  rcases n3.form2 with ⟨hc,_⟩|⟨_,fn3,caps3,rfl⟩
  ·rw [hgo] at hc;cases hc
  refine ⟨fn3,caps3,rfl,h3.free 17,h3.c17,fun W4 fC=>?_⟩
  obtain ⟨h4,k4⟩:=h3.IC (.func (.func fn3) #[] caps3)
  rw [<- fC] at h4 k4
  rw [hid] at k4
  obtain ⟨a,b,c,d,e,t,hcs,ea,et⟩:=h4.evs3
  have k24:aj (In o1 (aT m.id)) W2 W4:=k3.PK (k4.kX (by simp [aT])) e2
  have hB4:aB W4 w.heap.size zero6.toList 41:=hB.aP k24 hR (by simp [aT]<;>omega)
  refine ⟨h4.c17,a,b,c,d,e,t,hcs,hB4,fun w6 k6=>?_⟩
  rw [<- ea,<- et]
  have n4:iW o2 W4 (G.D 0) (g.Nt,g.M) (30+R.m.id) R.next (.func (.func fn3) #[] caps3):=by
   rw [hid];exact n3.aP k4 (by simp<;>omega) (by simp<;>omega)
  exact IG hext hR hB.lt k2 e2 k24 (h4.xX R.next) hid n4 hp k6
 have hsp:=ok.sp
 have IE:(m.aY:Int)<=1000000000:=by omega
 have Dq:(0:Int)<=(m.aY:Int):=by omega
 have uX:=hW2
 unfold uU at uX
 have HW2:=au uX
 subst QK
 have hnq:=BF fn caps
 have heq:=TG
 have f17:=fun x=>hfr0 x 17
 have f19:=fun x=>hfr0 x 19
 have f23:=fun x=>hfr0 x 23
 have f24:=fun x=>hfr0 x 24
 have f25:=fun x=>hfr0 x 25
 have f26:=fun x=>hfr0 x 26
 have f27:=fun x=>hfr0 x 27
 have f28:=fun x=>hfr0 x 28
 have f29:=fun x=>hfr0 x 29
 have g23:=fun x=>(hx x).1
 have g24:=fun x=>(hx x).2.1
 have g25:=fun x=>(hx x).2.2.1
 have g26:=fun x=>(hx x).2.2.2.1
 have g27:=fun x=>(hx x).2.2.2.2.1
 have g28:=fun x=>(hx x).2.2.2.2.2.1
 have g29:=fun x=>(hx x).2.2.2.2.2.2
 generalize kH o w G g s m=PO at *
 generalize m.aY=sp at *
 clear h hn h2 n2 k2 hext hW2 uX hx hfr0 hB hnn hgo hsp rk uV hp ok hS hid
 go_enter func10,ntmps10
 go_wp2_with fail
 rw [<- HW2.out]
 refine HS.out.mono ?_
 rintro e w3 ⟨fn3,caps3,rfl,e17,d17,hs⟩
 obtain ⟨W5,nG⟩:∃ W5,W5=w3.setCell ⟨g.M,17,none⟩ (.func (.func fn3) #[] caps3):=⟨_,rfl⟩
 obtain ⟨z17,a,b,c,d,e,t,⟨y0,y1,y2,y3,y4,y5,y6⟩,eP,hend⟩:=hs W5 nG
 have gI:=au hend
 obtain ⟨W6,yH⟩:∃ W6,W6=W5.drew:=⟨_,rfl⟩
 have k56:aj aA W5 W6:=by rw [yH];exact (aj.refl aA W5).drew
 have nI:=k56.aC eP (fun f=>f)
 have Qh:=au nG
 have zf0:=eP.free 0
 have zf1:=eP.free 1
 have zf2:=eP.free 2
 have zf3:=eP.free 3
 have zf4:=eP.free 4
 have zf5:=eP.free 5
 have z0:W5.cell? ⟨w.heap.size,0,none⟩=some (ah 0):=eP.cell 0 rfl
 have z1:W5.cell? ⟨w.heap.size,1,none⟩=some (ah 0):=eP.cell 1 rfl
 have z2:W5.cell? ⟨w.heap.size,2,none⟩=some (ah 0):=eP.cell 2 rfl
 have z3:W5.cell? ⟨w.heap.size,3,none⟩=some (ah 0):=eP.cell 3 rfl
 have z4:W5.cell? ⟨w.heap.size,4,none⟩=some (ah 0):=eP.cell 4 rfl
 have z5:W5.cell? ⟨w.heap.size,5,none⟩=some (ah 0):=eP.cell 5 rfl
 have QG:=k56.still y0;have x1':=k56.still y1;have x2':=k56.still y2;have x3':=k56.still y3;have QH:=k56.still y4;have QI:=k56.still y5;have QJ:=k56.still y6
 have yf0:=nI.free 0
 have yf1:=nI.free 1
 have yf2:=nI.free 2
 have yf3:=nI.free 3
 have yf4:=nI.free 4
 have yf5:=nI.free 5
 have r0:W6.cell? ⟨w.heap.size,0,none⟩=some (ah 0):=nI.cell 0 rfl
 have r1:W6.cell? ⟨w.heap.size,1,none⟩=some (ah 0):=nI.cell 1 rfl
 have r2:W6.cell? ⟨w.heap.size,2,none⟩=some (ah 0):=nI.cell 2 rfl
 have r3:W6.cell? ⟨w.heap.size,3,none⟩=some (ah 0):=nI.cell 3 rfl
 have r4:W6.cell? ⟨w.heap.size,4,none⟩=some (ah 0):=nI.cell 4 rfl
 have r5:W6.cell? ⟨w.heap.size,5,none⟩=some (ah 0):=nI.cell 5 rfl
 rw [yH] at r0 r1 r2 r3 r4 r5 yf0 yf1 yf2 yf3 yf4 yf5 QG x1' x2' x3' QH QI QJ
 clear f17 f19 f23 f24 f25 f26 f27 f28 f29 g23 g24 g25 g26 g27 g28 g29 hsp0 hnx0 hend hs eP nI IE Dq HS k56 yH hnq hcf
 rw [nG] at z17
 clear nG
 go_wp2_with fail
 rw [<- Qh.out]
 clear e17 d17 z17
 go_region
 go_wp2_with fail
 refine bodyPost_ret (v := .tuple #[.agg #[ah 0,ah a,ah b,ah c,ah d,ah e],.bool t]) (by simp [results,Tryz.f10,go_sem,zf0,zf1,zf2,zf3,zf4,zf5,z0,z1,z2,z3,z4,z5]) rfl ?_
 exact gI.out _ ((((((((aj.refl (only w.heap.size) _).put _ _).put _ _).put _ _).put _ _).put _ _).put _ _).drew)
end
section
variable {o o':Ow} {w w':World} {G:eH} {g:MG} {s:Sh} {m:MS} {nv:Value} {ev:Option Ev}
theorem aQ.V3 (h:aQ o w G g s m ev .nilFunc):aQ o (w.setCell ⟨g.M,20+(if m.lY then 1 else 0),none⟩ (ah ((max (if m.lY then m.most1 else m.most0) m.aY:Nat):Int))) G g s { m with next := .nil }.most ev .nilFunc/\aj (In o [20+m.id]) w (w.setCell ⟨g.M,20+(if m.lY then 1 else 0),none⟩ (ah ((max (if m.lY then m.most1 else m.most0) m.aY:Nat):Int))):=by
 obtain ⟨id,c,aI,bJ,gu,bK,dA,prog,aU,next,held,aY,most0,most1,lY⟩:=m
 cases lY with
 | true =>
   obtain ⟨h1,k1⟩:=h.put 21 (ah ((max most1 aY:Nat):Int)) ⟨id,c,aI,bJ,gu,bK,dA,prog,aU,next,held,aY,most0,max most1 aY,true⟩ ev .nilFunc (fun pv rv=>rfl) ⟨rfl,rfl,rfl,rfl,rfl,rfl⟩
   exact ⟨h1.xX .nil,k1⟩
 | false =>
   obtain ⟨h1,k1⟩:=h.put 20 (ah ((max most0 aY:Nat):Int)) ⟨id,c,aI,bJ,gu,bK,dA,prog,aU,next,held,aY,max most0 aY,most1,false⟩ ev .nilFunc (fun pv rv=>rfl) ⟨rfl,rfl,rfl,rfl,rfl,rfl⟩
   exact ⟨h1.xX .nil,k1⟩
theorem aQ.Y1 (h:aQ o w G g s m ev nv):w.cell? ⟨g.M,20+(if m.lY then 1 else 0),none⟩=some (ah ((if m.lY then m.most1 else m.most0:Nat):Int)):=by
 cases ha:m.lY with
 | true=>exact h.cell 21 _ (fun _ _=>rfl)
 | false=>exact h.cell 20 _ (fun _ _=>rfl)
theorem QL {N:Nat} (h:aQ o w G g s m ev nv) (hn:iW o w (G.D 0) (g.Nt,g.M) (30+m.id) m.next nv) (ok:qA N s m) (hN:N<=1000000000) (hst:F9 m.next) (hnn:dR m.next=false) (hgo:dR (stepM s { m with aY:=m.aY+1 } m.next).next=true):Calls ay 10 #[ak g.M] w (kH o w G g s m):=by
 have i8:m.id<8:=abj h.qB h.box8
 obtain ⟨o1,W2,hW2,hext,hR,h2,n2,k2,hB⟩:=h.pick0 hn
 obtain ⟨⟨x0,x1,x2,x3,x4,x5,x6,hx⟩,hsp0,hnx0,hfr0⟩:=h.behind
 have uV:qV N s { m with aY:=m.aY+1 }:=⟨ok.bK,ok.dA,ok.gU,ok.aU,ok.q,ok.rl⟩
 obtain ⟨fn,bs,QK,hcf,hS⟩:=hst h2 uV hN ok.nx nv n2 hnn
 have rk:=zT uV m.next ok.nx
 have hp:cu s m=((stepM s { m with aY:=m.aY+1 } m.next).s,{ (stepM s { m with aY:=m.aY+1 } m.next).m with next := .nil }.most,(stepM s { m with aY:=m.aY+1 } m.next).ev):=by
  unfold cu
  rw [hnn,aO (by decide)]
  simp only [hgo,if_true]
 have hid:=rk.id
 simp only at hid
 obtain ⟨caps,Dt⟩:∃ caps,caps=(bs.map aF).toArray:=⟨_,rfl⟩
 rw [<- Dt] at QK hS
 clear Dt
 generalize stepM s { m with aY:=m.aY+1 } m.next=R at *
 have HS:Hid (Calls ay fn caps W2 fun e w3=>e = .returned .nilFunc/\w3.frozen? ⟨g.M,17,none⟩=false/\w3.cell? ⟨g.M,17,none⟩=some nv /\
  ∃ (an:Bool) (mo zu:Nat),∀ W4,W4=w3.setCell ⟨g.M,17,none⟩ .nilFunc->W4.cell? ⟨g.M,17,none⟩=some .nilFunc/\W4.cell? ⟨g.M,22,none⟩=some (.bool an)/\W4.cell? ⟨g.M,19,none⟩=some (ah (zu:Int))/\W4.cell? ⟨g.M,20+(if an then 1 else 0),none⟩=some (ah (mo:Int))/\W4.frozen? ⟨g.M,20+(if an then 1 else 0),none⟩=false /\
  ∃ (a b c d e:Int) (t:Bool),∀ W5,W5=(W4.setCell ⟨g.M,20+(if an then 1 else 0),none⟩ (ah ((max mo zu:Nat):Int))).drew->(W5.cell? ⟨g.M,23,none⟩=some (ah 0)/\W5.cell? ⟨g.M,24,none⟩=some (ah a)/\W5.cell? ⟨g.M,25,none⟩=some (ah b)/\W5.cell? ⟨g.M,26,none⟩=some (ah c)/\W5.cell? ⟨g.M,27,none⟩=some (ah d)/\W5.cell? ⟨g.M,28,none⟩=some (ah e)/\W5.cell? ⟨g.M,29,none⟩=some (.bool t)) /\
   aB W5 w.heap.size zero6.toList 41/\Hid (∀ w6,aj (only w.heap.size) W5 w6->kH o w G g s m (.returned (.tuple #[.agg #[ah 0,ah a,ah b,ah c,ah d,ah e],.bool t])) w6)):=by
  refine hS.mono ?_
  rintro e w3 ⟨o2,v3,rfl,e2,h3,n3,k3⟩
  rcases n3.form2 with ⟨_,rfl⟩|⟨hc,_⟩
  rotate_left
  ·rw [hgo] at hc;cases hc
  refine ⟨rfl,h3.free 17,h3.c17,R.m.lY,(if R.m.lY then R.m.most1 else R.m.most0),R.m.aY,fun W4 fC=>?_⟩
  obtain ⟨h4,k4⟩:=h3.IC .nilFunc
  rw [<- fC] at h4 k4
  rw [hid] at k4
  refine ⟨h4.c17,h4.c22,h4.c19,h4.Y1,h4.free _,?_⟩
  obtain ⟨h5,k5⟩:=h4.V3
  rw [hid] at k5
  obtain ⟨a,b,c,d,e,t,-,ea,et⟩:=h5.evs3
  refine ⟨a,b,c,d,e,t,fun W5 nG=>?_⟩
  have ZU:aj aA (W4.setCell ⟨g.M,20+(if R.m.lY then 1 else 0),none⟩ (ah ((max (if R.m.lY then R.m.most1 else R.m.most0) R.m.aY:Nat):Int))) W5:=by rw [nG];exact (aj.refl aA _).drew
  have h6:=h5.still ZU
  obtain ⟨a',b',c',d',e',t',hcs,XF,XG⟩:=h6.evs3
  have e9:(a=a'/\b=b'/\c=c'/\d=d'/\e=e')/\t=t':=by
   rw [ea] at XF;rw [et] at XG
   simp at XF XG
   exact ⟨XF,XG⟩
  obtain ⟨⟨rfl,rfl,rfl,rfl,rfl⟩,rfl⟩:=e9
  have k24:aj (In o1 (aT m.id)) W2 W5:=(k3.PK ((k4.trans k5).kX (by simp [aT])) e2).trans ZU.bU
  have hB4:aB W5 w.heap.size zero6.toList 41:=hB.aP k24 hR (by simp [aT]<;>omega)
  refine ⟨hcs,hB4,fun w6 k6=>?_⟩
  rw [<- ea,<- et]
  have er:({ R.m with next := .nil }:MS).most.id=m.id/\({ R.m with next := .nil }:MS).most.next = .nil:=by
   unfold MS.most
   split<;>exact ⟨hid,rfl⟩
  exact IG hext hR hB.lt k2 e2 k24 h6 er.1 (by rw [er.2];rfl) hp k6
 have hsp:=ok.sp
 have IE:(m.aY:Int)<=1000000000:=by omega
 have Dq:(0:Int)<=(m.aY:Int):=by omega
 have uX:=hW2
 unfold uU at uX
 have HW2:=au uX
 subst QK
 have hnq:=BF fn caps
 have heq:=VY
 have f17:=fun x=>hfr0 x 17
 have f19:=fun x=>hfr0 x 19
 have f23:=fun x=>hfr0 x 23
 have f24:=fun x=>hfr0 x 24
 have f25:=fun x=>hfr0 x 25
 have f26:=fun x=>hfr0 x 26
 have f27:=fun x=>hfr0 x 27
 have f28:=fun x=>hfr0 x 28
 have f29:=fun x=>hfr0 x 29
 have g23:=fun x=>(hx x).1
 have g24:=fun x=>(hx x).2.1
 have g25:=fun x=>(hx x).2.2.1
 have g26:=fun x=>(hx x).2.2.2.1
 have g27:=fun x=>(hx x).2.2.2.2.1
 have g28:=fun x=>(hx x).2.2.2.2.2.1
 have g29:=fun x=>(hx x).2.2.2.2.2.2
 generalize kH o w G g s m=PO at *
 generalize m.aY=sp at *
 clear h hn h2 n2 k2 hext hW2 uX hx hfr0 hB hnn hgo hsp rk uV hp ok hS hid
 go_enter func10,ntmps10
 go_wp2_with fail
 rw [<- HW2.out]
 refine HS.out.mono ?_
 rintro e w3 ⟨rfl,e17,d17,an,mo,zu,hs⟩
 obtain ⟨W4,fC⟩:∃ W4,W4=w3.setCell ⟨g.M,17,none⟩ .nilFunc:=⟨_,rfl⟩
 obtain ⟨z17,z22,z19,z20,zf20,a,b,c,d,e,t,hs5⟩:=hs W4 fC
 have Aq:=au fC
 have yG:=au hs5
 have zd19:W4.drew.cell? ⟨g.M,19,none⟩=some (ah (zu:Int)):=(aj.refl aA W4).drew.still z19
 have zd20:=((aj.refl aA W4).drew).still z20
 rw [fC] at z17 z22
 clear f17 f19 f23 f24 f25 f26 f27 f28 f29 g23 g24 g25 g26 g27 g28 g29 hsp0 hnx0 hs5 hs IE Dq HS hnq hcf fC
 by_cases hle:zu<=mo
 ·have hmx:max mo zu=mo:=Nat.max_eq_left hle
  rw [hmx] at yG
  have Ox:(zu:Int)<=(mo:Int):=by omega
  clear hmx hle
  cases an
  all_goals
   simp only [ade,if_false,if_true,Nat.add_zero,Nat.reduceAdd] at z20 zf20 zd20 yG
   obtain ⟨⟨y0,y1,y2,y3,y4,y5,y6⟩,eP,hend⟩:=yG.out _ rfl
   go_wp2_with fail
   rw [<- Aq.out]
   clear e17 d17 z17 z22
   go_region
   go_wp2_with fail
   have gI:=au hend
   have zf0:=eP.free 0
   have zf1:=eP.free 1
   have zf2:=eP.free 2
   have zf3:=eP.free 3
   have zf4:=eP.free 4
   have zf5:=eP.free 5
   have z0:=eP.cell 0 (v := ah 0) rfl
   have z1:=eP.cell 1 (v := ah 0) rfl
   have z2:=eP.cell 2 (v := ah 0) rfl
   have z3:=eP.cell 3 (v := ah 0) rfl
   have z4:=eP.cell 4 (v := ah 0) rfl
   have z5:=eP.cell 5 (v := ah 0) rfl
   clear hend eP yG zd19 zd20 z19 z20 zf20 Ox
   generalize (W4.setCell _ _).drew=W5 at *
   have QG:=(aj.refl aA W5).drew.still y0;have x1':=(aj.refl aA W5).drew.still y1;have x2':=(aj.refl aA W5).drew.still y2;have x3':=(aj.refl aA W5).drew.still y3;have QH:=(aj.refl aA W5).drew.still y4;have QI:=(aj.refl aA W5).drew.still y5;have QJ:=(aj.refl aA W5).drew.still y6
   have r0:=(aj.refl aA W5).drew.still z0;have r1:=(aj.refl aA W5).drew.still z1;have r2:=(aj.refl aA W5).drew.still z2;have r3:=(aj.refl aA W5).drew.still z3;have r4:=(aj.refl aA W5).drew.still z4;have r5:=(aj.refl aA W5).drew.still z5
   go_region
   go_wp2_with fail
   refine bodyPost_ret (v := .tuple #[.agg #[ah 0,ah a,ah b,ah c,ah d,ah e],.bool t]) (by simp [results,Tryz.f10,go_sem,zf0,zf1,zf2,zf3,zf4,zf5,z0,z1,z2,z3,z4,z5]) rfl ?_
   exact gI.out _ ((((((((aj.refl (only w.heap.size) _).put _ _).put _ _).put _ _).put _ _).put _ _).put _ _).drew)
 ·have hmx:max mo zu=zu:=Nat.max_eq_right (by omega)
  rw [hmx] at yG
  have Ox:¬ (zu:Int)<=(mo:Int):=by omega
  have oz:(mo:Int)<(zu:Int):=by omega
  clear hmx hle
  cases an
  all_goals
   simp only [ade,if_false,if_true,Nat.add_zero,Nat.reduceAdd] at z20 zf20 zd20 yG
   obtain ⟨⟨y0,y1,y2,y3,y4,y5,y6⟩,eP,hend⟩:=yG.out _ rfl
   go_wp2_with fail
   rw [<- Aq.out]
   clear e17 d17 z17 z22
   go_region
   go_wp2_with fail
   have gI:=au hend
   have zf0:=eP.free 0
   have zf1:=eP.free 1
   have zf2:=eP.free 2
   have zf3:=eP.free 3
   have zf4:=eP.free 4
   have zf5:=eP.free 5
   have z0:=eP.cell 0 (v := ah 0) rfl
   have z1:=eP.cell 1 (v := ah 0) rfl
   have z2:=eP.cell 2 (v := ah 0) rfl
   have z3:=eP.cell 3 (v := ah 0) rfl
   have z4:=eP.cell 4 (v := ah 0) rfl
   have z5:=eP.cell 5 (v := ah 0) rfl
   clear hend eP yG zd19 zd20 z19 z20 zf20 Ox
   generalize (W4.setCell _ _).drew=W5 at *
   have QG:=(aj.refl aA W5).drew.still y0;have x1':=(aj.refl aA W5).drew.still y1;have x2':=(aj.refl aA W5).drew.still y2;have x3':=(aj.refl aA W5).drew.still y3;have QH:=(aj.refl aA W5).drew.still y4;have QI:=(aj.refl aA W5).drew.still y5;have QJ:=(aj.refl aA W5).drew.still y6
   have r0:=(aj.refl aA W5).drew.still z0;have r1:=(aj.refl aA W5).drew.still z1;have r2:=(aj.refl aA W5).drew.still z2;have r3:=(aj.refl aA W5).drew.still z3;have r4:=(aj.refl aA W5).drew.still z4;have r5:=(aj.refl aA W5).drew.still z5
   go_region
   go_wp2_with fail
   refine bodyPost_ret (v := .tuple #[.agg #[ah 0,ah a,ah b,ah c,ah d,ah e],.bool t]) (by simp [results,Tryz.f10,go_sem,zf0,zf1,zf2,zf3,zf4,zf5,z0,z1,z2,z3,z4,z5]) rfl ?_
   exact gI.out _ ((((((((aj.refl (only w.heap.size) _).put _ _).put _ _).put _ _).put _ _).put _ _).put _ _).drew)
end
end
section
open Go.RowKit
theorem Tryz.infoOpC:(ay.info? 45).map (fun i=>(i.zero,i.size,i.bytes))=some (some (.agg #[ah 0,ah 0,ah 0,ah 0]),4,32):=by kernel_rfl
theorem Tryz.infoResC:(ay.info? 76).map (fun i=>(i.zero,i.size,i.bytes))=some (some (.agg #[ah 0,ah 0]),2,16):=by kernel_rfl
theorem IJ {sz:Nat} (h0:0<sz):∀ (rs:List (List Value)),(∀ r∈rs,r.length=sz)->∀ j u,rs.flatten[j]?=some u->∃ i r q,rs[i]?=some r/\r[q]?=some u/\j=i*sz+q
 | [],_,j,u,h=>by simp at h
 | r0::rs,hr,j,u,h=>by
   have hl:r0.length=sz:=hr r0 (by simp)
   rw [adf] at h
   rcases Nat.lt_or_ge j r0.length with h1|h1
   ·rw [abo h1] at h
    exact ⟨0,r0,j,rfl,h,by omega⟩
   ·rw [abp h1] at h
    obtain ⟨i,r,q,e1,e2,e3⟩:=IJ h0 rs (fun r h=>hr r (by simp [h])) _ u h
    refine ⟨i+1,r,q,by simpa using e1,e2,?_⟩
    rw [Nat.succ_mul];omega
theorem iL.Fb {w:World} {a:Option Addr} {n sz:Nat} {rs:List (List Value)} (h:iL w a n sz rs) (hs:0<sz) (hr:∀ r∈rs,r.length=sz) {ad:Addr} (ha:a=some ad):∀ j u,rs.flatten[j]?=some u->w.cell? (ad.add j)=some u:=by
 intro j u hj
 obtain ⟨i,r,q,e1,e2,rfl⟩:=IJ hs rs hr j u hj
 have hi:=(abl.1 e1).1
 obtain ⟨b,off,e,hc⟩:=h.jR (by have:=h.len;omega)
 rw [ha] at e
 injection e with e
 subst e
 have ea:(⟨b,off,none⟩:Addr).add (i*sz+q)=⟨b,off+i*sz+q,none⟩:=by simp only [Addr.add];split<;>simp_all<;>omega
 rw [ea]
 exact hc i r e1 q u e2
theorem Kw (a:Option Addr) (n c:Nat) (rs:List (List Value)) (w:World) (h:iL w a n 4 rs) (hr:∀ r∈rs,r.length=4) (hnil:a=none->c=0) (hm:n<=100000000) (h1:∀ r∈rs,∀ u∈r,u.oneCell'=true) :
 Calls ay 38 #[.slice a n c] w fun e w'=>∃ v',e = .returned v'/\w'.ownsRow w.heap.size 45 4 v' n rs.flatten/\aj aA w w':=by
 have hlen:=Bo rs hr
 have hnl:=h.len
 cases a with
 | none =>
   have h0:n=0:=by
    rcases Nat.eq_zero_or_pos n with h0|h0
    ·exact h0
    ·obtain ⟨b,off,e,_⟩:=h.jR h0;cases e
   subst h0
   have:rs=[]:=List.eq_nil_of_length_eq_zero hnl
   subst this
   obtain rfl:=hnil rfl
   clear h hr hnil hm h1 hlen hnl
   have hn:=fun w=>Lib.run_eql_slice_nil (P:=ay) w 24 45 none 0 0 0 0 (by kernel_rfl)
   go_enter func38,ntmps38
   go_wp2
   go_ret
   exact ⟨_,rfl,World.ownsRow_nil _ _ _ _,aj.refl _ _⟩
 | some ad =>
   have hn:=fun w=>Lib.run_eql_slice_nil (P:=ay) w 24 45 (some ad) n c 0 0 (by kernel_rfl)
   obtain ⟨i0,hi1,hi2,hi3,hi4⟩:=info_parts Tryz.infoOpC
   have hw0:∀ w:World,(w.alloc (.cells #[] 45)).ownsRow w.heap.size 45 4 (.slice (some ⟨w.heap.size,0,none⟩) 0 0) 0 []:=fun w=>World.ownsRow_made w #[] 0 (Nat.le_refl _) (by decide) rfl
   have HC:=au (fun j u hj=>(h.below ((aj.refl aA w).alloc (.cells #[] 45))).Fb (by decide) hr rfl j u hj)
   have HU:Hid (∀ u∈rs.flatten,u.oneCell'=true):=fun u hu=>by
    obtain ⟨r,hr1,hr2⟩:=List.mem_flatten.1 hu
    exact h1 r hr1 u hr2
   rw [hnl] at hlen
   generalize rs.flatten=xs at *
   clear h hr hnil h1 hnl
   go_enter func38,ntmps38
   go_wp2_with (at_builtin;refine wpList_append_own _ rfl _ _ 24 rfl w.heap.size 45 i0 (.agg #[ah 0,ah 0,ah 0,ah 0]) 4 32 (by kernel_rfl) hi1 hi2 hi3 hi4 rfl (by decide) _ _ _ rfl (hw0 w) ad n c xs rfl hlen HC.out HU.out (by unfold maxLen;omega) (by omega) (by simp) ?_;intro v' w1 hown hgr _)
   have hown':w1.ownsRow w.heap.size 45 4 v' n xs:=by simpa using hown
   have hkeep:aj aA w w1:=((aj.refl aA w).alloc _).jJ hgr (fun k e hk=>absurd hk (by have e':w.heap.size=k:=Option.some.inj e;omega))
   clear hown hgr
   go_wp2
   go_ret
   exact ⟨_,rfl,hown',hkeep⟩
end
section
attribute [local go_sem] Oper.semAt_some
open Go.RowKit
section
variable {o o':Ow} {w w':World} {G:eH} {g:MG} {s:Sh} {m:MS} {nv:Value} {ev:Option Ev}
theorem Fe {N:Nat} (h:jX o w G g s m) (ok:qA N s m) (hN:N<=1000000000) (hst:F9 m.next):Calls ay 10 #[ak g.M] w (kH o w G g s m):=by
 obtain ⟨ev,nv,h1,hn⟩:=h
 cases hnil:dR m.next with
 | true=>exact Ov h1 hn hnil (Nat.le_trans ok.sp hN)
 | false =>
   cases hgo:dR (stepM s { m with aY:=m.aY+1 } m.next).next with
   | true=>exact QL h1 hn ok hN hst hnil hgo
   | false=>exact TM h1 hn ok hN hst hnil hgo
theorem Fg (h:jX o w G g s m):Calls ay 23 #[ak g.M] w fun e w'=>e = .returned (.bool (!dR m.next))/\w=w':=by
 obtain ⟨ev,nv,h1,hn⟩:=h
 rcases hn.form2 with ⟨e,rfl⟩|⟨e,fn,caps,rfl⟩
 ·rw [e];exact TI h1
 ·rw [e];exact QE h1
theorem jX.still (h:jX o w G g s m) (k:aj aA w w'):jX o w' G g s m:=by
 obtain ⟨ev,nv,h1,hn⟩:=h
 exact ⟨ev,nv,h1.still k,hn.aP (I:=[]) k.bU rfl rfl⟩
theorem Fh (h:jX o w G g s m):Calls ay 8 #[ak g.M] w fun e w'=>e = .returned (.bool (jG m))/\aj aA w w':=by
 have HB:Hid (∀ W,aj aA w W->Calls ay 23 #[ak g.M] W fun e w'=>e = .returned (.bool (!dR m.next))/\W=w'):=fun W hW=>Fg (h.still hW)
 obtain ⟨ev,nv,h1,hn⟩:=h
 have hkd:aj aA w w.drew:=(aj.refl aA w).drew
 obtain ⟨rv,er,_,ra,rc,y9⟩:=h1.Bv
 rw [y9] at er
 obtain ⟨pa,pc,ep,_,_⟩:=h1.F8
 have er':=hkd.still er
 have ep':=hkd.still ep
 have HK:Hid (aj aA w w.drew):=hkd
 cases hnil:dR m.next with
 | false =>
   have HD:Hid (jG m=false):=by unfold Hid jG;rw [hnil];rfl
   rw [hnil] at HB
   simp only [Bool.not_false] at HB
   generalize jG m=dn at *
   generalize m.aU.length=rl at *
   generalize m.prog.length=pl at *
   clear h1 hn hkd hnil
   go_enter func8,ntmps8
   go_wp2_with fail
   go_quiet (first|(go_at_call 23;exact Calls.quiet_of_same (fE (HB.out _ ((aj.refl aA w).drewN _)))))
   go_wp2_with fail
   go_ret
   exact ⟨by rw [HD.out];rfl,(aj.refl aA w).drewN _⟩
 | true =>
   rw [hnil] at HB
   simp only [Bool.not_true] at HB
   by_cases hl:m.aU.length=m.prog.length
   ·have HD:Hid (jG m=true):=by unfold Hid jG;rw [hnil,hl];simp
    rw [hl] at er er'
    generalize jG m=dn at *
    generalize m.prog.length=pl at *
    clear h1 hn hkd hnil hl
    go_enter func8,ntmps8
    go_wp2_with fail
    go_quiet (first|(go_at_call 23;exact Calls.quiet_of_same (fE (HB.out _ ((aj.refl aA w).drewN _)))))
    go_wp2_with fail
    go_ret
    exact ⟨by rw [HD.out];rfl,(aj.refl aA w).drewN _⟩
   ·have HD:Hid (jG m=false):=by unfold Hid jG;rw [hnil];simp [hl]
    have hne:((m.aU.length:Int)==(m.prog.length:Int))=false:=by simp;omega
    generalize jG m=dn at *
    generalize m.aU.length=rl at *
    generalize m.prog.length=pl at *
    clear h1 hn hkd hnil hl
    go_enter func8,ntmps8
    go_wp2_with fail
    go_quiet (first|(go_at_call 23;exact Calls.quiet_of_same (fE (HB.out _ ((aj.refl aA w).drewN _)))))
    go_wp2_with fail
    go_ret
    exact ⟨by rw [HD.out];rfl,(aj.refl aA w).drewN _⟩
end
theorem V4 (l:Int) (w:World) (h:1<=l) (h2:l<=256):Calls ay 36 #[ah l] w fun e w'=>e = .returned (.tuple #[ak w.heap.size,ah 0])/\w'=w.alloc (.cells #[.slice none 0 0,ah l] 143):=by
 have h3:¬ l<1:=by omega
 have h4:¬ 256<l:=by omega
 go_enter func36,ntmps36
 go_wp2_with fail
 go_ret2
 exact ⟨rfl,rfl⟩
theorem V5 (a b c d:Nat) (w:World):Calls ay 37 #[ak a,ak b,ak c,ak d] w fun e w'=>e = .returned (.tuple #[ak w.heap.size,ah 0])/\w'=w.alloc (.cells #[ak a,ak b,ak c,ak d] 145):=by
 go_enter func37,ntmps37
 go_wp2_with fail
 go_ret2
 exact ⟨rfl,rfl⟩
def gX (prog:List bQ):List (List Value):=prog.map bQ.cells
theorem Ar {prog:List bQ}:∀ r∈gX prog,r.length=4:=fun r hr=>by
 obtain ⟨op,_,rfl⟩:=adg.1 hr;rfl
theorem Ky {prog:List bQ}:∀ r∈gX prog,∀ u∈r,u.oneCell'=true:=fun r hr u hu=>by
 obtain ⟨op,_,rfl⟩:=adg.1 hr
 simp [bQ.cells] at hu
 rcases hu with rfl|rfl|rfl|rfl<;>rfl
theorem IK {sz:Nat}:∀ (rs:List (List Value)),(∀ r∈rs,r.length=sz)->∀ i r,rs[i]?=some r->∀ j v,r[j]?=some v->rs.flatten[i*sz+j]?=some v
 | [],_,i,r,h,_,_,_=>by simp at h
 | r0::rs,hr,i,r,hi,j,v,hj=>by
   have h0:r0.length=sz:=hr r0 (by simp)
   rw [adf]
   cases i with
   | zero =>
     simp at hi;subst hi
     have:=(abl.1 hj).1
     rw [Nat.zero_mul,Nat.zero_add,abo (by omega)];exact hj
   | succ i =>
     have e:(i+1)*sz+j=r0.length+(i*sz+j):=by rw [Nat.succ_mul,h0];omega
     rw [e,abp (by omega),Nat.add_sub_cancel_left]
     exact IK rs (fun r h=>hr r (by simp [h])) i r (by simpa using hi) j v hj
theorem pU.qc {o:Ow} {w:World} {base n:Nat} {v:Value} {prog:List bQ} (h:w.ownsRow base 45 4 v n (gX prog).flatten) (hn:n=prog.length) (hm:n<=1000) (hf:∀ b,v.ownBlock=some b->o b=0):pU o w v prog:=by
 subst hn
 obtain ⟨hl,hf2⟩:=h
 rcases hf2 with ⟨rfl,h0⟩|⟨g,aJ,cur,rfl,hg0,hg,hn,_,hs,hc⟩
 ·exact ⟨none,0,by rw [h0],hm,fun hp=>by omega⟩
 ·refine ⟨_,aJ,rfl,hm,fun hp=>⟨g,0,cur.toList,rfl,hf g rfl,by unfold aB;simpa using hg,fun i op hi j u hj=>?_⟩⟩
  have h1:=IK (gX prog) Ar i op.cells (by unfold gX;rw [List.getElem?_map,hi];rfl) j u hj
  rw [<- hc] at h1
  have hlt:=(abl.1 h1).1
  rw [Nat.zero_add]
  rw [List.getElem?_take_of_lt (by simp at hlt;omega)] at h1
  exact h1
theorem V6 {o:Ow} {w0 V:World} {G:eH} {s:Sh} {id M X Bf Nt n:Nat} {prog:List bQ} {pv:Value} (h:eG o w0 G s) (hid:id<s.eF.length) (h8:s.eF.length<=8) (k:aj aA w0 V)
 (hM:aB V M (mY G ⟨M,X,Bf,Nt⟩ (MS.aW s.H.c id prog) none pv (.slice none 0 0) .nilFunc) 98) (hX:aB V X (bg (abn s.H.c.r.toNat 0)) 3) (hB:aB V Bf [.slice none 0 0,ah s.H.c.l] 143) (hN:aB V Nt [aF (G.D 0),aF Bf,aF (G.bx id),aF G.Fl] 145)
 (hp:V.ownsRow w0.heap.size 45 4 pv n (gX prog).flatten) (hn:n=prog.length) (hm:n<=1000) (g1:w0.heap.size<=M) (g2:w0.heap.size<=X) (g3:w0.heap.size<=Bf) (g4:w0.heap.size<=Nt) :
 ∃ o',dL w0 o o'/\jX o' V G ⟨M,X,Bf,Nt⟩ s (MS.aW s.H.c id prog)/\(∀ x,o' x=o x\/(w0.heap.size<=x/\o' x=20+id)):=by
 have nMX:M≠X:=fun e=>by rw [e] at hM;exact absurd (hM.gK hX).2 (by decide)
 have nMB:M≠Bf:=fun e=>by rw [e] at hM;exact absurd (hM.gK hB).2 (by decide)
 have nXB:X≠Bf:=fun e=>by rw [e] at hX;exact absurd (hX.gK hB).2 (by decide)
 have nNM:Nt≠M:=fun e=>by rw [e] at hN;exact absurd (hN.gK hM).2 (by decide)
 have nNX:Nt≠X:=fun e=>by rw [e] at hN;exact absurd (hN.gK hX).2 (by decide)
 have nNB:Nt≠Bf:=fun e=>by rw [e] at hN;exact absurd (hN.gK hB).2 (by decide)
 obtain ⟨o',ho⟩:∃ o':Ow,o'=((o.put M (20+id)).put X (20+id)).put Bf (20+id):=⟨_,rfl⟩
 have hM':o' M=20+id:=by rw [ho];unfold Ow.put;rw [aO nMB,aO nMX,aV rfl]
 have hX':o' X=20+id:=by rw [ho];unfold Ow.put;rw [aO nXB,aV rfl]
 have hB':o' Bf=20+id:=by rw [ho];unfold Ow.put;rw [aV rfl]
 have hoth:∀ x,x≠M->x≠X->x≠Bf->o' x=o x:=fun x h1 h2 h3=>by rw [ho];unfold Ow.put;rw [aO h3,aO h2,aO h1]
 have hext:dL w0 o o':=fun b hb=>hoth b (by omega) (by omega) (by omega)
 have SV:jS o' V:=fun b hb=>by
  rw [hoth b (by have:=hM.lt;omega) (by have:=hX.lt;omega) (by have:=hB.lt;omega)]
  exact h.fK b (by have:=k.size;omega)
 have hsh:eG o' V G s:=h.move (I:=[]) k.bU rfl h8 hext SV
 have hbd:=iT h.heap.fV.ok
 refine ⟨o',hext,⟨none,.nilFunc,⟨hsh,⟨pv,.slice none 0 0,hM,?_,⟨rfl,.inl ⟨rfl,rfl⟩⟩,fun b hb=>by simp [Value.ownBlock] at hb⟩,hM',hX,hX',⟨by show o' Bf≠0;rw [hB'];omega,.slice none 0 0,hB,dI.nil _ _ _,fun _ _ e=>by cases e;rfl⟩,hB',hN,?_,hid,h8,rfl,?_,?_⟩,rfl⟩,fun x=>?_⟩
 ·refine pU.qc hp hn hm (fun b hb=>?_)
  have hlt:=(World.ownsRow.lt hp b hb).1
  have hlt2:=(World.ownsRow.lt hp b hb).2
  rw [hoth b (fun e=>jY hM hp (by decide) (by rw [hb,e])) (fun e=>jY hX hp (by decide) (by rw [hb,e])) (fun e=>jY hB hp (by decide) (by rw [hb,e]))]
  exact h.fK b hlt
 ·show o' Nt=0
  rw [hoth Nt nNM nNX nNB]
  exact h.fK Nt g4
 ·show ((abn s.H.c.r.toNat 0).length:Int)=s.H.c.r
  rw [List.length_replicate];omega
 ·show (0:Int)<=s.H.c.l;omega
 ·by_cases e1:x=M
  ·right;rw [e1];exact ⟨g1,hM'⟩
  by_cases e2:x=X
  ·right;rw [e2];exact ⟨g2,hX'⟩
  by_cases e3:x=Bf
  ·right;rw [e3];exact ⟨g3,hB'⟩
  ·left;exact hoth x e1 e2 e3
section
variable {o o':Ow} {w w':World} {G:eH} {s:Sh}
theorem eG.IL (h:eG o w G s):w.cell? ⟨G.S,0,none⟩=some (ak (G.D 0))/\w.cell? ⟨G.S,3,none⟩=some (ak G.Fl)/\∃ a c,w.cell? ⟨G.S,4,none⟩=some (.slice a s.eF.length c)/\∀ i,i<s.eF.length->∃ b off,a=some ⟨b,off,none⟩/\w.cell? ⟨b,off+i,none⟩=some (ak (G.bx i)):=by
 obtain ⟨v,hb,hr⟩:=h.sh
 obtain ⟨a,c,rfl,_,_,hc⟩:=hr.form
 simp only [List.length_map,List.length_range] at hb
 refine ⟨hb.cell 0 rfl,hb.cell 3 rfl,a,c,hb.cell 4 rfl,fun i hi=>?_⟩
 exact hc i (aF (G.bx i)) (by simp [hi])
theorem eG.still (h:eG o w G s) (k:aj aA w w') (h8:s.eF.length<=8):eG o w' G s:=h.aP (I:=[]) k.bU rfl h8
theorem Fj (h:eG o w G s) (h8:s.eF.length<=8) (id:Nat) (hid:id<s.eF.length) (prog:List bQ) (n:Nat) (hn:n=prog.length) (hm:n<=1000) (a:Option Addr) (c:Nat) (hr:iL w a n 4 (gX prog)) (hnil:a=none->c=0) :
 Calls ay 7 #[ak G.S,ah (id:Int),.slice a n c] w fun e w'=>∃ (o':Ow) (g:MG),e = .returned (.tuple #[ak g.M,ah 0])/\dL w o o'/\jX o' w' G g s (MS.aW s.H.c id prog)/\(∀ x,o' x=o x\/(w.heap.size<=x/\o' x=20+id))/\aj aA w w':=by
 obtain ⟨s0,s3,sa,sc,s4,sbx⟩:=h.IL
 obtain ⟨sb,aaX,rfl,ZV⟩:=sbx id hid
 have hbd:=iT h.heap.fV.ok
 have qY:=au (Af h.heap)
 have EK:Hid (∀ W,aj aA w W->eG o W G s):=fun W hW=>h.still hW h8
 have HR:Hid (∀ W,aj aA w W->iL W a n 4 (gX prog)):=fun W hW=>hr.below hW
 have sQ:Hid (∀ W,aj aA w W->Calls ay 38 #[.slice a n c] W fun e w'=>∃ v',e = .returned v'/\w'.ownsRow W.heap.size 45 4 v' n (gX prog).flatten/\aj aA W w'):=fun W hW=>Kw a n c (gX prog) W (hr.below hW) Ar hnil (by omega) Ky
 obtain ⟨m9,hm9⟩:∃ m9,m9=MS.aW s.H.c id prog:=⟨_,rfl⟩
 rw [<- hm9]
 have rD:Hid (∀ (V:World) (M X Bf Nt:Nat) (pv:Value),aj aA w V->aB V M (mY G ⟨M,X,Bf,Nt⟩ (MS.aW s.H.c id prog) none pv (.slice none 0 0) .nilFunc) 98->aB V X (bg (abn s.H.c.r.toNat 0)) 3->aB V Bf [.slice none 0 0,ah s.H.c.l] 143->aB V Nt [aF (G.D 0),aF Bf,aF (G.bx id),aF G.Fl] 145->V.ownsRow w.heap.size 45 4 pv n (gX prog).flatten->w.heap.size<=M->w.heap.size<=X->w.heap.size<=Bf->w.heap.size<=Nt ->
  ∃ (o':Ow) (g:MG),g.M=M/\dL w o o'/\jX o' V G g s m9/\(∀ x,o' x=o x\/(w.heap.size<=x/\o' x=20+id))/\aj aA w V):=fun V M X Bf Nt pv k p1 p2 p3 p4 p5 p6 p7 p8 p9=>by
  obtain ⟨o',q1,q2,q3⟩:=V6 h hid h8 k p1 p2 p3 p4 p5 hn hm p6 p7 p8 p9
  exact ⟨o',⟨M,X,Bf,Nt⟩,rfl,q1,by rw [hm9];exact q2,q3,k⟩
 obtain ⟨r,hrr⟩:∃ r:Nat,s.H.c.r=(r:Int):=⟨s.H.c.r.toNat,by omega⟩
 have hr64:(r:Int)<=64:=by omega
 have hmk:∀ w:World,(Instr.makeSlice 35 (ah (r:Int)) (ah (r:Int))).run ay w = .ok (.slice (some ⟨w.heap.size,0,none⟩) r r) (w.alloc (.cells (eU (ah 0) r).toArray 3)) :=
  fun w=>wM (P:=ay) (by kernel_rfl) Tryz.infoInt rfl (by decide) r (by omega) _ rfl w
 have ZW:bg (abn s.H.c.r.toNat 0)=eU (ah 0) r:=by
  rw [hrr];simp [bg,eU]
 have pR:Hid (∀ W,Calls ay 36 #[ah s.H.c.l] W fun e w'=>e = .returned (.tuple #[ak W.heap.size,ah 0])/\w'=W.alloc (.cells #[.slice none 0 0,ah s.H.c.l] 143)):=fun W=>V4 _ W (by omega) (by omega)
 have aaY:(id:Int)<(s.eF.length:Int):=by omega
 have hid0:(0:Int)<=(id:Int):=by omega
 have hid1:¬ (s.eF.length:Int)<=(id:Int):=by omega
 have hmI:(n:Int)<=1000:=by omega
 have hmN:¬ (1000:Int)<(n:Int):=by omega
 rw [ZW] at rD
 have HC:Hid (∃ c0 c1 c2 c4 c6,s.H.c=⟨c0,c1,c2,r,c4,s.H.c.l,c6⟩):=⟨s.H.c.b,s.H.c.w,s.H.c.m,s.H.c.c,s.H.c.s,by rw [<- hrr]⟩
 obtain ⟨c0,c1,c2,c4,c6,hcc⟩:=HC.out
 obtain ⟨l,hl⟩:∃ l,l=s.H.c.l:=⟨_,rfl⟩
 rw [<- hl] at hcc rD pR
 simp only [mY,MS.aW,hcc,aS.cells] at rD qY
 generalize s.eF.length=bl at *
 clear h hr hnil hn hbd hrr ZW hcc hl HC hm9
 go_enter func7,ntmps7
 go_wp2_with fail
 refine qY.out.mono ?_
 rintro e w1 ⟨rfl,k1⟩
 obtain ⟨W2,hW2⟩:∃ W2,W2=w1.alloc (.cells #[ah c0,ah c1,ah c2,ah (r:Int),ah c4,ah l,ah c6] 23):=⟨_,rfl⟩
 have k2:aj aA w W2:=by rw [hW2];exact k1.alloc _
 have hcb:aB W2 w1.heap.size [ah c0,ah c1,ah c2,ah (r:Int),ah c4,ah l,ah c6] 23:=by rw [hW2];exact aB.aW w1 _ _
 have HW2:=au hW2
 have bH:=au k2
 have XH:Hid (w.heap.size<=w1.heap.size):=k1.size
 have LG:=au hcb
 have mZ:=au s0
 have yD:=au s3
 have La:=au s4
 have ZX:=au ZV
 clear k1 qY hW2 k2 hcb s0 s3 s4 ZV
 go_wp2_with fail
 rw [<- HW2.out]
 refine (pR.out _).mono ?_
 rintro e w3 ⟨rfl,hw3⟩
 have k23:aj aA W2 w3:=by rw [hw3];exact (aj.refl _ _).alloc _
 have hbf:aB w3 W2.heap.size [.slice none 0 0,ah l] 143:=by rw [hw3];exact aB.aW W2 _ _
 have k3:aj aA w w3:=bH.out.trans k23
 have s0:=k3.still mZ.out
 have s3:=k3.still yD.out
 have s4:=k3.still La.out
 have sx:=k3.still ZX.out
 have k3d:aj aA w w3.drew:=k3.drew
 have ZY:=au (V5 (G.D 0) W2.heap.size (G.bx id) G.Fl w3.drew)
 have XI:=au hbf
 have lT:=au k3
 have XJ:=au k23
 clear hw3 k23 hbf k3 k3d pR
 go_wp2_with fail
 refine aN 16 rfl (by kernel_rfl) (by kernel_rfl) (fun K hK=>?_)
 change wpStill _ _ (World.drew _) _ _ _
 simp only [List.take_succ_cons,List.take_zero,List.drop_succ_cons,List.drop_zero] at hK ⊢
 repeat still_step
 refine wpStill_nil ?_
 change ite _ (Oper.wp _ _ _ _ _ _) _
 go_simp
 refine ZY.out.mono ?_
 rintro e w4 ⟨rfl,hw4⟩
 refine hK _ _ ?_
 clear hK K
 have k34:aj aA w3 w4:=by rw [hw4];exact (aj.refl aA w3).drew.alloc _
 have hnt:aB w4 w3.heap.size [ak (G.D 0),ak W2.heap.size,ak (G.bx id),ak G.Fl] 145:=by rw [hw4];exact aB.aW w3.drew _ _
 have e4:w4.heap.size=w3.heap.size+1:=by rw [hw4];simp
 have XK:=au (k34.aC XI.out (fun f=>f))
 have zx:=au ((XJ.out.trans k34).aC LG.out (fun f=>f))
 have kR:=au (lT.out.trans k34)
 have XL:=au hnt
 have U3:Hid (w.heap.size<=w1.heap.size/\w1.heap.size<W2.heap.size/\W2.heap.size<w3.heap.size):=⟨XH.out,LG.out.lt,XI.out.lt⟩
 clear hw4 k34 hnt s0 s3 s4 sx ZY XI LG XJ lT e4
 repeat still_step
 refine wpStill_nil ?_
 have Eh:Hid (∀ W',aj aA w4 W'->W'.cell? ⟨w1.heap.size,0,none⟩=some (ah c0)/\W'.cell? ⟨w1.heap.size,1,none⟩=some (ah c1)/\W'.cell? ⟨w1.heap.size,2,none⟩=some (ah c2)/\W'.cell? ⟨w1.heap.size,3,none⟩=some (ah (r:Int))/\W'.cell? ⟨w1.heap.size,4,none⟩=some (ah c4)/\W'.cell? ⟨w1.heap.size,5,none⟩=some (ah l)/\W'.cell? ⟨w1.heap.size,6,none⟩=some (ah c6)):=fun W' hW=>⟨hW.still (zx.out.cell 0 rfl),hW.still (zx.out.cell 1 rfl),hW.still (zx.out.cell 2 rfl),hW.still (zx.out.cell 3 rfl),hW.still (zx.out.cell 4 rfl),hW.still (zx.out.cell 5 rfl),hW.still (zx.out.cell 6 rfl)⟩
 have XM:Hid (∀ W,aj aA w4 W->Calls ay 38 #[.slice a n c] W fun e w'=>∃ a8 c8,e = .returned (.slice a8 n c8)/\Hid (w'.ownsRow w.heap.size 45 4 (.slice a8 n c8) n (gX prog).flatten)/\Hid (aj aA W w')/\Hid (aj aA w4 w')/\(∀ x,aj aA w4 (w'.alloc x))):=fun W hW=>by
  refine (sQ.out W (kR.out.trans hW)).mono ?_
  rintro e w' ⟨v',rfl,h1,h2⟩
  obtain ⟨a8,c8,rfl⟩:∃ a8 c8,v' = .slice a8 n c8:=by
   rcases h1.2 with ⟨e1,e2⟩|⟨q,aJ,cur,e1,_⟩
   ·exact ⟨none,0,by rw [e1,e2]⟩
   ·exact ⟨_,_,e1⟩
  exact ⟨a8,c8,rfl,dF h1 (kR.out.trans hW).size,h2,hW.trans h2,fun x=>(hW.trans h2).alloc x⟩
 have gI:Hid (∀ (V:World) (X:Nat) (pv:Value),aj aA w4 V->w.heap.size<=X->aB V X (eU (ah 0) r) 3->V.ownsRow w.heap.size 45 4 pv n (gX prog).flatten ->
  ∃ (o':Ow) (g:MG),g.M=V.heap.size/\dL w o o'/\jX o' (V.alloc (.cells #[ak G.S,ah c0,ah c1,ah c2,ah (r:Int),ah c4,ah l,ah c6,ah (id:Int),.slice (some ⟨X,0,none⟩) r r,ak W2.heap.size,ak w3.heap.size,ah 0,ah 0,ah 0,pv,.slice none 0 0,.nilFunc,ah 0,ah 0,ah 0,ah 0,.bool false,ah 0,ah 0,ah 0,ah 0,ah 0,ah 0,.bool false] 98)) G g s m9/\(∀ x,o' x=o x\/(w.heap.size<=x/\o' x=20+id))/\aj aA w (V.alloc (.cells #[ak G.S,ah c0,ah c1,ah c2,ah (r:Int),ah c4,ah l,ah c6,ah (id:Int),.slice (some ⟨X,0,none⟩) r r,ak W2.heap.size,ak w3.heap.size,ah 0,ah 0,ah 0,pv,.slice none 0 0,.nilFunc,ah 0,ah 0,ah 0,ah 0,.bool false,ah 0,ah 0,ah 0,ah 0,ah 0,ah 0,.bool false] 98))):=fun V X pv k p1 p2 p3=>by
  have kv:aj aA V (V.alloc (.cells #[ak G.S,ah c0,ah c1,ah c2,ah (r:Int),ah c4,ah l,ah c6,ah (id:Int),.slice (some ⟨X,0,none⟩) r r,ak W2.heap.size,ak w3.heap.size,ah 0,ah 0,ah 0,pv,.slice none 0 0,.nilFunc,ah 0,ah 0,ah 0,ah 0,.bool false,ah 0,ah 0,ah 0,ah 0,ah 0,ah 0,.bool false] 98)):=(aj.refl _ _).alloc _
  have he:=U3.out
  exact rD.out _ V.heap.size X W2.heap.size w3.heap.size pv ((kR.out.trans k).trans kv) (by refine Eq.mpr ?_ (aB.aW V [ak G.S,ah c0,ah c1,ah c2,ah (r:Int),ah c4,ah l,ah c6,ah (id:Int),.slice (some ⟨X,0,none⟩) r r,ak W2.heap.size,ak w3.heap.size,ah 0,ah 0,ah 0,pv,.slice none 0 0,.nilFunc,ah 0,ah 0,ah 0,ah 0,.bool false,ah 0,ah 0,ah 0,ah 0,ah 0,ah 0,.bool false] 98);congr 1;simp [D6]) (kv.aC p2 (fun f=>f)) ((k.trans kv).aC XK.out (fun f=>f)) ((k.trans kv).aC XL.out (fun f=>f)) (gy p3 kv) (by have:=(kR.out.trans k).size;omega) p1 (by omega) (by omega)
 have sO:Hid (w.heap.size<=w4.heap.size):=kR.out.size
 have HCA:=au (XM.out w4.drew ((aj.refl aA w4).drew))
 have aaC:=au (XM.out (w4.alloc (.cells (eU (ah 0) r).toArray 3)).drew (((aj.refl aA w4).alloc _).drew))
 clear sQ rD U3 kR zx XL XK EK HR HW2 bH XH mZ yD La ZX
 go_wp2_with fail
 go_region_held3 (fun W'=>W'.cell? ⟨w1.heap.size,0,none⟩=some (ah c0)/\W'.cell? ⟨w1.heap.size,1,none⟩=some (ah c1)/\W'.cell? ⟨w1.heap.size,2,none⟩=some (ah c2)/\W'.cell? ⟨w1.heap.size,3,none⟩=some (ah (r:Int))/\W'.cell? ⟨w1.heap.size,4,none⟩=some (ah c4)/\W'.cell? ⟨w1.heap.size,5,none⟩=some (ah l)/\W'.cell? ⟨w1.heap.size,6,none⟩=some (ah c6))
  (first
   | exact Eh.out _ ((aj.refl aA w4).drew)
   | exact Eh.out _ (((aj.refl aA w4).drew).alloc _)
   | exact Eh.out _ (((aj.refl aA w4).alloc _).drew)
   | exact Eh.out _ hk48.out
   | exact Eh.out _ (Oy _)
   | exact Eh.out _ ((Oy _).alloc _)
   | fail "oO")
  (first
   | ((first|refine HCA.out.mono ?_|refine aaC.out.mono ?_)
      rintro e w8 ⟨a8,c8,rfl,hown,hk8,hk48,Oy⟩)
   | fail "vC")
 all_goals
  go_wp2_with fail
  go_ret2
  first
   | (obtain ⟨o',g,q1,q2,q3,q4,q5⟩:=gI.out w8 w4.heap.size (.slice a8 n c8) hk48.out sO.out (hk8.out.aC ((aB.aW w4 (eU (ah 0) r) 3).drew) (fun f=>f)) hown.out
      exact ⟨o',g,by rw [q1];rfl,q2,q3,q4,q5⟩)
   | (obtain ⟨o',g,q1,q2,q3,q4,q5⟩:=gI.out (w8.alloc (.cells (eU (ah 0) r).toArray 3)) w8.heap.size (.slice a8 n c8) (Oy _) (Nat.le_trans sO.out hk48.out.size) (aB.aW w8 (eU (ah 0) r) 3) (gy hown.out ((aj.refl aA w8).alloc _))
      rw [World.size_alloc] at q1
      exact ⟨o',g,by rw [q1];rfl,q2,q3,q4,q5⟩)
end
end
end Go.Proofs.YtobfpmijbfgmeabGreatDoor
