/- Parts of the iy. No conditions. -/
import Derived.Test.YtanfphjoebobaaaGreatDoorZzfl
namespace Go.Proofs.YtanfphjoebobaaaGreatDoor
open _root_.Go.World renaming drew->ajr
open _root_.List renaming drop_succ_cons->ajt,drop_zero->ajn,take_zero->ajs
open _root_.Nat renaming lt_of_lt_of_le->ajf
open _root_.Go.Proofs.Tryz hiding prog
open _root_.Go.Proofs.Tryz renaming prog->aA
set_option maxRecDepth 4000
set_option maxHeartbeats 4000000
section
attribute [local go_sem] Oper.semAt_some
open Go.RowKit
section
variable {o:Ow} {w w':World} {G:fU} {g:MG} {s:Sh} {m:MS} {nv:Value}
theorem bM.adM {ev:Option Ev} (h:bM o w G g s m ev nv) (c0 c1 c2 c3 c4 c5 c6:Int) (e:m.c=⟨c0,c1,c2,c3,c4,c5,c6⟩):w.cell? ⟨g.M,1,none⟩=some (ah c0)/\w.cell? ⟨g.M,2,none⟩=some (ah c1)/\w.cell? ⟨g.M,3,none⟩=some (ah c2)/\w.cell? ⟨g.M,4,none⟩=some (ah c3)/\w.cell? ⟨g.M,5,none⟩=some (ah c4)/\w.cell? ⟨g.M,6,none⟩=some (ah c5)/\w.cell? ⟨g.M,7,none⟩=some (ah c6):=by
 refine ⟨h.cell 1 _ ?_,h.cell 2 _ ?_,h.cell 3 _ ?_,h.cell 4 _ ?_,h.cell 5 _ ?_,h.cell 6 _ ?_,h.cell 7 _ ?_⟩<;>intro pv rv<;>simp [sK,e,bK.cells]
theorem Z9 (h:bM o w G g s m none nv) (op:jy) (he:tN m.c op=0) (f:Nat) (hf:EM op.k=some f) (hcf:∀ (args:Array Value) (w:World),(callFunc f args).run aA w = .ok (.enter f args) w) (R:xM)
 (adN:∀ W,aj aB w W->Calls aA f #[au g.M,.agg op.cells.toArray] W (bW o W G g nv m.id R)) :
 Calls aA 93 #[au g.M,.agg op.cells.toArray] w (bW o w G g nv m.id R):=by
 obtain ⟨W1,hW1⟩:∃ W1,W1=w.alloc (.cells op.cells.toArray 83):=⟨_,rfl⟩
 have k1:aj aB w W1:=by rw [hW1];exact (aj.refl _ _).alloc _
 have hb1:aF W1 w.heap.size op.cells 83:=by rw [hW1];exact aF.bC w _ _
 have h1:=h.still k1
 have ho:o w.heap.size=0:=h.sh.iV _ (Nat.le_refl _)
 have kd:aj aB W1 W1.drew:=(aj.refl aB W1).drew
 have HD:Hid (∀ W,aj aB w W->aF W w.heap.size op.cells 83->Calls aA f #[au g.M,.agg op.cells.toArray] W fun e w'=>∃ nY,e = .returned nY/\(nY = .nilFunc\/∃ (fn:Nat) (caps:Array Value),nY = .func (.func fn) #[] caps)/\aF w' w.heap.size op.cells 83/\bW o w G g nv m.id R (.returned nY) w'):=fun W hk hb=>by
  refine (adN W hk).mono ?_
  intro e w6 hp
  obtain ⟨o',nY,rfl,e2,h1,hn,kk⟩:=id hp
  exact ⟨nY,rfl,hn.form,hb.bg kk ho (qp _),hp.after hk.bV⟩
 have HC:Hid (Calls aA 139 #[.agg m.c.cells.toArray,.agg op.cells.toArray] W1.drew fun e w'=>e = .returned (ah 0)/\aj aB w w'/\aF w' w.heap.size op.cells 83):=by
  refine (Oy m.c op W1.drew ((h.sh.heap.qQ.aK k1).aK kd)).mono ?_
  rintro e w' ⟨rfl,k2⟩
  rw [he]
  exact ⟨rfl,k1.trans (kd.trans k2),(kd.trans k2).aH hb1 (fun f=>f)⟩
 rcases hcc:m.c with ⟨c0,c1,c2,c3,c4,c5,c6⟩
 rw [hcc] at HC
 obtain ⟨m1,m2,m3,m4,m5,m6,m7⟩:=h1.adM c0 c1 c2 c3 c4 c5 c6 hcc
 obtain ⟨ok,oa,ob,oc⟩:=op
 simp only [jy.cells,bK.cells] at *
 have y0:=hb1.cell 0 rfl
 have y1:=hb1.cell 1 rfl
 have y2:=hb1.cell 2 rfl
 have y3:=hb1.cell 3 rfl
 have HW1:=ay hW1
 have sN:=ay hcf
 generalize m.id=mi at *
 clear h h1 hW1 he adN kd k1 hb1 hcf
 go_enter func93,ntmps93
 go_wp2_with fail
 rw [<- HW1.out]
 refine bG 5 rfl (by kernel_rfl) (by kernel_rfl) (fun K hK=>?_)
 change wpStill _ _ (ajr _) _ _ _
 simp only [List.take_succ_cons,ajs,ajt,ajn] at hK ⊢
 repeat still_step
 refine wpStill_nil ?_
 change ite _ (Oper.wp _ _ _ _ _ _) _
 go_simp
 refine HC.out.mono ?_
 rintro e w2 ⟨rfl,k2,hb2⟩
 refine hK _ _ ?_
 clear hK K
 have K2:=ay k2
 have B2:=ay hb2
 clear k2 hb2 HC y0 y1 y2 y3 m1 m2 m3 m4 m5 m6 m7
 repeat still_step
 refine wpStill_nil ?_
 go_wp2_with fail
 have y0:=B2.out.cell 0 rfl
 have y1:=B2.out.cell 1 rfl
 have y2:=B2.out.cell 2 rfl
 have y3:=B2.out.cell 3 rfl
 go_region_held3 (fun w'=>w'.cell? ⟨w.heap.size,0,none⟩=some (ah ok)/\w'.cell? ⟨w.heap.size,1,none⟩=some (ah oa)/\w'.cell? ⟨w.heap.size,2,none⟩=some (ah ob)/\w'.cell? ⟨w.heap.size,3,none⟩=some (ah oc))
  (first | exact ⟨y0, y1, y2, y3⟩ | exact ⟨HB3.out.cell 0 rfl, HB3.out.cell 1 rfl, HB3.out.cell 2 rfl, HB3.out.cell 3 rfl⟩ | exact ⟨HB4.out.cell 0 rfl, HB4.out.cell 1 rfl, HB4.out.cell 2 rfl, HB4.out.cell 3 rfl⟩ | fail "nR")
  (first
   | (go_at_call 141
      refine (X5 _).mono ?_
      rintro e w3 ⟨bm,rfl,hk3,hlook⟩
      have hl:=hlook w3 (aj.refl _ _) ok f hf
      have hcf:=sN.out
      have HB3:=ay (((aj.refl aB w2).drew.trans hk3).aH B2.out (fun f=>f))
      have jF:=ay (K2.out.trans ((aj.refl aB w2).drew.trans hk3))
      clear hlook hk3)
   | (refine (HD.out _ jF.out HB3.out).mono ?_
      rintro e w4 ⟨nY,rfl,hfm,hb4,hp⟩
      have HB4:=ay hb4
      have HP:=ay hp
      have HFm:=ay hfm
      clear hb4 hp hfm)
   | fail "qg")
 clear y0 y1 y2 y3 hcf hl HD sN HB3 HB4 jF
 rcases HFm.out with rfl|⟨fn,caps,rfl⟩
 all_goals
  go_wp2_with fail
  go_ret
  exact HP.out
end
section
variable {o:Ow} {w w':World} {G:fU} {g:MG} {s:Sh} {m:MS} {nv:Value}
theorem X6 (h:bM o w G g s m none nv) (op:jy) (he:tN m.c op≠0) (hres:m.dG.length<=1000000000):Calls aA 93 #[au g.M,.agg op.cells.toArray] w (bW o w G g nv m.id (sV s m (tN m.c op) 0)):=by
 obtain ⟨W1,hW1⟩:∃ W1,W1=w.alloc (.cells op.cells.toArray 83):=⟨_,rfl⟩
 have k1:aj aB w W1:=by rw [hW1];exact (aj.refl _ _).alloc _
 have hb1:aF W1 w.heap.size op.cells 83:=by rw [hW1];exact aF.bC w _ _
 have h1:=h.still k1
 have kd:aj aB W1 W1.drew:=(aj.refl aB W1).drew
 have HC:Hid (Calls aA 139 #[.agg m.c.cells.toArray,.agg op.cells.toArray] W1.drew fun e w'=>e = .returned (ah (tN m.c op))/\Hid (Calls aA 140 #[au g.M,ah (tN m.c op),ah 0] w' (fun e w'=>e = .returned .nilFunc/\bW o w G g nv m.id (sV s m (tN m.c op) 0) e w'))):=by
  refine (Oy m.c op W1.drew ((h.sh.heap.qQ.aK k1).aK kd)).mono ?_
  rintro e w' ⟨rfl,k2⟩
  have k3:=k1.trans (kd.trans k2)
  refine ⟨rfl,?_⟩
  refine (OW (h.still k3) (tN m.c op) 0 hres).mono ?_
  rintro e w' ⟨rfl,hp⟩
  exact ⟨rfl,hp.after k3.bV⟩
 have d0:(tN m.c op==0)=false:=by simpa using he
 generalize sV s m (tN m.c op) 0=R at *
 generalize tN m.c op=x at *
 rcases hcc:m.c with ⟨c0,c1,c2,c3,c4,c5,c6⟩
 rw [hcc] at HC
 obtain ⟨m1,m2,m3,m4,m5,m6,m7⟩:=h1.adM c0 c1 c2 c3 c4 c5 c6 hcc
 obtain ⟨ok,oa,ob,oc⟩:=op
 simp only [jy.cells,bK.cells] at *
 have y0:=hb1.cell 0 rfl
 have y1:=hb1.cell 1 rfl
 have y2:=hb1.cell 2 rfl
 have y3:=hb1.cell 3 rfl
 have HW1:=ay hW1
 generalize m.id=mi at *
 clear h h1 hW1 he kd k1 hb1 hres
 go_enter func93,ntmps93
 go_wp2_with fail
 rw [<- HW1.out]
 refine bG 5 rfl (by kernel_rfl) (by kernel_rfl) (fun K hK=>?_)
 change wpStill _ _ (ajr _) _ _ _
 simp only [List.take_succ_cons,ajs,ajt,ajn] at hK ⊢
 repeat still_step
 refine wpStill_nil ?_
 change ite _ (Oper.wp _ _ _ _ _ _) _
 go_simp
 refine HC.out.mono ?_
 rintro e w2 ⟨rfl,hp⟩
 refine hK _ _ ?_
 clear hK K
 clear HC y0 y1 y2 y3 m1 m2 m3 m4 m5 m6 m7
 repeat still_step
 refine wpStill_nil ?_
 go_wp2_with fail
 refine hp.out.mono ?_
 rintro e w3 ⟨rfl,hp2⟩
 have HP:=ay hp2
 clear hp2 hp
 go_wp2_with fail
 go_ret
 exact HP.out
theorem X7 (_h:bM o w G g s m none nv) (op:jy) (v:Value) (hv:fE o w g.Nt g.M (.kU op) v) (hpost:Calls aA 93 #[au g.M,.agg op.cells.toArray] w (bW o w G g nv m.id (kY s m op))):∃ bs:List Nat,v = .func (.func 92) #[] (bs.map aJ).toArray/\Calls aA 92 (bs.map aJ).toArray w (bW o w G g nv m.id (stepM s m (.kU op))):=by
 obtain ⟨bs,hbs,hcap⟩:=hv
 refine ⟨bs,hbs,?_⟩
 obtain ⟨b0,b1,rfl,⟨o0,k0⟩,⟨o1,k1⟩⟩:=caps2 hcap
 have HC:Hid (Calls aA 93 #[au g.M,.agg op.cells.toArray] w fun e w'=>∃ nY,e = .returned nY/\(nY = .nilFunc\/∃ (fn:Nat) (caps:Array Value),nY = .func (.func fn) #[] caps)/\bW o w G g nv m.id (stepM s m (.kU op)) (.returned nY) w'):=by
  refine hpost.mono ?_
  intro e w' hp
  obtain ⟨o',nY,rfl,e2,h1,hn,kk⟩:=id hp
  exact ⟨nY,rfl,hn.form,hp⟩
 obtain ⟨ok,oa,ob,oc⟩:=op
 have c0:w.cell? ⟨b0,0,none⟩=some (au g.M):=k0.cell 0 rfl
 have p0:=k1.cell 0 rfl;have p1:=k1.cell 1 rfl;have p2:=k1.cell 2 rfl;have p3:=k1.cell 3 rfl
 show Calls aA 92 #[au b0,au b1] w _
 simp only [jy.cells] at HC
 generalize stepM s m (.kU ⟨ok,oa,ob,oc⟩)=R at *
 generalize m.id=mi at *
 clear _h hcap hbs k0 k1 o0 o1
 go_enter func92,ntmps92
 go_wp2_with fail
 refine HC.out.mono ?_
 rintro e w2 ⟨nY,rfl,hf,hp⟩
 have HP:=ay hp
 clear hp c0 p0 p1 p2 p3
 rcases hf with rfl|⟨fn,caps,rfl⟩
 all_goals
  go_wp2_with fail
  go_ret
  exact HP.out
end
section
variable {o:Ow} {w w':World} {G:fU} {g:MG} {s:Sh} {m:MS} {nv:Value}
def FH (o:Ow) (w:World) (G:fU) (g:MG) (s:Sh) (i:Nat) (m':MS) (nv v:Value):Prop :=
 ∃ fn caps,v = .func (.func fn) #[] caps/\(∀ args w,(callFunc fn args).run aA w = .ok (.enter fn args) w)/\Calls aA fn caps w fun e w'=>e = .returned (.tuple #[])/\bM o w' G g s m' none nv/\aj (In o (eH i)) w w'
theorem acj (h:bM o w G g s m none nv) (v:Value) (hv:dW o w 132 [] v):FH o w G g s m.id m nv v:=by
 obtain ⟨bs,rfl,hcap⟩:=hv
 have:bs=[]:=hcap
 subst this
 refine ⟨_,_,rfl,fun args w=>(by simp [callFunc,func132,go_sem];rfl),?_⟩
 show Calls aA 132 #[] w _
 have H:=ay h
 clear h hcap
 go_enter func132,ntmps132
 go_wp2_with fail
 go_end0
 exact ⟨rfl,H.out,aj.refl _ _⟩
theorem acn (h:bM o w G g s m none nv) (v:Value) (hv:dW o w 137 [([aJ g.M],56)] v):FH o w G g s m.id (jP m 5) nv v:=by
 obtain ⟨bs,rfl,b0,r0,rfl,o0,k0,rfl⟩:=hv
 refine ⟨_,_,rfl,fun args w=>(by simp [callFunc,func137,go_sem];rfl),?_⟩
 show Calls aA 137 #[au b0] w _
 have c0:w.cell? ⟨b0,0,none⟩=some (au g.M):=k0.cell 0 rfl
 have c12:=h.c12
 have f12:=h.free 12
 obtain ⟨h1,kk⟩:=h.put 12 (ah 1) { m with oq:=1 } none nv (fun _ _=>rfl) ⟨rfl,rfl,rfl,rfl,rfl,rfl⟩
 have HE:Hid (bM o (w.setCell ⟨g.M,12,none⟩ (ah 1)) G g s (jP m 5) none nv/\aj (In o (eH m.id)) w (w.setCell ⟨g.M,12,none⟩ (ah 1))):=⟨h1,kk.oW (by simp [eH])⟩
 generalize jP m 5=m' at *
 generalize m.id=mi at *
 clear h h1 kk k0
 go_enter func137,ntmps137
 go_wp2_with fail
 go_end0
 exact ⟨rfl,HE.out.1,HE.out.2⟩
theorem aco (h:bM o w G g s m none nv) (v:Value) (k:Int) (hk:k≠1/\k≠2/\k≠3/\k≠5) (hv:dW o w 138 [([aJ g.M],56)] v):FH o w G g s m.id (jP m k) nv v:=by
 obtain ⟨bs,rfl,b0,r0,rfl,o0,k0,rfl⟩:=hv
 refine ⟨_,_,rfl,fun args w=>(by simp [callFunc,func138,go_sem];rfl),?_⟩
 show Calls aA 138 #[au b0] w _
 have c0:w.cell? ⟨b0,0,none⟩=some (au g.M):=k0.cell 0 rfl
 have m10:w.cell? ⟨g.M,10,none⟩=some (au g.Bf):=h.cell 10 _ (fun _ _=>rfl)
 have e1:jP m k={ m with aY:=[],oq:=0 }:=by unfold jP;rw [aT hk.1,aT hk.2.1,aT hk.2.2.1,aT hk.2.2.2]
 rw [e1]
 have HC:Hid (Calls aA 131 #[au g.Bf] w fun e w'=>e = .returned (.tuple #[])/\w'.cell? ⟨b0,0,none⟩=some (au g.M)/\w'.frozen? ⟨g.M,12,none⟩=false/\w'.cell? ⟨g.M,12,none⟩=some (ah (m.oq:Int))/\Hid (bM o (w'.setCell ⟨g.M,12,none⟩ (ah 0)) G g s { m with aY:=[],oq:=0 } none nv/\aj (In o (eH m.id)) w (w'.setCell ⟨g.M,12,none⟩ (ah 0)))):=by
  refine (Ef h.aY).mono ?_
  rintro e w' ⟨rfl,hb,kk⟩
  have hcl:=h.cl
  obtain ⟨h1,k1⟩:=h.Lr kk hb (by simp;omega)
  obtain ⟨h2,k2⟩:=h1.put 12 (ah 0) { m with aY:=[],oq:=0 } none nv (fun _ _=>rfl) ⟨rfl,rfl,rfl,rfl,rfl,rfl⟩
  exact ⟨rfl,(k0.bg k1 o0 (by simp<;>omega)).cell 0 rfl,h1.free 12,h1.c12,h2,(k1.trans k2).oW (by simp [eH])⟩
 generalize ({ m with aY:=[],oq:=0 }:MS)=m' at *
 generalize m.oq=mo at *
 generalize m.id=mi at *
 clear h k0 e1 hk
 go_enter func138,ntmps138
 go_wp2_with fail
 refine HC.out.mono ?_
 rintro e w1 ⟨rfl,d0,d1,d2,hx⟩
 clear c0 m10 HC
 go_wp2_with fail
 go_end0
 exact ⟨rfl,hx.out.1,hx.out.2⟩
theorem acp (h:bM o w G g s m none nv) (v:Value) (hv:dW o w 133 [([aJ g.M],56)] v):FH o w G g s m.id (jP m 3) nv v:=by
 obtain ⟨bs,rfl,b0,r0,rfl,o0,k0,rfl⟩:=hv
 refine ⟨_,_,rfl,fun args w=>(by simp [callFunc,func133,go_sem];rfl),?_⟩
 show Calls aA 133 #[au b0] w _
 have c0:w.cell? ⟨b0,0,none⟩=some (au g.M):=k0.cell 0 rfl
 have c14:=h.c14
 have c13:w.cell? ⟨g.M,13,none⟩=some (ah (m.aP:Int)):=h.cell 13 _ (fun _ _=>rfl)
 have f13:=h.free 13
 have hkd:aj aB w w.drew:=(aj.refl aB w).drew
 obtain ⟨h1,kk⟩:=(h.still hkd).put 13 (ah (m.dQ:Int)) { m with aP:=m.dQ } none nv (fun _ _=>rfl) ⟨rfl,rfl,rfl,rfl,rfl,rfl⟩
 have HE:Hid (bM o (w.drew.setCell ⟨g.M,13,none⟩ (ah (m.dQ:Int))) G g s (jP m 3) none nv/\aj (In o (eH m.id)) w (w.drew.setCell ⟨g.M,13,none⟩ (ah (m.dQ:Int)))):=⟨h1,hkd.bV.trans (kk.oW (by simp [eH]))⟩
 generalize jP m 3=m' at *
 generalize m.dQ=mw at *
 generalize m.aP=mc at *
 generalize m.id=mi at *
 clear h h1 kk k0 hkd
 go_enter func133,ntmps133
 go_wp2_with fail
 go_region
 go_wp2_with fail
 go_end0
 exact ⟨rfl,HE.out.1,HE.out.2⟩
theorem acr (h:bM o w G g s m none nv) (v:Value) (oG:m.aP<2) (hv:dW o w 130 [([aJ g.M],56)] v):FH o w G g s m.id (jP m 1) nv v:=by
 obtain ⟨bs,rfl,b0,r0,rfl,o0,k0,rfl⟩:=hv
 refine ⟨_,_,rfl,fun args w=>(by simp [callFunc,func130,go_sem];rfl),?_⟩
 show Calls aA 130 #[au b0] w _
 have c0:w.cell? ⟨b0,0,none⟩=some (au g.M):=k0.cell 0 rfl
 have m10:w.cell? ⟨g.M,10,none⟩=some (au g.Bf):=h.cell 10 _ (fun _ _=>rfl)
 have e1:jP m 1={ m with aY:=[],oq:=2,dQ:=1 - m.aP }:=rfl
 have hsub:((1 - m.aP:Nat):Int)=1 - (m.aP:Int):=by omega
 have HC:Hid (Calls aA 131 #[au g.Bf] w fun e w'=>e = .returned (.tuple #[])/\w'.cell? ⟨b0,0,none⟩=some (au g.M)/\w'.frozen? ⟨g.M,12,none⟩=false/\w'.frozen? ⟨g.M,14,none⟩=false/\w'.cell? ⟨g.M,12,none⟩=some (ah (m.oq:Int))/\w'.cell? ⟨g.M,13,none⟩=some (ah (m.aP:Int))/\w'.cell? ⟨g.M,14,none⟩=some (ah (m.dQ:Int))/\Hid (bM o ((w'.setCell ⟨g.M,12,none⟩ (ah 2)).setCell ⟨g.M,14,none⟩ (ah (1 - (m.aP:Int)))).drew G g s (jP m 1) none nv/\aj (In o (eH m.id)) w ((w'.setCell ⟨g.M,12,none⟩ (ah 2)).setCell ⟨g.M,14,none⟩ (ah (1 - (m.aP:Int)))).drew)):=by
  refine (Ef h.aY).mono ?_
  rintro e w' ⟨rfl,hb,kk⟩
  have hcl:=h.cl
  obtain ⟨h1,k1⟩:=h.Lr kk hb (by simp;omega)
  obtain ⟨h2,k2⟩:=h1.put 12 (ah 2) { m with aY:=[],oq:=2 } none nv (fun _ _=>rfl) ⟨rfl,rfl,rfl,rfl,rfl,rfl⟩
  obtain ⟨h3,k3⟩:=h2.put 14 (ah ((1 - m.aP:Nat):Int)) { m with aY:=[],oq:=2,dQ:=1 - m.aP } none nv (fun _ _=>rfl) ⟨rfl,rfl,rfl,rfl,rfl,rfl⟩
  rw [hsub] at h3 k3
  have hkd:aj aB ((w'.setCell ⟨g.M,12,none⟩ (ah 2)).setCell ⟨g.M,14,none⟩ (ah (1 - (m.aP:Int)))) ((w'.setCell ⟨g.M,12,none⟩ (ah 2)).setCell ⟨g.M,14,none⟩ (ah (1 - (m.aP:Int)))).drew:=(aj.refl aB _).drew
  exact ⟨rfl,(k0.bg k1 o0 (by simp<;>omega)).cell 0 rfl,h1.free 12,h1.free 14,h1.c12,h1.cell 13 _ (fun _ _=>rfl),h1.c14,h3.still hkd,((k1.oW (by simp [eH])).trans ((k2.trans k3).oW (by simp [eH]))).trans hkd.bV⟩
 have hw1:IntKind.i64.wrap (1 - (m.aP:Int))=1 - (m.aP:Int):=IntWalk.i64_in _ (by omega)
 clear e1 hsub oG
 generalize jP m 1=m' at *
 generalize m.oq=mo at *
 generalize m.dQ=mw at *
 generalize hmc:(m.aP:Int)=mc at *
 generalize m.id=mi at *
 clear h k0 hmc
 go_enter func130,ntmps130
 go_wp2_with fail
 refine HC.out.mono ?_
 rintro e w1 ⟨rfl,d0,d1,d2,d3,d4,d5,hx⟩
 clear c0 m10 HC
 go_wp2_with fail
 go_region
 go_end0
 exact ⟨rfl,hx.out.1,hx.out.2⟩
end
section
variable {o:Ow} {w w':World} {G:fU} {g:MG} {s:Sh} {m:MS} {nv:Value}
theorem bM.zG {ev:Option Ev} {B:Bd} (h:bM o w G g s m ev nv) (k:aj (only G.B) w w') (hB:kH w' G.B B):bM o w' G g { s with B:=B } m ev nv/\aj (In o (eH m.id)) w w':=by
 obtain ⟨h1,k1⟩:=h.sh.zG k hB
 exact ⟨h.vJ k1 rfl (by simp<;>omega) h1 rfl rfl,k1.oW (by simp [eH])⟩
theorem aac (m':MS) (hid:m'.id=m.id) (dv lv:Value) (hl:FH o w G g s m.id m' nv lv) (hv:dW o w 128 [([lv],1),([aJ g.M],56)] dv):∃ fn caps,dv = .func (.func fn) #[] caps/\(∀ args w,(callFunc fn args).run aA w = .ok (.enter fn args) w)/\Calls aA fn caps w fun e w'=>e = .returned (.tuple #[])/\bM o w' G g { s with B:=s.B.lV m.id } m' none nv/\aj (In o (eH m.id)) w w':=by
 obtain ⟨bs,rfl,hcap⟩:=hv
 obtain ⟨b0,b1,rfl,⟨o0,k0⟩,⟨o1,k1⟩⟩:=caps2 hcap
 refine ⟨_,_,rfl,fun args w=>(by simp [callFunc,func128,go_sem];rfl),?_⟩
 obtain ⟨fl,cl,rfl,hfl,hrun⟩:=hl
 show Calls aA 128 #[au b0,au b1] w _
 have c0:=k0.cell 0 rfl
 have HL:Hid (Calls aA fl cl w fun e w'=>e = .returned (.tuple #[])/\w'.cell? ⟨b1,0,none⟩=some (au g.M)/\w'.cell? ⟨g.M,0,none⟩=some (au G.S)/\w'.cell? ⟨G.S,1,none⟩=some (au G.B)/\w'.cell? ⟨g.M,8,none⟩=some (ah (m.id:Int)) /\
  Hid (Calls aA 129 #[au G.B,ah (m.id:Int)] w'.drew fun e w2=>(∃ er:Int,e = .returned (ah er))/\bM o w2 G g { s with B:=s.B.lV m.id } m' none nv/\aj (In o (eH m.id)) w w2)):=by
  refine hrun.mono ?_
  rintro e w' ⟨rfl,h1,kk⟩
  refine ⟨rfl,(k1.bg kk o1 (qp _)).cell 0 rfl,h1.m0,h1.s0.2.1,by rw [<- hid];exact h1.c8,?_⟩
  have hkd:aj aB w' w'.drew:=(aj.refl aB w').drew
  have hd:=h1.still hkd
  refine (Qx G.B s.B (m.id:Int) w'.drew hd.sh.rH).mono ?_
  rintro e w2 ⟨rfl,hb,k2⟩
  obtain ⟨h3,k3⟩:=hd.zG k2 hb
  rw [hid] at k3
  exact ⟨⟨_,rfl⟩,h3,kk.trans (hkd.bV.trans k3)⟩
 generalize ({ s with B:=s.B.lV m.id }:Sh)=s' at *
 generalize m.id=mi at *
 clear hrun hcap k0 k1 hid
 go_enter func128,ntmps128
 go_wp2_with fail
 refine HL.out.mono ?_
 rintro e w1 ⟨rfl,d0,d1,d2,d3,hx⟩
 clear c0 HL
 go_wp2_with fail
 refine bG 11 rfl (by kernel_rfl) (by kernel_rfl) (fun K hK=>?_)
 change wpStill _ _ (ajr _) _ _ _
 simp only [List.take_succ_cons,ajs,ajt,ajn] at hK ⊢
 repeat still_step
 refine wpStill_nil ?_
 change ite _ (Oper.wp _ _ _ _ _ _) _
 go_simp
 refine hx.out.mono ?_
 rintro e w2 ⟨⟨er,rfl⟩,g1,g2⟩
 refine hK _ _ ?_
 clear hK K
 have H1:=ay (And.intro g1 g2)
 clear g1 g2 d0 d1 d2 d3 hx
 repeat still_step
 refine wpStill_nil ?_
 go_end0
 exact ⟨rfl,H1.out.1,H1.out.2⟩
theorem acs (m:MS) (k:Int):(jP m k).id=m.id:=by
 unfold jP
 split
 ·rfl
 split
 ·rfl
 split
 ·rfl
 split<;>rfl
theorem X8 (h:bM o w G g s m none nv) (k:Int) (v:Value) (hv:fE o w g.Nt g.M (.once k) v) (oG:m.aP<2):∃ bs:List Nat,v = .func (.func 169) #[] (bs.map aJ).toArray/\Calls aA 169 (bs.map aJ).toArray w (bW o w G g nv m.id (stepM s m (.once k))):=by
 obtain ⟨dv,⟨bs,hbs,hcap⟩,hk⟩:=hv
 refine ⟨bs,hbs,?_⟩
 obtain ⟨b0,r0,rfl,o0,k0,rfl⟩:=hcap
 have hd:∃ lv,dW o w 128 [([lv],1),([aJ g.M],56)] dv/\FH o w G g s m.id (jP m k) nv lv:=by
  by_cases h1:k=1
  ·subst h1
   rw [aZ rfl] at hk
   obtain ⟨lv,h1,h2⟩:=hk
   exact ⟨lv,h1,acr h lv oG h2⟩
  rw [aT h1] at hk
  by_cases h2:k=2
  ·subst h2
   rw [aZ rfl] at hk
   obtain ⟨lv,h1,h2⟩:=hk
   exact ⟨lv,h1,acj h lv h2⟩
  rw [aT h2] at hk
  by_cases h3:k=3
  ·subst h3
   rw [aZ rfl] at hk
   obtain ⟨lv,h1,h2⟩:=hk
   exact ⟨lv,h1,acp h lv h2⟩
  rw [aT h3] at hk
  by_cases h5:k=5
  ·subst h5
   rw [aZ rfl] at hk
   obtain ⟨lv,h1,h2⟩:=hk
   exact ⟨lv,h1,acn h lv h2⟩
  rw [aT h5] at hk
  obtain ⟨lv,h6,h7⟩:=hk
  exact ⟨lv,h6,aco h lv k ⟨h1,h2,h3,h5⟩ h7⟩
 obtain ⟨lv,hc,hl⟩:=hd
 obtain ⟨fn,caps,rfl,hfn,hrun⟩:=aac (jP m k) (acs m k) dv lv hl hc
 have c0:=k0.cell 0 rfl
 show Calls aA 169 #[au b0] w _
 have HR:Hid (Calls aA fn caps w fun e w'=>e = .returned (.tuple #[])/\bW o w G g nv m.id (stepM s m (.once k)) (.returned .nilFunc) w'):=by
  refine hrun.mono ?_
  rintro e w' ⟨rfl,h1,k1⟩
  exact ⟨rfl,bW.same (r:=⟨{ s with B:=s.B.lV m.id },jP m k,.nil,none⟩) h1 rfl k1⟩
 have hneq:∀ w,(binOp .neq 1 (.func (.func fn) #[] caps) .nilFunc).run aA w = .ok (.bool true) w:=fun w=>by first|rfl|(simp [binOp,go_sem];done)|(simp [binOp,go_sem];rfl)
 generalize stepM s m (.once k)=R at *
 generalize m.id=mi at *
 clear h hk hc hl hrun k0 o0 hbs
 go_enter func169,ntmps169
 go_wp2_with fail
 refine HR.out.mono ?_
 rintro e w1 ⟨rfl,hp⟩
 have HP:=ay hp
 clear hp c0 HR
 go_wp2_with fail
 go_ret
 exact HP.out
end
end
section
open Go.RowKit
theorem NP:∀ args w,(callFunc 92 args).run aA w = .ok (.enter 92 args) w:=fun args w=>by simp [callFunc,func92,go_sem];rfl
theorem Sr:∀ args w,(callFunc 230 args).run aA w = .ok (.enter 230 args) w:=fun args w=>by simp [callFunc,func230,go_sem];rfl
theorem LG:∀ args w,(callFunc 171 args).run aA w = .ok (.enter 171 args) w:=fun args w=>by simp [callFunc,func171,go_sem];rfl
theorem LH:∀ args w,(callFunc 173 args).run aA w = .ok (.enter 173 args) w:=fun args w=>by simp [callFunc,func173,go_sem];rfl
theorem LJ:∀ args w,(callFunc 176 args).run aA w = .ok (.enter 176 args) w:=fun args w=>by simp [callFunc,func176,go_sem];rfl
theorem JX:∀ args w,(callFunc 214 args).run aA w = .ok (.enter 214 args) w:=fun args w=>by simp [callFunc,func214,go_sem];rfl
theorem G8:∀ args w,(callFunc 217 args).run aA w = .ok (.enter 217 args) w:=fun args w=>by simp [callFunc,func217,go_sem];rfl
theorem NQ:∀ args w,(callFunc 169 args).run aA w = .ok (.enter 169 args) w:=fun args w=>by simp [callFunc,func169,go_sem];rfl
section
variable {o:Ow} {w w':World} {G:fU} {g:MG} {s:Sh} {m:MS} {nv:Value} {ev:Option Ev} {N:Nat}
def IZ (d:MD):Prop:=∀ {o:Ow} {w:World} {G:fU} {g:MG} {s:Sh} {m:MS} {nv:Value} {N:Nat},bM o w G g s m none nv->Dz N s m->N<=1000000000->sZ m.aW.length d->∀ v:Value,oz o w (G.D 0) (g.Nt,g.M) (30+m.id) d v->jD d=false ->
 ∃ fn,∃ bs:List Nat,v = .func (.func fn) #[] (bs.map aJ).toArray/\(∀ args w,(callFunc fn args).run aA w = .ok (.enter fn args) w)/\Calls aA fn (bs.map aJ).toArray w (bW o w G g nv m.id (stepM s m d))
theorem bM.FI (h:bM o w G g s m ev nv) (d:MD):bM o w G g s { m with next:=d } ev nv :=
 ⟨h.sh,h.aH,h.oM,h.aW,h.oX,h.aY,h.CU,h.nt,h.zx,h.mF,h.box8,h.qE,h.uq,h.CV⟩
def qw (o:Ow) (w:World) (G:fU) (g:MG) (s:Sh) (m:MS):Prop:=∃ ev nv,bM o w G g s m ev nv/\oz o w (G.D 0) (g.Nt,g.M) (30+m.id) m.next nv
end
end
section
attribute [local go_sem] Oper.semAt_some
open Go.RowKit
section
variable {o o':Ow} {w w':World} {G:fU} {g:MG} {s:Sh} {m:MS} {nv:Value} {ev:Option Ev}
theorem oz.bg {D0 q:Nat} {gg:Nat × Nat} {d:MD} {v:Value} {I:List Nat} (h:oz o w D0 gg q d v) (k:aj (In o I) w w') (h0:I.contains 0=false) (hq:I.contains q=false):oz o w' D0 gg q d v:=by
 cases d with
 | eX sl c t =>
   obtain ⟨cv,tv,h1,h2,h3⟩:=h
   exact ⟨cv,tv,h1.bg k h0 hq,h2.bg k h0,h3.aK k (fun b hb=>dR hb h0)⟩
 | _=>exact oz.of (fE.bg (o:=o) (Nt:=gg.1) (M:=gg.2) h k h0)
theorem oz.ext {D0 q:Nat} {gg:Nat × Nat} {d:MD} {v:Value} (h:oz o w D0 gg q d v) (e:bZ w o o'):oz o' w D0 gg q d v:=by
 cases d with
 | eX sl c t =>
   obtain ⟨cv,tv,h1,h2,h3⟩:=h
   exact ⟨cv,tv,h1.ext e,fE.ext e h2,h3.ext e⟩
 | _=>exact oz.of (fE.ext (o:=o) (Nt:=gg.1) (M:=gg.2) e h)
theorem oz.form2 {D0 q:Nat} {gg:Nat × Nat} {d:MD} {v:Value} (h:oz o w D0 gg q d v):(jD d=true/\v = .nilFunc)\/(jD d=false/\∃ fn caps,v = .func (.func fn) #[] caps):=by
 cases d with
 | nil=>exact .inl ⟨rfl,h⟩
 | eX sl c t =>
   obtain ⟨cv,tv,h1,h2,bs,rfl,_⟩:=h
   exact .inr ⟨rfl,_,_,rfl⟩
 | _=>exact .inr ⟨rfl,fE.aci (o:=o) (Nt:=gg.1) (M:=gg.2) h rfl⟩
def vK:Option Ev->Value
 | none => .agg #[ah 0,ah 0,ah 0,ah 0,ah 0,ah 0]
 | some e => .agg #[ah 0,ah (e.qX:Int),ah (e.kind:Int),ah (e.op:Int),ah e.code,ah (e.value:Int)]
def sO (ev:Option Ev):Value := .bool ev.isSome
abbrev zero6:Array Value:=#[ah 0,ah 0,ah 0,ah 0,ah 0,ah 0]
def CZ (w:World) (M:Nat):World:=((((((w.setCell ⟨M,23,none⟩ (ah 0)).setCell ⟨M,24,none⟩ (ah 0)).setCell ⟨M,25,none⟩ (ah 0)).setCell ⟨M,26,none⟩ (ah 0)).setCell ⟨M,27,none⟩ (ah 0)).setCell ⟨M,28,none⟩ (ah 0)).setCell ⟨M,29,none⟩ (.bool false)
theorem bM.Sv (h:bM o w G g s m ev nv):bM o (CZ w g.M) G g s m none nv/\aj (In o [20+m.id]) w (CZ w g.M):=by
 have k:aj (only g.M) w (CZ w g.M):=(((((((aj.refl _ _).put _ _).put _ _).put _ _).put _ _).put _ _).put _ _).put _ _
 exact h.struct k m none nv (fun pv rv hb=>by
  have:=((((((hb.set 23 (ah 0)).set 24 (ah 0)).set 25 (ah 0)).set 26 (ah 0)).set 27 (ah 0)).set 28 (ah 0)).set 29 (.bool false)
  obtain ⟨a,b,c,d,e,f,t,he⟩:=IY ev
  unfold sK at this ⊢
  rw [he] at this
  exact this) ⟨rfl,rfl,rfl,rfl,rfl,rfl⟩
theorem bM.pick0 (h:bM o w G g s m ev nv) {d:MD} (hn:oz o w (G.D 0) (g.Nt,g.M) (30+m.id) d nv):∃ o1 W2,W2=(CZ (w.alloc (.cells zero6 37)) g.M).setCell ⟨g.M,19,none⟩ (ah ((m.aU:Int)+1))/\bZ w o o1/\o1 w.heap.size=99 /\
 bM o1 W2 G g s { m with aU:=m.aU+1 } none nv/\oz o1 W2 (G.D 0) (g.Nt,g.M) (30+m.id) d nv/\aj (In o (eH m.id)) w W2/\aF W2 w.heap.size zero6.toList 37:=by
 obtain ⟨W0,hW0⟩:∃ W0,W0=w.alloc (.cells zero6 37):=⟨_,rfl⟩
 have k0:aj aB w W0:=by rw [hW0];exact (aj.refl _ _).alloc _
 have hR:aF W0 w.heap.size zero6.toList 37:=by rw [hW0];exact aF.bC w _ _
 have e0:W0.heap.size=w.heap.size+1:=by rw [hW0];simp
 obtain ⟨o1,ho1⟩:∃ o1,o1=o.put w.heap.size 99:=⟨_,rfl⟩
 have hext:bZ w o o1:=by rw [ho1];exact Ow.pF (.inl (Nat.le_refl _))
 have hR1:o1 w.heap.size=99:=by rw [ho1];exact Ow.qW _ _ _
 have hf1:kJ o1 W0:=by rw [ho1];exact Ow.um h.sh.iV k0.size (by omega)
 have h0:bM o1 W0 G g s m ev nv:=h.DJ k0 hext hf1
 have n0:oz o1 W0 (G.D 0) (g.Nt,g.M) (30+m.id) d nv:=(hn.ext hext).bg (I:=[]) k0.bV rfl rfl
 obtain ⟨h1,k1⟩:=h0.Sv
 obtain ⟨h2,k2⟩:=h1.put 19 (ah ((m.aU:Int)+1)) { m with aU:=m.aU+1 } none nv (fun pv rv=>rfl) ⟨rfl,rfl,rfl,rfl,rfl,rfl⟩
 have i8:m.id<8:=ajf h.mF h.box8
 refine ⟨o1,_,by rw [hW0],hext,hR1,h2,?_,?_,?_⟩
 ·exact (n0.bg k1 (by simp<;>omega) (by simp<;>omega)).bg k2 (by simp<;>omega) (by simp<;>omega)
 ·refine (k0.bV (o:=o) (I:=eH m.id)).kF (k1.trans k2) (fun i hi hin=>?_)
  unfold In at hin ⊢
  rw [hext i hi] at hin
  simp at hin
  simp [eH,hin]
 ·exact (hR.bg k1 hR1 (by simp<;>omega)).bg k2 hR1 (by simp<;>omega)
theorem bM.I4 {R:Nat} (h:bM o w G g s m ev nv) {d:MD} {v:Value} (hn:oz o w (G.D 0) (g.Nt,g.M) (30+m.id) d v) (k:aj (only R) w w') (hR:o R=99):bM o w' G g s m ev nv/\oz o w' (G.D 0) (g.Nt,g.M) (30+m.id) d v:=by
 have i8:m.id<8:=ajf h.mF h.box8
 have k1:aj (In o [99]) w w':=k.xI hR rfl
 exact ⟨h.vJ k1 rfl (by simp<;>omega) (h.sh.bg k1 rfl h.box8) rfl rfl,hn.bg k1 rfl (by simp<;>omega)⟩
theorem acu (fn:Nat) (caps:Array Value):∀ w,(binOp .eql 88 (.func (.func fn) #[] caps) .nilFunc).run aA w = .ok (.bool false) w:=fun w=>by first|rfl|(simp [binOp,go_sem];done)|(simp [binOp,go_sem];rfl)
theorem aen:∀ w,(binOp .eql 88 .nilFunc .nilFunc).run aA w = .ok (.bool true) w:=fun w=>by first|rfl|(simp [binOp,go_sem];done)|(simp [binOp,go_sem];rfl)
end
end
section
open Go.RowKit
abbrev sQ (fn C:Nat):Value := .func (.func fn) #[aJ C] #[]
def dK (o:Ow) (w:World) (C:Nat):CD->Value->Prop
 | .nil,v=>v = .nilFunc
 | .dJ m t,v=>∃ tv,dK o w C t tv/\dW o w 166 [([aJ C],30),([ah (m:Int)],3),([tv],88)] v
 | .uY,v=>dW o w 81 [([aJ C],30)] v
 | .sW,v=>v=sQ 82 C
 | .trace,v=>v=sQ 122 C
 | .work,v=>v=sQ 208 C
 | .over,v=>v=sQ 260 C
 | .jV,v=>v=sQ 283 C
 | .fP,v=>v=sQ 284 C
 | .eX,v=>v=sQ 292 C
 | .jR,v=>v=sQ 297 C
 | .off,v=>dW o w 300 [([aJ C],30)] v
 | .jE,v=>v=sQ 301 C
 | .lC x t,v=>∃ tv,dK o w C t tv/\dW o w 244 [([aJ C],30),([ah (x:Int)],3),([tv],88)] v
 | .cell i,v=>dW o w 209 [([aJ C],30),([ah (i:Int)],3)] v
 | .iD a t,v=>∃ tv,dK o w C t tv/\dW o w 256 [([aJ C],30),([ah (a:Int)],3),([tv],88)] v
 | .field a i n t,v=>∃ tv,dK o w C t tv/\dW o w 271 [([aJ C],30),([ah (a:Int)],3),([ah (i:Int)],3),([ah (n:Int)],3),([tv],88)] v
 | .box m,v=>dW o w 258 [([aJ C],30),([ah (m:Int)],3)] v
 | .iy b,v=>dW o w 285 [([aJ C],30),([ah (b:Int)],3)] v
 | .bH l t,v=>∃ tv lv,dK o w C t tv/\dH o w 3 lv (aS l)/\dW o w 290 [([aJ C],30),([lv],32),([tv],88)] v
 | .ig t,v=>∃ tv,dK o w C t tv/\dW o w 295 [([aJ C],30),([tv],88)] v
 | .iJ b,v=>dW o w 293 [([aJ C],30),([ah (b:Int)],3)] v
 | .block _,_=>False
def jW (o:Ow) (w:World) (D0 C jw:Nat):CD->Value->Prop
 | .block sl,v=>∃ cv,lF o w D0 40 cv sl jw/\dW o w 302 [([cv],260),([aJ C],30)] v
 | d,v=>dK o w C d v
theorem jW.of {o:Ow} {w:World} {D0 C jw:Nat} {d:CD} {v:Value} (h:dK o w C d v):jW o w D0 C jw d v:=by
 cases d<;>first|exact h|exact h.elim
section
variable {o o':Ow} {w w':World} {C:Nat}
theorem dK.aK {S:Nat->Prop} (k:aj S w w') (h0:∀ b,o b=0->¬ S b):∀ {d:CD} {v:Value},dK o w C d v->dK o w' C d v:=by
 intro d
 induction d with
 | dJ m t ih=>intro v h;obtain ⟨tv,h1,h2⟩:=h;exact ⟨tv,ih h1,h2.aK k h0⟩
 | uY=>intro v h;exact dW.aK h k h0
 | off=>intro v h;exact dW.aK h k h0
 | lC x t ih=>intro v h;obtain ⟨tv,h1,h2⟩:=h;exact ⟨tv,ih h1,h2.aK k h0⟩
 | cell i=>intro v h;exact dW.aK h k h0
 | iD a t ih=>intro v h;obtain ⟨tv,h1,h2⟩:=h;exact ⟨tv,ih h1,h2.aK k h0⟩
 | field a i n t ih=>intro v h;obtain ⟨tv,h1,h2⟩:=h;exact ⟨tv,ih h1,h2.aK k h0⟩
 | box m=>intro v h;exact dW.aK h k h0
 | iy b=>intro v h;exact dW.aK h k h0
 | iJ b=>intro v h;exact dW.aK h k h0
 | bH l t ih=>intro v h;obtain ⟨tv,lv,h1,h2,h3⟩:=h;exact ⟨tv,lv,ih h1,h2.aK k h0,h3.aK k h0⟩
 | ig t ih=>intro v h;obtain ⟨tv,h1,h2⟩:=h;exact ⟨tv,ih h1,h2.aK k h0⟩
 | _=>intro v h;exact h
theorem dK.bg {I:List Nat} {d:CD} {v:Value} (h:dK o w C d v) (k:aj (In o I) w w') (h0:I.contains 0=false):dK o w' C d v:=dK.aK k (fun _b hb=>dR hb h0) h
theorem dK.still {d:CD} {v:Value} (h:dK o w C d v) (k:aj aB w w'):dK o w' C d v:=dK.aK k (fun _ _ f=>f) h
theorem dK.ext (e:bZ w o o'):∀ {d:CD} {v:Value},dK o w C d v->dK o' w C d v:=by
 intro d
 induction d with
 | dJ m t ih=>intro v h;obtain ⟨tv,h1,h2⟩:=h;exact ⟨tv,ih h1,h2.ext e⟩
 | uY=>intro v h;exact dW.ext h e
 | off=>intro v h;exact dW.ext h e
 | lC x t ih=>intro v h;obtain ⟨tv,h1,h2⟩:=h;exact ⟨tv,ih h1,h2.ext e⟩
 | cell i=>intro v h;exact dW.ext h e
 | iD a t ih=>intro v h;obtain ⟨tv,h1,h2⟩:=h;exact ⟨tv,ih h1,h2.ext e⟩
 | field a i n t ih=>intro v h;obtain ⟨tv,h1,h2⟩:=h;exact ⟨tv,ih h1,h2.ext e⟩
 | box m=>intro v h;exact dW.ext h e
 | iy b=>intro v h;exact dW.ext h e
 | iJ b=>intro v h;exact dW.ext h e
 | bH l t ih=>intro v h;obtain ⟨tv,lv,h1,h2,h3⟩:=h;exact ⟨tv,lv,ih h1,h2.ext e,h3.ext e⟩
 | ig t ih=>intro v h;obtain ⟨tv,h1,h2⟩:=h;exact ⟨tv,ih h1,h2.ext e⟩
 | _=>intro v h;exact h
theorem dK.form {d:CD} {v:Value} (h:dK o w C d v):(uo d=true/\v = .nilFunc)\/(uo d=false/\∃ fn first caps,v = .func (.func fn) first caps):=by
 cases d with
 | nil=>exact .inl ⟨rfl,h⟩
 | dJ m t=>obtain ⟨tv,_,bs,rfl,_⟩:=h;exact .inr ⟨rfl,_,_,_,rfl⟩
 | uY=>obtain ⟨bs,rfl,_⟩:=h;exact .inr ⟨rfl,_,_,_,rfl⟩
 | off=>obtain ⟨bs,rfl,_⟩:=h;exact .inr ⟨rfl,_,_,_,rfl⟩
 | lC x t=>obtain ⟨tv,_,bs,rfl,_⟩:=h;exact .inr ⟨rfl,_,_,_,rfl⟩
 | cell i=>obtain ⟨bs,rfl,_⟩:=h;exact .inr ⟨rfl,_,_,_,rfl⟩
 | iD a t=>obtain ⟨tv,_,bs,rfl,_⟩:=h;exact .inr ⟨rfl,_,_,_,rfl⟩
 | field a i n t=>obtain ⟨tv,_,bs,rfl,_⟩:=h;exact .inr ⟨rfl,_,_,_,rfl⟩
 | box m=>obtain ⟨bs,rfl,_⟩:=h;exact .inr ⟨rfl,_,_,_,rfl⟩
 | iy b=>obtain ⟨bs,rfl,_⟩:=h;exact .inr ⟨rfl,_,_,_,rfl⟩
 | bH l t=>obtain ⟨tv,lv,_,_,bs,rfl,_⟩:=h;exact .inr ⟨rfl,_,_,_,rfl⟩
 | ig t=>obtain ⟨tv,_,bs,rfl,_⟩:=h;exact .inr ⟨rfl,_,_,_,rfl⟩
 | iJ b=>obtain ⟨bs,rfl,_⟩:=h;exact .inr ⟨rfl,_,_,_,rfl⟩
 | block sl=>exact h.elim
 | _=>exact .inr ⟨rfl,_,_,_,h⟩
theorem jW.bg {D0 jw:Nat} {d:CD} {v:Value} {I:List Nat} (h:jW o w D0 C jw d v) (k:aj (In o I) w w') (h0:I.contains 0=false) (h5:I.contains 40=false):jW o w' D0 C jw d v:=by
 cases d with
 | block sl =>
   obtain ⟨cv,h1,h2⟩:=h
   exact ⟨cv,h1.bg k h0 h5,h2.aK k (fun b hb=>dR hb h0)⟩
 | _=>exact jW.of (dK.bg (o:=o) (C:=C) h k h0)
theorem jW.still {D0 jw:Nat} {d:CD} {v:Value} (h:jW o w D0 C jw d v) (k:aj aB w w'):jW o w' D0 C jw d v:=h.bg (I:=[]) k.bV rfl rfl
theorem jW.ext {D0 jw:Nat} {d:CD} {v:Value} (h:jW o w D0 C jw d v) (e:bZ w o o'):jW o' w D0 C jw d v:=by
 cases d with
 | block sl =>
   obtain ⟨cv,h1,h2⟩:=h
   exact ⟨cv,h1.ext e,h2.ext e⟩
 | _=>exact jW.of (dK.ext (o:=o) (C:=C) e h)
theorem jW.form {D0 jw:Nat} {d:CD} {v:Value} (h:jW o w D0 C jw d v):(uo d=true/\v = .nilFunc)\/(uo d=false/\∃ fn first caps,v = .func (.func fn) first caps):=by
 cases d with
 | block sl=>obtain ⟨cv,_,bs,rfl,_⟩:=h;exact .inr ⟨rfl,_,_,_,rfl⟩
 | _=>exact dK.form (o:=o) (w:=w) (C:=C) h
end
structure CG where
 C:Nat
 K:Nat
def nJ (G:fU) (q:CG) (c:CS) (ev:Option Ev) (nv:Value):List Value :=
 [aJ G.S,ah (c.aG:Int),ah (c.dU:Int),ah (c.cells:Int),ah (c.phase:Int),ah (c.aP:Int),ah (c.cu:Int),.bool c.jM,.bool c.dP,aJ q.K,nv,ah (c.je:Int),ah (c.kK:Int)]++EL ev
def jS (o:Ow) (w:World) (K room:Nat) (over:Bool) (l:List Nat):Prop :=
 ∃ v,aF w K [v,ah (room:Int),.bool over] 135/\w.ownsRow 0 3 1 v l.length (aS l)/\∀ b,v.ownBlock=some b->o b=5
structure bU (o:Ow) (w:World) (G:fU) (q:CG) (s:Sh) (c:CS) (ev:Option Ev) (nv:Value):Prop where
 sh:fH o w G s
 aH:aF w q.C (nJ G q c ev nv) 90
 oC:o q.C=5
 bD:jS o w q.K c.room c.over c.bD
 oK:o q.K=5
 box8:s.aV.length<=8
def dD:List Nat:=[1,2,3,4,5,10,11,12,13,14,15,16,17,40]
section
variable {o o':Ow} {w w':World} {G:fU} {q:CG} {s:Sh} {c:CS} {ev:Option Ev} {nv:Value}
theorem jS.bg {K room:Nat} {over:Bool} {l:List Nat} {I:List Nat} (h:jS o w K room over l) (hK:o K=5) (k:aj (In o I) w w') (hI:I.contains 5=false):jS o w' K room over l:=by
 obtain ⟨v,h1,h2,h3⟩:=h
 exact ⟨v,h1.bg k hK hI,gK h2 k (fun b hb=>dR (h3 b hb) hI),h3⟩
theorem jS.ext {K room:Nat} {over:Bool} {l:List Nat} (h:jS o w K room over l) (e:bZ w o o'):jS o' w K room over l:=by
 obtain ⟨v,h1,h2,h3⟩:=h
 refine ⟨v,h1,h2,fun b hb=>?_⟩
 obtain ⟨cur,hc⟩:=nG h2 hb
 exact (e b (lt_of_block hc)).trans (h3 b hb)
theorem bU.vJ {s':Sh} {I:List Nat} (h:bU o w G q s c ev nv) (k:aj (In o I) w w') (h5:I.contains 5=false) (hs:fH o w' G s') (hl:s'.aV.length=s.aV.length):bU o w' G q s' c ev nv :=
 ⟨hs,h.aH.bg k h.oC h5,h.oC,h.bD.bg h.oK k h5,h.oK,by rw [hl];exact h.box8⟩
theorem bU.still (h:bU o w G q s c ev nv) (k:aj aB w w'):bU o w' G q s c ev nv:=by
 have k0:aj (In o []) w w':=k.bV
 exact h.vJ k0 rfl (h.sh.bg k0 rfl h.box8) rfl
theorem bU.DJ (h:bU o w G q s c ev nv) (k:aj aB w w') (e:bZ w o o') (hf:kJ o' w'):bU o' w' G q s c ev nv:=by
 obtain ⟨v,hs1,_⟩:=id h.bD
 have e1:=(e _ h.aH.lt).trans h.oC
 have e2:=(e _ hs1.lt).trans h.oK
 have k0:aj (In o' []) w w':=k.bV
 exact ⟨h.sh.move (I:=[]) k.bV rfl h.box8 e hf,h.aH.bg k0 e1 rfl,e1,(h.bD.ext e).bg e2 k0 rfl,e2,h.box8⟩
theorem bU.Sz (h:bU o w G q s c ev nv):q.C≠q.K/\∀ v xs n,w.ownsRow 0 3 1 v n xs->v.ownBlock≠some q.C/\v.ownBlock≠some q.K:=by
 obtain ⟨v,hs1,_⟩:=id h.bD
 refine ⟨fun e=>?_,fun v xs n hr=>⟨nC h.aH hr (by decide),nC hs1 hr (by decide)⟩⟩
 have h1:=h.aH
 rw [e] at h1
 exact absurd (h1.jL hs1).2 (by decide)
theorem sh5 (h:fH o w G s) (k:aj (In o [5]) w w') (_h8:s.aV.length<=8):fH o w' G s :=
 h.iZ k rfl (h.zU k rfl rfl) (h.rH.aK k (dR h.oB rfl)) (h.sJ.bg k rfl h.oQ rfl) (h.dw.bg k h.oF rfl) rfl (h.JU k rfl (fun i hi=>by simp<;>omega))
theorem bU.struct (h:bU o w G q s c ev nv) (kC:aj (only q.C) w w') (c':CS) (ev':Option Ev) (nY:Value) (hc:aF w q.C (nJ G q c ev nv) 90->aF w' q.C (nJ G q c' ev' nY) 90)
 (e:c'.room=c.room/\c'.over=c.over/\c'.bD=c.bD):bU o w' G q s c' ev' nY/\aj (In o [5]) w w':=by
 have k:aj (In o [5]) w w':=kC.xI h.oC rfl
 obtain ⟨v,h1,h2,h3⟩:=id h.bD
 have ne:=h.Sz
 refine ⟨⟨sh5 h.sh k h.box8,hc h.aH,h.oC,?_,h.oK,h.box8⟩,k⟩
 rw [e.1,e.2.1,e.2.2]
 exact ⟨v,kC.aH h1 (fun e=>ne.1 e.symm),gK h2 kC (fun b hb e=>(ne.2 _ _ _ h2).1 (by rw [hb];exact congrArg some e)),h3⟩
theorem bU.put (h:bU o w G q s c ev nv) (i:Nat) (u:Value) (c':CS) (ev':Option Ev) (nY:Value) (hc:(nJ G q c ev nv).set i u=nJ G q c' ev' nY)
 (e:c'.room=c.room/\c'.over=c.over/\c'.bD=c.bD):bU o (w.setCell ⟨q.C,i,none⟩ u) G q s c' ev' nY/\aj (In o [5]) w (w.setCell ⟨q.C,i,none⟩ u) :=
 h.struct ((aj.refl _ _).put i u) c' ev' nY (fun hb=>by
  have:=hb.set i u
  rwa [hc] at this) e
theorem bU.aad (h:bU o w G q s c ev nv) {l:List Nat} {ov:Bool} (hs:jS o w' q.K c.room ov l) (k:aj (fun b=>b=q.K\/∃ v,w.cell? ⟨q.K,0,none⟩=some v/\v.ownBlock=some b) w w'):bU o w' G q s { c with bD:=l,over:=ov } ev nv/\aj (In o [5]) w w':=by
 obtain ⟨v,h1,h2,h3⟩:=id h.bD
 have ne:=h.Sz
 have hv:=h1.cell 0 (v:=v) rfl
 have k5:aj (In o [5]) w w':=k.mono (fun b _ hb=>by
  unfold In
  rcases hb with rfl|⟨u,hu,hb⟩
  ·rw [h.oK];simp
  ·rw [hv] at hu;cases hu
   rw [h3 b hb];simp)
 refine ⟨⟨sh5 h.sh k5 h.box8,?_,h.oC,hs,h.oK,h.box8⟩,k5⟩
 exact k.aH h.aH (fun hb=>by
  rcases hb with e|⟨u,hu,hb⟩
  ·exact ne.1 e
  ·rw [hv] at hu;cases hu
   exact (ne.2 _ _ _ h2).1 hb)
theorem fH.ahp {I:List Nat} (h:fH o w G s) (k:aj (In o I) w w') (hge:∀ i,i<5\/(10<=i/\i<18)->I.contains i=false) (h8:s.aV.length<=8) (e:bZ w o o') (hf:kJ o' w'):fH o' w' G s:=by
 have k':=k.yF e
 obtain ⟨v,hs1,hs2⟩:=h.sh
 have hg:=h.heap.Ll
 have ZR:(o' G.Q:Nat)=3:=by
  obtain ⟨ho,hl,vs,hv,hb,hr⟩:=h.sJ
  exact (e _ hb.lt).trans h.oQ
 refine ⟨hf,⟨v,hs1.bg k h.oS (hge 0 (by decide)),(hs2.ext e).bg k' (hge 0 (by decide))⟩,(e _ hs1.lt).trans h.oS,h.zU k (hge 0 (by decide)) (hge 1 (by decide)),fun i hi=>(e _ (h.heap.Lj i hi)).trans (h.oD i hi),⟨(e _ hg.1).trans h.xu.1,(e _ hg.2.1).trans h.xu.2.1,(e _ hg.2.2).trans h.xu.2.2⟩,
  h.rH.aK k (dR h.oB (hge 2 (by decide))),(e _ h.rH.aH.lt).trans h.oB,(h.sJ.yF e).bg k' (hge 0 (by decide)) ZR (hge 3 (by decide)),ZR,h.dw.bg k h.oF (hge 4 (by decide)),(e _ h.dw.lt).trans h.oF,fun i l hi=>?_⟩
 obtain ⟨h1,h2⟩:=h.box i l hi
 obtain ⟨_,v',hb,_,_⟩:=id h1
 have h3:o' (G.bx i)=10+i:=(e _ hb.lt).trans h2
 exact ⟨(h1.ext e).bg k' (hge 0 (by decide)) h3 (hge _ (by have:=(List.getElem?_eq_some_iff.1 hi).1;omega)),h3⟩
theorem bU.Wq (h:bU o w G q s c ev nv) {l:List Nat} {ov:Bool} (hs:jS o' w' q.K c.room ov l) (k:aj (fun b=>b=q.K\/∃ v,w.cell? ⟨q.K,0,none⟩=some v/\v.ownBlock=some b) w w') (e:bZ w o o') (hf:kJ o' w'):bU o' w' G q s { c with bD:=l,over:=ov } ev nv/\aj (In o [5]) w w':=by
 obtain ⟨v,h1,h2,h3⟩:=id h.bD
 have ne:=h.Sz
 have hv:=h1.cell 0 (v:=v) rfl
 have k5:aj (In o [5]) w w':=k.mono (fun b _ hb=>by
  unfold In
  rcases hb with rfl|⟨u,hu,hb⟩
  ·rw [h.oK];simp
  ·rw [hv] at hu;cases hu
   rw [h3 b hb];simp)
 refine ⟨⟨h.sh.ahp k5 (fun i hi=>by simp<;>omega) h.box8 e hf,?_,(e _ h.aH.lt).trans h.oC,hs,(e _ h1.lt).trans h.oK,h.box8⟩,k5⟩
 exact k.aH h.aH (fun hb=>by
  rcases hb with e|⟨u,hu,hb⟩
  ·exact ne.1 e
  ·rw [hv] at hu;cases hu
   exact (ne.2 _ _ _ h2).1 hb)
theorem bU.cell (h:bU o w G q s c ev nv) (i:Nat) (u:Value) (hu:(nJ G q c ev nv)[i]?=some u):w.cell? ⟨q.C,i,none⟩=some u:=h.aH.cell i hu
theorem bU.wQ {H:HS} (h:bU o w G q s c ev nv) (k:aj (HF G.D) w w') (hH:aI w' G.D H):bU o w' G q { s with H:=H } c ev nv/\aj (In o dD) w w':=by
 obtain ⟨h1,k1⟩:=h.sh.wQ k hH h.box8
 exact ⟨h.vJ k1 rfl h1 rfl,k1.oW (by decide)⟩
theorem bU.zG {B:Bd} (h:bU o w G q s c ev nv) (k:aj (only G.B) w w') (hB:kH w' G.B B):bU o w' G q { s with B:=B } c ev nv/\aj (In o dD) w w':=by
 obtain ⟨h1,k1⟩:=h.sh.zG k hB
 exact ⟨h.vJ k1 rfl h1 rfl,k1.oW (by decide)⟩
theorem bU.CQ {Q:Qu} (h:bU o w G q s c ev nv) (k:aj (only G.Q) w w') (hQ:jB o w' G.Q Q):bU o w' G q { s with Q:=Q } c ev nv/\aj (In o dD) w w':=by
 obtain ⟨h1,k1⟩:=h.sh.CQ k hQ
 exact ⟨h.vJ k1 rfl h1 rfl,k1.oW (by decide)⟩
theorem bU.IX {f:Bool} (h:bU o w G q s c ev nv) (k:aj (only G.Fl) w w') (hF:aF w' G.Fl [.bool f] 121):bU o w' G q { s with dw:=f } c ev nv/\aj (In o dD) w w':=by
 obtain ⟨h1,k1⟩:=h.sh.IX k hF
 exact ⟨h.vJ k1 rfl h1 rfl,k1.oW (by decide)⟩
theorem bU.Si {j:Nat} {l:List Nat} (h:bU o w G q s c ev nv) (hj:j<s.aV.length) (k:aj (only (G.bx j)) w w') (hX:iE o w' (G.bx j) 176 [] l):bU o w' G q { s with aV:=s.aV.set j l } c ev nv/\aj (In o dD) w w':=by
 obtain ⟨h1,k1⟩:=h.sh.Si hj k hX h.box8
 have h8:=h.box8
 have e:([10+j]:List Nat).all (fun i=>dD.contains i)=true:=by
  rcases (by omega:j=0\/j=1\/j=2\/j=3\/j=4\/j=5\/j=6\/j=7) with rfl|rfl|rfl|rfl|rfl|rfl|rfl|rfl<;>decide
 exact ⟨h.vJ k1 (by simp<;>omega) h1 (by simp),k1.oW e⟩
theorem yh (k:aj (In o [5]) w w'):aj (In o dD) w w':=k.oW (by decide)
def iM (o:Ow) (w:World) (G:fU) (q:CG) (nv0:Value) (r:pO) (e:Ending) (w':World):Prop :=
 ∃ o' nv,e = .returned nv/\bZ w o o'/\bU o' w' G q r.s r.c r.ev nv0/\jW o' w' (G.D 0) q.C r.c.aP r.next nv/\aj (In o dD) w w'
theorem iM.same {r:pO} {nv nv0:Value} (h:bU o w' G q r.s r.c r.ev nv0) (hc:dK o w' q.C r.next nv) (k:aj (In o dD) w w'):iM o w G q nv0 r (.returned nv) w':=⟨o,nv,rfl,bZ.refl _ _,h,jW.of hc,k⟩
theorem iM.after {r:pO} {e:Ending} {w1 w2:World} {nv0:Value} (k:aj (In o dD) w w1) (h:iM o w1 G q nv0 r e w2):iM o w G q nv0 r e w2:=by
 obtain ⟨o',nv,e1,e2,h1,h2,k2⟩:=h
 exact ⟨o',nv,e1,fun b hb=>e2 b (ajf hb k.size),h1,h2,k.trans k2⟩
end
end
end Go.Proofs.YtanfphjoebobaaaGreatDoor
