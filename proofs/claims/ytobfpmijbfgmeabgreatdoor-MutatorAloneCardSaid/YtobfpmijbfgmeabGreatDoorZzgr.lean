/- Parts of the walk. No conditions. -/
import Derived.Test.YtobfpmijbfgmeabGreatDoorZzgq
namespace Go.Proofs.YtobfpmijbfgmeabGreatDoor
open _root_.Go.Proofs.Tryz hiding prog
open _root_.Go.Proofs.Tryz renaming prog->ay
set_option maxRecDepth 100000
set_option maxHeartbeats 4000000
section
attribute [local go_sem] Oper.semAt_some
open Go.RowKit
section
variable {o:Ow} {w w':World} {G:eH} {g:MG} {s:Sh} {m:MS} {nv:Value}
theorem Oh (h:aQ o w G g s m none nv) (op:bQ) (he:dG m.c op≠0) (hres:m.aU.length<=1000000000):Calls ay 69 #[ak g.M,.agg op.cells.toArray] w (aG o w G g nv m.id (iq s m (dG m.c op) 0)):=by
 obtain ⟨W1,hW1⟩:∃ W1,W1=w.alloc (.cells op.cells.toArray 45):=⟨_,rfl⟩
 have k1:aj aA w W1:=by rw [hW1];exact (aj.refl _ _).alloc _
 have hb1:aB W1 w.heap.size op.cells 45:=by rw [hW1];exact aB.aW w _ _
 have h1:=h.still k1
 have kd:aj aA W1 W1.drew:=(aj.refl aA W1).drew
 have HC:Hid (Calls ay 105 #[.agg m.c.cells.toArray,.agg op.cells.toArray] W1.drew fun e w'=>e = .returned (ah (dG m.c op))/\Hid (Calls ay 106 #[ak g.M,ah (dG m.c op),ah 0] w' (fun e w'=>e = .returned .nilFunc/\aG o w G g nv m.id (iq s m (dG m.c op) 0) e w'))):=by
  refine (EI m.c op W1.drew ((h.sh.heap.lW.aH k1).aH kd)).mono ?_
  rintro e w' ⟨rfl,k2⟩
  have k3:=k1.trans (kd.trans k2)
  refine ⟨rfl,?_⟩
  refine (nY (h.still k3) (dG m.c op) 0 hres).mono ?_
  rintro e w' ⟨rfl,hp⟩
  exact ⟨rfl,hp.after k3.bU⟩
 have d0:(dG m.c op==0)=false:=by simpa using he
 generalize iq s m (dG m.c op) 0=R at *
 generalize dG m.c op=x at *
 rcases hcc:m.c with ⟨c0,c1,c2,c3,c4,c5,c6⟩
 rw [hcc] at HC
 obtain ⟨m1,m2,m3,m4,m5,m6,m7⟩:=h1.U1 c0 c1 c2 c3 c4 c5 c6 hcc
 obtain ⟨ok,oa,ob,oc⟩:=op
 simp only [bQ.cells,aS.cells] at *
 have y0:=hb1.cell 0 rfl
 have y1:=hb1.cell 1 rfl
 have y2:=hb1.cell 2 rfl
 have y3:=hb1.cell 3 rfl
 have HW1:=au hW1
 generalize m.id=mi at *
 clear h h1 hW1 he kd k1 hb1 hres
 go_enter func69,ntmps69
 go_wp2_with fail
 rw [<- HW1.out]
 refine aN 5 rfl (by kernel_rfl) (by kernel_rfl) (fun K hK=>?_)
 change wpStill _ _ (World.drew _) _ _ _
 simp only [List.take_succ_cons,List.take_zero,List.drop_succ_cons,List.drop_zero] at hK ⊢
 repeat still_step
 refine wpStill_nil ?_
 change ite _ (Oper.wp _ _ _ _ _ _) _
 go_simp
 refine HC.out.mono ?_
 rintro e w2 ⟨rfl,hp⟩
 refine hK _ _ ?_
 clear hK K
 clear HC y0 y1 y2 y3 m1 m2 m3 m4 m5 m6 m7
 repeat still_step
 refine wpStill_nil ?_
 go_wp2_with fail
 refine hp.out.mono ?_
 rintro e w3 ⟨rfl,hp2⟩
 have HP:=au hp2
 clear hp2 hp
 go_wp2_with fail
 go_ret
 exact HP.out
theorem Kq (h:aQ o w G g s m none nv) (op:bQ) (hres:m.aU.length<=1000000000):Calls ay 69 #[ak g.M,.agg op.cells.toArray] w (aG o w G g nv m.id (nT s m op)):=by
 have hrl:=h.pK
 by_cases he:dG m.c op=0
 case neg =>
  have e1:nT s m op=iq s m (dG m.c op) 0:=by unfold nT;rw [aV he]
  rw [e1]
  exact Oh h op he hres
 have e0:∀ r,nT s m op=r↔(if op.k=1 then (⟨s,m,.alloc op (iG op.b),none⟩:lZ)
  else if op.k=2 then jA s m (m.fP op.b) op.c (.load op (m.fP op.b))
  else if op.k=3 then jA s m (m.fP op.a) op.b (m.ni (m.fP op.c) (.field (m.fP op.a) op.b (m.fP op.c)))
  else if op.k=4 then ⟨s,m,.get op,none⟩
  else if op.k=5 then ⟨s,m,m.ni (m.fP op.b) (.cell op.a (m.fP op.b)),none⟩
  else if op.k=6 then iq s { m with aI:=m.aI.set op.a.toNat 0 } 0 0
  else if op.k=7 then jU s m op.a (m.fP op.b)
  else iq s m 0 0)=r:=fun r=>by unfold nT;rw [aO (by simpa using he)]
 rcases jE he with ⟨hk,ha,hb⟩|⟨hk,ha,hb⟩|⟨hk,ha,hb⟩|⟨hk,ha,hb⟩|⟨hk,ha,hb⟩|⟨hk,ha⟩|⟨hk,ha,hb⟩|hk
 ·rw [(e0 _).2 (by rw [aV hk])]
  exact nZ h op he 135 (by rw [hk];rfl) (fun args w=>by simp [callFunc,func135,go_sem];rfl) _ (fun W k=>by
   have h9:=J9 (h.still k) op hb.1 (by omega)
   exact h9)
 ·rw [(e0 _).2 (by rw [aO (by omega),aV hk])]
  exact nZ h op he 136 (by rw [hk];rfl) (fun args w=>by simp [callFunc,func136,go_sem];rfl) _ (fun W k=>by
   have h9:=Ob (h.still k) op hb.1 (by omega) hres
   exact h9)
 ·rw [(e0 _).2 (by rw [aO (by omega),aO (by omega),aV hk])]
  exact nZ h op he 137 (by rw [hk];rfl) (fun args w=>by simp [callFunc,func137,go_sem];rfl) _ (fun W k=>by
   have h9:=Ko (h.still k) op ha.1 (by omega) hb.1 (by omega) hres
   exact h9)
 ·rw [(e0 _).2 (by rw [aO (by omega),aO (by omega),aO (by omega),aV hk])]
  exact nZ h op he 138 (by rw [hk];rfl) (fun args w=>by simp [callFunc,func138,go_sem];rfl) _ (fun W k=>by
   have h9:=Qr (h.still k) op
   exact h9)
 ·rw [(e0 _).2 (by rw [aO (by omega),aO (by omega),aO (by omega),aO (by omega),aV hk])]
  exact nZ h op he 139 (by rw [hk];rfl) (fun args w=>by simp [callFunc,func139,go_sem];rfl) _ (fun W k=>by
   have h9:=Qs (h.still k) op hb.1 (by omega)
   exact h9)
 ·rw [(e0 _).2 (by rw [aO (by omega),aO (by omega),aO (by omega),aO (by omega),aO (by omega),aV hk])]
  exact nZ h op he 140 (by rw [hk];rfl) (fun args w=>by simp [callFunc,func140,go_sem];rfl) _ (fun W k=>by
   have h9:=NW (h.still k) op ha.1 (by omega) hres
   refine h9.mono (fun e w' hp=>?_)
   obtain ⟨rfl,hp⟩:=hp
   exact hp)
 ·rw [(e0 _).2 (by rw [aO (by omega),aO (by omega),aO (by omega),aO (by omega),aO (by omega),aO (by omega),aV hk])]
  exact nZ h op he 141 (by rw [hk];rfl) (fun args w=>by simp [callFunc,func141,go_sem];rfl) _ (fun W k=>by
   have h9:=NY (h.still k) op ha.1 (by omega) hb.1 (by omega) hres
   refine h9.mono (fun e w' hp=>?_)
   obtain ⟨rfl,hp⟩:=hp
   exact hp)
 ·rw [(e0 _).2 (by rw [aO (by omega),aO (by omega),aO (by omega),aO (by omega),aO (by omega),aO (by omega),aO (by omega)])]
  exact nZ h op he 142 (by rw [hk];rfl) (fun args w=>by simp [callFunc,func142,go_sem];rfl) _ (fun W k=>by
   have h9:=NV (h.still k) op hres
   refine h9.mono (fun e w' hp=>?_)
   obtain ⟨rfl,hp⟩:=hp
   exact hp)
theorem Oi (h:aQ o w G g s m none nv) (op:bQ) (v:Value) (hv:bG o w g.Nt g.M (.gZ op) v) (hpost:Calls ay 69 #[ak g.M,.agg op.cells.toArray] w (aG o w G g nv m.id (nT s m op))):∃ bs:List Nat,v = .func (.func 68) #[] (bs.map aF).toArray/\Calls ay 68 (bs.map aF).toArray w (aG o w G g nv m.id (stepM s m (.gZ op))):=by
 obtain ⟨bs,hbs,hcap⟩:=hv
 refine ⟨bs,hbs,?_⟩
 obtain ⟨b0,b1,rfl,⟨o0,k0⟩,⟨o1,k1⟩⟩:=caps2 hcap
 have HC:Hid (Calls ay 69 #[ak g.M,.agg op.cells.toArray] w fun e w'=>∃ iP,e = .returned iP/\(iP = .nilFunc\/∃ (fn:Nat) (caps:Array Value),iP = .func (.func fn) #[] caps)/\aG o w G g nv m.id (stepM s m (.gZ op)) (.returned iP) w'):=by
  refine hpost.mono ?_
  intro e w' hp
  obtain ⟨o',iP,rfl,e2,h1,hn,kk⟩:=id hp
  exact ⟨iP,rfl,hn.form,hp⟩
 obtain ⟨ok,oa,ob,oc⟩:=op
 have c0:w.cell? ⟨b0,0,none⟩=some (ak g.M):=k0.cell 0 rfl
 have p0:=k1.cell 0 rfl;have p1:=k1.cell 1 rfl;have p2:=k1.cell 2 rfl;have p3:=k1.cell 3 rfl
 show Calls ay 68 #[ak b0,ak b1] w _
 simp only [bQ.cells] at HC
 generalize stepM s m (.gZ ⟨ok,oa,ob,oc⟩)=R at *
 generalize m.id=mi at *
 clear h hcap hbs k0 k1 o0 o1
 go_enter func68,ntmps68
 go_wp2_with fail
 refine HC.out.mono ?_
 rintro e w2 ⟨iP,rfl,hf,hp⟩
 have HP:=au hp
 clear hp c0 p0 p1 p2 p3
 rcases hf with rfl|⟨fn,caps,rfl⟩
 all_goals
  go_wp2_with fail
  go_ret
  exact HP.out
theorem Kr (h:aQ o w G g s m none nv) (op:bQ) (v:Value) (hv:bG o w g.Nt g.M (.gZ op) v) (hres:m.aU.length<=1000000000):∃ bs:List Nat,v = .func (.func 68) #[] (bs.map aF).toArray/\Calls ay 68 (bs.map aF).toArray w (aG o w G g nv m.id (stepM s m (.gZ op))) :=
 Oi h op v hv (Kq h op hres)
end
section
variable {o:Ow} {w w':World} {G:eH} {g:MG} {s:Sh} {m:MS} {nv:Value}
def xU (o:Ow) (w:World) (G:eH) (g:MG) (s:Sh) (i:Nat) (m':MS) (nv v:Value):Prop :=
 ∃ fn caps,v = .func (.func fn) #[] caps/\(∀ args w,(callFunc fn args).run ay w = .ok (.enter fn args) w)/\Calls ay fn caps w fun e w'=>e = .returned (.tuple #[])/\aQ o w' G g s m' none nv/\aj (In o (aT i)) w w'
theorem Ti (h:aQ o w G g s m none nv) (v:Value) (hv:dH o w 98 [] v):xU o w G g s m.id m nv v:=by
 obtain ⟨bs,rfl,hcap⟩:=hv
 have:bs=[]:=hcap
 subst this
 refine ⟨_,_,rfl,fun args w=>(by simp [callFunc,func98,go_sem];rfl),?_⟩
 show Calls ay 98 #[] w _
 have H:=au h
 clear h hcap
 go_enter func98,ntmps98
 go_wp2_with fail
 go_end0
 exact ⟨rfl,H.out,aj.refl _ _⟩
theorem Tj (h:aQ o w G g s m none nv) (v:Value) (hv:dH o w 103 [([aF g.M],31)] v):xU o w G g s m.id (kY m 5) nv v:=by
 obtain ⟨bs,rfl,b0,r0,rfl,o0,k0,rfl⟩:=hv
 refine ⟨_,_,rfl,fun args w=>(by simp [callFunc,func103,go_sem];rfl),?_⟩
 show Calls ay 103 #[ak b0] w _
 have c0:w.cell? ⟨b0,0,none⟩=some (ak g.M):=k0.cell 0 rfl
 have c12:=h.c12
 have f12:=h.free 12
 obtain ⟨h1,kk⟩:=h.put 12 (ah 1) { m with gu:=1 } none nv (fun _ _=>rfl) ⟨rfl,rfl,rfl,rfl,rfl,rfl⟩
 have HE:Hid (aQ o (w.setCell ⟨g.M,12,none⟩ (ah 1)) G g s (kY m 5) none nv/\aj (In o (aT m.id)) w (w.setCell ⟨g.M,12,none⟩ (ah 1))):=⟨h1,kk.kX (by simp [aT])⟩
 generalize kY m 5=m' at *
 generalize m.id=mi at *
 clear h h1 kk k0
 go_enter func103,ntmps103
 go_wp2_with fail
 go_end0
 exact ⟨rfl,HE.out.1,HE.out.2⟩
theorem Tq (h:aQ o w G g s m none nv) (v:Value) (k:Int) (hk:k≠1/\k≠2/\k≠3/\k≠5) (hv:dH o w 104 [([aF g.M],31)] v):xU o w G g s m.id (kY m k) nv v:=by
 obtain ⟨bs,rfl,b0,r0,rfl,o0,k0,rfl⟩:=hv
 refine ⟨_,_,rfl,fun args w=>(by simp [callFunc,func104,go_sem];rfl),?_⟩
 show Calls ay 104 #[ak b0] w _
 have c0:w.cell? ⟨b0,0,none⟩=some (ak g.M):=k0.cell 0 rfl
 have m10:w.cell? ⟨g.M,10,none⟩=some (ak g.Bf):=h.cell 10 _ (fun _ _=>rfl)
 have e1:kY m k={ m with bJ:=[],gu:=0 }:=by unfold kY;rw [aO hk.1,aO hk.2.1,aO hk.2.2.1,aO hk.2.2.2]
 rw [e1]
 have HC:Hid (Calls ay 97 #[ak g.Bf] w fun e w'=>e = .returned (.tuple #[])/\w'.cell? ⟨b0,0,none⟩=some (ak g.M)/\w'.frozen? ⟨g.M,12,none⟩=false/\w'.cell? ⟨g.M,12,none⟩=some (ah (m.gu:Int))/\Hid (aQ o (w'.setCell ⟨g.M,12,none⟩ (ah 0)) G g s { m with bJ:=[],gu:=0 } none nv/\aj (In o (aT m.id)) w (w'.setCell ⟨g.M,12,none⟩ (ah 0)))):=by
  refine (wz h.bJ).mono ?_
  rintro e w' ⟨rfl,hb,kk⟩
  have hcl:=h.cl
  obtain ⟨h1,k1⟩:=h.CW kk hb (by simp;omega)
  obtain ⟨h2,k2⟩:=h1.put 12 (ah 0) { m with bJ:=[],gu:=0 } none nv (fun _ _=>rfl) ⟨rfl,rfl,rfl,rfl,rfl,rfl⟩
  exact ⟨rfl,(k0.aP k1 o0 (by simp<;>omega)).cell 0 rfl,h1.free 12,h1.c12,h2,(k1.trans k2).kX (by simp [aT])⟩
 generalize ({ m with bJ:=[],gu:=0 }:MS)=m' at *
 generalize m.gu=mo at *
 generalize m.id=mi at *
 clear h k0 e1 hk
 go_enter func104,ntmps104
 go_wp2_with fail
 refine HC.out.mono ?_
 rintro e w1 ⟨rfl,d0,d1,d2,hx⟩
 clear c0 m10 HC
 go_wp2_with fail
 go_end0
 exact ⟨rfl,hx.out.1,hx.out.2⟩
theorem Tt (h:aQ o w G g s m none nv) (v:Value) (hv:dH o w 99 [([aF g.M],31)] v):xU o w G g s m.id (kY m 3) nv v:=by
 obtain ⟨bs,rfl,b0,r0,rfl,o0,k0,rfl⟩:=hv
 refine ⟨_,_,rfl,fun args w=>(by simp [callFunc,func99,go_sem];rfl),?_⟩
 show Calls ay 99 #[ak b0] w _
 have c0:w.cell? ⟨b0,0,none⟩=some (ak g.M):=k0.cell 0 rfl
 have c14:=h.c14
 have c13:w.cell? ⟨g.M,13,none⟩=some (ah (m.bK:Int)):=h.cell 13 _ (fun _ _=>rfl)
 have f13:=h.free 13
 have hkd:aj aA w w.drew:=(aj.refl aA w).drew
 obtain ⟨h1,kk⟩:=(h.still hkd).put 13 (ah (m.dA:Int)) { m with bK:=m.dA } none nv (fun _ _=>rfl) ⟨rfl,rfl,rfl,rfl,rfl,rfl⟩
 have HE:Hid (aQ o (w.drew.setCell ⟨g.M,13,none⟩ (ah (m.dA:Int))) G g s (kY m 3) none nv/\aj (In o (aT m.id)) w (w.drew.setCell ⟨g.M,13,none⟩ (ah (m.dA:Int)))):=⟨h1,hkd.bU.trans (kk.kX (by simp [aT]))⟩
 generalize kY m 3=m' at *
 generalize m.dA=mw at *
 generalize m.bK=mc at *
 generalize m.id=mi at *
 clear h h1 kk k0 hkd
 go_enter func99,ntmps99
 go_wp2_with fail
 go_region
 go_wp2_with fail
 go_end0
 exact ⟨rfl,HE.out.1,HE.out.2⟩
theorem Tv (h:aQ o w G g s m none nv) (v:Value) (nC:m.bK<2) (hv:dH o w 96 [([aF g.M],31)] v):xU o w G g s m.id (kY m 1) nv v:=by
 obtain ⟨bs,rfl,b0,r0,rfl,o0,k0,rfl⟩:=hv
 refine ⟨_,_,rfl,fun args w=>(by simp [callFunc,func96,go_sem];rfl),?_⟩
 show Calls ay 96 #[ak b0] w _
 have c0:w.cell? ⟨b0,0,none⟩=some (ak g.M):=k0.cell 0 rfl
 have m10:w.cell? ⟨g.M,10,none⟩=some (ak g.Bf):=h.cell 10 _ (fun _ _=>rfl)
 have e1:kY m 1={ m with bJ:=[],gu:=2,dA:=1 - m.bK }:=rfl
 have hsub:((1 - m.bK:Nat):Int)=1 - (m.bK:Int):=by omega
 have HC:Hid (Calls ay 97 #[ak g.Bf] w fun e w'=>e = .returned (.tuple #[])/\w'.cell? ⟨b0,0,none⟩=some (ak g.M)/\w'.frozen? ⟨g.M,12,none⟩=false/\w'.frozen? ⟨g.M,14,none⟩=false/\w'.cell? ⟨g.M,12,none⟩=some (ah (m.gu:Int))/\w'.cell? ⟨g.M,13,none⟩=some (ah (m.bK:Int))/\w'.cell? ⟨g.M,14,none⟩=some (ah (m.dA:Int))/\Hid (aQ o ((w'.setCell ⟨g.M,12,none⟩ (ah 2)).setCell ⟨g.M,14,none⟩ (ah (1 - (m.bK:Int)))).drew G g s (kY m 1) none nv/\aj (In o (aT m.id)) w ((w'.setCell ⟨g.M,12,none⟩ (ah 2)).setCell ⟨g.M,14,none⟩ (ah (1 - (m.bK:Int)))).drew)):=by
  refine (wz h.bJ).mono ?_
  rintro e w' ⟨rfl,hb,kk⟩
  have hcl:=h.cl
  obtain ⟨h1,k1⟩:=h.CW kk hb (by simp;omega)
  obtain ⟨h2,k2⟩:=h1.put 12 (ah 2) { m with bJ:=[],gu:=2 } none nv (fun _ _=>rfl) ⟨rfl,rfl,rfl,rfl,rfl,rfl⟩
  obtain ⟨h3,k3⟩:=h2.put 14 (ah ((1 - m.bK:Nat):Int)) { m with bJ:=[],gu:=2,dA:=1 - m.bK } none nv (fun _ _=>rfl) ⟨rfl,rfl,rfl,rfl,rfl,rfl⟩
  rw [hsub] at h3 k3
  have hkd:aj aA ((w'.setCell ⟨g.M,12,none⟩ (ah 2)).setCell ⟨g.M,14,none⟩ (ah (1 - (m.bK:Int)))) ((w'.setCell ⟨g.M,12,none⟩ (ah 2)).setCell ⟨g.M,14,none⟩ (ah (1 - (m.bK:Int)))).drew:=(aj.refl aA _).drew
  exact ⟨rfl,(k0.aP k1 o0 (by simp<;>omega)).cell 0 rfl,h1.free 12,h1.free 14,h1.c12,h1.cell 13 _ (fun _ _=>rfl),h1.c14,h3.still hkd,((k1.kX (by simp [aT])).trans ((k2.trans k3).kX (by simp [aT]))).trans hkd.bU⟩
 have hw1:IntKind.i64.wrap (1 - (m.bK:Int))=1 - (m.bK:Int):=IntWalk.i64_in _ (by omega)
 clear e1 hsub nC
 generalize kY m 1=m' at *
 generalize m.gu=mo at *
 generalize m.dA=mw at *
 generalize hmc:(m.bK:Int)=mc at *
 generalize m.id=mi at *
 clear h k0 hmc
 go_enter func96,ntmps96
 go_wp2_with fail
 refine HC.out.mono ?_
 rintro e w1 ⟨rfl,d0,d1,d2,d3,d4,d5,hx⟩
 clear c0 m10 HC
 go_wp2_with fail
 go_region
 go_end0
 exact ⟨rfl,hx.out.1,hx.out.2⟩
end
section
variable {o:Ow} {w w':World} {G:eH} {g:MG} {s:Sh} {m:MS} {nv:Value}
theorem aQ.Bq {ev:Option Ev} {B:Bd} (h:aQ o w G g s m ev nv) (k:aj (only G.B) w w') (hB:lK w' G.B B):aQ o w' G g { s with B:=B } m ev nv/\aj (In o (aT m.id)) w w':=by
 obtain ⟨h1,k1⟩:=h.sh.Bq k hB
 exact ⟨h.vK k1 rfl (by simp<;>omega) h1 rfl rfl,k1.kX (by simp [aT])⟩
theorem Qy (m':MS) (hid:m'.id=m.id) (dv lv:Value) (hl:xU o w G g s m.id m' nv lv) (hv:dH o w 94 [([lv],1),([aF g.M],31)] dv):∃ fn caps,dv = .func (.func fn) #[] caps/\(∀ args w,(callFunc fn args).run ay w = .ok (.enter fn args) w)/\Calls ay fn caps w fun e w'=>e = .returned (.tuple #[])/\aQ o w' G g { s with B:=s.B.rH m.id } m' none nv/\aj (In o (aT m.id)) w w':=by
 obtain ⟨bs,rfl,hcap⟩:=hv
 obtain ⟨b0,b1,rfl,⟨o0,k0⟩,⟨o1,k1⟩⟩:=caps2 hcap
 refine ⟨_,_,rfl,fun args w=>(by simp [callFunc,func94,go_sem];rfl),?_⟩
 obtain ⟨fl,cl,rfl,hfl,hrun⟩:=hl
 show Calls ay 94 #[ak b0,ak b1] w _
 have c0:=k0.cell 0 rfl
 have HL:Hid (Calls ay fl cl w fun e w'=>e = .returned (.tuple #[])/\w'.cell? ⟨b1,0,none⟩=some (ak g.M)/\w'.cell? ⟨g.M,0,none⟩=some (ak G.S)/\w'.cell? ⟨G.S,1,none⟩=some (ak G.B)/\w'.cell? ⟨g.M,8,none⟩=some (ah (m.id:Int)) /\
  Hid (Calls ay 95 #[ak G.B,ah (m.id:Int)] w'.drew fun e w2=>(∃ er:Int,e = .returned (ah er))/\aQ o w2 G g { s with B:=s.B.rH m.id } m' none nv/\aj (In o (aT m.id)) w w2)):=by
  refine hrun.mono ?_
  rintro e w' ⟨rfl,h1,kk⟩
  refine ⟨rfl,(k1.aP kk o1 (bD _)).cell 0 rfl,h1.m0,h1.s0.2.1,by rw [<- hid];exact h1.c8,?_⟩
  have hkd:aj aA w' w'.drew:=(aj.refl aA w').drew
  have hd:=h1.still hkd
  refine (FV G.B s.B (m.id:Int) w'.drew hd.sh.qg).mono ?_
  rintro e w2 ⟨rfl,hb,k2⟩
  obtain ⟨h3,k3⟩:=hd.Bq k2 hb
  rw [hid] at k3
  exact ⟨⟨_,rfl⟩,h3,kk.trans (hkd.bU.trans k3)⟩
 generalize ({ s with B:=s.B.rH m.id }:Sh)=s' at *
 generalize m.id=mi at *
 clear hrun hcap k0 k1 hid
 go_enter func94,ntmps94
 go_wp2_with fail
 refine HL.out.mono ?_
 rintro e w1 ⟨rfl,d0,d1,d2,d3,hx⟩
 clear c0 HL
 go_wp2_with fail
 refine aN 11 rfl (by kernel_rfl) (by kernel_rfl) (fun K hK=>?_)
 change wpStill _ _ (World.drew _) _ _ _
 simp only [List.take_succ_cons,List.take_zero,List.drop_succ_cons,List.drop_zero] at hK ⊢
 repeat still_step
 refine wpStill_nil ?_
 change ite _ (Oper.wp _ _ _ _ _ _) _
 go_simp
 refine hx.out.mono ?_
 rintro e w2 ⟨⟨er,rfl⟩,g1,g2⟩
 refine hK _ _ ?_
 clear hK K
 have H1:=au (And.intro g1 g2)
 clear g1 g2 d0 d1 d2 d3 hx
 repeat still_step
 refine wpStill_nil ?_
 go_end0
 exact ⟨rfl,H1.out.1,H1.out.2⟩
theorem Tz (m:MS) (k:Int):(kY m k).id=m.id:=by
 unfold kY
 split
 ·rfl
 split
 ·rfl
 split
 ·rfl
 split<;>rfl
theorem Oj (h:aQ o w G g s m none nv) (k:Int) (v:Value) (hv:bG o w g.Nt g.M (.once k) v) (nC:m.bK<2):∃ bs:List Nat,v = .func (.func 119) #[] (bs.map aF).toArray/\Calls ay 119 (bs.map aF).toArray w (aG o w G g nv m.id (stepM s m (.once k))):=by
 obtain ⟨dv,⟨bs,hbs,hcap⟩,hk⟩:=hv
 refine ⟨bs,hbs,?_⟩
 obtain ⟨b0,r0,rfl,o0,k0,rfl⟩:=hcap
 have hd:∃ lv,dH o w 94 [([lv],1),([aF g.M],31)] dv/\xU o w G g s m.id (kY m k) nv lv:=by
  by_cases h1:k=1
  ·subst h1
   rw [aV rfl] at hk
   obtain ⟨lv,h1,h2⟩:=hk
   exact ⟨lv,h1,Tv h lv nC h2⟩
  rw [aO h1] at hk
  by_cases h2:k=2
  ·subst h2
   rw [aV rfl] at hk
   obtain ⟨lv,h1,h2⟩:=hk
   exact ⟨lv,h1,Ti h lv h2⟩
  rw [aO h2] at hk
  by_cases h3:k=3
  ·subst h3
   rw [aV rfl] at hk
   obtain ⟨lv,h1,h2⟩:=hk
   exact ⟨lv,h1,Tt h lv h2⟩
  rw [aO h3] at hk
  by_cases h5:k=5
  ·subst h5
   rw [aV rfl] at hk
   obtain ⟨lv,h1,h2⟩:=hk
   exact ⟨lv,h1,Tj h lv h2⟩
  rw [aO h5] at hk
  obtain ⟨lv,h6,h7⟩:=hk
  exact ⟨lv,h6,Tq h lv k ⟨h1,h2,h3,h5⟩ h7⟩
 obtain ⟨lv,hc,hl⟩:=hd
 obtain ⟨fn,caps,rfl,hfn,hrun⟩:=Qy (kY m k) (Tz m k) dv lv hl hc
 have c0:=k0.cell 0 rfl
 show Calls ay 119 #[ak b0] w _
 have HR:Hid (Calls ay fn caps w fun e w'=>e = .returned (.tuple #[])/\aG o w G g nv m.id (stepM s m (.once k)) (.returned .nilFunc) w'):=by
  refine hrun.mono ?_
  rintro e w' ⟨rfl,h1,k1⟩
  exact ⟨rfl,aG.same (r:=⟨{ s with B:=s.B.rH m.id },kY m k,.nil,none⟩) h1 rfl k1⟩
 have hneq:∀ w,(binOp .neq 1 (.func (.func fn) #[] caps) .nilFunc).run ay w = .ok (.bool true) w:=fun w=>by first|rfl|(simp [binOp,go_sem];done)|(simp [binOp,go_sem];rfl)
 generalize stepM s m (.once k)=R at *
 generalize m.id=mi at *
 clear h hk hc hl hrun k0 o0 hbs
 go_enter func119,ntmps119
 go_wp2_with fail
 refine HR.out.mono ?_
 rintro e w1 ⟨rfl,hp⟩
 have HP:=au hp
 clear hp c0 HR
 go_wp2_with fail
 go_ret
 exact HP.out
end
section
variable {o:Ow} {w w':World} {Nt M:Nat}
theorem Ol (fn:Nat) (caps:Array Value) (w:World):Calls ay 93 #[.func (.func fn) #[] caps] w fun e w'=>e = .returned (.func (.func 119) #[] #[aF w.heap.size])/\w'=w.alloc (.cells #[.func (.func fn) #[] caps] 1):=by
 have hmf:=oH
 go_enter func93,ntmps93
 go_wp2_with fail
 go_ret
 exact ⟨rfl,rfl⟩
def qN (o:Ow) (w:World) (M:Nat) (k:Int) (lv:Value):Prop :=
 if k=1 then dH o w 96 [([aF M],31)] lv
 else if k=2 then dH o w 98 [] lv
 else if k=3 then dH o w 99 [([aF M],31)] lv
 else if k=5 then dH o w 103 [([aF M],31)] lv
 else dH o w 104 [([aF M],31)] lv
theorem qN.still {k:Int} {lv:Value} (h:qN o w M k lv) (kk:aj aA w w'):qN o w' M k lv:=by
 unfold qN at h ⊢
 by_cases e1:k=1
 ·rw [aV e1] at h ⊢;exact h.aH kk (fun _ _ f=>f)
 rw [aO e1] at h ⊢
 by_cases e2:k=2
 ·rw [aV e2] at h ⊢;exact h.aH kk (fun _ _ f=>f)
 rw [aO e2] at h ⊢
 by_cases e3:k=3
 ·rw [aV e3] at h ⊢;exact h.aH kk (fun _ _ f=>f)
 rw [aO e3] at h ⊢
 by_cases e5:k=5
 ·rw [aV e5] at h ⊢;exact h.aH kk (fun _ _ f=>f)
 rw [aO e5] at h ⊢
 exact h.aH kk (fun _ _ f=>f)
theorem qN.once {k:Int} {lv dv v:Value} (h:qN o w M k lv) (h1:dH o w 94 [([lv],1),([aF M],31)] dv) (h2:dH o w 119 [([dv],1)] v):bG o w Nt M (.once k) v:=by
 refine ⟨dv,h2,?_⟩
 unfold qN at h
 by_cases e1:k=1
 ·rw [aV e1] at h ⊢;exact ⟨lv,h1,h⟩
 rw [aO e1] at h ⊢
 by_cases e2:k=2
 ·rw [aV e2] at h ⊢;exact ⟨lv,h1,h⟩
 rw [aO e2] at h ⊢
 by_cases e3:k=3
 ·rw [aV e3] at h ⊢;exact ⟨lv,h1,h⟩
 rw [aO e3] at h ⊢
 by_cases e5:k=5
 ·rw [aV e5] at h ⊢;exact ⟨lv,h1,h⟩
 rw [aO e5] at h ⊢
 exact ⟨lv,h1,h⟩
theorem zk (hf:jS o w) (k:Int) (fn:Nat) (caps:Array Value) (hl:qN o w M k (.func (.func fn) #[] caps)) (b:Nat) (hb:o b=0) (kb:aB w b [aF M] 31):Calls ay 92 #[.func (.func fn) #[] caps,ak b] w fun e w'=>∃ fn caps,e = .returned (.func (.func fn) #[] caps)/\bG o w' Nt M (.once k) (.func (.func fn) #[] caps)/\aj aA w w':=by
 have hc:=gJ (o:=o) [([.func (.func fn) #[] caps],1),([.func (.func 94) #[] #[aF w.heap.size,aF b]],1)] w hf
 have HE:Hid (bG o (fZ w [([.func (.func fn) #[] caps],1),([.func (.func 94) #[] #[aF w.heap.size,aF b]],1)]) Nt M (.once k) (.func (.func 119) #[] #[aF (w.heap.size+1)])/\aj aA w (fZ w [([.func (.func fn) #[] caps],1),([.func (.func 94) #[] #[aF w.heap.size,aF b]],1)])):=by
  obtain ⟨b0,b1,e,⟨o0,k0⟩,⟨o1,k1⟩⟩:=caps2 hc.1
  simp only [o7,List.cons.injEq] at e
  obtain ⟨rfl,rfl,_⟩:=e
  exact ⟨(hl.still hc.2).once ⟨[w.heap.size,b],rfl,_,_,rfl,o0,k0,_,_,rfl,hb,hc.2.aC kb (fun f=>f),rfl⟩ ⟨[w.heap.size+1],rfl,_,_,rfl,o1,k1,rfl⟩,hc.2⟩
 have hmf:=oH
 clear hc hl hb kb hf
 go_enter func92,ntmps92
 go_wp2_with fail
 refine (Ol _ _ _).mono ?_
 rintro e w1 ⟨rfl,rfl⟩
 simp only [World.size_alloc]
 go_wp2_with fail
 go_ret
 exact ⟨_,_,rfl,HE.out.1,HE.out.2⟩
end
section
variable {o:Ow} {w w':World} {Nt M:Nat}
theorem Io (hf:jS o w) (k:Int) (h35:k≠3/\k≠5):Calls ay 67 #[ak M,ah k] w fun e w'=>∃ fn caps,e = .returned (.func (.func fn) #[] caps)/\bG o w' Nt M (.once k) (.func (.func fn) #[] caps)/\aj aA w w':=by
 obtain ⟨W1,hW1⟩:∃ W1,W1=w.alloc (.cells #[aF M] 31):=⟨_,rfl⟩
 have k1:aj aA w W1:=by rw [hW1];exact (aj.refl _ _).alloc _
 have hb1:aB W1 w.heap.size [aF M] 31:=by rw [hW1];exact aB.aW w _ _
 have ho:o w.heap.size=0:=hf _ (Nat.le_refl _)
 have HL:Hid (∀ fn caps,qN o W1 M k (.func (.func fn) #[] caps)->Calls ay 92 #[.func (.func fn) #[] caps,ak w.heap.size] W1 fun e w'=>∃ fn caps,e = .returned (.func (.func fn) #[] caps)/\bG o w' Nt M (.once k) (.func (.func fn) #[] caps)/\aj aA w w'):=fun fn caps hl=>by
  refine (zk (Nt:=Nt) (hf.aH k1) k fn caps hl w.heap.size ho hb1).mono ?_
  rintro e w' ⟨fn,caps,rfl,h1,h2⟩
  exact ⟨fn,caps,rfl,h1,k1.trans h2⟩
 have HW1:=au hW1
 have hmf:=oH
 have d3:(k==3)=false:=by simpa using h35.1
 have d5:(k==5)=false:=by simpa using h35.2
 by_cases e1:k=1
 ·subst e1
  have sS:=au (HL.out 96 #[ak w.heap.size] (by unfold qN;rw [aV rfl];exact ⟨[w.heap.size],rfl,_,_,rfl,ho,hb1,rfl⟩))
  clear HL d3 d5 k1 hb1 ho hW1 hf h35
  go_enter func67,ntmps67
  go_wp2_with fail
  rw [<- HW1.out]
  refine sS.out.mono ?_
  rintro e w2 ⟨fn,caps,rfl,h1,h2⟩
  have HE:=au (And.intro h1 h2)
  clear h1 h2
  go_wp2_with fail
  go_ret
  exact ⟨_,_,rfl,HE.out.1,HE.out.2⟩
 have d1:(k==1)=false:=by simpa using e1
 by_cases e2:k=2
 ·subst e2
  have sS:=au (HL.out 98 #[] (by unfold qN;rw [aO (by decide),aV rfl];exact ⟨[],rfl,rfl⟩))
  clear HL d3 d5 d1 k1 hb1 ho hW1 hf h35 e1
  go_enter func67,ntmps67
  go_wp2_with fail
  rw [<- HW1.out]
  refine sS.out.mono ?_
  rintro e w2 ⟨fn,caps,rfl,h1,h2⟩
  have HE:=au (And.intro h1 h2)
  clear h1 h2
  go_wp2_with fail
  go_ret
  exact ⟨_,_,rfl,HE.out.1,HE.out.2⟩
 have d2:(k==2)=false:=by simpa using e2
 have sS:=au (HL.out 104 #[ak w.heap.size] (by unfold qN;rw [aO e1,aO e2,aO h35.1,aO h35.2];exact ⟨[w.heap.size],rfl,_,_,rfl,ho,hb1,rfl⟩))
 clear HL k1 hb1 ho hW1 hf h35 e1 e2
 go_enter func67,ntmps67
 go_wp2_with fail
 rw [<- HW1.out]
 refine sS.out.mono ?_
 rintro e w2 ⟨fn,caps,rfl,h1,h2⟩
 have HE:=au (And.intro h1 h2)
 clear h1 h2
 go_wp2_with fail
 go_ret
 exact ⟨_,_,rfl,HE.out.1,HE.out.2⟩
end
section
variable {o:Ow} {w w':World} {G:eH} {g:MG} {s:Sh} {m:MS} {nv:Value} {ev:Option Ev}
theorem Qz {c:Nat} {t:MD} (h:zh t=true):zh (m.nJ c t)=true:=by
 unfold MS.nJ
 split
 ·exact h
 ·rfl
theorem Ip (h:aQ o w G g s m ev nv):Calls ay 67 #[ak g.M,ah 5] w fun e w'=>∃ fn caps,e = .returned (.func (.func fn) #[] caps)/\bG o w' g.Nt g.M (m.nJ m.dA (.once 5)) (.func (.func fn) #[] caps)/\aj aA w w':=by
 obtain ⟨W1,hW1⟩:∃ W1,W1=w.alloc (.cells #[aF g.M] 31):=⟨_,rfl⟩
 have k1:aj aA w W1:=by rw [hW1];exact (aj.refl _ _).alloc _
 have hb1:aB W1 w.heap.size [aF g.M] 31:=by rw [hW1];exact aB.aW w _ _
 have ho:o w.heap.size=0:=h.sh.fK _ (Nat.le_refl _)
 have h1:=h.still k1
 have c0:W1.cell? ⟨w.heap.size,0,none⟩=some (ak g.M):=hb1.cell 0 rfl
 have c11:=h1.c11
 have c14:=h1.c14
 have hkd:aj aA W1 W1.drew:=(aj.refl aA W1).drew
 have HL:Hid (Calls ay 92 #[.func (.func 103) #[] #[ak w.heap.size],ak w.heap.size] W1.drew fun e w'=>∃ fn caps,e = .returned (.func (.func fn) #[] caps)/\(w'.cell? ⟨w.heap.size,0,none⟩=some (ak g.M)/\w'.cell? ⟨g.M,11,none⟩=some (ak g.Nt)/\w'.cell? ⟨g.M,14,none⟩=some (ah (m.dA:Int))) /\
  Hid (Calls ay 102 #[ak g.Nt,ah (m.dA:Int),.func (.func fn) #[] caps] w' fun e w2=>∃ fn caps,e = .returned (.func (.func fn) #[] caps)/\(w2.cell? ⟨w.heap.size,0,none⟩=some (ak g.M)/\w2.cell? ⟨g.M,11,none⟩=some (ak g.Nt)/\w2.cell? ⟨g.M,14,none⟩=some (ah (m.dA:Int)))/\bG o w2 g.Nt g.M (m.nJ m.dA (.once 5)) (.func (.func fn) #[] caps)/\aj aA w w2)):=by
  refine (zk (Nt:=g.Nt) (h1.sh.fK.aH hkd) 5 103 #[ak w.heap.size] (by unfold qN;rw [aO (by decide),aO (by decide),aO (by decide),aV rfl];exact ⟨[w.heap.size],rfl,_,_,rfl,ho,hkd.aC hb1 (fun f=>f),rfl⟩) w.heap.size ho (hkd.aC hb1 (fun f=>f))).mono ?_
  rintro e w2 ⟨fn,caps,rfl,h2,k2⟩
  have k12:=hkd.trans k2
  have hM2:=h1.still k12
  refine ⟨fn,caps,rfl,⟨k12.still c0,k12.still c11,k12.still c14⟩,?_⟩
  refine (CX hM2 m.dA (.once 5) _ h2).mono ?_
  rintro e w3 ⟨nv3,rfl,h3,k3⟩
  obtain ⟨fn3,caps3,rfl⟩:=h3.xQ (Qz rfl)
  have k13:=k12.trans k3
  exact ⟨fn3,caps3,rfl,⟨k13.still c0,k13.still c11,k13.still c14⟩,h3,k1.trans k13⟩
 have HW1:=au hW1
 have hmf:=oH
 generalize m.nJ m.dA (.once 5)=d at *
 generalize m.dA=mw at *
 clear h h1 hW1 k1 hb1 ho hkd
 go_enter func67,ntmps67
 go_wp2_with fail
 rw [<- HW1.out]
 go_region_held3 (fun w'=>w'.cell? ⟨w.heap.size,0,none⟩=some (ak g.M)/\w'.cell? ⟨g.M,11,none⟩=some (ak g.Nt)/\w'.cell? ⟨g.M,14,none⟩=some (ah (mw:Int)))
  (first | exact ⟨c0, c11, c14⟩ | exact h5.out | exact h6.out | fail "oO")
  (first
   | (refine HL.out.mono ?_
      rintro e w5 ⟨fn,caps,rfl,h5',EW⟩
      have h5:=au h5'
      clear h5')
   | (refine EW.out.mono ?_
      rintro e w6 ⟨fn6,caps6,rfl,h6',hp,hk⟩
      have h6:=au h6'
      have HP:=au (And.intro hp hk)
      clear h6' hp hk)
   | fail "vC")
 clear HL EW c0 c11 c14 h5 h6
 go_wp2_with fail
 go_ret
 exact ⟨_,_,rfl,HP.out.1,HP.out.2⟩
end
def tY (xs:List Nat):List (Nat × Nat):=(List.range xs.length).map fun j=>(xs.length - 1 - j,xs.getD (xs.length - 1 - j) 0)
theorem zl (xs:List Nat):(tY xs).length=xs.length:=by simp [tY]
theorem Iq {xs:List Nat} {j:Nat} (h:j<xs.length):(tY xs)[j]?=some (xs.length - 1 - j,xs.getD (xs.length - 1 - j) 0):=by simp [tY,h]
def zU (pB X:Nat):Nat->Prop:=fun i=>i=pB\/i=X
theorem QA (a:Option Addr) (n c:Nat) (w:World):Calls ay 100 #[.slice a n c] w fun e w'=>e = .returned (.func (.func 120) #[] #[ak w.heap.size])/\w'=w.alloc (.cells #[.slice a n c] 35):=by
 have hmf:∀ (fn:Fn) (first aJ:Array Value) (w:World),(Instr.makeFunc fn first aJ).run ay w = .ok (.func fn first aJ) w:=fun _ _ _ _=>rfl
 go_enter func100,ntmps100
 go_wp2_with fail
 go_ret
 exact ⟨rfl,rfl⟩
theorem TA (xs:List Nat) (pB X:Nat) (hn:xs.length<=64) (m:Nat) (w:World) (hbp:aB w pB [.slice (some ⟨X,0,none⟩) xs.length xs.length] 35) (hbx:aB w X (bg xs) 3) :
 Gj Fence.wide m ay 120 #[ak pB] (tY xs) DR (zU pB X) w:=by
 intro l J Jx W hW hJ hJx hY h0
 have hbp1:=hW.aC hbp (fun f=>f)
 have hbx1:=hW.aC hbx (fun f=>f)
 have hc0:=hbp1.cell 0 (v := .slice (some ⟨X,0,none⟩) xs.length xs.length) rfl
 have HLEN:=au (zl xs)
 have HAT:Hid (∀ j q,j+q+1=xs.length->(tY xs)[j]?=some (q,xs.getD q 0)):=fun j q e=>by
  rw [Iq (by omega),show xs.length - 1 - j=q by omega]
 have HV:Hid (∀ q wr,q<xs.length->aB wr X (bg xs) 3->wr.cell? ⟨X,q,none⟩=some (ah ((xs.getD q 0:Nat):Int))):=fun q wr hq hb=>hb.cell q (kS hq)
 have ZP:(xs.length:Int)<=64:=by omega
 have hw0:IntKind.i64.wrap ((xs.length:Int) - 1)=(xs.length:Int) - 1:=IntWalk.i64_in _ (by omega)
 generalize tY xs=L at *
 obtain ⟨tv,ZQ⟩:∃ tv,tv=bg xs:=⟨_,rfl⟩
 rw [<- ZQ] at hbx1 HV
 obtain ⟨jR,hat⟩:∃ f:Nat->Nat,f=fun q=>xs.getD q 0:=⟨_,rfl⟩
 have D7:Hid (∀ j q,j+q+1=xs.length->L[j]?=some (q,jR q)):=fun j q e=>by rw [hat];exact HAT.out j q e
 have Qv:Hid (∀ q wr,q<xs.length->aB wr X tv 3->wr.cell? ⟨X,q,none⟩=some (ah ((jR q:Nat):Int))):=fun q wr h1 h2=>by rw [hat];exact HV.out q wr h1 h2
 clear HAT HV hat ZQ hbx hbp
 generalize xs.length=n at *
 refine callsIn_of_wp func120 rfl trivial ?_ rfl
 simp only [ntmps120,List.size_toArray,List.length_cons,List.length_nil,Nat.reduceAdd,Nat.reduceSub,Array.replicate_succ,Array.replicate_zero,List.push_toArray,List.append_toArray,List.nil_append,List.cons_append]
 gi_wp2_with fail
 gi_loopw [3] (fun v wr=>∃ (j:Nat) (i:Int),j<=n/\i=(n:Int) - 1 - j/\v = ah i/\J j wr/\iJ (zU pB X) W wr) (fun v _=>(intOf v+1).toNat)
 case atStart=>exact ⟨0,_,by omega,by omega,rfl,h0,iJ.refl _ _⟩
 case round =>
  obtain ⟨j,i,hj,hi,rfl,pG,hH⟩:=hrel
  have b1:=hH.aC (.inl rfl) hbp1
  have b2:=hH.aC (.inr rfl) hbx1
  have c1:=b1.cell 0 (v := .slice (some ⟨X,0,none⟩) n n) rfl
  by_cases hlt:j<n
  ·obtain ⟨q,rfl⟩:∃ q:Nat,i=(q:Int):=⟨i.toNat,by omega⟩
   have hq:j+q+1=n:=by omega
   have hqn:q<n:=by omega
   have hq0:(0:Int)<=(q:Int):=by omega
   have ZR:(q:Int)<(n:Int):=by omega
   have c2:=Qv.out q wr hqn b2
   have hL:=D7.out j q hq
   have hwq:IntKind.i64.wrap ((q:Int) - 1)=(q:Int) - 1:=IntWalk.i64_in _ (by omega)
   generalize jR q=x at *
   have HY:=au hY
   have HJ:=au pG
   have HQ:=au hq
   clear hY pG hi hq
   obtain ⟨fn,tmps,assign,body,hy,hR⟩:=HY.out j (q,x) #[ah (q:Int),ah (x:Int)] wr hL HJ.out rfl
   gi_wp2_with fail
   refine ⟨fun h=>(by cases h),hR.mono ?_⟩
   rintro e W' (⟨rfl,hJ',hk⟩|⟨rfl,xk⟩)
   ·gi_wp2_with fail
    go_roundw
    case rel=>exact ⟨j+1,(q:Int) - 1,by omega,by have:=HQ.out;omega,by go_num,hJ',hH.trans hk⟩
    case measure=>simp [intOf]<;>omega
   ·gi_wp2_with fail
    refine bodyPost_ret (results_none rfl _ _ _) rfl ?_
    exact ⟨⟨_,rfl⟩,.inr ⟨j+1,by rw [HLEN.out];omega,xk⟩⟩
  ·clear hY
   obtain rfl:i = -1:=by omega
   have BX:Hid (j=n):=by unfold Hid;omega
   clear hi
   gi_wp2_with fail
   go_end0
   exact ⟨⟨_,rfl⟩,.inl (by rw [HLEN.out,<- BX.out];exact pG)⟩
end
section
open Go.RowKit
def xW (o o':Ow) (w w':World):Prop:=∀ b cs T,o b=0->aB w b cs T->o' b=0/\aB w' b cs T
theorem ny.iH {o o':Ow} {w w':World} (k:xW o o' w w'):∀ {l:List (List Value × TypeId)} {bs:List Nat},ny o w l bs->ny o' w' l bs
 | [],_,h=>h
 | (cs,T)::l,bs,h=>by
   obtain ⟨b,r,e,h1,h2,h3⟩:=h
   obtain ⟨g1,g2⟩:=k b cs T h1 h2
   exact ⟨b,r,e,g1,g2,ny.iH k h3⟩
theorem dH.iH {o o':Ow} {w w':World} {fn:Nat} {l:List (List Value × TypeId)} {v:Value} (h:dH o w fn l v) (k:xW o o' w w'):dH o' w' fn l v:=by
 obtain ⟨bs,e,hc⟩:=h
 exact ⟨bs,e,hc.iH k⟩
theorem dI.iH {o o':Ow} {w w':World} {T:TypeId} {v:Value} {xs:List Value} (h:dI o w T v xs) (k:xW o o' w w'):dI o' w' T v xs:=by
 obtain ⟨a,c,rfl,hl,hm,hc⟩:=h
 refine ⟨a,c,rfl,hl,hm,fun h0=>?_⟩
 obtain ⟨b,off,cs,e,h0,hb,hj⟩:=hc h0
 obtain ⟨g1,g2⟩:=k b cs T h0 hb
 exact ⟨b,off,cs,e,g1,g2,hj⟩
theorem nK.iH {o o':Ow} {w w':World} {M:Nat} {rd:RD} {v:Value} (h:nK o w M rd v) (k:xW o o' w w'):nK o' w' M rd v:=by
 cases rd with
 | field base f x=>obtain ⟨op,e,h1⟩:=h;exact ⟨op,e,h1.iH k⟩
 | cell i x=>obtain ⟨op,e,h1⟩:=h;exact ⟨op,e,h1.iH k⟩
theorem nN.iH {o o':Ow} {w w':World} {M:Nat} {rd:RD} {v:Value} (h:nN o w M rd v) (k:xW o o' w w'):nN o' w' M rd v:=by
 cases rd with
 | field base f x=>obtain ⟨op,e,h1⟩:=h;exact ⟨op,e,h1.iH k⟩
 | cell i x=>obtain ⟨op,e,h1⟩:=h;exact ⟨op,e,h1.iH k⟩
theorem jF.iH {o o':Ow} {w w':World} {M:Nat} {rd:RD} {v:Value} (h:jF o w M rd v) (k:xW o o' w w'):jF o' w' M rd v:=by
 obtain ⟨wv,h1,h2⟩:=h
 exact ⟨wv,h1.iH k,h2.iH k⟩
theorem bG.iH {o o':Ow} {w w':World} {Nt M:Nat} (k:xW o o' w w'):∀ {d:MD} {v:Value},bG o w Nt M d v->bG o' w' Nt M d v:=by
 intro d
 induction d with
 | nil=>intro v h;exact h
 | gZ op=>intro v h;exact dH.iH h k
 | once q =>
   intro v h
   obtain ⟨dv,h1,h2⟩:=h
   refine ⟨dv,h1.iH k,?_⟩
   revert h2
   split
   ·rintro ⟨lv,h2,h3⟩;exact ⟨lv,h2.iH k,h3.iH k⟩
   split
   ·rintro ⟨lv,h2,h3⟩;exact ⟨lv,h2.iH k,h3.iH k⟩
   split
   ·rintro ⟨lv,h2,h3⟩;exact ⟨lv,h2.iH k,h3.iH k⟩
   split
   ·rintro ⟨lv,h2,h3⟩;exact ⟨lv,h2.iH k,h3.iH k⟩
   ·rintro ⟨lv,h2,h3⟩;exact ⟨lv,h2.iH k,h3.iH k⟩
 | lX x c t ih =>
   intro v h
   obtain ⟨tv,av,h1,h2,h3⟩:=h
   exact ⟨tv,av,ih h1,h2.iH k,h3.iH k⟩
 | add x t ih=>intro v h;obtain ⟨tv,h1,h2⟩:=h;exact ⟨tv,ih h1,h2.iH k⟩
 | oG c t ih=>intro v h;obtain ⟨tv,h1,h2⟩:=h;exact ⟨tv,ih h1,h2.iH k⟩
 | iD c f t ih=>intro v h;obtain ⟨tv,h1,h2⟩:=h;exact ⟨tv,ih h1,h2.iH k⟩
 | mW t ih=>intro v h;obtain ⟨tv,h1,h2⟩:=h;exact ⟨tv,ih h1,h2.iH k⟩
 | field base f t ih=>intro v h;obtain ⟨tv,h1,h2⟩:=h;exact ⟨tv,ih h1,h2.iH k⟩
 | load op base=>intro v h;exact dH.iH h k
 | get op=>intro v h;exact dH.iH h k
 | jC x rd =>
   intro v h
   obtain ⟨rv,lv,h1,h2,h3⟩:=h
   exact ⟨rv,lv,h1.iH k,h2.iH k,h3.iH k⟩
 | last rd=>intro v h;exact jF.iH h k
 | alloc op q=>intro v h;exact dH.iH h k
 | assign op q=>intro v h;exact dH.iH h k
 | iQ op all =>
   intro v h
   obtain ⟨h1,av,h2,h3⟩:=h
   exact ⟨h1,av,h2.iH k,h3.iH k⟩
 | iK op q=>intro v h;exact dH.iH h k
 | ig op q=>intro v h;exact dH.iH h k
 | fD sl c t=>intro v h;exact h.elim
 | fill op a=>intro v h;exact dH.iH h k
 | zero op a i=>intro v h;exact dH.iH h k
end
end Go.Proofs.YtobfpmijbfgmeabGreatDoor
