/- Parts of the walk. No conditions. -/
import Derived.Test.YtobfpmijbfgmeabGreatDoorZzgp
namespace Go.Proofs.YtobfpmijbfgmeabGreatDoor
open _root_.Array renaming eq_empty_of_size_eq_zero->adb
open _root_.Go.World renaming drew->abx,size_alloc->abw
open _root_.Int renaming toNat_natCast->abB
open _root_.List renaming drop_succ_cons->abz,drop_zero->abt,take_zero->aby
open _root_.Go.Proofs.Tryz hiding prog
open _root_.Go.Proofs.Tryz renaming prog->ay
set_option maxRecDepth 4000
set_option maxHeartbeats 4000000
section
attribute [local go_sem] Oper.semAt_some
open Go.RowKit
section
variable {o:Ow} {w w':World} {G:eH} {g:MG} {s:Sh} {m:MS} {nv:Value}
theorem jF.xQ {M:Nat} {rd:RD} {v:Value} (h:jF o w M rd v):∃ (fn:Nat) (caps:Array Value),v = .func (.func fn) #[] caps:=by
 obtain ⟨_,_,bs,rfl,_⟩:=h;exact ⟨_,_,rfl⟩
def zh:MD->Bool
 | .nil=>false
 | .fD _ _ _=>false
 | _=>true
theorem bG.xQ {Nt M:Nat} {d:MD} {v:Value} (h:bG o w Nt M d v) (hd:zh d=true):∃ (fn:Nat) (caps:Array Value),v = .func (.func fn) #[] caps:=by
 rcases h.form with rfl|h1
 ·exfalso
  cases d
  case nil=>cases hd
  case fD=>cases hd
  case last rd=>obtain ⟨_,_,bs,e,_⟩:=h;cases e
  case gZ=>obtain ⟨bs,e,_⟩:=h;cases e
  case once=>obtain ⟨_,⟨bs,e,_⟩,_⟩:=h;cases e
  case lX=>obtain ⟨_,_,_,_,bs,e,_⟩:=h;cases e
  case add=>obtain ⟨_,_,bs,e,_⟩:=h;cases e
  case oG=>obtain ⟨_,_,bs,e,_⟩:=h;cases e
  case iD=>obtain ⟨_,_,bs,e,_⟩:=h;cases e
  case mW=>obtain ⟨_,_,bs,e,_⟩:=h;cases e
  case field=>obtain ⟨_,_,bs,e,_⟩:=h;cases e
  case load=>obtain ⟨bs,e,_⟩:=h;cases e
  case get=>obtain ⟨bs,e,_⟩:=h;cases e
  case jC=>obtain ⟨_,_,_,_,bs,e,_⟩:=h;cases e
  case alloc=>obtain ⟨bs,e,_⟩:=h;cases e
  case assign=>obtain ⟨bs,e,_⟩:=h;cases e
  case iQ=>obtain ⟨_,_,_,bs,e,_⟩:=h;cases e
  case iK=>obtain ⟨bs,e,_⟩:=h;cases e
  case ig=>obtain ⟨bs,e,_⟩:=h;cases e
  case fill=>obtain ⟨bs,e,_⟩:=h;cases e
  case zero=>obtain ⟨bs,e,_⟩:=h;cases e
 ·exact h1
theorem zi {v c:Nat} {t:MD} (h:zh t=true):zh (mX v c t)=true:=by
 unfold mX
 split
 ·exact h
 ·rfl
theorem xR {Nt M:Nat} (hf:jS o w) (v c:Nat) (t:MD) (tv:Value) (ht:bG o w Nt M t tv) (hd:zh t=true):Calls ay 101 #[ak Nt,ah (v:Int),ah (c:Int),tv] w fun e w'=>∃ fn caps,e = .returned (.func (.func fn) #[] caps)/\bG o w' Nt M (mX v c t) (.func (.func fn) #[] caps)/\aj aA w w':=by
 refine (NP hf v c t tv ht).mono ?_
 rintro e w' ⟨nv,rfl,h1,h2⟩
 obtain ⟨fn,caps,rfl⟩:=h1.xQ (zi hd)
 exact ⟨fn,caps,rfl,h1,h2⟩
theorem Qq (h:aQ o w G g s m none nv) (rd:RD) (x:Nat) (v:Value) (hv:bG o w g.Nt g.M (.jC x rd) v):∃ bs:List Nat,v = .func (.func 196) #[] (bs.map aF).toArray/\Calls ay 196 (bs.map aF).toArray w (aG o w G g nv m.id (stepM s m (.jC x rd))):=by
 obtain ⟨rv,lv,hr,hl,bs,hbs,hcap⟩:=hv
 refine ⟨bs,hbs,?_⟩
 obtain ⟨b0,b1,b2,b3,rfl,⟨o0,k0⟩,⟨o1,k1⟩,⟨o2,k2⟩,⟨o3,k3⟩⟩:=caps4 hcap
 have hkd:aj aA w w.drew:=(aj.refl aA w).drew
 obtain ⟨fr,cr,rfl,hfr,hrun⟩:=Qo (h.still hkd) rd rv (hr.aH hkd (fun _ _ f=>f))
 obtain ⟨fl,cl,rfl⟩:=hl.xQ
 have c0:=k0.cell 0 rfl
 have c1:w.cell? ⟨b1,0,none⟩=some (ak g.M):=k1.cell 0 rfl
 show Calls ay 196 #[ak b0,ak b1,ak b2,ak b3] w _
 have HR:Hid (Calls ay fr cr w.drew fun e w'=>e = .returned (ah (rd.read s.H:Int))/\w'.cell? ⟨b0,0,none⟩=some (.func (.func fr) #[] cr)/\w'.cell? ⟨b1,0,none⟩=some (ak g.M)/\w'.frozen? ⟨g.M,18,none⟩=false/\(∃ u,w'.cell? ⟨g.M,18,none⟩=some u) /\
  ∃ W2,W2=w'.setCell ⟨g.M,18,none⟩ (ah (rd.read s.H:Int))/\aQ o W2 G g s { m with held:=rd.read s.H } none nv/\aj (In o (aT m.id)) w W2/\bG o W2 g.Nt g.M (.last rd) (.func (.func fl) #[] cl)/\aB W2 b0 [.func (.func fr) #[] cr] 66/\aB W2 b1 [aF g.M] 31/\aB W2 b2 [.func (.func fl) #[] cl] 94/\aB W2 b3 [ah (x:Int)] 3):=by
  refine hrun.mono ?_
  rintro e w' ⟨rfl,g1,g2⟩
  have km:aj (In o (aT m.id)) w w':=hkd.bU.trans g2
  obtain ⟨h2,kp⟩:=g1.put 18 (ah (rd.read s.H:Int)) { m with held:=rd.read s.H } none nv (fun _ _=>rfl) ⟨rfl,rfl,rfl,rfl,rfl,rfl⟩
  have km2:aj (In o (aT m.id)) w (w'.setCell ⟨g.M,18,none⟩ (ah (rd.read s.H:Int))):=km.trans (kp.kX (by simp [aT]))
  exact ⟨rfl,(k0.aP km o0 (bD _)).cell 0 rfl,(k1.aP km o1 (bD _)).cell 0 rfl,g1.free 18,⟨_,g1.c18⟩,_,rfl,h2,km2,hl.aH km2 (fun b hb=>fU hb (bD _)),k0.aP km2 o0 (bD _),k1.aP km2 o1 (bD _),k2.aP km2 o2 (bD _),k3.aP km2 o3 (bD _)⟩
 have HN:Hid (∀ W fn caps d,aQ o W G g s { m with held:=rd.read s.H } none nv->aj (In o (aT m.id)) w W->bG o W g.Nt g.M d (.func (.func fn) #[] caps)->zh d=true->stepM s m (.jC x rd)=⟨s,{ m with held:=rd.read s.H },mX (rd.read s.H) m.dA d,none⟩ ->
  Calls ay 101 #[ak g.Nt,ah (rd.read s.H:Int),ah (m.dA:Int),.func (.func fn) #[] caps] W.drew fun e w'=>∃ fn caps,e = .returned (.func (.func fn) #[] caps)/\aG o w G g nv m.id (stepM s m (.jC x rd)) (.returned (.func (.func fn) #[] caps)) w'):=fun W fn caps d hW hk hc hd e1=>by
  have kd:aj aA W W.drew:=(aj.refl aA W).drew
  refine (xR (hW.sh.fK.aH kd) (rd.read s.H) m.dA d _ (hc.still kd) hd).mono ?_
  rintro e w4 ⟨fn,caps,rfl,h4,k4⟩
  rw [e1]
  exact ⟨fn,caps,rfl,aG.same (hW.still (kd.trans k4)) h4 (hk.trans (kd.trans k4).bU)⟩
 obtain ⟨mm,hmm⟩:∃ mm,m.gu=mm:=⟨_,rfl⟩
 have hcells:∀ W,aQ o W G g s { m with held:=rd.read s.H } none nv->W.cell? ⟨g.M,11,none⟩=some (ak g.Nt)/\W.cell? ⟨g.M,12,none⟩=some (ah (mm:Int))/\W.cell? ⟨g.M,14,none⟩=some (ah (m.dA:Int))/\W.cell? ⟨g.M,18,none⟩=some (ah (rd.read s.H:Int)):=fun W hW=>⟨hW.c11,by rw [<- hmm];exact hW.c12,hW.c14,hW.c18⟩
 by_cases hm:m.gu=2
 ·have e1:stepM s m (.jC x rd)=⟨s,{ m with held:=rd.read s.H },mX (rd.read s.H) m.dA (mX x m.dA (.last rd)),none⟩:=by simp only [stepM];rw [aV hm]
  have HM:Hid (∀ W,aQ o W G g s { m with held:=rd.read s.H } none nv->aj (In o (aT m.id)) w W->bG o W g.Nt g.M (.last rd) (.func (.func fl) #[] cl)->aB W b1 [aF g.M] 31->Calls ay 101 #[ak g.Nt,ah (x:Int),ah (m.dA:Int),.func (.func fl) #[] cl] W.drew fun e w3=>∃ fn caps,e = .returned (.func (.func fn) #[] caps)/\w3.cell? ⟨b1,0,none⟩=some (ak g.M)/\w3.cell? ⟨g.M,11,none⟩=some (ak g.Nt)/\w3.cell? ⟨g.M,14,none⟩=some (ah (m.dA:Int))/\w3.cell? ⟨g.M,18,none⟩=some (ah (rd.read s.H:Int)) /\
   Hid (Calls ay 101 #[ak g.Nt,ah (rd.read s.H:Int),ah (m.dA:Int),.func (.func fn) #[] caps] w3.drew fun e w'=>∃ fn caps,e = .returned (.func (.func fn) #[] caps)/\aG o w G g nv m.id (stepM s m (.jC x rd)) (.returned (.func (.func fn) #[] caps)) w')):=fun W hW hk hc g1=>by
   have kd:aj aA W W.drew:=(aj.refl aA W).drew
   refine (xR (hW.sh.fK.aH kd) x m.dA (.last rd) _ (hc.still kd) rfl).mono ?_
   rintro e w3 ⟨fn,caps,rfl,h3,k3⟩
   have Xt:=kd.trans k3
   have hW3:=hW.still Xt
   exact ⟨fn,caps,rfl,(Xt.aC g1 (fun f=>f)).cell 0 rfl,hW3.c11,hW3.c14,hW3.c18,HN.out w3 fn caps _ hW3 (hk.trans Xt.bU) h3 (zi rfl) e1⟩
  clear e1 HN
  obtain rfl:mm=2:=hmm.symm.trans hm
  have HC:=au hcells
  generalize stepM s m (.jC x rd)=R at *
  generalize { m with held:=rd.read s.H }=m' at *
  generalize rd.read s.H=y at *
  generalize m.dA=mw at *
  generalize m.id=mi at *
  clear h hr hl hcap hbs hkd hrun k0 k1 k2 k3 o0 o1 o2 o3 hm hmm hcells
  go_enter func196,ntmps196
  go_wp2_with fail
  go_region_held3 (fun w'=>w'.cell? ⟨b0,0,none⟩=some (.func (.func fr) #[] cr)/\w'.cell? ⟨b1,0,none⟩=some (ak g.M))
   (first | exact ⟨c0, c1⟩ | exact ⟨d0, d1⟩ | exact HS2.out | fail "oO")
   ((refine HR.out.mono ?_
     rintro e w1 ⟨rfl,d0,d1,d2,⟨u,d3⟩,W2,hW2,g1,g2,g3,g4,g5,g6,g7⟩
     have HS2:Hid ((w1.setCell ⟨g.M,18,none⟩ (ah (y:Int))).cell? ⟨b0,0,none⟩=some (.func (.func fr) #[] cr)/\(w1.setCell ⟨g.M,18,none⟩ (ah (y:Int))).cell? ⟨b1,0,none⟩=some (ak g.M)):=by rw [<- hW2];exact ⟨g4.cell 0 rfl,g5.cell 0 rfl⟩
     have HW2:=au hW2
     have H1:=au (And.intro g1 (And.intro g2 (And.intro g3 (And.intro g4 (And.intro g5 (And.intro g6 g7))))))
     clear hW2 g1 g2 g3 g4 g5 g6 g7))
  rw [<- HW2.out]
  clear d0 d1 d2 d3 HS2 c0 c1 HW2 HR
  have e11:=(HC.out W2 H1.out.1).1;have e12:=(HC.out W2 H1.out.1).2.1;have e14:=(HC.out W2 H1.out.1).2.2.1
  have Xu:W2.cell? ⟨b1,0,none⟩=some (ak g.M):=H1.out.2.2.2.2.1.cell 0 rfl
  have Xv:=H1.out.2.2.2.2.2.1.cell 0 rfl
  have b3c:=H1.out.2.2.2.2.2.2.cell 0 rfl
  go_wp2_with fail
  have EU:=au (HM.out W2 H1.out.1 H1.out.2.1 H1.out.2.2.1 H1.out.2.2.2.2.1)
  refine aN 10 rfl (by kernel_rfl) (by kernel_rfl) (fun K hK=>?_)
  change wpStill _ _ (abx _) _ _ _
  simp only [List.take_succ_cons,aby,abz,abt] at hK ⊢
  repeat still_step
  refine wpStill_nil ?_
  change ite _ (Oper.wp _ _ _ _ _ _) _
  go_simp
  refine EU.out.mono ?_
  rintro e w3 ⟨fn,caps,rfl,d1,d11,d14,d18,g1⟩
  refine hK _ _ ?_
  clear hK K
  clear e11 e12 e14 Xu Xv b3c HM EU HC H1
  repeat still_step
  refine wpStill_nil ?_
  go_wp2_with fail
  refine aN 13 rfl (by kernel_rfl) (by kernel_rfl) (fun K hK=>?_)
  change wpStill _ _ (abx _) _ _ _
  simp only [List.take_succ_cons,aby,abz,abt] at hK ⊢
  repeat still_step
  refine wpStill_nil ?_
  change ite _ (Oper.wp _ _ _ _ _ _) _
  go_simp
  refine g1.out.mono ?_
  rintro e w4 ⟨fn,caps,rfl,hp⟩
  refine hK _ _ ?_
  clear hK K
  have HP:=au hp
  clear hp g1 d1 d11 d14 d18
  repeat still_step
  refine wpStill_nil ?_
  go_wp2_with fail
  go_ret
  exact HP.out
 ·have e1:stepM s m (.jC x rd)=⟨s,{ m with held:=rd.read s.H },mX (rd.read s.H) m.dA (.last rd),none⟩:=by simp only [stepM];rw [aO hm]
  have HM:Hid (∀ W,aQ o W G g s { m with held:=rd.read s.H } none nv->aj (In o (aT m.id)) w W->bG o W g.Nt g.M (.last rd) (.func (.func fl) #[] cl) ->
   Hid (Calls ay 101 #[ak g.Nt,ah (rd.read s.H:Int),ah (m.dA:Int),.func (.func fl) #[] cl] W.drew fun e w'=>∃ fn caps,e = .returned (.func (.func fn) #[] caps)/\aG o w G g nv m.id (stepM s m (.jC x rd)) (.returned (.func (.func fn) #[] caps)) w')):=fun W hW hk hc=>HN.out W fl cl _ hW hk hc rfl e1
  clear e1 HN
  have dm:((mm:Int)==2)=false:=by simp;omega
  have HC:=au hcells
  generalize stepM s m (.jC x rd)=R at *
  generalize { m with held:=rd.read s.H }=m' at *
  generalize rd.read s.H=y at *
  generalize m.dA=mw at *
  generalize m.id=mi at *
  clear h hr hl hcap hbs hkd hrun k0 k1 k2 k3 o0 o1 o2 o3 hm hmm hcells
  go_enter func196,ntmps196
  go_wp2_with fail
  go_region_held3 (fun w'=>w'.cell? ⟨b0,0,none⟩=some (.func (.func fr) #[] cr)/\w'.cell? ⟨b1,0,none⟩=some (ak g.M))
   (first | exact ⟨c0, c1⟩ | exact ⟨d0, d1⟩ | exact HS2.out | fail "oO")
   ((refine HR.out.mono ?_
     rintro e w1 ⟨rfl,d0,d1,d2,⟨u,d3⟩,W2,hW2,g1,g2,g3,g4,g5,g6,g7⟩
     have HS2:Hid ((w1.setCell ⟨g.M,18,none⟩ (ah (y:Int))).cell? ⟨b0,0,none⟩=some (.func (.func fr) #[] cr)/\(w1.setCell ⟨g.M,18,none⟩ (ah (y:Int))).cell? ⟨b1,0,none⟩=some (ak g.M)):=by rw [<- hW2];exact ⟨g4.cell 0 rfl,g5.cell 0 rfl⟩
     have HW2:=au hW2
     have H1:=au (And.intro g1 (And.intro g2 (And.intro g3 (And.intro g4 (And.intro g5 (And.intro g6 g7))))))
     clear hW2 g1 g2 g3 g4 g5 g6 g7))
  rw [<- HW2.out]
  clear d0 d1 d2 d3 HS2 c0 c1 HW2 HR
  have e11:=(HC.out W2 H1.out.1).1;have e12:=(HC.out W2 H1.out.1).2.1;have e14:=(HC.out W2 H1.out.1).2.2.1;have e18:=(HC.out W2 H1.out.1).2.2.2
  have Xu:W2.cell? ⟨b1,0,none⟩=some (ak g.M):=H1.out.2.2.2.2.1.cell 0 rfl
  have Xv:=H1.out.2.2.2.2.2.1.cell 0 rfl
  go_wp2_with fail
  have EU:=HM.out W2 H1.out.1 H1.out.2.1 H1.out.2.2.1
  refine aN 13 rfl (by kernel_rfl) (by kernel_rfl) (fun K hK=>?_)
  change wpStill _ _ (abx _) _ _ _
  simp only [List.take_succ_cons,aby,abz,abt] at hK ⊢
  repeat still_step
  refine wpStill_nil ?_
  change ite _ (Oper.wp _ _ _ _ _ _) _
  go_simp
  refine EU.out.mono ?_
  rintro e w4 ⟨fn,caps,rfl,hp⟩
  refine hK _ _ ?_
  clear hK K
  have HP:=au hp
  clear hp e11 e12 e14 e18 Xu Xv HM EU HC H1
  repeat still_step
  refine wpStill_nil ?_
  go_wp2_with fail
  go_ret
  exact HP.out
end
theorem room4:kQ 0=1/\kQ 1=3/\kQ 2=7/\kQ 3=15:=by decide
theorem VX (f:Int) (h0:0<=f) (h1:f<=15) (w:World) (hS:eX w):Calls ay 161 #[ah f] w fun e w'=>e = .returned (.tuple #[ah (iG f:Int),.bool true])/\w=w':=by
 have d0:decide (0<=f)=true:=cZ h0
 go_enter func161,ntmps161
 go_wp2_with fail
 go_loop [5] (fun i=>∃ k:Nat,k<4/\i = ah k/\∀ j:Nat,j<k->kQ (j:Int)<f) (fun i=>4 - (intOf i).toNat)
 case atStart=>exact ⟨0,by omega,rfl,fun j hj=>by omega⟩
 case round =>
  obtain ⟨k,hk,rfl,hl⟩:=hrel
  by_cases hle:f<=kQ (k:Int)
  ·have HE:Hid (iG f=k):=by
    obtain ⟨r0,r1,r2,r3⟩:=room4
    have h4:k=0\/k=1\/k=2\/k=3:=by omega
    have l0:=hl 0;have l1:=hl 1;have l2:=hl 2
    unfold Hid iG
    have r0':kQ ((0:Nat):Int)=1:=r0
    have r1':kQ ((1:Nat):Int)=3:=r1
    have r2':kQ ((2:Nat):Int)=7:=r2
    have r3':kQ ((3:Nat):Int)=15:=r3
    rw [r0'] at l0;rw [r1'] at l1;rw [r2'] at l2
    rcases h4 with rfl|rfl|rfl|rfl
    ·rw [r0'] at hle
     rw [aO (by omega),aV hle]
    ·rw [r1'] at hle
     rw [aO (by omega),aO (by omega),aV hle]
    ·rw [r2'] at hle
     rw [aO (by omega),aO (by omega),aO (by omega),aV hle]
    ·rw [r3'] at hle
     rw [aO (by omega),aO (by omega),aO (by omega),aO (by omega),aV hle]
   have d1:decide (f<=kQ (k:Int))=true:=cZ hle
   have HR:=au (wZ (k:Int) w hS)
   generalize kQ (k:Int)=r at *
   clear hl hS
   go_wp2_with (go_at_call 185;refine HR.out.mono ?_;rintro e w1 ⟨rfl,rfl⟩)
   go_ret2
   rw [HE.out]
   exact ⟨rfl,rfl⟩
  ·have d1:decide (f<=kQ (k:Int))=false:=dD hle
   have HR:=au (wZ (k:Int) w hS)
   have HL:Hid (k+1<4/\∀ j:Nat,j<k+1->kQ (j:Int)<f):=by
    refine ⟨?_,fun j hj=>?_⟩
    ·have:=room4.2.2.2
     rcases Nat.lt_or_ge k 3 with h|h
     ·omega
     ·exfalso
      obtain rfl:k=3:=by omega
      exact hle (by rw [show kQ ((3:Nat):Int)=15 from this];exact h1)
    ·rcases Nat.lt_or_ge j k with h|h
     ·exact hl j h
     ·obtain rfl:j=k:=by omega
      omega
   generalize kQ (k:Int)=r at *
   clear hl hS
   go_wp2_with (go_at_call 185;refine HR.out.mono ?_;rintro e w1 ⟨rfl,rfl⟩)
   go_round
   case rel=>exact ⟨k+1,HL.out.1,by go_num,HL.out.2⟩
   case measure=>simp [intOf];omega
section
variable {o:Ow} {w w':World} {G:eH} {g:MG} {s:Sh} {m:MS} {nv:Value}
theorem aG.Xw {d:MD} {fn:Nat} {caps:Array Value} (h:aQ o w G g s m none nv) (hc:bG o w' g.Nt g.M d (.func (.func fn) #[] caps)) (k:aj aA w w'):aG o w G g nv m.id ⟨s,m,d,none⟩ (.returned (.func (.func fn) #[] caps)) w' :=
 aG.same (r:=⟨s,m,d,none⟩) (h.still k) hc k.bU
theorem Qr (h:aQ o w G g s m none nv) (op:bQ):Calls ay 138 #[ak g.M,.agg op.cells.toArray] w (aG o w G g nv m.id ⟨s,m,.get op,none⟩):=by
 obtain ⟨ok,oa,ob,oc⟩:=op
 have hc:=gJ (o:=o) [([aF g.M],31),([ah ok,ah oa,ah ob,ah oc],45)] w h.sh.fK
 have HE:Hid (aG o w G g nv m.id ⟨s,m,.get ⟨ok,oa,ob,oc⟩,none⟩ (.returned (.func (.func 174) #[] #[aF w.heap.size,aF (w.heap.size+1)])) (fZ w [([aF g.M],31),([ah ok,ah oa,ah ob,ah oc],45)])):=by
  obtain ⟨b0,b1,e,⟨o0,k0⟩,⟨o1,k1⟩⟩:=caps2 hc.1
  simp only [o7,List.cons.injEq] at e
  obtain ⟨rfl,rfl,_⟩:=e
  exact aG.Xw h ⟨[w.heap.size,w.heap.size+1],rfl,_,_,rfl,o0,k0,_,_,rfl,o1,k1,rfl⟩ hc.2
 have hmf:=oH
 generalize (⟨s,m,.get ⟨ok,oa,ob,oc⟩,none⟩:lZ)=R at *
 generalize m.id=mi at *
 clear hc h
 simp only [bQ.cells]
 go_enter func138,ntmps138
 go_wp2_with fail
 go_ret
 exact HE.out
theorem J9 (h:aQ o w G g s m none nv) (op:bQ) (h0:0<=op.b) (h15:op.b<=15):Calls ay 135 #[ak g.M,.agg op.cells.toArray] w (aG o w G g nv m.id ⟨s,m,.alloc op (iG op.b),none⟩):=by
 obtain ⟨ok,oa,ob,oc⟩:=op
 simp only at h0 h15
 have hc:=gJ (o:=o) [([aF g.M],31),([ah ok,ah oa,ah ob,ah oc],45),([ah (iG ob:Int)],3)] w h.sh.fK
 have HE:Hid (aG o w G g nv m.id ⟨s,m,.alloc ⟨ok,oa,ob,oc⟩ (iG ob),none⟩ (.returned (.func (.func 162) #[] #[aF w.heap.size,aF (w.heap.size+1+1),aF (w.heap.size+1)])) (fZ w [([aF g.M],31),([ah ok,ah oa,ah ob,ah oc],45),([ah (iG ob:Int)],3)])):=by
  obtain ⟨b0,b1,b2,e,⟨o0,k0⟩,⟨o1,k1⟩,⟨o2,k2⟩⟩:=caps3 hc.1
  simp only [o7,List.cons.injEq] at e
  obtain ⟨rfl,rfl,rfl,_⟩:=e
  exact aG.Xw h ⟨[w.heap.size,w.heap.size+1+1,w.heap.size+1],rfl,_,_,rfl,o0,k0,_,_,rfl,o2,k2,_,_,rfl,o1,k1,rfl⟩ hc.2
 have hmf:=oH
 have HO:Hid (∀ a b,Calls ay 161 #[ah ob] ((w.alloc a).alloc b) fun e w'=>e = .returned (.tuple #[ah (iG ob:Int),.bool true])/\((w.alloc a).alloc b)=w'):=fun a b=>VX ob h0 h15 _ (h.sh.heap.sizes.aH (((aj.refl aA w).alloc a).alloc b))
 generalize (⟨s,m,.alloc ⟨ok,oa,ob,oc⟩ (iG ob),none⟩:lZ)=R at *
 generalize iG ob=kk at *
 generalize m.id=mi at *
 clear hc h
 simp only [bQ.cells]
 go_enter func135,ntmps135
 go_wp2_with fail
 refine (HO.out _ _).mono ?_
 rintro e w1 ⟨rfl,rfl⟩
 go_wp2_with fail
 go_ret
 exact HE.out
theorem Ob (h:aQ o w G g s m none nv) (op:bQ) (Ql:0<=op.b) (hrb:op.b<m.aI.length) (hres:m.aU.length<=1000000000):Calls ay 136 #[ak g.M,.agg op.cells.toArray] w (aG o w G g nv m.id (jA s m (m.fP op.b) op.c (.load op (m.fP op.b)))):=by
 obtain ⟨ok,oa,ob,oc⟩:=op
 simp only at Ql hrb
 obtain ⟨j,rfl⟩:∃ j:Nat,ob=(j:Int):=⟨ob.toNat,by omega⟩
 have hj:j<m.aI.length:=by omega
 have kG:m.fP (j:Int)=m.aI.getD j 0:=by unfold MS.fP;rw [abB]
 simp only [kG]
 obtain ⟨W2,hW2⟩:∃ W2,W2=fZ w [([aF g.M],31),([ah ok,ah oa,ah (j:Int),ah oc],45)]:=⟨_,rfl⟩
 have hc2:=gJ (o:=o) [([aF g.M],31),([ah ok,ah oa,ah (j:Int),ah oc],45)] w h.sh.fK
 rw [<- hW2] at hc2
 obtain ⟨b0,b1,e,⟨o0,k0⟩,⟨o1,k1⟩⟩:=caps2 hc2.1
 simp only [o7,List.cons.injEq] at e
 obtain ⟨rfl,rfl,_⟩:=e
 have HW2:Hid ((w.alloc (.cells #[aF g.M] 31)).alloc (.cells #[ah ok,ah oa,ah (j:Int),ah oc] 45)=W2):=by rw [hW2];rfl
 have h2:=h.still hc2.2
 have ka:∀ x,aj aA W2 (W2.alloc x):=fun x=>(aj.refl _ _).alloc x
 have c0:W2.cell? ⟨w.heap.size,0,none⟩=some (ak g.M):=k0.cell 0 rfl
 have p2:W2.cell? ⟨w.heap.size+1,2,none⟩=some (ah (j:Int)):=k1.cell 2 rfl
 have c9:=h2.c9
 have cj:=h2.fP j hj
 have c0a:=fun x=>(ka x).still c0
 have Xx:=fun x=>(ka x).still p2
 have Xy:=fun x=>(ka x).still c9
 have Xz:=fun x=>(ka x).still cj
 have Ag:(j:Int)<(m.aI.length:Int):=by omega
 have hj0:(0:Int)<=(j:Int):=by omega
 have hle:=h.EP
 have hmf:=oH
 obtain ⟨W4,fC⟩:∃ W4,W4=(W2.alloc (.cells #[ah (m.aI.getD j 0:Nat)] 3)).drew:=⟨_,rfl⟩
 have k24:aj aA W2 W4:=by rw [fC];exact (ka _).drew
 have k4:=hc2.2.trans k24
 have hb4:aB W4 W2.heap.size [ah (m.aI.getD j 0:Nat)] 3:=by rw [fC];exact (aj.refl aA _).drew.aC (aB.aW W2 _ _) (fun f=>f)
 have d0:W4.cell? ⟨w.heap.size,0,none⟩=some (ak g.M):=(k24.aC k0 (fun f=>f)).cell 0 rfl
 have d1:=hb4.cell 0 rfl
 have d3:=(k24.aC k1 (fun f=>f)).cell 3 rfl
 have HF:Hid (Calls ay 167 #[ak g.M,ah (m.aI.getD j 0:Nat),ah oc,.func (.func 168) #[] #[ak w.heap.size,ak W2.heap.size,ak (w.heap.size+1)]] W4 (fun e w'=>∃ iP,e = .returned iP/\(iP = .nilFunc\/∃ (fn:Nat) (caps:Array Value),iP = .func (.func fn) #[] caps)/\aG o w G g nv m.id (jA s m (m.aI.getD j 0) oc (.load ⟨ok,oa,(j:Int),oc⟩ (m.aI.getD j 0))) (.returned iP) w')):=by
  have hcl:bG o W4 g.Nt g.M (.load ⟨ok,oa,(j:Int),oc⟩ (m.aI.getD j 0)) (.func (.func 168) #[] #[ak w.heap.size,ak W2.heap.size,ak (w.heap.size+1)]) :=
   ⟨[w.heap.size,W2.heap.size,w.heap.size+1],rfl,_,_,rfl,o0,k24.aC k0 (fun f=>f),_,_,rfl,h.sh.fK _ hc2.2.size,hb4,_,_,rfl,o1,k24.aC k1 (fun f=>f),rfl⟩
  refine (Ak (h.still k4) (m.aI.getD j 0) oc _ _ hcl hres).mono ?_
  intro e w' hp
  have hp2:=hp.after k4.bU
  obtain ⟨o',iP,rfl,e2,h1,hn,kk⟩:=id hp2
  exact ⟨iP,rfl,hn.form,hp2⟩
 have Aq:=au fC
 generalize jA s m (m.aI.getD j 0) oc (.load ⟨ok,oa,(j:Int),oc⟩ (m.aI.getD j 0))=R at *
 generalize m.aI.getD j 0=x at *
 generalize m.aI.length=n at *
 generalize m.id=mi at *
 clear hc2 hW2 fC h h2 ka k0 k1 k24 k4 hb4 o0 o1 hj kG hrb hres
 simp only [bQ.cells]
 go_enter func136,ntmps136
 go_wp2_with fail
 rw [HW2.out]
 go_region
 rw [<- Aq.out]
 clear c0 p2 c9 cj c0a Xx Xy Xz Aq HW2
 go_wp2_with fail
 refine HF.out.mono ?_
 rintro e w5 ⟨iP,rfl,hf,hp⟩
 have HP:=au hp
 clear hp HF d0 d1 d3
 rcases hf with rfl|⟨fn,caps,rfl⟩
 all_goals
  go_wp2_with fail
  go_ret
  exact HP.out
end
section
variable {o:Ow} {w w':World} {G:eH} {g:MG} {s:Sh} {m:MS} {nv:Value}
theorem Qs (h:aQ o w G g s m none nv) (op:bQ) (Ql:0<=op.b) (hrb:op.b<m.aI.length):Calls ay 139 #[ak g.M,.agg op.cells.toArray] w (aG o w G g nv m.id ⟨s,m,m.ni (m.fP op.b) (.cell op.a (m.fP op.b)),none⟩):=by
 obtain ⟨ok,oa,ob,oc⟩:=op
 simp only at Ql hrb
 obtain ⟨j,rfl⟩:∃ j:Nat,ob=(j:Int):=⟨ob.toNat,by omega⟩
 have hj:j<m.aI.length:=by omega
 have kG:m.fP (j:Int)=m.aI.getD j 0:=by unfold MS.fP;rw [abB]
 simp only [kG]
 obtain ⟨W2,hW2⟩:∃ W2,W2=fZ w [([aF g.M],31),([ah ok,ah oa,ah (j:Int),ah oc],45)]:=⟨_,rfl⟩
 have hc2:=gJ (o:=o) [([aF g.M],31),([ah ok,ah oa,ah (j:Int),ah oc],45)] w h.sh.fK
 rw [<- hW2] at hc2
 obtain ⟨b0,b1,e,⟨o0,k0⟩,⟨o1,k1⟩⟩:=caps2 hc2.1
 simp only [o7,List.cons.injEq] at e
 obtain ⟨rfl,rfl,_⟩:=e
 have HW2:Hid ((w.alloc (.cells #[aF g.M] 31)).alloc (.cells #[ah ok,ah oa,ah (j:Int),ah oc] 45)=W2):=by rw [hW2];rfl
 have h2:=h.still hc2.2
 have ka:∀ x,aj aA W2 (W2.alloc x):=fun x=>(aj.refl _ _).alloc x
 have c0:W2.cell? ⟨w.heap.size,0,none⟩=some (ak g.M):=k0.cell 0 rfl
 have p2:W2.cell? ⟨w.heap.size+1,2,none⟩=some (ah (j:Int)):=k1.cell 2 rfl
 have c9:=h2.c9
 have cj:=h2.fP j hj
 have c0a:=fun x=>(ka x).still c0
 have Xx:=fun x=>(ka x).still p2
 have Xy:=fun x=>(ka x).still c9
 have Xz:=fun x=>(ka x).still cj
 have Ag:(j:Int)<(m.aI.length:Int):=by omega
 have hj0:(0:Int)<=(j:Int):=by omega
 have hle:=h.EP
 have hmf:=oH
 obtain ⟨W4,fC⟩:∃ W4,W4=(W2.alloc (.cells #[ah (m.aI.getD j 0:Nat)] 3)).drew:=⟨_,rfl⟩
 have k24:aj aA W2 W4:=by rw [fC];exact (ka _).drew
 have k4:=hc2.2.trans k24
 have hb4:aB W4 W2.heap.size [ah (m.aI.getD j 0:Nat)] 3:=by rw [fC];exact (aj.refl aA _).drew.aC (aB.aW W2 _ _) (fun f=>f)
 have d0:W4.cell? ⟨w.heap.size,0,none⟩=some (ak g.M):=(k24.aC k0 (fun f=>f)).cell 0 rfl
 have d1:=hb4.cell 0 rfl
 have HF:Hid (Calls ay 171 #[ak g.M,ah (m.aI.getD j 0:Nat),.func (.func 176) #[] #[ak w.heap.size,ak (w.heap.size+1)],.func (.func 177) #[] #[ak w.heap.size,ak (w.heap.size+1),ak W2.heap.size]] W4 (fun e w'=>∃ fn caps,e = .returned (.func (.func fn) #[] caps)/\aG o w G g nv m.id ⟨s,m,m.ni (m.aI.getD j 0) (.cell oa (m.aI.getD j 0)),none⟩ (.returned (.func (.func fn) #[] caps)) w')):=by
  have hr:nK o W4 g.M (.cell oa (m.aI.getD j 0)) (.func (.func 176) #[] #[ak w.heap.size,ak (w.heap.size+1)]) :=
   ⟨⟨ok,oa,(j:Int),oc⟩,rfl,[w.heap.size,w.heap.size+1],rfl,_,_,rfl,o0,k24.aC k0 (fun f=>f),_,_,rfl,o1,k24.aC k1 (fun f=>f),rfl⟩
  have hw:nN o W4 g.M (.cell oa (m.aI.getD j 0)) (.func (.func 177) #[] #[ak w.heap.size,ak (w.heap.size+1),ak W2.heap.size]) :=
   ⟨⟨ok,oa,(j:Int),oc⟩,rfl,[w.heap.size,w.heap.size+1,W2.heap.size],rfl,_,_,rfl,o0,k24.aC k0 (fun f=>f),_,_,rfl,o1,k24.aC k1 (fun f=>f),_,_,rfl,h.sh.fK _ hc2.2.size,hb4,rfl⟩
  refine (Il (h.still k4) _ (m.aI.getD j 0) _ _ hr hw).mono ?_
  rintro e w' ⟨fn,caps,rfl,h1,k5⟩
  exact ⟨fn,caps,rfl,aG.Xw h h1 (k4.trans k5)⟩
 have Aq:=au fC
 generalize (⟨s,m,m.ni (m.aI.getD j 0) (.cell oa (m.aI.getD j 0)),none⟩:lZ)=R at *
 generalize m.aI.getD j 0=x at *
 generalize m.aI.length=n at *
 generalize m.id=mi at *
 clear hc2 hW2 fC h h2 ka k0 k1 k24 k4 hb4 o0 o1 hj kG hrb
 simp only [bQ.cells]
 go_enter func139,ntmps139
 go_wp2_with fail
 rw [HW2.out]
 go_region
 rw [<- Aq.out]
 clear c0 p2 c9 cj c0a Xx Xy Xz Aq HW2
 go_wp2_with fail
 refine HF.out.mono ?_
 rintro e w5 ⟨fn,caps,rfl,hp⟩
 have HP:=au hp
 clear hp HF d0 d1
 go_wp2_with fail
 go_ret
 exact HP.out
end
section
variable {o:Ow} {w w':World} {G:eH} {g:MG} {s:Sh} {m:MS} {nv:Value}
theorem Di (h:aQ o w G g s m none nv) (hres:m.aU.length<=1000000000) {W4:World} (k4:aj aA w W4) (op:bQ) (x y bM bo ba bv:Nat) (o0:o bM=0) (o1:o bo=0) (o2:o ba=0) (o3:o bv=0) (k0:aB W4 bM [aF g.M] 31) (k1:aB W4 bo op.cells 45) (k2:aB W4 ba [ah (x:Int)] 3) (k3:aB W4 bv [ah (y:Int)] 3) :
 Calls ay 171 #[ak g.M,ah (y:Int),.func (.func 170) #[] #[ak bM,ak ba,ak bo],.func (.func 172) #[] #[ak bM,ak ba,ak bo,ak bv]] W4.drew fun e w5=>∃ fn caps,e = .returned (.func (.func fn) #[] caps) /\
  (w5.cell? ⟨bM,0,none⟩=some (ak g.M)/\w5.cell? ⟨ba,0,none⟩=some (ah (x:Int))/\w5.cell? ⟨bo,2,none⟩=some (ah op.b)/\w5.cell? ⟨bv,0,none⟩=some (ah (y:Int))) /\
  Hid (Calls ay 167 #[ak g.M,ah (x:Int),ah op.b,.func (.func fn) #[] caps] w5 fun e w6=>∃ iP,e = .returned iP/\(iP = .nilFunc\/∃ (fn:Nat) (caps:Array Value),iP = .func (.func fn) #[] caps)/\(w6.cell? ⟨bM,0,none⟩=some (ak g.M)/\w6.cell? ⟨ba,0,none⟩=some (ah (x:Int))/\w6.cell? ⟨bo,2,none⟩=some (ah op.b)/\w6.cell? ⟨bv,0,none⟩=some (ah (y:Int)))/\aG o w G g nv m.id (jA s m x op.b (m.ni y (.field x op.b y))) (.returned iP) w6):=by
 have kd:aj aA W4 W4.drew:=(aj.refl aA W4).drew
 have ZO:=k4.trans kd
 have q0:=kd.aC k0 (fun f=>f)
 have q1:=kd.aC k1 (fun f=>f)
 have q2:=kd.aC k2 (fun f=>f)
 have q3:=kd.aC k3 (fun f=>f)
 have hr:nK o W4.drew g.M (.field x op.b y) (.func (.func 170) #[] #[ak bM,ak ba,ak bo]):=⟨op,rfl,[bM,ba,bo],rfl,_,_,rfl,o0,q0,_,_,rfl,o2,q2,_,_,rfl,o1,q1,rfl⟩
 have hw:nN o W4.drew g.M (.field x op.b y) (.func (.func 172) #[] #[ak bM,ak ba,ak bo,ak bv]):=⟨op,rfl,[bM,ba,bo,bv],rfl,_,_,rfl,o0,q0,_,_,rfl,o2,q2,_,_,rfl,o1,q1,_,_,rfl,o3,q3,rfl⟩
 have hd:=h.still ZO
 refine (Il hd _ y _ _ hr hw).mono ?_
 rintro e w5 ⟨fn,caps,rfl,h5,k5⟩
 have k05:=ZO.trans k5
 have r0:=k5.aC q0 (fun f=>f)
 have r1:=k5.aC q1 (fun f=>f)
 have r2:=k5.aC q2 (fun f=>f)
 have r3:=k5.aC q3 (fun f=>f)
 refine ⟨fn,caps,rfl,⟨r0.cell 0 rfl,r2.cell 0 rfl,r1.cell 2 rfl,r3.cell 0 rfl⟩,?_⟩
 refine (Ak (h.still k05) x op.b _ _ h5 hres).mono ?_
 intro e w6 hp
 obtain ⟨o',iP,rfl,e2,h1,hn,kk⟩:=id hp
 exact ⟨iP,rfl,hn.form,⟨(r0.aP kk o0 (bD _)).cell 0 rfl,(r2.aP kk o2 (bD _)).cell 0 rfl,(r1.aP kk o1 (bD _)).cell 2 rfl,(r3.aP kk o3 (bD _)).cell 0 rfl⟩,hp.after k05.bU⟩
theorem Ko (h:aQ o w G g s m none nv) (op:bQ) (h0a:0<=op.a) (hra:op.a<m.aI.length) (h0c:0<=op.c) (hrc:op.c<m.aI.length) (hres:m.aU.length<=1000000000):Calls ay 137 #[ak g.M,.agg op.cells.toArray] w (aG o w G g nv m.id (jA s m (m.fP op.a) op.b (m.ni (m.fP op.c) (.field (m.fP op.a) op.b (m.fP op.c))))):=by
 obtain ⟨ok,oa,ob,oc⟩:=op
 simp only at h0a hra h0c hrc
 obtain ⟨j,rfl⟩:∃ j:Nat,oa=(j:Int):=⟨oa.toNat,by omega⟩
 obtain ⟨i,rfl⟩:∃ i:Nat,oc=(i:Int):=⟨oc.toNat,by omega⟩
 have hj:j<m.aI.length:=by omega
 have hi:i<m.aI.length:=by omega
 have kG:m.fP (j:Int)=m.aI.getD j 0:=by unfold MS.fP;rw [abB]
 have UY:m.fP (i:Int)=m.aI.getD i 0:=by unfold MS.fP;rw [abB]
 simp only [kG,UY]
 obtain ⟨W2,hW2⟩:∃ W2,W2=fZ w [([aF g.M],31),([ah ok,ah (j:Int),ah ob,ah (i:Int)],45)]:=⟨_,rfl⟩
 have hc2:=gJ (o:=o) [([aF g.M],31),([ah ok,ah (j:Int),ah ob,ah (i:Int)],45)] w h.sh.fK
 rw [<- hW2] at hc2
 obtain ⟨b0,b1,e,⟨o0,k0⟩,⟨o1,k1⟩⟩:=caps2 hc2.1
 simp only [o7,List.cons.injEq] at e
 obtain ⟨rfl,rfl,_⟩:=e
 have HW2:Hid ((w.alloc (.cells #[aF g.M] 31)).alloc (.cells #[ah ok,ah (j:Int),ah ob,ah (i:Int)] 45)=W2):=by rw [hW2];rfl
 have h2:=h.still hc2.2
 have ka:∀ x,aj aA W2 (W2.alloc x):=fun x=>(aj.refl _ _).alloc x
 have kb:∀ x y,aj aA W2 ((W2.alloc x).alloc y):=fun x y=>((aj.refl _ _).alloc x).alloc y
 have c0:W2.cell? ⟨w.heap.size,0,none⟩=some (ak g.M):=k0.cell 0 rfl
 have p1:W2.cell? ⟨w.heap.size+1,1,none⟩=some (ah (j:Int)):=k1.cell 1 rfl
 have p3:W2.cell? ⟨w.heap.size+1,3,none⟩=some (ah (i:Int)):=k1.cell 3 rfl
 have c9:=h2.c9
 have cj:=h2.fP j hj
 have ci:=h2.fP i hi
 have HB:Hid (∀ x y,((W2.alloc x).alloc y).cell? ⟨w.heap.size,0,none⟩=some (ak g.M)/\((W2.alloc x).alloc y).cell? ⟨w.heap.size+1,1,none⟩=some (ah (j:Int))/\((W2.alloc x).alloc y).cell? ⟨w.heap.size+1,3,none⟩=some (ah (i:Int))/\((W2.alloc x).alloc y).cell? ⟨g.M,9,none⟩=some (.slice (some ⟨g.X,0,none⟩) m.aI.length m.aI.length)/\((W2.alloc x).alloc y).cell? ⟨g.X,j,none⟩=some (ah (m.aI.getD j 0:Nat))/\((W2.alloc x).alloc y).cell? ⟨g.X,i,none⟩=some (ah (m.aI.getD i 0:Nat))):=fun x y=>⟨(kb x y).still c0,(kb x y).still p1,(kb x y).still p3,(kb x y).still c9,(kb x y).still cj,(kb x y).still ci⟩
 have HA:Hid (∀ x,(W2.alloc x).cell? ⟨w.heap.size,0,none⟩=some (ak g.M)/\(W2.alloc x).cell? ⟨w.heap.size+1,1,none⟩=some (ah (j:Int))/\(W2.alloc x).cell? ⟨w.heap.size+1,3,none⟩=some (ah (i:Int))/\(W2.alloc x).cell? ⟨g.M,9,none⟩=some (.slice (some ⟨g.X,0,none⟩) m.aI.length m.aI.length)/\(W2.alloc x).cell? ⟨g.X,j,none⟩=some (ah (m.aI.getD j 0:Nat))/\(W2.alloc x).cell? ⟨g.X,i,none⟩=some (ah (m.aI.getD i 0:Nat))):=fun x=>⟨(ka x).still c0,(ka x).still p1,(ka x).still p3,(ka x).still c9,(ka x).still cj,(ka x).still ci⟩
 have Ag:(j:Int)<(m.aI.length:Int):=by omega
 have hj0:(0:Int)<=(j:Int):=by omega
 have UQ:(i:Int)<(m.aI.length:Int):=by omega
 have hi0:(0:Int)<=(i:Int):=by omega
 have hle:=h.EP
 have hmf:=oH
 obtain ⟨V1,hV1⟩:∃ V,V=((W2.alloc (.cells #[ah (m.aI.getD j 0:Nat)] 3)).alloc (.cells #[ah (m.aI.getD i 0:Nat)] 3)).drew:=⟨_,rfl⟩
 have LP:aj aA W2 V1:=by rw [hV1];exact (kb _ _).drew
 have hA1:aB V1 W2.heap.size [ah (m.aI.getD j 0:Nat)] 3:=by rw [hV1];exact (aj.refl aA _).drew.aC ((aB.aW W2 _ _).alloc _) (fun f=>f)
 have hB1:aB V1 (W2.heap.size+1) [ah (m.aI.getD i 0:Nat)] 3:=by
  rw [hV1]
  have h9:=aB.aW (W2.alloc (.cells #[ah (m.aI.getD j 0:Nat)] 3)) [ah (m.aI.getD i 0:Nat)] 3
  rw [abw] at h9
  exact (aj.refl aA _).drew.aC h9 (fun f=>f)
 have T1:=au (Di h hres (hc2.2.trans LP) ⟨ok,(j:Int),ob,(i:Int)⟩ (m.aI.getD j 0) (m.aI.getD i 0) w.heap.size (w.heap.size+1) W2.heap.size (W2.heap.size+1) o0 o1 (h.sh.fK _ (by have:=hc2.2.size;omega)) (h.sh.fK _ (by have:=hc2.2.size;omega)) (LP.aC k0 (fun f=>f)) (LP.aC k1 (fun f=>f)) hA1 hB1)
 have E1:Hid (V1.cell? ⟨w.heap.size,0,none⟩=some (ak g.M)/\V1.cell? ⟨W2.heap.size,0,none⟩=some (ah (m.aI.getD j 0:Nat))/\V1.cell? ⟨w.heap.size+1,2,none⟩=some (ah ob)/\V1.cell? ⟨(W2.heap.size+1),0,none⟩=some (ah (m.aI.getD i 0:Nat))):=⟨(LP.aC k0 (fun f=>f)).cell 0 rfl,(hA1).cell 0 rfl,(LP.aC k1 (fun f=>f)).cell 2 rfl,(hB1).cell 0 rfl⟩
 have XA:=au hV1
 obtain ⟨V2,hV2⟩:∃ V,V=((W2.alloc (.cells #[ah (m.aI.getD i 0:Nat)] 3)).alloc (.cells #[ah (m.aI.getD j 0:Nat)] 3)).drew:=⟨_,rfl⟩
 have Dh:aj aA W2 V2:=by rw [hV2];exact (kb _ _).drew
 have hA2:aB V2 W2.heap.size [ah (m.aI.getD i 0:Nat)] 3:=by rw [hV2];exact (aj.refl aA _).drew.aC ((aB.aW W2 _ _).alloc _) (fun f=>f)
 have hB2:aB V2 (W2.heap.size+1) [ah (m.aI.getD j 0:Nat)] 3:=by
  rw [hV2]
  have h9:=aB.aW (W2.alloc (.cells #[ah (m.aI.getD i 0:Nat)] 3)) [ah (m.aI.getD j 0:Nat)] 3
  rw [abw] at h9
  exact (aj.refl aA _).drew.aC h9 (fun f=>f)
 have T2:=au (Di h hres (hc2.2.trans Dh) ⟨ok,(j:Int),ob,(i:Int)⟩ (m.aI.getD j 0) (m.aI.getD i 0) w.heap.size (w.heap.size+1) (W2.heap.size+1) W2.heap.size o0 o1 (h.sh.fK _ (by have:=hc2.2.size;omega)) (h.sh.fK _ (by have:=hc2.2.size;omega)) (Dh.aC k0 (fun f=>f)) (Dh.aC k1 (fun f=>f)) hB2 hA2)
 have E2:Hid (V2.cell? ⟨w.heap.size,0,none⟩=some (ak g.M)/\V2.cell? ⟨(W2.heap.size+1),0,none⟩=some (ah (m.aI.getD j 0:Nat))/\V2.cell? ⟨w.heap.size+1,2,none⟩=some (ah ob)/\V2.cell? ⟨W2.heap.size,0,none⟩=some (ah (m.aI.getD i 0:Nat))):=⟨(Dh.aC k0 (fun f=>f)).cell 0 rfl,(hB2).cell 0 rfl,(Dh.aC k1 (fun f=>f)).cell 2 rfl,(hA2).cell 0 rfl⟩
 have Qv:=au hV2
 generalize jA s m (m.aI.getD j 0) ob (m.ni (m.aI.getD i 0) (.field (m.aI.getD j 0) ob (m.aI.getD i 0)))=R at *
 generalize m.id=mi at *
 clear hV1 hV2 LP Dh hA1 hB1 hA2 hB2
 generalize m.aI.getD j 0=x at *
 generalize m.aI.getD i 0=y at *
 generalize m.aI.length=n at *
 clear hc2 hW2 h h2 ka kb hres k0 k1 o0 o1 hj kG hi UY hra hrc
 simp only [bQ.cells]
 go_enter func137,ntmps137
 go_wp2_with fail
 rw [HW2.out]
 go_region_held3 (fun w'=>w'.cell? ⟨w.heap.size,0,none⟩=some (ak g.M)/\w'.cell? ⟨w.heap.size+1,1,none⟩=some (ah (j:Int))/\w'.cell? ⟨w.heap.size+1,3,none⟩=some (ah (i:Int))/\w'.cell? ⟨g.M,9,none⟩=some (.slice (some ⟨g.X,0,none⟩) n n)/\w'.cell? ⟨g.X,j,none⟩=some (ah (x:Nat))/\w'.cell? ⟨g.X,i,none⟩=some (ah (y:Nat)))
  (first | exact ⟨c0, p1, p3, c9, cj, ci⟩ | exact HA.out _ | exact HB.out _ _ | fail "oO")
  (fail "vC")
 ·rw [<- XA.out]
  obtain ⟨e0,e1,e2,e3⟩:=E1.out
  have T:=T1
  clear c0 p1 p3 c9 cj ci HA HB T1 T2 E1 E2 XA Qv HW2 Ag hj0 UQ hi0
  go_wp2_with fail
  go_region_held3 (fun w'=>w'.cell? ⟨w.heap.size,0,none⟩=some (ak g.M)/\w'.cell? ⟨W2.heap.size,0,none⟩=some (ah (x:Nat))/\w'.cell? ⟨w.heap.size+1,2,none⟩=some (ah ob)/\w'.cell? ⟨W2.heap.size+1,0,none⟩=some (ah (y:Nat)))
   (first | exact ⟨e0, e1, e2, e3⟩ | exact h5.out | exact h6.out | fail "oO")
   (first
    | (refine T.out.mono ?_
       rintro e w5 ⟨fn,caps,rfl,h5',EW⟩
       have h5:=au h5'
       clear h5')
    | (refine EW.out.mono ?_
       rintro e w6 ⟨iP,rfl,hf,h6',hp⟩
       have h6:=au h6'
       have HP:=au hp
       have Qw:=au hf
       clear h6' hp hf)
    | fail "vC")
  clear T EW e0 e1 e2 e3 h5 h6
  rcases Qw.out with rfl|⟨fn2,caps2,rfl⟩
  all_goals
   clear Qw
   go_wp2_with fail
   go_ret
   exact HP.out
 ·rw [<- Qv.out]
  obtain ⟨e0,e1,e2,e3⟩:=E2.out
  have T:=T2
  clear c0 p1 p3 c9 cj ci HA HB T1 T2 E1 E2 XA Qv HW2 Ag hj0 UQ hi0
  go_wp2_with fail
  go_region_held3 (fun w'=>w'.cell? ⟨w.heap.size,0,none⟩=some (ak g.M)/\w'.cell? ⟨W2.heap.size+1,0,none⟩=some (ah (x:Nat))/\w'.cell? ⟨w.heap.size+1,2,none⟩=some (ah ob)/\w'.cell? ⟨W2.heap.size,0,none⟩=some (ah (y:Nat)))
   (first | exact ⟨e0, e1, e2, e3⟩ | exact h5.out | exact h6.out | fail "oO")
   (first
    | (refine T.out.mono ?_
       rintro e w5 ⟨fn,caps,rfl,h5',EW⟩
       have h5:=au h5'
       clear h5')
    | (refine EW.out.mono ?_
       rintro e w6 ⟨iP,rfl,hf,h6',hp⟩
       have h6:=au h6'
       have HP:=au hp
       have Qw:=au hf
       clear h6' hp hf)
    | fail "vC")
  clear T EW e0 e1 e2 e3 h5 h6
  rcases Qw.out with rfl|⟨fn2,caps2,rfl⟩
  all_goals
   clear Qw
   go_wp2_with fail
   go_ret
   exact HP.out
end
end
section
open Go.RowKit Go.Sort
def uS:Value->Option (DataW Nat × List MemPlace)
 | .nilFunc=>some (.nil,[])
 | .func (.func f) a b=>if a.size=0/\b.size=0 then some (.held f,[]) else none
 | _=>none
theorem Oc {v:Value} {f:Nat} {ps:List MemPlace} (h:uS v=some (.held f,ps)):v = .func (.func f) #[] #[]:=by
 unfold uS at h
 split at h
 ·simp at h
 ·split at h
  ·rename_i h1
   simp at h
   obtain ⟨rfl,_⟩:=h
   obtain ⟨h1,h2⟩:=h1
   rw [adb h1,adb h2]
  ·simp at h
 ·simp at h
def Qx:DataW Nat:=((((((((DataW.map []).put (.int .i64 1) (.held 135)).put (.int .i64 2) (.held 136)).put (.int .i64 3) (.held 137)).put (.int .i64 4) (.held 138)).put (.int .i64 5) (.held 139)).put (.int .i64 6) (.held 140)).put (.int .i64 7) (.held 141)).put (.int .i64 8) (.held 142)
def wU (k:Int):Option Nat:=if k=1 then some 135 else if k=2 then some 136 else if k=3 then some 137 else if k=4 then some 138 else if k=5 then some 139 else if k=6 then some 140 else if k=7 then some 141 else if k=8 then some 142 else none
theorem UZ:Maps.Keyed ay 3:=Maps.int_keyed (q := .i64) (by kernel_rfl)
theorem U0:ay.underlying 177=some (.map 3 176):=by kernel_rfl
theorem o8 {w:World} {b n:Nat} {D:DataW Nat} (h:w.ownsMap ay 3 uS b n D) (hn:n<=100) (k:Int) (hk:(Lit.int .i64 k).wf=true) (f:Nat) :
 ∃ w',(Instr.mapUpdate 177 (.map (some b)) (ah k) (.func (.func f) #[] #[])).run ay w = .ok () w'/\w'.ownsMap ay 3 uS b (n+1) (D.put (.int .i64 k) (.held f))/\w.grownBy w' (some b) :=
 h.update UZ U0 (by unfold maxLen;omega) (Maps.keyOf_int_mk (q := .i64) (by kernel_rfl) hk) (show uS (.func (.func f) #[] #[])=some (.held f,[]) from rfl)
theorem Oe {w:World} {b n:Nat} (h:w.ownsMap ay 3 uS b n Qx) (k:Int) (f:Nat) (hk:wU k=some f):(Instr.lookup 177 (.map (some b)) (ah k) false).run ay w = .ok (.func (.func f) #[] #[]) w:=by
 have key:∀ k f,(Lit.int .i64 k).wf=true->Qx.atKey (.int .i64 k) .nil = .held f->(Instr.lookup 177 (.map (some b)) (ah k) false).run ay w = .ok (.func (.func f) #[] #[]) w:=fun k f hwf hat=>by
  obtain ⟨v,ps,hr,hv⟩:=h.lookup (z := .nilFunc) UZ U0 (by kernel_rfl) (zd := .nil) (zp:=[]) rfl (Maps.keyOf_int_mk (q := .i64) (by kernel_rfl) hwf)
  rw [hat] at hv
  rw [hr,Oc hv]
 unfold wU at hk
 split at hk
 ·cases hk;subst k;exact key 1 _ (by decide) rfl
 split at hk
 ·cases hk;subst k;exact key 2 _ (by decide) rfl
 split at hk
 ·cases hk;subst k;exact key 3 _ (by decide) rfl
 split at hk
 ·cases hk;subst k;exact key 4 _ (by decide) rfl
 split at hk
 ·cases hk;subst k;exact key 5 _ (by decide) rfl
 split at hk
 ·cases hk;subst k;exact key 6 _ (by decide) rfl
 split at hk
 ·cases hk;subst k;exact key 7 _ (by decide) rfl
 split at hk
 ·cases hk;subst k;exact key 8 _ (by decide) rfl
 ·cases hk
theorem Og (w:World):Calls ay 107 #[] w fun e w'=>∃ b,e = .returned (.map (some b))/\aj aA w w'/\∀ W,aj aA w' W->∀ k f,wU k=some f->(Instr.lookup 177 (.map (some b)) (ah k) false).run ay W = .ok (.func (.func f) #[] #[]) W:=by
 have hmm := @run_makeMap ay
 have h0:=World.ownsMap_made w ay 3 uS
 obtain ⟨w1,r1,h1,g1⟩:=o8 h0 (by decide) 1 (by decide) 135
 obtain ⟨w2,r2,h2,g2⟩:=o8 h1 (by decide) 2 (by decide) 136
 obtain ⟨w3,r3,h3,g3⟩:=o8 h2 (by decide) 3 (by decide) 137
 obtain ⟨w4,r4,h4,g4⟩:=o8 h3 (by decide) 4 (by decide) 138
 obtain ⟨w5,r5,h5,g5⟩:=o8 h4 (by decide) 5 (by decide) 139
 obtain ⟨w6,r6,h6,g6⟩:=o8 h5 (by decide) 6 (by decide) 140
 obtain ⟨w7,r7,h7,g7⟩:=o8 h6 (by decide) 7 (by decide) 141
 obtain ⟨w8,r8,h8,g8⟩:=o8 h7 (by decide) 8 (by decide) 142
 have hk0:aj aA w (w.alloc (.map #[] 0)):=(aj.refl _ _).alloc _
 have up:∀ {a b:World},aj aA w a->a.grownBy b (some w.heap.size)->aj aA w b:=fun ha hg=>ha.jJ hg (fun k e hk=>by injection e with e;omega)
 have HK:=au (up (up (up (up (up (up (up (up hk0 g1) g2) g3) g4) g5) g6) g7) g8)
 have HL:Hid (∀ W,aj aA w8 W->∀ k f,wU k=some f->(Instr.lookup 177 (.map (some w.heap.size)) (ah k) false).run ay W = .ok (.func (.func f) #[] #[]) W):=fun W hk k f hf =>
  Oe (h8.kept (row:=none) ⟨hk.os,hk.tape,hk.output,hk.size,fun i hi _=>hk.block i hi (fun f=>f)⟩ (by simp)) k f hf
 clear h0 h1 h2 h3 h4 h5 h6 h7 h8 g1 g2 g3 g4 g5 g6 g7 g8 hk0 up
 go_enter func107,ntmps107
 go_wp2_with fail
 go_ret
 exact ⟨_,rfl,HK.out,HL.out⟩
end
section
attribute [local go_sem] Oper.semAt_some
open Go.RowKit
section
variable {o:Ow} {w w':World} {G:eH} {g:MG} {s:Sh} {m:MS} {nv:Value}
theorem aQ.U1 {ev:Option Ev} (h:aQ o w G g s m ev nv) (c0 c1 c2 c3 c4 c5 c6:Int) (e:m.c=⟨c0,c1,c2,c3,c4,c5,c6⟩):w.cell? ⟨g.M,1,none⟩=some (ah c0)/\w.cell? ⟨g.M,2,none⟩=some (ah c1)/\w.cell? ⟨g.M,3,none⟩=some (ah c2)/\w.cell? ⟨g.M,4,none⟩=some (ah c3)/\w.cell? ⟨g.M,5,none⟩=some (ah c4)/\w.cell? ⟨g.M,6,none⟩=some (ah c5)/\w.cell? ⟨g.M,7,none⟩=some (ah c6):=by
 refine ⟨h.cell 1 _ ?_,h.cell 2 _ ?_,h.cell 3 _ ?_,h.cell 4 _ ?_,h.cell 5 _ ?_,h.cell 6 _ ?_,h.cell 7 _ ?_⟩<;>intro pv rv<;>simp [mY,e,aS.cells]
theorem nZ (h:aQ o w G g s m none nv) (op:bQ) (he:dG m.c op=0) (f:Nat) (hf:wU op.k=some f) (hcf:∀ (args:Array Value) (w:World),(callFunc f args).run ay w = .ok (.enter f args) w) (R:lZ)
 (U2:∀ W,aj aA w W->Calls ay f #[ak g.M,.agg op.cells.toArray] W (aG o W G g nv m.id R)) :
 Calls ay 69 #[ak g.M,.agg op.cells.toArray] w (aG o w G g nv m.id R):=by
 obtain ⟨W1,hW1⟩:∃ W1,W1=w.alloc (.cells op.cells.toArray 45):=⟨_,rfl⟩
 have k1:aj aA w W1:=by rw [hW1];exact (aj.refl _ _).alloc _
 have hb1:aB W1 w.heap.size op.cells 45:=by rw [hW1];exact aB.aW w _ _
 have h1:=h.still k1
 have ho:o w.heap.size=0:=h.sh.fK _ (Nat.le_refl _)
 have kd:aj aA W1 W1.drew:=(aj.refl aA W1).drew
 have HD:Hid (∀ W,aj aA w W->aB W w.heap.size op.cells 45->Calls ay f #[ak g.M,.agg op.cells.toArray] W fun e w'=>∃ iP,e = .returned iP/\(iP = .nilFunc\/∃ (fn:Nat) (caps:Array Value),iP = .func (.func fn) #[] caps)/\aB w' w.heap.size op.cells 45/\aG o w G g nv m.id R (.returned iP) w'):=fun W hk hb=>by
  refine (U2 W hk).mono ?_
  intro e w6 hp
  obtain ⟨o',iP,rfl,e2,h1,hn,kk⟩:=id hp
  exact ⟨iP,rfl,hn.form,hb.aP kk ho (bD _),hp.after hk.bU⟩
 have HC:Hid (Calls ay 105 #[.agg m.c.cells.toArray,.agg op.cells.toArray] W1.drew fun e w'=>e = .returned (ah 0)/\aj aA w w'/\aB w' w.heap.size op.cells 45):=by
  refine (EI m.c op W1.drew ((h.sh.heap.lW.aH k1).aH kd)).mono ?_
  rintro e w' ⟨rfl,k2⟩
  rw [he]
  exact ⟨rfl,k1.trans (kd.trans k2),(kd.trans k2).aC hb1 (fun f=>f)⟩
 rcases hcc:m.c with ⟨c0,c1,c2,c3,c4,c5,c6⟩
 rw [hcc] at HC
 obtain ⟨m1,m2,m3,m4,m5,m6,m7⟩:=h1.U1 c0 c1 c2 c3 c4 c5 c6 hcc
 obtain ⟨ok,oa,ob,oc⟩:=op
 simp only [bQ.cells,aS.cells] at *
 have y0:=hb1.cell 0 rfl
 have y1:=hb1.cell 1 rfl
 have y2:=hb1.cell 2 rfl
 have y3:=hb1.cell 3 rfl
 have HW1:=au hW1
 have qY:=au hcf
 generalize m.id=mi at *
 clear h h1 hW1 he U2 kd k1 hb1 hcf
 go_enter func69,ntmps69
 go_wp2_with fail
 rw [<- HW1.out]
 refine aN 5 rfl (by kernel_rfl) (by kernel_rfl) (fun K hK=>?_)
 change wpStill _ _ (abx _) _ _ _
 simp only [List.take_succ_cons,aby,abz,abt] at hK ⊢
 repeat still_step
 refine wpStill_nil ?_
 change ite _ (Oper.wp _ _ _ _ _ _) _
 go_simp
 refine HC.out.mono ?_
 rintro e w2 ⟨rfl,k2,hb2⟩
 refine hK _ _ ?_
 clear hK K
 have K2:=au k2
 have B2:=au hb2
 clear k2 hb2 HC y0 y1 y2 y3 m1 m2 m3 m4 m5 m6 m7
 repeat still_step
 refine wpStill_nil ?_
 go_wp2_with fail
 have y0:=B2.out.cell 0 rfl
 have y1:=B2.out.cell 1 rfl
 have y2:=B2.out.cell 2 rfl
 have y3:=B2.out.cell 3 rfl
 go_region_held3 (fun w'=>w'.cell? ⟨w.heap.size,0,none⟩=some (ah ok)/\w'.cell? ⟨w.heap.size,1,none⟩=some (ah oa)/\w'.cell? ⟨w.heap.size,2,none⟩=some (ah ob)/\w'.cell? ⟨w.heap.size,3,none⟩=some (ah oc))
  (first | exact ⟨y0, y1, y2, y3⟩ | exact ⟨HB3.out.cell 0 rfl, HB3.out.cell 1 rfl, HB3.out.cell 2 rfl, HB3.out.cell 3 rfl⟩ | exact ⟨HB4.out.cell 0 rfl, HB4.out.cell 1 rfl, HB4.out.cell 2 rfl, HB4.out.cell 3 rfl⟩ | fail "oO")
  (first
   | (go_at_call 107
      refine (Og _).mono ?_
      rintro e w3 ⟨bm,rfl,hk3,hlook⟩
      have hl:=hlook w3 (aj.refl _ _) ok f hf
      have hcf:=qY.out
      have HB3:=au (((aj.refl aA w2).drew.trans hk3).aC B2.out (fun f=>f))
      have lT:=au (K2.out.trans ((aj.refl aA w2).drew.trans hk3))
      clear hlook hk3)
   | (refine (HD.out _ lT.out HB3.out).mono ?_
      rintro e w4 ⟨iP,rfl,hfm,hb4,hp⟩
      have HB4:=au hb4
      have HP:=au hp
      have HFm:=au hfm
      clear hb4 hp hfm)
   | fail "vC")
 clear y0 y1 y2 y3 hcf hl HD qY HB3 HB4 lT
 rcases HFm.out with rfl|⟨fn,caps,rfl⟩
 all_goals
  go_wp2_with fail
  go_ret
  exact HP.out
end
end
end Go.Proofs.YtobfpmijbfgmeabGreatDoor
