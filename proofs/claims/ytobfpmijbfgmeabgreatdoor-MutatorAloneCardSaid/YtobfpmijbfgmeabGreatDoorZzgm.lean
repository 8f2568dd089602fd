/- Parts of the walk. No conditions. -/
import Derived.Test.YtobfpmijbfgmeabGreatDoorZzgl
namespace Go.Proofs.YtobfpmijbfgmeabGreatDoor
open _root_.Go.World renaming drew->abx
open _root_.Int renaming toNat_natCast->abB
open _root_.List renaming drop_succ_cons->abz,drop_zero->abt,take_zero->aby
open _root_.Nat renaming lt_of_lt_of_le->abj
open _root_.Go.Proofs.Tryz hiding prog
open _root_.Go.Proofs.Tryz renaming prog->ay
set_option maxRecDepth 4000
set_option maxHeartbeats 8000000
section
attribute [local go_sem] Oper.semAt_some
open Go.RowKit
section
variable {o:Ow} {w w':World} {G:eH} {g:MG} {s:Sh} {m:MS} {ev:Option Ev} {nv0:Value}
theorem CX (h:aQ o w G g s m ev nv0) (c:Nat) (t:MD) (tv:Value) (ht:bG o w g.Nt g.M t tv):Calls ay 102 #[ak g.Nt,ah (c:Int),tv] w fun e w'=>∃ nv,e = .returned nv/\bG o w' g.Nt g.M (m.nJ c t) nv/\aj aA w w':=by
 have hc:=gJ (o:=o) [([aF g.Nt],90),([ah (c:Int)],3),([tv],95)] w h.sh.fK
 obtain ⟨W,hW⟩:∃ W,W=fZ w [([aF g.Nt],90),([ah (c:Int)],3),([tv],95)]:=⟨_,rfl⟩
 rw [<- hW] at hc
 have HL:=au (EL (h.still hc.2).bJ)
 have n1:∀ a b c,(((w.alloc a).alloc b).alloc c).cell? ⟨g.Nt,1,none⟩=some (ak g.Bf):=fun a b c=>(h.still ((((aj.refl aA w).alloc a).alloc b).alloc c)).nt.cell 1 rfl
 have EM:W=((w.alloc (.cells #[ak g.Nt] 90)).alloc (.cells #[ah (c:Int)] 3)).alloc (.cells #[tv] 95):=by rw [hW];rfl
 have uQ:=au EM
 clear EM
 have hform:=ht.form
 obtain ⟨b0,r0,e0,o0,k0,hc1⟩:=hc.1
 obtain ⟨b1,r1,e1,o1,k1,hc2⟩:=hc1
 obtain ⟨b2,r2,e2,o2,k2,hc3⟩:=hc2
 simp only [o7,List.cons.injEq] at e0
 obtain ⟨rfl,rfl⟩:=e0
 simp only [List.cons.injEq] at e1
 obtain ⟨rfl,rfl⟩:=e1
 simp only [List.cons.injEq] at e2
 obtain ⟨rfl,rfl⟩:=e2
 have c0:W.cell? ⟨w.heap.size,0,none⟩=some (ak g.Nt):=k0.cell 0 rfl
 have c2:=k2.cell 0 rfl
 have hmf:∀ (fn:Fn) (first aJ:Array Value) (w:World),(Instr.makeFunc fn first aJ).run ay w = .ok (.func fn first aJ) w:=fun _ _ _ _=>rfl
 by_cases hb:m.bJ=[]
 ·have HE:Hid (bG o W g.Nt g.M (m.nJ c t) tv/\aj aA w W):=by
   refine ⟨?_,hc.2⟩
   unfold MS.nJ
   rw [aV hb]
   exact ht.still hc.2
  rw [hb] at HL
  clear h ht hc hW k0 k1 k2 o0 o1 o2 hb
  rcases hform with rfl|⟨fn,caps,rfl⟩
  all_goals
   go_enter func102,ntmps102
   go_wp2_with fail
   rw [<- uQ.out]
   refine HL.out.mono ?_
   rintro e w2 ⟨rfl,rfl⟩
   go_wp2_with fail
   go_ret
   exact ⟨_,rfl,HE.out.1,HE.out.2⟩
 ·have HE:Hid (bG o W g.Nt g.M (m.nJ c t) (.func (.func 127) #[] #[aF w.heap.size,aF (w.heap.size+1+1),aF (w.heap.size+1)])/\aj aA w W):=by
   refine ⟨?_,hc.2⟩
   unfold MS.nJ
   rw [aO hb]
   exact ⟨tv,ht.still hc.2,⟨[w.heap.size,w.heap.size+1+1,w.heap.size+1],rfl,⟨_,_,rfl,o0,k0,_,_,rfl,o2,k2,_,_,rfl,o1,k1,rfl⟩⟩⟩
  have hpos:0<m.bJ.length:=List.length_pos_iff.2 hb
  have d0:((m.bJ.length:Int)==0)=false:=by simp;omega
  generalize m.bJ.length=n at *
  clear h ht hc hW k0 k1 k2 o0 o1 o2 hb
  rcases hform with rfl|⟨fn,caps,rfl⟩
  all_goals
   go_enter func102,ntmps102
   go_wp2_with fail
   rw [<- uQ.out]
   refine HL.out.mono ?_
   rintro e w2 ⟨rfl,rfl⟩
   go_wp2_with fail
   go_ret
   exact ⟨_,rfl,HE.out.1,HE.out.2⟩
theorem caps3 {l0 l1 l2:List Value × TypeId} {bs:List Nat} (h:ny o w [l0,l1,l2] bs):∃ b0 b1 b2,bs=[b0,b1,b2]/\(o b0=0/\aB w b0 l0.1 l0.2)/\(o b1=0/\aB w b1 l1.1 l1.2)/\(o b2=0/\aB w b2 l2.1 l2.2):=by
 obtain ⟨b0,r0,rfl,o0,k0,b1,r1,rfl,o1,k1,b2,r2,rfl,o2,k2,rfl⟩:=h
 exact ⟨b0,b1,b2,rfl,⟨o0,k0⟩,⟨o1,k1⟩,⟨o2,k2⟩⟩
theorem caps2 {l0 l1:List Value × TypeId} {bs:List Nat} (h:ny o w [l0,l1] bs):∃ b0 b1,bs=[b0,b1]/\(o b0=0/\aB w b0 l0.1 l0.2)/\(o b1=0/\aB w b1 l1.1 l1.2):=by
 obtain ⟨b0,r0,rfl,o0,k0,b1,r1,rfl,o1,k1,rfl⟩:=h
 exact ⟨b0,b1,rfl,⟨o0,k0⟩,⟨o1,k1⟩⟩
theorem caps1 {l0:List Value × TypeId} {bs:List Nat} (h:ny o w [l0] bs):∃ b0,bs=[b0]/\(o b0=0/\aB w b0 l0.1 l0.2):=by
 obtain ⟨b0,r0,rfl,o0,k0,rfl⟩:=h
 exact ⟨b0,rfl,⟨o0,k0⟩⟩
theorem caps4 {l0 l1 l2 l3:List Value × TypeId} {bs:List Nat} (h:ny o w [l0,l1,l2,l3] bs):∃ b0 b1 b2 b3,bs=[b0,b1,b2,b3]/\(o b0=0/\aB w b0 l0.1 l0.2)/\(o b1=0/\aB w b1 l1.1 l1.2)/\(o b2=0/\aB w b2 l2.1 l2.2)/\(o b3=0/\aB w b3 l3.1 l3.2):=by
 obtain ⟨b0,r0,rfl,o0,k0,b1,r1,rfl,o1,k1,b2,r2,rfl,o2,k2,b3,r3,rfl,o3,k3,rfl⟩:=h
 exact ⟨b0,b1,b2,b3,rfl,⟨o0,k0⟩,⟨o1,k1⟩,⟨o2,k2⟩,⟨o3,k3⟩⟩
theorem caps5 {l0 l1 l2 l3 l4:List Value × TypeId} {bs:List Nat} (h:ny o w [l0,l1,l2,l3,l4] bs):∃ b0 b1 b2 b3 b4,bs=[b0,b1,b2,b3,b4]/\(o b0=0/\aB w b0 l0.1 l0.2)/\(o b1=0/\aB w b1 l1.1 l1.2)/\(o b2=0/\aB w b2 l2.1 l2.2)/\(o b3=0/\aB w b3 l3.1 l3.2)/\(o b4=0/\aB w b4 l4.1 l4.2):=by
 obtain ⟨b0,r0,rfl,o0,k0,b1,r1,rfl,o1,k1,b2,r2,rfl,o2,k2,b3,r3,rfl,o3,k3,b4,r4,rfl,o4,k4,rfl⟩:=h
 exact ⟨b0,b1,b2,b3,b4,rfl,⟨o0,k0⟩,⟨o1,k1⟩,⟨o2,k2⟩,⟨o3,k3⟩,⟨o4,k4⟩⟩
theorem NR (h:aQ o w G g s m none nv0) (x c:Nat) (t:MD) (v:Value) (hv:bG o w g.Nt g.M (.lX x c t) v):∃ bs:List Nat,v = .func (.func 123) #[] (bs.map aF).toArray/\Calls ay 123 (bs.map aF).toArray w (aG o w G g nv0 m.id (stepM s m (.lX x c t))):=by
 obtain ⟨tv,av,ht,ha,bs,hbs,hcap⟩:=hv
 refine ⟨bs,hbs,?_⟩
 obtain ⟨b0,b1,b2,b3,b4,rfl,⟨o0,k0⟩,⟨o1,k1⟩,⟨o2,k2⟩,⟨o3,k3⟩,⟨o4,k4⟩⟩:=caps5 hcap
 obtain ⟨al,rfl,hca⟩:=ha
 obtain ⟨a0,a1,a2,rfl,⟨p0,q0⟩,⟨p1,q1⟩,⟨p2,q2⟩⟩:=caps3 hca
 have c0:w.cell? ⟨b0,0,none⟩=some (ak g.Nt):=k0.cell 0 rfl
 have c1:=k1.cell 0 rfl
 have c2:=k2.cell 0 rfl
 have c3:=k3.cell 0 rfl
 have n0:w.cell? ⟨g.Nt,0,none⟩=some (ak (G.D 0)):=h.nt.cell 0 rfl
 have HC:Hid (∀ W,aj aA w W->Calls ay 124 #[ak (G.D 0),ah (x:Int)] W fun e w'=>e = .returned (.tuple #[ah ((if s.H.bn x then s.H.ku x else 0:Nat):Int),ah (if s.H.bn x then 0 else 1)])/\W=w'):=fun W hW=>CB (h.sh.heap.still hW) x
 have hform:=ht.form
 show Calls ay 123 #[ak b0,ak b1,ak b2,ak b3,ak b4] w _
 obtain ⟨n,hn⟩:∃ n,n=w:=⟨_,rfl⟩
 clear hn n
 cases hb:s.H.bn x with
 | false =>
   have HE:Hid (∀ W,aj aA w W->aG o w G g nv0 m.id (stepM s m (.lX x c t)) (.returned tv) W):=fun W hW=>by
    have e1:stepM s m (.lX x c t)=⟨s,m,t,none⟩:=by simp only [stepM,hb];rfl
    rw [e1]
    exact aG.same (h.still hW) (ht.still hW) hW.bU
   simp only [hb,Bool.false_eq_true,if_false] at HC
   clear h ht hcap hca k0 k1 k2 k3 k4 q0 q1 q2 o0 o1 o2 o3 o4 p0 p1 p2 hbs hb
   rcases hform with rfl|⟨fn,caps,rfl⟩
   all_goals
    go_enter func123,ntmps123
    go_wp2_with fail
    go_quiet (first|(go_at_call 124;exact Calls.quiet_of_same (fE (HC.out _ ((aj.refl aA w).drewN _)))))
    have HK:Hid (aj aA w (w.drewN nq)):=(aj.refl _ _).drewN _
    go_wp2_with fail
    go_ret
    exact HE.out _ HK.out
 | true =>
   simp only [hb,if_true] at HC
   by_cases nC:s.H.ku x=c
   ·have HE:Hid (∀ W,aj aA w W->aG o w G g nv0 m.id (stepM s m (.lX x c t)) (.returned tv) W):=fun W hW=>by
     have e1:stepM s m (.lX x c t)=⟨s,m,t,none⟩:=by simp only [stepM,hb,nC];simp
     rw [e1]
     exact aG.same (h.still hW) (ht.still hW) hW.bU
    rw [nC] at HC
    clear h ht hcap hca k0 k1 k2 k3 k4 q0 q1 q2 o0 o1 o2 o3 o4 p0 p1 p2 hbs hb nC
    rcases hform with rfl|⟨fn,caps,rfl⟩
    all_goals
     go_enter func123,ntmps123
     go_wp2_with fail
     go_quiet (first|(go_at_call 124;exact Calls.quiet_of_same (fE (HC.out _ ((aj.refl aA w).drewN _)))))
     have HK:Hid (aj aA w (w.drewN nq)):=(aj.refl _ _).drewN _
     go_wp2_with fail
     go_ret
     exact HE.out _ HK.out
   ·have d1:((s.H.ku x:Int)==(c:Int))=false:=int_ne nC
    have Ia:Hid (∀ W,aj aA w W->W.cell? ⟨g.Nt,1,none⟩=some (ak g.Bf)):=fun W hW=>(h.still hW).nt.cell 1 rfl
    have HF:Hid (∀ W,aj aA w W->Calls ay 125 #[ak g.Bf] W fun e w'=>e = .returned (.bool (decide (m.bJ.length=m.c.l.toNat)))/\aj aA W w'):=fun W hW=>by
     have h9:=xO (h.still hW).bJ
     rw [h.full] at h9;exact h9
    have UN:Hid (∀ W,aj aA w W->W.cell? ⟨b4,0,none⟩=some (.func (.func 121) #[] #[ak a0,ak a1,ak a2])):=fun W hW=>(hW.aC k4 (fun f=>f)).cell 0 rfl
    by_cases hf:m.bJ.length=m.c.l.toNat
    ·have HP:Hid (∀ W,aj aA w W->Calls ay 102 #[ak g.Nt,ah (c:Int),.func (.func 121) #[] #[ak a0,ak a1,ak a2]] W (aG o w G g nv0 m.id (stepM s m (.lX x c t)))):=fun W hW=>by
      have hav:bG o W g.Nt g.M (.add x t) (.func (.func 121) #[] #[ak a0,ak a1,ak a2]) :=
       bG.still (d := .add x t) ⟨tv,ht,⟨[a0,a1,a2],rfl,hca⟩⟩ hW
      refine (CX (h.still hW) c (.add x t) _ hav).mono ?_
      rintro e w' ⟨nv,rfl,hm,hk⟩
      have e1:stepM s m (.lX x c t)=⟨s,m,m.nJ c (.add x t),none⟩:=by
       simp only [stepM,hb]
       rw [aO (by simpa using nC),aV hf]
      rw [e1]
      exact aG.same ((h.still hW).still hk) hm (hW.trans hk).bU
     rw [cZ hf] at HF
     have H0:Hid (∀ W,aj aA w W->W.cell? ⟨b0,0,none⟩=some (ak g.Nt)/\W.cell? ⟨b2,0,none⟩=some (ah (c:Int))):=fun W hW=>⟨(hW.aC k0 (fun f=>f)).cell 0 rfl,(hW.aC k2 (fun f=>f)).cell 0 rfl⟩
     generalize s.H.ku x=col at *
     generalize stepM s m (.lX x c t)=R at *
     clear h ht hcap hca k0 k1 k2 k3 k4 q0 q1 q2 o0 o1 o2 o3 o4 p0 p1 p2 hbs hb nC hf hform
     go_enter func123,ntmps123
     go_wp2_with fail
     go_quiet (first|(go_at_call 124;exact Calls.quiet_of_same (fE (HC.out _ ((aj.refl aA w).drewN _)))))
     obtain ⟨W1,hW1⟩:∃ W1,W1=w.drewN nq:=⟨_,rfl⟩
     rw [<- hW1]
     have aZ:Hid (aj aA w W1):=by rw [hW1];exact (aj.refl _ _).drewN _
     clear hW1 c0 c1 c2 c3 n0
     have c0:=(H0.out _ aZ.out).1
     have c2:=(H0.out _ aZ.out).2
     have z1:=Ia.out _ aZ.out
     have wS:=au (HF.out _ aZ.out)
     go_wp2_with fail
     refine wS.out.mono ?_
     rintro e w2 ⟨rfl,hk2⟩
     have bH:=au (aZ.out.trans hk2)
     clear hk2 c0 c2 z1
     have c0:=(H0.out _ bH.out).1
     have c2:=(H0.out _ bH.out).2
     have c4:=UN.out _ bH.out
     go_wp2_with fail
     refine (HP.out _ bH.out).mono ?_
     rintro e w3 hp
     obtain ⟨o',nv,rfl,hp⟩:=hp
     have Ad:Hid (aG o w G g nv0 m.id R (.returned nv) w3):=⟨o',nv,rfl,hp⟩
     have hfm:=hp.2.2.1.form
     clear hp c0 c2 c4
     rcases hfm with rfl|⟨fn,caps,rfl⟩
     all_goals
      go_wp2_with fail
      go_ret
      exact Ad.out
    ·have HA:Hid (∀ W,aj aA w W->Calls ay 121 #[ak a0,ak a1,ak a2] W fun e w'=>e = .returned tv/\aG o w G g nv0 m.id (stepM s m (.lX x c t)) (.returned tv) w'):=fun W hW=>by
      refine (EN (h.still hW) x t tv (ht.still hW) a0 a1 a2 p0 p1 p2 (hW.aC q0 (fun f=>f)) (hW.aC q1 (fun f=>f)) (hW.aC q2 (fun f=>f))).mono ?_
      rintro e w' ⟨rfl,g1,g2,g3⟩
      have e1:stepM s m (.lX x c t)=⟨s,{ m with bJ:=m.bJ++[x] },t,none⟩:=by
       simp only [stepM,hb]
       rw [aO (by simpa using nC),aO hf]
      have e2:stepM s m (.add x t)=⟨s,{ m with bJ:=m.bJ++[x] },t,none⟩:=by simp only [stepM,aO hf]
      rw [e2] at g1
      rw [e1]
      exact ⟨rfl,aG.same g1 g2 (hW.bU.trans g3)⟩
     rw [dD hf] at HF
     have H0:Hid (∀ W,aj aA w W->W.cell? ⟨b0,0,none⟩=some (ak g.Nt)/\W.cell? ⟨b2,0,none⟩=some (ah (c:Int))):=fun W hW=>⟨(hW.aC k0 (fun f=>f)).cell 0 rfl,(hW.aC k2 (fun f=>f)).cell 0 rfl⟩
     generalize s.H.ku x=col at *
     generalize stepM s m (.lX x c t)=R at *
     clear h ht hcap hca k0 k1 k2 k3 k4 q0 q1 q2 o0 o1 o2 o3 o4 p0 p1 p2 hbs hb nC hf
     rcases hform with rfl|⟨fn,caps,rfl⟩
     all_goals
      go_enter func123,ntmps123
      go_wp2_with fail
      go_quiet (first|(go_at_call 124;exact Calls.quiet_of_same (fE (HC.out _ ((aj.refl aA w).drewN _)))))
      obtain ⟨W1,hW1⟩:∃ W1,W1=w.drewN nq:=⟨_,rfl⟩
      rw [<- hW1]
      have aZ:Hid (aj aA w W1):=by rw [hW1];exact (aj.refl _ _).drewN _
      clear hW1 c0 c1 c2 c3 n0
      have c0:=(H0.out _ aZ.out).1
      have c2:=(H0.out _ aZ.out).2
      have z1:=Ia.out _ aZ.out
      have wS:=au (HF.out _ aZ.out)
      go_wp2_with fail
      refine wS.out.mono ?_
      rintro e w2 ⟨rfl,hk2⟩
      have bH:=au (aZ.out.trans hk2)
      clear hk2 c0 c2 z1
      have c4:=UN.out _ bH.out
      go_wp2_with fail
      refine (HA.out _ bH.out).mono ?_
      rintro e w3 ⟨rfl,hp⟩
      have Ad:=au hp
      clear hp c4
      go_wp2_with fail
      go_ret
      exact Ad.out
end
section
variable {o:Ow} {w w':World} {G:eH} {g:MG} {s:Sh} {m:MS} {nv0:Value}
theorem aQ.kZ {H:HS} (h:aQ o w G g s m none nv0) (k:aj (HF G.D) w w') (hH:aK w' G.D H) (hc:H.c=s.H.c):aQ o w' G g { s with H:=H } m none nv0/\aj (In o (aT m.id)) w w':=by
 obtain ⟨h1,k1⟩:=h.sh.kZ k hH h.box8
 exact ⟨h.vK k1 rfl (by simp;omega) h1 rfl hc,k1.kX (by simp [aT])⟩
theorem JU (h:aQ o w G g s m none nv0) (t:MD) (v:Value) (hv:bG o w g.Nt g.M (.mW t) v):∃ bs:List Nat,v = .func (.func 158) #[] (bs.map aF).toArray/\Calls ay 158 (bs.map aF).toArray w (aG o w G g nv0 m.id (stepM s m (.mW t))):=by
 obtain ⟨tv,ht,bs,hbs,hcap⟩:=hv
 refine ⟨bs,hbs,?_⟩
 obtain ⟨b0,b1,rfl,⟨o0,k0⟩,⟨o1,k1⟩⟩:=caps2 hcap
 have c0:w.cell? ⟨b0,0,none⟩=some (ak g.Nt):=k0.cell 0 rfl
 have n3:w.cell? ⟨g.Nt,3,none⟩=some (ak G.Fl):=h.nt.cell 3 rfl
 have hform:=ht.form
 have HR:Hid (Calls ay 159 #[ak G.Fl] w fun e w'=>e = .returned (.tuple #[])/\aG o w G g nv0 m.id (stepM s m (.mW t)) (.returned tv) w'/\aB w' b1 [tv] 95):=by
  refine (JR G.Fl s.pJ h.sh.pJ).mono ?_
  rintro e w' ⟨rfl,g1,g2⟩
  obtain ⟨h1,kk⟩:=h.sh.VQ g2 g1
  have km:aj (In o (aT m.id)) w w':=kk.kX (by simp [aT])
  exact ⟨rfl,aG.same (r:=stepM s m (.mW t)) (h.vK kk rfl (by simp;omega) h1 rfl rfl) (ht.aP kk rfl) km,k1.aP kk o1 rfl⟩
 show Calls ay 158 #[ak b0,ak b1] w _
 generalize stepM s m (.mW t)=R at *
 clear h ht hcap k0 k1 o0 o1 hbs
 rcases hform with rfl|⟨fn,caps,rfl⟩
 all_goals
  go_enter func158,ntmps158
  go_wp2_with fail
  refine HR.out.mono ?_
  rintro e w1 ⟨rfl,hp,hb⟩
  have HP:=au hp
  have c1:=hb.cell 0 rfl
  clear hp hb c0 n3
  go_wp2_with fail
  go_ret
  exact HP.out
theorem NS (h:aQ o w G g s m none nv0) (c:Nat) (t:MD) (v:Value) (hv:bG o w g.Nt g.M (.oG c t) v):∃ bs:List Nat,v = .func (.func 127) #[] (bs.map aF).toArray/\Calls ay 127 (bs.map aF).toArray w (aG o w G g nv0 m.id (stepM s m (.oG c t))):=by
 obtain ⟨tv,ht,bs,hbs,hcap⟩:=hv
 refine ⟨bs,hbs,?_⟩
 obtain ⟨b0,b1,b2,rfl,⟨o0,k0⟩,⟨o1,k1⟩,⟨o2,k2⟩⟩:=caps3 hcap
 have c0:w.cell? ⟨b0,0,none⟩=some (ak g.Nt):=k0.cell 0 rfl
 have n1:w.cell? ⟨g.Nt,1,none⟩=some (ak g.Bf):=h.nt.cell 1 rfl
 have n2:w.cell? ⟨g.Nt,2,none⟩=some (ak (G.bx m.id)):=h.nt.cell 2 rfl
 have hform:=ht.form
 have hkd:aj aA w w.drew:=(aj.refl aA w).drew
 have hd:=h.still hkd
 show Calls ay 127 #[ak b0,ak b1,ak b2] w _
 by_cases hx:s.box m.id=[]
 ·have HR:Hid (Calls ay 128 #[ak (G.bx m.id),ak g.Bf] w.drew fun e w'=>e = .returned (.bool true)/\aG o w G g nv0 m.id (stepM s m (.oG c t)) (.returned tv) w'/\aB w' b1 [tv] 95):=by
   have hbx:=hd.UM
   rw [hx] at hbx
   have hne:G.bx m.id≠g.Bf:=fun e=>by have h1:=hbx.2;rw [e,h.uN] at h1;omega
   refine (NM hd.bJ hbx.1 hne hd.sh.fK).mono ?_
   rintro e w' ⟨rfl,g1,g2,g3⟩
   have kk:aj (In o [10+m.id,20+m.id]) w.drew w':=g3.mono (fun i _ e=>by
    unfold In
    rcases e with e|e
    ·rw [e,hbx.2];simp
    ·rw [e,h.uN];simp)
   have h0:([10+m.id,20+m.id]:List Nat).contains 0=false:=by simp;omega
   have km:aj (In o (aT m.id)) w w':=(hkd.bU).trans (kk.kX (by simp [aT]))
   have hs':eG o w' G { s with eF:=s.eF.set m.id m.bJ }:=by
    refine hd.sh.jL (s':={ s with eF:=s.eF.set m.id m.bJ }) kk h0 (hd.sh.pz kk h0 (by simp;omega)) (hd.sh.qg.aH kk (fU hd.sh.oB (by simp;omega))) (hd.sh.qL.aP kk h0 hd.sh.oQ (by simp;omega)) (hd.sh.pJ.aP kk hd.sh.oF (by simp;omega)) (by simp) (fun i l hi=>?_)
    by_cases e:m.id=i
    ·rw [<- e,List.getElem?_set_self h.qB] at hi
     cases hi
     rw [<- e];exact g2
    ·rw [List.getElem?_set_ne e] at hi
     have hil:=(List.getElem?_eq_some_iff.1 hi).1
     have h8:=h.box8
     have aaU:=h.qB
     exact (hd.sh.box i l hi).1.aP kk h0 (hd.sh.box i l hi).2 (by simp;omega)
   obtain ⟨pv,rv,p1,p2,p3⟩:=hd.aC
   have ap:=hd.apart
   have nM:¬ (g.M=G.bx m.id\/g.M=g.Bf):=by
    rintro (e|e)
    ·have h1:=hbx.2;rw [<- e,h.oM] at h1;omega
    ·exact ap.2.1 e
   have nX:¬ (g.X=G.bx m.id\/g.X=g.Bf):=by
    rintro (e|e)
    ·have h1:=hbx.2;rw [<- e,h.oX] at h1;omega
    ·exact ap.2.2.1 e
   have hm:aQ o w' G g { s with eF:=s.eF.set m.id m.bJ } { m with bJ:=[] } none nv0:=by
    refine ⟨hs',⟨pv,rv,g3.aC p1 nM,p2.aP kk h0,⟨fQ p3.1 g3 (fun b hb e=>?_),p3.2⟩⟩,h.oM,g3.aC hd.aI nX,h.oX,g1,h.uN,hd.nt.aP kk h.qX h0,h.qX,by simpa using h.qB,by simpa using h.box8,h.uO,h.pK,by have:=h.cl;simp;omega⟩
    rcases e with e|e
    ·have h1:=hbx.2;rw [<- e,p3.2 b hb] at h1;omega
    ·exact (ap.2.2.2 rv _ b p3 hb).2.2 e
   have e1:stepM s m (.oG c t)=⟨{ s with eF:=s.eF.set m.id m.bJ },{ m with bJ:=[] },t,none⟩:=by simp only [stepM,aV hx]
   rw [e1]
   exact ⟨rfl,aG.same hm (ht.aP km (bD _)) km,k1.aP km o1 (bD _)⟩
  generalize stepM s m (.oG c t)=R at *
  clear h ht hcap k0 k1 k2 o0 o1 o2 hbs hkd hd hx
  rcases hform with rfl|⟨fn,caps,rfl⟩
  all_goals
   go_enter func127,ntmps127
   go_wp2_with fail
   refine aN 8 rfl (by kernel_rfl) (by kernel_rfl) (fun K hK=>?_)
   change wpStill _ _ (abx _) _ _ _
   simp only [List.take_succ_cons,aby,abz,abt] at hK ⊢
   repeat still_step
   refine wpStill_nil ?_
   change ite _ (Oper.wp _ _ _ w.drew _ _) _
   go_simp
   refine HR.out.mono ?_
   rintro e w1 ⟨rfl,hp,hb⟩
   refine hK _ _ ?_
   clear hK K
   have HP:=au hp
   have c1:=hb.cell 0 rfl
   clear hp hb c0 n1 n2
   refine wpStill_nil ?_
   go_wp2_with fail
   go_ret
   exact HP.out
 ·have HR:Hid (Calls ay 128 #[ak (G.bx m.id),ak g.Bf] w.drew fun e w'=>e = .returned (.bool false)/\w.drew=w'):=Qi hd.bJ hd.UM.1 hx
  have d0:w.drew.cell? ⟨b0,0,none⟩=some (ak g.Nt):=(hkd.aC k0 (fun f=>f)).cell 0 rfl
  have d1:=(hkd.aC k1 (fun f=>f)).cell 0 rfl
  have d2:=(hkd.aC k2 (fun f=>f)).cell 0 rfl
  have HP:Hid (Calls ay 129 #[ak g.Nt,ah (c:Int),.bool false,tv] w.drew (aG o w G g nv0 m.id (stepM s m (.oG c t)))):=by
   refine (Aj (M:=g.M) hd.sh.fK c false t tv (ht.still hkd)).mono ?_
   rintro e w' ⟨nv,rfl,h1,h2⟩
   have e1:stepM s m (.oG c t)=⟨s,m,.iD c false t,none⟩:=by simp only [stepM,aO hx]
   rw [e1]
   exact aG.same (hd.still h2) h1 (hkd.trans h2).bU
  generalize stepM s m (.oG c t)=R at *
  clear h ht hcap k0 k1 k2 o0 o1 o2 hbs hkd hd hx
  rcases hform with rfl|⟨fn,caps,rfl⟩
  all_goals
   go_enter func127,ntmps127
   go_wp2_with fail
   refine aN 8 rfl (by kernel_rfl) (by kernel_rfl) (fun K hK=>?_)
   change wpStill _ _ (abx _) _ _ _
   simp only [List.take_succ_cons,aby,abz,abt] at hK ⊢
   repeat still_step
   refine wpStill_nil ?_
   change ite _ (Oper.wp _ _ _ w.drew _ _) _
   go_simp
   refine HR.out.mono ?_
   rintro e w1 ⟨rfl,rfl⟩
   refine hK _ _ ?_
   clear hK K c0 n1 n2 HR
   refine wpStill_nil ?_
   obtain ⟨W1,hW1⟩:∃ W1,W1=w.drew:=⟨_,rfl⟩
   rw [<- hW1] at d0 d1 d2 HP ⊢
   clear hW1
   go_wp2_with fail
   refine HP.out.mono ?_
   rintro e w2 ⟨o',nv,rfl,hp⟩
   have Ad:Hid (aG o w G g nv0 m.id R (.returned nv) w2):=⟨o',nv,rfl,hp⟩
   have hfm:=hp.2.2.1.form
   clear hp d0 d1 d2
   rcases hfm with rfl|⟨fn,caps,rfl⟩
   all_goals
    go_wp2_with fail
    go_ret
    exact Ad.out
end
section
variable {o:Ow} {w w':World} {G:eH} {g:MG} {s:Sh} {m:MS} {nv0:Value}
theorem JV (h:aQ o w G g s m none nv0) (c:Nat) (f:Bool) (t:MD) (v:Value) (hv:bG o w g.Nt g.M (.iD c f t) v):∃ bs:List Nat,v = .func (.func 155) #[] (bs.map aF).toArray/\Calls ay 155 (bs.map aF).toArray w (aG o w G g nv0 m.id (stepM s m (.iD c f t))):=by
 obtain ⟨tv,ht,bs,hbs,hcap⟩:=hv
 refine ⟨bs,hbs,?_⟩
 obtain ⟨b0,b1,b2,b3,rfl,⟨o0,k0⟩,⟨o1,k1⟩,⟨o2,k2⟩,⟨o3,k3⟩⟩:=caps4 hcap
 have c0:w.cell? ⟨b0,0,none⟩=some (ak g.Nt):=k0.cell 0 rfl
 have n1:w.cell? ⟨g.Nt,1,none⟩=some (ak g.Bf):=h.nt.cell 1 rfl
 have hform:=ht.form
 show Calls ay 155 #[ak b0,ak b1,ak b2,ak b3] w _
 have HB:Hid (∀ I W,aj (In o I) w W->I.contains 0=false->W.cell? ⟨b0,0,none⟩=some (ak g.Nt)/\W.cell? ⟨b1,0,none⟩=some (ah (c:Int))/\W.cell? ⟨b2,0,none⟩=some (.bool f)/\W.cell? ⟨b3,0,none⟩=some tv/\W.cell? ⟨g.Nt,1,none⟩=some (ak g.Bf)/\W.cell? ⟨g.Nt,0,none⟩=some (ak (G.D 0))):=fun I W hW hI =>
  ⟨(k0.aP hW o0 hI).cell 0 rfl,(k1.aP hW o1 hI).cell 0 rfl,(k2.aP hW o2 hI).cell 0 rfl,(k3.aP hW o3 hI).cell 0 rfl,(h.nt.aP hW h.qX hI).cell 1 rfl,(h.nt.aP hW h.qX hI).cell 0 rfl⟩
 have HN:Hid (Calls ay 156 #[ak g.Bf] w fun e w'=>e = .returned (.tuple #[ah (jo m.bJ:Int),.bool (!m.bJ.isEmpty)])/\aQ o w' G g s { m with bJ:=m.bJ.tail } none nv0/\aj (In o (aT m.id)) w w'):=by
  refine (NK h.bJ).mono ?_
  rintro e w' ⟨rfl,g1,g2⟩
  have hl:(m.bJ.tail.length:Int)<=m.c.l:=by have:=h.uP;simp;omega
  exact ⟨rfl,(h.CW g2 g1 hl).1,Ic h g2⟩
 have HP:Hid (∀ W,aQ o W G g s { m with bJ:=m.bJ.tail } none nv0->Calls ay 157 #[ak (G.D 0),ah (jo m.bJ:Int),ah (c:Int)] W fun e w'=>(∃ er:Int,e = .returned (.tuple #[.bool (s.H.jM (jo m.bJ) c),ah er]))/\aQ o w' G g { s with H:=s.H.iV (jo m.bJ) c } { m with bJ:=m.bJ.tail } none nv0/\aj (In o (aT m.id)) W w'):=fun W hW=>by
  refine (Nk hW.sh.heap (jo m.bJ) c).mono ?_
  rintro e w' ⟨rfl,g1,g2⟩
  have hc:(s.H.iV (jo m.bJ) c).c=s.H.c:=by unfold HS.iV;split<;>rfl
  obtain ⟨h1,h2⟩:=hW.kZ g2 g1 hc
  exact ⟨⟨_,rfl⟩,h1,h2⟩
 have HL:Hid (∀ W,aQ o W G g { s with H:=s.H.iV (jo m.bJ) c } { m with bJ:=m.bJ.tail } none nv0->Calls ay 126 #[ak g.Bf] W fun e w'=>e = .returned (ah (m.bJ.tail.length:Int))/\W=w'):=fun W hW=>EL hW.bJ
 have HDR:Hid (∀ W,aQ o W G g s { m with bJ:=m.bJ.tail } none nv0->aQ o W.drew G g s { m with bJ:=m.bJ.tail } none nv0):=fun W hW=>hW.still (aj.refl aA W).drew
 have Ie:Hid (m.bJ.tail≠[]->∀ W,aQ o W G g { s with H:=s.H.iV (jo m.bJ) c } { m with bJ:=m.bJ.tail } none nv0->aj (In o (aT m.id)) w W->Calls ay 129 #[ak g.Nt,ah (c:Int),.bool (f||s.H.jM (jo m.bJ) c),tv] W (aG o w G g nv0 m.id (stepM s m (.iD c f t)))):=fun hne W hW hk=>by
  refine (Aj (M:=g.M) hW.sh.fK c _ t tv (ht.aP hk (bD _))).mono ?_
  rintro e w' ⟨nv,rfl,h1,h2⟩
  have e1:stepM s m (.iD c f t)=⟨{ s with H:=s.H.iV (jo m.bJ) c },{ m with bJ:=m.bJ.tail },.iD c (f||s.H.jM (jo m.bJ) c) t,none⟩:=by simp only [stepM];rw [aV hne]
  rw [e1]
  exact aG.same (hW.still h2) h1 (hk.trans h2.bU)
 have UO:Hid (m.bJ.tail=[]->(f||s.H.jM (jo m.bJ) c)=true->∀ W,aQ o W G g { s with H:=s.H.iV (jo m.bJ) c } { m with bJ:=m.bJ.tail } none nv0->aj (In o (aT m.id)) w W->aG o w G g nv0 m.id (stepM s m (.iD c f t)) (.returned (.func (.func 158) #[] #[ak b0,ak b3])) W):=fun he hfr W hW hk=>by
  have e1:stepM s m (.iD c f t)=⟨{ s with H:=s.H.iV (jo m.bJ) c },{ m with bJ:=m.bJ.tail },.mW t,none⟩:=by simp only [stepM];rw [aO (by simpa using he),aV hfr]
  rw [e1]
  exact aG.same hW ⟨tv,ht.aP hk (bD _),⟨[b0,b3],rfl,⟨_,_,rfl,o0,k0.aP hk o0 (bD _),_,_,rfl,o3,k3.aP hk o3 (bD _),rfl⟩⟩⟩ hk
 have LH:Hid (m.bJ.tail=[]->(f||s.H.jM (jo m.bJ) c)=false->∀ W,aQ o W G g { s with H:=s.H.iV (jo m.bJ) c } { m with bJ:=m.bJ.tail } none nv0->aj (In o (aT m.id)) w W->aG o w G g nv0 m.id (stepM s m (.iD c f t)) (.returned tv) W):=fun he hfr W hW hk=>by
  have e1:stepM s m (.iD c f t)=⟨{ s with H:=s.H.iV (jo m.bJ) c },{ m with bJ:=m.bJ.tail },t,none⟩:=by simp only [stepM];rw [aO (by simpa using he),aO (by rw [hfr];decide)]
  rw [e1]
  exact aG.same hW (ht.aP hk (bD _)) hk
 have hmf:∀ (fn:Fn) (first aJ:Array Value) (w:World),(Instr.makeFunc fn first aJ).run ay w = .ok (.func fn first aJ) w:=fun _ _ _ _=>rfl
 have LJ:Hid ((aT m.id).contains 0=false):=bD _
 have hlen:m.bJ.tail.length<=256:=by have h1:=h.uP;have h2:=h.cl;simp;omega
 generalize { s with H:=s.H.iV (jo m.bJ) c }=s' at *
 generalize s.H.jM (jo m.bJ) c=was at *
 generalize jo m.bJ=a at *
 generalize (!m.bJ.isEmpty)=okb at *
 generalize hm':({ m with bJ:=m.bJ.tail }:MS)=m' at *
 generalize m.bJ.tail=bt at *
 generalize stepM s m (.iD c f t)=R at *
 generalize aT m.id=II at *
 generalize m.id=mi at *
 clear h ht hcap k0 k1 k2 k3 o0 o1 o2 o3 hbs hm'
 have key:∀ (Q:Prop) ,Q->Q:=fun _ q=>q
 clear key
 rcases hform with rfl|⟨fn,caps,rfl⟩
 all_goals
  cases hb:bt with
  | nil =>
    rw [hb] at HL
    cases hf:(f||was) with
    | false =>
      obtain ⟨hf1,hf2⟩:=Bool.or_eq_false_iff.1 hf
      subst hf1
      subst hf2
      have HE:=au (LH.out hb rfl)
      clear Ie UO LH hb hf hlen
      go_enter func155,ntmps155
      go_wp2_with fail
      refine HN.out.mono ?_
      rintro e w1 ⟨rfl,g1,g2⟩
      have H1:=au g1
      have K1:=au g2
      clear g1 g2 c0 n1
      obtain ⟨c0,c1,c2,c3,n1,n0⟩:=HB.out _ w1 K1.out LJ.out
      have CG:=au (HP.out _ (HDR.out _ H1.out))
      go_wp2_with fail
      refine aN 6 rfl (by kernel_rfl) (by kernel_rfl) (fun K hK=>?_)
      change wpStill _ _ (abx _) _ _ _
      simp only [List.take_succ_cons,aby,abz,abt] at hK ⊢
      repeat still_step
      refine wpStill_nil ?_
      change ite _ (Oper.wp _ _ _ w1.drew _ _) _
      go_simp
      refine CG.out.mono ?_
      rintro e w2 ⟨⟨er,rfl⟩,g1,g2⟩
      refine hK _ _ ?_
      clear hK K
      have H2:=au g1
      have K2:Hid (aj (In o II) w w2):=K1.out.trans ((aj.refl (In o II) w1).drew.trans g2)
      clear g1 g2 c0 c1 c2 c3 n0 n1
      repeat still_step
      refine wpStill_nil ?_
      obtain ⟨c0,c1,c2,c3,n1,n0⟩:=HB.out _ w2 K2.out LJ.out
      have HL2:=au (HL.out _ H2.out)
      go_wp2_with fail
      refine HL2.out.mono ?_
      rintro e w3 ⟨rfl,rfl⟩
      go_wp2_with fail
      go_ret
      exact HE.out _ H2.out K2.out
    | true =>
      have HE:=au (UO.out hb hf)
      have ZI:Hid (f=true\/(f=false/\was=true)):=by revert hf;cases f<;>cases was<;>simp [Hid]
      clear Ie UO LH hb hf hlen
      rcases ZI.out with rfl|⟨rfl,rfl⟩
      all_goals
       clear ZI
       go_enter func155,ntmps155
       go_wp2_with fail
       refine HN.out.mono ?_
       rintro e w1 ⟨rfl,g1,g2⟩
       have H1:=au g1
       have K1:=au g2
       clear g1 g2 c0 n1
       obtain ⟨c0,c1,c2,c3,n1,n0⟩:=HB.out _ w1 K1.out LJ.out
       have CG:=au (HP.out _ (HDR.out _ H1.out))
       go_wp2_with fail
       refine aN 6 rfl (by kernel_rfl) (by kernel_rfl) (fun K hK=>?_)
       change wpStill _ _ (abx _) _ _ _
       simp only [List.take_succ_cons,aby,abz,abt] at hK ⊢
       repeat still_step
       refine wpStill_nil ?_
       change ite _ (Oper.wp _ _ _ w1.drew _ _) _
       go_simp
       refine CG.out.mono ?_
       rintro e w2 ⟨⟨er,rfl⟩,g1,g2⟩
       refine hK _ _ ?_
       clear hK K
       have H2:=au g1
       have K2:Hid (aj (In o II) w w2):=K1.out.trans ((aj.refl (In o II) w1).drew.trans g2)
       clear g1 g2 c0 c1 c2 c3 n0 n1
       repeat still_step
       refine wpStill_nil ?_
       obtain ⟨c0,c1,c2,c3,n1,n0⟩:=HB.out _ w2 K2.out LJ.out
       have HL2:=au (HL.out _ H2.out)
       go_wp2_with fail
       refine HL2.out.mono ?_
       rintro e w3 ⟨rfl,rfl⟩
       go_wp2_with fail
       go_ret
       exact HE.out _ H2.out K2.out
  | cons y ys =>
    have HE:=au (Ie.out (by rw [hb];simp))
    have hpos:0<bt.length:=by rw [hb];simp
    have d0:decide ((0:Int)<(bt.length:Int))=true:=cZ (by omega)
    have d1:decide (0<bt.length)=true:=cZ hpos
    generalize bt.length=bl at *
    clear Ie UO LH hb hlen
    cases f
    all_goals
     simp only [Bool.false_or,Bool.true_or] at HE
     go_enter func155,ntmps155
     go_wp2_with fail
     refine HN.out.mono ?_
     rintro e w1 ⟨rfl,g1,g2⟩
     have H1:=au g1
     have K1:=au g2
     clear g1 g2 c0 n1
     obtain ⟨c0,c1,c2,c3,n1,n0⟩:=HB.out _ w1 K1.out LJ.out
     have CG:=au (HP.out _ (HDR.out _ H1.out))
     go_wp2_with fail
     refine aN 6 rfl (by kernel_rfl) (by kernel_rfl) (fun K hK=>?_)
     change wpStill _ _ (abx _) _ _ _
     simp only [List.take_succ_cons,aby,abz,abt] at hK ⊢
     repeat still_step
     refine wpStill_nil ?_
     change ite _ (Oper.wp _ _ _ w1.drew _ _) _
     go_simp
     refine CG.out.mono ?_
     rintro e w2 ⟨⟨er,rfl⟩,g1,g2⟩
     refine hK _ _ ?_
     clear hK K
     have H2:=au g1
     have K2:Hid (aj (In o II) w w2):=K1.out.trans ((aj.refl (In o II) w1).drew.trans g2)
     clear g1 g2 c0 c1 c2 c3 n0 n1
     repeat still_step
     refine wpStill_nil ?_
     obtain ⟨c0,c1,c2,c3,n1,n0⟩:=HB.out _ w2 K2.out LJ.out
     have HL2:=au (HL.out _ H2.out)
     go_wp2_with fail
     refine HL2.out.mono ?_
     rintro e w3 ⟨rfl,rfl⟩
     go_wp2_with fail
     refine (HE.out _ H2.out K2.out).mono ?_
     rintro e w4 ⟨o',nv,rfl,hp⟩
     have Ad:Hid (aG o w G g nv0 mi R (.returned nv) w4):=⟨o',nv,rfl,hp⟩
     have hfm:=hp.2.2.1.form
     clear hp c0 c1 c2 c3 n0 n1
     rcases hfm with rfl|⟨fn',aaR,rfl⟩
     all_goals
      go_wp2_with fail
      go_ret
      exact Ad.out
end
end
section
attribute [local go_sem ↓] mD
attribute [local go_sem] Oper.semAt_some
open Go.RowKit
theorem Tryz.infoResult:(ay.info? 76).map (fun i=>(i.zero,i.size,i.bytes))=some (some (.agg #[ah 0,ah 0]),2,16):=by kernel_rfl
theorem NT {P:Program} (w:World) (t ty e:TypeId) (ht:P.underlying t=some (.slice e)) {z:Value} {size bytes:Nat} (hi:(P.info? e).map (fun i=>(i.zero,i.size,i.bytes))=some (some z,size,bytes)) (hzs:z.cells.size=size) (h0:0<size)
 {v:Value} {n:Nat} {xs us:List Value} (hown:w.ownsRow 0 e size v n xs) {N:Nat} (hN:∀ j x,us[j]?=some x->w.cell? ⟨N,j,none⟩=some x) (ZE:us.length=size) (hu:∀ u∈us,u.oneCell'=true) (hb:bytes<=1000) (hn:n<=100000000000) :
 ∃ g aJ w',(Builtin.append_ #[t,t] ty #[v,.slice (some ⟨N,0,none⟩) 1 1]).run P w = .ok (.slice (some ⟨g,0,none⟩) (n+1) aJ) w'/\w'.ownsRow 0 e size (.slice (some ⟨g,0,none⟩) (n+1) aJ) (n+1) (xs++us) /\
  w.grownBy w' v.ownBlock/\(v.ownBlock=some g\/w.heap.size<=g):=by
 obtain ⟨i,hi1,hi2,hi3,hi4⟩:=info_parts hi
 have hbytes:(n+1)*bytes<=140737488355328:=Nat.le_trans (Nat.mul_le_mul (show n+1<=100000000001 by omega) hb) (by decide)
 have hnews:∀ j x,us[j]?=some x->w.cell? ((⟨N,0,none⟩:Addr).add j)=some x:=by
  intro j x hj
  have ea:(⟨N,0,none⟩:Addr).add j=⟨N,j,none⟩:=by simp only [Addr.add];split<;>simp_all
  rw [ea];exact hN j x hj
 have hul1:us.length=1*size:=by omega
 have shape:∀ {v':Value} {W:World} {B:Nat},W.ownsRow B e size v' (n+1) (xs++us)->∃ g aJ,v' = .slice (some ⟨g,0,none⟩) (n+1) aJ/\B<=g:=by
  intro v' W B h
  rcases h.2 with ⟨_,h0'⟩|⟨g,aJ,cur,rfl,hB,_⟩
  ·omega
  ·exact ⟨g,aJ,rfl,hB⟩
 rcases hown.2 with ⟨rfl,rfl⟩|⟨g,aJ,cur,rfl,hbg,hg,hnc,hcm,hcs,htake⟩
 ·have hown':w.ownsRow w.heap.size e size (.slice none 0 0) 0 xs:=⟨hown.1,.inl ⟨rfl,rfl⟩⟩
  obtain ⟨v',w',hr,h2,h3,_⟩:=run_append_own (P:=P) w w.heap.size t ty e i z size bytes ht hi1 hi2 hi3 hi4 hzs h0 _ 0 xs hown' ⟨N,0,none⟩ 1 1 us hul1 hnews hu (by unfold maxLen;omega) hbytes (Nat.le_refl _)
  obtain ⟨g,aJ,rfl,hB⟩:=shape h2
  exact ⟨g,aJ,w',hr,dF h2 (Nat.zero_le _),h3,.inr hB⟩
 ·by_cases hroom:n+1<=aJ
  ·obtain ⟨w',hr,h2,h3⟩:=run_append_own_spare (P:=P) w 0 t ty e i size ht hi1 hi3 g n aJ xs hown ⟨N,0,none⟩ 1 1 us hul1 hnews hu hroom
   exact ⟨g,aJ,w',hr,h2,h3,.inl rfl⟩
  ·have holds:∀ j x,xs[j]?=some x->w.cell? ((⟨g,0,none⟩:Addr).add j)=some x:=hown.cells (g:=g) rfl
   obtain ⟨v',w',hr,h2,h3⟩:=run_append_arg_grows (P:=P) w t ty e i z size bytes ht hi1 hi2 hi3 hi4 hzs h0 ⟨g,0,none⟩ n aJ xs hown.1 holds ⟨N,0,none⟩ 1 1 us hul1 hnews (by omega) (by unfold maxLen;omega) hbytes
   obtain ⟨g',cap',rfl,hB⟩:=shape h2
   exact ⟨g',cap',w',hr,dF h2 (Nat.zero_le _),⟨h3.os,h3.tape,h3.output,h3.size,fun k hk _=>h3.block k hk (by simp)⟩,.inr hB⟩
theorem VU {w:World} {base n size q:Nat} {e:TypeId} {v:Value} {xs:List Value} (h:w.ownsRow base e size v n xs) (hq:v.ownBlock=some q):∃ cur:Array Value,w.heap[q]?=some (.cells cur e (0,0)):=by
 rcases h.2 with ⟨e1,_⟩|⟨g,aJ,cur,e1,_,hg,_⟩
 ·rw [e1] at hq;simp [Value.ownBlock] at hq
 ·rw [e1] at hq;simp [Value.ownBlock] at hq;subst hq;exact ⟨cur,hg⟩
theorem Qj {w:World} {base n size q:Nat} {e:TypeId} {v:Value} {xs:List Value} (h:w.ownsRow base e size v n xs) (hq:v.ownBlock=some q):q<w.heap.size:=by
 obtain ⟨cur,hc⟩:=VU h hq
 exact lt_of_block hc
section
variable {o:Ow} {w w':World} {G:eH} {g:MG} {s:Sh} {m:MS} {ev:Option Ev} {nv:Value}
theorem aQ.c8 (h:aQ o w G g s m ev nv):w.cell? ⟨g.M,8,none⟩=some (ah (m.id:Int)):=h.cell 8 _ (fun _ _=>rfl)
theorem NU (ev:Option Ev):∃ a b c d e f t,D6 ev=[a,b,c,d,e,f,t]:=by
 cases ev with
 | none=>exact ⟨_,_,_,_,_,_,_,rfl⟩
 | some x=>exact ⟨_,_,_,_,_,_,_,rfl⟩
theorem aQ.ZJ (h:aQ o w G g s m ev nv):∃ a b c d e f t,w.cell? ⟨g.M,23,none⟩=some a/\w.cell? ⟨g.M,24,none⟩=some b/\w.cell? ⟨g.M,25,none⟩=some c/\w.cell? ⟨g.M,26,none⟩=some d/\w.cell? ⟨g.M,27,none⟩=some e/\w.cell? ⟨g.M,28,none⟩=some f/\w.cell? ⟨g.M,29,none⟩=some t:=by
 obtain ⟨a,b,c,d,e,f,t,he⟩:=NU ev
 refine ⟨a,b,c,d,e,f,t,?_,?_,?_,?_,?_,?_,?_⟩
 all_goals
  refine h.cell _ _ (fun pv rv=>?_)
  unfold mY
  rw [he]
  rfl
theorem EO (h:aQ o w G g s m ev nv) (kind place:Nat) (code:Int) (value:Nat):Calls ay 134 #[ak g.M,ah (kind:Int),ah (place:Int),ah code,ah (value:Int)] w fun e w'=>e = .returned (.tuple #[])/\aQ o w' G g s m (some ⟨m.id,kind,place,code,value⟩) nv/\aj (In o [20+m.id]) w w':=by
 have c8:=h.c8
 obtain ⟨x0,x1,x2,x3,x4,x5,x6,e0,e1,e2,e3,e4,e5,e6⟩:=h.ZJ
 have f0:=h.free 23;have f1:=h.free 24;have f2:=h.free 25;have f3:=h.free 26;have f4:=h.free 27;have f5:=h.free 28;have f6:=h.free 29
 have k:aj (only g.M) w (((((((w.setCell ⟨g.M,23,none⟩ (ah 0)).setCell ⟨g.M,24,none⟩ (ah (m.id:Int))).setCell ⟨g.M,25,none⟩ (ah (kind:Int))).setCell ⟨g.M,26,none⟩ (ah (place:Int))).setCell ⟨g.M,27,none⟩ (ah code)).setCell ⟨g.M,28,none⟩ (ah (value:Int))).setCell ⟨g.M,29,none⟩ (.bool true)):=(((((((aj.refl _ _).put _ _).put _ _).put _ _).put _ _).put _ _).put _ _).put _ _
 have HE:=au (h.struct k m (some ⟨m.id,kind,place,code,value⟩) nv (fun pv rv hb=>by
  have:=((((((hb.set 23 (ah 0)).set 24 (ah (m.id:Int))).set 25 (ah (kind:Int))).set 26 (ah (place:Int))).set 27 (ah code)).set 28 (ah (value:Int))).set 29 (.bool true)
  obtain ⟨a,b,c,d,e,f,t,he⟩:=NU ev
  unfold mY at this ⊢
  rw [he] at this
  exact this) ⟨rfl,rfl,rfl,rfl,rfl,rfl⟩)
 generalize m.id=mi at *
 clear h k
 go_enter func134,ntmps134
 go_wp2_with fail
 go_end0
 exact ⟨rfl,HE.out.1,HE.out.2⟩
theorem aQ.Bv (h:aQ o w G g s m ev nv):∃ rv,w.cell? ⟨g.M,16,none⟩=some rv/\tV o w m.id rv m.aU/\∃ a aJ,rv = .slice a m.aU.length aJ:=by
 obtain ⟨pv,rv,h1,h2,h3⟩:=h.aC
 refine ⟨rv,h1.cell 16 rfl,h3,?_⟩
 rcases h3.1.2 with ⟨e1,e2⟩|⟨g',aJ,cur,e1,_⟩
 ·exact ⟨none,0,by rw [e1,e2]⟩
 ·exact ⟨_,_,e1⟩
theorem SS (l:List (Int × Nat)) (code:Int) (v:Nat):rJ (l++[(code,v)])=rJ l++[ah code,ah (v:Int)]:=by
 unfold rJ
 simp
theorem aQ.grow (h:aQ o w G g s m ev nv) {rv:Value} (y9:w.cell? ⟨g.M,16,none⟩=some rv) {q aJ:Nat} {code:Int} {v:Nat} {w1:World} (hown:w1.ownsRow 0 76 2 (.slice (some ⟨q,0,none⟩) (m.aU.length+1) aJ) (m.aU.length+1) (rJ m.aU++[ah code,ah (v:Int)]))
 (hg:w.grownBy w1 rv.ownBlock) (hq:rv.ownBlock=some q\/w.heap.size<=q) :
 ∃ o',dL w o o'/\aQ o' (w1.setCell ⟨g.M,16,none⟩ (.slice (some ⟨q,0,none⟩) (m.aU.length+1) aJ)) G g s { m with aU:=m.aU++[(code,v)] } ev nv/\aj (In o [20+m.id]) w (w1.setCell ⟨g.M,16,none⟩ (.slice (some ⟨q,0,none⟩) (m.aU.length+1) aJ)):=by
 obtain ⟨pv,rv',h1,h2,h3⟩:=h.aC
 have e:rv'=rv:=by
  have:=h1.cell 16 (v:=rv') rfl
  rw [y9] at this;injection this with this;exact this.symm
 subst e
 have ap:=h.apart
 have k1:aj (In o [20+m.id]) w w1:=⟨hg.os,hg.tape,hg.output,hg.size,fun k hk hn=>hg.block k hk (fun e=>hn (by unfold In;rw [h3.2 k e.symm];simp))⟩
 have kB:aj (fun i=>rv'.ownBlock=some i) w w1:=⟨hg.os,hg.tape,hg.output,hg.size,fun k hk hn=>hg.block k hk (fun e=>hn e.symm)⟩
 have Qk:∃ cur:Array Value,w1.heap[q]?=some (.cells cur 76 (0,0)):=by
  rcases hown.2 with ⟨e1,_⟩|⟨g',cap',cur,e1,_,hg',_⟩
  ·cases e1
  ·cases e1;exact ⟨cur,hg'⟩
 have aaw:q<w1.heap.size:=lt_of_block Qk.choose_spec
 have hext:dL w o (o.put q (20+m.id)):=Ow.pq (hq.elim (fun e => .inr (h3.2 q e)) .inl)
 have SV:jS (o.put q (20+m.id)) w1:=Ow.uh h.sh.fK hg.size aaw
 have nM:∀ b,rv'.ownBlock=some b->b≠g.M/\b≠g.X/\b≠g.Bf:=fun b hb=>ap.2.2.2 rv' _ b h3 hb
 have qM:q≠g.M:=hq.elim (fun e=>(nM q e).1) (fun e=>by have:=h1.lt;omega)
 have aax:([20+m.id]:List Nat).all (fun i=>decide (20<=i))=true:=by simp
 have h0:([20+m.id]:List Nat).contains 0=false:=by simp;omega
 obtain ⟨w2,hw2⟩:∃ w2,w2=w1.setCell ⟨g.M,16,none⟩ (.slice (some ⟨q,0,none⟩) (m.aU.length+1) aJ):=⟨_,rfl⟩
 rw [<- hw2]
 have kM:aj (only g.M) w1 w2:=by rw [hw2];exact (aj.refl _ _).put 16 _
 have kB2:aj (fun i=>rv'.ownBlock=some i\/i=g.M) w w2:=(kB.mono (fun i _ e=>Or.inl e)).trans (kM.mono (fun i _ e=>Or.inr e))
 have k2:aj (In o [20+m.id]) w w2:=kB2.mono (fun i _ e=>by
  unfold In
  rcases e with e|e
  ·rw [h3.2 i e];simp
  ·rw [e,h.oM];simp)
 have k2':=k2.yS hext
 obtain ⟨_,bv,hbb,_,_⟩:=id h.bJ
 refine ⟨o.put q (20+m.id),hext,⟨h.sh.move k2 aax h.box8 hext (SV.aH kM),⟨pv,.slice (some ⟨q,0,none⟩) (m.aU.length+1) aJ,?_,(h2.ext hext).aP k2' h0,?_,fun b hb=>?_⟩,(hext _ h1.lt).trans h.oM,kB2.aC h.aI (fun e=>e.elim (fun e=>(nM _ e).2.1 rfl) (fun e=>ap.1 e.symm)),(hext _ h.aI.lt).trans h.oX,?_,(hext _ hbb.lt).trans h.uN,h.nt.aP k2 h.qX h0,(hext _ h.nt.lt).trans h.qX,h.qB,h.box8,h.uO,h.pK,h.uP⟩,k2⟩
 ·have hm1:=(kB.aC h1 (fun e=>(nM _ e).1 rfl)).set 16 (.slice (some ⟨q,0,none⟩) (m.aU.length+1) aJ)
  rw [hw2]
  exact hm1
 ·show w2.ownsRow 0 76 2 _ (m.aU++[(code,v)]).length (rJ (m.aU++[(code,v)]))
  rw [SS,List.length_append]
  exact fQ hown kM (fun b hb e=>by simp [Value.ownBlock] at hb;unfold only at e;omega)
 ·simp [Value.ownBlock] at hb
  rw [<- hb]
  exact Ow.rG _ _ _
 ·refine (h.bJ.ext hext).aH kB2 (fun e=>e.elim (fun e=>(nM _ e).2.2 rfl) (fun e=>ap.2.1 e.symm)) (fun x hx e=>?_)
  rcases e with e|e
  ·have h9:=hext x (Qj h3.1 e)
   rw [hx,h3.2 x e] at h9;omega
  ·have h9:=hext g.M h1.lt
   rw [<- e,hx,e,h.oM] at h9;omega
theorem SX (h:aQ o w G g s m none nv) (code:Int) (v:Nat) (hr:m.aU.length<=1000000000):Calls ay 106 #[ak g.M,ah code,ah (v:Int)] w fun e w'=>e = .returned .nilFunc/\∃ o',dL w o o'/\aQ o' w' G g s (m.did code v) (some (m.ev code v)) nv/\aj (In o [20+m.id]) w w':=by
 have f18:=h.free 18
 have c18:=h.cell 18 (ah (m.held:Int)) (fun _ _=>rfl)
 obtain ⟨h1,k1⟩:=h.put 18 (ah 0) { m with held:=0 } none nv (fun _ _=>rfl) ⟨rfl,rfl,rfl,rfl,rfl,rfl⟩
 obtain ⟨W1,hW1⟩:∃ W1,W1=w.setCell ⟨g.M,18,none⟩ (ah 0):=⟨_,rfl⟩
 rw [<- hW1] at h1 k1
 obtain ⟨rv1,r1,hrs1,a1,cap1,er1⟩:=h.Bv
 rw [er1] at r1
 have HT:=au (EO h1 1 m.aU.length code v)
 have hTR:Hid (∀ W2,aQ o W2 G g s { m with held:=0 } (some ⟨m.id,1,m.aU.length,code,v⟩) nv->aj (In o [20+m.id]) W1 W2->∃ rv a aJ q cp w5,rv = .slice a m.aU.length aJ/\W2.cell? ⟨g.M,16,none⟩=some rv/\(app9 #[64,64] 64 #[rv,.slice (some ⟨W2.heap.size,0,none⟩) 1 1]).run ay (W2.alloc (.cells #[ah code,ah (v:Int)] 76)) = .ok (.slice (some ⟨q,0,none⟩) (m.aU.length+1) cp) w5/\w5.frozen? ⟨g.M,16,none⟩=false/\w5.cell? ⟨g.M,16,none⟩=some rv/\∃ o',dL W2 o o'/\aQ o' (w5.setCell ⟨g.M,16,none⟩ (.slice (some ⟨q,0,none⟩) (m.aU.length+1) cp)) G g s (m.did code v) (some (m.ev code v)) nv/\aj (In o [20+m.id]) W2 (w5.setCell ⟨g.M,16,none⟩ (.slice (some ⟨q,0,none⟩) (m.aU.length+1) cp))):=by
  intro W2 h2 k2
  have ka:aj aA W2 (W2.alloc (.cells #[ah code,ah (v:Int)] 76)):=(aj.refl _ _).alloc _
  have h3:=h2.still ka
  obtain ⟨rv,r2,hrs,a,aJ,er⟩:=h3.Bv
  have hNew:=aB.aW W2 [ah code,ah (v:Int)] 76
  obtain ⟨q,cp,w5,hrun,hown,hgr,hq⟩:=NT (P:=ay) (W2.alloc (.cells #[ah code,ah (v:Int)] 76)) 64 64 76 (by kernel_rfl) Tryz.infoResult rfl (by decide) hrs.1 (N:=W2.heap.size) (us:=[ah code,ah (v:Int)]) (fun j x hj=>hNew.cell j hj) rfl (by simp [Value.oneCell']) (by decide) (by show m.aU.length<=_;omega)
  obtain ⟨o',e1,h4,k4⟩:=h3.grow r2 hown hgr hq
  obtain ⟨pv,rv2,hb2,_,_⟩:=h3.aC
  have nM:rv.ownBlock≠some g.M:=fun e=>(h3.apart.2.2.2 rv _ g.M hrs e).1 rfl
  have hb5:=hb2.jJ hgr nM
  obtain ⟨r2',_⟩:W2.cell? ⟨g.M,16,none⟩=some rv/\True:=by
   obtain ⟨pv',rv',hb',_,_⟩:=h2.aC
   have:=(hb'.alloc (.cells #[ah code,ah (v:Int)] 76)).cell 16 (v:=rv') rfl
   rw [r2] at this
   injection this with this
   exact ⟨by rw [this];exact hb'.cell 16 rfl,trivial⟩
  have e2:rv2=rv:=by
   have:=hb2.cell 16 (v:=rv2) rfl
   rw [r2] at this;injection this with this;exact this.symm
  refine ⟨rv,a,aJ,q,cp,w5,er,r2',hrun,hb5.free 16,by rw [<- e2];exact hb5.cell 16 rfl,o',?_,h4,(ka.bU).trans k4⟩
  intro b hb
  exact e1 b (abj hb ka.size)
 generalize m.id=mi at *
 generalize m.aU.length=rl at *
 have aZ:=au k1
 clear h h1 hrs1 hr k1
 go_enter func106,ntmps106
 go_wp2_with fail
 rw [<- hW1]
 clear hW1
 refine HT.out.mono ?_
 rintro e w2 ⟨rfl,g1,g2⟩
 obtain ⟨rv,a,aJ,q,cp,w5,rfl,r2,hrun9,f16,c16,o',e1,h4,k4⟩:=hTR w2 g1 g2
 have HE:Hid (dL w2 o o'/\aQ o' (w5.setCell ⟨g.M,16,none⟩ (.slice (some ⟨q,0,none⟩) (rl+1) cp)) G g s (m.did code v) (some (m.ev code v)) nv/\aj (In o [20+mi]) w2 (w5.setCell ⟨g.M,16,none⟩ (.slice (some ⟨q,0,none⟩) (rl+1) cp))):=⟨e1,h4,k4⟩
 have bH:=au (aZ.out.trans g2)
 have hlt:g.M<w2.heap.size:=World.block_lt_of_cell? _ _ r2
 clear hTR HT g1 g2 e1 h4 k4 r1 f18 c18 aZ
 go_wp2_with fail
 go_ret
 exact ⟨rfl,o',fun b hb=>HE.out.1 b (abj hb bH.out.size),HE.out.2.1,bH.out.trans HE.out.2.2⟩
end
end
section
attribute [local go_sem] Oper.semAt_some
open Go.RowKit
section
variable {o:Ow} {w w':World} {G:eH} {g:MG} {s:Sh} {m:MS} {nv:Value}
theorem aG.after {W:World} {i:Nat} {r:lZ} {e:Ending} (k:aj (In o (aT i)) w W) (h:aG o W G g nv i r e w'):aG o w G g nv i r e w':=by
 obtain ⟨o',iP,e1,e2,h1,h2,k2⟩:=h
 exact ⟨o',iP,e1,fun b hb=>e2 b (abj hb k.size),h1,h2,k.trans k2⟩
theorem nY (h:aQ o w G g s m none nv) (code:Int) (v:Nat) (hr:m.aU.length<=1000000000):Calls ay 106 #[ak g.M,ah code,ah (v:Int)] w (fun e w'=>e = .returned .nilFunc/\aG o w G g nv m.id (iq s m code v) e w'):=by
 refine (SX h code v hr).mono ?_
 rintro e w' ⟨rfl,o',e1,h1,k1⟩
 exact ⟨rfl,o',_,rfl,e1,h1,rfl,k1.kX (by simp [aT])⟩
theorem aQ.c9 {ev:Option Ev} (h:aQ o w G g s m ev nv):w.cell? ⟨g.M,9,none⟩=some (.slice (some ⟨g.X,0,none⟩) m.aI.length m.aI.length):=h.cell 9 _ (fun _ _=>rfl)
theorem aQ.fP {ev:Option Ev} (h:aQ o w G g s m ev nv) (j:Nat) (hj:j<m.aI.length):w.cell? ⟨g.X,j,none⟩=some (ah (m.aI.getD j 0:Nat)):=h.aI.cell j (kS hj)
theorem aQ.EP {ev:Option Ev} (h:aQ o w G g s m ev nv):m.aI.length<=64:=by
 have h1:=(iT h.sh.heap.fV.ok).2.2.2.1
 have h2:=h.pK
 rw [h.uO] at h2
 omega
theorem vM (h:aQ o w G g s m none nv) (r:Int) (v:Nat) (h0:0<=r) (hr:r<m.aI.length) (hres:m.aU.length<=1000000000):Calls ay 169 #[ak g.M,ah r,ah (v:Int)] w (fun e w'=>e = .returned .nilFunc/\aG o w G g nv m.id (jU s m r v) e w'):=by
 obtain ⟨j,rfl⟩:∃ j:Nat,r=(j:Int):=⟨r.toNat,by omega⟩
 have hj:j<m.aI.length:=by omega
 have c9:=h.c9
 have cj:=h.fP j hj
 have fj:=h.aI.free j
 have hle:=h.EP
 obtain ⟨h1,k1⟩:=h.yZ j v
 have HD:Hid (Calls ay 106 #[ak g.M,ah 0,ah (v:Int)] (w.setCell ⟨g.X,j,none⟩ (ah (v:Int))) (fun e w'=>e = .returned .nilFunc/\aG o w G g nv m.id (jU s m (j:Int) v) e w')):=by
  refine (nY h1 0 v hres).mono ?_
  rintro e w' ⟨rfl,hp⟩
  refine ⟨rfl,aG.after (k1.kX (by simp [aT])) ?_⟩
  unfold jU
  rw [abB]
  exact hp
 generalize jU s m (j:Int) v=R at *
 generalize m.aI.getD j 0=CY at *
 generalize m.aI.length=n at *
 generalize m.id=mi at *
 clear h h1 k1
 go_enter func169,ntmps169
 go_wp2_with fail
 refine HD.out.mono ?_
 rintro e w1 ⟨rfl,hp⟩
 have HP:=au hp
 clear hp
 go_wp2_with fail
 go_ret
 exact ⟨rfl,HP.out⟩
theorem NV (h:aQ o w G g s m none nv) (op:bQ) (hres:m.aU.length<=1000000000):Calls ay 142 #[ak g.M,.agg op.cells.toArray] w (fun e w'=>e = .returned .nilFunc/\aG o w G g nv m.id (iq s m 0 0) e w'):=by
 obtain ⟨k,a,b,c⟩:=op
 have ka:∀ x,aj aA w (w.alloc x):=fun x=>(aj.refl _ _).alloc x
 have HD:Hid (∀ x,Calls ay 106 #[ak g.M,ah 0,ah 0] (w.alloc x) (fun e w'=>e = .returned .nilFunc/\aG o w G g nv m.id (iq s m 0 0) e w')):=fun x=>by
  refine (nY (h.still (ka x)) 0 0 hres).mono ?_
  rintro e w' ⟨rfl,hp⟩
  exact ⟨rfl,hp.after (ka x).bU⟩
 generalize iq s m 0 0=R at *
 generalize m.id=mi at *
 clear h ka
 simp only [bQ.cells]
 go_enter func142,ntmps142
 go_wp2_with fail
 refine (HD.out _).mono ?_
 rintro e w1 ⟨rfl,hp⟩
 have HP:=au hp
 clear hp
 go_wp2_with fail
 go_ret
 exact ⟨rfl,HP.out⟩
theorem NW (h:aQ o w G g s m none nv) (op:bQ) (h0:0<=op.a) (hr:op.a<m.aI.length) (hres:m.aU.length<=1000000000):Calls ay 140 #[ak g.M,.agg op.cells.toArray] w (fun e w'=>e = .returned .nilFunc/\aG o w G g nv m.id (iq s { m with aI:=m.aI.set op.a.toNat 0 } 0 0) e w'):=by
 obtain ⟨k,a,b,c⟩:=op
 simp only at h0 hr
 obtain ⟨j,rfl⟩:∃ j:Nat,a=(j:Int):=⟨a.toNat,by omega⟩
 have hj:j<m.aI.length:=by omega
 obtain ⟨W0,hW0⟩:∃ W0,W0=w.alloc (.cells #[ah k,ah (j:Int),ah b,ah c] 45):=⟨_,rfl⟩
 have ka:aj aA w W0:=by rw [hW0];exact (aj.refl _ _).alloc _
 have hh:=h.still ka
 have c9:=hh.c9
 have cj:=hh.fP j hj
 have fj:=hh.aI.free j
 have y1:W0.cell? ⟨w.heap.size,1,none⟩=some (ah (j:Int)):=by rw [hW0];exact (aB.aW w _ _).cell 1 rfl
 have Ag:(j:Int)<(m.aI.length:Int):=by omega
 have hj0:(0:Int)<=(j:Int):=by omega
 have hle:=h.EP
 obtain ⟨h1,k1⟩:=hh.yZ j 0
 have HD:Hid (Calls ay 106 #[ak g.M,ah 0,ah 0] (W0.setCell ⟨g.X,j,none⟩ (ah 0)).drew (fun e w'=>e = .returned .nilFunc/\aG o w G g nv m.id (iq s { m with aI:=m.aI.set j 0 } 0 0) e w')):=by
  refine (nY (h1.still (aj.refl aA _).drew) 0 0 hres).mono ?_
  rintro e w' ⟨rfl,hp⟩
  exact ⟨rfl,hp.after ((ka.bU.trans (k1.kX (by simp [aT]))).trans (aj.refl aA _).drew.bU)⟩
 have HW0:=au hW0
 simp only [abB]
 generalize iq s { m with aI:=m.aI.set j 0 } 0 0=R at *
 generalize m.aI.getD j 0=CY at *
 generalize m.aI.length=n at *
 generalize m.id=mi at *
 clear h h1 k1 hh ka hW0
 simp only [bQ.cells]
 go_enter func140,ntmps140
 go_wp2_with fail
 rw [<- HW0.out]
 go_region
 go_wp2_with fail
 refine HD.out.mono ?_
 rintro e w1 ⟨rfl,hp⟩
 have HP:=au hp
 clear hp
 go_wp2_with fail
 go_ret
 exact ⟨rfl,HP.out⟩
theorem NY (h:aQ o w G g s m none nv) (op:bQ) (h0:0<=op.a) (hr:op.a<m.aI.length) (Ql:0<=op.b) (hrb:op.b<m.aI.length) (hres:m.aU.length<=1000000000):Calls ay 141 #[ak g.M,.agg op.cells.toArray] w (fun e w'=>e = .returned .nilFunc/\aG o w G g nv m.id (jU s m op.a (m.fP op.b)) e w'):=by
 obtain ⟨k,a,b,c⟩:=op
 simp only at h0 hr Ql hrb
 obtain ⟨j,rfl⟩:∃ j:Nat,b=(j:Int):=⟨b.toNat,by omega⟩
 have hj:j<m.aI.length:=by omega
 obtain ⟨W0,hW0⟩:∃ W0,W0=w.alloc (.cells #[ah k,ah a,ah (j:Int),ah c] 45):=⟨_,rfl⟩
 have ka:aj aA w W0:=by rw [hW0];exact (aj.refl _ _).alloc _
 have hh:=h.still ka
 have c9:=hh.c9
 have cj:=hh.fP j hj
 have hle:=h.EP
 have b0:aB W0 w.heap.size [ah k,ah a,ah (j:Int),ah c] 45:=by rw [hW0];exact aB.aW w _ _
 have y1:=b0.cell 1 rfl
 have y2:=b0.cell 2 rfl
 have kG:m.fP (j:Int)=m.aI.getD j 0:=by unfold MS.fP;rw [abB]
 rw [kG]
 have HD:Hid (Calls ay 169 #[ak g.M,ah a,ah (m.aI.getD j 0:Nat)] W0.drew (fun e w'=>e = .returned .nilFunc/\aG o w G g nv m.id (jU s m a (m.aI.getD j 0)) e w')):=by
  refine (vM (hh.still (aj.refl aA W0).drew) a (m.aI.getD j 0) h0 hr hres).mono ?_
  rintro e w' ⟨rfl,hp⟩
  exact ⟨rfl,hp.after (ka.trans (aj.refl aA W0).drew).bU⟩
 have HW0:=au hW0
 have Ag:(j:Int)<(m.aI.length:Int):=by omega
 have hj0:(0:Int)<=(j:Int):=by omega
 generalize jU s m a (m.aI.getD j 0)=R at *
 generalize m.aI.getD j 0=CY at *
 generalize m.aI.length=n at *
 generalize m.id=mi at *
 clear h hh ka hW0 kG b0
 simp only [bQ.cells]
 go_enter func141,ntmps141
 go_wp2_with fail
 rw [<- HW0.out]
 refine aN 11 rfl (by kernel_rfl) (by kernel_rfl) (fun K hK=>?_)
 change wpStill _ _ (abx _) _ _ _
 simp only [List.take_succ_cons,aby,abz,abt] at hK ⊢
 repeat still_step
 refine wpStill_nil ?_
 change ite _ (Oper.wp _ _ _ _ _ _) _
 go_simp
 refine HD.out.mono ?_
 rintro e w1 ⟨rfl,hp⟩
 refine hK _ _ ?_
 clear hK K
 have HP:=au hp
 clear hp c9 cj y1 y2
 repeat still_step
 refine wpStill_nil ?_
 go_wp2_with fail
 go_ret
 exact ⟨rfl,HP.out⟩
end
end
end Go.Proofs.YtobfpmijbfgmeabGreatDoor
