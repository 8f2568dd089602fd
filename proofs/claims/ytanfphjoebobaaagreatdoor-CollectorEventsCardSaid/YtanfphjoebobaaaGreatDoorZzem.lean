/- Parts of the walk. No conditions. -/
import Derived.Test.YtanfphjoebobaaaGreatDoorZzel
namespace Go.Proofs.YtanfphjoebobaaaGreatDoor
open _root_.Go.Proofs.Tryz hiding prog
open _root_.Go.Proofs.Tryz renaming prog->ay
set_option maxRecDepth 4000
set_option maxHeartbeats 8000000
section
attribute [local go_sem] Oper.semAt_some
open Go.RowKit
section
variable {o:Ow} {w w':World} {G:Geo} {g:MG} {s:Sh} {m:MS} {ev:Option Ev} {nv0:Value}
theorem FH (h:aN o w G g s m ev nv0) (c:Nat) (t:MD) (tv:Value) (ht:dw o w g.Nt g.M t tv):Calls ay 136 #[aj g.Nt,ah (c:Int),tv] w fun e w'=>∃ nv,e = .returned nv/\dw o w' g.Nt g.M (m.kE c t) nv/\Keep none_ w w':=by
 have hc:=iq (o:=o) [([aB g.Nt],104),([ah (c:Int)],3),([tv],88)] w h.sh.fC
 obtain ⟨W,hW⟩:∃ W,W=bU w [([aB g.Nt],104),([ah (c:Int)],3),([tv],88)]:=⟨_,rfl⟩
 rw [<- hW] at hc
 have HL:=au (IQ (h.still hc.2).buf)
 have n1:∀ a b c,(((w.alloc a).alloc b).alloc c).cell? ⟨g.Nt,1,none⟩=some (aj g.Bf):=fun a b c=>(h.still ((((Keep.refl none_ w).alloc a).alloc b).alloc c)).nt.cell 1 rfl
 have UZ:W=((w.alloc (.cells #[aj g.Nt] 104)).alloc (.cells #[ah (c:Int)] 3)).alloc (.cells #[tv] 88):=by rw [hW];rfl
 have YV:=au UZ
 clear UZ
 have hform:=ht.form
 obtain ⟨b0,r0,e0,o0,k0,hc1⟩:=hc.1
 obtain ⟨b1,r1,e1,o1,k1,hc2⟩:=hc1
 obtain ⟨b2,r2,e2,o2,k2,hc3⟩:=hc2
 simp only [idxs,List.cons.injEq] at e0
 obtain ⟨rfl,rfl⟩:=e0
 simp only [List.cons.injEq] at e1
 obtain ⟨rfl,rfl⟩:=e1
 simp only [List.cons.injEq] at e2
 obtain ⟨rfl,rfl⟩:=e2
 have c0:W.cell? ⟨w.heap.size,0,none⟩=some (aj g.Nt):=k0.cell 0 rfl
 have c2:=k2.cell 0 rfl
 have hmf:∀ (fn:Fn) (first cap:Array Value) (w:World),(Instr.makeFunc fn first cap).run ay w = .ok (.func fn first cap) w:=fun _ _ _ _=>rfl
 by_cases hb:m.buf=[]
 ·have HE:Hid (dw o W g.Nt g.M (m.kE c t) tv/\Keep none_ w W):=by
   refine ⟨?_,hc.2⟩
   unfold MS.kE
   rw [if_pos hb]
   exact ht.still hc.2
  rw [hb] at HL
  clear h ht hc hW k0 k1 k2 o0 o1 o2 hb
  rcases hform with rfl|⟨fn,caps,rfl⟩
  all_goals
   go_enter func136,ntmps136
   go_wp2_with fail
   rw [<- YV.out]
   refine HL.out.mono ?_
   rintro e w2 ⟨rfl,rfl⟩
   go_wp2_with fail
   go_ret
   exact ⟨_,rfl,HE.out.1,HE.out.2⟩
 ·have HE:Hid (dw o W g.Nt g.M (m.kE c t) (.func (.func 176) #[] #[aB w.heap.size,aB (w.heap.size+1+1),aB (w.heap.size+1)])/\Keep none_ w W):=by
   refine ⟨?_,hc.2⟩
   unfold MS.kE
   rw [if_neg hb]
   exact ⟨tv,ht.still hc.2,⟨[w.heap.size,w.heap.size+1+1,w.heap.size+1],rfl,⟨_,_,rfl,o0,k0,_,_,rfl,o2,k2,_,_,rfl,o1,k1,rfl⟩⟩⟩
  have hpos:0<m.buf.length:=List.length_pos_iff.2 hb
  have d0:((m.buf.length:Int)==0)=false:=by simp;omega
  generalize m.buf.length=n at *
  clear h ht hc hW k0 k1 k2 o0 o1 o2 hb
  rcases hform with rfl|⟨fn,caps,rfl⟩
  all_goals
   go_enter func136,ntmps136
   go_wp2_with fail
   rw [<- YV.out]
   refine HL.out.mono ?_
   rintro e w2 ⟨rfl,rfl⟩
   go_wp2_with fail
   go_ret
   exact ⟨_,rfl,HE.out.1,HE.out.2⟩
theorem caps3 {l0 l1 l2:List Value × TypeId} {bs:List Nat} (h:Caps o w [l0,l1,l2] bs):∃ b0 b1 b2,bs=[b0,b1,b2]/\(o b0=0/\aA w b0 l0.1 l0.2)/\(o b1=0/\aA w b1 l1.1 l1.2)/\(o b2=0/\aA w b2 l2.1 l2.2):=by
 obtain ⟨b0,r0,rfl,o0,k0,b1,r1,rfl,o1,k1,b2,r2,rfl,o2,k2,rfl⟩:=h
 exact ⟨b0,b1,b2,rfl,⟨o0,k0⟩,⟨o1,k1⟩,⟨o2,k2⟩⟩
theorem caps2 {l0 l1:List Value × TypeId} {bs:List Nat} (h:Caps o w [l0,l1] bs):∃ b0 b1,bs=[b0,b1]/\(o b0=0/\aA w b0 l0.1 l0.2)/\(o b1=0/\aA w b1 l1.1 l1.2):=by
 obtain ⟨b0,r0,rfl,o0,k0,b1,r1,rfl,o1,k1,rfl⟩:=h
 exact ⟨b0,b1,rfl,⟨o0,k0⟩,⟨o1,k1⟩⟩
theorem caps1 {l0:List Value × TypeId} {bs:List Nat} (h:Caps o w [l0] bs):∃ b0,bs=[b0]/\(o b0=0/\aA w b0 l0.1 l0.2):=by
 obtain ⟨b0,r0,rfl,o0,k0,rfl⟩:=h
 exact ⟨b0,rfl,⟨o0,k0⟩⟩
theorem caps4 {l0 l1 l2 l3:List Value × TypeId} {bs:List Nat} (h:Caps o w [l0,l1,l2,l3] bs):∃ b0 b1 b2 b3,bs=[b0,b1,b2,b3]/\(o b0=0/\aA w b0 l0.1 l0.2)/\(o b1=0/\aA w b1 l1.1 l1.2)/\(o b2=0/\aA w b2 l2.1 l2.2)/\(o b3=0/\aA w b3 l3.1 l3.2):=by
 obtain ⟨b0,r0,rfl,o0,k0,b1,r1,rfl,o1,k1,b2,r2,rfl,o2,k2,b3,r3,rfl,o3,k3,rfl⟩:=h
 exact ⟨b0,b1,b2,b3,rfl,⟨o0,k0⟩,⟨o1,k1⟩,⟨o2,k2⟩,⟨o3,k3⟩⟩
theorem caps5 {l0 l1 l2 l3 l4:List Value × TypeId} {bs:List Nat} (h:Caps o w [l0,l1,l2,l3,l4] bs):∃ b0 b1 b2 b3 b4,bs=[b0,b1,b2,b3,b4]/\(o b0=0/\aA w b0 l0.1 l0.2)/\(o b1=0/\aA w b1 l1.1 l1.2)/\(o b2=0/\aA w b2 l2.1 l2.2)/\(o b3=0/\aA w b3 l3.1 l3.2)/\(o b4=0/\aA w b4 l4.1 l4.2):=by
 obtain ⟨b0,r0,rfl,o0,k0,b1,r1,rfl,o1,k1,b2,r2,rfl,o2,k2,b3,r3,rfl,o3,k3,b4,r4,rfl,o4,k4,rfl⟩:=h
 exact ⟨b0,b1,b2,b3,b4,rfl,⟨o0,k0⟩,⟨o1,k1⟩,⟨o2,k2⟩,⟨o3,k3⟩,⟨o4,k4⟩⟩
theorem RI (h:aN o w G g s m none nv0) (x c:Nat) (t:MD) (v:Value) (hv:dw o w g.Nt g.M (.note x c t) v):∃ bs:List Nat,v = .func (.func 173) #[] (bs.map aB).toArray/\Calls ay 173 (bs.map aB).toArray w (aT o w G g nv0 m.id (stepM s m (.note x c t))):=by
 obtain ⟨tv,av,ht,ha,bs,hbs,hcap⟩:=hv
 refine ⟨bs,hbs,?_⟩
 obtain ⟨b0,b1,b2,b3,b4,rfl,⟨o0,k0⟩,⟨o1,k1⟩,⟨o2,k2⟩,⟨o3,k3⟩,⟨o4,k4⟩⟩:=caps5 hcap
 obtain ⟨al,rfl,hca⟩:=ha
 obtain ⟨a0,a1,a2,rfl,⟨p0,q0⟩,⟨p1,q1⟩,⟨p2,q2⟩⟩:=caps3 hca
 have c0:w.cell? ⟨b0,0,none⟩=some (aj g.Nt):=k0.cell 0 rfl
 have c1:=k1.cell 0 rfl
 have c2:=k2.cell 0 rfl
 have c3:=k3.cell 0 rfl
 have n0:w.cell? ⟨g.Nt,0,none⟩=some (aj (G.D 0)):=h.nt.cell 0 rfl
 have HC:Hid (∀ W,Keep none_ w W->Calls ay 28 #[aj (G.D 0),ah (x:Int)] W fun e w'=>e = .returned (.tuple #[ah ((if s.H.bn x then s.H.dW x else 0:Nat):Int),ah (if s.H.bn x then 0 else 1)])/\W=w'):=fun W hW=>vO (h.sh.heap.still hW) x
 have hform:=ht.form
 show Calls ay 173 #[aj b0,aj b1,aj b2,aj b3,aj b4] w _
 obtain ⟨n,hn⟩:∃ n,n=w:=⟨_,rfl⟩
 clear hn n
 cases hb:s.H.bn x with
 | false =>
   have HE:Hid (∀ W,Keep none_ w W->aT o w G g nv0 m.id (stepM s m (.note x c t)) (.returned tv) W):=fun W hW=>by
    have e1:stepM s m (.note x c t)=⟨s,m,t,none⟩:=by simp only [stepM,hb];rfl
    rw [e1]
    exact aT.same (h.still hW) (ht.still hW) hW.aS
   simp only [hb,Bool.false_eq_true,if_false] at HC
   clear h ht hcap hca k0 k1 k2 k3 k4 q0 q1 q2 o0 o1 o2 o3 o4 p0 p1 p2 hbs hb
   rcases hform with rfl|⟨fn,caps,rfl⟩
   all_goals
    go_enter func173,ntmps173
    go_wp2_with fail
    go_quiet (first|(go_at_call 28;exact Calls.quiet_of_same (eU (HC.out _ ((Keep.refl none_ w).drewN _)))))
    have HK:Hid (Keep none_ w (w.drewN nq)):=(Keep.refl _ _).drewN _
    go_wp2_with fail
    go_ret
    exact HE.out _ HK.out
 | true =>
   simp only [hb,if_true] at HC
   by_cases jB:s.H.dW x=c
   ·have HE:Hid (∀ W,Keep none_ w W->aT o w G g nv0 m.id (stepM s m (.note x c t)) (.returned tv) W):=fun W hW=>by
     have e1:stepM s m (.note x c t)=⟨s,m,t,none⟩:=by simp only [stepM,hb,jB];simp
     rw [e1]
     exact aT.same (h.still hW) (ht.still hW) hW.aS
    rw [jB] at HC
    clear h ht hcap hca k0 k1 k2 k3 k4 q0 q1 q2 o0 o1 o2 o3 o4 p0 p1 p2 hbs hb jB
    rcases hform with rfl|⟨fn,caps,rfl⟩
    all_goals
     go_enter func173,ntmps173
     go_wp2_with fail
     go_quiet (first|(go_at_call 28;exact Calls.quiet_of_same (eU (HC.out _ ((Keep.refl none_ w).drewN _)))))
     have HK:Hid (Keep none_ w (w.drewN nq)):=(Keep.refl _ _).drewN _
     go_wp2_with fail
     go_ret
     exact HE.out _ HK.out
   ·have d1:((s.H.dW x:Int)==(c:Int))=false:=int_ne jB
    have Dz:Hid (∀ W,Keep none_ w W->W.cell? ⟨g.Nt,1,none⟩=some (aj g.Bf)):=fun W hW=>(h.still hW).nt.cell 1 rfl
    have HF:Hid (∀ W,Keep none_ w W->Calls ay 174 #[aj g.Bf] W fun e w'=>e = .returned (.bool (decide (m.buf.length=m.c.l.toNat)))/\Keep none_ W w'):=fun W hW=>by
     have h9:=zA (h.still hW).buf
     rw [h.full] at h9;exact h9
    have Qa:Hid (∀ W,Keep none_ w W->W.cell? ⟨b4,0,none⟩=some (.func (.func 171) #[] #[aj a0,aj a1,aj a2])):=fun W hW=>(hW.blk k4 (fun f=>f)).cell 0 rfl
    by_cases hf:m.buf.length=m.c.l.toNat
    ·have HP:Hid (∀ W,Keep none_ w W->Calls ay 136 #[aj g.Nt,ah (c:Int),.func (.func 171) #[] #[aj a0,aj a1,aj a2]] W (aT o w G g nv0 m.id (stepM s m (.note x c t)))):=fun W hW=>by
      have hav:dw o W g.Nt g.M (.add x t) (.func (.func 171) #[] #[aj a0,aj a1,aj a2]) :=
       dw.still (d := .add x t) ⟨tv,ht,⟨[a0,a1,a2],rfl,hca⟩⟩ hW
      refine (FH (h.still hW) c (.add x t) _ hav).mono ?_
      rintro e w' ⟨nv,rfl,hm,hk⟩
      have e1:stepM s m (.note x c t)=⟨s,m,m.kE c (.add x t),none⟩:=by
       simp only [stepM,hb]
       rw [if_neg (by simpa using jB),if_pos hf]
      rw [e1]
      exact aT.same ((h.still hW).still hk) hm (hW.trans hk).aS
     rw [decide_eq_true hf] at HF
     have H0:Hid (∀ W,Keep none_ w W->W.cell? ⟨b0,0,none⟩=some (aj g.Nt)/\W.cell? ⟨b2,0,none⟩=some (ah (c:Int))):=fun W hW=>⟨(hW.blk k0 (fun f=>f)).cell 0 rfl,(hW.blk k2 (fun f=>f)).cell 0 rfl⟩
     generalize s.H.dW x=col at *
     generalize stepM s m (.note x c t)=R at *
     clear h ht hcap hca k0 k1 k2 k3 k4 q0 q1 q2 o0 o1 o2 o3 o4 p0 p1 p2 hbs hb jB hf hform
     go_enter func173,ntmps173
     go_wp2_with fail
     go_quiet (first|(go_at_call 28;exact Calls.quiet_of_same (eU (HC.out _ ((Keep.refl none_ w).drewN _)))))
     obtain ⟨W1,hW1⟩:∃ W1,W1=w.drewN nq:=⟨_,rfl⟩
     rw [<- hW1]
     have aJ:Hid (Keep none_ w W1):=by rw [hW1];exact (Keep.refl _ _).drewN _
     clear hW1 c0 c1 c2 c3 n0
     have c0:=(H0.out _ aJ.out).1
     have c2:=(H0.out _ aJ.out).2
     have z1:=Dz.out _ aJ.out
     have wQ:=au (HF.out _ aJ.out)
     go_wp2_with fail
     refine wQ.out.mono ?_
     rintro e w2 ⟨rfl,hk2⟩
     have bJ:=au (aJ.out.trans hk2)
     clear hk2 c0 c2 z1
     have c0:=(H0.out _ bJ.out).1
     have c2:=(H0.out _ bJ.out).2
     have c4:=Qa.out _ bJ.out
     go_wp2_with fail
     refine (HP.out _ bJ.out).mono ?_
     rintro e w3 hp
     obtain ⟨o',nv,rfl,hp⟩:=hp
     have Dt:Hid (aT o w G g nv0 m.id R (.returned nv) w3):=⟨o',nv,rfl,hp⟩
     have hfm:=hp.2.2.1.form
     clear hp c0 c2 c4
     rcases hfm with rfl|⟨fn,caps,rfl⟩
     all_goals
      go_wp2_with fail
      go_ret
      exact Dt.out
    ·have HA:Hid (∀ W,Keep none_ w W->Calls ay 171 #[aj a0,aj a1,aj a2] W fun e w'=>e = .returned tv/\aT o w G g nv0 m.id (stepM s m (.note x c t)) (.returned tv) w'):=fun W hW=>by
      refine (IU (h.still hW) x t tv (ht.still hW) a0 a1 a2 p0 p1 p2 (hW.blk q0 (fun f=>f)) (hW.blk q1 (fun f=>f)) (hW.blk q2 (fun f=>f))).mono ?_
      rintro e w' ⟨rfl,g1,g2,g3⟩
      have e1:stepM s m (.note x c t)=⟨s,{ m with buf:=m.buf++[x] },t,none⟩:=by
       simp only [stepM,hb]
       rw [if_neg (by simpa using jB),if_neg hf]
      have e2:stepM s m (.add x t)=⟨s,{ m with buf:=m.buf++[x] },t,none⟩:=by simp only [stepM,if_neg hf]
      rw [e2] at g1
      rw [e1]
      exact ⟨rfl,aT.same g1 g2 (hW.aS.trans g3)⟩
     rw [decide_eq_false hf] at HF
     have H0:Hid (∀ W,Keep none_ w W->W.cell? ⟨b0,0,none⟩=some (aj g.Nt)/\W.cell? ⟨b2,0,none⟩=some (ah (c:Int))):=fun W hW=>⟨(hW.blk k0 (fun f=>f)).cell 0 rfl,(hW.blk k2 (fun f=>f)).cell 0 rfl⟩
     generalize s.H.dW x=col at *
     generalize stepM s m (.note x c t)=R at *
     clear h ht hcap hca k0 k1 k2 k3 k4 q0 q1 q2 o0 o1 o2 o3 o4 p0 p1 p2 hbs hb jB hf
     rcases hform with rfl|⟨fn,caps,rfl⟩
     all_goals
      go_enter func173,ntmps173
      go_wp2_with fail
      go_quiet (first|(go_at_call 28;exact Calls.quiet_of_same (eU (HC.out _ ((Keep.refl none_ w).drewN _)))))
      obtain ⟨W1,hW1⟩:∃ W1,W1=w.drewN nq:=⟨_,rfl⟩
      rw [<- hW1]
      have aJ:Hid (Keep none_ w W1):=by rw [hW1];exact (Keep.refl _ _).drewN _
      clear hW1 c0 c1 c2 c3 n0
      have c0:=(H0.out _ aJ.out).1
      have c2:=(H0.out _ aJ.out).2
      have z1:=Dz.out _ aJ.out
      have wQ:=au (HF.out _ aJ.out)
      go_wp2_with fail
      refine wQ.out.mono ?_
      rintro e w2 ⟨rfl,hk2⟩
      have bJ:=au (aJ.out.trans hk2)
      clear hk2 c0 c2 z1
      have c4:=Qa.out _ bJ.out
      go_wp2_with fail
      refine (HA.out _ bJ.out).mono ?_
      rintro e w3 ⟨rfl,hp⟩
      have Dt:=au hp
      clear hp c4
      go_wp2_with fail
      go_ret
      exact Dt.out
end
section
variable {o:Ow} {w w':World} {G:Geo} {g:MG} {s:Sh} {m:MS} {nv0:Value}
theorem aN.qp {H:HS} (h:aN o w G g s m none nv0) (k:Keep (HF G.D) w w') (hH:aF w' G.D H) (hc:H.c=s.H.c):aN o w' G g { s with H:=H } m none nv0/\Keep (In o (bW m.id)) w w':=by
 obtain ⟨h1,k1⟩:=h.sh.qp k hH h.box8
 exact ⟨h.share k1 rfl (by simp;omega) h1 rfl hc,k1.jP (by simp [bW])⟩
theorem OW (h:aN o w G g s m none nv0) (t:MD) (v:Value) (hv:dw o w g.Nt g.M (.raise t) v):∃ bs:List Nat,v = .func (.func 217) #[] (bs.map aB).toArray/\Calls ay 217 (bs.map aB).toArray w (aT o w G g nv0 m.id (stepM s m (.raise t))):=by
 obtain ⟨tv,ht,bs,hbs,hcap⟩:=hv
 refine ⟨bs,hbs,?_⟩
 obtain ⟨b0,b1,rfl,⟨o0,k0⟩,⟨o1,k1⟩⟩:=caps2 hcap
 have c0:w.cell? ⟨b0,0,none⟩=some (aj g.Nt):=k0.cell 0 rfl
 have n3:w.cell? ⟨g.Nt,3,none⟩=some (aj G.Fl):=h.nt.cell 3 rfl
 have hform:=ht.form
 have HR:Hid (Calls ay 218 #[aj G.Fl] w fun e w'=>e = .returned (.tuple #[])/\aT o w G g nv0 m.id (stepM s m (.raise t)) (.returned tv) w'/\aA w' b1 [tv] 88):=by
  refine (OU G.Fl s.flag h.sh.flag).mono ?_
  rintro e w' ⟨rfl,g1,g2⟩
  obtain ⟨h1,kk⟩:=h.sh.CJ g2 g1
  have km:Keep (In o (bW m.id)) w w':=kk.jP (by simp [bW])
  exact ⟨rfl,aT.same (r:=stepM s m (.raise t)) (h.share kk rfl (by simp;omega) h1 rfl rfl) (ht.aH kk rfl) km,k1.aH kk o1 rfl⟩
 show Calls ay 217 #[aj b0,aj b1] w _
 generalize stepM s m (.raise t)=R at *
 clear h ht hcap k0 k1 o0 o1 hbs
 rcases hform with rfl|⟨fn,caps,rfl⟩
 all_goals
  go_enter func217,ntmps217
  go_wp2_with fail
  refine HR.out.mono ?_
  rintro e w1 ⟨rfl,hp,hb⟩
  have HP:=au hp
  have c1:=hb.cell 0 rfl
  clear hp hb c0 n3
  go_wp2_with fail
  go_ret
  exact HP.out
theorem RJ (h:aN o w G g s m none nv0) (c:Nat) (t:MD) (v:Value) (hv:dw o w g.Nt g.M (.pour c t) v):∃ bs:List Nat,v = .func (.func 176) #[] (bs.map aB).toArray/\Calls ay 176 (bs.map aB).toArray w (aT o w G g nv0 m.id (stepM s m (.pour c t))):=by
 obtain ⟨tv,ht,bs,hbs,hcap⟩:=hv
 refine ⟨bs,hbs,?_⟩
 obtain ⟨b0,b1,b2,rfl,⟨o0,k0⟩,⟨o1,k1⟩,⟨o2,k2⟩⟩:=caps3 hcap
 have c0:w.cell? ⟨b0,0,none⟩=some (aj g.Nt):=k0.cell 0 rfl
 have n1:w.cell? ⟨g.Nt,1,none⟩=some (aj g.Bf):=h.nt.cell 1 rfl
 have n2:w.cell? ⟨g.Nt,2,none⟩=some (aj (G.bx m.id)):=h.nt.cell 2 rfl
 have hform:=ht.form
 have hkd:Keep none_ w w.drew:=(Keep.refl none_ w).drew
 have hd:=h.still hkd
 show Calls ay 176 #[aj b0,aj b1,aj b2] w _
 by_cases hx:s.box m.id=[]
 ·have HR:Hid (Calls ay 177 #[aj (G.bx m.id),aj g.Bf] w.drew fun e w'=>e = .returned (.bool true)/\aT o w G g nv0 m.id (stepM s m (.pour c t)) (.returned tv) w'/\aA w' b1 [tv] 88):=by
   have hbx:=hd.YW
   rw [hx] at hbx
   have hne:G.bx m.id≠g.Bf:=fun e=>by have h1:=hbx.2;rw [e,h.wO] at h1;omega
   refine (RF hd.buf hbx.1 hne hd.sh.fC).mono ?_
   rintro e w' ⟨rfl,g1,g2,g3⟩
   have kk:Keep (In o [10+m.id,20+m.id]) w.drew w':=g3.mono (fun i _ e=>by
    unfold In
    rcases e with e|e
    ·rw [e,hbx.2];simp
    ·rw [e,h.wO];simp)
   have h0:([10+m.id,20+m.id]:List Nat).contains 0=false:=by simp;omega
   have km:Keep (In o (bW m.id)) w w':=(hkd.aS).trans (kk.jP (by simp [bW]))
   have hs':ShAt o w' G { s with boxes:=s.boxes.set m.id m.buf }:=by
    refine hd.sh.upd (s':={ s with boxes:=s.boxes.set m.id m.buf }) kk h0 (hd.sh.heapK kk h0 (by simp;omega)) (hd.sh.board.keep kk (bI hd.sh.oB (by simp;omega))) (hd.sh.queue.aH kk h0 hd.sh.oQ (by simp;omega)) (hd.sh.flag.aH kk hd.sh.oF (by simp;omega)) (by simp) (fun i l hi=>?_)
    by_cases e:m.id=i
    ·rw [<- e,List.getElem?_set_self h.jm] at hi
     cases hi
     rw [<- e];exact g2
    ·rw [List.getElem?_set_ne e] at hi
     have hil:=(List.getElem?_eq_some_iff.1 hi).1
     have h8:=h.box8
     have abe:=h.jm
     exact (hd.sh.box i l hi).1.aH kk h0 (hd.sh.box i l hi).2 (by simp;omega)
   obtain ⟨pv,rv,p1,p2,p3⟩:=hd.blk
   have ap:=hd.apart
   have nM:¬ (g.M=G.bx m.id\/g.M=g.Bf):=by
    rintro (e|e)
    ·have h1:=hbx.2;rw [<- e,h.oM] at h1;omega
    ·exact ap.2.1 e
   have nX:¬ (g.X=G.bx m.id\/g.X=g.Bf):=by
    rintro (e|e)
    ·have h1:=hbx.2;rw [<- e,h.oX] at h1;omega
    ·exact ap.2.2.1 e
   have hm:aN o w' G g { s with boxes:=s.boxes.set m.id m.buf } { m with buf:=[] } none nv0:=by
    refine ⟨hs',⟨pv,rv,g3.blk p1 nM,p2.aH kk h0,⟨dY p3.1 g3 (fun b hb e=>?_),p3.2⟩⟩,h.oM,g3.blk hd.regs nX,h.oX,g1,h.wO,hd.nt.aH kk h.sN h0,h.sN,by simpa using h.jm,by simpa using h.box8,h.conf,h.rlen,by have:=h.cl;simp;omega⟩
    rcases e with e|e
    ·have h1:=hbx.2;rw [<- e,p3.2 b hb] at h1;omega
    ·exact (ap.2.2.2 rv _ b p3 hb).2.2 e
   have e1:stepM s m (.pour c t)=⟨{ s with boxes:=s.boxes.set m.id m.buf },{ m with buf:=[] },t,none⟩:=by simp only [stepM,if_pos hx]
   rw [e1]
   exact ⟨rfl,aT.same hm (ht.aH km (kT _)) km,k1.aH km o1 (kT _)⟩
  generalize stepM s m (.pour c t)=R at *
  clear h ht hcap k0 k1 k2 o0 o1 o2 hbs hkd hd hx
  rcases hform with rfl|⟨fn,caps,rfl⟩
  all_goals
   go_enter func176,ntmps176
   go_wp2_with fail
   refine aI 8 rfl (by kernel_rfl) (by kernel_rfl) (fun K hK=>?_)
   change wpStill _ _ (World.drew _) _ _ _
   simp only [List.take_succ_cons,List.take_zero,List.drop_succ_cons,List.drop_zero] at hK ⊢
   repeat still_step
   refine wpStill_nil ?_
   change ite _ (Oper.wp _ _ _ w.drew _ _) _
   go_simp
   refine HR.out.mono ?_
   rintro e w1 ⟨rfl,hp,hb⟩
   refine hK _ _ ?_
   clear hK K
   have HP:=au hp
   have c1:=hb.cell 0 rfl
   clear hp hb c0 n1 n2
   refine wpStill_nil ?_
   go_wp2_with fail
   go_ret
   exact HP.out
 ·have HR:Hid (Calls ay 177 #[aj (G.bx m.id),aj g.Bf] w.drew fun e w'=>e = .returned (.bool false)/\w.drew=w'):=UY hd.buf hd.YW.1 hx
  have d0:w.drew.cell? ⟨b0,0,none⟩=some (aj g.Nt):=(hkd.blk k0 (fun f=>f)).cell 0 rfl
  have d1:=(hkd.blk k1 (fun f=>f)).cell 0 rfl
  have d2:=(hkd.blk k2 (fun f=>f)).cell 0 rfl
  have HP:Hid (Calls ay 178 #[aj g.Nt,ah (c:Int),.bool false,tv] w.drew (aT o w G g nv0 m.id (stepM s m (.pour c t)))):=by
   refine (Dy (M:=g.M) hd.sh.fC c false t tv (ht.still hkd)).mono ?_
   rintro e w' ⟨nv,rfl,h1,h2⟩
   have e1:stepM s m (.pour c t)=⟨s,m,.eu c false t,none⟩:=by simp only [stepM,if_neg hx]
   rw [e1]
   exact aT.same (hd.still h2) h1 (hkd.trans h2).aS
  generalize stepM s m (.pour c t)=R at *
  clear h ht hcap k0 k1 k2 o0 o1 o2 hbs hkd hd hx
  rcases hform with rfl|⟨fn,caps,rfl⟩
  all_goals
   go_enter func176,ntmps176
   go_wp2_with fail
   refine aI 8 rfl (by kernel_rfl) (by kernel_rfl) (fun K hK=>?_)
   change wpStill _ _ (World.drew _) _ _ _
   simp only [List.take_succ_cons,List.take_zero,List.drop_succ_cons,List.drop_zero] at hK ⊢
   repeat still_step
   refine wpStill_nil ?_
   change ite _ (Oper.wp _ _ _ w.drew _ _) _
   go_simp
   refine HR.out.mono ?_
   rintro e w1 ⟨rfl,rfl⟩
   refine hK _ _ ?_
   clear hK K c0 n1 n2 HR
   refine wpStill_nil ?_
   obtain ⟨W1,hW1⟩:∃ W1,W1=w.drew:=⟨_,rfl⟩
   rw [<- hW1] at d0 d1 d2 HP ⊢
   clear hW1
   go_wp2_with fail
   refine HP.out.mono ?_
   rintro e w2 ⟨o',nv,rfl,hp⟩
   have Dt:Hid (aT o w G g nv0 m.id R (.returned nv) w2):=⟨o',nv,rfl,hp⟩
   have hfm:=hp.2.2.1.form
   clear hp d0 d1 d2
   rcases hfm with rfl|⟨fn,caps,rfl⟩
   all_goals
    go_wp2_with fail
    go_ret
    exact Dt.out
end
section
variable {o:Ow} {w w':World} {G:Geo} {g:MG} {s:Sh} {m:MS} {nv0:Value}
theorem OX (h:aN o w G g s m none nv0) (c:Nat) (f:Bool) (t:MD) (v:Value) (hv:dw o w g.Nt g.M (.eu c f t) v):∃ bs:List Nat,v = .func (.func 214) #[] (bs.map aB).toArray/\Calls ay 214 (bs.map aB).toArray w (aT o w G g nv0 m.id (stepM s m (.eu c f t))):=by
 obtain ⟨tv,ht,bs,hbs,hcap⟩:=hv
 refine ⟨bs,hbs,?_⟩
 obtain ⟨b0,b1,b2,b3,rfl,⟨o0,k0⟩,⟨o1,k1⟩,⟨o2,k2⟩,⟨o3,k3⟩⟩:=caps4 hcap
 have c0:w.cell? ⟨b0,0,none⟩=some (aj g.Nt):=k0.cell 0 rfl
 have n1:w.cell? ⟨g.Nt,1,none⟩=some (aj g.Bf):=h.nt.cell 1 rfl
 have hform:=ht.form
 show Calls ay 214 #[aj b0,aj b1,aj b2,aj b3] w _
 have HB:Hid (∀ I W,Keep (In o I) w W->I.contains 0=false->W.cell? ⟨b0,0,none⟩=some (aj g.Nt)/\W.cell? ⟨b1,0,none⟩=some (ah (c:Int))/\W.cell? ⟨b2,0,none⟩=some (.bool f)/\W.cell? ⟨b3,0,none⟩=some tv/\W.cell? ⟨g.Nt,1,none⟩=some (aj g.Bf)/\W.cell? ⟨g.Nt,0,none⟩=some (aj (G.D 0))):=fun I W hW hI =>
  ⟨(k0.aH hW o0 hI).cell 0 rfl,(k1.aH hW o1 hI).cell 0 rfl,(k2.aH hW o2 hI).cell 0 rfl,(k3.aH hW o3 hI).cell 0 rfl,(h.nt.aH hW h.sN hI).cell 1 rfl,(h.nt.aH hW h.sN hI).cell 0 rfl⟩
 have HN:Hid (Calls ay 215 #[aj g.Bf] w fun e w'=>e = .returned (.tuple #[ah (aW m.buf:Int),.bool (!m.buf.isEmpty)])/\aN o w' G g s { m with buf:=m.buf.tail } none nv0/\Keep (In o (bW m.id)) w w'):=by
  refine (Rz h.buf).mono ?_
  rintro e w' ⟨rfl,g1,g2⟩
  have hl:(m.buf.tail.length:Int)<=m.c.l:=by have:=h.wP;simp;omega
  exact ⟨rfl,(h.FD g2 g1 hl).1,LM h g2⟩
 have HP:Hid (∀ W,aN o W G g s { m with buf:=m.buf.tail } none nv0->Calls ay 216 #[aj (G.D 0),ah (aW m.buf:Int),ah (c:Int)] W fun e w'=>(∃ er:Int,e = .returned (.tuple #[.bool (s.H.dX (aW m.buf) c),ah er]))/\aN o w' G g { s with H:=s.H.bQ (aW m.buf) c } { m with buf:=m.buf.tail } none nv0/\Keep (In o (bW m.id)) W w'):=fun W hW=>by
  refine (Fp hW.sh.heap (aW m.buf) c).mono ?_
  rintro e w' ⟨rfl,g1,g2⟩
  have hc:(s.H.bQ (aW m.buf) c).c=s.H.c:=by unfold HS.bQ;split<;>rfl
  obtain ⟨h1,h2⟩:=hW.qp g2 g1 hc
  exact ⟨⟨_,rfl⟩,h1,h2⟩
 have HL:Hid (∀ W,aN o W G g { s with H:=s.H.bQ (aW m.buf) c } { m with buf:=m.buf.tail } none nv0->Calls ay 175 #[aj g.Bf] W fun e w'=>e = .returned (ah (m.buf.tail.length:Int))/\W=w'):=fun W hW=>IQ hW.buf
 have HDR:Hid (∀ W,aN o W G g s { m with buf:=m.buf.tail } none nv0->aN o W.drew G g s { m with buf:=m.buf.tail } none nv0):=fun W hW=>hW.still (Keep.refl none_ W).drew
 have Ag:Hid (m.buf.tail≠[]->∀ W,aN o W G g { s with H:=s.H.bQ (aW m.buf) c } { m with buf:=m.buf.tail } none nv0->Keep (In o (bW m.id)) w W->Calls ay 178 #[aj g.Nt,ah (c:Int),.bool (f||s.H.dX (aW m.buf) c),tv] W (aT o w G g nv0 m.id (stepM s m (.eu c f t)))):=fun hne W hW hk=>by
  refine (Dy (M:=g.M) hW.sh.fC c _ t tv (ht.aH hk (kT _))).mono ?_
  rintro e w' ⟨nv,rfl,h1,h2⟩
  have e1:stepM s m (.eu c f t)=⟨{ s with H:=s.H.bQ (aW m.buf) c },{ m with buf:=m.buf.tail },.eu c (f||s.H.dX (aW m.buf) c) t,none⟩:=by simp only [stepM];rw [if_pos hne]
  rw [e1]
  exact aT.same (hW.still h2) h1 (hk.trans h2.aS)
 have LQ:Hid (m.buf.tail=[]->(f||s.H.dX (aW m.buf) c)=true->∀ W,aN o W G g { s with H:=s.H.bQ (aW m.buf) c } { m with buf:=m.buf.tail } none nv0->Keep (In o (bW m.id)) w W->aT o w G g nv0 m.id (stepM s m (.eu c f t)) (.returned (.func (.func 217) #[] #[aj b0,aj b3])) W):=fun he hfr W hW hk=>by
  have e1:stepM s m (.eu c f t)=⟨{ s with H:=s.H.bQ (aW m.buf) c },{ m with buf:=m.buf.tail },.raise t,none⟩:=by simp only [stepM];rw [if_neg (by simpa using he),if_pos hfr]
  rw [e1]
  exact aT.same hW ⟨tv,ht.aH hk (kT _),⟨[b0,b3],rfl,⟨_,_,rfl,o0,k0.aH hk o0 (kT _),_,_,rfl,o3,k3.aH hk o3 (kT _),rfl⟩⟩⟩ hk
 have Qb:Hid (m.buf.tail=[]->(f||s.H.dX (aW m.buf) c)=false->∀ W,aN o W G g { s with H:=s.H.bQ (aW m.buf) c } { m with buf:=m.buf.tail } none nv0->Keep (In o (bW m.id)) w W->aT o w G g nv0 m.id (stepM s m (.eu c f t)) (.returned tv) W):=fun he hfr W hW hk=>by
  have e1:stepM s m (.eu c f t)=⟨{ s with H:=s.H.bQ (aW m.buf) c },{ m with buf:=m.buf.tail },t,none⟩:=by simp only [stepM];rw [if_neg (by simpa using he),if_neg (by rw [hfr];decide)]
  rw [e1]
  exact aT.same hW (ht.aH hk (kT _)) hk
 have hmf:∀ (fn:Fn) (first cap:Array Value) (w:World),(Instr.makeFunc fn first cap).run ay w = .ok (.func fn first cap) w:=fun _ _ _ _=>rfl
 have Qc:Hid ((bW m.id).contains 0=false):=kT _
 have hlen:m.buf.tail.length<=256:=by have h1:=h.wP;have h2:=h.cl;simp;omega
 generalize { s with H:=s.H.bQ (aW m.buf) c }=s' at *
 generalize s.H.dX (aW m.buf) c=was at *
 generalize aW m.buf=a at *
 generalize (!m.buf.isEmpty)=okb at *
 generalize hm':({ m with buf:=m.buf.tail }:MS)=m' at *
 generalize m.buf.tail=bt at *
 generalize stepM s m (.eu c f t)=R at *
 generalize bW m.id=II at *
 generalize m.id=mi at *
 clear h ht hcap k0 k1 k2 k3 o0 o1 o2 o3 hbs hm'
 have key:∀ (Q:Prop) ,Q->Q:=fun _ q=>q
 clear key
 rcases hform with rfl|⟨fn,caps,rfl⟩
 all_goals
  cases hb:bt with
  | nil =>
    rw [hb] at HL
    cases hf:(f||was) with
    | false =>
      obtain ⟨hf1,hf2⟩:=Bool.or_eq_false_iff.1 hf
      subst hf1
      subst hf2
      have HE:=au (Qb.out hb rfl)
      clear Ag LQ Qb hb hf hlen
      go_enter func214,ntmps214
      go_wp2_with fail
      refine HN.out.mono ?_
      rintro e w1 ⟨rfl,g1,g2⟩
      have H1:=au g1
      have K1:=au g2
      clear g1 g2 c0 n1
      obtain ⟨c0,c1,c2,c3,n1,n0⟩:=HB.out _ w1 K1.out Qc.out
      have Fq:=au (HP.out _ (HDR.out _ H1.out))
      go_wp2_with fail
      refine aI 6 rfl (by kernel_rfl) (by kernel_rfl) (fun K hK=>?_)
      change wpStill _ _ (World.drew _) _ _ _
      simp only [List.take_succ_cons,List.take_zero,List.drop_succ_cons,List.drop_zero] at hK ⊢
      repeat still_step
      refine wpStill_nil ?_
      change ite _ (Oper.wp _ _ _ w1.drew _ _) _
      go_simp
      refine Fq.out.mono ?_
      rintro e w2 ⟨⟨er,rfl⟩,g1,g2⟩
      refine hK _ _ ?_
      clear hK K
      have H2:=au g1
      have K2:Hid (Keep (In o II) w w2):=K1.out.trans ((Keep.refl (In o II) w1).drew.trans g2)
      clear g1 g2 c0 c1 c2 c3 n0 n1
      repeat still_step
      refine wpStill_nil ?_
      obtain ⟨c0,c1,c2,c3,n1,n0⟩:=HB.out _ w2 K2.out Qc.out
      have HL2:=au (HL.out _ H2.out)
      go_wp2_with fail
      refine HL2.out.mono ?_
      rintro e w3 ⟨rfl,rfl⟩
      go_wp2_with fail
      go_ret
      exact HE.out _ H2.out K2.out
    | true =>
      have HE:=au (LQ.out hb hf)
      have HFW:Hid (f=true\/(f=false/\was=true)):=by revert hf;cases f<;>cases was<;>simp [Hid]
      clear Ag LQ Qb hb hf hlen
      rcases HFW.out with rfl|⟨rfl,rfl⟩
      all_goals
       clear HFW
       go_enter func214,ntmps214
       go_wp2_with fail
       refine HN.out.mono ?_
       rintro e w1 ⟨rfl,g1,g2⟩
       have H1:=au g1
       have K1:=au g2
       clear g1 g2 c0 n1
       obtain ⟨c0,c1,c2,c3,n1,n0⟩:=HB.out _ w1 K1.out Qc.out
       have Fq:=au (HP.out _ (HDR.out _ H1.out))
       go_wp2_with fail
       refine aI 6 rfl (by kernel_rfl) (by kernel_rfl) (fun K hK=>?_)
       change wpStill _ _ (World.drew _) _ _ _
       simp only [List.take_succ_cons,List.take_zero,List.drop_succ_cons,List.drop_zero] at hK ⊢
       repeat still_step
       refine wpStill_nil ?_
       change ite _ (Oper.wp _ _ _ w1.drew _ _) _
       go_simp
       refine Fq.out.mono ?_
       rintro e w2 ⟨⟨er,rfl⟩,g1,g2⟩
       refine hK _ _ ?_
       clear hK K
       have H2:=au g1
       have K2:Hid (Keep (In o II) w w2):=K1.out.trans ((Keep.refl (In o II) w1).drew.trans g2)
       clear g1 g2 c0 c1 c2 c3 n0 n1
       repeat still_step
       refine wpStill_nil ?_
       obtain ⟨c0,c1,c2,c3,n1,n0⟩:=HB.out _ w2 K2.out Qc.out
       have HL2:=au (HL.out _ H2.out)
       go_wp2_with fail
       refine HL2.out.mono ?_
       rintro e w3 ⟨rfl,rfl⟩
       go_wp2_with fail
       go_ret
       exact HE.out _ H2.out K2.out
  | cons y ys =>
    have HE:=au (Ag.out (by rw [hb];simp))
    have hpos:0<bt.length:=by rw [hb];simp
    have d0:decide ((0:Int)<(bt.length:Int))=true:=decide_eq_true (by omega)
    have d1:decide (0<bt.length)=true:=decide_eq_true hpos
    generalize bt.length=bl at *
    clear Ag LQ Qb hb hlen
    cases f
    all_goals
     simp only [Bool.false_or,Bool.true_or] at HE
     go_enter func214,ntmps214
     go_wp2_with fail
     refine HN.out.mono ?_
     rintro e w1 ⟨rfl,g1,g2⟩
     have H1:=au g1
     have K1:=au g2
     clear g1 g2 c0 n1
     obtain ⟨c0,c1,c2,c3,n1,n0⟩:=HB.out _ w1 K1.out Qc.out
     have Fq:=au (HP.out _ (HDR.out _ H1.out))
     go_wp2_with fail
     refine aI 6 rfl (by kernel_rfl) (by kernel_rfl) (fun K hK=>?_)
     change wpStill _ _ (World.drew _) _ _ _
     simp only [List.take_succ_cons,List.take_zero,List.drop_succ_cons,List.drop_zero] at hK ⊢
     repeat still_step
     refine wpStill_nil ?_
     change ite _ (Oper.wp _ _ _ w1.drew _ _) _
     go_simp
     refine Fq.out.mono ?_
     rintro e w2 ⟨⟨er,rfl⟩,g1,g2⟩
     refine hK _ _ ?_
     clear hK K
     have H2:=au g1
     have K2:Hid (Keep (In o II) w w2):=K1.out.trans ((Keep.refl (In o II) w1).drew.trans g2)
     clear g1 g2 c0 c1 c2 c3 n0 n1
     repeat still_step
     refine wpStill_nil ?_
     obtain ⟨c0,c1,c2,c3,n1,n0⟩:=HB.out _ w2 K2.out Qc.out
     have HL2:=au (HL.out _ H2.out)
     go_wp2_with fail
     refine HL2.out.mono ?_
     rintro e w3 ⟨rfl,rfl⟩
     go_wp2_with fail
     refine (HE.out _ H2.out K2.out).mono ?_
     rintro e w4 ⟨o',nv,rfl,hp⟩
     have Dt:Hid (aT o w G g nv0 mi R (.returned nv) w4):=⟨o',nv,rfl,hp⟩
     have hfm:=hp.2.2.1.form
     clear hp c0 c1 c2 c3 n0 n1
     rcases hfm with rfl|⟨fn',adY,rfl⟩
     all_goals
      go_wp2_with fail
      go_ret
      exact Dt.out
end
end
section
attribute [local go_sem ↓] jT
attribute [local go_sem] Oper.semAt_some
open Go.RowKit
theorem Tryz.infoResult:(ay.info? 225).map (fun i=>(i.zero,i.size,i.bytes))=some (some (.agg #[ah 0,ah 0]),2,16):=by kernel_rfl
theorem FI {P:Program} (w:World) (t ty e:TypeId) (ht:P.underlying t=some (.slice e)) {z:Value} {size bytes:Nat} (hi:(P.info? e).map (fun i=>(i.zero,i.size,i.bytes))=some (some z,size,bytes)) (hzs:z.cells.size=size) (h0:0<size)
 {v:Value} {n:Nat} {xs us:List Value} (hown:w.ownsRow 0 e size v n xs) {N:Nat} (hN:∀ j x,us[j]?=some x->w.cell? ⟨N,j,none⟩=some x) (hul:us.length=size) (hu:∀ u∈us,u.oneCell'=true) (hb:bytes<=1000) (hn:n<=100000000000) :
 ∃ g cap w',(Builtin.append_ #[t,t] ty #[v,.slice (some ⟨N,0,none⟩) 1 1]).run P w = .ok (.slice (some ⟨g,0,none⟩) (n+1) cap) w'/\w'.ownsRow 0 e size (.slice (some ⟨g,0,none⟩) (n+1) cap) (n+1) (xs++us) /\
  w.grownBy w' v.ownBlock/\(v.ownBlock=some g\/w.heap.size<=g):=by
 obtain ⟨i,hi1,hi2,hi3,hi4⟩:=info_parts hi
 have hbytes:(n+1)*bytes<=140737488355328:=Nat.le_trans (Nat.mul_le_mul (show n+1<=100000000001 by omega) hb) (by decide)
 have hnews:∀ j x,us[j]?=some x->w.cell? ((⟨N,0,none⟩:Addr).add j)=some x:=by
  intro j x hj
  have ea:(⟨N,0,none⟩:Addr).add j=⟨N,j,none⟩:=by simp only [Addr.add];split<;>simp_all
  rw [ea];exact hN j x hj
 have hul1:us.length=1*size:=by omega
 have shape:∀ {v':Value} {W:World} {B:Nat},W.ownsRow B e size v' (n+1) (xs++us)->∃ g cap,v' = .slice (some ⟨g,0,none⟩) (n+1) cap/\B<=g:=by
  intro v' W B h
  rcases h.2 with ⟨_,h0'⟩|⟨g,cap,cur,rfl,hB,_⟩
  ·omega
  ·exact ⟨g,cap,rfl,hB⟩
 rcases hown.2 with ⟨rfl,rfl⟩|⟨g,cap,cur,rfl,hbg,hg,hnc,hcm,hcs,htake⟩
 ·have hown':w.ownsRow w.heap.size e size (.slice none 0 0) 0 xs:=⟨hown.1,.inl ⟨rfl,rfl⟩⟩
  obtain ⟨v',w',hr,h2,h3,_⟩:=run_append_own (P:=P) w w.heap.size t ty e i z size bytes ht hi1 hi2 hi3 hi4 hzs h0 _ 0 xs hown' ⟨N,0,none⟩ 1 1 us hul1 hnews hu (by unfold maxLen;omega) hbytes (Nat.le_refl _)
  obtain ⟨g,cap,rfl,hB⟩:=shape h2
  exact ⟨g,cap,w',hr,bD h2 (Nat.zero_le _),h3,.inr hB⟩
 ·by_cases hroom:n+1<=cap
  ·obtain ⟨w',hr,h2,h3⟩:=run_append_own_spare (P:=P) w 0 t ty e i size ht hi1 hi3 g n cap xs hown ⟨N,0,none⟩ 1 1 us hul1 hnews hu hroom
   exact ⟨g,cap,w',hr,h2,h3,.inl rfl⟩
  ·have holds:∀ j x,xs[j]?=some x->w.cell? ((⟨g,0,none⟩:Addr).add j)=some x:=hown.cells (g:=g) rfl
   obtain ⟨v',w',hr,h2,h3⟩:=run_append_arg_grows (P:=P) w t ty e i z size bytes ht hi1 hi2 hi3 hi4 hzs h0 ⟨g,0,none⟩ n cap xs hown.1 holds ⟨N,0,none⟩ 1 1 us hul1 hnews (by omega) (by unfold maxLen;omega) hbytes
   obtain ⟨g',cap',rfl,hB⟩:=shape h2
   exact ⟨g',cap',w',hr,bD h2 (Nat.zero_le _),⟨h3.os,h3.tape,h3.output,h3.size,fun k hk _=>h3.block k hk (by simp)⟩,.inr hB⟩
theorem ZV {w:World} {base n size q:Nat} {e:TypeId} {v:Value} {xs:List Value} (h:w.ownsRow base e size v n xs) (hq:v.ownBlock=some q):∃ cur:Array Value,w.heap[q]?=some (.cells cur e (0,0)):=by
 rcases h.2 with ⟨e1,_⟩|⟨g,cap,cur,e1,_,hg,_⟩
 ·rw [e1] at hq;simp [Value.ownBlock] at hq
 ·rw [e1] at hq;simp [Value.ownBlock] at hq;subst hq;exact ⟨cur,hg⟩
theorem U0 {w:World} {base n size q:Nat} {e:TypeId} {v:Value} {xs:List Value} (h:w.ownsRow base e size v n xs) (hq:v.ownBlock=some q):q<w.heap.size:=by
 obtain ⟨cur,hc⟩:=ZV h hq
 exact lt_of_block hc
section
variable {o:Ow} {w w':World} {G:Geo} {g:MG} {s:Sh} {m:MS} {ev:Option Ev} {nv:Value}
theorem aN.c8 (h:aN o w G g s m ev nv):w.cell? ⟨g.M,8,none⟩=some (ah (m.id:Int)):=h.cell 8 _ (fun _ _=>rfl)
theorem CO (ev:Option Ev):∃ a b c d e f t,yP ev=[a,b,c,d,e,f,t]:=by
 cases ev with
 | none=>exact ⟨_,_,_,_,_,_,_,rfl⟩
 | some x=>exact ⟨_,_,_,_,_,_,_,rfl⟩
theorem aN.evs (h:aN o w G g s m ev nv):∃ a b c d e f t,w.cell? ⟨g.M,23,none⟩=some a/\w.cell? ⟨g.M,24,none⟩=some b/\w.cell? ⟨g.M,25,none⟩=some c/\w.cell? ⟨g.M,26,none⟩=some d/\w.cell? ⟨g.M,27,none⟩=some e/\w.cell? ⟨g.M,28,none⟩=some f/\w.cell? ⟨g.M,29,none⟩=some t:=by
 obtain ⟨a,b,c,d,e,f,t,he⟩:=CO ev
 refine ⟨a,b,c,d,e,f,t,?_,?_,?_,?_,?_,?_,?_⟩
 all_goals
  refine h.cell _ _ (fun pv rv=>?_)
  unfold mP
  rw [he]
  rfl
theorem U1 (h:aN o w G g s m ev nv) (kind place:Nat) (code:Int) (value:Nat):Calls ay 183 #[aj g.M,ah (kind:Int),ah (place:Int),ah code,ah (value:Int)] w fun e w'=>e = .returned (.tuple #[])/\aN o w' G g s m (some ⟨m.id,kind,place,code,value⟩) nv/\Keep (In o [20+m.id]) w w':=by
 have c8:=h.c8
 obtain ⟨x0,x1,x2,x3,x4,x5,x6,e0,e1,e2,e3,e4,e5,e6⟩:=h.evs
 have f0:=h.free 23;have f1:=h.free 24;have f2:=h.free 25;have f3:=h.free 26;have f4:=h.free 27;have f5:=h.free 28;have f6:=h.free 29
 have k:Keep (only g.M) w (((((((w.setCell ⟨g.M,23,none⟩ (ah 0)).setCell ⟨g.M,24,none⟩ (ah (m.id:Int))).setCell ⟨g.M,25,none⟩ (ah (kind:Int))).setCell ⟨g.M,26,none⟩ (ah (place:Int))).setCell ⟨g.M,27,none⟩ (ah code)).setCell ⟨g.M,28,none⟩ (ah (value:Int))).setCell ⟨g.M,29,none⟩ (.bool true)):=(((((((Keep.refl _ _).put _ _).put _ _).put _ _).put _ _).put _ _).put _ _).put _ _
 have HE:=au (h.struct k m (some ⟨m.id,kind,place,code,value⟩) nv (fun pv rv hb=>by
  have:=((((((hb.set 23 (ah 0)).set 24 (ah (m.id:Int))).set 25 (ah (kind:Int))).set 26 (ah (place:Int))).set 27 (ah code)).set 28 (ah (value:Int))).set 29 (.bool true)
  obtain ⟨a,b,c,d,e,f,t,he⟩:=CO ev
  unfold mP at this ⊢
  rw [he] at this
  exact this) ⟨rfl,rfl,rfl,rfl,rfl,rfl⟩)
 generalize m.id=mi at *
 clear h k
 go_enter func183,ntmps183
 go_wp2_with fail
 go_end0
 exact ⟨rfl,HE.out.1,HE.out.2⟩
theorem aN.G5 (h:aN o w G g s m ev nv):∃ rv,w.cell? ⟨g.M,16,none⟩=some rv/\vS o w m.id rv m.res/\∃ a cap,rv = .slice a m.res.length cap:=by
 obtain ⟨pv,rv,h1,h2,h3⟩:=h.blk
 refine ⟨rv,h1.cell 16 rfl,h3,?_⟩
 rcases h3.1.2 with ⟨e1,e2⟩|⟨g',cap,cur,e1,_⟩
 ·exact ⟨none,0,by rw [e1,e2]⟩
 ·exact ⟨_,_,e1⟩
theorem XH (l:List (Int × Nat)) (code:Int) (v:Nat):tC (l++[(code,v)])=tC l++[ah code,ah (v:Int)]:=by
 unfold tC
 simp
theorem aN.grow (h:aN o w G g s m ev nv) {rv:Value} (FK:w.cell? ⟨g.M,16,none⟩=some rv) {q cap:Nat} {code:Int} {v:Nat} {w1:World} (hown:w1.ownsRow 0 225 2 (.slice (some ⟨q,0,none⟩) (m.res.length+1) cap) (m.res.length+1) (tC m.res++[ah code,ah (v:Int)]))
 (hg:w.grownBy w1 rv.ownBlock) (hq:rv.ownBlock=some q\/w.heap.size<=q) :
 ∃ o',aQ w o o'/\aN o' (w1.setCell ⟨g.M,16,none⟩ (.slice (some ⟨q,0,none⟩) (m.res.length+1) cap)) G g s { m with res:=m.res++[(code,v)] } ev nv/\Keep (In o [20+m.id]) w (w1.setCell ⟨g.M,16,none⟩ (.slice (some ⟨q,0,none⟩) (m.res.length+1) cap)):=by
 obtain ⟨pv,rv',h1,h2,h3⟩:=h.blk
 have e:rv'=rv:=by
  have:=h1.cell 16 (v:=rv') rfl
  rw [FK] at this;injection this with this;exact this.symm
 subst e
 have ap:=h.apart
 have k1:Keep (In o [20+m.id]) w w1:=⟨hg.os,hg.tape,hg.output,hg.size,fun k hk hn=>hg.block k hk (fun e=>hn (by unfold In;rw [h3.2 k e.symm];simp))⟩
 have kB:Keep (fun i=>rv'.ownBlock=some i) w w1:=⟨hg.os,hg.tape,hg.output,hg.size,fun k hk hn=>hg.block k hk (fun e=>hn e.symm)⟩
 have U2:∃ cur:Array Value,w1.heap[q]?=some (.cells cur 225 (0,0)):=by
  rcases hown.2 with ⟨e1,_⟩|⟨g',cap',cur,e1,_,hg',_⟩
  ·cases e1
  ·cases e1;exact ⟨cur,hg'⟩
 have adp:q<w1.heap.size:=lt_of_block U2.choose_spec
 have hext:aQ w o (o.put q (20+m.id)):=Ow.jU (hq.elim (fun e => .inr (h3.2 q e)) .inl)
 have XI:gX (o.put q (20+m.id)) w1:=Ow.nJ h.sh.fC hg.size adp
 have nM:∀ b,rv'.ownBlock=some b->b≠g.M/\b≠g.X/\b≠g.Bf:=fun b hb=>ap.2.2.2 rv' _ b h3 hb
 have qM:q≠g.M:=hq.elim (fun e=>(nM q e).1) (fun e=>by have:=h1.lt;omega)
 have adq:([20+m.id]:List Nat).all (fun i=>decide (20<=i))=true:=by simp
 have h0:([20+m.id]:List Nat).contains 0=false:=by simp;omega
 obtain ⟨w2,hw2⟩:∃ w2,w2=w1.setCell ⟨g.M,16,none⟩ (.slice (some ⟨q,0,none⟩) (m.res.length+1) cap):=⟨_,rfl⟩
 rw [<- hw2]
 have kM:Keep (only g.M) w1 w2:=by rw [hw2];exact (Keep.refl _ _).put 16 _
 have kB2:Keep (fun i=>rv'.ownBlock=some i\/i=g.M) w w2:=(kB.mono (fun i _ e=>Or.inl e)).trans (kM.mono (fun i _ e=>Or.inr e))
 have k2:Keep (In o [20+m.id]) w w2:=kB2.mono (fun i _ e=>by
  unfold In
  rcases e with e|e
  ·rw [h3.2 i e];simp
  ·rw [e,h.oM];simp)
 have k2':=k2.rO hext
 obtain ⟨_,bv,hbb,_,_⟩:=id h.buf
 refine ⟨o.put q (20+m.id),hext,⟨h.sh.move k2 adq h.box8 hext (XI.keep kM),⟨pv,.slice (some ⟨q,0,none⟩) (m.res.length+1) cap,?_,(h2.ext hext).aH k2' h0,?_,fun b hb=>?_⟩,(hext _ h1.lt).trans h.oM,kB2.blk h.regs (fun e=>e.elim (fun e=>(nM _ e).2.1 rfl) (fun e=>ap.1 e.symm)),(hext _ h.regs.lt).trans h.oX,?_,(hext _ hbb.lt).trans h.wO,h.nt.aH k2 h.sN h0,(hext _ h.nt.lt).trans h.sN,h.jm,h.box8,h.conf,h.rlen,h.wP⟩,k2⟩
 ·have hm1:=(kB.blk h1 (fun e=>(nM _ e).1 rfl)).set 16 (.slice (some ⟨q,0,none⟩) (m.res.length+1) cap)
  rw [hw2]
  exact hm1
 ·show w2.ownsRow 0 225 2 _ (m.res++[(code,v)]).length (tC (m.res++[(code,v)]))
  rw [XH,List.length_append]
  exact dY hown kM (fun b hb e=>by simp [Value.ownBlock] at hb;unfold only at e;omega)
 ·simp [Value.ownBlock] at hb
  rw [<- hb]
  exact Ow.lM _ _ _
 ·refine (h.buf.ext hext).keep kB2 (fun e=>e.elim (fun e=>(nM _ e).2.2 rfl) (fun e=>ap.2.1 e.symm)) (fun x hx e=>?_)
  rcases e with e|e
  ·have h9:=hext x (U0 h3.1 e)
   rw [hx,h3.2 x e] at h9;omega
  ·have h9:=hext g.M h1.lt
   rw [<- e,hx,e,h.oM] at h9;omega
theorem XJ (h:aN o w G g s m none nv) (code:Int) (v:Nat) (hr:m.res.length<=1000000000):Calls ay 140 #[aj g.M,ah code,ah (v:Int)] w fun e w'=>e = .returned .nilFunc/\∃ o',aQ w o o'/\aN o' w' G g s (m.did code v) (some (m.ev code v)) nv/\Keep (In o [20+m.id]) w w':=by
 have f18:=h.free 18
 have c18:=h.cell 18 (ah (m.held:Int)) (fun _ _=>rfl)
 obtain ⟨h1,k1⟩:=h.put 18 (ah 0) { m with held:=0 } none nv (fun _ _=>rfl) ⟨rfl,rfl,rfl,rfl,rfl,rfl⟩
 obtain ⟨W1,hW1⟩:∃ W1,W1=w.setCell ⟨g.M,18,none⟩ (ah 0):=⟨_,rfl⟩
 rw [<- hW1] at h1 k1
 obtain ⟨rv1,r1,hrs1,a1,cap1,er1⟩:=h.G5
 rw [er1] at r1
 have HT:=au (U1 h1 1 m.res.length code v)
 have hTR:Hid (∀ W2,aN o W2 G g s { m with held:=0 } (some ⟨m.id,1,m.res.length,code,v⟩) nv->Keep (In o [20+m.id]) W1 W2->∃ rv a cap q cp w5,rv = .slice a m.res.length cap/\W2.cell? ⟨g.M,16,none⟩=some rv/\(app9 #[105,105] 105 #[rv,.slice (some ⟨W2.heap.size,0,none⟩) 1 1]).run ay (W2.alloc (.cells #[ah code,ah (v:Int)] 225)) = .ok (.slice (some ⟨q,0,none⟩) (m.res.length+1) cp) w5/\w5.frozen? ⟨g.M,16,none⟩=false/\w5.cell? ⟨g.M,16,none⟩=some rv/\∃ o',aQ W2 o o'/\aN o' (w5.setCell ⟨g.M,16,none⟩ (.slice (some ⟨q,0,none⟩) (m.res.length+1) cp)) G g s (m.did code v) (some (m.ev code v)) nv/\Keep (In o [20+m.id]) W2 (w5.setCell ⟨g.M,16,none⟩ (.slice (some ⟨q,0,none⟩) (m.res.length+1) cp))):=by
  intro W2 h2 k2
  have ka:Keep none_ W2 (W2.alloc (.cells #[ah code,ah (v:Int)] 225)):=(Keep.refl _ _).alloc _
  have h3:=h2.still ka
  obtain ⟨rv,r2,hrs,a,cap,er⟩:=h3.G5
  have hNew:=aA.new W2 [ah code,ah (v:Int)] 225
  obtain ⟨q,cp,w5,hrun,hown,hgr,hq⟩:=FI (P:=ay) (W2.alloc (.cells #[ah code,ah (v:Int)] 225)) 105 105 225 (by kernel_rfl) Tryz.infoResult rfl (by decide) hrs.1 (N:=W2.heap.size) (us:=[ah code,ah (v:Int)]) (fun j x hj=>hNew.cell j hj) rfl (by simp [Value.oneCell']) (by decide) (by show m.res.length<=_;omega)
  obtain ⟨o',e1,h4,k4⟩:=h3.grow r2 hown hgr hq
  obtain ⟨pv,rv2,hb2,_,_⟩:=h3.blk
  have nM:rv.ownBlock≠some g.M:=fun e=>(h3.apart.2.2.2 rv _ g.M hrs e).1 rfl
  have hb5:=hb2.grown hgr nM
  obtain ⟨r2',_⟩:W2.cell? ⟨g.M,16,none⟩=some rv/\True:=by
   obtain ⟨pv',rv',hb',_,_⟩:=h2.blk
   have:=(hb'.alloc (.cells #[ah code,ah (v:Int)] 225)).cell 16 (v:=rv') rfl
   rw [r2] at this
   injection this with this
   exact ⟨by rw [this];exact hb'.cell 16 rfl,trivial⟩
  have e2:rv2=rv:=by
   have:=hb2.cell 16 (v:=rv2) rfl
   rw [r2] at this;injection this with this;exact this.symm
  refine ⟨rv,a,cap,q,cp,w5,er,r2',hrun,hb5.free 16,by rw [<- e2];exact hb5.cell 16 rfl,o',?_,h4,(ka.aS).trans k4⟩
  intro b hb
  exact e1 b (Nat.lt_of_lt_of_le hb ka.size)
 generalize m.id=mi at *
 generalize m.res.length=rl at *
 have aJ:=au k1
 clear h h1 hrs1 hr k1
 go_enter func140,ntmps140
 go_wp2_with fail
 rw [<- hW1]
 clear hW1
 refine HT.out.mono ?_
 rintro e w2 ⟨rfl,g1,g2⟩
 obtain ⟨rv,a,cap,q,cp,w5,rfl,r2,hrun9,f16,c16,o',e1,h4,k4⟩:=hTR w2 g1 g2
 have HE:Hid (aQ w2 o o'/\aN o' (w5.setCell ⟨g.M,16,none⟩ (.slice (some ⟨q,0,none⟩) (rl+1) cp)) G g s (m.did code v) (some (m.ev code v)) nv/\Keep (In o [20+mi]) w2 (w5.setCell ⟨g.M,16,none⟩ (.slice (some ⟨q,0,none⟩) (rl+1) cp))):=⟨e1,h4,k4⟩
 have bJ:=au (aJ.out.trans g2)
 have hlt:g.M<w2.heap.size:=World.block_lt_of_cell? _ _ r2
 clear hTR HT g1 g2 e1 h4 k4 r1 f18 c18 aJ
 go_wp2_with fail
 go_ret
 exact ⟨rfl,o',fun b hb=>HE.out.1 b (Nat.lt_of_lt_of_le hb bJ.out.size),HE.out.2.1,bJ.out.trans HE.out.2.2⟩
end
end
section
attribute [local go_sem] Oper.semAt_some
open Go.RowKit
section
variable {o:Ow} {w w':World} {G:Geo} {g:MG} {s:Sh} {m:MS} {nv:Value}
theorem aT.after {W:World} {i:Nat} {r:qo} {e:Ending} (k:Keep (In o (bW i)) w W) (h:aT o W G g nv i r e w'):aT o w G g nv i r e w':=by
 obtain ⟨o',jC,e1,e2,h1,h2,k2⟩:=h
 exact ⟨o',jC,e1,fun b hb=>e2 b (Nat.lt_of_lt_of_le hb k.size),h1,h2,k.trans k2⟩
theorem IV (h:aN o w G g s m none nv) (code:Int) (v:Nat) (hr:m.res.length<=1000000000):Calls ay 140 #[aj g.M,ah code,ah (v:Int)] w (fun e w'=>e = .returned .nilFunc/\aT o w G g nv m.id (mY s m code v) e w'):=by
 refine (XJ h code v hr).mono ?_
 rintro e w' ⟨rfl,o',e1,h1,k1⟩
 exact ⟨rfl,o',_,rfl,e1,h1,rfl,k1.jP (by simp [bW])⟩
theorem aN.c9 {ev:Option Ev} (h:aN o w G g s m ev nv):w.cell? ⟨g.M,9,none⟩=some (.slice (some ⟨g.X,0,none⟩) m.regs.length m.regs.length):=h.cell 9 _ (fun _ _=>rfl)
theorem aN.reg {ev:Option Ev} (h:aN o w G g s m ev nv) (j:Nat) (hj:j<m.regs.length):w.cell? ⟨g.X,j,none⟩=some (ah (m.regs.getD j 0:Nat)):=h.regs.cell j (nK hj)
theorem aN.rle {ev:Option Ev} (h:aN o w G g s m ev nv):m.regs.length<=64:=by
 have h1:=(fQ h.sh.heap.table.ok).2.2.2.1
 have h2:=h.rlen
 rw [h.conf] at h2
 omega
theorem U3 (h:aN o w G g s m none nv) (r:Int) (v:Nat) (h0:0<=r) (hr:r<m.regs.length) (hres:m.res.length<=1000000000):Calls ay 226 #[aj g.M,ah r,ah (v:Int)] w (fun e w'=>e = .returned .nilFunc/\aT o w G g nv m.id (qB s m r v) e w'):=by
 obtain ⟨j,rfl⟩:∃ j:Nat,r=(j:Int):=⟨r.toNat,by omega⟩
 have hj:j<m.regs.length:=by omega
 have c9:=h.c9
 have cj:=h.reg j hj
 have fj:=h.regs.free j
 have hle:=h.rle
 obtain ⟨h1,k1⟩:=h.abd j v
 have HD:Hid (Calls ay 140 #[aj g.M,ah 0,ah (v:Int)] (w.setCell ⟨g.X,j,none⟩ (ah (v:Int))) (fun e w'=>e = .returned .nilFunc/\aT o w G g nv m.id (qB s m (j:Int) v) e w')):=by
  refine (IV h1 0 v hres).mono ?_
  rintro e w' ⟨rfl,hp⟩
  refine ⟨rfl,aT.after (k1.jP (by simp [bW])) ?_⟩
  unfold qB
  rw [Int.toNat_natCast]
  exact hp
 generalize qB s m (j:Int) v=R at *
 generalize m.regs.getD j 0=old at *
 generalize m.regs.length=n at *
 generalize m.id=mi at *
 clear h h1 k1
 go_enter func226,ntmps226
 go_wp2_with fail
 refine HD.out.mono ?_
 rintro e w1 ⟨rfl,hp⟩
 have HP:=au hp
 clear hp
 go_wp2_with fail
 go_ret
 exact ⟨rfl,HP.out⟩
end
section
variable {o:Ow} {w w':World} {G:Geo} {g:MG} {s:Sh} {m:MS} {nv:Value}
theorem aN.m0 {ev:Option Ev} (h:aN o w G g s m ev nv):w.cell? ⟨g.M,0,none⟩=some (aj G.S):=h.cell 0 _ (fun _ _=>rfl)
theorem aN.s0 {ev:Option Ev} (h:aN o w G g s m ev nv):w.cell? ⟨G.S,0,none⟩=some (aj (G.D 0))/\w.cell? ⟨G.S,1,none⟩=some (aj G.B)/\w.cell? ⟨G.S,2,none⟩=some (aj G.Q):=by
 obtain ⟨v,h1,_⟩:=h.sh.sh
 exact ⟨h1.cell 0 rfl,h1.cell 1 rfl,h1.cell 2 rfl⟩
theorem U4 (h:aN o w G g s m none nv) (op:fE) (v:Value) (hv:dw o w g.Nt g.M (.get op) v) (h0:0<=op.a) (hr:op.a<m.regs.length) (hres:m.res.length<=1000000000):∃ bs:List Nat,v = .func (.func 230) #[] (bs.map aB).toArray/\Calls ay 230 (bs.map aB).toArray w (aT o w G g nv m.id (stepM s m (.get op))):=by
 obtain ⟨bs,hbs,hcap⟩:=hv
 refine ⟨bs,hbs,?_⟩
 obtain ⟨b0,b1,rfl,⟨o0,k0⟩,⟨o1,k1⟩⟩:=caps2 hcap
 obtain ⟨ok,oa,ob,oc⟩:=op
 have c0:w.cell? ⟨b0,0,none⟩=some (aj g.M):=k0.cell 0 rfl
 have c1:w.cell? ⟨b1,2,none⟩=some (ah ob):=k1.cell 2 rfl
 have m0:=h.m0
 have s0:=h.s0.1
 show Calls ay 230 #[aj b0,aj b1] w _
 have hkd:Keep none_ w w.drew:=(Keep.refl none_ w).drew
 have hd:=h.still hkd
 have HF:Hid (Calls ay 57 #[aj (G.D 0),ah ob] w.drew fun e w'=>(∃ er:Int,e = .returned (.tuple #[ah (s.H.cellP ob:Int),ah er]))/\w'=w.drew):=by
  refine (xH hd.sh.heap ob).mono ?_
  rintro e w' ⟨rfl,rfl⟩
  exact ⟨⟨_,rfl⟩,rfl⟩
 have HD:Hid (Calls ay 226 #[aj g.M,ah oa,ah (s.H.cellP ob:Int)] w.drew (fun e w'=>e = .returned .nilFunc/\aT o w G g nv m.id (stepM s m (.get ⟨ok,oa,ob,oc⟩)) e w')):=by
  refine (U3 hd oa (s.H.cellP ob) h0 hr hres).mono ?_
  rintro e w' ⟨rfl,hp⟩
  exact ⟨rfl,hp.after hkd.aS⟩
 have HB:Hid (w.drew.cell? ⟨b0,0,none⟩=some (aj g.M)/\w.drew.cell? ⟨b1,1,none⟩=some (ah oa)):=⟨(hkd.blk k0 (fun f=>f)).cell 0 rfl,(hkd.blk k1 (fun f=>f)).cell 1 rfl⟩
 generalize stepM s m (.get ⟨ok,oa,ob,oc⟩)=R at *
 generalize s.H.cellP ob=x at *
 generalize m.id=mi at *
 clear h hcap hbs hkd hd k0 k1 o0 o1 h0 hr hres
 go_enter func230,ntmps230
 go_wp2_with fail
 refine aI 9 rfl (by kernel_rfl) (by kernel_rfl) (fun K hK=>?_)
 change wpStill _ _ (World.drew _) _ _ _
 simp only [List.take_succ_cons,List.take_zero,List.drop_succ_cons,List.drop_zero] at hK ⊢
 repeat still_step
 refine wpStill_nil ?_
 change ite _ (Oper.wp _ _ _ _ _ _) _
 go_simp
 refine HF.out.mono ?_
 rintro e w1 ⟨⟨er,rfl⟩,rfl⟩
 refine hK _ _ ?_
 clear hK K
 clear c0 c1 m0 s0 HF
 obtain ⟨W1,hW1⟩:∃ W1,W1=w.drew:=⟨_,rfl⟩
 rw [<- hW1] at HB HD ⊢
 clear hW1
 repeat still_step
 refine wpStill_nil ?_
 have c0:=HB.out.1
 have c1:=HB.out.2
 go_wp2_with fail
 refine HD.out.mono ?_
 rintro e w2 ⟨rfl,hp⟩
 have HP:=au hp
 clear hp
 go_wp2_with fail
 go_ret
 exact HP.out
end
section
variable {o:Ow} {w w':World} {G:Geo} {g:MG} {s:Sh} {m:MS} {nv:Value}
theorem jc:∀ (fn:Fn) (first cap:Array Value) (w:World),(Instr.makeFunc fn first cap).run ay w = .ok (.func fn first cap) w:=fun _ _ _ _=>rfl
end
end
end Go.Proofs.YtanfphjoebobaaaGreatDoor
