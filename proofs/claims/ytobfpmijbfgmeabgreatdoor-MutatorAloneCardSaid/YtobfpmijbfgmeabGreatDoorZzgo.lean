/- Parts of the walk. No conditions. -/
import Derived.Test.YtobfpmijbfgmeabGreatDoorZzgn
namespace Go.Proofs.YtobfpmijbfgmeabGreatDoor
open _root_.Go.World renaming drew->abx
open _root_.List renaming drop_succ_cons->abz,drop_zero->abt,getD_eq_getElem?_getD->ace,nil_append->abY,take_zero->aby
open _root_.Nat renaming div_le_self->abE,two_pow_pos->acB
open _root_.Go.Proofs.Tryz hiding prog
open _root_.Go.Proofs.Tryz renaming prog->ay
set_option maxRecDepth 10000
set_option maxHeartbeats 4000000
section
attribute [local go_sem] Oper.semAt_some
open Go.RowKit
theorem ES (H:HS) (k:Nat):((H.dh k).2.1=0)\/((H.dh k).2.1=12/\(H.dh k).2.2=H):=by
 unfold HS.dh
 split
 ·exact .inr ⟨rfl,rfl⟩
 ·exact .inl rfl
theorem Am (H:HS) (k:Nat):((H.bT k).2.1=0)\/((H.bT k).2.1=10/\(H.bT k).2.2=H):=by
 unfold HS.bT
 split
 ·exact .inr ⟨rfl,rfl⟩
 ·exact .inl rfl
section
variable {o:Ow} {w w':World} {G:eH} {g:MG} {s:Sh} {m:MS} {nv:Value}
theorem JX (h:aQ o w G g s m none nv) (op:bQ) (k:Nat) (v:Value) (hv:bG o w g.Nt g.M (.alloc op k) v) (hk4:k<4):∃ bs:List Nat,v = .func (.func 162) #[] (bs.map aF).toArray/\Calls ay 162 (bs.map aF).toArray w (aG o w G g nv m.id (stepM s m (.alloc op k))):=by
 obtain ⟨bs,hbs,hcap⟩:=hv
 refine ⟨bs,hbs,?_⟩
 obtain ⟨b0,b1,b2,rfl,⟨o0,k0⟩,⟨o1,k1⟩,⟨o2,k2⟩⟩:=caps3 hcap
 obtain ⟨ok,oa,ob,oc⟩:=op
 have c0:w.cell? ⟨b0,0,none⟩=some (ak g.M):=k0.cell 0 rfl
 have c1:=k1.cell 0 rfl
 have m0:=h.m0
 have s0:=h.s0.1
 show Calls ay 162 #[ak b0,ak b1,ak b2] w _
 have hkd:aj aA w w.drew:=(aj.refl aA w).drew
 have hd:=h.still hkd
 have hmf:=oH
 have HF:Hid (Calls ay 163 #[ak (G.D 0),ah (k:Int)] w.drew fun e w'=>e = .returned (.tuple #[ah ((s.H.dh k).1:Int),ah ((s.H.dh k).2.1:Int)])/\aQ o w' G g { s with H:=(s.H.dh k).2.2 } m none nv/\aj (In o (aT m.id)) w w'/\aB w' b0 [aF g.M] 31/\aB w' b1 [ah (k:Int)] 3/\aB w' b2 [ah ok,ah oa,ah ob,ah oc] 45):=by
  refine (ED hd.sh.heap k hk4).mono ?_
  rintro e w' ⟨rfl,g1,g2⟩
  obtain ⟨h1,kk⟩:=hd.kZ g2 g1 (LM _ _)
  have km:aj (In o (aT m.id)) w w':=hkd.bU.trans kk
  exact ⟨rfl,h1,km,k0.aP km o0 (bD _),k1.aP km o1 (bD _),k2.aP km o2 (bD _)⟩
 rcases ES s.H k with hz|⟨hz,hsame⟩
 ·have e1:stepM s m (.alloc ⟨ok,oa,ob,oc⟩ k)=⟨{ s with H:=(s.H.dh k).2.2 },m,.fill ⟨ok,oa,ob,oc⟩ (s.H.dh k).1,none⟩:=by simp only [stepM];rw [aV hz]
  rw [hz] at HF
  have HZ:Hid (∀ W,aQ o W G g { s with H:=(s.H.dh k).2.2 } m none nv->aj (In o (aT m.id)) w W->Calls ay 164 #[ak g.M,.agg #[ah ok,ah oa,ah ob,ah oc],ah ((s.H.dh k).1:Int)] W fun e w'=>∃ fn caps,e = .returned (.func (.func fn) #[] caps)/\aG o w G g nv m.id (stepM s m (.alloc ⟨ok,oa,ob,oc⟩ k)) (.returned (.func (.func fn) #[] caps)) w'\/e = .returned .nilFunc/\aG o w G g nv m.id (stepM s m (.alloc ⟨ok,oa,ob,oc⟩ k)) (.returned .nilFunc) w'):=fun W hW hk=>by
   rw [e1]
   exact aG.made (r:=⟨{ s with H:=(s.H.dh k).2.2 },m,.fill ⟨ok,oa,ob,oc⟩ (s.H.dh k).1,none⟩) hW hk (zf hW.sh.fK g.Nt g.M ⟨ok,oa,ob,oc⟩ (s.H.dh k).1) rfl
  clear e1
  generalize stepM s m (.alloc ⟨ok,oa,ob,oc⟩ k)=R at *
  generalize { s with H:=(s.H.dh k).2.2 }=s' at *
  generalize (s.H.dh k).1=x at *
  generalize m.id=mi at *
  clear h hcap hbs hkd hd k0 k1 k2 o0 o1 o2 hz
  go_enter func162,ntmps162
  go_wp2_with fail
  refine aN 8 rfl (by kernel_rfl) (by kernel_rfl) (fun K hK=>?_)
  change wpStill _ _ (abx _) _ _ _
  simp only [List.take_succ_cons,aby,abz,abt] at hK ⊢
  repeat still_step
  refine wpStill_nil ?_
  change ite _ (Oper.wp _ _ _ _ _ _) _
  go_simp
  refine HF.out.mono ?_
  rintro e w1 ⟨rfl,g1,g2,g3,g4,g5⟩
  refine hK _ _ ?_
  clear hK K
  have H1:=au g1
  have K1:=au g2
  clear g1 g2 c0 c1 m0 s0
  repeat still_step
  refine wpStill_nil ?_
  have c0:w1.cell? ⟨b0,0,none⟩=some (ak g.M):=g3.cell 0 rfl
  have p0:=g5.cell 0 rfl;have p1:=g5.cell 1 rfl;have p2:=g5.cell 2 rfl;have p3:=g5.cell 3 rfl
  clear g3 g4 g5
  go_wp2_with fail
  refine (HZ.out _ H1.out K1.out).mono ?_
  rintro e w2 ⟨fn,caps,⟨rfl,hp⟩|⟨rfl,hp⟩⟩
  all_goals
   have HP:=au hp
   clear hp c0 p0 p1 p2 p3
   go_wp2_with fail
   go_ret
   exact HP.out
 ·have e1:stepM s m (.alloc ⟨ok,oa,ob,oc⟩ k)=⟨s,m,.assign ⟨ok,oa,ob,oc⟩ k,none⟩:=by simp only [stepM];rw [aO (by omega)]
  rw [hz,hsame] at HF
  have HE:Hid (∀ W,aQ o W G g s m none nv->aj (In o (aT m.id)) w W->aG o w G g nv m.id (stepM s m (.alloc ⟨ok,oa,ob,oc⟩ k)) (.returned (.func (.func 165) #[] #[ak b0,ak b2,ak b1])) W):=fun W hW hk=>by
   rw [e1]
   refine aG.same hW ?_ hk
   exact ⟨[b0,b2,b1],rfl,_,_,rfl,o0,k0.aP hk o0 (bD _),_,_,rfl,o2,k2.aP hk o2 (bD _),_,_,rfl,o1,k1.aP hk o1 (bD _),rfl⟩
  clear e1
  generalize stepM s m (.alloc ⟨ok,oa,ob,oc⟩ k)=R at *
  generalize (s.H.dh k).1=x at *
  generalize m.id=mi at *
  clear h hcap hbs hkd hd k0 k1 k2 o0 o1 o2 hz hsame
  go_enter func162,ntmps162
  go_wp2_with fail
  refine aN 8 rfl (by kernel_rfl) (by kernel_rfl) (fun K hK=>?_)
  change wpStill _ _ (abx _) _ _ _
  simp only [List.take_succ_cons,aby,abz,abt] at hK ⊢
  repeat still_step
  refine wpStill_nil ?_
  change ite _ (Oper.wp _ _ _ _ _ _) _
  go_simp
  refine HF.out.mono ?_
  rintro e w1 ⟨rfl,g1,g2,g3,g4,g5⟩
  refine hK _ _ ?_
  clear hK K
  have H1:=au g1
  have K1:=au g2
  clear g1 g2 g3 g4 g5 c0 c1 m0 s0
  repeat still_step
  refine wpStill_nil ?_
  go_wp2_with fail
  go_ret
  exact HE.out _ H1.out K1.out
theorem CZ (hf:jS o w) (Nt M:Nat) (op:bQ) (all:List Nat) (av:Value) (hr:dI o w 3 av (bg all)) (h1:1<=all.length):Calls ay 193 #[ak M,.agg op.cells.toArray,av] w fun e w'=>∃ fv,e = .returned fv/\bG o w' Nt M (iC op all) fv/\aj aA w w':=by
 obtain ⟨ok,oa,ob,oc⟩:=op
 obtain ⟨a,c,rfl,hlc,hmx,hcell⟩:=hr.form
 rw [show (bg all).length=all.length by simp [bg]] at *
 have hnn:((all.length - 1:Nat):Int)=(all.length:Int) - 1:=by omega
 obtain ⟨W4,fC⟩:∃ W4,W4=fZ w [([aF M],31),([ah ok,ah oa,ah ob,ah oc],45),([.slice a all.length c],35),([ah ((all.length:Int) - 1)],3)]:=⟨_,rfl⟩
 have hc:=gJ (o:=o) [([aF M],31),([ah ok,ah oa,ah ob,ah oc],45),([.slice a all.length c],35),([ah ((all.length:Int) - 1)],3)] w hf
 rw [<- fC] at hc
 have y1:=hc.2
 obtain ⟨b0,b1,b2,b3,e,⟨o0,k0⟩,⟨o1,k1⟩,⟨o2,k2⟩,⟨o3,k3⟩⟩:=caps4 hc.1
 simp only [o7,List.cons.injEq] at e
 obtain ⟨rfl,rfl,rfl,rfl,_⟩:=e
 have HW:Hid (((((w.alloc (.cells #[aF M] 31)).alloc (.cells #[ah ok,ah oa,ah ob,ah oc] 45)).alloc (.cells #[.slice a all.length c] 35)).alloc (.cells #[ah ((all.length:Int) - 1)] 3))=W4):=by rw [fC];rfl
 have hmf:=oH
 by_cases hl:all.length=1
 ·obtain ⟨x,rfl⟩:=List.length_eq_one_iff.1 hl
  have e1:iC ⟨ok,oa,ob,oc⟩ [x] = .fill ⟨ok,oa,ob,oc⟩ x:=rfl
  rw [e1]
  obtain ⟨b,off,rfl,hx⟩:=hcell 0 (ah (x:Nat)) rfl
  have hx4:W4.cell? ⟨b,off,none⟩=some (ah (x:Nat)):=y1.still hx
  have UR:Hid (Calls ay 164 #[ak M,.agg #[ah ok,ah oa,ah ob,ah oc],ah (x:Nat)] W4.drew fun e w'=>∃ fn caps,e = .returned (.func (.func fn) #[] caps)/\bG o w' Nt M (.fill ⟨ok,oa,ob,oc⟩ x) (.func (.func fn) #[] caps)/\aj aA w w'):=by
   have kd:aj aA w W4.drew:=y1.drew
   refine (zf (hf.aH kd) Nt M ⟨ok,oa,ob,oc⟩ x).mono ?_
   rintro e w' ⟨fv,rfl,g1,g2⟩
   obtain ⟨bs,rfl,hb⟩:=g1
   exact ⟨_,_,rfl,⟨bs,rfl,hb⟩,kd.trans g2⟩
  have c0:W4.cell? ⟨w.heap.size,0,none⟩=some (ak M):=k0.cell 0 rfl
  have p0:=k1.cell 0 rfl;have p1:=k1.cell 1 rfl;have p2:=k1.cell 2 rfl;have p3:=k1.cell 3 rfl
  have c2:=k2.cell 0 rfl
  have HW2:Hid (((((w.alloc (.cells #[aF M] 31)).alloc (.cells #[ah ok,ah oa,ah ob,ah oc] 45)).alloc (.cells #[.slice (some ⟨b,off,none⟩) 1 c] 35)).alloc (.cells #[ah 0] 3))=W4):=HW
  have c2:W4.cell? ⟨w.heap.size+1+1,0,none⟩=some (.slice (some ⟨b,off,none⟩) 1 c):=c2
  have hlc:1<=c:=hlc
  show Calls ay 193 #[ak M,.agg #[ah ok,ah oa,ah ob,ah oc],.slice (some ⟨b,off,none⟩) 1 c] w _
  clear HW
  clear hc k0 k1 k2 k3 o0 o1 o2 o3 y1 fC hf hr hcell hx e1 hnn hl h1 hmx
  go_enter func193,ntmps193
  go_wp2_with fail
  rw [HW2.out]
  refine aN 5 rfl (by kernel_rfl) (by kernel_rfl) (fun K hK=>?_)
  change wpStill _ _ (abx _) _ _ _
  simp only [List.take_succ_cons,aby,abz,abt] at hK ⊢
  repeat still_step
  refine wpStill_nil ?_
  change ite _ (Oper.wp _ _ _ _ _ _) _
  go_simp
  refine UR.out.mono ?_
  rintro e w1 ⟨fn,caps,rfl,g1,g2⟩
  refine hK _ _ ?_
  clear hK K
  have H1:=au (And.intro g1 g2)
  clear g1 g2 c0 p0 p1 p2 p3 c2 hx4
  repeat still_step
  refine wpStill_nil ?_
  go_wp2_with fail
  go_ret
  exact ⟨_,rfl,H1.out.1,H1.out.2⟩
 ·have e1:iC ⟨ok,oa,ob,oc⟩ all = .iQ ⟨ok,oa,ob,oc⟩ all:=by unfold iC;rw [aO hl]
  rw [e1]
  have HE:Hid (bG o W4 Nt M (.iQ ⟨ok,oa,ob,oc⟩ all) (.func (.func 208) #[] #[ak w.heap.size,ak (w.heap.size+1+1),ak (w.heap.size+1+1+1),ak (w.heap.size+1)])/\aj aA w W4):=by
   refine ⟨⟨by omega,.slice a all.length c,hr.still y1,[w.heap.size,w.heap.size+1+1,w.heap.size+1+1+1,w.heap.size+1],rfl,_,_,rfl,o0,k0,_,_,rfl,o2,k2,_,_,rfl,o3,?_,_,_,rfl,o1,k1,rfl⟩,y1⟩
   rw [hnn];exact k3
  have d0:((all.length:Int) - 1==0)=false:=by simp;omega
  generalize all.length=n at *
  clear hc k0 k1 k2 k3 o0 o1 o2 o3 y1 fC hf hr hcell e1 hnn hl
  simp only [bQ.cells]
  go_enter func193,ntmps193
  go_wp2_with fail
  rw [HW.out]
  go_ret
  exact ⟨_,rfl,HE.out.1,HE.out.2⟩
theorem Ap {H:HS} (hw0:16<=H.ww) (hw1:H.ww<=256) {k:Nat} (hk:k<4) (h:(H.bT k).2.1=0):1<=(H.bT k).1.length/\(H.bT k).1.length<=256:=by
 unfold HS.bT at h ⊢
 revert h
 split
 ·intro h;simp at h
 ·rename_i B hf
  intro _
  obtain ⟨hB,h0,hl⟩:=List.findIdx?_eq_some_iff_getElem.1 hf
  have hK:(H.assign B k).K.getD B 0=k+1  := nV hB _
  have hW:(H.assign B k).ww=H.ww:=rfl
  dsimp only
  unfold HS.bZ
  rw [hK,aO (by omega),qG,hW]
  have h2:2^(k+1)<=16:=by
   have:k=0\/k=1\/k=2\/k=3:=by omega
   rcases this with rfl|rfl|rfl|rfl<;>decide
  exact ⟨Nat.div_pos (by omega) (acB _),Nat.le_trans (abE _ _) hw1⟩
theorem aQ.ww {ev:Option Ev} (h:aQ o w G g s m ev nv):16<=s.H.ww/\s.H.ww<=256:=by
 have h1:=(iT h.sh.heap.fV.ok).2.1
 have h2:=h.sh.heap.cw
 omega
theorem Ih (h:aQ o w G g s m none nv) (op:bQ) (k:Nat) (hk4:k<4):Calls ay 166 #[ak g.M,.agg op.cells.toArray,ah (k:Int)] w fun e w'=>∃ fn caps,e = .returned (.func (.func fn) #[] caps)/\aG o w G g nv m.id (stepM s m (.assign op k)) (.returned (.func (.func fn) #[] caps)) w'\/e = .returned .nilFunc/\aG o w G g nv m.id (stepM s m (.assign op k)) (.returned .nilFunc) w':=by
 obtain ⟨ok,oa,ob,oc⟩:=op
 obtain ⟨W3,hW3⟩:∃ W3,W3=fZ w [([aF g.M],31),([ah ok,ah oa,ah ob,ah oc],45),([ah (k:Int)],3)]:=⟨_,rfl⟩
 have hc:=gJ (o:=o) [([aF g.M],31),([ah ok,ah oa,ah ob,ah oc],45),([ah (k:Int)],3)] w h.sh.fK
 rw [<- hW3] at hc
 obtain ⟨b0,b1,b2,e,⟨o0,k0⟩,⟨o1,k1⟩,⟨o2,k2⟩⟩:=caps3 hc.1
 simp only [o7,List.cons.injEq] at e
 obtain ⟨rfl,rfl,rfl,_⟩:=e
 have HW:Hid ((((w.alloc (.cells #[aF g.M] 31)).alloc (.cells #[ah ok,ah oa,ah ob,ah oc] 45)).alloc (.cells #[ah (k:Int)] 3))=W3):=by rw [hW3];rfl
 have hmf:=oH
 have hkd:aj aA w W3.drew:=hc.2.drew
 have hd:=h.still hkd
 have h3:=h.still hc.2
 have m0:=h3.m0
 have s0:=h3.s0.1
 have c0:W3.cell? ⟨w.heap.size,0,none⟩=some (ak g.M):=k0.cell 0 rfl
 have c2:W3.cell? ⟨w.heap.size+1+1,0,none⟩=some (ah (k:Int)):=k2.cell 0 rfl
 have hkd3:aj aA W3 W3.drew:=(aj.refl aA W3).drew
 have HF:Hid (Calls ay 190 #[ak (G.D 0),ah (k:Int)] W3.drew fun e w'=>(∃ a c,e = .returned (.tuple #[.slice a (s.H.bT k).1.length c,ah ((s.H.bT k).2.1:Int)])/\dI o w' 3 (.slice a (s.H.bT k).1.length c) (bg (s.H.bT k).1))/\aQ o w' G g { s with H:=(s.H.bT k).2.2 } m none nv/\aj (In o (aT m.id)) w w'/\aB w' w.heap.size [aF g.M] 31/\aB w' (w.heap.size+1) [ah ok,ah oa,ah ob,ah oc] 45/\aB w' (w.heap.size+1+1) [ah (k:Int)] 3):=by
  refine (JK hd.sh.heap k hk4).mono ?_
  rintro e w' ⟨v,rfl,g0,g1,g2⟩
  obtain ⟨h1,kk⟩:=hd.kZ g2 g1 (Qn _ _)
  have km:aj (In o (aT m.id)) w w':=hkd.bU.trans kk
  have km3:aj (In o (aT m.id)) W3 w':=hkd3.bU.trans kk
  have hlen:(s.H.bT k).1.length<=256:=by
   rcases Am s.H k with hz|⟨hz,_⟩
   ·exact (Ap h.ww.1 h.ww.2 hk4 hz).2
   ·unfold HS.bT at hz ⊢
    revert hz
    split
    ·intro _;exact Nat.zero_le _
    ·intro hz;simp at hz
  have hro:=dI.qc g0 (by omega) (fun b hb=>hd.sh.fK b hb)
  obtain ⟨a,c,hv,_⟩:=hro.form
  rw [List.length_map] at hv
  subst hv
  exact ⟨⟨a,c,rfl,hro⟩,h1,km,k0.aP km3 o0 (bD _),k1.aP km3 o1 (bD _),k2.aP km3 o2 (bD _)⟩
 rcases Am s.H k with hz|⟨hz,hsame⟩
 ·have e1:stepM s m (.assign ⟨ok,oa,ob,oc⟩ k)=⟨{ s with H:=(s.H.bT k).2.2 },m,iC ⟨ok,oa,ob,oc⟩ (s.H.bT k).1,none⟩:=by simp only [stepM];rw [aV hz]
  have hl1:=(Ap h.ww.1 h.ww.2 hk4 hz).1
  rw [hz] at HF
  have HZ:Hid (∀ W a c,aQ o W G g { s with H:=(s.H.bT k).2.2 } m none nv->aj (In o (aT m.id)) w W->dI o W 3 (.slice a (s.H.bT k).1.length c) (bg (s.H.bT k).1)->Calls ay 193 #[ak g.M,.agg #[ah ok,ah oa,ah ob,ah oc],.slice a (s.H.bT k).1.length c] W fun e w'=>∃ fn caps,e = .returned (.func (.func fn) #[] caps)/\aG o w G g nv m.id (stepM s m (.assign ⟨ok,oa,ob,oc⟩ k)) (.returned (.func (.func fn) #[] caps)) w'\/e = .returned .nilFunc/\aG o w G g nv m.id (stepM s m (.assign ⟨ok,oa,ob,oc⟩ k)) (.returned .nilFunc) w'):=fun W a c hW hk hr=>by
   rw [e1]
   exact aG.made (r:=⟨{ s with H:=(s.H.bT k).2.2 },m,iC ⟨ok,oa,ob,oc⟩ (s.H.bT k).1,none⟩) hW hk (CZ hW.sh.fK g.Nt g.M ⟨ok,oa,ob,oc⟩ (s.H.bT k).1 _ hr hl1) rfl
  clear e1
  generalize stepM s m (.assign ⟨ok,oa,ob,oc⟩ k)=R at *
  generalize { s with H:=(s.H.bT k).2.2 }=s' at *
  generalize (s.H.bT k).1=l at *
  generalize m.id=mi at *
  clear h h3 hc hkd hkd3 hd k0 k1 k2 o0 o1 o2 hz hl1 hW3
  simp only [bQ.cells]
  go_enter func166,ntmps166
  go_wp2_with fail
  rw [HW.out]
  refine aN 8 rfl (by kernel_rfl) (by kernel_rfl) (fun K hK=>?_)
  change wpStill _ _ (abx _) _ _ _
  simp only [List.take_succ_cons,aby,abz,abt] at hK ⊢
  repeat still_step
  refine wpStill_nil ?_
  change ite _ (Oper.wp _ _ _ _ _ _) _
  go_simp
  refine HF.out.mono ?_
  rintro e w1 ⟨⟨a,c,rfl,g0⟩,g1,g2,g3,g4,g5⟩
  refine hK _ _ ?_
  clear hK K
  have H0:=au g0
  have H1:=au g1
  have K1:=au g2
  clear g0 g1 g2 c0 c2 m0 s0
  repeat still_step
  refine wpStill_nil ?_
  have c0:w1.cell? ⟨w.heap.size,0,none⟩=some (ak g.M):=g3.cell 0 rfl
  have p0:=g4.cell 0 rfl;have p1:=g4.cell 1 rfl;have p2:=g4.cell 2 rfl;have p3:=g4.cell 3 rfl
  clear g3 g4 g5
  go_wp2_with fail
  refine (HZ.out _ _ _ H1.out K1.out H0.out).mono ?_
  rintro e w2 ⟨fn,caps,⟨rfl,hp⟩|⟨rfl,hp⟩⟩
  all_goals
   have HP:=au hp
   clear hp c0 p0 p1 p2 p3
   go_wp2_with fail
   go_ret
   first
    | exact ⟨fn,caps,.inl ⟨rfl,HP.out⟩⟩
    | exact ⟨fn,caps,.inr ⟨rfl,HP.out⟩⟩
 ·have e1:stepM s m (.assign ⟨ok,oa,ob,oc⟩ k)=⟨s,m,.iK ⟨ok,oa,ob,oc⟩ k,none⟩:=by simp only [stepM];rw [aO (by omega)]
  rw [hz,hsame] at HF
  have HE:Hid (∀ W,aQ o W G g s m none nv->aj (In o (aT m.id)) w W->aB W w.heap.size [aF g.M] 31->aB W (w.heap.size+1) [ah ok,ah oa,ah ob,ah oc] 45->aB W (w.heap.size+1+1) [ah (k:Int)] 3->aG o w G g nv m.id (stepM s m (.assign ⟨ok,oa,ob,oc⟩ k)) (.returned (.func (.func 191) #[] #[ak w.heap.size,ak (w.heap.size+1),ak (w.heap.size+1+1)])) W):=fun W hW hk g0 g1 g2=>by
   rw [e1]
   refine aG.same hW ?_ hk
   exact ⟨[w.heap.size,w.heap.size+1,w.heap.size+1+1],rfl,_,_,rfl,o0,g0,_,_,rfl,o1,g1,_,_,rfl,o2,g2,rfl⟩
  clear e1
  generalize stepM s m (.assign ⟨ok,oa,ob,oc⟩ k)=R at *
  generalize (s.H.bT k).1=l at *
  generalize m.id=mi at *
  clear h h3 hc hkd hkd3 hd k0 k1 k2 o0 o1 o2 hz hsame hW3
  simp only [bQ.cells]
  go_enter func166,ntmps166
  go_wp2_with fail
  rw [HW.out]
  refine aN 8 rfl (by kernel_rfl) (by kernel_rfl) (fun K hK=>?_)
  change wpStill _ _ (abx _) _ _ _
  simp only [List.take_succ_cons,aby,abz,abt] at hK ⊢
  repeat still_step
  refine wpStill_nil ?_
  change ite _ (Oper.wp _ _ _ _ _ _) _
  go_simp
  refine HF.out.mono ?_
  rintro e w1 ⟨⟨a,c,rfl,g0⟩,g1,g2,g3,g4,g5⟩
  refine hK _ _ ?_
  clear hK K
  have HX:=au (HE.out _ g1 g2 g3 g4 g5)
  clear g0 g1 g2 g3 g4 g5 c0 c2 m0 s0
  repeat still_step
  refine wpStill_nil ?_
  go_wp2_with fail
  go_ret
  exact ⟨_,_,.inl ⟨rfl,HX.out⟩⟩
theorem Ii (h:aQ o w G g s m none nv) (op:bQ) (k:Nat) (v:Value) (hv:bG o w g.Nt g.M (.assign op k) v) (hk4:k<4):∃ bs:List Nat,v = .func (.func 165) #[] (bs.map aF).toArray/\Calls ay 165 (bs.map aF).toArray w (aG o w G g nv m.id (stepM s m (.assign op k))):=by
 obtain ⟨bs,hbs,hcap⟩:=hv
 refine ⟨bs,hbs,?_⟩
 obtain ⟨b0,b1,b2,rfl,⟨o0,k0⟩,⟨o1,k1⟩,⟨o2,k2⟩⟩:=caps3 hcap
 have HC:=au (Ih h op k hk4)
 obtain ⟨ok,oa,ob,oc⟩:=op
 have c0:w.cell? ⟨b0,0,none⟩=some (ak g.M):=k0.cell 0 rfl
 have p0:=k1.cell 0 rfl;have p1:=k1.cell 1 rfl;have p2:=k1.cell 2 rfl;have p3:=k1.cell 3 rfl
 have c2:=k2.cell 0 rfl
 show Calls ay 165 #[ak b0,ak b1,ak b2] w _
 simp only [bQ.cells] at HC
 generalize stepM s m (.assign ⟨ok,oa,ob,oc⟩ k)=R at *
 generalize m.id=mi at *
 clear h hcap hbs k0 k1 k2 o0 o1 o2
 go_enter func165,ntmps165
 go_wp2_with fail
 refine HC.out.mono ?_
 rintro e w2 ⟨fn,caps,⟨rfl,hp⟩|⟨rfl,hp⟩⟩
 all_goals
  have HP:=au hp
  clear hp c0 p0 p1 p2 p3 c2
  go_wp2_with fail
  go_ret
  exact HP.out
theorem aG.made1 {r:lZ} {W:World} {i:Nat} (h:aQ o W G g r.s r.m r.ev nv) (k:aj (In o (aT i)) w W) {f:Nat} {args:Array Value} (hc:Calls ay f args W fun e w'=>∃ fv,e = .returned fv/\bG o w' g.Nt g.M r.next fv/\aj aA W w') (hev:r.ev=none) (hn:∀ w' fv,bG o w' g.Nt g.M r.next fv->fv ≠ .nilFunc):Calls ay f args W fun e w'=>∃ fn caps,e = .returned (.func (.func fn) #[] caps)/\aG o w G g nv i r (.returned (.func (.func fn) #[] caps)) w':=by
 refine hc.mono ?_
 rintro e w' ⟨fv,rfl,h1,h2⟩
 rw [hev] at h
 have hp:aG o w G g nv i r (.returned fv) w':=⟨o,fv,rfl,dL.refl _ _,by rw [hev];exact h.still h2,iW.of (g:=(g.Nt,g.M)) h1,k.trans h2.bU⟩
 rcases h1.form with rfl|⟨fn,caps,rfl⟩
 ·exact absurd rfl (hn _ _ h1)
 ·exact ⟨fn,caps,rfl,hp⟩
theorem N9 {op:bQ} {all:List Nat} {w':World} {fv:Value} {Nt M:Nat} (h:bG o w' Nt M (iC op all) fv):fv ≠ .nilFunc:=by
 unfold iC at h
 rintro rfl
 split at h
 ·obtain ⟨bs,e,_⟩:=h;cases e
 ·obtain ⟨_,_,_,bs,e,_⟩:=h;cases e
theorem S9 {P:Program} {T e:TypeId} (ht:P.underlying T=some (.slice e)) (hi:(P.info? e).map (·.size)=some 1) (a:Addr) (n c j:Nat) (hc:j<c) (w:World) :
 (Instr.slice T (.slice (some a) n c) none (some (ah (j:Int))) none).run P w = .ok (.slice (some a) j c) w:=by
 obtain ⟨i,hi1,hi2⟩:=Option.map_eq_some_iff.1 hi
 have hb2:(Instr.sliceBound (ah (j:Int)) c .sliceAcap).run P w = .ok ((j:Int).toNat) w:=run_sliceBound (P:=P) (w:=w) .i64 (j:Int) c .sliceAcap (by omega) (by omega)
 have h0:c≠0:=by omega
 simp [Instr.slice,run_underlying ht,sizeOf,typeInfo,hi1,hi2,Instr.sliceBounds,hb2,Sem.run_bind,Result.andThen,h0,Addr.add]
theorem JY (h:aQ o w G g s m none nv) (op:bQ) (all:List Nat) (v:Value) (hv:bG o w g.Nt g.M (.iQ op all) v):∃ bs:List Nat,v = .func (.func 208) #[] (bs.map aF).toArray/\Calls ay 208 (bs.map aF).toArray w (aG o w G g nv m.id (stepM s m (.iQ op all))):=by
 obtain ⟨hl2,av,hr,bs,hbs,hcap⟩:=hv
 refine ⟨bs,hbs,?_⟩
 obtain ⟨b0,b1,b2,b3,rfl,⟨o0,k0⟩,⟨o1,k1⟩,⟨o2,k2⟩,⟨o3,k3⟩⟩:=caps4 hcap
 obtain ⟨ok,oa,ob,oc⟩:=op
 obtain ⟨a,c,rfl,hlc,hmx,hcell⟩:=hr.form
 rw [show (bg all).length=all.length by simp [bg]] at *
 obtain ⟨n,hn⟩:∃ n,all.length=n:=⟨_,rfl⟩
 obtain ⟨j,hj⟩:∃ j,n=j+1:=⟨n - 1,by omega⟩
 rw [hn] at hr hlc hmx k1
 rw [show all.length - 1=j by omega] at k2
 obtain ⟨b,off,rfl,hx⟩:=hcell j (ah (all.getD j 0:Nat)) (kS (by omega))
 have e1:stepM s m (.iQ ⟨ok,oa,ob,oc⟩ all)=⟨{ s with H:=s.H.fA (all.getD j 0) },m,iC ⟨ok,oa,ob,oc⟩ (all.take j),none⟩:=by
  simp only [stepM];rw [show all.length - 1=j by omega]
 have c0:w.cell? ⟨b0,0,none⟩=some (ak g.M):=k0.cell 0 rfl
 have c1:=k1.cell 0 rfl
 have c2:=k2.cell 0 rfl
 have m0:=h.m0
 have s0:=h.s0.1
 show Calls ay 208 #[ak b0,ak b1,ak b2,ak b3] w _
 have hkd:aj aA w w.drew:=(aj.refl aA w).drew
 have hd:=h.still hkd
 have HF:Hid (Calls ay 209 #[ak (G.D 0),ah (all.getD j 0:Nat)] w.drew fun e w'=>(∃ er:Int,e = .returned (ah er))/\aQ o w' G g { s with H:=s.H.fA (all.getD j 0) } m none nv/\aj (In o (aT m.id)) w w'/\aB w' b0 [aF g.M] 31/\aB w' b1 [.slice (some ⟨b,off,none⟩) n c] 35/\aB w' b2 [ah (j:Int)] 3/\aB w' b3 [ah ok,ah oa,ah ob,ah oc] 45/\dI o w' 3 (.slice (some ⟨b,off,none⟩) n c) (bg all)):=by
  refine (SC hd.sh.heap _).mono ?_
  rintro e w' ⟨⟨er,rfl⟩,g1,g2⟩
  obtain ⟨h1,kk⟩:=hd.kZ g2 g1 (LK _ _)
  have km:aj (In o (aT m.id)) w w':=hkd.bU.trans kk
  exact ⟨⟨_,rfl⟩,h1,km,k0.aP km o0 (bD _),k1.aP km o1 (bD _),k2.aP km o2 (bD _),k3.aP km o3 (bD _),hr.aP km (bD _)⟩
 have HZ:Hid (∀ W,aQ o W G g { s with H:=s.H.fA (all.getD j 0) } m none nv->aj (In o (aT m.id)) w W->dI o W 3 (.slice (some ⟨b,off,none⟩) n c) (bg all)->Calls ay 193 #[ak g.M,.agg #[ah ok,ah oa,ah ob,ah oc],.slice (some ⟨b,off,none⟩) j c] W.drew fun e w'=>∃ fn caps,e = .returned (.func (.func fn) #[] caps)/\aG o w G g nv m.id (stepM s m (.iQ ⟨ok,oa,ob,oc⟩ all)) (.returned (.func (.func fn) #[] caps)) w'):=fun W hW hk hr=>by
  rw [e1]
  have kd:aj aA W W.drew:=(aj.refl aA W).drew
  have hr2:dI o W.drew 3 (.slice (some ⟨b,off,none⟩) j c) (bg (all.take j)):=by
   have:=(hr.still kd).take j (by omega)
   unfold bg at this ⊢
   rw [List.map_take];exact this
  have hl:1<=(all.take j).length:=by rw [List.length_take];omega
  exact aG.made1 (r:=⟨{ s with H:=s.H.fA (all.getD j 0) },m,iC ⟨ok,oa,ob,oc⟩ (all.take j),none⟩) (hW.still kd) (hk.trans kd.bU) (CZ (hW.sh.fK.aH kd) g.Nt g.M ⟨ok,oa,ob,oc⟩ (all.take j) _ hr2 hl) rfl (fun _ _=>N9)
 have hrun:=S9 (P:=ay) (T:=35) (e:=3) (by kernel_rfl) (by kernel_rfl) ⟨b,off,none⟩ n c j (by omega)
 clear e1
 generalize stepM s m (.iQ ⟨ok,oa,ob,oc⟩ all)=R at *
 generalize { s with H:=s.H.fA (all.getD j 0) }=s' at *
 generalize all.getD j 0=x at *
 generalize m.id=mi at *
 have Ag:(j:Int)<(n:Int):=by omega
 have hj0:(0:Int)<=(j:Int):=by omega
 clear h hcap hbs hkd hd k0 k1 k2 k3 o0 o1 o2 o3 hcell hr hl2 hj hn
 go_enter func208,ntmps208
 go_wp2_with fail
 refine aN 11 rfl (by kernel_rfl) (by kernel_rfl) (fun K hK=>?_)
 change wpStill _ _ (abx _) _ _ _
 simp only [List.take_succ_cons,aby,abz,abt] at hK ⊢
 repeat still_step
 refine wpStill_nil ?_
 change ite _ (Oper.wp _ _ _ _ _ _) _
 go_simp
 refine HF.out.mono ?_
 rintro e w1 ⟨⟨er,rfl⟩,g1,g2,g3,g4,g5,g6,g7⟩
 refine hK _ _ ?_
 clear hK K
 have H1:=au g1
 have K1:=au g2
 have R1:=au g7
 clear g1 g2 g7 c0 c1 c2 m0 s0 hx
 repeat still_step
 refine wpStill_nil ?_
 have c0:w1.cell? ⟨b0,0,none⟩=some (ak g.M):=g3.cell 0 rfl
 have c1:=g4.cell 0 rfl
 have c2:=g5.cell 0 rfl
 have p0:=g6.cell 0 rfl;have p1:=g6.cell 1 rfl;have p2:=g6.cell 2 rfl;have p3:=g6.cell 3 rfl
 clear g3 g4 g5 g6
 have HZ1:=au (HZ.out _ H1.out K1.out R1.out)
 go_wp2_with fail
 refine aN 5 rfl (by kernel_rfl) (by kernel_rfl) (fun K hK=>?_)
 change wpStill _ _ (abx _) _ _ _
 simp only [List.take_succ_cons,aby,abz,abt] at hK ⊢
 repeat still_step
 refine wpStill_nil ?_
 change ite _ (Oper.wp _ _ _ _ _ _) _
 go_simp
 refine HZ1.out.mono ?_
 rintro e w2 ⟨fn,caps,rfl,hp⟩
 refine hK _ _ ?_
 clear hK K
 have HP:=au hp
 clear hp c0 c1 c2 p0 p1 p2 p3
 repeat still_step
 refine wpStill_nil ?_
 go_wp2_with fail
 go_ret
 exact HP.out
end
section
variable {w w':World} {R X aJ:Nat} {c:aS} {K:List Nat}
structure l9 (w:World) (R X aJ:Nat) (c:aS) (K:List Nat):Prop where
 aC:aB w R (c.cells++[.slice (some ⟨X,0,none⟩) K.length aJ]) 153
 gQ:∃ cur:List Value,aB w X cur 3/\∀ (j:Nat) (u:Value),(bg K)[j]?=some u->cur[j]?=some u
 len:c.b=(K.length:Int)
 ok:c.ok=true
 aJ:K.length<=aJ
theorem l9.jK (h:l9 w R X aJ c K):1<=K.length/\K.length<=4096:=by
 have h1:=(iT h.ok).1
 have h2:=h.len
 omega
theorem Tc (h:l9 w R X aJ c K) (B k:Nat) (hB:B<K.length) (hk:K.getD B 0=k+1) (h4:k<4):Calls ay 83 #[ak R,ah (B:Int)] w fun e w'=>e = .returned (.tuple #[ah (k:Int),.bool true])/\w=w':=by
 have hb:=h.aC
 obtain ⟨c0,c1,c2,c3,c4,c5,c6⟩:=c
 simp only [aS.cells,List.cons_append,abY] at hb
 have y7:=hb.cell 7 rfl
 obtain ⟨cur,C9,hcv⟩:=h.gQ
 have z:=C9.cell B (hcv _ _ (kS hB))
 rw [hk] at z
 have hs:=h.jK
 have hcap:=h.aJ
 have d1:decide ((K.length:Int)<=(B:Int))=false:=dD (by omega)
 have d2:((((k+1:Nat):Int))==0)=false:=by simp;omega
 have d3:IntKind.i64.wrap ((((k+1:Nat):Int)) - 1)=(k:Int):=by rw [IntWalk.i64_in _ (by omega)];omega
 obtain ⟨q,hq⟩:∃ q:Int,q=((k+1:Nat):Int):=⟨_,rfl⟩
 rw [<- hq] at z d2 d3
 have hBI:(B:Int)<(K.length:Int):=by omega
 have Cc:(0:Int)<=(B:Int):=by omega
 generalize K.length=L at *
 clear h hb hk hs hq hB
 go_enter func83,ntmps83
 go_wp2_with fail
 go_ret2
 exact ⟨rfl,rfl⟩
theorem Ij (h:l9 w R X aJ c K) (ww B k:Nat) (hw:c.w=ww) (hB:B<K.length) (hk:K.getD B 0=k+1) (h4:k<4) (hT:gY w) (hS:eX w):Calls ay 57 #[ak R,ah (B:Int)] w fun e w'=>∃ v,e = .returned v/\w'.ownsRow w.heap.size 3 1 v (ww/2^(k+1)) ((jD (ww/2^(k+1)) (2^(k+1)) (B*ww)).map fun x:Nat => ah (x:Int))/\aj aA w w':=by
 have HA:=au (BZ h.ok h.len hw k B h4 hB w hT hS)
 have sQ:=au (Tc h B k hB hk h4)
 have hb:=h.aC
 obtain ⟨c0,c1,c2,c3,c4,c5,c6⟩:=c
 simp only [aS.cells,List.cons_append,abY] at *
 have y0:=hb.cell 0 rfl;have y1:=hb.cell 1 rfl;have y2:=hb.cell 2 rfl;have y3:=hb.cell 3 rfl;have y4:=hb.cell 4 rfl;have y5:=hb.cell 5 rfl;have y6:=hb.cell 6 rfl
 generalize jD (ww/2^(k+1)) (2^(k+1)) (B*ww)=sl at *
 generalize ww/2^(k+1)=per at *
 clear h hb hB hk h4 hT hS hw
 go_enter func57,ntmps57
 go_wp2_with (first
  | (go_at_call 83;refine sQ.out.mono ?_;rintro e w1 ⟨rfl,rfl⟩)
  | (go_at_call 84;refine HA.out.mono ?_;rintro e w1 ⟨v,rfl,ho,hk1⟩;have HO:=au ho;have HKK:=au hk1;clear ho hk1))
 go_ret
 exact ⟨_,rfl,HO.out,HKK.out⟩
theorem ET (h:dW w R X c K):Calls ay 45 #[ak R] w fun e w'=>∃ R' X' aJ,e = .returned (ak R')/\l9 w' R' X' aJ c K/\aj aA w w':=by
 have hb:=h.aC
 have hlen:=h.jK
 have HC:=au (uM (some ⟨X,0,none⟩) K.length K.length (bg K) w.drew ⟨by simp [bg],fun _=>⟨X,0,rfl,fun j u hj=>by
  rw [Nat.zero_add]
  exact ((aj.refl aA w).drew.aC h.gQ (fun f=>f)).cell j hj⟩⟩ (fun e=>by cases e) (by omega) (fun u hu=>by obtain ⟨z,_,rfl⟩:=List.mem_map.1 hu;rfl))
 have H:=au h
 have sS:Hid (1<=K.length):=hlen.1
 obtain ⟨c0,c1,c2,c3,c4,c5,c6⟩:=c
 simp only [aS.cells,List.cons_append,abY] at hb
 have y0:=hb.cell 0 rfl;have y1:=hb.cell 1 rfl;have y2:=hb.cell 2 rfl;have y3:=hb.cell 3 rfl;have y4:=hb.cell 4 rfl;have y5:=hb.cell 5 rfl;have y6:=hb.cell 6 rfl;have y7:=hb.cell 7 rfl
 generalize ZK:K.length=kl at *
 have ZL:=au ZK
 clear h hb hlen ZK
 go_enter func45,ntmps45
 go_wp2_with fail
 go_region_held3 (fun w'=>w'.cell? ⟨R,0,none⟩=some (ah c0)/\w'.cell? ⟨R,1,none⟩=some (ah c1)/\w'.cell? ⟨R,2,none⟩=some (ah c2)/\w'.cell? ⟨R,3,none⟩=some (ah c3)/\w'.cell? ⟨R,4,none⟩=some (ah c4)/\w'.cell? ⟨R,5,none⟩=some (ah c5)/\w'.cell? ⟨R,6,none⟩=some (ah c6)/\w'.cell? ⟨R,7,none⟩=some (.slice (some ⟨X,0,none⟩) kl kl))
  (first | exact ⟨y0, y1, y2, y3, y4, y5, y6, y7⟩ | exact ⟨aZ.out.still y0, aZ.out.still y1, aZ.out.still y2, aZ.out.still y3, aZ.out.still y4, aZ.out.still y5, aZ.out.still y6, aZ.out.still y7⟩ | exact ⟨(aZ.out.alloc _).still y0, (aZ.out.alloc _).still y1, (aZ.out.alloc _).still y2, (aZ.out.alloc _).still y3, (aZ.out.alloc _).still y4, (aZ.out.alloc _).still y5, (aZ.out.alloc _).still y6, (aZ.out.alloc _).still y7⟩ | fail "oO")
  ((go_at_call 50
    refine HC.out.mono ?_
    rintro e w1 ⟨v,rfl,hown,hk1⟩
    obtain ⟨g,cp,rfl,hge⟩:=A8 hown sS.out
    have Zo:=au hge
    have HOWN:=au hown
    have aZ:=au ((aj.refl aA w).drew.trans hk1)
    clear hown hk1 hge))
 obtain ⟨W2,hW2⟩:∃ W',W'=w1.alloc (.cells #[ah c0,ah c1,ah c2,ah c3,ah c4,ah c5,ah c6,.slice (some ⟨g,0,none⟩) kl cp] 153):=⟨_,rfl⟩
 rw [<- hW2]
 go_wp2_with fail
 go_ret
 have hk2:aj aA w1 W2:=by rw [hW2];exact (aj.refl _ _).alloc _
 rcases HOWN.out.2 with ⟨h,_⟩|⟨g',cap',cur,hv,hb,hg,hn,hm,hs,hc⟩
 ·cases h
 ·cases hv
  refine ⟨w1.heap.size,g,cp,rfl,⟨?_,?_,H.out.len,H.out.ok,?_⟩,aZ.out.trans hk2⟩
  ·rw [hW2,ZL.out];exact aB.aW w1 _ _
  ·refine ⟨cur.toList,hk2.aC (by unfold aB;simpa using hg) (fun f=>f),fun i v hi=>?_⟩
   rw [<- hc] at hi
   have hl:=(List.getElem?_eq_some_iff.1 hi).1
   rw [List.getElem?_take_of_lt (by simp at hl;omega)] at hi
   exact hi
  ·rw [ZL.out];exact hn
end
section
variable {w w':World} {D:Nat->Nat} {H:HS}
theorem xP (h:aK w D H):Calls ay 14 #[ak (D 0)] w fun e w'=>∃ R' X' aJ,e = .returned (ak R')/\l9 w' R' X' aJ H.c H.K/\aj aA w w':=by
 have y1:=h.aC.cell 1 rfl
 have HC:Hid (Calls ay 45 #[ak (D 3)] w fun e w'=>∃ R' X' aJ,e = .returned (ak R')/\l9 w' R' X' aJ H.c H.K/\aj aA w w'):=ET h.fV
 clear h
 go_enter func14,ntmps14
 go_wp2_with fail
 refine HC.out.mono ?_
 rintro e w1 ⟨R',X',aJ,rfl,h1,k1⟩
 have H1:=au h1
 have K1:=au k1
 clear h1 k1
 go_wp2_with fail
 go_ret
 exact ⟨_,_,_,rfl,H1.out,K1.out⟩
theorem JZ (c:Nat) (hc:c<2) (w:World):Calls ay 212 #[ah (c:Int)] w fun e w'=>e = .returned (.bool true)/\w=w':=by
 have:c=0\/c=1:=by omega
 rcases this with rfl|rfl
 all_goals
  clear hc
  go_enter func212,ntmps212
  go_wp2_with fail
  go_ret
  exact ⟨rfl,rfl⟩
theorem Td (h:aK w D H) (B c:Nat) (hB:H.K.getD B 0≠0) (hc:c<2):Calls ay 206 #[ak (D 0),ah (B:Int),ah (c:Int)] w fun e w'=>∃ W g n cp,e = .returned (.tuple #[aF W.heap.size,ah 0])/\aj aA w W/\W.ownsRow w.heap.size 3 1 (.slice (some ⟨g,0,none⟩) n cp) n (bg (H.bZ B))/\n<=256/\aj aA W w'/\aB w' W.heap.size [aF (D 0),.slice (some ⟨g,0,none⟩) n cp,ah (B:Int),ah (c:Int)] 237:=by
 have HT:=au (xP h)
 have hBl:B<H.K.length:=by
  rcases Nat.lt_or_ge B H.K.length with g|g
  ·exact g
  ·rw [ace,List.getElem?_eq_none g] at hB
   simp at hB
 have hk4:H.K.getD B 0<=4:=by
  rw [ace,List.getElem?_eq_getElem hBl]
  exact h.fV.le _ (List.getElem_mem hBl)
 have hn:=mM h.fV.ok h.fV.len h.cw
 have hpos:0<H.ww/2^(H.K.getD B 0):=by
  have h2:2^(H.K.getD B 0)<=16:=Nat.pow_le_pow_right (by decide) hk4
  exact Nat.div_pos (by omega) (acB _)
 have hle:H.ww/2^(H.K.getD B 0)<=256:=Nat.le_trans (abE _ _) hn.2.2.2.1
 have HS:Hid (∀ w1 R X aJ,l9 w1 R X aJ H.c H.K->aj aA w w1->Calls ay 57 #[ak R,ah (B:Int)] w1 fun e w'=>∃ g cp n,e = .returned (.slice (some ⟨g,0,none⟩) n cp)/\n=(H.bZ B).length/\1<=n/\n<=256/\w'.ownsRow w.heap.size 3 1 (.slice (some ⟨g,0,none⟩) n cp) n (bg (H.bZ B))/\aj aA w w'):=fun w1 R X aJ ht k1=>by
  have h1:=Ij ht H.ww B (H.K.getD B 0 - 1) h.cw hBl (by omega) (by omega) (h.lW.aH k1) (h.sizes.aH k1)
  rw [show H.K.getD B 0 - 1+1=H.K.getD B 0 by omega] at h1
  refine h1.mono ?_
  rintro e w2 ⟨v,rfl,ho,k2⟩
  have e1:H.bZ B=jD (H.ww/2^(H.K.getD B 0)) (2^(H.K.getD B 0)) (B*H.ww):=by unfold HS.bZ;rw [aO hB]
  obtain ⟨g,cp,rfl,_⟩:=A8 ho hpos
  exact ⟨g,cp,_,rfl,by rw [e1,qG],hpos,hle,by rw [e1];exact dF ho k1.size,k1.trans k2⟩
 have hcc:=hc
 clear h hB hBl hk4 hn hpos hle
 generalize H.bZ B=sl at *
 go_enter func206,ntmps206
 go_wp2_with fail
 refine HT.out.mono ?_
 rintro e w1 ⟨R',X',aJ,rfl,h1,k1⟩
 have mQ:=au (HS.out _ _ _ _ h1 k1)
 clear h1 k1 HT
 go_wp2_with fail
 refine mQ.out.mono ?_
 rintro e w2 ⟨g,cp,n,rfl,hn,hn1,hn2,ho,k2⟩
 have HO:=au ho
 have K2:=au k2
 have HN:=au hn
 have d0:((n:Int)==0)=false:=by simp;omega
 clear ho k2 mQ HS hn hn1
 go_wp2_with (go_at_call 212;refine (JZ c hcc _).mono ?_;rintro e w3 ⟨rfl,rfl⟩)
 obtain ⟨W3,hW3⟩:∃ W',W'=w2.alloc (.cells #[aF (D 0),.slice (some ⟨g,0,none⟩) n cp,ah (B:Int),ah (c:Int)] 237):=⟨_,rfl⟩
 rw [<- hW3]
 go_ret2
 have k3:aj aA w2 W3:=by rw [hW3];exact (aj.refl _ _).alloc _
 have hb:aB W3 w2.heap.size [aF (D 0),.slice (some ⟨g,0,none⟩) n cp,ah (B:Int),ah (c:Int)] 237:=by rw [hW3];exact aB.aW w2 _ _
 exact ⟨w2,g,n,cp,rfl,K2.out,HO.out,hn2,k3,hb⟩
end
section
variable {o:Ow} {w w':World} {G:eH} {s:Sh} {q:Nat} {v:Value} {sl:List Nat} {c:Nat}
theorem jB.form (h:jB o w (G.D 0) q v sl c):(v = .pointer none/\sl=[])\/∃ C b a cp,v=aF C/\o C=q/\aB w C [aF (G.D 0),.slice a sl.length cp,ah (b:Int),ah (c:Int)] 237/\dI o w 3 (.slice a sl.length cp) (bg sl)/\sl.length<=cp/\sl.length<=4000000000000:=by
 rcases h with h|⟨C,b,sv,h1,h2,h3,h4⟩
 ·exact .inl h
 ·obtain ⟨a,cp,rfl,hl,hm,_⟩:=h4.form
  rw [show (bg sl).length=sl.length by simp [bg]] at *
  exact .inr ⟨C,b,a,cp,h1,h2,h3,h4,hl,hm⟩
theorem jB.aP {I:List Nat} {D0:Nat} (h:jB o w D0 q v sl c) (k:aj (In o I) w w') (h0:I.contains 0=false) (hq:I.contains q=false):jB o w' D0 q v sl c:=by
 rcases h with h|⟨C,b,sv,h1,h2,h3,h4⟩
 ·exact .inl h
 ·exact .inr ⟨C,b,sv,h1,h2,h3.aP k h2 hq,h4.aP k h0⟩
theorem jB.still {D0:Nat} (h:jB o w D0 q v sl c) (k:aj aA w w'):jB o w' D0 q v sl c:=by
 rcases h with h|⟨C,b,sv,h1,h2,h3,h4⟩
 ·exact .inl h
 ·exact .inr ⟨C,b,sv,h1,h2,k.aC h3 (fun f=>f),h4.still k⟩
theorem jB.ext {o':Ow} {D0:Nat} (h:jB o w D0 q v sl c) (e:dL w o o'):jB o' w D0 q v sl c:=by
 rcases h with h|⟨C,b,sv,h1,h2,h3,h4⟩
 ·exact .inl h
 ·exact .inr ⟨C,b,sv,h1,(e C h3.lt).trans h2,h3,h4.ext e⟩
theorem J3 (h:jB o w (G.D 0) q v sl c):Calls ay 218 #[v] w fun e w'=>e = .returned (ah (sl.length:Int))/\w=w':=by
 rcases h.form with ⟨rfl,rfl⟩|⟨C,b,a,cp,rfl,_,h3,_,_,hm⟩
 ·clear h
  go_enter func218,ntmps218
  go_wp2_with fail
  go_ret
  exact ⟨rfl,rfl⟩
 ·have y1:=h3.cell 1 rfl
  clear h h3
  generalize sl.length=n at *
  go_enter func218,ntmps218
  go_wp2_with fail
  go_ret
  exact ⟨rfl,rfl⟩
theorem wB (h:jB o w (G.D 0) q v sl c):Calls ay 214 #[v] w fun e w'=>e = .returned (.bool (decide (sl=[])))/\w=w':=by
 have HL:=au (J3 h)
 have HD:Hid ((((sl.length:Int))==0)=decide (sl=[])):=by
  unfold Hid
  cases sl with
  | nil=>rfl
  | cons a r=>simp;omega
 have hf:(v = .pointer none)\/∃ C,v=aF C:=by
  rcases h.form with ⟨h,_⟩|⟨C,_,_,_,h,_⟩
  ·exact .inl h
  ·exact .inr ⟨C,h⟩
 clear h
 generalize decide (sl=[])=b at *
 generalize sl.length=n at *
 rcases hf with rfl|⟨C,rfl⟩
 all_goals
  go_enter func214,ntmps214
  go_wp2_with fail
  refine HL.out.mono ?_
  rintro e w1 ⟨rfl,rfl⟩
  have HDD:=HD.out
  clear HL
  go_wp2_with fail
  go_ret
  exact ⟨rfl,rfl⟩
def Sh.lg (s:Sh) (c a:Nat):Bool := !(!s.H.bn a||s.H.ku a==c)
theorem YX (hq:20<=q\/q=5):([1,q]:List Nat).contains 0=false/\([1,q]:List Nat).contains 2=false/\([1,q]:List Nat).contains 3=false/\([1,q]:List Nat).contains 4=false/\([q]:List Nat).contains 0=false/\([q]:List Nat).contains 1=false/\∀ i,i<8->([1,q]:List Nat).contains (10+i)=false:=by
 refine ⟨?_,?_,?_,?_,?_,?_,fun i hi=>?_⟩<;>simp<;>omega
theorem J4 {a:Nat} {r:List Nat} (h:eG o w G s) (hc:jB o w (G.D 0) q v (a::r) c) (hq:20<=q\/q=5) (h8:s.eF.length<=8):Calls ay 216 #[v] w fun e w'=>e = .returned (.tuple #[ah ((if s.lg c a then a else 0:Nat):Int),.bool (s.lg c a)])/\eG o w' G { s with H:=if s.lg c a then s.H.lJ a else s.H }/\jB o w' (G.D 0) q v r c/\aj (In o [1,q]) w w':=by
 have HDn:Hid (Calls ay 214 #[v] w fun e w'=>e = .returned (.bool false)/\w=w'):=wB hc
 obtain ⟨q1,q2,q3,q4,q5,q6,q7⟩:=YX hq
 rcases hc.form with ⟨_,h1⟩|⟨C,b,a0,cp,rfl,oC,hb,hr,hl,hm⟩
 ·cases h1
 simp only [List.length_cons] at hb hr hl hm
 have hcut:=hr.cut 1 (by omega)
 rw [show (bg (a::r)).drop 1=bg r from rfl] at hcut
 obtain ⟨a',c',ee,_,_,hcell⟩:=hr.form
 simp only [Value.slice.injEq] at ee
 obtain ⟨e1,e9,e2⟩:=ee
 subst e1;subst e2
 obtain ⟨b',off',rfl,hx⟩:=hcell 0 (ah (a:Int)) rfl
 rw [Nat.add_zero] at hx
 clear e9
 have NG:=fun w=>KU (P:=ay) (T:=35) (e:=3) (by kernel_rfl) (by kernel_rfl) (some ⟨b',off',none⟩) (r.length+1) cp 1 (by omega) w
 simp only [show (((1:Nat)):Int)=1 from rfl] at NG
 have hpos:(0:Int)<((r.length+1:Nat):Int):=by omega
 have y0:=hb.cell 0 rfl
 have y1:=hb.cell 1 rfl
 have f1:=hb.free 1
 generalize hL:r.length+1=L at *
 generalize hca:sH (some ⟨b',off',none⟩) cp 1=ca at *
 obtain ⟨W1,hW1⟩:∃ W1,W1=w.setCell ⟨C,1,none⟩ (.slice ca (L - 1) (cp - 1)):=⟨_,rfl⟩
 have kC:aj (only C) w W1:=by rw [hW1];exact (aj.refl (only C) _).put _ _
 have k1:aj (In o [q]) w W1:=kC.rU oC (by simp)
 have kk1:aj (In o [1,q]) w W1:=k1.kX (by simp)
 have hb1:aB W1 C [aF (G.D 0),.slice ca (L - 1) (cp - 1),ah (b:Int),ah (c:Int)] 237:=by rw [hW1];exact hb.set 1 _
 have hH1:=h.pz k1 q5 q6
 have hr1:dI o W1 3 (.slice ca (L - 1) (cp - 1)) (bg r):=hcut.aP k1 q5
 have hcur1:jB o W1 (G.D 0) q (aF C) r c := .inr ⟨C,b,_,rfl,oC,hb1,hr1⟩
 have z0:=hb1.cell 0 rfl
 have z3:=hb1.cell 3 rfl
 have HW:=au hW1
 have hSh:∀ w' H,aK w' G.D H->aj (In o [1,q]) w w'->eG o w' G { s with H:=H }:=fun w' H hH k =>
  h.jL (s':={ s with H:=H }) k q1 hH (h.qg.aH k (fU h.oB q2)) (h.qL.aP k q1 h.oQ q3) (h.pJ.aP k h.oF q4) rfl (h.D5 k q1 (fun i hi=>q7 i (by omega)))
 have Dc:=au (CB hH1 a)
 by_cases hf:s.lg c a=true
 ·have hbn:s.H.bn a=true:=by unfold Sh.lg at hf;cases h9:s.H.bn a<;>simp_all
  have hne:s.H.ku a≠c:=fun e=>by unfold Sh.lg at hf;simp [e] at hf
  have d1:((s.H.ku a:Int)==(c:Int))=false:=by simp;omega
  have d1':decide (s.H.ku a=c)=false:=dD hne
  rw [aV hbn,aV hbn] at Dc
  rw [hf,aV rfl,aV rfl]
  have ZM:Hid (Calls ay 219 #[ak (G.D 0),ah (a:Int)] W1 fun e w'=>(∃ er:Int,e = .returned (ah er))/\eG o w' G { s with H:=s.H.lJ a }/\jB o w' (G.D 0) q (aF C) r c/\aj (In o [1,q]) w w'):=by
   refine (PN hH1 a).mono ?_
   rintro e w' ⟨⟨er,rfl⟩,g1,g2⟩
   have k2:aj (In o [1]) W1 w':=g2.mono (fun x _ hx=>by
    obtain ⟨i,hi,e⟩:=hx
    unfold In
    rw [e,h.oD i hi]
    simp)
   have k3:aj (In o [1,q]) w w':=kk1.trans (k2.kX (by simp))
   exact ⟨⟨_,rfl⟩,hSh w' _ g1 k3,hcur1.aP k2 rfl (by simp;omega),k3⟩
  generalize s.H.ku a=kc at *
  generalize { s with H:=s.H.lJ a }=s' at *
  clear h hc hb hr hcut hcell kC k1 kk1 hb1 hH1 hr1 hcur1 hSh hbn hne hf hca hL hl hm hW1
  go_enter func216,ntmps216
  go_wp2_with fail
  refine HDn.out.mono ?_
  rintro e w2 ⟨rfl,rfl⟩
  clear HDn
  go_wp2_with fail
  rw [<- HW.out]
  refine Dc.out.mono ?_
  rintro e w2 ⟨rfl,rfl⟩
  clear Dc
  go_wp2_with fail
  refine ZM.out.mono ?_
  rintro e w2 ⟨⟨er,rfl⟩,g1,g2,g3⟩
  have HX:=au (And.intro g1 (And.intro g2 g3))
  clear g1 g2 g3 y0 y1 f1 hx z0 z3 ZM
  go_wp2_with fail
  go_ret2
  exact ⟨rfl,HX.out.1,HX.out.2.1,HX.out.2.2⟩
 ·have hf':s.lg c a=false:=by simpa using hf
  rw [hf',aO (by decide),aO (by decide)]
  have HE:Hid (eG o W1 G { s with H:=s.H }/\jB o W1 (G.D 0) q (aF C) r c/\aj (In o [1,q]) w W1):=⟨hSh W1 s.H hH1 kk1,hcur1,kk1⟩
  by_cases hbn:s.H.bn a=true
  ·have hce:s.H.ku a=c:=by
    unfold Sh.lg at hf'
    rw [hbn] at hf'
    simpa using hf'
   have d1:((s.H.ku a:Int)==(c:Int))=true:=by simp [hce]
   have d1':decide (s.H.ku a=c)=true:=cZ hce
   rw [aV hbn,aV hbn] at Dc
   generalize s.H.ku a=kc at *
   clear h hc hb hr hcut hcell kC k1 kk1 hb1 hH1 hr1 hcur1 hSh hbn hce hf hf' hca hL hl hm hW1
   go_enter func216,ntmps216
   go_wp2_with fail
   refine HDn.out.mono ?_
   rintro e w2 ⟨rfl,rfl⟩
   clear HDn
   go_wp2_with fail
   rw [<- HW.out]
   refine Dc.out.mono ?_
   rintro e w2 ⟨rfl,rfl⟩
   clear Dc
   go_wp2_with fail
   go_ret2
   exact ⟨rfl,HE.out.1,HE.out.2.1,HE.out.2.2⟩
  ·rw [aO hbn,aO hbn] at Dc
   clear h hc hb hr hcut hcell kC k1 kk1 hb1 hH1 hr1 hcur1 hSh hbn hf hf' hca hL hl hm hW1
   go_enter func216,ntmps216
   go_wp2_with fail
   refine HDn.out.mono ?_
   rintro e w2 ⟨rfl,rfl⟩
   clear HDn
   go_wp2_with fail
   rw [<- HW.out]
   refine Dc.out.mono ?_
   rintro e w2 ⟨rfl,rfl⟩
   clear Dc
   go_wp2_with fail
   go_ret2
   exact ⟨rfl,HE.out.1,HE.out.2.1,HE.out.2.2⟩
end
end
end Go.Proofs.YtobfpmijbfgmeabGreatDoor
