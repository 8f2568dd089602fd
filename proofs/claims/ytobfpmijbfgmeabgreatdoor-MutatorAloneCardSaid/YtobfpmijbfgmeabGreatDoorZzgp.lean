/- Parts of the walk. No conditions. -/
import Derived.Test.YtobfpmijbfgmeabGreatDoorZzgo
namespace Go.Proofs.YtobfpmijbfgmeabGreatDoor
open _root_.Go.World renaming drew->abx
open _root_.List renaming drop_succ_cons->abz,drop_zero->abt,take_zero->aby
open _root_.Go.Proofs.Tryz hiding prog
open _root_.Go.Proofs.Tryz renaming prog->ay
set_option maxRecDepth 4000
set_option maxHeartbeats 4000000
section
attribute [local go_sem] Oper.semAt_some
open Go.RowKit
section
variable {o:Ow} {w w':World} {G:eH} {g:MG} {s:Sh} {m:MS} {nv:Value}
theorem aQ.UU {ev:Option Ev} {o':Ow} (h:aQ o w G g s m ev nv) (k:aj aA w w') (e:dL w o o') (hf:jS o' w'):aQ o' w' G g s m ev nv:=by
 obtain ⟨pv,rv,h1,h2,h3⟩:=h.aC
 obtain ⟨_,v,hb,_⟩:=id h.bJ
 have k0:aj (In o' []) w w':=k.bU
 have e1:=(e _ h1.lt).trans h.oM
 have e2:=(e _ h.aI.lt).trans h.oX
 have e3:=(e _ hb.lt).trans h.uN
 have e4:=(e _ h.nt.lt).trans h.qX
 exact ⟨h.sh.move (I:=[]) k.bU rfl h.box8 e hf,⟨pv,rv,h1.aP k0 e1 rfl,(h2.ext e).aP k0 rfl,(h3.ext e).aP k0 rfl⟩,e1,h.aI.aP k0 e2 rfl,e2,(h.bJ.ext e).aP k0 rfl e3 rfl,e3,h.nt.aP k0 e4 rfl,e4,h.qB,h.box8,h.uO,h.pK,h.uP⟩
theorem aQ.xM {ev:Option Ev} {Q:Qu} (h:aQ o w G g s m ev nv) (k:aj (only G.Q) w w') (hQ:jk o w' G.Q Q):aQ o w' G g { s with Q:=Q } m ev nv/\aj (In o (aT m.id)) w w':=by
 obtain ⟨h1,k1⟩:=h.sh.xM k hQ
 exact ⟨h.vK k1 rfl (by simp;omega) h1 rfl rfl,k1.kX (by simp [aT])⟩
theorem J5 (h:aQ o w G g s m none nv) (op:bQ) (k:Nat) (v:Value) (hv:bG o w g.Nt g.M (.ig op k) v) (hk4:k<4) (hres:m.aU.length<=1000000000):∃ bs:List Nat,v = .func (.func 204) #[] (bs.map aF).toArray/\Calls ay 204 (bs.map aF).toArray w (aG o w G g nv m.id (stepM s m (.ig op k))):=by
 obtain ⟨bs,hbs,hcap⟩:=hv
 refine ⟨bs,hbs,?_⟩
 obtain ⟨b0,b1,b2,rfl,⟨o0,k0⟩,⟨o1,k1⟩,⟨o2,k2⟩⟩:=caps3 hcap
 obtain ⟨ok,oa,ob,oc⟩:=op
 have c0:w.cell? ⟨b0,0,none⟩=some (ak g.M):=k0.cell 0 rfl
 have c1:=k1.cell 0 rfl
 have m0:=h.m0
 have s0:=h.s0.1
 show Calls ay 204 #[ak b0,ak b1,ak b2] w _
 have hkd:aj aA w w.drew:=(aj.refl aA w).drew
 have hd:=h.still hkd
 have HF:Hid (Calls ay 163 #[ak (G.D 0),ah (k:Int)] w.drew fun e w'=>e = .returned (.tuple #[ah ((s.H.dh k).1:Int),ah ((s.H.dh k).2.1:Int)])/\aQ o w' G g { s with H:=(s.H.dh k).2.2 } m none nv/\aj (In o (aT m.id)) w w'/\aB w' b0 [aF g.M] 31/\aB w' b2 [ah ok,ah oa,ah ob,ah oc] 45):=by
  refine (ED hd.sh.heap k hk4).mono ?_
  rintro e w' ⟨rfl,g1,g2⟩
  obtain ⟨h1,kk⟩:=hd.kZ g2 g1 (LM _ _)
  have km:aj (In o (aT m.id)) w w':=hkd.bU.trans kk
  exact ⟨rfl,h1,km,k0.aP km o0 (bD _),k2.aP km o2 (bD _)⟩
 rcases ES s.H k with hz|⟨hz,hsame⟩
 ·have e1:stepM s m (.ig ⟨ok,oa,ob,oc⟩ k)=⟨{ s with H:=(s.H.dh k).2.2 },m,.fill ⟨ok,oa,ob,oc⟩ (s.H.dh k).1,none⟩:=by simp only [stepM];rw [aV hz]
  rw [hz] at HF
  have HZ:Hid (∀ W,aQ o W G g { s with H:=(s.H.dh k).2.2 } m none nv->aj (In o (aT m.id)) w W->Calls ay 164 #[ak g.M,.agg #[ah ok,ah oa,ah ob,ah oc],ah ((s.H.dh k).1:Int)] W fun e w'=>∃ fn caps,e = .returned (.func (.func fn) #[] caps)/\aG o w G g nv m.id (stepM s m (.ig ⟨ok,oa,ob,oc⟩ k)) (.returned (.func (.func fn) #[] caps)) w'\/e = .returned .nilFunc/\aG o w G g nv m.id (stepM s m (.ig ⟨ok,oa,ob,oc⟩ k)) (.returned .nilFunc) w'):=fun W hW hk=>by
   rw [e1]
   exact aG.made (r:=⟨{ s with H:=(s.H.dh k).2.2 },m,.fill ⟨ok,oa,ob,oc⟩ (s.H.dh k).1,none⟩) hW hk (zf hW.sh.fK g.Nt g.M ⟨ok,oa,ob,oc⟩ (s.H.dh k).1) rfl
  clear e1
  generalize stepM s m (.ig ⟨ok,oa,ob,oc⟩ k)=R at *
  generalize { s with H:=(s.H.dh k).2.2 }=s' at *
  generalize (s.H.dh k).1=x at *
  generalize m.id=mi at *
  clear h hcap hbs hkd hd k0 k1 k2 o0 o1 o2 hz hres
  go_enter func204,ntmps204
  go_wp2_with fail
  refine aN 8 rfl (by kernel_rfl) (by kernel_rfl) (fun K hK=>?_)
  change wpStill _ _ (abx _) _ _ _
  simp only [List.take_succ_cons,aby,abz,abt] at hK ⊢
  repeat still_step
  refine wpStill_nil ?_
  change ite _ (Oper.wp _ _ _ _ _ _) _
  go_simp
  refine HF.out.mono ?_
  rintro e w1 ⟨rfl,g1,g2,g3,g5⟩
  refine hK _ _ ?_
  clear hK K
  have H1:=au g1
  have K1:=au g2
  clear g1 g2 c0 c1 m0 s0
  repeat still_step
  refine wpStill_nil ?_
  have c0:w1.cell? ⟨b0,0,none⟩=some (ak g.M):=g3.cell 0 rfl
  have p0:=g5.cell 0 rfl;have p1:=g5.cell 1 rfl;have p2:=g5.cell 2 rfl;have p3:=g5.cell 3 rfl
  clear g3 g5
  go_wp2_with fail
  refine (HZ.out _ H1.out K1.out).mono ?_
  rintro e w2 ⟨fn,caps,⟨rfl,hp⟩|⟨rfl,hp⟩⟩
  all_goals
   have HP:=au hp
   clear hp c0 p0 p1 p2 p3
   go_wp2_with fail
   go_ret
   exact HP.out
 ·have e1:stepM s m (.ig ⟨ok,oa,ob,oc⟩ k)=iq s m 10 0:=by simp only [stepM];rw [aO (by omega)]
  rw [hz,hsame] at HF
  have HD:Hid (∀ W,aQ o W G g s m none nv->aj (In o (aT m.id)) w W->Calls ay 106 #[ak g.M,ah 10,ah 0] W (fun e w'=>e = .returned .nilFunc/\aG o w G g nv m.id (stepM s m (.ig ⟨ok,oa,ob,oc⟩ k)) e w')):=fun W hW hk=>by
   refine (nY hW 10 0 hres).mono ?_
   rintro e w' ⟨rfl,hp⟩
   rw [e1]
   exact ⟨rfl,hp.after hk⟩
  clear e1
  generalize stepM s m (.ig ⟨ok,oa,ob,oc⟩ k)=R at *
  generalize (s.H.dh k).1=x at *
  generalize m.id=mi at *
  clear h hcap hbs hkd hd k0 k1 k2 o0 o1 o2 hz hsame hres
  go_enter func204,ntmps204
  go_wp2_with fail
  refine aN 8 rfl (by kernel_rfl) (by kernel_rfl) (fun K hK=>?_)
  change wpStill _ _ (abx _) _ _ _
  simp only [List.take_succ_cons,aby,abz,abt] at hK ⊢
  repeat still_step
  refine wpStill_nil ?_
  change ite _ (Oper.wp _ _ _ _ _ _) _
  go_simp
  refine HF.out.mono ?_
  rintro e w1 ⟨rfl,g1,g2,g3,g5⟩
  refine hK _ _ ?_
  clear hK K
  have H1:=au g1
  have K1:=au g2
  clear g1 g2 g5 c0 c1 m0 s0
  repeat still_step
  refine wpStill_nil ?_
  have c0:w1.cell? ⟨b0,0,none⟩=some (ak g.M):=g3.cell 0 rfl
  clear g3
  go_wp2_with fail
  refine (HD.out _ H1.out K1.out).mono ?_
  rintro e w2 ⟨rfl,hp⟩
  have HP:=au hp
  clear hp
  go_wp2_with fail
  go_ret
  exact HP.out
theorem Df {D0 q:Nat} {sl:List Nat} {c:Nat} {cv tv:Value} {t:MD} (hf:jS o w) (Nt M:Nat) (hc:jB o w D0 q cv sl c) (ht:bG o w Nt M t tv):Calls ay 207 #[ak M,cv,tv] w fun e w'=>∃ fn caps,e = .returned (.func (.func fn) #[] caps)/\iW o w' D0 (Nt,M) q (.fD sl c t) (.func (.func fn) #[] caps)/\aj aA w w':=by
 have hn:=gJ (o:=o) [([aF M],31),([cv],232),([tv],95)] w hf
 have HE:Hid (iW o (fZ w [([aF M],31),([cv],232),([tv],95)]) D0 (Nt,M) q (.fD sl c t) (.func (.func 213) #[] #[aF (w.heap.size+1),aF w.heap.size,aF (w.heap.size+1+1)])/\aj aA w (fZ w [([aF M],31),([cv],232),([tv],95)])):=by
  obtain ⟨b0,b1,b2,e,⟨o0,k0⟩,⟨o1,k1⟩,⟨o2,k2⟩⟩:=caps3 hn.1
  simp only [o7,List.cons.injEq] at e
  obtain ⟨rfl,rfl,rfl,_⟩:=e
  exact ⟨⟨cv,tv,hc.still hn.2,ht.still hn.2,[w.heap.size+1,w.heap.size,w.heap.size+1+1],rfl,_,_,rfl,o1,k1,_,_,rfl,o0,k0,_,_,rfl,o2,k2,rfl⟩,hn.2⟩
 have hmf:=oH
 have hform:=ht.form
 have hcf:(cv = .pointer none)\/∃ C,cv=aF C:=by
  rcases hc with ⟨h,_⟩|⟨C,_,_,h,_⟩
  ·exact .inl h
  ·exact .inr ⟨C,h⟩
 clear hn hf hc ht
 rcases hform with rfl|⟨fn,caps,rfl⟩<;>rcases hcf with rfl|⟨C,rfl⟩
 all_goals
  go_enter func207,ntmps207
  go_wp2_with fail
  go_ret
  exact ⟨_,_,rfl,HE.out.1,HE.out.2⟩
theorem J6 (h:aQ o w G g s m none nv) (op:bQ) (k:Nat) (hk4:k<4) (nC:m.bK<2) (hop:s.Q.gU<=1000000000) (hq:∀ x∈s.Q.rw k,0<=x/\s.H.K.getD x.toNat 0≠0):Calls ay 192 #[ak g.M,.agg op.cells.toArray,ah (k:Int)] w fun e w'=>∃ fn caps,e = .returned (.func (.func fn) #[] caps)/\aG o w G g nv m.id (stepM s m (.iK op k)) (.returned (.func (.func fn) #[] caps)) w':=by
 obtain ⟨ok,oa,ob,oc⟩:=op
 obtain ⟨W3,hW3⟩:∃ W3,W3=fZ w [([aF g.M],31),([ah ok,ah oa,ah ob,ah oc],45),([ah (k:Int)],3)]:=⟨_,rfl⟩
 have hc:=gJ (o:=o) [([aF g.M],31),([ah ok,ah oa,ah ob,ah oc],45),([ah (k:Int)],3)] w h.sh.fK
 rw [<- hW3] at hc
 obtain ⟨b0,b1,b2,e,⟨o0,k0⟩,⟨o1,k1⟩,⟨o2,k2⟩⟩:=caps3 hc.1
 simp only [o7,List.cons.injEq] at e
 obtain ⟨rfl,rfl,rfl,_⟩:=e
 have HW:Hid ((((w.alloc (.cells #[aF g.M] 31)).alloc (.cells #[ah ok,ah oa,ah ob,ah oc] 45)).alloc (.cells #[ah (k:Int)] 3))=W3):=by rw [hW3];rfl
 have hmf:=oH
 have hkd:aj aA w W3.drew:=hc.2.drew
 have hd:=h.still hkd
 have h3:=h.still hc.2
 have m0:=h3.m0
 have s2:=h3.s0.2.2
 have c0:W3.cell? ⟨w.heap.size,0,none⟩=some (ak g.M):=k0.cell 0 rfl
 have c2:W3.cell? ⟨w.heap.size+1+1,0,none⟩=some (ah (k:Int)):=k2.cell 0 rfl
 have hkd3:aj aA W3 W3.drew:=(aj.refl aA W3).drew
 have hag:∀ (o':Ow) W,dL w o o'->o' w.heap.size=0->o' (w.heap.size+1)=0->o' (w.heap.size+1+1)=0->aB W w.heap.size [aF g.M] 31->aB W (w.heap.size+1) [ah ok,ah oa,ah ob,ah oc] 45->aB W (w.heap.size+1+1) [ah (k:Int)] 3->bG o' W g.Nt g.M (.ig ⟨ok,oa,ob,oc⟩ k) (.func (.func 204) #[] #[ak w.heap.size,ak (w.heap.size+1+1),ak (w.heap.size+1)]):=fun o' W _ p0 p1 p2 g0 g1 g2 =>
  ⟨[w.heap.size,w.heap.size+1+1,w.heap.size+1],rfl,_,_,rfl,p0,g0,_,_,rfl,p2,g2,_,_,rfl,p1,g1,rfl⟩
 cases hr:s.Q.rw k with
 | nil =>
   have e1:stepM s m (.iK ⟨ok,oa,ob,oc⟩ k)=⟨s,m,.ig ⟨ok,oa,ob,oc⟩ k,none⟩:=by simp only [stepM];rw [hr]
   have HF:Hid (Calls ay 205 #[ak G.Q,ah (k:Int)] W3.drew fun e w'=>e = .returned (.tuple #[ah 0,ah 12])/\w'=W3.drew):=by
    refine (JO G.Q s.Q (k:Int) W3.drew hd.sh.qL (P6 k hk4) (by rw [Qu.P5,hr])).mono ?_
    rintro e w' ⟨rfl,rfl⟩
    exact ⟨rfl,rfl⟩
   have HE:Hid (aG o w G g nv m.id (stepM s m (.iK ⟨ok,oa,ob,oc⟩ k)) (.returned (.func (.func 204) #[] #[ak w.heap.size,ak (w.heap.size+1+1),ak (w.heap.size+1)])) W3.drew):=by
    rw [e1]
    exact aG.same hd (hag o W3.drew (dL.refl _ _) o0 o1 o2 (hkd3.aC k0 (fun f=>f)) (hkd3.aC k1 (fun f=>f)) (hkd3.aC k2 (fun f=>f))) hkd.bU
   clear e1
   generalize stepM s m (.iK ⟨ok,oa,ob,oc⟩ k)=R at *
   generalize m.id=mi at *
   clear h h3 hc hkd hkd3 hd k0 k1 k2 o0 o1 o2 hag hW3 hq hop nC
   simp only [bQ.cells]
   go_enter func192,ntmps192
   go_wp2_with fail
   rw [HW.out]
   refine aN 8 rfl (by kernel_rfl) (by kernel_rfl) (fun K hK=>?_)
   change wpStill _ _ (abx _) _ _ _
   simp only [List.take_succ_cons,aby,abz,abt] at hK ⊢
   repeat still_step
   refine wpStill_nil ?_
   change ite _ (Oper.wp _ _ _ _ _ _) _
   go_simp
   refine HF.out.mono ?_
   rintro e w1 ⟨rfl,rfl⟩
   refine hK _ _ ?_
   clear hK K
   clear c0 c2 m0 s2 HF HW
   obtain ⟨W1,hW1⟩:∃ W1,W1=W3.drew:=⟨_,rfl⟩
   rw [<- hW1] at HE ⊢
   clear hW1
   repeat still_step
   refine wpStill_nil ?_
   go_wp2_with fail
   go_ret
   exact ⟨_,_,rfl,HE.out⟩
 | cons x xs =>
   obtain ⟨hx0,Xq⟩:=hq x (by rw [hr];exact List.mem_cons_self)
   obtain ⟨n,rfl⟩:∃ n:Nat,x=(n:Int):=⟨x.toNat,by omega⟩
   rw [Int.toNat_natCast] at Xq
   have e1:stepM s m (.iK ⟨ok,oa,ob,oc⟩ k)=⟨{ s with Q:=s.Q.take k },m,.fD (s.H.bZ n) m.bK (.ig ⟨ok,oa,ob,oc⟩ k),none⟩:=by simp only [stepM];rw [hr];rfl
   have HF:Hid (Calls ay 205 #[ak G.Q,ah (k:Int)] W3.drew fun e w'=>e = .returned (.tuple #[ah (n:Int),ah 0])/\aQ o w' G g { s with Q:=s.Q.take k } m none nv/\aj (In o (aT m.id)) w w'/\aB w' w.heap.size [aF g.M] 31/\aB w' (w.heap.size+1) [ah ok,ah oa,ah ob,ah oc] 45/\aB w' (w.heap.size+1+1) [ah (k:Int)] 3):=by
    refine (PZ G.Q s.Q (k:Int) (n:Int) xs W3.drew hd.sh.qL (P6 k hk4) (by rw [Qu.P5,hr]) hop).mono ?_
    rintro e w' ⟨rfl,g1,g2⟩
    obtain ⟨h1,kk⟩:=hd.xM g2 g1
    have km:aj (In o (aT m.id)) w w':=hkd.bU.trans kk
    have km3:aj (In o (aT m.id)) W3 w':=hkd3.bU.trans kk
    exact ⟨rfl,h1,km,k0.aP km3 o0 (bD _),k1.aP km3 o1 (bD _),k2.aP km3 o2 (bD _)⟩
   have aay:w.heap.size<=W3.heap.size:=hc.2.size
   have HN:Hid (∀ W,aQ o W G g { s with Q:=s.Q.take k } m none nv->aj (In o (aT m.id)) w W->aB W w.heap.size [aF g.M] 31->aB W (w.heap.size+1) [ah ok,ah oa,ah ob,ah oc] 45->aB W (w.heap.size+1+1) [ah (k:Int)] 3 ->
    Calls ay 206 #[ak (G.D 0),ah (n:Int),ah (m.bK:Int)] W.drew fun e w'=>∃ C,e = .returned (.tuple #[ak C,ah 0])/\aB w' w.heap.size [aF g.M] 31 /\
     Hid (Calls ay 207 #[ak g.M,ak C,.func (.func 204) #[] #[ak w.heap.size,ak (w.heap.size+1+1),ak (w.heap.size+1)]] w' fun e w2=>∃ fn caps,e = .returned (.func (.func fn) #[] caps)/\aG o w G g nv m.id (stepM s m (.iK ⟨ok,oa,ob,oc⟩ k)) (.returned (.func (.func fn) #[] caps)) w2)):=fun W hW hk g0 g1 g2=>by
    have kd:aj aA W W.drew:=(aj.refl aA W).drew
    refine (Td (H:=s.H) (hW.still kd).sh.heap n m.bK Xq nC).mono ?_
    rintro e w2 ⟨V,gg,nn,cp,rfl,kV,ho,hn,Dh,hb⟩
    have ZN:aj aA W V:=kd.trans kV
    have Ik:aj aA W w2:=ZN.trans Dh
    refine ⟨V.heap.size,rfl,Ik.aC g0 (fun f=>f),?_⟩
    have hlt:V.heap.size<w2.heap.size:=hb.lt
    have hW0:=hk.size
    have hV0:=ZN.size
    have eo:dL w o (o.put V.heap.size (30+m.id)):=Ow.pq (.inl (by omega))
    have eoW:dL W o (o.put V.heap.size (30+m.id)):=Ow.pq (.inl (by omega))
    have UW:dL V o (o.put V.heap.size (30+m.id)):=Ow.pq (.inl (Nat.le_refl _))
    have hf2:jS (o.put V.heap.size (30+m.id)) w2:=Ow.uh hW.sh.fK Ik.size hlt
    have hM2:=hW.UU Ik eoW hf2
    have hrow:dI (o.put V.heap.size (30+m.id)) w2 3 (.slice (some ⟨gg,0,none⟩) nn cp) (bg (s.H.bZ n)):=((dI.qc ho (by omega) (fun b hb=>hW.sh.fK b (by have:=kd.size;omega))).ext UW).still Dh
    have hcur:jB (o.put V.heap.size (30+m.id)) w2 (G.D 0) (30+m.id) (aF V.heap.size) (s.H.bZ n) m.bK := .inr ⟨V.heap.size,n,_,rfl,Ow.rG _ _ _,hb,hrow⟩
    have hlt0:=g0.lt
    have hlt1:=g1.lt
    have hlt2:=g2.lt
    have aaz:=hag (o.put V.heap.size (30+m.id)) w2 eo ((UW _ (by omega)).trans o0) ((UW _ (by omega)).trans o1) ((UW _ (by omega)).trans o2) (Ik.aC g0 (fun f=>f)) (Ik.aC g1 (fun f=>f)) (Ik.aC g2 (fun f=>f))
    refine (Df hf2 g.Nt g.M hcur aaz).mono ?_
    rintro e w4 ⟨fn,caps,rfl,hn4,k4⟩
    refine ⟨fn,caps,rfl,o.put V.heap.size (30+m.id),_,rfl,eo,?_,?_,hk.trans (Ik.trans k4).bU⟩
    ·rw [e1];exact hM2.still k4
    ·rw [e1];exact hn4
   clear e1
   have m13:∀ W,aQ o W G g { s with Q:=s.Q.take k } m none nv->W.cell? ⟨g.M,13,none⟩=some (ah (m.bK:Int)):=fun W hW=>hW.cell 13 _ (fun _ _=>rfl)
   have HM:Hid (∀ W,aQ o W G g { s with Q:=s.Q.take k } m none nv->W.cell? ⟨g.M,0,none⟩=some (ak G.S)/\W.cell? ⟨G.S,0,none⟩=some (ak (G.D 0))/\W.cell? ⟨g.M,13,none⟩=some (ah (m.bK:Int))):=fun W hW=>⟨hW.m0,hW.s0.1,m13 W hW⟩
   clear m13
   generalize stepM s m (.iK ⟨ok,oa,ob,oc⟩ k)=R at *
   generalize { s with Q:=s.Q.take k }=s' at *
   generalize m.bK=mc at *
   generalize m.id=mi at *
   clear h h3 hc hkd hkd3 hd k0 k1 k2 o0 o1 o2 hag hW3 hq hop nC Xq hr aay hx0
   simp only [bQ.cells]
   go_enter func192,ntmps192
   go_wp2_with fail
   rw [HW.out]
   refine aN 8 rfl (by kernel_rfl) (by kernel_rfl) (fun K hK=>?_)
   change wpStill _ _ (abx _) _ _ _
   simp only [List.take_succ_cons,aby,abz,abt] at hK ⊢
   repeat still_step
   refine wpStill_nil ?_
   change ite _ (Oper.wp _ _ _ _ _ _) _
   go_simp
   refine HF.out.mono ?_
   rintro e w1 ⟨rfl,g1,g2,g3,g4,g5⟩
   refine hK _ _ ?_
   clear hK K
   have Ia:=au (HN.out w1 g1 g2 g3 g4 g5)
   obtain ⟨m0',s0',aaA⟩:=HM.out w1 g1
   have c0':w1.cell? ⟨w.heap.size,0,none⟩=some (ak g.M):=g3.cell 0 rfl
   clear g1 g2 g3 g4 g5 c0 c2 m0 s2 HM HN HF HW
   repeat still_step
   refine wpStill_nil ?_
   go_wp2_with fail
   refine aN 12 rfl (by kernel_rfl) (by kernel_rfl) (fun K hK=>?_)
   change wpStill _ _ (abx _) _ _ _
   simp only [List.take_succ_cons,aby,abz,abt] at hK ⊢
   repeat still_step
   refine wpStill_nil ?_
   change ite _ (Oper.wp _ _ _ _ _ _) _
   go_simp
   refine Ia.out.mono ?_
   rintro e w2 ⟨C,rfl,g1,g2⟩
   refine hK _ _ ?_
   clear hK K
   have c0:w2.cell? ⟨w.heap.size,0,none⟩=some (ak g.M):=g1.cell 0 rfl
   clear g1 m0' s0' aaA c0' Ia
   repeat still_step
   refine wpStill_nil ?_
   go_wp2_with fail
   refine g2.out.mono ?_
   rintro e w3 ⟨fn,caps,rfl,hp⟩
   have HP:=au hp
   clear hp c0 g2
   go_wp2_with fail
   go_ret
   exact ⟨_,_,rfl,HP.out⟩
end
section
variable {o:Ow} {w w':World} {G:eH} {g:MG} {s:Sh} {m:MS} {nv:Value}
theorem J7 (h:aQ o w G g s m none nv) (op:bQ) (k:Nat) (v:Value) (hv:bG o w g.Nt g.M (.iK op k) v) (hk4:k<4) (nC:m.bK<2) (hop:s.Q.gU<=1000000000) (hq:∀ x∈s.Q.rw k,0<=x/\s.H.K.getD x.toNat 0≠0):∃ bs:List Nat,v = .func (.func 191) #[] (bs.map aF).toArray/\Calls ay 191 (bs.map aF).toArray w (aG o w G g nv m.id (stepM s m (.iK op k))):=by
 obtain ⟨bs,hbs,hcap⟩:=hv
 refine ⟨bs,hbs,?_⟩
 obtain ⟨b0,b1,b2,rfl,⟨o0,k0⟩,⟨o1,k1⟩,⟨o2,k2⟩⟩:=caps3 hcap
 have HC:=au (J6 h op k hk4 nC hop hq)
 obtain ⟨ok,oa,ob,oc⟩:=op
 have c0:w.cell? ⟨b0,0,none⟩=some (ak g.M):=k0.cell 0 rfl
 have p0:=k1.cell 0 rfl;have p1:=k1.cell 1 rfl;have p2:=k1.cell 2 rfl;have p3:=k1.cell 3 rfl
 have c2:=k2.cell 0 rfl
 show Calls ay 191 #[ak b0,ak b1,ak b2] w _
 simp only [bQ.cells] at HC
 generalize stepM s m (.iK ⟨ok,oa,ob,oc⟩ k)=R at *
 generalize m.id=mi at *
 clear h hcap hbs k0 k1 k2 o0 o1 o2 hq hop nC
 go_enter func191,ntmps191
 go_wp2_with fail
 refine HC.out.mono ?_
 rintro e w2 ⟨fn,caps,rfl,hp⟩
 have HP:=au hp
 clear hp c0 p0 p1 p2 p3 c2
 go_wp2_with fail
 go_ret
 exact HP.out
theorem Tf (q:Qu):(if q.gU=0 then q else q.tN)=q.tN:=by
 split
 ·rename_i h
  obtain ⟨r,n⟩:=q
  simp only at h
  subst h
  rfl
 ·rfl
theorem J8 (h:aQ o w G g s m none nv) (sl:List Nat) (c:Nat) (t:MD) (v:Value) (hv:iW o w (G.D 0) (g.Nt,g.M) (30+m.id) (.fD sl c t) v) (hop:s.Q.gU<=1000000000):∃ bs:List Nat,v = .func (.func 213) #[] (bs.map aF).toArray/\Calls ay 213 (bs.map aF).toArray w (aG o w G g nv m.id (stepM s m (.fD sl c t))):=by
 obtain ⟨cv,tv,hcur,ht,bs,hbs,hcap⟩:=hv
 refine ⟨bs,hbs,?_⟩
 obtain ⟨b0,b1,b2,rfl,⟨o0,k0⟩,⟨o1,k1⟩,⟨o2,k2⟩⟩:=caps3 hcap
 have c0:=k0.cell 0 rfl
 have c1:w.cell? ⟨b1,0,none⟩=some (ak g.M):=k1.cell 0 rfl
 have c2:=k2.cell 0 rfl
 have m0:=h.m0
 have s2:=h.s0.2.2
 have hform:=ht.form
 have hcf:(cv = .pointer none)\/∃ C,cv=aF C:=by
  rcases hcur with ⟨h,_⟩|⟨C,_,_,h,_⟩
  ·exact .inl h
  ·exact .inr ⟨C,h⟩
 show Calls ay 213 #[ak b0,ak b1,ak b2] w _
 cases sl with
 | nil =>
   have HDn:Hid (Calls ay 214 #[cv] w fun e w'=>e = .returned (.bool true)/\w=w'):=wB hcur
   have e1:stepM s m (.fD [] c t)=⟨{ s with Q:=s.Q.tN },m,t,none⟩:=by simp only [stepM];rw [Tf]
   have HF:Hid (Calls ay 215 #[ak G.Q] w fun e w'=>(∃ er:Int,e = .returned (ah er))/\aG o w G g nv m.id (stepM s m (.fD [] c t)) (.returned tv) w'/\w'.cell? ⟨b2,0,none⟩=some tv):=by
    refine (PY G.Q s.Q w h.sh.qL hop).mono ?_
    rintro e w' ⟨rfl,g1,g2⟩
    obtain ⟨h1,kk⟩:=h.xM g2 g1
    refine ⟨⟨_,rfl⟩,?_,(k2.aP kk o2 (bD _)).cell 0 rfl⟩
    rw [e1]
    exact aG.same h1 (ht.aP kk (bD _)) kk
   clear e1
   generalize stepM s m (.fD [] c t)=R at *
   generalize m.id=mi at *
   clear h hcap hbs k0 k1 k2 o0 o1 o2 hop hcur ht
   rcases hform with rfl|⟨fn,caps,rfl⟩<;>rcases hcf with rfl|⟨C,rfl⟩
   all_goals
    go_enter func213,ntmps213
    go_wp2_with fail
    refine HDn.out.mono ?_
    rintro e w1 ⟨rfl,rfl⟩
    clear HDn
    go_wp2_with fail
    refine HF.out.mono ?_
    rintro e w1 ⟨⟨er,rfl⟩,g1,g2⟩
    have HP:=au g1
    clear g1 c0 c1 c2 m0 s2 HF
    go_wp2_with fail
    go_ret
    exact HP.out
 | cons a r =>
   have HDn:Hid (Calls ay 214 #[cv] w fun e w'=>e = .returned (.bool false)/\w=w'):=wB hcur
   have HS:Hid (Calls ay 216 #[cv] w fun e w'=>e = .returned (.tuple #[ah ((if s.lg c a then a else 0:Nat):Int),.bool (s.lg c a)])/\aQ o w' G g { s with H:=if s.lg c a then s.H.lJ a else s.H } m none nv/\jB o w' (G.D 0) (30+m.id) cv r c/\aj (In o (aT m.id)) w w'/\aB w' b0 [cv] 232/\aB w' b1 [aF g.M] 31/\aB w' b2 [tv] 95):=by
    refine (J4 h.sh hcur (by omega) h.box8).mono ?_
    rintro e w' ⟨rfl,g1,g2,g3⟩
    have km:aj (In o (aT m.id)) w w':=g3.kX (by simp [aT])
    refine ⟨rfl,?_,g2,km,k0.aP km o0 (bD _),k1.aP km o1 (bD _),k2.aP km o2 (bD _)⟩
    refine h.vK g3 (by simp<;>omega) (by simp<;>omega) g1 rfl ?_
    show (if s.lg c a then s.H.lJ a else s.H).c=s.H.c
    split
    ·unfold HS.lJ
     split
     ·rw [LK];rfl
     ·rfl
    ·rfl
   have HZ:Hid (∀ W ev,aQ o W G g { s with H:=if s.lg c a then s.H.lJ a else s.H } m ev nv->stepM s m (.fD (a::r) c t)=⟨{ s with H:=if s.lg c a then s.H.lJ a else s.H },m,.fD r c t,ev⟩->jB o W (G.D 0) (30+m.id) cv r c->aj (In o (aT m.id)) w W->Calls ay 207 #[ak g.M,cv,tv] W fun e w'=>∃ fn caps,e = .returned (.func (.func fn) #[] caps)/\aG o w G g nv m.id (stepM s m (.fD (a::r) c t)) (.returned (.func (.func fn) #[] caps)) w'):=fun W ev hW e1 hcW hk=>by
    refine (Df hW.sh.fK g.Nt g.M hcW (ht.aP hk (bD _))).mono ?_
    rintro e w4 ⟨fn,caps,rfl,hn4,k4⟩
    refine ⟨fn,caps,rfl,o,_,rfl,dL.refl _ _,?_,?_,hk.trans k4.bU⟩
    ·rw [e1];exact hW.still k4
    ·rw [e1];exact hn4
   by_cases hfr:s.lg c a=true
   ·have e1:stepM s m (.fD (a::r) c t)=⟨{ s with H:=s.H.lJ a },m,.fD r c t,some ⟨m.id,5,0,0,a⟩⟩:=by
     simp only [stepM]
     unfold Sh.lg at hfr
     rw [aO (by simpa using hfr)]
    rw [hfr,aV rfl,aV rfl] at HS
    rw [hfr,aV rfl] at HZ
    have HT:Hid (∀ W,aQ o W G g { s with H:=s.H.lJ a } m none nv->jB o W (G.D 0) (30+m.id) cv r c->aj (In o (aT m.id)) w W->aB W b0 [cv] 232->aB W b1 [aF g.M] 31->aB W b2 [tv] 95->Calls ay 134 #[ak g.M,ah 5,ah 0,ah 0,ah (a:Int)] W fun e w'=>e = .returned (.tuple #[])/\aB w' b0 [cv] 232/\aB w' b1 [aF g.M] 31/\aB w' b2 [tv] 95/\Hid (Calls ay 207 #[ak g.M,cv,tv] w' fun e w'=>∃ fn caps,e = .returned (.func (.func fn) #[] caps)/\aG o w G g nv m.id (stepM s m (.fD (a::r) c t)) (.returned (.func (.func fn) #[] caps)) w')):=fun W hW hcW hk g0 g1 g2=>by
     refine (EO hW 5 0 0 a).mono ?_
     rintro e w' ⟨rfl,h1,kk⟩
     have km:aj (In o (aT m.id)) w w':=hk.trans (kk.kX (by simp [aT]))
     exact ⟨rfl,g0.aP kk o0 (by simp<;>omega),g1.aP kk o1 (by simp<;>omega),g2.aP kk o2 (by simp<;>omega),HZ.out w' _ h1 e1 (hcW.aP kk (by simp<;>omega) (by simp<;>omega)) km⟩
    clear e1
    generalize stepM s m (.fD (a::r) c t)=R at *
    generalize { s with H:=s.H.lJ a }=s' at *
    generalize 30+m.id=qq at *
    generalize m.id=mi at *
    clear h hcap hbs k0 k1 k2 o0 o1 o2 hop hcur ht HZ hfr
    rcases hform with rfl|⟨fn,caps,rfl⟩<;>rcases hcf with rfl|⟨C,rfl⟩
    all_goals
     go_enter func213,ntmps213
     go_wp2_with fail
     refine HDn.out.mono ?_
     rintro e w1 ⟨rfl,rfl⟩
     clear HDn
     go_wp2_with fail
     refine HS.out.mono ?_
     rintro e w1 ⟨rfl,g1,g2,g3,g4,g5,g6⟩
     have HT1:=au (HT.out w1 g1 g2 g3 g4 g5 g6)
     have c1':w1.cell? ⟨b1,0,none⟩=some (ak g.M):=g5.cell 0 rfl
     clear g1 g2 g3 g4 g5 g6 c0 c1 c2 m0 s2 HT HS
     go_wp2_with fail
     refine HT1.out.mono ?_
     rintro e w2 ⟨rfl,g0,g1,g2,g3⟩
     have c0:=g0.cell 0 rfl
     have c1:w2.cell? ⟨b1,0,none⟩=some (ak g.M):=g1.cell 0 rfl
     have c2:=g2.cell 0 rfl
     clear g0 g1 g2 c1' HT1
     go_wp2_with fail
     refine g3.out.mono ?_
     rintro e w3 ⟨fn,caps,rfl,hp⟩
     have HP:=au hp
     clear hp c0 c1 c2 g3
     go_wp2_with fail
     go_ret
     exact HP.out
   ·have rW:s.lg c a=false:=by simpa using hfr
    have e1:stepM s m (.fD (a::r) c t)=⟨{ s with H:=s.H },m,.fD r c t,none⟩:=by
     simp only [stepM]
     unfold Sh.lg at rW
     rw [aV (by cases hb:s.H.bn a<;>simp_all)]
    rw [rW,aO (by decide),aO (by decide)] at HS
    rw [rW,aO (by decide)] at HZ
    have HZ2:Hid (∀ W,aQ o W G g { s with H:=s.H } m none nv->jB o W (G.D 0) (30+m.id) cv r c->aj (In o (aT m.id)) w W->Calls ay 207 #[ak g.M,cv,tv] W fun e w'=>∃ fn caps,e = .returned (.func (.func fn) #[] caps)/\aG o w G g nv m.id (stepM s m (.fD (a::r) c t)) (.returned (.func (.func fn) #[] caps)) w'):=fun W hW hc hk=>HZ.out W none hW e1 hc hk
    clear e1
    generalize stepM s m (.fD (a::r) c t)=R at *
    generalize 30+m.id=qq at *
    generalize m.id=mi at *
    clear h hcap hbs k0 k1 k2 o0 o1 o2 hop hcur ht HZ hfr rW
    rcases hform with rfl|⟨fn,caps,rfl⟩<;>rcases hcf with rfl|⟨C,rfl⟩
    all_goals
     go_enter func213,ntmps213
     go_wp2_with fail
     refine HDn.out.mono ?_
     rintro e w1 ⟨rfl,rfl⟩
     clear HDn
     go_wp2_with fail
     refine HS.out.mono ?_
     rintro e w1 ⟨rfl,g1,g2,g3,g4,g5,g6⟩
     have HT1:=au (HZ2.out w1 g1 g2 g3)
     have d0:=g4.cell 0 rfl
     have d1:w1.cell? ⟨b1,0,none⟩=some (ak g.M):=g5.cell 0 rfl
     have d2:=g6.cell 0 rfl
     clear g1 g2 g3 g4 g5 g6 c0 c1 c2 m0 s2 HZ2 HS
     go_wp2_with fail
     refine HT1.out.mono ?_
     rintro e w3 ⟨fn,caps,rfl,hp⟩
     have HP:=au hp
     clear hp d0 d1 d2 HT1
     go_wp2_with fail
     go_ret
     exact HP.out
end
section
variable {o:Ow} {w w':World} {G:eH} {g:MG} {s:Sh} {m:MS} {nv:Value}
theorem Qo (h:aQ o w G g s m none nv) (rd:RD) (rv:Value) (hv:nK o w g.M rd rv):∃ fn caps,rv = .func (.func fn) #[] caps/\(∀ args w,(callFunc fn args).run ay w = .ok (.enter fn args) w)/\Calls ay fn caps w fun e w'=>e = .returned (ah (rd.read s.H:Int))/\aQ o w' G g s m none nv/\aj (In o (aT m.id)) w w':=by
 have m0:=h.m0
 have s0:=h.s0.1
 have hkd:aj aA w w.drew:=(aj.refl aA w).drew
 have hd:=h.still hkd
 cases rd with
 | field base f x =>
   obtain ⟨⟨ok,oa,ob,oc⟩,hf,bs,rfl,hcap⟩:=hv
   simp only at hf
   subst hf
   obtain ⟨b0,b1,b2,rfl,⟨o0,k0⟩,⟨o1,k1⟩,⟨o2,k2⟩⟩:=caps3 hcap
   refine ⟨_,_,rfl,fun args w=>(by simp [callFunc,func170,go_sem];rfl),?_⟩
   have c0:w.cell? ⟨b0,0,none⟩=some (ak g.M):=k0.cell 0 rfl
   have c1:=k1.cell 0 rfl
   have c2:w.cell? ⟨b2,2,none⟩=some (ah ob):=k2.cell 2 rfl
   show Calls ay 170 #[ak b0,ak b1,ak b2] w _
   have HF:Hid (Calls ay 26 #[ak (G.D 0),ah (base:Int),ah ob] w.drew fun e w'=>(∃ er:Int,e = .returned (.tuple #[ah (s.H.iE base ob:Int),ah er]))/\aQ o w' G g s m none nv/\aj (In o (aT m.id)) w w'):=by
    refine (yU hd.sh.heap base ob).mono ?_
    rintro e w' ⟨rfl,g1,g2⟩
    obtain ⟨h1,kk⟩:=hd.Bz g2 g1
    exact ⟨⟨_,rfl⟩,h1,hkd.bU.trans kk⟩
   show Calls ay _ _ w fun e w'=>e = .returned (ah (s.H.iE base ob:Int))/\_
   generalize s.H.iE base ob=x at *
   generalize m.id=mi at *
   clear h hcap hkd hd k0 k1 k2 o0 o1 o2
   go_enter func170,ntmps170
   go_wp2_with fail
   refine aN 10 rfl (by kernel_rfl) (by kernel_rfl) (fun K hK=>?_)
   change wpStill _ _ (abx _) _ _ _
   simp only [List.take_succ_cons,aby,abz,abt] at hK ⊢
   repeat still_step
   refine wpStill_nil ?_
   change ite _ (Oper.wp _ _ _ _ _ _) _
   go_simp
   refine HF.out.mono ?_
   rintro e w1 ⟨⟨er,rfl⟩,g1,g2⟩
   refine hK _ _ ?_
   clear hK K
   have H1:=au g1
   have K1:=au g2
   clear g1 g2 c0 c1 c2 m0 s0
   repeat still_step
   refine wpStill_nil ?_
   go_wp2_with fail
   go_ret
   exact ⟨rfl,H1.out,K1.out⟩
 | cell i x =>
   obtain ⟨⟨ok,oa,ob,oc⟩,hf,bs,rfl,hcap⟩:=hv
   simp only at hf
   subst hf
   obtain ⟨b0,b1,rfl,⟨o0,k0⟩,⟨o1,k1⟩⟩:=caps2 hcap
   refine ⟨_,_,rfl,fun args w=>(by simp [callFunc,func176,go_sem];rfl),?_⟩
   have c0:w.cell? ⟨b0,0,none⟩=some (ak g.M):=k0.cell 0 rfl
   have c1:w.cell? ⟨b1,1,none⟩=some (ah oa):=k1.cell 1 rfl
   show Calls ay 176 #[ak b0,ak b1] w _
   have HF:Hid (Calls ay 175 #[ak (G.D 0),ah oa] w.drew fun e w'=>(∃ er:Int,e = .returned (.tuple #[ah (s.H.kW oa:Int),ah er]))/\aQ o w' G g s m none nv/\aj (In o (aT m.id)) w w'):=by
    refine (yT hd.sh.heap oa).mono ?_
    rintro e w' ⟨rfl,rfl⟩
    exact ⟨⟨_,rfl⟩,hd,hkd.bU⟩
   show Calls ay _ _ w fun e w'=>e = .returned (ah (s.H.kW oa:Int))/\_
   generalize s.H.kW oa=x at *
   generalize m.id=mi at *
   clear h hcap hkd hd k0 k1 o0 o1
   go_enter func176,ntmps176
   go_wp2_with fail
   refine aN 9 rfl (by kernel_rfl) (by kernel_rfl) (fun K hK=>?_)
   change wpStill _ _ (abx _) _ _ _
   simp only [List.take_succ_cons,aby,abz,abt] at hK ⊢
   repeat still_step
   refine wpStill_nil ?_
   change ite _ (Oper.wp _ _ _ _ _ _) _
   go_simp
   refine HF.out.mono ?_
   rintro e w1 ⟨⟨er,rfl⟩,g1,g2⟩
   refine hK _ _ ?_
   clear hK K
   have H1:=au g1
   have K1:=au g2
   clear g1 g2 c0 c1 m0 s0
   repeat still_step
   refine wpStill_nil ?_
   go_wp2_with fail
   go_ret
   exact ⟨rfl,H1.out,K1.out⟩
theorem Qp (h:aQ o w G g s m none nv) (rd:RD) (rv:Value) (hv:nN o w g.M rd rv):∃ fn caps,rv = .func (.func fn) #[] caps/\(∀ args w,(callFunc fn args).run ay w = .ok (.enter fn args) w)/\Calls ay fn caps w fun e w'=>e = .returned (.tuple #[])/\aQ o w' G g { s with H:=rd.CV s.H } m none nv/\aj (In o (aT m.id)) w w':=by
 have m0:=h.m0
 have s0:=h.s0.1
 have hkd:aj aA w w.drew:=(aj.refl aA w).drew
 have hd:=h.still hkd
 cases rd with
 | field base f x =>
   obtain ⟨⟨ok,oa,ob,oc⟩,hf,bs,rfl,hcap⟩:=hv
   simp only at hf
   subst hf
   obtain ⟨b0,b1,b2,b3,rfl,⟨o0,k0⟩,⟨o1,k1⟩,⟨o2,k2⟩,⟨o3,k3⟩⟩:=caps4 hcap
   refine ⟨_,_,rfl,fun args w=>(by simp [callFunc,func172,go_sem];rfl),?_⟩
   have c0:w.cell? ⟨b0,0,none⟩=some (ak g.M):=k0.cell 0 rfl
   have c1:=k1.cell 0 rfl
   have c2:w.cell? ⟨b2,2,none⟩=some (ah ob):=k2.cell 2 rfl
   have c3:=k3.cell 0 rfl
   show Calls ay 172 #[ak b0,ak b1,ak b2,ak b3] w _
   have HF:Hid (Calls ay 173 #[ak (G.D 0),ah (base:Int),ah ob,ah (x:Int)] w.drew fun e w'=>(∃ er:Int,e = .returned (ah er))/\aQ o w' G g { s with H:=s.H.dX base ob x } m none nv/\aj (In o (aT m.id)) w w'):=by
    refine (CP hd.sh.heap base ob x).mono ?_
    rintro e w' ⟨rfl,g1,g2⟩
    obtain ⟨h1,kk⟩:=hd.kZ g2 g1 (Ig _ _ _ _)
    exact ⟨⟨_,rfl⟩,h1,hkd.bU.trans kk⟩
   show Calls ay _ _ w fun e w'=>e = .returned (.tuple #[])/\aQ o w' G g { s with H:=s.H.dX base ob x } m none nv/\_
   generalize { s with H:=s.H.dX base ob x }=s' at *
   generalize m.id=mi at *
   clear h hcap hkd hd k0 k1 k2 k3 o0 o1 o2 o3
   go_enter func172,ntmps172
   go_wp2_with fail
   refine aN 11 rfl (by kernel_rfl) (by kernel_rfl) (fun K hK=>?_)
   change wpStill _ _ (abx _) _ _ _
   simp only [List.take_succ_cons,aby,abz,abt] at hK ⊢
   repeat still_step
   refine wpStill_nil ?_
   change ite _ (Oper.wp _ _ _ _ _ _) _
   go_simp
   refine HF.out.mono ?_
   rintro e w1 ⟨⟨er,rfl⟩,g1,g2⟩
   refine hK _ _ ?_
   clear hK K
   have H1:=au g1
   have K1:=au g2
   clear g1 g2 c0 c1 c2 c3 m0 s0
   repeat still_step
   refine wpStill_nil ?_
   go_end0
   exact ⟨rfl,H1.out,K1.out⟩
 | cell i x =>
   obtain ⟨⟨ok,oa,ob,oc⟩,hf,bs,rfl,hcap⟩:=hv
   simp only at hf
   subst hf
   obtain ⟨b0,b1,b2,rfl,⟨o0,k0⟩,⟨o1,k1⟩,⟨o2,k2⟩⟩:=caps3 hcap
   refine ⟨_,_,rfl,fun args w=>(by simp [callFunc,func177,go_sem];rfl),?_⟩
   have c0:w.cell? ⟨b0,0,none⟩=some (ak g.M):=k0.cell 0 rfl
   have c1:w.cell? ⟨b1,1,none⟩=some (ah oa):=k1.cell 1 rfl
   have c2:=k2.cell 0 rfl
   show Calls ay 177 #[ak b0,ak b1,ak b2] w _
   have HF:Hid (Calls ay 178 #[ak (G.D 0),ah oa,ah (x:Int)] w.drew fun e w'=>(∃ er:Int,e = .returned (ah er))/\aQ o w' G g { s with H:=s.H.ng oa x } m none nv/\aj (In o (aT m.id)) w w'):=by
    refine (G5 hd.sh.heap oa x).mono ?_
    rintro e w' ⟨rfl,g1,g2⟩
    obtain ⟨h1,kk⟩:=hd.kZ g2 g1 (Xp _ _ _)
    exact ⟨⟨_,rfl⟩,h1,hkd.bU.trans kk⟩
   show Calls ay _ _ w fun e w'=>e = .returned (.tuple #[])/\aQ o w' G g { s with H:=s.H.ng oa x } m none nv/\_
   generalize { s with H:=s.H.ng oa x }=s' at *
   generalize m.id=mi at *
   clear h hcap hkd hd k0 k1 k2 o0 o1 o2
   go_enter func177,ntmps177
   go_wp2_with fail
   refine aN 10 rfl (by kernel_rfl) (by kernel_rfl) (fun K hK=>?_)
   change wpStill _ _ (abx _) _ _ _
   simp only [List.take_succ_cons,aby,abz,abt] at hK ⊢
   repeat still_step
   refine wpStill_nil ?_
   change ite _ (Oper.wp _ _ _ _ _ _) _
   go_simp
   refine HF.out.mono ?_
   rintro e w1 ⟨⟨er,rfl⟩,g1,g2⟩
   refine hK _ _ ?_
   clear hK K
   have H1:=au g1
   have K1:=au g2
   clear g1 g2 c0 c1 c2 m0 s0
   repeat still_step
   refine wpStill_nil ?_
   go_end0
   exact ⟨rfl,H1.out,K1.out⟩
theorem Oa (h:aQ o w G g s m none nv) (rd:RD) (v:Value) (hv:bG o w g.Nt g.M (.last rd) v) (hres:m.aU.length<=1000000000):∃ bs:List Nat,v = .func (.func 195) #[] (bs.map aF).toArray/\Calls ay 195 (bs.map aF).toArray w (aG o w G g nv m.id (stepM s m (.last rd))):=by
 obtain ⟨wv,hw,bs,hbs,hcap⟩:=hv
 refine ⟨bs,hbs,?_⟩
 obtain ⟨b0,b1,rfl,⟨o0,k0⟩,⟨o1,k1⟩⟩:=caps2 hcap
 obtain ⟨fn,caps,rfl,hfn,hrun⟩:=Qp h rd wv hw
 have c0:=k0.cell 0 rfl
 have c1:w.cell? ⟨b1,0,none⟩=some (ak g.M):=k1.cell 0 rfl
 show Calls ay 195 #[ak b0,ak b1] w _
 have HR:Hid (Calls ay fn caps w fun e w'=>e = .returned (.tuple #[])/\w'.cell? ⟨b1,0,none⟩=some (ak g.M)/\Hid (Calls ay 106 #[ak g.M,ah 0,ah 0] w' (fun e w'=>e = .returned .nilFunc/\aG o w G g nv m.id (stepM s m (.last rd)) e w'))):=by
  refine hrun.mono ?_
  rintro e w' ⟨rfl,g1,g2⟩
  refine ⟨rfl,(k1.aP g2 o1 (bD _)).cell 0 rfl,?_⟩
  refine (nY g1 0 0 hres).mono ?_
  rintro e w' ⟨rfl,hp⟩
  exact ⟨rfl,hp.after g2⟩
 generalize stepM s m (.last rd)=R at *
 generalize m.id=mi at *
 clear h hcap hbs hw hrun k0 k1 o0 o1 hres
 go_enter func195,ntmps195
 go_wp2_with fail
 refine HR.out.mono ?_
 rintro e w1 ⟨rfl,g1,g2⟩
 clear c0 c1 HR
 go_wp2_with fail
 refine g2.out.mono ?_
 rintro e w2 ⟨rfl,hp⟩
 have HP:=au hp
 clear hp g1 g2
 go_wp2_with fail
 go_ret
 exact HP.out
end
theorem Xr {o:Ow} {w:World} {a b c d e:List Value × TypeId} {bs:List Nat} (h:ny o w [a,b,c,d,e] bs):∃ b0 b1 b2 b3 b4,bs=[b0,b1,b2,b3,b4]/\(o b0=0/\aB w b0 a.1 a.2)/\(o b1=0/\aB w b1 b.1 b.2)/\(o b2=0/\aB w b2 c.1 c.2)/\(o b3=0/\aB w b3 d.1 d.2)/\(o b4=0/\aB w b4 e.1 e.2):=by
 obtain ⟨b0,r0,rfl,o0,k0,b1,r1,rfl,o1,k1,b2,r2,rfl,o2,k2,b3,r3,rfl,o3,k3,b4,r4,rfl,o4,k4,rfl⟩:=h
 exact ⟨b0,b1,b2,b3,b4,rfl,⟨o0,k0⟩,⟨o1,k1⟩,⟨o2,k2⟩,⟨o3,k3⟩,⟨o4,k4⟩⟩
section
variable {o:Ow} {w w':World} {G:eH} {g:MG} {s:Sh} {m:MS} {nv:Value}
theorem nK.xQ {M:Nat} {rd:RD} {v:Value} (h:nK o w M rd v):∃ (fn:Nat) (caps:Array Value),v = .func (.func fn) #[] caps:=by
 cases rd with
 | field base f x=>obtain ⟨op,_,bs,rfl,_⟩:=h;exact ⟨_,_,rfl⟩
 | cell i x=>obtain ⟨op,_,bs,rfl,_⟩:=h;exact ⟨_,_,rfl⟩
theorem nN.xQ {M:Nat} {rd:RD} {v:Value} (h:nN o w M rd v):∃ (fn:Nat) (caps:Array Value),v = .func (.func fn) #[] caps:=by
 cases rd with
 | field base f x=>obtain ⟨op,_,bs,rfl,_⟩:=h;exact ⟨_,_,rfl⟩
 | cell i x=>obtain ⟨op,_,bs,rfl,_⟩:=h;exact ⟨_,_,rfl⟩
theorem aQ.c12 {ev:Option Ev} (h:aQ o w G g s m ev nv):w.cell? ⟨g.M,12,none⟩=some (ah (m.gu:Int)):=h.cell 12 _ (fun _ _=>rfl)
theorem aQ.c11 {ev:Option Ev} (h:aQ o w G g s m ev nv):w.cell? ⟨g.M,11,none⟩=some (ak g.Nt):=h.cell 11 _ (fun _ _=>rfl)
theorem aQ.c14 {ev:Option Ev} (h:aQ o w G g s m ev nv):w.cell? ⟨g.M,14,none⟩=some (ah (m.dA:Int)):=h.cell 14 _ (fun _ _=>rfl)
theorem aQ.c18 {ev:Option Ev} (h:aQ o w G g s m ev nv):w.cell? ⟨g.M,18,none⟩=some (ah (m.held:Int)):=h.cell 18 _ (fun _ _=>rfl)
theorem Il (h:aQ o w G g s m none nv) (rd:RD) (x:Nat) (rv wv:Value) (hr:nK o w g.M rd rv) (hw:nN o w g.M rd wv):Calls ay 171 #[ak g.M,ah (x:Int),rv,wv] w fun e w'=>∃ fn caps,e = .returned (.func (.func fn) #[] caps)/\bG o w' g.Nt g.M (m.ni x rd) (.func (.func fn) #[] caps)/\aj aA w w':=by
 have hc:=gJ (o:=o) [([aF g.M],31),([ah (x:Int)],3),([rv],66),([wv],1),([.func (.func 195) #[] #[aF (w.heap.size+1+1+1),aF w.heap.size]],94)] w h.sh.fK
 obtain ⟨W5,nG⟩:∃ W5,W5=fZ w [([aF g.M],31),([ah (x:Int)],3),([rv],66),([wv],1),([.func (.func 195) #[] #[aF (w.heap.size+1+1+1),aF w.heap.size]],94)]:=⟨_,rfl⟩
 rw [<- nG] at hc
 obtain ⟨b0,b1,b2,b3,b4,e,⟨o0,k0⟩,⟨o1,k1⟩,⟨o2,k2⟩,⟨o3,k3⟩,⟨o4,k4⟩⟩:=Xr hc.1
 simp only [o7,List.cons.injEq] at e
 obtain ⟨rfl,rfl,rfl,rfl,rfl,_⟩:=e
 have HW:Hid ((((((w.alloc (.cells #[aF g.M] 31)).alloc (.cells #[ah (x:Int)] 3)).alloc (.cells #[rv] 66)).alloc (.cells #[wv] 1)).alloc (.cells #[.func (.func 195) #[] #[aF (w.heap.size+1+1+1),aF w.heap.size]] 94))=W5):=by rw [nG];rfl
 have hlast:jF o W5 g.M rd (.func (.func 195) #[] #[aF (w.heap.size+1+1+1),aF w.heap.size]):=⟨wv,hw.aH hc.2 (fun _ _ f=>f),[w.heap.size+1+1+1,w.heap.size],rfl,_,_,rfl,o3,k3,_,_,rfl,o0,k0,rfl⟩
 have h5:=h.still hc.2
 have c12:∀ a b c d e,(((((w.alloc a).alloc b).alloc c).alloc d).alloc e).cell? ⟨g.M,12,none⟩=some (ah (m.gu:Int)):=fun a b c d e=>((((((aj.refl aA w).alloc a).alloc b).alloc c).alloc d).alloc e).still h.c12
 have c0:W5.cell? ⟨w.heap.size,0,none⟩=some (ak g.M):=k0.cell 0 rfl
 have c4:=k4.cell 0 rfl
 have hmf:=oH
 obtain ⟨fr,cr,rfl⟩:=hr.xQ
 obtain ⟨fw,cw,rfl⟩:=hw.xQ
 by_cases hm:m.gu=0
 ·have HE:Hid (bG o W5 g.Nt g.M (m.ni x rd) (.func (.func 195) #[] #[aF (w.heap.size+1+1+1),aF w.heap.size])/\aj aA w W5):=by
   unfold MS.ni
   rw [aV hm]
   exact ⟨hlast,hc.2⟩
  rw [hm] at c12
  clear h h5 hc hr hw hlast k0 k1 k2 k3 k4 o0 o1 o2 o3 o4 nG
  go_enter func171,ntmps171
  go_wp2_with fail
  rw [HW.out]
  go_ret
  exact ⟨_,_,rfl,HE.out.1,HE.out.2⟩
 ·have HE:Hid (bG o W5 g.Nt g.M (m.ni x rd) (.func (.func 196) #[] #[aF (w.heap.size+1+1),aF w.heap.size,aF (w.heap.size+1+1+1+1),aF (w.heap.size+1)])/\aj aA w W5):=by
   unfold MS.ni
   rw [aO hm]
   exact ⟨⟨_,_,hr.aH hc.2 (fun _ _ f=>f),hlast,[w.heap.size+1+1,w.heap.size,w.heap.size+1+1+1+1,w.heap.size+1],rfl,_,_,rfl,o2,k2,_,_,rfl,o0,k0,_,_,rfl,o4,k4,_,_,rfl,o1,k1,rfl⟩,hc.2⟩
  have d0:((m.gu:Int)==0)=false:=by simp;omega
  clear h h5 hc hr hw hlast k0 k1 k2 k3 k4 o0 o1 o2 o3 o4 nG
  go_enter func171,ntmps171
  go_wp2_with fail
  rw [HW.out]
  go_ret
  exact ⟨_,_,rfl,HE.out.1,HE.out.2⟩
end
end
end Go.Proofs.YtobfpmijbfgmeabGreatDoor
