/- Parts of the walk. No conditions. -/
import Derived.Test.YtobfpmijbfgmeabGreatDoorZzgm
namespace Go.Proofs.YtobfpmijbfgmeabGreatDoor
open _root_.Go.World renaming drew->abx
open _root_.List renaming drop_succ_cons->abz,drop_zero->abt,take_zero->aby
open _root_.Go.Proofs.Tryz hiding prog
open _root_.Go.Proofs.Tryz renaming prog->ay
set_option maxRecDepth 4000
set_option maxHeartbeats 4000000
section
attribute [local go_sem] Oper.semAt_some
open Go.RowKit
section
variable {o:Ow} {w w':World} {G:eH} {g:MG} {s:Sh} {m:MS} {nv:Value}
theorem aQ.m0 {ev:Option Ev} (h:aQ o w G g s m ev nv):w.cell? ⟨g.M,0,none⟩=some (ak G.S):=h.cell 0 _ (fun _ _=>rfl)
theorem aQ.s0 {ev:Option Ev} (h:aQ o w G g s m ev nv):w.cell? ⟨G.S,0,none⟩=some (ak (G.D 0))/\w.cell? ⟨G.S,1,none⟩=some (ak G.B)/\w.cell? ⟨G.S,2,none⟩=some (ak G.Q):=by
 obtain ⟨v,h1,_⟩:=h.sh.sh
 exact ⟨h1.cell 0 rfl,h1.cell 1 rfl,h1.cell 2 rfl⟩
theorem aQ.Bz (h:aQ o w G g s m none nv) (k:aj (HF G.D) w w') (hH:aK w' G.D s.H):aQ o w' G g s m none nv/\aj (In o (aT m.id)) w w':=h.kZ k hH rfl
theorem Ak (h:aQ o w G g s m none nv) (base:Nat) (f:Int) (t:MD) (tv:Value) (ht:bG o w g.Nt g.M t tv) (hres:m.aU.length<=1000000000):Calls ay 167 #[ak g.M,ah (base:Int),ah f,tv] w (aG o w G g nv m.id (jA s m base f t)):=by
 have hform:=ht.form
 have hmf:∀ (fn:Fn) (first aJ:Array Value) (w:World),(Instr.makeFunc fn first aJ).run ay w = .ok (.func fn first aJ) w:=fun _ _ _ _=>rfl
 by_cases hb:base=0
 ·subst hb
  have hc:=(gJ (o:=o) [([aF g.M],31),([ah 0],3),([ah f],3),([tv],95)] w h.sh.fK).2
  obtain ⟨W,hW⟩:∃ W,W=fZ w [([aF g.M],31),([ah 0],3),([ah f],3),([tv],95)]:=⟨_,rfl⟩
  rw [<- hW] at hc
  have EM:W=(((w.alloc (.cells #[ak g.M] 31)).alloc (.cells #[ah 0] 3)).alloc (.cells #[ah f] 3)).alloc (.cells #[tv] 95):=by rw [hW];rfl
  have uQ:=au EM
  have e1:jA s m 0 f t=iq s m 6 0:=rfl
  rw [e1]
  have HD:Hid (Calls ay 106 #[ak g.M,ah 6,ah 0] W (fun e w'=>e = .returned .nilFunc/\aG o w G g nv m.id (iq s m 6 0) e w')):=by
   refine (nY (h.still hc) 6 0 hres).mono ?_
   rintro e w' ⟨rfl,hp⟩
   exact ⟨rfl,hp.after hc.bU⟩
  generalize iq s m 6 0=R at *
  generalize m.id=mi at *
  clear h ht hc hW EM e1
  rcases hform with rfl|⟨fn,caps,rfl⟩
  all_goals
   go_enter func167,ntmps167
   go_wp2_with fail
   rw [<- uQ.out]
   refine HD.out.mono ?_
   rintro e w1 ⟨rfl,hp⟩
   have HP:=au hp
   clear hp
   go_wp2_with fail
   go_ret
   exact HP.out
 ·have d0:((base:Int)==0)=false:=by simp;omega
  have hc:=gJ (o:=o) [([aF g.M],31),([ah (base:Int)],3),([ah f],3),([tv],95)] w h.sh.fK
  have HE:Hid (aG o w G g nv m.id (jA s m base f t) (.returned (.func (.func 194) #[] #[aF w.heap.size,aF (w.heap.size+1),aF (w.heap.size+1+1),aF (w.heap.size+1+1+1)])) (fZ w [([aF g.M],31),([ah (base:Int)],3),([ah f],3),([tv],95)])):=by
   unfold Hid jA
   rw [aO hb]
   exact aG.same (h.still hc.2) ⟨tv,ht.still hc.2,⟨_,rfl,hc.1⟩⟩ hc.2.bU
  generalize jA s m base f t=R at *
  generalize m.id=mi at *
  clear h ht hc hb
  rcases hform with rfl|⟨fn,caps,rfl⟩
  all_goals
   go_enter func167,ntmps167
   go_wp2_with fail
   go_ret
   exact HE.out
theorem JW (h:aQ o w G g s m none nv) (base:Nat) (f:Int) (t:MD) (v:Value) (hv:bG o w g.Nt g.M (.field base f t) v) (hres:m.aU.length<=1000000000):∃ bs:List Nat,v = .func (.func 194) #[] (bs.map aF).toArray/\Calls ay 194 (bs.map aF).toArray w (aG o w G g nv m.id (stepM s m (.field base f t))):=by
 obtain ⟨tv,ht,bs,hbs,hcap⟩:=hv
 refine ⟨bs,hbs,?_⟩
 obtain ⟨b0,b1,b2,b3,rfl,⟨o0,k0⟩,⟨o1,k1⟩,⟨o2,k2⟩,⟨o3,k3⟩⟩:=caps4 hcap
 have c0:w.cell? ⟨b0,0,none⟩=some (ak g.M):=k0.cell 0 rfl
 have c1:=k1.cell 0 rfl
 have m0:=h.m0
 have s0:=h.s0.1
 have hform:=ht.form
 show Calls ay 194 #[ak b0,ak b1,ak b2,ak b3] w _
 have hkd:aj aA w w.drew:=(aj.refl aA w).drew
 have hd:=h.still hkd
 have hnf:(s.H.gV base).1<=1048576:=by
  unfold HS.gV
  split
  ·rename_i he
   have:=(h.sh.heap.dQ.PG (zS he).2)
   obtain ⟨B,k,mm,_,h2,_,_,h5⟩:=this
   rw [h5]
   have:=(mP h2).2.1
   omega
  ·exact Nat.zero_le _
 have HF:Hid (Calls ay 25 #[ak (G.D 0),ah (base:Int)] w.drew fun e w'=>(∃ er:Int,e = .returned (.tuple #[ah ((s.H.gV base).1:Int),ah er]))/\aQ o w' G g s m none nv/\aj (In o (aT m.id)) w w'/\aB w' b0 [aF g.M] 31/\aB w' b2 [ah f] 3/\aB w' b3 [tv] 95):=by
  refine (Ai hd.sh.heap base).mono ?_
  rintro e w' ⟨rfl,g1,g2⟩
  obtain ⟨h1,kk⟩:=hd.Bz g2 g1
  have km:aj (In o (aT m.id)) w w':=hkd.bU.trans kk
  exact ⟨⟨_,rfl⟩,h1,km,k0.aP km o0 (bD _),k2.aP km o2 (bD _),k3.aP km o3 (bD _)⟩
 by_cases hb:f<0\/((s.H.gV base).1:Int)<=f
 ·have HD:Hid (∀ W,aQ o W G g s m none nv->aj (In o (aT m.id)) w W->Calls ay 106 #[ak g.M,ah 7,ah 0] W (fun e w'=>e = .returned .nilFunc/\aG o w G g nv m.id (stepM s m (.field base f t)) e w')):=fun W hW hk=>by
   refine (nY hW 7 0 hres).mono ?_
   rintro e w' ⟨rfl,hp⟩
   have e1:stepM s m (.field base f t)=iq s m 7 0:=by simp only [stepM];rw [aV hb]
   rw [e1]
   exact ⟨rfl,hp.after hk⟩
  have HB:=au hb
  generalize stepM s m (.field base f t)=R at *
  generalize (s.H.gV base).1=n at *
  generalize m.id=mi at *
  clear h ht hcap hbs hkd hd k0 k1 k2 k3 o0 o1 o2 o3 hform hb
  by_cases hf:f<0
  ·have d0:decide (f<0)=true:=cZ hf
   clear hf HB
   go_enter func194,ntmps194
   go_wp2_with fail
   refine aN 8 rfl (by kernel_rfl) (by kernel_rfl) (fun K hK=>?_)
   change wpStill _ _ (abx _) _ _ _
   simp only [List.take_succ_cons,aby,abz,abt] at hK ⊢
   repeat still_step
   refine wpStill_nil ?_
   change ite _ (Oper.wp _ _ _ _ _ _) _
   go_simp
   refine HF.out.mono ?_
   rintro e w1 ⟨⟨er,rfl⟩,g1,g2,g3,g4,g5⟩
   refine hK _ _ ?_
   clear hK K
   have H1:=au g1
   have K1:=au g2
   clear g1 g2 g5 c0 c1 m0 s0
   repeat still_step
   refine wpStill_nil ?_
   have c0:w1.cell? ⟨b0,0,none⟩=some (ak g.M):=g3.cell 0 rfl
   have c2:=g4.cell 0 rfl
   clear g3 g4
   go_wp2_with fail
   refine (HD.out _ H1.out K1.out).mono ?_
   rintro e w2 ⟨rfl,hp⟩
   have HP:=au hp
   clear hp
   go_wp2_with fail
   go_ret
   exact HP.out
  ·have d0:decide (f<0)=false:=dD hf
   have d1:decide ((n:Int)<=f)=true:=cZ (HB.out.resolve_left hf)
   clear hf HB
   go_enter func194,ntmps194
   go_wp2_with fail
   refine aN 8 rfl (by kernel_rfl) (by kernel_rfl) (fun K hK=>?_)
   change wpStill _ _ (abx _) _ _ _
   simp only [List.take_succ_cons,aby,abz,abt] at hK ⊢
   repeat still_step
   refine wpStill_nil ?_
   change ite _ (Oper.wp _ _ _ _ _ _) _
   go_simp
   refine HF.out.mono ?_
   rintro e w1 ⟨⟨er,rfl⟩,g1,g2,g3,g4,g5⟩
   refine hK _ _ ?_
   clear hK K
   have H1:=au g1
   have K1:=au g2
   clear g1 g2 g5 c0 c1 m0 s0
   repeat still_step
   refine wpStill_nil ?_
   have c0:w1.cell? ⟨b0,0,none⟩=some (ak g.M):=g3.cell 0 rfl
   have c2:=g4.cell 0 rfl
   clear g3 g4
   go_wp2_with fail
   refine (HD.out _ H1.out K1.out).mono ?_
   rintro e w2 ⟨rfl,hp⟩
   have HP:=au hp
   clear hp
   go_wp2_with fail
   go_ret
   exact HP.out
 ·obtain ⟨j,rfl⟩:∃ j:Nat,f=(j:Int):=⟨f.toNat,by omega⟩
  have HE:Hid (∀ W,aQ o W G g s m none nv->aj (In o (aT m.id)) w W->aG o w G g nv m.id (stepM s m (.field base (j:Int) t)) (.returned tv) W):=fun W hW hk=>by
   have e1:stepM s m (.field base (j:Int) t)=⟨s,m,t,none⟩:=by simp only [stepM];rw [aO hb]
   rw [e1]
   exact aG.same hW (ht.aP hk (bD _)) hk
  have d0:decide ((j:Int)<0)=false:=dD (by omega)
  have d1:decide ((s.H.gV base).1<=j)=false:=dD (by omega)
  generalize stepM s m (.field base (j:Int) t)=R at *
  generalize (s.H.gV base).1=n at *
  generalize m.id=mi at *
  clear h ht hcap hbs hkd hd k0 k1 k2 k3 o0 o1 o2 o3 hb
  rcases hform with rfl|⟨fn,caps,rfl⟩
  all_goals
   go_enter func194,ntmps194
   go_wp2_with fail
   refine aN 8 rfl (by kernel_rfl) (by kernel_rfl) (fun K hK=>?_)
   change wpStill _ _ (abx _) _ _ _
   simp only [List.take_succ_cons,aby,abz,abt] at hK ⊢
   repeat still_step
   refine wpStill_nil ?_
   change ite _ (Oper.wp _ _ _ _ _ _) _
   go_simp
   refine HF.out.mono ?_
   rintro e w1 ⟨⟨er,rfl⟩,g1,g2,g3,g4,g5⟩
   refine hK _ _ ?_
   clear hK K
   have H1:=au g1
   have K1:=au g2
   clear g1 g2 c0 c1 m0 s0
   repeat still_step
   refine wpStill_nil ?_
   have c2:=g4.cell 0 rfl
   have c3:=g5.cell 0 rfl
   clear g3 g4 g5
   go_wp2_with fail
   go_ret
   exact HE.out _ H1.out K1.out
theorem Qm (h:aQ o w G g s m none nv) (op:bQ) (v:Value) (hv:bG o w g.Nt g.M (.get op) v) (h0:0<=op.a) (hr:op.a<m.aI.length) (hres:m.aU.length<=1000000000):∃ bs:List Nat,v = .func (.func 174) #[] (bs.map aF).toArray/\Calls ay 174 (bs.map aF).toArray w (aG o w G g nv m.id (stepM s m (.get op))):=by
 obtain ⟨bs,hbs,hcap⟩:=hv
 refine ⟨bs,hbs,?_⟩
 obtain ⟨b0,b1,rfl,⟨o0,k0⟩,⟨o1,k1⟩⟩:=caps2 hcap
 obtain ⟨ok,oa,ob,oc⟩:=op
 have c0:w.cell? ⟨b0,0,none⟩=some (ak g.M):=k0.cell 0 rfl
 have c1:w.cell? ⟨b1,2,none⟩=some (ah ob):=k1.cell 2 rfl
 have m0:=h.m0
 have s0:=h.s0.1
 show Calls ay 174 #[ak b0,ak b1] w _
 have hkd:aj aA w w.drew:=(aj.refl aA w).drew
 have hd:=h.still hkd
 have HF:Hid (Calls ay 175 #[ak (G.D 0),ah ob] w.drew fun e w'=>(∃ er:Int,e = .returned (.tuple #[ah (s.H.kW ob:Int),ah er]))/\w'=w.drew):=by
  refine (yT hd.sh.heap ob).mono ?_
  rintro e w' ⟨rfl,rfl⟩
  exact ⟨⟨_,rfl⟩,rfl⟩
 have HD:Hid (Calls ay 169 #[ak g.M,ah oa,ah (s.H.kW ob:Int)] w.drew (fun e w'=>e = .returned .nilFunc/\aG o w G g nv m.id (stepM s m (.get ⟨ok,oa,ob,oc⟩)) e w')):=by
  refine (vM hd oa (s.H.kW ob) h0 hr hres).mono ?_
  rintro e w' ⟨rfl,hp⟩
  exact ⟨rfl,hp.after hkd.bU⟩
 have HB:Hid (w.drew.cell? ⟨b0,0,none⟩=some (ak g.M)/\w.drew.cell? ⟨b1,1,none⟩=some (ah oa)):=⟨(hkd.aC k0 (fun f=>f)).cell 0 rfl,(hkd.aC k1 (fun f=>f)).cell 1 rfl⟩
 generalize stepM s m (.get ⟨ok,oa,ob,oc⟩)=R at *
 generalize s.H.kW ob=x at *
 generalize m.id=mi at *
 clear h hcap hbs hkd hd k0 k1 o0 o1 h0 hr hres
 go_enter func174,ntmps174
 go_wp2_with fail
 refine aN 9 rfl (by kernel_rfl) (by kernel_rfl) (fun K hK=>?_)
 change wpStill _ _ (abx _) _ _ _
 simp only [List.take_succ_cons,aby,abz,abt] at hK ⊢
 repeat still_step
 refine wpStill_nil ?_
 change ite _ (Oper.wp _ _ _ _ _ _) _
 go_simp
 refine HF.out.mono ?_
 rintro e w1 ⟨⟨er,rfl⟩,rfl⟩
 refine hK _ _ ?_
 clear hK K
 clear c0 c1 m0 s0 HF
 obtain ⟨W1,hW1⟩:∃ W1,W1=w.drew:=⟨_,rfl⟩
 rw [<- hW1] at HB HD ⊢
 clear hW1
 repeat still_step
 refine wpStill_nil ?_
 have c0:=HB.out.1
 have c1:=HB.out.2
 go_wp2_with fail
 refine HD.out.mono ?_
 rintro e w2 ⟨rfl,hp⟩
 have HP:=au hp
 clear hp
 go_wp2_with fail
 go_ret
 exact HP.out
theorem NZ (h:aQ o w G g s m none nv) (op:bQ) (base:Nat) (v:Value) (hv:bG o w g.Nt g.M (.load op base) v) (h0:0<=op.a) (hr:op.a<m.aI.length) (hres:m.aU.length<=1000000000):∃ bs:List Nat,v = .func (.func 168) #[] (bs.map aF).toArray/\Calls ay 168 (bs.map aF).toArray w (aG o w G g nv m.id (stepM s m (.load op base))):=by
 obtain ⟨bs,hbs,hcap⟩:=hv
 refine ⟨bs,hbs,?_⟩
 obtain ⟨b0,b1,b2,rfl,⟨o0,k0⟩,⟨o1,k1⟩,⟨o2,k2⟩⟩:=caps3 hcap
 obtain ⟨ok,oa,ob,oc⟩:=op
 have c0:w.cell? ⟨b0,0,none⟩=some (ak g.M):=k0.cell 0 rfl
 have c1:=k1.cell 0 rfl
 have c2:w.cell? ⟨b2,3,none⟩=some (ah oc):=k2.cell 3 rfl
 have m0:=h.m0
 have s0:=h.s0.1
 show Calls ay 168 #[ak b0,ak b1,ak b2] w _
 have hkd:aj aA w w.drew:=(aj.refl aA w).drew
 have hd:=h.still hkd
 have HF:Hid (Calls ay 26 #[ak (G.D 0),ah (base:Int),ah oc] w.drew fun e w'=>(∃ er:Int,e = .returned (.tuple #[ah (s.H.iE base oc:Int),ah er]))/\aQ o w' G g s m none nv/\aj (In o (aT m.id)) w w'/\aB w' b0 [aF g.M] 31/\aB w' b2 [ah ok,ah oa,ah ob,ah oc] 45):=by
  refine (yU hd.sh.heap base oc).mono ?_
  rintro e w' ⟨rfl,g1,g2⟩
  obtain ⟨h1,kk⟩:=hd.Bz g2 g1
  have km:aj (In o (aT m.id)) w w':=hkd.bU.trans kk
  exact ⟨⟨_,rfl⟩,h1,km,k0.aP km o0 (bD _),k2.aP km o2 (bD _)⟩
 have HD:Hid (∀ W,aQ o W G g s m none nv->aj (In o (aT m.id)) w W->Calls ay 169 #[ak g.M,ah oa,ah (s.H.iE base oc:Int)] W (fun e w'=>e = .returned .nilFunc/\aG o w G g nv m.id (stepM s m (.load ⟨ok,oa,ob,oc⟩ base)) e w')):=fun W hW hk=>by
  refine (vM hW oa (s.H.iE base oc) h0 hr hres).mono ?_
  rintro e w' ⟨rfl,hp⟩
  exact ⟨rfl,hp.after hk⟩
 generalize stepM s m (.load ⟨ok,oa,ob,oc⟩ base)=R at *
 generalize s.H.iE base oc=x at *
 generalize m.id=mi at *
 clear h hcap hbs hkd hd k0 k1 k2 o0 o1 o2 h0 hr hres
 go_enter func168,ntmps168
 go_wp2_with fail
 refine aN 10 rfl (by kernel_rfl) (by kernel_rfl) (fun K hK=>?_)
 change wpStill _ _ (abx _) _ _ _
 simp only [List.take_succ_cons,aby,abz,abt] at hK ⊢
 repeat still_step
 refine wpStill_nil ?_
 change ite _ (Oper.wp _ _ _ _ _ _) _
 go_simp
 refine HF.out.mono ?_
 rintro e w1 ⟨⟨er,rfl⟩,g1,g2,g3,g4⟩
 refine hK _ _ ?_
 clear hK K
 have H1:=au g1
 have K1:=au g2
 clear g1 g2 c0 c1 c2 m0 s0
 repeat still_step
 refine wpStill_nil ?_
 have c0:w1.cell? ⟨b0,0,none⟩=some (ak g.M):=g3.cell 0 rfl
 have c1:w1.cell? ⟨b2,1,none⟩=some (ah oa):=g4.cell 1 rfl
 clear g3 g4
 go_wp2_with fail
 refine (HD.out _ H1.out K1.out).mono ?_
 rintro e w2 ⟨rfl,hp⟩
 have HP:=au hp
 clear hp
 go_wp2_with fail
 go_ret
 exact HP.out
end
section
variable {o:Ow} {w w':World} {G:eH} {g:MG} {s:Sh} {m:MS} {nv:Value}
theorem oH:∀ (fn:Fn) (first aJ:Array Value) (w:World),(Instr.makeFunc fn first aJ).run ay w = .ok (.func fn first aJ) w:=fun _ _ _ _=>rfl
theorem zf (hf:jS o w) (Nt M:Nat) (op:bQ) (a:Nat):Calls ay 164 #[ak M,.agg op.cells.toArray,ah (a:Int)] w fun e w'=>∃ fv,e = .returned fv/\bG o w' Nt M (.fill op a) fv/\aj aA w w':=by
 obtain ⟨ok,oa,ob,oc⟩:=op
 have hc:=gJ (o:=o) [([aF M],31),([ah ok,ah oa,ah ob,ah oc],45),([ah (a:Int)],3)] w hf
 have HE:Hid (bG o (fZ w [([aF M],31),([ah ok,ah oa,ah ob,ah oc],45),([ah (a:Int)],3)]) Nt M (.fill ⟨ok,oa,ob,oc⟩ a) (.func (.func 187) #[] #[aF w.heap.size,aF (w.heap.size+1+1),aF (w.heap.size+1)])/\aj aA w (fZ w [([aF M],31),([ah ok,ah oa,ah ob,ah oc],45),([ah (a:Int)],3)])):=by
  obtain ⟨b0,b1,b2,e,⟨o0,k0⟩,⟨o1,k1⟩,⟨o2,k2⟩⟩:=caps3 hc.1
  simp only [o7,List.cons.injEq] at e
  obtain ⟨rfl,rfl,rfl,_⟩:=e
  exact ⟨⟨[w.heap.size,w.heap.size+1+1,w.heap.size+1],rfl,⟨_,_,rfl,o0,k0,_,_,rfl,o2,k2,_,_,rfl,o1,k1,rfl⟩⟩,hc.2⟩
 have hmf:=oH
 clear hc hf
 simp only [bQ.cells]
 go_enter func164,ntmps164
 go_wp2_with fail
 go_ret
 exact ⟨_,rfl,HE.out.1,HE.out.2⟩
theorem ER (hf:jS o w) (Nt M:Nat) (op:bQ) (a i:Nat):Calls ay 189 #[ak M,.agg op.cells.toArray,ah (a:Int),ah (i:Int)] w fun e w'=>∃ fv,e = .returned fv/\bG o w' Nt M (.zero op a i) fv/\aj aA w w':=by
 obtain ⟨ok,oa,ob,oc⟩:=op
 have hc:=gJ (o:=o) [([aF M],31),([ah ok,ah oa,ah ob,ah oc],45),([ah (a:Int)],3),([ah (i:Int)],3)] w hf
 have HE:Hid (bG o (fZ w [([aF M],31),([ah ok,ah oa,ah ob,ah oc],45),([ah (a:Int)],3),([ah (i:Int)],3)]) Nt M (.zero ⟨ok,oa,ob,oc⟩ a i) (.func (.func 201) #[] #[aF (w.heap.size+1+1+1),aF (w.heap.size+1),aF w.heap.size,aF (w.heap.size+1+1)])/\aj aA w (fZ w [([aF M],31),([ah ok,ah oa,ah ob,ah oc],45),([ah (a:Int)],3),([ah (i:Int)],3)])):=by
  obtain ⟨b0,b1,b2,b3,e,⟨o0,k0⟩,⟨o1,k1⟩,⟨o2,k2⟩,⟨o3,k3⟩⟩:=caps4 hc.1
  simp only [o7,List.cons.injEq] at e
  obtain ⟨rfl,rfl,rfl,rfl,_⟩:=e
  exact ⟨⟨[w.heap.size+1+1+1,w.heap.size+1,w.heap.size,w.heap.size+1+1],rfl,⟨_,_,rfl,o3,k3,_,_,rfl,o1,k1,_,_,rfl,o0,k0,_,_,rfl,o2,k2,rfl⟩⟩,hc.2⟩
 have hmf:=oH
 clear hc hf
 simp only [bQ.cells]
 go_enter func189,ntmps189
 go_wp2_with fail
 go_ret
 exact ⟨_,rfl,HE.out.1,HE.out.2⟩
theorem aG.made {r:lZ} {W:World} {i:Nat} (h:aQ o W G g r.s r.m r.ev nv) (k:aj (In o (aT i)) w W) {f:Nat} {args:Array Value} (hc:Calls ay f args W fun e w'=>∃ fv,e = .returned fv/\bG o w' g.Nt g.M r.next fv/\aj aA W w') (hev:r.ev=none):Calls ay f args W fun e w'=>∃ fn caps,e = .returned (.func (.func fn) #[] caps)/\aG o w G g nv i r (.returned (.func (.func fn) #[] caps)) w'\/e = .returned .nilFunc/\aG o w G g nv i r (.returned .nilFunc) w':=by
 refine hc.mono ?_
 rintro e w' ⟨fv,rfl,h1,h2⟩
 rw [hev] at h
 have hp:aG o w G g nv i r (.returned fv) w':=⟨o,fv,rfl,dL.refl _ _,by rw [hev];exact h.still h2,iW.of (g:=(g.Nt,g.M)) h1,k.trans h2.bU⟩
 rcases h1.form with rfl|⟨fn,caps,rfl⟩
 ·exact ⟨0,#[],.inr ⟨rfl,hp⟩⟩
 ·exact ⟨fn,caps,.inl ⟨rfl,hp⟩⟩
theorem LK (H:HS) (a:Nat):(H.fA a).c=H.c:=by
 unfold HS.fA
 split
 ·rfl
 ·split<;>rfl
theorem SY (H:HS) (a:Nat) (f:Int):(H.jf a f).c=H.c:=by
 unfold HS.jf
 split
 ·rfl
 ·split<;>rfl
theorem VW (H:HS) (a c:Nat):(H.iZ a c).c=H.c:=by unfold HS.iZ;split<;>rfl
theorem Ig (H:HS) (a:Nat) (f:Int) (v:Nat):(H.dX a f v).c=H.c:=by unfold HS.dX;split<;>rfl
theorem Xp (H:HS) (i:Int) (v:Nat):(H.ng i v).c=H.c:=by unfold HS.ng;split<;>rfl
theorem LM (H:HS) (k:Nat):(H.dh k).2.2.c=H.c:=by unfold HS.dh;split<;>rfl
theorem Qn (H:HS) (k:Nat):(H.bT k).2.2.c=H.c:=by unfold HS.bT;split<;>rfl
theorem N7 (h:aQ o w G g s m none nv) (op:bQ) (a:Nat) (v:Value) (hv:bG o w g.Nt g.M (.fill op a) v) (hb0:0<=op.b) (hb1:op.b<=15):∃ bs:List Nat,v = .func (.func 187) #[] (bs.map aF).toArray/\Calls ay 187 (bs.map aF).toArray w (aG o w G g nv m.id (stepM s m (.fill op a))):=by
 obtain ⟨bs,hbs,hcap⟩:=hv
 refine ⟨bs,hbs,?_⟩
 obtain ⟨b0,b1,b2,rfl,⟨o0,k0⟩,⟨o1,k1⟩,⟨o2,k2⟩⟩:=caps3 hcap
 obtain ⟨ok,oa,ob,oc⟩:=op
 simp only at hb0 hb1
 obtain ⟨f,rfl⟩:∃ f:Nat,ob=(f:Int):=⟨ob.toNat,by omega⟩
 have c0:w.cell? ⟨b0,0,none⟩=some (ak g.M):=k0.cell 0 rfl
 have c1:=k1.cell 0 rfl
 have c2:w.cell? ⟨b2,2,none⟩=some (ah (f:Int)):=k2.cell 2 rfl
 have m0:=h.m0
 have s0:=h.s0.1
 show Calls ay 187 #[ak b0,ak b1,ak b2] w _
 have hkd:aj aA w w.drew:=(aj.refl aA w).drew
 have hd:=h.still hkd
 have HF:Hid (Calls ay 188 #[ak (G.D 0),ah (a:Int),ah (f:Int)] w.drew fun e w'=>(∃ er:Int,e = .returned (ah er))/\aQ o w' G g { s with H:=s.H.jf a (f:Int) } m none nv/\aj (In o (aT m.id)) w w'/\aB w' b0 [aF g.M] 31/\aB w' b1 [ah (a:Int)] 3/\aB w' b2 [ah ok,ah oa,ah (f:Int),ah oc] 45):=by
  refine (Np hd.sh.heap a f (by omega)).mono ?_
  rintro e w' ⟨⟨er,rfl⟩,g1,g2⟩
  obtain ⟨h1,kk⟩:=hd.kZ g2 g1 (SY _ _ _)
  have km:aj (In o (aT m.id)) w w':=hkd.bU.trans kk
  exact ⟨⟨_,rfl⟩,h1,km,k0.aP km o0 (bD _),k1.aP km o1 (bD _),k2.aP km o2 (bD _)⟩
 have HZ:Hid (∀ W,aQ o W G g { s with H:=s.H.jf a (f:Int) } m none nv->aj (In o (aT m.id)) w W->Calls ay 189 #[ak g.M,.agg #[ah ok,ah oa,ah (f:Int),ah oc],ah (a:Int),ah 0] W fun e w'=>∃ fn caps,e = .returned (.func (.func fn) #[] caps)/\aG o w G g nv m.id (stepM s m (.fill ⟨ok,oa,(f:Int),oc⟩ a)) (.returned (.func (.func fn) #[] caps)) w'\/e = .returned .nilFunc/\aG o w G g nv m.id (stepM s m (.fill ⟨ok,oa,(f:Int),oc⟩ a)) (.returned .nilFunc) w'):=fun W hW hk =>
  aG.made (r:=stepM s m (.fill ⟨ok,oa,(f:Int),oc⟩ a)) hW hk (ER hW.sh.fK g.Nt g.M ⟨ok,oa,(f:Int),oc⟩ a 0) rfl
 generalize stepM s m (.fill ⟨ok,oa,(f:Int),oc⟩ a)=R at *
 generalize { s with H:=s.H.jf a (f:Int) }=s' at *
 generalize m.id=mi at *
 clear h hcap hbs hkd hd k0 k1 k2 o0 o1 o2 hb0 hb1
 go_enter func187,ntmps187
 go_wp2_with fail
 refine aN 10 rfl (by kernel_rfl) (by kernel_rfl) (fun K hK=>?_)
 change wpStill _ _ (abx _) _ _ _
 simp only [List.take_succ_cons,aby,abz,abt] at hK ⊢
 repeat still_step
 refine wpStill_nil ?_
 change ite _ (Oper.wp _ _ _ _ _ _) _
 go_simp
 refine HF.out.mono ?_
 rintro e w1 ⟨⟨er,rfl⟩,g1,g2,g3,g4,g5⟩
 refine hK _ _ ?_
 clear hK K
 have H1:=au g1
 have K1:=au g2
 clear g1 g2 c0 c1 c2 m0 s0
 repeat still_step
 refine wpStill_nil ?_
 have c0:w1.cell? ⟨b0,0,none⟩=some (ak g.M):=g3.cell 0 rfl
 have c1:=g4.cell 0 rfl
 have p0:=g5.cell 0 rfl;have p1:=g5.cell 1 rfl;have p2:=g5.cell 2 rfl;have p3:=g5.cell 3 rfl
 clear g3 g4 g5
 go_wp2_with fail
 refine (HZ.out _ H1.out K1.out).mono ?_
 rintro e w2 ⟨fn,caps,⟨rfl,hp⟩|⟨rfl,hp⟩⟩
 all_goals
  have HP:=au hp
  clear hp c0 c1 p0 p1 p2 p3
  go_wp2_with fail
  go_ret
  exact HP.out
theorem N8 (h:aQ o w G g s m none nv) (op:bQ) (a i:Nat) (v:Value) (hv:bG o w g.Nt g.M (.zero op a i) v) (h0:0<=op.a) (hr:op.a<m.aI.length) (hi:i<=1000) (hres:m.aU.length<=1000000000):∃ bs:List Nat,v = .func (.func 201) #[] (bs.map aF).toArray/\Calls ay 201 (bs.map aF).toArray w (aG o w G g nv m.id (stepM s m (.zero op a i))):=by
 obtain ⟨bs,hbs,hcap⟩:=hv
 refine ⟨bs,hbs,?_⟩
 obtain ⟨b0,b1,b2,b3,rfl,⟨o0,k0⟩,⟨o1,k1⟩,⟨o2,k2⟩,⟨o3,k3⟩⟩:=caps4 hcap
 obtain ⟨ok,oa,ob,oc⟩:=op
 have c0:=k0.cell 0 rfl
 have c1:w.cell? ⟨b1,2,none⟩=some (ah ob):=k1.cell 2 rfl
 have c2:w.cell? ⟨b2,0,none⟩=some (ak g.M):=k2.cell 0 rfl
 have c3:=k3.cell 0 rfl
 have m0:=h.m0
 have s0:=h.s0.1
 have m13:=h.cell 13 (ah (m.bK:Int)) (fun _ _=>rfl)
 show Calls ay 201 #[ak b0,ak b1,ak b2,ak b3] w _
 have hkd:aj aA w w.drew:=(aj.refl aA w).drew
 have hd:=h.still hkd
 by_cases hib:(i:Int)=ob
 ·have e1:stepM s m (.zero ⟨ok,oa,ob,oc⟩ a i)=jU { s with H:=s.H.iZ a m.bK } m oa a:=by simp only [stepM];rw [aV hib]
  rw [e1]
  have HF:Hid (Calls ay 202 #[ak (G.D 0),ah (a:Int),ah (m.bK:Int)] w.drew fun e w'=>(∃ er:Int,e = .returned (ah er))/\aQ o w' G g { s with H:=s.H.iZ a m.bK } m none nv/\aj (In o (aT m.id)) w w'/\aB w' b1 [ah ok,ah oa,ah ob,ah oc] 45/\aB w' b2 [aF g.M] 31/\aB w' b3 [ah (a:Int)] 3):=by
   refine (PS hd.sh.heap a m.bK).mono ?_
   rintro e w' ⟨rfl,g1,g2⟩
   obtain ⟨h1,kk⟩:=hd.kZ g2 g1 (VW _ _ _)
   have km:aj (In o (aT m.id)) w w':=hkd.bU.trans kk
   exact ⟨⟨_,rfl⟩,h1,km,k1.aP km o1 (bD _),k2.aP km o2 (bD _),k3.aP km o3 (bD _)⟩
  have HD:Hid (∀ W,aQ o W G g { s with H:=s.H.iZ a m.bK } m none nv->aj (In o (aT m.id)) w W->Calls ay 169 #[ak g.M,ah oa,ah (a:Int)] W (fun e w'=>e = .returned .nilFunc/\aG o w G g nv m.id (jU { s with H:=s.H.iZ a m.bK } m oa a) e w')):=fun W hW hk=>by
   refine (vM hW oa a h0 hr hres).mono ?_
   rintro e w' ⟨rfl,hp⟩
   exact ⟨rfl,hp.after hk⟩
  have d0:((i:Int)==ob)=true:=by simpa using hib
  generalize jU { s with H:=s.H.iZ a m.bK } m oa a=R at *
  generalize { s with H:=s.H.iZ a m.bK }=s' at *
  generalize m.id=mi at *
  generalize m.bK=mc at *
  clear h hcap hbs hkd hd k0 k1 k2 k3 o0 o1 o2 o3 hib h0 hr hres e1 hi
  go_enter func201,ntmps201
  go_wp2_with fail
  refine aN 12 rfl (by kernel_rfl) (by kernel_rfl) (fun K hK=>?_)
  change wpStill _ _ (abx _) _ _ _
  simp only [List.take_succ_cons,aby,abz,abt] at hK ⊢
  repeat still_step
  refine wpStill_nil ?_
  change ite _ (Oper.wp _ _ _ _ _ _) _
  go_simp
  refine HF.out.mono ?_
  rintro e w1 ⟨⟨er,rfl⟩,g1,g2,g3,g4,g5⟩
  refine hK _ _ ?_
  clear hK K
  have H1:=au g1
  have K1:=au g2
  clear g1 g2 c0 c1 c2 c3 m0 s0 m13
  repeat still_step
  refine wpStill_nil ?_
  have c1:=g3.cell 1 rfl
  have c2:w1.cell? ⟨b2,0,none⟩=some (ak g.M):=g4.cell 0 rfl
  have c3:=g5.cell 0 rfl
  clear g3 g4 g5
  go_wp2_with fail
  refine (HD.out _ H1.out K1.out).mono ?_
  rintro e w2 ⟨rfl,hp⟩
  have HP:=au hp
  clear hp
  go_wp2_with fail
  go_ret
  exact HP.out
 ·have e1:stepM s m (.zero ⟨ok,oa,ob,oc⟩ a i)=⟨{ s with H:=s.H.dX a i 0 },m,.zero ⟨ok,oa,ob,oc⟩ a (i+1),none⟩:=by simp only [stepM];rw [aO hib]
  have HF:Hid (Calls ay 173 #[ak (G.D 0),ah (a:Int),ah (i:Int),ah 0] w.drew fun e w'=>(∃ er:Int,e = .returned (ah er))/\aQ o w' G g { s with H:=s.H.dX a i 0 } m none nv/\aj (In o (aT m.id)) w w'/\aB w' b0 [ah (i:Int)] 3/\aB w' b1 [ah ok,ah oa,ah ob,ah oc] 45/\aB w' b2 [aF g.M] 31/\aB w' b3 [ah (a:Int)] 3):=by
   refine (CP hd.sh.heap a (i:Int) 0).mono ?_
   rintro e w' ⟨rfl,g1,g2⟩
   obtain ⟨h1,kk⟩:=hd.kZ g2 g1 (Ig _ _ _ _)
   have km:aj (In o (aT m.id)) w w':=hkd.bU.trans kk
   exact ⟨⟨_,rfl⟩,h1,km,k0.aP km o0 (bD _),k1.aP km o1 (bD _),k2.aP km o2 (bD _),k3.aP km o3 (bD _)⟩
  have HZ:Hid (∀ W,aQ o W G g { s with H:=s.H.dX a i 0 } m none nv->aj (In o (aT m.id)) w W->Calls ay 189 #[ak g.M,.agg #[ah ok,ah oa,ah ob,ah oc],ah (a:Int),ah ((i:Int)+1)] W fun e w'=>∃ fn caps,e = .returned (.func (.func fn) #[] caps)/\aG o w G g nv m.id (stepM s m (.zero ⟨ok,oa,ob,oc⟩ a i)) (.returned (.func (.func fn) #[] caps)) w'\/e = .returned .nilFunc/\aG o w G g nv m.id (stepM s m (.zero ⟨ok,oa,ob,oc⟩ a i)) (.returned .nilFunc) w'):=fun W hW hk=>by
   have hz:=ER hW.sh.fK g.Nt g.M ⟨ok,oa,ob,oc⟩ a (i+1)
   rw [show (((i+1:Nat):Nat):Int)=(i:Int)+1 by omega] at hz
   rw [e1]
   exact aG.made (r:=⟨{ s with H:=s.H.dX a i 0 },m,.zero ⟨ok,oa,ob,oc⟩ a (i+1),none⟩) hW hk hz rfl
  have d0:((i:Int)==ob)=false:=by simpa using hib
  have UQ:(i:Int)<=1000:=by omega
  generalize stepM s m (.zero ⟨ok,oa,ob,oc⟩ a i)=R at *
  generalize { s with H:=s.H.dX a i 0 }=s' at *
  generalize m.id=mi at *
  clear h hcap hbs hkd hd k0 k1 k2 k3 o0 o1 o2 o3 hib h0 hr hres e1
  go_enter func201,ntmps201
  go_wp2_with fail
  refine aN 9 rfl (by kernel_rfl) (by kernel_rfl) (fun K hK=>?_)
  change wpStill _ _ (abx _) _ _ _
  simp only [List.take_succ_cons,aby,abz,abt] at hK ⊢
  repeat still_step
  refine wpStill_nil ?_
  change ite _ (Oper.wp _ _ _ _ _ _) _
  go_simp
  refine HF.out.mono ?_
  rintro e w1 ⟨⟨er,rfl⟩,g1,g2,g6,g3,g4,g5⟩
  refine hK _ _ ?_
  clear hK K
  have H1:=au g1
  have K1:=au g2
  clear g1 g2 c0 c1 c2 c3 m0 s0 m13
  repeat still_step
  refine wpStill_nil ?_
  have c0:=g6.cell 0 rfl
  have p0:=g3.cell 0 rfl;have p1:=g3.cell 1 rfl;have p2:=g3.cell 2 rfl;have p3:=g3.cell 3 rfl
  have c2:w1.cell? ⟨b2,0,none⟩=some (ak g.M):=g4.cell 0 rfl
  have c3:=g5.cell 0 rfl
  clear g3 g4 g5 g6
  go_wp2_with fail
  refine (HZ.out _ H1.out K1.out).mono ?_
  rintro e w2 ⟨fn,caps,⟨rfl,hp⟩|⟨rfl,hp⟩⟩
  all_goals
   have HP:=au hp
   clear hp c0 c2 c3 p0 p1 p2 p3
   go_wp2_with fail
   go_ret
   exact HP.out
end
end
end Go.Proofs.YtobfpmijbfgmeabGreatDoor
