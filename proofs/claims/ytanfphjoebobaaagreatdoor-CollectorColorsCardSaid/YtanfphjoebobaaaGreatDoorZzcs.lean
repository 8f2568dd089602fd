/- Parts of a walk, put together and made shorter by a program of mine. No conditions. -/
import Derived.Test.YtanfphjoebobaaaGreatDoorZzcr
import Derived.Test.YtanfphjoebobaaaGreatDoorZzcg
namespace Go.Proofs.YtanfphjoebobaaaGreatDoor
set_option maxRecDepth 4000
set_option maxHeartbeats 4000000
section
attribute [local go_sem] Oper.semAt_some
open Go.RowKit
section
variable {o:Ow} {w w':World} {G:Geo} {g:MG} {s:Sh} {m:MS} {nv:Value}
def DoesM (o:Ow) (w:World) (G:Geo) (g:MG) (s:Sh) (i:Nat) (m':MS) (nv v:Value):Prop :=
 ∃ fn caps,v = .func (.func fn) #[] caps∧(∀ args w,(callFunc fn args).run Tryz.prog w = .ok (.enter fn args) w)∧Calls Tryz.prog fn caps w fun e w'=>e = .returned (.tuple #[])∧MAt o w' G g s m' none nv∧Keep (In o (bg i)) w w'
theorem Px (h:MAt o w G g s m none nv) (v:Value) (hv:Clo o w 132 [] v):DoesM o w G g s m.id m nv v:=by
 obtain ⟨bs,rfl,hcap⟩:=hv
 have:bs=[]:=hcap
 subst this
 refine ⟨_,_,rfl,fun args w=>(by simp [callFunc,Tryz.func132,go_sem];rfl),?_⟩
 show Calls Tryz.prog 132 #[] w _
 have H:=Lib.hid h
 clear h hcap
 go_enter Tryz.func132,Tryz.ntmps132
 go_wp2_with fail
 go_end0
 exact ⟨rfl,H.out,Keep.refl _ _⟩
theorem Py (h:MAt o w G g s m none nv) (v:Value) (hv:Clo o w 137 [([ah g.M],56)] v):DoesM o w G g s m.id (dZ m 5) nv v:=by
 obtain ⟨bs,rfl,b0,r0,rfl,o0,k0,rfl⟩:=hv
 refine ⟨_,_,rfl,fun args w=>(by simp [callFunc,Tryz.func137,go_sem];rfl),?_⟩
 show Calls Tryz.prog 137 #[.pointer (some ⟨b0,0,none⟩)] w _
 have c0:w.cell? ⟨b0,0,none⟩=some (.pointer (some ⟨g.M,0,none⟩)):=k0.cell 0 rfl
 have c12:=h.c12
 have f12:=h.free 12
 obtain ⟨h1,kk⟩:=h.put 12 (.int .i64 1) { m with mode:=1 } none nv (fun _ _=>rfl) ⟨rfl,rfl,rfl,rfl,rfl,rfl⟩
 have HE:Hid (MAt o (w.setCell ⟨g.M,12,none⟩ (.int .i64 1)) G g s (dZ m 5) none nv∧Keep (In o (bg m.id)) w (w.setCell ⟨g.M,12,none⟩ (.int .i64 1))):=⟨h1,kk.iI (by simp [bg])⟩
 generalize dZ m 5=m' at *
 generalize m.id=mi at *
 clear h h1 kk k0
 go_enter Tryz.func137,Tryz.ntmps137
 go_wp2_with fail
 go_end0
 exact ⟨rfl,HE.out.1,HE.out.2⟩
theorem Pz (h:MAt o w G g s m none nv) (v:Value) (k:Int) (hk:k≠1∧k≠2∧k≠3∧k≠5) (hv:Clo o w 138 [([ah g.M],56)] v):DoesM o w G g s m.id (dZ m k) nv v:=by
 obtain ⟨bs,rfl,b0,r0,rfl,o0,k0,rfl⟩:=hv
 refine ⟨_,_,rfl,fun args w=>(by simp [callFunc,Tryz.func138,go_sem];rfl),?_⟩
 show Calls Tryz.prog 138 #[.pointer (some ⟨b0,0,none⟩)] w _
 have c0:w.cell? ⟨b0,0,none⟩=some (.pointer (some ⟨g.M,0,none⟩)):=k0.cell 0 rfl
 have m10:w.cell? ⟨g.M,10,none⟩=some (.pointer (some ⟨g.Bf,0,none⟩)):=h.cell 10 _ (fun _ _=>rfl)
 have e1:dZ m k={ m with buf:=[],mode:=0 }:=by unfold dZ;rw [if_neg hk.1,if_neg hk.2.1,if_neg hk.2.2.1,if_neg hk.2.2.2]
 rw [e1]
 have HC:Hid (Calls Tryz.prog 131 #[.pointer (some ⟨g.Bf,0,none⟩)] w fun e w'=>e = .returned (.tuple #[])∧w'.cell? ⟨b0,0,none⟩=some (.pointer (some ⟨g.M,0,none⟩))∧w'.frozen? ⟨g.M,12,none⟩=false∧w'.cell? ⟨g.M,12,none⟩=some (.int .i64 (m.mode:Int))∧Hid (MAt o (w'.setCell ⟨g.M,12,none⟩ (.int .i64 0)) G g s { m with buf:=[],mode:=0 } none nv∧Keep (In o (bg m.id)) w (w'.setCell ⟨g.M,12,none⟩ (.int .i64 0)))):=by
  refine (rO h.buf).mono ?_
  rintro e w' ⟨rfl,hb,kk⟩
  have hcl:=h.cl
  obtain ⟨h1,k1⟩:=h.zh kk hb (by simp;omega)
  obtain ⟨h2,k2⟩:=h1.put 12 (.int .i64 0) { m with buf:=[],mode:=0 } none nv (fun _ _=>rfl) ⟨rfl,rfl,rfl,rfl,rfl,rfl⟩
  exact ⟨rfl,(k0.ay k1 o0 (by simp<;>omega)).cell 0 rfl,h1.free 12,h1.c12,h2,(k1.trans k2).iI (by simp [bg])⟩
 generalize ({ m with buf:=[],mode:=0 }:MS)=m' at *
 generalize m.mode=mo at *
 generalize m.id=mi at *
 clear h k0 e1 hk
 go_enter Tryz.func138,Tryz.ntmps138
 go_wp2_with fail
 refine HC.out.mono ?_
 rintro e w1 ⟨rfl,d0,d1,d2,hx⟩
 clear c0 m10 HC
 go_wp2_with fail
 go_end0
 exact ⟨rfl,hx.out.1,hx.out.2⟩
theorem PD (h:MAt o w G g s m none nv) (v:Value) (hv:Clo o w 133 [([ah g.M],56)] v):DoesM o w G g s m.id (dZ m 3) nv v:=by
 obtain ⟨bs,rfl,b0,r0,rfl,o0,k0,rfl⟩:=hv
 refine ⟨_,_,rfl,fun args w=>(by simp [callFunc,Tryz.func133,go_sem];rfl),?_⟩
 show Calls Tryz.prog 133 #[.pointer (some ⟨b0,0,none⟩)] w _
 have c0:w.cell? ⟨b0,0,none⟩=some (.pointer (some ⟨g.M,0,none⟩)):=k0.cell 0 rfl
 have c14:=h.c14
 have c13:w.cell? ⟨g.M,13,none⟩=some (.int .i64 (m.color:Int)):=h.cell 13 _ (fun _ _=>rfl)
 have f13:=h.free 13
 have hkd:Keep none_ w w.drew:=(Keep.refl none_ w).drew
 obtain ⟨h1,kk⟩:=(h.still hkd).put 13 (.int .i64 (m.want:Int)) { m with color:=m.want } none nv (fun _ _=>rfl) ⟨rfl,rfl,rfl,rfl,rfl,rfl⟩
 have HE:Hid (MAt o (w.drew.setCell ⟨g.M,13,none⟩ (.int .i64 (m.want:Int))) G g s (dZ m 3) none nv∧Keep (In o (bg m.id)) w (w.drew.setCell ⟨g.M,13,none⟩ (.int .i64 (m.want:Int)))):=⟨h1,hkd.aF.trans (kk.iI (by simp [bg]))⟩
 generalize dZ m 3=m' at *
 generalize m.want=mw at *
 generalize m.color=mc at *
 generalize m.id=mi at *
 clear h h1 kk k0 hkd
 go_enter Tryz.func133,Tryz.ntmps133
 go_wp2_with fail
 go_region
 go_wp2_with fail
 go_end0
 exact ⟨rfl,HE.out.1,HE.out.2⟩
theorem PE (h:MAt o w G g s m none nv) (v:Value) (gU:m.color<2) (hv:Clo o w 130 [([ah g.M],56)] v):DoesM o w G g s m.id (dZ m 1) nv v:=by
 obtain ⟨bs,rfl,b0,r0,rfl,o0,k0,rfl⟩:=hv
 refine ⟨_,_,rfl,fun args w=>(by simp [callFunc,Tryz.func130,go_sem];rfl),?_⟩
 show Calls Tryz.prog 130 #[.pointer (some ⟨b0,0,none⟩)] w _
 have c0:w.cell? ⟨b0,0,none⟩=some (.pointer (some ⟨g.M,0,none⟩)):=k0.cell 0 rfl
 have m10:w.cell? ⟨g.M,10,none⟩=some (.pointer (some ⟨g.Bf,0,none⟩)):=h.cell 10 _ (fun _ _=>rfl)
 have e1:dZ m 1={ m with buf:=[],mode:=2,want:=1 - m.color }:=rfl
 have hsub:((1 - m.color:Nat):Int)=1 - (m.color:Int):=by omega
 have HC:Hid (Calls Tryz.prog 131 #[.pointer (some ⟨g.Bf,0,none⟩)] w fun e w'=>e = .returned (.tuple #[])∧w'.cell? ⟨b0,0,none⟩=some (.pointer (some ⟨g.M,0,none⟩))∧w'.frozen? ⟨g.M,12,none⟩=false∧w'.frozen? ⟨g.M,14,none⟩=false∧w'.cell? ⟨g.M,12,none⟩=some (.int .i64 (m.mode:Int))∧w'.cell? ⟨g.M,13,none⟩=some (.int .i64 (m.color:Int))∧w'.cell? ⟨g.M,14,none⟩=some (.int .i64 (m.want:Int))∧Hid (MAt o ((w'.setCell ⟨g.M,12,none⟩ (.int .i64 2)).setCell ⟨g.M,14,none⟩ (.int .i64 (1 - (m.color:Int)))).drew G g s (dZ m 1) none nv∧Keep (In o (bg m.id)) w ((w'.setCell ⟨g.M,12,none⟩ (.int .i64 2)).setCell ⟨g.M,14,none⟩ (.int .i64 (1 - (m.color:Int)))).drew)):=by
  refine (rO h.buf).mono ?_
  rintro e w' ⟨rfl,hb,kk⟩
  have hcl:=h.cl
  obtain ⟨h1,k1⟩:=h.zh kk hb (by simp;omega)
  obtain ⟨h2,k2⟩:=h1.put 12 (.int .i64 2) { m with buf:=[],mode:=2 } none nv (fun _ _=>rfl) ⟨rfl,rfl,rfl,rfl,rfl,rfl⟩
  obtain ⟨h3,k3⟩:=h2.put 14 (.int .i64 ((1 - m.color:Nat):Int)) { m with buf:=[],mode:=2,want:=1 - m.color } none nv (fun _ _=>rfl) ⟨rfl,rfl,rfl,rfl,rfl,rfl⟩
  rw [hsub] at h3 k3
  have hkd:Keep none_ ((w'.setCell ⟨g.M,12,none⟩ (.int .i64 2)).setCell ⟨g.M,14,none⟩ (.int .i64 (1 - (m.color:Int)))) ((w'.setCell ⟨g.M,12,none⟩ (.int .i64 2)).setCell ⟨g.M,14,none⟩ (.int .i64 (1 - (m.color:Int)))).drew:=(Keep.refl none_ _).drew
  exact ⟨rfl,(k0.ay k1 o0 (by simp<;>omega)).cell 0 rfl,h1.free 12,h1.free 14,h1.c12,h1.cell 13 _ (fun _ _=>rfl),h1.c14,h3.still hkd,((k1.iI (by simp [bg])).trans ((k2.trans k3).iI (by simp [bg]))).trans hkd.aF⟩
 have hw1:IntKind.i64.wrap (1 - (m.color:Int))=1 - (m.color:Int):=IntWalk.i64_in _ (by omega)
 clear e1 hsub gU
 generalize dZ m 1=m' at *
 generalize m.mode=mo at *
 generalize m.want=mw at *
 generalize hmc:(m.color:Int)=mc at *
 generalize m.id=mi at *
 clear h k0 hmc
 go_enter Tryz.func130,Tryz.ntmps130
 go_wp2_with fail
 refine HC.out.mono ?_
 rintro e w1 ⟨rfl,d0,d1,d2,d3,d4,d5,hx⟩
 clear c0 m10 HC
 go_wp2_with fail
 go_region
 go_end0
 exact ⟨rfl,hx.out.1,hx.out.2⟩
end
section
variable {o:Ow} {w w':World} {G:Geo} {g:MG} {s:Sh} {m:MS} {nv:Value}
theorem MAt.nT {ev:Option Ev} {B:Bd} (h:MAt o w G g s m ev nv) (k:Keep (only G.B) w w') (hB:eX w' G.B B):MAt o w' G g { s with B:=B } m ev nv∧Keep (In o (bg m.id)) w w':=by
 obtain ⟨h1,k1⟩:=h.sh.nT k hB
 exact ⟨h.share k1 rfl (by simp<;>omega) h1 rfl rfl,k1.iI (by simp [bg])⟩
theorem Nc (m':MS) (hid:m'.id=m.id) (dv lv:Value) (hl:DoesM o w G g s m.id m' nv lv) (hv:Clo o w 128 [([lv],1),([ah g.M],56)] dv):∃ fn caps,dv = .func (.func fn) #[] caps∧(∀ args w,(callFunc fn args).run Tryz.prog w = .ok (.enter fn args) w)∧Calls Tryz.prog fn caps w fun e w'=>e = .returned (.tuple #[])∧MAt o w' G g { s with B:=s.B.gu m.id } m' none nv∧Keep (In o (bg m.id)) w w':=by
 obtain ⟨bs,rfl,hcap⟩:=hv
 obtain ⟨b0,b1,rfl,⟨o0,k0⟩,⟨o1,k1⟩⟩:=caps2 hcap
 refine ⟨_,_,rfl,fun args w=>(by simp [callFunc,Tryz.func128,go_sem];rfl),?_⟩
 obtain ⟨fl,cl,rfl,hfl,hrun⟩:=hl
 show Calls Tryz.prog 128 #[.pointer (some ⟨b0,0,none⟩),.pointer (some ⟨b1,0,none⟩)] w _
 have c0:=k0.cell 0 rfl
 have HL:Hid (Calls Tryz.prog fl cl w fun e w'=>e = .returned (.tuple #[])∧w'.cell? ⟨b1,0,none⟩=some (.pointer (some ⟨g.M,0,none⟩))∧w'.cell? ⟨g.M,0,none⟩=some (.pointer (some ⟨G.S,0,none⟩))∧w'.cell? ⟨G.S,1,none⟩=some (.pointer (some ⟨G.B,0,none⟩))∧w'.cell? ⟨g.M,8,none⟩=some (.int .i64 (m.id:Int)) ∧
  Hid (Calls Tryz.prog 129 #[.pointer (some ⟨G.B,0,none⟩),.int .i64 (m.id:Int)] w'.drew fun e w2=>(∃ er:Int,e = .returned (.int .i64 er))∧MAt o w2 G g { s with B:=s.B.gu m.id } m' none nv∧Keep (In o (bg m.id)) w w2)):=by
  refine hrun.mono ?_
  rintro e w' ⟨rfl,h1,kk⟩
  refine ⟨rfl,(k1.ay kk o1 (je _)).cell 0 rfl,h1.m0,h1.s0.2.1,by rw [← hid];exact h1.c8,?_⟩
  have hkd:Keep none_ w' w'.drew:=(Keep.refl none_ w').drew
  have hd:=h1.still hkd
  refine (Dk G.B s.B (m.id:Int) w'.drew hd.sh.board).mono ?_
  rintro e w2 ⟨rfl,hb,k2⟩
  obtain ⟨h3,k3⟩:=hd.nT k2 hb
  rw [hid] at k3
  exact ⟨⟨_,rfl⟩,h3,kk.trans (hkd.aF.trans k3)⟩
 generalize ({ s with B:=s.B.gu m.id }:Sh)=s' at *
 generalize m.id=mi at *
 clear hrun hcap k0 k1 hid
 go_enter Tryz.func128,Tryz.ntmps128
 go_wp2_with fail
 refine HL.out.mono ?_
 rintro e w1 ⟨rfl,d0,d1,d2,d3,hx⟩
 clear c0 HL
 go_wp2_with fail
 refine aA 11 rfl (by kernel_rfl) (by kernel_rfl) (fun K hK=>?_)
 change wpStill _ _ (World.drew _) _ _ _
 simp only [List.take_succ_cons,List.take_zero,List.drop_succ_cons,List.drop_zero] at hK ⊢
 repeat still_step
 refine wpStill_nil ?_
 change ite _ (Oper.wp _ _ _ _ _ _) _
 go_simp
 refine hx.out.mono ?_
 rintro e w2 ⟨⟨er,rfl⟩,g1,g2⟩
 refine hK _ _ ?_
 clear hK K
 have H1:=Lib.hid (And.intro g1 g2)
 clear g1 g2 d0 d1 d2 d3 hx
 repeat still_step
 refine wpStill_nil ?_
 go_end0
 exact ⟨rfl,H1.out.1,H1.out.2⟩
theorem PG (m:MS) (k:Int):(dZ m k).id=m.id:=by
 unfold dZ
 split
 ·rfl
 split
 ·rfl
 split
 ·rfl
 split<;>rfl
theorem JO (h:MAt o w G g s m none nv) (k:Int) (v:Value) (hv:bH o w g.Nt g.M (.once k) v) (gU:m.color<2):∃ bs:List Nat,v = .func (.func 169) #[] (bs.map ah).toArray∧Calls Tryz.prog 169 (bs.map ah).toArray w (aG o w G g nv m.id (stepM s m (.once k))):=by
 obtain ⟨dv,⟨bs,hbs,hcap⟩,hk⟩:=hv
 refine ⟨bs,hbs,?_⟩
 obtain ⟨b0,r0,rfl,o0,k0,rfl⟩:=hcap
 have hd:∃ lv,Clo o w 128 [([lv],1),([ah g.M],56)] dv∧DoesM o w G g s m.id (dZ m k) nv lv:=by
  by_cases h1:k=1
  ·subst h1
   rw [if_pos rfl] at hk
   obtain ⟨lv,h1,h2⟩:=hk
   exact ⟨lv,h1,PE h lv gU h2⟩
  rw [if_neg h1] at hk
  by_cases h2:k=2
  ·subst h2
   rw [if_pos rfl] at hk
   obtain ⟨lv,h1,h2⟩:=hk
   exact ⟨lv,h1,Px h lv h2⟩
  rw [if_neg h2] at hk
  by_cases h3:k=3
  ·subst h3
   rw [if_pos rfl] at hk
   obtain ⟨lv,h1,h2⟩:=hk
   exact ⟨lv,h1,PD h lv h2⟩
  rw [if_neg h3] at hk
  by_cases h5:k=5
  ·subst h5
   rw [if_pos rfl] at hk
   obtain ⟨lv,h1,h2⟩:=hk
   exact ⟨lv,h1,Py h lv h2⟩
  rw [if_neg h5] at hk
  obtain ⟨lv,h6,h7⟩:=hk
  exact ⟨lv,h6,Pz h lv k ⟨h1,h2,h3,h5⟩ h7⟩
 obtain ⟨lv,hc,hl⟩:=hd
 obtain ⟨fn,caps,rfl,hfn,hrun⟩:=Nc (dZ m k) (PG m k) dv lv hl hc
 have c0:=k0.cell 0 rfl
 show Calls Tryz.prog 169 #[.pointer (some ⟨b0,0,none⟩)] w _
 have HR:Hid (Calls Tryz.prog fn caps w fun e w'=>e = .returned (.tuple #[])∧aG o w G g nv m.id (stepM s m (.once k)) (.returned .nilFunc) w'):=by
  refine hrun.mono ?_
  rintro e w' ⟨rfl,h1,k1⟩
  exact ⟨rfl,aG.same (r:=⟨{ s with B:=s.B.gu m.id },dZ m k,.nil,none⟩) h1 rfl k1⟩
 have hneq:∀ w,(binOp .neq 1 (.func (.func fn) #[] caps) .nilFunc).run Tryz.prog w = .ok (.bool true) w:=fun w=>by first|rfl|(simp [binOp,go_sem];done)|(simp [binOp,go_sem];rfl)
 generalize stepM s m (.once k)=R at *
 generalize m.id=mi at *
 clear h hk hc hl hrun k0 o0 hbs
 go_enter Tryz.func169,Tryz.ntmps169
 go_wp2_with fail
 refine HR.out.mono ?_
 rintro e w1 ⟨rfl,hp⟩
 have HP:=Lib.hid hp
 clear hp c0 HR
 go_wp2_with fail
 go_ret
 exact HP.out
end
end
section
open Go.RowKit
theorem Ah:∀ args w,(callFunc 92 args).run Tryz.prog w = .ok (.enter 92 args) w:=fun args w=>by simp [callFunc,Tryz.func92,go_sem];rfl
theorem EL:∀ args w,(callFunc 230 args).run Tryz.prog w = .ok (.enter 230 args) w:=fun args w=>by simp [callFunc,Tryz.func230,go_sem];rfl
theorem zl:∀ args w,(callFunc 171 args).run Tryz.prog w = .ok (.enter 171 args) w:=fun args w=>by simp [callFunc,Tryz.func171,go_sem];rfl
theorem zo:∀ args w,(callFunc 173 args).run Tryz.prog w = .ok (.enter 173 args) w:=fun args w=>by simp [callFunc,Tryz.func173,go_sem];rfl
theorem zq:∀ args w,(callFunc 176 args).run Tryz.prog w = .ok (.enter 176 args) w:=fun args w=>by simp [callFunc,Tryz.func176,go_sem];rfl
theorem yg:∀ args w,(callFunc 214 args).run Tryz.prog w = .ok (.enter 214 args) w:=fun args w=>by simp [callFunc,Tryz.func214,go_sem];rfl
theorem vC:∀ args w,(callFunc 217 args).run Tryz.prog w = .ok (.enter 217 args) w:=fun args w=>by simp [callFunc,Tryz.func217,go_sem];rfl
theorem Ai:∀ args w,(callFunc 169 args).run Tryz.prog w = .ok (.enter 169 args) w:=fun args w=>by simp [callFunc,Tryz.func169,go_sem];rfl
section
variable {o:Ow} {w w':World} {G:Geo} {g:MG} {s:Sh} {m:MS} {nv:Value} {ev:Option Ev} {N:Nat}
def wL (d:MD):Prop:=∀ {o:Ow} {w:World} {G:Geo} {g:MG} {s:Sh} {m:MS} {nv:Value} {N:Nat},MAt o w G g s m none nv→Sok N s m→N≤1000000000→jT m.regs.length d→∀ v:Value,iD o w (G.D 0) (g.Nt,g.M) (30+m.id) d v→isNil d=false →
 ∃ fn,∃ bs:List Nat,v = .func (.func fn) #[] (bs.map ah).toArray∧(∀ args w,(callFunc fn args).run Tryz.prog w = .ok (.enter fn args) w)∧Calls Tryz.prog fn (bs.map ah).toArray w (aG o w G g nv m.id (stepM s m d))
theorem MAt.withNext (h:MAt o w G g s m ev nv) (d:MD):MAt o w G g s { m with next:=d } ev nv :=
 ⟨h.sh,h.blk,h.oM,h.regs,h.oX,h.buf,h.oBf,h.nt,h.oNt,h.idl,h.box8,h.conf,h.rlen,h.qF⟩
def jf (o:Ow) (w:World) (G:Geo) (g:MG) (s:Sh) (m:MS):Prop:=∃ ev nv,MAt o w G g s m ev nv∧iD o w (G.D 0) (g.Nt,g.M) (30+m.id) m.next nv
end
end
section
attribute [local go_sem] Oper.semAt_some
open Go.RowKit
section
variable {o o':Ow} {w w':World} {G:Geo} {g:MG} {s:Sh} {m:MS} {nv:Value} {ev:Option Ev}
theorem iD.ay {D0 q:Nat} {gg:Nat × Nat} {d:MD} {v:Value} {I:List Nat} (h:iD o w D0 gg q d v) (k:Keep (In o I) w w') (h0:I.contains 0=false) (hq:I.contains q=false):iD o w' D0 gg q d v:=by
 cases d with
 | sweep sl c t =>
   obtain ⟨cv,tv,h1,h2,h3⟩:=h
   exact ⟨cv,tv,h1.ay k h0 hq,h2.ay k h0,h3.keep k (fun b hb=>aU hb h0)⟩
 | _=>exact iD.of (bH.ay (o:=o) (Nt:=gg.1) (M:=gg.2) h k h0)
theorem iD.ext {D0 q:Nat} {gg:Nat × Nat} {d:MD} {v:Value} (h:iD o w D0 gg q d v) (e:aH w o o'):iD o' w D0 gg q d v:=by
 cases d with
 | sweep sl c t =>
   obtain ⟨cv,tv,h1,h2,h3⟩:=h
   exact ⟨cv,tv,h1.ext e,bH.ext e h2,h3.ext e⟩
 | _=>exact iD.of (bH.ext (o:=o) (Nt:=gg.1) (M:=gg.2) e h)
theorem iD.form2 {D0 q:Nat} {gg:Nat × Nat} {d:MD} {v:Value} (h:iD o w D0 gg q d v):(isNil d=true∧v = .nilFunc)∨(isNil d=false∧∃ fn caps,v = .func (.func fn) #[] caps):=by
 cases d with
 | nil=>exact .inl ⟨rfl,h⟩
 | sweep sl c t =>
   obtain ⟨cv,tv,h1,h2,bs,rfl,_⟩:=h
   exact .inr ⟨rfl,_,_,rfl⟩
 | _=>exact .inr ⟨rfl,bH.Pv (o:=o) (Nt:=gg.1) (M:=gg.2) h rfl⟩
def lC:Option Ev→Value
 | none => .agg #[.int .i64 0,.int .i64 0,.int .i64 0,.int .i64 0,.int .i64 0,.int .i64 0]
 | some e => .agg #[.int .i64 0,.int .i64 (e.who:Int),.int .i64 (e.kind:Int),.int .i64 (e.op:Int),.int .i64 e.code,.int .i64 (e.value:Int)]
def jQ (ev:Option Ev):Value := .bool ev.isSome
abbrev zero6:Array Value:=#[.int .i64 0,.int .i64 0,.int .i64 0,.int .i64 0,.int .i64 0,.int .i64 0]
def qH (w:World) (M:Nat):World:=((((((w.setCell ⟨M,23,none⟩ (.int .i64 0)).setCell ⟨M,24,none⟩ (.int .i64 0)).setCell ⟨M,25,none⟩ (.int .i64 0)).setCell ⟨M,26,none⟩ (.int .i64 0)).setCell ⟨M,27,none⟩ (.int .i64 0)).setCell ⟨M,28,none⟩ (.int .i64 0)).setCell ⟨M,29,none⟩ (.bool false)
theorem MAt.EM (h:MAt o w G g s m ev nv):MAt o (qH w g.M) G g s m none nv∧Keep (In o [20+m.id]) w (qH w g.M):=by
 have k:Keep (only g.M) w (qH w g.M):=(((((((Keep.refl _ _).put _ _).put _ _).put _ _).put _ _).put _ _).put _ _).put _ _
 exact h.struct k m none nv (fun pv rv hb=>by
  have:=((((((hb.set 23 (.int .i64 0)).set 24 (.int .i64 0)).set 25 (.int .i64 0)).set 26 (.int .i64 0)).set 27 (.int .i64 0)).set 28 (.int .i64 0)).set 29 (.bool false)
  obtain ⟨a,b,c,d,e,f,t,he⟩:=wK ev
  unfold jP at this ⊢
  rw [he] at this
  exact this) ⟨rfl,rfl,rfl,rfl,rfl,rfl⟩
theorem MAt.pick0 (h:MAt o w G g s m ev nv) {d:MD} (hn:iD o w (G.D 0) (g.Nt,g.M) (30+m.id) d nv):∃ o1 W2,W2=(qH (w.alloc (.cells zero6 37)) g.M).setCell ⟨g.M,19,none⟩ (.int .i64 ((m.spent:Int)+1))∧aH w o o1∧o1 w.heap.size=99 ∧
 MAt o1 W2 G g s { m with spent:=m.spent+1 } none nv∧iD o1 W2 (G.D 0) (g.Nt,g.M) (30+m.id) d nv∧Keep (In o (bg m.id)) w W2∧Blk W2 w.heap.size zero6.toList 37:=by
 obtain ⟨W0,hW0⟩:∃ W0,W0=w.alloc (.cells zero6 37):=⟨_,rfl⟩
 have k0:Keep none_ w W0:=by rw [hW0];exact (Keep.refl _ _).alloc _
 have hR:Blk W0 w.heap.size zero6.toList 37:=by rw [hW0];exact Blk.new w _ _
 have e0:W0.heap.size=w.heap.size+1:=by rw [hW0];simp
 obtain ⟨o1,ho1⟩:∃ o1,o1=o.put w.heap.size 99:=⟨_,rfl⟩
 have hext:aH w o o1:=by rw [ho1];exact Ow.iM (.inl (Nat.le_refl _))
 have hR1:o1 w.heap.size=99:=by rw [ho1];exact Ow.jB _ _ _
 have hf1:Fut o1 W0:=by rw [ho1];exact Ow.kD h.sh.fut k0.size (by omega)
 have h0:MAt o1 W0 G g s m ev nv:=h.qV k0 hext hf1
 have n0:iD o1 W0 (G.D 0) (g.Nt,g.M) (30+m.id) d nv:=(hn.ext hext).ay (I:=[]) k0.aF rfl rfl
 obtain ⟨h1,k1⟩:=h0.EM
 obtain ⟨h2,k2⟩:=h1.put 19 (.int .i64 ((m.spent:Int)+1)) { m with spent:=m.spent+1 } none nv (fun pv rv=>rfl) ⟨rfl,rfl,rfl,rfl,rfl,rfl⟩
 have i8:m.id<8:=Nat.lt_of_lt_of_le h.idl h.box8
 refine ⟨o1,_,by rw [hW0],hext,hR1,h2,?_,?_,?_⟩
 ·exact (n0.ay k1 (by simp<;>omega) (by simp<;>omega)).ay k2 (by simp<;>omega) (by simp<;>omega)
 ·refine (k0.aF (o:=o) (I:=bg m.id)).trans' (k1.trans k2) (fun i hi hin=>?_)
  unfold In at hin ⊢
  rw [hext i hi] at hin
  simp at hin
  simp [bg,hin]
 ·exact (hR.ay k1 hR1 (by simp<;>omega)).ay k2 hR1 (by simp<;>omega)
theorem MAt.wM {R:Nat} (h:MAt o w G g s m ev nv) {d:MD} {v:Value} (hn:iD o w (G.D 0) (g.Nt,g.M) (30+m.id) d v) (k:Keep (only R) w w') (hR:o R=99):MAt o w' G g s m ev nv∧iD o w' (G.D 0) (g.Nt,g.M) (30+m.id) d v:=by
 have i8:m.id<8:=Nat.lt_of_lt_of_le h.idl h.box8
 have k1:Keep (In o [99]) w w':=k.mD hR rfl
 exact ⟨h.share k1 rfl (by simp<;>omega) (h.sh.ay k1 rfl h.box8) rfl rfl,hn.ay k1 rfl (by simp<;>omega)⟩
theorem PI (fn:Nat) (caps:Array Value):∀ w,(binOp .eql 88 (.func (.func fn) #[] caps) .nilFunc).run Tryz.prog w = .ok (.bool false) w:=fun w=>by first|rfl|(simp [binOp,go_sem];done)|(simp [binOp,go_sem];rfl)
theorem Rn:∀ w,(binOp .eql 88 .nilFunc .nilFunc).run Tryz.prog w = .ok (.bool true) w:=fun w=>by first|rfl|(simp [binOp,go_sem];done)|(simp [binOp,go_sem];rfl)
end
end
section
open Go.RowKit
abbrev bnd (fn C:Nat):Value := .func (.func fn) #[ah C] #[]
def aO (o:Ow) (w:World) (C:Nat):CD→Value→Prop
 | .nil,v=>v = .nilFunc
 | .wait m t,v=>∃ tv,aO o w C t tv∧Clo o w 166 [([ah C],30),([.int .i64 (m:Int)],3),([tv],88)] v
 | .arm,v=>Clo o w 81 [([ah C],30)] v
 | .scan,v=>v=bnd 82 C
 | .trace,v=>v=bnd 122 C
 | .work,v=>v=bnd 208 C
 | .over,v=>v=bnd 260 C
 | .drain,v=>v=bnd 283 C
 | .marked,v=>v=bnd 284 C
 | .sweep,v=>v=bnd 292 C
 | .rests,v=>v=bnd 297 C
 | .off,v=>Clo o w 300 [([ah C],30)] v
 | .idle,v=>v=bnd 301 C
 | .look x t,v=>∃ tv,aO o w C t tv∧Clo o w 244 [([ah C],30),([.int .i64 (x:Int)],3),([tv],88)] v
 | .cell i,v=>Clo o w 209 [([ah C],30),([.int .i64 (i:Int)],3)] v
 | .object a t,v=>∃ tv,aO o w C t tv∧Clo o w 256 [([ah C],30),([.int .i64 (a:Int)],3),([tv],88)] v
 | .field a i n t,v=>∃ tv,aO o w C t tv∧Clo o w 271 [([ah C],30),([.int .i64 (a:Int)],3),([.int .i64 (i:Int)],3),([.int .i64 (n:Int)],3),([tv],88)] v
 | .box m,v=>Clo o w 258 [([ah C],30),([.int .i64 (m:Int)],3)] v
 | .walk b,v=>Clo o w 285 [([ah C],30),([.int .i64 (b:Int)],3)] v
 | .slots l t,v=>∃ tv lv,aO o w C t tv∧aV o w 3 lv (aC l)∧Clo o w 290 [([ah C],30),([lv],32),([tv],88)] v
 | .empty t,v=>∃ tv,aO o w C t tv∧Clo o w 295 [([ah C],30),([tv],88)] v
 | .enqueue b,v=>Clo o w 293 [([ah C],30),([.int .i64 (b:Int)],3)] v
 | .block _,_=>False
def eG (o:Ow) (w:World) (D0 C col:Nat):CD→Value→Prop
 | .block sl,v=>∃ cv,fQ o w D0 40 cv sl col∧Clo o w 302 [([cv],260),([ah C],30)] v
 | d,v=>aO o w C d v
theorem eG.of {o:Ow} {w:World} {D0 C col:Nat} {d:CD} {v:Value} (h:aO o w C d v):eG o w D0 C col d v:=by
 cases d<;>first|exact h|exact h.elim
section
variable {o o':Ow} {w w':World} {C:Nat}
theorem aO.keep {S:Nat→Prop} (k:Keep S w w') (h0:∀ b,o b=0→¬ S b):∀ {d:CD} {v:Value},aO o w C d v→aO o w' C d v:=by
 intro d
 induction d with
 | wait m t ih=>intro v h;obtain ⟨tv,h1,h2⟩:=h;exact ⟨tv,ih h1,h2.keep k h0⟩
 | arm=>intro v h;exact Clo.keep h k h0
 | off=>intro v h;exact Clo.keep h k h0
 | look x t ih=>intro v h;obtain ⟨tv,h1,h2⟩:=h;exact ⟨tv,ih h1,h2.keep k h0⟩
 | cell i=>intro v h;exact Clo.keep h k h0
 | object a t ih=>intro v h;obtain ⟨tv,h1,h2⟩:=h;exact ⟨tv,ih h1,h2.keep k h0⟩
 | field a i n t ih=>intro v h;obtain ⟨tv,h1,h2⟩:=h;exact ⟨tv,ih h1,h2.keep k h0⟩
 | box m=>intro v h;exact Clo.keep h k h0
 | walk b=>intro v h;exact Clo.keep h k h0
 | enqueue b=>intro v h;exact Clo.keep h k h0
 | slots l t ih=>intro v h;obtain ⟨tv,lv,h1,h2,h3⟩:=h;exact ⟨tv,lv,ih h1,h2.keep k h0,h3.keep k h0⟩
 | empty t ih=>intro v h;obtain ⟨tv,h1,h2⟩:=h;exact ⟨tv,ih h1,h2.keep k h0⟩
 | _=>intro v h;exact h
theorem aO.ay {I:List Nat} {d:CD} {v:Value} (h:aO o w C d v) (k:Keep (In o I) w w') (h0:I.contains 0=false):aO o w' C d v:=aO.keep k (fun b hb=>aU hb h0) h
theorem aO.still {d:CD} {v:Value} (h:aO o w C d v) (k:Keep none_ w w'):aO o w' C d v:=aO.keep k (fun _ _ f=>f) h
theorem aO.ext (e:aH w o o'):∀ {d:CD} {v:Value},aO o w C d v→aO o' w C d v:=by
 intro d
 induction d with
 | wait m t ih=>intro v h;obtain ⟨tv,h1,h2⟩:=h;exact ⟨tv,ih h1,h2.ext e⟩
 | arm=>intro v h;exact Clo.ext h e
 | off=>intro v h;exact Clo.ext h e
 | look x t ih=>intro v h;obtain ⟨tv,h1,h2⟩:=h;exact ⟨tv,ih h1,h2.ext e⟩
 | cell i=>intro v h;exact Clo.ext h e
 | object a t ih=>intro v h;obtain ⟨tv,h1,h2⟩:=h;exact ⟨tv,ih h1,h2.ext e⟩
 | field a i n t ih=>intro v h;obtain ⟨tv,h1,h2⟩:=h;exact ⟨tv,ih h1,h2.ext e⟩
 | box m=>intro v h;exact Clo.ext h e
 | walk b=>intro v h;exact Clo.ext h e
 | enqueue b=>intro v h;exact Clo.ext h e
 | slots l t ih=>intro v h;obtain ⟨tv,lv,h1,h2,h3⟩:=h;exact ⟨tv,lv,ih h1,h2.ext e,h3.ext e⟩
 | empty t ih=>intro v h;obtain ⟨tv,h1,h2⟩:=h;exact ⟨tv,ih h1,h2.ext e⟩
 | _=>intro v h;exact h
theorem aO.form {d:CD} {v:Value} (h:aO o w C d v):(kR d=true∧v = .nilFunc)∨(kR d=false∧∃ fn first caps,v = .func (.func fn) first caps):=by
 cases d with
 | nil=>exact .inl ⟨rfl,h⟩
 | wait m t=>obtain ⟨tv,_,bs,rfl,_⟩:=h;exact .inr ⟨rfl,_,_,_,rfl⟩
 | arm=>obtain ⟨bs,rfl,_⟩:=h;exact .inr ⟨rfl,_,_,_,rfl⟩
 | off=>obtain ⟨bs,rfl,_⟩:=h;exact .inr ⟨rfl,_,_,_,rfl⟩
 | look x t=>obtain ⟨tv,_,bs,rfl,_⟩:=h;exact .inr ⟨rfl,_,_,_,rfl⟩
 | cell i=>obtain ⟨bs,rfl,_⟩:=h;exact .inr ⟨rfl,_,_,_,rfl⟩
 | object a t=>obtain ⟨tv,_,bs,rfl,_⟩:=h;exact .inr ⟨rfl,_,_,_,rfl⟩
 | field a i n t=>obtain ⟨tv,_,bs,rfl,_⟩:=h;exact .inr ⟨rfl,_,_,_,rfl⟩
 | box m=>obtain ⟨bs,rfl,_⟩:=h;exact .inr ⟨rfl,_,_,_,rfl⟩
 | walk b=>obtain ⟨bs,rfl,_⟩:=h;exact .inr ⟨rfl,_,_,_,rfl⟩
 | slots l t=>obtain ⟨tv,lv,_,_,bs,rfl,_⟩:=h;exact .inr ⟨rfl,_,_,_,rfl⟩
 | empty t=>obtain ⟨tv,_,bs,rfl,_⟩:=h;exact .inr ⟨rfl,_,_,_,rfl⟩
 | enqueue b=>obtain ⟨bs,rfl,_⟩:=h;exact .inr ⟨rfl,_,_,_,rfl⟩
 | block sl=>exact h.elim
 | _=>exact .inr ⟨rfl,_,_,_,h⟩
theorem eG.ay {D0 col:Nat} {d:CD} {v:Value} {I:List Nat} (h:eG o w D0 C col d v) (k:Keep (In o I) w w') (h0:I.contains 0=false) (h5:I.contains 40=false):eG o w' D0 C col d v:=by
 cases d with
 | block sl =>
   obtain ⟨cv,h1,h2⟩:=h
   exact ⟨cv,h1.ay k h0 h5,h2.keep k (fun b hb=>aU hb h0)⟩
 | _=>exact eG.of (aO.ay (o:=o) (C:=C) h k h0)
theorem eG.still {D0 col:Nat} {d:CD} {v:Value} (h:eG o w D0 C col d v) (k:Keep none_ w w'):eG o w' D0 C col d v:=h.ay (I:=[]) k.aF rfl rfl
theorem eG.ext {D0 col:Nat} {d:CD} {v:Value} (h:eG o w D0 C col d v) (e:aH w o o'):eG o' w D0 C col d v:=by
 cases d with
 | block sl =>
   obtain ⟨cv,h1,h2⟩:=h
   exact ⟨cv,h1.ext e,h2.ext e⟩
 | _=>exact eG.of (aO.ext (o:=o) (C:=C) e h)
theorem eG.form {D0 col:Nat} {d:CD} {v:Value} (h:eG o w D0 C col d v):(kR d=true∧v = .nilFunc)∨(kR d=false∧∃ fn first caps,v = .func (.func fn) first caps):=by
 cases d with
 | block sl=>obtain ⟨cv,_,bs,rfl,_⟩:=h;exact .inr ⟨rfl,_,_,_,rfl⟩
 | _=>exact aO.form (o:=o) (w:=w) (C:=C) h
end
structure CG where
 C:Nat
 K:Nat
def ig (G:Geo) (q:CG) (c:CS) (ev:Option Ev) (nv:Value):List Value :=
 [ah G.S,.int .i64 (c.muts:Int),.int .i64 (c.blocks:Int),.int .i64 (c.cells:Int),.int .i64 (c.phase:Int),.int .i64 (c.color:Int),.int .i64 (c.cycles:Int),.bool c.wish,.bool c.fresh,ah q.K,nv,.int .i64 (c.drains:Int),.int .i64 (c.walks:Int)]++sD ev
def eu (o:Ow) (w:World) (K room:Nat) (over:Bool) (l:List Nat):Prop :=
 ∃ v,Blk w K [v,.int .i64 (room:Int),.bool over] 135∧w.ownsRow 0 3 1 v l.length (aC l)∧∀ b,v.ownBlock=some b→o b=5
structure CAt (o:Ow) (w:World) (G:Geo) (q:CG) (s:Sh) (c:CS) (ev:Option Ev) (nv:Value):Prop where
 sh:ShAt o w G s
 blk:Blk w q.C (ig G q c ev nv) 90
 oC:o q.C=5
 stk:eu o w q.K c.room c.over c.stk
 oK:o q.K=5
 box8:s.boxes.length≤8
def aK:List Nat:=[1,2,3,4,5,10,11,12,13,14,15,16,17,40]
section
variable {o o':Ow} {w w':World} {G:Geo} {q:CG} {s:Sh} {c:CS} {ev:Option Ev} {nv:Value}
theorem eu.ay {K room:Nat} {over:Bool} {l:List Nat} {I:List Nat} (h:eu o w K room over l) (hK:o K=5) (k:Keep (In o I) w w') (hI:I.contains 5=false):eu o w' K room over l:=by
 obtain ⟨v,h1,h2,h3⟩:=h
 exact ⟨v,h1.ay k hK hI,fD h2 k (fun b hb=>aU (h3 b hb) hI),h3⟩
theorem eu.ext {K room:Nat} {over:Bool} {l:List Nat} (h:eu o w K room over l) (e:aH w o o'):eu o' w K room over l:=by
 obtain ⟨v,h1,h2,h3⟩:=h
 refine ⟨v,h1,h2,fun b hb=>?_⟩
 obtain ⟨cur,hc⟩:=kJ h2 hb
 exact (e b (lt_of_block hc)).trans (h3 b hb)
theorem CAt.share {s':Sh} {I:List Nat} (h:CAt o w G q s c ev nv) (k:Keep (In o I) w w') (h5:I.contains 5=false) (hs:ShAt o w' G s') (hl:s'.boxes.length=s.boxes.length):CAt o w' G q s' c ev nv :=
 ⟨hs,h.blk.ay k h.oC h5,h.oC,h.stk.ay h.oK k h5,h.oK,by rw [hl];exact h.box8⟩
theorem CAt.still (h:CAt o w G q s c ev nv) (k:Keep none_ w w'):CAt o w' G q s c ev nv:=by
 have k0:Keep (In o []) w w':=k.aF
 exact h.share k0 rfl (h.sh.ay k0 rfl h.box8) rfl
theorem CAt.qV (h:CAt o w G q s c ev nv) (k:Keep none_ w w') (e:aH w o o') (hf:Fut o' w'):CAt o' w' G q s c ev nv:=by
 obtain ⟨v,hs1,_⟩:=id h.stk
 have e1:=(e _ h.blk.lt).trans h.oC
 have e2:=(e _ hs1.lt).trans h.oK
 have k0:Keep (In o' []) w w':=k.aF
 exact ⟨h.sh.move (I:=[]) k.aF rfl h.box8 e hf,h.blk.ay k0 e1 rfl,e1,(h.stk.ext e).ay e2 k0 rfl,e2,h.box8⟩
theorem CAt.EN (h:CAt o w G q s c ev nv):q.C≠q.K∧∀ v xs n,w.ownsRow 0 3 1 v n xs→v.ownBlock≠some q.C∧v.ownBlock≠some q.K:=by
 obtain ⟨v,hs1,_⟩:=id h.stk
 refine ⟨fun e=>?_,fun v xs n hr=>⟨own_ne h.blk hr (by decide),own_ne hs1 hr (by decide)⟩⟩
 have h1:=h.blk
 rw [e] at h1
 exact absurd (h1.uniq hs1).2 (by decide)
theorem sh5 (h:ShAt o w G s) (k:Keep (In o [5]) w w') (h8:s.boxes.length≤8):ShAt o w' G s :=
 h.upd k rfl (h.heapK k rfl rfl) (h.board.keep k (aU h.oB rfl)) (h.queue.ay k rfl h.oQ rfl) (h.flag.ay k h.oF rfl) rfl (h.xY k rfl (fun i hi=>by simp<;>omega))
theorem CAt.struct (h:CAt o w G q s c ev nv) (kC:Keep (only q.C) w w') (c':CS) (ev':Option Ev) (nv':Value) (hc:Blk w q.C (ig G q c ev nv) 90→Blk w' q.C (ig G q c' ev' nv') 90)
 (e:c'.room=c.room∧c'.over=c.over∧c'.stk=c.stk):CAt o w' G q s c' ev' nv'∧Keep (In o [5]) w w':=by
 have k:Keep (In o [5]) w w':=kC.mD h.oC rfl
 obtain ⟨v,h1,h2,h3⟩:=id h.stk
 have ne:=h.EN
 refine ⟨⟨sh5 h.sh k h.box8,hc h.blk,h.oC,?_,h.oK,h.box8⟩,k⟩
 rw [e.1,e.2.1,e.2.2]
 exact ⟨v,kC.blk h1 (fun e=>ne.1 e.symm),fD h2 kC (fun b hb e=>(ne.2 _ _ _ h2).1 (by rw [hb];exact congrArg some e)),h3⟩
theorem CAt.put (h:CAt o w G q s c ev nv) (i:Nat) (u:Value) (c':CS) (ev':Option Ev) (nv':Value) (hc:(ig G q c ev nv).set i u=ig G q c' ev' nv')
 (e:c'.room=c.room∧c'.over=c.over∧c'.stk=c.stk):CAt o (w.setCell ⟨q.C,i,none⟩ u) G q s c' ev' nv'∧Keep (In o [5]) w (w.setCell ⟨q.C,i,none⟩ u) :=
 h.struct ((Keep.refl _ _).put i u) c' ev' nv' (fun hb=>by
  have:=hb.set i u
  rwa [hc] at this) e
theorem CAt.Nh (h:CAt o w G q s c ev nv) {l:List Nat} {ov:Bool} (hs:eu o w' q.K c.room ov l) (k:Keep (fun b=>b=q.K∨∃ v,w.cell? ⟨q.K,0,none⟩=some v∧v.ownBlock=some b) w w'):CAt o w' G q s { c with stk:=l,over:=ov } ev nv∧Keep (In o [5]) w w':=by
 obtain ⟨v,h1,h2,h3⟩:=id h.stk
 have ne:=h.EN
 have hv:=h1.cell 0 (v:=v) rfl
 have k5:Keep (In o [5]) w w':=k.mono (fun b _ hb=>by
  unfold In
  rcases hb with rfl|⟨u,hu,hb⟩
  ·rw [h.oK];simp
  ·rw [hv] at hu;cases hu
   rw [h3 b hb];simp)
 refine ⟨⟨sh5 h.sh k5 h.box8,?_,h.oC,hs,h.oK,h.box8⟩,k5⟩
 exact k.blk h.blk (fun hb=>by
  rcases hb with e|⟨u,hu,hb⟩
  ·exact ne.1 e
  ·rw [hv] at hu;cases hu
   exact (ne.2 _ _ _ h2).1 hb)
theorem ShAt.UU {I:List Nat} (h:ShAt o w G s) (k:Keep (In o I) w w') (hge:∀ i,i<5∨(10≤i∧i<18)→I.contains i=false) (h8:s.boxes.length≤8) (e:aH w o o') (hf:Fut o' w'):ShAt o' w' G s:=by
 have k':=k.nS e
 obtain ⟨v,hs1,hs2⟩:=h.sh
 have hg:=h.heap.DK
 have hQB:(o' G.Q:Nat)=3:=by
  obtain ⟨ho,hl,vs,hv,hb,hr⟩:=h.queue
  exact (e _ hb.lt).trans h.oQ
 refine ⟨hf,⟨v,hs1.ay k h.oS (hge 0 (by decide)),(hs2.ext e).ay k' (hge 0 (by decide))⟩,(e _ hs1.lt).trans h.oS,h.heapK k (hge 0 (by decide)) (hge 1 (by decide)),fun i hi=>(e _ (h.heap.ltD i hi)).trans (h.oD i hi),⟨(e _ hg.1).trans h.glo.1,(e _ hg.2.1).trans h.glo.2.1,(e _ hg.2.2).trans h.glo.2.2⟩,
  h.board.keep k (aU h.oB (hge 2 (by decide))),(e _ h.board.blk.lt).trans h.oB,(h.queue.nS e).ay k' (hge 0 (by decide)) hQB (hge 3 (by decide)),hQB,h.flag.ay k h.oF (hge 4 (by decide)),(e _ h.flag.lt).trans h.oF,fun i l hi=>?_⟩
 obtain ⟨h1,h2⟩:=h.box i l hi
 obtain ⟨_,v',hb,_,_⟩:=id h1
 have h3:o' (G.bx i)=10+i:=(e _ hb.lt).trans h2
 exact ⟨(h1.ext e).ay k' (hge 0 (by decide)) h3 (hge _ (by have:=(List.getElem?_eq_some_iff.1 hi).1;omega)),h3⟩
theorem CAt.Iq (h:CAt o w G q s c ev nv) {l:List Nat} {ov:Bool} (hs:eu o' w' q.K c.room ov l) (k:Keep (fun b=>b=q.K∨∃ v,w.cell? ⟨q.K,0,none⟩=some v∧v.ownBlock=some b) w w') (e:aH w o o') (hf:Fut o' w'):CAt o' w' G q s { c with stk:=l,over:=ov } ev nv∧Keep (In o [5]) w w':=by
 obtain ⟨v,h1,h2,h3⟩:=id h.stk
 have ne:=h.EN
 have hv:=h1.cell 0 (v:=v) rfl
 have k5:Keep (In o [5]) w w':=k.mono (fun b _ hb=>by
  unfold In
  rcases hb with rfl|⟨u,hu,hb⟩
  ·rw [h.oK];simp
  ·rw [hv] at hu;cases hu
   rw [h3 b hb];simp)
 refine ⟨⟨h.sh.UU k5 (fun i hi=>by simp<;>omega) h.box8 e hf,?_,(e _ h.blk.lt).trans h.oC,hs,(e _ h1.lt).trans h.oK,h.box8⟩,k5⟩
 exact k.blk h.blk (fun hb=>by
  rcases hb with e|⟨u,hu,hb⟩
  ·exact ne.1 e
  ·rw [hv] at hu;cases hu
   exact (ne.2 _ _ _ h2).1 hb)
theorem CAt.cell (h:CAt o w G q s c ev nv) (i:Nat) (u:Value) (hu:(ig G q c ev nv)[i]?=some u):w.cell? ⟨q.C,i,none⟩=some u:=h.blk.cell i hu
theorem CAt.lU {H:HS} (h:CAt o w G q s c ev nv) (k:Keep (HF G.D) w w') (hH:au w' G.D H):CAt o w' G q { s with H:=H } c ev nv∧Keep (In o aK) w w':=by
 obtain ⟨h1,k1⟩:=h.sh.lU k hH h.box8
 exact ⟨h.share k1 rfl h1 rfl,k1.iI (by decide)⟩
theorem CAt.nT {B:Bd} (h:CAt o w G q s c ev nv) (k:Keep (only G.B) w w') (hB:eX w' G.B B):CAt o w' G q { s with B:=B } c ev nv∧Keep (In o aK) w w':=by
 obtain ⟨h1,k1⟩:=h.sh.nT k hB
 exact ⟨h.share k1 rfl h1 rfl,k1.iI (by decide)⟩
theorem CAt.qE {Q:Qu} (h:CAt o w G q s c ev nv) (k:Keep (only G.Q) w w') (hQ:dV o w' G.Q Q):CAt o w' G q { s with Q:=Q } c ev nv∧Keep (In o aK) w w':=by
 obtain ⟨h1,k1⟩:=h.sh.qE k hQ
 exact ⟨h.share k1 rfl h1 rfl,k1.iI (by decide)⟩
theorem CAt.wJ {f:Bool} (h:CAt o w G q s c ev nv) (k:Keep (only G.Fl) w w') (hF:Blk w' G.Fl [.bool f] 121):CAt o w' G q { s with flag:=f } c ev nv∧Keep (In o aK) w w':=by
 obtain ⟨h1,k1⟩:=h.sh.wJ k hF
 exact ⟨h.share k1 rfl h1 rfl,k1.iI (by decide)⟩
theorem CAt.EH {j:Nat} {l:List Nat} (h:CAt o w G q s c ev nv) (hj:j<s.boxes.length) (k:Keep (only (G.bx j)) w w') (hX:cZ o w' (G.bx j) 176 [] l):CAt o w' G q { s with boxes:=s.boxes.set j l } c ev nv∧Keep (In o aK) w w':=by
 obtain ⟨h1,k1⟩:=h.sh.EH hj k hX h.box8
 have h8:=h.box8
 have e:([10+j]:List Nat).all (fun i=>aK.contains i)=true:=by
  rcases (by omega:j=0∨j=1∨j=2∨j=3∨j=4∨j=5∨j=6∨j=7) with rfl|rfl|rfl|rfl|rfl|rfl|rfl|rfl<;>decide
 exact ⟨h.share k1 (by simp<;>omega) h1 (by simp),k1.iI e⟩
theorem k5I (k:Keep (In o [5]) w w'):Keep (In o aK) w w':=k.iI (by decide)
def dI (o:Ow) (w:World) (G:Geo) (q:CG) (nv0:Value) (r:iT) (e:Ending) (w':World):Prop :=
 ∃ o' nv,e = .returned nv∧aH w o o'∧CAt o' w' G q r.s r.c r.ev nv0∧eG o' w' (G.D 0) q.C r.c.color r.next nv∧Keep (In o aK) w w'
theorem dI.same {r:iT} {nv nv0:Value} (h:CAt o w' G q r.s r.c r.ev nv0) (hc:aO o w' q.C r.next nv) (k:Keep (In o aK) w w'):dI o w G q nv0 r (.returned nv) w':=⟨o,nv,rfl,aH.refl _ _,h,eG.of hc,k⟩
theorem dI.after {r:iT} {e:Ending} {w1 w2:World} {nv0:Value} (k:Keep (In o aK) w w1) (h:dI o w1 G q nv0 r e w2):dI o w G q nv0 r e w2:=by
 obtain ⟨o',nv,e1,e2,h1,h2,k2⟩:=h
 exact ⟨o',nv,e1,fun b hb=>e2 b (Nat.lt_of_lt_of_le hb k.size),h1,h2,k.trans k2⟩
end
end
end Go.Proofs.YtanfphjoebobaaaGreatDoor
