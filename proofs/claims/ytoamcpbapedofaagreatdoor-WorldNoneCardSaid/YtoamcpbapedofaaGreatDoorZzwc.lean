/- Parts of the fP. No conditions. -/
import Derived.Test.YtoamcpbapedofaaGreatDoorZzwb
namespace Go.Proofs.YtoamcpbapedofaaGreatDoor
open _root_.Go.World renaming size_alloc->H9
open _root_.List renaming eq_of_mem_replicate->Iq,getD_eq_getElem?_getD->Ie,getElem?_set_ne->Ih,getElem?_set_self->Ig,length_replicate->Ir,replicate->Ht,set_eq_of_length_le->Ip
open _root_.Nat renaming le_succ->Ic,le_succ_of_le->Io,le_trans->Ii,zero_le->Il
open _root_.Go.Proofs.Tryz hiding prog
open _root_.Go.Proofs.Tryz renaming prog->ay
set_option maxRecDepth 4000
set_option maxHeartbeats 2000000
section
def eU (mu bl ce:Nat):CD->Prop
 | .iW m t=>m<mu/\eU mu bl ce t
 | .kS _ t=>eU mu bl ce t
 | .cell i=>i<ce
 | .gX _ t=>eU mu bl ce t
 | .bU _ i n t=>i<n/\n<=100/\eU mu bl ce t
 | .box m=>m<mu
 | .fP b=>b<bl
 | .fA l t=>l≠[]/\l.length<=1000/\eU mu bl ce t
 | .je t=>eU mu bl ce t
 | .gJ b=>b<bl
 | _=>True
def zL (H:HS):Prop:=(∀ a,(H.kG a).1<=100)/\∀ b,(H.fA b).length<=1000
structure CK (N:Nat) (s:Sh) (c:CS):Prop where
 mu:s.aP.length=c.aJ
 mu1:1<=c.aJ/\c.aJ<=8
 bl:c.bG<=4096
 ce:c.cells<=64
 rm:1<=c.dA/\c.dA<=4096
 bY:c.bY.length<=c.dA
 aH:c.aH<2
 fZ:c.aW<=N
 dr:c.jJ<=N
 wa:c.kT<=N
 bg:s.Q.bg<=N
 q:eH s
 ql:∀ k,(s.Q.rw k).length<=N
 fM:0<=s.B.count/\s.B.count<=N
 ph:c.phase<=7
structure xq (N:Nat) (c:CS) (r:fB):Prop where
 k:CK N r.s r.c
 nx:eU r.c.aJ r.c.bG r.c.cells r.next
 mu:r.c.aJ=c.aJ
 bl:r.c.bG=c.bG
 ce:r.c.cells=c.cells
section
variable {N:Nat} {s:Sh} {c:CS}
theorem CK.more {M:Nat} (h:CK N s c) (hM:N<=M):CK M s c :=
 ⟨h.mu,h.mu1,h.bl,h.ce,h.rm,h.bY,h.aH,Ii h.fZ hM,Ii h.dr hM,Ii h.wa hM,Ii h.bg hM,h.q,fun k=>Ii (h.ql k) hM,⟨h.fM.1,by have:=h.fM.2;omega⟩,h.ph⟩
theorem CK.next (h:CK N s c) {d:CD} {ev:Option Ev} (hd:eU c.aJ c.bG c.cells d):xq (N+1) c ⟨s,c,d,ev⟩:=⟨h.more (Ic N),hd,rfl,rfl,rfl⟩
theorem CK.heap (h:CK N s c) {H:HS} (hK:H.K=s.H.K):CK N { s with H:=H } c :=
 ⟨h.mu,h.mu1,h.bl,h.ce,h.rm,h.bY,h.aH,h.fZ,h.dr,h.wa,h.bg,h.q.same hK,h.ql,h.fM,h.ph⟩
theorem vT (b:Bd) (k:Int):(b.iU k).count=b.count\/(b.iU k).count=b.count+1:=by
 unfold Bd.iU
 split
 ·exact .inr rfl
 ·exact .inl rfl
theorem CK.oU (h:CK N s c) (p:Nat) {c':CS} {t:CD} {ev:Option Ev} (hp:p<=7) (e:c'.aJ=c.aJ/\c'.bG=c.bG/\c'.cells=c.cells/\c'.dA=c.dA/\c'.bY=c.bY) (hc:c'.aH<2) (h1:c'.aW<=N+1) (h2:c'.jJ<=N+1) (h3:c'.kT<=N+1)
 (ht:eU c.aJ c.bG c.cells t):xq (N+1) c (jr s c' p t ev):=by
 obtain ⟨e1,e2,e3,e4,e5⟩:=e
 have hcn:=h.fM
 have ha:0<=(s.B.iU (p:Int)).count/\(s.B.iU (p:Int)).count<=((N+1:Nat):Int):=by
  rcases vT s.B (p:Int) with e|e<;>rw [e]<;>omega
 refine ⟨⟨by show s.aP.length=c'.aJ;rw [e1];exact h.mu,by show 1<=c'.aJ/\c'.aJ<=8;rw [e1];exact h.mu1,by show c'.bG<=_;rw [e2];exact h.bl,by show c'.cells<=_;rw [e3];exact h.ce,by show 1<=c'.dA/\c'.dA<=_;rw [e4];exact h.rm,
  by show c'.bY.length<=c'.dA;rw [e4,e5];exact h.bY,hc,h1,h2,h3,Io h.bg,fun k x hx=>h.q k x hx,fun k=>Io (h.ql k),ha,hp⟩,?_,e1,e2,e3⟩
 show eU c'.aJ c'.bG c'.cells (.iW 0 t)
 rw [e1,e2,e3]
 exact ⟨by have:=h.mu1;omega,ht⟩
theorem nS {mu bl ce v:Nat} {t:CD} (h:eU mu bl ce t):eU mu bl ce (oV v t):=by unfold oV;split<;>exact h
theorem rY (h:CK N s c) (i:Nat) (hi:i<=c.cells):eU c.aJ c.bG c.cells (c.qV i):=by
 unfold CS.qV
 split
 ·trivial
 ·show i<c.cells;omega
theorem qB {mu bl ce a i n:Nat} {t:CD} (hi:i<=n) (hn:n<=100) (h:eU mu bl ce t):eU mu bl ce (oW a i n t):=by
 unfold oW
 split
 ·exact h
 ·exact ⟨by omega,hn,h⟩
theorem rZ (i:Nat) (hi:i<=c.bG):eU c.aJ c.bG c.cells (c.qW i):=by
 unfold CS.qW
 split
 ·trivial
 ·show i<c.bG;omega
theorem qh (i:Nat) (hi:i<=c.bG):eU c.aJ c.bG c.cells (c.vP i):=by
 unfold CS.vP
 split
 ·trivial
 ·show i<c.bG;omega
theorem lV {mu bl ce:Nat} {l:List Nat} {t:CD} (hl:l.length<=1000) (h:eU mu bl ce t):eU mu bl ce (lT l t):=by
 unfold lT
 split
 ·exact h
 ·rename_i e;exact ⟨e,hl,h⟩
theorem BA (q:Qu) (k:Int) (b:Int) (j:Nat):((q.put k b).rw j).length<=(q.rw j).length+1:=by
 unfold Qu.put Qu.rw Qu.row
 simp only
 rw [Ie]
 by_cases e:k.toNat=j
 ·subst e
  by_cases hl:k.toNat<q.rows.length
  ·rw [Ig hl];simp
  ·rw [Ip (by omega),<- Ie];omega
 ·rw [Ih e,<- Ie];omega
theorem uO (q:Qu) (k:Int) (j:Nat):((q.take k).rw j).length<=(q.rw j).length:=by
 unfold Qu.take Qu.rw Qu.row
 simp only
 rw [Ie]
 by_cases e:k.toNat=j
 ·subst e
  by_cases hl:k.toNat<q.rows.length
  ·rw [Ig hl];simp
  ·rw [Ip (by omega),<- Ie];omega
 ·rw [Ih e,<- Ie];omega
theorem eH.put {b:Nat} (h:eH s) (k:Int) (hb:s.H.K.getD b 0≠0):eH { s with Q:=s.Q.put k (b:Int) }:=fun j x hx=>by
 unfold Qu.put Qu.rw at hx
 simp only at hx
 rw [Ie] at hx
 by_cases e:k.toNat=j
 ·subst e
  by_cases hl:k.toNat<s.Q.rows.length
  ·rw [Ig hl] at hx
   simp only [Option.getD_some,List.mem_append,List.mem_singleton] at hx
   rcases hx with hx|rfl
   ·exact h _ x hx
   ·exact ⟨by omega,by simpa using hb⟩
  ·rw [Ip (by omega),<- Ie] at hx
   exact h _ x hx
 ·rw [Ih e,<- Ie] at hx
  exact h _ x hx
theorem yN (h:CK N s c) (hb:zL s.H) (d:CD) (hd:eU c.aJ c.bG c.cells d):xq (N+1) c (dM s c d):=by
 have h1:=h.more (Ic N)
 have hmu:=h.mu1
 cases d with
 | nil=>exact h.next trivial
 | iW m t =>
   simp only [dM]
   refine h.next ?_
   split
   ·exact hd
   ·split
    ·exact ⟨by omega,hd.2⟩
    ·exact hd.2
 | lS=>exact h.oU 2 (by decide) ⟨rfl,rfl,rfl,rfl,rfl⟩ h.aH h1.fZ h1.dr h1.wa trivial
 | rQ=>exact h.oU 3 (by decide) ⟨rfl,rfl,rfl,rfl,rfl⟩ h.aH h1.fZ h1.dr h1.wa trivial
 | trace=>exact ⟨⟨h.mu,h.mu1,h.bl,h.ce,h.rm,h.bY,h.aH,h1.fZ,h1.dr,h1.wa,h1.bg,h.q,h1.ql,h1.fM,by show 4<=7;decide⟩,rY h 0 (Il _),rfl,rfl,rfl⟩
 | cell i =>
   have hi:i<c.cells:=hd
   exact h.next (nS (rY h (i+1) (by omega)))
 | kS v t =>
   simp only [dM]
   split
   ·have g:=(h1.heap (H:=s.H.jg v c.aH) (rV _ _))
    have hs:=h.bY
    unfold CS.push
    simp only
    split
    ·exact ⟨⟨g.mu,g.mu1,g.bl,g.ce,g.rm,g.bY,g.aH,g.fZ,g.dr,g.wa,g.bg,g.q,g.ql,g.fM,g.ph⟩,hd,rfl,rfl,rfl⟩
    ·exact ⟨⟨g.mu,g.mu1,g.bl,g.ce,g.rm,by simp;omega,g.aH,g.fZ,g.dr,g.wa,g.bg,g.q,g.ql,g.fM,g.ph⟩,hd,rfl,rfl,rfl⟩
   ·exact h.next hd
 | work =>
   simp only [dM]
   split
   ·exact ⟨⟨h1.mu,h1.mu1,h1.bl,h1.ce,h1.rm,by show c.bY.dropLast.length<=c.dA;have:=h.bY;simp;omega,h1.aH,h1.fZ,h1.dr,h1.wa,h1.bg,h1.q,h1.ql,h1.fM,h1.ph⟩,trivial,rfl,rfl,rfl⟩
   ·exact h.next (show 0<c.aJ by omega)
 | gX a t=>exact h.next (qB (Il _) (hb.1 a) hd)
 | bU a i n t =>
   obtain ⟨g1,g2,g3⟩:=hd
   exact h.next (nS (qB g1 g2 g3))
 | box m =>
   have hm:m<c.aJ:=hd
   simp only [dM]
   split
   ·rename_i a l hl
    refine ⟨⟨by show (s.aP.set m l).length=_;simpa using h.mu,h1.mu1,h1.bl,h1.ce,h1.rm,h1.bY,h1.aH,h1.fZ,h1.dr,h1.wa,h1.bg,fun k x hx=>h.q k x hx,h1.ql,h1.fM,h1.ph⟩,nS hm,rfl,rfl,rfl⟩
   ·refine h.next ?_
    split
    ·assumption
    ·split<;>trivial
 | over =>
   simp only [dM]
   split
   ·split
    ·exact h.next trivial
    ·split
     ·exact ⟨⟨h1.mu,h1.mu1,h1.bl,h1.ce,h1.rm,h1.bY,h1.aH,h1.fZ,h1.dr,h1.wa,h1.bg,h1.q,h1.ql,h1.fM,by show 4<=7;decide⟩,trivial,rfl,rfl,rfl⟩
     ·exact h.next trivial
   ·exact ⟨⟨h1.mu,h1.mu1,h1.bl,h1.ce,h1.rm,h1.bY,h1.aH,h1.fZ,h1.dr,by show c.kT+1<=N+1;have:=h.wa;omega,h1.bg,fun k x hx=>h.q k x hx,h1.ql,h1.fM,h1.ph⟩,rZ (c:=c) 0 (Il _),rfl,rfl,rfl⟩
 | mW=>exact h.oU 5 (by decide) ⟨rfl,rfl,rfl,rfl,rfl⟩ h.aH h1.fZ (by show c.jJ+1<=N+1;have:=h.dr;omega) h1.wa trivial
 | oP=>exact ⟨⟨h1.mu,h1.mu1,h1.bl,h1.ce,h1.rm,h1.bY,h1.aH,h1.fZ,h1.dr,h1.wa,h1.bg,h1.q,h1.ql,h1.fM,by show 6<=7;decide⟩,qh (c:=c) 0 (Il _),rfl,rfl,rfl⟩
 | gJ b =>
   have hbb:b<c.bG:=hd
   simp only [dM]
   split
   ·exact h.next (qh (b+1) hbb)
   ·rename_i hk
    exact ⟨⟨h1.mu,h1.mu1,h1.bl,h1.ce,h1.rm,h1.bY,h1.aH,h1.fZ,h1.dr,h1.wa,h1.bg,h.q.put _ hk,fun j=>Ii (BA _ _ _ j) (Nat.succ_le_succ (h.ql j)),h1.fM,h1.ph⟩,qh (b+1) hbb,rfl,rfl,rfl⟩
 | dR =>
   simp only [dM]
   split
   ·exact h.next trivial
   ·exact ⟨⟨h1.mu,h1.mu1,h1.bl,h1.ce,h1.rm,h1.bY,h1.aH,h1.fZ,h1.dr,h1.wa,by show s.Q.bg+1<=N+1;have:=h.bg;omega,h.q.take _,fun j=>Ii (uO _ _ j) (Io (h.ql j)),h1.fM,h1.ph⟩,trivial,rfl,rfl,rfl⟩
 | block sl =>
   cases sl with
   | nil=>exact ⟨⟨h1.mu,h1.mu1,h1.bl,h1.ce,h1.rm,h1.bY,h1.aH,h1.fZ,h1.dr,h1.wa,by show s.Q.bg - 1<=N+1;have:=h.bg;omega,h.q.done,h1.ql,h1.fM,h1.ph⟩,trivial,rfl,rfl,rfl⟩
   | cons a r =>
     simp only [dM]
     split
     ·exact h.next trivial
     ·have g:=h1.heap (H:=s.H.jS a) (uK a)
      exact ⟨g,trivial,rfl,rfl,rfl⟩
 | mP =>
   simp only [dM]
   refine h.next ?_
   split<;>trivial
 | off=>exact h.oU 7 (by decide) ⟨rfl,rfl,rfl,rfl,rfl⟩ h.aH h1.fZ h1.dr h1.wa trivial
 | vO=>exact ⟨⟨h1.mu,h1.mu1,h1.bl,h1.ce,h1.rm,h1.bY,h1.aH,h1.fZ,h1.dr,h1.wa,h1.bg,h1.q,h1.ql,h1.fM,Il _⟩,trivial,rfl,rfl,rfl⟩
 | fP b =>
   have hbb:b<c.bG:=hd
   exact h.next (lV (hb.2 b) (rZ (b+1) hbb))
 | fA l t =>
   obtain ⟨g1,g2,g3⟩:=hd
   have hl:l.tail.length<=1000:=by simp;omega
   simp only [dM]
   refine h.next ?_
   split
   ·exact lV hl g3
   ·exact lV hl g3
 | je t =>
   simp only [dM]
   split
   ·exact ⟨⟨h1.mu,h1.mu1,h1.bl,h1.ce,h1.rm,by show c.bY.dropLast.length<=c.dA;have:=h.bY;simp;omega,h1.aH,h1.fZ,h1.dr,h1.wa,h1.bg,h1.q,h1.ql,h1.fM,h1.ph⟩,hd,rfl,rfl,rfl⟩
   ·exact h.next hd
theorem xu (h:CK N s c):xq (N+1) c (fD s c):=by
 have h1:=h.more (Ic N)
 exact h.oU 1 (by decide) ⟨rfl,rfl,rfl,rfl,rfl⟩ (by show 1 - c.aH<2;omega) (by show c.aW+1<=N+1;have:=h.fZ;omega) h1.dr h1.wa trivial
structure su (N:Nat) (s:Sh) (c:CS):Prop where
 k:CK N s c
 nx:eU c.aJ c.bG c.cells c.next
theorem yO (h:su N s c) (hb:zL s.H):su (N+1) (bJ s c).s (bJ s c).c/\(bJ s c).c.aJ=c.aJ/\(bJ s c).c.bG=c.bG/\(bJ s c).c.cells=c.cells:=by
 have key:∀ r:fB,xq (N+1) c r->su (N+1) r.s { r.c with next:=r.next }/\r.c.aJ=c.aJ/\r.c.bG=c.bG/\r.c.cells=c.cells:=fun r hr=>by
  have g:=hr.k
  exact ⟨⟨⟨g.mu,g.mu1,g.bl,g.ce,g.rm,g.bY,g.aH,g.fZ,g.dr,g.wa,g.bg,g.q,g.ql,g.fM,g.ph⟩,hr.nx⟩,hr.mu,hr.bl,hr.ce⟩
 unfold bJ
 split
 ·exact key (dM s c c.next) (yN h.k hb c.next h.nx)
 ·split
  ·exact key (fD s c) (xu h.k)
  ·exact key ⟨s,c,.nil,none⟩ (h.k.next trivial)
end
end
section
open Go.RowKit
def fF (K:List Nat):List Value:=K.map (fun x:Nat => ah (x:Int))
structure eu (w:World) (R X:Nat) (c:aI) (K:List Nat):Prop where
 aO:aC w R (c.cells++[.slice (some ⟨X,0,none⟩) K.length K.length]) 235
 wZ:aC w X (fF K) 3
 len:c.b=(K.length:Int)
 le:∀ x∈K,x<=4
 ok:c.ok=true
section
variable {w w':World} {R X:Nat} {c:aI} {K:List Nat}
theorem eu.aB {S:Nat->Prop} (h:eu w R X c K) (k:aj S w w') (hR:¬ S R) (hX:¬ S X):eu w' R X c K :=
 ⟨k.aO h.aO hR,k.aO h.wZ hX,h.len,h.le,h.ok⟩
theorem eu.still (h:eu w R X c K) (k:aj ak w w'):eu w' R X c K:=h.aB k (fun f=>f) (fun f=>f)
theorem eu.ne (h:eu w R X c K):R≠X:=fun e=>by
 have h1:=h.aO
 rw [e] at h1
 exact absurd (h1.gV h.wZ).2 (by decide)
theorem ng (h:eu w R X c K):Calls ay 109 #[au R] w fun e w'=>e = .returned (.agg c.cells.toArray)/\aj ak w w':=by
 have hb:=h.aO
 obtain ⟨c0,c1,c2,c3,c4,c5,c6⟩:=c
 simp only [aI.cells,List.cons_append,List.nil_append] at hb ⊢
 have HA:∀ o,aj ak w (w.alloc o):=fun o=>(aj.refl _ _).alloc o
 have s0:=fun o=>(HA o).still (hb.cell 0 rfl);have s1:=fun o=>(HA o).still (hb.cell 1 rfl);have s2:=fun o=>(HA o).still (hb.cell 2 rfl);have s3:=fun o=>(HA o).still (hb.cell 3 rfl);have s4:=fun o=>(HA o).still (hb.cell 4 rfl);have s5:=fun o=>(HA o).still (hb.cell 5 rfl);have s6:=fun o=>(HA o).still (hb.cell 6 rfl)
 have HB:Hid (∀ o,aj ak w (w.alloc o)):=HA
 clear HA
 clear h hb
 go_enter func109,ntmps109
 go_wp2_with fail
 obtain ⟨W1,hW1⟩:∃ W',W'=w.alloc (.cells #[ah c0,ah c1,ah c2,ah c3,ah c4,ah c5,ah c6] 23):=⟨_,rfl⟩
 rw [<- hW1]
 have hF:aC W1 w.heap.size [ah c0,ah c1,ah c2,ah c3,ah c4,ah c5,ah c6] 23:=by rw [hW1];exact aC.aS w _ _
 have k0:=hF.cell 0 rfl;have k1:=hF.cell 1 rfl;have k2:=hF.cell 2 rfl;have k3:=hF.cell 3 rfl;have k4:=hF.cell 4 rfl;have k5:=hF.cell 5 rfl;have k6:=hF.cell 6 rfl
 refine bodyPost_ret (v := .agg #[ah c0,ah c1,ah c2,ah c3,ah c4,ah c5,ah c6]) (by simp [results,Tryz.f109,go_sem,k0,k1,k2,k3,k4,k5,k6]) rfl ⟨rfl,?_⟩
 rw [hW1];exact HB.out _
theorem Am (c:aI) (b:Nat) (hok:c.ok=true) (hcb:c.b=b) (w:World) (hT:dW w):Calls ay 103 #[.agg c.cells.toArray] w fun e w'=>∃ R X,e = .returned (.tuple #[au R,ah 0])/\eu w' R X c (Ht b 0)/\w.heap.size<=R/\w.heap.size<=X/\aj ak w w':=by
 have jl:=(dH hok).1
 have hmk:∀ w:World,(Instr.makeSlice 57 (ah (b:Int)) (ah (b:Int))).run ay w = .ok (.slice (some ⟨w.heap.size,0,none⟩) b b) (w.alloc (.cells (bf (ah 0) b).toArray 3)) :=
  fun w=>kE (P:=ay) (by kernel_rfl) Tryz.infoInt rfl (by decide) b (by omega) _ rfl w
 obtain ⟨W0,hW0⟩:∃ W',W'=w.alloc (.cells c.cells.toArray 23):=⟨_,rfl⟩
 have HK:Hid (aj ak w W0):=by rw [hW0];exact (aj.refl _ _).alloc _
 have HR:=aA (lJ c W0 (hT.aB HK.out))
 rw [hok] at HR
 have HB:=aA (show aC W0 w.heap.size c.cells 23 by rw [hW0];exact aC.aS w _ _)
 have Fh:=aA hok
 have zM:=aA jl
 have ni:Hid (W0.heap.size=w.heap.size+1):=by rw [Hid,hW0];simp
 have hcb':=hcb
 obtain ⟨c0,c1,c2,c3,c4,c5,c6⟩:=c
 simp only at hcb
 subst hcb
 simp only [aI.cells] at *
 clear hT hok jl hcb'
 go_enter func103,ntmps103
 go_wp2_with fail
 rw [<- hW0]
 clear hW0
 refine HR.out.mono ?_
 rintro e w1 ⟨rfl,hk1⟩
 have hb1:=hk1.aO HB.out (fun f=>f)
 have dI:=aA (HK.out.trans hk1)
 have y0:=hb1.cell 0 rfl;have y1:=hb1.cell 1 rfl;have y2:=hb1.cell 2 rfl;have y3:=hb1.cell 3 rfl;have y4:=hb1.cell 4 rfl;have y5:=hb1.cell 5 rfl;have y6:=hb1.cell 6 rfl
 have HA:∀ o,aj ak w1 (w1.alloc o):=fun o=>(aj.refl _ _).alloc o
 have s0:=fun o=>(HA o).still y0;have s1:=fun o=>(HA o).still y1;have s2:=fun o=>(HA o).still y2;have s3:=fun o=>(HA o).still y3;have s4:=fun o=>(HA o).still y4;have s5:=fun o=>(HA o).still y5;have s6:=fun o=>(HA o).still y6
 clear hk1 hb1 HA HR HK HB
 go_wp2_with fail
 go_region
 obtain ⟨W3,hW3⟩:∃ W',W'=((w1.alloc (.cells (bf (ah 0) b).toArray 3)).alloc (.cells #[ah (b:Int),ah c1,ah c2,ah c3,ah c4,ah c5,ah c6,.slice (some ⟨w1.heap.size,0,none⟩) b b] 235)).drew:=⟨_,rfl⟩
 rw [<- hW3]
 go_wp2_with fail
 go_ret2
 have hz:bf (ah 0) b=fF (Ht b 0):=by simp [bf,fF]
 have h1:=dI.out.size
 refine ⟨w1.heap.size+1,w1.heap.size,rfl,⟨?_,?_,by simp,fun x hx=>by rw [Iq hx];decide,Fh.out⟩,by omega,by omega,?_⟩
 ·rw [hW3]
  have h:=aC.aS (w1.alloc (.cells (bf (ah 0) b).toArray 3)) [ah (b:Int),ah c1,ah c2,ah c3,ah c4,ah c5,ah c6,.slice (some ⟨w1.heap.size,0,none⟩) b b] 235
  rw [H9] at h
  simp only [Ir,aI.cells,List.cons_append,List.nil_append]
  exact h.drew
 ·rw [hW3,hz]
  exact ((aC.aS w1 _ _).alloc _).drew
 ·rw [hW3]
  exact ((dI.out.alloc _).alloc _).drew
end
end
section
def yP (W:List Nat) (i:Nat):Bool:=(W.getD (i/64) 0).testBit (i%64)
theorem getD_set_ne {W:List Nat} {i j:Nat} (h:i≠j) (x:Nat):(W.set i x).getD j 0=W.getD j 0:=by
 rw [Ie,Ih h,<- Ie]
theorem uP (n i:Nat):yP (Ht n 0) i=false:=by
 unfold yP
 have e:(Ht n 0).getD (i/64) 0=0:=by
  rw [Ie,List.getElem?_replicate]
  split<;>rfl
 rw [e,Nat.zero_testBit]
end
section
open Go.RowKit
theorem Tryz.infoU:(ay.info? 168).map (fun i=>(i.zero,i.size,i.bytes))=some (some (.int .u64 0),1,8):=by kernel_rfl
def gY (W:List Nat):List Value:=W.map (fun x:Nat => .int .u64 (x:Int))
structure dS (w:World) (B X size:Nat) (W:List Nat):Prop where
 aO:∃ cap,aC w B [.slice (some ⟨X,0,none⟩) W.length cap,ah size] 244
 jv:∃ cur,aC w X cur 168/\∀ (i:Nat) (v:Value),(gY W)[i]?=some v->cur[i]?=some v
 len:W.length=(size+63)/64
 lt:∀ x∈W,x<18446744073709551616
 sz:size<=2097152
section
variable {w w':World} {B X size:Nat} {W:List Nat}
theorem dS.ne (h:dS w B X size W):B≠X:=fun e=>by
 obtain ⟨cap,h1⟩:=h.aO
 obtain ⟨cur,h2,_⟩:=h.jv
 rw [e] at h1
 exact absurd (h1.gV h2).2 (by decide)
theorem dS.aB {S:Nat->Prop} (h:dS w B X size W) (k:aj S w w') (hB:¬ S B) (hX:¬ S X):dS w' B X size W:=by
 obtain ⟨cap,h1⟩:=h.aO
 obtain ⟨cur,h2,h3⟩:=h.jv
 exact ⟨⟨cap,k.aO h1 hB⟩,⟨cur,k.aO h2 hX,h3⟩,h.len,h.lt,h.sz⟩
theorem dS.still (h:dS w B X size W) (k:aj ak w w'):dS w' B X size W:=h.aB k (fun f=>f) (fun f=>f)
def sD (size:Nat) (W:List Nat) (n:Int):Bool:=decide (0<=n/\n<(size:Int))&&yP W n.toNat
theorem sF (n:Nat) (hn:n<=2097152) (w:World):Calls ay 107 #[ah (n:Int)] w fun e w'=>∃ B X,e = .returned (.tuple #[au B,ah 0])/\dS w' B X n (Ht ((n+63)/64) 0)/\w.heap.size<=B/\w.heap.size<=X/\aj ak w w':=by
 obtain ⟨L,hL⟩:∃ L,L=(n+63)/64:=⟨_,rfl⟩
 rw [<- hL]
 have GR:L<=32768:=by omega
 go_enter func107,ntmps107
 have hmk:∀ w:World,(Instr.makeSlice 237 (ah (((n:Int)+64 - 1)/64)) (ah (((n:Int)+64 - 1)/64))).run ay w = .ok (.slice (some ⟨w.heap.size,0,none⟩) L L) (w.alloc (.cells (bf (.int .u64 0) L).toArray 168)) :=
  fun w=>kE (P:=ay) (by kernel_rfl) Tryz.infoU rfl (by decide) L (by omega) _ (by omega) w
 have HL:=aA hL
 clear hL
 go_wp2_with fail
 obtain ⟨W1,hW1⟩:∃ W',W'=(w.alloc (.cells (bf (.int .u64 0) L).toArray 168)).alloc (.cells #[.slice (some ⟨w.heap.size,0,none⟩) L L,ah (n:Int)] 244):=⟨_,rfl⟩
 rw [<- hW1]
 go_ret2
 have hz:bf (.int .u64 0) L=gY (Ht L 0):=by simp [bf,gY]
 refine ⟨w.heap.size+1,w.heap.size,rfl,⟨⟨L,?_⟩,⟨gY (Ht L 0),?_,fun _ _ h=>h⟩,by rw [Ir];exact HL.out,fun x hx=>by rw [Iq hx];decide,hn⟩,by omega,Nat.le_refl _,?_⟩
 ·rw [hW1]
  have h:=aC.aS (w.alloc (.cells (bf (.int .u64 0) L).toArray 168)) [.slice (some ⟨w.heap.size,0,none⟩) L L,ah (n:Int)] 244
  rw [H9] at h
  simpa using h
 ·rw [hW1,hz]
  exact (aC.aS w _ _).alloc _
 ·rw [hW1]
  exact ((aj.refl _ _).alloc _).alloc _
end
structure dP (w:World) (R X:Nat) (A:List Nat):Prop where
 aO:∃ ld st:Int,aC w R [.slice (some ⟨X,0,none⟩) A.length A.length,ah ld,ah st] 239
 jv:aC w X (gY A) 168
 lt:∀ x∈A,x<18446744073709551616
 len:A.length<=1048576
section
variable {w w':World} {R X:Nat} {A:List Nat}
theorem dP.aB {S:Nat->Prop} (h:dP w R X A) (k:aj S w w') (hR:¬ S R) (hX:¬ S X):dP w' R X A:=by
 obtain ⟨ld,st,h1⟩:=h.aO
 exact ⟨⟨ld,st,k.aO h1 hR⟩,k.aO h.jv hX,h.lt,h.len⟩
theorem dP.still (h:dP w R X A) (k:aj ak w w'):dP w' R X A:=h.aB k (fun f=>f) (fun f=>f)
theorem dP.ne (h:dP w R X A):R≠X:=fun e=>by
 obtain ⟨ld,st,h1⟩:=h.aO
 rw [e] at h1
 exact absurd (h1.gV h.jv).2 (by decide)
theorem yQ (h:dP w R X A):Calls ay 129 #[au R] w fun e w'=>e = .returned (ah (A.length:Int))/\w=w':=by
 obtain ⟨ld,st,h1⟩:=h.aO
 have y0:=h1.cell 0 rfl
 clear h h1
 go_enter func129,ntmps129
 go_wp2_with fail
 go_ret
 exact ⟨rfl,rfl⟩
theorem yR (n:Nat) (h1:1<=n) (hn:n<=1048576) (w:World):Calls ay 105 #[ah (n:Int)] w fun e w'=>∃ R X,e = .returned (.tuple #[au R,ah 0])/\dP w' R X (Ht n 0)/\w.heap.size<=R/\w.heap.size<=X/\aj ak w w':=by
 have hmk:∀ w:World,(Instr.makeSlice 237 (ah (n:Int)) (ah (n:Int))).run ay w = .ok (.slice (some ⟨w.heap.size,0,none⟩) n n) (w.alloc (.cells (bf (.int .u64 0) n).toArray 168)) :=
  fun w=>kE (P:=ay) (by kernel_rfl) Tryz.infoU rfl (by decide) n (by omega) _ rfl w
 go_enter func105,ntmps105
 go_wp2_with fail
 obtain ⟨W1,hW1⟩:∃ W',W'=(w.alloc (.cells (bf (.int .u64 0) n).toArray 168)).alloc (.cells #[.slice (some ⟨w.heap.size,0,none⟩) n n,ah 0,ah 0] 239):=⟨_,rfl⟩
 rw [<- hW1]
 go_ret2
 have hz:bf (.int .u64 0) n=gY (Ht n 0):=by simp [bf,gY]
 refine ⟨w.heap.size+1,w.heap.size,rfl,⟨⟨0,0,?_⟩,?_,fun x hx=>by rw [Iq hx];decide,by simpa using hn⟩,by omega,Nat.le_refl _,?_⟩
 ·rw [hW1]
  have h:=aC.aS (w.alloc (.cells (bf (.int .u64 0) n).toArray 168)) [.slice (some ⟨w.heap.size,0,none⟩) n n,ah 0,ah 0] 239
  rw [H9] at h
  simpa using h
 ·rw [hW1,hz]
  exact (aC.aS w _ _).alloc _
 ·rw [hW1]
  exact ((aj.refl _ _).alloc _).alloc _
end
end
end Go.Proofs.YtoamcpbapedofaaGreatDoor
