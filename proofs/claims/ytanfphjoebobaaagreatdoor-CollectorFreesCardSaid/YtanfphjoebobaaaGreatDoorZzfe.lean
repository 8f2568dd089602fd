/- Parts of the iy. No conditions. -/
import Derived.Test.YtanfphjoebobaaaGreatDoorZzfd
namespace Go.Proofs.YtanfphjoebobaaaGreatDoor
open _root_.Go.IntWalk renaming i64_in->ajw
open _root_.Go.World renaming size_alloc->ajq
open _root_.Int renaming ofNat_eq_zero->akt,toNat_natCast->ajv
open _root_.List renaming eq_of_mem_replicate->akv,getD_eq_getElem?_getD->ajg,getElem?_eq_getElem->ajh,getElem?_eq_some_iff->ake,getElem?_map->aks,getElem?_set->akz,getElem?_set_ne->ajB,getElem?_set_self->ajA,getElem_mem->aji,length_replicate->akw,length_set->aku,map_set->akj,mem_or_eq_of_mem_set->ajL,nil_append->akr,replicate->ajj,set_eq_of_length_le->akq
open _root_.Nat renaming div_le_self->ajx,le_succ->aju,le_succ_of_le->akp,le_trans->ajU,lt_of_lt_of_le->ajf,mul_le_mul_right->ajE,pow_lt_pow_right->aky,testBit_xor->akx,zero_le->aki
open _root_.Go.Proofs.Tryz hiding prog
open _root_.Go.Proofs.Tryz renaming prog->aA
set_option maxRecDepth 100000
set_option maxHeartbeats 2000000
section
def qY (mu bl ce:Nat):CD->Prop
 | .dJ m t=>m<mu/\qY mu bl ce t
 | .lC _ t=>qY mu bl ce t
 | .cell i=>i<ce
 | .iD _ t=>qY mu bl ce t
 | .field _ i n t=>i<n/\n<=100/\qY mu bl ce t
 | .box m=>m<mu
 | .iy b=>b<bl
 | .bH l t=>l≠[]/\l.length<=1000/\qY mu bl ce t
 | .ig t=>qY mu bl ce t
 | .iJ b=>b<bl
 | _=>True
def HBd (H:HS):Prop:=(∀ a,(H.dh a).1<=100)/\∀ b,(H.bH b).length<=1000
structure CK (N:Nat) (s:Sh) (c:CS):Prop where
 mu:s.aV.length=c.aG
 mu1:1<=c.aG/\c.aG<=8
 bl:c.dU<=4096
 ce:c.cells<=64
 rm:1<=c.room/\c.room<=4096
 bD:c.bD.length<=c.room
 aP:c.aP<2
 nH:c.cu<=N
 dr:c.je<=N
 wa:c.kK<=N
 dS:s.Q.dS<=N
 q:rV s
 ql:∀ k,(s.Q.rw k).length<=N
 qJ:0<=s.B.count/\s.B.count<=N
 ph:c.phase<=7
structure Zv (N:Nat) (c:CS) (r:pO):Prop where
 k:CK N r.s r.c
 nx:qY r.c.aG r.c.dU r.c.cells r.next
 mu:r.c.aG=c.aG
 bl:r.c.dU=c.dU
 ce:r.c.cells=c.cells
section
variable {N:Nat} {s:Sh} {c:CS}
theorem CK.more {M:Nat} (h:CK N s c) (hM:N<=M):CK M s c :=
 ⟨h.mu,h.mu1,h.bl,h.ce,h.rm,h.bD,h.aP,ajU h.nH hM,ajU h.dr hM,ajU h.wa hM,ajU h.dS hM,h.q,fun k=>ajU (h.ql k) hM,⟨h.qJ.1,by have:=h.qJ.2;omega⟩,h.ph⟩
theorem CK.next (h:CK N s c) {d:CD} {ev:Option Ev} (hd:qY c.aG c.dU c.cells d):Zv (N+1) c ⟨s,c,d,ev⟩:=⟨h.more (aju N),hd,rfl,rfl,rfl⟩
theorem CK.heap (h:CK N s c) {H:HS} (hK:H.K=s.H.K):CK N { s with H:=H } c :=
 ⟨h.mu,h.mu1,h.bl,h.ce,h.rm,h.bD,h.aP,h.nH,h.dr,h.wa,h.dS,h.q.same hK,h.ql,h.qJ,h.ph⟩
theorem Xx (b:Bd) (k:Int):(b.vW k).count=b.count\/(b.vW k).count=b.count+1:=by
 unfold Bd.vW
 split
 ·exact .inr rfl
 ·exact .inl rfl
theorem CK.qR (h:CK N s c) (p:Nat) {c':CS} {t:CD} {ev:Option Ev} (hp:p<=7) (e:c'.aG=c.aG/\c'.dU=c.dU/\c'.cells=c.cells/\c'.room=c.room/\c'.bD=c.bD) (hc:c'.aP<2) (h1:c'.cu<=N+1) (h2:c'.je<=N+1) (h3:c'.kK<=N+1)
 (ht:qY c.aG c.dU c.cells t):Zv (N+1) c (Au s c' p t ev):=by
 obtain ⟨e1,e2,e3,e4,e5⟩:=e
 have hcn:=h.qJ
 have ha:0<=(s.B.vW (p:Int)).count/\(s.B.vW (p:Int)).count<=((N+1:Nat):Int):=by
  rcases Xx s.B (p:Int) with e|e<;>rw [e]<;>omega
 refine ⟨⟨by show s.aV.length=c'.aG;rw [e1];exact h.mu,by show 1<=c'.aG/\c'.aG<=8;rw [e1];exact h.mu1,by show c'.dU<=_;rw [e2];exact h.bl,by show c'.cells<=_;rw [e3];exact h.ce,by show 1<=c'.room/\c'.room<=_;rw [e4];exact h.rm,
  by show c'.bD.length<=c'.room;rw [e4,e5];exact h.bD,hc,h1,h2,h3,akp h.dS,fun k x hx=>h.q k x hx,fun k=>akp (h.ql k),ha,hp⟩,?_,e1,e2,e3⟩
 show qY c'.aG c'.dU c'.cells (.dJ 0 t)
 rw [e1,e2,e3]
 exact ⟨by have:=h.mu1;omega,ht⟩
theorem JK {mu bl ce v:Nat} {t:CD} (h:qY mu bl ce t):qY mu bl ce (fC v t):=by unfold fC;split<;>exact h
theorem Rt (_h:CK N s c) (i:Nat) (hi:i<=c.cells):qY c.aG c.dU c.cells (c.iI i):=by
 unfold CS.iI
 split
 ·trivial
 ·show i<c.cells;omega
theorem OB {mu bl ce a i n:Nat} {t:CD} (hi:i<=n) (hn:n<=100) (h:qY mu bl ce t):qY mu bl ce (fA a i n t):=by
 unfold fA
 split
 ·exact h
 ·exact ⟨by omega,hn,h⟩
theorem Ru (i:Nat) (hi:i<=c.dU):qY c.aG c.dU c.cells (c.iL i):=by
 unfold CS.iL
 split
 ·trivial
 ·show i<c.dU;omega
theorem NC (i:Nat) (hi:i<=c.dU):qY c.aG c.dU c.cells (c.lW i):=by
 unfold CS.lW
 split
 ·trivial
 ·show i<c.dU;omega
theorem GZ {mu bl ce:Nat} {l:List Nat} {t:CD} (hl:l.length<=1000) (h:qY mu bl ce t):qY mu bl ce (gX l t):=by
 unfold gX
 split
 ·exact h
 ·rename_i e;exact ⟨e,hl,h⟩
theorem afs (q:Qu) (k:Int) (b:Int) (j:Nat):((q.put k b).rw j).length<=(q.rw j).length+1:=by
 unfold Qu.put Qu.rw Qu.row
 simp only
 rw [ajg]
 by_cases e:k.toNat=j
 ·subst e
  by_cases hl:k.toNat<q.rows.length
  ·rw [ajA hl];simp
  ·rw [akq (by omega),<- ajg];omega
 ·rw [ajB e,<- ajg];omega
theorem V7 (q:Qu) (k:Int) (j:Nat):((q.take k).rw j).length<=(q.rw j).length:=by
 unfold Qu.take Qu.rw Qu.row
 simp only
 rw [ajg]
 by_cases e:k.toNat=j
 ·subst e
  by_cases hl:k.toNat<q.rows.length
  ·rw [ajA hl];simp
  ·rw [akq (by omega),<- ajg];omega
 ·rw [ajB e,<- ajg];omega
theorem rV.put {b:Nat} (h:rV s) (k:Int) (hb:s.H.K.getD b 0≠0):rV { s with Q:=s.Q.put k (b:Int) }:=fun j x hx=>by
 unfold Qu.put Qu.rw at hx
 simp only at hx
 rw [ajg] at hx
 by_cases e:k.toNat=j
 ·subst e
  by_cases hl:k.toNat<s.Q.rows.length
  ·rw [ajA hl] at hx
   simp only [Option.getD_some,List.mem_append,List.mem_singleton] at hx
   rcases hx with hx|rfl
   ·exact h _ x hx
   ·exact ⟨by omega,by simpa using hb⟩
  ·rw [akq (by omega),<- ajg] at hx
   exact h _ x hx
 ·rw [ajB e,<- ajg] at hx
  exact h _ x hx
theorem abK (h:CK N s c) (hb:HBd s.H) (d:CD) (hd:qY c.aG c.dU c.cells d):Zv (N+1) c (aN s c d):=by
 have h1:=h.more (aju N)
 have hmu:=h.mu1
 cases d with
 | nil=>exact h.next trivial
 | dJ m t =>
   simp only [aN]
   refine h.next ?_
   split
   ·exact hd
   ·split
    ·exact ⟨by omega,hd.2⟩
    ·exact hd.2
 | uY=>exact h.qR 2 (by decide) ⟨rfl,rfl,rfl,rfl,rfl⟩ h.aP h1.nH h1.dr h1.wa trivial
 | sW=>exact h.qR 3 (by decide) ⟨rfl,rfl,rfl,rfl,rfl⟩ h.aP h1.nH h1.dr h1.wa trivial
 | trace=>exact ⟨⟨h.mu,h.mu1,h.bl,h.ce,h.rm,h.bD,h.aP,h1.nH,h1.dr,h1.wa,h1.dS,h.q,h1.ql,h1.qJ,by show 4<=7;decide⟩,Rt h 0 (aki _),rfl,rfl,rfl⟩
 | cell i =>
   have hi:i<c.cells:=hd
   exact h.next (JK (Rt h (i+1) (by omega)))
 | lC v t =>
   simp only [aN]
   split
   ·have g:=(h1.heap (H:=s.H.eF v c.aP) (Rn _ _))
    have hs:=h.bD
    unfold CS.push
    simp only
    split
    ·exact ⟨⟨g.mu,g.mu1,g.bl,g.ce,g.rm,g.bD,g.aP,g.nH,g.dr,g.wa,g.dS,g.q,g.ql,g.qJ,g.ph⟩,hd,rfl,rfl,rfl⟩
    ·exact ⟨⟨g.mu,g.mu1,g.bl,g.ce,g.rm,by simp;omega,g.aP,g.nH,g.dr,g.wa,g.dS,g.q,g.ql,g.qJ,g.ph⟩,hd,rfl,rfl,rfl⟩
   ·exact h.next hd
 | work =>
   simp only [aN]
   split
   ·exact ⟨⟨h1.mu,h1.mu1,h1.bl,h1.ce,h1.rm,by show c.bD.dropLast.length<=c.room;have:=h.bD;simp;omega,h1.aP,h1.nH,h1.dr,h1.wa,h1.dS,h1.q,h1.ql,h1.qJ,h1.ph⟩,trivial,rfl,rfl,rfl⟩
   ·exact h.next (show 0<c.aG by omega)
 | iD a t=>exact h.next (OB (aki _) (hb.1 a) hd)
 | field a i n t =>
   obtain ⟨g1,g2,g3⟩:=hd
   exact h.next (JK (OB g1 g2 g3))
 | box m =>
   have hm:m<c.aG:=hd
   simp only [aN]
   split
   ·rename_i a l hl
    refine ⟨⟨by show (s.aV.set m l).length=_;simpa using h.mu,h1.mu1,h1.bl,h1.ce,h1.rm,h1.bD,h1.aP,h1.nH,h1.dr,h1.wa,h1.dS,fun k x hx=>h.q k x hx,h1.ql,h1.qJ,h1.ph⟩,JK hm,rfl,rfl,rfl⟩
   ·refine h.next ?_
    split
    ·assumption
    ·split<;>trivial
 | over =>
   simp only [aN]
   split
   ·split
    ·exact h.next trivial
    ·split
     ·exact ⟨⟨h1.mu,h1.mu1,h1.bl,h1.ce,h1.rm,h1.bD,h1.aP,h1.nH,h1.dr,h1.wa,h1.dS,h1.q,h1.ql,h1.qJ,by show 4<=7;decide⟩,trivial,rfl,rfl,rfl⟩
     ·exact h.next trivial
   ·exact ⟨⟨h1.mu,h1.mu1,h1.bl,h1.ce,h1.rm,h1.bD,h1.aP,h1.nH,h1.dr,by show c.kK+1<=N+1;have:=h.wa;omega,h1.dS,fun k x hx=>h.q k x hx,h1.ql,h1.qJ,h1.ph⟩,Ru (c:=c) 0 (aki _),rfl,rfl,rfl⟩
 | jV=>exact h.qR 5 (by decide) ⟨rfl,rfl,rfl,rfl,rfl⟩ h.aP h1.nH (by show c.je+1<=N+1;have:=h.dr;omega) h1.wa trivial
 | fP=>exact ⟨⟨h1.mu,h1.mu1,h1.bl,h1.ce,h1.rm,h1.bD,h1.aP,h1.nH,h1.dr,h1.wa,h1.dS,h1.q,h1.ql,h1.qJ,by show 6<=7;decide⟩,NC (c:=c) 0 (aki _),rfl,rfl,rfl⟩
 | iJ b =>
   have hbb:b<c.dU:=hd
   simp only [aN]
   split
   ·exact h.next (NC (b+1) hbb)
   ·rename_i hk
    exact ⟨⟨h1.mu,h1.mu1,h1.bl,h1.ce,h1.rm,h1.bD,h1.aP,h1.nH,h1.dr,h1.wa,h1.dS,h.q.put _ hk,fun j=>ajU (afs _ _ _ j) (Nat.succ_le_succ (h.ql j)),h1.qJ,h1.ph⟩,NC (b+1) hbb,rfl,rfl,rfl⟩
 | eX =>
   simp only [aN]
   split
   ·exact h.next trivial
   ·exact ⟨⟨h1.mu,h1.mu1,h1.bl,h1.ce,h1.rm,h1.bD,h1.aP,h1.nH,h1.dr,h1.wa,by show s.Q.dS+1<=N+1;have:=h.dS;omega,h.q.take _,fun j=>ajU (V7 _ _ j) (akp (h.ql j)),h1.qJ,h1.ph⟩,trivial,rfl,rfl,rfl⟩
 | block sl =>
   cases sl with
   | nil=>exact ⟨⟨h1.mu,h1.mu1,h1.bl,h1.ce,h1.rm,h1.bD,h1.aP,h1.nH,h1.dr,h1.wa,by show s.Q.dS - 1<=N+1;have:=h.dS;omega,h.q.done,h1.ql,h1.qJ,h1.ph⟩,trivial,rfl,rfl,rfl⟩
   | cons a r =>
     simp only [aN]
     split
     ·exact h.next trivial
     ·have g:=h1.heap (H:=s.H.jH a) (V3 a)
      exact ⟨g,trivial,rfl,rfl,rfl⟩
 | jR =>
   simp only [aN]
   refine h.next ?_
   split<;>trivial
 | off=>exact h.qR 7 (by decide) ⟨rfl,rfl,rfl,rfl,rfl⟩ h.aP h1.nH h1.dr h1.wa trivial
 | jE=>exact ⟨⟨h1.mu,h1.mu1,h1.bl,h1.ce,h1.rm,h1.bD,h1.aP,h1.nH,h1.dr,h1.wa,h1.dS,h1.q,h1.ql,h1.qJ,aki _⟩,trivial,rfl,rfl,rfl⟩
 | iy b =>
   have hbb:b<c.dU:=hd
   exact h.next (GZ (hb.2 b) (Ru (b+1) hbb))
 | bH l t =>
   obtain ⟨g1,g2,g3⟩:=hd
   have hl:l.tail.length<=1000:=by simp;omega
   simp only [aN]
   refine h.next ?_
   split
   ·exact GZ hl g3
   ·exact GZ hl g3
 | ig t =>
   simp only [aN]
   split
   ·exact ⟨⟨h1.mu,h1.mu1,h1.bl,h1.ce,h1.rm,by show c.bD.dropLast.length<=c.room;have:=h.bD;simp;omega,h1.aP,h1.nH,h1.dr,h1.wa,h1.dS,h1.q,h1.ql,h1.qJ,h1.ph⟩,hd,rfl,rfl,rfl⟩
   ·exact h.next hd
theorem Zw (h:CK N s c):Zv (N+1) c (mD s c):=by
 have h1:=h.more (aju N)
 exact h.qR 1 (by decide) ⟨rfl,rfl,rfl,rfl,rfl⟩ (by show 1 - c.aP<2;omega) (by show c.cu+1<=N+1;have:=h.nH;omega) h1.dr h1.wa trivial
structure OC (N:Nat) (s:Sh) (c:CS):Prop where
 k:CK N s c
 nx:qY c.aG c.dU c.cells c.next
theorem abL (h:OC N s c) (hb:HBd s.H):OC (N+1) (dX s c).s (dX s c).c/\(dX s c).c.aG=c.aG/\(dX s c).c.dU=c.dU/\(dX s c).c.cells=c.cells:=by
 have key:∀ r:pO,Zv (N+1) c r->OC (N+1) r.s { r.c with next:=r.next }/\r.c.aG=c.aG/\r.c.dU=c.dU/\r.c.cells=c.cells:=fun r hr=>by
  have g:=hr.k
  exact ⟨⟨⟨g.mu,g.mu1,g.bl,g.ce,g.rm,g.bD,g.aP,g.nH,g.dr,g.wa,g.dS,g.q,g.ql,g.qJ,g.ph⟩,hr.nx⟩,hr.mu,hr.bl,hr.ce⟩
 unfold dX
 split
 ·exact key (aN s c c.next) (abK h.k hb c.next h.nx)
 ·split
  ·exact key (mD s c) (Zw h.k)
  ·exact key ⟨s,c,.nil,none⟩ (h.k.next trivial)
end
end
section
attribute [local go_sem ↓] nD
attribute [local go_sem] Oper.semAt_some
open Go.RowKit
section
variable {c:bK} {b ww:Nat} (hok:c.ok=true) (hb:c.b=b) (hw:c.w=ww)
include hok hb hw
theorem KR (k B0:Nat) (hk:k<4) (hB:B0<b) (w:World) (hT:lu w) (hS:jk w):Calls aA 103 #[.agg c.cells.toArray,ah (k:Int),ah (B0:Int)] w fun e w'=>∃ v,e = .returned v/\w'.ownsRow w.heap.size 3 1 v (ww/2^(k+1)) ((mP (ww/2^(k+1)) (2^(k+1)) (B0*ww)).map fun x:Nat => ah (x:Int))/\aj aB w w':=by
 have hn:=qH hok hb hw
 have hz:=xZ hk
 have ahI:Hid (∀ j x W,x=B0*ww+j*2^(k+1)->j<ww/2^(k+1)->aj aB w W->Calls aA 147 #[.agg c.cells.toArray,ah (k:Int),ah (B0:Int),ah (j:Int)] W fun e w'=>e = .returned (ah ((x:Int)+1))/\aj aB W w'):=fun j x W hx hj hW=>by rw [hx];exact Zj hok hb hw k B0 j hk hB hj W (hT.aK hW) (hS.aK hW)
 have Ac:Hid (∀ j,j<ww/2^(k+1)->B0*ww+j*2^(k+1)<1048577):=fun j hj=>by
  have h1:j*2^(k+1)<=(ww/2^(k+1))*2^(k+1):=ajE _ (Nat.le_of_lt hj)
  have h2:=Nat.div_mul_le_self ww (2^(k+1))
  have h3:(B0+1)*ww<=b*ww:=ajE ww (Nat.succ_le_of_lt hB)
  have h4:(B0+1)*ww=B0*ww+ww:=by rw [Nat.add_mul,Nat.one_mul]
  omega
 have OD:Hid (ww/2^(k+1)<=256):=ajU (ajx _ _) hn.2.2.2.1
 obtain ⟨W0,hW0⟩:∃ W',W'=(((w.alloc (.cells c.cells.toArray 23)).alloc (.cells #[ah (k:Int)] 3)).alloc (.cells #[ah (B0:Int)] 3)).alloc (.cells #[.slice none 0 0] 32):=⟨_,rfl⟩
 have hk0:aj aB w W0:=by rw [hW0];exact ((((aj.refl _ _).alloc _).alloc _).alloc _).alloc _
 have HK:=ay hk0
 have Aa:=ay (show aF W0 w.heap.size c.cells 23 by rw [hW0];exact (((aF.bC w _ _).alloc _).alloc _).alloc _)
 have gQ:Hid (aF W0 (w.heap.size+1) [ah (k:Int)] 3):=by
  rw [hW0]
  have h:=aF.bC (w.alloc (.cells c.cells.toArray 23)) [ah (k:Int)] 3
  rw [ajq] at h
  exact (h.alloc _).alloc _
 have HB0:Hid (aF W0 (w.heap.size+1+1) [ah (B0:Int)] 3):=by
  rw [hW0]
  have h:=aF.bC ((w.alloc (.cells c.cells.toArray 23)).alloc (.cells #[ah (k:Int)] 3)) [ah (B0:Int)] 3
  rw [ajq,ajq] at h
  exact h.alloc _
 have Zr:Hid (aF W0 (w.heap.size+1+1+1) [.slice none 0 0] 32):=by
  rw [hW0]
  have h:=aF.bC (((w.alloc (.cells c.cells.toArray 23)).alloc (.cells #[ah (k:Int)] 3)).alloc (.cells #[ah (B0:Int)] 3)) [.slice none 0 0] 32
  rw [ajq,ajq,ajq] at h
  exact h
 have HST:=ay (Q9 (ww:Int) (k:Int) W0)
 have zl:Hid (W0.heap.size=w.heap.size+1+1+1+1):=by rw [Hid,hW0];simp
 have ND:Hid (∀ W,aj aB w W->∀ pB kB,aF W pB [ah (ww:Int)] 3->aF W kB [ah (k:Int)] 3->JE Fence.wide 8 aA 193 #[au pB,au kB] (BR (ww/2^(k+1)) (2^(k+1))) Fj (BU pB kB) W):=fun W hW pB kB h1 h2=>Xm ww k pB kB ⟨hn.2.2.1,hn.2.2.2.1⟩ hk 8 W (hS.aK hW) h1 h2
 have HSG:Hid (2<w.heap.size):=by
  have h:=hS 0 2 rfl
  exact World.block_lt_of_cell? _ _ h
 generalize 2^(k+1)=z at *
 generalize ww/z=per at *
 generalize hbase:B0*ww=bP at *
 obtain ⟨c0,c1,c2,c3,c4,c5,c6⟩:=c
 simp only at hb hw
 subst hb hw
 simp only [bK.cells] at *
 have y1:=Aa.out.cell 1 rfl
 have y2:=gQ.out.cell 0 rfl
 clear hT hS hok hn hz hk hB hk0 hbase
 refine (callsIn_wide (n:=9)).1 ?_
 refine callsIn_of_wp_marks func103 rfl trivial ?_ rfl
 refine wpIn_wide.2 ?_
 simp only [ntmps103,List.size_toArray,List.length_cons,List.length_nil,Nat.reduceAdd,Nat.reduceSub,Array.replicate_succ,Array.replicate_zero,List.push_toArray,List.append_toArray,akr,List.cons_append]
 go_wp2_with fail
 rw [<- hW0]
 clear hW0 y1 y2
 refine HST.out.mono ?_
 rintro e w1 ⟨rfl,hp1,hk1,hkk⟩
 have Zx:=ay (ND.out w1 (HK.out.trans hkk) _ _ hp1 hk1)
 have HI1:Hid (GU w w1.heap.size (w.heap.size+1+1+1) [ah (b:Int),ah (ww:Int),ah c2,ah c3,ah c4,ah c5,ah c6] k B0 z bP 0 w1) :=
  ⟨HK.out.trans hkk,hkk.aH Aa.out (fun f=>f),hkk.aH gQ.out (fun f=>f),hkk.aH HB0.out (fun f=>f),Nat.le_refl _,_,hkk.aH Zr.out (fun f=>f),⟨rfl,.inl ⟨rfl,rfl⟩⟩⟩
 have AO:Hid (∀ i,BU W0.heap.size (W0.heap.size+1) i->i<w1.heap.size/\i≠w.heap.size+1+1+1):=by
  have h1:=hk1.lt;have h2:=zl.out;have h3:=HSG.out;have h4:=hkk.size
  rintro i (rfl|rfl|rfl)
  ·exact ⟨by omega,by omega⟩
  ·exact ⟨by omega,by omega⟩
  ·exact ⟨by omega,by omega⟩
 have DC:Hid (w.heap.size<=w1.heap.size/\w.heap.size+1+1+1<w1.heap.size):=⟨(HK.out.trans hkk).size,by have h1:=hk1.lt;have h2:=zl.out;omega⟩
 have aiH:Hid (W0.heap.size+2<=w1.heap.size):=by have h1:=hk1.lt;unfold Hid;omega
 clear hp1 hk1 hkk HST ND Aa gQ HB0 Zr
 go_wp2_with fail
 refine wpIn_wide (n:=9) |>.1 ?_
 refine Nw rfl (by decide) (gf:=193) (lb:=#[au W0.heap.size,au (W0.heap.size+1)]) rfl trivial (fun args w=>by simp [callFunc,func193,go_sem];rfl) (all:=BR per z) (Enc:=Fj) (G:=BU W0.heap.size (W0.heap.size+1))
  Zx.out ?hG ?hps
  (fun j W=>GU w w1.heap.size (w.heap.size+1+1+1) [ah (b:Int),ah (ww:Int),ah c2,ah c3,ah c4,ah c5,ah c6] k B0 z bP j W)
  (fun _ _ _=>False)
  ?hI ?hIx ?h0 ?round ?done ?stop
 case hI=>exact GU.own DC.out.1
 case hIx=>exact fun c s W W' row h hg hr=>h
 case h0=>exact HI1.out
 case hG=>exact fun i hi=>(AO.out i hi).1
 case hps =>
  rintro W x args h
  rw [h];rfl
 case stop=>exact fun D c k W hD hk h=>h.elim
 case round =>
  rintro l j x args W hx henc hI
  have hj:j<per:=by
   have h:=(ake.1 hx).1
   rwa [Bg] at h
  rw [Ou hj] at hx
  injection hx with hx
  subst hx
  obtain rfl:args=_:=henc
  have HI:=ay hI
  clear hI
  gi_wp2_with fail
  refine ⟨fun W=>GU w w1.heap.size (w.heap.size+1+1+1) [ah (b:Int),ah (ww:Int),ah c2,ah c3,ah c4,ah c5,ah c6] k B0 z bP j W,KeepsFrom.refl _ _,jG.refl _ _,HI.out,(fun _ W' W'' row h hg hr=>GU.own DC.out.1 j W' W'' row h hg hr),?_⟩
  clear HI
  rintro W2 hI
  have Jg:Hid (w1.heap.size<=W2.heap.size):=hI.kD
  have q0:=hI.cf.cell 0 rfl;have q1:=hI.cf.cell 1 rfl;have q2:=hI.cf.cell 2 rfl;have q3:=hI.cf.cell 3 rfl;have q4:=hI.cf.cell 4 rfl;have q5:=hI.cf.cell 5 rfl;have q6:=hI.cf.cell 6 rfl
  have qk:=hI.k.cell 0 rfl
  have qb:=hI.b.cell 0 rfl
  have qV:=Ac.out j hj
  obtain ⟨x,hx⟩:∃ x,x=bP+j*z:=⟨_,rfl⟩
  rw [<- hx] at qV
  have HX:=ay hx
  have hpos:(0:Int)<(x:Int)+1:=by omega
  have HA:=ay (ahI.out j x W2 hx hj hI.aK)
  clear hx
  have HI:=ay hI
  clear hI
  gi_wp2_with fail
  refine ⟨trivial,CallsIn.mono (CallsIn.inRound l (callsIn_wide.2 HA.out)) ?_⟩
  rintro e w3 ⟨rfl,hk3⟩
  have HI3:=ay (HI.out.later hk3)
  have Zy:=ay (KeepsFrom.sG (B:=w1.heap.size) hk3)
  have DF:=ay (jG.sG (G:=BU W0.heap.size (W0.heap.size+1)) hk3 (fun i hi=>⟨ajf (AO.out i hi).1 (Jg.out),fun f=>f⟩))
  clear hk3 q0 q1 q2 q3 q4 q5 q6 qk qb HI HA
  obtain ⟨v,xq,hrow⟩:=HI3.out.o
  obtain ⟨W4,l9⟩:∃ W',W'=w3.alloc (.cells #[ah ((x:Int)+1)] 3):=⟨_,rfl⟩
  have hk4:aj aB w3 W4:=by rw [l9];exact (aj.refl _ _).alloc _
  obtain ⟨g,aO,w5,hrun,hown,hgr,hwh⟩:=uJ (P:=aA) W4 32 32 3 (by kernel_rfl) Tryz.infoInt rfl (bQ (bY hrow hk4) (aki _)) (N:=w3.heap.size) (u := ah ((x:Int)+1)) (by rw [l9];exact (aF.bC w3 _ _).cell 0 rfl) rfl (by decide) (by have:=OD.out;omega)
  have hrun9:(app9 #[32,32] 32 #[v,.slice (some ⟨w3.heap.size,0,none⟩) 1 1]).run aA (w3.alloc (.cells #[ah ((x:Int)+1)] 3)) = .ok (.slice (some ⟨g,0,none⟩) (j+1) aO) w5:=by rw [<- l9];exact hrun
  have cO:=xq.cell 0 (v:=v) rfl
  have hne:v.ownBlock≠some (w.heap.size+1+1+1):=nC xq hrow (by decide)
  have hbo5:=(hk4.aH xq (fun f=>f)).qh hgr hne
  have cO5:=hbo5.cell 0 (v:=v) rfl
  have fO5:=hbo5.free 0
  have hge:∀ q,v.ownBlock=some q->w1.heap.size<=q:=fun q hq=>(World.ownsRow.lt hrow q hq).1
  have hge':w1.heap.size<=g:=by
   rcases hwh with h|h
   ·exact hge g h
   ·have h1:=HI3.out.kD;have h2:=hk4.size;omega
  have iH:Hid (GU w w1.heap.size (w.heap.size+1+1+1) [ah (b:Int),ah (ww:Int),ah c2,ah c3,ah c4,ah c5,ah c6] k B0 z bP (j+1) (w5.setCell ⟨w.heap.size+1+1+1,0,none⟩ (.slice (some ⟨g,0,none⟩) (j+1) aO))/\KeepsFrom w1.heap.size W2 (w5.setCell ⟨w.heap.size+1+1+1,0,none⟩ (.slice (some ⟨g,0,none⟩) (j+1) aO))/\jG (BU W0.heap.size (W0.heap.size+1)) W2 (w5.setCell ⟨w.heap.size+1+1+1,0,none⟩ (.slice (some ⟨g,0,none⟩) (j+1) aO))):=by
   have hk5:aj aB w w5:=(HI3.out.aK.trans hk4).afj (bY hrow hk4) DC.out.1 hgr
   have hneq:∀ q,q<w1.heap.size->v.ownBlock≠some q:=fun q hq e=>by have:=hge q e;omega
   have h01:=DC.out
   refine ⟨⟨hk5.iP (by omega) _ _,?_,?_,?_,?_,.slice (some ⟨g,0,none⟩) (j+1) aO,?_,?_⟩,?_,?_⟩
   ·exact (((hk4.aH HI3.out.cf (fun f=>f)).qh hgr (hneq _ (by omega))).uh (by simp;omega) _)
   ·exact (((hk4.aH HI3.out.k (fun f=>f)).qh hgr (hneq _ (by omega))).uh (by simp) _)
   ·exact (((hk4.aH HI3.out.b (fun f=>f)).qh hgr (hneq _ (by omega))).uh (by simp) _)
   ·have h1:=HI3.out.kD;have h2:=hk4.size;have h3:=hgr.size;simp;omega
   ·exact hbo5.set 0 _
   ·rw [Vb,List.map_append,<- HX.out]
    exact Rf (zY (a:=⟨w.heap.size+1+1+1,0,none⟩) hown (fun q hq=>by simp [Value.ownBlock] at hq;show q≠w.heap.size+1+1+1;have h1:=DC.out;omega) _) hge'
   ·refine (Zy.out.trans (KeepsFrom.sG hk4)).trans (KeepsFrom.trans (Y:=w5) ⟨hgr.size,fun q o hB hq ho=>(hgr.block q (Array.getElem?_eq_some_iff.1 hq).1 (fun e=>?_)).trans hq⟩ ((KeepsOthers.setCell _ _ _).from _))
    obtain ⟨cur,hcur⟩:=nG (bQ (bY hrow hk4) (aki _)) e.symm
    rw [hcur] at hq
    cases hq
    simp [Obj.isCells] at ho
   ·refine (DF.out.trans (jG.sG hk4 (fun i hi=>⟨ajf (AO.out i hi).1 HI3.out.kD,fun f=>f⟩))).trans ⟨by simp;exact hgr.size,fun i hi=>?_⟩
    have h1:=AO.out i hi
    rw [Below.heap_setCell _ _ _ _ (by simp;exact h1.2)]
    exact hgr.block i (ajf h1.1 (ajU HI3.out.kD hk4.size)) (fun e=>hneq i h1.1 e.symm)
  clear hge hge' hne xq hbo5 hgr hown hwh hrun hk4 hrow l9
  gi_wp2_with fail
  exact ⟨iH.out.2.1,iH.out.2.2,iH.out.1⟩
 case done =>
  rintro D W hD hI EG
  rw [Bg] at hI
  obtain ⟨v,xq,hrow⟩:=hI.o
  have cO:=xq.cell 0 (v:=v) rfl
  have Rw:=hI.aK.takeDeferred (D:=D) (by have:=DC.out.1;omega) (.deferred none)
  have qO:=ay hrow
  clear hrow
  go_wp2_with fail
  refine ⟨by simp,.inl ⟨_,_,rfl,run_takeDeferred EG,?_⟩⟩
  refine ⟨v,by simp [results,Tryz.f103,go_sem],v,rfl,bQ (gK (S:=fun i=>i=D) qO.out ⟨rfl,rfl,rfl,by simp,fun q _ n=>World.putObj_heap_other n⟩ (fun q hq e=>?_)) DC.out.1,Rw⟩
  obtain ⟨cur,hcur⟩:=nG (bQ qO.out (aki _)) hq
  rw [e,EG] at hcur
  cases hcur
end
end
section
open Go.RowKit
theorem OE (a:Option Addr) (n c:Nat) (zs:List Int) (m:Int) (w:World) (h:gY .i64 w a n zs) (hm:n<=9223372036854775807) :
 Calls aA 100 #[.slice a n c,ah m] w fun e w'=>(∃ r:Int,e = .returned (ah r)/\((∃ i:Nat,i<n/\r=(i:Int)/\zs.getD i 0=m/\∀ j,j<i->zs.getD j 0≠m)\/(r = -1/\∀ j,j<n->zs.getD j 0≠m)))/\w=w':=by
 go_enter func100,ntmps100
 go_wp2
 go_loop [8] (fun i=>∃ k:Nat,k<=n/\i = ah k/\∀ j,j<k->zs.getD j 0≠m) (fun i=>n - (intOf i).toNat)
 case atStart=>exact ⟨0,aki _,rfl,fun j hj=>absurd hj (by omega)⟩
 case round =>
  obtain ⟨k,hk,rfl,hr⟩:=hrel
  have hl:=h.len
  by_cases hlt:k<n
  ·obtain ⟨b,off,rfl,hc⟩:=h.ni (by omega)
   have hck:=hc k hlt
   by_cases hx:zs.getD k 0=m
   ·rw [hx] at hck
    have HE:Hid ((∃ i:Nat,i<n/\(k:Int)=(i:Int)/\zs.getD i 0=m/\∀ j,j<i->zs.getD j 0≠m)):=⟨k,hlt,rfl,hx,hr⟩
    clear hc hr h hx hl
    go_wp2
    go_ret
    exact ⟨⟨_,rfl,.inl HE.out⟩,rfl⟩
   ·have hne:(m==zs.getD k 0)=false:=by simpa using fun e:m=_=>hx e.symm
    have HR:Hid (∀ j,j<k+1->zs.getD j 0≠m):=fun j hj=>by
     rcases Nat.lt_succ_iff_lt_or_eq.1 hj with h1|h1
     ·exact hr j h1
     ·rw [h1];exact hx
    generalize zs.getD k 0=x at hck hne
    clear hc hr h hx hl
    go_wp2
    go_round
    case rel=>exact ⟨k+1,by omega,by go_num,HR.out⟩
    case measure=>simp [intOf];omega
  ·have HE:Hid (∀ j,j<n->zs.getD j 0≠m):=fun j hj=>hr j (by omega)
   clear hr h hl
   go_wp2
   go_ret
   exact ⟨⟨_,rfl,.inr ⟨rfl,HE.out⟩⟩,rfl⟩
def aS (K:List Nat):List Value:=K.map (fun x:Nat => ah (x:Int))
theorem uw {K:List Nat} {p:Nat} (hp:p<K.length):(aS K)[p]?=some (ah (K.getD p 0:Nat)):=by
 unfold aS
 rw [aks,ajh hp,ajg,ajh hp];rfl
theorem Fq (K:List Nat) (p x:Nat):aS (K.set p x)=(aS K).set p (ah (x:Int)):=by
 unfold aS
 rw [akj]
structure iF (w:World) (R X:Nat) (c:bK) (K:List Nat):Prop where
 aH:aF w R (c.cells++[.slice (some ⟨X,0,none⟩) K.length K.length]) 145
 jh:aF w X (aS K) 3
 len:c.b=(K.length:Int)
 le:∀ x∈K,x<=4
 ok:c.ok=true
section
variable {w w':World} {R X:Nat} {c:bK} {K:List Nat}
theorem iF.aK {S:Nat->Prop} (h:iF w R X c K) (k:aj S w w') (hR:¬ S R) (hX:¬ S X):iF w' R X c K :=
 ⟨k.aH h.aH hR,k.aH h.jh hX,h.len,h.le,h.ok⟩
theorem iF.still (h:iF w R X c K) (k:aj aB w w'):iF w' R X c K:=h.aK k (fun f=>f) (fun f=>f)
theorem iF.ne (h:iF w R X c K):R≠X:=fun e=>by
 have h1:=h.aH
 rw [e] at h1
 exact absurd (h1.jL h.jh).2 (by decide)
theorem iF.lU (h:iF w R X c K):1<=K.length/\K.length<=4096:=by
 have h1:=(jC h.ok).1
 have h2:=h.len
 omega
theorem iF.aft (h:iF w R X c K):gY .i64 w (some ⟨X,0,none⟩) K.length (K.map (fun x:Nat=>(x:Int))):=by
 refine ⟨by simp,fun _=>⟨X,0,rfl,fun j hj=>?_⟩⟩
 rw [Nat.zero_add]
 have e:(K.map (fun x:Nat=>(x:Int))).getD j 0=(K.getD j 0:Nat):=by
  rw [ajg,aks,ajh hj,ajg,ajh hj];rfl
 rw [e]
 exact h.jh.cell j (uw hj)
theorem zN (h:iF w R X c K):Calls aA 53 #[au R] w fun e w'=>e = .returned (.agg c.cells.toArray)/\aj aB w w':=by
 have hb:=h.aH
 obtain ⟨c0,c1,c2,c3,c4,c5,c6⟩:=c
 simp only [bK.cells,List.cons_append,akr] at hb ⊢
 have HA:∀ o,aj aB w (w.alloc o):=fun o=>(aj.refl _ _).alloc o
 have s0:=fun o=>(HA o).still (hb.cell 0 rfl);have s1:=fun o=>(HA o).still (hb.cell 1 rfl);have s2:=fun o=>(HA o).still (hb.cell 2 rfl);have s3:=fun o=>(HA o).still (hb.cell 3 rfl);have s4:=fun o=>(HA o).still (hb.cell 4 rfl);have s5:=fun o=>(HA o).still (hb.cell 5 rfl);have s6:=fun o=>(HA o).still (hb.cell 6 rfl)
 have HB:Hid (∀ o,aj aB w (w.alloc o)):=HA
 clear HA
 clear h hb
 go_enter func53,ntmps53
 go_wp2_with fail
 obtain ⟨W1,hW1⟩:∃ W',W'=w.alloc (.cells #[ah c0,ah c1,ah c2,ah c3,ah c4,ah c5,ah c6] 23):=⟨_,rfl⟩
 rw [<- hW1]
 have hF:aF W1 w.heap.size [ah c0,ah c1,ah c2,ah c3,ah c4,ah c5,ah c6] 23:=by rw [hW1];exact aF.bC w _ _
 have k0:=hF.cell 0 rfl;have k1:=hF.cell 1 rfl;have k2:=hF.cell 2 rfl;have k3:=hF.cell 3 rfl;have k4:=hF.cell 4 rfl;have k5:=hF.cell 5 rfl;have k6:=hF.cell 6 rfl
 refine bodyPost_ret (v := .agg #[ah c0,ah c1,ah c2,ah c3,ah c4,ah c5,ah c6]) (by simp [results,Tryz.f53,go_sem,k0,k1,k2,k3,k4,k5,k6]) rfl ⟨rfl,?_⟩
 rw [hW1];exact HB.out _
theorem G5 (h:iF w R X c K) (B k:Nat) (hB:B<K.length) (hk:K.getD B 0=k+1) (h4:k<4):Calls aA 102 #[au R,ah (B:Int)] w fun e w'=>e = .returned (.tuple #[ah (k:Int),.bool true])/\w=w':=by
 have hb:=h.aH
 obtain ⟨c0,c1,c2,c3,c4,c5,c6⟩:=c
 simp only [bK.cells,List.cons_append,akr] at hb
 have y7:=hb.cell 7 rfl
 have z:=h.jh.cell B (uw hB)
 rw [hk] at z
 have hs:=h.lU
 have d1:decide ((K.length:Int)<=(B:Int))=false:=gJ (by omega)
 have d2:((((k+1:Nat):Int))==0)=false:=by simp;omega
 have d3:IntKind.i64.wrap ((((k+1:Nat):Int)) - 1)=(k:Int):=by rw [ajw _ (by omega)];omega
 obtain ⟨q,hq⟩:∃ q:Int,q=((k+1:Nat):Int):=⟨_,rfl⟩
 rw [<- hq] at z d2 d3
 have hBI:(B:Int)<(K.length:Int):=by omega
 have Jh:(0:Int)<=(B:Int):=by omega
 generalize K.length=L at *
 clear h hb hk hs hq hB
 go_enter func102,ntmps102
 go_wp2_with fail
 go_ret2
 exact ⟨rfl,rfl⟩
theorem Zz (h:iF w R X c K) (ww B k s:Nat) (hw:c.w=ww) (hB:B<K.length) (hk:K.getD B 0=k+1) (h4:k<4) (hs:s<ww/2^(k+1)) (hT:lu w) (hS:jk w):Calls aA 149 #[au R,ah (((B*ww+s*2^(k+1):Nat):Int)+1)] w fun e w'=>e = .returned (.tuple #[ah (B:Int),ah (k:Int),.bool true])/\aj aB w w':=by
 have hn:=qH h.ok h.len hw
 have hz:=xZ h4
 obtain ⟨q1,q2,q3,q4,q5⟩:=Fh (b:=K.length) (j:=0) hz ⟨hn.2.2.1,hn.2.2.2.1⟩ hB hs (by omega)
 have HF:Hid (∀ W,aj aB w W->Calls aA 197 #[.agg c.cells.toArray,ah (k:Int),ah (((B*ww+s*2^(k+1):Nat):Int)+1)] W fun e w'=>e = .returned (.tuple #[.agg #[ah (B:Int),ah (s:Int),ah 0],.bool true])/\aj aB W w'):=fun W hW=>Ot h.ok h.len hw k B s 0 h4 hB hs (by omega) W (hT.aK hW) (hS.aK hW)
 have HAB:Hid (∀ W,aj aB w W->Calls aA 196 #[.agg c.cells.toArray,ah (((B*ww+s*2^(k+1):Nat):Int)+1)] W fun e w'=>e = .returned (.tuple #[ah (B:Int),.bool true])/\aj aB W w'):=fun W hW=>by
  have h9:=Bc h.ok h.len hw (B*ww+s*2^(k+1)) (by simpa using q2) W (hT.aK hW)
  rw [show (B*ww+s*2^(k+1))/ww=B by simpa using q3] at h9
  exact h9
 have HC:Hid (∀ W,aj aB w W->Calls aA 53 #[au R] W fun e w'=>e = .returned (.agg c.cells.toArray)/\aj aB W w'):=fun W hW=>zN (h.still hW)
 have uN:Hid (∀ W,aj aB w W->Calls aA 102 #[au R,ah (B:Int)] W fun e w'=>e = .returned (.tuple #[ah (k:Int),.bool true])/\W=w'):=fun W hW=>G5 (h.still hW) B k hB hk h4
 generalize (((B*ww+s*2^(k+1):Nat):Int)+1)=a at *
 obtain ⟨c0,c1,c2,c3,c4,c5,c6⟩:=c
 simp only [bK.cells] at *
 have HKK:=ay (aj.refl aB w)
 clear h hn hz q1 q2 q3 q4 q5 hB hk h4 hs hT hS hw
 go_enter func149,ntmps149
 go_wp2_with (first
  | (go_at_call 53;refine (HC.out _ HKK.out).mono ?_;rintro e w1 ⟨rfl,hk1⟩;have HKK:=ay (HKK.out.trans hk1);clear hk1)
  | (go_at_call 196;refine (HAB.out _ HKK.out).mono ?_;rintro e w1 ⟨rfl,hk1⟩;have HKK:=ay (HKK.out.trans hk1);clear hk1)
  | (go_at_call 197;refine (HF.out _ HKK.out).mono ?_;rintro e w1 ⟨rfl,hk1⟩;have HKK:=ay (HKK.out.trans hk1);clear hk1)
  | (go_at_call 102;refine (uN.out _ HKK.out).mono ?_;rintro e w1 ⟨rfl,rfl⟩))
 go_ret3
 exact ⟨rfl,HKK.out.alloc _⟩
theorem ZA (h:iF w R X c K) (ww B k:Nat) (hw:c.w=ww) (hB:B<K.length) (hk:K.getD B 0=k+1) (h4:k<4) (hT:lu w) (hS:jk w):Calls aA 63 #[au R,ah (B:Int)] w fun e w'=>∃ v,e = .returned v/\w'.ownsRow w.heap.size 3 1 v (ww/2^(k+1)) ((mP (ww/2^(k+1)) (2^(k+1)) (B*ww)).map fun x:Nat => ah (x:Int))/\aj aB w w':=by
 have HA:=ay (KR h.ok h.len hw k B h4 hB w hT hS)
 have uN:=ay (G5 h B k hB hk h4)
 have hb:=h.aH
 obtain ⟨c0,c1,c2,c3,c4,c5,c6⟩:=c
 simp only [bK.cells,List.cons_append,akr] at *
 have y0:=hb.cell 0 rfl;have y1:=hb.cell 1 rfl;have y2:=hb.cell 2 rfl;have y3:=hb.cell 3 rfl;have y4:=hb.cell 4 rfl;have y5:=hb.cell 5 rfl;have y6:=hb.cell 6 rfl
 generalize mP (ww/2^(k+1)) (2^(k+1)) (B*ww)=sl at *
 generalize ww/2^(k+1)=per at *
 clear h hb hB hk h4 hT hS hw
 go_enter func63,ntmps63
 go_wp2_with (first
  | (go_at_call 102;refine uN.out.mono ?_;rintro e w1 ⟨rfl,rfl⟩)
  | (go_at_call 103;refine HA.out.mono ?_;rintro e w1 ⟨v,rfl,ho,hk1⟩;have HO:=ay ho;have HKK:=ay hk1;clear ho hk1))
 go_ret
 exact ⟨_,rfl,HO.out,HKK.out⟩
theorem Xy (h:iF w R X c K) (B k:Nat) (hB:B<K.length) (hk:K.getD B 0=0) (hl:∀ j,j<B->K.getD j 0≠0) (h4:k<4):Calls aA 203 #[au R,ah (k:Int)] w fun e w'=>e = .returned (.tuple #[ah (B:Int),ah 0])/\iF w' R X c (K.set B (k+1))/\aj (only X) w w':=by
 have hgd:∀ j,j<K.length->(K.map (fun x:Nat=>(x:Int))).getD j 0=(K.getD j 0:Nat):=fun j hj=>by
  rw [ajg,aks,ajh hj,ajg,ajh hj];rfl
 have HIX:Hid (Calls aA 100 #[.slice (some ⟨X,0,none⟩) K.length K.length,ah 0] w fun e w'=>e = .returned (ah (B:Int))/\w=w'):=by
  refine (OE (some ⟨X,0,none⟩) K.length K.length _ 0 w h.aft (by have:=h.lU;omega)).mono ?_
  rintro e w' ⟨⟨r,rfl,hr⟩,rfl⟩
  refine ⟨?_,rfl⟩
  rcases hr with ⟨i,hi,rfl,hi0,hil⟩|⟨_,hno⟩
  ·rw [hgd i hi] at hi0
   have e:i=B:=by
    rcases Nat.lt_trichotomy i B with h1|h1|h1
    ·exact absurd (akt.1 hi0) (hl i h1)
    ·exact h1
    ·have:=hil B h1
     rw [hgd B hB,hk] at this
     exact absurd rfl this
   rw [e]
  ·have:=hno B hB
   rw [hgd B hB,hk] at this
   exact absurd rfl this
 have HI:=ay (qA (k:Int) w)
 rw [fK (by omega)] at HI
 have hb:=h.aH
 have H:=ay h
 obtain ⟨c0,c1,c2,c3,c4,c5,c6⟩:=c
 simp only [bK.cells,List.cons_append,akr] at hb
 have y7:=hb.cell 7 rfl
 have z:=h.jh.cell B (uw hB)
 have fz:=h.jh.free B
 have hs:=h.lU
 have HBK:Hid (B<K.length):=hB
 have hBI:(B:Int)<(K.length:Int):=by omega
 have Jh:(0:Int)<=(B:Int):=by omega
 have d0:¬ ((B:Int)<0):=by omega
 have hwr:IntKind.i64.wrap ((k:Int)+1)=(k:Int)+1:=ajw _ (by omega)
 have H4:Hid (k<4):=h4
 generalize hL:K.length=L at *
 clear h hb hk hl h4 hgd hs hB
 go_enter func203,ntmps203
 go_wp2_with (first|(go_at_call 198;refine HI.out.mono ?_;rintro e w1 ⟨rfl,rfl⟩)|(go_at_call 100;refine HIX.out.mono ?_;rintro e w1 ⟨rfl,rfl⟩))
 go_ret2
 have h9:=H.out
 have hkw:aj (only X) w (w.setCell ⟨X,B,none⟩ (ah ((k:Int)+1))):=(aj.refl _ _).put _ _
 refine ⟨rfl,⟨?_,?_,?_,?_,h9.ok⟩,hkw⟩
 ·rw [aku];exact hkw.aH h9.aH h9.ne
 ·rw [Fq];exact h9.jh.set _ _
 ·rw [aku];exact h9.len
 ·intro x hx
  rcases ajL hx with h1|rfl
  ·exact h9.le x h1
  ·have:=H4.out;omega
theorem Rx (h:iF w R X c K) (k:Nat) (hl:∀ j,j<K.length->K.getD j 0≠0) (h4:k<4):Calls aA 203 #[au R,ah (k:Int)] w fun e w'=>e = .returned (.tuple #[ah 0,ah 10])/\w=w':=by
 have HIX:Hid (Calls aA 100 #[.slice (some ⟨X,0,none⟩) K.length K.length,ah 0] w fun e w'=>e = .returned (ah (-1))/\w=w'):=by
  refine (OE (some ⟨X,0,none⟩) K.length K.length _ 0 w h.aft (by have:=h.lU;omega)).mono ?_
  rintro e w' ⟨⟨r,rfl,hr⟩,rfl⟩
  refine ⟨?_,rfl⟩
  rcases hr with ⟨i,hi,rfl,hi0,hil⟩|⟨rfl,_⟩
  ·rw [ajg,aks,ajh hi] at hi0
   have:=hl i hi
   rw [ajg,ajh hi] at this
   exact absurd (akt.1 hi0) this
  ·rfl
 have HI:=ay (qA (k:Int) w)
 rw [fK (by omega)] at HI
 have hb:=h.aH
 obtain ⟨c0,c1,c2,c3,c4,c5,c6⟩:=c
 simp only [bK.cells,List.cons_append,akr] at hb
 have y7:=hb.cell 7 rfl
 generalize K.length=L at *
 clear h hb hl h4
 go_enter func203,ntmps203
 go_wp2_with (first|(go_at_call 198;refine HI.out.mono ?_;rintro e w1 ⟨rfl,rfl⟩)|(go_at_call 100;refine HIX.out.mono ?_;rintro e w1 ⟨rfl,rfl⟩))
 go_ret2
 exact ⟨rfl,rfl⟩
theorem aee (c:bK) (b:Nat) (hok:c.ok=true) (hcb:c.b=b) (w:World) (hT:lu w):Calls aA 107 #[.agg c.cells.toArray] w fun e w'=>∃ R X,e = .returned (.tuple #[au R,ah 0])/\iF w' R X c (ajj b 0)/\w.heap.size<=R/\w.heap.size<=X/\aj aB w w':=by
 have qV:=(jC hok).1
 have hmk:∀ w:World,(Instr.makeSlice 32 (ah (b:Int)) (ah (b:Int))).run aA w = .ok (.slice (some ⟨w.heap.size,0,none⟩) b b) (w.alloc (.cells (fV (ah 0) b).toArray 3)) :=
  fun w=>yD (P:=aA) (by kernel_rfl) Tryz.infoInt rfl (by decide) b (by omega) _ rfl w
 obtain ⟨W0,hW0⟩:∃ W',W'=w.alloc (.cells c.cells.toArray 23):=⟨_,rfl⟩
 have HK:Hid (aj aB w W0):=by rw [hW0];exact (aj.refl _ _).alloc _
 have HR:=ay (Dv c W0 (hT.aK HK.out))
 rw [hok] at HR
 have HB:=ay (show aF W0 w.heap.size c.cells 23 by rw [hW0];exact aF.bC w _ _)
 have HOK:=ay hok
 have Ac:=ay qV
 have zl:Hid (W0.heap.size=w.heap.size+1):=by rw [Hid,hW0];simp
 have hcb':=hcb
 obtain ⟨c0,c1,c2,c3,c4,c5,c6⟩:=c
 simp only at hcb
 subst hcb
 simp only [bK.cells] at *
 clear hT hok qV hcb'
 go_enter func107,ntmps107
 go_wp2_with fail
 rw [<- hW0]
 clear hW0
 refine HR.out.mono ?_
 rintro e w1 ⟨rfl,hk1⟩
 have hb1:=hk1.aH HB.out (fun f=>f)
 have bI:=ay (HK.out.trans hk1)
 have y0:=hb1.cell 0 rfl;have y1:=hb1.cell 1 rfl;have y2:=hb1.cell 2 rfl;have y3:=hb1.cell 3 rfl;have y4:=hb1.cell 4 rfl;have y5:=hb1.cell 5 rfl;have y6:=hb1.cell 6 rfl
 have HA:∀ o,aj aB w1 (w1.alloc o):=fun o=>(aj.refl _ _).alloc o
 have s0:=fun o=>(HA o).still y0;have s1:=fun o=>(HA o).still y1;have s2:=fun o=>(HA o).still y2;have s3:=fun o=>(HA o).still y3;have s4:=fun o=>(HA o).still y4;have s5:=fun o=>(HA o).still y5;have s6:=fun o=>(HA o).still y6
 clear hk1 hb1 HA HR HK HB
 go_wp2_with fail
 go_region
 obtain ⟨W3,hW3⟩:∃ W',W'=((w1.alloc (.cells (fV (ah 0) b).toArray 3)).alloc (.cells #[ah (b:Int),ah c1,ah c2,ah c3,ah c4,ah c5,ah c6,.slice (some ⟨w1.heap.size,0,none⟩) b b] 145)).drew:=⟨_,rfl⟩
 rw [<- hW3]
 go_wp2_with fail
 go_ret2
 have hz:fV (ah 0) b=aS (ajj b 0):=by simp [fV,aS]
 have h1:=bI.out.size
 refine ⟨w1.heap.size+1,w1.heap.size,rfl,⟨?_,?_,by simp,fun x hx=>by rw [akv hx];decide,HOK.out⟩,by omega,by omega,?_⟩
 ·rw [hW3]
  have h:=aF.bC (w1.alloc (.cells (fV (ah 0) b).toArray 3)) [ah (b:Int),ah c1,ah c2,ah c3,ah c4,ah c5,ah c6,.slice (some ⟨w1.heap.size,0,none⟩) b b] 145
  rw [ajq] at h
  simp only [akw,bK.cells,List.cons_append,akr]
  exact h.drew
 ·rw [hW3,hz]
  exact ((aF.bC w1 _ _).alloc _).drew
 ·rw [hW3]
  exact ((bI.out.alloc _).alloc _).drew
end
end
section
def lI (W:List Nat) (i:Nat):Bool:=(W.getD (i/64) 0).testBit (i%64)
def xO (W:List Nat) (i:Nat):List Nat:=W.set (i/64) (W.getD (i/64) 0 ^^^ 2^(i%64))
theorem Ry (W:List Nat) (i:Nat):(xO W i).length=W.length:=by simp [xO]
theorem Gs {W:List Nat} {i:Nat} (h:i<W.length) (x:Nat):(W.set i x).getD i 0=x:=by
 rw [ajg,ajA h];rfl
theorem getD_set_ne {W:List Nat} {i j:Nat} (h:i≠j) (x:Nat):(W.set i x).getD j 0=W.getD j 0:=by
 rw [ajg,ajB h,<- ajg]
theorem ZB {W:List Nat} {i:Nat} (h:i/64<W.length):lI (xO W i) i = !lI W i:=by
 unfold lI xO
 rw [Gs h,akx,Nat.testBit_two_pow_self]
 simp
theorem Xz {W:List Nat} {i j:Nat} (h:j≠i):lI (xO W i) j=lI W j:=by
 unfold lI xO
 by_cases e:i/64=j/64
 ·by_cases hl:i/64<W.length
  ·rw [<- e,Gs hl,akx,Nat.testBit_two_pow_of_ne (by omega)]
   simp
  ·rw [akq (by omega)]
 ·rw [getD_set_ne e]
theorem aef {W:List Nat} {i:Nat} (hW:∀ x∈W,x<2^64):∀ x∈xO W i,x<2^64:=by
 intro x hx
 unfold xO at hx
 rcases ajL hx with h|rfl
 ·exact hW x h
 ·have h1:W.getD (i/64) 0<2^64:=by
   by_cases hl:i/64<W.length
   ·rw [ajg,ajh hl]
    exact hW _ (aji hl)
   ·rw [ajg,List.getElem?_eq_none (by omega)];decide
  exact Nat.xor_lt_two_pow h1 (aky (by decide) (Nat.mod_lt _ (by decide)))
theorem V8 (n i:Nat):lI (ajj n 0) i=false:=by
 unfold lI
 have e:(ajj n 0).getD (i/64) 0=0:=by
  rw [ajg,List.getElem?_replicate]
  split<;>rfl
 rw [e,Nat.zero_testBit]
theorem aeg (X k:Nat) (hX:X<18446744073709551616):bits .and .u64 ((X/2^k:Nat):Int) 1=if X.testBit k then 1 else 0:=by
 have h1:X/2^k<18446744073709551616:=Nat.lt_of_le_of_lt (ajx _ _) hX
 have h:=bits_and_u64_nat (X/2^k) 1 h1 (by decide)
 rw [show ((1:Nat):Int)=1 from rfl] at h
 rw [h,Nat.and_one_is_mod,Nat.testBit_eq_decide_div_mod_eq]
 by_cases e:X/2^k%2=1
 ·rw [aZ (by simpa using e),e];rfl
 ·have e0:X/2^k%2=0:=by omega
  rw [aT (by simpa using e),e0];rfl
end
section
open Go.RowKit
theorem Tryz.infoU:(aA.info? 146).map (fun i=>(i.zero,i.size,i.bytes))=some (some (.int .u64 0),1,8):=by kernel_rfl
def mQ (W:List Nat):List Value:=W.map (fun x:Nat => .int .u64 (x:Int))
structure jo (w:World) (B X size:Nat) (W:List Nat):Prop where
 aH:∃ aO,aF w B [.slice (some ⟨X,0,none⟩) W.length aO,ah size] 149
 pU:∃ cur,aF w X cur 146/\∀ (i:Nat) (v:Value),(mQ W)[i]?=some v->cur[i]?=some v
 len:W.length=(size+63)/64
 lt:∀ x∈W,x<18446744073709551616
 sz:size<=2097152
section
variable {w w':World} {B X size:Nat} {W:List Nat}
theorem jo.ne (h:jo w B X size W):B≠X:=fun e=>by
 obtain ⟨aO,h1⟩:=h.aH
 obtain ⟨cur,h2,_⟩:=h.pU
 rw [e] at h1
 exact absurd (h1.jL h2).2 (by decide)
theorem jo.aK {S:Nat->Prop} (h:jo w B X size W) (k:aj S w w') (hB:¬ S B) (hX:¬ S X):jo w' B X size W:=by
 obtain ⟨aO,h1⟩:=h.aH
 obtain ⟨cur,h2,h3⟩:=h.pU
 exact ⟨⟨aO,k.aH h1 hB⟩,⟨cur,k.aH h2 hX,h3⟩,h.len,h.lt,h.sz⟩
theorem jo.still (h:jo w B X size W) (k:aj aB w w'):jo w' B X size W:=h.aK k (fun f=>f) (fun f=>f)
theorem jo.jf (h:jo w B X size W) {n:Nat} (hn:n<size):n/64<W.length/\w.cell? ⟨X,n/64,none⟩=some (.int .u64 (W.getD (n/64) 0:Nat))/\W.getD (n/64) 0<18446744073709551616:=by
 have hl:n/64<W.length:=by rw [h.len];omega
 obtain ⟨cur,h2,h3⟩:=h.pU
 refine ⟨hl,h2.cell (n/64) (h3 _ _ ?_),?_⟩
 ·unfold mQ
  rw [aks,ajh hl,ajg,ajh hl];rfl
 ·rw [ajg,ajh hl]
  exact h.lt _ (aji hl)
theorem ZC (h:jo w B X size W):Calls aA 142 #[au B] w fun e w'=>e = .returned (ah (size:Int))/\w=w':=by
 obtain ⟨aO,hb⟩:=h.aH
 have y1:=hb.cell 1 rfl
 clear h hb
 go_enter func142,ntmps142
 go_wp2_with fail
 go_ret
 exact ⟨rfl,rfl⟩
theorem JL (h:jo w B X size W) (n:Int):Calls aA 95 #[au B,ah n] w fun e w'=>e = .returned (.bool (decide (0<=n/\n<(size:Int))))/\w=w':=by
 have HS:=ay (ZC h)
 clear h
 by_cases h0:0<=n
 ·have d0:decide (0<=n)=true:=fK h0
  have HE:Hid (decide (0<=n/\n<(size:Int))=decide (n<(size:Int))):=by simp [Hid,h0]
  rw [HE.out]
  clear HE h0
  go_enter func95,ntmps95
  go_wp2_with (go_at_call 142;refine HS.out.mono ?_;rintro e w1 ⟨rfl,rfl⟩)
  go_ret
  exact ⟨rfl,rfl⟩
 ·have d0:decide (0<=n)=false:=gJ h0
  have HE:Hid (decide (0<=n/\n<(size:Int))=false):=by simp [Hid,h0]
  rw [HE.out]
  clear HE h0
  go_enter func95,ntmps95
  go_wp2_with (go_at_call 142;refine HS.out.mono ?_;rintro e w1 ⟨rfl,rfl⟩)
  go_ret
  exact ⟨rfl,rfl⟩
def oU (size:Nat) (W:List Nat) (n:Int):Bool:=decide (0<=n/\n<(size:Int))&&lI W n.toNat
theorem JM (h:jo w B X size W) (n:Int):Calls aA 54 #[au B,ah n] w fun e w'=>e = .returned (.bool (oU size W n))/\w=w':=by
 have HM:=ay (JL h n)
 by_cases hn:0<=n/\n<(size:Int)
 ·obtain ⟨k,rfl⟩:∃ k:Nat,n=k:=⟨n.toNat,by omega⟩
  obtain ⟨hl,hc,hx⟩:=h.jf (n:=k) (by omega)
  obtain ⟨aO,hblk⟩:=h.aH
  have y0:=hblk.cell 0 rfl
  have hsz:=h.sz
  rw [fK hn] at HM
  have HE:Hid (oU size W (k:Int)=(W.getD (k/64) 0).testBit (k%64)):=by
   rw [Hid,oU,fK hn,Bool.true_and,ajv];rfl
  rw [HE.out]
  obtain ⟨x,hxe⟩:∃ x,x=W.getD (k/64) 0:=⟨_,rfl⟩
  rw [<- hxe] at hc hx ⊢
  have HB:=ay (aeg x (k%64) hx)
  generalize W.length=L at *
  have hk:k<2097152:=by omega
  clear h HE hxe hn hsz hblk
  go_enter func54,ntmps54
  go_wp2_with (go_at_call 95;refine HM.out.mono ?_;rintro e w1 ⟨rfl,rfl⟩)
  go_ret
  refine ⟨?_,rfl⟩
  have e:((x:Int)/2^(k%64))=((x/2^(k%64):Nat):Int):=by simp
  show Ending.returned (.bool (bits .and .u64 ((x:Int)/2^(k%64)) 1==1))=_
  rw [e,HB.out]
  cases x.testBit (k%64)<;>rfl
 ·rw [gJ hn] at HM
  have HE:Hid (oU size W n=false):=by rw [Hid,oU,gJ hn];rfl
  rw [HE.out]
  clear h hn HE
  go_enter func54,ntmps54
  go_wp2_with (go_at_call 95;refine HM.out.mono ?_;rintro e w1 ⟨rfl,rfl⟩)
  go_ret
  exact ⟨rfl,rfl⟩
def jA (size:Nat) (W:List Nat) (n:Int) (jg:Bool):Bool:=decide (0<=n/\n<(size:Int))&&(oU size W n != jg)
def kP (size:Nat) (W:List Nat) (n:Int) (jg:Bool):List Nat:=if jA size W n jg=true then xO W n.toNat else W
theorem Cc (h:jo w B X size W) (n:Int) (jg:Bool):Calls aA 163 #[au B,ah n,.bool jg] w fun e w'=>e = .returned (.bool (jA size W n jg))/\jo w' B X size (kP size W n jg)/\aj (only X) w w':=by
 have HM:=ay (JL h n)
 have HH:=ay (JM h n)
 have HS:=ay h
 by_cases hn:0<=n/\n<(size:Int)
 ·rw [fK hn] at HM
  cases hp:oU size W n==jg with
  | true =>
    have HE:Hid (jA size W n jg=false):=by rw [Hid,jA,bne,hp];simp
    have HL:Hid (kP size W n jg=W):=by rw [Hid,kP,aT (by rw [HE.out];decide)]
    rw [HE.out,HL.out]
    generalize oU size W n=hb at *
    clear h hn HE HL
    go_enter func163,ntmps163
    go_wp2_with (first|(go_at_call 95;refine HM.out.mono ?_;rintro e w1 ⟨rfl,rfl⟩)|(go_at_call 54;refine HH.out.mono ?_;rintro e w1 ⟨rfl,rfl⟩))
    go_ret
    exact ⟨rfl,HS.out,aj.refl _ _⟩
  | false =>
    have HE:Hid (jA size W n jg=true):=by rw [Hid,jA,bne,hp,fK hn];rfl
    have HL:Hid (kP size W n jg=xO W n.toNat):=by rw [Hid,kP,aZ HE.out]
    rw [HE.out,HL.out]
    obtain ⟨k,rfl⟩:∃ k:Nat,n=k:=⟨n.toNat,by omega⟩
    obtain ⟨hl,hc,hx⟩:=h.jf (n:=k) (by omega)
    obtain ⟨aO,hblk⟩:=h.aH
    obtain ⟨cur,hcur,hpre⟩:=h.pU
    have y0:=hblk.cell 0 rfl
    have fx:=hcur.free (k/64)
    have ahJ:=ay hcur
    have afu:=ay hpre
    have ahK:=ay hblk
    have hsz:=h.sz
    have hk:k<2097152:=by omega
    obtain ⟨x,hxe⟩:∃ x,x=W.getD (k/64) 0:=⟨_,rfl⟩
    rw [<- hxe] at hc hx
    have abM:2^(k%64)<18446744073709551616:=by
     have:2^(k%64)<2^64:=aky (by decide) (Nat.mod_lt _ (by decide))
     exact this
    have HX:=ay (bits_xor_u64_nat x (2^(k%64)) hx abM)
    have HXE:=ay hxe
    have HPW:=ay abM
    generalize oU size W (k:Int)=hb at *
    have tJ:Hid (k/64<W.length):=hl
    obtain ⟨L,hLe⟩:∃ L,L=W.length:=⟨_,rfl⟩
    rw [<- hLe] at y0 hl
    clear h hxe hn hsz HE HL hx abM hblk hcur hpre
    clear hLe
    go_enter func163,ntmps163
    go_wp2_with (first|(go_at_call 95;refine HM.out.mono ?_;rintro e w1 ⟨rfl,rfl⟩)|(go_at_call 54;refine HH.out.mono ?_;rintro e w1 ⟨rfl,rfl⟩))
    go_region
    have e1:IntKind.u64.wrap (2^(k%64))=((2^(k%64):Nat):Int):=by
     have h1:(2:Int)^(k%64)=((2^(k%64):Nat):Int):=by simp
     rw [h1,IntKind.wrap_u64]
     have:=HPW.out
     generalize 2^(k%64)=z at *
     omega
    rw [e1,HX.out]
    clear e1
    have hne:=HS.out.ne
    obtain ⟨W1,hW1⟩:∃ W',W'=(w.setCell ⟨X,k/64,none⟩ (.int .u64 ((x ^^^ 2^(k%64):Nat):Int))).drew:=⟨_,rfl⟩
    rw [<- hW1]
    have hk1:aj (only X) w W1:=by rw [hW1];exact ((aj.refl (only X) w).put _ _).drew
    have hset:jo W1 B X size (xO W k):=by
     refine ⟨⟨aO,?_⟩,⟨cur.set (k/64) (.int .u64 ((x ^^^ 2^(k%64):Nat):Int)),?_,?_⟩,by rw [Ry];exact HS.out.len,aef HS.out.lt,HS.out.sz⟩
     ·rw [Ry];exact hk1.aH ahK.out hne
     ·rw [hW1];exact (ahJ.out.set _ _).drew
     ·intro i v hi
      unfold mQ xO at hi
      rw [<- HXE.out,akj,akz] at hi
      rw [akz]
      by_cases e:k/64=i
      ·subst e
       have h3:(mQ W)[k/64]?=some (.int .u64 (W.getD (k/64) 0:Nat)):=by
        unfold mQ
        rw [aks,ajh tJ.out,ajg,ajh tJ.out];rfl
       have h4:=(ake.1 (afu.out _ _ h3)).1
       rw [aZ rfl,aZ (by simpa using tJ.out)] at hi
       rw [aZ rfl,aZ h4]
       exact hi
      ·rw [aT e] at hi ⊢
       exact afu.out i v hi
    have XA:=ay hset
    have bI:=ay hk1
    clear hset hk1 hW1 hne
    go_wp2_with fail
    go_ret
    exact ⟨rfl,by rw [ajv];exact XA.out,bI.out⟩
 ·rw [gJ hn] at HM
  have HE:Hid (jA size W n jg=false):=by rw [Hid,jA,gJ hn];rfl
  have HL:Hid (kP size W n jg=W):=by rw [Hid,kP,aT (by rw [HE.out];decide)]
  rw [HE.out,HL.out]
  clear h hn HE HL HH
  go_enter func163,ntmps163
  go_wp2_with (go_at_call 95;refine HM.out.mono ?_;rintro e w1 ⟨rfl,rfl⟩)
  go_ret
  exact ⟨rfl,HS.out,aj.refl _ _⟩
theorem Rz (n:Nat) (hn:n<=2097152) (w:World):Calls aA 111 #[ah (n:Int)] w fun e w'=>∃ B X,e = .returned (.tuple #[au B,ah 0])/\jo w' B X n (ajj ((n+63)/64) 0)/\w.heap.size<=B/\w.heap.size<=X/\aj aB w w':=by
 obtain ⟨L,hL⟩:∃ L,L=(n+63)/64:=⟨_,rfl⟩
 rw [<- hL]
 have hLl:L<=32768:=by omega
 go_enter func111,ntmps111
 have hmk:∀ w:World,(Instr.makeSlice 147 (ah (((n:Int)+64 - 1)/64)) (ah (((n:Int)+64 - 1)/64))).run aA w = .ok (.slice (some ⟨w.heap.size,0,none⟩) L L) (w.alloc (.cells (fV (.int .u64 0) L).toArray 146)) :=
  fun w=>yD (P:=aA) (by kernel_rfl) Tryz.infoU rfl (by decide) L (by omega) _ (by omega) w
 have HL:=ay hL
 clear hL
 go_wp2_with fail
 obtain ⟨W1,hW1⟩:∃ W',W'=(w.alloc (.cells (fV (.int .u64 0) L).toArray 146)).alloc (.cells #[.slice (some ⟨w.heap.size,0,none⟩) L L,ah (n:Int)] 149):=⟨_,rfl⟩
 rw [<- hW1]
 go_ret2
 have hz:fV (.int .u64 0) L=mQ (ajj L 0):=by simp [fV,mQ]
 refine ⟨w.heap.size+1,w.heap.size,rfl,⟨⟨L,?_⟩,⟨mQ (ajj L 0),?_,fun _ _ h=>h⟩,by rw [akw];exact HL.out,fun x hx=>by rw [akv hx];decide,hn⟩,by omega,Nat.le_refl _,?_⟩
 ·rw [hW1]
  have h:=aF.bC (w.alloc (.cells (fV (.int .u64 0) L).toArray 146)) [.slice (some ⟨w.heap.size,0,none⟩) L L,ah (n:Int)] 149
  rw [ajq] at h
  simpa using h
 ·rw [hW1,hz]
  exact (aF.bC w _ _).alloc _
 ·rw [hW1]
  exact ((aj.refl _ _).alloc _).alloc _
end
end
end Go.Proofs.YtanfphjoebobaaaGreatDoor
