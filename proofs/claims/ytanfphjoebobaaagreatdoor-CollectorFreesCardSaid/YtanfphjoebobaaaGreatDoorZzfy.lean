/- Parts of the iy. No conditions. -/
import Derived.Test.YtanfphjoebobaaaGreatDoorZzfx
namespace Go.Proofs.YtanfphjoebobaaaGreatDoor
open _root_.Bool renaming true_and->akG,true_or->alu
open _root_.List renaming getD_eq_getElem?_getD->ajg,getElem?_eq_none->ajK,getElem?_eq_some_iff->ake,getElem?_set_ne->ajB,getElem?_set_self->ajA,length_set->aku,mem_append->aln,mem_append_right->alq,mem_cons->ajN,mem_singleton->alo
open _root_.Nat renaming div_add_mod->ajC,not_lt_zero->akU,pow_le_pow_right->als,zero_le->aki
set_option maxHeartbeats 1000000
section
section
variable {p:CP} {x y:WS} {s s':Sh} {m m':MS} {i l l' ph vO hf:Nat} {c':CS}
theorem Ip {l:List Nat} {b:Nat} (h:b∈l.dropLast):b∈l:=(List.dropLast_sublist l).subset h
theorem EX {mu:Nat} {b:Bd} (h:BI mu b) {i:Nat} (hi:i<mu):b.did i = !b.bF (i:Int):=by
 unfold Bd.did Bd.bF
 have:b.is (i:Int)=true:=by
  unfold Bd.is
  rw [h.aG,fK (by omega),fK (by omega)];rfl
 rw [this,akG,akG]
theorem WL (c:CS) (hc:c.dU=p.bl) (b:Nat) (hb:b<=p.bl):(∀ m u,c.iL b ≠ .dJ m u)/\rQ (c.iL b)=false/\p.rP (c.iL b)/\(∀ ok,p.pq ok (c.iL b))/\(∀ a,p.kL a (c.iL b)↔∃ B,b<=B/\B<p.bl/\a∈p.H.bH B)/\p.sS (c.iL b)=0/\p.nK (c.iL b)=p.ce/\dO (c.iL b)=0/\Ie (c.iL b)/\(∀ ph,Af ph->p.fQ ph (c.iL b))/\c.iL b ≠ .fP:=by
 unfold CS.iL
 rw [hc]
 split
 ·rename_i e
  refine ⟨(fun m u e=>by cases e),rfl,trivial,(fun _=>trivial),(fun a=>⟨False.elim,fun ⟨B,h1,h2,_⟩=>?_⟩),rfl,rfl,rfl,trivial,(fun _ h=>h),(fun e=>by cases e)⟩
  omega
 ·exact ⟨(fun m u e=>by cases e),rfl,trivial,(fun _=>trivial),(fun a=>Iff.rfl),rfl,rfl,rfl,trivial,(fun _ h=>⟨h,by omega⟩),(fun e=>by cases e)⟩
theorem YF {t:CD} (h:Ie t):(∀ m u,t ≠ .dJ m u)/\rQ t=false/\p.sS t=0/\p.nK t=p.ce/\dO t=0/\t ≠ .fP:=by
 cases t with
 | work=>exact ⟨(fun m u e=>by cases e),rfl,rfl,rfl,rfl,(fun e=>by cases e)⟩
 | iy b=>exact ⟨(fun m u e=>by cases e),rfl,rfl,rfl,rfl,(fun e=>by cases e)⟩
 | bH l t=>exact ⟨(fun m u e=>by cases e),rfl,rfl,rfl,rfl,(fun e=>by cases e)⟩
 | _=>exact h.elim
theorem Ug {l:List Nat} {t:CD} (h:Ie t):Ie (gX l t)/\(p.rP t->p.rP (gX l t))/\(∀ ok,p.pq ok t->p.pq ok (gX l t))/\(∀ a,p.kL a (gX l t)↔a∈l\/p.kL a t):=by
 unfold gX
 split
 ·rename_i e
  rw [e]
  exact ⟨h,fun h=>h,fun _ h=>h,fun a=>⟨.inr,fun h=>h.resolve_left (fun hh=>by cases hh)⟩⟩
 ·exact ⟨h,fun h=>h,fun _ h=>h,fun a=>Iff.rfl⟩
def CP.yu (p:CP):CD->Prop
 | .iy b=>b<p.bl
 | .bH l t=>l≠[]/\CP.yu p t
 | .ig t=>CP.yu p t
 | .iD _ t=>CP.yu p t
 | .field _ _ _ t=>CP.yu p t
 | .lC _ t=>CP.yu p t
 | _=>True
theorem Uh {ph:Nat} {t:CD} (hm:Af ph) (ht:Ie t) (hs:p.yu t):p.fQ ph t:=by
 cases t with
 | work=>exact hm
 | iy b=>exact ⟨hm,hs⟩
 | bH l t=>exact ⟨hm,hs.1,ht⟩
 | _=>exact ht.elim
theorem Ui {l:List Nat} {t:CD} (h:p.yu t):p.yu (gX l t):=by
 unfold gX
 split
 ·exact h
 ·rename_i e;exact ⟨e,h⟩
theorem WM (c:CS) (hc:c.dU=p.bl) (b:Nat) (hb:b<=p.bl):p.yu (c.iL b):=by
 unfold CS.iL
 rw [hc]
 split
 ·trivial
 ·show b<p.bl;omega
theorem Uj {a i n:Nat} {t:CD} (h:p.yu t):p.yu (fA a i n t):=by
 unfold fA
 split<;>exact h
theorem Oe {v:Nat} {t:CD} (h:p.yu t):p.yu (fC v t):=by
 unfold fC
 split<;>exact h
theorem BF {l:List Nat} {a:Nat} (h:l.getLast?=some a):l=l.dropLast++[a]:=by
 rcases List.eq_nil_or_concat l with e|⟨l',b,e⟩
 ·rw [e] at h;cases h
 ·rw [e] at h ⊢
  simp at h
  rw [h];simp
theorem agm (h:jO p x) {a:Nat} (hb:x.s.H.bn a=true) (hc:x.s.H.iU a=p.κ):p.lq a:=by
 obtain ⟨f,hH⟩:=h.heap
 have hco:x.s.H.co=f:=by rw [hH]
 refine h.wo a (by rw [hH] at hb;exact hb) ?_
 rw [hco]
 rw [hH] at hc
 exact (FZ h.k2 a).1 (by rw [hc];simp)
theorem BG (k:zB p hf) (h:jO p x) (hw:p.yu x.aC.next) (d:CD) (hd:x.aC.next=d) (hne:d ≠ .fP):jO p (fJ x d)/\p.yu (fJ x d).aC.next/\(aN x.s x.aC d).ev=none:=by
 have hk2:=h.k2
 have hmu:=h.mu8
 have fQ:=h.fQ;have src:=h.src;have mM:=h.mM;have lS:=h.lS;have yJ:=h.yJ;have bx:=h.bx
 rw [hd] at fQ src mM lS yJ bx hw
 obtain ⟨f,hH⟩:=h.heap
 have hco:x.s.H.co=f:=by rw [hH]
 have hfp:∀ a,x.s.H.dh a=p.H.dh a:=fun a=>by rw [hH];rfl
 have hld:∀ a j,x.s.H.eU a j=p.H.eU a j:=fun a j=>by rw [hH];rfl
 have hcp:∀ j,x.s.H.jc j=p.H.jc j:=fun j=>by rw [hH];rfl
 have hsl:∀ b,x.s.H.bH b=p.H.bH b:=fun b=>by rw [hH];rfl
 have hbn:x.s.H.bn=p.H.bn:=by rw [hH]
 have nw:∀ {d':CD},(∀ m u,d ≠ .dJ m u)->∀ m u,x.aC.next ≠ .dJ m u:=fun hx m u=>by rw [hd];exact hx m u
 cases d with
 | lC v t=>exact ⟨YE k h v t hd,(by unfold fJ;simp only [aN];split<;>exact hw),(by simp only [aN];split<;>rfl)⟩
 | dJ mm t =>
   obtain ⟨hm,ht⟩:=fQ
   have hlt:dO t=0/\p.rP t/\(∀ ok,p.pq ok t)/\p.sS t=0/\p.nK t=p.ce/\rQ t=false/\(∀ a,¬ p.kL a t)/\p.yu t/\(∀ m u,t ≠ .dJ m u):=by
    rcases ht with ⟨_,e⟩|⟨_,e⟩|⟨_,e⟩|⟨_,e⟩<;>rw [e]<;>exact ⟨rfl,trivial,(fun _=>trivial),rfl,rfl,rfl,(fun _ h=>h),trivial,(fun m u e=>by cases e)⟩
   obtain ⟨t1,t2,t3,t4,t5,t6,t7,t8,t9⟩:=hlt
   have Dj:=EX h.bd hm
   unfold fJ
   simp only [aN]
   have hl0:dO x.aC.next=0:=by rw [hd];rfl
   have key:∀ d':CD,(∀ i,i<p.mu->x.s.B.bF (i:Int)=true->∃ m t,d' = .dJ m t/\m<=i)->p.fQ x.aC.phase d'->dO d'=0->p.rP d'->(∀ ok,p.pq ok d')->p.sS d'=0->p.nK d'=p.ce->rQ d'=false->(∀ a,¬ p.kL a d')->jO p { x with aC:={ x.aC with next:=d' } }:=fun d' g1 g2 g3 g4 g5 g6 g7 g8 g9=>by
    refine ⟨h.k2,h.mu8,h.heap,h.aG,h.tY,h.box,h.jw,h.rY,h.uG,h.bd,fun i m hm=>?_,g1,h.ph,g2,g4,h.bD,h.tZ,h.wo,g5 _,fun h4 j hj=>?_,?_,fun j hj=>?_,fun hh=>?_,fun hh=>?_,h.q⟩
    ·exact (h.gW i m hm).aC rfl (fun v hv=>cZ hl0 k hv) (fun _ hv => .inl hv)
    ·have hj':j<p.nK d':=hj
     rw [g7] at hj'
     exact cZ (x:=x) hl0 k (by rw [hd];exact lS h4 j hj')
    ·refine h.yJ.imp (fun hw=>hw) (fun hc a ha hco=>?_)
     rcases hc a ha hco with g|g|g
     ·exact .inl g
     ·rw [hd] at g;exact g.elim
     ·exact .inr (.inr fun j hj=>cZ hl0 k (g j hj))
    ·have hj':j<p.sS d':=hj
     omega
    ·have hh':rQ d'=true:=hh
     rw [g8] at hh';cases hh'
    ·have hh':d' = .fP:=hh
     rw [hh'] at g8;cases g8
   have hwt:∀ i,i<p.mu->x.s.B.bF (i:Int)=true->mm<=i:=fun i hi hp=>by
    obtain ⟨m',t',e,hle⟩:=h.wt i hi hp
    rw [hd] at e;cases e;exact hle
   by_cases hp:x.s.B.bF (mm:Int)=true
   ·rw [Dj,hp,aZ (by decide)]
    refine ⟨key (.dJ mm t) (fun i hi hp=>⟨mm,t,rfl,hwt i hi hp⟩) ⟨hm,ht⟩ rfl trivial (fun _=>trivial) rfl rfl rfl (fun _ h=>h),trivial,?_⟩
    trivial
   ·have hp0:x.s.B.bF (mm:Int)=false:=by simpa using hp
    rw [Dj,hp0,aT (by decide)]
    have hcm:=h.tY
    have hwt2:∀ i,i<p.mu->x.s.B.bF (i:Int)=true->mm+1<=i:=fun i hi hq=>by
     have:=hwt i hi hq
     rcases Nat.lt_or_ge mm i with g|g
     ·exact g
     ·have:i=mm:=by omega
      subst this
      rw [hp0] at hq;cases hq
    by_cases hl:mm+1<x.aC.aG
    ·rw [aZ hl]
     exact ⟨key (.dJ (mm+1) t) (fun i hi hp=>⟨mm+1,t,rfl,hwt2 i hi hp⟩) ⟨by omega,ht⟩ rfl trivial (fun _=>trivial) rfl rfl rfl (fun _ h=>h),trivial,trivial⟩
    ·rw [aT hl]
     refine ⟨key t (fun i hi hp=>?_) ?_ t1 t2 t3 t4 t5 t6 t7,t8,trivial⟩
     ·have:=hwt2 i hi hp;omega
     ·rcases ht with ⟨a,e⟩|⟨a,e⟩|⟨a,e⟩|⟨a,e⟩<;>rw [e]
      ·exact a
      ·exact a
      ·exact a
      ·exact .inr a
 | uY =>
   have rC:x.aC.phase=1:=fQ
   refine ⟨h.qR (c:=x.aC) (by rw [hd];intro m u e;cases e) ⟨rfl,rfl,rfl,rfl,rfl,rfl⟩ (by rw [hd];rfl) k (.inl ⟨rC,rfl,rfl⟩) (fun h4=>by omega) (fun a ha=>by rw [hd] at ha;exact ha),trivial,rfl⟩
 | sW =>
   have rC:x.aC.phase=2:=fQ
   refine ⟨h.qR (c:=x.aC) (by rw [hd];intro m u e;cases e) ⟨rfl,rfl,rfl,rfl,rfl,rfl⟩ (by rw [hd];rfl) k (.inr (.inl ⟨rC,rfl,rfl⟩)) (fun h4=>by omega) (fun a ha=>by rw [hd] at ha;exact ha),trivial,rfl⟩
 | jV =>
   have rC:x.aC.phase=4:=fQ
   refine ⟨h.qR (c:={ x.aC with dP:=false,je:=x.aC.je+1 }) (by rw [hd];intro m u e;cases e) ⟨rfl,rfl,rfl,rfl,rfl,rfl⟩ (by rw [hd];rfl) k (.inr (.inr ⟨rC,rfl,rfl⟩)) (fun _=>by rw [hd];rfl) (fun a ha=>by rw [hd] at ha;exact ha),trivial,rfl⟩
 | trace =>
   have rC:x.aC.phase=3:=fQ
   obtain ⟨w1,w2,w3,w4,w5,w6,w7,w8,w9,w10⟩:=WI (p:=p) { x.aC with phase:=4 } 0
   have hix:=Ue (p:=p) (c:={ x.aC with phase:=4 }) h.uG (aki _)
   refine ⟨h.phase (c:=x.aC) (d:=CS.iI { x.aC with phase:=4 } 0) (by rw [hd];intro m u e;cases e) ⟨rfl,rfl,rfl,rfl,rfl,rfl⟩ (by rw [hd];rfl) w7 k w1 (.inl ⟨rC,rfl⟩) (.inl hix) (by rw [hix];exact aki _) (fun a ha=>by rw [hd] at ha;exact ha) ?_ w3 (w4 _) w6 w2,?_,rfl⟩
   ·unfold CS.iI
    split
    ·exact .inl rfl
    ·rename_i e
     refine ⟨rfl,?_⟩
     have hce:x.aC.cells=p.ce:=h.uG
     have e':¬ 0=x.aC.cells:=e
     omega
   ·show p.yu (CS.iI { x.aC with phase:=4 } 0)
    unfold CS.iI
    split<;>trivial
 | cell ii =>
   obtain ⟨rC,hi⟩:=fQ
   have hnw:∀ m u,x.aC.next ≠ .dJ m u:=by rw [hd];intro m u e;cases e
   have hl0:dO x.aC.next=0:=by rw [hd];rfl
   obtain ⟨w1,w2,w3,w4,w5,w6,w7,w8,w9,w10⟩:=WI (p:=p) x.aC (ii+1)
   have hix:=Ue (p:=p) (c:=x.aC) h.uG (i:=ii+1) (by omega)
   have hts:p.fQ x.aC.phase (x.aC.iI (ii+1))/\∀ i,x.aC.iI (ii+1) = .cell i->x.aC.phase=4/\i<p.ce:=by
    have hce:=h.uG
    unfold CS.iI
    split
    ·exact ⟨.inl rC,fun i e=>by cases e⟩
    ·rename_i e
     exact ⟨⟨rC,by omega⟩,fun i e'=>by cases e';exact ⟨rC,by omega⟩⟩
   have hgood:p.Aw (x.s.H.jc (ii:Int)):=fun hb=>by rw [hcp] at hb ⊢;exact .zI (.inl ⟨ii,hi,rfl⟩) hb
   refine ⟨h.go (d:=fC (x.s.H.jc (ii:Int)) (x.aC.iI (ii+1))) (st:=x.aC.bD) hnw (MW w1) (fun v hv=>cZ hl0 k hv) (Io (.inl rC) w8 hts.2 w9 hts.1) (Ii hgood w3) h.bD (Ij.2 (w4 _)) (fun h4 j hj=>?_) (fun a ha hc hq=>?_) (fun j hj=>?_) (fun hh=>?_) (fun hh=>?_),?_,rfl⟩
   ·rw [F7,hix] at hj
    by_cases e:j=ii
    ·subst e
     rw [<- hcp]
     exact Il k
    ·exact cZ hl0 k (by rw [hd];exact lS h4 j (by show j<ii;omega))
   ·rw [hd] at hq
    rcases hq with q|q|q
    ·exact .inl q
    ·exact q.elim
    ·exact .inr (.inr fun j hj=>cZ hl0 k (by rw [hd];exact q j hj))
   ·rw [Ik,w6] at hj;exact absurd hj (akU _)
   ·rw [yX w2] at hh;cases hh
   ·have:=yX (v:=x.s.H.jc (ii:Int)) w2
    rw [hh] at this;cases this
   ·refine Oe ?_
    unfold CS.iI
    split<;>trivial
 | work =>
   have hnw:∀ m u,x.aC.next ≠ .dJ m u:=by rw [hd];intro m u e;cases e
   have hl0:dO x.aC.next=0:=by rw [hd];rfl
   have hmk:Af x.aC.phase:=fQ
   unfold fJ
   simp only [aN]
   cases hs:x.aC.bD.getLast? with
   | some a =>
     have hsp:=BF hs
     have hra:p.lq a:=h.bD a (by rw [hsp];exact alq _ (alo.2 rfl))
     refine ⟨h.go (d := .iD a .work) (st:=x.aC.bD.dropLast) hnw (fun m u e=>by cases e) (fun v hv=>cZ hl0 k hv) ⟨hmk,trivial⟩ ⟨hra,trivial⟩ (fun b hb=>h.bD b (Ip hb)) trivial (fun h4 j hj=>cZ hl0 k (by rw [hd];exact lS h4 j hj)) (fun b hb hc hq=>?_) (fun j hj=>absurd hj (akU _)) (fun hh=>by cases hh) (fun hh=>by cases hh),trivial,rfl⟩
     rw [hd] at hq
     rcases hq with q|q|q
     ·rw [hsp] at q
      rcases aln.1 q with q|q
      ·exact .inl q
      ·exact .inr (.inl (.inl (alo.1 q)))
     ·exact q.elim
     ·exact .inr (.inr fun j hj=>cZ hl0 k (by rw [hd];exact q j hj))
   | none =>
     refine ⟨h.go (d := .box 0) (st:=x.aC.bD) hnw (fun m u e=>by cases e) (fun v hv=>cZ hl0 k hv) ⟨hmk,by omega⟩ trivial h.bD trivial (fun h4 j hj=>cZ hl0 k (by rw [hd];exact lS h4 j hj)) (fun b hb hc hq=>?_) (fun j hj=>absurd hj (akU _)) (fun hh=>by cases hh) (fun hh=>by cases hh),trivial,rfl⟩
     rw [hd] at hq
     rcases hq with q|q|q
     ·exact .inl q
     ·exact q.elim
     ·exact .inr (.inr fun j hj=>cZ hl0 k (by rw [hd];exact q j hj))
 | ig t =>
   obtain ⟨hmk,htw⟩:=fQ
   have hnw:∀ m u,x.aC.next ≠ .dJ m u:=by rw [hd];intro m u e;cases e
   have hl0:dO x.aC.next=0:=by rw [hd];rfl
   obtain ⟨t1,t2,t3,t4,t5,t6⟩:=YF (p:=p) htw
   unfold fJ
   simp only [aN]
   cases hs:x.aC.bD.getLast? with
   | some a =>
     have hsp:=BF hs
     have hra:p.lq a:=h.bD a (by rw [hsp];exact alq _ (alo.2 rfl))
     refine ⟨h.go (d := .iD a (.ig t)) (st:=x.aC.bD.dropLast) hnw (fun m u e=>by cases e) (fun v hv=>cZ hl0 k hv) ⟨hmk,htw⟩ ⟨hra,src⟩ (fun b hb=>h.bD b (Ip hb)) (CP.ng (fun v hv=>hv) _ mM) (fun h4 j hj=>cZ hl0 k (by rw [hd];exact lS h4 j hj)) (fun b hb hc hq=>?_) (fun j hj=>absurd hj (akU _)) (fun hh=>by cases hh) (fun hh=>by cases hh),hw,rfl⟩
     rw [hd] at hq
     rcases hq with q|q|q
     ·rw [hsp] at q
      rcases aln.1 q with q|q
      ·exact .inl q
      ·exact .inr (.inl (.inl (alo.1 q)))
     ·exact .inr (.inl (.inr q))
     ·exact .inr (.inr fun j hj=>cZ hl0 k (by rw [hd];exact q j hj))
   | none =>
     refine ⟨h.go (d:=t) (st:=x.aC.bD) hnw t1 (fun v hv=>cZ hl0 k hv) (Uh hmk htw hw) src h.bD (CP.ng (fun v hv=>cZ hl0 k (by rw [hd];exact hv)) _ mM) (fun h4 j hj=>?_) (fun b hb hc hq=>?_) (fun j hj=>?_) (fun hh=>?_) (fun hh=>absurd hh t6),hw,rfl⟩
     ·rw [t4] at hj
      exact cZ hl0 k (by rw [hd];exact lS h4 j hj)
     ·rw [hd] at hq
      rcases hq with q|q|q
      ·exact .inl q
      ·exact .inr (.inl q)
      ·exact .inr (.inr fun j hj=>cZ hl0 k (by rw [hd];exact q j hj))
     ·rw [t3] at hj;exact absurd hj (akU _)
     ·rw [t2] at hh;cases hh
 | iD a t =>
   obtain ⟨hmk,hto⟩:=fQ
   obtain ⟨hra,hst⟩:=src
   have hnw:∀ m u,x.aC.next ≠ .dJ m u:=by rw [hd];intro m u e;cases e
   have hl0:dO x.aC.next=0:=by rw [hd];rfl
   obtain ⟨w1,w2,w3,w4,w5,w6,w7,w8,w9⟩:=Uf (p:=p) a 0 (x.s.H.dh a).1 hto
   have hfl:p.pq (p.kE x.s.H.co 0) (fA a 0 (x.s.H.dh a).1 t):=by
    unfold fA
    split
    ·exact mM
    ·rename_i e
     refine ⟨⟨by rw [hfp],by omega,fun j hj=>absurd hj (akU _)⟩,mM⟩
   have hah:∀ b,(b=a/\0<(p.H.dh a).1)\/p.kL b t->p.kL b (fA a 0 (x.s.H.dh a).1 t):=fun b hb=>by
    unfold fA
    rw [hfp]
    split
    ·rename_i e
     rcases hb with ⟨_,h2⟩|h2
     ·omega
     ·exact h2
    ·rcases hb with ⟨h1,_⟩|h2
     ·exact .inl h1
     ·exact .inr h2
   have hsc:p.rP (fA a 0 (x.s.H.dh a).1 t):=by
    unfold fA
    split
    ·exact hst
    ·exact ⟨hra,hst⟩
   have hsh:p.fQ x.aC.phase (fA a 0 (x.s.H.dh a).1 t):=by
    unfold fA
    split
    ·exact WJ hmk hto
    ·exact ⟨hmk,hto⟩
   refine ⟨h.go (d:=fA a 0 (x.s.H.dh a).1 t) (st:=x.aC.bD) hnw w1 (fun v hv=>cZ hl0 k hv) hsh hsc h.bD (by rw [w5];exact hfl) (fun h4 j hj=>?_) (fun b hb hc hq=>?_) (fun j hj=>?_) (fun hh=>?_) (fun hh=>absurd hh w9),Uj hw,rfl⟩
   ·rw [w3] at hj
    exact cZ hl0 k (by rw [hd];exact lS h4 j hj)
   ·rw [hd] at hq
    rcases hq with q|q|q
    ·exact .inl q
    ·rcases q with q|q
     ·by_cases h0:0<(p.H.dh a).1
      ·exact .inr (.inl (hah b (.inl ⟨q,h0⟩)))
      ·refine .inr (.inr fun j hj=>?_)
       rw [q] at hj;omega
     ·exact .inr (.inl (hah b (.inr q)))
    ·exact .inr (.inr fun j hj=>cZ hl0 k (by rw [hd];exact q j hj))
   ·rw [w4] at hj;exact absurd hj (akU _)
   ·rw [w2] at hh;cases hh
 | field a ii n t =>
   obtain ⟨hmk,hto⟩:=fQ
   obtain ⟨hra,hst⟩:=src
   obtain ⟨⟨hn1,hn2,hn3⟩,hft⟩:=mM
   have hnw:∀ m u,x.aC.next ≠ .dJ m u:=by rw [hd];intro m u e;cases e
   have hl0:dO x.aC.next=0:=by rw [hd];rfl
   obtain ⟨w1,w2,w3,w4,w5,w6,w7,w8,w9⟩:=Uf (p:=p) a (ii+1) n hto
   have hgood:p.Aw (x.s.H.eU a (ii:Int)):=fun hb=>by rw [hld] at hb ⊢;exact .mM hra (by omega) hb
   have agn:∀ j:Nat,j<ii+1->p.kE x.s.H.co (dO (fC (x.s.H.eU a (ii:Int)) (fA a (ii+1) n t))) (p.H.eU a (j:Int)):=fun j hj=>by
    by_cases e:j=ii
    ·subst e
     rw [<- hld]
     exact Il k
    ·exact cZ hl0 k (by rw [hd];exact hn3 j (by omega))
   have hfl:p.pq (p.kE x.s.H.co (dO (fC (x.s.H.eU a (ii:Int)) (fA a (ii+1) n t)))) (fA a (ii+1) n t):=by
    have hmono:=CP.ng (p:=p) (ok:=p.kE x.s.H.co (dO (CD.field a ii n t))) (ok':=p.kE x.s.H.co (dO (fC (x.s.H.eU a (ii:Int)) (fA a (ii+1) n t)))) (fun v hv=>cZ hl0 k (by rw [hd];exact hv)) t hft
    generalize dO (fC (x.s.H.eU a (ii:Int)) (fA a (ii+1) n t))=q at *
    unfold fA
    split
    ·exact hmono
    ·rename_i e
     exact ⟨⟨hn1,by omega,agn⟩,hmono⟩
   have hah:∀ b,(b=a/\ii+1<n)\/p.kL b t->p.kL b (fA a (ii+1) n t):=fun b hb=>by
    unfold fA
    split
    ·rename_i e
     rcases hb with ⟨_,h2⟩|h2
     ·omega
     ·exact h2
    ·rcases hb with ⟨h1,_⟩|h2
     ·exact .inl h1
     ·exact .inr h2
   have hsc:p.rP (fA a (ii+1) n t):=by
    unfold fA
    split
    ·exact hst
    ·exact ⟨hra,hst⟩
   have hsh:p.fQ x.aC.phase (fA a (ii+1) n t):=by
    unfold fA
    split
    ·exact WJ hmk hto
    ·exact ⟨hmk,hto⟩
   refine ⟨h.go (d:=fC (x.s.H.eU a (ii:Int)) (fA a (ii+1) n t)) (st:=x.aC.bD) hnw (MW w1) (fun v hv=>cZ hl0 k hv) (Io hmk w6 (fun i e=>absurd e (w7 i)) (fun i e=>absurd e (w8 i)) hsh) (Ii hgood hsc) h.bD (Ij.2 hfl) (fun h4 j hj=>?_) (fun b hb hc hq=>?_) (fun j hj=>?_) (fun hh=>?_) (fun hh=>?_),Oe (Uj hw),rfl⟩
   ·rw [F7,w3] at hj
    exact cZ hl0 k (by rw [hd];exact lS h4 j hj)
   ·rw [hd] at hq
    rcases hq with q|q|q
    ·exact .inl q
    ·rcases q with q|q
     ·by_cases h0:ii+1<n
      ·exact .inr (.inl (Jz.2 (hah b (.inl ⟨q,h0⟩))))
      ·refine .inr (.inr fun j hj=>?_)
       rw [q] at hj ⊢
       exact agn j (by omega)
     ·exact .inr (.inl (Jz.2 (hah b (.inr q))))
    ·exact .inr (.inr fun j hj=>cZ hl0 k (by rw [hd];exact q j hj))
   ·rw [Ik,w4] at hj;exact absurd hj (akU _)
   ·rw [yX w2] at hh;cases hh
   ·have:=yX (v:=x.s.H.eU a (ii:Int)) w2
    rw [hh] at this;cases this
 | iy b =>
   obtain ⟨hmk,hb⟩:=fQ
   have hnw:∀ m u,x.aC.next ≠ .dJ m u:=by rw [hd];intro m u e;cases e
   have hl0:dO x.aC.next=0:=by rw [hd];rfl
   obtain ⟨v1,v2,v3,v4,v5,v6,v7,v8,v9,v10,v11⟩:=WL (p:=p) x.aC h.rY (b+1) (by omega)
   obtain ⟨s1,s2,s3,s4⟩:=Ug (p:=p) (l:=x.s.H.bH b) v9
   obtain ⟨t1,t2,t3,t4,t5,t6⟩:=YF (p:=p) s1
   have hS:=Ui (p:=p) (l:=x.s.H.bH b) (WM (p:=p) x.aC h.rY (b+1) (by omega))
   refine ⟨h.go (d:=gX (x.s.H.bH b) (x.aC.iL (b+1))) (st:=x.aC.bD) hnw t1 (fun v hv=>cZ hl0 k hv) (Uh hmk s1 hS) (s2 v3) h.bD (s3 _ (v4 _)) (fun h4 j hj=>?_) (fun a ha hc hq=>?_) (fun j hj=>?_) (fun hh=>?_) (fun hh=>absurd hh t6),hS,rfl⟩
   ·rw [t4] at hj
    exact cZ hl0 k (by rw [hd];exact lS h4 j hj)
   ·rw [hd] at hq
    rcases hq with q|q|q
    ·exact .inl q
    ·obtain ⟨B,g1,g2,g3⟩:=q
     refine .inr (.inl ((s4 a).2 ?_))
     by_cases e:B=b
     ·subst e
      exact .inl (by rw [hsl];exact g3)
     ·exact .inr ((v5 a).2 ⟨B,by omega,g2,g3⟩)
    ·exact .inr (.inr fun j hj=>cZ hl0 k (by rw [hd];exact q j hj))
   ·rw [t3] at hj;exact absurd hj (akU _)
   ·rw [t2] at hh;cases hh
 | bH ll t =>
   obtain ⟨hmk,hle,htw⟩:=fQ
   obtain ⟨_,hws⟩:=hw
   have hnw:∀ m u,x.aC.next ≠ .dJ m u:=by rw [hd];intro m u e;cases e
   have hl0:dO x.aC.next=0:=by rw [hd];rfl
   obtain ⟨s1,s2,s3,s4⟩:=Ug (p:=p) (l:=ll.tail) htw
   have hS:=Ui (p:=p) (l:=ll.tail) hws
   have hsplit:∀ b,b∈ll->b=dA ll\/b∈ll.tail:=fun b hb=>by
    cases ll with
    | nil=>cases hb
    | cons a r=>exact ajN.1 hb
   have hfm:∀ l2,p.pq (p.kE x.s.H.co l2) t:=fun l2=>CP.ng (p:=p) (ok:=p.kE x.s.H.co (dO (CD.bH ll t))) (fun v hv=>cZ hl0 k (by rw [hd];exact hv)) t mM
   unfold fJ
   simp only [aN]
   by_cases hc:(!x.s.H.bn (dA ll)||x.s.H.iU (dA ll) != x.aC.aP)=true
   ·rw [aZ hc]
    obtain ⟨t1,t2,t3,t4,t5,t6⟩:=YF (p:=p) s1
    refine ⟨h.go (d:=gX ll.tail t) (st:=x.aC.bD) hnw t1 (fun v hv=>cZ hl0 k hv) (Uh hmk s1 hS) (s2 src) h.bD (s3 _ (hfm _)) (fun h4 j hj=>?_) (fun a ha hca hq=>?_) (fun j hj=>?_) (fun hh=>?_) (fun hh=>absurd hh t6),hS,trivial⟩
    ·rw [t4] at hj
     exact cZ hl0 k (by rw [hd];exact lS h4 j hj)
    ·rw [hd] at hq
     rcases hq with q|q|q
     ·exact .inl q
     ·rcases q with q|q
      ·rcases hsplit a q with e|e
       ·exfalso
        rw [<- e,hbn,ha,h.jw,hH] at hc
        have:=(FZ (p:=p) hk2 (f:=f) a).2 (by rw [<- hco];exact hca)
        rw [Bool.not_true,Bool.false_or,bne,this] at hc
        cases hc
       ·exact .inr (.inl ((s4 a).2 (.inl e)))
      ·exact .inr (.inl ((s4 a).2 (.inr q)))
     ·exact .inr (.inr fun j hj=>cZ hl0 k (by rw [hd];exact q j hj))
    ·rw [t3] at hj;exact absurd hj (akU _)
    ·rw [t2] at hh;cases hh
   ·rw [aT hc]
    have hc':x.s.H.bn (dA ll)=true/\x.s.H.iU (dA ll)=p.κ:=by
     rw [<- h.jw]
     simp at hc
     exact hc
    have hra:=agm h hc'.1 hc'.2
    refine ⟨h.go (d := .iD (dA ll) (.ig (gX ll.tail t))) (st:=x.aC.bD) hnw (fun m u e=>by cases e) (fun v hv=>cZ hl0 k hv) ⟨hmk,s1⟩ ⟨hra,s2 src⟩ h.bD (s3 _ (hfm _)) (fun h4 j hj=>cZ hl0 k (by rw [hd];exact lS h4 j hj)) (fun a ha hca hq=>?_) (fun j hj=>absurd hj (akU _)) (fun hh=>by cases hh) (fun hh=>by cases hh),hS,trivial⟩
    rw [hd] at hq
    rcases hq with q|q|q
    ·exact .inl q
    ·rcases q with q|q
     ·rcases hsplit a q with e|e
      ·exact .inr (.inl (.inl e))
      ·exact .inr (.inl (.inr ((s4 a).2 (.inl e))))
     ·exact .inr (.inl (.inr ((s4 a).2 (.inr q))))
    ·exact .inr (.inr fun j hj=>cZ hl0 k (by rw [hd];exact q j hj))
 | box mm =>
   obtain ⟨hmk,hm⟩:=fQ
   have hnw:∀ m u,x.aC.next ≠ .dJ m u:=by rw [hd];intro m u e;cases e
   have hl0:dO x.aC.next=0:=by rw [hd];rfl
   unfold fJ
   simp only [aN]
   cases hbx:x.s.box mm with
   | cons a r =>
     have hib:mm<x.s.aV.length:=by rw [h.box];exact hm
     have hbi:∀ j,({ x.s with aV:=x.s.aV.set mm r }:Sh).box j=if j=mm then r else x.s.box j:=fun j=>by
      show (x.s.aV.set mm r).getD j []=_
      rw [ajg]
      by_cases e:j=mm
      ·subst e
       rw [ajA hib,aZ rfl];rfl
      ·rw [ajB (fun e'=>e e'.symm),<- ajg,aT e];rfl
     have hga:p.Aw a:=h.tZ mm a (by rw [hbx];exact List.mem_cons_self)
     have hla:rQ (fC a (.box mm))=false:=yX rfl
     refine ⟨⟨h.k2,h.mu8,h.heap,h.aG,h.tY,by show (x.s.aV.set mm r).length=_;rw [aku];exact h.box,h.jw,h.rY,h.uG,h.bd,fun i m hm'=>?_,fun i hi hp=>?_,h.ph,?_,Ii hga trivial,h.bD,fun i v hv=>?_,h.wo,Ij.2 trivial,fun h4 j hj=>?_,?_,fun j hj=>?_,fun hh=>?_,fun hh=>?_,h.q⟩,Oe trivial,rfl⟩
     ·refine (h.gW i m hm').aC rfl (fun v hv=>cZ hl0 k hv) (fun v hv=>?_)
      rw [hbi i]
      by_cases e:i=mm
      ·subst e
       rw [aZ rfl]
       rw [hbx] at hv
       rcases ajN.1 hv with e|e
       ·exact .inr (by rw [e];exact Il k)
       ·exact .inl e
      ·rw [aT e];exact .inl hv
     ·have hp':x.s.B.bF (i:Int)=true:=hp
      rw [h.pz hnw hi] at hp';cases hp'
     ·exact Io hmk trivial (fun i e=>by cases e) (fun m e=>by cases e;exact hm) ⟨hmk,hm⟩
     ·have hv':v∈({ x.s with aV:=x.s.aV.set mm r }:Sh).box i:=hv
      rw [hbi i] at hv'
      split at hv'
      ·exact h.tZ mm v (by rw [hbx];exact List.mem_cons_of_mem _ hv')
      ·exact h.tZ i v hv'
     ·have hj':j<p.nK (fC a (.box mm)):=hj
      rw [F7] at hj'
      exact cZ hl0 k (by rw [hd];exact lS h4 j hj')
     ·refine yJ.imp (fun hw=>hw) (fun hc b hb hcb=>?_)
      rcases hc b hb hcb with q|q|q
      ·exact .inl q
      ·exact q.elim
      ·exact .inr (.inr fun j hj=>cZ hl0 k (by rw [hd];exact q j hj))
     ·have hj':j<p.sS (fC a (.box mm)):=hj
      rw [Ik] at hj'
      have hj2:j<mm:=hj'
      show ({ x.s with aV:=x.s.aV.set mm r }:Sh).box j=[]
      rw [hbi j,aT (by omega)]
      exact bx j hj2
     ·have hh':rQ (fC a (.box mm))=true:=hh
      rw [hla] at hh';cases hh'
     ·have hh':fC a (.box mm) = .fP:=hh
      rw [hh'] at hla;cases hla
   | nil =>
     have hcm:=h.tY
     have Og:∀ (d':CD) (b:Nat),(b∈x.aC.bD\/p.kL b x.aC.next\/∀ j:Nat,j<(p.H.dh b).1->p.kE x.s.H.co (dO x.aC.next) (p.H.eU b (j:Int)))->b∈x.aC.bD\/p.kL b d'\/∀ j:Nat,j<(p.H.dh b).1->p.kE x.s.H.co (dO d') (p.H.eU b (j:Int)):=fun d' b hq=>by
      rcases hq with q|q|q
      ·exact .inl q
      ·rw [hd] at q;exact q.elim
      ·exact .inr (.inr fun j hj=>cZ hl0 k (q j hj))
     have hbb:∀ j,j<mm+1->x.s.box j=[]:=fun j hj=>by
      by_cases e:j=mm
      ·rw [e];exact hbx
      ·exact bx j (by show j<mm;omega)
     by_cases hl:mm+1<x.aC.aG
     ·rw [aZ hl]
      exact ⟨h.go (d := .box (mm+1)) (st:=x.aC.bD) hnw (fun m u e=>by cases e) (fun v hv=>cZ hl0 k hv) ⟨hmk,by omega⟩ trivial h.bD trivial (fun h4 j hj=>cZ hl0 k (by rw [hd];exact lS h4 j hj)) (fun b hb hc hq=>Og _ b hq) (fun j hj=>hbb j hj) (fun hh=>by cases hh) (fun hh=>by cases hh),trivial,rfl⟩
     ·rw [aT hl]
      by_cases hs:x.aC.bD=[]
      ·rw [aZ hs]
       exact ⟨h.go (d := .over) (st:=x.aC.bD) hnw (fun m u e=>by cases e) (fun v hv=>cZ hl0 k hv) hmk trivial h.bD trivial (fun h4 j hj=>cZ hl0 k (by rw [hd];exact lS h4 j hj)) (fun b hb hc hq=>Og _ b hq) (fun j hj=>hbb j (by have hj':j<p.mu:=hj;omega)) (fun _=>hs) (fun hh=>by cases hh),trivial,rfl⟩
      ·rw [aT hs]
       exact ⟨h.go (d := .work) (st:=x.aC.bD) hnw (fun m u e=>by cases e) (fun v hv=>cZ hl0 k hv) hmk trivial h.bD trivial (fun h4 j hj=>cZ hl0 k (by rw [hd];exact lS h4 j hj)) (fun b hb hc hq=>Og _ b hq) (fun j hj=>absurd hj (akU _)) (fun hh=>by cases hh) (fun hh=>by cases hh),trivial,rfl⟩
 | over =>
   have hmk:Af x.aC.phase:=fQ
   have hnw:∀ m u,x.aC.next ≠ .dJ m u:=by rw [hd];intro m u e;cases e
   have hl0:dO x.aC.next=0:=by rw [hd];rfl
   have ail:=h.stk0 (by rw [hd];rfl)
   have Og:∀ (d':CD) (b:Nat),(b∈x.aC.bD\/p.kL b x.aC.next\/∀ j:Nat,j<(p.H.dh b).1->p.kE x.s.H.co (dO x.aC.next) (p.H.eU b (j:Int)))->b∈x.aC.bD\/p.kL b d'\/∀ j:Nat,j<(p.H.dh b).1->p.kE x.s.H.co (dO d') (p.H.eU b (j:Int)):=fun d' b hq=>by
    rcases hq with q|q|q
    ·exact .inl q
    ·rw [hd] at q;exact q.elim
    ·exact .inr (.inr fun j hj=>cZ hl0 k (q j hj))
   unfold fJ
   simp only [aN]
   by_cases hfo:(!x.s.dw && !x.aC.over)=true
   ·rw [aZ hfo]
    have ain:x.s.dw=false/\x.aC.over=false:=by simpa using hfo
    by_cases h4:x.aC.phase=4
    ·rw [aZ h4]
     exact ⟨h.go (d := .jV) (st:=x.aC.bD) hnw (fun m u e=>by cases e) (fun v hv=>cZ hl0 k hv) h4 trivial h.bD trivial (fun h4 j hj=>cZ hl0 k (by rw [hd];exact lS h4 j hj)) (fun b hb hc hq=>Og _ b hq) (fun j hj=>absurd hj (akU _)) (fun hh=>by cases hh) (fun hh=>by cases hh),trivial,rfl⟩
    ·rw [aT h4]
     have h5:x.aC.phase=5:=hmk.resolve_left h4
     by_cases hfr:x.aC.dP=true
     ·rw [aZ hfr]
      exact ⟨h.phase (c:=x.aC) (d := .jV) hnw ⟨rfl,rfl,rfl,rfl,rfl,rfl⟩ hl0 rfl k (fun m u e=>by cases e) (.inr ⟨h5,rfl⟩) (.inr (.inl ⟨by omega,by rw [hd];rfl,rfl⟩)) (Nat.le_refl _) (fun a ha=>by rw [hd] at ha;exact ha) rfl trivial trivial rfl rfl,trivial,rfl⟩
     ·rw [aT hfr]
      exact ⟨h.go (d := .fP) (st:=x.aC.bD) hnw (fun m u e=>by cases e) (fun v hv=>cZ hl0 k hv) h5 trivial h.bD trivial (fun h4 j hj=>cZ hl0 k (by rw [hd];exact lS h4 j hj)) (fun b hb hc hq=>Og _ b hq) (fun j hj=>bx j hj) (fun _=>ail) (fun _=>ain),trivial,rfl⟩
   ·rw [aT hfo]
    obtain ⟨v1,v2,v3,v4,v5,v6,v7,v8,v9,v10,v11⟩:=WL (p:=p) x.aC h.rY 0 (aki _)
    have hwD:CS.iL { x.aC with over:=false,dP:=true,kK:=x.aC.kK+1 } 0=x.aC.iL 0:=rfl
    refine ⟨⟨h.k2,h.mu8,h.heap,h.aG,h.tY,h.box,h.jw,h.rY,h.uG,h.bd,fun i m hm=>(h.gW i m hm).aC rfl (fun v hv=>cZ hl0 k hv) (fun _ hv => .inl hv),fun i hi hp=>?_,h.ph,v10 _ hmk,v3,h.bD,h.tZ,h.wo,v4 _,fun h4 j hj=>?_,.inr fun a ha hca => .inr (.inl ((v5 a).2 ?_)),fun j hj=>?_,fun hh=>?_,fun hh=>absurd hh v11,h.q⟩,WM (p:=p) x.aC h.rY 0 (aki _),rfl⟩
    ·have hp':x.s.B.bF (i:Int)=true:=hp
     rw [h.pz hnw hi] at hp';cases hp'
    ·have hj':j<p.nK (x.aC.iL 0):=hj
     rw [v7] at hj'
     exact cZ hl0 k (by rw [hd];exact lS h4 j hj')
    ·obtain ⟨B,g1,g2⟩:=k.kL a ha
     exact ⟨B,aki _,g1,g2⟩
    ·have hj':j<p.sS (x.aC.iL 0):=hj
     rw [v6] at hj';exact absurd hj' (akU _)
    ·have hh':rQ (x.aC.iL 0)=true:=hh
     rw [v2] at hh';cases hh'
 | fP=>exact absurd rfl hne
 | _=>exact fQ.elim
end
section
variable {p:CP} {x y:WS} {s s':Sh} {m m':MS} {i l l' ph vO hf:Nat} {H:HS}
theorem aeK {s:Sh} {i:Nat} (h:s.aV.length<=i):s.box i=[]:=by
 unfold Sh.box
 rw [ajg,ajK h];rfl
theorem jO.fP (k:zB p hf) (h:jO p x) (hd:x.aC.next = .fP):(∀ a,p.lq a↔p.H.bn a=true/\x.s.H.co a=p.kb)/\(∀ i,i<p.mu->x.s.B.bF (i:Int)=false)/\x.aC.phase=5/\(∀ (i:Nat) (m:MS),x.aG[i]?=some m->m.aY=[]/\m.next = .nil)/\(∀ i,x.s.box i=[])/\x.aC.bD=[]/\x.s.dw=false/\x.aC.over=false:=by
 have hnw:∀ m u,x.aC.next ≠ .dJ m u:=by rw [hd];intro m u e;cases e
 have hnb:=fun i hi=>h.pz (i:=i) hnw hi
 have h5:x.aC.phase=5:=by have:=h.fQ;rw [hd] at this;exact this
 have hbn:∀ (i:Nat) (m:MS),x.aG[i]?=some m->m.aY=[]/\m.next = .nil:=fun i m hm=>⟨(h.gW i m hm).buf5 h5 (hnb i (h.vP hm)),(h.gW i m hm).jE (hnb i (h.vP hm))⟩
 have hbx:∀ i,x.s.box i=[]:=fun i=>by
  rcases Nat.lt_or_ge i p.mu with g|g
  ·exact h.bx i (by rw [hd];exact g)
  ·exact aeK (by rw [h.box];exact g)
 obtain ⟨m1,m2⟩:=h.mk0 hd
 have hst:=h.stk0 (by rw [hd];rfl)
 have hok:∀ v,p.kE x.s.H.co (dO x.aC.next) v->p.H.bn v=true->x.s.H.co v=p.kb:=fun v hv hb=>by
  rcases hv hb with g|g
  ·exact g
  ·rw [hd] at g
   have g':v=0:=g
   rw [g',k.bn0] at hb;cases hb
 have aio:∀ a,p.H.bn a=true->x.s.H.co a=p.kb->∀ j:Nat,j<(p.H.dh a).1->p.kE x.s.H.co (dO x.aC.next) (p.H.eU a (j:Int)):=by
  rcases h.yJ with hw|hc
  ·rcases hw with hw|hw|⟨i,m,hm,hp⟩
   ·rw [m1] at hw;cases hw
   ·rw [m2] at hw;cases hw
   ·rw [(hbn i m hm).2] at hp;cases hp
  ·intro a ha hca
   rcases hc a ha hca with g|g|g
   ·rw [hst] at g;cases g
   ·rw [hd] at g;exact g.elim
   ·exact g
 refine ⟨fun a=>⟨fun hr=>?_,fun hr=>h.wo a hr.1 hr.2⟩,hnb,h5,hbn,hbx,hst,m1,m2⟩
 induction hr with
 | zI hrt hb =>
   refine ⟨hb,?_⟩
   rcases hrt with ⟨j,hj,e⟩|⟨i,hi,hv⟩
   ·rw [e] at hb ⊢
    exact hok _ (h.lS (by omega) j (by rw [hd];exact hj)) hb
   ·obtain ⟨m,hm⟩:∃ m,x.aG[i]?=some m:=⟨x.aG[i]'(by rw [h.aG];exact hi),List.getElem?_eq_getElem _⟩
    have mi:=h.gW i m hm
    rcases mi.yg (by omega) (fun hh=>by omega) _ (by rw [mi.aW];exact hv) with g|g|g|g
    ·exact hok _ g hb
    ·rw [(hbn i m hm).1] at g;cases g
    ·rw [hbx i] at g;cases g
    ·rw [(hbn i m hm).2] at g;cases g
 | mM hra hj hb ih=>exact ⟨hb,hok _ (aio _ ih.1 ih.2 _ hj) hb⟩
theorem ahy (H:HS) (a:Nat):(H.dh a).1<=15:=by
 unfold HS.dh
 split
 ·unfold HS.nf HS.tK
  cases hh:Ey (H.jf a) with
  | none=>exact aki _
  | some cf =>
    obtain ⟨c,f⟩:=cf
    obtain ⟨⟨hc,hf⟩,_⟩:=Fb hh
    show f<=15
    have:2^(c+1)<=2^4:=als (by decide) (by omega)
    omega
 ·exact aki _
theorem Kr (H:HS) (B:Nat):(H.bH B).length<=H.ww/2:=by
 unfold HS.bH
 split
 ·exact aki _
 ·rename_i e
  have hl:∀ a b c:Nat,(mP a b c).length=a:=fun a b c=>by simp [mP]
  rw [hl]
  have h2:2<=2^H.K.getD B 0:=by
   have:2^1<=2^H.K.getD B 0:=als (by decide) (by omega)
   exact this
  exact Nat.div_le_div_left h2 (by decide)
theorem DW {B k a:Nat} (h:H.iC a=some (B,k)):B<H.b/\a∈H.bH B:=by
 obtain ⟨g1,g2,g3,g4,g5,g6⟩:=gB h
 have hw:0<H.ww:=by
  rcases Nat.eq_zero_or_pos H.ww with e|e
  ·rw [e] at g6;simp at g6
  ·exact e
 refine ⟨by rw [g3,Nat.div_lt_iff_lt_mul hw];omega,?_⟩
 unfold HS.bH
 rw [g4,aT (by omega)]
 unfold mP
 refine List.mem_map.2 ⟨(a - 1)%H.ww/2^(k+1),List.mem_range.2 g6,?_⟩
 have hm:=ajC ((a - 1)%H.ww) (2^(k+1))
 rw [g5] at hm
 have hm2:=ajC (a - 1) H.ww
 rw [<- g3] at hm2
 have c1:(a - 1)%H.ww/2^(k+1)*2^(k+1)=2^(k+1)*((a - 1)%H.ww/2^(k+1)):=Nat.mul_comm _ _
 have c2:B*H.ww=H.ww*B:=Nat.mul_comm _ _
 omega
theorem eu.MX (h:eu p.H) (hb:p.bl=p.H.b):zB p (p.H.ww/2):=by
 refine ⟨fun a ha=>?_,fun a=>ahy p.H a,fun a ha=>?_,fun B=>Kr p.H B⟩
 ·obtain ⟨B,k,f,h1,_⟩:=h.kG a ha
  obtain ⟨g1,g2,_⟩:=gB h1
  exact ⟨g1,by show a<p.H.b*p.H.ww+1;omega⟩
 ·obtain ⟨B,k,f,h1,_⟩:=h.kG a ha
  obtain ⟨g1,g2⟩:=DW h1
  exact ⟨B,by rw [hb];exact g1,g2⟩
structure ahz (H H':HS) (a:Nat):Prop where
 gU:eu H'
 bn:∀ c,H'.bn c=if c=a then false else H.bn c
 co:H'.co=H.co
 K:H'.K=H.K
 b:H'.b=H.b
 ww:H'.ww=H.ww
 c:H'.c=H.c
 cells:H'.cells=H.cells
 mM:∀ d,H.bn d=true->d≠a->H'.dh d=H.dh d/\∀ j:Nat,H'.eU d (j:Int)=H.eU d (j:Int)
theorem eu.free (h:eu H) {a:Nat} (ha:H.bn a=true):ahz H (H.jH a) a:=by
 obtain ⟨B,k,f,ho,hok,hw⟩:=h.kG a ha
 have hin:H.jg a=false:=by
  rw [Bool.eq_false_iff]
  intro hi
  obtain ⟨q,hq,hm⟩:=h.jg.1 hi
  have:=(h.og q hq a hm).1
  rw [ha] at this;cases this
 have hk4:k<4:=h.jh ho
 have hbk:(H.rZ a).bn a=false:=by show iZ H.bn a false a=false;unfold iZ;rw [aZ rfl]
 have e:H.jH a=(H.rZ a).put a k:=by
  unfold HS.jH
  rw [aZ ha]
  unfold HS.jA
  have ho':(H.rZ a).iC a=some (B,k):=ho
  rw [ho']
  have hin':(H.rZ a).jg a=false:=hin
  simp only
  rw [hbk,hin',aT (by decide)]
 have hinv:eu ((H.rZ a).put a k):=(h.rZ a).put (B:=B) ho hbk hin
 rw [e]
 have hal:a<=H.A.length:=by rw [h.sU];exact (gB ho).2.1
 have hwd:∀ d,d≠a->((H.rZ a).put a k).jf d=H.jf d:=fun d hd=>by
  show vG (H.A.set (a - 1) _) d=vG H.A d
  rw [Fg (gB ho).1 hal,aT hd]
 have hbn:∀ c,((H.rZ a).put a k).bn c=if c=a then false else H.bn c:=fun c=>rfl
 refine ⟨hinv,hbn,rfl,rfl,rfl,rfl,rfl,rfl,fun d hd hda=>?_⟩
 have hd':((H.rZ a).put a k).bn d=true:=by rw [hbn,aT hda];exact hd
 have hd0:d≠0:=by
  obtain ⟨_,_,_,h1,_⟩:=h.kG d hd
  have:=(gB h1).1
  omega
 have hO:H.qB d=0:=by
  unfold HS.qB HS.Dy
  rw [aT hd0,hd,alu,aZ rfl]
 have hO':((H.rZ a).put a k).qB d=0:=by
  unfold HS.qB HS.Dy
  rw [aT hd0,hd',alu,aZ rfl]
 have hnf:((H.rZ a).put a k).nf d=H.nf d:=by
  unfold HS.nf HS.tK
  rw [hwd d hda]
 refine ⟨by unfold HS.dh;rw [aZ hO,aZ hO',hnf],fun j=>?_⟩
 have hle:((H.rZ a).put a k).mY d (j:Int)=H.mY d (j:Int):=by
  unfold HS.mY
  rw [aZ hO,aZ hO',hnf]
 unfold HS.eU
 rw [hle]
 by_cases hz:H.mY d (j:Int)=0
 ·rw [aZ hz,aZ hz]
  refine hwd _ ?_
  have hj:j<H.nf d:=by
   unfold HS.mY at hz
   rw [aZ hO] at hz
   split at hz
   ·cases hz
   ·omega
  have hio:H.Dy d=true:=by unfold HS.Dy;rw [hd,alu]
  have:=(h.field hio hj).1
  intro e2
  rw [show d+1+(j:Int).toNat=d+1+j from rfl] at e2
  rw [e2,ho] at this
  cases this
 ·rw [aT hz,aT hz]
end
structure SM (p:CP) (s:Sh) (i:Nat) (m:MS):Prop where
 id:m.id=i
 prog:m.prog.length<=m.dG.length
 aW:m.aW=p.aW i
 lg:1<=m.c.l.toNat
 dQ:m.dQ=p.κ
 aP:m.aP=p.κ
 aY:m.aY=[]
 nx:m.next = .nil\/(m.next = .once 7/\s.B.bF (i:Int)=true)
 kind:s.B.bF (i:Int)=true->s.B.kind=7
def CP.Oh (p:CP) (ph:Nat):CD->Prop
 | .iJ b=>ph=6/\b<p.bl
 | .eX=>ph=6
 | .block _=>ph=6
 | .jR=>ph=6
 | .off=>ph=6
 | .dJ m t=>ph=7/\m<p.mu/\t = .jE
 | .jE=>ph=7
 | _=>False
def Ag:CD->Bool
 | .block _=>true
 | _=>false
def I7:CD->Bool
 | .jR=>true
 | .off=>true
 | .dJ _ _=>true
 | .jE=>true
 | _=>false
def CP.YG (p:CP) (q:Qu) (d:CD) (a:Nat):Prop :=
 (∃ b B k,d = .iJ b/\p.H.iC a=some (B,k)/\b<=B)\/(∃ B k j,p.H.iC a=some (B,k)/\j<4/\(B:Int)∈q.rw j)\/∃ sl,d = .block sl/\a∈sl
structure qF (p:CP) (x:WS) (dead:List Nat):Prop where
 k2:p.κ<2
 mu8:1<=p.mu/\p.mu<=8
 aG:x.aG.length=p.mu
 tY:x.aC.aG=p.mu
 box:x.s.aV.length=p.mu
 jw:x.aC.aP=p.κ
 rY:x.aC.dU=p.bl
 uG:x.aC.cells=p.ce
 uz:p.bl=p.H.b
 gU:eu x.s.H
 bn:∀ a,x.s.H.bn a=true↔p.H.bn a=true/\a∉dead
 co:∀ a,p.H.bn a=true->(x.s.H.co a=p.kb↔p.lq a)
 nd:dead.Nodup
 dd:∀ a∈dead,p.H.bn a=true/\¬ p.lq a
 xG:x.s.H.K=p.H.K/\x.s.H.b=p.H.b/\x.s.H.ww=p.H.ww/\x.s.H.c=p.H.c/\x.s.H.cells=p.H.cells
 mM:∀ a,p.lq a->x.s.H.dh a=p.H.dh a/\∀ j:Nat,x.s.H.eU a (j:Int)=p.H.eU a (j:Int)
 bd:BI p.mu x.s.B
 gW:∀ i m,x.aG[i]?=some m->SM p x.s i m
 wt:∀ i,i<p.mu->x.s.B.bF (i:Int)=true->∃ m t,x.aC.next = .dJ m t/\m<=i
 tZ:∀ i,x.s.box i=[]
 bD:x.aC.bD=[]
 fl:x.s.dw=false/\x.aC.over=false
 ql:x.s.Q.rows.length=4
 qn:∀ k,∀ b∈x.s.Q.rw k,∃ B:Nat,b=(B:Int)
 dS:x.s.Q.dS=if Ag x.aC.next then 1 else 0
 qe:I7 x.aC.next=true->∀ k,x.s.Q.rw k=[]
 fQ:p.Oh x.aC.phase x.aC.next
 eP:∀ a,x.s.H.bn a=true->¬ p.lq a->p.YG x.s.Q x.aC.next a
section
variable {p:CP} {x y:WS} {s s':Sh} {m m':MS} {i l l' ph vO hf:Nat} {H:HS} {dead:List Nat}
theorem qF.congr (h:qF p x dead) (hs:y.s=x.s) (hm:y.aG=x.aG) (hc:y.aC=x.aC):qF p y dead:=by
 obtain ⟨a,b,c,d,e⟩:=x
 obtain ⟨a',b',c',d',e'⟩:=y
 cases hs;cases hm;cases hc
 exact ⟨h.k2,h.mu8,h.aG,h.tY,h.box,h.jw,h.rY,h.uG,h.uz,h.gU,h.bn,h.co,h.nd,h.dd,h.xG,h.mM,h.bd,h.gW,h.wt,h.tZ,h.bD,h.fl,h.ql,h.qn,h.dS,h.qe,h.fQ,h.eP⟩
theorem qF.vP (h:qF p x dead) (hm:x.aG[i]?=some m):i<p.mu:=by rw [<- h.aG];exact (ake.1 hm).1
theorem Ep (h:qF p x dead) (hm:x.aG[i]?=some m):∃ s' m',dV x.s m=(s',m',none)/\qF p { x with s:=s',aG:=x.aG.set i m' } dead/\s'.H=x.s.H/\s'.Q=x.s.Q/\s'.aV=x.s.aV/\m'.aY=[]/\s'.dw=x.s.dw/\(∀ j:Nat,j≠i->s'.B.bF (j:Int)=x.s.B.bF (j:Int)) /\
 (if x.s.B.bF (i:Int) then (m.next = .nil/\m'.next = .once 7/\s'.B.bF (i:Int)=true)\/(m.next = .once 7/\m'.next = .nil/\s'.B.bF (i:Int)=false) else m'.next = .nil/\m.next = .nil/\s'.B.bF (i:Int)=false):=by
 have sm:=h.gW i m hm
 have Az:=h.vP hm
 have hlt:=(ake.1 hm).1
 have key:∀ (s':Sh) (m':MS),s'.H=x.s.H->s'.Q=x.s.Q->s'.aV=x.s.aV->s'.dw=x.s.dw->BI p.mu s'.B->(∀ j:Nat,j≠i->s'.B.bF (j:Int)=x.s.B.bF (j:Int))->(s'.B.bF (i:Int)=true->x.s.B.bF (i:Int)=true)->s'.B.kind=x.s.B.kind->SM p s' i m'->qF p { x with s:=s',aG:=x.aG.set i m' } dead:=fun s' m' e1 e2 e3 e4 hb hpo hpi hk hsm=>by
  have hbox:∀ j,s'.box j=x.s.box j:=fun j=>by unfold Sh.box;rw [e3]
  refine ⟨h.k2,h.mu8,by show (x.aG.set i m').length=_;rw [aku];exact h.aG,h.tY,by show s'.aV.length=_;rw [e3];exact h.box,h.jw,h.rY,h.uG,h.uz,by show eu s'.H;rw [e1];exact h.gU,fun a=>by show s'.H.bn a=true↔_;rw [e1];exact h.bn a,fun a ha=>by show s'.H.co a=_↔_;rw [e1];exact h.co a ha,h.nd,h.dd,by show s'.H.K=_/\s'.H.b=_/\s'.H.ww=_/\s'.H.c=_/\s'.H.cells=_;rw [e1];exact h.xG,
   fun a ha=>by show s'.H.dh a=_/\∀ j:Nat,s'.H.eU a (j:Int)=_;rw [e1];exact h.mM a ha,hb,fun j mj hj=>?_,fun j hj hp=>?_,fun j=>(hbox j).trans (h.tZ j),h.bD,⟨e4.trans h.fl.1,h.fl.2⟩,by show s'.Q.rows.length=4;rw [e2];exact h.ql,fun k b hb=>h.qn k b (by rw [<- e2];exact hb),by show s'.Q.dS=_;rw [e2];exact h.dS,fun hr k=>by show s'.Q.rw k=[];rw [e2];exact h.qe hr k,h.fQ,fun a ha hn=>by show p.YG s'.Q _ a;rw [e2];exact h.eP a (by rw [<- e1];exact ha) hn⟩
  ·have hj':(x.aG.set i m')[j]?=some mj:=hj
   by_cases e:j=i
   ·subst e
    rw [ajA hlt] at hj'
    cases hj'
    exact hsm
   ·rw [ajB (fun e'=>e e'.symm)] at hj'
    have g:=h.gW j mj hj'
    exact ⟨g.id,g.prog,g.aW,g.lg,g.dQ,g.aP,g.aY,g.nx.imp (fun h=>h) (fun hh=>⟨hh.1,by rw [hpo j e];exact hh.2⟩),fun hp=>by show s'.B.kind=7;rw [hk];exact g.kind (by rw [<- hpo j e];exact hp)⟩
  ·by_cases e:j=i
   ·subst e;exact h.wt j hj (hpi hp)
   ·exact h.wt j hj (by rw [<- hpo j e];exact hp)
 by_cases hn:jD m.next=true
 ·have hnx:m.next = .nil:=by
   cases hd:m.next<;>rw [hd] at hn<;>first|rfl|cases hn
  have hpk:dV x.s m=(x.s,{ m with aU:=1,mg:=x.s.B.bF (m.id:Int),next:=fG x.s m },none):=by
   unfold dV
   rw [aZ hn]
  by_cases hp:x.s.B.bF (i:Int)=true
  ·have hb:fG x.s m = .once 7:=by
    unfold fG
    rw [sm.id,hp,aZ rfl,sm.kind hp,aT (by decide),aT (by decide)]
   rw [hb] at hpk
   refine ⟨_,_,hpk,key _ _ rfl rfl rfl rfl h.bd (fun _ _=>rfl) (fun h=>h) rfl ⟨sm.id,sm.prog,sm.aW,sm.lg,sm.dQ,sm.aP,sm.aY,.inr ⟨rfl,hp⟩,sm.kind⟩,rfl,rfl,rfl,sm.aY,rfl,fun _ _=>rfl,?_⟩
   rw [aZ hp];exact .inl ⟨hnx,rfl,hp⟩
  ·have hp0:x.s.B.bF (i:Int)=false:=by simpa using hp
   have hb:fG x.s m = .nil:=by
    unfold fG
    rw [sm.id,hp0,aT (by decide),ajK sm.prog]
   rw [hb] at hpk
   refine ⟨_,_,hpk,key _ _ rfl rfl rfl rfl h.bd (fun _ _=>rfl) (fun h=>h) rfl ⟨sm.id,sm.prog,sm.aW,sm.lg,sm.dQ,sm.aP,sm.aY,.inl rfl,sm.kind⟩,rfl,rfl,rfl,sm.aY,rfl,fun _ _=>rfl,?_⟩
   rw [aT hp];exact ⟨rfl,hnx,hp0⟩
 ·rcases sm.nx with e|⟨e,hp⟩
  ·rw [e] at hn;exact absurd rfl hn
  ·obtain ⟨b1,b2,b3⟩:=h.bd.mg i
   obtain ⟨M,hM,hM2⟩:∃ M:MS,dV x.s m=({ x.s with B:=x.s.B.lV (m.id:Int) },M,none)/\(M.id=m.id/\M.prog=m.prog/\M.dG=m.dG/\M.aW=m.aW/\M.c=m.c/\M.dQ=m.dQ/\M.aP=m.aP/\M.aY=[]/\M.next = .nil):=by
    refine ⟨MS.most { m with aY:=[],oq:=0,aU:=m.aU+1,next := .nil },?_,?_⟩
    ·unfold dV
     rw [aT hn]
     have hst:∀ d,d=MD.once 7->(let r:=stepM x.s { m with aU:=m.aU+1 } d
      (r.s,if jD r.next then { r.m with next := .nil }.most else { r.m with next:=r.next },r.ev))=(({ x.s with B:=x.s.B.lV (m.id:Int) }:Sh),MS.most { m with aY:=[],oq:=0,aU:=m.aU+1,next := .nil },(none:Option Ev)):=fun d e=>by
      rw [e];rfl
     exact hst m.next e
    ·unfold MS.most
     split<;>exact ⟨rfl,rfl,rfl,rfl,rfl,rfl,rfl,rfl,rfl⟩
   obtain ⟨e1,e2,e3,e4,e5,e6,e7,e8,e9⟩:=hM2
   have hpi:(x.s.B.lV (m.id:Int)).bF (i:Int)=false:=by rw [sm.id,b2 i,aZ rfl]
   have hpo:∀ j:Nat,j≠i->(x.s.B.lV (m.id:Int)).bF (j:Int)=x.s.B.bF (j:Int):=fun j hj=>by rw [sm.id,b2 j,aT hj]
   refine ⟨_,_,hM,key _ _ rfl rfl rfl rfl (by rw [sm.id];exact b1) hpo (fun hh=>?_) (by show (x.s.B.lV (m.id:Int)).kind=_;rw [sm.id];exact b3) ⟨e1.trans sm.id,by rw [e2,e3];exact sm.prog,e4.trans sm.aW,by rw [e5];exact sm.lg,e6.trans sm.dQ,e7.trans sm.aP,e8,.inl e9,fun hh=>?_⟩,rfl,rfl,rfl,e8,rfl,hpo,?_⟩
   ·have hh':(x.s.B.lV (m.id:Int)).bF (i:Int)=true:=hh
    rw [hpi] at hh';cases hh'
   ·have hh':(x.s.B.lV (m.id:Int)).bF (i:Int)=true:=hh
    rw [hpi] at hh';cases hh'
   ·rw [aZ hp]
    exact .inr ⟨e,e9,hpi⟩
theorem jO.toSweep (hI:eu p.H) (hb:p.bl=p.H.b) (h:jO p x) (hd:x.aC.next = .fP):qF p (fJ x .fP) []/\(aN x.s x.aC .fP).ev=some (x.aC.ev 3 x.aC.cu):=by
 have k:=hI.MX hb
 obtain ⟨m1,m2,m3,m4,m5,m6,m7,m8⟩:=h.fP k hd
 obtain ⟨f,hH⟩:=h.heap
 have hq:=h.q
 have Jw:eu x.s.H:=by
  rw [hH]
  exact ⟨hI.sU,hI.zk,hI.k4,hI.lU,hI.oP,hI.chain,hI.nodup,hI.og,hI.kG,hI.yB,hI.Ea,hI.zero⟩
 have hbn:∀ a,x.s.H.bn a=p.H.bn a:=fun a=>by rw [hH]
 refine ⟨?_,rfl⟩
 unfold fJ
 simp only [aN]
 have hnx:∀ d:CD,d=CS.lW { x.aC with phase:=6 } 0->Ag d=false/\I7 d=false/\p.Oh 6 d/\(∀ a,p.H.bn a=true->∃ b B k,d = .iJ b/\p.H.iC a=some (B,k)/\b<=B):=fun d e=>by
  rw [e]
  unfold CS.lW
  have uz:=h.rY
  split
  ·rename_i e0
   have e0':0=x.aC.dU:=e0
   refine ⟨rfl,rfl,rfl,fun a ha=>?_⟩
   obtain ⟨B,g1,_⟩:=k.kL a ha
   omega
  ·rename_i e0
   have e0':¬ 0=x.aC.dU:=e0
   refine ⟨rfl,rfl,⟨rfl,by omega⟩,fun a ha=>?_⟩
   obtain ⟨B,k',f',g1,_⟩:=hI.kG a ha
   exact ⟨0,B,k',rfl,g1,aki _⟩
 obtain ⟨n1,n2,n3,n4⟩:=hnx _ rfl
 refine ⟨h.k2,h.mu8,h.aG,h.tY,h.box,h.jw,h.rY,h.uG,hb,Jw,fun a=>?_,fun a ha=>?_,List.nodup_nil,(fun a ha=>by cases ha),(by rw [hH];exact ⟨rfl,rfl,rfl,rfl,rfl⟩),fun a _=>?_,h.bd,fun i m hm=>?_,fun i hi hp=>?_,m5,m6,⟨m7,m8⟩,hq.2.2,fun kk b hb=>?_,?_,fun hr=>?_,n3,fun a ha hn => .inl (n4 a (by rw [<- hbn a];exact ha))⟩
 ·show x.s.H.bn a=true↔_
  rw [hbn a];simp
 ·constructor
  ·intro hc;exact (m1 a).2 ⟨ha,hc⟩
  ·intro hr;exact ((m1 a).1 hr).2
 ·show x.s.H.dh a=_/\∀ j:Nat,x.s.H.eU a (j:Int)=_
  rw [hH];exact ⟨rfl,fun _=>rfl⟩
 ·have mi:=h.gW i m hm
  have hi:=h.vP hm
  have hp:=m2 i hi
  refine ⟨mi.id,mi.prog,mi.aW,mi.lg,mi.dQ.resolve_left (fun hh=>by rw [hp] at hh;cases hh.2),?_,(m4 i m hm).1,.inl (m4 i m hm).2,fun hh=>?_⟩
  ·have hc:=mi.aP
   rw [m3,aT (by omega)] at hc
   exact hc
  ·have hh':x.s.B.bF (i:Int)=true:=hh
   rw [hp] at hh';cases hh'
 ·have hh':x.s.B.bF (i:Int)=true:=hp
  rw [m2 i hi] at hh';cases hh'
 ·have hb':b∈x.s.Q.rw kk:=hb
  rw [hq.1 kk] at hb';cases hb'
 ·have n1':Ag (x.aC.lW 0)=false:=n1
  show x.s.Q.dS=if Ag (x.aC.lW 0) then 1 else 0
  rw [n1'];exact hq.2.1
 ·have hr':I7 (x.aC.lW 0)=true:=hr
  have n2':I7 (x.aC.lW 0)=false:=n2
  rw [n2'] at hr';cases hr'
end
end
end Go.Proofs.YtanfphjoebobaaaGreatDoor
