/- Parts of a walk, put together and made shorter by a program of mine. No conditions. -/
import Derived.Test.YtanfphjoebobaaaGreatDoorZzcai
namespace Go.Proofs.YtanfphjoebobaaaGreatDoor
set_option maxHeartbeats 1000000
section
section
variable {p:CP} {x y:WS} {s s':Sh} {m m':MS} {i l l' ph ph' hf:Nat} {c':CS}
theorem vY {l:List Nat} {b:Nat} (h:b∈l.dropLast):b∈l:=(List.dropLast_sublist l).subset h
theorem sJ {mu:Nat} {b:Bd} (h:BI mu b) {i:Nat} (hi:i<mu):b.did i = !b.pend (i:Int):=by
 unfold Bd.did Bd.pend
 have:b.is (i:Int)=true:=by
  unfold Bd.is
  rw [h.muts,decide_eq_true (by omega),decide_eq_true (by omega)];rfl
 rw [this,Bool.true_and,Bool.true_and]
theorem IE (c:CS) (hc:c.blocks=p.bl) (b:Nat) (hb:b≤p.bl):(∀ m u,c.dH b ≠ .wait m u)∧jJ (c.dH b)=false∧p.jI (c.dH b)∧(∀ ok,p.iK ok (c.dH b))∧(∀ a,p.ahead a (c.dH b)↔∃ B,b≤B∧B<p.bl∧a∈p.H.slots B)∧p.jR (c.dH b)=0∧p.iq (c.dH b)=p.ce∧lookOf (c.dH b)=0∧wkT (c.dH b)∧(∀ ph,mkP ph→p.shp ph (c.dH b))∧c.dH b ≠ .marked:=by
 unfold CS.dH
 rw [hc]
 split
 ·rename_i e
  refine ⟨(fun m u e=>by cases e),rfl,trivial,(fun _=>trivial),(fun a=>⟨False.elim,fun ⟨B,h1,h2,_⟩=>?_⟩),rfl,rfl,rfl,trivial,(fun _ h=>h),(fun e=>by cases e)⟩
  omega
 ·exact ⟨(fun m u e=>by cases e),rfl,trivial,(fun _=>trivial),(fun a=>Iff.rfl),rfl,rfl,rfl,trivial,(fun _ h=>⟨h,by omega⟩),(fun e=>by cases e)⟩
theorem KN {t:CD} (h:wkT t):(∀ m u,t ≠ .wait m u)∧jJ t=false∧p.jR t=0∧p.iq t=p.ce∧lookOf t=0∧t ≠ .marked:=by
 cases t with
 | work=>exact ⟨(fun m u e=>by cases e),rfl,rfl,rfl,rfl,(fun e=>by cases e)⟩
 | walk b=>exact ⟨(fun m u e=>by cases e),rfl,rfl,rfl,rfl,(fun e=>by cases e)⟩
 | slots l t=>exact ⟨(fun m u e=>by cases e),rfl,rfl,rfl,rfl,(fun e=>by cases e)⟩
 | _=>exact h.elim
theorem FX {l:List Nat} {t:CD} (h:wkT t):wkT (bU l t)∧(p.jI t→p.jI (bU l t))∧(∀ ok,p.iK ok t→p.iK ok (bU l t))∧(∀ a,p.ahead a (bU l t)↔a∈l∨p.ahead a t):=by
 unfold bU
 split
 ·rename_i e
  rw [e]
  exact ⟨h,fun h=>h,fun _ h=>h,fun a=>⟨.inr,fun h=>h.resolve_left (fun hh=>by cases hh)⟩⟩
 ·exact ⟨h,fun h=>h,fun _ h=>h,fun a=>Iff.rfl⟩
def CP.wkS (p:CP):CD→Prop
 | .walk b=>b<p.bl
 | .slots l t=>l≠[]∧CP.wkS p t
 | .empty t=>CP.wkS p t
 | .object _ t=>CP.wkS p t
 | .field _ _ _ t=>CP.wkS p t
 | .look _ t=>CP.wkS p t
 | _=>True
theorem FY {ph:Nat} {t:CD} (hm:mkP ph) (ht:wkT t) (hs:p.wkS t):p.shp ph t:=by
 cases t with
 | work=>exact hm
 | walk b=>exact ⟨hm,hs⟩
 | slots l t=>exact ⟨hm,hs.1,ht⟩
 | _=>exact ht.elim
theorem FZ {l:List Nat} {t:CD} (h:p.wkS t):p.wkS (bU l t):=by
 unfold bU
 split
 ·exact h
 ·rename_i e;exact ⟨e,h⟩
theorem IG (c:CS) (hc:c.blocks=p.bl) (b:Nat) (hb:b≤p.bl):p.wkS (c.dH b):=by
 unfold CS.dH
 rw [hc]
 split
 ·trivial
 ·show b<p.bl;omega
theorem F5 {a i n:Nat} {t:CD} (h:p.wkS t):p.wkS (bD a i n t):=by
 unfold bD
 split<;>exact h
theorem AQ {v:Nat} {t:CD} (h:p.wkS t):p.wkS (bG v t):=by
 unfold bG
 split<;>exact h
theorem pY {l:List Nat} {a:Nat} (h:l.getLast?=some a):l=l.dropLast++[a]:=by
 rcases List.eq_nil_or_concat l with e|⟨l',b,e⟩
 ·rw [e] at h;cases h
 ·rw [e] at h ⊢
  simp at h
  rw [h];simp
theorem Uk (h:MInv p x) {a:Nat} (hb:x.s.H.bn a=true) (hc:x.s.H.dA a=p.κ):p.Rch a:=by
 obtain ⟨f,hH⟩:=h.heap
 have hco:x.s.H.co=f:=by rw [hH]
 refine h.pnt a (by rw [hH] at hb;exact hb) ?_
 rw [hco]
 rw [hH] at hc
 exact (uw h.k2 a).1 (by rw [hc];simp)
theorem qg (k:CPk p hf) (h:MInv p x) (hw:p.wkS x.coll.next) (d:CD) (hd:x.coll.next=d) (hne:d ≠ .marked):MInv p (stepW x d)∧p.wkS (stepW x d).coll.next∧(aj x.s x.coll d).ev=none:=by
 have hk2:=h.k2
 have hmu:=h.mu8
 have shp:=h.shp;have src:=h.src;have fld:=h.fld;have cel:=h.cel;have clo:=h.clo;have bx:=h.bx
 rw [hd] at shp src fld cel clo bx hw
 obtain ⟨f,hH⟩:=h.heap
 have hco:x.s.H.co=f:=by rw [hH]
 have hfp:∀ a,x.s.H.aT a=p.H.aT a:=fun a=>by rw [hH];rfl
 have hld:∀ a j,x.s.H.bQ a j=p.H.bQ a j:=fun a j=>by rw [hH];rfl
 have hcp:∀ j,x.s.H.cellP j=p.H.cellP j:=fun j=>by rw [hH];rfl
 have hsl:∀ b,x.s.H.slots b=p.H.slots b:=fun b=>by rw [hH];rfl
 have hbn:x.s.H.bn=p.H.bn:=by rw [hH]
 have nw:∀ {d':CD},(∀ m u,d ≠ .wait m u)→∀ m u,x.coll.next ≠ .wait m u:=fun hx m u=>by rw [hd];exact hx m u
 cases d with
 | look v t=>exact ⟨KL k h v t hd,(by unfold stepW;simp only [aj];split<;>exact hw),(by simp only [aj];split<;>rfl)⟩
 | wait mm t =>
   obtain ⟨hm,ht⟩:=shp
   have hlt:lookOf t=0∧p.jI t∧(∀ ok,p.iK ok t)∧p.jR t=0∧p.iq t=p.ce∧jJ t=false∧(∀ a,¬ p.ahead a t)∧p.wkS t∧(∀ m u,t ≠ .wait m u):=by
    rcases ht with ⟨_,e⟩|⟨_,e⟩|⟨_,e⟩|⟨_,e⟩<;>rw [e]<;>exact ⟨rfl,trivial,(fun _=>trivial),rfl,rfl,rfl,(fun _ h=>h),trivial,(fun m u e=>by cases e)⟩
   obtain ⟨t1,t2,t3,t4,t5,t6,t7,t8,t9⟩:=hlt
   have qL:=sJ h.bd hm
   unfold stepW
   simp only [aj]
   have hl0:lookOf x.coll.next=0:=by rw [hd];rfl
   have key:∀ d':CD,(∀ i,i<p.mu→x.s.B.pend (i:Int)=true→∃ m t,d' = .wait m t∧m≤i)→p.shp x.coll.phase d'→lookOf d'=0→p.jI d'→(∀ ok,p.iK ok d')→p.jR d'=0→p.iq d'=p.ce→jJ d'=false→(∀ a,¬ p.ahead a d')→MInv p { x with coll:={ x.coll with next:=d' } }:=fun d' g1 g2 g3 g4 g5 g6 g7 g8 g9=>by
    refine ⟨h.k2,h.mu8,h.heap,h.muts,h.cmu,h.box,h.col,h.cbl,h.cce,h.bd,fun i m hm=>?_,g1,h.ph,g2,g4,h.stk,h.bxs,h.pnt,g5 _,fun h4 j hj=>?_,?_,fun j hj=>?_,fun hh=>?_,fun hh=>?_,h.q⟩
    ·exact (h.bV i m hm).coll rfl (fun v hv=>aI hl0 k hv) (fun _ hv => .inl hv)
    ·have hj':j<p.iq d':=hj
     rw [g7] at hj'
     exact aI (x:=x) hl0 k (by rw [hd];exact cel h4 j hj')
    ·refine h.clo.imp (fun hw=>hw) (fun hc a ha hco=>?_)
     rcases hc a ha hco with g|g|g
     ·exact .inl g
     ·rw [hd] at g;exact g.elim
     ·exact .inr (.inr fun j hj=>aI hl0 k (g j hj))
    ·have hj':j<p.jR d':=hj
     omega
    ·have hh':jJ d'=true:=hh
     rw [g8] at hh';cases hh'
    ·have hh':d' = .marked:=hh
     rw [hh'] at g8;cases g8
   have hwt:∀ i,i<p.mu→x.s.B.pend (i:Int)=true→mm≤i:=fun i hi hp=>by
    obtain ⟨m',t',e,hle⟩:=h.wt i hi hp
    rw [hd] at e;cases e;exact hle
   by_cases hp:x.s.B.pend (mm:Int)=true
   ·rw [qL,hp,if_pos (by decide)]
    refine ⟨key (.wait mm t) (fun i hi hp=>⟨mm,t,rfl,hwt i hi hp⟩) ⟨hm,ht⟩ rfl trivial (fun _=>trivial) rfl rfl rfl (fun _ h=>h),trivial,?_⟩
    trivial
   ·have hp0:x.s.B.pend (mm:Int)=false:=by simpa using hp
    rw [qL,hp0,if_neg (by decide)]
    have hcm:=h.cmu
    have hwt2:∀ i,i<p.mu→x.s.B.pend (i:Int)=true→mm+1≤i:=fun i hi hq=>by
     have:=hwt i hi hq
     rcases Nat.lt_or_ge mm i with g|g
     ·exact g
     ·have:i=mm:=by omega
      subst this
      rw [hp0] at hq;cases hq
    by_cases hl:mm+1<x.coll.muts
    ·rw [if_pos hl]
     exact ⟨key (.wait (mm+1) t) (fun i hi hp=>⟨mm+1,t,rfl,hwt2 i hi hp⟩) ⟨by omega,ht⟩ rfl trivial (fun _=>trivial) rfl rfl rfl (fun _ h=>h),trivial,trivial⟩
    ·rw [if_neg hl]
     refine ⟨key t (fun i hi hp=>?_) ?_ t1 t2 t3 t4 t5 t6 t7,t8,trivial⟩
     ·have:=hwt2 i hi hp;omega
     ·rcases ht with ⟨a,e⟩|⟨a,e⟩|⟨a,e⟩|⟨a,e⟩<;>rw [e]
      ·exact a
      ·exact a
      ·exact a
      ·exact .inr a
 | arm =>
   have hph:x.coll.phase=1:=shp
   refine ⟨h.ask (c:=x.coll) (by rw [hd];intro m u e;cases e) ⟨rfl,rfl,rfl,rfl,rfl,rfl⟩ (by rw [hd];rfl) k (.inl ⟨hph,rfl,rfl⟩) (fun h4=>by omega) (fun a ha=>by rw [hd] at ha;exact ha),trivial,rfl⟩
 | scan =>
   have hph:x.coll.phase=2:=shp
   refine ⟨h.ask (c:=x.coll) (by rw [hd];intro m u e;cases e) ⟨rfl,rfl,rfl,rfl,rfl,rfl⟩ (by rw [hd];rfl) k (.inr (.inl ⟨hph,rfl,rfl⟩)) (fun h4=>by omega) (fun a ha=>by rw [hd] at ha;exact ha),trivial,rfl⟩
 | drain =>
   have hph:x.coll.phase=4:=shp
   refine ⟨h.ask (c:={ x.coll with fresh:=false,drains:=x.coll.drains+1 }) (by rw [hd];intro m u e;cases e) ⟨rfl,rfl,rfl,rfl,rfl,rfl⟩ (by rw [hd];rfl) k (.inr (.inr ⟨hph,rfl,rfl⟩)) (fun _=>by rw [hd];rfl) (fun a ha=>by rw [hd] at ha;exact ha),trivial,rfl⟩
 | trace =>
   have hph:x.coll.phase=3:=shp
   obtain ⟨w1,w2,w3,w4,w5,w6,w7,w8,w9,w10⟩:=IB (p:=p) { x.coll with phase:=4 } 0
   have hix:=FV (p:=p) (c:={ x.coll with phase:=4 }) h.cce (Nat.zero_le _)
   refine ⟨h.phase (c:=x.coll) (d:=CS.dF { x.coll with phase:=4 } 0) (by rw [hd];intro m u e;cases e) ⟨rfl,rfl,rfl,rfl,rfl,rfl⟩ (by rw [hd];rfl) w7 k w1 (.inl ⟨hph,rfl⟩) (.inl hix) (by rw [hix];exact Nat.zero_le _) (fun a ha=>by rw [hd] at ha;exact ha) ?_ w3 (w4 _) w6 w2,?_,rfl⟩
   ·unfold CS.dF
    split
    ·exact .inl rfl
    ·rename_i e
     refine ⟨rfl,?_⟩
     have hce:x.coll.cells=p.ce:=h.cce
     have e':¬ 0=x.coll.cells:=e
     omega
   ·show p.wkS (CS.dF { x.coll with phase:=4 } 0)
    unfold CS.dF
    split<;>trivial
 | cell ii =>
   obtain ⟨hph,hi⟩:=shp
   have hnw:∀ m u,x.coll.next ≠ .wait m u:=by rw [hd];intro m u e;cases e
   have hl0:lookOf x.coll.next=0:=by rw [hd];rfl
   obtain ⟨w1,w2,w3,w4,w5,w6,w7,w8,w9,w10⟩:=IB (p:=p) x.coll (ii+1)
   have hix:=FV (p:=p) (c:=x.coll) h.cce (i:=ii+1) (by omega)
   have hts:p.shp x.coll.phase (x.coll.dF (ii+1))∧∀ i,x.coll.dF (ii+1) = .cell i→x.coll.phase=4∧i<p.ce:=by
    have hce:=h.cce
    unfold CS.dF
    split
    ·exact ⟨.inl hph,fun i e=>by cases e⟩
    ·rename_i e
     exact ⟨⟨hph,by omega⟩,fun i e'=>by cases e';exact ⟨hph,by omega⟩⟩
   have hgood:p.good (x.s.H.cellP (ii:Int)):=fun hb=>by rw [hcp] at hb ⊢;exact .root (.inl ⟨ii,hi,rfl⟩) hb
   refine ⟨h.go (d:=bG (x.s.H.cellP (ii:Int)) (x.coll.dF (ii+1))) (st:=x.coll.stk) hnw (zT w1) (fun v hv=>aI hl0 k hv) (vX (.inl hph) w8 hts.2 w9 hts.1) (vT hgood w3) h.stk (vU.2 (w4 _)) (fun h4 j hj=>?_) (fun a ha hc hq=>?_) (fun j hj=>?_) (fun hh=>?_) (fun hh=>?_),?_,rfl⟩
   ·rw [uD,hix] at hj
    by_cases e:j=ii
    ·subst e
     rw [← hcp]
     exact vW k
    ·exact aI hl0 k (by rw [hd];exact cel h4 j (by show j<ii;omega))
   ·rw [hd] at hq
    rcases hq with q|q|q
    ·exact .inl q
    ·exact q.elim
    ·exact .inr (.inr fun j hj=>aI hl0 k (by rw [hd];exact q j hj))
   ·rw [vV,w6] at hj;exact absurd hj (Nat.not_lt_zero _)
   ·rw [nK w2] at hh;cases hh
   ·have:=nK (v:=x.s.H.cellP (ii:Int)) w2
    rw [hh] at this;cases this
   ·refine AQ ?_
    unfold CS.dF
    split<;>trivial
 | work =>
   have hnw:∀ m u,x.coll.next ≠ .wait m u:=by rw [hd];intro m u e;cases e
   have hl0:lookOf x.coll.next=0:=by rw [hd];rfl
   have hmk:mkP x.coll.phase:=shp
   unfold stepW
   simp only [aj]
   cases hs:x.coll.stk.getLast? with
   | some a =>
     have hsp:=pY hs
     have hra:p.Rch a:=h.stk a (by rw [hsp];exact List.mem_append_right _ (List.mem_singleton.2 rfl))
     refine ⟨h.go (d := .object a .work) (st:=x.coll.stk.dropLast) hnw (fun m u e=>by cases e) (fun v hv=>aI hl0 k hv) ⟨hmk,trivial⟩ ⟨hra,trivial⟩ (fun b hb=>h.stk b (vY hb)) trivial (fun h4 j hj=>aI hl0 k (by rw [hd];exact cel h4 j hj)) (fun b hb hc hq=>?_) (fun j hj=>absurd hj (Nat.not_lt_zero _)) (fun hh=>by cases hh) (fun hh=>by cases hh),trivial,rfl⟩
     rw [hd] at hq
     rcases hq with q|q|q
     ·rw [hsp] at q
      rcases List.mem_append.1 q with q|q
      ·exact .inl q
      ·exact .inr (.inl (.inl (List.mem_singleton.1 q)))
     ·exact q.elim
     ·exact .inr (.inr fun j hj=>aI hl0 k (by rw [hd];exact q j hj))
   | none =>
     refine ⟨h.go (d := .box 0) (st:=x.coll.stk) hnw (fun m u e=>by cases e) (fun v hv=>aI hl0 k hv) ⟨hmk,by omega⟩ trivial h.stk trivial (fun h4 j hj=>aI hl0 k (by rw [hd];exact cel h4 j hj)) (fun b hb hc hq=>?_) (fun j hj=>absurd hj (Nat.not_lt_zero _)) (fun hh=>by cases hh) (fun hh=>by cases hh),trivial,rfl⟩
     rw [hd] at hq
     rcases hq with q|q|q
     ·exact .inl q
     ·exact q.elim
     ·exact .inr (.inr fun j hj=>aI hl0 k (by rw [hd];exact q j hj))
 | empty t =>
   obtain ⟨hmk,htw⟩:=shp
   have hnw:∀ m u,x.coll.next ≠ .wait m u:=by rw [hd];intro m u e;cases e
   have hl0:lookOf x.coll.next=0:=by rw [hd];rfl
   obtain ⟨t1,t2,t3,t4,t5,t6⟩:=KN (p:=p) htw
   unfold stepW
   simp only [aj]
   cases hs:x.coll.stk.getLast? with
   | some a =>
     have hsp:=pY hs
     have hra:p.Rch a:=h.stk a (by rw [hsp];exact List.mem_append_right _ (List.mem_singleton.2 rfl))
     refine ⟨h.go (d := .object a (.empty t)) (st:=x.coll.stk.dropLast) hnw (fun m u e=>by cases e) (fun v hv=>aI hl0 k hv) ⟨hmk,htw⟩ ⟨hra,src⟩ (fun b hb=>h.stk b (vY hb)) (CP.gZ (fun v hv=>hv) _ fld) (fun h4 j hj=>aI hl0 k (by rw [hd];exact cel h4 j hj)) (fun b hb hc hq=>?_) (fun j hj=>absurd hj (Nat.not_lt_zero _)) (fun hh=>by cases hh) (fun hh=>by cases hh),hw,rfl⟩
     rw [hd] at hq
     rcases hq with q|q|q
     ·rw [hsp] at q
      rcases List.mem_append.1 q with q|q
      ·exact .inl q
      ·exact .inr (.inl (.inl (List.mem_singleton.1 q)))
     ·exact .inr (.inl (.inr q))
     ·exact .inr (.inr fun j hj=>aI hl0 k (by rw [hd];exact q j hj))
   | none =>
     refine ⟨h.go (d:=t) (st:=x.coll.stk) hnw t1 (fun v hv=>aI hl0 k hv) (FY hmk htw hw) src h.stk (CP.gZ (fun v hv=>aI hl0 k (by rw [hd];exact hv)) _ fld) (fun h4 j hj=>?_) (fun b hb hc hq=>?_) (fun j hj=>?_) (fun hh=>?_) (fun hh=>absurd hh t6),hw,rfl⟩
     ·rw [t4] at hj
      exact aI hl0 k (by rw [hd];exact cel h4 j hj)
     ·rw [hd] at hq
      rcases hq with q|q|q
      ·exact .inl q
      ·exact .inr (.inl q)
      ·exact .inr (.inr fun j hj=>aI hl0 k (by rw [hd];exact q j hj))
     ·rw [t3] at hj;exact absurd hj (Nat.not_lt_zero _)
     ·rw [t2] at hh;cases hh
 | object a t =>
   obtain ⟨hmk,hto⟩:=shp
   obtain ⟨hra,hst⟩:=src
   have hnw:∀ m u,x.coll.next ≠ .wait m u:=by rw [hd];intro m u e;cases e
   have hl0:lookOf x.coll.next=0:=by rw [hd];rfl
   obtain ⟨w1,w2,w3,w4,w5,w6,w7,w8,w9⟩:=FW (p:=p) a 0 (x.s.H.aT a).1 hto
   have hfl:p.iK (p.okv x.s.H.co 0) (bD a 0 (x.s.H.aT a).1 t):=by
    unfold bD
    split
    ·exact fld
    ·rename_i e
     refine ⟨⟨by rw [hfp],by omega,fun j hj=>absurd hj (Nat.not_lt_zero _)⟩,fld⟩
   have hah:∀ b,(b=a∧0<(p.H.aT a).1)∨p.ahead b t→p.ahead b (bD a 0 (x.s.H.aT a).1 t):=fun b hb=>by
    unfold bD
    rw [hfp]
    split
    ·rename_i e
     rcases hb with ⟨_,h2⟩|h2
     ·omega
     ·exact h2
    ·rcases hb with ⟨h1,_⟩|h2
     ·exact .inl h1
     ·exact .inr h2
   have hsc:p.jI (bD a 0 (x.s.H.aT a).1 t):=by
    unfold bD
    split
    ·exact hst
    ·exact ⟨hra,hst⟩
   have hsh:p.shp x.coll.phase (bD a 0 (x.s.H.aT a).1 t):=by
    unfold bD
    split
    ·exact IC hmk hto
    ·exact ⟨hmk,hto⟩
   refine ⟨h.go (d:=bD a 0 (x.s.H.aT a).1 t) (st:=x.coll.stk) hnw w1 (fun v hv=>aI hl0 k hv) hsh hsc h.stk (by rw [w5];exact hfl) (fun h4 j hj=>?_) (fun b hb hc hq=>?_) (fun j hj=>?_) (fun hh=>?_) (fun hh=>absurd hh w9),F5 hw,rfl⟩
   ·rw [w3] at hj
    exact aI hl0 k (by rw [hd];exact cel h4 j hj)
   ·rw [hd] at hq
    rcases hq with q|q|q
    ·exact .inl q
    ·rcases q with q|q
     ·by_cases h0:0<(p.H.aT a).1
      ·exact .inr (.inl (hah b (.inl ⟨q,h0⟩)))
      ·refine .inr (.inr fun j hj=>?_)
       rw [q] at hj;omega
     ·exact .inr (.inl (hah b (.inr q)))
    ·exact .inr (.inr fun j hj=>aI hl0 k (by rw [hd];exact q j hj))
   ·rw [w4] at hj;exact absurd hj (Nat.not_lt_zero _)
   ·rw [w2] at hh;cases hh
 | field a ii n t =>
   obtain ⟨hmk,hto⟩:=shp
   obtain ⟨hra,hst⟩:=src
   obtain ⟨⟨hn1,hn2,hn3⟩,hft⟩:=fld
   have hnw:∀ m u,x.coll.next ≠ .wait m u:=by rw [hd];intro m u e;cases e
   have hl0:lookOf x.coll.next=0:=by rw [hd];rfl
   obtain ⟨w1,w2,w3,w4,w5,w6,w7,w8,w9⟩:=FW (p:=p) a (ii+1) n hto
   have hgood:p.good (x.s.H.bQ a (ii:Int)):=fun hb=>by rw [hld] at hb ⊢;exact .fld hra (by omega) hb
   have Ul:∀ j:Nat,j<ii+1→p.okv x.s.H.co (lookOf (bG (x.s.H.bQ a (ii:Int)) (bD a (ii+1) n t))) (p.H.bQ a (j:Int)):=fun j hj=>by
    by_cases e:j=ii
    ·subst e
     rw [← hld]
     exact vW k
    ·exact aI hl0 k (by rw [hd];exact hn3 j (by omega))
   have hfl:p.iK (p.okv x.s.H.co (lookOf (bG (x.s.H.bQ a (ii:Int)) (bD a (ii+1) n t)))) (bD a (ii+1) n t):=by
    have hmono:=CP.gZ (p:=p) (ok:=p.okv x.s.H.co (lookOf (CD.field a ii n t))) (ok':=p.okv x.s.H.co (lookOf (bG (x.s.H.bQ a (ii:Int)) (bD a (ii+1) n t)))) (fun v hv=>aI hl0 k (by rw [hd];exact hv)) t hft
    generalize lookOf (bG (x.s.H.bQ a (ii:Int)) (bD a (ii+1) n t))=q at *
    unfold bD
    split
    ·exact hmono
    ·rename_i e
     exact ⟨⟨hn1,by omega,Ul⟩,hmono⟩
   have hah:∀ b,(b=a∧ii+1<n)∨p.ahead b t→p.ahead b (bD a (ii+1) n t):=fun b hb=>by
    unfold bD
    split
    ·rename_i e
     rcases hb with ⟨_,h2⟩|h2
     ·omega
     ·exact h2
    ·rcases hb with ⟨h1,_⟩|h2
     ·exact .inl h1
     ·exact .inr h2
   have hsc:p.jI (bD a (ii+1) n t):=by
    unfold bD
    split
    ·exact hst
    ·exact ⟨hra,hst⟩
   have hsh:p.shp x.coll.phase (bD a (ii+1) n t):=by
    unfold bD
    split
    ·exact IC hmk hto
    ·exact ⟨hmk,hto⟩
   refine ⟨h.go (d:=bG (x.s.H.bQ a (ii:Int)) (bD a (ii+1) n t)) (st:=x.coll.stk) hnw (zT w1) (fun v hv=>aI hl0 k hv) (vX hmk w6 (fun i e=>absurd e (w7 i)) (fun i e=>absurd e (w8 i)) hsh) (vT hgood hsc) h.stk (vU.2 hfl) (fun h4 j hj=>?_) (fun b hb hc hq=>?_) (fun j hj=>?_) (fun hh=>?_) (fun hh=>?_),AQ (F5 hw),rfl⟩
   ·rw [uD,w3] at hj
    exact aI hl0 k (by rw [hd];exact cel h4 j hj)
   ·rw [hd] at hq
    rcases hq with q|q|q
    ·exact .inl q
    ·rcases q with q|q
     ·by_cases h0:ii+1<n
      ·exact .inr (.inl (xE.2 (hah b (.inl ⟨q,h0⟩))))
      ·refine .inr (.inr fun j hj=>?_)
       rw [q] at hj ⊢
       exact Ul j (by omega)
     ·exact .inr (.inl (xE.2 (hah b (.inr q))))
    ·exact .inr (.inr fun j hj=>aI hl0 k (by rw [hd];exact q j hj))
   ·rw [vV,w4] at hj;exact absurd hj (Nat.not_lt_zero _)
   ·rw [nK w2] at hh;cases hh
   ·have:=nK (v:=x.s.H.bQ a (ii:Int)) w2
    rw [hh] at this;cases this
 | walk b =>
   obtain ⟨hmk,hb⟩:=shp
   have hnw:∀ m u,x.coll.next ≠ .wait m u:=by rw [hd];intro m u e;cases e
   have hl0:lookOf x.coll.next=0:=by rw [hd];rfl
   obtain ⟨v1,v2,v3,v4,v5,v6,v7,v8,v9,v10,v11⟩:=IE (p:=p) x.coll h.cbl (b+1) (by omega)
   obtain ⟨s1,s2,s3,s4⟩:=FX (p:=p) (l:=x.s.H.slots b) v9
   obtain ⟨t1,t2,t3,t4,t5,t6⟩:=KN (p:=p) s1
   have hS:=FZ (p:=p) (l:=x.s.H.slots b) (IG (p:=p) x.coll h.cbl (b+1) (by omega))
   refine ⟨h.go (d:=bU (x.s.H.slots b) (x.coll.dH (b+1))) (st:=x.coll.stk) hnw t1 (fun v hv=>aI hl0 k hv) (FY hmk s1 hS) (s2 v3) h.stk (s3 _ (v4 _)) (fun h4 j hj=>?_) (fun a ha hc hq=>?_) (fun j hj=>?_) (fun hh=>?_) (fun hh=>absurd hh t6),hS,rfl⟩
   ·rw [t4] at hj
    exact aI hl0 k (by rw [hd];exact cel h4 j hj)
   ·rw [hd] at hq
    rcases hq with q|q|q
    ·exact .inl q
    ·obtain ⟨B,g1,g2,g3⟩:=q
     refine .inr (.inl ((s4 a).2 ?_))
     by_cases e:B=b
     ·subst e
      exact .inl (by rw [hsl];exact g3)
     ·exact .inr ((v5 a).2 ⟨B,by omega,g2,g3⟩)
    ·exact .inr (.inr fun j hj=>aI hl0 k (by rw [hd];exact q j hj))
   ·rw [t3] at hj;exact absurd hj (Nat.not_lt_zero _)
   ·rw [t2] at hh;cases hh
 | slots ll t =>
   obtain ⟨hmk,hle,htw⟩:=shp
   obtain ⟨_,hws⟩:=hw
   have hnw:∀ m u,x.coll.next ≠ .wait m u:=by rw [hd];intro m u e;cases e
   have hl0:lookOf x.coll.next=0:=by rw [hd];rfl
   obtain ⟨s1,s2,s3,s4⟩:=FX (p:=p) (l:=ll.tail) htw
   have hS:=FZ (p:=p) (l:=ll.tail) hws
   have hsplit:∀ b,b∈ll→b=aJ ll∨b∈ll.tail:=fun b hb=>by
    cases ll with
    | nil=>cases hb
    | cons a r=>exact List.mem_cons.1 hb
   have hfm:∀ l2,p.iK (p.okv x.s.H.co l2) t:=fun l2=>CP.gZ (p:=p) (ok:=p.okv x.s.H.co (lookOf (CD.slots ll t))) (fun v hv=>aI hl0 k (by rw [hd];exact hv)) t fld
   unfold stepW
   simp only [aj]
   by_cases hc:(!x.s.H.bn (aJ ll)||x.s.H.dA (aJ ll) != x.coll.color)=true
   ·rw [if_pos hc]
    obtain ⟨t1,t2,t3,t4,t5,t6⟩:=KN (p:=p) s1
    refine ⟨h.go (d:=bU ll.tail t) (st:=x.coll.stk) hnw t1 (fun v hv=>aI hl0 k hv) (FY hmk s1 hS) (s2 src) h.stk (s3 _ (hfm _)) (fun h4 j hj=>?_) (fun a ha hca hq=>?_) (fun j hj=>?_) (fun hh=>?_) (fun hh=>absurd hh t6),hS,trivial⟩
    ·rw [t4] at hj
     exact aI hl0 k (by rw [hd];exact cel h4 j hj)
    ·rw [hd] at hq
     rcases hq with q|q|q
     ·exact .inl q
     ·rcases q with q|q
      ·rcases hsplit a q with e|e
       ·exfalso
        rw [← e,hbn,ha,h.col,hH] at hc
        have:=(uw (p:=p) hk2 (f:=f) a).2 (by rw [← hco];exact hca)
        rw [Bool.not_true,Bool.false_or,bne,this] at hc
        cases hc
       ·exact .inr (.inl ((s4 a).2 (.inl e)))
      ·exact .inr (.inl ((s4 a).2 (.inr q)))
     ·exact .inr (.inr fun j hj=>aI hl0 k (by rw [hd];exact q j hj))
    ·rw [t3] at hj;exact absurd hj (Nat.not_lt_zero _)
    ·rw [t2] at hh;cases hh
   ·rw [if_neg hc]
    have hc':x.s.H.bn (aJ ll)=true∧x.s.H.dA (aJ ll)=p.κ:=by
     rw [← h.col]
     simp at hc
     exact hc
    have hra:=Uk h hc'.1 hc'.2
    refine ⟨h.go (d := .object (aJ ll) (.empty (bU ll.tail t))) (st:=x.coll.stk) hnw (fun m u e=>by cases e) (fun v hv=>aI hl0 k hv) ⟨hmk,s1⟩ ⟨hra,s2 src⟩ h.stk (s3 _ (hfm _)) (fun h4 j hj=>aI hl0 k (by rw [hd];exact cel h4 j hj)) (fun a ha hca hq=>?_) (fun j hj=>absurd hj (Nat.not_lt_zero _)) (fun hh=>by cases hh) (fun hh=>by cases hh),hS,trivial⟩
    rw [hd] at hq
    rcases hq with q|q|q
    ·exact .inl q
    ·rcases q with q|q
     ·rcases hsplit a q with e|e
      ·exact .inr (.inl (.inl e))
      ·exact .inr (.inl (.inr ((s4 a).2 (.inl e))))
     ·exact .inr (.inl (.inr ((s4 a).2 (.inr q))))
    ·exact .inr (.inr fun j hj=>aI hl0 k (by rw [hd];exact q j hj))
 | box mm =>
   obtain ⟨hmk,hm⟩:=shp
   have hnw:∀ m u,x.coll.next ≠ .wait m u:=by rw [hd];intro m u e;cases e
   have hl0:lookOf x.coll.next=0:=by rw [hd];rfl
   unfold stepW
   simp only [aj]
   cases hbx:x.s.box mm with
   | cons a r =>
     have hib:mm<x.s.boxes.length:=by rw [h.box];exact hm
     have hbi:∀ j,({ x.s with boxes:=x.s.boxes.set mm r }:Sh).box j=if j=mm then r else x.s.box j:=fun j=>by
      show (x.s.boxes.set mm r).getD j []=_
      rw [List.getD_eq_getElem?_getD]
      by_cases e:j=mm
      ·subst e
       rw [List.getElem?_set_self hib,if_pos rfl];rfl
      ·rw [List.getElem?_set_ne (fun e'=>e e'.symm),← List.getD_eq_getElem?_getD,if_neg e];rfl
     have hga:p.good a:=h.bxs mm a (by rw [hbx];exact List.mem_cons_self)
     have hla:jJ (bG a (.box mm))=false:=nK rfl
     refine ⟨⟨h.k2,h.mu8,h.heap,h.muts,h.cmu,by show (x.s.boxes.set mm r).length=_;rw [List.length_set];exact h.box,h.col,h.cbl,h.cce,h.bd,fun i m hm'=>?_,fun i hi hp=>?_,h.ph,?_,vT hga trivial,h.stk,fun i v hv=>?_,h.pnt,vU.2 trivial,fun h4 j hj=>?_,?_,fun j hj=>?_,fun hh=>?_,fun hh=>?_,h.q⟩,AQ trivial,rfl⟩
     ·refine (h.bV i m hm').coll rfl (fun v hv=>aI hl0 k hv) (fun v hv=>?_)
      rw [hbi i]
      by_cases e:i=mm
      ·subst e
       rw [if_pos rfl]
       rw [hbx] at hv
       rcases List.mem_cons.1 hv with e|e
       ·exact .inr (by rw [e];exact vW k)
       ·exact .inl e
      ·rw [if_neg e];exact .inl hv
     ·have hp':x.s.B.pend (i:Int)=true:=hp
      rw [h.nobody hnw hi] at hp';cases hp'
     ·exact vX hmk trivial (fun i e=>by cases e) (fun m e=>by cases e;exact hm) ⟨hmk,hm⟩
     ·have hv':v∈({ x.s with boxes:=x.s.boxes.set mm r }:Sh).box i:=hv
      rw [hbi i] at hv'
      split at hv'
      ·exact h.bxs mm v (by rw [hbx];exact List.mem_cons_of_mem _ hv')
      ·exact h.bxs i v hv'
     ·have hj':j<p.iq (bG a (.box mm)):=hj
      rw [uD] at hj'
      exact aI hl0 k (by rw [hd];exact cel h4 j hj')
     ·refine clo.imp (fun hw=>hw) (fun hc b hb hcb=>?_)
      rcases hc b hb hcb with q|q|q
      ·exact .inl q
      ·exact q.elim
      ·exact .inr (.inr fun j hj=>aI hl0 k (by rw [hd];exact q j hj))
     ·have hj':j<p.jR (bG a (.box mm)):=hj
      rw [vV] at hj'
      have hj2:j<mm:=hj'
      show ({ x.s with boxes:=x.s.boxes.set mm r }:Sh).box j=[]
      rw [hbi j,if_neg (by omega)]
      exact bx j hj2
     ·have hh':jJ (bG a (.box mm))=true:=hh
      rw [hla] at hh';cases hh'
     ·have hh':bG a (.box mm) = .marked:=hh
      rw [hh'] at hla;cases hla
   | nil =>
     have hcm:=h.cmu
     have AU:∀ (d':CD) (b:Nat),(b∈x.coll.stk∨p.ahead b x.coll.next∨∀ j:Nat,j<(p.H.aT b).1→p.okv x.s.H.co (lookOf x.coll.next) (p.H.bQ b (j:Int)))→b∈x.coll.stk∨p.ahead b d'∨∀ j:Nat,j<(p.H.aT b).1→p.okv x.s.H.co (lookOf d') (p.H.bQ b (j:Int)):=fun d' b hq=>by
      rcases hq with q|q|q
      ·exact .inl q
      ·rw [hd] at q;exact q.elim
      ·exact .inr (.inr fun j hj=>aI hl0 k (q j hj))
     have hbb:∀ j,j<mm+1→x.s.box j=[]:=fun j hj=>by
      by_cases e:j=mm
      ·rw [e];exact hbx
      ·exact bx j (by show j<mm;omega)
     by_cases hl:mm+1<x.coll.muts
     ·rw [if_pos hl]
      exact ⟨h.go (d := .box (mm+1)) (st:=x.coll.stk) hnw (fun m u e=>by cases e) (fun v hv=>aI hl0 k hv) ⟨hmk,by omega⟩ trivial h.stk trivial (fun h4 j hj=>aI hl0 k (by rw [hd];exact cel h4 j hj)) (fun b hb hc hq=>AU _ b hq) (fun j hj=>hbb j hj) (fun hh=>by cases hh) (fun hh=>by cases hh),trivial,rfl⟩
     ·rw [if_neg hl]
      by_cases hs:x.coll.stk=[]
      ·rw [if_pos hs]
       exact ⟨h.go (d := .over) (st:=x.coll.stk) hnw (fun m u e=>by cases e) (fun v hv=>aI hl0 k hv) hmk trivial h.stk trivial (fun h4 j hj=>aI hl0 k (by rw [hd];exact cel h4 j hj)) (fun b hb hc hq=>AU _ b hq) (fun j hj=>hbb j (by have hj':j<p.mu:=hj;omega)) (fun _=>hs) (fun hh=>by cases hh),trivial,rfl⟩
      ·rw [if_neg hs]
       exact ⟨h.go (d := .work) (st:=x.coll.stk) hnw (fun m u e=>by cases e) (fun v hv=>aI hl0 k hv) hmk trivial h.stk trivial (fun h4 j hj=>aI hl0 k (by rw [hd];exact cel h4 j hj)) (fun b hb hc hq=>AU _ b hq) (fun j hj=>absurd hj (Nat.not_lt_zero _)) (fun hh=>by cases hh) (fun hh=>by cases hh),trivial,rfl⟩
 | over =>
   have hmk:mkP x.coll.phase:=shp
   have hnw:∀ m u,x.coll.next ≠ .wait m u:=by rw [hd];intro m u e;cases e
   have hl0:lookOf x.coll.next=0:=by rw [hd];rfl
   have VI:=h.stk0 (by rw [hd];rfl)
   have AU:∀ (d':CD) (b:Nat),(b∈x.coll.stk∨p.ahead b x.coll.next∨∀ j:Nat,j<(p.H.aT b).1→p.okv x.s.H.co (lookOf x.coll.next) (p.H.bQ b (j:Int)))→b∈x.coll.stk∨p.ahead b d'∨∀ j:Nat,j<(p.H.aT b).1→p.okv x.s.H.co (lookOf d') (p.H.bQ b (j:Int)):=fun d' b hq=>by
    rcases hq with q|q|q
    ·exact .inl q
    ·rw [hd] at q;exact q.elim
    ·exact .inr (.inr fun j hj=>aI hl0 k (q j hj))
   unfold stepW
   simp only [aj]
   by_cases hfo:(!x.s.flag && !x.coll.over)=true
   ·rw [if_pos hfo]
    have VJ:x.s.flag=false∧x.coll.over=false:=by simpa using hfo
    by_cases h4:x.coll.phase=4
    ·rw [if_pos h4]
     exact ⟨h.go (d := .drain) (st:=x.coll.stk) hnw (fun m u e=>by cases e) (fun v hv=>aI hl0 k hv) h4 trivial h.stk trivial (fun h4 j hj=>aI hl0 k (by rw [hd];exact cel h4 j hj)) (fun b hb hc hq=>AU _ b hq) (fun j hj=>absurd hj (Nat.not_lt_zero _)) (fun hh=>by cases hh) (fun hh=>by cases hh),trivial,rfl⟩
    ·rw [if_neg h4]
     have h5:x.coll.phase=5:=hmk.resolve_left h4
     by_cases hfr:x.coll.fresh=true
     ·rw [if_pos hfr]
      exact ⟨h.phase (c:=x.coll) (d := .drain) hnw ⟨rfl,rfl,rfl,rfl,rfl,rfl⟩ hl0 rfl k (fun m u e=>by cases e) (.inr ⟨h5,rfl⟩) (.inr (.inl ⟨by omega,by rw [hd];rfl,rfl⟩)) (Nat.le_refl _) (fun a ha=>by rw [hd] at ha;exact ha) rfl trivial trivial rfl rfl,trivial,rfl⟩
     ·rw [if_neg hfr]
      exact ⟨h.go (d := .marked) (st:=x.coll.stk) hnw (fun m u e=>by cases e) (fun v hv=>aI hl0 k hv) h5 trivial h.stk trivial (fun h4 j hj=>aI hl0 k (by rw [hd];exact cel h4 j hj)) (fun b hb hc hq=>AU _ b hq) (fun j hj=>bx j hj) (fun _=>VI) (fun _=>VJ),trivial,rfl⟩
   ·rw [if_neg hfo]
    obtain ⟨v1,v2,v3,v4,v5,v6,v7,v8,v9,v10,v11⟩:=IE (p:=p) x.coll h.cbl 0 (Nat.zero_le _)
    have hwD:CS.dH { x.coll with over:=false,fresh:=true,walks:=x.coll.walks+1 } 0=x.coll.dH 0:=rfl
    refine ⟨⟨h.k2,h.mu8,h.heap,h.muts,h.cmu,h.box,h.col,h.cbl,h.cce,h.bd,fun i m hm=>(h.bV i m hm).coll rfl (fun v hv=>aI hl0 k hv) (fun _ hv => .inl hv),fun i hi hp=>?_,h.ph,v10 _ hmk,v3,h.stk,h.bxs,h.pnt,v4 _,fun h4 j hj=>?_,.inr fun a ha hca => .inr (.inl ((v5 a).2 ?_)),fun j hj=>?_,fun hh=>?_,fun hh=>absurd hh v11,h.q⟩,IG (p:=p) x.coll h.cbl 0 (Nat.zero_le _),rfl⟩
    ·have hp':x.s.B.pend (i:Int)=true:=hp
     rw [h.nobody hnw hi] at hp';cases hp'
    ·have hj':j<p.iq (x.coll.dH 0):=hj
     rw [v7] at hj'
     exact aI hl0 k (by rw [hd];exact cel h4 j hj')
    ·obtain ⟨B,g1,g2⟩:=k.ahead a ha
     exact ⟨B,Nat.zero_le _,g1,g2⟩
    ·have hj':j<p.jR (x.coll.dH 0):=hj
     rw [v6] at hj';exact absurd hj' (Nat.not_lt_zero _)
    ·have hh':jJ (x.coll.dH 0)=true:=hh
     rw [v2] at hh';cases hh'
 | marked=>exact absurd rfl hne
 | _=>exact shp.elim
end
section
variable {p:CP} {x y:WS} {s s':Sh} {m m':MS} {i l l' ph ph' hf:Nat} {H:HS}
theorem RY {s:Sh} {i:Nat} (h:s.boxes.length≤i):s.box i=[]:=by
 unfold Sh.box
 rw [List.getD_eq_getElem?_getD,List.getElem?_eq_none h];rfl
theorem MInv.marked (k:CPk p hf) (h:MInv p x) (hd:x.coll.next = .marked):(∀ a,p.Rch a↔p.H.bn a=true∧x.s.H.co a=p.kb)∧(∀ i,i<p.mu→x.s.B.pend (i:Int)=false)∧x.coll.phase=5∧(∀ (i:Nat) (m:MS),x.muts[i]?=some m→m.buf=[]∧m.next = .nil)∧(∀ i,x.s.box i=[])∧x.coll.stk=[]∧x.s.flag=false∧x.coll.over=false:=by
 have hnw:∀ m u,x.coll.next ≠ .wait m u:=by rw [hd];intro m u e;cases e
 have hnb:=fun i hi=>h.nobody (i:=i) hnw hi
 have h5:x.coll.phase=5:=by have:=h.shp;rw [hd] at this;exact this
 have hbn:∀ (i:Nat) (m:MS),x.muts[i]?=some m→m.buf=[]∧m.next = .nil:=fun i m hm=>⟨(h.bV i m hm).buf5 h5 (hnb i (h.lF hm)),(h.bV i m hm).idle (hnb i (h.lF hm))⟩
 have hbx:∀ i,x.s.box i=[]:=fun i=>by
  rcases Nat.lt_or_ge i p.mu with g|g
  ·exact h.bx i (by rw [hd];exact g)
  ·exact RY (by rw [h.box];exact g)
 obtain ⟨m1,m2⟩:=h.mk0 hd
 have hst:=h.stk0 (by rw [hd];rfl)
 have hok:∀ v,p.okv x.s.H.co (lookOf x.coll.next) v→p.H.bn v=true→x.s.H.co v=p.kb:=fun v hv hb=>by
  rcases hv hb with g|g
  ·exact g
  ·rw [hd] at g
   have g':v=0:=g
   rw [g',k.bn0] at hb;cases hb
 have VK:∀ a,p.H.bn a=true→x.s.H.co a=p.kb→∀ j:Nat,j<(p.H.aT a).1→p.okv x.s.H.co (lookOf x.coll.next) (p.H.bQ a (j:Int)):=by
  rcases h.clo with hw|hc
  ·rcases hw with hw|hw|⟨i,m,hm,hp⟩
   ·rw [m1] at hw;cases hw
   ·rw [m2] at hw;cases hw
   ·rw [(hbn i m hm).2] at hp;cases hp
  ·intro a ha hca
   rcases hc a ha hca with g|g|g
   ·rw [hst] at g;cases g
   ·rw [hd] at g;exact g.elim
   ·exact g
 refine ⟨fun a=>⟨fun hr=>?_,fun hr=>h.pnt a hr.1 hr.2⟩,hnb,h5,hbn,hbx,hst,m1,m2⟩
 induction hr with
 | root hrt hb =>
   refine ⟨hb,?_⟩
   rcases hrt with ⟨j,hj,e⟩|⟨i,hi,hv⟩
   ·rw [e] at hb ⊢
    exact hok _ (h.cel (by omega) j (by rw [hd];exact hj)) hb
   ·obtain ⟨m,hm⟩:∃ m,x.muts[i]?=some m:=⟨x.muts[i]'(by rw [h.muts];exact hi),List.getElem?_eq_getElem _⟩
    have mi:=h.bV i m hm
    rcases mi.reg (by omega) (fun hh=>by omega) _ (by rw [mi.regs];exact hv) with g|g|g|g
    ·exact hok _ g hb
    ·rw [(hbn i m hm).1] at g;cases g
    ·rw [hbx i] at g;cases g
    ·rw [(hbn i m hm).2] at g;cases g
 | fld hra hj hb ih=>exact ⟨hb,hok _ (VK _ ih.1 ih.2 _ hj) hb⟩
theorem U5 (H:HS) (a:Nat):(H.aT a).1≤15:=by
 unfold HS.aT
 split
 ·unfold HS.nf HS.hdr
  cases hh:hdP (H.word a) with
  | none=>exact Nat.zero_le _
  | some cf =>
    obtain ⟨c,f⟩:=cf
    obtain ⟨⟨hc,hf⟩,_⟩:=sQ hh
    show f≤15
    have:2^(c+1)≤2^4:=Nat.pow_le_pow_right (by decide) (by omega)
    omega
 ·exact Nat.zero_le _
theorem yE (H:HS) (B:Nat):(H.slots B).length≤H.ww/2:=by
 unfold HS.slots
 split
 ·exact Nat.zero_le _
 ·rename_i e
  have hl:∀ a b c:Nat,(iV a b c).length=a:=fun a b c=>by simp [iV]
  rw [hl]
  have h2:2≤2^H.K.getD B 0:=by
   have:2^1≤2^H.K.getD B 0:=Nat.pow_le_pow_right (by decide) (by omega)
   exact this
  exact Nat.div_le_div_left h2 (by decide)
theorem vZ {B k a:Nat} (h:H.owner a=some (B,k)):B<H.b∧a∈H.slots B:=by
 obtain ⟨g1,g2,g3,g4,g5,g6⟩:=dD h
 have hw:0<H.ww:=by
  rcases Nat.eq_zero_or_pos H.ww with e|e
  ·rw [e] at g6;simp at g6
  ·exact e
 refine ⟨by rw [g3,Nat.div_lt_iff_lt_mul hw];omega,?_⟩
 unfold HS.slots
 rw [g4,if_neg (by omega)]
 unfold iV
 refine List.mem_map.2 ⟨(a - 1)%H.ww/2^(k+1),List.mem_range.2 g6,?_⟩
 have hm:=Nat.div_add_mod ((a - 1)%H.ww) (2^(k+1))
 rw [g5] at hm
 have hm2:=Nat.div_add_mod (a - 1) H.ww
 rw [← g3] at hm2
 have c1:(a - 1)%H.ww/2^(k+1)*2^(k+1)=2^(k+1)*((a - 1)%H.ww/2^(k+1)):=Nat.mul_comm _ _
 have c2:B*H.ww=H.ww*B:=Nat.mul_comm _ _
 omega
theorem bF.cpk (h:bF p.H) (hb:p.bl=p.H.b):CPk p (p.H.ww/2):=by
 refine ⟨fun a ha=>?_,fun a=>U5 p.H a,fun a ha=>?_,fun B=>yE p.H B⟩
 ·obtain ⟨B,k,f,h1,_⟩:=h.born a ha
  obtain ⟨g1,g2,_⟩:=dD h1
  exact ⟨g1,by show a<p.H.b*p.H.ww+1;omega⟩
 ·obtain ⟨B,k,f,h1,_⟩:=h.born a ha
  obtain ⟨g1,g2⟩:=vZ h1
  exact ⟨B,by rw [hb];exact g1,g2⟩
structure U6 (H H':HS) (a:Nat):Prop where
 inv:bF H'
 bn:∀ c,H'.bn c=if c=a then false else H.bn c
 co:H'.co=H.co
 K:H'.K=H.K
 b:H'.b=H.b
 ww:H'.ww=H.ww
 c:H'.c=H.c
 cells:H'.cells=H.cells
 fld:∀ d,H.bn d=true→d≠a→H'.aT d=H.aT d∧∀ j:Nat,H'.bQ d (j:Int)=H.bQ d (j:Int)
theorem bF.free (h:bF H) {a:Nat} (ha:H.bn a=true):U6 H (H.dX a) a:=by
 obtain ⟨B,k,f,ho,hok,hw⟩:=h.born a ha
 have hin:H.inn a=false:=by
  rw [Bool.eq_false_iff]
  intro hi
  obtain ⟨q,hq,hm⟩:=h.inn.1 hi
  have:=(h.jG q hq a hm).1
  rw [ha] at this;cases this
 have hk4:k<4:=h.cls ho
 have hbk:(H.kill a).bn a=false:=by show upd H.bn a false a=false;unfold upd;rw [if_pos rfl]
 have e:H.dX a=(H.kill a).put a k:=by
  unfold HS.dX
  rw [if_pos ha]
  unfold HS.dU
  have ho':(H.kill a).owner a=some (B,k):=ho
  rw [ho']
  have hin':(H.kill a).inn a=false:=hin
  simp only
  rw [hbk,hin',if_neg (by decide)]
 have hinv:bF ((H.kill a).put a k):=(h.kill a).put (B:=B) ho hbk hin
 rw [e]
 have hal:a≤H.A.length:=by rw [h.jY];exact (dD ho).2.1
 have hwd:∀ d,d≠a→((H.kill a).put a k).word d=H.word d:=fun d hd=>by
  show lM (H.A.set (a - 1) _) d=lM H.A d
  rw [sU (dD ho).1 hal,if_neg hd]
 have hbn:∀ c,((H.kill a).put a k).bn c=if c=a then false else H.bn c:=fun c=>rfl
 refine ⟨hinv,hbn,rfl,rfl,rfl,rfl,rfl,rfl,fun d hd hda=>?_⟩
 have hd':((H.kill a).put a k).bn d=true:=by rw [hbn,if_neg hda];exact hd
 have hd0:d≠0:=by
  obtain ⟨_,_,_,h1,_⟩:=h.born d hd
  have:=(dD h1).1
  omega
 have hO:H.jy d=0:=by
  unfold HS.jy HS.isO
  rw [if_neg hd0,hd,Bool.true_or,if_pos rfl]
 have hO':((H.kill a).put a k).jy d=0:=by
  unfold HS.jy HS.isO
  rw [if_neg hd0,hd',Bool.true_or,if_pos rfl]
 have hnf:((H.kill a).put a k).nf d=H.nf d:=by
  unfold HS.nf HS.hdr
  rw [hwd d hda]
 refine ⟨by unfold HS.aT;rw [if_pos hO,if_pos hO',hnf],fun j=>?_⟩
 have hle:((H.kill a).put a k).iC d (j:Int)=H.iC d (j:Int):=by
  unfold HS.iC
  rw [if_pos hO,if_pos hO',hnf]
 unfold HS.bQ
 rw [hle]
 by_cases hz:H.iC d (j:Int)=0
 ·rw [if_pos hz,if_pos hz]
  refine hwd _ ?_
  have hj:j<H.nf d:=by
   unfold HS.iC at hz
   rw [if_pos hO] at hz
   split at hz
   ·cases hz
   ·omega
  have hio:H.isO d=true:=by unfold HS.isO;rw [hd,Bool.true_or]
  have:=(h.field hio hj).1
  intro e2
  rw [show d+1+(j:Int).toNat=d+1+j from rfl] at e2
  rw [e2,ho] at this
  cases this
 ·rw [if_neg hz,if_neg hz]
end
end
end Go.Proofs.YtanfphjoebobaaaGreatDoor
