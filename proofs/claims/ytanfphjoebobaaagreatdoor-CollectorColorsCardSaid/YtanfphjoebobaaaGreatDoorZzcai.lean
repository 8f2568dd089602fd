/- Parts of a walk, put together and made shorter by a program of mine. No conditions. -/
import Derived.Test.YtanfphjoebobaaaGreatDoorZzcah
namespace Go.Proofs.YtanfphjoebobaaaGreatDoor
section
section
variable {p:CP} {x y:WS} {s s':Sh} {m m':MS} {i l l' ph hf:Nat}
theorem xC (k:CPk p hf) (w:Nat) (hw:w=p.κ):∀ rs:List Nat,(∀ v∈rs,p.good v)→oq (iJ w rs)∧nV (iJ w rs)=3∧p.nI (iJ w rs)∧(∀ v∈rs,v=0∨v∈kH (iJ w rs))∧left (iJ w rs)≤8*rs.length+1
 | [],_=>⟨rfl,rfl,trivial,(fun _ h=>by cases h),Nat.le_refl _⟩
 | v::r,hg=>by
   obtain ⟨h1,h2,h3,h4,h5⟩:=xC k w hw r (fun u hu=>hg u (List.mem_cons_of_mem _ hu))
   show oq (iP v w (iJ w r))∧nV (iP v w (iJ w r))=3∧p.nI (iP v w (iJ w r))∧(∀ u∈v::r,u=0∨u∈kH (iP v w (iJ w r)))∧left (iP v w (iJ w r))≤_
   unfold iP
   by_cases e:v=0
   ·rw [if_pos e]
    refine ⟨h1,h2,h3,fun u hu=>?_,by rw [List.length_cons];omega⟩
    rcases List.mem_cons.1 hu with rfl|hu
    ·exact .inl e
    ·exact h4 u hu
   ·rw [if_neg e]
    refine ⟨h1,h2,⟨hg v List.mem_cons_self,hw,h3⟩,fun u hu=>?_,by rw [List.length_cons];show 8+left _≤_;omega⟩
    rcases List.mem_cons.1 hu with rfl|hu
    ·exact .inr List.mem_cons_self
    ·rcases h4 u hu with g|g
     ·exact .inl g
     ·exact .inr (List.mem_cons_of_mem _ g)
structure PC (p:CP) (s:Sh) (m:MS) (i:Nat) (s':Sh) (m':MS):Prop where
 less:bZ s' i m'+2*(s'.box i).length+(if s.B.pend (i:Int) then 1 else 0)≤bZ s i m+2*(s.box i).length
 pnt:p.U s'.H.co+1≤p.U s.H.co∨(p.U s'.H.co=p.U s.H.co∧(prM m'.next=true∨s'.flag=true→prM m.next=true∨s.flag=true))
theorem vS (k:CPk p hf) (h:MInv p x) (hm:x.muts[i]?=some m) (hp:x.s.B.pend (i:Int)=true):AO m.buf (bI x.s m)∧bI x.s m ≠ .nil∧nV (bI x.s m)=(x.coll.phase:Int)∧p.nI (bI x.s m)∧(x.coll.phase=3→∀ v∈m.regs,v=0∨v∈kH (bI x.s m))∧left (bI x.s m)≤8*m.regs.length+4∧prM (bI x.s m)=false:=by
 have mi:=h.bV i m hm
 have oW:i<p.mu:=by rw [← h.muts];exact (List.getElem?_eq_some_iff.1 hm).1
 have hph:=h.Iz oW hp
 have hk:=mi.kind hp
 have hp':x.s.B.pend (m.id:Int)=true:=by rw [mi.id];exact hp
 have hw:x.coll.phase≠1→m.want=p.κ:=fun h1=>mi.want.resolve_left (fun h=>h1 h.1)
 unfold bI
 rw [hp',if_pos rfl,hk]
 by_cases h3:x.coll.phase=3
 ·rw [h3,if_pos (by decide)]
  obtain ⟨g1,g2,g3,g4,g5⟩:=xC k m.want (hw (by omega)) m.regs (fun v hv hb => .root (.inr ⟨i,oW,by rw [← mi.regs];exact hv⟩) hb)
  exact ⟨ru g1,uy g1,g2,g3,fun _=>g4,by omega,uz g1⟩
 ·rw [if_neg (by omega)]
  by_cases h5:x.coll.phase=5
  ·rw [h5,if_pos (by decide)]
   unfold MS.iQ
   by_cases e:m.buf=[]
   ·rw [if_pos e]
    exact ⟨fun _=>e,(fun e=>by cases e),rfl,trivial,(fun e=>by omega),by show 1≤_;omega,rfl⟩
   ·rw [if_neg e]
    exact ⟨trivial,(fun e=>by cases e),rfl,⟨hw (by omega),trivial⟩,(fun e=>by omega),by show 3+1≤_;omega,rfl⟩
  ·rw [if_neg (by omega)]
   refine ⟨fun e=>?_,(fun e=>by cases e),rfl,trivial,fun e=>absurd e h3,by show 1≤_;omega,rfl⟩
   exact absurd e (by omega)
theorem FU (k:CPk p hf) (h:MInv p x) (hm:x.muts[i]?=some m) (hn:m.next = .nil):bZ x.s i m≤3*m.buf.length+(8*m.regs.length+5):=by
 unfold bZ
 split
 ·rename_i hp
  have:=(vS k h hm hp).2.2.2.2.2.1
  rw [hn,if_pos (by decide)];omega
 ·omega
theorem yD (k:CPk p hf) (h:MInv p x) (hm:x.muts[i]?=some m) :
 MU p x.s m (lookOf x.coll.next) x.coll.phase i (aQ x.s m).1 (aQ x.s m).2.1∧PC p x.s m i (aQ x.s m).1 (aQ x.s m).2.1∧(aQ x.s m).2.2=none:=by
 have mi:=h.bV i m hm
 have oW:i<p.mu:=by rw [← h.muts];exact (List.getElem?_eq_some_iff.1 hm).1
 by_cases hn:isNil m.next=true
 ·have hnx:m.next = .nil:=by
   cases hd:m.next<;>rw [hd] at hn<;>first|rfl|cases hn
  have hpk:aQ x.s m=(x.s,{ m with spent:=1,ans:=x.s.B.pend (m.id:Int),next:=bI x.s m },none):=by
   unfold aQ
   rw [if_pos hn]
  rw [hpk]
  by_cases hp:x.s.B.pend (i:Int)=true
  ·obtain ⟨g1,g2,g3,g4,g5,g6,g7⟩:=vS k h hm hp
   have hmi:MI p x.s (lookOf x.coll.next) x.coll.phase i { m with spent:=1,ans:=x.s.B.pend (m.id:Int),next:=bI x.s m }:=by
    refine ⟨mi.id,mi.prog,mi.regs,mi.lg,mi.want,mi.color,fun hf=>?_,mi.kind,fun _=>g3,g1,g4,mi.buf,fun h3 _ v hv=>?_,mi.buf5⟩
    ·rw [hp] at hf;cases hf
    ·by_cases e3:x.coll.phase=3
     ·rcases g5 e3 v hv with rfl|g
      ·exact .inl (CP.FM k.bn0)
      ·exact .inr (.inr (.inr g))
     ·rcases mi.reg h3 (fun hh=>e3 hh.1) v hv with g|g|g|g
      ·exact .inl g
      ·exact .inr (.inl g)
      ·exact .inr (.inr (.inl g))
      ·rw [hnx] at g;cases g
   refine ⟨MU.same h hm hmi (fun hq=>by rw [hnx] at hq;cases hq),⟨?_,.inr ⟨rfl,fun hq=>?_⟩⟩,rfl⟩
   ·unfold bZ
    rw [hp,if_pos rfl,if_pos rfl,if_pos rfl,hn,if_pos rfl]
    show 3*m.buf.length+(if isNil (bI x.s m)=true then _ else left (bI x.s m))+2*(x.s.box i).length+1≤_
    rw [mO g2,if_neg (by decide)]
    omega
   ·rcases hq with hq|hq
    ·have hq':prM (bI x.s m)=true:=hq
     rw [g7] at hq';cases hq'
    ·exact .inr hq
  ·have hp0:x.s.B.pend (i:Int)=false:=by simpa using hp
   have hb:bI x.s m = .nil:=by
    unfold bI
    rw [mi.id,hp0,if_neg (by decide),List.getElem?_eq_none mi.prog]
   rw [hb]
   have hmi:MI p x.s (lookOf x.coll.next) x.coll.phase i { m with spent:=1,ans:=x.s.B.pend (m.id:Int),next := .nil }:=mi.of ⟨rfl,rfl,rfl,rfl,rfl,rfl,rfl,rfl,hnx.symm⟩
   refine ⟨MU.same h hm hmi (fun hq=>by rw [hnx] at hq;cases hq),⟨?_,.inr ⟨rfl,fun hq=>?_⟩⟩,rfl⟩
   ·unfold bZ
    rw [hp0]
    exact Nat.le_refl _
   ·rcases hq with hq|hq
    ·cases hq
    ·exact .inr hq
 ·have hn':isNil m.next=false:=by simpa using hn
  have hp:x.s.B.pend (i:Int)=true:=by
   cases hb:x.s.B.pend (i:Int)
   ·exact absurd (mi.idle hb) (FQ hn')
   ·rfl
  obtain ⟨u,c,e⟩:=Ql k h hm hn' m.next rfl
  have hpk:aQ x.s m=((stepM x.s { m with spent:=m.spent+1 } m.next).s,(if isNil (stepM x.s { m with spent:=m.spent+1 } m.next).next then { (stepM x.s { m with spent:=m.spent+1 } m.next).m with next := .nil }.most else { (stepM x.s { m with spent:=m.spent+1 } m.next).m with next:=(stepM x.s { m with spent:=m.spent+1 } m.next).next }),(stepM x.s { m with spent:=m.spent+1 } m.next).ev):=by
   unfold aQ
   rw [if_neg hn]
  rw [hpk]
  generalize stepM x.s { m with spent:=m.spent+1 } m.next=r at *
  by_cases hr:isNil r.next=true
  ·have hrn:r.next = .nil:=by
    cases hd:r.next<;>rw [hd] at hr<;>first|rfl|cases hr
   rw [if_pos hr]
   rw [hrn] at u c
   have hM:∀ M:MS,(M.most).id=M.id∧(M.most).prog=M.prog∧(M.most).res=M.res∧(M.most).regs=M.regs∧(M.most).c=M.c∧(M.most).want=M.want∧(M.most).color=M.color∧(M.most).buf=M.buf∧(M.most).next=M.next:=fun M=>by
    unfold MS.most
    split<;>exact ⟨rfl,rfl,rfl,rfl,rfl,rfl,rfl,rfl,rfl⟩
   have hM1:=hM { r.m with next := .nil }
   have hMb:∀ M:MS,bI r.s M.most=bI r.s M:=fun M=>by
    unfold MS.most
    split<;>rfl
   have VH:=hMb { r.m with next := .nil }
   have hmi:=u.mi.of hM1
   generalize MS.most { r.m with next := .nil }=M at *
   obtain ⟨_,_,_,_,_,_,_,e8,e9⟩:=hM1
   refine ⟨⟨u.heap,u.mono,u.pnt,u.len,u.oth,u.bx,u.bxw,u.bd,u.kind,u.pend,u.KH,u.q,hmi,u.flag,u.flag2,fun hq=>?_,fun a ha hc=>?_⟩,⟨?_,?_⟩,e⟩
   ·rw [e9];exact u.pr hq
   ·rw [e9];exact u.new a ha hc
   ·have hc:=c.less
    rw [hp,if_pos rfl]
    have ht:bZ r.s i M=bZ r.s i { r.m with next := .nil }:=by
     unfold bZ
     rw [e8,e9,VH]
    rw [ht];exact hc
   ·rw [e9];exact c.pnt
  ·rw [if_neg hr]
   exact ⟨u,⟨by have hc:=c.less;rw [hp,if_pos rfl];exact hc,c.pnt⟩,e⟩
end
section
variable {p:CP} {x y:WS} {s s':Sh} {m m':MS} {i l l' ph ph' hf:Nat} {c':CS}
theorem MI.coll (h:MI p s l ph i m) (hB:s'.B=s.B) (hk:∀ v,p.okv s.H.co l v→p.okv s'.H.co l' v) (hb:∀ v∈s.box i,v∈s'.box i∨p.okv s'.H.co l' v):MI p s' l' ph i m :=
 ⟨h.id,h.prog,h.regs,h.lg,by rw [hB];exact h.want,by rw [hB];exact h.color,by rw [hB];exact h.idle,by rw [hB];exact h.kind,h.FK,h.shp,h.gd,h.buf,
  by
   rw [hB]
   intro a b v hv
   rcases h.reg a b v hv with g|g|g|g
   ·exact .inl (hk v g)
   ·exact .inr (.inl g)
   ·rcases hb v g with g|g
    ·exact .inr (.inr (.inl g))
    ·exact .inl g
   ·exact .inr (.inr (.inr g)),by rw [hB];exact h.buf5⟩
theorem MI.phase (h:MI p s l ph i m) (hp:s.B.pend (i:Int)=false) (hkind:s'.B.pend (i:Int)=true→s'.B.kind=(ph':Int)) (hb:s'.box i=s.box i) (hk:∀ v,p.okv s.H.co l v→p.okv s'.H.co l' v)
 (gU:ph<3↔(ph'<3∨(ph'=3∧s'.B.pend (i:Int)=true))) (AP:3≤ph'→¬ (ph'=3∧s'.B.pend (i:Int)=true)→3≤ph) (h5:ph'=5→s'.B.pend (i:Int)=false→ph=5):MI p s' l' ph' i m:=by
 have hn:=h.idle hp
 refine ⟨h.id,h.prog,h.regs,h.lg,.inr (h.want.resolve_left (fun hh=>by rw [hp] at hh;cases hh.2)),?_,fun _=>hn,hkind,fun hf=>absurd hn hf,by rw [hn];trivial,by rw [hn];trivial,h.buf,fun h3 hx v hv=>?_,fun e1 e2=>h.buf5 (h5 e1 e2) hp⟩
 ·have hc:=h.color
  rw [hp] at hc
  by_cases e:ph<3
  ·rw [if_pos (.inl e)] at hc
   rw [if_pos (gU.1 e)];exact hc
  ·rw [if_neg (by intro hh;rcases hh with hh|hh;exact e hh;cases hh.2)] at hc
   rw [if_neg (fun hh=>e (gU.2 hh))];exact hc
 ·have h3':=AP h3 (fun hh=>hx ⟨hh.1,hh.2,hn⟩)
  rcases h.reg h3' (fun hh=>by rw [hp] at hh;cases hh.2.1) v hv with g|g|g|g
  ·exact .inl (hk v g)
  ·exact .inr (.inl g)
  ·exact .inr (.inr (.inl (by rw [hb];exact g)))
  ·exact .inr (.inr (.inr g))
theorem MInv.nobody (h:MInv p x) (hn:∀ m t,x.coll.next ≠ .wait m t) {i:Nat} (hi:i<p.mu):x.s.B.pend (i:Int)=false:=by
 cases hp:x.s.B.pend (i:Int)
 ·rfl
 ·obtain ⟨m,t,e,_⟩:=h.wt i hi hp
  exact absurd e (hn m t)
theorem MInv.lF (h:MInv p x) (hm:x.muts[i]?=some m):i<p.mu:=by rw [← h.muts];exact (List.getElem?_eq_some_iff.1 hm).1
theorem MInv.go (h:MInv p x) (hn:∀ m t,x.coll.next ≠ .wait m t) {d:CD} {st:List Nat} (hd:∀ m t,d ≠ .wait m t)
 (hl:∀ v,p.okv x.s.H.co (lookOf x.coll.next) v→p.okv x.s.H.co (lookOf d) v)
 (shp:p.shp x.coll.phase d) (src:p.jI d) (stk:∀ a∈st,p.Rch a)
 (fld:p.iK (p.okv x.s.H.co (lookOf d)) d)
 (cel:4≤x.coll.phase→∀ j:Nat,j<p.iq d→p.okv x.s.H.co (lookOf d) (p.H.cellP (j:Int)))
 (clo:∀ a,p.H.bn a=true→x.s.H.co a=p.kb→(a∈x.coll.stk∨p.ahead a x.coll.next∨∀ j:Nat,j<(p.H.aT a).1→p.okv x.s.H.co (lookOf x.coll.next) (p.H.bQ a (j:Int)))→a∈st∨p.ahead a d∨∀ j:Nat,j<(p.H.aT a).1→p.okv x.s.H.co (lookOf d) (p.H.bQ a (j:Int)))
 (bx:∀ j,j<p.jR d→x.s.box j=[]) (stk0:jJ d=true→st=[]) (mk0:d = .marked→x.s.flag=false∧x.coll.over=false) :
 MInv p { x with coll:={ x.coll with stk:=st,next:=d } } :=
 ⟨h.k2,h.mu8,h.heap,h.muts,h.cmu,h.box,h.col,h.cbl,h.cce,h.bd,fun i m hm=>(h.bV i m hm).coll rfl hl (fun _ hv => .inl hv),fun i hi hp=>(by
  have hp':x.s.B.pend (i:Int)=true:=hp
  rw [h.nobody hn hi] at hp';cases hp'),h.ph,shp,src,stk,h.bxs,h.pnt,fld,cel,h.clo.imp (fun hw=>hw) (fun hc a ha hco=>clo a ha hco (hc a ha hco)),bx,stk0,mk0,h.q⟩
theorem vT {v:Nat} {t:CD} (hv:p.good v) (ht:p.jI t):p.jI (bG v t):=by
 unfold bG
 split
 ·exact ht
 ·exact ⟨hv,ht⟩
theorem xE {v a:Nat} {t:CD}:p.ahead a (bG v t)↔p.ahead a t:=by
 unfold bG
 split<;>exact Iff.rfl
theorem vU {v:Nat} {t:CD} {ok:Nat→Prop}:p.iK ok (bG v t)↔p.iK ok t:=by
 unfold bG
 split<;>exact Iff.rfl
theorem uD {v:Nat} {t:CD}:p.iq (bG v t)=p.iq t:=by
 unfold bG
 split<;>rfl
theorem vV {v:Nat} {t:CD}:p.jR (bG v t)=p.jR t:=by
 unfold bG
 split<;>rfl
theorem zT {v:Nat} {t:CD} (h:∀ m u,t ≠ .wait m u):∀ m u,bG v t ≠ .wait m u:=by
 unfold bG
 split
 ·exact h
 ·intro m u e;cases e
theorem nK {v:Nat} {t:CD} (h:jJ t=false):jJ (bG v t)=false:=by
 unfold bG
 split
 ·exact h
 ·rfl
theorem vW (k:CPk p hf) {v:Nat} {t:CD} {co:Nat→Bool}:p.okv co (lookOf (bG v t)) v:=by
 unfold bG
 split
 ·rename_i e
  rw [e];exact CP.FM k.bn0
 ·exact fun _ => .inr rfl
theorem vX {v ph:Nat} {t:CD} (hm:mkP ph) (hl:lkT t) (hc:∀ i,t = .cell i→ph=4∧i<p.ce) (hb:∀ m,t = .box m→m<p.mu) (hs:p.shp ph t):p.shp ph (bG v t):=by
 unfold bG
 split
 ·exact hs
 ·exact ⟨hm,hl,hc,hb⟩
theorem aI {co:Nat→Bool} (hn:lookOf x.coll.next=0) (k:CPk p hf) {l v:Nat} (h:p.okv co (lookOf x.coll.next) v):p.okv co l v:=fun hb=>by
 rcases h hb with g|g
 ·exact .inl g
 ·rw [hn] at g
  rw [g,k.bn0] at hb;cases hb
theorem IB (c:CS) (i:Nat):(∀ m u,c.dF i ≠ .wait m u)∧jJ (c.dF i)=false∧p.jI (c.dF i)∧(∀ ok,p.iK ok (c.dF i))∧(∀ a,p.ahead a (c.dF i)↔False)∧p.jR (c.dF i)=0∧lookOf (c.dF i)=0∧lkT (c.dF i)∧(∀ m,c.dF i = .box m→m<p.mu)∧c.dF i ≠ .marked:=by
 unfold CS.dF
 split<;>exact ⟨(fun m u e=>by cases e),rfl,trivial,(fun _=>trivial),(fun _=>Iff.rfl),rfl,rfl,trivial,(fun m e=>by cases e),(fun e=>by cases e)⟩
theorem FV {c:CS} (hc:c.cells=p.ce) {i:Nat} (hi:i≤p.ce):p.iq (c.dF i)=i:=by
 unfold CS.dF
 rw [hc]
 split
 ·rename_i e;exact e.symm
 ·rfl
theorem FW (a i n:Nat) {t:CD} (ht:obT t):(∀ m u,bD a i n t ≠ .wait m u)∧jJ (bD a i n t)=false∧p.iq (bD a i n t)=p.ce∧p.jR (bD a i n t)=0∧lookOf (bD a i n t)=0∧lkT (bD a i n t)∧(∀ j,bD a i n t ≠ .cell j)∧(∀ j,bD a i n t ≠ .box j)∧bD a i n t ≠ .marked:=by
 unfold bD
 split
 ·cases t with
  | work=>exact ⟨(fun m u e=>by cases e),rfl,rfl,rfl,rfl,trivial,(fun m e=>by cases e),(fun m e=>by cases e),(fun e=>by cases e)⟩
  | empty t=>exact ⟨(fun m u e=>by cases e),rfl,rfl,rfl,rfl,ht,(fun m e=>by cases e),(fun m e=>by cases e),(fun e=>by cases e)⟩
  | _=>exact ht.elim
 ·exact ⟨(fun m u e=>by cases e),rfl,rfl,rfl,rfl,ht,(fun m e=>by cases e),(fun m e=>by cases e),(fun e=>by cases e)⟩
theorem IC {ph:Nat} {t:CD} (hm:mkP ph) (ht:obT t):p.shp ph t:=by
 cases t with
 | work=>exact hm
 | empty t=>exact ⟨hm,ht⟩
 | _=>exact ht.elim
end
def stepW (x:WS) (d:CD):WS:={ x with s:=(aj x.s x.coll d).s,coll:={ (aj x.s x.coll d).c with next:=(aj x.s x.coll d).next } }
section
variable {p:CP} {x y:WS} {s s':Sh} {m m':MS} {i l l' ph ph' hf:Nat} {c':CS}
theorem MInv.ask (h:MInv p x) (hn:∀ m t,x.coll.next ≠ .wait m t) {q:Nat} {t:CD} {c:CS} (hc:c.muts=x.coll.muts∧c.blocks=x.coll.blocks∧c.cells=x.coll.cells∧c.color=x.coll.color∧c.stk=x.coll.stk∧c.over=x.coll.over) (hl0:lookOf x.coll.next=0) (k:CPk p hf)
 (hq:(x.coll.phase=1∧q=2∧t = .scan)∨(x.coll.phase=2∧q=3∧t = .trace)∨(x.coll.phase=4∧q=5∧t = .work)) (AB:4≤x.coll.phase→p.iq x.coll.next=p.ce) (hah:∀ a,¬ p.ahead a x.coll.next) :
 MInv p { x with s:=x.s.ask q,coll:={ c with phase:=q,next := .wait 0 t } }:=by
 obtain ⟨e1,e2,e3,e4,e5,e6⟩:=hc
 have hnb:∀ i,i<p.mu→x.s.B.pend (i:Int)=false:=fun i hi=>h.nobody hn hi
 obtain ⟨b1,b2,b3⟩:=h.bd.ask hnb q
 have jW:∀ v,p.okv x.s.H.co (lookOf x.coll.next) v→p.okv x.s.H.co 0 v:=fun v=>aI hl0 k
 have hmu:=h.mu8
 refine ⟨h.k2,h.mu8,h.heap,h.muts,e1.trans h.cmu,h.box,e4.trans h.col,e2.trans h.cbl,e3.trans h.cce,b1,fun i m hm=>?_,fun i hi hp=>⟨0,t,rfl,Nat.zero_le _⟩,?_,?_,trivial,fun a ha=>h.stk a (by rw [← e5];exact ha),h.bxs,h.pnt,trivial,fun h4 j hj=>?_,?_,fun j hj=>absurd hj (Nat.not_lt_zero _),fun hh=>(by cases hh),fun hh=>(by cases hh),h.q⟩
 ·have hi:=h.lF hm
  have KJ:({ x with s:=x.s.ask q,coll:={ c with phase:=q,next := .wait 0 t } }:WS).s.B.pend (i:Int)=true:=(b2 i).trans (decide_eq_true hi)
  refine (h.bV i m hm).phase (hnb i hi) (fun _=>b3) rfl jW ?_ (fun h3 hx=>?_) (fun h5 hf=>?_)
  ·show _↔q<3∨(q=3∧_)
   rw [KJ]
   rcases hq with ⟨a,b,_⟩|⟨a,b,_⟩|⟨a,b,_⟩<;>rw [a,b]<;>simp
  ·rw [KJ] at hx
   have h3':3≤q:=h3
   have hx':¬ (q=3∧true=true):=hx
   rcases hq with ⟨a,b,_⟩|⟨a,b,_⟩|⟨a,b,_⟩
   ·omega
   ·exact absurd ⟨b,rfl⟩ hx'
   ·omega
  ·rw [KJ] at hf;cases hf
 ·show 1≤q∧q≤5
  omega
 ·show 0<p.mu∧((q=1∧t = .arm)∨(q=2∧t = .scan)∨(q=3∧t = .trace)∨(q=5∧t = .work))
  refine ⟨by omega,?_⟩
  rcases hq with ⟨_,b,c⟩|⟨_,b,c⟩|⟨_,b,c⟩
  ·exact .inr (.inl ⟨b,c⟩)
  ·exact .inr (.inr (.inl ⟨b,c⟩))
  ·exact .inr (.inr (.inr ⟨b,c⟩))
 ·have h4':4≤q:=h4
  have hp4:x.coll.phase=4:=by omega
  exact jW _ (h.cel (by omega) j (by rw [AB (by omega)];exact hj))
 ·refine h.clo.imp (fun hw=>?_) (fun hc a ha hco=>?_)
  ·rcases hw with hw|hw|hw
   ·exact .inl hw
   ·exact .inr (.inl (by show c.over=true;rw [e6];exact hw))
   ·exact .inr (.inr hw)
  ·rcases hc a ha hco with g|g|g
   ·exact .inl (by show a∈c.stk;rw [e5];exact g)
   ·exact absurd g (hah a)
   ·exact .inr (.inr fun j hj=>jW _ (g j hj))
theorem MInv.phase (h:MInv p x) (hn:∀ m t,x.coll.next ≠ .wait m t) {q:Nat} {d:CD} {c:CS} (hc:c.muts=x.coll.muts∧c.blocks=x.coll.blocks∧c.cells=x.coll.cells∧c.color=x.coll.color∧c.stk=x.coll.stk∧c.over=x.coll.over) (hl0:lookOf x.coll.next=0) (hd0:lookOf d=0) (k:CPk p hf) (hd:∀ m t,d ≠ .wait m t)
 (hq:(x.coll.phase=3∧q=4)∨(x.coll.phase=5∧q=4)) (AB:p.iq d=0∨(4≤x.coll.phase∧p.iq x.coll.next=p.ce∧p.iq d=p.ce)∨p.ce=0) (hcx:p.iq d≤p.ce) (hah:∀ a,¬ p.ahead a x.coll.next) (shp:p.shp q d) (hsrc:p.jI d) (hfl:p.iK (p.okv x.s.H.co 0) d) (hbx:p.jR d=0) (hla:jJ d=false) :
 MInv p { x with coll:={ c with phase:=q,next:=d } }:=by
 obtain ⟨e1,e2,e3,e4,e5,e6⟩:=hc
 have hnb:∀ i,i<p.mu→x.s.B.pend (i:Int)=false:=fun i hi=>h.nobody hn hi
 have jW:∀ v,p.okv x.s.H.co (lookOf x.coll.next) v→p.okv x.s.H.co (lookOf d) v:=fun v=>aI hl0 k
 refine ⟨h.k2,h.mu8,h.heap,h.muts,e1.trans h.cmu,h.box,e4.trans h.col,e2.trans h.cbl,e3.trans h.cce,h.bd,fun i m hm=>?_,fun i hi hp=>?_,?_,shp,hsrc,fun a ha=>h.stk a (by rw [← e5];exact ha),h.bxs,h.pnt,?_,fun h4 j hj=>?_,?_,fun j hj=>?_,fun hh=>?_,fun hh=>?_,h.q⟩
 ·have hi:=h.lF hm
  refine (h.bV i m hm).phase (hnb i hi) (fun hp=>?_) rfl jW ?_ (fun h3 hx=>?_) (fun h5 hf=>?_)
  ·rw [hnb i hi] at hp;cases hp
  ·show x.coll.phase<3↔(q<3∨(q=3∧_))
   constructor
   ·intro hh;omega
   ·intro hh;omega
  ·show 3≤x.coll.phase;omega
  ·have:q=5:=h5
   omega
 ·have hp':x.s.B.pend (i:Int)=true:=hp
  rw [hnb i hi] at hp';cases hp'
 ·show 1≤q∧q≤5
  omega
 ·show p.iK (p.okv x.s.H.co (lookOf d)) d
  rw [hd0];exact hfl
 ·have hj':j<p.iq d:=hj
  rcases AB with g|⟨g1,g2,g3⟩|g
  ·omega
  ·exact jW _ (h.cel g1 j (by omega))
  ·omega
 ·refine h.clo.imp (fun hw=>?_) (fun hc a ha hco=>?_)
  ·rcases hw with hw|hw|hw
   ·exact .inl hw
   ·exact .inr (.inl (by show c.over=true;rw [e6];exact hw))
   ·exact .inr (.inr hw)
  ·rcases hc a ha hco with g|g|g
   ·exact .inl (by show a∈c.stk;rw [e5];exact g)
   ·exact absurd g (hah a)
   ·exact .inr (.inr fun j hj=>jW _ (g j hj))
 ·have hj':j<p.jR d:=hj
  omega
 ·have hh':jJ d=true:=hh
  rw [hla] at hh';cases hh'
 ·have hh':d = .marked:=hh
  rw [hh'] at hla;cases hla
theorem KL (k:CPk p hf) (h:MInv p x) (v:Nat) (t:CD) (hd:x.coll.next = .look v t):MInv p (stepW x (.look v t)):=by
 have hn:∀ m u,x.coll.next ≠ .wait m u:=fun m u e=>by rw [hd] at e;cases e
 have hk2:=h.k2
 have shp:=h.shp;have src:=h.src;have fld:=h.fld;have cel:=h.cel;have clo:=h.clo;have bx:=h.bx
 rw [hd] at shp src fld cel clo bx
 obtain ⟨hmk,hlk,hc,hb⟩:=shp
 obtain ⟨hgv,hst⟩:=src
 obtain ⟨f,hH⟩:=h.heap
 have hco:x.s.H.co=f:=by rw [hH]
 have hl0:lookOf t=0:=by
  cases t with
  | look _ _=>exact hlk.elim
  | _=>rfl
 have hlw:∀ m u,t ≠ .wait m u:=fun m u e=>by rw [e] at hlk;exact hlk
 have hla:jJ t=false:=by
  cases t with
  | over=>exact hlk.elim
  | marked=>exact hlk.elim
  | _=>rfl
 have hts:p.shp x.coll.phase t:=by
  cases t with
  | cell j=>exact hc j rfl
  | work=>exact hmk
  | box m=>exact ⟨hmk,hb m rfl⟩
  | field _ _ _ _=>exact ⟨hmk,hlk⟩
  | empty _=>exact ⟨hmk,hlk⟩
  | _=>exact hlk.elim
 unfold stepW
 simp only [aj]
 have FT:=zS (p:=p) (f:=f) v p.κ
 have hat:=fun a=>uq (p:=p) hk2 (f:=f) v a
 have hpi:=pX (p:=p) hk2 (f:=f) v
 have gU:=h.col
 by_cases hp:x.s.H.dw v x.coll.color=true
 ·rw [if_pos hp]
  have hp2:HS.dw { p.H with co:=f } v p.κ=true:=by rw [← hH,← gU];exact hp
  have hbv:=(hpi.1 hp2).1
  have hH1:x.s.H.aY v x.coll.color=HS.aY { p.H with co:=f } v p.κ:=by rw [hH,gU]
  have hat1:∀ a,(x.s.H.aY v x.coll.color).co a=if a=v∧p.H.bn v=true then p.kb else x.s.H.co a:=fun a=>by rw [hH1,hat a,hco]
  generalize hHH:x.s.H.aY v x.coll.color=H' at *
  have hmono:∀ a,p.H.bn a=true→x.s.H.co a=p.kb→H'.co a=p.kb:=fun a ha hc=>by
   rw [hat1 a]
   split
   ·rfl
   ·exact hc
  have jW:∀ u,p.okv x.s.H.co v u→p.okv H'.co (lookOf t) u:=fun u hu hb=>by
   rcases hu hb with g|g
   ·exact .inl (hmono u hb g)
   ·refine .inl ?_
    rw [hat1 u,if_pos ⟨g,by rw [← g];exact hb⟩]
  have hok':∀ u,p.okv x.s.H.co (lookOf x.coll.next) u→p.okv H'.co (lookOf t) u:=fun u hu=>jW u (by rw [hd] at hu;exact hu)
  have hpush:∃ (st:List Nat) (ov:Bool),({ x.coll with fresh:=true }:CS).push v={ x.coll with fresh:=true,stk:=st,over:=ov }∧(∀ a∈st,a∈x.coll.stk∨a=v)∧(∀ a∈x.coll.stk,a∈st)∧(x.coll.over=true→ov=true)∧(v∈st∨ov=true):=by
   unfold CS.push
   simp only
   split
   ·exact ⟨x.coll.stk,true,rfl,fun a ha => .inl ha,fun a ha=>ha,fun _=>rfl,.inr rfl⟩
   ·refine ⟨x.coll.stk++[v],x.coll.over,rfl,fun a ha=>?_,fun a ha=>List.mem_append_left _ ha,fun ho=>ho,.inl (List.mem_append_right _ (List.mem_singleton.2 rfl))⟩
    rcases List.mem_append.1 ha with g|g
    ·exact .inl g
    ·exact .inr (List.mem_singleton.1 g)
  obtain ⟨st,ov,hpe,s1,s2,s3,s4⟩:=hpush
  rw [hpe]
  refine ⟨h.k2,h.mu8,by rw [hH1];exact FT,h.muts,h.cmu,h.box,h.col,h.cbl,h.cce,h.bd,fun i m hm=>?_,fun i hi hq=>?_,h.ph,hts,hst,fun a ha=>?_,h.bxs,fun a ha hc=>?_,CP.gZ jW _ fld,fun h4 j hj=>jW _ (cel h4 j hj),?_,bx,fun hh=>?_,fun hh=>?_,h.q⟩
  ·exact (h.bV i m hm).coll rfl hok' (fun _ hv => .inl hv)
  ·have hq':x.s.B.pend (i:Int)=true:=hq
   rw [h.nobody hn hi] at hq';cases hq'
  ·rcases s1 a ha with g|g
   ·exact h.stk a g
   ·rw [g];exact hgv hbv
  ·have hc':H'.co a=p.kb:=hc
   rw [hat1 a] at hc'
   split at hc'
   ·rename_i e;rw [e.1];exact hgv hbv
   ·exact h.pnt a ha hc'
  ·rcases clo with hw|hc
   ·refine .inl ?_
    rcases hw with hw|hw|hw
    ·exact .inl hw
    ·exact .inr (.inl (s3 hw))
    ·exact .inr (.inr hw)
   ·rcases s4 with g|g
    ·refine .inr fun a ha hca=>?_
     have Qm:H'.co a=p.kb:=hca
     rw [hat1 a] at Qm
     split at Qm
     ·rename_i e;rw [e.1];exact .inl g
     ·rcases hc a ha Qm with q|q|q
      ·exact .inl (s2 a q)
      ·exact .inr (.inl q)
      ·exact .inr (.inr fun j hj=>jW _ (q j hj))
    ·exact .inl (.inr (.inl g))
  ·have hh':jJ t=true:=hh
   rw [hla] at hh';cases hh'
  ·have hh':t = .marked:=hh
   rw [hh'] at hla;cases hla
 ·rw [if_neg hp]
  have jW:∀ u,p.okv x.s.H.co v u→p.okv x.s.H.co (lookOf t) u:=fun u hu hb=>by
   rcases hu hb with g|g
   ·exact .inl g
   ·refine .inl ?_
    rw [← g] at hp
    by_cases e:x.s.H.co u=p.kb
    ·exact e
    ·exfalso
     apply hp
     rw [hH,gU]
     exact (pX (p:=p) hk2 (f:=f) u).2 ⟨hb,by rw [← hco];exact e⟩
  refine h.go (d:=t) (st:=x.coll.stk) hn hlw (fun u hu=>jW u (by rw [hd] at hu;exact hu)) hts hst h.stk (CP.gZ jW _ fld) (fun h4 j hj=>jW _ (cel h4 j hj)) (fun a ha hc hq=>?_) bx (fun hh=>?_) (fun hh=>?_)
  ·rw [hd] at hq
   rcases hq with q|q|q
   ·exact .inl q
   ·exact .inr (.inl q)
   ·exact .inr (.inr fun j hj=>jW _ (q j hj))
  ·rw [hla] at hh;cases hh
  ·rw [hh] at hla;cases hla
end
end
end Go.Proofs.YtanfphjoebobaaaGreatDoor
