/- Parts of the walk. No conditions. -/
import Derived.Test.YtanfphjoebobaaaGreatDoorZzvz
namespace Go.Proofs.YtanfphjoebobaaaGreatDoor
set_option maxHeartbeats 1000000
section
section
variable {p:CP} {x y:WS} {s s':Sh} {m m':MS} {i l l' ph hf:Nat}
theorem Dx (k:sG p hf) (w:Nat) (hw:w=p.κ):∀ rs:List Nat,(∀ v∈rs,p.good v)->tH (jQ w rs)/\sU (jQ w rs)=3/\p.rO (jQ w rs)/\(∀ v∈rs,v=0\/v∈nN (jQ w rs))/\left (jQ w rs)<=8*rs.length+1
 | [],_=>⟨rfl,rfl,trivial,(fun _ h=>by cases h),Nat.le_refl _⟩
 | v::r,hg=>by
   obtain ⟨h1,h2,h3,h4,h5⟩:=Dx k w hw r (fun u hu=>hg u (List.mem_cons_of_mem _ hu))
   show tH (jW v w (jQ w r))/\sU (jW v w (jQ w r))=3/\p.rO (jW v w (jQ w r))/\(∀ u∈v::r,u=0\/u∈nN (jW v w (jQ w r)))/\left (jW v w (jQ w r))<=_
   unfold jW
   by_cases e:v=0
   ·rw [if_pos e]
    refine ⟨h1,h2,h3,fun u hu=>?_,by rw [List.length_cons];omega⟩
    rcases List.mem_cons.1 hu with rfl|hu
    ·exact .inl e
    ·exact h4 u hu
   ·rw [if_neg e]
    refine ⟨h1,h2,⟨hg v List.mem_cons_self,hw,h3⟩,fun u hu=>?_,by rw [List.length_cons];show 8+left _<=_;omega⟩
    rcases List.mem_cons.1 hu with rfl|hu
    ·exact .inr List.mem_cons_self
    ·rcases h4 u hu with g|g
     ·exact .inl g
     ·exact .inr (List.mem_cons_of_mem _ g)
structure PC (p:CP) (s:Sh) (m:MS) (i:Nat) (s':Sh) (m':MS):Prop where
 less:dM s' i m'+2*(s'.box i).length+(if s.B.pend (i:Int) then 1 else 0)<=dM s i m+2*(s.box i).length
 pK:p.U s'.H.co+1<=p.U s.H.co\/(p.U s'.H.co=p.U s.H.co/\(iT m'.next=true\/s'.flag=true->iT m.next=true\/s.flag=true))
theorem Bc (k:sG p hf) (h:MInv p x) (hm:x.muts[i]?=some m) (hp:x.s.B.pend (i:Int)=true):G5 m.buf (bY x.s m)/\bY x.s m ≠ .nil/\sU (bY x.s m)=(x.coll.phase:Int)/\p.rO (bY x.s m)/\(x.coll.phase=3->∀ v∈m.regs,v=0\/v∈nN (bY x.s m))/\left (bY x.s m)<=8*m.regs.length+4/\iT (bY x.s m)=false:=by
 have mi:=h.dJ i m hm
 have uz:i<p.mu:=by rw [<- h.muts];exact (List.getElem?_eq_some_iff.1 hm).1
 have lS:=h.PL uz hp
 have hk:=mi.kind hp
 have hp':x.s.B.pend (m.id:Int)=true:=by rw [mi.id];exact hp
 have hw:x.coll.phase≠1->m.want=p.κ:=fun h1=>mi.want.resolve_left (fun h=>h1 h.1)
 unfold bY
 rw [hp',if_pos rfl,hk]
 by_cases h3:x.coll.phase=3
 ·rw [h3,if_pos (by decide)]
  obtain ⟨g1,g2,g3,g4,g5⟩:=Dx k m.want (hw (by omega)) m.regs (fun v hv hb => .root (.inr ⟨i,uz,by rw [<- mi.regs];exact hv⟩) hb)
  exact ⟨xA g1,zC g1,g2,g3,fun _=>g4,by omega,zD g1⟩
 ·rw [if_neg (by omega)]
  by_cases h5:x.coll.phase=5
  ·rw [h5,if_pos (by decide)]
   unfold MS.jX
   by_cases e:m.buf=[]
   ·rw [if_pos e]
    exact ⟨fun _=>e,(fun e=>by cases e),rfl,trivial,(fun e=>by omega),by show 1<=_;omega,rfl⟩
   ·rw [if_neg e]
    exact ⟨trivial,(fun e=>by cases e),rfl,⟨hw (by omega),trivial⟩,(fun e=>by omega),by show 3+1<=_;omega,rfl⟩
  ·rw [if_neg (by omega)]
   refine ⟨fun e=>?_,(fun e=>by cases e),rfl,trivial,fun e=>absurd e h3,by show 1<=_;omega,rfl⟩
   exact absurd e (by omega)
theorem Nk (k:sG p hf) (h:MInv p x) (hm:x.muts[i]?=some m) (hn:m.next = .nil):dM x.s i m<=3*m.buf.length+(8*m.regs.length+5):=by
 unfold dM
 split
 ·rename_i hp
  have:=(Bc k h hm hp).2.2.2.2.2.1
  rw [hn,if_pos (by decide)];omega
 ·omega
theorem zF (k:sG p hf) (h:MInv p x) (hm:x.muts[i]?=some m) :
 MU p x.s m (lookOf x.coll.next) x.coll.phase i (aZ x.s m).1 (aZ x.s m).2.1/\PC p x.s m i (aZ x.s m).1 (aZ x.s m).2.1/\(aZ x.s m).2.2=none:=by
 have mi:=h.dJ i m hm
 have uz:i<p.mu:=by rw [<- h.muts];exact (List.getElem?_eq_some_iff.1 hm).1
 by_cases hn:isNil m.next=true
 ·have hnx:m.next = .nil:=by
   cases hd:m.next<;>rw [hd] at hn<;>first|rfl|cases hn
  have hpk:aZ x.s m=(x.s,{ m with spent:=1,ans:=x.s.B.pend (m.id:Int),next:=bY x.s m },none):=by
   unfold aZ
   rw [if_pos hn]
  rw [hpk]
  by_cases hp:x.s.B.pend (i:Int)=true
  ·obtain ⟨g1,g2,g3,g4,g5,g6,g7⟩:=Bc k h hm hp
   have Dw:MI p x.s (lookOf x.coll.next) x.coll.phase i { m with spent:=1,ans:=x.s.B.pend (m.id:Int),next:=bY x.s m }:=by
    refine ⟨mi.id,mi.prog,mi.regs,mi.lg,mi.want,mi.color,fun hf=>?_,mi.kind,fun _=>g3,g1,g4,mi.buf,fun h3 _ v hv=>?_,mi.buf5⟩
    ·rw [hp] at hf;cases hf
    ·by_cases e3:x.coll.phase=3
     ·rcases g5 e3 v hv with rfl|g
      ·exact .inl (CP.Na k.bn0)
      ·exact .inr (.inr (.inr g))
     ·rcases mi.reg h3 (fun hh=>e3 hh.1) v hv with g|g|g|g
      ·exact .inl g
      ·exact .inr (.inl g)
      ·exact .inr (.inr (.inl g))
      ·rw [hnx] at g;cases g
   refine ⟨MU.same h hm Dw (fun hq=>by rw [hnx] at hq;cases hq),⟨?_,.inr ⟨rfl,fun hq=>?_⟩⟩,rfl⟩
   ·unfold dM
    rw [hp,if_pos rfl,if_pos rfl,if_pos rfl,hn,if_pos rfl]
    show 3*m.buf.length+(if isNil (bY x.s m)=true then _ else left (bY x.s m))+2*(x.s.box i).length+1<=_
    rw [qL g2,if_neg (by decide)]
    omega
   ·rcases hq with hq|hq
    ·have hq':iT (bY x.s m)=true:=hq
     rw [g7] at hq';cases hq'
    ·exact .inr hq
  ·have hp0:x.s.B.pend (i:Int)=false:=by simpa using hp
   have hb:bY x.s m = .nil:=by
    unfold bY
    rw [mi.id,hp0,if_neg (by decide),List.getElem?_eq_none mi.prog]
   rw [hb]
   have Dw:MI p x.s (lookOf x.coll.next) x.coll.phase i { m with spent:=1,ans:=x.s.B.pend (m.id:Int),next := .nil }:=mi.of ⟨rfl,rfl,rfl,rfl,rfl,rfl,rfl,rfl,hnx.symm⟩
   refine ⟨MU.same h hm Dw (fun hq=>by rw [hnx] at hq;cases hq),⟨?_,.inr ⟨rfl,fun hq=>?_⟩⟩,rfl⟩
   ·unfold dM
    rw [hp0]
    exact Nat.le_refl _
   ·rcases hq with hq|hq
    ·cases hq
    ·exact .inr hq
 ·have hn':isNil m.next=false:=by simpa using hn
  have hp:x.s.B.pend (i:Int)=true:=by
   cases hb:x.s.B.pend (i:Int)
   ·exact absurd (mi.idle hb) (Nh hn')
   ·rfl
  obtain ⟨u,c,e⟩:=Xt k h hm hn' m.next rfl
  have hpk:aZ x.s m=((stepM x.s { m with spent:=m.spent+1 } m.next).s,(if isNil (stepM x.s { m with spent:=m.spent+1 } m.next).next then { (stepM x.s { m with spent:=m.spent+1 } m.next).m with next := .nil }.most else { (stepM x.s { m with spent:=m.spent+1 } m.next).m with next:=(stepM x.s { m with spent:=m.spent+1 } m.next).next }),(stepM x.s { m with spent:=m.spent+1 } m.next).ev):=by
   unfold aZ
   rw [if_neg hn]
  rw [hpk]
  generalize stepM x.s { m with spent:=m.spent+1 } m.next=r at *
  by_cases hr:isNil r.next=true
  ·have hrn:r.next = .nil:=by
    cases hd:r.next<;>rw [hd] at hr<;>first|rfl|cases hr
   rw [if_pos hr]
   rw [hrn] at u c
   have hM:∀ M:MS,(M.most).id=M.id/\(M.most).prog=M.prog/\(M.most).res=M.res/\(M.most).regs=M.regs/\(M.most).c=M.c/\(M.most).want=M.want/\(M.most).color=M.color/\(M.most).buf=M.buf/\(M.most).next=M.next:=fun M=>by
    unfold MS.most
    split<;>exact ⟨rfl,rfl,rfl,rfl,rfl,rfl,rfl,rfl,rfl⟩
   have hM1:=hM { r.m with next := .nil }
   have hMb:∀ M:MS,bY r.s M.most=bY r.s M:=fun M=>by
    unfold MS.most
    split<;>rfl
   have acn:=hMb { r.m with next := .nil }
   have Dw:=u.mi.of hM1
   generalize MS.most { r.m with next := .nil }=M at *
   obtain ⟨_,_,_,_,_,_,_,e8,e9⟩:=hM1
   refine ⟨⟨u.heap,u.mono,u.pK,u.len,u.Dv,u.bx,u.bxw,u.bd,u.kind,u.pend,u.Si,u.q,Dw,u.flag,u.flag2,fun hq=>?_,fun a ha hc=>?_⟩,⟨?_,?_⟩,e⟩
   ·rw [e9];exact u.pr hq
   ·rw [e9];exact u.new a ha hc
   ·have hc:=c.less
    rw [hp,if_pos rfl]
    have ht:dM r.s i M=dM r.s i { r.m with next := .nil }:=by
     unfold dM
     rw [e8,e9,acn]
    rw [ht];exact hc
   ·rw [e9];exact c.pK
  ·rw [if_neg hr]
   exact ⟨u,⟨by have hc:=c.less;rw [hp,if_pos rfl];exact hc,c.pK⟩,e⟩
end
section
variable {p:CP} {x y:WS} {s s':Sh} {m m':MS} {i l l' ph kT hf:Nat} {c':CS}
theorem MI.coll (h:MI p s l ph i m) (hB:s'.B=s.B) (hk:∀ v,p.iq s.H.co l v->p.iq s'.H.co l' v) (hb:∀ v∈s.box i,v∈s'.box i\/p.iq s'.H.co l' v):MI p s' l' ph i m :=
 ⟨h.id,h.prog,h.regs,h.lg,by rw [hB];exact h.want,by rw [hB];exact h.color,by rw [hB];exact h.idle,by rw [hB];exact h.kind,h.MZ,h.dD,h.gd,h.buf,
  by
   rw [hB]
   intro a b v hv
   rcases h.reg a b v hv with g|g|g|g
   ·exact .inl (hk v g)
   ·exact .inr (.inl g)
   ·rcases hb v g with g|g
    ·exact .inr (.inr (.inl g))
    ·exact .inl g
   ·exact .inr (.inr (.inr g)),by rw [hB];exact h.buf5⟩
theorem MI.phase (h:MI p s l ph i m) (hp:s.B.pend (i:Int)=false) (hkind:s'.B.pend (i:Int)=true->s'.B.kind=(kT:Int)) (hb:s'.box i=s.box i) (hk:∀ v,p.iq s.H.co l v->p.iq s'.H.co l' v)
 (jI:ph<3↔(kT<3\/(kT=3/\s'.B.pend (i:Int)=true))) (G6:3<=kT->¬ (kT=3/\s'.B.pend (i:Int)=true)->3<=ph) (h5:kT=5->s'.B.pend (i:Int)=false->ph=5):MI p s' l' kT i m:=by
 have hn:=h.idle hp
 refine ⟨h.id,h.prog,h.regs,h.lg,.inr (h.want.resolve_left (fun hh=>by rw [hp] at hh;cases hh.2)),?_,fun _=>hn,hkind,fun hf=>absurd hn hf,by rw [hn];trivial,by rw [hn];trivial,h.buf,fun h3 hx v hv=>?_,fun e1 e2=>h.buf5 (h5 e1 e2) hp⟩
 ·have hc:=h.color
  rw [hp] at hc
  by_cases e:ph<3
  ·rw [if_pos (.inl e)] at hc
   rw [if_pos (jI.1 e)];exact hc
  ·rw [if_neg (by intro hh;rcases hh with hh|hh;exact e hh;cases hh.2)] at hc
   rw [if_neg (fun hh=>e (jI.2 hh))];exact hc
 ·have h3':=G6 h3 (fun hh=>hx ⟨hh.1,hh.2,hn⟩)
  rcases h.reg h3' (fun hh=>by rw [hp] at hh;cases hh.2.1) v hv with g|g|g|g
  ·exact .inl (hk v g)
  ·exact .inr (.inl g)
  ·exact .inr (.inr (.inl (by rw [hb];exact g)))
  ·exact .inr (.inr (.inr g))
theorem MInv.nobody (h:MInv p x) (hn:∀ m t,x.coll.next ≠ .wait m t) {i:Nat} (hi:i<p.mu):x.s.B.pend (i:Int)=false:=by
 cases hp:x.s.B.pend (i:Int)
 ·rfl
 ·obtain ⟨m,t,e,_⟩:=h.wt i hi hp
  exact absurd e (hn m t)
theorem MInv.pz (h:MInv p x) (hm:x.muts[i]?=some m):i<p.mu:=by rw [<- h.muts];exact (List.getElem?_eq_some_iff.1 hm).1
theorem MInv.go (h:MInv p x) (hn:∀ m t,x.coll.next ≠ .wait m t) {d:CD} {st:List Nat} (hd:∀ m t,d ≠ .wait m t)
 (hl:∀ v,p.iq x.s.H.co (lookOf x.coll.next) v->p.iq x.s.H.co (lookOf d) v)
 (dD:p.dD x.coll.phase d) (src:p.lV d) (stk:∀ a∈st,p.jL a)
 (jM:p.jS (p.iq x.s.H.co (lookOf d)) d)
 (iV:4<=x.coll.phase->∀ j:Nat,j<p.jA d->p.iq x.s.H.co (lookOf d) (p.H.cellP (j:Int)))
 (clo:∀ a,p.H.bn a=true->x.s.H.co a=p.kb->(a∈x.coll.stk\/p.ahead a x.coll.next\/∀ j:Nat,j<(p.H.bg a).1->p.iq x.s.H.co (lookOf x.coll.next) (p.H.dF a (j:Int)))->a∈st\/p.ahead a d\/∀ j:Nat,j<(p.H.bg a).1->p.iq x.s.H.co (lookOf d) (p.H.dF a (j:Int)))
 (bx:∀ j,j<p.mO d->x.s.box j=[]) (stk0:lW d=true->st=[]) (mk0:d = .marked->x.s.flag=false/\x.coll.over=false) :
 MInv p { x with coll:={ x.coll with stk:=st,next:=d } } :=
 ⟨h.k2,h.mu8,h.heap,h.muts,h.cmu,h.box,h.col,h.lY,h.nO,h.bd,fun i m hm=>(h.dJ i m hm).coll rfl hl (fun _ hv => .inl hv),fun i hi hp=>(by
  have hp':x.s.B.pend (i:Int)=true:=hp
  rw [h.nobody hn hi] at hp';cases hp'),h.ph,dD,src,stk,h.ng,h.pK,jM,iV,h.clo.imp (fun hw=>hw) (fun hc a ha hco=>clo a ha hco (hc a ha hco)),bx,stk0,mk0,h.q⟩
theorem Bg {v:Nat} {t:CD} (hv:p.good v) (ht:p.lV t):p.lV (dh v t):=by
 unfold dh
 split
 ·exact ht
 ·exact ⟨hv,ht⟩
theorem Dy {v a:Nat} {t:CD}:p.ahead a (dh v t)↔p.ahead a t:=by
 unfold dh
 split<;>exact Iff.rfl
theorem Bh {v:Nat} {t:CD} {ok:Nat->Prop}:p.jS ok (dh v t)↔p.jS ok t:=by
 unfold dh
 split<;>exact Iff.rfl
theorem zG {v:Nat} {t:CD}:p.jA (dh v t)=p.jA t:=by
 unfold dh
 split<;>rfl
theorem Bj {v:Nat} {t:CD}:p.mO (dh v t)=p.mO t:=by
 unfold dh
 split<;>rfl
theorem F6 {v:Nat} {t:CD} (h:∀ m u,t ≠ .wait m u):∀ m u,dh v t ≠ .wait m u:=by
 unfold dh
 split
 ·exact h
 ·intro m u e;cases e
theorem rQ {v:Nat} {t:CD} (h:lW t=false):lW (dh v t)=false:=by
 unfold dh
 split
 ·exact h
 ·rfl
theorem Bl (k:sG p hf) {v:Nat} {t:CD} {co:Nat->Bool}:p.iq co (lookOf (dh v t)) v:=by
 unfold dh
 split
 ·rename_i e
  rw [e];exact CP.Na k.bn0
 ·exact fun _ => .inr rfl
theorem Bo {v ph:Nat} {t:CD} (hm:tY ph) (hl:Yi t) (hc:∀ i,t = .cell i->ph=4/\i<p.ce) (hb:∀ m,t = .box m->m<p.mu) (hs:p.dD ph t):p.dD ph (dh v t):=by
 unfold dh
 split
 ·exact hs
 ·exact ⟨hm,hl,hc,hb⟩
theorem aT {co:Nat->Bool} (hn:lookOf x.coll.next=0) (k:sG p hf) {l v:Nat} (h:p.iq co (lookOf x.coll.next) v):p.iq co l v:=fun hb=>by
 rcases h hb with g|g
 ·exact .inl g
 ·rw [hn] at g
  rw [g,k.bn0] at hb;cases hb
theorem PS (c:CS) (i:Nat):(∀ m u,c.dW i ≠ .wait m u)/\lW (c.dW i)=false/\p.lV (c.dW i)/\(∀ ok,p.jS ok (c.dW i))/\(∀ a,p.ahead a (c.dW i)↔False)/\p.mO (c.dW i)=0/\lookOf (c.dW i)=0/\Yi (c.dW i)/\(∀ m,c.dW i = .box m->m<p.mu)/\c.dW i ≠ .marked:=by
 unfold CS.dW
 split<;>exact ⟨(fun m u e=>by cases e),rfl,trivial,(fun _=>trivial),(fun _=>Iff.rfl),rfl,rfl,trivial,(fun m e=>by cases e),(fun e=>by cases e)⟩
theorem Nl {c:CS} (hc:c.cells=p.ce) {i:Nat} (hi:i<=p.ce):p.jA (c.dW i)=i:=by
 unfold CS.dW
 rw [hc]
 split
 ·rename_i e;exact e.symm
 ·rfl
theorem Np (a i n:Nat) {t:CD} (ht:PI t):(∀ m u,bZ a i n t ≠ .wait m u)/\lW (bZ a i n t)=false/\p.jA (bZ a i n t)=p.ce/\p.mO (bZ a i n t)=0/\lookOf (bZ a i n t)=0/\Yi (bZ a i n t)/\(∀ j,bZ a i n t ≠ .cell j)/\(∀ j,bZ a i n t ≠ .box j)/\bZ a i n t ≠ .marked:=by
 unfold bZ
 split
 ·cases t with
  | work=>exact ⟨(fun m u e=>by cases e),rfl,rfl,rfl,rfl,trivial,(fun m e=>by cases e),(fun m e=>by cases e),(fun e=>by cases e)⟩
  | empty t=>exact ⟨(fun m u e=>by cases e),rfl,rfl,rfl,rfl,ht,(fun m e=>by cases e),(fun m e=>by cases e),(fun e=>by cases e)⟩
  | _=>exact ht.elim
 ·exact ⟨(fun m u e=>by cases e),rfl,rfl,rfl,rfl,ht,(fun m e=>by cases e),(fun m e=>by cases e),(fun e=>by cases e)⟩
theorem PU {ph:Nat} {t:CD} (hm:tY ph) (ht:PI t):p.dD ph t:=by
 cases t with
 | work=>exact hm
 | empty t=>exact ⟨hm,ht⟩
 | _=>exact ht.elim
end
def stepW (x:WS) (d:CD):WS:={ x with s:=(aC x.s x.coll d).s,coll:={ (aC x.s x.coll d).c with next:=(aC x.s x.coll d).next } }
section
variable {p:CP} {x y:WS} {s s':Sh} {m m':MS} {i l l' ph kT hf:Nat} {c':CS}
theorem MInv.ask (h:MInv p x) (hn:∀ m t,x.coll.next ≠ .wait m t) {q:Nat} {t:CD} {c:CS} (hc:c.muts=x.coll.muts/\c.blocks=x.coll.blocks/\c.cells=x.coll.cells/\c.color=x.coll.color/\c.stk=x.coll.stk/\c.over=x.coll.over) (hl0:lookOf x.coll.next=0) (k:sG p hf)
 (hq:(x.coll.phase=1/\q=2/\t = .scan)\/(x.coll.phase=2/\q=3/\t = .trace)\/(x.coll.phase=4/\q=5/\t = .work)) (GY:4<=x.coll.phase->p.jA x.coll.next=p.ce) (hah:∀ a,¬ p.ahead a x.coll.next) :
 MInv p { x with s:=x.s.ask q,coll:={ c with phase:=q,next := .wait 0 t } }:=by
 obtain ⟨e1,e2,e3,e4,e5,e6⟩:=hc
 have hnb:∀ i,i<p.mu->x.s.B.pend (i:Int)=false:=fun i hi=>h.nobody hn hi
 obtain ⟨b1,b2,b3⟩:=h.bd.ask hnb q
 have mY:∀ v,p.iq x.s.H.co (lookOf x.coll.next) v->p.iq x.s.H.co 0 v:=fun v=>aT hl0 k
 have hmu:=h.mu8
 refine ⟨h.k2,h.mu8,h.heap,h.muts,e1.trans h.cmu,h.box,e4.trans h.col,e2.trans h.lY,e3.trans h.nO,b1,fun i m hm=>?_,fun i hi hp=>⟨0,t,rfl,Nat.zero_le _⟩,?_,?_,trivial,fun a ha=>h.stk a (by rw [<- e5];exact ha),h.ng,h.pK,trivial,fun h4 j hj=>?_,?_,fun j hj=>absurd hj (Nat.not_lt_zero _),fun hh=>(by cases hh),fun hh=>(by cases hh),h.q⟩
 ·have hi:=h.pz hm
  have Sl:({ x with s:=x.s.ask q,coll:={ c with phase:=q,next := .wait 0 t } }:WS).s.B.pend (i:Int)=true:=(b2 i).trans (decide_eq_true hi)
  refine (h.dJ i m hm).phase (hnb i hi) (fun _=>b3) rfl mY ?_ (fun h3 hx=>?_) (fun h5 hf=>?_)
  ·show _↔q<3\/(q=3/\_)
   rw [Sl]
   rcases hq with ⟨a,b,_⟩|⟨a,b,_⟩|⟨a,b,_⟩<;>rw [a,b]<;>simp
  ·rw [Sl] at hx
   have h3':3<=q:=h3
   have hx':¬ (q=3/\true=true):=hx
   rcases hq with ⟨a,b,_⟩|⟨a,b,_⟩|⟨a,b,_⟩
   ·omega
   ·exact absurd ⟨b,rfl⟩ hx'
   ·omega
  ·rw [Sl] at hf;cases hf
 ·show 1<=q/\q<=5
  omega
 ·show 0<p.mu/\((q=1/\t = .arm)\/(q=2/\t = .scan)\/(q=3/\t = .trace)\/(q=5/\t = .work))
  refine ⟨by omega,?_⟩
  rcases hq with ⟨_,b,c⟩|⟨_,b,c⟩|⟨_,b,c⟩
  ·exact .inr (.inl ⟨b,c⟩)
  ·exact .inr (.inr (.inl ⟨b,c⟩))
  ·exact .inr (.inr (.inr ⟨b,c⟩))
 ·have h4':4<=q:=h4
  have hp4:x.coll.phase=4:=by omega
  exact mY _ (h.iV (by omega) j (by rw [GY (by omega)];exact hj))
 ·refine h.clo.imp (fun hw=>?_) (fun hc a ha hco=>?_)
  ·rcases hw with hw|hw|hw
   ·exact .inl hw
   ·exact .inr (.inl (by show c.over=true;rw [e6];exact hw))
   ·exact .inr (.inr hw)
  ·rcases hc a ha hco with g|g|g
   ·exact .inl (by show a∈c.stk;rw [e5];exact g)
   ·exact absurd g (hah a)
   ·exact .inr (.inr fun j hj=>mY _ (g j hj))
theorem MInv.phase (h:MInv p x) (hn:∀ m t,x.coll.next ≠ .wait m t) {q:Nat} {d:CD} {c:CS} (hc:c.muts=x.coll.muts/\c.blocks=x.coll.blocks/\c.cells=x.coll.cells/\c.color=x.coll.color/\c.stk=x.coll.stk/\c.over=x.coll.over) (hl0:lookOf x.coll.next=0) (hd0:lookOf d=0) (k:sG p hf) (hd:∀ m t,d ≠ .wait m t)
 (hq:(x.coll.phase=3/\q=4)\/(x.coll.phase=5/\q=4)) (GY:p.jA d=0\/(4<=x.coll.phase/\p.jA x.coll.next=p.ce/\p.jA d=p.ce)\/p.ce=0) (hcx:p.jA d<=p.ce) (hah:∀ a,¬ p.ahead a x.coll.next) (dD:p.dD q d) (hsrc:p.lV d) (hfl:p.jS (p.iq x.s.H.co 0) d) (hbx:p.mO d=0) (hla:lW d=false) :
 MInv p { x with coll:={ c with phase:=q,next:=d } }:=by
 obtain ⟨e1,e2,e3,e4,e5,e6⟩:=hc
 have hnb:∀ i,i<p.mu->x.s.B.pend (i:Int)=false:=fun i hi=>h.nobody hn hi
 have mY:∀ v,p.iq x.s.H.co (lookOf x.coll.next) v->p.iq x.s.H.co (lookOf d) v:=fun v=>aT hl0 k
 refine ⟨h.k2,h.mu8,h.heap,h.muts,e1.trans h.cmu,h.box,e4.trans h.col,e2.trans h.lY,e3.trans h.nO,h.bd,fun i m hm=>?_,fun i hi hp=>?_,?_,dD,hsrc,fun a ha=>h.stk a (by rw [<- e5];exact ha),h.ng,h.pK,?_,fun h4 j hj=>?_,?_,fun j hj=>?_,fun hh=>?_,fun hh=>?_,h.q⟩
 ·have hi:=h.pz hm
  refine (h.dJ i m hm).phase (hnb i hi) (fun hp=>?_) rfl mY ?_ (fun h3 hx=>?_) (fun h5 hf=>?_)
  ·rw [hnb i hi] at hp;cases hp
  ·show x.coll.phase<3↔(q<3\/(q=3/\_))
   constructor
   ·intro hh;omega
   ·intro hh;omega
  ·show 3<=x.coll.phase;omega
  ·have:q=5:=h5
   omega
 ·have hp':x.s.B.pend (i:Int)=true:=hp
  rw [hnb i hi] at hp';cases hp'
 ·show 1<=q/\q<=5
  omega
 ·show p.jS (p.iq x.s.H.co (lookOf d)) d
  rw [hd0];exact hfl
 ·have hj':j<p.jA d:=hj
  rcases GY with g|⟨g1,g2,g3⟩|g
  ·omega
  ·exact mY _ (h.iV g1 j (by omega))
  ·omega
 ·refine h.clo.imp (fun hw=>?_) (fun hc a ha hco=>?_)
  ·rcases hw with hw|hw|hw
   ·exact .inl hw
   ·exact .inr (.inl (by show c.over=true;rw [e6];exact hw))
   ·exact .inr (.inr hw)
  ·rcases hc a ha hco with g|g|g
   ·exact .inl (by show a∈c.stk;rw [e5];exact g)
   ·exact absurd g (hah a)
   ·exact .inr (.inr fun j hj=>mY _ (g j hj))
 ·have hj':j<p.mO d:=hj
  omega
 ·have hh':lW d=true:=hh
  rw [hla] at hh';cases hh'
 ·have hh':d = .marked:=hh
  rw [hh'] at hla;cases hla
theorem Sm (k:sG p hf) (h:MInv p x) (v:Nat) (t:CD) (hd:x.coll.next = .look v t):MInv p (stepW x (.look v t)):=by
 have hn:∀ m u,x.coll.next ≠ .wait m u:=fun m u e=>by rw [hd] at e;cases e
 have hk2:=h.k2
 have dD:=h.dD;have src:=h.src;have jM:=h.jM;have iV:=h.iV;have clo:=h.clo;have bx:=h.bx
 rw [hd] at dD src jM iV clo bx
 obtain ⟨hmk,hlk,hc,hb⟩:=dD
 obtain ⟨hgv,hst⟩:=src
 obtain ⟨f,hH⟩:=h.heap
 have hco:x.s.H.co=f:=by rw [hH]
 have hl0:lookOf t=0:=by
  cases t with
  | look _ _=>exact hlk.elim
  | _=>rfl
 have hlw:∀ m u,t ≠ .wait m u:=fun m u e=>by rw [e] at hlk;exact hlk
 have hla:lW t=false:=by
  cases t with
  | over=>exact hlk.elim
  | marked=>exact hlk.elim
  | _=>rfl
 have hts:p.dD x.coll.phase t:=by
  cases t with
  | cell j=>exact hc j rfl
  | work=>exact hmk
  | box m=>exact ⟨hmk,hb m rfl⟩
  | field _ _ _ _=>exact ⟨hmk,hlk⟩
  | empty _=>exact ⟨hmk,hlk⟩
  | _=>exact hlk.elim
 unfold stepW
 simp only [aC]
 have Nj:=FZ (p:=p) (f:=f) v p.κ
 have hat:=fun a=>zA (p:=p) hk2 (f:=f) v a
 have hpi:=vI (p:=p) hk2 (f:=f) v
 have jI:=h.col
 by_cases hp:x.s.H.dR v x.coll.color=true
 ·rw [if_pos hp]
  have hp2:HS.dR { p.H with co:=f } v p.κ=true:=by rw [<- hH,<- jI];exact hp
  have hbv:=(hpi.1 hp2).1
  have hH1:x.s.H.bQ v x.coll.color=HS.bQ { p.H with co:=f } v p.κ:=by rw [hH,jI]
  have hat1:∀ a,(x.s.H.bQ v x.coll.color).co a=if a=v/\p.H.bn v=true then p.kb else x.s.H.co a:=fun a=>by rw [hH1,hat a,hco]
  generalize hHH:x.s.H.bQ v x.coll.color=H' at *
  have hmono:∀ a,p.H.bn a=true->x.s.H.co a=p.kb->H'.co a=p.kb:=fun a ha hc=>by
   rw [hat1 a]
   split
   ·rfl
   ·exact hc
  have mY:∀ u,p.iq x.s.H.co v u->p.iq H'.co (lookOf t) u:=fun u hu hb=>by
   rcases hu hb with g|g
   ·exact .inl (hmono u hb g)
   ·refine .inl ?_
    rw [hat1 u,if_pos ⟨g,by rw [<- g];exact hb⟩]
  have hok':∀ u,p.iq x.s.H.co (lookOf x.coll.next) u->p.iq H'.co (lookOf t) u:=fun u hu=>mY u (by rw [hd] at hu;exact hu)
  have hpush:∃ (st:List Nat) (ov:Bool),({ x.coll with fresh:=true }:CS).push v={ x.coll with fresh:=true,stk:=st,over:=ov }/\(∀ a∈st,a∈x.coll.stk\/a=v)/\(∀ a∈x.coll.stk,a∈st)/\(x.coll.over=true->ov=true)/\(v∈st\/ov=true):=by
   unfold CS.push
   simp only
   split
   ·exact ⟨x.coll.stk,true,rfl,fun a ha => .inl ha,fun a ha=>ha,fun _=>rfl,.inr rfl⟩
   ·refine ⟨x.coll.stk++[v],x.coll.over,rfl,fun a ha=>?_,fun a ha=>List.mem_append_left _ ha,fun ho=>ho,.inl (List.mem_append_right _ (List.mem_singleton.2 rfl))⟩
    rcases List.mem_append.1 ha with g|g
    ·exact .inl g
    ·exact .inr (List.mem_singleton.1 g)
  obtain ⟨st,ov,hpe,s1,s2,s3,s4⟩:=hpush
  rw [hpe]
  refine ⟨h.k2,h.mu8,by rw [hH1];exact Nj,h.muts,h.cmu,h.box,h.col,h.lY,h.nO,h.bd,fun i m hm=>?_,fun i hi hq=>?_,h.ph,hts,hst,fun a ha=>?_,h.ng,fun a ha hc=>?_,CP.jv mY _ jM,fun h4 j hj=>mY _ (iV h4 j hj),?_,bx,fun hh=>?_,fun hh=>?_,h.q⟩
  ·exact (h.dJ i m hm).coll rfl hok' (fun _ hv => .inl hv)
  ·have hq':x.s.B.pend (i:Int)=true:=hq
   rw [h.nobody hn hi] at hq';cases hq'
  ·rcases s1 a ha with g|g
   ·exact h.stk a g
   ·rw [g];exact hgv hbv
  ·have hc':H'.co a=p.kb:=hc
   rw [hat1 a] at hc'
   split at hc'
   ·rename_i e;rw [e.1];exact hgv hbv
   ·exact h.pK a ha hc'
  ·rcases clo with hw|hc
   ·refine .inl ?_
    rcases hw with hw|hw|hw
    ·exact .inl hw
    ·exact .inr (.inl (s3 hw))
    ·exact .inr (.inr hw)
   ·rcases s4 with g|g
    ·refine .inr fun a ha hca=>?_
     have Xu:H'.co a=p.kb:=hca
     rw [hat1 a] at Xu
     split at Xu
     ·rename_i e;rw [e.1];exact .inl g
     ·rcases hc a ha Xu with q|q|q
      ·exact .inl (s2 a q)
      ·exact .inr (.inl q)
      ·exact .inr (.inr fun j hj=>mY _ (q j hj))
    ·exact .inl (.inr (.inl g))
  ·have hh':lW t=true:=hh
   rw [hla] at hh';cases hh'
  ·have hh':t = .marked:=hh
   rw [hh'] at hla;cases hla
 ·rw [if_neg hp]
  have mY:∀ u,p.iq x.s.H.co v u->p.iq x.s.H.co (lookOf t) u:=fun u hu hb=>by
   rcases hu hb with g|g
   ·exact .inl g
   ·refine .inl ?_
    rw [<- g] at hp
    by_cases e:x.s.H.co u=p.kb
    ·exact e
    ·exfalso
     apply hp
     rw [hH,jI]
     exact (vI (p:=p) hk2 (f:=f) u).2 ⟨hb,by rw [<- hco];exact e⟩
  refine h.go (d:=t) (st:=x.coll.stk) hn hlw (fun u hu=>mY u (by rw [hd] at hu;exact hu)) hts hst h.stk (CP.jv mY _ jM) (fun h4 j hj=>mY _ (iV h4 j hj)) (fun a ha hc hq=>?_) bx (fun hh=>?_) (fun hh=>?_)
  ·rw [hd] at hq
   rcases hq with q|q|q
   ·exact .inl q
   ·exact .inr (.inl q)
   ·exact .inr (.inr fun j hj=>mY _ (q j hj))
  ·rw [hla] at hh;cases hh
  ·rw [hh] at hla;cases hla
end
section
variable {p:CP} {x y:WS} {s s':Sh} {m m':MS} {i l l' ph kT hf:Nat} {c':CS}
theorem Bq {l:List Nat} {b:Nat} (h:b∈l.dropLast):b∈l:=(List.dropLast_sublist l).subset h
theorem vP {mu:Nat} {b:Bd} (h:BI mu b) {i:Nat} (hi:i<mu):b.did i = !b.pend (i:Int):=by
 unfold Bd.did Bd.pend
 have:b.is (i:Int)=true:=by
  unfold Bd.is
  rw [h.muts,decide_eq_true (by omega),decide_eq_true (by omega)];rfl
 rw [this,Bool.true_and,Bool.true_and]
theorem PV (c:CS) (hc:c.blocks=p.bl) (b:Nat) (hb:b<=p.bl):(∀ m u,c.eu b ≠ .wait m u)/\lW (c.eu b)=false/\p.lV (c.eu b)/\(∀ ok,p.jS ok (c.eu b))/\(∀ a,p.ahead a (c.eu b)↔∃ B,b<=B/\B<p.bl/\a∈p.H.slots B)/\p.mO (c.eu b)=0/\p.jA (c.eu b)=p.ce/\lookOf (c.eu b)=0/\A8 (c.eu b)/\(∀ ph,tY ph->p.dD ph (c.eu b))/\c.eu b ≠ .marked:=by
 unfold CS.eu
 rw [hc]
 split
 ·rename_i e
  refine ⟨(fun m u e=>by cases e),rfl,trivial,(fun _=>trivial),(fun a=>⟨False.elim,fun ⟨B,h1,h2,_⟩=>?_⟩),rfl,rfl,rfl,trivial,(fun _ h=>h),(fun e=>by cases e)⟩
  omega
 ·exact ⟨(fun m u e=>by cases e),rfl,trivial,(fun _=>trivial),(fun a=>Iff.rfl),rfl,rfl,rfl,trivial,(fun _ h=>⟨h,by omega⟩),(fun e=>by cases e)⟩
theorem Sr {t:CD} (h:A8 t):(∀ m u,t ≠ .wait m u)/\lW t=false/\p.mO t=0/\p.jA t=p.ce/\lookOf t=0/\t ≠ .marked:=by
 cases t with
 | work=>exact ⟨(fun m u e=>by cases e),rfl,rfl,rfl,rfl,(fun e=>by cases e)⟩
 | walk b=>exact ⟨(fun m u e=>by cases e),rfl,rfl,rfl,rfl,(fun e=>by cases e)⟩
 | slots l t=>exact ⟨(fun m u e=>by cases e),rfl,rfl,rfl,rfl,(fun e=>by cases e)⟩
 | _=>exact h.elim
theorem Nq {l:List Nat} {t:CD} (h:A8 t):A8 (dK l t)/\(p.lV t->p.lV (dK l t))/\(∀ ok,p.jS ok t->p.jS ok (dK l t))/\(∀ a,p.ahead a (dK l t)↔a∈l\/p.ahead a t):=by
 unfold dK
 split
 ·rename_i e
  rw [e]
  exact ⟨h,fun h=>h,fun _ h=>h,fun a=>⟨.inr,fun h=>h.resolve_left (fun hh=>by cases hh)⟩⟩
 ·exact ⟨h,fun h=>h,fun _ h=>h,fun a=>Iff.rfl⟩
def CP.qU (p:CP):CD->Prop
 | .walk b=>b<p.bl
 | .slots l t=>l≠[]/\CP.qU p t
 | .empty t=>CP.qU p t
 | .object _ t=>CP.qU p t
 | .field _ _ _ t=>CP.qU p t
 | .look _ t=>CP.qU p t
 | _=>True
theorem Nr {ph:Nat} {t:CD} (hm:tY ph) (ht:A8 t) (hs:p.qU t):p.dD ph t:=by
 cases t with
 | work=>exact hm
 | walk b=>exact ⟨hm,hs⟩
 | slots l t=>exact ⟨hm,hs.1,ht⟩
 | _=>exact ht.elim
theorem Ns {l:List Nat} {t:CD} (h:p.qU t):p.qU (dK l t):=by
 unfold dK
 split
 ·exact h
 ·rename_i e;exact ⟨e,h⟩
theorem PW (c:CS) (hc:c.blocks=p.bl) (b:Nat) (hb:b<=p.bl):p.qU (c.eu b):=by
 unfold CS.eu
 rw [hc]
 split
 ·trivial
 ·show b<p.bl;omega
theorem Nu {a i n:Nat} {t:CD} (h:p.qU t):p.qU (bZ a i n t):=by
 unfold bZ
 split<;>exact h
theorem G7 {v:Nat} {t:CD} (h:p.qU t):p.qU (dh v t):=by
 unfold dh
 split<;>exact h
theorem vJ {l:List Nat} {a:Nat} (h:l.getLast?=some a):l=l.dropLast++[a]:=by
 rcases List.eq_nil_or_concat l with e|⟨l',b,e⟩
 ·rw [e] at h;cases h
 ·rw [e] at h ⊢
  simp at h
  rw [h];simp
theorem aaz (h:MInv p x) {a:Nat} (hb:x.s.H.bn a=true) (hc:x.s.H.eP a=p.κ):p.jL a:=by
 obtain ⟨f,hH⟩:=h.heap
 have hco:x.s.H.co=f:=by rw [hH]
 refine h.pK a (by rw [hH] at hb;exact hb) ?_
 rw [hco]
 rw [hH] at hc
 exact (zB h.k2 a).1 (by rw [hc];simp)
theorem vK (k:sG p hf) (h:MInv p x) (hw:p.qU x.coll.next) (d:CD) (hd:x.coll.next=d) (hne:d ≠ .marked):MInv p (stepW x d)/\p.qU (stepW x d).coll.next/\(aC x.s x.coll d).ev=none:=by
 have hk2:=h.k2
 have hmu:=h.mu8
 have dD:=h.dD;have src:=h.src;have jM:=h.jM;have iV:=h.iV;have clo:=h.clo;have bx:=h.bx
 rw [hd] at dD src jM iV clo bx hw
 obtain ⟨f,hH⟩:=h.heap
 have hco:x.s.H.co=f:=by rw [hH]
 have hfp:∀ a,x.s.H.bg a=p.H.bg a:=fun a=>by rw [hH];rfl
 have hld:∀ a j,x.s.H.dF a j=p.H.dF a j:=fun a j=>by rw [hH];rfl
 have hcp:∀ j,x.s.H.cellP j=p.H.cellP j:=fun j=>by rw [hH];rfl
 have hsl:∀ b,x.s.H.slots b=p.H.slots b:=fun b=>by rw [hH];rfl
 have hbn:x.s.H.bn=p.H.bn:=by rw [hH]
 have nw:∀ {d':CD},(∀ m u,d ≠ .wait m u)->∀ m u,x.coll.next ≠ .wait m u:=fun hx m u=>by rw [hd];exact hx m u
 cases d with
 | look v t=>exact ⟨Sm k h v t hd,(by unfold stepW;simp only [aC];split<;>exact hw),(by simp only [aC];split<;>rfl)⟩
 | wait mm t =>
   obtain ⟨hm,ht⟩:=dD
   have hlt:lookOf t=0/\p.lV t/\(∀ ok,p.jS ok t)/\p.mO t=0/\p.jA t=p.ce/\lW t=false/\(∀ a,¬ p.ahead a t)/\p.qU t/\(∀ m u,t ≠ .wait m u):=by
    rcases ht with ⟨_,e⟩|⟨_,e⟩|⟨_,e⟩|⟨_,e⟩<;>rw [e]<;>exact ⟨rfl,trivial,(fun _=>trivial),rfl,rfl,rfl,(fun _ h=>h),trivial,(fun m u e=>by cases e)⟩
   obtain ⟨t1,t2,t3,t4,t5,t6,t7,t8,t9⟩:=hlt
   have sV:=vP h.bd hm
   unfold stepW
   simp only [aC]
   have hl0:lookOf x.coll.next=0:=by rw [hd];rfl
   have key:∀ d':CD,(∀ i,i<p.mu->x.s.B.pend (i:Int)=true->∃ m t,d' = .wait m t/\m<=i)->p.dD x.coll.phase d'->lookOf d'=0->p.lV d'->(∀ ok,p.jS ok d')->p.mO d'=0->p.jA d'=p.ce->lW d'=false->(∀ a,¬ p.ahead a d')->MInv p { x with coll:={ x.coll with next:=d' } }:=fun d' g1 g2 g3 g4 g5 g6 g7 g8 g9=>by
    refine ⟨h.k2,h.mu8,h.heap,h.muts,h.cmu,h.box,h.col,h.lY,h.nO,h.bd,fun i m hm=>?_,g1,h.ph,g2,g4,h.stk,h.ng,h.pK,g5 _,fun h4 j hj=>?_,?_,fun j hj=>?_,fun hh=>?_,fun hh=>?_,h.q⟩
    ·exact (h.dJ i m hm).coll rfl (fun v hv=>aT hl0 k hv) (fun _ hv => .inl hv)
    ·have hj':j<p.jA d':=hj
     rw [g7] at hj'
     exact aT (x:=x) hl0 k (by rw [hd];exact iV h4 j hj')
    ·refine h.clo.imp (fun hw=>hw) (fun hc a ha hco=>?_)
     rcases hc a ha hco with g|g|g
     ·exact .inl g
     ·rw [hd] at g;exact g.elim
     ·exact .inr (.inr fun j hj=>aT hl0 k (g j hj))
    ·have hj':j<p.mO d':=hj
     omega
    ·have hh':lW d'=true:=hh
     rw [g8] at hh';cases hh'
    ·have hh':d' = .marked:=hh
     rw [hh'] at g8;cases g8
   have hwt:∀ i,i<p.mu->x.s.B.pend (i:Int)=true->mm<=i:=fun i hi hp=>by
    obtain ⟨m',t',e,hle⟩:=h.wt i hi hp
    rw [hd] at e;cases e;exact hle
   by_cases hp:x.s.B.pend (mm:Int)=true
   ·rw [sV,hp,if_pos (by decide)]
    refine ⟨key (.wait mm t) (fun i hi hp=>⟨mm,t,rfl,hwt i hi hp⟩) ⟨hm,ht⟩ rfl trivial (fun _=>trivial) rfl rfl rfl (fun _ h=>h),trivial,?_⟩
    trivial
   ·have hp0:x.s.B.pend (mm:Int)=false:=by simpa using hp
    rw [sV,hp0,if_neg (by decide)]
    have hcm:=h.cmu
    have hwt2:∀ i,i<p.mu->x.s.B.pend (i:Int)=true->mm+1<=i:=fun i hi hq=>by
     have:=hwt i hi hq
     rcases Nat.lt_or_ge mm i with g|g
     ·exact g
     ·have:i=mm:=by omega
      subst this
      rw [hp0] at hq;cases hq
    by_cases hl:mm+1<x.coll.muts
    ·rw [if_pos hl]
     exact ⟨key (.wait (mm+1) t) (fun i hi hp=>⟨mm+1,t,rfl,hwt2 i hi hp⟩) ⟨by omega,ht⟩ rfl trivial (fun _=>trivial) rfl rfl rfl (fun _ h=>h),trivial,trivial⟩
    ·rw [if_neg hl]
     refine ⟨key t (fun i hi hp=>?_) ?_ t1 t2 t3 t4 t5 t6 t7,t8,trivial⟩
     ·have:=hwt2 i hi hp;omega
     ·rcases ht with ⟨a,e⟩|⟨a,e⟩|⟨a,e⟩|⟨a,e⟩<;>rw [e]
      ·exact a
      ·exact a
      ·exact a
      ·exact .inr a
 | arm =>
   have lS:x.coll.phase=1:=dD
   refine ⟨h.ask (c:=x.coll) (by rw [hd];intro m u e;cases e) ⟨rfl,rfl,rfl,rfl,rfl,rfl⟩ (by rw [hd];rfl) k (.inl ⟨lS,rfl,rfl⟩) (fun h4=>by omega) (fun a ha=>by rw [hd] at ha;exact ha),trivial,rfl⟩
 | scan =>
   have lS:x.coll.phase=2:=dD
   refine ⟨h.ask (c:=x.coll) (by rw [hd];intro m u e;cases e) ⟨rfl,rfl,rfl,rfl,rfl,rfl⟩ (by rw [hd];rfl) k (.inr (.inl ⟨lS,rfl,rfl⟩)) (fun h4=>by omega) (fun a ha=>by rw [hd] at ha;exact ha),trivial,rfl⟩
 | drain =>
   have lS:x.coll.phase=4:=dD
   refine ⟨h.ask (c:={ x.coll with fresh:=false,drains:=x.coll.drains+1 }) (by rw [hd];intro m u e;cases e) ⟨rfl,rfl,rfl,rfl,rfl,rfl⟩ (by rw [hd];rfl) k (.inr (.inr ⟨lS,rfl,rfl⟩)) (fun _=>by rw [hd];rfl) (fun a ha=>by rw [hd] at ha;exact ha),trivial,rfl⟩
 | trace =>
   have lS:x.coll.phase=3:=dD
   obtain ⟨w1,w2,w3,w4,w5,w6,w7,w8,w9,w10⟩:=PS (p:=p) { x.coll with phase:=4 } 0
   have hix:=Nl (p:=p) (c:={ x.coll with phase:=4 }) h.nO (Nat.zero_le _)
   refine ⟨h.phase (c:=x.coll) (d:=CS.dW { x.coll with phase:=4 } 0) (by rw [hd];intro m u e;cases e) ⟨rfl,rfl,rfl,rfl,rfl,rfl⟩ (by rw [hd];rfl) w7 k w1 (.inl ⟨lS,rfl⟩) (.inl hix) (by rw [hix];exact Nat.zero_le _) (fun a ha=>by rw [hd] at ha;exact ha) ?_ w3 (w4 _) w6 w2,?_,rfl⟩
   ·unfold CS.dW
    split
    ·exact .inl rfl
    ·rename_i e
     refine ⟨rfl,?_⟩
     have hce:x.coll.cells=p.ce:=h.nO
     have e':¬ 0=x.coll.cells:=e
     omega
   ·show p.qU (CS.dW { x.coll with phase:=4 } 0)
    unfold CS.dW
    split<;>trivial
 | cell ii =>
   obtain ⟨lS,hi⟩:=dD
   have hnw:∀ m u,x.coll.next ≠ .wait m u:=by rw [hd];intro m u e;cases e
   have hl0:lookOf x.coll.next=0:=by rw [hd];rfl
   obtain ⟨w1,w2,w3,w4,w5,w6,w7,w8,w9,w10⟩:=PS (p:=p) x.coll (ii+1)
   have hix:=Nl (p:=p) (c:=x.coll) h.nO (i:=ii+1) (by omega)
   have hts:p.dD x.coll.phase (x.coll.dW (ii+1))/\∀ i,x.coll.dW (ii+1) = .cell i->x.coll.phase=4/\i<p.ce:=by
    have hce:=h.nO
    unfold CS.dW
    split
    ·exact ⟨.inl lS,fun i e=>by cases e⟩
    ·rename_i e
     exact ⟨⟨lS,by omega⟩,fun i e'=>by cases e';exact ⟨lS,by omega⟩⟩
   have hgood:p.good (x.s.H.cellP (ii:Int)):=fun hb=>by rw [hcp] at hb ⊢;exact .root (.inl ⟨ii,hi,rfl⟩) hb
   refine ⟨h.go (d:=dh (x.s.H.cellP (ii:Int)) (x.coll.dW (ii+1))) (st:=x.coll.stk) hnw (F6 w1) (fun v hv=>aT hl0 k hv) (Bo (.inl lS) w8 hts.2 w9 hts.1) (Bg hgood w3) h.stk (Bh.2 (w4 _)) (fun h4 j hj=>?_) (fun a ha hc hq=>?_) (fun j hj=>?_) (fun hh=>?_) (fun hh=>?_),?_,rfl⟩
   ·rw [zG,hix] at hj
    by_cases e:j=ii
    ·subst e
     rw [<- hcp]
     exact Bl k
    ·exact aT hl0 k (by rw [hd];exact iV h4 j (by show j<ii;omega))
   ·rw [hd] at hq
    rcases hq with q|q|q
    ·exact .inl q
    ·exact q.elim
    ·exact .inr (.inr fun j hj=>aT hl0 k (by rw [hd];exact q j hj))
   ·rw [Bj,w6] at hj;exact absurd hj (Nat.not_lt_zero _)
   ·rw [rQ w2] at hh;cases hh
   ·have:=rQ (v:=x.s.H.cellP (ii:Int)) w2
    rw [hh] at this;cases this
   ·refine G7 ?_
    unfold CS.dW
    split<;>trivial
 | work =>
   have hnw:∀ m u,x.coll.next ≠ .wait m u:=by rw [hd];intro m u e;cases e
   have hl0:lookOf x.coll.next=0:=by rw [hd];rfl
   have hmk:tY x.coll.phase:=dD
   unfold stepW
   simp only [aC]
   cases hs:x.coll.stk.getLast? with
   | some a =>
     have hsp:=vJ hs
     have hra:p.jL a:=h.stk a (by rw [hsp];exact List.mem_append_right _ (List.mem_singleton.2 rfl))
     refine ⟨h.go (d := .object a .work) (st:=x.coll.stk.dropLast) hnw (fun m u e=>by cases e) (fun v hv=>aT hl0 k hv) ⟨hmk,trivial⟩ ⟨hra,trivial⟩ (fun b hb=>h.stk b (Bq hb)) trivial (fun h4 j hj=>aT hl0 k (by rw [hd];exact iV h4 j hj)) (fun b hb hc hq=>?_) (fun j hj=>absurd hj (Nat.not_lt_zero _)) (fun hh=>by cases hh) (fun hh=>by cases hh),trivial,rfl⟩
     rw [hd] at hq
     rcases hq with q|q|q
     ·rw [hsp] at q
      rcases List.mem_append.1 q with q|q
      ·exact .inl q
      ·exact .inr (.inl (.inl (List.mem_singleton.1 q)))
     ·exact q.elim
     ·exact .inr (.inr fun j hj=>aT hl0 k (by rw [hd];exact q j hj))
   | none =>
     refine ⟨h.go (d := .box 0) (st:=x.coll.stk) hnw (fun m u e=>by cases e) (fun v hv=>aT hl0 k hv) ⟨hmk,by omega⟩ trivial h.stk trivial (fun h4 j hj=>aT hl0 k (by rw [hd];exact iV h4 j hj)) (fun b hb hc hq=>?_) (fun j hj=>absurd hj (Nat.not_lt_zero _)) (fun hh=>by cases hh) (fun hh=>by cases hh),trivial,rfl⟩
     rw [hd] at hq
     rcases hq with q|q|q
     ·exact .inl q
     ·exact q.elim
     ·exact .inr (.inr fun j hj=>aT hl0 k (by rw [hd];exact q j hj))
 | empty t =>
   obtain ⟨hmk,htw⟩:=dD
   have hnw:∀ m u,x.coll.next ≠ .wait m u:=by rw [hd];intro m u e;cases e
   have hl0:lookOf x.coll.next=0:=by rw [hd];rfl
   obtain ⟨t1,t2,t3,t4,t5,t6⟩:=Sr (p:=p) htw
   unfold stepW
   simp only [aC]
   cases hs:x.coll.stk.getLast? with
   | some a =>
     have hsp:=vJ hs
     have hra:p.jL a:=h.stk a (by rw [hsp];exact List.mem_append_right _ (List.mem_singleton.2 rfl))
     refine ⟨h.go (d := .object a (.empty t)) (st:=x.coll.stk.dropLast) hnw (fun m u e=>by cases e) (fun v hv=>aT hl0 k hv) ⟨hmk,htw⟩ ⟨hra,src⟩ (fun b hb=>h.stk b (Bq hb)) (CP.jv (fun v hv=>hv) _ jM) (fun h4 j hj=>aT hl0 k (by rw [hd];exact iV h4 j hj)) (fun b hb hc hq=>?_) (fun j hj=>absurd hj (Nat.not_lt_zero _)) (fun hh=>by cases hh) (fun hh=>by cases hh),hw,rfl⟩
     rw [hd] at hq
     rcases hq with q|q|q
     ·rw [hsp] at q
      rcases List.mem_append.1 q with q|q
      ·exact .inl q
      ·exact .inr (.inl (.inl (List.mem_singleton.1 q)))
     ·exact .inr (.inl (.inr q))
     ·exact .inr (.inr fun j hj=>aT hl0 k (by rw [hd];exact q j hj))
   | none =>
     refine ⟨h.go (d:=t) (st:=x.coll.stk) hnw t1 (fun v hv=>aT hl0 k hv) (Nr hmk htw hw) src h.stk (CP.jv (fun v hv=>aT hl0 k (by rw [hd];exact hv)) _ jM) (fun h4 j hj=>?_) (fun b hb hc hq=>?_) (fun j hj=>?_) (fun hh=>?_) (fun hh=>absurd hh t6),hw,rfl⟩
     ·rw [t4] at hj
      exact aT hl0 k (by rw [hd];exact iV h4 j hj)
     ·rw [hd] at hq
      rcases hq with q|q|q
      ·exact .inl q
      ·exact .inr (.inl q)
      ·exact .inr (.inr fun j hj=>aT hl0 k (by rw [hd];exact q j hj))
     ·rw [t3] at hj;exact absurd hj (Nat.not_lt_zero _)
     ·rw [t2] at hh;cases hh
 | object a t =>
   obtain ⟨hmk,hto⟩:=dD
   obtain ⟨hra,hst⟩:=src
   have hnw:∀ m u,x.coll.next ≠ .wait m u:=by rw [hd];intro m u e;cases e
   have hl0:lookOf x.coll.next=0:=by rw [hd];rfl
   obtain ⟨w1,w2,w3,w4,w5,w6,w7,w8,w9⟩:=Np (p:=p) a 0 (x.s.H.bg a).1 hto
   have hfl:p.jS (p.iq x.s.H.co 0) (bZ a 0 (x.s.H.bg a).1 t):=by
    unfold bZ
    split
    ·exact jM
    ·rename_i e
     refine ⟨⟨by rw [hfp],by omega,fun j hj=>absurd hj (Nat.not_lt_zero _)⟩,jM⟩
   have hah:∀ b,(b=a/\0<(p.H.bg a).1)\/p.ahead b t->p.ahead b (bZ a 0 (x.s.H.bg a).1 t):=fun b hb=>by
    unfold bZ
    rw [hfp]
    split
    ·rename_i e
     rcases hb with ⟨_,h2⟩|h2
     ·omega
     ·exact h2
    ·rcases hb with ⟨h1,_⟩|h2
     ·exact .inl h1
     ·exact .inr h2
   have hsc:p.lV (bZ a 0 (x.s.H.bg a).1 t):=by
    unfold bZ
    split
    ·exact hst
    ·exact ⟨hra,hst⟩
   have hsh:p.dD x.coll.phase (bZ a 0 (x.s.H.bg a).1 t):=by
    unfold bZ
    split
    ·exact PU hmk hto
    ·exact ⟨hmk,hto⟩
   refine ⟨h.go (d:=bZ a 0 (x.s.H.bg a).1 t) (st:=x.coll.stk) hnw w1 (fun v hv=>aT hl0 k hv) hsh hsc h.stk (by rw [w5];exact hfl) (fun h4 j hj=>?_) (fun b hb hc hq=>?_) (fun j hj=>?_) (fun hh=>?_) (fun hh=>absurd hh w9),Nu hw,rfl⟩
   ·rw [w3] at hj
    exact aT hl0 k (by rw [hd];exact iV h4 j hj)
   ·rw [hd] at hq
    rcases hq with q|q|q
    ·exact .inl q
    ·rcases q with q|q
     ·by_cases h0:0<(p.H.bg a).1
      ·exact .inr (.inl (hah b (.inl ⟨q,h0⟩)))
      ·refine .inr (.inr fun j hj=>?_)
       rw [q] at hj;omega
     ·exact .inr (.inl (hah b (.inr q)))
    ·exact .inr (.inr fun j hj=>aT hl0 k (by rw [hd];exact q j hj))
   ·rw [w4] at hj;exact absurd hj (Nat.not_lt_zero _)
   ·rw [w2] at hh;cases hh
 | field a ii n t =>
   obtain ⟨hmk,hto⟩:=dD
   obtain ⟨hra,hst⟩:=src
   obtain ⟨⟨hn1,hn2,hn3⟩,hft⟩:=jM
   have hnw:∀ m u,x.coll.next ≠ .wait m u:=by rw [hd];intro m u e;cases e
   have hl0:lookOf x.coll.next=0:=by rw [hd];rfl
   obtain ⟨w1,w2,w3,w4,w5,w6,w7,w8,w9⟩:=Np (p:=p) a (ii+1) n hto
   have hgood:p.good (x.s.H.dF a (ii:Int)):=fun hb=>by rw [hld] at hb ⊢;exact .jM hra (by omega) hb
   have aaA:∀ j:Nat,j<ii+1->p.iq x.s.H.co (lookOf (dh (x.s.H.dF a (ii:Int)) (bZ a (ii+1) n t))) (p.H.dF a (j:Int)):=fun j hj=>by
    by_cases e:j=ii
    ·subst e
     rw [<- hld]
     exact Bl k
    ·exact aT hl0 k (by rw [hd];exact hn3 j (by omega))
   have hfl:p.jS (p.iq x.s.H.co (lookOf (dh (x.s.H.dF a (ii:Int)) (bZ a (ii+1) n t)))) (bZ a (ii+1) n t):=by
    have hmono:=CP.jv (p:=p) (ok:=p.iq x.s.H.co (lookOf (CD.field a ii n t))) (ok':=p.iq x.s.H.co (lookOf (dh (x.s.H.dF a (ii:Int)) (bZ a (ii+1) n t)))) (fun v hv=>aT hl0 k (by rw [hd];exact hv)) t hft
    generalize lookOf (dh (x.s.H.dF a (ii:Int)) (bZ a (ii+1) n t))=q at *
    unfold bZ
    split
    ·exact hmono
    ·rename_i e
     exact ⟨⟨hn1,by omega,aaA⟩,hmono⟩
   have hah:∀ b,(b=a/\ii+1<n)\/p.ahead b t->p.ahead b (bZ a (ii+1) n t):=fun b hb=>by
    unfold bZ
    split
    ·rename_i e
     rcases hb with ⟨_,h2⟩|h2
     ·omega
     ·exact h2
    ·rcases hb with ⟨h1,_⟩|h2
     ·exact .inl h1
     ·exact .inr h2
   have hsc:p.lV (bZ a (ii+1) n t):=by
    unfold bZ
    split
    ·exact hst
    ·exact ⟨hra,hst⟩
   have hsh:p.dD x.coll.phase (bZ a (ii+1) n t):=by
    unfold bZ
    split
    ·exact PU hmk hto
    ·exact ⟨hmk,hto⟩
   refine ⟨h.go (d:=dh (x.s.H.dF a (ii:Int)) (bZ a (ii+1) n t)) (st:=x.coll.stk) hnw (F6 w1) (fun v hv=>aT hl0 k hv) (Bo hmk w6 (fun i e=>absurd e (w7 i)) (fun i e=>absurd e (w8 i)) hsh) (Bg hgood hsc) h.stk (Bh.2 hfl) (fun h4 j hj=>?_) (fun b hb hc hq=>?_) (fun j hj=>?_) (fun hh=>?_) (fun hh=>?_),G7 (Nu hw),rfl⟩
   ·rw [zG,w3] at hj
    exact aT hl0 k (by rw [hd];exact iV h4 j hj)
   ·rw [hd] at hq
    rcases hq with q|q|q
    ·exact .inl q
    ·rcases q with q|q
     ·by_cases h0:ii+1<n
      ·exact .inr (.inl (Dy.2 (hah b (.inl ⟨q,h0⟩))))
      ·refine .inr (.inr fun j hj=>?_)
       rw [q] at hj ⊢
       exact aaA j (by omega)
     ·exact .inr (.inl (Dy.2 (hah b (.inr q))))
    ·exact .inr (.inr fun j hj=>aT hl0 k (by rw [hd];exact q j hj))
   ·rw [Bj,w4] at hj;exact absurd hj (Nat.not_lt_zero _)
   ·rw [rQ w2] at hh;cases hh
   ·have:=rQ (v:=x.s.H.dF a (ii:Int)) w2
    rw [hh] at this;cases this
 | walk b =>
   obtain ⟨hmk,hb⟩:=dD
   have hnw:∀ m u,x.coll.next ≠ .wait m u:=by rw [hd];intro m u e;cases e
   have hl0:lookOf x.coll.next=0:=by rw [hd];rfl
   obtain ⟨v1,v2,v3,v4,v5,v6,v7,v8,v9,v10,v11⟩:=PV (p:=p) x.coll h.lY (b+1) (by omega)
   obtain ⟨s1,s2,s3,s4⟩:=Nq (p:=p) (l:=x.s.H.slots b) v9
   obtain ⟨t1,t2,t3,t4,t5,t6⟩:=Sr (p:=p) s1
   have hS:=Ns (p:=p) (l:=x.s.H.slots b) (PW (p:=p) x.coll h.lY (b+1) (by omega))
   refine ⟨h.go (d:=dK (x.s.H.slots b) (x.coll.eu (b+1))) (st:=x.coll.stk) hnw t1 (fun v hv=>aT hl0 k hv) (Nr hmk s1 hS) (s2 v3) h.stk (s3 _ (v4 _)) (fun h4 j hj=>?_) (fun a ha hc hq=>?_) (fun j hj=>?_) (fun hh=>?_) (fun hh=>absurd hh t6),hS,rfl⟩
   ·rw [t4] at hj
    exact aT hl0 k (by rw [hd];exact iV h4 j hj)
   ·rw [hd] at hq
    rcases hq with q|q|q
    ·exact .inl q
    ·obtain ⟨B,g1,g2,g3⟩:=q
     refine .inr (.inl ((s4 a).2 ?_))
     by_cases e:B=b
     ·subst e
      exact .inl (by rw [hsl];exact g3)
     ·exact .inr ((v5 a).2 ⟨B,by omega,g2,g3⟩)
    ·exact .inr (.inr fun j hj=>aT hl0 k (by rw [hd];exact q j hj))
   ·rw [t3] at hj;exact absurd hj (Nat.not_lt_zero _)
   ·rw [t2] at hh;cases hh
 | slots ll t =>
   obtain ⟨hmk,hle,htw⟩:=dD
   obtain ⟨_,hws⟩:=hw
   have hnw:∀ m u,x.coll.next ≠ .wait m u:=by rw [hd];intro m u e;cases e
   have hl0:lookOf x.coll.next=0:=by rw [hd];rfl
   obtain ⟨s1,s2,s3,s4⟩:=Nq (p:=p) (l:=ll.tail) htw
   have hS:=Ns (p:=p) (l:=ll.tail) hws
   have hsplit:∀ b,b∈ll->b=aV ll\/b∈ll.tail:=fun b hb=>by
    cases ll with
    | nil=>cases hb
    | cons a r=>exact List.mem_cons.1 hb
   have hfm:∀ l2,p.jS (p.iq x.s.H.co l2) t:=fun l2=>CP.jv (p:=p) (ok:=p.iq x.s.H.co (lookOf (CD.slots ll t))) (fun v hv=>aT hl0 k (by rw [hd];exact hv)) t jM
   unfold stepW
   simp only [aC]
   by_cases hc:(!x.s.H.bn (aV ll)||x.s.H.eP (aV ll) != x.coll.color)=true
   ·rw [if_pos hc]
    obtain ⟨t1,t2,t3,t4,t5,t6⟩:=Sr (p:=p) s1
    refine ⟨h.go (d:=dK ll.tail t) (st:=x.coll.stk) hnw t1 (fun v hv=>aT hl0 k hv) (Nr hmk s1 hS) (s2 src) h.stk (s3 _ (hfm _)) (fun h4 j hj=>?_) (fun a ha hca hq=>?_) (fun j hj=>?_) (fun hh=>?_) (fun hh=>absurd hh t6),hS,trivial⟩
    ·rw [t4] at hj
     exact aT hl0 k (by rw [hd];exact iV h4 j hj)
    ·rw [hd] at hq
     rcases hq with q|q|q
     ·exact .inl q
     ·rcases q with q|q
      ·rcases hsplit a q with e|e
       ·exfalso
        rw [<- e,hbn,ha,h.col,hH] at hc
        have:=(zB (p:=p) hk2 (f:=f) a).2 (by rw [<- hco];exact hca)
        rw [Bool.not_true,Bool.false_or,bne,this] at hc
        cases hc
       ·exact .inr (.inl ((s4 a).2 (.inl e)))
      ·exact .inr (.inl ((s4 a).2 (.inr q)))
     ·exact .inr (.inr fun j hj=>aT hl0 k (by rw [hd];exact q j hj))
    ·rw [t3] at hj;exact absurd hj (Nat.not_lt_zero _)
    ·rw [t2] at hh;cases hh
   ·rw [if_neg hc]
    have hc':x.s.H.bn (aV ll)=true/\x.s.H.eP (aV ll)=p.κ:=by
     rw [<- h.col]
     simp at hc
     exact hc
    have hra:=aaz h hc'.1 hc'.2
    refine ⟨h.go (d := .object (aV ll) (.empty (dK ll.tail t))) (st:=x.coll.stk) hnw (fun m u e=>by cases e) (fun v hv=>aT hl0 k hv) ⟨hmk,s1⟩ ⟨hra,s2 src⟩ h.stk (s3 _ (hfm _)) (fun h4 j hj=>aT hl0 k (by rw [hd];exact iV h4 j hj)) (fun a ha hca hq=>?_) (fun j hj=>absurd hj (Nat.not_lt_zero _)) (fun hh=>by cases hh) (fun hh=>by cases hh),hS,trivial⟩
    rw [hd] at hq
    rcases hq with q|q|q
    ·exact .inl q
    ·rcases q with q|q
     ·rcases hsplit a q with e|e
      ·exact .inr (.inl (.inl e))
      ·exact .inr (.inl (.inr ((s4 a).2 (.inl e))))
     ·exact .inr (.inl (.inr ((s4 a).2 (.inr q))))
    ·exact .inr (.inr fun j hj=>aT hl0 k (by rw [hd];exact q j hj))
 | box mm =>
   obtain ⟨hmk,hm⟩:=dD
   have hnw:∀ m u,x.coll.next ≠ .wait m u:=by rw [hd];intro m u e;cases e
   have hl0:lookOf x.coll.next=0:=by rw [hd];rfl
   unfold stepW
   simp only [aC]
   cases hbx:x.s.box mm with
   | cons a r =>
     have hib:mm<x.s.boxes.length:=by rw [h.box];exact hm
     have hbi:∀ j,({ x.s with boxes:=x.s.boxes.set mm r }:Sh).box j=if j=mm then r else x.s.box j:=fun j=>by
      show (x.s.boxes.set mm r).getD j []=_
      rw [List.getD_eq_getElem?_getD]
      by_cases e:j=mm
      ·subst e
       rw [List.getElem?_set_self hib,if_pos rfl];rfl
      ·rw [List.getElem?_set_ne (fun e'=>e e'.symm),<- List.getD_eq_getElem?_getD,if_neg e];rfl
     have hga:p.good a:=h.ng mm a (by rw [hbx];exact List.mem_cons_self)
     have hla:lW (dh a (.box mm))=false:=rQ rfl
     refine ⟨⟨h.k2,h.mu8,h.heap,h.muts,h.cmu,by show (x.s.boxes.set mm r).length=_;rw [List.length_set];exact h.box,h.col,h.lY,h.nO,h.bd,fun i m hm'=>?_,fun i hi hp=>?_,h.ph,?_,Bg hga trivial,h.stk,fun i v hv=>?_,h.pK,Bh.2 trivial,fun h4 j hj=>?_,?_,fun j hj=>?_,fun hh=>?_,fun hh=>?_,h.q⟩,G7 trivial,rfl⟩
     ·refine (h.dJ i m hm').coll rfl (fun v hv=>aT hl0 k hv) (fun v hv=>?_)
      rw [hbi i]
      by_cases e:i=mm
      ·subst e
       rw [if_pos rfl]
       rw [hbx] at hv
       rcases List.mem_cons.1 hv with e|e
       ·exact .inr (by rw [e];exact Bl k)
       ·exact .inl e
      ·rw [if_neg e];exact .inl hv
     ·have hp':x.s.B.pend (i:Int)=true:=hp
      rw [h.nobody hnw hi] at hp';cases hp'
     ·exact Bo hmk trivial (fun i e=>by cases e) (fun m e=>by cases e;exact hm) ⟨hmk,hm⟩
     ·have hv':v∈({ x.s with boxes:=x.s.boxes.set mm r }:Sh).box i:=hv
      rw [hbi i] at hv'
      split at hv'
      ·exact h.ng mm v (by rw [hbx];exact List.mem_cons_of_mem _ hv')
      ·exact h.ng i v hv'
     ·have hj':j<p.jA (dh a (.box mm)):=hj
      rw [zG] at hj'
      exact aT hl0 k (by rw [hd];exact iV h4 j hj')
     ·refine clo.imp (fun hw=>hw) (fun hc b hb hcb=>?_)
      rcases hc b hb hcb with q|q|q
      ·exact .inl q
      ·exact q.elim
      ·exact .inr (.inr fun j hj=>aT hl0 k (by rw [hd];exact q j hj))
     ·have hj':j<p.mO (dh a (.box mm)):=hj
      rw [Bj] at hj'
      have hj2:j<mm:=hj'
      show ({ x.s with boxes:=x.s.boxes.set mm r }:Sh).box j=[]
      rw [hbi j,if_neg (by omega)]
      exact bx j hj2
     ·have hh':lW (dh a (.box mm))=true:=hh
      rw [hla] at hh';cases hh'
     ·have hh':dh a (.box mm) = .marked:=hh
      rw [hh'] at hla;cases hla
   | nil =>
     have hcm:=h.cmu
     have G8:∀ (d':CD) (b:Nat),(b∈x.coll.stk\/p.ahead b x.coll.next\/∀ j:Nat,j<(p.H.bg b).1->p.iq x.s.H.co (lookOf x.coll.next) (p.H.dF b (j:Int)))->b∈x.coll.stk\/p.ahead b d'\/∀ j:Nat,j<(p.H.bg b).1->p.iq x.s.H.co (lookOf d') (p.H.dF b (j:Int)):=fun d' b hq=>by
      rcases hq with q|q|q
      ·exact .inl q
      ·rw [hd] at q;exact q.elim
      ·exact .inr (.inr fun j hj=>aT hl0 k (q j hj))
     have hbb:∀ j,j<mm+1->x.s.box j=[]:=fun j hj=>by
      by_cases e:j=mm
      ·rw [e];exact hbx
      ·exact bx j (by show j<mm;omega)
     by_cases hl:mm+1<x.coll.muts
     ·rw [if_pos hl]
      exact ⟨h.go (d := .box (mm+1)) (st:=x.coll.stk) hnw (fun m u e=>by cases e) (fun v hv=>aT hl0 k hv) ⟨hmk,by omega⟩ trivial h.stk trivial (fun h4 j hj=>aT hl0 k (by rw [hd];exact iV h4 j hj)) (fun b hb hc hq=>G8 _ b hq) (fun j hj=>hbb j hj) (fun hh=>by cases hh) (fun hh=>by cases hh),trivial,rfl⟩
     ·rw [if_neg hl]
      by_cases hs:x.coll.stk=[]
      ·rw [if_pos hs]
       exact ⟨h.go (d := .over) (st:=x.coll.stk) hnw (fun m u e=>by cases e) (fun v hv=>aT hl0 k hv) hmk trivial h.stk trivial (fun h4 j hj=>aT hl0 k (by rw [hd];exact iV h4 j hj)) (fun b hb hc hq=>G8 _ b hq) (fun j hj=>hbb j (by have hj':j<p.mu:=hj;omega)) (fun _=>hs) (fun hh=>by cases hh),trivial,rfl⟩
      ·rw [if_neg hs]
       exact ⟨h.go (d := .work) (st:=x.coll.stk) hnw (fun m u e=>by cases e) (fun v hv=>aT hl0 k hv) hmk trivial h.stk trivial (fun h4 j hj=>aT hl0 k (by rw [hd];exact iV h4 j hj)) (fun b hb hc hq=>G8 _ b hq) (fun j hj=>absurd hj (Nat.not_lt_zero _)) (fun hh=>by cases hh) (fun hh=>by cases hh),trivial,rfl⟩
 | over =>
   have hmk:tY x.coll.phase:=dD
   have hnw:∀ m u,x.coll.next ≠ .wait m u:=by rw [hd];intro m u e;cases e
   have hl0:lookOf x.coll.next=0:=by rw [hd];rfl
   have aco:=h.stk0 (by rw [hd];rfl)
   have G8:∀ (d':CD) (b:Nat),(b∈x.coll.stk\/p.ahead b x.coll.next\/∀ j:Nat,j<(p.H.bg b).1->p.iq x.s.H.co (lookOf x.coll.next) (p.H.dF b (j:Int)))->b∈x.coll.stk\/p.ahead b d'\/∀ j:Nat,j<(p.H.bg b).1->p.iq x.s.H.co (lookOf d') (p.H.dF b (j:Int)):=fun d' b hq=>by
    rcases hq with q|q|q
    ·exact .inl q
    ·rw [hd] at q;exact q.elim
    ·exact .inr (.inr fun j hj=>aT hl0 k (q j hj))
   unfold stepW
   simp only [aC]
   by_cases hfo:(!x.s.flag && !x.coll.over)=true
   ·rw [if_pos hfo]
    have acp:x.s.flag=false/\x.coll.over=false:=by simpa using hfo
    by_cases h4:x.coll.phase=4
    ·rw [if_pos h4]
     exact ⟨h.go (d := .drain) (st:=x.coll.stk) hnw (fun m u e=>by cases e) (fun v hv=>aT hl0 k hv) h4 trivial h.stk trivial (fun h4 j hj=>aT hl0 k (by rw [hd];exact iV h4 j hj)) (fun b hb hc hq=>G8 _ b hq) (fun j hj=>absurd hj (Nat.not_lt_zero _)) (fun hh=>by cases hh) (fun hh=>by cases hh),trivial,rfl⟩
    ·rw [if_neg h4]
     have h5:x.coll.phase=5:=hmk.resolve_left h4
     by_cases hfr:x.coll.fresh=true
     ·rw [if_pos hfr]
      exact ⟨h.phase (c:=x.coll) (d := .drain) hnw ⟨rfl,rfl,rfl,rfl,rfl,rfl⟩ hl0 rfl k (fun m u e=>by cases e) (.inr ⟨h5,rfl⟩) (.inr (.inl ⟨by omega,by rw [hd];rfl,rfl⟩)) (Nat.le_refl _) (fun a ha=>by rw [hd] at ha;exact ha) rfl trivial trivial rfl rfl,trivial,rfl⟩
     ·rw [if_neg hfr]
      exact ⟨h.go (d := .marked) (st:=x.coll.stk) hnw (fun m u e=>by cases e) (fun v hv=>aT hl0 k hv) h5 trivial h.stk trivial (fun h4 j hj=>aT hl0 k (by rw [hd];exact iV h4 j hj)) (fun b hb hc hq=>G8 _ b hq) (fun j hj=>bx j hj) (fun _=>aco) (fun _=>acp),trivial,rfl⟩
   ·rw [if_neg hfo]
    obtain ⟨v1,v2,v3,v4,v5,v6,v7,v8,v9,v10,v11⟩:=PV (p:=p) x.coll h.lY 0 (Nat.zero_le _)
    have hwD:CS.eu { x.coll with over:=false,fresh:=true,walks:=x.coll.walks+1 } 0=x.coll.eu 0:=rfl
    refine ⟨⟨h.k2,h.mu8,h.heap,h.muts,h.cmu,h.box,h.col,h.lY,h.nO,h.bd,fun i m hm=>(h.dJ i m hm).coll rfl (fun v hv=>aT hl0 k hv) (fun _ hv => .inl hv),fun i hi hp=>?_,h.ph,v10 _ hmk,v3,h.stk,h.ng,h.pK,v4 _,fun h4 j hj=>?_,.inr fun a ha hca => .inr (.inl ((v5 a).2 ?_)),fun j hj=>?_,fun hh=>?_,fun hh=>absurd hh v11,h.q⟩,PW (p:=p) x.coll h.lY 0 (Nat.zero_le _),rfl⟩
    ·have hp':x.s.B.pend (i:Int)=true:=hp
     rw [h.nobody hnw hi] at hp';cases hp'
    ·have hj':j<p.jA (x.coll.eu 0):=hj
     rw [v7] at hj'
     exact aT hl0 k (by rw [hd];exact iV h4 j hj')
    ·obtain ⟨B,g1,g2⟩:=k.ahead a ha
     exact ⟨B,Nat.zero_le _,g1,g2⟩
    ·have hj':j<p.mO (x.coll.eu 0):=hj
     rw [v6] at hj';exact absurd hj' (Nat.not_lt_zero _)
    ·have hh':lW (x.coll.eu 0)=true:=hh
     rw [v2] at hh';cases hh'
 | marked=>exact absurd rfl hne
 | _=>exact dD.elim
end
end
end Go.Proofs.YtanfphjoebobaaaGreatDoor
