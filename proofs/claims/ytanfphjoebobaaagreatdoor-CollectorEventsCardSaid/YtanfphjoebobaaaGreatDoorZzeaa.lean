/- Parts of the walk. No conditions. -/
import Derived.Test.YtanfphjoebobaaaGreatDoorZzez
namespace Go.Proofs.YtanfphjoebobaaaGreatDoor
set_option maxHeartbeats 1000000
section
section
variable {p:CP} {x y:WS} {s s':Sh} {m m':MS} {i l l' ph hf:Nat}
theorem DT (k:sS p hf) (w:Nat) (hw:w=p.κ):∀ rs:List Nat,(∀ v∈rs,p.good v)->uh (jQ w rs)/\tH (jQ w rs)=3/\p.rZ (jQ w rs)/\(∀ v∈rs,v=0\/v∈nS (jQ w rs))/\left (jQ w rs)<=8*rs.length+1
 | [],_=>⟨rfl,rfl,trivial,(fun _ h=>by cases h),Nat.le_refl _⟩
 | v::r,hg=>by
   obtain ⟨h1,h2,h3,h4,h5⟩:=DT k w hw r (fun u hu=>hg u (List.mem_cons_of_mem _ hu))
   show uh (kD v w (jQ w r))/\tH (kD v w (jQ w r))=3/\p.rZ (kD v w (jQ w r))/\(∀ u∈v::r,u=0\/u∈nS (kD v w (jQ w r)))/\left (kD v w (jQ w r))<=_
   unfold kD
   by_cases e:v=0
   ·rw [if_pos e]
    refine ⟨h1,h2,h3,fun u hu=>?_,by rw [List.length_cons];omega⟩
    rcases List.mem_cons.1 hu with rfl|hu
    ·exact .inl e
    ·exact h4 u hu
   ·rw [if_neg e]
    refine ⟨h1,h2,⟨hg v List.mem_cons_self,hw,h3⟩,fun u hu=>?_,by rw [List.length_cons];show 8+left _<=_;omega⟩
    rcases List.mem_cons.1 hu with rfl|hu
    ·exact .inr List.mem_cons_self
    ·rcases h4 u hu with g|g
     ·exact .inl g
     ·exact .inr (List.mem_cons_of_mem _ g)
structure PC (p:CP) (s:Sh) (m:MS) (i:Nat) (s':Sh) (m':MS):Prop where
 less:dO s' i m'+2*(s'.box i).length+(if s.B.pend (i:Int) then 1 else 0)<=dO s i m+2*(s.box i).length
 pK:p.U s'.H.co+1<=p.U s.H.co\/(p.U s'.H.co=p.U s.H.co/\(iL m'.next=true\/s'.flag=true->iL m.next=true\/s.flag=true))
theorem BH (k:sS p hf) (h:MInv p x) (hm:x.muts[i]?=some m) (hp:x.s.B.pend (i:Int)=true):Hy m.buf (dA x.s m)/\dA x.s m ≠ .nil/\tH (dA x.s m)=(x.coll.phase:Int)/\p.rZ (dA x.s m)/\(x.coll.phase=3->∀ v∈m.regs,v=0\/v∈nS (dA x.s m))/\left (dA x.s m)<=8*m.regs.length+4/\iL (dA x.s m)=false:=by
 have mi:=h.dK i m hm
 have uQ:i<p.mu:=by rw [<- h.muts];exact (List.getElem?_eq_some_iff.1 hm).1
 have mV:=h.Qs uQ hp
 have hk:=mi.kind hp
 have hp':x.s.B.pend (m.id:Int)=true:=by rw [mi.id];exact hp
 have hw:x.coll.phase≠1->m.want=p.κ:=fun h1=>mi.want.resolve_left (fun h=>h1 h.1)
 unfold dA
 rw [hp',if_pos rfl,hk]
 by_cases h3:x.coll.phase=3
 ·rw [h3,if_pos (by decide)]
  obtain ⟨g1,g2,g3,g4,g5⟩:=DT k m.want (hw (by omega)) m.regs (fun v hv hb => .root (.inr ⟨i,uQ,by rw [<- mi.regs];exact hv⟩) hb)
  exact ⟨xW g1,zN g1,g2,g3,fun _=>g4,by omega,zO g1⟩
 ·rw [if_neg (by omega)]
  by_cases h5:x.coll.phase=5
  ·rw [h5,if_pos (by decide)]
   unfold MS.kE
   by_cases e:m.buf=[]
   ·rw [if_pos e]
    exact ⟨fun _=>e,(fun e=>by cases e),rfl,trivial,(fun e=>by omega),by show 1<=_;omega,rfl⟩
   ·rw [if_neg e]
    exact ⟨trivial,(fun e=>by cases e),rfl,⟨hw (by omega),trivial⟩,(fun e=>by omega),by show 3+1<=_;omega,rfl⟩
  ·rw [if_neg (by omega)]
   refine ⟨fun e=>?_,(fun e=>by cases e),rfl,trivial,fun e=>absurd e h3,by show 1<=_;omega,rfl⟩
   exact absurd e (by omega)
theorem NM (k:sS p hf) (h:MInv p x) (hm:x.muts[i]?=some m) (hn:m.next = .nil):dO x.s i m<=3*m.buf.length+(8*m.regs.length+5):=by
 unfold dO
 split
 ·rename_i hp
  have:=(BH k h hm hp).2.2.2.2.2.1
  rw [hn,if_pos (by decide)];omega
 ·omega
theorem EF (k:sS p hf) (h:MInv p x) (hm:x.muts[i]?=some m) :
 MU p x.s m (lookOf x.coll.next) x.coll.phase i (bG x.s m).1 (bG x.s m).2.1/\PC p x.s m i (bG x.s m).1 (bG x.s m).2.1/\(bG x.s m).2.2=none:=by
 have mi:=h.dK i m hm
 have uQ:i<p.mu:=by rw [<- h.muts];exact (List.getElem?_eq_some_iff.1 hm).1
 by_cases hn:isNil m.next=true
 ·have hnx:m.next = .nil:=by
   cases hd:m.next<;>rw [hd] at hn<;>first|rfl|cases hn
  have hpk:bG x.s m=(x.s,{ m with spent:=1,ans:=x.s.B.pend (m.id:Int),next:=dA x.s m },none):=by
   unfold bG
   rw [if_pos hn]
  rw [hpk]
  by_cases hp:x.s.B.pend (i:Int)=true
  ·obtain ⟨g1,g2,g3,g4,g5,g6,g7⟩:=BH k h hm hp
   have DR:MI p x.s (lookOf x.coll.next) x.coll.phase i { m with spent:=1,ans:=x.s.B.pend (m.id:Int),next:=dA x.s m }:=by
    refine ⟨mi.id,mi.prog,mi.regs,mi.lg,mi.want,mi.color,fun hf=>?_,mi.kind,fun _=>g3,g1,g4,mi.buf,fun h3 _ v hv=>?_,mi.buf5⟩
    ·rw [hp] at hf;cases hf
    ·by_cases e3:x.coll.phase=3
     ·rcases g5 e3 v hv with rfl|g
      ·exact .inl (CP.NG k.bn0)
      ·exact .inr (.inr (.inr g))
     ·rcases mi.reg h3 (fun hh=>e3 hh.1) v hv with g|g|g|g
      ·exact .inl g
      ·exact .inr (.inl g)
      ·exact .inr (.inr (.inl g))
      ·rw [hnx] at g;cases g
   refine ⟨MU.same h hm DR (fun hq=>by rw [hnx] at hq;cases hq),⟨?_,.inr ⟨rfl,fun hq=>?_⟩⟩,rfl⟩
   ·unfold dO
    rw [hp,if_pos rfl,if_pos rfl,if_pos rfl,hn,if_pos rfl]
    show 3*m.buf.length+(if isNil (dA x.s m)=true then _ else left (dA x.s m))+2*(x.s.box i).length+1<=_
    rw [qQ g2,if_neg (by decide)]
    omega
   ·rcases hq with hq|hq
    ·have hq':iL (dA x.s m)=true:=hq
     rw [g7] at hq';cases hq'
    ·exact .inr hq
  ·have hp0:x.s.B.pend (i:Int)=false:=by simpa using hp
   have hb:dA x.s m = .nil:=by
    unfold dA
    rw [mi.id,hp0,if_neg (by decide),List.getElem?_eq_none mi.prog]
   rw [hb]
   have DR:MI p x.s (lookOf x.coll.next) x.coll.phase i { m with spent:=1,ans:=x.s.B.pend (m.id:Int),next := .nil }:=mi.of ⟨rfl,rfl,rfl,rfl,rfl,rfl,rfl,rfl,hnx.symm⟩
   refine ⟨MU.same h hm DR (fun hq=>by rw [hnx] at hq;cases hq),⟨?_,.inr ⟨rfl,fun hq=>?_⟩⟩,rfl⟩
   ·unfold dO
    rw [hp0]
    exact Nat.le_refl _
   ·rcases hq with hq|hq
    ·cases hq
    ·exact .inr hq
 ·have hn':isNil m.next=false:=by simpa using hn
  have hp:x.s.B.pend (i:Int)=true:=by
   cases hb:x.s.B.pend (i:Int)
   ·exact absurd (mi.idle hb) (NJ hn')
   ·rfl
  obtain ⟨u,c,e⟩:=Ym k h hm hn' m.next rfl
  have hpk:bG x.s m=((stepM x.s { m with spent:=m.spent+1 } m.next).s,(if isNil (stepM x.s { m with spent:=m.spent+1 } m.next).next then { (stepM x.s { m with spent:=m.spent+1 } m.next).m with next := .nil }.most else { (stepM x.s { m with spent:=m.spent+1 } m.next).m with next:=(stepM x.s { m with spent:=m.spent+1 } m.next).next }),(stepM x.s { m with spent:=m.spent+1 } m.next).ev):=by
   unfold bG
   rw [if_neg hn]
  rw [hpk]
  generalize stepM x.s { m with spent:=m.spent+1 } m.next=r at *
  by_cases hr:isNil r.next=true
  ·have hrn:r.next = .nil:=by
    cases hd:r.next<;>rw [hd] at hr<;>first|rfl|cases hr
   rw [if_pos hr]
   rw [hrn] at u c
   have hM:∀ M:MS,(M.most).id=M.id/\(M.most).prog=M.prog/\(M.most).res=M.res/\(M.most).regs=M.regs/\(M.most).c=M.c/\(M.most).want=M.want/\(M.most).color=M.color/\(M.most).buf=M.buf/\(M.most).next=M.next:=fun M=>by
    unfold MS.most
    split<;>exact ⟨rfl,rfl,rfl,rfl,rfl,rfl,rfl,rfl,rfl⟩
   have hM1:=hM { r.m with next := .nil }
   have hMb:∀ M:MS,dA r.s M.most=dA r.s M:=fun M=>by
    unfold MS.most
    split<;>rfl
   have adF:=hMb { r.m with next := .nil }
   have DR:=u.mi.of hM1
   generalize MS.most { r.m with next := .nil }=M at *
   obtain ⟨_,_,_,_,_,_,_,e8,e9⟩:=hM1
   refine ⟨⟨u.heap,u.mono,u.pK,u.len,u.Gq,u.bx,u.bxw,u.bd,u.kind,u.pend,u.Tn,u.q,DR,u.flag,u.flag2,fun hq=>?_,fun a ha hc=>?_⟩,⟨?_,?_⟩,e⟩
   ·rw [e9];exact u.pr hq
   ·rw [e9];exact u.new a ha hc
   ·have hc:=c.less
    rw [hp,if_pos rfl]
    have ht:dO r.s i M=dO r.s i { r.m with next := .nil }:=by
     unfold dO
     rw [e8,e9,adF]
    rw [ht];exact hc
   ·rw [e9];exact c.pK
  ·rw [if_neg hr]
   exact ⟨u,⟨by have hc:=c.less;rw [hp,if_pos rfl];exact hc,c.pK⟩,e⟩
end
section
variable {p:CP} {x y:WS} {s s':Sh} {m m':MS} {i l l' ph sU hf:Nat} {c':CS}
theorem MI.coll (h:MI p s l ph i m) (hB:s'.B=s.B) (hk:∀ v,p.gV s.H.co l v->p.gV s'.H.co l' v) (hb:∀ v∈s.box i,v∈s'.box i\/p.gV s'.H.co l' v):MI p s' l' ph i m :=
 ⟨h.id,h.prog,h.regs,h.lg,by rw [hB];exact h.want,by rw [hB];exact h.color,by rw [hB];exact h.idle,by rw [hB];exact h.kind,h.ND,h.dD,h.gd,h.buf,
  by
   rw [hB]
   intro a b v hv
   rcases h.reg a b v hv with g|g|g|g
   ·exact .inl (hk v g)
   ·exact .inr (.inl g)
   ·rcases hb v g with g|g
    ·exact .inr (.inr (.inl g))
    ·exact .inl g
   ·exact .inr (.inr (.inr g)),by rw [hB];exact h.buf5⟩
theorem MI.phase (h:MI p s l ph i m) (hp:s.B.pend (i:Int)=false) (hkind:s'.B.pend (i:Int)=true->s'.B.kind=(sU:Int)) (hb:s'.box i=s.box i) (hk:∀ v,p.gV s.H.co l v->p.gV s'.H.co l' v)
 (jB:ph<3↔(sU<3\/(sU=3/\s'.B.pend (i:Int)=true))) (Hz:3<=sU->¬ (sU=3/\s'.B.pend (i:Int)=true)->3<=ph) (h5:sU=5->s'.B.pend (i:Int)=false->ph=5):MI p s' l' sU i m:=by
 have hn:=h.idle hp
 refine ⟨h.id,h.prog,h.regs,h.lg,.inr (h.want.resolve_left (fun hh=>by rw [hp] at hh;cases hh.2)),?_,fun _=>hn,hkind,fun hf=>absurd hn hf,by rw [hn];trivial,by rw [hn];trivial,h.buf,fun h3 hx v hv=>?_,fun e1 e2=>h.buf5 (h5 e1 e2) hp⟩
 ·have hc:=h.color
  rw [hp] at hc
  by_cases e:ph<3
  ·rw [if_pos (.inl e)] at hc
   rw [if_pos (jB.1 e)];exact hc
  ·rw [if_neg (by intro hh;rcases hh with hh|hh;exact e hh;cases hh.2)] at hc
   rw [if_neg (fun hh=>e (jB.2 hh))];exact hc
 ·have h3':=Hz h3 (fun hh=>hx ⟨hh.1,hh.2,hn⟩)
  rcases h.reg h3' (fun hh=>by rw [hp] at hh;cases hh.2.1) v hv with g|g|g|g
  ·exact .inl (hk v g)
  ·exact .inr (.inl g)
  ·exact .inr (.inr (.inl (by rw [hb];exact g)))
  ·exact .inr (.inr (.inr g))
theorem MInv.nobody (h:MInv p x) (hn:∀ m t,x.coll.next ≠ .wait m t) {i:Nat} (hi:i<p.mu):x.s.B.pend (i:Int)=false:=by
 cases hp:x.s.B.pend (i:Int)
 ·rfl
 ·obtain ⟨m,t,e,_⟩:=h.wt i hi hp
  exact absurd e (hn m t)
theorem MInv.pG (h:MInv p x) (hm:x.muts[i]?=some m):i<p.mu:=by rw [<- h.muts];exact (List.getElem?_eq_some_iff.1 hm).1
theorem MInv.go (h:MInv p x) (hn:∀ m t,x.coll.next ≠ .wait m t) {d:CD} {st:List Nat} (hd:∀ m t,d ≠ .wait m t)
 (hl:∀ v,p.gV x.s.H.co (lookOf x.coll.next) v->p.gV x.s.H.co (lookOf d) v)
 (dD:p.dD x.coll.phase d) (src:p.lY d) (stk:∀ a∈st,p.gZ a)
 (jg:p.jR (p.gV x.s.H.co (lookOf d)) d)
 (iP:4<=x.coll.phase->∀ j:Nat,j<p.jw d->p.gV x.s.H.co (lookOf d) (p.H.cellP (j:Int)))
 (clo:∀ a,p.H.bn a=true->x.s.H.co a=p.kb->(a∈x.coll.stk\/p.ahead a x.coll.next\/∀ j:Nat,j<(p.H.aV a).1->p.gV x.s.H.co (lookOf x.coll.next) (p.H.bY a (j:Int)))->a∈st\/p.ahead a d\/∀ j:Nat,j<(p.H.aV a).1->p.gV x.s.H.co (lookOf d) (p.H.bY a (j:Int)))
 (bx:∀ j,j<p.mQ d->x.s.box j=[]) (stk0:lZ d=true->st=[]) (mk0:d = .marked->x.s.flag=false/\x.coll.over=false) :
 MInv p { x with coll:={ x.coll with stk:=st,next:=d } } :=
 ⟨h.k2,h.mu8,h.heap,h.muts,h.cmu,h.box,h.col,h.mg,h.nT,h.bd,fun i m hm=>(h.dK i m hm).coll rfl hl (fun _ hv => .inl hv),fun i hi hp=>(by
  have hp':x.s.B.pend (i:Int)=true:=hp
  rw [h.nobody hn hi] at hp';cases hp'),h.ph,dD,src,stk,h.nC,h.pK,jg,iP,h.clo.imp (fun hw=>hw) (fun hc a ha hco=>clo a ha hco (hc a ha hco)),bx,stk0,mk0,h.q⟩
theorem BJ {v:Nat} {t:CD} (hv:p.good v) (ht:p.lY t):p.lY (cZ v t):=by
 unfold cZ
 split
 ·exact ht
 ·exact ⟨hv,ht⟩
theorem DU {v a:Nat} {t:CD}:p.ahead a (cZ v t)↔p.ahead a t:=by
 unfold cZ
 split<;>exact Iff.rfl
theorem BK {v:Nat} {t:CD} {ok:Nat->Prop}:p.jR ok (cZ v t)↔p.jR ok t:=by
 unfold cZ
 split<;>exact Iff.rfl
theorem zQ {v:Nat} {t:CD}:p.jw (cZ v t)=p.jw t:=by
 unfold cZ
 split<;>rfl
theorem BL {v:Nat} {t:CD}:p.mQ (cZ v t)=p.mQ t:=by
 unfold cZ
 split<;>rfl
theorem Gt {v:Nat} {t:CD} (h:∀ m u,t ≠ .wait m u):∀ m u,cZ v t ≠ .wait m u:=by
 unfold cZ
 split
 ·exact h
 ·intro m u e;cases e
theorem sD {v:Nat} {t:CD} (h:lZ t=false):lZ (cZ v t)=false:=by
 unfold cZ
 split
 ·exact h
 ·rfl
theorem BM (k:sS p hf) {v:Nat} {t:CD} {co:Nat->Bool}:p.gV co (lookOf (cZ v t)) v:=by
 unfold cZ
 split
 ·rename_i e
  rw [e];exact CP.NG k.bn0
 ·exact fun _ => .inr rfl
theorem BN {v ph:Nat} {t:CD} (hm:uF ph) (hl:Ze t) (hc:∀ i,t = .cell i->ph=4/\i<p.ce) (hb:∀ m,t = .box m->m<p.mu) (hs:p.dD ph t):p.dD ph (cZ v t):=by
 unfold cZ
 split
 ·exact hs
 ·exact ⟨hm,hl,hc,hb⟩
theorem aU {co:Nat->Bool} (hn:lookOf x.coll.next=0) (k:sS p hf) {l v:Nat} (h:p.gV co (lookOf x.coll.next) v):p.gV co l v:=fun hb=>by
 rcases h hb with g|g
 ·exact .inl g
 ·rw [hn] at g
  rw [g,k.bn0] at hb;cases hb
theorem Qv (c:CS) (i:Nat):(∀ m u,c.dZ i ≠ .wait m u)/\lZ (c.dZ i)=false/\p.lY (c.dZ i)/\(∀ ok,p.jR ok (c.dZ i))/\(∀ a,p.ahead a (c.dZ i)↔False)/\p.mQ (c.dZ i)=0/\lookOf (c.dZ i)=0/\Ze (c.dZ i)/\(∀ m,c.dZ i = .box m->m<p.mu)/\c.dZ i ≠ .marked:=by
 unfold CS.dZ
 split<;>exact ⟨(fun m u e=>by cases e),rfl,trivial,(fun _=>trivial),(fun _=>Iff.rfl),rfl,rfl,trivial,(fun m e=>by cases e),(fun e=>by cases e)⟩
theorem NP {c:CS} (hc:c.cells=p.ce) {i:Nat} (hi:i<=p.ce):p.jw (c.dZ i)=i:=by
 unfold CS.dZ
 rw [hc]
 split
 ·rename_i e;exact e.symm
 ·rfl
theorem NQ (a i n:Nat) {t:CD} (ht:Qq t):(∀ m u,cu a i n t ≠ .wait m u)/\lZ (cu a i n t)=false/\p.jw (cu a i n t)=p.ce/\p.mQ (cu a i n t)=0/\lookOf (cu a i n t)=0/\Ze (cu a i n t)/\(∀ j,cu a i n t ≠ .cell j)/\(∀ j,cu a i n t ≠ .box j)/\cu a i n t ≠ .marked:=by
 unfold cu
 split
 ·cases t with
  | work=>exact ⟨(fun m u e=>by cases e),rfl,rfl,rfl,rfl,trivial,(fun m e=>by cases e),(fun m e=>by cases e),(fun e=>by cases e)⟩
  | empty t=>exact ⟨(fun m u e=>by cases e),rfl,rfl,rfl,rfl,ht,(fun m e=>by cases e),(fun m e=>by cases e),(fun e=>by cases e)⟩
  | _=>exact ht.elim
 ·exact ⟨(fun m u e=>by cases e),rfl,rfl,rfl,rfl,ht,(fun m e=>by cases e),(fun m e=>by cases e),(fun e=>by cases e)⟩
theorem Qw {ph:Nat} {t:CD} (hm:uF ph) (ht:Qq t):p.dD ph t:=by
 cases t with
 | work=>exact hm
 | empty t=>exact ⟨hm,ht⟩
 | _=>exact ht.elim
end
def stepW (x:WS) (d:CD):WS:={ x with s:=(aC x.s x.coll d).s,coll:={ (aC x.s x.coll d).c with next:=(aC x.s x.coll d).next } }
section
variable {p:CP} {x y:WS} {s s':Sh} {m m':MS} {i l l' ph sU hf:Nat} {c':CS}
theorem MInv.ask (h:MInv p x) (hn:∀ m t,x.coll.next ≠ .wait m t) {q:Nat} {t:CD} {c:CS} (hc:c.muts=x.coll.muts/\c.blocks=x.coll.blocks/\c.cells=x.coll.cells/\c.color=x.coll.color/\c.stk=x.coll.stk/\c.over=x.coll.over) (hl0:lookOf x.coll.next=0) (k:sS p hf)
 (hq:(x.coll.phase=1/\q=2/\t = .scan)\/(x.coll.phase=2/\q=3/\t = .trace)\/(x.coll.phase=4/\q=5/\t = .work)) (Hu:4<=x.coll.phase->p.jw x.coll.next=p.ce) (hah:∀ a,¬ p.ahead a x.coll.next) :
 MInv p { x with s:=x.s.ask q,coll:={ c with phase:=q,next := .wait 0 t } }:=by
 obtain ⟨e1,e2,e3,e4,e5,e6⟩:=hc
 have hnb:∀ i,i<p.mu->x.s.B.pend (i:Int)=false:=fun i hi=>h.nobody hn hi
 obtain ⟨b1,b2,b3⟩:=h.bd.ask hnb q
 have ni:∀ v,p.gV x.s.H.co (lookOf x.coll.next) v->p.gV x.s.H.co 0 v:=fun v=>aU hl0 k
 have hmu:=h.mu8
 refine ⟨h.k2,h.mu8,h.heap,h.muts,e1.trans h.cmu,h.box,e4.trans h.col,e2.trans h.mg,e3.trans h.nT,b1,fun i m hm=>?_,fun i hi hp=>⟨0,t,rfl,Nat.zero_le _⟩,?_,?_,trivial,fun a ha=>h.stk a (by rw [<- e5];exact ha),h.nC,h.pK,trivial,fun h4 j hj=>?_,?_,fun j hj=>absurd hj (Nat.not_lt_zero _),fun hh=>(by cases hh),fun hh=>(by cases hh),h.q⟩
 ·have hi:=h.pG hm
  have Tt:({ x with s:=x.s.ask q,coll:={ c with phase:=q,next := .wait 0 t } }:WS).s.B.pend (i:Int)=true:=(b2 i).trans (decide_eq_true hi)
  refine (h.dK i m hm).phase (hnb i hi) (fun _=>b3) rfl ni ?_ (fun h3 hx=>?_) (fun h5 hf=>?_)
  ·show _↔q<3\/(q=3/\_)
   rw [Tt]
   rcases hq with ⟨a,b,_⟩|⟨a,b,_⟩|⟨a,b,_⟩<;>rw [a,b]<;>simp
  ·rw [Tt] at hx
   have h3':3<=q:=h3
   have hx':¬ (q=3/\true=true):=hx
   rcases hq with ⟨a,b,_⟩|⟨a,b,_⟩|⟨a,b,_⟩
   ·omega
   ·exact absurd ⟨b,rfl⟩ hx'
   ·omega
  ·rw [Tt] at hf;cases hf
 ·show 1<=q/\q<=5
  omega
 ·show 0<p.mu/\((q=1/\t = .arm)\/(q=2/\t = .scan)\/(q=3/\t = .trace)\/(q=5/\t = .work))
  refine ⟨by omega,?_⟩
  rcases hq with ⟨_,b,c⟩|⟨_,b,c⟩|⟨_,b,c⟩
  ·exact .inr (.inl ⟨b,c⟩)
  ·exact .inr (.inr (.inl ⟨b,c⟩))
  ·exact .inr (.inr (.inr ⟨b,c⟩))
 ·have h4':4<=q:=h4
  have hp4:x.coll.phase=4:=by omega
  exact ni _ (h.iP (by omega) j (by rw [Hu (by omega)];exact hj))
 ·refine h.clo.imp (fun hw=>?_) (fun hc a ha hco=>?_)
  ·rcases hw with hw|hw|hw
   ·exact .inl hw
   ·exact .inr (.inl (by show c.over=true;rw [e6];exact hw))
   ·exact .inr (.inr hw)
  ·rcases hc a ha hco with g|g|g
   ·exact .inl (by show a∈c.stk;rw [e5];exact g)
   ·exact absurd g (hah a)
   ·exact .inr (.inr fun j hj=>ni _ (g j hj))
theorem MInv.phase (h:MInv p x) (hn:∀ m t,x.coll.next ≠ .wait m t) {q:Nat} {d:CD} {c:CS} (hc:c.muts=x.coll.muts/\c.blocks=x.coll.blocks/\c.cells=x.coll.cells/\c.color=x.coll.color/\c.stk=x.coll.stk/\c.over=x.coll.over) (hl0:lookOf x.coll.next=0) (hd0:lookOf d=0) (k:sS p hf) (hd:∀ m t,d ≠ .wait m t)
 (hq:(x.coll.phase=3/\q=4)\/(x.coll.phase=5/\q=4)) (Hu:p.jw d=0\/(4<=x.coll.phase/\p.jw x.coll.next=p.ce/\p.jw d=p.ce)\/p.ce=0) (hcx:p.jw d<=p.ce) (hah:∀ a,¬ p.ahead a x.coll.next) (dD:p.dD q d) (hsrc:p.lY d) (hfl:p.jR (p.gV x.s.H.co 0) d) (hbx:p.mQ d=0) (hla:lZ d=false) :
 MInv p { x with coll:={ c with phase:=q,next:=d } }:=by
 obtain ⟨e1,e2,e3,e4,e5,e6⟩:=hc
 have hnb:∀ i,i<p.mu->x.s.B.pend (i:Int)=false:=fun i hi=>h.nobody hn hi
 have ni:∀ v,p.gV x.s.H.co (lookOf x.coll.next) v->p.gV x.s.H.co (lookOf d) v:=fun v=>aU hl0 k
 refine ⟨h.k2,h.mu8,h.heap,h.muts,e1.trans h.cmu,h.box,e4.trans h.col,e2.trans h.mg,e3.trans h.nT,h.bd,fun i m hm=>?_,fun i hi hp=>?_,?_,dD,hsrc,fun a ha=>h.stk a (by rw [<- e5];exact ha),h.nC,h.pK,?_,fun h4 j hj=>?_,?_,fun j hj=>?_,fun hh=>?_,fun hh=>?_,h.q⟩
 ·have hi:=h.pG hm
  refine (h.dK i m hm).phase (hnb i hi) (fun hp=>?_) rfl ni ?_ (fun h3 hx=>?_) (fun h5 hf=>?_)
  ·rw [hnb i hi] at hp;cases hp
  ·show x.coll.phase<3↔(q<3\/(q=3/\_))
   constructor
   ·intro hh;omega
   ·intro hh;omega
  ·show 3<=x.coll.phase;omega
  ·have:q=5:=h5
   omega
 ·have hp':x.s.B.pend (i:Int)=true:=hp
  rw [hnb i hi] at hp';cases hp'
 ·show 1<=q/\q<=5
  omega
 ·show p.jR (p.gV x.s.H.co (lookOf d)) d
  rw [hd0];exact hfl
 ·have hj':j<p.jw d:=hj
  rcases Hu with g|⟨g1,g2,g3⟩|g
  ·omega
  ·exact ni _ (h.iP g1 j (by omega))
  ·omega
 ·refine h.clo.imp (fun hw=>?_) (fun hc a ha hco=>?_)
  ·rcases hw with hw|hw|hw
   ·exact .inl hw
   ·exact .inr (.inl (by show c.over=true;rw [e6];exact hw))
   ·exact .inr (.inr hw)
  ·rcases hc a ha hco with g|g|g
   ·exact .inl (by show a∈c.stk;rw [e5];exact g)
   ·exact absurd g (hah a)
   ·exact .inr (.inr fun j hj=>ni _ (g j hj))
 ·have hj':j<p.mQ d:=hj
  omega
 ·have hh':lZ d=true:=hh
  rw [hla] at hh';cases hh'
 ·have hh':d = .marked:=hh
  rw [hh'] at hla;cases hla
theorem Tz (k:sS p hf) (h:MInv p x) (v:Nat) (t:CD) (hd:x.coll.next = .look v t):MInv p (stepW x (.look v t)):=by
 have hn:∀ m u,x.coll.next ≠ .wait m u:=fun m u e=>by rw [hd] at e;cases e
 have hk2:=h.k2
 have dD:=h.dD;have src:=h.src;have jg:=h.jg;have iP:=h.iP;have clo:=h.clo;have bx:=h.bx
 rw [hd] at dD src jg iP clo bx
 obtain ⟨hmk,hlk,hc,hb⟩:=dD
 obtain ⟨hgv,hst⟩:=src
 obtain ⟨f,hH⟩:=h.heap
 have hco:x.s.H.co=f:=by rw [hH]
 have hl0:lookOf t=0:=by
  cases t with
  | look _ _=>exact hlk.elim
  | _=>rfl
 have hlw:∀ m u,t ≠ .wait m u:=fun m u e=>by rw [e] at hlk;exact hlk
 have hla:lZ t=false:=by
  cases t with
  | over=>exact hlk.elim
  | marked=>exact hlk.elim
  | _=>rfl
 have hts:p.dD x.coll.phase t:=by
  cases t with
  | cell j=>exact hc j rfl
  | work=>exact hmk
  | box m=>exact ⟨hmk,hb m rfl⟩
  | field _ _ _ _=>exact ⟨hmk,hlk⟩
  | empty _=>exact ⟨hmk,hlk⟩
  | _=>exact hlk.elim
 unfold stepW
 simp only [aC]
 have NK:=Gp (p:=p) (f:=f) v p.κ
 have hat:=fun a=>zL (p:=p) hk2 (f:=f) v a
 have hpi:=vW (p:=p) hk2 (f:=f) v
 have jB:=h.col
 by_cases hp:x.s.H.dX v x.coll.color=true
 ·rw [if_pos hp]
  have hp2:HS.dX { p.H with co:=f } v p.κ=true:=by rw [<- hH,<- jB];exact hp
  have hbv:=(hpi.1 hp2).1
  have hH1:x.s.H.bQ v x.coll.color=HS.bQ { p.H with co:=f } v p.κ:=by rw [hH,jB]
  have hat1:∀ a,(x.s.H.bQ v x.coll.color).co a=if a=v/\p.H.bn v=true then p.kb else x.s.H.co a:=fun a=>by rw [hH1,hat a,hco]
  generalize hHH:x.s.H.bQ v x.coll.color=H' at *
  have hmono:∀ a,p.H.bn a=true->x.s.H.co a=p.kb->H'.co a=p.kb:=fun a ha hc=>by
   rw [hat1 a]
   split
   ·rfl
   ·exact hc
  have ni:∀ u,p.gV x.s.H.co v u->p.gV H'.co (lookOf t) u:=fun u hu hb=>by
   rcases hu hb with g|g
   ·exact .inl (hmono u hb g)
   ·refine .inl ?_
    rw [hat1 u,if_pos ⟨g,by rw [<- g];exact hb⟩]
  have hok':∀ u,p.gV x.s.H.co (lookOf x.coll.next) u->p.gV H'.co (lookOf t) u:=fun u hu=>ni u (by rw [hd] at hu;exact hu)
  have hpush:∃ (st:List Nat) (ov:Bool),({ x.coll with fresh:=true }:CS).push v={ x.coll with fresh:=true,stk:=st,over:=ov }/\(∀ a∈st,a∈x.coll.stk\/a=v)/\(∀ a∈x.coll.stk,a∈st)/\(x.coll.over=true->ov=true)/\(v∈st\/ov=true):=by
   unfold CS.push
   simp only
   split
   ·exact ⟨x.coll.stk,true,rfl,fun a ha => .inl ha,fun a ha=>ha,fun _=>rfl,.inr rfl⟩
   ·refine ⟨x.coll.stk++[v],x.coll.over,rfl,fun a ha=>?_,fun a ha=>List.mem_append_left _ ha,fun ho=>ho,.inl (List.mem_append_right _ (List.mem_singleton.2 rfl))⟩
    rcases List.mem_append.1 ha with g|g
    ·exact .inl g
    ·exact .inr (List.mem_singleton.1 g)
  obtain ⟨st,ov,hpe,s1,s2,s3,s4⟩:=hpush
  rw [hpe]
  refine ⟨h.k2,h.mu8,by rw [hH1];exact NK,h.muts,h.cmu,h.box,h.col,h.mg,h.nT,h.bd,fun i m hm=>?_,fun i hi hq=>?_,h.ph,hts,hst,fun a ha=>?_,h.nC,fun a ha hc=>?_,CP.jl ni _ jg,fun h4 j hj=>ni _ (iP h4 j hj),?_,bx,fun hh=>?_,fun hh=>?_,h.q⟩
  ·exact (h.dK i m hm).coll rfl hok' (fun _ hv => .inl hv)
  ·have hq':x.s.B.pend (i:Int)=true:=hq
   rw [h.nobody hn hi] at hq';cases hq'
  ·rcases s1 a ha with g|g
   ·exact h.stk a g
   ·rw [g];exact hgv hbv
  ·have hc':H'.co a=p.kb:=hc
   rw [hat1 a] at hc'
   split at hc'
   ·rename_i e;rw [e.1];exact hgv hbv
   ·exact h.pK a ha hc'
  ·rcases clo with hw|hc
   ·refine .inl ?_
    rcases hw with hw|hw|hw
    ·exact .inl hw
    ·exact .inr (.inl (s3 hw))
    ·exact .inr (.inr hw)
   ·rcases s4 with g|g
    ·refine .inr fun a ha hca=>?_
     have Yn:H'.co a=p.kb:=hca
     rw [hat1 a] at Yn
     split at Yn
     ·rename_i e;rw [e.1];exact .inl g
     ·rcases hc a ha Yn with q|q|q
      ·exact .inl (s2 a q)
      ·exact .inr (.inl q)
      ·exact .inr (.inr fun j hj=>ni _ (q j hj))
    ·exact .inl (.inr (.inl g))
  ·have hh':lZ t=true:=hh
   rw [hla] at hh';cases hh'
  ·have hh':t = .marked:=hh
   rw [hh'] at hla;cases hla
 ·rw [if_neg hp]
  have ni:∀ u,p.gV x.s.H.co v u->p.gV x.s.H.co (lookOf t) u:=fun u hu hb=>by
   rcases hu hb with g|g
   ·exact .inl g
   ·refine .inl ?_
    rw [<- g] at hp
    by_cases e:x.s.H.co u=p.kb
    ·exact e
    ·exfalso
     apply hp
     rw [hH,jB]
     exact (vW (p:=p) hk2 (f:=f) u).2 ⟨hb,by rw [<- hco];exact e⟩
  refine h.go (d:=t) (st:=x.coll.stk) hn hlw (fun u hu=>ni u (by rw [hd] at hu;exact hu)) hts hst h.stk (CP.jl ni _ jg) (fun h4 j hj=>ni _ (iP h4 j hj)) (fun a ha hc hq=>?_) bx (fun hh=>?_) (fun hh=>?_)
  ·rw [hd] at hq
   rcases hq with q|q|q
   ·exact .inl q
   ·exact .inr (.inl q)
   ·exact .inr (.inr fun j hj=>ni _ (q j hj))
  ·rw [hla] at hh;cases hh
  ·rw [hh] at hla;cases hla
end
section
variable {p:CP} {x y:WS} {s s':Sh} {m m':MS} {i l l' ph sU hf:Nat} {c':CS}
theorem BO {l:List Nat} {b:Nat} (h:b∈l.dropLast):b∈l:=(List.dropLast_sublist l).subset h
theorem yV {mu:Nat} {b:Bd} (h:BI mu b) {i:Nat} (hi:i<mu):b.did i = !b.pend (i:Int):=by
 unfold Bd.did Bd.pend
 have:b.is (i:Int)=true:=by
  unfold Bd.is
  rw [h.muts,decide_eq_true (by omega),decide_eq_true (by omega)];rfl
 rw [this,Bool.true_and,Bool.true_and]
theorem Qx (c:CS) (hc:c.blocks=p.bl) (b:Nat) (hb:b<=p.bl):(∀ m u,c.eF b ≠ .wait m u)/\lZ (c.eF b)=false/\p.lY (c.eF b)/\(∀ ok,p.jR ok (c.eF b))/\(∀ a,p.ahead a (c.eF b)↔∃ B,b<=B/\B<p.bl/\a∈p.H.slots B)/\p.mQ (c.eF b)=0/\p.jw (c.eF b)=p.ce/\lookOf (c.eF b)=0/\BF (c.eF b)/\(∀ ph,uF ph->p.dD ph (c.eF b))/\c.eF b ≠ .marked:=by
 unfold CS.eF
 rw [hc]
 split
 ·rename_i e
  refine ⟨(fun m u e=>by cases e),rfl,trivial,(fun _=>trivial),(fun a=>⟨False.elim,fun ⟨B,h1,h2,_⟩=>?_⟩),rfl,rfl,rfl,trivial,(fun _ h=>h),(fun e=>by cases e)⟩
  omega
 ·exact ⟨(fun m u e=>by cases e),rfl,trivial,(fun _=>trivial),(fun a=>Iff.rfl),rfl,rfl,rfl,trivial,(fun _ h=>⟨h,by omega⟩),(fun e=>by cases e)⟩
theorem TA {t:CD} (h:BF t):(∀ m u,t ≠ .wait m u)/\lZ t=false/\p.mQ t=0/\p.jw t=p.ce/\lookOf t=0/\t ≠ .marked:=by
 cases t with
 | work=>exact ⟨(fun m u e=>by cases e),rfl,rfl,rfl,rfl,(fun e=>by cases e)⟩
 | walk b=>exact ⟨(fun m u e=>by cases e),rfl,rfl,rfl,rfl,(fun e=>by cases e)⟩
 | slots l t=>exact ⟨(fun m u e=>by cases e),rfl,rfl,rfl,rfl,(fun e=>by cases e)⟩
 | _=>exact h.elim
theorem NR {l:List Nat} {t:CD} (h:BF t):BF (dL l t)/\(p.lY t->p.lY (dL l t))/\(∀ ok,p.jR ok t->p.jR ok (dL l t))/\(∀ a,p.ahead a (dL l t)↔a∈l\/p.ahead a t):=by
 unfold dL
 split
 ·rename_i e
  rw [e]
  exact ⟨h,fun h=>h,fun _ h=>h,fun a=>⟨.inr,fun h=>h.resolve_left (fun hh=>by cases hh)⟩⟩
 ·exact ⟨h,fun h=>h,fun _ h=>h,fun a=>Iff.rfl⟩
def CP.ru (p:CP):CD->Prop
 | .walk b=>b<p.bl
 | .slots l t=>l≠[]/\CP.ru p t
 | .empty t=>CP.ru p t
 | .object _ t=>CP.ru p t
 | .field _ _ _ t=>CP.ru p t
 | .look _ t=>CP.ru p t
 | _=>True
theorem NS {ph:Nat} {t:CD} (hm:uF ph) (ht:BF t) (hs:p.ru t):p.dD ph t:=by
 cases t with
 | work=>exact hm
 | walk b=>exact ⟨hm,hs⟩
 | slots l t=>exact ⟨hm,hs.1,ht⟩
 | _=>exact ht.elim
theorem NT {l:List Nat} {t:CD} (h:p.ru t):p.ru (dL l t):=by
 unfold dL
 split
 ·exact h
 ·rename_i e;exact ⟨e,h⟩
theorem Qy (c:CS) (hc:c.blocks=p.bl) (b:Nat) (hb:b<=p.bl):p.ru (c.eF b):=by
 unfold CS.eF
 rw [hc]
 split
 ·trivial
 ·show b<p.bl;omega
theorem NU {a i n:Nat} {t:CD} (h:p.ru t):p.ru (cu a i n t):=by
 unfold cu
 split<;>exact h
theorem H7 {v:Nat} {t:CD} (h:p.ru t):p.ru (cZ v t):=by
 unfold cZ
 split<;>exact h
theorem vX {l:List Nat} {a:Nat} (h:l.getLast?=some a):l=l.dropLast++[a]:=by
 rcases List.eq_nil_or_concat l with e|⟨l',b,e⟩
 ·rw [e] at h;cases h
 ·rw [e] at h ⊢
  simp at h
  rw [h];simp
theorem abM (h:MInv p x) {a:Nat} (hb:x.s.H.bn a=true) (hc:x.s.H.dW a=p.κ):p.gZ a:=by
 obtain ⟨f,hH⟩:=h.heap
 have hco:x.s.H.co=f:=by rw [hH]
 refine h.pK a (by rw [hH] at hb;exact hb) ?_
 rw [hco]
 rw [hH] at hc
 exact (zM h.k2 a).1 (by rw [hc];simp)
theorem vY (k:sS p hf) (h:MInv p x) (hw:p.ru x.coll.next) (d:CD) (hd:x.coll.next=d) (hne:d ≠ .marked):MInv p (stepW x d)/\p.ru (stepW x d).coll.next/\(aC x.s x.coll d).ev=none:=by
 have hk2:=h.k2
 have hmu:=h.mu8
 have dD:=h.dD;have src:=h.src;have jg:=h.jg;have iP:=h.iP;have clo:=h.clo;have bx:=h.bx
 rw [hd] at dD src jg iP clo bx hw
 obtain ⟨f,hH⟩:=h.heap
 have hco:x.s.H.co=f:=by rw [hH]
 have hfp:∀ a,x.s.H.aV a=p.H.aV a:=fun a=>by rw [hH];rfl
 have hld:∀ a j,x.s.H.bY a j=p.H.bY a j:=fun a j=>by rw [hH];rfl
 have hcp:∀ j,x.s.H.cellP j=p.H.cellP j:=fun j=>by rw [hH];rfl
 have hsl:∀ b,x.s.H.slots b=p.H.slots b:=fun b=>by rw [hH];rfl
 have hbn:x.s.H.bn=p.H.bn:=by rw [hH]
 have nw:∀ {d':CD},(∀ m u,d ≠ .wait m u)->∀ m u,x.coll.next ≠ .wait m u:=fun hx m u=>by rw [hd];exact hx m u
 cases d with
 | look v t=>exact ⟨Tz k h v t hd,(by unfold stepW;simp only [aC];split<;>exact hw),(by simp only [aC];split<;>rfl)⟩
 | wait mm t =>
   obtain ⟨hm,ht⟩:=dD
   have hlt:lookOf t=0/\p.lY t/\(∀ ok,p.jR ok t)/\p.mQ t=0/\p.jw t=p.ce/\lZ t=false/\(∀ a,¬ p.ahead a t)/\p.ru t/\(∀ m u,t ≠ .wait m u):=by
    rcases ht with ⟨_,e⟩|⟨_,e⟩|⟨_,e⟩|⟨_,e⟩<;>rw [e]<;>exact ⟨rfl,trivial,(fun _=>trivial),rfl,rfl,rfl,(fun _ h=>h),trivial,(fun m u e=>by cases e)⟩
   obtain ⟨t1,t2,t3,t4,t5,t6,t7,t8,t9⟩:=hlt
   have wY:=yV h.bd hm
   unfold stepW
   simp only [aC]
   have hl0:lookOf x.coll.next=0:=by rw [hd];rfl
   have key:∀ d':CD,(∀ i,i<p.mu->x.s.B.pend (i:Int)=true->∃ m t,d' = .wait m t/\m<=i)->p.dD x.coll.phase d'->lookOf d'=0->p.lY d'->(∀ ok,p.jR ok d')->p.mQ d'=0->p.jw d'=p.ce->lZ d'=false->(∀ a,¬ p.ahead a d')->MInv p { x with coll:={ x.coll with next:=d' } }:=fun d' g1 g2 g3 g4 g5 g6 g7 g8 g9=>by
    refine ⟨h.k2,h.mu8,h.heap,h.muts,h.cmu,h.box,h.col,h.mg,h.nT,h.bd,fun i m hm=>?_,g1,h.ph,g2,g4,h.stk,h.nC,h.pK,g5 _,fun h4 j hj=>?_,?_,fun j hj=>?_,fun hh=>?_,fun hh=>?_,h.q⟩
    ·exact (h.dK i m hm).coll rfl (fun v hv=>aU hl0 k hv) (fun _ hv => .inl hv)
    ·have hj':j<p.jw d':=hj
     rw [g7] at hj'
     exact aU (x:=x) hl0 k (by rw [hd];exact iP h4 j hj')
    ·refine h.clo.imp (fun hw=>hw) (fun hc a ha hco=>?_)
     rcases hc a ha hco with g|g|g
     ·exact .inl g
     ·rw [hd] at g;exact g.elim
     ·exact .inr (.inr fun j hj=>aU hl0 k (g j hj))
    ·have hj':j<p.mQ d':=hj
     omega
    ·have hh':lZ d'=true:=hh
     rw [g8] at hh';cases hh'
    ·have hh':d' = .marked:=hh
     rw [hh'] at g8;cases g8
   have hwt:∀ i,i<p.mu->x.s.B.pend (i:Int)=true->mm<=i:=fun i hi hp=>by
    obtain ⟨m',t',e,hle⟩:=h.wt i hi hp
    rw [hd] at e;cases e;exact hle
   by_cases hp:x.s.B.pend (mm:Int)=true
   ·rw [wY,hp,if_pos (by decide)]
    refine ⟨key (.wait mm t) (fun i hi hp=>⟨mm,t,rfl,hwt i hi hp⟩) ⟨hm,ht⟩ rfl trivial (fun _=>trivial) rfl rfl rfl (fun _ h=>h),trivial,?_⟩
    trivial
   ·have hp0:x.s.B.pend (mm:Int)=false:=by simpa using hp
    rw [wY,hp0,if_neg (by decide)]
    have hcm:=h.cmu
    have hwt2:∀ i,i<p.mu->x.s.B.pend (i:Int)=true->mm+1<=i:=fun i hi hq=>by
     have:=hwt i hi hq
     rcases Nat.lt_or_ge mm i with g|g
     ·exact g
     ·have:i=mm:=by omega
      subst this
      rw [hp0] at hq;cases hq
    by_cases hl:mm+1<x.coll.muts
    ·rw [if_pos hl]
     exact ⟨key (.wait (mm+1) t) (fun i hi hp=>⟨mm+1,t,rfl,hwt2 i hi hp⟩) ⟨by omega,ht⟩ rfl trivial (fun _=>trivial) rfl rfl rfl (fun _ h=>h),trivial,trivial⟩
    ·rw [if_neg hl]
     refine ⟨key t (fun i hi hp=>?_) ?_ t1 t2 t3 t4 t5 t6 t7,t8,trivial⟩
     ·have:=hwt2 i hi hp;omega
     ·rcases ht with ⟨a,e⟩|⟨a,e⟩|⟨a,e⟩|⟨a,e⟩<;>rw [e]
      ·exact a
      ·exact a
      ·exact a
      ·exact .inr a
 | arm =>
   have mV:x.coll.phase=1:=dD
   refine ⟨h.ask (c:=x.coll) (by rw [hd];intro m u e;cases e) ⟨rfl,rfl,rfl,rfl,rfl,rfl⟩ (by rw [hd];rfl) k (.inl ⟨mV,rfl,rfl⟩) (fun h4=>by omega) (fun a ha=>by rw [hd] at ha;exact ha),trivial,rfl⟩
 | scan =>
   have mV:x.coll.phase=2:=dD
   refine ⟨h.ask (c:=x.coll) (by rw [hd];intro m u e;cases e) ⟨rfl,rfl,rfl,rfl,rfl,rfl⟩ (by rw [hd];rfl) k (.inr (.inl ⟨mV,rfl,rfl⟩)) (fun h4=>by omega) (fun a ha=>by rw [hd] at ha;exact ha),trivial,rfl⟩
 | drain =>
   have mV:x.coll.phase=4:=dD
   refine ⟨h.ask (c:={ x.coll with fresh:=false,drains:=x.coll.drains+1 }) (by rw [hd];intro m u e;cases e) ⟨rfl,rfl,rfl,rfl,rfl,rfl⟩ (by rw [hd];rfl) k (.inr (.inr ⟨mV,rfl,rfl⟩)) (fun _=>by rw [hd];rfl) (fun a ha=>by rw [hd] at ha;exact ha),trivial,rfl⟩
 | trace =>
   have mV:x.coll.phase=3:=dD
   obtain ⟨w1,w2,w3,w4,w5,w6,w7,w8,w9,w10⟩:=Qv (p:=p) { x.coll with phase:=4 } 0
   have hix:=NP (p:=p) (c:={ x.coll with phase:=4 }) h.nT (Nat.zero_le _)
   refine ⟨h.phase (c:=x.coll) (d:=CS.dZ { x.coll with phase:=4 } 0) (by rw [hd];intro m u e;cases e) ⟨rfl,rfl,rfl,rfl,rfl,rfl⟩ (by rw [hd];rfl) w7 k w1 (.inl ⟨mV,rfl⟩) (.inl hix) (by rw [hix];exact Nat.zero_le _) (fun a ha=>by rw [hd] at ha;exact ha) ?_ w3 (w4 _) w6 w2,?_,rfl⟩
   ·unfold CS.dZ
    split
    ·exact .inl rfl
    ·rename_i e
     refine ⟨rfl,?_⟩
     have hce:x.coll.cells=p.ce:=h.nT
     have e':¬ 0=x.coll.cells:=e
     omega
   ·show p.ru (CS.dZ { x.coll with phase:=4 } 0)
    unfold CS.dZ
    split<;>trivial
 | cell ii =>
   obtain ⟨mV,hi⟩:=dD
   have hnw:∀ m u,x.coll.next ≠ .wait m u:=by rw [hd];intro m u e;cases e
   have hl0:lookOf x.coll.next=0:=by rw [hd];rfl
   obtain ⟨w1,w2,w3,w4,w5,w6,w7,w8,w9,w10⟩:=Qv (p:=p) x.coll (ii+1)
   have hix:=NP (p:=p) (c:=x.coll) h.nT (i:=ii+1) (by omega)
   have hts:p.dD x.coll.phase (x.coll.dZ (ii+1))/\∀ i,x.coll.dZ (ii+1) = .cell i->x.coll.phase=4/\i<p.ce:=by
    have hce:=h.nT
    unfold CS.dZ
    split
    ·exact ⟨.inl mV,fun i e=>by cases e⟩
    ·rename_i e
     exact ⟨⟨mV,by omega⟩,fun i e'=>by cases e';exact ⟨mV,by omega⟩⟩
   have hgood:p.good (x.s.H.cellP (ii:Int)):=fun hb=>by rw [hcp] at hb ⊢;exact .root (.inl ⟨ii,hi,rfl⟩) hb
   refine ⟨h.go (d:=cZ (x.s.H.cellP (ii:Int)) (x.coll.dZ (ii+1))) (st:=x.coll.stk) hnw (Gt w1) (fun v hv=>aU hl0 k hv) (BN (.inl mV) w8 hts.2 w9 hts.1) (BJ hgood w3) h.stk (BK.2 (w4 _)) (fun h4 j hj=>?_) (fun a ha hc hq=>?_) (fun j hj=>?_) (fun hh=>?_) (fun hh=>?_),?_,rfl⟩
   ·rw [zQ,hix] at hj
    by_cases e:j=ii
    ·subst e
     rw [<- hcp]
     exact BM k
    ·exact aU hl0 k (by rw [hd];exact iP h4 j (by show j<ii;omega))
   ·rw [hd] at hq
    rcases hq with q|q|q
    ·exact .inl q
    ·exact q.elim
    ·exact .inr (.inr fun j hj=>aU hl0 k (by rw [hd];exact q j hj))
   ·rw [BL,w6] at hj;exact absurd hj (Nat.not_lt_zero _)
   ·rw [sD w2] at hh;cases hh
   ·have:=sD (v:=x.s.H.cellP (ii:Int)) w2
    rw [hh] at this;cases this
   ·refine H7 ?_
    unfold CS.dZ
    split<;>trivial
 | work =>
   have hnw:∀ m u,x.coll.next ≠ .wait m u:=by rw [hd];intro m u e;cases e
   have hl0:lookOf x.coll.next=0:=by rw [hd];rfl
   have hmk:uF x.coll.phase:=dD
   unfold stepW
   simp only [aC]
   cases hs:x.coll.stk.getLast? with
   | some a =>
     have hsp:=vX hs
     have hra:p.gZ a:=h.stk a (by rw [hsp];exact List.mem_append_right _ (List.mem_singleton.2 rfl))
     refine ⟨h.go (d := .object a .work) (st:=x.coll.stk.dropLast) hnw (fun m u e=>by cases e) (fun v hv=>aU hl0 k hv) ⟨hmk,trivial⟩ ⟨hra,trivial⟩ (fun b hb=>h.stk b (BO hb)) trivial (fun h4 j hj=>aU hl0 k (by rw [hd];exact iP h4 j hj)) (fun b hb hc hq=>?_) (fun j hj=>absurd hj (Nat.not_lt_zero _)) (fun hh=>by cases hh) (fun hh=>by cases hh),trivial,rfl⟩
     rw [hd] at hq
     rcases hq with q|q|q
     ·rw [hsp] at q
      rcases List.mem_append.1 q with q|q
      ·exact .inl q
      ·exact .inr (.inl (.inl (List.mem_singleton.1 q)))
     ·exact q.elim
     ·exact .inr (.inr fun j hj=>aU hl0 k (by rw [hd];exact q j hj))
   | none =>
     refine ⟨h.go (d := .box 0) (st:=x.coll.stk) hnw (fun m u e=>by cases e) (fun v hv=>aU hl0 k hv) ⟨hmk,by omega⟩ trivial h.stk trivial (fun h4 j hj=>aU hl0 k (by rw [hd];exact iP h4 j hj)) (fun b hb hc hq=>?_) (fun j hj=>absurd hj (Nat.not_lt_zero _)) (fun hh=>by cases hh) (fun hh=>by cases hh),trivial,rfl⟩
     rw [hd] at hq
     rcases hq with q|q|q
     ·exact .inl q
     ·exact q.elim
     ·exact .inr (.inr fun j hj=>aU hl0 k (by rw [hd];exact q j hj))
 | empty t =>
   obtain ⟨hmk,htw⟩:=dD
   have hnw:∀ m u,x.coll.next ≠ .wait m u:=by rw [hd];intro m u e;cases e
   have hl0:lookOf x.coll.next=0:=by rw [hd];rfl
   obtain ⟨t1,t2,t3,t4,t5,t6⟩:=TA (p:=p) htw
   unfold stepW
   simp only [aC]
   cases hs:x.coll.stk.getLast? with
   | some a =>
     have hsp:=vX hs
     have hra:p.gZ a:=h.stk a (by rw [hsp];exact List.mem_append_right _ (List.mem_singleton.2 rfl))
     refine ⟨h.go (d := .object a (.empty t)) (st:=x.coll.stk.dropLast) hnw (fun m u e=>by cases e) (fun v hv=>aU hl0 k hv) ⟨hmk,htw⟩ ⟨hra,src⟩ (fun b hb=>h.stk b (BO hb)) (CP.jl (fun v hv=>hv) _ jg) (fun h4 j hj=>aU hl0 k (by rw [hd];exact iP h4 j hj)) (fun b hb hc hq=>?_) (fun j hj=>absurd hj (Nat.not_lt_zero _)) (fun hh=>by cases hh) (fun hh=>by cases hh),hw,rfl⟩
     rw [hd] at hq
     rcases hq with q|q|q
     ·rw [hsp] at q
      rcases List.mem_append.1 q with q|q
      ·exact .inl q
      ·exact .inr (.inl (.inl (List.mem_singleton.1 q)))
     ·exact .inr (.inl (.inr q))
     ·exact .inr (.inr fun j hj=>aU hl0 k (by rw [hd];exact q j hj))
   | none =>
     refine ⟨h.go (d:=t) (st:=x.coll.stk) hnw t1 (fun v hv=>aU hl0 k hv) (NS hmk htw hw) src h.stk (CP.jl (fun v hv=>aU hl0 k (by rw [hd];exact hv)) _ jg) (fun h4 j hj=>?_) (fun b hb hc hq=>?_) (fun j hj=>?_) (fun hh=>?_) (fun hh=>absurd hh t6),hw,rfl⟩
     ·rw [t4] at hj
      exact aU hl0 k (by rw [hd];exact iP h4 j hj)
     ·rw [hd] at hq
      rcases hq with q|q|q
      ·exact .inl q
      ·exact .inr (.inl q)
      ·exact .inr (.inr fun j hj=>aU hl0 k (by rw [hd];exact q j hj))
     ·rw [t3] at hj;exact absurd hj (Nat.not_lt_zero _)
     ·rw [t2] at hh;cases hh
 | object a t =>
   obtain ⟨hmk,hto⟩:=dD
   obtain ⟨hra,hst⟩:=src
   have hnw:∀ m u,x.coll.next ≠ .wait m u:=by rw [hd];intro m u e;cases e
   have hl0:lookOf x.coll.next=0:=by rw [hd];rfl
   obtain ⟨w1,w2,w3,w4,w5,w6,w7,w8,w9⟩:=NQ (p:=p) a 0 (x.s.H.aV a).1 hto
   have hfl:p.jR (p.gV x.s.H.co 0) (cu a 0 (x.s.H.aV a).1 t):=by
    unfold cu
    split
    ·exact jg
    ·rename_i e
     refine ⟨⟨by rw [hfp],by omega,fun j hj=>absurd hj (Nat.not_lt_zero _)⟩,jg⟩
   have hah:∀ b,(b=a/\0<(p.H.aV a).1)\/p.ahead b t->p.ahead b (cu a 0 (x.s.H.aV a).1 t):=fun b hb=>by
    unfold cu
    rw [hfp]
    split
    ·rename_i e
     rcases hb with ⟨_,h2⟩|h2
     ·omega
     ·exact h2
    ·rcases hb with ⟨h1,_⟩|h2
     ·exact .inl h1
     ·exact .inr h2
   have hsc:p.lY (cu a 0 (x.s.H.aV a).1 t):=by
    unfold cu
    split
    ·exact hst
    ·exact ⟨hra,hst⟩
   have hsh:p.dD x.coll.phase (cu a 0 (x.s.H.aV a).1 t):=by
    unfold cu
    split
    ·exact Qw hmk hto
    ·exact ⟨hmk,hto⟩
   refine ⟨h.go (d:=cu a 0 (x.s.H.aV a).1 t) (st:=x.coll.stk) hnw w1 (fun v hv=>aU hl0 k hv) hsh hsc h.stk (by rw [w5];exact hfl) (fun h4 j hj=>?_) (fun b hb hc hq=>?_) (fun j hj=>?_) (fun hh=>?_) (fun hh=>absurd hh w9),NU hw,rfl⟩
   ·rw [w3] at hj
    exact aU hl0 k (by rw [hd];exact iP h4 j hj)
   ·rw [hd] at hq
    rcases hq with q|q|q
    ·exact .inl q
    ·rcases q with q|q
     ·by_cases h0:0<(p.H.aV a).1
      ·exact .inr (.inl (hah b (.inl ⟨q,h0⟩)))
      ·refine .inr (.inr fun j hj=>?_)
       rw [q] at hj;omega
     ·exact .inr (.inl (hah b (.inr q)))
    ·exact .inr (.inr fun j hj=>aU hl0 k (by rw [hd];exact q j hj))
   ·rw [w4] at hj;exact absurd hj (Nat.not_lt_zero _)
   ·rw [w2] at hh;cases hh
 | field a ii n t =>
   obtain ⟨hmk,hto⟩:=dD
   obtain ⟨hra,hst⟩:=src
   obtain ⟨⟨hn1,hn2,hn3⟩,hft⟩:=jg
   have hnw:∀ m u,x.coll.next ≠ .wait m u:=by rw [hd];intro m u e;cases e
   have hl0:lookOf x.coll.next=0:=by rw [hd];rfl
   obtain ⟨w1,w2,w3,w4,w5,w6,w7,w8,w9⟩:=NQ (p:=p) a (ii+1) n hto
   have hgood:p.good (x.s.H.bY a (ii:Int)):=fun hb=>by rw [hld] at hb ⊢;exact .jg hra (by omega) hb
   have abN:∀ j:Nat,j<ii+1->p.gV x.s.H.co (lookOf (cZ (x.s.H.bY a (ii:Int)) (cu a (ii+1) n t))) (p.H.bY a (j:Int)):=fun j hj=>by
    by_cases e:j=ii
    ·subst e
     rw [<- hld]
     exact BM k
    ·exact aU hl0 k (by rw [hd];exact hn3 j (by omega))
   have hfl:p.jR (p.gV x.s.H.co (lookOf (cZ (x.s.H.bY a (ii:Int)) (cu a (ii+1) n t)))) (cu a (ii+1) n t):=by
    have hmono:=CP.jl (p:=p) (ok:=p.gV x.s.H.co (lookOf (CD.field a ii n t))) (ok':=p.gV x.s.H.co (lookOf (cZ (x.s.H.bY a (ii:Int)) (cu a (ii+1) n t)))) (fun v hv=>aU hl0 k (by rw [hd];exact hv)) t hft
    generalize lookOf (cZ (x.s.H.bY a (ii:Int)) (cu a (ii+1) n t))=q at *
    unfold cu
    split
    ·exact hmono
    ·rename_i e
     exact ⟨⟨hn1,by omega,abN⟩,hmono⟩
   have hah:∀ b,(b=a/\ii+1<n)\/p.ahead b t->p.ahead b (cu a (ii+1) n t):=fun b hb=>by
    unfold cu
    split
    ·rename_i e
     rcases hb with ⟨_,h2⟩|h2
     ·omega
     ·exact h2
    ·rcases hb with ⟨h1,_⟩|h2
     ·exact .inl h1
     ·exact .inr h2
   have hsc:p.lY (cu a (ii+1) n t):=by
    unfold cu
    split
    ·exact hst
    ·exact ⟨hra,hst⟩
   have hsh:p.dD x.coll.phase (cu a (ii+1) n t):=by
    unfold cu
    split
    ·exact Qw hmk hto
    ·exact ⟨hmk,hto⟩
   refine ⟨h.go (d:=cZ (x.s.H.bY a (ii:Int)) (cu a (ii+1) n t)) (st:=x.coll.stk) hnw (Gt w1) (fun v hv=>aU hl0 k hv) (BN hmk w6 (fun i e=>absurd e (w7 i)) (fun i e=>absurd e (w8 i)) hsh) (BJ hgood hsc) h.stk (BK.2 hfl) (fun h4 j hj=>?_) (fun b hb hc hq=>?_) (fun j hj=>?_) (fun hh=>?_) (fun hh=>?_),H7 (NU hw),rfl⟩
   ·rw [zQ,w3] at hj
    exact aU hl0 k (by rw [hd];exact iP h4 j hj)
   ·rw [hd] at hq
    rcases hq with q|q|q
    ·exact .inl q
    ·rcases q with q|q
     ·by_cases h0:ii+1<n
      ·exact .inr (.inl (DU.2 (hah b (.inl ⟨q,h0⟩))))
      ·refine .inr (.inr fun j hj=>?_)
       rw [q] at hj ⊢
       exact abN j (by omega)
     ·exact .inr (.inl (DU.2 (hah b (.inr q))))
    ·exact .inr (.inr fun j hj=>aU hl0 k (by rw [hd];exact q j hj))
   ·rw [BL,w4] at hj;exact absurd hj (Nat.not_lt_zero _)
   ·rw [sD w2] at hh;cases hh
   ·have:=sD (v:=x.s.H.bY a (ii:Int)) w2
    rw [hh] at this;cases this
 | walk b =>
   obtain ⟨hmk,hb⟩:=dD
   have hnw:∀ m u,x.coll.next ≠ .wait m u:=by rw [hd];intro m u e;cases e
   have hl0:lookOf x.coll.next=0:=by rw [hd];rfl
   obtain ⟨v1,v2,v3,v4,v5,v6,v7,v8,v9,v10,v11⟩:=Qx (p:=p) x.coll h.mg (b+1) (by omega)
   obtain ⟨s1,s2,s3,s4⟩:=NR (p:=p) (l:=x.s.H.slots b) v9
   obtain ⟨t1,t2,t3,t4,t5,t6⟩:=TA (p:=p) s1
   have hS:=NT (p:=p) (l:=x.s.H.slots b) (Qy (p:=p) x.coll h.mg (b+1) (by omega))
   refine ⟨h.go (d:=dL (x.s.H.slots b) (x.coll.eF (b+1))) (st:=x.coll.stk) hnw t1 (fun v hv=>aU hl0 k hv) (NS hmk s1 hS) (s2 v3) h.stk (s3 _ (v4 _)) (fun h4 j hj=>?_) (fun a ha hc hq=>?_) (fun j hj=>?_) (fun hh=>?_) (fun hh=>absurd hh t6),hS,rfl⟩
   ·rw [t4] at hj
    exact aU hl0 k (by rw [hd];exact iP h4 j hj)
   ·rw [hd] at hq
    rcases hq with q|q|q
    ·exact .inl q
    ·obtain ⟨B,g1,g2,g3⟩:=q
     refine .inr (.inl ((s4 a).2 ?_))
     by_cases e:B=b
     ·subst e
      exact .inl (by rw [hsl];exact g3)
     ·exact .inr ((v5 a).2 ⟨B,by omega,g2,g3⟩)
    ·exact .inr (.inr fun j hj=>aU hl0 k (by rw [hd];exact q j hj))
   ·rw [t3] at hj;exact absurd hj (Nat.not_lt_zero _)
   ·rw [t2] at hh;cases hh
 | slots ll t =>
   obtain ⟨hmk,hle,htw⟩:=dD
   obtain ⟨_,hws⟩:=hw
   have hnw:∀ m u,x.coll.next ≠ .wait m u:=by rw [hd];intro m u e;cases e
   have hl0:lookOf x.coll.next=0:=by rw [hd];rfl
   obtain ⟨s1,s2,s3,s4⟩:=NR (p:=p) (l:=ll.tail) htw
   have hS:=NT (p:=p) (l:=ll.tail) hws
   have hsplit:∀ b,b∈ll->b=aW ll\/b∈ll.tail:=fun b hb=>by
    cases ll with
    | nil=>cases hb
    | cons a r=>exact List.mem_cons.1 hb
   have hfm:∀ l2,p.jR (p.gV x.s.H.co l2) t:=fun l2=>CP.jl (p:=p) (ok:=p.gV x.s.H.co (lookOf (CD.slots ll t))) (fun v hv=>aU hl0 k (by rw [hd];exact hv)) t jg
   unfold stepW
   simp only [aC]
   by_cases hc:(!x.s.H.bn (aW ll)||x.s.H.dW (aW ll) != x.coll.color)=true
   ·rw [if_pos hc]
    obtain ⟨t1,t2,t3,t4,t5,t6⟩:=TA (p:=p) s1
    refine ⟨h.go (d:=dL ll.tail t) (st:=x.coll.stk) hnw t1 (fun v hv=>aU hl0 k hv) (NS hmk s1 hS) (s2 src) h.stk (s3 _ (hfm _)) (fun h4 j hj=>?_) (fun a ha hca hq=>?_) (fun j hj=>?_) (fun hh=>?_) (fun hh=>absurd hh t6),hS,trivial⟩
    ·rw [t4] at hj
     exact aU hl0 k (by rw [hd];exact iP h4 j hj)
    ·rw [hd] at hq
     rcases hq with q|q|q
     ·exact .inl q
     ·rcases q with q|q
      ·rcases hsplit a q with e|e
       ·exfalso
        rw [<- e,hbn,ha,h.col,hH] at hc
        have:=(zM (p:=p) hk2 (f:=f) a).2 (by rw [<- hco];exact hca)
        rw [Bool.not_true,Bool.false_or,bne,this] at hc
        cases hc
       ·exact .inr (.inl ((s4 a).2 (.inl e)))
      ·exact .inr (.inl ((s4 a).2 (.inr q)))
     ·exact .inr (.inr fun j hj=>aU hl0 k (by rw [hd];exact q j hj))
    ·rw [t3] at hj;exact absurd hj (Nat.not_lt_zero _)
    ·rw [t2] at hh;cases hh
   ·rw [if_neg hc]
    have hc':x.s.H.bn (aW ll)=true/\x.s.H.dW (aW ll)=p.κ:=by
     rw [<- h.col]
     simp at hc
     exact hc
    have hra:=abM h hc'.1 hc'.2
    refine ⟨h.go (d := .object (aW ll) (.empty (dL ll.tail t))) (st:=x.coll.stk) hnw (fun m u e=>by cases e) (fun v hv=>aU hl0 k hv) ⟨hmk,s1⟩ ⟨hra,s2 src⟩ h.stk (s3 _ (hfm _)) (fun h4 j hj=>aU hl0 k (by rw [hd];exact iP h4 j hj)) (fun a ha hca hq=>?_) (fun j hj=>absurd hj (Nat.not_lt_zero _)) (fun hh=>by cases hh) (fun hh=>by cases hh),hS,trivial⟩
    rw [hd] at hq
    rcases hq with q|q|q
    ·exact .inl q
    ·rcases q with q|q
     ·rcases hsplit a q with e|e
      ·exact .inr (.inl (.inl e))
      ·exact .inr (.inl (.inr ((s4 a).2 (.inl e))))
     ·exact .inr (.inl (.inr ((s4 a).2 (.inr q))))
    ·exact .inr (.inr fun j hj=>aU hl0 k (by rw [hd];exact q j hj))
 | box mm =>
   obtain ⟨hmk,hm⟩:=dD
   have hnw:∀ m u,x.coll.next ≠ .wait m u:=by rw [hd];intro m u e;cases e
   have hl0:lookOf x.coll.next=0:=by rw [hd];rfl
   unfold stepW
   simp only [aC]
   cases hbx:x.s.box mm with
   | cons a r =>
     have hib:mm<x.s.boxes.length:=by rw [h.box];exact hm
     have hbi:∀ j,({ x.s with boxes:=x.s.boxes.set mm r }:Sh).box j=if j=mm then r else x.s.box j:=fun j=>by
      show (x.s.boxes.set mm r).getD j []=_
      rw [List.getD_eq_getElem?_getD]
      by_cases e:j=mm
      ·subst e
       rw [List.getElem?_set_self hib,if_pos rfl];rfl
      ·rw [List.getElem?_set_ne (fun e'=>e e'.symm),<- List.getD_eq_getElem?_getD,if_neg e];rfl
     have hga:p.good a:=h.nC mm a (by rw [hbx];exact List.mem_cons_self)
     have hla:lZ (cZ a (.box mm))=false:=sD rfl
     refine ⟨⟨h.k2,h.mu8,h.heap,h.muts,h.cmu,by show (x.s.boxes.set mm r).length=_;rw [List.length_set];exact h.box,h.col,h.mg,h.nT,h.bd,fun i m hm'=>?_,fun i hi hp=>?_,h.ph,?_,BJ hga trivial,h.stk,fun i v hv=>?_,h.pK,BK.2 trivial,fun h4 j hj=>?_,?_,fun j hj=>?_,fun hh=>?_,fun hh=>?_,h.q⟩,H7 trivial,rfl⟩
     ·refine (h.dK i m hm').coll rfl (fun v hv=>aU hl0 k hv) (fun v hv=>?_)
      rw [hbi i]
      by_cases e:i=mm
      ·subst e
       rw [if_pos rfl]
       rw [hbx] at hv
       rcases List.mem_cons.1 hv with e|e
       ·exact .inr (by rw [e];exact BM k)
       ·exact .inl e
      ·rw [if_neg e];exact .inl hv
     ·have hp':x.s.B.pend (i:Int)=true:=hp
      rw [h.nobody hnw hi] at hp';cases hp'
     ·exact BN hmk trivial (fun i e=>by cases e) (fun m e=>by cases e;exact hm) ⟨hmk,hm⟩
     ·have hv':v∈({ x.s with boxes:=x.s.boxes.set mm r }:Sh).box i:=hv
      rw [hbi i] at hv'
      split at hv'
      ·exact h.nC mm v (by rw [hbx];exact List.mem_cons_of_mem _ hv')
      ·exact h.nC i v hv'
     ·have hj':j<p.jw (cZ a (.box mm)):=hj
      rw [zQ] at hj'
      exact aU hl0 k (by rw [hd];exact iP h4 j hj')
     ·refine clo.imp (fun hw=>hw) (fun hc b hb hcb=>?_)
      rcases hc b hb hcb with q|q|q
      ·exact .inl q
      ·exact q.elim
      ·exact .inr (.inr fun j hj=>aU hl0 k (by rw [hd];exact q j hj))
     ·have hj':j<p.mQ (cZ a (.box mm)):=hj
      rw [BL] at hj'
      have hj2:j<mm:=hj'
      show ({ x.s with boxes:=x.s.boxes.set mm r }:Sh).box j=[]
      rw [hbi j,if_neg (by omega)]
      exact bx j hj2
     ·have hh':lZ (cZ a (.box mm))=true:=hh
      rw [hla] at hh';cases hh'
     ·have hh':cZ a (.box mm) = .marked:=hh
      rw [hh'] at hla;cases hla
   | nil =>
     have hcm:=h.cmu
     have H8:∀ (d':CD) (b:Nat),(b∈x.coll.stk\/p.ahead b x.coll.next\/∀ j:Nat,j<(p.H.aV b).1->p.gV x.s.H.co (lookOf x.coll.next) (p.H.bY b (j:Int)))->b∈x.coll.stk\/p.ahead b d'\/∀ j:Nat,j<(p.H.aV b).1->p.gV x.s.H.co (lookOf d') (p.H.bY b (j:Int)):=fun d' b hq=>by
      rcases hq with q|q|q
      ·exact .inl q
      ·rw [hd] at q;exact q.elim
      ·exact .inr (.inr fun j hj=>aU hl0 k (q j hj))
     have hbb:∀ j,j<mm+1->x.s.box j=[]:=fun j hj=>by
      by_cases e:j=mm
      ·rw [e];exact hbx
      ·exact bx j (by show j<mm;omega)
     by_cases hl:mm+1<x.coll.muts
     ·rw [if_pos hl]
      exact ⟨h.go (d := .box (mm+1)) (st:=x.coll.stk) hnw (fun m u e=>by cases e) (fun v hv=>aU hl0 k hv) ⟨hmk,by omega⟩ trivial h.stk trivial (fun h4 j hj=>aU hl0 k (by rw [hd];exact iP h4 j hj)) (fun b hb hc hq=>H8 _ b hq) (fun j hj=>hbb j hj) (fun hh=>by cases hh) (fun hh=>by cases hh),trivial,rfl⟩
     ·rw [if_neg hl]
      by_cases hs:x.coll.stk=[]
      ·rw [if_pos hs]
       exact ⟨h.go (d := .over) (st:=x.coll.stk) hnw (fun m u e=>by cases e) (fun v hv=>aU hl0 k hv) hmk trivial h.stk trivial (fun h4 j hj=>aU hl0 k (by rw [hd];exact iP h4 j hj)) (fun b hb hc hq=>H8 _ b hq) (fun j hj=>hbb j (by have hj':j<p.mu:=hj;omega)) (fun _=>hs) (fun hh=>by cases hh),trivial,rfl⟩
      ·rw [if_neg hs]
       exact ⟨h.go (d := .work) (st:=x.coll.stk) hnw (fun m u e=>by cases e) (fun v hv=>aU hl0 k hv) hmk trivial h.stk trivial (fun h4 j hj=>aU hl0 k (by rw [hd];exact iP h4 j hj)) (fun b hb hc hq=>H8 _ b hq) (fun j hj=>absurd hj (Nat.not_lt_zero _)) (fun hh=>by cases hh) (fun hh=>by cases hh),trivial,rfl⟩
 | over =>
   have hmk:uF x.coll.phase:=dD
   have hnw:∀ m u,x.coll.next ≠ .wait m u:=by rw [hd];intro m u e;cases e
   have hl0:lookOf x.coll.next=0:=by rw [hd];rfl
   have adG:=h.stk0 (by rw [hd];rfl)
   have H8:∀ (d':CD) (b:Nat),(b∈x.coll.stk\/p.ahead b x.coll.next\/∀ j:Nat,j<(p.H.aV b).1->p.gV x.s.H.co (lookOf x.coll.next) (p.H.bY b (j:Int)))->b∈x.coll.stk\/p.ahead b d'\/∀ j:Nat,j<(p.H.aV b).1->p.gV x.s.H.co (lookOf d') (p.H.bY b (j:Int)):=fun d' b hq=>by
    rcases hq with q|q|q
    ·exact .inl q
    ·rw [hd] at q;exact q.elim
    ·exact .inr (.inr fun j hj=>aU hl0 k (q j hj))
   unfold stepW
   simp only [aC]
   by_cases hfo:(!x.s.flag && !x.coll.over)=true
   ·rw [if_pos hfo]
    have adH:x.s.flag=false/\x.coll.over=false:=by simpa using hfo
    by_cases h4:x.coll.phase=4
    ·rw [if_pos h4]
     exact ⟨h.go (d := .drain) (st:=x.coll.stk) hnw (fun m u e=>by cases e) (fun v hv=>aU hl0 k hv) h4 trivial h.stk trivial (fun h4 j hj=>aU hl0 k (by rw [hd];exact iP h4 j hj)) (fun b hb hc hq=>H8 _ b hq) (fun j hj=>absurd hj (Nat.not_lt_zero _)) (fun hh=>by cases hh) (fun hh=>by cases hh),trivial,rfl⟩
    ·rw [if_neg h4]
     have h5:x.coll.phase=5:=hmk.resolve_left h4
     by_cases hfr:x.coll.fresh=true
     ·rw [if_pos hfr]
      exact ⟨h.phase (c:=x.coll) (d := .drain) hnw ⟨rfl,rfl,rfl,rfl,rfl,rfl⟩ hl0 rfl k (fun m u e=>by cases e) (.inr ⟨h5,rfl⟩) (.inr (.inl ⟨by omega,by rw [hd];rfl,rfl⟩)) (Nat.le_refl _) (fun a ha=>by rw [hd] at ha;exact ha) rfl trivial trivial rfl rfl,trivial,rfl⟩
     ·rw [if_neg hfr]
      exact ⟨h.go (d := .marked) (st:=x.coll.stk) hnw (fun m u e=>by cases e) (fun v hv=>aU hl0 k hv) h5 trivial h.stk trivial (fun h4 j hj=>aU hl0 k (by rw [hd];exact iP h4 j hj)) (fun b hb hc hq=>H8 _ b hq) (fun j hj=>bx j hj) (fun _=>adG) (fun _=>adH),trivial,rfl⟩
   ·rw [if_neg hfo]
    obtain ⟨v1,v2,v3,v4,v5,v6,v7,v8,v9,v10,v11⟩:=Qx (p:=p) x.coll h.mg 0 (Nat.zero_le _)
    have hwD:CS.eF { x.coll with over:=false,fresh:=true,walks:=x.coll.walks+1 } 0=x.coll.eF 0:=rfl
    refine ⟨⟨h.k2,h.mu8,h.heap,h.muts,h.cmu,h.box,h.col,h.mg,h.nT,h.bd,fun i m hm=>(h.dK i m hm).coll rfl (fun v hv=>aU hl0 k hv) (fun _ hv => .inl hv),fun i hi hp=>?_,h.ph,v10 _ hmk,v3,h.stk,h.nC,h.pK,v4 _,fun h4 j hj=>?_,.inr fun a ha hca => .inr (.inl ((v5 a).2 ?_)),fun j hj=>?_,fun hh=>?_,fun hh=>absurd hh v11,h.q⟩,Qy (p:=p) x.coll h.mg 0 (Nat.zero_le _),rfl⟩
    ·have hp':x.s.B.pend (i:Int)=true:=hp
     rw [h.nobody hnw hi] at hp';cases hp'
    ·have hj':j<p.jw (x.coll.eF 0):=hj
     rw [v7] at hj'
     exact aU hl0 k (by rw [hd];exact iP h4 j hj')
    ·obtain ⟨B,g1,g2⟩:=k.ahead a ha
     exact ⟨B,Nat.zero_le _,g1,g2⟩
    ·have hj':j<p.mQ (x.coll.eF 0):=hj
     rw [v6] at hj';exact absurd hj' (Nat.not_lt_zero _)
    ·have hh':lZ (x.coll.eF 0)=true:=hh
     rw [v2] at hh';cases hh'
 | marked=>exact absurd rfl hne
 | _=>exact dD.elim
end
end
end Go.Proofs.YtanfphjoebobaaaGreatDoor
