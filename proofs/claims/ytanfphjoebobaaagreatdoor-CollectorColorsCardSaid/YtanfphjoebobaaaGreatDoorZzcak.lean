/- Parts of a walk, put together and made shorter by a program of mine. No conditions. -/
import Derived.Test.YtanfphjoebobaaaGreatDoorZzcaj
namespace Go.Proofs.YtanfphjoebobaaaGreatDoor
set_option maxHeartbeats 1000000
section
structure SM (p:CP) (s:Sh) (i:Nat) (m:MS):Prop where
 id:m.id=i
 prog:m.prog.length≤m.res.length
 regs:m.regs=p.regs i
 lg:1≤m.c.l.toNat
 want:m.want=p.κ
 color:m.color=p.κ
 buf:m.buf=[]
 nx:m.next = .nil∨(m.next = .once 7∧s.B.pend (i:Int)=true)
 kind:s.B.pend (i:Int)=true→s.B.kind=7
def CP.AV (p:CP) (ph:Nat):CD→Prop
 | .enqueue b=>ph=6∧b<p.bl
 | .sweep=>ph=6
 | .block _=>ph=6
 | .rests=>ph=6
 | .off=>ph=6
 | .wait m t=>ph=7∧m<p.mu∧t = .idle
 | .idle=>ph=7
 | _=>False
def oI:CD→Bool
 | .block _=>true
 | _=>false
def wQ:CD→Bool
 | .rests=>true
 | .off=>true
 | .wait _ _=>true
 | .idle=>true
 | _=>false
def CP.KO (p:CP) (q:Qu) (d:CD) (a:Nat):Prop :=
 (∃ b B k,d = .enqueue b∧p.H.owner a=some (B,k)∧b≤B)∨(∃ B k j,p.H.owner a=some (B,k)∧j<4∧(B:Int)∈q.rw j)∨∃ sl,d = .block sl∧a∈sl
structure jl (p:CP) (x:WS) (dead:List Nat):Prop where
 k2:p.κ<2
 mu8:1≤p.mu∧p.mu≤8
 muts:x.muts.length=p.mu
 cmu:x.coll.muts=p.mu
 box:x.s.boxes.length=p.mu
 col:x.coll.color=p.κ
 cbl:x.coll.blocks=p.bl
 cce:x.coll.cells=p.ce
 hbl:p.bl=p.H.b
 inv:bF x.s.H
 bn:∀ a,x.s.H.bn a=true↔p.H.bn a=true∧a∉dead
 co:∀ a,p.H.bn a=true→(x.s.H.co a=p.kb↔p.Rch a)
 nd:dead.Nodup
 dd:∀ a∈dead,p.H.bn a=true∧¬ p.Rch a
 geo:x.s.H.K=p.H.K∧x.s.H.b=p.H.b∧x.s.H.ww=p.H.ww∧x.s.H.c=p.H.c∧x.s.H.cells=p.H.cells
 fld:∀ a,p.Rch a→x.s.H.aT a=p.H.aT a∧∀ j:Nat,x.s.H.bQ a (j:Int)=p.H.bQ a (j:Int)
 bd:BI p.mu x.s.B
 bV:∀ i m,x.muts[i]?=some m→SM p x.s i m
 wt:∀ i,i<p.mu→x.s.B.pend (i:Int)=true→∃ m t,x.coll.next = .wait m t∧m≤i
 bxs:∀ i,x.s.box i=[]
 stk:x.coll.stk=[]
 fl:x.s.flag=false∧x.coll.over=false
 ql:x.s.Q.rows.length=4
 qn:∀ k,∀ b∈x.s.Q.rw k,∃ B:Nat,b=(B:Int)
 opn:x.s.Q.opn=if oI x.coll.next then 1 else 0
 qe:wQ x.coll.next=true→∀ k,x.s.Q.rw k=[]
 shp:p.AV x.coll.phase x.coll.next
 rest:∀ a,x.s.H.bn a=true→¬ p.Rch a→p.KO x.s.Q x.coll.next a
section
variable {p:CP} {x y:WS} {s s':Sh} {m m':MS} {i l l' ph ph' hf:Nat} {H:HS} {dead:List Nat}
theorem jl.congr (h:jl p x dead) (hs:y.s=x.s) (hm:y.muts=x.muts) (hc:y.coll=x.coll):jl p y dead:=by
 obtain ⟨a,b,c,d,e⟩:=x
 obtain ⟨a',b',c',d',e'⟩:=y
 cases hs;cases hm;cases hc
 exact ⟨h.k2,h.mu8,h.muts,h.cmu,h.box,h.col,h.cbl,h.cce,h.hbl,h.inv,h.bn,h.co,h.nd,h.dd,h.geo,h.fld,h.bd,h.bV,h.wt,h.bxs,h.stk,h.fl,h.ql,h.qn,h.opn,h.qe,h.shp,h.rest⟩
theorem jl.lF (h:jl p x dead) (hm:x.muts[i]?=some m):i<p.mu:=by rw [← h.muts];exact (List.getElem?_eq_some_iff.1 hm).1
theorem rX (h:jl p x dead) (hm:x.muts[i]?=some m):∃ s' m',aQ x.s m=(s',m',none)∧jl p { x with s:=s',muts:=x.muts.set i m' } dead∧s'.H=x.s.H∧s'.Q=x.s.Q∧s'.boxes=x.s.boxes∧m'.buf=[]∧s'.flag=x.s.flag∧(∀ j:Nat,j≠i→s'.B.pend (j:Int)=x.s.B.pend (j:Int)) ∧
 (if x.s.B.pend (i:Int) then (m.next = .nil∧m'.next = .once 7∧s'.B.pend (i:Int)=true)∨(m.next = .once 7∧m'.next = .nil∧s'.B.pend (i:Int)=false) else m'.next = .nil∧m.next = .nil∧s'.B.pend (i:Int)=false):=by
 have sm:=h.bV i m hm
 have oW:=h.lF hm
 have hlt:=(List.getElem?_eq_some_iff.1 hm).1
 have key:∀ (s':Sh) (m':MS),s'.H=x.s.H→s'.Q=x.s.Q→s'.boxes=x.s.boxes→s'.flag=x.s.flag→BI p.mu s'.B→(∀ j:Nat,j≠i→s'.B.pend (j:Int)=x.s.B.pend (j:Int))→(s'.B.pend (i:Int)=true→x.s.B.pend (i:Int)=true)→s'.B.kind=x.s.B.kind→SM p s' i m'→jl p { x with s:=s',muts:=x.muts.set i m' } dead:=fun s' m' e1 e2 e3 e4 hb hpo hpi hk hsm=>by
  have hbox:∀ j,s'.box j=x.s.box j:=fun j=>by unfold Sh.box;rw [e3]
  refine ⟨h.k2,h.mu8,by show (x.muts.set i m').length=_;rw [List.length_set];exact h.muts,h.cmu,by show s'.boxes.length=_;rw [e3];exact h.box,h.col,h.cbl,h.cce,h.hbl,by show bF s'.H;rw [e1];exact h.inv,fun a=>by show s'.H.bn a=true↔_;rw [e1];exact h.bn a,fun a ha=>by show s'.H.co a=_↔_;rw [e1];exact h.co a ha,h.nd,h.dd,by show s'.H.K=_∧s'.H.b=_∧s'.H.ww=_∧s'.H.c=_∧s'.H.cells=_;rw [e1];exact h.geo,
   fun a ha=>by show s'.H.aT a=_∧∀ j:Nat,s'.H.bQ a (j:Int)=_;rw [e1];exact h.fld a ha,hb,fun j mj hj=>?_,fun j hj hp=>?_,fun j=>(hbox j).trans (h.bxs j),h.stk,⟨e4.trans h.fl.1,h.fl.2⟩,by show s'.Q.rows.length=4;rw [e2];exact h.ql,fun k b hb=>h.qn k b (by rw [← e2];exact hb),by show s'.Q.opn=_;rw [e2];exact h.opn,fun hr k=>by show s'.Q.rw k=[];rw [e2];exact h.qe hr k,h.shp,fun a ha hn=>by show p.KO s'.Q _ a;rw [e2];exact h.rest a (by rw [← e1];exact ha) hn⟩
  ·have hj':(x.muts.set i m')[j]?=some mj:=hj
   by_cases e:j=i
   ·subst e
    rw [List.getElem?_set_self hlt] at hj'
    cases hj'
    exact hsm
   ·rw [List.getElem?_set_ne (fun e'=>e e'.symm)] at hj'
    have g:=h.bV j mj hj'
    exact ⟨g.id,g.prog,g.regs,g.lg,g.want,g.color,g.buf,g.nx.imp (fun h=>h) (fun hh=>⟨hh.1,by rw [hpo j e];exact hh.2⟩),fun hp=>by show s'.B.kind=7;rw [hk];exact g.kind (by rw [← hpo j e];exact hp)⟩
  ·by_cases e:j=i
   ·subst e;exact h.wt j hj (hpi hp)
   ·exact h.wt j hj (by rw [← hpo j e];exact hp)
 by_cases hn:isNil m.next=true
 ·have hnx:m.next = .nil:=by
   cases hd:m.next<;>rw [hd] at hn<;>first|rfl|cases hn
  have hpk:aQ x.s m=(x.s,{ m with spent:=1,ans:=x.s.B.pend (m.id:Int),next:=bI x.s m },none):=by
   unfold aQ
   rw [if_pos hn]
  by_cases hp:x.s.B.pend (i:Int)=true
  ·have hb:bI x.s m = .once 7:=by
    unfold bI
    rw [sm.id,hp,if_pos rfl,sm.kind hp,if_neg (by decide),if_neg (by decide)]
   rw [hb] at hpk
   refine ⟨_,_,hpk,key _ _ rfl rfl rfl rfl h.bd (fun _ _=>rfl) (fun h=>h) rfl ⟨sm.id,sm.prog,sm.regs,sm.lg,sm.want,sm.color,sm.buf,.inr ⟨rfl,hp⟩,sm.kind⟩,rfl,rfl,rfl,sm.buf,rfl,fun _ _=>rfl,?_⟩
   rw [if_pos hp];exact .inl ⟨hnx,rfl,hp⟩
  ·have hp0:x.s.B.pend (i:Int)=false:=by simpa using hp
   have hb:bI x.s m = .nil:=by
    unfold bI
    rw [sm.id,hp0,if_neg (by decide),List.getElem?_eq_none sm.prog]
   rw [hb] at hpk
   refine ⟨_,_,hpk,key _ _ rfl rfl rfl rfl h.bd (fun _ _=>rfl) (fun h=>h) rfl ⟨sm.id,sm.prog,sm.regs,sm.lg,sm.want,sm.color,sm.buf,.inl rfl,sm.kind⟩,rfl,rfl,rfl,sm.buf,rfl,fun _ _=>rfl,?_⟩
   rw [if_neg hp];exact ⟨rfl,hnx,hp0⟩
 ·rcases sm.nx with e|⟨e,hp⟩
  ·rw [e] at hn;exact absurd rfl hn
  ·obtain ⟨b1,b2,b3⟩:=h.bd.ans i
   obtain ⟨M,hM,hM2⟩:∃ M:MS,aQ x.s m=({ x.s with B:=x.s.B.gu (m.id:Int) },M,none)∧(M.id=m.id∧M.prog=m.prog∧M.res=m.res∧M.regs=m.regs∧M.c=m.c∧M.want=m.want∧M.color=m.color∧M.buf=[]∧M.next = .nil):=by
    refine ⟨MS.most { m with buf:=[],mode:=0,spent:=m.spent+1,next := .nil },?_,?_⟩
    ·unfold aQ
     rw [if_neg hn]
     have hst:∀ d,d=MD.once 7→(let r:=stepM x.s { m with spent:=m.spent+1 } d
      (r.s,if isNil r.next then { r.m with next := .nil }.most else { r.m with next:=r.next },r.ev))=(({ x.s with B:=x.s.B.gu (m.id:Int) }:Sh),MS.most { m with buf:=[],mode:=0,spent:=m.spent+1,next := .nil },(none:Option Ev)):=fun d e=>by
      rw [e];rfl
     exact hst m.next e
    ·unfold MS.most
     split<;>exact ⟨rfl,rfl,rfl,rfl,rfl,rfl,rfl,rfl,rfl⟩
   obtain ⟨e1,e2,e3,e4,e5,e6,e7,e8,e9⟩:=hM2
   have hpi:(x.s.B.gu (m.id:Int)).pend (i:Int)=false:=by rw [sm.id,b2 i,if_pos rfl]
   have hpo:∀ j:Nat,j≠i→(x.s.B.gu (m.id:Int)).pend (j:Int)=x.s.B.pend (j:Int):=fun j hj=>by rw [sm.id,b2 j,if_neg hj]
   refine ⟨_,_,hM,key _ _ rfl rfl rfl rfl (by rw [sm.id];exact b1) hpo (fun hh=>?_) (by show (x.s.B.gu (m.id:Int)).kind=_;rw [sm.id];exact b3) ⟨e1.trans sm.id,by rw [e2,e3];exact sm.prog,e4.trans sm.regs,by rw [e5];exact sm.lg,e6.trans sm.want,e7.trans sm.color,e8,.inl e9,fun hh=>?_⟩,rfl,rfl,rfl,e8,rfl,hpo,?_⟩
   ·have hh':(x.s.B.gu (m.id:Int)).pend (i:Int)=true:=hh
    rw [hpi] at hh';cases hh'
   ·have hh':(x.s.B.gu (m.id:Int)).pend (i:Int)=true:=hh
    rw [hpi] at hh';cases hh'
   ·rw [if_pos hp]
    exact .inr ⟨e,e9,hpi⟩
theorem MInv.RZ (hI:bF p.H) (hb:p.bl=p.H.b) (h:MInv p x) (hd:x.coll.next = .marked):jl p (stepW x .marked) []∧(aj x.s x.coll .marked).ev=some (x.coll.ev 3 x.coll.cycles):=by
 have k:=hI.cpk hb
 obtain ⟨m1,m2,m3,m4,m5,m6,m7,m8⟩:=h.marked k hd
 obtain ⟨f,hH⟩:=h.heap
 have hq:=h.q
 have hmi:bF x.s.H:=by
  rw [hH]
  exact ⟨hI.jY,hI.nle,hI.k4,hI.small,hI.ji,hI.chain,hI.nodup,hI.jG,hI.born,hI.slot,hI.cval,hI.zero⟩
 have hbn:∀ a,x.s.H.bn a=p.H.bn a:=fun a=>by rw [hH]
 refine ⟨?_,rfl⟩
 unfold stepW
 simp only [aj]
 have hnx:∀ d:CD,d=CS.gy { x.coll with phase:=6 } 0→oI d=false∧wQ d=false∧p.AV 6 d∧(∀ a,p.H.bn a=true→∃ b B k,d = .enqueue b∧p.H.owner a=some (B,k)∧b≤B):=fun d e=>by
  rw [e]
  unfold CS.gy
  have hbl:=h.cbl
  split
  ·rename_i e0
   have e0':0=x.coll.blocks:=e0
   refine ⟨rfl,rfl,rfl,fun a ha=>?_⟩
   obtain ⟨B,g1,_⟩:=k.ahead a ha
   omega
  ·rename_i e0
   have e0':¬ 0=x.coll.blocks:=e0
   refine ⟨rfl,rfl,⟨rfl,by omega⟩,fun a ha=>?_⟩
   obtain ⟨B,k',f',g1,_⟩:=hI.born a ha
   exact ⟨0,B,k',rfl,g1,Nat.zero_le _⟩
 obtain ⟨n1,n2,n3,n4⟩:=hnx _ rfl
 refine ⟨h.k2,h.mu8,h.muts,h.cmu,h.box,h.col,h.cbl,h.cce,hb,hmi,fun a=>?_,fun a ha=>?_,List.nodup_nil,(fun a ha=>by cases ha),(by rw [hH];exact ⟨rfl,rfl,rfl,rfl,rfl⟩),fun a _=>?_,h.bd,fun i m hm=>?_,fun i hi hp=>?_,m5,m6,⟨m7,m8⟩,hq.2.2,fun kk b hb=>?_,?_,fun hr=>?_,n3,fun a ha hn => .inl (n4 a (by rw [← hbn a];exact ha))⟩
 ·show x.s.H.bn a=true↔_
  rw [hbn a];simp
 ·constructor
  ·intro hc;exact (m1 a).2 ⟨ha,hc⟩
  ·intro hr;exact ((m1 a).1 hr).2
 ·show x.s.H.aT a=_∧∀ j:Nat,x.s.H.bQ a (j:Int)=_
  rw [hH];exact ⟨rfl,fun _=>rfl⟩
 ·have mi:=h.bV i m hm
  have hi:=h.lF hm
  have hp:=m2 i hi
  refine ⟨mi.id,mi.prog,mi.regs,mi.lg,mi.want.resolve_left (fun hh=>by rw [hp] at hh;cases hh.2),?_,(m4 i m hm).1,.inl (m4 i m hm).2,fun hh=>?_⟩
  ·have hc:=mi.color
   rw [m3,if_neg (by omega)] at hc
   exact hc
  ·have hh':x.s.B.pend (i:Int)=true:=hh
   rw [hp] at hh';cases hh'
 ·have hh':x.s.B.pend (i:Int)=true:=hp
  rw [m2 i hi] at hh';cases hh'
 ·have hb':b∈x.s.Q.rw kk:=hb
  rw [hq.1 kk] at hb';cases hb'
 ·have n1':oI (x.coll.gy 0)=false:=n1
  show x.s.Q.opn=if oI (x.coll.gy 0) then 1 else 0
  rw [n1'];exact hq.2.1
 ·have hr':wQ (x.coll.gy 0)=true:=hr
  have n2':wQ (x.coll.gy 0)=false:=n2
  rw [n2'] at hr';cases hr'
end
section
variable {p:CP} {x y:WS} {s s':Sh} {m m':MS} {i l l' ph ph' hf:Nat} {H:HS} {dead:List Nat} {q:Qu}
theorem any_none (h:q.any=none):∀ k,k<4→q.rw k=[]:=fun k hk=>by
 unfold Qu.any at h
 have:=List.findSome?_eq_none_iff.1 h k (List.mem_range.2 hk)
 cases e:q.rw k with
 | nil=>rfl
 | cons a r=>rw [e] at this;cases this
theorem any_some {k b:Nat} (h:q.any=some (k,b)):k<4∧∃ a r,q.rw k=a::r∧b=a.toNat:=by
 unfold Qu.any at h
 obtain ⟨j,hj,e⟩:=List.exists_of_findSome?_eq_some h
 have hj4:=List.mem_range.1 hj
 cases e2:q.rw j with
 | nil=>rw [e2] at e;cases e
 | cons a r =>
   rw [e2] at e
   simp only [Option.some.injEq,Prod.mk.injEq] at e
   obtain ⟨rfl,rfl⟩:=e
   exact ⟨hj4,a,r,e2,rfl⟩
theorem Um (hl:q.rows.length=4) {k:Nat} (hk:4≤k):q.rw k=[]:=by
 unfold Qu.rw
 rw [List.getD_eq_getElem?_getD,List.getElem?_eq_none (by omega)];rfl
theorem wo (hl:q.rows.length=4) {k:Nat} (hk:k<4) (b:Int) (j:Nat):(q.put (k:Int) b).rw j=if j=k then q.rw k++[b] else q.rw j:=by
 unfold Qu.put Qu.rw Qu.row
 simp only [Int.toNat_natCast]
 rw [List.getD_eq_getElem?_getD]
 by_cases e:j=k
 ·subst e
  rw [List.getElem?_set_self (by omega),if_pos rfl];rfl
 ·rw [List.getElem?_set_ne (fun h=>e h.symm),if_neg e,← List.getD_eq_getElem?_getD]
theorem take_at (hl:q.rows.length=4) {k:Nat} (hk:k<4) (j:Nat):(q.take (k:Int)).rw j=if j=k then (q.rw k).drop 1 else q.rw j:=by
 unfold Qu.take Qu.rw Qu.row
 simp only [Int.toNat_natCast]
 rw [List.getD_eq_getElem?_getD]
 by_cases e:j=k
 ·subst e
  rw [List.getElem?_set_self (by omega),if_pos rfl];rfl
 ·rw [List.getElem?_set_ne (fun h=>e h.symm),if_neg e,← List.getD_eq_getElem?_getD]
theorem jl.nobody (h:jl p x dead) (hn:∀ m t,x.coll.next ≠ .wait m t) {i:Nat} (hi:i<p.mu):x.s.B.pend (i:Int)=false:=by
 cases hp:x.s.B.pend (i:Int)
 ·rfl
 ·obtain ⟨m,t,e,_⟩:=h.wt i hi hp
  exact absurd e (hn m t)
theorem jl.go (h:jl p x dead) (hn:∀ m t,x.coll.next ≠ .wait m t) {q':Qu} {d':CD} (ql:q'.rows.length=4) (qn:∀ k,∀ b∈q'.rw k,∃ B:Nat,b=(B:Int)) (opn:q'.opn=if oI d' then 1 else 0) (qe:wQ d'=true→∀ k,q'.rw k=[]) (shp:p.AV x.coll.phase d')
 (rest:∀ a,x.s.H.bn a=true→¬ p.Rch a→p.KO q' d' a):jl p { x with s:={ x.s with Q:=q' },coll:={ x.coll with next:=d' } } dead :=
 ⟨h.k2,h.mu8,h.muts,h.cmu,h.box,h.col,h.cbl,h.cce,h.hbl,h.inv,h.bn,h.co,h.nd,h.dd,h.geo,h.fld,h.bd,fun i m hm=>(by
  have g:=h.bV i m hm
  exact ⟨g.id,g.prog,g.regs,g.lg,g.want,g.color,g.buf,g.nx,g.kind⟩),fun i hi hp=>(by
  have hp':x.s.B.pend (i:Int)=true:=hp
  rw [h.nobody hn hi] at hp';cases hp'),h.bxs,h.stk,h.fl,ql,qn,opn,qe,shp,rest⟩
theorem Hu (h:jl p x dead) (d:CD) (hd:x.coll.next=d) (hne:d ≠ .idle):∃ eP,jl p (stepW x d) eP ∧
 (((aj x.s x.coll d).ev=none∧eP=dead)∨∃ a,(aj x.s x.coll d).ev=some (x.coll.ev 5 a)∧eP=dead++[a]∧(stepW x d).s.H.bn a=false):=by
 have hk2:=h.k2
 have hmu:=h.mu8
 have shp:=h.shp;have opn:=h.opn;have qe:=h.qe;have rest:=h.rest
 rw [hd] at shp opn qe rest
 have hql:=h.ql
 have hown:∀ a,x.s.H.owner a=p.H.owner a:=fun a=>by
  unfold HS.owner
  rw [h.geo.1,h.geo.2.1,h.geo.2.2.1]
 have gU:=h.col
 cases d with
 | enqueue b =>
   obtain ⟨h6,hb⟩:=shp
   have hnw:∀ m u,x.coll.next ≠ .wait m u:=by rw [hd];intro m u e;cases e
   have hnx:oI (x.coll.gy (b+1))=false∧wQ (x.coll.gy (b+1))=false∧p.AV x.coll.phase (x.coll.gy (b+1))∧∀ B,b+1≤B→B<p.bl→∃ b',x.coll.gy (b+1) = .enqueue b'∧b'≤B:=by
    have hbl:=h.cbl
    unfold CS.gy
    split
    ·refine ⟨rfl,rfl,h6,fun B h1 h2=>?_⟩
     omega
    ·exact ⟨rfl,rfl,⟨h6,by omega⟩,fun B h1 h2=>⟨b+1,rfl,h1⟩⟩
   obtain ⟨n1,n2,n3,n4⟩:=hnx
   have hlt:∀ a B k,p.H.owner a=some (B,k)→B<p.bl:=fun a B k ho=>by rw [h.hbl];exact (vZ ho).1
   by_cases hK:x.s.H.K.getD b 0=0
   ·refine ⟨dead,?_,.inl ⟨rfl,rfl⟩⟩
    have e:stepW x (.enqueue b)={ x with s:={ x.s with Q:=x.s.Q },coll:={ x.coll with next:=x.coll.gy (b+1) } }:=by
     unfold stepW
     simp only [aj]
     rw [if_pos hK]
    rw [e]
    refine h.go hnw hql h.qn (by rw [n1];exact opn) (fun hr=>by rw [n2] at hr;cases hr) n3 (fun a ha hr=>?_)
    rcases rest a ha hr with ⟨b0,B,k,e1,e2,e3⟩|g|⟨sl,e1,_⟩
    ·cases e1
     have hbB:B≠b:=by
      intro e0
      have:=(dD e2).2.2.2.1
      rw [e0,← h.geo.1,hK] at this;omega
     obtain ⟨b',g1,g2⟩:=n4 B (by omega) (hlt a B k e2)
     exact .inl ⟨b',B,k,g1,e2,g2⟩
    ·exact .inr (.inl g)
    ·cases e1
   ·have hk4:x.s.H.K.getD b 0≤4:=by
     rcases Nat.lt_or_ge b x.s.H.K.length with g|g
     ·rw [List.getD_eq_getElem?_getD,List.getElem?_eq_getElem g]
      exact h.inv.k4 _ (List.getElem_mem g)
     ·rw [List.getD_eq_getElem?_getD,List.getElem?_eq_none g];exact Nat.zero_le _
    obtain ⟨c,hc,hc4⟩:∃ c:Nat,x.s.H.K.getD b 0=c+1∧c<4:=⟨x.s.H.K.getD b 0 - 1,by omega,by omega⟩
    have hput:=wo hql hc4 (b:Int)
    refine ⟨dead,?_,.inl ⟨rfl,rfl⟩⟩
    have e:stepW x (.enqueue b)={ x with s:={ x.s with Q:=x.s.Q.put (c:Int) (b:Int) },coll:={ x.coll with next:=x.coll.gy (b+1) } }:=by
     unfold stepW
     simp only [aj]
     rw [if_neg hK,hc]
     have:((c+1:Nat):Int) - 1=(c:Int):=by omega
     rw [this]
    rw [e]
    refine h.go hnw (by show (x.s.Q.rows.set _ _).length=4;rw [List.length_set];exact hql) (fun k b' hb'=>?_) (by rw [n1];exact opn) (fun hr=>by rw [n2] at hr;cases hr) n3 (fun a ha hr=>?_)
    ·rw [hput k] at hb'
     split at hb'
     ·rcases List.mem_append.1 hb' with g|g
      ·exact h.qn c b' g
      ·exact ⟨b,List.mem_singleton.1 g⟩
     ·exact h.qn k b' hb'
    ·rcases rest a ha hr with ⟨b0,B,k,e1,e2,e3⟩|⟨B,k,j,e1,e2,e3⟩|⟨sl,e1,_⟩
     ·cases e1
      by_cases hbB:B=b
      ·refine .inr (.inl ⟨B,k,c,e2,hc4,?_⟩)
       rw [hput c,if_pos rfl,hbB]
       exact List.mem_append_right _ (List.mem_singleton.2 rfl)
      ·obtain ⟨b',g1,g2⟩:=n4 B (by omega) (hlt a B k e2)
       exact .inl ⟨b',B,k,g1,e2,g2⟩
     ·refine .inr (.inl ⟨B,k,j,e1,e2,?_⟩)
      rw [hput j]
      split
      ·rename_i e;rw [e] at e3;exact List.mem_append_left _ e3
      ·exact e3
     ·cases e1
 | sweep =>
   have h6:x.coll.phase=6:=shp
   have hnw:∀ m u,x.coll.next ≠ .wait m u:=by rw [hd];intro m u e;cases e
   cases hq:x.s.Q.any with
   | none =>
     have hno:=any_none hq
     refine ⟨dead,?_,.inl ⟨by simp only [aj];rw [hq],rfl⟩⟩
     have e:stepW x .sweep={ x with s:={ x.s with Q:=x.s.Q },coll:={ x.coll with next := .rests } }:=by
      unfold stepW
      simp only [aj]
      rw [hq]
     rw [e]
     refine h.go hnw hql h.qn opn (fun _ k=>?_) h6 (fun a ha hr=>?_)
     ·rcases Nat.lt_or_ge k 4 with g|g
      ·exact hno k g
      ·exact Um hql g
     ·rcases rest a ha hr with ⟨b0,B,k,e1,e2,e3⟩|⟨B,k,j,e1,e2,e3⟩|⟨sl,e1,_⟩
      ·cases e1
      ·rw [hno j e2] at e3;cases e3
      ·cases e1
   | some kb =>
     obtain ⟨kk,b⟩:=kb
     obtain ⟨hk4,z,r,hr1,hr2⟩:=any_some hq
     have htk:=take_at hql hk4
     obtain ⟨Bz,hBz⟩:=h.qn kk z (by rw [hr1];exact List.mem_cons_self)
     have hb:b=Bz:=by rw [hr2,hBz];exact Int.toNat_natCast Bz
     refine ⟨dead,?_,.inl ⟨by simp only [aj];rw [hq],rfl⟩⟩
     have e:stepW x .sweep={ x with s:={ x.s with Q:=x.s.Q.take (kk:Int) },coll:={ x.coll with next := .block (x.s.H.slots b) } }:=by
      unfold stepW
      simp only [aj]
      rw [hq]
     rw [e]
     refine h.go hnw (by show (x.s.Q.rows.set _ _).length=4;rw [List.length_set];exact hql) (fun k b' hb'=>?_) ?_ (fun hr=>by cases hr) h6 (fun a ha hr=>?_)
     ·rw [htk k] at hb'
      split at hb'
      ·exact h.qn kk b' (List.mem_of_mem_drop hb')
      ·exact h.qn k b' hb'
     ·show x.s.Q.opn+1=1
      have:x.s.Q.opn=0:=opn
      omega
     ·rcases rest a ha hr with ⟨b0,B,k,e1,e2,e3⟩|⟨B,k,j,e1,e2,e3⟩|⟨sl,e1,_⟩
      ·cases e1
      ·by_cases hbB:B=b
       ·refine .inr (.inr ⟨_,rfl,?_⟩)
        have ho:x.s.H.owner a=some (B,k):=by rw [hown];exact e1
        rw [← hbB]
        exact (vZ ho).2
       ·refine .inr (.inl ⟨B,k,j,e1,e2,?_⟩)
        rw [htk j]
        split
        ·rename_i ej
         rw [ej,hr1] at e3
         rw [hr1]
         rcases List.mem_cons.1 e3 with g|g
         ·exfalso;rw [hBz] at g;exact hbB (by omega)
         ·exact g
        ·exact e3
      ·cases e1
 | block sl =>
   have h6:x.coll.phase=6:=shp
   have hnw:∀ m u,x.coll.next ≠ .wait m u:=by rw [hd];intro m u e;cases e
   have hop:x.s.Q.opn=1:=opn
   cases sl with
   | nil =>
     refine ⟨dead,?_,.inl ⟨rfl,rfl⟩⟩
     show jl p { x with s:={ x.s with Q:=x.s.Q.lQ },coll:={ x.coll with next := .sweep } } dead
     refine h.go hnw hql h.qn (by show x.s.Q.opn - 1=0;omega) (fun hr=>by cases hr) h6 (fun a ha hr=>?_)
     rcases rest a ha hr with ⟨b0,B,k,e1,e2,e3⟩|g|⟨sl,e1,e2⟩
     ·cases e1
     ·exact .inr (.inl g)
     ·cases e1;cases e2
   | cons a r =>
     have hce:x.s.H.bn a=true→p.H.bn a=true∧a∉dead:=(h.bn a).1
     have hcc:(x.s.H.dA a==x.coll.color)=true↔x.s.H.co a=p.kb:=by
      rw [gU]
      exact uw (p:={ p with H:=x.s.H }) hk2 (f:=x.s.H.co) a
     by_cases hc:(!x.s.H.bn a||x.s.H.dA a==x.coll.color)=true
     ·refine ⟨dead,?_,.inl ⟨by simp only [aj];rw [if_pos hc],rfl⟩⟩
      have e:stepW x (.block (a::r))={ x with s:={ x.s with Q:=x.s.Q },coll:={ x.coll with next := .block r } }:=by
       unfold stepW
       simp only [aj]
       rw [if_pos hc]
      rw [e]
      refine h.go hnw hql h.qn opn (fun hr=>by cases hr) h6 (fun a' ha hr=>?_)
      rcases rest a' ha hr with ⟨b0,B,k,e1,e2,e3⟩|g|⟨sl,e1,e2⟩
      ·cases e1
      ·exact .inr (.inl g)
      ·cases e1
       rcases List.mem_cons.1 e2 with g|g
       ·exfalso
        rw [g] at ha hr
        rw [ha,Bool.not_true,Bool.false_or] at hc
        exact hr ((h.co a (hce ha).1).1 (hcc.1 hc))
       ·exact .inr (.inr ⟨r,rfl,g⟩)
     ·have hc':x.s.H.bn a=true∧¬ x.s.H.co a=p.kb:=by
       simp only [Bool.or_eq_true,Bool.not_eq_true',not_or] at hc
       exact ⟨by simpa using hc.1,fun h2=>hc.2 (hcc.2 h2)⟩
      obtain ⟨hba,hna⟩:=hc'
      obtain ⟨hpa,hda⟩:=hce hba
      have hra:¬ p.Rch a:=fun hr=>hna ((h.co a hpa).2 hr)
      have fr:=h.inv.free hba
      refine ⟨dead++[a],?_,.inr ⟨a,by simp only [aj];rw [if_neg hc],rfl,?_⟩⟩
      ·have e:stepW x (.block (a::r))={ x with s:={ x.s with H:=x.s.H.dX a },coll:={ x.coll with next := .block r } }:=by
        unfold stepW
        simp only [aj]
        rw [if_neg hc]
       rw [e]
       refine ⟨h.k2,h.mu8,h.muts,h.cmu,h.box,h.col,h.cbl,h.cce,h.hbl,fr.inv,fun c=>?_,fun c hcp=>?_,?_,fun c hcd=>?_,?_,fun c hcr=>?_,h.bd,fun i m hm=>?_,fun i hi hp=>?_,h.bxs,h.stk,h.fl,hql,h.qn,opn,fun hr=>?_,h6,fun c hcb hcr=>?_⟩
       ·show (x.s.H.dX a).bn c=true↔_
        rw [fr.bn]
        by_cases e:c=a
        ·rw [if_pos e,e];simp
        ·rw [if_neg e,h.bn c];simp [e]
       ·show (x.s.H.dX a).co c=_↔_
        rw [fr.co];exact h.co c hcp
       ·rw [List.nodup_append]
        refine ⟨h.nd,by simp,fun u hu v hv=>?_⟩
        rw [List.mem_singleton.1 hv]
        intro e;rw [e] at hu;exact hda hu
       ·rcases List.mem_append.1 hcd with g|g
        ·exact h.dd c g
        ·rw [List.mem_singleton.1 g];exact ⟨hpa,hra⟩
       ·show (x.s.H.dX a).K=_∧(x.s.H.dX a).b=_∧(x.s.H.dX a).ww=_∧(x.s.H.dX a).c=_∧(x.s.H.dX a).cells=_
        rw [fr.K,fr.b,fr.ww,fr.c,fr.cells];exact h.geo
       ·have hcb:x.s.H.bn c=true:=(h.bn c).2 ⟨hcr.bn,fun hd=>(h.dd c hd).2 hcr⟩
        have hca:c≠a:=fun e=>hra (by rw [← e];exact hcr)
        obtain ⟨f1,f2⟩:=fr.fld c hcb hca
        obtain ⟨f3,f4⟩:=h.fld c hcr
        exact ⟨f1.trans f3,fun j=>(f2 j).trans (f4 j)⟩
       ·have g:=h.bV i m hm
        exact ⟨g.id,g.prog,g.regs,g.lg,g.want,g.color,g.buf,g.nx,g.kind⟩
       ·have hp':x.s.B.pend (i:Int)=true:=hp
        rw [h.nobody hnw hi] at hp';cases hp'
       ·cases hr
       ·have hcb':(x.s.H.dX a).bn c=true:=hcb
        rw [fr.bn] at hcb'
        split at hcb'
        ·cases hcb'
        ·rename_i hca
         rcases rest c hcb' hcr with ⟨b0,B,k,e1,e2,e3⟩|g|⟨sl,e1,e2⟩
         ·cases e1
         ·exact .inr (.inl g)
         ·cases e1
          rcases List.mem_cons.1 e2 with g|g
          ·exact absurd g hca
          ·exact .inr (.inr ⟨r,rfl,g⟩)
      ·show (stepW x (.block (a::r))).s.H.bn a=false
       unfold stepW
       simp only [aj]
       rw [if_neg hc]
       show (x.s.H.dX a).bn a=false
       rw [fr.bn,if_pos rfl]
 | rests =>
   have h6:x.coll.phase=6:=shp
   have hnw:∀ m u,x.coll.next ≠ .wait m u:=by rw [hd];intro m u e;cases e
   have hop:x.s.Q.opn=0:=opn
   have hqe:∀ k,x.s.Q.rw k=[]:=qe rfl
   have hrs:x.s.Q.rests=true:=by
    unfold Qu.rests Qu.sum Qu.sum Qu.sum Qu.sum Qu.sum
    have h0:=hqe 0;have h1:=hqe 1;have h2:=hqe 2;have h3:=hqe 3
    unfold Qu.rw at h0 h1 h2 h3
    rw [h0,h1,h2,h3,hop];rfl
   refine ⟨dead,?_,.inl ⟨rfl,rfl⟩⟩
   have e:stepW x .rests={ x with s:={ x.s with Q:=x.s.Q },coll:={ x.coll with next := .off } }:=by
    unfold stepW
    simp only [aj]
    rw [hrs];rfl
   rw [e]
   refine h.go hnw hql h.qn opn (fun _=>hqe) h6 (fun a ha hr=>?_)
   rcases rest a ha hr with ⟨b0,B,k,e1,e2,e3⟩|⟨B,k,j,e1,e2,e3⟩|⟨sl,e1,e2⟩
   ·cases e1
   ·rw [hqe j] at e3;cases e3
   ·cases e1
 | off =>
   have h6:x.coll.phase=6:=shp
   have hnw:∀ m u,x.coll.next ≠ .wait m u:=by rw [hd];intro m u e;cases e
   have hop:x.s.Q.opn=0:=opn
   have hqe:∀ k,x.s.Q.rw k=[]:=qe rfl
   obtain ⟨b1,b2,b3⟩:=h.bd.ask (fun i hi=>h.nobody hnw hi) 7
   refine ⟨dead,?_,.inl ⟨rfl,rfl⟩⟩
   show jl p { x with s:=x.s.ask 7,coll:={ x.coll with phase:=7,next := .wait 0 .idle } } dead
   refine ⟨h.k2,h.mu8,h.muts,h.cmu,h.box,h.col,h.cbl,h.cce,h.hbl,h.inv,h.bn,h.co,h.nd,h.dd,h.geo,h.fld,b1,fun i m hm=>?_,fun i hi hp=>⟨0,.idle,rfl,Nat.zero_le _⟩,h.bxs,h.stk,h.fl,hql,h.qn,hop,fun _=>hqe,⟨rfl,by omega,rfl⟩,fun a ha hr=>?_⟩
   ·have g:=h.bV i m hm
    have hi:=h.lF hm
    refine ⟨g.id,g.prog,g.regs,g.lg,g.want,g.color,g.buf,.inl (g.nx.resolve_right (fun hh=>?_)),fun _=>b3⟩
    rw [h.nobody hnw hi] at hh;cases hh.2
   ·rcases rest a ha hr with ⟨b0,B,k,e1,e2,e3⟩|⟨B,k,j,e1,e2,e3⟩|⟨sl,e1,e2⟩
    ·cases e1
    ·rw [hqe j] at e3;cases e3
    ·cases e1
 | wait mm t =>
   obtain ⟨h7,hm,rfl⟩:=shp
   have hop:x.s.Q.opn=0:=opn
   have hqe:∀ k,x.s.Q.rw k=[]:=qe rfl
   have qL:=sJ h.bd hm
   have hno:∀ a,x.s.H.bn a=true→¬ p.Rch a→False:=fun a ha hr=>by
    rcases rest a ha hr with ⟨b0,B,k,e1,e2,e3⟩|⟨B,k,j,e1,e2,e3⟩|⟨sl,e1,e2⟩
    ·cases e1
    ·rw [hqe j] at e3;cases e3
    ·cases e1
   have key:∀ d':CD,(∀ i,i<p.mu→x.s.B.pend (i:Int)=true→∃ m t,d' = .wait m t∧m≤i)→p.AV x.coll.phase d'→oI d'=false→jl p { x with coll:={ x.coll with next:=d' } } dead:=fun d' g1 g2 g3 =>
    ⟨h.k2,h.mu8,h.muts,h.cmu,h.box,h.col,h.cbl,h.cce,h.hbl,h.inv,h.bn,h.co,h.nd,h.dd,h.geo,h.fld,h.bd,h.bV,g1,h.bxs,h.stk,h.fl,hql,h.qn,by show x.s.Q.opn=if oI d' then 1 else 0;rw [g3];exact hop,fun _=>hqe,g2,fun a ha hr=>(hno a ha hr).elim⟩
   have hwt:∀ i,i<p.mu→x.s.B.pend (i:Int)=true→mm≤i:=fun i hi hp=>by
    obtain ⟨m',t',e,hle⟩:=h.wt i hi hp
    rw [hd] at e;cases e;exact hle
   have hcm:=h.cmu
   refine ⟨dead,?_,.inl ⟨rfl,rfl⟩⟩
   unfold stepW
   simp only [aj]
   by_cases hp:x.s.B.pend (mm:Int)=true
   ·rw [qL,hp,if_pos (by decide)]
    exact key (.wait mm .idle) (fun i hi hp=>⟨mm,.idle,rfl,hwt i hi hp⟩) ⟨h7,hm,rfl⟩ rfl
   ·have hp0:x.s.B.pend (mm:Int)=false:=by simpa using hp
    rw [qL,hp0,if_neg (by decide)]
    have hwt2:∀ i,i<p.mu→x.s.B.pend (i:Int)=true→mm+1≤i:=fun i hi hq=>by
     have:=hwt i hi hq
     rcases Nat.lt_or_ge mm i with g|g
     ·exact g
     ·have:i=mm:=by omega
      subst this
      rw [hp0] at hq;cases hq
    by_cases hl:mm+1<x.coll.muts
    ·rw [if_pos hl]
     exact key (.wait (mm+1) .idle) (fun i hi hp=>⟨mm+1,.idle,rfl,hwt2 i hi hp⟩) ⟨h7,by omega,rfl⟩ rfl
    ·rw [if_neg hl]
     refine key .idle (fun i hi hp=>?_) h7 rfl
     have:=hwt2 i hi hp;omega
 | idle=>exact absurd rfl hne
 | _=>exact shp.elim
end
structure IM (κ:Nat) (i:Nat) (m:MS):Prop where
 id:m.id=i
 prog:m.prog.length≤m.res.length
 lg:1≤m.c.l.toNat
 color:m.color=κ
 buf:m.buf=[]
 nx:m.next = .nil
structure Idl (mu bl ce κ:Nat) (x:WS):Prop where
 k2:κ<2
 mu8:1≤mu∧mu≤8
 muts:x.muts.length=mu
 cmu:x.coll.muts=mu
 box:x.s.boxes.length=mu
 col:x.coll.color=κ
 cbl:x.coll.blocks=bl
 cce:x.coll.cells=ce
 hb:bl=x.s.H.b
 inv:bF x.s.H
 all:∀ a,x.s.H.bn a=true→x.s.H.co a=(κ==1)
 bd:BI mu x.s.B
 nop:∀ i,i<mu→x.s.B.pend (i:Int)=false
 bV:∀ i m,x.muts[i]?=some m→IM κ i m
 bxs:∀ i,x.s.box i=[]
 stk:x.coll.stk=[]
 fl:x.s.flag=false∧x.coll.over=false
 q:(∀ k,x.s.Q.rw k=[])∧x.s.Q.opn=0∧x.s.Q.rows.length=4
 ph:x.coll.phase=0
 nx:x.coll.next = .nil
def gW (mu bl ce κ:Nat) (x:WS):CP:=⟨x.s.H,1 - κ,mu,bl,ce,0,fun i=>((x.muts[i]?).map MS.regs).getD []⟩
def gX (x:WS):WS:={ x with s:=(gI x.s x.coll).s,coll:={ (gI x.s x.coll).c with next:=(gI x.s x.coll).next } }
section
variable {p:CP} {x y:WS} {s s':Sh} {m m':MS} {i l l' ph ph' hf mu bl ce κ:Nat} {H:HS} {dead:List Nat} {q:Qu}
theorem Idl.congr (h:Idl mu bl ce κ x) (hs:y.s=x.s) (hm:y.muts=x.muts) (hc:y.coll.muts=x.coll.muts∧y.coll.color=x.coll.color∧y.coll.blocks=x.coll.blocks∧y.coll.cells=x.coll.cells∧y.coll.stk=x.coll.stk∧y.coll.over=x.coll.over∧y.coll.phase=x.coll.phase∧y.coll.next=x.coll.next):Idl mu bl ce κ y:=by
 obtain ⟨e1,e2,e3,e4,e5,e6,e7,e8⟩:=hc
 exact ⟨h.k2,h.mu8,by rw [hm];exact h.muts,e1.trans h.cmu,by rw [hs];exact h.box,e2.trans h.col,e3.trans h.cbl,e4.trans h.cce,by rw [hs];exact h.hb,by rw [hs];exact h.inv,by rw [hs];exact h.all,by rw [hs];exact h.bd,by rw [hs];exact h.nop,by rw [hm];exact h.bV,by rw [hs];exact h.bxs,e5.trans h.stk,by rw [hs,e6];exact h.fl,by rw [hs];exact h.q,e7.trans h.ph,e8.trans h.nx⟩
theorem Idl.start (h:Idl mu bl ce κ x):MInv (gW mu bl ce κ x) (gX x)∧(gW mu bl ce κ x).wkS (gX x).coll.next∧(gI x.s x.coll).ev=some (x.coll.ev 2 (x.coll.cycles+1))∧bF (gW mu bl ce κ x).H∧(gW mu bl ce κ x).bl=(gW mu bl ce κ x).H.b:=by
 obtain ⟨b1,b2,b3⟩:=h.bd.ask h.nop 1
 have hk2:=h.k2
 have hmu:=h.mu8
 have hnp:∀ a,x.s.H.bn a=true→¬ x.s.H.co a=(1 - κ==1):=fun a ha hc=>by
  rw [h.all a ha] at hc
  rcases (by omega:κ=0∨κ=1) with e|e<;>rw [e] at hc<;>cases hc
 refine ⟨⟨by show 1 - κ<2;omega,h.mu8,⟨x.s.H.co,rfl⟩,h.muts,h.cmu,h.box,by show 1 - x.coll.color=1 - κ;rw [h.col],h.cbl,h.cce,b1,fun i m hm=>?_,fun i hi hp=>⟨0,.arm,rfl,Nat.zero_le _⟩,⟨Nat.le_refl 1,by show 1≤5;omega⟩,⟨by show 0<mu;omega,.inl ⟨rfl,rfl⟩⟩,trivial,fun a ha=>?_,fun i v hv=>?_,fun a ha hc=>absurd hc (hnp a ha),trivial,(fun h4=>by exact absurd h4 (by show ¬ 4≤1;omega)),.inr fun a ha hc=>absurd hc (hnp a ha),fun j hj=>absurd hj (Nat.not_lt_zero _),(fun hh=>by cases hh),(fun hh=>by cases hh),h.q⟩,trivial,rfl,h.inv,h.hb⟩
 ·have g:=h.bV i m hm
  have hi:i<mu:=by rw [← h.muts];exact (List.getElem?_eq_some_iff.1 hm).1
  have hp:(gX x).s.B.pend (i:Int)=true:=(b2 i).trans (decide_eq_true hi)
  refine ⟨g.id,g.prog,?_,g.lg,.inl ⟨rfl,hp⟩,?_,fun _=>g.nx,fun _=>b3,fun hn=>absurd g.nx hn,by rw [g.nx];trivial,by rw [g.nx];trivial,fun v hv=>?_,(fun h3=>by exact absurd h3 (by show ¬ 3≤1;omega)),(fun h5=>by cases h5)⟩
  ·have hm':x.muts[i]?=some m:=hm
   show m.regs=((x.muts[i]?).map MS.regs).getD []
   rw [hm'];rfl
  ·rw [if_pos (.inl (by show 1<3;omega))]
   show m.color=1 - (1 - κ)
   rw [g.color];omega
  ·rw [g.buf] at hv;cases hv
 ·have ha':a∈x.coll.stk:=ha
  rw [h.stk] at ha';cases ha'
 ·have hv':v∈x.s.box i:=hv
  rw [h.bxs] at hv';cases hv'
theorem jl.Un (h:jl p x dead) (hd:x.coll.next = .idle):Idl p.mu p.bl p.ce p.κ (stepW x .idle)∧(aj x.s x.coll .idle).ev=some (x.coll.ev 4 x.coll.cycles)∧(∀ a,x.s.H.bn a=true↔p.Rch a):=by
 have hnw:∀ m u,x.coll.next ≠ .wait m u:=by rw [hd];intro m u e;cases e
 have opn:=h.opn;have qe:=h.qe;have rest:=h.rest
 rw [hd] at opn qe rest
 have hqe:∀ k,x.s.Q.rw k=[]:=qe rfl
 have hall:∀ a,x.s.H.bn a=true→p.Rch a:=fun a ha=>Classical.byContradiction fun hr=>by
  rcases rest a ha hr with ⟨b0,B,k,e1,e2,e3⟩|⟨B,k,j,e1,e2,e3⟩|⟨sl,e1,e2⟩
  ·cases e1
  ·rw [hqe j] at e3;cases e3
  ·cases e1
 refine ⟨⟨h.k2,h.mu8,h.muts,h.cmu,h.box,h.col,h.cbl,h.cce,?_,h.inv,fun a ha=>?_,h.bd,fun i hi=>h.nobody hnw hi,fun i m hm=>?_,h.bxs,h.stk,h.fl,⟨hqe,opn,h.ql⟩,rfl,rfl⟩,rfl,fun a=>⟨hall a,fun hr=>(h.bn a).2 ⟨hr.bn,fun hdd=>(h.dd a hdd).2 hr⟩⟩⟩
 ·show p.bl=x.s.H.b
  rw [h.geo.2.1];exact h.hbl
 ·have ha':x.s.H.bn a=true:=ha
  exact (h.co a ((h.bn a).1 ha').1).2 (hall a ha')
 ·have g:=h.bV i m hm
  refine ⟨g.id,g.prog,g.lg,g.color,g.buf,g.nx.resolve_right (fun hh=>?_)⟩
  rw [h.nobody hnw (h.lF hm)] at hh;cases hh.2
theorem Idl.AX (h:Idl mu bl ce κ x) (hm:x.muts[i]?=some m):aQ x.s m=(x.s,{ m with spent:=1,ans:=false },none)∧Idl mu bl ce κ { x with muts:=x.muts.set i { m with spent:=1,ans:=false } }:=by
 have g:=h.bV i m hm
 have hlt:=(List.getElem?_eq_some_iff.1 hm).1
 have hi:i<mu:=by rw [← h.muts];exact hlt
 have hp:=h.nop i hi
 have hb:bI x.s m = .nil:=by
  unfold bI
  rw [g.id,hp,if_neg (by decide),List.getElem?_eq_none g.prog]
 have e:aQ x.s m=(x.s,{ m with spent:=1,ans:=false },none):=by
  unfold aQ
  rw [if_pos (by rw [g.nx];rfl),hb,g.id,hp,← g.nx]
 refine ⟨e,h.k2,h.mu8,by show (x.muts.set i _).length=mu;rw [List.length_set];exact h.muts,h.cmu,h.box,h.col,h.cbl,h.cce,h.hb,h.inv,h.all,h.bd,h.nop,fun j mj hj=>?_,h.bxs,h.stk,h.fl,h.q,h.ph,h.nx⟩
 have hj':(x.muts.set i { m with spent:=1,ans:=false })[j]?=some mj:=hj
 by_cases ej:j=i
 ·subst ej
  rw [List.getElem?_set_self hlt] at hj'
  cases hj'
  exact ⟨g.id,g.prog,g.lg,g.color,g.buf,g.nx⟩
 ·rw [List.getElem?_set_ne (fun e'=>ej e'.symm)] at hj'
  exact h.bV j mj hj'
inductive Cyc (p:CP):WS→List Nat→Prop
 | mark {x:WS}:MInv p x→p.wkS x.coll.next→Cyc p x []
 | sweep {x:WS} {dead:List Nat}:jl p x dead→Cyc p x dead
theorem mW (x:WS) {i:Nat} {m:MS} (hm:x.muts[i]?=some m):(bC x i).s=(aQ x.s m).1∧(bC x i).muts=x.muts.set i (aQ x.s m).2.1∧(bC x i).coll=x.coll:=by
 unfold bC
 rw [hm]
 cases h:(aQ x.s m).2.2<;>exact ⟨by simp only [h,WS.tell],by simp only [h,WS.tell],by simp only [h,WS.tell]⟩
theorem Cyc.congr (h:Cyc p x dead) (hs:y.s=x.s) (hm:y.muts=x.muts) (hc:y.coll=x.coll):Cyc p y dead:=by
 cases h with
 | mark h1 h2=>exact .mark (h1.congr hs hm hc) (by rw [hc];exact h2)
 | sweep h1=>exact .sweep (h1.congr hs hm hc)
theorem Cyc.AX (hI:bF p.H) (hb:p.bl=p.H.b) (h:Cyc p x dead) (hm:x.muts[i]?=some m):Cyc p (bC x i) dead∧(aQ x.s m).2.2=none:=by
 obtain ⟨e1,e2,e3⟩:=mW x hm
 cases h with
 | mark h1 h2 =>
   obtain ⟨u,_,g⟩:=yD (hI.cpk hb) h1 hm
   refine ⟨?_,g⟩
   have:=h1.mu hm u
   exact .mark (this.congr e1 e2 e3) (by rw [e3];exact h2)
 | sweep h1 =>
   obtain ⟨s',m',g1,g2,_⟩:=rX h1 hm
   rw [g1] at e1 e2 ⊢
   exact ⟨.sweep (g2.congr e1 e2 e3),rfl⟩
inductive uF (p:CP) (x:WS) (dead:List Nat) (x':WS) (eP:List Nat) (ev:Option Ev):Prop
 | none:ev=none→eP=dead→Cyc p x' eP→uF p x dead x' eP ev
 | marked:ev=some (x.coll.ev 3 x.coll.cycles)→eP=[]→dead=[]→Cyc p x' eP→x.coll.next = .marked→x'.coll.phase=6→x'.coll.stk=[]→(∀ a,p.Rch a↔p.H.bn a=true∧x'.s.H.co a=p.kb)→x'.s.H.bn=p.H.bn→uF p x dead x' eP ev
 | freed {a:Nat}:ev=some (x.coll.ev 5 a)→eP=dead++[a]→Cyc p x' eP→jl p x dead→x'.s.H.bn a=false→uF p x dead x' eP ev
 | Ob:ev=some (x.coll.ev 4 x.coll.cycles)→eP=dead→Idl p.mu p.bl p.ce p.κ x'→jl p x dead→x.coll.next = .idle→x'=stepW x .idle→(∀ a,x'.s.H.bn a=true↔p.Rch a)→uF p x dead x' eP ev
theorem Cyc.step (hI:bF p.H) (hb:p.bl=p.H.b) (h:Cyc p x dead) (d:CD) (hd:x.coll.next=d):∃ eP,uF p x dead (stepW x d) eP (aj x.s x.coll d).ev:=by
 cases h with
 | mark h1 h2 =>
   by_cases e:d = .marked
   ·subst e
    obtain ⟨g1,g2⟩:=h1.RZ hI hb hd
    obtain ⟨m1,_,_,_,_,m6,_⟩:=h1.marked (hI.cpk hb) hd
    obtain ⟨f,hH⟩:=h1.heap
    exact ⟨[],.marked g2 rfl rfl (.sweep g1) hd rfl m6 m1 (by show x.s.H.bn=_;rw [hH])⟩
   ·obtain ⟨g1,g2,g3⟩:=qg (hI.cpk hb) h1 h2 d hd e
    exact ⟨[],.none g3 rfl (.mark g1 g2)⟩
 | sweep h1 =>
   by_cases e:d = .idle
   ·subst e
    obtain ⟨g1,g2,g3⟩:=h1.Un hd
    exact ⟨dead,.Ob g2 rfl g1 h1 hd rfl g3⟩
   ·obtain ⟨eP,g1,g2⟩:=Hu h1 d hd e
    rcases g2 with ⟨g2,rfl⟩|⟨a,g2,rfl,g3⟩
    ·exact ⟨_,.none g2 rfl (.sweep g1)⟩
    ·exact ⟨_,.freed g2 rfl (.sweep g1) h1 g3⟩
theorem Cyc.busy (h:Cyc p x dead):kR x.coll.next=false:=by
 cases h with
 | mark h1 h2 =>
   have:=h1.shp
   cases e:x.coll.next with
   | nil=>rw [e] at this;exact this.elim
   | _=>rfl
 | sweep h1 =>
   have:=h1.shp
   cases e:x.coll.next with
   | nil=>rw [e] at this;exact this.elim
   | _=>rfl
theorem Cyc.Qn (hI:bF p.H) (hb:p.bl=p.H.b) (h:Cyc p x dead):∃ eP,uF p x dead { x with s:=(aW x.s x.coll).s,coll:=(aW x.s x.coll).c } eP (aW x.s x.coll).ev:=by
 obtain ⟨eP,g⟩:=h.step hI hb x.coll.next rfl
 refine ⟨eP,?_⟩
 have e:aW x.s x.coll=⟨(aj x.s x.coll x.coll.next).s,{ (aj x.s x.coll x.coll.next).c with next:=(aj x.s x.coll x.coll.next).next },(aj x.s x.coll x.coll.next).next,(aj x.s x.coll x.coll.next).ev⟩:=by
  unfold aW
  rw [h.busy];rfl
 rw [e]
 exact g
end
end
end Go.Proofs.YtanfphjoebobaaaGreatDoor
