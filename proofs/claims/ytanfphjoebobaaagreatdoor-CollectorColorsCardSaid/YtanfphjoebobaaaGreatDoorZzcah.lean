/- Parts of a walk, put together and made shorter by a program of mine. No conditions. -/
import Derived.Test.YtanfphjoebobaaaGreatDoorZzcag
namespace Go.Proofs.YtanfphjoebobaaaGreatDoor
section
theorem BI.pend {mu:Nat} {b:Bd} (h:BI mu b) (i:Nat):b.pend (i:Int)=b.os.getD i false:=by
 unfold Bd.pend Bd.is Bd.isOpen
 rw [h.muts,Int.toNat_natCast]
 by_cases hi:i<mu
 ·rw [decide_eq_true (by omega),decide_eq_true (by omega),Bool.true_and,Bool.true_and]
 ·rw [h.out i (by omega)];simp
theorem BI.RX {mu:Nat} {b:Bd} (h:BI mu b) {i:Nat} (hp:b.pend (i:Int)=true):i<mu:=by
 rw [h.pend] at hp
 rcases Nat.lt_or_ge i mu with h1|h1
 ·exact h1
 ·rw [h.out i h1] at hp;cases hp
theorem BI.ans {mu:Nat} {b:Bd} (h:BI mu b) (i:Nat):BI mu (b.gu (i:Int))∧(∀ j:Nat,(b.gu (i:Int)).pend (j:Int)=if j=i then false else b.pend (j:Int))∧(b.gu (i:Int)).kind=b.kind:=by
 unfold Bd.gu
 by_cases hp:b.pend (i:Int)=true
 ·rw [if_pos hp]
  have hi:=h.RX hp
  have hb:BI mu (b.close (i:Int)):=by
   refine ⟨h.muts,?_,h.le,fun j hj=>?_⟩
   ·show (b.os.set _ false).length=8
    rw [List.length_set];exact h.len
   ·show (b.os.set (i:Int).toNat false).getD j false=false
    rw [Int.toNat_natCast,List.getD_eq_getElem?_getD,List.getElem?_set_ne (by omega),← List.getD_eq_getElem?_getD]
    exact h.out j hj
  refine ⟨hb,fun j=>?_,rfl⟩
  rw [hb.pend,h.pend]
  show (b.os.set (i:Int).toNat false).getD j false=_
  rw [Int.toNat_natCast,List.getD_eq_getElem?_getD]
  by_cases e:j=i
  ·subst e
   have:=h.len;have:=h.le
   rw [if_pos rfl,List.getElem?_set_self (by omega)];rfl
  ·rw [if_neg e,List.getElem?_set_ne (fun e'=>e e'.symm),← List.getD_eq_getElem?_getD]
 ·rw [if_neg hp]
  refine ⟨h,fun j=>?_,rfl⟩
  by_cases e:j=i
  ·subst e
   rw [if_pos rfl];simpa using hp
  ·rw [if_neg e]
theorem Dy {l:List Bool} (h:∀ i,l.getD i false=false):kT l=false:=by
 have key:∀ l:List Bool,(∀ b∈l,b=false)→kT l=false:=fun l hl=>by
  rw [Bool.eq_false_iff]
  intro hh
  first
   | (unfold kT at hh
      rw [List.any_eq_true] at hh
      obtain ⟨b,hb,hb2⟩:=hh
      rw [hl b hb] at hb2;cases hb2)
 refine key l (fun b hb=>?_)
 obtain ⟨i,hi,rfl⟩:=List.mem_iff_getElem.1 hb
 have:=h i
 rw [List.getD_eq_getElem?_getD,List.getElem?_eq_getElem hi] at this
 exact this
theorem pW:∀ (k:Nat) (l:List Bool) (j:Nat),k≤l.length→(lN k l).length=l.length∧(lN k l).getD j false=if j<k then true else l.getD j false
 | 0,l,j,_=>⟨rfl,by rw [if_neg (by omega)];rfl⟩
 | k+1,l,j,hk=>by
   obtain ⟨h1,h2⟩:=pW k l j (by omega)
   refine ⟨by show ((lN k l).set k true).length=_;rw [List.length_set];exact h1,?_⟩
   show ((lN k l).set k true).getD j false=_
   rw [List.getD_eq_getElem?_getD]
   by_cases e:k=j
   ·subst e
    rw [List.getElem?_set_self (by omega),if_pos (by omega)];rfl
   ·rw [List.getElem?_set_ne e,← List.getD_eq_getElem?_getD,h2]
    by_cases h3:j<k
    ·rw [if_pos h3,if_pos (by omega)]
    ·rw [if_neg h3,if_neg (by omega)]
theorem BI.ask {mu:Nat} {b:Bd} (h:BI mu b) (h0:∀ i,i<mu→b.pend (i:Int)=false) (k:Nat):BI mu (b.kX (k:Int))∧(∀ j:Nat,(b.kX (k:Int)).pend (j:Int)=decide (j<mu))∧(b.kX (k:Int)).kind=(k:Int):=by
 have ha:b.all=true:=by
  unfold Bd.all
  rw [Dy (fun i=>?_)];rfl
  rcases Nat.lt_or_ge i mu with h1|h1
  ·rw [← h.pend];exact h0 i h1
  ·exact h.out i h1
 have hle:=h.le;have hlen:=h.len
 have hm:b.muts.toNat=mu:=by rw [h.muts,Int.toNat_natCast]
 unfold Bd.kX
 rw [if_pos ha,hm]
 have hb:BI mu (b.asked (k:Int) mu):=by
  refine ⟨h.muts,?_,h.le,fun j hj=>?_⟩
  ·exact (pW mu b.os 0 (by omega)).1.trans hlen
  ·exact (pW mu b.os j (by omega)).2.trans (by rw [if_neg (by omega)];exact h.out j hj)
 refine ⟨hb,fun j=>?_,rfl⟩
 rw [hb.pend]
 refine (pW mu b.os j (by omega)).2.trans ?_
 by_cases h1:j<mu
 ·rw [if_pos h1,decide_eq_true h1]
 ·rw [if_neg h1,decide_eq_false h1];exact h.out j (by omega)
section
variable {p:CP} {x y:WS} {s s':Sh} {m m':MS} {i l l' ph:Nat}
theorem CP.yB {co co':Nat→Bool} (hm:∀ a,p.H.bn a=true→co a=p.kb→co' a=p.kb) {v:Nat} (h:p.okv co l v):p.okv co' l v:=fun hb=>(h hb).imp (hm v hb) (fun h=>h)
theorem CP.FM (h0:p.H.bn 0=false) {co:Nat→Bool}:p.okv co l 0:=fun hb=>by rw [h0] at hb;cases hb
theorem uq (hk:p.κ<2) {f:Nat→Bool} (v a:Nat):(HS.aY { p.H with co:=f } v p.κ).co a=if a=v∧p.H.bn v=true then p.kb else f a:=by
 unfold HS.aY HS.dw
 have hkk:decide (p.κ<2)=true:=decide_eq_true hk
 show HS.co (if (p.H.bn v&&decide (p.κ<2)&&(f v != (p.κ==1)))=true then _ else _) a=_
 rw [hkk,Bool.and_true]
 unfold CP.kb
 by_cases hb:p.H.bn v=true
 ·rw [hb,Bool.true_and]
  by_cases hc:f v=(p.κ==1)
  ·rw [hc]
   simp only [bne_self_eq_false,Bool.false_eq_true,if_false]
   by_cases ha:a=v
   ·subst ha;rw [if_pos ⟨rfl,trivial⟩];exact hc
   ·rw [if_neg (fun h=>ha h.1)]
  ·have:(f v != (p.κ==1))=true:=by simpa [bne] using hc
   rw [this,if_pos rfl]
   show upd f v (p.κ==1) a=_
   unfold upd
   by_cases ha:a=v
   ·rw [if_pos ha,if_pos ⟨ha,rfl⟩]
   ·rw [if_neg ha,if_neg (fun h=>ha h.1)]
 ·have hb':p.H.bn v=false:=by simpa using hb
  rw [if_neg (fun h:a=v∧p.H.bn v=true=>hb h.2),hb',Bool.false_and,if_neg (by decide)]
theorem zS {f:Nat→Bool} (v c:Nat):∃ f',HS.aY { p.H with co:=f } v c={ p.H with co:=f' }:=by
 unfold HS.aY
 split
 ·exact ⟨_,rfl⟩
 ·exact ⟨f,rfl⟩
theorem pX (hk:p.κ<2) {f:Nat→Bool} (v:Nat):HS.dw { p.H with co:=f } v p.κ=true↔p.H.bn v=true∧f v≠p.kb:=by
 unfold HS.dw CP.kb
 rw [decide_eq_true hk]
 simp [bne]
theorem uw (hk:p.κ<2) {f:Nat→Bool} (v:Nat):(HS.dA { p.H with co:=f } v==p.κ)=true↔f v=p.kb:=by
 unfold HS.dA CP.kb
 show ((if f v=true then 1 else 0)==p.κ)=true↔_
 rcases (by omega:p.κ=0∨p.κ=1) with e|e<;>rw [e]<;>cases f v<;>decide
theorem MInv.congr (h:MInv p x) (hs:y.s=x.s) (hm:y.muts=x.muts) (hc:y.coll=x.coll):MInv p y:=by
 obtain ⟨a,b,c,d,e⟩:=x
 obtain ⟨a',b',c',d',e'⟩:=y
 cases hs;cases hm;cases hc
 exact ⟨h.k2,h.mu8,h.heap,h.muts,h.cmu,h.box,h.col,h.cbl,h.cce,h.bd,h.bV,h.wt,h.ph,h.shp,h.src,h.stk,h.bxs,h.pnt,h.fld,h.cel,h.clo,h.bx,h.stk0,h.mk0,h.q⟩
theorem CP.gZ {ok ok':Nat→Prop} (hm:∀ v,ok v→ok' v):∀ d:CD,p.iK ok d→p.iK ok' d
 | .look _ t,h=>CP.gZ hm t h
 | .field _ _ _ t,h=>⟨⟨h.1.1,h.1.2.1,fun j hj=>hm _ (h.1.2.2 j hj)⟩,CP.gZ hm t h.2⟩
 | .object _ t,h=>CP.gZ hm t h
 | .slots _ t,h=>CP.gZ hm t h
 | .empty t,h=>CP.gZ hm t h
 | .nil,_=>trivial
 | .wait _ _,_=>trivial
 | .arm,_=>trivial
 | .scan,_=>trivial
 | .trace,_=>trivial
 | .work,_=>trivial
 | .over,_=>trivial
 | .drain,_=>trivial
 | .marked,_=>trivial
 | .sweep,_=>trivial
 | .rests,_=>trivial
 | .off,_=>trivial
 | .idle,_=>trivial
 | .cell _,_=>trivial
 | .box _,_=>trivial
 | .walk _,_=>trivial
 | .enqueue _,_=>trivial
 | .block _,_=>trivial
theorem MI.others (h:MI p s l ph i m) (hp:s'.B.pend (i:Int)=s.B.pend (i:Int)) (hk:s'.B.kind=s.B.kind) (hb:s'.box i=s.box i) (hm:∀ a,p.H.bn a=true→s.H.co a=p.kb→s'.H.co a=p.kb):MI p s' l ph i m :=
 ⟨h.id,h.prog,h.regs,h.lg,by rw [hp];exact h.want,by rw [hp];exact h.color,by rw [hp];exact h.idle,by rw [hp,hk];exact h.kind,h.FK,h.shp,h.gd,h.buf,
  by rw [hp,hb];exact fun a b v hv=>(h.reg a b v hv).imp (CP.yB hm) (fun h=>h),by rw [hp];exact h.buf5⟩
structure MU (p:CP) (s:Sh) (m:MS) (l ph i:Nat) (s':Sh) (m':MS):Prop where
 heap:∃ f,s'.H={ p.H with co:=f }
 mono:∀ a,p.H.bn a=true→s.H.co a=p.kb→s'.H.co a=p.kb
 pnt:∀ a,p.H.bn a=true→s'.H.co a=p.kb→p.Rch a
 len:s'.boxes.length=s.boxes.length
 oth:∀ j,j≠i→s'.box j=s.box j
 bx:∀ v∈s'.box i,p.good v
 bxw:s'.box i=s.box i∨s.B.pend (i:Int)=true
 bd:BI p.mu s'.B
 kind:s'.B.kind=s.B.kind
 pend:∀ j:Nat,j≠i→s'.B.pend (j:Int)=s.B.pend (j:Int)
 KH:s'.B.pend (i:Int)=true→s.B.pend (i:Int)=true
 q:s'.Q=s.Q
 mi:MI p s' l ph i m'
 flag:s.flag=true→s'.flag=true
 flag2:s'.flag=true→s.flag=true∨s.B.pend (i:Int)=true
 pr:prM m.next=true→prM m'.next=true∨s'.flag=true
 new:∀ a,p.H.bn a=true→s'.H.co a=p.kb→s.H.co a=p.kb∨prM m'.next=true∨s'.flag=true
theorem MInv.mu (h:MInv p x) (hm:x.muts[i]?=some m) (u:MU p x.s m (lookOf x.coll.next) x.coll.phase i s' m'):MInv p { x with s:=s',muts:=x.muts.set i m' }:=by
 have hlt:=(List.getElem?_eq_some_iff.1 hm).1
 have oW:i<p.mu:=by rw [← h.muts];exact hlt
 have jW:∀ v,p.okv x.s.H.co (lookOf x.coll.next) v→p.okv s'.H.co (lookOf x.coll.next) v:=fun v=>CP.yB u.mono
 have hpw:pwW x→pwW { x with s:=s',muts:=x.muts.set i m' }:=by
  rintro (hf|ho|⟨j,mj,hj,hpr⟩)
  ·exact .inl (u.flag hf)
  ·exact .inr (.inl ho)
  ·by_cases e:j=i
   ·subst e
    rw [hm] at hj;cases hj
    rcases u.pr hpr with h1|h1
    ·exact .inr (.inr ⟨j,m',by show (x.muts.set j m')[j]?=_;rw [List.getElem?_set_self hlt],h1⟩)
    ·exact .inl h1
   ·exact .inr (.inr ⟨j,mj,by show (x.muts.set i m')[j]?=_;rw [List.getElem?_set_ne (fun e'=>e e'.symm)];exact hj,hpr⟩)
 refine ⟨h.k2,h.mu8,u.heap,by show (x.muts.set i m').length=_;rw [List.length_set];exact h.muts,h.cmu,u.len.trans h.box,h.col,h.cbl,h.cce,u.bd,fun j mj hj=>?_,fun j hj hp=>?_,h.ph,h.shp,h.src,h.stk,fun j v hv=>?_,u.pnt,
  CP.gZ jW _ h.fld,fun h4 j hj=>jW _ (h.cel h4 j hj),?_,fun j hj=>?_,h.stk0,fun hmk=>?_,by rw [show ({ x with s:=s',muts:=x.muts.set i m' }:WS).s.Q=x.s.Q from u.q];exact h.q⟩
 ·have hj':(x.muts.set i m')[j]?=some mj:=hj
  by_cases e:j=i
  ·subst e
   rw [List.getElem?_set_self hlt] at hj'
   cases hj'
   exact u.mi
  ·rw [List.getElem?_set_ne (fun e'=>e e'.symm)] at hj'
   exact (h.bV j mj hj').others (u.pend j e) u.kind (u.oth j e) u.mono
 ·by_cases e:j=i
  ·subst e;exact h.wt j hj (u.KH hp)
  ·exact h.wt j hj (by rw [← u.pend j e];exact hp)
 ·by_cases e:j=i
  ·subst e;exact u.bx v hv
  ·exact h.bxs j v (by rw [← u.oth j e];exact hv)
 ·rcases h.clo with h1|h1
  ·exact .inl (hpw h1)
  ·by_cases hw:prM m'.next=true∨s'.flag=true
   ·refine .inl ?_
    rcases hw with h2|h2
    ·exact .inr (.inr ⟨i,m',by show (x.muts.set i m')[i]?=_;rw [List.getElem?_set_self hlt],h2⟩)
    ·exact .inl h2
   ·refine .inr fun a ha hc=>?_
    rcases u.new a ha hc with h2|h2
    ·rcases h1 a ha h2 with h3|h3|h3
     ·exact .inl h3
     ·exact .inr (.inl h3)
     ·exact .inr (.inr fun j hj=>jW _ (h3 j hj))
    ·exact absurd h2 hw
 ·by_cases e:j=i
  ·subst e
   rcases u.bxw with h1|h1
   ·show s'.box j=[];rw [h1];exact h.bx j hj
   ·obtain ⟨k,t,ht,_⟩:=h.wt j oW h1
    exfalso
    have hj':j<p.jR x.coll.next:=hj
    rw [ht] at hj'
    exact Nat.not_lt_zero _ hj'
  ·exact (u.oth j e).trans (h.bx j hj)
 ·obtain ⟨h1,h2⟩:=h.mk0 hmk
  refine ⟨?_,h2⟩
  by_cases hf:s'.flag=true
  ·rcases u.flag2 hf with h3|h3
   ·rw [h1] at h3;cases h3
   ·obtain ⟨k,t,ht,_⟩:=h.wt i oW h3
    have hmk':x.coll.next = .marked:=hmk
    rw [hmk'] at ht;cases ht
  ·show s'.flag=false
   simpa using hf
end
def cntF (f:Nat→Bool) (n:Nat):Nat:=((List.range n).filter f).length
theorem Cj (f:Nat→Bool) (n:Nat):cntF f (n+1)=cntF f n+(if f n then 1 else 0):=by
 unfold cntF
 rw [List.range_succ,List.filter_append,List.length_append,List.filter_cons]
 split<;>simp
theorem KI {f g:Nat→Bool} {n:Nat} (h:∀ k,k<n→f k=g k):cntF f n=cntF g n:=by
 unfold cntF
 rw [List.filter_congr (fun x hx=>h x (List.mem_range.1 hx))]
theorem FN {f g:Nat→Bool} {v:Nat} (hf:f v=true) (hg:g v=false) (h:∀ k,k≠v→f k=g k):∀ n,v<n→cntF g n+1=cntF f n
 | 0,hv=>absurd hv (Nat.not_lt_zero _)
 | n+1,hv=>by
   rw [Cj,Cj]
   by_cases e:v=n
   ·subst e
    rw [hf,hg,KI (f:=f) (g:=g) (fun k hk=>h k (by omega))]
    simp
   ·have:=FN hf hg h n (by omega)
    rw [h n (fun e'=>e e'.symm)]
    omega
structure CPk (p:CP) (hf:Nat):Prop where
 bn:∀ a,p.H.bn a=true→1≤a∧a<p.H.sz
 nf:∀ a,(p.H.aT a).1≤15
 ahead:∀ a,p.H.bn a=true→∃ B,B<p.bl∧a∈p.H.slots B
 slen:∀ B,(p.H.slots B).length≤hf
theorem CPk.bn0 {p:CP} {hf:Nat} (k:CPk p hf):p.H.bn 0=false:=by
 rw [Bool.eq_false_iff]
 intro h
 have:=(k.bn 0 h).1
 omega
def CP.U (p:CP) (co:Nat→Bool):Nat:=cntF (fun a=>p.H.bn a&&(co a != p.kb)) p.H.sz
def left:MD→Nat
 | .once _=>1
 | .note _ _ t=>8+left t
 | .add _ t=>4+left t
 | .pour _ t=>3+left t
 | .dG _ _ t=>2+left t
 | .raise t=>1+left t
 | _=>0
def bZ (s:Sh) (i:Nat) (m:MS):Nat:=3*m.buf.length+if s.B.pend (i:Int) then (if isNil m.next then 1+left (bI s m) else left m.next) else 0
section
variable {p:CP} {x y:WS} {s s':Sh} {m m':MS} {i l l' ph hf:Nat}
theorem CP.Iy (k:CPk p hf) (hk:p.κ<2) {f:Nat→Bool} {v:Nat} (hp:HS.dw { p.H with co:=f } v p.κ=true):p.U (HS.aY { p.H with co:=f } v p.κ).co+1=p.U f:=by
 obtain ⟨h1,h2⟩:=(pX hk v).1 hp
 refine FN (v:=v) ?_ ?_ (fun a ha=>?_) _ (k.bn v h1).2
 ·rw [h1];simpa [bne] using h2
 ·rw [uq hk,if_pos ⟨rfl,h1⟩,h1];simp
 ·rw [uq hk,if_neg (fun h=>ha h.1)]
structure MC (p:CP) (s:Sh) (m:MS) (i:Nat) (s':Sh) (m':MS):Prop where
 less:bZ s' i m'+2*(s'.box i).length+1≤bZ s i m+2*(s.box i).length
 pnt:p.U s'.H.co+1≤p.U s.H.co∨(p.U s'.H.co=p.U s.H.co∧(prM m'.next=true∨s'.flag=true→prM m.next=true∨s.flag=true))
theorem MI.of {m1 m2:MS} (h:MI p s l ph i m1) (e:m2.id=m1.id∧m2.prog=m1.prog∧m2.res=m1.res∧m2.regs=m1.regs∧m2.c=m1.c∧m2.want=m1.want∧m2.color=m1.color∧m2.buf=m1.buf∧m2.next=m1.next):MI p s l ph i m2:=by
 obtain ⟨e1,e2,e3,e4,e5,e6,e7,e8,e9⟩:=e
 exact ⟨by rw [e1];exact h.id,by rw [e2,e3];exact h.prog,by rw [e4];exact h.regs,by rw [e5];exact h.lg,by rw [e6];exact h.want,by rw [e7];exact h.color,by rw [e9];exact h.idle,h.kind,by rw [e9];exact h.FK,by rw [e8,e9];exact h.shp,by rw [e9];exact h.gd,by rw [e8];exact h.buf,by rw [e4,e8,e9];exact h.reg,by rw [e8];exact h.buf5⟩
theorem MI.step (h:MI p s l ph i m) (hp:s.B.pend (i:Int)=true) {b:List Nat} {t:MD} (hh:s'.H.co=s.H.co∨∀ a,p.H.bn a=true→s.H.co a=p.kb→s'.H.co a=p.kb) (hB:s'.B=s.B) (hn:t ≠ .nil) (he:nV t=nV m.next) (hm:m.next ≠ .nil) (hs:AO b t) (hg:p.nI t) (hb:∀ v∈b,p.good v)
 (hr:∀ v,p.okv s.H.co l v∨v∈m.buf∨v∈s.box i∨v∈kH m.next→p.okv s'.H.co l v∨v∈b∨v∈s'.box i∨v∈kH t):MI p s' l ph i { m with buf:=b,next:=t }:=by
 refine ⟨h.id,h.prog,h.regs,h.lg,by rw [hB];exact h.want,by rw [hB];exact h.color,fun hf=>?_,by rw [hB];exact h.kind,fun _=>he.trans (h.FK hm),hs,hg,hb,fun h3 hx v hv=>?_,fun _ hf=>?_⟩
 ·rw [hB,hp] at hf;cases hf
 ·exact hr v (h.reg h3 (fun hh=>hm hh.2.2) v hv)
 ·rw [hB,hp] at hf;cases hf
theorem MInv.Iz (h:MInv p x) {i:Nat} (hi:i<p.mu) (hp:x.s.B.pend (i:Int)=true):x.coll.phase=1∨x.coll.phase=2∨x.coll.phase=3∨x.coll.phase=5:=by
 obtain ⟨k,t,ht,_⟩:=h.wt i hi hp
 have hs:=h.shp
 rw [ht] at hs
 obtain ⟨_,hs⟩:=hs
 omega
theorem MU.same (h:MInv p x) (hm:x.muts[i]?=some m) (hmi:MI p x.s (lookOf x.coll.next) x.coll.phase i m') (hpr:prM m.next=true→prM m'.next=true):MU p x.s m (lookOf x.coll.next) x.coll.phase i x.s m' :=
 ⟨h.heap,fun _ _ h=>h,h.pnt,rfl,fun _ _=>rfl,h.bxs i,.inl rfl,h.bd,rfl,fun _ _=>rfl,fun h=>h,rfl,hmi,fun h=>h,.inl,fun hp => .inl (hpr hp),fun _ _ h => .inl h⟩
theorem uy {t:MD} (h:oq t):t ≠ .nil:=by
 intro e;rw [e] at h;exact h
theorem yC {t:MD} (h:qZ t):t ≠ .nil:=by
 intro e;rw [e] at h;exact h
theorem ru {t:MD} {b:List Nat} (h:oq t):AO b t:=by
 cases t with
 | once k =>
   have h3:k=3:=h
   intro h5
   rw [h3] at h5;cases h5
 | note _ _ _=>exact h
 | _=>exact h.elim
theorem vP {t:MD} (h:qZ t):AO [] t:=by
 cases t with
 | once k=>exact fun _=>rfl
 | add _ _=>exact ⟨rfl,h⟩
 | _=>exact h.elim
theorem uz {t:MD} (h:oq t):prM t=false:=by
 cases t with
 | once k=>rfl
 | note _ _ _=>rfl
 | _=>exact h.elim
theorem FP {t:MD} (h:qZ t):prM t=false:=by
 cases t with
 | once k=>rfl
 | add _ _=>rfl
 | _=>exact h.elim
theorem FQ {d:MD} (h:isNil d=false):d ≠ .nil:=by intro e;rw [e] at h;cases h
theorem mO {d:MD} (h:d ≠ .nil):isNil d=false:=by cases d<;>first|rfl|exact absurd rfl h
theorem Ql (k:CPk p hf) (h:MInv p x) (hm:x.muts[i]?=some m) (hn:isNil m.next=false) (d:MD) (hd:m.next=d) :
 MU p x.s m (lookOf x.coll.next) x.coll.phase i (stepM x.s { m with spent:=m.spent+1 } d).s { (stepM x.s { m with spent:=m.spent+1 } d).m with next:=(stepM x.s { m with spent:=m.spent+1 } d).next } ∧
 MC p x.s m i (stepM x.s { m with spent:=m.spent+1 } d).s { (stepM x.s { m with spent:=m.spent+1 } d).m with next:=(stepM x.s { m with spent:=m.spent+1 } d).next } ∧
 (stepM x.s { m with spent:=m.spent+1 } d).ev=none:=by
 have mi:=h.bV i m hm
 have hlt:=(List.getElem?_eq_some_iff.1 hm).1
 have oW:i<p.mu:=by rw [← h.muts];exact hlt
 have hne:=FQ hn
 have hp:x.s.B.pend (i:Int)=true:=by
  cases hb:x.s.B.pend (i:Int)
  ·exact absurd (mi.idle hb) hne
  ·rfl
 have hph:=h.Iz oW hp
 have hk2:=h.k2
 obtain ⟨f,hH⟩:=h.heap
 have hco:x.s.H.co=f:=by rw [hH]
 have hbn:x.s.H.bn=p.H.bn:=by rw [hH]
 have htd:bZ x.s i m=3*m.buf.length+left m.next:=by
  unfold bZ
  rw [hp,if_pos rfl,hn];rfl
 have td2:∀ (s':Sh) (m':MS),s'.B=x.s.B→isNil m'.next=false→bZ s' i m'=3*m'.buf.length+left m'.next:=fun s' m' e1 e2=>by
  unfold bZ
  rw [e1,hp,if_pos rfl,e2];rfl
 have nJ:=mi.shp
 have hgd:=mi.gd
 have hend:=mi.FK hne
 cases d with
 | once kk =>
   rw [hd] at hend nJ htd
   have hkk:kk=(x.coll.phase:Int):=hend
   obtain ⟨b1,b2,b3⟩:=h.bd.ans i
   have eid:m.id=i:=mi.id
   have hp':(x.s.B.gu (m.id:Int)).pend (i:Int)=false:=by rw [eid,b2 i,if_pos rfl]
   have hst:(stepM x.s { m with spent:=m.spent+1 } (.once kk)).s={ x.s with B:=x.s.B.gu (m.id:Int) }:=rfl
   have hmm:(stepM x.s { m with spent:=m.spent+1 } (.once kk)).m=dZ { m with spent:=m.spent+1 } kk:=rfl
   have hnx:(stepM x.s { m with spent:=m.spent+1 } (.once kk)).next = .nil:=rfl
   rw [hst,hmm,hnx]
   have AP:=mi.reg
   rw [hd] at AP
   have hO:(dZ { m with spent:=m.spent+1 } kk).id=m.id∧(dZ { m with spent:=m.spent+1 } kk).prog=m.prog∧(dZ { m with spent:=m.spent+1 } kk).res=m.res∧(dZ { m with spent:=m.spent+1 } kk).regs=m.regs∧(dZ { m with spent:=m.spent+1 } kk).c=m.c ∧
    (dZ { m with spent:=m.spent+1 } kk).want=p.κ∧(dZ { m with spent:=m.spent+1 } kk).color=(if x.coll.phase<3 then 1 - p.κ else p.κ)∧((dZ { m with spent:=m.spent+1 } kk).buf=m.buf∨(x.coll.phase=1∧(dZ { m with spent:=m.spent+1 } kk).buf=[])):=by
    have hw:=mi.want
    have hc:=mi.color
    rcases hph with e|e|e|e<;>rw [e] at hkk hw hc ⊢ <;> subst hkk
    ·rw [if_pos (by omega)] at hc
     exact ⟨rfl,rfl,rfl,rfl,rfl,by show 1 - m.color=_;rw [hc];omega,hc,.inr ⟨rfl,rfl⟩⟩
    ·rw [if_pos (by omega)] at hc
     exact ⟨rfl,rfl,rfl,rfl,rfl,hw.resolve_left (fun h=>by omega),hc,.inl rfl⟩
    ·exact ⟨rfl,rfl,rfl,rfl,rfl,hw.resolve_left (fun h=>by omega),hw.resolve_left (fun h=>by omega),.inl rfl⟩
    ·rw [if_neg (by omega)] at hc
     exact ⟨rfl,rfl,rfl,rfl,rfl,hw.resolve_left (fun h=>by omega),hc,.inl rfl⟩
   generalize dZ { m with spent:=m.spent+1 } kk=M at *
   obtain ⟨e1,e2,e3,e4,e5,e6,e7,e8⟩:=hO
   have hbl:M.buf.length≤m.buf.length:=by
    rcases e8 with e|⟨_,e⟩<;>rw [e]
    ·exact Nat.le_refl _
    ·exact Nat.zero_le _
   refine ⟨⟨h.heap,fun _ _ h=>h,h.pnt,rfl,fun _ _=>rfl,h.bxs i,.inl rfl,by rw [eid];exact b1,by rw [eid];exact b3,fun j hj=>by show (x.s.B.gu (m.id:Int)).pend _=_;rw [eid,b2 j,if_neg hj],fun _=>hp,rfl,?_,fun h=>h,.inl,fun hq=>?_,fun _ _ h => .inl h⟩,⟨?_,.inr ⟨rfl,fun hq=>?_⟩⟩,rfl⟩
   ·refine ⟨e1.trans eid,by show M.prog.length≤M.res.length;rw [e2,e3];exact mi.prog,e4.trans mi.regs,by show 1≤M.c.l.toNat;rw [e5];exact mi.lg,.inr e6,?_,fun _=>rfl,fun hf=>?_,fun hf=>absurd rfl hf,trivial,trivial,fun v hv=>?_,fun h3 _ v hv=>?_,fun h5 _=>?_⟩
    ·show M.color=_
     rw [e7]
     have hp2:({ x.s with B:=x.s.B.gu (m.id:Int) }:Sh).B.pend (i:Int)=false:=hp'
     rw [hp2]
     by_cases h3:x.coll.phase<3
     ·rw [if_pos h3,if_pos (.inl h3)]
     ·rw [if_neg h3,if_neg (by simp;omega)]
    ·have hp2:({ x.s with B:=x.s.B.gu (m.id:Int) }:Sh).B.pend (i:Int)=false:=hp'
     rw [hp2] at hf;cases hf
    ·rcases e8 with e|⟨_,e⟩
     ·exact mi.buf v (by have hv':v∈M.buf:=hv;rwa [e] at hv')
     ·have hv':v∈M.buf:=hv
      rw [e] at hv';cases hv'
    ·have hv':v∈m.regs:=by have hv':v∈M.regs:=hv;rwa [e4] at hv'
     have:=AP h3 (fun hh=>by cases hh.2.2) v hv'
     rcases e8 with e|⟨e9,_⟩
     ·rcases this with g|g|g|g
      ·exact .inl g
      ·exact .inr (.inl (by show v∈M.buf;rw [e];exact g))
      ·exact .inr (.inr (.inl g))
      ·cases g
     ·omega
    ·show M.buf=[]
     have hb0:m.buf=[]:=nJ (by rw [hkk,h5];rfl)
     rcases e8 with e|⟨_,e⟩
     ·rw [e,hb0]
     ·exact e
   ·rw [hd] at hq;cases hq
   ·show bZ _ i _+2*(x.s.box i).length+1≤_
    rw [htd]
    unfold bZ
    have hp2:({ x.s with B:=x.s.B.gu (m.id:Int) }:Sh).B.pend (i:Int)=false:=hp'
    rw [hp2]
    show 3*M.buf.length+0+2*(x.s.box i).length+1≤3*m.buf.length+1+2*(x.s.box i).length
    omega
   ·rcases hq with hq|hq
    ·cases hq
    ·exact .inr hq
 | note v c t =>
   rw [hd] at hend nJ hgd htd
   obtain ⟨g1,rfl,g3⟩:=hgd
   have hst:oq t:=nJ
   have AP:=mi.step (s':=x.s) hp (t:=t) (b:=m.buf) (.inl rfl) rfl (uy hst) (by rw [hd];rfl) hne (ru hst) g3 mi.buf
   have hnt:=uy hst
   simp only [stepM]
   by_cases h1:(!x.s.H.bn v||x.s.H.dA v==p.κ)=true
   ·rw [if_pos h1]
    have hok:p.okv x.s.H.co (lookOf x.coll.next) v:=fun hb=>by
     rw [hbn,hb,Bool.not_true,Bool.false_or,hH] at h1
     rw [hco]
     exact .inl ((uw hk2 v).1 h1)
    refine ⟨MU.same h hm ((AP fun u hu=>?_).of ⟨rfl,rfl,rfl,rfl,rfl,rfl,rfl,rfl,rfl⟩) (fun hq=>by rw [hd] at hq;cases hq),⟨?_,.inr ⟨rfl,fun hq=>?_⟩⟩,rfl⟩
    ·rw [hd] at hu
     rcases hu with g|g|g|g
     ·exact .inl g
     ·exact .inr (.inl g)
     ·exact .inr (.inr (.inl g))
     ·rcases List.mem_cons.1 g with rfl|g
      ·exact .inl hok
      ·exact .inr (.inr (.inr g))
    ·rw [htd,td2 x.s _ rfl (mO hnt)]
     show 3*m.buf.length+left t+2*(x.s.box i).length+1≤3*m.buf.length+(8+left t)+2*(x.s.box i).length
     omega
    ·have hq':prM t=true∨x.s.flag=true:=hq
     rw [uz hst] at hq'
     exact .inr (hq'.resolve_left (by decide))
   ·rw [if_neg h1]
    by_cases h2:m.buf.length=m.c.l.toNat
    ·rw [if_pos h2]
     have hlg:=mi.lg
     have hne2:m.buf≠[]:=by
      intro e;rw [e] at h2;simp at h2;omega
     have hpd:MS.iQ { m with spent:=m.spent+1 } p.κ (.add v t) = .pour p.κ (.add v t):=by
      unfold MS.iQ
      rw [if_neg hne2]
     rw [hpd]
     refine ⟨MU.same h hm ((mi.step (s':=x.s) hp (t := .pour p.κ (.add v t)) (b:=m.buf) (.inl rfl) rfl (fun e=>by cases e) (by rw [hd];rfl) hne hst ⟨rfl,g1,g3⟩ mi.buf (fun u hu=>?_)).of ⟨rfl,rfl,rfl,rfl,rfl,rfl,rfl,rfl,rfl⟩) (fun hq=>by rw [hd] at hq;cases hq),⟨?_,.inr ⟨rfl,fun hq=>?_⟩⟩,rfl⟩
     ·rw [hd] at hu;exact hu
     ·rw [htd,td2 x.s _ rfl rfl]
      show 3*m.buf.length+(3+(4+left t))+2*(x.s.box i).length+1≤3*m.buf.length+(8+left t)+2*(x.s.box i).length
      omega
     ·exact .inr (hq.resolve_left (fun e=>by cases e))
    ·rw [if_neg h2]
     refine ⟨MU.same h hm ((mi.step (s':=x.s) hp (t:=t) (b:=m.buf++[v]) (.inl rfl) rfl hnt (by rw [hd];rfl) hne (ru hst) g3 (fun u hu=>?_) (fun u hu=>?_)).of ⟨rfl,rfl,rfl,rfl,rfl,rfl,rfl,rfl,rfl⟩) (fun hq=>by rw [hd] at hq;cases hq),⟨?_,.inr ⟨rfl,fun hq=>?_⟩⟩,rfl⟩
     ·rcases List.mem_append.1 hu with hu|hu
      ·exact mi.buf u hu
      ·rw [List.mem_singleton.1 hu];exact g1
     ·rw [hd] at hu
      rcases hu with g|g|g|g
      ·exact .inl g
      ·exact .inr (.inl (List.mem_append_left _ g))
      ·exact .inr (.inr (.inl g))
      ·rcases List.mem_cons.1 g with rfl|g
       ·exact .inr (.inl (List.mem_append_right _ (List.mem_singleton.2 rfl)))
       ·exact .inr (.inr (.inr g))
     ·rw [htd,td2 x.s _ rfl (mO hnt)]
      show 3*(m.buf++[v]).length+left t+2*(x.s.box i).length+1≤3*m.buf.length+(8+left t)+2*(x.s.box i).length
      rw [List.length_append]
      show 3*(m.buf.length+1)+left t+2*(x.s.box i).length+1≤_
      omega
     ·have hq':prM t=true∨x.s.flag=true:=hq
      rw [uz hst] at hq'
      exact .inr (hq'.resolve_left (by decide))
 | add v t =>
   rw [hd] at hend nJ hgd htd
   obtain ⟨g1,g3⟩:=hgd
   obtain ⟨hb0,hst⟩:=nJ
   have hnt:=uy hst
   have hlg:=mi.lg
   simp only [stepM]
   rw [if_neg (by rw [hb0];simp;omega)]
   refine ⟨MU.same h hm ((mi.step (s':=x.s) hp (t:=t) (b:=m.buf++[v]) (.inl rfl) rfl hnt (by rw [hd];rfl) hne (ru hst) g3 (fun u hu=>?_) (fun u hu=>?_)).of ⟨rfl,rfl,rfl,rfl,rfl,rfl,rfl,rfl,rfl⟩) (fun hq=>by rw [hd] at hq;cases hq),⟨?_,.inr ⟨rfl,fun hq=>?_⟩⟩,rfl⟩
   ·rcases List.mem_append.1 hu with hu|hu
    ·exact mi.buf u hu
    ·rw [List.mem_singleton.1 hu];exact g1
   ·rw [hd] at hu
    rcases hu with g|g|g|g
    ·exact .inl g
    ·exact .inr (.inl (List.mem_append_left _ g))
    ·exact .inr (.inr (.inl g))
    ·rcases List.mem_cons.1 g with rfl|g
     ·exact .inr (.inl (List.mem_append_right _ (List.mem_singleton.2 rfl)))
     ·exact .inr (.inr (.inr g))
   ·rw [htd,td2 x.s _ rfl (mO hnt)]
    show 3*(m.buf++[v]).length+left t+2*(x.s.box i).length+1≤3*m.buf.length+(4+left t)+2*(x.s.box i).length
    rw [List.length_append]
    show 3*(m.buf.length+1)+left t+2*(x.s.box i).length+1≤_
    omega
   ·have hq':prM t=true∨x.s.flag=true:=hq
    rw [uz hst] at hq'
    exact .inr (hq'.resolve_left (by decide))
 | pour c t =>
   rw [hd] at hend nJ hgd htd
   obtain ⟨rfl,g3⟩:=hgd
   have htl:qZ t:=nJ
   have hnt:=yC htl
   have eid:m.id=i:=mi.id
   have hib:i<x.s.boxes.length:=by rw [h.box];exact oW
   simp only [stepM]
   rw [eid]
   by_cases h1:x.s.box i=[]
   ·rw [if_pos h1]
    have hbi:({ x.s with boxes:=x.s.boxes.set i m.buf }:Sh).box i=m.buf:=by
     show (x.s.boxes.set i m.buf).getD i []=_
     rw [List.getD_eq_getElem?_getD,List.getElem?_set_self hib];rfl
    have hbo:∀ j,j≠i→({ x.s with boxes:=x.s.boxes.set i m.buf }:Sh).box j=x.s.box j:=fun j hj=>by
     show (x.s.boxes.set i m.buf).getD j []=x.s.boxes.getD j []
     rw [List.getD_eq_getElem?_getD,List.getElem?_set_ne (fun e=>hj e.symm),← List.getD_eq_getElem?_getD]
    refine ⟨⟨h.heap,fun _ _ h=>h,h.pnt,by show (x.s.boxes.set i m.buf).length=_;rw [List.length_set],hbo,fun v hv=>mi.buf v (by rwa [hbi] at hv),.inr hp,h.bd,rfl,fun _ _=>rfl,fun _=>hp,rfl,
     (mi.step (s':={ x.s with boxes:=x.s.boxes.set i m.buf }) hp (t:=t) (b:=[]) (.inl rfl) rfl hnt (by rw [hd];rfl) hne (vP htl) g3 (fun u hu=>by cases hu) (fun u hu=>?_)).of ⟨eid.symm,rfl,rfl,rfl,rfl,rfl,rfl,rfl,rfl⟩,fun h=>h,.inl,fun hq=>(by rw [hd] at hq;cases hq),fun _ _ h => .inl h⟩,⟨?_,.inr ⟨rfl,fun hq=>?_⟩⟩,rfl⟩
    ·rw [hd] at hu
     rcases hu with g|g|g|g
     ·exact .inl g
     ·exact .inr (.inr (.inl (by rw [hbi];exact g)))
     ·rw [h1] at g;cases g
     ·exact .inr (.inr (.inr g))
    ·rw [htd,td2 _ _ (by rfl) (mO hnt),hbi,h1]
     show 3*0+left t+2*m.buf.length+1≤3*m.buf.length+(3+left t)+2*0
     omega
    ·have hq':prM t=true∨x.s.flag=true:=hq
     rw [FP htl] at hq'
     exact .inr (hq'.resolve_left (by decide))
   ·rw [if_neg h1]
    refine ⟨MU.same h hm ((mi.step (s':=x.s) hp (t := .dG p.κ false t) (b:=m.buf) (.inl rfl) rfl (fun e=>by cases e) (by rw [hd];rfl) hne htl ⟨rfl,g3⟩ mi.buf (fun u hu=>?_)).of ⟨eid.symm,rfl,rfl,rfl,rfl,rfl,rfl,rfl,rfl⟩) (fun hq=>by rw [hd] at hq;cases hq),⟨?_,.inr ⟨rfl,fun hq=>?_⟩⟩,rfl⟩
    ·rw [hd] at hu;exact hu
    ·rw [htd,td2 x.s _ rfl rfl]
     show 3*m.buf.length+(2+left t)+2*(x.s.box i).length+1≤3*m.buf.length+(3+left t)+2*(x.s.box i).length
     omega
    ·exact .inr (hq.resolve_left (fun e=>by cases e))
 | dG c fr t =>
   rw [hd] at hend nJ hgd htd
   obtain ⟨rfl,g3⟩:=hgd
   have htl:qZ t:=nJ
   have hnt:=yC htl
   simp only [stepM]
   have FT:=zS (p:=p) (f:=f) (aJ m.buf) p.κ
   have hat:=fun a=>uq (p:=p) hk2 (f:=f) (aJ m.buf) a
   have hU:=CP.Iy k hk2 (f:=f) (v:=aJ m.buf)
   have hUn:HS.dw { p.H with co:=f } (aJ m.buf) p.κ=false→HS.aY { p.H with co:=f } (aJ m.buf) p.κ={ p.H with co:=f }:=fun e=>by
    unfold HS.aY
    rw [e,if_neg (by decide)]
   have hpi:=pX (p:=p) hk2 (f:=f) (aJ m.buf)
   have hHH:x.s.H.aY (aJ m.buf) p.κ=HS.aY { p.H with co:=f } (aJ m.buf) p.κ:=by rw [hH]
   have hHp:x.s.H.dw (aJ m.buf) p.κ=HS.dw { p.H with co:=f } (aJ m.buf) p.κ:=by rw [hH]
   rw [hHH,hHp]
   have hmono:∀ a,p.H.bn a=true→x.s.H.co a=p.kb→(HS.aY { p.H with co:=f } (aJ m.buf) p.κ).co a=p.kb:=fun a ha hc=>by
    rw [hat a]
    split
    ·rfl
    ·rw [← hco];exact hc
   have hgh:p.H.bn (aJ m.buf)=true→p.Rch (aJ m.buf):=fun hb=>by
    cases hbb:m.buf with
    | nil=>rw [hbb] at hb;rw [show aJ ([]:List Nat)=0 from rfl,k.bn0] at hb;cases hb
    | cons a r=>exact mi.buf (aJ (a::r)) (by rw [hbb];exact List.mem_cons_self) (by rw [hbb] at hb;exact hb)
   have hpn:∀ a,p.H.bn a=true→(HS.aY { p.H with co:=f } (aJ m.buf) p.κ).co a=p.kb→p.Rch a:=fun a ha hc=>by
    rw [hat a] at hc
    split at hc
    ·rename_i e;rw [e.1];exact hgh e.2
    ·exact h.pnt a ha (by rw [hco];exact hc)
   have hnew:∀ a,p.H.bn a=true→(HS.aY { p.H with co:=f } (aJ m.buf) p.κ).co a=p.kb→x.s.H.co a=p.kb∨HS.dw { p.H with co:=f } (aJ m.buf) p.κ=true:=fun a ha hc=>by
    rw [hat a] at hc
    rw [hco]
    split at hc
    ·rename_i e
     by_cases e2:f a=p.kb
     ·exact .inl e2
     ·exact .inr (hpi.2 ⟨e.2,by rw [← e.1];exact e2⟩)
    ·exact .inl hc
   have hbt:∀ v,v∈m.buf→v∈m.buf.tail∨p.okv (HS.aY { p.H with co:=f } (aJ m.buf) p.κ).co (lookOf x.coll.next) v:=fun v hv=>by
    cases hbb:m.buf with
    | nil=>rw [hbb] at hv;cases hv
    | cons a r =>
      rw [hbb] at hv
      rcases List.mem_cons.1 hv with rfl|hv
      ·refine .inr fun hb => .inl ?_
       rw [hbb] at hat
       show (HS.aY { p.H with co:=f } v p.κ).co v=_
       rw [show (HS.aY { p.H with co:=f } v p.κ).co v=_ from hat v]
       show (if v=v∧p.H.bn v=true then p.kb else f v)=p.kb
       rw [if_pos ⟨rfl,hb⟩]
      ·exact .inl hv
   generalize hH':HS.aY { p.H with co:=f } (aJ m.buf) p.κ=H' at *
   generalize hpp:HS.dw { p.H with co:=f } (aJ m.buf) p.κ=pp at *
   have hX:∃ nx,nx=(if m.buf.tail≠[] then MD.dG p.κ (fr||pp) t else if (fr||pp)=true then .raise t else t):=⟨_,rfl⟩
   obtain ⟨nx,hnx⟩:=hX
   rw [← hnx]
   have VG:nx ≠ .nil∧nV nx=nV t∧AO m.buf.tail nx∧p.nI nx∧kH nx=kH t∧left nx≤2+left t∧prM nx=(fr||pp):=by
    rw [hnx]
    by_cases e1:m.buf.tail≠[]
    ·rw [if_pos e1]
     exact ⟨(fun e=>by cases e),rfl,htl,⟨rfl,g3⟩,rfl,Nat.le_refl _,rfl⟩
    ·rw [if_neg e1]
     have e1':m.buf.tail=[]:=Classical.byContradiction e1
     rw [e1']
     by_cases e2:(fr||pp)=true
     ·rw [if_pos e2]
      exact ⟨(fun e=>by cases e),rfl,⟨rfl,htl⟩,g3,rfl,by show 1+left t≤_;omega,by rw [e2];rfl⟩
     ·rw [if_neg e2]
      exact ⟨hnt,rfl,vP htl,g3,rfl,by omega,by rw [FP htl];simpa using e2⟩
   obtain ⟨n1,n2,n3,n4,n5,n6,n7⟩:=VG
   have hlt2:m.buf.tail.length≤m.buf.length:=by simp
   refine ⟨⟨FT,hmono,hpn,rfl,fun _ _=>rfl,h.bxs i,.inl rfl,h.bd,rfl,fun _ _=>rfl,fun _=>hp,rfl,
    (mi.step (s':={ x.s with H:=H' }) hp (t:=nx) (b:=m.buf.tail) (.inr hmono) rfl n1 (by rw [n2,hd];rfl) hne n3 n4 (fun u hu=>mi.buf u (List.mem_of_mem_tail hu)) (fun u hu=>?_)).of ⟨rfl,rfl,rfl,rfl,rfl,rfl,rfl,rfl,rfl⟩,fun h=>h,.inl,fun hq=>?_,fun a ha hc=>?_⟩,⟨?_,?_⟩,trivial⟩
   ·rw [hd] at hu
    rw [n5]
    rcases hu with g|g|g|g
    ·exact .inl (CP.yB hmono g)
    ·rcases hbt u g with g|g
     ·exact .inr (.inl g)
     ·exact .inl g
    ·exact .inr (.inr (.inl g))
    ·exact .inr (.inr (.inr g))
   ·rw [hd] at hq
    have hq':fr=true:=hq
    exact .inl (by show prM nx=true;rw [n7,hq'];rfl)
   ·rcases hnew a ha hc with g|g
    ·exact .inl g
    ·exact .inr (.inl (by show prM nx=true;rw [n7,g];simp))
   ·rw [htd,td2 _ _ (by rfl) (mO n1)]
    show 3*m.buf.tail.length+left nx+2*(x.s.box i).length+1≤3*m.buf.length+(2+left t)+2*(x.s.box i).length
    cases hbb:m.buf with
    | nil =>
      have:nx=(if (fr||pp)=true then .raise t else t):=by rw [hnx,hbb];rfl
      have:left nx≤1+left t:=by
       rw [this];split
       ·exact Nat.le_refl _
       ·omega
      simp;omega
    | cons a r=>simp;omega
   ·cases pp with
    | true =>
      refine .inl ?_
      show p.U H'.co+1≤p.U x.s.H.co
      rw [hco,hU rfl];exact Nat.le_refl _
    | false =>
      refine .inr ⟨?_,fun hq=>?_⟩
      ·show p.U H'.co=p.U x.s.H.co
       rw [hUn rfl,hco]
      ·rcases hq with hq|hq
       ·have hq':prM nx=true:=hq
        rw [n7,Bool.or_false] at hq'
        rw [hd];exact .inl hq'
       ·exact .inr hq
 | raise t =>
   rw [hd] at hend nJ hgd htd
   obtain ⟨hb0,htl⟩:=nJ
   have hnt:=yC htl
   simp only [stepM]
   refine ⟨⟨h.heap,fun _ _ h=>h,h.pnt,rfl,fun _ _=>rfl,h.bxs i,.inl rfl,h.bd,rfl,fun _ _=>rfl,fun h=>h,rfl,
    (mi.step (s':={ x.s with flag:=true }) hp (t:=t) (b:=m.buf) (.inl rfl) rfl hnt (by rw [hd];rfl) hne (by rw [hb0];exact vP htl) hgd mi.buf (fun u hu=>?_)).of ⟨rfl,rfl,rfl,rfl,rfl,rfl,rfl,rfl,rfl⟩,fun _=>rfl,fun _ => .inr hp,fun _ => .inr rfl,fun _ _ h => .inl h⟩,⟨?_,.inr ⟨rfl,fun _ => .inl (by rw [hd];rfl)⟩⟩,trivial⟩
   ·rw [hd] at hu;exact hu
   ·rw [htd,td2 _ _ (by rfl) (mO hnt)]
    show 3*m.buf.length+left t+2*(x.s.box i).length+1≤3*m.buf.length+(1+left t)+2*(x.s.box i).length
    omega
 | nil=>exact absurd hd hne
 | _=>rw [hd] at nJ;exact nJ.elim
end
end
end Go.Proofs.YtanfphjoebobaaaGreatDoor
