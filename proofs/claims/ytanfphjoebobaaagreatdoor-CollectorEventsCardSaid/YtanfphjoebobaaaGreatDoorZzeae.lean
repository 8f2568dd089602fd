/- Parts of the walk. No conditions. -/
import Derived.Test.YtanfphjoebobaaaGreatDoorZzead
namespace Go.Proofs.YtanfphjoebobaaaGreatDoor
open _root_.Go.Proofs.Tryz hiding prog
open _root_.Go.Proofs.Tryz renaming prog->ay
set_option maxHeartbeats 1000000
section
section
variable {p:CP} {x y:WS} {s s':Sh} {m m':MS} {i j l l' ph sU hf R mu bl ce κ:Nat} {H:HS} {dead:List Nat} {q:Qu}
theorem Wl (hf:Nat) (hhf:hf=p.H.ww/2) (h:jW p x dead) (d:CD) (hd:x.coll.next=d) (hx:∀ m t,d = .wait m t->x.s.B.pend (m:Int)=false):p.phi hf R (stepW x d)+1<=p.phi hf R x:=by
 have hmu:=h.mu8
 have dD:=h.dD
 rw [hd] at dD
 have oh:=h.ql
 have hcbl:=h.mg
 have hst:=h.stk
 have hsl:∀ B,(x.s.H.slots B).length<=hf:=fun B=>by
  rw [hhf,<- h.geo.2.2.1];exact EG x.s.H B
 cases d with
 | enqueue b =>
   obtain ⟨h6,hb⟩:=dD
   obtain ⟨g1,g2⟩:=Qz (p:=p) (hf:=hf) (R:=R) (c:=x.coll) hcbl (b:=b+1) (by omega)
   have hmp:=mul_pred (c:=hf+4) hb
   by_cases hK:x.s.H.K.getD b 0=0
   ·have e:stepW x (.enqueue b)={ x with s:={ x.s with Q:=x.s.Q },coll:={ x.coll with next:=x.coll.iU (b+1) } }:=by
     unfold stepW
     simp only [aC]
     rw [if_pos hK]
    rw [e]
    refine gQ hd (fun hb=>by rw [g2] at hb;cases hb) ?_
    rw [g1]
    show _<=(p.bl - b)*(hf+4)+(p.ak R+5)
    omega
   ·have hk4:x.s.H.K.getD b 0<=4:=by
     rcases Nat.lt_or_ge b x.s.H.K.length with g|g
     ·rw [List.getD_eq_getElem?_getD,List.getElem?_eq_getElem g]
      exact h.inv.k4 _ (List.getElem_mem g)
     ·rw [List.getD_eq_getElem?_getD,List.getElem?_eq_none g];exact Nat.zero_le _
    obtain ⟨c,hc,hc4⟩:∃ c:Nat,x.s.H.K.getD b 0=c+1/\c<4:=⟨x.s.H.K.getD b 0 - 1,by omega,by omega⟩
    have hqs:=abQ oh hc4 (b:Int)
    have e:stepW x (.enqueue b)={ x with s:={ x.s with Q:=x.s.Q.put (c:Int) (b:Int) },coll:={ x.coll with stk:=x.coll.stk,next:=x.coll.iU (b+1) } }:=by
     unfold stepW
     simp only [aC]
     rw [if_neg hK,hc]
     have:((c+1:Nat):Int) - 1=(c:Int):=by omega
     rw [this]
    rw [e]
    refine uH (x:=x) (Q:=x.s.Q.put (c:Int) (b:Int)) (st:=x.coll.stk) (d':=x.coll.iU (b+1)) hd ?_
    rw [g1,g2,hqs,Nat.add_mul,Nat.one_mul]
    show _+_+0+_+1<=(p.bl - b)*(hf+4)+(p.ak R+5)+33*x.coll.stk.length+0+x.s.Q.qs*(hf+3)
    omega
 | sweep =>
   unfold stepW
   simp only [aC]
   cases hq:x.s.Q.any with
   | none =>
     refine gQ hd (fun hb=>by cases hb) ?_
     show p.ak R+4+1<=p.ak R+5
     omega
   | some kb =>
     obtain ⟨kk,b⟩:=kb
     obtain ⟨hk4,z,r,hr1,hr2⟩:=any_some hq
     have hqs:=aas oh hk4 hr1
     refine uH (x:=x) (Q:=x.s.Q.take (kk:Int)) (st:=x.coll.stk) (d' := .block (x.s.H.slots b)) hd ?_
     have:=hsl b
     rw [<- hqs,Nat.add_mul,Nat.one_mul]
     show (x.s.H.slots b).length+1+(p.ak R+5)+_+0+_+1<=p.ak R+5+33*x.coll.stk.length+0+_
     omega
 | block sl =>
   cases sl with
   | nil =>
     show p.phi hf R { x with s:={ x.s with Q:=x.s.Q.qh },coll:={ x.coll with stk:=x.coll.stk,next := .sweep } }+1<=_
     refine uH (x:=x) (Q:=x.s.Q.qh) (st:=x.coll.stk) (d' := .sweep) hd ?_
     show p.ak R+5+_+0+x.s.Q.qs*(hf+3)+1<=0+1+(p.ak R+5)+33*x.coll.stk.length+0+x.s.Q.qs*(hf+3)
     omega
   | cons a r =>
     have hco:∀ H':HS,H'.co=x.s.H.co->p.phi hf R { x with s:={ x.s with H:=H' },coll:={ x.coll with next := .block r } }+1<=p.phi hf R x:=fun H' e=>by
      refine pO (x:=x) (H:=H') (Q:=x.s.Q) (fl:=x.s.flag) (c:={ x.coll with next := .block r }) ?_
      rw [e,hd]
      have e1:nD x=false:=by unfold nD;rw [hd];rfl
      rw [e1]
      have key:r.length+1+(p.ak R+5)+33*x.coll.stk.length+0+p.U x.s.H.co*p.big hf R+(if (x.s.flag||x.coll.over||x.muts.any (fun m=>iL m.next))=true then p.wk hf R else 0)+(if (x.coll.fresh||x.coll.phase==4)=true then p.dr R else 0)+x.s.Q.qs*(hf+3)+1 <=
       (a::r).length+1+(p.ak R+5)+33*x.coll.stk.length+0+p.U x.s.H.co*p.big hf R+(if (x.s.flag||x.coll.over||x.muts.any (fun m=>iL m.next))=true then p.wk hf R else 0)+(if (x.coll.fresh||x.coll.phase==4)=true then p.dr R else 0)+x.s.Q.qs*(hf+3):=by
       rw [List.length_cons];omega
      exact key
     unfold stepW
     simp only [aC]
     by_cases hc:(!x.s.H.bn a||x.s.H.dW a==x.coll.color)=true
     ·rw [if_pos hc]
      exact hco x.s.H rfl
     ·rw [if_neg hc]
      have hba:x.s.H.bn a=true:=by
       cases hb:x.s.H.bn a
       ·rw [hb] at hc;exact absurd rfl hc
       ·rfl
      exact hco (x.s.H.fV a) (h.inv.free hba).co
 | rests =>
   have hop:x.s.Q.opn=0:=by have:=h.opn;rw [hd] at this;exact this
   have hqe:∀ k,x.s.Q.rw k=[]:=by have:=h.qe;rw [hd] at this;exact this rfl
   have hrs:x.s.Q.rests=true:=by
    unfold Qu.rests Qu.sum Qu.sum Qu.sum Qu.sum Qu.sum
    have h0:=hqe 0;have h1:=hqe 1;have h2:=hqe 2;have h3:=hqe 3
    unfold Qu.rw at h0 h1 h2 h3
    rw [h0,h1,h2,h3,hop];rfl
   unfold stepW
   simp only [aC]
   rw [hrs]
   refine gQ (d' := .off) hd (fun hb=>by cases hb) ?_
   show p.ak R+3+1<=p.ak R+4
   omega
 | off =>
   have h6:x.coll.phase=6:=dD
   have hnw:∀ m u,x.coll.next ≠ .wait m u:=by rw [hd];intro m u e;cases e
   obtain ⟨b1,b2,b3⟩:=h.bd.ask (fun i hi=>h.nobody hnw hi) 7
   refine C9 (x:=x) (k:=7) (t := .idle) (c:=x.coll) (fun i m hm=>?_) rfl ⟨rfl,rfl⟩ ?_
   ·have g:=h.dK i m hm
    have hi:=h.pG hm
    have hnx:m.next = .nil:=g.nx.resolve_right (fun hh=>by rw [h.nobody hnw hi] at hh;cases hh.2)
    have hp:(x.s.ask 7).B.pend (i:Int)=true:=(b2 i).trans (decide_eq_true hi)
    have hk7:(x.s.ask 7).B.kind=7:=b3
    have hb:dA (x.s.ask 7) m = .once 7:=by
     unfold dA
     rw [g.id,hp,if_pos rfl,hk7,if_neg (by decide),if_neg (by decide)]
    unfold dO
    rw [hp,hnx,hb]
    show 3*m.buf.length+(1+1)<=_
    omega
   ·rw [hd]
    have e2:dB x=x.coll.fresh:=by unfold dB;rw [h6];simp
    have e3:(x.coll.fresh||(7:Nat)==4)=x.coll.fresh:=by simp
    rw [e2,e3]
    have ha:p.ak R=p.mu*(8*R+5)+p.mu:=by unfold CP.ak;rw [show 8*R+6=(8*R+5)+1 by omega,Nat.mul_add,Nat.mul_one]
    show p.mu+1+_+_+1<=p.ak R+3+_
    omega
 | wait mm t =>
   obtain ⟨h7,hm,rfl⟩:=dD
   have hp0:=hx mm .idle rfl
   have wY:=yV h.bd hm
   unfold stepW
   simp only [aC]
   rw [wY,hp0,if_neg (by decide)]
   split
   ·refine gQ hd (fun hb=>by cases hb) ?_
    show p.mu - (mm+1)+1+1<=p.mu - mm+1
    omega
   ·refine gQ hd (fun hb=>by cases hb) ?_
    show 1+1<=p.mu - mm+1
    omega
 | idle =>
   have h7:x.coll.phase=7:=dD
   refine pO (x:=x) (H:=x.s.H) (Q:=x.s.Q) (fl:=x.s.flag) (c:={ x.coll with phase:=0,next := .nil }) ?_
   rw [hd]
   have e1:nD x=false:=by unfold nD;rw [hd];rfl
   have e2:dB x=x.coll.fresh:=by unfold dB;rw [h7];simp
   have e3:(x.coll.fresh||(0:Nat)==4)=x.coll.fresh:=by simp
   rw [e1,e2]
   have key:0+33*x.coll.stk.length+0+p.U x.s.H.co*p.big hf R+(if (x.s.flag||x.coll.over||x.muts.any (fun m=>iL m.next))=true then p.wk hf R else 0)+(if (x.coll.fresh||(0:Nat)==4)=true then p.dr R else 0)+x.s.Q.qs*(hf+3)+1 <=
    1+33*x.coll.stk.length+0+p.U x.s.H.co*p.big hf R+(if (x.s.flag||x.coll.over||x.muts.any (fun m=>iL m.next))=true then p.wk hf R else 0)+(if x.coll.fresh=true then p.dr R else 0)+x.s.Q.qs*(hf+3):=by
    rw [e3];omega
   exact key
 | _=>exact dD.elim
structure DW (p:CP) (R:Nat):Prop where
 inv:bZ p.H
 bl:p.bl=p.H.b
 regs:∀ i,(p.regs i).length<=R
abbrev CP.rest (p:CP) (R:Nat) (x:WS):Nat:=p.phi (p.H.ww/2) R x
theorem jD.less (g:DW p R) (h:jD p x dead) (hx:∀ m t,x.coll.next = .wait m t->x.s.B.pend (m:Int)=false):p.rest R (stepW x x.coll.next)+1<=p.rest R x:=by
 cases h with
 | mark h1 h2=>exact Yp (g.inv.Gu g.bl) g.regs h1 h2 _ rfl hx
 | sweep h1=>exact Wl _ rfl h1 _ rfl hx
theorem jD.bd (h:jD p x dead):BI p.mu x.s.B/\x.muts.length=p.mu/\x.coll.muts=p.mu/\x.coll.color=p.κ/\(∀ m t,x.coll.next = .wait m t->m<p.mu):=by
 cases h with
 | mark h1 h2=>exact ⟨h1.bd,h1.muts,h1.cmu,h1.col,fun m t e=>by have:=h1.dD;rw [e] at this;exact this.1⟩
 | sweep h1=>exact ⟨h1.bd,h1.muts,h1.cmu,h1.col,fun m t e=>by have:=h1.dD;rw [e] at this;exact this.2.1⟩
theorem Wn (h:jD p x dead) {mm:Nat} {t:CD} (hd:x.coll.next = .wait mm t) (hp:x.s.B.pend (mm:Int)=true):stepW x x.coll.next=x/\(aC x.s x.coll x.coll.next).ev=none:=by
 obtain ⟨b1,_,_,_,b5⟩:=h.bd
 have wY:=yV b1 (b5 mm t hd)
 have e:∀ d,d=CD.wait mm t->stepW x d={ x with coll:={ x.coll with next:=d } }/\(aC x.s x.coll d).ev=none:=fun d e=>by
  rw [e]
  unfold stepW
  simp only [aC]
  rw [wY,hp,if_pos (by decide)]
  exact ⟨rfl,trivial⟩
 exact e _ hd
theorem jD.le (g:DW p R) (h:jD p x dead):p.rest R (stepW x x.coll.next)<=p.rest R x:=by
 by_cases hw:∃ m t,x.coll.next = .wait m t/\x.s.B.pend (m:Int)=true
 ·obtain ⟨m,t,e,hp⟩:=hw
  rw [(Wn h e hp).1]
  exact Nat.le_refl _
 ·have:=h.less g (fun m t e=>by
   cases hp:x.s.B.pend (m:Int)
   ·rfl
   ·exact absurd ⟨m,t,e,hp⟩ hw)
  omega
theorem TK (h:jD p x dead):{ x with s:=(bM x.s x.coll).s,coll:=(bM x.s x.coll).c }=stepW x x.coll.next/\(bM x.s x.coll).ev=(aC x.s x.coll x.coll.next).ev:=by
 have e:bM x.s x.coll=⟨(aC x.s x.coll x.coll.next).s,{ (aC x.s x.coll x.coll.next).c with next:=(aC x.s x.coll x.coll.next).next },(aC x.s x.coll x.coll.next).next,(aC x.s x.coll x.coll.next).ev⟩:=by
  unfold bM
  rw [h.busy];rfl
 rw [e]
 exact ⟨rfl,rfl⟩
theorem jD.pend (g:DW p R) (h:jD p x dead) (hm:x.muts[i]?=some m):(∀ j:Nat,j≠i->(bP x i).s.B.pend (j:Int)=x.s.B.pend (j:Int))/\((bP x i).s.B.pend (i:Int)=true->x.s.B.pend (i:Int)=true):=by
 obtain ⟨e1,_,_⟩:=rC x hm
 rw [e1]
 cases h with
 | mark h1 h2 =>
   obtain ⟨u,_,_⟩:=EF (g.inv.Gu g.bl) h1 hm
   exact ⟨u.pend,u.Tn⟩
 | sweep h1 =>
   obtain ⟨s',m',g1,g2,g3,g4,g5,g6,g7,g8,g9⟩:=yG h1 hm
   rw [g1]
   refine ⟨g8,fun hp=>?_⟩
   cases hq:x.s.B.pend (i:Int)
   ·rw [hq] at g9
    have hp':s'.B.pend (i:Int)=true:=hp
    rw [g9.2.2] at hp';cases hp'
   ·rfl
def aO:Nat->WS->WS
 | 0,x=>x
 | j+1,x=>bP (aO j x) j
structure MR (p:CP) (R:Nat) (dead:List Nat) (x y:WS) (j:Nat):Prop where
 jd:jD p y dead
 coll:y.coll=x.coll
 pend:∀ i:Nat,y.s.B.pend (i:Int)=true->x.s.B.pend (i:Int)=true
 le:p.rest R y<=p.rest R x
 lt:(∃ i:Nat,i<j/\x.s.B.pend (i:Int)=true)->p.rest R y+1<=p.rest R x
 same:∀ i:Nat,j<=i->y.s.B.pend (i:Int)=x.s.B.pend (i:Int)
theorem MR.next (g:DW p R) (h:MR p R dead x y j) (hj:j<p.mu):MR p R dead x (bP y j) (j+1)/\∃ m,y.muts[j]?=some m/\(bG y.s m).2.2=none:=by
 obtain ⟨_,hl,_⟩:=h.jd.bd
 obtain ⟨m,hm⟩:∃ m,y.muts[j]?=some m:=⟨y.muts[j]'(by omega),List.getElem?_eq_getElem _⟩
 obtain ⟨h1,h2⟩:=h.jd.H9 g.inv g.bl hm
 obtain ⟨h3,h4⟩:=h.jd.pend g hm
 have h5:=aar (hf:=p.H.ww/2) (R:=R) g.inv g.bl h.jd hm
 have hle:=h.le
 refine ⟨⟨h1,(rC y hm).2.2.trans h.coll,fun i hi=>?_,by show p.phi _ R _<=p.phi _ R _;have:p.phi (p.H.ww/2) R y<=p.phi (p.H.ww/2) R x:=hle;omega,fun ⟨i,hi,hp⟩=>?_,fun i hi=>?_⟩,m,hm,h2⟩
 ·by_cases e:i=j
  ·subst e;exact h.pend i (h4 hi)
  ·exact h.pend i (by rw [<- h3 i e];exact hi)
 ·by_cases e:i=j
  ·subst e
   rw [h.same i (Nat.le_refl _),if_pos hp] at h5
   show p.phi _ R _+1<=p.phi _ R _
   have:p.phi (p.H.ww/2) R y<=p.phi (p.H.ww/2) R x:=hle
   omega
  ·have:=h.lt ⟨i,by omega,hp⟩
   show p.phi _ R _+1<=p.phi _ R _
   have:p.phi (p.H.ww/2) R y+1<=p.phi (p.H.ww/2) R x:=this
   omega
 ·rw [h3 i (by omega)]
  exact h.same i (by omega)
theorem MR.first (h:jD p x dead):MR p R dead x x 0:=⟨h,rfl,fun _ h=>h,Nat.le_refl _,(fun ⟨_,h,_⟩=>absurd h (Nat.not_lt_zero _)),fun _ _=>rfl⟩
theorem MR.round (g:DW p R) (h:MR p R dead x y p.mu):∃ iW,zS p y dead { y with s:=(bM y.s y.coll).s,coll:=(bM y.s y.coll).c } iW (bM y.s y.coll).ev/\p.rest R { y with s:=(bM y.s y.coll).s,coll:=(bM y.s y.coll).c }+1<=p.rest R x:=by
 obtain ⟨iW,ht⟩:=h.jd.Yo g.inv g.bl
 refine ⟨iW,ht,?_⟩
 rw [(TK h.jd).1]
 obtain ⟨_,_,_,_,b5⟩:=h.jd.bd
 by_cases hw:∃ m t,y.coll.next = .wait m t/\y.s.B.pend (m:Int)=true
 ·obtain ⟨m,t,e,hp⟩:=hw
  have h1:=h.lt ⟨m,b5 m t e,h.pend m hp⟩
  have h2:=h.jd.le g
  omega
 ·have h1:=h.jd.less g (fun m t e=>by
   cases hp:y.s.B.pend (m:Int)
   ·rfl
   ·exact absurd ⟨m,t,e,hp⟩ hw)
  have h2:=h.le
  omega
end
def tJ (a b:Nat):Bool:=(a==b)||[(0,1),(1,2),(2,3),(3,4),(4,5),(5,4),(5,6),(6,7),(7,0)].contains (a,b)
def jL (c:CS):Prop:=c.cycles<=c.drains+if c.phase=0\/5<=c.phase then 0 else 1
theorem JG:∀ {l l':List Nat},l.Nodup->(∀ a∈l,a∈l')->l.length<=l'.length
 | [],_,_,_=>Nat.zero_le _
 | a::l,l',hn,hs=>by
   obtain ⟨s,t,e⟩:=List.append_of_mem (hs a List.mem_cons_self)
   obtain ⟨h1,h2⟩:=List.nodup_cons.1 hn
   have h3:=JG (l:=l) (l':=s++t) h2 (fun b hb=>by
    have:=hs b (List.mem_cons_of_mem _ hb)
    rw [e] at this
    rcases List.mem_append.1 this with g|g
    ·exact List.mem_append_left _ g
    ·rcases List.mem_cons.1 g with g|g
     ·exact absurd (by rw [<- g];exact hb) h1
     ·exact List.mem_append_right _ g)
   rw [e]
   simp at h3 ⊢
   omega
section
variable {p:CP} {x y:WS} {s s':Sh} {m m':MS} {i j l l' ph sU hf R mu bl ce κ:Nat} {H:HS} {dead:List Nat} {q:Qu} {c:CS}
theorem Wp (s:Sh) (c:CS) (d:CD):(aC s c d).c.wish=c.wish/\(aC s c d).c.cycles=c.cycles/\(aC s c d).c.color=c.color/\(aC s c d).c.muts=c.muts/\c.drains<=(aC s c d).c.drains:=by
 cases d with
 | look v t =>
   simp only [aC]
   split
   ·unfold CS.push
    simp only
    split<;>exact ⟨rfl,rfl,rfl,rfl,Nat.le_refl _⟩
   ·exact ⟨rfl,rfl,rfl,rfl,Nat.le_refl _⟩
 | work =>
   simp only [aC]
   split<;>exact ⟨rfl,rfl,rfl,rfl,Nat.le_refl _⟩
 | box m =>
   simp only [aC]
   split<;>exact ⟨rfl,rfl,rfl,rfl,Nat.le_refl _⟩
 | over =>
   simp only [aC]
   repeat' split
   all_goals exact ⟨rfl,rfl,rfl,rfl,Nat.le_refl _⟩
 | sweep =>
   simp only [aC]
   split<;>exact ⟨rfl,rfl,rfl,rfl,Nat.le_refl _⟩
 | block sl =>
   cases sl with
   | nil=>exact ⟨rfl,rfl,rfl,rfl,Nat.le_refl _⟩
   | cons a r =>
     simp only [aC]
     split<;>exact ⟨rfl,rfl,rfl,rfl,Nat.le_refl _⟩
 | empty t =>
   simp only [aC]
   split<;>exact ⟨rfl,rfl,rfl,rfl,Nat.le_refl _⟩
 | drain=>exact ⟨rfl,rfl,rfl,rfl,Nat.le_succ _⟩
 | _=>exact ⟨rfl,rfl,rfl,rfl,Nat.le_refl _⟩
theorem Wq (a:Nat):tJ a a=true:=by unfold tJ;simp
theorem Po (h:jD p x dead) (d:CD) (hd:x.coll.next=d):tJ x.coll.phase (aC x.s x.coll d).c.phase=true/\(jL x.coll->jL (aC x.s x.coll d).c):=by
 have keep:∀ c':CS,c'.phase=x.coll.phase->c'.cycles=x.coll.cycles->x.coll.drains<=c'.drains->tJ x.coll.phase c'.phase=true/\(jL x.coll->jL c'):=fun c' e1 e2 e3=>by
  refine ⟨by rw [e1];exact Wq _,fun hh=>?_⟩
  unfold jL at hh ⊢
  rw [e1,e2];omega
 have JH:∀ (c':CS) (a b:Nat),x.coll.phase=a->c'.phase=b->tJ a b=true->c'.cycles=x.coll.cycles->x.coll.drains<=c'.drains->((a=0\/5<=a)\/¬ (b=0\/5<=b)\/x.coll.drains+1<=c'.drains)->tJ x.coll.phase c'.phase=true/\(jL x.coll->jL c'):=fun c' a b e1 e2 e3 e4 e5 e6=>by
  refine ⟨by rw [e1,e2];exact e3,fun hh=>?_⟩
  unfold jL at hh ⊢
  rw [e1] at hh
  rw [e2,e4]
  rcases e6 with g|g|g
  ·rw [if_pos g] at hh;omega
  ·rw [if_neg g];split at hh<;>omega
  ·split at hh<;>omega
 have hsh:p.dD x.coll.phase x.coll.next\/p.BQ x.coll.phase x.coll.next:=by
  cases h with
  | mark h1 _=>exact .inl h1.dD
  | sweep h1=>exact .inr h1.dD
 rw [hd] at hsh
 cases d with
 | arm=>exact JH _ 1 2 (hsh.resolve_right (fun h=>h)) rfl rfl rfl (Nat.le_refl _) (.inr (.inl (by omega)))
 | scan=>exact JH _ 2 3 (hsh.resolve_right (fun h=>h)) rfl rfl rfl (Nat.le_refl _) (.inr (.inl (by omega)))
 | trace=>exact JH _ 3 4 (hsh.resolve_right (fun h=>h)) rfl rfl rfl (Nat.le_refl _) (.inr (.inl (by omega)))
 | drain=>exact JH _ 4 5 (hsh.resolve_right (fun h=>h)) rfl rfl rfl (Nat.le_succ _) (.inr (.inr (Nat.le_refl _)))
 | marked=>exact JH _ 5 6 (hsh.resolve_right (fun h=>h)) rfl rfl rfl (Nat.le_refl _) (.inl (by omega))
 | off=>exact JH _ 6 7 (hsh.resolve_left (fun h=>h)) rfl rfl rfl (Nat.le_refl _) (.inl (by omega))
 | idle=>exact JH _ 7 0 (hsh.resolve_left (fun h=>h)) rfl rfl rfl (Nat.le_refl _) (.inl (by omega))
 | over =>
   have hm:uF x.coll.phase:=hsh.resolve_right (fun h=>h)
   simp only [aC]
   split
   ·split
    ·exact keep _ rfl rfl (Nat.le_refl _)
    ·rename_i h4
     split
     ·exact JH _ 5 4 (hm.resolve_left h4) rfl rfl rfl (Nat.le_refl _) (.inl (by omega))
     ·exact keep _ rfl rfl (Nat.le_refl _)
   ·exact keep _ rfl rfl (Nat.le_refl _)
 | look v t =>
   simp only [aC]
   split
   ·unfold CS.push
    simp only
    split<;>exact keep _ rfl rfl (Nat.le_refl _)
   ·exact keep _ rfl rfl (Nat.le_refl _)
 | work =>
   simp only [aC]
   split<;>exact keep _ rfl rfl (Nat.le_refl _)
 | box m =>
   simp only [aC]
   split<;>exact keep _ rfl rfl (Nat.le_refl _)
 | sweep =>
   simp only [aC]
   split<;>exact keep _ rfl rfl (Nat.le_refl _)
 | block sl =>
   cases sl with
   | nil=>exact keep _ rfl rfl (Nat.le_refl _)
   | cons a r =>
     simp only [aC]
     split<;>exact keep _ rfl rfl (Nat.le_refl _)
 | empty t =>
   simp only [aC]
   split<;>exact keep _ rfl rfl (Nat.le_refl _)
 | _=>exact keep _ rfl rfl (Nat.le_refl _)
theorem CP.adL (hI:bZ p.H) (hb:p.bl=p.H.b) (co:Nat->Bool):p.U co<=p.bl*(p.H.ww/2):=by
 have k:=hI.Gu hb
 have hl:∀ n,((List.range n).flatMap p.H.slots).length<=n*(p.H.ww/2):=fun n=>by
  induction n with
  | zero=>simp
  | succ n ih =>
    rw [List.range_succ,List.flatMap_append,List.length_append,Nat.add_mul,Nat.one_mul,List.flatMap_cons,List.flatMap_nil,List.append_nil]
    have:=k.slen n
    omega
 refine Nat.le_trans ?_ (hl p.bl)
 unfold CP.U cntF
 refine JG ?_ (fun a ha=>?_)
 ·exact (List.filter_sublist).nodup List.nodup_range
 ·obtain ⟨h1,h2⟩:=List.mem_filter.1 ha
  rw [Bool.and_eq_true] at h2
  obtain ⟨B,g1,g2⟩:=k.ahead a h2.1
  exact List.mem_flatMap.2 ⟨B,List.mem_range.2 g1,g2⟩
def uJ (mu bl ce R hf:Nat):Nat :=
 let p:CP:=⟨⟨⟨0,0,0,0,0,0,0⟩,0,0,[],[],[],fun _=>false,fun _=>false,[]⟩,0,mu,bl,ce,0,fun _=>[]⟩
 mu*(8*R+5)+(mu+(2+p.ak R+p.ak R+p.rT hf R))+bl*hf*p.big hf R+p.dr R
theorem oN.bound (h:oN mu bl ce κ x) (hR:∀ (i:Nat) (m:MS),x.muts[i]?=some m->m.regs.length<=R):DW (dR mu bl ce κ x) R/\(dR mu bl ce κ x).rest R (jy x)<=uJ mu bl ce R (x.s.H.ww/2):=by
 obtain ⟨h1,h2,h3,h4,h5⟩:=h.start
 have hg:DW (dR mu bl ce κ x) R:=by
  refine ⟨h4,h5,fun i=>?_⟩
  show (((x.muts[i]?).map MS.regs).getD []).length<=R
  cases hm:x.muts[i]? with
  | none=>exact Nat.zero_le _
  | some m=>exact hR i m hm
 refine ⟨hg,?_⟩
 have hT:(dR mu bl ce κ x).T (jy x)<=mu*(8*R+5):=by
  have:(dR mu bl ce κ x).T (jy x)<=oW (fun _=>0) mu+mu*(8*R+5):=by
   refine Ia _ fun i hi=>?_
   unfold oZ
   show (match x.muts[i]? with|some m=>_|none=>0)<=_
   cases hm:x.muts[i]? with
   | none=>exact Nat.zero_le _
   | some m =>
     have g:=h.dK i m hm
     have h6:=NM (h4.Gu h5) h1 (i:=i) (m:=m) hm g.nx
     have h7:=hR i m hm
     have hbx:(jy x).s.box i=[]:=h.nC i
     show dO (jy x).s i m+2*((jy x).s.box i).length<=0+_
     rw [hbx]
     rw [g.buf] at h6
     simp at h6 ⊢
     omega
  have h0:∀ n,oW (fun _=>0) n=0:=fun n=>by
   induction n with
   | zero=>rfl
   | succ n ih=>show oW _ n+0=0;rw [ih]
  rw [h0] at this
  omega
 have hU:=CP.adL h4 h5 (jy x).s.H.co
 have hUb:(dR mu bl ce κ x).U (jy x).s.H.co*(dR mu bl ce κ x).big (x.s.H.ww/2) R<=bl*(x.s.H.ww/2)*(dR mu bl ce κ x).big (x.s.H.ww/2) R:=Nat.mul_le_mul_right _ hU
 have hd:(if dB (jy x)=true then (dR mu bl ce κ x).dr R else 0)<=(dR mu bl ce κ x).dr R:=by split<;>omega
 have hpw:qx (jy x)=false:=by
  unfold qx
  have e1:(jy x).s.flag=false:=h.fl.1
  have e2:(jy x).coll.over=false:=h.fl.2
  rw [e1,e2,Bool.false_or,Bool.false_or,Bool.eq_false_iff]
  intro hh
  rw [List.any_eq_true] at hh
  obtain ⟨m,hm,hp⟩:=hh
  obtain ⟨i,hi⟩:=List.mem_iff_getElem?.1 hm
  rw [(h.dK i m hi).nx] at hp;cases hp
 have hq:(jy x).s.Q.qs=0:=by
  have:=h.q.1
  show x.s.Q.qs=0
  unfold Qu.qs
  rw [this 0,this 1,this 2,this 3];rfl
 have hst:(jy x).coll.stk=[]:=h.stk
 have hex:nD (jy x)=false:=rfl
 show (dR mu bl ce κ x).phi (x.s.H.ww/2) R (jy x)<=_
 unfold CP.phi
 rw [hpw,hq,hst,hex]
 show _+(mu - 0+(2+(dR mu bl ce κ x).ak R+(dR mu bl ce κ x).ak R+(dR mu bl ce κ x).rT (x.s.H.ww/2) R))+33*0+(if false=true then _ else 0)+_+(if false=true then _ else 0)+_+0*_<=_
 rw [if_neg (by decide),if_neg (by decide)]
 show _<=mu*(8*R+5)+(mu+(2+(dR mu bl ce κ x).ak R+(dR mu bl ce κ x).ak R+(dR mu bl ce κ x).rT (x.s.H.ww/2) R))+bl*(x.s.H.ww/2)*(dR mu bl ce κ x).big (x.s.H.ww/2) R+(dR mu bl ce κ x).dr R
 omega
end
def Df (bl w mu R ce l:Nat):Nat :=
 (2*(bl*(w/2))+6)*(40*(bl*(w/2))+2*mu*(l+4)+2*ce+(64+4*l+w)+(16+R*(l+8)+4*l)+40)+(2*bl*(w+8)+3*(64+4*l+w)+2*(16+R*(l+8)+4*l)+4*mu+60)
theorem Yx {n a mu bl ml ce l w rl bw:Nat} (h1:1<=bl/\bl<=4) (h2:16<=w/\w<=35) (h3:1<=mu/\mu<=4) (h5:ce<=3) (h6:1<=l/\l<=4) (hn:8<=n/\n<=68) (ha:a<=20) (adM:9<=rl) (adN:rl<=60) (hml1:10<=ml) (hml2:ml<=64) (hbw:bw<=344) {S M B:Nat}
 (hM:M=(2*n+6)*(40*n+ml+2*ce+(64+4*l+w)+(16+rl+4*l)+40)) (hB:B=n*(34+(8*a+6*mu+mu+4+(34*n+bl)+mu+4)+(8*a+6*mu+mu+4)+mu+2)) (hS:S<=48*a+39*mu+50+4*bl+2*ce+n+B) :
 S+2<=M+(bw+3*(64+4*l+w)+2*(16+rl+4*l)+4*mu+60)/\S<=200000/\M+(bw+3*(64+4*l+w)+2*(16+rl+4*l)+4*mu+60)<=1000000:=by
 have hX:40*n+163<=40*n+ml+2*ce+(64+4*l+w)+(16+rl+4*l)+40:=by omega
 have hX2:40*n+ml+2*ce+(64+4*l+w)+(16+rl+4*l)+40<=3100:=by omega
 have hM1:=Nat.mul_le_mul_left (2*n+6) hX
 have hM2:(2*n+6)*(40*n+ml+2*ce+(64+4*l+w)+(16+rl+4*l)+40)<=142*3100:=Nat.mul_le_mul (by omega) hX2
 rw [<- hM] at hM1 hM2
 have hMe:(2*n+6)*(40*n+163)=80*(n*n)+566*n+978:=by
  rw [Nat.add_mul,Nat.mul_add,Nat.mul_mul_mul_comm,Nat.mul_add]
  omega
 have hY:34+(8*a+6*mu+mu+4+(34*n+bl)+mu+4)+(8*a+6*mu+mu+4)+mu+2<=34*n+436:=by omega
 have hB1:=Nat.mul_le_mul_left n hY
 rw [<- hB] at hB1
 have hBe:n*(34*n+436)=34*(n*n)+436*n:=by
  rw [Nat.mul_add,Nat.mul_left_comm,Nat.mul_comm n 436]
 have hnn:8*8<=n*n:=Nat.mul_le_mul hn.1 hn.1
 have hnn2:n*n<=68*68:=Nat.mul_le_mul hn.2 hn.2
 rw [hMe] at hM1
 rw [hBe] at hB1
 clear hM hB hX hX2 hY hMe hBe
 generalize n*n=nn at *
 refine ⟨?_,?_,?_⟩
 ·omega
 ·omega
 ·omega
theorem TL {bl w mu R ce l:Nat} (h1:1<=bl/\bl<=4) (h2:16<=w/\w<=35) (h3:1<=mu/\mu<=4) (h4:1<=R/\R<=5) (h5:ce<=3) (h6:1<=l/\l<=4):uJ mu bl ce R (w/2)+2<=Df bl w mu R ce l/\uJ mu bl ce R (w/2)<=200000/\Df bl w mu R ce l<=1000000:=by
 have hw:8<=w/2/\w/2<=17:=by omega
 have hn1:1*8<=bl*(w/2):=Nat.mul_le_mul h1.1 hw.1
 have hn2:bl*(w/2)<=4*17:=Nat.mul_le_mul h1.2 hw.2
 have ha:mu*R<=4*5:=Nat.mul_le_mul h3.2 h4.2
 have adM:1*9<=R*(l+8):=Nat.mul_le_mul h4.1 (by omega)
 have adN:R*(l+8)<=5*12:=Nat.mul_le_mul h4.2 (by omega)
 have hml1:2*1*5<=2*mu*(l+4):=Nat.mul_le_mul (Nat.mul_le_mul_left 2 h3.1) (by omega)
 have hml2:2*mu*(l+4)<=2*4*8:=Nat.mul_le_mul (Nat.mul_le_mul_left 2 h3.2) (by omega)
 have hbw:2*bl*(w+8)<=2*4*43:=Nat.mul_le_mul (Nat.mul_le_mul_left 2 h1.2) (by omega)
 have e1:mu*(8*R+6)=8*(mu*R)+6*mu:=by rw [Nat.mul_add,Nat.mul_left_comm,Nat.mul_comm mu 6]
 have e2:mu*(8*R+5)=8*(mu*R)+5*mu:=by rw [Nat.mul_add,Nat.mul_left_comm,Nat.mul_comm mu 5]
 have e3:bl*(w/2+4)=bl*(w/2)+4*bl:=by rw [Nat.mul_add,Nat.mul_comm bl 4]
 have e4:bl*(34*(w/2)+1)=34*(bl*(w/2))+bl:=by rw [Nat.mul_add,Nat.mul_left_comm,Nat.mul_one]
 refine Yx (n:=bl*(w/2)) (a:=mu*R) (rl:=R*(l+8)) (ml:=2*mu*(l+4)) (bw:=2*bl*(w+8)) h1 h2 h3 h5 h6 ⟨by omega,by omega⟩ (by omega) (by omega) (by omega) (by omega) (by omega) (by omega) rfl rfl ?_
 unfold uJ
 simp only [CP.big,CP.wk,CP.rT,CP.rW,CP.rM,CP.dr,CP.ak]
 rw [e1,e2,e3,e4]
 generalize bl*(w/2)*_=B
 generalize mu*R=a at *
 generalize bl*(w/2)=n at *
 omega
abbrev Zj (x:qI):HS:=qO (HS.new x.c.little x.c.little.b.toNat x.c.little.w.toNat x.c.little.c.toNat) x.sz x.fl x.ce
abbrev Dh (x:qI):List Nat:=(dI (HS.new x.c.little x.c.little.b.toNat x.c.little.w.toNat x.c.little.c.toNat) x.sz).objs
structure TM (x:qI):Prop where
 jm:oN x.c.little.m.toNat x.c.little.b.toNat x.c.little.c.toNat 0 (fA x)
 H:(fA x).s.H=Zj x
 coll:(fA x).coll=CS.new x.c.little x.c.little.m.toNat
 regs:∀ (i:Nat) (m:MS),(fA x).muts[i]?=some m->m.regs.length<=x.c.little.r.toNat
 objs:(fA x).s.H.objs=Dh x
 ww:(fA x).s.H.ww=x.c.little.w.toNat
 conf:(fA x).s.H.c=x.c.little
 dr:jL (fA x).coll
 cells:(fA x).s.H.cells.length=x.c.little.c.toNat
theorem Ws (x:qI) (hr:x.rg.length<=20) (hinv:bZ (fA x).s.H):TM x:=by
 have hb:=fQ (vU x.c)
 obtain ⟨g,hd⟩:=JF x hr
 have hH:(fA x).s.H=Zj x:=by rw [g.s]
 have hR:=aau (HS.new x.c.little x.c.little.b.toNat x.c.little.w.toNat x.c.little.c.toNat) x.sz x.fl x.ce
 have hM:=QC x.sz (HS.new x.c.little x.c.little.b.toNat x.c.little.w.toNat x.c.little.c.toNat)
 have hHb:(fA x).s.H.b=x.c.little.b.toNat:=by rw [hH];exact hR.b.trans hM.b
 have hHw:(fA x).s.H.ww=x.c.little.w.toNat:=by rw [hH];exact hR.ww.trans hM.ww
 have hHn:(fA x).s.H.bn=(dI (HS.new x.c.little x.c.little.b.toNat x.c.little.w.toNat x.c.little.c.toNat) x.sz).bn:=by rw [hH];exact hR.bn
 have hHc:∀ a,(fA x).s.H.co a=false:=fun a=>by
  rw [hH,hR.co]
  exact hM.co (fun _=>rfl) a
 have acU:∀ (i:Nat) (m:MS),(fA x).muts[i]?=some m->m.regs.length=x.c.little.r.toNat:=fun i m hm=>by
  by_cases hi:1<=i
  ·rw [g.Gq i m hm hi]
   show (List.replicate x.c.little.r.toNat 0).length=_
   simp
  ·have:i=0:=by omega
   subst this
   exact (g.one m hm).2.2.2.2.2.2.2.2.1
 have hB:BI x.c.little.m.toNat (fA x).s.B:=by
  rw [g.s]
  refine ⟨rfl,rfl,by omega,fun i hi=>?_⟩
  show (List.replicate 8 false).getD i false=false
  rw [List.getD_eq_getElem?_getD]
  rcases Nat.lt_or_ge i 8 with g|g
  ·rw [List.getElem?_eq_getElem (by simpa using g),List.getElem_replicate];rfl
  ·rw [List.getElem?_eq_none (by simpa using g)];rfl
 have hI:oN x.c.little.m.toNat x.c.little.b.toNat x.c.little.c.toNat 0 (fA x):=by
  refine ⟨by decide,by omega,g.len,by rw [g.coll];rfl,?_,by rw [g.coll];rfl,by rw [g.coll];rfl,by rw [g.coll];rfl,hHb.symm,hinv,fun a _=>hHc a,hB,fun i hi=>?_,fun i m hm=>?_,fun i=>?_,by rw [g.coll];rfl,⟨by rw [g.s];rfl,by rw [g.coll];rfl⟩,?_,by rw [g.coll];rfl,by rw [g.coll];rfl⟩
  ·rw [g.s]
   show (List.replicate _ []).length=_
   simp
  ·rw [g.s];exact N9 _ _ _ _ _ _ i
  ·by_cases hi:1<=i
   ·rw [g.Gq i m hm hi]
    exact ⟨rfl,Nat.le_refl _,by show 1<=x.c.little.l.toNat;omega,rfl,rfl,rfl⟩
   ·have:i=0:=by omega
    subst this
    obtain ⟨o1,o2,o3,o4,o5,o6,o7,o9,o10,o8⟩:=g.one m hm
    have hdn:=hd m hm
    unfold iI at hdn
    rw [Bool.and_eq_true] at hdn
    refine ⟨o1,by have:=of_decide_eq_true hdn.2;omega,by rw [o2];omega,o5,o6,MQ hdn.1⟩
  ·rw [g.s]
   show (List.replicate _ []).getD i []=[]
   rw [List.getD_eq_getElem?_getD]
   rcases Nat.lt_or_ge i x.c.little.m.toNat with g|g
   ·rw [List.getElem?_eq_getElem (by simpa using g),List.getElem_replicate];rfl
   ·rw [List.getElem?_eq_none (by simpa using g)];rfl
  ·rw [g.s]
   refine ⟨fun k=>?_,rfl,rfl⟩
   show ([[],[],[],[]]:List (List Int)).getD k []=[]
   match k with
   | 0=>rfl
   | 1=>rfl
   | 2=>rfl
   | 3=>rfl
   | k+4=>rfl
 refine ⟨hI,hH,g.coll,fun i m hm=>Nat.le_of_eq (acU i m hm),?_,hHw,?_,?_,?_⟩
 ·unfold HS.objs
  rw [hHn]
  congr 1
  unfold HS.sz
  rw [hHb,hHw,hM.b,hM.ww];rfl
 ·rw [hH,hR.c,hM.c];rfl
 ·rw [g.coll]
  show 0<=_
  exact Nat.zero_le _
 ·rw [hH,hR.cl,hM.cells]
  show (List.replicate _ 0).length=_
  simp
end
section
attribute [local go_sem ↓] jT
attribute [local go_sem] Oper.semAt_some
open Go.RowKit
def Oa (ev:Option Ev) (fr:List Nat):List Nat:=match ev with
 | some e=>if e.kind=5 then fr++[e.value] else fr
 | none=>fr
def Wu (ev:Option Ev):Bool:=match ev with
 | some e=>e.kind==4
 | none=>false
def iO (ph:List Nat) (q:Nat):List Nat:=if q≠ph.getLastD 0 then ph++[q] else ph
def aZ (n:Nat) (x:WS):WS:=bP (aO n x) n
def iD (n:Nat) (x:WS):Option Ev:=(bM (aO n x).s (aO n x).coll).ev
def mW (n:Nat):Nat->WS->List Nat->List Nat->List Nat × List Nat × Bool × WS
 | 0,x,fr,ph=>(fr,ph,false,x)
 | f+1,x,fr,ph =>
   if Wu (iD n x) then (Oa (iD n x) fr,iO ph (aZ n x).coll.phase,true,aZ n x)
   else mW n f (aZ n x) (Oa (iD n x) fr) (iO ph (aZ n x).coll.phase)
def Ob:List Nat:=[1,2,3,4,5,40,98,99,10,11,12,13,14,15,16,17,20,21,22,23,24,25,26,27,30,31,32,33,34,35,36,37]
theorem Wv:∀ i,i<8->∀ a∈bW i,a∈Ob:=by decide
theorem Wx:∀ a∈aY,a∈Ob:=by decide
def kZ (i:Nat) (o:Ow) (w:World) (v:Value) (l:List Nat):Prop:=w.ownsRow 0 3 1 v l.length (aG l)/\∀ b,v.ownBlock=some b->o b=i
structure CX (W0:World) (o0:Ow) (W:World) (o:Ow):Prop where
 e:aQ W0 o0 o
 k:Keep (In o0 Ob) W0 W
section
variable {o o' o0:Ow} {w w' W W' W0:World} {G:Geo} {gs:List MG} {q:CG} {x y:WS} {v:Value} {N i n:Nat} {l:List Nat} {I:List Nat}
theorem CX.refl (W:World) (o:Ow):CX W o W o:=⟨aQ.refl _ _,Keep.refl _ _⟩
theorem CX.step (h:CX W0 o0 W o) (k:Keep (In o I) W W') (e:aQ W o o') (hI:∀ a∈I,a∈Ob):CX W0 o0 W' o' :=
 ⟨h.e.trans h.k.size e,h.k.EX ((k.mono (fun b _ hb=>hI _ hb)):Keep (In o Ob) W W') h.e⟩
theorem CX.row (h:CX W0 o0 W o) {T:TypeId} {xs:List Value} (hr:bC o0 W0 T v xs):bC o W T v xs:=(hr.ext h.e).aH (h.k.rO h.e) rfl
theorem kZ.keep (h:kZ i o W v l) (k:Keep (In o I) W W') (hI:I.contains i=false) (e:aQ W o o'):kZ i o' W' v l:=by
 refine ⟨dY h.1 k (fun b hb=>bI (h.2 b hb) hI),fun b hb=>?_⟩
 obtain ⟨cur,hc⟩:=jI h.1 hb
 exact (e b (lt_of_block hc)).trans (h.2 b hb)
theorem kZ.form (h:kZ i o W v l):∃ a c,v = .slice a l.length c/\∀ (j:Nat) u,l[j]?=some u->∃ b,a=some ⟨b,0,none⟩/\W.cell? ⟨b,j,none⟩=some (ah (u:Int)):=by
 obtain ⟨a,c,rfl,_,_,_,hc⟩:=dP h.1
 refine ⟨a,c,rfl,fun j u hj=>?_⟩
 obtain ⟨b,e,hb,_⟩:=hc j (ah (u:Int)) (by unfold aG;rw [List.getElem?_map,hj];rfl)
 exact ⟨b,e,hb⟩
theorem kZ.nil (i:Nat) (o:Ow) (W:World):kZ i o W (.slice none 0 0) []:=⟨⟨rfl,.inl ⟨rfl,rfl⟩⟩,fun b hb=>by cases hb⟩
theorem CW.own (h:CW w W o G gs q x) (k:Keep none_ W W') (hN:W.heap.size<=N) (hN2:N<W'.heap.size) (i:Nat):CW w W' (o.put N i) G gs q x/\aQ W o (o.put N i):=by
 have e:aQ W o (o.put N i):=Ow.jU (.inl hN)
 exact ⟨h.xK (I:=[]) k.aS rfl e (Ow.nJ h.coll.sh.fC k.size hN2),e⟩
theorem TN {cs:List Value} {T:TypeId} (hb:aA W N cs T) (h0:cs.length<=1000):W.ownsRow 0 T 1 (.slice (some ⟨N,0,none⟩) cs.length cs.length) cs.length cs:=by
 refine ⟨by simp,.inr ⟨N,cs.length,cs.toArray,rfl,Nat.zero_le _,hb,Nat.le_refl _,?_,by simp,by simp⟩⟩
 have:maxLen=9223372036854775807:=rfl
 omega
theorem kZ.new (o:Ow) (i u N:Nat) (hb:aA W N [ah (u:Int)] 3):kZ i (o.put N i) W (.slice (some ⟨N,0,none⟩) 1 1) [u]:=by
 refine ⟨TN hb (by show 1<=1000;omega),fun b hb=>?_⟩
 simp [Value.ownBlock] at hb
 rw [<- hb]
 exact Ow.lM _ _ _
theorem kZ.grow (h:kZ i o W v l) (hc:CW w W o G gs q x) (hi:50<=i) {N u:Nat} (hN:W.cell? ⟨N,0,none⟩=some (ah (u:Int))) (hl:l.length<=100000000000):∃ b cap W5,(app9 #[32,32] 32 #[v,.slice (some ⟨N,0,none⟩) 1 1]).run ay W = .ok (.slice (some ⟨b,0,none⟩) (l.length+1) cap) W5 /\
 ∃ o',aQ W o o'/\CW w W5 o' G gs q x/\kZ i o' W5 (.slice (some ⟨b,0,none⟩) (l.length+1) cap) (l++[u])/\Keep (In o [i]) W W5:=by
 obtain ⟨b,cap,W5,hrun,hown,hgr,hq⟩:=nY (P:=ay) W 32 32 3 (by kernel_rfl) Tryz.infoInt rfl h.1 (N:=N) (u := ah (u:Int)) hN rfl (by decide) (by omega)
 have k:Keep (In o [i]) W W5:=⟨hgr.os,hgr.tape,hgr.output,hgr.size,fun y hy hn=>hgr.block y hy (fun e=>hn (by
  have e':v.ownBlock=some y:=by first|exact e|exact e.symm
  unfold In
  rw [h.2 y e']
  simp))⟩
 have e:aQ W o (o.put b i):=by
  rcases hq with hq|hq
  ·exact Ow.jU (.inr (h.2 b hq))
  ·exact Ow.jU (.inl hq)
 have hlt:b<W5.heap.size:=by
  rcases hown.2 with ⟨e1,_⟩|⟨g',cap',cur,e1,_,hg',_⟩
  ·cases e1
  ·cases e1;exact lt_of_block hg'
 have hf:gX (o.put b i) W5:=Ow.nJ hc.coll.sh.fC k.size hlt
 have hall:[i].all (fun i=>decide (50<=i))=true:=by simp;exact hi
 refine ⟨b,cap,W5,hrun,o.put b i,e,hc.xK k hall e hf,⟨?_,fun b' hb'=>?_⟩,k⟩
 ·have e3:aG (l++[u])=aG l++[ah (u:Int)]:=by unfold aG;simp
  rw [e3,List.length_append]
  exact hown
 ·simp [Value.ownBlock] at hb'
  rw [<- hb']
  exact Ow.lM _ _ _
theorem JI (n:Nat) (x:WS):(aO n x).muts.length=x.muts.length:=by
 induction n with
 | zero=>rfl
 | succ n ih =>
   rw [<- ih]
   show (bP (aO n x) n).muts.length=_
   unfold bP
   cases hm:(aO n x).muts[n]? with
   | some m =>
     simp only
     rw [(WS.nP _ _).2.1]
     simp
   | none =>
     simp only
     split
     ·rw [(WS.nP _ _).2.1]
     ·rw [(WS.nP _ _).2.1]
end
end
end Go.Proofs.YtanfphjoebobaaaGreatDoor
