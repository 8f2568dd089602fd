/- Parts of the walk. No conditions. -/
import Derived.Test.YtanfphjoebobaaaGreatDoorZzeab
namespace Go.Proofs.YtanfphjoebobaaaGreatDoor
open _root_.Go.Proofs.Tryz hiding prog
open _root_.Go.Proofs.Tryz renaming prog->ay
set_option maxHeartbeats 1000000
section
section
variable {p:CP} {x y:WS} {s s':Sh} {m m':MS} {i l l' ph sU hf R mu bl ce κ:Nat} {H:HS} {dead:List Nat} {q:Qu}
theorem pO {H:HS} {Q:Qu} {fl:Bool} {c:CS} (h:p.rk hf R c.next+33*c.stk.length+(if iY c.next && !c.stk.isEmpty then p.mu+1 else 0)+p.U H.co*p.big hf R+(if (fl||c.over||x.muts.any (fun m=>iL m.next)) then p.wk hf R else 0)+(if (c.fresh||c.phase==4) then p.dr R else 0)+Q.qs*(hf+3)+1 <=
 p.rk hf R x.coll.next+33*x.coll.stk.length+(if nD x then p.mu+1 else 0)+p.U x.s.H.co*p.big hf R+(if qx x then p.wk hf R else 0)+(if dB x then p.dr R else 0)+x.s.Q.qs*(hf+3)):p.phi hf R { x with s:={ x.s with H:=H,Q:=Q,flag:=fl },coll:=c }+1<=p.phi hf R x:=by
 unfold CP.phi
 rw [abP]
 have e1:nD { x with s:={ x.s with H:=H,Q:=Q,flag:=fl },coll:=c }=(iY c.next && !c.stk.isEmpty):=rfl
 have e2:qx { x with s:={ x.s with H:=H,Q:=Q,flag:=fl },coll:=c }=(fl||c.over||x.muts.any (fun m=>iL m.next)):=rfl
 have e3:dB { x with s:={ x.s with H:=H,Q:=Q,flag:=fl },coll:=c }=(c.fresh||c.phase==4):=rfl
 rw [e1,e2,e3]
 show p.T x+p.rk hf R c.next+33*c.stk.length+_+p.U H.co*p.big hf R+_+_+Q.qs*(hf+3)+1<=_
 omega
theorem uH {Q:Qu} {st:List Nat} {d d':CD} (hd:x.coll.next=d) (h:p.rk hf R d'+33*st.length+(if iY d' && !st.isEmpty then p.mu+1 else 0)+Q.qs*(hf+3)+1<=p.rk hf R d+33*x.coll.stk.length+(if iY d && !x.coll.stk.isEmpty then p.mu+1 else 0)+x.s.Q.qs*(hf+3)):p.phi hf R { x with s:={ x.s with Q:=Q },coll:={ x.coll with stk:=st,next:=d' } }+1<=p.phi hf R x:=by
 refine pO (x:=x) (H:=x.s.H) (Q:=Q) (fl:=x.s.flag) (c:={ x.coll with stk:=st,next:=d' }) ?_
 have e1:nD x=(iY d && !x.coll.stk.isEmpty):=by unfold nD;rw [hd]
 have e2:qx x=(x.s.flag||x.coll.over||x.muts.any (fun m=>iL m.next)):=rfl
 have e3:dB x=(x.coll.fresh||x.coll.phase==4):=rfl
 rw [e1,e2,e3,hd]
 have key:p.rk hf R d'+33*st.length+(if iY d' && !st.isEmpty then p.mu+1 else 0)+p.U x.s.H.co*p.big hf R+(if (x.s.flag||x.coll.over||x.muts.any (fun m=>iL m.next)) then p.wk hf R else 0)+(if (x.coll.fresh||x.coll.phase==4) then p.dr R else 0)+Q.qs*(hf+3)+1 <=
  p.rk hf R d+33*x.coll.stk.length+(if iY d && !x.coll.stk.isEmpty then p.mu+1 else 0)+p.U x.s.H.co*p.big hf R+(if (x.s.flag||x.coll.over||x.muts.any (fun m=>iL m.next)) then p.wk hf R else 0)+(if (x.coll.fresh||x.coll.phase==4) then p.dr R else 0)+x.s.Q.qs*(hf+3):=by omega
 exact key
theorem gQ {d d':CD} (hd:x.coll.next=d) (hx:iY d'=true->iY d=true) (h:p.rk hf R d'+1<=p.rk hf R d):p.phi hf R { x with coll:={ x.coll with next:=d' } }+1<=p.phi hf R x:=by
 refine uH (x:=x) (Q:=x.s.Q) (st:=x.coll.stk) hd ?_
 have:(if (iY d' && !x.coll.stk.isEmpty)=true then p.mu+1 else 0)<=if (iY d && !x.coll.stk.isEmpty)=true then p.mu+1 else 0:=Jv fun hb=>by
  rw [Bool.and_eq_true] at hb ⊢
  exact ⟨hx hb.1,hb.2⟩
 omega
theorem C9 {k:Nat} {t:CD} {c:CS} (hT:∀ i m,x.muts[i]?=some m->dO (x.s.ask k) i m<=dO x.s i m+(8*R+5)) (ht:iY t=false) (hc:c.stk=x.coll.stk/\c.over=x.coll.over)
 (h:p.mu+p.rk hf R t+p.mu*(8*R+5)+(if (c.fresh||k==4) then p.dr R else 0)+1<=p.rk hf R x.coll.next+(if dB x then p.dr R else 0)):p.phi hf R { x with s:=x.s.ask k,coll:={ c with phase:=k,next := .wait 0 t } }+1<=p.phi hf R x:=by
 have hTT:p.T { x with s:=x.s.ask k,coll:={ c with phase:=k,next := .wait 0 t } }<=p.T x+p.mu*(8*R+5):=by
  unfold CP.T
  refine Ia _ fun i _=>?_
  unfold oZ
  show (match x.muts[i]? with|some m=>_|none=>0)<=(match x.muts[i]? with|some m=>_|none=>0)+_
  cases hm:x.muts[i]? with
  | none=>exact Nat.zero_le _
  | some m =>
    have:=hT i m hm
    show dO (x.s.ask k) i m+2*(x.s.box i).length<=dO x.s i m+2*(x.s.box i).length+(8*R+5)
    omega
 unfold CP.phi
 have e1:nD { x with s:=x.s.ask k,coll:={ c with phase:=k,next := .wait 0 t } }=false:=rfl
 have e2:qx { x with s:=x.s.ask k,coll:={ c with phase:=k,next := .wait 0 t } }=qx x:=by
  show (x.s.flag||c.over||_)=(x.s.flag||x.coll.over||_)
  rw [hc.2]
 have e3:dB { x with s:=x.s.ask k,coll:={ c with phase:=k,next := .wait 0 t } }=(c.fresh||k==4):=rfl
 rw [e1,e2,e3]
 generalize p.T { x with s:=x.s.ask k,coll:={ c with phase:=k,next := .wait 0 t } }=T' at *
 have key:T'+(p.mu - 0+p.rk hf R t)+33*x.coll.stk.length+0+p.U x.s.H.co*p.big hf R+(if qx x then p.wk hf R else 0)+(if (c.fresh||k==4) then p.dr R else 0)+x.s.Q.qs*(hf+3)+1 <=
  p.T x+p.rk hf R x.coll.next+33*x.coll.stk.length+(if nD x then p.mu+1 else 0)+p.U x.s.H.co*p.big hf R+(if qx x then p.wk hf R else 0)+(if dB x then p.dr R else 0)+x.s.Q.qs*(hf+3):=by omega
 rw [<- hc.1] at key ⊢
 exact key
theorem EI {v:Nat} {t:CD}:p.rk hf R (cZ v t)<=1+p.rk hf R t:=by
 unfold cZ
 split
 ·omega
 ·exact Nat.le_refl _
theorem zU {v:Nat} {t:CD}:iY (cZ v t)=iY t:=by
 unfold cZ
 split<;>rfl
theorem NV {c:CS} (hc:c.cells=p.ce) {i:Nat} (hi:i<=p.ce):p.rk hf R (c.dZ i)=2*(p.ce - i)+p.rW hf R/\iY (c.dZ i)=false:=by
 unfold CS.dZ
 rw [hc]
 split
 ·rename_i e
  refine ⟨?_,rfl⟩
  show p.rW hf R=_
  rw [e,Nat.sub_self];omega
 ·exact ⟨rfl,rfl⟩
theorem NW {c:CS} (hc:c.blocks=p.bl) {b:Nat} (hb:b<=p.bl):p.rk hf R (c.eF b)=(p.bl - b)*(34*hf+1)+p.rW hf R/\iY (c.eF b)=false:=by
 unfold CS.eF
 rw [hc]
 split
 ·rename_i e
  refine ⟨?_,rfl⟩
  show p.rW hf R=_
  rw [e,Nat.sub_self,Nat.zero_mul,Nat.zero_add]
 ·exact ⟨rfl,rfl⟩
theorem Jw {a i n:Nat} {t:CD} (hi:i<=n) (ht:iY t=false):p.rk hf R (cu a i n t)<=2*(n - i)+1+p.rk hf R t/\(i=n->p.rk hf R (cu a i n t)=p.rk hf R t)/\iY (cu a i n t)=false:=by
 unfold cu
 split
 ·rename_i e
  exact ⟨by omega,fun _=>rfl,ht⟩
 ·rename_i e
  exact ⟨Nat.le_refl _,fun e'=>absurd e' e,rfl⟩
theorem Jy {l:List Nat} {t:CD} (ht:iY t=false):p.rk hf R (dL l t)=34*l.length+p.rk hf R t/\iY (dL l t)=false:=by
 unfold dL
 split
 ·rename_i e
  rw [e]
  exact ⟨by simp,ht⟩
 ·exact ⟨rfl,rfl⟩
theorem Qz {c:CS} (hc:c.blocks=p.bl) {b:Nat} (hb:b<=p.bl):p.rk hf R (c.iU b)=(p.bl - b)*(hf+4)+(p.ak R+5)/\iY (c.iU b)=false:=by
 unfold CS.iU
 rw [hc]
 split
 ·rename_i e
  refine ⟨?_,rfl⟩
  show p.ak R+5=_
  rw [e,Nat.sub_self,Nat.zero_mul,Nat.zero_add]
 ·exact ⟨rfl,rfl⟩
theorem QA {t:CD} (h:BF t):iY t=false:=by
 cases t with
 | work=>rfl
 | walk b=>rfl
 | slots l t=>rfl
 | _=>exact h.elim
theorem QB {t:CD} (h:Qq t):iY t=false:=by
 cases t with
 | work=>rfl
 | empty t=>rfl
 | _=>exact h.elim
theorem abQ (hl:q.rows.length=4) {k:Nat} (hk:k<4) (b:Int):(q.put (k:Int) b).qs=q.qs+1:=by
 have h0:=BR hl hk b 0;have h1:=BR hl hk b 1;have h2:=BR hl hk b 2;have h3:=BR hl hk b 3
 unfold Qu.qs
 rw [h0,h1,h2,h3]
 rcases (by omega:k=0\/k=1\/k=2\/k=3) with rfl|rfl|rfl|rfl<;>simp<;>omega
theorem aas (hl:q.rows.length=4) {k:Nat} (hk:k<4) {a:Int} {r:List Int} (hr:q.rw k=a::r):(q.take (k:Int)).qs+1=q.qs:=by
 have h0:=take_at hl hk 0;have h1:=take_at hl hk 1;have h2:=take_at hl hk 2;have h3:=take_at hl hk 3
 unfold Qu.qs
 rw [h0,h1,h2,h3]
 rcases (by omega:k=0\/k=1\/k=2\/k=3) with rfl|rfl|rfl|rfl<;>rw [hr]<;>simp<;>omega
theorem mul_pred {a b c:Nat} (h:b<a):(a - b)*c=(a - (b+1))*c+c:=by
 obtain ⟨d,rfl⟩:∃ d,a=b+1+d:=⟨a - (b+1),by omega⟩
 rw [show b+1+d - b=d+1 by omega,show b+1+d - (b+1)=d by omega,Nat.add_mul,Nat.one_mul]
theorem EJ (k:sS p hf) (hR:∀ i,(p.regs i).length<=R) (h:MInv p x) (h':MInv p y) (hm:y.muts=x.muts) (hn:∀ m t,x.coll.next ≠ .wait m t):∀ i m,x.muts[i]?=some m->dO y.s i m<=dO x.s i m+(8*R+5):=fun i m hi=>by
 have g:=h.dK i m hi
 have hnil:=g.idle (h.nobody hn (h.pG hi))
 have h1:=NM k h' (by rw [hm];exact hi) hnil
 have h2:=hR i
 rw [g.regs] at h1
 have:3*m.buf.length<=dO x.s i m:=by unfold dO;omega
 omega
end
section
variable {p:CP} {x y:WS} {s s':Sh} {m m':MS} {i l l' ph sU hf R mu bl ce κ:Nat} {H:HS} {dead:List Nat} {q:Qu}
theorem NY {l:List Nat} (h:l.getLast?=none):l=[]:=by
 rcases List.eq_nil_or_concat l with e|⟨l',b,e⟩
 ·exact e
 ·rw [e] at h;simp at h
theorem V5 (h:MInv p x) (hn:∀ m t,x.coll.next ≠ .wait m t):x.muts.any (fun m=>iL m.next)=false:=by
 rw [Bool.eq_false_iff]
 intro hh
 rw [List.any_eq_true] at hh
 obtain ⟨m,hm,hp⟩:=hh
 obtain ⟨i,hi⟩:=List.mem_iff_getElem?.1 hm
 have g:=h.dK i m hi
 rw [g.idle (h.nobody hn (h.pG hi))] at hp
 cases hp
theorem Yp (k:sS p hf) (hR:∀ i,(p.regs i).length<=R) (h:MInv p x) (hw:p.ru x.coll.next) (d:CD) (hd:x.coll.next=d) (hx:∀ m t,d = .wait m t->x.s.B.pend (m:Int)=false):p.phi hf R (stepW x d)+1<=p.phi hf R x:=by
 have hmu:=h.mu8
 have hk2:=h.k2
 have dD:=h.dD
 have jg:=h.jg
 rw [hd] at dD jg
 obtain ⟨f,hH⟩:=h.heap
 have hco:x.s.H.co=f:=by rw [hH]
 have hfp:∀ a,x.s.H.aV a=p.H.aV a:=fun a=>by rw [hH];rfl
 have hsl:∀ b,x.s.H.slots b=p.H.slots b:=fun b=>by rw [hH];rfl
 have abR:=h.nT
 have hcbl:=h.mg
 have aen:=h.cmu
 cases d with
 | wait mm t =>
   obtain ⟨hm,ht⟩:=dD
   have hp0:=hx mm t rfl
   have wY:=yV h.bd hm
   have hbt:iY t=false:=by rcases ht with ⟨_,e⟩|⟨_,e⟩|⟨_,e⟩|⟨_,e⟩<;>rw [e]<;>rfl
   unfold stepW
   simp only [aC]
   rw [wY,hp0,if_neg (by decide)]
   split
   ·refine gQ hd (fun hb=>by cases hb) ?_
    show p.mu - (mm+1)+p.rk hf R t+1<=p.mu - mm+p.rk hf R t
    omega
   ·refine gQ hd (fun hb=>by rw [hbt] at hb;cases hb) ?_
    show p.rk hf R t+1<=p.mu - mm+p.rk hf R t
    omega
 | arm =>
   have mV:x.coll.phase=1:=dD
   have hnw:∀ m t,x.coll.next ≠ .wait m t:=by rw [hd];intro m u e;cases e
   have h':=(vY k h hw .arm hd (fun e=>by cases e)).1
   have hT:=EJ k hR h h' rfl hnw
   refine C9 (k:=2) (t := .scan) (c:=x.coll) hT rfl ⟨rfl,rfl⟩ ?_
   rw [hd]
   have e2:dB x=x.coll.fresh:=by unfold dB;rw [mV];simp
   have e3:(x.coll.fresh||(2:Nat)==4)=x.coll.fresh:=by simp
   rw [e2,e3]
   have ha:p.ak R=p.mu*(8*R+5)+p.mu:=by unfold CP.ak;rw [show 8*R+6=(8*R+5)+1 by omega,Nat.mul_add,Nat.mul_one]
   show p.mu+(1+p.ak R+p.rT hf R)+_+_+1<=(2+p.ak R+p.ak R+p.rT hf R)+_
   omega
 | scan =>
   have mV:x.coll.phase=2:=dD
   have hnw:∀ m t,x.coll.next ≠ .wait m t:=by rw [hd];intro m u e;cases e
   have h':=(vY k h hw .scan hd (fun e=>by cases e)).1
   have hT:=EJ k hR h h' rfl hnw
   refine C9 (k:=3) (t := .trace) (c:=x.coll) hT rfl ⟨rfl,rfl⟩ ?_
   rw [hd]
   have e2:dB x=x.coll.fresh:=by unfold dB;rw [mV];simp
   have e3:(x.coll.fresh||(3:Nat)==4)=x.coll.fresh:=by simp
   rw [e2,e3]
   have ha:p.ak R=p.mu*(8*R+5)+p.mu:=by unfold CP.ak;rw [show 8*R+6=(8*R+5)+1 by omega,Nat.mul_add,Nat.mul_one]
   show p.mu+p.rT hf R+_+_+1<=(1+p.ak R+p.rT hf R)+_
   omega
 | drain =>
   have mV:x.coll.phase=4:=dD
   have hnw:∀ m t,x.coll.next ≠ .wait m t:=by rw [hd];intro m u e;cases e
   have h':=(vY k h hw .drain hd (fun e=>by cases e)).1
   have hT:=EJ k hR h h' rfl hnw
   refine C9 (k:=5) (t := .work) (c:={ x.coll with fresh:=false,drains:=x.coll.drains+1 }) hT rfl ⟨rfl,rfl⟩ ?_
   rw [hd]
   have e2:dB x=true:=by unfold dB;rw [mV];simp
   have e3:(false||(5:Nat)==4)=false:=by decide
   rw [e2,if_pos rfl]
   show p.mu+p.rW hf R+_+(if (false||(5:Nat)==4)=true then p.dr R else 0)+1<=(1+p.rM hf R)+p.dr R
   rw [e3,if_neg (by decide)]
   have ha:p.ak R=p.mu*(8*R+5)+p.mu:=by unfold CP.ak;rw [show 8*R+6=(8*R+5)+1 by omega,Nat.mul_add,Nat.mul_one]
   unfold CP.rW CP.dr
   omega
 | trace =>
   obtain ⟨g1,g2⟩:=NV (p:=p) (hf:=hf) (R:=R) (c:={ x.coll with phase:=4 }) abR (Nat.zero_le _)
   refine pO (x:=x) (H:=x.s.H) (Q:=x.s.Q) (fl:=x.s.flag) (c:={ x.coll with phase:=4,next:=CS.dZ { x.coll with phase:=4 } 0 }) ?_
   have e1:nD x=false:=by unfold nD;rw [hd];rfl
   have e2:(if (x.s.flag||x.coll.over||x.muts.any (fun m=>iL m.next))=true then p.wk hf R else 0)=(if qx x=true then p.wk hf R else 0):=rfl
   have e3:(if (x.coll.fresh||(4:Nat)==4)=true then p.dr R else 0)<=p.dr R:=by split<;>omega
   have e4:(if (iY (CS.dZ { x.coll with phase:=4 } 0) && !x.coll.stk.isEmpty)=true then p.mu+1 else 0)=0:=by rw [g2];rfl
   rw [hd]
   have key:p.rk hf R (CS.dZ { x.coll with phase:=4 } 0)+33*x.coll.stk.length+(if (iY (CS.dZ { x.coll with phase:=4 } 0) && !x.coll.stk.isEmpty)=true then p.mu+1 else 0)+p.U x.s.H.co*p.big hf R+(if (x.s.flag||x.coll.over||x.muts.any (fun m=>iL m.next))=true then p.wk hf R else 0)+(if (x.coll.fresh||(4:Nat)==4)=true then p.dr R else 0)+x.s.Q.qs*(hf+3)+1 <=
    p.rT hf R+33*x.coll.stk.length+(if nD x=true then p.mu+1 else 0)+p.U x.s.H.co*p.big hf R+(if qx x=true then p.wk hf R else 0)+(if dB x=true then p.dr R else 0)+x.s.Q.qs*(hf+3):=by
    rw [e2,e4,g1]
    unfold CP.rT
    omega
   exact key
 | cell ii =>
   obtain ⟨mV,hi⟩:=dD
   obtain ⟨g1,g2⟩:=NV (p:=p) (hf:=hf) (R:=R) (c:=x.coll) abR (i:=ii+1) (by omega)
   have g3:=EI (p:=p) (hf:=hf) (R:=R) (v:=x.s.H.cellP (ii:Int)) (t:=x.coll.dZ (ii+1))
   refine gQ (d':=cZ (x.s.H.cellP (ii:Int)) (x.coll.dZ (ii+1))) hd (fun hb=>by rw [zU,g2] at hb;cases hb) ?_
   show _<=2*(p.ce - ii)+p.rW hf R
   omega
 | look v t =>
   obtain ⟨hmk,hlk,hc,hb⟩:=dD
   have jB:=h.col
   unfold stepW
   simp only [aC]
   by_cases hp:x.s.H.dX v x.coll.color=true
   ·rw [if_pos hp]
    have hp2:HS.dX { p.H with co:=f } v p.κ=true:=by rw [<- hH,<- jB];exact hp
    have hU:=CP.Qr k hk2 hp2
    have hU2:p.U (x.s.H.bQ v x.coll.color).co+1=p.U x.s.H.co:=by
     rw [jB,hco,<- hU,hH]
    have hB:(p.U (x.s.H.bQ v x.coll.color).co+1)*p.big hf R=p.U x.s.H.co*p.big hf R:=by rw [hU2]
    rw [Nat.add_mul,Nat.one_mul] at hB
    have hpush:∃ (st:List Nat) (ov:Bool),({ x.coll with fresh:=true }:CS).push v={ x.coll with fresh:=true,stk:=st,over:=ov }/\st.length<=x.coll.stk.length+1:=by
     unfold CS.push
     simp only
     split
     ·exact ⟨x.coll.stk,true,rfl,Nat.le_succ _⟩
     ·exact ⟨x.coll.stk++[v],x.coll.over,rfl,by simp⟩
    obtain ⟨st,ov,hpe,s1⟩:=hpush
    rw [hpe]
    refine pO (x:=x) (H:=x.s.H.bQ v x.coll.color) (Q:=x.s.Q) (fl:=x.s.flag) (c:={ x.coll with fresh:=true,stk:=st,over:=ov,next:=t }) ?_
    rw [hd]
    have e1:(if (iY t && !st.isEmpty)=true then p.mu+1 else 0)<=p.mu+1:=by split<;>omega
    have e2:(if (x.s.flag||ov||x.muts.any (fun m=>iL m.next))=true then p.wk hf R else 0)<=p.wk hf R:=by split<;>omega
    have e3:(if (true||x.coll.phase==4)=true then p.dr R else 0)<=p.dr R:=by split<;>omega
    have key:p.rk hf R t+33*st.length+(if (iY t && !st.isEmpty)=true then p.mu+1 else 0)+p.U (x.s.H.bQ v x.coll.color).co*p.big hf R+(if (x.s.flag||ov||x.muts.any (fun m=>iL m.next))=true then p.wk hf R else 0)+(if (true||x.coll.phase==4)=true then p.dr R else 0)+x.s.Q.qs*(hf+3)+1 <=
     1+p.rk hf R t+33*x.coll.stk.length+(if nD x=true then p.mu+1 else 0)+p.U x.s.H.co*p.big hf R+(if qx x=true then p.wk hf R else 0)+(if dB x=true then p.dr R else 0)+x.s.Q.qs*(hf+3):=by
     have hbig:p.big hf R=34+p.wk hf R+p.dr R+p.mu+2:=rfl
     omega
    exact key
   ·rw [if_neg hp]
    refine gQ hd (fun hb=>hb) ?_
    show p.rk hf R t+1<=1+p.rk hf R t
    omega
 | work =>
   unfold stepW
   simp only [aC]
   cases hs:x.coll.stk.getLast? with
   | some a =>
     have hsp:=vX hs
     have hlen:x.coll.stk.length=x.coll.stk.dropLast.length+1:=by
      have:=congrArg List.length hsp
      rw [List.length_append] at this
      exact this
     refine uH (x:=x) (Q:=x.s.Q) (st:=x.coll.stk.dropLast) (d' := .object a .work) hd ?_
     show 32+p.rW hf R+33*_+0+_+1<=p.rW hf R+33*_+0+_
     omega
   | none =>
     have he:=NY hs
     refine uH (x:=x) (Q:=x.s.Q) (st:=x.coll.stk) (d' := .box 0) hd ?_
     rw [he]
     show p.mu - 0+2+p.rM hf R+33*0+0+_+1<=p.mu+3+p.rM hf R+33*0+0+_
     omega
 | empty t =>
   obtain ⟨hmk,htw⟩:=dD
   have hbt:=QA htw
   unfold stepW
   simp only [aC]
   cases hs:x.coll.stk.getLast? with
   | some a =>
     have hsp:=vX hs
     have hlen:x.coll.stk.length=x.coll.stk.dropLast.length+1:=by
      have:=congrArg List.length hsp
      rw [List.length_append] at this
      exact this
     refine uH (x:=x) (Q:=x.s.Q) (st:=x.coll.stk.dropLast) (d' := .object a (.empty t)) hd ?_
     show 32+(1+p.rk hf R t)+33*_+0+_+1<=1+p.rk hf R t+33*_+0+_
     omega
   | none =>
     refine gQ hd (fun hb=>by rw [hbt] at hb;cases hb) ?_
     show p.rk hf R t+1<=1+p.rk hf R t
     omega
 | object a t =>
   obtain ⟨hmk,hto⟩:=dD
   have hbt:=QB hto
   have hn:=k.nf a
   obtain ⟨g1,g2,g3⟩:=Jw (p:=p) (hf:=hf) (R:=R) (a:=a) (i:=0) (n:=(x.s.H.aV a).1) (Nat.zero_le _) hbt
   refine gQ (d':=cu a 0 (x.s.H.aV a).1 t) hd (fun hb=>by rw [g3] at hb;cases hb) ?_
   rw [hfp] at g1 ⊢
   show _<=32+p.rk hf R t
   omega
 | field a ii n t =>
   obtain ⟨hmk,hto⟩:=dD
   obtain ⟨⟨hn1,hn2,hn3⟩,hft⟩:=jg
   have hbt:=QB hto
   obtain ⟨g1,g2,g3⟩:=Jw (p:=p) (hf:=hf) (R:=R) (a:=a) (i:=ii+1) (n:=n) (by omega) hbt
   have g4:=EI (p:=p) (hf:=hf) (R:=R) (v:=x.s.H.bY a (ii:Int)) (t:=cu a (ii+1) n t)
   refine gQ (d':=cZ (x.s.H.bY a (ii:Int)) (cu a (ii+1) n t)) hd (fun hb=>by rw [zU,g3] at hb;cases hb) ?_
   show _<=2*(n - ii)+1+p.rk hf R t
   by_cases e:ii+1=n
   ·have:=g2 e;omega
   ·omega
 | walk b =>
   obtain ⟨hmk,hb⟩:=dD
   obtain ⟨g1,g2⟩:=NW (p:=p) (hf:=hf) (R:=R) (c:=x.coll) hcbl (b:=b+1) (by omega)
   obtain ⟨g3,g4⟩:=Jy (p:=p) (hf:=hf) (R:=R) (l:=x.s.H.slots b) g2
   refine gQ (d':=dL (x.s.H.slots b) (x.coll.eF (b+1))) hd (fun hb=>by rw [g4] at hb;cases hb) ?_
   rw [g3,g1]
   have hl:=k.slen b
   rw [<- hsl] at hl
   have:=mul_pred (c:=34*hf+1) hb
   show _<=(p.bl - b)*(34*hf+1)+p.rW hf R
   omega
 | slots ll t =>
   obtain ⟨hmk,hle,htw⟩:=dD
   have hbt:=QA htw
   have hlen:ll.length=ll.tail.length+1:=by
    cases ll with
    | nil=>exact absurd rfl hle
    | cons a r=>rfl
   obtain ⟨g3,g4⟩:=Jy (p:=p) (hf:=hf) (R:=R) (l:=ll.tail) hbt
   unfold stepW
   simp only [aC]
   by_cases hc:(!x.s.H.bn (aW ll)||x.s.H.dW (aW ll) != x.coll.color)=true
   ·rw [if_pos hc]
    refine gQ (d':=dL ll.tail t) hd (fun hb=>by rw [g4] at hb;cases hb) ?_
    rw [g3]
    show _<=34*ll.length+p.rk hf R t
    omega
   ·rw [if_neg hc]
    refine gQ (d' := .object (aW ll) (.empty (dL ll.tail t))) hd (fun hb=>by cases hb) ?_
    show 32+(1+p.rk hf R (dL ll.tail t))+1<=34*ll.length+p.rk hf R t
    rw [g3];omega
 | box mm =>
   obtain ⟨hmk,hm⟩:=dD
   unfold stepW
   simp only [aC]
   cases hbx:x.s.box mm with
   | cons a r =>
     have hib:mm<x.s.boxes.length:=by rw [h.box];exact hm
     have hmm:mm<x.muts.length:=by rw [h.muts];exact hm
     have hbi:∀ j,({ x.s with boxes:=x.s.boxes.set mm r }:Sh).box j=if j=mm then r else x.s.box j:=fun j=>by
      show (x.s.boxes.set mm r).getD j []=_
      rw [List.getD_eq_getElem?_getD]
      by_cases e:j=mm
      ·subst e
       rw [List.getElem?_set_self hib,if_pos rfl];rfl
      ·rw [List.getElem?_set_ne (fun e'=>e e'.symm),<- List.getD_eq_getElem?_getD,if_neg e];rfl
     have hT:p.T { x with s:={ x.s with boxes:=x.s.boxes.set mm r },coll:={ x.coll with next:=cZ a (.box mm) } }+2=p.T x:=by
      have hup:=EH (f:=oZ x) (g:=oZ { x with s:={ x.s with boxes:=x.s.boxes.set mm r },coll:={ x.coll with next:=cZ a (.box mm) } }) hm (fun j hj=>by
       unfold oZ
       show _=(match x.muts[j]? with|some m=>_|none=>0)
       cases hmj:x.muts[j]? with
       | none=>rfl
       | some mj =>
         show dO x.s j mj+2*(x.s.box j).length=dO x.s j mj+2*(({ x.s with boxes:=x.s.boxes.set mm r }:Sh).box j).length
         rw [hbi j,if_neg hj])
      have hmo:x.muts[mm]?=some (x.muts[mm]'hmm):=List.getElem?_eq_getElem hmm
      have g1:oZ x mm=dO x.s mm (x.muts[mm]'hmm)+2*(r.length+1):=by
       unfold oZ
       rw [hmo,hbx];rfl
      have g2:oZ { x with s:={ x.s with boxes:=x.s.boxes.set mm r },coll:={ x.coll with next:=cZ a (.box mm) } } mm=dO x.s mm (x.muts[mm]'hmm)+2*r.length:=by
       unfold oZ
       show (match x.muts[mm]? with|some m=>_|none=>0)=_
       rw [hmo]
       show dO x.s mm (x.muts[mm]'hmm)+2*(({ x.s with boxes:=x.s.boxes.set mm r }:Sh).box mm).length=_
       rw [hbi mm,if_pos rfl]
      rw [g1,g2] at hup
      unfold CP.T
      omega
     have g3:=EI (p:=p) (hf:=hf) (R:=R) (v:=a) (t := .box mm)
     unfold CP.phi
     have e1:nD { x with s:={ x.s with boxes:=x.s.boxes.set mm r },coll:={ x.coll with next:=cZ a (.box mm) } }=nD x:=by
      unfold nD
      show (iY (cZ a (.box mm))&&_)=_
      rw [zU,hd]
     have e2:qx { x with s:={ x.s with boxes:=x.s.boxes.set mm r },coll:={ x.coll with next:=cZ a (.box mm) } }=qx x:=rfl
     have e3:dB { x with s:={ x.s with boxes:=x.s.boxes.set mm r },coll:={ x.coll with next:=cZ a (.box mm) } }=dB x:=rfl
     show p.T { x with s:={ x.s with boxes:=x.s.boxes.set mm r },coll:={ x.coll with next:=cZ a (.box mm) } }+p.rk hf R (cZ a (.box mm))+33*x.coll.stk.length+(if nD { x with s:={ x.s with boxes:=x.s.boxes.set mm r },coll:={ x.coll with next:=cZ a (.box mm) } }=true then p.mu+1 else 0)+p.U x.s.H.co*p.big hf R+(if qx { x with s:={ x.s with boxes:=x.s.boxes.set mm r },coll:={ x.coll with next:=cZ a (.box mm) } }=true then p.wk hf R else 0)+(if dB { x with s:={ x.s with boxes:=x.s.boxes.set mm r },coll:={ x.coll with next:=cZ a (.box mm) } }=true then p.dr R else 0)+x.s.Q.qs*(hf+3)+1<=_
     rw [e1,e2,e3,hd]
     generalize p.T { x with s:={ x.s with boxes:=x.s.boxes.set mm r },coll:={ x.coll with next:=cZ a (.box mm) } }=T' at *
     omega
   | nil =>
     show p.phi hf R { x with coll:={ x.coll with next:=if mm+1<x.coll.muts then .box (mm+1) else if x.coll.stk=[] then .over else .work } }+1<=_
     by_cases hl:mm+1<x.coll.muts
     ·rw [if_pos hl]
      refine gQ hd (fun _=>rfl) ?_
      show p.mu - (mm+1)+2+p.rM hf R+1<=p.mu - mm+2+p.rM hf R
      omega
     ·rw [if_neg hl]
      by_cases hs:x.coll.stk=[]
      ·rw [if_pos hs]
       refine gQ hd (fun hb=>by cases hb) ?_
       show 2+p.rM hf R+1<=p.mu - mm+2+p.rM hf R
       omega
      ·rw [if_neg hs]
       refine uH (x:=x) (Q:=x.s.Q) (st:=x.coll.stk) (d' := .work) hd ?_
       have hne:(iY (.box mm) && !x.coll.stk.isEmpty)=true:=by
        show (true && !x.coll.stk.isEmpty)=true
        rw [Bool.true_and,Bool.not_eq_true',List.isEmpty_eq_false_iff]
        exact hs
       rw [hne,if_pos rfl]
       show p.mu+3+p.rM hf R+33*_+0+_+1<=p.mu - mm+2+p.rM hf R+33*_+(p.mu+1)+_
       omega
 | over =>
   have hmk:uF x.coll.phase:=dD
   have hnw:∀ m u,x.coll.next ≠ .wait m u:=by rw [hd];intro m u e;cases e
   have hst:=h.stk0 (by rw [hd];rfl)
   unfold stepW
   simp only [aC]
   by_cases hfo:(!x.s.flag && !x.coll.over)=true
   ·rw [if_pos hfo]
    by_cases h4:x.coll.phase=4
    ·rw [if_pos h4]
     refine gQ hd (fun hb=>by cases hb) ?_
     show 1+p.rM hf R+1<=2+p.rM hf R
     omega
    ·rw [if_neg h4]
     by_cases hfr:x.coll.fresh=true
     ·rw [if_pos hfr]
      refine pO (x:=x) (H:=x.s.H) (Q:=x.s.Q) (fl:=x.s.flag) (c:={ x.coll with phase:=4,next := .drain }) ?_
      rw [hd]
      have e1:nD x=false:=by unfold nD;rw [hd];rfl
      have e2:dB x=true:=by unfold dB;rw [hfr];rfl
      have e3:(x.coll.fresh||(4:Nat)==4)=true:=by simp
      rw [e1,e2]
      have key:1+p.rM hf R+33*x.coll.stk.length+0+p.U x.s.H.co*p.big hf R+(if (x.s.flag||x.coll.over||x.muts.any (fun m=>iL m.next))=true then p.wk hf R else 0)+(if (x.coll.fresh||(4:Nat)==4)=true then p.dr R else 0)+x.s.Q.qs*(hf+3)+1 <=
       2+p.rM hf R+33*x.coll.stk.length+0+p.U x.s.H.co*p.big hf R+(if (x.s.flag||x.coll.over||x.muts.any (fun m=>iL m.next))=true then p.wk hf R else 0)+p.dr R+x.s.Q.qs*(hf+3):=by
       rw [e3,if_pos rfl];omega
      exact key
     ·rw [if_neg hfr]
      refine gQ hd (fun hb=>by cases hb) ?_
      show p.rM hf R+1<=2+p.rM hf R
      omega
   ·rw [if_neg hfo]
    obtain ⟨g1,g2⟩:=NW (p:=p) (hf:=hf) (R:=R) (c:={ x.coll with over:=false,fresh:=true,walks:=x.coll.walks+1 }) hcbl (b:=0) (Nat.zero_le _)
    refine pO (x:=x) (H:=x.s.H) (Q:=x.s.Q) (fl:=false) (c:={ x.coll with over:=false,fresh:=true,walks:=x.coll.walks+1,next:=CS.eF { x.coll with over:=false,fresh:=true,walks:=x.coll.walks+1 } 0 }) ?_
    rw [hd]
    have e1:nD x=false:=by unfold nD;rw [hd];rfl
    have e2:qx x=true:=by
     unfold qx
     have:x.s.flag=true\/x.coll.over=true:=by
      cases hf1:x.s.flag
      ·cases hf2:x.coll.over
       ·rw [hf1,hf2] at hfo;exact absurd rfl hfo
       ·exact .inr rfl
      ·exact .inl rfl
     rcases this with e|e<;>rw [e]<;>simp
    have hany:=V5 h hnw
    rw [e1,e2]
    generalize CS.eF { x.coll with over:=false,fresh:=true,walks:=x.coll.walks+1 } 0=d' at *
    have e3:(if (true||x.coll.phase==4)=true then p.dr R else 0)=p.dr R:=by simp
    have key:p.rk hf R d'+33*x.coll.stk.length+(if (iY d' && !x.coll.stk.isEmpty)=true then p.mu+1 else 0)+p.U x.s.H.co*p.big hf R+(if (false||false||x.muts.any (fun m=>iL m.next))=true then p.wk hf R else 0)+(if (true||x.coll.phase==4)=true then p.dr R else 0)+x.s.Q.qs*(hf+3)+1 <=
     2+p.rM hf R+33*x.coll.stk.length+0+p.U x.s.H.co*p.big hf R+p.wk hf R+(if dB x=true then p.dr R else 0)+x.s.Q.qs*(hf+3):=by
     rw [hany,e3,g2,g1]
     have hwk:p.wk hf R=p.dr R+p.bl*(34*hf+1)+p.mu+4:=rfl
     have hrw:p.rW hf R=p.mu+3+p.rM hf R:=rfl
     simp only [Bool.or_self,Bool.false_and,Bool.false_eq_true,if_false,Nat.sub_zero]
     omega
    exact key
 | marked =>
   have mV:x.coll.phase=5:=dD
   obtain ⟨g1,g2⟩:=Qz (p:=p) (hf:=hf) (R:=R) (c:={ x.coll with phase:=6 }) hcbl (b:=0) (Nat.zero_le _)
   refine pO (x:=x) (H:=x.s.H) (Q:=x.s.Q) (fl:=x.s.flag) (c:={ x.coll with phase:=6,next:=CS.iU { x.coll with phase:=6 } 0 }) ?_
   rw [hd]
   have e1:nD x=false:=by unfold nD;rw [hd];rfl
   have e2:dB x=x.coll.fresh:=by unfold dB;rw [mV];simp
   have e3:(x.coll.fresh||(6:Nat)==4)=x.coll.fresh:=by simp
   rw [e1,e2]
   generalize CS.iU { x.coll with phase:=6 } 0=d' at *
   have key:p.rk hf R d'+33*x.coll.stk.length+(if (iY d' && !x.coll.stk.isEmpty)=true then p.mu+1 else 0)+p.U x.s.H.co*p.big hf R+(if (x.s.flag||x.coll.over||x.muts.any (fun m=>iL m.next))=true then p.wk hf R else 0)+(if (x.coll.fresh||(6:Nat)==4)=true then p.dr R else 0)+x.s.Q.qs*(hf+3)+1 <=
    p.rM hf R+33*x.coll.stk.length+0+p.U x.s.H.co*p.big hf R+(if (x.s.flag||x.coll.over||x.muts.any (fun m=>iL m.next))=true then p.wk hf R else 0)+(if x.coll.fresh=true then p.dr R else 0)+x.s.Q.qs*(hf+3):=by
    rw [e3,g2,g1]
    have hrM:p.rM hf R=1+p.bl*(hf+4)+(p.ak R+5):=rfl
    simp only [Bool.false_and,Bool.false_eq_true,if_false,Nat.sub_zero]
    omega
   exact key
 | _=>exact dD.elim
end
end
section
attribute [local go_sem] Oper.semAt_some
open Go.RowKit
def qC:MD->Prop
 | .nil=>True
 | .once _=>True
 | .note _ _ t=>qC t
 | .add _ t=>qC t
 | .pour _ t=>qC t
 | .eu _ _ t=>qC t
 | .raise t=>qC t
 | .get _=>True
 | .start o=>o.k=4
 | _=>False
def Yq (m:MS):Prop:=qC m.next/\∀ o∈m.prog,o.k=4
section
variable {o:Ow} {w w':World} {G:Geo} {g:MG} {s:Sh} {m:MS} {nv:Value} {ev:Option Ev} {N:Nat}
theorem TD (h:aN o w G g s m none nv) (op:fE) (hk:op.k=4) (hres:m.res.length<=1000000000):Calls ay 93 #[aj g.M,.agg op.cells.toArray] w (aT o w G g nv m.id (iC s m op)):=by
 by_cases he:chk m.c op=0
 case neg =>
  have e1:iC s m op=mY s m (chk m.c op) 0:=by unfold iC;rw [if_pos he]
  rw [e1]
  exact RU h op he hres
 have e0:iC s m op=⟨s,m,.get op,none⟩:=by
  unfold iC
  rw [if_neg (by simpa using he),if_neg (by omega),if_neg (by omega),if_neg (by omega),if_pos hk]
 rw [e0]
 exact U9 h op he 187 (by rw [hk];rfl) (fun args w=>by simp [callFunc,func187,go_sem];rfl) _ (fun W k=>by
  have h9:=U7 (h.still k) op
  exact h9)
theorem Jz (d:MD) (hf:qC d):CQ d:=by
 intro o w G g s m nv N h ok hN hd v hv hnil
 have hres:m.res.length<=1000000000:=Nat.le_trans ok.res hN
 cases d with
 | nil=>cases hnil
 | add x t =>
   obtain ⟨tv,ht,bs,e,hc⟩:=hv
   obtain ⟨b0,b1,b2,rfl,⟨o0,k0⟩,⟨o1,k1⟩,⟨o2,k2⟩⟩:=caps3 hc
   refine ⟨_,_,e,FN,(IU h x t tv ht b0 b1 b2 o0 o1 o2 k0 k1 k2).mono ?_⟩
   rintro e w' ⟨rfl,h1,h2,h3⟩
   have ee:(stepM s m (.add x t)).next=t/\(stepM s m (.add x t)).ev=none:=by
    simp only [stepM]
    split<;>exact ⟨rfl,rfl⟩
   refine aT.same (by rw [ee.2];exact h1) (by rw [ee.1];exact h2) h3
 | start o =>
   obtain ⟨bs,e,hc⟩:=RV h o v hv (TD h o hf hres)
   exact ⟨_,bs,e,G6,hc⟩
 | once k =>
   obtain ⟨bs,e,hc⟩:=RX h k v hv ok.color
   exact ⟨_,bs,e,G7,hc⟩
 | note x c t =>
   obtain ⟨bs,e,hc⟩:=RI h x c t v hv
   exact ⟨_,bs,e,FP,hc⟩
 | pour c t =>
   obtain ⟨bs,e,hc⟩:=RJ h c t v hv
   exact ⟨_,bs,e,FQ,hc⟩
 | eu c f t =>
   obtain ⟨bs,e,hc⟩:=OX h c f t v hv
   exact ⟨_,bs,e,Eo,hc⟩
 | raise t =>
   obtain ⟨bs,e,hc⟩:=OW h t v hv
   exact ⟨_,bs,e,AQ,hc⟩
 | get o =>
   obtain ⟨bs,e,hc⟩:=U4 h o v hv hd.1 hd.2 hres
   exact ⟨_,bs,e,LW,hc⟩
 | _=>exact hf.elim
end
theorem V6 {v c:Nat} {t:MD} (h:qC t):qC (kD v c t):=by
 unfold kD
 split<;>exact h
theorem JA {m:MS} {c:Nat} {t:MD} (h:qC t):qC (m.kE c t):=by
 unfold MS.kE
 split<;>exact h
theorem JB (w:Nat):∀ l:List Nat,qC (jQ w l)
 | []=>trivial
 | v::l=>V6 (JB w l)
theorem TF (s:Sh) {m:MS} (h:∀ o∈m.prog,o.k=4):qC (dA s m):=by
 unfold dA
 split
 ·split
  ·exact JB _ _
  ·split
   ·exact JA trivial
   ·trivial
 ·split
  ·rename_i o ho
   exact h o (List.mem_of_getElem? ho)
  ·trivial
theorem V7 (s:Sh) (m:MS) (d:MD) (h:qC d):qC (stepM s m d).next/\(stepM s m d).m.prog=m.prog:=by
 cases d with
 | nil=>exact ⟨trivial,rfl⟩
 | once k =>
   refine ⟨trivial,?_⟩
   show (gB m k).prog=m.prog
   unfold gB
   repeat' split
   all_goals rfl
 | note v c t =>
   simp only [stepM]
   split
   ·exact ⟨h,rfl⟩
   ·split
    ·exact ⟨JA h,rfl⟩
    ·exact ⟨h,rfl⟩
 | add v t =>
   simp only [stepM]
   split<;>exact ⟨h,rfl⟩
 | pour c t =>
   simp only [stepM]
   split<;>exact ⟨h,rfl⟩
 | eu c f t =>
   simp only [stepM]
   refine ⟨?_,trivial⟩
   split
   ·exact h
   ·split<;>exact h
 | raise t=>exact ⟨h,rfl⟩
 | get o=>exact ⟨trivial,rfl⟩
 | start o =>
   have hk:o.k=4:=h
   have e:iC s m o=mY s m (chk m.c o) 0\/iC s m o=⟨s,m,.get o,none⟩:=by
    unfold iC
    by_cases hc:chk m.c o≠0
    ·rw [if_pos hc];exact .inl rfl
    ·rw [if_neg hc,if_neg (by omega),if_neg (by omega),if_neg (by omega),if_pos hk]
     exact .inr rfl
   show qC (iC s m o).next/\(iC s m o).m.prog=m.prog
   rcases e with e|e<;>rw [e]<;>exact ⟨True.intro,rfl⟩
 | _=>exact h.elim
theorem Yr (s:Sh) {m:MS} (h:Yq m):Yq (bG s m).2.1:=by
 unfold bG
 split
 ·exact ⟨TF s h.2,h.2⟩
 ·obtain ⟨h1,h2⟩:=V7 s { m with spent:=m.spent+1 } m.next h.1
  generalize stepM s { m with spent:=m.spent+1 } m.next=r at *
  simp only
  split
  ·have e:∀ M:MS,M.most.next=M.next/\M.most.prog=M.prog:=fun M=>by
    unfold MS.most
    split<;>exact ⟨rfl,rfl⟩
   refine ⟨by rw [(e _).1];trivial,by rw [(e _).2];intro o ho;exact h.2 o (by rw [<- h2];exact ho)⟩
  ·exact ⟨h1,fun o ho=>h.2 o (by rw [<- h2];exact ho)⟩
def sF (x:WS):Prop:=∀ m∈x.muts,Yq m
theorem rD {x:WS} (h:sF x) (i:Nat):sF (bP x i):=by
 have tl:∀ (y:WS) ev,(y.tell ev).muts=y.muts:=fun y ev=>by cases ev<;>rfl
 intro m hm
 unfold bP at hm
 cases hi:x.muts[i]? with
 | some m0 =>
   rw [hi] at hm
   simp only [tl] at hm
   rcases List.mem_or_eq_of_mem_set hm with g|g
   ·exact h m g
   ·rw [g];exact Yr _ (h m0 (List.mem_of_getElem? hi))
 | none =>
   rw [hi] at hm
   simp only at hm
   split at hm
   ·rw [tl] at hm;exact h m hm
   ·rw [tl] at hm;exact h m hm
end
end Go.Proofs.YtanfphjoebobaaaGreatDoor
