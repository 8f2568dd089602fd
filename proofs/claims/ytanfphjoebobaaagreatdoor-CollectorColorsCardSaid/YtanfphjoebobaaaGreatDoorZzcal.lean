/- Parts of a walk, put together and made shorter by a program of mine. No conditions. -/
import Derived.Test.YtanfphjoebobaaaGreatDoorZzcak
namespace Go.Proofs.YtanfphjoebobaaaGreatDoor
set_option maxHeartbeats 1000000
section
def kY (f:Nat→Nat):Nat→Nat
 | 0=>0
 | n+1=>kY f n+f n
theorem uG {f g:Nat→Nat}:∀ {n:Nat},(∀ i,i<n→f i=g i)→kY f n=kY g n
 | 0,_=>rfl
 | n+1,h=>by show kY f n+f n=kY g n+g n;rw [uG (fun i hi=>h i (by omega)),h n (by omega)]
theorem AY {f g:Nat→Nat}:∀ {n:Nat} (c:Nat),(∀ i,i<n→f i≤g i+c)→kY f n≤kY g n+n*c
 | 0,_,_=>by simp [kY]
 | n+1,c,h=>by
   have h1:=AY (n:=n) c (fun i hi=>h i (by omega))
   have h2:=h n (by omega)
   show kY f n+f n≤kY g n+g n+(n+1)*c
   rw [Nat.add_mul,Nat.one_mul];omega
theorem yF {f g:Nat→Nat} {i:Nat}:∀ {n:Nat},i<n→(∀ j,j≠i→f j=g j)→kY g n+f i=kY f n+g i
 | 0,h,_=>absurd h (Nat.not_lt_zero _)
 | n+1,hi,h=>by
   show kY g n+g n+f i=kY f n+f n+g i
   by_cases e:i=n
   ·subst e
    rw [uG (f:=f) (g:=g) (fun j hj=>h j (by omega))];omega
   ·have:=yF (n:=n) (by omega) h
    rw [h n (fun e'=>e e'.symm)];omega
def CP.ak (p:CP) (R:Nat):Nat:=p.mu*(8*R+6)
def CP.rM (p:CP) (hf R:Nat):Nat:=1+p.bl*(hf+4)+(p.ak R+5)
def CP.dr (p:CP) (R:Nat):Nat:=p.ak R+p.mu+4
def CP.rW (p:CP) (hf R:Nat):Nat:=p.mu+3+p.rM hf R
def CP.wk (p:CP) (hf R:Nat):Nat:=p.dr R+p.bl*(34*hf+1)+p.mu+4
def CP.big (p:CP) (hf R:Nat):Nat:=34+p.wk hf R+p.dr R+p.mu+2
def CP.rT (p:CP) (hf R:Nat):Nat:=1+p.dr R+2*p.ce+p.rW hf R
def CP.rk (p:CP) (hf R:Nat):CD→Nat
 | .nil=>0
 | .idle=>1
 | .off=>p.ak R+3
 | .rests=>p.ak R+4
 | .sweep=>p.ak R+5
 | .enqueue b=>(p.bl - b)*(hf+4)+(p.ak R+5)
 | .block sl=>sl.length+1+(p.ak R+5)
 | .marked=>p.rM hf R
 | .drain=>1+p.rM hf R
 | .over=>2+p.rM hf R
 | .box m=>(p.mu - m)+2+p.rM hf R
 | .work=>p.rW hf R
 | .cell i=>2*(p.ce - i)+p.rW hf R
 | .trace=>p.rT hf R
 | .scan=>1+p.ak R+p.rT hf R
 | .arm=>2+p.ak R+p.ak R+p.rT hf R
 | .wait m t=>(p.mu - m)+CP.rk p hf R t
 | .look _ t=>1+CP.rk p hf R t
 | .object _ t=>32+CP.rk p hf R t
 | .field _ i n t=>2*(n - i)+1+CP.rk p hf R t
 | .walk b=>(p.bl - b)*(34*hf+1)+p.rW hf R
 | .slots l t=>34*l.length+CP.rk p hf R t
 | .empty t=>1+CP.rk p hf R t
def gG:CD→Bool
 | .box _=>true
 | .look _ t=>gG t
 | _=>false
def kZ (x:WS) (i:Nat):Nat:=match x.muts[i]? with
 | some m=>bZ x.s i m+2*(x.s.box i).length
 | none=>0
def CP.T (p:CP) (x:WS):Nat:=kY (kZ x) p.mu
def pwB (x:WS):Bool:=x.s.flag||x.coll.over||x.muts.any (fun m=>prM m.next)
def dB (x:WS):Bool:=x.coll.fresh||x.coll.phase==4
def exB (x:WS):Bool:=gG x.coll.next && !x.coll.stk.isEmpty
def Qu.qs (q:Qu):Nat:=(q.rw 0).length+(q.rw 1).length+(q.rw 2).length+(q.rw 3).length
def CP.phi (p:CP) (hf R:Nat) (x:WS):Nat :=
 p.T x+p.rk hf R x.coll.next+33*x.coll.stk.length+(if exB x then p.mu+1 else 0)+p.U x.s.H.co*p.big hf R+(if pwB x then p.wk hf R else 0)+(if dB x then p.dr R else 0)+x.s.Q.qs*(hf+3)
section
variable {p:CP} {x y:WS} {s s':Sh} {m m':MS} {i l l' ph ph' hf R mu bl ce κ:Nat} {H:HS} {dead:List Nat} {q:Qu}
theorem rC (hs:y.s=x.s) (hm:y.muts=x.muts) (hc:y.coll=x.coll):p.phi hf R y=p.phi hf R x:=by
 obtain ⟨a,b,c,d,e⟩:=x
 obtain ⟨a',b',c',d',e'⟩:=y
 cases hs;cases hm;cases hc
 rfl
theorem Si (hB:s'.B=s.B):bZ s' i m=bZ s i m:=by
 unfold bZ bI
 rw [hB]
theorem Uo {H:HS} {Q:Qu} {fl:Bool} {c:CS}:p.T { x with s:={ x.s with H:=H,Q:=Q,flag:=fl },coll:=c }=p.T x:=by
 unfold CP.T
 refine uG fun i _=>?_
 unfold kZ
 show (match x.muts[i]? with|some m=>_|none=>0)=(match x.muts[i]? with|some m=>_|none=>0)
 cases x.muts[i]? with
 | none=>rfl
 | some m=>exact congrArg (· + 2*(x.s.box i).length) (Si rfl)
theorem Cm {b c:Bool} {n:Nat} (h:b=true→c=true):(if b then n else 0)≤if c then n else 0:=by
 cases b with
 | false=>exact Nat.zero_le _
 | true=>rw [h rfl];exact Nat.le_refl _
theorem Sj (hI:bF p.H) (hb:p.bl=p.H.b) (h:Cyc p x dead) (hm:x.muts[i]?=some m):p.phi hf R (bC x i)+(if x.s.B.pend (i:Int) then 1 else 0)≤p.phi hf R x:=by
 obtain ⟨e1,e2,e3⟩:=mW x hm
 have hlt:=(List.getElem?_eq_some_iff.1 hm).1
 have oW:i<p.mu:=by cases h with
  | mark h1 _=>exact h1.lF hm
  | sweep h1=>exact h1.lF hm
 have key:∀ (s':Sh) (m':MS),(∀ j,j≠i→s'.box j=x.s.box j)→(∀ j:Nat,j≠i→s'.B.pend (j:Int)=x.s.B.pend (j:Int))→s'.B.kind=x.s.B.kind→(∀ (j:Nat) (mj:MS),x.muts[j]?=some mj→mj.id=j)→s'.Q=x.s.Q →
  bZ s' i m'+2*(s'.box i).length+(if x.s.B.pend (i:Int) then 1 else 0)≤bZ x.s i m+2*(x.s.box i).length →
  (p.U s'.H.co+1≤p.U x.s.H.co∨(p.U s'.H.co=p.U x.s.H.co∧(prM m'.next=true∨s'.flag=true→prM m.next=true∨x.s.flag=true))) →
  p.phi hf R { x with s:=s',muts:=x.muts.set i m' }+(if x.s.B.pend (i:Int) then 1 else 0)≤p.phi hf R x:=fun s' m' hbo hpo hk hid hQ hc hu=>by
  have hT:p.T { x with s:=s',muts:=x.muts.set i m' }+(if x.s.B.pend (i:Int) then 1 else 0)≤p.T x:=by
   have hup:=yF (f:=kZ x) (g:=kZ { x with s:=s',muts:=x.muts.set i m' }) oW (fun j hj=>by
    unfold kZ
    show _=(match (x.muts.set i m')[j]? with|some m=>_|none=>0)
    rw [List.getElem?_set_ne (fun e=>hj e.symm)]
    cases hmj:x.muts[j]? with
    | none=>rfl
    | some mj =>
      have e1:bZ s' j mj=bZ x.s j mj:=by
       have hj':=hid j mj hmj
       unfold bZ bI
       rw [hj',hpo j hj,hk]
      show bZ x.s j mj+2*(x.s.box j).length=bZ s' j mj+2*(s'.box j).length
      rw [e1,hbo j hj])
   have g1:kZ x i=bZ x.s i m+2*(x.s.box i).length:=by unfold kZ;rw [hm]
   have g2:kZ { x with s:=s',muts:=x.muts.set i m' } i=bZ s' i m'+2*(s'.box i).length:=by
    unfold kZ
    show (match (x.muts.set i m')[i]? with|some m=>_|none=>0)=_
    rw [List.getElem?_set_self hlt]
   unfold CP.T
   rw [g1,g2] at hup
   omega
  unfold CP.phi
  have hQ2:({ x with s:=s',muts:=x.muts.set i m' }:WS).s.Q=x.s.Q:=hQ
  rw [hQ2]
  have hwb:p.wk hf R≤p.big hf R:=by unfold CP.big;omega
  rcases hu with hu|⟨hu,hpr⟩
  ·have h1:(p.U s'.H.co+1)*p.big hf R≤p.U x.s.H.co*p.big hf R:=Nat.mul_le_mul_right _ hu
   rw [Nat.add_mul,Nat.one_mul] at h1
   have h2:(if pwB { x with s:=s',muts:=x.muts.set i m' }=true then p.wk hf R else 0)≤p.wk hf R:=by split<;>omega
   show p.T _+p.rk hf R x.coll.next+33*x.coll.stk.length+(if exB x=true then p.mu+1 else 0)+p.U s'.H.co*p.big hf R+_+(if dB x=true then p.dr R else 0)+x.s.Q.qs*(hf+3)+_≤_
   omega
  ·have h2:(if pwB { x with s:=s',muts:=x.muts.set i m' }=true then p.wk hf R else 0)≤(if pwB x=true then p.wk hf R else 0):=Cm fun hp=>by
    unfold pwB at hp ⊢
    simp only [Bool.or_eq_true,List.any_eq_true] at hp ⊢
    have hmm:m∈x.muts:=List.mem_iff_getElem?.2 ⟨i,hm⟩
    have fin:prM m.next=true∨x.s.flag=true→(x.s.flag=true∨x.coll.over=true)∨∃ m,m∈x.muts∧prM m.next=true:=fun hh=>by
     rcases hh with hh|hh
     ·exact .inr ⟨m,hmm,hh⟩
     ·exact .inl (.inl hh)
    rcases hp with (hp|hp)|⟨mj,hj,hp⟩
    ·exact fin (hpr (.inr hp))
    ·exact .inl (.inr hp)
    ·obtain ⟨j,hj⟩:=List.mem_iff_getElem?.1 hj
     by_cases ej:j=i
     ·subst ej
      rw [List.getElem?_set_self hlt] at hj
      cases hj
      exact fin (hpr (.inl hp))
     ·rw [List.getElem?_set_ne (fun e=>ej e.symm)] at hj
      exact .inr ⟨mj,List.mem_iff_getElem?.2 ⟨j,hj⟩,hp⟩
   show p.T _+p.rk hf R x.coll.next+33*x.coll.stk.length+(if exB x=true then p.mu+1 else 0)+p.U s'.H.co*p.big hf R+_+(if dB x=true then p.dr R else 0)+x.s.Q.qs*(hf+3)+_≤_
   rw [hu]
   omega
 cases h with
 | mark h1 h2 =>
   obtain ⟨u,c,_⟩:=yD (hI.cpk hb) h1 hm
   have:=key (aQ x.s m).1 (aQ x.s m).2.1 u.oth u.pend u.kind (fun j mj hj=>(h1.bV j mj hj).id) u.q c.less c.pnt
   rw [rC (y:=bC x i) (x:={ x with s:=(aQ x.s m).1,muts:=x.muts.set i (aQ x.s m).2.1 }) e1 e2 e3]
   exact this
 | sweep h1 =>
   obtain ⟨s',m',g1,g2,g3,g4,g5,g6,g7,g8,g9⟩:=rX h1 hm
   rw [g1] at e1 e2
   have sm:=h1.bV i m hm
   have hbox:∀ j,s'.box j=x.s.box j:=fun j=>by unfold Sh.box;rw [g5]
   rw [rC (y:=bC x i) (x:={ x with s:=s',muts:=x.muts.set i m' }) e1 e2 e3]
   have hbd:∀ (s:Sh) (m:MS),s.B.pend (m.id:Int)=true→s.B.kind=7→bI s m = .once 7:=fun s m h1 h2=>by
    unfold bI
    rw [h1,if_pos rfl,h2,if_neg (by decide),if_neg (by decide)]
   have hkk:s'.B.kind=x.s.B.kind:=by
    have:=congrArg (fun z:Sh × MS × Option Ev=>z.1.B.kind) g1
    rw [← this]
    obtain ⟨b1,b2,b3⟩:=h1.bd.ans i
    rcases sm.nx with e|⟨e,_⟩
    ·unfold aQ
     rw [e];rfl
    ·have hst:∀ d,d=MD.once 7→(stepM x.s { m with spent:=m.spent+1 } d).s.B.kind=x.s.B.kind:=fun d e=>by
      rw [e]
      show (x.s.B.gu (m.id:Int)).kind=_
      rw [sm.id,b3]
     have hn:¬ isNil m.next=true:=by rw [e];decide
     show (aQ x.s m).1.B.kind=_
     unfold aQ
     rw [if_neg hn]
     exact hst _ e
   refine key s' m' (fun j hj=>hbox j) g8 hkk (fun j mj hj=>(h1.bV j mj hj).id) g4 ?_ (.inr ⟨by rw [g3],fun hp=>?_⟩)
   ·rw [hbox i]
    have hmi:SM p s' i m':=by
     have:=g2.bV i m' (by show (x.muts.set i m')[i]?=some m';rw [List.getElem?_set_self hlt])
     exact this
    by_cases hp:x.s.B.pend (i:Int)=true
    ·rw [if_pos hp] at g9 ⊢
     rcases g9 with ⟨a1,a2,a3⟩|⟨a1,a2,a3⟩
     ·unfold bZ
      rw [g6,sm.buf,hp,a3,a2,a1,hbd x.s m (by rw [sm.id];exact hp) (sm.kind hp)]
      show 0+1+_+1≤0+(1+1)+_
      omega
     ·unfold bZ
      rw [g6,sm.buf,hp,a3,a2,a1]
      show 0+0+_+1≤0+1+_
      omega
    ·rw [if_neg hp] at g9 ⊢
     obtain ⟨a1,a2,a3⟩:=g9
     have hp0:x.s.B.pend (i:Int)=false:=by simpa using hp
     unfold bZ
     rw [g6,sm.buf,hp0,a3]
     exact Nat.le_refl _
   ·rw [g7] at hp
    rcases hp with hp|hp
    ·by_cases hq:x.s.B.pend (i:Int)=true
     ·rw [if_pos hq] at g9
      rcases g9 with ⟨a1,a2,a3⟩|⟨a1,a2,a3⟩
      ·rw [a2] at hp;cases hp
      ·rw [a2] at hp;cases hp
     ·rw [if_neg hq] at g9
      rw [g9.1] at hp;cases hp
    ·exact .inr hp
end
section
variable {p:CP} {x y:WS} {s s':Sh} {m m':MS} {i l l' ph ph' hf R mu bl ce κ:Nat} {H:HS} {dead:List Nat} {q:Qu}
theorem lJ {H:HS} {Q:Qu} {fl:Bool} {c:CS} (h:p.rk hf R c.next+33*c.stk.length+(if gG c.next && !c.stk.isEmpty then p.mu+1 else 0)+p.U H.co*p.big hf R+(if (fl||c.over||x.muts.any (fun m=>prM m.next)) then p.wk hf R else 0)+(if (c.fresh||c.phase==4) then p.dr R else 0)+Q.qs*(hf+3)+1 ≤
 p.rk hf R x.coll.next+33*x.coll.stk.length+(if exB x then p.mu+1 else 0)+p.U x.s.H.co*p.big hf R+(if pwB x then p.wk hf R else 0)+(if dB x then p.dr R else 0)+x.s.Q.qs*(hf+3)):p.phi hf R { x with s:={ x.s with H:=H,Q:=Q,flag:=fl },coll:=c }+1≤p.phi hf R x:=by
 unfold CP.phi
 rw [Uo]
 have e1:exB { x with s:={ x.s with H:=H,Q:=Q,flag:=fl },coll:=c }=(gG c.next && !c.stk.isEmpty):=rfl
 have e2:pwB { x with s:={ x.s with H:=H,Q:=Q,flag:=fl },coll:=c }=(fl||c.over||x.muts.any (fun m=>prM m.next)):=rfl
 have e3:dB { x with s:={ x.s with H:=H,Q:=Q,flag:=fl },coll:=c }=(c.fresh||c.phase==4):=rfl
 rw [e1,e2,e3]
 show p.T x+p.rk hf R c.next+33*c.stk.length+_+p.U H.co*p.big hf R+_+_+Q.qs*(hf+3)+1≤_
 omega
theorem oJ {Q:Qu} {st:List Nat} {d d':CD} (hd:x.coll.next=d) (h:p.rk hf R d'+33*st.length+(if gG d' && !st.isEmpty then p.mu+1 else 0)+Q.qs*(hf+3)+1≤p.rk hf R d+33*x.coll.stk.length+(if gG d && !x.coll.stk.isEmpty then p.mu+1 else 0)+x.s.Q.qs*(hf+3)):p.phi hf R { x with s:={ x.s with Q:=Q },coll:={ x.coll with stk:=st,next:=d' } }+1≤p.phi hf R x:=by
 refine lJ (x:=x) (H:=x.s.H) (Q:=Q) (fl:=x.s.flag) (c:={ x.coll with stk:=st,next:=d' }) ?_
 have e1:exB x=(gG d && !x.coll.stk.isEmpty):=by unfold exB;rw [hd]
 have e2:pwB x=(x.s.flag||x.coll.over||x.muts.any (fun m=>prM m.next)):=rfl
 have e3:dB x=(x.coll.fresh||x.coll.phase==4):=rfl
 rw [e1,e2,e3,hd]
 have key:p.rk hf R d'+33*st.length+(if gG d' && !st.isEmpty then p.mu+1 else 0)+p.U x.s.H.co*p.big hf R+(if (x.s.flag||x.coll.over||x.muts.any (fun m=>prM m.next)) then p.wk hf R else 0)+(if (x.coll.fresh||x.coll.phase==4) then p.dr R else 0)+Q.qs*(hf+3)+1 ≤
  p.rk hf R d+33*x.coll.stk.length+(if gG d && !x.coll.stk.isEmpty then p.mu+1 else 0)+p.U x.s.H.co*p.big hf R+(if (x.s.flag||x.coll.over||x.muts.any (fun m=>prM m.next)) then p.wk hf R else 0)+(if (x.coll.fresh||x.coll.phase==4) then p.dr R else 0)+x.s.Q.qs*(hf+3):=by omega
 exact key
theorem eU {d d':CD} (hd:x.coll.next=d) (hx:gG d'=true→gG d=true) (h:p.rk hf R d'+1≤p.rk hf R d):p.phi hf R { x with coll:={ x.coll with next:=d' } }+1≤p.phi hf R x:=by
 refine oJ (x:=x) (Q:=x.s.Q) (st:=x.coll.stk) hd ?_
 have:(if (gG d' && !x.coll.stk.isEmpty)=true then p.mu+1 else 0)≤if (gG d && !x.coll.stk.isEmpty)=true then p.mu+1 else 0:=Cm fun hb=>by
  rw [Bool.and_eq_true] at hb ⊢
  exact ⟨hx hb.1,hb.2⟩
 omega
theorem wR {k:Nat} {t:CD} {c:CS} (hT:∀ i m,x.muts[i]?=some m→bZ (x.s.ask k) i m≤bZ x.s i m+(8*R+5)) (ht:gG t=false) (hc:c.stk=x.coll.stk∧c.over=x.coll.over)
 (h:p.mu+p.rk hf R t+p.mu*(8*R+5)+(if (c.fresh||k==4) then p.dr R else 0)+1≤p.rk hf R x.coll.next+(if dB x then p.dr R else 0)):p.phi hf R { x with s:=x.s.ask k,coll:={ c with phase:=k,next := .wait 0 t } }+1≤p.phi hf R x:=by
 have hTT:p.T { x with s:=x.s.ask k,coll:={ c with phase:=k,next := .wait 0 t } }≤p.T x+p.mu*(8*R+5):=by
  unfold CP.T
  refine AY _ fun i _=>?_
  unfold kZ
  show (match x.muts[i]? with|some m=>_|none=>0)≤(match x.muts[i]? with|some m=>_|none=>0)+_
  cases hm:x.muts[i]? with
  | none=>exact Nat.zero_le _
  | some m =>
    have:=hT i m hm
    show bZ (x.s.ask k) i m+2*(x.s.box i).length≤bZ x.s i m+2*(x.s.box i).length+(8*R+5)
    omega
 unfold CP.phi
 have e1:exB { x with s:=x.s.ask k,coll:={ c with phase:=k,next := .wait 0 t } }=false:=rfl
 have e2:pwB { x with s:=x.s.ask k,coll:={ c with phase:=k,next := .wait 0 t } }=pwB x:=by
  show (x.s.flag||c.over||_)=(x.s.flag||x.coll.over||_)
  rw [hc.2]
 have e3:dB { x with s:=x.s.ask k,coll:={ c with phase:=k,next := .wait 0 t } }=(c.fresh||k==4):=rfl
 rw [e1,e2,e3]
 generalize p.T { x with s:=x.s.ask k,coll:={ c with phase:=k,next := .wait 0 t } }=T' at *
 have key:T'+(p.mu - 0+p.rk hf R t)+33*x.coll.stk.length+0+p.U x.s.H.co*p.big hf R+(if pwB x then p.wk hf R else 0)+(if (c.fresh||k==4) then p.dr R else 0)+x.s.Q.qs*(hf+3)+1 ≤
  p.T x+p.rk hf R x.coll.next+33*x.coll.stk.length+(if exB x then p.mu+1 else 0)+p.U x.s.H.co*p.big hf R+(if pwB x then p.wk hf R else 0)+(if dB x then p.dr R else 0)+x.s.Q.qs*(hf+3):=by omega
 rw [← hc.1] at key ⊢
 exact key
theorem yG {v:Nat} {t:CD}:p.rk hf R (bG v t)≤1+p.rk hf R t:=by
 unfold bG
 split
 ·omega
 ·exact Nat.le_refl _
theorem uH {v:Nat} {t:CD}:gG (bG v t)=gG t:=by
 unfold bG
 split<;>rfl
theorem F6 {c:CS} (hc:c.cells=p.ce) {i:Nat} (hi:i≤p.ce):p.rk hf R (c.dF i)=2*(p.ce - i)+p.rW hf R∧gG (c.dF i)=false:=by
 unfold CS.dF
 rw [hc]
 split
 ·rename_i e
  refine ⟨?_,rfl⟩
  show p.rW hf R=_
  rw [e,Nat.sub_self];omega
 ·exact ⟨rfl,rfl⟩
theorem F7 {c:CS} (hc:c.blocks=p.bl) {b:Nat} (hb:b≤p.bl):p.rk hf R (c.dH b)=(p.bl - b)*(34*hf+1)+p.rW hf R∧gG (c.dH b)=false:=by
 unfold CS.dH
 rw [hc]
 split
 ·rename_i e
  refine ⟨?_,rfl⟩
  show p.rW hf R=_
  rw [e,Nat.sub_self,Nat.zero_mul,Nat.zero_add]
 ·exact ⟨rfl,rfl⟩
theorem CB {a i n:Nat} {t:CD} (hi:i≤n) (ht:gG t=false):p.rk hf R (bD a i n t)≤2*(n - i)+1+p.rk hf R t∧(i=n→p.rk hf R (bD a i n t)=p.rk hf R t)∧gG (bD a i n t)=false:=by
 unfold bD
 split
 ·rename_i e
  exact ⟨by omega,fun _=>rfl,ht⟩
 ·rename_i e
  exact ⟨Nat.le_refl _,fun e'=>absurd e' e,rfl⟩
theorem CJ {l:List Nat} {t:CD} (ht:gG t=false):p.rk hf R (bU l t)=34*l.length+p.rk hf R t∧gG (bU l t)=false:=by
 unfold bU
 split
 ·rename_i e
  rw [e]
  exact ⟨by simp,ht⟩
 ·exact ⟨rfl,rfl⟩
theorem IJ {c:CS} (hc:c.blocks=p.bl) {b:Nat} (hb:b≤p.bl):p.rk hf R (c.gy b)=(p.bl - b)*(hf+4)+(p.ak R+5)∧gG (c.gy b)=false:=by
 unfold CS.gy
 rw [hc]
 split
 ·rename_i e
  refine ⟨?_,rfl⟩
  show p.ak R+5=_
  rw [e,Nat.sub_self,Nat.zero_mul,Nat.zero_add]
 ·exact ⟨rfl,rfl⟩
theorem IK {t:CD} (h:wkT t):gG t=false:=by
 cases t with
 | work=>rfl
 | walk b=>rfl
 | slots l t=>rfl
 | _=>exact h.elim
theorem IL {t:CD} (h:obT t):gG t=false:=by
 cases t with
 | work=>rfl
 | empty t=>rfl
 | _=>exact h.elim
theorem Ur (hl:q.rows.length=4) {k:Nat} (hk:k<4) (b:Int):(q.put (k:Int) b).qs=q.qs+1:=by
 have h0:=wo hl hk b 0;have h1:=wo hl hk b 1;have h2:=wo hl hk b 2;have h3:=wo hl hk b 3
 unfold Qu.qs
 rw [h0,h1,h2,h3]
 rcases (by omega:k=0∨k=1∨k=2∨k=3) with rfl|rfl|rfl|rfl<;>simp<;>omega
theorem Sl (hl:q.rows.length=4) {k:Nat} (hk:k<4) {a:Int} {r:List Int} (hr:q.rw k=a::r):(q.take (k:Int)).qs+1=q.qs:=by
 have h0:=take_at hl hk 0;have h1:=take_at hl hk 1;have h2:=take_at hl hk 2;have h3:=take_at hl hk 3
 unfold Qu.qs
 rw [h0,h1,h2,h3]
 rcases (by omega:k=0∨k=1∨k=2∨k=3) with rfl|rfl|rfl|rfl<;>rw [hr]<;>simp<;>omega
theorem mul_pred {a b c:Nat} (h:b<a):(a - b)*c=(a - (b+1))*c+c:=by
 obtain ⟨d,rfl⟩:∃ d,a=b+1+d:=⟨a - (b+1),by omega⟩
 rw [show b+1+d - b=d+1 by omega,show b+1+d - (b+1)=d by omega,Nat.add_mul,Nat.one_mul]
theorem yH (k:CPk p hf) (hR:∀ i,(p.regs i).length≤R) (h:MInv p x) (h':MInv p y) (hm:y.muts=x.muts) (hn:∀ m t,x.coll.next ≠ .wait m t):∀ i m,x.muts[i]?=some m→bZ y.s i m≤bZ x.s i m+(8*R+5):=fun i m hi=>by
 have g:=h.bV i m hi
 have hnil:=g.idle (h.nobody hn (h.lF hi))
 have h1:=FU k h' (by rw [hm];exact hi) hnil
 have h2:=hR i
 rw [g.regs] at h1
 have:3*m.buf.length≤bZ x.s i m:=by unfold bZ;omega
 omega
end
section
variable {p:CP} {x y:WS} {s s':Sh} {m m':MS} {i l l' ph ph' hf R mu bl ce κ:Nat} {H:HS} {dead:List Nat} {q:Qu}
theorem F8 {l:List Nat} (h:l.getLast?=none):l=[]:=by
 rcases List.eq_nil_or_concat l with e|⟨l',b,e⟩
 ·exact e
 ·rw [e] at h;simp at h
theorem Oc (h:MInv p x) (hn:∀ m t,x.coll.next ≠ .wait m t):x.muts.any (fun m=>prM m.next)=false:=by
 rw [Bool.eq_false_iff]
 intro hh
 rw [List.any_eq_true] at hh
 obtain ⟨m,hm,hp⟩:=hh
 obtain ⟨i,hi⟩:=List.mem_iff_getElem?.1 hm
 have g:=h.bV i m hi
 rw [g.idle (h.nobody hn (h.lF hi))] at hp
 cases hp
theorem Qo (k:CPk p hf) (hR:∀ i,(p.regs i).length≤R) (h:MInv p x) (hw:p.wkS x.coll.next) (d:CD) (hd:x.coll.next=d) (hx:∀ m t,d = .wait m t→x.s.B.pend (m:Int)=false):p.phi hf R (stepW x d)+1≤p.phi hf R x:=by
 have hmu:=h.mu8
 have hk2:=h.k2
 have shp:=h.shp
 have fld:=h.fld
 rw [hd] at shp fld
 obtain ⟨f,hH⟩:=h.heap
 have hco:x.s.H.co=f:=by rw [hH]
 have hfp:∀ a,x.s.H.aT a=p.H.aT a:=fun a=>by rw [hH];rfl
 have hsl:∀ b,x.s.H.slots b=p.H.slots b:=fun b=>by rw [hH];rfl
 have Us:=h.cce
 have hcbl:=h.cbl
 have Ws:=h.cmu
 cases d with
 | wait mm t =>
   obtain ⟨hm,ht⟩:=shp
   have hp0:=hx mm t rfl
   have qL:=sJ h.bd hm
   have hbt:gG t=false:=by rcases ht with ⟨_,e⟩|⟨_,e⟩|⟨_,e⟩|⟨_,e⟩<;>rw [e]<;>rfl
   unfold stepW
   simp only [aj]
   rw [qL,hp0,if_neg (by decide)]
   split
   ·refine eU hd (fun hb=>by cases hb) ?_
    show p.mu - (mm+1)+p.rk hf R t+1≤p.mu - mm+p.rk hf R t
    omega
   ·refine eU hd (fun hb=>by rw [hbt] at hb;cases hb) ?_
    show p.rk hf R t+1≤p.mu - mm+p.rk hf R t
    omega
 | arm =>
   have hph:x.coll.phase=1:=shp
   have hnw:∀ m t,x.coll.next ≠ .wait m t:=by rw [hd];intro m u e;cases e
   have h':=(qg k h hw .arm hd (fun e=>by cases e)).1
   have hT:=yH k hR h h' rfl hnw
   refine wR (k:=2) (t := .scan) (c:=x.coll) hT rfl ⟨rfl,rfl⟩ ?_
   rw [hd]
   have e2:dB x=x.coll.fresh:=by unfold dB;rw [hph];simp
   have e3:(x.coll.fresh||(2:Nat)==4)=x.coll.fresh:=by simp
   rw [e2,e3]
   have ha:p.ak R=p.mu*(8*R+5)+p.mu:=by unfold CP.ak;rw [show 8*R+6=(8*R+5)+1 by omega,Nat.mul_add,Nat.mul_one]
   show p.mu+(1+p.ak R+p.rT hf R)+_+_+1≤(2+p.ak R+p.ak R+p.rT hf R)+_
   omega
 | scan =>
   have hph:x.coll.phase=2:=shp
   have hnw:∀ m t,x.coll.next ≠ .wait m t:=by rw [hd];intro m u e;cases e
   have h':=(qg k h hw .scan hd (fun e=>by cases e)).1
   have hT:=yH k hR h h' rfl hnw
   refine wR (k:=3) (t := .trace) (c:=x.coll) hT rfl ⟨rfl,rfl⟩ ?_
   rw [hd]
   have e2:dB x=x.coll.fresh:=by unfold dB;rw [hph];simp
   have e3:(x.coll.fresh||(3:Nat)==4)=x.coll.fresh:=by simp
   rw [e2,e3]
   have ha:p.ak R=p.mu*(8*R+5)+p.mu:=by unfold CP.ak;rw [show 8*R+6=(8*R+5)+1 by omega,Nat.mul_add,Nat.mul_one]
   show p.mu+p.rT hf R+_+_+1≤(1+p.ak R+p.rT hf R)+_
   omega
 | drain =>
   have hph:x.coll.phase=4:=shp
   have hnw:∀ m t,x.coll.next ≠ .wait m t:=by rw [hd];intro m u e;cases e
   have h':=(qg k h hw .drain hd (fun e=>by cases e)).1
   have hT:=yH k hR h h' rfl hnw
   refine wR (k:=5) (t := .work) (c:={ x.coll with fresh:=false,drains:=x.coll.drains+1 }) hT rfl ⟨rfl,rfl⟩ ?_
   rw [hd]
   have e2:dB x=true:=by unfold dB;rw [hph];simp
   have e3:(false||(5:Nat)==4)=false:=by decide
   rw [e2,if_pos rfl]
   show p.mu+p.rW hf R+_+(if (false||(5:Nat)==4)=true then p.dr R else 0)+1≤(1+p.rM hf R)+p.dr R
   rw [e3,if_neg (by decide)]
   have ha:p.ak R=p.mu*(8*R+5)+p.mu:=by unfold CP.ak;rw [show 8*R+6=(8*R+5)+1 by omega,Nat.mul_add,Nat.mul_one]
   unfold CP.rW CP.dr
   omega
 | trace =>
   obtain ⟨g1,g2⟩:=F6 (p:=p) (hf:=hf) (R:=R) (c:={ x.coll with phase:=4 }) Us (Nat.zero_le _)
   refine lJ (x:=x) (H:=x.s.H) (Q:=x.s.Q) (fl:=x.s.flag) (c:={ x.coll with phase:=4,next:=CS.dF { x.coll with phase:=4 } 0 }) ?_
   have e1:exB x=false:=by unfold exB;rw [hd];rfl
   have e2:(if (x.s.flag||x.coll.over||x.muts.any (fun m=>prM m.next))=true then p.wk hf R else 0)=(if pwB x=true then p.wk hf R else 0):=rfl
   have e3:(if (x.coll.fresh||(4:Nat)==4)=true then p.dr R else 0)≤p.dr R:=by split<;>omega
   have e4:(if (gG (CS.dF { x.coll with phase:=4 } 0) && !x.coll.stk.isEmpty)=true then p.mu+1 else 0)=0:=by rw [g2];rfl
   rw [hd]
   have key:p.rk hf R (CS.dF { x.coll with phase:=4 } 0)+33*x.coll.stk.length+(if (gG (CS.dF { x.coll with phase:=4 } 0) && !x.coll.stk.isEmpty)=true then p.mu+1 else 0)+p.U x.s.H.co*p.big hf R+(if (x.s.flag||x.coll.over||x.muts.any (fun m=>prM m.next))=true then p.wk hf R else 0)+(if (x.coll.fresh||(4:Nat)==4)=true then p.dr R else 0)+x.s.Q.qs*(hf+3)+1 ≤
    p.rT hf R+33*x.coll.stk.length+(if exB x=true then p.mu+1 else 0)+p.U x.s.H.co*p.big hf R+(if pwB x=true then p.wk hf R else 0)+(if dB x=true then p.dr R else 0)+x.s.Q.qs*(hf+3):=by
    rw [e2,e4,g1]
    unfold CP.rT
    omega
   exact key
 | cell ii =>
   obtain ⟨hph,hi⟩:=shp
   obtain ⟨g1,g2⟩:=F6 (p:=p) (hf:=hf) (R:=R) (c:=x.coll) Us (i:=ii+1) (by omega)
   have g3:=yG (p:=p) (hf:=hf) (R:=R) (v:=x.s.H.cellP (ii:Int)) (t:=x.coll.dF (ii+1))
   refine eU (d':=bG (x.s.H.cellP (ii:Int)) (x.coll.dF (ii+1))) hd (fun hb=>by rw [uH,g2] at hb;cases hb) ?_
   show _≤2*(p.ce - ii)+p.rW hf R
   omega
 | look v t =>
   obtain ⟨hmk,hlk,hc,hb⟩:=shp
   have gU:=h.col
   unfold stepW
   simp only [aj]
   by_cases hp:x.s.H.dw v x.coll.color=true
   ·rw [if_pos hp]
    have hp2:HS.dw { p.H with co:=f } v p.κ=true:=by rw [← hH,← gU];exact hp
    have hU:=CP.Iy k hk2 hp2
    have hU2:p.U (x.s.H.aY v x.coll.color).co+1=p.U x.s.H.co:=by
     rw [gU,hco,← hU,hH]
    have hB:(p.U (x.s.H.aY v x.coll.color).co+1)*p.big hf R=p.U x.s.H.co*p.big hf R:=by rw [hU2]
    rw [Nat.add_mul,Nat.one_mul] at hB
    have hpush:∃ (st:List Nat) (ov:Bool),({ x.coll with fresh:=true }:CS).push v={ x.coll with fresh:=true,stk:=st,over:=ov }∧st.length≤x.coll.stk.length+1:=by
     unfold CS.push
     simp only
     split
     ·exact ⟨x.coll.stk,true,rfl,Nat.le_succ _⟩
     ·exact ⟨x.coll.stk++[v],x.coll.over,rfl,by simp⟩
    obtain ⟨st,ov,hpe,s1⟩:=hpush
    rw [hpe]
    refine lJ (x:=x) (H:=x.s.H.aY v x.coll.color) (Q:=x.s.Q) (fl:=x.s.flag) (c:={ x.coll with fresh:=true,stk:=st,over:=ov,next:=t }) ?_
    rw [hd]
    have e1:(if (gG t && !st.isEmpty)=true then p.mu+1 else 0)≤p.mu+1:=by split<;>omega
    have e2:(if (x.s.flag||ov||x.muts.any (fun m=>prM m.next))=true then p.wk hf R else 0)≤p.wk hf R:=by split<;>omega
    have e3:(if (true||x.coll.phase==4)=true then p.dr R else 0)≤p.dr R:=by split<;>omega
    have key:p.rk hf R t+33*st.length+(if (gG t && !st.isEmpty)=true then p.mu+1 else 0)+p.U (x.s.H.aY v x.coll.color).co*p.big hf R+(if (x.s.flag||ov||x.muts.any (fun m=>prM m.next))=true then p.wk hf R else 0)+(if (true||x.coll.phase==4)=true then p.dr R else 0)+x.s.Q.qs*(hf+3)+1 ≤
     1+p.rk hf R t+33*x.coll.stk.length+(if exB x=true then p.mu+1 else 0)+p.U x.s.H.co*p.big hf R+(if pwB x=true then p.wk hf R else 0)+(if dB x=true then p.dr R else 0)+x.s.Q.qs*(hf+3):=by
     have hbig:p.big hf R=34+p.wk hf R+p.dr R+p.mu+2:=rfl
     omega
    exact key
   ·rw [if_neg hp]
    refine eU hd (fun hb=>hb) ?_
    show p.rk hf R t+1≤1+p.rk hf R t
    omega
 | work =>
   unfold stepW
   simp only [aj]
   cases hs:x.coll.stk.getLast? with
   | some a =>
     have hsp:=pY hs
     have hlen:x.coll.stk.length=x.coll.stk.dropLast.length+1:=by
      have:=congrArg List.length hsp
      rw [List.length_append] at this
      exact this
     refine oJ (x:=x) (Q:=x.s.Q) (st:=x.coll.stk.dropLast) (d' := .object a .work) hd ?_
     show 32+p.rW hf R+33*_+0+_+1≤p.rW hf R+33*_+0+_
     omega
   | none =>
     have he:=F8 hs
     refine oJ (x:=x) (Q:=x.s.Q) (st:=x.coll.stk) (d' := .box 0) hd ?_
     rw [he]
     show p.mu - 0+2+p.rM hf R+33*0+0+_+1≤p.mu+3+p.rM hf R+33*0+0+_
     omega
 | empty t =>
   obtain ⟨hmk,htw⟩:=shp
   have hbt:=IK htw
   unfold stepW
   simp only [aj]
   cases hs:x.coll.stk.getLast? with
   | some a =>
     have hsp:=pY hs
     have hlen:x.coll.stk.length=x.coll.stk.dropLast.length+1:=by
      have:=congrArg List.length hsp
      rw [List.length_append] at this
      exact this
     refine oJ (x:=x) (Q:=x.s.Q) (st:=x.coll.stk.dropLast) (d' := .object a (.empty t)) hd ?_
     show 32+(1+p.rk hf R t)+33*_+0+_+1≤1+p.rk hf R t+33*_+0+_
     omega
   | none =>
     refine eU hd (fun hb=>by rw [hbt] at hb;cases hb) ?_
     show p.rk hf R t+1≤1+p.rk hf R t
     omega
 | object a t =>
   obtain ⟨hmk,hto⟩:=shp
   have hbt:=IL hto
   have hn:=k.nf a
   obtain ⟨g1,g2,g3⟩:=CB (p:=p) (hf:=hf) (R:=R) (a:=a) (i:=0) (n:=(x.s.H.aT a).1) (Nat.zero_le _) hbt
   refine eU (d':=bD a 0 (x.s.H.aT a).1 t) hd (fun hb=>by rw [g3] at hb;cases hb) ?_
   rw [hfp] at g1 ⊢
   show _≤32+p.rk hf R t
   omega
 | field a ii n t =>
   obtain ⟨hmk,hto⟩:=shp
   obtain ⟨⟨hn1,hn2,hn3⟩,hft⟩:=fld
   have hbt:=IL hto
   obtain ⟨g1,g2,g3⟩:=CB (p:=p) (hf:=hf) (R:=R) (a:=a) (i:=ii+1) (n:=n) (by omega) hbt
   have g4:=yG (p:=p) (hf:=hf) (R:=R) (v:=x.s.H.bQ a (ii:Int)) (t:=bD a (ii+1) n t)
   refine eU (d':=bG (x.s.H.bQ a (ii:Int)) (bD a (ii+1) n t)) hd (fun hb=>by rw [uH,g3] at hb;cases hb) ?_
   show _≤2*(n - ii)+1+p.rk hf R t
   by_cases e:ii+1=n
   ·have:=g2 e;omega
   ·omega
 | walk b =>
   obtain ⟨hmk,hb⟩:=shp
   obtain ⟨g1,g2⟩:=F7 (p:=p) (hf:=hf) (R:=R) (c:=x.coll) hcbl (b:=b+1) (by omega)
   obtain ⟨g3,g4⟩:=CJ (p:=p) (hf:=hf) (R:=R) (l:=x.s.H.slots b) g2
   refine eU (d':=bU (x.s.H.slots b) (x.coll.dH (b+1))) hd (fun hb=>by rw [g4] at hb;cases hb) ?_
   rw [g3,g1]
   have hl:=k.slen b
   rw [← hsl] at hl
   have:=mul_pred (c:=34*hf+1) hb
   show _≤(p.bl - b)*(34*hf+1)+p.rW hf R
   omega
 | slots ll t =>
   obtain ⟨hmk,hle,htw⟩:=shp
   have hbt:=IK htw
   have hlen:ll.length=ll.tail.length+1:=by
    cases ll with
    | nil=>exact absurd rfl hle
    | cons a r=>rfl
   obtain ⟨g3,g4⟩:=CJ (p:=p) (hf:=hf) (R:=R) (l:=ll.tail) hbt
   unfold stepW
   simp only [aj]
   by_cases hc:(!x.s.H.bn (aJ ll)||x.s.H.dA (aJ ll) != x.coll.color)=true
   ·rw [if_pos hc]
    refine eU (d':=bU ll.tail t) hd (fun hb=>by rw [g4] at hb;cases hb) ?_
    rw [g3]
    show _≤34*ll.length+p.rk hf R t
    omega
   ·rw [if_neg hc]
    refine eU (d' := .object (aJ ll) (.empty (bU ll.tail t))) hd (fun hb=>by cases hb) ?_
    show 32+(1+p.rk hf R (bU ll.tail t))+1≤34*ll.length+p.rk hf R t
    rw [g3];omega
 | box mm =>
   obtain ⟨hmk,hm⟩:=shp
   unfold stepW
   simp only [aj]
   cases hbx:x.s.box mm with
   | cons a r =>
     have hib:mm<x.s.boxes.length:=by rw [h.box];exact hm
     have hmm:mm<x.muts.length:=by rw [h.muts];exact hm
     have hbi:∀ j,({ x.s with boxes:=x.s.boxes.set mm r }:Sh).box j=if j=mm then r else x.s.box j:=fun j=>by
      show (x.s.boxes.set mm r).getD j []=_
      rw [List.getD_eq_getElem?_getD]
      by_cases e:j=mm
      ·subst e
       rw [List.getElem?_set_self hib,if_pos rfl];rfl
      ·rw [List.getElem?_set_ne (fun e'=>e e'.symm),← List.getD_eq_getElem?_getD,if_neg e];rfl
     have hT:p.T { x with s:={ x.s with boxes:=x.s.boxes.set mm r },coll:={ x.coll with next:=bG a (.box mm) } }+2=p.T x:=by
      have hup:=yF (f:=kZ x) (g:=kZ { x with s:={ x.s with boxes:=x.s.boxes.set mm r },coll:={ x.coll with next:=bG a (.box mm) } }) hm (fun j hj=>by
       unfold kZ
       show _=(match x.muts[j]? with|some m=>_|none=>0)
       cases hmj:x.muts[j]? with
       | none=>rfl
       | some mj =>
         show bZ x.s j mj+2*(x.s.box j).length=bZ x.s j mj+2*(({ x.s with boxes:=x.s.boxes.set mm r }:Sh).box j).length
         rw [hbi j,if_neg hj])
      have hmo:x.muts[mm]?=some (x.muts[mm]'hmm):=List.getElem?_eq_getElem hmm
      have g1:kZ x mm=bZ x.s mm (x.muts[mm]'hmm)+2*(r.length+1):=by
       unfold kZ
       rw [hmo,hbx];rfl
      have g2:kZ { x with s:={ x.s with boxes:=x.s.boxes.set mm r },coll:={ x.coll with next:=bG a (.box mm) } } mm=bZ x.s mm (x.muts[mm]'hmm)+2*r.length:=by
       unfold kZ
       show (match x.muts[mm]? with|some m=>_|none=>0)=_
       rw [hmo]
       show bZ x.s mm (x.muts[mm]'hmm)+2*(({ x.s with boxes:=x.s.boxes.set mm r }:Sh).box mm).length=_
       rw [hbi mm,if_pos rfl]
      rw [g1,g2] at hup
      unfold CP.T
      omega
     have g3:=yG (p:=p) (hf:=hf) (R:=R) (v:=a) (t := .box mm)
     unfold CP.phi
     have e1:exB { x with s:={ x.s with boxes:=x.s.boxes.set mm r },coll:={ x.coll with next:=bG a (.box mm) } }=exB x:=by
      unfold exB
      show (gG (bG a (.box mm))&&_)=_
      rw [uH,hd]
     have e2:pwB { x with s:={ x.s with boxes:=x.s.boxes.set mm r },coll:={ x.coll with next:=bG a (.box mm) } }=pwB x:=rfl
     have e3:dB { x with s:={ x.s with boxes:=x.s.boxes.set mm r },coll:={ x.coll with next:=bG a (.box mm) } }=dB x:=rfl
     show p.T { x with s:={ x.s with boxes:=x.s.boxes.set mm r },coll:={ x.coll with next:=bG a (.box mm) } }+p.rk hf R (bG a (.box mm))+33*x.coll.stk.length+(if exB { x with s:={ x.s with boxes:=x.s.boxes.set mm r },coll:={ x.coll with next:=bG a (.box mm) } }=true then p.mu+1 else 0)+p.U x.s.H.co*p.big hf R+(if pwB { x with s:={ x.s with boxes:=x.s.boxes.set mm r },coll:={ x.coll with next:=bG a (.box mm) } }=true then p.wk hf R else 0)+(if dB { x with s:={ x.s with boxes:=x.s.boxes.set mm r },coll:={ x.coll with next:=bG a (.box mm) } }=true then p.dr R else 0)+x.s.Q.qs*(hf+3)+1≤_
     rw [e1,e2,e3,hd]
     generalize p.T { x with s:={ x.s with boxes:=x.s.boxes.set mm r },coll:={ x.coll with next:=bG a (.box mm) } }=T' at *
     omega
   | nil =>
     show p.phi hf R { x with coll:={ x.coll with next:=if mm+1<x.coll.muts then .box (mm+1) else if x.coll.stk=[] then .over else .work } }+1≤_
     by_cases hl:mm+1<x.coll.muts
     ·rw [if_pos hl]
      refine eU hd (fun _=>rfl) ?_
      show p.mu - (mm+1)+2+p.rM hf R+1≤p.mu - mm+2+p.rM hf R
      omega
     ·rw [if_neg hl]
      by_cases hs:x.coll.stk=[]
      ·rw [if_pos hs]
       refine eU hd (fun hb=>by cases hb) ?_
       show 2+p.rM hf R+1≤p.mu - mm+2+p.rM hf R
       omega
      ·rw [if_neg hs]
       refine oJ (x:=x) (Q:=x.s.Q) (st:=x.coll.stk) (d' := .work) hd ?_
       have hne:(gG (.box mm) && !x.coll.stk.isEmpty)=true:=by
        show (true && !x.coll.stk.isEmpty)=true
        rw [Bool.true_and,Bool.not_eq_true',List.isEmpty_eq_false_iff]
        exact hs
       rw [hne,if_pos rfl]
       show p.mu+3+p.rM hf R+33*_+0+_+1≤p.mu - mm+2+p.rM hf R+33*_+(p.mu+1)+_
       omega
 | over =>
   have hmk:mkP x.coll.phase:=shp
   have hnw:∀ m u,x.coll.next ≠ .wait m u:=by rw [hd];intro m u e;cases e
   have hst:=h.stk0 (by rw [hd];rfl)
   unfold stepW
   simp only [aj]
   by_cases hfo:(!x.s.flag && !x.coll.over)=true
   ·rw [if_pos hfo]
    by_cases h4:x.coll.phase=4
    ·rw [if_pos h4]
     refine eU hd (fun hb=>by cases hb) ?_
     show 1+p.rM hf R+1≤2+p.rM hf R
     omega
    ·rw [if_neg h4]
     by_cases hfr:x.coll.fresh=true
     ·rw [if_pos hfr]
      refine lJ (x:=x) (H:=x.s.H) (Q:=x.s.Q) (fl:=x.s.flag) (c:={ x.coll with phase:=4,next := .drain }) ?_
      rw [hd]
      have e1:exB x=false:=by unfold exB;rw [hd];rfl
      have e2:dB x=true:=by unfold dB;rw [hfr];rfl
      have e3:(x.coll.fresh||(4:Nat)==4)=true:=by simp
      rw [e1,e2]
      have key:1+p.rM hf R+33*x.coll.stk.length+0+p.U x.s.H.co*p.big hf R+(if (x.s.flag||x.coll.over||x.muts.any (fun m=>prM m.next))=true then p.wk hf R else 0)+(if (x.coll.fresh||(4:Nat)==4)=true then p.dr R else 0)+x.s.Q.qs*(hf+3)+1 ≤
       2+p.rM hf R+33*x.coll.stk.length+0+p.U x.s.H.co*p.big hf R+(if (x.s.flag||x.coll.over||x.muts.any (fun m=>prM m.next))=true then p.wk hf R else 0)+p.dr R+x.s.Q.qs*(hf+3):=by
       rw [e3,if_pos rfl];omega
      exact key
     ·rw [if_neg hfr]
      refine eU hd (fun hb=>by cases hb) ?_
      show p.rM hf R+1≤2+p.rM hf R
      omega
   ·rw [if_neg hfo]
    obtain ⟨g1,g2⟩:=F7 (p:=p) (hf:=hf) (R:=R) (c:={ x.coll with over:=false,fresh:=true,walks:=x.coll.walks+1 }) hcbl (b:=0) (Nat.zero_le _)
    refine lJ (x:=x) (H:=x.s.H) (Q:=x.s.Q) (fl:=false) (c:={ x.coll with over:=false,fresh:=true,walks:=x.coll.walks+1,next:=CS.dH { x.coll with over:=false,fresh:=true,walks:=x.coll.walks+1 } 0 }) ?_
    rw [hd]
    have e1:exB x=false:=by unfold exB;rw [hd];rfl
    have e2:pwB x=true:=by
     unfold pwB
     have:x.s.flag=true∨x.coll.over=true:=by
      cases hf1:x.s.flag
      ·cases hf2:x.coll.over
       ·rw [hf1,hf2] at hfo;exact absurd rfl hfo
       ·exact .inr rfl
      ·exact .inl rfl
     rcases this with e|e<;>rw [e]<;>simp
    have hany:=Oc h hnw
    rw [e1,e2]
    generalize CS.dH { x.coll with over:=false,fresh:=true,walks:=x.coll.walks+1 } 0=d' at *
    have e3:(if (true||x.coll.phase==4)=true then p.dr R else 0)=p.dr R:=by simp
    have key:p.rk hf R d'+33*x.coll.stk.length+(if (gG d' && !x.coll.stk.isEmpty)=true then p.mu+1 else 0)+p.U x.s.H.co*p.big hf R+(if (false||false||x.muts.any (fun m=>prM m.next))=true then p.wk hf R else 0)+(if (true||x.coll.phase==4)=true then p.dr R else 0)+x.s.Q.qs*(hf+3)+1 ≤
     2+p.rM hf R+33*x.coll.stk.length+0+p.U x.s.H.co*p.big hf R+p.wk hf R+(if dB x=true then p.dr R else 0)+x.s.Q.qs*(hf+3):=by
     rw [hany,e3,g2,g1]
     have hwk:p.wk hf R=p.dr R+p.bl*(34*hf+1)+p.mu+4:=rfl
     have hrw:p.rW hf R=p.mu+3+p.rM hf R:=rfl
     simp only [Bool.or_self,Bool.false_and,Bool.false_eq_true,if_false,Nat.sub_zero]
     omega
    exact key
 | marked =>
   have hph:x.coll.phase=5:=shp
   obtain ⟨g1,g2⟩:=IJ (p:=p) (hf:=hf) (R:=R) (c:={ x.coll with phase:=6 }) hcbl (b:=0) (Nat.zero_le _)
   refine lJ (x:=x) (H:=x.s.H) (Q:=x.s.Q) (fl:=x.s.flag) (c:={ x.coll with phase:=6,next:=CS.gy { x.coll with phase:=6 } 0 }) ?_
   rw [hd]
   have e1:exB x=false:=by unfold exB;rw [hd];rfl
   have e2:dB x=x.coll.fresh:=by unfold dB;rw [hph];simp
   have e3:(x.coll.fresh||(6:Nat)==4)=x.coll.fresh:=by simp
   rw [e1,e2]
   generalize CS.gy { x.coll with phase:=6 } 0=d' at *
   have key:p.rk hf R d'+33*x.coll.stk.length+(if (gG d' && !x.coll.stk.isEmpty)=true then p.mu+1 else 0)+p.U x.s.H.co*p.big hf R+(if (x.s.flag||x.coll.over||x.muts.any (fun m=>prM m.next))=true then p.wk hf R else 0)+(if (x.coll.fresh||(6:Nat)==4)=true then p.dr R else 0)+x.s.Q.qs*(hf+3)+1 ≤
    p.rM hf R+33*x.coll.stk.length+0+p.U x.s.H.co*p.big hf R+(if (x.s.flag||x.coll.over||x.muts.any (fun m=>prM m.next))=true then p.wk hf R else 0)+(if x.coll.fresh=true then p.dr R else 0)+x.s.Q.qs*(hf+3):=by
    rw [e3,g2,g1]
    have hrM:p.rM hf R=1+p.bl*(hf+4)+(p.ak R+5):=rfl
    simp only [Bool.false_and,Bool.false_eq_true,if_false,Nat.sub_zero]
    omega
   exact key
 | _=>exact shp.elim
end
end
end Go.Proofs.YtanfphjoebobaaaGreatDoor
