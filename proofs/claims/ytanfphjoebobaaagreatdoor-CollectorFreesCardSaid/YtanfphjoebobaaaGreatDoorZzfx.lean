/- Parts of the iy. No conditions. -/
import Derived.Test.YtanfphjoebobaaaGreatDoorZzfw
namespace Go.Proofs.YtanfphjoebobaaaGreatDoor
open _root_.List renaming getD_eq_getElem?_getD->ajg,getElem?_eq_some_iff->ake,length_append->alm,length_cons->akn,mem_append->aln,mem_append_left->alp,mem_append_right->alq,mem_cons->ajN,mem_cons_of_mem->ajP,mem_cons_self->alr,mem_singleton->alo
open _root_.Nat renaming le_refl->aje,not_lt_zero->akU
section
def Eo (f:Nat->Bool) (n:Nat):Nat:=((List.range n).filter f).length
theorem PS (f:Nat->Bool) (n:Nat):Eo f (n+1)=Eo f n+(if f n then 1 else 0):=by
 unfold Eo
 rw [List.range_succ,List.filter_append,alm,List.filter_cons]
 split<;>simp
theorem YC {f g:Nat->Bool} {n:Nat} (h:∀ k,k<n->f k=g k):Eo f n=Eo g n:=by
 unfold Eo
 rw [List.filter_congr (fun x hx=>h x (List.mem_range.1 hx))]
theorem TY {f g:Nat->Bool} {v:Nat} (hf:f v=true) (hg:g v=false) (h:∀ k,k≠v->f k=g k):∀ n,v<n->Eo g n+1=Eo f n
 | 0,hv=>absurd hv (akU _)
 | n+1,hv=>by
   rw [PS,PS]
   by_cases e:v=n
   ·subst e
    rw [hf,hg,YC (f:=f) (g:=g) (fun k hk=>h k (by omega))]
    simp
   ·have:=TY hf hg h n (by omega)
    rw [h n (fun e'=>e e'.symm)]
    omega
structure zB (p:CP) (hf:Nat):Prop where
 bn:∀ a,p.H.bn a=true->1<=a/\a<p.H.sz
 nf:∀ a,(p.H.dh a).1<=15
 kL:∀ a,p.H.bn a=true->∃ B,B<p.bl/\a∈p.H.bH B
 agl:∀ B,(p.H.bH B).length<=hf
theorem zB.bn0 {p:CP} {hf:Nat} (k:zB p hf):p.H.bn 0=false:=by
 rw [Bool.eq_false_iff]
 intro h
 have:=(k.bn 0 h).1
 omega
def CP.U (p:CP) (co:Nat->Bool):Nat:=Eo (fun a=>p.H.bn a&&(co a != p.kb)) p.H.sz
def left:MD->Nat
 | .once _=>1
 | .lH _ _ t=>8+left t
 | .add _ t=>4+left t
 | .nT _ t=>3+left t
 | .iK _ _ t=>2+left t
 | .kX t=>1+left t
 | _=>0
def iq (s:Sh) (i:Nat) (m:MS):Nat:=3*m.aY.length+if s.B.bF (i:Int) then (if jD m.next then 1+left (fG s m) else left m.next) else 0
section
variable {p:CP} {x y:WS} {s s':Sh} {m m':MS} {i l l' ph hf:Nat}
theorem CP.WG (k:zB p hf) (hk:p.κ<2) {f:Nat->Bool} {v:Nat} (hp:HS.iG { p.H with co:=f } v p.κ=true):p.U (HS.eF { p.H with co:=f } v p.κ).co+1=p.U f:=by
 obtain ⟨h1,h2⟩:=(BD hk v).1 hp
 refine TY (v:=v) ?_ ?_ (fun a ha=>?_) _ (k.bn v h1).2
 ·rw [h1];simpa [bne] using h2
 ·rw [FY hk,aZ ⟨rfl,h1⟩,h1];simp
 ·rw [FY hk,aT (fun h=>ha h.1)]
structure MC (p:CP) (s:Sh) (m:MS) (i:Nat) (s':Sh) (m':MS):Prop where
 J9:iq s' i m'+2*(s'.box i).length+1<=iq s i m+2*(s.box i).length
 wo:p.U s'.H.co+1<=p.U s.H.co\/(p.U s'.H.co=p.U s.H.co/\(lM m'.next=true\/s'.dw=true->lM m.next=true\/s.dw=true))
theorem MI.of {m1 m2:MS} (h:MI p s l ph i m1) (e:m2.id=m1.id/\m2.prog=m1.prog/\m2.dG=m1.dG/\m2.aW=m1.aW/\m2.c=m1.c/\m2.dQ=m1.dQ/\m2.aP=m1.aP/\m2.aY=m1.aY/\m2.next=m1.next):MI p s l ph i m2:=by
 obtain ⟨e1,e2,e3,e4,e5,e6,e7,e8,e9⟩:=e
 exact ⟨by rw [e1];exact h.id,by rw [e2,e3];exact h.prog,by rw [e4];exact h.aW,by rw [e5];exact h.lg,by rw [e6];exact h.dQ,by rw [e7];exact h.aP,by rw [e9];exact h.jE,h.kind,by rw [e9];exact h.TV,by rw [e8,e9];exact h.fQ,by rw [e9];exact h.gd,by rw [e8];exact h.aY,by rw [e4,e8,e9];exact h.yg,by rw [e8];exact h.buf5⟩
theorem MI.step (h:MI p s l ph i m) (hp:s.B.bF (i:Int)=true) {b:List Nat} {t:MD} (hh:s'.H.co=s.H.co\/∀ a,p.H.bn a=true->s.H.co a=p.kb->s'.H.co a=p.kb) (hB:s'.B=s.B) (hn:t ≠ .nil) (he:zJ t=zJ m.next) (hm:m.next ≠ .nil) (hs:Ob b t) (hg:p.yU t) (hb:∀ v∈b,p.Aw v)
 (hr:∀ v,p.kE s.H.co l v\/v∈m.aY\/v∈s.box i\/v∈uF m.next->p.kE s'.H.co l v\/v∈b\/v∈s'.box i\/v∈uF t):MI p s' l ph i { m with aY:=b,next:=t }:=by
 refine ⟨h.id,h.prog,h.aW,h.lg,by rw [hB];exact h.dQ,by rw [hB];exact h.aP,fun hf=>?_,by rw [hB];exact h.kind,fun _=>he.trans (h.TV hm),hs,hg,hb,fun h3 hx v hv=>?_,fun _ hf=>?_⟩
 ·rw [hB,hp] at hf;cases hf
 ·exact hr v (h.yg h3 (fun hh=>hm hh.2.2) v hv)
 ·rw [hB,hp] at hf;cases hf
theorem jO.WH (h:jO p x) {i:Nat} (hi:i<p.mu) (hp:x.s.B.bF (i:Int)=true):x.aC.phase=1\/x.aC.phase=2\/x.aC.phase=3\/x.aC.phase=5:=by
 obtain ⟨k,t,ht,_⟩:=h.wt i hi hp
 have hs:=h.fQ
 rw [ht] at hs
 obtain ⟨_,hs⟩:=hs
 omega
theorem MU.same (h:jO p x) (hm:x.aG[i]?=some m) (Jw:MI p x.s (dO x.aC.next) x.aC.phase i m') (hpr:lM m.next=true->lM m'.next=true):MU p x.s m (dO x.aC.next) x.aC.phase i x.s m' :=
 ⟨h.heap,fun _ _ h=>h,h.wo,rfl,fun _ _=>rfl,h.tZ i,.inl rfl,h.bd,rfl,fun _ _=>rfl,fun h=>h,rfl,Jw,fun h=>h,.inl,fun hp => .inl (hpr hp),fun _ _ h => .inl h⟩
theorem F5 {t:MD} (h:zV t):t ≠ .nil:=by
 intro e;rw [e] at h;exact h
theorem Ko {t:MD} (h:DU t):t ≠ .nil:=by
 intro e;rw [e] at h;exact h
theorem DV {t:MD} {b:List Nat} (h:zV t):Ob b t:=by
 cases t with
 | once k =>
   have h3:k=3:=h
   intro h5
   rw [h3] at h5;cases h5
 | lH _ _ _=>exact h
 | _=>exact h.elim
theorem Ig {t:MD} (h:DU t):Ob [] t:=by
 cases t with
 | once k=>exact fun _=>rfl
 | add _ _=>exact ⟨rfl,h⟩
 | _=>exact h.elim
theorem F6 {t:MD} (h:zV t):lM t=false:=by
 cases t with
 | once k=>rfl
 | lH _ _ _=>rfl
 | _=>exact h.elim
theorem Ua {t:MD} (h:DU t):lM t=false:=by
 cases t with
 | once k=>rfl
 | add _ _=>rfl
 | _=>exact h.elim
theorem Ub {d:MD} (h:jD d=false):d ≠ .nil:=by intro e;rw [e] at h;cases h
theorem xW {d:MD} (h:d ≠ .nil):jD d=false:=by cases d<;>first|rfl|exact absurd rfl h
theorem acU (k:zB p hf) (h:jO p x) (hm:x.aG[i]?=some m) (hn:jD m.next=false) (d:MD) (hd:m.next=d) :
 MU p x.s m (dO x.aC.next) x.aC.phase i (stepM x.s { m with aU:=m.aU+1 } d).s { (stepM x.s { m with aU:=m.aU+1 } d).m with next:=(stepM x.s { m with aU:=m.aU+1 } d).next } /\
 MC p x.s m i (stepM x.s { m with aU:=m.aU+1 } d).s { (stepM x.s { m with aU:=m.aU+1 } d).m with next:=(stepM x.s { m with aU:=m.aU+1 } d).next } /\
 (stepM x.s { m with aU:=m.aU+1 } d).ev=none:=by
 have mi:=h.gW i m hm
 have hlt:=(ake.1 hm).1
 have Az:i<p.mu:=by rw [<- h.aG];exact hlt
 have hne:=Ub hn
 have hp:x.s.B.bF (i:Int)=true:=by
  cases hb:x.s.B.bF (i:Int)
  ·exact absurd (mi.jE hb) hne
  ·rfl
 have rC:=h.WH Az hp
 have hk2:=h.k2
 obtain ⟨f,hH⟩:=h.heap
 have hco:x.s.H.co=f:=by rw [hH]
 have hbn:x.s.H.bn=p.H.bn:=by rw [hH]
 have htd:iq x.s i m=3*m.aY.length+left m.next:=by
  unfold iq
  rw [hp,aZ rfl,hn];rfl
 have td2:∀ (s':Sh) (m':MS),s'.B=x.s.B->jD m'.next=false->iq s' i m'=3*m'.aY.length+left m'.next:=fun s' m' e1 e2=>by
  unfold iq
  rw [e1,hp,aZ rfl,e2];rfl
 have yV:=mi.fQ
 have hgd:=mi.gd
 have hend:=mi.TV hne
 cases d with
 | once kk =>
   rw [hd] at hend yV htd
   have hkk:kk=(x.aC.phase:Int):=hend
   obtain ⟨b1,b2,b3⟩:=h.bd.mg i
   have MV:m.id=i:=mi.id
   have hp':(x.s.B.lV (m.id:Int)).bF (i:Int)=false:=by rw [MV,b2 i,aZ rfl]
   have hst:(stepM x.s { m with aU:=m.aU+1 } (.once kk)).s={ x.s with B:=x.s.B.lV (m.id:Int) }:=rfl
   have hmm:(stepM x.s { m with aU:=m.aU+1 } (.once kk)).m=jP { m with aU:=m.aU+1 } kk:=rfl
   have hnx:(stepM x.s { m with aU:=m.aU+1 } (.once kk)).next = .nil:=rfl
   rw [hst,hmm,hnx]
   have Oc:=mi.yg
   rw [hd] at Oc
   have hO:(jP { m with aU:=m.aU+1 } kk).id=m.id/\(jP { m with aU:=m.aU+1 } kk).prog=m.prog/\(jP { m with aU:=m.aU+1 } kk).dG=m.dG/\(jP { m with aU:=m.aU+1 } kk).aW=m.aW/\(jP { m with aU:=m.aU+1 } kk).c=m.c /\
    (jP { m with aU:=m.aU+1 } kk).dQ=p.κ/\(jP { m with aU:=m.aU+1 } kk).aP=(if x.aC.phase<3 then 1 - p.κ else p.κ)/\((jP { m with aU:=m.aU+1 } kk).aY=m.aY\/(x.aC.phase=1/\(jP { m with aU:=m.aU+1 } kk).aY=[])):=by
    have hw:=mi.dQ
    have hc:=mi.aP
    rcases rC with e|e|e|e<;>rw [e] at hkk hw hc ⊢ <;> subst hkk
    ·rw [aZ (by omega)] at hc
     exact ⟨rfl,rfl,rfl,rfl,rfl,by show 1 - m.aP=_;rw [hc];omega,hc,.inr ⟨rfl,rfl⟩⟩
    ·rw [aZ (by omega)] at hc
     exact ⟨rfl,rfl,rfl,rfl,rfl,hw.resolve_left (fun h=>by omega),hc,.inl rfl⟩
    ·exact ⟨rfl,rfl,rfl,rfl,rfl,hw.resolve_left (fun h=>by omega),hw.resolve_left (fun h=>by omega),.inl rfl⟩
    ·rw [aT (by omega)] at hc
     exact ⟨rfl,rfl,rfl,rfl,rfl,hw.resolve_left (fun h=>by omega),hc,.inl rfl⟩
   generalize jP { m with aU:=m.aU+1 } kk=M at *
   obtain ⟨e1,e2,e3,e4,e5,e6,e7,e8⟩:=hO
   have uz:M.aY.length<=m.aY.length:=by
    rcases e8 with e|⟨_,e⟩<;>rw [e]
    ·exact aje _
    ·exact Nat.zero_le _
   refine ⟨⟨h.heap,fun _ _ h=>h,h.wo,rfl,fun _ _=>rfl,h.tZ i,.inl rfl,by rw [MV];exact b1,by rw [MV];exact b3,fun j hj=>by show (x.s.B.lV (m.id:Int)).bF _=_;rw [MV,b2 j,aT hj],fun _=>hp,rfl,?_,fun h=>h,.inl,fun hq=>?_,fun _ _ h => .inl h⟩,⟨?_,.inr ⟨rfl,fun hq=>?_⟩⟩,rfl⟩
   ·refine ⟨e1.trans MV,by show M.prog.length<=M.dG.length;rw [e2,e3];exact mi.prog,e4.trans mi.aW,by show 1<=M.c.l.toNat;rw [e5];exact mi.lg,.inr e6,?_,fun _=>rfl,fun hf=>?_,fun hf=>absurd rfl hf,trivial,trivial,fun v hv=>?_,fun h3 _ v hv=>?_,fun h5 _=>?_⟩
    ·show M.aP=_
     rw [e7]
     have hp2:({ x.s with B:=x.s.B.lV (m.id:Int) }:Sh).B.bF (i:Int)=false:=hp'
     rw [hp2]
     by_cases h3:x.aC.phase<3
     ·rw [aZ h3,aZ (.inl h3)]
     ·rw [aT h3,aT (by simp;omega)]
    ·have hp2:({ x.s with B:=x.s.B.lV (m.id:Int) }:Sh).B.bF (i:Int)=false:=hp'
     rw [hp2] at hf;cases hf
    ·rcases e8 with e|⟨_,e⟩
     ·exact mi.aY v (by have hv':v∈M.aY:=hv;rwa [e] at hv')
     ·have hv':v∈M.aY:=hv
      rw [e] at hv';cases hv'
    ·have hv':v∈m.aW:=by have hv':v∈M.aW:=hv;rwa [e4] at hv'
     have:=Oc h3 (fun hh=>by cases hh.2.2) v hv'
     rcases e8 with e|⟨e9,_⟩
     ·rcases this with g|g|g|g
      ·exact .inl g
      ·exact .inr (.inl (by show v∈M.aY;rw [e];exact g))
      ·exact .inr (.inr (.inl g))
      ·cases g
     ·omega
    ·show M.aY=[]
     have hb0:m.aY=[]:=yV (by rw [hkk,h5];rfl)
     rcases e8 with e|⟨_,e⟩
     ·rw [e,hb0]
     ·exact e
   ·rw [hd] at hq;cases hq
   ·show iq _ i _+2*(x.s.box i).length+1<=_
    rw [htd]
    unfold iq
    have hp2:({ x.s with B:=x.s.B.lV (m.id:Int) }:Sh).B.bF (i:Int)=false:=hp'
    rw [hp2]
    show 3*M.aY.length+0+2*(x.s.box i).length+1<=3*m.aY.length+1+2*(x.s.box i).length
    omega
   ·rcases hq with hq|hq
    ·cases hq
    ·exact .inr hq
 | lH v c t =>
   rw [hd] at hend yV hgd htd
   obtain ⟨g1,rfl,g3⟩:=hgd
   have hst:zV t:=yV
   have Oc:=mi.step (s':=x.s) hp (t:=t) (b:=m.aY) (.inl rfl) rfl (F5 hst) (by rw [hd];rfl) hne (DV hst) g3 mi.aY
   have hnt:=F5 hst
   simp only [stepM]
   by_cases h1:(!x.s.H.bn v||x.s.H.iU v==p.κ)=true
   ·rw [aZ h1]
    have hok:p.kE x.s.H.co (dO x.aC.next) v:=fun hb=>by
     rw [hbn,hb,Bool.not_true,Bool.false_or,hH] at h1
     rw [hco]
     exact .inl ((FZ hk2 v).1 h1)
    refine ⟨MU.same h hm ((Oc fun u hu=>?_).of ⟨rfl,rfl,rfl,rfl,rfl,rfl,rfl,rfl,rfl⟩) (fun hq=>by rw [hd] at hq;cases hq),⟨?_,.inr ⟨rfl,fun hq=>?_⟩⟩,rfl⟩
    ·rw [hd] at hu
     rcases hu with g|g|g|g
     ·exact .inl g
     ·exact .inr (.inl g)
     ·exact .inr (.inr (.inl g))
     ·rcases ajN.1 g with rfl|g
      ·exact .inl hok
      ·exact .inr (.inr (.inr g))
    ·rw [htd,td2 x.s _ rfl (xW hnt)]
     show 3*m.aY.length+left t+2*(x.s.box i).length+1<=3*m.aY.length+(8+left t)+2*(x.s.box i).length
     omega
    ·have hq':lM t=true\/x.s.dw=true:=hq
     rw [F6 hst] at hq'
     exact .inr (hq'.resolve_left (by decide))
   ·rw [aT h1]
    by_cases h2:m.aY.length=m.c.l.toNat
    ·rw [aZ h2]
     have hlg:=mi.lg
     have hne2:m.aY≠[]:=by
      intro e;rw [e] at h2;simp at h2;omega
     have hpd:MS.pK { m with aU:=m.aU+1 } p.κ (.add v t) = .nT p.κ (.add v t):=by
      unfold MS.pK
      rw [aT hne2]
     rw [hpd]
     refine ⟨MU.same h hm ((mi.step (s':=x.s) hp (t := .nT p.κ (.add v t)) (b:=m.aY) (.inl rfl) rfl (fun e=>by cases e) (by rw [hd];rfl) hne hst ⟨rfl,g1,g3⟩ mi.aY (fun u hu=>?_)).of ⟨rfl,rfl,rfl,rfl,rfl,rfl,rfl,rfl,rfl⟩) (fun hq=>by rw [hd] at hq;cases hq),⟨?_,.inr ⟨rfl,fun hq=>?_⟩⟩,rfl⟩
     ·rw [hd] at hu;exact hu
     ·rw [htd,td2 x.s _ rfl rfl]
      show 3*m.aY.length+(3+(4+left t))+2*(x.s.box i).length+1<=3*m.aY.length+(8+left t)+2*(x.s.box i).length
      omega
     ·exact .inr (hq.resolve_left (fun e=>by cases e))
    ·rw [aT h2]
     refine ⟨MU.same h hm ((mi.step (s':=x.s) hp (t:=t) (b:=m.aY++[v]) (.inl rfl) rfl hnt (by rw [hd];rfl) hne (DV hst) g3 (fun u hu=>?_) (fun u hu=>?_)).of ⟨rfl,rfl,rfl,rfl,rfl,rfl,rfl,rfl,rfl⟩) (fun hq=>by rw [hd] at hq;cases hq),⟨?_,.inr ⟨rfl,fun hq=>?_⟩⟩,rfl⟩
     ·rcases aln.1 hu with hu|hu
      ·exact mi.aY u hu
      ·rw [alo.1 hu];exact g1
     ·rw [hd] at hu
      rcases hu with g|g|g|g
      ·exact .inl g
      ·exact .inr (.inl (alp _ g))
      ·exact .inr (.inr (.inl g))
      ·rcases ajN.1 g with rfl|g
       ·exact .inr (.inl (alq _ (alo.2 rfl)))
       ·exact .inr (.inr (.inr g))
     ·rw [htd,td2 x.s _ rfl (xW hnt)]
      show 3*(m.aY++[v]).length+left t+2*(x.s.box i).length+1<=3*m.aY.length+(8+left t)+2*(x.s.box i).length
      rw [alm]
      show 3*(m.aY.length+1)+left t+2*(x.s.box i).length+1<=_
      omega
     ·have hq':lM t=true\/x.s.dw=true:=hq
      rw [F6 hst] at hq'
      exact .inr (hq'.resolve_left (by decide))
 | add v t =>
   rw [hd] at hend yV hgd htd
   obtain ⟨g1,g3⟩:=hgd
   obtain ⟨hb0,hst⟩:=yV
   have hnt:=F5 hst
   have hlg:=mi.lg
   simp only [stepM]
   rw [aT (by rw [hb0];simp;omega)]
   refine ⟨MU.same h hm ((mi.step (s':=x.s) hp (t:=t) (b:=m.aY++[v]) (.inl rfl) rfl hnt (by rw [hd];rfl) hne (DV hst) g3 (fun u hu=>?_) (fun u hu=>?_)).of ⟨rfl,rfl,rfl,rfl,rfl,rfl,rfl,rfl,rfl⟩) (fun hq=>by rw [hd] at hq;cases hq),⟨?_,.inr ⟨rfl,fun hq=>?_⟩⟩,rfl⟩
   ·rcases aln.1 hu with hu|hu
    ·exact mi.aY u hu
    ·rw [alo.1 hu];exact g1
   ·rw [hd] at hu
    rcases hu with g|g|g|g
    ·exact .inl g
    ·exact .inr (.inl (alp _ g))
    ·exact .inr (.inr (.inl g))
    ·rcases ajN.1 g with rfl|g
     ·exact .inr (.inl (alq _ (alo.2 rfl)))
     ·exact .inr (.inr (.inr g))
   ·rw [htd,td2 x.s _ rfl (xW hnt)]
    show 3*(m.aY++[v]).length+left t+2*(x.s.box i).length+1<=3*m.aY.length+(4+left t)+2*(x.s.box i).length
    rw [alm]
    show 3*(m.aY.length+1)+left t+2*(x.s.box i).length+1<=_
    omega
   ·have hq':lM t=true\/x.s.dw=true:=hq
    rw [F6 hst] at hq'
    exact .inr (hq'.resolve_left (by decide))
 | nT c t =>
   rw [hd] at hend yV hgd htd
   obtain ⟨rfl,g3⟩:=hgd
   have htl:DU t:=yV
   have hnt:=Ko htl
   have MV:m.id=i:=mi.id
   have hib:i<x.s.aV.length:=by rw [h.box];exact Az
   simp only [stepM]
   rw [MV]
   by_cases h1:x.s.box i=[]
   ·rw [aZ h1]
    have hbi:({ x.s with aV:=x.s.aV.set i m.aY }:Sh).box i=m.aY:=by
     show (x.s.aV.set i m.aY).getD i []=_
     rw [ajg,List.getElem?_set_self hib];rfl
    have xq:∀ j,j≠i->({ x.s with aV:=x.s.aV.set i m.aY }:Sh).box j=x.s.box j:=fun j hj=>by
     show (x.s.aV.set i m.aY).getD j []=x.s.aV.getD j []
     rw [ajg,List.getElem?_set_ne (fun e=>hj e.symm),<- ajg]
    refine ⟨⟨h.heap,fun _ _ h=>h,h.wo,by show (x.s.aV.set i m.aY).length=_;rw [List.length_set],xq,fun v hv=>mi.aY v (by rwa [hbi] at hv),.inr hp,h.bd,rfl,fun _ _=>rfl,fun _=>hp,rfl,
     (mi.step (s':={ x.s with aV:=x.s.aV.set i m.aY }) hp (t:=t) (b:=[]) (.inl rfl) rfl hnt (by rw [hd];rfl) hne (Ig htl) g3 (fun u hu=>by cases hu) (fun u hu=>?_)).of ⟨MV.symm,rfl,rfl,rfl,rfl,rfl,rfl,rfl,rfl⟩,fun h=>h,.inl,fun hq=>(by rw [hd] at hq;cases hq),fun _ _ h => .inl h⟩,⟨?_,.inr ⟨rfl,fun hq=>?_⟩⟩,rfl⟩
    ·rw [hd] at hu
     rcases hu with g|g|g|g
     ·exact .inl g
     ·exact .inr (.inr (.inl (by rw [hbi];exact g)))
     ·rw [h1] at g;cases g
     ·exact .inr (.inr (.inr g))
    ·rw [htd,td2 _ _ (by rfl) (xW hnt),hbi,h1]
     show 3*0+left t+2*m.aY.length+1<=3*m.aY.length+(3+left t)+2*0
     omega
    ·have hq':lM t=true\/x.s.dw=true:=hq
     rw [Ua htl] at hq'
     exact .inr (hq'.resolve_left (by decide))
   ·rw [aT h1]
    refine ⟨MU.same h hm ((mi.step (s':=x.s) hp (t := .iK p.κ false t) (b:=m.aY) (.inl rfl) rfl (fun e=>by cases e) (by rw [hd];rfl) hne htl ⟨rfl,g3⟩ mi.aY (fun u hu=>?_)).of ⟨MV.symm,rfl,rfl,rfl,rfl,rfl,rfl,rfl,rfl⟩) (fun hq=>by rw [hd] at hq;cases hq),⟨?_,.inr ⟨rfl,fun hq=>?_⟩⟩,rfl⟩
    ·rw [hd] at hu;exact hu
    ·rw [htd,td2 x.s _ rfl rfl]
     show 3*m.aY.length+(2+left t)+2*(x.s.box i).length+1<=3*m.aY.length+(3+left t)+2*(x.s.box i).length
     omega
    ·exact .inr (hq.resolve_left (fun e=>by cases e))
 | iK c fr t =>
   rw [hd] at hend yV hgd htd
   obtain ⟨rfl,g3⟩:=hgd
   have htl:DU t:=yV
   have hnt:=Ko htl
   simp only [stepM]
   have Uc:=MP (p:=p) (f:=f) (dA m.aY) p.κ
   have hat:=fun a=>FY (p:=p) hk2 (f:=f) (dA m.aY) a
   have hU:=CP.WG k hk2 (f:=f) (v:=dA m.aY)
   have hUn:HS.iG { p.H with co:=f } (dA m.aY) p.κ=false->HS.eF { p.H with co:=f } (dA m.aY) p.κ={ p.H with co:=f }:=fun e=>by
    unfold HS.eF
    rw [e,aT (by decide)]
   have hpi:=BD (p:=p) hk2 (f:=f) (dA m.aY)
   have hHH:x.s.H.eF (dA m.aY) p.κ=HS.eF { p.H with co:=f } (dA m.aY) p.κ:=by rw [hH]
   have hHp:x.s.H.iG (dA m.aY) p.κ=HS.iG { p.H with co:=f } (dA m.aY) p.κ:=by rw [hH]
   rw [hHH,hHp]
   have hmono:∀ a,p.H.bn a=true->x.s.H.co a=p.kb->(HS.eF { p.H with co:=f } (dA m.aY) p.κ).co a=p.kb:=fun a ha hc=>by
    rw [hat a]
    split
    ·rfl
    ·rw [<- hco];exact hc
   have hgh:p.H.bn (dA m.aY)=true->p.lq (dA m.aY):=fun hb=>by
    cases hbb:m.aY with
    | nil=>rw [hbb] at hb;rw [show dA ([]:List Nat)=0 from rfl,k.bn0] at hb;cases hb
    | cons a r=>exact mi.aY (dA (a::r)) (by rw [hbb];exact alr) (by rw [hbb] at hb;exact hb)
   have hpn:∀ a,p.H.bn a=true->(HS.eF { p.H with co:=f } (dA m.aY) p.κ).co a=p.kb->p.lq a:=fun a ha hc=>by
    rw [hat a] at hc
    split at hc
    ·rename_i e;rw [e.1];exact hgh e.2
    ·exact h.wo a ha (by rw [hco];exact hc)
   have hnew:∀ a,p.H.bn a=true->(HS.eF { p.H with co:=f } (dA m.aY) p.κ).co a=p.kb->x.s.H.co a=p.kb\/HS.iG { p.H with co:=f } (dA m.aY) p.κ=true:=fun a ha hc=>by
    rw [hat a] at hc
    rw [hco]
    split at hc
    ·rename_i e
     by_cases e2:f a=p.kb
     ·exact .inl e2
     ·exact .inr (hpi.2 ⟨e.2,by rw [<- e.1];exact e2⟩)
    ·exact .inl hc
   have hbt:∀ v,v∈m.aY->v∈m.aY.tail\/p.kE (HS.eF { p.H with co:=f } (dA m.aY) p.κ).co (dO x.aC.next) v:=fun v hv=>by
    cases hbb:m.aY with
    | nil=>rw [hbb] at hv;cases hv
    | cons a r =>
      rw [hbb] at hv
      rcases ajN.1 hv with rfl|hv
      ·refine .inr fun hb => .inl ?_
       rw [hbb] at hat
       show (HS.eF { p.H with co:=f } v p.κ).co v=_
       rw [show (HS.eF { p.H with co:=f } v p.κ).co v=_ from hat v]
       show (if v=v/\p.H.bn v=true then p.kb else f v)=p.kb
       rw [aZ ⟨rfl,hb⟩]
      ·exact .inl hv
   generalize hH':HS.eF { p.H with co:=f } (dA m.aY) p.κ=H' at *
   generalize hpp:HS.iG { p.H with co:=f } (dA m.aY) p.κ=pp at *
   have hX:∃ nx,nx=(if m.aY.tail≠[] then MD.iK p.κ (fr||pp) t else if (fr||pp)=true then .kX t else t):=⟨_,rfl⟩
   obtain ⟨nx,hnx⟩:=hX
   rw [<- hnx]
   have aij:nx ≠ .nil/\zJ nx=zJ t/\Ob m.aY.tail nx/\p.yU nx/\uF nx=uF t/\left nx<=2+left t/\lM nx=(fr||pp):=by
    rw [hnx]
    by_cases e1:m.aY.tail≠[]
    ·rw [aZ e1]
     exact ⟨(fun e=>by cases e),rfl,htl,⟨rfl,g3⟩,rfl,aje _,rfl⟩
    ·rw [aT e1]
     have e1':m.aY.tail=[]:=Classical.byContradiction e1
     rw [e1']
     by_cases e2:(fr||pp)=true
     ·rw [aZ e2]
      exact ⟨(fun e=>by cases e),rfl,⟨rfl,htl⟩,g3,rfl,by show 1+left t<=_;omega,by rw [e2];rfl⟩
     ·rw [aT e2]
      exact ⟨hnt,rfl,Ig htl,g3,rfl,by omega,by rw [Ua htl];simpa using e2⟩
   obtain ⟨n1,n2,n3,n4,n5,n6,n7⟩:=aij
   have hlt2:m.aY.tail.length<=m.aY.length:=by simp
   refine ⟨⟨Uc,hmono,hpn,rfl,fun _ _=>rfl,h.tZ i,.inl rfl,h.bd,rfl,fun _ _=>rfl,fun _=>hp,rfl,
    (mi.step (s':={ x.s with H:=H' }) hp (t:=nx) (b:=m.aY.tail) (.inr hmono) rfl n1 (by rw [n2,hd];rfl) hne n3 n4 (fun u hu=>mi.aY u (List.mem_of_mem_tail hu)) (fun u hu=>?_)).of ⟨rfl,rfl,rfl,rfl,rfl,rfl,rfl,rfl,rfl⟩,fun h=>h,.inl,fun hq=>?_,fun a ha hc=>?_⟩,⟨?_,?_⟩,trivial⟩
   ·rw [hd] at hu
    rw [n5]
    rcases hu with g|g|g|g
    ·exact .inl (CP.J8 hmono g)
    ·rcases hbt u g with g|g
     ·exact .inr (.inl g)
     ·exact .inl g
    ·exact .inr (.inr (.inl g))
    ·exact .inr (.inr (.inr g))
   ·rw [hd] at hq
    have hq':fr=true:=hq
    exact .inl (by show lM nx=true;rw [n7,hq'];rfl)
   ·rcases hnew a ha hc with g|g
    ·exact .inl g
    ·exact .inr (.inl (by show lM nx=true;rw [n7,g];simp))
   ·rw [htd,td2 _ _ (by rfl) (xW n1)]
    show 3*m.aY.tail.length+left nx+2*(x.s.box i).length+1<=3*m.aY.length+(2+left t)+2*(x.s.box i).length
    cases hbb:m.aY with
    | nil =>
      have:nx=(if (fr||pp)=true then .kX t else t):=by rw [hnx,hbb];rfl
      have:left nx<=1+left t:=by
       rw [this];split
       ·exact aje _
       ·omega
      simp;omega
    | cons a r=>simp;omega
   ·cases pp with
    | true =>
      refine .inl ?_
      show p.U H'.co+1<=p.U x.s.H.co
      rw [hco,hU rfl];exact aje _
    | false =>
      refine .inr ⟨?_,fun hq=>?_⟩
      ·show p.U H'.co=p.U x.s.H.co
       rw [hUn rfl,hco]
      ·rcases hq with hq|hq
       ·have hq':lM nx=true:=hq
        rw [n7,Bool.or_false] at hq'
        rw [hd];exact .inl hq'
       ·exact .inr hq
 | kX t =>
   rw [hd] at hend yV hgd htd
   obtain ⟨hb0,htl⟩:=yV
   have hnt:=Ko htl
   simp only [stepM]
   refine ⟨⟨h.heap,fun _ _ h=>h,h.wo,rfl,fun _ _=>rfl,h.tZ i,.inl rfl,h.bd,rfl,fun _ _=>rfl,fun h=>h,rfl,
    (mi.step (s':={ x.s with dw:=true }) hp (t:=t) (b:=m.aY) (.inl rfl) rfl hnt (by rw [hd];rfl) hne (by rw [hb0];exact Ig htl) hgd mi.aY (fun u hu=>?_)).of ⟨rfl,rfl,rfl,rfl,rfl,rfl,rfl,rfl,rfl⟩,fun _=>rfl,fun _ => .inr hp,fun _ => .inr rfl,fun _ _ h => .inl h⟩,⟨?_,.inr ⟨rfl,fun _ => .inl (by rw [hd];rfl)⟩⟩,trivial⟩
   ·rw [hd] at hu;exact hu
   ·rw [htd,td2 _ _ (by rfl) (xW hnt)]
    show 3*m.aY.length+left t+2*(x.s.box i).length+1<=3*m.aY.length+(1+left t)+2*(x.s.box i).length
    omega
 | nil=>exact absurd hd hne
 | _=>rw [hd] at yV;exact yV.elim
end
section
variable {p:CP} {x y:WS} {s s':Sh} {m m':MS} {i l l' ph hf:Nat}
theorem Jy (k:zB p hf) (w:Nat) (hw:w=p.κ):∀ rs:List Nat,(∀ v∈rs,p.Aw v)->zV (oZ w rs)/\zJ (oZ w rs)=3/\p.yU (oZ w rs)/\(∀ v∈rs,v=0\/v∈uF (oZ w rs))/\left (oZ w rs)<=8*rs.length+1
 | [],_=>⟨rfl,rfl,trivial,(fun _ h=>by cases h),aje _⟩
 | v::r,hg=>by
   obtain ⟨h1,h2,h3,h4,h5⟩:=Jy k w hw r (fun u hu=>hg u (ajP _ hu))
   show zV (pJ v w (oZ w r))/\zJ (pJ v w (oZ w r))=3/\p.yU (pJ v w (oZ w r))/\(∀ u∈v::r,u=0\/u∈uF (pJ v w (oZ w r)))/\left (pJ v w (oZ w r))<=_
   unfold pJ
   by_cases e:v=0
   ·rw [aZ e]
    refine ⟨h1,h2,h3,fun u hu=>?_,by rw [akn];omega⟩
    rcases ajN.1 hu with rfl|hu
    ·exact .inl e
    ·exact h4 u hu
   ·rw [aT e]
    refine ⟨h1,h2,⟨hg v alr,hw,h3⟩,fun u hu=>?_,by rw [akn];show 8+left _<=_;omega⟩
    rcases ajN.1 hu with rfl|hu
    ·exact .inr alr
    ·rcases h4 u hu with g|g
     ·exact .inl g
     ·exact .inr (ajP _ g)
structure PC (p:CP) (s:Sh) (m:MS) (i:Nat) (s':Sh) (m':MS):Prop where
 J9:iq s' i m'+2*(s'.box i).length+(if s.B.bF (i:Int) then 1 else 0)<=iq s i m+2*(s.box i).length
 wo:p.U s'.H.co+1<=p.U s.H.co\/(p.U s'.H.co=p.U s.H.co/\(lM m'.next=true\/s'.dw=true->lM m.next=true\/s.dw=true))
theorem Ih (k:zB p hf) (h:jO p x) (hm:x.aG[i]?=some m) (hp:x.s.B.bF (i:Int)=true):Ob m.aY (fG x.s m)/\fG x.s m ≠ .nil/\zJ (fG x.s m)=(x.aC.phase:Int)/\p.yU (fG x.s m)/\(x.aC.phase=3->∀ v∈m.aW,v=0\/v∈uF (fG x.s m))/\left (fG x.s m)<=8*m.aW.length+4/\lM (fG x.s m)=false:=by
 have mi:=h.gW i m hm
 have Az:i<p.mu:=by rw [<- h.aG];exact (ake.1 hm).1
 have rC:=h.WH Az hp
 have hk:=mi.kind hp
 have hp':x.s.B.bF (m.id:Int)=true:=by rw [mi.id];exact hp
 have hw:x.aC.phase≠1->m.dQ=p.κ:=fun h1=>mi.dQ.resolve_left (fun h=>h1 h.1)
 unfold fG
 rw [hp',aZ rfl,hk]
 by_cases h3:x.aC.phase=3
 ·rw [h3,aZ (by decide)]
  obtain ⟨g1,g2,g3,g4,g5⟩:=Jy k m.dQ (hw (by omega)) m.aW (fun v hv hb => .zI (.inr ⟨i,Az,by rw [<- mi.aW];exact hv⟩) hb)
  exact ⟨DV g1,F5 g1,g2,g3,fun _=>g4,by omega,F6 g1⟩
 ·rw [aT (by omega)]
  by_cases h5:x.aC.phase=5
  ·rw [h5,aZ (by decide)]
   unfold MS.pK
   by_cases e:m.aY=[]
   ·rw [aZ e]
    exact ⟨fun _=>e,(fun e=>by cases e),rfl,trivial,(fun e=>by omega),by show 1<=_;omega,rfl⟩
   ·rw [aT e]
    exact ⟨trivial,(fun e=>by cases e),rfl,⟨hw (by omega),trivial⟩,(fun e=>by omega),by show 3+1<=_;omega,rfl⟩
  ·rw [aT (by omega)]
   refine ⟨fun e=>?_,(fun e=>by cases e),rfl,trivial,fun e=>absurd e h3,by show 1<=_;omega,rfl⟩
   exact absurd e (by omega)
theorem Ud (k:zB p hf) (h:jO p x) (hm:x.aG[i]?=some m) (hn:m.next = .nil):iq x.s i m<=3*m.aY.length+(8*m.aW.length+5):=by
 unfold iq
 split
 ·rename_i hp
  have:=(Ih k h hm hp).2.2.2.2.2.1
  rw [hn,aZ (by decide)];omega
 ·omega
theorem Kq (k:zB p hf) (h:jO p x) (hm:x.aG[i]?=some m) :
 MU p x.s m (dO x.aC.next) x.aC.phase i (dV x.s m).1 (dV x.s m).2.1/\PC p x.s m i (dV x.s m).1 (dV x.s m).2.1/\(dV x.s m).2.2=none:=by
 have mi:=h.gW i m hm
 have Az:i<p.mu:=by rw [<- h.aG];exact (ake.1 hm).1
 by_cases hn:jD m.next=true
 ·have hnx:m.next = .nil:=by
   cases hd:m.next<;>rw [hd] at hn<;>first|rfl|cases hn
  have hpk:dV x.s m=(x.s,{ m with aU:=1,mg:=x.s.B.bF (m.id:Int),next:=fG x.s m },none):=by
   unfold dV
   rw [aZ hn]
  rw [hpk]
  by_cases hp:x.s.B.bF (i:Int)=true
  ·obtain ⟨g1,g2,g3,g4,g5,g6,g7⟩:=Ih k h hm hp
   have Jw:MI p x.s (dO x.aC.next) x.aC.phase i { m with aU:=1,mg:=x.s.B.bF (m.id:Int),next:=fG x.s m }:=by
    refine ⟨mi.id,mi.prog,mi.aW,mi.lg,mi.dQ,mi.aP,fun hf=>?_,mi.kind,fun _=>g3,g1,g4,mi.aY,fun h3 _ v hv=>?_,mi.buf5⟩
    ·rw [hp] at hf;cases hf
    ·by_cases e3:x.aC.phase=3
     ·rcases g5 e3 v hv with rfl|g
      ·exact .inl (CP.TW k.bn0)
      ·exact .inr (.inr (.inr g))
     ·rcases mi.yg h3 (fun hh=>e3 hh.1) v hv with g|g|g|g
      ·exact .inl g
      ·exact .inr (.inl g)
      ·exact .inr (.inr (.inl g))
      ·rw [hnx] at g;cases g
   refine ⟨MU.same h hm Jw (fun hq=>by rw [hnx] at hq;cases hq),⟨?_,.inr ⟨rfl,fun hq=>?_⟩⟩,rfl⟩
   ·unfold iq
    rw [hp,aZ rfl,aZ rfl,aZ rfl,hn,aZ rfl]
    show 3*m.aY.length+(if jD (fG x.s m)=true then _ else left (fG x.s m))+2*(x.s.box i).length+1<=_
    rw [xW g2,aT (by decide)]
    omega
   ·rcases hq with hq|hq
    ·have hq':lM (fG x.s m)=true:=hq
     rw [g7] at hq';cases hq'
    ·exact .inr hq
  ·have hp0:x.s.B.bF (i:Int)=false:=by simpa using hp
   have hb:fG x.s m = .nil:=by
    unfold fG
    rw [mi.id,hp0,aT (by decide),List.getElem?_eq_none mi.prog]
   rw [hb]
   have Jw:MI p x.s (dO x.aC.next) x.aC.phase i { m with aU:=1,mg:=x.s.B.bF (m.id:Int),next := .nil }:=mi.of ⟨rfl,rfl,rfl,rfl,rfl,rfl,rfl,rfl,hnx.symm⟩
   refine ⟨MU.same h hm Jw (fun hq=>by rw [hnx] at hq;cases hq),⟨?_,.inr ⟨rfl,fun hq=>?_⟩⟩,rfl⟩
   ·unfold iq
    rw [hp0]
    exact aje _
   ·rcases hq with hq|hq
    ·cases hq
    ·exact .inr hq
 ·have hn':jD m.next=false:=by simpa using hn
  have hp:x.s.B.bF (i:Int)=true:=by
   cases hb:x.s.B.bF (i:Int)
   ·exact absurd (mi.jE hb) (Ub hn')
   ·rfl
  obtain ⟨u,c,e⟩:=acU k h hm hn' m.next rfl
  have hpk:dV x.s m=((stepM x.s { m with aU:=m.aU+1 } m.next).s,(if jD (stepM x.s { m with aU:=m.aU+1 } m.next).next then { (stepM x.s { m with aU:=m.aU+1 } m.next).m with next := .nil }.most else { (stepM x.s { m with aU:=m.aU+1 } m.next).m with next:=(stepM x.s { m with aU:=m.aU+1 } m.next).next }),(stepM x.s { m with aU:=m.aU+1 } m.next).ev):=by
   unfold dV
   rw [aT hn]
  rw [hpk]
  generalize stepM x.s { m with aU:=m.aU+1 } m.next=r at *
  by_cases hr:jD r.next=true
  ·have hrn:r.next = .nil:=by
    cases hd:r.next<;>rw [hd] at hr<;>first|rfl|cases hr
   rw [aZ hr]
   rw [hrn] at u c
   have hM:∀ M:MS,(M.most).id=M.id/\(M.most).prog=M.prog/\(M.most).dG=M.dG/\(M.most).aW=M.aW/\(M.most).c=M.c/\(M.most).dQ=M.dQ/\(M.most).aP=M.aP/\(M.most).aY=M.aY/\(M.most).next=M.next:=fun M=>by
    unfold MS.most
    split<;>exact ⟨rfl,rfl,rfl,rfl,rfl,rfl,rfl,rfl,rfl⟩
   have hM1:=hM { r.m with next := .nil }
   have hMb:∀ M:MS,fG r.s M.most=fG r.s M:=fun M=>by
    unfold MS.most
    split<;>rfl
   have aik:=hMb { r.m with next := .nil }
   have Jw:=u.mi.of hM1
   generalize MS.most { r.m with next := .nil }=M at *
   obtain ⟨_,_,_,_,_,_,_,e8,e9⟩:=hM1
   refine ⟨⟨u.heap,u.mono,u.wo,u.len,u.MQ,u.bx,u.bxw,u.bd,u.kind,u.bF,u.YB,u.q,Jw,u.dw,u.flag2,fun hq=>?_,fun a ha hc=>?_⟩,⟨?_,?_⟩,e⟩
   ·rw [e9];exact u.pr hq
   ·rw [e9];exact u.bC a ha hc
   ·have hc:=c.J9
    rw [hp,aZ rfl]
    have ht:iq r.s i M=iq r.s i { r.m with next := .nil }:=by
     unfold iq
     rw [e8,e9,aik]
    rw [ht];exact hc
   ·rw [e9];exact c.wo
  ·rw [aT hr]
   exact ⟨u,⟨by have hc:=c.J9;rw [hp,aZ rfl];exact hc,c.wo⟩,e⟩
end
section
variable {p:CP} {x y:WS} {s s':Sh} {m m':MS} {i l l' ph vO hf:Nat} {c':CS}
theorem MI.aC (h:MI p s l ph i m) (hB:s'.B=s.B) (hk:∀ v,p.kE s.H.co l v->p.kE s'.H.co l' v) (hb:∀ v∈s.box i,v∈s'.box i\/p.kE s'.H.co l' v):MI p s' l' ph i m :=
 ⟨h.id,h.prog,h.aW,h.lg,by rw [hB];exact h.dQ,by rw [hB];exact h.aP,by rw [hB];exact h.jE,by rw [hB];exact h.kind,h.TV,h.fQ,h.gd,h.aY,
  by
   rw [hB]
   intro a b v hv
   rcases h.yg a b v hv with g|g|g|g
   ·exact .inl (hk v g)
   ·exact .inr (.inl g)
   ·rcases hb v g with g|g
    ·exact .inr (.inr (.inl g))
    ·exact .inl g
   ·exact .inr (.inr (.inr g)),by rw [hB];exact h.buf5⟩
theorem MI.phase (h:MI p s l ph i m) (hp:s.B.bF (i:Int)=false) (hkind:s'.B.bF (i:Int)=true->s'.B.kind=(vO:Int)) (hb:s'.box i=s.box i) (hk:∀ v,p.kE s.H.co l v->p.kE s'.H.co l' v)
 (oG:ph<3↔(vO<3\/(vO=3/\s'.B.bF (i:Int)=true))) (Oc:3<=vO->¬ (vO=3/\s'.B.bF (i:Int)=true)->3<=ph) (h5:vO=5->s'.B.bF (i:Int)=false->ph=5):MI p s' l' vO i m:=by
 have hn:=h.jE hp
 refine ⟨h.id,h.prog,h.aW,h.lg,.inr (h.dQ.resolve_left (fun hh=>by rw [hp] at hh;cases hh.2)),?_,fun _=>hn,hkind,fun hf=>absurd hn hf,by rw [hn];trivial,by rw [hn];trivial,h.aY,fun h3 hx v hv=>?_,fun e1 e2=>h.buf5 (h5 e1 e2) hp⟩
 ·have hc:=h.aP
  rw [hp] at hc
  by_cases e:ph<3
  ·rw [aZ (.inl e)] at hc
   rw [aZ (oG.1 e)];exact hc
  ·rw [aT (by intro hh;rcases hh with hh|hh;exact e hh;cases hh.2)] at hc
   rw [aT (fun hh=>e (oG.2 hh))];exact hc
 ·have h3':=Oc h3 (fun hh=>hx ⟨hh.1,hh.2,hn⟩)
  rcases h.yg h3' (fun hh=>by rw [hp] at hh;cases hh.2.1) v hv with g|g|g|g
  ·exact .inl (hk v g)
  ·exact .inr (.inl g)
  ·exact .inr (.inr (.inl (by rw [hb];exact g)))
  ·exact .inr (.inr (.inr g))
theorem jO.pz (h:jO p x) (hn:∀ m t,x.aC.next ≠ .dJ m t) {i:Nat} (hi:i<p.mu):x.s.B.bF (i:Int)=false:=by
 cases hp:x.s.B.bF (i:Int)
 ·rfl
 ·obtain ⟨m,t,e,_⟩:=h.wt i hi hp
  exact absurd e (hn m t)
theorem jO.vP (h:jO p x) (hm:x.aG[i]?=some m):i<p.mu:=by rw [<- h.aG];exact (ake.1 hm).1
theorem jO.go (h:jO p x) (hn:∀ m t,x.aC.next ≠ .dJ m t) {d:CD} {st:List Nat} (hd:∀ m t,d ≠ .dJ m t)
 (hl:∀ v,p.kE x.s.H.co (dO x.aC.next) v->p.kE x.s.H.co (dO d) v)
 (fQ:p.fQ x.aC.phase d) (src:p.rP d) (bD:∀ a∈st,p.lq a)
 (mM:p.pq (p.kE x.s.H.co (dO d)) d)
 (lS:4<=x.aC.phase->∀ j:Nat,j<p.nK d->p.kE x.s.H.co (dO d) (p.H.jc (j:Int)))
 (yJ:∀ a,p.H.bn a=true->x.s.H.co a=p.kb->(a∈x.aC.bD\/p.kL a x.aC.next\/∀ j:Nat,j<(p.H.dh a).1->p.kE x.s.H.co (dO x.aC.next) (p.H.eU a (j:Int)))->a∈st\/p.kL a d\/∀ j:Nat,j<(p.H.dh a).1->p.kE x.s.H.co (dO d) (p.H.eU a (j:Int)))
 (bx:∀ j,j<p.sS d->x.s.box j=[]) (stk0:rQ d=true->st=[]) (mk0:d = .fP->x.s.dw=false/\x.aC.over=false) :
 jO p { x with aC:={ x.aC with bD:=st,next:=d } } :=
 ⟨h.k2,h.mu8,h.heap,h.aG,h.tY,h.box,h.jw,h.rY,h.uG,h.bd,fun i m hm=>(h.gW i m hm).aC rfl hl (fun _ hv => .inl hv),fun i hi hp=>(by
  have hp':x.s.B.bF (i:Int)=true:=hp
  rw [h.pz hn hi] at hp';cases hp'),h.ph,fQ,src,bD,h.tZ,h.wo,mM,lS,h.yJ.imp (fun hw=>hw) (fun hc a ha hco=>yJ a ha hco (hc a ha hco)),bx,stk0,mk0,h.q⟩
theorem Ii {v:Nat} {t:CD} (hv:p.Aw v) (ht:p.rP t):p.rP (fC v t):=by
 unfold fC
 split
 ·exact ht
 ·exact ⟨hv,ht⟩
theorem Jz {v a:Nat} {t:CD}:p.kL a (fC v t)↔p.kL a t:=by
 unfold fC
 split<;>exact Iff.rfl
theorem Ij {v:Nat} {t:CD} {ok:Nat->Prop}:p.pq ok (fC v t)↔p.pq ok t:=by
 unfold fC
 split<;>exact Iff.rfl
theorem F7 {v:Nat} {t:CD}:p.nK (fC v t)=p.nK t:=by
 unfold fC
 split<;>rfl
theorem Ik {v:Nat} {t:CD}:p.sS (fC v t)=p.sS t:=by
 unfold fC
 split<;>rfl
theorem MW {v:Nat} {t:CD} (h:∀ m u,t ≠ .dJ m u):∀ m u,fC v t ≠ .dJ m u:=by
 unfold fC
 split
 ·exact h
 ·intro m u e;cases e
theorem yX {v:Nat} {t:CD} (h:rQ t=false):rQ (fC v t)=false:=by
 unfold fC
 split
 ·exact h
 ·rfl
theorem Il (k:zB p hf) {v:Nat} {t:CD} {co:Nat->Bool}:p.kE co (dO (fC v t)) v:=by
 unfold fC
 split
 ·rename_i e
  rw [e];exact CP.TW k.bn0
 ·exact fun _ => .inr rfl
theorem Io {v ph:Nat} {t:CD} (hm:Af ph) (hl:lkT t) (hc:∀ i,t = .cell i->ph=4/\i<p.ce) (hb:∀ m,t = .box m->m<p.mu) (hs:p.fQ ph t):p.fQ ph (fC v t):=by
 unfold fC
 split
 ·exact hs
 ·exact ⟨hm,hl,hc,hb⟩
theorem cZ {co:Nat->Bool} (hn:dO x.aC.next=0) (k:zB p hf) {l v:Nat} (h:p.kE co (dO x.aC.next) v):p.kE co l v:=fun hb=>by
 rcases h hb with g|g
 ·exact .inl g
 ·rw [hn] at g
  rw [g,k.bn0] at hb;cases hb
theorem WI (c:CS) (i:Nat):(∀ m u,c.iI i ≠ .dJ m u)/\rQ (c.iI i)=false/\p.rP (c.iI i)/\(∀ ok,p.pq ok (c.iI i))/\(∀ a,p.kL a (c.iI i)↔False)/\p.sS (c.iI i)=0/\dO (c.iI i)=0/\lkT (c.iI i)/\(∀ m,c.iI i = .box m->m<p.mu)/\c.iI i ≠ .fP:=by
 unfold CS.iI
 split<;>exact ⟨(fun m u e=>by cases e),rfl,trivial,(fun _=>trivial),(fun _=>Iff.rfl),rfl,rfl,trivial,(fun m e=>by cases e),(fun e=>by cases e)⟩
theorem Ue {c:CS} (hc:c.cells=p.ce) {i:Nat} (hi:i<=p.ce):p.nK (c.iI i)=i:=by
 unfold CS.iI
 rw [hc]
 split
 ·rename_i e;exact e.symm
 ·rfl
theorem Uf (a i n:Nat) {t:CD} (ht:WE t):(∀ m u,fA a i n t ≠ .dJ m u)/\rQ (fA a i n t)=false/\p.nK (fA a i n t)=p.ce/\p.sS (fA a i n t)=0/\dO (fA a i n t)=0/\lkT (fA a i n t)/\(∀ j,fA a i n t ≠ .cell j)/\(∀ j,fA a i n t ≠ .box j)/\fA a i n t ≠ .fP:=by
 unfold fA
 split
 ·cases t with
  | work=>exact ⟨(fun m u e=>by cases e),rfl,rfl,rfl,rfl,trivial,(fun m e=>by cases e),(fun m e=>by cases e),(fun e=>by cases e)⟩
  | ig t=>exact ⟨(fun m u e=>by cases e),rfl,rfl,rfl,rfl,ht,(fun m e=>by cases e),(fun m e=>by cases e),(fun e=>by cases e)⟩
  | _=>exact ht.elim
 ·exact ⟨(fun m u e=>by cases e),rfl,rfl,rfl,rfl,ht,(fun m e=>by cases e),(fun m e=>by cases e),(fun e=>by cases e)⟩
theorem WJ {ph:Nat} {t:CD} (hm:Af ph) (ht:WE t):p.fQ ph t:=by
 cases t with
 | work=>exact hm
 | ig t=>exact ⟨hm,ht⟩
 | _=>exact ht.elim
end
def fJ (x:WS) (d:CD):WS:={ x with s:=(aN x.s x.aC d).s,aC:={ (aN x.s x.aC d).c with next:=(aN x.s x.aC d).next } }
section
variable {p:CP} {x y:WS} {s s':Sh} {m m':MS} {i l l' ph vO hf:Nat} {c':CS}
theorem jO.qR (h:jO p x) (hn:∀ m t,x.aC.next ≠ .dJ m t) {q:Nat} {t:CD} {c:CS} (hc:c.aG=x.aC.aG/\c.dU=x.aC.dU/\c.cells=x.aC.cells/\c.aP=x.aC.aP/\c.bD=x.aC.bD/\c.over=x.aC.over) (hl0:dO x.aC.next=0) (k:zB p hf)
 (hq:(x.aC.phase=1/\q=2/\t = .sW)\/(x.aC.phase=2/\q=3/\t = .trace)\/(x.aC.phase=4/\q=5/\t = .work)) (N9:4<=x.aC.phase->p.nK x.aC.next=p.ce) (hah:∀ a,¬ p.kL a x.aC.next) :
 jO p { x with s:=x.s.qR q,aC:={ c with phase:=q,next := .dJ 0 t } }:=by
 obtain ⟨e1,e2,e3,e4,e5,e6⟩:=hc
 have hnb:∀ i,i<p.mu->x.s.B.bF (i:Int)=false:=fun i hi=>h.pz hn hi
 obtain ⟨b1,b2,b3⟩:=h.bd.qR hnb q
 have tH:∀ v,p.kE x.s.H.co (dO x.aC.next) v->p.kE x.s.H.co 0 v:=fun v=>cZ hl0 k
 have hmu:=h.mu8
 refine ⟨h.k2,h.mu8,h.heap,h.aG,e1.trans h.tY,h.box,e4.trans h.jw,e2.trans h.rY,e3.trans h.uG,b1,fun i m hm=>?_,fun i hi hp=>⟨0,t,rfl,Nat.zero_le _⟩,?_,?_,trivial,fun a ha=>h.bD a (by rw [<- e5];exact ha),h.tZ,h.wo,trivial,fun h4 j hj=>?_,?_,fun j hj=>absurd hj (akU _),fun hh=>(by cases hh),fun hh=>(by cases hh),h.q⟩
 ·have hi:=h.vP hm
  have YD:({ x with s:=x.s.qR q,aC:={ c with phase:=q,next := .dJ 0 t } }:WS).s.B.bF (i:Int)=true:=(b2 i).trans (fK hi)
  refine (h.gW i m hm).phase (hnb i hi) (fun _=>b3) rfl tH ?_ (fun h3 hx=>?_) (fun h5 hf=>?_)
  ·show _↔q<3\/(q=3/\_)
   rw [YD]
   rcases hq with ⟨a,b,_⟩|⟨a,b,_⟩|⟨a,b,_⟩<;>rw [a,b]<;>simp
  ·rw [YD] at hx
   have h3':3<=q:=h3
   have hx':¬ (q=3/\true=true):=hx
   rcases hq with ⟨a,b,_⟩|⟨a,b,_⟩|⟨a,b,_⟩
   ·omega
   ·exact absurd ⟨b,rfl⟩ hx'
   ·omega
  ·rw [YD] at hf;cases hf
 ·show 1<=q/\q<=5
  omega
 ·show 0<p.mu/\((q=1/\t = .uY)\/(q=2/\t = .sW)\/(q=3/\t = .trace)\/(q=5/\t = .work))
  refine ⟨by omega,?_⟩
  rcases hq with ⟨_,b,c⟩|⟨_,b,c⟩|⟨_,b,c⟩
  ·exact .inr (.inl ⟨b,c⟩)
  ·exact .inr (.inr (.inl ⟨b,c⟩))
  ·exact .inr (.inr (.inr ⟨b,c⟩))
 ·have h4':4<=q:=h4
  have hp4:x.aC.phase=4:=by omega
  exact tH _ (h.lS (by omega) j (by rw [N9 (by omega)];exact hj))
 ·refine h.yJ.imp (fun hw=>?_) (fun hc a ha hco=>?_)
  ·rcases hw with hw|hw|hw
   ·exact .inl hw
   ·exact .inr (.inl (by show c.over=true;rw [e6];exact hw))
   ·exact .inr (.inr hw)
  ·rcases hc a ha hco with g|g|g
   ·exact .inl (by show a∈c.bD;rw [e5];exact g)
   ·exact absurd g (hah a)
   ·exact .inr (.inr fun j hj=>tH _ (g j hj))
theorem jO.phase (h:jO p x) (hn:∀ m t,x.aC.next ≠ .dJ m t) {q:Nat} {d:CD} {c:CS} (hc:c.aG=x.aC.aG/\c.dU=x.aC.dU/\c.cells=x.aC.cells/\c.aP=x.aC.aP/\c.bD=x.aC.bD/\c.over=x.aC.over) (hl0:dO x.aC.next=0) (hd0:dO d=0) (k:zB p hf) (hd:∀ m t,d ≠ .dJ m t)
 (hq:(x.aC.phase=3/\q=4)\/(x.aC.phase=5/\q=4)) (N9:p.nK d=0\/(4<=x.aC.phase/\p.nK x.aC.next=p.ce/\p.nK d=p.ce)\/p.ce=0) (hcx:p.nK d<=p.ce) (hah:∀ a,¬ p.kL a x.aC.next) (fQ:p.fQ q d) (hsrc:p.rP d) (hfl:p.pq (p.kE x.s.H.co 0) d) (hbx:p.sS d=0) (hla:rQ d=false) :
 jO p { x with aC:={ c with phase:=q,next:=d } }:=by
 obtain ⟨e1,e2,e3,e4,e5,e6⟩:=hc
 have hnb:∀ i,i<p.mu->x.s.B.bF (i:Int)=false:=fun i hi=>h.pz hn hi
 have tH:∀ v,p.kE x.s.H.co (dO x.aC.next) v->p.kE x.s.H.co (dO d) v:=fun v=>cZ hl0 k
 refine ⟨h.k2,h.mu8,h.heap,h.aG,e1.trans h.tY,h.box,e4.trans h.jw,e2.trans h.rY,e3.trans h.uG,h.bd,fun i m hm=>?_,fun i hi hp=>?_,?_,fQ,hsrc,fun a ha=>h.bD a (by rw [<- e5];exact ha),h.tZ,h.wo,?_,fun h4 j hj=>?_,?_,fun j hj=>?_,fun hh=>?_,fun hh=>?_,h.q⟩
 ·have hi:=h.vP hm
  refine (h.gW i m hm).phase (hnb i hi) (fun hp=>?_) rfl tH ?_ (fun h3 hx=>?_) (fun h5 hf=>?_)
  ·rw [hnb i hi] at hp;cases hp
  ·show x.aC.phase<3↔(q<3\/(q=3/\_))
   constructor
   ·intro hh;omega
   ·intro hh;omega
  ·show 3<=x.aC.phase;omega
  ·have:q=5:=h5
   omega
 ·have hp':x.s.B.bF (i:Int)=true:=hp
  rw [hnb i hi] at hp';cases hp'
 ·show 1<=q/\q<=5
  omega
 ·show p.pq (p.kE x.s.H.co (dO d)) d
  rw [hd0];exact hfl
 ·have hj':j<p.nK d:=hj
  rcases N9 with g|⟨g1,g2,g3⟩|g
  ·omega
  ·exact tH _ (h.lS g1 j (by omega))
  ·omega
 ·refine h.yJ.imp (fun hw=>?_) (fun hc a ha hco=>?_)
  ·rcases hw with hw|hw|hw
   ·exact .inl hw
   ·exact .inr (.inl (by show c.over=true;rw [e6];exact hw))
   ·exact .inr (.inr hw)
  ·rcases hc a ha hco with g|g|g
   ·exact .inl (by show a∈c.bD;rw [e5];exact g)
   ·exact absurd g (hah a)
   ·exact .inr (.inr fun j hj=>tH _ (g j hj))
 ·have hj':j<p.sS d:=hj
  omega
 ·have hh':rQ d=true:=hh
  rw [hla] at hh';cases hh'
 ·have hh':d = .fP:=hh
  rw [hh'] at hla;cases hla
theorem YE (k:zB p hf) (h:jO p x) (v:Nat) (t:CD) (hd:x.aC.next = .lC v t):jO p (fJ x (.lC v t)):=by
 have hn:∀ m u,x.aC.next ≠ .dJ m u:=fun m u e=>by rw [hd] at e;cases e
 have hk2:=h.k2
 have fQ:=h.fQ;have src:=h.src;have mM:=h.mM;have lS:=h.lS;have yJ:=h.yJ;have bx:=h.bx
 rw [hd] at fQ src mM lS yJ bx
 obtain ⟨hmk,hlk,hc,hb⟩:=fQ
 obtain ⟨hgv,hst⟩:=src
 obtain ⟨f,hH⟩:=h.heap
 have hco:x.s.H.co=f:=by rw [hH]
 have hl0:dO t=0:=by
  cases t with
  | lC _ _=>exact hlk.elim
  | _=>rfl
 have hlw:∀ m u,t ≠ .dJ m u:=fun m u e=>by rw [e] at hlk;exact hlk
 have hla:rQ t=false:=by
  cases t with
  | over=>exact hlk.elim
  | fP=>exact hlk.elim
  | _=>rfl
 have hts:p.fQ x.aC.phase t:=by
  cases t with
  | cell j=>exact hc j rfl
  | work=>exact hmk
  | box m=>exact ⟨hmk,hb m rfl⟩
  | field _ _ _ _=>exact ⟨hmk,hlk⟩
  | ig _=>exact ⟨hmk,hlk⟩
  | _=>exact hlk.elim
 unfold fJ
 simp only [aN]
 have Uc:=MP (p:=p) (f:=f) v p.κ
 have hat:=fun a=>FY (p:=p) hk2 (f:=f) v a
 have hpi:=BD (p:=p) hk2 (f:=f) v
 have oG:=h.jw
 by_cases hp:x.s.H.iG v x.aC.aP=true
 ·rw [aZ hp]
  have hp2:HS.iG { p.H with co:=f } v p.κ=true:=by rw [<- hH,<- oG];exact hp
  have hbv:=(hpi.1 hp2).1
  have hH1:x.s.H.eF v x.aC.aP=HS.eF { p.H with co:=f } v p.κ:=by rw [hH,oG]
  have hat1:∀ a,(x.s.H.eF v x.aC.aP).co a=if a=v/\p.H.bn v=true then p.kb else x.s.H.co a:=fun a=>by rw [hH1,hat a,hco]
  generalize hHH:x.s.H.eF v x.aC.aP=H' at *
  have hmono:∀ a,p.H.bn a=true->x.s.H.co a=p.kb->H'.co a=p.kb:=fun a ha hc=>by
   rw [hat1 a]
   split
   ·rfl
   ·exact hc
  have tH:∀ u,p.kE x.s.H.co v u->p.kE H'.co (dO t) u:=fun u hu hb=>by
   rcases hu hb with g|g
   ·exact .inl (hmono u hb g)
   ·refine .inl ?_
    rw [hat1 u,aZ ⟨g,by rw [<- g];exact hb⟩]
  have hok':∀ u,p.kE x.s.H.co (dO x.aC.next) u->p.kE H'.co (dO t) u:=fun u hu=>tH u (by rw [hd] at hu;exact hu)
  have hpush:∃ (st:List Nat) (ov:Bool),({ x.aC with dP:=true }:CS).push v={ x.aC with dP:=true,bD:=st,over:=ov }/\(∀ a∈st,a∈x.aC.bD\/a=v)/\(∀ a∈x.aC.bD,a∈st)/\(x.aC.over=true->ov=true)/\(v∈st\/ov=true):=by
   unfold CS.push
   simp only
   split
   ·exact ⟨x.aC.bD,true,rfl,fun a ha => .inl ha,fun a ha=>ha,fun _=>rfl,.inr rfl⟩
   ·refine ⟨x.aC.bD++[v],x.aC.over,rfl,fun a ha=>?_,fun a ha=>alp _ ha,fun ho=>ho,.inl (alq _ (alo.2 rfl))⟩
    rcases aln.1 ha with g|g
    ·exact .inl g
    ·exact .inr (alo.1 g)
  obtain ⟨st,ov,hpe,s1,s2,s3,s4⟩:=hpush
  rw [hpe]
  refine ⟨h.k2,h.mu8,by rw [hH1];exact Uc,h.aG,h.tY,h.box,h.jw,h.rY,h.uG,h.bd,fun i m hm=>?_,fun i hi hq=>?_,h.ph,hts,hst,fun a ha=>?_,h.tZ,fun a ha hc=>?_,CP.ng tH _ mM,fun h4 j hj=>tH _ (lS h4 j hj),?_,bx,fun hh=>?_,fun hh=>?_,h.q⟩
  ·exact (h.gW i m hm).aC rfl hok' (fun _ hv => .inl hv)
  ·have hq':x.s.B.bF (i:Int)=true:=hq
   rw [h.pz hn hi] at hq';cases hq'
  ·rcases s1 a ha with g|g
   ·exact h.bD a g
   ·rw [g];exact hgv hbv
  ·have hc':H'.co a=p.kb:=hc
   rw [hat1 a] at hc'
   split at hc'
   ·rename_i e;rw [e.1];exact hgv hbv
   ·exact h.wo a ha hc'
  ·rcases yJ with hw|hc
   ·refine .inl ?_
    rcases hw with hw|hw|hw
    ·exact .inl hw
    ·exact .inr (.inl (s3 hw))
    ·exact .inr (.inr hw)
   ·rcases s4 with g|g
    ·refine .inr fun a ha hca=>?_
     have acV:H'.co a=p.kb:=hca
     rw [hat1 a] at acV
     split at acV
     ·rename_i e;rw [e.1];exact .inl g
     ·rcases hc a ha acV with q|q|q
      ·exact .inl (s2 a q)
      ·exact .inr (.inl q)
      ·exact .inr (.inr fun j hj=>tH _ (q j hj))
    ·exact .inl (.inr (.inl g))
  ·have hh':rQ t=true:=hh
   rw [hla] at hh';cases hh'
  ·have hh':t = .fP:=hh
   rw [hh'] at hla;cases hla
 ·rw [aT hp]
  have tH:∀ u,p.kE x.s.H.co v u->p.kE x.s.H.co (dO t) u:=fun u hu hb=>by
   rcases hu hb with g|g
   ·exact .inl g
   ·refine .inl ?_
    rw [<- g] at hp
    by_cases e:x.s.H.co u=p.kb
    ·exact e
    ·exfalso
     apply hp
     rw [hH,oG]
     exact (BD (p:=p) hk2 (f:=f) u).2 ⟨hb,by rw [<- hco];exact e⟩
  refine h.go (d:=t) (st:=x.aC.bD) hn hlw (fun u hu=>tH u (by rw [hd] at hu;exact hu)) hts hst h.bD (CP.ng tH _ mM) (fun h4 j hj=>tH _ (lS h4 j hj)) (fun a ha hc hq=>?_) bx (fun hh=>?_) (fun hh=>?_)
  ·rw [hd] at hq
   rcases hq with q|q|q
   ·exact .inl q
   ·exact .inr (.inl q)
   ·exact .inr (.inr fun j hj=>tH _ (q j hj))
  ·rw [hla] at hh;cases hh
  ·rw [hh] at hla;cases hla
end
end
end Go.Proofs.YtanfphjoebobaaaGreatDoor
