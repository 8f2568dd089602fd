/- Parts of the walk. No conditions. -/
import Derived.Test.YtobfpmijbfgmeabGreatDoorZzgj
namespace Go.Proofs.YtobfpmijbfgmeabGreatDoor
open _root_.Bool renaming eq_false_iff->acY
open _root_.Go.Addr renaming add->acV
open _root_.List renaming all_eq_true->acp,eq_nil_of_length_eq_zero->acW,getD_eq_getElem?_getD->ace,getElem?_eq_some_iff->abl,replicate->abn
open _root_.Nat renaming eq_zero_or_pos->acX,le_refl->abg,le_trans->abh,mul_le_mul->abC
open _root_.Go.Proofs.Tryz hiding prog
open _root_.Go.Proofs.Tryz renaming prog->ay
set_option maxRecDepth 100000
set_option maxHeartbeats 4000000
section
open Go.RowKit
theorem jd {cur n below e:Int} (he:e≠0) (h:bY cur n below e=0):cur=0/\0<=n/\n<below:=by
 unfold bY at h
 split at h
 ·exact absurd h he
 ·rename_i h1
  subst h
  simp at h1
  omega
theorem SH {c:aS} {o:bQ} (h:dG c o=0):kD o.k=true/\oN c o (l7 o.k).length=0:=by
 unfold dG at h
 split at h
 ·rename_i h1
  simp at h1
  exact ⟨h1.2,h⟩
 ·simp at h
theorem jE {c:aS} {o:bQ} (h:dG c o=0) :
 (o.k=1/\(0<=o.a/\o.a<c.r)/\(0<=o.b/\o.b<16))\/(o.k=2/\(0<=o.a/\o.a<c.r)/\(0<=o.b/\o.b<c.r))\/(o.k=3/\(0<=o.a/\o.a<c.r)/\(0<=o.c/\o.c<c.r)) \/
 (o.k=4/\(0<=o.a/\o.a<c.r)/\(0<=o.b/\o.b<c.c))\/(o.k=5/\(0<=o.a/\o.a<c.c)/\(0<=o.b/\o.b<c.r))\/(o.k=6/\(0<=o.a/\o.a<c.r))\/(o.k=7/\(0<=o.a/\o.a<c.r)/\(0<=o.b/\o.b<c.r))\/o.k=8:=by
 obtain ⟨h1,h2⟩:=SH h
 obtain ⟨k,a,b,d⟩:=o
 simp only at *
 simp [kD] at h1
 have e:k=1\/k=2\/k=3\/k=4\/k=5\/k=6\/k=7\/k=8:=by omega
 rcases e with rfl|rfl|rfl|rfl|rfl|rfl|rfl|rfl
 ·have e:l7 1=[114,115]:=rfl
  simp only [e,List.length_cons,List.length_nil,oN,eu,qJ] at h2
  simp at h2
  obtain ⟨h3,h4⟩:=jd (by decide) h2
  have h5:=(jd (by decide) h3).2
  exact .inl ⟨rfl,h5,h4⟩
 ·have e:l7 2=[114,114,102]:=rfl
  simp only [e,List.length_cons,List.length_nil,oN,eu,qJ] at h2
  simp at h2
  obtain ⟨h3,h4⟩:=jd (by decide) h2
  have h5:=(jd (by decide) h3).2
  exact .inr (.inl ⟨rfl,h5,h4⟩)
 ·have e:l7 3=[114,102,114]:=rfl
  simp only [e,List.length_cons,List.length_nil,oN,eu,qJ] at h2
  simp at h2
  obtain ⟨h3,h4⟩:=jd (by decide) h2
  have h5:=(jd (by decide) h3).2
  exact .inr (.inr (.inl ⟨rfl,h5,h4⟩))
 ·have e:l7 4=[114,99]:=rfl
  simp only [e,List.length_cons,List.length_nil,oN,eu,qJ] at h2
  simp at h2
  obtain ⟨h3,h4⟩:=jd (by decide) h2
  have h5:=(jd (by decide) h3).2
  exact .inr (.inr (.inr (.inl ⟨rfl,h5,h4⟩)))
 ·have e:l7 5=[99,114]:=rfl
  simp only [e,List.length_cons,List.length_nil,oN,eu,qJ] at h2
  simp at h2
  obtain ⟨h3,h4⟩:=jd (by decide) h2
  have h5:=(jd (by decide) h3).2
  exact .inr (.inr (.inr (.inr (.inl ⟨rfl,h5,h4⟩))))
 ·have e:l7 6=[114]:=rfl
  simp only [e,List.length_cons,List.length_nil,oN,eu,qJ] at h2
  simp at h2
  have h5:=(jd (by decide) h2).2
  exact .inr (.inr (.inr (.inr (.inr (.inl ⟨rfl,h5⟩)))))
 ·have e:l7 7=[114,114]:=rfl
  simp only [e,List.length_cons,List.length_nil,oN,eu,qJ] at h2
  simp at h2
  obtain ⟨h3,h4⟩:=jd (by decide) h2
  have h5:=(jd (by decide) h3).2
  exact .inr (.inr (.inr (.inr (.inr (.inr (.inl ⟨rfl,h5,h4⟩))))))
 ·exact .inr (.inr (.inr (.inr (.inr (.inr (.inr rfl))))))
end
section
def Nz (R:Nat) (o:bQ):Prop:=0<=o.a/\o.a<R
def xK (R:Nat) (o:bQ):Prop:=Nz R o/\0<=o.b/\o.b<=15
def lM (R:Nat):MD->Prop
 | .nil=>True
 | .gZ _=>True
 | .once _=>True
 | .lX _ _ t=>lM R t
 | .add _ t=>lM R t
 | .oG _ t=>lM R t
 | .iD _ _ t=>lM R t
 | .mW t=>lM R t
 | .field _ _ t=>lM R t
 | .load o _=>Nz R o
 | .get o=>Nz R o
 | .jC _ _=>True
 | .last _=>True
 | .alloc o k=>xK R o/\k<4
 | .assign o k=>xK R o/\k<4
 | .iQ o _=>xK R o
 | .iK o k=>xK R o/\k<4
 | .ig o k=>xK R o/\k<4
 | .fD _ _ t=>lM R t
 | .fill o _=>xK R o
 | .zero o _ i=>xK R o/\(i:Int)<=o.b
def oK (s:Sh):Prop:=∀ k:Nat,∀ x∈s.Q.rw k,0<=x/\s.H.K.getD x.toNat 0≠0
theorem oK.heap {s:Sh} {H:HS} (h:oK s) (hK:∀ x,s.H.K.getD x 0≠0->H.K.getD x 0≠0):oK { s with H:=H }:=fun k x hx=>⟨(h k x hx).1,hK _ (h k x hx).2⟩
section
variable {H:HS}
theorem Lr (k:Nat):(H.dh k).2.2.K=H.K:=by unfold HS.dh;split<;>rfl
theorem Qa (a:Nat):(H.fA a).K=H.K:=by
 unfold HS.fA
 split
 ·rfl
 ·split<;>rfl
theorem SI (a:Nat) (f:Int):(H.jf a f).K=H.K:=by
 unfold HS.jf
 split
 ·rfl
 ·split<;>rfl
theorem VL (a c:Nat):(H.iZ a c).K=H.K:=by unfold HS.iZ;split<;>rfl
theorem VN (a:Nat):(H.lJ a).K=H.K:=by
 unfold HS.lJ
 split
 ·rw [Qa];rfl
 ·rfl
theorem Hr (a:Nat) (f:Int) (v:Nat):(H.dX a f v).K=H.K:=by unfold HS.dX;split<;>rfl
theorem Xl (i:Int) (v:Nat):(H.ng i v).K=H.K:=by unfold HS.ng;split<;>rfl
theorem SL (a c:Nat):(H.iV a c).K=H.K:=by unfold HS.iV;split<;>rfl
theorem Qb (k x:Nat) (h:H.K.getD x 0≠0):(H.bT k).2.2.K.getD x 0≠0:=by
 unfold HS.bT
 split
 ·exact h
 ·rename_i B hB
  show (H.K.set B (k+1)).getD x 0≠0
  by_cases e:B=x
  ·subst e
   have hlt:B<H.K.length:=by
    rcases Nat.lt_or_ge B H.K.length with h1|h1
    ·exact h1
    ·rw [ace,List.getElem?_eq_none h1] at h;exact absurd rfl h
   rw [nV hlt];omega
  ·rw [ug e];exact h
theorem YU (rd:RD):(rd.CV H).K=H.K:=by
 cases rd with
 | field b f v=>exact Hr b f v
 | cell i v=>exact Xl i v
end
theorem oK.same {s:Sh} {H:HS} (h:oK s) (hK:H.K=s.H.K):oK { s with H:=H }:=h.heap (fun x hx=>by rw [hK];exact hx)
theorem Ht {l:List (List Int)} {i j:Nat} {r:List Int} {x:Int} (hr:∀ y∈r,y∈l.getD i []) (h:x∈(l.set i r).getD j []):∃ k,x∈l.getD k []:=by
 rw [ace] at h
 by_cases e:i=j
 ·subst e
  by_cases hlt:i<l.length
  ·rw [List.getElem?_set_self hlt] at h
   exact ⟨i,hr _ h⟩
  ·rw [List.set_eq_of_length_le (by omega),<- ace] at h
   exact ⟨i,h⟩
 ·rw [List.getElem?_set_ne e,<- ace] at h
  exact ⟨j,h⟩
theorem oK.take {s:Sh} (h:oK s) (k:Nat):oK { s with Q:=s.Q.take k }:=fun j x hx=>by
 obtain ⟨i,hi⟩:=Ht (l:=s.Q.rows) (i:=(k:Int).toNat) (j:=j) (r:=(s.Q.row k).drop 1) (fun y hy=>List.mem_of_mem_drop hy) hx
 exact h i x hi
theorem oK.done {s:Sh} (h:oK s):oK { s with Q:=s.Q.tN }:=fun k x hx=>h k x hx
structure qA (N:Nat) (s:Sh) (m:MS):Prop where
 bK:m.bK<2
 dA:m.dA<2
 gU:s.Q.gU<=N
 aU:m.aU.length<=N
 q:oK s
 sp:m.aY<=N
 rl:(m.aI.length:Int)=m.c.r
 nx:lM m.aI.length m.next
structure SK (N:Nat) (m:MS) (r:lZ):Prop where
 bK:r.m.bK<2
 dA:r.m.dA<2
 gU:r.s.Q.gU<=N+1
 aU:r.m.aU.length<=N+1
 q:oK r.s
 nx:lM r.m.aI.length r.next
 c:r.m.c=m.c
 id:r.m.id=m.id
 prog:r.m.prog=m.prog
 pK:r.m.aI.length=m.aI.length
 aY:r.m.aY=m.aY
section
variable {N:Nat} {s:Sh} {m:MS}
structure qV (N:Nat) (s:Sh) (m:MS):Prop where
 bK:m.bK<2
 dA:m.dA<2
 gU:s.Q.gU<=N
 aU:m.aU.length<=N
 q:oK s
 rl:(m.aI.length:Int)=m.c.r
theorem qV.iq (h:qV N s m) {s':Sh} (code:Int) (v:Nat) (ho:s'.Q.gU<=N+1) (hq:oK s'):SK N m (iq s' m code v) :=
 ⟨h.bK,h.dA,ho,by have:=h.aU;show (m.aU++[(code,v)]).length<=N+1;simp;omega,hq,trivial,rfl,rfl,rfl,rfl,rfl⟩
theorem qV.jU (h:qV N s m) {s':Sh} (r:Int) (v:Nat) (ho:s'.Q.gU<=N+1) (hq:oK s'):SK N m (jU s' m r v) :=
 ⟨h.bK,h.dA,ho,by have:=h.aU;show (m.aU++[((0:Int),v)]).length<=N+1;simp;omega,hq,trivial,rfl,rfl,rfl,by show (m.aI.set r.toNat v).length=_;simp,rfl⟩
theorem qV.next (h:qV N s m) {s':Sh} {d:MD} {ev:Option Ev} (ho:s'.Q.gU<=N+1) (hq:oK s') (hd:lM m.aI.length d):SK N m ⟨s',m,d,ev⟩ :=
 ⟨h.bK,h.dA,ho,by have:=h.aU;show m.aU.length<=N+1;omega,hq,hd,rfl,rfl,rfl,rfl,rfl⟩
theorem qV.opn1 (h:qV N s m):s.Q.gU<=N+1:=by have:=h.gU;omega
theorem yY (f:Int):iG f<4:=by unfold iG;(repeat' split)<;>omega
theorem Hu {R:Nat} {c:Nat} {t:MD} (h:lM R t):lM R (m.nJ c t):=by
 unfold MS.nJ
 split<;>exact h
theorem Bl {R:Nat} {v c:Nat} {t:MD} (h:lM R t):lM R (mX v c t):=by
 unfold mX
 split<;>exact h
theorem Ls {R:Nat} {v:Nat} {rd:RD}:lM R (m.ni v rd):=by
 unfold MS.ni
 split<;>trivial
theorem EJ {R:Nat} {o:bQ} {all:List Nat} (h:xK R o):lM R (iC o all):=by
 unfold iC
 split<;>exact h
theorem SN (h:qV N s m) (o:bQ):SK N m (nT s m o):=by
 have d:=fun code v=>h.iq (s':=s) code v h.opn1 h.q
 unfold nT
 split
 ·exact d _ _
 rename_i hc
 have hc':dG m.c o=0:=by simpa using hc
 have ha:o.k=1->xK m.aI.length o:=fun e=>by
  rcases jE hc' with ⟨hk,ha,hb⟩|⟨hk,ha,hb⟩|⟨hk,ha,hb⟩|⟨hk,ha,hb⟩|⟨hk,ha,hb⟩|⟨hk,ha⟩|⟨hk,ha,hb⟩|hk
  ·exact ⟨⟨ha.1,by rw [h.rl];exact ha.2⟩,hb.1,by omega⟩
  all_goals omega
 have hr:o.k=2\/o.k=4->Nz m.aI.length o:=fun e=>by
  rcases jE hc' with ⟨hk,ha,hb⟩|⟨hk,ha,hb⟩|⟨hk,ha,hb⟩|⟨hk,ha,hb⟩|⟨hk,ha,hb⟩|⟨hk,ha⟩|⟨hk,ha,hb⟩|hk
  ·omega
  ·exact ⟨ha.1,by rw [h.rl];exact ha.2⟩
  ·omega
  ·exact ⟨ha.1,by rw [h.rl];exact ha.2⟩
  all_goals omega
 have fd:∀ base f t,lM m.aI.length t->SK N m (jA s m base f t):=fun base f t ht=>by
  unfold jA
  split
  ·exact d _ _
  ·exact h.next h.opn1 h.q ht
 split
 ·rename_i e;exact h.next h.opn1 h.q ⟨ha e,yY _⟩
 split
 ·rename_i e;exact fd _ _ _ (hr (.inl e))
 split
 ·exact fd _ _ _ Ls
 split
 ·rename_i e;exact h.next h.opn1 h.q (hr (.inr e))
 split
 ·exact h.next h.opn1 h.q Ls
 split
 ·exact ⟨h.bK,h.dA,h.opn1,by have:=h.aU;show (m.aU++[((0:Int),0)]).length<=N+1;simp;omega,h.q,trivial,rfl,rfl,rfl,by show (m.aI.set _ _).length=_;simp,rfl⟩
 split
 ·exact h.jU _ _ h.opn1 h.q
 ·exact d _ _
theorem zT (h:qV N s m) (d:MD) (hd:lM m.aI.length d):SK N m (stepM s m d):=by
 have q:=h.q
 have o1:=h.opn1
 cases d with
 | nil=>exact h.next o1 q trivial
 | gZ o=>exact SN h o
 | once k =>
   have hw:=h.dA
   have hc:=h.bK
   have hr:=h.aU
   have hb:oK { s with B:=s.B.rH m.id }:=fun k x hx=>q k x hx
   simp only [stepM,kY]
   repeat' split
   all_goals exact ⟨by simp only<;>omega,by simp only<;>omega,o1,by simp only<;>omega,hb,trivial,rfl,rfl,rfl,rfl,rfl⟩
 | lX v c t =>
   simp only [stepM]
   repeat' split
   ·exact h.next o1 q hd
   ·exact h.next o1 q (Hu hd)
   ·exact ⟨h.bK,h.dA,o1,by have:=h.aU;simp only;omega,q,hd,rfl,rfl,rfl,rfl,rfl⟩
 | add v t =>
   simp only [stepM]
   split
   ·exact h.next o1 q hd
   ·exact ⟨h.bK,h.dA,o1,by have:=h.aU;simp only;omega,q,hd,rfl,rfl,rfl,rfl,rfl⟩
 | oG c t =>
   simp only [stepM]
   split
   ·exact ⟨h.bK,h.dA,o1,by have:=h.aU;simp only;omega,fun k x hx=>q k x hx,hd,rfl,rfl,rfl,rfl,rfl⟩
   ·exact h.next o1 q hd
 | iD c f t =>
   simp only [stepM]
   refine ⟨h.bK,h.dA,o1,by have:=h.aU;simp only;omega,q.same (SL _ _),?_,rfl,rfl,rfl,rfl,rfl⟩
   repeat' split
   all_goals exact hd
 | mW t=>exact h.next o1 (fun k x hx=>q k x hx) hd
 | field base f t =>
   simp only [stepM]
   split
   ·exact h.iq _ _ o1 q
   ·exact h.next o1 q hd
 | load o base=>exact h.jU _ _ o1 q
 | get o=>exact h.jU _ _ o1 q
 | jC v rd =>
   simp only [stepM]
   refine ⟨h.bK,h.dA,o1,by have:=h.aU;simp only;omega,q,?_,rfl,rfl,rfl,rfl,rfl⟩
   refine Bl ?_
   split
   ·exact Bl trivial
   ·trivial
 | last rd=>exact h.iq _ _ o1 (q.same (YU rd))
 | alloc o k =>
   simp only [stepM]
   split
   ·exact h.next o1 (q.same (Lr k)) hd.1
   ·exact h.next o1 q hd
 | assign o k =>
   simp only [stepM]
   split
   ·exact h.next o1 (q.heap (fun x hx=>Qb k x hx)) (EJ hd.1)
   ·exact h.next o1 q hd
 | iQ o all=>exact h.next o1 (q.same (Qa _)) (EJ hd)
 | iK o k =>
   simp only [stepM]
   split
   ·exact h.next o1 q hd
   ·exact h.next (by have:=h.gU;show s.Q.gU+1<=N+1;omega) (q.take k) hd
 | ig o k =>
   simp only [stepM]
   split
   ·exact h.next o1 (q.same (Lr k)) hd.1
   ·exact h.iq _ _ o1 q
 | fD sl c t =>
   cases sl with
   | nil =>
     simp only [stepM]
     refine h.next ?_ ?_ hd
     ·show (if s.Q.gU=0 then s.Q else s.Q.tN).gU<=N+1
      split
      ·exact o1
      ·show s.Q.gU - 1<=N+1;omega
     ·show oK { s with Q:=if s.Q.gU=0 then s.Q else s.Q.tN }
      split
      ·exact q
      ·exact q.done
   | cons a r =>
     simp only [stepM]
     split
     ·exact h.next o1 q hd
     ·exact h.next o1 (q.same (VN a)) hd
 | fill o a=>exact h.next o1 (q.same (SI _ _)) ⟨hd,hd.2.1⟩
 | zero o a i =>
   obtain ⟨hd1,hd2⟩:=hd
   simp only [stepM]
   split
   ·exact h.jU _ _ o1 (q.same (VL _ _))
   ·refine h.next o1 (q.same (Hr _ _ _)) ⟨hd1,?_⟩
    push_cast;omega
theorem Lu {R c:Nat}:∀ l:List Nat,lM R (qK c l)
 | []=>trivial
 | _::l=>Bl (Lu l)
theorem SQ {R:Nat}:lM R (jg s m):=by
 unfold jg
 split
 ·split
  ·exact Lu _
  ·split
   ·exact Hu trivial
   ·trivial
 ·split<;>trivial
theorem DZ (h:qA N s m):qA (N+1) (cu s m).1 (cu s m).2.1/\(cu s m).2.1.c=m.c/\(cu s m).2.1.id=m.id/\(cu s m).2.1.prog=m.prog/\(cu s m).2.1.aI.length=m.aI.length:=by
 unfold cu
 split
 ·exact ⟨⟨h.bK,h.dA,by have:=h.gU;simp only;omega,by have:=h.aU;simp only;omega,h.q,by simp only;omega,h.rl,SQ⟩,rfl,rfl,rfl,rfl⟩
 ·have hs:qV N s { m with aY:=m.aY+1 }:=⟨h.bK,h.dA,h.gU,h.aU,h.q,h.rl⟩
  have r:=zT hs m.next h.nx
  have sp:(stepM s { m with aY:=m.aY+1 } m.next).m.aY<=N+1:=by rw [r.aY];have:=h.sp;simp only;omega
  have rl:((stepM s { m with aY:=m.aY+1 } m.next).m.aI.length:Int)=(stepM s { m with aY:=m.aY+1 } m.next).m.c.r:=by rw [r.pK,r.c];exact h.rl
  generalize stepM s { m with aY:=m.aY+1 } m.next=R at *
  have rn:=r.nx
  simp only
  split
  ·unfold MS.most
   split
   ·exact ⟨⟨r.bK,r.dA,r.gU,r.aU,r.q,sp,rl,trivial⟩,r.c,r.id,r.prog,r.pK⟩
   ·exact ⟨⟨r.bK,r.dA,r.gU,r.aU,r.q,sp,rl,trivial⟩,r.c,r.id,r.prog,r.pK⟩
  ·exact ⟨⟨r.bK,r.dA,r.gU,r.aU,r.q,sp,rl,rn⟩,r.c,r.id,r.prog,r.pK⟩
end
def Sh.aW (c:aS) (b ww nc n:Nat):Sh:=⟨HS.aW c b ww nc,Bd.aW (n:Int),⟨[[],[],[],[]],0⟩,false,abn n []⟩
def MS.aW (c:aS) (id:Nat) (prog:List bQ):MS:=⟨id,c,abn c.r.toNat 0,[],0,0,0,prog,[],.nil,0,0,0,0,false⟩
theorem oK.aW (c:aS) (b ww nc n:Nat):oK (Sh.aW c b ww nc n):=fun k x hx=>by
 have:([[],[],[],[]]:List (List Int)).getD k []=[]:=by
  match k with
  | 0=>rfl
  | 1=>rfl
  | 2=>rfl
  | 3=>rfl
  | k+4=>rfl
 unfold Qu.rw Sh.aW at hx
 simp only at hx
 rw [this] at hx
 cases hx
theorem qA.first {s:Sh} {c:aS} (id:Nat) (prog:List bQ) (hq:oK s) (ho:s.Q.gU=0) (hr:0<=c.r):qA 0 s (MS.aW c id prog) :=
 ⟨(by show 0<2;decide),(by show 0<2;decide),by omega,by simp [MS.aW],hq,abg _,by simp only [MS.aW,List.length_replicate];omega,trivial⟩
def jq:Nat->Sh->MS->Sh × MS
 | 0,s,m=>(s,m)
 | n+1,s,m=>((cu (jq n s m).1 (jq n s m).2).1,(cu (jq n s m).1 (jq n s m).2).2.1)
def jG (m:MS):Bool:=dR m.next&&decide (m.aU.length=m.prog.length)
theorem Hw {N:Nat} {s:Sh} {m:MS} (h:qA N s m):∀ n,qA (N+n) (jq n s m).1 (jq n s m).2/\(jq n s m).2.c=m.c/\(jq n s m).2.id=m.id/\(jq n s m).2.prog=m.prog/\(jq n s m).2.aI.length=m.aI.length
 | 0=>⟨h,rfl,rfl,rfl,rfl⟩
 | n+1=>by
   obtain ⟨h1,h2,h3,h4,h5⟩:=Hw h n
   obtain ⟨g1,g2,g3,g4,g5⟩:=DZ h1
   exact ⟨g1,g2.trans h2,g3.trans h3,g4.trans h4,g5.trans h5⟩
def Qc:aS:=⟨1,16,1,2,0,1,1⟩
def qW:Sh:=Sh.aW Qc 1 16 0 1
def su:MS:=MS.aW Qc 0 [⟨1,0,1,0⟩,⟨7,1,0,0⟩]
theorem Hy:(jq 16 qW su).2.aU=[(0,1),(0,1)]:=by decide +kernel
theorem LC:∀ i,i<17->jG (jq i qW su).2=decide (i=16):=by decide +kernel
end
section
open Go.RowKit
theorem Tryz.infoI:(ay.info? 3).map (fun i=>(i.zero,i.size,i.bytes))=some (some (ah 0),1,8):=by kernel_rfl
theorem uM (a:Option Addr) (n c:Nat) (xs:List Value) (w:World) (h:Cells w a n xs) (hnil:a=none->c=0) (hm:n<=4000000000000) (h1:∀ u∈xs,u.oneCell'=true) :
 Calls ay 50 #[.slice a n c] w fun e w'=>∃ v',e = .returned v'/\w'.ownsRow w.heap.size 3 1 v' n xs/\aj aA w w':=by
 obtain ⟨rfl,hc⟩:=h
 cases a with
 | none =>
   have h0:xs=[]:=by
    cases xs with
    | nil=>rfl
    | cons x xs=>obtain ⟨b,off,e,_⟩:=hc (by simp);cases e
   subst h0
   obtain rfl:=hnil rfl
   simp only [List.length_nil]
   clear hc hm hnil h1
   have hn:=fun w=>Lib.run_eql_slice_nil (P:=ay) w 35 3 none 0 0 0 0 Tryz.underlying35
   go_enter func50,ntmps50
   go_wp2
   go_ret
   exact ⟨_,rfl,World.ownsRow_nil _ _ _ _,aj.refl _ _⟩
 | some ad =>
   have hn:=fun w=>Lib.run_eql_slice_nil (P:=ay) w 35 3 (some ad) xs.length c 0 0 Tryz.underlying35
   obtain ⟨i0,hi1,hi2,hi3,hi4⟩:=info_parts Tryz.infoI
   have hw0:∀ w:World,(w.alloc (.cells #[] 3)).ownsRow w.heap.size 3 1 (.slice (some ⟨w.heap.size,0,none⟩) 0 0) 0 []:=fun w=>World.ownsRow_made w #[] 0 (abg _) (by decide) rfl
   have hcell:∀ (j:Nat) (u:Value),xs[j]?=some u->(w.alloc (.cells #[] 3)).cell? (ad.add j)=some u:=fun j u hj=>by
    have hjl:=(abl.1 hj).1
    obtain ⟨b,off,e,hx⟩:=hc (by omega)
    injection e with e
    subst e
    have hcl:=hx j u hj
    have ea:(⟨b,off,none⟩:Addr).add j=⟨b,off+j,none⟩:=by simp only [acV];split<;>simp_all
    rw [ea,World.cell?_alloc_lt _ _ _ (World.block_lt_of_cell? _ _ hcl)]
    exact hcl
   have HC:=au hcell
   have HU:=au h1
   clear hcell hc h1
   go_enter func50,ntmps50
   go_wp2_with (at_builtin;refine wpList_append_own _ rfl _ _ 35 rfl w.heap.size 3 i0 (ah 0) 1 8 Tryz.underlying35 hi1 hi2 hi3 hi4 rfl (by decide) _ _ _ rfl (hw0 w) ad xs.length c xs rfl (by simp) HC.out HU.out (by unfold maxLen;omega) (by omega) (by simp) ?_;intro v' w1 hown hgr _)
   have hown':w1.ownsRow w.heap.size 3 1 v' xs.length xs:=by simpa using hown
   have hkeep:aj aA w w1:=((aj.refl aA w).alloc _).jJ hgr (fun k e hk=>absurd hk (by have e':w.heap.size=k:=Option.some.inj e;omega))
   clear hown hgr
   go_wp2
   go_ret
   exact ⟨_,rfl,hown',hkeep⟩
end
section
attribute [local go_sem ↓] mD
attribute [local go_sem] Oper.semAt_some
open Go.RowKit
theorem VO {P:Program} {o:Ow} (w:World) (t ty e:TypeId) (ht:P.underlying t=some (.slice e)) {z:Value} {bytes:Nat} (hi:(P.info? e).map (fun i=>(i.zero,i.size,i.bytes))=some (some z,1,bytes)) (hzs:z.cells.size=1)
 {a:Option Addr} {n:Nat} {xs:List Value} (hrow:dI o w e (.slice a n n) xs) (hnil:a=none->n=0) {N:Nat} {u:Value} (hN:w.cell? ⟨N,0,none⟩=some u) (hu:u.oneCell'=true) (hb:bytes<=1000) (hn:n<=100000000000) :
 ∃ g aJ w',(Builtin.append_ #[t,t] ty #[.slice a n n,.slice (some ⟨N,0,none⟩) 1 1]).run P w = .ok (.slice (some ⟨g,0,none⟩) (n+1) aJ) w'/\w'.ownsRow w.heap.size e 1 (.slice (some ⟨g,0,none⟩) (n+1) aJ) (n+1) (xs++[u])/\w.grownBy w' none/\w.heap.size<=g:=by
 obtain ⟨i,hi1,hi2,hi3,hi4⟩:=info_parts hi
 have hbytes:(n+1)*bytes<=140737488355328:=abh (abC (show n+1<=100000000001 by omega) hb) (by decide)
 have hnews:∀ j x,[u][j]?=some x->w.cell? ((⟨N,0,none⟩:Addr).add j)=some x:=by
  intro j x hj
  cases j with
  | zero=>simp at hj;subst hj;simpa [acV] using hN
  | succ j=>simp at hj
 have h1:∀ x∈[u],x.oneCell'=true:=by simpa using hu
 have shape:∀ {v':Value} {W:World} {B:Nat},W.ownsRow B e 1 v' (n+1) (xs++[u])->∃ g aJ,v' = .slice (some ⟨g,0,none⟩) (n+1) aJ/\B<=g:=by
  intro v' W B h
  rcases h.2 with ⟨_,h0⟩|⟨g,aJ,cur,rfl,hB,_⟩
  ·omega
  ·exact ⟨g,aJ,rfl,hB⟩
 obtain ⟨a',c',ee,hl,hm,hc⟩:=hrow
 simp only [Value.slice.injEq] at ee
 obtain ⟨rfl,hnx,rfl⟩:=ee
 cases a with
 | none =>
   have h0:=hnil rfl
   subst h0
   have hx:xs=[]:=acW hnx.symm
   subst hx
   have hown':w.ownsRow w.heap.size e 1 (.slice none 0 0) 0 []:=⟨rfl,.inl ⟨rfl,rfl⟩⟩
   obtain ⟨v',w',hr,h2,h3,_⟩:=run_append_own (P:=P) w w.heap.size t ty e i z 1 bytes ht hi1 hi2 hi3 hi4 hzs (by decide) _ 0 [] hown' ⟨N,0,none⟩ 1 1 [u] rfl hnews h1 (by unfold maxLen;omega) hbytes (abg _)
   obtain ⟨g,aJ,rfl,hB⟩:=shape h2
   exact ⟨g,aJ,w',hr,h2,h3,hB⟩
 | some ad =>
   have holds:∀ j x,xs[j]?=some x->w.cell? (ad.add j)=some x:=fun j x hj=>by
    have hlt:=(abl.1 hj).1
    obtain ⟨b,off,cs,e1,_,hb1,hj2⟩:=hc (by omega)
    cases e1
    have ea:(⟨b,off,none⟩:Addr).add j=⟨b,off+j,none⟩:=by simp only [acV];split<;>simp_all
    rw [ea]
    exact hb1.cell _ ((hj2 j hlt).trans hj)
   obtain ⟨v',w',hr,h2,h3⟩:=run_append_arg_grows (P:=P) w t ty e i z 1 bytes ht hi1 hi2 hi3 hi4 hzs (by decide) ad n n xs (by omega) holds ⟨N,0,none⟩ 1 1 [u] rfl hnews (by omega) (by unfold maxLen;omega) hbytes
   obtain ⟨g',cap',rfl,hB⟩:=shape h2
   exact ⟨g',cap',w',hr,h2,h3,hB⟩
def NC (v:Value):Prop:=∀ n c,v = .slice none n c->c=0
def dZ (o:Ow) (w:World) (b:Nat) (T:TypeId) (rest:List Value) (xs:List Nat):Prop:=o b≠0/\∃ v,aB w b (v::rest) T/\dI o w 3 v (bg xs)/\NC v
section
variable {o:Ow} {w w':World} {b:Nat} {T:TypeId} {rest:List Value} {xs:List Nat}
theorem dZ.aH {S:Nat->Prop} (h:dZ o w b T rest xs) (k:aj S w w') (hb:¬ S b) (h0:∀ x,o x=0->¬ S x):dZ o w' b T rest xs:=by
 obtain ⟨ho,v,h1,h2,h3⟩:=h
 exact ⟨ho,v,k.aC h1 hb,h2.aH k h0,h3⟩
theorem dZ.still (h:dZ o w b T rest xs) (k:aj aA w w'):dZ o w' b T rest xs:=h.aH k (fun f=>f) (fun _ _ f=>f)
theorem dZ.ext {o':Ow} (h:dZ o w b T rest xs) (e:dL w o o'):dZ o' w b T rest xs:=by
 obtain ⟨ho,v,h1,h2,h3⟩:=h
 exact ⟨by rw [e b h1.lt];exact ho,v,h1,h2.ext e,h3⟩
theorem dZ.form (h:dZ o w b T rest xs):∃ a c,w.cell? ⟨b,0,none⟩=some (.slice a xs.length c)/\dI o w 3 (.slice a xs.length c) (bg xs)/\aB w b (.slice a xs.length c::rest) T/\xs.length<=c/\xs.length<=4000000000000/\w.frozen? ⟨b,0,none⟩=false/\(a=none->c=0):=by
 obtain ⟨ho,v,h1,h2,h3⟩:=h
 obtain ⟨a,c,rfl,hl,hm,hc⟩:=id h2
 have e:(bg xs).length=xs.length:=by simp [bg]
 rw [e] at h1 h2 hl hm
 exact ⟨a,c,h1.cell 0 rfl,h2,h1,hl,hm,h1.free 0,fun e=>h3 _ c (by rw [e])⟩
theorem dZ.set (h:dZ o w b T rest xs) {v:Value} {ys:List Nat} (hv:dI o w 3 v (bg ys)) (hn:NC v):dZ o (w.setCell ⟨b,0,none⟩ v) b T rest ys:=by
 obtain ⟨ho,u,h1,h2,h3⟩:=h
 exact ⟨ho,v,h1.set 0 v,hv.F7 ((aj.refl _ _).put 0 v) ho,hn⟩
theorem rV (h:dZ o w b T rest xs):Calls ay 153 #[ak b] w fun e w'=>e = .returned (ah (xs.length:Int))/\w=w':=by
 obtain ⟨a,c,hc,_⟩:=h.form
 clear h
 go_enter func153,ntmps153
 go_wp2_with fail
 go_ret
 exact ⟨rfl,rfl⟩
theorem Qd (h:dZ o w b T rest xs):Calls ay 154 #[ak b] w fun e w'=>∃ v,e = .returned v/\w'.ownsRow w.heap.size 3 1 v xs.length (bg xs)/\aj aA w w':=by
 obtain ⟨a,c,hc,hr,hb,hl,hm,_,hnil⟩:=h.form
 have HC:=au (uM a xs.length c (bg xs) w (hr.toV.toCells) hnil hm (fun u hu=>by obtain ⟨z,_,rfl⟩:=List.mem_map.1 hu;rfl))
 clear h hnil hr hb hl hm
 go_enter func154,ntmps154
 go_wp2_with (go_at_call 50;refine HC.out.mono ?_;rintro e w1 ⟨v,rfl,ho,hk⟩;have HO:=au ho;have HK:=au hk;clear ho hk)
 go_ret
 exact ⟨v,rfl,HO.out,HK.out⟩
theorem ND (h:dZ o w b T rest []):Calls ay 182 #[ak b] w fun e w'=>e = .returned (.tuple #[ah 0,.bool false])/\w=w':=by
 obtain ⟨a,c,hc,_⟩:=h.form
 clear h
 go_enter func182,ntmps182
 go_wp2_with fail
 go_ret2
 exact ⟨rfl,rfl⟩
theorem JQ (x:Nat) (h:dZ o w b T rest (x::xs)):Calls ay 182 #[ak b] w fun e w'=>e = .returned (.tuple #[ah (x:Int),.bool true])/\dZ o w' b T rest xs/\aj (only b) w w':=by
 obtain ⟨a,c,hc,hr,hb,hl,hm,hf,_⟩:=h.form
 simp only [List.length_cons] at hc hr hb hl hm
 have hcut:=hr.cut 1 (by omega)
 rw [show (bg (x::xs)).drop 1=bg xs from rfl] at hcut
 obtain ⟨a',c',ee,_,_,hcell⟩:=hr.form
 simp only [Value.slice.injEq] at ee
 obtain ⟨e1,e9,e2⟩:=ee
 subst e1;subst e2
 obtain ⟨b',off',rfl,hx⟩:=hcell 0 (ah (x:Int)) rfl
 rw [Nat.add_zero] at hx
 clear e9
 have hset:=h.set hcut (fun n c' e=>by unfold sH at e;split at e<;>cases e)
 have NG:=fun w=>KU (P:=ay) (T:=35) (e:=3) (by kernel_rfl) (by kernel_rfl) (some ⟨b',off',none⟩) (xs.length+1) c 1 (by omega) w
 have hne:(((xs.length+1:Nat):Int)==0)=false:=by simp;omega
 have hpos:(0:Int)<((xs.length+1:Nat):Int):=by omega
 have HS:Hid (dZ o (w.setCell ⟨b,0,none⟩ (.slice (sH (some ⟨b',off',none⟩) c 1) (xs.length+1 - 1) (c - 1))) b T rest xs):=hset
 simp only [show (((1:Nat)):Int)=1 from rfl] at NG
 generalize hL:xs.length+1=L at *
 have HL:=au hL
 generalize sH (some ⟨b',off',none⟩) c 1=ca at *
 clear h hr hb hl hm hcut hset hcell hL
 go_enter func182,ntmps182
 go_wp2_with fail
 go_ret2
 exact ⟨rfl,HS.out,(aj.refl (only b) _).put _ _⟩
theorem Qe (h:dZ o w b T rest xs) (x:Nat) (hf0:jS o w) (hm:xs.length<=100000):Calls ay 152 #[ak b,ah (x:Int)] w fun e w'=>e = .returned (.tuple #[])/\dZ o w' b T rest (xs++[x])/\aj (only b) w w':=by
 obtain ⟨a,c,hc,hr,hb,hl,_,hf,_⟩:=h.form
 obtain ⟨n,hn⟩:∃ n,n=xs.length:=⟨_,rfl⟩
 rw [<- hn] at hc hr hb hl hm
 obtain ⟨W1,hW1⟩:∃ W',W'=(w.alloc (.cells #[ah (x:Int)] 3)).drew:=⟨_,rfl⟩
 have hk1:aj aA w W1:=by rw [hW1];exact ((aj.refl _ _).alloc _).drew
 have hr1:dI o W1 3 (.slice a n n) (bg xs):=by
  obtain ⟨a',c',ee,_,hm2,hc2⟩:=hr.still hk1
  simp only [Value.slice.injEq] at ee
  obtain ⟨rfl,hnl,rfl⟩:=ee
  exact ⟨a,n,by rw [<- hnl],by omega,by omega,hc2⟩
 have hnil:a=none->n=0:=fun e=>by
  rcases acX n with h0|h0
  ·exact h0
  ·obtain ⟨_,_,_,h1⟩:=hr.toV.cells
   obtain ⟨b',off,e2,_⟩:=h1 h0
   rw [e] at e2;cases e2
 have hsl:∀ W:World,(Instr.slice 35 (.slice a n c) none (some (ah (n:Int))) (some (ah (n:Int)))).run ay W = .ok (.slice a n n) W:=fun W=>by
  have ht:ay.underlying 35=some (.slice 3):=by kernel_rfl
  have hi:(ay.info? 3).map (·.size)=some 1:=by kernel_rfl
  obtain ⟨i,hi1,hi2⟩:=Option.map_eq_some_iff.1 hi
  have h1:¬ c<n:=by omega
  cases a with
  | none =>
    simp [Instr.slice,run_underlying ht,sizeOf,typeInfo,hi1,go_sem,h1]
  | some ad =>
    simp [Instr.slice,run_underlying ht,sizeOf,typeInfo,hi1,hi2,go_sem,h1,acV]
 obtain ⟨g,aJ,w5,hrun,hown,hgr,hge⟩:=VO (P:=ay) W1 35 35 3 (by kernel_rfl) Tryz.infoInt rfl hr1 hnil (N:=w.heap.size) (u := ah (x:Int)) (by rw [hW1];exact ((aB.aW w _ _).drew).cell 0 rfl) rfl (by decide) (by omega)
 have hrun9:(app9 #[35,35] 35 #[.slice a n n,.slice (some ⟨w.heap.size,0,none⟩) 1 1]).run ay (w.alloc (.cells #[ah (x:Int)] 3)).drew = .ok (.slice (some ⟨g,0,none⟩) (n+1) aJ) w5:=by rw [<- hW1];exact hrun
 have hk5:aj aA w w5:=hk1.trans ⟨hgr.os,hgr.tape,hgr.output,hgr.size,fun k hk _=>hgr.block k hk (by simp)⟩
 have hrow5:dI o w5 3 (.slice (some ⟨g,0,none⟩) (n+1) aJ) (bg (xs++[x])):=by
  have h9:w5.ownsRow W1.heap.size 3 1 (.slice (some ⟨g,0,none⟩) (n+1) aJ) (n+1) (bg (xs++[x])):=by
   have e:bg (xs++[x])=bg xs++[ah (x:Int)]:=by simp [bg]
   rw [e];exact hown
  exact dI.qc h9 (by omega) (fun b hb=>hf0 b (abh hk1.size hb))
 have c5:=hk5.still hc
 have f5:=(hk5.aC hb (fun f=>f)).free 0
 have gI:Hid (dZ o (w5.setCell ⟨b,0,none⟩ (.slice (some ⟨g,0,none⟩) (n+1) aJ)) b T rest (xs++[x])/\aj (only b) w (w5.setCell ⟨b,0,none⟩ (.slice (some ⟨g,0,none⟩) (n+1) aJ))) :=
  ⟨(h.still hk5).set hrow5 (fun _ _ e=>by cases e),(hk5.mono (fun _ _ f=>f.elim)).put 0 _⟩
 have hlt:b<w.heap.size:=hb.lt
 have hc1:∀ o,(w.alloc o).cell? ⟨b,0,none⟩=some (.slice a n c):=fun o=>((aj.refl aA w).alloc o).still hc
 have hn0:(n:Int)<=100000:=by omega
 clear h hr hb hl hf hk1 hr1 hnil hrun hown hgr hge hk5 hrow5 hf0 hm hn hW1
 go_enter func152,ntmps152
 go_region
 all_goals
  go_wp2_with fail
  go_end0
  exact ⟨rfl,gI.out.1,gI.out.2⟩
end
end
section
open Go.RowKit
def ny (o:Ow) (w:World):List (List Value × TypeId)->List Nat->Prop
 | [],bs=>bs=[]
 | (cs,T)::l,bs=>∃ b r,bs=b::r/\o b=0/\aB w b cs T/\ny o w l r
abbrev aF (b:Nat):Value := ak b
def dH (o:Ow) (w:World) (fn:Nat) (l:List (List Value × TypeId)) (v:Value):Prop:=∃ bs,v = .func (.func fn) #[] (bs.map aF).toArray/\ny o w l bs
section
variable {o:Ow} {w w':World}
theorem ny.aH {S:Nat->Prop} (k:aj S w w') (h0:∀ b,o b=0->¬ S b):∀ {l:List (List Value × TypeId)} {bs:List Nat},ny o w l bs->ny o w' l bs
 | [],_,h=>h
 | (cs,T)::l,bs,h=>by
   obtain ⟨b,r,e,h1,h2,h3⟩:=h
   exact ⟨b,r,e,h1,k.aC h2 (h0 b h1),ny.aH k h0 h3⟩
theorem ny.ext {o':Ow} (e:dL w o o'):∀ {l:List (List Value × TypeId)} {bs:List Nat},ny o w l bs->ny o' w l bs
 | [],_,h=>h
 | (cs,T)::l,bs,h=>by
   obtain ⟨b,r,e1,h1,h2,h3⟩:=h
   exact ⟨b,r,e1,(e b h2.lt).trans h1,h2,ny.ext e h3⟩
theorem dH.aH {S:Nat->Prop} {fn:Nat} {l:List (List Value × TypeId)} {v:Value} (h:dH o w fn l v) (k:aj S w w') (h0:∀ b,o b=0->¬ S b):dH o w' fn l v:=by
 obtain ⟨bs,e,hc⟩:=h
 exact ⟨bs,e,hc.aH k h0⟩
theorem dH.ext {o':Ow} {fn:Nat} {l:List (List Value × TypeId)} {v:Value} (h:dH o w fn l v) (e:dL w o o'):dH o' w fn l v:=by
 obtain ⟨bs,e1,hc⟩:=h
 exact ⟨bs,e1,hc.ext e⟩
end
def nK (o:Ow) (w:World) (M:Nat):RD->Value->Prop
 | .field base f _,v=>∃ op:bQ,op.b=f/\dH o w 170 [([aF M],31),([ah (base:Int)],3),(op.cells,45)] v
 | .cell i _,v=>∃ op:bQ,op.a=i/\dH o w 176 [([aF M],31),(op.cells,45)] v
def nN (o:Ow) (w:World) (M:Nat):RD->Value->Prop
 | .field base f x,v=>∃ op:bQ,op.b=f/\dH o w 172 [([aF M],31),([ah (base:Int)],3),(op.cells,45),([ah (x:Int)],3)] v
 | .cell i x,v=>∃ op:bQ,op.a=i/\dH o w 177 [([aF M],31),(op.cells,45),([ah (x:Int)],3)] v
def jF (o:Ow) (w:World) (M:Nat) (rd:RD) (v:Value):Prop:=∃ wv,nN o w M rd wv/\dH o w 195 [([wv],1),([aF M],31)] v
def bG (o:Ow) (w:World) (Nt M:Nat):MD->Value->Prop
 | .nil,v=>v = .nilFunc
 | .gZ op,v=>dH o w 68 [([aF M],31),(op.cells,45)] v
 | .once k,v=>∃ dv,dH o w 119 [([dv],1)] v/\(if k=1 then ∃ lv,dH o w 94 [([lv],1),([aF M],31)] dv/\dH o w 96 [([aF M],31)] lv
  else if k=2 then ∃ lv,dH o w 94 [([lv],1),([aF M],31)] dv/\dH o w 98 [] lv
  else if k=3 then ∃ lv,dH o w 94 [([lv],1),([aF M],31)] dv/\dH o w 99 [([aF M],31)] lv
  else if k=5 then ∃ lv,dH o w 94 [([lv],1),([aF M],31)] dv/\dH o w 103 [([aF M],31)] lv
  else ∃ lv,dH o w 94 [([lv],1),([aF M],31)] dv/\dH o w 104 [([aF M],31)] lv)
 | .lX x c t,v=>∃ tv av,bG o w Nt M t tv/\dH o w 121 [([aF Nt],90),([ah (x:Int)],3),([tv],95)] av/\dH o w 123 [([aF Nt],90),([ah (x:Int)],3),([ah (c:Int)],3),([tv],95),([av],94)] v
 | .add x t,v=>∃ tv,bG o w Nt M t tv/\dH o w 121 [([aF Nt],90),([ah (x:Int)],3),([tv],95)] v
 | .oG c t,v=>∃ tv,bG o w Nt M t tv/\dH o w 127 [([aF Nt],90),([tv],95),([ah (c:Int)],3)] v
 | .iD c f t,v=>∃ tv,bG o w Nt M t tv/\dH o w 155 [([aF Nt],90),([ah (c:Int)],3),([.bool f],4),([tv],95)] v
 | .mW t,v=>∃ tv,bG o w Nt M t tv/\dH o w 158 [([aF Nt],90),([tv],95)] v
 | .field base f t,v=>∃ tv,bG o w Nt M t tv/\dH o w 194 [([aF M],31),([ah (base:Int)],3),([ah f],3),([tv],95)] v
 | .load op base,v=>dH o w 168 [([aF M],31),([ah (base:Int)],3),(op.cells,45)] v
 | .get op,v=>dH o w 174 [([aF M],31),(op.cells,45)] v
 | .jC x rd,v=>∃ rv lv,nK o w M rd rv/\jF o w M rd lv/\dH o w 196 [([rv],66),([aF M],31),([lv],94),([ah (x:Int)],3)] v
 | .last rd,v=>jF o w M rd v
 | .alloc op k,v=>dH o w 162 [([aF M],31),([ah (k:Int)],3),(op.cells,45)] v
 | .assign op k,v=>dH o w 165 [([aF M],31),(op.cells,45),([ah (k:Int)],3)] v
 | .iQ op all,v=>2<=all.length/\∃ av,dI o w 3 av (bg all)/\dH o w 208 [([aF M],31),([av],35),([ah ((all.length - 1:Nat):Int)],3),(op.cells,45)] v
 | .iK op k,v=>dH o w 191 [([aF M],31),(op.cells,45),([ah (k:Int)],3)] v
 | .ig op k,v=>dH o w 204 [([aF M],31),([ah (k:Int)],3),(op.cells,45)] v
 | .fD _ _ _,_=>False
 | .fill op a,v=>dH o w 187 [([aF M],31),([ah (a:Int)],3),(op.cells,45)] v
 | .zero op a i,v=>dH o w 201 [([ah (i:Int)],3),(op.cells,45),([aF M],31),([ah (a:Int)],3)] v
def jB (o:Ow) (w:World) (D0 q:Nat) (v:Value) (sl:List Nat) (c:Nat):Prop :=
 (v = .pointer none/\sl=[])\/∃ C b sv,v=aF C/\o C=q/\aB w C [aF D0,sv,ah (b:Int),ah (c:Int)] 237/\dI o w 3 sv (bg sl)
def iW (o:Ow) (w:World) (D0:Nat) (g:Nat × Nat) (q:Nat):MD->Value->Prop
 | .fD sl c t,v=>∃ cv tv,jB o w D0 q cv sl c/\bG o w g.1 g.2 t tv/\dH o w 213 [([cv],232),([aF g.2],31),([tv],95)] v
 | d,v=>bG o w g.1 g.2 d v
theorem iW.of {o:Ow} {w:World} {D0:Nat} {g:Nat × Nat} {q:Nat} {d:MD} {v:Value} (h:bG o w g.1 g.2 d v):iW o w D0 g q d v:=by
 cases d<;>first|exact h|exact h.elim
structure iL (w:World) (a:Option Addr) (n sz:Nat) (rs:List (List Value)):Prop where
 len:rs.length=n
 jR:0<n->∃ b off,a=some ⟨b,off,none⟩/\∀ i r,rs[i]?=some r->∀ j v,r[j]?=some v->w.cell? ⟨b,off+i*sz+j,none⟩=some v
theorem iL.below {w w' a n sz rs} (h:iL w a n sz rs) (k:aj aA w w'):iL w' a n sz rs:=by
 refine ⟨h.len,fun h0=>?_⟩
 obtain ⟨b,off,e,hc⟩:=h.jR h0
 exact ⟨b,off,e,fun i r hi j v hj=>k.still (hc i r hi j v hj)⟩
theorem iL.VP {w a n ks rs} (h:wY ks w a n rs):iL w a n ks.length rs:=⟨h.len,h.jR⟩
theorem iL.nil (w:World) (sz:Nat):iL w none 0 sz []:=⟨rfl,fun h=>absurd h (Nat.lt_irrefl 0)⟩
theorem iL.qc {w:World} {base n sz:Nat} {T:TypeId} {v:Value} {rs:List (List Value)} (h:w.ownsRow base T sz v n rs.flatten) (hr:∀ r∈rs,r.length=sz) (hn:rs.length=n) :
 ∃ a c,v = .slice a n c/\iL w a n sz rs/\n<=c:=by
 obtain ⟨hl,hf⟩:=h
 have idx:∀ (rs:List (List Value)),(∀ r∈rs,r.length=sz)->∀ i r,rs[i]?=some r->∀ j v,r[j]?=some v->rs.flatten[i*sz+j]?=some v:=by
  intro rs
  induction rs with
  | nil=>intro _ i r h;simp at h
  | cons r0 rs ih =>
    intro hr i r hi j v hj
    have h0:r0.length=sz:=hr r0 (by simp)
    rw [List.flatten_cons]
    cases i with
    | zero =>
      simp at hi;subst hi
      have:=(abl.1 hj).1
      rw [Nat.zero_mul,Nat.zero_add,List.getElem?_append_left (by omega)];exact hj
    | succ i =>
      have e:(i+1)*sz+j=r0.length+(i*sz+j):=by rw [Nat.succ_mul,h0];omega
      rw [e,List.getElem?_append_right (by omega),Nat.add_sub_cancel_left]
      exact ih (fun r h=>hr r (by simp [h])) i r (by simpa using hi) j v hj
 rcases hf with ⟨rfl,h0⟩|⟨g,aJ,cur,rfl,_,hg,hnc,_,hs,hc⟩
 ·rcases acX n with hz|hz
  ·subst hz
   have:rs=[]:=acW hn
   subst this
   exact ⟨none,0,rfl,iL.nil _ _,abg _⟩
  ·omega
 ·refine ⟨_,aJ,rfl,⟨hn,fun _=>⟨g,0,rfl,fun i r hi j v hj=>?_⟩⟩,hnc⟩
  have h1:=idx rs hr i r hi j v hj
  rw [<- hc] at h1
  have hlt:i*sz+j<n*sz:=by
   have:=(abl.1 h1).1
   simp at this;omega
  have h2:cur[i*sz+j]?=some v:=by
   rw [List.getElem?_take_of_lt hlt] at h1
   simpa using h1
  simp [World.cell?,hg,h2]
end
section
open Go.RowKit Go.Deep
section
variable {P:Program} {w:World}
theorem LD {ops:Array Oper} {rest:List Oper} {o:Oper} {a:Act} {Q:Exit->Act->World->Prop} (hgd:o.guard=none) (s x:Operand) (t:TypeId)
 (ho:o.op = .call { callee := .builtin .append,args:=#[s,x],argTypes:=#[t,t] }) {base:Nat} {e:TypeId} {z:Value} {size bytes:Nat} (ht:P.underlying t=some (.slice e))
 (hi:(P.info? e).map (fun i=>(i.zero,i.size,i.bytes))=some (some z,size,bytes)) (hzs:z.cells.size=size) (h0:0<size) {v:Value} {n:Nat} {xs:List Value} (hs:a.eval s=v) (hown:w.ownsRow base e size v n xs)
 {us:List Value} {N:Nat} (hN:w.heap.size=N) (hx:a.eval x = .slice (some ⟨N,0,none⟩) 1 1) (ZE:us.length=size) (hu:∀ u∈us,u.oneCell'=true) (hb:bytes<=1000) (hn:n<=100000000000) (hbase:base<=w.heap.size)
 (h:∀ v' w',w'.ownsRow base e size v' (n+1) (xs++us)->w.grownBy w' v.ownBlock->wpList P ops Q rest (a.put o.dst v') w'):wpList P ops Q (o::rest) a (w.alloc (.cells us.toArray e)):=by
 subst hN
 obtain ⟨i,hi1,hi2,hi3,hi4⟩:=info_parts hi
 have hbytes:(n+1)*bytes<=140737488355328:=abh (abC (show n+1<=100000000001 by omega) hb) (by decide)
 refine wpList_append_own _ hgd s x t ho base e i z size bytes ht hi1 hi2 hi3 hi4 hzs h0 v n xs hs (hown.alloc _) ⟨w.heap.size,0,none⟩ 1 1 us hx (by simpa using ZE) ?_ hu ?_ hbytes (by simp;omega) ?_
 ·intro j v' hj
  have:(⟨w.heap.size,0,none⟩:Addr).add j=⟨w.heap.size,j,none⟩:=by simp only [acV];split<;>simp_all
  rw [this]
  exact (aB.aW w us e).cell j hj
 ·unfold maxLen;omega
 ·intro v' w' h1 h2 _
  exact h v' w' h1 ⟨h2.os,h2.tape,h2.output,abh (by simp) h2.size,fun k hk hr=>(h2.block k (by simp;omega) hr).trans (Below.heap_alloc _ _ _ hk)⟩
end
theorem Bo {sz:Nat}:∀ (rs:List (List Value)),(∀ r∈rs,r.length=sz)->rs.flatten.length=rs.length*sz
 | [],_=>by simp
 | r::rs,h=>by
   have:=Bo rs (fun r hr=>h r (by simp [hr]))
   have h0:=h r (by simp)
   simp [Nat.succ_mul,h0,this,Nat.add_comm]
end
section
open Go.RowKit
structure eH where
 S:Nat
 D:Nat->Nat
 B:Nat
 Q:Nat
 Fl:Nat
 bx:Nat->Nat
structure eG (o:Ow) (w:World) (G:eH) (s:Sh):Prop where
 fK:jS o w
 sh:∃ v,aB w G.S [aF (G.D 0),aF G.B,aF G.Q,aF G.Fl,v] 54/\dI o w 84 v ((List.range s.eF.length).map fun i=>aF (G.bx i))
 oS:o G.S=0
 heap:aK w G.D s.H
 oD:∀ i,i<13->o (G.D i)=1
 qU:o 2=0/\o 3=0/\o 1=0
 qg:lK w G.B s.B
 oB:o G.B=2
 qL:jk o w G.Q s.Q
 oQ:o G.Q=3
 pJ:aB w G.Fl [.bool s.pJ] 83
 oF:o G.Fl=4
 box:∀ i l,s.eF[i]?=some l->dZ o w (G.bx i) 141 [] l/\o (G.bx i)=10+i
section
variable {o:Ow} {w w':World} {G:eH} {s:Sh} {I:List Nat}
theorem jk.aP {B:Nat} {q:Qu} {i:Nat} (h:jk o w B q) (k:aj (In o I) w w') (h0:I.contains 0=false) (hB:o B=i) (hI:I.contains i=false):jk o w' B q:=by
 obtain ⟨ho,hl,vs,hv,hb,hr⟩:=h
 exact ⟨ho,hl,vs,hv,hb.aP k hB hI,fun i v zs h1 h2=>(hr i v zs h1 h2).aP k h0⟩
theorem jk.yS {o':Ow} {B:Nat} {q:Qu} (h:jk o w B q) (e:dL w o o'):jk o' w B q:=by
 obtain ⟨ho,hl,vs,hv,hb,hr⟩:=h
 exact ⟨by rw [e B hb.lt];exact ho,hl,vs,hv,hb,fun i v zs h1 h2=>(hr i v zs h1 h2).ext e⟩
theorem dZ.aP {b:Nat} {T:TypeId} {rest:List Value} {xs:List Nat} {i:Nat} (h:dZ o w b T rest xs) (k:aj (In o I) w w') (h0:I.contains 0=false) (hB:o b=i) (hI:I.contains i=false):dZ o w' b T rest xs :=
 h.aH k (fU hB hI) (fun x hx=>fU hx h0)
theorem eG.pz (h:eG o w G s) (k:aj (In o I) w w') (h0:I.contains 0=false) (h1:I.contains 1=false):aK w' G.D s.H :=
 h.heap.aH k (fun i hi=>fU (h.oD i hi) h1) (fU h.qU.1 h0) (fU h.qU.2.1 h0) (fU h.qU.2.2 h0)
theorem eG.hfO (h:eG o w G s) (k:aj (HF G.D) w w') (h1:I.contains 1=true):aj (In o I) w w':=k.mono (fun x _ hx=>by
 obtain ⟨i,hi,e⟩:=hx
 unfold In
 rw [e,h.oD i hi]
 simpa using h1)
theorem eG.jL {s':Sh} (h:eG o w G s) (k:aj (In o I) w w') (h0:I.contains 0=false) (hH:aK w' G.D s'.H) (hB:lK w' G.B s'.B) (hQ:jk o w' G.Q s'.Q) (hF:aB w' G.Fl [.bool s'.pJ] 83)
 (hl:s'.eF.length=s.eF.length) (hX:∀ i l,s'.eF[i]?=some l->dZ o w' (G.bx i) 141 [] l):eG o w' G s':=by
 obtain ⟨v,hs1,hs2⟩:=h.sh
 refine ⟨h.fK.aH k,⟨v,hs1.aP k h.oS h0,?_⟩,h.oS,hH,h.oD,h.qU,hB,h.oB,hQ,h.oQ,hF,h.oF,fun i l hi=>⟨hX i l hi,?_⟩⟩
 ·rw [hl];exact hs2.aP k h0
 ·have hlt:=(abl.1 hi).1
  exact (h.box i _ (List.getElem?_eq_getElem (by omega))).2
theorem eG.D5 (h:eG o w G s) (k:aj (In o I) w w') (h0:I.contains 0=false) (hI:∀ i,i<s.eF.length->I.contains (10+i)=false):∀ i l,s.eF[i]?=some l->dZ o w' (G.bx i) 141 [] l:=fun i l hi =>
 (h.box i l hi).1.aP k h0 (h.box i l hi).2 (hI i (abl.1 hi).1)
theorem eG.aP (h:eG o w G s) (k:aj (In o I) w w') (hI:I.all (fun i=>decide (20<=i))=true) (h8:s.eF.length<=8):eG o w' G s:=by
 have hge:∀ i,i<20->I.contains i=false:=fun i hi=>by
  rw [acY]
  intro hc
  have:=acp.1 hI i (by simpa using hc)
  simp at this;omega
 exact h.jL k (hge 0 (by decide)) (h.pz k (hge 0 (by decide)) (hge 1 (by decide))) (h.qg.aH k (fU h.oB (hge 2 (by decide)))) (h.qL.aP k (hge 0 (by decide)) h.oQ (hge 3 (by decide))) (h.pJ.aP k h.oF (hge 4 (by decide))) rfl (h.D5 k (hge 0 (by decide)) (fun i hi=>hge _ (by omega)))
theorem eG.kZ {H:HS} (h:eG o w G s) (k:aj (HF G.D) w w') (hH:aK w' G.D H) (h8:s.eF.length<=8):eG o w' G { s with H:=H }/\aj (In o [1]) w w':=by
 have k1:aj (In o [1]) w w':=h.hfO k rfl
 exact ⟨h.jL (s':={ s with H:=H }) k1 rfl hH (h.qg.aH k1 (fU h.oB rfl)) (h.qL.aP k1 rfl h.oQ rfl) (h.pJ.aP k1 h.oF rfl) rfl (h.D5 k1 rfl (fun i hi=>by simp;omega)),k1⟩
theorem eG.Bq {B:Bd} (h:eG o w G s) (k:aj (only G.B) w w') (hB:lK w' G.B B):eG o w' G { s with B:=B }/\aj (In o [2]) w w':=by
 have k1:aj (In o [2]) w w':=k.rU h.oB rfl
 exact ⟨h.jL (s':={ s with B:=B }) k1 rfl (h.pz k1 rfl rfl) hB (h.qL.aP k1 rfl h.oQ rfl) (h.pJ.aP k1 h.oF rfl) rfl (h.D5 k1 rfl (fun i hi=>by simp;omega)),k1⟩
theorem eG.xM {Q:Qu} (h:eG o w G s) (k:aj (only G.Q) w w') (hQ:jk o w' G.Q Q):eG o w' G { s with Q:=Q }/\aj (In o [3]) w w':=by
 have k1:aj (In o [3]) w w':=k.rU h.oQ rfl
 exact ⟨h.jL (s':={ s with Q:=Q }) k1 rfl (h.pz k1 rfl rfl) (h.qg.aH k1 (fU h.oB rfl)) hQ (h.pJ.aP k1 h.oF rfl) rfl (h.D5 k1 rfl (fun i hi=>by simp;omega)),k1⟩
theorem eG.VQ {f:Bool} (h:eG o w G s) (k:aj (only G.Fl) w w') (hF:aB w' G.Fl [.bool f] 83):eG o w' G { s with pJ:=f }/\aj (In o [4]) w w':=by
 have k1:aj (In o [4]) w w':=k.rU h.oF rfl
 exact ⟨h.jL (s':={ s with pJ:=f }) k1 rfl (h.pz k1 rfl rfl) (h.qg.aH k1 (fU h.oB rfl)) (h.qL.aP k1 rfl h.oQ rfl) hF rfl (h.D5 k1 rfl (fun i hi=>by simp;omega)),k1⟩
theorem eG.move {o':Ow} (h:eG o w G s) (k:aj (In o I) w w') (hI:I.all (fun i=>decide (20<=i))=true) (h8:s.eF.length<=8) (e:dL w o o') (hf:jS o' w'):eG o' w' G s:=by
 have k':=k.yS e
 have hge:∀ i,i<20->I.contains i=false:=fun i hi=>by
  rw [acY]
  intro hc
  have:=acp.1 hI i (by simpa using hc)
  simp at this;omega
 obtain ⟨v,hs1,hs2⟩:=h.sh
 have hg:=h.heap.UK
 have ZF:(o' G.Q:Nat)=3:=by
  obtain ⟨ho,hl,vs,hv,hb,hr⟩:=h.qL
  exact (e _ hb.lt).trans h.oQ
 refine ⟨hf,⟨v,hs1.aP k h.oS (hge 0 (by decide)),(hs2.ext e).aP k' (hge 0 (by decide))⟩,(e _ hs1.lt).trans h.oS,h.pz k (hge 0 (by decide)) (hge 1 (by decide)),fun i hi=>(e _ (h.heap.UJ i hi)).trans (h.oD i hi),⟨(e _ hg.1).trans h.qU.1,(e _ hg.2.1).trans h.qU.2.1,(e _ hg.2.2).trans h.qU.2.2⟩,
  h.qg.aH k (fU h.oB (hge 2 (by decide))),(e _ h.qg.aC.lt).trans h.oB,(h.qL.yS e).aP k' (hge 0 (by decide)) ZF (hge 3 (by decide)),ZF,h.pJ.aP k h.oF (hge 4 (by decide)),(e _ h.pJ.lt).trans h.oF,fun i l hi=>?_⟩
 obtain ⟨h1,h2⟩:=h.box i l hi
 obtain ⟨_,v',hb,_,_⟩:=id h1
 have h3:o' (G.bx i)=10+i:=(e _ hb.lt).trans h2
 exact ⟨(h1.ext e).aP k' (hge 0 (by decide)) h3 (hge _ (by have:=(abl.1 hi).1;omega)),h3⟩
end
structure MG where
 M:Nat
 X:Nat
 Bf:Nat
 Nt:Nat
def D6:Option Ev->List Value
 | none=>[ah 0,ah 0,ah 0,ah 0,ah 0,ah 0,.bool false]
 | some e=>[ah 0,ah (e.Xk:Int),ah (e.kind:Int),ah (e.op:Int),ah e.code,ah (e.value:Int),.bool true]
def mY (G:eH) (g:MG) (m:MS) (ev:Option Ev) (pv rv nv:Value):List Value :=
 aF G.S::m.c.cells++[ah (m.id:Int),.slice (some ⟨g.X,0,none⟩) m.aI.length m.aI.length,aF g.Bf,aF g.Nt,ah (m.gu:Int),ah (m.bK:Int),ah (m.dA:Int),pv,rv,nv,ah (m.held:Int),ah (m.aY:Int),ah (m.most0:Int),ah (m.most1:Int),.bool m.lY]++D6 ev
def pU (o:Ow) (w:World) (v:Value) (prog:List bQ):Prop :=
 ∃ a c,v = .slice a prog.length c/\prog.length<=1000/\(0<prog.length->∃ b off cs,a=some ⟨b,off,none⟩/\o b=0/\aB w b cs 45/\∀ i op,prog[i]?=some op->∀ j u,op.cells[j]?=some u->cs[off+i*4+j]?=some u)
def rJ (aU:List (Int × Nat)):List Value:=(aU.map fun r=>[Value.int .i64 r.1,Value.int .i64 (r.2:Int)]).flatten
def tV (o:Ow) (w:World) (i:Nat) (v:Value) (aU:List (Int × Nat)):Prop:=w.ownsRow 0 76 2 v aU.length (rJ aU)/\∀ b,v.ownBlock=some b->o b=20+i
structure aQ (o:Ow) (w:World) (G:eH) (g:MG) (s:Sh) (m:MS) (ev:Option Ev) (nv:Value):Prop where
 sh:eG o w G s
 aC:∃ pv rv,aB w g.M (mY G g m ev pv rv nv) 98/\pU o w pv m.prog/\tV o w m.id rv m.aU
 oM:o g.M=20+m.id
 aI:aB w g.X (bg m.aI) 3
 oX:o g.X=20+m.id
 bJ:dZ o w g.Bf 143 [ah m.c.l] m.bJ
 uN:o g.Bf=20+m.id
 nt:aB w g.Nt [aF (G.D 0),aF g.Bf,aF (G.bx m.id),aF G.Fl] 145
 qX:o g.Nt=0
 qB:m.id<s.eF.length
 box8:s.eF.length<=8
 uO:m.c=s.H.c
 pK:(m.aI.length:Int)=m.c.r
 uP:(m.bJ.length:Int)<=m.c.l
section
variable {o:Ow} {w w':World} {G:eH} {g:MG} {s:Sh} {m:MS} {ev:Option Ev} {nv:Value}
theorem pU.aP {I:List Nat} {v:Value} {p:List bQ} (h:pU o w v p) (k:aj (In o I) w w') (h0:I.contains 0=false):pU o w' v p:=by
 obtain ⟨a,c,e,h1,h2⟩:=h
 refine ⟨a,c,e,h1,fun hp=>?_⟩
 obtain ⟨b,off,cs,e1,e2,e3,e4⟩:=h2 hp
 exact ⟨b,off,cs,e1,e2,e3.aP k e2 h0,e4⟩
theorem pU.ext {o':Ow} {v:Value} {p:List bQ} (h:pU o w v p) (e:dL w o o'):pU o' w v p:=by
 obtain ⟨a,c,e0,h1,h2⟩:=h
 refine ⟨a,c,e0,h1,fun hp=>?_⟩
 obtain ⟨b,off,cs,e1,e2,e3,e4⟩:=h2 hp
 exact ⟨b,off,cs,e1,(e b e3.lt).trans e2,e3,e4⟩
theorem tV.aP {I:List Nat} {i:Nat} {v:Value} {r:List (Int × Nat)} (h:tV o w i v r) (k:aj (In o I) w w') (hI:I.contains (20+i)=false):tV o w' i v r :=
 ⟨fQ h.1 k (fun b hb=>fU (h.2 b hb) hI),h.2⟩
theorem tV.ext {o':Ow} {i:Nat} {v:Value} {r:List (Int × Nat)} (h:tV o w i v r) (e:dL w o o'):tV o' w i v r:=by
 refine ⟨h.1,fun b hb=>?_⟩
 obtain ⟨cur,hc⟩:∃ cur:Array Value,w.heap[b]?=some (.cells cur 76 (0,0)):=by
  rcases h.1.2 with ⟨e1,_⟩|⟨g,aJ,cur,e1,_,hg,_⟩
  ·rw [e1] at hb;simp [Value.ownBlock] at hb
  ·rw [e1] at hb;simp [Value.ownBlock] at hb;subst hb;exact ⟨cur,hg⟩
 exact (e b (lt_of_block hc)).trans (h.2 b hb)
theorem aQ.vK {s':Sh} {I:List Nat} (h:aQ o w G g s m ev nv) (k:aj (In o I) w w') (h0:I.contains 0=false) (hi:I.contains (20+m.id)=false) (hs:eG o w' G s') (hl:s'.eF.length=s.eF.length) (hc:s'.H.c=s.H.c):aQ o w' G g s' m ev nv:=by
 obtain ⟨pv,rv,h1,h2,h3⟩:=h.aC
 exact ⟨hs,⟨pv,rv,h1.aP k h.oM hi,h2.aP k h0,h3.aP k hi⟩,h.oM,h.aI.aP k h.oX hi,h.oX,h.bJ.aP k h0 h.uN hi,h.uN,h.nt.aP k h.qX h0,h.qX,by rw [hl];exact h.qB,by rw [hl];exact h.box8,h.uO.trans hc.symm,h.pK,h.uP⟩
theorem aQ.still (h:aQ o w G g s m ev nv) (k:aj aA w w'):aQ o w' G g s m ev nv:=by
 have k0:aj (In o []) w w':=k.bU
 exact h.vK k0 rfl rfl (h.sh.aP k0 rfl h.box8) rfl rfl
theorem aQ.apart (h:aQ o w G g s m ev nv):g.M≠g.X/\g.M≠g.Bf/\g.X≠g.Bf/\(∀ rv r b,tV o w m.id rv r->rv.ownBlock=some b->b≠g.M/\b≠g.X/\b≠g.Bf):=by
 obtain ⟨pv,rv,h1,h2,h3⟩:=h.aC
 obtain ⟨_,v,h4,_⟩:=h.bJ
 have h5:=h.aI
 refine ⟨fun e=>?_,fun e=>?_,fun e=>?_,fun rv r b hr hb=>?_⟩
 ·rw [e] at h1;exact absurd (h1.gK h5).2 (by decide)
 ·rw [e] at h1;exact absurd (h1.gK h4).2 (by decide)
 ·rw [e] at h5;exact absurd (h5.gK h4).2 (by decide)
 ·refine ⟨fun e=>?_,fun e=>?_,fun e=>?_⟩
  ·exact jY h1 hr.1 (by decide) (by rw [hb,e])
  ·exact jY h5 hr.1 (by decide) (by rw [hb,e])
  ·exact jY h4 hr.1 (by decide) (by rw [hb,e])
theorem aQ.struct (h:aQ o w G g s m ev nv) (kM:aj (only g.M) w w') (m':MS) (ev':Option Ev) (iP:Value) (hc:∀ pv rv,aB w g.M (mY G g m ev pv rv nv) 98->aB w' g.M (mY G g m' ev' pv rv iP) 98)
 (e:m'.id=m.id/\m'.c=m.c/\m'.aI=m.aI/\m'.bJ=m.bJ/\m'.prog=m.prog/\m'.aU=m.aU):aQ o w' G g s m' ev' iP/\aj (In o [20+m.id]) w w':=by
 obtain ⟨pv,rv,h1,h2,h3⟩:=h.aC
 obtain ⟨e1,e2,e3,e4,e5,e6⟩:=e
 have ap:=h.apart
 have k:aj (In o [20+m.id]) w w':=kM.rU h.oM (by simp)
 refine ⟨⟨h.sh.aP k (by simp) h.box8,⟨pv,rv,hc pv rv h1,?_,?_⟩,by rw [e1];exact h.oM,by rw [e3];exact kM.aC h.aI (fun e=>ap.1 e.symm),by rw [e1];exact h.oX,?_,by rw [e1];exact h.uN,by rw [e1];exact h.nt.aP k h.qX (by simp;omega),h.qX,by rw [e1];exact h.qB,h.box8,by rw [e2];exact h.uO,by rw [e3,e2];exact h.pK,by rw [e4,e2];exact h.uP⟩,k⟩
 ·rw [e5];exact h2.aP k (by simp;omega)
 ·rw [e1,e6]
  exact ⟨fQ h3.1 kM (fun b hb e=>(ap.2.2.2 rv _ b h3 hb).1 e),h3.2⟩
 ·rw [e2,e4]
  exact h.bJ.aH kM (fun e=>ap.2.1 e.symm) (fun x hx e=>by unfold only at e;rw [e,h.oM] at hx;omega)
theorem aQ.put (h:aQ o w G g s m ev nv) (i:Nat) (u:Value) (m':MS) (ev':Option Ev) (iP:Value) (hc:∀ pv rv,(mY G g m ev pv rv nv).set i u=mY G g m' ev' pv rv iP)
 (e:m'.id=m.id/\m'.c=m.c/\m'.aI=m.aI/\m'.bJ=m.bJ/\m'.prog=m.prog/\m'.aU=m.aU):aQ o (w.setCell ⟨g.M,i,none⟩ u) G g s m' ev' iP/\aj (In o [20+m.id]) w (w.setCell ⟨g.M,i,none⟩ u) :=
 h.struct ((aj.refl _ _).put i u) m' ev' iP (fun pv rv hb=>by
  have:=hb.set i u
  rwa [hc] at this) e
theorem aQ.CW (h:aQ o w G g s m ev nv) {b:List Nat} (k:aj (only g.Bf) w w') (hb:dZ o w' g.Bf 143 [ah m.c.l] b) (hl:(b.length:Int)<=m.c.l):aQ o w' G g s { m with bJ:=b } ev nv/\aj (In o [20+m.id]) w w':=by
 obtain ⟨pv,rv,h1,h2,h3⟩:=h.aC
 have ap:=h.apart
 have k1:aj (In o [20+m.id]) w w':=k.rU h.uN (by simp)
 exact ⟨⟨h.sh.aP k1 (by simp) h.box8,⟨pv,rv,k.aC h1 (fun e=>ap.2.1 e),h2.aP k1 (by simp;omega),⟨fQ h3.1 k (fun b hb e=>(ap.2.2.2 rv _ b h3 hb).2.2 e),h3.2⟩⟩,h.oM,k.aC h.aI (fun e=>ap.2.2.1 e),h.oX,hb,h.uN,h.nt.aP k1 h.qX (by simp;omega),h.qX,h.qB,h.box8,h.uO,h.pK,hl⟩,k1⟩
theorem aQ.yZ (h:aQ o w G g s m ev nv) (r v:Nat):aQ o (w.setCell ⟨g.X,r,none⟩ (ah (v:Int))) G g s { m with aI:=m.aI.set r v } ev nv/\aj (In o [20+m.id]) w (w.setCell ⟨g.X,r,none⟩ (ah (v:Int))):=by
 obtain ⟨pv,rv,h1,h2,h3⟩:=h.aC
 have ap:=h.apart
 have k:aj (only g.X) w (w.setCell ⟨g.X,r,none⟩ (ah (v:Int))):=(aj.refl _ _).put r _
 have k1:aj (In o [20+m.id]) w (w.setCell ⟨g.X,r,none⟩ (ah (v:Int))):=k.rU h.oX (by simp)
 refine ⟨⟨h.sh.aP k1 (by simp) h.box8,⟨pv,rv,?_,h2.aP k1 (by simp;omega),⟨fQ h3.1 k (fun b hb e=>(ap.2.2.2 rv _ b h3 hb).2.1 e),h3.2⟩⟩,h.oM,?_,h.oX,?_,h.uN,h.nt.aP k1 h.qX (by simp;omega),h.qX,h.qB,h.box8,h.uO,by simpa using h.pK,h.uP⟩,k1⟩
 ·have:=k.aC h1 (fun e=>ap.1 e)
  unfold mY at this ⊢
  simpa using this
 ·rw [xq];exact h.aI.set r _
 ·exact h.bJ.aH k (fun e=>ap.2.2.1 e.symm) (fun x hx e=>by unfold only at e;rw [e,h.oX] at hx;omega)
theorem aQ.cell (h:aQ o w G g s m ev nv) (i:Nat) (u:Value) (hu:∀ pv rv,(mY G g m ev pv rv nv)[i]?=some u):w.cell? ⟨g.M,i,none⟩=some u:=by
 obtain ⟨pv,rv,h1,_⟩:=h.aC
 exact h1.cell i (hu pv rv)
theorem aQ.free (h:aQ o w G g s m ev nv) (i:Nat):w.frozen? ⟨g.M,i,none⟩=false:=by
 obtain ⟨pv,rv,h1,_⟩:=h.aC
 exact h1.free i
end
end
end Go.Proofs.YtobfpmijbfgmeabGreatDoor
