/- Parts of the iy. No conditions. -/
import Derived.Test.YtanfphjoebobaaaGreatDoorZzfy
namespace Go.Proofs.YtanfphjoebobaaaGreatDoor
open _root_.Bool renaming false_and->alC,false_eq_true->akP,not_eq_true'->alx,or_eq_true->alv
open _root_.Int renaming toNat_natCast->ajv
open _root_.List renaming any_eq_true->akC,getD_eq_getElem?_getD->ajg,getElem?_eq_getElem->ajh,getElem?_eq_none->ajK,getElem?_eq_some_iff->ake,getElem?_set_ne->ajB,getElem?_set_self->ajA,length_append->alm,length_set->aku,mem_append->aln,mem_cons->ajN,mem_iff_getElem?->aly,mem_range->akB,mem_singleton->alo
open _root_.Nat renaming add_mul->ajF,le_refl->aje,lt_or_ge->ajz,mul_add->alA,mul_one->alB,not_lt_zero->akU,one_mul->ajG,sub_self->alz,zero_le->aki
set_option maxHeartbeats 1000000
section
section
variable {p:CP} {x y:WS} {s s':Sh} {m m':MS} {i l l' ph vO hf:Nat} {H:HS} {dead:List Nat} {q:Qu}
theorem acW (h:q.any=none):∀ k,k<4->q.rw k=[]:=fun k hk=>by
 unfold Qu.any at h
 have:=List.findSome?_eq_none_iff.1 h k (akB.2 hk)
 cases e:q.rw k with
 | nil=>rfl
 | cons a r=>rw [e] at this;cases this
theorem Uk {k b:Nat} (h:q.any=some (k,b)):k<4/\∃ a r,q.rw k=a::r/\b=a.toNat:=by
 unfold Qu.any at h
 obtain ⟨j,hj,e⟩:=List.exists_of_findSome?_eq_some h
 have hj4:=akB.1 hj
 cases e2:q.rw j with
 | nil=>rw [e2] at e;cases e
 | cons a r =>
   rw [e2] at e
   simp only [Option.some.injEq,Prod.mk.injEq] at e
   obtain ⟨rfl,rfl⟩:=e
   exact ⟨hj4,a,r,e2,rfl⟩
theorem agp (hl:q.rows.length=4) {k:Nat} (hk:4<=k):q.rw k=[]:=by
 unfold Qu.rw
 rw [ajg,ajK (by omega)];rfl
theorem Iq (hl:q.rows.length=4) {k:Nat} (hk:k<4) (b:Int) (j:Nat):(q.put (k:Int) b).rw j=if j=k then q.rw k++[b] else q.rw j:=by
 unfold Qu.put Qu.rw Qu.row
 simp only [ajv]
 rw [ajg]
 by_cases e:j=k
 ·subst e
  rw [ajA (by omega),aZ rfl];rfl
 ·rw [ajB (fun h=>e h.symm),aT e,<- ajg]
theorem EY (hl:q.rows.length=4) {k:Nat} (hk:k<4) (j:Nat):(q.take (k:Int)).rw j=if j=k then (q.rw k).drop 1 else q.rw j:=by
 unfold Qu.take Qu.rw Qu.row
 simp only [ajv]
 rw [ajg]
 by_cases e:j=k
 ·subst e
  rw [ajA (by omega),aZ rfl];rfl
 ·rw [ajB (fun h=>e h.symm),aT e,<- ajg]
theorem qF.pz (h:qF p x dead) (hn:∀ m t,x.aC.next ≠ .dJ m t) {i:Nat} (hi:i<p.mu):x.s.B.bF (i:Int)=false:=by
 cases hp:x.s.B.bF (i:Int)
 ·rfl
 ·obtain ⟨m,t,e,_⟩:=h.wt i hi hp
  exact absurd e (hn m t)
theorem qF.go (h:qF p x dead) (hn:∀ m t,x.aC.next ≠ .dJ m t) {q':Qu} {d':CD} (ql:q'.rows.length=4) (qn:∀ k,∀ b∈q'.rw k,∃ B:Nat,b=(B:Int)) (dS:q'.dS=if Ag d' then 1 else 0) (qe:I7 d'=true->∀ k,q'.rw k=[]) (fQ:p.Oh x.aC.phase d')
 (eP:∀ a,x.s.H.bn a=true->¬ p.lq a->p.YG q' d' a):qF p { x with s:={ x.s with Q:=q' },aC:={ x.aC with next:=d' } } dead :=
 ⟨h.k2,h.mu8,h.aG,h.tY,h.box,h.jw,h.rY,h.uG,h.uz,h.gU,h.bn,h.co,h.nd,h.dd,h.xG,h.mM,h.bd,fun i m hm=>(by
  have g:=h.gW i m hm
  exact ⟨g.id,g.prog,g.aW,g.lg,g.dQ,g.aP,g.aY,g.nx,g.kind⟩),fun i hi hp=>(by
  have hp':x.s.B.bF (i:Int)=true:=hp
  rw [h.pz hn hi] at hp';cases hp'),h.tZ,h.bD,h.fl,ql,qn,dS,qe,fQ,eP⟩
theorem VH (h:qF p x dead) (d:CD) (hd:x.aC.next=d) (hne:d ≠ .jE):∃ jZ,qF p (fJ x d) jZ /\
 (((aN x.s x.aC d).ev=none/\jZ=dead)\/∃ a,(aN x.s x.aC d).ev=some (x.aC.ev 5 a)/\jZ=dead++[a]/\(fJ x d).s.H.bn a=false):=by
 have hk2:=h.k2
 have hmu:=h.mu8
 have fQ:=h.fQ;have dS:=h.dS;have qe:=h.qe;have eP:=h.eP
 rw [hd] at fQ dS qe eP
 have uP:=h.ql
 have hown:∀ a,x.s.H.iC a=p.H.iC a:=fun a=>by
  unfold HS.iC
  rw [h.xG.1,h.xG.2.1,h.xG.2.2.1]
 have oG:=h.jw
 cases d with
 | iJ b =>
   obtain ⟨h6,hb⟩:=fQ
   have hnw:∀ m u,x.aC.next ≠ .dJ m u:=by rw [hd];intro m u e;cases e
   have hnx:Ag (x.aC.lW (b+1))=false/\I7 (x.aC.lW (b+1))=false/\p.Oh x.aC.phase (x.aC.lW (b+1))/\∀ B,b+1<=B->B<p.bl->∃ b',x.aC.lW (b+1) = .iJ b'/\b'<=B:=by
    have uz:=h.rY
    unfold CS.lW
    split
    ·refine ⟨rfl,rfl,h6,fun B h1 h2=>?_⟩
     omega
    ·exact ⟨rfl,rfl,⟨h6,by omega⟩,fun B h1 h2=>⟨b+1,rfl,h1⟩⟩
   obtain ⟨n1,n2,n3,n4⟩:=hnx
   have hlt:∀ a B k,p.H.iC a=some (B,k)->B<p.bl:=fun a B k ho=>by rw [h.uz];exact (DW ho).1
   by_cases hK:x.s.H.K.getD b 0=0
   ·refine ⟨dead,?_,.inl ⟨rfl,rfl⟩⟩
    have e:fJ x (.iJ b)={ x with s:={ x.s with Q:=x.s.Q },aC:={ x.aC with next:=x.aC.lW (b+1) } }:=by
     unfold fJ
     simp only [aN]
     rw [aZ hK]
    rw [e]
    refine h.go hnw uP h.qn (by rw [n1];exact dS) (fun hr=>by rw [n2] at hr;cases hr) n3 (fun a ha hr=>?_)
    rcases eP a ha hr with ⟨b0,B,k,e1,e2,e3⟩|g|⟨sl,e1,_⟩
    ·cases e1
     have hbB:B≠b:=by
      intro e0
      have:=(gB e2).2.2.2.1
      rw [e0,<- h.xG.1,hK] at this;omega
     obtain ⟨b',g1,g2⟩:=n4 B (by omega) (hlt a B k e2)
     exact .inl ⟨b',B,k,g1,e2,g2⟩
    ·exact .inr (.inl g)
    ·cases e1
   ·have hk4:x.s.H.K.getD b 0<=4:=by
     rcases ajz b x.s.H.K.length with g|g
     ·rw [ajg,ajh g]
      exact h.gU.k4 _ (List.getElem_mem g)
     ·rw [ajg,ajK g];exact aki _
    obtain ⟨c,hc,hc4⟩:∃ c:Nat,x.s.H.K.getD b 0=c+1/\c<4:=⟨x.s.H.K.getD b 0 - 1,by omega,by omega⟩
    have hput:=Iq uP hc4 (b:Int)
    refine ⟨dead,?_,.inl ⟨rfl,rfl⟩⟩
    have e:fJ x (.iJ b)={ x with s:={ x.s with Q:=x.s.Q.put (c:Int) (b:Int) },aC:={ x.aC with next:=x.aC.lW (b+1) } }:=by
     unfold fJ
     simp only [aN]
     rw [aT hK,hc]
     have:((c+1:Nat):Int) - 1=(c:Int):=by omega
     rw [this]
    rw [e]
    refine h.go hnw (by show (x.s.Q.rows.set _ _).length=4;rw [aku];exact uP) (fun k b' hb'=>?_) (by rw [n1];exact dS) (fun hr=>by rw [n2] at hr;cases hr) n3 (fun a ha hr=>?_)
    ·rw [hput k] at hb'
     split at hb'
     ·rcases aln.1 hb' with g|g
      ·exact h.qn c b' g
      ·exact ⟨b,alo.1 g⟩
     ·exact h.qn k b' hb'
    ·rcases eP a ha hr with ⟨b0,B,k,e1,e2,e3⟩|⟨B,k,j,e1,e2,e3⟩|⟨sl,e1,_⟩
     ·cases e1
      by_cases hbB:B=b
      ·refine .inr (.inl ⟨B,k,c,e2,hc4,?_⟩)
       rw [hput c,aZ rfl,hbB]
       exact List.mem_append_right _ (alo.2 rfl)
      ·obtain ⟨b',g1,g2⟩:=n4 B (by omega) (hlt a B k e2)
       exact .inl ⟨b',B,k,g1,e2,g2⟩
     ·refine .inr (.inl ⟨B,k,j,e1,e2,?_⟩)
      rw [hput j]
      split
      ·rename_i e;rw [e] at e3;exact List.mem_append_left _ e3
      ·exact e3
     ·cases e1
 | eX =>
   have h6:x.aC.phase=6:=fQ
   have hnw:∀ m u,x.aC.next ≠ .dJ m u:=by rw [hd];intro m u e;cases e
   cases hq:x.s.Q.any with
   | none =>
     have hno:=acW hq
     refine ⟨dead,?_,.inl ⟨by simp only [aN];rw [hq],rfl⟩⟩
     have e:fJ x .eX={ x with s:={ x.s with Q:=x.s.Q },aC:={ x.aC with next := .jR } }:=by
      unfold fJ
      simp only [aN]
      rw [hq]
     rw [e]
     refine h.go hnw uP h.qn dS (fun _ k=>?_) h6 (fun a ha hr=>?_)
     ·rcases ajz k 4 with g|g
      ·exact hno k g
      ·exact agp uP g
     ·rcases eP a ha hr with ⟨b0,B,k,e1,e2,e3⟩|⟨B,k,j,e1,e2,e3⟩|⟨sl,e1,_⟩
      ·cases e1
      ·rw [hno j e2] at e3;cases e3
      ·cases e1
   | some kb =>
     obtain ⟨kk,b⟩:=kb
     obtain ⟨hk4,z,r,hr1,hr2⟩:=Uk hq
     have htk:=EY uP hk4
     obtain ⟨Bz,hBz⟩:=h.qn kk z (by rw [hr1];exact List.mem_cons_self)
     have hb:b=Bz:=by rw [hr2,hBz];exact ajv Bz
     refine ⟨dead,?_,.inl ⟨by simp only [aN];rw [hq],rfl⟩⟩
     have e:fJ x .eX={ x with s:={ x.s with Q:=x.s.Q.take (kk:Int) },aC:={ x.aC with next := .block (x.s.H.bH b) } }:=by
      unfold fJ
      simp only [aN]
      rw [hq]
     rw [e]
     refine h.go hnw (by show (x.s.Q.rows.set _ _).length=4;rw [aku];exact uP) (fun k b' hb'=>?_) ?_ (fun hr=>by cases hr) h6 (fun a ha hr=>?_)
     ·rw [htk k] at hb'
      split at hb'
      ·exact h.qn kk b' (List.mem_of_mem_drop hb')
      ·exact h.qn k b' hb'
     ·show x.s.Q.dS+1=1
      have:x.s.Q.dS=0:=dS
      omega
     ·rcases eP a ha hr with ⟨b0,B,k,e1,e2,e3⟩|⟨B,k,j,e1,e2,e3⟩|⟨sl,e1,_⟩
      ·cases e1
      ·by_cases hbB:B=b
       ·refine .inr (.inr ⟨_,rfl,?_⟩)
        have ho:x.s.H.iC a=some (B,k):=by rw [hown];exact e1
        rw [<- hbB]
        exact (DW ho).2
       ·refine .inr (.inl ⟨B,k,j,e1,e2,?_⟩)
        rw [htk j]
        split
        ·rename_i ej
         rw [ej,hr1] at e3
         rw [hr1]
         rcases ajN.1 e3 with g|g
         ·exfalso;rw [hBz] at g;exact hbB (by omega)
         ·exact g
        ·exact e3
      ·cases e1
 | block sl =>
   have h6:x.aC.phase=6:=fQ
   have hnw:∀ m u,x.aC.next ≠ .dJ m u:=by rw [hd];intro m u e;cases e
   have hop:x.s.Q.dS=1:=dS
   cases sl with
   | nil =>
     refine ⟨dead,?_,.inl ⟨rfl,rfl⟩⟩
     show qF p { x with s:={ x.s with Q:=x.s.Q.wO },aC:={ x.aC with next := .eX } } dead
     refine h.go hnw uP h.qn (by show x.s.Q.dS - 1=0;omega) (fun hr=>by cases hr) h6 (fun a ha hr=>?_)
     rcases eP a ha hr with ⟨b0,B,k,e1,e2,e3⟩|g|⟨sl,e1,e2⟩
     ·cases e1
     ·exact .inr (.inl g)
     ·cases e1;cases e2
   | cons a r =>
     have hce:x.s.H.bn a=true->p.H.bn a=true/\a∉dead:=(h.bn a).1
     have hcc:(x.s.H.iU a==x.aC.aP)=true↔x.s.H.co a=p.kb:=by
      rw [oG]
      exact FZ (p:={ p with H:=x.s.H }) hk2 (f:=x.s.H.co) a
     by_cases hc:(!x.s.H.bn a||x.s.H.iU a==x.aC.aP)=true
     ·refine ⟨dead,?_,.inl ⟨by simp only [aN];rw [aZ hc],rfl⟩⟩
      have e:fJ x (.block (a::r))={ x with s:={ x.s with Q:=x.s.Q },aC:={ x.aC with next := .block r } }:=by
       unfold fJ
       simp only [aN]
       rw [aZ hc]
      rw [e]
      refine h.go hnw uP h.qn dS (fun hr=>by cases hr) h6 (fun a' ha hr=>?_)
      rcases eP a' ha hr with ⟨b0,B,k,e1,e2,e3⟩|g|⟨sl,e1,e2⟩
      ·cases e1
      ·exact .inr (.inl g)
      ·cases e1
       rcases ajN.1 e2 with g|g
       ·exfalso
        rw [g] at ha hr
        rw [ha,Bool.not_true,Bool.false_or] at hc
        exact hr ((h.co a (hce ha).1).1 (hcc.1 hc))
       ·exact .inr (.inr ⟨r,rfl,g⟩)
     ·have hc':x.s.H.bn a=true/\¬ x.s.H.co a=p.kb:=by
       simp only [alv,alx,not_or] at hc
       exact ⟨by simpa using hc.1,fun h2=>hc.2 (hcc.2 h2)⟩
      obtain ⟨hba,hna⟩:=hc'
      obtain ⟨hpa,hda⟩:=hce hba
      have hra:¬ p.lq a:=fun hr=>hna ((h.co a hpa).2 hr)
      have fr:=h.gU.free hba
      refine ⟨dead++[a],?_,.inr ⟨a,by simp only [aN];rw [aT hc],rfl,?_⟩⟩
      ·have e:fJ x (.block (a::r))={ x with s:={ x.s with H:=x.s.H.jH a },aC:={ x.aC with next := .block r } }:=by
        unfold fJ
        simp only [aN]
        rw [aT hc]
       rw [e]
       refine ⟨h.k2,h.mu8,h.aG,h.tY,h.box,h.jw,h.rY,h.uG,h.uz,fr.gU,fun c=>?_,fun c hcp=>?_,?_,fun c hcd=>?_,?_,fun c hcr=>?_,h.bd,fun i m hm=>?_,fun i hi hp=>?_,h.tZ,h.bD,h.fl,uP,h.qn,dS,fun hr=>?_,h6,fun c hcb hcr=>?_⟩
       ·show (x.s.H.jH a).bn c=true↔_
        rw [fr.bn]
        by_cases e:c=a
        ·rw [aZ e,e];simp
        ·rw [aT e,h.bn c];simp [e]
       ·show (x.s.H.jH a).co c=_↔_
        rw [fr.co];exact h.co c hcp
       ·rw [List.nodup_append]
        refine ⟨h.nd,by simp,fun u hu v hv=>?_⟩
        rw [alo.1 hv]
        intro e;rw [e] at hu;exact hda hu
       ·rcases aln.1 hcd with g|g
        ·exact h.dd c g
        ·rw [alo.1 g];exact ⟨hpa,hra⟩
       ·show (x.s.H.jH a).K=_/\(x.s.H.jH a).b=_/\(x.s.H.jH a).ww=_/\(x.s.H.jH a).c=_/\(x.s.H.jH a).cells=_
        rw [fr.K,fr.b,fr.ww,fr.c,fr.cells];exact h.xG
       ·have hcb:x.s.H.bn c=true:=(h.bn c).2 ⟨hcr.bn,fun hd=>(h.dd c hd).2 hcr⟩
        have hca:c≠a:=fun e=>hra (by rw [<- e];exact hcr)
        obtain ⟨f1,f2⟩:=fr.mM c hcb hca
        obtain ⟨f3,f4⟩:=h.mM c hcr
        exact ⟨f1.trans f3,fun j=>(f2 j).trans (f4 j)⟩
       ·have g:=h.gW i m hm
        exact ⟨g.id,g.prog,g.aW,g.lg,g.dQ,g.aP,g.aY,g.nx,g.kind⟩
       ·have hp':x.s.B.bF (i:Int)=true:=hp
        rw [h.pz hnw hi] at hp';cases hp'
       ·cases hr
       ·have hcb':(x.s.H.jH a).bn c=true:=hcb
        rw [fr.bn] at hcb'
        split at hcb'
        ·cases hcb'
        ·rename_i hca
         rcases eP c hcb' hcr with ⟨b0,B,k,e1,e2,e3⟩|g|⟨sl,e1,e2⟩
         ·cases e1
         ·exact .inr (.inl g)
         ·cases e1
          rcases ajN.1 e2 with g|g
          ·exact absurd g hca
          ·exact .inr (.inr ⟨r,rfl,g⟩)
      ·show (fJ x (.block (a::r))).s.H.bn a=false
       unfold fJ
       simp only [aN]
       rw [aT hc]
       show (x.s.H.jH a).bn a=false
       rw [fr.bn,aZ rfl]
 | jR =>
   have h6:x.aC.phase=6:=fQ
   have hnw:∀ m u,x.aC.next ≠ .dJ m u:=by rw [hd];intro m u e;cases e
   have hop:x.s.Q.dS=0:=dS
   have hqe:∀ k,x.s.Q.rw k=[]:=qe rfl
   have hrs:x.s.Q.jR=true:=by
    unfold Qu.jR Qu.sum Qu.sum Qu.sum Qu.sum Qu.sum
    have h0:=hqe 0;have h1:=hqe 1;have h2:=hqe 2;have h3:=hqe 3
    unfold Qu.rw at h0 h1 h2 h3
    rw [h0,h1,h2,h3,hop];rfl
   refine ⟨dead,?_,.inl ⟨rfl,rfl⟩⟩
   have e:fJ x .jR={ x with s:={ x.s with Q:=x.s.Q },aC:={ x.aC with next := .off } }:=by
    unfold fJ
    simp only [aN]
    rw [hrs];rfl
   rw [e]
   refine h.go hnw uP h.qn dS (fun _=>hqe) h6 (fun a ha hr=>?_)
   rcases eP a ha hr with ⟨b0,B,k,e1,e2,e3⟩|⟨B,k,j,e1,e2,e3⟩|⟨sl,e1,e2⟩
   ·cases e1
   ·rw [hqe j] at e3;cases e3
   ·cases e1
 | off =>
   have h6:x.aC.phase=6:=fQ
   have hnw:∀ m u,x.aC.next ≠ .dJ m u:=by rw [hd];intro m u e;cases e
   have hop:x.s.Q.dS=0:=dS
   have hqe:∀ k,x.s.Q.rw k=[]:=qe rfl
   obtain ⟨b1,b2,b3⟩:=h.bd.qR (fun i hi=>h.pz hnw hi) 7
   refine ⟨dead,?_,.inl ⟨rfl,rfl⟩⟩
   show qF p { x with s:=x.s.qR 7,aC:={ x.aC with phase:=7,next := .dJ 0 .jE } } dead
   refine ⟨h.k2,h.mu8,h.aG,h.tY,h.box,h.jw,h.rY,h.uG,h.uz,h.gU,h.bn,h.co,h.nd,h.dd,h.xG,h.mM,b1,fun i m hm=>?_,fun i hi hp=>⟨0,.jE,rfl,aki _⟩,h.tZ,h.bD,h.fl,uP,h.qn,hop,fun _=>hqe,⟨rfl,by omega,rfl⟩,fun a ha hr=>?_⟩
   ·have g:=h.gW i m hm
    have hi:=h.vP hm
    refine ⟨g.id,g.prog,g.aW,g.lg,g.dQ,g.aP,g.aY,.inl (g.nx.resolve_right (fun hh=>?_)),fun _=>b3⟩
    rw [h.pz hnw hi] at hh;cases hh.2
   ·rcases eP a ha hr with ⟨b0,B,k,e1,e2,e3⟩|⟨B,k,j,e1,e2,e3⟩|⟨sl,e1,e2⟩
    ·cases e1
    ·rw [hqe j] at e3;cases e3
    ·cases e1
 | dJ mm t =>
   obtain ⟨h7,hm,rfl⟩:=fQ
   have hop:x.s.Q.dS=0:=dS
   have hqe:∀ k,x.s.Q.rw k=[]:=qe rfl
   have Dj:=EX h.bd hm
   have hno:∀ a,x.s.H.bn a=true->¬ p.lq a->False:=fun a ha hr=>by
    rcases eP a ha hr with ⟨b0,B,k,e1,e2,e3⟩|⟨B,k,j,e1,e2,e3⟩|⟨sl,e1,e2⟩
    ·cases e1
    ·rw [hqe j] at e3;cases e3
    ·cases e1
   have key:∀ d':CD,(∀ i,i<p.mu->x.s.B.bF (i:Int)=true->∃ m t,d' = .dJ m t/\m<=i)->p.Oh x.aC.phase d'->Ag d'=false->qF p { x with aC:={ x.aC with next:=d' } } dead:=fun d' g1 g2 g3 =>
    ⟨h.k2,h.mu8,h.aG,h.tY,h.box,h.jw,h.rY,h.uG,h.uz,h.gU,h.bn,h.co,h.nd,h.dd,h.xG,h.mM,h.bd,h.gW,g1,h.tZ,h.bD,h.fl,uP,h.qn,by show x.s.Q.dS=if Ag d' then 1 else 0;rw [g3];exact hop,fun _=>hqe,g2,fun a ha hr=>(hno a ha hr).elim⟩
   have hwt:∀ i,i<p.mu->x.s.B.bF (i:Int)=true->mm<=i:=fun i hi hp=>by
    obtain ⟨m',t',e,hle⟩:=h.wt i hi hp
    rw [hd] at e;cases e;exact hle
   have hcm:=h.tY
   refine ⟨dead,?_,.inl ⟨rfl,rfl⟩⟩
   unfold fJ
   simp only [aN]
   by_cases hp:x.s.B.bF (mm:Int)=true
   ·rw [Dj,hp,aZ (by decide)]
    exact key (.dJ mm .jE) (fun i hi hp=>⟨mm,.jE,rfl,hwt i hi hp⟩) ⟨h7,hm,rfl⟩ rfl
   ·have hp0:x.s.B.bF (mm:Int)=false:=by simpa using hp
    rw [Dj,hp0,aT (by decide)]
    have hwt2:∀ i,i<p.mu->x.s.B.bF (i:Int)=true->mm+1<=i:=fun i hi hq=>by
     have:=hwt i hi hq
     rcases ajz mm i with g|g
     ·exact g
     ·have:i=mm:=by omega
      subst this
      rw [hp0] at hq;cases hq
    by_cases hl:mm+1<x.aC.aG
    ·rw [aZ hl]
     exact key (.dJ (mm+1) .jE) (fun i hi hp=>⟨mm+1,.jE,rfl,hwt2 i hi hp⟩) ⟨h7,by omega,rfl⟩ rfl
    ·rw [aT hl]
     refine key .jE (fun i hi hp=>?_) h7 rfl
     have:=hwt2 i hi hp;omega
 | jE=>exact absurd rfl hne
 | _=>exact fQ.elim
end
structure IM (κ:Nat) (i:Nat) (m:MS):Prop where
 id:m.id=i
 prog:m.prog.length<=m.dG.length
 lg:1<=m.c.l.toNat
 aP:m.aP=κ
 aY:m.aY=[]
 nx:m.next = .nil
structure wu (mu bl ce κ:Nat) (x:WS):Prop where
 k2:κ<2
 mu8:1<=mu/\mu<=8
 aG:x.aG.length=mu
 tY:x.aC.aG=mu
 box:x.s.aV.length=mu
 jw:x.aC.aP=κ
 rY:x.aC.dU=bl
 uG:x.aC.cells=ce
 hb:bl=x.s.H.b
 gU:eu x.s.H
 all:∀ a,x.s.H.bn a=true->x.s.H.co a=(κ==1)
 bd:BI mu x.s.B
 nop:∀ i,i<mu->x.s.B.bF (i:Int)=false
 gW:∀ i m,x.aG[i]?=some m->IM κ i m
 tZ:∀ i,x.s.box i=[]
 bD:x.aC.bD=[]
 fl:x.s.dw=false/\x.aC.over=false
 q:(∀ k,x.s.Q.rw k=[])/\x.s.Q.dS=0/\x.s.Q.rows.length=4
 ph:x.aC.phase=0
 nx:x.aC.next = .nil
def jd (mu bl ce κ:Nat) (x:WS):CP:=⟨x.s.H,1 - κ,mu,bl,ce,0,fun i=>((x.aG[i]?).map MS.aW).getD []⟩
def mW (x:WS):WS:={ x with s:=(mD x.s x.aC).s,aC:={ (mD x.s x.aC).c with next:=(mD x.s x.aC).next } }
section
variable {p:CP} {x y:WS} {s s':Sh} {m m':MS} {i l l' ph vO hf mu bl ce κ:Nat} {H:HS} {dead:List Nat} {q:Qu}
theorem wu.congr (h:wu mu bl ce κ x) (hs:y.s=x.s) (hm:y.aG=x.aG) (hc:y.aC.aG=x.aC.aG/\y.aC.aP=x.aC.aP/\y.aC.dU=x.aC.dU/\y.aC.cells=x.aC.cells/\y.aC.bD=x.aC.bD/\y.aC.over=x.aC.over/\y.aC.phase=x.aC.phase/\y.aC.next=x.aC.next):wu mu bl ce κ y:=by
 obtain ⟨e1,e2,e3,e4,e5,e6,e7,e8⟩:=hc
 exact ⟨h.k2,h.mu8,by rw [hm];exact h.aG,e1.trans h.tY,by rw [hs];exact h.box,e2.trans h.jw,e3.trans h.rY,e4.trans h.uG,by rw [hs];exact h.hb,by rw [hs];exact h.gU,by rw [hs];exact h.all,by rw [hs];exact h.bd,by rw [hs];exact h.nop,by rw [hm];exact h.gW,by rw [hs];exact h.tZ,e5.trans h.bD,by rw [hs,e6];exact h.fl,by rw [hs];exact h.q,e7.trans h.ph,e8.trans h.nx⟩
theorem wu.kU (h:wu mu bl ce κ x):jO (jd mu bl ce κ x) (mW x)/\(jd mu bl ce κ x).yu (mW x).aC.next/\(mD x.s x.aC).ev=some (x.aC.ev 2 (x.aC.cu+1))/\eu (jd mu bl ce κ x).H/\(jd mu bl ce κ x).bl=(jd mu bl ce κ x).H.b:=by
 obtain ⟨b1,b2,b3⟩:=h.bd.qR h.nop 1
 have hk2:=h.k2
 have hmu:=h.mu8
 have hnp:∀ a,x.s.H.bn a=true->¬ x.s.H.co a=(1 - κ==1):=fun a ha hc=>by
  rw [h.all a ha] at hc
  rcases (by omega:κ=0\/κ=1) with e|e<;>rw [e] at hc<;>cases hc
 refine ⟨⟨by show 1 - κ<2;omega,h.mu8,⟨x.s.H.co,rfl⟩,h.aG,h.tY,h.box,by show 1 - x.aC.aP=1 - κ;rw [h.jw],h.rY,h.uG,b1,fun i m hm=>?_,fun i hi hp=>⟨0,.uY,rfl,aki _⟩,⟨aje 1,by show 1<=5;omega⟩,⟨by show 0<mu;omega,.inl ⟨rfl,rfl⟩⟩,trivial,fun a ha=>?_,fun i v hv=>?_,fun a ha hc=>absurd hc (hnp a ha),trivial,(fun h4=>by exact absurd h4 (by show ¬ 4<=1;omega)),.inr fun a ha hc=>absurd hc (hnp a ha),fun j hj=>absurd hj (akU _),(fun hh=>by cases hh),(fun hh=>by cases hh),h.q⟩,trivial,rfl,h.gU,h.hb⟩
 ·have g:=h.gW i m hm
  have hi:i<mu:=by rw [<- h.aG];exact (ake.1 hm).1
  have hp:(mW x).s.B.bF (i:Int)=true:=(b2 i).trans (fK hi)
  refine ⟨g.id,g.prog,?_,g.lg,.inl ⟨rfl,hp⟩,?_,fun _=>g.nx,fun _=>b3,fun hn=>absurd g.nx hn,by rw [g.nx];trivial,by rw [g.nx];trivial,fun v hv=>?_,(fun h3=>by exact absurd h3 (by show ¬ 3<=1;omega)),(fun h5=>by cases h5)⟩
  ·have hm':x.aG[i]?=some m:=hm
   show m.aW=((x.aG[i]?).map MS.aW).getD []
   rw [hm'];rfl
  ·rw [aZ (.inl (by show 1<3;omega))]
   show m.aP=1 - (1 - κ)
   rw [g.aP];omega
  ·rw [g.aY] at hv;cases hv
 ·have ha':a∈x.aC.bD:=ha
  rw [h.bD] at ha';cases ha'
 ·have hv':v∈x.s.box i:=hv
  rw [h.tZ] at hv';cases hv'
theorem qF.toIdle (h:qF p x dead) (hd:x.aC.next = .jE):wu p.mu p.bl p.ce p.κ (fJ x .jE)/\(aN x.s x.aC .jE).ev=some (x.aC.ev 4 x.aC.cu)/\(∀ a,x.s.H.bn a=true↔p.lq a):=by
 have hnw:∀ m u,x.aC.next ≠ .dJ m u:=by rw [hd];intro m u e;cases e
 have dS:=h.dS;have qe:=h.qe;have eP:=h.eP
 rw [hd] at dS qe eP
 have hqe:∀ k,x.s.Q.rw k=[]:=qe rfl
 have hall:∀ a,x.s.H.bn a=true->p.lq a:=fun a ha=>Classical.byContradiction fun hr=>by
  rcases eP a ha hr with ⟨b0,B,k,e1,e2,e3⟩|⟨B,k,j,e1,e2,e3⟩|⟨sl,e1,e2⟩
  ·cases e1
  ·rw [hqe j] at e3;cases e3
  ·cases e1
 refine ⟨⟨h.k2,h.mu8,h.aG,h.tY,h.box,h.jw,h.rY,h.uG,?_,h.gU,fun a ha=>?_,h.bd,fun i hi=>h.pz hnw hi,fun i m hm=>?_,h.tZ,h.bD,h.fl,⟨hqe,dS,h.ql⟩,rfl,rfl⟩,rfl,fun a=>⟨hall a,fun hr=>(h.bn a).2 ⟨hr.bn,fun hdd=>(h.dd a hdd).2 hr⟩⟩⟩
 ·show p.bl=x.s.H.b
  rw [h.xG.2.1];exact h.uz
 ·have ha':x.s.H.bn a=true:=ha
  exact (h.co a ((h.bn a).1 ha').1).2 (hall a ha')
 ·have g:=h.gW i m hm
  refine ⟨g.id,g.prog,g.lg,g.aP,g.aY,g.nx.resolve_right (fun hh=>?_)⟩
  rw [h.pz hnw (h.vP hm)] at hh;cases hh.2
theorem wu.Oi (h:wu mu bl ce κ x) (hm:x.aG[i]?=some m):dV x.s m=(x.s,{ m with aU:=1,mg:=false },none)/\wu mu bl ce κ { x with aG:=x.aG.set i { m with aU:=1,mg:=false } }:=by
 have g:=h.gW i m hm
 have hlt:=(ake.1 hm).1
 have hi:i<mu:=by rw [<- h.aG];exact hlt
 have hp:=h.nop i hi
 have hb:fG x.s m = .nil:=by
  unfold fG
  rw [g.id,hp,aT (by decide),ajK g.prog]
 have e:dV x.s m=(x.s,{ m with aU:=1,mg:=false },none):=by
  unfold dV
  rw [aZ (by rw [g.nx];rfl),hb,g.id,hp,<- g.nx]
 refine ⟨e,h.k2,h.mu8,by show (x.aG.set i _).length=mu;rw [aku];exact h.aG,h.tY,h.box,h.jw,h.rY,h.uG,h.hb,h.gU,h.all,h.bd,h.nop,fun j mj hj=>?_,h.tZ,h.bD,h.fl,h.q,h.ph,h.nx⟩
 have hj':(x.aG.set i { m with aU:=1,mg:=false })[j]?=some mj:=hj
 by_cases ej:j=i
 ·subst ej
  rw [ajA hlt] at hj'
  cases hj'
  exact ⟨g.id,g.prog,g.lg,g.aP,g.aY,g.nx⟩
 ·rw [ajB (fun e'=>ej e'.symm)] at hj'
  exact h.gW j mj hj'
inductive oO (p:CP):WS->List Nat->Prop
 | mark {x:WS}:jO p x->p.yu x.aC.next->oO p x []
 | eX {x:WS} {dead:List Nat}:qF p x dead->oO p x dead
theorem yw (x:WS) {i:Nat} {m:MS} (hm:x.aG[i]?=some m):(eY x i).s=(dV x.s m).1/\(eY x i).aG=x.aG.set i (dV x.s m).2.1/\(eY x i).aC=x.aC:=by
 unfold eY
 rw [hm]
 cases h:(dV x.s m).2.2<;>exact ⟨by simp only [h,WS.qC],by simp only [h,WS.qC],by simp only [h,WS.qC]⟩
theorem oO.congr (h:oO p x dead) (hs:y.s=x.s) (hm:y.aG=x.aG) (hc:y.aC=x.aC):oO p y dead:=by
 cases h with
 | mark h1 h2=>exact .mark (h1.congr hs hm hc) (by rw [hc];exact h2)
 | eX h1=>exact .eX (h1.congr hs hm hc)
theorem oO.Oi (hI:eu p.H) (hb:p.bl=p.H.b) (h:oO p x dead) (hm:x.aG[i]?=some m):oO p (eY x i) dead/\(dV x.s m).2.2=none:=by
 obtain ⟨e1,e2,e3⟩:=yw x hm
 cases h with
 | mark h1 h2 =>
   obtain ⟨u,_,g⟩:=Kq (hI.MX hb) h1 hm
   refine ⟨?_,g⟩
   have:=h1.mu hm u
   exact .mark (this.congr e1 e2 e3) (by rw [e3];exact h2)
 | eX h1 =>
   obtain ⟨s',m',g1,g2,_⟩:=Ep h1 hm
   rw [g1] at e1 e2 ⊢
   exact ⟨.eX (g2.congr e1 e2 e3),rfl⟩
inductive F8 (p:CP) (x:WS) (dead:List Nat) (x':WS) (jZ:List Nat) (ev:Option Ev):Prop
 | none:ev=none->jZ=dead->oO p x' jZ->F8 p x dead x' jZ ev
 | fP:ev=some (x.aC.ev 3 x.aC.cu)->jZ=[]->dead=[]->oO p x' jZ->x.aC.next = .fP->x'.aC.phase=6->x'.aC.bD=[]->(∀ a,p.lq a↔p.H.bn a=true/\x'.s.H.co a=p.kb)->x'.s.H.bn=p.H.bn->F8 p x dead x' jZ ev
 | adO {a:Nat}:ev=some (x.aC.ev 5 a)->jZ=dead++[a]->oO p x' jZ->qF p x dead->x'.s.H.bn a=false->F8 p x dead x' jZ ev
 | aaL:ev=some (x.aC.ev 4 x.aC.cu)->jZ=dead->wu p.mu p.bl p.ce p.κ x'->qF p x dead->x.aC.next = .jE->x'=fJ x .jE->(∀ a,x'.s.H.bn a=true↔p.lq a)->F8 p x dead x' jZ ev
theorem oO.step (hI:eu p.H) (hb:p.bl=p.H.b) (h:oO p x dead) (d:CD) (hd:x.aC.next=d):∃ jZ,F8 p x dead (fJ x d) jZ (aN x.s x.aC d).ev:=by
 cases h with
 | mark h1 h2 =>
   by_cases e:d = .fP
   ·subst e
    obtain ⟨g1,g2⟩:=h1.toSweep hI hb hd
    obtain ⟨m1,_,_,_,_,m6,_⟩:=h1.fP (hI.MX hb) hd
    obtain ⟨f,hH⟩:=h1.heap
    exact ⟨[],.fP g2 rfl rfl (.eX g1) hd rfl m6 m1 (by show x.s.H.bn=_;rw [hH])⟩
   ·obtain ⟨g1,g2,g3⟩:=BG (hI.MX hb) h1 h2 d hd e
    exact ⟨[],.none g3 rfl (.mark g1 g2)⟩
 | eX h1 =>
   by_cases e:d = .jE
   ·subst e
    obtain ⟨g1,g2,g3⟩:=h1.toIdle hd
    exact ⟨dead,.aaL g2 rfl g1 h1 hd rfl g3⟩
   ·obtain ⟨jZ,g1,g2⟩:=VH h1 d hd e
    rcases g2 with ⟨g2,rfl⟩|⟨a,g2,rfl,g3⟩
    ·exact ⟨_,.none g2 rfl (.eX g1)⟩
    ·exact ⟨_,.adO g2 rfl (.eX g1) h1 g3⟩
theorem oO.busy (h:oO p x dead):uo x.aC.next=false:=by
 cases h with
 | mark h1 h2 =>
   have:=h1.fQ
   cases e:x.aC.next with
   | nil=>rw [e] at this;exact this.elim
   | _=>rfl
 | eX h1 =>
   have:=h1.fQ
   cases e:x.aC.next with
   | nil=>rw [e] at this;exact this.elim
   | _=>rfl
theorem oO.acX (hI:eu p.H) (hb:p.bl=p.H.b) (h:oO p x dead):∃ jZ,F8 p x dead { x with s:=(dX x.s x.aC).s,aC:=(dX x.s x.aC).c } jZ (dX x.s x.aC).ev:=by
 obtain ⟨jZ,g⟩:=h.step hI hb x.aC.next rfl
 refine ⟨jZ,?_⟩
 have e:dX x.s x.aC=⟨(aN x.s x.aC x.aC.next).s,{ (aN x.s x.aC x.aC.next).c with next:=(aN x.s x.aC x.aC.next).next },(aN x.s x.aC x.aC.next).next,(aN x.s x.aC x.aC.next).ev⟩:=by
  unfold dX
  rw [h.busy];rfl
 rw [e]
 exact g
end
def vC (f:Nat->Nat):Nat->Nat
 | 0=>0
 | n+1=>vC f n+f n
theorem F9 {f g:Nat->Nat}:∀ {n:Nat},(∀ i,i<n->f i=g i)->vC f n=vC g n
 | 0,_=>rfl
 | n+1,h=>by show vC f n+f n=vC g n+g n;rw [F9 (fun i hi=>h i (by omega)),h n (by omega)]
theorem Oj {f g:Nat->Nat}:∀ {n:Nat} (c:Nat),(∀ i,i<n->f i<=g i+c)->vC f n<=vC g n+n*c
 | 0,_,_=>by simp [vC]
 | n+1,c,h=>by
   have h1:=Oj (n:=n) c (fun i hi=>h i (by omega))
   have h2:=h n (by omega)
   show vC f n+f n<=vC g n+g n+(n+1)*c
   rw [ajF,ajG];omega
theorem Kt {f g:Nat->Nat} {i:Nat}:∀ {n:Nat},i<n->(∀ j,j≠i->f j=g j)->vC g n+f i=vC f n+g i
 | 0,h,_=>absurd h (akU _)
 | n+1,hi,h=>by
   show vC g n+g n+f i=vC f n+f n+g i
   by_cases e:i=n
   ·subst e
    rw [F9 (f:=f) (g:=g) (fun j hj=>h j (by omega))];omega
   ·have:=Kt (n:=n) (by omega) h
    rw [h n (fun e'=>e e'.symm)];omega
def CP.ak (p:CP) (R:Nat):Nat:=p.mu*(8*R+6)
def CP.rM (p:CP) (hf R:Nat):Nat:=1+p.bl*(hf+4)+(p.ak R+5)
def CP.dr (p:CP) (R:Nat):Nat:=p.ak R+p.mu+4
def CP.rW (p:CP) (hf R:Nat):Nat:=p.mu+3+p.rM hf R
def CP.wk (p:CP) (hf R:Nat):Nat:=p.dr R+p.bl*(34*hf+1)+p.mu+4
def CP.kD (p:CP) (hf R:Nat):Nat:=34+p.wk hf R+p.dr R+p.mu+2
def CP.rT (p:CP) (hf R:Nat):Nat:=1+p.dr R+2*p.ce+p.rW hf R
def CP.rk (p:CP) (hf R:Nat):CD->Nat
 | .nil=>0
 | .jE=>1
 | .off=>p.ak R+3
 | .jR=>p.ak R+4
 | .eX=>p.ak R+5
 | .iJ b=>(p.bl - b)*(hf+4)+(p.ak R+5)
 | .block sl=>sl.length+1+(p.ak R+5)
 | .fP=>p.rM hf R
 | .jV=>1+p.rM hf R
 | .over=>2+p.rM hf R
 | .box m=>(p.mu - m)+2+p.rM hf R
 | .work=>p.rW hf R
 | .cell i=>2*(p.ce - i)+p.rW hf R
 | .trace=>p.rT hf R
 | .sW=>1+p.ak R+p.rT hf R
 | .uY=>2+p.ak R+p.ak R+p.rT hf R
 | .dJ m t=>(p.mu - m)+CP.rk p hf R t
 | .lC _ t=>1+CP.rk p hf R t
 | .iD _ t=>32+CP.rk p hf R t
 | .field _ i n t=>2*(n - i)+1+CP.rk p hf R t
 | .iy b=>(p.bl - b)*(34*hf+1)+p.rW hf R
 | .bH l t=>34*l.length+CP.rk p hf R t
 | .ig t=>1+CP.rk p hf R t
def l7:CD->Bool
 | .box _=>true
 | .lC _ t=>l7 t
 | _=>false
def vF (x:WS) (i:Nat):Nat:=match x.aG[i]? with
 | some m=>iq x.s i m+2*(x.s.box i).length
 | none=>0
def CP.T (p:CP) (x:WS):Nat:=vC (vF x) p.mu
def wV (x:WS):Bool:=x.s.dw||x.aC.over||x.aG.any (fun m=>lM m.next)
def dB (x:WS):Bool:=x.aC.dP||x.aC.phase==4
def uf (x:WS):Bool:=l7 x.aC.next && !x.aC.bD.isEmpty
def Qu.qs (q:Qu):Nat:=(q.rw 0).length+(q.rw 1).length+(q.rw 2).length+(q.rw 3).length
def CP.nN (p:CP) (hf R:Nat) (x:WS):Nat :=
 p.T x+p.rk hf R x.aC.next+33*x.aC.bD.length+(if uf x then p.mu+1 else 0)+p.U x.s.H.co*p.kD hf R+(if wV x then p.wk hf R else 0)+(if dB x then p.dr R else 0)+x.s.Q.qs*(hf+3)
section
variable {p:CP} {x y:WS} {s s':Sh} {m m':MS} {i l l' ph vO hf R mu bl ce κ:Nat} {H:HS} {dead:List Nat} {q:Qu}
theorem DX (hs:y.s=x.s) (hm:y.aG=x.aG) (hc:y.aC=x.aC):p.nN hf R y=p.nN hf R x:=by
 obtain ⟨a,b,c,d,e⟩:=x
 obtain ⟨a',b',c',d',e'⟩:=y
 cases hs;cases hm;cases hc
 rfl
theorem aeL (hB:s'.B=s.B):iq s' i m=iq s i m:=by
 unfold iq fG
 rw [hB]
theorem agq {H:HS} {Q:Qu} {fl:Bool} {c:CS}:p.T { x with s:={ x.s with H:=H,Q:=Q,dw:=fl },aC:=c }=p.T x:=by
 unfold CP.T
 refine F9 fun i _=>?_
 unfold vF
 show (match x.aG[i]? with|some m=>_|none=>0)=(match x.aG[i]? with|some m=>_|none=>0)
 cases x.aG[i]? with
 | none=>rfl
 | some m=>exact congrArg (· + 2*(x.s.box i).length) (aeL rfl)
theorem PU {b c:Bool} {n:Nat} (h:b=true->c=true):(if b then n else 0)<=if c then n else 0:=by
 cases b with
 | false=>exact aki _
 | true=>rw [h rfl];exact aje _
theorem aeM (hI:eu p.H) (hb:p.bl=p.H.b) (h:oO p x dead) (hm:x.aG[i]?=some m):p.nN hf R (eY x i)+(if x.s.B.bF (i:Int) then 1 else 0)<=p.nN hf R x:=by
 obtain ⟨e1,e2,e3⟩:=yw x hm
 have hlt:=(ake.1 hm).1
 have Az:i<p.mu:=by cases h with
  | mark h1 _=>exact h1.vP hm
  | eX h1=>exact h1.vP hm
 have key:∀ (s':Sh) (m':MS),(∀ j,j≠i->s'.box j=x.s.box j)->(∀ j:Nat,j≠i->s'.B.bF (j:Int)=x.s.B.bF (j:Int))->s'.B.kind=x.s.B.kind->(∀ (j:Nat) (mj:MS),x.aG[j]?=some mj->mj.id=j)->s'.Q=x.s.Q ->
  iq s' i m'+2*(s'.box i).length+(if x.s.B.bF (i:Int) then 1 else 0)<=iq x.s i m+2*(x.s.box i).length ->
  (p.U s'.H.co+1<=p.U x.s.H.co\/(p.U s'.H.co=p.U x.s.H.co/\(lM m'.next=true\/s'.dw=true->lM m.next=true\/x.s.dw=true))) ->
  p.nN hf R { x with s:=s',aG:=x.aG.set i m' }+(if x.s.B.bF (i:Int) then 1 else 0)<=p.nN hf R x:=fun s' m' xq hpo hk hid hQ hc hu=>by
  have hT:p.T { x with s:=s',aG:=x.aG.set i m' }+(if x.s.B.bF (i:Int) then 1 else 0)<=p.T x:=by
   have hup:=Kt (f:=vF x) (g:=vF { x with s:=s',aG:=x.aG.set i m' }) Az (fun j hj=>by
    unfold vF
    show _=(match (x.aG.set i m')[j]? with|some m=>_|none=>0)
    rw [ajB (fun e=>hj e.symm)]
    cases hmj:x.aG[j]? with
    | none=>rfl
    | some mj =>
      have e1:iq s' j mj=iq x.s j mj:=by
       have hj':=hid j mj hmj
       unfold iq fG
       rw [hj',hpo j hj,hk]
      show iq x.s j mj+2*(x.s.box j).length=iq s' j mj+2*(s'.box j).length
      rw [e1,xq j hj])
   have g1:vF x i=iq x.s i m+2*(x.s.box i).length:=by unfold vF;rw [hm]
   have g2:vF { x with s:=s',aG:=x.aG.set i m' } i=iq s' i m'+2*(s'.box i).length:=by
    unfold vF
    show (match (x.aG.set i m')[i]? with|some m=>_|none=>0)=_
    rw [ajA hlt]
   unfold CP.T
   rw [g1,g2] at hup
   omega
  unfold CP.nN
  have hQ2:({ x with s:=s',aG:=x.aG.set i m' }:WS).s.Q=x.s.Q:=hQ
  rw [hQ2]
  have hwb:p.wk hf R<=p.kD hf R:=by unfold CP.kD;omega
  rcases hu with hu|⟨hu,hpr⟩
  ·have h1:(p.U s'.H.co+1)*p.kD hf R<=p.U x.s.H.co*p.kD hf R:=Nat.mul_le_mul_right _ hu
   rw [ajF,ajG] at h1
   have h2:(if wV { x with s:=s',aG:=x.aG.set i m' }=true then p.wk hf R else 0)<=p.wk hf R:=by split<;>omega
   show p.T _+p.rk hf R x.aC.next+33*x.aC.bD.length+(if uf x=true then p.mu+1 else 0)+p.U s'.H.co*p.kD hf R+_+(if dB x=true then p.dr R else 0)+x.s.Q.qs*(hf+3)+_<=_
   omega
  ·have h2:(if wV { x with s:=s',aG:=x.aG.set i m' }=true then p.wk hf R else 0)<=(if wV x=true then p.wk hf R else 0):=PU fun hp=>by
    unfold wV at hp ⊢
    simp only [alv,akC] at hp ⊢
    have hmm:m∈x.aG:=aly.2 ⟨i,hm⟩
    have fin:lM m.next=true\/x.s.dw=true->(x.s.dw=true\/x.aC.over=true)\/∃ m,m∈x.aG/\lM m.next=true:=fun hh=>by
     rcases hh with hh|hh
     ·exact .inr ⟨m,hmm,hh⟩
     ·exact .inl (.inl hh)
    rcases hp with (hp|hp)|⟨mj,hj,hp⟩
    ·exact fin (hpr (.inr hp))
    ·exact .inl (.inr hp)
    ·obtain ⟨j,hj⟩:=aly.1 hj
     by_cases ej:j=i
     ·subst ej
      rw [ajA hlt] at hj
      cases hj
      exact fin (hpr (.inl hp))
     ·rw [ajB (fun e=>ej e.symm)] at hj
      exact .inr ⟨mj,aly.2 ⟨j,hj⟩,hp⟩
   show p.T _+p.rk hf R x.aC.next+33*x.aC.bD.length+(if uf x=true then p.mu+1 else 0)+p.U s'.H.co*p.kD hf R+_+(if dB x=true then p.dr R else 0)+x.s.Q.qs*(hf+3)+_<=_
   rw [hu]
   omega
 cases h with
 | mark h1 h2 =>
   obtain ⟨u,c,_⟩:=Kq (hI.MX hb) h1 hm
   have:=key (dV x.s m).1 (dV x.s m).2.1 u.MQ u.bF u.kind (fun j mj hj=>(h1.gW j mj hj).id) u.q c.J9 c.wo
   rw [DX (y:=eY x i) (x:={ x with s:=(dV x.s m).1,aG:=x.aG.set i (dV x.s m).2.1 }) e1 e2 e3]
   exact this
 | eX h1 =>
   obtain ⟨s',m',g1,g2,g3,g4,g5,g6,g7,g8,g9⟩:=Ep h1 hm
   rw [g1] at e1 e2
   have sm:=h1.gW i m hm
   have hbox:∀ j,s'.box j=x.s.box j:=fun j=>by unfold Sh.box;rw [g5]
   rw [DX (y:=eY x i) (x:={ x with s:=s',aG:=x.aG.set i m' }) e1 e2 e3]
   have qV:∀ (s:Sh) (m:MS),s.B.bF (m.id:Int)=true->s.B.kind=7->fG s m = .once 7:=fun s m h1 h2=>by
    unfold fG
    rw [h1,aZ rfl,h2,aT (by decide),aT (by decide)]
   have hkk:s'.B.kind=x.s.B.kind:=by
    have:=congrArg (fun z:Sh × MS × Option Ev=>z.1.B.kind) g1
    rw [<- this]
    obtain ⟨b1,b2,b3⟩:=h1.bd.mg i
    rcases sm.nx with e|⟨e,_⟩
    ·unfold dV
     rw [e];rfl
    ·have hst:∀ d,d=MD.once 7->(stepM x.s { m with aU:=m.aU+1 } d).s.B.kind=x.s.B.kind:=fun d e=>by
      rw [e]
      show (x.s.B.lV (m.id:Int)).kind=_
      rw [sm.id,b3]
     have hn:¬ jD m.next=true:=by rw [e];decide
     show (dV x.s m).1.B.kind=_
     unfold dV
     rw [aT hn]
     exact hst _ e
   refine key s' m' (fun j hj=>hbox j) g8 hkk (fun j mj hj=>(h1.gW j mj hj).id) g4 ?_ (.inr ⟨by rw [g3],fun hp=>?_⟩)
   ·rw [hbox i]
    have Jw:SM p s' i m':=by
     have:=g2.gW i m' (by show (x.aG.set i m')[i]?=some m';rw [ajA hlt])
     exact this
    by_cases hp:x.s.B.bF (i:Int)=true
    ·rw [aZ hp] at g9 ⊢
     rcases g9 with ⟨a1,a2,a3⟩|⟨a1,a2,a3⟩
     ·unfold iq
      rw [g6,sm.aY,hp,a3,a2,a1,qV x.s m (by rw [sm.id];exact hp) (sm.kind hp)]
      show 0+1+_+1<=0+(1+1)+_
      omega
     ·unfold iq
      rw [g6,sm.aY,hp,a3,a2,a1]
      show 0+0+_+1<=0+1+_
      omega
    ·rw [aT hp] at g9 ⊢
     obtain ⟨a1,a2,a3⟩:=g9
     have hp0:x.s.B.bF (i:Int)=false:=by simpa using hp
     unfold iq
     rw [g6,sm.aY,hp0,a3]
     exact aje _
   ·rw [g7] at hp
    rcases hp with hp|hp
    ·by_cases hq:x.s.B.bF (i:Int)=true
     ·rw [aZ hq] at g9
      rcases g9 with ⟨a1,a2,a3⟩|⟨a1,a2,a3⟩
      ·rw [a2] at hp;cases hp
      ·rw [a2] at hp;cases hp
     ·rw [aT hq] at g9
      rw [g9.1] at hp;cases hp
    ·exact .inr hp
end
section
variable {p:CP} {x y:WS} {s s':Sh} {m m':MS} {i l l' ph vO hf R mu bl ce κ:Nat} {H:HS} {dead:List Nat} {q:Qu}
theorem wz {H:HS} {Q:Qu} {fl:Bool} {c:CS} (h:p.rk hf R c.next+33*c.bD.length+(if l7 c.next && !c.bD.isEmpty then p.mu+1 else 0)+p.U H.co*p.kD hf R+(if (fl||c.over||x.aG.any (fun m=>lM m.next)) then p.wk hf R else 0)+(if (c.dP||c.phase==4) then p.dr R else 0)+Q.qs*(hf+3)+1 <=
 p.rk hf R x.aC.next+33*x.aC.bD.length+(if uf x then p.mu+1 else 0)+p.U x.s.H.co*p.kD hf R+(if wV x then p.wk hf R else 0)+(if dB x then p.dr R else 0)+x.s.Q.qs*(hf+3)):p.nN hf R { x with s:={ x.s with H:=H,Q:=Q,dw:=fl },aC:=c }+1<=p.nN hf R x:=by
 unfold CP.nN
 rw [agq]
 have e1:uf { x with s:={ x.s with H:=H,Q:=Q,dw:=fl },aC:=c }=(l7 c.next && !c.bD.isEmpty):=rfl
 have e2:wV { x with s:={ x.s with H:=H,Q:=Q,dw:=fl },aC:=c }=(fl||c.over||x.aG.any (fun m=>lM m.next)):=rfl
 have e3:dB { x with s:={ x.s with H:=H,Q:=Q,dw:=fl },aC:=c }=(c.dP||c.phase==4):=rfl
 rw [e1,e2,e3]
 show p.T x+p.rk hf R c.next+33*c.bD.length+_+p.U H.co*p.kD hf R+_+_+Q.qs*(hf+3)+1<=_
 omega
theorem Ah {Q:Qu} {st:List Nat} {d d':CD} (hd:x.aC.next=d) (h:p.rk hf R d'+33*st.length+(if l7 d' && !st.isEmpty then p.mu+1 else 0)+Q.qs*(hf+3)+1<=p.rk hf R d+33*x.aC.bD.length+(if l7 d && !x.aC.bD.isEmpty then p.mu+1 else 0)+x.s.Q.qs*(hf+3)):p.nN hf R { x with s:={ x.s with Q:=Q },aC:={ x.aC with bD:=st,next:=d' } }+1<=p.nN hf R x:=by
 refine wz (x:=x) (H:=x.s.H) (Q:=Q) (fl:=x.s.dw) (c:={ x.aC with bD:=st,next:=d' }) ?_
 have e1:uf x=(l7 d && !x.aC.bD.isEmpty):=by unfold uf;rw [hd]
 have e2:wV x=(x.s.dw||x.aC.over||x.aG.any (fun m=>lM m.next)):=rfl
 have e3:dB x=(x.aC.dP||x.aC.phase==4):=rfl
 rw [e1,e2,e3,hd]
 have key:p.rk hf R d'+33*st.length+(if l7 d' && !st.isEmpty then p.mu+1 else 0)+p.U x.s.H.co*p.kD hf R+(if (x.s.dw||x.aC.over||x.aG.any (fun m=>lM m.next)) then p.wk hf R else 0)+(if (x.aC.dP||x.aC.phase==4) then p.dr R else 0)+Q.qs*(hf+3)+1 <=
  p.rk hf R d+33*x.aC.bD.length+(if l7 d && !x.aC.bD.isEmpty then p.mu+1 else 0)+p.U x.s.H.co*p.kD hf R+(if (x.s.dw||x.aC.over||x.aG.any (fun m=>lM m.next)) then p.wk hf R else 0)+(if (x.aC.dP||x.aC.phase==4) then p.dr R else 0)+x.s.Q.qs*(hf+3):=by omega
 exact key
theorem ku {d d':CD} (hd:x.aC.next=d) (hx:l7 d'=true->l7 d=true) (h:p.rk hf R d'+1<=p.rk hf R d):p.nN hf R { x with aC:={ x.aC with next:=d' } }+1<=p.nN hf R x:=by
 refine Ah (x:=x) (Q:=x.s.Q) (st:=x.aC.bD) hd ?_
 have:(if (l7 d' && !x.aC.bD.isEmpty)=true then p.mu+1 else 0)<=if (l7 d && !x.aC.bD.isEmpty)=true then p.mu+1 else 0:=PU fun hb=>by
  rw [Bool.and_eq_true] at hb ⊢
  exact ⟨hx hb.1,hb.2⟩
 omega
theorem I8 {k:Nat} {t:CD} {c:CS} (hT:∀ i m,x.aG[i]?=some m->iq (x.s.qR k) i m<=iq x.s i m+(8*R+5)) (ht:l7 t=false) (hc:c.bD=x.aC.bD/\c.over=x.aC.over)
 (h:p.mu+p.rk hf R t+p.mu*(8*R+5)+(if (c.dP||k==4) then p.dr R else 0)+1<=p.rk hf R x.aC.next+(if dB x then p.dr R else 0)):p.nN hf R { x with s:=x.s.qR k,aC:={ c with phase:=k,next := .dJ 0 t } }+1<=p.nN hf R x:=by
 have hTT:p.T { x with s:=x.s.qR k,aC:={ c with phase:=k,next := .dJ 0 t } }<=p.T x+p.mu*(8*R+5):=by
  unfold CP.T
  refine Oj _ fun i _=>?_
  unfold vF
  show (match x.aG[i]? with|some m=>_|none=>0)<=(match x.aG[i]? with|some m=>_|none=>0)+_
  cases hm:x.aG[i]? with
  | none=>exact aki _
  | some m =>
    have:=hT i m hm
    show iq (x.s.qR k) i m+2*(x.s.box i).length<=iq x.s i m+2*(x.s.box i).length+(8*R+5)
    omega
 unfold CP.nN
 have e1:uf { x with s:=x.s.qR k,aC:={ c with phase:=k,next := .dJ 0 t } }=false:=rfl
 have e2:wV { x with s:=x.s.qR k,aC:={ c with phase:=k,next := .dJ 0 t } }=wV x:=by
  show (x.s.dw||c.over||_)=(x.s.dw||x.aC.over||_)
  rw [hc.2]
 have e3:dB { x with s:=x.s.qR k,aC:={ c with phase:=k,next := .dJ 0 t } }=(c.dP||k==4):=rfl
 rw [e1,e2,e3]
 generalize p.T { x with s:=x.s.qR k,aC:={ c with phase:=k,next := .dJ 0 t } }=T' at *
 have key:T'+(p.mu - 0+p.rk hf R t)+33*x.aC.bD.length+0+p.U x.s.H.co*p.kD hf R+(if wV x then p.wk hf R else 0)+(if (c.dP||k==4) then p.dr R else 0)+x.s.Q.qs*(hf+3)+1 <=
  p.T x+p.rk hf R x.aC.next+33*x.aC.bD.length+(if uf x then p.mu+1 else 0)+p.U x.s.H.co*p.kD hf R+(if wV x then p.wk hf R else 0)+(if dB x then p.dr R else 0)+x.s.Q.qs*(hf+3):=by omega
 rw [<- hc.1] at key ⊢
 exact key
theorem Ku {v:Nat} {t:CD}:p.rk hf R (fC v t)<=1+p.rk hf R t:=by
 unfold fC
 split
 ·omega
 ·exact aje _
theorem Gf {v:Nat} {t:CD}:l7 (fC v t)=l7 t:=by
 unfold fC
 split<;>rfl
theorem Ul {c:CS} (hc:c.cells=p.ce) {i:Nat} (hi:i<=p.ce):p.rk hf R (c.iI i)=2*(p.ce - i)+p.rW hf R/\l7 (c.iI i)=false:=by
 unfold CS.iI
 rw [hc]
 split
 ·rename_i e
  refine ⟨?_,rfl⟩
  show p.rW hf R=_
  rw [e,alz];omega
 ·exact ⟨rfl,rfl⟩
theorem Um {c:CS} (hc:c.dU=p.bl) {b:Nat} (hb:b<=p.bl):p.rk hf R (c.iL b)=(p.bl - b)*(34*hf+1)+p.rW hf R/\l7 (c.iL b)=false:=by
 unfold CS.iL
 rw [hc]
 split
 ·rename_i e
  refine ⟨?_,rfl⟩
  show p.rW hf R=_
  rw [e,alz,Nat.zero_mul,Nat.zero_add]
 ·exact ⟨rfl,rfl⟩
theorem PV {a i n:Nat} {t:CD} (hi:i<=n) (ht:l7 t=false):p.rk hf R (fA a i n t)<=2*(n - i)+1+p.rk hf R t/\(i=n->p.rk hf R (fA a i n t)=p.rk hf R t)/\l7 (fA a i n t)=false:=by
 unfold fA
 split
 ·rename_i e
  exact ⟨by omega,fun _=>rfl,ht⟩
 ·rename_i e
  exact ⟨aje _,fun e'=>absurd e' e,rfl⟩
theorem PW {l:List Nat} {t:CD} (ht:l7 t=false):p.rk hf R (gX l t)=34*l.length+p.rk hf R t/\l7 (gX l t)=false:=by
 unfold gX
 split
 ·rename_i e
  rw [e]
  exact ⟨by simp,ht⟩
 ·exact ⟨rfl,rfl⟩
theorem WO {c:CS} (hc:c.dU=p.bl) {b:Nat} (hb:b<=p.bl):p.rk hf R (c.lW b)=(p.bl - b)*(hf+4)+(p.ak R+5)/\l7 (c.lW b)=false:=by
 unfold CS.lW
 rw [hc]
 split
 ·rename_i e
  refine ⟨?_,rfl⟩
  show p.ak R+5=_
  rw [e,alz,Nat.zero_mul,Nat.zero_add]
 ·exact ⟨rfl,rfl⟩
theorem WQ {t:CD} (h:Ie t):l7 t=false:=by
 cases t with
 | work=>rfl
 | iy b=>rfl
 | bH l t=>rfl
 | _=>exact h.elim
theorem WR {t:CD} (h:WE t):l7 t=false:=by
 cases t with
 | work=>rfl
 | ig t=>rfl
 | _=>exact h.elim
theorem agr (hl:q.rows.length=4) {k:Nat} (hk:k<4) (b:Int):(q.put (k:Int) b).qs=q.qs+1:=by
 have h0:=Iq hl hk b 0;have h1:=Iq hl hk b 1;have h2:=Iq hl hk b 2;have h3:=Iq hl hk b 3
 unfold Qu.qs
 rw [h0,h1,h2,h3]
 rcases (by omega:k=0\/k=1\/k=2\/k=3) with rfl|rfl|rfl|rfl<;>simp<;>omega
theorem aeN (hl:q.rows.length=4) {k:Nat} (hk:k<4) {a:Int} {r:List Int} (hr:q.rw k=a::r):(q.take (k:Int)).qs+1=q.qs:=by
 have h0:=EY hl hk 0;have h1:=EY hl hk 1;have h2:=EY hl hk 2;have h3:=EY hl hk 3
 unfold Qu.qs
 rw [h0,h1,h2,h3]
 rcases (by omega:k=0\/k=1\/k=2\/k=3) with rfl|rfl|rfl|rfl<;>rw [hr]<;>simp<;>omega
theorem Un {a b c:Nat} (h:b<a):(a - b)*c=(a - (b+1))*c+c:=by
 obtain ⟨d,rfl⟩:∃ d,a=b+1+d:=⟨a - (b+1),by omega⟩
 rw [show b+1+d - b=d+1 by omega,show b+1+d - (b+1)=d by omega,ajF,ajG]
theorem Kv (k:zB p hf) (hR:∀ i,(p.aW i).length<=R) (h:jO p x) (h':jO p y) (hm:y.aG=x.aG) (hn:∀ m t,x.aC.next ≠ .dJ m t):∀ i m,x.aG[i]?=some m->iq y.s i m<=iq x.s i m+(8*R+5):=fun i m hi=>by
 have g:=h.gW i m hi
 have hnil:=g.jE (h.pz hn (h.vP hi))
 have h1:=Ud k h' (by rw [hm];exact hi) hnil
 have h2:=hR i
 rw [g.aW] at h1
 have:3*m.aY.length<=iq x.s i m:=by unfold iq;omega
 omega
end
section
variable {p:CP} {x y:WS} {s s':Sh} {m m':MS} {i l l' ph vO hf R mu bl ce κ:Nat} {H:HS} {dead:List Nat} {q:Qu}
theorem Uo {l:List Nat} (h:l.getLast?=none):l=[]:=by
 rcases List.eq_nil_or_concat l with e|⟨l',b,e⟩
 ·exact e
 ·rw [e] at h;simp at h
theorem aaM (h:jO p x) (hn:∀ m t,x.aC.next ≠ .dJ m t):x.aG.any (fun m=>lM m.next)=false:=by
 rw [Bool.eq_false_iff]
 intro hh
 rw [akC] at hh
 obtain ⟨m,hm,hp⟩:=hh
 obtain ⟨i,hi⟩:=aly.1 hm
 have g:=h.gW i m hi
 rw [g.jE (h.pz hn (h.vP hi))] at hp
 cases hp
theorem acY (k:zB p hf) (hR:∀ i,(p.aW i).length<=R) (h:jO p x) (hw:p.yu x.aC.next) (d:CD) (hd:x.aC.next=d) (hx:∀ m t,d = .dJ m t->x.s.B.bF (m:Int)=false):p.nN hf R (fJ x d)+1<=p.nN hf R x:=by
 have hmu:=h.mu8
 have hk2:=h.k2
 have fQ:=h.fQ
 have mM:=h.mM
 rw [hd] at fQ mM
 obtain ⟨f,hH⟩:=h.heap
 have hco:x.s.H.co=f:=by rw [hH]
 have hfp:∀ a,x.s.H.dh a=p.H.dh a:=fun a=>by rw [hH];rfl
 have hsl:∀ b,x.s.H.bH b=p.H.bH b:=fun b=>by rw [hH];rfl
 have ags:=h.uG
 have hcbl:=h.rY
 have aiO:=h.tY
 cases d with
 | dJ mm t =>
   obtain ⟨hm,ht⟩:=fQ
   have hp0:=hx mm t rfl
   have Dj:=EX h.bd hm
   have hbt:l7 t=false:=by rcases ht with ⟨_,e⟩|⟨_,e⟩|⟨_,e⟩|⟨_,e⟩<;>rw [e]<;>rfl
   unfold fJ
   simp only [aN]
   rw [Dj,hp0,aT (by decide)]
   split
   ·refine ku hd (fun hb=>by cases hb) ?_
    show p.mu - (mm+1)+p.rk hf R t+1<=p.mu - mm+p.rk hf R t
    omega
   ·refine ku hd (fun hb=>by rw [hbt] at hb;cases hb) ?_
    show p.rk hf R t+1<=p.mu - mm+p.rk hf R t
    omega
 | uY =>
   have rC:x.aC.phase=1:=fQ
   have hnw:∀ m t,x.aC.next ≠ .dJ m t:=by rw [hd];intro m u e;cases e
   have h':=(BG k h hw .uY hd (fun e=>by cases e)).1
   have hT:=Kv k hR h h' rfl hnw
   refine I8 (k:=2) (t := .sW) (c:=x.aC) hT rfl ⟨rfl,rfl⟩ ?_
   rw [hd]
   have e2:dB x=x.aC.dP:=by unfold dB;rw [rC];simp
   have e3:(x.aC.dP||(2:Nat)==4)=x.aC.dP:=by simp
   rw [e2,e3]
   have ha:p.ak R=p.mu*(8*R+5)+p.mu:=by unfold CP.ak;rw [show 8*R+6=(8*R+5)+1 by omega,alA,alB]
   show p.mu+(1+p.ak R+p.rT hf R)+_+_+1<=(2+p.ak R+p.ak R+p.rT hf R)+_
   omega
 | sW =>
   have rC:x.aC.phase=2:=fQ
   have hnw:∀ m t,x.aC.next ≠ .dJ m t:=by rw [hd];intro m u e;cases e
   have h':=(BG k h hw .sW hd (fun e=>by cases e)).1
   have hT:=Kv k hR h h' rfl hnw
   refine I8 (k:=3) (t := .trace) (c:=x.aC) hT rfl ⟨rfl,rfl⟩ ?_
   rw [hd]
   have e2:dB x=x.aC.dP:=by unfold dB;rw [rC];simp
   have e3:(x.aC.dP||(3:Nat)==4)=x.aC.dP:=by simp
   rw [e2,e3]
   have ha:p.ak R=p.mu*(8*R+5)+p.mu:=by unfold CP.ak;rw [show 8*R+6=(8*R+5)+1 by omega,alA,alB]
   show p.mu+p.rT hf R+_+_+1<=(1+p.ak R+p.rT hf R)+_
   omega
 | jV =>
   have rC:x.aC.phase=4:=fQ
   have hnw:∀ m t,x.aC.next ≠ .dJ m t:=by rw [hd];intro m u e;cases e
   have h':=(BG k h hw .jV hd (fun e=>by cases e)).1
   have hT:=Kv k hR h h' rfl hnw
   refine I8 (k:=5) (t := .work) (c:={ x.aC with dP:=false,je:=x.aC.je+1 }) hT rfl ⟨rfl,rfl⟩ ?_
   rw [hd]
   have e2:dB x=true:=by unfold dB;rw [rC];simp
   have e3:(false||(5:Nat)==4)=false:=by decide
   rw [e2,aZ rfl]
   show p.mu+p.rW hf R+_+(if (false||(5:Nat)==4)=true then p.dr R else 0)+1<=(1+p.rM hf R)+p.dr R
   rw [e3,aT (by decide)]
   have ha:p.ak R=p.mu*(8*R+5)+p.mu:=by unfold CP.ak;rw [show 8*R+6=(8*R+5)+1 by omega,alA,alB]
   unfold CP.rW CP.dr
   omega
 | trace =>
   obtain ⟨g1,g2⟩:=Ul (p:=p) (hf:=hf) (R:=R) (c:={ x.aC with phase:=4 }) ags (aki _)
   refine wz (x:=x) (H:=x.s.H) (Q:=x.s.Q) (fl:=x.s.dw) (c:={ x.aC with phase:=4,next:=CS.iI { x.aC with phase:=4 } 0 }) ?_
   have e1:uf x=false:=by unfold uf;rw [hd];rfl
   have e2:(if (x.s.dw||x.aC.over||x.aG.any (fun m=>lM m.next))=true then p.wk hf R else 0)=(if wV x=true then p.wk hf R else 0):=rfl
   have e3:(if (x.aC.dP||(4:Nat)==4)=true then p.dr R else 0)<=p.dr R:=by split<;>omega
   have e4:(if (l7 (CS.iI { x.aC with phase:=4 } 0) && !x.aC.bD.isEmpty)=true then p.mu+1 else 0)=0:=by rw [g2];rfl
   rw [hd]
   have key:p.rk hf R (CS.iI { x.aC with phase:=4 } 0)+33*x.aC.bD.length+(if (l7 (CS.iI { x.aC with phase:=4 } 0) && !x.aC.bD.isEmpty)=true then p.mu+1 else 0)+p.U x.s.H.co*p.kD hf R+(if (x.s.dw||x.aC.over||x.aG.any (fun m=>lM m.next))=true then p.wk hf R else 0)+(if (x.aC.dP||(4:Nat)==4)=true then p.dr R else 0)+x.s.Q.qs*(hf+3)+1 <=
    p.rT hf R+33*x.aC.bD.length+(if uf x=true then p.mu+1 else 0)+p.U x.s.H.co*p.kD hf R+(if wV x=true then p.wk hf R else 0)+(if dB x=true then p.dr R else 0)+x.s.Q.qs*(hf+3):=by
    rw [e2,e4,g1]
    unfold CP.rT
    omega
   exact key
 | cell ii =>
   obtain ⟨rC,hi⟩:=fQ
   obtain ⟨g1,g2⟩:=Ul (p:=p) (hf:=hf) (R:=R) (c:=x.aC) ags (i:=ii+1) (by omega)
   have g3:=Ku (p:=p) (hf:=hf) (R:=R) (v:=x.s.H.jc (ii:Int)) (t:=x.aC.iI (ii+1))
   refine ku (d':=fC (x.s.H.jc (ii:Int)) (x.aC.iI (ii+1))) hd (fun hb=>by rw [Gf,g2] at hb;cases hb) ?_
   show _<=2*(p.ce - ii)+p.rW hf R
   omega
 | lC v t =>
   obtain ⟨hmk,hlk,hc,hb⟩:=fQ
   have oG:=h.jw
   unfold fJ
   simp only [aN]
   by_cases hp:x.s.H.iG v x.aC.aP=true
   ·rw [aZ hp]
    have hp2:HS.iG { p.H with co:=f } v p.κ=true:=by rw [<- hH,<- oG];exact hp
    have hU:=CP.WG k hk2 hp2
    have hU2:p.U (x.s.H.eF v x.aC.aP).co+1=p.U x.s.H.co:=by
     rw [oG,hco,<- hU,hH]
    have hB:(p.U (x.s.H.eF v x.aC.aP).co+1)*p.kD hf R=p.U x.s.H.co*p.kD hf R:=by rw [hU2]
    rw [ajF,ajG] at hB
    have hpush:∃ (st:List Nat) (ov:Bool),({ x.aC with dP:=true }:CS).push v={ x.aC with dP:=true,bD:=st,over:=ov }/\st.length<=x.aC.bD.length+1:=by
     unfold CS.push
     simp only
     split
     ·exact ⟨x.aC.bD,true,rfl,Nat.le_succ _⟩
     ·exact ⟨x.aC.bD++[v],x.aC.over,rfl,by simp⟩
    obtain ⟨st,ov,hpe,s1⟩:=hpush
    rw [hpe]
    refine wz (x:=x) (H:=x.s.H.eF v x.aC.aP) (Q:=x.s.Q) (fl:=x.s.dw) (c:={ x.aC with dP:=true,bD:=st,over:=ov,next:=t }) ?_
    rw [hd]
    have e1:(if (l7 t && !st.isEmpty)=true then p.mu+1 else 0)<=p.mu+1:=by split<;>omega
    have e2:(if (x.s.dw||ov||x.aG.any (fun m=>lM m.next))=true then p.wk hf R else 0)<=p.wk hf R:=by split<;>omega
    have e3:(if (true||x.aC.phase==4)=true then p.dr R else 0)<=p.dr R:=by split<;>omega
    have key:p.rk hf R t+33*st.length+(if (l7 t && !st.isEmpty)=true then p.mu+1 else 0)+p.U (x.s.H.eF v x.aC.aP).co*p.kD hf R+(if (x.s.dw||ov||x.aG.any (fun m=>lM m.next))=true then p.wk hf R else 0)+(if (true||x.aC.phase==4)=true then p.dr R else 0)+x.s.Q.qs*(hf+3)+1 <=
     1+p.rk hf R t+33*x.aC.bD.length+(if uf x=true then p.mu+1 else 0)+p.U x.s.H.co*p.kD hf R+(if wV x=true then p.wk hf R else 0)+(if dB x=true then p.dr R else 0)+x.s.Q.qs*(hf+3):=by
     have hbig:p.kD hf R=34+p.wk hf R+p.dr R+p.mu+2:=rfl
     omega
    exact key
   ·rw [aT hp]
    refine ku hd (fun hb=>hb) ?_
    show p.rk hf R t+1<=1+p.rk hf R t
    omega
 | work =>
   unfold fJ
   simp only [aN]
   cases hs:x.aC.bD.getLast? with
   | some a =>
     have hsp:=BF hs
     have hlen:x.aC.bD.length=x.aC.bD.dropLast.length+1:=by
      have:=congrArg List.length hsp
      rw [alm] at this
      exact this
     refine Ah (x:=x) (Q:=x.s.Q) (st:=x.aC.bD.dropLast) (d' := .iD a .work) hd ?_
     show 32+p.rW hf R+33*_+0+_+1<=p.rW hf R+33*_+0+_
     omega
   | none =>
     have he:=Uo hs
     refine Ah (x:=x) (Q:=x.s.Q) (st:=x.aC.bD) (d' := .box 0) hd ?_
     rw [he]
     show p.mu - 0+2+p.rM hf R+33*0+0+_+1<=p.mu+3+p.rM hf R+33*0+0+_
     omega
 | ig t =>
   obtain ⟨hmk,htw⟩:=fQ
   have hbt:=WQ htw
   unfold fJ
   simp only [aN]
   cases hs:x.aC.bD.getLast? with
   | some a =>
     have hsp:=BF hs
     have hlen:x.aC.bD.length=x.aC.bD.dropLast.length+1:=by
      have:=congrArg List.length hsp
      rw [alm] at this
      exact this
     refine Ah (x:=x) (Q:=x.s.Q) (st:=x.aC.bD.dropLast) (d' := .iD a (.ig t)) hd ?_
     show 32+(1+p.rk hf R t)+33*_+0+_+1<=1+p.rk hf R t+33*_+0+_
     omega
   | none =>
     refine ku hd (fun hb=>by rw [hbt] at hb;cases hb) ?_
     show p.rk hf R t+1<=1+p.rk hf R t
     omega
 | iD a t =>
   obtain ⟨hmk,hto⟩:=fQ
   have hbt:=WR hto
   have hn:=k.nf a
   obtain ⟨g1,g2,g3⟩:=PV (p:=p) (hf:=hf) (R:=R) (a:=a) (i:=0) (n:=(x.s.H.dh a).1) (aki _) hbt
   refine ku (d':=fA a 0 (x.s.H.dh a).1 t) hd (fun hb=>by rw [g3] at hb;cases hb) ?_
   rw [hfp] at g1 ⊢
   show _<=32+p.rk hf R t
   omega
 | field a ii n t =>
   obtain ⟨hmk,hto⟩:=fQ
   obtain ⟨⟨hn1,hn2,hn3⟩,hft⟩:=mM
   have hbt:=WR hto
   obtain ⟨g1,g2,g3⟩:=PV (p:=p) (hf:=hf) (R:=R) (a:=a) (i:=ii+1) (n:=n) (by omega) hbt
   have g4:=Ku (p:=p) (hf:=hf) (R:=R) (v:=x.s.H.eU a (ii:Int)) (t:=fA a (ii+1) n t)
   refine ku (d':=fC (x.s.H.eU a (ii:Int)) (fA a (ii+1) n t)) hd (fun hb=>by rw [Gf,g3] at hb;cases hb) ?_
   show _<=2*(n - ii)+1+p.rk hf R t
   by_cases e:ii+1=n
   ·have:=g2 e;omega
   ·omega
 | iy b =>
   obtain ⟨hmk,hb⟩:=fQ
   obtain ⟨g1,g2⟩:=Um (p:=p) (hf:=hf) (R:=R) (c:=x.aC) hcbl (b:=b+1) (by omega)
   obtain ⟨g3,g4⟩:=PW (p:=p) (hf:=hf) (R:=R) (l:=x.s.H.bH b) g2
   refine ku (d':=gX (x.s.H.bH b) (x.aC.iL (b+1))) hd (fun hb=>by rw [g4] at hb;cases hb) ?_
   rw [g3,g1]
   have hl:=k.agl b
   rw [<- hsl] at hl
   have:=Un (c:=34*hf+1) hb
   show _<=(p.bl - b)*(34*hf+1)+p.rW hf R
   omega
 | bH ll t =>
   obtain ⟨hmk,hle,htw⟩:=fQ
   have hbt:=WQ htw
   have hlen:ll.length=ll.tail.length+1:=by
    cases ll with
    | nil=>exact absurd rfl hle
    | cons a r=>rfl
   obtain ⟨g3,g4⟩:=PW (p:=p) (hf:=hf) (R:=R) (l:=ll.tail) hbt
   unfold fJ
   simp only [aN]
   by_cases hc:(!x.s.H.bn (dA ll)||x.s.H.iU (dA ll) != x.aC.aP)=true
   ·rw [aZ hc]
    refine ku (d':=gX ll.tail t) hd (fun hb=>by rw [g4] at hb;cases hb) ?_
    rw [g3]
    show _<=34*ll.length+p.rk hf R t
    omega
   ·rw [aT hc]
    refine ku (d' := .iD (dA ll) (.ig (gX ll.tail t))) hd (fun hb=>by cases hb) ?_
    show 32+(1+p.rk hf R (gX ll.tail t))+1<=34*ll.length+p.rk hf R t
    rw [g3];omega
 | box mm =>
   obtain ⟨hmk,hm⟩:=fQ
   unfold fJ
   simp only [aN]
   cases hbx:x.s.box mm with
   | cons a r =>
     have hib:mm<x.s.aV.length:=by rw [h.box];exact hm
     have hmm:mm<x.aG.length:=by rw [h.aG];exact hm
     have hbi:∀ j,({ x.s with aV:=x.s.aV.set mm r }:Sh).box j=if j=mm then r else x.s.box j:=fun j=>by
      show (x.s.aV.set mm r).getD j []=_
      rw [ajg]
      by_cases e:j=mm
      ·subst e
       rw [ajA hib,aZ rfl];rfl
      ·rw [ajB (fun e'=>e e'.symm),<- ajg,aT e];rfl
     have hT:p.T { x with s:={ x.s with aV:=x.s.aV.set mm r },aC:={ x.aC with next:=fC a (.box mm) } }+2=p.T x:=by
      have hup:=Kt (f:=vF x) (g:=vF { x with s:={ x.s with aV:=x.s.aV.set mm r },aC:={ x.aC with next:=fC a (.box mm) } }) hm (fun j hj=>by
       unfold vF
       show _=(match x.aG[j]? with|some m=>_|none=>0)
       cases hmj:x.aG[j]? with
       | none=>rfl
       | some mj =>
         show iq x.s j mj+2*(x.s.box j).length=iq x.s j mj+2*(({ x.s with aV:=x.s.aV.set mm r }:Sh).box j).length
         rw [hbi j,aT hj])
      have hmo:x.aG[mm]?=some (x.aG[mm]'hmm):=ajh hmm
      have g1:vF x mm=iq x.s mm (x.aG[mm]'hmm)+2*(r.length+1):=by
       unfold vF
       rw [hmo,hbx];rfl
      have g2:vF { x with s:={ x.s with aV:=x.s.aV.set mm r },aC:={ x.aC with next:=fC a (.box mm) } } mm=iq x.s mm (x.aG[mm]'hmm)+2*r.length:=by
       unfold vF
       show (match x.aG[mm]? with|some m=>_|none=>0)=_
       rw [hmo]
       show iq x.s mm (x.aG[mm]'hmm)+2*(({ x.s with aV:=x.s.aV.set mm r }:Sh).box mm).length=_
       rw [hbi mm,aZ rfl]
      rw [g1,g2] at hup
      unfold CP.T
      omega
     have g3:=Ku (p:=p) (hf:=hf) (R:=R) (v:=a) (t := .box mm)
     unfold CP.nN
     have e1:uf { x with s:={ x.s with aV:=x.s.aV.set mm r },aC:={ x.aC with next:=fC a (.box mm) } }=uf x:=by
      unfold uf
      show (l7 (fC a (.box mm))&&_)=_
      rw [Gf,hd]
     have e2:wV { x with s:={ x.s with aV:=x.s.aV.set mm r },aC:={ x.aC with next:=fC a (.box mm) } }=wV x:=rfl
     have e3:dB { x with s:={ x.s with aV:=x.s.aV.set mm r },aC:={ x.aC with next:=fC a (.box mm) } }=dB x:=rfl
     show p.T { x with s:={ x.s with aV:=x.s.aV.set mm r },aC:={ x.aC with next:=fC a (.box mm) } }+p.rk hf R (fC a (.box mm))+33*x.aC.bD.length+(if uf { x with s:={ x.s with aV:=x.s.aV.set mm r },aC:={ x.aC with next:=fC a (.box mm) } }=true then p.mu+1 else 0)+p.U x.s.H.co*p.kD hf R+(if wV { x with s:={ x.s with aV:=x.s.aV.set mm r },aC:={ x.aC with next:=fC a (.box mm) } }=true then p.wk hf R else 0)+(if dB { x with s:={ x.s with aV:=x.s.aV.set mm r },aC:={ x.aC with next:=fC a (.box mm) } }=true then p.dr R else 0)+x.s.Q.qs*(hf+3)+1<=_
     rw [e1,e2,e3,hd]
     generalize p.T { x with s:={ x.s with aV:=x.s.aV.set mm r },aC:={ x.aC with next:=fC a (.box mm) } }=T' at *
     omega
   | nil =>
     show p.nN hf R { x with aC:={ x.aC with next:=if mm+1<x.aC.aG then .box (mm+1) else if x.aC.bD=[] then .over else .work } }+1<=_
     by_cases hl:mm+1<x.aC.aG
     ·rw [aZ hl]
      refine ku hd (fun _=>rfl) ?_
      show p.mu - (mm+1)+2+p.rM hf R+1<=p.mu - mm+2+p.rM hf R
      omega
     ·rw [aT hl]
      by_cases hs:x.aC.bD=[]
      ·rw [aZ hs]
       refine ku hd (fun hb=>by cases hb) ?_
       show 2+p.rM hf R+1<=p.mu - mm+2+p.rM hf R
       omega
      ·rw [aT hs]
       refine Ah (x:=x) (Q:=x.s.Q) (st:=x.aC.bD) (d' := .work) hd ?_
       have hne:(l7 (.box mm) && !x.aC.bD.isEmpty)=true:=by
        show (true && !x.aC.bD.isEmpty)=true
        rw [Bool.true_and,alx,List.isEmpty_eq_false_iff]
        exact hs
       rw [hne,aZ rfl]
       show p.mu+3+p.rM hf R+33*_+0+_+1<=p.mu - mm+2+p.rM hf R+33*_+(p.mu+1)+_
       omega
 | over =>
   have hmk:Af x.aC.phase:=fQ
   have hnw:∀ m u,x.aC.next ≠ .dJ m u:=by rw [hd];intro m u e;cases e
   have hst:=h.stk0 (by rw [hd];rfl)
   unfold fJ
   simp only [aN]
   by_cases hfo:(!x.s.dw && !x.aC.over)=true
   ·rw [aZ hfo]
    by_cases h4:x.aC.phase=4
    ·rw [aZ h4]
     refine ku hd (fun hb=>by cases hb) ?_
     show 1+p.rM hf R+1<=2+p.rM hf R
     omega
    ·rw [aT h4]
     by_cases hfr:x.aC.dP=true
     ·rw [aZ hfr]
      refine wz (x:=x) (H:=x.s.H) (Q:=x.s.Q) (fl:=x.s.dw) (c:={ x.aC with phase:=4,next := .jV }) ?_
      rw [hd]
      have e1:uf x=false:=by unfold uf;rw [hd];rfl
      have e2:dB x=true:=by unfold dB;rw [hfr];rfl
      have e3:(x.aC.dP||(4:Nat)==4)=true:=by simp
      rw [e1,e2]
      have key:1+p.rM hf R+33*x.aC.bD.length+0+p.U x.s.H.co*p.kD hf R+(if (x.s.dw||x.aC.over||x.aG.any (fun m=>lM m.next))=true then p.wk hf R else 0)+(if (x.aC.dP||(4:Nat)==4)=true then p.dr R else 0)+x.s.Q.qs*(hf+3)+1 <=
       2+p.rM hf R+33*x.aC.bD.length+0+p.U x.s.H.co*p.kD hf R+(if (x.s.dw||x.aC.over||x.aG.any (fun m=>lM m.next))=true then p.wk hf R else 0)+p.dr R+x.s.Q.qs*(hf+3):=by
       rw [e3,aZ rfl];omega
      exact key
     ·rw [aT hfr]
      refine ku hd (fun hb=>by cases hb) ?_
      show p.rM hf R+1<=2+p.rM hf R
      omega
   ·rw [aT hfo]
    obtain ⟨g1,g2⟩:=Um (p:=p) (hf:=hf) (R:=R) (c:={ x.aC with over:=false,dP:=true,kK:=x.aC.kK+1 }) hcbl (b:=0) (aki _)
    refine wz (x:=x) (H:=x.s.H) (Q:=x.s.Q) (fl:=false) (c:={ x.aC with over:=false,dP:=true,kK:=x.aC.kK+1,next:=CS.iL { x.aC with over:=false,dP:=true,kK:=x.aC.kK+1 } 0 }) ?_
    rw [hd]
    have e1:uf x=false:=by unfold uf;rw [hd];rfl
    have e2:wV x=true:=by
     unfold wV
     have:x.s.dw=true\/x.aC.over=true:=by
      cases hf1:x.s.dw
      ·cases hf2:x.aC.over
       ·rw [hf1,hf2] at hfo;exact absurd rfl hfo
       ·exact .inr rfl
      ·exact .inl rfl
     rcases this with e|e<;>rw [e]<;>simp
    have hany:=aaM h hnw
    rw [e1,e2]
    generalize CS.iL { x.aC with over:=false,dP:=true,kK:=x.aC.kK+1 } 0=d' at *
    have e3:(if (true||x.aC.phase==4)=true then p.dr R else 0)=p.dr R:=by simp
    have key:p.rk hf R d'+33*x.aC.bD.length+(if (l7 d' && !x.aC.bD.isEmpty)=true then p.mu+1 else 0)+p.U x.s.H.co*p.kD hf R+(if (false||false||x.aG.any (fun m=>lM m.next))=true then p.wk hf R else 0)+(if (true||x.aC.phase==4)=true then p.dr R else 0)+x.s.Q.qs*(hf+3)+1 <=
     2+p.rM hf R+33*x.aC.bD.length+0+p.U x.s.H.co*p.kD hf R+p.wk hf R+(if dB x=true then p.dr R else 0)+x.s.Q.qs*(hf+3):=by
     rw [hany,e3,g2,g1]
     have hwk:p.wk hf R=p.dr R+p.bl*(34*hf+1)+p.mu+4:=rfl
     have hrw:p.rW hf R=p.mu+3+p.rM hf R:=rfl
     simp only [Bool.or_self,alC,akP,if_false,Nat.sub_zero]
     omega
    exact key
 | fP =>
   have rC:x.aC.phase=5:=fQ
   obtain ⟨g1,g2⟩:=WO (p:=p) (hf:=hf) (R:=R) (c:={ x.aC with phase:=6 }) hcbl (b:=0) (aki _)
   refine wz (x:=x) (H:=x.s.H) (Q:=x.s.Q) (fl:=x.s.dw) (c:={ x.aC with phase:=6,next:=CS.lW { x.aC with phase:=6 } 0 }) ?_
   rw [hd]
   have e1:uf x=false:=by unfold uf;rw [hd];rfl
   have e2:dB x=x.aC.dP:=by unfold dB;rw [rC];simp
   have e3:(x.aC.dP||(6:Nat)==4)=x.aC.dP:=by simp
   rw [e1,e2]
   generalize CS.lW { x.aC with phase:=6 } 0=d' at *
   have key:p.rk hf R d'+33*x.aC.bD.length+(if (l7 d' && !x.aC.bD.isEmpty)=true then p.mu+1 else 0)+p.U x.s.H.co*p.kD hf R+(if (x.s.dw||x.aC.over||x.aG.any (fun m=>lM m.next))=true then p.wk hf R else 0)+(if (x.aC.dP||(6:Nat)==4)=true then p.dr R else 0)+x.s.Q.qs*(hf+3)+1 <=
    p.rM hf R+33*x.aC.bD.length+0+p.U x.s.H.co*p.kD hf R+(if (x.s.dw||x.aC.over||x.aG.any (fun m=>lM m.next))=true then p.wk hf R else 0)+(if x.aC.dP=true then p.dr R else 0)+x.s.Q.qs*(hf+3):=by
    rw [e3,g2,g1]
    have hrM:p.rM hf R=1+p.bl*(hf+4)+(p.ak R+5):=rfl
    simp only [alC,akP,if_false,Nat.sub_zero]
    omega
   exact key
 | _=>exact fQ.elim
end
end
end Go.Proofs.YtanfphjoebobaaaGreatDoor
