/- Parts of the iy. No conditions. -/
import Derived.Test.YtanfphjoebobaaaGreatDoorZzfab
namespace Go.Proofs.YtanfphjoebobaaaGreatDoor
open _root_.Go.IntWalk renaming i64_in->ajw
open _root_.Int renaming tdiv_eq_ediv_of_nonneg->alK
open _root_.List renaming ext_getElem?->alL,getD_eq_getElem?_getD->ajg,getElem?_append_left->ajk,getElem?_eq_getElem->ajh,getElem?_eq_none->ajK,getElem?_eq_some_iff->ake,getElem?_map->aks,getElem?_set->akz,getLastD_eq_getLast?->alI,idxOf_lt_length_iff->alM,map_append->alk,map_congr_left->alJ,mem_append->aln,mem_append_left->alp,mem_append_right->alq,mem_cons->ajN,mem_cons_self->alr,mem_filter->alO,mem_flatMap->alN,mem_map->akW,mem_range->akB,mem_singleton->alo,range->akS,range_succ->alj
open _root_.Nat renaming le_refl->aje,le_trans->ajU,lt_irrefl->ajY,mul_le_mul->akd,mul_le_mul_left->alE
open _root_.Go.Proofs.Tryz hiding prog
open _root_.Go.Proofs.Tryz renaming prog->aA
set_option maxRecDepth 8000
set_option maxHeartbeats 8000000
section
structure BH (ph:List Nat):Prop where
 ne:ph≠[]
 lt:∀ a∈ph,a<8
 may:∀ (i a b:Nat),ph[i]?=some a->ph[i+1]?=some b->a≠b/\yZ a b=true
theorem BH.one {a:Nat} (h:a<8):BH [a]:=⟨by simp,fun b hb=>by rw [alo.1 hb];exact h,fun i b c h1 h2=>by
 have:=(ake.1 h2).1
 simp at this⟩
theorem BH.next {ph:List Nat} {b:Nat} (h:BH ph) (hm:yZ (ph.getLastD 0) b=true) (hb:b<8):BH (jT ph b)/\(jT ph b).getLastD 0=b:=by
 unfold jT
 by_cases e:b≠ph.getLastD 0
 ·rw [aZ e]
  refine ⟨⟨by simp,fun a ha=>?_,fun i a c h1 h2=>?_⟩,by simp⟩
  ·rcases aln.1 ha with g|g
   ·exact h.lt a g
   ·rw [alo.1 g];exact hb
  ·have hlt:=(ake.1 h2).1
   rw [List.length_append] at hlt
   have hlt':i+1<ph.length+1:=hlt
   by_cases hi:i+1<ph.length
   ·rw [ajk (by omega)] at h1
    rw [ajk hi] at h2
    exact h.may i a c h1 h2
   ·have hi':i+1=ph.length:=by omega
    rw [ajk (by omega)] at h1
    rw [hi',List.getElem?_append_right (aje _),Nat.sub_self] at h2
    cases h2
    have hl:ph.getLastD 0=a:=by
     rw [alI,List.getLast?_eq_getElem?,show ph.length - 1=i by omega,h1];rfl
    rw [hl] at hm e
    exact ⟨fun e'=>e e'.symm,hm⟩
 ·rw [aT e]
  exact ⟨h,(Classical.byContradiction fun h=>e h:b=_).symm⟩
section
variable {p:CP} {x y z:WS} {m:MS} {i n R mu bl ce κ:Nat} {dead fr ph:List Nat}
theorem Nh (y:WS) {n:Nat} (hn:y.aG.length=n):(eY y n).s=(dX y.s y.aC).s/\(eY y n).aG=y.aG/\(eY y n).aC=(dX y.s y.aC).c:=by
 unfold eY
 rw [ajK (by omega)]
 simp only
 rw [aZ hn.symm]
 obtain ⟨e1,e2,e3,_⟩:=WS.xA { y with s:=(dX y.s y.aC).s,aC:=(dX y.s y.aC).c } (dX y.s y.aC).ev
 exact ⟨e1,e2,e3⟩
theorem MR.all (g:Na p R) (h:oO p x dead):∀ j,j<=p.mu->MR p R dead x (dI j x) j
 | 0,_=>MR.first h
 | j+1,hj=>((MR.all g h j (by omega)).next g (by omega)).1
structure Es (p:CP) (x0:WS) (out ph:List Nat) (z:WS):Prop where
 mF:wu p.mu p.bl p.ce p.κ z
 bn:∀ a,z.s.H.bn a=true↔p.lq a
 nd:out.Nodup
 dd:∀ a,a∈out↔p.H.bn a=true/\¬ p.lq a
 path:BH ph
 aW:∀ (i:Nat) (m:MS),z.aG[i]?=some m->m.aW=p.aW i
 mM:∀ a,p.lq a->z.s.H.dh a=p.H.dh a/\∀ j:Nat,z.s.H.eU a (j:Int)=p.H.eU a (j:Int)
 xG:z.s.H.K=p.H.K/\z.s.H.b=p.H.b/\z.s.H.ww=p.H.ww/\z.s.H.c=p.H.c/\z.s.H.cells=p.H.cells
 qJ:z.aC.jM=x0.aC.jM/\z.aC.cu=x0.aC.cu
 dr:rD x0.aC->rD z.aC
theorem YR (h:oO p y dead):yZ y.aC.phase (dX y.s y.aC).c.phase=true/\(rD y.aC->rD (dX y.s y.aC).c)/\(dX y.s y.aC).c.jM=y.aC.jM/\(dX y.s y.aC).c.cu=y.aC.cu:=by
 have e:dX y.s y.aC=⟨(aN y.s y.aC y.aC.next).s,{ (aN y.s y.aC y.aC.next).c with next:=(aN y.s y.aC y.aC.next).next },(aN y.s y.aC y.aC.next).next,(aN y.s y.aC y.aC.next).ev⟩:=by
  unfold dX
  rw [h.busy];rfl
 obtain ⟨h1,h2⟩:=VI h _ rfl
 obtain ⟨h3,h4,_⟩:=aaT y.s y.aC y.aC.next
 rw [e]
 exact ⟨h1,h2,h3,h4⟩
theorem aeQ {a b:Nat} (h:yZ a b=true) (ha:a<8):b<8:=by
 unfold yZ at h
 rw [Bool.or_eq_true] at h
 rcases h with h|h
 ·have:a=b:=by simpa using h
  omega
 ·simp at h
  omega
theorem Nj (g:Na p R) {x0:WS}:∀ (f:Nat) (x:WS) (dead ph:List Nat),oO p x dead->p.eP R x+1<=f->BH ph->ph.getLastD 0=x.aC.phase->(x.aC.jM=x0.aC.jM/\x.aC.cu=x0.aC.cu)->(rD x0.aC->rD x.aC)->∃ out vO z,mG p.mu f x dead ph=(out,vO,true,z)/\Es p x0 out vO z
 | 0,x,dead,ph,h,hf,_,_,_,_=>by omega
 | f+1,x,dead,ph,h,hf,hpa,hla,hc,tK=>by
   have hM:=MR.all g h p.mu (aje _)
   obtain ⟨jZ,ht,hlt⟩:=hM.round g
   obtain ⟨_,hyl,_⟩:=hM.nH.bd
   obtain ⟨e1,e2,e3⟩:=Nh (dI p.mu x) hyl
   obtain ⟨t1,t2,t3,t4⟩:=YR hM.nH
   have hco:=hM.aC
   have hrc:(gZ p.mu x).aC=(dX (dI p.mu x).s (dI p.mu x).aC).c:=e3
   have hlast:ph.getLastD 0=(dI p.mu x).aC.phase:=by rw [hco];exact hla
   have hl8:(dI p.mu x).aC.phase<8:=by
    rw [<- hlast,alI]
    cases hg:ph.getLast? with
    | none=>simp
    | some a=>exact hpa.lt a (List.mem_of_getLast? hg)
   have hm2:yZ (ph.getLastD 0) (gZ p.mu x).aC.phase=true:=by rw [hlast,hrc];exact t1
   obtain ⟨hp1,hp2⟩:=hpa.next hm2 (aeQ hm2 (by rw [hlast];exact hl8))
   have hc2:(gZ p.mu x).aC.jM=x0.aC.jM/\(gZ p.mu x).aC.cu=x0.aC.cu:=by
    rw [hrc,t3,t4,hco];exact hc
   have hd2:rD x0.aC->rD (gZ p.mu x).aC:=fun hh=>by
    rw [hrc]
    exact t2 (by rw [hco];exact tK hh)
   have hrest:p.eP R (gZ p.mu x)+1<=f:=by
    have:p.eP R (gZ p.mu x)=p.eP R { dI p.mu x with s:=(dX (dI p.mu x).s (dI p.mu x).aC).s,aC:=(dX (dI p.mu x).s (dI p.mu x).aC).c }:=DX e1 e2 e3
    rw [this]
    exact ajU hlt (Nat.le_of_succ_le_succ hf)
   have hun:mG p.mu (f+1) x dead ph=if Nb (oJ p.mu x) then (DY (oJ p.mu x) dead,jT ph (gZ p.mu x).aC.phase,true,gZ p.mu x) else mG p.mu f (gZ p.mu x) (DY (oJ p.mu x) dead) (jT ph (gZ p.mu x).aC.phase):=rfl
   have hev:oJ p.mu x=(dX (dI p.mu x).s (dI p.mu x).aC).ev:=rfl
   have go:Nb (oJ p.mu x)=false->DY (oJ p.mu x) dead=jZ->oO p { dI p.mu x with s:=(dX (dI p.mu x).s (dI p.mu x).aC).s,aC:=(dX (dI p.mu x).s (dI p.mu x).aC).c } jZ->∃ out vO z,mG p.mu (f+1) x dead ph=(out,vO,true,z)/\Es p x0 out vO z:=fun h1 h2 h3=>by
    rw [hun,h1,aT (by decide),h2]
    have h4:oO p (gZ p.mu x) jZ:=h3.congr e1 e2 e3
    exact Nj g f _ jZ _ h4 hrest hp1 hp2 hc2 hd2
   cases ht with
   | none h1 h2 h3=>exact go (by rw [hev,h1];rfl) (by rw [hev,h1,h2];rfl) h3
   | fP h1 h2 h3 h4 _ _ _ _ _=>exact go (by rw [hev,h1];rfl) (by rw [hev,h1,h2,h3];rfl) h4
   | adO h1 h2 h3 h4 h5=>exact go (by rw [hev,h1];rfl) (by rw [hev,h1,h2];rfl) h3
   | aaL h1 h2 h3 h4 h5 h6 h7 =>
     rw [hun,hev,h1]
     refine ⟨_,_,_,rfl,?_⟩
     have ef:DY (some ((dI p.mu x).aC.ev 4 (dI p.mu x).aC.cu)) dead=dead:=rfl
     rw [ef]
     have hzs:(gZ p.mu x).s=(dI p.mu x).s:=by
      have:(gZ p.mu x).s=(dX (dI p.mu x).s (dI p.mu x).aC).s:=e1
      rw [this]
      have:=congrArg WS.s h6
      exact this
     have hbn:∀ a,(dI p.mu x).s.H.bn a=true↔p.lq a:=fun a=>by
      have:=h7 a
      rw [<- hzs]
      have e:(gZ p.mu x).s=(dX (dI p.mu x).s (dI p.mu x).aC).s:=e1
      rw [e];exact this
     refine ⟨h3.congr e1 e2 (by
      have e3':(gZ p.mu x).aC=(dX (dI p.mu x).s (dI p.mu x).aC).c:=e3
      rw [e3'];exact ⟨rfl,rfl,rfl,rfl,rfl,rfl,rfl,rfl⟩),fun a=>by rw [hzs];exact hbn a,h4.nd,fun a=>⟨fun ha=>h4.dd a ha,fun ha=>?_⟩,hp1,fun i m hm=>?_,fun a ha=>by rw [hzs];exact h4.mM a ha,by rw [hzs];exact h4.xG,hc2,hd2⟩
     ·refine Classical.byContradiction fun hn=>ha.2 ((hbn a).1 ((h4.bn a).2 ⟨ha.1,hn⟩))
     ·have:(gZ p.mu x).aG=(dI p.mu x).aG:=e2
      rw [this] at hm
      exact (h4.gW i m hm).aW
theorem Uy {c:CS} (h:c.phase=1) (hc:c.cu<=c.je+1):rD c:=by
 unfold rD
 rw [h,aT (by omega)]
 exact hc
theorem Qd {c:CS} (h:c.phase=0) (hc:rD c):c.cu<=c.je:=by
 unfold rD at hc
 rw [h,aZ (by omega)] at hc
 exact hc
theorem wu.adS (h:wu mu bl ce κ x):∀ j,j<=mu->wu mu bl ce κ (dI j x)/\(dI j x).s=x.s/\(dI j x).aC=x.aC/\∀ i:Nat,((dI j x).aG[i]?).map MS.aW=(x.aG[i]?).map MS.aW
 | 0,_=>⟨h,rfl,rfl,fun _=>rfl⟩
 | j+1,hj=>by
   obtain ⟨h1,h2,h3,h4⟩:=wu.adS h j (by omega)
   obtain ⟨m,hm⟩:∃ m,(dI j x).aG[j]?=some m:=⟨(dI j x).aG[j]'(by rw [h1.aG];omega),ajh _⟩
   have hlt:=(ake.1 hm).1
   obtain ⟨e,h5⟩:=h1.Oi hm
   obtain ⟨e1,e2,e3⟩:=yw (dI j x) hm
   rw [e] at e1 e2
   refine ⟨h5.congr e1 e2 (by rw [show (dI (j+1) x).aC=(dI j x).aC from e3];exact ⟨rfl,rfl,rfl,rfl,rfl,rfl,rfl,rfl⟩),e1.trans h2,e3.trans h3,fun i=>?_⟩
   show ((eY (dI j x) j).aG[i]?).map MS.aW=_
   rw [e2,<- h4 i]
   by_cases ei:i=j
   ·subst ei
    rw [List.getElem?_set_self hlt,hm];rfl
   ·rw [List.getElem?_set_ne (fun e=>ei e.symm)]
theorem YS (h:wu mu bl ce κ x) (hw:x.aC.jM=true) (hR:∀ (i:Nat) (m:MS),x.aG[i]?=some m->m.aW.length<=R) (most:Nat) (hm:EZ mu bl ce R (x.s.H.ww/2)+2<=most) (tK:rD x.aC) :
 ∃ out ph z,mG mu most x [] [x.aC.phase]=(out,ph,true,z)/\Es (jd mu bl ce κ x) (mW x) out ph z:=by
 obtain ⟨h1,h2,h3,h4⟩:=h.adS mu (aje _)
 obtain ⟨f,rfl⟩:∃ f,most=f+1:=⟨most - 1,by omega⟩
 have hcp:jd mu bl ce κ (dI mu x)=jd mu bl ce κ x:=by
  unfold jd
  rw [h2]
  have:(fun i=>(((dI mu x).aG[i]?).map MS.aW).getD [])=fun i=>((x.aG[i]?).map MS.aW).getD []:=funext fun i=>by rw [h4 i]
  rw [this]
 have hR2:∀ (i:Nat) (m:MS),(dI mu x).aG[i]?=some m->m.aW.length<=R:=fun i m hm=>by
  have:=h4 i
  rw [hm] at this
  cases hx:x.aG[i]? with
  | none=>rw [hx] at this;cases this
  | some m' =>
    rw [hx] at this
    simp at this
    rw [this]
    exact hR i m' hx
 obtain ⟨g,hb⟩:=h1.KE hR2
 obtain ⟨s1,s2,s3,s4,s5⟩:=h1.kU
 rw [hcp] at g hb s1 s2
 rw [h2] at hb
 obtain ⟨e1,e2,e3⟩:=Nh (dI mu x) h1.aG
 have hpc:dX (dI mu x).s (dI mu x).aC=⟨(mD (dI mu x).s (dI mu x).aC).s,{ (mD (dI mu x).s (dI mu x).aC).c with next:=(mD (dI mu x).s (dI mu x).aC).next },(mD (dI mu x).s (dI mu x).aC).next,(mD (dI mu x).s (dI mu x).aC).ev⟩:=by
  unfold dX
  rw [h1.nx,aT (by decide),aZ (by rw [h3];exact hw)]
 rw [hpc] at e1 e3
 have hrw:oO (jd mu bl ce κ x) (gZ mu x) []:=(oO.mark s1 s2).congr e1 e2 e3
 have hrs:(jd mu bl ce κ x).eP R (gZ mu x)=(jd mu bl ce κ x).eP R (mW (dI mu x)):=DX e1 e2 e3
 have hev:oJ mu x=some ((dI mu x).aC.ev 2 ((dI mu x).aC.cu+1)):=by
  show (dX (dI mu x).s (dI mu x).aC).ev=_
  rw [hpc];exact s3
 have rC:(gZ mu x).aC.phase=1:=by
  have:(gZ mu x).aC=_:=e3
  rw [this];rfl
 have hun:mG mu (f+1) x [] [x.aC.phase]=if Nb (oJ mu x) then (DY (oJ mu x) [],jT [x.aC.phase] (gZ mu x).aC.phase,true,gZ mu x) else mG mu f (gZ mu x) (DY (oJ mu x) []) (jT [x.aC.phase] (gZ mu x).aC.phase):=rfl
 rw [hun,hev]
 have ev2:Nb (some ((dI mu x).aC.ev 2 ((dI mu x).aC.cu+1)))=false:=rfl
 have ef2:DY (some ((dI mu x).aC.ev 2 ((dI mu x).aC.cu+1))) []=[]:=rfl
 rw [ev2,ef2,aT (by decide)]
 have hp0:=h.ph
 obtain ⟨p1,p2⟩:=(BH.one (a:=x.aC.phase) (by omega)).next (b:=(gZ mu x).aC.phase) (by rw [rC,hp0];decide) (by rw [rC];decide)
 refine Nj g f (gZ mu x) [] _ hrw (by omega) p1 p2 ?_ ?_
 ·have:(gZ mu x).aC=_:=e3
  rw [this]
  show (false=false)/\_
  refine ⟨rfl,?_⟩
  show (dI mu x).aC.cu+1=x.aC.cu+1
  rw [h3]
 ·intro _
  have:(gZ mu x).aC=_:=e3
  rw [this]
  refine Uy rfl ?_
  have:=Qd hp0 tK
  show (dI mu x).aC.cu+1<=(dI mu x).aC.je+1
  rw [h3]
  omega
end
def E5:xE:=⟨⟨0,0,0,0,1,0,0⟩,[1,1],[],[1],[]⟩
theorem Uz:Jb E5=[1,3]:=by decide +kernel
def awZ:List Nat × List Nat × Bool × WS:=mG 1 3000 { (iY E5) with aC:={ (iY E5).aC with jM:=true },nS:=(iY E5).nS+1 } [] [0]
theorem aeR:awZ.1=[3]/\awZ.2.2.1=true/\awZ.2.2.2.s.H.bn 1=true:=by decide +kernel
end
section
open Go.RowKit
theorem WV {l:List Int} {j:Nat} (h:j<l.length):l.getD j 0=l[j]:=by
 rw [ajg,ajh h];rfl
theorem Ky (a b:Option Addr) (n m c d:Nat) (xs ys:List Int) (w:World) (hx:gY .i64 w a n xs) (hy:gY .i64 w b m ys) (hn:n<=9223372036854775807) (hm:m<=9223372036854775807) :
 Calls aA 22 #[.slice a n c,.slice b m d] w fun e w'=>e = .returned (.bool (xs==ys))/\aj aB w w':=by
 by_cases hl:n=m
 ·subst hl
  have HL:xs.length=n/\ys.length=n:=⟨hx.len,hy.len⟩
  have HLL:=ay HL
  clear HL
  go_enter func22,ntmps22
  go_wp2
  go_loopg [5] n (fun g i wr=>∃ k:Nat,g+k=n/\i = ah k/\(∀ j,j<k->xs.getD j 0=ys.getD j 0)/\aj aB w wr)
  case atStart=>exact ⟨0,by omega,rfl,fun j hj=>absurd hj (by omega),aj.refl _ _⟩
  case round =>
   obtain ⟨k,hg,rfl,hr,hk⟩:=hrel
   by_cases hlt:k<n
   ·obtain ⟨ba,oa,rfl,hca⟩:=(hx.below hk).ni (by omega)
    obtain ⟨bb,ob,rfl,hcb⟩:=(hy.below hk).ni (by omega)
    have h1:=hca k hlt
    have h2:=hcb k hlt
    have lJ:(k:Int)<(n:Int):=by omega
    have hk0:(0:Int)<=(k:Int):=by omega
    by_cases he:xs.getD k 0=ys.getD k 0
    ·have HR:Hid (∀ j,j<k+1->xs.getD j 0=ys.getD j 0):=fun j hj=>by
      rcases Nat.lt_succ_iff_lt_or_eq.1 hj with h|h
      ·exact hr j h
      ·rw [h];exact he
     rw [he] at h1
     generalize ys.getD k 0=y at h1 h2
     clear hca hcb hr he
     go_wp2
     go_quiet (fail)
     go_wp2
     go_roundg (gk - 1)
     case measure=>omega
     case rel=>exact ⟨k+1,by omega,by go_num,HR.out,hk.drewN _⟩
    ·have HE:Hid ((xs==ys)=false):=by
      rw [Hid,beq_eq_false_iff_ne]
      intro e
      exact he (by rw [e])
     have hne:(xs.getD k 0==ys.getD k 0)=false:=by simpa using he
     have hne2:(xs.getD k 0 != ys.getD k 0)=true:=by simpa using he
     generalize xs.getD k 0=x at h1 hne hne2
     generalize ys.getD k 0=y at h2 hne hne2
     clear hca hcb hr he
     go_wp2
     go_quiet (fail)
     go_wp2
     go_ret
     exact ⟨by rw [HE.out];rfl,hk.drewN _⟩
   ·have HE:Hid ((xs==ys)=true):=by
     rw [Hid,beq_iff_eq]
     apply List.ext_getElem
     ·rw [HLL.out.1,HLL.out.2]
     ·intro j h1 h2
      have:=hr j (by have:=HLL.out.1;omega)
      rwa [WV h1,WV h2] at this
    clear hr
    go_wp2
    go_ret
    exact ⟨by rw [HE.out];rfl,hk⟩
 ·have HE:Hid ((xs==ys)=false):=by
   rw [Hid,beq_eq_false_iff_ne]
   intro e
   apply hl
   rw [<- hx.len,<- hy.len,e]
  have h1:((n:Int) != m)=true:=by simp;omega
  have h2:((n:Int)==m)=false:=by simp;omega
  go_enter func22,ntmps22
  go_wp2
  go_ret
  exact ⟨by rw [HE.out];rfl,aj.refl _ _⟩
end
section
attribute [local go_sem ↓] nD
attribute [local go_sem] Oper.semAt_some
open Go.RowKit
section
variable {o o' o0:Ow} {w w' W W' W0:World} {G:fU} {gs:List MG} {q:CG} {y:WS} {x:xE} {v:Value} {N i n:Nat} {l:List Nat} {I:List Nat} {e:Ending}
theorem aaY (x:xE):yY (iY x):=by
 have key:∀ f (y:WS),yY y->yY (tC f y):=fun f=>by
  induction f with
  | zero=>intro y h;exact h
  | succ f ih =>
    intro y h
    unfold tC
    split
    ·exact h
    ·split
     ·exact h
     ·exact ih _ (Ai h 0)
 exact key 300 _ (P5 _ _ _)
theorem I9.get (h:I9 w x e w') (hr:x.rg.length<=20):∃ (o:Ow) (G:fU) (q:CG) (gs:List MG) (ma:Option Addr) (mc:Nat) (a:Option Addr) (c:Nat),e = .returned (.tuple #[au G.S,au q.C,.slice ma gs.length mc,.slice a (Jb x).length c]) /\
 CW w w' o G gs q (iY x)/\uQ 300 (iY x)/\yY (iY x)/\lG o w' (.slice ma gs.length mc) gs/\dH o w' 3 (.slice a (Jb x).length c) (aS (Jb x))/\YO x/\gs.length=x.c.bJ.m.toNat:=by
 obtain ⟨o,G,q,gs,mv,a,c,rfl,h1,h2,h3,h4⟩:=h
 obtain ⟨ma,mc,rfl,_⟩:=h3.form
 have hI:=aaV x hr h1.aC.sh.heap.gU
 exact ⟨o,G,q,gs,ma,mc,a,c,rfl,h1,h2,aaY x,h3,h4,hI,h1.len.trans hI.mF.aG⟩
theorem qy.cells {a:Option Addr} {c:Nat} (h:qy i o W (.slice a l.length c) l):gY .i64 W a l.length (l.map fun x:Nat=>(x:Int)):=by
 have e:aS l=(l.map fun x:Nat=>(x:Int)).map (Value.int .i64):=by simp [aS]
 have h1:=h.1
 rw [e] at h1
 obtain ⟨a',c',ee,hi,_⟩:=gY.GN h1
 cases ee
 exact hi
theorem agC (hn:n=1):mG n 3000 (eY (iY E5) ((iY E5).aG.length+1)) [] [(iY E5).aC.phase]=awZ:=by
 rw [hn,Kw]
 have hc:(iY E5).aC.phase=0:=by
  obtain ⟨g,_⟩:=P8 E5 (by decide)
  rw [g.aC];rfl
 rw [hc];rfl
theorem VJ (hL:Laid w):Calls aA 10 #[] w fun e w'=>e = .returned (.bool true)/\aj aB w w':=by
 obtain ⟨W1,hW1⟩:∃ W1,W1=((w.alloc (.cells #[.int .u8 1,.int .u8 1] 5)).alloc (.cells #[.int .u8 1] 5)).alloc (.cells #[ah 0,ah 0,ah 0,ah 0,ah 1,ah 0,ah 0,.slice (some ⟨w.heap.size,0,none⟩) 2 2,.slice none 0 0,.slice (some ⟨w.heap.size+1,0,none⟩) 1 1,.slice none 0 0] 26):=⟨_,rfl⟩
 have ka:aj aB w (w.alloc (.cells #[.int .u8 1,.int .u8 1] 5)):=(aj.refl _ _).alloc _
 have kb:aj aB w ((w.alloc (.cells #[.int .u8 1,.int .u8 1] 5)).alloc (.cells #[.int .u8 1] 5)):=ka.alloc _
 have k1:aj aB w W1:=by rw [hW1];exact kb.alloc _
 have hb1:aF W1 w.heap.size [.int .u8 1,.int .u8 1] 5:=by rw [hW1];exact ((aF.bC w [.int .u8 1,.int .u8 1] 5).alloc _).alloc _
 have hb2:aF W1 (w.heap.size+1) [.int .u8 1] 5:=by
  have:=(aF.bC (w.alloc (.cells #[.int .u8 1,.int .u8 1] 5)) [.int .u8 1] 5).alloc (.cells #[ah 0,ah 0,ah 0,ah 0,ah 1,ah 0,ah 0,.slice (some ⟨w.heap.size,0,none⟩) 2 2,.slice none 0 0,.slice (some ⟨w.heap.size+1,0,none⟩) 1 1,.slice none 0 0] 26)
  have hsz:∀ X:Obj,(w.alloc X).heap.size=w.heap.size+1:=fun X=>by simp
  rw [hsz] at this
  rw [hW1];exact this
 have hst:Ir W1 E5 (some ⟨w.heap.size,0,none⟩) none (some ⟨w.heap.size+1,0,none⟩) none 2 0 1 0:=by
  refine ⟨⟨⟨rfl,fun _=>⟨_,0,rfl,fun j hj=>?_⟩⟩,by decide⟩,⟨⟨rfl,fun h=>absurd h (ajY 0)⟩,fun x hx=>by cases hx⟩,⟨⟨rfl,fun _=>⟨_,0,rfl,fun j hj=>?_⟩⟩,by decide⟩,⟨⟨rfl,fun h=>absurd h (ajY 0)⟩,fun x hx=>by cases hx⟩⟩
  ·rcases (by omega:j=0\/j=1) with rfl|rfl
   ·exact hb1.cell 0 rfl
   ·exact hb1.cell 1 rfl
  ·obtain rfl:j=0:=by omega
   exact hb2.cell 0 rfl
 have Ur:Hid (Calls aA 11 #[Aj E5.c (some ⟨w.heap.size,0,none⟩) none (some ⟨w.heap.size+1,0,none⟩) none 2 0 1 0 2 0 1 0] W1 (I9 W1 E5)):=Ut (hL.still k1) hst (by omega) (by omega) (by omega) (by omega)
 have bI:=ay k1
 have HW1:=ay hW1
 clear hW1 ka kb k1 hb1 hb2 hst hL
 go_enter func10,ntmps10
 go_wp2_with fail
 rw [<- HW1.out]
 refine Ur.out.mono ?_
 intro e2 w2 hm
 obtain ⟨o,G,q,gs,ma,mc,a,c,rfl,hcw,hok,hfw,hmv,hrow,hI,hgl⟩:=hm.get (by decide)
 rw [Uz] at hrow
 have hl2:(Jb E5).length=2:=by rw [Uz];rfl
 rw [hl2]
 have Qe:Hid (Calls aA 27 #[au q.C,.slice ma gs.length mc,ah (3000:Int)] w2 fun e w'=>∃ (fa pa:Option Addr) (fc pl pc:Nat),e = .returned (.tuple #[.slice fa 1 fc,.slice pa pl pc,.bool true])/\gY .i64 w' fa 1 [3]/\aj aB W1 w'/\w'.cell? ⟨G.S,0,none⟩=some (au (G.D 0))/\∀ W,aj aB w' W->Calls aA 33 #[au (G.D 0),ah 1] W fun e w''=>e = .returned (.bool true)/\W=w''):=by
  refine (Qb hcw hok hfw hmv 3000 (by omega)).mono ?_
  rintro e w' ⟨fv,pv,o',rfl,hs⟩
  rw [agC (hgl.trans rfl)] at hs ⊢
  obtain ⟨z1,z2,z3⟩:=aeR
  rw [z1,z2] at *
  obtain ⟨fa,fc,rfl,_⟩:=hs.f.form
  obtain ⟨pa,pc,rfl,_⟩:=hs.p.form
  refine ⟨fa,pa,fc,_,pc,rfl,hs.f.cells,hs.cw.aK,hs.cw.aC.sh.yQ.1,?_⟩
  intro W kW
  have:=NJ (hs.cw.aC.sh.heap.still kW) 1
  rw [z3] at this
  exact this
 clear hm hcw hok hfw hmv hrow hI hgl hl2
 go_wp2_with fail
 refine Qe.out.mono ?_
 rintro e w5 ⟨fa,pa,fc,pl,pc,rfl,hF,k5,hS,hIS⟩
 obtain ⟨W6,uZ⟩:∃ W6,W6=w5.alloc (.cells #[ah 3] 3):=⟨_,rfl⟩
 have k6:aj aB w5 W6:=by rw [uZ];exact (aj.refl _ _).alloc _
 have hb6:aF W6 w5.heap.size [ah 3] 3:=by rw [uZ];exact aF.bC w5 _ _
 have hI6:gY .i64 W6 (some ⟨w5.heap.size,0,none⟩) 1 [3]:=⟨rfl,fun _=>⟨_,0,rfl,fun j hj=>by
  obtain rfl:j=0:=by omega
  exact hb6.cell 0 rfl⟩⟩
 have PL:Hid (Calls aA 22 #[.slice fa 1 fc,.slice (some ⟨w5.heap.size,0,none⟩) 1 1] W6 fun e w'=>e = .returned (.bool true)/\aj aB W6 w'):=by
  refine (Ky fa (some ⟨w5.heap.size,0,none⟩) 1 1 fc 1 [3] [3] W6 (hF.below k6) hI6 (by omega) (by omega)).mono ?_
  rintro e w' ⟨rfl,k⟩
  exact ⟨rfl,k⟩
 have HIS:Hid (∀ W,aj aB W6 W->Calls aA 33 #[au (G.D 0),ah 1] W fun e w''=>e = .returned (.bool true)/\W=w''):=fun W kW=>hIS W (k6.trans kW)
 have HS:Hid (∀ W,aj aB W6 W->W.cell? ⟨G.S,0,none⟩=some (au (G.D 0))):=fun W kW=>kW.still (k6.still hS)
 have Gu:Hid (aj aB w W6):=bI.out.trans (k5.trans k6)
 have HW6:=ay uZ
 clear hF k5 hIS Qe HW1 bI Ur hS uZ k6 hb6 hI6
 go_wp2_with fail
 rw [<- HW6.out]
 refine PL.out.mono ?_
 rintro e w7 ⟨rfl,k7⟩
 have hS7:=HS.out w7 k7
 have agD:=ay (HIS.out w7 k7)
 have HK7:Hid (aj aB w w7):=Gu.out.trans k7
 clear HS HIS Gu HW6 PL k7
 go_wp2_with fail
 refine agD.out.mono ?_
 rintro e w8 ⟨rfl,rfl⟩
 clear agD hS7
 go_wp2_with fail
 go_ret
 exact ⟨rfl,HK7.out⟩
end
end
section
open Go.RowKit Go.ChangeShapes Go.WideShapes Go.Deep
theorem list11 {α:Type} {l:List α} (h:l.length=11):∃ a b c d e f g s1 s2 s3 s4,l=[a,b,c,d,e,f,g,s1,s2,s3,s4]:=by
 match l,h with
 | [a,b,c,d,e,f,g,s1,s2,s3,s4],_=>exact ⟨a,b,c,d,e,f,g,s1,s2,s3,s4,rfl⟩
theorem yt.agE {w:World} {a:Option Addr} {n:Nat} {zs:List Int} (h:Gw .u8 w a n zs):yt w a n (zs.map Int.toNat):=by
 have hz:∀ z∈zs,0<=z/\z<256:=fun z hz=>by
  obtain ⟨i,hi,rfl⟩:=List.mem_iff_getElem.1 hz
  have:=h.KE i (by have:=h.len;omega)
  rw [ajg,ajh hi] at this
  have m1:IntKind.u8.min=0:=rfl
  have m2:IntKind.u8.max=255:=rfl
  simp [Lit.wf] at this
  omega
 have e:(zs.map Int.toNat).map (fun x:Nat=>(x:Int))=zs:=by
  rw [List.map_map]
  conv=>rhs;rw [<- List.map_id zs]
  exact alJ (fun z hm=>by have:=hz z hm;show ((z.toNat:Nat):Int)=z;omega)
 refine ⟨by rw [e];exact h.cells,fun x hx=>?_⟩
 obtain ⟨z,hm,rfl⟩:=akW.1 hx
 have:=hz z hm
 omega
section
variable {H:Type} {enc:TypeId × Value->H} {P:Program} {w:World} {bP:Nat} {held:Bool}
theorem Gi {t e:TypeId} {fuel:Nat} {v:Value} {x:DataW H × List MemPlace} (ht:P.underlying t=some (.slice e)) (he:P.underlying e=some (.int .u8)) (hc:P.cellsOf e=1) (h:DataW.trod enc P w bP (fun _=>true) held fuel t [v]=some x):∃ a n c l,v = .slice a n c/\yt w a n l:=by
 rcases open_ints ht he hc h with ⟨hcs,_⟩|⟨x,l,c,zs,hcs,_,hl,hm,hz,_,hcell,hwz⟩
 ·simp at hcs
  exact ⟨none,0,0,[],hcs,⟨⟨rfl,fun h=>absurd h (ajY 0)⟩,fun x hx=>by cases hx⟩⟩
 ·simp at hcs
  exact ⟨some x,l,c,_,hcs,yt.agE (Gw.ofRow hl (by simpa using hz) hcell hwz)⟩
theorem YT {r:Reach} {b0:Nat} {t e:TypeId} {fs:Array Field} {f0 f1 f2 f3 f4:Field} {v:Value} {d:DataW H} {p:List MemPlace} (hs:P.underlying t=some (.struct fs)) (e0:fs[0]?=some f0) (e1:fs[1]?=some f1) (e2:fs[2]?=some f2) (e3:fs[3]?=some f3) (e4:fs[4]?=some f4)
 (o:f0.offset=0/\f1.offset=7/\f2.offset=8/\f3.offset=9/\f4.offset=10) (k0:flat P 9 f0.type=some [.int .i64,.int .i64,.int .i64,.int .i64,.int .i64,.int .i64,.int .i64]) (c0:P.cellsOf f0.type=7)
 (u:P.underlying f1.type=some (.slice e)) (c1:P.cellsOf f1.type=1) (ty:f2.type=f1.type/\f3.type=f1.type/\f4.type=f1.type) (ue:P.underlying e=some (.int .u8)) (ce:P.cellsOf e=1) (ct:P.cellsOf t=11)
 (hv:Value.okWide P w r b0 t v) (h:DataW.Trod enc P w bP (fun _=>true) held t v d p):∃ (x:xE) (a1 a2 a3 a4:Option Addr) (n1 n2 n3 n4 p1 p2 p3 p4:Nat),v=Aj x.c a1 a2 a3 a4 n1 n2 n3 n4 p1 p2 p3 p4/\Ir w x a1 a2 a3 a4 n1 n2 n3 n4:=by
 obtain ⟨cs,rfl,hsz⟩:=okWide_struct hs hv
 obtain ⟨fuel,hf⟩:=h
 obtain ⟨xs,n,_,_,hl,hxl,hfl⟩:=DataW.trod_struct hs hf
 rw [ct] at hl
 obtain ⟨o0,o1,o2,o3,o4⟩:=o
 obtain ⟨t2,t3,t4⟩:=ty
 have hl':cs.toList.length=11:=hl
 obtain ⟨q0,q1,q2,q3,q4,q5,q6,s1,s2,s3,s4,hc⟩:=list11 hl'
 have hlt:∀ (i:Nat) (f:Field),fs[i]?=some f->∃ x,DataW.trod enc P w bP (fun _=>true) held n f.type ((cs.toList.drop f.offset).take (P.cellsOf f.type))=some x:=fun i f hi=>by
  have hlt:i<xs.length:=by rw [hxl];exact (Array.getElem?_eq_some_iff.1 hi).1
  exact ⟨xs[i],by
   have:=hfl i f hi
   rw [ajh hlt] at this
   exact this⟩
 obtain ⟨x0,g0⟩:=hlt 0 f0 e0
 obtain ⟨x1,g1⟩:=hlt 1 f1 e1
 obtain ⟨x2,g2⟩:=hlt 2 f2 e2
 obtain ⟨x3,g3⟩:=hlt 3 f3 e3
 obtain ⟨x4,g4⟩:=hlt 4 f4 e4
 rw [hc,o0,c0] at g0
 rw [hc,o1,c1] at g1
 rw [hc,o2,t2,c1] at g2
 rw [hc,o3,t3,c1] at g3
 rw [hc,o4,t4,c1] at g4
 have hF:=adU 9 n _ _ _ _ g0 k0
 obtain ⟨a1,n1,p1,l1,hs1,hu1⟩:=Gi u ue ce g1
 obtain ⟨a2,n2,p2,l2,hs2,hu2⟩:=Gi u ue ce g2
 obtain ⟨a3,n3,p3,l3,hs3,hu3⟩:=Gi u ue ce g3
 obtain ⟨a4,n4,p4,l4,hs4,hu4⟩:=Gi u ue ce g4
 obtain ⟨v0,w0,z0,r0,_⟩:=hF.ni 0 (.int .i64) rfl
 obtain ⟨v1,w1,z1,r1,_⟩:=hF.ni 1 (.int .i64) rfl
 obtain ⟨v2,w2,z2,r2,_⟩:=hF.ni 2 (.int .i64) rfl
 obtain ⟨v3,w3,z3,r3,_⟩:=hF.ni 3 (.int .i64) rfl
 obtain ⟨v4,w4,z4,r4,_⟩:=hF.ni 4 (.int .i64) rfl
 obtain ⟨v5,w5,z5,r5,_⟩:=hF.ni 5 (.int .i64) rfl
 obtain ⟨v6,w6,z6,r6,_⟩:=hF.ni 6 (.int .i64) rfl
 refine ⟨⟨⟨z0,z1,z2,z3,z4,z5,z6⟩,l1,l2,l3,l4⟩,a1,a2,a3,a4,n1,n2,n3,n4,p1,p2,p3,p4,?_,⟨hu1,hu2,hu3,hu4⟩⟩
 have e:cs=#[q0,q1,q2,q3,q4,q5,q6,s1,s2,s3,s4]:=by
  have:=congrArg List.toArray hc
  simpa using this
 have w0':some q0=some v0:=w0
 have w1':some q1=some v1:=w1
 have w2':some q2=some v2:=w2
 have w3':some q3=some v3:=w3
 have w4':some q4=some v4:=w4
 have w5':some q5=some v5:=w5
 have w6':some q6=some v6:=w6
 cases w0';cases w1';cases w2';cases w3';cases w4';cases w5';cases w6'
 rw [e,r0,r1,r2,r3,r4,r5,r6,hs1,hs2,hs3,hs4]
end
end
section
attribute [local go_sem] Oper.semAt_some
open Go.RowKit
theorem adk {eP : List (String × DataW Unit)} {w : World} (h : laidMet aA (("math/bits.deBruijn64tab", Rows.laid_math_bits_deBruijn64tab) :: eP) w) : pI w := by
 obtain ⟨ps,⟨g,t,cs,fuel,p,q,hg,ht,hvar,hd,_,_⟩,_⟩:=h
 obtain rfl : 1 = g := Option.some.inj ((show aA.globalNamed "math/bits.deBruijn64tab" = some 1 by kernel_rfl).symm.trans hg)
 obtain rfl:214=t:=Option.some.inj ((show (aA.globals[1]?).map (·.type)=some 214 by kernel_rfl).symm.trans ht)
 obtain ⟨cs,rfl⟩:∃ l:List Value,cs=l.toArray:=⟨cs.toList,by simp⟩
 have e:cs=(Lib.deBruijn64tab.map fun x:Nat=>(x:Int)).map (Value.int .u8):=Lib.cells_of_tab (zs:=Lib.deBruijn64tab.map fun x:Nat=>(x:Int)) (show aA.underlying 214=some (.array 64 5) by kernel_rfl) (show aA.underlying 5=some (.int .u8) by kernel_rfl) (by kernel_rfl) (by kernel_rfl) hd
 intro j hj
 rw [World.var?_cell (P:=aA) hg hvar j,e]
 rw [ajg,ajh hj]
 simp [hj]
def IC (n1 n2 n3 n4:Nat):Bool:=decide (30<n1)||decide (100<n2)||decide (20<n3)||decide (20<n4)
theorem aaZ {n1 n2 n3 n4:Nat} (h:IC n1 n2 n3 n4=false):n1<=30/\n2<=100/\n3<=20/\n4<=20:=by
 unfold IC at h
 simp only [Bool.or_eq_false_iff,decide_eq_false_iff_not] at h
 omega
section
variable {w:World} {c:bK} {a1 a2 a3 a4:Option Addr} {n1 n2 n3 n4 p1 p2 p3 p4:Nat}
theorem abb (c:bK) (a1 a2 a3 a4:Option Addr) (n1 n2 n3 n4 p1 p2 p3 p4:Nat) (w:World):Calls aA 9 #[Aj c a1 a2 a3 a4 n1 n2 n3 n4 p1 p2 p3 p4] w fun e w'=>e = .returned (.bool (IC n1 n2 n3 n4))/\aj aB w w':=by
 obtain ⟨W0,hW0⟩:∃ W0,W0=w.alloc (.cells #[ah c.b,ah c.w,ah c.m,ah c.r,ah c.c,ah c.l,ah c.s,.slice a1 n1 p1,.slice a2 n2 p2,.slice a3 n3 p3,.slice a4 n4 p4] 26):=⟨_,rfl⟩
 have k0:aj aB w W0:=by rw [hW0];exact (aj.refl _ _).alloc _
 have hb:aF W0 w.heap.size [ah c.b,ah c.w,ah c.m,ah c.r,ah c.c,ah c.l,ah c.s,.slice a1 n1 p1,.slice a2 n2 p2,.slice a3 n3 p3,.slice a4 n4 p4] 26:=by rw [hW0];exact aF.bC w _ _
 have y7:=hb.cell 7 rfl;have y8:=hb.cell 8 rfl;have y9:=hb.cell 9 rfl;have y10:=hb.cell 10 rfl
 have gQ:=ay k0
 rw [hW0] at y7 y8 y9 y10
 rw [hW0] at gQ
 unfold IC
 clear hb hW0 k0
 by_cases h1:30<n1
 ·have hI:(30:Int)<(n1:Int):=by omega
  rw [fK h1]
  go_enter func9,ntmps9
  go_wp2_with fail
  go_ret
  exact ⟨rfl,gQ.out⟩
 ·have hI:¬ (30:Int)<(n1:Int):=by omega
  rw [gJ h1]
  by_cases h2:100<n2
  ·have hI2:(100:Int)<(n2:Int):=by omega
   rw [fK h2]
   go_enter func9,ntmps9
   go_wp2_with fail
   go_ret
   exact ⟨rfl,gQ.out⟩
  ·have hI2:¬ (100:Int)<(n2:Int):=by omega
   rw [gJ h2]
   by_cases h3:20<n3
   ·have hI3:(20:Int)<(n3:Int):=by omega
    rw [fK h3]
    go_enter func9,ntmps9
    go_wp2_with fail
    go_ret
    exact ⟨rfl,gQ.out⟩
   ·have hI3:¬ (20:Int)<(n3:Int):=by omega
    rw [gJ h3]
    by_cases h4:20<n4
    ·have hI4:(20:Int)<(n4:Int):=by omega
     rw [fK h4]
     go_enter func9,ntmps9
     go_wp2_with fail
     go_ret
     exact ⟨rfl,gQ.out⟩
    ·have hI4:¬ (20:Int)<(n4:Int):=by omega
     rw [gJ h4]
     go_enter func9,ntmps9
     go_wp2_with fail
     go_ret
     exact ⟨rfl,gQ.out⟩
end
section
variable {w w':World}
theorem abd (a b p:Nat) (ha:1<=a) (hp:a*b=p) (hp2:p<=1000000000000) (w:World):Calls aA 50 #[ah (a:Int),ah (b:Int)] w fun e w'=>e = .returned (ah (p:Int))/\w=w':=by
 obtain ⟨q,hq⟩:∃ q,q=4611686018427387904/a:=⟨_,rfl⟩
 have hbq:b<=q:=by
  rw [hq,Nat.le_div_iff_mul_le (by omega),Nat.mul_comm,hp];omega
 have hq1:(4611686018427387904:Int).tdiv (a:Int)=(q:Int):=by
  rw [alK (by omega),hq];rfl
 have hq2:(4611686018427387904:Int)/(a:Int)=(q:Int):=by rw [hq];rfl
 have uP:q<=4611686018427387904:=by rw [hq];exact Nat.div_le_self _ _
 have Pg:(q:Int)<=4611686018427387904:=by omega
 have hI:(0:Int)<(a:Int):=by omega
 have h0:¬ (a:Int)=0:=by omega
 have hnb:¬ (q:Int)<(b:Int):=by omega
 have hm:(a:Int)*(b:Int)=(p:Int):=by rw [<- hp];simp
 have hpI:(p:Int)<=1000000000000:=by omega
 clear hq hp hbq
 go_enter func50,ntmps50
 go_wp2_with fail
 go_ret
 exact ⟨rfl,rfl⟩
abbrev xR (b w m r c l s:Nat):Value := .agg #[ah (b:Int),ah (w:Int),ah (m:Int),ah (r:Int),ah (c:Int),ah (l:Int),ah (s:Int)]
variable {b ww m r c l s:Nat}
theorem VK (hb:b<=4096) (hw:ww<=256) (n:Nat) (hn:b*(ww/2)=n) (w:World):Calls aA 94 #[xR b ww m r c l s] w fun e w'=>e = .returned (ah (n:Int))/\aj aB w w':=by
 obtain ⟨W0,hW0⟩:∃ W0,W0=w.alloc (.cells #[ah (b:Int),ah (ww:Int),ah (m:Int),ah (r:Int),ah (c:Int),ah (l:Int),ah (s:Int)] 23):=⟨_,rfl⟩
 have k0:aj aB w W0:=by rw [hW0];exact (aj.refl _ _).alloc _
 have hbk:aF W0 w.heap.size [ah (b:Int),ah (ww:Int),ah (m:Int),ah (r:Int),ah (c:Int),ah (l:Int),ah (s:Int)] 23:=by rw [hW0];exact aF.bC w _ _
 have y0:=hbk.cell 0 rfl;have y1:=hbk.cell 1 rfl
 have gQ:=ay k0
 rw [hW0] at y0 y1 gQ
 obtain ⟨h,hh⟩:∃ h,h=ww/2:=⟨_,rfl⟩
 have e1:(ww:Int).tdiv 2=(h:Int):=by rw [alK (by omega)];omega
 have e2:(ww:Int)/2=(h:Int):=by omega
 have hm2:(b:Int)*(h:Int)=(n:Int):=by rw [<- hn,hh];simp
 have hhI:(h:Int)<=128:=by omega
 have O8:(n:Int)<=1000000:=by
  have:b*h<=4096*128:=akd hb (by omega)
  rw [<- hh] at hn
  omega
 clear hbk hW0 k0 hn hh
 go_enter func94,ntmps94
 go_wp2_with fail
 go_ret
 exact ⟨rfl,gQ.out⟩
theorem UA (hw:ww<=256) (hl:l<=256) (w:World):Calls aA 51 #[xR b ww m r c l s] w fun e w'=>e = .returned (ah ((64+4*l+ww:Nat):Int))/\aj aB w w':=by
 obtain ⟨W0,hW0⟩:∃ W0,W0=w.alloc (.cells #[ah (b:Int),ah (ww:Int),ah (m:Int),ah (r:Int),ah (c:Int),ah (l:Int),ah (s:Int)] 23):=⟨_,rfl⟩
 have k0:aj aB w W0:=by rw [hW0];exact (aj.refl _ _).alloc _
 have hbk:aF W0 w.heap.size [ah (b:Int),ah (ww:Int),ah (m:Int),ah (r:Int),ah (c:Int),ah (l:Int),ah (s:Int)] 23:=by rw [hW0];exact aF.bC w _ _
 have y5:=hbk.cell 5 rfl;have y1:=hbk.cell 1 rfl
 have gQ:=ay k0
 rw [hW0] at y5 y1 gQ
 have hlI:(l:Int)<=256:=by omega
 have hwI:(ww:Int)<=256:=by omega
 clear hbk hW0 k0
 go_enter func51,ntmps51
 go_wp2_with fail
 go_ret
 exact ⟨by simp,gQ.out⟩
theorem IE (hr:r<=64) (hl:l<=256) (q:Nat) (hq:r*(l+8)=q) (w:World):Calls aA 52 #[xR b ww m r c l s] w fun e w'=>e = .returned (ah ((16+q+4*l:Nat):Int))/\aj aB w w':=by
 obtain ⟨W0,hW0⟩:∃ W0,W0=w.alloc (.cells #[ah (b:Int),ah (ww:Int),ah (m:Int),ah (r:Int),ah (c:Int),ah (l:Int),ah (s:Int)] 23):=⟨_,rfl⟩
 have k0:aj aB w W0:=by rw [hW0];exact (aj.refl _ _).alloc _
 have hbk:aF W0 w.heap.size [ah (b:Int),ah (ww:Int),ah (m:Int),ah (r:Int),ah (c:Int),ah (l:Int),ah (s:Int)] 23:=by rw [hW0];exact aF.bC w _ _
 have y5:=hbk.cell 5 rfl;have y3:=hbk.cell 3 rfl
 have gQ:=ay k0
 rw [hW0] at y5 y3 gQ
 have hlI:(l:Int)<=256:=by omega
 have hm2:(r:Int)*((l:Int)+8)=(q:Int):=by rw [<- hq];simp
 have Pg:(q:Int)<=100000:=by
  have:r*(l+8)<=64*264:=akd hr (by omega)
  omega
 clear hbk hW0 k0 hq
 go_enter func52,ntmps52
 go_wp2_with fail
 go_ret
 exact ⟨by simp,gQ.out⟩
theorem Kz (E1 E2:Int) (a b p:Nat) (h1:E1=(a:Int)) (h2:E2=(b:Int)) (ha:1<=a) (hp:a*b=p) (hp2:p<=1000000000000) (w:World):Calls aA 50 #[ah E1,ah E2] w fun e w'=>e = .returned (ah (p:Int))/\w=w':=by
 subst h1 h2
 exact abd a b p ha hp hp2 w
theorem QI (hb:b<=4) (hw:ww<=40) (hm:m<=4) (hr:r<=5) (hc:c<=4) (hl:l<=4) (n o aa X mk:Nat) (hn:b*(ww/2)=n) (ho:o=64+4*l+ww) (Gq:aa=16+r*(l+8)+4*l) (hX:X=40*n+2*m*(l+4)+2*c+o+aa+40) (hmk:(2*n+6)*X=mk) (w:World) :
 Calls aA 49 #[xR b ww m r c l s,ah 1] w fun e w'=>e = .returned (ah (mk:Int))/\aj aB w w':=by
 obtain ⟨W0,hW0⟩:∃ W0,W0=w.alloc (.cells #[ah (b:Int),ah (ww:Int),ah (m:Int),ah (r:Int),ah (c:Int),ah (l:Int),ah (s:Int)] 23):=⟨_,rfl⟩
 have k0:aj aB w W0:=by rw [hW0];exact (aj.refl _ _).alloc _
 have hbk:aF W0 w.heap.size [ah (b:Int),ah (ww:Int),ah (m:Int),ah (r:Int),ah (c:Int),ah (l:Int),ah (s:Int)] 23:=by rw [hW0];exact aF.bC w _ _
 have uN:Hid (∀ W,aj aB W0 W->W.cell? ⟨w.heap.size,0,none⟩=some (ah (b:Int))/\W.cell? ⟨w.heap.size,1,none⟩=some (ah (ww:Int))/\W.cell? ⟨w.heap.size,2,none⟩=some (ah (m:Int))/\W.cell? ⟨w.heap.size,3,none⟩=some (ah (r:Int))/\W.cell? ⟨w.heap.size,4,none⟩=some (ah (c:Int))/\W.cell? ⟨w.heap.size,5,none⟩=some (ah (l:Int))/\W.cell? ⟨w.heap.size,6,none⟩=some (ah (s:Int))):=fun W k=>by
  have h:=k.aH hbk (fun f=>f)
  exact ⟨h.cell 0 rfl,h.cell 1 rfl,h.cell 2 rfl,h.cell 3 rfl,h.cell 4 rfl,h.cell 5 rfl,h.cell 6 rfl⟩
 obtain ⟨y0,y1,y2,y3,y4,y5,y6⟩:=uN.out W0 (aj.refl _ _)
 have gQ:=ay k0
 have HW0:=ay hW0
 obtain ⟨ml,hml⟩:∃ ml,ml=2*m*(l+4):=⟨_,rfl⟩
 have agF:2*(m:Int)*((l:Int)+4)=(ml:Int):=by rw [hml];simp
 have hml2:ml<=2*4*8:=by rw [hml];exact akd (alE 2 hm) (by omega)
 have hn2:n<=4*20:=by rw [<- hn];exact akd hb (by omega)
 have hrl2:r*(l+8)<=5*12:=akd hr (by omega)
 have haa2:aa<=100:=by omega
 have ho2:o<=120:=by omega
 rw [<- hml] at hX
 have hX2:X<=4000:=by omega
 have hmk2:mk<=166*4000:=by rw [<- hmk];exact akd (by omega) hX2
 have HSL:Hid (∀ W,Calls aA 94 #[xR b ww m r c l s] W fun e w'=>e = .returned (ah (n:Int))/\aj aB W w'):=fun W=>VK (by omega) (by omega) n hn W
 have UC:Hid (∀ W,Calls aA 51 #[xR b ww m r c l s] W fun e w'=>e = .returned (ah (o:Int))/\aj aB W w'):=fun W=>by
  have h:=UA (b:=b) (m:=m) (r:=r) (c:=c) (s:=s) (ww:=ww) (l:=l) (by omega) (by omega) W
  rw [<- ho] at h;exact h
 have AU:Hid (∀ W,Calls aA 52 #[xR b ww m r c l s] W fun e w'=>e = .returned (ah (aa:Int))/\aj aB W w'):=fun W=>by
  have h:=IE (b:=b) (m:=m) (r:=r) (c:=c) (s:=s) (ww:=ww) (l:=l) (by omega) (by omega) (r*(l+8)) rfl W
  rw [<- Gq] at h;exact h
 obtain ⟨z,hz⟩:∃ z,z=2*n+6:=⟨_,rfl⟩
 rw [<- hz] at hmk
 have HT:Hid (∀ W (E1 E2 P:Int),((E1=1/\E2=(z:Int)/\P=(z:Int))\/(E1=(z:Int)/\E2=(X:Int)/\P=(mk:Int)))->Calls aA 50 #[ah E1,ah E2] W fun e w'=>e = .returned (ah P)/\W=w'):=fun W E1 E2 P h=>by
  rcases h with ⟨h1,h2,rfl⟩|⟨h1,h2,rfl⟩
  ·exact Kz E1 E2 1 z _ h1 h2 (by omega) (by omega) (by omega) W
  ·exact Kz E1 E2 z X mk h1 h2 (by omega) hmk (by omega) W
 have HZ:Hid (2*(n:Int)+6=(z:Int)):=by show _=_;omega
 have HX:Hid ((X:Int)=40*(n:Int)+(ml:Int)+2*(c:Int)+(o:Int)+(aa:Int)+40):=by show _=_;omega
 have i1:(n:Int)<=80:=by omega
 have i2:(ml:Int)<=64:=by omega
 have i3:(o:Int)<=120:=by omega
 have i4:(aa:Int)<=100:=by omega
 have i5:(c:Int)<=4:=by omega
 have i6:(l:Int)<=4:=by omega
 have i7:(m:Int)<=4:=by omega
 have g1:Hid (IntKind.i64.wrap (40*(n:Int))=40*(n:Int)):=ajw _ (by omega)
 have g2:Hid (IntKind.i64.wrap (2*(m:Int))=2*(m:Int)):=ajw _ (by omega)
 have g3:Hid (IntKind.i64.wrap ((l:Int)+4)=(l:Int)+4):=ajw _ (by omega)
 have g4:Hid (IntKind.i64.wrap (2*(m:Int)*((l:Int)+4))=(ml:Int)):=by show _=_;rw [agF];exact ajw _ (by omega)
 have g5:Hid (IntKind.i64.wrap (40*(n:Int)+(ml:Int))=40*(n:Int)+(ml:Int)):=ajw _ (by omega)
 have g6:Hid (IntKind.i64.wrap (2*(c:Int))=2*(c:Int)):=ajw _ (by omega)
 have g7:Hid (IntKind.i64.wrap (40*(n:Int)+(ml:Int)+2*(c:Int))=40*(n:Int)+(ml:Int)+2*(c:Int)):=ajw _ (by omega)
 have g8:Hid (IntKind.i64.wrap (40*(n:Int)+(ml:Int)+2*(c:Int)+(o:Int))=40*(n:Int)+(ml:Int)+2*(c:Int)+(o:Int)):=ajw _ (by omega)
 have g9:Hid (IntKind.i64.wrap (40*(n:Int)+(ml:Int)+2*(c:Int)+(o:Int)+(aa:Int))=40*(n:Int)+(ml:Int)+2*(c:Int)+(o:Int)+(aa:Int)):=ajw _ (by omega)
 have g10:Hid (IntKind.i64.wrap (40*(n:Int)+(ml:Int)+2*(c:Int)+(o:Int)+(aa:Int)+40)=40*(n:Int)+(ml:Int)+2*(c:Int)+(o:Int)+(aa:Int)+40):=ajw _ (by omega)
 have f1:Hid (IntKind.i64.wrap (2*(n:Int))=2*(n:Int)):=ajw _ (by omega)
 have f2:Hid (IntKind.i64.wrap (2*(n:Int)+6)=2*(n:Int)+6):=ajw _ (by omega)
 rw [hW0] at y0 y1 y2 y3 y4 y5 y6
 clear agF
 clear hbk hW0 k0 hn ho Gq hX hmk hml hn2 hrl2 haa2 ho2 hX2 hmk2 hml2 hb hw hm hr hc hl hz
 go_enter func49,ntmps49
 go_wp2_with fail
 rw [<- HW0.out]
 refine (HSL.out W0).mono ?_
 rintro e w1 ⟨rfl,k1⟩
 have HK:=ay k1.drew
 clear k1 y0 y1 y2 y3 y4 y5 y6 HSL HW0
 go_wp2_with fail
 go_region_held3 (fun W'=>W'.cell? ⟨w.heap.size,0,none⟩=some (ah (b:Int))/\W'.cell? ⟨w.heap.size,1,none⟩=some (ah (ww:Int))/\W'.cell? ⟨w.heap.size,2,none⟩=some (ah (m:Int))/\W'.cell? ⟨w.heap.size,3,none⟩=some (ah (r:Int))/\W'.cell? ⟨w.heap.size,4,none⟩=some (ah (c:Int))/\W'.cell? ⟨w.heap.size,5,none⟩=some (ah (l:Int))/\W'.cell? ⟨w.heap.size,6,none⟩=some (ah (s:Int)))
  (first
   | exact uN.out _ HK.out
   | fail "nR")
  (first
   | (go_at_call 51
      refine (UC.out _).mono ?_
      rintro e w2 ⟨rfl,k2⟩
      have HK:=ay (HK.out.trans k2)
      clear k2)
   | (go_at_call 52
      refine (AU.out _).mono ?_
      rintro e w2 ⟨rfl,k2⟩
      have HK:=ay (HK.out.trans k2)
      clear k2)
   | (go_at_call 50
      refine (HT.out _ _ _ _ (by first|exact Or.inr ⟨rfl,(by rw [g1.out,g2.out,g3.out,g4.out,g5.out,g6.out,g7.out,g8.out,g9.out,g10.out];exact HX.out.symm),rfl⟩|exact Or.inl ⟨rfl,(by rw [f1.out,f2.out];exact HZ.out),rfl⟩)).mono ?_
      rintro e w2 ⟨rfl,rfl⟩)
   | fail "qg")
 all_goals
  go_wp2_with fail
  go_ret
  exact ⟨rfl,gQ.out.trans HK.out⟩
theorem VL (hb:b<=4) (hw:ww<=40) (hm:m<=4) (hr:r<=5) (hc:c<=4) (hl:l<=4) (o aa mk bb:Nat) (ho:o=64+4*l+ww) (Gq:aa=16+r*(l+8)+4*l) (hmk:(2*(b*(ww/2))+6)*(40*(b*(ww/2))+2*m*(l+4)+2*c+o+aa+40)=mk) (hbb:bb=2*b*(ww+8)+3*o+2*aa+4*m+60) (hmk2:mk<=1000000) (w:World) :
 Calls aA 25 #[xR b ww m r c l s,ah 1] w fun e w'=>e = .returned (ah ((mk+bb:Nat):Int))/\aj aB w w':=by
 obtain ⟨W0,hW0⟩:∃ W0,W0=w.alloc (.cells #[ah (b:Int),ah (ww:Int),ah (m:Int),ah (r:Int),ah (c:Int),ah (l:Int),ah (s:Int)] 23):=⟨_,rfl⟩
 have k0:aj aB w W0:=by rw [hW0];exact (aj.refl _ _).alloc _
 have hbk:aF W0 w.heap.size [ah (b:Int),ah (ww:Int),ah (m:Int),ah (r:Int),ah (c:Int),ah (l:Int),ah (s:Int)] 23:=by rw [hW0];exact aF.bC w _ _
 have uN:Hid (∀ W,aj aB W0 W->W.cell? ⟨w.heap.size,0,none⟩=some (ah (b:Int))/\W.cell? ⟨w.heap.size,1,none⟩=some (ah (ww:Int))/\W.cell? ⟨w.heap.size,2,none⟩=some (ah (m:Int))/\W.cell? ⟨w.heap.size,3,none⟩=some (ah (r:Int))/\W.cell? ⟨w.heap.size,4,none⟩=some (ah (c:Int))/\W.cell? ⟨w.heap.size,5,none⟩=some (ah (l:Int))/\W.cell? ⟨w.heap.size,6,none⟩=some (ah (s:Int))):=fun W k=>by
  have h:=k.aH hbk (fun f=>f)
  exact ⟨h.cell 0 rfl,h.cell 1 rfl,h.cell 2 rfl,h.cell 3 rfl,h.cell 4 rfl,h.cell 5 rfl,h.cell 6 rfl⟩
 obtain ⟨y0,y1,y2,y3,y4,y5,y6⟩:=uN.out W0 (aj.refl _ _)
 have gQ:=ay k0
 have HW0:=ay hW0
 obtain ⟨q,hq⟩:∃ q,q=2*b*(ww+8):=⟨_,rfl⟩
 have Pg:2*(b:Int)*((ww:Int)+8)=(q:Int):=by rw [hq];simp
 have hq2:q<=2*4*48:=by rw [hq];exact akd (alE 2 hb) (by omega)
 have hrl2:r*(l+8)<=5*12:=akd hr (by omega)
 have haa2:aa<=100:=by omega
 have ho2:o<=120:=by omega
 rw [<- hq] at hbb
 have hbb2:bb<=2000:=by omega
 have HMK:Hid (∀ W,Calls aA 49 #[xR b ww m r c l s,ah 1] W fun e w'=>e = .returned (ah (mk:Int))/\aj aB W w'):=fun W=>QI hb hw hm hr hc hl _ o aa _ mk rfl ho Gq rfl hmk W
 have UC:Hid (∀ W,Calls aA 51 #[xR b ww m r c l s] W fun e w'=>e = .returned (ah (o:Int))/\aj aB W w'):=fun W=>by
  have h:=UA (b:=b) (m:=m) (r:=r) (c:=c) (s:=s) (ww:=ww) (l:=l) (by omega) (by omega) W
  rw [<- ho] at h;exact h
 have AU:Hid (∀ W,Calls aA 52 #[xR b ww m r c l s] W fun e w'=>e = .returned (ah (aa:Int))/\aj aB W w'):=fun W=>by
  have h:=IE (b:=b) (m:=m) (r:=r) (c:=c) (s:=s) (ww:=ww) (l:=l) (by omega) (by omega) (r*(l+8)) rfl W
  rw [<- Gq] at h;exact h
 have HT:Hid (∀ W (E2:Int),E2=(bb:Int)->Calls aA 50 #[ah 1,ah E2] W fun e w'=>e = .returned (ah (bb:Int))/\W=w'):=fun W E2 h2=>Kz 1 E2 1 bb _ rfl h2 (by omega) (by omega) (by omega) W
 have HX:Hid ((bb:Int)=(q:Int)+3*(o:Int)+2*(aa:Int)+4*(m:Int)+60):=by show _=_;omega
 have i1:(q:Int)<=384:=by omega
 have i3:(o:Int)<=120:=by omega
 have i4:(aa:Int)<=100:=by omega
 have i5:(b:Int)<=4:=by omega
 have i6:(ww:Int)<=40:=by omega
 have i7:(m:Int)<=4:=by omega
 have i8:(mk:Int)<=1000000:=by omega
 have i9:(bb:Int)<=2000:=by omega
 have g1:Hid (IntKind.i64.wrap (2*(b:Int))=2*(b:Int)):=ajw _ (by omega)
 have g2:Hid (IntKind.i64.wrap ((ww:Int)+8)=(ww:Int)+8):=ajw _ (by omega)
 have g3:Hid (IntKind.i64.wrap (2*(b:Int)*((ww:Int)+8))=(q:Int)):=by show _=_;rw [Pg];exact ajw _ (by omega)
 have g4:Hid (IntKind.i64.wrap (3*(o:Int))=3*(o:Int)):=ajw _ (by omega)
 have g5:Hid (IntKind.i64.wrap ((q:Int)+3*(o:Int))=(q:Int)+3*(o:Int)):=ajw _ (by omega)
 have g6:Hid (IntKind.i64.wrap (2*(aa:Int))=2*(aa:Int)):=ajw _ (by omega)
 have g7:Hid (IntKind.i64.wrap ((q:Int)+3*(o:Int)+2*(aa:Int))=(q:Int)+3*(o:Int)+2*(aa:Int)):=ajw _ (by omega)
 have g8:Hid (IntKind.i64.wrap (4*(m:Int))=4*(m:Int)):=ajw _ (by omega)
 have g9:Hid (IntKind.i64.wrap ((q:Int)+3*(o:Int)+2*(aa:Int)+4*(m:Int))=(q:Int)+3*(o:Int)+2*(aa:Int)+4*(m:Int)):=ajw _ (by omega)
 have g10:Hid (IntKind.i64.wrap ((q:Int)+3*(o:Int)+2*(aa:Int)+4*(m:Int)+60)=(q:Int)+3*(o:Int)+2*(aa:Int)+4*(m:Int)+60):=ajw _ (by omega)
 have hd:¬ (4611686018427387904 - (bb:Int))<(mk:Int):=by omega
 rw [hW0] at y0 y1 y2 y3 y4 y5 y6
 clear Pg hq hbk hW0 k0 ho Gq hmk hbb hrl2 haa2 ho2 hbb2 hq2 hb hw hm hr hc hl hmk2
 go_enter func25,ntmps25
 go_wp2_with fail
 rw [<- HW0.out]
 rw [<- HW0.out] at y0 y1 y2 y3 y4 y5 y6
 have HK:=ay (aj.refl aB W0).drew
 clear HW0
 go_region_held3 (fun W'=>W'.cell? ⟨w.heap.size,0,none⟩=some (ah (b:Int))/\W'.cell? ⟨w.heap.size,1,none⟩=some (ah (ww:Int))/\W'.cell? ⟨w.heap.size,2,none⟩=some (ah (m:Int))/\W'.cell? ⟨w.heap.size,3,none⟩=some (ah (r:Int))/\W'.cell? ⟨w.heap.size,4,none⟩=some (ah (c:Int))/\W'.cell? ⟨w.heap.size,5,none⟩=some (ah (l:Int))/\W'.cell? ⟨w.heap.size,6,none⟩=some (ah (s:Int)))
  (first
   | exact uN.out _ HK.out
   | fail "nR")
  (first
   | (go_at_call 49
      refine (HMK.out _).mono ?_
      rintro e w2 ⟨rfl,k2⟩
      have HK:=ay (HK.out.trans k2)
      clear k2)
   | (go_at_call 51
      refine (UC.out _).mono ?_
      rintro e w2 ⟨rfl,k2⟩
      have HK:=ay (HK.out.trans k2)
      clear k2)
   | (go_at_call 52
      refine (AU.out _).mono ?_
      rintro e w2 ⟨rfl,k2⟩
      have HK:=ay (HK.out.trans k2)
      clear k2)
   | (go_at_call 50
      refine (HT.out _ _ (by rw [g1.out,g2.out,g3.out,g4.out,g5.out,g6.out,g7.out,g8.out,g9.out,g10.out];exact HX.out.symm)).mono ?_
      rintro e w2 ⟨rfl,rfl⟩)
   | fail "qg")
 all_goals
  go_wp2_with fail
  go_ret
  exact ⟨rfl,gQ.out.trans HK.out⟩
theorem YU (hb:b<=4) (hw:ww<=40) (hm:m<=4) (hr:r<=5) (hc:c<=4) (hl:l<=4) (hN:Ja b ww m r c l<=1000000) (w:World) :
 Calls aA 25 #[xR b ww m r c l s,ah 1] w fun e w'=>e = .returned (ah ((Ja b ww m r c l:Nat):Int))/\aj aB w w':=by
 have h:=VL (b:=b) (ww:=ww) (m:=m) (r:=r) (c:=c) (l:=l) (s:=s) hb hw hm hr hc hl _ _ _ _ rfl rfl rfl rfl (by unfold Ja at hN;omega) w
 exact h
end
end
section
open Go.RowKit
structure Dm where
 b:Nat
 w:Nat
 m:Nat
 r:Nat
 ce:Nat
 l:Nat
 s:Nat
structure Dm.Ok (d:Dm):Prop where
 b:1<=d.b/\d.b<=4
 w:16<=d.w/\d.w<=35
 m:1<=d.m/\d.m<=4
 r:1<=d.r/\d.r<=5
 ce:d.ce<=3
 l:1<=d.l/\d.l<=4
def Dm.qE (d:Dm):bK:=⟨d.b,d.w,d.m,d.r,d.ce,d.l,d.s⟩
def Dm.most (d:Dm):Nat:=Ja d.b d.w d.m d.r d.ce d.l
theorem abe (c:bK):∃ d:Dm,c.bJ=d.qE/\d.Ok:=by
 obtain ⟨b,w,m,r,ce,l,s⟩:=c
 refine ⟨⟨(1+b%4).toNat,(16+w%20).toNat,(1+m%4).toNat,(1+r%5).toNat,(ce%4).toNat,(1+l%4).toNat,(1+s%4).toNat⟩,?_,⟨?_,?_,?_,?_,?_,?_⟩⟩
 ·simp only [bK.bJ,Dm.qE,bK.mk.injEq];omega
 all_goals
  simp only
  omega
section
variable {o o' o0:Ow} {w w' W W' W0:World} {G:fU} {gs:List MG} {q:CG} {x y:WS} {v mv:Value} {N κ K:Nat} {d:Dm}
theorem Dm.Ok.most (h:d.Ok):EZ d.m d.b d.ce d.r (d.w/2)+2<=d.most/\d.most<=1000000:=by
 obtain ⟨h1,_,h3⟩:=YN h.b h.w h.m h.r h.ce h.l
 exact ⟨h1,h3⟩
theorem Dm.Ok.KE (h:d.Ok) (w:World):Calls aA 25 #[.agg d.qE.cells.toArray,ah 1] w fun e w'=>e = .returned (ah (d.most:Int))/\aj aB w w':=by
 have h1:=h.b;have h2:=h.w;have h3:=h.m;have h4:=h.r;have h5:=h.ce;have h6:=h.l
 exact YU (s:=d.s) (by omega) (by omega) (by omega) (by omega) (by omega) (by omega) h.most.2 w
structure CI (d:Dm) (w W:World) (o:Ow) (G:fU) (gs:List MG) (q:CG) (mv:Value) (N:Nat) (x:WS) (κ K:Nat):Prop where
 cw:CW w W o G gs q x
 ok:uQ N x
 Iy:yY x
 mv:lG o W mv gs
 mF:wu d.m d.b d.ce κ x
 aW:∀ (i:Nat) (m:MS),x.aG[i]?=some m->m.aW.length<=d.r
 ww:x.s.H.ww=d.w
 qE:x.s.H.c=d.qE
 dr:rD x.aC
 jM:x.aC.jM=false
 nH:x.aC.cu=K
 len:gs.length=d.m
theorem CI.still (h:CI d w W o G gs q mv N x κ K) (k:aj aB W W'):CI d w W' o G gs q mv N x κ K :=
 ⟨h.cw.yR k,h.ok,h.Iy,h.mv.aK (I:=[]) k.bV rfl (bZ.refl _ _),h.mF,h.aW,h.ww,h.qE,h.dr,h.jM,h.nH,h.len⟩
theorem CI.made {X:xE} {ma:Option Addr} {mc:Nat} (hd:X.c.bJ=d.qE) (hcw:CW w W o G gs q (iY X)) (hok:uQ 300 (iY X)) (hfw:yY (iY X)) (hmv:lG o W (.slice ma gs.length mc) gs) (hI:YO X) (hgl:gs.length=X.c.bJ.m.toNat):CI d w W o G gs q (.slice ma gs.length mc) 300 (iY X) 0 0:=by
 obtain ⟨i1,i2,i3,i4,i5,i6,i7,i8,i9⟩:=hI
 rw [hd] at i1 i4 i6 i7 hgl
 refine ⟨hcw,hok,hfw,hmv,i1,i4,i6,i7,i8,?_,?_,hgl⟩
 ·rw [i3];rfl
 ·rw [i3];rfl
theorem CI.config (h:CI d w W o G gs q mv N x κ K):Calls aA 26 #[au (G.D 0)] W fun e w'=>e = .returned (.agg d.qE.cells.toArray)/\aj aB W w':=by
 have:=zO h.cw.aC.sh.heap
 rw [h.qE] at this
 exact this
theorem CI.adT (h:CI d w W o G gs q mv N x κ K) (hd:d.Ok) (hN:N<=900000000):Calls aA 27 #[au q.C,mv,ah (d.most:Int)] W fun e W'=>∃ (fv pv:Value) (o':Ow) (z x0:WS) (out ph:List Nat),e = .returned (.tuple #[fv,pv,.bool true])/\CI d w W' o' G gs q mv (N+9000001) z (1 - κ) (K+1)/\CX W o W' o'/\qy 98 o' W' fv out/\qy 99 o' W' pv ph/\Es (jd d.m d.b d.ce κ x) x0 out ph z:=by
 obtain ⟨hm1,hm2⟩:=hd.most
 refine (Qb h.cw h.ok h.Iy h.mv d.most (by omega)).mono ?_
 rintro e W' ⟨fv,pv,o',rfl,hs⟩
 rw [Kw,h.len] at *
 have hI:wu d.m d.b d.ce κ { x with aC:={ x.aC with jM:=true },nS:=x.nS+1 }:=h.mF.congr rfl rfl ⟨rfl,rfl,rfl,rfl,rfl,rfl,rfl,rfl⟩
 obtain ⟨out,ph,z,hr,hc⟩:=YS hI rfl h.aW d.most (by rw [show ({ x with aC:={ x.aC with jM:=true },nS:=x.nS+1 }:WS).s.H.ww=d.w from h.ww];exact hm1) h.dr
 have hr':mG d.m d.most { x with aC:={ x.aC with jM:=true },nS:=x.nS+1 } [] [x.aC.phase]=(out,ph,true,z):=hr
 rw [hr'] at hs ⊢
 obtain ⟨s1,s2,s3,s4,s5,s6,s7⟩:=hs
 have hk:N+1+d.most*(d.m+1)<=N+9000001:=by
  have h1:d.most*(d.m+1)<=d.most*9:=alE _ (by have:=hd.m;omega)
  omega
 refine ⟨fv,pv,o',z,_,out,ph,rfl,⟨s1,s2.more hk,s3,s5,hc.mF,fun i m hm=>?_,hc.xG.2.2.1.trans h.ww,hc.xG.2.2.2.1.trans h.qE,hc.dr ?_,hc.qJ.1,?_,h.len⟩,s4,s6,s7,hc⟩
 ·rw [hc.aW i m hm]
  show (((x.aG[i]?).map MS.aW).getD []).length<=d.r
  cases hx:x.aG[i]? with
  | none=>exact Nat.zero_le _
  | some m'=>exact h.aW i m' hx
 ·refine Uy rfl ?_
  have:=Qd h.mF.ph h.dr
  show x.aC.cu+1<=x.aC.je+1
  omega
 ·rw [hc.qJ.2,<- h.nH]
  rfl
end
end
section
def zK (A:List Nat):Nat:=A.foldl max 0
theorem abf (A:List Nat) (a:Nat):zK (A++[a])=max (zK A) a:=by simp [zK]
theorem aeS {A:List Nat} {a:Nat} (h:a∈A):a<=zK A:=by
 have key:∀ (A:List Nat) (z:Nat),z<=A.foldl max z/\∀ a∈A,a<=A.foldl max z:=fun A=>by
  induction A with
  | nil=>intro z;exact ⟨aje _,fun a h=>by cases h⟩
  | cons b A ih =>
    intro z
    obtain ⟨h1,h2⟩:=ih (max z b)
    refine ⟨ajU (Nat.le_max_left _ _) h1,fun a ha=>?_⟩
    rcases ajN.1 ha with e|e
    ·rw [e];exact ajU (Nat.le_max_right _ _) h1
    ·exact h2 a e
 exact (key A 0).2 a h
theorem WW {A:List Nat} {m:Nat} (h:∀ a∈A,a<=m):zK A<=m:=by
 have key:∀ (A:List Nat) (z:Nat),z<=m->(∀ a∈A,a<=m)->A.foldl max z<=m:=fun A=>by
  induction A with
  | nil=>intro z hz _;exact hz
  | cons b A ih =>
    intro z hz h
    exact ih _ (Nat.max_le.2 ⟨hz,h b alr⟩) (fun a ha=>h a (List.mem_cons_of_mem _ ha))
 exact key A 0 (Nat.zero_le _) h
def xX (A:List Nat) (i v:Nat):Nat:=if A.idxOf v<i then A.idxOf v+1 else 0
def wF (A:List Nat) (n i:Nat):List Nat:=(akS n).map (xX A i)
theorem abg (A:List Nat) (n:Nat):wF A n 0=List.replicate n 0:=by
 unfold wF xX
 simp [List.map_const']
theorem Dn (A:List Nat) (n i:Nat):(wF A n i).length=n:=by simp [wF]
theorem KA {A:List Nat} (hn:A.Nodup) {i:Nat} (hi:i<A.length):A.idxOf A[i]=i:=hn.idxOf_getElem i hi
theorem abh {A:List Nat} (hn:A.Nodup) {n i:Nat} (hi:i<A.length):wF A n (i+1)=(wF A n i).set A[i] (i+1):=by
 apply alL
 intro v
 by_cases hv:v<n
 ·rw [akz]
  unfold wF
  simp only [List.length_map,List.length_range]
  rw [aks,aks,List.getElem?_range hv]
  simp only [Option.map_some]
  by_cases e:A[i]=v
  ·rw [aZ e,aZ (by rw [e];exact hv)]
   unfold xX
   rw [<- e,KA hn hi,aZ (by omega)]
  ·rw [aT e]
   unfold xX
   have:A.idxOf v≠i:=fun h=>e (by
    subst h
    exact List.getElem_idxOf hi)
   congr 1
   split<;>split<;>first|rfl|omega
 ·rw [ajK (by rw [Dn];omega),ajK (by rw [List.length_set,Dn];omega)]
theorem UD {A:List Nat} {v:Nat}:xX A A.length v≠0↔v∈A:=by
 unfold xX
 rw [<- alM]
 split<;>simp_all
theorem aeT {A:List Nat} {v:Nat} (h:v∈A):∃ hi:xX A A.length v - 1<A.length,A[xX A A.length v - 1]=v/\1<=xX A A.length v:=by
 have h1:=alM.2 h
 have e:xX A A.length v=A.idxOf v+1:=by unfold xX;rw [aZ h1]
 rw [e]
 exact ⟨by simpa using h1,by simp,by omega⟩
theorem aeU {A:List Nat} (hn:A.Nodup) {m:Nat->Bool} {i:Nat} (hi:i<A.length):A.map (iZ m A[i] true)=(A.map m).set i true:=by
 apply alL
 intro j
 rw [akz,aks,aks]
 by_cases e:i=j
 ·subst e
  rw [aZ rfl,aZ (by simpa using hi),ajh hi]
  simp [iZ]
 ·rw [aT e]
  cases hj:A[j]? with
  | none=>rfl
  | some x =>
    obtain ⟨hj1,hj2⟩:=ake.1 hj
    have:x≠A[i]:=fun h=>e (by
     rw [<- hj2] at h
     have h1:=KA hn hi
     have h2:=KA hn hj1
     rw [h] at h2
     omega)
    simp [iZ,this]
inductive ER (A:List Nat) (T:Nat->List Nat) (R:List Nat):Nat->Prop
 | zI {v:Nat}:v∈R->v∈A->ER A T R v
 | YV {a v:Nat}:ER A T R a->v∈T a->v∈A->ER A T R v
structure Dp (A:List Nat) (T:Nat->List Nat) (R:List Nat) (m:Nat->Bool) (todo:List Nat):Prop where
 ok:∀ a,m a=true->ER A T R a
 td:∀ v∈todo,v∈A->ER A T R v
 rt:∀ v∈R,v∈A->m v=true\/v∈todo
 ed:∀ a,m a=true->∀ v∈T a,v∈A->m v=true\/v∈todo
section
variable {A:List Nat} {T:Nat->List Nat} {R:List Nat} {m:Nat->Bool} {todo:List Nat} {a:Nat}
theorem Dp.first:Dp A T R (fun _=>false) R:=⟨fun _ h=>(by cases h),fun v h1 h2 => .zI h1 h2,fun v h _ => .inr h,fun _ h=>by cases h⟩
theorem Dp.skip (h:Dp A T R m (todo++[a])) (ha:a∈A->m a=true):Dp A T R m todo:=by
 refine ⟨h.ok,fun v h1 h2=>h.td v (alp _ h1) h2,fun v h1 h2=>?_,fun b hb v h1 h2=>?_⟩
 ·rcases h.rt v h1 h2 with g|g
  ·exact .inl g
  ·rcases aln.1 g with g|g
   ·exact .inr g
   ·rw [alo.1 g] at h2 ⊢;exact .inl (ha h2)
 ·rcases h.ed b hb v h1 h2 with g|g
  ·exact .inl g
  ·rcases aln.1 g with g|g
   ·exact .inr g
   ·rw [alo.1 g] at h2 ⊢;exact .inl (ha h2)
theorem Dp.take (h:Dp A T R m (todo++[a])) (ha:a∈A):Dp A T R (iZ m a true) (todo++T a):=by
 have hE:ER A T R a:=h.td a (alq _ alr) ha
 have hm:∀ v,m v=true\/v∈todo++[a]->iZ m a true v=true\/v∈todo++T a:=fun v g=>by
  unfold iZ
  by_cases e:v=a
  ·left;rw [aZ e]
  ·rw [aT e]
   rcases g with g|g
   ·exact .inl g
   ·rcases aln.1 g with g|g
    ·exact .inr (alp _ g)
    ·exact absurd (alo.1 g) e
 refine ⟨fun b hb=>?_,fun v h1 h2=>?_,fun v h1 h2=>hm v (h.rt v h1 h2),fun b hb v h1 h2=>?_⟩
 ·unfold iZ at hb
  by_cases e:b=a
  ·rw [e];exact hE
  ·rw [aT e] at hb;exact h.ok b hb
 ·rcases aln.1 h1 with g|g
  ·exact h.td v (alp _ g) h2
  ·exact .YV hE g h2
 ·unfold iZ at hb
  by_cases e:b=a
  ·rw [e] at h1
   exact .inr (alq _ h1)
  ·rw [aT e] at hb;exact hm v (h.ed b hb v h1 h2)
theorem Dp.done (h:Dp A T R m []) (v:Nat):m v=true↔ER A T R v:=by
 refine ⟨h.ok v,fun hv=>?_⟩
 induction hv with
 | zI h1 h2=>exact (h.rt _ h1 h2).resolve_right (by simp)
 | YV _ h1 h2 ih=>exact (h.ed _ ih _ h1 h2).resolve_right (by simp)
def rU (A:List Nat) (T:Nat->List Nat) (m:Nat->Bool):Nat:=(A.map fun a=>if m a then 0 else (T a).length).sum
theorem Qg:∀ (A:List Nat) (m:Nat->Bool) (a:Nat),a∈A->A.Nodup->m a=false->rU A T (iZ m a true)+(T a).length=rU A T m
 | [],_,_,h,_,_=>by cases h
 | b::A,m,a,h,hn,hm=>by
   obtain ⟨h1,h2⟩:=List.nodup_cons.1 hn
   by_cases e:a=b
   ·subst e
    have h3:rU A T (iZ m a true)=rU A T m:=by
     unfold rU
     congr 1
     refine alJ fun x hx=>?_
     have hxa:x≠a:=fun e=>h1 (by rw [<- e];exact hx)
     have hu:iZ m a true x=m x:=by unfold iZ;exact aT hxa
     rw [hu]
    show (if iZ m a true a=true then 0 else (T a).length)+rU A T (iZ m a true)+(T a).length=(if m a=true then 0 else (T a).length)+rU A T m
    rw [h3,hm]
    simp [iZ]
    omega
   ·have ha:a∈A:=by
     rcases ajN.1 h with g|g
     ·exact absurd g e
     ·exact g
    have h3:=Qg A m a ha h2 hm
    show (if iZ m a true b=true then 0 else (T b).length)+rU A T (iZ m a true)+(T a).length=(if m b=true then 0 else (T b).length)+rU A T m
    have h4:iZ m a true b=m b:=by unfold iZ;rw [aT (fun e'=>e e'.symm)]
    rw [h4]
    omega
end
def toN (H:HS) (a n:Nat):List Nat:=((akS n).map fun k:Nat=>H.eU a (k:Int)).filter (fun v=>v != 0)
def toP (H:HS) (a:Nat):List Nat:=toN H a (H.dh a).1
theorem toN_succ (H:HS) (a n:Nat):toN H a (n+1)=if H.eU a (n:Int)=0 then toN H a n else toN H a n++[H.eU a (n:Int)]:=by
 unfold toN
 rw [alj,alk,List.filter_append]
 by_cases h:H.eU a (n:Int)=0
 ·rw [aZ h];simp [h]
 ·rw [aT h];simp [h]
theorem toN_len (H:HS) (a n:Nat):(toN H a n).length<=n:=by
 have:=List.length_filter_le (fun v:Nat=>v != 0) ((akS n).map fun k:Nat=>H.eU a (k:Int))
 unfold toN
 simpa using this
def pX (H:HS) (n:Nat):List Nat:=(akS n).map fun j:Nat=>H.jc (j:Int)
theorem VN (H:HS) (n:Nat):pX H (n+1)=pX H n++[H.jc (n:Int)]:=by
 unfold pX
 rw [alj,alk];rfl
def DZ (x:WS) (n:Nat):List Nat:=(akS n).flatMap fun i=>((x.aG[i]?).map MS.aW).getD []
theorem Nk (x:WS) (n:Nat):DZ x (n+1)=DZ x n++((x.aG[n]?).map MS.aW).getD []:=by
 unfold DZ
 rw [alj,List.flatMap_append];simp
def jK (x:WS) (ce n:Nat):List Nat:=pX x.s.H ce++DZ x n
theorem abj {m b ce κ:Nat} {x:WS} (h0:x.s.H.bn 0=false) (hlt:∀ a,x.s.H.bn a=true->a<x.s.H.sz) (v:Nat):ER x.s.H.aQ (toP x.s.H) (jK x ce m) v↔(jd m b ce κ x).lq v:=by
 have hob:∀ a,a∈x.s.H.aQ↔x.s.H.bn a=true:=fun a=>by
  unfold HS.aQ
  rw [lK]
  exact ⟨fun h=>h.2,fun h=>⟨hlt a h,h⟩⟩
 constructor
 ·intro h
  induction h with
  | zI h1 h2 =>
    refine CP.lq.zI ?_ ((hob _).1 h2)
    rcases aln.1 h1 with g|g
    ·unfold pX at g
     obtain ⟨j,hj,e⟩:=akW.1 g
     exact .inl ⟨j,akB.1 hj,e.symm⟩
    ·unfold DZ at g
     obtain ⟨i,hi,e⟩:=alN.1 g
     exact .inr ⟨i,akB.1 hi,e⟩
  | YV _ h1 h2 ih =>
    unfold toP toN at h1
    obtain ⟨g1,g2⟩:=alO.1 h1
    obtain ⟨j,hj,e⟩:=akW.1 g1
    rw [<- e] at h2 ⊢
    exact CP.lq.mM ih (akB.1 hj) ((hob _).1 h2)
 ·intro h
  induction h with
  | zI h1 h2 =>
    refine ER.zI ?_ ((hob _).2 h2)
    rcases h1 with ⟨j,hj,e⟩|⟨i,hi,e⟩
    ·exact alp _ (akW.2 ⟨j,akB.2 hj,e.symm⟩)
    ·exact alq _ (alN.2 ⟨i,akB.2 hi,e⟩)
  | mM _ hj hb ih =>
    refine ER.YV ih ?_ ((hob _).2 hb)
    refine alO.2 ⟨akW.2 ⟨_,akB.2 hj,rfl⟩,?_⟩
    rename_i a j _
    have:x.s.H.eU a (j:Int)≠0:=fun e=>by
     have hb':x.s.H.bn (x.s.H.eU a (j:Int))=true:=hb
     rw [e,h0] at hb';cases hb'
    exact bne_iff_ne.2 this
end
end Go.Proofs.YtanfphjoebobaaaGreatDoor
