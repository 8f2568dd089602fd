/- Parts of a walk, put together and made shorter by a program of mine. No conditions. -/
import Derived.Test.YtanfphjoebobaaaGreatDoorZzcao
import Derived.Test.YtanfphjoebobaaaGreatDoorRows
import Derived.Test.YtanfphjoebobaaaGreatDoorZzca
import Derived.WalkKit
import Derived.WalkSpells
import Derived.WalkLawsBesides
import Derived.Lib.Hide
import Derived.Deep.QuietTactic
import Derived.BigQuiet
import Derived.Deep.LoopGhost
import Derived.Test.YtanfphjoebobaaaGreatDoorZzcam
import Derived.MakeChecks
namespace Go.Proofs.YtanfphjoebobaaaGreatDoor
set_option maxRecDepth 8000
set_option maxHeartbeats 8000000
section
structure rD (ph:List Nat):Prop where
 ne:ph≠[]
 lt:∀ a∈ph,a<8
 may:∀ (i a b:Nat),ph[i]?=some a→ph[i+1]?=some b→a≠b∧oZ a b=true
theorem rD.one {a:Nat} (h:a<8):rD [a]:=⟨by simp,fun b hb=>by rw [List.mem_singleton.1 hb];exact h,fun i b c h1 h2=>by
 have:=(List.getElem?_eq_some_iff.1 h2).1
 simp at this⟩
theorem rD.next {ph:List Nat} {b:Nat} (h:rD ph) (hm:oZ (ph.getLastD 0) b=true) (hb:b<8):rD (phN ph b)∧(phN ph b).getLastD 0=b:=by
 unfold phN
 by_cases e:b≠ph.getLastD 0
 ·rw [if_pos e]
  refine ⟨⟨by simp,fun a ha=>?_,fun i a c h1 h2=>?_⟩,by simp⟩
  ·rcases List.mem_append.1 ha with g|g
   ·exact h.lt a g
   ·rw [List.mem_singleton.1 g];exact hb
  ·have hlt:=(List.getElem?_eq_some_iff.1 h2).1
   rw [List.length_append] at hlt
   have hlt':i+1<ph.length+1:=hlt
   by_cases hi:i+1<ph.length
   ·rw [List.getElem?_append_left (by omega)] at h1
    rw [List.getElem?_append_left hi] at h2
    exact h.may i a c h1 h2
   ·have hi':i+1=ph.length:=by omega
    rw [List.getElem?_append_left (by omega)] at h1
    rw [hi',List.getElem?_append_right (Nat.le_refl _),Nat.sub_self] at h2
    cases h2
    have hl:ph.getLastD 0=a:=by
     rw [List.getLastD_eq_getLast?,List.getLast?_eq_getElem?,show ph.length - 1=i by omega,h1];rfl
    rw [hl] at hm e
    exact ⟨fun e'=>e e'.symm,hm⟩
 ·rw [if_neg e]
  exact ⟨h,(Classical.byContradiction fun h=>e h:b=_).symm⟩
section
variable {p:CP} {x y z:WS} {m:MS} {i n R mu bl ce κ:Nat} {dead fr ph:List Nat}
theorem zU (y:WS) {n:Nat} (hn:y.muts.length=n):(bC y n).s=(aW y.s y.coll).s∧(bC y n).muts=y.muts∧(bC y n).coll=(aW y.s y.coll).c:=by
 unfold bC
 rw [List.getElem?_eq_none (by omega)]
 simp only
 rw [if_pos hn.symm]
 obtain ⟨e1,e2,e3,_⟩:=WS.l7 { y with s:=(aW y.s y.coll).s,coll:=(aW y.s y.coll).c } (aW y.s y.coll).ev
 exact ⟨e1,e2,e3⟩
theorem MR.all (g:CG0 p R) (h:Cyc p x dead):∀ j,j≤p.mu→MR p R dead x (aN j x) j
 | 0,_=>MR.first h
 | j+1,hj=>((MR.all g h j (by omega)).next g (by omega)).1
structure Le (p:CP) (x0:WS) (out ph:List Nat) (z:WS):Prop where
 idl:Idl p.mu p.bl p.ce p.κ z
 bn:∀ a,z.s.H.bn a=true↔p.Rch a
 nd:out.Nodup
 dd:∀ a,a∈out↔p.H.bn a=true∧¬ p.Rch a
 path:rD ph
 regs:∀ (i:Nat) (m:MS),z.muts[i]?=some m→m.regs=p.regs i
 fld:∀ a,p.Rch a→z.s.H.aT a=p.H.aT a∧∀ j:Nat,z.s.H.bQ a (j:Int)=p.H.bQ a (j:Int)
 geo:z.s.H.K=p.H.K∧z.s.H.b=p.H.b∧z.s.H.ww=p.H.ww∧z.s.H.c=p.H.c∧z.s.H.cells=p.H.cells
 cnt:z.coll.wish=x0.coll.wish∧z.coll.cycles=x0.coll.cycles
 dr:jF x0.coll→jF z.coll
theorem Lh (h:Cyc p y dead):oZ y.coll.phase (aW y.s y.coll).c.phase=true∧(jF y.coll→jF (aW y.s y.coll).c)∧(aW y.s y.coll).c.wish=y.coll.wish∧(aW y.s y.coll).c.cycles=y.coll.cycles:=by
 have e:aW y.s y.coll=⟨(aj y.s y.coll y.coll.next).s,{ (aj y.s y.coll y.coll.next).c with next:=(aj y.s y.coll y.coll.next).next },(aj y.s y.coll y.coll.next).next,(aj y.s y.coll y.coll.next).ev⟩:=by
  unfold aW
  rw [h.busy];rfl
 obtain ⟨h1,h2⟩:=Hw h _ rfl
 obtain ⟨h3,h4,_⟩:=Om y.s y.coll y.coll.next
 rw [e]
 exact ⟨h1,h2,h3,h4⟩
theorem Sv {a b:Nat} (h:oZ a b=true) (ha:a<8):b<8:=by
 unfold oZ at h
 rw [Bool.or_eq_true] at h
 rcases h with h|h
 ·have:a=b:=by simpa using h
  omega
 ·simp at h
  omega
theorem zV (g:CG0 p R) {x0:WS}:∀ (f:Nat) (x:WS) (dead ph:List Nat),Cyc p x dead→p.rest R x+1≤f→rD ph→ph.getLastD 0=x.coll.phase→(x.coll.wish=x0.coll.wish∧x.coll.cycles=x0.coll.cycles)→(jF x0.coll→jF x.coll)→∃ out ph' z,gJ p.mu f x dead ph=(out,ph',true,z)∧Le p x0 out ph' z
 | 0,x,dead,ph,h,hf,_,_,_,_=>by omega
 | f+1,x,dead,ph,h,hf,hpa,hla,hc,hdr=>by
   have hM:=MR.all g h p.mu (Nat.le_refl _)
   obtain ⟨eP,ht,hlt⟩:=hM.round g
   obtain ⟨_,hyl,_⟩:=hM.cyc.bd
   obtain ⟨e1,e2,e3⟩:=zU (aN p.mu x) hyl
   obtain ⟨t1,t2,t3,t4⟩:=Lh hM.cyc
   have hco:=hM.coll
   have hrc:(bY p.mu x).coll=(aW (aN p.mu x).s (aN p.mu x).coll).c:=e3
   have hlast:ph.getLastD 0=(aN p.mu x).coll.phase:=by rw [hco];exact hla
   have hl8:(aN p.mu x).coll.phase<8:=by
    rw [← hlast,List.getLastD_eq_getLast?]
    cases hg:ph.getLast? with
    | none=>simp
    | some a=>exact hpa.lt a (List.mem_of_getLast? hg)
   have hm2:oZ (ph.getLastD 0) (bY p.mu x).coll.phase=true:=by rw [hlast,hrc];exact t1
   obtain ⟨hp1,hp2⟩:=hpa.next hm2 (Sv hm2 (by rw [hlast];exact hl8))
   have hc2:(bY p.mu x).coll.wish=x0.coll.wish∧(bY p.mu x).coll.cycles=x0.coll.cycles:=by
    rw [hrc,t3,t4,hco];exact hc
   have hd2:jF x0.coll→jF (bY p.mu x).coll:=fun hh=>by
    rw [hrc]
    exact t2 (by rw [hco];exact hdr hh)
   have hrest:p.rest R (bY p.mu x)+1≤f:=by
    have:p.rest R (bY p.mu x)=p.rest R { aN p.mu x with s:=(aW (aN p.mu x).s (aN p.mu x).coll).s,coll:=(aW (aN p.mu x).s (aN p.mu x).coll).c }:=rC e1 e2 e3
    rw [this]
    exact Nat.le_trans hlt (Nat.le_of_succ_le_succ hf)
   have hun:gJ p.mu (f+1) x dead ph=if evR (iF p.mu x) then (evF (iF p.mu x) dead,phN ph (bY p.mu x).coll.phase,true,bY p.mu x) else gJ p.mu f (bY p.mu x) (evF (iF p.mu x) dead) (phN ph (bY p.mu x).coll.phase):=rfl
   have hev:iF p.mu x=(aW (aN p.mu x).s (aN p.mu x).coll).ev:=rfl
   have go:evR (iF p.mu x)=false→evF (iF p.mu x) dead=eP→Cyc p { aN p.mu x with s:=(aW (aN p.mu x).s (aN p.mu x).coll).s,coll:=(aW (aN p.mu x).s (aN p.mu x).coll).c } eP→∃ out ph' z,gJ p.mu (f+1) x dead ph=(out,ph',true,z)∧Le p x0 out ph' z:=fun h1 h2 h3=>by
    rw [hun,h1,if_neg (by decide),h2]
    have h4:Cyc p (bY p.mu x) eP:=h3.congr e1 e2 e3
    exact zV g f _ eP _ h4 hrest hp1 hp2 hc2 hd2
   cases ht with
   | none h1 h2 h3=>exact go (by rw [hev,h1];rfl) (by rw [hev,h1,h2];rfl) h3
   | marked h1 h2 h3 h4 _ _ _ _ _=>exact go (by rw [hev,h1];rfl) (by rw [hev,h1,h2,h3];rfl) h4
   | freed h1 h2 h3 h4 h5=>exact go (by rw [hev,h1];rfl) (by rw [hev,h1,h2];rfl) h3
   | Ob h1 h2 h3 h4 h5 h6 h7 =>
     rw [hun,hev,h1]
     refine ⟨_,_,_,rfl,?_⟩
     have ef:evF (some ((aN p.mu x).coll.ev 4 (aN p.mu x).coll.cycles)) dead=dead:=rfl
     rw [ef]
     have hzs:(bY p.mu x).s=(aN p.mu x).s:=by
      have:(bY p.mu x).s=(aW (aN p.mu x).s (aN p.mu x).coll).s:=e1
      rw [this]
      have:=congrArg WS.s h6
      exact this
     have hbn:∀ a,(aN p.mu x).s.H.bn a=true↔p.Rch a:=fun a=>by
      have:=h7 a
      rw [← hzs]
      have e:(bY p.mu x).s=(aW (aN p.mu x).s (aN p.mu x).coll).s:=e1
      rw [e];exact this
     refine ⟨h3.congr e1 e2 (by
      have e3':(bY p.mu x).coll=(aW (aN p.mu x).s (aN p.mu x).coll).c:=e3
      rw [e3'];exact ⟨rfl,rfl,rfl,rfl,rfl,rfl,rfl,rfl⟩),fun a=>by rw [hzs];exact hbn a,h4.nd,fun a=>⟨fun ha=>h4.dd a ha,fun ha=>?_⟩,hp1,fun i m hm=>?_,fun a ha=>by rw [hzs];exact h4.fld a ha,by rw [hzs];exact h4.geo,hc2,hd2⟩
     ·refine Classical.byContradiction fun hn=>ha.2 ((hbn a).1 ((h4.bn a).2 ⟨ha.1,hn⟩))
     ·have:(bY p.mu x).muts=(aN p.mu x).muts:=e2
      rw [this] at hm
      exact (h4.bV i m hm).regs
theorem Gi {c:CS} (h:c.phase=1) (hc:c.cycles≤c.drains+1):jF c:=by
 unfold jF
 rw [h,if_neg (by omega)]
 exact hc
theorem Dh {c:CS} (h:c.phase=0) (hc:jF c):c.cycles≤c.drains:=by
 unfold jF at hc
 rw [h,if_pos (by omega)] at hc
 exact hc
theorem Idl.QM (h:Idl mu bl ce κ x):∀ j,j≤mu→Idl mu bl ce κ (aN j x)∧(aN j x).s=x.s∧(aN j x).coll=x.coll∧∀ i:Nat,((aN j x).muts[i]?).map MS.regs=(x.muts[i]?).map MS.regs
 | 0,_=>⟨h,rfl,rfl,fun _=>rfl⟩
 | j+1,hj=>by
   obtain ⟨h1,h2,h3,h4⟩:=Idl.QM h j (by omega)
   obtain ⟨m,hm⟩:∃ m,(aN j x).muts[j]?=some m:=⟨(aN j x).muts[j]'(by rw [h1.muts];omega),List.getElem?_eq_getElem _⟩
   have hlt:=(List.getElem?_eq_some_iff.1 hm).1
   obtain ⟨e,h5⟩:=h1.AX hm
   obtain ⟨e1,e2,e3⟩:=mW (aN j x) hm
   rw [e] at e1 e2
   refine ⟨h5.congr e1 e2 (by rw [show (aN (j+1) x).coll=(aN j x).coll from e3];exact ⟨rfl,rfl,rfl,rfl,rfl,rfl,rfl,rfl⟩),e1.trans h2,e3.trans h3,fun i=>?_⟩
   show ((bC (aN j x) j).muts[i]?).map MS.regs=_
   rw [e2,← h4 i]
   by_cases ei:i=j
   ·subst ei
    rw [List.getElem?_set_self hlt,hm];rfl
   ·rw [List.getElem?_set_ne (fun e=>ei e.symm)]
theorem Lj (h:Idl mu bl ce κ x) (hw:x.coll.wish=true) (hR:∀ (i:Nat) (m:MS),x.muts[i]?=some m→m.regs.length≤R) (most:Nat) (hm:sK mu bl ce R (x.s.H.ww/2)+2≤most) (hdr:jF x.coll) :
 ∃ out ph z,gJ mu most x [] [x.coll.phase]=(out,ph,true,z)∧Le (gW mu bl ce κ x) (gX x) out ph z:=by
 obtain ⟨h1,h2,h3,h4⟩:=h.QM mu (Nat.le_refl _)
 obtain ⟨f,rfl⟩:∃ f,most=f+1:=⟨most - 1,by omega⟩
 have hcp:gW mu bl ce κ (aN mu x)=gW mu bl ce κ x:=by
  unfold gW
  rw [h2]
  have:(fun i=>(((aN mu x).muts[i]?).map MS.regs).getD [])=fun i=>((x.muts[i]?).map MS.regs).getD []:=funext fun i=>by rw [h4 i]
  rw [this]
 have hR2:∀ (i:Nat) (m:MS),(aN mu x).muts[i]?=some m→m.regs.length≤R:=fun i m hm=>by
  have:=h4 i
  rw [hm] at this
  cases hx:x.muts[i]? with
  | none=>rw [hx] at this;cases this
  | some m' =>
    rw [hx] at this
    simp at this
    rw [this]
    exact hR i m' hx
 obtain ⟨g,hb⟩:=h1.bound hR2
 obtain ⟨s1,s2,s3,s4,s5⟩:=h1.start
 rw [hcp] at g hb s1 s2
 rw [h2] at hb
 obtain ⟨e1,e2,e3⟩:=zU (aN mu x) h1.muts
 have hpc:aW (aN mu x).s (aN mu x).coll=⟨(gI (aN mu x).s (aN mu x).coll).s,{ (gI (aN mu x).s (aN mu x).coll).c with next:=(gI (aN mu x).s (aN mu x).coll).next },(gI (aN mu x).s (aN mu x).coll).next,(gI (aN mu x).s (aN mu x).coll).ev⟩:=by
  unfold aW
  rw [h1.nx,if_neg (by decide),if_pos (by rw [h3];exact hw)]
 rw [hpc] at e1 e3
 have hrw:Cyc (gW mu bl ce κ x) (bY mu x) []:=(Cyc.mark s1 s2).congr e1 e2 e3
 have hrs:(gW mu bl ce κ x).rest R (bY mu x)=(gW mu bl ce κ x).rest R (gX (aN mu x)):=rC e1 e2 e3
 have hev:iF mu x=some ((aN mu x).coll.ev 2 ((aN mu x).coll.cycles+1)):=by
  show (aW (aN mu x).s (aN mu x).coll).ev=_
  rw [hpc];exact s3
 have hph:(bY mu x).coll.phase=1:=by
  have:(bY mu x).coll=_:=e3
  rw [this];rfl
 have hun:gJ mu (f+1) x [] [x.coll.phase]=if evR (iF mu x) then (evF (iF mu x) [],phN [x.coll.phase] (bY mu x).coll.phase,true,bY mu x) else gJ mu f (bY mu x) (evF (iF mu x) []) (phN [x.coll.phase] (bY mu x).coll.phase):=rfl
 rw [hun,hev]
 have ev2:evR (some ((aN mu x).coll.ev 2 ((aN mu x).coll.cycles+1)))=false:=rfl
 have ef2:evF (some ((aN mu x).coll.ev 2 ((aN mu x).coll.cycles+1))) []=[]:=rfl
 rw [ev2,ef2,if_neg (by decide)]
 have hp0:=h.ph
 obtain ⟨p1,p2⟩:=(rD.one (a:=x.coll.phase) (by omega)).next (b:=(bY mu x).coll.phase) (by rw [hph,hp0];decide) (by rw [hph];decide)
 refine zV g f (bY mu x) [] _ hrw (by omega) p1 p2 ?_ ?_
 ·have:(bY mu x).coll=_:=e3
  rw [this]
  show (false=false)∧_
  refine ⟨rfl,?_⟩
  show (aN mu x).coll.cycles+1=x.coll.cycles+1
  rw [h3]
 ·intro _
  have:(bY mu x).coll=_:=e3
  rw [this]
  refine Gi rfl ?_
  have:=Dh hp0 hdr
  show (aN mu x).coll.cycles+1≤(aN mu x).coll.drains+1
  rw [h3]
  omega
end
def awX:StP:=⟨⟨0,0,0,0,1,0,0⟩,[1,1],[],[1],[]⟩
theorem Gj:wV awX=[1,3]:=by decide +kernel
def awZ:List Nat × List Nat × Bool × WS:=gJ 1 3000 { (dN awX) with coll:={ (dN awX).coll with wish:=true },picks:=(dN awX).picks+1 } [] [0]
theorem Sz:awZ.1=[3]∧awZ.2.2.1=true∧awZ.2.2.2.s.H.bn 1=true:=by decide +kernel
end
section
open Go.RowKit
def inL (zs:List Int) (m:Int):Bool:=zs.any (· == m)
theorem IV {l:List Int} {j:Nat} (h:j<l.length):l.getD j 0=l[j]:=by
 rw [List.getD_eq_getElem?_getD,List.getElem?_eq_getElem h];rfl
theorem Qz (a b:Option Addr) (n m c d:Nat) (xs ys:List Int) (w:World) (hx:fC .i64 w a n xs) (hy:fC .i64 w b m ys) (hn:n≤9223372036854775807) (hm:m≤9223372036854775807) :
 Calls Tryz.prog 22 #[.slice a n c,.slice b m d] w fun e w'=>e = .returned (.bool (xs==ys))∧Keep none_ w w':=by
 by_cases hl:n=m
 ·subst hl
  have HL:xs.length=n∧ys.length=n:=⟨hx.len,hy.len⟩
  have HLL:=Lib.hid HL
  clear HL
  go_enter Tryz.func22,Tryz.ntmps22
  go_wp2
  go_loopg [5] n (fun g i wr=>∃ k:Nat,g+k=n∧i = .int .i64 k∧(∀ j,j<k→xs.getD j 0=ys.getD j 0)∧Keep none_ w wr)
  case atStart=>exact ⟨0,by omega,rfl,fun j hj=>absurd hj (by omega),Keep.refl _ _⟩
  case round =>
   obtain ⟨k,hg,rfl,hr,hk⟩:=hrel
   by_cases hlt:k<n
   ·obtain ⟨ba,oa,rfl,hca⟩:=(hx.below hk).at_ (by omega)
    obtain ⟨bb,ob,rfl,hcb⟩:=(hy.below hk).at_ (by omega)
    have h1:=hca k hlt
    have h2:=hcb k hlt
    have oV:(k:Int)<(n:Int):=by omega
    have hk0:(0:Int)≤(k:Int):=by omega
    by_cases he:xs.getD k 0=ys.getD k 0
    ·have HR:Hid (∀ j,j<k+1→xs.getD j 0=ys.getD j 0):=fun j hj=>by
      rcases Nat.lt_succ_iff_lt_or_eq.1 hj with h|h
      ·exact hr j h
      ·rw [h];exact he
     rw [he] at h1
     generalize ys.getD k 0=y at h1 h2
     clear hca hcb hr he
     go_wp2
     go_quiet (fail)
     go_wp2
     go_roundg (gk - 1)
     case measure=>omega
     case rel=>exact ⟨k+1,by omega,by go_num,HR.out,hk.drewN _⟩
    ·have HE:Hid ((xs==ys)=false):=by
      rw [Hid,beq_eq_false_iff_ne]
      intro e
      exact he (by rw [e])
     have hne:(xs.getD k 0==ys.getD k 0)=false:=by simpa using he
     have hne2:(xs.getD k 0 != ys.getD k 0)=true:=by simpa using he
     generalize xs.getD k 0=x at h1 hne hne2
     generalize ys.getD k 0=y at h2 hne hne2
     clear hca hcb hr he
     go_wp2
     go_quiet (fail)
     go_wp2
     go_ret
     exact ⟨by rw [HE.out];rfl,hk.drewN _⟩
   ·have HE:Hid ((xs==ys)=true):=by
     rw [Hid,beq_iff_eq]
     apply List.ext_getElem
     ·rw [HLL.out.1,HLL.out.2]
     ·intro j h1 h2
      have:=hr j (by have:=HLL.out.1;omega)
      rwa [IV h1,IV h2] at this
    clear hr
    go_wp2
    go_ret
    exact ⟨by rw [HE.out];rfl,hk⟩
 ·have HE:Hid ((xs==ys)=false):=by
   rw [Hid,beq_eq_false_iff_ne]
   intro e
   apply hl
   rw [← hx.len,← hy.len,e]
  have h1:((n:Int) != m)=true:=by simp;omega
  have h2:((n:Int)==m)=false:=by simp;omega
  go_enter Tryz.func22,Tryz.ntmps22
  go_wp2
  go_ret
  exact ⟨by rw [HE.out];rfl,Keep.refl _ _⟩
end
section
attribute [local go_sem ↓] jZ
attribute [local go_sem] Oper.semAt_some
open Go.RowKit
section
variable {o o' o0:Ow} {w w' W W' W0:World} {G:Geo} {gs:List MG} {q:CG} {y:WS} {x:StP} {v:Value} {N i n:Nat} {l:List Nat} {I:List Nat} {e:Ending}
theorem Ov (x:StP):nN (dN x):=by
 have key:∀ f (y:WS),nN y→nN (jV f y):=fun f=>by
  induction f with
  | zero=>intro y h;exact h
  | succ f ih =>
    intro y h
    unfold jV
    split
    ·exact h
    ·split
     ·exact h
     ·exact ih _ (oL h 0)
 exact key 300 _ (CV _ _ _)
theorem wS.get (h:wS w x e w') (hr:x.rg.length≤20):∃ (o:Ow) (G:Geo) (q:CG) (gs:List MG) (ma:Option Addr) (mc:Nat) (a:Option Addr) (c:Nat),e = .returned (.tuple #[.pointer (some ⟨G.S,0,none⟩),.pointer (some ⟨q.C,0,none⟩),.slice ma gs.length mc,.slice a (wV x).length c]) ∧
 CW w w' o G gs q (dN x)∧WOk 300 (dN x)∧nN (dN x)∧fV o w' (.slice ma gs.length mc) gs∧aV o w' 3 (.slice a (wV x).length c) (aC (wV x))∧La x∧gs.length=x.c.little.m.toNat:=by
 obtain ⟨o,G,q,gs,mv,a,c,rfl,h1,h2,h3,h4⟩:=h
 obtain ⟨ma,mc,rfl,_⟩:=h3.form
 have hI:=Oq x hr h1.coll.sh.heap.inv
 exact ⟨o,G,q,gs,ma,mc,a,c,rfl,h1,h2,Ov x,h3,h4,hI,h1.len.trans hI.idl.muts⟩
theorem jh.cells {a:Option Addr} {c:Nat} (h:jh i o W (.slice a l.length c) l):fC .i64 W a l.length (l.map fun x:Nat=>(x:Int)):=by
 have e:aC l=(l.map fun x:Nat=>(x:Int)).map (Value.int .i64):=by simp [aC]
 have h1:=h.1
 rw [e] at h1
 obtain ⟨a',c',ee,hi,_⟩:=fC.D7 h1
 cases ee
 exact hi
theorem UE (hn:n=1):gJ n 3000 (bC (dN awX) ((dN awX).muts.length+1)) [] [(dN awX).coll.phase]=awZ:=by
 rw [hn,yI]
 have hc:(dN awX).coll.phase=0:=by
  obtain ⟨g,_⟩:=CZ awX (by decide)
  rw [g.coll];rfl
 rw [hc];rfl
theorem Hy (hL:Laid w):Calls Tryz.prog 10 #[] w fun e w'=>e = .returned (.bool true)∧Keep none_ w w':=by
 obtain ⟨W1,hW1⟩:∃ W1,W1=((w.alloc (.cells #[.int .u8 1,.int .u8 1] 5)).alloc (.cells #[.int .u8 1] 5)).alloc (.cells #[.int .i64 0,.int .i64 0,.int .i64 0,.int .i64 0,.int .i64 1,.int .i64 0,.int .i64 0,.slice (some ⟨w.heap.size,0,none⟩) 2 2,.slice none 0 0,.slice (some ⟨w.heap.size+1,0,none⟩) 1 1,.slice none 0 0] 26):=⟨_,rfl⟩
 have ka:Keep none_ w (w.alloc (.cells #[.int .u8 1,.int .u8 1] 5)):=(Keep.refl _ _).alloc _
 have kb:Keep none_ w ((w.alloc (.cells #[.int .u8 1,.int .u8 1] 5)).alloc (.cells #[.int .u8 1] 5)):=ka.alloc _
 have k1:Keep none_ w W1:=by rw [hW1];exact kb.alloc _
 have hb1:Blk W1 w.heap.size [.int .u8 1,.int .u8 1] 5:=by rw [hW1];exact ((Blk.new w [.int .u8 1,.int .u8 1] 5).alloc _).alloc _
 have hb2:Blk W1 (w.heap.size+1) [.int .u8 1] 5:=by
  have:=(Blk.new (w.alloc (.cells #[.int .u8 1,.int .u8 1] 5)) [.int .u8 1] 5).alloc (.cells #[.int .i64 0,.int .i64 0,.int .i64 0,.int .i64 0,.int .i64 1,.int .i64 0,.int .i64 0,.slice (some ⟨w.heap.size,0,none⟩) 2 2,.slice none 0 0,.slice (some ⟨w.heap.size+1,0,none⟩) 1 1,.slice none 0 0] 26)
  have hsz:∀ X:Obj,(w.alloc X).heap.size=w.heap.size+1:=fun X=>by simp
  rw [hsz] at this
  rw [hW1];exact this
 have hst:wu W1 awX (some ⟨w.heap.size,0,none⟩) none (some ⟨w.heap.size+1,0,none⟩) none 2 0 1 0:=by
  refine ⟨⟨⟨rfl,fun _=>⟨_,0,rfl,fun j hj=>?_⟩⟩,by decide⟩,⟨⟨rfl,fun h=>absurd h (Nat.lt_irrefl 0)⟩,fun x hx=>by cases hx⟩,⟨⟨rfl,fun _=>⟨_,0,rfl,fun j hj=>?_⟩⟩,by decide⟩,⟨⟨rfl,fun h=>absurd h (Nat.lt_irrefl 0)⟩,fun x hx=>by cases hx⟩⟩
  ·rcases (by omega:j=0∨j=1) with rfl|rfl
   ·exact hb1.cell 0 rfl
   ·exact hb1.cell 1 rfl
  ·obtain rfl:j=0:=by omega
   exact hb2.cell 0 rfl
 have HMD:Hid (Calls Tryz.prog 11 #[oN awX.c (some ⟨w.heap.size,0,none⟩) none (some ⟨w.heap.size+1,0,none⟩) none 2 0 1 0 2 0 1 0] W1 (wS W1 awX)):=F9 (hL.still k1) hst (by omega) (by omega) (by omega) (by omega)
 have HK1:=Lib.hid k1
 have HW1:=Lib.hid hW1
 clear hW1 ka kb k1 hb1 hb2 hst hL
 go_enter Tryz.func10,Tryz.ntmps10
 go_wp2_with fail
 rw [← HW1.out]
 refine HMD.out.mono ?_
 intro e2 w2 hm
 obtain ⟨o,G,q,gs,ma,mc,a,c,rfl,hcw,hok,hfw,hmv,hrow,hI,hgl⟩:=hm.get (by decide)
 rw [Gj] at hrow
 have hl2:(wV awX).length=2:=by rw [Gj];rfl
 rw [hl2]
 have HCY:Hid (Calls Tryz.prog 27 #[.pointer (some ⟨q.C,0,none⟩),.slice ma gs.length mc,.int .i64 (3000:Int)] w2 fun e w'=>∃ (fa pa:Option Addr) (fc pl pc:Nat),e = .returned (.tuple #[.slice fa 1 fc,.slice pa pl pc,.bool true])∧fC .i64 w' fa 1 [3]∧Keep none_ W1 w'∧w'.cell? ⟨G.S,0,none⟩=some (.pointer (some ⟨G.D 0,0,none⟩))∧∀ W,Keep none_ w' W→Calls Tryz.prog 33 #[.pointer (some ⟨G.D 0,0,none⟩),.int .i64 1] W fun e w''=>e = .returned (.bool true)∧W=w''):=by
  refine (Df hcw hok hfw hmv 3000 (by omega)).mono ?_
  rintro e w' ⟨fv,pv,o',rfl,hs⟩
  rw [UE (hgl.trans rfl)] at hs ⊢
  obtain ⟨z1,z2,z3⟩:=Sz
  rw [z1,z2] at *
  obtain ⟨fa,fc,rfl,_⟩:=hs.f.form
  obtain ⟨pa,pc,rfl,_⟩:=hs.p.form
  refine ⟨fa,pa,fc,_,pc,rfl,hs.f.cells,hs.cw.keep,hs.cw.coll.sh.qK.1,?_⟩
  intro W kW
  have:=Ae (hs.cw.coll.sh.heap.still kW) 1
  rw [z3] at this
  exact this
 clear hm hcw hok hfw hmv hrow hI hgl hl2
 go_wp2_with fail
 refine HCY.out.mono ?_
 rintro e w5 ⟨fa,pa,fc,pl,pc,rfl,hF,k5,hS,hIS⟩
 obtain ⟨W6,hW6⟩:∃ W6,W6=w5.alloc (.cells #[.int .i64 3] 3):=⟨_,rfl⟩
 have k6:Keep none_ w5 W6:=by rw [hW6];exact (Keep.refl _ _).alloc _
 have hb6:Blk W6 w5.heap.size [.int .i64 3] 3:=by rw [hW6];exact Blk.new w5 _ _
 have hI6:fC .i64 W6 (some ⟨w5.heap.size,0,none⟩) 1 [3]:=⟨rfl,fun _=>⟨_,0,rfl,fun j hj=>by
  obtain rfl:j=0:=by omega
  exact hb6.cell 0 rfl⟩⟩
 have HSM:Hid (Calls Tryz.prog 22 #[.slice fa 1 fc,.slice (some ⟨w5.heap.size,0,none⟩) 1 1] W6 fun e w'=>e = .returned (.bool true)∧Keep none_ W6 w'):=by
  refine (Qz fa (some ⟨w5.heap.size,0,none⟩) 1 1 fc 1 [3] [3] W6 (hF.below k6) hI6 (by omega) (by omega)).mono ?_
  rintro e w' ⟨rfl,k⟩
  exact ⟨rfl,k⟩
 have HIS:Hid (∀ W,Keep none_ W6 W→Calls Tryz.prog 33 #[.pointer (some ⟨G.D 0,0,none⟩),.int .i64 1] W fun e w''=>e = .returned (.bool true)∧W=w''):=fun W kW=>hIS W (k6.trans kW)
 have HS:Hid (∀ W,Keep none_ W6 W→W.cell? ⟨G.S,0,none⟩=some (.pointer (some ⟨G.D 0,0,none⟩))):=fun W kW=>kW.still (k6.still hS)
 have HK6:Hid (Keep none_ w W6):=HK1.out.trans (k5.trans k6)
 have HW6:=Lib.hid hW6
 clear hF k5 hIS HCY HW1 HK1 HMD hS hW6 k6 hb6 hI6
 go_wp2_with fail
 rw [← HW6.out]
 refine HSM.out.mono ?_
 rintro e w7 ⟨rfl,k7⟩
 have hS7:=HS.out w7 k7
 have UF:=Lib.hid (HIS.out w7 k7)
 have HK7:Hid (Keep none_ w w7):=HK6.out.trans k7
 clear HS HIS HK6 HW6 HSM k7
 go_wp2_with fail
 refine UF.out.mono ?_
 rintro e w8 ⟨rfl,rfl⟩
 clear UF hS7
 go_wp2_with fail
 go_ret
 exact ⟨rfl,HK7.out⟩
end
end
section
open Go.RowKit Go.ChangeShapes Go.WideShapes Go.Deep
theorem list11 {α:Type} {l:List α} (h:l.length=11):∃ a b c d e f g s1 s2 s3 s4,l=[a,b,c,d,e,f,g,s1,s2,s3,s4]:=by
 match l,h with
 | [a,b,c,d,e,f,g,s1,s2,s3,s4],_=>exact ⟨a,b,c,d,e,f,g,s1,s2,s3,s4,rfl⟩
theorem U8s.ofInts {w:World} {a:Option Addr} {n:Nat} {zs:List Int} (h:Ints .u8 w a n zs):U8s w a n (zs.map Int.toNat):=by
 have hz:∀ z∈zs,0≤z∧z<256:=fun z hz=>by
  obtain ⟨i,hi,rfl⟩:=List.mem_iff_getElem.1 hz
  have:=h.bound i (by have:=h.len;omega)
  rw [List.getD_eq_getElem?_getD,List.getElem?_eq_getElem hi] at this
  have m1:IntKind.u8.min=0:=rfl
  have m2:IntKind.u8.max=255:=rfl
  simp [Lit.wf] at this
  omega
 have e:(zs.map Int.toNat).map (fun x:Nat=>(x:Int))=zs:=by
  rw [List.map_map]
  conv=>rhs;rw [← List.map_id zs]
  exact List.map_congr_left (fun z hm=>by have:=hz z hm;show ((z.toNat:Nat):Int)=z;omega)
 refine ⟨by rw [e];exact h.cells,fun x hx=>?_⟩
 obtain ⟨z,hm,rfl⟩:=List.mem_map.1 hx
 have:=hz z hm
 omega
section
variable {H:Type} {enc:TypeId × Value→H} {P:Program} {w:World} {base:Nat} {held:Bool}
theorem uK {t e:TypeId} {fuel:Nat} {v:Value} {x:DataW H × List MemPlace} (ht:P.underlying t=some (.slice e)) (he:P.underlying e=some (.int .u8)) (hc:P.cellsOf e=1) (h:DataW.trod enc P w base (fun _=>true) held fuel t [v]=some x):∃ a n c l,v = .slice a n c∧U8s w a n l:=by
 rcases open_ints ht he hc h with ⟨hcs,_⟩|⟨x,l,c,zs,hcs,_,hl,hm,hz,_,hcell,hwz⟩
 ·simp at hcs
  exact ⟨none,0,0,[],hcs,⟨⟨rfl,fun h=>absurd h (Nat.lt_irrefl 0)⟩,fun x hx=>by cases hx⟩⟩
 ·simp at hcs
  exact ⟨some x,l,c,_,hcs,U8s.ofInts (Ints.ofRow hl (by simpa using hz) hcell hwz)⟩
theorem Ll {r:Reach} {b0:Nat} {t e:TypeId} {fs:Array Field} {f0 f1 f2 f3 f4:Field} {v:Value} {d:DataW H} {p:List MemPlace} (hs:P.underlying t=some (.struct fs)) (e0:fs[0]?=some f0) (e1:fs[1]?=some f1) (e2:fs[2]?=some f2) (e3:fs[3]?=some f3) (e4:fs[4]?=some f4)
 (o:f0.offset=0∧f1.offset=7∧f2.offset=8∧f3.offset=9∧f4.offset=10) (k0:flat P 9 f0.type=some [.int .i64,.int .i64,.int .i64,.int .i64,.int .i64,.int .i64,.int .i64]) (c0:P.cellsOf f0.type=7)
 (u:P.underlying f1.type=some (.slice e)) (c1:P.cellsOf f1.type=1) (ty:f2.type=f1.type∧f3.type=f1.type∧f4.type=f1.type) (ue:P.underlying e=some (.int .u8)) (ce:P.cellsOf e=1) (ct:P.cellsOf t=11)
 (hv:Value.okWide P w r b0 t v) (h:DataW.Trod enc P w base (fun _=>true) held t v d p):∃ (x:StP) (a1 a2 a3 a4:Option Addr) (n1 n2 n3 n4 p1 p2 p3 p4:Nat),v=oN x.c a1 a2 a3 a4 n1 n2 n3 n4 p1 p2 p3 p4∧wu w x a1 a2 a3 a4 n1 n2 n3 n4:=by
 obtain ⟨cs,rfl,hsz⟩:=okWide_struct hs hv
 obtain ⟨fuel,hf⟩:=h
 obtain ⟨xs,n,_,_,hl,hxl,hfl⟩:=DataW.trod_struct hs hf
 rw [ct] at hl
 obtain ⟨o0,o1,o2,o3,o4⟩:=o
 obtain ⟨t2,t3,t4⟩:=ty
 have hl':cs.toList.length=11:=hl
 obtain ⟨q0,q1,q2,q3,q4,q5,q6,s1,s2,s3,s4,hc⟩:=list11 hl'
 have hlt:∀ (i:Nat) (f:Field),fs[i]?=some f→∃ x,DataW.trod enc P w base (fun _=>true) held n f.type ((cs.toList.drop f.offset).take (P.cellsOf f.type))=some x:=fun i f hi=>by
  have hlt:i<xs.length:=by rw [hxl];exact (Array.getElem?_eq_some_iff.1 hi).1
  exact ⟨xs[i],by
   have:=hfl i f hi
   rw [List.getElem?_eq_getElem hlt] at this
   exact this⟩
 obtain ⟨x0,g0⟩:=hlt 0 f0 e0
 obtain ⟨x1,g1⟩:=hlt 1 f1 e1
 obtain ⟨x2,g2⟩:=hlt 2 f2 e2
 obtain ⟨x3,g3⟩:=hlt 3 f3 e3
 obtain ⟨x4,g4⟩:=hlt 4 f4 e4
 rw [hc,o0,c0] at g0
 rw [hc,o1,c1] at g1
 rw [hc,o2,t2,c1] at g2
 rw [hc,o3,t3,c1] at g3
 rw [hc,o4,t4,c1] at g4
 have hF:=QO 9 n _ _ _ _ g0 k0
 obtain ⟨a1,n1,p1,l1,hs1,hu1⟩:=uK u ue ce g1
 obtain ⟨a2,n2,p2,l2,hs2,hu2⟩:=uK u ue ce g2
 obtain ⟨a3,n3,p3,l3,hs3,hu3⟩:=uK u ue ce g3
 obtain ⟨a4,n4,p4,l4,hs4,hu4⟩:=uK u ue ce g4
 obtain ⟨v0,w0,z0,r0,_⟩:=hF.at_ 0 (.int .i64) rfl
 obtain ⟨v1,w1,z1,r1,_⟩:=hF.at_ 1 (.int .i64) rfl
 obtain ⟨v2,w2,z2,r2,_⟩:=hF.at_ 2 (.int .i64) rfl
 obtain ⟨v3,w3,z3,r3,_⟩:=hF.at_ 3 (.int .i64) rfl
 obtain ⟨v4,w4,z4,r4,_⟩:=hF.at_ 4 (.int .i64) rfl
 obtain ⟨v5,w5,z5,r5,_⟩:=hF.at_ 5 (.int .i64) rfl
 obtain ⟨v6,w6,z6,r6,_⟩:=hF.at_ 6 (.int .i64) rfl
 refine ⟨⟨⟨z0,z1,z2,z3,z4,z5,z6⟩,l1,l2,l3,l4⟩,a1,a2,a3,a4,n1,n2,n3,n4,p1,p2,p3,p4,?_,⟨hu1,hu2,hu3,hu4⟩⟩
 have e:cs=#[q0,q1,q2,q3,q4,q5,q6,s1,s2,s3,s4]:=by
  have:=congrArg List.toArray hc
  simpa using this
 have w0':some q0=some v0:=w0
 have w1':some q1=some v1:=w1
 have w2':some q2=some v2:=w2
 have w3':some q3=some v3:=w3
 have w4':some q4=some v4:=w4
 have w5':some q5=some v5:=w5
 have w6':some q6=some v6:=w6
 cases w0';cases w1';cases w2';cases w3';cases w4';cases w5';cases w6'
 rw [e,r0,r1,r2,r3,r4,r5,r6,hs1,hs2,hs3,hs4]
end
end
section
attribute [local go_sem] Oper.semAt_some
open Go.RowKit
theorem QA {rest : List (String × DataW Unit)} {w : World} (h : laidMet Tryz.prog (("math/bits.deBruijn64tab", Rows.laid_math_bits_deBruijn64tab) :: rest) w) : jU w := by
 obtain ⟨ps,⟨g,t,cs,fuel,p,q,hg,ht,hvar,hd,_,_⟩,_⟩:=h
 obtain rfl : 1 = g := Option.some.inj ((show Tryz.prog.globalNamed "math/bits.deBruijn64tab" = some 1 by kernel_rfl).symm.trans hg)
 obtain rfl:214=t:=Option.some.inj ((show (Tryz.prog.globals[1]?).map (·.type)=some 214 by kernel_rfl).symm.trans ht)
 obtain ⟨cs,rfl⟩:∃ l:List Value,cs=l.toArray:=⟨cs.toList,by simp⟩
 have e:cs=(Lib.deBruijn64tab.map fun x:Nat=>(x:Int)).map (Value.int .u8):=Lib.cells_of_tab (zs:=Lib.deBruijn64tab.map fun x:Nat=>(x:Int)) (show Tryz.prog.underlying 214=some (.array 64 5) by kernel_rfl) (show Tryz.prog.underlying 5=some (.int .u8) by kernel_rfl) (by kernel_rfl) (by kernel_rfl) hd
 intro j hj
 rw [World.var?_cell (P:=Tryz.prog) hg hvar j,e]
 rw [List.getD_eq_getElem?_getD,List.getElem?_eq_getElem hj]
 simp [hj]
theorem SA {rest : List (String × DataW Unit)} {w : World} (h : laidMet Tryz.prog (("math/bits.deBruijn64tab", Rows.laid_math_bits_deBruijn64tab) :: ("dustpan/config.limits", Rows.laid_dustpan_config_limits) :: ("dustpan/class.sizes", Rows.laid_dustpan_class_sizes) :: ("dustpan/op.kinds", Rows.laid_dustpan_op_kinds) :: rest) w) : Laid w := by
 have hb:=QA h
 have h1:=laidMet.tail h
 have hl:=SB h1
 have hs:=OC (laidMet.tail h1)
 have hk:=QN (laidMet.tail (laidMet.tail h1))
 refine ⟨⟨hl,hk⟩,hs,hb,?_,?_,?_⟩
 ·exact World.block_lt_of_cell? _ _ (hl 0 _ rfl)
 ·exact World.block_lt_of_cell? _ _ (hk 0 _ rfl)
 ·exact World.block_lt_of_cell? _ _ (hs 0 _ rfl)
def wE (n1 n2 n3 n4:Nat):Bool:=decide (30<n1)||decide (100<n2)||decide (20<n3)||decide (20<n4)
theorem Ox {n1 n2 n3 n4:Nat} (h:wE n1 n2 n3 n4=false):n1≤30∧n2≤100∧n3≤20∧n4≤20:=by
 unfold wE at h
 simp only [Bool.or_eq_false_iff,decide_eq_false_iff_not] at h
 omega
section
variable {w:World} {c:aB} {a1 a2 a3 a4:Option Addr} {n1 n2 n3 n4 p1 p2 p3 p4:Nat}
theorem Oy (c:aB) (a1 a2 a3 a4:Option Addr) (n1 n2 n3 n4 p1 p2 p3 p4:Nat) (w:World):Calls Tryz.prog 9 #[oN c a1 a2 a3 a4 n1 n2 n3 n4 p1 p2 p3 p4] w fun e w'=>e = .returned (.bool (wE n1 n2 n3 n4))∧Keep none_ w w':=by
 obtain ⟨W0,hW0⟩:∃ W0,W0=w.alloc (.cells #[.int .i64 c.b,.int .i64 c.w,.int .i64 c.m,.int .i64 c.r,.int .i64 c.c,.int .i64 c.l,.int .i64 c.s,.slice a1 n1 p1,.slice a2 n2 p2,.slice a3 n3 p3,.slice a4 n4 p4] 26):=⟨_,rfl⟩
 have k0:Keep none_ w W0:=by rw [hW0];exact (Keep.refl _ _).alloc _
 have hb:Blk W0 w.heap.size [.int .i64 c.b,.int .i64 c.w,.int .i64 c.m,.int .i64 c.r,.int .i64 c.c,.int .i64 c.l,.int .i64 c.s,.slice a1 n1 p1,.slice a2 n2 p2,.slice a3 n3 p3,.slice a4 n4 p4] 26:=by rw [hW0];exact Blk.new w _ _
 have y7:=hb.cell 7 rfl;have y8:=hb.cell 8 rfl;have y9:=hb.cell 9 rfl;have y10:=hb.cell 10 rfl
 have HK0:=Lib.hid k0
 rw [hW0] at y7 y8 y9 y10
 rw [hW0] at HK0
 unfold wE
 clear hb hW0 k0
 by_cases h1:30<n1
 ·have hI:(30:Int)<(n1:Int):=by omega
  rw [decide_eq_true h1]
  go_enter Tryz.func9,Tryz.ntmps9
  go_wp2_with fail
  go_ret
  exact ⟨rfl,HK0.out⟩
 ·have hI:¬ (30:Int)<(n1:Int):=by omega
  rw [decide_eq_false h1]
  by_cases h2:100<n2
  ·have hI2:(100:Int)<(n2:Int):=by omega
   rw [decide_eq_true h2]
   go_enter Tryz.func9,Tryz.ntmps9
   go_wp2_with fail
   go_ret
   exact ⟨rfl,HK0.out⟩
  ·have hI2:¬ (100:Int)<(n2:Int):=by omega
   rw [decide_eq_false h2]
   by_cases h3:20<n3
   ·have hI3:(20:Int)<(n3:Int):=by omega
    rw [decide_eq_true h3]
    go_enter Tryz.func9,Tryz.ntmps9
    go_wp2_with fail
    go_ret
    exact ⟨rfl,HK0.out⟩
   ·have hI3:¬ (20:Int)<(n3:Int):=by omega
    rw [decide_eq_false h3]
    by_cases h4:20<n4
    ·have hI4:(20:Int)<(n4:Int):=by omega
     rw [decide_eq_true h4]
     go_enter Tryz.func9,Tryz.ntmps9
     go_wp2_with fail
     go_ret
     exact ⟨rfl,HK0.out⟩
    ·have hI4:¬ (20:Int)<(n4:Int):=by omega
     rw [decide_eq_false h4]
     go_enter Tryz.func9,Tryz.ntmps9
     go_wp2_with fail
     go_ret
     exact ⟨rfl,HK0.out⟩
end
end
end Go.Proofs.YtanfphjoebobaaaGreatDoor
