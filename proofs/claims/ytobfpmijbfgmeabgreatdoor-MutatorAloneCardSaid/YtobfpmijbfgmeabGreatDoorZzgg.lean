/- Parts of the walk. No conditions. -/
import Derived.Test.YtobfpmijbfgmeabGreatDoorZzgf
namespace Go.Proofs.YtobfpmijbfgmeabGreatDoor
open _root_.Bool renaming and_eq_true->acu,eq_iff_iff->acN,true_and->acR
open _root_.Go.World renaming size_alloc->abw
open _root_.Int renaming toNat_natCast->abB
open _root_.List renaming getD_eq_getElem?_getD->ace,getElem?_eq_getElem->abr,getElem?_eq_none->acK,getElem?_set_ne->acA,getElem?_set_self->acz,getElem_mem->acJ,mem_cons->acM,mem_cons_of_mem->acO,mem_or_eq_of_mem_set->ach,nil_append->abY,nodup_cons->acL
open _root_.Nat renaming add_assoc->acQ,add_mul->acD,div_add_mod->acC,div_eq_of_lt->abL,div_lt_iff_lt_mul->acH,lt_or_ge->acI,mod_eq_of_lt->acG,mod_lt->acS,mul_comm->acF,mul_le_mul_right->abH,one_mul->acE,two_pow_pos->acB,zero_le->abZ
open _root_.Option renaming isSome_iff_exists->acP
open _root_.Go.Proofs.Tryz hiding prog
open _root_.Go.Proofs.Tryz renaming prog->ay
set_option maxRecDepth 4000
set_option maxHeartbeats 2000000
section
theorem nV {W:List Nat} {i:Nat} (h:i<W.length) (x:Nat):(W.set i x).getD i 0=x:=by
 rw [ace,acz h];rfl
theorem ug {W:List Nat} {i j:Nat} (h:i≠j) (x:Nat):(W.set i x).getD j 0=W.getD j 0:=by
 rw [ace,acA h,<- ace]
structure HS where
 c:aS
 b:Nat
 ww:Nat
 A:List Nat
 K:List Nat
 fr:List (List Nat)
 bn:Nat->Bool
 co:Nat->Bool
 cells:List Nat
def HS.n (H:HS):Nat:=H.b*H.ww
def HS.sz (H:HS):Nat:=H.b*H.ww+1
def HS.row (H:HS) (k:Nat):List Nat:=H.fr.getD k []
def HS.eY (H:HS) (a:Nat):Bool:=H.fr.any fun l=>l.contains a
def HS.F (H:HS):List Nat:=H.fr.map fun l=>l.headD 0
def lF (b ww:Nat) (K:List Nat) (a:Nat):Option (Nat × Nat) :=
 if 1<=a/\a<=b*ww/\K.getD ((a - 1)/ww) 0≠0/\(a - 1)%ww%2^K.getD ((a - 1)/ww) 0=0/\(a - 1)%ww/2^K.getD ((a - 1)/ww) 0<ww/2^K.getD ((a - 1)/ww) 0
 then some ((a - 1)/ww,K.getD ((a - 1)/ww) 0 - 1) else none
def HS.dY (H:HS) (a:Nat):Option (Nat × Nat):=lF H.b H.ww H.K a
def pY (A:List Nat) (a:Nat):Nat:=if 1<=a then A.getD (a - 1) 0 else 0
def HS.dV (H:HS) (a:Nat):Nat:=pY H.A a
def HS.kN (H:HS) (a:Nat):Option Nat:=(yQ (H.dV a)).map (·.2)
def HS.jH (H:HS) (a:Nat):Bool:=(H.dY a).isSome && !H.bn a && !H.eY a
def HS.sU (H:HS) (a:Nat):Bool:=H.bn a||(H.jH a&&(H.kN a).isSome)
def HS.nf (H:HS) (a:Nat):Nat:=(H.kN a).getD 0
def HS.lH (H:HS) (a:Nat):Nat:=if a=0 then 6 else if H.sU a then 0 else 1
def jL (s:Nat->Bool) (a:Nat) (v:Bool):Nat->Bool:=fun x=>if x=a then v else s x
def oZ (wd:Nat->Nat):List Nat->Prop
 | []=>True
 | a::l=>wd a=dM (l.headD 0)/\oZ wd l
theorem oZ.congr {wd wd':Nat->Nat}:∀ {l:List Nat},oZ wd l->(∀ a∈l,wd' a=wd a)->oZ wd' l
 | [],_,_=>trivial
 | a::l,h,e=>⟨(e a (by simp)).trans h.1,oZ.congr h.2 (fun x hx=>e x (by simp [hx]))⟩
theorem dK {b ww:Nat} {K:List Nat} {a B k:Nat} (h:lF b ww K a=some (B,k)) :
 1<=a/\a<=b*ww/\B=(a - 1)/ww/\K.getD B 0=k+1/\(a - 1)%ww%2^(k+1)=0/\(a - 1)%ww/2^(k+1)<ww/2^(k+1):=by
 unfold lF at h
 split at h
 ·rename_i hc
  simp only [Option.some.injEq,Prod.mk.injEq] at h
  obtain ⟨rfl,rfl⟩:=h
  have e:K.getD ((a - 1)/ww) 0 - 1+1=K.getD ((a - 1)/ww) 0:=by omega
  rw [e]
  exact ⟨hc.1,hc.2.1,rfl,rfl,hc.2.2.2.1,hc.2.2.2.2⟩
 ·cases h
theorem Bg {b ww:Nat} {K:List Nat} {a B k:Nat} (h1:1<=a) (h2:a<=b*ww) (hB:B=(a - 1)/ww) (hK:K.getD B 0=k+1) (h3:(a - 1)%ww%2^(k+1)=0) (h4:(a - 1)%ww/2^(k+1)<ww/2^(k+1)):lF b ww K a=some (B,k):=by
 subst hB
 unfold lF
 rw [hK,aV ⟨h1,h2,by omega,h3,h4⟩]
 simp
theorem PE {b ww:Nat} {K:List Nat} {a B0:Nat} (k:Nat) (h0:K.getD B0 0=0) {B q:Nat} (h:lF b ww K a=some (B,q)):lF b ww (K.set B0 (k+1)) a=some (B,q):=by
 obtain ⟨h1,h2,h3,h4,h5,h6⟩:=dK h
 have hne:B0≠B:=fun e=>by rw [e,h4] at h0;omega
 refine Bg h1 h2 h3 ?_ h5 h6
 rw [ug hne];exact h4
theorem JG {b ww:Nat} {K:List Nat} {a B0 k B q:Nat} (h:lF b ww (K.set B0 (k+1)) a=some (B,q)) (hB:B≠B0):lF b ww K a=some (B,q):=by
 obtain ⟨h1,h2,h3,h4,h5,h6⟩:=dK h
 rw [ug (Ne.symm hB)] at h4
 exact Bg h1 h2 h3 h4 h5 h6
theorem JH {b ww:Nat} {K:List Nat} {a B k:Nat} (h:lF b ww K a=some (B,k)) (j:Nat) (h1:1<=j) (h2:j<2^(k+1)):lF b ww K (a+j)=none/\a+j<=b*ww/\K.getD ((a+j - 1)/ww) 0≠0:=by
 obtain ⟨g1,g2,g3,g4,g5,g6⟩:=dK h
 have hz:0<2^(k+1):=acB _
 generalize hz2:2^(k+1)=z at *
 have hw:0<ww:=by
  rcases Nat.eq_zero_or_pos ww with e|e
  ·subst e;simp at g6
  ·exact e
 have hm:=acC ((a - 1)%ww) z
 have hm2:=acC (a - 1) ww
 have hwz:=Nat.div_mul_le_self ww z
 have hs:((a - 1)%ww/z+1)*z<=ww/z*z:=abH _ g6
 have hs2:((a - 1)%ww/z+1)*z=(a - 1)%ww/z*z+z:=by rw [acD,acE]
 have hs3:z*((a - 1)%ww/z)=(a - 1)%ww/z*z:=acF _ _
 have hlt:(a - 1)%ww+j<ww:=by omega
 have e1:(a+j - 1)/ww=(a - 1)/ww:=by
  rw [show a+j - 1=(a - 1)%ww+j+ww*((a - 1)/ww) by omega,Nat.add_mul_div_left _ _ hw,abL hlt,Nat.zero_add]
 have e2:(a+j - 1)%ww=(a - 1)%ww+j:=by
  rw [show a+j - 1=(a - 1)%ww+j+ww*((a - 1)/ww) by omega,Nat.add_mul_mod_self_left,acG hlt]
 have e3:((a - 1)%ww+j)%z=j:=by
  have:(a - 1)%ww=z*((a - 1)%ww/z):=by omega
  rw [this,Nat.mul_add_mod,acG h2]
 refine ⟨?_,?_,?_⟩
 ·unfold lF
  rw [e1,e2,<- g3,g4,hz2,e3]
  rw [aO (by omega)]
 rotate_left
 ·rw [e1,<- g3,g4];omega
 ·have hB:(a - 1)/ww<b:=by
   rw [acH hw];omega
  have h9:((a - 1)/ww+1)*ww<=b*ww:=abH _ hB
  have h8:((a - 1)/ww+1)*ww=(a - 1)/ww*ww+ww:=by rw [acD,acE]
  have h7:ww*((a - 1)/ww)=(a - 1)/ww*ww:=acF _ _
  omega
theorem qo {A:List Nat} {a:Nat} (h1:1<=a) (h2:a<=A.length) (x y:Nat):pY (A.set (a - 1) x) y=if y=a then x else pY A y:=by
 unfold pY
 by_cases hy:y=a
 ·subst hy
  rw [aV h1,aV rfl,nV (by omega)]
 ·rw [aO hy]
  by_cases h0:1<=y
  ·rw [aV h0,aV h0,ug (by omega)]
  ·rw [aO h0,aO h0]
theorem VG {A:List Nat} {N:Nat} (h:∀ x∈A,x<N) (h0:0<N) (a:Nat):pY A a<N:=by
 unfold pY
 split
 ·rcases acI (a - 1) A.length with h1|h1
  ·rw [ace,abr h1]
   exact h _ (acJ h1)
  ·rw [ace,acK h1];exact h0
 ·exact h0
def kU:Nat:=216172782113783808
structure dB (H:HS):Prop where
 lU:H.A.length=H.b*H.ww
 sV:H.b*H.ww<=1048576
 k4:∀ x∈H.K,x<=4
 jK:∀ x∈H.A,x<kU
 kF:H.fr.length=4
 chain:∀ k,k<4->oZ H.dV (H.row k)
 oU:∀ k,k<4->(H.row k).Nodup
 jW:∀ k,k<4->∀ a∈H.row k,H.bn a=false/\∃ B,H.dY a=some (B,k)
 jh:∀ a,H.bn a=true->∃ B k f,H.dY a=some (B,k)/\iY k f/\H.dV a=iM k f
 vZ:∀ a B k,H.dY a=some (B,k)->H.dV a=0\/(∃ x,x<=1048576/\H.dV a=dM x)\/∃ f,iY k f/\H.dV a=iM k f
 xB:∀ x∈H.cells,x<=H.b*H.ww
 zero:∀ a,1<=a->a<=H.b*H.ww->H.K.getD ((a - 1)/H.ww) 0=0->H.dV a=0
section
variable {H:HS}
theorem dB.gQ (h:dB H) {a B k:Nat} (ho:H.dY a=some (B,k)):k<4:=by
 obtain ⟨_,_,_,h4,_⟩:=dK ho
 have:H.K.getD B 0<=4:=by
  rcases acI B H.K.length with h1|h1
  ·rw [ace,abr h1]
   exact h.k4 _ (acJ h1)
  ·rw [ace,acK h1];exact abZ _
 omega
theorem Ld {a B k:Nat} (ho:H.dY a=some (B,k)):H.K.getD ((a - 1)/H.ww) 0≠0:=by
 obtain ⟨_,_,h3,h4,_⟩:=dK ho
 rw [<- h3,h4];omega
theorem HS.GR (H:HS) {k:Nat} (hl:H.fr.length=4) (hk:k<4):H.row k=H.fr[k]'(by omega):=by
 unfold HS.row
 rw [ace,abr (by omega)];rfl
theorem dB.eY (h:dB H) {a:Nat}:H.eY a=true↔∃ k,k<4/\a∈H.row k:=by
 have hl:=h.kF
 unfold HS.eY
 rw [List.any_eq_true]
 constructor
 ·rintro ⟨l,hl1,hl2⟩
  obtain ⟨k,hk,rfl⟩:=List.mem_iff_getElem.1 hl1
  exact ⟨k,by omega,by rw [H.GR hl (by omega)];simpa using hl2⟩
 ·rintro ⟨k,hk,hm⟩
  rw [H.GR hl hk] at hm
  exact ⟨_,acJ _,by simpa using hm⟩
theorem dB.yR (h:dB H) {a:Nat} (ha:H.eY a=false) {k:Nat} (hk:k<4):a∉H.row k:=fun hm=>by
 have:=h.eY.2 ⟨k,hk,hm⟩
 rw [ha] at this;cases this
theorem HS.Sz (H:HS) (hl:H.fr.length=4) {k:Nat} (hk:k<4):H.F.getD k 0=(H.row k).headD 0:=by
 unfold HS.F
 rw [ace,List.getElem?_map,abr (by omega),H.GR hl hk];rfl
theorem dB.Zp (h:dB H) (a:Nat):H.dV a<kU:=VG h.jK (by decide) a
theorem wQ {H H':HS} {k:Nat} {l:List Nat} (hf:H'.fr=H.fr.set k l) (hl:H.fr.length=4) (hk:k<4) (q:Nat):H'.row q=if q=k then l else H.row q:=by
 unfold HS.row
 rw [hf,ace]
 by_cases e:q=k
 ·subst e;rw [aV rfl,acz (by omega)];rfl
 ·rw [aO e,acA (Ne.symm e),<- ace]
def HS.put (H:HS) (a k:Nat):HS:={ H with A:=H.A.set (a - 1) (dM ((H.row k).headD 0)),fr:=H.fr.set k (a::H.row k) }
def HS.take (H:HS) (k:Nat):HS:={ H with fr:=H.fr.set k (H.row k).tail }
def HS.assign (H:HS) (B k:Nat):HS:={ H with K:=H.K.set B (k+1) }
def HS.oq (H:HS) (a k f:Nat):HS:={ H with A:=H.A.set (a - 1) (iM k f) }
def HS.rE (H:HS) (a:Nat) (c:Bool):HS:={ H with bn:=jL H.bn a true,co:=jL H.co a c }
def HS.xC (H:HS) (a:Nat):HS:={ H with bn:=jL H.bn a false }
def HS.jC (H:HS) (x v:Nat):HS:={ H with A:=H.A.set (x - 1) v }
def HS.iD (H:HS) (a:Nat) (c:Bool):HS:={ H with co:=jL H.co a c }
def HS.setCell (H:HS) (i v:Nat):HS:={ H with cells:=H.cells.set i v }
theorem Nc {x:Nat} (h:x<=1048576):dM x<kU:=(pO h).1
theorem dB.Le (h:dB H) {k:Nat} (hk:k<4):(H.row k).headD 0<=1048576:=by
 cases hr:H.row k with
 | nil=>exact abZ _
 | cons a l =>
   obtain ⟨_,B,ho⟩:=h.jW k hk a (by rw [hr];simp)
   have:=(dK ho).2.1
   have:=h.sV
   simp;omega
theorem dB.put (h:dB H) {a B k:Nat} (ho:H.dY a=some (B,k)) (hb:H.bn a=false) (hi:H.eY a=false):dB (H.put a k):=by
 have hk:=h.gQ ho
 obtain ⟨o1,o2,_⟩:=dK ho
 have hal:a<=H.A.length:=by have:=h.lU;omega
 have hw:∀ y,(H.put a k).dV y=if y=a then dM ((H.row k).headD 0) else H.dV y:=fun y=>qo o1 hal _ y
 have hrow:=wQ (H:=H) (H':=H.put a k) rfl h.kF hk
 have hhd:=h.Le hk
 refine ⟨by simpa [HS.put] using h.lU,h.sV,h.k4,?_,by simpa [HS.put] using h.kF,?_,?_,?_,?_,?_,h.xB,fun y y1 y2 y3=>by rw [hw,aO (fun e:y=a=>Ld ho (by rw [<- e];exact y3))];exact h.zero y y1 y2 y3⟩
 ·intro x hx
  rcases ach hx with h1|rfl
  ·exact h.jK x h1
  ·exact Nc hhd
 ·intro q hq
  rw [hrow q]
  have hc:∀ l:List Nat,a∉l->oZ H.dV l->oZ (H.put a k).dV l:=fun l hl hL=>hL.congr fun x hx=>by rw [hw,aO (fun e:x=a=>hl (by rw [<- e];exact hx))]
  split
  ·rename_i e;subst e
   exact ⟨by rw [hw,aV rfl],hc _ (h.yR hi hq) (h.chain q hq)⟩
  ·exact hc _ (h.yR hi hq) (h.chain q hq)
 ·intro q hq
  rw [hrow q]
  split
  ·rename_i e;subst e
   exact acL.2 ⟨h.yR hi hq,h.oU q hq⟩
  ·exact h.oU q hq
 ·intro q hq x hx
  rw [hrow q] at hx
  split at hx
  ·rename_i e;subst e
   rcases acM.1 hx with rfl|hx
   ·exact ⟨hb,B,ho⟩
   ·exact h.jW q hq x hx
  ·exact h.jW q hq x hx
 ·intro x hx
  obtain ⟨B',k',f,h1,h2,h3⟩:=h.jh x hx
  refine ⟨B',k',f,h1,h2,?_⟩
  rw [hw,aO (fun e=>?_)]
  ·exact h3
  ·subst e
   rw [show (H.put x k).bn x=H.bn x from rfl,hb] at hx
   cases hx
 ·intro x B' k' hx
  rw [hw]
  split
  ·exact .inr (.inl ⟨_,hhd,rfl⟩)
  ·exact h.vZ x B' k' hx
theorem dB.take (h:dB H) {k:Nat} (hk:k<4):dB (H.take k):=by
 have hrow:=wQ (H:=H) (H':=H.take k) rfl h.kF hk
 refine ⟨h.lU,h.sV,h.k4,h.jK,by simpa [HS.take] using h.kF,?_,?_,?_,h.jh,h.vZ,h.xB,h.zero⟩
 ·intro q hq
  rw [hrow q]
  split
  ·have:=h.chain k hk
   revert this
   cases H.row k with
   | nil=>exact fun _=>trivial
   | cons a l=>exact fun h=>h.2
  ·exact h.chain q hq
 ·intro q hq
  rw [hrow q]
  split
  ·have:=h.oU k hk
   revert this
   cases H.row k with
   | nil=>exact fun h=>h
   | cons a l=>exact fun h=>(acL.1 h).2
  ·exact h.oU q hq
 ·intro q hq x hx
  rw [hrow q] at hx
  split at hx
  ·rename_i e;subst e
   exact h.jW q hq x (List.mem_of_mem_tail hx)
  ·exact h.jW q hq x hx
theorem dB.UE (h:dB H) {k a:Nat} {l:List Nat} (hk:k<4) (hr:H.row k=a::l):H.dV a=dM (l.headD 0)/\(∃ B,H.dY a=some (B,k))/\H.bn a=false/\H.eY a=true/\l.headD 0<=1048576:=by
 have hc:=h.chain k hk
 have ho:=h.jW k hk a (by rw [hr];simp)
 have hi:=h.eY.2 ⟨k,hk,show a∈H.row k by rw [hr];simp⟩
 refine ⟨by rw [hr] at hc;exact hc.1,ho.2,ho.1,hi,?_⟩
 have:=(h.take hk).Le hk
 rw [wQ (H:=H) (H':=H.take k) rfl h.kF hk,aV rfl,hr] at this
 exact this
theorem dB.GU (h:dB H) {k a:Nat} {l:List Nat} (hk:k<4) (hr:H.row k=a::l) (x:Nat):(H.take k).eY x=if x=a then false else H.eY x:=by
 have hrow:=wQ (H:=H) (H':=H.take k) rfl h.kF hk
 have h':=h.take hk
 rw [acN,h'.eY]
 have hnd:=h.oU k hk
 rw [hr] at hnd hrow
 split
 ·rename_i e;subst e
  simp only [Bool.false_eq_true,iff_false]
  rintro ⟨q,hq,hm⟩
  rw [hrow q] at hm
  split at hm
  ·exact (acL.1 hnd).1 hm
  ·rename_i hne
   have h1:=(h.jW q hq x hm).2
   have h2:=(h.jW k hk x (by rw [hr];simp)).2
   obtain ⟨B,h1⟩:=h1
   obtain ⟨B',h2⟩:=h2
   rw [h1] at h2
   simp at h2
   exact hne h2.2
 ·rename_i hne
  rw [h.eY]
  constructor
  ·rintro ⟨q,hq,hm⟩
   rw [hrow q] at hm
   split at hm
   ·rename_i e;subst e
    exact ⟨q,hq,by rw [hr];exact acO _ hm⟩
   ·exact ⟨q,hq,hm⟩
  ·rintro ⟨q,hq,hm⟩
   refine ⟨q,hq,?_⟩
   rw [hrow q]
   split
   ·rename_i e;subst e
    rw [hr] at hm
    rcases acM.1 hm with e|hm
    ·exact absurd e hne
    ·exact hm
   ·exact hm
theorem dB.Lh (h:dB H) {a B k:Nat} (ho:H.dY a=some (B,k)) (hb:H.bn a=false) (hi:H.eY a=false) (x:Nat):(H.put a k).eY x=if x=a then true else H.eY x:=by
 have hk:=h.gQ ho
 have hrow:=wQ (H:=H) (H':=H.put a k) rfl h.kF hk
 have h':=h.put ho hb hi
 rw [acN,h'.eY]
 split
 ·rename_i e;subst e
  simp only [iff_true]
  exact ⟨k,hk,by rw [hrow k,aV rfl];simp⟩
 ·rename_i hne
  rw [h.eY]
  constructor
  ·rintro ⟨q,hq,hm⟩
   rw [hrow q] at hm
   split at hm
   ·rename_i e;subst e
    rcases acM.1 hm with e|hm
    ·exact absurd e hne
    ·exact ⟨q,hq,hm⟩
   ·exact ⟨q,hq,hm⟩
  ·rintro ⟨q,hq,hm⟩
   refine ⟨q,hq,?_⟩
   rw [hrow q]
   split
   ·rename_i e;subst e;exact acO _ hm
   ·exact hm
theorem dB.assign (h:dB H) {B k:Nat} (h0:H.K.getD B 0=0) (hk:k<4):dB (H.assign B k):=by
 have hz:∀ a,1<=a->a<=H.b*H.ww->(a - 1)/H.ww=B->H.dV a=0:=fun a h1 h2 h3=>h.zero a h1 h2 (by rw [h3];exact h0)
 have hown:∀ {x B' q},H.dY x=some (B',q)->(H.assign B k).dY x=some (B',q):=fun h=>PE k h0 h
 refine ⟨h.lU,h.sV,?_,h.jK,h.kF,h.chain,h.oU,?_,?_,?_,h.xB,fun y y1 y2 y3=>h.zero y y1 y2 ?_⟩
 rotate_right
 ·by_cases e:B=(y - 1)/H.ww
  ·rw [<- e];exact h0
  ·have y3':(H.K.set B (k+1)).getD ((y - 1)/H.ww) 0=0:=y3
   rwa [ug e] at y3'
 ·intro x hx
  rcases ach hx with h1|rfl
  ·exact h.k4 x h1
  ·omega
 ·intro q hq x hx
  obtain ⟨h1,B',h2⟩:=h.jW q hq x hx
  exact ⟨h1,B',hown h2⟩
 ·intro x hx
  obtain ⟨B',k',f,h1,h2⟩:=h.jh x hx
  exact ⟨B',k',f,hown h1,h2⟩
 ·intro x B' q hx
  by_cases e:B'=B
  ·obtain ⟨h1,h2,h3,_⟩:=dK hx
   exact .inl (hz x h1 h2 (h3.symm.trans e))
  ·exact h.vZ x B' q (JG hx e)
theorem dB.oq (h:dB H) {a B k f:Nat} (ho:H.dY a=some (B,k)) (hb:H.bn a=false) (hi:H.eY a=false) (hf:iY k f):dB (H.oq a k f):=by
 obtain ⟨o1,o2,_⟩:=dK ho
 have hal:a<=H.A.length:=by have:=h.lU;omega
 have hw:∀ y,(H.oq a k f).dV y=if y=a then iM k f else H.dV y:=fun y=>qo o1 hal _ y
 have hox:=(mP hf).2.2.1
 refine ⟨by simpa [HS.oq] using h.lU,h.sV,h.k4,?_,h.kF,?_,h.oU,h.jW,?_,?_,h.xB,fun y y1 y2 y3=>by rw [hw,aO (fun e:y=a=>Ld ho (by rw [<- e];exact y3))];exact h.zero y y1 y2 y3⟩
 ·intro x hx
  rcases ach hx with h1|rfl
  ·exact h.jK x h1
  ·unfold kU;omega
 ·intro q hq
  exact (h.chain q hq).congr fun x hx=>by rw [hw,aO (fun e:x=a=>h.yR hi hq (by rw [<- e];exact hx))]
 ·intro x hx
  obtain ⟨B',k',f',h1,h2,h3⟩:=h.jh x hx
  refine ⟨B',k',f',h1,h2,?_⟩
  rw [hw,aO (fun e=>?_)]
  ·exact h3
  ·subst e
   rw [show (H.oq x k f).bn x=H.bn x from rfl,hb] at hx
   cases hx
 ·intro x B' k' hx
  rw [hw]
  split
  ·rename_i e;subst e
   rw [show (H.oq x k f).dY x=H.dY x from rfl,ho] at hx
   cases hx
   exact .inr (.inr ⟨f,hf,rfl⟩)
  ·exact h.vZ x B' k' hx
theorem dB.Lj (h:dB H) {a B k m:Nat} (ho:H.dY a=some (B,k)) (hm:H.kN a=some m):iY k m/\H.dV a=iM k m:=by
 unfold HS.kN at hm
 rcases h.vZ a B k ho with h1|⟨x,hx,h1⟩|⟨f,hf,h1⟩
 ·rw [h1] at hm;cases hm
 ·rw [h1] at hm
  cases hp:yQ (dM x) with
  | none=>rw [hp] at hm;cases hm
  | some cf =>
    obtain ⟨c,f⟩:=cf
    have h2:=GL hp
    have h3:=(mP h2.1).2.2.1
    have h4:=pO hx
    have:144115188075855872<=dM x:=by unfold dM;omega
    omega
 ·rw [h1,DT hf] at hm
  cases hm
  exact ⟨hf,h1⟩
theorem dB.rE (h:dB H) {a B k m:Nat} (c:Bool) (ho:H.dY a=some (B,k)) (hi:H.eY a=false) (hm:H.kN a=some m):dB (H.rE a c):=by
 refine ⟨h.lU,h.sV,h.k4,h.jK,h.kF,h.chain,h.oU,?_,?_,h.vZ,h.xB,h.zero⟩
 ·intro q hq x hx
  obtain ⟨h1,h2⟩:=h.jW q hq x hx
  refine ⟨?_,h2⟩
  show jL H.bn a true x=false
  unfold jL
  rw [aO (fun e:x=a=>h.yR hi hq (by rw [<- e];exact hx))]
  exact h1
 ·intro x hx
  by_cases e:x=a
  ·subst e
   obtain ⟨h1,h2⟩:=h.Lj ho hm
   exact ⟨B,k,m,ho,h1,h2⟩
  ·have hx':jL H.bn a true x=true:=hx
   unfold jL at hx'
   rw [aO e] at hx'
   exact h.jh x hx'
theorem dB.xC (h:dB H) (a:Nat):dB (H.xC a):=by
 refine ⟨h.lU,h.sV,h.k4,h.jK,h.kF,h.chain,h.oU,?_,?_,h.vZ,h.xB,h.zero⟩
 ·intro q hq x hx
  obtain ⟨h1,h2⟩:=h.jW q hq x hx
  refine ⟨?_,h2⟩
  show jL H.bn a false x=false
  unfold jL
  split
  ·rfl
  ·exact h1
 ·intro x hx
  have hx':jL H.bn a false x=true:=hx
  unfold jL at hx'
  split at hx'
  ·cases hx'
  ·exact h.jh x hx'
theorem dB.iD (h:dB H) (a:Nat) (c:Bool):dB (H.iD a c):=⟨h.lU,h.sV,h.k4,h.jK,h.kF,h.chain,h.oU,h.jW,h.jh,h.vZ,h.xB,h.zero⟩
theorem dB.setCell (h:dB H) (i v:Nat) (hv:v<=H.b*H.ww):dB (H.setCell i v):=by
 refine ⟨h.lU,h.sV,h.k4,h.jK,h.kF,h.chain,h.oU,h.jW,h.jh,h.vZ,?_,h.zero⟩
 intro x hx
 rcases ach hx with h1|rfl
 ·exact h.xB x h1
 ·exact hv
theorem dB.PG (h:dB H) {a:Nat} (ha:H.sU a=true):∃ B k m,H.dY a=some (B,k)/\iY k m/\H.dV a=iM k m/\H.kN a=some m/\H.nf a=m:=by
 have key:∀ B k m,H.dY a=some (B,k)->iY k m->H.dV a=iM k m->∃ B k m,H.dY a=some (B,k)/\iY k m/\H.dV a=iM k m/\H.kN a=some m/\H.nf a=m:=fun B k m h1 h2 h3=>by
  have h4:H.kN a=some m:=by unfold HS.kN;rw [h3,DT h2];rfl
  exact ⟨B,k,m,h1,h2,h3,h4,by unfold HS.nf;rw [h4];rfl⟩
 unfold HS.sU at ha
 rcases Bool.or_eq_true_iff.1 ha with hb|hh
 ·obtain ⟨B,k,f,h1,h2,h3⟩:=h.jh a hb
  exact key B k f h1 h2 h3
 ·obtain ⟨h1,h2⟩:=Bool.and_eq_true_iff.1 hh
  unfold HS.jH at h1
  simp only [acu] at h1
  obtain ⟨⟨B,k⟩,ho⟩:=acP.1 h1.1.1
  obtain ⟨m,hm⟩:=acP.1 h2
  obtain ⟨h3,h4⟩:=h.Lj ho hm
  exact key B k m ho h3 h4
theorem dB.field (h:dB H) {a f:Nat} (ha:H.sU a=true) (hf:f<H.nf a):H.dY (a+1+f)=none/\a+1+f<=H.b*H.ww/\1<=a/\H.K.getD ((a+1+f - 1)/H.ww) 0≠0:=by
 obtain ⟨B,k,m,ho,h2,_,_,h5⟩:=h.PG ha
 rw [h5] at hf
 have hk:=h2.2
 have:=JH ho (1+f) (by omega) (by omega)
 rw [<- acQ] at this
 exact ⟨this.1,this.2.1,(dK ho).1,this.2.2⟩
theorem dB.jC (h:dB H) {x v:Nat} (h1:1<=x) (h2:x<=H.b*H.ww) (hn:H.dY x=none) (hK:H.K.getD ((x - 1)/H.ww) 0≠0) (hv:v<kU):dB (H.jC x v):=by
 have hal:x<=H.A.length:=by have:=h.lU;omega
 have hw:∀ y,(H.jC x v).dV y=if y=x then v else H.dV y:=fun y=>qo h1 hal _ y
 have hne:∀ {y B k},H.dY y=some (B,k)->y≠x:=fun ho e=>by subst e;rw [hn] at ho;cases ho
 refine ⟨by simpa [HS.jC] using h.lU,h.sV,h.k4,?_,h.kF,?_,h.oU,h.jW,?_,?_,h.xB,fun y y1 y2 y3=>by rw [hw,aO (fun e:y=x=>hK (by rw [<- e];exact y3))];exact h.zero y y1 y2 y3⟩
 ·intro y hy
  rcases ach hy with g|rfl
  ·exact h.jK y g
  ·exact hv
 ·intro q hq
  refine (h.chain q hq).congr fun y hy=>?_
  obtain ⟨_,B,ho⟩:=h.jW q hq y hy
  rw [hw,aO (hne ho)]
 ·intro y hy
  obtain ⟨B',k',f',g1,g2,g3⟩:=h.jh y hy
  exact ⟨B',k',f',g1,g2,by rw [hw,aO (hne g1)];exact g3⟩
 ·intro y B k ho
  rw [hw,aO (hne ho)]
  exact h.vZ y B k ho
end
end
section
open Go.RowKit
theorem DU {size:Nat} {W:List Nat} (hl:W.length=(size+63)/64) {n:Nat} (hn:n<size) (eY:Bool) (m:Nat):jT size (lG size W (n:Int) eY) (m:Int)=if m=n then eY else jT size W (m:Int):=by
 have h0:decide (0<=(n:Int)/\(n:Int)<(size:Int))=true:=cZ (by omega)
 have hb:jT size W (n:Int)=iU W n:=by unfold jT;rw [h0,acR,abB]
 unfold lG fA
 rw [h0,acR,hb]
 by_cases he:iU W n=eY
 ·rw [aO (by rw [he];simp)]
  split
  ·rename_i e;subst e;rw [hb,he]
  ·rfl
 ·rw [aV (by simpa using he)]
  unfold jT
  rw [abB,abB]
  split
  ·rename_i e;subst e
   rw [h0,acR,Po (by omega)]
   revert he
   cases iU W m<;>cases eY<;>simp
  ·rename_i e
   rw [MQ e]
def lI (w:World) (B X size:Nat) (s:Nat->Bool):Prop:=∃ W,fG w B X size W/\∀ n:Nat,jT size W (n:Int)=s n
section
variable {w w':World} {B X size:Nat} {s:Nat->Bool}
theorem lI.aH {S:Nat->Prop} (h:lI w B X size s) (k:aj S w w') (hB:¬ S B) (hX:¬ S X):lI w' B X size s:=by
 obtain ⟨W,h1,h2⟩:=h
 exact ⟨W,h1.aH k hB hX,h2⟩
theorem lI.Ll (h:lI w B X size s) (n:Nat):Calls ay 49 #[ak B,ah (n:Int)] w fun e w'=>e = .returned (.bool (s n))/\w=w':=by
 obtain ⟨W,h1,h2⟩:=h
 rw [<- h2 n]
 exact AY h1 n
theorem lI.vI (h:lI w B X size s) {n:Nat} (hn:s n=true):n<size:=by
 obtain ⟨W,h1,h2⟩:=h
 rw [<- h2 n] at hn
 unfold jT at hn
 simp only [acu,decide_eq_true_eq] at hn
 omega
theorem lI.put (h:lI w B X size s) (n:Nat) (hn:n<size) (eY:Bool):Calls ay 184 #[ak B,ah (n:Int),.bool eY] w fun e w'=>e = .returned (.bool (s n != eY))/\lI w' B X size (jL s n eY)/\aj (only X) w w':=by
 obtain ⟨W,h1,h2⟩:=h
 have e:fA size W (n:Int) eY=(s n != eY):=by
  unfold fA
  rw [cZ (by omega),acR,h2]
 rw [<- e]
 refine (uD h1 n eY).mono ?_
 rintro e w' ⟨rfl,h3,h4⟩
 exact ⟨rfl,⟨_,h3,fun m=>by rw [DU h1.len hn,h2];rfl⟩,h4⟩
theorem lI.WU (h:lI w B X size s) (n:Nat) (hn:s n=false):Calls ay 184 #[ak B,ah (n:Int),.bool false] w fun e w'=>e = .returned (.bool false)/\lI w' B X size s/\aj (only X) w w':=by
 obtain ⟨W,h1,h2⟩:=h
 have e:fA size W (n:Int) false=false:=by
  unfold fA
  rw [h2,hn];simp
 have e2:lG size W (n:Int) false=W:=by unfold lG;rw [aO (by rw [e];decide)]
 refine (uD h1 n false).mono ?_
 rintro e' w' ⟨rfl,h3,h4⟩
 rw [e2] at h3
 rw [e]
 exact ⟨rfl,⟨_,h3,h2⟩,h4⟩
end
end
section
def HS.dh (H:HS) (k:Nat):Nat × Nat × HS:=match H.row k with
 | []=>(0,12,H)
 | a::_=>(a,0,H.take k)
def iG (f:Int):Nat:=if f<0 then 0 else if f<=1 then 0 else if f<=3 then 1 else if f<=7 then 2 else if f<=15 then 3 else 0
def HS.bZ (H:HS) (B:Nat):List Nat:=if H.K.getD B 0=0 then [] else jD (H.ww/2^H.K.getD B 0) (2^H.K.getD B 0) (B*H.ww)
def HS.bT (H:HS) (k:Nat):List Nat × Nat × HS:=match H.K.findIdx? (fun x=>x==0) with
 | none=>([],10,H)
 | some B=>((H.assign B k).bZ B,0,H.assign B k)
def HS.fA (H:HS) (a:Nat):HS:=match H.dY a with
 | none=>H
 | some (_,k)=>if H.bn a||H.eY a then H else H.put a k
def HS.jf (H:HS) (a:Nat) (f:Int):HS:=match H.dY a with
 | none=>H
 | some (_,k)=>if H.jH a&&decide (0<=f)&&decide (iY k f.toNat) then H.oq a k f.toNat else H
def HS.iZ (H:HS) (a c:Nat):HS:=if H.jH a&&decide (c<2)&&(H.kN a).isSome then H.rE a (c==1) else H
def HS.lJ (H:HS) (a:Nat):HS:=if H.bn a then (H.xC a).fA a else H
def HS.gV (H:HS) (a:Nat):Nat × Nat:=if H.lH a=0 then (H.nf a,0) else (0,H.lH a)
def HS.jm (H:HS) (a:Nat) (f:Int):Nat:=if H.lH a=0 then (if f<0\/(H.nf a:Int)<=f then 7 else 0) else H.lH a
def HS.iE (H:HS) (a:Nat) (f:Int):Nat:=if H.jm a f=0 then H.dV (a+1+f.toNat) else 0
def HS.lV (H:HS) (a:Nat) (f:Int) (v:Nat):Nat:=if H.jm a f=0 then (if v<=H.n then 0 else 4) else H.jm a f
def HS.dX (H:HS) (a:Nat) (f:Int) (v:Nat):HS:=if H.lV a f v=0 then H.jC (a+1+f.toNat) v else H
def HS.ku (H:HS) (a:Nat):Nat:=if H.co a then 1 else 0
def HS.jM (H:HS) (a c:Nat):Bool:=H.bn a&&decide (c<2)&&(H.co a != (c==1))
def HS.iV (H:HS) (a c:Nat):HS:=if H.jM a c then H.iD a (c==1) else H
def HS.kJ (H:HS) (i:Int):Nat:=if i<0\/(H.cells.length:Int)<=i then 9 else 0
def HS.kW (H:HS) (i:Int):Nat:=if H.kJ i=0 then H.cells.getD i.toNat 0 else 0
def HS.rF (H:HS) (i:Int) (v:Nat):Nat:=if H.kJ i=0 then (if v<=H.n then 0 else 4) else 9
def HS.ng (H:HS) (i:Int) (v:Nat):HS:=if H.rF i v=0 then H.setCell i.toNat v else H
end
section
open Go.RowKit
section
variable {c:aS} {b ww:Nat} (hok:c.ok=true) (hb:c.b=b) (hw:c.w=ww)
include hok hb hw
theorem Nh (k:Nat) (a:Int) (ha:a<1\/((b*ww:Nat):Int)<a) (w:World) (hT:gY w):Calls ay 146 #[.agg c.cells.toArray,ah (k:Int),ah a] w fun e w'=>e = .returned (.tuple #[.agg #[ah 0,ah 0,ah 0],.bool false])/\aj aA w w':=by
 obtain ⟨W0,hW0⟩:∃ W',W'=(w.alloc (.cells c.cells.toArray 23)).alloc (.cells #[ah 0,ah 0,ah 0] 197):=⟨_,rfl⟩
 have HK:Hid (aj aA w W0):=by rw [hW0];exact ((aj.refl _ _).alloc _).alloc _
 have HC:=au (zZ hok hb hw a ha W0 (hT.aH HK.out))
 have HO:Hid (aB W0 (w.heap.size+1) [ah 0,ah 0,ah 0] 197):=by
  rw [hW0]
  have h:=aB.aW (w.alloc (.cells c.cells.toArray 23)) [ah 0,ah 0,ah 0] 197
  rw [abw] at h
  exact h
 obtain ⟨c0,c1,c2,c3,c4,c5,c6⟩:=c
 simp only [aS.cells] at *
 have WB:w.heap.size<=w.heap.size+1:=by omega
 clear hT hok hb hw ha
 go_enter func146,ntmps146
 go_wp2_with fail
 rw [<- hW0]
 clear hW0
 refine HC.out.mono ?_
 rintro e w1 ⟨rfl,hk1⟩
 have aZ:=au (HK.out.trans hk1)
 have ho1:=hk1.aC HO.out (fun f=>f)
 clear hk1 HK HC HO
 generalize w.heap.size+1=O at *
 have o0:=ho1.cell 0 rfl;have o1:=ho1.cell 1 rfl;have o2:=ho1.cell 2 rfl
 have f0:=ho1.free 0;have f1:=ho1.free 1;have f2:=ho1.free 2
 have lD:=au ho1
 clear ho1
 go_wp2_with fail
 obtain ⟨W4,fC⟩:∃ W',W'=(((w1.setCell ⟨O,0,none⟩ (ah 0)).setCell ⟨O,1,none⟩ (ah 0)).setCell ⟨O,2,none⟩ (ah 0)):=⟨_,rfl⟩
 rw [<- fC]
 have hF:aB W4 O [ah 0,ah 0,ah 0] 197:=by rw [fC];exact ((lD.out.set 0 _).set 1 _).set 2 _
 have k0:=hF.cell 0 rfl;have k1:=hF.cell 1 rfl;have k2:=hF.cell 2 rfl
 have hk4:aj aA w W4:=by
  rw [fC]
  exact aZ.out.jI (((((aj.refl (only O) w1).put 0 _).put 1 _).put 2 _)) (fun i hi e=>absurd hi (by unfold only at e;omega))
 refine bodyPost_ret (v := .tuple #[.agg #[ah 0,ah 0,ah 0],.bool false]) (by simp [results,Tryz.f146,go_sem,k0,k1,k2]) rfl ⟨rfl,hk4⟩
theorem Ae (k B0 L:Nat) (hk:k<4) (hB:B0<b) (hL:L<ww) (hs:ww/2^(k+1)<=L/2^(k+1)) (w:World) (hT:gY w) (hS:eX w):Calls ay 146 #[.agg c.cells.toArray,ah (k:Int),ah (((B0*ww+L:Nat):Int)+1)] w fun e w'=>e = .returned (.tuple #[.agg #[ah 0,ah 0,ah 0],.bool false])/\aj aA w w':=by
 obtain ⟨W0,hW0⟩:∃ W',W'=(w.alloc (.cells c.cells.toArray 23)).alloc (.cells #[ah 0,ah 0,ah 0] 197):=⟨_,rfl⟩
 have HK:Hid (aj aA w W0):=by rw [hW0];exact ((aj.refl _ _).alloc _).alloc _
 have hn:=mM hok hb hw
 have hz:=qw hk
 have q2:B0*ww+L<b*ww:=by
  have h3:(B0+1)*ww<=b*ww:=abH ww (Nat.succ_le_of_lt hB)
  have h4:(B0+1)*ww=B0*ww+ww:=by rw [acD,acE]
  omega
 have q3:(B0*ww+L)/ww=B0:=by
  rw [Nat.add_comm,Nat.add_mul_div_right _ _ (by omega),abL hL,Nat.zero_add]
 have HC:=au (tC hok hb hw (B0*ww+L) q2 W0 (hT.aH HK.out))
 rw [q3] at HC
 have HB:=au (show aB W0 w.heap.size c.cells 23 by rw [hW0];exact (aB.aW w _ _).alloc _)
 have HO:Hid (aB W0 (w.heap.size+1) [ah 0,ah 0,ah 0] 197):=by
  rw [hW0]
  have h:=aB.aW (w.alloc (.cells c.cells.toArray 23)) [ah 0,ah 0,ah 0] 197
  rw [abw] at h
  exact h
 have hI:=fun W=>lq (k:Int) W
 have HZ:Hid (∀ W,aj aA w W->Calls ay 181 #[ah (k:Int)] W fun e w'=>e = .returned (ah ((2^(k+1):Nat):Int))/\W=w'):=fun W hW=>by
  have h:=tq (k:Int) W (hS.aH hW)
  rw [BQ hk] at h
  simpa using h
 have HP:Hid (∀ W,aj aA w W->Calls ay 149 #[ah (ww:Int),ah (k:Int)] W fun e w'=>e = .returned (ah ((ww/2^(k+1):Nat):Int))/\W=w'):=fun W hW=>vw ww k ⟨hn.2.2.1,hn.2.2.2.1⟩ hk W (hS.aH hW)
 have hkd:decide (0<=(k:Int)/\(k:Int)<4)=true:=cZ (by omega)
 simp only [hkd] at hI
 have HI:=au hI
 clear hI
 obtain ⟨c0,c1,c2,c3,c4,c5,c6⟩:=c
 simp only at hb hw
 subst hb hw
 have hmul:(B0:Int)*(ww:Int)=((B0*ww:Nat):Int):=by simp
 have hM:B0*ww<=b*ww:=abH _ (by omega)
 have d1':decide (((ww/2^(k+1):Nat):Int)<=((L/2^(k+1):Nat):Int))=true:=cZ (by omega)
 obtain ⟨s,hsE⟩:∃ s,s=L/2^(k+1):=⟨_,rfl⟩
 obtain ⟨j,Zq⟩:∃ j,j=L%2^(k+1):=⟨_,rfl⟩
 rw [<- hsE] at d1' hs
 generalize 2^(k+1)=z at *
 generalize ww/z=per at *
 generalize b*ww=N at *
 generalize B0*ww=M at *
 obtain ⟨hleft,hq,hr,hr2,hq2,hm1,hs1,hmw,_,hz0,hz1,hz2,WA⟩:=Gh (per:=s+1) hz hsE.symm Zq.symm hL hn.2.2.2.1 (Nat.le_trans hM hn.2.2.2.2) (Nat.lt_succ_self s)
 have HD:=au d1'
 obtain ⟨aa,O8⟩:∃ aa:Int,aa=((M+L:Nat):Int)+1:=⟨_,rfl⟩
 rw [<- O8] at HC hleft ⊢
 simp only [aS.cells] at *
 clear hT hS hok q2 q3 hn hkd hs hM O8 hsE Zq d1'
 go_enter func146,ntmps146
 go_wp2_with fail
 rw [<- hW0]
 clear hW0
 refine HC.out.mono ?_
 rintro e w1 ⟨rfl,hk1⟩
 have aZ:=au (HK.out.trans hk1)
 have lD:=au (hk1.aC HO.out (fun f=>f))
 have HB1:=au (hk1.aC HB.out (fun f=>f))
 have y1:=(hk1.aC HB.out (fun f=>f)).cell 1 rfl
 clear hk1 HK HC HB HO
 go_wp2_with (go_at_call 108;refine (HI.out _).mono ?_;rintro e w2 ⟨rfl,rfl⟩)
 go_region_held3 (fun w'=>aj aA w1 w')
  (first | exact aj.refl _ _ | exact (aj.refl _ _).drew | exact (aj.refl _ _).drew.alloc _ | assumption | exact aj.alloc (by assumption) _ | fail "oO")
  ((go_at_call 181
    refine (HZ.out _ (aZ.out.trans (by first | assumption | exact aj.alloc (by assumption) _ | exact (aj.refl _ _).drew | exact (aj.refl _ _).drew.alloc _ | fail "vC"))).mono ?_
    rintro e w2 ⟨rfl,rfl⟩))
 all_goals
  obtain ⟨W2,hW2⟩:∃ W',W'=(w1.alloc (.cells #[ah (B0:Int),ah (s:Int),ah (j:Int)] 197)).drew:=⟨_,rfl⟩
  rw [<- hW2]
  have bH:Hid (aj aA w W2):=by rw [hW2];exact (aZ.out.alloc _).drew
  have hp2:aB W2 w1.heap.size [ah (B0:Int),ah (s:Int),ah (j:Int)] 197:=by rw [hW2];exact (aB.aW w1 _ _).drew
  have ho2:aB W2 (w.heap.size+1) [ah 0,ah 0,ah 0] 197:=by rw [hW2];exact (lD.out.alloc _).drew
  have hb2:=show aB W2 w.heap.size _ 23 by rw [hW2];exact (HB1.out.alloc _).drew
  have hlt:w.heap.size+1<w1.heap.size:=lD.out.lt
  have WB:w.heap.size<=w.heap.size+1:=by omega
  clear hW2 y1 HB1 lD aZ HZ hr hr2 hq hq2 hm1 hs1 hleft hmul hmw hz0 hz1 hz2 WA
  generalize w1.heap.size=D at *
  generalize w.heap.size+1=O at *
  have y1:=hb2.cell 1 rfl
  have p1:=hp2.cell 1 rfl
  have Gi:=au ho2
  clear hp2 ho2 hb2
  go_wp2_with fail
  have d1:=HD.out
  go_quiet (first|(go_at_call 149;exact Calls.quiet_of_same (fE (HP.out _ (bH.out.drewN _)))))
  obtain ⟨W3,hW3⟩:∃ W',W'=W2.drewN nq:=⟨_,rfl⟩
  rw [<- hW3]
  have lT:Hid (aj aA w W3):=by rw [hW3];exact bH.out.drewN _
  have h23:aj aA W2 W3:=by rw [hW3];exact (aj.refl _ _).drewN _
  have ho3:=h23.aC Gi.out (fun f=>f)
  clear hW3 h23 y1 p1 Gi bH
  have o0:=ho3.cell 0 rfl;have o1:=ho3.cell 1 rfl;have o2:=ho3.cell 2 rfl
  have f0:=ho3.free 0;have f1:=ho3.free 1;have f2:=ho3.free 2
  have BR:=au ho3
  clear ho3
  have d2:per<=s:=Int.ofNat_le.1 (of_decide_eq_true HD.out)
  go_wp2_with fail
  obtain ⟨W4,fC⟩:∃ W',W'=(((W3.setCell ⟨O,0,none⟩ (ah 0)).setCell ⟨O,1,none⟩ (ah 0)).setCell ⟨O,2,none⟩ (ah 0)):=⟨_,rfl⟩
  rw [<- fC]
  have hF:aB W4 O [ah 0,ah 0,ah 0] 197:=by rw [fC];exact ((BR.out.set 0 _).set 1 _).set 2 _
  have k0:=hF.cell 0 rfl;have k1:=hF.cell 1 rfl;have k2:=hF.cell 2 rfl
  have hk4:aj aA w W4:=by
   rw [fC]
   exact lT.out.jI (((((aj.refl (only O) W3).put 0 _).put 1 _).put 2 _)) (fun i hi e=>absurd hi (by unfold only at e;omega))
  refine bodyPost_ret (v := .tuple #[.agg #[ah 0,ah 0,ah 0],.bool false]) (by simp [results,Tryz.f146,go_sem,k0,k1,k2]) rfl ⟨rfl,hk4⟩
theorem PI (k p:Nat) (hk:k<4) (hp:p<b*ww) (w:World) (hT:gY w) (hS:eX w):∃ (B0 s j:Nat) (ok:Bool),(ok=true->B0=p/ww/\s=p%ww/2^(k+1)/\j=p%ww%2^(k+1))/\(ok=true↔p%ww/2^(k+1)<ww/2^(k+1)) /\
 Calls ay 146 #[.agg c.cells.toArray,ah (k:Int),ah ((p:Int)+1)] w fun e w'=>e = .returned (.tuple #[.agg #[ah (B0:Int),ah (s:Int),ah (j:Int)],.bool ok])/\aj aA w w':=by
 have hn:=mM hok hb hw
 have hB:p/ww<b:=by rw [acH (by omega)];exact hp
 have hL:p%ww<ww:=acS _ (by omega)
 have e1:p/ww*ww+p%ww=p:=by have:=acC p ww;rw [acF] at this;exact this
 by_cases hs:p%ww/2^(k+1)<ww/2^(k+1)
 ·have h:=En hok hb hw k (p/ww) (p%ww/2^(k+1)) (p%ww%2^(k+1)) hk hB hs (acS _ (acB _)) w hT hS
  rw [show p%ww/2^(k+1)*2^(k+1)+p%ww%2^(k+1)=p%ww by rw [acF];exact acC _ _,e1] at h
  exact ⟨_,_,_,true,fun _=>⟨rfl,rfl,rfl⟩,by simpa using hs,h⟩
 ·have h:=Ae hok hb hw k (p/ww) (p%ww) hk hB hL (by omega) w hT hS
  rw [e1] at h
  exact ⟨0,0,0,false,fun e=>(nomatch e),by simpa using hs,h⟩
end
section
variable {w:World} {R X:Nat} {c:aS} {K:List Nat}
theorem JI (h:dW w R X c K) (B:Nat) (hB:B<K.length) (hk:K.getD B 0=0):Calls ay 83 #[ak R,ah (B:Int)] w fun e w'=>e = .returned (.tuple #[ah 0,.bool false])/\w=w':=by
 have hb:=h.aC
 obtain ⟨c0,c1,c2,c3,c4,c5,c6⟩:=c
 simp only [aS.cells,List.cons_append,abY] at hb
 have y7:=hb.cell 7 rfl
 have z:=h.gQ.cell B (kS hB)
 rw [hk] at z
 have hs:=h.jK
 have d1:decide ((K.length:Int)<=(B:Int))=false:=dD (by omega)
 have hBI:(B:Int)<(K.length:Int):=by omega
 have Cc:(0:Int)<=(B:Int):=by omega
 generalize K.length=L at *
 clear h hb hk hs hB
 go_enter func83,ntmps83
 go_wp2_with fail
 go_ret2
 exact ⟨rfl,rfl⟩
theorem Nj (h:dW w R X c K) (B:Nat) (hB:K.length<=B):Calls ay 83 #[ak R,ah (B:Int)] w fun e w'=>e = .returned (.tuple #[ah 0,.bool false])/\w=w':=by
 have hb:=h.aC
 obtain ⟨c0,c1,c2,c3,c4,c5,c6⟩:=c
 simp only [aS.cells,List.cons_append,abY] at hb
 have y7:=hb.cell 7 rfl
 have hs:=h.jK
 have d1:decide ((K.length:Int)<=(B:Int))=true:=cZ (by omega)
 have hBI:(K.length:Int)<=(B:Int):=by omega
 have Cc:(0:Int)<=(B:Int):=by omega
 generalize K.length=L at *
 clear h hb hs hB
 go_enter func83,ntmps83
 go_wp2_with fail
 go_ret2
 exact ⟨rfl,rfl⟩
theorem Ey (h:dW w R X c K) (B:Nat):Calls ay 83 #[ak R,ah (B:Int)] w fun e w'=>e = .returned (.tuple #[ah ((K.getD B 0 - 1:Nat):Int),.bool (decide (K.getD B 0≠0))])/\w=w':=by
 rcases acI B K.length with hB|hB
 ·by_cases h0:K.getD B 0=0
  ·have h1:=JI h B hB h0
   rw [h0];exact h1
  ·have hle:K.getD B 0<=4:=by
    rw [ace,abr hB]
    exact h.le _ (acJ hB)
   have h1:=yP h B (K.getD B 0 - 1) hB (by omega) (by omega)
   rw [cZ h0];exact h1
 ·have h1:=Nj h B hB
  rw [ace,acK hB];exact h1
theorem Ez (h:dW w R X c K) (a:Int) (B k B1 s j:Nat) (okb WV WW:Bool)
 (hAB:∀ W,aj aA w W->Calls ay 145 #[.agg c.cells.toArray,ah a] W fun e w'=>e = .returned (.tuple #[ah (B:Int),.bool okb])/\aj aA W w')
 (Zt:∀ W,aj aA w W->Calls ay 83 #[ak R,ah (B:Int)] W fun e w'=>e = .returned (.tuple #[ah (k:Int),.bool WV])/\W=w')
 (hF:∀ W,aj aA w W->Calls ay 146 #[.agg c.cells.toArray,ah (k:Int),ah a] W fun e w'=>e = .returned (.tuple #[.agg #[ah (B1:Int),ah (s:Int),ah (j:Int)],.bool WW])/\aj aA W w')
 (hno:(WW&&WV&&(j==0))=false) :
 Calls ay 111 #[ak R,ah a] w fun e w'=>e = .returned (.tuple #[ah 0,ah 0,.bool false])/\aj aA w w':=by
 have HC:Hid (∀ W,aj aA w W->Calls ay 65 #[ak R] W fun e w'=>e = .returned (.agg c.cells.toArray)/\aj aA W w'):=fun W hW=>rQ (h.still hW)
 have HAB:=au hAB
 have sQ:=au Zt
 have HF:=au hF
 obtain ⟨c0,c1,c2,c3,c4,c5,c6⟩:=c
 simp only [aS.cells] at *
 have HKK:=au (aj.refl aA w)
 clear h hAB Zt hF
 cases WW with
 | false =>
   clear hno
   go_enter func111,ntmps111
   go_wp2_with (first
    | (go_at_call 65;refine (HC.out _ HKK.out).mono ?_;rintro e w1 ⟨rfl,hk1⟩;have HKK:=au (HKK.out.trans hk1);clear hk1)
    | (go_at_call 145;refine (HAB.out _ HKK.out).mono ?_;rintro e w1 ⟨rfl,hk1⟩;have HKK:=au (HKK.out.trans hk1);clear hk1)
    | (go_at_call 146;refine (HF.out _ HKK.out).mono ?_;rintro e w1 ⟨rfl,hk1⟩;have HKK:=au (HKK.out.trans hk1);clear hk1)
    | (go_at_call 83;refine (sQ.out _ HKK.out).mono ?_;rintro e w1 ⟨rfl,rfl⟩))
   go_ret3
   exact ⟨rfl,HKK.out.alloc _⟩
 | true =>
   cases WV with
   | false =>
     clear hno
     go_enter func111,ntmps111
     go_wp2_with (first
      | (go_at_call 65;refine (HC.out _ HKK.out).mono ?_;rintro e w1 ⟨rfl,hk1⟩;have HKK:=au (HKK.out.trans hk1);clear hk1)
      | (go_at_call 145;refine (HAB.out _ HKK.out).mono ?_;rintro e w1 ⟨rfl,hk1⟩;have HKK:=au (HKK.out.trans hk1);clear hk1)
      | (go_at_call 146;refine (HF.out _ HKK.out).mono ?_;rintro e w1 ⟨rfl,hk1⟩;have HKK:=au (HKK.out.trans hk1);clear hk1)
      | (go_at_call 83;refine (sQ.out _ HKK.out).mono ?_;rintro e w1 ⟨rfl,rfl⟩))
     go_ret3
     exact ⟨rfl,HKK.out.alloc _⟩
   | true =>
     have hj:j≠0:=by intro e;subst e;simp at hno
     have d1:((j:Int)==0)=false:=by simp;omega
     have d2:((j:Int) != 0)=true:=by simp only [bne,d1];rfl
     clear hno hj
     go_enter func111,ntmps111
     go_wp2_with (first
      | (go_at_call 65;refine (HC.out _ HKK.out).mono ?_;rintro e w1 ⟨rfl,hk1⟩;have HKK:=au (HKK.out.trans hk1);clear hk1)
      | (go_at_call 145;refine (HAB.out _ HKK.out).mono ?_;rintro e w1 ⟨rfl,hk1⟩;have HKK:=au (HKK.out.trans hk1);clear hk1)
      | (go_at_call 146;refine (HF.out _ HKK.out).mono ?_;rintro e w1 ⟨rfl,hk1⟩;have HKK:=au (HKK.out.trans hk1);clear hk1)
      | (go_at_call 83;refine (sQ.out _ HKK.out).mono ?_;rintro e w1 ⟨rfl,rfl⟩))
     go_ret3
     exact ⟨rfl,HKK.out.alloc _⟩
theorem EC (h:dW w R X c K) (ww a:Nat) (hw:c.w=ww) (ho:lF K.length ww K a=none) (hT:gY w) (hS:eX w):Calls ay 111 #[ak R,ah (a:Int)] w fun e w'=>e = .returned (.tuple #[ah 0,ah 0,.bool false])/\aj aA w w':=by
 have hn:=mM h.ok h.len hw
 have hk4:∀ B,K.getD B 0<=4:=fun B=>by
  rcases acI B K.length with h1|h1
  ·rw [ace,abr h1]
   exact h.le _ (acJ h1)
  ·rw [ace,acK h1];exact abZ _
 by_cases hin:1<=a/\a<=K.length*ww
 ·obtain ⟨p,rfl⟩:∃ p,a=p+1:=⟨a - 1,by omega⟩
  have hp:p<K.length*ww:=by omega
  have e:(((p+1:Nat):Nat):Int)=(p:Int)+1:=by omega
  rw [e]
  have hB:p/ww<K.length:=by rw [acH (by omega)];exact hp
  obtain ⟨k,hk,hkK⟩:∃ k,k<4/\k=K.getD (p/ww) 0 - 1:=⟨_,by have:=hk4 (p/ww);omega,rfl⟩
  have key:∃ (B0 s j:Nat) (ok:Bool),(ok=true->B0=p/ww/\s=p%ww/2^(k+1)/\j=p%ww%2^(k+1))/\(ok=true↔p%ww/2^(k+1)<ww/2^(k+1)) /\
   ∀ W,aj aA w W->Calls ay 146 #[.agg c.cells.toArray,ah (k:Int),ah ((p:Int)+1)] W fun e w'=>e = .returned (.tuple #[.agg #[ah (B0:Int),ah (s:Int),ah (j:Int)],.bool ok])/\aj aA W w':=by
   by_cases hs:p%ww/2^(k+1)<ww/2^(k+1)
   ·refine ⟨p/ww,_,_,true,fun _=>⟨rfl,rfl,rfl⟩,by simpa using hs,fun W hW=>?_⟩
    obtain ⟨B0,s,j,ok,h1,h2,h3⟩:=PI h.ok h.len hw k p hk hp W (hT.aH hW) (hS.aH hW)
    have hok:=h2.2 hs
    obtain ⟨rfl,rfl,rfl⟩:=h1 hok
    rw [hok] at h3;exact h3
   ·refine ⟨0,0,0,false,fun e=>(nomatch e),by simpa using hs,fun W hW=>?_⟩
    have hL:p%ww<ww:=acS _ (by omega)
    have e1:p/ww*ww+p%ww=p:=by have:=acC p ww;rw [acF] at this;exact this
    have h9:=Ae h.ok h.len hw k (p/ww) (p%ww) hk hB hL (by omega) W (hT.aH hW) (hS.aH hW)
    rw [e1] at h9;exact h9
  obtain ⟨B0,s,j,ok,h1,h2,h3⟩:=key
  refine Ez h _ (p/ww) k B0 s j true (decide (K.getD (p/ww) 0≠0)) ok (fun W hW=>tC h.ok h.len hw p hp W (hT.aH hW)) (fun W hW=>by rw [hkK];exact Ey (h.still hW) (p/ww)) h3 ?_
  rw [Bool.eq_false_iff]
  intro hc
  simp only [acu,decide_eq_true_eq,beq_iff_eq] at hc
  obtain ⟨⟨g1,g2⟩,g3⟩:=hc
  obtain ⟨_,_,g4⟩:=h1 g1
  have hkk:K.getD (p/ww) 0=k+1:=by omega
  have:=Bg (b:=K.length) (ww:=ww) (K:=K) (a:=p+1) (B:=p/ww) (k:=k) (by omega) (by omega) (by simp) hkk (by simpa using g4.symm.trans g3) (by simpa using h2.1 g1)
  rw [ho] at this;cases this
 ·have hout:(a:Int)<1\/((K.length*ww:Nat):Int)<(a:Int):=by omega
  have hb1:0<K.length:=by have:=h.jK;omega
  refine Ez h (a:Int) 0 (K.getD 0 0 - 1) 0 0 0 false (decide (K.getD 0 0≠0)) false (fun W hW=>?_) (fun W hW=>Ey (h.still hW) 0) (fun W hW=>?_) rfl
  ·exact zZ h.ok h.len hw (a:Int) hout W (hT.aH hW)
  ·exact Nh h.ok h.len hw _ (a:Int) hout W (hT.aH hW)
theorem Cj (h:dW w R X c K) (ww a B k:Nat) (hw:c.w=ww) (ho:lF K.length ww K a=some (B,k)) (hT:gY w) (hS:eX w):Calls ay 111 #[ak R,ah (a:Int)] w fun e w'=>e = .returned (.tuple #[ah (B:Int),ah (k:Int),.bool true])/\aj aA w w':=by
 have hn:=mM h.ok h.len hw
 obtain ⟨h1,h2,h3,h4,h5,h6⟩:=dK ho
 have hB:B<K.length:=by
  rcases acI B K.length with g|g
  ·exact g
  ·rw [ace,acK g] at h4
   simp at h4
 have hk:k<4:=by
  have:K.getD B 0<=4:=by
   rw [ace,abr hB]
   exact h.le _ (acJ hB)
  omega
 have h9:=Pj h ww B k ((a - 1)%ww/2^(k+1)) hw hB h4 hk h6 hT hS
 have e1:B*ww+(a - 1)%ww/2^(k+1)*2^(k+1)=a - 1:=by
  have g1:=acC (a - 1) ww
  have g2:=acC ((a - 1)%ww) (2^(k+1))
  rw [h5,Nat.add_zero,acF] at g2
  rw [g2,h3,acF];exact g1
 rw [e1,show (((a - 1:Nat):Nat):Int)+1=(a:Int) by omega] at h9
 exact h9
end
def Ow:Type:=Nat->Nat
def In (o:Ow) (I:List Nat):Nat->Prop:=fun b=>o b∈I
def jS (o:Ow) (w:World):Prop:=∀ b,w.heap.size<=b->o b=0
def dL (w:World) (o o':Ow):Prop:=∀ b,b<w.heap.size->o' b=o b
theorem dL.refl (w:World) (o:Ow):dL w o o:=fun _ _=>rfl
theorem dL.trans {w w':World} {o o' o'':Ow} (h:dL w o o') (hs:w.heap.size<=w'.heap.size) (h':dL w' o' o''):dL w o o'':=fun b hb=>(h' b (Nat.lt_of_lt_of_le hb hs)).trans (h b hb)
theorem jS.later {o:Ow} {w w':World} (h:jS o w) (hs:w.heap.size<=w'.heap.size):jS o w':=fun b hb=>h b (Nat.le_trans hs hb)
theorem jS.aH {S:Nat->Prop} {o:Ow} {w w':World} (h:jS o w) (k:aj S w w'):jS o w':=h.later k.size
theorem WX {o:Ow} {I:List Nat} {b i:Nat} (h:o b=i) (hi:i∉I):¬ In o I b:=fun e=>by unfold In at e;rw [h] at e;exact hi e
theorem fU {o:Ow} {I:List Nat} {b i:Nat} (h:o b=i) (hi:I.contains i=false):¬ In o I b:=WX h (by simpa using hi)
theorem aj.bU {o:Ow} {I:List Nat} {w w':World} (k:aj aA w w'):aj (In o I) w w':=k.mono (fun _ _ f=>f.elim)
theorem aj.rU {o:Ow} {I:List Nat} {w w':World} {B i:Nat} (k:aj (only B) w w') (h:o B=i) (hi:I.contains i=true):aj (In o I) w w':=k.mono (fun b _ e=>by unfold only at e;subst e;unfold In;rw [h];simpa using hi)
theorem aj.kX {o:Ow} {I J:List Nat} {w w':World} (k:aj (In o I) w w') (h:I.all (fun i=>J.contains i)=true):aj (In o J) w w':=k.mono (fun b _ e=>by
 unfold In at *
 have:=List.all_eq_true.1 h _ e
 simpa using this)
theorem aj.yS {o o':Ow} {I:List Nat} {w w':World} (k:aj (In o I) w w') (h:dL w o o'):aj (In o' I) w w':=k.mono (fun b hb e=>by unfold In at *;rw [h b hb];exact e)
theorem aj.PK {o o':Ow} {I:List Nat} {a b c:World} (h:aj (In o I) a b) (k:aj (In o' I) b c) (e:dL a o o'):aj (In o I) a c:=h.jI k (fun i hi hin=>by unfold In at *;rw [<- e i hi];exact hin)
def Ow.put (o:Ow) (g i:Nat):Ow:=fun b=>if b=g then i else o b
theorem Ow.pq {o:Ow} {w:World} {g i:Nat} (h:w.heap.size<=g\/o g=i):dL w o (o.put g i):=fun b hb=>by
 unfold Ow.put
 split
 ·rename_i e;subst e
  rcases h with h|h
  ·omega
  ·exact h.symm
 ·rfl
theorem Ow.uh {o:Ow} {w w':World} {g i:Nat} (h:jS o w) (hs:w.heap.size<=w'.heap.size) (hg:g<w'.heap.size):jS (o.put g i) w':=fun b hb=>by
 unfold Ow.put
 rw [aO (by omega)]
 exact h b (by omega)
theorem Ow.rG (o:Ow) (g i:Nat):(o.put g i) g=i:=by unfold Ow.put;rw [aV rfl]
def dI (o:Ow) (w:World) (T:TypeId) (v:Value) (xs:List Value):Prop :=
 ∃ a c,v = .slice a xs.length c/\xs.length<=c/\xs.length<=4000000000000/\(0<xs.length->∃ b off cs,a=some ⟨b,off,none⟩/\o b=0/\aB w b cs T/\∀ j,j<xs.length->cs[off+j]?=xs[j]?)
section
variable {o o':Ow} {w w':World} {T:TypeId} {v:Value} {xs:List Value}
theorem dI.nil (o:Ow) (w:World) (T:TypeId):dI o w T (.slice none 0 0) []:=⟨none,0,rfl,Nat.le_refl _,by simp,fun h=>absurd h (Nat.lt_irrefl 0)⟩
theorem dI.aH {S:Nat->Prop} (h:dI o w T v xs) (k:aj S w w') (hs:∀ b,o b=0->¬ S b):dI o w' T v xs:=by
 obtain ⟨a,c,rfl,hl,hm,hc⟩:=h
 refine ⟨a,c,rfl,hl,hm,fun h0=>?_⟩
 obtain ⟨b,off,cs,e,h0,hb,hj⟩:=hc h0
 exact ⟨b,off,cs,e,h0,k.aC hb (hs b h0),hj⟩
theorem dI.aP {I:List Nat} (h:dI o w T v xs) (k:aj (In o I) w w') (hI:I.contains 0=false):dI o w' T v xs:=h.aH k (fun _ hb=>fU hb hI)
theorem dI.still (h:dI o w T v xs) (k:aj aA w w'):dI o w' T v xs:=h.aH k (fun _ _ f=>f)
theorem dI.ext (h:dI o w T v xs) (e:dL w o o'):dI o' w T v xs:=by
 obtain ⟨a,c,rfl,hl,hm,hc⟩:=h
 refine ⟨a,c,rfl,hl,hm,fun h0=>?_⟩
 obtain ⟨b,off,cs,e1,h0,hb,hj⟩:=hc h0
 exact ⟨b,off,cs,e1,(e b hb.lt).trans h0,hb,hj⟩
theorem dI.toV (h:dI o w T v xs):Gl w T v xs:=by
 obtain ⟨a,c,rfl,hl,hm,hc⟩:=h
 refine ⟨a,c,rfl,hl,hm,fun h0=>?_⟩
 obtain ⟨b,off,cs,e1,_,hb,hj⟩:=hc h0
 exact ⟨b,off,cs,e1,hb,hj⟩
theorem dI.qc {base n:Nat} (h:w.ownsRow base T 1 v n xs) (hm:n<=4000000000000) (hf:∀ b,base<=b->o b=0):dI o w T v xs:=by
 obtain ⟨hl,hf2⟩:=h
 rcases hf2 with ⟨rfl,rfl⟩|⟨g,aJ,cur,rfl,hg0,hg,hn,_,hs,hc⟩
 ·have:xs=[]:=List.eq_nil_of_length_eq_zero (by simpa using hl)
  subst this
  exact dI.nil _ _ _
 ·have hnl:n=xs.length:=by simpa using hl.symm
  subst hnl
  refine ⟨_,aJ,rfl,hn,hm,fun _=>⟨g,0,cur.toList,rfl,hf g hg0,by unfold aB;simpa using hg,fun j hj=>?_⟩⟩
  rw [<- hc]
  simp [hj]
theorem dI.cut {a:Option Addr} {n c:Nat} (h:dI o w T (.slice a n c) xs) (k:Nat) (hk:k<=n):dI o w T (.slice (sH a c k) (n - k) (c - k)) (xs.drop k):=by
 obtain ⟨a',c',e,hl,hm,hc⟩:=h
 simp at e
 obtain ⟨rfl,rfl,rfl⟩:=e
 refine ⟨sH a c k,c - k,by simp,by simp;omega,by simp;omega,fun h0=>?_⟩
 have h0':k<xs.length:=by simp at h0;omega
 obtain ⟨b,off,cs,rfl,h0,hb,hj⟩:=hc (by omega)
 refine ⟨b,off+k,cs,?_,h0,hb,fun j hjl=>?_⟩
 ·unfold sH
  rw [aO (by omega)]
  cases k with
  | zero=>simp [Addr.add]
  | succ k=>simp [Addr.add]
 ·simp only [List.length_drop] at hjl
  rw [List.getElem?_drop,acQ,hj (k+j) (by omega)]
theorem dI.take {a:Option Addr} {n c:Nat} (h:dI o w T (.slice a n c) xs) (k:Nat) (hk:k<=n):dI o w T (.slice a k c) (xs.take k):=by
 obtain ⟨a',c',e,hl,hm,hc⟩:=h
 simp at e
 obtain ⟨rfl,rfl,rfl⟩:=e
 have e1:(xs.take k).length=k:=by simp;omega
 refine ⟨a,c,by rw [e1],by rw [e1];omega,by rw [e1];omega,fun h0=>?_⟩
 rw [e1] at h0
 obtain ⟨b,off,cs,rfl,h0,hb,hj⟩:=hc (by omega)
 refine ⟨b,off,cs,rfl,h0,hb,fun j hjl=>?_⟩
 rw [e1] at hjl
 rw [List.getElem?_take_of_lt hjl,hj j (by omega)]
theorem dI.form (h:dI o w T v xs):∃ a c,v = .slice a xs.length c/\xs.length<=c/\xs.length<=4000000000000/\∀ j u,xs[j]?=some u->∃ b off,a=some ⟨b,off,none⟩/\w.cell? ⟨b,off+j,none⟩=some u:=by
 obtain ⟨a,c,rfl,hl,hm,hc⟩:=h
 refine ⟨a,c,rfl,hl,hm,fun j u hj=>?_⟩
 have hlt:=(List.getElem?_eq_some_iff.1 hj).1
 obtain ⟨b,off,cs,e1,_,hb,hj2⟩:=hc (by omega)
 exact ⟨b,off,e1,hb.cell _ ((hj2 j hlt).trans hj)⟩
end
theorem aB.aP {o:Ow} {I:List Nat} {w w':World} {B i:Nat} {cs:List Value} {T:TypeId} (h:aB w B cs T) (k:aj (In o I) w w') (hB:o B=i) (hI:I.contains i=false):aB w' B cs T:=k.aC h (fU hB hI)
end
end Go.Proofs.YtobfpmijbfgmeabGreatDoor
