/- Parts of the iy. No conditions. -/
import Derived.Test.YtanfphjoebobaaaGreatDoorZzfaa
namespace Go.Proofs.YtanfphjoebobaaaGreatDoor
open _root_.Bool renaming and_eq_true->akD,false_or->alD
open _root_.List renaming getD_eq_getElem?_getD->ajg,getElem?_eq_getElem->ajh,getElem?_eq_none->ajK,getElem_replicate->alG,length_append->alm,length_pos_iff->akM,replicate->ajj
open _root_.Nat renaming add_mul->ajF,le_mul_of_pos_right->alH,le_refl->aje,le_succ->aju,mul_add->alA,mul_comm->akJ,mul_le_mul->akd,mul_le_mul_left->alE,mul_le_mul_right->ajE,mul_left_comm->alF,zero_le->aki
open _root_.Go.Proofs.Tryz hiding prog
open _root_.Go.Proofs.Tryz renaming prog->aA
set_option maxRecDepth 8000
set_option maxHeartbeats 8000000
section
def yZ (a b:Nat):Bool:=(a==b)||[(0,1),(1,2),(2,3),(3,4),(4,5),(5,4),(5,6),(6,7),(7,0)].contains (a,b)
def rD (c:CS):Prop:=c.cu<=c.je+if c.phase=0\/5<=c.phase then 0 else 1
theorem wB:∀ {l l':List Nat},l.Nodup->(∀ a∈l,a∈l')->l.length<=l'.length
 | [],_,_,_=>aki _
 | a::l,l',hn,hs=>by
   obtain ⟨s,t,e⟩:=List.append_of_mem (hs a List.mem_cons_self)
   obtain ⟨h1,h2⟩:=List.nodup_cons.1 hn
   have h3:=wB (l:=l) (l':=s++t) h2 (fun b hb=>by
    have:=hs b (List.mem_cons_of_mem _ hb)
    rw [e] at this
    rcases List.mem_append.1 this with g|g
    ·exact List.mem_append_left _ g
    ·rcases List.mem_cons.1 g with g|g
     ·exact absurd (by rw [<- g];exact hb) h1
     ·exact List.mem_append_right _ g)
   rw [e]
   simp at h3 ⊢
   omega
section
variable {p:CP} {x y:WS} {s s':Sh} {m m':MS} {i j l l' ph vO hf R mu bl ce κ:Nat} {H:HS} {dead:List Nat} {q:Qu} {c:CS}
theorem aaT (s:Sh) (c:CS) (d:CD):(aN s c d).c.jM=c.jM/\(aN s c d).c.cu=c.cu/\(aN s c d).c.aP=c.aP/\(aN s c d).c.aG=c.aG/\c.je<=(aN s c d).c.je:=by
 cases d with
 | lC v t =>
   simp only [aN]
   split
   ·unfold CS.push
    simp only
    split<;>exact ⟨rfl,rfl,rfl,rfl,aje _⟩
   ·exact ⟨rfl,rfl,rfl,rfl,aje _⟩
 | work =>
   simp only [aN]
   split<;>exact ⟨rfl,rfl,rfl,rfl,aje _⟩
 | box m =>
   simp only [aN]
   split<;>exact ⟨rfl,rfl,rfl,rfl,aje _⟩
 | over =>
   simp only [aN]
   repeat' split
   all_goals exact ⟨rfl,rfl,rfl,rfl,aje _⟩
 | eX =>
   simp only [aN]
   split<;>exact ⟨rfl,rfl,rfl,rfl,aje _⟩
 | block sl =>
   cases sl with
   | nil=>exact ⟨rfl,rfl,rfl,rfl,aje _⟩
   | cons a r =>
     simp only [aN]
     split<;>exact ⟨rfl,rfl,rfl,rfl,aje _⟩
 | ig t =>
   simp only [aN]
   split<;>exact ⟨rfl,rfl,rfl,rfl,aje _⟩
 | jV=>exact ⟨rfl,rfl,rfl,rfl,aju _⟩
 | _=>exact ⟨rfl,rfl,rfl,rfl,aje _⟩
theorem aaU (a:Nat):yZ a a=true:=by unfold yZ;simp
theorem VI (h:oO p x dead) (d:CD) (hd:x.aC.next=d):yZ x.aC.phase (aN x.s x.aC d).c.phase=true/\(rD x.aC->rD (aN x.s x.aC d).c):=by
 have aK:∀ c':CS,c'.phase=x.aC.phase->c'.cu=x.aC.cu->x.aC.je<=c'.je->yZ x.aC.phase c'.phase=true/\(rD x.aC->rD c'):=fun c' e1 e2 e3=>by
  refine ⟨by rw [e1];exact aaU _,fun hh=>?_⟩
  unfold rD at hh ⊢
  rw [e1,e2];omega
 have P9:∀ (c':CS) (a b:Nat),x.aC.phase=a->c'.phase=b->yZ a b=true->c'.cu=x.aC.cu->x.aC.je<=c'.je->((a=0\/5<=a)\/¬ (b=0\/5<=b)\/x.aC.je+1<=c'.je)->yZ x.aC.phase c'.phase=true/\(rD x.aC->rD c'):=fun c' a b e1 e2 e3 e4 e5 e6=>by
  refine ⟨by rw [e1,e2];exact e3,fun hh=>?_⟩
  unfold rD at hh ⊢
  rw [e1] at hh
  rw [e2,e4]
  rcases e6 with g|g|g
  ·rw [aZ g] at hh;omega
  ·rw [aT g];split at hh<;>omega
  ·split at hh<;>omega
 have hsh:p.fQ x.aC.phase x.aC.next\/p.Oh x.aC.phase x.aC.next:=by
  cases h with
  | mark h1 _=>exact .inl h1.fQ
  | eX h1=>exact .inr h1.fQ
 rw [hd] at hsh
 cases d with
 | uY=>exact P9 _ 1 2 (hsh.resolve_right (fun h=>h)) rfl rfl rfl (aje _) (.inr (.inl (by omega)))
 | sW=>exact P9 _ 2 3 (hsh.resolve_right (fun h=>h)) rfl rfl rfl (aje _) (.inr (.inl (by omega)))
 | trace=>exact P9 _ 3 4 (hsh.resolve_right (fun h=>h)) rfl rfl rfl (aje _) (.inr (.inl (by omega)))
 | jV=>exact P9 _ 4 5 (hsh.resolve_right (fun h=>h)) rfl rfl rfl (aju _) (.inr (.inr (aje _)))
 | fP=>exact P9 _ 5 6 (hsh.resolve_right (fun h=>h)) rfl rfl rfl (aje _) (.inl (by omega))
 | off=>exact P9 _ 6 7 (hsh.resolve_left (fun h=>h)) rfl rfl rfl (aje _) (.inl (by omega))
 | jE=>exact P9 _ 7 0 (hsh.resolve_left (fun h=>h)) rfl rfl rfl (aje _) (.inl (by omega))
 | over =>
   have hm:Af x.aC.phase:=hsh.resolve_right (fun h=>h)
   simp only [aN]
   split
   ·split
    ·exact aK _ rfl rfl (aje _)
    ·rename_i h4
     split
     ·exact P9 _ 5 4 (hm.resolve_left h4) rfl rfl rfl (aje _) (.inl (by omega))
     ·exact aK _ rfl rfl (aje _)
   ·exact aK _ rfl rfl (aje _)
 | lC v t =>
   simp only [aN]
   split
   ·unfold CS.push
    simp only
    split<;>exact aK _ rfl rfl (aje _)
   ·exact aK _ rfl rfl (aje _)
 | work =>
   simp only [aN]
   split<;>exact aK _ rfl rfl (aje _)
 | box m =>
   simp only [aN]
   split<;>exact aK _ rfl rfl (aje _)
 | eX =>
   simp only [aN]
   split<;>exact aK _ rfl rfl (aje _)
 | block sl =>
   cases sl with
   | nil=>exact aK _ rfl rfl (aje _)
   | cons a r =>
     simp only [aN]
     split<;>exact aK _ rfl rfl (aje _)
 | ig t =>
   simp only [aN]
   split<;>exact aK _ rfl rfl (aje _)
 | _=>exact aK _ rfl rfl (aje _)
theorem CP.air (hI:eu p.H) (hb:p.bl=p.H.b) (co:Nat->Bool):p.U co<=p.bl*(p.H.ww/2):=by
 have k:=hI.MX hb
 have hl:∀ n,((List.range n).flatMap p.H.bH).length<=n*(p.H.ww/2):=fun n=>by
  induction n with
  | zero=>simp
  | succ n ih =>
    rw [List.range_succ,List.flatMap_append,alm,ajF,Nat.one_mul,List.flatMap_cons,List.flatMap_nil,List.append_nil]
    have:=k.agl n
    omega
 refine Nat.le_trans ?_ (hl p.bl)
 unfold CP.U Eo
 refine wB ?_ (fun a ha=>?_)
 ·exact (List.filter_sublist).nodup List.nodup_range
 ·obtain ⟨h1,h2⟩:=List.mem_filter.1 ha
  rw [akD] at h2
  obtain ⟨B,g1,g2⟩:=k.kL a h2.1
  exact List.mem_flatMap.2 ⟨B,List.mem_range.2 g1,g2⟩
def EZ (mu bl ce R hf:Nat):Nat :=
 let p:CP:=⟨⟨⟨0,0,0,0,0,0,0⟩,0,0,[],[],[],fun _=>false,fun _=>false,[]⟩,0,mu,bl,ce,0,fun _=>[]⟩
 mu*(8*R+5)+(mu+(2+p.ak R+p.ak R+p.rT hf R))+bl*hf*p.kD hf R+p.dr R
theorem wu.KE (h:wu mu bl ce κ x) (hR:∀ (i:Nat) (m:MS),x.aG[i]?=some m->m.aW.length<=R):Na (jd mu bl ce κ x) R/\(jd mu bl ce κ x).eP R (mW x)<=EZ mu bl ce R (x.s.H.ww/2):=by
 obtain ⟨h1,h2,h3,h4,h5⟩:=h.kU
 have hg:Na (jd mu bl ce κ x) R:=by
  refine ⟨h4,h5,fun i=>?_⟩
  show (((x.aG[i]?).map MS.aW).getD []).length<=R
  cases hm:x.aG[i]? with
  | none=>exact aki _
  | some m=>exact hR i m hm
 refine ⟨hg,?_⟩
 have hT:(jd mu bl ce κ x).T (mW x)<=mu*(8*R+5):=by
  have:(jd mu bl ce κ x).T (mW x)<=vC (fun _=>0) mu+mu*(8*R+5):=by
   refine Oj _ fun i hi=>?_
   unfold vF
   show (match x.aG[i]? with|some m=>_|none=>0)<=_
   cases hm:x.aG[i]? with
   | none=>exact aki _
   | some m =>
     have g:=h.gW i m hm
     have h6:=Ud (h4.MX h5) h1 (i:=i) (m:=m) hm g.nx
     have h7:=hR i m hm
     have hbx:(mW x).s.box i=[]:=h.tZ i
     show iq (mW x).s i m+2*((mW x).s.box i).length<=0+_
     rw [hbx]
     rw [g.aY] at h6
     simp at h6 ⊢
     omega
  have h0:∀ n,vC (fun _=>0) n=0:=fun n=>by
   induction n with
   | zero=>rfl
   | succ n ih=>show vC _ n+0=0;rw [ih]
  rw [h0] at this
  omega
 have hU:=CP.air h4 h5 (mW x).s.H.co
 have hUb:(jd mu bl ce κ x).U (mW x).s.H.co*(jd mu bl ce κ x).kD (x.s.H.ww/2) R<=bl*(x.s.H.ww/2)*(jd mu bl ce κ x).kD (x.s.H.ww/2) R:=ajE _ hU
 have hd:(if dB (mW x)=true then (jd mu bl ce κ x).dr R else 0)<=(jd mu bl ce κ x).dr R:=by split<;>omega
 have hpw:wV (mW x)=false:=by
  unfold wV
  have e1:(mW x).s.dw=false:=h.fl.1
  have e2:(mW x).aC.over=false:=h.fl.2
  rw [e1,e2,alD,alD,Bool.eq_false_iff]
  intro hh
  rw [List.any_eq_true] at hh
  obtain ⟨m,hm,hp⟩:=hh
  obtain ⟨i,hi⟩:=List.mem_iff_getElem?.1 hm
  rw [(h.gW i m hi).nx] at hp;cases hp
 have hq:(mW x).s.Q.qs=0:=by
  have:=h.q.1
  show x.s.Q.qs=0
  unfold Qu.qs
  rw [this 0,this 1,this 2,this 3];rfl
 have hst:(mW x).aC.bD=[]:=h.bD
 have hex:uf (mW x)=false:=rfl
 show (jd mu bl ce κ x).nN (x.s.H.ww/2) R (mW x)<=_
 unfold CP.nN
 rw [hpw,hq,hst,hex]
 show _+(mu - 0+(2+(jd mu bl ce κ x).ak R+(jd mu bl ce κ x).ak R+(jd mu bl ce κ x).rT (x.s.H.ww/2) R))+33*0+(if false=true then _ else 0)+_+(if false=true then _ else 0)+_+0*_<=_
 rw [aT (by decide),aT (by decide)]
 show _<=mu*(8*R+5)+(mu+(2+(jd mu bl ce κ x).ak R+(jd mu bl ce κ x).ak R+(jd mu bl ce κ x).rT (x.s.H.ww/2) R))+bl*(x.s.H.ww/2)*(jd mu bl ce κ x).kD (x.s.H.ww/2) R+(jd mu bl ce κ x).dr R
 omega
end
def Ja (bl w mu R ce l:Nat):Nat :=
 (2*(bl*(w/2))+6)*(40*(bl*(w/2))+2*mu*(l+4)+2*ce+(64+4*l+w)+(16+R*(l+8)+4*l)+40)+(2*bl*(w+8)+3*(64+4*l+w)+2*(16+R*(l+8)+4*l)+4*mu+60)
theorem adh {n a mu bl ml ce l w rl bw:Nat} (h1:1<=bl/\bl<=4) (h2:16<=w/\w<=35) (h3:1<=mu/\mu<=4) (h5:ce<=3) (h6:1<=l/\l<=4) (hn:8<=n/\n<=68) (ha:a<=20) (ais:9<=rl) (ait:rl<=60) (hml1:10<=ml) (hml2:ml<=64) (hbw:bw<=344) {S M B:Nat}
 (hM:M=(2*n+6)*(40*n+ml+2*ce+(64+4*l+w)+(16+rl+4*l)+40)) (hB:B=n*(34+(8*a+6*mu+mu+4+(34*n+bl)+mu+4)+(8*a+6*mu+mu+4)+mu+2)) (hS:S<=48*a+39*mu+50+4*bl+2*ce+n+B) :
 S+2<=M+(bw+3*(64+4*l+w)+2*(16+rl+4*l)+4*mu+60)/\S<=200000/\M+(bw+3*(64+4*l+w)+2*(16+rl+4*l)+4*mu+60)<=1000000:=by
 have hX:40*n+163<=40*n+ml+2*ce+(64+4*l+w)+(16+rl+4*l)+40:=by omega
 have hX2:40*n+ml+2*ce+(64+4*l+w)+(16+rl+4*l)+40<=3100:=by omega
 have hM1:=alE (2*n+6) hX
 have hM2:(2*n+6)*(40*n+ml+2*ce+(64+4*l+w)+(16+rl+4*l)+40)<=142*3100:=akd (by omega) hX2
 rw [<- hM] at hM1 hM2
 have hMe:(2*n+6)*(40*n+163)=80*(n*n)+566*n+978:=by
  rw [ajF,alA,Nat.mul_mul_mul_comm,alA]
  omega
 have hY:34+(8*a+6*mu+mu+4+(34*n+bl)+mu+4)+(8*a+6*mu+mu+4)+mu+2<=34*n+436:=by omega
 have hB1:=alE n hY
 rw [<- hB] at hB1
 have hBe:n*(34*n+436)=34*(n*n)+436*n:=by
  rw [alA,alF,akJ n 436]
 have hnn:8*8<=n*n:=akd hn.1 hn.1
 have hnn2:n*n<=68*68:=akd hn.2 hn.2
 rw [hMe] at hM1
 rw [hBe] at hB1
 clear hM hB hX hX2 hY hMe hBe
 generalize n*n=nn at *
 refine ⟨?_,?_,?_⟩
 ·omega
 ·omega
 ·omega
theorem YN {bl w mu R ce l:Nat} (h1:1<=bl/\bl<=4) (h2:16<=w/\w<=35) (h3:1<=mu/\mu<=4) (h4:1<=R/\R<=5) (h5:ce<=3) (h6:1<=l/\l<=4):EZ mu bl ce R (w/2)+2<=Ja bl w mu R ce l/\EZ mu bl ce R (w/2)<=200000/\Ja bl w mu R ce l<=1000000:=by
 have hw:8<=w/2/\w/2<=17:=by omega
 have hn1:1*8<=bl*(w/2):=akd h1.1 hw.1
 have hn2:bl*(w/2)<=4*17:=akd h1.2 hw.2
 have ha:mu*R<=4*5:=akd h3.2 h4.2
 have ais:1*9<=R*(l+8):=akd h4.1 (by omega)
 have ait:R*(l+8)<=5*12:=akd h4.2 (by omega)
 have hml1:2*1*5<=2*mu*(l+4):=akd (alE 2 h3.1) (by omega)
 have hml2:2*mu*(l+4)<=2*4*8:=akd (alE 2 h3.2) (by omega)
 have hbw:2*bl*(w+8)<=2*4*43:=akd (alE 2 h1.2) (by omega)
 have e1:mu*(8*R+6)=8*(mu*R)+6*mu:=by rw [alA,alF,akJ mu 6]
 have e2:mu*(8*R+5)=8*(mu*R)+5*mu:=by rw [alA,alF,akJ mu 5]
 have e3:bl*(w/2+4)=bl*(w/2)+4*bl:=by rw [alA,akJ bl 4]
 have e4:bl*(34*(w/2)+1)=34*(bl*(w/2))+bl:=by rw [alA,alF,Nat.mul_one]
 refine adh (n:=bl*(w/2)) (a:=mu*R) (rl:=R*(l+8)) (ml:=2*mu*(l+4)) (bw:=2*bl*(w+8)) h1 h2 h3 h5 h6 ⟨by omega,by omega⟩ (by omega) (by omega) (by omega) (by omega) (by omega) (by omega) rfl rfl ?_
 unfold EZ
 simp only [CP.kD,CP.wk,CP.rT,CP.rW,CP.rM,CP.dr,CP.ak]
 rw [e1,e2,e3,e4]
 generalize bl*(w/2)*_=B
 generalize mu*R=a at *
 generalize bl*(w/2)=n at *
 omega
abbrev adQ (x:xE):HS:=xQ (HS.bC x.c.bJ x.c.bJ.b.toNat x.c.bJ.w.toNat x.c.bJ.c.toNat) x.sz x.fl x.ce
abbrev Jb (x:xE):List Nat:=(gG (HS.bC x.c.bJ x.c.bJ.b.toNat x.c.bJ.w.toNat x.c.bJ.c.toNat) x.sz).aQ
structure YO (x:xE):Prop where
 mF:wu x.c.bJ.m.toNat x.c.bJ.b.toNat x.c.bJ.c.toNat 0 (iY x)
 H:(iY x).s.H=adQ x
 aC:(iY x).aC=CS.bC x.c.bJ x.c.bJ.m.toNat
 aW:∀ (i:Nat) (m:MS),(iY x).aG[i]?=some m->m.aW.length<=x.c.bJ.r.toNat
 aQ:(iY x).s.H.aQ=Jb x
 ww:(iY x).s.H.ww=x.c.bJ.w.toNat
 qE:(iY x).s.H.c=x.c.bJ
 dr:rD (iY x).aC
 cells:(iY x).s.H.cells.length=x.c.bJ.c.toNat
theorem aaV (x:xE) (hr:x.rg.length<=20) (hinv:eu (iY x).s.H):YO x:=by
 have hb:=jC (Bv x.c)
 obtain ⟨g,hd⟩:=P8 x hr
 have hH:(iY x).s.H=adQ x:=by rw [g.s]
 have hR:=aeP (HS.bC x.c.bJ x.c.bJ.b.toNat x.c.bJ.w.toNat x.c.bJ.c.toNat) x.sz x.fl x.ce
 have hM:=WT x.sz (HS.bC x.c.bJ x.c.bJ.b.toNat x.c.bJ.w.toNat x.c.bJ.c.toNat)
 have hHb:(iY x).s.H.b=x.c.bJ.b.toNat:=by rw [hH];exact hR.b.trans hM.b
 have hHw:(iY x).s.H.ww=x.c.bJ.w.toNat:=by rw [hH];exact hR.ww.trans hM.ww
 have hHn:(iY x).s.H.bn=(gG (HS.bC x.c.bJ x.c.bJ.b.toNat x.c.bJ.w.toNat x.c.bJ.c.toNat) x.sz).bn:=by rw [hH];exact hR.bn
 have hHc:∀ a,(iY x).s.H.co a=false:=fun a=>by
  rw [hH,hR.co]
  exact hM.co (fun _=>rfl) a
 have ahB:∀ (i:Nat) (m:MS),(iY x).aG[i]?=some m->m.aW.length=x.c.bJ.r.toNat:=fun i m hm=>by
  by_cases hi:1<=i
  ·rw [g.MQ i m hm hi]
   show (ajj x.c.bJ.r.toNat 0).length=_
   simp
  ·have:i=0:=by omega
   subst this
   exact (g.one m hm).2.2.2.2.2.2.2.2.1
 have hB:BI x.c.bJ.m.toNat (iY x).s.B:=by
  rw [g.s]
  refine ⟨rfl,rfl,by omega,fun i hi=>?_⟩
  show (ajj 8 false).getD i false=false
  rw [ajg]
  rcases Nat.lt_or_ge i 8 with g|g
  ·rw [ajh (by simpa using g),alG];rfl
  ·rw [ajK (by simpa using g)];rfl
 have hI:wu x.c.bJ.m.toNat x.c.bJ.b.toNat x.c.bJ.c.toNat 0 (iY x):=by
  refine ⟨by decide,by omega,g.len,by rw [g.aC];rfl,?_,by rw [g.aC];rfl,by rw [g.aC];rfl,by rw [g.aC];rfl,hHb.symm,hinv,fun a _=>hHc a,hB,fun i hi=>?_,fun i m hm=>?_,fun i=>?_,by rw [g.aC];rfl,⟨by rw [g.s];rfl,by rw [g.aC];rfl⟩,?_,by rw [g.aC];rfl,by rw [g.aC];rfl⟩
  ·rw [g.s]
   show (ajj _ []).length=_
   simp
  ·rw [g.s];exact Uw _ _ _ _ _ _ i
  ·by_cases hi:1<=i
   ·rw [g.MQ i m hm hi]
    exact ⟨rfl,aje _,by show 1<=x.c.bJ.l.toNat;omega,rfl,rfl,rfl⟩
   ·have:i=0:=by omega
    subst this
    obtain ⟨o1,o2,o3,o4,o5,o6,o7,o9,o10,o8⟩:=g.one m hm
    have hdn:=hd m hm
    unfold mZ at hdn
    rw [akD] at hdn
    refine ⟨o1,by have:=of_decide_eq_true hdn.2;omega,by rw [o2];omega,o5,o6,S9 hdn.1⟩
  ·rw [g.s]
   show (ajj _ []).getD i []=[]
   rw [ajg]
   rcases Nat.lt_or_ge i x.c.bJ.m.toNat with g|g
   ·rw [ajh (by simpa using g),alG];rfl
   ·rw [ajK (by simpa using g)];rfl
  ·rw [g.s]
   refine ⟨fun k=>?_,rfl,rfl⟩
   show ([[],[],[],[]]:List (List Int)).getD k []=[]
   match k with
   | 0=>rfl
   | 1=>rfl
   | 2=>rfl
   | 3=>rfl
   | k+4=>rfl
 refine ⟨hI,hH,g.aC,fun i m hm=>Nat.le_of_eq (ahB i m hm),?_,hHw,?_,?_,?_⟩
 ·unfold HS.aQ
  rw [hHn]
  congr 1
  unfold HS.sz
  rw [hHb,hHw,hM.b,hM.ww];rfl
 ·rw [hH,hR.c,hM.c];rfl
 ·rw [g.aC]
  show 0<=_
  exact aki _
 ·rw [hH,hR.cl,hM.cells]
  show (ajj _ 0).length=_
  simp
end
section
attribute [local go_sem ↓] nD
attribute [local go_sem] Oper.semAt_some
open Go.RowKit
def DY (ev:Option Ev) (fr:List Nat):List Nat:=match ev with
 | some e=>if e.kind=5 then fr++[e.value] else fr
 | none=>fr
def Nb (ev:Option Ev):Bool:=match ev with
 | some e=>e.kind==4
 | none=>false
def jT (ph:List Nat) (q:Nat):List Nat:=if q≠ph.getLastD 0 then ph++[q] else ph
def gZ (n:Nat) (x:WS):WS:=eY (dI n x) n
def oJ (n:Nat) (x:WS):Option Ev:=(dX (dI n x).s (dI n x).aC).ev
def mG (n:Nat):Nat->WS->List Nat->List Nat->List Nat × List Nat × Bool × WS
 | 0,x,fr,ph=>(fr,ph,false,x)
 | f+1,x,fr,ph =>
   if Nb (oJ n x) then (DY (oJ n x) fr,jT ph (gZ n x).aC.phase,true,gZ n x)
   else mG n f (gZ n x) (DY (oJ n x) fr) (jT ph (gZ n x).aC.phase)
def Ux:List Nat:=[1,2,3,4,5,40,98,99,10,11,12,13,14,15,16,17,20,21,22,23,24,25,26,27,30,31,32,33,34,35,36,37]
theorem aaW:∀ i,i<8->∀ a∈eH i,a∈Ux:=by decide
theorem aaX:∀ a∈dD,a∈Ux:=by decide
def qy (i:Nat) (o:Ow) (w:World) (v:Value) (l:List Nat):Prop:=w.ownsRow 0 3 1 v l.length (aS l)/\∀ b,v.ownBlock=some b->o b=i
structure CX (W0:World) (o0:Ow) (W:World) (o:Ow):Prop where
 e:bZ W0 o0 o
 k:aj (In o0 Ux) W0 W
section
variable {o o' o0:Ow} {w w' W W' W0:World} {G:fU} {gs:List MG} {q:CG} {x y:WS} {v:Value} {N i n:Nat} {l:List Nat} {I:List Nat}
theorem CX.refl (W:World) (o:Ow):CX W o W o:=⟨bZ.refl _ _,aj.refl _ _⟩
theorem CX.step (h:CX W0 o0 W o) (k:aj (In o I) W W') (e:bZ W o o') (hI:∀ a∈I,a∈Ux):CX W0 o0 W' o' :=
 ⟨h.e.trans h.k.size e,h.k.KN ((k.mono (fun b _ hb=>hI _ hb)):aj (In o Ux) W W') h.e⟩
theorem CX.row (h:CX W0 o0 W o) {T:TypeId} {xs:List Value} (hr:dH o0 W0 T v xs):dH o W T v xs:=(hr.ext h.e).bg (h.k.yF h.e) rfl
theorem qy.aK (h:qy i o W v l) (k:aj (In o I) W W') (hI:I.contains i=false) (e:bZ W o o'):qy i o' W' v l:=by
 refine ⟨gK h.1 k (fun b hb=>dR (h.2 b hb) hI),fun b hb=>?_⟩
 obtain ⟨cur,hc⟩:=nG h.1 hb
 exact (e b (lt_of_block hc)).trans (h.2 b hb)
theorem qy.form (h:qy i o W v l):∃ a c,v = .slice a l.length c/\∀ (j:Nat) u,l[j]?=some u->∃ b,a=some ⟨b,0,none⟩/\W.cell? ⟨b,j,none⟩=some (ah (u:Int)):=by
 obtain ⟨a,c,rfl,_,_,_,hc⟩:=gy h.1
 refine ⟨a,c,rfl,fun j u hj=>?_⟩
 obtain ⟨b,e,hb,_⟩:=hc j (ah (u:Int)) (by unfold aS;rw [List.getElem?_map,hj];rfl)
 exact ⟨b,e,hb⟩
theorem qy.nil (i:Nat) (o:Ow) (W:World):qy i o W (.slice none 0 0) []:=⟨⟨rfl,.inl ⟨rfl,rfl⟩⟩,fun b hb=>by cases hb⟩
theorem CW.own (h:CW w W o G gs q x) (k:aj aB W W') (hN:W.heap.size<=N) (hN2:N<W'.heap.size) (i:Nat):CW w W' (o.put N i) G gs q x/\bZ W o (o.put N i):=by
 have e:bZ W o (o.put N i):=Ow.pF (.inl hN)
 exact ⟨h.DJ (I:=[]) k.bV rfl e (Ow.um h.aC.sh.iV k.size hN2),e⟩
theorem YP {cs:List Value} {T:TypeId} (hb:aF W N cs T) (h0:cs.length<=1000):W.ownsRow 0 T 1 (.slice (some ⟨N,0,none⟩) cs.length cs.length) cs.length cs:=by
 refine ⟨by simp,.inr ⟨N,cs.length,cs.toArray,rfl,aki _,hb,aje _,?_,by simp,by simp⟩⟩
 have:maxLen=9223372036854775807:=rfl
 omega
theorem qy.bC (o:Ow) (i u N:Nat) (hb:aF W N [ah (u:Int)] 3):qy i (o.put N i) W (.slice (some ⟨N,0,none⟩) 1 1) [u]:=by
 refine ⟨YP hb (by show 1<=1000;omega),fun b hb=>?_⟩
 simp [Value.ownBlock] at hb
 rw [<- hb]
 exact Ow.qW _ _ _
theorem qy.grow (h:qy i o W v l) (hc:CW w W o G gs q x) (hi:50<=i) {N u:Nat} (hN:W.cell? ⟨N,0,none⟩=some (ah (u:Int))) (hl:l.length<=100000000000):∃ b aO W5,(app9 #[32,32] 32 #[v,.slice (some ⟨N,0,none⟩) 1 1]).run aA W = .ok (.slice (some ⟨b,0,none⟩) (l.length+1) aO) W5 /\
 ∃ o',bZ W o o'/\CW w W5 o' G gs q x/\qy i o' W5 (.slice (some ⟨b,0,none⟩) (l.length+1) aO) (l++[u])/\aj (In o [i]) W W5:=by
 obtain ⟨b,aO,W5,hrun,hown,hgr,hq⟩:=uJ (P:=aA) W 32 32 3 (by kernel_rfl) Tryz.infoInt rfl h.1 (N:=N) (u := ah (u:Int)) hN rfl (by decide) (by omega)
 have k:aj (In o [i]) W W5:=⟨hgr.os,hgr.tape,hgr.output,hgr.size,fun y hy hn=>hgr.block y hy (fun e=>hn (by
  have e':v.ownBlock=some y:=by first|exact e|exact e.symm
  unfold In
  rw [h.2 y e']
  simp))⟩
 have e:bZ W o (o.put b i):=by
  rcases hq with hq|hq
  ·exact Ow.pF (.inr (h.2 b hq))
  ·exact Ow.pF (.inl hq)
 have hlt:b<W5.heap.size:=by
  rcases hown.2 with ⟨e1,_⟩|⟨g',cap',cur,e1,_,hg',_⟩
  ·cases e1
  ·cases e1;exact lt_of_block hg'
 have hf:kJ (o.put b i) W5:=Ow.um hc.aC.sh.iV k.size hlt
 have hall:[i].all (fun i=>decide (50<=i))=true:=by simp;exact hi
 refine ⟨b,aO,W5,hrun,o.put b i,e,hc.DJ k hall e hf,⟨?_,fun b' hb'=>?_⟩,k⟩
 ·have e3:aS (l++[u])=aS l++[ah (u:Int)]:=by unfold aS;simp
  rw [e3,alm]
  exact hown
 ·simp [Value.ownBlock] at hb'
  rw [<- hb']
  exact Ow.qW _ _ _
theorem Qa (n:Nat) (x:WS):(dI n x).aG.length=x.aG.length:=by
 induction n with
 | zero=>rfl
 | succ n ih =>
   rw [<- ih]
   show (eY (dI n x) n).aG.length=_
   unfold eY
   cases hm:(dI n x).aG[n]? with
   | some m =>
     simp only
     rw [(WS.xA _ _).2.1]
     simp
   | none =>
     simp only
     split
     ·rw [(WS.xA _ _).2.1]
     ·rw [(WS.xA _ _).2.1]
end
section
variable {o o' o0:Ow} {w w' W W' W0:World} {G:fU} {gs:List MG} {q:CG} {x y:WS} {v:Value} {N i n:Nat} {l:List Nat} {I:List Nat}
structure nO (w W0:World) (o0:Ow) (G:fU) (gs:List MG) (q:CG) (mv:Value) (N:Nat) (W:World) (o:Ow) (x:WS) (fv pv:Value) (fr ph:List Nat):Prop where
 cw:CW w W o G gs q x
 ok:uQ N x
 Iy:yY x
 cx:CX W0 o0 W o
 mv:lG o W mv gs
 f:qy 98 o W fv fr
 p:qy 99 o W pv ph
theorem nO.still {mv fv pv:Value} {fr ph:List Nat} (h:nO w W0 o0 G gs q mv N W o x fv pv fr ph) (k:aj aB W W'):nO w W0 o0 G gs q mv N W' o x fv pv fr ph :=
 ⟨h.cw.yR k,h.ok,h.Iy,h.cx.step (I:=[]) k.bV (bZ.refl _ _) (fun _ ha=>by cases ha),h.mv.aK (I:=[]) k.bV rfl (bZ.refl _ _),h.f.aK (I:=[]) k.bV rfl (bZ.refl _ _),h.p.aK (I:=[]) k.bV rfl (bZ.refl _ _)⟩
theorem nO.pick {mv fv pv:Value} {fr ph:List Nat} (h:nO w W0 o0 G gs q mv N W o x fv pv fr ph) (hN:N<=1000000000) {i:Nat} {g:MG} {m:MS} (hg:gs[i]?=some g) (hm:x.aG[i]?=some m):Calls aA 24 #[au g.M] W fun e W'=>(∃ v1 v2,e = .returned (.tuple #[v1,v2]))/\∃ o',nO w W0 o0 G gs q mv (N+1) W' o' (eY x i) fv pv fr ph:=by
 have hi8:i<8:=by
  obtain ⟨g1,g2⟩:=h.cw.gW i g m hg hm
  have:=g1.mF;omega
 have hsub:=aaW i hi8
 have h98:(eH i).contains 98=false:=by simp [eH];omega
 have h99:(eH i).contains 99=false:=by simp [eH];omega
 have h97:(eH i).contains 97=false:=by simp [eH];omega
 refine (h.cw.pick h.ok hN hg hm (PX _ (h.Iy m (List.mem_of_getElem? hm)).1)).mono ?_
 rintro e W' ⟨rfl,o',eo,hc,k⟩
 exact ⟨⟨_,_,rfl⟩,o',hc,FU h.ok h.cw.aC.sh.heap.qV i,Ai h.Iy i,h.cx.step k eo hsub,h.mv.aK k h97 eo,h.f.aK k h98 eo,h.p.aK k h99 eo⟩
theorem nO.aC {mv fv pv:Value} {fr ph:List Nat} (h:nO w W0 o0 G gs q mv N W o x fv pv fr ph) (hN:N<=1000000000):Calls aA 12 #[au q.C] W fun e W'=>e = .returned (.tuple #[vK (dX x.s x.aC).ev,sO (dX x.s x.aC).ev])/\∃ o',nO w W0 o0 G gs q mv (N+1) W' o' (eY x x.aG.length) fv pv fr ph:=by
 refine (h.cw.acP h.ok hN).mono ?_
 rintro e W' ⟨rfl,o',eo,hc,k⟩
 exact ⟨rfl,o',hc,FU h.ok h.cw.aC.sh.heap.qV _,Ai h.Iy _,h.cx.step k eo aaX,h.mv.aK k rfl eo,h.f.aK k rfl eo,h.p.aK k rfl eo⟩
theorem nO.QU {mv fv pv:Value} {fr ph:List Nat} (h:nO w W0 o0 G gs q mv N W o x fv pv fr ph) {M u:Nat} (hM:W.cell? ⟨M,0,none⟩=some (ah (u:Int))) (hl:ph.length<=100000000000):∃ b aO W5,(app9 #[32,32] 32 #[pv,.slice (some ⟨M,0,none⟩) 1 1]).run aA W = .ok (.slice (some ⟨b,0,none⟩) (ph.length+1) aO) W5 /\
 ∃ o',nO w W0 o0 G gs q mv N W5 o' x fv (.slice (some ⟨b,0,none⟩) (ph.length+1) aO) fr (ph++[u])/\aj (In o [99]) W W5/\bZ W o o':=by
 obtain ⟨b,aO,W5,hrun,o',eo,hc,hp,k⟩:=h.p.grow h.cw (by decide) hM hl
 refine ⟨b,aO,W5,hrun,o',?_,k,eo⟩
 exact ⟨hc,h.ok,h.Iy,h.cx.step k eo (by decide),h.mv.aK k rfl eo,h.f.aK k rfl eo,hp⟩
theorem nO.adR {mv fv pv:Value} {fr ph:List Nat} (h:nO w W0 o0 G gs q mv N W o x fv pv fr ph) {M u:Nat} (hM:W.cell? ⟨M,0,none⟩=some (ah (u:Int))) (hl:fr.length<=100000000000):∃ b aO W5,(app9 #[32,32] 32 #[fv,.slice (some ⟨M,0,none⟩) 1 1]).run aA W = .ok (.slice (some ⟨b,0,none⟩) (fr.length+1) aO) W5 /\
 ∃ o',nO w W0 o0 G gs q mv N W5 o' x (.slice (some ⟨b,0,none⟩) (fr.length+1) aO) pv (fr++[u]) ph/\aj (In o [98]) W W5:=by
 obtain ⟨b,aO,W5,hrun,o',eo,hc,hp,k⟩:=h.f.grow h.cw (by decide) hM hl
 refine ⟨b,aO,W5,hrun,o',?_,k⟩
 exact ⟨hc,h.ok,h.Iy,h.cx.step k eo (by decide),h.mv.aK k rfl eo,hp,h.p.aK k rfl eo⟩
theorem nO.more {mv fv pv:Value} {fr ph:List Nat} {M:Nat} (h:nO w W0 o0 G gs q mv N W o x fv pv fr ph) (hM:N<=M):nO w W0 o0 G gs q mv M W o x fv pv fr ph:=⟨h.cw,h.ok.more hM,h.Iy,h.cx,h.mv,h.f,h.p⟩
theorem Kw (x:WS):eY x (x.aG.length+1)={ x with aC:={ x.aC with jM:=true },nS:=x.nS+1 }:=by
 unfold eY
 rw [ajK (by omega)]
 simp only
 rw [aT (by omega)]
 rfl
theorem agA {ph:List Nat} {k:Nat} (h:ph≠[]):∃ u,ph[ph.length - 1]?=some u/\jT ph k=if k≠u then ph++[k] else ph:=by
 obtain ⟨l,a,rfl⟩:=(List.eq_nil_or_concat ph).resolve_left h
 refine ⟨a,?_,?_⟩
 ·simp
 ·unfold jT
  rw [List.concat_eq_append,List.getLastD_concat]
theorem yx {ph:List Nat} {k:Nat} (h:ph≠[]):jT ph k≠[]/\(jT ph k).length<=ph.length+1:=by
 unfold jT
 split
 ·exact ⟨by simp,by simp⟩
 ·exact ⟨h,aju _⟩
def YQ (w W0:World) (o0:Ow) (G:fU) (gs:List MG) (q:CG) (mv:Value) (N most:Nat) (x:WS) (e:Ending) (W':World):Prop :=
 ∃ (fv pv:Value) (o':Ow),e = .returned (.tuple #[fv,pv,.bool (mG gs.length most (eY x (x.aG.length+1)) [] [x.aC.phase]).2.2.1])/\nO w W0 o0 G gs q mv (N+1+most*(gs.length+1)) W' o' (mG gs.length most (eY x (x.aG.length+1)) [] [x.aC.phase]).2.2.2 fv pv (mG gs.length most (eY x (x.aG.length+1)) [] [x.aC.phase]).1 (mG gs.length most (eY x (x.aG.length+1)) [] [x.aC.phase]).2.1
theorem Qb {mv:Value} (h:CW w W o G gs q x) (ok:uQ N x) (hfew:yY x) (hmv:lG o W mv gs) (most:Nat) (hN:N+1+most*9<=1000000000):Calls aA 27 #[au q.C,mv,ah (most:Int)] W (YQ w W o G gs q mv N most x):=by
 obtain ⟨ma,mc,rfl,_⟩:=hmv.form
 have hlen:=h.len
 obtain ⟨n,hn⟩:∃ n,n=gs.length:=⟨_,rfl⟩
 rw [<- hn] at hmv
 have hn8:n<=8:=by
  rcases Nat.eq_zero_or_pos n with e|e
  ·omega
  ·obtain ⟨g,hg⟩:∃ g,gs[n - 1]?=some g:=⟨gs[n - 1]'(by omega),ajh _⟩
   obtain ⟨m,hm⟩:∃ m,x.aG[n - 1]?=some m:=⟨x.aG[n - 1]'(by omega),ajh _⟩
   obtain ⟨g1,g2⟩:=h.gW (n - 1) g m hg hm
   have:=g1.mF;omega
 have hmul:most*(n+1)<=most*9:=alE _ (by omega)
 have HPH:Hid (Calls aA 17 #[au q.C] W fun e w'=>e = .returned (ah (x.aC.phase:Int))/\W=w'):=wR h.aC
 have hW1:∀ W1,W1=W.alloc (.cells #[ah (x.aC.phase:Int)] 3)->nO w W o G gs q (.slice ma n mc) N W1 (o.put W.heap.size 99) x (.slice none 0 0) (.slice (some ⟨W.heap.size,0,none⟩) 1 1) [] [x.aC.phase]:=fun W1 hW1=>by
  have k1:aj aB W W1:=by rw [hW1];exact (aj.refl _ _).alloc _
  have hb:aF W1 W.heap.size [ah (x.aC.phase:Int)] 3:=by rw [hW1];exact aF.bC W _ _
  obtain ⟨c1,c2⟩:=h.own k1 (aje _) hb.lt 99
  exact ⟨c1,ok,hfew,(CX.refl W o).step (I:=[]) k1.bV c2 (fun _ ha=>by cases ha),hmv.aK (I:=[]) k1.bV rfl c2,qy.nil 98 _ _,qy.bC o 99 x.aC.phase W.heap.size hb⟩
 have Qc:Hid (∀ W1,W1=W.alloc (.cells #[ah (x.aC.phase:Int)] 3)->Calls aA 14 #[au q.C] W1 fun e w'=>e = .returned (.tuple #[])/\∃ o',nO w W o G gs q (.slice ma n mc) (N+1) w' o' (eY x (x.aG.length+1)) (.slice none 0 0) (.slice (some ⟨W.heap.size,0,none⟩) 1 1) [] [x.aC.phase]):=fun W1 e1=>by
  have hs:=hW1 W1 e1
  refine hs.cw.jM.mono ?_
  rintro e w' ⟨rfl,hc,k⟩
  exact ⟨rfl,_,hc,FU ok h.aC.sh.heap.qV _,Ai hfew _,hs.cx.step k (bZ.refl _ _) (by decide),hs.mv.aK k rfl (bZ.refl _ _),hs.f.aK k rfl (bZ.refl _ _),hs.p.aK k rfl (bZ.refl _ _)⟩
 have uy:Hid (∀ W' (fv pv:Value) (fr ph:List Nat) (okk:Bool) (z:WS) (o':Ow),mG n most (eY x (x.aG.length+1)) [] [x.aC.phase]=(fr,ph,okk,z)->nO w W o G gs q (.slice ma n mc) (N+1+most*(n+1)) W' o' z fv pv fr ph->YQ w W o G gs q (.slice ma n mc) N most x (.returned (.tuple #[fv,pv,.bool okk])) W'):=fun W' fv pv fr ph okk z o' e hs=>by
  unfold YQ
  rw [<- hn,e]
  exact ⟨fv,pv,o',rfl,hs⟩
 have hml:∀ j,(dI j (eY x (x.aG.length+1))).aG.length=n:=fun j=>by
  rw [Qa,Kw];exact hlen.symm.trans hn.symm
 have HNL:Hid (n=gs.length):=hn
 have aiu:(eY x (x.aG.length+1)).aG.length=n:=hml 0
 rw [<- hn]
 generalize YQ w W o G gs q (.slice ma n mc) N most x=PO at *
 generalize hx0:eY x (x.aG.length+1)=x0 at *
 clear h ok hfew hmv hlen hW1 hml hn
 go_enter func27,ntmps27
 go_wp2_with fail
 refine HPH.out.mono ?_
 rintro e w1 ⟨rfl,rfl⟩
 obtain ⟨W1,hW1⟩:∃ W1,W1=W.alloc (.cells #[ah (x.aC.phase:Int)] 3):=⟨_,rfl⟩
 have HW1:=ay hW1
 have agB:=ay (Qc.out W1 hW1)
 clear hW1 Qc HPH
 go_wp2_with fail
 rw [<- HW1.out]
 refine agB.out.mono ?_
 rintro e w2 ⟨rfl,o2,hs2⟩
 have HS2:=ay hs2
 clear hs2 agB HW1
 go_wp2_with fail
 go_loopw [9,10,11,12,13,14,15] (fun fv pv iv _ _ _ _ wr=>∃ (t:Nat) (z:WS) (fr ph:List Nat) (o':Ow) (fv' pv':Value),fv'=fv/\pv'=pv/\t<=most/\iv = ah t/\nO w W o G gs q (.slice ma n mc) (N+1+t*(n+1)) wr o' z fv pv fr ph/\ph≠[]/\fr.length<=t/\ph.length<=t+1/\z.aG.length=n/\mG n (most - t) z fr ph=mG n most x0 [] [x.aC.phase]) (fun _ _ iv _ _ _ _ _=>most - (intOf iv).toNat)
 case atStart=>exact ⟨0,x0,[],[x.aC.phase],o2,_,_,rfl,rfl,aki _,rfl,HS2.out.more (by omega),by simp,aje _,aje _,aiu,rfl⟩
 case round =>
  obtain ⟨t,z,fr,ph,o3,fv,pv,hfv,hpv,ht,rfl,hs,rC,hfl,hpl,hzl,hrun⟩:=hrel
  subst hfv hpv
  have hm1:t*(n+1)<=most*(n+1):=ajE _ ht
  by_cases htm:t<most
  ·have htI : (t:Int)<(most:Int):=by omega
   have hm2:(t+1)*(n+1)<=most*(n+1):=ajE _ htm
   rw [ajF,Nat.one_mul] at hm2
   have TJ:Hid (N+1+(t+1)*(n+1)<=N+1+most*(n+1)):=Nat.add_le_add_left (ajE _ htm) _
   have zq:Hid (N+1+t*(n+1)+(n+1)<=1000000000):=by show _<=_;omega
   have HS:=ay hs
   have HT:Hid (ph≠[]/\fr.length<=t/\ph.length<=t+1/\mG n (most - t) z fr ph=mG n most x0 [] [x.aC.phase]):=⟨rC,hfl,hpl,hrun⟩
   have JA:Hid (∀ j,(dI j z).aG.length=n):=fun j=>(Qa j z).trans hzl
   clear hs rC hfl hpl hrun hm1 hm2 hzl
   go_wp2_with fail
   go_loopw [12] (fun iv wr=>∃ (j:Nat) (o':Ow),j<=n/\iv = ah j/\nO w W o G gs q (.slice ma n mc) (N+1+t*(n+1)+j) wr o' (dI j z) fv pv fr ph) (fun iv _=>n - (intOf iv).toNat)
   case atStart=>exact ⟨0,o3,aki _,rfl,HS.out⟩
   case round =>
    obtain ⟨j,o4,hj,rfl,hs⟩:=hrel
    by_cases hjn:j<n
    ·have ZM:(j:Int)<(n:Int):=by omega
     have hj0:(0:Int)<=(j:Int):=by omega
     obtain ⟨g0,hg0⟩:∃ g,gs[j]?=some g:=⟨gs[j]'(by have:=HNL.out;omega),ajh _⟩
     obtain ⟨m0,hm0⟩:∃ m,(dI j z).aG[j]?=some m:=⟨(dI j z).aG[j]'(by have:=JA.out j;omega),ajh _⟩
     obtain ⟨a',c',e1,hform⟩:=hs.mv.form
     rw [<- HNL.out] at e1
     cases e1
     obtain ⟨bA,e2,hcA⟩:=hform j g0 hg0
     have Us:=ay (hs.pick (by have:=zq.out;omega) hg0 hm0)
     cases e2
     clear hs hform hg0 hm0
     go_wp2_with fail
     refine Us.out.mono ?_
     rintro e w5 ⟨⟨v1,v2,rfl⟩,o5,hs5⟩
     have DN:=ay hs5
     clear hs5 Us hcA
     go_wp2_with fail
     exact ⟨⟨j+1,o5,by omega,by go_num,DN.out⟩,by simp [intOf];omega⟩
    ·obtain rfl:j=n:=by omega
     have ZM:¬ (j:Int)<(j:Int):=by omega
     obtain ⟨y,hy⟩:∃ y,y=dI j z:=⟨_,rfl⟩
     have hyl:y.aG.length=j:=by rw [hy];exact JA.out j
     have Hr:Hid (Calls aA 12 #[au q.C] wr fun e W'=>e = .returned (.tuple #[vK (oJ j z),sO (oJ j z)])/\∃ o',nO w W o G gs q (.slice ma j mc) (N+1+(t+1)*(j+1)) W' o' (gZ j z) fv pv fr ph):=by
      have h1:=hs.aC (by have:=zq.out;omega)
      rw [JA.out j] at h1
      refine h1.mono ?_
      rintro e W' ⟨e1,o',h2⟩
      exact ⟨e1,o',h2.more (by rw [ajF t 1];omega)⟩
     have Iz:Hid (mG j (most - t) z fr ph=if Nb (oJ j z) then (DY (oJ j z) fr,jT ph (gZ j z).aC.phase,true,gZ j z) else mG j (most - (t+1)) (gZ j z) (DY (oJ j z) fr) (jT ph (gZ j z).aC.phase)):=by
      show _=_
      rw [show most - t=(most - (t+1))+1 by omega]
      rfl
     have hrl:(gZ j z).aG.length=j:=by
      have h2:=JA.out j
      show (eY (dI j z) j).aG.length=j
      unfold eY
      rw [ajK (by omega)]
      simp only
      split
      ·rw [(WS.xA _ _).2.1];exact h2
      ·rw [(WS.xA _ _).2.1];exact h2
     obtain ⟨u,hu,hpn⟩:=agA (k:=(gZ j z).aC.phase) HT.out.1
     have AX:=ay hpn
     clear hs hy hyl hpn JA y
     generalize hev:oJ j z=ev at *
     generalize hzz:gZ j z=z2 at *
     clear hev hzz
     go_wp2_with fail
     refine Hr.out.mono ?_
     rintro e w6 ⟨rfl,o6,hs6⟩
     cases ev with
     | none =>
       have hag:vK none = .agg #[ah 0,ah 0,ah 0,ah 0,ah 0,ah 0]:=rfl
       have htl:sO none = .bool false:=rfl
       rw [hag,htl]
       obtain ⟨W7,zf⟩:∃ W7,W7=w6.alloc (.cells #[ah 0,ah 0,ah 0,ah 0,ah 0,ah 0] 37):=⟨_,rfl⟩
       have k7:aj aB w6 W7:=by rw [zf];exact (aj.refl _ _).alloc _
       have hb7:aF W7 w6.heap.size [ah 0,ah 0,ah 0,ah 0,ah 0,ah 0] 37:=by rw [zf];exact aF.bC w6 _ _
       have ho7:o6 w6.heap.size=0:=hs6.cw.aC.sh.iV _ (aje _)
       have hs7:=hs6.still k7
       have Dl:Hid (Calls aA 17 #[au q.C] W7 fun e w'=>e = .returned (ah (z2.aC.phase:Int))/\W7=w'):=wR hs7.cw.aC
       have wC:=ay hs7
       have rE:=ay hb7
       have IB:=ay zf
       have wE:=ay ho7
       clear hs6 hs7 hb7 k7 zf ho7 Hr
       go_wp2_with fail
       rw [<- IB.out]
       refine Dl.out.mono ?_
       rintro e w8 ⟨rfl,rfl⟩
       obtain ⟨ap,cp,e3,hpf⟩:=wC.out.p.form
       have hpp:0<ph.length:=akM.2 HT.out.1
       obtain ⟨d,hd⟩:∃ d,ph.length=d+1:=⟨ph.length - 1,by omega⟩
       obtain ⟨bp,e4,hcp⟩:=hpf (ph.length - 1) u hu
       rw [show ph.length - 1=d by omega] at hcp
       cases e4
       rw [hd] at e3
       cases e3
       have ht9:t<=1000000000:=by have:=zq.out;have hm3:t<=t*(j+1):=alH _ (by omega);omega
       have hdI:(d:Int)<=1000000000:=by have:=HT.out.2.2.1;have:=zq.out;have hm3:t<=t*(j+1):=alH _ (by omega);omega
       have hd0:(0:Int)<=(d:Int):=by omega
       have HD:=ay hd
       clear hpf Dl IB hpp hd
       generalize hpq:z2.aC.phase=pk at *
       by_cases hk:pk=u
       ·subst hk
        have hpn2:jT ph pk=ph:=by rw [AX.out,aT (by simp)]
        have HST:Hid (nO w W o G gs q (.slice ma j mc) (N+1+(t+1)*(j+1)) W7 o6 z2 fv (.slice (some ⟨bp,0,none⟩) (d+1) cp) fr (jT ph pk)):=by show nO _ _ _ _ _ _ _ _ _ _ _ _ _ _ _;rw [hpn2];exact wC.out
        have y2:=rE.out.cell 2 rfl
        have y5:=rE.out.cell 5 rfl
        have HQ:Hid (jT ph pk≠[]/\(jT ph pk).length<=ph.length+1):=yx HT.out.1
        have Ak:=rE
        have Nc:=wE
        clear hpn2 AX rE wE wC
        go_wp2_with fail
        exact ⟨⟨t+1,z2,fr,jT ph pk,_,_,_,rfl,rfl,by omega,by go_num,HST.out,HQ.out.1,by have:=HT.out.2.1;omega,by have:=HT.out.2.2.1;have:=HQ.out.2;omega,hrl,by rw [<- HT.out.2.2.2,Iz.out];rfl⟩,by simp [intOf];omega⟩
       ·have hkN:decide (pk=u)=false:=gJ hk
        have hpn2:jT ph pk=ph++[pk]:=by rw [AX.out,aZ hk]
        obtain ⟨W9,pW⟩:∃ W9,W9=W7.alloc (.cells #[ah (pk:Int)] 3):=⟨_,rfl⟩
        have k9:aj aB W7 W9:=by rw [pW];exact (aj.refl _ _).alloc _
        have hb9:aF W9 W7.heap.size [ah (pk:Int)] 3:=by rw [pW];exact aF.bC W7 _ _
        obtain ⟨b10,cap10,vS,hrun10,o10,hs10,k10,eo10⟩:=(wC.out.still k9).QU (hb9.cell 0 rfl) (by have:=HT.out.2.2.1;have:=zq.out;have hm3:t<=t*(j+1):=alH _ (by omega);omega)
        rw [pW,HD.out] at hrun10
        rw [HD.out] at hs10
        have Ak:Hid (aF vS w6.heap.size [ah 0,ah 0,ah 0,ah 0,ah 0,ah 0] 37):=k10.aH (k9.aH rE.out (fun f=>f)) (dR wE.out rfl)
        have Nc:Hid (o10 w6.heap.size=0):=(eo10 _ (k9.aH rE.out (fun f=>f)).lt).trans wE.out
        have HST:Hid (nO w W o G gs q (.slice ma j mc) (N+1+(t+1)*(j+1)) vS o10 z2 fv (.slice (some ⟨b10,0,none⟩) (d+1+1) cap10) fr (jT ph pk)):=by show nO _ _ _ _ _ _ _ _ _ _ _ _ _ _ _;rw [hpn2];exact hs10
        have y2:=Ak.out.cell 2 rfl
        have y5:=Ak.out.cell 5 rfl
        have HQ:Hid (jT ph pk≠[]/\(jT ph pk).length<=ph.length+1):=yx HT.out.1
        clear hpn2 AX k9 hb9 hs10 k10 eo10 pW rE wE wC
        go_wp2_with fail
        exact ⟨⟨t+1,z2,fr,jT ph pk,_,_,_,rfl,rfl,by omega,by go_num,HST.out,HQ.out.1,by have:=HT.out.2.1;omega,by have:=HT.out.2.2.1;have:=HQ.out.2;omega,hrl,by rw [<- HT.out.2.2.2,Iz.out];rfl⟩,by simp [intOf];omega⟩
     | some e =>
       by_cases hk5:e.kind=5
       ·have AV:Hid (Nb (some e)=false/\DY (some e) fr=fr++[e.value]):=⟨by show (e.kind==4)=false;rw [hk5];rfl,by show (if e.kind=5 then _ else _)=_;rw [aZ hk5]⟩
        have hag:vK (some e) = .agg #[ah 0,ah (e.qX:Int),ah 5,ah (e.op:Int),ah e.code,ah (e.value:Int)]:=by
         show Value.agg #[ah 0,ah (e.qX:Int),ah (e.kind:Int),ah (e.op:Int),ah e.code,ah (e.value:Int)]=_
         rw [hk5];rfl
        have htl:sO (some e) = .bool true:=rfl
        rw [hag,htl]
        obtain ⟨W7,zf⟩:∃ W7,W7=w6.alloc (.cells #[ah 0,ah (e.qX:Int),ah 5,ah (e.op:Int),ah e.code,ah (e.value:Int)] 37):=⟨_,rfl⟩
        have k7:aj aB w6 W7:=by rw [zf];exact (aj.refl _ _).alloc _
        have hb7:aF W7 w6.heap.size [ah 0,ah (e.qX:Int),ah 5,ah (e.op:Int),ah e.code,ah (e.value:Int)] 37:=by rw [zf];exact aF.bC w6 _ _
        have ho7:o6 w6.heap.size=0:=hs6.cw.aC.sh.iV _ (aje _)
        have hs7:=hs6.still k7
        have Dl:Hid (Calls aA 17 #[au q.C] W7 fun e w'=>e = .returned (ah (z2.aC.phase:Int))/\W7=w'):=wR hs7.cw.aC
        have wC:=ay hs7
        have rE:=ay hb7
        have IB:=ay zf
        have wE:=ay ho7
        clear hs6 hs7 hb7 k7 zf ho7 Hr
        go_wp2_with fail
        rw [<- IB.out]
        refine Dl.out.mono ?_
        rintro e w8 ⟨rfl,rfl⟩
        obtain ⟨ap,cp,e3,hpf⟩:=wC.out.p.form
        have hpp:0<ph.length:=akM.2 HT.out.1
        obtain ⟨d,hd⟩:∃ d,ph.length=d+1:=⟨ph.length - 1,by omega⟩
        obtain ⟨bp,e4,hcp⟩:=hpf (ph.length - 1) u hu
        rw [show ph.length - 1=d by omega] at hcp
        cases e4
        rw [hd] at e3
        cases e3
        have ht9:t<=1000000000:=by have:=zq.out;have hm3:t<=t*(j+1):=alH _ (by omega);omega
        have hdI:(d:Int)<=1000000000:=by have:=HT.out.2.2.1;have:=zq.out;have hm3:t<=t*(j+1):=alH _ (by omega);omega
        have hd0:(0:Int)<=(d:Int):=by omega
        have HD:=ay hd
        clear hpf Dl IB hpp hd
        generalize hpq:z2.aC.phase=pk at *
        by_cases hk:pk=u
        ·subst hk
         have hpn2:jT ph pk=ph:=by rw [AX.out,aT (by simp)]
         have HST:Hid (nO w W o G gs q (.slice ma j mc) (N+1+(t+1)*(j+1)) W7 o6 z2 fv (.slice (some ⟨bp,0,none⟩) (d+1) cp) fr (jT ph pk)):=by show nO _ _ _ _ _ _ _ _ _ _ _ _ _ _ _;rw [hpn2];exact wC.out
         have y2:=rE.out.cell 2 rfl
         have y5:=rE.out.cell 5 rfl
         have HQ:Hid (jT ph pk≠[]/\(jT ph pk).length<=ph.length+1):=yx HT.out.1
         have Ak:=rE
         have Nc:=wE
         clear hpn2 AX rE wE wC
         obtain ⟨AY,Gh⟩:∃ AY,AY=W7.alloc (.cells #[ah (e.value:Int)] 3):=⟨_,rfl⟩
         have k11:aj aB W7 AY:=by rw [Gh];exact (aj.refl _ _).alloc _
         have hb11:aF AY W7.heap.size [ah (e.value:Int)] 3:=by rw [Gh];exact aF.bC W7 _ _
         obtain ⟨b12,cap12,Am,hrun12,o12,hs12,k12⟩:=(HST.out.still k11).adR (hb11.cell 0 rfl) (by have:=HT.out.2.1;omega)
         have y2b:=(k12.aH (k11.aH Ak.out (fun f=>f)) (dR Nc.out rfl)).cell 2 rfl
         rw [Gh] at hrun12
         have adi:=ay hs12
         clear Gh k11 hb11 hs12 k12 HST
         go_wp2_with fail
         exact ⟨⟨t+1,z2,fr++[e.value],jT ph pk,_,_,_,rfl,rfl,by omega,by go_num,adi.out,HQ.out.1,by have:=HT.out.2.1;simp;omega,by have:=HT.out.2.2.1;have:=HQ.out.2;omega,hrl,by rw [<- HT.out.2.2.2,Iz.out,AV.out.1,AV.out.2];rfl⟩,by simp [intOf];omega⟩
        ·have hkN:decide (pk=u)=false:=gJ hk
         have hpn2:jT ph pk=ph++[pk]:=by rw [AX.out,aZ hk]
         obtain ⟨W9,pW⟩:∃ W9,W9=W7.alloc (.cells #[ah (pk:Int)] 3):=⟨_,rfl⟩
         have k9:aj aB W7 W9:=by rw [pW];exact (aj.refl _ _).alloc _
         have hb9:aF W9 W7.heap.size [ah (pk:Int)] 3:=by rw [pW];exact aF.bC W7 _ _
         obtain ⟨b10,cap10,vS,hrun10,o10,hs10,k10,eo10⟩:=(wC.out.still k9).QU (hb9.cell 0 rfl) (by have:=HT.out.2.2.1;have:=zq.out;have hm3:t<=t*(j+1):=alH _ (by omega);omega)
         rw [pW,HD.out] at hrun10
         rw [HD.out] at hs10
         have Ak:Hid (aF vS w6.heap.size [ah 0,ah (e.qX:Int),ah 5,ah (e.op:Int),ah e.code,ah (e.value:Int)] 37):=k10.aH (k9.aH rE.out (fun f=>f)) (dR wE.out rfl)
         have Nc:Hid (o10 w6.heap.size=0):=(eo10 _ (k9.aH rE.out (fun f=>f)).lt).trans wE.out
         have HST:Hid (nO w W o G gs q (.slice ma j mc) (N+1+(t+1)*(j+1)) vS o10 z2 fv (.slice (some ⟨b10,0,none⟩) (d+1+1) cap10) fr (jT ph pk)):=by show nO _ _ _ _ _ _ _ _ _ _ _ _ _ _ _;rw [hpn2];exact hs10
         have y2:=Ak.out.cell 2 rfl
         have y5:=Ak.out.cell 5 rfl
         have HQ:Hid (jT ph pk≠[]/\(jT ph pk).length<=ph.length+1):=yx HT.out.1
         clear hpn2 AX k9 hb9 hs10 k10 eo10 pW rE wE wC
         obtain ⟨AY,Gh⟩:∃ AY,AY=vS.alloc (.cells #[ah (e.value:Int)] 3):=⟨_,rfl⟩
         have k11:aj aB vS AY:=by rw [Gh];exact (aj.refl _ _).alloc _
         have hb11:aF AY vS.heap.size [ah (e.value:Int)] 3:=by rw [Gh];exact aF.bC vS _ _
         obtain ⟨b12,cap12,Am,hrun12,o12,hs12,k12⟩:=(HST.out.still k11).adR (hb11.cell 0 rfl) (by have:=HT.out.2.1;omega)
         have y2b:=(k12.aH (k11.aH Ak.out (fun f=>f)) (dR Nc.out rfl)).cell 2 rfl
         rw [Gh] at hrun12
         have adi:=ay hs12
         clear Gh k11 hb11 hs12 k12 HST
         go_wp2_with fail
         exact ⟨⟨t+1,z2,fr++[e.value],jT ph pk,_,_,_,rfl,rfl,by omega,by go_num,adi.out,HQ.out.1,by have:=HT.out.2.1;simp;omega,by have:=HT.out.2.2.1;have:=HQ.out.2;omega,hrl,by rw [<- HT.out.2.2.2,Iz.out,AV.out.1,AV.out.2];rfl⟩,by simp [intOf];omega⟩
       ·by_cases hk4:e.kind=4
        ·have AV:Hid (Nb (some e)=true/\DY (some e) fr=fr):=⟨by show (e.kind==4)=true;rw [hk4];rfl,by show (if e.kind=5 then _ else _)=_;rw [aT hk5]⟩
         have hag:vK (some e) = .agg #[ah 0,ah (e.qX:Int),ah 4,ah (e.op:Int),ah e.code,ah (e.value:Int)]:=by
          show Value.agg #[ah 0,ah (e.qX:Int),ah (e.kind:Int),ah (e.op:Int),ah e.code,ah (e.value:Int)]=_
          rw [hk4];rfl
         have htl:sO (some e) = .bool true:=rfl
         rw [hag,htl]
         obtain ⟨W7,zf⟩:∃ W7,W7=w6.alloc (.cells #[ah 0,ah (e.qX:Int),ah 4,ah (e.op:Int),ah e.code,ah (e.value:Int)] 37):=⟨_,rfl⟩
         have k7:aj aB w6 W7:=by rw [zf];exact (aj.refl _ _).alloc _
         have hb7:aF W7 w6.heap.size [ah 0,ah (e.qX:Int),ah 4,ah (e.op:Int),ah e.code,ah (e.value:Int)] 37:=by rw [zf];exact aF.bC w6 _ _
         have ho7:o6 w6.heap.size=0:=hs6.cw.aC.sh.iV _ (aje _)
         have hs7:=hs6.still k7
         have Dl:Hid (Calls aA 17 #[au q.C] W7 fun e w'=>e = .returned (ah (z2.aC.phase:Int))/\W7=w'):=wR hs7.cw.aC
         have wC:=ay hs7
         have rE:=ay hb7
         have IB:=ay zf
         have wE:=ay ho7
         clear hs6 hs7 hb7 k7 zf ho7 Hr
         go_wp2_with fail
         rw [<- IB.out]
         refine Dl.out.mono ?_
         rintro e w8 ⟨rfl,rfl⟩
         obtain ⟨ap,cp,e3,hpf⟩:=wC.out.p.form
         have hpp:0<ph.length:=akM.2 HT.out.1
         obtain ⟨d,hd⟩:∃ d,ph.length=d+1:=⟨ph.length - 1,by omega⟩
         obtain ⟨bp,e4,hcp⟩:=hpf (ph.length - 1) u hu
         rw [show ph.length - 1=d by omega] at hcp
         cases e4
         rw [hd] at e3
         cases e3
         have ht9:t<=1000000000:=by have:=zq.out;have hm3:t<=t*(j+1):=alH _ (by omega);omega
         have hdI:(d:Int)<=1000000000:=by have:=HT.out.2.2.1;have:=zq.out;have hm3:t<=t*(j+1):=alH _ (by omega);omega
         have hd0:(0:Int)<=(d:Int):=by omega
         have HD:=ay hd
         clear hpf Dl IB hpp hd
         generalize hpq:z2.aC.phase=pk at *
         by_cases hk:pk=u
         ·subst hk
          have hpn2:jT ph pk=ph:=by rw [AX.out,aT (by simp)]
          have HST:Hid (nO w W o G gs q (.slice ma j mc) (N+1+(t+1)*(j+1)) W7 o6 z2 fv (.slice (some ⟨bp,0,none⟩) (d+1) cp) fr (jT ph pk)):=by show nO _ _ _ _ _ _ _ _ _ _ _ _ _ _ _;rw [hpn2];exact wC.out
          have y2:=rE.out.cell 2 rfl
          have y5:=rE.out.cell 5 rfl
          have HQ:Hid (jT ph pk≠[]/\(jT ph pk).length<=ph.length+1):=yx HT.out.1
          have Ak:=rE
          have Nc:=wE
          clear hpn2 AX rE wE wC
          go_wp2_with fail
          go_ret3
          exact uy.out _ _ _ _ _ _ _ _ (by rw [<- HT.out.2.2.2,Iz.out,AV.out.1,AV.out.2];rfl) (HST.out.more TJ.out)
         ·have hkN:decide (pk=u)=false:=gJ hk
          have hpn2:jT ph pk=ph++[pk]:=by rw [AX.out,aZ hk]
          obtain ⟨W9,pW⟩:∃ W9,W9=W7.alloc (.cells #[ah (pk:Int)] 3):=⟨_,rfl⟩
          have k9:aj aB W7 W9:=by rw [pW];exact (aj.refl _ _).alloc _
          have hb9:aF W9 W7.heap.size [ah (pk:Int)] 3:=by rw [pW];exact aF.bC W7 _ _
          obtain ⟨b10,cap10,vS,hrun10,o10,hs10,k10,eo10⟩:=(wC.out.still k9).QU (hb9.cell 0 rfl) (by have:=HT.out.2.2.1;have:=zq.out;have hm3:t<=t*(j+1):=alH _ (by omega);omega)
          rw [pW,HD.out] at hrun10
          rw [HD.out] at hs10
          have Ak:Hid (aF vS w6.heap.size [ah 0,ah (e.qX:Int),ah 4,ah (e.op:Int),ah e.code,ah (e.value:Int)] 37):=k10.aH (k9.aH rE.out (fun f=>f)) (dR wE.out rfl)
          have Nc:Hid (o10 w6.heap.size=0):=(eo10 _ (k9.aH rE.out (fun f=>f)).lt).trans wE.out
          have HST:Hid (nO w W o G gs q (.slice ma j mc) (N+1+(t+1)*(j+1)) vS o10 z2 fv (.slice (some ⟨b10,0,none⟩) (d+1+1) cap10) fr (jT ph pk)):=by show nO _ _ _ _ _ _ _ _ _ _ _ _ _ _ _;rw [hpn2];exact hs10
          have y2:=Ak.out.cell 2 rfl
          have y5:=Ak.out.cell 5 rfl
          have HQ:Hid (jT ph pk≠[]/\(jT ph pk).length<=ph.length+1):=yx HT.out.1
          clear hpn2 AX k9 hb9 hs10 k10 eo10 pW rE wE wC
          go_wp2_with fail
          go_ret3
          exact uy.out _ _ _ _ _ _ _ _ (by rw [<- HT.out.2.2.2,Iz.out,AV.out.1,AV.out.2];rfl) (HST.out.more TJ.out)
        ·have AV:Hid (Nb (some e)=false/\DY (some e) fr=fr):=⟨by show (e.kind==4)=false;simpa using hk4,by show (if e.kind=5 then _ else _)=_;rw [aT hk5]⟩
         obtain ⟨kk,hkk⟩:∃ kk,kk=e.kind:=⟨_,rfl⟩
         have aiT:((kk:Int)==5)=false:=by simp;omega
         have aiU:((kk:Int)==4)=false:=by simp;omega
         have aiV:decide (kk=5)=false:=gJ (by omega)
         have aiW:decide (kk=4)=false:=gJ (by omega)
         have hag:vK (some e) = .agg #[ah 0,ah (e.qX:Int),ah (kk:Int),ah (e.op:Int),ah e.code,ah (e.value:Int)]:=by rw [hkk];rfl
         have htl:sO (some e) = .bool true:=rfl
         rw [hag,htl]
         clear hkk hk5 hk4
         obtain ⟨W7,zf⟩:∃ W7,W7=w6.alloc (.cells #[ah 0,ah (e.qX:Int),ah (kk:Int),ah (e.op:Int),ah e.code,ah (e.value:Int)] 37):=⟨_,rfl⟩
         have k7:aj aB w6 W7:=by rw [zf];exact (aj.refl _ _).alloc _
         have hb7:aF W7 w6.heap.size [ah 0,ah (e.qX:Int),ah (kk:Int),ah (e.op:Int),ah e.code,ah (e.value:Int)] 37:=by rw [zf];exact aF.bC w6 _ _
         have ho7:o6 w6.heap.size=0:=hs6.cw.aC.sh.iV _ (aje _)
         have hs7:=hs6.still k7
         have Dl:Hid (Calls aA 17 #[au q.C] W7 fun e w'=>e = .returned (ah (z2.aC.phase:Int))/\W7=w'):=wR hs7.cw.aC
         have wC:=ay hs7
         have rE:=ay hb7
         have IB:=ay zf
         have wE:=ay ho7
         clear hs6 hs7 hb7 k7 zf ho7 Hr
         go_wp2_with fail
         rw [<- IB.out]
         refine Dl.out.mono ?_
         rintro e w8 ⟨rfl,rfl⟩
         obtain ⟨ap,cp,e3,hpf⟩:=wC.out.p.form
         have hpp:0<ph.length:=akM.2 HT.out.1
         obtain ⟨d,hd⟩:∃ d,ph.length=d+1:=⟨ph.length - 1,by omega⟩
         obtain ⟨bp,e4,hcp⟩:=hpf (ph.length - 1) u hu
         rw [show ph.length - 1=d by omega] at hcp
         cases e4
         rw [hd] at e3
         cases e3
         have ht9:t<=1000000000:=by have:=zq.out;have hm3:t<=t*(j+1):=alH _ (by omega);omega
         have hdI:(d:Int)<=1000000000:=by have:=HT.out.2.2.1;have:=zq.out;have hm3:t<=t*(j+1):=alH _ (by omega);omega
         have hd0:(0:Int)<=(d:Int):=by omega
         have HD:=ay hd
         clear hpf Dl IB hpp hd
         generalize hpq:z2.aC.phase=pk at *
         by_cases hk:pk=u
         ·subst hk
          have hpn2:jT ph pk=ph:=by rw [AX.out,aT (by simp)]
          have HST:Hid (nO w W o G gs q (.slice ma j mc) (N+1+(t+1)*(j+1)) W7 o6 z2 fv (.slice (some ⟨bp,0,none⟩) (d+1) cp) fr (jT ph pk)):=by show nO _ _ _ _ _ _ _ _ _ _ _ _ _ _ _;rw [hpn2];exact wC.out
          have y2:=rE.out.cell 2 rfl
          have y5:=rE.out.cell 5 rfl
          have HQ:Hid (jT ph pk≠[]/\(jT ph pk).length<=ph.length+1):=yx HT.out.1
          have Ak:=rE
          have Nc:=wE
          clear hpn2 AX rE wE wC
          go_wp2_with fail
          exact ⟨⟨t+1,z2,fr,jT ph pk,_,_,_,rfl,rfl,by omega,by go_num,HST.out,HQ.out.1,by have:=HT.out.2.1;omega,by have:=HT.out.2.2.1;have:=HQ.out.2;omega,hrl,by rw [<- HT.out.2.2.2,Iz.out,AV.out.1,AV.out.2];rfl⟩,by simp [intOf];omega⟩
         ·have hkN:decide (pk=u)=false:=gJ hk
          have hpn2:jT ph pk=ph++[pk]:=by rw [AX.out,aZ hk]
          obtain ⟨W9,pW⟩:∃ W9,W9=W7.alloc (.cells #[ah (pk:Int)] 3):=⟨_,rfl⟩
          have k9:aj aB W7 W9:=by rw [pW];exact (aj.refl _ _).alloc _
          have hb9:aF W9 W7.heap.size [ah (pk:Int)] 3:=by rw [pW];exact aF.bC W7 _ _
          obtain ⟨b10,cap10,vS,hrun10,o10,hs10,k10,eo10⟩:=(wC.out.still k9).QU (hb9.cell 0 rfl) (by have:=HT.out.2.2.1;have:=zq.out;have hm3:t<=t*(j+1):=alH _ (by omega);omega)
          rw [pW,HD.out] at hrun10
          rw [HD.out] at hs10
          have Ak:Hid (aF vS w6.heap.size [ah 0,ah (e.qX:Int),ah (kk:Int),ah (e.op:Int),ah e.code,ah (e.value:Int)] 37):=k10.aH (k9.aH rE.out (fun f=>f)) (dR wE.out rfl)
          have Nc:Hid (o10 w6.heap.size=0):=(eo10 _ (k9.aH rE.out (fun f=>f)).lt).trans wE.out
          have HST:Hid (nO w W o G gs q (.slice ma j mc) (N+1+(t+1)*(j+1)) vS o10 z2 fv (.slice (some ⟨b10,0,none⟩) (d+1+1) cap10) fr (jT ph pk)):=by show nO _ _ _ _ _ _ _ _ _ _ _ _ _ _ _;rw [hpn2];exact hs10
          have y2:=Ak.out.cell 2 rfl
          have y5:=Ak.out.cell 5 rfl
          have HQ:Hid (jT ph pk≠[]/\(jT ph pk).length<=ph.length+1):=yx HT.out.1
          clear hpn2 AX k9 hb9 hs10 k10 eo10 pW rE wE wC
          go_wp2_with fail
          exact ⟨⟨t+1,z2,fr,jT ph pk,_,_,_,rfl,rfl,by omega,by go_num,HST.out,HQ.out.1,by have:=HT.out.2.1;omega,by have:=HT.out.2.2.1;have:=HQ.out.2;omega,hrl,by rw [<- HT.out.2.2.2,Iz.out,AV.out.1,AV.out.2];rfl⟩,by simp [intOf];omega⟩
  ·obtain rfl:t=most:=by omega
   have htI:¬ (t:Int)<(t:Int):=by omega
   have HE:=ay (uy.out wr fv pv fr ph false z o3 (by rw [<- hrun,Nat.sub_self];rfl) hs)
   clear hs hrun rC hfl hpl
   go_wp2_with fail
   go_ret3
   exact HE.out
end
end
end Go.Proofs.YtanfphjoebobaaaGreatDoor
