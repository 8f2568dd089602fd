/- Parts of the walk. No conditions. -/
import Derived.Test.YtobfpmijbfgmeabGreatDoorZzgx
namespace Go.Proofs.YtobfpmijbfgmeabGreatDoor
open _root_.Bool renaming and_eq_true->acu
open _root_.List renaming ext_getElem?->adF,getD_eq_getElem?_getD->ace,getElem?_append_left->abo,getElem?_eq_getElem->abr,getElem?_eq_none->acK,getElem?_eq_some_iff->abl,getElem?_map->acd,getElem?_range->adE,getElem_mem->acJ,getElem_of_mem->ado,length_append->adu,length_set->acg,length_take->adx,mem_append->adB,mem_map->adg,mem_of_getElem?->adp,mem_range->acr,nil_append->abY,nodup_append->adC,nodup_nil->acT,take_add_one->adA
open _root_.Nat renaming add_assoc->acQ,div_add_mod->acC,eq_zero_or_pos->acX,le_of_lt->adq,le_refl->abg,le_trans->abh,lt_or_ge->acI,mul_comm->acF,mul_le_mul_right->abH,two_pow_pos->acB,zero_le->abZ
open _root_.Option renaming getD_some->adD,isSome_iff_exists->acP
open _root_.Go.Proofs.Tryz hiding prog
open _root_.Go.Proofs.Tryz renaming prog->ay
set_option maxRecDepth 100000
set_option maxHeartbeats 16000000
section
attribute [local go_sem ↓] mD
attribute [local go_sem] Oper.semAt_some
open Go.RowKit
def HS.qj (H:HS):List Nat:=(bI H H.b).filter H.jH
section
variable {w w':World} {D:Nat->Nat} {H:HS}
theorem X4 (B:Nat) (w:World):Calls ay 85 #[ak B] w fun e w'=>e = .returned (.func (.func 117) #[] #[ak w.heap.size])/\w'=w.alloc (.cells #[ak B] 56):=by
 have hmf:∀ (fn:Fn) (first aJ:Array Value) (w:World),(Instr.makeFunc fn first aJ).run ay w = .ok (.func fn first aJ) w:=fun _ _ _ _=>rfl
 go_enter func85,ntmps85
 go_wp2_with fail
 go_ret
 exact ⟨rfl,rfl⟩
theorem je.nR {Ts:List TypeId} {bx N:Nat} {A B:World} (k:aj aA A B) (hN:N<=A.heap.size) (hb:bx<A.heap.size):je Ts bx N A B :=
 ⟨jO.nR k hN,fun b cs T _ h2 h3=>⟨k.aC h3 (fun f=>f),fun f=>h2 (pF hb k f)⟩,fun h q f=>Nat.lt_of_lt_of_le (h q (pF hb k f)) k.size⟩
theorem AO (h:aK w D H) (n:Nat):(bI H n).length<=256*n:=by
 induction n with
 | zero=>exact abg _
 | succ n ih=>rw [qP];have:=FB h n;omega
theorem OJ (h:aK w D H):Calls ay 58 #[ak (D 0)] w fun e w'=>∃ v,e = .returned v/\w'.ownsRow w.heap.size 3 1 v H.qj.length (bg H.qj)/\aj aA w w':=by
 obtain ⟨W0,hW0⟩:∃ W0,W0=w.alloc (.cells #[ak (D 0)] 48):=⟨_,rfl⟩
 have k0:aj aA w W0:=by rw [hW0];exact (aj.refl _ _).alloc _
 have hb0:aB W0 w.heap.size [ak (D 0)] 48:=by rw [hW0];exact aB.aW w _ _
 have hs0:W0.heap.size=w.heap.size+1:=by rw [hW0];simp
 obtain ⟨W1,hW1⟩:∃ W1,W1=W0.alloc (.cells #[.slice none 0 0] 35):=⟨_,rfl⟩
 have k1:aj aA W0 W1:=by rw [hW1];exact (aj.refl _ _).alloc _
 have hb1:aB W1 W0.heap.size [.slice none 0 0] 35:=by rw [hW1];exact aB.aW W0 _ _
 have hs1:W1.heap.size=W0.heap.size+1:=by rw [hW1];simp
 obtain ⟨W2,hW2⟩:∃ W2,W2=W1.alloc (.cells #[ak (D 3)] 56):=⟨_,rfl⟩
 have k2:aj aA W1 W2:=by rw [hW2];exact (aj.refl _ _).alloc _
 have hb2:aB W2 W1.heap.size [ak (D 3)] 56:=by rw [hW2];exact aB.aW W1 _ _
 have hs2:W2.heap.size=W1.heap.size+1:=by rw [hW2];simp
 have hh:=h.still k0
 have hG:2<W0.heap.size/\3<W0.heap.size/\1<W0.heap.size:=⟨hh.lW.lt.1,hh.lW.lt.2,hh.sizes.lt⟩
 have Aa:Hid (vX aA (fun _=>True) Fence.wide 8 ay 117 #[ak W1.heap.size] (bI H H.b) xZ (je [] W0.heap.size W0.heap.size) W2):=Ue ((hh.still k1).still k2) hb2 (k2.aC hb1 (fun f=>f)) hG [] 8
 have hU:Dy W0.heap.size (fun _=>True):=fun _ _ _ _ _ _=>trivial
 have HU:=au hU
 have HI0:Hid (pV aA (fun _=>True) W0 W2.heap.size W0.heap.size (((bI H H.b).take 0).filter H.jH) W2):=⟨k1.trans k2,abg _,⟨_,k2.aC hb1 (fun f=>f),⟨rfl,.inl ⟨rfl,rfl⟩⟩⟩,trivial⟩
 have mZ:Hid (W0.heap.size<W2.heap.size/\w.heap.size<W0.heap.size):=by unfold Hid;omega
 have HL:Hid ((bI H H.b).length<=4000000):=by
  have:=AO h H.b
  have:=h.UF.2.1
  unfold Hid;omega
 have Vh:Hid (∀ V (a:Nat),aj aA W0 V->Calls ay 77 #[ak (D 0),ah (a:Int)] V fun e w'=>e = .returned (.tuple #[ah (H.gQ a:Int),.bool (H.jH a)])/\aj aA V w'):=fun V a k=>rZ (hh.still k) a
 have mO:Hid (∀ V,aj aA W0 V->V.cell? ⟨w.heap.size,0,none⟩=some (ak (D 0))):=fun V k=>(k.aC hb0 (fun f=>f)).cell 0 rfl
 have FC:Hid (∀ V,aj aA w V->V.cell? ⟨D 0,1,none⟩=some (ak (D 3))):=fun V k=>(k.aC h.aC (fun f=>f)).cell 1 rfl
 have jZ:=au k0
 have aZ:=au k1
 have uQ:Hid (W1=(w.alloc (.cells #[ak (D 0)] 48)).alloc (.cells #[.slice none 0 0] 35)/\W2=W1.alloc (.cells #[ak (D 3)] 56)/\W0.heap.size=w.heap.size+1):=⟨by rw [hW1,hW0],hW2,hs0⟩
 have q2:=FC.out W1 (k0.trans k1)
 rw [uQ.out.1] at q2
 unfold HS.qj
 generalize bI H H.b=l at *
 generalize H.jH=hd at *
 generalize H.gQ=cl at *
 clear h k0 hb0 hs0 hW0 k1 hb1 hs1 hW1 k2 hb2 hs2 hW2 hh hG hU
 refine (callsIn_wide (n:=9)).1 ?_
 refine callsIn_of_wp_marks func58 rfl trivial ?_ rfl
 refine wpIn_wide.2 ?_
 simp only [ntmps58,List.size_toArray,List.length_cons,List.length_nil,Nat.reduceAdd,Nat.reduceSub,Array.replicate_succ,Array.replicate_zero,List.push_toArray,List.append_toArray,abY,List.cons_append]
 go_wp2_with fail
 rw [<- uQ.out.1]
 refine (X4 _ _).mono ?_
 rintro e w2 ⟨rfl,hw2⟩
 rw [<- uQ.out.2.1] at hw2
 subst hw2
 clear q2
 go_wp2_with fail
 rw [<- uQ.out.2.2]
 refine wpIn_wide (n:=9) |>.1 ?_
 refine AU rfl (by decide) (gf:=117) (lb:=#[ak W1.heap.size]) rfl trivial (fun args w=>by simp [callFunc,func117,go_sem];rfl) (all:=l) (Enc:=xZ) (R:=je [] W0.heap.size W0.heap.size) (N:=W0.heap.size) (adq mZ.out.1) (je.rel _ _ _)
  Aa.out ?hps (fun j W=>pV aA (fun _=>True) W0 w2.heap.size W0.heap.size ((l.take j).filter hd) W) (fun _ _ _=>False) ?hI ?hIx ?h0 (fun b f=>f.elim) (fun k A C h kk ke=>pV.later h (fun b f=>f.elim) mZ.out.1 kk ke) (fun _ _ _ _ h _ _=>h) ?round ?done ?stop
 case hI=>exact fun k=>pV.own (adq mZ.out.1) HU.out ((l.take k).filter hd)
 case hIx=>exact fun c s W W' row h hg hr=>h
 case h0=>exact HI0.out
 case hps =>
  rintro W x args h
  rw [h];rfl
 case stop=>exact fun D c k W hD hk h=>h.elim
 case round =>
  rintro q j x args W hx henc hI
  have hj:j<l.length:=(abl.1 hx).1
  obtain rfl:args=#[ah (x:Int)]:=henc
  have AA:Hid ((l.take (j+1)).filter hd=if hd x=true then (l.take j).filter hd++[x] else (l.take j).filter hd):=by
   unfold Hid
   rw [adA,hx,List.filter_append]
   by_cases e:hd x=true<;>simp [e]
  have HJ:Hid (((l.take j).filter hd).length<=4000000):=by
   have h1:=List.length_filter_le hd (l.take j)
   rw [adx] at h1
   have:=HL.out
   unfold Hid;omega
  have HI:=au hI
  clear hI hx hj
  generalize (l.take j).filter hd=r at *
  gi_wp2_with fail
  refine ⟨fun W=>pV aA (fun _=>True) W0 w2.heap.size W0.heap.size r W,KeepsFrom.refl _ _,je.refl _ _ _ _,HI.out,(fun _ W' W'' row h hg hr=>pV.own (adq mZ.out.1) HU.out r W' W'' row h hg hr),?_⟩
  clear HI
  rintro w3 hI
  have c0:=mO.out w3 hI.aH
  have HP:=au (Vh.out w3 x hI.aH)
  have HI:=au hI
  clear hI
  gi_wp2_with fail
  refine ⟨trivial,CallsIn.mono (CallsIn.inRound q (callsIn_wide.2 HP.out)) ?_⟩
  rintro e w4 ⟨rfl,k4⟩
  have HI4:=au (pV.later HI.out (fun b f=>f.elim) mZ.out.1 k4 (fun _=>trivial))
  have kR:Hid (KeepsFrom w2.heap.size w3 w4/\je [] W0.heap.size W0.heap.size w3 w4):=⟨KeepsFrom.nR k4,je.nR k4 (by have:=HI.out.yA;have:=mZ.out.1;omega) (by have:=HI.out.yA;have:=mZ.out.1;omega)⟩
  clear HP k4 HI c0
  by_cases L8:hd x=true
  ·rw [aV L8] at AA
   have aaH:hd x=true:=L8
   obtain ⟨v,g,aJ,w5,c4,cO4,hrun9,Zf,Zg,p1,p2,p3⟩:=HI4.out.push (N:=W0.heap.size) (x:=x) (abg _) mZ.out.1 (abg _) (fun b f=>f.elim) HU.out HJ.out [] (by decide) (by decide)
   rw [<- AA.out] at p1
   have gI:=au (And.intro (kR.out.1.trans p2) (And.intro (kR.out.2.trans p3) p1))
   generalize r.length+1=jl at *
   clear p1 p2 p3 HI4 kR L8
   gi_wp2_with fail
   exact gI.out
  ·have aaH:hd x=false:=by simpa using L8
   rw [aO L8] at AA
   have gI:=au (And.intro kR.out.1 (And.intro kR.out.2 HI4.out))
   rw [<- AA.out] at gI
   clear HI4 kR L8
   gi_wp2_with fail
   exact gI.out
 case done =>
  rintro D W hD hI yO
  obtain ⟨v,rX,hrow⟩:=hI.o
  rw [List.take_length] at hrow
  have cO:=rX.cell 0 (v:=v) rfl
  have Gq:=(jZ.out.trans hI.aH).takeDeferred (D:=D) (by have:=mZ.out;omega) (.deferred none)
  have nS:=au hrow
  clear hrow
  go_wp2_with fail
  refine ⟨by simp,.inl ⟨_,_,rfl,run_takeDeferred yO,?_⟩⟩
  refine ⟨v,by simp [results,Tryz.f58,go_sem],v,rfl,dF (fQ (S:=fun i=>i=D) nS.out ⟨rfl,rfl,rfl,by simp,fun q _ n=>World.putObj_heap_other n⟩ (fun q hq e=>?_)) (by have:=mZ.out;omega),Gq⟩
  obtain ⟨cur,hcur⟩:=qy (dF nS.out (abZ _)) hq
  rw [e,yO] at hcur
  cases hcur
end
end
section
section
variable {H:HS}
theorem vT {B a:Nat} (hB:B<H.b) (h:a∈H.bZ B):∃ k,H.dY a=some (B,k):=by
 unfold HS.bZ at h
 split at h
 ·cases h
 ·rename_i hK
  unfold jD at h
  obtain ⟨i,hi,rfl⟩:=adg.1 h
  have hi:=acr.1 hi
  have hz:0<2^H.K.getD B 0:=acB _
  have hw:0<H.ww:=by
   rcases acX H.ww with e|e
   ·rw [e] at hi;simp at hi
   ·exact e
  have h1:(i+1)*2^H.K.getD B 0<=H.ww:=abh (abH _ hi) (Nat.div_mul_le_self _ _)
  rw [Nat.add_mul,Nat.one_mul] at h1
  have h2:B*H.ww+H.ww<=H.b*H.ww:=by
   have:=abH H.ww (show B+1<=H.b from hB)
   rwa [Nat.add_mul,Nat.one_mul] at this
  have e1:B*H.ww+i*2^H.K.getD B 0+1 - 1=B*H.ww+i*2^H.K.getD B 0:=Nat.add_sub_cancel _ _
  have e2:(B*H.ww+i*2^H.K.getD B 0)/H.ww=B:=by
   rw [acF B,Nat.mul_add_div hw,Nat.div_eq_of_lt (by omega),Nat.add_zero]
  have e3:(B*H.ww+i*2^H.K.getD B 0)%H.ww=i*2^H.K.getD B 0:=by
   rw [acF B,Nat.mul_add_mod,Nat.mod_eq_of_lt (by omega)]
  refine ⟨H.K.getD B 0 - 1,?_⟩
  unfold HS.dY lF
  rw [e1,e2,e3,aV]
  refine ⟨by omega,by omega,hK,Nat.mul_mod_left _ _,?_⟩
  rw [Nat.mul_div_cancel _ hz]
  exact hi
theorem AP (B:Nat):(H.bZ B).Nodup:=by
 unfold HS.bZ
 split
 ·exact acT
 ·unfold jD
  have hz:0<2^H.K.getD B 0:=acB _
  refine (List.pairwise_lt_range.map _ (S:=(· < ·)) (fun i j hij=>?_)).imp (fun h=>Nat.ne_of_lt h)
  have:=Nat.mul_lt_mul_of_pos_right hij hz
  omega
theorem Rj {B k a:Nat} (h:H.dY a=some (B,k)):B<H.b/\a∈H.bZ B:=by
 obtain ⟨g1,g2,g3,g4,g5,g6⟩:=dK h
 have hw:0<H.ww:=by
  rcases acX H.ww with e|e
  ·rw [e] at g6;simp at g6
  ·exact e
 refine ⟨by rw [g3,Nat.div_lt_iff_lt_mul hw];omega,?_⟩
 unfold HS.bZ
 rw [g4,aO (by omega)]
 unfold jD
 refine adg.2 ⟨(a - 1)%H.ww/2^(k+1),acr.2 g6,?_⟩
 have hm:=acC ((a - 1)%H.ww) (2^(k+1))
 rw [g5] at hm
 have hm2:=acC (a - 1) H.ww
 rw [<- g3] at hm2
 have c1:(a - 1)%H.ww/2^(k+1)*2^(k+1)=2^(k+1)*((a - 1)%H.ww/2^(k+1)):=acF _ _
 have c2:B*H.ww=H.ww*B:=acF _ _
 omega
end
section
variable {H:HS}
theorem wI {a:Nat}:∀ {n:Nat},a∈bI H n↔∃ B,B<n/\a∈H.bZ B
 | 0=>⟨fun h=>(by cases h),fun ⟨_,h,_⟩=>absurd h (by omega)⟩
 | n+1=>by
   show a∈bI H n++H.bZ n↔_
   rw [adB,wI (n:=n)]
   constructor
   ·rintro (⟨B,h1,h2⟩|h)
    ·exact ⟨B,by omega,h2⟩
    ·exact ⟨n,by omega,h⟩
   ·rintro ⟨B,h1,h2⟩
    rcases acI B n with g|g
    ·exact .inl ⟨B,g,h2⟩
    ·obtain rfl:B=n:=by omega
     exact .inr h2
theorem Ej {a:Nat}:a∈bI H H.b↔(H.dY a).isSome=true:=by
 rw [wI]
 constructor
 ·rintro ⟨B,h1,h2⟩
  obtain ⟨k,h3⟩:=vT h1 h2
  rw [h3];rfl
 ·intro h
  obtain ⟨⟨B,k⟩,e⟩:=acP.1 h
  obtain ⟨g1,g2⟩:=Rj e
  exact ⟨B,g1,g2⟩
theorem sN:∀ {n:Nat},n<=H.b->(bI H n).Nodup
 | 0,_=>acT
 | n+1,h=>by
   show (bI H n++H.bZ n).Nodup
   refine adC.2 ⟨sN (by omega),AP n,fun a ha b hb e=>?_⟩
   subst e
   obtain ⟨B,h1,h2⟩:=wI.1 ha
   obtain ⟨k1,e1⟩:=vT (by omega) h2
   obtain ⟨k2,e2⟩:=vT (by omega) hb
   rw [e1] at e2
   cases e2
   omega
def HS.dJ (H:HS):Nat->List Nat
 | 0=>H.oJ++H.qj
 | k+1=>H.dJ k++H.row k
structure OL (H:HS):Prop where
 len:(H.dJ 4).length=(bI H H.b).length
 nd:(H.dJ 4).Nodup
 kP:∀ a∈H.dJ 4,1<=a/\a<=H.b*H.ww
 cov:∀ a∈bI H H.b,a∈H.dJ 4
theorem L9 (h:dB H) {a:Nat}:H.eY a=true↔∃ k,k<4/\a∈H.row k:=by
 unfold HS.eY HS.row
 rw [List.any_eq_true]
 constructor
 ·rintro ⟨l,h1,h2⟩
  obtain ⟨k,hk,e⟩:=ado h1
  refine ⟨k,by rw [<- h.kF];exact hk,?_⟩
  rw [ace,abr hk,adD,e]
  simpa using h2
 ·rintro ⟨k,hk,h1⟩
  have hk':k<H.fr.length:=by rw [h.kF];exact hk
  rw [ace,abr hk',adD] at h1
  exact ⟨_,acJ hk',by simpa using h1⟩
theorem uf {a:Nat}:∀ {n:Nat},a∈H.dJ n↔a∈H.oJ\/a∈H.qj\/∃ k,k<n/\a∈H.row k
 | 0=>by
   show a∈H.oJ++H.qj↔_
   rw [adB]
   constructor
   ·rintro (h|h)
    ·exact .inl h
    ·exact .inr (.inl h)
   ·rintro (h|h|⟨k,h,_⟩)
    ·exact .inl h
    ·exact .inr h
    ·omega
 | n+1=>by
   show a∈H.dJ n++H.row n↔_
   rw [adB,uf (n:=n)]
   constructor
   ·rintro ((h|h|⟨k,h1,h2⟩)|h)
    ·exact .inl h
    ·exact .inr (.inl h)
    ·exact .inr (.inr ⟨k,by omega,h2⟩)
    ·exact .inr (.inr ⟨n,by omega,h⟩)
   ·rintro (h|h|⟨k,h1,h2⟩)
    ·exact .inl (.inl h)
    ·exact .inl (.inr (.inl h))
    ·rcases acI k n with g|g
     ·exact .inl (.inr (.inr ⟨k,g,h2⟩))
     ·obtain rfl:k=n:=by omega
      exact .inr h2
theorem vU {a:Nat}:a∈H.qj↔H.jH a=true:=by
 unfold HS.qj
 rw [List.mem_filter,Ej]
 unfold HS.jH
 constructor
 ·exact fun h=>h.2
 ·intro h
  have h':=h
  simp only [acu] at h'
  exact ⟨h'.1.1,h⟩
theorem zH (h:dB H):∀ {n:Nat},n<=4->(H.dJ n).Nodup
 | 0,_=>by
   show (H.oJ++H.qj).Nodup
   refine adC.2 ⟨(Aw _ _).imp (fun h=>Nat.ne_of_lt h),(sN (abg _)).filter _,fun a ha b hb e=>?_⟩
   subst e
   have h1:=(lu.1 ha).2
   have h2:=vU.1 hb
   unfold HS.jH at h2
   rw [h1] at h2
   simp at h2
 | n+1,hn=>by
   show (H.dJ n++H.row n).Nodup
   refine adC.2 ⟨zH h (by omega),h.oU n (by omega),fun a ha b hb e=>?_⟩
   subst e
   obtain ⟨f1,B,f2⟩:=h.jW n (by omega) a hb
   rcases uf.1 ha with g|g|⟨k,g1,g2⟩
   ·rw [(lu.1 g).2] at f1;cases f1
   ·have h2:=vU.1 g
    unfold HS.jH at h2
    rw [(L9 h).2 ⟨n,by omega,hb⟩] at h2
    simp at h2
   ·obtain ⟨_,B',e2⟩:=h.jW k (by omega) a g2
    rw [f2] at e2
    cases e2
    omega
theorem dB.Jh (h:dB H):OL H:=by
 have hown:∀ a∈H.dJ 4,(H.dY a).isSome=true:=fun a ha=>by
  rcases uf.1 ha with g|g|⟨k,g1,g2⟩
  ·obtain ⟨B,k,f,e,_⟩:=h.jh a (lu.1 g).2
   rw [e];rfl
  ·have h2:=vU.1 g
   unfold HS.jH at h2
   simp only [acu] at h2
   exact h2.1.1
  ·obtain ⟨_,B,e⟩:=h.jW k g1 a g2
   rw [e];rfl
 have hcov:∀ a∈bI H H.b,a∈H.dJ 4:=fun a ha=>by
  have ho:=Ej.1 ha
  obtain ⟨⟨B,k⟩,e⟩:=acP.1 ho
  obtain ⟨o1,o2,_⟩:=dK e
  rw [uf]
  by_cases hb:H.bn a=true
  ·exact .inl (lu.2 ⟨by unfold HS.sz;omega,hb⟩)
  ·by_cases hi:H.eY a=true
   ·exact .inr (.inr ((L9 h).1 hi))
   ·refine .inr (.inl (vU.2 ?_))
    unfold HS.jH
    rw [ho]
    simp [hb,hi]
 have hnd:=zH h (abg 4)
 refine ⟨Nat.le_antisymm (vS hnd (fun a ha=>Ej.2 (hown a ha))) (vS (sN (abg _)) hcov),hnd,fun a ha=>?_,hcov⟩
 obtain ⟨⟨B,k⟩,e⟩:=acP.1 (hown a ha)
 obtain ⟨o1,o2,_⟩:=dK e
 exact ⟨o1,o2⟩
end
end
section
attribute [local go_sem ↓] mD
attribute [local go_sem] Oper.semAt_some
open Go.RowKit
def zI (n:Nat) (l:List Nat):List Value:=(List.range n).map fun a => .bool (l.contains a)
theorem Rk {n a:Nat} {l:List Nat} (h:a<n):(zI n l)[a]?=some (.bool (l.contains a)):=by
 unfold zI
 rw [acd,adE h];rfl
theorem Ws (n:Nat):zI n []=eU (.bool false) n:=by
 refine adF (fun i=>?_)
 unfold zI eU
 rw [acd,List.getElem?_replicate]
 by_cases h:i<n
 ·rw [adE h,aV h];rfl
 ·rw [aO h,acK (by simpa using h)];rfl
theorem Wu {n a:Nat} {l:List Nat}:(zI n l).set a (.bool true)=zI n (l++[a]):=by
 refine adF (fun i=>?_)
 unfold zI
 rw [List.getElem?_set,acd,acd]
 simp only [List.length_map,List.length_range]
 by_cases h:i<n
 ·rw [adE h]
  by_cases e:a=i
  ·subst e
   simp [h]
  ·rw [aO e]
   have:(l++[a]).contains i=l.contains i:=by
    rw [Bool.eq_iff_iff]
    simp
    omega
   simp only [Option.map_some,this]
 ·rw [acK (by simpa using h)]
  by_cases e:a=i
  ·subst e
   simp [h]
  ·rw [aO e];rfl
section
variable {w w':World} {D:Nat->Nat} {H:HS}
theorem KI (H:HS) (b:Nat):bI H (b+1)=bI H b++H.bZ b:=rfl
theorem OM (H:HS) (k:Nat):H.dJ (k+1)=H.dJ k++H.row k:=rfl
theorem OL.at (h:OL H) {i:Nat} (hi:i<(H.dJ 4).length):1<=(H.dJ 4).getD i 0/\(H.dJ 4).getD i 0<=H.b*H.ww/\((H.dJ 4).take i).contains ((H.dJ 4).getD i 0)=false/\(H.dJ 4).take (i+1)=(H.dJ 4).take i++[(H.dJ 4).getD i 0]:=by
 have hn:=h.nd
 have hr:=h.kP
 generalize H.dJ 4=l at *
 have e:l.getD i 0=l[i]:=by rw [ace,abr hi];rfl
 rw [e]
 obtain ⟨r1,r2⟩:=hr _ (acJ hi)
 refine ⟨r1,r2,?_,by rw [adA,abr hi];rfl⟩
 rw [Bool.eq_false_iff]
 intro hc
 have hm:l[i]∈l.take i:=by simpa using hc
 obtain ⟨j,hj,e2⟩:=ado hm
 rw [adx] at hj
 rw [List.getElem_take] at e2
 have:=(List.pairwise_iff_getElem.1 hn) j i (by omega) hi (by omega)
 exact this e2
theorem OO (h:aK w D H) (hT:nD w):Calls ay 29 #[ak (D 0)] w fun e w'=>e = .returned (.bool true)/\aj (only (D 1)) w w':=by
 have hP:=h.dQ.Jh
 have X5:=h.UF
 have Vj:Hid (∀ i,i<(H.dJ 4).length->1<=(H.dJ 4).getD i 0/\(H.dJ 4).getD i 0<=H.b*H.ww/\((H.dJ 4).take i).contains ((H.dJ 4).getD i 0)=false/\(H.dJ 4).take (i+1)=(H.dJ 4).take i++[(H.dJ 4).getD i 0]):=fun i hi=>hP.at hi
 have Vk:Hid (∀ i,i<(bI H H.b).length->(H.dJ 4).contains ((bI H H.b).getD i 0)=true/\1<=(bI H H.b).getD i 0/\(bI H H.b).getD i 0<=H.b*H.ww):=fun i hi=>by
  have hm:(bI H H.b).getD i 0∈bI H H.b:=by rw [ace,abr hi];exact acJ _
  have h2:=hP.cov _ hm
  exact ⟨by simpa using h2,hP.kP _ h2⟩
 have wP:Hid ((H.dJ 4).length=(bI H H.b).length/\(bI H H.b).length<=1048576/\∀ b,b<=H.b->(bI H b).length<=1048576):=by
  have hl:=AO h H.b
  have h2:256*H.b<=256*4096:=Nat.mul_le_mul_left _ X5.2.1
  exact ⟨hP.len,by omega,fun b hb=>by have:=DK H hb;omega⟩
 have Au:Hid (∀ k,k<=4->(H.dJ k).length<=1048576):=fun k hk=>by
  have h4:(H.dJ k).length<=(H.dJ 4).length:=by
   rcases (by omega:k=0\/k=1\/k=2\/k=3\/k=4) with rfl|rfl|rfl|rfl|rfl<;>simp [HS.dJ]<;>omega
  have h5:=wP.out
  omega
 have HD:Hid (D 1<w.heap.size/\D 2<w.heap.size):=⟨by obtain ⟨_,_,q⟩:=h.jc.aC;exact q.lt,h.jc.kL.lt⟩
 have FC:Hid (Calls ay 14 #[ak (D 0)] w fun e w'=>∃ R' X' aJ,e = .returned (ak R')/\l9 w' R' X' aJ H.c H.K/\aj aA w w'):=xP h
 have HSL:Hid (∀ V R X aJ B,aj aA w V->l9 V R X aJ H.c H.K->Calls ay 57 #[ak R,ah ((B:Nat):Int)] V fun e w'=>∃ a cp,e = .returned (.slice a (H.bZ B).length cp)/\w'.ownsRow V.heap.size 3 1 (.slice a (H.bZ B).length cp) (H.bZ B).length (bg (H.bZ B))/\aj aA V w'):=fun V R X aJ B k ht=>Jg h ht (h.still k).lW (h.still k).sizes B
 have qY:Hid (∀ V,aK V D H->Calls ay 35 #[ak (D 0)] V fun e w'=>e = .returned (.agg H.c.cells.toArray)/\aj aA V w'):=fun V hV=>Af hV
 have Rl:Hid (∀ V,aj aA w V->Calls ay 28 #[ak (D 0)] V fun e w'=>∃ v,e = .returned v/\w'.ownsRow V.heap.size 3 1 v H.oJ.length (bg H.oJ)/\aj aA V w'):=fun V k=>zD (h.still k) (hT.still k)
 have Vh:Hid (∀ V,aj aA w V->Calls ay 58 #[ak (D 0)] V fun e w'=>∃ v,e = .returned v/\w'.ownsRow V.heap.size 3 1 v H.qj.length (bg H.qj)/\aj aA V w'):=fun V k=>OJ (h.still k)
 have Rn:Hid (∀ V k,k<4->aK V D H->Calls ay 13 #[ak (D 0),ah ((k:Nat):Int)] V fun e w'=>∃ v,e = .returned v/\w'.ownsRow V.heap.size 3 1 v (H.row k).length (bg (H.row k))/\aK w' D H/\aj (only (D 1)) V w'):=fun V k hk hV=>DI hV k hk
 have HH:=au h
 have IY:=au (KI H)
 have X6:=au (OM H)
 have mZ:Hid (H.dJ 0=H.oJ++H.qj):=rfl
 have HT0:Hid (bI H 0=[]):=rfl
 have hcb:=h.cb
 have hcw:=h.cw
 obtain ⟨n,hn⟩:∃ n,n=H.b*H.ww:=⟨_,rfl⟩
 rw [<- hn] at Vj Vk
 have hmul:IntKind.i64.wrap ((H.b:Int)*(H.ww:Int))=(n:Int):=by
  rw [<- Int.natCast_mul,<- hn]
  exact IntWalk.i64_in _ (by omega)
 have yF:Hid (n<=1048576):=by unfold Hid;omega
 obtain ⟨⟨x0,x1,x2,x3,x4,x5,x6⟩,hcE⟩:∃ c,c=H.c:=⟨_,rfl⟩
 rw [<- hcE] at FC HSL qY hcb hcw
 simp only [aS.cells] at qY
 have hb4:(H.b:Int)<=4096:=by omega
 obtain ⟨nb,hnb⟩:∃ nb,nb=H.b:=⟨_,rfl⟩
 obtain ⟨nw,hnw⟩:∃ nw,nw=H.ww:=⟨_,rfl⟩
 rw [<- hnb,<- hnw] at hmul
 rw [<- hnb] at Vk wP hb4 hcb
 rw [<- hnw] at hcw
 have hcb':x0=(nb:Int):=hcb
 have aaI:x1=(nw:Int):=hcw
 subst hcb' aaI
 have hf0:=Jf (nb:Int) (nw:Int) x2 x3 x4 x5 x6
 have hf1:=Ud (nb:Int) (nw:Int) x2 x3 x4 x5 x6
 clear h hT hP X5 hcb hcw hn hcE hnb hnw
 go_enter func29,ntmps29
 go_wp2_with fail
 refine FC.out.mono ?_
 rintro e w1 ⟨R,X,aJ,rfl,ht,k1⟩
 have HT1:=au ht
 have aZ:=au k1
 clear FC ht k1
 go_wp2_with fail
 go_loopw [4,6] (fun av bv wr=>∃ (b:Nat) (v:Value),v=av/\b<=nb/\bv = ah b/\wr.ownsRow w1.heap.size 3 1 v (bI H b).length (bg (bI H b))/\aj aA w1 wr) (fun _ bv _=>nb - (intOf bv).toNat)
 case atStart=>exact ⟨0,_,rfl,abZ _,rfl,⟨rfl,.inl ⟨rfl,rfl⟩⟩,aj.refl _ _⟩
 case round =>
  obtain ⟨b,v,hv,hb,rfl,hown,hk⟩:=hrel
  subst hv
  have HK:=au hk
  have HO:=au hown
  have nH:=au (qY.out _ (HH.out.still (aZ.out.trans hk)))
  have L6:=au hb
  clear hown hk hb
  by_cases hlt:b<nb
  ·have oz:(b:Int)<(nb:Int):=by omega
   have lQ:=au hlt
   clear hlt
   go_wp2_with fail
   refine nH.out.mono ?_
   rintro e w2 ⟨rfl,k2⟩
   have bH:=au (HK.out.trans k2)
   have oP:=au (gy HO.out k2)
   have mQ:=au (HSL.out w2 R X aJ b (aZ.out.trans bH.out) (HT1.out.still bH.out))
   clear k2 nH HK HO
   go_wp2_with fail
   refine mQ.out.mono ?_
   rintro e w3 ⟨a3,c3,rfl,ho3,k3⟩
   have ho4:=gy oP.out k3
   have hb9:=wP.out.2.2 (b+1) lQ.out
   rw [IY.out,adu] at hb9
   obtain ⟨v5,w5,hrun,hown5,hgr⟩:=yj ho4 (abh bH.out.size k3.size) (dF ho3 (abZ _)) (by omega)
   rw [<- IY.out] at hown5
   have HI5:Hid (w5.ownsRow w1.heap.size 3 1 v5 (bI H (b+1)).length (bg (bI H (b+1)))/\aj aA w1 w5):=⟨hown5,uZ ho4 hgr (bH.out.trans k3) (fun b h1 h2=>by omega)⟩
   clear ho3 k3 ho4 hb9 hown5 hgr mQ oP bH
   go_wp2_with fail
   exact ⟨⟨b+1,_,rfl,lQ.out,by have:=lQ.out;go_num,HI5.out.1,HI5.out.2⟩,by have:=lQ.out;simp [intOf];omega⟩
  ·obtain rfl:b=nb:=by have:=L6.out;omega
   have oz:¬ (b:Int)<(b:Int):=by omega
   clear hlt
   go_wp2_with fail
   refine nH.out.mono ?_
   rintro e w2 ⟨rfl,k2⟩
   have bH:=au (HK.out.trans k2)
   have oP:=au (gy HO.out k2)
   have HB1:=au (Rl.out w2 (aZ.out.trans bH.out))
   clear k2 nH HK HO
   go_wp2_with fail
   refine HB1.out.mono ?_
   rintro e w3 ⟨v3,rfl,ho3,k3⟩
   have hlo:=Au.out 0 (by decide)
   rw [mZ.out,adu] at hlo
   have hn3:w3.ownsRow w2.heap.size 3 1 (.slice none 0 0) ([]:List Nat).length (bg []):=⟨rfl,.inl ⟨rfl,rfl⟩⟩
   obtain ⟨v4,w4,hrun,ho4,hgr⟩:=yj hn3 k3.size (dF ho3 (abZ _)) (by simp;omega)
   rw [abY] at ho4
   have k4:aj aA w2 w4:=uZ hn3 hgr k3 (fun b h1 h2=>by omega)
   have KQ:=au ho4
   have kR:=au k4
   have UH:=au (Vh.out w4 ((aZ.out.trans bH.out).trans k4))
   clear HB1 ho3 k3 hn3 hgr ho4 k4
   go_wp2_with fail
   refine UH.out.mono ?_
   rintro e w5 ⟨v5,rfl,ho5,k5⟩
   have ho4:=gy KQ.out k5
   obtain ⟨v6,w6,hrun,ho6,hgr⟩:=yj ho4 (abh kR.out.size k5.size) (dF ho5 (abZ _)) (by omega)
   rw [<- mZ.out] at ho6
   have k6:aj aA w2 w6:=uZ ho4 hgr (kR.out.trans k5) (fun b h1 h2=>by omega)
   have Vl:Hid (w6.ownsRow w2.heap.size 3 1 v6 (H.dJ 0).length (bg (H.dJ 0))/\bV w6 (D 1) (D 2) H.A/\aj (only (D 1)) w2 w6):=⟨ho6,(HH.out.still ((aZ.out.trans bH.out).trans k6)).jc,k6.mono (fun _ _ f=>f.elim)⟩
   clear UH ho5 k5 hgr ho4 ho6 k6 hlo KQ kR
   go_wp2_with fail
   have Ji:=au (aZ.out.trans bH.out)
   have HD2:Hid (D 1<w2.heap.size/\D 2<w2.heap.size/\D 1<w1.heap.size):=by
    have:=HD.out;have:=Ji.out.size;have:=aZ.out.size
    unfold Hid;omega
   have Vm:Hid (∀ V,aj (only (D 1)) w2 V->bV V (D 1) (D 2) H.A->aK V D H):=fun V k hA=>(HH.out.still Ji.out).wR k hA
   go_loopw [5,7] (fun sv kv wr=>∃ (k:Nat) (u:Value),u=sv/\k<=4/\kv = ah k/\wr.ownsRow w2.heap.size 3 1 u (H.dJ k).length (bg (H.dJ k))/\bV wr (D 1) (D 2) H.A/\aj (only (D 1)) w2 wr) (fun _ kv _=>4 - (intOf kv).toNat)
   case atStart=>exact ⟨0,_,rfl,by decide,rfl,Vl.out.1,Vl.out.2.1,Vl.out.2.2⟩
   case round =>
    obtain ⟨k,u,hu,hk,rfl,hown,hA,hkp⟩:=hrel
    subst hu
    have HO:=au (And.intro hown (And.intro hA hkp))
    clear hown hA hkp
    by_cases hlt:k<4
    ·have oz:(k:Int)<4:=by omega
     have hk0:(0:Int)<=(k:Int):=by omega
     have wS:=au (Rn.out wr k hlt (Vm.out wr HO.out.2.2 HO.out.2.1))
     go_wp2_with fail
     refine wS.out.mono ?_
     rintro e w7 ⟨v7,rfl,ho7,hh7,k7⟩
     have ho8:w7.ownsRow w2.heap.size 3 1 u (H.dJ k).length (bg (H.dJ k)):=fQ HO.out.1 k7 (fun B hB e=>by have:=(World.ownsRow.lt HO.out.1 B hB).1;have:=HD2.out.1;have:B=D 1:=e;omega)
     have hb9:=Au.out (k+1) hlt
     rw [X6.out,adu] at hb9
     have hk2:=HO.out.2.2.trans k7
     obtain ⟨v9,w9,hrun,hown9,hgr⟩:=yj ho8 hk2.size (dF ho7 (abZ _)) (by omega)
     rw [<- X6.out] at hown9
     have kg:aj (fun i=>u.ownBlock=some i) w7 w9:=⟨hgr.os,hgr.tape,hgr.output,hgr.size,fun k hk n=>hgr.block k hk (fun e=>n e.symm)⟩
     have hno:∀ b,b<w2.heap.size->¬ u.ownBlock=some b:=fun b hb e=>by have:=(World.ownsRow.lt ho8 b e).1;omega
     have Je:Hid (w9.ownsRow w2.heap.size 3 1 v9 (H.dJ (k+1)).length (bg (H.dJ (k+1)))/\bV w9 (D 1) (D 2) H.A/\aj (only (D 1)) w2 w9):=⟨hown9,hh7.jc.aH kg (hno _ HD2.out.1) (hno _ HD2.out.2.1),uZ ho8 hgr hk2 (fun b h1 h2=>by omega)⟩
     clear ho7 hh7 k7 ho8 hb9 hk2 hown9 hgr kg hno wS HO
     go_wp2_with fail
     exact ⟨⟨k+1,_,rfl,hlt,by go_num,Je.out.1,Je.out.2.1,Je.out.2.2⟩,by simp [intOf];omega⟩
    ·obtain rfl:k=4:=by omega
     have oz:¬ (((4:Nat):Int)<4):=by omega
     obtain ⟨sa,sc,e1,_⟩:=kE (dF HO.out.1 (abZ _))
     subst e1
     have Jj:Hid (wr.ownsRow w1.heap.size 3 1 v (bI H b).length (bg (bI H b))):=fQ oP.out HO.out.2.2 (fun B hB e=>by have:=(World.ownsRow.lt oP.out B hB).1;have:=HD2.out.2.2;have:B=D 1:=e;omega)
     obtain ⟨aa,ac,e2,_⟩:=kE (dF oP.out (abZ _))
     subst e2
     have nH:=au (qY.out wr (Vm.out wr HO.out.2.2 HO.out.2.1))
     have HHR:=au (Vm.out wr HO.out.2.2 HO.out.2.1)
     have X7:=au (HO.out.2.2)
     have X8:=au HO.out.1
     obtain ⟨L,hL⟩:∃ L,L=(bI H b).length:=⟨_,rfl⟩
     have hLS:=wP.out.1
     have Uf:(H.dJ 4).length=(bI H b).length:=wP.out.1
     have hLI:(L:Int)<=1048576:=by have:=wP.out.2.1;omega
     rw [<- hL] at Vk wP hLS Uf ⊢
     have X9:(bI H b).length=L:=hL.symm
     rw [hLS] at Vj ⊢
     rw [X9] at Jj
     rw [Uf] at X8
     generalize H.dJ 4=sl at *
     generalize bI H b=al at *
     clear HO hL Au Rn Vh Rl IY X6 mZ HT0 Vl oP HSL HT1
     go_wp2_with fail
     refine nH.out.mono ?_
     rintro e w7 ⟨rfl,k7⟩
     have HH7:=au (HHR.out.still k7)
     have HC7:=au (qY.out w7 HH7.out)
     have HK7:=au k7
     clear k7 nH
     go_wp2_with fail
     refine HC7.out.mono ?_
     rintro e w8 ⟨rfl,k8⟩
     have Ro:=au (HK7.out.trans k8)
     have hmk:∀ w:World,(Instr.makeSlice 122 (ah ((n:Int)+1)) (ah ((n:Int)+1))).run ay w = .ok (.slice (some ⟨w.heap.size,0,none⟩) (n+1) (n+1)) (w.alloc (.cells (eU (.bool false) (n+1)).toArray 4)):=fun w=>wM (P:=ay) (by kernel_rfl) Tryz.infoBool9 rfl (by decide) (n+1) (by have:=yF.out;omega) _ (by omega) w
     have ZP:(n:Int)<=1048576:=by have:=yF.out;omega
     obtain ⟨W9,vV⟩:∃ W9,W9=w8.alloc (.cells (eU (.bool false) (n+1)).toArray 4):=⟨_,rfl⟩
     have k9:aj aA w8 W9:=by rw [vV];exact (aj.refl _ _).alloc _
     have hq9:aB W9 w8.heap.size (zI (n+1) (sl.take 0)) 4:=by
      rw [vV,List.take_zero,Ws]
      exact aB.aW w8 _ _
     obtain ⟨Q,hQ⟩:∃ Q,Q=w8.heap.size:=⟨_,rfl⟩
     rw [<- hQ] at hq9
     have Ya:=au (gy X8.out Ro.out)
     have Yb:=au (gy Jj.out Ro.out)
     have HQ9:=au hq9
     have Vf:Hid (∀ i,i<L->∃ c,sa=some ⟨c,0,none⟩/\∀ W,aj (only Q) W9 W->W.cell? ⟨c,i,none⟩=some (ah ((sl.getD i 0:Nat):Int))):=fun i hi=>by
      obtain ⟨c,e1,_,hlt,hc⟩:=yh Ya.out (yg (by rw [Uf];exact hi))
      exact ⟨c,e1,fun W k=>k.jV (k9.still hc) (fun e=>by have e:c=Q:=e;omega)⟩
     have HAC:Hid (∀ i,i<L->∃ c,aa=some ⟨c,0,none⟩/\∀ W,aj (only Q) W9 W->W.cell? ⟨c,i,none⟩=some (ah ((al.getD i 0:Nat):Int))):=fun i hi=>by
      obtain ⟨c,e1,_,hlt,hc⟩:=yh Yb.out (yg (by rw [X9];exact hi))
      exact ⟨c,e1,fun W k=>k.jV (k9.still hc) (fun e=>by have e:c=Q:=e;omega)⟩
     have uQ:=au vV
     have HQE:=au hQ
     have WH:Hid (∀ W,aj (only Q) W9 W->aj (only (D 1)) w W):=fun W k=>by
      have h1:aj (only (D 1)) w W9:=(((Ji.out.mono (fun _ _ f=>f.elim)).trans X7.out).trans (Ro.out.mono (fun _ _ f=>f.elim))).trans (k9.mono (fun _ _ f=>f.elim))
      refine h1.jI k (fun i hi e=>?_)
      have e:i=Q:=e
      have g1:=Ji.out.size;have g2:=X7.out.size;have g3:=Ro.out.size
      omega
     clear vV k9 hq9 hQ HC7 X8 Jj Ya Yb HK7 Ro X7 HH7 HHR Vm Ji HD2 HD qY HH aZ bH
     go_wp2_with fail
     rw [<- uQ.out,<- HQE.out]
     go_loopw [9] (fun iv wr=>∃ i:Nat,i<=L/\iv = ah i/\aB wr Q (zI (n+1) (sl.take i)) 4/\aj (only Q) W9 wr) (fun iv _=>L - (intOf iv).toNat)
     case atStart=>exact ⟨0,abZ _,rfl,HQ9.out,aj.refl _ _⟩
     case round =>
      obtain ⟨i,hi,rfl,hq,hkq⟩:=hrel
      by_cases hlt:i<L
      ·obtain ⟨c,rfl,hc⟩:=Vf.out i hlt
       obtain ⟨p1,p2,p3,p4⟩:=Vj.out i hlt
       have hcc:=hc wr hkq
       have hqc:=hq.cell (sl.getD i 0) (Rk (l:=sl.take i) (show sl.getD i 0<n+1 by omega))
       rw [p3] at hqc
       have hqf:=hq.free (sl.getD i 0)
       have MR:Hid (aB (wr.setCell ⟨Q,sl.getD i 0,none⟩ (.bool true)) Q (zI (n+1) (sl.take (i+1))) 4/\aj (only Q) W9 (wr.setCell ⟨Q,sl.getD i 0,none⟩ (.bool true))):=by
        refine ⟨?_,hkq.put _ _⟩
        rw [p4,<- Wu]
        exact hq.set _ _
       have Y4:(i:Int)<(L:Int):=by omega
       have hi0:(0:Int)<=(i:Int):=by omega
       have lQ:=au hlt
       generalize sl.getD i 0=x at *
       have hx1:(1:Int)<=(x:Int):=by omega
       have hx0:(0:Int)<=(x:Int):=by omega
       have hx2:(x:Int)<(n:Int)+1:=by omega
       have hx3:decide ((x:Int)<1)=false:=dD (by omega)
       have hx4:decide ((n:Int)+1<=(x:Int))=false:=dD (by omega)
       clear hi hq hkq hc p1 p2 p3 p4 hlt
       go_wp2_with fail
       exact ⟨⟨i+1,lQ.out,by go_num,MR.out.1,MR.out.2⟩,by have:=lQ.out;simp [intOf];omega⟩
      ·obtain rfl:i=L:=by omega
       have Y4:¬ (i:Int)<(i:Int):=by omega
       have htk:sl.take i=sl:=List.take_of_length_le (by omega)
       rw [htk] at hq
       have HQF:Hid (∀ W,aj aA wr W->aB W Q (zI (n+1) sl) 4):=fun W k=>k.aC hq (fun f=>f)
       have HKQ:=au hkq
       clear hi hq hkq hlt htk Vf Vj
       go_wp2_with fail
       generalize wr=Wo at *
       go_loopw [10] (fun iv wr=>∃ j:Nat,j<=i/\iv = ah j/\aj aA Wo wr) (fun iv _=>i - (intOf iv).toNat)
       case atStart=>exact ⟨0,abZ _,rfl,aj.refl _ _⟩
       case round =>
        obtain ⟨j,hj,rfl,hk⟩:=hrel
        have HK:=au hk
        by_cases hlt:j<i
        ·obtain ⟨c,rfl,hc⟩:=HAC.out j hlt
         have hcc:=hc wr (HKQ.out.trans (hk.mono (fun _ _ f=>f.elim)))
         obtain ⟨p1,p2,p3⟩:=Vk.out j hlt
         have hqc:=(HQF.out wr hk).cell (al.getD j 0) (Rk (l:=sl) (show al.getD j 0<n+1 by omega))
         rw [p1] at hqc
         have Y5:(j:Int)<(i:Int):=by omega
         have hj0:(0:Int)<=(j:Int):=by omega
         have lQ:=au hlt
         generalize al.getD j 0=x at *
         have hx0:(0:Int)<=(x:Int):=by omega
         have hx2:(x:Int)<(n:Int)+1:=by omega
         clear hj hk hc p1 p2 p3 hlt
         go_wp2_with fail
         exact ⟨⟨j+1,lQ.out,by go_num,HK.out⟩,by have:=lQ.out;simp [intOf];omega⟩
        ·obtain rfl:j=i:=by omega
         have Y5:¬ (j:Int)<(j:Int):=by omega
         clear hj hk hlt
         go_wp2_with fail
         go_ret
         exact ⟨rfl,WH.out _ (HKQ.out.trans (HK.out.mono (fun _ _ f=>f.elim)))⟩
end
end
section
def dO (A:List Nat) (x:Int):Nat:=if 1<=x/\x<=(A.length:Int) then A.getD (x - 1).toNat 0 else 0
section
variable {A:List Nat} {x:Int}
theorem Jk (h:1<=x/\x<=(A.length:Int)):∃ i:Nat,x=(i:Int)+1/\∃ a,A[i]?=some a/\dO A x=a:=by
 refine ⟨(x - 1).toNat,by omega,A.getD (x - 1).toNat 0,?_,?_⟩
 ·rw [ace,abr (by omega)];rfl
 ·unfold dO;rw [aV h]
theorem kK:dO A 0=0:=by unfold dO;rw [aO (by omega)]
theorem Rq (v:Nat) (_h0:0<=x) (h:x<=(A.length:Int)):dO (A++[v]) x=dO A x:=by
 unfold dO
 by_cases h1:1<=x
 ·rw [aV ⟨h1,by simp;omega⟩,aV ⟨h1,h⟩]
  rw [ace,abo (by omega),<- ace]
 ·rw [aO (fun h=>h1 h.1),aO (fun h=>h1 h.1)]
theorem FD (v:Nat):dO (A++[v]) ((A.length:Int)+1)=v:=by
 unfold dO
 rw [aV ⟨by omega,by simp⟩]
 have e:((A.length:Int)+1 - 1).toNat=A.length:=by omega
 rw [e];simp
end
theorem jw (L:List bF) (k m n h k' m' n':Int):dw (fJ L k m n h) k' m' n'=if k'=k/\m'=m/\n'=n then h else dw L k' m' n':=by
 split
 ·rename_i e
  obtain ⟨rfl,rfl,rfl⟩:=e
  exact I5 _ _ _ _ _
 ·rename_i e
  exact F5 _ _ e
structure iI (c:aS) (H:HS) (R A:List Nat) (S:List Int) (L:List bF):Prop where
 dQ:dB H
 len:S.length=A.length
 nd:A.Nodup
 bn:∀ a,H.bn a=true↔a∈A
 kP:∀ k m n,0<=dw L k m n/\dw L k m n<=(A.length:Int)
 rl:(R.length:Int)=c.r
 cl:(H.cells.length:Int)=c.c
 fP:∀ r:Nat,r<R.length->R.getD r 0=dO A (dw L 1 0 r)
 pI:∀ i:Nat,i<H.cells.length->H.cells.getD i 0=dO A (dw L 2 0 i)
 qC:∀ (i a:Nat),A[i]?=some a->S.getD i 0=(H.nf a:Int)
 FH:∀ (i a j:Nat),A[i]?=some a->j<H.nf a->H.dV (a+1+j)=dO A (dw L 3 ((i:Int)+1) j)
 aW:∀ m n,(A.length:Int)<m->dw L 3 m n=0
 kl:H.K.length=H.b
structure nP (H H':HS):Prop where
 bn:∀ a,H'.bn a=H.bn a
 pI:H'.cells=H.cells
 kl:H'.K.length=H.K.length/\H'.b=H.b
 wd:∀ a,H.bn a=true->∀ j,j<=H.nf a->H'.dV (a+j)=H.dV (a+j)
section
variable {c:aS} {H H':HS} {R A:List Nat} {S:List Int} {L:List bF}
theorem Mc {a:Nat} (h:H'.dV a=H.dV a):H'.nf a=H.nf a:=by unfold HS.nf HS.kN;rw [h]
theorem qQ {a:Nat} (h:H.bn a=true):H.sU a=true:=by unfold HS.sU;rw [h];rfl
theorem nP.refl:nP H H:=⟨fun _=>rfl,rfl,⟨rfl,rfl⟩,fun _ _ _ _=>rfl⟩
theorem iI.Jl (h:iI c H R A S L) {a:Nat} (ha:a∈A):1<=a/\a<=H.n:=by
 obtain ⟨B,k,f,ho,_⟩:=h.dQ.jh a ((h.bn a).2 ha)
 have:=dK ho
 exact ⟨this.1,this.2.1⟩
theorem iI.told (h:iI c H R A S L) {x:Int} (h0:0<=x) (h1:x<=(A.length:Int)):(dO A x=0↔x=0)/\dO A x<=H.n:=by
 by_cases e:x=0
 ·subst e
  rw [kK]
  exact ⟨⟨fun _=>rfl,fun _=>rfl⟩,abZ _⟩
 ·obtain ⟨i,hi,a,ha,ht⟩:=Jk (A:=A) (x:=x) ⟨by omega,h1⟩
  have hp:=h.Jl (adp ha)
  rw [ht]
  exact ⟨⟨fun h=>by omega,fun h=>absurd h e⟩,hp.2⟩
theorem iI.same (h:iI c H R A S L) (s:nP H H') (hi:dB H'):iI c H' R A S L:=by
 have hb:∀ (i a:Nat),A[i]?=some a->H.bn a=true:=fun i a ha=>(h.bn a).2 (adp ha)
 have hn:∀ (i a:Nat),A[i]?=some a->H'.nf a=H.nf a:=fun i a ha=>Mc (by simpa using s.wd a (hb i a ha) 0 (abZ _))
 refine ⟨hi,h.len,h.nd,fun a=>by rw [s.bn a];exact h.bn a,h.kP,h.rl,by rw [s.pI];exact h.cl,h.fP,fun i hi2=>by rw [s.pI] at hi2 ⊢;exact h.pI i hi2,fun i a ha=>by rw [hn i a ha];exact h.qC i a ha,fun i a j ha hj=>?_,h.aW,by rw [s.kl.1,s.kl.2];exact h.kl⟩
 rw [hn i a ha] at hj
 have:=s.wd a (hb i a ha) (1+j) (by omega)
 rw [<- acQ] at this
 rw [this]
 exact h.FH i a j ha hj
theorem DL (hi:dB H) {x:Nat} (hx:(H.dY x).isSome=true) (hb:H.bn x=false) {a:Nat} (ha:H.bn a=true) {j:Nat} (hj:j<=H.nf a):a+j≠x:=by
 intro e
 cases j with
 | zero=>simp at e;subst e;rw [ha] at hb;cases hb
 | succ j =>
   have:=(hi.field (qQ ha) (f:=j) (by omega)).1
   rw [show a+1+j=x by omega] at this
   rw [this] at hx;cases hx
theorem yt (hi:dB H) {a b:Nat} (ha:H.sU a=true) (hb:H.sU b=true) (hne:a≠b) {i j:Nat} (hi1:i<=H.nf a) (hj:j<=H.nf b):a+i≠b+j:=by
 intro e
 obtain ⟨Ba,ka,ma,oa,_⟩:=hi.PG ha
 obtain ⟨Bb,kb,mb,ob,_⟩:=hi.PG hb
 rcases acI a b with h1|h1
 ·have:=(hi.field ha (f:=b - a - 1) (by omega)).1
  rw [show a+1+(b - a - 1)=b by omega,ob] at this;cases this
 ·have:=(hi.field hb (f:=a - b - 1) (by omega)).1
  rw [show b+1+(a - b - 1)=a by omega,oa] at this;cases this
theorem Rt (k:Nat):nP H (H.dh k).2.2:=by
 unfold HS.dh
 split
 ·exact nP.refl
 ·exact ⟨fun _=>rfl,rfl,⟨rfl,rfl⟩,fun _ _ _ _=>rfl⟩
theorem KJ (k:Nat):nP H (H.bT k).2.2:=by
 unfold HS.bT
 split
 ·exact nP.refl
 ·exact ⟨fun _=>rfl,rfl,⟨acg ..,rfl⟩,fun _ _ _ _=>rfl⟩
theorem zJ (hi:dB H) {x v:Nat} (hx1:1<=x) (hx2:x<=H.b*H.ww) (hA:H'.A=H.A.set (x - 1) v) (hb:H'.bn=H.bn) (hc:H'.cells=H.cells) (hkl:H'.K.length=H.K.length/\H'.b=H.b) (hap:∀ a,H.bn a=true->∀ j,j<=H.nf a->a+j≠x):nP H H':=by
 refine ⟨fun a=>by rw [hb],hc,hkl,fun a ha j hj=>?_⟩
 unfold HS.dV
 rw [hA,qo hx1 (by have:=hi.lU;omega),aO (hap a ha j hj)]
theorem Ug (hi:dB H) (a:Nat):nP H (H.fA a):=by
 unfold HS.fA
 split
 ·exact nP.refl
 ·rename_i B k ho
  split
  ·exact nP.refl
  ·rename_i hc
   simp only [Bool.or_eq_true,not_or,Bool.not_eq_true] at hc
   have hs:=dK ho
   exact zJ hi (x:=a) hs.1 hs.2.1 rfl rfl rfl ⟨rfl,rfl⟩ (fun b hb j hj=>DL hi (by rw [ho];rfl) hc.1 hb hj)
theorem lC {a:Nat}:H.jH a=true↔(H.dY a).isSome=true/\H.bn a=false/\H.eY a=false:=by
 unfold HS.jH
 simp [and_assoc]
theorem OQ (hi:dB H) (a:Nat) (f:Int):nP H (H.jf a f):=by
 unfold HS.jf
 split
 ·exact nP.refl
 ·rename_i B k ho
  split
  ·rename_i hc
   simp only [acu] at hc
   have hh:=lC.1 hc.1.1
   have hs:=dK ho
   exact zJ hi (x:=a) hs.1 hs.2.1 rfl rfl rfl ⟨rfl,rfl⟩ (fun b hb j hj=>DL hi hh.1 hh.2.1 hb hj)
  ·exact nP.refl
theorem OT (hi:dB H) {a:Nat} (hh:H.jH a=true) (f:Int) (v:Nat):nP H (H.dX a f v):=by
 unfold HS.dX
 split
 ·rename_i he
  have hl:H.jm a f=0:=by
   unfold HS.lV at he
   split at he
   ·assumption
   ·rename_i h1;exact absurd he h1
  unfold HS.jm at hl
  split at hl
  ·rename_i ho
   split at hl
   ·cases hl
   ·rename_i hf
    have hO:H.sU a=true:=by
     unfold HS.lH at ho
     split at ho
     ·cases ho
     ·split at ho
      ·assumption
      ·cases ho
    have hfl:=hi.field hO (f:=f.toNat) (by omega)
    refine zJ hi (x:=a+1+f.toNat) (by omega) hfl.2.1 rfl rfl rfl ⟨rfl,rfl⟩ (fun b hb j hj=>?_)
    have hne:b≠a:=fun e=>by rw [e,(lC.1 hh).2.1] at hb;cases hb
    rw [acQ]
    exact yt hi (qQ hb) hO hne hj (by omega)
  ·rename_i h1;exact absurd hl h1
 ·exact nP.refl
end
section
variable {c:aS} {H H':HS} {R A:List Nat} {S:List Int} {L:List bF}
theorem iI.Em (h:iI c H R A S L) {x:Int} (h0:0<=x) (h1:x<=(A.length:Int)) (k m n:Int):∀ k' m' n',0<=dw (fJ L k m n x) k' m' n'/\dw (fJ L k m n x) k' m' n'<=(A.length:Int):=fun k' m' n'=>by
 rw [jw]
 split
 ·exact ⟨h0,h1⟩
 ·exact h.kP k' m' n'
theorem BJ {l:List Nat} {i:Nat} (hi:i<l.length) (v q:Nat):(l.set i v).getD q 0=if q=i then v else l.getD q 0:=by
 split
 ·rename_i e;subst e;exact nV hi v
 ·rename_i e;exact ug (fun e'=>e e'.symm) v
theorem iI.yZ (h:iI c H R A S L) {r x:Int} (hr:0<=r/\r<c.r) (h0:0<=x) (h1:x<=(A.length:Int)):iI c H (R.set r.toNat (dO A x)) A S (fJ L 1 0 r x):=by
 have hl:=h.rl
 refine ⟨h.dQ,h.len,h.nd,h.bn,h.Em h0 h1 _ _ _,by simpa using h.rl,h.cl,fun q hq=>?_,fun i hi=>?_,h.qC,fun i a j ha hj=>?_,fun m n hm=>?_,h.kl⟩
 ·have hq':q<R.length:=by simpa using hq
  rw [BJ (by omega),jw]
  by_cases e:q=r.toNat
  ·rw [aV e,aV ⟨rfl,rfl,by omega⟩]
  ·rw [aO e,aO (fun e'=>e (by have:=e'.2.2;omega))]
   exact h.fP q hq'
 ·rw [jw,aO (fun e'=>by have:=e'.1;omega)]
  exact h.pI i hi
 ·rw [jw,aO (fun e'=>by have:=e'.1;omega)]
  exact h.FH i a j ha hj
 ·rw [jw,aO (fun e'=>by have:=e'.1;omega)]
  exact h.aW m n hm
theorem iI.GY (h:iI c H R A S L) {r x:Int} (hr:0<=r/\r<c.c) (h0:0<=x) (h1:x<=(A.length:Int)):iI c (H.setCell r.toNat (dO A x)) R A S (fJ L 2 0 r x):=by
 have hl:=h.cl
 refine ⟨h.dQ.setCell _ _ (h.told h0 h1).2,h.len,h.nd,h.bn,h.Em h0 h1 _ _ _,h.rl,by show ((H.cells.set _ _).length:Int)=c.c;rw [acg];exact h.cl,fun q hq=>?_,fun i hi=>?_,h.qC,fun i a j ha hj=>?_,fun m n hm=>?_,h.kl⟩
 ·rw [jw,aO (fun e'=>by have:=e'.1;omega)]
  exact h.fP q hq
 ·have hi':i<H.cells.length:=by
   have:i<(H.cells.set r.toNat (dO A x)).length:=hi
   simpa using this
  show (H.cells.set r.toNat (dO A x)).getD i 0=_
  rw [BJ (by omega),jw]
  by_cases e:i=r.toNat
  ·rw [aV e,aV ⟨rfl,rfl,by omega⟩]
  ·rw [aO e,aO (fun e'=>e (by have:=e'.2.2;omega))]
   exact h.pI i hi'
 ·rw [jw,aO (fun e'=>by have:=e'.1;omega)]
  exact h.FH i a j ha hj
 ·rw [jw,aO (fun e'=>by have:=e'.1;omega)]
  exact h.aW m n hm
theorem iI.Yc (h:iI c H R A S L) {i a:Nat} (ha:A[i]?=some a) {f x:Int} (hf:0<=f/\f<(H.nf a:Int)) (h0:0<=x) (h1:x<=(A.length:Int)):iI c (H.jC (a+1+f.toNat) (dO A x)) R A S (fJ L 3 ((i:Int)+1) f x):=by
 have hb:∀ {j b:Nat},A[j]?=some b->H.bn b=true:=fun hj=>(h.bn _).2 (adp hj)
 have Yd:=qQ (hb ha)
 have hfl:=h.dQ.field Yd (f:=f.toNat) (by omega)
 have hal:a+1+f.toNat<=H.A.length:=by have:=h.dQ.lU;omega
 have hw:∀ y,(H.jC (a+1+f.toNat) (dO A x)).dV y=if y=a+1+f.toNat then dO A x else H.dV y:=fun y=>qo (by omega) hal _ y
 have hv:dO A x<kU:=by
  have:=(h.told h0 h1).2
  have:=h.dQ.sV
  unfold HS.n at *
  unfold kU
  omega
 have hn:∀ {j b:Nat},A[j]?=some b->(H.jC (a+1+f.toNat) (dO A x)).nf b=H.nf b:=fun {j b} hj=>Mc (by
  rw [hw,aO]
  intro e
  by_cases e':b=a
  ·omega
  ·exact yt h.dQ (qQ (hb hj)) Yd e' (i:=0) (j:=1+f.toNat) (abZ _) (by omega) (by omega))
 refine ⟨h.dQ.jC (by omega) hfl.2.1 hfl.1 hfl.2.2.2 hv,h.len,h.nd,h.bn,h.Em h0 h1 _ _ _,h.rl,h.cl,fun q hq=>?_,fun q hq=>?_,fun j b hj=>?_,fun j b k hj hk=>?_,fun m n hm=>?_,h.kl⟩
 ·rw [jw,aO (fun e'=>by have:=e'.1;omega)]
  exact h.fP q hq
 ·rw [jw,aO (fun e'=>by have:=e'.1;omega)]
  exact h.pI q hq
 ·rw [hn hj];exact h.qC j b hj
 ·rw [hn hj] at hk
  rw [hw,jw]
  by_cases e:b=a
  ·subst e
   have hij:j=i:=by
    have hi1:=(abl.1 hj).1
    exact (List.getElem?_inj hi1 h.nd).1 (hj.trans ha.symm)
   subst hij
   by_cases e2:(k:Int)=f
   ·rw [aV (by omega),aV ⟨rfl,rfl,e2⟩]
   ·rw [aO (by omega),aO (fun e'=>e2 e'.2.2)]
    exact h.FH j b k hj hk
  ·have hij:(j:Int)+1≠(i:Int)+1:=fun e'=>by
    have:j=i:=by omega
    subst this
    rw [hj] at ha;cases ha;exact e rfl
   rw [aO,aO (fun e'=>hij e'.2.1)]
   ·exact h.FH j b k hj hk
   ·have:=yt h.dQ (qQ (hb hj)) Yd e (i:=1+k) (j:=1+f.toNat) (by omega) (by omega)
    omega
 ·rw [jw,aO (fun e'=>?_)]
  ·exact h.aW m n hm
  ·have h2:=e'.2.1
   have:=(abl.1 ha).1
   omega
theorem iI.add (h:iI c H R A S L) {a n:Nat} (hh:H.jH a=true) (hd:H.kN a=some n) (hz:∀ j,j<n->H.dV (a+1+j)=0) (cl:Bool) {r:Int} (hr:0<=r/\r<c.r) :
 iI c (H.rE a cl) (R.set r.toNat a) (A++[a]) (S++[(n:Int)]) (fJ L 1 0 r ((S.length:Int)+1))/\a∉A:=by
 obtain ⟨h1,h2,h3⟩:=lC.1 hh
 obtain ⟨⟨B,k⟩,ho⟩:=acP.1 h1
 have hna:a∉A:=fun hm=>by rw [(h.bn a).2 hm] at h2;cases h2
 have hnf:H.nf a=n:=by unfold HS.nf;rw [hd];rfl
 have hl:=h.rl
 have hln:=h.len
 have hget:∀ {i b:Nat},(A++[a])[i]?=some b->(i<A.length/\A[i]?=some b)\/(i=A.length/\b=a):=fun {i b} hi=>by
  rcases acI i A.length with g|g
  ·rw [abo g] at hi;exact .inl ⟨g,hi⟩
  ·rw [List.getElem?_append_right g] at hi
   have:i - A.length=0:=by
    rcases acX (i - A.length) with e|e
    ·exact e
    ·rw [acK (by simp;omega)] at hi;cases hi
   rw [this] at hi
   simp at hi
   exact .inr ⟨by omega,hi.symm⟩
 have hap:∀ k m n,dO (A++[a]) (dw L k m n)=dO A (dw L k m n):=fun k m n=>Rq a (h.kP k m n).1 (h.kP k m n).2
 refine ⟨⟨h.dQ.rE cl ho h3 hd,by simp;omega,?_,fun b=>?_,fun k' m' n'=>?_,by simpa using h.rl,h.cl,fun q hq=>?_,fun i hi=>?_,fun i b hi=>?_,fun i b j hi hj=>?_,fun m n hm=>?_,h.kl⟩,hna⟩
 ·rw [adC]
  refine ⟨h.nd,by simp,fun x hx y hy=>?_⟩
  simp at hy
  subst hy
  exact fun e=>hna (by rw [<- e];exact hx)
 ·show jL H.bn a true b=true↔_
  unfold jL
  by_cases e:b=a
  ·subst e;simp
  ·rw [aO e,h.bn b]
   simp [e]
 ·rw [jw]
  split
  ·simp;omega
  ·have:=h.kP k' m' n'
   simp;omega
 ·have hq':q<R.length:=by simpa using hq
  rw [BJ (by omega),jw]
  by_cases e:q=r.toNat
  ·rw [aV e,aV ⟨rfl,rfl,by omega⟩,h.len,FD]
  ·rw [aO e,aO (fun e'=>e (by have:=e'.2.2;omega)),hap]
   exact h.fP q hq'
 ·rw [jw,aO (fun e'=>by have:=e'.1;omega),hap]
  exact h.pI i hi
 ·show (S++[(n:Int)]).getD i 0=(H.nf b:Int)
  rcases hget hi with ⟨g,hb⟩|⟨rfl,rfl⟩
  ·rw [ace,abo (by omega),<- ace]
   exact h.qC i b hb
  ·rw [ace,<- hln,hnf]
   simp
 ·have hj':j<H.nf b:=hj
  show H.dV (b+1+j)=_
  rw [jw,aO (fun e'=>by have:=e'.1;omega),hap]
  rcases hget hi with ⟨g,hb⟩|⟨rfl,rfl⟩
  ·exact h.FH i b j hb hj'
  ·rw [h.aW _ _ (by omega),kK]
   exact hz j (by omega)
 ·rw [jw,aO (fun e'=>by have:=e'.1;omega)]
  exact h.aW m n (by simp at hm;omega)
end
end
end Go.Proofs.YtobfpmijbfgmeabGreatDoor
