/- Parts of the iy. No conditions. -/
import Derived.Test.YtanfphjoebobaaaGreatDoorZzfu
import Derived.Shelf.Spec.TrailingZeros
import Derived.Lib.MinMax
namespace Go.Proofs.YtanfphjoebobaaaGreatDoor
open _root_.Array renaming getElem?_eq_some_iff->ajW,replicate_succ->akY
open _root_.Bool renaming and_false->alc,eq_false_iff->akL,false_ne_true->ald
open _root_.Go.IntWalk renaming i64_in->ajw
open _root_.Go.World renaming putObj_heap_other->ajV
open _root_.Int renaming tmod_eq_emod_of_nonneg->ali
open _root_.List renaming append_toArray->ala,find?_eq_none->alb,getD_eq_getElem?_getD->ajg,getElem?_eq_getElem->ajh,getElem?_eq_none_iff->alf,getElem?_eq_some_iff->ake,getElem_mem->aji,getElem_of_mem->alg,length_cons->akn,length_nil->ako,mem_of_getElem?->alh,mem_range->akB,nil_append->akr,push_toArray->akZ,range->akS,size_toArray->akX
open _root_.Nat renaming div_le_self->ajx,le_of_lt->akb,le_refl->aje,le_trans->ajU,lt_of_le_of_lt->ale,lt_of_lt_of_le->ajf,lt_succ_self->ajZ,mod_lt->akI,zero_le->aki
open _root_.Go.Proofs.Tryz hiding prog
open _root_.Go.Proofs.Tryz renaming prog->aA
set_option maxRecDepth 100000
set_option maxHeartbeats 4000000
section
attribute [local go_sem] Oper.semAt_some
open Go.RowKit
section
variable {w w':World} {D:Nat->Nat} {H:HS}
theorem PD {f:Nat} (hf:f<=3):oh f<2:=by
 unfold oh
 split
 ·decide
 ·split
  ·decide
  ·split
   ·decide
   ·omega
theorem Yq (h:aI w D H) (k:Nat) (hk:k<4) (ht:(H.iT k).2.1≠0) (ha:(H.gq k).2.1≠0):Calls aA 114 #[au (D 0),ah (k:Int)] w fun e w'=>e = .returned (.tuple #[ah ((H.iw k).1:Int),ah ((H.iw k).2.1:Int)])/\aI w' D (H.iw k).2.2/\aj (HF D) w w':=by
 have e:H.iw k=(0,10,H):=by unfold HS.iw;rw [aT ht,aT ha]
 rw [e]
 have ht12:(H.iT k).2.1=12/\(H.iT k).2.2=H:=by
  unfold HS.iT at ht ⊢
  split
  ·exact ⟨rfl,rfl⟩
  ·rename_i e;rw [e] at ht;exact absurd rfl ht
 have ha10:(H.gq k).2.1=10/\(H.gq k).2.2=H/\(H.gq k).1=[]:=by
  unfold HS.gq at ha ⊢
  split
  ·exact ⟨rfl,rfl,rfl⟩
  ·rename_i e;rw [e] at ha;exact absurd rfl ha
 obtain ⟨W0,hW0⟩:∃ W0,W0=w.alloc (.cells #[au (D 0)] 47):=⟨_,rfl⟩
 have k0:aj aB w W0:=by rw [hW0];exact (aj.refl _ _).alloc _
 have hb0:aF W0 w.heap.size [au (D 0)] 47:=by rw [hW0];exact aF.bC w _ _
 have hDw:∀ i,i<13->D i<w.heap.size:=h.Lj
 have HT:Hid (Calls aA 159 #[au (D 0),ah (k:Int)] W0 fun e w'=>(∃ a:Int,e = .returned (.tuple #[ah a,ah 12]))/\aI w' D H/\aj (HF D) w w'/\w'.cell? ⟨w.heap.size,0,none⟩=some (au (D 0))):=by
  refine (G6 (h.still k0) k hk).mono ?_
  rintro e w' ⟨rfl,h1,k1⟩
  rw [ht12.1] at *
  rw [ht12.2] at h1
  refine ⟨⟨_,rfl⟩,h1,(k0.mono (fun _ _ f=>f.elim)).trans k1,(k1.aH hb0 (fun hh=>?_)).cell 0 rfl⟩
  obtain ⟨i,hi,e⟩:=hh
  have:=hDw i hi
  omega
 have HA:Hid (∀ W,aI W D H->aj (HF D) w W->Calls aA 160 #[au (D 0),ah (k:Int)] W fun e w'=>(∃ a n c,e = .returned (.tuple #[.slice a n c,ah 10]))/\aI w' D H/\aj (HF D) w w'):=fun W hW hk'=>by
  refine (Jl hW k hk).mono ?_
  rintro e w' ⟨v,rfl,ho,h1,k1⟩
  rw [ha10.1]
  rw [ha10.2.1] at h1
  obtain ⟨a,c,rfl,_⟩:=gy (bQ ho (aki _))
  exact ⟨⟨_,_,_,rfl⟩,h1,hk'.trans k1⟩
 have HW0:=ay hW0
 clear h ht ha e hDw ht12 ha10 hb0 k0 hW0
 go_enter func114,ntmps114
 go_wp2_with fail
 rw [<- HW0.out]
 refine HT.out.mono ?_
 rintro e w1 ⟨⟨a,rfl⟩,h1,k1,z0⟩
 have HA1:=ay (HA.out w1 h1 k1)
 clear h1 k1 HT HA
 go_wp2_with fail
 refine HA1.out.mono ?_
 rintro e w2 ⟨⟨a2,n2,c2,rfl⟩,h2,k2⟩
 have HE:=ay (And.intro h2 k2)
 clear h2 k2 HA1 z0
 go_wp2_with fail
 go_ret2
 exact ⟨rfl,HE.out.1,HE.out.2⟩
theorem TF (h:aI w D H) (k:Nat) (hk:k<2) (ha:(H.gq k).2.1=0):2<=(H.gq k).1.length/\(H.gq k).1.length<=256:=by
 have hn:=qH h.ji.ok h.ji.len h.cw
 unfold HS.gq at ha ⊢
 split at ha
 ·cases ha
 ·rename_i B hB
  have hlt:B<H.K.length:=by
   obtain ⟨hh,_⟩:=List.findIdx?_eq_some_iff_getElem.1 hB
   exact hh
  simp only [hB]
  unfold HS.bH
  have e1:(H.assign B k).K.getD B 0=k+1:=by
   show (H.K.set B (k+1)).getD B 0=_
   rw [ajg,List.getElem?_set_self hlt]
   rfl
  rw [e1,aT (by omega),wL]
  show 2<=H.ww/2^(k+1)/\H.ww/2^(k+1)<=256
  have h1:H.ww/2^(k+1)<=H.ww:=ajx _ _
  have h2:4<=H.ww/2^(k+1):=by
   rw [Nat.le_div_iff_mul_le (Nat.pos_of_ne_zero (by simp))]
   rcases (by omega:k=0\/k=1) with rfl|rfl<;>omega
  omega
theorem PE (h:aI w D H) (k:Nat) (hk:k<2):Calls aA 114 #[au (D 0),ah (k:Int)] w fun e w'=>e = .returned (.tuple #[ah ((H.iw k).1:Int),ah ((H.iw k).2.1:Int)])/\aI w' D (H.iw k).2.2/\aj (HF D) w w':=by
 by_cases ht:(H.iT k).2.1=0
 ·exact Yp h k (by omega) ht
 ·by_cases ha:(H.gq k).2.1=0
  ·obtain ⟨h1,h2⟩:=TF h k hk ha
   exact TB h k (by omega) ht ha h1 h2
  ·exact Yq h k (by omega) ht ha
theorem aaD (f c:Nat) (hf:f<=15) (hc:c<2) (w:World) (he:(H.iw (oh f)).2.1=0) (hS:jk w)
 (hSl:Calls aA 114 #[au (D 0),ah (oh f:Int)] w fun e w'=>e = .returned (.tuple #[ah ((H.iw (oh f)).1:Int),ah ((H.iw (oh f)).2.1:Int)])/\aI w' D (H.iw (oh f)).2.2/\aj (HF D) w w'):Calls aA 71 #[au (D 0),ah (f:Int),ah (c:Int)] w fun e w'=>(∃ va vb:Int,e = .returned (.tuple #[ah va,ah vb]))/\aI w' D (H.vN f c).2/\aj (HF D) w w':=by
 have e:H.vN f c=((H.iw (oh f)).1,(((H.iw (oh f)).2.2.kR (H.iw (oh f)).1 f).pV (H.iw (oh f)).1 f).oV (H.iw (oh f)).1 c):=by unfold HS.vN;rw [aZ he]
 rw [e]
 rw [he] at hSl
 have HSL:=ay hSl
 have PG:Hid (Calls aA 112 #[ah (f:Int)] w fun e w'=>e = .returned (.tuple #[ah (oh f:Int),.bool true])/\w=w'):=by
  exact Wp (f:Int) (by omega) (by omega) w hS
 have uO:Hid (∀ W,Calls aA 113 #[ah (c:Int)] W fun e w'=>e = .returned (.bool true)/\W=w'):=fun W=>by
  rcases (by omega:c=0\/c=1) with rfl|rfl
  all_goals
   go_enter func113,ntmps113
   go_wp2_with fail
   go_ret
   exact ⟨rfl,rfl⟩
 generalize (H.iw (oh f)).1=a at *
 generalize (H.iw (oh f)).2.2=H2 at *
 have HBG:Hid (∀ W,aI W D H2->Calls aA 115 #[au (D 0),ah (a:Int),ah (f:Int)] W fun e w'=>(∃ er:Int,e = .returned (ah er))/\aI w' D (H2.kR a f)/\aj (HF D) W w'):=fun W hW=>XK hW a f hf
 have HST:Hid (∀ W i,aI W D ((H2.kR a f).pV a i)->Calls aA 72 #[au (D 0),ah (a:Int),ah (i:Int),ah 0] W fun e w'=>(∃ er:Int,e = .returned (ah er))/\aI w' D ((H2.kR a f).pV a (i+1))/\aj (HF D) W w'):=fun W i hW=>by
  refine (Lm hW a (i:Int) 0).mono ?_
  rintro e w' ⟨rfl,h1,k1⟩
  exact ⟨⟨_,rfl⟩,h1,k1⟩
 have HBE:Hid (∀ W,aI W D ((H2.kR a f).pV a f)->Calls aA 116 #[au (D 0),ah (a:Int),ah (c:Int)] W fun e w'=>(∃ er:Int,e = .returned (ah er))/\aI w' D (((H2.kR a f).pV a f).oV a c)/\aj (HF D) W w'):=fun W hW=>by
  refine (ZO hW a c).mono ?_
  rintro e w' ⟨rfl,g1,g2⟩
  exact ⟨⟨_,rfl⟩,g1,g2⟩
 have hf0:(f:Int)<=15:=by omega
 have hw0:aI w D H2->True:=fun _=>trivial
 show Calls aA 71 #[au (D 0),ah (f:Int),ah (c:Int)] w fun e w'=>(∃ va vb:Int,e = .returned (.tuple #[ah va,ah vb]))/\aI w' D (((H2.kR a f).pV a f).oV a c)/\aj (HF D) w w'
 generalize H2.kR a f=H3 at *
 clear hSl hS he e hw0
 go_enter func71,ntmps71
 go_wp2_with fail
 refine PG.out.mono ?_
 rintro e w1 ⟨rfl,rfl⟩
 go_wp2_with fail
 refine (uO.out _).mono ?_
 rintro e w1 ⟨rfl,rfl⟩
 go_wp2_with fail
 refine HSL.out.mono ?_
 rintro e w1 ⟨rfl,h1,k1⟩
 have HB1:=ay (HBG.out w1 h1)
 have bI:=ay k1
 clear h1 k1 HSL HBG PG uO
 go_wp2_with fail
 refine HB1.out.mono ?_
 rintro e w2 ⟨⟨er,rfl⟩,h2,k2⟩
 have HI0:Hid (aI w2 D (H3.pV a 0)/\aj (HF D) w w2):=⟨h2,bI.out.trans k2⟩
 clear h2 k2 HB1 bI
 go_wp2_with fail
 go_loopw [39] (fun i wr=>∃ j:Nat,j<=f/\i = ah j/\aI wr D (H3.pV a j)/\aj (HF D) w wr) (fun i _=>f - (intOf i).toNat)
 case atStart=>exact ⟨0,aki _,rfl,HI0.out.1,HI0.out.2⟩
 case round =>
  obtain ⟨j,hj,rfl,hh,hk⟩:=hrel
  by_cases hlt:j<f
  ·have lJ:(j:Int)<(f:Int):=by omega
   have mJ:=ay (HST.out wr j hh)
   have HK:=ay hk
   clear hh hk
   go_wp2_with fail
   refine mJ.out.mono ?_
   rintro e w3 ⟨⟨er,rfl⟩,h3,k3⟩
   have H3':Hid (aI w3 D (H3.pV a (j+1))/\aj (HF D) w w3):=⟨h3,HK.out.trans k3⟩
   clear h3 k3 mJ
   go_wp2_with fail
   go_roundw
   case rel=>exact ⟨j+1,by omega,by go_num,H3'.out.1,H3'.out.2⟩
   case measure=>simp [intOf]<;>omega
  ·obtain rfl:j=f:=by omega
   have hnlt:¬ (j:Int)<(j:Int):=by omega
   have HB:=ay (HBE.out wr hh)
   have HK:=ay hk
   clear hh hk hlt
   go_wp2_with fail
   refine HB.out.mono ?_
   rintro e w3 ⟨⟨er,rfl⟩,h3,k3⟩
   have H3':Hid (aI w3 D ((H3.pV a j).oV a c)/\aj (HF D) w w3):=⟨h3,HK.out.trans k3⟩
   clear h3 k3 HB
   go_wp2_with fail
   go_ret2
   exact ⟨⟨_,_,rfl⟩,H3'.out.1,H3'.out.2⟩
theorem Yr (h:aI w D H) (f c:Nat) (hf:f<=3) (hc:c<2) (he:(H.iw (oh f)).2.1≠0):Calls aA 71 #[au (D 0),ah (f:Int),ah (c:Int)] w fun e w'=>(∃ va vb:Int,e = .returned (.tuple #[ah va,ah vb]))/\aI w' D (H.vN f c).2/\aj (HF D) w w':=by
 have e:H.vN f c=(0,(H.iw (oh f)).2.2):=by unfold HS.vN;rw [aT he]
 rw [e]
 have hk2:oh f<2:=PD hf
 have HSL:=ay (PE h (oh f) hk2)
 have PG:Hid (Calls aA 112 #[ah (f:Int)] w fun e w'=>e = .returned (.tuple #[ah (oh f:Int),.bool true])/\w=w'):=by
  exact Wp (f:Int) (by omega) (by omega) w h.sizes
 have uO:Hid (∀ W,Calls aA 113 #[ah (c:Int)] W fun e w'=>e = .returned (.bool true)/\W=w'):=fun W=>by
  rcases (by omega:c=0\/c=1) with rfl|rfl
  all_goals
   go_enter func113,ntmps113
   go_wp2_with fail
   go_ret
   exact ⟨rfl,rfl⟩
 have he10:(H.iw (oh f)).2.1=10:=by
  unfold HS.iw at he ⊢
  split at he
  ·exact absurd rfl he
  ·split at he
   ·exact absurd rfl he
   ·rename_i h1 h2
    rw [aT h1,aT h2]
 rw [he10] at HSL
 generalize (H.iw (oh f)).1=a at *
 generalize (H.iw (oh f)).2.2=H2 at *
 clear h he e he10
 go_enter func71,ntmps71
 go_wp2_with fail
 refine PG.out.mono ?_
 rintro e w1 ⟨rfl,rfl⟩
 go_wp2_with fail
 refine (uO.out _).mono ?_
 rintro e w1 ⟨rfl,rfl⟩
 go_wp2_with fail
 refine HSL.out.mono ?_
 rintro e w1 ⟨rfl,h1,k1⟩
 have HE:=ay (And.intro h1 k1)
 clear h1 k1 HSL PG uO
 go_wp2_with fail
 go_ret2
 exact ⟨⟨_,_,rfl⟩,HE.out.1,HE.out.2⟩
theorem aaE (h:aI w D H) (f c:Nat) (hf:f<=3) (hc:c<2):Calls aA 71 #[au (D 0),ah (f:Int),ah (c:Int)] w fun e w'=>(∃ va vb:Int,e = .returned (.tuple #[ah va,ah vb]))/\aI w' D (H.vN f c).2/\aj (HF D) w w':=by
 by_cases he:(H.iw (oh f)).2.1=0
 ·have hk2:oh f<2:=PD hf
  exact aaD f c (by omega) hc w he h.sizes (PE h (oh f) hk2)
 ·exact Yr h f c hf hc he
end
end
section
open Go.RowKit
def yS (s:Nat->Bool) (size n:Nat):Option Nat:=(akS size).find? fun k=>decide (n<=k)&&s k
theorem MJ (p:Nat->Bool):∀ (size k:Nat),k<size->p k=true->(∀ j,j<k->p j=false)->(akS size).find? p=some k
 | 0,k,h,_,_=>absurd h (Nat.not_lt_zero k)
 | size+1,k,h,hp,hj=>by
   rw [List.range_succ,List.find?_append]
   by_cases e:k<size
   ·rw [MJ p size k e hp hj];rfl
   ·obtain rfl:k=size:=by omega
    have h0:(akS k).find? p=none:=alb.2 (fun x hx=>by rw [hj x (akB.1 hx)];decide)
    rw [h0]
    simp [hp]
theorem H9 {s:Nat->Bool} {size n k:Nat} (h1:n<=k) (h2:k<size) (h3:s k=true) (h4:∀ j,n<=j->j<k->s j=false):yS s size n=some k:=by
 refine MJ _ size k h2 (by rw [fK h1,h3];rfl) (fun j hj=>?_)
 by_cases e:n<=j
 ·rw [h4 j e hj,alc]
 ·rw [gJ e];rfl
theorem DR {s:Nat->Bool} {size n:Nat} (h:∀ j,n<=j->j<size->s j=false):yS s size n=none :=
 alb.2 (fun x hx=>by
  by_cases e:n<=x
  ·rw [h x e (akB.1 hx),alc];exact ald
  ·rw [gJ e,Bool.false_and];exact ald)
theorem Ia (W:List Nat) (n j:Nat) (hj:n%64+j<64):lI W (n+j)=(W.getD (n/64) 0/2^(n%64)).testBit j:=by
 unfold lI
 have e1:(n+j)/64=n/64:=by omega
 have e2:(n+j)%64=n%64+j:=by omega
 rw [e1,e2,Nat.testBit_div_two_pow]
 congr 1
 omega
theorem aaF {W:List Nat} {n:Nat} (h:W.getD (n/64) 0/2^(n%64)=0) (j:Nat) (h1:n<=j) (h2:j<n+(64 - n%64)):lI W j=false:=by
 obtain ⟨d,rfl⟩:∃ d,j=n+d:=⟨j - n,by omega⟩
 rw [Ia W n d (by omega),h,Nat.zero_testBit]
theorem aaG {W:List Nat} {n t l:Nat} (hl:l=W.getD (n/64) 0/2^(n%64)) (hx:W.getD (n/64) 0<18446744073709551616) (h0:l≠0) (ht:t=Lib.ctz 64 l):n%64+t<64/\lI W (n+t)=true/\∀ j,n<=j->j<n+t->lI W j=false:=by
 have hl2:l<2^64:=by
  rw [hl]
  exact ale (ajx _ _) hx
 obtain ⟨m,hm,hk⟩:=Lib.ctzFrom_spec 64 l (by omega) hl2
 have e:t=Lib.ctzFrom 64 l:=by rw [ht];unfold Lib.ctz;rw [aT h0]
 rw [<- e] at hm hk
 have hmod:n%64<64:=akI _ (by decide)
 have h64:n%64+t<64:=by
  have h1:2^t<=l:=by rw [hm];exact Nat.le_mul_of_pos_right _ (by omega)
  have h2:l*2^(n%64)<=W.getD (n/64) 0:=by rw [hl];exact Nat.div_mul_le_self _ _
  have h3:2^t*2^(n%64)<=l*2^(n%64):=Nat.mul_le_mul_right _ h1
  rw [<- Nat.pow_add] at h3
  have h4:2^(t+n%64)<2^64:=by
   have:(2:Nat)^64=18446744073709551616:=by decide
   omega
  have:=(Nat.pow_lt_pow_iff_right (by decide:1<2)).1 h4
  omega
 have hbit:∀ j,l.testBit j=(decide (t<=j)&&(2*m+1).testBit (j - t)):=fun j=>by rw [hm,Nat.mul_comm,Nat.testBit_mul_two_pow]
 refine ⟨h64,?_,fun j h1 h2=>?_⟩
 ·rw [Ia W n t h64,<- hl,hbit,fK (aje t),Nat.sub_self]
  simp [Nat.testBit_zero]
 ·obtain ⟨d,rfl⟩:∃ d,j=n+d:=⟨j - n,by omega⟩
  rw [Ia W n d (by omega),<- hl,hbit,gJ (by omega)];rfl
def pI (w:World):Prop:=TabAt 1 Lib.deBruijn64tab w
theorem pI.sH {S:Nat->Prop} {w w':World} (h:pI w) (k:aj S w w') (h1:¬ S 1):pI w':=fun j hj=>k.nP (h j hj) h1
theorem pI.still {w w':World} (h:pI w) (k:aj aB w w'):pI w':=h.sH k (fun f=>f)
theorem aaH (x k idx:Nat) (w:World) (hx0:((x:Int)==0)=false)
 (key:IntKind.u64.wrap (bits BinOp.and IntKind.u64 (x:Int) (IntKind.u64.wrap (-(x:Int)))*285870213051353865)/288230376151711744=(idx:Int))
 (hi:idx<64) (hk:k<64) (hcell:w.cell? ⟨1,idx,none⟩=some (.int .u8 k)) :
 Calls aA 124 #[.int .u64 (x:Int)] w fun e w'=>e = .returned (ah (k:Int))/\w=w':=by
 go_enter func124,ntmps124
 go_wp2_with (simp only [key])
 go_ret
 exact ⟨rfl,rfl⟩
theorem acQ (x:Nat) (hx:x<18446744073709551616) (h0:x≠0) (w:World) (hT:pI w):Calls aA 124 #[.int .u64 (x:Int)] w fun e w'=>e = .returned (ah (Lib.ctz 64 x:Int))/\w=w':=by
 obtain ⟨hlow,hk⟩:=Lib.lowest_bit 64 x h0 hx
 obtain ⟨hi,htab⟩:=Lib.deBruijn64_at _ hk
 have hcell:=hT _ hi
 rw [htab] at hcell
 exact aaH x _ _ w (by simp;omega) (tz64_key x _ hx h0 hlow) hi hk hcell
section
variable {w w':World} {B X size:Nat} {W:List Nat}
def Bq:Option Nat->Value
 | some k => .tuple #[ah (k:Int),.bool true]
 | none => .tuple #[ah 0,.bool false]
theorem aaI (h:jo w B X size W) (hT:pI w) (n:Nat) (hn:n<=4194304):Calls aA 89 #[au B,ah (n:Int)] w fun e w'=>e = .returned (Bq (yS (lI W) size n))/\w=w':=by
 have HM:Hid (∀ k:Nat,Calls aA 95 #[au B,ah (k:Int)] w fun e w'=>e = .returned (.bool (decide (k<size)))/\w=w'):=fun k=>by
  have h9:=JL h (k:Int)
  have e:decide (0<=(k:Int)/\(k:Int)<(size:Int))=decide (k<size):=by rw [Bool.eq_iff_iff];simp
  rw [e] at h9
  exact h9
 obtain ⟨aO,hblk⟩:=h.aH
 have y0:=hblk.cell 0 rfl
 have hsz:=h.sz
 have HX:=ay h
 have Wl:=ay hT
 have hn0:(0:Int)<=(n:Int):=by omega
 have hn1:¬ ((n:Int)<0):=by omega
 have hn2:¬ ((0:Int) > (n:Int)):=by omega
 have hn3:max (n:Int) 0=(n:Int):=by omega
 have HL:Hid (∀ k:Nat,k<size->k/64<W.length):=fun k hk=>(h.jf hk).1
 generalize W.length=L at *
 clear h hT hblk
 go_enter func89,ntmps89
 go_wp2_with fail
 refine wp_scope_straight ?_
 go_wp2_with fail
 refine wp_label ?_
 go_wp2_with fail
 go_loopw [1,6] (fun v _ wr=>∃ k:Nat,v = ah (k:Int)/\n<=k/\k<=4194368/\wr=w/\∀ j,n<=j->j<k->lI W j=false) (fun v _ _=>4194368 - (intOf v).toNat)
 case atStart=>exact ⟨n,rfl,aje _,by omega,rfl,fun j h1 h2=>by omega⟩
 case round =>
  obtain ⟨k,rfl,hk1,hk2,rfl,hk⟩:=hrel
  have TG:=ay (HM.out k)
  by_cases hlt:k<size
  ·rw [fK hlt] at TG
   obtain ⟨_,hc,hx⟩:=HX.out.jf hlt
   have hL:=HL.out k hlt
   obtain ⟨x,hxe⟩:∃ x,x=W.getD (k/64) 0:=⟨_,rfl⟩
   obtain ⟨lf,hlf⟩:∃ lf,lf=W.getD (k/64) 0/2^(k%64):=⟨_,rfl⟩
   rw [<- hxe] at hc hx
   have hsh:((x:Int)/2^(k%64))=(lf:Int):=by rw [hlf,<- hxe];simp
   have HLZ:Hid (lf=0->∀ j,k<=j->j<k+(64 - k%64)->lI W j=false):=fun e=>aaF (by rw [<- hlf];exact e)
   have TI:Hid (lf≠0->k%64+Lib.ctz 64 lf<64/\lI W (k+Lib.ctz 64 lf)=true/\∀ j,k<=j->j<k+Lib.ctz 64 lf->lI W j=false):=fun e=>aaG hlf (by rw [<- hxe];exact hx) e rfl
   have aie:lf<18446744073709551616:=by rw [hlf,<- hxe];exact ale (ajx _ _) hx
   have HKB:=ay hk
   have HTZ:Hid (lf≠0->Calls aA 124 #[.int .u64 (lf:Int)] wr fun e w'=>e = .returned (ah (Lib.ctz 64 lf:Int))/\wr=w'):=fun e=>acQ lf aie e wr Wl.out
   have hk62:k<2097152:=by omega
   generalize Lib.ctz 64 lf=t at *
   clear hk hlf hxe
   by_cases h0:lf=0
   ·subst h0
    have HZ:=ay (HLZ.out rfl)
    have d0:(((0:Nat):Int) != 0)=false:=rfl
    have hmod:k%64<64:=akI _ (by decide)
    have hw1:IntKind.i64.wrap (64 - (k:Int)%64)=64 - (k:Int)%64:=ajw _ (by omega)
    have hw2:IntKind.i64.wrap ((k:Int)+(64 - (k:Int)%64))=(k:Int)+(64 - (k:Int)%64):=ajw _ (by omega)
    clear HLZ TI HTZ
    go_wp2_with fail
    refine TG.out.mono ?_
    rintro e w1 ⟨rfl,rfl⟩
    go_wp2_with fail
    go_roundw
    case rel =>
     refine ⟨k+(64 - k%64),by congr 1;omega,by omega,by omega,trivial,fun j h1 h2=>?_⟩
     by_cases e:j<k
     ·exact HKB.out j h1 e
     ·exact HZ.out j (by omega) h2
    case measure=>simp [intOf];omega
   ·have d0:((lf:Int)==0)=false:=by simp;omega
    have HT2:=ay (HTZ.out h0)
    obtain ⟨g1,g2,g3⟩:=TI.out h0
    have HG2:=ay g2
    have Jg:=ay g3
    have hwr:IntKind.i64.wrap ((k:Int)+(t:Int))=(k:Int)+(t:Int):=ajw _ (by omega)
    have TJ:Hid (Calls aA 95 #[au B,ah ((k:Int)+(t:Int))] wr fun e w'=>e = .returned (.bool (decide (k+t<size)))/\wr=w'):=by
     have h9:=HM.out (k+t)
     rw [show (((k+t:Nat)):Int)=(k:Int)+(t:Int) from by push_cast;rfl] at h9
     exact h9
    have EF:Hid (k+t<size->yS (lI W) size n=some (k+t)):=fun h=>H9 (by omega) h HG2.out (fun j h1 h2=>by
     by_cases e:j<k
     ·exact HKB.out j h1 e
     ·exact Jg.out j (by omega) h2)
    have Df:Hid (¬ k+t<size->yS (lI W) size n=none):=fun h=>DR (fun j h1 h2=>by
     by_cases e:j<k
     ·exact HKB.out j h1 e
     ·exact Jg.out j (by omega) (by omega))
    clear g2 g3 HLZ TI HTZ
    by_cases hb:k+t<size
    ·rw [fK hb] at TJ
     have HR:=ay (EF.out hb)
     clear EF Df hb
     go_wp2_with fail
     refine TG.out.mono ?_
     rintro e w1 ⟨rfl,rfl⟩
     go_wp2_with fail
     refine HT2.out.mono ?_
     rintro e w1 ⟨rfl,rfl⟩
     go_wp2_with fail
     refine TJ.out.mono ?_
     rintro e w1 ⟨rfl,rfl⟩
     go_wp2_with fail
     simp only [Exit.noGoto]
     go_ret2
     exact ⟨by rw [HR.out];simp [Bq],rfl⟩
    ·rw [gJ hb] at TJ
     have HR:=ay (Df.out hb)
     clear EF Df hb
     go_wp2_with fail
     refine TG.out.mono ?_
     rintro e w1 ⟨rfl,rfl⟩
     go_wp2_with fail
     refine HT2.out.mono ?_
     rintro e w1 ⟨rfl,rfl⟩
     go_wp2_with fail
     refine TJ.out.mono ?_
     rintro e w1 ⟨rfl,rfl⟩
     go_wp2_with fail
     simp only [Exit.noGoto]
     go_ret2
     exact ⟨by rw [HR.out];rfl,rfl⟩
  ·rw [gJ hlt] at TG
   have HR:Hid (yS (lI W) size n=none):=DR (fun j h1 h2=>hk j h1 (by omega))
   clear hk
   go_wp2_with fail
   refine TG.out.mono ?_
   rintro e w1 ⟨rfl,rfl⟩
   go_wp2_with fail
   refine TG.out.mono ?_
   rintro e w1 ⟨rfl,rfl⟩
   go_wp2_with fail
   simp only [Exit.noGoto]
   go_ret2
   exact ⟨by rw [HR.out];rfl,rfl⟩
end
end
section
attribute [local go_sem ↓] nD
attribute [local go_sem] Oper.semAt_some
open Go.RowKit
def jX (s:Nat->Bool) (size:Nat):List Nat:=(akS size).filter s
theorem lK {s:Nat->Bool} {size x:Nat}:x∈jX s size↔x<size/\s x=true:=by simp [jX]
theorem En (s:Nat->Bool) (size:Nat):(jX s size).Pairwise (· < ·):=(List.pairwise_lt_range (n:=size)).filter _
theorem FV (s:Nat->Bool) (size:Nat):(jX s size).length<=size:=by
 have h:=List.length_filter_le s (akS size)
 simpa [jX] using h
theorem BK {s:Nat->Bool} {size i j:Nat} (h:i<j) (hj:j<(jX s size).length):(jX s size)[i]'(by omega)<(jX s size)[j]:=(List.pairwise_iff_getElem.1 (En s size)) i j (by omega) hj h
theorem Yt {s:Nat->Bool} {size i x y:Nat} (hx:(jX s size)[i]?=some x) (hy:(jX s size)[i+1]?=some y):x<y:=by
 obtain ⟨hi,rfl⟩:=ake.1 hx
 obtain ⟨hj,rfl⟩:=ake.1 hy
 exact BK (ajZ i) hj
theorem Yu (s:Nat->Bool) (size:Nat):yS s size 0=(jX s size)[0]?:=by
 cases h:(jX s size)[0]? with
 | none =>
   refine DR (fun j _ hj=>?_)
   rw [akL]
   intro hs
   have hm:j∈jX s size:=lK.2 ⟨hj,hs⟩
   have hl:=alf.1 h
   have hnil:jX s size=[]:=List.eq_nil_of_length_eq_zero (by omega)
   rw [hnil] at hm
   cases hm
 | some x =>
   obtain ⟨h0,hx⟩:=ake.1 h
   have hm:x∈jX s size:=by rw [<- hx];exact aji h0
   obtain ⟨h1,h2⟩:=lK.1 hm
   refine H9 (aki _) h1 h2 (fun j _ hj=>?_)
   rw [akL]
   intro hs
   obtain ⟨i,hi,e⟩:=alg (lK.2 ⟨by omega,hs⟩:j∈jX s size)
   rcases Nat.eq_zero_or_pos i with rfl|hp
   ·omega
   ·have:=BK (s:=s) (size:=size) hp hi;omega
theorem aaJ {s:Nat->Bool} {size i x:Nat} (hx:(jX s size)[i]?=some x):yS s size (x+1)=(jX s size)[i+1]?:=by
 obtain ⟨hi,rfl⟩:=ake.1 hx
 cases h:(jX s size)[i+1]? with
 | none =>
   refine DR (fun j hj1 hj=>?_)
   rw [akL]
   intro hs
   obtain ⟨q,hq,e⟩:=alg (lK.2 ⟨hj,hs⟩:j∈jX s size)
   have hl:=alf.1 h
   rcases (by omega:q<i\/q=i) with h1|rfl
   ·have:=BK (s:=s) (size:=size) h1 hi;omega
   ·omega
 | some y =>
   obtain ⟨h0,hy⟩:=ake.1 h
   have hm:y∈jX s size:=by rw [<- hy];exact aji h0
   obtain ⟨h1,h2⟩:=lK.1 hm
   have hlt:(jX s size)[i]<y:=by rw [<- hy];exact BK (ajZ i) h0
   refine H9 hlt h1 h2 (fun j hj1 hj2=>?_)
   rw [akL]
   intro hs
   obtain ⟨q,hq,e⟩:=alg (lK.2 ⟨by omega,hs⟩:j∈jX s size)
   rcases (by omega:q<i+1\/q=i+1\/i+1<q) with h3|rfl|h3
   ·rcases (by omega:q<i\/q=i) with h4|rfl
    ·have:=BK (s:=s) (size:=size) h4 hi;omega
    ·omega
   ·omega
   ·have:=BK (s:=s) (size:=size) h3 hq;omega
structure oH (Ts:List TypeId) (N:Nat) (W W':World):Prop where
 size:W.heap.size<=W'.heap.size
 Sl:∀ b,b<N->W'.heap[b]?=W.heap[b]?
 aH:∀ b cs T,Ts.contains T=true->aF W b cs T->aF W' b cs T
theorem oH.refl (Ts:List TypeId) (N:Nat) (W:World):oH Ts N W W:=⟨aje _,fun _ _=>rfl,fun _ _ _ _ h=>h⟩
theorem oH.trans {Ts:List TypeId} {N:Nat} {A B C:World} (h:oH Ts N A B) (k:oH Ts N B C):oH Ts N A C:=⟨ajU h.size k.size,fun b hb=>(k.Sl b hb).trans (h.Sl b hb),fun b cs T' hT hb=>k.aH b cs T' hT (h.aH b cs T' hT hb)⟩
theorem oH.rel (Ts:List TypeId) (N:Nat):Xj N (oH Ts N):=⟨oH.trans,fun W L o o' hL ho hc _=>⟨by simp,fun b hb=>ajV (by omega),fun b cs T' _ hb=>hb.putObj ho hc⟩⟩
theorem oH.set {Ts:List TypeId} {N:Nat} {W W':World} {B X size:Nat} {ws:List Nat} (h:oH Ts N W W') (h1:Ts.contains 149=true) (h2:Ts.contains 146=true) (hs:jo W B X size ws):jo W' B X size ws:=by
 obtain ⟨⟨aO,hb⟩,⟨cur,hc,hv⟩,hl,hlt,hsz⟩:=hs
 exact ⟨⟨aO,h.aH _ _ _ h1 hb⟩,⟨cur,h.aH _ _ _ h2 hc,hv⟩,hl,hlt,hsz⟩
theorem oH.tab {Ts:List TypeId} {N:Nat} {W W':World} (h:oH Ts N W W') (hN:1<N) (hs:pI W):pI W':=fun j hj=>by
 rw [World.cell?_of_block (w:=W) (h.Sl _ hN)];exact hs j hj
theorem oH.sG {Ts:List TypeId} {N:Nat} {W W':World} (k:aj aB W W') (hN:N<=W.heap.size):oH Ts N W W':=⟨k.size,fun b hb=>k.block b (by omega) (fun f=>f),fun b cs T _ hb=>k.aH hb (fun f=>f)⟩
def FW (_:World) (x:Nat) (args:Array Value):Prop:=args=#[ah (x:Int)]
def Yv:List TypeId:=[149,146]
section
variable {w w':World} {B X size:Nat} {W:List Nat}
theorem agf (B:Nat) (w:World):Calls aA 47 #[au B] w fun e w'=>e = .returned (.func (.func 87) #[] #[au w.heap.size])/\w'=w.alloc (.cells #[au B] 99):=by
 have hmf:∀ (fn:Fn) (first aO:Array Value) (w:World),(Instr.makeFunc fn first aO).run aA w = .ok (.func fn first aO) w:=fun _ _ _ _=>rfl
 go_enter func47,ntmps47
 go_wp2_with fail
 go_ret
 exact ⟨rfl,rfl⟩
def acR (size:Nat) (v:Value):Value->Nat
 | .bool true=>size+1 - (intOf v).toNat
 | _=>0
theorem MK (x:Option Nat):∃ (a:Nat) (b:Bool),Bq x = .tuple #[ah (a:Int),.bool b]:=by
 cases x with
 | none=>exact ⟨0,false,rfl⟩
 | some k=>exact ⟨k,true,rfl⟩
theorem aeG {N:Nat} (h:jo w B X size W) (h1:1<=size) (hT:pI w) (hN:1<N) (pB:Nat) (hp:aF w pB [au B] 99) (m:Nat) :
 Xk Fence.wide m aA 87 #[au pB] (jX (lI W) size) FW (oH Yv N) w:=by
 intro l J Jx W1 hW hJ hJx hY h0
 have hs1:=h.still hW
 have hp1:=hW.aH hp (fun f=>f)
 have hsz:=h.sz
 have c0:=hp1.cell 0 (v := au B) rfl
 have HC:=ay (OI hs1 h1)
 have HT1:=ay (hT.still hW)
 have HF:=ay (Yu (lI W) size)
 have HTH:Hid (∀ i x,(jX (lI W) size)[i]?=some x->yS (lI W) size (x+1)=(jX (lI W) size)[i+1]?/\x<size/\∀ y,(jX (lI W) size)[i+1]?=some y->x<y/\y<size):=fun i x hx=>⟨aaJ hx,(lK.1 (alh hx)).1,fun y hy=>⟨Yt hx hy,(lK.1 (alh hy)).1⟩⟩
 have rX:Hid (∀ V B' X' (n:Nat),jo V B' X' size W->pI V->n<=4194304->Calls aA 89 #[au B',ah (n:Int)] V fun e w'=>e = .returned (Bq (yS (lI W) size n))/\V=w'):=fun V B' X' n h2 h3 h4=>aaI h2 h3 n h4
 have HKT:Hid (∀ V V' B' X',oH Yv N V V'->jo V B' X' size W->pI V->jo V' B' X' size W/\pI V'):=fun V V' B' X' k h2 h3=>⟨k.set (by decide) (by decide) h2,k.tab hN h3⟩
 have TK:=ay hJ
 have H0:=ay h0
 have HY:=ay hY
 generalize yS (lI W) size=nx at *
 generalize jX (lI W) size=L at *
 clear h hT hp hs1 hp1 hW hJ hJx hY h0
 refine callsIn_of_wp func87 rfl trivial ?_ rfl
 simp only [ntmps87,akX,akn,ako,Nat.reduceAdd,Nat.reduceSub,akY,Array.replicate_zero,akZ,ala,akr,List.cons_append]
 gi_wp2_with fail
 refine ⟨trivial,fun h=>(by cases h),CallsIn.mono (callsIn_wide.2 HC.out) ?_⟩
 rintro e w1 ⟨B',X',rfl,hs2,_,_,k2⟩
 have HT2:=ay (HT1.out.still k2)
 have HS2:=ay hs2
 have HJ2:=ay (TK.out 0 _ _ H0.out k2)
 have G7:=ay (rX.out w1 B' X' 0 hs2 (HT1.out.still k2) (by decide))
 clear k2 hs2 HT1 HC H0 c0
 obtain ⟨a0,b0,hv0⟩:=MK (nx 0)
 rw [hv0] at G7
 rw [HF.out] at hv0
 have HV0:=ay hv0
 clear hv0 HF
 gi_wp2_with fail
 refine ⟨trivial,fun h=>(by cases h),CallsIn.mono (callsIn_wide.2 G7.out) ?_⟩
 rintro e w2 ⟨rfl,rfl⟩
 clear G7
 gi_wp2_with fail
 gi_loopw [4,5] (fun v4 v5 wr=>∃ (j a:Nat) (b:Bool),v4 = ah (a:Int)/\v5 = .bool b/\Bq L[j]? = .tuple #[ah (a:Int),.bool b]/\j<=L.length/\J j wr/\jo wr B' X' size W/\pI wr) (fun v4 v5 _=>acR size v4 v5)
 case atStart=>exact ⟨0,a0,b0,rfl,rfl,HV0.out,aki _,HJ2.out,HS2.out,HT2.out⟩
 case round =>
  obtain ⟨j,a,b,rfl,rfl,hv,hj,uK,hs,ht⟩:=hrel
  cases PI:L[j]? with
  | none =>
    rw [PI] at hv
    obtain ⟨rfl,rfl⟩:a=0/\b=false:=by
     simp only [Bq,Value.tuple.injEq,Array.mk.injEq,List.cons.injEq,Value.int.injEq,Value.bool.injEq] at hv
     exact ⟨by omega,by have:=hv.2.1;exact this.symm⟩
    have hlen:=alf.1 PI
    have GR:Hid (J L.length wr):=by
     have e:j=L.length:=by omega
     rw [<- e];exact uK
    clear hv hj uK hs ht PI hlen
    gi_wp2_with fail
    go_end0
    exact ⟨⟨_,rfl⟩,.inl GR.out⟩
  | some x =>
    rw [PI] at hv
    obtain ⟨rfl,rfl⟩:a=x/\b=true:=by
     simp only [Bq,Value.tuple.injEq,Array.mk.injEq,List.cons.injEq,Value.int.injEq,Value.bool.injEq] at hv
     exact ⟨by omega,by have:=hv.2.1;exact this.symm⟩
    obtain ⟨hth,hxs,hys⟩:=HTH.out j a PI
    have HYS:=ay hys
    have hjl:=(ake.1 PI).1
    have HJ:=ay uK
    have HXS:=ay hxs
    have Jv:=ay hjl
    have HST:=ay (And.intro hs ht)
    have HTX:=ay hth
    have hwr:IntKind.i64.wrap ((a:Int)+1)=(a:Int)+1:=ajw _ (by omega)
    obtain ⟨fn,tmps,assign,body,hy,hR⟩:=HY.out j a #[ah (a:Int)] wr PI HJ.out rfl
    clear hv hj uK hs ht PI hth hxs hjl hys
    gi_wp2_with fail
    refine ⟨fun h=>(by cases h),hR.mono ?_⟩
    rintro e W' (⟨rfl,hJ',hk⟩|⟨rfl,BX⟩)
    ·obtain ⟨hs',ht'⟩:=HKT.out _ _ _ _ hk HST.out.1 HST.out.2
     have CJ:=ay (rX.out W' B' X' (a+1) hs' ht' (by have:=HXS.out;omega))
     rw [show (((a+1:Nat)):Int)=(a:Int)+1 from by push_cast;rfl] at CJ
     obtain ⟨a3,b3,hv3⟩:=MK (nx (a+1))
     rw [hv3] at CJ
     rw [HTX.out] at hv3
     have HV3:=ay hv3
     have HE:=ay (And.intro hJ' (And.intro hs' ht'))
     clear hJ' hk hs' ht' hv3
     gi_wp2_with fail
     refine ⟨trivial,fun h=>(by cases h),CallsIn.mono (callsIn_wide.2 CJ.out) ?_⟩
     rintro e w3 ⟨rfl,rfl⟩
     clear CJ
     gi_wp2_with fail
     go_roundw
     case rel=>exact ⟨j+1,a3,b3,rfl,rfl,HV3.out,Jv.out,HE.out.1,HE.out.2.1,HE.out.2.2⟩
     case measure =>
      have hxs:=HXS.out
      have hv3:=HV3.out
      cases b3 with
      | false=>simp [acR,intOf];omega
      | true =>
        cases hL2:L[j+1]? with
        | none=>rw [hL2] at hv3;simp [Bq] at hv3
        | some y =>
          rw [hL2] at hv3
          have e9:y=a3:=by
           simp only [Bq,Value.tuple.injEq,Array.mk.injEq,List.cons.injEq,Value.int.injEq] at hv3
           omega
          have h9:=HYS.out y hL2
          simp [acR,intOf];omega
    ·gi_wp2_with fail
     refine bodyPost_ret (results_none rfl _ _ _) rfl ?_
     exact ⟨⟨_,rfl⟩,.inr ⟨j+1,by have:=Jv.out;omega,BX⟩⟩
end
def uU (bx:Nat) (W:World) (b:Nat):Prop:=∃ v,aF W bx [v] 32/\v.ownBlock=some b
structure lZ (Ts:List TypeId) (bx N:Nat) (W W':World):Prop where
 t:oH Ts N W W'
 o:∀ b cs T,b≠bx->¬ uU bx W b->aF W b cs T->aF W' b cs T/\¬ uU bx W' b
 n:(∀ q,uU bx W q->q<W.heap.size)->∀ q,uU bx W' q->q<W'.heap.size
theorem FX {bx b:Nat} {W:World} (h:aF W bx [.slice none 0 0] 32):¬ uU bx W b:=by
 rintro ⟨v,h1,h2⟩
 have e:=(h1.jL h).1
 simp only [List.cons.injEq,and_true] at e
 rw [e] at h2
 simp [Value.ownBlock] at h2
theorem lZ.refl (Ts:List TypeId) (bx N:Nat) (W:World):lZ Ts bx N W W:=⟨oH.refl _ _ _,fun _ _ _ _ h k=>⟨k,h⟩,fun h=>h⟩
theorem lZ.trans {Ts:List TypeId} {bx N:Nat} {A B C:World} (h:lZ Ts bx N A B) (k:lZ Ts bx N B C):lZ Ts bx N A C:=⟨h.t.trans k.t,fun b cs T h1 h2 h3=>by
 obtain ⟨g1,g2⟩:=h.o b cs T h1 h2 h3
 exact k.o b cs T h1 g2 g1,fun q=>k.n (h.n q)⟩
theorem TL {bx b L:Nat} {W:World} {o o':Obj} (ho:W.heap[L]?=some o) (hc':o'.isCells=false) (h:uU bx (W.putObj L o') b):uU bx W b:=by
 obtain ⟨v,g1,g2⟩:=h
 refine ⟨v,?_,g2⟩
 by_cases e:L=bx
 ·subst e
  unfold aF at g1
  rw [World.putObj_heap_same (ajW.1 ho).1] at g1
  cases g1
  simp [Obj.isCells] at hc'
 ·unfold aF at *
  rwa [ajV (fun e2=>e e2.symm)] at g1
theorem lZ.rel (Ts:List TypeId) (bx N:Nat):Xj N (lZ Ts bx N):=⟨lZ.trans,fun W L o o' hL ho hc hc'=>⟨(oH.rel Ts N).put W L o o' hL ho hc hc',fun b cs T h1 h2 h3=>⟨h3.putObj ho hc,fun f=>h2 (TL ho hc' f)⟩,fun h q f=>by simpa using h q (TL ho hc' f)⟩⟩
theorem Eb.mono {S:Nat->Prop} {E:World->Prop} {F:Fence} {n:Nat} {P:Program} {g:Nat} {lb:Array Value} {all:List Nat} {Enc:World->Nat->Array Value->Prop} {R R':World->World->Prop} {w:World} (h:Eb S E F n P g lb all Enc R w) (hR:∀ A B,R' A B->R A B):Eb S E F n P g lb all Enc R' w:=by
 intro l J Jx W h1 h2 h3 h4 h5
 refine h l J Jx W h1 h2 h3 (fun k x args W1 g1 g2 g3=>?_) h5
 obtain ⟨fn,tmps,sg,body,k1,k2⟩:=h4 k x args W1 g1 g2 g3
 exact ⟨fn,tmps,sg,body,k1,k2.mono (fun e W' q=>q.elim (fun q => .inl ⟨q.1,q.2.1,hR _ _ q.2.2⟩) .inr)⟩
structure xB (S:Nat->Prop) (E:World->Prop) (w:World) (N1 oB:Nat) (r:List Nat) (W:World):Prop where
 aK:aj S w W
 kD:N1<=W.heap.size
 o:∃ v,aF W oB [v] 32/\W.ownsRow N1 3 1 v r.length (aS r)
 e:E W
def ML (B:Nat) (E:World->Prop):Prop:=∀ (A C:World) (T:Nat->Prop),(∀ b,T b->B<=b)->aj T A C->E A->E C
section
variable {S:Nat->Prop} {E:World->Prop} {w W W' w3:World} {N1 N oB x:Nat} {r:List Nat}
theorem xB.own (hw:w.heap.size<=N1) (hE:ML w.heap.size E):OwnFrom N1 (fun (r:List Nat)=>xB S E w N1 oB r):=by
 rintro s W W' row ⟨h1,h2,⟨v,h3,h4⟩,h5⟩ hg hr
 have kr:aj (fun i=>row=some i) W W':=⟨hg.os,hg.tape,hg.output,hg.size,fun k hk n=>hg.block k hk (fun e=>n e.symm)⟩
 refine ⟨yC (β:=Nat) hw 0 W W' row h1 hg hr,ajU h2 hg.size,⟨v,nZ (β:=Nat) (cs:=fun _=>_) 0 W W' row h3 hg hr,?_⟩,hE W W' _ (fun b e=>ajU hw (hr b e).1) kr h5⟩
 refine gK (S:=fun i=>row=some i) h4 ⟨hg.os,hg.tape,hg.output,hg.size,fun k hk n=>hg.block k hk (fun e=>n e.symm)⟩ (fun g hg' e=>?_)
 obtain ⟨_,o,ho,hc⟩:=hr g e
 obtain ⟨cur,hcur⟩:=nG (bQ h4 (aki _)) hg'
 rw [hcur] at ho
 cases ho
 simp [Obj.isCells] at hc
theorem xB.later (h:xB S E w N1 oB r W) (hS:∀ b,S b->b<oB) (h1:oB<N1) (k:aj S W W') (ke:E W->E W'):xB S E w N1 oB r W':=by
 obtain ⟨g1,g2,⟨v,g3,g4⟩,g5⟩:=h
 exact ⟨g1.trans k,ajU g2 k.size,⟨v,k.aH g3 (fun f=>Nat.lt_irrefl _ (hS _ f)),gK g4 k (fun q hq f=>by have:=(World.ownsRow.lt g4 q hq).1;have:=hS _ f;omega)⟩,ke g5⟩
theorem xB.push (h:xB S E w N1 oB r w3) (hN:N<=oB) (h1:oB<N1) (hw:w.heap.size<=oB) (hS:∀ b,S b->b<oB) (hE:ML w.heap.size E) (hr:r.length<=4000000) (Ts:List TypeId) (hT1:Ts.contains 3=false) (hT2:Ts.contains 32=false) :
 ∃ v g aO w5,w3.cell? ⟨oB,0,none⟩=some v/\(∀ o,(w3.alloc o).cell? ⟨oB,0,none⟩=some v)/\(app9 #[32,32] 32 #[v,.slice (some ⟨w3.heap.size,0,none⟩) 1 1]).run aA (w3.alloc (.cells #[ah (x:Int)] 3)) = .ok (.slice (some ⟨g,0,none⟩) (r.length+1) aO) w5/\w5.cell? ⟨oB,0,none⟩=some v/\w5.frozen? ⟨oB,0,none⟩=false /\
  xB S E w N1 oB (r++[x]) (w5.setCell ⟨oB,0,none⟩ (.slice (some ⟨g,0,none⟩) (r.length+1) aO))/\KeepsFrom N1 w3 (w5.setCell ⟨oB,0,none⟩ (.slice (some ⟨g,0,none⟩) (r.length+1) aO))/\lZ Ts oB N w3 (w5.setCell ⟨oB,0,none⟩ (.slice (some ⟨g,0,none⟩) (r.length+1) aO)):=by
 obtain ⟨hkeep,hbig,⟨v,xq,hrow⟩,he⟩:=h
 obtain ⟨W4,l9⟩:∃ W',W'=w3.alloc (.cells #[ah (x:Int)] 3):=⟨_,rfl⟩
 have hk4:aj aB w3 W4:=by rw [l9];exact (aj.refl _ _).alloc _
 have hs4:W4.heap.size=w3.heap.size+1:=by rw [l9];simp
 obtain ⟨g,aO,w5,hrun,hown,hgr,hwh⟩:=uJ (P:=aA) W4 32 32 3 (by kernel_rfl) Tryz.infoInt rfl (bQ (bY hrow hk4) (aki _)) (N:=w3.heap.size) (u := ah (x:Int)) (by rw [l9];exact (aF.bC w3 _ _).cell 0 rfl) rfl (by decide) (by omega)
 have hne:v.ownBlock≠some oB:=nC xq hrow (by decide)
 have hbo5:=(hk4.aH xq (fun f=>f)).qh hgr hne
 have hge:∀ q,v.ownBlock=some q->N1<=q:=fun q hq=>(World.ownsRow.lt hrow q hq).1
 have hge':N1<=g:=by
  rcases hwh with h|h
  ·exact hge g h
  ·have h2:=hk4.size;omega
 have hneq:∀ q,q<N1->v.ownBlock≠some q:=fun q hq e=>by have:=hge q e;omega
 have kg:aj (fun i=>v.ownBlock=some i) W4 w5:=⟨hgr.os,hgr.tape,hgr.output,hgr.size,fun k hk n=>hgr.block k hk (fun e=>n e.symm)⟩
 have he5:E w5:=hE _ _ _ (fun b e=>by have:=hge b e;omega) kg (hE _ _ _ (fun _ f=>f.elim) hk4 he)
 have hk5:aj S w w5:=(hkeep.trans (hk4.mono (fun _ _ f=>f.elim))).kF (T:=fun i=>v.ownBlock=some i) kg (fun i hi e=>absurd e (hneq i (by omega)))
 have hnew:∀ q,uU oB (w5.setCell ⟨oB,0,none⟩ (.slice (some ⟨g,0,none⟩) (r.length+1) aO)) q->q=g:=by
  rintro q ⟨v',g1,g2⟩
  have e9:=(g1.jL (hbo5.set 0 (.slice (some ⟨g,0,none⟩) (r.length+1) aO))).1
  simp only [List.set_cons_zero,List.cons.injEq,and_true] at e9
  rw [e9] at g2
  exact (show g=q by simpa [Value.ownBlock] using g2).symm
 refine ⟨v,g,aO,w5,xq.cell 0 rfl,fun o=>(xq.alloc o).cell 0 rfl,by rw [<- l9];exact hrun,hbo5.cell 0 rfl,hbo5.free 0,⟨hk5.iP hw _ _,?_,⟨.slice (some ⟨g,0,none⟩) (r.length+1) aO,hbo5.set 0 _,?_⟩,hE _ _ (only oB) (fun b e=>by have:b=oB:=e;omega) ((aj.refl _ _).put _ _) he5⟩,?_,⟨⟨?_,fun b hb=>?_,fun b cs T hT hb=>?_⟩,fun b cs T h7 h8 hb=>⟨?_,fun f=>?_⟩,fun _ q f=>?_⟩⟩
 ·have h2:=hk4.size;have h3:=hgr.size;simp;omega
 ·have e:aS (r++[x])=aS r++[ah (x:Int)]:=by simp [aS]
  rw [e,List.length_append,List.length_singleton]
  exact Rf (zY (a:=⟨oB,0,none⟩) hown (fun q hq=>by simp [Value.ownBlock] at hq;show q≠oB;omega) _) hge'
 ·refine (KeepsFrom.sG hk4).trans (KeepsFrom.trans (Y:=w5) ⟨hgr.size,fun q o hB hq ho=>(hgr.block q (ajW.1 hq).1 (fun e=>?_)).trans hq⟩ ((KeepsOthers.setCell _ _ _).from _))
  obtain ⟨cur,hcur⟩:=nG (bQ (bY hrow hk4) (aki _)) e.symm
  rw [hcur] at hq
  cases hq
  simp [Obj.isCells] at ho
 ·have h2:=hk4.size;have h3:=hgr.size;simp;omega
 ·have hb3:b<w3.heap.size:=by omega
  rw [Below.heap_setCell _ _ _ _ (by simp;omega),hgr.block b (ajf hb3 hk4.size) (fun e=>hneq b (by omega) e.symm)]
  exact hk4.block b hb3 (fun f=>f)
 ·have n1:T≠3:=fun e=>by rw [e] at hT;rw [hT] at hT1;cases hT1
  have n2:T≠32:=fun e=>by rw [e] at hT;rw [hT] at hT2;cases hT2
  have hb4:=hk4.aH hb (fun f=>f)
  have hb5:aF w5 b cs T:=hb4.qh hgr (nC hb4 (bY hrow hk4) (Ne.symm n1))
  refine hb5.uh (fun e=>n2 ?_) _
  rw [e] at hb5
  exact (hb5.jL hbo5).2
 ·have hb4:=hk4.aH hb (fun f=>f)
  have hb5:aF w5 b cs T:=hb4.qh hgr (fun e=>h8 ⟨v,xq,e⟩)
  exact hb5.uh h7 _
 ·have e8:=hnew b f
  rcases hwh with h|h
  ·exact h8 ⟨v,xq,by rw [h,e8]⟩
  ·have:=hb.lt;omega
 ·rw [hnew q f]
  simpa using (World.ownsRow.lt hown g rfl).2
end
theorem VE (S:Nat->Prop) (E:World->Prop) (gf:Nat) (lb:Array Value) (l:List Nat) (Ts:List TypeId) (ht1:Ts.contains 3=false) (ht2:Ts.contains 32=false) (hl:l.length<=4000000) (w:World) (hS:∀ b,S b->b<w.heap.size) (hE:ML w.heap.size E) (he:E w) (eg:∀ args w,(callFunc gf args).run aA w = .ok (.enter gf args) w)
 (hseq:∀ W,aj aB w W->aF W w.heap.size [.slice none 0 0] 32->Eb S E Fence.wide 8 aA gf lb l FW (lZ Ts w.heap.size w.heap.size) W) :
 Calls aA 86 #[.slice none 0 0,.func (.func gf) #[] lb] w fun e w'=>∃ v,e = .returned v/\w'.ownsRow w.heap.size 3 1 v l.length (aS l)/\aj S w w'/\E w':=by
 obtain ⟨W0,hW0⟩:∃ W',W'=w.alloc (.cells #[.slice none 0 0] 32):=⟨_,rfl⟩
 have hk0:aj aB w W0:=by rw [hW0];exact (aj.refl _ _).alloc _
 have hb0:aF W0 w.heap.size [.slice none 0 0] 32:=by rw [hW0];exact aF.bC w _ _
 have hs0:W0.heap.size=w.heap.size+1:=by rw [hW0];simp
 have Zx:=ay (hseq W0 hk0 hb0)
 have HI0:Hid (xB S E w W0.heap.size w.heap.size (l.take 0) W0):=⟨hk0.mono (fun _ _ f=>f.elim),aje _,⟨_,hb0,⟨rfl,.inl ⟨rfl,rfl⟩⟩⟩,hE _ _ _ (fun _ f=>f.elim) hk0 he⟩
 have qK:Hid (w.heap.size<W0.heap.size):=by unfold Hid;omega
 have HL:=ay hl
 have HT1:=ay ht1
 have HT2:=ay ht2
 have HW0:=ay hW0
 have TM:=ay hS
 have HEE:=ay hE
 clear hseq hk0 hb0 hs0 hW0 hl ht1 ht2 hS hE he
 refine (callsIn_wide (n:=9)).1 ?_
 refine callsIn_of_wp_marks func86 rfl trivial ?_ rfl
 refine wpIn_wide.2 ?_
 simp only [ntmps86,akX,akn,ako,Nat.reduceAdd,Nat.reduceSub,akY,Array.replicate_zero,akZ,ala,akr,List.cons_append]
 go_wp2_with fail
 rw [<- HW0.out]
 refine wpIn_wide (n:=9) |>.1 ?_
 refine JF rfl (by decide) (gf:=gf) (lb:=lb) rfl trivial eg (all:=l) (Enc:=FW) (R:=lZ Ts w.heap.size w.heap.size) (N:=w.heap.size) (akb qK.out) (lZ.rel _ _ _)
  Zx.out ?hps (fun j W=>xB S E w W0.heap.size w.heap.size (l.take j) W) (fun _ _ _=>False) ?hI ?hIx ?h0 (fun b hb=>Nat.lt_trans (TM.out b hb) qK.out) (fun k A C h kk ke=>xB.later h TM.out qK.out kk ke) (fun _ _ _ _ h _ _=>h) ?round ?done ?stop
 case hI=>exact fun k=>xB.own (akb qK.out) HEE.out (l.take k)
 case hIx=>exact fun c s W W' row h hg hr=>h
 case h0=>exact HI0.out
 case hps =>
  rintro W x args h
  rw [h];rfl
 case stop=>exact fun D c k W hD hk h=>h.elim
 case round =>
  rintro q j x args W hx henc hI
  have hj:j<l.length:=(ake.1 hx).1
  obtain rfl:args=#[ah (x:Int)]:=henc
  have H8:Hid (l.take (j+1)=l.take j++[x]):=by unfold Hid;rw [List.take_add_one,hx];rfl
  have HJ:=ay hj
  have HI:=ay hI
  clear hI hx hj
  gi_wp2_with fail
  refine ⟨fun W=>xB S E w W0.heap.size w.heap.size (l.take j) W,KeepsFrom.refl _ _,lZ.refl _ _ _ _,HI.out,(fun _ W' W'' row h hg hr=>xB.own (akb qK.out) HEE.out (l.take j) W' W'' row h hg hr),?_⟩
  clear HI
  rintro w3 hI
  obtain ⟨v,g,aO,w5,_,cO4,hrun9,cO5,fO5,p1,p2,p3⟩:=hI.push (N:=w.heap.size) (x:=x) (aje _) qK.out (aje _) TM.out HEE.out (by rw [List.length_take];have:=HL.out;omega) Ts HT1.out HT2.out
  rw [<- H8.out] at p1
  have iH:=ay (And.intro p2 (And.intro p3 p1))
  generalize (l.take j).length+1=jl at *
  clear p1 p2 p3 hI
  gi_wp2_with fail
  exact iH.out
 case done =>
  rintro D W hD hI EG
  obtain ⟨v,xq,hrow⟩:=hI.o
  rw [List.take_length] at hrow
  have cO:=xq.cell 0 (v:=v) rfl
  have Rw:=hI.aK.takeDeferred (D:=D) (by have:=qK.out;omega) (.deferred none)
  have hE9:E (W.putObj D (.deferred none)):=HEE.out W _ (only D) (fun b e=>by have:b=D:=e;have:=qK.out;omega) ⟨rfl,rfl,rfl,by simp,fun q _ n=>ajV n⟩ hI.e
  have HE9:=ay hE9
  clear hE9
  have qO:=ay hrow
  clear hrow
  go_wp2_with fail
  refine ⟨by simp,.inl ⟨_,_,rfl,run_takeDeferred EG,?_⟩⟩
  refine ⟨v,by simp [results,Tryz.f86,go_sem],v,rfl,bQ (gK (S:=fun i=>i=D) qO.out ⟨rfl,rfl,rfl,by simp,fun q _ n=>ajV n⟩ (fun q hq e=>?_)) (akb qK.out),Rw,HE9.out⟩
  obtain ⟨cur,hcur⟩:=nG (bQ qO.out (aki _)) hq
  rw [e,EG] at hcur
  cases hcur
theorem Ib (S:Nat->Prop) (E:World->Prop) (gf:Nat) (lb:Array Value) (l:List Nat) (Ts:List TypeId) (ht1:Ts.contains 3=false) (ht2:Ts.contains 32=false) (hl:l.length<=4000000) (w:World) (hS:∀ b,S b->b<w.heap.size) (hE:ML w.heap.size E) (he:E w) (eg:∀ args w,(callFunc gf args).run aA w = .ok (.enter gf args) w)
 (hseq:∀ W,aj aB w W->aF W w.heap.size [.slice none 0 0] 32->Eb S E Fence.wide 8 aA gf lb l FW (lZ Ts w.heap.size w.heap.size) W) :
 Calls aA 46 #[.func (.func gf) #[] lb] w fun e w'=>∃ v,e = .returned v/\w'.ownsRow w.heap.size 3 1 v l.length (aS l)/\aj S w w'/\E w':=by
 have HA:=ay (VE S E gf lb l Ts ht1 ht2 hl w hS hE he eg hseq)
 clear hseq hl hS hE he
 go_enter func46,ntmps46
 go_wp2_with fail
 refine HA.out.mono ?_
 rintro e w1 ⟨v,rfl,h1,k1,k2⟩
 have HE:=ay (And.intro h1 (And.intro k1 k2))
 clear h1 k1 k2 HA
 go_wp2_with fail
 go_ret
 exact ⟨v,rfl,HE.out⟩
end
section
open Go.RowKit
theorem VF (gf:Nat) (lb:Array Value) (l:List Nat) (Ts:List TypeId) (ht1:Ts.contains 3=false) (ht2:Ts.contains 32=false) (hl:l.length<=4000000) (w:World) (eg:∀ args w,(callFunc gf args).run aA w = .ok (.enter gf args) w)
 (hseq:∀ W,aj aB w W->Xk Fence.wide 8 aA gf lb l FW (oH Ts w.heap.size) W) :
 Calls aA 46 #[.func (.func gf) #[] lb] w fun e w'=>∃ v,e = .returned v/\w'.ownsRow w.heap.size 3 1 v l.length (aS l)/\aj aB w w':=by
 refine (Ib aB (fun _=>True) gf lb l Ts ht1 ht2 hl w (fun b f=>f.elim) (fun _ _ _ _ _ _=>trivial) trivial eg (fun W k _=>?_)).mono ?_
 ·exact Eb.mono (R:=oH Ts w.heap.size) (fun l J Jx W g1 g2 g3=>hseq _ k l J Jx W g1 (fun k A C a c=>g2 k A C a c (fun h=>h)) (fun k A C a c=>g3 k A C a c (fun h=>h))) (fun A B h=>h.t)
 ·rintro e w' ⟨v,rfl,h1,h2,_⟩
  exact ⟨v,rfl,h1,h2⟩
end
section
attribute [local go_sem] Oper.semAt_some
open Go.RowKit
def HS.aQ (H:HS):List Nat:=jX H.bn H.sz
section
variable {w w':World} {D:Nat->Nat} {H:HS}
theorem Yw {s s':Nat->Bool} {size:Nat} (h:∀ k,k<size->s k=s' k):jX s size=jX s' size:=List.filter_congr (fun x hx=>h x (akB.1 hx))
theorem VG {B X size:Nat} {s:Nat->Bool} (h:qP w B X size s) (h1:1<=size) (hT:pI w):∀ W,W=w.alloc (.cells #[au B] 99)->Calls aA 46 #[.func (.func 87) #[] #[au w.heap.size]] W fun e w'=>∃ v,e = .returned v/\w'.ownsRow w.heap.size 3 1 v (jX s size).length (aS (jX s size))/\aj aB w w':=by
 intro W hW
 obtain ⟨ws,hs,hb⟩:=h
 have hk:aj aB w W:=by rw [hW];exact (aj.refl _ _).alloc _
 have hp:aF W w.heap.size [au B] 99:=by rw [hW];exact aF.bC w _ _
 have e:jX (lI ws) size=jX s size:=Yw (fun k hk=>by
  rw [<- hb k]
  unfold oU
  rw [fK (by omega),Bool.true_and,Int.toNat_natCast])
 have hsz:=hs.sz
 have hdB:1<w.heap.size:=World.block_lt_of_cell? _ _ (hT 0 (by decide))
 have hl:=FV s size
 refine (VF 87 #[au w.heap.size] (jX s size) Yv (by decide) (by decide) (by omega) W (fun args w=>by simp [callFunc,func87,go_sem];rfl) (fun V hV=>?_)).mono ?_
 ·rw [<- e]
  exact aeG ((hs.still hk).still hV) h1 ((hT.still hk).still hV) (ajf hdB hk.size) w.heap.size (hV.aH hp (fun f=>f)) 8
 ·rintro e w' ⟨v,rfl,h2,k2⟩
  exact ⟨v,rfl,bQ h2 hk.size,hk.trans k2⟩
theorem yT (h:aI w D H) (hT:pI w):Calls aA 23 #[au (D 0)] w fun e w'=>∃ v,e = .returned v/\w'.ownsRow w.heap.size 3 1 v H.aQ.length (aS H.aQ)/\aj aB w w':=by
 have c3:=h.aH.cell 3 rfl
 have HC:=ay (VG h.kG (by show 1<=H.b*H.ww+1;omega) hT)
 unfold HS.aQ
 generalize jX H.bn H.sz=l at *
 clear h hT
 go_enter func23,ntmps23
 go_wp2_with fail
 refine (agf _ _).mono ?_
 rintro e w1 ⟨rfl,hw⟩
 have tV:=ay (HC.out w1 hw)
 clear HC hw c3
 go_wp2_with fail
 refine tV.out.mono ?_
 rintro e w2 ⟨v,rfl,h1,k1⟩
 have HE:=ay (And.intro h1 k1)
 clear h1 k1 tV
 go_wp2_with fail
 go_ret
 exact ⟨v,rfl,HE.out.1,HE.out.2⟩
end
structure yt (w:World) (a:Option Addr) (n:Nat) (l:List Nat):Prop where
 ni:gY .u8 w a n (l.map fun x:Nat=>(x:Int))
 lt:∀ x∈l,x<256
theorem yt.len {w:World} {a:Option Addr} {n:Nat} {l:List Nat} (h:yt w a n l):l.length=n:=by
 have:=h.ni.len
 simpa using this
theorem yt.still {w w':World} {a:Option Addr} {n:Nat} {l:List Nat} (h:yt w a n l) (k:aj aB w w'):yt w' a n l:=⟨h.ni.below k,h.lt⟩
theorem TN {l:List Nat} {j:Nat} (hj:j<l.length):(l.map fun x:Nat=>(x:Int)).getD j 0=(l.getD j 0:Int):=by
 rw [ajg,ajg,List.getElem?_map,ajh hj]
 rfl
theorem yt.cell {w:World} {a:Option Addr} {n:Nat} {l:List Nat} (h:yt w a n l) {j:Nat} (hj:j<n):∃ b off,a=some ⟨b,off,none⟩/\w.cell? ⟨b,off+j,none⟩=some (.int .u8 (l.getD j 0:Int))/\l.getD j 0<256:=by
 have hl:=h.len
 obtain ⟨b,off,e,hc⟩:=h.ni.ni (by omega)
 refine ⟨b,off,e,?_,?_⟩
 ·rw [hc j hj,TN (by omega)]
 ·refine h.lt _ ?_
  rw [ajg,ajh (by omega)]
  exact aji _
abbrev J6 (w:World) (a:Option Addr) (n:Nat) (l:List Nat):Prop:=gY .i64 w a n (l.map fun x:Nat=>(x:Int))
theorem J6.cell {w:World} {a:Option Addr} {n:Nat} {l:List Nat} (h:J6 w a n l) {j:Nat} (hj:j<n):∃ b off,a=some ⟨b,off,none⟩/\w.cell? ⟨b,off+j,none⟩=some (ah (l.getD j 0:Int)):=by
 have hl:l.length=n:=by have:=h.len;simpa using this
 obtain ⟨b,off,e,hc⟩:=h.ni (by omega)
 exact ⟨b,off,e,by rw [hc j hj,TN (by omega)]⟩
def qx (all:List Nat) (n:Nat):Nat:=if all=[]\/n%5=0 then 0 else all.getD (n/5%all.length) 0
section
variable {w w':World} {a:Option Addr} {c:Nat}
theorem acS (all:List Nat) (h:J6 w a all.length all) (n:Nat) (hn:n<256):Calls aA 73 #[.slice a all.length c,.int .u8 (n:Int)] w fun e w'=>e = .returned (ah (qx all n:Int))/\w=w':=by
 have hm:(n:Int).tmod 5=((n%5:Nat):Int):=by rw [ali (by omega)];omega
 by_cases h0:all=[]
 ·have e:qx all n=0:=by unfold qx;rw [aZ (.inl h0)]
  rw [e]
  subst h0
  clear h
  go_enter func73,ntmps73
  go_wp2_with fail
  go_ret
  exact ⟨rfl,rfl⟩
 ·have hpos:0<all.length:=List.length_pos_iff.2 h0
  have d0:((all.length:Int)==0)=false:=by simp;omega
  by_cases h5:n%5=0
  ·have e:qx all n=0:=by unfold qx;rw [aZ (.inr h5)]
   rw [e]
   have hm2:(n:Int).tmod 5=0:=by rw [hm,h5];rfl
   have hm3:(n:Int)%5=0:=by omega
   generalize all.length=L at *
   clear h hm h5
   go_enter func73,ntmps73
   go_wp2_with fail
   go_ret
   exact ⟨rfl,rfl⟩
  ·have e:qx all n=all.getD (n/5%all.length) 0:=by unfold qx;rw [aT (by intro hh;exact hh.elim h0 h5)]
   rw [e]
   obtain ⟨b,off,rfl,hc⟩:=h.cell (j:=n/5%all.length) (akI _ hpos)
   generalize all.getD (n/5%all.length) 0=r at *
   have hq:(n:Int).tdiv 5=((n/5:Nat):Int):=by rw [Int.tdiv_eq_ediv_of_nonneg (by omega)];omega
   have hq2:(n:Int)/5=((n/5:Nat):Int):=by omega
   have hr:((n/5:Nat):Int).tmod (all.length:Int)=((n/5%all.length:Nat):Int):=by rw [ali (by omega)];simp
   have hr2:((n/5:Nat):Int)%(all.length:Int)=((n/5%all.length:Nat):Int):=by simp
   have hlt:n/5%all.length<all.length:=akI _ hpos
   have hx5:((n%5:Nat):Int)≠0:=by omega
   have hm3:((n:Int)%5==0)=false:=by simp;omega
   have hm4:((n:Int).tmod 5==0)=false:=by rw [hm];simp;omega
   have hn51:n/5<256:=by omega
   generalize n/5=m at *
   generalize m%all.length=j at *
   have ZM:(j:Int)<(all.length:Int):=by omega
   have hj0:(0:Int)<=(j:Int):=by omega
   have hL0:¬ (all.length:Int)=0:=by omega
   generalize all.length=L at *
   go_enter func73,ntmps73
   go_wp2_with fail
   go_ret
   exact ⟨rfl,rfl⟩
end
end
end Go.Proofs.YtanfphjoebobaaaGreatDoor
