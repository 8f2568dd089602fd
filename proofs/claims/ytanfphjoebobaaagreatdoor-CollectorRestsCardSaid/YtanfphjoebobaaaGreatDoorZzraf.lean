/- Parts of a walk, put together and made shorter by a small program of mine. No conditions but those that each theorem names. -/
import Derived.Test.YtanfphjoebobaaaGreatDoorZzrae
import Derived.Test.YtanfphjoebobaaaGreatDoorZzrk
import Derived.Shelf.Spec.TrailingZeros
import Derived.WalkSpells
import Derived.Scope
import Derived.BigFrame
import Derived.Lib.MinMax
import Derived.BigRegion
import Derived.WalkLawsBesides
import Derived.Test.YtanfphjoebobaaaGreatDoorZzrd
import Derived.Test.YtanfphjoebobaaaGreatDoorZzre
namespace Go.Proofs.YtanfphjoebobaaaGreatDoor
section
open Go.RowKit
attribute [local go_sem] Oper.semAt_some
section
variable {w w':World} {D:Nat→Nat} {H:HS}
theorem ofK_small {f:Nat} (hf:f≤3):ofK f<2:=by
 unfold ofK
 split
 ·decide
 ·split
  ·decide
  ·split
   ·decide
   ·omega
set_option maxRecDepth 100000 in
set_option maxHeartbeats 4000000 in
theorem hSlot_full (h:HeapAt w D H) (k:Nat) (hk:k<4) (ht:(H.takeP k).2.1≠0) (ha:(H.assignP k).2.1≠0):Calls Tryz.prog 114 #[.pointer (some ⟨D 0,0,none⟩),.int .i64 (k:Int)] w fun e w'=>e = .returned (.tuple #[.int .i64 ((H.slotP k).1:Int),.int .i64 ((H.slotP k).2.1:Int)])∧HeapAt w' D (H.slotP k).2.2∧Keep (HF D) w w':=by
 have e:H.slotP k=(0,10,H):=by unfold HS.slotP;rw [if_neg ht,if_neg ha]
 rw [e]
 have ht12:(H.takeP k).2.1=12∧(H.takeP k).2.2=H:=by
  unfold HS.takeP at ht ⊢
  split
  ·exact ⟨rfl,rfl⟩
  ·rename_i e;rw [e] at ht;exact absurd rfl ht
 have ha10:(H.assignP k).2.1=10∧(H.assignP k).2.2=H∧(H.assignP k).1=[]:=by
  unfold HS.assignP at ha ⊢
  split
  ·exact ⟨rfl,rfl,rfl⟩
  ·rename_i e;rw [e] at ha;exact absurd rfl ha
 obtain ⟨W0,hW0⟩:∃ W0,W0=w.alloc (.cells #[.pointer (some ⟨D 0,0,none⟩)] 47):=⟨_,rfl⟩
 have k0:Keep none_ w W0:=by rw [hW0];exact (Keep.refl _ _).alloc _
 have hb0:Blk W0 w.heap.size [.pointer (some ⟨D 0,0,none⟩)] 47:=by rw [hW0];exact Blk.new w _ _
 have hDw:∀ i,i<13→D i<w.heap.size:=h.ltD
 have HT:Hid (Calls Tryz.prog 159 #[.pointer (some ⟨D 0,0,none⟩),.int .i64 (k:Int)] W0 fun e w'=>(∃ a:Int,e = .returned (.tuple #[.int .i64 a,.int .i64 12]))∧HeapAt w' D H∧Keep (HF D) w w'∧w'.cell? ⟨w.heap.size,0,none⟩=some (.pointer (some ⟨D 0,0,none⟩))):=by
  refine (hTake_any (h.still k0) k hk).mono ?_
  rintro e w' ⟨rfl,h1,k1⟩
  rw [ht12.1] at *
  rw [ht12.2] at h1
  refine ⟨⟨_,rfl⟩,h1,(k0.mono (fun _ _ f=>f.elim)).trans k1,(k1.blk hb0 (fun hh=>?_)).cell 0 rfl⟩
  obtain ⟨i,hi,e⟩:=hh
  have:=hDw i hi
  omega
 have HA:Hid (∀ W,HeapAt W D H→Keep (HF D) w W→Calls Tryz.prog 160 #[.pointer (some ⟨D 0,0,none⟩),.int .i64 (k:Int)] W fun e w'=>(∃ a n c,e = .returned (.tuple #[.slice a n c,.int .i64 10]))∧HeapAt w' D H∧Keep (HF D) w w'):=fun W hW hk'=>by
  refine (hAssign_any hW k hk).mono ?_
  rintro e w' ⟨v,rfl,ho,h1,k1⟩
  rw [ha10.1]
  rw [ha10.2.1] at h1
  obtain ⟨a,c,rfl,_⟩:=own_form (own_low ho (Nat.zero_le _))
  exact ⟨⟨_,_,_,rfl⟩,h1,hk'.trans k1⟩
 have HW0:=Lib.hid hW0
 clear h ht ha e hDw ht12 ha10 hb0 k0 hW0
 go_enter Tryz.func114,Tryz.ntmps114
 go_wp2_with fail
 rw [← HW0.out]
 refine HT.out.mono ?_
 rintro e w1 ⟨⟨a,rfl⟩,h1,k1,z0⟩
 have HA1:=Lib.hid (HA.out w1 h1 k1)
 clear h1 k1 HT HA
 go_wp2_with fail
 refine HA1.out.mono ?_
 rintro e w2 ⟨⟨a2,n2,c2,rfl⟩,h2,k2⟩
 have HE:=Lib.hid (And.intro h2 k2)
 clear h2 k2 HA1 z0
 go_wp2_with fail
 go_ret2
 exact ⟨rfl,HE.out.1,HE.out.2⟩
theorem assignP_len2 (h:HeapAt w D H) (k:Nat) (hk:k<2) (ha:(H.assignP k).2.1=0):2≤(H.assignP k).1.length∧(H.assignP k).1.length≤256:=by
 have hn:=ok_nat h.table.ok h.table.len h.cw
 unfold HS.assignP at ha ⊢
 split at ha
 ·cases ha
 ·rename_i B hB
  have hlt:B<H.K.length:=by
   obtain ⟨hh,_⟩:=List.findIdx?_eq_some_iff_getElem.1 hB
   exact hh
  simp only [hB]
  unfold HS.slots
  have e1:(H.assign B k).K.getD B 0=k+1:=by
   show (H.K.set B (k+1)).getD B 0=_
   rw [List.getD_eq_getElem?_getD,List.getElem?_set_self hlt]
   rfl
  rw [e1,if_neg (by omega),slotsL_len]
  show 2≤H.ww/2^(k+1)∧H.ww/2^(k+1)≤256
  have h1:H.ww/2^(k+1)≤H.ww:=Nat.div_le_self _ _
  have h2:4≤H.ww/2^(k+1):=by
   rw [Nat.le_div_iff_mul_le (Nat.pos_of_ne_zero (by simp))]
   rcases (by omega:k=0∨k=1) with rfl|rfl<;>omega
  omega
theorem hSlot_any (h:HeapAt w D H) (k:Nat) (hk:k<2):Calls Tryz.prog 114 #[.pointer (some ⟨D 0,0,none⟩),.int .i64 (k:Int)] w fun e w'=>e = .returned (.tuple #[.int .i64 ((H.slotP k).1:Int),.int .i64 ((H.slotP k).2.1:Int)])∧HeapAt w' D (H.slotP k).2.2∧Keep (HF D) w w':=by
 by_cases ht:(H.takeP k).2.1=0
 ·exact hSlot_take h k (by omega) ht
 ·by_cases ha:(H.assignP k).2.1=0
  ·obtain ⟨h1,h2⟩:=assignP_len2 h k hk ha
   exact hSlot_assign h k (by omega) ht ha h1 h2
  ·exact hSlot_full h k (by omega) ht ha
set_option maxRecDepth 8000 in
set_option maxHeartbeats 2000000 in
theorem hMake_fit (f c:Nat) (hf:f≤15) (hc:c<2) (w:World) (he:(H.slotP (ofK f)).2.1=0) (hS:Sizes w)
 (hSl:Calls Tryz.prog 114 #[.pointer (some ⟨D 0,0,none⟩),.int .i64 (ofK f:Int)] w fun e w'=>e = .returned (.tuple #[.int .i64 ((H.slotP (ofK f)).1:Int),.int .i64 ((H.slotP (ofK f)).2.1:Int)])∧HeapAt w' D (H.slotP (ofK f)).2.2∧Keep (HF D) w w'):Calls Tryz.prog 71 #[.pointer (some ⟨D 0,0,none⟩),.int .i64 (f:Int),.int .i64 (c:Int)] w fun e w'=>(∃ va vb:Int,e = .returned (.tuple #[.int .i64 va,.int .i64 vb]))∧HeapAt w' D (H.makeP f c).2∧Keep (HF D) w w':=by
 have e:H.makeP f c=((H.slotP (ofK f)).1,(((H.slotP (ofK f)).2.2.beginP (H.slotP (ofK f)).1 f).storeL (H.slotP (ofK f)).1 f).bearP (H.slotP (ofK f)).1 c):=by unfold HS.makeP;rw [if_pos he]
 rw [e]
 rw [he] at hSl
 have HSL:=Lib.hid hSl
 have HOF:Hid (Calls Tryz.prog 112 #[.int .i64 (f:Int)] w fun e w'=>e = .returned (.tuple #[.int .i64 (ofK f:Int),.bool true])∧w=w'):=by
  exact cOf_any (f:Int) (by omega) (by omega) w hS
 have HCO:Hid (∀ W,Calls Tryz.prog 113 #[.int .i64 (c:Int)] W fun e w'=>e = .returned (.bool true)∧W=w'):=fun W=>by
  rcases (by omega:c=0∨c=1) with rfl|rfl
  all_goals
   go_enter Tryz.func113,Tryz.ntmps113
   go_wp2_with fail
   go_ret
   exact ⟨rfl,rfl⟩
 generalize (H.slotP (ofK f)).1=a at *
 generalize (H.slotP (ofK f)).2.2=H2 at *
 have HBG:Hid (∀ W,HeapAt W D H2→Calls Tryz.prog 115 #[.pointer (some ⟨D 0,0,none⟩),.int .i64 (a:Int),.int .i64 (f:Int)] W fun e w'=>(∃ er:Int,e = .returned (.int .i64 er))∧HeapAt w' D (H2.beginP a f)∧Keep (HF D) W w'):=fun W hW=>hBegin_any hW a f hf
 have HST:Hid (∀ W i,HeapAt W D ((H2.beginP a f).storeL a i)→Calls Tryz.prog 72 #[.pointer (some ⟨D 0,0,none⟩),.int .i64 (a:Int),.int .i64 (i:Int),.int .i64 0] W fun e w'=>(∃ er:Int,e = .returned (.int .i64 er))∧HeapAt w' D ((H2.beginP a f).storeL a (i+1))∧Keep (HF D) W w'):=fun W i hW=>by
  refine (hStore_any hW a (i:Int) 0).mono ?_
  rintro e w' ⟨rfl,h1,k1⟩
  exact ⟨⟨_,rfl⟩,h1,k1⟩
 have HBE:Hid (∀ W,HeapAt W D ((H2.beginP a f).storeL a f)→Calls Tryz.prog 116 #[.pointer (some ⟨D 0,0,none⟩),.int .i64 (a:Int),.int .i64 (c:Int)] W fun e w'=>(∃ er:Int,e = .returned (.int .i64 er))∧HeapAt w' D (((H2.beginP a f).storeL a f).bearP a c)∧Keep (HF D) W w'):=fun W hW=>by
  refine (hBear_any hW a c).mono ?_
  rintro e w' ⟨rfl,g1,g2⟩
  exact ⟨⟨_,rfl⟩,g1,g2⟩
 have hf0:(f:Int)≤15:=by omega
 have hw0:HeapAt w D H2→True:=fun _=>trivial
 show Calls Tryz.prog 71 #[.pointer (some ⟨D 0,0,none⟩),.int .i64 (f:Int),.int .i64 (c:Int)] w fun e w'=>(∃ va vb:Int,e = .returned (.tuple #[.int .i64 va,.int .i64 vb]))∧HeapAt w' D (((H2.beginP a f).storeL a f).bearP a c)∧Keep (HF D) w w'
 generalize H2.beginP a f=H3 at *
 clear hSl hS he e hw0
 go_enter Tryz.func71,Tryz.ntmps71
 go_wp2_with fail
 refine HOF.out.mono ?_
 rintro e w1 ⟨rfl,rfl⟩
 go_wp2_with fail
 refine (HCO.out _).mono ?_
 rintro e w1 ⟨rfl,rfl⟩
 go_wp2_with fail
 refine HSL.out.mono ?_
 rintro e w1 ⟨rfl,h1,k1⟩
 have HB1:=Lib.hid (HBG.out w1 h1)
 have HK1:=Lib.hid k1
 clear h1 k1 HSL HBG HOF HCO
 go_wp2_with fail
 refine HB1.out.mono ?_
 rintro e w2 ⟨⟨er,rfl⟩,h2,k2⟩
 have HI0:Hid (HeapAt w2 D (H3.storeL a 0)∧Keep (HF D) w w2):=⟨h2,HK1.out.trans k2⟩
 clear h2 k2 HB1 HK1
 go_wp2_with fail
 go_loopw [39] (fun i wr=>∃ j:Nat,j≤f∧i = .int .i64 j∧HeapAt wr D (H3.storeL a j)∧Keep (HF D) w wr) (fun i _=>f - (intOf i).toNat)
 case atStart=>exact ⟨0,Nat.zero_le _,rfl,HI0.out.1,HI0.out.2⟩
 case round =>
  obtain ⟨j,hj,rfl,hh,hk⟩:=hrel
  by_cases hlt:j<f
  ·have hltI:(j:Int)<(f:Int):=by omega
   have HS1:=Lib.hid (HST.out wr j hh)
   have HK:=Lib.hid hk
   clear hh hk
   go_wp2_with fail
   refine HS1.out.mono ?_
   rintro e w3 ⟨⟨er,rfl⟩,h3,k3⟩
   have H3':Hid (HeapAt w3 D (H3.storeL a (j+1))∧Keep (HF D) w w3):=⟨h3,HK.out.trans k3⟩
   clear h3 k3 HS1
   go_wp2_with fail
   go_roundw
   case rel=>exact ⟨j+1,by omega,by go_num,H3'.out.1,H3'.out.2⟩
   case measure=>simp [intOf]<;>omega
  ·obtain rfl:j=f:=by omega
   have hnlt:¬ (j:Int)<(j:Int):=by omega
   have HB:=Lib.hid (HBE.out wr hh)
   have HK:=Lib.hid hk
   clear hh hk hlt
   go_wp2_with fail
   refine HB.out.mono ?_
   rintro e w3 ⟨⟨er,rfl⟩,h3,k3⟩
   have H3':Hid (HeapAt w3 D ((H3.storeL a j).bearP a c)∧Keep (HF D) w w3):=⟨h3,HK.out.trans k3⟩
   clear h3 k3 HB
   go_wp2_with fail
   go_ret2
   exact ⟨⟨_,_,rfl⟩,H3'.out.1,H3'.out.2⟩
set_option maxRecDepth 8000 in
set_option maxHeartbeats 2000000 in
theorem hMake_full (h:HeapAt w D H) (f c:Nat) (hf:f≤3) (hc:c<2) (he:(H.slotP (ofK f)).2.1≠0):Calls Tryz.prog 71 #[.pointer (some ⟨D 0,0,none⟩),.int .i64 (f:Int),.int .i64 (c:Int)] w fun e w'=>(∃ va vb:Int,e = .returned (.tuple #[.int .i64 va,.int .i64 vb]))∧HeapAt w' D (H.makeP f c).2∧Keep (HF D) w w':=by
 have e:H.makeP f c=(0,(H.slotP (ofK f)).2.2):=by unfold HS.makeP;rw [if_neg he]
 rw [e]
 have hk2:ofK f<2:=ofK_small hf
 have HSL:=Lib.hid (hSlot_any h (ofK f) hk2)
 have HOF:Hid (Calls Tryz.prog 112 #[.int .i64 (f:Int)] w fun e w'=>e = .returned (.tuple #[.int .i64 (ofK f:Int),.bool true])∧w=w'):=by
  exact cOf_any (f:Int) (by omega) (by omega) w h.sizes
 have HCO:Hid (∀ W,Calls Tryz.prog 113 #[.int .i64 (c:Int)] W fun e w'=>e = .returned (.bool true)∧W=w'):=fun W=>by
  rcases (by omega:c=0∨c=1) with rfl|rfl
  all_goals
   go_enter Tryz.func113,Tryz.ntmps113
   go_wp2_with fail
   go_ret
   exact ⟨rfl,rfl⟩
 have he10:(H.slotP (ofK f)).2.1=10:=by
  unfold HS.slotP at he ⊢
  split at he
  ·exact absurd rfl he
  ·split at he
   ·exact absurd rfl he
   ·rename_i h1 h2
    rw [if_neg h1,if_neg h2]
 rw [he10] at HSL
 generalize (H.slotP (ofK f)).1=a at *
 generalize (H.slotP (ofK f)).2.2=H2 at *
 clear h he e he10
 go_enter Tryz.func71,Tryz.ntmps71
 go_wp2_with fail
 refine HOF.out.mono ?_
 rintro e w1 ⟨rfl,rfl⟩
 go_wp2_with fail
 refine (HCO.out _).mono ?_
 rintro e w1 ⟨rfl,rfl⟩
 go_wp2_with fail
 refine HSL.out.mono ?_
 rintro e w1 ⟨rfl,h1,k1⟩
 have HE:=Lib.hid (And.intro h1 k1)
 clear h1 k1 HSL HOF HCO
 go_wp2_with fail
 go_ret2
 exact ⟨⟨_,_,rfl⟩,HE.out.1,HE.out.2⟩
theorem hMake_any (h:HeapAt w D H) (f c:Nat) (hf:f≤3) (hc:c<2):Calls Tryz.prog 71 #[.pointer (some ⟨D 0,0,none⟩),.int .i64 (f:Int),.int .i64 (c:Int)] w fun e w'=>(∃ va vb:Int,e = .returned (.tuple #[.int .i64 va,.int .i64 vb]))∧HeapAt w' D (H.makeP f c).2∧Keep (HF D) w w':=by
 by_cases he:(H.slotP (ofK f)).2.1=0
 ·have hk2:ofK f<2:=ofK_small hf
  exact hMake_fit f c (by omega) hc w he h.sizes (hSlot_any h (ofK f) hk2)
 ·exact hMake_full h f c hf hc he
end
end
section
open Go.RowKit
def nextF (s:Nat→Bool) (size n:Nat):Option Nat:=(List.range size).find? fun k=>decide (n≤k)&&s k
theorem find_range (p:Nat→Bool):∀ (size k:Nat),k<size→p k=true→(∀ j,j<k→p j=false)→(List.range size).find? p=some k
 | 0,k,h,_,_=>absurd h (Nat.not_lt_zero k)
 | size+1,k,h,hp,hj=>by
   rw [List.range_succ,List.find?_append]
   by_cases e:k<size
   ·rw [find_range p size k e hp hj];rfl
   ·obtain rfl:k=size:=by omega
    have h0:(List.range k).find? p=none:=List.find?_eq_none.2 (fun x hx=>by rw [hj x (List.mem_range.1 hx)];decide)
    rw [h0]
    simp [hp]
theorem next_some {s:Nat→Bool} {size n k:Nat} (h1:n≤k) (h2:k<size) (h3:s k=true) (h4:∀ j,n≤j→j<k→s j=false):nextF s size n=some k:=by
 refine find_range _ size k h2 (by rw [decide_eq_true h1,h3];rfl) (fun j hj=>?_)
 by_cases e:n≤j
 ·rw [h4 j e hj,Bool.and_false]
 ·rw [decide_eq_false e];rfl
theorem next_none {s:Nat→Bool} {size n:Nat} (h:∀ j,n≤j→j<size→s j=false):nextF s size n=none :=
 List.find?_eq_none.2 (fun x hx=>by
  by_cases e:n≤x
  ·rw [h x e (List.mem_range.1 hx),Bool.and_false];exact Bool.false_ne_true
  ·rw [decide_eq_false e,Bool.false_and];exact Bool.false_ne_true)
theorem bit_shift (W:List Nat) (n j:Nat) (hj:n%64+j<64):bitL W (n+j)=(W.getD (n/64) 0/2^(n%64)).testBit j:=by
 unfold bitL
 have e1:(n+j)/64=n/64:=by omega
 have e2:(n+j)%64=n%64+j:=by omega
 rw [e1,e2,Nat.testBit_div_two_pow]
 congr 1
 omega
theorem left_zero {W:List Nat} {n:Nat} (h:W.getD (n/64) 0/2^(n%64)=0) (j:Nat) (h1:n≤j) (h2:j<n+(64 - n%64)):bitL W j=false:=by
 obtain ⟨d,rfl⟩:∃ d,j=n+d:=⟨j - n,by omega⟩
 rw [bit_shift W n d (by omega),h,Nat.zero_testBit]
theorem left_some {W:List Nat} {n t l:Nat} (hl:l=W.getD (n/64) 0/2^(n%64)) (hx:W.getD (n/64) 0<18446744073709551616) (h0:l≠0) (ht:t=Lib.ctz 64 l):n%64+t<64∧bitL W (n+t)=true∧∀ j,n≤j→j<n+t→bitL W j=false:=by
 have hl2:l<2^64:=by
  rw [hl]
  exact Nat.lt_of_le_of_lt (Nat.div_le_self _ _) hx
 obtain ⟨m,hm,hk⟩:=Lib.ctzFrom_spec 64 l (by omega) hl2
 have e:t=Lib.ctzFrom 64 l:=by rw [ht];unfold Lib.ctz;rw [if_neg h0]
 rw [← e] at hm hk
 have hmod:n%64<64:=Nat.mod_lt _ (by decide)
 have h64:n%64+t<64:=by
  have h1:2^t≤l:=by rw [hm];exact Nat.le_mul_of_pos_right _ (by omega)
  have h2:l*2^(n%64)≤W.getD (n/64) 0:=by rw [hl];exact Nat.div_mul_le_self _ _
  have h3:2^t*2^(n%64)≤l*2^(n%64):=Nat.mul_le_mul_right _ h1
  rw [← Nat.pow_add] at h3
  have h4:2^(t+n%64)<2^64:=by
   have:(2:Nat)^64=18446744073709551616:=by decide
   omega
  have:=(Nat.pow_lt_pow_iff_right (by decide:1<2)).1 h4
  omega
 have hbit:∀ j,l.testBit j=(decide (t≤j)&&(2*m+1).testBit (j - t)):=fun j=>by rw [hm,Nat.mul_comm,Nat.testBit_mul_two_pow]
 refine ⟨h64,?_,fun j h1 h2=>?_⟩
 ·rw [bit_shift W n t h64,← hl,hbit,decide_eq_true (Nat.le_refl t),Nat.sub_self]
  simp [Nat.testBit_zero]
 ·obtain ⟨d,rfl⟩:∃ d,j=n+d:=⟨j - n,by omega⟩
  rw [bit_shift W n d (by omega),← hl,hbit,decide_eq_false (by omega)];rfl
def TabB (w:World):Prop:=TabAt 1 Lib.deBruijn64tab w
theorem TabB.keepS {S:Nat→Prop} {w w':World} (h:TabB w) (k:Keep S w w') (h1:¬ S 1):TabB w':=fun j hj=>k.cellv (h j hj) h1
theorem TabB.still {w w':World} (h:TabB w) (k:Keep none_ w w'):TabB w':=h.keepS k (fun f=>f)
set_option maxRecDepth 4000 in
set_option maxHeartbeats 1000000 in
theorem tz64_core (x k idx:Nat) (w:World) (hx0:((x:Int)==0)=false)
 (key:IntKind.u64.wrap (bits BinOp.and IntKind.u64 (x:Int) (IntKind.u64.wrap (-(x:Int)))*285870213051353865)/288230376151711744=(idx:Int))
 (hi:idx<64) (hk:k<64) (hcell:w.cell? ⟨1,idx,none⟩=some (.int .u8 k)) :
 Calls Tryz.prog 124 #[.int .u64 (x:Int)] w fun e w'=>e = .returned (.int .i64 (k:Int))∧w=w':=by
 go_enter Tryz.func124,Tryz.ntmps124
 go_wp2_with (simp only [key])
 go_ret
 exact ⟨rfl,rfl⟩
theorem tz64_any (x:Nat) (hx:x<18446744073709551616) (h0:x≠0) (w:World) (hT:TabB w):Calls Tryz.prog 124 #[.int .u64 (x:Int)] w fun e w'=>e = .returned (.int .i64 (Lib.ctz 64 x:Int))∧w=w':=by
 obtain ⟨hlow,hk⟩:=Lib.lowest_bit 64 x h0 hx
 obtain ⟨hi,htab⟩:=Lib.deBruijn64_at _ hk
 have hcell:=hT _ hi
 rw [htab] at hcell
 exact tz64_core x _ _ w (by simp;omega) (tz64_key x _ hx h0 hlow) hi hk hcell
section
variable {w w':World} {B X size:Nat} {W:List Nat}
def nextV:Option Nat→Value
 | some k => .tuple #[.int .i64 (k:Int),.bool true]
 | none => .tuple #[.int .i64 0,.bool false]
set_option maxRecDepth 8000 in
set_option maxHeartbeats 4000000 in
theorem bNext_any (h:SetAt w B X size W) (hT:TabB w) (n:Nat) (hn:n≤4194304):Calls Tryz.prog 89 #[.pointer (some ⟨B,0,none⟩),.int .i64 (n:Int)] w fun e w'=>e = .returned (nextV (nextF (bitL W) size n))∧w=w':=by
 have HM:Hid (∀ k:Nat,Calls Tryz.prog 95 #[.pointer (some ⟨B,0,none⟩),.int .i64 (k:Int)] w fun e w'=>e = .returned (.bool (decide (k<size)))∧w=w'):=fun k=>by
  have h9:=bMay_any h (k:Int)
  have e:decide (0≤(k:Int)∧(k:Int)<(size:Int))=decide (k<size):=by rw [Bool.eq_iff_iff];simp
  rw [e] at h9
  exact h9
 obtain ⟨cap,hblk⟩:=h.blk
 have y0:=hblk.cell 0 rfl
 have hsz:=h.sz
 have HX:=Lib.hid h
 have HTT:=Lib.hid hT
 have hn0:(0:Int)≤(n:Int):=by omega
 have hn1:¬ ((n:Int)<0):=by omega
 have hn2:¬ ((0:Int) > (n:Int)):=by omega
 have hn3:max (n:Int) 0=(n:Int):=by omega
 have HL:Hid (∀ k:Nat,k<size→k/64<W.length):=fun k hk=>(h.word hk).1
 generalize W.length=L at *
 clear h hT hblk
 go_enter Tryz.func89,Tryz.ntmps89
 go_wp2_with fail
 refine wp_scope_straight ?_
 go_wp2_with fail
 refine wp_label ?_
 go_wp2_with fail
 go_loopw [1,6] (fun v _ wr=>∃ k:Nat,v = .int .i64 (k:Int)∧n≤k∧k≤4194368∧wr=w∧∀ j,n≤j→j<k→bitL W j=false) (fun v _ _=>4194368 - (intOf v).toNat)
 case atStart=>exact ⟨n,rfl,Nat.le_refl _,by omega,rfl,fun j h1 h2=>by omega⟩
 case round =>
  obtain ⟨k,rfl,hk1,hk2,rfl,hk⟩:=hrel
  have HMk:=Lib.hid (HM.out k)
  by_cases hlt:k<size
  ·rw [decide_eq_true hlt] at HMk
   obtain ⟨_,hc,hx⟩:=HX.out.word hlt
   have hL:=HL.out k hlt
   obtain ⟨x,hxe⟩:∃ x,x=W.getD (k/64) 0:=⟨_,rfl⟩
   obtain ⟨lf,hlf⟩:∃ lf,lf=W.getD (k/64) 0/2^(k%64):=⟨_,rfl⟩
   rw [← hxe] at hc hx
   have hsh:((x:Int)/2^(k%64))=(lf:Int):=by rw [hlf,← hxe];simp
   have HLZ:Hid (lf=0→∀ j,k≤j→j<k+(64 - k%64)→bitL W j=false):=fun e=>left_zero (by rw [← hlf];exact e)
   have HLS:Hid (lf≠0→k%64+Lib.ctz 64 lf<64∧bitL W (k+Lib.ctz 64 lf)=true∧∀ j,k≤j→j<k+Lib.ctz 64 lf→bitL W j=false):=fun e=>left_some hlf (by rw [← hxe];exact hx) e rfl
   have hlfx:lf<18446744073709551616:=by rw [hlf,← hxe];exact Nat.lt_of_le_of_lt (Nat.div_le_self _ _) hx
   have HKB:=Lib.hid hk
   have HTZ:Hid (lf≠0→Calls Tryz.prog 124 #[.int .u64 (lf:Int)] wr fun e w'=>e = .returned (.int .i64 (Lib.ctz 64 lf:Int))∧wr=w'):=fun e=>tz64_any lf hlfx e wr HTT.out
   have hk62:k<2097152:=by omega
   generalize Lib.ctz 64 lf=t at *
   clear hk hlf hxe
   by_cases h0:lf=0
   ·subst h0
    have HZ:=Lib.hid (HLZ.out rfl)
    have d0:(((0:Nat):Int) != 0)=false:=rfl
    have hmod:k%64<64:=Nat.mod_lt _ (by decide)
    have hw1:IntKind.i64.wrap (64 - (k:Int)%64)=64 - (k:Int)%64:=IntWalk.i64_in _ (by omega)
    have hw2:IntKind.i64.wrap ((k:Int)+(64 - (k:Int)%64))=(k:Int)+(64 - (k:Int)%64):=IntWalk.i64_in _ (by omega)
    clear HLZ HLS HTZ
    go_wp2_with fail
    refine HMk.out.mono ?_
    rintro e w1 ⟨rfl,rfl⟩
    go_wp2_with fail
    go_roundw
    case rel =>
     refine ⟨k+(64 - k%64),by congr 1;omega,by omega,by omega,trivial,fun j h1 h2=>?_⟩
     by_cases e:j<k
     ·exact HKB.out j h1 e
     ·exact HZ.out j (by omega) h2
    case measure=>simp [intOf];omega
   ·have d0:((lf:Int)==0)=false:=by simp;omega
    have HT2:=Lib.hid (HTZ.out h0)
    obtain ⟨g1,g2,g3⟩:=HLS.out h0
    have HG2:=Lib.hid g2
    have HG3:=Lib.hid g3
    have hwr:IntKind.i64.wrap ((k:Int)+(t:Int))=(k:Int)+(t:Int):=IntWalk.i64_in _ (by omega)
    have HM2:Hid (Calls Tryz.prog 95 #[.pointer (some ⟨B,0,none⟩),.int .i64 ((k:Int)+(t:Int))] wr fun e w'=>e = .returned (.bool (decide (k+t<size)))∧wr=w'):=by
     have h9:=HM.out (k+t)
     rw [show (((k+t:Nat)):Int)=(k:Int)+(t:Int) from by push_cast;rfl] at h9
     exact h9
    have HNS:Hid (k+t<size→nextF (bitL W) size n=some (k+t)):=fun h=>next_some (by omega) h HG2.out (fun j h1 h2=>by
     by_cases e:j<k
     ·exact HKB.out j h1 e
     ·exact HG3.out j (by omega) h2)
    have HNN:Hid (¬ k+t<size→nextF (bitL W) size n=none):=fun h=>next_none (fun j h1 h2=>by
     by_cases e:j<k
     ·exact HKB.out j h1 e
     ·exact HG3.out j (by omega) (by omega))
    clear g2 g3 HLZ HLS HTZ
    by_cases hb:k+t<size
    ·rw [decide_eq_true hb] at HM2
     have HR:=Lib.hid (HNS.out hb)
     clear HNS HNN hb
     go_wp2_with fail
     refine HMk.out.mono ?_
     rintro e w1 ⟨rfl,rfl⟩
     go_wp2_with fail
     refine HT2.out.mono ?_
     rintro e w1 ⟨rfl,rfl⟩
     go_wp2_with fail
     refine HM2.out.mono ?_
     rintro e w1 ⟨rfl,rfl⟩
     go_wp2_with fail
     simp only [Exit.noGoto]
     go_ret2
     exact ⟨by rw [HR.out];simp [nextV],rfl⟩
    ·rw [decide_eq_false hb] at HM2
     have HR:=Lib.hid (HNN.out hb)
     clear HNS HNN hb
     go_wp2_with fail
     refine HMk.out.mono ?_
     rintro e w1 ⟨rfl,rfl⟩
     go_wp2_with fail
     refine HT2.out.mono ?_
     rintro e w1 ⟨rfl,rfl⟩
     go_wp2_with fail
     refine HM2.out.mono ?_
     rintro e w1 ⟨rfl,rfl⟩
     go_wp2_with fail
     simp only [Exit.noGoto]
     go_ret2
     exact ⟨by rw [HR.out];rfl,rfl⟩
  ·rw [decide_eq_false hlt] at HMk
   have HR:Hid (nextF (bitL W) size n=none):=next_none (fun j h1 h2=>hk j h1 (by omega))
   clear hk
   go_wp2_with fail
   refine HMk.out.mono ?_
   rintro e w1 ⟨rfl,rfl⟩
   go_wp2_with fail
   refine HMk.out.mono ?_
   rintro e w1 ⟨rfl,rfl⟩
   go_wp2_with fail
   simp only [Exit.noGoto]
   go_ret2
   exact ⟨by rw [HR.out];rfl,rfl⟩
end
end
section
open Go.RowKit
structure RelW (N:Nat) (R:World→World→Prop):Prop where
 trans:∀ {A B C:World},R A B→R B C→R A C
 put:∀ (W:World) (L:Nat) (o o':Obj),N≤L→W.heap[L]?=some o→o.isCells=false→o'.isCells=false→R W (W.putObj L o')
def SeqR {α:Type} (F:Fence) (n:Nat) (P:Program) (g:Nat) (lb:Array Value) (all:List α) (Enc:World→α→Array Value→Prop) (R:World→World→Prop) (w:World):Prop :=
 ∀ (l:Nat) (J Jx:Nat→World→Prop) (W:World),Keep none_ w W→(∀ k,Grows (J k))→(∀ k,Grows (Jx k)) →
  (∀ (k:Nat) (x:α) (args:Array Value) (W1:World),all[k]?=some x→J k W1→Enc W1 x args→YieldAt F (n - 1) P l args W1 fun e W' =>
   (e = .returned (.bool true)∧J (k+1) W'∧R W1 W')∨(e = .returned (.bool false)∧Jx (k+1) W')) →
  J 0 W →
  CallsIn F n P g (#[.func (.yield l) #[] #[]]++lb) W fun e W'=>(∃ v,e = .returned v)∧(J all.length W'∨∃ k,k≤all.length∧Jx k W')
def roundEndR (B:Nat) (R:World→World→Prop) (I:Nat→World→Prop) (Ix:Code→Nat→World→Prop) (k:Nat) (W:World):Exit→Act→World→Prop
 | .normal,_,W'=>KeepsFrom B W W'∧R W W'∧I k W'
 | .ret,_,W'=>KeepsFrom B W W'∧Ix .ret k W'
 | .exit id,_,W'=>KeepsFrom B W W'∧Ix (.exit id) k W'
 | .goto t,_,W'=>KeepsFrom B W W'∧Ix (.goto t) k W'
 | .panic _,_,_=>False
 | .outgrown,_,_=>False
variable {F:Fence} {n:Nat} {P:Program}
theorem rangeFnR {α:Type} {g:Operand} {ps:Array Tmp} {assign body:Code} {Q:Exit→Act→World→Prop} {a:Act} {w:World}
 (hro:F.round=none) (h1:1≤n) {gf:Nat} {lb:Array Value} (hg:a.eval g = .func (.func gf) #[] lb) (hFg:F.fn gf) (eg:∀ args w,(callFunc gf args).run P w = .ok (.enter gf args) w)
 {all:List α} {Enc:World→α→Array Value→Prop} {R:World→World→Prop} {N:Nat} (hN:N≤w.heap.size) (hR:RelW N R) (hseq:SeqR F (n - 1) P gf lb all Enc R w)
 (hps:∀ W x args,Enc W x args→args.size=ps.size)
 (I:Nat→World→Prop) (Ix:Code→Nat→World→Prop) (hI:OwnFrom w.heap.size I) (hIx:∀ c,OwnFrom w.heap.size (Ix c)) (h0:I 0 w)
 (hround:∀ (l:Nat) (k:Nat) (x:α) (args:Array Value) (W:World),all[k]?=some x→Enc W x args→I k W →
  assign.wpIn (F.inRound l) (n - 1 - 1) P (Exit.then (fun a₁ W₁=>∃ J:World→Prop,KeepsFrom w.heap.size W W₁∧R W W₁∧J W₁∧OwnFrom w.heap.size (fun (_:Unit) W=>J W) ∧
   ∀ W₂,J W₂→body.wpIn (F.inRound l) (n - 1 - 1) P (roundEndR w.heap.size R I Ix (k+1) W₂) a₁ W₂) (fun _ _ _=>False))
   { tmps:=(ps.zip args).foldl (fun t (p,v)=>t.setIfInBounds p v) a.tmps,defers:=[] } W)
 (hdone:∀ (D:Nat) (W:World),w.heap.size≤D→I all.length W→W.heap[D]?=some (.deferred (some []))→Q .normal { a with defers:={ target := .collected D,args:=#[] }::a.defers } W)
 (hstop:∀ (D:Nat) (c:Code) (k:Nat) (W:World),w.heap.size≤D→k≤all.length→Ix c k W→W.heap[D]?=some (.deferred (some []))→c.wpIn F n P Q { a with defers:={ target := .collected D,args:=#[] }::a.defers } W) :
 (Code.rangeFunc g ps assign body).wpIn F n P Q a w:=by
 refine wpIn_rangeFunc fun fn hfn=>?_
 rw [hro]
 let rec_:LoopState→Option Code→Loop:=fun st pe=>{ state:=st,pending:=pe,fn,tmps:=a.tmps,params:=ps,assign,body,defers:=w.heap.size }
 let D:=w.heap.size
 let L:=w.heap.size+1
 have hNL:N≤L:=by simp [L];omega
 let W1:=(w.alloc (.deferred (some []))).alloc (.loop (rec_ .ready none))
 have kW1:Keep none_ w W1:=((Keep.refl _ _).alloc _).alloc _
 have sW1:W1.heap.size=w.heap.size+2:=by simp [W1]
 have eL:W1.heap[L]?=some (.loop (rec_ .ready none)):=by
  have:=World.alloc_heap_new (w.alloc (.deferred (some []))) (.loop (rec_ .ready none))
  rwa [World.size_alloc] at this
 have eD:W1.heap[D]?=some (.deferred (some [])):=(Below.heap_alloc _ _ _ (by simp [D])).trans (World.alloc_heap_new w _)
 have grow:∀ {β:Type} {B:Nat} {K:β→World→Prop},OwnFrom B K→∀ {s:β} {A C:World},K s A→Keep none_ A C→K s C:=by
  intro β B K hK s A C hs k
  exact hK s A C none hs ⟨k.os,k.tape,k.output,k.size,fun i hi _=>k.block i hi (fun f=>f)⟩ (fun _ e=>by cases e)
 refine ⟨L,[{ target := .collected D,args:=#[] }],W1,{ target := .fn (.func gf) lb,args:=#[.func (.yield L) #[] #[]] },W1,gf,#[.func (.yield L) #[] #[]]++lb,W1,run_enterLoop_outer _ _ _ _ _,?_,?_,?_,fun _=>h1,?_⟩
 ·simp only [resolve,hg];simp [go_sem]
 ·intro f' hf';simp [Target.leads] at hf';subst hf';exact hFg
 ·simp [invoke,go_sem,eg]
 refine (hseq L (fun k W=>I k W∧W.heap[L]?=some (.loop (rec_ .ready none))∧W.heap[D]?=some (.deferred (some [])))
  (fun k W=>∃ c,Ix c k W∧W.heap[L]?=some (.loop (rec_ .done (some c)))∧W.heap[D]?=some (.deferred (some []))) W1 kW1 ?_ ?_ ?_ ⟨grow hI h0 kW1,eL,eD⟩).mono ?_
 ·rintro k A C ⟨h,hl,hd⟩ kk
  exact ⟨grow hI h kk,(kk.block L (Array.getElem?_eq_some_iff.1 hl).1 (fun f=>f)).trans hl,(kk.block D (Array.getElem?_eq_some_iff.1 hd).1 (fun f=>f)).trans hd⟩
 ·rintro k A C ⟨c,h,hl,hd⟩ kk
  exact ⟨c,grow (hIx c) h kk,(kk.block L (Array.getElem?_eq_some_iff.1 hl).1 (fun f=>f)).trans hl,(kk.block D (Array.getElem?_eq_some_iff.1 hd).1 (fun f=>f)).trans hd⟩
 ·
  rintro k x args W hx ⟨hi,hl,hd⟩ henc
  refine ⟨fn,_,assign,body,run_yield hl (hps _ _ _ henc),roundIn_of_wpIn hfn (wpIn_mono (hround L k x args W hx henc hi) ?_)⟩
  rintro e a1 Wa hp1
  cases e<;>try exact hp1.elim
  obtain ⟨Jr,kr,gr,jr,hJr,hbd⟩:=hp1
  have hla:=kr.same L _ (by simp [L]) hl rfl
  have hda:=kr.same D _ (Nat.le_refl _) hd rfl
  have hlt:=(Array.getElem?_eq_some_iff.1 hla).1
  refine ⟨_,run_beginRound hla rfl,?_⟩
  let W2:=Wa.putObj L (.loop { rec_ .ready none with state := .busy })
  have hl2:W2.heap[L]?=some (.loop { rec_ .ready none with state := .busy }):=World.putObj_heap_same hlt
  have hd2:W2.heap[D]?=some (.deferred (some [])):=(World.putObj_heap_other (by simp [D,L])).trans hda
  have hj2:Jr W2:=hJr.putObj (s:=()) _ jr (by simp [L]) hla rfl
  refine wpIn_mono (hbd W2 hj2) ?_
  have fin:∀ (j:Option Code) (W3:World),KeepsFrom w.heap.size W2 W3→∃ W4:World,(Instr.endRound L j).run P W3 = .ok (.bool j.isNone) W4∧W4=W3.putObj L (.loop (rec_ (if j.isNone then .ready else .done) j)) ∧
   (∃ o:Obj,W3.heap[L]?=some o∧o.isCells=false)∧W4.heap[L]?=some (.loop (rec_ (if j.isNone then .ready else .done) j))∧W4.heap[D]?=some (.deferred (some [])):=fun j W3 k3=>by
   have hl3:=k3.same L _ (by simp [L]) hl2 rfl
   exact ⟨_,run_endRound j hl3,rfl,⟨_,hl3,rfl⟩,World.putObj_heap_same (Array.getElem?_eq_some_iff.1 hl3).1,(World.putObj_heap_other (by simp [D,L])).trans (k3.same D _ (Nat.le_refl _) hd2 rfl)⟩
  rintro e a3 W3 hp
  cases e with
  | normal =>
    obtain ⟨k3,g3,i3⟩:=hp
    obtain ⟨W4,hr,rfl,⟨o,ho,hoc⟩,hl4,hd4⟩:=fin none W3 k3
    exact ⟨_,_,hr,.inl ⟨rfl,⟨hI.putObj _ i3 (by simp [L]) ho hoc,hl4,hd4⟩,hR.trans (hR.trans (hR.trans gr (hR.put Wa L _ _ hNL hla rfl rfl)) g3) (hR.put W3 L o _ hNL ho hoc rfl)⟩⟩
  | ret =>
    obtain ⟨k3,i3⟩:=hp
    obtain ⟨W4,hr,rfl,⟨o,ho,hoc⟩,hl4,hd4⟩:=fin (some .ret) W3 k3
    exact ⟨_,_,hr,.inr ⟨rfl,.ret,(hIx _).putObj _ i3 (by simp [L]) ho hoc,hl4,hd4⟩⟩
  | exit id =>
    obtain ⟨k3,i3⟩:=hp
    obtain ⟨W4,hr,rfl,⟨o,ho,hoc⟩,hl4,hd4⟩:=fin (some (.exit id)) W3 k3
    exact ⟨_,_,hr,.inr ⟨rfl,.exit id,(hIx _).putObj _ i3 (by simp [L]) ho hoc,hl4,hd4⟩⟩
  | goto t =>
    obtain ⟨k3,i3⟩:=hp
    obtain ⟨W4,hr,rfl,⟨o,ho,hoc⟩,hl4,hd4⟩:=fin (some (.goto t)) W3 k3
    exact ⟨_,_,hr,.inr ⟨rfl,.goto t,(hIx _).putObj _ i3 (by simp [L]) ho hoc,hl4,hd4⟩⟩
  | panic ch=>exact hp.elim
  | outgrown=>exact hp.elim
 ·
  rintro e W ⟨⟨v,rfl⟩,(⟨hi,hl,hd⟩|⟨k,hk,c,hi,hl,hd⟩)⟩
  ·exact ⟨none,_,run_endLoop hl (by simp [rec_]),hdone D _ (Nat.le_refl _) (hI.putObj _ hi (by simp [L]) hl rfl) ((World.putObj_heap_other (by simp [D,L])).trans hd)⟩
  ·exact ⟨some c,_,run_endLoop hl (by simp [rec_]),hstop D c k _ (Nat.le_refl _) hk ((hIx c).putObj _ hi (by simp [L]) hl rfl) ((World.putObj_heap_other (by simp [D,L])).trans hd)⟩
end
section
open Go.RowKit
attribute [local go_sem] Oper.semAt_some
attribute [local go_sem ↓] app9_of
def setL (s:Nat→Bool) (size:Nat):List Nat:=(List.range size).filter s
theorem setL_mem {s:Nat→Bool} {size x:Nat}:x∈setL s size↔x<size∧s x=true:=by simp [setL]
theorem setL_sorted (s:Nat→Bool) (size:Nat):(setL s size).Pairwise (· < ·):=(List.pairwise_lt_range (n:=size)).filter _
theorem setL_len (s:Nat→Bool) (size:Nat):(setL s size).length≤size:=by
 have h:=List.length_filter_le s (List.range size)
 simpa [setL] using h
theorem setL_lt {s:Nat→Bool} {size i j:Nat} (h:i<j) (hj:j<(setL s size).length):(setL s size)[i]'(by omega)<(setL s size)[j]:=(List.pairwise_iff_getElem.1 (setL_sorted s size)) i j (by omega) hj h
theorem setL_at_lt {s:Nat→Bool} {size i x y:Nat} (hx:(setL s size)[i]?=some x) (hy:(setL s size)[i+1]?=some y):x<y:=by
 obtain ⟨hi,rfl⟩:=List.getElem?_eq_some_iff.1 hx
 obtain ⟨hj,rfl⟩:=List.getElem?_eq_some_iff.1 hy
 exact setL_lt (Nat.lt_succ_self i) hj
theorem next_first (s:Nat→Bool) (size:Nat):nextF s size 0=(setL s size)[0]?:=by
 cases h:(setL s size)[0]? with
 | none =>
   refine next_none (fun j _ hj=>?_)
   rw [Bool.eq_false_iff]
   intro hs
   have hm:j∈setL s size:=setL_mem.2 ⟨hj,hs⟩
   have hl:=List.getElem?_eq_none_iff.1 h
   have hnil:setL s size=[]:=List.eq_nil_of_length_eq_zero (by omega)
   rw [hnil] at hm
   cases hm
 | some x =>
   obtain ⟨h0,hx⟩:=List.getElem?_eq_some_iff.1 h
   have hm:x∈setL s size:=by rw [← hx];exact List.getElem_mem h0
   obtain ⟨h1,h2⟩:=setL_mem.1 hm
   refine next_some (Nat.zero_le _) h1 h2 (fun j _ hj=>?_)
   rw [Bool.eq_false_iff]
   intro hs
   obtain ⟨i,hi,e⟩:=List.getElem_of_mem (setL_mem.2 ⟨by omega,hs⟩:j∈setL s size)
   rcases Nat.eq_zero_or_pos i with rfl|hp
   ·omega
   ·have:=setL_lt (s:=s) (size:=size) hp hi;omega
theorem next_then {s:Nat→Bool} {size i x:Nat} (hx:(setL s size)[i]?=some x):nextF s size (x+1)=(setL s size)[i+1]?:=by
 obtain ⟨hi,rfl⟩:=List.getElem?_eq_some_iff.1 hx
 cases h:(setL s size)[i+1]? with
 | none =>
   refine next_none (fun j hj1 hj=>?_)
   rw [Bool.eq_false_iff]
   intro hs
   obtain ⟨q,hq,e⟩:=List.getElem_of_mem (setL_mem.2 ⟨hj,hs⟩:j∈setL s size)
   have hl:=List.getElem?_eq_none_iff.1 h
   rcases (by omega:q<i∨q=i) with h1|rfl
   ·have:=setL_lt (s:=s) (size:=size) h1 hi;omega
   ·omega
 | some y =>
   obtain ⟨h0,hy⟩:=List.getElem?_eq_some_iff.1 h
   have hm:y∈setL s size:=by rw [← hy];exact List.getElem_mem h0
   obtain ⟨h1,h2⟩:=setL_mem.1 hm
   have hlt:(setL s size)[i]<y:=by rw [← hy];exact setL_lt (Nat.lt_succ_self i) h0
   refine next_some hlt h1 h2 (fun j hj1 hj2=>?_)
   rw [Bool.eq_false_iff]
   intro hs
   obtain ⟨q,hq,e⟩:=List.getElem_of_mem (setL_mem.2 ⟨by omega,hs⟩:j∈setL s size)
   rcases (by omega:q<i+1∨q=i+1∨i+1<q) with h3|rfl|h3
   ·rcases (by omega:q<i∨q=i) with h4|rfl
    ·have:=setL_lt (s:=s) (size:=size) h4 hi;omega
    ·omega
   ·omega
   ·have:=setL_lt (s:=s) (size:=size) h3 hq;omega
structure HoldT (Ts:List TypeId) (N:Nat) (W W':World):Prop where
 size:W.heap.size≤W'.heap.size
 old:∀ b,b<N→W'.heap[b]?=W.heap[b]?
 blk:∀ b cs T,Ts.contains T=true→Blk W b cs T→Blk W' b cs T
theorem HoldT.refl (Ts:List TypeId) (N:Nat) (W:World):HoldT Ts N W W:=⟨Nat.le_refl _,fun _ _=>rfl,fun _ _ _ _ h=>h⟩
theorem HoldT.trans {Ts:List TypeId} {N:Nat} {A B C:World} (h:HoldT Ts N A B) (k:HoldT Ts N B C):HoldT Ts N A C:=⟨Nat.le_trans h.size k.size,fun b hb=>(k.old b hb).trans (h.old b hb),fun b cs T' hT hb=>k.blk b cs T' hT (h.blk b cs T' hT hb)⟩
theorem HoldT.rel (Ts:List TypeId) (N:Nat):RelW N (HoldT Ts N):=⟨HoldT.trans,fun W L o o' hL ho hc _=>⟨by simp,fun b hb=>World.putObj_heap_other (by omega),fun b cs T' _ hb=>hb.putObj ho hc⟩⟩
theorem HoldT.set {Ts:List TypeId} {N:Nat} {W W':World} {B X size:Nat} {ws:List Nat} (h:HoldT Ts N W W') (h1:Ts.contains 149=true) (h2:Ts.contains 146=true) (hs:SetAt W B X size ws):SetAt W' B X size ws:=by
 obtain ⟨⟨cap,hb⟩,⟨cur,hc,hv⟩,hl,hlt,hsz⟩:=hs
 exact ⟨⟨cap,h.blk _ _ _ h1 hb⟩,⟨cur,h.blk _ _ _ h2 hc,hv⟩,hl,hlt,hsz⟩
theorem HoldT.tab {Ts:List TypeId} {N:Nat} {W W':World} (h:HoldT Ts N W W') (hN:1<N) (hs:TabB W):TabB W':=fun j hj=>by
 rw [World.cell?_of_block (w:=W) (h.old _ hN)];exact hs j hj
def EncN (_:World) (x:Nat) (args:Array Value):Prop:=args=#[.int .i64 (x:Int)]
def setTs:List TypeId:=[149,146]
section
variable {w w':World} {B X size:Nat} {W:List Nat}
set_option maxRecDepth 4000 in
theorem bAll_w (B:Nat) (w:World):Calls Tryz.prog 47 #[.pointer (some ⟨B,0,none⟩)] w fun e w'=>e = .returned (.func (.func 87) #[] #[.pointer (some ⟨w.heap.size,0,none⟩)])∧w'=w.alloc (.cells #[.pointer (some ⟨B,0,none⟩)] 99):=by
 have hmf:∀ (fn:Fn) (first cap:Array Value) (w:World),(Instr.makeFunc fn first cap).run Tryz.prog w = .ok (.func fn first cap) w:=fun _ _ _ _=>rfl
 go_enter Tryz.func47,Tryz.ntmps47
 go_wp2_with fail
 go_ret
 exact ⟨rfl,rfl⟩
def allM (size:Nat) (v:Value):Value→Nat
 | .bool true=>size+1 - (intOf v).toNat
 | _=>0
theorem nextV_form (x:Option Nat):∃ (a:Nat) (b:Bool),nextV x = .tuple #[.int .i64 (a:Int),.bool b]:=by
 cases x with
 | none=>exact ⟨0,false,rfl⟩
 | some k=>exact ⟨k,true,rfl⟩
set_option maxRecDepth 100000 in
set_option maxHeartbeats 4000000 in
theorem all_seq {N:Nat} (h:SetAt w B X size W) (h1:1≤size) (hT:TabB w) (hN:1<N) (pB:Nat) (hp:Blk w pB [.pointer (some ⟨B,0,none⟩)] 99) (m:Nat) :
 SeqR Fence.wide m Tryz.prog 87 #[.pointer (some ⟨pB,0,none⟩)] (setL (bitL W) size) EncN (HoldT setTs N) w:=by
 intro l J Jx W1 hW hJ hJx hY h0
 have hs1:=h.still hW
 have hp1:=hW.blk hp (fun f=>f)
 have hsz:=h.sz
 have c0:=hp1.cell 0 (v := .pointer (some ⟨B,0,none⟩)) rfl
 have HC:=Lib.hid (bCopy_any hs1 h1)
 have HT1:=Lib.hid (hT.still hW)
 have HF:=Lib.hid (next_first (bitL W) size)
 have HTH:Hid (∀ i x,(setL (bitL W) size)[i]?=some x→nextF (bitL W) size (x+1)=(setL (bitL W) size)[i+1]?∧x<size∧∀ y,(setL (bitL W) size)[i+1]?=some y→x<y∧y<size):=fun i x hx=>⟨next_then hx,(setL_mem.1 (List.mem_of_getElem? hx)).1,fun y hy=>⟨setL_at_lt hx hy,(setL_mem.1 (List.mem_of_getElem? hy)).1⟩⟩
 have HNX:Hid (∀ V B' X' (n:Nat),SetAt V B' X' size W→TabB V→n≤4194304→Calls Tryz.prog 89 #[.pointer (some ⟨B',0,none⟩),.int .i64 (n:Int)] V fun e w'=>e = .returned (nextV (nextF (bitL W) size n))∧V=w'):=fun V B' X' n h2 h3 h4=>bNext_any h2 h3 n h4
 have HKT:Hid (∀ V V' B' X',HoldT setTs N V V'→SetAt V B' X' size W→TabB V→SetAt V' B' X' size W∧TabB V'):=fun V V' B' X' k h2 h3=>⟨k.set (by decide) (by decide) h2,k.tab hN h3⟩
 have HJG:=Lib.hid hJ
 have H0:=Lib.hid h0
 have HY:=Lib.hid hY
 generalize nextF (bitL W) size=nx at *
 generalize setL (bitL W) size=L at *
 clear h hT hp hs1 hp1 hW hJ hJx hY h0
 refine callsIn_of_wp Tryz.func87 rfl trivial ?_ rfl
 simp only [Tryz.ntmps87,List.size_toArray,List.length_cons,List.length_nil,Nat.reduceAdd,Nat.reduceSub,Array.replicate_succ,Array.replicate_zero,List.push_toArray,List.append_toArray,List.nil_append,List.cons_append]
 gi_wp2_with fail
 refine ⟨trivial,fun h=>(by cases h),CallsIn.mono (callsIn_wide.2 HC.out) ?_⟩
 rintro e w1 ⟨B',X',rfl,hs2,_,_,k2⟩
 have HT2:=Lib.hid (HT1.out.still k2)
 have HS2:=Lib.hid hs2
 have HJ2:=Lib.hid (HJG.out 0 _ _ H0.out k2)
 have HN2:=Lib.hid (HNX.out w1 B' X' 0 hs2 (HT1.out.still k2) (by decide))
 clear k2 hs2 HT1 HC H0 c0
 obtain ⟨a0,b0,hv0⟩:=nextV_form (nx 0)
 rw [hv0] at HN2
 rw [HF.out] at hv0
 have HV0:=Lib.hid hv0
 clear hv0 HF
 gi_wp2_with fail
 refine ⟨trivial,fun h=>(by cases h),CallsIn.mono (callsIn_wide.2 HN2.out) ?_⟩
 rintro e w2 ⟨rfl,rfl⟩
 clear HN2
 gi_wp2_with fail
 gi_loopw [4,5] (fun v4 v5 wr=>∃ (j a:Nat) (b:Bool),v4 = .int .i64 (a:Int)∧v5 = .bool b∧nextV L[j]? = .tuple #[.int .i64 (a:Int),.bool b]∧j≤L.length∧J j wr∧SetAt wr B' X' size W∧TabB wr) (fun v4 v5 _=>allM size v4 v5)
 case atStart=>exact ⟨0,a0,b0,rfl,rfl,HV0.out,Nat.zero_le _,HJ2.out,HS2.out,HT2.out⟩
 case round =>
  obtain ⟨j,a,b,rfl,rfl,hv,hj,hJj,hs,ht⟩:=hrel
  cases hLj:L[j]? with
  | none =>
    rw [hLj] at hv
    obtain ⟨rfl,rfl⟩:a=0∧b=false:=by
     simp only [nextV,Value.tuple.injEq,Array.mk.injEq,List.cons.injEq,Value.int.injEq,Value.bool.injEq] at hv
     exact ⟨by omega,by have:=hv.2.1;exact this.symm⟩
    have hlen:=List.getElem?_eq_none_iff.1 hLj
    have HJE:Hid (J L.length wr):=by
     have e:j=L.length:=by omega
     rw [← e];exact hJj
    clear hv hj hJj hs ht hLj hlen
    gi_wp2_with fail
    go_end0
    exact ⟨⟨_,rfl⟩,.inl HJE.out⟩
  | some x =>
    rw [hLj] at hv
    obtain ⟨rfl,rfl⟩:a=x∧b=true:=by
     simp only [nextV,Value.tuple.injEq,Array.mk.injEq,List.cons.injEq,Value.int.injEq,Value.bool.injEq] at hv
     exact ⟨by omega,by have:=hv.2.1;exact this.symm⟩
    obtain ⟨hth,hxs,hys⟩:=HTH.out j a hLj
    have HYS:=Lib.hid hys
    have hjl:=(List.getElem?_eq_some_iff.1 hLj).1
    have HJ:=Lib.hid hJj
    have HXS:=Lib.hid hxs
    have HJL:=Lib.hid hjl
    have HST:=Lib.hid (And.intro hs ht)
    have HTX:=Lib.hid hth
    have hwr:IntKind.i64.wrap ((a:Int)+1)=(a:Int)+1:=IntWalk.i64_in _ (by omega)
    obtain ⟨fn,tmps,assign,body,hy,hR⟩:=HY.out j a #[.int .i64 (a:Int)] wr hLj HJ.out rfl
    clear hv hj hJj hs ht hLj hth hxs hjl hys
    gi_wp2_with fail
    refine ⟨fun h=>(by cases h),hR.mono ?_⟩
    rintro e W' (⟨rfl,hJ',hk⟩|⟨rfl,hJx'⟩)
    ·obtain ⟨hs',ht'⟩:=HKT.out _ _ _ _ hk HST.out.1 HST.out.2
     have HN3:=Lib.hid (HNX.out W' B' X' (a+1) hs' ht' (by have:=HXS.out;omega))
     rw [show (((a+1:Nat)):Int)=(a:Int)+1 from by push_cast;rfl] at HN3
     obtain ⟨a3,b3,hv3⟩:=nextV_form (nx (a+1))
     rw [hv3] at HN3
     rw [HTX.out] at hv3
     have HV3:=Lib.hid hv3
     have HE:=Lib.hid (And.intro hJ' (And.intro hs' ht'))
     clear hJ' hk hs' ht' hv3
     gi_wp2_with fail
     refine ⟨trivial,fun h=>(by cases h),CallsIn.mono (callsIn_wide.2 HN3.out) ?_⟩
     rintro e w3 ⟨rfl,rfl⟩
     clear HN3
     gi_wp2_with fail
     go_roundw
     case rel=>exact ⟨j+1,a3,b3,rfl,rfl,HV3.out,HJL.out,HE.out.1,HE.out.2.1,HE.out.2.2⟩
     case measure =>
      have hxs:=HXS.out
      have hv3:=HV3.out
      cases b3 with
      | false=>simp [allM,intOf];omega
      | true =>
        cases hL2:L[j+1]? with
        | none=>rw [hL2] at hv3;simp [nextV] at hv3
        | some y =>
          rw [hL2] at hv3
          have e9:y=a3:=by
           simp only [nextV,Value.tuple.injEq,Array.mk.injEq,List.cons.injEq,Value.int.injEq] at hv3
           omega
          have h9:=HYS.out y hL2
          simp [allM,intOf];omega
    ·gi_wp2_with fail
     refine bodyPost_ret (results_none rfl _ _ _) rfl ?_
     exact ⟨⟨_,rfl⟩,.inr ⟨j+1,by have:=HJL.out;omega,hJx'⟩⟩
end
end
end Go.Proofs.YtanfphjoebobaaaGreatDoor
