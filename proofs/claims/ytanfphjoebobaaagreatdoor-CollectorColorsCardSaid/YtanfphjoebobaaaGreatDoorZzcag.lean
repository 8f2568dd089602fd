/- Parts of a walk, put together and made shorter by a program of mine. No conditions. -/
import Derived.Test.YtanfphjoebobaaaGreatDoorZzcae
import Derived.Test.YtanfphjoebobaaaGreatDoorZzcaf
import Derived.Test.YtanfphjoebobaaaGreatDoorZzcab
import Derived.Test.YtanfphjoebobaaaGreatDoorZzcad
import Derived.BigRegion
import Derived.Test.YtanfphjoebobaaaGreatDoorZzcg
namespace Go.Proofs.YtanfphjoebobaaaGreatDoor
set_option maxRecDepth 8000
set_option maxHeartbeats 8000000
section
attribute [local go_sem] Oper.semAt_some
open Go.RowKit
structure U8s (w:World) (a:Option Addr) (n:Nat) (l:List Nat):Prop where
 at_:fC .u8 w a n (l.map fun x:Nat=>(x:Int))
 lt:∀ x∈l,x<256
theorem U8s.len {w:World} {a:Option Addr} {n:Nat} {l:List Nat} (h:U8s w a n l):l.length=n:=by
 have:=h.at_.len
 simpa using this
theorem U8s.still {w w':World} {a:Option Addr} {n:Nat} {l:List Nat} (h:U8s w a n l) (k:Keep none_ w w'):U8s w' a n l:=⟨h.at_.below k,h.lt⟩
theorem getD_map {l:List Nat} {j:Nat} (hj:j<l.length):(l.map fun x:Nat=>(x:Int)).getD j 0=(l.getD j 0:Int):=by
 rw [List.getD_eq_getElem?_getD,List.getD_eq_getElem?_getD,List.getElem?_map,List.getElem?_eq_getElem hj]
 rfl
theorem U8s.cell {w:World} {a:Option Addr} {n:Nat} {l:List Nat} (h:U8s w a n l) {j:Nat} (hj:j<n):∃ b off,a=some ⟨b,off,none⟩∧w.cell? ⟨b,off+j,none⟩=some (.int .u8 (l.getD j 0:Int))∧l.getD j 0<256:=by
 have hl:=h.len
 obtain ⟨b,off,e,hc⟩:=h.at_.at_ (by omega)
 refine ⟨b,off,e,?_,?_⟩
 ·rw [hc j hj,getD_map (by omega)]
 ·refine h.lt _ ?_
  rw [List.getD_eq_getElem?_getD,List.getElem?_eq_getElem (by omega)]
  exact List.getElem_mem _
abbrev Nums (w:World) (a:Option Addr) (n:Nat) (l:List Nat):Prop:=fC .i64 w a n (l.map fun x:Nat=>(x:Int))
theorem Nums.cell {w:World} {a:Option Addr} {n:Nat} {l:List Nat} (h:Nums w a n l) {j:Nat} (hj:j<n):∃ b off,a=some ⟨b,off,none⟩∧w.cell? ⟨b,off+j,none⟩=some (.int .i64 (l.getD j 0:Int)):=by
 have hl:l.length=n:=by have:=h.len;simpa using this
 obtain ⟨b,off,e,hc⟩:=h.at_ (by omega)
 exact ⟨b,off,e,by rw [hc j hj,getD_map (by omega)]⟩
def jg (all:List Nat) (n:Nat):Nat:=if all=[]∨n%5=0 then 0 else all.getD (n/5%all.length) 0
section
variable {w w':World} {a:Option Addr} {c:Nat}
theorem Qj (all:List Nat) (h:Nums w a all.length all) (n:Nat) (hn:n<256):Calls Tryz.prog 73 #[.slice a all.length c,.int .u8 (n:Int)] w fun e w'=>e = .returned (.int .i64 (jg all n:Int))∧w=w':=by
 have hm:(n:Int).tmod 5=((n%5:Nat):Int):=by rw [Int.tmod_eq_emod_of_nonneg (by omega)];omega
 by_cases h0:all=[]
 ·have e:jg all n=0:=by unfold jg;rw [if_pos (.inl h0)]
  rw [e]
  subst h0
  clear h
  go_enter Tryz.func73,Tryz.ntmps73
  go_wp2_with fail
  go_ret
  exact ⟨rfl,rfl⟩
 ·have hpos:0<all.length:=List.length_pos_iff.2 h0
  have d0:((all.length:Int)==0)=false:=by simp;omega
  by_cases h5:n%5=0
  ·have e:jg all n=0:=by unfold jg;rw [if_pos (.inr h5)]
   rw [e]
   have hm2:(n:Int).tmod 5=0:=by rw [hm,h5];rfl
   have hm3:(n:Int)%5=0:=by omega
   generalize all.length=L at *
   clear h hm h5
   go_enter Tryz.func73,Tryz.ntmps73
   go_wp2_with fail
   go_ret
   exact ⟨rfl,rfl⟩
  ·have e:jg all n=all.getD (n/5%all.length) 0:=by unfold jg;rw [if_neg (by intro hh;exact hh.elim h0 h5)]
   rw [e]
   obtain ⟨b,off,rfl,hc⟩:=h.cell (j:=n/5%all.length) (Nat.mod_lt _ hpos)
   generalize all.getD (n/5%all.length) 0=r at *
   have hq:(n:Int).tdiv 5=((n/5:Nat):Int):=by rw [Int.tdiv_eq_ediv_of_nonneg (by omega)];omega
   have hq2:(n:Int)/5=((n/5:Nat):Int):=by omega
   have hr:((n/5:Nat):Int).tmod (all.length:Int)=((n/5%all.length:Nat):Int):=by rw [Int.tmod_eq_emod_of_nonneg (by omega)];simp
   have hr2:((n/5:Nat):Int)%(all.length:Int)=((n/5%all.length:Nat):Int):=by simp
   have hlt:n/5%all.length<all.length:=Nat.mod_lt _ hpos
   have hx5:((n%5:Nat):Int)≠0:=by omega
   have hm3:((n:Int)%5==0)=false:=by simp;omega
   have hm4:((n:Int).tmod 5==0)=false:=by rw [hm];simp;omega
   have hn51:n/5<256:=by omega
   generalize n/5=m at *
   generalize m%all.length=j at *
   have hjI:(j:Int)<(all.length:Int):=by omega
   have hj0:(0:Int)≤(j:Int):=by omega
   have hL0:¬ (all.length:Int)=0:=by omega
   generalize all.length=L at *
   go_enter Tryz.func73,Tryz.ntmps73
   go_wp2_with fail
   go_ret
   exact ⟨rfl,rfl⟩
end
def bP (H:HS) (sz:List Nat):HS:=sz.foldl (fun H z=>(H.jX (z%4) 0).2) H
theorem KE (H:HS) (sz:List Nat) (j:Nat) (hj:j<sz.length):bP H (sz.take (j+1))=((bP H (sz.take j)).jX (sz.getD j 0%4) 0).2:=by
 unfold bP
 rw [List.take_add_one,List.getElem?_eq_getElem hj,List.foldl_append,List.getD_eq_getElem?_getD,List.getElem?_eq_getElem hj]
 rfl
def bK (all fl:List Nat) (a:Nat) (p:HS × Nat):Nat→HS × Nat
 | 0=>p
 | f+1=>if (bK all fl a p f).2<fl.length then ((bK all fl a p f).1.dY a (f:Int) (jg all (fl.getD (bK all fl a p f).2 0)),(bK all fl a p f).2+1) else bK all fl a p f
def iE (all fl:List Nat) (p:HS × Nat):Nat→HS × Nat
 | 0=>p
 | i+1=>bK all fl (all.getD i 0) (iE all fl p i) ((iE all fl p i).1.aT (all.getD i 0)).1
def l9 (all ce:List Nat) (H:HS):Nat→HS
 | 0=>H
 | i+1=>(l9 all ce H i).kN (i:Int) (jg all (ce.getD i 0))
def mJ (H:HS) (sz fl ce:List Nat):HS:=l9 (bP H sz).objs ce (iE (bP H sz).objs fl (bP H sz,0) (bP H sz).objs.length).1 ce.length
theorem zQ {all fl:List Nat} {a:Nat} {p:HS × Nat} {f:Nat} (h:¬ (bK all fl a p f).2<fl.length):∀ d,bK all fl a p (f+d)=bK all fl a p f
 | 0=>rfl
 | d+1=>by
   have e:=zQ h d
   show (if (bK all fl a p (f+d)).2<fl.length then _ else bK all fl a p (f+d))=_
   rw [e,if_neg h]
theorem yA {all fl:List Nat} {a:Nat} {p:HS × Nat} (h:p.2≤fl.length):∀ f,(bK all fl a p f).2≤fl.length
 | 0=>h
 | f+1=>by
   show (if (bK all fl a p f).2<fl.length then _ else bK all fl a p f).2≤_
   split
   ·assumption
   ·exact yA h f
theorem FB {all fl:List Nat} {p:HS × Nat} (h:p.2≤fl.length):∀ i,(iE all fl p i).2≤fl.length
 | 0=>h
 | i+1=>yA (FB h i) _
theorem Ci (H:HS) (a:Nat):(H.aT a).1≤100:=by
 unfold HS.aT
 split
 ·unfold HS.nf HS.hdr
  cases hh:hdP (H.word a) with
  | none=>exact Nat.zero_le _
  | some cf =>
    obtain ⟨c,f⟩:=cf
    obtain ⟨⟨hc,hf⟩,_⟩:=sQ hh
    show f≤100
    have:2^(c+1)≤2^4:=Nat.pow_le_pow_right (by decide) (by omega)
    omega
 ·exact Nat.zero_le _
section
variable {w w':World} {D:Nat→Nat} {H:HS} {a1 a2 a3 a4:Option Addr} {n1 n2 n3 n4 p1 p2 p3 p4:Nat}
theorem FC {z:Nat}:∃ r:Nat,(z:Int).tmod 4=(r:Int)∧(z:Int)%4=(r:Int)∧r=z%4∧r≤3 :=
 ⟨z%4,by rw [Int.tmod_eq_emod_of_nonneg (by omega)];omega,by omega,rfl,by omega⟩
theorem Qk (h:au w D H) (hT:∀ W,Keep (HF D) w W→jU W) (c0 c1 c2 c3 c4 c5 c6:Int) (sz fl ce:List Nat)
 (h1:∀ W,Keep (HF D) w W→U8s W a1 n1 sz) (h2:∀ W,Keep (HF D) w W→U8s W a2 n2 fl) (h3:∀ W,Keep (HF D) w W→U8s W a3 n3 ce) (m1:n1≤30) (m2:n2≤100) (m3:n3≤20) :
 Calls Tryz.prog 40 #[.pointer (some ⟨D 0,0,none⟩),.agg #[.int .i64 c0,.int .i64 c1,.int .i64 c2,.int .i64 c3,.int .i64 c4,.int .i64 c5,.int .i64 c6,.slice a1 n1 p1,.slice a2 n2 p2,.slice a3 n3 p3,.slice a4 n4 p4]] w
  fun e w'=>∃ v,e = .returned v∧w'.ownsRow w.heap.size 3 1 v (bP H sz).objs.length (aC (bP H sz).objs)∧au w' D (mJ H sz fl ce)∧Keep (HF D) w w'∧(bP H sz).objs.length≤1048577:=by
 have hD:=h.ltD
 have l1:=(h1 w (Keep.refl _ _)).len
 have l2:=(h2 w (Keep.refl _ _)).len
 have l3:=(h3 w (Keep.refl _ _)).len
 obtain ⟨W0,hW0⟩:∃ W',W'=w.alloc (.cells #[.int .i64 c0,.int .i64 c1,.int .i64 c2,.int .i64 c3,.int .i64 c4,.int .i64 c5,.int .i64 c6,.slice a1 n1 p1,.slice a2 n2 p2,.slice a3 n3 p3,.slice a4 n4 p4] 26):=⟨_,rfl⟩
 have k0:Keep none_ w W0:=by rw [hW0];exact (Keep.refl _ _).alloc _
 have k0F:Keep (HF D) w W0:=k0.mono (fun _ _ f=>f.elim)
 have hb:Blk W0 w.heap.size [.int .i64 c0,.int .i64 c1,.int .i64 c2,.int .i64 c3,.int .i64 c4,.int .i64 c5,.int .i64 c6,.slice a1 n1 p1,.slice a2 n2 p2,.slice a3 n3 p3,.slice a4 n4 p4] 26:=by rw [hW0];exact Blk.new w _ _
 have HBX:Hid (∀ W,Keep (HF D) W0 W→W.cell? ⟨w.heap.size,7,none⟩=some (.slice a1 n1 p1)∧W.cell? ⟨w.heap.size,8,none⟩=some (.slice a2 n2 p2)∧W.cell? ⟨w.heap.size,9,none⟩=some (.slice a3 n3 p3)):=fun W hW=>by
  have hb':=hW.blk hb (fun hh=>by obtain ⟨i,hi,e⟩:=hh;have:=hD i hi;omega)
  exact ⟨hb'.cell 7 rfl,hb'.cell 8 rfl,hb'.cell 9 rfl⟩
 have HI0:Hid (au W0 D (bP H (sz.take 0))∧Keep (HF D) W0 W0):=⟨h.still k0,Keep.refl _ _⟩
 have HMK:Hid (∀ W j,j<n1→au W D (bP H (sz.take j))∧Keep (HF D) W0 W→∃ b off z,a1=some ⟨b,off,none⟩∧W.cell? ⟨b,off+j,none⟩=some (.int .u8 ((z:Nat):Int))∧z<256∧Calls Tryz.prog 71 #[.pointer (some ⟨D 0,0,none⟩),.int .i64 ((z%4:Nat):Int),.int .i64 0] W fun e w'=>(∃ va vb:Int,e = .returned (.tuple #[.int .i64 va,.int .i64 vb]))∧au w' D (bP H (sz.take (j+1)))∧Keep (HF D) W0 w'):=fun W j hj hW=>by
  obtain ⟨b,off,e,hc,hz⟩:=(h1 W (k0F.trans hW.2)).cell hj
  refine ⟨b,off,_,e,hc,hz,(NW hW.1 (sz.getD j 0%4) 0 (by omega) (by decide)).mono ?_⟩
  rintro e w' ⟨hv,g1,g2⟩
  rw [KE _ _ _ (by omega)]
  exact ⟨hv,g1,hW.2.trans g2⟩
 have HOB:Hid (∀ W,au W D (bP H (sz.take n1))∧Keep (HF D) W0 W→Calls Tryz.prog 23 #[.pointer (some ⟨D 0,0,none⟩)] W fun e w'=>∃ a c,e = .returned (.slice a (bP H sz).objs.length c)∧w'.ownsRow w.heap.size 3 1 (.slice a (bP H sz).objs.length c) (bP H sz).objs.length (aC (bP H sz).objs)∧au w' D (bP H sz)∧Keep (HF D) W0 w'∧(bP H sz).objs.length≤1048577):=fun W hW=>by
  have hh:=hW.1
  rw [show sz.take n1=sz from by rw [← l1];exact List.take_length] at hh
  refine (vN hh (hT W (k0F.trans hW.2))).mono ?_
  rintro e w' ⟨v,rfl,ho,k⟩
  obtain ⟨a,c,rfl,_⟩:=jk (dP ho (Nat.zero_le _))
  refine ⟨a,c,rfl,dP ho (k0F.trans hW.2).size,hh.still k,hW.2.trans (k.mono (fun _ _ f=>f.elim)),?_⟩
  have h1:=yx (bP H sz).bn (bP H sz).sz
  have h2:=hh.inv.nle
  unfold HS.objs
  unfold HS.sz at h1 ⊢
  omega
 have lH:Hid (∀ W p,p=iE (bP H sz).objs fl (bP H sz,0) (bP H sz).objs.length→au W D (l9 (bP H sz).objs ce p.1 n3)→au W D (mJ H sz fl ce)):=fun W p e hW=>by
  unfold mJ
  rw [← e,l3]
  exact hW
 have HFI:Hid (iE (bP H sz).objs fl (bP H sz,0) 0=(bP H sz,0)):=rfl
 have VE:=Lib.hid k0F
 clear hb
 generalize bP H sz=H1 at *
 generalize hob:H1.objs=objs at *
 have HW0:=Lib.hid hW0
 have rF:Hid (∀ W a c,W.ownsRow w.heap.size 3 1 (.slice a objs.length c) objs.length (aC objs)→(Nums W a objs.length objs∧objs.length≤9223372036854775807∧∀ W',Keep (HF D) W W'→W'.ownsRow w.heap.size 3 1 (.slice a objs.length c) objs.length (aC objs))):=fun W a c ho=>by
  refine ⟨?_,?_,fun W' k=>fD ho k (fun b hb hh=>?_)⟩
  ·have e:aC objs=(objs.map fun x:Nat=>(x:Int)).map (Value.int .i64):=by simp [aC]
   rw [e] at ho
   obtain ⟨a',c',ee,hi,_⟩:=fC.D7 ho
   cases ee
   exact hi
  ·rcases ho.2 with ⟨_,hn⟩|⟨g,cap,cur,_,_,_,hn,hm,_⟩
   ·omega
   ·have:maxLen=9223372036854775807:=rfl
    omega
  ·obtain ⟨i,hi,e⟩:=hh
   have h9:=hD i hi
   rcases ho.2 with ⟨e2,_⟩|⟨g,cap,cur,e2,hg,_⟩
   ·rw [e2] at hb;cases hb
   ·rw [e2] at hb
    have e3:g=b:=by simpa [Value.ownBlock] using hb
    omega
 have HNX:Hid (∀ W p a,au W D p→Calls Tryz.prog 55 #[.pointer (some ⟨D 0,0,none⟩),.int .i64 ((a:Nat):Int)] W fun e w'=>(∃ er:Int,e = .returned (.tuple #[.int .i64 ((p.aT a).1:Int),.int .i64 er]))∧au w' D p∧Keep (HF D) W w'):=fun W p a hW=>by
  refine (xu hW a).mono ?_
  rintro e w' ⟨rfl,g1,g2⟩
  exact ⟨⟨_,rfl⟩,g1,g2⟩
 have HST:Hid (∀ W p a f v,au W D p→Calls Tryz.prog 72 #[.pointer (some ⟨D 0,0,none⟩),.int .i64 ((a:Nat):Int),.int .i64 ((f:Nat):Int),.int .i64 ((v:Nat):Int)] W fun e w'=>(∃ er:Int,e = .returned (.int .i64 er))∧au w' D (p.dY a (f:Int) v)∧Keep (HF D) W w'):=fun W p a f v hW=>by
  refine (yZ hW a (f:Int) v).mono ?_
  rintro e w' ⟨rfl,g1,g2⟩
  exact ⟨⟨_,rfl⟩,g1,g2⟩
 have HSC:Hid (∀ W p i v,au W D p→Calls Tryz.prog 74 #[.pointer (some ⟨D 0,0,none⟩),.int .i64 ((i:Nat):Int),.int .i64 ((v:Nat):Int)] W fun e w'=>(∃ er:Int,e = .returned (.int .i64 er))∧au w' D (p.kN (i:Int) v)∧Keep (HF D) W w'):=fun W p i v hW=>by
  refine (ED hW (i:Int) v).mono ?_
  rintro e w' ⟨rfl,g1,g2⟩
  exact ⟨⟨_,rfl⟩,g1,g2⟩
 have HSM:Hid (∀ W a c n,Nums W a objs.length objs→n<256→Calls Tryz.prog 73 #[.slice a objs.length c,.int .u8 ((n:Nat):Int)] W fun e w'=>e = .returned (.int .i64 (jg objs n:Int))∧W=w'):=fun W a c n hn h9=>Qj objs hn n h9
 have H2:Hid (∀ W,Keep (HF D) W0 W→U8s W a2 n2 fl):=fun W k=>h2 W (k0F.trans k)
 have H3:Hid (∀ W,Keep (HF D) W0 W→U8s W a3 n3 ce):=fun W k=>h3 W (k0F.trans k)
 have dO:Hid (∀ W a c,W.ownsRow w.heap.size 3 1 (.slice a objs.length c) objs.length (aC objs)→au W D (mJ H sz fl ce)→Keep (HF D) W0 W→objs.length≤1048577→∃ v,(Ending.returned (.slice a objs.length c)) = .returned v∧W.ownsRow w.heap.size 3 1 v objs.length (aC objs)∧au W D (mJ H sz fl ce)∧Keep (HF D) w W∧objs.length≤1048577):=fun W a c g1 g2 g3 g4=>⟨_,rfl,g1,g2,k0F.trans g3,g4⟩
 have hm1:(n1:Int)≤30:=by omega
 have hm2:(n2:Int)≤100:=by omega
 have hm3:(n3:Int)≤20:=by omega
 generalize mJ H sz fl ce=LP at *
 clear h hT h1 h2 h3 k0 k0F VE hW0 hD
 go_enter Tryz.func40,Tryz.ntmps40
 go_wp2_with fail
 rw [← HW0.out]
 go_loopw [5] (fun i wr=>∃ j:Nat,j≤n1∧i = .int .i64 j∧au wr D (bP H (sz.take j))∧Keep (HF D) W0 wr) (fun i _=>n1 - (intOf i).toNat)
 case atStart=>exact ⟨0,Nat.zero_le _,rfl,HI0.out⟩
 case round =>
  obtain ⟨j,hj,rfl,hI⟩:=hrel
  obtain ⟨x7,x8,x9⟩:=HBX.out wr hI.2
  by_cases hlt:j<n1
  ·have oV:(j:Int)<(n1:Int):=by omega
   have hj0:(0:Int)≤(j:Int):=by omega
   obtain ⟨b,off,z,rfl,hz,hz2,hmk⟩:=HMK.out wr j hlt hI
   obtain ⟨r,hr1,hr2,hr3,hr4⟩:=FC (z:=z)
   rw [← hr3] at hmk
   have Uh:=Lib.hid hmk
   clear hmk hI hr3
   go_wp2_with fail
   refine Uh.out.mono ?_
   rintro e w2 ⟨⟨va,vb,rfl⟩,g1,g2⟩
   have HI2:Hid (au w2 D (bP H (sz.take (j+1)))∧Keep (HF D) W0 w2):=⟨g1,g2⟩
   clear g1 g2 Uh hz x7 x8 x9
   go_wp2_with fail
   go_roundw
   case rel=>exact ⟨j+1,by omega,by go_num,HI2.out⟩
   case measure=>simp [intOf]<;>omega
  ·obtain rfl:j=n1:=by omega
   have hnlt:¬ (j:Int)<(j:Int):=by omega
   have Ui:=Lib.hid (HOB.out wr hI)
   clear hI hlt HMK HOB
   go_wp2_with fail
   refine Ui.out.mono ?_
   rintro e w3 ⟨a,c,rfl,ho,g1,g2,hbd⟩
   have HBD:=Lib.hid hbd
   obtain ⟨hnum,hln,hrow⟩:=rF.out w3 a c ho
   have HO3:=Lib.hid hrow
   have HN3:=Lib.hid rF.out
   have HI3:Hid (au w3 D (iE objs fl (H1,0) 0).1∧Keep (HF D) W0 w3∧Keep (HF D) w3 w3):=⟨g1,g2,Keep.refl _ _⟩
   have HK3:=Lib.hid g2
   clear ho g1 g2 hnum hrow Ui x7 x8 x9 hbd
   have HR3:Hid (∀ W,Keep (HF D) w3 W→Nums W a objs.length objs∧W.ownsRow w.heap.size 3 1 (.slice a objs.length c) objs.length (aC objs)):=fun W k=>⟨(HN3.out W a c (HO3.out W k)).1,HO3.out W k⟩
   clear HN3 HO3
   generalize hL:objs.length=L at *
   go_wp2_with fail
   go_loopw [7,8,9,10,11] (fun kv i nv ev fv wr=>∃ t:Nat,t≤L∧i = .int .i64 t∧kv = .int .i64 ((iE objs fl (H1,0) t).2:Nat)∧au wr D (iE objs fl (H1,0) t).1∧Keep (HF D) w3 wr) (fun kv i nv ev fv _=>L - (intOf i).toNat)
   case atStart=>exact ⟨0,Nat.zero_le _,rfl,rfl,HI3.out.1,HI3.out.2.2⟩
   case round =>
    obtain ⟨t,ht,rfl,rfl,hh,hk⟩:=hrel
    by_cases htL:t<L
    ·have htI:(t:Int)<(L:Int):=by omega
     have ht0:(0:Int)≤(t:Int):=by omega
     have hle:=FB (all:=objs) (fl:=fl) (p:=(H1,0)) (Nat.zero_le _) t
     rw [l2] at hle
     obtain ⟨b,off,rfl,hc⟩:=(HR3.out wr hk).1.cell htL
     have eA:iE objs fl (H1,0) (t+1)=bK objs fl (objs.getD t 0) (iE objs fl (H1,0) t) ((iE objs fl (H1,0) t).1.aT (objs.getD t 0)).1:=rfl
     have HEA:=Lib.hid eA
     clear eA
     obtain ⟨N,hN⟩:∃ N,N=((iE objs fl (H1,0) t).1.aT (objs.getD t 0)).1:=⟨_,rfl⟩
     have V6:N≤100:=by rw [hN];exact Ci _ _
     have HF1:=HNX.out wr (iE objs fl (H1,0) t).1 (objs.getD t 0) hh
     rw [← hN] at HF1 HEA
     have HF2:=Lib.hid HF1
     have HKw:=Lib.hid hk
     clear HF1 hN hh
     generalize iE objs fl (H1,0) t=P at *
     generalize hx:objs.getD t 0=x at *
     go_wp2_with fail
     refine HF2.out.mono ?_
     rintro e w4 ⟨⟨er,rfl⟩,g1,g2⟩
     have HI4:Hid (au w4 D P.1∧Keep (HF D) w3 w4):=⟨g1,HKw.out.trans g2⟩
     clear g1 g2 HF2 hc hk
     have HRW:Hid (∀ W,Keep (HF D) w3 W→Nums W (some ⟨b,off,none⟩) L objs):=fun W k=>(HR3.out W k).1
     go_wp2_with fail
     go_loopw [7,11] (fun kv fv wr=>∃ f:Nat,f≤N∧fv = .int .i64 f∧kv = .int .i64 ((bK objs fl x P f).2:Nat)∧au wr D (bK objs fl x P f).1∧Keep (HF D) w3 wr) (fun kv fv _=>N - (intOf fv).toNat)
     case atStart=>exact ⟨0,Nat.zero_le _,rfl,rfl,HI4.out⟩
     case round =>
      obtain ⟨f,hf,rfl,rfl,hh,hk⟩:=hrel
      have hq:=yA (all:=objs) (fl:=fl) (a:=x) (p:=P) (by rw [l2];exact hle) f
      rw [l2] at hq
      obtain ⟨_,x8,_⟩:=HBX.out wr (HK3.out.trans hk)
      have hqI:((bK objs fl x P f).2:Int)≤(n2:Int):=by omega
      by_cases hcond:f<N∧(bK objs fl x P f).2<n2
      ·obtain ⟨hfN,hkn⟩:=hcond
       have hfI:(f:Int)<(N:Int):=by omega
       have Wp:((bK objs fl x P f).2:Int)<(n2:Int):=by omega
       have hf0:(0:Int)≤(f:Int):=by omega
       have hk0:(0:Int)≤((bK objs fl x P f).2:Int):=by omega
       obtain ⟨b2,off2,rfl,hz,hz2⟩:=(H2.out wr (HK3.out.trans hk)).cell hkn
       have eO:bK objs fl x P (f+1)=((bK objs fl x P f).1.dY x (f:Int) (jg objs (fl.getD (bK objs fl x P f).2 0)),(bK objs fl x P f).2+1):=by
        show (if (bK objs fl x P f).2<fl.length then _ else bK objs fl x P f)=_
        rw [if_pos (by rw [l2];exact hkn)]
       have HEO:=Lib.hid eO
       clear eO
       have HS1:Hid (∀ W,au W D (bK objs fl x P f).1→Keep (HF D) wr W→Calls Tryz.prog 72 #[.pointer (some ⟨D 0,0,none⟩),.int .i64 ((x:Nat):Int),.int .i64 ((f:Nat):Int),.int .i64 ((jg objs (fl.getD (bK objs fl x P f).2 0):Nat):Int)] W fun e w'=>(∃ er:Int,e = .returned (.int .i64 er))∧Hid (au w' D ((bK objs fl x P f).1.dY x (f:Int) (jg objs (fl.getD (bK objs fl x P f).2 0))))∧Hid (Keep (HF D) wr w')):=fun W hW k=>by
        refine (HST.out W _ x f _ hW).mono ?_
        rintro e w' ⟨hv,g1,g2⟩
        exact ⟨hv,g1,k.trans g2⟩
       have DT:Hid (∀ W,Keep (HF D) wr W→W.cell? ⟨w.heap.size,8,none⟩=some (.slice (some ⟨b2,off2,none⟩) n2 p2)∧W.cell? ⟨b,off+t,none⟩=some (.int .i64 ((x:Nat):Int))∧W.cell? ⟨b2,off2+(bK objs fl x P f).2,none⟩=some (.int .u8 ((fl.getD (bK objs fl x P f).2 0:Nat):Int))):=fun W k=>by
        obtain ⟨_,_,e2,hc2⟩:=(HRW.out W (hk.trans k)).cell htL
        cases e2
        obtain ⟨_,_,e3,hc3,_⟩:=(H2.out W (HK3.out.trans (hk.trans k))).cell hkn
        cases e3
        rw [hx] at hc2
        exact ⟨(HBX.out W (HK3.out.trans (hk.trans k))).2.1,hc2,hc3⟩
       obtain ⟨y8,yc,yz⟩:=DT.out wr (Keep.refl _ _)
       have FD:Hid (Calls Tryz.prog 73 #[.slice (some ⟨b,off,none⟩) L c,.int .u8 ((fl.getD (bK objs fl x P f).2 0:Nat):Int)] wr.drew fun e w'=>e = .returned (.int .i64 (jg objs (fl.getD (bK objs fl x P f).2 0):Int))∧wr.drew=w'):=HSM.out wr.drew _ c _ (HRW.out _ (hk.trans (Keep.refl (HF D) wr).drew)) hz2
       have HH:Hid (au wr.drew D (bK objs fl x P f).1∧Keep (HF D) wr wr.drew):=⟨hh.still (Keep.refl none_ wr).drew,(Keep.refl _ wr).drew⟩
       have HKK:=Lib.hid hk
       clear hh hk hz x8 hz2
       generalize (bK objs fl x P f).1.dY x (f:Int) (jg objs (fl.getD (bK objs fl x P f).2 0))=P2 at *
       generalize jg objs (fl.getD (bK objs fl x P f).2 0)=v at *
       generalize fl.getD (bK objs fl x P f).2 0=z at *
       generalize (bK objs fl x P f).2=kk at *
       generalize (bK objs fl x P f).1=P1 at *
       go_wp2_with fail
       go_region_held3 (fun W'=>W'.cell? ⟨w.heap.size,8,none⟩=some (.slice (some ⟨b2,off2,none⟩) n2 p2)∧W'.cell? ⟨b,off+t,none⟩=some (.int .i64 ((x:Nat):Int))∧W'.cell? ⟨b2,off2+kk,none⟩=some (.int .u8 ((z:Nat):Int)))
        (first
         | exact ⟨y8,yc,yz⟩
         | exact DT.out _ hk5.out
         | exact DT.out _ HH.out.2
         | fail "iw")
        (first
         | (go_at_call 73
            refine FD.out.mono ?_
            rintro e w5 ⟨rfl,rfl⟩)
         | (go_at_call 72
            refine (HS1.out _ HH.out.1 HH.out.2).mono ?_
            rintro e w5 ⟨⟨er2,rfl⟩,g5,hk5⟩)
         | fail "jc")
       all_goals
        have HI5:Hid (au w5 D P2∧Keep (HF D) w3 w5):=⟨g5.out,HKK.out.trans hk5.out⟩
        clear g5 hk5 y8 yc yz HS1 DT FD HH
        go_wp2_with fail
        go_roundw
        case rel=>exact ⟨f+1,by omega,by go_num,by rw [HEO.out];go_num,by rw [HEO.out];exact HI5.out⟩
        case measure=>simp [intOf]<;>omega
      ·have vH:Hid (bK objs fl x P N=bK objs fl x P f):=by
        by_cases hfN:f<N
        ·have hns:¬ (bK objs fl x P f).2<fl.length:=by rw [l2];exact fun h9=>hcond ⟨hfN,h9⟩
         have:=zQ hns (N - f)
         rw [show f+(N - f)=N by omega] at this
         exact this
        ·rw [show f=N by omega];rfl
       have HI6:Hid (au wr D (iE objs fl (H1,0) (t+1)).1∧Keep (HF D) w3 wr):=by
        rw [HEA.out,vH.out]
        exact ⟨hh,hk⟩
       have HE6:Hid (iE objs fl (H1,0) (t+1)=bK objs fl x P f):=HEA.out.trans vH.out
       have hcond2:(f<N∧¬ (bK objs fl x P f).2<n2)∨¬ f<N:=by
        by_cases hfN:f<N
        ·exact .inl ⟨hfN,fun h9=>hcond ⟨hfN,h9⟩⟩
        ·exact .inr hfN
       clear hh hk vH HEA hcond
       rcases hcond2 with ⟨hfN,hnk⟩|hfN
       ·have hfI:(f:Int)<(N:Int):=by omega
        have Wq:¬ ((bK objs fl x P f).2:Int)<(n2:Int):=by omega
        generalize hkk:(bK objs fl x P f).2=kk at *
        go_wp2_with fail
        go_roundw
        case rel=>exact ⟨t+1,by omega,by go_num,by rw [HE6.out,hkk],HI6.out⟩
        case measure=>simp [intOf]<;>omega
       ·have hfI:¬ (f:Int)<(N:Int):=by omega
        generalize hkk:(bK objs fl x P f).2=kk at *
        go_wp2_with fail
        go_roundw
        case rel=>exact ⟨t+1,by omega,by go_num,by rw [HE6.out,hkk],HI6.out⟩
        case measure=>simp [intOf]<;>omega
    ·obtain rfl:t=L:=by omega
     have htI:¬ (t:Int)<(t:Int):=by omega
     have HI7:Hid (au wr D (l9 objs ce (iE objs fl (H1,0) t).1 0)∧Keep (HF D) w3 wr):=⟨hh,hk⟩
     have HP7:Hid (∀ W,au W D (l9 objs ce (iE objs fl (H1,0) t).1 n3)→au W D LP):=fun W g=>lH.out W _ rfl g
     clear hh hk
     generalize (iE objs fl (H1,0) t).1=P at *
     generalize (iE objs fl (H1,0) t).2=kk at *
     go_wp2_with fail
     go_loopw [12] (fun i wr=>∃ y:Nat,y≤n3∧i = .int .i64 y∧au wr D (l9 objs ce P y)∧Keep (HF D) w3 wr) (fun i _=>n3 - (intOf i).toNat)
     case atStart=>exact ⟨0,Nat.zero_le _,rfl,HI7.out⟩
     case round =>
      obtain ⟨y,hy,rfl,hh,hk⟩:=hrel
      obtain ⟨_,_,x9⟩:=HBX.out wr (HK3.out.trans hk)
      by_cases hyn:y<n3
      ·have hyI:(y:Int)<(n3:Int):=by omega
       have hy0:(0:Int)≤(y:Int):=by omega
       obtain ⟨b3,off3,rfl,hz,hz2⟩:=(H3.out wr (HK3.out.trans hk)).cell hyn
       have FD:Hid (Calls Tryz.prog 73 #[.slice a t c,.int .u8 ((ce.getD y 0:Nat):Int)] wr fun e w'=>e = .returned (.int .i64 (jg objs (ce.getD y 0):Int))∧wr=w'):=HSM.out wr a c _ (HR3.out wr hk).1 hz2
       have HS1:Hid (Calls Tryz.prog 74 #[.pointer (some ⟨D 0,0,none⟩),.int .i64 ((y:Nat):Int),.int .i64 ((jg objs (ce.getD y 0):Nat):Int)] wr fun e w'=>(∃ er:Int,e = .returned (.int .i64 er))∧au w' D (l9 objs ce P (y+1))∧Keep (HF D) w3 w'):=by
        refine (HSC.out wr _ y (jg objs (ce.getD y 0)) hh).mono ?_
        rintro e w' ⟨hv,g1,g2⟩
        exact ⟨hv,g1,hk.trans g2⟩
       clear hh hk hz2
       generalize jg objs (ce.getD y 0)=v at *
       generalize ce.getD y 0=z at *
       go_wp2_with fail
       refine FD.out.mono ?_
       rintro e w5 ⟨rfl,rfl⟩
       go_wp2_with fail
       refine HS1.out.mono ?_
       rintro e w6 ⟨⟨er,rfl⟩,g1,g2⟩
       have HI8:Hid (au w6 D (l9 objs ce P (y+1))∧Keep (HF D) w3 w6):=⟨g1,g2⟩
       clear g1 g2 hz x9 HS1 FD
       go_wp2_with fail
       go_roundw
       case rel=>exact ⟨y+1,by omega,by go_num,HI8.out⟩
       case measure=>simp [intOf]<;>omega
      ·obtain rfl:y=n3:=by omega
       have hyI:¬ (y:Int)<(y:Int):=by omega
       have HE:=Lib.hid (dO.out wr a c (HR3.out wr hk).2 (HP7.out wr hh) (HK3.out.trans hk) HBD.out)
       clear hh hk
       go_wp2_with fail
       go_ret
       exact HE.out
end
end
section
open Go.RowKit
section
variable {o o':Ow} {w w' W W':World} {G:Geo} {g:MG} {q:CG} {s s':Sh} {m:MS} {c:CS} {I:List Nat} {gs:List MG} {x y:WS} {N:Nat}
theorem CW.setH (h:CW w W o G gs q x) (k:Keep (HF G.D) W W') {H:HS} (hH:au W' G.D H) (hc:H.c=x.s.H.c):CW w W' o G gs q { x with s:={ x.s with H:=H } }∧Keep (In o [1]) W W':=by
 obtain ⟨hs,k1⟩:=h.coll.sh.lU k hH h.coll.box8
 refine ⟨⟨h.coll.jE k1 rfl rfl rfl (aH.refl _ _) hs rfl,h.len,fun i g m h1 h2=>?_,h.low,h.keep.Fq k1 rfl rfl h.low⟩,k1⟩
 obtain ⟨g1,g2⟩:=h.bV i g m h1 h2
 exact ⟨g1.jE k1 rfl (by simp<;>omega) (by simp<;>omega) (aH.refl _ _) hs rfl hc,g2⟩
theorem CW.Uj (h:CW w W o G gs q x) (k:Keep none_ W W') (e:aH W o o') (hm:jf o' W' G g x.s m) (hid:m.id=x.muts.length):CW w W' o' G (gs++[g]) q { x with muts:=x.muts++[m] }:=by
 have k0:Keep (In o []) W W':=k.aF
 refine ⟨h.coll.jE k0 rfl rfl rfl e hm.sh rfl,by simp [h.len],fun i g' m' h1 h2=>?_,fun b hb=>by rw [e b (Nat.lt_of_lt_of_le hb h.keep.size)];exact h.low b hb,h.keep.trans k⟩
 have h2':(x.muts++[m])[i]?=some m':=h2
 by_cases hi:i<x.muts.length
 ·rw [List.getElem?_append_left hi] at h2'
  rw [List.getElem?_append_left (by rw [h.len];exact hi)] at h1
  obtain ⟨g1,g2⟩:=h.bV i g' m' h1 h2'
  exact ⟨g1.jE k0 rfl rfl rfl e hm.sh rfl rfl,g2⟩
 ·have hl:=(List.getElem?_eq_some_iff.1 h2').1
  simp at hl
  obtain rfl:i=x.muts.length:=by omega
  rw [List.getElem?_append_right (Nat.le_refl _),Nat.sub_self] at h2'
  rw [List.getElem?_append_right (by rw [h.len];exact Nat.le_refl _),h.len,Nat.sub_self] at h1
  cases h1
  cases h2'
  exact ⟨hm,hid⟩
theorem CK.first {s:Sh} {c:aB} {n:Nat} (hok:c.ok=true) (hn:c.m=(n:Int)) (hl:s.boxes.length=n) (hq:QOk s) (ho:s.Q.opn=0) (hr:∀ k,s.Q.rw k=[]) (hb:s.B.count=0):Cok 0 s (CS.new c n):=by
 have h:=dW hok
 refine ⟨⟨hl,⟨by show 1≤n;omega,by show n≤8;omega⟩,?_,?_,⟨?_,?_⟩,Nat.zero_le _,by show 0<2;decide,Nat.le_refl _,Nat.le_refl _,Nat.le_refl _,by omega,hq,fun k=>by rw [hr k];exact Nat.le_refl _,⟨by omega,by omega⟩,Nat.zero_le _⟩,trivial⟩
 ·show c.b.toNat≤4096;omega
 ·show c.c.toNat≤64;omega
 ·show 1≤c.s.toNat;omega
 ·show c.s.toNat≤4096;omega
theorem Pok.U4 {M:Nat} (h:Pok N s m) (hM:N≤M):Pok M s m:=⟨h.color,h.want,Nat.le_trans h.opn hM,Nat.le_trans h.res hM,h.q,Nat.le_trans h.sp hM,h.rl,h.nx⟩
theorem WOk.more {M:Nat} (h:WOk N x) (hM:N≤M):WOk M x :=
 ⟨h.len,fun i m hi=>⟨(h.bV i m hi).1,(h.bV i m hi).2.U4 hM⟩,⟨h.coll.k.more hM,h.coll.nx⟩,Nat.le_trans h.picks hM,Nat.le_trans h.evs hM⟩
end
end
section
attribute [local go_sem ↓] jZ
attribute [local go_sem] Oper.semAt_some
open Go.RowKit
theorem Tryz.infoPMut:(Tryz.prog.info? 56).map (fun i=>(i.zero,i.size,i.bytes))=some (some (.pointer none),1,8):=by kernel_rfl
theorem Tryz.infoOp:(Tryz.prog.info? 83).map (fun i=>(i.zero,i.size,i.bytes))=some (some (.agg #[.int .i64 0,.int .i64 0,.int .i64 0,.int .i64 0]),4,32):=by kernel_rfl
structure StP where
 c:aB
 sz:List Nat
 fl:List Nat
 ce:List Nat
 rg:List Nat
def jH (r:Int) (rg:List Nat) (j:Nat):List OpR:=(List.range j).map fun k:Nat=>⟨4,(k:Int)%r,((rg.getD k 0%4:Nat):Int),0⟩
def kG (r:Int) (rg:List Nat) (i:Nat):List OpR:=if i=0 then jH r rg rg.length else []
def eH (c:aB) (x:StP) (i:Nat):WS :=
 ⟨{ Sh.new c c.b.toNat c.w.toNat c.c.toNat c.m.toNat with H:=mJ (HS.new c c.b.toNat c.w.toNat c.c.toNat) x.sz x.fl x.ce },(List.range i).map (fun j=>MS.new c j (kG c.r x.rg j)),CS.new c c.m.toNat,[],0⟩
def jV:Nat→WS→WS
 | 0,x=>x
 | f+1,x=>match x.muts with
   | []=>x
   | m::_=>if fU m then x else jV f (bC x 0)
def dN (x:StP):WS:=jV 300 (eH x.c.little x x.c.little.m.toNat)
theorem pV (c:aB):c.little.ok=true:=by
 obtain ⟨b,w,m,r,cc,l,s⟩:=c
 have e:∀ (p q:Prop) [Decidable p] [Decidable q],p→q→(decide p&&decide q)=true:=fun p q _ _ hp hq=>by rw [decide_eq_true hp,decide_eq_true hq];rfl
 have e2:∀ (x:Bool) (q:Prop) [Decidable q],x=true→q→(x&&decide q)=true:=fun x q _ hp hq=>by rw [hp,decide_eq_true hq];rfl
 unfold aB.ok aB.little
 simp only
 exact e2 _ _ (e2 _ _ (e2 _ _ (e2 _ _ (e2 _ _ (e _ _ (by omega) (by omega)) (by omega)) (by omega)) (by omega)) (by omega)) (by omega)
theorem KF (r:Int) (rg:List Nat) (j:Nat):jH r rg (j+1)=jH r rg j++[⟨4,(j:Int)%r,((rg.getD j 0%4:Nat):Int),0⟩]:=by
 unfold jH
 rw [List.range_succ,List.map_append]
 rfl
theorem vO (r:Int) (rg:List Nat) (j:Nat):(jH r rg j).length=j:=by simp [jH]
theorem KG (c:aB) (x:StP) (i:Nat):eH c x (i+1)={ eH c x i with muts:=(eH c x i).muts++[MS.new c i (kG c.r x.rg i)] }:=by
 unfold eH
 rw [List.range_succ,List.map_append]
 rfl
theorem FH (all ce:List Nat) (H:HS):∀ i,(l9 all ce H i).c=H.c
 | 0=>rfl
 | i+1=>((NC _ _).2).trans (FH all ce H i)
theorem AL (all fl:List Nat) (a:Nat) (p:HS × Nat):∀ f,(bK all fl a p f).1.c=p.1.c
 | 0=>rfl
 | f+1=>by
   show (if (bK all fl a p f).2<fl.length then _ else bK all fl a p f).1.c=_
   split
   ·exact ((uh _ _ _).2).trans (AL all fl a p f)
   ·exact AL all fl a p f
theorem Iu (all fl:List Nat) (p:HS × Nat):∀ i,(iE all fl p i).1.c=p.1.c
 | 0=>rfl
 | i+1=>(AL _ _ _ _ _).trans (Iu all fl p i)
theorem FI (H:HS) (a:Nat):∀ i,(H.iW a i).c=H.c
 | 0=>rfl
 | i+1=>((uh _ _ _).2).trans (FI H a i)
theorem Oa:∀ (l:List Nat) (H:HS),(H.fE l).c=H.c
 | [],_=>rfl
 | a::l,H=>(Oa l (H.dU a)).trans (E8 a).2
theorem RU (H:HS) (f c:Nat):(H.jX f c).2.c=H.c:=by
 have hs:∀ k,(H.cu k).2.2.c=H.c:=fun k=>by
  unfold HS.cu
  split
  ·exact (Aw k).2
  ·split
   ·exact (Oa _ _).trans (BX k).2
   ·rfl
 unfold HS.jX
 split
 ·exact ((Ir _ _).2).trans ((FI _ _ _).trans (((Fa _ _).2).trans (hs _)))
 ·exact hs _
theorem RV (sz:List Nat):∀ (H:HS),(bP H sz).c=H.c:=by
 induction sz with
 | nil=>intro H;rfl
 | cons z l ih=>intro H;exact (ih _).trans (RU _ _ _)
theorem Iw (H:HS) (sz fl ce:List Nat):(mJ H sz fl ce).c=H.c:=(FH _ _ _ _).trans ((Iu _ _ _ _).trans (RV _ _))
theorem ShAt.VF {o:Ow} {W:World} {G:Geo} {s:Sh} {N:Nat} (h:ShAt o W G s) (hlow:∀ b,b<N→o b=0∨o b=49) {b:Nat} (hb:b<N):¬ HF G.D b:=by
 rintro ⟨i,hi,e⟩
 have:=h.oD i hi
 rw [← e] at this
 rcases hlow b hb with h9|h9<;>rw [h9] at this<;>cases this
structure Laid (w:World):Prop where
 t:Tabs w
 s:Sizes w
 b:jU w
 g:3<w.heap.size∧4<w.heap.size∧2<w.heap.size
theorem Laid.still {w w':World} (h:Laid w) (k:Keep none_ w w'):Laid w':=⟨h.t.keep k,h.s.keep k,h.b.still k,⟨Nat.lt_of_lt_of_le h.g.1 k.size,Nat.lt_of_lt_of_le h.g.2.1 k.size,Nat.lt_of_lt_of_le h.g.2.2 k.size⟩⟩
def fV (o:Ow) (w:World) (v:Value) (gs:List MG):Prop:=w.ownsRow 0 56 1 v gs.length (gs.map fun g=>ah g.M)∧∀ b,v.ownBlock=some b→o b=97
section
variable {o o':Ow} {w w' W W':World} {G:Geo} {gs:List MG} {q:CG} {x:WS} {v:Value} {a1 a2 a3 a4:Option Addr} {n1 n2 n3 n4 p1 p2 p3 p4:Nat}
theorem fV.keep {I:List Nat} (h:fV o W v gs) (k:Keep (In o I) W W') (h97:I.contains 97=false) (e:aH W o o'):fV o' W' v gs:=by
 refine ⟨fD h.1 k (fun b hb=>aU (h.2 b hb) h97),fun b hb=>?_⟩
 obtain ⟨cur,hc⟩:=kJ h.1 hb
 exact (e b (lt_of_block hc)).trans (h.2 b hb)
theorem fV.form (h:fV o W v gs):∃ a c,v = .slice a gs.length c∧∀ (i:Nat) g,gs[i]?=some g→∃ b,a=some ⟨b,0,none⟩∧W.cell? ⟨b,i,none⟩=some (.pointer (some ⟨g.M,0,none⟩)):=by
 obtain ⟨a,c,rfl,_,_,_,hc⟩:=jk h.1
 refine ⟨a,c,rfl,fun i g hg=>?_⟩
 obtain ⟨b,e,hb,_⟩:=hc i (ah g.M) (by rw [List.getElem?_map,hg];rfl)
 exact ⟨b,e,hb⟩
theorem fV.grow {g:MG} {gs2:List MG} (h:fV o W v gs) (hc:CW w W o G gs2 q x) {N:Nat} (hN:W.cell? ⟨N,0,none⟩=some (ah g.M)) (hl:gs.length≤100):∃ b cap W5,(app9 #[31,31] 31 #[v,.slice (some ⟨N,0,none⟩) 1 1]).run Tryz.prog W = .ok (.slice (some ⟨b,0,none⟩) (gs.length+1) cap) W5 ∧
 ∃ o',aH W o o'∧CW w W5 o' G gs2 q x∧fV o' W5 (.slice (some ⟨b,0,none⟩) (gs.length+1) cap) (gs++[g])∧Keep (In o [97]) W W5:=by
 obtain ⟨b,cap,W5,hrun,hown,hgr,hq⟩:=mQ (P:=Tryz.prog) W 31 31 56 (by kernel_rfl) Tryz.infoPMut rfl h.1 (N:=N) (u:=ah g.M) hN rfl (by decide) (by omega)
 have k:Keep (In o [97]) W W5:=⟨hgr.os,hgr.tape,hgr.output,hgr.size,fun y hy hn=>hgr.block y hy (fun e=>hn (by
  have e':v.ownBlock=some y:=by first|exact e|exact e.symm
  unfold In
  rw [h.2 y e']
  simp))⟩
 have e:aH W o (o.put b 97):=by
  rcases hq with hq|hq
  ·exact Ow.iM (.inr (h.2 b hq))
  ·exact Ow.iM (.inl hq)
 have hlt:b<W5.heap.size:=by
  rcases hown.2 with ⟨e1,_⟩|⟨g',cap',cur,e1,_,hg',_⟩
  ·cases e1
  ·cases e1;exact lt_of_block hg'
 have hf:Fut (o.put b 97) W5:=Ow.kD hc.coll.sh.fut k.size hlt
 refine ⟨b,cap,W5,hrun,o.put b 97,e,hc.qV k rfl e hf,⟨?_,fun b' hb'=>?_⟩,k⟩
 ·rw [List.map_append,List.length_append]
  exact hown
 ·simp [Value.ownBlock] at hb'
  rw [← hb']
  exact Ow.jB _ _ _
end
end
section
structure CP where
 H:HS
 κ:Nat
 mu:Nat
 bl:Nat
 ce:Nat
 lg:Nat
 regs:Nat→List Nat
def CP.rt (p:CP) (v:Nat):Prop:=(∃ j:Nat,j<p.ce∧v=p.H.cellP (j:Int))∨∃ i,i<p.mu∧v∈p.regs i
inductive CP.Rch (p:CP):Nat→Prop
 | root {v:Nat}:p.rt v→p.H.bn v=true→CP.Rch p v
 | fld {a j:Nat}:CP.Rch p a→j<(p.H.aT a).1→p.H.bn (p.H.bQ a (j:Int))=true→CP.Rch p (p.H.bQ a (j:Int))
theorem CP.Rch.bn {p:CP} {a:Nat} (h:p.Rch a):p.H.bn a=true:=by cases h<;>assumption
def CP.good (p:CP) (v:Nat):Prop:=p.H.bn v=true→p.Rch v
def CP.kb (p:CP):Bool:=p.κ==1
def CP.okv (p:CP) (co:Nat→Bool) (l v:Nat):Prop:=p.H.bn v=true→co v=p.kb∨v=l
def lookOf:CD→Nat
 | .look v _=>v
 | _=>0
def wkT:CD→Prop
 | .work=>True
 | .walk _=>True
 | .slots _ t=>wkT t
 | _=>False
def obT:CD→Prop
 | .work=>True
 | .empty t=>wkT t
 | _=>False
def lkT:CD→Prop
 | .cell _=>True
 | .work=>True
 | .box _=>True
 | .field _ _ _ t=>obT t
 | .empty t=>wkT t
 | _=>False
def mkP (ph:Nat):Prop:=ph=4∨ph=5
def CP.shp (p:CP) (ph:Nat):CD→Prop
 | .wait m t=>m<p.mu∧((ph=1∧t = .arm)∨(ph=2∧t = .scan)∨(ph=3∧t = .trace)∨(ph=5∧t = .work))
 | .arm=>ph=1
 | .scan=>ph=2
 | .trace=>ph=3
 | .cell i=>ph=4∧i<p.ce
 | .look _ t=>mkP ph∧lkT t∧(∀ i,t = .cell i→ph=4∧i<p.ce)∧∀ m,t = .box m→m<p.mu
 | .work=>mkP ph
 | .over=>mkP ph
 | .drain=>ph=4
 | .box m=>mkP ph∧m<p.mu
 | .marked=>ph=5
 | .object _ t=>mkP ph∧obT t
 | .field _ _ _ t=>mkP ph∧obT t
 | .walk b=>mkP ph∧b<p.bl
 | .slots l t=>mkP ph∧l≠[]∧wkT t
 | .empty t=>mkP ph∧wkT t
 | _=>False
def CP.ahead (p:CP) (a:Nat):CD→Prop
 | .look _ t=>CP.ahead p a t
 | .object b t=>a=b∨CP.ahead p a t
 | .field b _ _ t=>a=b∨CP.ahead p a t
 | .slots l t=>a∈l∨CP.ahead p a t
 | .walk b=>∃ B,b≤B∧B<p.bl∧a∈p.H.slots B
 | .empty t=>CP.ahead p a t
 | _=>False
def CP.iK (p:CP) (ok:Nat→Prop):CD→Prop
 | .look _ t=>CP.iK p ok t
 | .field a i n t=>(n=(p.H.aT a).1∧i<n∧∀ j:Nat,j<i→ok (p.H.bQ a (j:Int)))∧CP.iK p ok t
 | .object _ t=>CP.iK p ok t
 | .slots _ t=>CP.iK p ok t
 | .empty t=>CP.iK p ok t
 | _=>True
def CP.jI (p:CP):CD→Prop
 | .look v t=>p.good v∧CP.jI p t
 | .object a t=>p.Rch a∧CP.jI p t
 | .field a _ _ t=>p.Rch a∧CP.jI p t
 | .slots _ t=>CP.jI p t
 | .empty t=>CP.jI p t
 | _=>True
def CP.iq (p:CP):CD→Nat
 | .cell i=>i
 | .look _ t=>CP.iq p t
 | _=>p.ce
def CP.jR (p:CP):CD→Nat
 | .box m=>m
 | .look _ t=>CP.jR p t
 | .over=>p.mu
 | .marked=>p.mu
 | _=>0
def jJ:CD→Bool
 | .over=>true
 | .marked=>true
 | _=>false
def oq:MD→Prop
 | .once k=>k=3
 | .note _ _ t=>oq t
 | _=>False
def qZ:MD→Prop
 | .add _ t=>oq t
 | .once _=>True
 | _=>False
def AO (buf:List Nat):MD→Prop
 | .nil=>True
 | .once k=>k=5→buf=[]
 | .note _ _ t=>oq t
 | .add _ t=>buf=[]∧oq t
 | .pour _ t=>qZ t
 | .dG _ _ t=>qZ t
 | .raise t=>buf=[]∧qZ t
 | _=>False
def nV:MD→Int
 | .once k=>k
 | .note _ _ t=>nV t
 | .add _ t=>nV t
 | .pour _ t=>nV t
 | .dG _ _ t=>nV t
 | .raise t=>nV t
 | _=>0
def kH:MD→List Nat
 | .note v _ t=>v::kH t
 | .add v t=>v::kH t
 | .pour _ t=>kH t
 | .dG _ _ t=>kH t
 | .raise t=>kH t
 | _=>[]
def prM:MD→Bool
 | .dG _ f _=>f
 | .raise _=>true
 | _=>false
def CP.nI (p:CP):MD→Prop
 | .note v c t=>p.good v∧c=p.κ∧CP.nI p t
 | .add v t=>p.good v∧CP.nI p t
 | .pour c t=>c=p.κ∧CP.nI p t
 | .dG c _ t=>c=p.κ∧CP.nI p t
 | .raise t=>CP.nI p t
 | _=>True
structure BI (mu:Nat) (b:Bd):Prop where
 muts:b.muts=(mu:Int)
 len:b.os.length=8
 le:mu≤8
 out:∀ i,mu≤i→b.os.getD i false=false
structure MI (p:CP) (s:Sh) (l ph:Nat) (i:Nat) (m:MS):Prop where
 id:m.id=i
 prog:m.prog.length≤m.res.length
 regs:m.regs=p.regs i
 lg:1≤m.c.l.toNat
 want:(ph=1∧s.B.pend i=true)∨m.want=p.κ
 color:m.color=if ph<3∨(ph=3∧s.B.pend i=true) then 1 - p.κ else p.κ
 idle:s.B.pend i=false→m.next = .nil
 kind:s.B.pend i=true→s.B.kind=(ph:Int)
 FK:m.next ≠ .nil→nV m.next=(ph:Int)
 shp:AO m.buf m.next
 gd:p.nI m.next
 buf:∀ v∈m.buf,p.good v
 reg:3≤ph→¬ (ph=3∧s.B.pend i=true∧m.next = .nil)→∀ v∈m.regs,p.okv s.H.co l v∨v∈m.buf∨v∈s.box i∨v∈kH m.next
 buf5:ph=5→s.B.pend i=false→m.buf=[]
def pwW (x:WS):Prop:=x.s.flag=true∨x.coll.over=true∨∃ (i:Nat) (m:MS),x.muts[i]?=some m∧prM m.next=true
structure MInv (p:CP) (x:WS):Prop where
 k2:p.κ<2
 mu8:1≤p.mu∧p.mu≤8
 heap:∃ f,x.s.H={ p.H with co:=f }
 muts:x.muts.length=p.mu
 cmu:x.coll.muts=p.mu
 box:x.s.boxes.length=p.mu
 col:x.coll.color=p.κ
 cbl:x.coll.blocks=p.bl
 cce:x.coll.cells=p.ce
 bd:BI p.mu x.s.B
 bV:∀ i m,x.muts[i]?=some m→MI p x.s (lookOf x.coll.next) x.coll.phase i m
 wt:∀ i,i<p.mu→x.s.B.pend i=true→∃ m t,x.coll.next = .wait m t∧m≤i
 ph:1≤x.coll.phase∧x.coll.phase≤5
 shp:p.shp x.coll.phase x.coll.next
 src:p.jI x.coll.next
 stk:∀ a∈x.coll.stk,p.Rch a
 bxs:∀ i,∀ v∈x.s.box i,p.good v
 pnt:∀ a,p.H.bn a=true→x.s.H.co a=p.kb→p.Rch a
 fld:p.iK (p.okv x.s.H.co (lookOf x.coll.next)) x.coll.next
 cel:4≤x.coll.phase→∀ j:Nat,j<p.iq x.coll.next→p.okv x.s.H.co (lookOf x.coll.next) (p.H.cellP (j:Int))
 clo:pwW x∨∀ a,p.H.bn a=true→x.s.H.co a=p.kb→a∈x.coll.stk∨p.ahead a x.coll.next∨∀ j:Nat,j<(p.H.aT a).1→p.okv x.s.H.co (lookOf x.coll.next) (p.H.bQ a (j:Int))
 bx:∀ j,j<p.jR x.coll.next→x.s.box j=[]
 stk0:jJ x.coll.next=true→x.coll.stk=[]
 mk0:x.coll.next = .marked→x.s.flag=false∧x.coll.over=false
 q:(∀ k,x.s.Q.rw k=[])∧x.s.Q.opn=0∧x.s.Q.rows.length=4
end
end Go.Proofs.YtanfphjoebobaaaGreatDoor
