/- Parts of the walk. No conditions. -/
import Derived.Test.YtobfpmijbfgmeabGreatDoorZzga
import Derived.Deep.RegionHeld3
import Derived.RangeFuncNested
import Derived.LoopNIn
import Derived.LoopIn
import Derived.Deep.OwnRows
import Derived.Deep.DeepAppendRoom
namespace Go.Proofs.YtobfpmijbfgmeabGreatDoor
open _root_.Array renaming getElem?_eq_some_iff->abN
open _root_.Go.IntWalk renaming i64_in->abD,wrap64_in->abG
open _root_.Go.World renaming alloc_heap_new->abO,cell?->abS,putObj_heap_other->abM,putObj_heap_same->abR,size_alloc->abw
open _root_.Int renaming toNat_natCast->abB
open _root_.List renaming getElem?_eq_some_iff->abl
open _root_.Nat renaming add_comm->abJ,add_mul_div_right->abK,div_eq_of_lt->abL,div_le_self->abE,le_refl->abg,le_trans->abh,lt_irrefl->abP,lt_of_lt_of_le->abj,lt_succ_self->abQ,mul_le_mul->abC,mul_le_mul_right->abH,succ_le_of_lt->abI
open _root_.Go.Proofs.Tryz hiding prog
open _root_.Go.Proofs.Tryz renaming prog->ay
set_option maxRecDepth 4000
set_option maxHeartbeats 2000000
section
open Go.RowKit
def zO:List Int:=[2,4,8,16]
def eX (w:World):Prop:=∀ i r,zO[i]?=some r->w.cell? ⟨1,i,none⟩=some (ah r)
theorem eX.aH {w w':World} (h:eX w) (k:aj aA w w'):eX w':=fun i r hr=>k.still (h i r hr)
theorem eX.mJ {S:Nat->Prop} {w w':World} (h:eX w) (k:aj S w w') (h1:¬ S 1):eX w':=fun i r hr=>k.jV (h i r hr) h1
theorem eX.lt {w:World} (h:eX w):1<w.heap.size:=World.block_lt_of_cell? _ _ (h 0 2 rfl)
theorem RN {rest : List (String × DataW Unit)} {w : World} (h : laidMet ay (("dustpan/class.sizes", Rows.laid_dustpan_class_sizes) :: rest) w) : eX w := by
 obtain ⟨ps,⟨g,t,cs,fuel,p,q,hg,ht,hvar,hd,_,_⟩,_⟩:=h
 obtain rfl : 1 = g := Option.some.inj ((show ay.globalNamed "dustpan/class.sizes" = some 1 by kernel_rfl).symm.trans hg)
 obtain rfl:164=t:=Option.some.inj ((show (ay.globals[1]?).map (·.type)=some 164 by kernel_rfl).symm.trans ht)
 obtain ⟨cs,rfl⟩:∃ l:List Value,cs=l.toArray:=⟨cs.toList,by simp⟩
 have e:cs=zO.map (Value.int .i64):=Lib.cells_of_tab (zs:=zO) (show ay.underlying 164=some (.array 4 3) by kernel_rfl) Tryz.tabU6 (by kernel_rfl) (by kernel_rfl) hd
 intro i r hr
 rw [World.var?_cell (P:=ay) hg hvar i,e]
 simp [hr]
def yx (k:Int):Int:=if 0<=k/\k<4 then zO.getD k.toNat 0 else 0
theorem BQ {k:Nat} (h:k<4):yx (k:Int)=2^(k+1):=by
 obtain rfl|rfl|rfl|rfl:k=0\/k=1\/k=2\/k=3:=by omega
 all_goals rfl
theorem lq (k:Int) (w:World):Calls ay 108 #[ah k] w fun e w'=>e = .returned (.bool (decide (0<=k/\k<4)))/\w=w':=by
 by_cases h0:0<=k
 ·have d0:decide (0<=k)=true:=cZ h0
  have HE:Hid (decide (0<=k/\k<4)=decide (k<4)):=by simp [Hid,h0]
  rw [HE.out]
  clear HE h0
  go_enter func108,ntmps108
  go_wp2_with fail
  go_ret
  exact ⟨rfl,rfl⟩
 ·have d0:decide (0<=k)=false:=dD h0
  have HE:Hid (decide (0<=k/\k<4)=false):=by simp [Hid,h0]
  rw [HE.out]
  clear HE h0
  go_enter func108,ntmps108
  go_wp2_with fail
  go_ret
  exact ⟨rfl,rfl⟩
theorem tq (k:Int) (w:World) (hS:eX w):Calls ay 181 #[ah k] w fun e w'=>e = .returned (ah (yx k))/\w=w':=by
 have HI:=au (lq k w)
 by_cases h:0<=k/\k<4
 ·obtain ⟨i,rfl⟩:∃ i:Nat,k=i:=⟨k.toNat,by omega⟩
  have hi:i<4:=by omega
  have hc:w.cell? ⟨1,i,none⟩=some (ah (yx (i:Int))):=hS i _ (by
   unfold yx
   rw [aV h,abB]
   obtain rfl|rfl|rfl|rfl:i=0\/i=1\/i=2\/i=3:=by omega
   all_goals rfl)
  rw [cZ h] at HI
  generalize yx (i:Int)=z at *
  clear h hS
  go_enter func181,ntmps181
  go_wp2_with (go_at_call 108;refine HI.out.mono ?_;rintro e w1 ⟨rfl,rfl⟩)
  go_ret
  exact ⟨rfl,rfl⟩
 ·have HE:Hid (yx k=0):=by unfold Hid yx;rw [aO h]
  rw [dD h] at HI
  rw [HE.out]
  clear h HE hS
  go_enter func181,ntmps181
  go_wp2_with (go_at_call 108;refine HI.out.mono ?_;rintro e w1 ⟨rfl,rfl⟩)
  go_ret
  exact ⟨rfl,rfl⟩
def kQ (k:Int):Int:=max 0 (yx k - 1)
theorem O6 (k:Int):0<=yx k/\yx k<=16:=by
 unfold yx
 split
 ·rename_i h
  obtain ⟨i,rfl⟩:∃ i:Nat,k=i:=⟨k.toNat,by omega⟩
  rw [abB]
  obtain rfl|rfl|rfl|rfl:i=0\/i=1\/i=2\/i=3:=by omega
  all_goals decide
 ·decide
theorem wZ (k:Int) (w:World) (hS:eX w):Calls ay 185 #[ah k] w fun e w'=>e = .returned (ah (kQ k))/\w=w':=by
 have HI:=au (tq k w hS)
 have hb:=O6 k
 unfold kQ
 generalize yx k=z at *
 clear hS
 go_enter func185,ntmps185
 go_wp2_with (go_at_call 181;refine HI.out.mono ?_;rintro e w1 ⟨rfl,rfl⟩)
 all_goals
  go_ret
  exact ⟨by first|(rw [Int.max_eq_right (by omega)];rfl)|(rw [Int.max_eq_left (by omega)];rfl),rfl⟩
theorem iT {c:aS} (h:c.ok=true):(1<=c.b/\c.b<=4096)/\(16<=c.w/\c.w<=256)/\(1<=c.m/\c.m<=8)/\(1<=c.r/\c.r<=64)/\(0<=c.c/\c.c<=64)/\(1<=c.l/\c.l<=256)/\(1<=c.s/\c.s<=4096):=by
 simp [aS.ok] at h
 omega
theorem Gf {b w:Nat} (hb:b<=4096) (hw:w<=256):b*w<=1048576:=abC hb hw
section
variable {c:aS} {b ww:Nat} (hok:c.ok=true) (hb:c.b=b) (hw:c.w=ww)
include hok hb hw
theorem mM:1<=b/\b<=4096/\16<=ww/\ww<=256/\b*ww<=1048576:=by
 have h:=iT hok
 rw [hb,hw] at h
 exact ⟨by omega,by omega,by omega,by omega,Gf (by omega) (by omega)⟩
theorem Jz (C:Nat) (w:World) (hC:aB w C c.cells 23):Calls ay 88 #[ak C] w fun e w'=>e = .returned (ah ((b*ww:Nat):Int))/\w=w':=by
 have hn:=mM hok hb hw
 have y0:=hC.cell 0 rfl
 have y1:=hC.cell 1 rfl
 rw [hb] at y0
 rw [hw] at y1
 obtain ⟨M,hM⟩:∃ M,M=b*ww:=⟨_,rfl⟩
 rw [<- hM] at hn ⊢
 have hmul:(b:Int)*(ww:Int)=(M:Int):=by rw [hM];simp
 have hwr:IntKind.i64.wrap ((b:Int)*(ww:Int))=(M:Int):=by rw [hmul];exact abD _ (by omega)
 clear hC hM hmul hok hb hw hn
 go_enter func88,ntmps88
 go_wp2_with fail
 go_ret
 exact ⟨rfl,rfl⟩
theorem O7 (C:Nat) (w:World) (hT:gY w) (hC:aB w C c.cells 23):Calls ay 87 #[.agg c.cells.toArray,.func (.func 88) #[] #[ak C]] w fun e w'=>e = .returned (ah ((b*ww:Nat):Int))/\aj aA w w':=by
 obtain ⟨W0,hW0⟩:∃ W',W'=w.alloc (.cells c.cells.toArray 23):=⟨_,rfl⟩
 have HK:Hid (aj aA w W0):=by rw [hW0];exact (aj.refl _ _).alloc _
 have HR:=au (vk c W0 (hT.aH HK.out))
 rw [hok] at HR
 have HC:Hid (∀ W,aj aA w W->Calls ay 88 #[ak C] W fun e w'=>e = .returned (ah ((b*ww:Nat):Int))/\W=w'):=fun W hW=>Jz hok hb hw C W (hW.aC hC (fun f=>f))
 obtain ⟨M,hM⟩:∃ M,M=b*ww:=⟨_,rfl⟩
 rw [<- hM] at HC ⊢
 obtain ⟨c0,c1,c2,c3,c4,c5,c6⟩:=c
 simp only [aS.cells] at *
 clear hT hC hM hok hb hw
 go_enter func87,ntmps87
 go_wp2_with fail
 rw [<- hW0]
 clear hW0
 refine HR.out.mono ?_
 rintro e w1 ⟨rfl,hk1⟩
 have aZ:=au (HK.out.trans hk1)
 clear hk1 HK HR
 go_wp2_with (go_at_call 88;refine (HC.out _ aZ.out).mono ?_;rintro e w2 ⟨rfl,rfl⟩)
 go_ret
 exact ⟨rfl,aZ.out⟩
theorem tu (w:World) (hT:gY w):Calls ay 60 #[.agg c.cells.toArray] w fun e w'=>e = .returned (ah ((b*ww:Nat):Int))/\aj aA w w':=by
 obtain ⟨W0,hW0⟩:∃ W',W'=w.alloc (.cells c.cells.toArray 23):=⟨_,rfl⟩
 have HK:Hid (aj aA w W0):=by rw [hW0];exact (aj.refl _ _).alloc _
 have HC:=au (O7 hok hb hw w.heap.size W0 (hT.aH HK.out) (by rw [hW0];exact aB.aW w _ _))
 generalize b*ww=M at *
 obtain ⟨c0,c1,c2,c3,c4,c5,c6⟩:=c
 simp only [aS.cells] at *
 clear hT hok hb hw
 go_enter func60,ntmps60
 go_wp2_with fail
 rw [<- hW0]
 clear hW0
 refine HC.out.mono ?_
 rintro e w1 ⟨rfl,hk1⟩
 have aZ:=au (HK.out.trans hk1)
 clear hk1 HK HC
 go_wp2_with fail
 go_ret
 exact ⟨rfl,aZ.out⟩
end
theorem vw (ww k:Nat) (hw:16<=ww/\ww<=256) (hk:k<4) (w:World) (hS:eX w):Calls ay 149 #[ah (ww:Int),ah (k:Int)] w fun e w'=>e = .returned (ah ((ww/2^(k+1):Nat):Int))/\w=w':=by
 have HI:=au (lq (k:Int) w)
 rw [cZ (by omega)] at HI
 have hc:w.cell? ⟨1,k,none⟩=some (ah ((2^(k+1):Nat):Int)):=hS k _ (show zO[k]?=some ((2^(k+1):Nat):Int) from by
  obtain rfl|rfl|rfl|rfl:k=0\/k=1\/k=2\/k=3:=by omega
  all_goals rfl)
 have Gg:(k:Int)<4:=by omega
 have h2:2<=2^(k+1)/\2^(k+1)<=16:=by
  obtain rfl|rfl|rfl|rfl:k=0\/k=1\/k=2\/k=3:=by omega
  all_goals decide
 generalize 2^(k+1)=z at *
 clear hS hk
 go_enter func149,ntmps149
 have e:wrap64 ((ww:Int)/(z:Int))=((ww/z:Nat):Int):=by
  have h1:((ww:Int)/(z:Int))=((ww/z:Nat):Int):=by simp
  have h2:ww/z<=ww:=abE _ _
  rw [h1]
  generalize ww/z=q at h2 ⊢
  exact abG _ (by omega)
 have HE:=au e
 clear e
 go_wp2_with (go_at_call 108;refine HI.out.mono ?_;rintro e w1 ⟨rfl,rfl⟩)
 go_ret
 refine ⟨?_,rfl⟩
 rw [<- HE.out];rfl
section
variable {c:aS} {b ww:Nat} (hok:c.ok=true) (hb:c.b=b) (hw:c.w=ww)
include hok hb hw
theorem tC (p:Nat) (hp:p<b*ww) (w:World) (hT:gY w):Calls ay 145 #[.agg c.cells.toArray,ah ((p:Int)+1)] w fun e w'=>e = .returned (.tuple #[ah ((p/ww:Nat):Int),.bool true])/\aj aA w w':=by
 obtain ⟨W0,hW0⟩:∃ W',W'=w.alloc (.cells c.cells.toArray 23):=⟨_,rfl⟩
 have HK:Hid (aj aA w W0):=by rw [hW0];exact (aj.refl _ _).alloc _
 have HC:=au (tu hok hb hw W0 (hT.aH HK.out))
 have HB:=au (show aB W0 w.heap.size c.cells 23 by rw [hW0];exact aB.aW w _ _)
 have hn:=mM hok hb hw
 obtain ⟨c0,c1,c2,c3,c4,c5,c6⟩:=c
 simp only at hb hw
 subst hb hw
 generalize b*ww=M at *
 simp only [aS.cells] at *
 clear hT hok
 go_enter func145,ntmps145
 go_wp2_with fail
 rw [<- hW0]
 clear hW0
 refine HC.out.mono ?_
 rintro e w1 ⟨rfl,hk1⟩
 have aZ:=au (HK.out.trans hk1)
 have y1:=(hk1.aC HB.out (fun f=>f)).cell 1 rfl
 clear hk1 HK HC HB
 have e:wrap64 ((p:Int)/(ww:Int))=((p/ww:Nat):Int):=by
  have h1:((p:Int)/(ww:Int))=((p/ww:Nat):Int):=by simp
  have h2:p/ww<=p:=abE _ _
  rw [h1]
  generalize p/ww=q at h2 ⊢
  exact abG _ (by omega)
 have HE:=au e
 clear e
 go_wp2_with fail
 go_ret2
 refine ⟨?_,aZ.out⟩
 rw [<- HE.out];rfl
theorem zZ (a:Int) (ha:a<1\/((b*ww:Nat):Int)<a) (w:World) (hT:gY w):Calls ay 145 #[.agg c.cells.toArray,ah a] w fun e w'=>e = .returned (.tuple #[ah 0,.bool false])/\aj aA w w':=by
 obtain ⟨W0,hW0⟩:∃ W',W'=w.alloc (.cells c.cells.toArray 23):=⟨_,rfl⟩
 have HK:Hid (aj aA w W0):=by rw [hW0];exact (aj.refl _ _).alloc _
 have HC:=au (tu hok hb hw W0 (hT.aH HK.out))
 generalize b*ww=M at *
 obtain ⟨c0,c1,c2,c3,c4,c5,c6⟩:=c
 simp only [aS.cells] at *
 clear hT hok hb hw
 by_cases h1:a<1
 ·have d1:decide (a<1)=true:=cZ h1
  clear h1 ha
  go_enter func145,ntmps145
  go_wp2_with fail
  rw [<- hW0]
  go_ret2
  exact ⟨rfl,HK.out⟩
 ·have d1:decide (a<1)=false:=dD h1
  have d2:decide ((M:Int)<a)=true:=cZ (ha.resolve_left h1)
  clear h1 ha
  go_enter func145,ntmps145
  go_wp2_with fail
  rw [<- hW0]
  clear hW0
  refine HC.out.mono ?_
  rintro e w1 ⟨rfl,hk1⟩
  have aZ:=au (HK.out.trans hk1)
  clear hk1 HK HC
  go_wp2_with fail
  go_ret2
  exact ⟨rfl,aZ.out⟩
end
theorem qw {k:Nat} (h:k<4):2<=2^(k+1)/\2^(k+1)<=16:=by
 obtain rfl|rfl|rfl|rfl:k=0\/k=1\/k=2\/k=3:=by omega
 all_goals decide
theorem xg {b ww z B0 s j:Nat} (hz:2<=z/\z<=16) (hw:16<=ww/\ww<=256) (hB:B0<b) (hs:s<ww/z) (hj:j<z) :
 s*z+j<ww/\B0*ww+(s*z+j)<b*ww/\(B0*ww+(s*z+j))/ww=B0/\(s*z+j)/z=s/\(s*z+j)%z=j:=by
 have h1:(s+1)*z<=ww:=abh (abH z (abI hs)) (Nat.div_mul_le_self ww z)
 have h2:(s+1)*z=s*z+z:=by rw [Nat.add_mul,Nat.one_mul]
 have h3:(B0+1)*ww<=b*ww:=abH ww (abI hB)
 have h4:(B0+1)*ww=B0*ww+ww:=by rw [Nat.add_mul,Nat.one_mul]
 refine ⟨by omega,by omega,?_,?_,?_⟩
 ·rw [abJ,abK _ _ (by omega),abL (by omega),Nat.zero_add]
 ·rw [abJ,abK _ _ (by omega),abL hj,Nat.zero_add]
 ·rw [abJ,Nat.add_mul_mod_self_right,Nat.mod_eq_of_lt hj]
theorem Gh {M L s j z ww per:Nat} (hz:2<=z/\z<=16) (h4:L/z=s) (h5:L%z=j) (hL:L<ww) (hw:ww<=256) (hM:M<=1048576) (hs:s<per) :
 wrap64 (wrap64 (((M+L:Nat):Int)+1 - 1) - (M:Int))=(L:Int)/\wrap64 ((L:Int)/(z:Int))=(s:Int)/\wrap64 ((L:Int)%(z:Int))=(j:Int)/\(L:Int).tmod (z:Int)=(j:Int)/\(L:Int).tdiv (z:Int)=(s:Int)/\wrap64 ((L:Int).tdiv (z:Int))=(s:Int) /\
 IntKind.i64.wrap (s:Int)=(s:Int)/\IntKind.i64.wrap (M:Int)=(M:Int)/\decide ((per:Int)<=(s:Int))=false/\((z:Int)==0)=false/\¬ (z:Int)=0/\¬ z=0/\(2:Int)<=(z:Int):=by
 have hs1:s<=L:=by rw [<- h4];exact abE _ _
 have hj1:j<=L:=by rw [<- h5];exact Nat.mod_le _ _
 have e1:((L:Int)/(z:Int))=(s:Int):=by rw [<- h4];simp
 have e2:((L:Int)%(z:Int))=(j:Int):=by rw [<- h5];simp
 have e3:(L:Int).tmod (z:Int)=(j:Int):=by rw [Int.tmod_eq_emod_of_nonneg (by omega),e2]
 have e4:(L:Int).tdiv (z:Int)=(s:Int):=by rw [Int.tdiv_eq_ediv_of_nonneg (by omega),e1]
 rw [e1,e2,e3,e4]
 clear e1 e2 e3 e4 h4 h5
 refine ⟨?_,abG _ (by omega),abG _ (by omega),rfl,rfl,abG _ (by omega),abD _ (by omega),abD _ (by omega),dD (by omega),by simp;omega,by omega,by omega,by omega⟩
 rw [show ((M+L:Nat):Int)+1 - 1=((M+L:Nat):Int) by omega,abG ((M+L:Nat):Int) (by omega),show ((M+L:Nat):Int) - (M:Int)=(L:Int) by omega,abG (L:Int) (by omega)]
theorem fE {P:Program} {f:Nat} {args:Array Value} {w:World} {p:Ending->Prop} (h:Calls P f args w fun e w'=>p e/\w=w'):Calls P f args w fun e w'=>p e/\w'=w:=h.mono fun _ _ k=>⟨k.1,k.2.symm⟩
section
variable {c:aS} {b ww:Nat} (hok:c.ok=true) (hb:c.b=b) (hw:c.w=ww)
include hok hb hw
theorem En (k B0 s j:Nat) (hk:k<4) (hB:B0<b) (hs:s<ww/2^(k+1)) (hj:j<2^(k+1)) (w:World) (hT:gY w) (hS:eX w):Calls ay 146 #[.agg c.cells.toArray,ah (k:Int),ah (((B0*ww+(s*2^(k+1)+j):Nat):Int)+1)] w fun e w'=>e = .returned (.tuple #[.agg #[ah (B0:Int),ah (s:Int),ah (j:Int)],.bool true])/\aj aA w w':=by
 obtain ⟨W0,hW0⟩:∃ W',W'=(w.alloc (.cells c.cells.toArray 23)).alloc (.cells #[ah 0,ah 0,ah 0] 197):=⟨_,rfl⟩
 have HK:Hid (aj aA w W0):=by rw [hW0];exact ((aj.refl _ _).alloc _).alloc _
 have hn:=mM hok hb hw
 have hz:=qw hk
 obtain ⟨q1,q2,q3,q4,q5⟩:=xg (b:=b) hz ⟨hn.2.2.1,hn.2.2.2.1⟩ hB hs hj
 have HC:=au (tC hok hb hw (B0*ww+(s*2^(k+1)+j)) q2 W0 (hT.aH HK.out))
 rw [q3] at HC
 have HB:=au (show aB W0 w.heap.size c.cells 23 by rw [hW0];exact (aB.aW w _ _).alloc _)
 have HO:Hid (aB W0 (w.heap.size+1) [ah 0,ah 0,ah 0] 197):=by
  rw [hW0]
  have h:=aB.aW (w.alloc (.cells c.cells.toArray 23)) [ah 0,ah 0,ah 0] 197
  rw [abw] at h
  exact h
 have hI:=fun W=>lq (k:Int) W
 have HZ:Hid (∀ W,aj aA w W->Calls ay 181 #[ah (k:Int)] W fun e w'=>e = .returned (ah ((2^(k+1):Nat):Int))/\W=w'):=fun W hW=>by
  have h:=tq (k:Int) W (hS.aH hW)
  rw [BQ hk] at h
  simpa using h
 have HP:Hid (∀ W,aj aA w W->Calls ay 149 #[ah (ww:Int),ah (k:Int)] W fun e w'=>e = .returned (ah ((ww/2^(k+1):Nat):Int))/\W=w'):=fun W hW=>vw ww k ⟨hn.2.2.1,hn.2.2.2.1⟩ hk W (hS.aH hW)
 have hkd:decide (0<=(k:Int)/\(k:Int)<4)=true:=cZ (by omega)
 simp only [hkd] at hI
 have HI:=au hI
 clear hI
 obtain ⟨c0,c1,c2,c3,c4,c5,c6⟩:=c
 simp only at hb hw
 subst hb hw
 have hmul:(B0:Int)*(ww:Int)=((B0*ww:Nat):Int):=by simp
 have hM:B0*ww<=b*ww:=abH _ (by omega)
 generalize s*2^(k+1)+j=L at *
 generalize 2^(k+1)=z at *
 generalize ww/z=per at *
 generalize b*ww=N at *
 generalize B0*ww=M at *
 obtain ⟨hleft,hq,hr,hr2,hq2,hm1,hs1,hmw,d1,hz0,hz1,hz2,WA⟩:=Gh hz q4 q5 (Nat.lt_of_le_of_lt (abg _) q1) hn.2.2.2.1 (abh hM hn.2.2.2.2) hs
 obtain ⟨aa,O8⟩:∃ aa:Int,aa=((M+L:Nat):Int)+1:=⟨_,rfl⟩
 rw [<- O8] at HC hleft ⊢
 simp only [aS.cells] at *
 clear hT hS hok q1 q2 q3 q4 q5 hn hkd hs hj hM O8
 go_enter func146,ntmps146
 go_wp2_with fail
 rw [<- hW0]
 clear hW0
 refine HC.out.mono ?_
 rintro e w1 ⟨rfl,hk1⟩
 have aZ:=au (HK.out.trans hk1)
 have lD:=au (hk1.aC HO.out (fun f=>f))
 have HB1:=au (hk1.aC HB.out (fun f=>f))
 have y1:=(hk1.aC HB.out (fun f=>f)).cell 1 rfl
 clear hk1 HK HC HB HO
 go_wp2_with (go_at_call 108;refine (HI.out _).mono ?_;rintro e w2 ⟨rfl,rfl⟩)
 go_region_held3 (fun w'=>aj aA w1 w')
  (first | exact aj.refl _ _ | exact (aj.refl _ _).drew | exact (aj.refl _ _).drew.alloc _ | assumption | exact aj.alloc (by assumption) _ | fail "oO")
  ((go_at_call 181
    refine (HZ.out _ (aZ.out.trans (by first | assumption | exact aj.alloc (by assumption) _ | exact (aj.refl _ _).drew | exact (aj.refl _ _).drew.alloc _ | fail "vC"))).mono ?_
    rintro e w2 ⟨rfl,rfl⟩))
 all_goals
  obtain ⟨W2,hW2⟩:∃ W',W'=(w1.alloc (.cells #[ah (B0:Int),ah (s:Int),ah (j:Int)] 197)).drew:=⟨_,rfl⟩
  rw [<- hW2]
  have bH:Hid (aj aA w W2):=by rw [hW2];exact (aZ.out.alloc _).drew
  have hp2:aB W2 w1.heap.size [ah (B0:Int),ah (s:Int),ah (j:Int)] 197:=by rw [hW2];exact (aB.aW w1 _ _).drew
  have ho2:aB W2 (w.heap.size+1) [ah 0,ah 0,ah 0] 197:=by rw [hW2];exact (lD.out.alloc _).drew
  have hb2:=show aB W2 w.heap.size _ 23 by rw [hW2];exact (HB1.out.alloc _).drew
  have hlt:w.heap.size+1<w1.heap.size:=lD.out.lt
  have WB:w.heap.size<=w.heap.size+1:=by omega
  clear hW2 y1 HB1 lD aZ HZ hr hr2 hq hq2 hm1 hs1 hleft hmul hmw hz0 hz1 hz2 WA
  generalize w1.heap.size=D at *
  generalize w.heap.size+1=O at *
  have y1:=hb2.cell 1 rfl
  have p0:=hp2.cell 0 rfl;have p1:=hp2.cell 1 rfl;have p2:=hp2.cell 2 rfl
  have o0:=ho2.cell 0 rfl;have o1:=ho2.cell 1 rfl;have o2:=ho2.cell 2 rfl
  have f0:=ho2.free 0;have f1:=ho2.free 1;have f2:=ho2.free 2
  have Gi:=au ho2
  have WC:=au hp2
  clear hp2 ho2 hb2
  go_wp2_with fail
  go_quiet (first|(go_at_call 149;exact Calls.quiet_of_same (fE (HP.out _ (bH.out.drewN _)))))
  obtain ⟨W3,hW3⟩:∃ W',W'=W2.drewN nq:=⟨_,rfl⟩
  rw [<- hW3]
  have lT:Hid (aj aA w W3):=by rw [hW3];exact bH.out.drewN _
  have h23:aj aA W2 W3:=by rw [hW3];exact (aj.refl _ _).drewN _
  have hp3:=h23.aC WC.out (fun f=>f)
  have ho3:=h23.aC Gi.out (fun f=>f)
  clear hW3 h23 y1 p0 p1 p2 o0 o1 o2 f0 f1 f2 WC Gi bH
  have p0:=hp3.cell 0 rfl;have p1:=hp3.cell 1 rfl;have p2:=hp3.cell 2 rfl
  have o0:=ho3.cell 0 rfl;have o1:=ho3.cell 1 rfl;have o2:=ho3.cell 2 rfl
  have f0:=ho3.free 0;have f1:=ho3.free 1;have f2:=ho3.free 2
  have BR:=au ho3
  clear hp3 ho3
  have d2:¬ (per<=s):=fun h=>absurd (cZ (Int.ofNat_le.2 h)) (by rw [d1];decide)
  go_wp2_with fail
  obtain ⟨W4,fC⟩:∃ W',W'=(((W3.setCell ⟨O,0,none⟩ (ah (B0:Int))).setCell ⟨O,1,none⟩ (ah (s:Int))).setCell ⟨O,2,none⟩ (ah (j:Int))):=⟨_,rfl⟩
  rw [<- fC]
  have hF:aB W4 O [ah (B0:Int),ah (s:Int),ah (j:Int)] 197:=by rw [fC];exact ((BR.out.set 0 _).set 1 _).set 2 _
  have k0:=hF.cell 0 rfl;have k1:=hF.cell 1 rfl;have k2:=hF.cell 2 rfl
  have hk4:aj aA w W4:=by
   rw [fC]
   exact lT.out.jI (((((aj.refl (only O) W3).put 0 _).put 1 _).put 2 _)) (fun i hi e=>absurd hi (by unfold only at e;omega))
  refine bodyPost_ret (v := .tuple #[.agg #[ah (B0:Int),ah (s:Int),ah (j:Int)],.bool true]) (by simp [results,Tryz.f146,go_sem,k0,k1,k2]) rfl ⟨rfl,hk4⟩
end
section
variable {c:aS} {b ww:Nat} (hok:c.ok=true) (hb:c.b=b) (hw:c.w=ww)
include hok hb hw
theorem Vx (k B0 s:Nat) (hk:k<4) (hB:B0<b) (hs:s<ww/2^(k+1)) (w:World) (hT:gY w) (hS:eX w):Calls ay 150 #[.agg c.cells.toArray,ah (k:Int),.agg #[ah (B0:Int),ah (s:Int),ah 0]] w fun e w'=>e = .returned (.tuple #[ah (((B0*ww+s*2^(k+1):Nat):Int)+1),.bool true])/\aj aA w w':=by
 obtain ⟨W0,hW0⟩:∃ W',W'=(w.alloc (.cells c.cells.toArray 23)).alloc (.cells #[ah (B0:Int),ah (s:Int),ah 0] 197):=⟨_,rfl⟩
 have HK:Hid (aj aA w W0):=by rw [hW0];exact ((aj.refl _ _).alloc _).alloc _
 have hn:=mM hok hb hw
 have hz:=qw hk
 obtain ⟨q1,q2,q3,q4,q5⟩:=xg (b:=b) (j:=0) hz ⟨hn.2.2.1,hn.2.2.2.1⟩ hB hs (by omega)
 have HR:=au (vk c W0 (hT.aH HK.out))
 rw [hok] at HR
 have HB:=au (show aB W0 w.heap.size c.cells 23 by rw [hW0];exact (aB.aW w _ _).alloc _)
 have HO:Hid (aB W0 (w.heap.size+1) [ah (B0:Int),ah (s:Int),ah 0] 197):=by
  rw [hW0]
  have h:=aB.aW (w.alloc (.cells c.cells.toArray 23)) [ah (B0:Int),ah (s:Int),ah 0] 197
  rw [abw] at h
  exact h
 have hI:=fun W=>lq (k:Int) W
 have hkd:decide (0<=(k:Int)/\(k:Int)<4)=true:=cZ (by omega)
 simp only [hkd] at hI
 have HI:=au hI
 have HZ:Hid (∀ W,aj aA w W->Calls ay 181 #[ah (k:Int)] W fun e w'=>e = .returned (ah ((2^(k+1):Nat):Int))/\W=w'):=fun W hW=>by
  have h:=tq (k:Int) W (hS.aH hW)
  rw [BQ hk] at h
  simpa using h
 have HP:Hid (∀ W,aj aA w W->Calls ay 149 #[ah (ww:Int),ah (k:Int)] W fun e w'=>e = .returned (ah ((ww/2^(k+1):Nat):Int))/\W=w'):=fun W hW=>vw ww k ⟨hn.2.2.1,hn.2.2.2.1⟩ hk W (hS.aH hW)
 obtain ⟨c0,c1,c2,c3,c4,c5,c6⟩:=c
 simp only at hb hw
 subst hb hw
 have hmul:(B0:Int)*(ww:Int)=((B0*ww:Nat):Int):=by simp
 have hmul2:(s:Int)*((2^(k+1):Nat):Int)=((s*2^(k+1):Nat):Int):=by rw [Int.natCast_mul]
 have hM:B0*ww<=b*ww:=abH _ (by omega)
 rw [Nat.add_zero] at q1 q2 q3 q4 q5
 generalize s*2^(k+1)=L at *
 generalize 2^(k+1)=z at *
 generalize ww/z=per at *
 generalize b*ww=N at *
 generalize B0*ww=M at *
 have e1:IntKind.i64.wrap (1+(M:Int))=1+(M:Int):=abD _ (by omega)
 have e2:IntKind.i64.wrap (1+(M:Int)+(L:Int))=((M+L:Nat):Int)+1:=by rw [abD _ (by omega)];omega
 have e3:IntKind.i64.wrap (M:Int)=(M:Int):=abD _ (by omega)
 have e4:IntKind.i64.wrap (L:Int)=(L:Int):=abD _ (by omega)
 have e5:IntKind.i64.wrap (((M+L:Nat):Int)+1)=((M+L:Nat):Int)+1:=abD _ (by omega)
 obtain ⟨R,hR⟩:∃ R:Int,R=((M+L:Nat):Int)+1:=⟨_,rfl⟩
 rw [<- hR] at e2 e5 ⊢
 have d1:decide ((b:Int)<=(B0:Int))=false:=dD (by omega)
 have d2:decide ((per:Int)<=(s:Int))=false:=dD (fun h=>absurd hs (Nat.not_lt.2 (Int.ofNat_le.1 h)))
 have d3:decide ((z:Int)<=0)=false:=dD (fun h=>by have:=hz.1;omega)
 have n1:decide (b<=B0)=false:=dD (by omega)
 have n2:decide ((B0:Int)<0)=false:=dD (by omega)
 have n3:decide (per<=s)=false:=dD (Nat.not_le.2 hs)
 have n4:decide ((s:Int)<0)=false:=dD (by omega)
 have n5:¬ z=0:=fun h=>by have:=hz.1;omega
 have n6:¬ (b<=B0):=by omega
 have n7:¬ (per<=s):=Nat.not_le.2 hs
 simp only [aS.cells] at *
 clear hT hS hok q1 q2 q3 q4 q5 hn hkd hs hM hR hI hz hk hB
 go_enter func150,ntmps150
 go_wp2_with fail
 rw [<- hW0]
 clear hW0
 refine HR.out.mono ?_
 rintro e w1 ⟨rfl,hk1⟩
 have aZ:=au (HK.out.trans hk1)
 have lD:=au (hk1.aC HO.out (fun f=>f))
 have HB1:=au (hk1.aC HB.out (fun f=>f))
 clear hk1 HK HR HB HO
 have y0:=HB1.out.cell 0 rfl
 have y1:=HB1.out.cell 1 rfl
 have o0:=lD.out.cell 0 rfl;have o1:=lD.out.cell 1 rfl;have o2:=lD.out.cell 2 rfl
 go_wp2_with (go_at_call 108;refine (HI.out _).mono ?_;rintro e w2 ⟨rfl,rfl⟩)
 go_quiet (first|(go_at_call 149;exact Calls.quiet_of_same (fE (HP.out _ (aZ.out.drewN _)))))
 obtain ⟨W2,hW2⟩:∃ W',W'=w1.drewN nq:=⟨_,rfl⟩
 rw [<- hW2]
 have bH:Hid (aj aA w W2):=by rw [hW2];exact aZ.out.drewN _
 have hkd:aj aA w1 W2:=by rw [hW2];exact (aj.refl _ _).drewN _
 have oP:=au (hkd.aC lD.out (fun f=>f))
 have HB2:=au (hkd.aC HB1.out (fun f=>f))
 clear hkd
 clear hW2 aZ lD HB1 y0 y1 o0 o1 o2
 have y0:=HB2.out.cell 0 rfl
 have y1:=HB2.out.cell 1 rfl
 have o0:=oP.out.cell 0 rfl;have o1:=oP.out.cell 1 rfl;have o2:=oP.out.cell 2 rfl
 go_wp2_with fail
 go_quiet (first|(go_at_call 181;exact Calls.quiet_of_same (fE (HZ.out _ (bH.out.drewN _)))))
 obtain ⟨W3,hW3⟩:∃ W',W'=W2.drewN nq:=⟨_,rfl⟩
 rw [<- hW3]
 have lT:Hid (aj aA w W3):=by rw [hW3];exact bH.out.drewN _
 have hkd:aj aA W2 W3:=by rw [hW3];exact (aj.refl _ _).drewN _
 have BR:=au (hkd.aC oP.out (fun f=>f))
 have HB3:=au (hkd.aC HB2.out (fun f=>f))
 clear hkd
 clear hW3 bH oP HB2 y0 y1 o0 o1 o2
 have y0:=HB3.out.cell 0 rfl
 have y1:=HB3.out.cell 1 rfl
 have o0:=BR.out.cell 0 rfl;have o1:=BR.out.cell 1 rfl;have o2:=BR.out.cell 2 rfl
 go_wp2_with fail
 go_quiet (first|(go_at_call 181;exact Calls.quiet_of_same (fE (HZ.out _ (lT.out.drewN _)))))
 obtain ⟨W4,fC⟩:∃ W',W'=W3.drewN nq:=⟨_,rfl⟩
 rw [<- fC]
 have kR:Hid (aj aA w W4):=by rw [fC];exact lT.out.drewN _
 have hkd:aj aA W3 W4:=by rw [fC];exact (aj.refl _ _).drewN _
 have KQ:=au (hkd.aC BR.out (fun f=>f))
 have HB4:=au (hkd.aC HB3.out (fun f=>f))
 clear hkd
 clear fC lT BR HB3 y0 y1 o0 o1 o2
 have y0:=HB4.out.cell 0 rfl
 have y1:=HB4.out.cell 1 rfl
 have o0:=KQ.out.cell 0 rfl;have o1:=KQ.out.cell 1 rfl;have o2:=KQ.out.cell 2 rfl
 go_wp2_with fail
 go_ret2
 exact ⟨rfl,kR.out⟩
end
end
section
open Go.RowKit
structure iJ (G:Nat->Prop) (W W':World):Prop where
 size:W.heap.size<=W'.heap.size
 same:∀ b,G b->W'.heap[b]?=W.heap[b]?
theorem iJ.refl (G:Nat->Prop) (W:World):iJ G W W:=⟨abg _,fun _ _=>rfl⟩
theorem iJ.trans {G:Nat->Prop} {A B C:World} (h:iJ G A B) (k:iJ G B C):iJ G A C:=⟨abh h.size k.size,fun b hb=>(k.same b hb).trans (h.same b hb)⟩
theorem iJ.putObj {G:Nat->Prop} (W:World) (l:Nat) (o:Obj) (hl:¬ G l):iJ G W (W.putObj l o):=⟨by simp,fun b hb=>abM (fun e=>hl (e▸hb))⟩
theorem iJ.nR {G S:Nat->Prop} {W W':World} (k:aj S W W') (hG:∀ b,G b->b<W.heap.size/\¬ S b):iJ G W W':=⟨k.size,fun b hb=>k.block b (hG b hb).1 (hG b hb).2⟩
theorem iJ.aC {G:Nat->Prop} {W W':World} (h:iJ G W W') {B cs T} (hB:G B) (hb:aB W B cs T):aB W' B cs T:=by
 unfold aB at *
 rw [h.same B hB];exact hb
def Uy (I:World->Prop):Prop:=∀ W W',I W->aj aA W W'->I W'
structure MI (N:Nat) (R:World->World->Prop):Prop where
 trans:∀ {A B C:World},R A B->R B C->R A C
 put:∀ (W:World) (L:Nat) (o o':Obj),N<=L->W.heap[L]?=some o->o.isCells=false->o'.isCells=false->R W (W.putObj L o')
def MJ {α:Type} (F:Fence) (n:Nat) (P:Program) (g:Nat) (lb:Array Value) (all:List α) (Enc:World->α->Array Value->Prop) (R:World->World->Prop) (w:World):Prop :=
 ∀ (l:Nat) (J Jx:Nat->World->Prop) (W:World),aj aA w W->(∀ k,Uy (J k))->(∀ k,Uy (Jx k)) ->
  (∀ (k:Nat) (x:α) (args:Array Value) (W1:World),all[k]?=some x->J k W1->Enc W1 x args->YieldAt F (n - 1) P l args W1 fun e W' =>
   (e = .returned (.bool true)/\J (k+1) W'/\R W1 W')\/(e = .returned (.bool false)/\Jx (k+1) W')) ->
  J 0 W ->
  CallsIn F n P g (#[.func (.yield l) #[] #[]]++lb) W fun e W'=>(∃ v,e = .returned v)/\(J all.length W'\/∃ k,k<=all.length/\Jx k W')
def yL (B:Nat) (R:World->World->Prop) (I:Nat->World->Prop) (Ix:Code->Nat->World->Prop) (k:Nat) (W:World):Exit->Act->World->Prop
 | .normal,_,W'=>KeepsFrom B W W'/\R W W'/\I k W'
 | .ret,_,W'=>KeepsFrom B W W'/\Ix .ret k W'
 | .exit id,_,W'=>KeepsFrom B W W'/\Ix (.exit id) k W'
 | .goto t,_,W'=>KeepsFrom B W W'/\Ix (.goto t) k W'
 | .panic _,_,_=>False
 | .outgrown,_,_=>False
def Gj {α:Type} (F:Fence) (n:Nat) (P:Program) (g:Nat) (lb:Array Value) (all:List α) (Enc:World->α->Array Value->Prop) (G:Nat->Prop) (w:World):Prop:=MJ F n P g lb all Enc (iJ G) w
def RP (B:Nat) (G:Nat->Prop) (I:Nat->World->Prop) (Ix:Code->Nat->World->Prop) (k:Nat) (W:World):Exit->Act->World->Prop:=yL B (iJ G) I Ix k W
theorem uo {β:Type} {S:Nat->Prop} {w:World} {B:Nat} (hB:w.heap.size<=B):OwnFrom B (fun (_:β) W=>aj S w W):=by
 rintro s W W' row h hg hr
 exact h.jI (T:=fun i=>row=some i) ⟨hg.os,hg.tape,hg.output,hg.size,fun k hk n=>hg.block k hk (fun e=>n e.symm)⟩ (fun i hi e=>absurd (hr i e).1 (by omega))
theorem lN {β:Type} {b B:Nat} {cs:β->List Value} {T:TypeId}:OwnFrom B (fun (s:β) W=>aB W b (cs s) T):=by
 rintro s W W' row h hg hr
 have hlt:=h.lt
 unfold aB at *
 rw [hg.block b hlt (fun e=>?_)]
 ·exact h
 ·obtain ⟨_,_,ho,hc⟩:=hr b e.symm
  rw [h] at ho
  cases ho
  simp [Obj.isCells] at hc
theorem KeepsFrom.nR {B:Nat} {W W':World} (k:aj aA W W'):KeepsFrom B W W' :=
 ⟨k.size,fun i _ _ h _=>(k.block i (abN.1 h).1 (fun f=>f)).trans h⟩
theorem aj.takeDeferred {S:Nat->Prop} {w0 W:World} (h:aj S w0 W) {D:Nat} (hD:w0.heap.size<=D) (o:Obj):aj S w0 (W.putObj D o) :=
 h.jI (T:=fun i=>i=D) ⟨rfl,rfl,rfl,by simp,fun k _ n=>abM n⟩ (fun i hi e=>absurd hi (by omega))
theorem aB.putObj {W:World} {b:Nat} {cs:List Value} {T:TypeId} (h:aB W b cs T) {D:Nat} {o o':Obj} (hD:W.heap[D]?=some o) (ho:o.isCells=false):aB (W.putObj D o') b cs T:=by
 unfold aB at *
 rw [abM (fun e=>by subst e;rw [h] at hD;cases hD;simp [Obj.isCells] at ho)];exact h
section
variable {F:Fence} {n:Nat} {P:Program} {b:Frame} {a:Act} {k:List Item} {cs:List Frame} {w:World} {Q:Exit->Act->World->Prop}
theorem oL {c:Code}:step P (lone (b.atR a (.code (.scope c)::k)) cs w) = .next (lone (b.atR a (.code c :: .inScope c::k)) cs w) :=
 step_lone_go (by simp [stepG,stepG.exec,Frame.atR])
theorem FT {c:Code}:step P (lone (b.atR a (.inScope c::k)) cs w) = .next (lone (b.atR a k) cs w) :=
 step_lone_go (by simp [stepG,stepG.exec,Frame.atR])
theorem BU {c:Code} (h:c.wpIn F n P (Exit.noGoto Q) a w):(Code.scope c).wpIn F n P Q a w:=by
 intro b k cs hro hb hr
 have h0:(lone (b.atR a (.code (.scope c)::k)) cs w).fenced P F:=fenced_calm hb hr rfl
 obtain ⟨e,a₁,w₁,hq,harr⟩:=h b (.inScope c::k) cs hro hb hr
 cases e with
 | normal=>exact ⟨.normal,a₁,w₁,hq,.head h0 oL (StepsIn.trans harr (.one (fenced_calm hb hr rfl) FT))⟩
 | exit id =>
   have hx:exitTo id (.inScope c::k)=exitTo id k:=by simp [exitTo]
   exact ⟨.exit id,a₁,w₁,hq,fun k' hk => .head h0 oL (harr.1 k' (by rw [hx];exact hk)),
    fun hr' hk=>let ⟨k₁,h1,h2⟩:=harr.2 hr' (by rw [hx];exact hk);⟨k₁,h1,.head h0 oL h2⟩⟩
 | goto l=>exact hq.elim
 | ret=>exact ⟨_,a₁,w₁,hq,.of_steps (.one h0 oL) harr⟩
 | panic ch=>exact ⟨_,a₁,w₁,hq,.of_steps (.one h0 oL) harr⟩
 | outgrown=>exact ⟨_,a₁,w₁,hq,.of_steps (.one h0 oL) harr⟩
end
def vX (S:Nat->Prop) (E:World->Prop) {α:Type} (F:Fence) (n:Nat) (P:Program) (g:Nat) (lb:Array Value) (all:List α) (Enc:World->α->Array Value->Prop) (R:World->World->Prop) (w:World):Prop :=
 ∀ (l:Nat) (J Jx:Nat->World->Prop) (W:World),aj aA w W->(∀ k A C,J k A->aj S A C->(E A->E C)->J k C)->(∀ k A C,Jx k A->aj S A C->(E A->E C)->Jx k C) ->
  (∀ (k:Nat) (x:α) (args:Array Value) (W1:World),all[k]?=some x->J k W1->Enc W1 x args->YieldAt F (n - 1) P l args W1 fun e W' =>
   (e = .returned (.bool true)/\J (k+1) W'/\R W1 W')\/(e = .returned (.bool false)/\Jx (k+1) W')) ->
  J 0 W ->
  CallsIn F n P g (#[.func (.yield l) #[] #[]]++lb) W fun e W'=>(∃ v,e = .returned v)/\(J all.length W'\/∃ k,k<=all.length/\Jx k W')
variable {F:Fence} {n:Nat} {P:Program}
theorem AU {S:Nat->Prop} {E:World->Prop} {α:Type} {g:Operand} {ps:Array Tmp} {assign body:Code} {Q:Exit->Act->World->Prop} {a:Act} {w:World}
 (hro:F.round=none) (h1:1<=n) {gf:Nat} {lb:Array Value} (hg:a.eval g = .func (.func gf) #[] lb) (hFg:F.fn gf) (eg:∀ args w,(callFunc gf args).run P w = .ok (.enter gf args) w)
 {all:List α} {Enc:World->α->Array Value->Prop} {R:World->World->Prop} {N:Nat} (hN:N<=w.heap.size) (hR:MI N R) (hseq:vX S E F (n - 1) P gf lb all Enc R w)
 (hps:∀ W x args,Enc W x args->args.size=ps.size)
 (I:Nat->World->Prop) (Ix:Code->Nat->World->Prop) (hI:OwnFrom w.heap.size I) (hIx:∀ c,OwnFrom w.heap.size (Ix c)) (h0:I 0 w) (hS:∀ b,S b->b<w.heap.size) (hIS:∀ k A C,I k A->aj S A C->(E A->E C)->I k C) (aad:∀ c k A C,Ix c k A->aj S A C->(E A->E C)->Ix c k C)
 (yM:∀ (l:Nat) (k:Nat) (x:α) (args:Array Value) (W:World),all[k]?=some x->Enc W x args->I k W ->
  assign.wpIn (F.inRound l) (n - 1 - 1) P (Exit.then (fun a₁ W₁=>∃ J:World->Prop,KeepsFrom w.heap.size W W₁/\R W W₁/\J W₁/\OwnFrom w.heap.size (fun (_:Unit) W=>J W) /\
   ∀ W₂,J W₂->body.wpIn (F.inRound l) (n - 1 - 1) P (yL w.heap.size R I Ix (k+1) W₂) a₁ W₂) (fun _ _ _=>False))
   { tmps:=(ps.zip args).foldl (fun t (p,v)=>t.setIfInBounds p v) a.tmps,defers:=[] } W)
 (hdone:∀ (D:Nat) (W:World),w.heap.size<=D->I all.length W->W.heap[D]?=some (.deferred (some []))->Q .normal { a with defers:={ target := .collected D,args:=#[] }::a.defers } W)
 (hstop:∀ (D:Nat) (c:Code) (k:Nat) (W:World),w.heap.size<=D->k<=all.length->Ix c k W->W.heap[D]?=some (.deferred (some []))->c.wpIn F n P Q { a with defers:={ target := .collected D,args:=#[] }::a.defers } W) :
 (Code.rangeFunc g ps assign body).wpIn F n P Q a w:=by
 refine wpIn_rangeFunc fun fn hfn=>?_
 rw [hro]
 let uq:LoopState->Option Code->Loop:=fun st pe=>{ state:=st,pending:=pe,fn,tmps:=a.tmps,params:=ps,assign,body,defers:=w.heap.size }
 let D:=w.heap.size
 let L:=w.heap.size+1
 have Zd:N<=L:=by simp [L];omega
 let W1:=(w.alloc (.deferred (some []))).alloc (.loop (uq .ready none))
 have Ze:aj aA w W1:=((aj.refl _ _).alloc _).alloc _
 have sW1:W1.heap.size=w.heap.size+2:=by simp [W1]
 have eL:W1.heap[L]?=some (.loop (uq .ready none)):=by
  have:=abO (w.alloc (.deferred (some []))) (.loop (uq .ready none))
  rwa [abw] at this
 have eD:W1.heap[D]?=some (.deferred (some [])):=(Below.heap_alloc _ _ _ (by simp [D])).trans (abO w _)
 have grow:∀ {β:Type} {B:Nat} {K:β->World->Prop},OwnFrom B K->∀ {s:β} {A C:World},K s A->aj aA A C->K s C:=by
  intro β B K hK s A C hs k
  exact hK s A C none hs ⟨k.os,k.tape,k.output,k.size,fun i hi _=>k.block i hi (fun f=>f)⟩ (fun _ e=>by cases e)
 refine ⟨L,[{ target := .collected D,args:=#[] }],W1,{ target := .fn (.func gf) lb,args:=#[.func (.yield L) #[] #[]] },W1,gf,#[.func (.yield L) #[] #[]]++lb,W1,run_enterLoop_outer _ _ _ _ _,?_,?_,?_,fun _=>h1,?_⟩
 ·simp only [resolve,hg];simp [go_sem]
 ·intro f' hf';simp [Target.leads] at hf';subst hf';exact hFg
 ·simp [invoke,go_sem,eg]
 refine (hseq L (fun k W=>I k W/\W.heap[L]?=some (.loop (uq .ready none))/\W.heap[D]?=some (.deferred (some [])))
  (fun k W=>∃ c,Ix c k W/\W.heap[L]?=some (.loop (uq .done (some c)))/\W.heap[D]?=some (.deferred (some []))) W1 Ze ?_ ?_ ?_ ⟨grow hI h0 Ze,eL,eD⟩).mono ?_
 ·rintro k A C ⟨h,hl,hd⟩ kk ke
  exact ⟨hIS k A C h kk ke,(kk.block L (abN.1 hl).1 (fun f=>abP _ (abj (abQ w.heap.size) (Nat.le_of_lt (hS L f))))).trans hl,(kk.block D (abN.1 hd).1 (fun f=>abP _ (hS D f))).trans hd⟩
 ·rintro k A C ⟨c,h,hl,hd⟩ kk ke
  exact ⟨c,aad c k A C h kk ke,(kk.block L (abN.1 hl).1 (fun f=>abP _ (abj (abQ w.heap.size) (Nat.le_of_lt (hS L f))))).trans hl,(kk.block D (abN.1 hd).1 (fun f=>abP _ (hS D f))).trans hd⟩
 ·
  rintro k x args W hx ⟨hi,hl,hd⟩ henc
  refine ⟨fn,_,assign,body,run_yield hl (hps _ _ _ henc),roundIn_of_wpIn hfn (wpIn_mono (yM L k x args W hx henc hi) ?_)⟩
  rintro e a1 Wa hp1
  cases e<;>try exact hp1.elim
  obtain ⟨Jr,kr,gr,jr,hJr,hbd⟩:=hp1
  have hla:=kr.same L _ (by simp [L]) hl rfl
  have hda:=kr.same D _ (abg _) hd rfl
  have hlt:=(abN.1 hla).1
  refine ⟨_,run_beginRound hla rfl,?_⟩
  let W2:=Wa.putObj L (.loop { uq .ready none with state := .busy })
  have hl2:W2.heap[L]?=some (.loop { uq .ready none with state := .busy }):=abR hlt
  have hd2:W2.heap[D]?=some (.deferred (some [])):=(abM (by simp [D,L])).trans hda
  have hj2:Jr W2:=hJr.putObj (s:=()) _ jr (by simp [L]) hla rfl
  refine wpIn_mono (hbd W2 hj2) ?_
  have fin:∀ (j:Option Code) (W3:World),KeepsFrom w.heap.size W2 W3->∃ W4:World,(Instr.endRound L j).run P W3 = .ok (.bool j.isNone) W4/\W4=W3.putObj L (.loop (uq (if j.isNone then .ready else .done) j)) /\
   (∃ o:Obj,W3.heap[L]?=some o/\o.isCells=false)/\W4.heap[L]?=some (.loop (uq (if j.isNone then .ready else .done) j))/\W4.heap[D]?=some (.deferred (some [])):=fun j W3 k3=>by
   have hl3:=k3.same L _ (by simp [L]) hl2 rfl
   exact ⟨_,run_endRound j hl3,rfl,⟨_,hl3,rfl⟩,abR (abN.1 hl3).1,(abM (by simp [D,L])).trans (k3.same D _ (abg _) hd2 rfl)⟩
  rintro e a3 W3 hp
  cases e with
  | normal =>
    obtain ⟨k3,g3,i3⟩:=hp
    obtain ⟨W4,hr,rfl,⟨o,ho,hoc⟩,hl4,hd4⟩:=fin none W3 k3
    exact ⟨_,_,hr,.inl ⟨rfl,⟨hI.putObj _ i3 (by simp [L]) ho hoc,hl4,hd4⟩,hR.trans (hR.trans (hR.trans gr (hR.put Wa L _ _ Zd hla rfl rfl)) g3) (hR.put W3 L o _ Zd ho hoc rfl)⟩⟩
  | ret =>
    obtain ⟨k3,i3⟩:=hp
    obtain ⟨W4,hr,rfl,⟨o,ho,hoc⟩,hl4,hd4⟩:=fin (some .ret) W3 k3
    exact ⟨_,_,hr,.inr ⟨rfl,.ret,(hIx _).putObj _ i3 (by simp [L]) ho hoc,hl4,hd4⟩⟩
  | exit id =>
    obtain ⟨k3,i3⟩:=hp
    obtain ⟨W4,hr,rfl,⟨o,ho,hoc⟩,hl4,hd4⟩:=fin (some (.exit id)) W3 k3
    exact ⟨_,_,hr,.inr ⟨rfl,.exit id,(hIx _).putObj _ i3 (by simp [L]) ho hoc,hl4,hd4⟩⟩
  | goto t =>
    obtain ⟨k3,i3⟩:=hp
    obtain ⟨W4,hr,rfl,⟨o,ho,hoc⟩,hl4,hd4⟩:=fin (some (.goto t)) W3 k3
    exact ⟨_,_,hr,.inr ⟨rfl,.goto t,(hIx _).putObj _ i3 (by simp [L]) ho hoc,hl4,hd4⟩⟩
  | panic ch=>exact hp.elim
  | outgrown=>exact hp.elim
 ·
  rintro e W ⟨⟨v,rfl⟩,(⟨hi,hl,hd⟩|⟨k,hk,c,hi,hl,hd⟩)⟩
  ·exact ⟨none,_,run_endLoop hl (by simp [uq]),hdone D _ (abg _) (hI.putObj _ hi (by simp [L]) hl rfl) ((abM (by simp [D,L])).trans hd)⟩
  ·exact ⟨some c,_,run_endLoop hl (by simp [uq]),hstop D c k _ (abg _) hk ((hIx c).putObj _ hi (by simp [L]) hl rfl) ((abM (by simp [D,L])).trans hd)⟩
theorem O9 {β:Type} {B:Nat} {K:β->World->Prop} (h:OwnFrom B K) {s:β} {A C:World} (hs:K s A) (k:aj aA A C):K s C :=
 h s A C none hs ⟨k.os,k.tape,k.output,k.size,fun i hi _=>k.block i hi (fun f=>f)⟩ (fun _ e=>by cases e)
theorem RQ {α:Type} {g:Operand} {ps:Array Tmp} {assign body:Code} {Q:Exit->Act->World->Prop} {a:Act} {w:World}
 (hro:F.round=none) (h1:1<=n) {gf:Nat} {lb:Array Value} (hg:a.eval g = .func (.func gf) #[] lb) (hFg:F.fn gf) (eg:∀ args w,(callFunc gf args).run P w = .ok (.enter gf args) w)
 {all:List α} {Enc:World->α->Array Value->Prop} {R:World->World->Prop} {N:Nat} (hN:N<=w.heap.size) (hR:MI N R) (hseq:MJ F (n - 1) P gf lb all Enc R w)
 (hps:∀ W x args,Enc W x args->args.size=ps.size)
 (I:Nat->World->Prop) (Ix:Code->Nat->World->Prop) (hI:OwnFrom w.heap.size I) (hIx:∀ c,OwnFrom w.heap.size (Ix c)) (h0:I 0 w)
 (yM:∀ (l:Nat) (k:Nat) (x:α) (args:Array Value) (W:World),all[k]?=some x->Enc W x args->I k W ->
  assign.wpIn (F.inRound l) (n - 1 - 1) P (Exit.then (fun a₁ W₁=>∃ J:World->Prop,KeepsFrom w.heap.size W W₁/\R W W₁/\J W₁/\OwnFrom w.heap.size (fun (_:Unit) W=>J W) /\
   ∀ W₂,J W₂->body.wpIn (F.inRound l) (n - 1 - 1) P (yL w.heap.size R I Ix (k+1) W₂) a₁ W₂) (fun _ _ _=>False))
   { tmps:=(ps.zip args).foldl (fun t (p,v)=>t.setIfInBounds p v) a.tmps,defers:=[] } W)
 (hdone:∀ (D:Nat) (W:World),w.heap.size<=D->I all.length W->W.heap[D]?=some (.deferred (some []))->Q .normal { a with defers:={ target := .collected D,args:=#[] }::a.defers } W)
 (hstop:∀ (D:Nat) (c:Code) (k:Nat) (W:World),w.heap.size<=D->k<=all.length->Ix c k W->W.heap[D]?=some (.deferred (some []))->c.wpIn F n P Q { a with defers:={ target := .collected D,args:=#[] }::a.defers } W) :
 (Code.rangeFunc g ps assign body).wpIn F n P Q a w:=by
 exact AU (S:=aA) (E:=fun _=>True) hro h1 hg hFg eg hN hR (fun l J Jx W g1 g2 g3=>hseq l J Jx W g1 (fun k A C a c=>g2 k A C a c (fun h=>h)) (fun k A C a c=>g3 k A C a c (fun h=>h))) hps I Ix hI hIx h0 (fun b f=>f.elim) (fun k A C a c _=>O9 hI a c) (fun c k A C a d _=>O9 (hIx c) a d) yM hdone hstop
theorem KR {α:Type} {g:Operand} {ps:Array Tmp} {assign body:Code} {Q:Exit->Act->World->Prop} {a:Act} {w:World}
 (hro:F.round=none) (h1:1<=n) {gf:Nat} {lb:Array Value} (hg:a.eval g = .func (.func gf) #[] lb) (hFg:F.fn gf) (eg:∀ args w,(callFunc gf args).run P w = .ok (.enter gf args) w)
 {all:List α} {Enc:World->α->Array Value->Prop} {G:Nat->Prop} (hseq:Gj F (n - 1) P gf lb all Enc G w)
 (hG:∀ b,G b->b<w.heap.size) (hps:∀ W x args,Enc W x args->args.size=ps.size)
 (I:Nat->World->Prop) (Ix:Code->Nat->World->Prop) (hI:OwnFrom w.heap.size I) (hIx:∀ c,OwnFrom w.heap.size (Ix c)) (h0:I 0 w)
 (yM:∀ (l:Nat) (k:Nat) (x:α) (args:Array Value) (W:World),all[k]?=some x->Enc W x args->I k W ->
  assign.wpIn (F.inRound l) (n - 1 - 1) P (Exit.then (fun a₁ W₁=>∃ J:World->Prop,KeepsFrom w.heap.size W W₁/\iJ G W W₁/\J W₁/\OwnFrom w.heap.size (fun (_:Unit) W=>J W) /\
   ∀ W₂,J W₂->body.wpIn (F.inRound l) (n - 1 - 1) P (RP w.heap.size G I Ix (k+1) W₂) a₁ W₂) (fun _ _ _=>False))
   { tmps:=(ps.zip args).foldl (fun t (p,v)=>t.setIfInBounds p v) a.tmps,defers:=[] } W)
 (hdone:∀ (D:Nat) (W:World),w.heap.size<=D->I all.length W->W.heap[D]?=some (.deferred (some []))->Q .normal { a with defers:={ target := .collected D,args:=#[] }::a.defers } W)
 (hstop:∀ (D:Nat) (c:Code) (k:Nat) (W:World),w.heap.size<=D->k<=all.length->Ix c k W->W.heap[D]?=some (.deferred (some []))->c.wpIn F n P Q { a with defers:={ target := .collected D,args:=#[] }::a.defers } W) :
 (Code.rangeFunc g ps assign body).wpIn F n P Q a w:=by
 exact RQ (R:=iJ G) hro h1 hg hFg eg (abg _) ⟨iJ.trans,fun W L o o' hL _ _ _=>iJ.putObj W L o' (fun h=>by have:=hG L h;omega)⟩ hseq hps I Ix hI hIx h0 yM hdone hstop
end
section
open Go.RowKit Go.Deep
theorem aj.jJ {S:Nat->Prop} {w0 w w':World} {row:Option Nat} (h:aj S w0 w) (g:w.grownBy w' row) (hr:∀ k,row=some k->k<w0.heap.size->S k):aj S w0 w' :=
 h.jI (T:=fun i=>row=some i) ⟨g.os,g.tape,g.output,g.size,fun k hk n=>g.block k hk (fun e=>n e.symm)⟩ (fun i hi e=>hr i e hi)
theorem aj.RS {w0 w w':World} {base n size:Nat} {e:TypeId} {v:Value} {xs:List Value} (h:aj aA w0 w) (hown:w.ownsRow base e size v n xs) (hb:w0.heap.size<=base) (g:w.grownBy w' v.ownBlock):aj aA w0 w' :=
 h.jJ g (fun k hk hl=>by have:=(hown.lt k hk).1;omega)
theorem aB.jJ {w w':World} {B:Nat} {cs:List Value} {T:TypeId} {row:Option Nat} (h:aB w B cs T) (g:w.grownBy w' row) (hne:row≠some B):aB w' B cs T:=by
 have hlt:=h.lt
 unfold aB at *
 rw [g.block B hlt (fun e=>hne e.symm)];exact h
theorem jY {w:World} {B:Nat} {cs:List Value} {T e:TypeId} {base n size:Nat} {v:Value} {xs:List Value} (hb:aB w B cs T) (h:w.ownsRow base e size v n xs) (hne:e≠T):v.ownBlock≠some B:=by
 rcases h.2 with ⟨rfl,_⟩|⟨g,aJ,cur,rfl,_,hg,_⟩
 ·simp [Value.ownBlock]
 ·intro hx
  simp [Value.ownBlock] at hx
  subst hx
  unfold aB at hb
  rw [hg] at hb
  simp at hb
  exact hne hb.2
theorem fQ {w w':World} {S:Nat->Prop} {e:TypeId} {base n size:Nat} {v:Value} {xs:List Value} (h:w.ownsRow base e size v n xs) (k:aj S w w') (hne:∀ B,v.ownBlock=some B->¬ S B):w'.ownsRow base e size v n xs:=by
 refine ⟨h.1,?_⟩
 rcases h.2 with hn|⟨g,aJ,cur,rfl,hb,hg,rest⟩
 ·exact .inl hn
 ·refine .inr ⟨g,aJ,cur,rfl,hb,?_,rest⟩
  rw [k.block g (abN.1 hg).1 (hne g rfl)]
  exact hg
theorem dF {w:World} {base base' n size:Nat} {e:TypeId} {v:Value} {xs:List Value} (h:w.ownsRow base e size v n xs) (hb:base'<=base):w.ownsRow base' e size v n xs:=by
 refine ⟨h.1,?_⟩
 rcases h.2 with hn|⟨g,aJ,cur,rfl,hg,rest⟩
 ·exact .inl hn
 ·exact .inr ⟨g,aJ,cur,rfl,abh hb hg,rest⟩
theorem gy {w w':World} {base n size:Nat} {e:TypeId} {v:Value} {xs:List Value} (h:w.ownsRow base e size v n xs) (k:aj aA w w'):w'.ownsRow base e size v n xs:=fQ h k (fun _ _ f=>f)
section
variable {P:Program} {w:World}
def eU (z:Value) (n:Nat):List Value:=List.replicate n z
theorem MK (z:Value) (n:Nat):madeCells #[z] n=(eU z n).toArray:=by
 apply Array.ext
 ·simp [madeCells,eU]
 ·intro i h1 h2
  simp [madeCells,eU,Nat.mod_one]
theorem wM {T e:TypeId} {z:Value} {bytes:Nat} (ht:P.underlying T=some (.slice e)) (hi:(P.info? e).map (fun i=>(i.zero,i.size,i.bytes))=some (some z,1,bytes)) (hz:z.cells=#[z]) (hb:bytes<=1000)
 (n:Nat) (hn:n<=100000000000) (L:Int) (hL:L=n) (w:World) :
 (Instr.makeSlice T (ah L) (ah L)).run P w = .ok (.slice (some ⟨w.heap.size,0,none⟩) n n) (w.alloc (.cells (eU z n).toArray e)):=by
 subst hL
 rw [<- MK]
 exact run_make_row' T e z bytes ht hi hz .i64 .i64 n (abh (abC hb hn) (by decide)) (by omega) w
end
end
section
open Go.RowKit
def Gl (w:World) (T:TypeId) (v:Value) (xs:List Value):Prop :=
 ∃ a c,v = .slice a xs.length c/\xs.length<=c/\xs.length<=4000000000000/\(0<xs.length->∃ b off cs,a=some ⟨b,off,none⟩/\aB w b cs T/\∀ j,j<xs.length->cs[off+j]?=xs[j]?)
theorem Gl.cells {w:World} {T:TypeId} {a:Option Addr} {n c:Nat} {xs:List Value} (h:Gl w T (.slice a n c) xs):n=xs.length/\n<=c/\n<=4000000000000/\(0<n->∃ b off,a=some ⟨b,off,none⟩/\∀ j v,xs[j]?=some v->w.cell? ⟨b,off+j,none⟩=some v):=by
 obtain ⟨a',c',e,hl,hm,hc⟩:=h
 simp at e
 obtain ⟨rfl,rfl,rfl⟩:=e
 refine ⟨rfl,hl,hm,fun h0=>?_⟩
 obtain ⟨b,off,cs,rfl,hb,hj⟩:=hc h0
 refine ⟨b,off,rfl,fun j v hv=>hb.cell _ ?_⟩
 rw [hj j (abl.1 hv).1,hv]
def sH (a:Option Addr) (c k:Nat):Option Addr:=if c=k then a else a.map (·.add k)
theorem KU {P:Program} {T e:TypeId} (ht:P.underlying T=some (.slice e)) (hi:(P.info? e).map (·.size)=some 1) (a:Option Addr) (n c k:Nat) (hk:k<=n) (w:World) :
 (Instr.slice T (.slice a n c) (some (ah (k:Int))) none none).run P w = .ok (.slice (sH a c k) (n - k) (c - k)) w:=by
 obtain ⟨i,hi1,hi2⟩:=Option.map_eq_some_iff.1 hi
 have hnk:¬ n<k:=by omega
 simp [Instr.slice,run_underlying ht,sizeOf,typeInfo,hi1,hi2,sH,go_sem]
 exact fun h=>absurd h hnk
def Cells (w:World) (a:Option Addr) (n:Nat) (xs:List Value):Prop :=
 xs.length=n/\(0<n->∃ b off,a=some ⟨b,off,none⟩/\∀ j v,xs[j]?=some v->w.cell? ⟨b,off+j,none⟩=some v)
theorem Gl.toCells {w:World} {T:TypeId} {a:Option Addr} {n c:Nat} {xs:List Value} (h:Gl w T (.slice a n c) xs):Cells w a n xs:=⟨h.cells.1.symm,h.cells.2.2.2⟩
theorem gB.WE {k:IntKind} {w:World} {base:Nat} {T:TypeId} {v:Value} {n:Nat} {zs:List Int} (h:w.ownsRow base T 1 v n (zs.map (Value.int k))):∃ a c,v = .slice a n c/\gB k w a n zs/\n<=c:=by
 obtain ⟨hl,hf⟩:=h
 rcases hf with ⟨rfl,rfl⟩|⟨g,aJ,cur,rfl,_,hg,hn,_,hs,hc⟩
 ·exact ⟨none,0,rfl,⟨by simpa using hl,fun h=>absurd h (abP 0)⟩,abg _⟩
 ·refine ⟨_,aJ,rfl,⟨by simpa using hl,fun _=>⟨g,0,rfl,fun j hj=>?_⟩⟩,hn⟩
  have e:cur[j]?=some (.int k (zs.getD j 0)):=by
   have h1:(cur.toList.take (n*1))[j]?=cur[j]?:=by simp [hj]
   rw [<- h1,hc]
   have hj2:j<zs.length:=by simp at hl;omega
   simp [hj2]
  simp [abS,hg,e]
def app9 (ats:Array TypeId) (ty:TypeId) (args:Array Value):Sem Value:=Builtin.append_ ats ty args
theorem mD (ats:Array TypeId) (ty:TypeId) (args:Array Value):Builtin.append_ ats ty args=app9 ats ty args:=rfl
theorem Tryz.infoInt:(ay.info? 3).map (fun i=>(i.zero,i.size,i.bytes))=some (some (ah 0),1,8):=by kernel_rfl
theorem kE {w:World} {e:TypeId} {v:Value} {n:Nat} {xs:List Value} (h:w.ownsRow 0 e 1 v n xs):∃ a aJ,v = .slice a n aJ/\xs.length=n/\n<=aJ/\(a=none->aJ=0) /\
 ∀ j u,xs[j]?=some u->∃ g,a=some ⟨g,0,none⟩/\w.cell? ⟨g,j,none⟩=some u/\w.frozen? ⟨g,j,none⟩=false:=by
 obtain ⟨hl,hf⟩:=h
 have hl':xs.length=n:=by simpa using hl
 rcases hf with ⟨rfl,rfl⟩|⟨g,aJ,cur,rfl,_,hg,hn,_,hs,hc⟩
 ·have:xs=[]:=List.eq_nil_of_length_eq_zero hl'
  subst this
  exact ⟨none,0,rfl,rfl,abg _,fun _=>rfl,fun j u h=>by simp at h⟩
 ·refine ⟨_,aJ,rfl,hl',hn,fun h=>(by cases h),fun j u hj=>⟨g,rfl,?_,?_⟩⟩
  ·have hj2:=(abl.1 hj).1
   rw [<- hc] at hj
   rw [List.getElem?_take_of_lt (by omega)] at hj
   simp [abS,hg]
   simpa using hj
  ·simp [World.frozen?,hg]
theorem Pg {w:World} {e:TypeId} {g n aJ:Nat} {xs:List Value} (h:w.ownsRow 0 e 1 (.slice (some ⟨g,0,none⟩) n aJ) n xs):∃ cur:Array Value,w.heap[g]?=some (.cells cur e (0,0)):=by
 rcases h.2 with ⟨h,_⟩|⟨g',cap',cur,hv,_,hg,_⟩
 ·cases h
 ·cases hv
  exact ⟨cur,hg⟩
theorem vF {w:World} {e:TypeId} {v:Value} {n:Nat} {xs:List Value} (h:w.ownsRow 0 e 1 v n xs) {a:Addr} (ha:∀ k,v.ownBlock=some k->k≠a.block) (u:Value):(w.setCell a u).ownsRow 0 e 1 v n xs :=
 ownsRow_setCell_other h (fun e=>ha _ e rfl) u
theorem qx {P:Program} (w:World) (t ty e:TypeId) (ht:P.underlying t=some (.slice e)) {z:Value} {bytes:Nat} (hi:(P.info? e).map (fun i=>(i.zero,i.size,i.bytes))=some (some z,1,bytes)) (hzs:z.cells.size=1)
 {v:Value} {n:Nat} {xs:List Value} (hown:w.ownsRow 0 e 1 v n xs) {N:Nat} {u:Value} (hN:w.cell? ⟨N,0,none⟩=some u) (hu:u.oneCell'=true) (hb:bytes<=1000) (hn:n<=100000000000) :
 ∃ g aJ w',(Builtin.append_ #[t,t] ty #[v,.slice (some ⟨N,0,none⟩) 1 1]).run P w = .ok (.slice (some ⟨g,0,none⟩) (n+1) aJ) w'/\w'.ownsRow 0 e 1 (.slice (some ⟨g,0,none⟩) (n+1) aJ) (n+1) (xs++[u]) /\
  w.grownBy w' v.ownBlock/\(v.ownBlock=some g\/w.heap.size<=g):=by
 obtain ⟨i,hi1,hi2,hi3,hi4⟩:=info_parts hi
 have hbytes:(n+1)*bytes<=140737488355328:=abh (abC (show n+1<=100000000001 by omega) hb) (by decide)
 have hnews:∀ j x,[u][j]?=some x->w.cell? ((⟨N,0,none⟩:Addr).add j)=some x:=by
  intro j x hj
  cases j with
  | zero=>simp at hj;subst hj;simpa [Addr.add] using hN
  | succ j=>simp at hj
 have h1:∀ x∈[u],x.oneCell'=true:=by simpa using hu
 have shape:∀ {v':Value} {W:World} {B:Nat},W.ownsRow B e 1 v' (n+1) (xs++[u])->∃ g aJ,v' = .slice (some ⟨g,0,none⟩) (n+1) aJ/\B<=g:=by
  intro v' W B h
  rcases h.2 with ⟨_,h0⟩|⟨g,aJ,cur,rfl,hB,_⟩
  ·omega
  ·exact ⟨g,aJ,rfl,hB⟩
 rcases hown.2 with ⟨rfl,rfl⟩|⟨g,aJ,cur,rfl,hbg,hg,hnc,hcm,hcs,htake⟩
 ·have hown':w.ownsRow w.heap.size e 1 (.slice none 0 0) 0 xs:=⟨hown.1,.inl ⟨rfl,rfl⟩⟩
  obtain ⟨v',w',hr,h2,h3,_⟩:=run_append_own (P:=P) w w.heap.size t ty e i z 1 bytes ht hi1 hi2 hi3 hi4 hzs (by decide) _ 0 xs hown' ⟨N,0,none⟩ 1 1 [u] rfl hnews h1 (by unfold maxLen;omega) hbytes (abg _)
  obtain ⟨g,aJ,rfl,hB⟩:=shape h2
  exact ⟨g,aJ,w',hr,dF h2 (Nat.zero_le _),h3,.inr hB⟩
 ·by_cases hroom:n+1<=aJ
  ·obtain ⟨w',hr,h2,h3⟩:=run_append_own_spare (P:=P) w 0 t ty e i 1 ht hi1 hi3 g n aJ xs hown ⟨N,0,none⟩ 1 1 [u] rfl hnews h1 hroom
   exact ⟨g,aJ,w',hr,h2,h3,.inl rfl⟩
  ·have holds:∀ j x,xs[j]?=some x->w.cell? ((⟨g,0,none⟩:Addr).add j)=some x:=hown.cells (g:=g) rfl
   obtain ⟨v',w',hr,h2,h3⟩:=run_append_arg_grows (P:=P) w t ty e i z 1 bytes ht hi1 hi2 hi3 hi4 hzs (by decide) ⟨g,0,none⟩ n aJ xs hown.1 holds ⟨N,0,none⟩ 1 1 [u] rfl hnews (by omega) (by unfold maxLen;omega) hbytes
   obtain ⟨g',cap',rfl,hB⟩:=shape h2
   exact ⟨g',cap',w',hr,dF h2 (Nat.zero_le _),⟨h3.os,h3.tape,h3.output,h3.size,fun k hk _=>h3.block k hk (by simp)⟩,.inr hB⟩
end
end Go.Proofs.YtobfpmijbfgmeabGreatDoor
