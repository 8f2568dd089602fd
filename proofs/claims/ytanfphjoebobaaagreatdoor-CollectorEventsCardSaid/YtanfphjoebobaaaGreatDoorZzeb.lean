/- Parts of the walk. No conditions. -/
import Derived.Test.YtanfphjoebobaaaGreatDoorZzea
import Derived.Deep.RegionHeld3
namespace Go.Proofs.YtanfphjoebobaaaGreatDoor
open _root_.Go.Proofs.Tryz hiding prog
open _root_.Go.Proofs.Tryz renaming prog->ay
set_option maxRecDepth 4000
set_option maxHeartbeats 2000000
section
open Go.RowKit
def Ci:List Int:=[2,4,8,16]
def Sizes (w:World):Prop:=∀ i r,Ci[i]?=some r->w.cell? ⟨2,i,none⟩=some (ah r)
theorem Sizes.keep {w w':World} (h:Sizes w) (k:Keep none_ w w'):Sizes w':=fun i r hr=>k.still (h i r hr)
theorem Xc {rest : List (String × DataW Unit)} {w : World} (h : laidMet ay (("dustpan/class.sizes", Rows.laid_dustpan_class_sizes) :: rest) w) : Sizes w := by
 obtain ⟨ps,⟨g,t,cs,fuel,p,q,hg,ht,hvar,hd,_,_⟩,_⟩:=h
 obtain rfl : 2 = g := Option.some.inj ((show ay.globalNamed "dustpan/class.sizes" = some 2 by kernel_rfl).symm.trans hg)
 obtain rfl:206=t:=Option.some.inj ((show (ay.globals[2]?).map (·.type)=some 206 by kernel_rfl).symm.trans ht)
 obtain ⟨cs,rfl⟩:∃ l:List Value,cs=l.toArray:=⟨cs.toList,by simp⟩
 have e:cs=Ci.map (Value.int .i64):=Lib.cells_of_tab (zs:=Ci) (show ay.underlying 206=some (.array 4 3) by kernel_rfl) Tryz.tabU6 (by kernel_rfl) (by kernel_rfl) hd
 intro i r hr
 rw [World.var?_cell (P:=ay) hg hvar i,e]
 simp [hr]
def Ac (k:Int):Int:=if 0<=k/\k<4 then Ci.getD k.toNat 0 else 0
theorem EP {k:Nat} (h:k<4):Ac (k:Int)=2^(k+1):=by
 obtain rfl|rfl|rfl|rfl:k=0\/k=1\/k=2\/k=3:=by omega
 all_goals rfl
theorem lI (k:Int) (w:World):Calls ay 198 #[ah k] w fun e w'=>e = .returned (.bool (decide (0<=k/\k<4)))/\w=w':=by
 by_cases h0:0<=k
 ·have d0:decide (0<=k)=true:=decide_eq_true h0
  have HE:Hid (decide (0<=k/\k<4)=decide (k<4)):=by simp [Hid,h0]
  rw [HE.out]
  clear HE h0
  go_enter func198,ntmps198
  go_wp2_with fail
  go_ret
  exact ⟨rfl,rfl⟩
 ·have d0:decide (0<=k)=false:=decide_eq_false h0
  have HE:Hid (decide (0<=k/\k<4)=false):=by simp [Hid,h0]
  rw [HE.out]
  clear HE h0
  go_enter func198,ntmps198
  go_wp2_with fail
  go_ret
  exact ⟨rfl,rfl⟩
theorem vI (k:Int) (w:World) (hS:Sizes w):Calls ay 201 #[ah k] w fun e w'=>e = .returned (ah (Ac k))/\w=w':=by
 have HI:=au (lI k w)
 by_cases h:0<=k/\k<4
 ·obtain ⟨i,rfl⟩:∃ i:Nat,k=i:=⟨k.toNat,by omega⟩
  have hi:i<4:=by omega
  have hc:w.cell? ⟨2,i,none⟩=some (ah (Ac (i:Int))):=hS i _ (by
   unfold Ac
   rw [if_pos h,Int.toNat_natCast]
   obtain rfl|rfl|rfl|rfl:i=0\/i=1\/i=2\/i=3:=by omega
   all_goals rfl)
  rw [decide_eq_true h] at HI
  generalize Ac (i:Int)=z at *
  clear h hS
  go_enter func201,ntmps201
  go_wp2_with (go_at_call 198;refine HI.out.mono ?_;rintro e w1 ⟨rfl,rfl⟩)
  go_ret
  exact ⟨rfl,rfl⟩
 ·have HE:Hid (Ac k=0):=by unfold Hid Ac;rw [if_neg h]
  rw [decide_eq_false h] at HI
  rw [HE.out]
  clear h HE hS
  go_enter func201,ntmps201
  go_wp2_with (go_at_call 198;refine HI.out.mono ?_;rintro e w1 ⟨rfl,rfl⟩)
  go_ret
  exact ⟨rfl,rfl⟩
def kN (k:Int):Int:=max 0 (Ac k - 1)
theorem Ud (k:Int):0<=Ac k/\Ac k<=16:=by
 unfold Ac
 split
 ·rename_i h
  obtain ⟨i,rfl⟩:∃ i:Nat,k=i:=⟨k.toNat,by omega⟩
  rw [Int.toNat_natCast]
  obtain rfl|rfl|rfl|rfl:i=0\/i=1\/i=2\/i=3:=by omega
  all_goals decide
 ·decide
theorem yY (k:Int) (w:World) (hS:Sizes w):Calls ay 158 #[ah k] w fun e w'=>e = .returned (ah (kN k))/\w=w':=by
 have HI:=au (vI k w hS)
 have hb:=Ud k
 unfold kN
 generalize Ac k=z at *
 clear hS
 go_enter func158,ntmps158
 go_wp2_with (go_at_call 201;refine HI.out.mono ?_;rintro e w1 ⟨rfl,rfl⟩)
 all_goals
  go_ret
  exact ⟨by first|(rw [Int.max_eq_right (by omega)];rfl)|(rw [Int.max_eq_left (by omega)];rfl),rfl⟩
theorem fQ {c:aK} (h:c.ok=true):(1<=c.b/\c.b<=4096)/\(16<=c.w/\c.w<=256)/\(1<=c.m/\c.m<=8)/\(1<=c.r/\c.r<=64)/\(0<=c.c/\c.c<=64)/\(1<=c.l/\c.l<=256)/\(1<=c.s/\c.s<=4096):=by
 simp [aK.ok] at h
 omega
theorem Xd {b w:Nat} (hb:b<=4096) (hw:w<=256):b*w<=1048576:=Nat.mul_le_mul hb hw
section
variable {c:aK} {b ww:Nat} (hok:c.ok=true) (hb:c.b=b) (hw:c.w=ww)
include hok hb hw
theorem lD:1<=b/\b<=4096/\16<=ww/\ww<=256/\b*ww<=1048576:=by
 have h:=fQ hok
 rw [hb,hw] at h
 exact ⟨by omega,by omega,by omega,by omega,Xd (by omega) (by omega)⟩
theorem OA (C:Nat) (w:World) (hC:aA w C c.cells 23):Calls ay 156 #[aj C] w fun e w'=>e = .returned (ah ((b*ww:Nat):Int))/\w=w':=by
 have hn:=lD hok hb hw
 have y0:=hC.cell 0 rfl
 have y1:=hC.cell 1 rfl
 rw [hb] at y0
 rw [hw] at y1
 obtain ⟨M,hM⟩:∃ M,M=b*ww:=⟨_,rfl⟩
 rw [<- hM] at hn ⊢
 have hmul:(b:Int)*(ww:Int)=(M:Int):=by rw [hM];simp
 have hwr:IntKind.i64.wrap ((b:Int)*(ww:Int))=(M:Int):=by rw [hmul];exact IntWalk.i64_in _ (by omega)
 clear hC hM hmul hok hb hw hn
 go_enter func156,ntmps156
 go_wp2_with fail
 go_ret
 exact ⟨rfl,rfl⟩
theorem Ue (C:Nat) (w:World) (hT:Tabs w) (hC:aA w C c.cells 23):Calls ay 155 #[.agg c.cells.toArray,.func (.func 156) #[] #[aj C]] w fun e w'=>e = .returned (ah ((b*ww:Nat):Int))/\Keep none_ w w':=by
 obtain ⟨W0,hW0⟩:∃ W',W'=w.alloc (.cells c.cells.toArray 23):=⟨_,rfl⟩
 have HK:Hid (Keep none_ w W0):=by rw [hW0];exact (Keep.refl _ _).alloc _
 have HR:=au (xw c W0 (hT.keep HK.out))
 rw [hok] at HR
 have HC:Hid (∀ W,Keep none_ w W->Calls ay 156 #[aj C] W fun e w'=>e = .returned (ah ((b*ww:Nat):Int))/\W=w'):=fun W hW=>OA hok hb hw C W (hW.blk hC (fun f=>f))
 obtain ⟨M,hM⟩:∃ M,M=b*ww:=⟨_,rfl⟩
 rw [<- hM] at HC ⊢
 obtain ⟨c0,c1,c2,c3,c4,c5,c6⟩:=c
 simp only [aK.cells] at *
 clear hT hC hM hok hb hw
 go_enter func155,ntmps155
 go_wp2_with fail
 rw [<- hW0]
 clear hW0
 refine HR.out.mono ?_
 rintro e w1 ⟨rfl,hk1⟩
 have aJ:=au (HK.out.trans hk1)
 clear hk1 HK HR
 go_wp2_with (go_at_call 156;refine (HC.out _ aJ.out).mono ?_;rintro e w2 ⟨rfl,rfl⟩)
 go_ret
 exact ⟨rfl,aJ.out⟩
theorem vJ (w:World) (hT:Tabs w):Calls ay 108 #[.agg c.cells.toArray] w fun e w'=>e = .returned (ah ((b*ww:Nat):Int))/\Keep none_ w w':=by
 obtain ⟨W0,hW0⟩:∃ W',W'=w.alloc (.cells c.cells.toArray 23):=⟨_,rfl⟩
 have HK:Hid (Keep none_ w W0):=by rw [hW0];exact (Keep.refl _ _).alloc _
 have HC:=au (Ue hok hb hw w.heap.size W0 (hT.keep HK.out) (by rw [hW0];exact aA.new w _ _))
 generalize b*ww=M at *
 obtain ⟨c0,c1,c2,c3,c4,c5,c6⟩:=c
 simp only [aK.cells] at *
 clear hT hok hb hw
 go_enter func108,ntmps108
 go_wp2_with fail
 rw [<- hW0]
 clear hW0
 refine HC.out.mono ?_
 rintro e w1 ⟨rfl,hk1⟩
 have aJ:=au (HK.out.trans hk1)
 clear hk1 HK HC
 go_wp2_with fail
 go_ret
 exact ⟨rfl,aJ.out⟩
end
theorem xA (ww k:Nat) (hw:16<=ww/\ww<=256) (hk:k<4) (w:World) (hS:Sizes w):Calls ay 194 #[ah (ww:Int),ah (k:Int)] w fun e w'=>e = .returned (ah ((ww/2^(k+1):Nat):Int))/\w=w':=by
 have HI:=au (lI (k:Int) w)
 rw [decide_eq_true (by omega)] at HI
 have hc:w.cell? ⟨2,k,none⟩=some (ah ((2^(k+1):Nat):Int)):=hS k _ (show Ci[k]?=some ((2^(k+1):Nat):Int) from by
  obtain rfl|rfl|rfl|rfl:k=0\/k=1\/k=2\/k=3:=by omega
  all_goals rfl)
 have PI:(k:Int)<4:=by omega
 have h2:2<=2^(k+1)/\2^(k+1)<=16:=by
  obtain rfl|rfl|rfl|rfl:k=0\/k=1\/k=2\/k=3:=by omega
  all_goals decide
 generalize 2^(k+1)=z at *
 clear hS hk
 go_enter func194,ntmps194
 have e:wrap64 ((ww:Int)/(z:Int))=((ww/z:Nat):Int):=by
  have h1:((ww:Int)/(z:Int))=((ww/z:Nat):Int):=by simp
  have h2:ww/z<=ww:=Nat.div_le_self _ _
  rw [h1]
  generalize ww/z=q at h2 ⊢
  exact IntWalk.wrap64_in _ (by omega)
 have HE:=au e
 clear e
 go_wp2_with (go_at_call 198;refine HI.out.mono ?_;rintro e w1 ⟨rfl,rfl⟩)
 go_ret
 refine ⟨?_,rfl⟩
 rw [<- HE.out];rfl
section
variable {c:aK} {b ww:Nat} (hok:c.ok=true) (hb:c.b=b) (hw:c.w=ww)
include hok hb hw
theorem vK (p:Nat) (hp:p<b*ww) (w:World) (hT:Tabs w):Calls ay 196 #[.agg c.cells.toArray,ah ((p:Int)+1)] w fun e w'=>e = .returned (.tuple #[ah ((p/ww:Nat):Int),.bool true])/\Keep none_ w w':=by
 obtain ⟨W0,hW0⟩:∃ W',W'=w.alloc (.cells c.cells.toArray 23):=⟨_,rfl⟩
 have HK:Hid (Keep none_ w W0):=by rw [hW0];exact (Keep.refl _ _).alloc _
 have HC:=au (vJ hok hb hw W0 (hT.keep HK.out))
 have HB:=au (show aA W0 w.heap.size c.cells 23 by rw [hW0];exact aA.new w _ _)
 have hn:=lD hok hb hw
 obtain ⟨c0,c1,c2,c3,c4,c5,c6⟩:=c
 simp only at hb hw
 subst hb hw
 generalize b*ww=M at *
 simp only [aK.cells] at *
 clear hT hok
 go_enter func196,ntmps196
 go_wp2_with fail
 rw [<- hW0]
 clear hW0
 refine HC.out.mono ?_
 rintro e w1 ⟨rfl,hk1⟩
 have aJ:=au (HK.out.trans hk1)
 have y1:=(hk1.blk HB.out (fun f=>f)).cell 1 rfl
 clear hk1 HK HC HB
 have e:wrap64 ((p:Int)/(ww:Int))=((p/ww:Nat):Int):=by
  have h1:((p:Int)/(ww:Int))=((p/ww:Nat):Int):=by simp
  have h2:p/ww<=p:=Nat.div_le_self _ _
  rw [h1]
  generalize p/ww=q at h2 ⊢
  exact IntWalk.wrap64_in _ (by omega)
 have HE:=au e
 clear e
 go_wp2_with fail
 go_ret2
 refine ⟨?_,aJ.out⟩
 rw [<- HE.out];rfl
theorem Dj (a:Int) (ha:a<1\/((b*ww:Nat):Int)<a) (w:World) (hT:Tabs w):Calls ay 196 #[.agg c.cells.toArray,ah a] w fun e w'=>e = .returned (.tuple #[ah 0,.bool false])/\Keep none_ w w':=by
 obtain ⟨W0,hW0⟩:∃ W',W'=w.alloc (.cells c.cells.toArray 23):=⟨_,rfl⟩
 have HK:Hid (Keep none_ w W0):=by rw [hW0];exact (Keep.refl _ _).alloc _
 have HC:=au (vJ hok hb hw W0 (hT.keep HK.out))
 generalize b*ww=M at *
 obtain ⟨c0,c1,c2,c3,c4,c5,c6⟩:=c
 simp only [aK.cells] at *
 clear hT hok hb hw
 by_cases h1:a<1
 ·have d1:decide (a<1)=true:=decide_eq_true h1
  clear h1 ha
  go_enter func196,ntmps196
  go_wp2_with fail
  rw [<- hW0]
  go_ret2
  exact ⟨rfl,HK.out⟩
 ·have d1:decide (a<1)=false:=decide_eq_false h1
  have d2:decide ((M:Int)<a)=true:=decide_eq_true (ha.resolve_left h1)
  clear h1 ha
  go_enter func196,ntmps196
  go_wp2_with fail
  rw [<- hW0]
  clear hW0
  refine HC.out.mono ?_
  rintro e w1 ⟨rfl,hk1⟩
  have aJ:=au (HK.out.trans hk1)
  clear hk1 HK HC
  go_wp2_with fail
  go_ret2
  exact ⟨rfl,aJ.out⟩
end
theorem Xe (k r:Nat) (hk:k<=2) (hr:r<72057594037927936):bits .or .u64 ((k:Int)*72057594037927936) (r:Int)=((k*72057594037927936+r:Nat):Int):=by
 have h1:(k:Int)*72057594037927936=((k*72057594037927936:Nat):Int):=by omega
 rw [h1,bits_or_u64_nat _ _ (by omega) (by omega),nat_join 56 _ _ (by omega) (by omega)]
theorem PK (x:Nat) (hx:x<18446744073709551616):wrap64 (bits .and .u64 (x:Int) 255)=((x%256:Nat):Int):=by
 have h:=bits_and_u64_nat x 255 hx (by decide)
 rw [show ((255:Nat):Int)=255 from rfl] at h
 rw [h,nat_mask8,IntWalk.wrap64_in _ (by omega)]
theorem ZE (x:Nat) (hx:x<18446744073709551616):wrap64 (bits .and .u64 (x:Int) 72057594037927935)=((x%72057594037927936:Nat):Int):=by
 have h:=bits_and_u64_nat x 72057594037927935 hx (by decide)
 rw [show ((72057594037927935:Nat):Int)=72057594037927935 from rfl] at h
 have e:x &&& 72057594037927935=x%72057594037927936:=Nat.and_two_pow_sub_one_eq_mod x 56
 rw [h,e,IntWalk.wrap64_in _ (by omega)]
theorem ES (k r:Nat) (hk:k<=2) (hr:r<72057594037927936) (w:World):Calls ay 205 #[ah (k:Int),.int .u64 (r:Int)] w fun e w'=>e = .returned (.int .u64 ((k*72057594037927936+r:Nat):Int))/\w=w':=by
 have HL:=au (Xe k r hk hr)
 go_enter func205,ntmps205
 go_wp2_with fail
 go_ret
 refine ⟨?_,rfl⟩
 rw [<- HL.out];rfl
theorem yj (x:Nat) (hx:x<18446744073709551616) (w:World):Calls ay 234 #[.int .u64 (x:Int)] w fun e w'=>e = .returned (.tuple #[ah ((x/256%256:Nat):Int),ah ((x%256:Nat):Int)])/\w=w':=by
 have h1:=PK (x/256) (by omega)
 have h2:((x/256:Nat):Int)=(x:Int)/256:=by omega
 rw [h2] at h1
 have H1:=au h1
 have H2:=au (PK x hx)
 clear h1 h2 hx
 go_enter func234,ntmps234
 go_wp2_with fail
 go_ret2
 refine ⟨?_,rfl⟩
 rw [<- H1.out,<- H2.out];rfl
theorem uN (x:Nat) (hx:x<18446744073709551616) (w:World):Calls ay 235 #[.int .u64 (x:Int)] w fun e w'=>e = .returned (ah ((x%72057594037927936:Nat):Int))/\w=w':=by
 have H:=au (ZE x hx)
 clear hx
 go_enter func235,ntmps235
 go_wp2_with fail
 go_ret
 refine ⟨?_,rfl⟩
 rw [<- H.out];rfl
def iQ (c f:Nat):Nat:=72057594037927936+c*256+f
def dM (a:Nat):Nat:=144115188075855872+a
def jh (c f:Nat):Prop:=c<4/\f+1<=2^(c+1)
instance (c f:Nat):Decidable (jh c f):=inferInstanceAs (Decidable (_/\_))
theorem ZF {c:Nat} (h:c<4):kN (c:Int)=((2^(c+1):Nat):Int) - 1:=by
 unfold kN
 rw [EP h]
 obtain rfl|rfl|rfl|rfl:c=0\/c=1\/c=2\/c=3:=by omega
 all_goals rfl
theorem wz (c f:Nat) (hc:c<256) (hf:f<256) (w:World) (hS:Sizes w):Calls ay 162 #[ah (c:Int),ah (f:Int)] w fun e w'=>e = .returned (.tuple #[.int .u64 ((if jh c f then iQ c f else 0:Nat):Int),.bool (decide (jh c f))])/\w=w':=by
 have HI:=au (lI (c:Int) w)
 have HR:=au (yY (c:Int) w hS)
 by_cases h4:c<4
 ·rw [decide_eq_true (by omega)] at HI
  rw [ZF h4] at HR
  have h2:2<=2^(c+1)/\2^(c+1)<=16:=by
   obtain rfl|rfl|rfl|rfl:c=0\/c=1\/c=2\/c=3:=by omega
   all_goals decide
  by_cases uS:f+1<=2^(c+1)
  ·have HO:Hid (jh c f):=⟨h4,uS⟩
   rw [if_pos HO.out,decide_eq_true HO.out]
   have HJ:Hid (bits .or .u64 ((c:Int)*256) (f:Int)=((c*256+f:Nat):Int)):=by
    have h1:(c:Int)*256=((c*256:Nat):Int):=by omega
    rw [Hid,h1,bits_or_u64_nat _ _ (by omega) (by omega),nat_join 8 _ _ (by omega) (by omega)]
   have Ad:=au (ES 1 (c*256+f) (by decide) (by omega) w)
   have HE:Hid (1*72057594037927936+(c*256+f)=iQ c f):=by unfold Hid iQ;omega
   rw [HE.out,<- HJ.out] at Ad
   generalize 2^(c+1)=z at *
   generalize iQ c f=ow at *
   have d1:decide ((z:Int) - 1<(f:Int))=false:=decide_eq_false (by omega)
   clear hS HO uS HE hc
   have hc4:(c:Int)<4:=by omega
   go_enter func162,ntmps162
   go_wp2_with (first|(go_at_call 198;refine HI.out.mono ?_;rintro e w1 ⟨rfl,rfl⟩)|(go_at_call 158;refine HR.out.mono ?_;rintro e w1 ⟨rfl,rfl⟩)|(go_at_call 205;refine Ad.out.mono ?_;rintro e w1 ⟨rfl,rfl⟩))
   go_ret2
   exact ⟨rfl,rfl⟩
  ·have HO:Hid (¬ jh c f):=fun h=>uS h.2
   rw [if_neg HO.out,decide_eq_false HO.out]
   generalize 2^(c+1)=z at *
   have d1:decide ((z:Int) - 1<(f:Int))=true:=decide_eq_true (by omega)
   clear hS HO uS h4 hc
   go_enter func162,ntmps162
   go_wp2_with (first|(go_at_call 198;refine HI.out.mono ?_;rintro e w1 ⟨rfl,rfl⟩)|(go_at_call 158;refine HR.out.mono ?_;rintro e w1 ⟨rfl,rfl⟩))
   go_ret2
   exact ⟨rfl,rfl⟩
 ·rw [decide_eq_false (by omega)] at HI
  have HO:Hid (¬ jh c f):=fun h=>h4 h.1
  rw [if_neg HO.out,decide_eq_false HO.out]
  clear hS HO h4 hc HR
  go_enter func162,ntmps162
  go_wp2_with (go_at_call 198;refine HI.out.mono ?_;rintro e w1 ⟨rfl,rfl⟩)
  go_ret2
  exact ⟨rfl,rfl⟩
theorem yZ (a:Nat) (ha:a<72057594037927936) (w:World):Calls ay 239 #[ah (a:Int)] w fun e w'=>e = .returned (.tuple #[.int .u64 ((if a<=1048576 then dM a else 0:Nat):Int),.bool (decide (a<=1048576))])/\w=w':=by
 by_cases h:a<=1048576
 ·rw [if_pos h,decide_eq_true h]
  have Ad:=au (ES 2 a (by decide) ha w)
  have HE:Hid (2*72057594037927936+a=dM a):=by unfold Hid dM;omega
  rw [HE.out] at Ad
  have d1:decide (1048576<(a:Int))=false:=decide_eq_false (by omega)
  generalize dM a=lw at *
  clear HE
  go_enter func239,ntmps239
  go_wp2_with (go_at_call 205;refine Ad.out.mono ?_;rintro e w1 ⟨rfl,rfl⟩)
  go_ret2
  exact ⟨rfl,rfl⟩
 ·rw [if_neg h,decide_eq_false h]
  have d1:decide (1048576<(a:Int))=true:=decide_eq_true (by omega)
  clear h
  go_enter func239,ntmps239
  go_wp2_with fail
  go_ret2
  exact ⟨rfl,rfl⟩
theorem pX {c f:Nat} (h:jh c f):c<4/\f<16/\iQ c f<144115188075855872/\iQ c f/72057594037927936=1/\iQ c f/256%256=c/\iQ c f%256=f:=by
 have hc:=h.1
 have h2:2^(c+1)<=16:=by
  obtain rfl|rfl|rfl|rfl:c=0\/c=1\/c=2\/c=3:=by omega
  all_goals decide
 have hf:f<16:=by have:=h.2;omega
 unfold iQ
 refine ⟨hc,hf,by omega,by omega,by omega,by omega⟩
theorem qE {a:Nat} (h:a<=1048576):dM a<216172782113783808/\dM a/72057594037927936=2/\dM a%72057594037927936=a:=by
 unfold dM
 refine ⟨by omega,by omega,by omega⟩
theorem uj (x k:Nat) (hx:x/72057594037927936=k):(x:Int)/72057594037927936=(k:Int):=by
 have h1:((x:Int)/72057594037927936)=((x/72057594037927936:Nat):Int):=by omega
 rw [h1,hx]
theorem QK (c f:Nat) (h:jh c f) (w:World) (hS:Sizes w):Calls ay 233 #[.int .u64 (iQ c f:Int)] w fun e w'=>e = .returned (ah 1)/\w=w':=by
 obtain ⟨hc,hf,hx,h1,h2,h3⟩:=pX h
 have HP:=au (yj (iQ c f) (by omega) w)
 rw [h2,h3] at HP
 have HO:=au (wz c f (by omega) (by omega) w hS)
 rw [if_pos h,decide_eq_true h] at HO
 have hk:=uj (iQ c f) 1 h1
 generalize iQ c f=x at *
 clear h h1 h2 h3 hS
 go_enter func233,ntmps233
 go_wp2_with (first|(go_at_call 234;refine HP.out.mono ?_;rintro e w1 ⟨rfl,rfl⟩)|(go_at_call 162;refine HO.out.mono ?_;rintro e w1 ⟨rfl,rfl⟩))
 go_ret
 exact ⟨rfl,rfl⟩
theorem OB (a:Nat) (h:a<=1048576) (w:World):Calls ay 233 #[.int .u64 (dM a:Int)] w fun e w'=>e = .returned (ah 2)/\w=w':=by
 obtain ⟨hx,h1,h2⟩:=qE h
 have HA:=au (uN (dM a) (by omega) w)
 rw [h2] at HA
 have HL:=au (yZ a (by omega) w)
 rw [if_pos h,decide_eq_true h] at HL
 have hk:=uj (dM a) 2 h1
 generalize dM a=x at *
 clear h1 h2
 go_enter func233,ntmps233
 go_wp2_with (first|(go_at_call 235;refine HA.out.mono ?_;rintro e w1 ⟨rfl,rfl⟩)|(go_at_call 239;refine HL.out.mono ?_;rintro e w1 ⟨rfl,rfl⟩))
 go_ret
 exact ⟨rfl,rfl⟩
theorem OC (c f:Nat) (h:jh c f) (w:World) (hS:Sizes w):Calls ay 192 #[.int .u64 (iQ c f:Int)] w fun e w'=>e = .returned (.tuple #[ah (c:Int),ah (f:Int),.bool true])/\w=w':=by
 have HK:=au (QK c f h w hS)
 obtain ⟨hc,hf,hx,h1,h2,h3⟩:=pX h
 have HP:=au (yj (iQ c f) (by omega) w)
 rw [h2,h3] at HP
 generalize iQ c f=x at *
 clear h h1 h2 h3 hS
 go_enter func192,ntmps192
 go_wp2_with (first|(go_at_call 234;refine HP.out.mono ?_;rintro e w1 ⟨rfl,rfl⟩)|(go_at_call 233;refine HK.out.mono ?_;rintro e w1 ⟨rfl,rfl⟩))
 go_ret3
 exact ⟨rfl,rfl⟩
theorem OD (a:Nat) (h:a<=1048576) (w:World):Calls ay 199 #[.int .u64 (dM a:Int)] w fun e w'=>e = .returned (.tuple #[ah (a:Int),.bool true])/\w=w':=by
 have HK:=au (OB a h w)
 obtain ⟨hx,h1,h2⟩:=qE h
 have HA:=au (uN (dM a) (by omega) w)
 rw [h2] at HA
 generalize dM a=x at *
 clear h1 h2
 go_enter func199,ntmps199
 go_wp2_with (first|(go_at_call 235;refine HA.out.mono ?_;rintro e w1 ⟨rfl,rfl⟩)|(go_at_call 233;refine HK.out.mono ?_;rintro e w1 ⟨rfl,rfl⟩))
 go_ret2
 exact ⟨rfl,rfl⟩
def yH (x:Nat):Option (Nat × Nat):=if jh (x/256%256) (x%256)/\iQ (x/256%256) (x%256)=x then some (x/256%256,x%256) else none
theorem PL {c f:Nat} (h:jh c f):yH (iQ c f)=some (c,f):=by
 obtain ⟨_,_,_,_,h2,h3⟩:=pX h
 unfold yH
 rw [h2,h3,if_pos ⟨h,rfl⟩]
theorem zf {x c f:Nat} (h:yH x=some (c,f)):jh c f/\x=iQ c f:=by
 unfold yH at h
 split at h
 ·rename_i h1
  simp only [Option.some.injEq,Prod.mk.injEq] at h
  obtain ⟨rfl,rfl⟩:=h
  exact ⟨h1.1,h1.2.symm⟩
 ·cases h
theorem aaG {x:Nat} (h:yH x=none) (ho:jh (x/256%256) (x%256)):iQ (x/256%256) (x%256)≠x:=fun e=>by
 unfold yH at h
 rw [if_pos ⟨ho,e⟩] at h
 cases h
def qJ (x:Nat):Nat:=if x%72057594037927936<=1048576/\dM (x%72057594037927936)=x then 2 else 0
theorem int_ne {a b:Nat} (h:a≠b):((a:Int)==(b:Int))=false:=by
 simp;omega
theorem int_eq {a b:Nat} (h:a=b):((a:Int)==(b:Int))=true:=by
 simp;omega
theorem OE (x:Nat) (hx:x<216172782113783808) (h:yH x=none) (w:World) (hS:Sizes w):Calls ay 233 #[.int .u64 (x:Int)] w fun e w'=>e = .returned (ah (qJ x:Int))/\w=w':=by
 have HP:=au (yj x (by omega) w)
 have HO:=au (wz (x/256%256) (x%256) (by omega) (by omega) w hS)
 have HA:=au (uN x (by omega) w)
 have HL:=au (yZ (x%72057594037927936) (by omega) w)
 have hno:=aaG h
 have uT:Hid (qJ x=if x%72057594037927936<=1048576/\dM (x%72057594037927936)=x then 2 else 0):=rfl
 have hkk:x/72057594037927936=1\/x/72057594037927936=2\/x/72057594037927936=0:=by omega
 have zh:x/72057594037927936≠2->∀ a,dM a≠x\/72057594037927936<=a:=fun hk a=>by
  rcases Nat.lt_or_ge a 72057594037927936 with h1|h1
  ·left;intro e;unfold dM at e;omega
  ·right;exact h1
 have hz:x/72057594037927936=0->qJ x=0:=fun hk=>by
  rw [uT.out,if_neg]
  rintro ⟨_,h2⟩
  unfold dM at h2;omega
 have h1':x/72057594037927936=1->qJ x=0:=fun hk=>by
  rw [uT.out,if_neg]
  rintro ⟨_,h2⟩
  unfold dM at h2;omega
 rcases hkk with hk|hk|hk
 ·have hke:=uj x 1 hk
  rw [h1' hk]
  have kP:Hid (x%72057594037927936<=1048576->((dM (x%72057594037927936):Int)==(x:Int))=false):=fun _=>int_ne (fun e=>by unfold dM at e;omega)
  by_cases ho:jh (x/256%256) (x%256)
  ·have hne:=int_ne (hno ho)
   rw [if_pos ho,decide_eq_true ho] at HO
   by_cases hl:x%72057594037927936<=1048576
   ·have hln:=kP.out hl
    rw [if_pos hl,decide_eq_true hl] at HL
    generalize x/256%256=c at *
    generalize x%256=f at *
    generalize x%72057594037927936=a at *
    generalize iQ c f=ow at *
    generalize dM a=lw at *
    clear h hno ho hl hz h1' zh hk uT kP hS
    go_enter func233,ntmps233
    go_wp2_with (first|(go_at_call 234;refine HP.out.mono ?_;rintro e w1 ⟨rfl,rfl⟩)|(go_at_call 162;refine HO.out.mono ?_;rintro e w1 ⟨rfl,rfl⟩)|(go_at_call 235;refine HA.out.mono ?_;rintro e w1 ⟨rfl,rfl⟩)|(go_at_call 239;refine HL.out.mono ?_;rintro e w1 ⟨rfl,rfl⟩))
    go_ret
    exact ⟨rfl,rfl⟩
   ·rw [if_neg hl,decide_eq_false hl] at HL
    generalize x/256%256=c at *
    generalize x%256=f at *
    generalize x%72057594037927936=a at *
    generalize iQ c f=ow at *
    clear h hno ho hl hz h1' zh hk uT kP hS
    go_enter func233,ntmps233
    go_wp2_with (first|(go_at_call 234;refine HP.out.mono ?_;rintro e w1 ⟨rfl,rfl⟩)|(go_at_call 162;refine HO.out.mono ?_;rintro e w1 ⟨rfl,rfl⟩)|(go_at_call 235;refine HA.out.mono ?_;rintro e w1 ⟨rfl,rfl⟩)|(go_at_call 239;refine HL.out.mono ?_;rintro e w1 ⟨rfl,rfl⟩))
    go_ret
    exact ⟨rfl,rfl⟩
  ·rw [if_neg ho,decide_eq_false ho] at HO
   by_cases hl:x%72057594037927936<=1048576
   ·have hln:=kP.out hl
    rw [if_pos hl,decide_eq_true hl] at HL
    generalize x/256%256=c at *
    generalize x%256=f at *
    generalize x%72057594037927936=a at *
    generalize dM a=lw at *
    clear h hno ho hl hz h1' zh hk uT kP hS
    go_enter func233,ntmps233
    go_wp2_with (first|(go_at_call 234;refine HP.out.mono ?_;rintro e w1 ⟨rfl,rfl⟩)|(go_at_call 162;refine HO.out.mono ?_;rintro e w1 ⟨rfl,rfl⟩)|(go_at_call 235;refine HA.out.mono ?_;rintro e w1 ⟨rfl,rfl⟩)|(go_at_call 239;refine HL.out.mono ?_;rintro e w1 ⟨rfl,rfl⟩))
    go_ret
    exact ⟨rfl,rfl⟩
   ·rw [if_neg hl,decide_eq_false hl] at HL
    generalize x/256%256=c at *
    generalize x%256=f at *
    generalize x%72057594037927936=a at *
    clear h hno ho hl hz h1' zh hk uT kP hS
    go_enter func233,ntmps233
    go_wp2_with (first|(go_at_call 234;refine HP.out.mono ?_;rintro e w1 ⟨rfl,rfl⟩)|(go_at_call 162;refine HO.out.mono ?_;rintro e w1 ⟨rfl,rfl⟩)|(go_at_call 235;refine HA.out.mono ?_;rintro e w1 ⟨rfl,rfl⟩)|(go_at_call 239;refine HL.out.mono ?_;rintro e w1 ⟨rfl,rfl⟩))
    go_ret
    exact ⟨rfl,rfl⟩
 ·have hke:=uj x 2 hk
  by_cases hl:x%72057594037927936<=1048576
  ·rw [if_pos hl,decide_eq_true hl] at HL
   have hq:dM (x%72057594037927936)=x:=by unfold dM;omega
   have HR:Hid (qJ x=2):=by unfold Hid;rw [uT.out,if_pos ⟨hl,hq⟩]
   have hqe:=int_eq hq
   rw [HR.out]
   generalize x%72057594037927936=a at *
   generalize dM a=lw at *
   clear h hno hl hz h1' zh hk uT hS HO HP hq HR
   go_enter func233,ntmps233
   go_wp2_with (first|(go_at_call 235;refine HA.out.mono ?_;rintro e w1 ⟨rfl,rfl⟩)|(go_at_call 239;refine HL.out.mono ?_;rintro e w1 ⟨rfl,rfl⟩))
   go_ret
   exact ⟨rfl,rfl⟩
  ·rw [if_neg hl,decide_eq_false hl] at HL
   have HR:Hid (qJ x=0):=by unfold Hid;rw [uT.out,if_neg (fun e=>hl e.1)]
   rw [HR.out]
   generalize x%72057594037927936=a at *
   clear h hno hl hz h1' zh hk uT hS HO HP HR
   go_enter func233,ntmps233
   go_wp2_with (first|(go_at_call 235;refine HA.out.mono ?_;rintro e w1 ⟨rfl,rfl⟩)|(go_at_call 239;refine HL.out.mono ?_;rintro e w1 ⟨rfl,rfl⟩))
   go_ret
   exact ⟨rfl,rfl⟩
 ·have hke:=uj x 0 hk
  rw [hz hk]
  clear h hno hz h1' zh hk uT hS HO HP HA HL
  go_enter func233,ntmps233
  go_wp2_with fail
  go_ret
  exact ⟨rfl,rfl⟩
theorem Kz (x:Nat) (hx:x<216172782113783808) (h:yH x=none) (w:World) (hS:Sizes w):Calls ay 192 #[.int .u64 (x:Int)] w fun e w'=>e = .returned (.tuple #[ah 0,ah 0,.bool false])/\w=w':=by
 have HK:=au (OE x hx h w hS)
 have hne:((qJ x:Int)==1)=false:=by
  have:qJ x=2\/qJ x=0:=by unfold qJ;split<;>simp
  rcases this with e|e<;>rw [e]<;>rfl
 have hne2:((qJ x:Int) != 1)=true:=by simp only [bne,hne];rfl
 generalize qJ x=kk at *
 clear h
 go_enter func192,ntmps192
 go_wp2_with (go_at_call 233;refine HK.out.mono ?_;rintro e w1 ⟨rfl,rfl⟩)
 go_ret3
 exact ⟨rfl,rfl⟩
end
section
theorem Ar {W:List Nat} {i:Nat} (h:i<W.length) (x:Nat):(W.set i x).getD i 0=x:=by
 rw [List.getD_eq_getElem?_getD,List.getElem?_set_self h];rfl
theorem yI {W:List Nat} {i j:Nat} (h:i≠j) (x:Nat):(W.set i x).getD j 0=W.getD j 0:=by
 rw [List.getD_eq_getElem?_getD,List.getElem?_set_ne h,<- List.getD_eq_getElem?_getD]
structure HS where
 c:aK
 b:Nat
 ww:Nat
 A:List Nat
 K:List Nat
 fr:List (List Nat)
 bn:Nat->Bool
 co:Nat->Bool
 cells:List Nat
def HS.n (H:HS):Nat:=H.b*H.ww
def HS.sz (H:HS):Nat:=H.b*H.ww+1
def HS.row (H:HS) (k:Nat):List Nat:=H.fr.getD k []
def HS.inn (H:HS) (a:Nat):Bool:=H.fr.any fun l=>l.contains a
def HS.F (H:HS):List Nat:=H.fr.map fun l=>l.headD 0
def lJ (b ww:Nat) (K:List Nat) (a:Nat):Option (Nat × Nat) :=
 if 1<=a/\a<=b*ww/\K.getD ((a - 1)/ww) 0≠0/\(a - 1)%ww%2^K.getD ((a - 1)/ww) 0=0/\(a - 1)%ww/2^K.getD ((a - 1)/ww) 0<ww/2^K.getD ((a - 1)/ww) 0
 then some ((a - 1)/ww,K.getD ((a - 1)/ww) 0 - 1) else none
def HS.owner (H:HS) (a:Nat):Option (Nat × Nat):=lJ H.b H.ww H.K a
def pY (A:List Nat) (a:Nat):Nat:=if 1<=a then A.getD (a - 1) 0 else 0
def HS.word (H:HS) (a:Nat):Nat:=pY H.A a
def HS.hdr (H:HS) (a:Nat):Option Nat:=(yH (H.word a)).map (·.2)
def HS.hand (H:HS) (a:Nat):Bool:=(H.owner a).isSome && !H.bn a && !H.inn a
def HS.xB (H:HS) (a:Nat):Bool:=H.bn a||(H.hand a&&(H.hdr a).isSome)
def HS.nf (H:HS) (a:Nat):Nat:=(H.hdr a).getD 0
def HS.lq (H:HS) (a:Nat):Nat:=if a=0 then 6 else if H.xB a then 0 else 1
def upd (s:Nat->Bool) (a:Nat) (v:Bool):Nat->Bool:=fun x=>if x=a then v else s x
def Linked (wd:Nat->Nat):List Nat->Prop
 | []=>True
 | a::l=>wd a=dM (l.headD 0)/\Linked wd l
theorem Linked.congr {wd wd':Nat->Nat}:∀ {l:List Nat},Linked wd l->(∀ a∈l,wd' a=wd a)->Linked wd' l
 | [],_,_=>trivial
 | a::l,h,e=>⟨(e a (by simp)).trans h.1,Linked.congr h.2 (fun x hx=>e x (by simp [hx]))⟩
theorem dV {b ww:Nat} {K:List Nat} {a B k:Nat} (h:lJ b ww K a=some (B,k)) :
 1<=a/\a<=b*ww/\B=(a - 1)/ww/\K.getD B 0=k+1/\(a - 1)%ww%2^(k+1)=0/\(a - 1)%ww/2^(k+1)<ww/2^(k+1):=by
 unfold lJ at h
 split at h
 ·rename_i hc
  simp only [Option.some.injEq,Prod.mk.injEq] at h
  obtain ⟨rfl,rfl⟩:=h
  have e:K.getD ((a - 1)/ww) 0 - 1+1=K.getD ((a - 1)/ww) 0:=by omega
  rw [e]
  exact ⟨hc.1,hc.2.1,rfl,rfl,hc.2.2.2.1,hc.2.2.2.2⟩
 ·cases h
theorem D6 {b ww:Nat} {K:List Nat} {a B k:Nat} (h1:1<=a) (h2:a<=b*ww) (hB:B=(a - 1)/ww) (hK:K.getD B 0=k+1) (h3:(a - 1)%ww%2^(k+1)=0) (h4:(a - 1)%ww/2^(k+1)<ww/2^(k+1)):lJ b ww K a=some (B,k):=by
 subst hB
 unfold lJ
 rw [hK,if_pos ⟨h1,h2,by omega,h3,h4⟩]
 simp
theorem Uf {b ww:Nat} {K:List Nat} {a B0:Nat} (k:Nat) (h0:K.getD B0 0=0) {B q:Nat} (h:lJ b ww K a=some (B,q)):lJ b ww (K.set B0 (k+1)) a=some (B,q):=by
 obtain ⟨h1,h2,h3,h4,h5,h6⟩:=dV h
 have hne:B0≠B:=fun e=>by rw [e,h4] at h0;omega
 refine D6 h1 h2 h3 ?_ h5 h6
 rw [yI hne];exact h4
theorem OG {b ww:Nat} {K:List Nat} {a B0 k B q:Nat} (h:lJ b ww (K.set B0 (k+1)) a=some (B,q)) (hB:B≠B0):lJ b ww K a=some (B,q):=by
 obtain ⟨h1,h2,h3,h4,h5,h6⟩:=dV h
 rw [yI (Ne.symm hB)] at h4
 exact D6 h1 h2 h3 h4 h5 h6
theorem OH {b ww:Nat} {K:List Nat} {a B k:Nat} (h:lJ b ww K a=some (B,k)) (j:Nat) (h1:1<=j) (h2:j<2^(k+1)):lJ b ww K (a+j)=none/\a+j<=b*ww/\K.getD ((a+j - 1)/ww) 0≠0:=by
 obtain ⟨g1,g2,g3,g4,g5,g6⟩:=dV h
 have hz:0<2^(k+1):=Nat.two_pow_pos _
 generalize hz2:2^(k+1)=z at *
 have hw:0<ww:=by
  rcases Nat.eq_zero_or_pos ww with e|e
  ·subst e;simp at g6
  ·exact e
 have hm:=Nat.div_add_mod ((a - 1)%ww) z
 have hm2:=Nat.div_add_mod (a - 1) ww
 have hwz:=Nat.div_mul_le_self ww z
 have hs:((a - 1)%ww/z+1)*z<=ww/z*z:=Nat.mul_le_mul_right _ g6
 have hs2:((a - 1)%ww/z+1)*z=(a - 1)%ww/z*z+z:=by rw [Nat.add_mul,Nat.one_mul]
 have hs3:z*((a - 1)%ww/z)=(a - 1)%ww/z*z:=Nat.mul_comm _ _
 have hlt:(a - 1)%ww+j<ww:=by omega
 have e1:(a+j - 1)/ww=(a - 1)/ww:=by
  rw [show a+j - 1=(a - 1)%ww+j+ww*((a - 1)/ww) by omega,Nat.add_mul_div_left _ _ hw,Nat.div_eq_of_lt hlt,Nat.zero_add]
 have e2:(a+j - 1)%ww=(a - 1)%ww+j:=by
  rw [show a+j - 1=(a - 1)%ww+j+ww*((a - 1)/ww) by omega,Nat.add_mul_mod_self_left,Nat.mod_eq_of_lt hlt]
 have e3:((a - 1)%ww+j)%z=j:=by
  have:(a - 1)%ww=z*((a - 1)%ww/z):=by omega
  rw [this,Nat.mul_add_mod,Nat.mod_eq_of_lt h2]
 refine ⟨?_,?_,?_⟩
 ·unfold lJ
  rw [e1,e2,<- g3,g4,hz2,e3]
  rw [if_neg (by omega)]
 rotate_left
 ·rw [e1,<- g3,g4];omega
 ·have hB:(a - 1)/ww<b:=by
   rw [Nat.div_lt_iff_lt_mul hw];omega
  have h9:((a - 1)/ww+1)*ww<=b*ww:=Nat.mul_le_mul_right _ hB
  have h8:((a - 1)/ww+1)*ww=(a - 1)/ww*ww+ww:=by rw [Nat.add_mul,Nat.one_mul]
  have h7:ww*((a - 1)/ww)=(a - 1)/ww*ww:=Nat.mul_comm _ _
  omega
theorem zi {A:List Nat} {a:Nat} (h1:1<=a) (h2:a<=A.length) (x y:Nat):pY (A.set (a - 1) x) y=if y=a then x else pY A y:=by
 unfold pY
 by_cases hy:y=a
 ·subst hy
  rw [if_pos h1,if_pos rfl,Ar (by omega)]
 ·rw [if_neg hy]
  by_cases h0:1<=y
  ·rw [if_pos h0,if_pos h0,yI (by omega)]
  ·rw [if_neg h0,if_neg h0]
theorem ZG {A:List Nat} {N:Nat} (h:∀ x∈A,x<N) (h0:0<N) (a:Nat):pY A a<N:=by
 unfold pY
 split
 ·rcases Nat.lt_or_ge (a - 1) A.length with h1|h1
  ·rw [List.getD_eq_getElem?_getD,List.getElem?_eq_getElem h1]
   exact h _ (List.getElem_mem h1)
  ·rw [List.getD_eq_getElem?_getD,List.getElem?_eq_none h1];exact h0
 ·exact h0
def mG:Nat:=216172782113783808
structure bZ (H:HS):Prop where
 nI:H.A.length=H.b*H.ww
 nle:H.b*H.ww<=1048576
 k4:∀ x∈H.K,x<=4
 small:∀ x∈H.A,x<mG
 lu:H.fr.length=4
 chain:∀ k,k<4->Linked H.word (H.row k)
 nodup:∀ k,k<4->(H.row k).Nodup
 lW:∀ k,k<4->∀ a∈H.row k,H.bn a=false/\∃ B,H.owner a=some (B,k)
 born:∀ a,H.bn a=true->∃ B k f,H.owner a=some (B,k)/\jh k f/\H.word a=iQ k f
 slot:∀ a B k,H.owner a=some (B,k)->H.word a=0\/(∃ x,x<=1048576/\H.word a=dM x)\/∃ f,jh k f/\H.word a=iQ k f
 cval:∀ x∈H.cells,x<=H.b*H.ww
 zero:∀ a,1<=a->a<=H.b*H.ww->H.K.getD ((a - 1)/H.ww) 0=0->H.word a=0
section
variable {H:HS}
theorem bZ.cls (h:bZ H) {a B k:Nat} (ho:H.owner a=some (B,k)):k<4:=by
 obtain ⟨_,_,_,h4,_⟩:=dV ho
 have:H.K.getD B 0<=4:=by
  rcases Nat.lt_or_ge B H.K.length with h1|h1
  ·rw [List.getD_eq_getElem?_getD,List.getElem?_eq_getElem h1]
   exact h.k4 _ (List.getElem_mem h1)
  ·rw [List.getD_eq_getElem?_getD,List.getElem?_eq_none h1];exact Nat.zero_le _
 omega
theorem PN {a B k:Nat} (ho:H.owner a=some (B,k)):H.K.getD ((a - 1)/H.ww) 0≠0:=by
 obtain ⟨_,_,h3,h4,_⟩:=dV ho
 rw [<- h3,h4];omega
theorem HS.KA (H:HS) {k:Nat} (hl:H.fr.length=4) (hk:k<4):H.row k=H.fr[k]'(by omega):=by
 unfold HS.row
 rw [List.getD_eq_getElem?_getD,List.getElem?_eq_getElem (by omega)];rfl
theorem bZ.inn (h:bZ H) {a:Nat}:H.inn a=true↔∃ k,k<4/\a∈H.row k:=by
 have hl:=h.lu
 unfold HS.inn
 rw [List.any_eq_true]
 constructor
 ·rintro ⟨l,hl1,hl2⟩
  obtain ⟨k,hk,rfl⟩:=List.mem_iff_getElem.1 hl1
  exact ⟨k,by omega,by rw [H.KA hl (by omega)];simpa using hl2⟩
 ·rintro ⟨k,hk,hm⟩
  rw [H.KA hl hk] at hm
  exact ⟨_,List.getElem_mem _,by simpa using hm⟩
theorem bZ.Au (h:bZ H) {a:Nat} (ha:H.inn a=false) {k:Nat} (hk:k<4):a∉H.row k:=fun hm=>by
 have:=h.inn.2 ⟨k,hk,hm⟩
 rw [ha] at this;cases this
theorem HS.aaH (H:HS) (hl:H.fr.length=4) {k:Nat} (hk:k<4):H.F.getD k 0=(H.row k).headD 0:=by
 unfold HS.F
 rw [List.getD_eq_getElem?_getD,List.getElem?_map,List.getElem?_eq_getElem (by omega),H.KA hl hk];rfl
theorem bZ.wlt (h:bZ H) (a:Nat):H.word a<mG:=ZG h.small (by decide) a
theorem yJ {H H':HS} {k:Nat} {l:List Nat} (hf:H'.fr=H.fr.set k l) (hl:H.fr.length=4) (hk:k<4) (q:Nat):H'.row q=if q=k then l else H.row q:=by
 unfold HS.row
 rw [hf,List.getD_eq_getElem?_getD]
 by_cases e:q=k
 ·subst e;rw [if_pos rfl,List.getElem?_set_self (by omega)];rfl
 ·rw [if_neg e,List.getElem?_set_ne (Ne.symm e),<- List.getD_eq_getElem?_getD]
def HS.put (H:HS) (a k:Nat):HS:={ H with A:=H.A.set (a - 1) (dM ((H.row k).headD 0)),fr:=H.fr.set k (a::H.row k) }
def HS.take (H:HS) (k:Nat):HS:={ H with fr:=H.fr.set k (H.row k).tail }
def HS.assign (H:HS) (B k:Nat):HS:={ H with K:=H.K.set B (k+1) }
def HS.begin (H:HS) (a k f:Nat):HS:={ H with A:=H.A.set (a - 1) (iQ k f) }
def HS.bear (H:HS) (a:Nat) (c:Bool):HS:={ H with bn:=upd H.bn a true,co:=upd H.co a c }
def HS.kill (H:HS) (a:Nat):HS:={ H with bn:=upd H.bn a false }
def HS.lay (H:HS) (x v:Nat):HS:={ H with A:=H.A.set (x - 1) v }
def HS.eu (H:HS) (a:Nat) (c:Bool):HS:={ H with co:=upd H.co a c }
def HS.setCell (H:HS) (i v:Nat):HS:={ H with cells:=H.cells.set i v }
theorem QL {x:Nat} (h:x<=1048576):dM x<mG:=(qE h).1
theorem bZ.PS (h:bZ H) {k:Nat} (hk:k<4):(H.row k).headD 0<=1048576:=by
 cases hr:H.row k with
 | nil=>exact Nat.zero_le _
 | cons a l =>
   obtain ⟨_,B,ho⟩:=h.lW k hk a (by rw [hr];simp)
   have:=(dV ho).2.1
   have:=h.nle
   simp;omega
theorem bZ.put (h:bZ H) {a B k:Nat} (ho:H.owner a=some (B,k)) (hb:H.bn a=false) (hi:H.inn a=false):bZ (H.put a k):=by
 have hk:=h.cls ho
 obtain ⟨o1,o2,_⟩:=dV ho
 have hal:a<=H.A.length:=by have:=h.nI;omega
 have hw:∀ y,(H.put a k).word y=if y=a then dM ((H.row k).headD 0) else H.word y:=fun y=>zi o1 hal _ y
 have hrow:=yJ (H:=H) (H':=H.put a k) rfl h.lu hk
 have hhd:=h.PS hk
 refine ⟨by simpa [HS.put] using h.nI,h.nle,h.k4,?_,by simpa [HS.put] using h.lu,?_,?_,?_,?_,?_,h.cval,fun y y1 y2 y3=>by rw [hw,if_neg (fun e:y=a=>PN ho (by rw [<- e];exact y3))];exact h.zero y y1 y2 y3⟩
 ·intro x hx
  rcases List.mem_or_eq_of_mem_set hx with h1|rfl
  ·exact h.small x h1
  ·exact QL hhd
 ·intro q hq
  rw [hrow q]
  have hc:∀ l:List Nat,a∉l->Linked H.word l->Linked (H.put a k).word l:=fun l hl hL=>hL.congr fun x hx=>by rw [hw,if_neg (fun e:x=a=>hl (by rw [<- e];exact hx))]
  split
  ·rename_i e;subst e
   exact ⟨by rw [hw,if_pos rfl],hc _ (h.Au hi hq) (h.chain q hq)⟩
  ·exact hc _ (h.Au hi hq) (h.chain q hq)
 ·intro q hq
  rw [hrow q]
  split
  ·rename_i e;subst e
   exact List.nodup_cons.2 ⟨h.Au hi hq,h.nodup q hq⟩
  ·exact h.nodup q hq
 ·intro q hq x hx
  rw [hrow q] at hx
  split at hx
  ·rename_i e;subst e
   rcases List.mem_cons.1 hx with rfl|hx
   ·exact ⟨hb,B,ho⟩
   ·exact h.lW q hq x hx
  ·exact h.lW q hq x hx
 ·intro x hx
  obtain ⟨B',k',f,h1,h2,h3⟩:=h.born x hx
  refine ⟨B',k',f,h1,h2,?_⟩
  rw [hw,if_neg (fun e=>?_)]
  ·exact h3
  ·subst e
   rw [show (H.put x k).bn x=H.bn x from rfl,hb] at hx
   cases hx
 ·intro x B' k' hx
  rw [hw]
  split
  ·exact .inr (.inl ⟨_,hhd,rfl⟩)
  ·exact h.slot x B' k' hx
theorem bZ.take (h:bZ H) {k:Nat} (hk:k<4):bZ (H.take k):=by
 have hrow:=yJ (H:=H) (H':=H.take k) rfl h.lu hk
 refine ⟨h.nI,h.nle,h.k4,h.small,by simpa [HS.take] using h.lu,?_,?_,?_,h.born,h.slot,h.cval,h.zero⟩
 ·intro q hq
  rw [hrow q]
  split
  ·have:=h.chain k hk
   revert this
   cases H.row k with
   | nil=>exact fun _=>trivial
   | cons a l=>exact fun h=>h.2
  ·exact h.chain q hq
 ·intro q hq
  rw [hrow q]
  split
  ·have:=h.nodup k hk
   revert this
   cases H.row k with
   | nil=>exact fun h=>h
   | cons a l=>exact fun h=>(List.nodup_cons.1 h).2
  ·exact h.nodup q hq
 ·intro q hq x hx
  rw [hrow q] at hx
  split at hx
  ·rename_i e;subst e
   exact h.lW q hq x (List.mem_of_mem_tail hx)
  ·exact h.lW q hq x hx
theorem bZ.taken (h:bZ H) {k a:Nat} {l:List Nat} (hk:k<4) (hr:H.row k=a::l):H.word a=dM (l.headD 0)/\(∃ B,H.owner a=some (B,k))/\H.bn a=false/\H.inn a=true/\l.headD 0<=1048576:=by
 have hc:=h.chain k hk
 have ho:=h.lW k hk a (by rw [hr];simp)
 have hi:=h.inn.2 ⟨k,hk,show a∈H.row k by rw [hr];simp⟩
 refine ⟨by rw [hr] at hc;exact hc.1,ho.2,ho.1,hi,?_⟩
 have:=(h.take hk).PS hk
 rw [yJ (H:=H) (H':=H.take k) rfl h.lu hk,if_pos rfl,hr] at this
 exact this
theorem bZ.Xf (h:bZ H) {k a:Nat} {l:List Nat} (hk:k<4) (hr:H.row k=a::l) (x:Nat):(H.take k).inn x=if x=a then false else H.inn x:=by
 have hrow:=yJ (H:=H) (H':=H.take k) rfl h.lu hk
 have h':=h.take hk
 rw [Bool.eq_iff_iff,h'.inn]
 have hnd:=h.nodup k hk
 rw [hr] at hnd hrow
 split
 ·rename_i e;subst e
  simp only [Bool.false_eq_true,iff_false]
  rintro ⟨q,hq,hm⟩
  rw [hrow q] at hm
  split at hm
  ·exact (List.nodup_cons.1 hnd).1 hm
  ·rename_i hne
   have h1:=(h.lW q hq x hm).2
   have h2:=(h.lW k hk x (by rw [hr];simp)).2
   obtain ⟨B,h1⟩:=h1
   obtain ⟨B',h2⟩:=h2
   rw [h1] at h2
   simp at h2
   exact hne h2.2
 ·rename_i hne
  rw [h.inn]
  constructor
  ·rintro ⟨q,hq,hm⟩
   rw [hrow q] at hm
   split at hm
   ·rename_i e;subst e
    exact ⟨q,hq,by rw [hr];exact List.mem_cons_of_mem _ hm⟩
   ·exact ⟨q,hq,hm⟩
  ·rintro ⟨q,hq,hm⟩
   refine ⟨q,hq,?_⟩
   rw [hrow q]
   split
   ·rename_i e;subst e
    rw [hr] at hm
    rcases List.mem_cons.1 hm with e|hm
    ·exact absurd e hne
    ·exact hm
   ·exact hm
theorem bZ.ZH (h:bZ H) {a B k:Nat} (ho:H.owner a=some (B,k)) (hb:H.bn a=false) (hi:H.inn a=false) (x:Nat):(H.put a k).inn x=if x=a then true else H.inn x:=by
 have hk:=h.cls ho
 have hrow:=yJ (H:=H) (H':=H.put a k) rfl h.lu hk
 have h':=h.put ho hb hi
 rw [Bool.eq_iff_iff,h'.inn]
 split
 ·rename_i e;subst e
  simp only [iff_true]
  exact ⟨k,hk,by rw [hrow k,if_pos rfl];simp⟩
 ·rename_i hne
  rw [h.inn]
  constructor
  ·rintro ⟨q,hq,hm⟩
   rw [hrow q] at hm
   split at hm
   ·rename_i e;subst e
    rcases List.mem_cons.1 hm with e|hm
    ·exact absurd e hne
    ·exact ⟨q,hq,hm⟩
   ·exact ⟨q,hq,hm⟩
  ·rintro ⟨q,hq,hm⟩
   refine ⟨q,hq,?_⟩
   rw [hrow q]
   split
   ·rename_i e;subst e;exact List.mem_cons_of_mem _ hm
   ·exact hm
theorem bZ.assign (h:bZ H) {B k:Nat} (h0:H.K.getD B 0=0) (hk:k<4):bZ (H.assign B k):=by
 have hz:∀ a,1<=a->a<=H.b*H.ww->(a - 1)/H.ww=B->H.word a=0:=fun a h1 h2 h3=>h.zero a h1 h2 (by rw [h3];exact h0)
 have hown:∀ {x B' q},H.owner x=some (B',q)->(H.assign B k).owner x=some (B',q):=fun h=>Uf k h0 h
 refine ⟨h.nI,h.nle,?_,h.small,h.lu,h.chain,h.nodup,?_,?_,?_,h.cval,fun y y1 y2 y3=>h.zero y y1 y2 ?_⟩
 rotate_right
 ·by_cases e:B=(y - 1)/H.ww
  ·rw [<- e];exact h0
  ·have y3':(H.K.set B (k+1)).getD ((y - 1)/H.ww) 0=0:=y3
   rwa [yI e] at y3'
 ·intro x hx
  rcases List.mem_or_eq_of_mem_set hx with h1|rfl
  ·exact h.k4 x h1
  ·omega
 ·intro q hq x hx
  obtain ⟨h1,B',h2⟩:=h.lW q hq x hx
  exact ⟨h1,B',hown h2⟩
 ·intro x hx
  obtain ⟨B',k',f,h1,h2⟩:=h.born x hx
  exact ⟨B',k',f,hown h1,h2⟩
 ·intro x B' q hx
  by_cases e:B'=B
  ·obtain ⟨h1,h2,h3,_⟩:=dV hx
   exact .inl (hz x h1 h2 (h3.symm.trans e))
  ·exact h.slot x B' q (OG hx e)
theorem bZ.begin (h:bZ H) {a B k f:Nat} (ho:H.owner a=some (B,k)) (hb:H.bn a=false) (hi:H.inn a=false) (hf:jh k f):bZ (H.begin a k f):=by
 obtain ⟨o1,o2,_⟩:=dV ho
 have hal:a<=H.A.length:=by have:=h.nI;omega
 have hw:∀ y,(H.begin a k f).word y=if y=a then iQ k f else H.word y:=fun y=>zi o1 hal _ y
 have hox:=(pX hf).2.2.1
 refine ⟨by simpa [HS.begin] using h.nI,h.nle,h.k4,?_,h.lu,?_,h.nodup,h.lW,?_,?_,h.cval,fun y y1 y2 y3=>by rw [hw,if_neg (fun e:y=a=>PN ho (by rw [<- e];exact y3))];exact h.zero y y1 y2 y3⟩
 ·intro x hx
  rcases List.mem_or_eq_of_mem_set hx with h1|rfl
  ·exact h.small x h1
  ·unfold mG;omega
 ·intro q hq
  exact (h.chain q hq).congr fun x hx=>by rw [hw,if_neg (fun e:x=a=>h.Au hi hq (by rw [<- e];exact hx))]
 ·intro x hx
  obtain ⟨B',k',f',h1,h2,h3⟩:=h.born x hx
  refine ⟨B',k',f',h1,h2,?_⟩
  rw [hw,if_neg (fun e=>?_)]
  ·exact h3
  ·subst e
   rw [show (H.begin x k f).bn x=H.bn x from rfl,hb] at hx
   cases hx
 ·intro x B' k' hx
  rw [hw]
  split
  ·rename_i e;subst e
   rw [show (H.begin x k f).owner x=H.owner x from rfl,ho] at hx
   cases hx
   exact .inr (.inr ⟨f,hf,rfl⟩)
  ·exact h.slot x B' k' hx
theorem bZ.PU (h:bZ H) {a B k m:Nat} (ho:H.owner a=some (B,k)) (hm:H.hdr a=some m):jh k m/\H.word a=iQ k m:=by
 unfold HS.hdr at hm
 rcases h.slot a B k ho with h1|⟨x,hx,h1⟩|⟨f,hf,h1⟩
 ·rw [h1] at hm;cases hm
 ·rw [h1] at hm
  cases hp:yH (dM x) with
  | none=>rw [hp] at hm;cases hm
  | some cf =>
    obtain ⟨c,f⟩:=cf
    have h2:=zf hp
    have h3:=(pX h2.1).2.2.1
    have h4:=qE hx
    have:144115188075855872<=dM x:=by unfold dM;omega
    omega
 ·rw [h1,PL hf] at hm
  cases hm
  exact ⟨hf,h1⟩
theorem bZ.bear (h:bZ H) {a B k m:Nat} (c:Bool) (ho:H.owner a=some (B,k)) (hi:H.inn a=false) (hm:H.hdr a=some m):bZ (H.bear a c):=by
 refine ⟨h.nI,h.nle,h.k4,h.small,h.lu,h.chain,h.nodup,?_,?_,h.slot,h.cval,h.zero⟩
 ·intro q hq x hx
  obtain ⟨h1,h2⟩:=h.lW q hq x hx
  refine ⟨?_,h2⟩
  show upd H.bn a true x=false
  unfold upd
  rw [if_neg (fun e:x=a=>h.Au hi hq (by rw [<- e];exact hx))]
  exact h1
 ·intro x hx
  by_cases e:x=a
  ·subst e
   obtain ⟨h1,h2⟩:=h.PU ho hm
   exact ⟨B,k,m,ho,h1,h2⟩
  ·have hx':upd H.bn a true x=true:=hx
   unfold upd at hx'
   rw [if_neg e] at hx'
   exact h.born x hx'
theorem bZ.kill (h:bZ H) (a:Nat):bZ (H.kill a):=by
 refine ⟨h.nI,h.nle,h.k4,h.small,h.lu,h.chain,h.nodup,?_,?_,h.slot,h.cval,h.zero⟩
 ·intro q hq x hx
  obtain ⟨h1,h2⟩:=h.lW q hq x hx
  refine ⟨?_,h2⟩
  show upd H.bn a false x=false
  unfold upd
  split
  ·rfl
  ·exact h1
 ·intro x hx
  have hx':upd H.bn a false x=true:=hx
  unfold upd at hx'
  split at hx'
  ·cases hx'
  ·exact h.born x hx'
theorem bZ.eu (h:bZ H) (a:Nat) (c:Bool):bZ (H.eu a c):=⟨h.nI,h.nle,h.k4,h.small,h.lu,h.chain,h.nodup,h.lW,h.born,h.slot,h.cval,h.zero⟩
theorem bZ.setCell (h:bZ H) (i v:Nat) (hv:v<=H.b*H.ww):bZ (H.setCell i v):=by
 refine ⟨h.nI,h.nle,h.k4,h.small,h.lu,h.chain,h.nodup,h.lW,h.born,h.slot,?_,h.zero⟩
 intro x hx
 rcases List.mem_or_eq_of_mem_set hx with h1|rfl
 ·exact h.cval x h1
 ·exact hv
theorem bZ.obj (h:bZ H) {a:Nat} (ha:H.xB a=true):∃ B k m,H.owner a=some (B,k)/\jh k m/\H.word a=iQ k m/\H.hdr a=some m/\H.nf a=m:=by
 have key:∀ B k m,H.owner a=some (B,k)->jh k m->H.word a=iQ k m->∃ B k m,H.owner a=some (B,k)/\jh k m/\H.word a=iQ k m/\H.hdr a=some m/\H.nf a=m:=fun B k m h1 h2 h3=>by
  have h4:H.hdr a=some m:=by unfold HS.hdr;rw [h3,PL h2];rfl
  exact ⟨B,k,m,h1,h2,h3,h4,by unfold HS.nf;rw [h4];rfl⟩
 unfold HS.xB at ha
 rcases Bool.or_eq_true_iff.1 ha with hb|hh
 ·obtain ⟨B,k,f,h1,h2,h3⟩:=h.born a hb
  exact key B k f h1 h2 h3
 ·obtain ⟨h1,h2⟩:=Bool.and_eq_true_iff.1 hh
  unfold HS.hand at h1
  simp only [Bool.and_eq_true] at h1
  obtain ⟨⟨B,k⟩,ho⟩:=Option.isSome_iff_exists.1 h1.1.1
  obtain ⟨m,hm⟩:=Option.isSome_iff_exists.1 h2
  obtain ⟨h3,h4⟩:=h.PU ho hm
  exact key B k m ho h3 h4
theorem bZ.field (h:bZ H) {a f:Nat} (ha:H.xB a=true) (hf:f<H.nf a):H.owner (a+1+f)=none/\a+1+f<=H.b*H.ww/\1<=a/\H.K.getD ((a+1+f - 1)/H.ww) 0≠0:=by
 obtain ⟨B,k,m,ho,h2,_,_,h5⟩:=h.obj ha
 rw [h5] at hf
 have hk:=h2.2
 have:=OH ho (1+f) (by omega) (by omega)
 rw [<- Nat.add_assoc] at this
 exact ⟨this.1,this.2.1,(dV ho).1,this.2.2⟩
theorem bZ.lay (h:bZ H) {x v:Nat} (h1:1<=x) (h2:x<=H.b*H.ww) (hn:H.owner x=none) (hK:H.K.getD ((x - 1)/H.ww) 0≠0) (hv:v<mG):bZ (H.lay x v):=by
 have hal:x<=H.A.length:=by have:=h.nI;omega
 have hw:∀ y,(H.lay x v).word y=if y=x then v else H.word y:=fun y=>zi h1 hal _ y
 have hne:∀ {y B k},H.owner y=some (B,k)->y≠x:=fun ho e=>by subst e;rw [hn] at ho;cases ho
 refine ⟨by simpa [HS.lay] using h.nI,h.nle,h.k4,?_,h.lu,?_,h.nodup,h.lW,?_,?_,h.cval,fun y y1 y2 y3=>by rw [hw,if_neg (fun e:y=x=>hK (by rw [<- e];exact y3))];exact h.zero y y1 y2 y3⟩
 ·intro y hy
  rcases List.mem_or_eq_of_mem_set hy with g|rfl
  ·exact h.small y g
  ·exact hv
 ·intro q hq
  refine (h.chain q hq).congr fun y hy=>?_
  obtain ⟨_,B,ho⟩:=h.lW q hq y hy
  rw [hw,if_neg (hne ho)]
 ·intro y hy
  obtain ⟨B',k',f',g1,g2,g3⟩:=h.born y hy
  exact ⟨B',k',f',g1,g2,by rw [hw,if_neg (hne g1)];exact g3⟩
 ·intro y B k ho
  rw [hw,if_neg (hne ho)]
  exact h.slot y B k ho
end
end
end Go.Proofs.YtanfphjoebobaaaGreatDoor
