/- Parts of the iy. No conditions. -/
import Derived.Test.YtanfphjoebobaaaGreatDoorZzfa
import Derived.Deep.RegionHeld3
namespace Go.Proofs.YtanfphjoebobaaaGreatDoor
open _root_.Bool renaming eq_iff_iff->ajO
open _root_.Go.IntWalk renaming i64_in->ajw,wrap64_in->ajy
open _root_.Go.World renaming size_alloc->ajq
open _root_.List renaming getD_eq_getElem?_getD->ajg,getElem?_eq_getElem->ajh,getElem?_eq_none->ajK,getElem?_set_ne->ajB,getElem?_set_self->ajA,getElem_mem->aji,mem_cons->ajN,mem_cons_of_mem->ajP,mem_or_eq_of_mem_set->ajL,nodup_cons->ajM
open _root_.Nat renaming add_comm->ajS,add_mul->ajF,add_mul_div_right->ajT,div_add_mod->ajC,div_eq_of_lt->ajH,div_le_self->ajx,div_mul_le_self->ajD,lt_or_ge->ajz,mod_eq_of_lt->ajJ,mul_le_mul_right->ajE,one_mul->ajG,succ_le_of_lt->ajR,zero_add->ajI
open _root_.Option renaming isSome_iff_exists->ajQ
open _root_.Go.Proofs.Tryz hiding prog
open _root_.Go.Proofs.Tryz renaming prog->aA
set_option maxRecDepth 4000
set_option maxHeartbeats 2000000
section
open Go.RowKit
theorem jC {c:bK} (h:c.ok=true):(1<=c.b/\c.b<=4096)/\(16<=c.w/\c.w<=256)/\(1<=c.m/\c.m<=8)/\(1<=c.r/\c.r<=64)/\(0<=c.c/\c.c<=64)/\(1<=c.l/\c.l<=256)/\(1<=c.s/\c.s<=4096):=by
 simp [bK.ok] at h
 omega
theorem abu {b w:Nat} (hb:b<=4096) (hw:w<=256):b*w<=1048576:=Nat.mul_le_mul hb hw
section
variable {c:bK} {b ww:Nat} (hok:c.ok=true) (hb:c.b=b) (hw:c.w=ww)
include hok hb hw
theorem qH:1<=b/\b<=4096/\16<=ww/\ww<=256/\b*ww<=1048576:=by
 have h:=jC hok
 rw [hb,hw] at h
 exact ⟨by omega,by omega,by omega,by omega,abu (by omega) (by omega)⟩
theorem U4 (C:Nat) (w:World) (hC:aF w C c.cells 23):Calls aA 156 #[au C] w fun e w'=>e = .returned (ah ((b*ww:Nat):Int))/\w=w':=by
 have hn:=qH hok hb hw
 have y0:=hC.cell 0 rfl
 have y1:=hC.cell 1 rfl
 rw [hb] at y0
 rw [hw] at y1
 obtain ⟨M,hM⟩:∃ M,M=b*ww:=⟨_,rfl⟩
 rw [<- hM] at hn ⊢
 have hmul:(b:Int)*(ww:Int)=(M:Int):=by rw [hM];simp
 have hwr:IntKind.i64.wrap ((b:Int)*(ww:Int))=(M:Int):=by rw [hmul];exact ajw _ (by omega)
 clear hC hM hmul hok hb hw hn
 go_enter func156,ntmps156
 go_wp2_with fail
 go_ret
 exact ⟨rfl,rfl⟩
theorem Ze (C:Nat) (w:World) (hT:lu w) (hC:aF w C c.cells 23):Calls aA 155 #[.agg c.cells.toArray,.func (.func 156) #[] #[au C]] w fun e w'=>e = .returned (ah ((b*ww:Nat):Int))/\aj aB w w':=by
 obtain ⟨W0,hW0⟩:∃ W',W'=w.alloc (.cells c.cells.toArray 23):=⟨_,rfl⟩
 have HK:Hid (aj aB w W0):=by rw [hW0];exact (aj.refl _ _).alloc _
 have HR:=ay (Dv c W0 (hT.aK HK.out))
 rw [hok] at HR
 have HC:Hid (∀ W,aj aB w W->Calls aA 156 #[au C] W fun e w'=>e = .returned (ah ((b*ww:Nat):Int))/\W=w'):=fun W hW=>U4 hok hb hw C W (hW.aH hC (fun f=>f))
 obtain ⟨M,hM⟩:∃ M,M=b*ww:=⟨_,rfl⟩
 rw [<- hM] at HC ⊢
 obtain ⟨c0,c1,c2,c3,c4,c5,c6⟩:=c
 simp only [bK.cells] at *
 clear hT hC hM hok hb hw
 go_enter func155,ntmps155
 go_wp2_with fail
 rw [<- hW0]
 clear hW0
 refine HR.out.mono ?_
 rintro e w1 ⟨rfl,hk1⟩
 have bI:=ay (HK.out.trans hk1)
 clear hk1 HK HR
 go_wp2_with (go_at_call 156;refine (HC.out _ bI.out).mono ?_;rintro e w2 ⟨rfl,rfl⟩)
 go_ret
 exact ⟨rfl,bI.out⟩
theorem Ba (w:World) (hT:lu w):Calls aA 108 #[.agg c.cells.toArray] w fun e w'=>e = .returned (ah ((b*ww:Nat):Int))/\aj aB w w':=by
 obtain ⟨W0,hW0⟩:∃ W',W'=w.alloc (.cells c.cells.toArray 23):=⟨_,rfl⟩
 have HK:Hid (aj aB w W0):=by rw [hW0];exact (aj.refl _ _).alloc _
 have HC:=ay (Ze hok hb hw w.heap.size W0 (hT.aK HK.out) (by rw [hW0];exact aF.bC w _ _))
 generalize b*ww=M at *
 obtain ⟨c0,c1,c2,c3,c4,c5,c6⟩:=c
 simp only [bK.cells] at *
 clear hT hok hb hw
 go_enter func108,ntmps108
 go_wp2_with fail
 rw [<- hW0]
 clear hW0
 refine HC.out.mono ?_
 rintro e w1 ⟨rfl,hk1⟩
 have bI:=ay (HK.out.trans hk1)
 clear hk1 HK HC
 go_wp2_with fail
 go_ret
 exact ⟨rfl,bI.out⟩
end
theorem Dw (ww k:Nat) (hw:16<=ww/\ww<=256) (hk:k<4) (w:World) (hS:jk w):Calls aA 194 #[ah (ww:Int),ah (k:Int)] w fun e w'=>e = .returned (ah ((ww/2^(k+1):Nat):Int))/\w=w':=by
 have HI:=ay (qA (k:Int) w)
 rw [fK (by omega)] at HI
 have hc:w.cell? ⟨2,k,none⟩=some (ah ((2^(k+1):Nat):Int)):=hS k _ (show IU[k]?=some ((2^(k+1):Nat):Int) from by
  obtain rfl|rfl|rfl|rfl:k=0\/k=1\/k=2\/k=3:=by omega
  all_goals rfl)
 have QX:(k:Int)<4:=by omega
 have h2:2<=2^(k+1)/\2^(k+1)<=16:=by
  obtain rfl|rfl|rfl|rfl:k=0\/k=1\/k=2\/k=3:=by omega
  all_goals decide
 generalize 2^(k+1)=z at *
 clear hS hk
 go_enter func194,ntmps194
 have e:wrap64 ((ww:Int)/(z:Int))=((ww/z:Nat):Int):=by
  have h1:((ww:Int)/(z:Int))=((ww/z:Nat):Int):=by simp
  have h2:ww/z<=ww:=ajx _ _
  rw [h1]
  generalize ww/z=q at h2 ⊢
  exact ajy _ (by omega)
 have HE:=ay e
 clear e
 go_wp2_with (go_at_call 198;refine HI.out.mono ?_;rintro e w1 ⟨rfl,rfl⟩)
 go_ret
 refine ⟨?_,rfl⟩
 rw [<- HE.out];rfl
section
variable {c:bK} {b ww:Nat} (hok:c.ok=true) (hb:c.b=b) (hw:c.w=ww)
include hok hb hw
theorem Bc (p:Nat) (hp:p<b*ww) (w:World) (hT:lu w):Calls aA 196 #[.agg c.cells.toArray,ah ((p:Int)+1)] w fun e w'=>e = .returned (.tuple #[ah ((p/ww:Nat):Int),.bool true])/\aj aB w w':=by
 obtain ⟨W0,hW0⟩:∃ W',W'=w.alloc (.cells c.cells.toArray 23):=⟨_,rfl⟩
 have HK:Hid (aj aB w W0):=by rw [hW0];exact (aj.refl _ _).alloc _
 have HC:=ay (Ba hok hb hw W0 (hT.aK HK.out))
 have HB:=ay (show aF W0 w.heap.size c.cells 23 by rw [hW0];exact aF.bC w _ _)
 have hn:=qH hok hb hw
 obtain ⟨c0,c1,c2,c3,c4,c5,c6⟩:=c
 simp only at hb hw
 subst hb hw
 generalize b*ww=M at *
 simp only [bK.cells] at *
 clear hT hok
 go_enter func196,ntmps196
 go_wp2_with fail
 rw [<- hW0]
 clear hW0
 refine HC.out.mono ?_
 rintro e w1 ⟨rfl,hk1⟩
 have bI:=ay (HK.out.trans hk1)
 have y1:=(hk1.aH HB.out (fun f=>f)).cell 1 rfl
 clear hk1 HK HC HB
 have e:wrap64 ((p:Int)/(ww:Int))=((p/ww:Nat):Int):=by
  have h1:((p:Int)/(ww:Int))=((p/ww:Nat):Int):=by simp
  have h2:p/ww<=p:=ajx _ _
  rw [h1]
  generalize p/ww=q at h2 ⊢
  exact ajy _ (by omega)
 have HE:=ay e
 clear e
 go_wp2_with fail
 go_ret2
 refine ⟨?_,bI.out⟩
 rw [<- HE.out];rfl
theorem Jd (a:Int) (ha:a<1\/((b*ww:Nat):Int)<a) (w:World) (hT:lu w):Calls aA 196 #[.agg c.cells.toArray,ah a] w fun e w'=>e = .returned (.tuple #[ah 0,.bool false])/\aj aB w w':=by
 obtain ⟨W0,hW0⟩:∃ W',W'=w.alloc (.cells c.cells.toArray 23):=⟨_,rfl⟩
 have HK:Hid (aj aB w W0):=by rw [hW0];exact (aj.refl _ _).alloc _
 have HC:=ay (Ba hok hb hw W0 (hT.aK HK.out))
 generalize b*ww=M at *
 obtain ⟨c0,c1,c2,c3,c4,c5,c6⟩:=c
 simp only [bK.cells] at *
 clear hT hok hb hw
 by_cases h1:a<1
 ·have d1:decide (a<1)=true:=fK h1
  clear h1 ha
  go_enter func196,ntmps196
  go_wp2_with fail
  rw [<- hW0]
  go_ret2
  exact ⟨rfl,HK.out⟩
 ·have d1:decide (a<1)=false:=gJ h1
  have d2:decide ((M:Int)<a)=true:=fK (ha.resolve_left h1)
  clear h1 ha
  go_enter func196,ntmps196
  go_wp2_with fail
  rw [<- hW0]
  clear hW0
  refine HC.out.mono ?_
  rintro e w1 ⟨rfl,hk1⟩
  have bI:=ay (HK.out.trans hk1)
  clear hk1 HK HC
  go_wp2_with fail
  go_ret2
  exact ⟨rfl,bI.out⟩
end
theorem abv (k r:Nat) (hk:k<=2) (hr:r<72057594037927936):bits .or .u64 ((k:Int)*72057594037927936) (r:Int)=((k*72057594037927936+r:Nat):Int):=by
 have h1:(k:Int)*72057594037927936=((k*72057594037927936:Nat):Int):=by omega
 rw [h1,bits_or_u64_nat _ _ (by omega) (by omega),nat_join 56 _ _ (by omega) (by omega)]
theorem VT (x:Nat) (hx:x<18446744073709551616):wrap64 (bits .and .u64 (x:Int) 255)=((x%256:Nat):Int):=by
 have h:=bits_and_u64_nat x 255 hx (by decide)
 rw [show ((255:Nat):Int)=255 from rfl] at h
 rw [h,nat_mask8,ajy _ (by omega)]
theorem adW (x:Nat) (hx:x<18446744073709551616):wrap64 (bits .and .u64 (x:Int) 72057594037927935)=((x%72057594037927936:Nat):Int):=by
 have h:=bits_and_u64_nat x 72057594037927935 hx (by decide)
 rw [show ((72057594037927935:Nat):Int)=72057594037927935 from rfl] at h
 have e:x &&& 72057594037927935=x%72057594037927936:=Nat.and_two_pow_sub_one_eq_mod x 56
 rw [h,e,ajy _ (by omega)]
theorem KG (k r:Nat) (hk:k<=2) (hr:r<72057594037927936) (w:World):Calls aA 205 #[ah (k:Int),.int .u64 (r:Int)] w fun e w'=>e = .returned (.int .u64 ((k*72057594037927936+r:Nat):Int))/\w=w':=by
 have HL:=ay (abv k r hk hr)
 go_enter func205,ntmps205
 go_wp2_with fail
 go_ret
 refine ⟨?_,rfl⟩
 rw [<- HL.out];rfl
theorem D9 (x:Nat) (hx:x<18446744073709551616) (w:World):Calls aA 234 #[.int .u64 (x:Int)] w fun e w'=>e = .returned (.tuple #[ah ((x/256%256:Nat):Int),ah ((x%256:Nat):Int)])/\w=w':=by
 have h1:=VT (x/256) (by omega)
 have h2:((x/256:Nat):Int)=(x:Int)/256:=by omega
 rw [h2] at h1
 have H1:=ay h1
 have H2:=ay (VT x hx)
 clear h1 h2 hx
 go_enter func234,ntmps234
 go_wp2_with fail
 go_ret2
 refine ⟨?_,rfl⟩
 rw [<- H1.out,<- H2.out];rfl
theorem Ap (x:Nat) (hx:x<18446744073709551616) (w:World):Calls aA 235 #[.int .u64 (x:Int)] w fun e w'=>e = .returned (ah ((x%72057594037927936:Nat):Int))/\w=w':=by
 have H:=ay (adW x hx)
 clear hx
 go_enter func235,ntmps235
 go_wp2_with fail
 go_ret
 refine ⟨?_,rfl⟩
 rw [<- H.out];rfl
def lT (c f:Nat):Nat:=72057594037927936+c*256+f
def gI (a:Nat):Nat:=144115188075855872+a
def mX (c f:Nat):Prop:=c<4/\f+1<=2^(c+1)
instance (c f:Nat):Decidable (mX c f):=inferInstanceAs (Decidable (_/\_))
theorem adX {c:Nat} (h:c<4):pY (c:Int)=((2^(c+1):Nat):Int) - 1:=by
 unfold pY
 rw [KF h]
 obtain rfl|rfl|rfl|rfl:c=0\/c=1\/c=2\/c=3:=by omega
 all_goals rfl
theorem BP (c f:Nat) (hc:c<256) (hf:f<256) (w:World) (hS:jk w):Calls aA 162 #[ah (c:Int),ah (f:Int)] w fun e w'=>e = .returned (.tuple #[.int .u64 ((if mX c f then lT c f else 0:Nat):Int),.bool (decide (mX c f))])/\w=w':=by
 have HI:=ay (qA (c:Int) w)
 have HR:=ay (E8 (c:Int) w hS)
 by_cases h4:c<4
 ·rw [fK (by omega)] at HI
  rw [adX h4] at HR
  have h2:2<=2^(c+1)/\2^(c+1)<=16:=by
   obtain rfl|rfl|rfl|rfl:c=0\/c=1\/c=2\/c=3:=by omega
   all_goals decide
  by_cases AB:f+1<=2^(c+1)
  ·have HO:Hid (mX c f):=⟨h4,AB⟩
   rw [aZ HO.out,fK HO.out]
   have HJ:Hid (bits .or .u64 ((c:Int)*256) (f:Int)=((c*256+f:Nat):Int)):=by
    have h1:(c:Int)*256=((c*256:Nat):Int):=by omega
    rw [Hid,h1,bits_or_u64_nat _ _ (by omega) (by omega),nat_join 8 _ _ (by omega) (by omega)]
   have Dx:=ay (KG 1 (c*256+f) (by decide) (by omega) w)
   have HE:Hid (1*72057594037927936+(c*256+f)=lT c f):=by unfold Hid lT;omega
   rw [HE.out,<- HJ.out] at Dx
   generalize 2^(c+1)=z at *
   generalize lT c f=ow at *
   have d1:decide ((z:Int) - 1<(f:Int))=false:=gJ (by omega)
   clear hS HO AB HE hc
   have hc4:(c:Int)<4:=by omega
   go_enter func162,ntmps162
   go_wp2_with (first|(go_at_call 198;refine HI.out.mono ?_;rintro e w1 ⟨rfl,rfl⟩)|(go_at_call 158;refine HR.out.mono ?_;rintro e w1 ⟨rfl,rfl⟩)|(go_at_call 205;refine Dx.out.mono ?_;rintro e w1 ⟨rfl,rfl⟩))
   go_ret2
   exact ⟨rfl,rfl⟩
  ·have HO:Hid (¬ mX c f):=fun h=>AB h.2
   rw [aT HO.out,gJ HO.out]
   generalize 2^(c+1)=z at *
   have d1:decide ((z:Int) - 1<(f:Int))=true:=fK (by omega)
   clear hS HO AB h4 hc
   go_enter func162,ntmps162
   go_wp2_with (first|(go_at_call 198;refine HI.out.mono ?_;rintro e w1 ⟨rfl,rfl⟩)|(go_at_call 158;refine HR.out.mono ?_;rintro e w1 ⟨rfl,rfl⟩))
   go_ret2
   exact ⟨rfl,rfl⟩
 ·rw [gJ (by omega)] at HI
  have HO:Hid (¬ mX c f):=fun h=>h4 h.1
  rw [aT HO.out,gJ HO.out]
  clear hS HO h4 hc HR
  go_enter func162,ntmps162
  go_wp2_with (go_at_call 198;refine HI.out.mono ?_;rintro e w1 ⟨rfl,rfl⟩)
  go_ret2
  exact ⟨rfl,rfl⟩
theorem Fa (a:Nat) (ha:a<72057594037927936) (w:World):Calls aA 239 #[ah (a:Int)] w fun e w'=>e = .returned (.tuple #[.int .u64 ((if a<=1048576 then gI a else 0:Nat):Int),.bool (decide (a<=1048576))])/\w=w':=by
 by_cases h:a<=1048576
 ·rw [aZ h,fK h]
  have Dx:=ay (KG 2 a (by decide) ha w)
  have HE:Hid (2*72057594037927936+a=gI a):=by unfold Hid gI;omega
  rw [HE.out] at Dx
  have d1:decide (1048576<(a:Int))=false:=gJ (by omega)
  generalize gI a=lw at *
  clear HE
  go_enter func239,ntmps239
  go_wp2_with (go_at_call 205;refine Dx.out.mono ?_;rintro e w1 ⟨rfl,rfl⟩)
  go_ret2
  exact ⟨rfl,rfl⟩
 ·rw [aT h,gJ h]
  have d1:decide (1048576<(a:Int))=true:=fK (by omega)
  clear h
  go_enter func239,ntmps239
  go_wp2_with fail
  go_ret2
  exact ⟨rfl,rfl⟩
theorem wJ {c f:Nat} (h:mX c f):c<4/\f<16/\lT c f<144115188075855872/\lT c f/72057594037927936=1/\lT c f/256%256=c/\lT c f%256=f:=by
 have hc:=h.1
 have h2:2^(c+1)<=16:=by
  obtain rfl|rfl|rfl|rfl:c=0\/c=1\/c=2\/c=3:=by omega
  all_goals decide
 have hf:f<16:=by have:=h.2;omega
 unfold lT
 refine ⟨hc,hf,by omega,by omega,by omega,by omega⟩
theorem xk {a:Nat} (h:a<=1048576):gI a<216172782113783808/\gI a/72057594037927936=2/\gI a%72057594037927936=a:=by
 unfold gI
 refine ⟨by omega,by omega,by omega⟩
theorem zW (x k:Nat) (hx:x/72057594037927936=k):(x:Int)/72057594037927936=(k:Int):=by
 have h1:((x:Int)/72057594037927936)=((x/72057594037927936:Nat):Int):=by omega
 rw [h1,hx]
theorem Xh (c f:Nat) (h:mX c f) (w:World) (hS:jk w):Calls aA 233 #[.int .u64 (lT c f:Int)] w fun e w'=>e = .returned (ah 1)/\w=w':=by
 obtain ⟨hc,hf,hx,h1,h2,h3⟩:=wJ h
 have HP:=ay (D9 (lT c f) (by omega) w)
 rw [h2,h3] at HP
 have HO:=ay (BP c f (by omega) (by omega) w hS)
 rw [aZ h,fK h] at HO
 have hk:=zW (lT c f) 1 h1
 generalize lT c f=x at *
 clear h h1 h2 h3 hS
 go_enter func233,ntmps233
 go_wp2_with (first|(go_at_call 234;refine HP.out.mono ?_;rintro e w1 ⟨rfl,rfl⟩)|(go_at_call 162;refine HO.out.mono ?_;rintro e w1 ⟨rfl,rfl⟩))
 go_ret
 exact ⟨rfl,rfl⟩
theorem U5 (a:Nat) (h:a<=1048576) (w:World):Calls aA 233 #[.int .u64 (gI a:Int)] w fun e w'=>e = .returned (ah 2)/\w=w':=by
 obtain ⟨hx,h1,h2⟩:=xk h
 have HA:=ay (Ap (gI a) (by omega) w)
 rw [h2] at HA
 have HL:=ay (Fa a (by omega) w)
 rw [aZ h,fK h] at HL
 have hk:=zW (gI a) 2 h1
 generalize gI a=x at *
 clear h1 h2
 go_enter func233,ntmps233
 go_wp2_with (first|(go_at_call 235;refine HA.out.mono ?_;rintro e w1 ⟨rfl,rfl⟩)|(go_at_call 239;refine HL.out.mono ?_;rintro e w1 ⟨rfl,rfl⟩))
 go_ret
 exact ⟨rfl,rfl⟩
theorem U6 (c f:Nat) (h:mX c f) (w:World) (hS:jk w):Calls aA 192 #[.int .u64 (lT c f:Int)] w fun e w'=>e = .returned (.tuple #[ah (c:Int),ah (f:Int),.bool true])/\w=w':=by
 have HK:=ay (Xh c f h w hS)
 obtain ⟨hc,hf,hx,h1,h2,h3⟩:=wJ h
 have HP:=ay (D9 (lT c f) (by omega) w)
 rw [h2,h3] at HP
 generalize lT c f=x at *
 clear h h1 h2 h3 hS
 go_enter func192,ntmps192
 go_wp2_with (first|(go_at_call 234;refine HP.out.mono ?_;rintro e w1 ⟨rfl,rfl⟩)|(go_at_call 233;refine HK.out.mono ?_;rintro e w1 ⟨rfl,rfl⟩))
 go_ret3
 exact ⟨rfl,rfl⟩
theorem U7 (a:Nat) (h:a<=1048576) (w:World):Calls aA 199 #[.int .u64 (gI a:Int)] w fun e w'=>e = .returned (.tuple #[ah (a:Int),.bool true])/\w=w':=by
 have HK:=ay (U5 a h w)
 obtain ⟨hx,h1,h2⟩:=xk h
 have HA:=ay (Ap (gI a) (by omega) w)
 rw [h2] at HA
 generalize gI a=x at *
 clear h1 h2
 go_enter func199,ntmps199
 go_wp2_with (first|(go_at_call 235;refine HA.out.mono ?_;rintro e w1 ⟨rfl,rfl⟩)|(go_at_call 233;refine HK.out.mono ?_;rintro e w1 ⟨rfl,rfl⟩))
 go_ret2
 exact ⟨rfl,rfl⟩
def Ey (x:Nat):Option (Nat × Nat):=if mX (x/256%256) (x%256)/\lT (x/256%256) (x%256)=x then some (x/256%256,x%256) else none
theorem VU {c f:Nat} (h:mX c f):Ey (lT c f)=some (c,f):=by
 obtain ⟨_,_,_,_,h2,h3⟩:=wJ h
 unfold Ey
 rw [h2,h3,aZ ⟨h,rfl⟩]
theorem Fb {x c f:Nat} (h:Ey x=some (c,f)):mX c f/\x=lT c f:=by
 unfold Ey at h
 split at h
 ·rename_i h1
  simp only [Option.some.injEq,Prod.mk.injEq] at h
  obtain ⟨rfl,rfl⟩:=h
  exact ⟨h1.1,h1.2.symm⟩
 ·cases h
theorem afg {x:Nat} (h:Ey x=none) (ho:mX (x/256%256) (x%256)):lT (x/256%256) (x%256)≠x:=fun e=>by
 unfold Ey at h
 rw [aZ ⟨ho,e⟩] at h
 cases h
def xH (x:Nat):Nat:=if x%72057594037927936<=1048576/\gI (x%72057594037927936)=x then 2 else 0
theorem int_ne {a b:Nat} (h:a≠b):((a:Int)==(b:Int))=false:=by
 simp;omega
theorem afh {a b:Nat} (h:a=b):((a:Int)==(b:Int))=true:=by
 simp;omega
theorem U8 (x:Nat) (hx:x<216172782113783808) (h:Ey x=none) (w:World) (hS:jk w):Calls aA 233 #[.int .u64 (x:Int)] w fun e w'=>e = .returned (ah (xH x:Int))/\w=w':=by
 have HP:=ay (D9 x (by omega) w)
 have HO:=ay (BP (x/256%256) (x%256) (by omega) (by omega) w hS)
 have HA:=ay (Ap x (by omega) w)
 have HL:=ay (Fa (x%72057594037927936) (by omega) w)
 have hno:=afg h
 have ny:Hid (xH x=if x%72057594037927936<=1048576/\gI (x%72057594037927936)=x then 2 else 0):=rfl
 have hkk:x/72057594037927936=1\/x/72057594037927936=2\/x/72057594037927936=0:=by omega
 have Fe:x/72057594037927936≠2->∀ a,gI a≠x\/72057594037927936<=a:=fun hk a=>by
  rcases ajz a 72057594037927936 with h1|h1
  ·left;intro e;unfold gI at e;omega
  ·right;exact h1
 have hz:x/72057594037927936=0->xH x=0:=fun hk=>by
  rw [ny.out,aT]
  rintro ⟨_,h2⟩
  unfold gI at h2;omega
 have h1':x/72057594037927936=1->xH x=0:=fun hk=>by
  rw [ny.out,aT]
  rintro ⟨_,h2⟩
  unfold gI at h2;omega
 rcases hkk with hk|hk|hk
 ·have hke:=zW x 1 hk
  rw [h1' hk]
  have tJ:Hid (x%72057594037927936<=1048576->((gI (x%72057594037927936):Int)==(x:Int))=false):=fun _=>int_ne (fun e=>by unfold gI at e;omega)
  by_cases ho:mX (x/256%256) (x%256)
  ·have hne:=int_ne (hno ho)
   rw [aZ ho,fK ho] at HO
   by_cases hl:x%72057594037927936<=1048576
   ·have hln:=tJ.out hl
    rw [aZ hl,fK hl] at HL
    generalize x/256%256=c at *
    generalize x%256=f at *
    generalize x%72057594037927936=a at *
    generalize lT c f=ow at *
    generalize gI a=lw at *
    clear h hno ho hl hz h1' Fe hk ny tJ hS
    go_enter func233,ntmps233
    go_wp2_with (first|(go_at_call 234;refine HP.out.mono ?_;rintro e w1 ⟨rfl,rfl⟩)|(go_at_call 162;refine HO.out.mono ?_;rintro e w1 ⟨rfl,rfl⟩)|(go_at_call 235;refine HA.out.mono ?_;rintro e w1 ⟨rfl,rfl⟩)|(go_at_call 239;refine HL.out.mono ?_;rintro e w1 ⟨rfl,rfl⟩))
    go_ret
    exact ⟨rfl,rfl⟩
   ·rw [aT hl,gJ hl] at HL
    generalize x/256%256=c at *
    generalize x%256=f at *
    generalize x%72057594037927936=a at *
    generalize lT c f=ow at *
    clear h hno ho hl hz h1' Fe hk ny tJ hS
    go_enter func233,ntmps233
    go_wp2_with (first|(go_at_call 234;refine HP.out.mono ?_;rintro e w1 ⟨rfl,rfl⟩)|(go_at_call 162;refine HO.out.mono ?_;rintro e w1 ⟨rfl,rfl⟩)|(go_at_call 235;refine HA.out.mono ?_;rintro e w1 ⟨rfl,rfl⟩)|(go_at_call 239;refine HL.out.mono ?_;rintro e w1 ⟨rfl,rfl⟩))
    go_ret
    exact ⟨rfl,rfl⟩
  ·rw [aT ho,gJ ho] at HO
   by_cases hl:x%72057594037927936<=1048576
   ·have hln:=tJ.out hl
    rw [aZ hl,fK hl] at HL
    generalize x/256%256=c at *
    generalize x%256=f at *
    generalize x%72057594037927936=a at *
    generalize gI a=lw at *
    clear h hno ho hl hz h1' Fe hk ny tJ hS
    go_enter func233,ntmps233
    go_wp2_with (first|(go_at_call 234;refine HP.out.mono ?_;rintro e w1 ⟨rfl,rfl⟩)|(go_at_call 162;refine HO.out.mono ?_;rintro e w1 ⟨rfl,rfl⟩)|(go_at_call 235;refine HA.out.mono ?_;rintro e w1 ⟨rfl,rfl⟩)|(go_at_call 239;refine HL.out.mono ?_;rintro e w1 ⟨rfl,rfl⟩))
    go_ret
    exact ⟨rfl,rfl⟩
   ·rw [aT hl,gJ hl] at HL
    generalize x/256%256=c at *
    generalize x%256=f at *
    generalize x%72057594037927936=a at *
    clear h hno ho hl hz h1' Fe hk ny tJ hS
    go_enter func233,ntmps233
    go_wp2_with (first|(go_at_call 234;refine HP.out.mono ?_;rintro e w1 ⟨rfl,rfl⟩)|(go_at_call 162;refine HO.out.mono ?_;rintro e w1 ⟨rfl,rfl⟩)|(go_at_call 235;refine HA.out.mono ?_;rintro e w1 ⟨rfl,rfl⟩)|(go_at_call 239;refine HL.out.mono ?_;rintro e w1 ⟨rfl,rfl⟩))
    go_ret
    exact ⟨rfl,rfl⟩
 ·have hke:=zW x 2 hk
  by_cases hl:x%72057594037927936<=1048576
  ·rw [aZ hl,fK hl] at HL
   have hq:gI (x%72057594037927936)=x:=by unfold gI;omega
   have HR:Hid (xH x=2):=by unfold Hid;rw [ny.out,aZ ⟨hl,hq⟩]
   have hqe:=afh hq
   rw [HR.out]
   generalize x%72057594037927936=a at *
   generalize gI a=lw at *
   clear h hno hl hz h1' Fe hk ny hS HO HP hq HR
   go_enter func233,ntmps233
   go_wp2_with (first|(go_at_call 235;refine HA.out.mono ?_;rintro e w1 ⟨rfl,rfl⟩)|(go_at_call 239;refine HL.out.mono ?_;rintro e w1 ⟨rfl,rfl⟩))
   go_ret
   exact ⟨rfl,rfl⟩
  ·rw [aT hl,gJ hl] at HL
   have HR:Hid (xH x=0):=by unfold Hid;rw [ny.out,aT (fun e=>hl e.1)]
   rw [HR.out]
   generalize x%72057594037927936=a at *
   clear h hno hl hz h1' Fe hk ny hS HO HP HR
   go_enter func233,ntmps233
   go_wp2_with (first|(go_at_call 235;refine HA.out.mono ?_;rintro e w1 ⟨rfl,rfl⟩)|(go_at_call 239;refine HL.out.mono ?_;rintro e w1 ⟨rfl,rfl⟩))
   go_ret
   exact ⟨rfl,rfl⟩
 ·have hke:=zW x 0 hk
  rw [hz hk]
  clear h hno hz h1' Fe hk ny hS HO HP HA HL
  go_enter func233,ntmps233
  go_wp2_with fail
  go_ret
  exact ⟨rfl,rfl⟩
theorem QY (x:Nat) (hx:x<216172782113783808) (h:Ey x=none) (w:World) (hS:jk w):Calls aA 192 #[.int .u64 (x:Int)] w fun e w'=>e = .returned (.tuple #[ah 0,ah 0,.bool false])/\w=w':=by
 have HK:=ay (U8 x hx h w hS)
 have hne:((xH x:Int)==1)=false:=by
  have:xH x=2\/xH x=0:=by unfold xH;split<;>simp
  rcases this with e|e<;>rw [e]<;>rfl
 have hne2:((xH x:Int) != 1)=true:=by simp only [bne,hne];rfl
 generalize xH x=kk at *
 clear h
 go_enter func192,ntmps192
 go_wp2_with (go_at_call 233;refine HK.out.mono ?_;rintro e w1 ⟨rfl,rfl⟩)
 go_ret3
 exact ⟨rfl,rfl⟩
end
section
theorem Gz {W:List Nat} {i:Nat} (h:i<W.length) (x:Nat):(W.set i x).getD i 0=x:=by
 rw [ajg,ajA h];rfl
theorem Ez {W:List Nat} {i j:Nat} (h:i≠j) (x:Nat):(W.set i x).getD j 0=W.getD j 0:=by
 rw [ajg,ajB h,<- ajg]
structure HS where
 c:bK
 b:Nat
 ww:Nat
 A:List Nat
 K:List Nat
 fr:List (List Nat)
 bn:Nat->Bool
 co:Nat->Bool
 cells:List Nat
def HS.n (H:HS):Nat:=H.b*H.ww
def HS.sz (H:HS):Nat:=H.b*H.ww+1
def HS.row (H:HS) (k:Nat):List Nat:=H.fr.getD k []
def HS.jg (H:HS) (a:Nat):Bool:=H.fr.any fun l=>l.contains a
def HS.F (H:HS):List Nat:=H.fr.map fun l=>l.headD 0
def qI (b ww:Nat) (K:List Nat) (a:Nat):Option (Nat × Nat) :=
 if 1<=a/\a<=b*ww/\K.getD ((a - 1)/ww) 0≠0/\(a - 1)%ww%2^K.getD ((a - 1)/ww) 0=0/\(a - 1)%ww/2^K.getD ((a - 1)/ww) 0<ww/2^K.getD ((a - 1)/ww) 0
 then some ((a - 1)/ww,K.getD ((a - 1)/ww) 0 - 1) else none
def HS.iC (H:HS) (a:Nat):Option (Nat × Nat):=qI H.b H.ww H.K a
def vG (A:List Nat) (a:Nat):Nat:=if 1<=a then A.getD (a - 1) 0 else 0
def HS.jf (H:HS) (a:Nat):Nat:=vG H.A a
def HS.tK (H:HS) (a:Nat):Option Nat:=(Ey (H.jf a)).map (·.2)
def HS.qU (H:HS) (a:Nat):Bool:=(H.iC a).isSome && !H.bn a && !H.jg a
def HS.Dy (H:HS) (a:Nat):Bool:=H.bn a||(H.qU a&&(H.tK a).isSome)
def HS.nf (H:HS) (a:Nat):Nat:=(H.tK a).getD 0
def HS.qB (H:HS) (a:Nat):Nat:=if a=0 then 6 else if H.Dy a then 0 else 1
def iZ (s:Nat->Bool) (a:Nat) (v:Bool):Nat->Bool:=fun x=>if x=a then v else s x
def vT (wd:Nat->Nat):List Nat->Prop
 | []=>True
 | a::l=>wd a=gI (l.headD 0)/\vT wd l
theorem vT.congr {wd wd':Nat->Nat}:∀ {l:List Nat},vT wd l->(∀ a∈l,wd' a=wd a)->vT wd' l
 | [],_,_=>trivial
 | a::l,h,e=>⟨(e a (by simp)).trans h.1,vT.congr h.2 (fun x hx=>e x (by simp [hx]))⟩
theorem gB {b ww:Nat} {K:List Nat} {a B k:Nat} (h:qI b ww K a=some (B,k)) :
 1<=a/\a<=b*ww/\B=(a - 1)/ww/\K.getD B 0=k+1/\(a - 1)%ww%2^(k+1)=0/\(a - 1)%ww/2^(k+1)<ww/2^(k+1):=by
 unfold qI at h
 split at h
 ·rename_i hc
  simp only [Option.some.injEq,Prod.mk.injEq] at h
  obtain ⟨rfl,rfl⟩:=h
  have e:K.getD ((a - 1)/ww) 0 - 1+1=K.getD ((a - 1)/ww) 0:=by omega
  rw [e]
  exact ⟨hc.1,hc.2.1,rfl,rfl,hc.2.2.2.1,hc.2.2.2.2⟩
 ·cases h
theorem JD {b ww:Nat} {K:List Nat} {a B k:Nat} (h1:1<=a) (h2:a<=b*ww) (hB:B=(a - 1)/ww) (hK:K.getD B 0=k+1) (h3:(a - 1)%ww%2^(k+1)=0) (h4:(a - 1)%ww/2^(k+1)<ww/2^(k+1)):qI b ww K a=some (B,k):=by
 subst hB
 unfold qI
 rw [hK,aZ ⟨h1,h2,by omega,h3,h4⟩]
 simp
theorem Zf {b ww:Nat} {K:List Nat} {a B0:Nat} (k:Nat) (h0:K.getD B0 0=0) {B q:Nat} (h:qI b ww K a=some (B,q)):qI b ww (K.set B0 (k+1)) a=some (B,q):=by
 obtain ⟨h1,h2,h3,h4,h5,h6⟩:=gB h
 have hne:B0≠B:=fun e=>by rw [e,h4] at h0;omega
 refine JD h1 h2 h3 ?_ h5 h6
 rw [Ez hne];exact h4
theorem U9 {b ww:Nat} {K:List Nat} {a B0 k B q:Nat} (h:qI b ww (K.set B0 (k+1)) a=some (B,q)) (hB:B≠B0):qI b ww K a=some (B,q):=by
 obtain ⟨h1,h2,h3,h4,h5,h6⟩:=gB h
 rw [Ez (Ne.symm hB)] at h4
 exact JD h1 h2 h3 h4 h5 h6
theorem Va {b ww:Nat} {K:List Nat} {a B k:Nat} (h:qI b ww K a=some (B,k)) (j:Nat) (h1:1<=j) (h2:j<2^(k+1)):qI b ww K (a+j)=none/\a+j<=b*ww/\K.getD ((a+j - 1)/ww) 0≠0:=by
 obtain ⟨g1,g2,g3,g4,g5,g6⟩:=gB h
 have hz:0<2^(k+1):=Nat.two_pow_pos _
 generalize hz2:2^(k+1)=z at *
 have hw:0<ww:=by
  rcases Nat.eq_zero_or_pos ww with e|e
  ·subst e;simp at g6
  ·exact e
 have hm:=ajC ((a - 1)%ww) z
 have hm2:=ajC (a - 1) ww
 have hwz:=ajD ww z
 have hs:((a - 1)%ww/z+1)*z<=ww/z*z:=ajE _ g6
 have hs2:((a - 1)%ww/z+1)*z=(a - 1)%ww/z*z+z:=by rw [ajF,ajG]
 have hs3:z*((a - 1)%ww/z)=(a - 1)%ww/z*z:=Nat.mul_comm _ _
 have hlt:(a - 1)%ww+j<ww:=by omega
 have e1:(a+j - 1)/ww=(a - 1)/ww:=by
  rw [show a+j - 1=(a - 1)%ww+j+ww*((a - 1)/ww) by omega,Nat.add_mul_div_left _ _ hw,ajH hlt,ajI]
 have e2:(a+j - 1)%ww=(a - 1)%ww+j:=by
  rw [show a+j - 1=(a - 1)%ww+j+ww*((a - 1)/ww) by omega,Nat.add_mul_mod_self_left,ajJ hlt]
 have e3:((a - 1)%ww+j)%z=j:=by
  have:(a - 1)%ww=z*((a - 1)%ww/z):=by omega
  rw [this,Nat.mul_add_mod,ajJ h2]
 refine ⟨?_,?_,?_⟩
 ·unfold qI
  rw [e1,e2,<- g3,g4,hz2,e3]
  rw [aT (by omega)]
 rotate_left
 ·rw [e1,<- g3,g4];omega
 ·have hB:(a - 1)/ww<b:=by
   rw [Nat.div_lt_iff_lt_mul hw];omega
  have h9:((a - 1)/ww+1)*ww<=b*ww:=ajE _ hB
  have h8:((a - 1)/ww+1)*ww=(a - 1)/ww*ww+ww:=by rw [ajF,ajG]
  have h7:ww*((a - 1)/ww)=(a - 1)/ww*ww:=Nat.mul_comm _ _
  omega
theorem Fg {A:List Nat} {a:Nat} (h1:1<=a) (h2:a<=A.length) (x y:Nat):vG (A.set (a - 1) x) y=if y=a then x else vG A y:=by
 unfold vG
 by_cases hy:y=a
 ·subst hy
  rw [aZ h1,aZ rfl,Gz (by omega)]
 ·rw [aT hy]
  by_cases h0:1<=y
  ·rw [aZ h0,aZ h0,Ez (by omega)]
  ·rw [aT h0,aT h0]
theorem adY {A:List Nat} {N:Nat} (h:∀ x∈A,x<N) (h0:0<N) (a:Nat):vG A a<N:=by
 unfold vG
 split
 ·rcases ajz (a - 1) A.length with h1|h1
  ·rw [ajg,ajh h1]
   exact h _ (aji h1)
  ·rw [ajg,ajK h1];exact h0
 ·exact h0
def sD:Nat:=216172782113783808
structure eu (H:HS):Prop where
 sU:H.A.length=H.b*H.ww
 zk:H.b*H.ww<=1048576
 k4:∀ x∈H.K,x<=4
 lU:∀ x∈H.A,x<sD
 oP:H.fr.length=4
 chain:∀ k,k<4->vT H.jf (H.row k)
 nodup:∀ k,k<4->(H.row k).Nodup
 og:∀ k,k<4->∀ a∈H.row k,H.bn a=false/\∃ B,H.iC a=some (B,k)
 kG:∀ a,H.bn a=true->∃ B k f,H.iC a=some (B,k)/\mX k f/\H.jf a=lT k f
 yB:∀ a B k,H.iC a=some (B,k)->H.jf a=0\/(∃ x,x<=1048576/\H.jf a=gI x)\/∃ f,mX k f/\H.jf a=lT k f
 Ea:∀ x∈H.cells,x<=H.b*H.ww
 zero:∀ a,1<=a->a<=H.b*H.ww->H.K.getD ((a - 1)/H.ww) 0=0->H.jf a=0
section
variable {H:HS}
theorem eu.jh (h:eu H) {a B k:Nat} (ho:H.iC a=some (B,k)):k<4:=by
 obtain ⟨_,_,_,h4,_⟩:=gB ho
 have:H.K.getD B 0<=4:=by
  rcases ajz B H.K.length with h1|h1
  ·rw [ajg,ajh h1]
   exact h.k4 _ (aji h1)
  ·rw [ajg,ajK h1];exact Nat.zero_le _
 omega
theorem VW {a B k:Nat} (ho:H.iC a=some (B,k)):H.K.getD ((a - 1)/H.ww) 0≠0:=by
 obtain ⟨_,_,h3,h4,_⟩:=gB ho
 rw [<- h3,h4];omega
theorem HS.QZ (H:HS) {k:Nat} (hl:H.fr.length=4) (hk:k<4):H.row k=H.fr[k]'(by omega):=by
 unfold HS.row
 rw [ajg,ajh (by omega)];rfl
theorem eu.jg (h:eu H) {a:Nat}:H.jg a=true↔∃ k,k<4/\a∈H.row k:=by
 have hl:=h.oP
 unfold HS.jg
 rw [List.any_eq_true]
 constructor
 ·rintro ⟨l,hl1,hl2⟩
  obtain ⟨k,hk,rfl⟩:=List.mem_iff_getElem.1 hl1
  exact ⟨k,by omega,by rw [H.QZ hl (by omega)];simpa using hl2⟩
 ·rintro ⟨k,hk,hm⟩
  rw [H.QZ hl hk] at hm
  exact ⟨_,aji _,by simpa using hm⟩
theorem eu.GH (h:eu H) {a:Nat} (ha:H.jg a=false) {k:Nat} (hk:k<4):a∉H.row k:=fun hm=>by
 have:=h.jg.2 ⟨k,hk,hm⟩
 rw [ha] at this;cases this
theorem HS.abw (H:HS) (hl:H.fr.length=4) {k:Nat} (hk:k<4):H.F.getD k 0=(H.row k).headD 0:=by
 unfold HS.F
 rw [ajg,List.getElem?_map,ajh (by omega),H.QZ hl hk];rfl
theorem eu.wlt (h:eu H) (a:Nat):H.jf a<sD:=adY h.lU (by decide) a
theorem EC {H H':HS} {k:Nat} {l:List Nat} (hf:H'.fr=H.fr.set k l) (hl:H.fr.length=4) (hk:k<4) (q:Nat):H'.row q=if q=k then l else H.row q:=by
 unfold HS.row
 rw [hf,ajg]
 by_cases e:q=k
 ·subst e;rw [aZ rfl,ajA (by omega)];rfl
 ·rw [aT e,ajB (Ne.symm e),<- ajg]
def HS.put (H:HS) (a k:Nat):HS:={ H with A:=H.A.set (a - 1) (gI ((H.row k).headD 0)),fr:=H.fr.set k (a::H.row k) }
def HS.take (H:HS) (k:Nat):HS:={ H with fr:=H.fr.set k (H.row k).tail }
def HS.assign (H:HS) (B k:Nat):HS:={ H with K:=H.K.set B (k+1) }
def HS.wK (H:HS) (a k f:Nat):HS:={ H with A:=H.A.set (a - 1) (lT k f) }
def HS.Aq (H:HS) (a:Nat) (c:Bool):HS:={ H with bn:=iZ H.bn a true,co:=iZ H.co a c }
def HS.rZ (H:HS) (a:Nat):HS:={ H with bn:=iZ H.bn a false }
def HS.uj (H:HS) (x v:Nat):HS:={ H with A:=H.A.set (x - 1) v }
def HS.iK (H:HS) (a:Nat) (c:Bool):HS:={ H with co:=iZ H.co a c }
def HS.setCell (H:HS) (i v:Nat):HS:={ H with cells:=H.cells.set i v }
theorem Xi {x:Nat} (h:x<=1048576):gI x<sD:=(xk h).1
theorem eu.VX (h:eu H) {k:Nat} (hk:k<4):(H.row k).headD 0<=1048576:=by
 cases hr:H.row k with
 | nil=>exact Nat.zero_le _
 | cons a l =>
   obtain ⟨_,B,ho⟩:=h.og k hk a (by rw [hr];simp)
   have:=(gB ho).2.1
   have:=h.zk
   simp;omega
theorem eu.put (h:eu H) {a B k:Nat} (ho:H.iC a=some (B,k)) (hb:H.bn a=false) (hi:H.jg a=false):eu (H.put a k):=by
 have hk:=h.jh ho
 obtain ⟨o1,o2,_⟩:=gB ho
 have hal:a<=H.A.length:=by have:=h.sU;omega
 have hw:∀ y,(H.put a k).jf y=if y=a then gI ((H.row k).headD 0) else H.jf y:=fun y=>Fg o1 hal _ y
 have hrow:=EC (H:=H) (H':=H.put a k) rfl h.oP hk
 have hhd:=h.VX hk
 refine ⟨by simpa [HS.put] using h.sU,h.zk,h.k4,?_,by simpa [HS.put] using h.oP,?_,?_,?_,?_,?_,h.Ea,fun y y1 y2 y3=>by rw [hw,aT (fun e:y=a=>VW ho (by rw [<- e];exact y3))];exact h.zero y y1 y2 y3⟩
 ·intro x hx
  rcases ajL hx with h1|rfl
  ·exact h.lU x h1
  ·exact Xi hhd
 ·intro q hq
  rw [hrow q]
  have hc:∀ l:List Nat,a∉l->vT H.jf l->vT (H.put a k).jf l:=fun l hl hL=>hL.congr fun x hx=>by rw [hw,aT (fun e:x=a=>hl (by rw [<- e];exact hx))]
  split
  ·rename_i e;subst e
   exact ⟨by rw [hw,aZ rfl],hc _ (h.GH hi hq) (h.chain q hq)⟩
  ·exact hc _ (h.GH hi hq) (h.chain q hq)
 ·intro q hq
  rw [hrow q]
  split
  ·rename_i e;subst e
   exact ajM.2 ⟨h.GH hi hq,h.nodup q hq⟩
  ·exact h.nodup q hq
 ·intro q hq x hx
  rw [hrow q] at hx
  split at hx
  ·rename_i e;subst e
   rcases ajN.1 hx with rfl|hx
   ·exact ⟨hb,B,ho⟩
   ·exact h.og q hq x hx
  ·exact h.og q hq x hx
 ·intro x hx
  obtain ⟨B',k',f,h1,h2,h3⟩:=h.kG x hx
  refine ⟨B',k',f,h1,h2,?_⟩
  rw [hw,aT (fun e=>?_)]
  ·exact h3
  ·subst e
   rw [show (H.put x k).bn x=H.bn x from rfl,hb] at hx
   cases hx
 ·intro x B' k' hx
  rw [hw]
  split
  ·exact .inr (.inl ⟨_,hhd,rfl⟩)
  ·exact h.yB x B' k' hx
theorem eu.take (h:eu H) {k:Nat} (hk:k<4):eu (H.take k):=by
 have hrow:=EC (H:=H) (H':=H.take k) rfl h.oP hk
 refine ⟨h.sU,h.zk,h.k4,h.lU,by simpa [HS.take] using h.oP,?_,?_,?_,h.kG,h.yB,h.Ea,h.zero⟩
 ·intro q hq
  rw [hrow q]
  split
  ·have:=h.chain k hk
   revert this
   cases H.row k with
   | nil=>exact fun _=>trivial
   | cons a l=>exact fun h=>h.2
  ·exact h.chain q hq
 ·intro q hq
  rw [hrow q]
  split
  ·have:=h.nodup k hk
   revert this
   cases H.row k with
   | nil=>exact fun h=>h
   | cons a l=>exact fun h=>(ajM.1 h).2
  ·exact h.nodup q hq
 ·intro q hq x hx
  rw [hrow q] at hx
  split at hx
  ·rename_i e;subst e
   exact h.og q hq x (List.mem_of_mem_tail hx)
  ·exact h.og q hq x hx
theorem eu.ahg (h:eu H) {k a:Nat} {l:List Nat} (hk:k<4) (hr:H.row k=a::l):H.jf a=gI (l.headD 0)/\(∃ B,H.iC a=some (B,k))/\H.bn a=false/\H.jg a=true/\l.headD 0<=1048576:=by
 have hc:=h.chain k hk
 have ho:=h.og k hk a (by rw [hr];simp)
 have hi:=h.jg.2 ⟨k,hk,show a∈H.row k by rw [hr];simp⟩
 refine ⟨by rw [hr] at hc;exact hc.1,ho.2,ho.1,hi,?_⟩
 have:=(h.take hk).VX hk
 rw [EC (H:=H) (H':=H.take k) rfl h.oP hk,aZ rfl,hr] at this
 exact this
theorem eu.abx (h:eu H) {k a:Nat} {l:List Nat} (hk:k<4) (hr:H.row k=a::l) (x:Nat):(H.take k).jg x=if x=a then false else H.jg x:=by
 have hrow:=EC (H:=H) (H':=H.take k) rfl h.oP hk
 have h':=h.take hk
 rw [ajO,h'.jg]
 have hnd:=h.nodup k hk
 rw [hr] at hnd hrow
 split
 ·rename_i e;subst e
  simp only [Bool.false_eq_true,iff_false]
  rintro ⟨q,hq,hm⟩
  rw [hrow q] at hm
  split at hm
  ·exact (ajM.1 hnd).1 hm
  ·rename_i hne
   have h1:=(h.og q hq x hm).2
   have h2:=(h.og k hk x (by rw [hr];simp)).2
   obtain ⟨B,h1⟩:=h1
   obtain ⟨B',h2⟩:=h2
   rw [h1] at h2
   simp at h2
   exact hne h2.2
 ·rename_i hne
  rw [h.jg]
  constructor
  ·rintro ⟨q,hq,hm⟩
   rw [hrow q] at hm
   split at hm
   ·rename_i e;subst e
    exact ⟨q,hq,by rw [hr];exact ajP _ hm⟩
   ·exact ⟨q,hq,hm⟩
  ·rintro ⟨q,hq,hm⟩
   refine ⟨q,hq,?_⟩
   rw [hrow q]
   split
   ·rename_i e;subst e
    rw [hr] at hm
    rcases ajN.1 hm with e|hm
    ·exact absurd e hne
    ·exact hm
   ·exact hm
theorem eu.adZ (h:eu H) {a B k:Nat} (ho:H.iC a=some (B,k)) (hb:H.bn a=false) (hi:H.jg a=false) (x:Nat):(H.put a k).jg x=if x=a then true else H.jg x:=by
 have hk:=h.jh ho
 have hrow:=EC (H:=H) (H':=H.put a k) rfl h.oP hk
 have h':=h.put ho hb hi
 rw [ajO,h'.jg]
 split
 ·rename_i e;subst e
  simp only [iff_true]
  exact ⟨k,hk,by rw [hrow k,aZ rfl];simp⟩
 ·rename_i hne
  rw [h.jg]
  constructor
  ·rintro ⟨q,hq,hm⟩
   rw [hrow q] at hm
   split at hm
   ·rename_i e;subst e
    rcases ajN.1 hm with e|hm
    ·exact absurd e hne
    ·exact ⟨q,hq,hm⟩
   ·exact ⟨q,hq,hm⟩
  ·rintro ⟨q,hq,hm⟩
   refine ⟨q,hq,?_⟩
   rw [hrow q]
   split
   ·rename_i e;subst e;exact ajP _ hm
   ·exact hm
theorem eu.assign (h:eu H) {B k:Nat} (h0:H.K.getD B 0=0) (hk:k<4):eu (H.assign B k):=by
 have hz:∀ a,1<=a->a<=H.b*H.ww->(a - 1)/H.ww=B->H.jf a=0:=fun a h1 h2 h3=>h.zero a h1 h2 (by rw [h3];exact h0)
 have hown:∀ {x B' q},H.iC x=some (B',q)->(H.assign B k).iC x=some (B',q):=fun h=>Zf k h0 h
 refine ⟨h.sU,h.zk,?_,h.lU,h.oP,h.chain,h.nodup,?_,?_,?_,h.Ea,fun y y1 y2 y3=>h.zero y y1 y2 ?_⟩
 rotate_right
 ·by_cases e:B=(y - 1)/H.ww
  ·rw [<- e];exact h0
  ·have y3':(H.K.set B (k+1)).getD ((y - 1)/H.ww) 0=0:=y3
   rwa [Ez e] at y3'
 ·intro x hx
  rcases ajL hx with h1|rfl
  ·exact h.k4 x h1
  ·omega
 ·intro q hq x hx
  obtain ⟨h1,B',h2⟩:=h.og q hq x hx
  exact ⟨h1,B',hown h2⟩
 ·intro x hx
  obtain ⟨B',k',f,h1,h2⟩:=h.kG x hx
  exact ⟨B',k',f,hown h1,h2⟩
 ·intro x B' q hx
  by_cases e:B'=B
  ·obtain ⟨h1,h2,h3,_⟩:=gB hx
   exact .inl (hz x h1 h2 (h3.symm.trans e))
  ·exact h.yB x B' q (U9 hx e)
theorem eu.wK (h:eu H) {a B k f:Nat} (ho:H.iC a=some (B,k)) (hb:H.bn a=false) (hi:H.jg a=false) (hf:mX k f):eu (H.wK a k f):=by
 obtain ⟨o1,o2,_⟩:=gB ho
 have hal:a<=H.A.length:=by have:=h.sU;omega
 have hw:∀ y,(H.wK a k f).jf y=if y=a then lT k f else H.jf y:=fun y=>Fg o1 hal _ y
 have hox:=(wJ hf).2.2.1
 refine ⟨by simpa [HS.wK] using h.sU,h.zk,h.k4,?_,h.oP,?_,h.nodup,h.og,?_,?_,h.Ea,fun y y1 y2 y3=>by rw [hw,aT (fun e:y=a=>VW ho (by rw [<- e];exact y3))];exact h.zero y y1 y2 y3⟩
 ·intro x hx
  rcases ajL hx with h1|rfl
  ·exact h.lU x h1
  ·unfold sD;omega
 ·intro q hq
  exact (h.chain q hq).congr fun x hx=>by rw [hw,aT (fun e:x=a=>h.GH hi hq (by rw [<- e];exact hx))]
 ·intro x hx
  obtain ⟨B',k',f',h1,h2,h3⟩:=h.kG x hx
  refine ⟨B',k',f',h1,h2,?_⟩
  rw [hw,aT (fun e=>?_)]
  ·exact h3
  ·subst e
   rw [show (H.wK x k f).bn x=H.bn x from rfl,hb] at hx
   cases hx
 ·intro x B' k' hx
  rw [hw]
  split
  ·rename_i e;subst e
   rw [show (H.wK x k f).iC x=H.iC x from rfl,ho] at hx
   cases hx
   exact .inr (.inr ⟨f,hf,rfl⟩)
  ·exact h.yB x B' k' hx
theorem eu.VY (h:eu H) {a B k m:Nat} (ho:H.iC a=some (B,k)) (hm:H.tK a=some m):mX k m/\H.jf a=lT k m:=by
 unfold HS.tK at hm
 rcases h.yB a B k ho with h1|⟨x,hx,h1⟩|⟨f,hf,h1⟩
 ·rw [h1] at hm;cases hm
 ·rw [h1] at hm
  cases hp:Ey (gI x) with
  | none=>rw [hp] at hm;cases hm
  | some cf =>
    obtain ⟨c,f⟩:=cf
    have h2:=Fb hp
    have h3:=(wJ h2.1).2.2.1
    have h4:=xk hx
    have:144115188075855872<=gI x:=by unfold gI;omega
    omega
 ·rw [h1,VU hf] at hm
  cases hm
  exact ⟨hf,h1⟩
theorem eu.Aq (h:eu H) {a B k m:Nat} (c:Bool) (ho:H.iC a=some (B,k)) (hi:H.jg a=false) (hm:H.tK a=some m):eu (H.Aq a c):=by
 refine ⟨h.sU,h.zk,h.k4,h.lU,h.oP,h.chain,h.nodup,?_,?_,h.yB,h.Ea,h.zero⟩
 ·intro q hq x hx
  obtain ⟨h1,h2⟩:=h.og q hq x hx
  refine ⟨?_,h2⟩
  show iZ H.bn a true x=false
  unfold iZ
  rw [aT (fun e:x=a=>h.GH hi hq (by rw [<- e];exact hx))]
  exact h1
 ·intro x hx
  by_cases e:x=a
  ·subst e
   obtain ⟨h1,h2⟩:=h.VY ho hm
   exact ⟨B,k,m,ho,h1,h2⟩
  ·have hx':iZ H.bn a true x=true:=hx
   unfold iZ at hx'
   rw [aT e] at hx'
   exact h.kG x hx'
theorem eu.rZ (h:eu H) (a:Nat):eu (H.rZ a):=by
 refine ⟨h.sU,h.zk,h.k4,h.lU,h.oP,h.chain,h.nodup,?_,?_,h.yB,h.Ea,h.zero⟩
 ·intro q hq x hx
  obtain ⟨h1,h2⟩:=h.og q hq x hx
  refine ⟨?_,h2⟩
  show iZ H.bn a false x=false
  unfold iZ
  split
  ·rfl
  ·exact h1
 ·intro x hx
  have hx':iZ H.bn a false x=true:=hx
  unfold iZ at hx'
  split at hx'
  ·cases hx'
  ·exact h.kG x hx'
theorem eu.iK (h:eu H) (a:Nat) (c:Bool):eu (H.iK a c):=⟨h.sU,h.zk,h.k4,h.lU,h.oP,h.chain,h.nodup,h.og,h.kG,h.yB,h.Ea,h.zero⟩
theorem eu.setCell (h:eu H) (i v:Nat) (hv:v<=H.b*H.ww):eu (H.setCell i v):=by
 refine ⟨h.sU,h.zk,h.k4,h.lU,h.oP,h.chain,h.nodup,h.og,h.kG,h.yB,?_,h.zero⟩
 intro x hx
 rcases ajL hx with h1|rfl
 ·exact h.Ea x h1
 ·exact hv
theorem eu.obj (h:eu H) {a:Nat} (ha:H.Dy a=true):∃ B k m,H.iC a=some (B,k)/\mX k m/\H.jf a=lT k m/\H.tK a=some m/\H.nf a=m:=by
 have key:∀ B k m,H.iC a=some (B,k)->mX k m->H.jf a=lT k m->∃ B k m,H.iC a=some (B,k)/\mX k m/\H.jf a=lT k m/\H.tK a=some m/\H.nf a=m:=fun B k m h1 h2 h3=>by
  have h4:H.tK a=some m:=by unfold HS.tK;rw [h3,VU h2];rfl
  exact ⟨B,k,m,h1,h2,h3,h4,by unfold HS.nf;rw [h4];rfl⟩
 unfold HS.Dy at ha
 rcases Bool.or_eq_true_iff.1 ha with hb|hh
 ·obtain ⟨B,k,f,h1,h2,h3⟩:=h.kG a hb
  exact key B k f h1 h2 h3
 ·obtain ⟨h1,h2⟩:=Bool.and_eq_true_iff.1 hh
  unfold HS.qU at h1
  simp only [Bool.and_eq_true] at h1
  obtain ⟨⟨B,k⟩,ho⟩:=ajQ.1 h1.1.1
  obtain ⟨m,hm⟩:=ajQ.1 h2
  obtain ⟨h3,h4⟩:=h.VY ho hm
  exact key B k m ho h3 h4
theorem eu.field (h:eu H) {a f:Nat} (ha:H.Dy a=true) (hf:f<H.nf a):H.iC (a+1+f)=none/\a+1+f<=H.b*H.ww/\1<=a/\H.K.getD ((a+1+f - 1)/H.ww) 0≠0:=by
 obtain ⟨B,k,m,ho,h2,_,_,h5⟩:=h.obj ha
 rw [h5] at hf
 have hk:=h2.2
 have:=Va ho (1+f) (by omega) (by omega)
 rw [<- Nat.add_assoc] at this
 exact ⟨this.1,this.2.1,(gB ho).1,this.2.2⟩
theorem eu.uj (h:eu H) {x v:Nat} (h1:1<=x) (h2:x<=H.b*H.ww) (hn:H.iC x=none) (hK:H.K.getD ((x - 1)/H.ww) 0≠0) (hv:v<sD):eu (H.uj x v):=by
 have hal:x<=H.A.length:=by have:=h.sU;omega
 have hw:∀ y,(H.uj x v).jf y=if y=x then v else H.jf y:=fun y=>Fg h1 hal _ y
 have hne:∀ {y B k},H.iC y=some (B,k)->y≠x:=fun ho e=>by subst e;rw [hn] at ho;cases ho
 refine ⟨by simpa [HS.uj] using h.sU,h.zk,h.k4,?_,h.oP,?_,h.nodup,h.og,?_,?_,h.Ea,fun y y1 y2 y3=>by rw [hw,aT (fun e:y=x=>hK (by rw [<- e];exact y3))];exact h.zero y y1 y2 y3⟩
 ·intro y hy
  rcases ajL hy with g|rfl
  ·exact h.lU y g
  ·exact hv
 ·intro q hq
  refine (h.chain q hq).congr fun y hy=>?_
  obtain ⟨_,B,ho⟩:=h.og q hq y hy
  rw [hw,aT (hne ho)]
 ·intro y hy
  obtain ⟨B',k',f',g1,g2,g3⟩:=h.kG y hy
  exact ⟨B',k',f',g1,g2,by rw [hw,aT (hne g1)];exact g3⟩
 ·intro y B k ho
  rw [hw,aT (hne ho)]
  exact h.yB y B k ho
end
end
section
open Go.RowKit
theorem xZ {k:Nat} (h:k<4):2<=2^(k+1)/\2^(k+1)<=16:=by
 obtain rfl|rfl|rfl|rfl:k=0\/k=1\/k=2\/k=3:=by omega
 all_goals decide
theorem Fh {b ww z B0 s j:Nat} (hz:2<=z/\z<=16) (hw:16<=ww/\ww<=256) (hB:B0<b) (hs:s<ww/z) (hj:j<z) :
 s*z+j<ww/\B0*ww+(s*z+j)<b*ww/\(B0*ww+(s*z+j))/ww=B0/\(s*z+j)/z=s/\(s*z+j)%z=j:=by
 have h1:(s+1)*z<=ww:=Nat.le_trans (ajE z (ajR hs)) (ajD ww z)
 have h2:(s+1)*z=s*z+z:=by rw [ajF,ajG]
 have h3:(B0+1)*ww<=b*ww:=ajE ww (ajR hB)
 have h4:(B0+1)*ww=B0*ww+ww:=by rw [ajF,ajG]
 refine ⟨by omega,by omega,?_,?_,?_⟩
 ·rw [ajS,ajT _ _ (by omega),ajH (by omega),ajI]
 ·rw [ajS,ajT _ _ (by omega),ajH hj,ajI]
 ·rw [ajS,Nat.add_mul_mod_self_right,ajJ hj]
theorem Q5 {M L s j z ww per:Nat} (hz:2<=z/\z<=16) (h4:L/z=s) (h5:L%z=j) (hL:L<ww) (hw:ww<=256) (hM:M<=1048576) (hs:s<per) :
 wrap64 (wrap64 (((M+L:Nat):Int)+1 - 1) - (M:Int))=(L:Int)/\wrap64 ((L:Int)/(z:Int))=(s:Int)/\wrap64 ((L:Int)%(z:Int))=(j:Int)/\(L:Int).tmod (z:Int)=(j:Int)/\(L:Int).tdiv (z:Int)=(s:Int)/\wrap64 ((L:Int).tdiv (z:Int))=(s:Int) /\
 IntKind.i64.wrap (s:Int)=(s:Int)/\IntKind.i64.wrap (M:Int)=(M:Int)/\decide ((per:Int)<=(s:Int))=false/\((z:Int)==0)=false/\¬ (z:Int)=0/\¬ z=0/\(2:Int)<=(z:Int):=by
 have hs1:s<=L:=by rw [<- h4];exact ajx _ _
 have hj1:j<=L:=by rw [<- h5];exact Nat.mod_le _ _
 have e1:((L:Int)/(z:Int))=(s:Int):=by rw [<- h4];simp
 have e2:((L:Int)%(z:Int))=(j:Int):=by rw [<- h5];simp
 have e3:(L:Int).tmod (z:Int)=(j:Int):=by rw [Int.tmod_eq_emod_of_nonneg (by omega),e2]
 have e4:(L:Int).tdiv (z:Int)=(s:Int):=by rw [Int.tdiv_eq_ediv_of_nonneg (by omega),e1]
 rw [e1,e2,e3,e4]
 clear e1 e2 e3 e4 h4 h5
 refine ⟨?_,ajy _ (by omega),ajy _ (by omega),rfl,rfl,ajy _ (by omega),ajw _ (by omega),ajw _ (by omega),gJ (by omega),by simp;omega,by omega,by omega,by omega⟩
 rw [show ((M+L:Nat):Int)+1 - 1=((M+L:Nat):Int) by omega,ajy ((M+L:Nat):Int) (by omega),show ((M+L:Nat):Int) - (M:Int)=(L:Int) by omega,ajy (L:Int) (by omega)]
theorem iQ {P:Program} {f:Nat} {args:Array Value} {w:World} {p:Ending->Prop} (h:Calls P f args w fun e w'=>p e/\w=w'):Calls P f args w fun e w'=>p e/\w'=w:=h.mono fun _ _ k=>⟨k.1,k.2.symm⟩
section
variable {c:bK} {b ww:Nat} (hok:c.ok=true) (hb:c.b=b) (hw:c.w=ww)
include hok hb hw
theorem Ot (k B0 s j:Nat) (hk:k<4) (hB:B0<b) (hs:s<ww/2^(k+1)) (hj:j<2^(k+1)) (w:World) (hT:lu w) (hS:jk w):Calls aA 197 #[.agg c.cells.toArray,ah (k:Int),ah (((B0*ww+(s*2^(k+1)+j):Nat):Int)+1)] w fun e w'=>e = .returned (.tuple #[.agg #[ah (B0:Int),ah (s:Int),ah (j:Int)],.bool true])/\aj aB w w':=by
 obtain ⟨W0,hW0⟩:∃ W',W'=(w.alloc (.cells c.cells.toArray 23)).alloc (.cells #[ah 0,ah 0,ah 0] 229):=⟨_,rfl⟩
 have HK:Hid (aj aB w W0):=by rw [hW0];exact ((aj.refl _ _).alloc _).alloc _
 have hn:=qH hok hb hw
 have hz:=xZ hk
 obtain ⟨q1,q2,q3,q4,q5⟩:=Fh (b:=b) hz ⟨hn.2.2.1,hn.2.2.2.1⟩ hB hs hj
 have HC:=ay (Bc hok hb hw (B0*ww+(s*2^(k+1)+j)) q2 W0 (hT.aK HK.out))
 rw [q3] at HC
 have HB:=ay (show aF W0 w.heap.size c.cells 23 by rw [hW0];exact (aF.bC w _ _).alloc _)
 have HO:Hid (aF W0 (w.heap.size+1) [ah 0,ah 0,ah 0] 229):=by
  rw [hW0]
  have h:=aF.bC (w.alloc (.cells c.cells.toArray 23)) [ah 0,ah 0,ah 0] 229
  rw [ajq] at h
  exact h
 have hI:=fun W=>qA (k:Int) W
 have HZ:Hid (∀ W,aj aB w W->Calls aA 201 #[ah (k:Int)] W fun e w'=>e = .returned (ah ((2^(k+1):Nat):Int))/\W=w'):=fun W hW=>by
  have h:=A8 (k:Int) W (hS.aK hW)
  rw [KF hk] at h
  simpa using h
 have HP:Hid (∀ W,aj aB w W->Calls aA 194 #[ah (ww:Int),ah (k:Int)] W fun e w'=>e = .returned (ah ((ww/2^(k+1):Nat):Int))/\W=w'):=fun W hW=>Dw ww k ⟨hn.2.2.1,hn.2.2.2.1⟩ hk W (hS.aK hW)
 have hkd:decide (0<=(k:Int)/\(k:Int)<4)=true:=fK (by omega)
 simp only [hkd] at hI
 have HI:=ay hI
 clear hI
 obtain ⟨c0,c1,c2,c3,c4,c5,c6⟩:=c
 simp only at hb hw
 subst hb hw
 have hmul:(B0:Int)*(ww:Int)=((B0*ww:Nat):Int):=by simp
 have hM:B0*ww<=b*ww:=ajE _ (by omega)
 generalize s*2^(k+1)+j=L at *
 generalize 2^(k+1)=z at *
 generalize ww/z=per at *
 generalize b*ww=N at *
 generalize B0*ww=M at *
 obtain ⟨hleft,hq,hr,hr2,hq2,hm1,hs1,hmw,d1,hz0,hz1,hz2,hzI⟩:=Q5 hz q4 q5 (Nat.lt_of_le_of_lt (Nat.le_refl _) q1) hn.2.2.2.1 (Nat.le_trans hM hn.2.2.2.2) hs
 obtain ⟨aa,Gq⟩:∃ aa:Int,aa=((M+L:Nat):Int)+1:=⟨_,rfl⟩
 rw [<- Gq] at HC hleft ⊢
 simp only [bK.cells] at *
 clear hT hS hok q1 q2 q3 q4 q5 hn hkd hs hj hM Gq
 go_enter func197,ntmps197
 go_wp2_with fail
 rw [<- hW0]
 clear hW0
 refine HC.out.mono ?_
 rintro e w1 ⟨rfl,hk1⟩
 have bI:=ay (HK.out.trans hk1)
 have uI:=ay (hk1.aH HO.out (fun f=>f))
 have HB1:=ay (hk1.aH HB.out (fun f=>f))
 have y1:=(hk1.aH HB.out (fun f=>f)).cell 1 rfl
 clear hk1 HK HC HB HO
 go_wp2_with (go_at_call 198;refine (HI.out _).mono ?_;rintro e w2 ⟨rfl,rfl⟩)
 go_region_held3 (fun w'=>aj aB w1 w')
  (first | exact aj.refl _ _ | exact (aj.refl _ _).drew | exact (aj.refl _ _).drew.alloc _ | assumption | exact aj.alloc (by assumption) _ | fail "nR")
  ((go_at_call 201
    refine (HZ.out _ (bI.out.trans (by first | assumption | exact aj.alloc (by assumption) _ | exact (aj.refl _ _).drew | exact (aj.refl _ _).drew.alloc _ | fail "qg"))).mono ?_
    rintro e w2 ⟨rfl,rfl⟩))
 all_goals
  obtain ⟨W2,hW2⟩:∃ W',W'=(w1.alloc (.cells #[ah (B0:Int),ah (s:Int),ah (j:Int)] 229)).drew:=⟨_,rfl⟩
  rw [<- hW2]
  have dF:Hid (aj aB w W2):=by rw [hW2];exact (bI.out.alloc _).drew
  have hp2:aF W2 w1.heap.size [ah (B0:Int),ah (s:Int),ah (j:Int)] 229:=by rw [hW2];exact (aF.bC w1 _ _).drew
  have ho2:aF W2 (w.heap.size+1) [ah 0,ah 0,ah 0] 229:=by rw [hW2];exact (uI.out.alloc _).drew
  have hb2:=show aF W2 w.heap.size _ 23 by rw [hW2];exact (HB1.out.alloc _).drew
  have hlt:w.heap.size+1<w1.heap.size:=uI.out.lt
  have hOg:w.heap.size<=w.heap.size+1:=by omega
  clear hW2 y1 HB1 uI bI HZ hr hr2 hq hq2 hm1 hs1 hleft hmul hmw hz0 hz1 hz2 hzI
  generalize w1.heap.size=D at *
  generalize w.heap.size+1=O at *
  have y1:=hb2.cell 1 rfl
  have p0:=hp2.cell 0 rfl;have p1:=hp2.cell 1 rfl;have p2:=hp2.cell 2 rfl
  have o0:=ho2.cell 0 rfl;have o1:=ho2.cell 1 rfl;have o2:=ho2.cell 2 rfl
  have f0:=ho2.free 0;have f1:=ho2.free 1;have f2:=ho2.free 2
  have Q7:=ay ho2
  have afi:=ay hp2
  clear hp2 ho2 hb2
  go_wp2_with fail
  go_quiet (first|(go_at_call 194;exact Calls.quiet_of_same (iQ (HP.out _ (dF.out.drewN _)))))
  obtain ⟨W3,hW3⟩:∃ W',W'=W2.drewN nq:=⟨_,rfl⟩
  rw [<- hW3]
  have jF:Hid (aj aB w W3):=by rw [hW3];exact dF.out.drewN _
  have h23:aj aB W2 W3:=by rw [hW3];exact (aj.refl _ _).drewN _
  have hp3:=h23.aH afi.out (fun f=>f)
  have ho3:=h23.aH Q7.out (fun f=>f)
  clear hW3 h23 y1 p0 p1 p2 o0 o1 o2 f0 f1 f2 afi Q7 dF
  have p0:=hp3.cell 0 rfl;have p1:=hp3.cell 1 rfl;have p2:=hp3.cell 2 rfl
  have o0:=ho3.cell 0 rfl;have o1:=ho3.cell 1 rfl;have o2:=ho3.cell 2 rfl
  have f0:=ho3.free 0;have f1:=ho3.free 1;have f2:=ho3.free 2
  have zX:=ay ho3
  clear hp3 ho3
  have d2:¬ (per<=s):=fun h=>absurd (fK (Int.ofNat_le.2 h)) (by rw [d1];decide)
  go_wp2_with fail
  obtain ⟨W4,l9⟩:∃ W',W'=(((W3.setCell ⟨O,0,none⟩ (ah (B0:Int))).setCell ⟨O,1,none⟩ (ah (s:Int))).setCell ⟨O,2,none⟩ (ah (j:Int))):=⟨_,rfl⟩
  rw [<- l9]
  have hF:aF W4 O [ah (B0:Int),ah (s:Int),ah (j:Int)] 229:=by rw [l9];exact ((zX.out.set 0 _).set 1 _).set 2 _
  have k0:=hF.cell 0 rfl;have k1:=hF.cell 1 rfl;have k2:=hF.cell 2 rfl
  have hk4:aj aB w W4:=by
   rw [l9]
   exact jF.out.kF (((((aj.refl (only O) W3).put 0 _).put 1 _).put 2 _)) (fun i hi e=>absurd hi (by unfold only at e;omega))
  refine bodyPost_ret (v := .tuple #[.agg #[ah (B0:Int),ah (s:Int),ah (j:Int)],.bool true]) (by simp [results,Tryz.f197,go_sem,k0,k1,k2]) rfl ⟨rfl,hk4⟩
end
section
variable {c:bK} {b ww:Nat} (hok:c.ok=true) (hb:c.b=b) (hw:c.w=ww)
include hok hb hw
theorem aea (k B0 s:Nat) (hk:k<4) (hB:B0<b) (hs:s<ww/2^(k+1)) (w:World) (hT:lu w) (hS:jk w):Calls aA 195 #[.agg c.cells.toArray,ah (k:Int),.agg #[ah (B0:Int),ah (s:Int),ah 0]] w fun e w'=>e = .returned (.tuple #[ah (((B0*ww+s*2^(k+1):Nat):Int)+1),.bool true])/\aj aB w w':=by
 obtain ⟨W0,hW0⟩:∃ W',W'=(w.alloc (.cells c.cells.toArray 23)).alloc (.cells #[ah (B0:Int),ah (s:Int),ah 0] 229):=⟨_,rfl⟩
 have HK:Hid (aj aB w W0):=by rw [hW0];exact ((aj.refl _ _).alloc _).alloc _
 have hn:=qH hok hb hw
 have hz:=xZ hk
 obtain ⟨q1,q2,q3,q4,q5⟩:=Fh (b:=b) (j:=0) hz ⟨hn.2.2.1,hn.2.2.2.1⟩ hB hs (by omega)
 have HR:=ay (Dv c W0 (hT.aK HK.out))
 rw [hok] at HR
 have HB:=ay (show aF W0 w.heap.size c.cells 23 by rw [hW0];exact (aF.bC w _ _).alloc _)
 have HO:Hid (aF W0 (w.heap.size+1) [ah (B0:Int),ah (s:Int),ah 0] 229):=by
  rw [hW0]
  have h:=aF.bC (w.alloc (.cells c.cells.toArray 23)) [ah (B0:Int),ah (s:Int),ah 0] 229
  rw [ajq] at h
  exact h
 have hI:=fun W=>qA (k:Int) W
 have hkd:decide (0<=(k:Int)/\(k:Int)<4)=true:=fK (by omega)
 simp only [hkd] at hI
 have HI:=ay hI
 have HZ:Hid (∀ W,aj aB w W->Calls aA 201 #[ah (k:Int)] W fun e w'=>e = .returned (ah ((2^(k+1):Nat):Int))/\W=w'):=fun W hW=>by
  have h:=A8 (k:Int) W (hS.aK hW)
  rw [KF hk] at h
  simpa using h
 have HP:Hid (∀ W,aj aB w W->Calls aA 194 #[ah (ww:Int),ah (k:Int)] W fun e w'=>e = .returned (ah ((ww/2^(k+1):Nat):Int))/\W=w'):=fun W hW=>Dw ww k ⟨hn.2.2.1,hn.2.2.2.1⟩ hk W (hS.aK hW)
 obtain ⟨c0,c1,c2,c3,c4,c5,c6⟩:=c
 simp only at hb hw
 subst hb hw
 have hmul:(B0:Int)*(ww:Int)=((B0*ww:Nat):Int):=by simp
 have hmul2:(s:Int)*((2^(k+1):Nat):Int)=((s*2^(k+1):Nat):Int):=by rw [Int.natCast_mul]
 have hM:B0*ww<=b*ww:=ajE _ (by omega)
 rw [Nat.add_zero] at q1 q2 q3 q4 q5
 generalize s*2^(k+1)=L at *
 generalize 2^(k+1)=z at *
 generalize ww/z=per at *
 generalize b*ww=N at *
 generalize B0*ww=M at *
 have e1:IntKind.i64.wrap (1+(M:Int))=1+(M:Int):=ajw _ (by omega)
 have e2:IntKind.i64.wrap (1+(M:Int)+(L:Int))=((M+L:Nat):Int)+1:=by rw [ajw _ (by omega)];omega
 have e3:IntKind.i64.wrap (M:Int)=(M:Int):=ajw _ (by omega)
 have e4:IntKind.i64.wrap (L:Int)=(L:Int):=ajw _ (by omega)
 have e5:IntKind.i64.wrap (((M+L:Nat):Int)+1)=((M+L:Nat):Int)+1:=ajw _ (by omega)
 obtain ⟨R,hR⟩:∃ R:Int,R=((M+L:Nat):Int)+1:=⟨_,rfl⟩
 rw [<- hR] at e2 e5 ⊢
 have d1:decide ((b:Int)<=(B0:Int))=false:=gJ (by omega)
 have d2:decide ((per:Int)<=(s:Int))=false:=gJ (fun h=>absurd hs (Nat.not_lt.2 (Int.ofNat_le.1 h)))
 have d3:decide ((z:Int)<=0)=false:=gJ (fun h=>by have:=hz.1;omega)
 have n1:decide (b<=B0)=false:=gJ (by omega)
 have n2:decide ((B0:Int)<0)=false:=gJ (by omega)
 have n3:decide (per<=s)=false:=gJ (Nat.not_le.2 hs)
 have n4:decide ((s:Int)<0)=false:=gJ (by omega)
 have n5:¬ z=0:=fun h=>by have:=hz.1;omega
 have n6:¬ (b<=B0):=by omega
 have n7:¬ (per<=s):=Nat.not_le.2 hs
 simp only [bK.cells] at *
 clear hT hS hok q1 q2 q3 q4 q5 hn hkd hs hM hR hI hz hk hB
 go_enter func195,ntmps195
 go_wp2_with fail
 rw [<- hW0]
 clear hW0
 refine HR.out.mono ?_
 rintro e w1 ⟨rfl,hk1⟩
 have bI:=ay (HK.out.trans hk1)
 have uI:=ay (hk1.aH HO.out (fun f=>f))
 have HB1:=ay (hk1.aH HB.out (fun f=>f))
 clear hk1 HK HR HB HO
 have y0:=HB1.out.cell 0 rfl
 have y1:=HB1.out.cell 1 rfl
 have o0:=uI.out.cell 0 rfl;have o1:=uI.out.cell 1 rfl;have o2:=uI.out.cell 2 rfl
 go_wp2_with (go_at_call 198;refine (HI.out _).mono ?_;rintro e w2 ⟨rfl,rfl⟩)
 go_quiet (first|(go_at_call 194;exact Calls.quiet_of_same (iQ (HP.out _ (bI.out.drewN _)))))
 obtain ⟨W2,hW2⟩:∃ W',W'=w1.drewN nq:=⟨_,rfl⟩
 rw [<- hW2]
 have dF:Hid (aj aB w W2):=by rw [hW2];exact bI.out.drewN _
 have hkd:aj aB w1 W2:=by rw [hW2];exact (aj.refl _ _).drewN _
 have uV:=ay (hkd.aH uI.out (fun f=>f))
 have HB2:=ay (hkd.aH HB1.out (fun f=>f))
 clear hkd
 clear hW2 bI uI HB1 y0 y1 o0 o1 o2
 have y0:=HB2.out.cell 0 rfl
 have y1:=HB2.out.cell 1 rfl
 have o0:=uV.out.cell 0 rfl;have o1:=uV.out.cell 1 rfl;have o2:=uV.out.cell 2 rfl
 go_wp2_with fail
 go_quiet (first|(go_at_call 201;exact Calls.quiet_of_same (iQ (HZ.out _ (dF.out.drewN _)))))
 obtain ⟨W3,hW3⟩:∃ W',W'=W2.drewN nq:=⟨_,rfl⟩
 rw [<- hW3]
 have jF:Hid (aj aB w W3):=by rw [hW3];exact dF.out.drewN _
 have hkd:aj aB W2 W3:=by rw [hW3];exact (aj.refl _ _).drewN _
 have zX:=ay (hkd.aH uV.out (fun f=>f))
 have HB3:=ay (hkd.aH HB2.out (fun f=>f))
 clear hkd
 clear hW3 dF uV HB2 y0 y1 o0 o1 o2
 have y0:=HB3.out.cell 0 rfl
 have y1:=HB3.out.cell 1 rfl
 have o0:=zX.out.cell 0 rfl;have o1:=zX.out.cell 1 rfl;have o2:=zX.out.cell 2 rfl
 go_wp2_with fail
 go_quiet (first|(go_at_call 201;exact Calls.quiet_of_same (iQ (HZ.out _ (jF.out.drewN _)))))
 obtain ⟨W4,l9⟩:∃ W',W'=W3.drewN nq:=⟨_,rfl⟩
 rw [<- l9]
 have nV:Hid (aj aB w W4):=by rw [l9];exact jF.out.drewN _
 have hkd:aj aB W3 W4:=by rw [l9];exact (aj.refl _ _).drewN _
 have GI:=ay (hkd.aH zX.out (fun f=>f))
 have HB4:=ay (hkd.aH HB3.out (fun f=>f))
 clear hkd
 clear l9 jF zX HB3 y0 y1 o0 o1 o2
 have y0:=HB4.out.cell 0 rfl
 have y1:=HB4.out.cell 1 rfl
 have o0:=GI.out.cell 0 rfl;have o1:=GI.out.cell 1 rfl;have o2:=GI.out.cell 2 rfl
 go_wp2_with fail
 go_ret2
 exact ⟨rfl,nV.out⟩
end
end
end Go.Proofs.YtanfphjoebobaaaGreatDoor
