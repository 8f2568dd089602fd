/- Parts of a walk, put together and made shorter by a program of mine. No conditions. -/
import Derived.Test.YtanfphjoebobaaaGreatDoorZzcb
import Derived.Laws.BitsAllLaws
import Derived.OwnWalk
import Derived.Test.YtanfphjoebobaaaGreatDoorZzca
namespace Go.Proofs.YtanfphjoebobaaaGreatDoor
set_option maxRecDepth 4000
set_option maxHeartbeats 2000000
section
open Go.RowKit
theorem OE (k r:Nat) (hk:k≤2) (hr:r<72057594037927936):bits .or .u64 ((k:Int)*72057594037927936) (r:Int)=((k*72057594037927936+r:Nat):Int):=by
 have h1:(k:Int)*72057594037927936=((k*72057594037927936:Nat):Int):=by omega
 rw [h1,bits_or_u64_nat _ _ (by omega) (by omega),nat_join 56 _ _ (by omega) (by omega)]
theorem Ia (x:Nat) (hx:x<18446744073709551616):wrap64 (bits .and .u64 (x:Int) 255)=((x%256:Nat):Int):=by
 have h:=bits_and_u64_nat x 255 hx (by decide)
 rw [show ((255:Nat):Int)=255 from rfl] at h
 rw [h,nat_mask8,IntWalk.wrap64_in _ (by omega)]
theorem QS (x:Nat) (hx:x<18446744073709551616):wrap64 (bits .and .u64 (x:Int) 72057594037927935)=((x%72057594037927936:Nat):Int):=by
 have h:=bits_and_u64_nat x 72057594037927935 hx (by decide)
 rw [show ((72057594037927935:Nat):Int)=72057594037927935 from rfl] at h
 have e:x &&& 72057594037927935=x%72057594037927936:=Nat.and_two_pow_sub_one_eq_mod x 56
 rw [h,e,IntWalk.wrap64_in _ (by omega)]
theorem yL (k r:Nat) (hk:k≤2) (hr:r<72057594037927936) (w:World):Calls Tryz.prog 205 #[.int .i64 (k:Int),.int .u64 (r:Int)] w fun e w'=>e = .returned (.int .u64 ((k*72057594037927936+r:Nat):Int))∧w=w':=by
 have HL:=Lib.hid (OE k r hk hr)
 go_enter Tryz.func205,Tryz.ntmps205
 go_wp2_with fail
 go_ret
 refine ⟨?_,rfl⟩
 rw [← HL.out];rfl
theorem rE (x:Nat) (hx:x<18446744073709551616) (w:World):Calls Tryz.prog 234 #[.int .u64 (x:Int)] w fun e w'=>e = .returned (.tuple #[.int .i64 ((x/256%256:Nat):Int),.int .i64 ((x%256:Nat):Int)])∧w=w':=by
 have h1:=Ia (x/256) (by omega)
 have h2:((x/256:Nat):Int)=(x:Int)/256:=by omega
 rw [h2] at h1
 have H1:=Lib.hid h1
 have H2:=Lib.hid (Ia x hx)
 clear h1 h2 hx
 go_enter Tryz.func234,Tryz.ntmps234
 go_wp2_with fail
 go_ret2
 refine ⟨?_,rfl⟩
 rw [← H1.out,← H2.out];rfl
theorem oO (x:Nat) (hx:x<18446744073709551616) (w:World):Calls Tryz.prog 235 #[.int .u64 (x:Int)] w fun e w'=>e = .returned (.int .i64 ((x%72057594037927936:Nat):Int))∧w=w':=by
 have H:=Lib.hid (QS x hx)
 clear hx
 go_enter Tryz.func235,Tryz.ntmps235
 go_wp2_with fail
 go_ret
 refine ⟨?_,rfl⟩
 rw [← H.out];rfl
def gq (c f:Nat):Nat:=72057594037927936+c*256+f
def bW (a:Nat):Nat:=144115188075855872+a
def gY (c f:Nat):Prop:=c<4∧f+1≤2^(c+1)
instance (c f:Nat):Decidable (gY c f):=inferInstanceAs (Decidable (_∧_))
theorem QT {c:Nat} (h:c<4):iZ (c:Int)=((2^(c+1):Nat):Int) - 1:=by
 unfold iZ
 rw [yK h]
 obtain rfl|rfl|rfl|rfl:c=0∨c=1∨c=2∨c=3:=by omega
 all_goals rfl
theorem qo (c f:Nat) (hc:c<256) (hf:f<256) (w:World) (hS:Sizes w):Calls Tryz.prog 162 #[.int .i64 (c:Int),.int .i64 (f:Int)] w fun e w'=>e = .returned (.tuple #[.int .u64 ((if gY c f then gq c f else 0:Nat):Int),.bool (decide (gY c f))])∧w=w':=by
 have HI:=Lib.hid (jv (c:Int) w)
 have HR:=Lib.hid (sN (c:Int) w hS)
 by_cases h4:c<4
 ·rw [decide_eq_true (by omega)] at HI
  rw [QT h4] at HR
  have h2:2≤2^(c+1)∧2^(c+1)≤16:=by
   obtain rfl|rfl|rfl|rfl:c=0∨c=1∨c=2∨c=3:=by omega
   all_goals decide
  by_cases hff:f+1≤2^(c+1)
  ·have HO:Hid (gY c f):=⟨h4,hff⟩
   rw [if_pos HO.out,decide_eq_true HO.out]
   have HJ:Hid (bits .or .u64 ((c:Int)*256) (f:Int)=((c*256+f:Nat):Int)):=by
    have h1:(c:Int)*256=((c*256:Nat):Int):=by omega
    rw [Hid,h1,bits_or_u64_nat _ _ (by omega) (by omega),nat_join 8 _ _ (by omega) (by omega)]
   have HLA:=Lib.hid (yL 1 (c*256+f) (by decide) (by omega) w)
   have HE:Hid (1*72057594037927936+(c*256+f)=gq c f):=by unfold Hid gq;omega
   rw [HE.out,← HJ.out] at HLA
   generalize 2^(c+1)=z at *
   generalize gq c f=ow at *
   have d1:decide ((z:Int) - 1<(f:Int))=false:=decide_eq_false (by omega)
   clear hS HO hff HE hc
   have hc4:(c:Int)<4:=by omega
   go_enter Tryz.func162,Tryz.ntmps162
   go_wp2_with (first|(go_at_call 198;refine HI.out.mono ?_;rintro e w1 ⟨rfl,rfl⟩)|(go_at_call 158;refine HR.out.mono ?_;rintro e w1 ⟨rfl,rfl⟩)|(go_at_call 205;refine HLA.out.mono ?_;rintro e w1 ⟨rfl,rfl⟩))
   go_ret2
   exact ⟨rfl,rfl⟩
  ·have HO:Hid (¬ gY c f):=fun h=>hff h.2
   rw [if_neg HO.out,decide_eq_false HO.out]
   generalize 2^(c+1)=z at *
   have d1:decide ((z:Int) - 1<(f:Int))=true:=decide_eq_true (by omega)
   clear hS HO hff h4 hc
   go_enter Tryz.func162,Tryz.ntmps162
   go_wp2_with (first|(go_at_call 198;refine HI.out.mono ?_;rintro e w1 ⟨rfl,rfl⟩)|(go_at_call 158;refine HR.out.mono ?_;rintro e w1 ⟨rfl,rfl⟩))
   go_ret2
   exact ⟨rfl,rfl⟩
 ·rw [decide_eq_false (by omega)] at HI
  have HO:Hid (¬ gY c f):=fun h=>h4 h.1
  rw [if_neg HO.out,decide_eq_false HO.out]
  clear hS HO h4 hc HR
  go_enter Tryz.func162,Tryz.ntmps162
  go_wp2_with (go_at_call 198;refine HI.out.mono ?_;rintro e w1 ⟨rfl,rfl⟩)
  go_ret2
  exact ⟨rfl,rfl⟩
theorem sO (a:Nat) (ha:a<72057594037927936) (w:World):Calls Tryz.prog 239 #[.int .i64 (a:Int)] w fun e w'=>e = .returned (.tuple #[.int .u64 ((if a≤1048576 then bW a else 0:Nat):Int),.bool (decide (a≤1048576))])∧w=w':=by
 by_cases h:a≤1048576
 ·rw [if_pos h,decide_eq_true h]
  have HLA:=Lib.hid (yL 2 a (by decide) ha w)
  have HE:Hid (2*72057594037927936+a=bW a):=by unfold Hid bW;omega
  rw [HE.out] at HLA
  have d1:decide (1048576<(a:Int))=false:=decide_eq_false (by omega)
  generalize bW a=lw at *
  clear HE
  go_enter Tryz.func239,Tryz.ntmps239
  go_wp2_with (go_at_call 205;refine HLA.out.mono ?_;rintro e w1 ⟨rfl,rfl⟩)
  go_ret2
  exact ⟨rfl,rfl⟩
 ·rw [if_neg h,decide_eq_false h]
  have d1:decide (1048576<(a:Int))=true:=decide_eq_true (by omega)
  clear h
  go_enter Tryz.func239,Tryz.ntmps239
  go_wp2_with fail
  go_ret2
  exact ⟨rfl,rfl⟩
theorem lK {c f:Nat} (h:gY c f):c<4∧f<16∧gq c f<144115188075855872∧gq c f/72057594037927936=1∧gq c f/256%256=c∧gq c f%256=f:=by
 have hc:=h.1
 have h2:2^(c+1)≤16:=by
  obtain rfl|rfl|rfl|rfl:c=0∨c=1∨c=2∨c=3:=by omega
  all_goals decide
 have hf:f<16:=by have:=h.2;omega
 unfold gq
 refine ⟨hc,hf,by omega,by omega,by omega,by omega⟩
theorem lY {a:Nat} (h:a≤1048576):bW a<216172782113783808∧bW a/72057594037927936=2∧bW a%72057594037927936=a:=by
 unfold bW
 refine ⟨by omega,by omega,by omega⟩
theorem ou (x k:Nat) (hx:x/72057594037927936=k):(x:Int)/72057594037927936=(k:Int):=by
 have h1:((x:Int)/72057594037927936)=((x/72057594037927936:Nat):Int):=by omega
 rw [h1,hx]
theorem IY (c f:Nat) (h:gY c f) (w:World) (hS:Sizes w):Calls Tryz.prog 233 #[.int .u64 (gq c f:Int)] w fun e w'=>e = .returned (.int .i64 1)∧w=w':=by
 obtain ⟨hc,hf,hx,h1,h2,h3⟩:=lK h
 have HP:=Lib.hid (rE (gq c f) (by omega) w)
 rw [h2,h3] at HP
 have HO:=Lib.hid (qo c f (by omega) (by omega) w hS)
 rw [if_pos h,decide_eq_true h] at HO
 have hk:=ou (gq c f) 1 h1
 generalize gq c f=x at *
 clear h h1 h2 h3 hS
 go_enter Tryz.func233,Tryz.ntmps233
 go_wp2_with (first|(go_at_call 234;refine HP.out.mono ?_;rintro e w1 ⟨rfl,rfl⟩)|(go_at_call 162;refine HO.out.mono ?_;rintro e w1 ⟨rfl,rfl⟩))
 go_ret
 exact ⟨rfl,rfl⟩
theorem Gp (a:Nat) (h:a≤1048576) (w:World):Calls Tryz.prog 233 #[.int .u64 (bW a:Int)] w fun e w'=>e = .returned (.int .i64 2)∧w=w':=by
 obtain ⟨hx,h1,h2⟩:=lY h
 have HA:=Lib.hid (oO (bW a) (by omega) w)
 rw [h2] at HA
 have HL:=Lib.hid (sO a (by omega) w)
 rw [if_pos h,decide_eq_true h] at HL
 have hk:=ou (bW a) 2 h1
 generalize bW a=x at *
 clear h1 h2
 go_enter Tryz.func233,Tryz.ntmps233
 go_wp2_with (first|(go_at_call 235;refine HA.out.mono ?_;rintro e w1 ⟨rfl,rfl⟩)|(go_at_call 239;refine HL.out.mono ?_;rintro e w1 ⟨rfl,rfl⟩))
 go_ret
 exact ⟨rfl,rfl⟩
theorem Gq (c f:Nat) (h:gY c f) (w:World) (hS:Sizes w):Calls Tryz.prog 192 #[.int .u64 (gq c f:Int)] w fun e w'=>e = .returned (.tuple #[.int .i64 (c:Int),.int .i64 (f:Int),.bool true])∧w=w':=by
 have HK:=Lib.hid (IY c f h w hS)
 obtain ⟨hc,hf,hx,h1,h2,h3⟩:=lK h
 have HP:=Lib.hid (rE (gq c f) (by omega) w)
 rw [h2,h3] at HP
 generalize gq c f=x at *
 clear h h1 h2 h3 hS
 go_enter Tryz.func192,Tryz.ntmps192
 go_wp2_with (first|(go_at_call 234;refine HP.out.mono ?_;rintro e w1 ⟨rfl,rfl⟩)|(go_at_call 233;refine HK.out.mono ?_;rintro e w1 ⟨rfl,rfl⟩))
 go_ret3
 exact ⟨rfl,rfl⟩
theorem Gs (a:Nat) (h:a≤1048576) (w:World):Calls Tryz.prog 199 #[.int .u64 (bW a:Int)] w fun e w'=>e = .returned (.tuple #[.int .i64 (a:Int),.bool true])∧w=w':=by
 have HK:=Lib.hid (Gp a h w)
 obtain ⟨hx,h1,h2⟩:=lY h
 have HA:=Lib.hid (oO (bW a) (by omega) w)
 rw [h2] at HA
 generalize bW a=x at *
 clear h1 h2
 go_enter Tryz.func199,Tryz.ntmps199
 go_wp2_with (first|(go_at_call 235;refine HA.out.mono ?_;rintro e w1 ⟨rfl,rfl⟩)|(go_at_call 233;refine HK.out.mono ?_;rintro e w1 ⟨rfl,rfl⟩))
 go_ret2
 exact ⟨rfl,rfl⟩
def hdP (x:Nat):Option (Nat × Nat):=if gY (x/256%256) (x%256)∧gq (x/256%256) (x%256)=x then some (x/256%256,x%256) else none
theorem Ib {c f:Nat} (h:gY c f):hdP (gq c f)=some (c,f):=by
 obtain ⟨_,_,_,_,h2,h3⟩:=lK h
 unfold hdP
 rw [h2,h3,if_pos ⟨h,rfl⟩]
theorem sQ {x c f:Nat} (h:hdP x=some (c,f)):gY c f∧x=gq c f:=by
 unfold hdP at h
 split at h
 ·rename_i h1
  simp only [Option.some.injEq,Prod.mk.injEq] at h
  obtain ⟨rfl,rfl⟩:=h
  exact ⟨h1.1,h1.2.symm⟩
 ·cases h
theorem SE {x:Nat} (h:hdP x=none) (ho:gY (x/256%256) (x%256)):gq (x/256%256) (x%256)≠x:=fun e=>by
 unfold hdP at h
 rw [if_pos ⟨ho,e⟩] at h
 cases h
def mg (x:Nat):Nat:=if x%72057594037927936≤1048576∧bW (x%72057594037927936)=x then 2 else 0
theorem int_ne {a b:Nat} (h:a≠b):((a:Int)==(b:Int))=false:=by
 simp;omega
theorem int_eq {a b:Nat} (h:a=b):((a:Int)==(b:Int))=true:=by
 simp;omega
theorem Gt (x:Nat) (hx:x<216172782113783808) (h:hdP x=none) (w:World) (hS:Sizes w):Calls Tryz.prog 233 #[.int .u64 (x:Int)] w fun e w'=>e = .returned (.int .i64 (mg x:Int))∧w=w':=by
 have HP:=Lib.hid (rE x (by omega) w)
 have HO:=Lib.hid (qo (x/256%256) (x%256) (by omega) (by omega) w hS)
 have HA:=Lib.hid (oO x (by omega) w)
 have HL:=Lib.hid (sO (x%72057594037927936) (by omega) w)
 have hno:=SE h
 have HLT:Hid (mg x=if x%72057594037927936≤1048576∧bW (x%72057594037927936)=x then 2 else 0):=rfl
 have hkk:x/72057594037927936=1∨x/72057594037927936=2∨x/72057594037927936=0:=by omega
 have sS:x/72057594037927936≠2→∀ a,bW a≠x∨72057594037927936≤a:=fun hk a=>by
  rcases Nat.lt_or_ge a 72057594037927936 with h1|h1
  ·left;intro e;unfold bW at e;omega
  ·right;exact h1
 have hz:x/72057594037927936=0→mg x=0:=fun hk=>by
  rw [HLT.out,if_neg]
  rintro ⟨_,h2⟩
  unfold bW at h2;omega
 have h1':x/72057594037927936=1→mg x=0:=fun hk=>by
  rw [HLT.out,if_neg]
  rintro ⟨_,h2⟩
  unfold bW at h2;omega
 rcases hkk with hk|hk|hk
 ·have hke:=ou x 1 hk
  rw [h1' hk]
  have HLN:Hid (x%72057594037927936≤1048576→((bW (x%72057594037927936):Int)==(x:Int))=false):=fun _=>int_ne (fun e=>by unfold bW at e;omega)
  by_cases ho:gY (x/256%256) (x%256)
  ·have hne:=int_ne (hno ho)
   rw [if_pos ho,decide_eq_true ho] at HO
   by_cases hl:x%72057594037927936≤1048576
   ·have hln:=HLN.out hl
    rw [if_pos hl,decide_eq_true hl] at HL
    generalize x/256%256=c at *
    generalize x%256=f at *
    generalize x%72057594037927936=a at *
    generalize gq c f=ow at *
    generalize bW a=lw at *
    clear h hno ho hl hz h1' sS hk HLT HLN hS
    go_enter Tryz.func233,Tryz.ntmps233
    go_wp2_with (first|(go_at_call 234;refine HP.out.mono ?_;rintro e w1 ⟨rfl,rfl⟩)|(go_at_call 162;refine HO.out.mono ?_;rintro e w1 ⟨rfl,rfl⟩)|(go_at_call 235;refine HA.out.mono ?_;rintro e w1 ⟨rfl,rfl⟩)|(go_at_call 239;refine HL.out.mono ?_;rintro e w1 ⟨rfl,rfl⟩))
    go_ret
    exact ⟨rfl,rfl⟩
   ·rw [if_neg hl,decide_eq_false hl] at HL
    generalize x/256%256=c at *
    generalize x%256=f at *
    generalize x%72057594037927936=a at *
    generalize gq c f=ow at *
    clear h hno ho hl hz h1' sS hk HLT HLN hS
    go_enter Tryz.func233,Tryz.ntmps233
    go_wp2_with (first|(go_at_call 234;refine HP.out.mono ?_;rintro e w1 ⟨rfl,rfl⟩)|(go_at_call 162;refine HO.out.mono ?_;rintro e w1 ⟨rfl,rfl⟩)|(go_at_call 235;refine HA.out.mono ?_;rintro e w1 ⟨rfl,rfl⟩)|(go_at_call 239;refine HL.out.mono ?_;rintro e w1 ⟨rfl,rfl⟩))
    go_ret
    exact ⟨rfl,rfl⟩
  ·rw [if_neg ho,decide_eq_false ho] at HO
   by_cases hl:x%72057594037927936≤1048576
   ·have hln:=HLN.out hl
    rw [if_pos hl,decide_eq_true hl] at HL
    generalize x/256%256=c at *
    generalize x%256=f at *
    generalize x%72057594037927936=a at *
    generalize bW a=lw at *
    clear h hno ho hl hz h1' sS hk HLT HLN hS
    go_enter Tryz.func233,Tryz.ntmps233
    go_wp2_with (first|(go_at_call 234;refine HP.out.mono ?_;rintro e w1 ⟨rfl,rfl⟩)|(go_at_call 162;refine HO.out.mono ?_;rintro e w1 ⟨rfl,rfl⟩)|(go_at_call 235;refine HA.out.mono ?_;rintro e w1 ⟨rfl,rfl⟩)|(go_at_call 239;refine HL.out.mono ?_;rintro e w1 ⟨rfl,rfl⟩))
    go_ret
    exact ⟨rfl,rfl⟩
   ·rw [if_neg hl,decide_eq_false hl] at HL
    generalize x/256%256=c at *
    generalize x%256=f at *
    generalize x%72057594037927936=a at *
    clear h hno ho hl hz h1' sS hk HLT HLN hS
    go_enter Tryz.func233,Tryz.ntmps233
    go_wp2_with (first|(go_at_call 234;refine HP.out.mono ?_;rintro e w1 ⟨rfl,rfl⟩)|(go_at_call 162;refine HO.out.mono ?_;rintro e w1 ⟨rfl,rfl⟩)|(go_at_call 235;refine HA.out.mono ?_;rintro e w1 ⟨rfl,rfl⟩)|(go_at_call 239;refine HL.out.mono ?_;rintro e w1 ⟨rfl,rfl⟩))
    go_ret
    exact ⟨rfl,rfl⟩
 ·have hke:=ou x 2 hk
  by_cases hl:x%72057594037927936≤1048576
  ·rw [if_pos hl,decide_eq_true hl] at HL
   have hq:bW (x%72057594037927936)=x:=by unfold bW;omega
   have HR:Hid (mg x=2):=by unfold Hid;rw [HLT.out,if_pos ⟨hl,hq⟩]
   have hqe:=int_eq hq
   rw [HR.out]
   generalize x%72057594037927936=a at *
   generalize bW a=lw at *
   clear h hno hl hz h1' sS hk HLT hS HO HP hq HR
   go_enter Tryz.func233,Tryz.ntmps233
   go_wp2_with (first|(go_at_call 235;refine HA.out.mono ?_;rintro e w1 ⟨rfl,rfl⟩)|(go_at_call 239;refine HL.out.mono ?_;rintro e w1 ⟨rfl,rfl⟩))
   go_ret
   exact ⟨rfl,rfl⟩
  ·rw [if_neg hl,decide_eq_false hl] at HL
   have HR:Hid (mg x=0):=by unfold Hid;rw [HLT.out,if_neg (fun e=>hl e.1)]
   rw [HR.out]
   generalize x%72057594037927936=a at *
   clear h hno hl hz h1' sS hk HLT hS HO HP HR
   go_enter Tryz.func233,Tryz.ntmps233
   go_wp2_with (first|(go_at_call 235;refine HA.out.mono ?_;rintro e w1 ⟨rfl,rfl⟩)|(go_at_call 239;refine HL.out.mono ?_;rintro e w1 ⟨rfl,rfl⟩))
   go_ret
   exact ⟨rfl,rfl⟩
 ·have hke:=ou x 0 hk
  rw [hz hk]
  clear h hno hz h1' sS hk HLT hS HO HP HA HL
  go_enter Tryz.func233,Tryz.ntmps233
  go_wp2_with fail
  go_ret
  exact ⟨rfl,rfl⟩
theorem DV (x:Nat) (hx:x<216172782113783808) (h:hdP x=none) (w:World) (hS:Sizes w):Calls Tryz.prog 192 #[.int .u64 (x:Int)] w fun e w'=>e = .returned (.tuple #[.int .i64 0,.int .i64 0,.bool false])∧w=w':=by
 have HK:=Lib.hid (Gt x hx h w hS)
 have hne:((mg x:Int)==1)=false:=by
  have:mg x=2∨mg x=0:=by unfold mg;split<;>simp
  rcases this with e|e<;>rw [e]<;>rfl
 have hne2:((mg x:Int) != 1)=true:=by simp only [bne,hne];rfl
 generalize mg x=kk at *
 clear h
 go_enter Tryz.func192,Tryz.ntmps192
 go_wp2_with (go_at_call 233;refine HK.out.mono ?_;rintro e w1 ⟨rfl,rfl⟩)
 go_ret3
 exact ⟨rfl,rfl⟩
end
section
theorem uS {W:List Nat} {i:Nat} (h:i<W.length) (x:Nat):(W.set i x).getD i 0=x:=by
 rw [List.getD_eq_getElem?_getD,List.getElem?_set_self h];rfl
theorem rY {W:List Nat} {i j:Nat} (h:i≠j) (x:Nat):(W.set i x).getD j 0=W.getD j 0:=by
 rw [List.getD_eq_getElem?_getD,List.getElem?_set_ne h,← List.getD_eq_getElem?_getD]
structure HS where
 c:aB
 b:Nat
 ww:Nat
 A:List Nat
 K:List Nat
 fr:List (List Nat)
 bn:Nat→Bool
 co:Nat→Bool
 cells:List Nat
def HS.n (H:HS):Nat:=H.b*H.ww
def HS.sz (H:HS):Nat:=H.b*H.ww+1
def HS.row (H:HS) (k:Nat):List Nat:=H.fr.getD k []
def HS.inn (H:HS) (a:Nat):Bool:=H.fr.any fun l=>l.contains a
def HS.F (H:HS):List Nat:=H.fr.map fun l=>l.headD 0
def jw (b ww:Nat) (K:List Nat) (a:Nat):Option (Nat × Nat) :=
 if 1≤a∧a≤b*ww∧K.getD ((a - 1)/ww) 0≠0∧(a - 1)%ww%2^K.getD ((a - 1)/ww) 0=0∧(a - 1)%ww/2^K.getD ((a - 1)/ww) 0<ww/2^K.getD ((a - 1)/ww) 0
 then some ((a - 1)/ww,K.getD ((a - 1)/ww) 0 - 1) else none
def HS.owner (H:HS) (a:Nat):Option (Nat × Nat):=jw H.b H.ww H.K a
def lM (A:List Nat) (a:Nat):Nat:=if 1≤a then A.getD (a - 1) 0 else 0
def HS.word (H:HS) (a:Nat):Nat:=lM H.A a
def HS.hdr (H:HS) (a:Nat):Option Nat:=(hdP (H.word a)).map (·.2)
def HS.hand (H:HS) (a:Nat):Bool:=(H.owner a).isSome && !H.bn a && !H.inn a
def HS.isO (H:HS) (a:Nat):Bool:=H.bn a||(H.hand a&&(H.hdr a).isSome)
def HS.nf (H:HS) (a:Nat):Nat:=(H.hdr a).getD 0
def HS.jy (H:HS) (a:Nat):Nat:=if a=0 then 6 else if H.isO a then 0 else 1
def upd (s:Nat→Bool) (a:Nat) (v:Bool):Nat→Bool:=fun x=>if x=a then v else s x
def Linked (wd:Nat→Nat):List Nat→Prop
 | []=>True
 | a::l=>wd a=bW (l.headD 0)∧Linked wd l
theorem Linked.congr {wd wd':Nat→Nat}:∀ {l:List Nat},Linked wd l→(∀ a∈l,wd' a=wd a)→Linked wd' l
 | [],_,_=>trivial
 | a::l,h,e=>⟨(e a (by simp)).trans h.1,Linked.congr h.2 (fun x hx=>e x (by simp [hx]))⟩
theorem dD {b ww:Nat} {K:List Nat} {a B k:Nat} (h:jw b ww K a=some (B,k)) :
 1≤a∧a≤b*ww∧B=(a - 1)/ww∧K.getD B 0=k+1∧(a - 1)%ww%2^(k+1)=0∧(a - 1)%ww/2^(k+1)<ww/2^(k+1):=by
 unfold jw at h
 split at h
 ·rename_i hc
  simp only [Option.some.injEq,Prod.mk.injEq] at h
  obtain ⟨rfl,rfl⟩:=h
  have e:K.getD ((a - 1)/ww) 0 - 1+1=K.getD ((a - 1)/ww) 0:=by omega
  rw [e]
  exact ⟨hc.1,hc.2.1,rfl,rfl,hc.2.2.2.1,hc.2.2.2.2⟩
 ·cases h
theorem xG {b ww:Nat} {K:List Nat} {a B k:Nat} (h1:1≤a) (h2:a≤b*ww) (hB:B=(a - 1)/ww) (hK:K.getD B 0=k+1) (h3:(a - 1)%ww%2^(k+1)=0) (h4:(a - 1)%ww/2^(k+1)<ww/2^(k+1)):jw b ww K a=some (B,k):=by
 subst hB
 unfold jw
 rw [hK,if_pos ⟨h1,h2,by omega,h3,h4⟩]
 simp
theorem LC {b ww:Nat} {K:List Nat} {a B0:Nat} (k:Nat) (h0:K.getD B0 0=0) {B q:Nat} (h:jw b ww K a=some (B,q)):jw b ww (K.set B0 (k+1)) a=some (B,q):=by
 obtain ⟨h1,h2,h3,h4,h5,h6⟩:=dD h
 have hne:B0≠B:=fun e=>by rw [e,h4] at h0;omega
 refine xG h1 h2 h3 ?_ h5 h6
 rw [rY hne];exact h4
theorem Gu {b ww:Nat} {K:List Nat} {a B0 k B q:Nat} (h:jw b ww (K.set B0 (k+1)) a=some (B,q)) (hB:B≠B0):jw b ww K a=some (B,q):=by
 obtain ⟨h1,h2,h3,h4,h5,h6⟩:=dD h
 rw [rY (Ne.symm hB)] at h4
 exact xG h1 h2 h3 h4 h5 h6
theorem Gv {b ww:Nat} {K:List Nat} {a B k:Nat} (h:jw b ww K a=some (B,k)) (j:Nat) (h1:1≤j) (h2:j<2^(k+1)):jw b ww K (a+j)=none∧a+j≤b*ww∧K.getD ((a+j - 1)/ww) 0≠0:=by
 obtain ⟨g1,g2,g3,g4,g5,g6⟩:=dD h
 have hz:0<2^(k+1):=Nat.two_pow_pos _
 generalize hz2:2^(k+1)=z at *
 have hw:0<ww:=by
  rcases Nat.eq_zero_or_pos ww with e|e
  ·subst e;simp at g6
  ·exact e
 have hm:=Nat.div_add_mod ((a - 1)%ww) z
 have hm2:=Nat.div_add_mod (a - 1) ww
 have hwz:=Nat.div_mul_le_self ww z
 have hs:((a - 1)%ww/z+1)*z≤ww/z*z:=Nat.mul_le_mul_right _ g6
 have hs2:((a - 1)%ww/z+1)*z=(a - 1)%ww/z*z+z:=by rw [Nat.add_mul,Nat.one_mul]
 have hs3:z*((a - 1)%ww/z)=(a - 1)%ww/z*z:=Nat.mul_comm _ _
 have hlt:(a - 1)%ww+j<ww:=by omega
 have e1:(a+j - 1)/ww=(a - 1)/ww:=by
  rw [show a+j - 1=(a - 1)%ww+j+ww*((a - 1)/ww) by omega,Nat.add_mul_div_left _ _ hw,Nat.div_eq_of_lt hlt,Nat.zero_add]
 have e2:(a+j - 1)%ww=(a - 1)%ww+j:=by
  rw [show a+j - 1=(a - 1)%ww+j+ww*((a - 1)/ww) by omega,Nat.add_mul_mod_self_left,Nat.mod_eq_of_lt hlt]
 have e3:((a - 1)%ww+j)%z=j:=by
  have:(a - 1)%ww=z*((a - 1)%ww/z):=by omega
  rw [this,Nat.mul_add_mod,Nat.mod_eq_of_lt h2]
 refine ⟨?_,?_,?_⟩
 ·unfold jw
  rw [e1,e2,← g3,g4,hz2,e3]
  rw [if_neg (by omega)]
 rotate_left
 ·rw [e1,← g3,g4];omega
 ·have hB:(a - 1)/ww<b:=by
   rw [Nat.div_lt_iff_lt_mul hw];omega
  have h9:((a - 1)/ww+1)*ww≤b*ww:=Nat.mul_le_mul_right _ hB
  have h8:((a - 1)/ww+1)*ww=(a - 1)/ww*ww+ww:=by rw [Nat.add_mul,Nat.one_mul]
  have h7:ww*((a - 1)/ww)=(a - 1)/ww*ww:=Nat.mul_comm _ _
  omega
theorem sU {A:List Nat} {a:Nat} (h1:1≤a) (h2:a≤A.length) (x y:Nat):lM (A.set (a - 1) x) y=if y=a then x else lM A y:=by
 unfold lM
 by_cases hy:y=a
 ·subst hy
  rw [if_pos h1,if_pos rfl,uS (by omega)]
 ·rw [if_neg hy]
  by_cases h0:1≤y
  ·rw [if_pos h0,if_pos h0,rY (by omega)]
  ·rw [if_neg h0,if_neg h0]
theorem QU {A:List Nat} {N:Nat} (h:∀ x∈A,x<N) (h0:0<N) (a:Nat):lM A a<N:=by
 unfold lM
 split
 ·rcases Nat.lt_or_ge (a - 1) A.length with h1|h1
  ·rw [List.getD_eq_getElem?_getD,List.getElem?_eq_getElem h1]
   exact h _ (List.getElem_mem h1)
  ·rw [List.getD_eq_getElem?_getD,List.getElem?_eq_none h1];exact h0
 ·exact h0
def jL:Nat:=216172782113783808
structure bF (H:HS):Prop where
 jY:H.A.length=H.b*H.ww
 nle:H.b*H.ww≤1048576
 k4:∀ x∈H.K,x≤4
 small:∀ x∈H.A,x<jL
 ji:H.fr.length=4
 chain:∀ k,k<4→Linked H.word (H.row k)
 nodup:∀ k,k<4→(H.row k).Nodup
 jG:∀ k,k<4→∀ a∈H.row k,H.bn a=false∧∃ B,H.owner a=some (B,k)
 born:∀ a,H.bn a=true→∃ B k f,H.owner a=some (B,k)∧gY k f∧H.word a=gq k f
 slot:∀ a B k,H.owner a=some (B,k)→H.word a=0∨(∃ x,x≤1048576∧H.word a=bW x)∨∃ f,gY k f∧H.word a=gq k f
 cval:∀ x∈H.cells,x≤H.b*H.ww
 zero:∀ a,1≤a→a≤H.b*H.ww→H.K.getD ((a - 1)/H.ww) 0=0→H.word a=0
section
variable {H:HS}
theorem bF.cls (h:bF H) {a B k:Nat} (ho:H.owner a=some (B,k)):k<4:=by
 obtain ⟨_,_,_,h4,_⟩:=dD ho
 have:H.K.getD B 0≤4:=by
  rcases Nat.lt_or_ge B H.K.length with h1|h1
  ·rw [List.getD_eq_getElem?_getD,List.getElem?_eq_getElem h1]
   exact h.k4 _ (List.getElem_mem h1)
  ·rw [List.getD_eq_getElem?_getD,List.getElem?_eq_none h1];exact Nat.zero_le _
 omega
theorem Ic {a B k:Nat} (ho:H.owner a=some (B,k)):H.K.getD ((a - 1)/H.ww) 0≠0:=by
 obtain ⟨_,_,h3,h4,_⟩:=dD ho
 rw [← h3,h4];omega
theorem HS.DW (H:HS) {k:Nat} (hl:H.fr.length=4) (hk:k<4):H.row k=H.fr[k]'(by omega):=by
 unfold HS.row
 rw [List.getD_eq_getElem?_getD,List.getElem?_eq_getElem (by omega)];rfl
theorem bF.inn (h:bF H) {a:Nat}:H.inn a=true↔∃ k,k<4∧a∈H.row k:=by
 have hl:=h.ji
 unfold HS.inn
 rw [List.any_eq_true]
 constructor
 ·rintro ⟨l,hl1,hl2⟩
  obtain ⟨k,hk,rfl⟩:=List.mem_iff_getElem.1 hl1
  exact ⟨k,by omega,by rw [H.DW hl (by omega)];simpa using hl2⟩
 ·rintro ⟨k,hk,hm⟩
  rw [H.DW hl hk] at hm
  exact ⟨_,List.getElem_mem _,by simpa using hm⟩
theorem bF.uT (h:bF H) {a:Nat} (ha:H.inn a=false) {k:Nat} (hk:k<4):a∉H.row k:=fun hm=>by
 have:=h.inn.2 ⟨k,hk,hm⟩
 rw [ha] at this;cases this
theorem HS.SG (H:HS) (hl:H.fr.length=4) {k:Nat} (hk:k<4):H.F.getD k 0=(H.row k).headD 0:=by
 unfold HS.F
 rw [List.getD_eq_getElem?_getD,List.getElem?_map,List.getElem?_eq_getElem (by omega),H.DW hl hk];rfl
theorem bF.wlt (h:bF H) (a:Nat):H.word a<jL:=QU h.small (by decide) a
theorem rZ {H H':HS} {k:Nat} {l:List Nat} (hf:H'.fr=H.fr.set k l) (hl:H.fr.length=4) (hk:k<4) (q:Nat):H'.row q=if q=k then l else H.row q:=by
 unfold HS.row
 rw [hf,List.getD_eq_getElem?_getD]
 by_cases e:q=k
 ·subst e;rw [if_pos rfl,List.getElem?_set_self (by omega)];rfl
 ·rw [if_neg e,List.getElem?_set_ne (Ne.symm e),← List.getD_eq_getElem?_getD]
def HS.put (H:HS) (a k:Nat):HS:={ H with A:=H.A.set (a - 1) (bW ((H.row k).headD 0)),fr:=H.fr.set k (a::H.row k) }
def HS.take (H:HS) (k:Nat):HS:={ H with fr:=H.fr.set k (H.row k).tail }
def HS.assign (H:HS) (B k:Nat):HS:={ H with K:=H.K.set B (k+1) }
def HS.begin (H:HS) (a k f:Nat):HS:={ H with A:=H.A.set (a - 1) (gq k f) }
def HS.bear (H:HS) (a:Nat) (c:Bool):HS:={ H with bn:=upd H.bn a true,co:=upd H.co a c }
def HS.kill (H:HS) (a:Nat):HS:={ H with bn:=upd H.bn a false }
def HS.lay (H:HS) (x v:Nat):HS:={ H with A:=H.A.set (x - 1) v }
def HS.dG (H:HS) (a:Nat) (c:Bool):HS:={ H with co:=upd H.co a c }
def HS.setCell (H:HS) (i v:Nat):HS:={ H with cells:=H.cells.set i v }
theorem IZ {x:Nat} (h:x≤1048576):bW x<jL:=(lY h).1
theorem bF.Ie (h:bF H) {k:Nat} (hk:k<4):(H.row k).headD 0≤1048576:=by
 cases hr:H.row k with
 | nil=>exact Nat.zero_le _
 | cons a l =>
   obtain ⟨_,B,ho⟩:=h.jG k hk a (by rw [hr];simp)
   have:=(dD ho).2.1
   have:=h.nle
   simp;omega
theorem bF.put (h:bF H) {a B k:Nat} (ho:H.owner a=some (B,k)) (hb:H.bn a=false) (hi:H.inn a=false):bF (H.put a k):=by
 have hk:=h.cls ho
 obtain ⟨o1,o2,_⟩:=dD ho
 have hal:a≤H.A.length:=by have:=h.jY;omega
 have hw:∀ y,(H.put a k).word y=if y=a then bW ((H.row k).headD 0) else H.word y:=fun y=>sU o1 hal _ y
 have hrow:=rZ (H:=H) (H':=H.put a k) rfl h.ji hk
 have hhd:=h.Ie hk
 refine ⟨by simpa [HS.put] using h.jY,h.nle,h.k4,?_,by simpa [HS.put] using h.ji,?_,?_,?_,?_,?_,h.cval,fun y y1 y2 y3=>by rw [hw,if_neg (fun e:y=a=>Ic ho (by rw [← e];exact y3))];exact h.zero y y1 y2 y3⟩
 ·intro x hx
  rcases List.mem_or_eq_of_mem_set hx with h1|rfl
  ·exact h.small x h1
  ·exact IZ hhd
 ·intro q hq
  rw [hrow q]
  have hc:∀ l:List Nat,a∉l→Linked H.word l→Linked (H.put a k).word l:=fun l hl hL=>hL.congr fun x hx=>by rw [hw,if_neg (fun e:x=a=>hl (by rw [← e];exact hx))]
  split
  ·rename_i e;subst e
   exact ⟨by rw [hw,if_pos rfl],hc _ (h.uT hi hq) (h.chain q hq)⟩
  ·exact hc _ (h.uT hi hq) (h.chain q hq)
 ·intro q hq
  rw [hrow q]
  split
  ·rename_i e;subst e
   exact List.nodup_cons.2 ⟨h.uT hi hq,h.nodup q hq⟩
  ·exact h.nodup q hq
 ·intro q hq x hx
  rw [hrow q] at hx
  split at hx
  ·rename_i e;subst e
   rcases List.mem_cons.1 hx with rfl|hx
   ·exact ⟨hb,B,ho⟩
   ·exact h.jG q hq x hx
  ·exact h.jG q hq x hx
 ·intro x hx
  obtain ⟨B',k',f,h1,h2,h3⟩:=h.born x hx
  refine ⟨B',k',f,h1,h2,?_⟩
  rw [hw,if_neg (fun e=>?_)]
  ·exact h3
  ·subst e
   rw [show (H.put x k).bn x=H.bn x from rfl,hb] at hx
   cases hx
 ·intro x B' k' hx
  rw [hw]
  split
  ·exact .inr (.inl ⟨_,hhd,rfl⟩)
  ·exact h.slot x B' k' hx
theorem bF.take (h:bF H) {k:Nat} (hk:k<4):bF (H.take k):=by
 have hrow:=rZ (H:=H) (H':=H.take k) rfl h.ji hk
 refine ⟨h.jY,h.nle,h.k4,h.small,by simpa [HS.take] using h.ji,?_,?_,?_,h.born,h.slot,h.cval,h.zero⟩
 ·intro q hq
  rw [hrow q]
  split
  ·have:=h.chain k hk
   revert this
   cases H.row k with
   | nil=>exact fun _=>trivial
   | cons a l=>exact fun h=>h.2
  ·exact h.chain q hq
 ·intro q hq
  rw [hrow q]
  split
  ·have:=h.nodup k hk
   revert this
   cases H.row k with
   | nil=>exact fun h=>h
   | cons a l=>exact fun h=>(List.nodup_cons.1 h).2
  ·exact h.nodup q hq
 ·intro q hq x hx
  rw [hrow q] at hx
  split at hx
  ·rename_i e;subst e
   exact h.jG q hq x (List.mem_of_mem_tail hx)
  ·exact h.jG q hq x hx
theorem bF.taken (h:bF H) {k a:Nat} {l:List Nat} (hk:k<4) (hr:H.row k=a::l):H.word a=bW (l.headD 0)∧(∃ B,H.owner a=some (B,k))∧H.bn a=false∧H.inn a=true∧l.headD 0≤1048576:=by
 have hc:=h.chain k hk
 have ho:=h.jG k hk a (by rw [hr];simp)
 have hi:=h.inn.2 ⟨k,hk,show a∈H.row k by rw [hr];simp⟩
 refine ⟨by rw [hr] at hc;exact hc.1,ho.2,ho.1,hi,?_⟩
 have:=(h.take hk).Ie hk
 rw [rZ (H:=H) (H':=H.take k) rfl h.ji hk,if_pos rfl,hr] at this
 exact this
theorem bF.OG (h:bF H) {k a:Nat} {l:List Nat} (hk:k<4) (hr:H.row k=a::l) (x:Nat):(H.take k).inn x=if x=a then false else H.inn x:=by
 have hrow:=rZ (H:=H) (H':=H.take k) rfl h.ji hk
 have h':=h.take hk
 rw [Bool.eq_iff_iff,h'.inn]
 have hnd:=h.nodup k hk
 rw [hr] at hnd hrow
 split
 ·rename_i e;subst e
  simp only [Bool.false_eq_true,iff_false]
  rintro ⟨q,hq,hm⟩
  rw [hrow q] at hm
  split at hm
  ·exact (List.nodup_cons.1 hnd).1 hm
  ·rename_i hne
   have h1:=(h.jG q hq x hm).2
   have h2:=(h.jG k hk x (by rw [hr];simp)).2
   obtain ⟨B,h1⟩:=h1
   obtain ⟨B',h2⟩:=h2
   rw [h1] at h2
   simp at h2
   exact hne h2.2
 ·rename_i hne
  rw [h.inn]
  constructor
  ·rintro ⟨q,hq,hm⟩
   rw [hrow q] at hm
   split at hm
   ·rename_i e;subst e
    exact ⟨q,hq,by rw [hr];exact List.mem_cons_of_mem _ hm⟩
   ·exact ⟨q,hq,hm⟩
  ·rintro ⟨q,hq,hm⟩
   refine ⟨q,hq,?_⟩
   rw [hrow q]
   split
   ·rename_i e;subst e
    rw [hr] at hm
    rcases List.mem_cons.1 hm with e|hm
    ·exact absurd e hne
    ·exact hm
   ·exact hm
theorem bF.QV (h:bF H) {a B k:Nat} (ho:H.owner a=some (B,k)) (hb:H.bn a=false) (hi:H.inn a=false) (x:Nat):(H.put a k).inn x=if x=a then true else H.inn x:=by
 have hk:=h.cls ho
 have hrow:=rZ (H:=H) (H':=H.put a k) rfl h.ji hk
 have h':=h.put ho hb hi
 rw [Bool.eq_iff_iff,h'.inn]
 split
 ·rename_i e;subst e
  simp only [iff_true]
  exact ⟨k,hk,by rw [hrow k,if_pos rfl];simp⟩
 ·rename_i hne
  rw [h.inn]
  constructor
  ·rintro ⟨q,hq,hm⟩
   rw [hrow q] at hm
   split at hm
   ·rename_i e;subst e
    rcases List.mem_cons.1 hm with e|hm
    ·exact absurd e hne
    ·exact ⟨q,hq,hm⟩
   ·exact ⟨q,hq,hm⟩
  ·rintro ⟨q,hq,hm⟩
   refine ⟨q,hq,?_⟩
   rw [hrow q]
   split
   ·rename_i e;subst e;exact List.mem_cons_of_mem _ hm
   ·exact hm
theorem bF.assign (h:bF H) {B k:Nat} (h0:H.K.getD B 0=0) (hk:k<4):bF (H.assign B k):=by
 have hz:∀ a,1≤a→a≤H.b*H.ww→(a - 1)/H.ww=B→H.word a=0:=fun a h1 h2 h3=>h.zero a h1 h2 (by rw [h3];exact h0)
 have hown:∀ {x B' q},H.owner x=some (B',q)→(H.assign B k).owner x=some (B',q):=fun h=>LC k h0 h
 refine ⟨h.jY,h.nle,?_,h.small,h.ji,h.chain,h.nodup,?_,?_,?_,h.cval,fun y y1 y2 y3=>h.zero y y1 y2 ?_⟩
 rotate_right
 ·by_cases e:B=(y - 1)/H.ww
  ·rw [← e];exact h0
  ·have y3':(H.K.set B (k+1)).getD ((y - 1)/H.ww) 0=0:=y3
   rwa [rY e] at y3'
 ·intro x hx
  rcases List.mem_or_eq_of_mem_set hx with h1|rfl
  ·exact h.k4 x h1
  ·omega
 ·intro q hq x hx
  obtain ⟨h1,B',h2⟩:=h.jG q hq x hx
  exact ⟨h1,B',hown h2⟩
 ·intro x hx
  obtain ⟨B',k',f,h1,h2⟩:=h.born x hx
  exact ⟨B',k',f,hown h1,h2⟩
 ·intro x B' q hx
  by_cases e:B'=B
  ·obtain ⟨h1,h2,h3,_⟩:=dD hx
   exact .inl (hz x h1 h2 (h3.symm.trans e))
  ·exact h.slot x B' q (Gu hx e)
theorem bF.begin (h:bF H) {a B k f:Nat} (ho:H.owner a=some (B,k)) (hb:H.bn a=false) (hi:H.inn a=false) (hf:gY k f):bF (H.begin a k f):=by
 obtain ⟨o1,o2,_⟩:=dD ho
 have hal:a≤H.A.length:=by have:=h.jY;omega
 have hw:∀ y,(H.begin a k f).word y=if y=a then gq k f else H.word y:=fun y=>sU o1 hal _ y
 have hox:=(lK hf).2.2.1
 refine ⟨by simpa [HS.begin] using h.jY,h.nle,h.k4,?_,h.ji,?_,h.nodup,h.jG,?_,?_,h.cval,fun y y1 y2 y3=>by rw [hw,if_neg (fun e:y=a=>Ic ho (by rw [← e];exact y3))];exact h.zero y y1 y2 y3⟩
 ·intro x hx
  rcases List.mem_or_eq_of_mem_set hx with h1|rfl
  ·exact h.small x h1
  ·unfold jL;omega
 ·intro q hq
  exact (h.chain q hq).congr fun x hx=>by rw [hw,if_neg (fun e:x=a=>h.uT hi hq (by rw [← e];exact hx))]
 ·intro x hx
  obtain ⟨B',k',f',h1,h2,h3⟩:=h.born x hx
  refine ⟨B',k',f',h1,h2,?_⟩
  rw [hw,if_neg (fun e=>?_)]
  ·exact h3
  ·subst e
   rw [show (H.begin x k f).bn x=H.bn x from rfl,hb] at hx
   cases hx
 ·intro x B' k' hx
  rw [hw]
  split
  ·rename_i e;subst e
   rw [show (H.begin x k f).owner x=H.owner x from rfl,ho] at hx
   cases hx
   exact .inr (.inr ⟨f,hf,rfl⟩)
  ·exact h.slot x B' k' hx
theorem bF.Ig (h:bF H) {a B k m:Nat} (ho:H.owner a=some (B,k)) (hm:H.hdr a=some m):gY k m∧H.word a=gq k m:=by
 unfold HS.hdr at hm
 rcases h.slot a B k ho with h1|⟨x,hx,h1⟩|⟨f,hf,h1⟩
 ·rw [h1] at hm;cases hm
 ·rw [h1] at hm
  cases hp:hdP (bW x) with
  | none=>rw [hp] at hm;cases hm
  | some cf =>
    obtain ⟨c,f⟩:=cf
    have h2:=sQ hp
    have h3:=(lK h2.1).2.2.1
    have h4:=lY hx
    have:144115188075855872≤bW x:=by unfold bW;omega
    omega
 ·rw [h1,Ib hf] at hm
  cases hm
  exact ⟨hf,h1⟩
theorem bF.bear (h:bF H) {a B k m:Nat} (c:Bool) (ho:H.owner a=some (B,k)) (hi:H.inn a=false) (hm:H.hdr a=some m):bF (H.bear a c):=by
 refine ⟨h.jY,h.nle,h.k4,h.small,h.ji,h.chain,h.nodup,?_,?_,h.slot,h.cval,h.zero⟩
 ·intro q hq x hx
  obtain ⟨h1,h2⟩:=h.jG q hq x hx
  refine ⟨?_,h2⟩
  show upd H.bn a true x=false
  unfold upd
  rw [if_neg (fun e:x=a=>h.uT hi hq (by rw [← e];exact hx))]
  exact h1
 ·intro x hx
  by_cases e:x=a
  ·subst e
   obtain ⟨h1,h2⟩:=h.Ig ho hm
   exact ⟨B,k,m,ho,h1,h2⟩
  ·have hx':upd H.bn a true x=true:=hx
   unfold upd at hx'
   rw [if_neg e] at hx'
   exact h.born x hx'
theorem bF.kill (h:bF H) (a:Nat):bF (H.kill a):=by
 refine ⟨h.jY,h.nle,h.k4,h.small,h.ji,h.chain,h.nodup,?_,?_,h.slot,h.cval,h.zero⟩
 ·intro q hq x hx
  obtain ⟨h1,h2⟩:=h.jG q hq x hx
  refine ⟨?_,h2⟩
  show upd H.bn a false x=false
  unfold upd
  split
  ·rfl
  ·exact h1
 ·intro x hx
  have hx':upd H.bn a false x=true:=hx
  unfold upd at hx'
  split at hx'
  ·cases hx'
  ·exact h.born x hx'
theorem bF.dG (h:bF H) (a:Nat) (c:Bool):bF (H.dG a c):=⟨h.jY,h.nle,h.k4,h.small,h.ji,h.chain,h.nodup,h.jG,h.born,h.slot,h.cval,h.zero⟩
theorem bF.setCell (h:bF H) (i v:Nat) (hv:v≤H.b*H.ww):bF (H.setCell i v):=by
 refine ⟨h.jY,h.nle,h.k4,h.small,h.ji,h.chain,h.nodup,h.jG,h.born,h.slot,?_,h.zero⟩
 intro x hx
 rcases List.mem_or_eq_of_mem_set hx with h1|rfl
 ·exact h.cval x h1
 ·exact hv
theorem bF.obj (h:bF H) {a:Nat} (ha:H.isO a=true):∃ B k m,H.owner a=some (B,k)∧gY k m∧H.word a=gq k m∧H.hdr a=some m∧H.nf a=m:=by
 have key:∀ B k m,H.owner a=some (B,k)→gY k m→H.word a=gq k m→∃ B k m,H.owner a=some (B,k)∧gY k m∧H.word a=gq k m∧H.hdr a=some m∧H.nf a=m:=fun B k m h1 h2 h3=>by
  have h4:H.hdr a=some m:=by unfold HS.hdr;rw [h3,Ib h2];rfl
  exact ⟨B,k,m,h1,h2,h3,h4,by unfold HS.nf;rw [h4];rfl⟩
 unfold HS.isO at ha
 rcases Bool.or_eq_true_iff.1 ha with hb|hh
 ·obtain ⟨B,k,f,h1,h2,h3⟩:=h.born a hb
  exact key B k f h1 h2 h3
 ·obtain ⟨h1,h2⟩:=Bool.and_eq_true_iff.1 hh
  unfold HS.hand at h1
  simp only [Bool.and_eq_true] at h1
  obtain ⟨⟨B,k⟩,ho⟩:=Option.isSome_iff_exists.1 h1.1.1
  obtain ⟨m,hm⟩:=Option.isSome_iff_exists.1 h2
  obtain ⟨h3,h4⟩:=h.Ig ho hm
  exact key B k m ho h3 h4
theorem bF.field (h:bF H) {a f:Nat} (ha:H.isO a=true) (hf:f<H.nf a):H.owner (a+1+f)=none∧a+1+f≤H.b*H.ww∧1≤a∧H.K.getD ((a+1+f - 1)/H.ww) 0≠0:=by
 obtain ⟨B,k,m,ho,h2,_,_,h5⟩:=h.obj ha
 rw [h5] at hf
 have hk:=h2.2
 have:=Gv ho (1+f) (by omega) (by omega)
 rw [← Nat.add_assoc] at this
 exact ⟨this.1,this.2.1,(dD ho).1,this.2.2⟩
theorem bF.lay (h:bF H) {x v:Nat} (h1:1≤x) (h2:x≤H.b*H.ww) (hn:H.owner x=none) (hK:H.K.getD ((x - 1)/H.ww) 0≠0) (hv:v<jL):bF (H.lay x v):=by
 have hal:x≤H.A.length:=by have:=h.jY;omega
 have hw:∀ y,(H.lay x v).word y=if y=x then v else H.word y:=fun y=>sU h1 hal _ y
 have hne:∀ {y B k},H.owner y=some (B,k)→y≠x:=fun ho e=>by subst e;rw [hn] at ho;cases ho
 refine ⟨by simpa [HS.lay] using h.jY,h.nle,h.k4,?_,h.ji,?_,h.nodup,h.jG,?_,?_,h.cval,fun y y1 y2 y3=>by rw [hw,if_neg (fun e:y=x=>hK (by rw [← e];exact y3))];exact h.zero y y1 y2 y3⟩
 ·intro y hy
  rcases List.mem_or_eq_of_mem_set hy with g|rfl
  ·exact h.small y g
  ·exact hv
 ·intro q hq
  refine (h.chain q hq).congr fun y hy=>?_
  obtain ⟨_,B,ho⟩:=h.jG q hq y hy
  rw [hw,if_neg (hne ho)]
 ·intro y hy
  obtain ⟨B',k',f',g1,g2,g3⟩:=h.born y hy
  exact ⟨B',k',f',g1,g2,by rw [hw,if_neg (hne g1)];exact g3⟩
 ·intro y B k ho
  rw [hw,if_neg (hne ho)]
  exact h.slot y B k ho
end
end
end Go.Proofs.YtanfphjoebobaaaGreatDoor
