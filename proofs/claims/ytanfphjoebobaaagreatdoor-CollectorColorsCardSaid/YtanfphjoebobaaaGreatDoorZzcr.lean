/- Parts of a walk, put together and made shorter by a program of mine. No conditions. -/
import Derived.Test.YtanfphjoebobaaaGreatDoorZzcm
import Derived.Test.YtanfphjoebobaaaGreatDoorZzcn
import Derived.Test.YtanfphjoebobaaaGreatDoorZzck
import Derived.Test.YtanfphjoebobaaaGreatDoorZzco
import Derived.Deep.RegionHeld3
import Derived.Test.YtanfphjoebobaaaGreatDoorZzcq
import Derived.Test.YtanfphjoebobaaaGreatDoorZzcb
import Derived.Test.YtanfphjoebobaaaGreatDoorZzce
import Derived.Test.YtanfphjoebobaaaGreatDoorZzcf
import Derived.Test.YtanfphjoebobaaaGreatDoorZzcd
import Derived.Maps.Own
import Derived.BigRegion
import Derived.Test.YtanfphjoebobaaaGreatDoorZzcg
namespace Go.Proofs.YtanfphjoebobaaaGreatDoor
set_option maxRecDepth 10000
set_option maxHeartbeats 4000000
section
attribute [local go_sem] Oper.semAt_some
open Go.RowKit
section
variable {w w':World} {R X cap:Nat} {c:aB} {K:List Nat}
structure kF (w:World) (R X cap:Nat) (c:aB) (K:List Nat):Prop where
 blk:Blk w R (c.cells++[.slice (some ⟨X,0,none⟩) K.length cap]) 145
 cls:∃ cur:List Value,Blk w X cur 3∧∀ (j:Nat) (u:Value),(aC K)[j]?=some u→cur[j]?=some u
 len:c.b=(K.length:Int)
 ok:c.ok=true
 cap:K.length≤cap
theorem kF.small (h:kF w R X cap c K):1≤K.length∧K.length≤4096:=by
 have h1:=(dW h.ok).1
 have h2:=h.len
 omega
theorem EJ (h:kF w R X cap c K) (B k:Nat) (hB:B<K.length) (hk:K.getD B 0=k+1) (h4:k<4):Calls Tryz.prog 102 #[.pointer (some ⟨R,0,none⟩),.int .i64 (B:Int)] w fun e w'=>e = .returned (.tuple #[.int .i64 (k:Int),.bool true])∧w=w':=by
 have hb:=h.blk
 obtain ⟨c0,c1,c2,c3,c4,c5,c6⟩:=c
 simp only [aB.cells,List.cons_append,List.nil_append] at hb
 have y7:=hb.cell 7 rfl
 obtain ⟨cur,hcu,hcv⟩:=h.cls
 have z:=hcu.cell B (hcv _ _ (kE hB))
 rw [hk] at z
 have hs:=h.small
 have hcap:=h.cap
 have d1:decide ((K.length:Int)≤(B:Int))=false:=decide_eq_false (by omega)
 have d2:((((k+1:Nat):Int))==0)=false:=by simp;omega
 have d3:IntKind.i64.wrap ((((k+1:Nat):Int)) - 1)=(k:Int):=by rw [IntWalk.i64_in _ (by omega)];omega
 obtain ⟨q,hq⟩:∃ q:Int,q=((k+1:Nat):Int):=⟨_,rfl⟩
 rw [← hq] at z d2 d3
 have hBI:(B:Int)<(K.length:Int):=by omega
 have h0I:(0:Int)≤(B:Int):=by omega
 generalize K.length=L at *
 clear h hb hk hs hq hB
 go_enter Tryz.func102,Tryz.ntmps102
 go_wp2_with fail
 go_ret2
 exact ⟨rfl,rfl⟩
theorem EK (h:kF w R X cap c K) (ww B k:Nat) (hw:c.w=ww) (hB:B<K.length) (hk:K.getD B 0=k+1) (h4:k<4) (hT:Tabs w) (hS:Sizes w):Calls Tryz.prog 63 #[.pointer (some ⟨R,0,none⟩),.int .i64 (B:Int)] w fun e w'=>∃ v,e = .returned v∧w'.ownsRow w.heap.size 3 1 v (ww/2^(k+1)) ((iV (ww/2^(k+1)) (2^(k+1)) (B*ww)).map fun x:Nat => .int .i64 (x:Int))∧Keep none_ w w':=by
 have HA:=Lib.hid (yS h.ok h.len hw k B h4 hB w hT hS)
 have HCL:=Lib.hid (EJ h B k hB hk h4)
 have hb:=h.blk
 obtain ⟨c0,c1,c2,c3,c4,c5,c6⟩:=c
 simp only [aB.cells,List.cons_append,List.nil_append] at *
 have y0:=hb.cell 0 rfl;have y1:=hb.cell 1 rfl;have y2:=hb.cell 2 rfl;have y3:=hb.cell 3 rfl;have y4:=hb.cell 4 rfl;have y5:=hb.cell 5 rfl;have y6:=hb.cell 6 rfl
 generalize iV (ww/2^(k+1)) (2^(k+1)) (B*ww)=sl at *
 generalize ww/2^(k+1)=per at *
 clear h hb hB hk h4 hT hS hw
 go_enter Tryz.func63,Tryz.ntmps63
 go_wp2_with (first
  | (go_at_call 102;refine HCL.out.mono ?_;rintro e w1 ⟨rfl,rfl⟩)
  | (go_at_call 103;refine HA.out.mono ?_;rintro e w1 ⟨v,rfl,ho,hk1⟩;have HO:=Lib.hid ho;have HKK:=Lib.hid hk1;clear ho hk1))
 go_ret
 exact ⟨_,rfl,HO.out,HKK.out⟩
theorem MX (h:dh w R X c K):Calls Tryz.prog 101 #[.pointer (some ⟨R,0,none⟩)] w fun e w'=>∃ R' X' cap,e = .returned (.pointer (some ⟨R',0,none⟩))∧kF w' R' X' cap c K∧Keep none_ w w':=by
 have hb:=h.blk
 have hlen:=h.small
 have HC:=Lib.hid (vw (some ⟨X,0,none⟩) K.length K.length (aC K) w.drew ⟨by simp [aC],fun _=>⟨X,0,rfl,fun j u hj=>by
  rw [Nat.zero_add]
  exact ((Keep.refl none_ w).drew.blk h.cls (fun f=>f)).cell j hj⟩⟩ (fun e=>by cases e) (by omega) (fun u hu=>by obtain ⟨z,_,rfl⟩:=List.mem_map.1 hu;rfl))
 have H:=Lib.hid h
 have HL1:Hid (1≤K.length):=hlen.1
 obtain ⟨c0,c1,c2,c3,c4,c5,c6⟩:=c
 simp only [aB.cells,List.cons_append,List.nil_append] at hb
 have y0:=hb.cell 0 rfl;have y1:=hb.cell 1 rfl;have y2:=hb.cell 2 rfl;have y3:=hb.cell 3 rfl;have y4:=hb.cell 4 rfl;have y5:=hb.cell 5 rfl;have y6:=hb.cell 6 rfl;have y7:=hb.cell 7 rfl
 generalize hKL:K.length=kl at *
 have HKL:=Lib.hid hKL
 clear h hb hlen hKL
 go_enter Tryz.func101,Tryz.ntmps101
 go_wp2_with fail
 go_region_held3 (fun w'=>w'.cell? ⟨R,0,none⟩=some (.int .i64 c0)∧w'.cell? ⟨R,1,none⟩=some (.int .i64 c1)∧w'.cell? ⟨R,2,none⟩=some (.int .i64 c2)∧w'.cell? ⟨R,3,none⟩=some (.int .i64 c3)∧w'.cell? ⟨R,4,none⟩=some (.int .i64 c4)∧w'.cell? ⟨R,5,none⟩=some (.int .i64 c5)∧w'.cell? ⟨R,6,none⟩=some (.int .i64 c6)∧w'.cell? ⟨R,7,none⟩=some (.slice (some ⟨X,0,none⟩) kl kl))
  (first | exact ⟨y0, y1, y2, y3, y4, y5, y6, y7⟩ | exact ⟨HK1.out.still y0, HK1.out.still y1, HK1.out.still y2, HK1.out.still y3, HK1.out.still y4, HK1.out.still y5, HK1.out.still y6, HK1.out.still y7⟩ | exact ⟨(HK1.out.alloc _).still y0, (HK1.out.alloc _).still y1, (HK1.out.alloc _).still y2, (HK1.out.alloc _).still y3, (HK1.out.alloc _).still y4, (HK1.out.alloc _).still y5, (HK1.out.alloc _).still y6, (HK1.out.alloc _).still y7⟩ | fail "iw")
  ((go_at_call 85
    refine HC.out.mono ?_
    rintro e w1 ⟨v,rfl,hown,hk1⟩
    obtain ⟨g,cp,rfl,hge⟩:=xW hown HL1.out
    have HGE:=Lib.hid hge
    have HOWN:=Lib.hid hown
    have HK1:=Lib.hid ((Keep.refl none_ w).drew.trans hk1)
    clear hown hk1 hge))
 obtain ⟨W2,hW2⟩:∃ W',W'=w1.alloc (.cells #[.int .i64 c0,.int .i64 c1,.int .i64 c2,.int .i64 c3,.int .i64 c4,.int .i64 c5,.int .i64 c6,.slice (some ⟨g,0,none⟩) kl cp] 145):=⟨_,rfl⟩
 rw [← hW2]
 go_wp2_with fail
 go_ret
 have hk2:Keep none_ w1 W2:=by rw [hW2];exact (Keep.refl _ _).alloc _
 rcases HOWN.out.2 with ⟨h,_⟩|⟨g',cap',cur,hv,hb,hg,hn,hm,hs,hc⟩
 ·cases h
 ·cases hv
  refine ⟨w1.heap.size,g,cp,rfl,⟨?_,?_,H.out.len,H.out.ok,?_⟩,HK1.out.trans hk2⟩
  ·rw [hW2,HKL.out];exact Blk.new w1 _ _
  ·refine ⟨cur.toList,hk2.blk (by unfold Blk;simpa using hg) (fun f=>f),fun i v hi=>?_⟩
   rw [← hc] at hi
   have hl:=(List.getElem?_eq_some_iff.1 hi).1
   rw [List.getElem?_take_of_lt (by simp at hl;omega)] at hi
   exact hi
  ·rw [HKL.out];exact hn
end
section
variable {w w':World} {D:Nat→Nat} {H:HS}
theorem tK (h:au w D H):Calls Tryz.prog 62 #[.pointer (some ⟨D 0,0,none⟩)] w fun e w'=>∃ R' X' cap,e = .returned (.pointer (some ⟨R',0,none⟩))∧kF w' R' X' cap H.c H.K∧Keep none_ w w':=by
 have y1:=h.blk.cell 1 rfl
 have HC:Hid (Calls Tryz.prog 101 #[.pointer (some ⟨D 3,0,none⟩)] w fun e w'=>∃ R' X' cap,e = .returned (.pointer (some ⟨R',0,none⟩))∧kF w' R' X' cap H.c H.K∧Keep none_ w w'):=MX h.table
 clear h
 go_enter Tryz.func62,Tryz.ntmps62
 go_wp2_with fail
 refine HC.out.mono ?_
 rintro e w1 ⟨R',X',cap,rfl,h1,k1⟩
 have H1:=Lib.hid h1
 have K1:=Lib.hid k1
 clear h1 k1
 go_wp2_with fail
 go_ret
 exact ⟨_,_,_,rfl,H1.out,K1.out⟩
theorem GV (c:Nat) (hc:c<2) (w:World):Calls Tryz.prog 276 #[.int .i64 (c:Int)] w fun e w'=>e = .returned (.bool true)∧w=w':=by
 have:c=0∨c=1:=by omega
 rcases this with rfl|rfl
 all_goals
  clear hc
  go_enter Tryz.func276,Tryz.ntmps276
  go_wp2_with fail
  go_ret
  exact ⟨rfl,rfl⟩
theorem Pq (h:au w D H) (B c:Nat) (hB:H.K.getD B 0≠0) (hc:c<2):Calls Tryz.prog 266 #[.pointer (some ⟨D 0,0,none⟩),.int .i64 (B:Int),.int .i64 (c:Int)] w fun e w'=>∃ W g n cp,e = .returned (.tuple #[ah W.heap.size,.int .i64 0])∧Keep none_ w W∧W.ownsRow w.heap.size 3 1 (.slice (some ⟨g,0,none⟩) n cp) n (aC (H.slots B))∧n≤256∧Keep none_ W w'∧Blk w' W.heap.size [ah (D 0),.slice (some ⟨g,0,none⟩) n cp,.int .i64 (B:Int),.int .i64 (c:Int)] 266:=by
 have HT:=Lib.hid (tK h)
 have hBl:B<H.K.length:=by
  rcases Nat.lt_or_ge B H.K.length with g|g
  ·exact g
  ·rw [List.getD_eq_getElem?_getD,List.getElem?_eq_none g] at hB
   simp at hB
 have hk4:H.K.getD B 0≤4:=by
  rw [List.getD_eq_getElem?_getD,List.getElem?_eq_getElem hBl]
  exact h.table.le _ (List.getElem_mem hBl)
 have hn:=jm h.table.ok h.table.len h.cw
 have hpos:0<H.ww/2^(H.K.getD B 0):=by
  have h2:2^(H.K.getD B 0)≤16:=Nat.pow_le_pow_right (by decide) hk4
  exact Nat.div_pos (by omega) (Nat.two_pow_pos _)
 have hle:H.ww/2^(H.K.getD B 0)≤256:=Nat.le_trans (Nat.div_le_self _ _) hn.2.2.2.1
 have HS:Hid (∀ w1 R X cap,kF w1 R X cap H.c H.K→Keep none_ w w1→Calls Tryz.prog 63 #[.pointer (some ⟨R,0,none⟩),.int .i64 (B:Int)] w1 fun e w'=>∃ g cp n,e = .returned (.slice (some ⟨g,0,none⟩) n cp)∧n=(H.slots B).length∧1≤n∧n≤256∧w'.ownsRow w.heap.size 3 1 (.slice (some ⟨g,0,none⟩) n cp) n (aC (H.slots B))∧Keep none_ w w'):=fun w1 R X cap ht k1=>by
  have h1:=EK ht H.ww B (H.K.getD B 0 - 1) h.cw hBl (by omega) (by omega) (h.tabs.keep k1) (h.sizes.keep k1)
  rw [show H.K.getD B 0 - 1+1=H.K.getD B 0 by omega] at h1
  refine h1.mono ?_
  rintro e w2 ⟨v,rfl,ho,k2⟩
  have e1:H.slots B=iV (H.ww/2^(H.K.getD B 0)) (2^(H.K.getD B 0)) (B*H.ww):=by unfold HS.slots;rw [if_neg hB]
  obtain ⟨g,cp,rfl,_⟩:=xW ho hpos
  exact ⟨g,cp,_,rfl,by rw [e1,pI],hpos,hle,by rw [e1];exact dP ho k1.size,k1.trans k2⟩
 have hcc:=hc
 clear h hB hBl hk4 hn hpos hle
 generalize H.slots B=sl at *
 go_enter Tryz.func266,Tryz.ntmps266
 go_wp2_with fail
 refine HT.out.mono ?_
 rintro e w1 ⟨R',X',cap,rfl,h1,k1⟩
 have HS1:=Lib.hid (HS.out _ _ _ _ h1 k1)
 clear h1 k1 HT
 go_wp2_with fail
 refine HS1.out.mono ?_
 rintro e w2 ⟨g,cp,n,rfl,hn,hn1,hn2,ho,k2⟩
 have HO:=Lib.hid ho
 have K2:=Lib.hid k2
 have HN:=Lib.hid hn
 have d0:((n:Int)==0)=false:=by simp;omega
 clear ho k2 HS1 HS hn hn1
 go_wp2_with (go_at_call 276;refine (GV c hcc _).mono ?_;rintro e w3 ⟨rfl,rfl⟩)
 obtain ⟨W3,hW3⟩:∃ W',W'=w2.alloc (.cells #[ah (D 0),.slice (some ⟨g,0,none⟩) n cp,.int .i64 (B:Int),.int .i64 (c:Int)] 266):=⟨_,rfl⟩
 rw [← hW3]
 go_ret2
 have k3:Keep none_ w2 W3:=by rw [hW3];exact (Keep.refl _ _).alloc _
 have hb:Blk W3 w2.heap.size [ah (D 0),.slice (some ⟨g,0,none⟩) n cp,.int .i64 (B:Int),.int .i64 (c:Int)] 266:=by rw [hW3];exact Blk.new w2 _ _
 exact ⟨w2,g,n,cp,rfl,K2.out,HO.out,hn2,k3,hb⟩
end
section
variable {o:Ow} {w w':World} {G:Geo} {s:Sh} {q:Nat} {v:Value} {sl:List Nat} {c:Nat}
theorem fQ.form (h:fQ o w (G.D 0) q v sl c):(v = .pointer none∧sl=[])∨∃ C b a cp,v=ah C∧o C=q∧Blk w C [ah (G.D 0),.slice a sl.length cp,.int .i64 (b:Int),.int .i64 (c:Int)] 266∧aV o w 3 (.slice a sl.length cp) (aC sl)∧sl.length≤cp∧sl.length≤4000000000000:=by
 rcases h with h|⟨C,b,sv,h1,h2,h3,h4⟩
 ·exact .inl h
 ·obtain ⟨a,cp,rfl,hl,hm,_⟩:=h4.form
  rw [show (aC sl).length=sl.length by simp [aC]] at *
  exact .inr ⟨C,b,a,cp,h1,h2,h3,h4,hl,hm⟩
theorem fQ.ay {I:List Nat} {D0:Nat} (h:fQ o w D0 q v sl c) (k:Keep (In o I) w w') (h0:I.contains 0=false) (hq:I.contains q=false):fQ o w' D0 q v sl c:=by
 rcases h with h|⟨C,b,sv,h1,h2,h3,h4⟩
 ·exact .inl h
 ·exact .inr ⟨C,b,sv,h1,h2,h3.ay k h2 hq,h4.ay k h0⟩
theorem fQ.still {D0:Nat} (h:fQ o w D0 q v sl c) (k:Keep none_ w w'):fQ o w' D0 q v sl c:=by
 rcases h with h|⟨C,b,sv,h1,h2,h3,h4⟩
 ·exact .inl h
 ·exact .inr ⟨C,b,sv,h1,h2,k.blk h3 (fun f=>f),h4.still k⟩
theorem fQ.ext {o':Ow} {D0:Nat} (h:fQ o w D0 q v sl c) (e:aH w o o'):fQ o' w D0 q v sl c:=by
 rcases h with h|⟨C,b,sv,h1,h2,h3,h4⟩
 ·exact .inl h
 ·exact .inr ⟨C,b,sv,h1,(e C h3.lt).trans h2,h3,h4.ext e⟩
theorem GX (h:fQ o w (G.D 0) q v sl c):Calls Tryz.prog 287 #[v] w fun e w'=>e = .returned (.int .i64 (sl.length:Int))∧w=w':=by
 rcases h.form with ⟨rfl,rfl⟩|⟨C,b,a,cp,rfl,_,h3,_,_,hm⟩
 ·clear h
  go_enter Tryz.func287,Tryz.ntmps287
  go_wp2_with fail
  go_ret
  exact ⟨rfl,rfl⟩
 ·have y1:=h3.cell 1 rfl
  clear h h3
  generalize sl.length=n at *
  go_enter Tryz.func287,Tryz.ntmps287
  go_wp2_with fail
  go_ret
  exact ⟨rfl,rfl⟩
theorem xB (h:fQ o w (G.D 0) q v sl c):Calls Tryz.prog 278 #[v] w fun e w'=>e = .returned (.bool (decide (sl=[])))∧w=w':=by
 have HL:=Lib.hid (GX h)
 have HD:Hid ((((sl.length:Int))==0)=decide (sl=[])):=by
  unfold Hid
  cases sl with
  | nil=>rfl
  | cons a r=>simp;omega
 have hf:(v = .pointer none)∨∃ C,v=ah C:=by
  rcases h.form with ⟨h,_⟩|⟨C,_,_,_,h,_⟩
  ·exact .inl h
  ·exact .inr ⟨C,h⟩
 clear h
 generalize decide (sl=[])=b at *
 generalize sl.length=n at *
 rcases hf with rfl|⟨C,rfl⟩
 all_goals
  go_enter Tryz.func278,Tryz.ntmps278
  go_wp2_with fail
  refine HL.out.mono ?_
  rintro e w1 ⟨rfl,rfl⟩
  have HDD:=HD.out
  clear HL
  go_wp2_with fail
  go_ret
  exact ⟨rfl,rfl⟩
def Sh.frees (s:Sh) (c a:Nat):Bool := !(!s.H.bn a||s.H.dA a==c)
theorem UR (hq:20≤q∨q=5):([1,q]:List Nat).contains 0=false∧([1,q]:List Nat).contains 2=false∧([1,q]:List Nat).contains 3=false∧([1,q]:List Nat).contains 4=false∧([q]:List Nat).contains 0=false∧([q]:List Nat).contains 1=false∧∀ i,i<8→([1,q]:List Nat).contains (10+i)=false:=by
 refine ⟨?_,?_,?_,?_,?_,?_,fun i hi=>?_⟩<;>simp<;>omega
theorem GY {a:Nat} {r:List Nat} (h:ShAt o w G s) (hc:fQ o w (G.D 0) q v (a::r) c) (hq:20≤q∨q=5) (h8:s.boxes.length≤8):Calls Tryz.prog 280 #[v] w fun e w'=>e = .returned (.tuple #[.int .i64 ((if s.frees c a then a else 0:Nat):Int),.bool (s.frees c a)])∧ShAt o w' G { s with H:=if s.frees c a then s.H.dX a else s.H }∧fQ o w' (G.D 0) q v r c∧Keep (In o [1,q]) w w':=by
 have HDn:Hid (Calls Tryz.prog 278 #[v] w fun e w'=>e = .returned (.bool false)∧w=w'):=xB hc
 obtain ⟨q1,q2,q3,q4,q5,q6,q7⟩:=UR hq
 rcases hc.form with ⟨_,h1⟩|⟨C,b,a0,cp,rfl,oC,hb,hr,hl,hm⟩
 ·cases h1
 simp only [List.length_cons] at hb hr hl hm
 have hcut:=hr.cut 1 (by omega)
 rw [show (aC (a::r)).drop 1=aC r from rfl] at hcut
 obtain ⟨a',c',ee,_,_,hcell⟩:=hr.form
 simp only [Value.slice.injEq] at ee
 obtain ⟨e1,e9,e2⟩:=ee
 subst e1;subst e2
 obtain ⟨b',off',rfl,hx⟩:=hcell 0 (.int .i64 (a:Int)) rfl
 rw [Nat.add_zero] at hx
 clear e9
 have Jy:=fun w=>wH (P:=Tryz.prog) (T:=32) (e:=3) (by kernel_rfl) (by kernel_rfl) (some ⟨b',off',none⟩) (r.length+1) cp 1 (by omega) w
 simp only [show (((1:Nat)):Int)=1 from rfl] at Jy
 have hpos:(0:Int)<((r.length+1:Nat):Int):=by omega
 have y0:=hb.cell 0 rfl
 have y1:=hb.cell 1 rfl
 have f1:=hb.free 1
 generalize hL:r.length+1=L at *
 generalize hca:kU (some ⟨b',off',none⟩) cp 1=ca at *
 obtain ⟨W1,hW1⟩:∃ W1,W1=w.setCell ⟨C,1,none⟩ (.slice ca (L - 1) (cp - 1)):=⟨_,rfl⟩
 have kC:Keep (only C) w W1:=by rw [hW1];exact (Keep.refl (only C) _).put _ _
 have k1:Keep (In o [q]) w W1:=kC.mD oC (by simp)
 have kk1:Keep (In o [1,q]) w W1:=k1.iI (by simp)
 have hb1:Blk W1 C [ah (G.D 0),.slice ca (L - 1) (cp - 1),.int .i64 (b:Int),.int .i64 (c:Int)] 266:=by rw [hW1];exact hb.set 1 _
 have hH1:=h.heapK k1 q5 q6
 have hr1:aV o W1 3 (.slice ca (L - 1) (cp - 1)) (aC r):=hcut.ay k1 q5
 have hcur1:fQ o W1 (G.D 0) q (ah C) r c := .inr ⟨C,b,_,rfl,oC,hb1,hr1⟩
 have z0:=hb1.cell 0 rfl
 have z3:=hb1.cell 3 rfl
 have HW:=Lib.hid hW1
 have hSh:∀ w' H,au w' G.D H→Keep (In o [1,q]) w w'→ShAt o w' G { s with H:=H }:=fun w' H hH k =>
  h.upd (s':={ s with H:=H }) k q1 hH (h.board.keep k (aU h.oB q2)) (h.queue.ay k q1 h.oQ q3) (h.flag.ay k h.oF q4) rfl (h.xY k q1 (fun i hi=>q7 i (by omega)))
 have HCo:=Lib.hid (pK hH1 a)
 by_cases hf:s.frees c a=true
 ·have hbn:s.H.bn a=true:=by unfold Sh.frees at hf;cases h9:s.H.bn a<;>simp_all
  have hne:s.H.dA a≠c:=fun e=>by unfold Sh.frees at hf;simp [e] at hf
  have d1:((s.H.dA a:Int)==(c:Int))=false:=by simp;omega
  have d1':decide (s.H.dA a=c)=false:=decide_eq_false hne
  rw [if_pos hbn,if_pos hbn] at HCo
  rw [hf,if_pos rfl,if_pos rfl]
  have HFr:Hid (Calls Tryz.prog 288 #[.pointer (some ⟨G.D 0,0,none⟩),.int .i64 (a:Int)] W1 fun e w'=>(∃ er:Int,e = .returned (.int .i64 er))∧ShAt o w' G { s with H:=s.H.dX a }∧fQ o w' (G.D 0) q (ah C) r c∧Keep (In o [1,q]) w w'):=by
   refine (MH hH1 a).mono ?_
   rintro e w' ⟨⟨er,rfl⟩,g1,g2⟩
   have k2:Keep (In o [1]) W1 w':=g2.mono (fun x _ hx=>by
    obtain ⟨i,hi,e⟩:=hx
    unfold In
    rw [e,h.oD i hi]
    simp)
   have k3:Keep (In o [1,q]) w w':=kk1.trans (k2.iI (by simp))
   exact ⟨⟨_,rfl⟩,hSh w' _ g1 k3,hcur1.ay k2 rfl (by simp;omega),k3⟩
  generalize s.H.dA a=kc at *
  generalize { s with H:=s.H.dX a }=s' at *
  clear h hc hb hr hcut hcell kC k1 kk1 hb1 hH1 hr1 hcur1 hSh hbn hne hf hca hL hl hm hW1
  go_enter Tryz.func280,Tryz.ntmps280
  go_wp2_with fail
  refine HDn.out.mono ?_
  rintro e w2 ⟨rfl,rfl⟩
  clear HDn
  go_wp2_with fail
  rw [← HW.out]
  refine HCo.out.mono ?_
  rintro e w2 ⟨rfl,rfl⟩
  clear HCo
  go_wp2_with fail
  refine HFr.out.mono ?_
  rintro e w2 ⟨⟨er,rfl⟩,g1,g2,g3⟩
  have HX:=Lib.hid (And.intro g1 (And.intro g2 g3))
  clear g1 g2 g3 y0 y1 f1 hx z0 z3 HFr
  go_wp2_with fail
  go_ret2
  exact ⟨rfl,HX.out.1,HX.out.2.1,HX.out.2.2⟩
 ·have hf':s.frees c a=false:=by simpa using hf
  rw [hf',if_neg (by decide),if_neg (by decide)]
  have HE:Hid (ShAt o W1 G { s with H:=s.H }∧fQ o W1 (G.D 0) q (ah C) r c∧Keep (In o [1,q]) w W1):=⟨hSh W1 s.H hH1 kk1,hcur1,kk1⟩
  by_cases hbn:s.H.bn a=true
  ·have hce:s.H.dA a=c:=by
    unfold Sh.frees at hf'
    rw [hbn] at hf'
    simpa using hf'
   have d1:((s.H.dA a:Int)==(c:Int))=true:=by simp [hce]
   have d1':decide (s.H.dA a=c)=true:=decide_eq_true hce
   rw [if_pos hbn,if_pos hbn] at HCo
   generalize s.H.dA a=kc at *
   clear h hc hb hr hcut hcell kC k1 kk1 hb1 hH1 hr1 hcur1 hSh hbn hce hf hf' hca hL hl hm hW1
   go_enter Tryz.func280,Tryz.ntmps280
   go_wp2_with fail
   refine HDn.out.mono ?_
   rintro e w2 ⟨rfl,rfl⟩
   clear HDn
   go_wp2_with fail
   rw [← HW.out]
   refine HCo.out.mono ?_
   rintro e w2 ⟨rfl,rfl⟩
   clear HCo
   go_wp2_with fail
   go_ret2
   exact ⟨rfl,HE.out.1,HE.out.2.1,HE.out.2.2⟩
  ·rw [if_neg hbn,if_neg hbn] at HCo
   clear h hc hb hr hcut hcell kC k1 kk1 hb1 hH1 hr1 hcur1 hSh hbn hf hf' hca hL hl hm hW1
   go_enter Tryz.func280,Tryz.ntmps280
   go_wp2_with fail
   refine HDn.out.mono ?_
   rintro e w2 ⟨rfl,rfl⟩
   clear HDn
   go_wp2_with fail
   rw [← HW.out]
   refine HCo.out.mono ?_
   rintro e w2 ⟨rfl,rfl⟩
   clear HCo
   go_wp2_with fail
   go_ret2
   exact ⟨rfl,HE.out.1,HE.out.2.1,HE.out.2.2⟩
end
section
variable {o:Ow} {w w':World} {G:Geo} {g:MG} {s:Sh} {m:MS} {nv:Value}
theorem MAt.qV {ev:Option Ev} {o':Ow} (h:MAt o w G g s m ev nv) (k:Keep none_ w w') (e:aH w o o') (hf:Fut o' w'):MAt o' w' G g s m ev nv:=by
 obtain ⟨pv,rv,h1,h2,h3⟩:=h.blk
 obtain ⟨_,v,hb,_⟩:=id h.buf
 have k0:Keep (In o' []) w w':=k.aF
 have e1:=(e _ h1.lt).trans h.oM
 have e2:=(e _ h.regs.lt).trans h.oX
 have e3:=(e _ hb.lt).trans h.oBf
 have e4:=(e _ h.nt.lt).trans h.oNt
 exact ⟨h.sh.move (I:=[]) k.aF rfl h.box8 e hf,⟨pv,rv,h1.ay k0 e1 rfl,(h2.ext e).ay k0 rfl,(h3.ext e).ay k0 rfl⟩,e1,h.regs.ay k0 e2 rfl,e2,(h.buf.ext e).ay k0 rfl e3 rfl,e3,h.nt.ay k0 e4 rfl,e4,h.idl,h.box8,h.conf,h.rlen,h.qF⟩
end
theorem TA {o:Ow} {w:World} {a b c d e:List Value × TypeId} {bs:List Nat} (h:Caps o w [a,b,c,d,e] bs):∃ b0 b1 b2 b3 b4,bs=[b0,b1,b2,b3,b4]∧(o b0=0∧Blk w b0 a.1 a.2)∧(o b1=0∧Blk w b1 b.1 b.2)∧(o b2=0∧Blk w b2 c.1 c.2)∧(o b3=0∧Blk w b3 d.1 d.2)∧(o b4=0∧Blk w b4 e.1 e.2):=by
 obtain ⟨b0,r0,rfl,o0,k0,b1,r1,rfl,o1,k1,b2,r2,rfl,o2,k2,b3,r3,rfl,o3,k3,b4,r4,rfl,o4,k4,rfl⟩:=h
 exact ⟨b0,b1,b2,b3,b4,rfl,⟨o0,k0⟩,⟨o1,k1⟩,⟨o2,k2⟩,⟨o3,k3⟩,⟨o4,k4⟩⟩
section
variable {o:Ow} {w w':World} {G:Geo} {g:MG} {s:Sh} {m:MS} {nv:Value}
theorem MAt.c12 {ev:Option Ev} (h:MAt o w G g s m ev nv):w.cell? ⟨g.M,12,none⟩=some (.int .i64 (m.mode:Int)):=h.cell 12 _ (fun _ _=>rfl)
theorem MAt.c11 {ev:Option Ev} (h:MAt o w G g s m ev nv):w.cell? ⟨g.M,11,none⟩=some (.pointer (some ⟨g.Nt,0,none⟩)):=h.cell 11 _ (fun _ _=>rfl)
theorem MAt.c14 {ev:Option Ev} (h:MAt o w G g s m ev nv):w.cell? ⟨g.M,14,none⟩=some (.int .i64 (m.want:Int)):=h.cell 14 _ (fun _ _=>rfl)
end
section
variable {o:Ow} {w w':World} {G:Geo} {g:MG} {s:Sh} {m:MS} {nv:Value}
def xZ:MD→Bool
 | .nil=>false
 | .sweep _ _ _=>false
 | _=>true
theorem bH.Pv {Nt M:Nat} {d:MD} {v:Value} (h:bH o w Nt M d v) (hd:xZ d=true):∃ (fn:Nat) (caps:Array Value),v = .func (.func fn) #[] caps:=by
 rcases h.form with rfl|h1
 ·exfalso
  cases d
  case nil=>cases hd
  case sweep=>cases hd
  case last rd=>obtain ⟨_,_,bs,e,_⟩:=h;cases e
  case start=>obtain ⟨bs,e,_⟩:=h;cases e
  case once=>obtain ⟨_,⟨bs,e,_⟩,_⟩:=h;cases e
  case note=>obtain ⟨_,_,_,_,bs,e,_⟩:=h;cases e
  case add=>obtain ⟨_,_,bs,e,_⟩:=h;cases e
  case pour=>obtain ⟨_,_,bs,e,_⟩:=h;cases e
  case dG=>obtain ⟨_,_,bs,e,_⟩:=h;cases e
  case raise=>obtain ⟨_,_,bs,e,_⟩:=h;cases e
  case field=>obtain ⟨_,_,bs,e,_⟩:=h;cases e
  case load=>obtain ⟨bs,e,_⟩:=h;cases e
  case get=>obtain ⟨bs,e,_⟩:=h;cases e
  case lay=>obtain ⟨_,_,_,_,bs,e,_⟩:=h;cases e
  case alloc=>obtain ⟨bs,e,_⟩:=h;cases e
  case assign=>obtain ⟨bs,e,_⟩:=h;cases e
  case lS=>obtain ⟨_,_,_,bs,e,_⟩:=h;cases e
  case claim=>obtain ⟨bs,e,_⟩:=h;cases e
  case again=>obtain ⟨bs,e,_⟩:=h;cases e
  case fill=>obtain ⟨bs,e,_⟩:=h;cases e
  case zero=>obtain ⟨bs,e,_⟩:=h;cases e
 ·exact h1
theorem BL {v c:Nat} {t:MD} (h:xZ t=true):xZ (iP v c t)=true:=by
 unfold iP
 split
 ·exact h
 ·rfl
theorem JH {Nt M:Nat} (hf:Fut o w) (v c:Nat) (t:MD) (tv:Value) (ht:bH o w Nt M t tv) (hd:xZ t=true):Calls Tryz.prog 135 #[.pointer (some ⟨Nt,0,none⟩),.int .i64 (v:Int),.int .i64 (c:Int),tv] w fun e w'=>∃ fn caps,e = .returned (.func (.func fn) #[] caps)∧bH o w' Nt M (iP v c t) (.func (.func fn) #[] caps)∧Keep none_ w w':=by
 refine (JD hf v c t tv ht).mono ?_
 rintro e w' ⟨nv,rfl,h1,h2⟩
 obtain ⟨fn,caps,rfl⟩:=h1.Pv (BL hd)
 exact ⟨fn,caps,rfl,h1,h2⟩
end
theorem room4:iZ 0=1∧iZ 1=3∧iZ 2=7∧iZ 3=15:=by decide
theorem Ip (f:Int) (h0:0≤f) (h1:f≤15) (w:World) (hS:Sizes w):Calls Tryz.prog 112 #[.int .i64 f] w fun e w'=>e = .returned (.tuple #[.int .i64 (ofK f:Int),.bool true])∧w=w':=by
 have d0:decide (0≤f)=true:=decide_eq_true h0
 go_enter Tryz.func112,Tryz.ntmps112
 go_wp2_with fail
 go_loop [5] (fun i=>∃ k:Nat,k<4∧i = .int .i64 k∧∀ j:Nat,j<k→iZ (j:Int)<f) (fun i=>4 - (intOf i).toNat)
 case atStart=>exact ⟨0,by omega,rfl,fun j hj=>by omega⟩
 case round =>
  obtain ⟨k,hk,rfl,hl⟩:=hrel
  by_cases hle:f≤iZ (k:Int)
  ·have HE:Hid (ofK f=k):=by
    obtain ⟨r0,r1,r2,r3⟩:=room4
    have h4:k=0∨k=1∨k=2∨k=3:=by omega
    have l0:=hl 0;have l1:=hl 1;have l2:=hl 2
    unfold Hid ofK
    have r0':iZ ((0:Nat):Int)=1:=r0
    have r1':iZ ((1:Nat):Int)=3:=r1
    have r2':iZ ((2:Nat):Int)=7:=r2
    have r3':iZ ((3:Nat):Int)=15:=r3
    rw [r0'] at l0;rw [r1'] at l1;rw [r2'] at l2
    rcases h4 with rfl|rfl|rfl|rfl
    ·rw [r0'] at hle
     rw [if_neg (by omega),if_pos hle]
    ·rw [r1'] at hle
     rw [if_neg (by omega),if_neg (by omega),if_pos hle]
    ·rw [r2'] at hle
     rw [if_neg (by omega),if_neg (by omega),if_neg (by omega),if_pos hle]
    ·rw [r3'] at hle
     rw [if_neg (by omega),if_neg (by omega),if_neg (by omega),if_neg (by omega),if_pos hle]
   have d1:decide (f≤iZ (k:Int))=true:=decide_eq_true hle
   have HR:=Lib.hid (sN (k:Int) w hS)
   generalize iZ (k:Int)=r at *
   clear hl hS
   go_wp2_with (go_at_call 158;refine HR.out.mono ?_;rintro e w1 ⟨rfl,rfl⟩)
   go_ret2
   rw [HE.out]
   exact ⟨rfl,rfl⟩
  ·have d1:decide (f≤iZ (k:Int))=false:=decide_eq_false hle
   have HR:=Lib.hid (sN (k:Int) w hS)
   have HL:Hid (k+1<4∧∀ j:Nat,j<k+1→iZ (j:Int)<f):=by
    refine ⟨?_,fun j hj=>?_⟩
    ·have:=room4.2.2.2
     rcases Nat.lt_or_ge k 3 with h|h
     ·omega
     ·exfalso
      obtain rfl:k=3:=by omega
      exact hle (by rw [show iZ ((3:Nat):Int)=15 from this];exact h1)
    ·rcases Nat.lt_or_ge j k with h|h
     ·exact hl j h
     ·obtain rfl:j=k:=by omega
      omega
   generalize iZ (k:Int)=r at *
   clear hl hS
   go_wp2_with (go_at_call 158;refine HR.out.mono ?_;rintro e w1 ⟨rfl,rfl⟩)
   go_round
   case rel=>exact ⟨k+1,HL.out.1,by go_num,HL.out.2⟩
   case measure=>simp [intOf];omega
section
variable {o:Ow} {w w':World} {G:Geo} {g:MG} {s:Sh} {m:MS} {nv:Value}
theorem aG.clo {d:MD} {fn:Nat} {caps:Array Value} (h:MAt o w G g s m none nv) (hc:bH o w' g.Nt g.M d (.func (.func fn) #[] caps)) (k:Keep none_ w w'):aG o w G g nv m.id ⟨s,m,d,none⟩ (.returned (.func (.func fn) #[] caps)) w' :=
 aG.same (r:=⟨s,m,d,none⟩) (h.still k) hc k.aF
theorem MZ (h:MAt o w G g s m none nv) (op:OpR):Calls Tryz.prog 187 #[.pointer (some ⟨g.M,0,none⟩),.agg op.cells.toArray] w (aG o w G g nv m.id ⟨s,m,.get op,none⟩):=by
 obtain ⟨ok,oa,ob,oc⟩:=op
 have hc:=fG (o:=o) [([ah g.M],56),([.int .i64 ok,.int .i64 oa,.int .i64 ob,.int .i64 oc],83)] w h.sh.fut
 have HE:Hid (aG o w G g nv m.id ⟨s,m,.get ⟨ok,oa,ob,oc⟩,none⟩ (.returned (.func (.func 230) #[] #[ah w.heap.size,ah (w.heap.size+1)])) (aZ w [([ah g.M],56),([.int .i64 ok,.int .i64 oa,.int .i64 ob,.int .i64 oc],83)])):=by
  obtain ⟨b0,b1,e,⟨o0,k0⟩,⟨o1,k1⟩⟩:=caps2 hc.1
  simp only [idxs,List.cons.injEq] at e
  obtain ⟨rfl,rfl,_⟩:=e
  exact aG.clo h ⟨[w.heap.size,w.heap.size+1],rfl,_,_,rfl,o0,k0,_,_,rfl,o1,k1,rfl⟩ hc.2
 have hmf:=gV
 generalize (⟨s,m,.get ⟨ok,oa,ob,oc⟩,none⟩:lT)=R at *
 generalize m.id=mi at *
 clear hc h
 simp only [OpR.cells]
 go_enter Tryz.func187,Tryz.ntmps187
 go_wp2_with fail
 go_ret
 exact HE.out
end
end
section
open Go.RowKit Go.Sort
def qG:Value→Option (DataW Nat × List MemPlace)
 | .nilFunc=>some (.nil,[])
 | .func (.func f) a b=>if a.size=0∧b.size=0 then some (.held f,[]) else none
 | _=>none
theorem JI {v:Value} {f:Nat} {ps:List MemPlace} (h:qG v=some (.held f,ps)):v = .func (.func f) #[] #[]:=by
 unfold qG at h
 split at h
 ·simp at h
 ·split at h
  ·rename_i h1
   simp at h
   obtain ⟨rfl,_⟩:=h
   obtain ⟨h1,h2⟩:=h1
   rw [Array.eq_empty_of_size_eq_zero h1,Array.eq_empty_of_size_eq_zero h2]
  ·simp at h
 ·simp at h
def Na:DataW Nat:=((((((((DataW.map []).put (.int .i64 1) (.held 184)).put (.int .i64 2) (.held 185)).put (.int .i64 3) (.held 186)).put (.int .i64 4) (.held 187)).put (.int .i64 5) (.held 188)).put (.int .i64 6) (.held 189)).put (.int .i64 7) (.held 190)).put (.int .i64 8) (.held 191)
def sF (k:Int):Option Nat:=if k=1 then some 184 else if k=2 then some 185 else if k=3 then some 186 else if k=4 then some 187 else if k=5 then some 188 else if k=6 then some 189 else if k=7 then some 190 else if k=8 then some 191 else none
theorem QE:Maps.Keyed Tryz.prog 3:=Maps.int_keyed (q := .i64) (by kernel_rfl)
theorem QF:Tryz.prog.underlying 192=some (.map 3 191):=by kernel_rfl
theorem lI {w:World} {b n:Nat} {D:DataW Nat} (h:w.ownsMap Tryz.prog 3 qG b n D) (hn:n≤100) (k:Int) (hk:(Lit.int .i64 k).wf=true) (f:Nat) :
 ∃ w',(Instr.mapUpdate 192 (.map (some b)) (.int .i64 k) (.func (.func f) #[] #[])).run Tryz.prog w = .ok () w'∧w'.ownsMap Tryz.prog 3 qG b (n+1) (D.put (.int .i64 k) (.held f))∧w.grownBy w' (some b) :=
 h.update QE QF (by unfold maxLen;omega) (Maps.keyOf_int_mk (q := .i64) (by kernel_rfl) hk) (show qG (.func (.func f) #[] #[])=some (.held f,[]) from rfl)
theorem JJ {w:World} {b n:Nat} (h:w.ownsMap Tryz.prog 3 qG b n Na) (k:Int) (f:Nat) (hk:sF k=some f):(Instr.lookup 192 (.map (some b)) (.int .i64 k) false).run Tryz.prog w = .ok (.func (.func f) #[] #[]) w:=by
 have key:∀ k f,(Lit.int .i64 k).wf=true→Na.atKey (.int .i64 k) .nil = .held f→(Instr.lookup 192 (.map (some b)) (.int .i64 k) false).run Tryz.prog w = .ok (.func (.func f) #[] #[]) w:=fun k f hwf hat=>by
  obtain ⟨v,ps,hr,hv⟩:=h.lookup (z := .nilFunc) QE QF (by kernel_rfl) (zd := .nil) (zp:=[]) rfl (Maps.keyOf_int_mk (q := .i64) (by kernel_rfl) hwf)
  rw [hat] at hv
  rw [hr,JI hv]
 unfold sF at hk
 split at hk
 ·cases hk;subst k;exact key 1 _ (by decide) rfl
 split at hk
 ·cases hk;subst k;exact key 2 _ (by decide) rfl
 split at hk
 ·cases hk;subst k;exact key 3 _ (by decide) rfl
 split at hk
 ·cases hk;subst k;exact key 4 _ (by decide) rfl
 split at hk
 ·cases hk;subst k;exact key 5 _ (by decide) rfl
 split at hk
 ·cases hk;subst k;exact key 6 _ (by decide) rfl
 split at hk
 ·cases hk;subst k;exact key 7 _ (by decide) rfl
 split at hk
 ·cases hk;subst k;exact key 8 _ (by decide) rfl
 ·cases hk
theorem JK (w:World):Calls Tryz.prog 141 #[] w fun e w'=>∃ b,e = .returned (.map (some b))∧Keep none_ w w'∧∀ W,Keep none_ w' W→∀ k f,sF k=some f→(Instr.lookup 192 (.map (some b)) (.int .i64 k) false).run Tryz.prog W = .ok (.func (.func f) #[] #[]) W:=by
 have hmm := @run_makeMap Tryz.prog
 have h0:=World.ownsMap_made w Tryz.prog 3 qG
 obtain ⟨w1,r1,h1,g1⟩:=lI h0 (by decide) 1 (by decide) 184
 obtain ⟨w2,r2,h2,g2⟩:=lI h1 (by decide) 2 (by decide) 185
 obtain ⟨w3,r3,h3,g3⟩:=lI h2 (by decide) 3 (by decide) 186
 obtain ⟨w4,r4,h4,g4⟩:=lI h3 (by decide) 4 (by decide) 187
 obtain ⟨w5,r5,h5,g5⟩:=lI h4 (by decide) 5 (by decide) 188
 obtain ⟨w6,r6,h6,g6⟩:=lI h5 (by decide) 6 (by decide) 189
 obtain ⟨w7,r7,h7,g7⟩:=lI h6 (by decide) 7 (by decide) 190
 obtain ⟨w8,r8,h8,g8⟩:=lI h7 (by decide) 8 (by decide) 191
 have hk0:Keep none_ w (w.alloc (.map #[] 0)):=(Keep.refl _ _).alloc _
 have up:∀ {a b:World},Keep none_ w a→a.grownBy b (some w.heap.size)→Keep none_ w b:=fun ha hg=>ha.grown hg (fun k e hk=>by injection e with e;omega)
 have HK:=Lib.hid (up (up (up (up (up (up (up (up hk0 g1) g2) g3) g4) g5) g6) g7) g8)
 have HL:Hid (∀ W,Keep none_ w8 W→∀ k f,sF k=some f→(Instr.lookup 192 (.map (some w.heap.size)) (.int .i64 k) false).run Tryz.prog W = .ok (.func (.func f) #[] #[]) W):=fun W hk k f hf =>
  JJ (h8.kept (row:=none) ⟨hk.os,hk.tape,hk.output,hk.size,fun i hi _=>hk.block i hi (fun f=>f)⟩ (by simp)) k f hf
 clear h0 h1 h2 h3 h4 h5 h6 h7 h8 g1 g2 g3 g4 g5 g6 g7 g8 hk0 up
 go_enter Tryz.func141,Tryz.ntmps141
 go_wp2_with fail
 go_ret
 exact ⟨_,rfl,HK.out,HL.out⟩
end
section
attribute [local go_sem] Oper.semAt_some
open Go.RowKit
section
variable {o:Ow} {w w':World} {G:Geo} {g:MG} {s:Sh} {m:MS} {nv:Value}
theorem MAt.QG {ev:Option Ev} (h:MAt o w G g s m ev nv) (c0 c1 c2 c3 c4 c5 c6:Int) (e:m.c=⟨c0,c1,c2,c3,c4,c5,c6⟩):w.cell? ⟨g.M,1,none⟩=some (.int .i64 c0)∧w.cell? ⟨g.M,2,none⟩=some (.int .i64 c1)∧w.cell? ⟨g.M,3,none⟩=some (.int .i64 c2)∧w.cell? ⟨g.M,4,none⟩=some (.int .i64 c3)∧w.cell? ⟨g.M,5,none⟩=some (.int .i64 c4)∧w.cell? ⟨g.M,6,none⟩=some (.int .i64 c5)∧w.cell? ⟨g.M,7,none⟩=some (.int .i64 c6):=by
 refine ⟨h.cell 1 _ ?_,h.cell 2 _ ?_,h.cell 3 _ ?_,h.cell 4 _ ?_,h.cell 5 _ ?_,h.cell 6 _ ?_,h.cell 7 _ ?_⟩<;>intro pv rv<;>simp [jP,e,aB.cells]
theorem Nb (h:MAt o w G g s m none nv) (op:OpR) (he:chk m.c op=0) (f:Nat) (hf:sF op.k=some f) (hcf:∀ (args:Array Value) (w:World),(callFunc f args).run Tryz.prog w = .ok (.enter f args) w) (R:lT)
 (QH:∀ W,Keep none_ w W→Calls Tryz.prog f #[.pointer (some ⟨g.M,0,none⟩),.agg op.cells.toArray] W (aG o W G g nv m.id R)) :
 Calls Tryz.prog 93 #[.pointer (some ⟨g.M,0,none⟩),.agg op.cells.toArray] w (aG o w G g nv m.id R):=by
 obtain ⟨W1,hW1⟩:∃ W1,W1=w.alloc (.cells op.cells.toArray 83):=⟨_,rfl⟩
 have k1:Keep none_ w W1:=by rw [hW1];exact (Keep.refl _ _).alloc _
 have hb1:Blk W1 w.heap.size op.cells 83:=by rw [hW1];exact Blk.new w _ _
 have h1:=h.still k1
 have ho:o w.heap.size=0:=h.sh.fut _ (Nat.le_refl _)
 have kd:Keep none_ W1 W1.drew:=(Keep.refl none_ W1).drew
 have HD:Hid (∀ W,Keep none_ w W→Blk W w.heap.size op.cells 83→Calls Tryz.prog f #[.pointer (some ⟨g.M,0,none⟩),.agg op.cells.toArray] W fun e w'=>∃ nv',e = .returned nv'∧(nv' = .nilFunc∨∃ (fn:Nat) (caps:Array Value),nv' = .func (.func fn) #[] caps)∧Blk w' w.heap.size op.cells 83∧aG o w G g nv m.id R (.returned nv') w'):=fun W hk hb=>by
  refine (QH W hk).mono ?_
  intro e w6 hp
  obtain ⟨o',nv',rfl,e2,h1,hn,kk⟩:=id hp
  exact ⟨nv',rfl,hn.form,hb.ay kk ho (je _),hp.after hk.aF⟩
 have HC:Hid (Calls Tryz.prog 139 #[.agg m.c.cells.toArray,.agg op.cells.toArray] W1.drew fun e w'=>e = .returned (.int .i64 0)∧Keep none_ w w'∧Blk w' w.heap.size op.cells 83):=by
  refine (check_any m.c op W1.drew ((h.sh.heap.tabs.keep k1).keep kd)).mono ?_
  rintro e w' ⟨rfl,k2⟩
  rw [he]
  exact ⟨rfl,k1.trans (kd.trans k2),(kd.trans k2).blk hb1 (fun f=>f)⟩
 rcases hcc:m.c with ⟨c0,c1,c2,c3,c4,c5,c6⟩
 rw [hcc] at HC
 obtain ⟨m1,m2,m3,m4,m5,m6,m7⟩:=h1.QG c0 c1 c2 c3 c4 c5 c6 hcc
 obtain ⟨ok,oa,ob,oc⟩:=op
 simp only [OpR.cells,aB.cells] at *
 have y0:=hb1.cell 0 rfl
 have y1:=hb1.cell 1 rfl
 have y2:=hb1.cell 2 rfl
 have y3:=hb1.cell 3 rfl
 have HW1:=Lib.hid hW1
 have HCF:=Lib.hid hcf
 generalize m.id=mi at *
 clear h h1 hW1 he QH kd k1 hb1 hcf
 go_enter Tryz.func93,Tryz.ntmps93
 go_wp2_with fail
 rw [← HW1.out]
 refine aA 5 rfl (by kernel_rfl) (by kernel_rfl) (fun K hK=>?_)
 change wpStill _ _ (World.drew _) _ _ _
 simp only [List.take_succ_cons,List.take_zero,List.drop_succ_cons,List.drop_zero] at hK ⊢
 repeat still_step
 refine wpStill_nil ?_
 change ite _ (Oper.wp _ _ _ _ _ _) _
 go_simp
 refine HC.out.mono ?_
 rintro e w2 ⟨rfl,k2,hb2⟩
 refine hK _ _ ?_
 clear hK K
 have K2:=Lib.hid k2
 have B2:=Lib.hid hb2
 clear k2 hb2 HC y0 y1 y2 y3 m1 m2 m3 m4 m5 m6 m7
 repeat still_step
 refine wpStill_nil ?_
 go_wp2_with fail
 have y0:=B2.out.cell 0 rfl
 have y1:=B2.out.cell 1 rfl
 have y2:=B2.out.cell 2 rfl
 have y3:=B2.out.cell 3 rfl
 go_region_held3 (fun w'=>w'.cell? ⟨w.heap.size,0,none⟩=some (.int .i64 ok)∧w'.cell? ⟨w.heap.size,1,none⟩=some (.int .i64 oa)∧w'.cell? ⟨w.heap.size,2,none⟩=some (.int .i64 ob)∧w'.cell? ⟨w.heap.size,3,none⟩=some (.int .i64 oc))
  (first | exact ⟨y0, y1, y2, y3⟩ | exact ⟨HB3.out.cell 0 rfl, HB3.out.cell 1 rfl, HB3.out.cell 2 rfl, HB3.out.cell 3 rfl⟩ | exact ⟨HB4.out.cell 0 rfl, HB4.out.cell 1 rfl, HB4.out.cell 2 rfl, HB4.out.cell 3 rfl⟩ | fail "iw")
  (first
   | (go_at_call 141
      refine (JK _).mono ?_
      rintro e w3 ⟨bm,rfl,hk3,hlook⟩
      have hl:=hlook w3 (Keep.refl _ _) ok f hf
      have hcf:=HCF.out
      have HB3:=Lib.hid (((Keep.refl none_ w2).drew.trans hk3).blk B2.out (fun f=>f))
      have HK3:=Lib.hid (K2.out.trans ((Keep.refl none_ w2).drew.trans hk3))
      clear hlook hk3)
   | (refine (HD.out _ HK3.out HB3.out).mono ?_
      rintro e w4 ⟨nv',rfl,hfm,hb4,hp⟩
      have HB4:=Lib.hid hb4
      have HP:=Lib.hid hp
      have HFm:=Lib.hid hfm
      clear hb4 hp hfm)
   | fail "jc")
 clear y0 y1 y2 y3 hcf hl HD HCF HB3 HB4 HK3
 rcases HFm.out with rfl|⟨fn,caps,rfl⟩
 all_goals
  go_wp2_with fail
  go_ret
  exact HP.out
end
section
variable {o:Ow} {w w':World} {G:Geo} {g:MG} {s:Sh} {m:MS} {nv:Value}
theorem JL (h:MAt o w G g s m none nv) (op:OpR) (he:chk m.c op≠0) (hres:m.res.length≤1000000000):Calls Tryz.prog 93 #[.pointer (some ⟨g.M,0,none⟩),.agg op.cells.toArray] w (aG o w G g nv m.id (jS s m (chk m.c op) 0)):=by
 obtain ⟨W1,hW1⟩:∃ W1,W1=w.alloc (.cells op.cells.toArray 83):=⟨_,rfl⟩
 have k1:Keep none_ w W1:=by rw [hW1];exact (Keep.refl _ _).alloc _
 have hb1:Blk W1 w.heap.size op.cells 83:=by rw [hW1];exact Blk.new w _ _
 have h1:=h.still k1
 have kd:Keep none_ W1 W1.drew:=(Keep.refl none_ W1).drew
 have HC:Hid (Calls Tryz.prog 139 #[.agg m.c.cells.toArray,.agg op.cells.toArray] W1.drew fun e w'=>e = .returned (.int .i64 (chk m.c op))∧Hid (Calls Tryz.prog 140 #[.pointer (some ⟨g.M,0,none⟩),.int .i64 (chk m.c op),.int .i64 0] w' (fun e w'=>e = .returned .nilFunc∧aG o w G g nv m.id (jS s m (chk m.c op) 0) e w'))):=by
  refine (check_any m.c op W1.drew ((h.sh.heap.tabs.keep k1).keep kd)).mono ?_
  rintro e w' ⟨rfl,k2⟩
  have k3:=k1.trans (kd.trans k2)
  refine ⟨rfl,?_⟩
  refine (BK (h.still k3) (chk m.c op) 0 hres).mono ?_
  rintro e w' ⟨rfl,hp⟩
  exact ⟨rfl,hp.after k3.aF⟩
 have d0:(chk m.c op==0)=false:=by simpa using he
 generalize jS s m (chk m.c op) 0=R at *
 generalize chk m.c op=x at *
 rcases hcc:m.c with ⟨c0,c1,c2,c3,c4,c5,c6⟩
 rw [hcc] at HC
 obtain ⟨m1,m2,m3,m4,m5,m6,m7⟩:=h1.QG c0 c1 c2 c3 c4 c5 c6 hcc
 obtain ⟨ok,oa,ob,oc⟩:=op
 simp only [OpR.cells,aB.cells] at *
 have y0:=hb1.cell 0 rfl
 have y1:=hb1.cell 1 rfl
 have y2:=hb1.cell 2 rfl
 have y3:=hb1.cell 3 rfl
 have HW1:=Lib.hid hW1
 generalize m.id=mi at *
 clear h h1 hW1 he kd k1 hb1 hres
 go_enter Tryz.func93,Tryz.ntmps93
 go_wp2_with fail
 rw [← HW1.out]
 refine aA 5 rfl (by kernel_rfl) (by kernel_rfl) (fun K hK=>?_)
 change wpStill _ _ (World.drew _) _ _ _
 simp only [List.take_succ_cons,List.take_zero,List.drop_succ_cons,List.drop_zero] at hK ⊢
 repeat still_step
 refine wpStill_nil ?_
 change ite _ (Oper.wp _ _ _ _ _ _) _
 go_simp
 refine HC.out.mono ?_
 rintro e w2 ⟨rfl,hp⟩
 refine hK _ _ ?_
 clear hK K
 clear HC y0 y1 y2 y3 m1 m2 m3 m4 m5 m6 m7
 repeat still_step
 refine wpStill_nil ?_
 go_wp2_with fail
 refine hp.out.mono ?_
 rintro e w3 ⟨rfl,hp2⟩
 have HP:=Lib.hid hp2
 clear hp2 hp
 go_wp2_with fail
 go_ret
 exact HP.out
theorem JM (h:MAt o w G g s m none nv) (op:OpR) (v:Value) (hv:bH o w g.Nt g.M (.start op) v) (hpost:Calls Tryz.prog 93 #[.pointer (some ⟨g.M,0,none⟩),.agg op.cells.toArray] w (aG o w G g nv m.id (fK s m op))):∃ bs:List Nat,v = .func (.func 92) #[] (bs.map ah).toArray∧Calls Tryz.prog 92 (bs.map ah).toArray w (aG o w G g nv m.id (stepM s m (.start op))):=by
 obtain ⟨bs,hbs,hcap⟩:=hv
 refine ⟨bs,hbs,?_⟩
 obtain ⟨b0,b1,rfl,⟨o0,k0⟩,⟨o1,k1⟩⟩:=caps2 hcap
 have HC:Hid (Calls Tryz.prog 93 #[.pointer (some ⟨g.M,0,none⟩),.agg op.cells.toArray] w fun e w'=>∃ nv',e = .returned nv'∧(nv' = .nilFunc∨∃ (fn:Nat) (caps:Array Value),nv' = .func (.func fn) #[] caps)∧aG o w G g nv m.id (stepM s m (.start op)) (.returned nv') w'):=by
  refine hpost.mono ?_
  intro e w' hp
  obtain ⟨o',nv',rfl,e2,h1,hn,kk⟩:=id hp
  exact ⟨nv',rfl,hn.form,hp⟩
 obtain ⟨ok,oa,ob,oc⟩:=op
 have c0:w.cell? ⟨b0,0,none⟩=some (.pointer (some ⟨g.M,0,none⟩)):=k0.cell 0 rfl
 have p0:=k1.cell 0 rfl;have p1:=k1.cell 1 rfl;have p2:=k1.cell 2 rfl;have p3:=k1.cell 3 rfl
 show Calls Tryz.prog 92 #[.pointer (some ⟨b0,0,none⟩),.pointer (some ⟨b1,0,none⟩)] w _
 simp only [OpR.cells] at HC
 generalize stepM s m (.start ⟨ok,oa,ob,oc⟩)=R at *
 generalize m.id=mi at *
 clear h hcap hbs k0 k1 o0 o1
 go_enter Tryz.func92,Tryz.ntmps92
 go_wp2_with fail
 refine HC.out.mono ?_
 rintro e w2 ⟨nv',rfl,hf,hp⟩
 have HP:=Lib.hid hp
 clear hp c0 p0 p1 p2 p3
 rcases hf with rfl|⟨fn,caps,rfl⟩
 all_goals
  go_wp2_with fail
  go_ret
  exact HP.out
end
end
end Go.Proofs.YtanfphjoebobaaaGreatDoor
