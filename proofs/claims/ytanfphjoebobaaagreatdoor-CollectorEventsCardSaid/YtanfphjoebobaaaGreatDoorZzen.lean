/- Parts of the walk. No conditions. -/
import Derived.Test.YtanfphjoebobaaaGreatDoorZzem
namespace Go.Proofs.YtanfphjoebobaaaGreatDoor
open _root_.Go.Proofs.Tryz hiding prog
open _root_.Go.Proofs.Tryz renaming prog->ay
set_option maxRecDepth 10000
set_option maxHeartbeats 4000000
section
attribute [local go_sem] Oper.semAt_some
open Go.RowKit
section
variable {w w':World} {R X cap:Nat} {c:aK} {K:List Nat}
structure nO (w:World) (R X cap:Nat) (c:aK) (K:List Nat):Prop where
 blk:aA w R (c.cells++[.slice (some ⟨X,0,none⟩) K.length cap]) 145
 cls:∃ cur:List Value,aA w X cur 3/\∀ (j:Nat) (u:Value),(aG K)[j]?=some u->cur[j]?=some u
 len:c.b=(K.length:Int)
 ok:c.ok=true
 cap:K.length<=cap
theorem nO.small (h:nO w R X cap c K):1<=K.length/\K.length<=4096:=by
 have h1:=(fQ h.ok).1
 have h2:=h.len
 omega
theorem LU (h:nO w R X cap c K) (B k:Nat) (hB:B<K.length) (hk:K.getD B 0=k+1) (h4:k<4):Calls ay 102 #[aj R,ah (B:Int)] w fun e w'=>e = .returned (.tuple #[ah (k:Int),.bool true])/\w=w':=by
 have hb:=h.blk
 obtain ⟨c0,c1,c2,c3,c4,c5,c6⟩:=c
 simp only [aK.cells,List.cons_append,List.nil_append] at hb
 have y7:=hb.cell 7 rfl
 obtain ⟨cur,U5,hcv⟩:=h.cls
 have z:=U5.cell B (hcv _ _ (nK hB))
 rw [hk] at z
 have hs:=h.small
 have hcap:=h.cap
 have d1:decide ((K.length:Int)<=(B:Int))=false:=decide_eq_false (by omega)
 have d2:((((k+1:Nat):Int))==0)=false:=by simp;omega
 have d3:IntKind.i64.wrap ((((k+1:Nat):Int)) - 1)=(k:Int):=by rw [IntWalk.i64_in _ (by omega)];omega
 obtain ⟨q,hq⟩:∃ q:Int,q=((k+1:Nat):Int):=⟨_,rfl⟩
 rw [<- hq] at z d2 d3
 have hBI:(B:Int)<(K.length:Int):=by omega
 have Iw:(0:Int)<=(B:Int):=by omega
 generalize K.length=L at *
 clear h hb hk hs hq hB
 go_enter func102,ntmps102
 go_wp2_with fail
 go_ret2
 exact ⟨rfl,rfl⟩
theorem LV (h:nO w R X cap c K) (ww B k:Nat) (hw:c.w=ww) (hB:B<K.length) (hk:K.getD B 0=k+1) (h4:k<4) (hT:Tabs w) (hS:Sizes w):Calls ay 63 #[aj R,ah (B:Int)] w fun e w'=>∃ v,e = .returned v/\w'.ownsRow w.heap.size 3 1 v (ww/2^(k+1)) ((kH (ww/2^(k+1)) (2^(k+1)) (B*ww)).map fun x:Nat => ah (x:Int))/\Keep none_ w w':=by
 have HA:=au (E5 h.ok h.len hw k B h4 hB w hT hS)
 have l9:=au (LU h B k hB hk h4)
 have hb:=h.blk
 obtain ⟨c0,c1,c2,c3,c4,c5,c6⟩:=c
 simp only [aK.cells,List.cons_append,List.nil_append] at *
 have y0:=hb.cell 0 rfl;have y1:=hb.cell 1 rfl;have y2:=hb.cell 2 rfl;have y3:=hb.cell 3 rfl;have y4:=hb.cell 4 rfl;have y5:=hb.cell 5 rfl;have y6:=hb.cell 6 rfl
 generalize kH (ww/2^(k+1)) (2^(k+1)) (B*ww)=sl at *
 generalize ww/2^(k+1)=per at *
 clear h hb hB hk h4 hT hS hw
 go_enter func63,ntmps63
 go_wp2_with (first
  | (go_at_call 102;refine l9.out.mono ?_;rintro e w1 ⟨rfl,rfl⟩)
  | (go_at_call 103;refine HA.out.mono ?_;rintro e w1 ⟨v,rfl,ho,hk1⟩;have HO:=au ho;have HKK:=au hk1;clear ho hk1))
 go_ret
 exact ⟨_,rfl,HO.out,HKK.out⟩
theorem U6 (h:dU w R X c K):Calls ay 101 #[aj R] w fun e w'=>∃ R' X' cap,e = .returned (aj R')/\nO w' R' X' cap c K/\Keep none_ w w':=by
 have hb:=h.blk
 have hlen:=h.small
 have HC:=au (rP (some ⟨X,0,none⟩) K.length K.length (aG K) w.drew ⟨by simp [aG],fun _=>⟨X,0,rfl,fun j u hj=>by
  rw [Nat.zero_add]
  exact ((Keep.refl none_ w).drew.blk h.cls (fun f=>f)).cell j hj⟩⟩ (fun e=>by cases e) (by omega) (fun u hu=>by obtain ⟨z,_,rfl⟩:=List.mem_map.1 hu;rfl))
 have H:=au h
 have yN:Hid (1<=K.length):=hlen.1
 obtain ⟨c0,c1,c2,c3,c4,c5,c6⟩:=c
 simp only [aK.cells,List.cons_append,List.nil_append] at hb
 have y0:=hb.cell 0 rfl;have y1:=hb.cell 1 rfl;have y2:=hb.cell 2 rfl;have y3:=hb.cell 3 rfl;have y4:=hb.cell 4 rfl;have y5:=hb.cell 5 rfl;have y6:=hb.cell 6 rfl;have y7:=hb.cell 7 rfl
 generalize hKL:K.length=kl at *
 have HKL:=au hKL
 clear h hb hlen hKL
 go_enter func101,ntmps101
 go_wp2_with fail
 go_region_held3 (fun w'=>w'.cell? ⟨R,0,none⟩=some (ah c0)/\w'.cell? ⟨R,1,none⟩=some (ah c1)/\w'.cell? ⟨R,2,none⟩=some (ah c2)/\w'.cell? ⟨R,3,none⟩=some (ah c3)/\w'.cell? ⟨R,4,none⟩=some (ah c4)/\w'.cell? ⟨R,5,none⟩=some (ah c5)/\w'.cell? ⟨R,6,none⟩=some (ah c6)/\w'.cell? ⟨R,7,none⟩=some (.slice (some ⟨X,0,none⟩) kl kl))
  (first | exact ⟨y0, y1, y2, y3, y4, y5, y6, y7⟩ | exact ⟨aJ.out.still y0, aJ.out.still y1, aJ.out.still y2, aJ.out.still y3, aJ.out.still y4, aJ.out.still y5, aJ.out.still y6, aJ.out.still y7⟩ | exact ⟨(aJ.out.alloc _).still y0, (aJ.out.alloc _).still y1, (aJ.out.alloc _).still y2, (aJ.out.alloc _).still y3, (aJ.out.alloc _).still y4, (aJ.out.alloc _).still y5, (aJ.out.alloc _).still y6, (aJ.out.alloc _).still y7⟩ | fail "ji")
  ((go_at_call 85
    refine HC.out.mono ?_
    rintro e w1 ⟨v,rfl,hown,hk1⟩
    obtain ⟨g,cp,rfl,hge⟩:=Ei hown yN.out
    have HGE:=au hge
    have HOWN:=au hown
    have aJ:=au ((Keep.refl none_ w).drew.trans hk1)
    clear hown hk1 hge))
 obtain ⟨W2,hW2⟩:∃ W',W'=w1.alloc (.cells #[ah c0,ah c1,ah c2,ah c3,ah c4,ah c5,ah c6,.slice (some ⟨g,0,none⟩) kl cp] 145):=⟨_,rfl⟩
 rw [<- hW2]
 go_wp2_with fail
 go_ret
 have hk2:Keep none_ w1 W2:=by rw [hW2];exact (Keep.refl _ _).alloc _
 rcases HOWN.out.2 with ⟨h,_⟩|⟨g',cap',cur,hv,hb,hg,hn,hm,hs,hc⟩
 ·cases h
 ·cases hv
  refine ⟨w1.heap.size,g,cp,rfl,⟨?_,?_,H.out.len,H.out.ok,?_⟩,aJ.out.trans hk2⟩
  ·rw [hW2,HKL.out];exact aA.new w1 _ _
  ·refine ⟨cur.toList,hk2.blk (by unfold aA;simpa using hg) (fun f=>f),fun i v hi=>?_⟩
   rw [<- hc] at hi
   have hl:=(List.getElem?_eq_some_iff.1 hi).1
   rw [List.getElem?_take_of_lt (by simp at hl;omega)] at hi
   exact hi
  ·rw [HKL.out];exact hn
end
section
variable {w w':World} {D:Nat->Nat} {H:HS}
theorem zB (h:aF w D H):Calls ay 62 #[aj (D 0)] w fun e w'=>∃ R' X' cap,e = .returned (aj R')/\nO w' R' X' cap H.c H.K/\Keep none_ w w':=by
 have y1:=h.blk.cell 1 rfl
 have HC:Hid (Calls ay 101 #[aj (D 3)] w fun e w'=>∃ R' X' cap,e = .returned (aj R')/\nO w' R' X' cap H.c H.K/\Keep none_ w w'):=U6 h.table
 clear h
 go_enter func62,ntmps62
 go_wp2_with fail
 refine HC.out.mono ?_
 rintro e w1 ⟨R',X',cap,rfl,h1,k1⟩
 have H1:=au h1
 have K1:=au k1
 clear h1 k1
 go_wp2_with fail
 go_ret
 exact ⟨_,_,_,rfl,H1.out,K1.out⟩
theorem OY (c:Nat) (hc:c<2) (w:World):Calls ay 276 #[ah (c:Int)] w fun e w'=>e = .returned (.bool true)/\w=w':=by
 have:c=0\/c=1:=by omega
 rcases this with rfl|rfl
 all_goals
  clear hc
  go_enter func276,ntmps276
  go_wp2_with fail
  go_ret
  exact ⟨rfl,rfl⟩
theorem XK (h:aF w D H) (B c:Nat) (hB:H.K.getD B 0≠0) (hc:c<2):Calls ay 266 #[aj (D 0),ah (B:Int),ah (c:Int)] w fun e w'=>∃ W g n cp,e = .returned (.tuple #[aB W.heap.size,ah 0])/\Keep none_ w W/\W.ownsRow w.heap.size 3 1 (.slice (some ⟨g,0,none⟩) n cp) n (aG (H.slots B))/\n<=256/\Keep none_ W w'/\aA w' W.heap.size [aB (D 0),.slice (some ⟨g,0,none⟩) n cp,ah (B:Int),ah (c:Int)] 266:=by
 have HT:=au (zB h)
 have hBl:B<H.K.length:=by
  rcases Nat.lt_or_ge B H.K.length with g|g
  ·exact g
  ·rw [List.getD_eq_getElem?_getD,List.getElem?_eq_none g] at hB
   simp at hB
 have hk4:H.K.getD B 0<=4:=by
  rw [List.getD_eq_getElem?_getD,List.getElem?_eq_getElem hBl]
  exact h.table.le _ (List.getElem_mem hBl)
 have hn:=lD h.table.ok h.table.len h.cw
 have hpos:0<H.ww/2^(H.K.getD B 0):=by
  have h2:2^(H.K.getD B 0)<=16:=Nat.pow_le_pow_right (by decide) hk4
  exact Nat.div_pos (by omega) (Nat.two_pow_pos _)
 have hle:H.ww/2^(H.K.getD B 0)<=256:=Nat.le_trans (Nat.div_le_self _ _) hn.2.2.2.1
 have HS:Hid (∀ w1 R X cap,nO w1 R X cap H.c H.K->Keep none_ w w1->Calls ay 63 #[aj R,ah (B:Int)] w1 fun e w'=>∃ g cp n,e = .returned (.slice (some ⟨g,0,none⟩) n cp)/\n=(H.slots B).length/\1<=n/\n<=256/\w'.ownsRow w.heap.size 3 1 (.slice (some ⟨g,0,none⟩) n cp) n (aG (H.slots B))/\Keep none_ w w'):=fun w1 R X cap ht k1=>by
  have h1:=LV ht H.ww B (H.K.getD B 0 - 1) h.cw hBl (by omega) (by omega) (h.tabs.keep k1) (h.sizes.keep k1)
  rw [show H.K.getD B 0 - 1+1=H.K.getD B 0 by omega] at h1
  refine h1.mono ?_
  rintro e w2 ⟨v,rfl,ho,k2⟩
  have e1:H.slots B=kH (H.ww/2^(H.K.getD B 0)) (2^(H.K.getD B 0)) (B*H.ww):=by unfold HS.slots;rw [if_neg hB]
  obtain ⟨g,cp,rfl,_⟩:=Ei ho hpos
  exact ⟨g,cp,_,rfl,by rw [e1,vN],hpos,hle,by rw [e1];exact bD ho k1.size,k1.trans k2⟩
 have hcc:=hc
 clear h hB hBl hk4 hn hpos hle
 generalize H.slots B=sl at *
 go_enter func266,ntmps266
 go_wp2_with fail
 refine HT.out.mono ?_
 rintro e w1 ⟨R',X',cap,rfl,h1,k1⟩
 have jJ:=au (HS.out _ _ _ _ h1 k1)
 clear h1 k1 HT
 go_wp2_with fail
 refine jJ.out.mono ?_
 rintro e w2 ⟨g,cp,n,rfl,hn,hn1,hn2,ho,k2⟩
 have HO:=au ho
 have K2:=au k2
 have HN:=au hn
 have d0:((n:Int)==0)=false:=by simp;omega
 clear ho k2 jJ HS hn hn1
 go_wp2_with (go_at_call 276;refine (OY c hcc _).mono ?_;rintro e w3 ⟨rfl,rfl⟩)
 obtain ⟨W3,hW3⟩:∃ W',W'=w2.alloc (.cells #[aB (D 0),.slice (some ⟨g,0,none⟩) n cp,ah (B:Int),ah (c:Int)] 266):=⟨_,rfl⟩
 rw [<- hW3]
 go_ret2
 have k3:Keep none_ w2 W3:=by rw [hW3];exact (Keep.refl _ _).alloc _
 have hb:aA W3 w2.heap.size [aB (D 0),.slice (some ⟨g,0,none⟩) n cp,ah (B:Int),ah (c:Int)] 266:=by rw [hW3];exact aA.new w2 _ _
 exact ⟨w2,g,n,cp,rfl,K2.out,HO.out,hn2,k3,hb⟩
end
section
variable {o:Ow} {w w':World} {G:Geo} {s:Sh} {q:Nat} {v:Value} {sl:List Nat} {c:Nat}
theorem iH.form (h:iH o w (G.D 0) q v sl c):(v = .pointer none/\sl=[])\/∃ C b a cp,v=aB C/\o C=q/\aA w C [aB (G.D 0),.slice a sl.length cp,ah (b:Int),ah (c:Int)] 266/\bC o w 3 (.slice a sl.length cp) (aG sl)/\sl.length<=cp/\sl.length<=4000000000000:=by
 rcases h with h|⟨C,b,sv,h1,h2,h3,h4⟩
 ·exact .inl h
 ·obtain ⟨a,cp,rfl,hl,hm,_⟩:=h4.form
  rw [show (aG sl).length=sl.length by simp [aG]] at *
  exact .inr ⟨C,b,a,cp,h1,h2,h3,h4,hl,hm⟩
theorem iH.aH {I:List Nat} {D0:Nat} (h:iH o w D0 q v sl c) (k:Keep (In o I) w w') (h0:I.contains 0=false) (hq:I.contains q=false):iH o w' D0 q v sl c:=by
 rcases h with h|⟨C,b,sv,h1,h2,h3,h4⟩
 ·exact .inl h
 ·exact .inr ⟨C,b,sv,h1,h2,h3.aH k h2 hq,h4.aH k h0⟩
theorem iH.still {D0:Nat} (h:iH o w D0 q v sl c) (k:Keep none_ w w'):iH o w' D0 q v sl c:=by
 rcases h with h|⟨C,b,sv,h1,h2,h3,h4⟩
 ·exact .inl h
 ·exact .inr ⟨C,b,sv,h1,h2,k.blk h3 (fun f=>f),h4.still k⟩
theorem iH.ext {o':Ow} {D0:Nat} (h:iH o w D0 q v sl c) (e:aQ w o o'):iH o' w D0 q v sl c:=by
 rcases h with h|⟨C,b,sv,h1,h2,h3,h4⟩
 ·exact .inl h
 ·exact .inr ⟨C,b,sv,h1,(e C h3.lt).trans h2,h3,h4.ext e⟩
theorem OZ (h:iH o w (G.D 0) q v sl c):Calls ay 287 #[v] w fun e w'=>e = .returned (ah (sl.length:Int))/\w=w':=by
 rcases h.form with ⟨rfl,rfl⟩|⟨C,b,a,cp,rfl,_,h3,_,_,hm⟩
 ·clear h
  go_enter func287,ntmps287
  go_wp2_with fail
  go_ret
  exact ⟨rfl,rfl⟩
 ·have y1:=h3.cell 1 rfl
  clear h h3
  generalize sl.length=n at *
  go_enter func287,ntmps287
  go_wp2_with fail
  go_ret
  exact ⟨rfl,rfl⟩
theorem DC (h:iH o w (G.D 0) q v sl c):Calls ay 278 #[v] w fun e w'=>e = .returned (.bool (decide (sl=[])))/\w=w':=by
 have HL:=au (OZ h)
 have HD:Hid ((((sl.length:Int))==0)=decide (sl=[])):=by
  unfold Hid
  cases sl with
  | nil=>rfl
  | cons a r=>simp;omega
 have hf:(v = .pointer none)\/∃ C,v=aB C:=by
  rcases h.form with ⟨h,_⟩|⟨C,_,_,_,h,_⟩
  ·exact .inl h
  ·exact .inr ⟨C,h⟩
 clear h
 generalize decide (sl=[])=b at *
 generalize sl.length=n at *
 rcases hf with rfl|⟨C,rfl⟩
 all_goals
  go_enter func278,ntmps278
  go_wp2_with fail
  refine HL.out.mono ?_
  rintro e w1 ⟨rfl,rfl⟩
  have HDD:=HD.out
  clear HL
  go_wp2_with fail
  go_ret
  exact ⟨rfl,rfl⟩
def Sh.frees (s:Sh) (c a:Nat):Bool := !(!s.H.bn a||s.H.dW a==c)
theorem acH (hq:20<=q\/q=5):([1,q]:List Nat).contains 0=false/\([1,q]:List Nat).contains 2=false/\([1,q]:List Nat).contains 3=false/\([1,q]:List Nat).contains 4=false/\([q]:List Nat).contains 0=false/\([q]:List Nat).contains 1=false/\∀ i,i<8->([1,q]:List Nat).contains (10+i)=false:=by
 refine ⟨?_,?_,?_,?_,?_,?_,fun i hi=>?_⟩<;>simp<;>omega
theorem O0 {a:Nat} {r:List Nat} (h:ShAt o w G s) (hc:iH o w (G.D 0) q v (a::r) c) (hq:20<=q\/q=5) (h8:s.boxes.length<=8):Calls ay 280 #[v] w fun e w'=>e = .returned (.tuple #[ah ((if s.frees c a then a else 0:Nat):Int),.bool (s.frees c a)])/\ShAt o w' G { s with H:=if s.frees c a then s.H.fV a else s.H }/\iH o w' (G.D 0) q v r c/\Keep (In o [1,q]) w w':=by
 have HDn:Hid (Calls ay 278 #[v] w fun e w'=>e = .returned (.bool false)/\w=w'):=DC hc
 obtain ⟨q1,q2,q3,q4,q5,q6,q7⟩:=acH hq
 rcases hc.form with ⟨_,h1⟩|⟨C,b,a0,cp,rfl,oC,hb,hr,hl,hm⟩
 ·cases h1
 simp only [List.length_cons] at hb hr hl hm
 have hcut:=hr.cut 1 (by omega)
 rw [show (aG (a::r)).drop 1=aG r from rfl] at hcut
 obtain ⟨a',c',ee,_,_,hcell⟩:=hr.form
 simp only [Value.slice.injEq] at ee
 obtain ⟨e1,e9,e2⟩:=ee
 subst e1;subst e2
 obtain ⟨b',off',rfl,hx⟩:=hcell 0 (ah (a:Int)) rfl
 rw [Nat.add_zero] at hx
 clear e9
 have Rw:=fun w=>Cj (P:=ay) (T:=32) (e:=3) (by kernel_rfl) (by kernel_rfl) (some ⟨b',off',none⟩) (r.length+1) cp 1 (by omega) w
 simp only [show (((1:Nat)):Int)=1 from rfl] at Rw
 have hpos:(0:Int)<((r.length+1:Nat):Int):=by omega
 have y0:=hb.cell 0 rfl
 have y1:=hb.cell 1 rfl
 have f1:=hb.free 1
 generalize hL:r.length+1=L at *
 generalize hca:oP (some ⟨b',off',none⟩) cp 1=ca at *
 obtain ⟨W1,hW1⟩:∃ W1,W1=w.setCell ⟨C,1,none⟩ (.slice ca (L - 1) (cp - 1)):=⟨_,rfl⟩
 have kC:Keep (only C) w W1:=by rw [hW1];exact (Keep.refl (only C) _).put _ _
 have k1:Keep (In o [q]) w W1:=kC.qK oC (by simp)
 have kk1:Keep (In o [1,q]) w W1:=k1.jP (by simp)
 have hb1:aA W1 C [aB (G.D 0),.slice ca (L - 1) (cp - 1),ah (b:Int),ah (c:Int)] 266:=by rw [hW1];exact hb.set 1 _
 have hH1:=h.heapK k1 q5 q6
 have hr1:bC o W1 3 (.slice ca (L - 1) (cp - 1)) (aG r):=hcut.aH k1 q5
 have hcur1:iH o W1 (G.D 0) q (aB C) r c := .inr ⟨C,b,_,rfl,oC,hb1,hr1⟩
 have z0:=hb1.cell 0 rfl
 have z3:=hb1.cell 3 rfl
 have HW:=au hW1
 have hSh:∀ w' H,aF w' G.D H->Keep (In o [1,q]) w w'->ShAt o w' G { s with H:=H }:=fun w' H hH k =>
  h.upd (s':={ s with H:=H }) k q1 hH (h.board.keep k (bI h.oB q2)) (h.queue.aH k q1 h.oQ q3) (h.flag.aH k h.oF q4) rfl (h.Em k q1 (fun i hi=>q7 i (by omega)))
 have FM:=au (vO hH1 a)
 by_cases hf:s.frees c a=true
 ·have hbn:s.H.bn a=true:=by unfold Sh.frees at hf;cases h9:s.H.bn a<;>simp_all
  have hne:s.H.dW a≠c:=fun e=>by unfold Sh.frees at hf;simp [e] at hf
  have d1:((s.H.dW a:Int)==(c:Int))=false:=by simp;omega
  have d1':decide (s.H.dW a=c)=false:=decide_eq_false hne
  rw [if_pos hbn,if_pos hbn] at FM
  rw [hf,if_pos rfl,if_pos rfl]
  have HFr:Hid (Calls ay 288 #[aj (G.D 0),ah (a:Int)] W1 fun e w'=>(∃ er:Int,e = .returned (ah er))/\ShAt o w' G { s with H:=s.H.fV a }/\iH o w' (G.D 0) q (aB C) r c/\Keep (In o [1,q]) w w'):=by
   refine (UN hH1 a).mono ?_
   rintro e w' ⟨⟨er,rfl⟩,g1,g2⟩
   have k2:Keep (In o [1]) W1 w':=g2.mono (fun x _ hx=>by
    obtain ⟨i,hi,e⟩:=hx
    unfold In
    rw [e,h.oD i hi]
    simp)
   have k3:Keep (In o [1,q]) w w':=kk1.trans (k2.jP (by simp))
   exact ⟨⟨_,rfl⟩,hSh w' _ g1 k3,hcur1.aH k2 rfl (by simp;omega),k3⟩
  generalize s.H.dW a=kc at *
  generalize { s with H:=s.H.fV a }=s' at *
  clear h hc hb hr hcut hcell kC k1 kk1 hb1 hH1 hr1 hcur1 hSh hbn hne hf hca hL hl hm hW1
  go_enter func280,ntmps280
  go_wp2_with fail
  refine HDn.out.mono ?_
  rintro e w2 ⟨rfl,rfl⟩
  clear HDn
  go_wp2_with fail
  rw [<- HW.out]
  refine FM.out.mono ?_
  rintro e w2 ⟨rfl,rfl⟩
  clear FM
  go_wp2_with fail
  refine HFr.out.mono ?_
  rintro e w2 ⟨⟨er,rfl⟩,g1,g2,g3⟩
  have HX:=au (And.intro g1 (And.intro g2 g3))
  clear g1 g2 g3 y0 y1 f1 hx z0 z3 HFr
  go_wp2_with fail
  go_ret2
  exact ⟨rfl,HX.out.1,HX.out.2.1,HX.out.2.2⟩
 ·have hf':s.frees c a=false:=by simpa using hf
  rw [hf',if_neg (by decide),if_neg (by decide)]
  have HE:Hid (ShAt o W1 G { s with H:=s.H }/\iH o W1 (G.D 0) q (aB C) r c/\Keep (In o [1,q]) w W1):=⟨hSh W1 s.H hH1 kk1,hcur1,kk1⟩
  by_cases hbn:s.H.bn a=true
  ·have hce:s.H.dW a=c:=by
    unfold Sh.frees at hf'
    rw [hbn] at hf'
    simpa using hf'
   have d1:((s.H.dW a:Int)==(c:Int))=true:=by simp [hce]
   have d1':decide (s.H.dW a=c)=true:=decide_eq_true hce
   rw [if_pos hbn,if_pos hbn] at FM
   generalize s.H.dW a=kc at *
   clear h hc hb hr hcut hcell kC k1 kk1 hb1 hH1 hr1 hcur1 hSh hbn hce hf hf' hca hL hl hm hW1
   go_enter func280,ntmps280
   go_wp2_with fail
   refine HDn.out.mono ?_
   rintro e w2 ⟨rfl,rfl⟩
   clear HDn
   go_wp2_with fail
   rw [<- HW.out]
   refine FM.out.mono ?_
   rintro e w2 ⟨rfl,rfl⟩
   clear FM
   go_wp2_with fail
   go_ret2
   exact ⟨rfl,HE.out.1,HE.out.2.1,HE.out.2.2⟩
  ·rw [if_neg hbn,if_neg hbn] at FM
   clear h hc hb hr hcut hcell kC k1 kk1 hb1 hH1 hr1 hcur1 hSh hbn hf hf' hca hL hl hm hW1
   go_enter func280,ntmps280
   go_wp2_with fail
   refine HDn.out.mono ?_
   rintro e w2 ⟨rfl,rfl⟩
   clear HDn
   go_wp2_with fail
   rw [<- HW.out]
   refine FM.out.mono ?_
   rintro e w2 ⟨rfl,rfl⟩
   clear FM
   go_wp2_with fail
   go_ret2
   exact ⟨rfl,HE.out.1,HE.out.2.1,HE.out.2.2⟩
end
section
variable {o:Ow} {w w':World} {G:Geo} {g:MG} {s:Sh} {m:MS} {nv:Value}
theorem aN.xK {ev:Option Ev} {o':Ow} (h:aN o w G g s m ev nv) (k:Keep none_ w w') (e:aQ w o o') (hf:gX o' w'):aN o' w' G g s m ev nv:=by
 obtain ⟨pv,rv,h1,h2,h3⟩:=h.blk
 obtain ⟨_,v,hb,_⟩:=id h.buf
 have k0:Keep (In o' []) w w':=k.aS
 have e1:=(e _ h1.lt).trans h.oM
 have e2:=(e _ h.regs.lt).trans h.oX
 have e3:=(e _ hb.lt).trans h.wO
 have e4:=(e _ h.nt.lt).trans h.sN
 exact ⟨h.sh.move (I:=[]) k.aS rfl h.box8 e hf,⟨pv,rv,h1.aH k0 e1 rfl,(h2.ext e).aH k0 rfl,(h3.ext e).aH k0 rfl⟩,e1,h.regs.aH k0 e2 rfl,e2,(h.buf.ext e).aH k0 rfl e3 rfl,e3,h.nt.aH k0 e4 rfl,e4,h.jm,h.box8,h.conf,h.rlen,h.wP⟩
end
theorem abf {o:Ow} {w:World} {a b c d e:List Value × TypeId} {bs:List Nat} (h:Caps o w [a,b,c,d,e] bs):∃ b0 b1 b2 b3 b4,bs=[b0,b1,b2,b3,b4]/\(o b0=0/\aA w b0 a.1 a.2)/\(o b1=0/\aA w b1 b.1 b.2)/\(o b2=0/\aA w b2 c.1 c.2)/\(o b3=0/\aA w b3 d.1 d.2)/\(o b4=0/\aA w b4 e.1 e.2):=by
 obtain ⟨b0,r0,rfl,o0,k0,b1,r1,rfl,o1,k1,b2,r2,rfl,o2,k2,b3,r3,rfl,o3,k3,b4,r4,rfl,o4,k4,rfl⟩:=h
 exact ⟨b0,b1,b2,b3,b4,rfl,⟨o0,k0⟩,⟨o1,k1⟩,⟨o2,k2⟩,⟨o3,k3⟩,⟨o4,k4⟩⟩
section
variable {o:Ow} {w w':World} {G:Geo} {g:MG} {s:Sh} {m:MS} {nv:Value}
theorem aN.c12 {ev:Option Ev} (h:aN o w G g s m ev nv):w.cell? ⟨g.M,12,none⟩=some (ah (m.mode:Int)):=h.cell 12 _ (fun _ _=>rfl)
theorem aN.c11 {ev:Option Ev} (h:aN o w G g s m ev nv):w.cell? ⟨g.M,11,none⟩=some (aj g.Nt):=h.cell 11 _ (fun _ _=>rfl)
theorem aN.c14 {ev:Option Ev} (h:aN o w G g s m ev nv):w.cell? ⟨g.M,14,none⟩=some (ah (m.want:Int)):=h.cell 14 _ (fun _ _=>rfl)
end
section
variable {o:Ow} {w w':World} {G:Geo} {g:MG} {s:Sh} {m:MS} {nv:Value}
def En:MD->Bool
 | .nil=>false
 | .sweep _ _ _=>false
 | _=>true
theorem dw.XL {Nt M:Nat} {d:MD} {v:Value} (h:dw o w Nt M d v) (hd:En d=true):∃ (fn:Nat) (caps:Array Value),v = .func (.func fn) #[] caps:=by
 rcases h.form with rfl|h1
 ·exfalso
  cases d
  case nil=>cases hd
  case sweep=>cases hd
  case last rd=>obtain ⟨_,_,bs,e,_⟩:=h;cases e
  case start=>obtain ⟨bs,e,_⟩:=h;cases e
  case once=>obtain ⟨_,⟨bs,e,_⟩,_⟩:=h;cases e
  case note=>obtain ⟨_,_,_,_,bs,e,_⟩:=h;cases e
  case add=>obtain ⟨_,_,bs,e,_⟩:=h;cases e
  case pour=>obtain ⟨_,_,bs,e,_⟩:=h;cases e
  case eu=>obtain ⟨_,_,bs,e,_⟩:=h;cases e
  case raise=>obtain ⟨_,_,bs,e,_⟩:=h;cases e
  case field=>obtain ⟨_,_,bs,e,_⟩:=h;cases e
  case load=>obtain ⟨bs,e,_⟩:=h;cases e
  case get=>obtain ⟨bs,e,_⟩:=h;cases e
  case lay=>obtain ⟨_,_,_,_,bs,e,_⟩:=h;cases e
  case alloc=>obtain ⟨bs,e,_⟩:=h;cases e
  case assign=>obtain ⟨bs,e,_⟩:=h;cases e
  case qj=>obtain ⟨_,_,_,bs,e,_⟩:=h;cases e
  case claim=>obtain ⟨bs,e,_⟩:=h;cases e
  case again=>obtain ⟨bs,e,_⟩:=h;cases e
  case fill=>obtain ⟨bs,e,_⟩:=h;cases e
  case zero=>obtain ⟨bs,e,_⟩:=h;cases e
 ·exact h1
theorem IW {v c:Nat} {t:MD} (h:En t=true):En (kD v c t)=true:=by
 unfold kD
 split
 ·exact h
 ·rfl
theorem RN {Nt M:Nat} (hf:gX o w) (v c:Nat) (t:MD) (tv:Value) (ht:dw o w Nt M t tv) (hd:En t=true):Calls ay 135 #[aj Nt,ah (v:Int),ah (c:Int),tv] w fun e w'=>∃ fn caps,e = .returned (.func (.func fn) #[] caps)/\dw o w' Nt M (kD v c t) (.func (.func fn) #[] caps)/\Keep none_ w w':=by
 refine (RG hf v c t tv ht).mono ?_
 rintro e w' ⟨nv,rfl,h1,h2⟩
 obtain ⟨fn,caps,rfl⟩:=h1.XL (IW hd)
 exact ⟨fn,caps,rfl,h1,h2⟩
end
theorem room4:kN 0=1/\kN 1=3/\kN 2=7/\kN 3=15:=by decide
theorem Qd (f:Int) (h0:0<=f) (h1:f<=15) (w:World) (hS:Sizes w):Calls ay 112 #[ah f] w fun e w'=>e = .returned (.tuple #[ah (jF f:Int),.bool true])/\w=w':=by
 have d0:decide (0<=f)=true:=decide_eq_true h0
 go_enter func112,ntmps112
 go_wp2_with fail
 go_loop [5] (fun i=>∃ k:Nat,k<4/\i = ah k/\∀ j:Nat,j<k->kN (j:Int)<f) (fun i=>4 - (intOf i).toNat)
 case atStart=>exact ⟨0,by omega,rfl,fun j hj=>by omega⟩
 case round =>
  obtain ⟨k,hk,rfl,hl⟩:=hrel
  by_cases hle:f<=kN (k:Int)
  ·have HE:Hid (jF f=k):=by
    obtain ⟨r0,r1,r2,r3⟩:=room4
    have h4:k=0\/k=1\/k=2\/k=3:=by omega
    have l0:=hl 0;have l1:=hl 1;have l2:=hl 2
    unfold Hid jF
    have r0':kN ((0:Nat):Int)=1:=r0
    have r1':kN ((1:Nat):Int)=3:=r1
    have r2':kN ((2:Nat):Int)=7:=r2
    have r3':kN ((3:Nat):Int)=15:=r3
    rw [r0'] at l0;rw [r1'] at l1;rw [r2'] at l2
    rcases h4 with rfl|rfl|rfl|rfl
    ·rw [r0'] at hle
     rw [if_neg (by omega),if_pos hle]
    ·rw [r1'] at hle
     rw [if_neg (by omega),if_neg (by omega),if_pos hle]
    ·rw [r2'] at hle
     rw [if_neg (by omega),if_neg (by omega),if_neg (by omega),if_pos hle]
    ·rw [r3'] at hle
     rw [if_neg (by omega),if_neg (by omega),if_neg (by omega),if_neg (by omega),if_pos hle]
   have d1:decide (f<=kN (k:Int))=true:=decide_eq_true hle
   have HR:=au (yY (k:Int) w hS)
   generalize kN (k:Int)=r at *
   clear hl hS
   go_wp2_with (go_at_call 158;refine HR.out.mono ?_;rintro e w1 ⟨rfl,rfl⟩)
   go_ret2
   rw [HE.out]
   exact ⟨rfl,rfl⟩
  ·have d1:decide (f<=kN (k:Int))=false:=decide_eq_false hle
   have HR:=au (yY (k:Int) w hS)
   have HL:Hid (k+1<4/\∀ j:Nat,j<k+1->kN (j:Int)<f):=by
    refine ⟨?_,fun j hj=>?_⟩
    ·have:=room4.2.2.2
     rcases Nat.lt_or_ge k 3 with h|h
     ·omega
     ·exfalso
      obtain rfl:k=3:=by omega
      exact hle (by rw [show kN ((3:Nat):Int)=15 from this];exact h1)
    ·rcases Nat.lt_or_ge j k with h|h
     ·exact hl j h
     ·obtain rfl:j=k:=by omega
      omega
   generalize kN (k:Int)=r at *
   clear hl hS
   go_wp2_with (go_at_call 158;refine HR.out.mono ?_;rintro e w1 ⟨rfl,rfl⟩)
   go_round
   case rel=>exact ⟨k+1,HL.out.1,by go_num,HL.out.2⟩
   case measure=>simp [intOf];omega
section
variable {o:Ow} {w w':World} {G:Geo} {g:MG} {s:Sh} {m:MS} {nv:Value}
theorem aT.clo {d:MD} {fn:Nat} {caps:Array Value} (h:aN o w G g s m none nv) (hc:dw o w' g.Nt g.M d (.func (.func fn) #[] caps)) (k:Keep none_ w w'):aT o w G g nv m.id ⟨s,m,d,none⟩ (.returned (.func (.func fn) #[] caps)) w' :=
 aT.same (r:=⟨s,m,d,none⟩) (h.still k) hc k.aS
theorem U7 (h:aN o w G g s m none nv) (op:fE):Calls ay 187 #[aj g.M,.agg op.cells.toArray] w (aT o w G g nv m.id ⟨s,m,.get op,none⟩):=by
 obtain ⟨ok,oa,ob,oc⟩:=op
 have hc:=iq (o:=o) [([aB g.M],56),([ah ok,ah oa,ah ob,ah oc],83)] w h.sh.fC
 have HE:Hid (aT o w G g nv m.id ⟨s,m,.get ⟨ok,oa,ob,oc⟩,none⟩ (.returned (.func (.func 230) #[] #[aB w.heap.size,aB (w.heap.size+1)])) (bU w [([aB g.M],56),([ah ok,ah oa,ah ob,ah oc],83)])):=by
  obtain ⟨b0,b1,e,⟨o0,k0⟩,⟨o1,k1⟩⟩:=caps2 hc.1
  simp only [idxs,List.cons.injEq] at e
  obtain ⟨rfl,rfl,_⟩:=e
  exact aT.clo h ⟨[w.heap.size,w.heap.size+1],rfl,_,_,rfl,o0,k0,_,_,rfl,o1,k1,rfl⟩ hc.2
 have hmf:=jc
 generalize (⟨s,m,.get ⟨ok,oa,ob,oc⟩,none⟩:qo)=R at *
 generalize m.id=mi at *
 clear hc h
 simp only [fE.cells]
 go_enter func187,ntmps187
 go_wp2_with fail
 go_ret
 exact HE.out
end
end
section
open Go.RowKit Go.Sort
def wR:Value->Option (DataW Nat × List MemPlace)
 | .nilFunc=>some (.nil,[])
 | .func (.func f) a b=>if a.size=0/\b.size=0 then some (.held f,[]) else none
 | _=>none
theorem RP {v:Value} {f:Nat} {ps:List MemPlace} (h:wR v=some (.held f,ps)):v = .func (.func f) #[] #[]:=by
 unfold wR at h
 split at h
 ·simp at h
 ·split at h
  ·rename_i h1
   simp at h
   obtain ⟨rfl,_⟩:=h
   obtain ⟨h1,h2⟩:=h1
   rw [Array.eq_empty_of_size_eq_zero h1,Array.eq_empty_of_size_eq_zero h2]
  ·simp at h
 ·simp at h
def U8:DataW Nat:=((((((((DataW.map []).put (.int .i64 1) (.held 184)).put (.int .i64 2) (.held 185)).put (.int .i64 3) (.held 186)).put (.int .i64 4) (.held 187)).put (.int .i64 5) (.held 188)).put (.int .i64 6) (.held 189)).put (.int .i64 7) (.held 190)).put (.int .i64 8) (.held 191)
def yQ (k:Int):Option Nat:=if k=1 then some 184 else if k=2 then some 185 else if k=3 then some 186 else if k=4 then some 187 else if k=5 then some 188 else if k=6 then some 189 else if k=7 then some 190 else if k=8 then some 191 else none
theorem YX:Maps.Keyed ay 3:=Maps.int_keyed (q := .i64) (by kernel_rfl)
theorem YZ:ay.underlying 192=some (.map 3 191):=by kernel_rfl
theorem pJ {w:World} {b n:Nat} {D:DataW Nat} (h:w.ownsMap ay 3 wR b n D) (hn:n<=100) (k:Int) (hk:(Lit.int .i64 k).wf=true) (f:Nat) :
 ∃ w',(Instr.mapUpdate 192 (.map (some b)) (ah k) (.func (.func f) #[] #[])).run ay w = .ok () w'/\w'.ownsMap ay 3 wR b (n+1) (D.put (.int .i64 k) (.held f))/\w.grownBy w' (some b) :=
 h.update YX YZ (by unfold maxLen;omega) (Maps.keyOf_int_mk (q := .i64) (by kernel_rfl) hk) (show wR (.func (.func f) #[] #[])=some (.held f,[]) from rfl)
theorem RQ {w:World} {b n:Nat} (h:w.ownsMap ay 3 wR b n U8) (k:Int) (f:Nat) (hk:yQ k=some f):(Instr.lookup 192 (.map (some b)) (ah k) false).run ay w = .ok (.func (.func f) #[] #[]) w:=by
 have key:∀ k f,(Lit.int .i64 k).wf=true->U8.atKey (.int .i64 k) .nil = .held f->(Instr.lookup 192 (.map (some b)) (ah k) false).run ay w = .ok (.func (.func f) #[] #[]) w:=fun k f hwf hat=>by
  obtain ⟨v,ps,hr,hv⟩:=h.lookup (z := .nilFunc) YX YZ (by kernel_rfl) (zd := .nil) (zp:=[]) rfl (Maps.keyOf_int_mk (q := .i64) (by kernel_rfl) hwf)
  rw [hat] at hv
  rw [hr,RP hv]
 unfold yQ at hk
 split at hk
 ·cases hk;subst k;exact key 1 _ (by decide) rfl
 split at hk
 ·cases hk;subst k;exact key 2 _ (by decide) rfl
 split at hk
 ·cases hk;subst k;exact key 3 _ (by decide) rfl
 split at hk
 ·cases hk;subst k;exact key 4 _ (by decide) rfl
 split at hk
 ·cases hk;subst k;exact key 5 _ (by decide) rfl
 split at hk
 ·cases hk;subst k;exact key 6 _ (by decide) rfl
 split at hk
 ·cases hk;subst k;exact key 7 _ (by decide) rfl
 split at hk
 ·cases hk;subst k;exact key 8 _ (by decide) rfl
 ·cases hk
theorem RS (w:World):Calls ay 141 #[] w fun e w'=>∃ b,e = .returned (.map (some b))/\Keep none_ w w'/\∀ W,Keep none_ w' W->∀ k f,yQ k=some f->(Instr.lookup 192 (.map (some b)) (ah k) false).run ay W = .ok (.func (.func f) #[] #[]) W:=by
 have hmm := @run_makeMap ay
 have h0:=World.ownsMap_made w ay 3 wR
 obtain ⟨w1,r1,h1,g1⟩:=pJ h0 (by decide) 1 (by decide) 184
 obtain ⟨w2,r2,h2,g2⟩:=pJ h1 (by decide) 2 (by decide) 185
 obtain ⟨w3,r3,h3,g3⟩:=pJ h2 (by decide) 3 (by decide) 186
 obtain ⟨w4,r4,h4,g4⟩:=pJ h3 (by decide) 4 (by decide) 187
 obtain ⟨w5,r5,h5,g5⟩:=pJ h4 (by decide) 5 (by decide) 188
 obtain ⟨w6,r6,h6,g6⟩:=pJ h5 (by decide) 6 (by decide) 189
 obtain ⟨w7,r7,h7,g7⟩:=pJ h6 (by decide) 7 (by decide) 190
 obtain ⟨w8,r8,h8,g8⟩:=pJ h7 (by decide) 8 (by decide) 191
 have hk0:Keep none_ w (w.alloc (.map #[] 0)):=(Keep.refl _ _).alloc _
 have up:∀ {a b:World},Keep none_ w a->a.grownBy b (some w.heap.size)->Keep none_ w b:=fun ha hg=>ha.grown hg (fun k e hk=>by injection e with e;omega)
 have HK:=au (up (up (up (up (up (up (up (up hk0 g1) g2) g3) g4) g5) g6) g7) g8)
 have HL:Hid (∀ W,Keep none_ w8 W->∀ k f,yQ k=some f->(Instr.lookup 192 (.map (some w.heap.size)) (ah k) false).run ay W = .ok (.func (.func f) #[] #[]) W):=fun W hk k f hf =>
  RQ (h8.kept (row:=none) ⟨hk.os,hk.tape,hk.output,hk.size,fun i hi _=>hk.block i hi (fun f=>f)⟩ (by simp)) k f hf
 clear h0 h1 h2 h3 h4 h5 h6 h7 h8 g1 g2 g3 g4 g5 g6 g7 g8 hk0 up
 go_enter func141,ntmps141
 go_wp2_with fail
 go_ret
 exact ⟨_,rfl,HK.out,HL.out⟩
end
section
attribute [local go_sem] Oper.semAt_some
open Go.RowKit
section
variable {o:Ow} {w w':World} {G:Geo} {g:MG} {s:Sh} {m:MS} {nv:Value}
theorem aN.Y0 {ev:Option Ev} (h:aN o w G g s m ev nv) (c0 c1 c2 c3 c4 c5 c6:Int) (e:m.c=⟨c0,c1,c2,c3,c4,c5,c6⟩):w.cell? ⟨g.M,1,none⟩=some (ah c0)/\w.cell? ⟨g.M,2,none⟩=some (ah c1)/\w.cell? ⟨g.M,3,none⟩=some (ah c2)/\w.cell? ⟨g.M,4,none⟩=some (ah c3)/\w.cell? ⟨g.M,5,none⟩=some (ah c4)/\w.cell? ⟨g.M,6,none⟩=some (ah c5)/\w.cell? ⟨g.M,7,none⟩=some (ah c6):=by
 refine ⟨h.cell 1 _ ?_,h.cell 2 _ ?_,h.cell 3 _ ?_,h.cell 4 _ ?_,h.cell 5 _ ?_,h.cell 6 _ ?_,h.cell 7 _ ?_⟩<;>intro pv rv<;>simp [mP,e,aK.cells]
theorem U9 (h:aN o w G g s m none nv) (op:fE) (he:chk m.c op=0) (f:Nat) (hf:yQ op.k=some f) (hcf:∀ (args:Array Value) (w:World),(callFunc f args).run ay w = .ok (.enter f args) w) (R:qo)
 (Y1:∀ W,Keep none_ w W->Calls ay f #[aj g.M,.agg op.cells.toArray] W (aT o W G g nv m.id R)) :
 Calls ay 93 #[aj g.M,.agg op.cells.toArray] w (aT o w G g nv m.id R):=by
 obtain ⟨W1,hW1⟩:∃ W1,W1=w.alloc (.cells op.cells.toArray 83):=⟨_,rfl⟩
 have k1:Keep none_ w W1:=by rw [hW1];exact (Keep.refl _ _).alloc _
 have hb1:aA W1 w.heap.size op.cells 83:=by rw [hW1];exact aA.new w _ _
 have h1:=h.still k1
 have ho:o w.heap.size=0:=h.sh.fC _ (Nat.le_refl _)
 have kd:Keep none_ W1 W1.drew:=(Keep.refl none_ W1).drew
 have HD:Hid (∀ W,Keep none_ w W->aA W w.heap.size op.cells 83->Calls ay f #[aj g.M,.agg op.cells.toArray] W fun e w'=>∃ jC,e = .returned jC/\(jC = .nilFunc\/∃ (fn:Nat) (caps:Array Value),jC = .func (.func fn) #[] caps)/\aA w' w.heap.size op.cells 83/\aT o w G g nv m.id R (.returned jC) w'):=fun W hk hb=>by
  refine (Y1 W hk).mono ?_
  intro e w6 hp
  obtain ⟨o',jC,rfl,e2,h1,hn,kk⟩:=id hp
  exact ⟨jC,rfl,hn.form,hb.aH kk ho (kT _),hp.after hk.aS⟩
 have HC:Hid (Calls ay 139 #[.agg m.c.cells.toArray,.agg op.cells.toArray] W1.drew fun e w'=>e = .returned (ah 0)/\Keep none_ w w'/\aA w' w.heap.size op.cells 83):=by
  refine (check_any m.c op W1.drew ((h.sh.heap.tabs.keep k1).keep kd)).mono ?_
  rintro e w' ⟨rfl,k2⟩
  rw [he]
  exact ⟨rfl,k1.trans (kd.trans k2),(kd.trans k2).blk hb1 (fun f=>f)⟩
 rcases hcc:m.c with ⟨c0,c1,c2,c3,c4,c5,c6⟩
 rw [hcc] at HC
 obtain ⟨m1,m2,m3,m4,m5,m6,m7⟩:=h1.Y0 c0 c1 c2 c3 c4 c5 c6 hcc
 obtain ⟨ok,oa,ob,oc⟩:=op
 simp only [fE.cells,aK.cells] at *
 have y0:=hb1.cell 0 rfl
 have y1:=hb1.cell 1 rfl
 have y2:=hb1.cell 2 rfl
 have y3:=hb1.cell 3 rfl
 have HW1:=au hW1
 have uy:=au hcf
 generalize m.id=mi at *
 clear h h1 hW1 he Y1 kd k1 hb1 hcf
 go_enter func93,ntmps93
 go_wp2_with fail
 rw [<- HW1.out]
 refine aI 5 rfl (by kernel_rfl) (by kernel_rfl) (fun K hK=>?_)
 change wpStill _ _ (World.drew _) _ _ _
 simp only [List.take_succ_cons,List.take_zero,List.drop_succ_cons,List.drop_zero] at hK ⊢
 repeat still_step
 refine wpStill_nil ?_
 change ite _ (Oper.wp _ _ _ _ _ _) _
 go_simp
 refine HC.out.mono ?_
 rintro e w2 ⟨rfl,k2,hb2⟩
 refine hK _ _ ?_
 clear hK K
 have K2:=au k2
 have B2:=au hb2
 clear k2 hb2 HC y0 y1 y2 y3 m1 m2 m3 m4 m5 m6 m7
 repeat still_step
 refine wpStill_nil ?_
 go_wp2_with fail
 have y0:=B2.out.cell 0 rfl
 have y1:=B2.out.cell 1 rfl
 have y2:=B2.out.cell 2 rfl
 have y3:=B2.out.cell 3 rfl
 go_region_held3 (fun w'=>w'.cell? ⟨w.heap.size,0,none⟩=some (ah ok)/\w'.cell? ⟨w.heap.size,1,none⟩=some (ah oa)/\w'.cell? ⟨w.heap.size,2,none⟩=some (ah ob)/\w'.cell? ⟨w.heap.size,3,none⟩=some (ah oc))
  (first | exact ⟨y0, y1, y2, y3⟩ | exact ⟨HB3.out.cell 0 rfl, HB3.out.cell 1 rfl, HB3.out.cell 2 rfl, HB3.out.cell 3 rfl⟩ | exact ⟨HB4.out.cell 0 rfl, HB4.out.cell 1 rfl, HB4.out.cell 2 rfl, HB4.out.cell 3 rfl⟩ | fail "ji")
  (first
   | (go_at_call 141
      refine (RS _).mono ?_
      rintro e w3 ⟨bm,rfl,hk3,hlook⟩
      have hl:=hlook w3 (Keep.refl _ _) ok f hf
      have hcf:=uy.out
      have HB3:=au (((Keep.refl none_ w2).drew.trans hk3).blk B2.out (fun f=>f))
      have gy:=au (K2.out.trans ((Keep.refl none_ w2).drew.trans hk3))
      clear hlook hk3)
   | (refine (HD.out _ gy.out HB3.out).mono ?_
      rintro e w4 ⟨jC,rfl,hfm,hb4,hp⟩
      have HB4:=au hb4
      have HP:=au hp
      have HFm:=au hfm
      clear hb4 hp hfm)
   | fail "jZ")
 clear y0 y1 y2 y3 hcf hl HD uy HB3 HB4 gy
 rcases HFm.out with rfl|⟨fn,caps,rfl⟩
 all_goals
  go_wp2_with fail
  go_ret
  exact HP.out
end
section
variable {o:Ow} {w w':World} {G:Geo} {g:MG} {s:Sh} {m:MS} {nv:Value}
theorem RU (h:aN o w G g s m none nv) (op:fE) (he:chk m.c op≠0) (hres:m.res.length<=1000000000):Calls ay 93 #[aj g.M,.agg op.cells.toArray] w (aT o w G g nv m.id (mY s m (chk m.c op) 0)):=by
 obtain ⟨W1,hW1⟩:∃ W1,W1=w.alloc (.cells op.cells.toArray 83):=⟨_,rfl⟩
 have k1:Keep none_ w W1:=by rw [hW1];exact (Keep.refl _ _).alloc _
 have hb1:aA W1 w.heap.size op.cells 83:=by rw [hW1];exact aA.new w _ _
 have h1:=h.still k1
 have kd:Keep none_ W1 W1.drew:=(Keep.refl none_ W1).drew
 have HC:Hid (Calls ay 139 #[.agg m.c.cells.toArray,.agg op.cells.toArray] W1.drew fun e w'=>e = .returned (ah (chk m.c op))/\Hid (Calls ay 140 #[aj g.M,ah (chk m.c op),ah 0] w' (fun e w'=>e = .returned .nilFunc/\aT o w G g nv m.id (mY s m (chk m.c op) 0) e w'))):=by
  refine (check_any m.c op W1.drew ((h.sh.heap.tabs.keep k1).keep kd)).mono ?_
  rintro e w' ⟨rfl,k2⟩
  have k3:=k1.trans (kd.trans k2)
  refine ⟨rfl,?_⟩
  refine (IV (h.still k3) (chk m.c op) 0 hres).mono ?_
  rintro e w' ⟨rfl,hp⟩
  exact ⟨rfl,hp.after k3.aS⟩
 have d0:(chk m.c op==0)=false:=by simpa using he
 generalize mY s m (chk m.c op) 0=R at *
 generalize chk m.c op=x at *
 rcases hcc:m.c with ⟨c0,c1,c2,c3,c4,c5,c6⟩
 rw [hcc] at HC
 obtain ⟨m1,m2,m3,m4,m5,m6,m7⟩:=h1.Y0 c0 c1 c2 c3 c4 c5 c6 hcc
 obtain ⟨ok,oa,ob,oc⟩:=op
 simp only [fE.cells,aK.cells] at *
 have y0:=hb1.cell 0 rfl
 have y1:=hb1.cell 1 rfl
 have y2:=hb1.cell 2 rfl
 have y3:=hb1.cell 3 rfl
 have HW1:=au hW1
 generalize m.id=mi at *
 clear h h1 hW1 he kd k1 hb1 hres
 go_enter func93,ntmps93
 go_wp2_with fail
 rw [<- HW1.out]
 refine aI 5 rfl (by kernel_rfl) (by kernel_rfl) (fun K hK=>?_)
 change wpStill _ _ (World.drew _) _ _ _
 simp only [List.take_succ_cons,List.take_zero,List.drop_succ_cons,List.drop_zero] at hK ⊢
 repeat still_step
 refine wpStill_nil ?_
 change ite _ (Oper.wp _ _ _ _ _ _) _
 go_simp
 refine HC.out.mono ?_
 rintro e w2 ⟨rfl,hp⟩
 refine hK _ _ ?_
 clear hK K
 clear HC y0 y1 y2 y3 m1 m2 m3 m4 m5 m6 m7
 repeat still_step
 refine wpStill_nil ?_
 go_wp2_with fail
 refine hp.out.mono ?_
 rintro e w3 ⟨rfl,hp2⟩
 have HP:=au hp2
 clear hp2 hp
 go_wp2_with fail
 go_ret
 exact HP.out
theorem RV (h:aN o w G g s m none nv) (op:fE) (v:Value) (hv:dw o w g.Nt g.M (.start op) v) (hpost:Calls ay 93 #[aj g.M,.agg op.cells.toArray] w (aT o w G g nv m.id (iC s m op))):∃ bs:List Nat,v = .func (.func 92) #[] (bs.map aB).toArray/\Calls ay 92 (bs.map aB).toArray w (aT o w G g nv m.id (stepM s m (.start op))):=by
 obtain ⟨bs,hbs,hcap⟩:=hv
 refine ⟨bs,hbs,?_⟩
 obtain ⟨b0,b1,rfl,⟨o0,k0⟩,⟨o1,k1⟩⟩:=caps2 hcap
 have HC:Hid (Calls ay 93 #[aj g.M,.agg op.cells.toArray] w fun e w'=>∃ jC,e = .returned jC/\(jC = .nilFunc\/∃ (fn:Nat) (caps:Array Value),jC = .func (.func fn) #[] caps)/\aT o w G g nv m.id (stepM s m (.start op)) (.returned jC) w'):=by
  refine hpost.mono ?_
  intro e w' hp
  obtain ⟨o',jC,rfl,e2,h1,hn,kk⟩:=id hp
  exact ⟨jC,rfl,hn.form,hp⟩
 obtain ⟨ok,oa,ob,oc⟩:=op
 have c0:w.cell? ⟨b0,0,none⟩=some (aj g.M):=k0.cell 0 rfl
 have p0:=k1.cell 0 rfl;have p1:=k1.cell 1 rfl;have p2:=k1.cell 2 rfl;have p3:=k1.cell 3 rfl
 show Calls ay 92 #[aj b0,aj b1] w _
 simp only [fE.cells] at HC
 generalize stepM s m (.start ⟨ok,oa,ob,oc⟩)=R at *
 generalize m.id=mi at *
 clear h hcap hbs k0 k1 o0 o1
 go_enter func92,ntmps92
 go_wp2_with fail
 refine HC.out.mono ?_
 rintro e w2 ⟨jC,rfl,hf,hp⟩
 have HP:=au hp
 clear hp c0 p0 p1 p2 p3
 rcases hf with rfl|⟨fn,caps,rfl⟩
 all_goals
  go_wp2_with fail
  go_ret
  exact HP.out
end
section
variable {o:Ow} {w w':World} {G:Geo} {g:MG} {s:Sh} {m:MS} {nv:Value}
def DoesM (o:Ow) (w:World) (G:Geo) (g:MG) (s:Sh) (i:Nat) (m':MS) (nv v:Value):Prop :=
 ∃ fn caps,v = .func (.func fn) #[] caps/\(∀ args w,(callFunc fn args).run ay w = .ok (.enter fn args) w)/\Calls ay fn caps w fun e w'=>e = .returned (.tuple #[])/\aN o w' G g s m' none nv/\Keep (In o (bW i)) w w'
theorem XM (h:aN o w G g s m none nv) (v:Value) (hv:bK o w 132 [] v):DoesM o w G g s m.id m nv v:=by
 obtain ⟨bs,rfl,hcap⟩:=hv
 have:bs=[]:=hcap
 subst this
 refine ⟨_,_,rfl,fun args w=>(by simp [callFunc,func132,go_sem];rfl),?_⟩
 show Calls ay 132 #[] w _
 have H:=au h
 clear h hcap
 go_enter func132,ntmps132
 go_wp2_with fail
 go_end0
 exact ⟨rfl,H.out,Keep.refl _ _⟩
theorem XO (h:aN o w G g s m none nv) (v:Value) (hv:bK o w 137 [([aB g.M],56)] v):DoesM o w G g s m.id (gB m 5) nv v:=by
 obtain ⟨bs,rfl,b0,r0,rfl,o0,k0,rfl⟩:=hv
 refine ⟨_,_,rfl,fun args w=>(by simp [callFunc,func137,go_sem];rfl),?_⟩
 show Calls ay 137 #[aj b0] w _
 have c0:w.cell? ⟨b0,0,none⟩=some (aj g.M):=k0.cell 0 rfl
 have c12:=h.c12
 have f12:=h.free 12
 obtain ⟨h1,kk⟩:=h.put 12 (ah 1) { m with mode:=1 } none nv (fun _ _=>rfl) ⟨rfl,rfl,rfl,rfl,rfl,rfl⟩
 have HE:Hid (aN o (w.setCell ⟨g.M,12,none⟩ (ah 1)) G g s (gB m 5) none nv/\Keep (In o (bW m.id)) w (w.setCell ⟨g.M,12,none⟩ (ah 1))):=⟨h1,kk.jP (by simp [bW])⟩
 generalize gB m 5=m' at *
 generalize m.id=mi at *
 clear h h1 kk k0
 go_enter func137,ntmps137
 go_wp2_with fail
 go_end0
 exact ⟨rfl,HE.out.1,HE.out.2⟩
theorem XP (h:aN o w G g s m none nv) (v:Value) (k:Int) (hk:k≠1/\k≠2/\k≠3/\k≠5) (hv:bK o w 138 [([aB g.M],56)] v):DoesM o w G g s m.id (gB m k) nv v:=by
 obtain ⟨bs,rfl,b0,r0,rfl,o0,k0,rfl⟩:=hv
 refine ⟨_,_,rfl,fun args w=>(by simp [callFunc,func138,go_sem];rfl),?_⟩
 show Calls ay 138 #[aj b0] w _
 have c0:w.cell? ⟨b0,0,none⟩=some (aj g.M):=k0.cell 0 rfl
 have m10:w.cell? ⟨g.M,10,none⟩=some (aj g.Bf):=h.cell 10 _ (fun _ _=>rfl)
 have e1:gB m k={ m with buf:=[],mode:=0 }:=by unfold gB;rw [if_neg hk.1,if_neg hk.2.1,if_neg hk.2.2.1,if_neg hk.2.2.2]
 rw [e1]
 have HC:Hid (Calls ay 131 #[aj g.Bf] w fun e w'=>e = .returned (.tuple #[])/\w'.cell? ⟨b0,0,none⟩=some (aj g.M)/\w'.frozen? ⟨g.M,12,none⟩=false/\w'.cell? ⟨g.M,12,none⟩=some (ah (m.mode:Int))/\Hid (aN o (w'.setCell ⟨g.M,12,none⟩ (ah 0)) G g s { m with buf:=[],mode:=0 } none nv/\Keep (In o (bW m.id)) w (w'.setCell ⟨g.M,12,none⟩ (ah 0)))):=by
  refine (yB h.buf).mono ?_
  rintro e w' ⟨rfl,hb,kk⟩
  have hcl:=h.cl
  obtain ⟨h1,k1⟩:=h.FD kk hb (by simp;omega)
  obtain ⟨h2,k2⟩:=h1.put 12 (ah 0) { m with buf:=[],mode:=0 } none nv (fun _ _=>rfl) ⟨rfl,rfl,rfl,rfl,rfl,rfl⟩
  exact ⟨rfl,(k0.aH k1 o0 (by simp<;>omega)).cell 0 rfl,h1.free 12,h1.c12,h2,(k1.trans k2).jP (by simp [bW])⟩
 generalize ({ m with buf:=[],mode:=0 }:MS)=m' at *
 generalize m.mode=mo at *
 generalize m.id=mi at *
 clear h k0 e1 hk
 go_enter func138,ntmps138
 go_wp2_with fail
 refine HC.out.mono ?_
 rintro e w1 ⟨rfl,d0,d1,d2,hx⟩
 clear c0 m10 HC
 go_wp2_with fail
 go_end0
 exact ⟨rfl,hx.out.1,hx.out.2⟩
theorem XQ (h:aN o w G g s m none nv) (v:Value) (hv:bK o w 133 [([aB g.M],56)] v):DoesM o w G g s m.id (gB m 3) nv v:=by
 obtain ⟨bs,rfl,b0,r0,rfl,o0,k0,rfl⟩:=hv
 refine ⟨_,_,rfl,fun args w=>(by simp [callFunc,func133,go_sem];rfl),?_⟩
 show Calls ay 133 #[aj b0] w _
 have c0:w.cell? ⟨b0,0,none⟩=some (aj g.M):=k0.cell 0 rfl
 have c14:=h.c14
 have c13:w.cell? ⟨g.M,13,none⟩=some (ah (m.color:Int)):=h.cell 13 _ (fun _ _=>rfl)
 have f13:=h.free 13
 have hkd:Keep none_ w w.drew:=(Keep.refl none_ w).drew
 obtain ⟨h1,kk⟩:=(h.still hkd).put 13 (ah (m.want:Int)) { m with color:=m.want } none nv (fun _ _=>rfl) ⟨rfl,rfl,rfl,rfl,rfl,rfl⟩
 have HE:Hid (aN o (w.drew.setCell ⟨g.M,13,none⟩ (ah (m.want:Int))) G g s (gB m 3) none nv/\Keep (In o (bW m.id)) w (w.drew.setCell ⟨g.M,13,none⟩ (ah (m.want:Int)))):=⟨h1,hkd.aS.trans (kk.jP (by simp [bW]))⟩
 generalize gB m 3=m' at *
 generalize m.want=mw at *
 generalize m.color=mc at *
 generalize m.id=mi at *
 clear h h1 kk k0 hkd
 go_enter func133,ntmps133
 go_wp2_with fail
 go_region
 go_wp2_with fail
 go_end0
 exact ⟨rfl,HE.out.1,HE.out.2⟩
theorem XR (h:aN o w G g s m none nv) (v:Value) (jB:m.color<2) (hv:bK o w 130 [([aB g.M],56)] v):DoesM o w G g s m.id (gB m 1) nv v:=by
 obtain ⟨bs,rfl,b0,r0,rfl,o0,k0,rfl⟩:=hv
 refine ⟨_,_,rfl,fun args w=>(by simp [callFunc,func130,go_sem];rfl),?_⟩
 show Calls ay 130 #[aj b0] w _
 have c0:w.cell? ⟨b0,0,none⟩=some (aj g.M):=k0.cell 0 rfl
 have m10:w.cell? ⟨g.M,10,none⟩=some (aj g.Bf):=h.cell 10 _ (fun _ _=>rfl)
 have e1:gB m 1={ m with buf:=[],mode:=2,want:=1 - m.color }:=rfl
 have hsub:((1 - m.color:Nat):Int)=1 - (m.color:Int):=by omega
 have HC:Hid (Calls ay 131 #[aj g.Bf] w fun e w'=>e = .returned (.tuple #[])/\w'.cell? ⟨b0,0,none⟩=some (aj g.M)/\w'.frozen? ⟨g.M,12,none⟩=false/\w'.frozen? ⟨g.M,14,none⟩=false/\w'.cell? ⟨g.M,12,none⟩=some (ah (m.mode:Int))/\w'.cell? ⟨g.M,13,none⟩=some (ah (m.color:Int))/\w'.cell? ⟨g.M,14,none⟩=some (ah (m.want:Int))/\Hid (aN o ((w'.setCell ⟨g.M,12,none⟩ (ah 2)).setCell ⟨g.M,14,none⟩ (ah (1 - (m.color:Int)))).drew G g s (gB m 1) none nv/\Keep (In o (bW m.id)) w ((w'.setCell ⟨g.M,12,none⟩ (ah 2)).setCell ⟨g.M,14,none⟩ (ah (1 - (m.color:Int)))).drew)):=by
  refine (yB h.buf).mono ?_
  rintro e w' ⟨rfl,hb,kk⟩
  have hcl:=h.cl
  obtain ⟨h1,k1⟩:=h.FD kk hb (by simp;omega)
  obtain ⟨h2,k2⟩:=h1.put 12 (ah 2) { m with buf:=[],mode:=2 } none nv (fun _ _=>rfl) ⟨rfl,rfl,rfl,rfl,rfl,rfl⟩
  obtain ⟨h3,k3⟩:=h2.put 14 (ah ((1 - m.color:Nat):Int)) { m with buf:=[],mode:=2,want:=1 - m.color } none nv (fun _ _=>rfl) ⟨rfl,rfl,rfl,rfl,rfl,rfl⟩
  rw [hsub] at h3 k3
  have hkd:Keep none_ ((w'.setCell ⟨g.M,12,none⟩ (ah 2)).setCell ⟨g.M,14,none⟩ (ah (1 - (m.color:Int)))) ((w'.setCell ⟨g.M,12,none⟩ (ah 2)).setCell ⟨g.M,14,none⟩ (ah (1 - (m.color:Int)))).drew:=(Keep.refl none_ _).drew
  exact ⟨rfl,(k0.aH k1 o0 (by simp<;>omega)).cell 0 rfl,h1.free 12,h1.free 14,h1.c12,h1.cell 13 _ (fun _ _=>rfl),h1.c14,h3.still hkd,((k1.jP (by simp [bW])).trans ((k2.trans k3).jP (by simp [bW]))).trans hkd.aS⟩
 have hw1:IntKind.i64.wrap (1 - (m.color:Int))=1 - (m.color:Int):=IntWalk.i64_in _ (by omega)
 clear e1 hsub jB
 generalize gB m 1=m' at *
 generalize m.mode=mo at *
 generalize m.want=mw at *
 generalize hmc:(m.color:Int)=mc at *
 generalize m.id=mi at *
 clear h k0 hmc
 go_enter func130,ntmps130
 go_wp2_with fail
 refine HC.out.mono ?_
 rintro e w1 ⟨rfl,d0,d1,d2,d3,d4,d5,hx⟩
 clear c0 m10 HC
 go_wp2_with fail
 go_region
 go_end0
 exact ⟨rfl,hx.out.1,hx.out.2⟩
end
section
variable {o:Ow} {w w':World} {G:Geo} {g:MG} {s:Sh} {m:MS} {nv:Value}
theorem aN.tq {ev:Option Ev} {B:Bd} (h:aN o w G g s m ev nv) (k:Keep (only G.B) w w') (hB:gW w' G.B B):aN o w' G g { s with B:=B } m ev nv/\Keep (In o (bW m.id)) w w':=by
 obtain ⟨h1,k1⟩:=h.sh.tq k hB
 exact ⟨h.share k1 rfl (by simp<;>omega) h1 rfl rfl,k1.jP (by simp [bW])⟩
theorem Va (m':MS) (hid:m'.id=m.id) (dv lv:Value) (hl:DoesM o w G g s m.id m' nv lv) (hv:bK o w 128 [([lv],1),([aB g.M],56)] dv):∃ fn caps,dv = .func (.func fn) #[] caps/\(∀ args w,(callFunc fn args).run ay w = .ok (.enter fn args) w)/\Calls ay fn caps w fun e w'=>e = .returned (.tuple #[])/\aN o w' G g { s with B:=s.B.iT m.id } m' none nv/\Keep (In o (bW m.id)) w w':=by
 obtain ⟨bs,rfl,hcap⟩:=hv
 obtain ⟨b0,b1,rfl,⟨o0,k0⟩,⟨o1,k1⟩⟩:=caps2 hcap
 refine ⟨_,_,rfl,fun args w=>(by simp [callFunc,func128,go_sem];rfl),?_⟩
 obtain ⟨fl,cl,rfl,hfl,hrun⟩:=hl
 show Calls ay 128 #[aj b0,aj b1] w _
 have c0:=k0.cell 0 rfl
 have HL:Hid (Calls ay fl cl w fun e w'=>e = .returned (.tuple #[])/\w'.cell? ⟨b1,0,none⟩=some (aj g.M)/\w'.cell? ⟨g.M,0,none⟩=some (aj G.S)/\w'.cell? ⟨G.S,1,none⟩=some (aj G.B)/\w'.cell? ⟨g.M,8,none⟩=some (ah (m.id:Int)) /\
  Hid (Calls ay 129 #[aj G.B,ah (m.id:Int)] w'.drew fun e w2=>(∃ er:Int,e = .returned (ah er))/\aN o w2 G g { s with B:=s.B.iT m.id } m' none nv/\Keep (In o (bW m.id)) w w2)):=by
  refine hrun.mono ?_
  rintro e w' ⟨rfl,h1,kk⟩
  refine ⟨rfl,(k1.aH kk o1 (kT _)).cell 0 rfl,h1.m0,h1.s0.2.1,by rw [<- hid];exact h1.c8,?_⟩
  have hkd:Keep none_ w' w'.drew:=(Keep.refl none_ w').drew
  have hd:=h1.still hkd
  refine (JU G.B s.B (m.id:Int) w'.drew hd.sh.board).mono ?_
  rintro e w2 ⟨rfl,hb,k2⟩
  obtain ⟨h3,k3⟩:=hd.tq k2 hb
  rw [hid] at k3
  exact ⟨⟨_,rfl⟩,h3,kk.trans (hkd.aS.trans k3)⟩
 generalize ({ s with B:=s.B.iT m.id }:Sh)=s' at *
 generalize m.id=mi at *
 clear hrun hcap k0 k1 hid
 go_enter func128,ntmps128
 go_wp2_with fail
 refine HL.out.mono ?_
 rintro e w1 ⟨rfl,d0,d1,d2,d3,hx⟩
 clear c0 HL
 go_wp2_with fail
 refine aI 11 rfl (by kernel_rfl) (by kernel_rfl) (fun K hK=>?_)
 change wpStill _ _ (World.drew _) _ _ _
 simp only [List.take_succ_cons,List.take_zero,List.drop_succ_cons,List.drop_zero] at hK ⊢
 repeat still_step
 refine wpStill_nil ?_
 change ite _ (Oper.wp _ _ _ _ _ _) _
 go_simp
 refine hx.out.mono ?_
 rintro e w2 ⟨⟨er,rfl⟩,g1,g2⟩
 refine hK _ _ ?_
 clear hK K
 have H1:=au (And.intro g1 g2)
 clear g1 g2 d0 d1 d2 d3 hx
 repeat still_step
 refine wpStill_nil ?_
 go_end0
 exact ⟨rfl,H1.out.1,H1.out.2⟩
theorem XT (m:MS) (k:Int):(gB m k).id=m.id:=by
 unfold gB
 split
 ·rfl
 split
 ·rfl
 split
 ·rfl
 split<;>rfl
theorem RX (h:aN o w G g s m none nv) (k:Int) (v:Value) (hv:dw o w g.Nt g.M (.once k) v) (jB:m.color<2):∃ bs:List Nat,v = .func (.func 169) #[] (bs.map aB).toArray/\Calls ay 169 (bs.map aB).toArray w (aT o w G g nv m.id (stepM s m (.once k))):=by
 obtain ⟨dv,⟨bs,hbs,hcap⟩,hk⟩:=hv
 refine ⟨bs,hbs,?_⟩
 obtain ⟨b0,r0,rfl,o0,k0,rfl⟩:=hcap
 have hd:∃ lv,bK o w 128 [([lv],1),([aB g.M],56)] dv/\DoesM o w G g s m.id (gB m k) nv lv:=by
  by_cases h1:k=1
  ·subst h1
   rw [if_pos rfl] at hk
   obtain ⟨lv,h1,h2⟩:=hk
   exact ⟨lv,h1,XR h lv jB h2⟩
  rw [if_neg h1] at hk
  by_cases h2:k=2
  ·subst h2
   rw [if_pos rfl] at hk
   obtain ⟨lv,h1,h2⟩:=hk
   exact ⟨lv,h1,XM h lv h2⟩
  rw [if_neg h2] at hk
  by_cases h3:k=3
  ·subst h3
   rw [if_pos rfl] at hk
   obtain ⟨lv,h1,h2⟩:=hk
   exact ⟨lv,h1,XQ h lv h2⟩
  rw [if_neg h3] at hk
  by_cases h5:k=5
  ·subst h5
   rw [if_pos rfl] at hk
   obtain ⟨lv,h1,h2⟩:=hk
   exact ⟨lv,h1,XO h lv h2⟩
  rw [if_neg h5] at hk
  obtain ⟨lv,h6,h7⟩:=hk
  exact ⟨lv,h6,XP h lv k ⟨h1,h2,h3,h5⟩ h7⟩
 obtain ⟨lv,hc,hl⟩:=hd
 obtain ⟨fn,caps,rfl,hfn,hrun⟩:=Va (gB m k) (XT m k) dv lv hl hc
 have c0:=k0.cell 0 rfl
 show Calls ay 169 #[aj b0] w _
 have HR:Hid (Calls ay fn caps w fun e w'=>e = .returned (.tuple #[])/\aT o w G g nv m.id (stepM s m (.once k)) (.returned .nilFunc) w'):=by
  refine hrun.mono ?_
  rintro e w' ⟨rfl,h1,k1⟩
  exact ⟨rfl,aT.same (r:=⟨{ s with B:=s.B.iT m.id },gB m k,.nil,none⟩) h1 rfl k1⟩
 have hneq:∀ w,(binOp .neq 1 (.func (.func fn) #[] caps) .nilFunc).run ay w = .ok (.bool true) w:=fun w=>by first|rfl|(simp [binOp,go_sem];done)|(simp [binOp,go_sem];rfl)
 generalize stepM s m (.once k)=R at *
 generalize m.id=mi at *
 clear h hk hc hl hrun k0 o0 hbs
 go_enter func169,ntmps169
 go_wp2_with fail
 refine HR.out.mono ?_
 rintro e w1 ⟨rfl,hp⟩
 have HP:=au hp
 clear hp c0 HR
 go_wp2_with fail
 go_ret
 exact HP.out
end
end
end Go.Proofs.YtanfphjoebobaaaGreatDoor
