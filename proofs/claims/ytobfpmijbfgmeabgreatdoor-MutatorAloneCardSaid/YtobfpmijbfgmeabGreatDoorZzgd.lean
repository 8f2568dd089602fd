/- Parts of the walk. No conditions. -/
import Derived.Test.YtobfpmijbfgmeabGreatDoorZzgc
namespace Go.Proofs.YtobfpmijbfgmeabGreatDoor
open _root_.Go.World renaming block_lt_of_cell?->abk,size_alloc->abw
open _root_.Int renaming toNat_natCast->abB
open _root_.List renaming eq_of_mem_replicate->aco,getD_eq_getElem?_getD->ace,getElem?_eq_getElem->abr,getElem?_map->acd,getElem?_set->acn,length_set->acg,map_set->acj,replicate->abn
open _root_.Go.Proofs.Tryz hiding prog
open _root_.Go.Proofs.Tryz renaming prog->ay
set_option maxRecDepth 4000
set_option maxHeartbeats 1000000
section
open Go.RowKit
theorem Tryz.infoU:(ay.info? 118).map (fun i=>(i.zero,i.size,i.bytes))=some (some (.int .u64 0),1,8):=by kernel_rfl
def jy (W:List Nat):List Value:=W.map (fun x:Nat => .int .u64 (x:Int))
structure fG (w:World) (B X size:Nat) (W:List Nat):Prop where
 aC:∃ aJ,aB w B [.slice (some ⟨X,0,none⟩) W.length aJ,ah size] 156
 kL:∃ cur,aB w X cur 118/\∀ (i:Nat) (v:Value),(jy W)[i]?=some v->cur[i]?=some v
 len:W.length=(size+63)/64
 lt:∀ x∈W,x<18446744073709551616
 sz:size<=2097152
section
variable {w w':World} {B X size:Nat} {W:List Nat}
theorem fG.ne (h:fG w B X size W):B≠X:=fun e=>by
 obtain ⟨aJ,h1⟩:=h.aC
 obtain ⟨cur,h2,_⟩:=h.kL
 rw [e] at h1
 exact absurd (h1.gK h2).2 (by decide)
theorem fG.aH {S:Nat->Prop} (h:fG w B X size W) (k:aj S w w') (hB:¬ S B) (hX:¬ S X):fG w' B X size W:=by
 obtain ⟨aJ,h1⟩:=h.aC
 obtain ⟨cur,h2,h3⟩:=h.kL
 exact ⟨⟨aJ,k.aC h1 hB⟩,⟨cur,k.aC h2 hX,h3⟩,h.len,h.lt,h.sz⟩
theorem fG.still (h:fG w B X size W) (k:aj aA w w'):fG w' B X size W:=h.aH k (fun f=>f) (fun f=>f)
theorem fG.dV (h:fG w B X size W) {n:Nat} (hn:n<size):n/64<W.length/\w.cell? ⟨X,n/64,none⟩=some (.int .u64 (W.getD (n/64) 0:Nat))/\W.getD (n/64) 0<18446744073709551616:=by
 have hl:n/64<W.length:=by rw [h.len];omega
 obtain ⟨cur,h2,h3⟩:=h.kL
 refine ⟨hl,h2.cell (n/64) (h3 _ _ ?_),?_⟩
 ·unfold jy
  rw [acd,abr hl,ace,abr hl];rfl
 ·rw [ace,abr hl]
  exact h.lt _ (List.getElem_mem hl)
theorem Pq (h:fG w B X size W):Calls ay 110 #[ak B] w fun e w'=>e = .returned (ah (size:Int))/\w=w':=by
 obtain ⟨aJ,hb⟩:=h.aC
 have y1:=hb.cell 1 rfl
 clear h hb
 go_enter func110,ntmps110
 go_wp2_with fail
 go_ret
 exact ⟨rfl,rfl⟩
theorem AX (h:fG w B X size W) (n:Int):Calls ay 76 #[ak B,ah n] w fun e w'=>e = .returned (.bool (decide (0<=n/\n<(size:Int))))/\w=w':=by
 have HS:=au (Pq h)
 clear h
 by_cases h0:0<=n
 ·have d0:decide (0<=n)=true:=cZ h0
  have HE:Hid (decide (0<=n/\n<(size:Int))=decide (n<(size:Int))):=by simp [Hid,h0]
  rw [HE.out]
  clear HE h0
  go_enter func76,ntmps76
  go_wp2_with (go_at_call 110;refine HS.out.mono ?_;rintro e w1 ⟨rfl,rfl⟩)
  go_ret
  exact ⟨rfl,rfl⟩
 ·have d0:decide (0<=n)=false:=dD h0
  have HE:Hid (decide (0<=n/\n<(size:Int))=false):=by simp [Hid,h0]
  rw [HE.out]
  clear HE h0
  go_enter func76,ntmps76
  go_wp2_with (go_at_call 110;refine HS.out.mono ?_;rintro e w1 ⟨rfl,rfl⟩)
  go_ret
  exact ⟨rfl,rfl⟩
def jT (size:Nat) (W:List Nat) (n:Int):Bool:=decide (0<=n/\n<(size:Int))&&iU W n.toNat
theorem AY (h:fG w B X size W) (n:Int):Calls ay 49 #[ak B,ah n] w fun e w'=>e = .returned (.bool (jT size W n))/\w=w':=by
 have HM:=au (AX h n)
 by_cases hn:0<=n/\n<(size:Int)
 ·obtain ⟨k,rfl⟩:∃ k:Nat,n=k:=⟨n.toNat,by omega⟩
  obtain ⟨hl,hc,hx⟩:=h.dV (n:=k) (by omega)
  obtain ⟨aJ,hblk⟩:=h.aC
  have y0:=hblk.cell 0 rfl
  have hsz:=h.sz
  rw [cZ hn] at HM
  have HE:Hid (jT size W (k:Int)=(W.getD (k/64) 0).testBit (k%64)):=by
   rw [Hid,jT,cZ hn,Bool.true_and,abB];rfl
  rw [HE.out]
  obtain ⟨x,hxe⟩:∃ x,x=W.getD (k/64) 0:=⟨_,rfl⟩
  rw [<- hxe] at hc hx ⊢
  have HB:=au (VD x (k%64) hx)
  generalize W.length=L at *
  have hk:k<2097152:=by omega
  clear h HE hxe hn hsz hblk
  go_enter func49,ntmps49
  go_wp2_with (go_at_call 76;refine HM.out.mono ?_;rintro e w1 ⟨rfl,rfl⟩)
  go_ret
  refine ⟨?_,rfl⟩
  have e:((x:Int)/2^(k%64))=((x/2^(k%64):Nat):Int):=by simp
  show Ending.returned (.bool (bits .and .u64 ((x:Int)/2^(k%64)) 1==1))=_
  rw [e,HB.out]
  cases x.testBit (k%64)<;>rfl
 ·rw [dD hn] at HM
  have HE:Hid (jT size W n=false):=by rw [Hid,jT,dD hn];rfl
  rw [HE.out]
  clear h hn HE
  go_enter func49,ntmps49
  go_wp2_with (go_at_call 76;refine HM.out.mono ?_;rintro e w1 ⟨rfl,rfl⟩)
  go_ret
  exact ⟨rfl,rfl⟩
def fA (size:Nat) (W:List Nat) (n:Int) (eY:Bool):Bool:=decide (0<=n/\n<(size:Int))&&(jT size W n != eY)
def lG (size:Nat) (W:List Nat) (n:Int) (eY:Bool):List Nat:=if fA size W n eY=true then pW W n.toNat else W
theorem uD (h:fG w B X size W) (n:Int) (eY:Bool):Calls ay 184 #[ak B,ah n,.bool eY] w fun e w'=>e = .returned (.bool (fA size W n eY))/\fG w' B X size (lG size W n eY)/\aj (only X) w w':=by
 have HM:=au (AX h n)
 have HH:=au (AY h n)
 have HS:=au h
 by_cases hn:0<=n/\n<(size:Int)
 ·rw [cZ hn] at HM
  cases hp:jT size W n==eY with
  | true =>
    have HE:Hid (fA size W n eY=false):=by rw [Hid,fA,bne,hp];simp
    have HL:Hid (lG size W n eY=W):=by rw [Hid,lG,aO (by rw [HE.out];decide)]
    rw [HE.out,HL.out]
    generalize jT size W n=hb at *
    clear h hn HE HL
    go_enter func184,ntmps184
    go_wp2_with (first|(go_at_call 76;refine HM.out.mono ?_;rintro e w1 ⟨rfl,rfl⟩)|(go_at_call 49;refine HH.out.mono ?_;rintro e w1 ⟨rfl,rfl⟩))
    go_ret
    exact ⟨rfl,HS.out,aj.refl _ _⟩
  | false =>
    have HE:Hid (fA size W n eY=true):=by rw [Hid,fA,bne,hp,cZ hn];rfl
    have HL:Hid (lG size W n eY=pW W n.toNat):=by rw [Hid,lG,aV HE.out]
    rw [HE.out,HL.out]
    obtain ⟨k,rfl⟩:∃ k:Nat,n=k:=⟨n.toNat,by omega⟩
    obtain ⟨hl,hc,hx⟩:=h.dV (n:=k) (by omega)
    obtain ⟨aJ,hblk⟩:=h.aC
    obtain ⟨cur,hcur,hpre⟩:=h.kL
    have y0:=hblk.cell 0 rfl
    have fx:=hcur.free (k/64)
    have aah:=au hcur
    have WJ:=au hpre
    have aai:=au hblk
    have hsz:=h.sz
    have hk:k<2097152:=by omega
    obtain ⟨x,hxe⟩:∃ x,x=W.getD (k/64) 0:=⟨_,rfl⟩
    rw [<- hxe] at hc hx
    have RV:2^(k%64)<18446744073709551616:=by
     have:2^(k%64)<2^64:=Nat.pow_lt_pow_right (by decide) (Nat.mod_lt _ (by decide))
     exact this
    have HX:=au (bits_xor_u64_nat x (2^(k%64)) hx RV)
    have Uz:=au hxe
    have HPW:=au RV
    generalize jT size W (k:Int)=hb at *
    have pR:Hid (k/64<W.length):=hl
    obtain ⟨L,Zh⟩:∃ L,L=W.length:=⟨_,rfl⟩
    rw [<- Zh] at y0 hl
    clear h hxe hn hsz HE HL hx RV hblk hcur hpre
    clear Zh
    go_enter func184,ntmps184
    go_wp2_with (first|(go_at_call 76;refine HM.out.mono ?_;rintro e w1 ⟨rfl,rfl⟩)|(go_at_call 49;refine HH.out.mono ?_;rintro e w1 ⟨rfl,rfl⟩))
    go_region
    have e1:IntKind.u64.wrap (2^(k%64))=((2^(k%64):Nat):Int):=by
     have h1:(2:Int)^(k%64)=((2^(k%64):Nat):Int):=by simp
     rw [h1,IntKind.wrap_u64]
     have:=HPW.out
     generalize 2^(k%64)=z at *
     omega
    rw [e1,HX.out]
    clear e1
    have hne:=HS.out.ne
    obtain ⟨W1,hW1⟩:∃ W',W'=(w.setCell ⟨X,k/64,none⟩ (.int .u64 ((x ^^^ 2^(k%64):Nat):Int))).drew:=⟨_,rfl⟩
    rw [<- hW1]
    have hk1:aj (only X) w W1:=by rw [hW1];exact ((aj.refl (only X) w).put _ _).drew
    have hset:fG W1 B X size (pW W k):=by
     refine ⟨⟨aJ,?_⟩,⟨cur.set (k/64) (.int .u64 ((x ^^^ 2^(k%64):Nat):Int)),?_,?_⟩,by rw [Gt];exact HS.out.len,VB HS.out.lt,HS.out.sz⟩
     ·rw [Gt];exact hk1.aC aai.out hne
     ·rw [hW1];exact (aah.out.set _ _).drew
     ·intro i v hi
      unfold jy pW at hi
      rw [<- Uz.out,acj,acn] at hi
      rw [acn]
      by_cases e:k/64=i
      ·subst e
       have h3:(jy W)[k/64]?=some (.int .u64 (W.getD (k/64) 0:Nat)):=by
        unfold jy
        rw [acd,abr pR.out,ace,abr pR.out];rfl
       have h4:=(List.getElem?_eq_some_iff.1 (WJ.out _ _ h3)).1
       rw [aV rfl,aV (by simpa using pR.out)] at hi
       rw [aV rfl,aV h4]
       exact hi
      ·rw [aO e] at hi ⊢
       exact WJ.out i v hi
    have MR:=au hset
    have aZ:=au hk1
    clear hset hk1 hW1 hne
    go_wp2_with fail
    go_ret
    exact ⟨rfl,by rw [abB];exact MR.out,aZ.out⟩
 ·rw [dD hn] at HM
  have HE:Hid (fA size W n eY=false):=by rw [Hid,fA,dD hn];rfl
  have HL:Hid (lG size W n eY=W):=by rw [Hid,lG,aO (by rw [HE.out];decide)]
  rw [HE.out,HL.out]
  clear h hn HE HL HH
  go_enter func184,ntmps184
  go_wp2_with (go_at_call 76;refine HM.out.mono ?_;rintro e w1 ⟨rfl,rfl⟩)
  go_ret
  exact ⟨rfl,HS.out,aj.refl _ _⟩
theorem Gu (n:Nat) (hn:n<=2097152) (w:World):Calls ay 63 #[ah (n:Int)] w fun e w'=>∃ B X,e = .returned (.tuple #[ak B,ah 0])/\fG w' B X n (abn ((n+63)/64) 0)/\w.heap.size<=B/\w.heap.size<=X/\aj aA w w':=by
 obtain ⟨L,hL⟩:∃ L,L=(n+63)/64:=⟨_,rfl⟩
 rw [<- hL]
 have hLl:L<=32768:=by omega
 go_enter func63,ntmps63
 have hmk:∀ w:World,(Instr.makeSlice 154 (ah (((n:Int)+64 - 1)/64)) (ah (((n:Int)+64 - 1)/64))).run ay w = .ok (.slice (some ⟨w.heap.size,0,none⟩) L L) (w.alloc (.cells (eU (.int .u64 0) L).toArray 118)) :=
  fun w=>wM (P:=ay) (by kernel_rfl) Tryz.infoU rfl (by decide) L (by omega) _ (by omega) w
 have HL:=au hL
 clear hL
 go_wp2_with fail
 obtain ⟨W1,hW1⟩:∃ W',W'=(w.alloc (.cells (eU (.int .u64 0) L).toArray 118)).alloc (.cells #[.slice (some ⟨w.heap.size,0,none⟩) L L,ah (n:Int)] 156):=⟨_,rfl⟩
 rw [<- hW1]
 go_ret2
 have hz:eU (.int .u64 0) L=jy (abn L 0):=by simp [eU,jy]
 refine ⟨w.heap.size+1,w.heap.size,rfl,⟨⟨L,?_⟩,⟨jy (abn L 0),?_,fun _ _ h=>h⟩,by rw [List.length_replicate];exact HL.out,fun x hx=>by rw [aco hx];decide,hn⟩,by omega,Nat.le_refl _,?_⟩
 ·rw [hW1]
  have h:=aB.aW (w.alloc (.cells (eU (.int .u64 0) L).toArray 118)) [.slice (some ⟨w.heap.size,0,none⟩) L L,ah (n:Int)] 156
  rw [abw] at h
  simpa using h
 ·rw [hW1,hz]
  exact (aB.aW w _ _).alloc _
 ·rw [hW1]
  exact ((aj.refl _ _).alloc _).alloc _
end
structure bV (w:World) (R X:Nat) (A:List Nat):Prop where
 aC:∃ ld st:Int,aB w R [.slice (some ⟨X,0,none⟩) A.length A.length,ah ld,ah st] 160
 kL:aB w X (jy A) 118
 lt:∀ x∈A,x<18446744073709551616
 len:A.length<=1048576
section
variable {w w':World} {R X:Nat} {A:List Nat}
theorem bV.aH {S:Nat->Prop} (h:bV w R X A) (k:aj S w w') (hR:¬ S R) (hX:¬ S X):bV w' R X A:=by
 obtain ⟨ld,st,h1⟩:=h.aC
 exact ⟨⟨ld,st,k.aC h1 hR⟩,k.aC h.kL hX,h.lt,h.len⟩
theorem bV.still (h:bV w R X A) (k:aj aA w w'):bV w' R X A:=h.aH k (fun f=>f) (fun f=>f)
theorem bV.ne (h:bV w R X A):R≠X:=fun e=>by
 obtain ⟨ld,st,h1⟩:=h.aC
 rw [e] at h1
 exact absurd (h1.gK h.kL).2 (by decide)
theorem Et {A:List Nat} {p:Nat} (hp:p<A.length):(jy A)[p]?=some (.int .u64 (A.getD p 0:Nat)):=by
 unfold jy
 rw [acd,abr hp,ace,abr hp];rfl
theorem MV (A:List Nat) (p x:Nat):jy (A.set p x)=(jy A).set p (.int .u64 (x:Int)):=by
 unfold jy
 rw [acj]
theorem Gv (h:bV w R X A):Calls ay 89 #[ak R] w fun e w'=>e = .returned (ah (A.length:Int))/\w=w':=by
 obtain ⟨ld,st,h1⟩:=h.aC
 have y0:=h1.cell 0 rfl
 clear h h1
 go_enter func89,ntmps89
 go_wp2_with fail
 go_ret
 exact ⟨rfl,rfl⟩
theorem RX (n:Nat) (h1:1<=n) (hn:n<=1048576) (w:World):Calls ay 61 #[ah (n:Int)] w fun e w'=>∃ R X,e = .returned (.tuple #[ak R,ah 0])/\bV w' R X (abn n 0)/\w.heap.size<=R/\w.heap.size<=X/\aj aA w w':=by
 have hmk:∀ w:World,(Instr.makeSlice 154 (ah (n:Int)) (ah (n:Int))).run ay w = .ok (.slice (some ⟨w.heap.size,0,none⟩) n n) (w.alloc (.cells (eU (.int .u64 0) n).toArray 118)) :=
  fun w=>wM (P:=ay) (by kernel_rfl) Tryz.infoU rfl (by decide) n (by omega) _ rfl w
 go_enter func61,ntmps61
 go_wp2_with fail
 obtain ⟨W1,hW1⟩:∃ W',W'=(w.alloc (.cells (eU (.int .u64 0) n).toArray 118)).alloc (.cells #[.slice (some ⟨w.heap.size,0,none⟩) n n,ah 0,ah 0] 160):=⟨_,rfl⟩
 rw [<- hW1]
 go_ret2
 have hz:eU (.int .u64 0) n=jy (abn n 0):=by simp [eU,jy]
 refine ⟨w.heap.size+1,w.heap.size,rfl,⟨⟨0,0,?_⟩,?_,fun x hx=>by rw [aco hx];decide,by simpa using hn⟩,by omega,Nat.le_refl _,?_⟩
 ·rw [hW1]
  have h:=aB.aW (w.alloc (.cells (eU (.int .u64 0) n).toArray 118)) [.slice (some ⟨w.heap.size,0,none⟩) n n,ah 0,ah 0] 160
  rw [abw] at h
  simpa using h
 ·rw [hW1,hz]
  exact (aB.aW w _ _).alloc _
 ·rw [hW1]
  exact ((aj.refl _ _).alloc _).alloc _
theorem MW (p O Q:Nat) (x ld:Int) (v:Value) (hx:w.cell? ⟨X,p,none⟩=some (.int .u64 x)) (hO:w.cell? ⟨O,0,none⟩=some v) (fO:w.frozen? ⟨O,0,none⟩=false) (hQ:w.cell? ⟨Q,0,none⟩=some (ak R)) (hR:w.cell? ⟨R,1,none⟩=some (ah ld)) (fR:w.frozen? ⟨R,1,none⟩=false) (Zi:Q≠O) (WL:R≠O) :
 Calls ay 80 #[.pointer (some ⟨X,p,none⟩),ak O,ak Q] w fun e w'=>e = .returned (.tuple #[])/\∃ ld':Int,w'=(w.setCell ⟨O,0,none⟩ (.int .u64 x)).setCell ⟨R,1,none⟩ (ah ld'):=by
 have hk:aj (only O) w (w.setCell ⟨O,0,none⟩ (.int .u64 x)):=(aj.refl _ _).put 0 _
 have hQ1:=hk.jV hQ Zi
 have hR1:=hk.jV hR WL
 have fR1:(w.setCell ⟨O,0,none⟩ (.int .u64 x)).frozen? ⟨R,1,none⟩=false:=by rw [hk.O1 (abk _ _ hR) WL];exact fR
 clear hk hQ hR fR Zi WL
 go_enter func80,ntmps80
 go_wp2_with fail
 go_end0
 exact ⟨rfl,_,rfl⟩
theorem JE (p O Q:Nat) (x st:Int) (v:Value) (hv:w.cell? ⟨X,p,none⟩=some v) (fv:w.frozen? ⟨X,p,none⟩=false) (hO:w.cell? ⟨O,0,none⟩=some (.int .u64 x)) (hQ:w.cell? ⟨Q,0,none⟩=some (ak R)) (hR:w.cell? ⟨R,2,none⟩=some (ah st)) (fR:w.frozen? ⟨R,2,none⟩=false) (Zj:Q≠X) (Gw:R≠X) :
 Calls ay 210 #[.pointer (some ⟨X,p,none⟩),ak O,ak Q] w fun e w'=>e = .returned (.tuple #[])/\∃ st':Int,w'=(w.setCell ⟨X,p,none⟩ (.int .u64 x)).setCell ⟨R,2,none⟩ (ah st'):=by
 have hk:aj (only X) w (w.setCell ⟨X,p,none⟩ (.int .u64 x)):=(aj.refl _ _).put p _
 have hQ1:=hk.jV hQ Zj
 have hR1:=hk.jV hR Gw
 have fR1:(w.setCell ⟨X,p,none⟩ (.int .u64 x)).frozen? ⟨R,2,none⟩=false:=by rw [hk.O1 (abk _ _ hR) Gw];exact fR
 clear hk hQ hR fR Zj Gw
 go_enter func210,ntmps210
 go_wp2_with fail
 go_end0
 exact ⟨rfl,_,rfl⟩
theorem RY (h:bV w R X A) (p:Nat) (hp:p<A.length) (O Q:Nat) (Post:World->Prop) (hc:Calls ay 80 #[.pointer (some ⟨X,p,none⟩),ak O,ak Q] w fun e w'=>e = .returned (.tuple #[])/\Post w') :
 Calls ay 79 #[ak R,ah ((p:Int)+1),.func (.func 80) #[] #[ak O,ak Q]] w fun e w'=>e = .returned (ah 0)/\Post w':=by
 obtain ⟨ld,st,h1⟩:=h.aC
 have y0:=h1.cell 0 rfl
 have hl:=h.len
 obtain ⟨L,hL⟩:∃ L,L=A.length:=⟨_,rfl⟩
 rw [<- hL] at y0 hl hp
 have HC:=au hc
 have Zk:(p:Int)<(L:Int):=by omega
 have hp0:(0:Int)<=(p:Int):=by omega
 have hz:((p:Int)+1==0)=false:=by simp;omega
 clear h h1 hL hc
 go_enter func79,ntmps79
 go_wp2_with (go_at_call 80;refine HC.out.mono ?_;rintro e w1 ⟨rfl,hpost⟩;have HP:=au hpost;clear hpost)
 go_ret
 exact ⟨rfl,HP.out⟩
theorem Pv (h:bV w R X A) (p:Nat) (hp:p<A.length) (O Q:Nat) (Post:World->Prop) (hc:Calls ay 210 #[.pointer (some ⟨X,p,none⟩),ak O,ak Q] w fun e w'=>e = .returned (.tuple #[])/\Post w') :
 Calls ay 79 #[ak R,ah ((p:Int)+1),.func (.func 210) #[] #[ak O,ak Q]] w fun e w'=>e = .returned (ah 0)/\Post w':=by
 obtain ⟨ld,st,h1⟩:=h.aC
 have y0:=h1.cell 0 rfl
 have hl:=h.len
 obtain ⟨L,hL⟩:∃ L,L=A.length:=⟨_,rfl⟩
 rw [<- hL] at y0 hl hp
 have HC:=au hc
 have Zk:(p:Int)<(L:Int):=by omega
 have hp0:(0:Int)<=(p:Int):=by omega
 have hz:((p:Int)+1==0)=false:=by simp;omega
 clear h h1 hL hc
 go_enter func79,ntmps79
 go_wp2_with (go_at_call 210;refine HC.out.mono ?_;rintro e w1 ⟨rfl,hpost⟩;have HP:=au hpost;clear hpost)
 go_ret
 exact ⟨rfl,HP.out⟩
def KZ (a:Int):Int:=if a=0 then 6 else 4
theorem VE (h:bV w R X A) (a:Int) (ha:a<1\/(A.length:Int)<a) (f:Value):Calls ay 79 #[ak R,ah a,f] w fun e w'=>e = .returned (ah (KZ a))/\w=w':=by
 obtain ⟨ld,st,h1⟩:=h.aC
 have y0:=h1.cell 0 rfl
 by_cases h0:a=0
 ·subst h0
  clear h h1 ha
  go_enter func79,ntmps79
  go_wp2_with fail
  go_ret
  exact ⟨rfl,rfl⟩
 ·have HE:Hid (KZ a=4):=by rw [Hid,KZ,aO h0]
  have hz:(a==0)=false:=by simpa using h0
  rw [HE.out]
  by_cases h2:a<0
  ·have d2:decide (a<0)=true:=cZ h2
   clear h h1 ha h0 h2 HE
   go_enter func79,ntmps79
   go_wp2_with fail
   go_ret
   exact ⟨rfl,rfl⟩
  ·have d2:decide (a<0)=false:=dD h2
   have d3:decide ((A.length:Int)<a)=true:=cZ (ha.resolve_left (by omega))
   clear h h1 ha h0 h2 HE
   go_enter func79,ntmps79
   go_wp2_with fail
   go_ret
   exact ⟨rfl,rfl⟩
theorem AZ (h:bV w R X A) (p:Nat) (hp:p<A.length):Calls ay 55 #[ak R,ah ((p:Int)+1)] w fun e w'=>e = .returned (.tuple #[.int .u64 (A.getD p 0:Nat),ah 0])/\bV w' R X A/\aj (only R) w w':=by
 obtain ⟨W1,hW1⟩:∃ W',W'=(w.alloc (.cells #[ak R] 104)).alloc (.cells #[.int .u64 0] 118):=⟨_,rfl⟩
 have hk1:aj aA w W1:=by rw [hW1];exact ((aj.refl _ _).alloc _).alloc _
 have hq:aB W1 w.heap.size [ak R] 104:=by rw [hW1];exact (aB.aW w _ _).alloc _
 have ho:aB W1 (w.heap.size+1) [.int .u64 0] 118:=by
  rw [hW1]
  have h:=aB.aW (w.alloc (.cells #[ak R] 104)) [.int .u64 0] 118
  rw [abw] at h
  exact h
 have hA:=h.still hk1
 obtain ⟨ld,st,hR⟩:=hA.aC
 have hRl:R<w.heap.size:=by obtain ⟨_,_,h⟩:=h.aC;exact h.lt
 have hXl:X<w.heap.size:=h.kL.lt
 have hc:=MW (w:=W1) (R:=R) (X:=X) p (w.heap.size+1) w.heap.size _ ld _ (hA.kL.cell p (Et hp)) (ho.cell 0 rfl) (ho.free 0) (hq.cell 0 rfl) (hR.cell 1 rfl) (hR.free 1) (by omega) (by omega)
 have HAT:=au (RY hA p hp (w.heap.size+1) w.heap.size _ hc)
 generalize hx:A.getD p 0=x at *
 clear hc
 go_enter func55,ntmps55
 go_wp2_with fail
 rw [<- hW1]
 refine HAT.out.mono ?_
 rintro e w2 ⟨rfl,ld',hw2⟩
 have UA:aj (only (w.heap.size+1)) W1 (W1.setCell ⟨w.heap.size+1,0,none⟩ (.int .u64 (x:Int))):=(aj.refl _ _).put 0 _
 have hkR:aj (only R) (W1.setCell ⟨w.heap.size+1,0,none⟩ (.int .u64 (x:Int))) w2:=by rw [hw2];exact (aj.refl _ _).put 1 _
 have hout:w2.cell? ⟨w.heap.size+1,0,none⟩=some (.int .u64 (x:Int)):=hkR.jV ((ho.set 0 _).cell 0 rfl) (show ¬ (w.heap.size+1=R) by omega)
 have hR2:aB w2 R [.slice (some ⟨X,0,none⟩) A.length A.length,ah ld',ah st] 160:=by
  rw [hw2];exact (UA.aC hR (by unfold only;omega)).set 1 _
 have hX2:aB w2 X (jy A) 118:=hkR.aC (UA.aC hA.kL (by unfold only;omega)) (fun e=>hA.ne e.symm)
 have hk12:aj (fun i=>i=w.heap.size+1\/i=R) W1 w2:=(UA.mono (fun i _ e=>Or.inl e)).trans (hkR.mono (fun i _ e=>Or.inr e))
 have rD:Hid (bV w2 R X A/\aj (only R) w w2):=⟨⟨⟨ld',st,hR2⟩,hX2,hA.lt,hA.len⟩,
  (aj.mono (T:=only R) hk1 (fun _ _ f=>f.elim)).jI hk12 (fun i hi e=>by rcases e with e|e;(omega);exact e)⟩
 clear UA hkR hk12 hR2 hX2 hw2 hA hR ho hq hk1 hW1 HAT
 go_wp2_with fail
 go_ret2
 exact ⟨rfl,rD.out⟩
theorem Px (h:bV w R X A) (a:Int) (ha:a<1\/(A.length:Int)<a):Calls ay 55 #[ak R,ah a] w fun e w'=>e = .returned (.tuple #[.int .u64 0,ah (KZ a)])/\aj aA w w':=by
 obtain ⟨W1,hW1⟩:∃ W',W'=(w.alloc (.cells #[ak R] 104)).alloc (.cells #[.int .u64 0] 118):=⟨_,rfl⟩
 have hk1:aj aA w W1:=by rw [hW1];exact ((aj.refl _ _).alloc _).alloc _
 have ho:aB W1 (w.heap.size+1) [.int .u64 0] 118:=by
  rw [hW1]
  have h:=aB.aW (w.alloc (.cells #[ak R] 104)) [.int .u64 0] 118
  rw [abw] at h
  exact h
 have HAT:=au (fun f=>VE (h.still hk1) a ha f)
 have hout:=ho.cell 0 rfl
 have aZ:=au hk1
 generalize KZ a=ae at *
 clear ho hk1 ha h
 go_enter func55,ntmps55
 go_wp2_with fail
 rw [<- hW1]
 clear hW1
 refine (HAT.out _).mono ?_
 rintro e w2 ⟨rfl,rfl⟩
 go_wp2_with fail
 go_ret2
 exact ⟨rfl,aZ.out⟩
theorem Eu (h:bV w R X A) (p:Nat) (hp:p<A.length) (x:Nat) (hx:x<18446744073709551616):Calls ay 199 #[ak R,ah ((p:Int)+1),.int .u64 (x:Int)] w fun e w'=>e = .returned (ah 0)/\bV w' R X (A.set p x)/\aj (fun i=>i=R\/i=X) w w':=by
 obtain ⟨W1,hW1⟩:∃ W',W'=(w.alloc (.cells #[ak R] 104)).alloc (.cells #[.int .u64 (x:Int)] 118):=⟨_,rfl⟩
 have hk1:aj aA w W1:=by rw [hW1];exact ((aj.refl _ _).alloc _).alloc _
 have hq:aB W1 w.heap.size [ak R] 104:=by rw [hW1];exact (aB.aW w _ _).alloc _
 have ho:aB W1 (w.heap.size+1) [.int .u64 (x:Int)] 118:=by
  rw [hW1]
  have h:=aB.aW (w.alloc (.cells #[ak R] 104)) [.int .u64 (x:Int)] 118
  rw [abw] at h
  exact h
 have hA:=h.still hk1
 obtain ⟨ld,st,hR⟩:=hA.aC
 have hRl:R<w.heap.size:=by obtain ⟨_,_,h⟩:=h.aC;exact h.lt
 have hXl:X<w.heap.size:=h.kL.lt
 have Gw:=h.ne
 have hc:=JE (w:=W1) (R:=R) (X:=X) p (w.heap.size+1) w.heap.size (x:Int) st _ (hA.kL.cell p (Et hp)) (hA.kL.free p) (ho.cell 0 rfl) (hq.cell 0 rfl) (hR.cell 2 rfl) (hR.free 2) (by omega) Gw
 have HAT:=au (Pv hA p hp (w.heap.size+1) w.heap.size _ hc)
 have HX:=au hx
 clear hc hx
 go_enter func199,ntmps199
 go_wp2_with fail
 rw [<- hW1]
 refine HAT.out.mono ?_
 rintro e w2 ⟨rfl,st',hw2⟩
 have hkX:aj (only X) W1 (W1.setCell ⟨X,p,none⟩ (.int .u64 (x:Int))):=(aj.refl _ _).put p _
 have hkR:aj (only R) (W1.setCell ⟨X,p,none⟩ (.int .u64 (x:Int))) w2:=by rw [hw2];exact (aj.refl _ _).put 2 _
 have hR2:aB w2 R [.slice (some ⟨X,0,none⟩) A.length A.length,ah ld,ah st'] 160:=by
  rw [hw2];exact (hkX.aC hR Gw).set 2 _
 have hX2:aB w2 X ((jy A).set p (.int .u64 (x:Int))) 118:=hkR.aC (hA.kL.set p _) (fun e=>Gw e.symm)
 have hk12:aj (fun i=>i=R\/i=X) W1 w2:=(hkX.mono (fun i _ e=>Or.inr e)).trans (hkR.mono (fun i _ e=>Or.inl e))
 have rD:Hid (bV w2 R X (A.set p x)/\aj (fun i=>i=R\/i=X) w w2):=by
  refine ⟨⟨⟨ld,st',by rw [acg];exact hR2⟩,by rw [MV];exact hX2,fun y hy=>?_,by rw [acg];exact hA.len⟩,(aj.mono hk1 (fun _ _ f=>f.elim)).trans hk12⟩
  rcases List.mem_or_eq_of_mem_set hy with h|rfl
  ·exact hA.lt y h
  ·exact HX.out
 clear hkX hkR hk12 hR2 hX2 hw2 hA hR ho hq hk1 hW1 HAT
 go_wp2_with fail
 go_ret
 exact ⟨rfl,rD.out⟩
end
end
end Go.Proofs.YtobfpmijbfgmeabGreatDoor
