/- Parts of the iy. No conditions. -/
import Derived.Test.YtanfphjoebobaaaGreatDoorZzfe
namespace Go.Proofs.YtanfphjoebobaaaGreatDoor
open _root_.Go.World renaming block_lt_of_cell?->akl,size_alloc->ajq
open _root_.List renaming getElem?_eq_getElem->ajh,length_set->aku,replicate->ajj
open _root_.Go.Proofs.Tryz hiding prog
open _root_.Go.Proofs.Tryz renaming prog->aA
set_option maxRecDepth 4000
set_option maxHeartbeats 1000000
section
open Go.RowKit
structure dY (w:World) (R X:Nat) (A:List Nat):Prop where
 aH:∃ ld st:Int,aF w R [.slice (some ⟨X,0,none⟩) A.length A.length,ah ld,ah st] 197
 pU:aF w X (mQ A) 146
 lt:∀ x∈A,x<18446744073709551616
 len:A.length<=1048576
section
variable {w w':World} {R X:Nat} {A:List Nat}
theorem dY.aK {S:Nat->Prop} (h:dY w R X A) (k:aj S w w') (hR:¬ S R) (hX:¬ S X):dY w' R X A:=by
 obtain ⟨ld,st,h1⟩:=h.aH
 exact ⟨⟨ld,st,k.aH h1 hR⟩,k.aH h.pU hX,h.lt,h.len⟩
theorem dY.still (h:dY w R X A) (k:aj aB w w'):dY w' R X A:=h.aK k (fun f=>f) (fun f=>f)
theorem dY.ne (h:dY w R X A):R≠X:=fun e=>by
 obtain ⟨ld,st,h1⟩:=h.aH
 rw [e] at h1
 exact absurd (h1.jL h.pU).2 (by decide)
theorem OG {A:List Nat} {p:Nat} (hp:p<A.length):(mQ A)[p]?=some (.int .u64 (A.getD p 0:Nat)):=by
 unfold mQ
 rw [List.getElem?_map,ajh hp,List.getD_eq_getElem?_getD,ajh hp];rfl
theorem XB (A:List Nat) (p x:Nat):mQ (A.set p x)=(mQ A).set p (.int .u64 (x:Int)):=by
 unfold mQ
 rw [List.map_set]
theorem RF (h:dY w R X A):Calls aA 157 #[au R] w fun e w'=>e = .returned (ah (A.length:Int))/\w=w':=by
 obtain ⟨ld,st,h1⟩:=h.aH
 have y0:=h1.cell 0 rfl
 clear h h1
 go_enter func157,ntmps157
 go_wp2_with fail
 go_ret
 exact ⟨rfl,rfl⟩
theorem abN (n:Nat) (h1:1<=n) (hn:n<=1048576) (w:World):Calls aA 109 #[ah (n:Int)] w fun e w'=>∃ R X,e = .returned (.tuple #[au R,ah 0])/\dY w' R X (ajj n 0)/\w.heap.size<=R/\w.heap.size<=X/\aj aB w w':=by
 have hmk:∀ w:World,(Instr.makeSlice 147 (ah (n:Int)) (ah (n:Int))).run aA w = .ok (.slice (some ⟨w.heap.size,0,none⟩) n n) (w.alloc (.cells (fV (.int .u64 0) n).toArray 146)) :=
  fun w=>yD (P:=aA) (by kernel_rfl) Tryz.infoU rfl (by decide) n (by omega) _ rfl w
 go_enter func109,ntmps109
 go_wp2_with fail
 obtain ⟨W1,hW1⟩:∃ W',W'=(w.alloc (.cells (fV (.int .u64 0) n).toArray 146)).alloc (.cells #[.slice (some ⟨w.heap.size,0,none⟩) n n,ah 0,ah 0] 197):=⟨_,rfl⟩
 rw [<- hW1]
 go_ret2
 have hz:fV (.int .u64 0) n=mQ (ajj n 0):=by simp [fV,mQ]
 refine ⟨w.heap.size+1,w.heap.size,rfl,⟨⟨0,0,?_⟩,?_,fun x hx=>by rw [List.eq_of_mem_replicate hx];decide,by simpa using hn⟩,by omega,Nat.le_refl _,?_⟩
 ·rw [hW1]
  have h:=aF.bC (w.alloc (.cells (fV (.int .u64 0) n).toArray 146)) [.slice (some ⟨w.heap.size,0,none⟩) n n,ah 0,ah 0] 197
  rw [ajq] at h
  simpa using h
 ·rw [hW1,hz]
  exact (aF.bC w _ _).alloc _
 ·rw [hW1]
  exact ((aj.refl _ _).alloc _).alloc _
theorem XC (p O Q:Nat) (x ld:Int) (v:Value) (hx:w.cell? ⟨X,p,none⟩=some (.int .u64 x)) (hO:w.cell? ⟨O,0,none⟩=some v) (fO:w.frozen? ⟨O,0,none⟩=false) (hQ:w.cell? ⟨Q,0,none⟩=some (au R)) (hR:w.cell? ⟨R,1,none⟩=some (ah ld)) (fR:w.frozen? ⟨R,1,none⟩=false) (hQO:Q≠O) (hRO:R≠O) :
 Calls aA 145 #[.pointer (some ⟨X,p,none⟩),au O,au Q] w fun e w'=>e = .returned (.tuple #[])/\∃ ld':Int,w'=(w.setCell ⟨O,0,none⟩ (.int .u64 x)).setCell ⟨R,1,none⟩ (ah ld'):=by
 have hk:aj (only O) w (w.setCell ⟨O,0,none⟩ (.int .u64 x)):=(aj.refl _ _).put 0 _
 have hQ1:=hk.nP hQ hQO
 have hR1:=hk.nP hR hRO
 have fR1:(w.setCell ⟨O,0,none⟩ (.int .u64 x)).frozen? ⟨R,1,none⟩=false:=by rw [hk.QW (akl _ _ hR) hRO];exact fR
 clear hk hQ hR fR hQO hRO
 go_enter func145,ntmps145
 go_wp2_with fail
 go_end0
 exact ⟨rfl,_,rfl⟩
theorem Ve (p O Q:Nat) (x st:Int) (v:Value) (hv:w.cell? ⟨X,p,none⟩=some v) (fv:w.frozen? ⟨X,p,none⟩=false) (hO:w.cell? ⟨O,0,none⟩=some (.int .u64 x)) (hQ:w.cell? ⟨Q,0,none⟩=some (au R)) (hR:w.cell? ⟨R,2,none⟩=some (ah st)) (fR:w.frozen? ⟨R,2,none⟩=false) (hQX:Q≠X) (RG:R≠X) :
 Calls aA 164 #[.pointer (some ⟨X,p,none⟩),au O,au Q] w fun e w'=>e = .returned (.tuple #[])/\∃ st':Int,w'=(w.setCell ⟨X,p,none⟩ (.int .u64 x)).setCell ⟨R,2,none⟩ (ah st'):=by
 have hk:aj (only X) w (w.setCell ⟨X,p,none⟩ (.int .u64 x)):=(aj.refl _ _).put p _
 have hQ1:=hk.nP hQ hQX
 have hR1:=hk.nP hR RG
 have fR1:(w.setCell ⟨X,p,none⟩ (.int .u64 x)).frozen? ⟨R,2,none⟩=false:=by rw [hk.QW (akl _ _ hR) RG];exact fR
 clear hk hQ hR fR hQX RG
 go_enter func164,ntmps164
 go_wp2_with fail
 go_end0
 exact ⟨rfl,_,rfl⟩
theorem abO (h:dY w R X A) (p:Nat) (hp:p<A.length) (O Q:Nat) (Post:World->Prop) (hc:Calls aA 145 #[.pointer (some ⟨X,p,none⟩),au O,au Q] w fun e w'=>e = .returned (.tuple #[])/\Post w') :
 Calls aA 144 #[au R,ah ((p:Int)+1),.func (.func 145) #[] #[au O,au Q]] w fun e w'=>e = .returned (ah 0)/\Post w':=by
 obtain ⟨ld,st,h1⟩:=h.aH
 have y0:=h1.cell 0 rfl
 have hl:=h.len
 obtain ⟨L,hL⟩:∃ L,L=A.length:=⟨_,rfl⟩
 rw [<- hL] at y0 hl hp
 have HC:=ay hc
 have hpI:(p:Int)<(L:Int):=by omega
 have hp0:(0:Int)<=(p:Int):=by omega
 have hz:((p:Int)+1==0)=false:=by simp;omega
 clear h h1 hL hc
 go_enter func144,ntmps144
 go_wp2_with (go_at_call 145;refine HC.out.mono ?_;rintro e w1 ⟨rfl,hpost⟩;have HP:=ay hpost;clear hpost)
 go_ret
 exact ⟨rfl,HP.out⟩
theorem ZE (h:dY w R X A) (p:Nat) (hp:p<A.length) (O Q:Nat) (Post:World->Prop) (hc:Calls aA 164 #[.pointer (some ⟨X,p,none⟩),au O,au Q] w fun e w'=>e = .returned (.tuple #[])/\Post w') :
 Calls aA 144 #[au R,ah ((p:Int)+1),.func (.func 164) #[] #[au O,au Q]] w fun e w'=>e = .returned (ah 0)/\Post w':=by
 obtain ⟨ld,st,h1⟩:=h.aH
 have y0:=h1.cell 0 rfl
 have hl:=h.len
 obtain ⟨L,hL⟩:∃ L,L=A.length:=⟨_,rfl⟩
 rw [<- hL] at y0 hl hp
 have HC:=ay hc
 have hpI:(p:Int)<(L:Int):=by omega
 have hp0:(0:Int)<=(p:Int):=by omega
 have hz:((p:Int)+1==0)=false:=by simp;omega
 clear h h1 hL hc
 go_enter func144,ntmps144
 go_wp2_with (go_at_call 164;refine HC.out.mono ?_;rintro e w1 ⟨rfl,hpost⟩;have HP:=ay hpost;clear hpost)
 go_ret
 exact ⟨rfl,HP.out⟩
def V9 (a:Int):Int:=if a=0 then 6 else 4
theorem aeh (h:dY w R X A) (a:Int) (ha:a<1\/(A.length:Int)<a) (f:Value):Calls aA 144 #[au R,ah a,f] w fun e w'=>e = .returned (ah (V9 a))/\w=w':=by
 obtain ⟨ld,st,h1⟩:=h.aH
 have y0:=h1.cell 0 rfl
 by_cases h0:a=0
 ·subst h0
  clear h h1 ha
  go_enter func144,ntmps144
  go_wp2_with fail
  go_ret
  exact ⟨rfl,rfl⟩
 ·have HE:Hid (V9 a=4):=by rw [Hid,V9,aT h0]
  have hz:(a==0)=false:=by simpa using h0
  rw [HE.out]
  by_cases h2:a<0
  ·have d2:decide (a<0)=true:=fK h2
   clear h h1 ha h0 h2 HE
   go_enter func144,ntmps144
   go_wp2_with fail
   go_ret
   exact ⟨rfl,rfl⟩
  ·have d2:decide (a<0)=false:=gJ h2
   have d3:decide ((A.length:Int)<a)=true:=fK (ha.resolve_left (by omega))
   clear h h1 ha h0 h2 HE
   go_enter func144,ntmps144
   go_wp2_with fail
   go_ret
   exact ⟨rfl,rfl⟩
theorem JO (h:dY w R X A) (p:Nat) (hp:p<A.length):Calls aA 99 #[au R,ah ((p:Int)+1)] w fun e w'=>e = .returned (.tuple #[.int .u64 (A.getD p 0:Nat),ah 0])/\dY w' R X A/\aj (only R) w w':=by
 obtain ⟨W1,hW1⟩:∃ W',W'=(w.alloc (.cells #[au R] 96)).alloc (.cells #[.int .u64 0] 146):=⟨_,rfl⟩
 have hk1:aj aB w W1:=by rw [hW1];exact ((aj.refl _ _).alloc _).alloc _
 have hq:aF W1 w.heap.size [au R] 96:=by rw [hW1];exact (aF.bC w _ _).alloc _
 have ho:aF W1 (w.heap.size+1) [.int .u64 0] 146:=by
  rw [hW1]
  have h:=aF.bC (w.alloc (.cells #[au R] 96)) [.int .u64 0] 146
  rw [ajq] at h
  exact h
 have hA:=h.still hk1
 obtain ⟨ld,st,hR⟩:=hA.aH
 have hRl:R<w.heap.size:=by obtain ⟨_,_,h⟩:=h.aH;exact h.lt
 have hXl:X<w.heap.size:=h.pU.lt
 have hc:=XC (w:=W1) (R:=R) (X:=X) p (w.heap.size+1) w.heap.size _ ld _ (hA.pU.cell p (OG hp)) (ho.cell 0 rfl) (ho.free 0) (hq.cell 0 rfl) (hR.cell 1 rfl) (hR.free 1) (by omega) (by omega)
 have HAT:=ay (abO hA p hp (w.heap.size+1) w.heap.size _ hc)
 generalize hx:A.getD p 0=x at *
 clear hc
 go_enter func99,ntmps99
 go_wp2_with fail
 rw [<- hW1]
 refine HAT.out.mono ?_
 rintro e w2 ⟨rfl,ld',hw2⟩
 have hkO:aj (only (w.heap.size+1)) W1 (W1.setCell ⟨w.heap.size+1,0,none⟩ (.int .u64 (x:Int))):=(aj.refl _ _).put 0 _
 have hkR:aj (only R) (W1.setCell ⟨w.heap.size+1,0,none⟩ (.int .u64 (x:Int))) w2:=by rw [hw2];exact (aj.refl _ _).put 1 _
 have hout:w2.cell? ⟨w.heap.size+1,0,none⟩=some (.int .u64 (x:Int)):=hkR.nP ((ho.set 0 _).cell 0 rfl) (show ¬ (w.heap.size+1=R) by omega)
 have hR2:aF w2 R [.slice (some ⟨X,0,none⟩) A.length A.length,ah ld',ah st] 197:=by
  rw [hw2];exact (hkO.aH hR (by unfold only;omega)).set 1 _
 have hX2:aF w2 X (mQ A) 146:=hkR.aH (hkO.aH hA.pU (by unfold only;omega)) (fun e=>hA.ne e.symm)
 have hk12:aj (fun i=>i=w.heap.size+1\/i=R) W1 w2:=(hkO.mono (fun i _ e=>Or.inl e)).trans (hkR.mono (fun i _ e=>Or.inr e))
 have uy:Hid (dY w2 R X A/\aj (only R) w w2):=⟨⟨⟨ld',st,hR2⟩,hX2,hA.lt,hA.len⟩,
  (aj.mono (T:=only R) hk1 (fun _ _ f=>f.elim)).kF hk12 (fun i hi e=>by rcases e with e|e;(omega);exact e)⟩
 clear hkO hkR hk12 hR2 hX2 hw2 hA hR ho hq hk1 hW1 HAT
 go_wp2_with fail
 go_ret2
 exact ⟨rfl,uy.out⟩
theorem ZF (h:dY w R X A) (a:Int) (ha:a<1\/(A.length:Int)<a):Calls aA 99 #[au R,ah a] w fun e w'=>e = .returned (.tuple #[.int .u64 0,ah (V9 a)])/\aj aB w w':=by
 obtain ⟨W1,hW1⟩:∃ W',W'=(w.alloc (.cells #[au R] 96)).alloc (.cells #[.int .u64 0] 146):=⟨_,rfl⟩
 have hk1:aj aB w W1:=by rw [hW1];exact ((aj.refl _ _).alloc _).alloc _
 have ho:aF W1 (w.heap.size+1) [.int .u64 0] 146:=by
  rw [hW1]
  have h:=aF.bC (w.alloc (.cells #[au R] 96)) [.int .u64 0] 146
  rw [ajq] at h
  exact h
 have HAT:=ay (fun f=>aeh (h.still hk1) a ha f)
 have hout:=ho.cell 0 rfl
 have bI:=ay hk1
 generalize V9 a=ae at *
 clear ho hk1 ha h
 go_enter func99,ntmps99
 go_wp2_with fail
 rw [<- hW1]
 clear hW1
 refine (HAT.out _).mono ?_
 rintro e w2 ⟨rfl,rfl⟩
 go_wp2_with fail
 go_ret2
 exact ⟨rfl,bI.out⟩
theorem OH (h:dY w R X A) (p:Nat) (hp:p<A.length) (x:Nat) (hx:x<18446744073709551616):Calls aA 119 #[au R,ah ((p:Int)+1),.int .u64 (x:Int)] w fun e w'=>e = .returned (ah 0)/\dY w' R X (A.set p x)/\aj (fun i=>i=R\/i=X) w w':=by
 obtain ⟨W1,hW1⟩:∃ W',W'=(w.alloc (.cells #[au R] 96)).alloc (.cells #[.int .u64 (x:Int)] 146):=⟨_,rfl⟩
 have hk1:aj aB w W1:=by rw [hW1];exact ((aj.refl _ _).alloc _).alloc _
 have hq:aF W1 w.heap.size [au R] 96:=by rw [hW1];exact (aF.bC w _ _).alloc _
 have ho:aF W1 (w.heap.size+1) [.int .u64 (x:Int)] 146:=by
  rw [hW1]
  have h:=aF.bC (w.alloc (.cells #[au R] 96)) [.int .u64 (x:Int)] 146
  rw [ajq] at h
  exact h
 have hA:=h.still hk1
 obtain ⟨ld,st,hR⟩:=hA.aH
 have hRl:R<w.heap.size:=by obtain ⟨_,_,h⟩:=h.aH;exact h.lt
 have hXl:X<w.heap.size:=h.pU.lt
 have RG:=h.ne
 have hc:=Ve (w:=W1) (R:=R) (X:=X) p (w.heap.size+1) w.heap.size (x:Int) st _ (hA.pU.cell p (OG hp)) (hA.pU.free p) (ho.cell 0 rfl) (hq.cell 0 rfl) (hR.cell 2 rfl) (hR.free 2) (by omega) RG
 have HAT:=ay (ZE hA p hp (w.heap.size+1) w.heap.size _ hc)
 have HX:=ay hx
 clear hc hx
 go_enter func119,ntmps119
 go_wp2_with fail
 rw [<- hW1]
 refine HAT.out.mono ?_
 rintro e w2 ⟨rfl,st',hw2⟩
 have hkX:aj (only X) W1 (W1.setCell ⟨X,p,none⟩ (.int .u64 (x:Int))):=(aj.refl _ _).put p _
 have hkR:aj (only R) (W1.setCell ⟨X,p,none⟩ (.int .u64 (x:Int))) w2:=by rw [hw2];exact (aj.refl _ _).put 2 _
 have hR2:aF w2 R [.slice (some ⟨X,0,none⟩) A.length A.length,ah ld,ah st'] 197:=by
  rw [hw2];exact (hkX.aH hR RG).set 2 _
 have hX2:aF w2 X ((mQ A).set p (.int .u64 (x:Int))) 146:=hkR.aH (hA.pU.set p _) (fun e=>RG e.symm)
 have hk12:aj (fun i=>i=R\/i=X) W1 w2:=(hkX.mono (fun i _ e=>Or.inr e)).trans (hkR.mono (fun i _ e=>Or.inl e))
 have uy:Hid (dY w2 R X (A.set p x)/\aj (fun i=>i=R\/i=X) w w2):=by
  refine ⟨⟨⟨ld,st',by rw [aku];exact hR2⟩,by rw [XB];exact hX2,fun y hy=>?_,by rw [aku];exact hA.len⟩,(aj.mono hk1 (fun _ _ f=>f.elim)).trans hk12⟩
  rcases List.mem_or_eq_of_mem_set hy with h|rfl
  ·exact hA.lt y h
  ·exact HX.out
 clear hkX hkR hk12 hR2 hX2 hw2 hA hR ho hq hk1 hW1 HAT
 go_wp2_with fail
 go_ret
 exact ⟨rfl,uy.out⟩
end
end
end Go.Proofs.YtanfphjoebobaaaGreatDoor
