/- Parts of the walk. No conditions. -/
import Derived.Test.YtanfphjoebobaaaGreatDoorZzef
namespace Go.Proofs.YtanfphjoebobaaaGreatDoor
open _root_.Go.Proofs.Tryz hiding prog
open _root_.Go.Proofs.Tryz renaming prog->ay
set_option maxRecDepth 4000
set_option maxHeartbeats 1000000
section
open Go.RowKit
structure dH (w:World) (R X:Nat) (A:List Nat):Prop where
 blk:∃ ld st:Int,aA w R [.slice (some ⟨X,0,none⟩) A.length A.length,ah ld,ah st] 197
 lF:aA w X (jf A) 146
 lt:∀ x∈A,x<18446744073709551616
 len:A.length<=1048576
section
variable {w w':World} {R X:Nat} {A:List Nat}
theorem dH.keep {S:Nat->Prop} (h:dH w R X A) (k:Keep S w w') (hR:¬ S R) (hX:¬ S X):dH w' R X A:=by
 obtain ⟨ld,st,h1⟩:=h.blk
 exact ⟨⟨ld,st,k.blk h1 hR⟩,k.blk h.lF hX,h.lt,h.len⟩
theorem dH.still (h:dH w R X A) (k:Keep none_ w w'):dH w' R X A:=h.keep k (fun f=>f) (fun f=>f)
theorem dH.ne (h:dH w R X A):R≠X:=fun e=>by
 obtain ⟨ld,st,h1⟩:=h.blk
 rw [e] at h1
 exact absurd (h1.uniq h.lF).2 (by decide)
theorem Iy {A:List Nat} {p:Nat} (hp:p<A.length):(jf A)[p]?=some (.int .u64 (A.getD p 0:Nat)):=by
 unfold jf
 rw [List.getElem?_map,List.getElem?_eq_getElem hp,List.getD_eq_getElem?_getD,List.getElem?_eq_getElem hp];rfl
theorem Q8 (A:List Nat) (p x:Nat):jf (A.set p x)=(jf A).set p (.int .u64 (x:Int)):=by
 unfold jf
 rw [List.map_set]
theorem Le (h:dH w R X A):Calls ay 157 #[aj R] w fun e w'=>e = .returned (ah (A.length:Int))/\w=w':=by
 obtain ⟨ld,st,h1⟩:=h.blk
 have y0:=h1.cell 0 rfl
 clear h h1
 go_enter func157,ntmps157
 go_wp2_with fail
 go_ret
 exact ⟨rfl,rfl⟩
theorem Xt (n:Nat) (h1:1<=n) (hn:n<=1048576) (w:World):Calls ay 109 #[ah (n:Int)] w fun e w'=>∃ R X,e = .returned (.tuple #[aj R,ah 0])/\dH w' R X (List.replicate n 0)/\w.heap.size<=R/\w.heap.size<=X/\Keep none_ w w':=by
 have hmk:∀ w:World,(Instr.makeSlice 147 (ah (n:Int)) (ah (n:Int))).run ay w = .ok (.slice (some ⟨w.heap.size,0,none⟩) n n) (w.alloc (.cells (zeros (.int .u64 0) n).toArray 146)) :=
  fun w=>run_mk (P:=ay) (by kernel_rfl) Tryz.infoU rfl (by decide) n (by omega) _ rfl w
 go_enter func109,ntmps109
 go_wp2_with fail
 obtain ⟨W1,hW1⟩:∃ W',W'=(w.alloc (.cells (zeros (.int .u64 0) n).toArray 146)).alloc (.cells #[.slice (some ⟨w.heap.size,0,none⟩) n n,ah 0,ah 0] 197):=⟨_,rfl⟩
 rw [<- hW1]
 go_ret2
 have hz:zeros (.int .u64 0) n=jf (List.replicate n 0):=by simp [zeros,jf]
 refine ⟨w.heap.size+1,w.heap.size,rfl,⟨⟨0,0,?_⟩,?_,fun x hx=>by rw [List.eq_of_mem_replicate hx];decide,by simpa using hn⟩,by omega,Nat.le_refl _,?_⟩
 ·rw [hW1]
  have h:=aA.new (w.alloc (.cells (zeros (.int .u64 0) n).toArray 146)) [.slice (some ⟨w.heap.size,0,none⟩) n n,ah 0,ah 0] 197
  rw [World.size_alloc] at h
  simpa using h
 ·rw [hW1,hz]
  exact (aA.new w _ _).alloc _
 ·rw [hW1]
  exact ((Keep.refl _ _).alloc _).alloc _
theorem Q9 (p O Q:Nat) (x ld:Int) (v:Value) (hx:w.cell? ⟨X,p,none⟩=some (.int .u64 x)) (hO:w.cell? ⟨O,0,none⟩=some v) (fO:w.frozen? ⟨O,0,none⟩=false) (hQ:w.cell? ⟨Q,0,none⟩=some (aj R)) (hR:w.cell? ⟨R,1,none⟩=some (ah ld)) (fR:w.frozen? ⟨R,1,none⟩=false) (hQO:Q≠O) (hRO:R≠O) :
 Calls ay 145 #[.pointer (some ⟨X,p,none⟩),aj O,aj Q] w fun e w'=>e = .returned (.tuple #[])/\∃ ld':Int,w'=(w.setCell ⟨O,0,none⟩ (.int .u64 x)).setCell ⟨R,1,none⟩ (ah ld'):=by
 have hk:Keep (only O) w (w.setCell ⟨O,0,none⟩ (.int .u64 x)):=(Keep.refl _ _).put 0 _
 have hQ1:=hk.jM hQ hQO
 have hR1:=hk.jM hR hRO
 have fR1:(w.setCell ⟨O,0,none⟩ (.int .u64 x)).frozen? ⟨R,1,none⟩=false:=by rw [hk.frozen (World.block_lt_of_cell? _ _ hR) hRO];exact fR
 clear hk hQ hR fR hQO hRO
 go_enter func145,ntmps145
 go_wp2_with fail
 go_end0
 exact ⟨rfl,_,rfl⟩
theorem OL (p O Q:Nat) (x st:Int) (v:Value) (hv:w.cell? ⟨X,p,none⟩=some v) (fv:w.frozen? ⟨X,p,none⟩=false) (hO:w.cell? ⟨O,0,none⟩=some (.int .u64 x)) (hQ:w.cell? ⟨Q,0,none⟩=some (aj R)) (hR:w.cell? ⟨R,2,none⟩=some (ah st)) (fR:w.frozen? ⟨R,2,none⟩=false) (hQX:Q≠X) (Lh:R≠X) :
 Calls ay 164 #[.pointer (some ⟨X,p,none⟩),aj O,aj Q] w fun e w'=>e = .returned (.tuple #[])/\∃ st':Int,w'=(w.setCell ⟨X,p,none⟩ (.int .u64 x)).setCell ⟨R,2,none⟩ (ah st'):=by
 have hk:Keep (only X) w (w.setCell ⟨X,p,none⟩ (.int .u64 x)):=(Keep.refl _ _).put p _
 have hQ1:=hk.jM hQ hQX
 have hR1:=hk.jM hR Lh
 have fR1:(w.setCell ⟨X,p,none⟩ (.int .u64 x)).frozen? ⟨R,2,none⟩=false:=by rw [hk.frozen (World.block_lt_of_cell? _ _ hR) Lh];exact fR
 clear hk hQ hR fR hQX Lh
 go_enter func164,ntmps164
 go_wp2_with fail
 go_end0
 exact ⟨rfl,_,rfl⟩
theorem Xu (h:dH w R X A) (p:Nat) (hp:p<A.length) (O Q:Nat) (Post:World->Prop) (hc:Calls ay 145 #[.pointer (some ⟨X,p,none⟩),aj O,aj Q] w fun e w'=>e = .returned (.tuple #[])/\Post w') :
 Calls ay 144 #[aj R,ah ((p:Int)+1),.func (.func 145) #[] #[aj O,aj Q]] w fun e w'=>e = .returned (ah 0)/\Post w':=by
 obtain ⟨ld,st,h1⟩:=h.blk
 have y0:=h1.cell 0 rfl
 have hl:=h.len
 obtain ⟨L,hL⟩:∃ L,L=A.length:=⟨_,rfl⟩
 rw [<- hL] at y0 hl hp
 have HC:=au hc
 have hpI:(p:Int)<(L:Int):=by omega
 have hp0:(0:Int)<=(p:Int):=by omega
 have hz:((p:Int)+1==0)=false:=by simp;omega
 clear h h1 hL hc
 go_enter func144,ntmps144
 go_wp2_with (go_at_call 145;refine HC.out.mono ?_;rintro e w1 ⟨rfl,hpost⟩;have HP:=au hpost;clear hpost)
 go_ret
 exact ⟨rfl,HP.out⟩
theorem UF (h:dH w R X A) (p:Nat) (hp:p<A.length) (O Q:Nat) (Post:World->Prop) (hc:Calls ay 164 #[.pointer (some ⟨X,p,none⟩),aj O,aj Q] w fun e w'=>e = .returned (.tuple #[])/\Post w') :
 Calls ay 144 #[aj R,ah ((p:Int)+1),.func (.func 164) #[] #[aj O,aj Q]] w fun e w'=>e = .returned (ah 0)/\Post w':=by
 obtain ⟨ld,st,h1⟩:=h.blk
 have y0:=h1.cell 0 rfl
 have hl:=h.len
 obtain ⟨L,hL⟩:∃ L,L=A.length:=⟨_,rfl⟩
 rw [<- hL] at y0 hl hp
 have HC:=au hc
 have hpI:(p:Int)<(L:Int):=by omega
 have hp0:(0:Int)<=(p:Int):=by omega
 have hz:((p:Int)+1==0)=false:=by simp;omega
 clear h h1 hL hc
 go_enter func144,ntmps144
 go_wp2_with (go_at_call 164;refine HC.out.mono ?_;rintro e w1 ⟨rfl,hpost⟩;have HP:=au hpost;clear hpost)
 go_ret
 exact ⟨rfl,HP.out⟩
def P7 (a:Int):Int:=if a=0 then 6 else 4
theorem ZP (h:dH w R X A) (a:Int) (ha:a<1\/(A.length:Int)<a) (f:Value):Calls ay 144 #[aj R,ah a,f] w fun e w'=>e = .returned (ah (P7 a))/\w=w':=by
 obtain ⟨ld,st,h1⟩:=h.blk
 have y0:=h1.cell 0 rfl
 by_cases h0:a=0
 ·subst h0
  clear h h1 ha
  go_enter func144,ntmps144
  go_wp2_with fail
  go_ret
  exact ⟨rfl,rfl⟩
 ·have HE:Hid (P7 a=4):=by rw [Hid,P7,if_neg h0]
  have hz:(a==0)=false:=by simpa using h0
  rw [HE.out]
  by_cases h2:a<0
  ·have d2:decide (a<0)=true:=decide_eq_true h2
   clear h h1 ha h0 h2 HE
   go_enter func144,ntmps144
   go_wp2_with fail
   go_ret
   exact ⟨rfl,rfl⟩
  ·have d2:decide (a<0)=false:=decide_eq_false h2
   have d3:decide ((A.length:Int)<a)=true:=decide_eq_true (ha.resolve_left (by omega))
   clear h h1 ha h0 h2 HE
   go_enter func144,ntmps144
   go_wp2_with fail
   go_ret
   exact ⟨rfl,rfl⟩
theorem Eh (h:dH w R X A) (p:Nat) (hp:p<A.length):Calls ay 99 #[aj R,ah ((p:Int)+1)] w fun e w'=>e = .returned (.tuple #[.int .u64 (A.getD p 0:Nat),ah 0])/\dH w' R X A/\Keep (only R) w w':=by
 obtain ⟨W1,hW1⟩:∃ W',W'=(w.alloc (.cells #[aj R] 96)).alloc (.cells #[.int .u64 0] 146):=⟨_,rfl⟩
 have hk1:Keep none_ w W1:=by rw [hW1];exact ((Keep.refl _ _).alloc _).alloc _
 have hq:aA W1 w.heap.size [aj R] 96:=by rw [hW1];exact (aA.new w _ _).alloc _
 have ho:aA W1 (w.heap.size+1) [.int .u64 0] 146:=by
  rw [hW1]
  have h:=aA.new (w.alloc (.cells #[aj R] 96)) [.int .u64 0] 146
  rw [World.size_alloc] at h
  exact h
 have hA:=h.still hk1
 obtain ⟨ld,st,hR⟩:=hA.blk
 have hRl:R<w.heap.size:=by obtain ⟨_,_,h⟩:=h.blk;exact h.lt
 have hXl:X<w.heap.size:=h.lF.lt
 have hc:=Q9 (w:=W1) (R:=R) (X:=X) p (w.heap.size+1) w.heap.size _ ld _ (hA.lF.cell p (Iy hp)) (ho.cell 0 rfl) (ho.free 0) (hq.cell 0 rfl) (hR.cell 1 rfl) (hR.free 1) (by omega) (by omega)
 have HAT:=au (Xu hA p hp (w.heap.size+1) w.heap.size _ hc)
 generalize hx:A.getD p 0=x at *
 clear hc
 go_enter func99,ntmps99
 go_wp2_with fail
 rw [<- hW1]
 refine HAT.out.mono ?_
 rintro e w2 ⟨rfl,ld',hw2⟩
 have YQ:Keep (only (w.heap.size+1)) W1 (W1.setCell ⟨w.heap.size+1,0,none⟩ (.int .u64 (x:Int))):=(Keep.refl _ _).put 0 _
 have hkR:Keep (only R) (W1.setCell ⟨w.heap.size+1,0,none⟩ (.int .u64 (x:Int))) w2:=by rw [hw2];exact (Keep.refl _ _).put 1 _
 have hout:w2.cell? ⟨w.heap.size+1,0,none⟩=some (.int .u64 (x:Int)):=hkR.jM ((ho.set 0 _).cell 0 rfl) (show ¬ (w.heap.size+1=R) by omega)
 have hR2:aA w2 R [.slice (some ⟨X,0,none⟩) A.length A.length,ah ld',ah st] 197:=by
  rw [hw2];exact (YQ.blk hR (by unfold only;omega)).set 1 _
 have hX2:aA w2 X (jf A) 146:=hkR.blk (YQ.blk hA.lF (by unfold only;omega)) (fun e=>hA.ne e.symm)
 have hk12:Keep (fun i=>i=w.heap.size+1\/i=R) W1 w2:=(YQ.mono (fun i _ e=>Or.inl e)).trans (hkR.mono (fun i _ e=>Or.inr e))
 have nN:Hid (dH w2 R X A/\Keep (only R) w w2):=⟨⟨⟨ld',st,hR2⟩,hX2,hA.lt,hA.len⟩,
  (Keep.mono (T:=only R) hk1 (fun _ _ f=>f.elim)).trans' hk12 (fun i hi e=>by rcases e with e|e;(omega);exact e)⟩
 clear YQ hkR hk12 hR2 hX2 hw2 hA hR ho hq hk1 hW1 HAT
 go_wp2_with fail
 go_ret2
 exact ⟨rfl,nN.out⟩
theorem UG (h:dH w R X A) (a:Int) (ha:a<1\/(A.length:Int)<a):Calls ay 99 #[aj R,ah a] w fun e w'=>e = .returned (.tuple #[.int .u64 0,ah (P7 a)])/\Keep none_ w w':=by
 obtain ⟨W1,hW1⟩:∃ W',W'=(w.alloc (.cells #[aj R] 96)).alloc (.cells #[.int .u64 0] 146):=⟨_,rfl⟩
 have hk1:Keep none_ w W1:=by rw [hW1];exact ((Keep.refl _ _).alloc _).alloc _
 have ho:aA W1 (w.heap.size+1) [.int .u64 0] 146:=by
  rw [hW1]
  have h:=aA.new (w.alloc (.cells #[aj R] 96)) [.int .u64 0] 146
  rw [World.size_alloc] at h
  exact h
 have HAT:=au (fun f=>ZP (h.still hk1) a ha f)
 have hout:=ho.cell 0 rfl
 have aJ:=au hk1
 generalize P7 a=ae at *
 clear ho hk1 ha h
 go_enter func99,ntmps99
 go_wp2_with fail
 rw [<- hW1]
 clear hW1
 refine (HAT.out _).mono ?_
 rintro e w2 ⟨rfl,rfl⟩
 go_wp2_with fail
 go_ret2
 exact ⟨rfl,aJ.out⟩
theorem Iz (h:dH w R X A) (p:Nat) (hp:p<A.length) (x:Nat) (hx:x<18446744073709551616):Calls ay 119 #[aj R,ah ((p:Int)+1),.int .u64 (x:Int)] w fun e w'=>e = .returned (ah 0)/\dH w' R X (A.set p x)/\Keep (fun i=>i=R\/i=X) w w':=by
 obtain ⟨W1,hW1⟩:∃ W',W'=(w.alloc (.cells #[aj R] 96)).alloc (.cells #[.int .u64 (x:Int)] 146):=⟨_,rfl⟩
 have hk1:Keep none_ w W1:=by rw [hW1];exact ((Keep.refl _ _).alloc _).alloc _
 have hq:aA W1 w.heap.size [aj R] 96:=by rw [hW1];exact (aA.new w _ _).alloc _
 have ho:aA W1 (w.heap.size+1) [.int .u64 (x:Int)] 146:=by
  rw [hW1]
  have h:=aA.new (w.alloc (.cells #[aj R] 96)) [.int .u64 (x:Int)] 146
  rw [World.size_alloc] at h
  exact h
 have hA:=h.still hk1
 obtain ⟨ld,st,hR⟩:=hA.blk
 have hRl:R<w.heap.size:=by obtain ⟨_,_,h⟩:=h.blk;exact h.lt
 have hXl:X<w.heap.size:=h.lF.lt
 have Lh:=h.ne
 have hc:=OL (w:=W1) (R:=R) (X:=X) p (w.heap.size+1) w.heap.size (x:Int) st _ (hA.lF.cell p (Iy hp)) (hA.lF.free p) (ho.cell 0 rfl) (hq.cell 0 rfl) (hR.cell 2 rfl) (hR.free 2) (by omega) Lh
 have HAT:=au (UF hA p hp (w.heap.size+1) w.heap.size _ hc)
 have HX:=au hx
 clear hc hx
 go_enter func119,ntmps119
 go_wp2_with fail
 rw [<- hW1]
 refine HAT.out.mono ?_
 rintro e w2 ⟨rfl,st',hw2⟩
 have hkX:Keep (only X) W1 (W1.setCell ⟨X,p,none⟩ (.int .u64 (x:Int))):=(Keep.refl _ _).put p _
 have hkR:Keep (only R) (W1.setCell ⟨X,p,none⟩ (.int .u64 (x:Int))) w2:=by rw [hw2];exact (Keep.refl _ _).put 2 _
 have hR2:aA w2 R [.slice (some ⟨X,0,none⟩) A.length A.length,ah ld,ah st'] 197:=by
  rw [hw2];exact (hkX.blk hR Lh).set 2 _
 have hX2:aA w2 X ((jf A).set p (.int .u64 (x:Int))) 146:=hkR.blk (hA.lF.set p _) (fun e=>Lh e.symm)
 have hk12:Keep (fun i=>i=R\/i=X) W1 w2:=(hkX.mono (fun i _ e=>Or.inr e)).trans (hkR.mono (fun i _ e=>Or.inl e))
 have nN:Hid (dH w2 R X (A.set p x)/\Keep (fun i=>i=R\/i=X) w w2):=by
  refine ⟨⟨⟨ld,st',by rw [List.length_set];exact hR2⟩,by rw [Q8];exact hX2,fun y hy=>?_,by rw [List.length_set];exact hA.len⟩,(Keep.mono hk1 (fun _ _ f=>f.elim)).trans hk12⟩
  rcases List.mem_or_eq_of_mem_set hy with h|rfl
  ·exact hA.lt y h
  ·exact HX.out
 clear hkX hkR hk12 hR2 hX2 hw2 hA hR ho hq hk1 hW1 HAT
 go_wp2_with fail
 go_ret
 exact ⟨rfl,nN.out⟩
end
end
end Go.Proofs.YtanfphjoebobaaaGreatDoor
