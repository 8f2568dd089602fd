/- Parts of the iy. No conditions. -/
import Derived.Test.YtanfphjoebobaaaGreatDoorZzfm
namespace Go.Proofs.YtanfphjoebobaaaGreatDoor
open _root_.Go.Proofs.Tryz hiding prog
open _root_.Go.Proofs.Tryz renaming prog->aA
set_option maxRecDepth 100000
set_option maxHeartbeats 4000000
section
attribute [local go_sem] Oper.semAt_some
open Go.RowKit
theorem dK.rJ {o:Ow} {w:World} {C:Nat} {d:CD} {v:Value} (h:dK o w C d v):v = .nilFunc\/∃ fn first caps,v = .func (.func fn) first caps:=by
 rcases h.form with ⟨_,h⟩|⟨_,h⟩
 ·exact .inl h
 ·exact .inr h
section
variable {o:Ow} {w w':World}
theorem G9 (hf:kJ o w) (C:Nat) (m:Nat) {t:CD} {tv:Value} (ht:dK o w C t tv):Calls aA 121 #[au C,ah (m:Int),tv] w fun e w'=>∃ nv,e = .returned nv/\dK o w' C (.dJ m t) nv/\aj aB w w':=by
 have hn:=kQ (o:=o) [([aJ C],30),([ah (m:Int)],3),([tv],88)] w hf
 have HE:Hid (dK o (eG w [([aJ C],30),([ah (m:Int)],3),([tv],88)]) C (.dJ m t) (.func (.func 166) #[] #[aJ (w.heap.size),aJ (w.heap.size+1),aJ (w.heap.size+1+1)])/\aj aB w (eG w [([aJ C],30),([ah (m:Int)],3),([tv],88)])):=by
  obtain ⟨b0,b1,b2,e,⟨o0,k0⟩,⟨o1,k1⟩,⟨o2,k2⟩⟩:=caps3 hn.1
  simp only [vY,List.cons.injEq] at e
  obtain ⟨rfl,rfl,rfl,_⟩:=e
  exact ⟨⟨tv,ht.still hn.2,[w.heap.size,w.heap.size+1,w.heap.size+1+1],rfl,_,_,rfl,o0,k0,_,_,rfl,o1,k1,_,_,rfl,o2,k2,rfl⟩,hn.2⟩
 have hmf:=mV
 have hform:=ht.rJ
 clear hn hf ht
 rcases hform with rfl|⟨fn,first,caps,rfl⟩
 all_goals
  go_enter func121,ntmps121
  go_wp2_with fail
  go_ret
  exact ⟨_,rfl,HE.out.1,HE.out.2⟩
theorem He (hf:kJ o w) (C:Nat) (v:Nat) {t:CD} {tv:Value} (ht:dK o w C t tv):Calls aA 210 #[au C,ah (v:Int),tv] w fun e w'=>∃ nv,e = .returned nv/\dK o w' C (fC v t) nv/\aj aB w w':=by
 have hn:=kQ (o:=o) [([aJ C],30),([ah (v:Int)],3),([tv],88)] w hf
 have HE:Hid (dK o (eG w [([aJ C],30),([ah (v:Int)],3),([tv],88)]) C (.lC v t) (.func (.func 244) #[] #[aJ (w.heap.size),aJ (w.heap.size+1),aJ (w.heap.size+1+1)])/\aj aB w (eG w [([aJ C],30),([ah (v:Int)],3),([tv],88)])):=by
  obtain ⟨b0,b1,b2,e,⟨o0,k0⟩,⟨o1,k1⟩,⟨o2,k2⟩⟩:=caps3 hn.1
  simp only [vY,List.cons.injEq] at e
  obtain ⟨rfl,rfl,rfl,_⟩:=e
  exact ⟨⟨tv,ht.still hn.2,[w.heap.size,w.heap.size+1,w.heap.size+1+1],rfl,_,_,rfl,o0,k0,_,_,rfl,o1,k1,_,_,rfl,o2,k2,rfl⟩,hn.2⟩
 have hmf:=mV
 by_cases hs:v=0
 ·have HS:Hid (dK o (eG w [([aJ C],30),([ah (v:Int)],3),([tv],88)]) C (fC v t) tv/\aj aB w (eG w [([aJ C],30),([ah (v:Int)],3),([tv],88)])):=⟨by unfold fC;rw [aZ hs];exact ht.still hn.2,hn.2⟩
  have d0:(((v:Nat):Int)==0)=true:=by rw [hs];rfl
  clear hs
  have hform:=ht.rJ
  clear hn hf ht HE
  rcases hform with rfl|⟨fn,first,caps,rfl⟩
  all_goals
   go_enter func210,ntmps210
   go_wp2_with fail
   go_ret
   exact ⟨_,rfl,HS.out.1,HS.out.2⟩
 ·have HS:Hid (dK o (eG w [([aJ C],30),([ah (v:Int)],3),([tv],88)]) C (fC v t) (.func (.func 244) #[] #[aJ (w.heap.size),aJ (w.heap.size+1),aJ (w.heap.size+1+1)])/\aj aB w (eG w [([aJ C],30),([ah (v:Int)],3),([tv],88)])):=⟨by unfold fC;rw [aT hs];exact HE.out.1,hn.2⟩
  have d0:((v:Int)==0)=false:=by simp;omega
  clear hs
  have hform:=ht.rJ
  clear hn hf ht HE
  rcases hform with rfl|⟨fn,first,caps,rfl⟩
  all_goals
   go_enter func210,ntmps210
   go_wp2_with fail
   go_ret
   exact ⟨_,rfl,HS.out.1,HS.out.2⟩
theorem O0 {c:CS} (hf:kJ o w) (C:Nat) (i:Nat) (hc:w.cell? ⟨C,3,none⟩=some (ah (c.cells:Int))):Calls aA 168 #[au C,ah (i:Int)] w fun e w'=>∃ nv,e = .returned nv/\dK o w' C (c.iI i) nv/\aj aB w w':=by
 have hn:=kQ (o:=o) [([aJ C],30),([ah (i:Int)],3)] w hf
 have HE:Hid (dK o (eG w [([aJ C],30),([ah (i:Int)],3)]) C (.cell i) (.func (.func 209) #[] #[aJ (w.heap.size),aJ (w.heap.size+1)])/\aj aB w (eG w [([aJ C],30),([ah (i:Int)],3)])):=by
  obtain ⟨b0,b1,e,⟨o0,k0⟩,⟨o1,k1⟩⟩:=caps2 hn.1
  simp only [vY,List.cons.injEq] at e
  obtain ⟨rfl,rfl,_⟩:=e
  exact ⟨⟨[w.heap.size,w.heap.size+1],rfl,_,_,rfl,o0,k0,_,_,rfl,o1,k1,rfl⟩,hn.2⟩
 have hmf:=mV
 have hcc:∀ x0 x1,((w.alloc x0).alloc x1).cell? ⟨C,3,none⟩=some (ah (c.cells:Int)):=fun x0 x1=>(((aj.refl aB w).alloc x0).alloc x1).still hc
 by_cases hs:i=c.cells
 ·have HS:Hid (dK o (eG w [([aJ C],30),([ah (i:Int)],3)]) C (c.iI i) (sQ 208 C)/\aj aB w (eG w [([aJ C],30),([ah (i:Int)],3)])):=⟨by unfold CS.iI;rw [aZ hs];rfl,hn.2⟩
  have d0:((i:Int)==(c.cells:Int))=true:=by simp;omega
  generalize c.cells=cc at *
  clear hs
  clear hn hf HE hc
  go_enter func168,ntmps168
  go_wp2_with fail
  go_quiet (fail)
  go_wp2_with fail
  go_ret
  exact ⟨_,rfl,HS.out.1.still ((aj.refl aB _).drewN _),HS.out.2.trans ((aj.refl aB _).drewN _)⟩
 ·have HS:Hid (dK o (eG w [([aJ C],30),([ah (i:Int)],3)]) C (c.iI i) (.func (.func 209) #[] #[aJ (w.heap.size),aJ (w.heap.size+1)])/\aj aB w (eG w [([aJ C],30),([ah (i:Int)],3)])):=⟨by unfold CS.iI;rw [aT hs];exact HE.out.1,hn.2⟩
  have d0:((i:Int)==(c.cells:Int))=false:=by simp;omega
  generalize c.cells=cc at *
  clear hs
  clear hn hf HE hc
  go_enter func168,ntmps168
  go_wp2_with fail
  go_quiet (fail)
  go_wp2_with fail
  go_ret
  exact ⟨_,rfl,HS.out.1.still ((aj.refl aB _).drewN _),HS.out.2.trans ((aj.refl aB _).drewN _)⟩
theorem Eh (hf:kJ o w) (C:Nat) (a:Nat) {t:CD} {tv:Value} (ht:dK o w C t tv):Calls aA 242 #[au C,ah (a:Int),tv] w fun e w'=>∃ nv,e = .returned nv/\dK o w' C (.iD a t) nv/\aj aB w w':=by
 have hn:=kQ (o:=o) [([aJ C],30),([ah (a:Int)],3),([tv],88)] w hf
 have HE:Hid (dK o (eG w [([aJ C],30),([ah (a:Int)],3),([tv],88)]) C (.iD a t) (.func (.func 256) #[] #[aJ (w.heap.size),aJ (w.heap.size+1),aJ (w.heap.size+1+1)])/\aj aB w (eG w [([aJ C],30),([ah (a:Int)],3),([tv],88)])):=by
  obtain ⟨b0,b1,b2,e,⟨o0,k0⟩,⟨o1,k1⟩,⟨o2,k2⟩⟩:=caps3 hn.1
  simp only [vY,List.cons.injEq] at e
  obtain ⟨rfl,rfl,rfl,_⟩:=e
  exact ⟨⟨tv,ht.still hn.2,[w.heap.size,w.heap.size+1,w.heap.size+1+1],rfl,_,_,rfl,o0,k0,_,_,rfl,o1,k1,_,_,rfl,o2,k2,rfl⟩,hn.2⟩
 have hmf:=mV
 have hform:=ht.rJ
 clear hn hf ht
 rcases hform with rfl|⟨fn,first,caps,rfl⟩
 all_goals
  go_enter func242,ntmps242
  go_wp2_with fail
  go_ret
  exact ⟨_,rfl,HE.out.1,HE.out.2⟩
theorem LK (hf:kJ o w) (C:Nat) (a:Nat) (i:Nat) (n:Nat) {t:CD} {tv:Value} (ht:dK o w C t tv):Calls aA 257 #[au C,ah (a:Int),ah (i:Int),ah (n:Int),tv] w fun e w'=>∃ nv,e = .returned nv/\dK o w' C (fA a i n t) nv/\aj aB w w':=by
 have hn:=kQ (o:=o) [([aJ C],30),([ah (a:Int)],3),([ah (i:Int)],3),([ah (n:Int)],3),([tv],88)] w hf
 have HE:Hid (dK o (eG w [([aJ C],30),([ah (a:Int)],3),([ah (i:Int)],3),([ah (n:Int)],3),([tv],88)]) C (.field a i n t) (.func (.func 271) #[] #[aJ (w.heap.size),aJ (w.heap.size+1),aJ (w.heap.size+1+1),aJ (w.heap.size+1+1+1),aJ (w.heap.size+1+1+1+1)])/\aj aB w (eG w [([aJ C],30),([ah (a:Int)],3),([ah (i:Int)],3),([ah (n:Int)],3),([tv],88)])):=by
  obtain ⟨b0,b1,b2,b3,b4,e,⟨o0,k0⟩,⟨o1,k1⟩,⟨o2,k2⟩,⟨o3,k3⟩,⟨o4,k4⟩⟩:=caps5 hn.1
  simp only [vY,List.cons.injEq] at e
  obtain ⟨rfl,rfl,rfl,rfl,rfl,_⟩:=e
  exact ⟨⟨tv,ht.still hn.2,[w.heap.size,w.heap.size+1,w.heap.size+1+1,w.heap.size+1+1+1,w.heap.size+1+1+1+1],rfl,_,_,rfl,o0,k0,_,_,rfl,o1,k1,_,_,rfl,o2,k2,_,_,rfl,o3,k3,_,_,rfl,o4,k4,rfl⟩,hn.2⟩
 have hmf:=mV
 by_cases hs:i=n
 ·have HS:Hid (dK o (eG w [([aJ C],30),([ah (a:Int)],3),([ah (i:Int)],3),([ah (n:Int)],3),([tv],88)]) C (fA a i n t) tv/\aj aB w (eG w [([aJ C],30),([ah (a:Int)],3),([ah (i:Int)],3),([ah (n:Int)],3),([tv],88)])):=⟨by unfold fA;rw [aZ hs];exact ht.still hn.2,hn.2⟩
  have d0:((i:Int)==(n:Int))=true:=by simp;omega
  clear hs
  have hform:=ht.rJ
  clear hn hf ht HE
  rcases hform with rfl|⟨fn,first,caps,rfl⟩
  all_goals
   go_enter func257,ntmps257
   go_wp2_with fail
   go_ret
   exact ⟨_,rfl,HS.out.1,HS.out.2⟩
 ·have HS:Hid (dK o (eG w [([aJ C],30),([ah (a:Int)],3),([ah (i:Int)],3),([ah (n:Int)],3),([tv],88)]) C (fA a i n t) (.func (.func 271) #[] #[aJ (w.heap.size),aJ (w.heap.size+1),aJ (w.heap.size+1+1),aJ (w.heap.size+1+1+1),aJ (w.heap.size+1+1+1+1)])/\aj aB w (eG w [([aJ C],30),([ah (a:Int)],3),([ah (i:Int)],3),([ah (n:Int)],3),([tv],88)])):=⟨by unfold fA;rw [aT hs];exact HE.out.1,hn.2⟩
  have d0:((i:Int)==(n:Int))=false:=by simp;omega
  clear hs
  have hform:=ht.rJ
  clear hn hf ht HE
  rcases hform with rfl|⟨fn,first,caps,rfl⟩
  all_goals
   go_enter func257,ntmps257
   go_wp2_with fail
   go_ret
   exact ⟨_,rfl,HS.out.1,HS.out.2⟩
theorem JY (hf:kJ o w) (C:Nat) (m:Nat):Calls aA 243 #[au C,ah (m:Int)] w fun e w'=>∃ nv,e = .returned nv/\dK o w' C (.box m) nv/\aj aB w w':=by
 have hn:=kQ (o:=o) [([aJ C],30),([ah (m:Int)],3)] w hf
 have HE:Hid (dK o (eG w [([aJ C],30),([ah (m:Int)],3)]) C (.box m) (.func (.func 258) #[] #[aJ (w.heap.size),aJ (w.heap.size+1)])/\aj aB w (eG w [([aJ C],30),([ah (m:Int)],3)])):=by
  obtain ⟨b0,b1,e,⟨o0,k0⟩,⟨o1,k1⟩⟩:=caps2 hn.1
  simp only [vY,List.cons.injEq] at e
  obtain ⟨rfl,rfl,_⟩:=e
  exact ⟨⟨[w.heap.size,w.heap.size+1],rfl,_,_,rfl,o0,k0,_,_,rfl,o1,k1,rfl⟩,hn.2⟩
 have hmf:=mV
 clear hn hf
 go_enter func243,ntmps243
 go_wp2_with fail
 go_ret
 exact ⟨_,rfl,HE.out.1,HE.out.2⟩
theorem O1 {c:CS} (hf:kJ o w) (C:Nat) (b:Nat) (hc:w.cell? ⟨C,2,none⟩=some (ah (c.dU:Int))):Calls aA 275 #[au C,ah (b:Int)] w fun e w'=>∃ nv,e = .returned nv/\dK o w' C (c.iL b) nv/\aj aB w w':=by
 have hn:=kQ (o:=o) [([aJ C],30),([ah (b:Int)],3)] w hf
 have HE:Hid (dK o (eG w [([aJ C],30),([ah (b:Int)],3)]) C (.iy b) (.func (.func 285) #[] #[aJ (w.heap.size),aJ (w.heap.size+1)])/\aj aB w (eG w [([aJ C],30),([ah (b:Int)],3)])):=by
  obtain ⟨b0,b1,e,⟨o0,k0⟩,⟨o1,k1⟩⟩:=caps2 hn.1
  simp only [vY,List.cons.injEq] at e
  obtain ⟨rfl,rfl,_⟩:=e
  exact ⟨⟨[w.heap.size,w.heap.size+1],rfl,_,_,rfl,o0,k0,_,_,rfl,o1,k1,rfl⟩,hn.2⟩
 have hmf:=mV
 have hcc:∀ x0 x1,((w.alloc x0).alloc x1).cell? ⟨C,2,none⟩=some (ah (c.dU:Int)):=fun x0 x1=>(((aj.refl aB w).alloc x0).alloc x1).still hc
 by_cases hs:b=c.dU
 ·have HS:Hid (dK o (eG w [([aJ C],30),([ah (b:Int)],3)]) C (c.iL b) (sQ 208 C)/\aj aB w (eG w [([aJ C],30),([ah (b:Int)],3)])):=⟨by unfold CS.iL;rw [aZ hs];rfl,hn.2⟩
  have d0:((b:Int)==(c.dU:Int))=true:=by simp;omega
  generalize c.dU=cc at *
  clear hs
  clear hn hf HE hc
  go_enter func275,ntmps275
  go_wp2_with fail
  go_quiet (fail)
  go_wp2_with fail
  go_ret
  exact ⟨_,rfl,HS.out.1.still ((aj.refl aB _).drewN _),HS.out.2.trans ((aj.refl aB _).drewN _)⟩
 ·have HS:Hid (dK o (eG w [([aJ C],30),([ah (b:Int)],3)]) C (c.iL b) (.func (.func 285) #[] #[aJ (w.heap.size),aJ (w.heap.size+1)])/\aj aB w (eG w [([aJ C],30),([ah (b:Int)],3)])):=⟨by unfold CS.iL;rw [aT hs];exact HE.out.1,hn.2⟩
  have d0:((b:Int)==(c.dU:Int))=false:=by simp;omega
  generalize c.dU=cc at *
  clear hs
  clear hn hf HE hc
  go_enter func275,ntmps275
  go_wp2_with fail
  go_quiet (fail)
  go_wp2_with fail
  go_ret
  exact ⟨_,rfl,HS.out.1.still ((aj.refl aB _).drewN _),HS.out.2.trans ((aj.refl aB _).drewN _)⟩
theorem C9 {c:CS} (hf:kJ o w) (C:Nat) (b:Nat) (hc:w.cell? ⟨C,2,none⟩=some (ah (c.dU:Int))):Calls aA 289 #[au C,ah (b:Int)] w fun e w'=>∃ nv,e = .returned nv/\dK o w' C (c.lW b) nv/\aj aB w w':=by
 have hn:=kQ (o:=o) [([aJ C],30),([ah (b:Int)],3)] w hf
 have HE:Hid (dK o (eG w [([aJ C],30),([ah (b:Int)],3)]) C (.iJ b) (.func (.func 293) #[] #[aJ (w.heap.size),aJ (w.heap.size+1)])/\aj aB w (eG w [([aJ C],30),([ah (b:Int)],3)])):=by
  obtain ⟨b0,b1,e,⟨o0,k0⟩,⟨o1,k1⟩⟩:=caps2 hn.1
  simp only [vY,List.cons.injEq] at e
  obtain ⟨rfl,rfl,_⟩:=e
  exact ⟨⟨[w.heap.size,w.heap.size+1],rfl,_,_,rfl,o0,k0,_,_,rfl,o1,k1,rfl⟩,hn.2⟩
 have hmf:=mV
 have hcc:∀ x0 x1,((w.alloc x0).alloc x1).cell? ⟨C,2,none⟩=some (ah (c.dU:Int)):=fun x0 x1=>(((aj.refl aB w).alloc x0).alloc x1).still hc
 by_cases hs:b=c.dU
 ·have HS:Hid (dK o (eG w [([aJ C],30),([ah (b:Int)],3)]) C (c.lW b) (sQ 292 C)/\aj aB w (eG w [([aJ C],30),([ah (b:Int)],3)])):=⟨by unfold CS.lW;rw [aZ hs];rfl,hn.2⟩
  have d0:((b:Int)==(c.dU:Int))=true:=by simp;omega
  generalize c.dU=cc at *
  clear hs
  clear hn hf HE hc
  go_enter func289,ntmps289
  go_wp2_with fail
  go_quiet (fail)
  go_wp2_with fail
  go_ret
  exact ⟨_,rfl,HS.out.1.still ((aj.refl aB _).drewN _),HS.out.2.trans ((aj.refl aB _).drewN _)⟩
 ·have HS:Hid (dK o (eG w [([aJ C],30),([ah (b:Int)],3)]) C (c.lW b) (.func (.func 293) #[] #[aJ (w.heap.size),aJ (w.heap.size+1)])/\aj aB w (eG w [([aJ C],30),([ah (b:Int)],3)])):=⟨by unfold CS.lW;rw [aT hs];exact HE.out.1,hn.2⟩
  have d0:((b:Int)==(c.dU:Int))=false:=by simp;omega
  generalize c.dU=cc at *
  clear hs
  clear hn hf HE hc
  go_enter func289,ntmps289
  go_wp2_with fail
  go_quiet (fail)
  go_wp2_with fail
  go_ret
  exact ⟨_,rfl,HS.out.1.still ((aj.refl aB _).drewN _),HS.out.2.trans ((aj.refl aB _).drewN _)⟩
theorem LM (hf:kJ o w) (C:Nat)  {t:CD} {tv:Value} (ht:dK o w C t tv) {l:List Nat} {la:Option Addr} {lc:Nat} (hr:dH o w 3 (.slice la l.length lc) (aS l)):Calls aA 286 #[au C,.slice la l.length lc,tv] w fun e w'=>∃ nv,e = .returned nv/\dK o w' C (gX l t) nv/\aj aB w w':=by
 have hn:=kQ (o:=o) [([aJ C],30),([.slice la l.length lc],32),([tv],88)] w hf
 have HE:Hid (dK o (eG w [([aJ C],30),([.slice la l.length lc],32),([tv],88)]) C (.bH l t) (.func (.func 290) #[] #[aJ (w.heap.size),aJ (w.heap.size+1),aJ (w.heap.size+1+1)])/\aj aB w (eG w [([aJ C],30),([.slice la l.length lc],32),([tv],88)])):=by
  obtain ⟨b0,b1,b2,e,⟨o0,k0⟩,⟨o1,k1⟩,⟨o2,k2⟩⟩:=caps3 hn.1
  simp only [vY,List.cons.injEq] at e
  obtain ⟨rfl,rfl,rfl,_⟩:=e
  exact ⟨⟨tv,_,ht.still hn.2,hr.still hn.2,[w.heap.size,w.heap.size+1,w.heap.size+1+1],rfl,_,_,rfl,o0,k0,_,_,rfl,o1,k1,_,_,rfl,o2,k2,rfl⟩,hn.2⟩
 have hmf:=mV
 by_cases hs:l=[]
 ·have HS:Hid (dK o (eG w [([aJ C],30),([.slice la l.length lc],32),([tv],88)]) C (gX l t) tv/\aj aB w (eG w [([aJ C],30),([.slice la l.length lc],32),([tv],88)])):=⟨by unfold gX;rw [aZ hs];exact ht.still hn.2,hn.2⟩
  have d0:((l.length:Int)==0)=true:=by rw [hs];rfl
  generalize l.length=ll at *
  clear hs
  have hform:=ht.rJ
  clear hn hf ht HE hr
  rcases hform with rfl|⟨fn,first,caps,rfl⟩
  all_goals
   go_enter func286,ntmps286
   go_wp2_with fail
   go_ret
   exact ⟨_,rfl,HS.out.1,HS.out.2⟩
 ·have HS:Hid (dK o (eG w [([aJ C],30),([.slice la l.length lc],32),([tv],88)]) C (gX l t) (.func (.func 290) #[] #[aJ (w.heap.size),aJ (w.heap.size+1),aJ (w.heap.size+1+1)])/\aj aB w (eG w [([aJ C],30),([.slice la l.length lc],32),([tv],88)])):=⟨by unfold gX;rw [aT hs];exact HE.out.1,hn.2⟩
  have hlp:=List.length_pos_iff.2 hs
  have d0:((l.length:Int)==0)=false:=by simp;omega
  clear hs hlp
  generalize l.length=ll at *
  have hform:=ht.rJ
  clear hn hf ht HE hr
  rcases hform with rfl|⟨fn,first,caps,rfl⟩
  all_goals
   go_enter func286,ntmps286
   go_wp2_with fail
   go_ret
   exact ⟨_,rfl,HS.out.1,HS.out.2⟩
theorem LQ (hf:kJ o w) (C:Nat)  {t:CD} {tv:Value} (ht:dK o w C t tv):Calls aA 291 #[au C,tv] w fun e w'=>∃ nv,e = .returned nv/\dK o w' C (.ig t) nv/\aj aB w w':=by
 have hn:=kQ (o:=o) [([aJ C],30),([tv],88)] w hf
 have HE:Hid (dK o (eG w [([aJ C],30),([tv],88)]) C (.ig t) (.func (.func 295) #[] #[aJ (w.heap.size),aJ (w.heap.size+1)])/\aj aB w (eG w [([aJ C],30),([tv],88)])):=by
  obtain ⟨b0,b1,e,⟨o0,k0⟩,⟨o1,k1⟩⟩:=caps2 hn.1
  simp only [vY,List.cons.injEq] at e
  obtain ⟨rfl,rfl,_⟩:=e
  exact ⟨⟨tv,ht.still hn.2,[w.heap.size,w.heap.size+1],rfl,_,_,rfl,o0,k0,_,_,rfl,o1,k1,rfl⟩,hn.2⟩
 have hmf:=mV
 have hform:=ht.rJ
 clear hn hf ht
 rcases hform with rfl|⟨fn,first,caps,rfl⟩
 all_goals
  go_enter func291,ntmps291
  go_wp2_with fail
  go_ret
  exact ⟨_,rfl,HE.out.1,HE.out.2⟩
end
end
section
attribute [local go_sem ↓] nD
attribute [local go_sem] Oper.semAt_some
open Go.RowKit
theorem NR:∀ args w,(callFunc 270 args).run aA w = .ok (.enter 270 args) w:=fun args w=>by simp [callFunc,func270,go_sem];rfl
theorem LU:∀ args w,(callFunc 262 args).run aA w = .ok (.enter 262 args) w:=fun args w=>by simp [callFunc,func262,go_sem];rfl
theorem LV:∀ args w,(callFunc 282 args).run aA w = .ok (.enter 282 args) w:=fun args w=>by simp [callFunc,func282,go_sem];rfl
theorem O3 (K fn:Nat) (caps:Array Value) (hcf:∀ args w,(callFunc fn args).run aA w = .ok (.enter fn args) w) (w:World) (R:Bool->World->Prop) (h:Calls aA fn caps w fun e w'=>∃ b,e = .returned (.bool b)/\R b w') :
 Calls aA 261 #[au K,.func (.func fn) #[] caps] w fun e w'=>∃ b,e = .returned (.bool b)/\R b w':=by
 have H:=ay h
 clear h
 go_enter func261,ntmps261
 go_wp2_with fail
 refine H.out.mono ?_
 rintro e w1 ⟨b,rfl,hr⟩
 have HR:=ay hr
 clear hr H
 go_wp2_with fail
 go_ret
 exact ⟨b,rfl,HR.out⟩
theorem aae (K fn:Nat) (caps:Array Value) (hcf:∀ args w,(callFunc fn args).run aA w = .ok (.enter fn args) w) (w:World) (R:Int->World->Prop) (h:Calls aA fn caps w fun e w'=>∃ b,e = .returned (ah b)/\R b w') :
 Calls aA 269 #[au K,.func (.func fn) #[] caps] w fun e w'=>∃ b,e = .returned (ah b)/\R b w':=by
 have H:=ay h
 clear h
 go_enter func269,ntmps269
 go_wp2_with fail
 refine H.out.mono ?_
 rintro e w1 ⟨b,rfl,hr⟩
 have HR:=ay hr
 clear hr H
 go_wp2_with fail
 go_ret
 exact ⟨b,rfl,HR.out⟩
section
variable {o:Ow} {w w':World} {K room:Nat} {ov:Bool} {l:List Nat}
theorem jS.still (h:jS o w K room ov l) (k:aj aB w w'):jS o w' K room ov l:=by
 obtain ⟨v,h1,h2,h3⟩:=h
 exact ⟨v,k.aH h1 (fun f=>f),bY h2 k,h3⟩
theorem jS.form (h:jS o w K room ov l):∃ a c,w.cell? ⟨K,0,none⟩=some (.slice a l.length c):=by
 obtain ⟨v,h1,h2,h3⟩:=h
 obtain ⟨a,c,rfl,_⟩:=gy h2
 exact ⟨a,c,h1.cell 0 rfl⟩
theorem Vs (h:jS o w K room ov l) (b:Nat) (hb:aF w b [au K] 86):Calls aA 270 #[au b] w fun e w'=>e = .returned (ah (l.length:Int))/\w=w':=by
 obtain ⟨a,c,y0⟩:=h.form
 have z0:=hb.cell 0 rfl
 generalize l.length=n at *
 clear h hb
 go_enter func270,ntmps270
 go_wp2_with fail
 go_ret
 exact ⟨rfl,rfl⟩
theorem FK (h:jS o w K room ov l):Calls aA 255 #[au K] w fun e w'=>e = .returned (ah (l.length:Int))/\aj aB w w':=by
 obtain ⟨W0,hW0⟩:∃ W',W'=w.alloc (.cells #[au K] 86):=⟨_,rfl⟩
 have hk:aj aB w W0:=by rw [hW0];exact (aj.refl _ _).alloc _
 have hb:aF W0 w.heap.size [au K] 86:=by rw [hW0];exact aF.bC w _ _
 have HC:=ay (aae K 270 #[au w.heap.size] NR W0 (fun b w'=>b=(l.length:Int)/\W0=w') ((Vs (h.still hk) w.heap.size hb).mono (fun e w' ⟨h1,h2⟩=>⟨_,h1,rfl,h2⟩)))
 have HK:=ay hk
 have HW:=ay hW0
 have z0:=hb.cell 0 rfl
 have hmf:=mV
 clear h hk hb hW0
 go_enter func255,ntmps255
 go_wp2_with fail
 rw [<- HW.out]
 go_wp2_with fail
 refine HC.out.mono ?_
 rintro e w1 ⟨b,rfl,rfl,rfl⟩
 go_wp2_with fail
 go_ret
 exact ⟨rfl,HK.out⟩
theorem X9 (h:jS o w K room ov []):Calls aA 241 #[au K] w fun e w'=>e = .returned (.tuple #[ah 0,.bool false])/\aj aB w w':=by
 have HL:Hid (Calls aA 255 #[au K] w fun e w'=>e = .returned (ah 0)/\aj aB w w'):=FK h
 clear h
 go_enter func241,ntmps241
 go_wp2_with fail
 refine HL.out.mono ?_
 rintro e w1 ⟨rfl,k1⟩
 have HK:=ay k1
 clear k1 HL
 go_wp2_with fail
 go_ret2
 exact ⟨rfl,HK.out⟩
theorem SA {bP g c n:Nat} {T:TypeId} {xs:List Value} {x:Value} (h:w.ownsRow bP T 1 (.slice (some ⟨g,0,none⟩) (n+1) c) (n+1) (xs++[x])):w.ownsRow bP T 1 (.slice (some ⟨g,0,none⟩) n c) n xs:=by
 obtain ⟨h1,h2⟩:=h
 rcases h2 with ⟨h2,_⟩|⟨g',c',cur,h2,h3,h4,h5,h6,h7,h8⟩
 ·cases h2
 ·cases h2
  have hl:xs.length=n:=by simp at h1;omega
  refine ⟨by omega,.inr ⟨g,c,cur,rfl,h3,h4,by omega,h6,h7,?_⟩⟩
  have e:=congrArg (List.take n) h8
  rw [List.take_take] at e
  rw [show n*1=n by omega,<- show min n ((n+1)*1)=n by omega,e,List.take_append_of_le_length (by omega),List.take_of_length_le (by omega)]
theorem acv {α:Type} (l:List α) (x:α) (h:l.getLast?=some x):l=l.dropLast++[x]:=by
 have hne:l≠[]:=fun e=>by rw [e] at h;cases h
 have h2:=List.getLast?_eq_some_getLast hne
 rw [h] at h2
 injection h2 with h2
 rw [h2]
 exact (List.dropLast_concat_getLast hne).symm
theorem Vt (h:jS o w K room ov l) (hm:l.length<=100000) (x:Nat) (hx:l.getLast?=some x):Calls aA 241 #[au K] w fun e w'=>e = .returned (.tuple #[ah (x:Int),.bool true])/\jS o w' K room ov l.dropLast/\aj (only K) w w':=by
 have HL:=ay (FK h)
 have el:=acv l x hx
 obtain ⟨xs,hxs⟩:∃ xs,xs=l.dropLast:=⟨_,rfl⟩
 rw [<- hxs] at el ⊢
 subst el
 clear hx hxs
 have HS:=ay h
 obtain ⟨n,hn⟩:∃ n,n=xs.length:=⟨_,rfl⟩
 have hlen:(xs++[x]).length=n+1:=by simp [hn]
 rw [hlen] at HL
 have HST:Hid (∀ W,aj aB w W->∃ g c,W.cell? ⟨K,0,none⟩=some (.slice (some ⟨g,0,none⟩) (n+1) c)/\W.cell? ⟨g,n,none⟩=some (ah (x:Int))/\W.frozen? ⟨K,0,none⟩=false/\n+1<=c/\jS o (W.setCell ⟨K,0,none⟩ (.slice (some ⟨g,0,none⟩) n c)) K room ov xs):=fun W hW=>by
  obtain ⟨v,h1,h2,h3⟩:=HS.out.still hW
  have h2':=h2
  rw [hlen] at h2'
  rcases h2'.2 with ⟨_,h4⟩|⟨g,c,cur,rfl,h4,h5,h6,h7,h8,h9⟩
  ·omega
  ·have e:aS (xs++[x])=aS xs++[ah (x:Int)]:=by simp [aS]
   rw [e] at h2'
   have hcell:=h2'.cells (g:=g) rfl n (ah (x:Int)) (by rw [List.getElem?_append_right (by simp [aS,hn])];simp [aS,hn])
   have ea:(⟨g,0,none⟩:Addr).add n=⟨g,n,none⟩:=by simp only [Addr.add];split<;>simp_all
   rw [ea] at hcell
   have hne:g≠K:=fun e=>nC h1 h2 (by decide) (by rw [<- e];rfl)
   refine ⟨g,c,h1.cell 0 rfl,hcell,h1.free 0,h6,.slice (some ⟨g,0,none⟩) n c,h1.set 0 _,?_,fun b hb=>?_⟩
   ·rw [<- hn]
    exact zY (SA h2') (fun b hb=>by simp [Value.ownBlock] at hb;show b≠K;omega) _
   ·exact h3 b hb
 have hnb:n<=100000:=by omega
 have hw1:IntKind.i64.wrap ((n:Int)+1 - 1)=(n:Int):=by rw [show (n:Int)+1 - 1=(n:Int) by omega];exact IntWalk.i64_in _ (by omega)
 have hn0:¬ ((n:Int)<0):=by omega
 have d0:decide ((n:Int)<0)=false:=gJ hn0
 rw [show (((n+1:Nat)):Int)=(n:Int)+1 from by push_cast;rfl] at HL
 clear h HS hlen hn hm
 go_enter func241,ntmps241
 go_wp2_with fail
 refine HL.out.mono ?_
 rintro e w1 ⟨rfl,k1⟩
 obtain ⟨g,c,y0,y1,f0,hc,hst⟩:=HST.out w1 k1
 have hsl:∀ W:World,(Instr.slice 32 (.slice (some ⟨g,0,none⟩) (n+1) c) none (some (ah (n:Int))) none).run aA W = .ok (.slice (some ⟨g,0,none⟩) n c) W:=fun W=>by
  have ht:aA.underlying 32=some (.slice 3):=by kernel_rfl
  have hi:(aA.info? 3).map (·.size)=some 1:=by kernel_rfl
  obtain ⟨i,hi1,hi2⟩:=Option.map_eq_some_iff.1 hi
  have h1:¬ c<n:=by omega
  simp [Instr.slice,run_underlying ht,sizeOf,typeInfo,hi1,go_sem,h1,Addr.add]
 have HE:Hid (jS o (w1.setCell ⟨K,0,none⟩ (.slice (some ⟨g,0,none⟩) n c)) K room ov xs/\aj (only K) w (w1.setCell ⟨K,0,none⟩ (.slice (some ⟨g,0,none⟩) n c))):=⟨hst,(k1.mono (fun _ _ f=>f.elim)).put 0 _⟩
 have hlt:n<n+1:=Nat.lt_succ_self n
 clear hst k1 HL HST
 go_wp2_with fail
 go_ret2
 exact ⟨rfl,HE.out.1,HE.out.2⟩
theorem Vu (h:jS o w K room ov l):Calls aA 273 #[au K] w fun e w'=>e = .returned (.bool ov)/\jS o w' K room false l/\aj (only K) w w':=by
 obtain ⟨W0,hW0⟩:∃ W',W'=w.alloc (.cells #[au K] 86):=⟨_,rfl⟩
 have hk:aj aB w W0:=by rw [hW0];exact (aj.refl _ _).alloc _
 have hb:aF W0 w.heap.size [au K] 86:=by rw [hW0];exact aF.bC w _ _
 have hs0:=h.still hk
 have tV:Hid (Calls aA 282 #[au w.heap.size] W0 fun e w'=>e = .returned (.bool ov)/\jS o w' K room false l/\aj (only K) W0 w'):=by
  obtain ⟨v,h1,h2,h3⟩:=hs0
  have y2:=h1.cell 2 rfl
  have f2:=h1.free 2
  have z0:=hb.cell 0 (v := au K) rfl
  have hne:w.heap.size≠K:=fun e=>by
   rw [e] at hb
   exact absurd (hb.jL h1).2 (by decide)
  have z1:∀ u,(W0.setCell ⟨K,2,none⟩ u).cell? ⟨w.heap.size,0,none⟩=some (au K):=fun u=>(hb.uh (a:=⟨K,2,none⟩) hne u).cell 0 rfl
  have HE:Hid (jS o (W0.setCell ⟨K,2,none⟩ (.bool false)) K room false l/\aj (only K) W0 (W0.setCell ⟨K,2,none⟩ (.bool false))) :=
   ⟨⟨v,h1.set 2 _,gK h2 ((aj.refl (only K) _).put 2 _) (fun b hb e=>nC h1 h2 (by decide) (by rw [hb];exact congrArg some e)),h3⟩,(aj.refl (only K) _).put 2 _⟩
  clear h h1 h2 h3 hk hb hW0 hne
  go_enter func282,ntmps282
  go_wp2_with fail
  go_ret
  exact ⟨rfl,HE.out.1,HE.out.2⟩
 have HC:=ay (O3 K 282 #[au w.heap.size] LV W0 (fun b w'=>b=ov/\jS o w' K room false l/\aj (only K) W0 w') (tV.out.mono (fun e w' ⟨h1,h2⟩=>⟨_,h1,rfl,h2⟩)))
 have HK:=ay hk
 have HW:=ay hW0
 have z0:=hb.cell 0 rfl
 have hmf:=mV
 clear h hk hb hW0 hs0 tV
 go_enter func273,ntmps273
 go_wp2_with fail
 rw [<- HW.out]
 go_wp2_with fail
 refine HC.out.mono ?_
 rintro e w1 ⟨b,rfl,rfl,h1,k1⟩
 have HE:=ay (And.intro h1 ((HK.out.mono (fun _ _ f=>f.elim)).trans k1))
 clear h1 k1 HC
 go_wp2_with fail
 go_ret
 exact ⟨rfl,HE.out.1,HE.out.2⟩
end
section
variable {o:Ow} {w w':World} {K room:Nat} {ov:Bool} {l:List Nat}
def acw (w:World) (K:Nat):Nat->Prop:=fun b=>b=K\/∃ v,w.cell? ⟨K,0,none⟩=some v/\v.ownBlock=some b
theorem Qz (h:jS o w K room ov l) (hf:l.length=room) (x b0 b1:Nat) (hb0:aF w b0 [au K] 86) (hb1:aF w b1 [ah (x:Int)] 3):Calls aA 262 #[au b0,au b1] w fun e w'=>e = .returned (.bool false)/\jS o w' K room true l/\aj (only K) w w':=by
 obtain ⟨v,h1,h2,h3⟩:=h
 obtain ⟨a,c,rfl,_⟩:=gy h2
 have y0:=h1.cell 0 (v := .slice a l.length c) rfl
 have y1:=h1.cell 1 rfl
 have y2:=h1.cell 2 rfl
 have f2:=h1.free 2
 have z0:=hb0.cell 0 (v := au K) rfl
 have z1:=hb1.cell 0 (v := ah (x:Int)) rfl
 have d0:((l.length:Int)==(room:Int))=true:=by simp;omega
 have HE:Hid (∀ V,aj aB w V->V.cell? ⟨b0,0,none⟩=some (au K)/\V.cell? ⟨K,2,none⟩=some (.bool ov)/\V.frozen? ⟨K,2,none⟩=false/\jS o (V.setCell ⟨K,2,none⟩ (.bool true)) K room true l/\aj (only K) w (V.setCell ⟨K,2,none⟩ (.bool true))):=fun V hV=>by
  have g1:=hV.aH h1 (fun f=>f)
  have g2:=bY h2 hV
  exact ⟨(hV.aH hb0 (fun f=>f)).cell 0 rfl,g1.cell 2 rfl,g1.free 2,⟨_,g1.set 2 _,gK g2 ((aj.refl (only K) _).put 2 _) (fun b hb e=>nC g1 g2 (by decide) (by rw [hb];exact congrArg some e)),h3⟩,(hV.mono (fun _ _ f=>f.elim)).put 2 _⟩
 generalize l.length=n at *
 clear h1 h2 h3 hb0 hb1 hf
 go_enter func262,ntmps262
 go_wp2_with fail
 go_quiet (fail)
 have HK:Hid (aj aB w (w.drewN nq)):=(aj.refl _ _).drewN _
 obtain ⟨g0,g1,g2,g3,g4⟩:=HE.out _ HK.out
 have HG:=ay (And.intro g3 g4)
 clear g3 g4 y0 y1 y2 f2 z0 z1 HE HK
 go_wp2_with fail
 go_ret
 exact ⟨rfl,HG.out.1,HG.out.2⟩
theorem QA (h:jS o w K room ov l) (hf:l.length≠room) (hm:l.length<=100000) (hF:kJ o w) (hK:o K=5) (x b0 b1:Nat) (hb0:aF w b0 [au K] 86) (hb1:aF w b1 [ah (x:Int)] 3):Calls aA 262 #[au b0,au b1] w fun e w'=>e = .returned (.bool true)/\∃ o',bZ w o o'/\kJ o' w'/\jS o' w' K room ov (l++[x])/\aj (acw w K) w w':=by
 obtain ⟨v,h1,h2,h3⟩:=h
 obtain ⟨a,c,rfl,_⟩:=gy h2
 have y0:=h1.cell 0 (v := .slice a l.length c) rfl
 have y1:=h1.cell 1 rfl
 have z0:=hb0.cell 0 (v := au K) rfl
 have z1:=hb1.cell 0 (v := ah (x:Int)) rfl
 have d0:((l.length:Int)==(room:Int))=false:=by simp;omega
 have HE:Hid (∀ V,aj aB w V->aF V K [.slice a l.length c,ah (room:Int),.bool ov] 135/\V.ownsRow 0 3 1 (.slice a l.length c) l.length (aS l)/\aF V b0 [au K] 86/\aF V b1 [ah (x:Int)] 3):=fun V hV =>
  ⟨hV.aH h1 (fun f=>f),bY h2 hV,hV.aH hb0 (fun f=>f),hV.aH hb1 (fun f=>f)⟩
 have HO:=ay h3
 have HF:=ay hF
 have HM:=ay hm
 have HKK:=ay hK
 have HY:=ay y0
 obtain ⟨n,hn⟩:∃ n,n=l.length:=⟨_,rfl⟩
 have HN:=ay hn
 rw [<- hn] at y0 d0 HE HM HY HO
 clear h1 h2 h3 hb0 hb1 hf hF hm hK hn
 go_enter func262,ntmps262
 go_wp2_with fail
 go_quiet (fail)
 obtain ⟨V,hV⟩:∃ V,V=w.drewN nq:=⟨_,rfl⟩
 have hk:aj aB w V:=by rw [hV];exact (aj.refl _ _).drewN _
 rw [<- hV]
 clear hV y0 y1 z0 z1 nq
 obtain ⟨g1,g2,g3,g4⟩:=HE.out V hk
 obtain ⟨V1,hV1⟩:∃ V1,V1=(V.alloc (.cells #[ah (x:Int)] 3)).drew:=⟨_,rfl⟩
 have hk1:aj aB V V1:=by rw [hV1];exact ((aj.refl _ _).alloc _).drew
 obtain ⟨g,aO,w5,hrun,hown,hgr,hwh⟩:=uJ (P:=aA) V1 32 32 3 (by kernel_rfl) Tryz.infoInt rfl (bY g2 hk1) (N:=V.heap.size) (u := ah (x:Int)) (by rw [hV1];exact ((aF.bC V _ _).drew).cell 0 rfl) rfl (by decide) (by have:=HM.out;omega)
 have hrun9:(app9 #[32,32] 32 #[.slice a n c,.slice (some ⟨V.heap.size,0,none⟩) 1 1]).run aA (V.alloc (.cells #[ah (x:Int)] 3)).drew = .ok (.slice (some ⟨g,0,none⟩) (n+1) aO) w5:=by rw [<- hV1];exact hrun
 have hne:(Value.slice a n c).ownBlock≠some K:=nC g1 g2 (by decide)
 have k5:aj (fun b=>(Value.slice a n c).ownBlock=some b) w w5:=((hk.trans hk1).mono (fun _ _ f=>f.elim)).trans ⟨hgr.os,hgr.tape,hgr.output,hgr.size,fun k hk' hn=>hgr.block k hk' (fun e=>hn e.symm)⟩
 have hg1':=((hk1.aH g1 (fun f=>f)).qh hgr hne)
 have y0:=g1.cell 0 (v := .slice a n c) rfl
 have z0:=g3.cell 0 (v := au K) rfl
 have z1:=g4.cell 0 (v := ah (x:Int)) rfl
 have c1:∀ u,(V.alloc u).cell? ⟨K,0,none⟩=some (.slice a n c):=fun u=>(g1.alloc u).cell 0 rfl
 have c2:∀ u,(V.alloc u).cell? ⟨b0,0,none⟩=some (au K):=fun u=>(g3.alloc u).cell 0 rfl
 have c5:=hg1'.cell 0 (v := .slice a n c) rfl
 have f5:=hg1'.free 0
 have z5:=((hk1.aH g3 (fun f=>f)).qh hgr (nC g3 g2 (by decide))).cell 0 (v := au K) rfl
 have iH:Hid (∃ o',bZ w o o'/\kJ o' (w5.setCell ⟨K,0,none⟩ (.slice (some ⟨g,0,none⟩) (n+1) aO))/\jS o' (w5.setCell ⟨K,0,none⟩ (.slice (some ⟨g,0,none⟩) (n+1) aO)) K room ov (l++[x])/\aj (acw w K) w (w5.setCell ⟨K,0,none⟩ (.slice (some ⟨g,0,none⟩) (n+1) aO))):=by
  have ZY:∃ cur:Array Value,w5.heap[g]?=some (.cells cur 3 (0,0)):=by
   rcases hown.2 with ⟨e1,_⟩|⟨g',cap',cur,e1,_,hg',_⟩
   ·cases e1
   ·cases e1;exact ⟨cur,hg'⟩
  have acy:g<w5.heap.size:=lt_of_block ZY.choose_spec
  have hsz:w.heap.size<=V1.heap.size:=(hk.trans hk1).size
  have hext:bZ w o (o.put g 5):=Ow.pF (hwh.elim (fun e => .inr (HO.out g e)) (fun e => .inl (by omega)))
  refine ⟨o.put g 5,hext,?_,⟨.slice (some ⟨g,0,none⟩) (n+1) aO,hg1'.set 0 _,?_,fun b hb=>?_⟩,?_⟩
  ·exact (Ow.um HF.out k5.size acy).later (by simp)
  ·have e:aS (l++[x])=aS l++[ah (x:Int)]:=by simp [aS]
   rw [e,List.length_append,<- HN.out]
   exact zY hown (fun b hb=>by
    simp [Value.ownBlock] at hb
    subst hb
    intro e
    have e':g=K:=e
    rcases hwh with h9|h9
    ·exact hne (by rw [h9,e'])
    ·have:=(hk1.aH g1 (fun f=>f)).lt
     omega) _
  ·simp [Value.ownBlock] at hb
   rw [<- hb]
   exact Ow.qW _ _ _
  ·have kk:aj (acw w K) w w5:=aj.mono k5 (fun b _ hb=>Or.inr ⟨_,HY.out,hb⟩)
   exact kk.setCell (p:=⟨K,0,none⟩) (fun _=>Or.inl rfl) _
 clear hown hgr hwh hrun hk1 k5 hg1' hne g1 g2 g3 g4 hk hV1 HE HO HF HM HKK HY HN
 go_wp2_with fail
 go_region
 all_goals
  go_wp2_with fail
  go_ret
  exact ⟨rfl,iH.out⟩
end
section
variable {o o':Ow} {w w':World} {G:fU} {q:CG} {s:Sh} {c:CS} {ev:Option Ev} {nv:Value}
theorem bU.LW (h:bU o w G q s c ev nv):w.cell? ⟨q.C,9,none⟩=some (aJ q.K):=h.cell 9 _ rfl
theorem aaf (h:bU o w G q s c ev nv) (x:Nat) (hl:c.bD.length<=c.room) (hr:c.room<=4096):Calls aA 245 #[au q.K,ah (x:Int)] w fun e w'=>(∃ b,e = .returned (.bool b))/\∃ o',bZ w o o'/\bU o' w' G q s (c.push x) ev nv/\aj (In o [5]) w w':=by
 obtain ⟨W0,hW0⟩:∃ W',W'=(w.alloc (.cells #[au q.K] 86)).alloc (.cells #[ah (x:Int)] 3):=⟨_,rfl⟩
 have hk:aj aB w W0:=by rw [hW0];exact ((aj.refl _ _).alloc _).alloc _
 have hb0:aF W0 w.heap.size [au q.K] 86:=by rw [hW0];exact (aF.bC w _ _).alloc _
 have hb1:aF W0 (w.heap.size+1) [ah (x:Int)] 3:=by
  rw [hW0]
  have h9:=aF.bC (w.alloc (.cells #[au q.K] 86)) [ah (x:Int)] 3
  rwa [World.size_alloc] at h9
 have h0:=h.still hk
 have tV:Hid (Calls aA 262 #[au w.heap.size,au (w.heap.size+1)] W0 fun e w'=>∃ b,e = .returned (.bool b)/\∃ o',bZ w o o'/\bU o' w' G q s (c.push x) ev nv/\aj (In o [5]) w w'):=by
  by_cases hf:c.bD.length=c.room
  ·refine (Qz h0.bD hf x _ _ hb0 hb1).mono ?_
   rintro e w' ⟨rfl,h1,k1⟩
   obtain ⟨h2,k2⟩:=h0.Wq (o':=o) h1 (k1.mono (fun b _ e => .inl e)) (bZ.refl _ _) (h0.sh.iV.aK k1)
   refine ⟨false,rfl,o,bZ.refl _ _,?_,hk.bV.trans k2⟩
   unfold CS.push
   rw [aZ hf]
   exact h2
  ·refine (QA h0.bD hf (by omega) h0.sh.iV h0.oK x _ _ hb0 hb1).mono ?_
   rintro e w' ⟨rfl,o',e1,f1,h1,k1⟩
   obtain ⟨h2,k2⟩:=h0.Wq h1 k1 e1 f1
   refine ⟨true,rfl,o',fun b hb=>e1 b (Nat.lt_of_lt_of_le hb hk.size),?_,hk.bV.trans k2⟩
   unfold CS.push
   rw [aT hf]
   exact h2
 have HC:=ay (O3 q.K 262 _ LU W0 _ tV.out)
 have HW:=ay hW0
 have z0:=hb0.cell 0 (v := au q.K) rfl
 have hmf:=mV
 generalize c.push x=c' at *
 clear h hk hb0 hb1 h0 hW0 tV hl hr
 go_enter func245,ntmps245
 go_wp2_with fail
 rw [<- HW.out]
 go_wp2_with fail
 refine HC.out.mono ?_
 rintro e w1 ⟨b,rfl,h1⟩
 have HE:=ay h1
 clear h1 HC
 go_wp2_with fail
 go_ret
 exact ⟨⟨b,rfl⟩,HE.out⟩
theorem O4 (h:bU o w G q s c ev nv) (hl:c.bD.length<=c.room) (hr:c.room<=4096) (x:Nat) (hx:c.bD.getLast?=some x):Calls aA 241 #[au q.K] w fun e w'=>e = .returned (.tuple #[ah (x:Int),.bool true])/\bU o w' G q s c.Cb ev nv/\aj (In o [5]) w w':=by
 refine (Vt h.bD (by omega) x hx).mono ?_
 rintro e w' ⟨rfl,h1,k1⟩
 obtain ⟨h2,k2⟩:=h.aad h1 (k1.mono (fun b _ e => .inl e))
 exact ⟨rfl,h2,k2⟩
theorem SB (h:bU o w G q s c ev nv) (hx:c.bD.getLast?=none):Calls aA 241 #[au q.K] w fun e w'=>e = .returned (.tuple #[ah 0,.bool false])/\bU o w' G q s c ev nv/\aj aB w w':=by
 have e:c.bD=[]:=by
  cases hc:c.bD with
  | nil=>rfl
  | cons a l=>rw [hc] at hx;simp [List.getLast?] at hx
 have hs:=h.bD
 rw [e] at hs
 refine (X9 hs).mono ?_
 rintro e w' ⟨rfl,k1⟩
 exact ⟨rfl,h.still k1,k1⟩
theorem acz (h:bU o w G q s c ev nv):Calls aA 255 #[au q.K] w fun e w'=>e = .returned (ah (c.bD.length:Int))/\bU o w' G q s c ev nv/\aj aB w w':=by
 refine (FK h.bD).mono ?_
 rintro e w' ⟨rfl,k1⟩
 exact ⟨rfl,h.still k1,k1⟩
theorem aag (h:bU o w G q s c ev nv):Calls aA 273 #[au q.K] w fun e w'=>e = .returned (.bool c.over)/\bU o w' G q s { c with over:=false } ev nv/\aj (In o [5]) w w':=by
 refine (Vu h.bD).mono ?_
 rintro e w' ⟨rfl,h1,k1⟩
 obtain ⟨h2,k2⟩:=h.aad h1 (k1.mono (fun b _ e => .inl e))
 exact ⟨rfl,h2,k2⟩
end
end
section
attribute [local go_sem] Oper.semAt_some
open Go.RowKit
section
variable {o o':Ow} {w w':World} {G:fU} {q:CG} {s:Sh} {c:CS} {ev:Option Ev} {nv nv0:Value}
def dM (o:Ow) (w:World) (G:fU) (q:CG) (nv0:Value) (r:pO) (e:Ending) (w':World):Prop :=
 ∃ nv,e = .returned nv/\(nv = .nilFunc\/∃ fn first caps,nv = .func (.func fn) first caps)/\iM o w G q nv0 r (.returned nv) w'
theorem iM.toF {r:pO} {e:Ending} (h:iM o w G q nv0 r e w'):dM o w G q nv0 r e w':=by
 obtain ⟨o',nv,rfl,e1,h1,h2,k⟩:=h
 refine ⟨nv,rfl,?_,o',nv,rfl,e1,h1,h2,k⟩
 rcases h2.form with ⟨_,h⟩|⟨_,h⟩
 ·exact .inl h
 ·exact .inr h
theorem dM.after {r:pO} {e:Ending} {w1 w2:World} (k:aj (In o dD) w w1) (h:dM o w1 G q nv0 r e w2):dM o w G q nv0 r e w2:=by
 obtain ⟨nv,e1,hf,hp⟩:=h
 exact ⟨nv,e1,hf,hp.after k⟩
theorem dM.made {f:Nat} {args:Array Value} {r:pO} {W:World} (h:bU o W G q r.s r.c r.ev nv0) (k:aj (In o dD) w W) (hc:Calls aA f args W fun e w'=>∃ nv,e = .returned nv/\dK o w' q.C r.next nv/\aj aB W w'):Calls aA f args W (dM o w G q nv0 r):=by
 refine hc.mono ?_
 rintro e w' ⟨nv,rfl,h1,k1⟩
 exact (iM.same (h.still k1) h1 (k.trans k1.bV)).toF
theorem dM.made2 {f:Nat} {args:Array Value} {r:pO} {W:World} {S:Nat->Prop} (kS:aj S w W) (h:bU o W G q r.s r.c r.ev nv0) (k:aj (In o dD) w W) (hc:Calls aA f args W fun e w'=>∃ nv,e = .returned nv/\dK o w' q.C r.next nv/\aj aB W w'):Calls aA f args W fun e w'=>dM o w G q nv0 r e w'/\aj S w w':=by
 refine hc.mono ?_
 rintro e w' ⟨nv,rfl,h1,k1⟩
 exact ⟨(iM.same (h.still k1) h1 (k.trans k1.bV)).toF,kS.trans (k1.mono (fun _ _ f=>f.elim))⟩
theorem iW:dD.contains 0=false:=by decide
theorem fH.sC (h:fH o w G s):w.cell? ⟨G.S,0,none⟩=some (au (G.D 0))/\w.cell? ⟨G.S,1,none⟩=some (au G.B)/\w.cell? ⟨G.S,2,none⟩=some (au G.Q)/\w.cell? ⟨G.S,3,none⟩=some (au G.Fl):=by
 obtain ⟨v,h1,_⟩:=h.sh
 exact ⟨h1.cell 0 rfl,h1.cell 1 rfl,h1.cell 2 rfl,h1.cell 3 rfl⟩
theorem bU.c0 (h:bU o w G q s c ev nv):w.cell? ⟨q.C,0,none⟩=some (au G.S):=h.cell 0 _ rfl
theorem bU.free (h:bU o w G q s c ev nv) (i:Nat):w.frozen? ⟨q.C,i,none⟩=false:=h.aH.free i
theorem bU.zo (h:bU o w G q s c ev nv):∃ a b d e f x t,w.cell? ⟨q.C,13,none⟩=some a/\w.cell? ⟨q.C,14,none⟩=some b/\w.cell? ⟨q.C,15,none⟩=some d/\w.cell? ⟨q.C,16,none⟩=some e/\w.cell? ⟨q.C,17,none⟩=some f/\w.cell? ⟨q.C,18,none⟩=some x/\w.cell? ⟨q.C,19,none⟩=some t:=by
 obtain ⟨a,b,c',d,e,f,t,he⟩:=IY ev
 refine ⟨a,b,c',d,e,f,t,?_,?_,?_,?_,?_,?_,?_⟩
 all_goals
  refine h.cell _ _ ?_
  unfold nJ
  rw [he]
  rfl
theorem DK (h:bU o w G q s c ev nv) (kind value:Nat):Calls aA 79 #[au q.C,ah (kind:Int),ah (value:Int)] w fun e w'=>e = .returned (.tuple #[])/\bU o w' G q s c (some (c.ev kind value)) nv/\aj (In o [5]) w w':=by
 have c1:w.cell? ⟨q.C,1,none⟩=some (ah (c.aG:Int)):=h.cell 1 _ rfl
 obtain ⟨x0,x1,x2,x3,x4,x5,x6,e0,e1,e2,e3,e4,e5,e6⟩:=h.zo
 have f0:=h.free 13;have f1:=h.free 14;have f2:=h.free 15;have f3:=h.free 16;have f4:=h.free 17;have f5:=h.free 18;have f6:=h.free 19
 have k:aj (only q.C) w (((((((w.setCell ⟨q.C,13,none⟩ (ah 0)).setCell ⟨q.C,14,none⟩ (ah (c.aG:Int))).setCell ⟨q.C,15,none⟩ (ah (kind:Int))).setCell ⟨q.C,16,none⟩ (ah 0)).setCell ⟨q.C,17,none⟩ (ah 0)).setCell ⟨q.C,18,none⟩ (ah (value:Int))).setCell ⟨q.C,19,none⟩ (.bool true)) :=
  (((((((aj.refl _ _).put _ _).put _ _).put _ _).put _ _).put _ _).put _ _).put _ _
 have HE:=ay (h.struct k c (some (c.ev kind value)) nv (fun hb=>by
  have:=((((((hb.set 13 (ah 0)).set 14 (ah (c.aG:Int))).set 15 (ah (kind:Int))).set 16 (ah 0)).set 17 (ah 0)).set 18 (ah (value:Int))).set 19 (.bool true)
  obtain ⟨a,b,c',d,e,f,t,he⟩:=IY ev
  unfold nJ at this ⊢
  rw [he] at this
  exact this) ⟨rfl,rfl,rfl⟩)
 generalize c.ev kind value=x at *
 generalize c.aG=mi at *
 clear h k
 go_enter func79,ntmps79
 go_wp2_with fail
 go_end0
 exact ⟨rfl,HE.out.1,HE.out.2⟩
theorem Ae (h:bU o w G q s c ev nv0) (p:Nat) {t:CD} {tv:Value} (ht:dK o w q.C t tv) (hc0:0<=s.B.count) (hc1:s.B.count<=1000000000):Calls aA 80 #[au q.C,ah (p:Int),tv] w (dM o w G q nv0 (Au s c p t ev)):=by
 have y4:=h.cell 4 _ rfl
 have f4:=h.free 4
 obtain ⟨W1,hW1⟩:∃ W1,W1=w.setCell ⟨q.C,4,none⟩ (ah (p:Int)):=⟨_,rfl⟩
 obtain ⟨h1,k1⟩:=h.put 4 (ah (p:Int)) { c with phase:=p } ev nv0 rfl ⟨rfl,rfl,rfl⟩
 rw [<- hW1] at h1 k1
 have y0:=h1.c0
 have s1:=h1.sh.sC.2.1
 have HB:Hid (Calls aA 120 #[au G.B,ah (p:Int)] W1 fun e w'=>(∃ er:Int,e = .returned (ah er))/\bU o w' G q (s.qR p) { c with phase:=p } ev nv0/\aj (In o dD) w w'):=by
  refine (Xo G.B s.B (p:Int) W1 h1.sh.rH hc0 hc1).mono ?_
  rintro e w' ⟨rfl,g1,g2⟩
  obtain ⟨h2,k2⟩:=h1.zG g2 g1
  exact ⟨⟨_,rfl⟩,h2,(yh k1).trans k2⟩
 have HWT:Hid (∀ W,bU o W G q (s.qR p) { c with phase:=p } ev nv0->aj (In o dD) w W->Calls aA 121 #[au q.C,ah 0,tv] W (dM o w G q nv0 (Au s c p t ev))):=fun W hW hk =>
  dM.made (r:=Au s c p t ev) hW hk (G9 hW.sh.iV q.C 0 (ht.bg hk iW))
 have HW:=ay hW1
 have hform:=ht.rJ
 rw [hW1] at y0 s1
 generalize c.phase=ph at *
 generalize Au s c p t ev=R at *
 clear h h1 k1 ht hW1 hc0 hc1
 rcases hform with rfl|⟨fn,first,caps,rfl⟩
 all_goals
  go_enter func80,ntmps80
  go_wp2_with fail
  rw [<- HW.out]
  refine HB.out.mono ?_
  rintro e w2 ⟨⟨er,rfl⟩,g1,g2⟩
  have H2:=ay (HWT.out w2 g1 g2)
  clear g1 g2 y0 s1 y4 f4 HB HWT
  go_wp2_with fail
  refine H2.out.mono ?_
  rintro e w3 ⟨nv,rfl,hf,hp⟩
  have HP:=ay hp
  clear hp H2
  rcases hf with rfl|⟨fn2,first2,caps2,rfl⟩
  all_goals
   go_wp2_with fail
   go_ret
   exact ⟨_,rfl,by first|exact .inl rfl|exact .inr ⟨_,_,_,rfl⟩,HP.out⟩
end
section
variable {o o':Ow} {w w':World} {G:fU} {q:CG} {s:Sh} {c:CS} {ev:Option Ev} {nv nv0:Value}
theorem afG (h:bU o w G q s c none nv0) (hc0:0<=s.B.count) (hc1:s.B.count<=1000000000):Calls aA 82 #[au q.C] w (dM o w G q nv0 (aN s c .sW)):=by
 have HA:Hid (Calls aA 80 #[au q.C,ah 3,sQ 122 q.C] w (dM o w G q nv0 (aN s c .sW))):=Ae h 3 (t := .trace) (tv:=sQ 122 q.C) rfl hc0 hc1
 have hmf:=mV
 generalize aN s c .sW=R at *
 clear h hc0 hc1
 go_enter func82,ntmps82
 go_wp2_with fail
 refine HA.out.mono ?_
 rintro e w3 ⟨nv,rfl,hf,hp⟩
 have HP:=ay hp
 clear hp HA
 rcases hf with rfl|⟨fn2,first2,caps2,rfl⟩
 all_goals
  go_wp2_with fail
  go_ret
  exact ⟨_,rfl,by first|exact .inl rfl|exact .inr ⟨_,_,_,rfl⟩,HP.out⟩
theorem ahq (h:bU o w G q s c none nv0) (hc0:0<=s.B.count) (hc1:s.B.count<=1000000000) (b0:Nat) (k0:aF w b0 [aJ q.C] 30):Calls aA 81 #[au b0] w (dM o w G q nv0 (aN s c .uY)):=by
 have HA:Hid (Calls aA 80 #[au q.C,ah 2,sQ 82 q.C] w (dM o w G q nv0 (aN s c .uY))):=Ae h 2 (t := .sW) (tv:=sQ 82 q.C) rfl hc0 hc1
 have hmf:=mV
 have z0:w.cell? ⟨b0,0,none⟩=some (au q.C):=k0.cell 0 rfl
 generalize aN s c .uY=R at *
 clear h hc0 hc1 k0
 go_enter func81,ntmps81
 go_wp2_with fail
 refine HA.out.mono ?_
 rintro e w3 ⟨nv,rfl,hf,hp⟩
 have HP:=ay hp
 clear hp HA
 rcases hf with rfl|⟨fn2,first2,caps2,rfl⟩
 all_goals
  go_wp2_with fail
  go_ret
  exact ⟨_,rfl,by first|exact .inl rfl|exact .inr ⟨_,_,_,rfl⟩,HP.out⟩
theorem ahr (h:bU o w G q s c none nv0) (hc0:0<=s.B.count) (hc1:s.B.count<=1000000000) (b0:Nat) (k0:aF w b0 [aJ q.C] 30):Calls aA 300 #[au b0] w (dM o w G q nv0 (aN s c .off)):=by
 have HA:Hid (Calls aA 80 #[au q.C,ah 7,sQ 301 q.C] w (dM o w G q nv0 (aN s c .off))):=Ae h 7 (t := .jE) (tv:=sQ 301 q.C) rfl hc0 hc1
 have hmf:=mV
 have z0:w.cell? ⟨b0,0,none⟩=some (au q.C):=k0.cell 0 rfl
 generalize aN s c .off=R at *
 clear h hc0 hc1 k0
 go_enter func300,ntmps300
 go_wp2_with fail
 refine HA.out.mono ?_
 rintro e w3 ⟨nv,rfl,hf,hp⟩
 have HP:=ay hp
 clear hp HA
 rcases hf with rfl|⟨fn2,first2,caps2,rfl⟩
 all_goals
  go_wp2_with fail
  go_ret
  exact ⟨_,rfl,by first|exact .inl rfl|exact .inr ⟨_,_,_,rfl⟩,HP.out⟩
theorem aeo (h:bU o w G q s c none nv0) (hc0:0<=s.B.count) (hc1:s.B.count<=1000000000) (hd:c.je<=1000000000):Calls aA 283 #[au q.C] w (dM o w G q nv0 (aN s c .jV)):=by
 have y8:=h.cell 8 _ rfl
 have f8:=h.free 8
 have f11:=h.free 11
 obtain ⟨W1,hW1⟩:∃ W1,W1=w.setCell ⟨q.C,8,none⟩ (.bool false):=⟨_,rfl⟩
 obtain ⟨h1,k1⟩:=h.put 8 (.bool false) { c with dP:=false } none nv0 rfl ⟨rfl,rfl,rfl⟩
 rw [<- hW1] at h1 k1
 have y11:=h1.cell 11 _ rfl
 have f11':=h1.free 11
 obtain ⟨W2,hW2⟩:∃ W2,W2=W1.setCell ⟨q.C,11,none⟩ (ah ((c.je:Int)+1)):=⟨_,rfl⟩
 obtain ⟨h2,k2⟩:=h1.put 11 (ah ((c.je:Int)+1)) { c with dP:=false,je:=c.je+1 } none nv0 (by show _=nJ G q _ _ _;unfold nJ;push_cast;rfl) ⟨rfl,rfl,rfl⟩
 rw [<- hW2] at h2 k2
 have HA:Hid (Calls aA 80 #[au q.C,ah 5,sQ 208 q.C] W2 (dM o w G q nv0 (aN s c .jV))):=(Ae h2 5 (t := .work) (tv:=sQ 208 q.C) rfl hc0 hc1).mono (fun e w' hp=>hp.after (yh (k1.trans k2)))
 have hmf:=mV
 have hw1:IntKind.i64.wrap ((c.je:Int)+1)=(c.je:Int)+1:=IntWalk.i64_in _ (by omega)
 generalize aN s c .jV=R at *
 have HW1:=ay hW1
 have HW2:=ay hW2
 have y0:=h.c0
 rw [hW1] at y11 f11'
 generalize c.dP=fr at *
 generalize c.je=dr at *
 clear h h1 h2 k1 k2 hW1 hW2 hc0 hc1
 go_enter func283,ntmps283
 go_wp2_with fail
 rw [<- HW1.out,<- HW2.out]
 refine HA.out.mono ?_
 rintro e w3 ⟨nv,rfl,hf,hp⟩
 have HP:=ay hp
 clear hp HA
 rcases hf with rfl|⟨fn2,first2,caps2,rfl⟩
 all_goals
  go_wp2_with fail
  go_ret
  exact ⟨_,rfl,by first|exact .inl rfl|exact .inr ⟨_,_,_,rfl⟩,HP.out⟩
theorem aep (h:bU o w G q s c none nv0):Calls aA 122 #[au q.C] w (dM o w G q nv0 (aN s c .trace)):=by
 have y4:=h.cell 4 _ rfl
 have f4:=h.free 4
 obtain ⟨W1,hW1⟩:∃ W1,W1=w.setCell ⟨q.C,4,none⟩ (ah 4):=⟨_,rfl⟩
 obtain ⟨h1,k1⟩:=h.put 4 (ah 4) { c with phase:=4 } none nv0 rfl ⟨rfl,rfl,rfl⟩
 rw [<- hW1] at h1 k1
 have HA:Hid (Calls aA 168 #[au q.C,ah 0] W1 (dM o w G q nv0 (aN s c .trace))):=dM.made (r:=aN s c .trace) h1 (yh k1) (O0 (c:=c) h1.sh.iV q.C 0 (h1.cell 3 _ rfl))
 generalize aN s c .trace=R at *
 have HW1:=ay hW1
 generalize c.phase=ph at *
 clear h h1 k1 hW1
 go_enter func122,ntmps122
 go_wp2_with fail
 rw [<- HW1.out]
 refine HA.out.mono ?_
 rintro e w3 ⟨nv,rfl,hf,hp⟩
 have HP:=ay hp
 clear hp HA
 rcases hf with rfl|⟨fn2,first2,caps2,rfl⟩
 all_goals
  go_wp2_with fail
  go_ret
  exact ⟨_,rfl,by first|exact .inl rfl|exact .inr ⟨_,_,_,rfl⟩,HP.out⟩
theorem acA (h:bU o w G q s c none nv0):Calls aA 284 #[au q.C] w (dM o w G q nv0 (aN s c .fP)):=by
 have y6:=h.cell 6 _ rfl
 have HT:Hid (Calls aA 79 #[au q.C,ah 3,ah (c.cu:Int)] w fun e w'=>e = .returned (.tuple #[])/\bU o w' G q s c (some (c.ev 3 c.cu)) nv0/\aj (In o [5]) w w'):=DK h 3 c.cu
 have HS:Hid (∀ W,bU o W G q s c (some (c.ev 3 c.cu)) nv0->aj (In o [5]) w W->∃ W1,W1=W.setCell ⟨q.C,4,none⟩ (ah 6)/\(∃ ph:Int,W.cell? ⟨q.C,4,none⟩=some (ah ph))/\W.frozen? ⟨q.C,4,none⟩=false/\Calls aA 289 #[au q.C,ah 0] W1 (dM o w G q nv0 (aN s c .fP))):=fun W hW hk=>by
  obtain ⟨h1,k1⟩:=hW.put 4 (ah 6) { c with phase:=6 } (some (c.ev 3 c.cu)) nv0 rfl ⟨rfl,rfl,rfl⟩
  exact ⟨_,rfl,⟨_,hW.cell 4 _ rfl⟩,hW.free 4,dM.made (r:=aN s c .fP) h1 (yh (hk.trans k1)) (C9 (c:=c) h1.sh.iV q.C 0 (h1.cell 2 _ rfl))⟩
 generalize aN s c .fP=R at *
 generalize c.cu=cy at *
 clear h
 go_enter func284,ntmps284
 go_wp2_with fail
 refine HT.out.mono ?_
 rintro e w1 ⟨rfl,h1,k1⟩
 obtain ⟨W1,hW1,⟨ph,y4⟩,f4,ha⟩:=HS.out w1 h1 k1
 have HA:=ay ha
 have HW1:=ay hW1
 clear h1 k1 HS HT ha hW1 y6
 go_wp2_with fail
 rw [<- HW1.out]
 refine HA.out.mono ?_
 rintro e w3 ⟨nv,rfl,hf,hp⟩
 have HP:=ay hp
 clear hp HA
 rcases hf with rfl|⟨fn2,first2,caps2,rfl⟩
 all_goals
  go_wp2_with fail
  go_ret
  exact ⟨_,rfl,by first|exact .inl rfl|exact .inr ⟨_,_,_,rfl⟩,HP.out⟩
theorem afH (h:bU o w G q s c none nv0):Calls aA 301 #[au q.C] w (dM o w G q nv0 (aN s c .jE)):=by
 have y4:=h.cell 4 _ rfl
 have f4:=h.free 4
 obtain ⟨W1,hW1⟩:∃ W1,W1=w.setCell ⟨q.C,4,none⟩ (ah 0):=⟨_,rfl⟩
 obtain ⟨h1,k1⟩:=h.put 4 (ah 0) { c with phase:=0 } none nv0 rfl ⟨rfl,rfl,rfl⟩
 rw [<- hW1] at h1 k1
 have y6:=h1.cell 6 _ rfl
 rw [hW1] at y6
 have HT:Hid (Calls aA 79 #[au q.C,ah 4,ah (c.cu:Int)] W1 fun e w'=>e = .returned (.tuple #[])/\iM o w G q nv0 (aN s c .jE) (.returned .nilFunc) w'):=by
  refine (DK h1 4 c.cu).mono ?_
  rintro e w' ⟨rfl,g1,g2⟩
  exact ⟨rfl,iM.same (r:=aN s c .jE) g1 rfl (yh (k1.trans g2))⟩
 generalize aN s c .jE=R at *
 have HW1:=ay hW1
 generalize c.phase=ph at *
 generalize c.cu=cy at *
 clear h h1 k1 hW1
 go_enter func301,ntmps301
 go_wp2_with fail
 rw [<- HW1.out]
 refine HT.out.mono ?_
 rintro e w3 ⟨rfl,hp⟩
 have HP:=ay hp
 clear hp HT
 go_wp2_with fail
 go_ret
 exact ⟨_,rfl,.inl rfl,HP.out⟩
end
section
variable {o o':Ow} {w w':World} {G:fU} {q:CG} {s:Sh} {c:CS} {ev:Option Ev} {nv nv0:Value}
theorem afI (h:bU o w G q s c none nv0) (hmu:c.aG<=8) (m:Nat) (hm:m<c.aG) (t:CD) (tv:Value) (ht:dK o w q.C t tv) (b0 b1 b2:Nat) (_o0:o b0=0) (_o1:o b1=0) (_o2:o b2=0) (k0:aF w b0 [aJ q.C] 30) (k1:aF w b1 [ah (m:Int)] 3) (k2:aF w b2 [tv] 88) :
 Calls aA 166 #[au b0,au b1,au b2] w (dM o w G q nv0 (aN s c (.dJ m t))):=by
 have HC:Hid (∀ V,aj aB w V->V.cell? ⟨b0,0,none⟩=some (au q.C)/\V.cell? ⟨b1,0,none⟩=some (ah (m:Int))/\V.cell? ⟨b2,0,none⟩=some tv/\V.cell? ⟨q.C,0,none⟩=some (au G.S)/\V.cell? ⟨q.C,1,none⟩=some (ah (c.aG:Int))/\V.cell? ⟨G.S,1,none⟩=some (au G.B)):=fun V hV=>by
  have h9:=h.still hV
  exact ⟨(hV.aH k0 (fun f=>f)).cell 0 rfl,(hV.aH k1 (fun f=>f)).cell 0 rfl,(hV.aH k2 (fun f=>f)).cell 0 rfl,h9.c0,h9.cell 1 _ rfl,h9.sh.sC.2.1⟩
 have AU:Hid (∀ V,aj aB w V->Calls aA 167 #[au G.B,ah (m:Int)] V fun e w'=>e = .returned (.bool (s.B.did m))/\V=w'):=fun V hV=>KI G.B s.B (m:Int) V (h.still hV).sh.rH
 have hform:=ht.rJ
 have HST:Hid (∀ V,aj aB w V->bU o V G q s c none nv0/\dK o V q.C t tv):=fun V hV=>⟨h.still hV,ht.still hV⟩
 have e1:aN s c (.dJ m t)=⟨s,c,if !s.B.did m then .dJ m t else if m+1<c.aG then .dJ (m+1) t else t,none⟩:=rfl
 have hwm:IntKind.i64.wrap ((m:Int)+1)=(m:Int)+1:=IntWalk.i64_in _ (by omega)
 obtain ⟨y0,y1,y2,y3,y4,y5⟩:=HC.out w (aj.refl _ _)
 cases hd:s.B.did m with
 | false =>
   rw [hd] at AU e1
   have HW:Hid (∀ V,aj aB w V->Calls aA 121 #[au q.C,ah (m:Int),tv] V (dM o w G q nv0 (aN s c (.dJ m t)))):=fun V hV=>by
    rw [e1]
    exact dM.made (r:=⟨s,c,.dJ m t,none⟩) (HST.out V hV).1 hV.bV (G9 (HST.out V hV).1.sh.iV q.C m (HST.out V hV).2)
   generalize aN s c (.dJ m t)=R at *
   clear h ht k0 k1 k2 _o0 _o1 _o2 HST hd e1
   rcases hform with rfl|⟨fn,first,caps,rfl⟩
   all_goals
    go_enter func166,ntmps166
    go_wp2_with fail
    go_quiet (first|(go_at_call 167;exact Calls.quiet_of_same (iQ (AU.out _ ((aj.refl aB w).drewN _)))))
    obtain ⟨V,hV⟩:∃ V,V=w.drewN nq:=⟨_,rfl⟩
    have hk:aj aB w V:=by rw [hV];exact (aj.refl _ _).drewN _
    rw [<- hV]
    clear hV y0 y1 y2 y3 y4 y5
    obtain ⟨y0,y1,y2,y3,y4,y5⟩:=HC.out V hk
    have HWV:=ay (HW.out V hk)
    clear HW HC AU hk
    go_wp2_with fail
    refine HWV.out.mono ?_
    rintro e w3 ⟨nv,rfl,hf,hp⟩
    have HP:=ay hp
    clear hp HWV
    rcases hf with rfl|⟨fn2,first2,caps2,rfl⟩
    all_goals
     go_wp2_with fail
     go_ret
     exact ⟨_,rfl,by first|exact .inl rfl|exact .inr ⟨_,_,_,rfl⟩,HP.out⟩
 | true =>
   rw [hd] at AU e1
   by_cases hlt:m+1<c.aG
   ·have lJ:(m:Int)+1<(c.aG:Int):=by omega
    have HW:Hid (∀ V,aj aB w V->Calls aA 121 #[au q.C,ah ((m:Int)+1),tv] V (dM o w G q nv0 (aN s c (.dJ m t)))):=fun V hV=>by
     have h9:=G9 (HST.out V hV).1.sh.iV q.C (m+1) (HST.out V hV).2
     rw [show (((m+1:Nat)):Int)=(m:Int)+1 from by push_cast;rfl] at h9
     rw [e1]
     exact dM.made (r:=⟨s,c,_,none⟩) (HST.out V hV).1 hV.bV (by simp only [Bool.not_true,Bool.false_eq_true,if_false,aZ hlt];exact h9)
    generalize aN s c (.dJ m t)=R at *
    clear h ht k0 k1 k2 _o0 _o1 _o2 HST hd e1 hlt hm
    generalize c.aG=mu at *
    rcases hform with rfl|⟨fn,first,caps,rfl⟩
    all_goals
     go_enter func166,ntmps166
     go_wp2_with fail
     go_quiet (first|(go_at_call 167;exact Calls.quiet_of_same (iQ (AU.out _ ((aj.refl aB w).drewN _)))))
     obtain ⟨V,hV⟩:∃ V,V=w.drewN nq:=⟨_,rfl⟩
     have hk:aj aB w V:=by rw [hV];exact (aj.refl _ _).drewN _
     rw [<- hV]
     clear hV y0 y1 y2 y3 y4 y5 nq
     obtain ⟨y0,y1,y2,y3,y4,y5⟩:=HC.out V hk
     go_wp2_with fail
     go_quiet (fail)
     obtain ⟨V2,hV2⟩:∃ V2,V2=V.drewN nq:=⟨_,rfl⟩
     have hk2:aj aB w V2:=by rw [hV2];exact hk.drewN _
     rw [<- hV2]
     clear hV2 y0 y1 y2 y3 y4 y5
     obtain ⟨y0,y1,y2,y3,y4,y5⟩:=HC.out V2 hk2
     have HWV:=ay (HW.out V2 hk2)
     clear HW HC AU hk hk2
     go_wp2_with fail
     refine HWV.out.mono ?_
     rintro e w3 ⟨nv,rfl,hf,hp⟩
     have HP:=ay hp
     clear hp HWV
     rcases hf with rfl|⟨fn2,first2,caps2,rfl⟩
     all_goals
      go_wp2_with fail
      go_ret
      exact ⟨_,rfl,by first|exact .inl rfl|exact .inr ⟨_,_,_,rfl⟩,HP.out⟩
   ·have lJ:¬ ((m:Int)+1<(c.aG:Int)):=by omega
    have HE:Hid (∀ V,aj aB w V->iM o w G q nv0 (aN s c (.dJ m t)) (.returned tv) V):=fun V hV=>by
     rw [e1]
     exact iM.same (r:=⟨s,c,_,none⟩) (HST.out V hV).1 (by simp only [Bool.not_true,Bool.false_eq_true,if_false,aT hlt];exact (HST.out V hV).2) hV.bV
    generalize aN s c (.dJ m t)=R at *
    clear h ht k0 k1 k2 _o0 _o1 _o2 HST hd e1 hlt hm
    generalize c.aG=mu at *
    rcases hform with rfl|⟨fn,first,caps,rfl⟩
    all_goals
     go_enter func166,ntmps166
     go_wp2_with fail
     go_quiet (first|(go_at_call 167;exact Calls.quiet_of_same (iQ (AU.out _ ((aj.refl aB w).drewN _)))))
     obtain ⟨V,hV⟩:∃ V,V=w.drewN nq:=⟨_,rfl⟩
     have hk:aj aB w V:=by rw [hV];exact (aj.refl _ _).drewN _
     rw [<- hV]
     clear hV y0 y1 y2 y3 y4 y5 nq
     obtain ⟨y0,y1,y2,y3,y4,y5⟩:=HC.out V hk
     go_wp2_with fail
     go_quiet (fail)
     obtain ⟨V2,hV2⟩:∃ V2,V2=V.drewN nq:=⟨_,rfl⟩
     have hk2:aj aB w V2:=by rw [hV2];exact hk.drewN _
     rw [<- hV2]
     clear hV2 y0 y1 y2 y3 y4 y5
     obtain ⟨y0,y1,y2,y3,y4,y5⟩:=HC.out V2 hk2
     have AV:=ay (HE.out V2 hk2)
     clear HE HC AU hk hk2
     go_wp2_with fail
     go_ret
     exact ⟨_,rfl,by first|exact .inl rfl|exact .inr ⟨_,_,_,rfl⟩,AV.out⟩
end
end
end Go.Proofs.YtanfphjoebobaaaGreatDoor
