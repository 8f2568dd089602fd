/- Parts of a walk, put together and made shorter by a program of mine. No conditions. -/
import Derived.Test.YtanfphjoebobaaaGreatDoorZzcs
import Derived.Test.YtanfphjoebobaaaGreatDoorZzcq
import Derived.BigRegion
import Derived.BigQuiet
namespace Go.Proofs.YtanfphjoebobaaaGreatDoor
set_option maxRecDepth 100000
set_option maxHeartbeats 4000000
section
attribute [local go_sem] Oper.semAt_some
open Go.RowKit
theorem aO.forms {o:Ow} {w:World} {C:Nat} {d:CD} {v:Value} (h:aO o w C d v):v = .nilFunc∨∃ fn first caps,v = .func (.func fn) first caps:=by
 rcases h.form with ⟨_,h⟩|⟨_,h⟩
 ·exact .inl h
 ·exact .inr h
section
variable {o:Ow} {w w':World}
theorem vF (hf:Fut o w) (C:Nat) (m:Nat) {t:CD} {tv:Value} (ht:aO o w C t tv):Calls Tryz.prog 121 #[.pointer (some ⟨C,0,none⟩),.int .i64 (m:Int),tv] w fun e w'=>∃ nv,e = .returned nv∧aO o w' C (.wait m t) nv∧Keep none_ w w':=by
 have hn:=fG (o:=o) [([ah C],30),([.int .i64 (m:Int)],3),([tv],88)] w hf
 have HE:Hid (aO o (aZ w [([ah C],30),([.int .i64 (m:Int)],3),([tv],88)]) C (.wait m t) (.func (.func 166) #[] #[ah (w.heap.size),ah (w.heap.size+1),ah (w.heap.size+1+1)])∧Keep none_ w (aZ w [([ah C],30),([.int .i64 (m:Int)],3),([tv],88)])):=by
  obtain ⟨b0,b1,b2,e,⟨o0,k0⟩,⟨o1,k1⟩,⟨o2,k2⟩⟩:=caps3 hn.1
  simp only [idxs,List.cons.injEq] at e
  obtain ⟨rfl,rfl,rfl,_⟩:=e
  exact ⟨⟨tv,ht.still hn.2,[w.heap.size,w.heap.size+1,w.heap.size+1+1],rfl,_,_,rfl,o0,k0,_,_,rfl,o1,k1,_,_,rfl,o2,k2,rfl⟩,hn.2⟩
 have hmf:=gV
 have hform:=ht.forms
 clear hn hf ht
 rcases hform with rfl|⟨fn,first,caps,rfl⟩
 all_goals
  go_enter Tryz.func121,Tryz.ntmps121
  go_wp2_with fail
  go_ret
  exact ⟨_,rfl,HE.out.1,HE.out.2⟩
theorem vG (hf:Fut o w) (C:Nat) (v:Nat) {t:CD} {tv:Value} (ht:aO o w C t tv):Calls Tryz.prog 210 #[.pointer (some ⟨C,0,none⟩),.int .i64 (v:Int),tv] w fun e w'=>∃ nv,e = .returned nv∧aO o w' C (bG v t) nv∧Keep none_ w w':=by
 have hn:=fG (o:=o) [([ah C],30),([.int .i64 (v:Int)],3),([tv],88)] w hf
 have HE:Hid (aO o (aZ w [([ah C],30),([.int .i64 (v:Int)],3),([tv],88)]) C (.look v t) (.func (.func 244) #[] #[ah (w.heap.size),ah (w.heap.size+1),ah (w.heap.size+1+1)])∧Keep none_ w (aZ w [([ah C],30),([.int .i64 (v:Int)],3),([tv],88)])):=by
  obtain ⟨b0,b1,b2,e,⟨o0,k0⟩,⟨o1,k1⟩,⟨o2,k2⟩⟩:=caps3 hn.1
  simp only [idxs,List.cons.injEq] at e
  obtain ⟨rfl,rfl,rfl,_⟩:=e
  exact ⟨⟨tv,ht.still hn.2,[w.heap.size,w.heap.size+1,w.heap.size+1+1],rfl,_,_,rfl,o0,k0,_,_,rfl,o1,k1,_,_,rfl,o2,k2,rfl⟩,hn.2⟩
 have hmf:=gV
 by_cases hs:v=0
 ·have HS:Hid (aO o (aZ w [([ah C],30),([.int .i64 (v:Int)],3),([tv],88)]) C (bG v t) tv∧Keep none_ w (aZ w [([ah C],30),([.int .i64 (v:Int)],3),([tv],88)])):=⟨by unfold bG;rw [if_pos hs];exact ht.still hn.2,hn.2⟩
  have d0:(((v:Nat):Int)==0)=true:=by rw [hs];rfl
  clear hs
  have hform:=ht.forms
  clear hn hf ht HE
  rcases hform with rfl|⟨fn,first,caps,rfl⟩
  all_goals
   go_enter Tryz.func210,Tryz.ntmps210
   go_wp2_with fail
   go_ret
   exact ⟨_,rfl,HS.out.1,HS.out.2⟩
 ·have HS:Hid (aO o (aZ w [([ah C],30),([.int .i64 (v:Int)],3),([tv],88)]) C (bG v t) (.func (.func 244) #[] #[ah (w.heap.size),ah (w.heap.size+1),ah (w.heap.size+1+1)])∧Keep none_ w (aZ w [([ah C],30),([.int .i64 (v:Int)],3),([tv],88)])):=⟨by unfold bG;rw [if_neg hs];exact HE.out.1,hn.2⟩
  have d0:((v:Int)==0)=false:=by simp;omega
  clear hs
  have hform:=ht.forms
  clear hn hf ht HE
  rcases hform with rfl|⟨fn,first,caps,rfl⟩
  all_goals
   go_enter Tryz.func210,Tryz.ntmps210
   go_wp2_with fail
   go_ret
   exact ⟨_,rfl,HS.out.1,HS.out.2⟩
theorem BM {c:CS} (hf:Fut o w) (C:Nat) (i:Nat) (hc:w.cell? ⟨C,3,none⟩=some (.int .i64 (c.cells:Int))):Calls Tryz.prog 168 #[.pointer (some ⟨C,0,none⟩),.int .i64 (i:Int)] w fun e w'=>∃ nv,e = .returned nv∧aO o w' C (c.dF i) nv∧Keep none_ w w':=by
 have hn:=fG (o:=o) [([ah C],30),([.int .i64 (i:Int)],3)] w hf
 have HE:Hid (aO o (aZ w [([ah C],30),([.int .i64 (i:Int)],3)]) C (.cell i) (.func (.func 209) #[] #[ah (w.heap.size),ah (w.heap.size+1)])∧Keep none_ w (aZ w [([ah C],30),([.int .i64 (i:Int)],3)])):=by
  obtain ⟨b0,b1,e,⟨o0,k0⟩,⟨o1,k1⟩⟩:=caps2 hn.1
  simp only [idxs,List.cons.injEq] at e
  obtain ⟨rfl,rfl,_⟩:=e
  exact ⟨⟨[w.heap.size,w.heap.size+1],rfl,_,_,rfl,o0,k0,_,_,rfl,o1,k1,rfl⟩,hn.2⟩
 have hmf:=gV
 have hcc:∀ x0 x1,((w.alloc x0).alloc x1).cell? ⟨C,3,none⟩=some (.int .i64 (c.cells:Int)):=fun x0 x1=>(((Keep.refl none_ w).alloc x0).alloc x1).still hc
 by_cases hs:i=c.cells
 ·have HS:Hid (aO o (aZ w [([ah C],30),([.int .i64 (i:Int)],3)]) C (c.dF i) (bnd 208 C)∧Keep none_ w (aZ w [([ah C],30),([.int .i64 (i:Int)],3)])):=⟨by unfold CS.dF;rw [if_pos hs];rfl,hn.2⟩
  have d0:((i:Int)==(c.cells:Int))=true:=by simp;omega
  generalize c.cells=cc at *
  clear hs
  clear hn hf HE hc
  go_enter Tryz.func168,Tryz.ntmps168
  go_wp2_with fail
  go_quiet (fail)
  go_wp2_with fail
  go_ret
  exact ⟨_,rfl,HS.out.1.still ((Keep.refl none_ _).drewN _),HS.out.2.trans ((Keep.refl none_ _).drewN _)⟩
 ·have HS:Hid (aO o (aZ w [([ah C],30),([.int .i64 (i:Int)],3)]) C (c.dF i) (.func (.func 209) #[] #[ah (w.heap.size),ah (w.heap.size+1)])∧Keep none_ w (aZ w [([ah C],30),([.int .i64 (i:Int)],3)])):=⟨by unfold CS.dF;rw [if_neg hs];exact HE.out.1,hn.2⟩
  have d0:((i:Int)==(c.cells:Int))=false:=by simp;omega
  generalize c.cells=cc at *
  clear hs
  clear hn hf HE hc
  go_enter Tryz.func168,Tryz.ntmps168
  go_wp2_with fail
  go_quiet (fail)
  go_wp2_with fail
  go_ret
  exact ⟨_,rfl,HS.out.1.still ((Keep.refl none_ _).drewN _),HS.out.2.trans ((Keep.refl none_ _).drewN _)⟩
theorem rP (hf:Fut o w) (C:Nat) (a:Nat) {t:CD} {tv:Value} (ht:aO o w C t tv):Calls Tryz.prog 242 #[.pointer (some ⟨C,0,none⟩),.int .i64 (a:Int),tv] w fun e w'=>∃ nv,e = .returned nv∧aO o w' C (.object a t) nv∧Keep none_ w w':=by
 have hn:=fG (o:=o) [([ah C],30),([.int .i64 (a:Int)],3),([tv],88)] w hf
 have HE:Hid (aO o (aZ w [([ah C],30),([.int .i64 (a:Int)],3),([tv],88)]) C (.object a t) (.func (.func 256) #[] #[ah (w.heap.size),ah (w.heap.size+1),ah (w.heap.size+1+1)])∧Keep none_ w (aZ w [([ah C],30),([.int .i64 (a:Int)],3),([tv],88)])):=by
  obtain ⟨b0,b1,b2,e,⟨o0,k0⟩,⟨o1,k1⟩,⟨o2,k2⟩⟩:=caps3 hn.1
  simp only [idxs,List.cons.injEq] at e
  obtain ⟨rfl,rfl,rfl,_⟩:=e
  exact ⟨⟨tv,ht.still hn.2,[w.heap.size,w.heap.size+1,w.heap.size+1+1],rfl,_,_,rfl,o0,k0,_,_,rfl,o1,k1,_,_,rfl,o2,k2,rfl⟩,hn.2⟩
 have hmf:=gV
 have hform:=ht.forms
 clear hn hf ht
 rcases hform with rfl|⟨fn,first,caps,rfl⟩
 all_goals
  go_enter Tryz.func242,Tryz.ntmps242
  go_wp2_with fail
  go_ret
  exact ⟨_,rfl,HE.out.1,HE.out.2⟩
theorem zu (hf:Fut o w) (C:Nat) (a:Nat) (i:Nat) (n:Nat) {t:CD} {tv:Value} (ht:aO o w C t tv):Calls Tryz.prog 257 #[.pointer (some ⟨C,0,none⟩),.int .i64 (a:Int),.int .i64 (i:Int),.int .i64 (n:Int),tv] w fun e w'=>∃ nv,e = .returned nv∧aO o w' C (bD a i n t) nv∧Keep none_ w w':=by
 have hn:=fG (o:=o) [([ah C],30),([.int .i64 (a:Int)],3),([.int .i64 (i:Int)],3),([.int .i64 (n:Int)],3),([tv],88)] w hf
 have HE:Hid (aO o (aZ w [([ah C],30),([.int .i64 (a:Int)],3),([.int .i64 (i:Int)],3),([.int .i64 (n:Int)],3),([tv],88)]) C (.field a i n t) (.func (.func 271) #[] #[ah (w.heap.size),ah (w.heap.size+1),ah (w.heap.size+1+1),ah (w.heap.size+1+1+1),ah (w.heap.size+1+1+1+1)])∧Keep none_ w (aZ w [([ah C],30),([.int .i64 (a:Int)],3),([.int .i64 (i:Int)],3),([.int .i64 (n:Int)],3),([tv],88)])):=by
  obtain ⟨b0,b1,b2,b3,b4,e,⟨o0,k0⟩,⟨o1,k1⟩,⟨o2,k2⟩,⟨o3,k3⟩,⟨o4,k4⟩⟩:=caps5 hn.1
  simp only [idxs,List.cons.injEq] at e
  obtain ⟨rfl,rfl,rfl,rfl,rfl,_⟩:=e
  exact ⟨⟨tv,ht.still hn.2,[w.heap.size,w.heap.size+1,w.heap.size+1+1,w.heap.size+1+1+1,w.heap.size+1+1+1+1],rfl,_,_,rfl,o0,k0,_,_,rfl,o1,k1,_,_,rfl,o2,k2,_,_,rfl,o3,k3,_,_,rfl,o4,k4,rfl⟩,hn.2⟩
 have hmf:=gV
 by_cases hs:i=n
 ·have HS:Hid (aO o (aZ w [([ah C],30),([.int .i64 (a:Int)],3),([.int .i64 (i:Int)],3),([.int .i64 (n:Int)],3),([tv],88)]) C (bD a i n t) tv∧Keep none_ w (aZ w [([ah C],30),([.int .i64 (a:Int)],3),([.int .i64 (i:Int)],3),([.int .i64 (n:Int)],3),([tv],88)])):=⟨by unfold bD;rw [if_pos hs];exact ht.still hn.2,hn.2⟩
  have d0:((i:Int)==(n:Int))=true:=by simp;omega
  clear hs
  have hform:=ht.forms
  clear hn hf ht HE
  rcases hform with rfl|⟨fn,first,caps,rfl⟩
  all_goals
   go_enter Tryz.func257,Tryz.ntmps257
   go_wp2_with fail
   go_ret
   exact ⟨_,rfl,HS.out.1,HS.out.2⟩
 ·have HS:Hid (aO o (aZ w [([ah C],30),([.int .i64 (a:Int)],3),([.int .i64 (i:Int)],3),([.int .i64 (n:Int)],3),([tv],88)]) C (bD a i n t) (.func (.func 271) #[] #[ah (w.heap.size),ah (w.heap.size+1),ah (w.heap.size+1+1),ah (w.heap.size+1+1+1),ah (w.heap.size+1+1+1+1)])∧Keep none_ w (aZ w [([ah C],30),([.int .i64 (a:Int)],3),([.int .i64 (i:Int)],3),([.int .i64 (n:Int)],3),([tv],88)])):=⟨by unfold bD;rw [if_neg hs];exact HE.out.1,hn.2⟩
  have d0:((i:Int)==(n:Int))=false:=by simp;omega
  clear hs
  have hform:=ht.forms
  clear hn hf ht HE
  rcases hform with rfl|⟨fn,first,caps,rfl⟩
  all_goals
   go_enter Tryz.func257,Tryz.ntmps257
   go_wp2_with fail
   go_ret
   exact ⟨_,rfl,HS.out.1,HS.out.2⟩
theorem yh (hf:Fut o w) (C:Nat) (m:Nat):Calls Tryz.prog 243 #[.pointer (some ⟨C,0,none⟩),.int .i64 (m:Int)] w fun e w'=>∃ nv,e = .returned nv∧aO o w' C (.box m) nv∧Keep none_ w w':=by
 have hn:=fG (o:=o) [([ah C],30),([.int .i64 (m:Int)],3)] w hf
 have HE:Hid (aO o (aZ w [([ah C],30),([.int .i64 (m:Int)],3)]) C (.box m) (.func (.func 258) #[] #[ah (w.heap.size),ah (w.heap.size+1)])∧Keep none_ w (aZ w [([ah C],30),([.int .i64 (m:Int)],3)])):=by
  obtain ⟨b0,b1,e,⟨o0,k0⟩,⟨o1,k1⟩⟩:=caps2 hn.1
  simp only [idxs,List.cons.injEq] at e
  obtain ⟨rfl,rfl,_⟩:=e
  exact ⟨⟨[w.heap.size,w.heap.size+1],rfl,_,_,rfl,o0,k0,_,_,rfl,o1,k1,rfl⟩,hn.2⟩
 have hmf:=gV
 clear hn hf
 go_enter Tryz.func243,Tryz.ntmps243
 go_wp2_with fail
 go_ret
 exact ⟨_,rfl,HE.out.1,HE.out.2⟩
theorem BN {c:CS} (hf:Fut o w) (C:Nat) (b:Nat) (hc:w.cell? ⟨C,2,none⟩=some (.int .i64 (c.blocks:Int))):Calls Tryz.prog 275 #[.pointer (some ⟨C,0,none⟩),.int .i64 (b:Int)] w fun e w'=>∃ nv,e = .returned nv∧aO o w' C (c.dH b) nv∧Keep none_ w w':=by
 have hn:=fG (o:=o) [([ah C],30),([.int .i64 (b:Int)],3)] w hf
 have HE:Hid (aO o (aZ w [([ah C],30),([.int .i64 (b:Int)],3)]) C (.walk b) (.func (.func 285) #[] #[ah (w.heap.size),ah (w.heap.size+1)])∧Keep none_ w (aZ w [([ah C],30),([.int .i64 (b:Int)],3)])):=by
  obtain ⟨b0,b1,e,⟨o0,k0⟩,⟨o1,k1⟩⟩:=caps2 hn.1
  simp only [idxs,List.cons.injEq] at e
  obtain ⟨rfl,rfl,_⟩:=e
  exact ⟨⟨[w.heap.size,w.heap.size+1],rfl,_,_,rfl,o0,k0,_,_,rfl,o1,k1,rfl⟩,hn.2⟩
 have hmf:=gV
 have hcc:∀ x0 x1,((w.alloc x0).alloc x1).cell? ⟨C,2,none⟩=some (.int .i64 (c.blocks:Int)):=fun x0 x1=>(((Keep.refl none_ w).alloc x0).alloc x1).still hc
 by_cases hs:b=c.blocks
 ·have HS:Hid (aO o (aZ w [([ah C],30),([.int .i64 (b:Int)],3)]) C (c.dH b) (bnd 208 C)∧Keep none_ w (aZ w [([ah C],30),([.int .i64 (b:Int)],3)])):=⟨by unfold CS.dH;rw [if_pos hs];rfl,hn.2⟩
  have d0:((b:Int)==(c.blocks:Int))=true:=by simp;omega
  generalize c.blocks=cc at *
  clear hs
  clear hn hf HE hc
  go_enter Tryz.func275,Tryz.ntmps275
  go_wp2_with fail
  go_quiet (fail)
  go_wp2_with fail
  go_ret
  exact ⟨_,rfl,HS.out.1.still ((Keep.refl none_ _).drewN _),HS.out.2.trans ((Keep.refl none_ _).drewN _)⟩
 ·have HS:Hid (aO o (aZ w [([ah C],30),([.int .i64 (b:Int)],3)]) C (c.dH b) (.func (.func 285) #[] #[ah (w.heap.size),ah (w.heap.size+1)])∧Keep none_ w (aZ w [([ah C],30),([.int .i64 (b:Int)],3)])):=⟨by unfold CS.dH;rw [if_neg hs];exact HE.out.1,hn.2⟩
  have d0:((b:Int)==(c.blocks:Int))=false:=by simp;omega
  generalize c.blocks=cc at *
  clear hs
  clear hn hf HE hc
  go_enter Tryz.func275,Tryz.ntmps275
  go_wp2_with fail
  go_quiet (fail)
  go_wp2_with fail
  go_ret
  exact ⟨_,rfl,HS.out.1.still ((Keep.refl none_ _).drewN _),HS.out.2.trans ((Keep.refl none_ _).drewN _)⟩
theorem qI {c:CS} (hf:Fut o w) (C:Nat) (b:Nat) (hc:w.cell? ⟨C,2,none⟩=some (.int .i64 (c.blocks:Int))):Calls Tryz.prog 289 #[.pointer (some ⟨C,0,none⟩),.int .i64 (b:Int)] w fun e w'=>∃ nv,e = .returned nv∧aO o w' C (c.gy b) nv∧Keep none_ w w':=by
 have hn:=fG (o:=o) [([ah C],30),([.int .i64 (b:Int)],3)] w hf
 have HE:Hid (aO o (aZ w [([ah C],30),([.int .i64 (b:Int)],3)]) C (.enqueue b) (.func (.func 293) #[] #[ah (w.heap.size),ah (w.heap.size+1)])∧Keep none_ w (aZ w [([ah C],30),([.int .i64 (b:Int)],3)])):=by
  obtain ⟨b0,b1,e,⟨o0,k0⟩,⟨o1,k1⟩⟩:=caps2 hn.1
  simp only [idxs,List.cons.injEq] at e
  obtain ⟨rfl,rfl,_⟩:=e
  exact ⟨⟨[w.heap.size,w.heap.size+1],rfl,_,_,rfl,o0,k0,_,_,rfl,o1,k1,rfl⟩,hn.2⟩
 have hmf:=gV
 have hcc:∀ x0 x1,((w.alloc x0).alloc x1).cell? ⟨C,2,none⟩=some (.int .i64 (c.blocks:Int)):=fun x0 x1=>(((Keep.refl none_ w).alloc x0).alloc x1).still hc
 by_cases hs:b=c.blocks
 ·have HS:Hid (aO o (aZ w [([ah C],30),([.int .i64 (b:Int)],3)]) C (c.gy b) (bnd 292 C)∧Keep none_ w (aZ w [([ah C],30),([.int .i64 (b:Int)],3)])):=⟨by unfold CS.gy;rw [if_pos hs];rfl,hn.2⟩
  have d0:((b:Int)==(c.blocks:Int))=true:=by simp;omega
  generalize c.blocks=cc at *
  clear hs
  clear hn hf HE hc
  go_enter Tryz.func289,Tryz.ntmps289
  go_wp2_with fail
  go_quiet (fail)
  go_wp2_with fail
  go_ret
  exact ⟨_,rfl,HS.out.1.still ((Keep.refl none_ _).drewN _),HS.out.2.trans ((Keep.refl none_ _).drewN _)⟩
 ·have HS:Hid (aO o (aZ w [([ah C],30),([.int .i64 (b:Int)],3)]) C (c.gy b) (.func (.func 293) #[] #[ah (w.heap.size),ah (w.heap.size+1)])∧Keep none_ w (aZ w [([ah C],30),([.int .i64 (b:Int)],3)])):=⟨by unfold CS.gy;rw [if_neg hs];exact HE.out.1,hn.2⟩
  have d0:((b:Int)==(c.blocks:Int))=false:=by simp;omega
  generalize c.blocks=cc at *
  clear hs
  clear hn hf HE hc
  go_enter Tryz.func289,Tryz.ntmps289
  go_wp2_with fail
  go_quiet (fail)
  go_wp2_with fail
  go_ret
  exact ⟨_,rfl,HS.out.1.still ((Keep.refl none_ _).drewN _),HS.out.2.trans ((Keep.refl none_ _).drewN _)⟩
theorem zx (hf:Fut o w) (C:Nat)  {t:CD} {tv:Value} (ht:aO o w C t tv) {l:List Nat} {la:Option Addr} {lc:Nat} (hr:aV o w 3 (.slice la l.length lc) (aC l)):Calls Tryz.prog 286 #[.pointer (some ⟨C,0,none⟩),.slice la l.length lc,tv] w fun e w'=>∃ nv,e = .returned nv∧aO o w' C (bU l t) nv∧Keep none_ w w':=by
 have hn:=fG (o:=o) [([ah C],30),([.slice la l.length lc],32),([tv],88)] w hf
 have HE:Hid (aO o (aZ w [([ah C],30),([.slice la l.length lc],32),([tv],88)]) C (.slots l t) (.func (.func 290) #[] #[ah (w.heap.size),ah (w.heap.size+1),ah (w.heap.size+1+1)])∧Keep none_ w (aZ w [([ah C],30),([.slice la l.length lc],32),([tv],88)])):=by
  obtain ⟨b0,b1,b2,e,⟨o0,k0⟩,⟨o1,k1⟩,⟨o2,k2⟩⟩:=caps3 hn.1
  simp only [idxs,List.cons.injEq] at e
  obtain ⟨rfl,rfl,rfl,_⟩:=e
  exact ⟨⟨tv,_,ht.still hn.2,hr.still hn.2,[w.heap.size,w.heap.size+1,w.heap.size+1+1],rfl,_,_,rfl,o0,k0,_,_,rfl,o1,k1,_,_,rfl,o2,k2,rfl⟩,hn.2⟩
 have hmf:=gV
 by_cases hs:l=[]
 ·have HS:Hid (aO o (aZ w [([ah C],30),([.slice la l.length lc],32),([tv],88)]) C (bU l t) tv∧Keep none_ w (aZ w [([ah C],30),([.slice la l.length lc],32),([tv],88)])):=⟨by unfold bU;rw [if_pos hs];exact ht.still hn.2,hn.2⟩
  have d0:((l.length:Int)==0)=true:=by rw [hs];rfl
  generalize l.length=ll at *
  clear hs
  have hform:=ht.forms
  clear hn hf ht HE hr
  rcases hform with rfl|⟨fn,first,caps,rfl⟩
  all_goals
   go_enter Tryz.func286,Tryz.ntmps286
   go_wp2_with fail
   go_ret
   exact ⟨_,rfl,HS.out.1,HS.out.2⟩
 ·have HS:Hid (aO o (aZ w [([ah C],30),([.slice la l.length lc],32),([tv],88)]) C (bU l t) (.func (.func 290) #[] #[ah (w.heap.size),ah (w.heap.size+1),ah (w.heap.size+1+1)])∧Keep none_ w (aZ w [([ah C],30),([.slice la l.length lc],32),([tv],88)])):=⟨by unfold bU;rw [if_neg hs];exact HE.out.1,hn.2⟩
  have hlp:=List.length_pos_iff.2 hs
  have d0:((l.length:Int)==0)=false:=by simp;omega
  clear hs hlp
  generalize l.length=ll at *
  have hform:=ht.forms
  clear hn hf ht HE hr
  rcases hform with rfl|⟨fn,first,caps,rfl⟩
  all_goals
   go_enter Tryz.func286,Tryz.ntmps286
   go_wp2_with fail
   go_ret
   exact ⟨_,rfl,HS.out.1,HS.out.2⟩
theorem zy (hf:Fut o w) (C:Nat)  {t:CD} {tv:Value} (ht:aO o w C t tv):Calls Tryz.prog 291 #[.pointer (some ⟨C,0,none⟩),tv] w fun e w'=>∃ nv,e = .returned nv∧aO o w' C (.empty t) nv∧Keep none_ w w':=by
 have hn:=fG (o:=o) [([ah C],30),([tv],88)] w hf
 have HE:Hid (aO o (aZ w [([ah C],30),([tv],88)]) C (.empty t) (.func (.func 295) #[] #[ah (w.heap.size),ah (w.heap.size+1)])∧Keep none_ w (aZ w [([ah C],30),([tv],88)])):=by
  obtain ⟨b0,b1,e,⟨o0,k0⟩,⟨o1,k1⟩⟩:=caps2 hn.1
  simp only [idxs,List.cons.injEq] at e
  obtain ⟨rfl,rfl,_⟩:=e
  exact ⟨⟨tv,ht.still hn.2,[w.heap.size,w.heap.size+1],rfl,_,_,rfl,o0,k0,_,_,rfl,o1,k1,rfl⟩,hn.2⟩
 have hmf:=gV
 have hform:=ht.forms
 clear hn hf ht
 rcases hform with rfl|⟨fn,first,caps,rfl⟩
 all_goals
  go_enter Tryz.func291,Tryz.ntmps291
  go_wp2_with fail
  go_ret
  exact ⟨_,rfl,HE.out.1,HE.out.2⟩
end
end
section
attribute [local go_sem ↓] jZ
attribute [local go_sem] Oper.semAt_some
open Go.RowKit
theorem Aj:∀ args w,(callFunc 270 args).run Tryz.prog w = .ok (.enter 270 args) w:=fun args w=>by simp [callFunc,Tryz.func270,go_sem];rfl
theorem zA:∀ args w,(callFunc 262 args).run Tryz.prog w = .ok (.enter 262 args) w:=fun args w=>by simp [callFunc,Tryz.func262,go_sem];rfl
theorem zB:∀ args w,(callFunc 282 args).run Tryz.prog w = .ok (.enter 282 args) w:=fun args w=>by simp [callFunc,Tryz.func282,go_sem];rfl
theorem BO (K fn:Nat) (caps:Array Value) (hcf:∀ args w,(callFunc fn args).run Tryz.prog w = .ok (.enter fn args) w) (w:World) (R:Bool→World→Prop) (h:Calls Tryz.prog fn caps w fun e w'=>∃ b,e = .returned (.bool b)∧R b w') :
 Calls Tryz.prog 261 #[.pointer (some ⟨K,0,none⟩),.func (.func fn) #[] caps] w fun e w'=>∃ b,e = .returned (.bool b)∧R b w':=by
 have H:=Lib.hid h
 clear h
 go_enter Tryz.func261,Tryz.ntmps261
 go_wp2_with fail
 refine H.out.mono ?_
 rintro e w1 ⟨b,rfl,hr⟩
 have HR:=Lib.hid hr
 clear hr H
 go_wp2_with fail
 go_ret
 exact ⟨b,rfl,HR.out⟩
theorem Nj (K fn:Nat) (caps:Array Value) (hcf:∀ args w,(callFunc fn args).run Tryz.prog w = .ok (.enter fn args) w) (w:World) (R:Int→World→Prop) (h:Calls Tryz.prog fn caps w fun e w'=>∃ b,e = .returned (.int .i64 b)∧R b w') :
 Calls Tryz.prog 269 #[.pointer (some ⟨K,0,none⟩),.func (.func fn) #[] caps] w fun e w'=>∃ b,e = .returned (.int .i64 b)∧R b w':=by
 have H:=Lib.hid h
 clear h
 go_enter Tryz.func269,Tryz.ntmps269
 go_wp2_with fail
 refine H.out.mono ?_
 rintro e w1 ⟨b,rfl,hr⟩
 have HR:=Lib.hid hr
 clear hr H
 go_wp2_with fail
 go_ret
 exact ⟨b,rfl,HR.out⟩
section
variable {o:Ow} {w w':World} {K room:Nat} {ov:Bool} {l:List Nat}
theorem eu.still (h:eu o w K room ov l) (k:Keep none_ w w'):eu o w' K room ov l:=by
 obtain ⟨v,h1,h2,h3⟩:=h
 exact ⟨v,k.blk h1 (fun f=>f),fA h2 k,h3⟩
theorem eu.form (h:eu o w K room ov l):∃ a c,w.cell? ⟨K,0,none⟩=some (.slice a l.length c):=by
 obtain ⟨v,h1,h2,h3⟩:=h
 obtain ⟨a,c,rfl,_⟩:=jk h2
 exact ⟨a,c,h1.cell 0 rfl⟩
theorem GZ (h:eu o w K room ov l) (b:Nat) (hb:Blk w b [.pointer (some ⟨K,0,none⟩)] 86):Calls Tryz.prog 270 #[.pointer (some ⟨b,0,none⟩)] w fun e w'=>e = .returned (.int .i64 (l.length:Int))∧w=w':=by
 obtain ⟨a,c,y0⟩:=h.form
 have z0:=hb.cell 0 rfl
 generalize l.length=n at *
 clear h hb
 go_enter Tryz.func270,Tryz.ntmps270
 go_wp2_with fail
 go_ret
 exact ⟨rfl,rfl⟩
theorem tN (h:eu o w K room ov l):Calls Tryz.prog 255 #[.pointer (some ⟨K,0,none⟩)] w fun e w'=>e = .returned (.int .i64 (l.length:Int))∧Keep none_ w w':=by
 obtain ⟨W0,hW0⟩:∃ W',W'=w.alloc (.cells #[.pointer (some ⟨K,0,none⟩)] 86):=⟨_,rfl⟩
 have hk:Keep none_ w W0:=by rw [hW0];exact (Keep.refl _ _).alloc _
 have hb:Blk W0 w.heap.size [.pointer (some ⟨K,0,none⟩)] 86:=by rw [hW0];exact Blk.new w _ _
 have HC:=Lib.hid (Nj K 270 #[.pointer (some ⟨w.heap.size,0,none⟩)] Aj W0 (fun b w'=>b=(l.length:Int)∧W0=w') ((GZ (h.still hk) w.heap.size hb).mono (fun e w' ⟨h1,h2⟩=>⟨_,h1,rfl,h2⟩)))
 have HK:=Lib.hid hk
 have HW:=Lib.hid hW0
 have z0:=hb.cell 0 rfl
 have hmf:=gV
 clear h hk hb hW0
 go_enter Tryz.func255,Tryz.ntmps255
 go_wp2_with fail
 rw [← HW.out]
 go_wp2_with fail
 refine HC.out.mono ?_
 rintro e w1 ⟨b,rfl,rfl,rfl⟩
 go_wp2_with fail
 go_ret
 exact ⟨rfl,HK.out⟩
theorem JQ (h:eu o w K room ov []):Calls Tryz.prog 241 #[.pointer (some ⟨K,0,none⟩)] w fun e w'=>e = .returned (.tuple #[.int .i64 0,.bool false])∧Keep none_ w w':=by
 have HL:Hid (Calls Tryz.prog 255 #[.pointer (some ⟨K,0,none⟩)] w fun e w'=>e = .returned (.int .i64 0)∧Keep none_ w w'):=tN h
 clear h
 go_enter Tryz.func241,Tryz.ntmps241
 go_wp2_with fail
 refine HL.out.mono ?_
 rintro e w1 ⟨rfl,k1⟩
 have HK:=Lib.hid k1
 clear k1 HL
 go_wp2_with fail
 go_ret2
 exact ⟨rfl,HK.out⟩
theorem PK {base g c n:Nat} {T:TypeId} {xs:List Value} {x:Value} (h:w.ownsRow base T 1 (.slice (some ⟨g,0,none⟩) (n+1) c) (n+1) (xs++[x])):w.ownsRow base T 1 (.slice (some ⟨g,0,none⟩) n c) n xs:=by
 obtain ⟨h1,h2⟩:=h
 rcases h2 with ⟨h2,_⟩|⟨g',c',cur,h2,h3,h4,h5,h6,h7,h8⟩
 ·cases h2
 ·cases h2
  have hl:xs.length=n:=by simp at h1;omega
  refine ⟨by omega,.inr ⟨g,c,cur,rfl,h3,h4,by omega,h6,h7,?_⟩⟩
  have e:=congrArg (List.take n) h8
  rw [List.take_take] at e
  rw [show n*1=n by omega,← show min n ((n+1)*1)=n by omega,e,List.take_append_of_le_length (by omega),List.take_of_length_le (by omega)]
theorem PL {α:Type} (l:List α) (x:α) (h:l.getLast?=some x):l=l.dropLast++[x]:=by
 have hne:l≠[]:=fun e=>by rw [e] at h;cases h
 have h2:=List.getLast?_eq_some_getLast hne
 rw [h] at h2
 injection h2 with h2
 rw [h2]
 exact (List.dropLast_concat_getLast hne).symm
theorem G5 (h:eu o w K room ov l) (hm:l.length≤100000) (x:Nat) (hx:l.getLast?=some x):Calls Tryz.prog 241 #[.pointer (some ⟨K,0,none⟩)] w fun e w'=>e = .returned (.tuple #[.int .i64 (x:Int),.bool true])∧eu o w' K room ov l.dropLast∧Keep (only K) w w':=by
 have HL:=Lib.hid (tN h)
 have el:=PL l x hx
 obtain ⟨xs,hxs⟩:∃ xs,xs=l.dropLast:=⟨_,rfl⟩
 rw [← hxs] at el ⊢
 subst el
 clear hx hxs
 have HS:=Lib.hid h
 obtain ⟨n,hn⟩:∃ n,n=xs.length:=⟨_,rfl⟩
 have hlen:(xs++[x]).length=n+1:=by simp [hn]
 rw [hlen] at HL
 have HST:Hid (∀ W,Keep none_ w W→∃ g c,W.cell? ⟨K,0,none⟩=some (.slice (some ⟨g,0,none⟩) (n+1) c)∧W.cell? ⟨g,n,none⟩=some (.int .i64 (x:Int))∧W.frozen? ⟨K,0,none⟩=false∧n+1≤c∧eu o (W.setCell ⟨K,0,none⟩ (.slice (some ⟨g,0,none⟩) n c)) K room ov xs):=fun W hW=>by
  obtain ⟨v,h1,h2,h3⟩:=HS.out.still hW
  have h2':=h2
  rw [hlen] at h2'
  rcases h2'.2 with ⟨_,h4⟩|⟨g,c,cur,rfl,h4,h5,h6,h7,h8,h9⟩
  ·omega
  ·have e:aC (xs++[x])=aC xs++[.int .i64 (x:Int)]:=by simp [aC]
   rw [e] at h2'
   have hcell:=h2'.cells (g:=g) rfl n (.int .i64 (x:Int)) (by rw [List.getElem?_append_right (by simp [aC,hn])];simp [aC,hn])
   have ea:(⟨g,0,none⟩:Addr).add n=⟨g,n,none⟩:=by simp only [Addr.add];split<;>simp_all
   rw [ea] at hcell
   have hne:g≠K:=fun e=>own_ne h1 h2 (by decide) (by rw [← e];rfl)
   refine ⟨g,c,h1.cell 0 rfl,hcell,h1.free 0,h6,.slice (some ⟨g,0,none⟩) n c,h1.set 0 _,?_,fun b hb=>?_⟩
   ·rw [← hn]
    exact oz (PK h2') (fun b hb=>by simp [Value.ownBlock] at hb;show b≠K;omega) _
   ·exact h3 b hb
 have hnb:n≤100000:=by omega
 have hw1:IntKind.i64.wrap ((n:Int)+1 - 1)=(n:Int):=by rw [show (n:Int)+1 - 1=(n:Int) by omega];exact IntWalk.i64_in _ (by omega)
 have hn0:¬ ((n:Int)<0):=by omega
 have d0:decide ((n:Int)<0)=false:=decide_eq_false hn0
 rw [show (((n+1:Nat)):Int)=(n:Int)+1 from by push_cast;rfl] at HL
 clear h HS hlen hn hm
 go_enter Tryz.func241,Tryz.ntmps241
 go_wp2_with fail
 refine HL.out.mono ?_
 rintro e w1 ⟨rfl,k1⟩
 obtain ⟨g,c,y0,y1,f0,hc,hst⟩:=HST.out w1 k1
 have hsl:∀ W:World,(Instr.slice 32 (.slice (some ⟨g,0,none⟩) (n+1) c) none (some (.int .i64 (n:Int))) none).run Tryz.prog W = .ok (.slice (some ⟨g,0,none⟩) n c) W:=fun W=>by
  have ht:Tryz.prog.underlying 32=some (.slice 3):=by kernel_rfl
  have hi:(Tryz.prog.info? 3).map (·.size)=some 1:=by kernel_rfl
  obtain ⟨i,hi1,hi2⟩:=Option.map_eq_some_iff.1 hi
  have h1:¬ c<n:=by omega
  simp [Instr.slice,run_underlying ht,sizeOf,typeInfo,hi1,hi2,go_sem,h1,Addr.add]
 have HE:Hid (eu o (w1.setCell ⟨K,0,none⟩ (.slice (some ⟨g,0,none⟩) n c)) K room ov xs∧Keep (only K) w (w1.setCell ⟨K,0,none⟩ (.slice (some ⟨g,0,none⟩) n c))):=⟨hst,(k1.mono (fun _ _ f=>f.elim)).put 0 _⟩
 have hlt:n<n+1:=Nat.lt_succ_self n
 clear hst k1 HL HST
 go_wp2_with fail
 go_ret2
 exact ⟨rfl,HE.out.1,HE.out.2⟩
theorem G6 (h:eu o w K room ov l):Calls Tryz.prog 273 #[.pointer (some ⟨K,0,none⟩)] w fun e w'=>e = .returned (.bool ov)∧eu o w' K room false l∧Keep (only K) w w':=by
 obtain ⟨W0,hW0⟩:∃ W',W'=w.alloc (.cells #[.pointer (some ⟨K,0,none⟩)] 86):=⟨_,rfl⟩
 have hk:Keep none_ w W0:=by rw [hW0];exact (Keep.refl _ _).alloc _
 have hb:Blk W0 w.heap.size [.pointer (some ⟨K,0,none⟩)] 86:=by rw [hW0];exact Blk.new w _ _
 have hs0:=h.still hk
 have HC1:Hid (Calls Tryz.prog 282 #[.pointer (some ⟨w.heap.size,0,none⟩)] W0 fun e w'=>e = .returned (.bool ov)∧eu o w' K room false l∧Keep (only K) W0 w'):=by
  obtain ⟨v,h1,h2,h3⟩:=hs0
  have y2:=h1.cell 2 rfl
  have f2:=h1.free 2
  have z0:=hb.cell 0 (v := .pointer (some ⟨K,0,none⟩)) rfl
  have hne:w.heap.size≠K:=fun e=>by
   rw [e] at hb
   exact absurd (hb.uniq h1).2 (by decide)
  have z1:∀ u,(W0.setCell ⟨K,2,none⟩ u).cell? ⟨w.heap.size,0,none⟩=some (.pointer (some ⟨K,0,none⟩)):=fun u=>(hb.other (a:=⟨K,2,none⟩) hne u).cell 0 rfl
  have HE:Hid (eu o (W0.setCell ⟨K,2,none⟩ (.bool false)) K room false l∧Keep (only K) W0 (W0.setCell ⟨K,2,none⟩ (.bool false))) :=
   ⟨⟨v,h1.set 2 _,fD h2 ((Keep.refl (only K) _).put 2 _) (fun b hb e=>own_ne h1 h2 (by decide) (by rw [hb];exact congrArg some e)),h3⟩,(Keep.refl (only K) _).put 2 _⟩
  clear h h1 h2 h3 hk hb hW0 hne
  go_enter Tryz.func282,Tryz.ntmps282
  go_wp2_with fail
  go_ret
  exact ⟨rfl,HE.out.1,HE.out.2⟩
 have HC:=Lib.hid (BO K 282 #[.pointer (some ⟨w.heap.size,0,none⟩)] zB W0 (fun b w'=>b=ov∧eu o w' K room false l∧Keep (only K) W0 w') (HC1.out.mono (fun e w' ⟨h1,h2⟩=>⟨_,h1,rfl,h2⟩)))
 have HK:=Lib.hid hk
 have HW:=Lib.hid hW0
 have z0:=hb.cell 0 rfl
 have hmf:=gV
 clear h hk hb hW0 hs0 HC1
 go_enter Tryz.func273,Tryz.ntmps273
 go_wp2_with fail
 rw [← HW.out]
 go_wp2_with fail
 refine HC.out.mono ?_
 rintro e w1 ⟨b,rfl,rfl,h1,k1⟩
 have HE:=Lib.hid (And.intro h1 ((HK.out.mono (fun _ _ f=>f.elim)).trans k1))
 clear h1 k1 HC
 go_wp2_with fail
 go_ret
 exact ⟨rfl,HE.out.1,HE.out.2⟩
end
section
variable {o:Ow} {w w':World} {K room:Nat} {ov:Bool} {l:List Nat}
def PN (w:World) (K:Nat):Nat→Prop:=fun b=>b=K∨∃ v,w.cell? ⟨K,0,none⟩=some v∧v.ownBlock=some b
theorem Dn (h:eu o w K room ov l) (hf:l.length=room) (x b0 b1:Nat) (hb0:Blk w b0 [.pointer (some ⟨K,0,none⟩)] 86) (hb1:Blk w b1 [.int .i64 (x:Int)] 3):Calls Tryz.prog 262 #[.pointer (some ⟨b0,0,none⟩),.pointer (some ⟨b1,0,none⟩)] w fun e w'=>e = .returned (.bool false)∧eu o w' K room true l∧Keep (only K) w w':=by
 obtain ⟨v,h1,h2,h3⟩:=h
 obtain ⟨a,c,rfl,_⟩:=jk h2
 have y0:=h1.cell 0 (v := .slice a l.length c) rfl
 have y1:=h1.cell 1 rfl
 have y2:=h1.cell 2 rfl
 have f2:=h1.free 2
 have z0:=hb0.cell 0 (v := .pointer (some ⟨K,0,none⟩)) rfl
 have z1:=hb1.cell 0 (v := .int .i64 (x:Int)) rfl
 have d0:((l.length:Int)==(room:Int))=true:=by simp;omega
 have HE:Hid (∀ V,Keep none_ w V→V.cell? ⟨b0,0,none⟩=some (.pointer (some ⟨K,0,none⟩))∧V.cell? ⟨K,2,none⟩=some (.bool ov)∧V.frozen? ⟨K,2,none⟩=false∧eu o (V.setCell ⟨K,2,none⟩ (.bool true)) K room true l∧Keep (only K) w (V.setCell ⟨K,2,none⟩ (.bool true))):=fun V hV=>by
  have g1:=hV.blk h1 (fun f=>f)
  have g2:=fA h2 hV
  exact ⟨(hV.blk hb0 (fun f=>f)).cell 0 rfl,g1.cell 2 rfl,g1.free 2,⟨_,g1.set 2 _,fD g2 ((Keep.refl (only K) _).put 2 _) (fun b hb e=>own_ne g1 g2 (by decide) (by rw [hb];exact congrArg some e)),h3⟩,(hV.mono (fun _ _ f=>f.elim)).put 2 _⟩
 generalize l.length=n at *
 clear h1 h2 h3 hb0 hb1 hf
 go_enter Tryz.func262,Tryz.ntmps262
 go_wp2_with fail
 go_quiet (fail)
 have HK:Hid (Keep none_ w (w.drewN nq)):=(Keep.refl _ _).drewN _
 obtain ⟨g0,g1,g2,g3,g4⟩:=HE.out _ HK.out
 have HG:=Lib.hid (And.intro g3 g4)
 clear g3 g4 y0 y1 y2 f2 z0 z1 HE HK
 go_wp2_with fail
 go_ret
 exact ⟨rfl,HG.out.1,HG.out.2⟩
theorem Dp (h:eu o w K room ov l) (hf:l.length≠room) (hm:l.length≤100000) (hF:Fut o w) (hK:o K=5) (x b0 b1:Nat) (hb0:Blk w b0 [.pointer (some ⟨K,0,none⟩)] 86) (hb1:Blk w b1 [.int .i64 (x:Int)] 3):Calls Tryz.prog 262 #[.pointer (some ⟨b0,0,none⟩),.pointer (some ⟨b1,0,none⟩)] w fun e w'=>e = .returned (.bool true)∧∃ o',aH w o o'∧Fut o' w'∧eu o' w' K room ov (l++[x])∧Keep (PN w K) w w':=by
 obtain ⟨v,h1,h2,h3⟩:=h
 obtain ⟨a,c,rfl,_⟩:=jk h2
 have y0:=h1.cell 0 (v := .slice a l.length c) rfl
 have y1:=h1.cell 1 rfl
 have z0:=hb0.cell 0 (v := .pointer (some ⟨K,0,none⟩)) rfl
 have z1:=hb1.cell 0 (v := .int .i64 (x:Int)) rfl
 have d0:((l.length:Int)==(room:Int))=false:=by simp;omega
 have HE:Hid (∀ V,Keep none_ w V→Blk V K [.slice a l.length c,.int .i64 (room:Int),.bool ov] 135∧V.ownsRow 0 3 1 (.slice a l.length c) l.length (aC l)∧Blk V b0 [.pointer (some ⟨K,0,none⟩)] 86∧Blk V b1 [.int .i64 (x:Int)] 3):=fun V hV =>
  ⟨hV.blk h1 (fun f=>f),fA h2 hV,hV.blk hb0 (fun f=>f),hV.blk hb1 (fun f=>f)⟩
 have HO:=Lib.hid h3
 have HF:=Lib.hid hF
 have HM:=Lib.hid hm
 have HKK:=Lib.hid hK
 have HY:=Lib.hid y0
 obtain ⟨n,hn⟩:∃ n,n=l.length:=⟨_,rfl⟩
 have HN:=Lib.hid hn
 rw [← hn] at y0 d0 HE HM HY HO
 clear h1 h2 h3 hb0 hb1 hf hF hm hK hn
 go_enter Tryz.func262,Tryz.ntmps262
 go_wp2_with fail
 go_quiet (fail)
 obtain ⟨V,hV⟩:∃ V,V=w.drewN nq:=⟨_,rfl⟩
 have hk:Keep none_ w V:=by rw [hV];exact (Keep.refl _ _).drewN _
 rw [← hV]
 clear hV y0 y1 z0 z1 nq
 obtain ⟨g1,g2,g3,g4⟩:=HE.out V hk
 obtain ⟨V1,hV1⟩:∃ V1,V1=(V.alloc (.cells #[.int .i64 (x:Int)] 3)).drew:=⟨_,rfl⟩
 have hk1:Keep none_ V V1:=by rw [hV1];exact ((Keep.refl _ _).alloc _).drew
 obtain ⟨g,cap,w5,hrun,hown,hgr,hwh⟩:=mQ (P:=Tryz.prog) V1 32 32 3 (by kernel_rfl) Tryz.infoInt rfl (fA g2 hk1) (N:=V.heap.size) (u := .int .i64 (x:Int)) (by rw [hV1];exact ((Blk.new V _ _).drew).cell 0 rfl) rfl (by decide) (by have:=HM.out;omega)
 have hrun9:(app9 #[32,32] 32 #[.slice a n c,.slice (some ⟨V.heap.size,0,none⟩) 1 1]).run Tryz.prog (V.alloc (.cells #[.int .i64 (x:Int)] 3)).drew = .ok (.slice (some ⟨g,0,none⟩) (n+1) cap) w5:=by rw [← hV1];exact hrun
 have hne:(Value.slice a n c).ownBlock≠some K:=own_ne g1 g2 (by decide)
 have k5:Keep (fun b=>(Value.slice a n c).ownBlock=some b) w w5:=((hk.trans hk1).mono (fun _ _ f=>f.elim)).trans ⟨hgr.os,hgr.tape,hgr.output,hgr.size,fun k hk' hn=>hgr.block k hk' (fun e=>hn e.symm)⟩
 have hg1':=((hk1.blk g1 (fun f=>f)).grown hgr hne)
 have y0:=g1.cell 0 (v := .slice a n c) rfl
 have z0:=g3.cell 0 (v := .pointer (some ⟨K,0,none⟩)) rfl
 have z1:=g4.cell 0 (v := .int .i64 (x:Int)) rfl
 have c1:∀ u,(V.alloc u).cell? ⟨K,0,none⟩=some (.slice a n c):=fun u=>(g1.alloc u).cell 0 rfl
 have c2:∀ u,(V.alloc u).cell? ⟨b0,0,none⟩=some (.pointer (some ⟨K,0,none⟩)):=fun u=>(g3.alloc u).cell 0 rfl
 have c5:=hg1'.cell 0 (v := .slice a n c) rfl
 have f5:=hg1'.free 0
 have z5:=((hk1.blk g3 (fun f=>f)).grown hgr (own_ne g3 g2 (by decide))).cell 0 (v := .pointer (some ⟨K,0,none⟩)) rfl
 have dO:Hid (∃ o',aH w o o'∧Fut o' (w5.setCell ⟨K,0,none⟩ (.slice (some ⟨g,0,none⟩) (n+1) cap))∧eu o' (w5.setCell ⟨K,0,none⟩ (.slice (some ⟨g,0,none⟩) (n+1) cap)) K room ov (l++[x])∧Keep (PN w K) w (w5.setCell ⟨K,0,none⟩ (.slice (some ⟨g,0,none⟩) (n+1) cap))):=by
  have hqb:∃ cur:Array Value,w5.heap[g]?=some (.cells cur 3 (0,0)):=by
   rcases hown.2 with ⟨e1,_⟩|⟨g',cap',cur,e1,_,hg',_⟩
   ·cases e1
   ·cases e1;exact ⟨cur,hg'⟩
  have PS:g<w5.heap.size:=lt_of_block hqb.choose_spec
  have hsz:w.heap.size≤V1.heap.size:=(hk.trans hk1).size
  have hext:aH w o (o.put g 5):=Ow.iM (hwh.elim (fun e => .inr (HO.out g e)) (fun e => .inl (by omega)))
  refine ⟨o.put g 5,hext,?_,⟨.slice (some ⟨g,0,none⟩) (n+1) cap,hg1'.set 0 _,?_,fun b hb=>?_⟩,?_⟩
  ·exact (Ow.kD HF.out k5.size PS).later (by simp)
  ·have e:aC (l++[x])=aC l++[.int .i64 (x:Int)]:=by simp [aC]
   rw [e,List.length_append,← HN.out]
   exact oz hown (fun b hb=>by
    simp [Value.ownBlock] at hb
    subst hb
    intro e
    have e':g=K:=e
    rcases hwh with h9|h9
    ·exact hne (by rw [h9,e'])
    ·have:=(hk1.blk g1 (fun f=>f)).lt
     omega) _
  ·simp [Value.ownBlock] at hb
   rw [← hb]
   exact Ow.jB _ _ _
  ·have kk:Keep (PN w K) w w5:=Keep.mono k5 (fun b _ hb=>Or.inr ⟨_,HY.out,hb⟩)
   exact kk.setCell (p:=⟨K,0,none⟩) (fun _=>Or.inl rfl) _
 clear hown hgr hwh hrun hk1 k5 hg1' hne g1 g2 g3 g4 hk hV1 HE HO HF HM HKK HY HN
 go_wp2_with fail
 go_region
 all_goals
  go_wp2_with fail
  go_ret
  exact ⟨rfl,dO.out⟩
end
section
variable {o o':Ow} {w w':World} {G:Geo} {q:CG} {s:Sh} {c:CS} {ev:Option Ev} {nv:Value}
theorem CAt.zC (h:CAt o w G q s c ev nv):w.cell? ⟨q.C,9,none⟩=some (ah q.K):=h.cell 9 _ rfl
theorem Nk (h:CAt o w G q s c ev nv) (x:Nat) (hl:c.stk.length≤c.room) (hr:c.room≤4096):Calls Tryz.prog 245 #[.pointer (some ⟨q.K,0,none⟩),.int .i64 (x:Int)] w fun e w'=>(∃ b,e = .returned (.bool b))∧∃ o',aH w o o'∧CAt o' w' G q s (c.push x) ev nv∧Keep (In o [5]) w w':=by
 obtain ⟨W0,hW0⟩:∃ W',W'=(w.alloc (.cells #[.pointer (some ⟨q.K,0,none⟩)] 86)).alloc (.cells #[.int .i64 (x:Int)] 3):=⟨_,rfl⟩
 have hk:Keep none_ w W0:=by rw [hW0];exact ((Keep.refl _ _).alloc _).alloc _
 have hb0:Blk W0 w.heap.size [.pointer (some ⟨q.K,0,none⟩)] 86:=by rw [hW0];exact (Blk.new w _ _).alloc _
 have hb1:Blk W0 (w.heap.size+1) [.int .i64 (x:Int)] 3:=by
  rw [hW0]
  have h9:=Blk.new (w.alloc (.cells #[.pointer (some ⟨q.K,0,none⟩)] 86)) [.int .i64 (x:Int)] 3
  rwa [World.size_alloc] at h9
 have h0:=h.still hk
 have HC1:Hid (Calls Tryz.prog 262 #[.pointer (some ⟨w.heap.size,0,none⟩),.pointer (some ⟨w.heap.size+1,0,none⟩)] W0 fun e w'=>∃ b,e = .returned (.bool b)∧∃ o',aH w o o'∧CAt o' w' G q s (c.push x) ev nv∧Keep (In o [5]) w w'):=by
  by_cases hf:c.stk.length=c.room
  ·refine (Dn h0.stk hf x _ _ hb0 hb1).mono ?_
   rintro e w' ⟨rfl,h1,k1⟩
   obtain ⟨h2,k2⟩:=h0.Iq (o':=o) h1 (k1.mono (fun b _ e => .inl e)) (aH.refl _ _) (h0.sh.fut.keep k1)
   refine ⟨false,rfl,o,aH.refl _ _,?_,hk.aF.trans k2⟩
   unfold CS.push
   rw [if_pos hf]
   exact h2
  ·refine (Dp h0.stk hf (by omega) h0.sh.fut h0.oK x _ _ hb0 hb1).mono ?_
   rintro e w' ⟨rfl,o',e1,f1,h1,k1⟩
   obtain ⟨h2,k2⟩:=h0.Iq h1 k1 e1 f1
   refine ⟨true,rfl,o',fun b hb=>e1 b (Nat.lt_of_lt_of_le hb hk.size),?_,hk.aF.trans k2⟩
   unfold CS.push
   rw [if_neg hf]
   exact h2
 have HC:=Lib.hid (BO q.K 262 _ zA W0 _ HC1.out)
 have HW:=Lib.hid hW0
 have z0:=hb0.cell 0 (v := .pointer (some ⟨q.K,0,none⟩)) rfl
 have hmf:=gV
 generalize c.push x=c' at *
 clear h hk hb0 hb1 h0 hW0 HC1 hl hr
 go_enter Tryz.func245,Tryz.ntmps245
 go_wp2_with fail
 rw [← HW.out]
 go_wp2_with fail
 refine HC.out.mono ?_
 rintro e w1 ⟨b,rfl,h1⟩
 have HE:=Lib.hid h1
 clear h1 HC
 go_wp2_with fail
 go_ret
 exact ⟨⟨b,rfl⟩,HE.out⟩
theorem BP (h:CAt o w G q s c ev nv) (hl:c.stk.length≤c.room) (hr:c.room≤4096) (x:Nat) (hx:c.stk.getLast?=some x):Calls Tryz.prog 241 #[.pointer (some ⟨q.K,0,none⟩)] w fun e w'=>e = .returned (.tuple #[.int .i64 (x:Int),.bool true])∧CAt o w' G q s c.pop ev nv∧Keep (In o [5]) w w':=by
 refine (G5 h.stk (by omega) x hx).mono ?_
 rintro e w' ⟨rfl,h1,k1⟩
 obtain ⟨h2,k2⟩:=h.Nh h1 (k1.mono (fun b _ e => .inl e))
 exact ⟨rfl,h2,k2⟩
theorem EO (h:CAt o w G q s c ev nv) (hx:c.stk.getLast?=none):Calls Tryz.prog 241 #[.pointer (some ⟨q.K,0,none⟩)] w fun e w'=>e = .returned (.tuple #[.int .i64 0,.bool false])∧CAt o w' G q s c ev nv∧Keep none_ w w':=by
 have e:c.stk=[]:=by
  cases hc:c.stk with
  | nil=>rfl
  | cons a l=>rw [hc] at hx;simp [List.getLast?] at hx
 have hs:=h.stk
 rw [e] at hs
 refine (JQ hs).mono ?_
 rintro e w' ⟨rfl,k1⟩
 exact ⟨rfl,h.still k1,k1⟩
theorem PU (h:CAt o w G q s c ev nv):Calls Tryz.prog 255 #[.pointer (some ⟨q.K,0,none⟩)] w fun e w'=>e = .returned (.int .i64 (c.stk.length:Int))∧CAt o w' G q s c ev nv∧Keep none_ w w':=by
 refine (tN h.stk).mono ?_
 rintro e w' ⟨rfl,k1⟩
 exact ⟨rfl,h.still k1,k1⟩
theorem Nl (h:CAt o w G q s c ev nv):Calls Tryz.prog 273 #[.pointer (some ⟨q.K,0,none⟩)] w fun e w'=>e = .returned (.bool c.over)∧CAt o w' G q s { c with over:=false } ev nv∧Keep (In o [5]) w w':=by
 refine (G6 h.stk).mono ?_
 rintro e w' ⟨rfl,h1,k1⟩
 obtain ⟨h2,k2⟩:=h.Nh h1 (k1.mono (fun b _ e => .inl e))
 exact ⟨rfl,h2,k2⟩
end
end
end Go.Proofs.YtanfphjoebobaaaGreatDoor
