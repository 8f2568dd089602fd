/- Parts of a walk, put together and made shorter by a small program of mine. No conditions but those that each theorem names. -/
import Derived.Test.YtanfphjoebobaaaGreatDoorZzraj
import Derived.OwnWalk
import Derived.Test.YtanfphjoebobaaaGreatDoorRows
import Derived.Test.YtanfphjoebobaaaGreatDoorZzra
import Derived.WalkKit
import Derived.WalkSpells
import Derived.WalkLawsBesides
import Derived.Lib.Hide
import Derived.Deep.QuietTactic
import Derived.BigQuiet
import Derived.Deep.LoopGhost
namespace Go.Proofs.YtanfphjoebobaaaGreatDoor
section
open Go.RowKit
attribute [local go_sem] Oper.semAt_some
attribute [local go_sem ↓] app9_of
section
variable {o o' o0:Ow} {w w' W W' W0:World} {G:Geo} {gs:List MG} {q:CG} {x y:WS} {v:Value} {N i n:Nat} {l:List Nat} {I:List Nat}
structure CyS (w W0:World) (o0:Ow) (G:Geo) (gs:List MG) (q:CG) (mv:Value) (N:Nat) (W:World) (o:Ow) (x:WS) (fv pv:Value) (fr ph:List Nat):Prop where
 cw:CW w W o G gs q x
 ok:WOk N x
 few:fewW x
 cx:CX W0 o0 W o
 mv:MutsV o W mv gs
 f:IntsV 98 o W fv fr
 p:IntsV 99 o W pv ph
theorem CyS.still {mv fv pv:Value} {fr ph:List Nat} (h:CyS w W0 o0 G gs q mv N W o x fv pv fr ph) (k:Keep none_ W W'):CyS w W0 o0 G gs q mv N W' o x fv pv fr ph :=
 ⟨h.cw.stillE k,h.ok,h.few,h.cx.step (I:=[]) k.noneO (OExt.refl _ _) (fun _ ha=>by cases ha),h.mv.keep (I:=[]) k.noneO rfl (OExt.refl _ _),h.f.keep (I:=[]) k.noneO rfl (OExt.refl _ _),h.p.keep (I:=[]) k.noneO rfl (OExt.refl _ _)⟩
theorem CyS.pick {mv fv pv:Value} {fr ph:List Nat} (h:CyS w W0 o0 G gs q mv N W o x fv pv fr ph) (hN:N≤1000000000) {i:Nat} {g:MG} {m:MS} (hg:gs[i]?=some g) (hm:x.muts[i]?=some m):Calls Tryz.prog 24 #[.pointer (some ⟨g.M,0,none⟩)] W fun e W'=>(∃ v1 v2,e = .returned (.tuple #[v1,v2]))∧∃ o',CyS w W0 o0 G gs q mv (N+1) W' o' (pickW x i) fv pv fr ph:=by
 have hi8:i<8:=by
  obtain ⟨g1,g2⟩:=h.cw.mut_ i g m hg hm
  have:=g1.idl;omega
 have hsub:=stepI_sub i hi8
 have h98:(stepI i).contains 98=false:=by simp [stepI];omega
 have h99:(stepI i).contains 99=false:=by simp [stepI];omega
 have h97:(stepI i).contains 97=false:=by simp [stepI];omega
 refine (h.cw.pick h.ok hN hg hm (stepH_few _ (h.few m (List.mem_of_getElem? hm)).1)).mono ?_
 rintro e W' ⟨rfl,o',eo,hc,k⟩
 exact ⟨⟨_,_,rfl⟩,o',hc,pickW_ok h.ok h.cw.coll.sh.heap.hbd i,few_pickW h.few i,h.cx.step k eo hsub,h.mv.keep k h97 eo,h.f.keep k h98 eo,h.p.keep k h99 eo⟩
theorem CyS.coll {mv fv pv:Value} {fr ph:List Nat} (h:CyS w W0 o0 G gs q mv N W o x fv pv fr ph) (hN:N≤1000000000):Calls Tryz.prog 12 #[.pointer (some ⟨q.C,0,none⟩)] W fun e W'=>e = .returned (.tuple #[evAgg (pickC x.s x.coll).ev,evTold (pickC x.s x.coll).ev])∧∃ o',CyS w W0 o0 G gs q mv (N+1) W' o' (pickW x x.muts.length) fv pv fr ph:=by
 refine (h.cw.pickColl h.ok hN).mono ?_
 rintro e W' ⟨rfl,o',eo,hc,k⟩
 exact ⟨rfl,o',hc,pickW_ok h.ok h.cw.coll.sh.heap.hbd _,few_pickW h.few _,h.cx.step k eo collI_sub,h.mv.keep k rfl eo,h.f.keep k rfl eo,h.p.keep k rfl eo⟩
theorem CyS.growP {mv fv pv:Value} {fr ph:List Nat} (h:CyS w W0 o0 G gs q mv N W o x fv pv fr ph) {M u:Nat} (hM:W.cell? ⟨M,0,none⟩=some (.int .i64 (u:Int))) (hl:ph.length≤100000000000):∃ b cap W5,(app9 #[32,32] 32 #[pv,.slice (some ⟨M,0,none⟩) 1 1]).run Tryz.prog W = .ok (.slice (some ⟨b,0,none⟩) (ph.length+1) cap) W5 ∧
 ∃ o',CyS w W0 o0 G gs q mv N W5 o' x fv (.slice (some ⟨b,0,none⟩) (ph.length+1) cap) fr (ph++[u])∧Keep (In o [99]) W W5∧OExt W o o':=by
 obtain ⟨b,cap,W5,hrun,o',eo,hc,hp,k⟩:=h.p.grow h.cw (by decide) hM hl
 refine ⟨b,cap,W5,hrun,o',?_,k,eo⟩
 exact ⟨hc,h.ok,h.few,h.cx.step k eo (by decide),h.mv.keep k rfl eo,h.f.keep k rfl eo,hp⟩
theorem CyS.growF {mv fv pv:Value} {fr ph:List Nat} (h:CyS w W0 o0 G gs q mv N W o x fv pv fr ph) {M u:Nat} (hM:W.cell? ⟨M,0,none⟩=some (.int .i64 (u:Int))) (hl:fr.length≤100000000000):∃ b cap W5,(app9 #[32,32] 32 #[fv,.slice (some ⟨M,0,none⟩) 1 1]).run Tryz.prog W = .ok (.slice (some ⟨b,0,none⟩) (fr.length+1) cap) W5 ∧
 ∃ o',CyS w W0 o0 G gs q mv N W5 o' x (.slice (some ⟨b,0,none⟩) (fr.length+1) cap) pv (fr++[u]) ph∧Keep (In o [98]) W W5:=by
 obtain ⟨b,cap,W5,hrun,o',eo,hc,hp,k⟩:=h.f.grow h.cw (by decide) hM hl
 refine ⟨b,cap,W5,hrun,o',?_,k⟩
 exact ⟨hc,h.ok,h.few,h.cx.step k eo (by decide),h.mv.keep k rfl eo,hp,h.p.keep k rfl eo⟩
theorem CyS.more {mv fv pv:Value} {fr ph:List Nat} {M:Nat} (h:CyS w W0 o0 G gs q mv N W o x fv pv fr ph) (hM:N≤M):CyS w W0 o0 G gs q mv M W o x fv pv fr ph:=⟨h.cw,h.ok.more hM,h.few,h.cx,h.mv,h.f,h.p⟩
theorem wishW_eq (x:WS):pickW x (x.muts.length+1)={ x with coll:={ x.coll with wish:=true },picks:=x.picks+1 }:=by
 unfold pickW
 rw [List.getElem?_eq_none (by omega)]
 simp only
 rw [if_neg (by omega)]
 rfl
theorem phN_ne {ph:List Nat} {k:Nat} (h:ph≠[]):∃ u,ph[ph.length - 1]?=some u∧phN ph k=if k≠u then ph++[k] else ph:=by
 obtain ⟨l,a,rfl⟩:=(List.eq_nil_or_concat ph).resolve_left h
 refine ⟨a,?_,?_⟩
 ·simp
 ·unfold phN
  rw [List.concat_eq_append,List.getLastD_concat]
theorem phN_pos {ph:List Nat} {k:Nat} (h:ph≠[]):phN ph k≠[]∧(phN ph k).length≤ph.length+1:=by
 unfold phN
 split
 ·exact ⟨by simp,by simp⟩
 ·exact ⟨h,Nat.le_succ _⟩
def CycP (w W0:World) (o0:Ow) (G:Geo) (gs:List MG) (q:CG) (mv:Value) (N most:Nat) (x:WS) (e:Ending) (W':World):Prop :=
 ∃ (fv pv:Value) (o':Ow),e = .returned (.tuple #[fv,pv,.bool (cycRun gs.length most (pickW x (x.muts.length+1)) [] [x.coll.phase]).2.2.1])∧CyS w W0 o0 G gs q mv (N+1+most*(gs.length+1)) W' o' (cycRun gs.length most (pickW x (x.muts.length+1)) [] [x.coll.phase]).2.2.2 fv pv (cycRun gs.length most (pickW x (x.muts.length+1)) [] [x.coll.phase]).1 (cycRun gs.length most (pickW x (x.muts.length+1)) [] [x.coll.phase]).2.1
set_option maxRecDepth 8000 in
set_option maxHeartbeats 8000000 in
theorem cycle_any {mv:Value} (h:CW w W o G gs q x) (ok:WOk N x) (hfew:fewW x) (hmv:MutsV o W mv gs) (most:Nat) (hN:N+1+most*9≤1000000000):Calls Tryz.prog 27 #[.pointer (some ⟨q.C,0,none⟩),mv,.int .i64 (most:Int)] W (CycP w W o G gs q mv N most x):=by
 obtain ⟨ma,mc,rfl,_⟩:=hmv.form
 have hlen:=h.len
 obtain ⟨n,hn⟩:∃ n,n=gs.length:=⟨_,rfl⟩
 rw [← hn] at hmv
 have hn8:n≤8:=by
  rcases Nat.eq_zero_or_pos n with e|e
  ·omega
  ·obtain ⟨g,hg⟩:∃ g,gs[n - 1]?=some g:=⟨gs[n - 1]'(by omega),List.getElem?_eq_getElem _⟩
   obtain ⟨m,hm⟩:∃ m,x.muts[n - 1]?=some m:=⟨x.muts[n - 1]'(by omega),List.getElem?_eq_getElem _⟩
   obtain ⟨g1,g2⟩:=h.mut_ (n - 1) g m hg hm
   have:=g1.idl;omega
 have hmul:most*(n+1)≤most*9:=Nat.mul_le_mul_left _ (by omega)
 have HPH:Hid (Calls Tryz.prog 17 #[.pointer (some ⟨q.C,0,none⟩)] W fun e w'=>e = .returned (.int .i64 (x.coll.phase:Int))∧W=w'):=cPhase_any h.coll
 have hW1:∀ W1,W1=W.alloc (.cells #[.int .i64 (x.coll.phase:Int)] 3)→CyS w W o G gs q (.slice ma n mc) N W1 (o.put W.heap.size 99) x (.slice none 0 0) (.slice (some ⟨W.heap.size,0,none⟩) 1 1) [] [x.coll.phase]:=fun W1 hW1=>by
  have k1:Keep none_ W W1:=by rw [hW1];exact (Keep.refl _ _).alloc _
  have hb:Blk W1 W.heap.size [.int .i64 (x.coll.phase:Int)] 3:=by rw [hW1];exact Blk.new W _ _
  obtain ⟨c1,c2⟩:=h.own k1 (Nat.le_refl _) hb.lt 99
  exact ⟨c1,ok,hfew,(CX.refl W o).step (I:=[]) k1.noneO c2 (fun _ ha=>by cases ha),hmv.keep (I:=[]) k1.noneO rfl c2,IntsV.nil 98 _ _,IntsV.new o 99 x.coll.phase W.heap.size hb⟩
 have HWI:Hid (∀ W1,W1=W.alloc (.cells #[.int .i64 (x.coll.phase:Int)] 3)→Calls Tryz.prog 14 #[.pointer (some ⟨q.C,0,none⟩)] W1 fun e w'=>e = .returned (.tuple #[])∧∃ o',CyS w W o G gs q (.slice ma n mc) (N+1) w' o' (pickW x (x.muts.length+1)) (.slice none 0 0) (.slice (some ⟨W.heap.size,0,none⟩) 1 1) [] [x.coll.phase]):=fun W1 e1=>by
  have hs:=hW1 W1 e1
  refine hs.cw.wish.mono ?_
  rintro e w' ⟨rfl,hc,k⟩
  exact ⟨rfl,_,hc,pickW_ok ok h.coll.sh.heap.hbd _,few_pickW hfew _,hs.cx.step k (OExt.refl _ _) (by decide),hs.mv.keep k rfl (OExt.refl _ _),hs.f.keep k rfl (OExt.refl _ _),hs.p.keep k rfl (OExt.refl _ _)⟩
 have HFIN:Hid (∀ W' (fv pv:Value) (fr ph:List Nat) (okk:Bool) (z:WS) (o':Ow),cycRun n most (pickW x (x.muts.length+1)) [] [x.coll.phase]=(fr,ph,okk,z)→CyS w W o G gs q (.slice ma n mc) (N+1+most*(n+1)) W' o' z fv pv fr ph→CycP w W o G gs q (.slice ma n mc) N most x (.returned (.tuple #[fv,pv,.bool okk])) W'):=fun W' fv pv fr ph okk z o' e hs=>by
  unfold CycP
  rw [← hn,e]
  exact ⟨fv,pv,o',rfl,hs⟩
 have hml:∀ j,(mutsW j (pickW x (x.muts.length+1))).muts.length=n:=fun j=>by
  rw [mutsW_len,wishW_eq];exact hlen.symm.trans hn.symm
 have HNL:Hid (n=gs.length):=hn
 have hx0l:(pickW x (x.muts.length+1)).muts.length=n:=hml 0
 rw [← hn]
 generalize CycP w W o G gs q (.slice ma n mc) N most x=PO at *
 generalize hx0:pickW x (x.muts.length+1)=x0 at *
 clear h ok hfew hmv hlen hW1 hml hn
 go_enter Tryz.func27,Tryz.ntmps27
 go_wp2_with fail
 refine HPH.out.mono ?_
 rintro e w1 ⟨rfl,rfl⟩
 obtain ⟨W1,hW1⟩:∃ W1,W1=W.alloc (.cells #[.int .i64 (x.coll.phase:Int)] 3):=⟨_,rfl⟩
 have HW1:=Lib.hid hW1
 have HWI1:=Lib.hid (HWI.out W1 hW1)
 clear hW1 HWI HPH
 go_wp2_with fail
 rw [← HW1.out]
 refine HWI1.out.mono ?_
 rintro e w2 ⟨rfl,o2,hs2⟩
 have HS2:=Lib.hid hs2
 clear hs2 HWI1 HW1
 go_wp2_with fail
 go_loopw [9,10,11,12,13,14,15] (fun fv pv iv _ _ _ _ wr=>∃ (t:Nat) (z:WS) (fr ph:List Nat) (o':Ow) (fv' pv':Value),fv'=fv∧pv'=pv∧t≤most∧iv = .int .i64 t∧CyS w W o G gs q (.slice ma n mc) (N+1+t*(n+1)) wr o' z fv pv fr ph∧ph≠[]∧fr.length≤t∧ph.length≤t+1∧z.muts.length=n∧cycRun n (most - t) z fr ph=cycRun n most x0 [] [x.coll.phase]) (fun _ _ iv _ _ _ _ _=>most - (intOf iv).toNat)
 case atStart=>exact ⟨0,x0,[],[x.coll.phase],o2,_,_,rfl,rfl,Nat.zero_le _,rfl,HS2.out.more (by omega),by simp,Nat.le_refl _,Nat.le_refl _,hx0l,rfl⟩
 case round =>
  obtain ⟨t,z,fr,ph,o3,fv,pv,hfv,hpv,ht,rfl,hs,hph,hfl,hpl,hzl,hrun⟩:=hrel
  subst hfv hpv
  have hm1:t*(n+1)≤most*(n+1):=Nat.mul_le_mul_right _ ht
  by_cases htm:t<most
  ·have htI : (t:Int)<(most:Int):=by omega
   have hm2:(t+1)*(n+1)≤most*(n+1):=Nat.mul_le_mul_right _ htm
   rw [Nat.add_mul,Nat.one_mul] at hm2
   have HM2:Hid (N+1+(t+1)*(n+1)≤N+1+most*(n+1)):=Nat.add_le_add_left (Nat.mul_le_mul_right _ htm) _
   have HNB:Hid (N+1+t*(n+1)+(n+1)≤1000000000):=by show _≤_;omega
   have HS:=Lib.hid hs
   have HT:Hid (ph≠[]∧fr.length≤t∧ph.length≤t+1∧cycRun n (most - t) z fr ph=cycRun n most x0 [] [x.coll.phase]):=⟨hph,hfl,hpl,hrun⟩
   have HYL:Hid (∀ j,(mutsW j z).muts.length=n):=fun j=>(mutsW_len j z).trans hzl
   clear hs hph hfl hpl hrun hm1 hm2 hzl
   go_wp2_with fail
   go_loopw [12] (fun iv wr=>∃ (j:Nat) (o':Ow),j≤n∧iv = .int .i64 j∧CyS w W o G gs q (.slice ma n mc) (N+1+t*(n+1)+j) wr o' (mutsW j z) fv pv fr ph) (fun iv _=>n - (intOf iv).toNat)
   case atStart=>exact ⟨0,o3,Nat.zero_le _,rfl,HS.out⟩
   case round =>
    obtain ⟨j,o4,hj,rfl,hs⟩:=hrel
    by_cases hjn:j<n
    ·have hjI:(j:Int)<(n:Int):=by omega
     have hj0:(0:Int)≤(j:Int):=by omega
     obtain ⟨g0,hg0⟩:∃ g,gs[j]?=some g:=⟨gs[j]'(by have:=HNL.out;omega),List.getElem?_eq_getElem _⟩
     obtain ⟨m0,hm0⟩:∃ m,(mutsW j z).muts[j]?=some m:=⟨(mutsW j z).muts[j]'(by have:=HYL.out j;omega),List.getElem?_eq_getElem _⟩
     obtain ⟨a',c',e1,hform⟩:=hs.mv.form
     rw [← HNL.out] at e1
     cases e1
     obtain ⟨bA,e2,hcA⟩:=hform j g0 hg0
     have HPK:=Lib.hid (hs.pick (by have:=HNB.out;omega) hg0 hm0)
     cases e2
     clear hs hform hg0 hm0
     go_wp2_with fail
     refine HPK.out.mono ?_
     rintro e w5 ⟨⟨v1,v2,rfl⟩,o5,hs5⟩
     have HS5:=Lib.hid hs5
     clear hs5 HPK hcA
     go_wp2_with fail
     exact ⟨⟨j+1,o5,by omega,by go_num,HS5.out⟩,by simp [intOf];omega⟩
    ·obtain rfl:j=n:=by omega
     have hjI:¬ (j:Int)<(j:Int):=by omega
     obtain ⟨y,hy⟩:∃ y,y=mutsW j z:=⟨_,rfl⟩
     have hyl:y.muts.length=j:=by rw [hy];exact HYL.out j
     have HCP:Hid (Calls Tryz.prog 12 #[.pointer (some ⟨q.C,0,none⟩)] wr fun e W'=>e = .returned (.tuple #[evAgg (roundE j z),evTold (roundE j z)])∧∃ o',CyS w W o G gs q (.slice ma j mc) (N+1+(t+1)*(j+1)) W' o' (roundW j z) fv pv fr ph):=by
      have h1:=hs.coll (by have:=HNB.out;omega)
      rw [HYL.out j] at h1
      refine h1.mono ?_
      rintro e W' ⟨e1,o',h2⟩
      exact ⟨e1,o',h2.more (by rw [Nat.add_mul t 1];omega)⟩
     have HRUN:Hid (cycRun j (most - t) z fr ph=if evR (roundE j z) then (evF (roundE j z) fr,phN ph (roundW j z).coll.phase,true,roundW j z) else cycRun j (most - (t+1)) (roundW j z) (evF (roundE j z) fr) (phN ph (roundW j z).coll.phase)):=by
      show _=_
      rw [show most - t=(most - (t+1))+1 by omega]
      rfl
     have hrl:(roundW j z).muts.length=j:=by
      have h2:=HYL.out j
      show (pickW (mutsW j z) j).muts.length=j
      unfold pickW
      rw [List.getElem?_eq_none (by omega)]
      simp only
      split
      ·rw [(WS.tell_s _ _).2.1];exact h2
      ·rw [(WS.tell_s _ _).2.1];exact h2
     obtain ⟨u,hu,hpn⟩:=phN_ne (k:=(roundW j z).coll.phase) HT.out.1
     have HPN:=Lib.hid hpn
     clear hs hy hyl hpn HYL y
     generalize hev:roundE j z=ev at *
     generalize hzz:roundW j z=z2 at *
     clear hev hzz
     go_wp2_with fail
     refine HCP.out.mono ?_
     rintro e w6 ⟨rfl,o6,hs6⟩
     cases ev with
     | none =>
       have hag:evAgg none = .agg #[.int .i64 0,.int .i64 0,.int .i64 0,.int .i64 0,.int .i64 0,.int .i64 0]:=rfl
       have htl:evTold none = .bool false:=rfl
       rw [hag,htl]
       obtain ⟨W7,hW7⟩:∃ W7,W7=w6.alloc (.cells #[.int .i64 0,.int .i64 0,.int .i64 0,.int .i64 0,.int .i64 0,.int .i64 0] 37):=⟨_,rfl⟩
       have k7:Keep none_ w6 W7:=by rw [hW7];exact (Keep.refl _ _).alloc _
       have hb7:Blk W7 w6.heap.size [.int .i64 0,.int .i64 0,.int .i64 0,.int .i64 0,.int .i64 0,.int .i64 0] 37:=by rw [hW7];exact Blk.new w6 _ _
       have ho7:o6 w6.heap.size=0:=hs6.cw.coll.sh.fut _ (Nat.le_refl _)
       have hs7:=hs6.still k7
       have HPH7:Hid (Calls Tryz.prog 17 #[.pointer (some ⟨q.C,0,none⟩)] W7 fun e w'=>e = .returned (.int .i64 (z2.coll.phase:Int))∧W7=w'):=cPhase_any hs7.cw.coll
       have HS7:=Lib.hid hs7
       have HB7:=Lib.hid hb7
       have HW7:=Lib.hid hW7
       have HO7:=Lib.hid ho7
       clear hs6 hs7 hb7 k7 hW7 ho7 HCP
       go_wp2_with fail
       rw [← HW7.out]
       refine HPH7.out.mono ?_
       rintro e w8 ⟨rfl,rfl⟩
       obtain ⟨ap,cp,e3,hpf⟩:=HS7.out.p.form
       have hpp:0<ph.length:=List.length_pos_iff.2 HT.out.1
       obtain ⟨d,hd⟩:∃ d,ph.length=d+1:=⟨ph.length - 1,by omega⟩
       obtain ⟨bp,e4,hcp⟩:=hpf (ph.length - 1) u hu
       rw [show ph.length - 1=d by omega] at hcp
       cases e4
       rw [hd] at e3
       cases e3
       have ht9:t≤1000000000:=by have:=HNB.out;have hm3:t≤t*(j+1):=Nat.le_mul_of_pos_right _ (by omega);omega
       have hdI:(d:Int)≤1000000000:=by have:=HT.out.2.2.1;have:=HNB.out;have hm3:t≤t*(j+1):=Nat.le_mul_of_pos_right _ (by omega);omega
       have hd0:(0:Int)≤(d:Int):=by omega
       have HD:=Lib.hid hd
       clear hpf HPH7 HW7 hpp hd
       generalize hpq:z2.coll.phase=pk at *
       by_cases hk:pk=u
       ·subst hk
        have hpn2:phN ph pk=ph:=by rw [HPN.out,if_neg (by simp)]
        have HST:Hid (CyS w W o G gs q (.slice ma j mc) (N+1+(t+1)*(j+1)) W7 o6 z2 fv (.slice (some ⟨bp,0,none⟩) (d+1) cp) fr (phN ph pk)):=by show CyS _ _ _ _ _ _ _ _ _ _ _ _ _ _ _;rw [hpn2];exact HS7.out
        have y2:=HB7.out.cell 2 rfl
        have y5:=HB7.out.cell 5 rfl
        have HQ:Hid (phN ph pk≠[]∧(phN ph pk).length≤ph.length+1):=phN_pos HT.out.1
        have HBB:=HB7
        have HOO:=HO7
        clear hpn2 HPN HB7 HO7 HS7
        go_wp2_with fail
        exact ⟨⟨t+1,z2,fr,phN ph pk,_,_,_,rfl,rfl,by omega,by go_num,HST.out,HQ.out.1,by have:=HT.out.2.1;omega,by have:=HT.out.2.2.1;have:=HQ.out.2;omega,hrl,by rw [← HT.out.2.2.2,HRUN.out];rfl⟩,by simp [intOf];omega⟩
       ·have hkN:decide (pk=u)=false:=decide_eq_false hk
        have hpn2:phN ph pk=ph++[pk]:=by rw [HPN.out,if_pos hk]
        obtain ⟨W9,hW9⟩:∃ W9,W9=W7.alloc (.cells #[.int .i64 (pk:Int)] 3):=⟨_,rfl⟩
        have k9:Keep none_ W7 W9:=by rw [hW9];exact (Keep.refl _ _).alloc _
        have hb9:Blk W9 W7.heap.size [.int .i64 (pk:Int)] 3:=by rw [hW9];exact Blk.new W7 _ _
        obtain ⟨b10,cap10,W10,hrun10,o10,hs10,k10,eo10⟩:=(HS7.out.still k9).growP (hb9.cell 0 rfl) (by have:=HT.out.2.2.1;have:=HNB.out;have hm3:t≤t*(j+1):=Nat.le_mul_of_pos_right _ (by omega);omega)
        rw [hW9,HD.out] at hrun10
        rw [HD.out] at hs10
        have HBB:Hid (Blk W10 w6.heap.size [.int .i64 0,.int .i64 0,.int .i64 0,.int .i64 0,.int .i64 0,.int .i64 0] 37):=k10.blk (k9.blk HB7.out (fun f=>f)) (not_in' HO7.out rfl)
        have HOO:Hid (o10 w6.heap.size=0):=(eo10 _ (k9.blk HB7.out (fun f=>f)).lt).trans HO7.out
        have HST:Hid (CyS w W o G gs q (.slice ma j mc) (N+1+(t+1)*(j+1)) W10 o10 z2 fv (.slice (some ⟨b10,0,none⟩) (d+1+1) cap10) fr (phN ph pk)):=by show CyS _ _ _ _ _ _ _ _ _ _ _ _ _ _ _;rw [hpn2];exact hs10
        have y2:=HBB.out.cell 2 rfl
        have y5:=HBB.out.cell 5 rfl
        have HQ:Hid (phN ph pk≠[]∧(phN ph pk).length≤ph.length+1):=phN_pos HT.out.1
        clear hpn2 HPN k9 hb9 hs10 k10 eo10 hW9 HB7 HO7 HS7
        go_wp2_with fail
        exact ⟨⟨t+1,z2,fr,phN ph pk,_,_,_,rfl,rfl,by omega,by go_num,HST.out,HQ.out.1,by have:=HT.out.2.1;omega,by have:=HT.out.2.2.1;have:=HQ.out.2;omega,hrl,by rw [← HT.out.2.2.2,HRUN.out];rfl⟩,by simp [intOf];omega⟩
     | some e =>
       by_cases hk5:e.kind=5
       ·have HEV:Hid (evR (some e)=false∧evF (some e) fr=fr++[e.value]):=⟨by show (e.kind==4)=false;rw [hk5];rfl,by show (if e.kind=5 then _ else _)=_;rw [if_pos hk5]⟩
        have hag:evAgg (some e) = .agg #[.int .i64 0,.int .i64 (e.who:Int),.int .i64 5,.int .i64 (e.op:Int),.int .i64 e.code,.int .i64 (e.value:Int)]:=by
         show Value.agg #[.int .i64 0,.int .i64 (e.who:Int),.int .i64 (e.kind:Int),.int .i64 (e.op:Int),.int .i64 e.code,.int .i64 (e.value:Int)]=_
         rw [hk5];rfl
        have htl:evTold (some e) = .bool true:=rfl
        rw [hag,htl]
        obtain ⟨W7,hW7⟩:∃ W7,W7=w6.alloc (.cells #[.int .i64 0,.int .i64 (e.who:Int),.int .i64 5,.int .i64 (e.op:Int),.int .i64 e.code,.int .i64 (e.value:Int)] 37):=⟨_,rfl⟩
        have k7:Keep none_ w6 W7:=by rw [hW7];exact (Keep.refl _ _).alloc _
        have hb7:Blk W7 w6.heap.size [.int .i64 0,.int .i64 (e.who:Int),.int .i64 5,.int .i64 (e.op:Int),.int .i64 e.code,.int .i64 (e.value:Int)] 37:=by rw [hW7];exact Blk.new w6 _ _
        have ho7:o6 w6.heap.size=0:=hs6.cw.coll.sh.fut _ (Nat.le_refl _)
        have hs7:=hs6.still k7
        have HPH7:Hid (Calls Tryz.prog 17 #[.pointer (some ⟨q.C,0,none⟩)] W7 fun e w'=>e = .returned (.int .i64 (z2.coll.phase:Int))∧W7=w'):=cPhase_any hs7.cw.coll
        have HS7:=Lib.hid hs7
        have HB7:=Lib.hid hb7
        have HW7:=Lib.hid hW7
        have HO7:=Lib.hid ho7
        clear hs6 hs7 hb7 k7 hW7 ho7 HCP
        go_wp2_with fail
        rw [← HW7.out]
        refine HPH7.out.mono ?_
        rintro e w8 ⟨rfl,rfl⟩
        obtain ⟨ap,cp,e3,hpf⟩:=HS7.out.p.form
        have hpp:0<ph.length:=List.length_pos_iff.2 HT.out.1
        obtain ⟨d,hd⟩:∃ d,ph.length=d+1:=⟨ph.length - 1,by omega⟩
        obtain ⟨bp,e4,hcp⟩:=hpf (ph.length - 1) u hu
        rw [show ph.length - 1=d by omega] at hcp
        cases e4
        rw [hd] at e3
        cases e3
        have ht9:t≤1000000000:=by have:=HNB.out;have hm3:t≤t*(j+1):=Nat.le_mul_of_pos_right _ (by omega);omega
        have hdI:(d:Int)≤1000000000:=by have:=HT.out.2.2.1;have:=HNB.out;have hm3:t≤t*(j+1):=Nat.le_mul_of_pos_right _ (by omega);omega
        have hd0:(0:Int)≤(d:Int):=by omega
        have HD:=Lib.hid hd
        clear hpf HPH7 HW7 hpp hd
        generalize hpq:z2.coll.phase=pk at *
        by_cases hk:pk=u
        ·subst hk
         have hpn2:phN ph pk=ph:=by rw [HPN.out,if_neg (by simp)]
         have HST:Hid (CyS w W o G gs q (.slice ma j mc) (N+1+(t+1)*(j+1)) W7 o6 z2 fv (.slice (some ⟨bp,0,none⟩) (d+1) cp) fr (phN ph pk)):=by show CyS _ _ _ _ _ _ _ _ _ _ _ _ _ _ _;rw [hpn2];exact HS7.out
         have y2:=HB7.out.cell 2 rfl
         have y5:=HB7.out.cell 5 rfl
         have HQ:Hid (phN ph pk≠[]∧(phN ph pk).length≤ph.length+1):=phN_pos HT.out.1
         have HBB:=HB7
         have HOO:=HO7
         clear hpn2 HPN HB7 HO7 HS7
         obtain ⟨W11,hW11⟩:∃ W11,W11=W7.alloc (.cells #[.int .i64 (e.value:Int)] 3):=⟨_,rfl⟩
         have k11:Keep none_ W7 W11:=by rw [hW11];exact (Keep.refl _ _).alloc _
         have hb11:Blk W11 W7.heap.size [.int .i64 (e.value:Int)] 3:=by rw [hW11];exact Blk.new W7 _ _
         obtain ⟨b12,cap12,W12,hrun12,o12,hs12,k12⟩:=(HST.out.still k11).growF (hb11.cell 0 rfl) (by have:=HT.out.2.1;omega)
         have y2b:=(k12.blk (k11.blk HBB.out (fun f=>f)) (not_in' HOO.out rfl)).cell 2 rfl
         rw [hW11] at hrun12
         have HS12:=Lib.hid hs12
         clear hW11 k11 hb11 hs12 k12 HST
         go_wp2_with fail
         exact ⟨⟨t+1,z2,fr++[e.value],phN ph pk,_,_,_,rfl,rfl,by omega,by go_num,HS12.out,HQ.out.1,by have:=HT.out.2.1;simp;omega,by have:=HT.out.2.2.1;have:=HQ.out.2;omega,hrl,by rw [← HT.out.2.2.2,HRUN.out,HEV.out.1,HEV.out.2];rfl⟩,by simp [intOf];omega⟩
        ·have hkN:decide (pk=u)=false:=decide_eq_false hk
         have hpn2:phN ph pk=ph++[pk]:=by rw [HPN.out,if_pos hk]
         obtain ⟨W9,hW9⟩:∃ W9,W9=W7.alloc (.cells #[.int .i64 (pk:Int)] 3):=⟨_,rfl⟩
         have k9:Keep none_ W7 W9:=by rw [hW9];exact (Keep.refl _ _).alloc _
         have hb9:Blk W9 W7.heap.size [.int .i64 (pk:Int)] 3:=by rw [hW9];exact Blk.new W7 _ _
         obtain ⟨b10,cap10,W10,hrun10,o10,hs10,k10,eo10⟩:=(HS7.out.still k9).growP (hb9.cell 0 rfl) (by have:=HT.out.2.2.1;have:=HNB.out;have hm3:t≤t*(j+1):=Nat.le_mul_of_pos_right _ (by omega);omega)
         rw [hW9,HD.out] at hrun10
         rw [HD.out] at hs10
         have HBB:Hid (Blk W10 w6.heap.size [.int .i64 0,.int .i64 (e.who:Int),.int .i64 5,.int .i64 (e.op:Int),.int .i64 e.code,.int .i64 (e.value:Int)] 37):=k10.blk (k9.blk HB7.out (fun f=>f)) (not_in' HO7.out rfl)
         have HOO:Hid (o10 w6.heap.size=0):=(eo10 _ (k9.blk HB7.out (fun f=>f)).lt).trans HO7.out
         have HST:Hid (CyS w W o G gs q (.slice ma j mc) (N+1+(t+1)*(j+1)) W10 o10 z2 fv (.slice (some ⟨b10,0,none⟩) (d+1+1) cap10) fr (phN ph pk)):=by show CyS _ _ _ _ _ _ _ _ _ _ _ _ _ _ _;rw [hpn2];exact hs10
         have y2:=HBB.out.cell 2 rfl
         have y5:=HBB.out.cell 5 rfl
         have HQ:Hid (phN ph pk≠[]∧(phN ph pk).length≤ph.length+1):=phN_pos HT.out.1
         clear hpn2 HPN k9 hb9 hs10 k10 eo10 hW9 HB7 HO7 HS7
         obtain ⟨W11,hW11⟩:∃ W11,W11=W10.alloc (.cells #[.int .i64 (e.value:Int)] 3):=⟨_,rfl⟩
         have k11:Keep none_ W10 W11:=by rw [hW11];exact (Keep.refl _ _).alloc _
         have hb11:Blk W11 W10.heap.size [.int .i64 (e.value:Int)] 3:=by rw [hW11];exact Blk.new W10 _ _
         obtain ⟨b12,cap12,W12,hrun12,o12,hs12,k12⟩:=(HST.out.still k11).growF (hb11.cell 0 rfl) (by have:=HT.out.2.1;omega)
         have y2b:=(k12.blk (k11.blk HBB.out (fun f=>f)) (not_in' HOO.out rfl)).cell 2 rfl
         rw [hW11] at hrun12
         have HS12:=Lib.hid hs12
         clear hW11 k11 hb11 hs12 k12 HST
         go_wp2_with fail
         exact ⟨⟨t+1,z2,fr++[e.value],phN ph pk,_,_,_,rfl,rfl,by omega,by go_num,HS12.out,HQ.out.1,by have:=HT.out.2.1;simp;omega,by have:=HT.out.2.2.1;have:=HQ.out.2;omega,hrl,by rw [← HT.out.2.2.2,HRUN.out,HEV.out.1,HEV.out.2];rfl⟩,by simp [intOf];omega⟩
       ·by_cases hk4:e.kind=4
        ·have HEV:Hid (evR (some e)=true∧evF (some e) fr=fr):=⟨by show (e.kind==4)=true;rw [hk4];rfl,by show (if e.kind=5 then _ else _)=_;rw [if_neg hk5]⟩
         have hag:evAgg (some e) = .agg #[.int .i64 0,.int .i64 (e.who:Int),.int .i64 4,.int .i64 (e.op:Int),.int .i64 e.code,.int .i64 (e.value:Int)]:=by
          show Value.agg #[.int .i64 0,.int .i64 (e.who:Int),.int .i64 (e.kind:Int),.int .i64 (e.op:Int),.int .i64 e.code,.int .i64 (e.value:Int)]=_
          rw [hk4];rfl
         have htl:evTold (some e) = .bool true:=rfl
         rw [hag,htl]
         obtain ⟨W7,hW7⟩:∃ W7,W7=w6.alloc (.cells #[.int .i64 0,.int .i64 (e.who:Int),.int .i64 4,.int .i64 (e.op:Int),.int .i64 e.code,.int .i64 (e.value:Int)] 37):=⟨_,rfl⟩
         have k7:Keep none_ w6 W7:=by rw [hW7];exact (Keep.refl _ _).alloc _
         have hb7:Blk W7 w6.heap.size [.int .i64 0,.int .i64 (e.who:Int),.int .i64 4,.int .i64 (e.op:Int),.int .i64 e.code,.int .i64 (e.value:Int)] 37:=by rw [hW7];exact Blk.new w6 _ _
         have ho7:o6 w6.heap.size=0:=hs6.cw.coll.sh.fut _ (Nat.le_refl _)
         have hs7:=hs6.still k7
         have HPH7:Hid (Calls Tryz.prog 17 #[.pointer (some ⟨q.C,0,none⟩)] W7 fun e w'=>e = .returned (.int .i64 (z2.coll.phase:Int))∧W7=w'):=cPhase_any hs7.cw.coll
         have HS7:=Lib.hid hs7
         have HB7:=Lib.hid hb7
         have HW7:=Lib.hid hW7
         have HO7:=Lib.hid ho7
         clear hs6 hs7 hb7 k7 hW7 ho7 HCP
         go_wp2_with fail
         rw [← HW7.out]
         refine HPH7.out.mono ?_
         rintro e w8 ⟨rfl,rfl⟩
         obtain ⟨ap,cp,e3,hpf⟩:=HS7.out.p.form
         have hpp:0<ph.length:=List.length_pos_iff.2 HT.out.1
         obtain ⟨d,hd⟩:∃ d,ph.length=d+1:=⟨ph.length - 1,by omega⟩
         obtain ⟨bp,e4,hcp⟩:=hpf (ph.length - 1) u hu
         rw [show ph.length - 1=d by omega] at hcp
         cases e4
         rw [hd] at e3
         cases e3
         have ht9:t≤1000000000:=by have:=HNB.out;have hm3:t≤t*(j+1):=Nat.le_mul_of_pos_right _ (by omega);omega
         have hdI:(d:Int)≤1000000000:=by have:=HT.out.2.2.1;have:=HNB.out;have hm3:t≤t*(j+1):=Nat.le_mul_of_pos_right _ (by omega);omega
         have hd0:(0:Int)≤(d:Int):=by omega
         have HD:=Lib.hid hd
         clear hpf HPH7 HW7 hpp hd
         generalize hpq:z2.coll.phase=pk at *
         by_cases hk:pk=u
         ·subst hk
          have hpn2:phN ph pk=ph:=by rw [HPN.out,if_neg (by simp)]
          have HST:Hid (CyS w W o G gs q (.slice ma j mc) (N+1+(t+1)*(j+1)) W7 o6 z2 fv (.slice (some ⟨bp,0,none⟩) (d+1) cp) fr (phN ph pk)):=by show CyS _ _ _ _ _ _ _ _ _ _ _ _ _ _ _;rw [hpn2];exact HS7.out
          have y2:=HB7.out.cell 2 rfl
          have y5:=HB7.out.cell 5 rfl
          have HQ:Hid (phN ph pk≠[]∧(phN ph pk).length≤ph.length+1):=phN_pos HT.out.1
          have HBB:=HB7
          have HOO:=HO7
          clear hpn2 HPN HB7 HO7 HS7
          go_wp2_with fail
          go_ret3
          exact HFIN.out _ _ _ _ _ _ _ _ (by rw [← HT.out.2.2.2,HRUN.out,HEV.out.1,HEV.out.2];rfl) (HST.out.more HM2.out)
         ·have hkN:decide (pk=u)=false:=decide_eq_false hk
          have hpn2:phN ph pk=ph++[pk]:=by rw [HPN.out,if_pos hk]
          obtain ⟨W9,hW9⟩:∃ W9,W9=W7.alloc (.cells #[.int .i64 (pk:Int)] 3):=⟨_,rfl⟩
          have k9:Keep none_ W7 W9:=by rw [hW9];exact (Keep.refl _ _).alloc _
          have hb9:Blk W9 W7.heap.size [.int .i64 (pk:Int)] 3:=by rw [hW9];exact Blk.new W7 _ _
          obtain ⟨b10,cap10,W10,hrun10,o10,hs10,k10,eo10⟩:=(HS7.out.still k9).growP (hb9.cell 0 rfl) (by have:=HT.out.2.2.1;have:=HNB.out;have hm3:t≤t*(j+1):=Nat.le_mul_of_pos_right _ (by omega);omega)
          rw [hW9,HD.out] at hrun10
          rw [HD.out] at hs10
          have HBB:Hid (Blk W10 w6.heap.size [.int .i64 0,.int .i64 (e.who:Int),.int .i64 4,.int .i64 (e.op:Int),.int .i64 e.code,.int .i64 (e.value:Int)] 37):=k10.blk (k9.blk HB7.out (fun f=>f)) (not_in' HO7.out rfl)
          have HOO:Hid (o10 w6.heap.size=0):=(eo10 _ (k9.blk HB7.out (fun f=>f)).lt).trans HO7.out
          have HST:Hid (CyS w W o G gs q (.slice ma j mc) (N+1+(t+1)*(j+1)) W10 o10 z2 fv (.slice (some ⟨b10,0,none⟩) (d+1+1) cap10) fr (phN ph pk)):=by show CyS _ _ _ _ _ _ _ _ _ _ _ _ _ _ _;rw [hpn2];exact hs10
          have y2:=HBB.out.cell 2 rfl
          have y5:=HBB.out.cell 5 rfl
          have HQ:Hid (phN ph pk≠[]∧(phN ph pk).length≤ph.length+1):=phN_pos HT.out.1
          clear hpn2 HPN k9 hb9 hs10 k10 eo10 hW9 HB7 HO7 HS7
          go_wp2_with fail
          go_ret3
          exact HFIN.out _ _ _ _ _ _ _ _ (by rw [← HT.out.2.2.2,HRUN.out,HEV.out.1,HEV.out.2];rfl) (HST.out.more HM2.out)
        ·have HEV:Hid (evR (some e)=false∧evF (some e) fr=fr):=⟨by show (e.kind==4)=false;simpa using hk4,by show (if e.kind=5 then _ else _)=_;rw [if_neg hk5]⟩
         obtain ⟨kk,hkk⟩:∃ kk,kk=e.kind:=⟨_,rfl⟩
         have hk5a:((kk:Int)==5)=false:=by simp;omega
         have hk4a:((kk:Int)==4)=false:=by simp;omega
         have hk5b:decide (kk=5)=false:=decide_eq_false (by omega)
         have hk4b:decide (kk=4)=false:=decide_eq_false (by omega)
         have hag:evAgg (some e) = .agg #[.int .i64 0,.int .i64 (e.who:Int),.int .i64 (kk:Int),.int .i64 (e.op:Int),.int .i64 e.code,.int .i64 (e.value:Int)]:=by rw [hkk];rfl
         have htl:evTold (some e) = .bool true:=rfl
         rw [hag,htl]
         clear hkk hk5 hk4
         obtain ⟨W7,hW7⟩:∃ W7,W7=w6.alloc (.cells #[.int .i64 0,.int .i64 (e.who:Int),.int .i64 (kk:Int),.int .i64 (e.op:Int),.int .i64 e.code,.int .i64 (e.value:Int)] 37):=⟨_,rfl⟩
         have k7:Keep none_ w6 W7:=by rw [hW7];exact (Keep.refl _ _).alloc _
         have hb7:Blk W7 w6.heap.size [.int .i64 0,.int .i64 (e.who:Int),.int .i64 (kk:Int),.int .i64 (e.op:Int),.int .i64 e.code,.int .i64 (e.value:Int)] 37:=by rw [hW7];exact Blk.new w6 _ _
         have ho7:o6 w6.heap.size=0:=hs6.cw.coll.sh.fut _ (Nat.le_refl _)
         have hs7:=hs6.still k7
         have HPH7:Hid (Calls Tryz.prog 17 #[.pointer (some ⟨q.C,0,none⟩)] W7 fun e w'=>e = .returned (.int .i64 (z2.coll.phase:Int))∧W7=w'):=cPhase_any hs7.cw.coll
         have HS7:=Lib.hid hs7
         have HB7:=Lib.hid hb7
         have HW7:=Lib.hid hW7
         have HO7:=Lib.hid ho7
         clear hs6 hs7 hb7 k7 hW7 ho7 HCP
         go_wp2_with fail
         rw [← HW7.out]
         refine HPH7.out.mono ?_
         rintro e w8 ⟨rfl,rfl⟩
         obtain ⟨ap,cp,e3,hpf⟩:=HS7.out.p.form
         have hpp:0<ph.length:=List.length_pos_iff.2 HT.out.1
         obtain ⟨d,hd⟩:∃ d,ph.length=d+1:=⟨ph.length - 1,by omega⟩
         obtain ⟨bp,e4,hcp⟩:=hpf (ph.length - 1) u hu
         rw [show ph.length - 1=d by omega] at hcp
         cases e4
         rw [hd] at e3
         cases e3
         have ht9:t≤1000000000:=by have:=HNB.out;have hm3:t≤t*(j+1):=Nat.le_mul_of_pos_right _ (by omega);omega
         have hdI:(d:Int)≤1000000000:=by have:=HT.out.2.2.1;have:=HNB.out;have hm3:t≤t*(j+1):=Nat.le_mul_of_pos_right _ (by omega);omega
         have hd0:(0:Int)≤(d:Int):=by omega
         have HD:=Lib.hid hd
         clear hpf HPH7 HW7 hpp hd
         generalize hpq:z2.coll.phase=pk at *
         by_cases hk:pk=u
         ·subst hk
          have hpn2:phN ph pk=ph:=by rw [HPN.out,if_neg (by simp)]
          have HST:Hid (CyS w W o G gs q (.slice ma j mc) (N+1+(t+1)*(j+1)) W7 o6 z2 fv (.slice (some ⟨bp,0,none⟩) (d+1) cp) fr (phN ph pk)):=by show CyS _ _ _ _ _ _ _ _ _ _ _ _ _ _ _;rw [hpn2];exact HS7.out
          have y2:=HB7.out.cell 2 rfl
          have y5:=HB7.out.cell 5 rfl
          have HQ:Hid (phN ph pk≠[]∧(phN ph pk).length≤ph.length+1):=phN_pos HT.out.1
          have HBB:=HB7
          have HOO:=HO7
          clear hpn2 HPN HB7 HO7 HS7
          go_wp2_with fail
          exact ⟨⟨t+1,z2,fr,phN ph pk,_,_,_,rfl,rfl,by omega,by go_num,HST.out,HQ.out.1,by have:=HT.out.2.1;omega,by have:=HT.out.2.2.1;have:=HQ.out.2;omega,hrl,by rw [← HT.out.2.2.2,HRUN.out,HEV.out.1,HEV.out.2];rfl⟩,by simp [intOf];omega⟩
         ·have hkN:decide (pk=u)=false:=decide_eq_false hk
          have hpn2:phN ph pk=ph++[pk]:=by rw [HPN.out,if_pos hk]
          obtain ⟨W9,hW9⟩:∃ W9,W9=W7.alloc (.cells #[.int .i64 (pk:Int)] 3):=⟨_,rfl⟩
          have k9:Keep none_ W7 W9:=by rw [hW9];exact (Keep.refl _ _).alloc _
          have hb9:Blk W9 W7.heap.size [.int .i64 (pk:Int)] 3:=by rw [hW9];exact Blk.new W7 _ _
          obtain ⟨b10,cap10,W10,hrun10,o10,hs10,k10,eo10⟩:=(HS7.out.still k9).growP (hb9.cell 0 rfl) (by have:=HT.out.2.2.1;have:=HNB.out;have hm3:t≤t*(j+1):=Nat.le_mul_of_pos_right _ (by omega);omega)
          rw [hW9,HD.out] at hrun10
          rw [HD.out] at hs10
          have HBB:Hid (Blk W10 w6.heap.size [.int .i64 0,.int .i64 (e.who:Int),.int .i64 (kk:Int),.int .i64 (e.op:Int),.int .i64 e.code,.int .i64 (e.value:Int)] 37):=k10.blk (k9.blk HB7.out (fun f=>f)) (not_in' HO7.out rfl)
          have HOO:Hid (o10 w6.heap.size=0):=(eo10 _ (k9.blk HB7.out (fun f=>f)).lt).trans HO7.out
          have HST:Hid (CyS w W o G gs q (.slice ma j mc) (N+1+(t+1)*(j+1)) W10 o10 z2 fv (.slice (some ⟨b10,0,none⟩) (d+1+1) cap10) fr (phN ph pk)):=by show CyS _ _ _ _ _ _ _ _ _ _ _ _ _ _ _;rw [hpn2];exact hs10
          have y2:=HBB.out.cell 2 rfl
          have y5:=HBB.out.cell 5 rfl
          have HQ:Hid (phN ph pk≠[]∧(phN ph pk).length≤ph.length+1):=phN_pos HT.out.1
          clear hpn2 HPN k9 hb9 hs10 k10 eo10 hW9 HB7 HO7 HS7
          go_wp2_with fail
          exact ⟨⟨t+1,z2,fr,phN ph pk,_,_,_,rfl,rfl,by omega,by go_num,HST.out,HQ.out.1,by have:=HT.out.2.1;omega,by have:=HT.out.2.2.1;have:=HQ.out.2;omega,hrl,by rw [← HT.out.2.2.2,HRUN.out,HEV.out.1,HEV.out.2];rfl⟩,by simp [intOf];omega⟩
  ·obtain rfl:t=most:=by omega
   have htI:¬ (t:Int)<(t:Int):=by omega
   have HE:=Lib.hid (HFIN.out wr fv pv fr ph false z o3 (by rw [← hrun,Nat.sub_self];rfl) hs)
   clear hs hrun hph hfl hpl
   go_wp2_with fail
   go_ret3
   exact HE.out
end
end
section
structure PathP (ph:List Nat):Prop where
 ne:ph≠[]
 lt:∀ a∈ph,a<8
 may:∀ (i a b:Nat),ph[i]?=some a→ph[i+1]?=some b→a≠b∧mayP a b=true
section
variable {p:CP} {x y z:WS} {m:MS} {i n R mu bl ce κ:Nat} {dead fr ph:List Nat}
theorem pickW_coll (y:WS) {n:Nat} (hn:y.muts.length=n):(pickW y n).s=(pickC y.s y.coll).s∧(pickW y n).muts=y.muts∧(pickW y n).coll=(pickC y.s y.coll).c:=by
 unfold pickW
 rw [List.getElem?_eq_none (by omega)]
 simp only
 rw [if_pos hn.symm]
 obtain ⟨e1,e2,e3,_⟩:=WS.tell_s { y with s:=(pickC y.s y.coll).s,coll:=(pickC y.s y.coll).c } (pickC y.s y.coll).ev
 exact ⟨e1,e2,e3⟩
structure CycR (p:CP) (x0:WS) (out ph:List Nat) (z:WS):Prop where
 idl:Idl p.mu p.bl p.ce p.κ z
 bn:∀ a,z.s.H.bn a=true↔p.Rch a
 nd:out.Nodup
 dd:∀ a,a∈out↔p.H.bn a=true∧¬ p.Rch a
 path:PathP ph
 regs:∀ (i:Nat) (m:MS),z.muts[i]?=some m→m.regs=p.regs i
 fld:∀ a,p.Rch a→z.s.H.fieldsP a=p.H.fieldsP a∧∀ j:Nat,z.s.H.loadP a (j:Int)=p.H.loadP a (j:Int)
 geo:z.s.H.K=p.H.K∧z.s.H.b=p.H.b∧z.s.H.ww=p.H.ww∧z.s.H.c=p.H.c∧z.s.H.cells=p.H.cells
 cnt:z.coll.wish=x0.coll.wish∧z.coll.cycles=x0.coll.cycles
 dr:drOk x0.coll→drOk z.coll
end
end
section
def awX:StP:=⟨⟨0,0,0,0,1,0,0⟩,[1,1],[],[1],[]⟩
theorem awX_objs:madeO awX=[1,3]:=by decide +kernel
def awZ:List Nat × List Nat × Bool × WS:=cycRun 1 3000 { (madeP awX) with coll:={ (madeP awX).coll with wish:=true },picks:=(madeP awX).picks+1 } [] [0]
theorem awX_run:awZ.1=[3]∧awZ.2.2.1=true∧awZ.2.2.2.s.H.bn 1=true:=by decide +kernel
end
section
open Go.RowKit
def inL (zs:List Int) (m:Int):Bool:=zs.any (· == m)
end
section
open Go.RowKit
theorem getD_of {l:List Int} {j:Nat} (h:j<l.length):l.getD j 0=l[j]:=by
 rw [List.getD_eq_getElem?_getD,List.getElem?_eq_getElem h];rfl
set_option maxHeartbeats 400000 in
theorem same_any (a b:Option Addr) (n m c d:Nat) (xs ys:List Int) (w:World) (hx:IntCells .i64 w a n xs) (hy:IntCells .i64 w b m ys) (hn:n≤9223372036854775807) (hm:m≤9223372036854775807) :
 Calls Tryz.prog 22 #[.slice a n c,.slice b m d] w fun e w'=>e = .returned (.bool (xs==ys))∧Keep none_ w w':=by
 by_cases hl:n=m
 ·subst hl
  have HL:xs.length=n∧ys.length=n:=⟨hx.len,hy.len⟩
  have HLL:=Lib.hid HL
  clear HL
  go_enter Tryz.func22,Tryz.ntmps22
  go_wp2
  go_loopg [5] n (fun g i wr=>∃ k:Nat,g+k=n∧i = .int .i64 k∧(∀ j,j<k→xs.getD j 0=ys.getD j 0)∧Keep none_ w wr)
  case atStart=>exact ⟨0,by omega,rfl,fun j hj=>absurd hj (by omega),Keep.refl _ _⟩
  case round =>
   obtain ⟨k,hg,rfl,hr,hk⟩:=hrel
   by_cases hlt:k<n
   ·obtain ⟨ba,oa,rfl,hca⟩:=(hx.below hk).at_ (by omega)
    obtain ⟨bb,ob,rfl,hcb⟩:=(hy.below hk).at_ (by omega)
    have h1:=hca k hlt
    have h2:=hcb k hlt
    have hltI:(k:Int)<(n:Int):=by omega
    have hk0:(0:Int)≤(k:Int):=by omega
    by_cases he:xs.getD k 0=ys.getD k 0
    ·have HR:Hid (∀ j,j<k+1→xs.getD j 0=ys.getD j 0):=fun j hj=>by
      rcases Nat.lt_succ_iff_lt_or_eq.1 hj with h|h
      ·exact hr j h
      ·rw [h];exact he
     rw [he] at h1
     generalize ys.getD k 0=y at h1 h2
     clear hca hcb hr he
     go_wp2
     go_quiet (fail)
     go_wp2
     go_roundg (gk - 1)
     case measure=>omega
     case rel=>exact ⟨k+1,by omega,by go_num,HR.out,hk.drewN _⟩
    ·have HE:Hid ((xs==ys)=false):=by
      rw [Hid,beq_eq_false_iff_ne]
      intro e
      exact he (by rw [e])
     have hne:(xs.getD k 0==ys.getD k 0)=false:=by simpa using he
     have hne2:(xs.getD k 0 != ys.getD k 0)=true:=by simpa using he
     generalize xs.getD k 0=x at h1 hne hne2
     generalize ys.getD k 0=y at h2 hne hne2
     clear hca hcb hr he
     go_wp2
     go_quiet (fail)
     go_wp2
     go_ret
     exact ⟨by rw [HE.out];rfl,hk.drewN _⟩
   ·have HE:Hid ((xs==ys)=true):=by
     rw [Hid,beq_iff_eq]
     apply List.ext_getElem
     ·rw [HLL.out.1,HLL.out.2]
     ·intro j h1 h2
      have:=hr j (by have:=HLL.out.1;omega)
      rwa [getD_of h1,getD_of h2] at this
    clear hr
    go_wp2
    go_ret
    exact ⟨by rw [HE.out];rfl,hk⟩
 ·have HE:Hid ((xs==ys)=false):=by
   rw [Hid,beq_eq_false_iff_ne]
   intro e
   apply hl
   rw [← hx.len,← hy.len,e]
  have h1:((n:Int) != m)=true:=by simp;omega
  have h2:((n:Int)==m)=false:=by simp;omega
  go_enter Tryz.func22,Tryz.ntmps22
  go_wp2
  go_ret
  exact ⟨by rw [HE.out];rfl,Keep.refl _ _⟩
end
end Go.Proofs.YtanfphjoebobaaaGreatDoor
