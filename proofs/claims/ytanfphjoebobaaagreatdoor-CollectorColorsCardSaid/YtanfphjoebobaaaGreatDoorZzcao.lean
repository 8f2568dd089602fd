/- Parts of a walk, put together and made shorter by a program of mine. No conditions. -/
import Derived.Test.YtanfphjoebobaaaGreatDoorZzcan
import Derived.OwnWalk
namespace Go.Proofs.YtanfphjoebobaaaGreatDoor
set_option maxRecDepth 8000
set_option maxHeartbeats 8000000
section
attribute [local go_sem ↓] jZ
attribute [local go_sem] Oper.semAt_some
open Go.RowKit
def evF (ev:Option Ev) (fr:List Nat):List Nat:=match ev with
 | some e=>if e.kind=5 then fr++[e.value] else fr
 | none=>fr
def evR (ev:Option Ev):Bool:=match ev with
 | some e=>e.kind==4
 | none=>false
def phN (ph:List Nat) (q:Nat):List Nat:=if q≠ph.getLastD 0 then ph++[q] else ph
def bY (n:Nat) (x:WS):WS:=bC (aN n x) n
def iF (n:Nat) (x:WS):Option Ev:=(aW (aN n x).s (aN n x).coll).ev
def gJ (n:Nat):Nat→WS→List Nat→List Nat→List Nat × List Nat × Bool × WS
 | 0,x,fr,ph=>(fr,ph,false,x)
 | f+1,x,fr,ph =>
   if evR (iF n x) then (evF (iF n x) fr,phN ph (bY n x).coll.phase,true,bY n x)
   else gJ n f (bY n x) (evF (iF n x) fr) (phN ph (bY n x).coll.phase)
def Gh:List Nat:=[1,2,3,4,5,40,98,99,10,11,12,13,14,15,16,17,20,21,22,23,24,25,26,27,30,31,32,33,34,35,36,37]
theorem Ot:∀ i,i<8→∀ a∈bg i,a∈Gh:=by decide
theorem Ou:∀ a∈aK,a∈Gh:=by decide
def jh (i:Nat) (o:Ow) (w:World) (v:Value) (l:List Nat):Prop:=w.ownsRow 0 3 1 v l.length (aC l)∧∀ b,v.ownBlock=some b→o b=i
structure CX (W0:World) (o0:Ow) (W:World) (o:Ow):Prop where
 e:aH W0 o0 o
 k:Keep (In o0 Gh) W0 W
section
variable {o o' o0:Ow} {w w' W W' W0:World} {G:Geo} {gs:List MG} {q:CG} {x y:WS} {v:Value} {N i n:Nat} {l:List Nat} {I:List Nat}
theorem CX.refl (W:World) (o:Ow):CX W o W o:=⟨aH.refl _ _,Keep.refl _ _⟩
theorem CX.step (h:CX W0 o0 W o) (k:Keep (In o I) W W') (e:aH W o o') (hI:∀ a∈I,a∈Gh):CX W0 o0 W' o' :=
 ⟨h.e.trans h.k.size e,h.k.yP ((k.mono (fun b _ hb=>hI _ hb)):Keep (In o Gh) W W') h.e⟩
theorem jh.keep (h:jh i o W v l) (k:Keep (In o I) W W') (hI:I.contains i=false) (e:aH W o o'):jh i o' W' v l:=by
 refine ⟨fD h.1 k (fun b hb=>aU (h.2 b hb) hI),fun b hb=>?_⟩
 obtain ⟨cur,hc⟩:=kJ h.1 hb
 exact (e b (lt_of_block hc)).trans (h.2 b hb)
theorem jh.form (h:jh i o W v l):∃ a c,v = .slice a l.length c∧∀ (j:Nat) u,l[j]?=some u→∃ b,a=some ⟨b,0,none⟩∧W.cell? ⟨b,j,none⟩=some (.int .i64 (u:Int)):=by
 obtain ⟨a,c,rfl,_,_,_,hc⟩:=jk h.1
 refine ⟨a,c,rfl,fun j u hj=>?_⟩
 obtain ⟨b,e,hb,_⟩:=hc j (.int .i64 (u:Int)) (by unfold aC;rw [List.getElem?_map,hj];rfl)
 exact ⟨b,e,hb⟩
theorem jh.nil (i:Nat) (o:Ow) (W:World):jh i o W (.slice none 0 0) []:=⟨⟨rfl,.inl ⟨rfl,rfl⟩⟩,fun b hb=>by cases hb⟩
theorem CW.own (h:CW w W o G gs q x) (k:Keep none_ W W') (hN:W.heap.size≤N) (hN2:N<W'.heap.size) (i:Nat):CW w W' (o.put N i) G gs q x∧aH W o (o.put N i):=by
 have e:aH W o (o.put N i):=Ow.iM (.inl hN)
 exact ⟨h.qV (I:=[]) k.aF rfl e (Ow.kD h.coll.sh.fut k.size hN2),e⟩
theorem Lc {cs:List Value} {T:TypeId} (hb:Blk W N cs T) (h0:cs.length≤1000):W.ownsRow 0 T 1 (.slice (some ⟨N,0,none⟩) cs.length cs.length) cs.length cs:=by
 refine ⟨by simp,.inr ⟨N,cs.length,cs.toArray,rfl,Nat.zero_le _,hb,Nat.le_refl _,?_,by simp,by simp⟩⟩
 have:maxLen=9223372036854775807:=rfl
 omega
theorem jh.new (o:Ow) (i u N:Nat) (hb:Blk W N [.int .i64 (u:Int)] 3):jh i (o.put N i) W (.slice (some ⟨N,0,none⟩) 1 1) [u]:=by
 refine ⟨Lc hb (by show 1≤1000;omega),fun b hb=>?_⟩
 simp [Value.ownBlock] at hb
 rw [← hb]
 exact Ow.jB _ _ _
theorem jh.grow (h:jh i o W v l) (hc:CW w W o G gs q x) (hi:50≤i) {N u:Nat} (hN:W.cell? ⟨N,0,none⟩=some (.int .i64 (u:Int))) (hl:l.length≤100000000000):∃ b cap W5,(app9 #[32,32] 32 #[v,.slice (some ⟨N,0,none⟩) 1 1]).run Tryz.prog W = .ok (.slice (some ⟨b,0,none⟩) (l.length+1) cap) W5 ∧
 ∃ o',aH W o o'∧CW w W5 o' G gs q x∧jh i o' W5 (.slice (some ⟨b,0,none⟩) (l.length+1) cap) (l++[u])∧Keep (In o [i]) W W5:=by
 obtain ⟨b,cap,W5,hrun,hown,hgr,hq⟩:=mQ (P:=Tryz.prog) W 32 32 3 (by kernel_rfl) Tryz.infoInt rfl h.1 (N:=N) (u := .int .i64 (u:Int)) hN rfl (by decide) (by omega)
 have k:Keep (In o [i]) W W5:=⟨hgr.os,hgr.tape,hgr.output,hgr.size,fun y hy hn=>hgr.block y hy (fun e=>hn (by
  have e':v.ownBlock=some y:=by first|exact e|exact e.symm
  unfold In
  rw [h.2 y e']
  simp))⟩
 have e:aH W o (o.put b i):=by
  rcases hq with hq|hq
  ·exact Ow.iM (.inr (h.2 b hq))
  ·exact Ow.iM (.inl hq)
 have hlt:b<W5.heap.size:=by
  rcases hown.2 with ⟨e1,_⟩|⟨g',cap',cur,e1,_,hg',_⟩
  ·cases e1
  ·cases e1;exact lt_of_block hg'
 have hf:Fut (o.put b i) W5:=Ow.kD hc.coll.sh.fut k.size hlt
 have hall:[i].all (fun i=>decide (50≤i))=true:=by simp;exact hi
 refine ⟨b,cap,W5,hrun,o.put b i,e,hc.qV k hall e hf,⟨?_,fun b' hb'=>?_⟩,k⟩
 ·have e3:aC (l++[u])=aC l++[.int .i64 (u:Int)]:=by unfold aC;simp
  rw [e3,List.length_append]
  exact hown
 ·simp [Value.ownBlock] at hb'
  rw [← hb']
  exact Ow.jB _ _ _
theorem Dc (n:Nat) (x:WS):(aN n x).muts.length=x.muts.length:=by
 induction n with
 | zero=>rfl
 | succ n ih =>
   rw [← ih]
   show (bC (aN n x) n).muts.length=_
   unfold bC
   cases hm:(aN n x).muts[n]? with
   | some m =>
     simp only
     rw [(WS.l7 _ _).2.1]
     simp
   | none =>
     simp only
     split
     ·rw [(WS.l7 _ _).2.1]
     ·rw [(WS.l7 _ _).2.1]
end
section
variable {o o' o0:Ow} {w w' W W' W0:World} {G:Geo} {gs:List MG} {q:CG} {x y:WS} {v:Value} {N i n:Nat} {l:List Nat} {I:List Nat}
structure CyS (w W0:World) (o0:Ow) (G:Geo) (gs:List MG) (q:CG) (mv:Value) (N:Nat) (W:World) (o:Ow) (x:WS) (fv pv:Value) (fr ph:List Nat):Prop where
 cw:CW w W o G gs q x
 ok:WOk N x
 few:nN x
 cx:CX W0 o0 W o
 mv:fV o W mv gs
 f:jh 98 o W fv fr
 p:jh 99 o W pv ph
theorem CyS.still {mv fv pv:Value} {fr ph:List Nat} (h:CyS w W0 o0 G gs q mv N W o x fv pv fr ph) (k:Keep none_ W W'):CyS w W0 o0 G gs q mv N W' o x fv pv fr ph :=
 ⟨h.cw.nG k,h.ok,h.few,h.cx.step (I:=[]) k.aF (aH.refl _ _) (fun _ ha=>by cases ha),h.mv.keep (I:=[]) k.aF rfl (aH.refl _ _),h.f.keep (I:=[]) k.aF rfl (aH.refl _ _),h.p.keep (I:=[]) k.aF rfl (aH.refl _ _)⟩
theorem CyS.pick {mv fv pv:Value} {fr ph:List Nat} (h:CyS w W0 o0 G gs q mv N W o x fv pv fr ph) (hN:N≤1000000000) {i:Nat} {g:MG} {m:MS} (hg:gs[i]?=some g) (hm:x.muts[i]?=some m):Calls Tryz.prog 24 #[.pointer (some ⟨g.M,0,none⟩)] W fun e W'=>(∃ v1 v2,e = .returned (.tuple #[v1,v2]))∧∃ o',CyS w W0 o0 G gs q mv (N+1) W' o' (bC x i) fv pv fr ph:=by
 have hi8:i<8:=by
  obtain ⟨g1,g2⟩:=h.cw.bV i g m hg hm
  have:=g1.idl;omega
 have hsub:=Ot i hi8
 have h98:(bg i).contains 98=false:=by simp [bg];omega
 have h99:(bg i).contains 99=false:=by simp [bg];omega
 have h97:(bg i).contains 97=false:=by simp [bg];omega
 refine (h.cw.pick h.ok hN hg hm (CO _ (h.few m (List.mem_of_getElem? hm)).1)).mono ?_
 rintro e W' ⟨rfl,o',eo,hc,k⟩
 exact ⟨⟨_,_,rfl⟩,o',hc,um h.ok h.cw.coll.sh.heap.hbd i,oL h.few i,h.cx.step k eo hsub,h.mv.keep k h97 eo,h.f.keep k h98 eo,h.p.keep k h99 eo⟩
theorem CyS.coll {mv fv pv:Value} {fr ph:List Nat} (h:CyS w W0 o0 G gs q mv N W o x fv pv fr ph) (hN:N≤1000000000):Calls Tryz.prog 12 #[.pointer (some ⟨q.C,0,none⟩)] W fun e W'=>e = .returned (.tuple #[lC (aW x.s x.coll).ev,jQ (aW x.s x.coll).ev])∧∃ o',CyS w W0 o0 G gs q mv (N+1) W' o' (bC x x.muts.length) fv pv fr ph:=by
 refine (h.cw.Qg h.ok hN).mono ?_
 rintro e W' ⟨rfl,o',eo,hc,k⟩
 exact ⟨rfl,o',hc,um h.ok h.cw.coll.sh.heap.hbd _,oL h.few _,h.cx.step k eo Ou,h.mv.keep k rfl eo,h.f.keep k rfl eo,h.p.keep k rfl eo⟩
theorem CyS.DU {mv fv pv:Value} {fr ph:List Nat} (h:CyS w W0 o0 G gs q mv N W o x fv pv fr ph) {M u:Nat} (hM:W.cell? ⟨M,0,none⟩=some (.int .i64 (u:Int))) (hl:ph.length≤100000000000):∃ b cap W5,(app9 #[32,32] 32 #[pv,.slice (some ⟨M,0,none⟩) 1 1]).run Tryz.prog W = .ok (.slice (some ⟨b,0,none⟩) (ph.length+1) cap) W5 ∧
 ∃ o',CyS w W0 o0 G gs q mv N W5 o' x fv (.slice (some ⟨b,0,none⟩) (ph.length+1) cap) fr (ph++[u])∧Keep (In o [99]) W W5∧aH W o o':=by
 obtain ⟨b,cap,W5,hrun,o',eo,hc,hp,k⟩:=h.p.grow h.cw (by decide) hM hl
 refine ⟨b,cap,W5,hrun,o',?_,k,eo⟩
 exact ⟨hc,h.ok,h.few,h.cx.step k eo (by decide),h.mv.keep k rfl eo,h.f.keep k rfl eo,hp⟩
theorem CyS.QL {mv fv pv:Value} {fr ph:List Nat} (h:CyS w W0 o0 G gs q mv N W o x fv pv fr ph) {M u:Nat} (hM:W.cell? ⟨M,0,none⟩=some (.int .i64 (u:Int))) (hl:fr.length≤100000000000):∃ b cap W5,(app9 #[32,32] 32 #[fv,.slice (some ⟨M,0,none⟩) 1 1]).run Tryz.prog W = .ok (.slice (some ⟨b,0,none⟩) (fr.length+1) cap) W5 ∧
 ∃ o',CyS w W0 o0 G gs q mv N W5 o' x (.slice (some ⟨b,0,none⟩) (fr.length+1) cap) pv (fr++[u]) ph∧Keep (In o [98]) W W5:=by
 obtain ⟨b,cap,W5,hrun,o',eo,hc,hp,k⟩:=h.f.grow h.cw (by decide) hM hl
 refine ⟨b,cap,W5,hrun,o',?_,k⟩
 exact ⟨hc,h.ok,h.few,h.cx.step k eo (by decide),h.mv.keep k rfl eo,hp,h.p.keep k rfl eo⟩
theorem CyS.more {mv fv pv:Value} {fr ph:List Nat} {M:Nat} (h:CyS w W0 o0 G gs q mv N W o x fv pv fr ph) (hM:N≤M):CyS w W0 o0 G gs q mv M W o x fv pv fr ph:=⟨h.cw,h.ok.more hM,h.few,h.cx,h.mv,h.f,h.p⟩
theorem yI (x:WS):bC x (x.muts.length+1)={ x with coll:={ x.coll with wish:=true },picks:=x.picks+1 }:=by
 unfold bC
 rw [List.getElem?_eq_none (by omega)]
 simp only
 rw [if_neg (by omega)]
 rfl
theorem UC {ph:List Nat} {k:Nat} (h:ph≠[]):∃ u,ph[ph.length - 1]?=some u∧phN ph k=if k≠u then ph++[k] else ph:=by
 obtain ⟨l,a,rfl⟩:=(List.eq_nil_or_concat ph).resolve_left h
 refine ⟨a,?_,?_⟩
 ·simp
 ·unfold phN
  rw [List.concat_eq_append,List.getLastD_concat]
theorem mX {ph:List Nat} {k:Nat} (h:ph≠[]):phN ph k≠[]∧(phN ph k).length≤ph.length+1:=by
 unfold phN
 split
 ·exact ⟨by simp,by simp⟩
 ·exact ⟨h,Nat.le_succ _⟩
def Ld (w W0:World) (o0:Ow) (G:Geo) (gs:List MG) (q:CG) (mv:Value) (N most:Nat) (x:WS) (e:Ending) (W':World):Prop :=
 ∃ (fv pv:Value) (o':Ow),e = .returned (.tuple #[fv,pv,.bool (gJ gs.length most (bC x (x.muts.length+1)) [] [x.coll.phase]).2.2.1])∧CyS w W0 o0 G gs q mv (N+1+most*(gs.length+1)) W' o' (gJ gs.length most (bC x (x.muts.length+1)) [] [x.coll.phase]).2.2.2 fv pv (gJ gs.length most (bC x (x.muts.length+1)) [] [x.coll.phase]).1 (gJ gs.length most (bC x (x.muts.length+1)) [] [x.coll.phase]).2.1
theorem Df {mv:Value} (h:CW w W o G gs q x) (ok:WOk N x) (hfew:nN x) (hmv:fV o W mv gs) (most:Nat) (hN:N+1+most*9≤1000000000):Calls Tryz.prog 27 #[.pointer (some ⟨q.C,0,none⟩),mv,.int .i64 (most:Int)] W (Ld w W o G gs q mv N most x):=by
 obtain ⟨ma,mc,rfl,_⟩:=hmv.form
 have hlen:=h.len
 obtain ⟨n,hn⟩:∃ n,n=gs.length:=⟨_,rfl⟩
 rw [← hn] at hmv
 have hn8:n≤8:=by
  rcases Nat.eq_zero_or_pos n with e|e
  ·omega
  ·obtain ⟨g,hg⟩:∃ g,gs[n - 1]?=some g:=⟨gs[n - 1]'(by omega),List.getElem?_eq_getElem _⟩
   obtain ⟨m,hm⟩:∃ m,x.muts[n - 1]?=some m:=⟨x.muts[n - 1]'(by omega),List.getElem?_eq_getElem _⟩
   obtain ⟨g1,g2⟩:=h.bV (n - 1) g m hg hm
   have:=g1.idl;omega
 have hmul:most*(n+1)≤most*9:=Nat.mul_le_mul_left _ (by omega)
 have HPH:Hid (Calls Tryz.prog 17 #[.pointer (some ⟨q.C,0,none⟩)] W fun e w'=>e = .returned (.int .i64 (x.coll.phase:Int))∧W=w'):=nD h.coll
 have hW1:∀ W1,W1=W.alloc (.cells #[.int .i64 (x.coll.phase:Int)] 3)→CyS w W o G gs q (.slice ma n mc) N W1 (o.put W.heap.size 99) x (.slice none 0 0) (.slice (some ⟨W.heap.size,0,none⟩) 1 1) [] [x.coll.phase]:=fun W1 hW1=>by
  have k1:Keep none_ W W1:=by rw [hW1];exact (Keep.refl _ _).alloc _
  have hb:Blk W1 W.heap.size [.int .i64 (x.coll.phase:Int)] 3:=by rw [hW1];exact Blk.new W _ _
  obtain ⟨c1,c2⟩:=h.own k1 (Nat.le_refl _) hb.lt 99
  exact ⟨c1,ok,hfew,(CX.refl W o).step (I:=[]) k1.aF c2 (fun _ ha=>by cases ha),hmv.keep (I:=[]) k1.aF rfl c2,jh.nil 98 _ _,jh.new o 99 x.coll.phase W.heap.size hb⟩
 have HWI:Hid (∀ W1,W1=W.alloc (.cells #[.int .i64 (x.coll.phase:Int)] 3)→Calls Tryz.prog 14 #[.pointer (some ⟨q.C,0,none⟩)] W1 fun e w'=>e = .returned (.tuple #[])∧∃ o',CyS w W o G gs q (.slice ma n mc) (N+1) w' o' (bC x (x.muts.length+1)) (.slice none 0 0) (.slice (some ⟨W.heap.size,0,none⟩) 1 1) [] [x.coll.phase]):=fun W1 e1=>by
  have hs:=hW1 W1 e1
  refine hs.cw.wish.mono ?_
  rintro e w' ⟨rfl,hc,k⟩
  exact ⟨rfl,_,hc,um ok h.coll.sh.heap.hbd _,oL hfew _,hs.cx.step k (aH.refl _ _) (by decide),hs.mv.keep k rfl (aH.refl _ _),hs.f.keep k rfl (aH.refl _ _),hs.p.keep k rfl (aH.refl _ _)⟩
 have lH:Hid (∀ W' (fv pv:Value) (fr ph:List Nat) (okk:Bool) (z:WS) (o':Ow),gJ n most (bC x (x.muts.length+1)) [] [x.coll.phase]=(fr,ph,okk,z)→CyS w W o G gs q (.slice ma n mc) (N+1+most*(n+1)) W' o' z fv pv fr ph→Ld w W o G gs q (.slice ma n mc) N most x (.returned (.tuple #[fv,pv,.bool okk])) W'):=fun W' fv pv fr ph okk z o' e hs=>by
  unfold Ld
  rw [← hn,e]
  exact ⟨fv,pv,o',rfl,hs⟩
 have hml:∀ j,(aN j (bC x (x.muts.length+1))).muts.length=n:=fun j=>by
  rw [Dc,yI];exact hlen.symm.trans hn.symm
 have HNL:Hid (n=gs.length):=hn
 have VR:(bC x (x.muts.length+1)).muts.length=n:=hml 0
 rw [← hn]
 generalize Ld w W o G gs q (.slice ma n mc) N most x=PO at *
 generalize hx0:bC x (x.muts.length+1)=x0 at *
 clear h ok hfew hmv hlen hW1 hml hn
 go_enter Tryz.func27,Tryz.ntmps27
 go_wp2_with fail
 refine HPH.out.mono ?_
 rintro e w1 ⟨rfl,rfl⟩
 obtain ⟨W1,hW1⟩:∃ W1,W1=W.alloc (.cells #[.int .i64 (x.coll.phase:Int)] 3):=⟨_,rfl⟩
 have HW1:=Lib.hid hW1
 have UD:=Lib.hid (HWI.out W1 hW1)
 clear hW1 HWI HPH
 go_wp2_with fail
 rw [← HW1.out]
 refine UD.out.mono ?_
 rintro e w2 ⟨rfl,o2,hs2⟩
 have HS2:=Lib.hid hs2
 clear hs2 UD HW1
 go_wp2_with fail
 go_loopw [9,10,11,12,13,14,15] (fun fv pv iv _ _ _ _ wr=>∃ (t:Nat) (z:WS) (fr ph:List Nat) (o':Ow) (fv' pv':Value),fv'=fv∧pv'=pv∧t≤most∧iv = .int .i64 t∧CyS w W o G gs q (.slice ma n mc) (N+1+t*(n+1)) wr o' z fv pv fr ph∧ph≠[]∧fr.length≤t∧ph.length≤t+1∧z.muts.length=n∧gJ n (most - t) z fr ph=gJ n most x0 [] [x.coll.phase]) (fun _ _ iv _ _ _ _ _=>most - (intOf iv).toNat)
 case atStart=>exact ⟨0,x0,[],[x.coll.phase],o2,_,_,rfl,rfl,Nat.zero_le _,rfl,HS2.out.more (by omega),by simp,Nat.le_refl _,Nat.le_refl _,VR,rfl⟩
 case round =>
  obtain ⟨t,z,fr,ph,o3,fv,pv,hfv,hpv,ht,rfl,hs,hph,hfl,hpl,hzl,hrun⟩:=hrel
  subst hfv hpv
  have hm1:t*(n+1)≤most*(n+1):=Nat.mul_le_mul_right _ ht
  by_cases htm:t<most
  ·have htI : (t:Int)<(most:Int):=by omega
   have hm2:(t+1)*(n+1)≤most*(n+1):=Nat.mul_le_mul_right _ htm
   rw [Nat.add_mul,Nat.one_mul] at hm2
   have HM2:Hid (N+1+(t+1)*(n+1)≤N+1+most*(n+1)):=Nat.add_le_add_left (Nat.mul_le_mul_right _ htm) _
   have HNB:Hid (N+1+t*(n+1)+(n+1)≤1000000000):=by show _≤_;omega
   have HS:=Lib.hid hs
   have HT:Hid (ph≠[]∧fr.length≤t∧ph.length≤t+1∧gJ n (most - t) z fr ph=gJ n most x0 [] [x.coll.phase]):=⟨hph,hfl,hpl,hrun⟩
   have HYL:Hid (∀ j,(aN j z).muts.length=n):=fun j=>(Dc j z).trans hzl
   clear hs hph hfl hpl hrun hm1 hm2 hzl
   go_wp2_with fail
   go_loopw [12] (fun iv wr=>∃ (j:Nat) (o':Ow),j≤n∧iv = .int .i64 j∧CyS w W o G gs q (.slice ma n mc) (N+1+t*(n+1)+j) wr o' (aN j z) fv pv fr ph) (fun iv _=>n - (intOf iv).toNat)
   case atStart=>exact ⟨0,o3,Nat.zero_le _,rfl,HS.out⟩
   case round =>
    obtain ⟨j,o4,hj,rfl,hs⟩:=hrel
    by_cases hjn:j<n
    ·have hjI:(j:Int)<(n:Int):=by omega
     have hj0:(0:Int)≤(j:Int):=by omega
     obtain ⟨g0,hg0⟩:∃ g,gs[j]?=some g:=⟨gs[j]'(by have:=HNL.out;omega),List.getElem?_eq_getElem _⟩
     obtain ⟨m0,hm0⟩:∃ m,(aN j z).muts[j]?=some m:=⟨(aN j z).muts[j]'(by have:=HYL.out j;omega),List.getElem?_eq_getElem _⟩
     obtain ⟨a',c',e1,hform⟩:=hs.mv.form
     rw [← HNL.out] at e1
     cases e1
     obtain ⟨bA,e2,hcA⟩:=hform j g0 hg0
     have HPK:=Lib.hid (hs.pick (by have:=HNB.out;omega) hg0 hm0)
     cases e2
     clear hs hform hg0 hm0
     go_wp2_with fail
     refine HPK.out.mono ?_
     rintro e w5 ⟨⟨v1,v2,rfl⟩,o5,hs5⟩
     have HS5:=Lib.hid hs5
     clear hs5 HPK hcA
     go_wp2_with fail
     exact ⟨⟨j+1,o5,by omega,by go_num,HS5.out⟩,by simp [intOf];omega⟩
    ·obtain rfl:j=n:=by omega
     have hjI:¬ (j:Int)<(j:Int):=by omega
     obtain ⟨y,hy⟩:∃ y,y=aN j z:=⟨_,rfl⟩
     have hyl:y.muts.length=j:=by rw [hy];exact HYL.out j
     have HCP:Hid (Calls Tryz.prog 12 #[.pointer (some ⟨q.C,0,none⟩)] wr fun e W'=>e = .returned (.tuple #[lC (iF j z),jQ (iF j z)])∧∃ o',CyS w W o G gs q (.slice ma j mc) (N+1+(t+1)*(j+1)) W' o' (bY j z) fv pv fr ph):=by
      have h1:=hs.coll (by have:=HNB.out;omega)
      rw [HYL.out j] at h1
      refine h1.mono ?_
      rintro e W' ⟨e1,o',h2⟩
      exact ⟨e1,o',h2.more (by rw [Nat.add_mul t 1];omega)⟩
     have wC:Hid (gJ j (most - t) z fr ph=if evR (iF j z) then (evF (iF j z) fr,phN ph (bY j z).coll.phase,true,bY j z) else gJ j (most - (t+1)) (bY j z) (evF (iF j z) fr) (phN ph (bY j z).coll.phase)):=by
      show _=_
      rw [show most - t=(most - (t+1))+1 by omega]
      rfl
     have hrl:(bY j z).muts.length=j:=by
      have h2:=HYL.out j
      show (bC (aN j z) j).muts.length=j
      unfold bC
      rw [List.getElem?_eq_none (by omega)]
      simp only
      split
      ·rw [(WS.l7 _ _).2.1];exact h2
      ·rw [(WS.l7 _ _).2.1];exact h2
     obtain ⟨u,hu,hpn⟩:=UC (k:=(bY j z).coll.phase) HT.out.1
     have HPN:=Lib.hid hpn
     clear hs hy hyl hpn HYL y
     generalize hev:iF j z=ev at *
     generalize hzz:bY j z=z2 at *
     clear hev hzz
     go_wp2_with fail
     refine HCP.out.mono ?_
     rintro e w6 ⟨rfl,o6,hs6⟩
     cases ev with
     | none =>
       have hag:lC none = .agg #[.int .i64 0,.int .i64 0,.int .i64 0,.int .i64 0,.int .i64 0,.int .i64 0]:=rfl
       have htl:jQ none = .bool false:=rfl
       rw [hag,htl]
       obtain ⟨W7,hW7⟩:∃ W7,W7=w6.alloc (.cells #[.int .i64 0,.int .i64 0,.int .i64 0,.int .i64 0,.int .i64 0,.int .i64 0] 37):=⟨_,rfl⟩
       have k7:Keep none_ w6 W7:=by rw [hW7];exact (Keep.refl _ _).alloc _
       have hb7:Blk W7 w6.heap.size [.int .i64 0,.int .i64 0,.int .i64 0,.int .i64 0,.int .i64 0,.int .i64 0] 37:=by rw [hW7];exact Blk.new w6 _ _
       have ho7:o6 w6.heap.size=0:=hs6.cw.coll.sh.fut _ (Nat.le_refl _)
       have hs7:=hs6.still k7
       have qO:Hid (Calls Tryz.prog 17 #[.pointer (some ⟨q.C,0,none⟩)] W7 fun e w'=>e = .returned (.int .i64 (z2.coll.phase:Int))∧W7=w'):=nD hs7.cw.coll
       have HS7:=Lib.hid hs7
       have HB7:=Lib.hid hb7
       have HW7:=Lib.hid hW7
       have HO7:=Lib.hid ho7
       clear hs6 hs7 hb7 k7 hW7 ho7 HCP
       go_wp2_with fail
       rw [← HW7.out]
       refine qO.out.mono ?_
       rintro e w8 ⟨rfl,rfl⟩
       obtain ⟨ap,cp,e3,hpf⟩:=HS7.out.p.form
       have hpp:0<ph.length:=List.length_pos_iff.2 HT.out.1
       obtain ⟨d,hd⟩:∃ d,ph.length=d+1:=⟨ph.length - 1,by omega⟩
       obtain ⟨bp,e4,hcp⟩:=hpf (ph.length - 1) u hu
       rw [show ph.length - 1=d by omega] at hcp
       cases e4
       rw [hd] at e3
       cases e3
       have ht9:t≤1000000000:=by have:=HNB.out;have hm3:t≤t*(j+1):=Nat.le_mul_of_pos_right _ (by omega);omega
       have hdI:(d:Int)≤1000000000:=by have:=HT.out.2.2.1;have:=HNB.out;have hm3:t≤t*(j+1):=Nat.le_mul_of_pos_right _ (by omega);omega
       have hd0:(0:Int)≤(d:Int):=by omega
       have HD:=Lib.hid hd
       clear hpf qO HW7 hpp hd
       generalize hpq:z2.coll.phase=pk at *
       by_cases hk:pk=u
       ·subst hk
        have hpn2:phN ph pk=ph:=by rw [HPN.out,if_neg (by simp)]
        have HST:Hid (CyS w W o G gs q (.slice ma j mc) (N+1+(t+1)*(j+1)) W7 o6 z2 fv (.slice (some ⟨bp,0,none⟩) (d+1) cp) fr (phN ph pk)):=by show CyS _ _ _ _ _ _ _ _ _ _ _ _ _ _ _;rw [hpn2];exact HS7.out
        have y2:=HB7.out.cell 2 rfl
        have y5:=HB7.out.cell 5 rfl
        have HQ:Hid (phN ph pk≠[]∧(phN ph pk).length≤ph.length+1):=mX HT.out.1
        have HBB:=HB7
        have HOO:=HO7
        clear hpn2 HPN HB7 HO7 HS7
        go_wp2_with fail
        exact ⟨⟨t+1,z2,fr,phN ph pk,_,_,_,rfl,rfl,by omega,by go_num,HST.out,HQ.out.1,by have:=HT.out.2.1;omega,by have:=HT.out.2.2.1;have:=HQ.out.2;omega,hrl,by rw [← HT.out.2.2.2,wC.out];rfl⟩,by simp [intOf];omega⟩
       ·have hkN:decide (pk=u)=false:=decide_eq_false hk
        have hpn2:phN ph pk=ph++[pk]:=by rw [HPN.out,if_pos hk]
        obtain ⟨W9,hW9⟩:∃ W9,W9=W7.alloc (.cells #[.int .i64 (pk:Int)] 3):=⟨_,rfl⟩
        have k9:Keep none_ W7 W9:=by rw [hW9];exact (Keep.refl _ _).alloc _
        have hb9:Blk W9 W7.heap.size [.int .i64 (pk:Int)] 3:=by rw [hW9];exact Blk.new W7 _ _
        obtain ⟨b10,cap10,W10,hrun10,o10,hs10,k10,eo10⟩:=(HS7.out.still k9).DU (hb9.cell 0 rfl) (by have:=HT.out.2.2.1;have:=HNB.out;have hm3:t≤t*(j+1):=Nat.le_mul_of_pos_right _ (by omega);omega)
        rw [hW9,HD.out] at hrun10
        rw [HD.out] at hs10
        have HBB:Hid (Blk W10 w6.heap.size [.int .i64 0,.int .i64 0,.int .i64 0,.int .i64 0,.int .i64 0,.int .i64 0] 37):=k10.blk (k9.blk HB7.out (fun f=>f)) (aU HO7.out rfl)
        have HOO:Hid (o10 w6.heap.size=0):=(eo10 _ (k9.blk HB7.out (fun f=>f)).lt).trans HO7.out
        have HST:Hid (CyS w W o G gs q (.slice ma j mc) (N+1+(t+1)*(j+1)) W10 o10 z2 fv (.slice (some ⟨b10,0,none⟩) (d+1+1) cap10) fr (phN ph pk)):=by show CyS _ _ _ _ _ _ _ _ _ _ _ _ _ _ _;rw [hpn2];exact hs10
        have y2:=HBB.out.cell 2 rfl
        have y5:=HBB.out.cell 5 rfl
        have HQ:Hid (phN ph pk≠[]∧(phN ph pk).length≤ph.length+1):=mX HT.out.1
        clear hpn2 HPN k9 hb9 hs10 k10 eo10 hW9 HB7 HO7 HS7
        go_wp2_with fail
        exact ⟨⟨t+1,z2,fr,phN ph pk,_,_,_,rfl,rfl,by omega,by go_num,HST.out,HQ.out.1,by have:=HT.out.2.1;omega,by have:=HT.out.2.2.1;have:=HQ.out.2;omega,hrl,by rw [← HT.out.2.2.2,wC.out];rfl⟩,by simp [intOf];omega⟩
     | some e =>
       by_cases hk5:e.kind=5
       ·have HEV:Hid (evR (some e)=false∧evF (some e) fr=fr++[e.value]):=⟨by show (e.kind==4)=false;rw [hk5];rfl,by show (if e.kind=5 then _ else _)=_;rw [if_pos hk5]⟩
        have hag:lC (some e) = .agg #[.int .i64 0,.int .i64 (e.who:Int),.int .i64 5,.int .i64 (e.op:Int),.int .i64 e.code,.int .i64 (e.value:Int)]:=by
         show Value.agg #[.int .i64 0,.int .i64 (e.who:Int),.int .i64 (e.kind:Int),.int .i64 (e.op:Int),.int .i64 e.code,.int .i64 (e.value:Int)]=_
         rw [hk5];rfl
        have htl:jQ (some e) = .bool true:=rfl
        rw [hag,htl]
        obtain ⟨W7,hW7⟩:∃ W7,W7=w6.alloc (.cells #[.int .i64 0,.int .i64 (e.who:Int),.int .i64 5,.int .i64 (e.op:Int),.int .i64 e.code,.int .i64 (e.value:Int)] 37):=⟨_,rfl⟩
        have k7:Keep none_ w6 W7:=by rw [hW7];exact (Keep.refl _ _).alloc _
        have hb7:Blk W7 w6.heap.size [.int .i64 0,.int .i64 (e.who:Int),.int .i64 5,.int .i64 (e.op:Int),.int .i64 e.code,.int .i64 (e.value:Int)] 37:=by rw [hW7];exact Blk.new w6 _ _
        have ho7:o6 w6.heap.size=0:=hs6.cw.coll.sh.fut _ (Nat.le_refl _)
        have hs7:=hs6.still k7
        have qO:Hid (Calls Tryz.prog 17 #[.pointer (some ⟨q.C,0,none⟩)] W7 fun e w'=>e = .returned (.int .i64 (z2.coll.phase:Int))∧W7=w'):=nD hs7.cw.coll
        have HS7:=Lib.hid hs7
        have HB7:=Lib.hid hb7
        have HW7:=Lib.hid hW7
        have HO7:=Lib.hid ho7
        clear hs6 hs7 hb7 k7 hW7 ho7 HCP
        go_wp2_with fail
        rw [← HW7.out]
        refine qO.out.mono ?_
        rintro e w8 ⟨rfl,rfl⟩
        obtain ⟨ap,cp,e3,hpf⟩:=HS7.out.p.form
        have hpp:0<ph.length:=List.length_pos_iff.2 HT.out.1
        obtain ⟨d,hd⟩:∃ d,ph.length=d+1:=⟨ph.length - 1,by omega⟩
        obtain ⟨bp,e4,hcp⟩:=hpf (ph.length - 1) u hu
        rw [show ph.length - 1=d by omega] at hcp
        cases e4
        rw [hd] at e3
        cases e3
        have ht9:t≤1000000000:=by have:=HNB.out;have hm3:t≤t*(j+1):=Nat.le_mul_of_pos_right _ (by omega);omega
        have hdI:(d:Int)≤1000000000:=by have:=HT.out.2.2.1;have:=HNB.out;have hm3:t≤t*(j+1):=Nat.le_mul_of_pos_right _ (by omega);omega
        have hd0:(0:Int)≤(d:Int):=by omega
        have HD:=Lib.hid hd
        clear hpf qO HW7 hpp hd
        generalize hpq:z2.coll.phase=pk at *
        by_cases hk:pk=u
        ·subst hk
         have hpn2:phN ph pk=ph:=by rw [HPN.out,if_neg (by simp)]
         have HST:Hid (CyS w W o G gs q (.slice ma j mc) (N+1+(t+1)*(j+1)) W7 o6 z2 fv (.slice (some ⟨bp,0,none⟩) (d+1) cp) fr (phN ph pk)):=by show CyS _ _ _ _ _ _ _ _ _ _ _ _ _ _ _;rw [hpn2];exact HS7.out
         have y2:=HB7.out.cell 2 rfl
         have y5:=HB7.out.cell 5 rfl
         have HQ:Hid (phN ph pk≠[]∧(phN ph pk).length≤ph.length+1):=mX HT.out.1
         have HBB:=HB7
         have HOO:=HO7
         clear hpn2 HPN HB7 HO7 HS7
         obtain ⟨W11,uJ⟩:∃ W11,W11=W7.alloc (.cells #[.int .i64 (e.value:Int)] 3):=⟨_,rfl⟩
         have k11:Keep none_ W7 W11:=by rw [uJ];exact (Keep.refl _ _).alloc _
         have hb11:Blk W11 W7.heap.size [.int .i64 (e.value:Int)] 3:=by rw [uJ];exact Blk.new W7 _ _
         obtain ⟨b12,cap12,W12,hrun12,o12,hs12,k12⟩:=(HST.out.still k11).QL (hb11.cell 0 rfl) (by have:=HT.out.2.1;omega)
         have y2b:=(k12.blk (k11.blk HBB.out (fun f=>f)) (aU HOO.out rfl)).cell 2 rfl
         rw [uJ] at hrun12
         have Qy:=Lib.hid hs12
         clear uJ k11 hb11 hs12 k12 HST
         go_wp2_with fail
         exact ⟨⟨t+1,z2,fr++[e.value],phN ph pk,_,_,_,rfl,rfl,by omega,by go_num,Qy.out,HQ.out.1,by have:=HT.out.2.1;simp;omega,by have:=HT.out.2.2.1;have:=HQ.out.2;omega,hrl,by rw [← HT.out.2.2.2,wC.out,HEV.out.1,HEV.out.2];rfl⟩,by simp [intOf];omega⟩
        ·have hkN:decide (pk=u)=false:=decide_eq_false hk
         have hpn2:phN ph pk=ph++[pk]:=by rw [HPN.out,if_pos hk]
         obtain ⟨W9,hW9⟩:∃ W9,W9=W7.alloc (.cells #[.int .i64 (pk:Int)] 3):=⟨_,rfl⟩
         have k9:Keep none_ W7 W9:=by rw [hW9];exact (Keep.refl _ _).alloc _
         have hb9:Blk W9 W7.heap.size [.int .i64 (pk:Int)] 3:=by rw [hW9];exact Blk.new W7 _ _
         obtain ⟨b10,cap10,W10,hrun10,o10,hs10,k10,eo10⟩:=(HS7.out.still k9).DU (hb9.cell 0 rfl) (by have:=HT.out.2.2.1;have:=HNB.out;have hm3:t≤t*(j+1):=Nat.le_mul_of_pos_right _ (by omega);omega)
         rw [hW9,HD.out] at hrun10
         rw [HD.out] at hs10
         have HBB:Hid (Blk W10 w6.heap.size [.int .i64 0,.int .i64 (e.who:Int),.int .i64 5,.int .i64 (e.op:Int),.int .i64 e.code,.int .i64 (e.value:Int)] 37):=k10.blk (k9.blk HB7.out (fun f=>f)) (aU HO7.out rfl)
         have HOO:Hid (o10 w6.heap.size=0):=(eo10 _ (k9.blk HB7.out (fun f=>f)).lt).trans HO7.out
         have HST:Hid (CyS w W o G gs q (.slice ma j mc) (N+1+(t+1)*(j+1)) W10 o10 z2 fv (.slice (some ⟨b10,0,none⟩) (d+1+1) cap10) fr (phN ph pk)):=by show CyS _ _ _ _ _ _ _ _ _ _ _ _ _ _ _;rw [hpn2];exact hs10
         have y2:=HBB.out.cell 2 rfl
         have y5:=HBB.out.cell 5 rfl
         have HQ:Hid (phN ph pk≠[]∧(phN ph pk).length≤ph.length+1):=mX HT.out.1
         clear hpn2 HPN k9 hb9 hs10 k10 eo10 hW9 HB7 HO7 HS7
         obtain ⟨W11,uJ⟩:∃ W11,W11=W10.alloc (.cells #[.int .i64 (e.value:Int)] 3):=⟨_,rfl⟩
         have k11:Keep none_ W10 W11:=by rw [uJ];exact (Keep.refl _ _).alloc _
         have hb11:Blk W11 W10.heap.size [.int .i64 (e.value:Int)] 3:=by rw [uJ];exact Blk.new W10 _ _
         obtain ⟨b12,cap12,W12,hrun12,o12,hs12,k12⟩:=(HST.out.still k11).QL (hb11.cell 0 rfl) (by have:=HT.out.2.1;omega)
         have y2b:=(k12.blk (k11.blk HBB.out (fun f=>f)) (aU HOO.out rfl)).cell 2 rfl
         rw [uJ] at hrun12
         have Qy:=Lib.hid hs12
         clear uJ k11 hb11 hs12 k12 HST
         go_wp2_with fail
         exact ⟨⟨t+1,z2,fr++[e.value],phN ph pk,_,_,_,rfl,rfl,by omega,by go_num,Qy.out,HQ.out.1,by have:=HT.out.2.1;simp;omega,by have:=HT.out.2.2.1;have:=HQ.out.2;omega,hrl,by rw [← HT.out.2.2.2,wC.out,HEV.out.1,HEV.out.2];rfl⟩,by simp [intOf];omega⟩
       ·by_cases hk4:e.kind=4
        ·have HEV:Hid (evR (some e)=true∧evF (some e) fr=fr):=⟨by show (e.kind==4)=true;rw [hk4];rfl,by show (if e.kind=5 then _ else _)=_;rw [if_neg hk5]⟩
         have hag:lC (some e) = .agg #[.int .i64 0,.int .i64 (e.who:Int),.int .i64 4,.int .i64 (e.op:Int),.int .i64 e.code,.int .i64 (e.value:Int)]:=by
          show Value.agg #[.int .i64 0,.int .i64 (e.who:Int),.int .i64 (e.kind:Int),.int .i64 (e.op:Int),.int .i64 e.code,.int .i64 (e.value:Int)]=_
          rw [hk4];rfl
         have htl:jQ (some e) = .bool true:=rfl
         rw [hag,htl]
         obtain ⟨W7,hW7⟩:∃ W7,W7=w6.alloc (.cells #[.int .i64 0,.int .i64 (e.who:Int),.int .i64 4,.int .i64 (e.op:Int),.int .i64 e.code,.int .i64 (e.value:Int)] 37):=⟨_,rfl⟩
         have k7:Keep none_ w6 W7:=by rw [hW7];exact (Keep.refl _ _).alloc _
         have hb7:Blk W7 w6.heap.size [.int .i64 0,.int .i64 (e.who:Int),.int .i64 4,.int .i64 (e.op:Int),.int .i64 e.code,.int .i64 (e.value:Int)] 37:=by rw [hW7];exact Blk.new w6 _ _
         have ho7:o6 w6.heap.size=0:=hs6.cw.coll.sh.fut _ (Nat.le_refl _)
         have hs7:=hs6.still k7
         have qO:Hid (Calls Tryz.prog 17 #[.pointer (some ⟨q.C,0,none⟩)] W7 fun e w'=>e = .returned (.int .i64 (z2.coll.phase:Int))∧W7=w'):=nD hs7.cw.coll
         have HS7:=Lib.hid hs7
         have HB7:=Lib.hid hb7
         have HW7:=Lib.hid hW7
         have HO7:=Lib.hid ho7
         clear hs6 hs7 hb7 k7 hW7 ho7 HCP
         go_wp2_with fail
         rw [← HW7.out]
         refine qO.out.mono ?_
         rintro e w8 ⟨rfl,rfl⟩
         obtain ⟨ap,cp,e3,hpf⟩:=HS7.out.p.form
         have hpp:0<ph.length:=List.length_pos_iff.2 HT.out.1
         obtain ⟨d,hd⟩:∃ d,ph.length=d+1:=⟨ph.length - 1,by omega⟩
         obtain ⟨bp,e4,hcp⟩:=hpf (ph.length - 1) u hu
         rw [show ph.length - 1=d by omega] at hcp
         cases e4
         rw [hd] at e3
         cases e3
         have ht9:t≤1000000000:=by have:=HNB.out;have hm3:t≤t*(j+1):=Nat.le_mul_of_pos_right _ (by omega);omega
         have hdI:(d:Int)≤1000000000:=by have:=HT.out.2.2.1;have:=HNB.out;have hm3:t≤t*(j+1):=Nat.le_mul_of_pos_right _ (by omega);omega
         have hd0:(0:Int)≤(d:Int):=by omega
         have HD:=Lib.hid hd
         clear hpf qO HW7 hpp hd
         generalize hpq:z2.coll.phase=pk at *
         by_cases hk:pk=u
         ·subst hk
          have hpn2:phN ph pk=ph:=by rw [HPN.out,if_neg (by simp)]
          have HST:Hid (CyS w W o G gs q (.slice ma j mc) (N+1+(t+1)*(j+1)) W7 o6 z2 fv (.slice (some ⟨bp,0,none⟩) (d+1) cp) fr (phN ph pk)):=by show CyS _ _ _ _ _ _ _ _ _ _ _ _ _ _ _;rw [hpn2];exact HS7.out
          have y2:=HB7.out.cell 2 rfl
          have y5:=HB7.out.cell 5 rfl
          have HQ:Hid (phN ph pk≠[]∧(phN ph pk).length≤ph.length+1):=mX HT.out.1
          have HBB:=HB7
          have HOO:=HO7
          clear hpn2 HPN HB7 HO7 HS7
          go_wp2_with fail
          go_ret3
          exact lH.out _ _ _ _ _ _ _ _ (by rw [← HT.out.2.2.2,wC.out,HEV.out.1,HEV.out.2];rfl) (HST.out.more HM2.out)
         ·have hkN:decide (pk=u)=false:=decide_eq_false hk
          have hpn2:phN ph pk=ph++[pk]:=by rw [HPN.out,if_pos hk]
          obtain ⟨W9,hW9⟩:∃ W9,W9=W7.alloc (.cells #[.int .i64 (pk:Int)] 3):=⟨_,rfl⟩
          have k9:Keep none_ W7 W9:=by rw [hW9];exact (Keep.refl _ _).alloc _
          have hb9:Blk W9 W7.heap.size [.int .i64 (pk:Int)] 3:=by rw [hW9];exact Blk.new W7 _ _
          obtain ⟨b10,cap10,W10,hrun10,o10,hs10,k10,eo10⟩:=(HS7.out.still k9).DU (hb9.cell 0 rfl) (by have:=HT.out.2.2.1;have:=HNB.out;have hm3:t≤t*(j+1):=Nat.le_mul_of_pos_right _ (by omega);omega)
          rw [hW9,HD.out] at hrun10
          rw [HD.out] at hs10
          have HBB:Hid (Blk W10 w6.heap.size [.int .i64 0,.int .i64 (e.who:Int),.int .i64 4,.int .i64 (e.op:Int),.int .i64 e.code,.int .i64 (e.value:Int)] 37):=k10.blk (k9.blk HB7.out (fun f=>f)) (aU HO7.out rfl)
          have HOO:Hid (o10 w6.heap.size=0):=(eo10 _ (k9.blk HB7.out (fun f=>f)).lt).trans HO7.out
          have HST:Hid (CyS w W o G gs q (.slice ma j mc) (N+1+(t+1)*(j+1)) W10 o10 z2 fv (.slice (some ⟨b10,0,none⟩) (d+1+1) cap10) fr (phN ph pk)):=by show CyS _ _ _ _ _ _ _ _ _ _ _ _ _ _ _;rw [hpn2];exact hs10
          have y2:=HBB.out.cell 2 rfl
          have y5:=HBB.out.cell 5 rfl
          have HQ:Hid (phN ph pk≠[]∧(phN ph pk).length≤ph.length+1):=mX HT.out.1
          clear hpn2 HPN k9 hb9 hs10 k10 eo10 hW9 HB7 HO7 HS7
          go_wp2_with fail
          go_ret3
          exact lH.out _ _ _ _ _ _ _ _ (by rw [← HT.out.2.2.2,wC.out,HEV.out.1,HEV.out.2];rfl) (HST.out.more HM2.out)
        ·have HEV:Hid (evR (some e)=false∧evF (some e) fr=fr):=⟨by show (e.kind==4)=false;simpa using hk4,by show (if e.kind=5 then _ else _)=_;rw [if_neg hk5]⟩
         obtain ⟨kk,hkk⟩:∃ kk,kk=e.kind:=⟨_,rfl⟩
         have WA:((kk:Int)==5)=false:=by simp;omega
         have WB:((kk:Int)==4)=false:=by simp;omega
         have WC:decide (kk=5)=false:=decide_eq_false (by omega)
         have WE:decide (kk=4)=false:=decide_eq_false (by omega)
         have hag:lC (some e) = .agg #[.int .i64 0,.int .i64 (e.who:Int),.int .i64 (kk:Int),.int .i64 (e.op:Int),.int .i64 e.code,.int .i64 (e.value:Int)]:=by rw [hkk];rfl
         have htl:jQ (some e) = .bool true:=rfl
         rw [hag,htl]
         clear hkk hk5 hk4
         obtain ⟨W7,hW7⟩:∃ W7,W7=w6.alloc (.cells #[.int .i64 0,.int .i64 (e.who:Int),.int .i64 (kk:Int),.int .i64 (e.op:Int),.int .i64 e.code,.int .i64 (e.value:Int)] 37):=⟨_,rfl⟩
         have k7:Keep none_ w6 W7:=by rw [hW7];exact (Keep.refl _ _).alloc _
         have hb7:Blk W7 w6.heap.size [.int .i64 0,.int .i64 (e.who:Int),.int .i64 (kk:Int),.int .i64 (e.op:Int),.int .i64 e.code,.int .i64 (e.value:Int)] 37:=by rw [hW7];exact Blk.new w6 _ _
         have ho7:o6 w6.heap.size=0:=hs6.cw.coll.sh.fut _ (Nat.le_refl _)
         have hs7:=hs6.still k7
         have qO:Hid (Calls Tryz.prog 17 #[.pointer (some ⟨q.C,0,none⟩)] W7 fun e w'=>e = .returned (.int .i64 (z2.coll.phase:Int))∧W7=w'):=nD hs7.cw.coll
         have HS7:=Lib.hid hs7
         have HB7:=Lib.hid hb7
         have HW7:=Lib.hid hW7
         have HO7:=Lib.hid ho7
         clear hs6 hs7 hb7 k7 hW7 ho7 HCP
         go_wp2_with fail
         rw [← HW7.out]
         refine qO.out.mono ?_
         rintro e w8 ⟨rfl,rfl⟩
         obtain ⟨ap,cp,e3,hpf⟩:=HS7.out.p.form
         have hpp:0<ph.length:=List.length_pos_iff.2 HT.out.1
         obtain ⟨d,hd⟩:∃ d,ph.length=d+1:=⟨ph.length - 1,by omega⟩
         obtain ⟨bp,e4,hcp⟩:=hpf (ph.length - 1) u hu
         rw [show ph.length - 1=d by omega] at hcp
         cases e4
         rw [hd] at e3
         cases e3
         have ht9:t≤1000000000:=by have:=HNB.out;have hm3:t≤t*(j+1):=Nat.le_mul_of_pos_right _ (by omega);omega
         have hdI:(d:Int)≤1000000000:=by have:=HT.out.2.2.1;have:=HNB.out;have hm3:t≤t*(j+1):=Nat.le_mul_of_pos_right _ (by omega);omega
         have hd0:(0:Int)≤(d:Int):=by omega
         have HD:=Lib.hid hd
         clear hpf qO HW7 hpp hd
         generalize hpq:z2.coll.phase=pk at *
         by_cases hk:pk=u
         ·subst hk
          have hpn2:phN ph pk=ph:=by rw [HPN.out,if_neg (by simp)]
          have HST:Hid (CyS w W o G gs q (.slice ma j mc) (N+1+(t+1)*(j+1)) W7 o6 z2 fv (.slice (some ⟨bp,0,none⟩) (d+1) cp) fr (phN ph pk)):=by show CyS _ _ _ _ _ _ _ _ _ _ _ _ _ _ _;rw [hpn2];exact HS7.out
          have y2:=HB7.out.cell 2 rfl
          have y5:=HB7.out.cell 5 rfl
          have HQ:Hid (phN ph pk≠[]∧(phN ph pk).length≤ph.length+1):=mX HT.out.1
          have HBB:=HB7
          have HOO:=HO7
          clear hpn2 HPN HB7 HO7 HS7
          go_wp2_with fail
          exact ⟨⟨t+1,z2,fr,phN ph pk,_,_,_,rfl,rfl,by omega,by go_num,HST.out,HQ.out.1,by have:=HT.out.2.1;omega,by have:=HT.out.2.2.1;have:=HQ.out.2;omega,hrl,by rw [← HT.out.2.2.2,wC.out,HEV.out.1,HEV.out.2];rfl⟩,by simp [intOf];omega⟩
         ·have hkN:decide (pk=u)=false:=decide_eq_false hk
          have hpn2:phN ph pk=ph++[pk]:=by rw [HPN.out,if_pos hk]
          obtain ⟨W9,hW9⟩:∃ W9,W9=W7.alloc (.cells #[.int .i64 (pk:Int)] 3):=⟨_,rfl⟩
          have k9:Keep none_ W7 W9:=by rw [hW9];exact (Keep.refl _ _).alloc _
          have hb9:Blk W9 W7.heap.size [.int .i64 (pk:Int)] 3:=by rw [hW9];exact Blk.new W7 _ _
          obtain ⟨b10,cap10,W10,hrun10,o10,hs10,k10,eo10⟩:=(HS7.out.still k9).DU (hb9.cell 0 rfl) (by have:=HT.out.2.2.1;have:=HNB.out;have hm3:t≤t*(j+1):=Nat.le_mul_of_pos_right _ (by omega);omega)
          rw [hW9,HD.out] at hrun10
          rw [HD.out] at hs10
          have HBB:Hid (Blk W10 w6.heap.size [.int .i64 0,.int .i64 (e.who:Int),.int .i64 (kk:Int),.int .i64 (e.op:Int),.int .i64 e.code,.int .i64 (e.value:Int)] 37):=k10.blk (k9.blk HB7.out (fun f=>f)) (aU HO7.out rfl)
          have HOO:Hid (o10 w6.heap.size=0):=(eo10 _ (k9.blk HB7.out (fun f=>f)).lt).trans HO7.out
          have HST:Hid (CyS w W o G gs q (.slice ma j mc) (N+1+(t+1)*(j+1)) W10 o10 z2 fv (.slice (some ⟨b10,0,none⟩) (d+1+1) cap10) fr (phN ph pk)):=by show CyS _ _ _ _ _ _ _ _ _ _ _ _ _ _ _;rw [hpn2];exact hs10
          have y2:=HBB.out.cell 2 rfl
          have y5:=HBB.out.cell 5 rfl
          have HQ:Hid (phN ph pk≠[]∧(phN ph pk).length≤ph.length+1):=mX HT.out.1
          clear hpn2 HPN k9 hb9 hs10 k10 eo10 hW9 HB7 HO7 HS7
          go_wp2_with fail
          exact ⟨⟨t+1,z2,fr,phN ph pk,_,_,_,rfl,rfl,by omega,by go_num,HST.out,HQ.out.1,by have:=HT.out.2.1;omega,by have:=HT.out.2.2.1;have:=HQ.out.2;omega,hrl,by rw [← HT.out.2.2.2,wC.out,HEV.out.1,HEV.out.2];rfl⟩,by simp [intOf];omega⟩
  ·obtain rfl:t=most:=by omega
   have htI:¬ (t:Int)<(t:Int):=by omega
   have HE:=Lib.hid (lH.out wr fv pv fr ph false z o3 (by rw [← hrun,Nat.sub_self];rfl) hs)
   clear hs hrun hph hfl hpl
   go_wp2_with fail
   go_ret3
   exact HE.out
end
end
end Go.Proofs.YtanfphjoebobaaaGreatDoor
