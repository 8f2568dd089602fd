/- Parts of the walk. No conditions. -/
import Derived.Test.YtanfphjoebobaaaGreatDoorZzvae
namespace Go.Proofs.YtanfphjoebobaaaGreatDoor
open _root_.Go.Proofs.Tryz hiding prog
open _root_.Go.Proofs.Tryz renaming prog->ay
set_option maxRecDepth 8000
set_option maxHeartbeats 8000000
section
attribute [local go_sem ↓] lu
attribute [local go_sem] Oper.semAt_some
open Go.RowKit
section
variable {o o' o0:Ow} {w w' W W' W0:World} {G:Geo} {gs:List MG} {q:CG} {x y:WS} {v:Value} {N i n:Nat} {l:List Nat} {I:List Nat}
structure gu (w W0:World) (o0:Ow) (G:Geo) (gs:List MG) (q:CG) (mv:Value) (N:Nat) (W:World) (o:Ow) (x:WS) (fv pv:Value) (fr ph:List Nat):Prop where
 cw:CW w W o G gs q x
 ok:nV N x
 few:rU x
 cx:CX W0 o0 W o
 mv:iO o W mv gs
 f:jT 98 o W fv fr
 p:jT 99 o W pv ph
theorem gu.still {mv fv pv:Value} {fr ph:List Nat} (h:gu w W0 o0 G gs q mv N W o x fv pv fr ph) (k:Keep none_ W W'):gu w W0 o0 G gs q mv N W' o x fv pv fr ph :=
 ⟨h.cw.rH k,h.ok,h.few,h.cx.step (I:=[]) k.aQ (aO.refl _ _) (fun _ ha=>by cases ha),h.mv.keep (I:=[]) k.aQ rfl (aO.refl _ _),h.f.keep (I:=[]) k.aQ rfl (aO.refl _ _),h.p.keep (I:=[]) k.aQ rfl (aO.refl _ _)⟩
theorem gu.pick {mv fv pv:Value} {fr ph:List Nat} (h:gu w W0 o0 G gs q mv N W o x fv pv fr ph) (hN:N<=1000000000) {i:Nat} {g:MG} {m:MS} (hg:gs[i]?=some g) (hm:x.muts[i]?=some m):Calls ay 24 #[aj g.M] W fun e W'=>(∃ v1 v2,e = .returned (.tuple #[v1,v2]))/\∃ o',gu w W0 o0 G gs q mv (N+1) W' o' (aY x i) fv pv fr ph:=by
 have hi8:i<8:=by
  obtain ⟨g1,g2⟩:=h.cw.dJ i g m hg hm
  have:=g1.ji;omega
 have hsub:=Vy i hi8
 have h98:(bU i).contains 98=false:=by simp [bU];omega
 have h99:(bU i).contains 99=false:=by simp [bU];omega
 have h97:(bU i).contains 97=false:=by simp [bU];omega
 refine (h.cw.pick h.ok hN hg hm (I8 _ (h.few m (List.mem_of_getElem? hm)).1)).mono ?_
 rintro e W' ⟨rfl,o',eo,hc,k⟩
 exact ⟨⟨_,_,rfl⟩,o',hc,wM h.ok h.cw.coll.sh.heap.hbd i,qV h.few i,h.cx.step k eo hsub,h.mv.keep k h97 eo,h.f.keep k h98 eo,h.p.keep k h99 eo⟩
theorem gu.coll {mv fv pv:Value} {fr ph:List Nat} (h:gu w W0 o0 G gs q mv N W o x fv pv fr ph) (hN:N<=1000000000):Calls ay 12 #[aj q.C] W fun e W'=>e = .returned (.tuple #[jJ (bD x.s x.coll).ev,iQ (bD x.s x.coll).ev])/\∃ o',gu w W0 o0 G gs q mv (N+1) W' o' (aY x x.muts.length) fv pv fr ph:=by
 refine (h.cw.Xn h.ok hN).mono ?_
 rintro e W' ⟨rfl,o',eo,hc,k⟩
 exact ⟨rfl,o',hc,wM h.ok h.cw.coll.sh.heap.hbd _,qV h.few _,h.cx.step k eo Vz,h.mv.keep k rfl eo,h.f.keep k rfl eo,h.p.keep k rfl eo⟩
theorem gu.JX {mv fv pv:Value} {fr ph:List Nat} (h:gu w W0 o0 G gs q mv N W o x fv pv fr ph) {M u:Nat} (hM:W.cell? ⟨M,0,none⟩=some (ah (u:Int))) (hl:ph.length<=100000000000):∃ b cap W5,(app9 #[32,32] 32 #[pv,.slice (some ⟨M,0,none⟩) 1 1]).run ay W = .ok (.slice (some ⟨b,0,none⟩) (ph.length+1) cap) W5 /\
 ∃ o',gu w W0 o0 G gs q mv N W5 o' x fv (.slice (some ⟨b,0,none⟩) (ph.length+1) cap) fr (ph++[u])/\Keep (In o [99]) W W5/\aO W o o':=by
 obtain ⟨b,cap,W5,hrun,o',eo,hc,hp,k⟩:=h.p.grow h.cw (by decide) hM hl
 refine ⟨b,cap,W5,hrun,o',?_,k,eo⟩
 exact ⟨hc,h.ok,h.few,h.cx.step k eo (by decide),h.mv.keep k rfl eo,h.f.keep k rfl eo,hp⟩
theorem gu.Ym {mv fv pv:Value} {fr ph:List Nat} (h:gu w W0 o0 G gs q mv N W o x fv pv fr ph) {M u:Nat} (hM:W.cell? ⟨M,0,none⟩=some (ah (u:Int))) (hl:fr.length<=100000000000):∃ b cap W5,(app9 #[32,32] 32 #[fv,.slice (some ⟨M,0,none⟩) 1 1]).run ay W = .ok (.slice (some ⟨b,0,none⟩) (fr.length+1) cap) W5 /\
 ∃ o',gu w W0 o0 G gs q mv N W5 o' x (.slice (some ⟨b,0,none⟩) (fr.length+1) cap) pv (fr++[u]) ph/\Keep (In o [98]) W W5:=by
 obtain ⟨b,cap,W5,hrun,o',eo,hc,hp,k⟩:=h.f.grow h.cw (by decide) hM hl
 refine ⟨b,cap,W5,hrun,o',?_,k⟩
 exact ⟨hc,h.ok,h.few,h.cx.step k eo (by decide),h.mv.keep k rfl eo,hp,h.p.keep k rfl eo⟩
theorem gu.more {mv fv pv:Value} {fr ph:List Nat} {M:Nat} (h:gu w W0 o0 G gs q mv N W o x fv pv fr ph) (hM:N<=M):gu w W0 o0 G gs q mv M W o x fv pv fr ph:=⟨h.cw,h.ok.more hM,h.few,h.cx,h.mv,h.f,h.p⟩
theorem pU (x:WS):aY x (x.muts.length+1)={ x with coll:={ x.coll with wish:=true },picks:=x.picks+1 }:=by
 unfold aY
 rw [List.getElem?_eq_none (by omega)]
 simp only
 rw [if_neg (by omega)]
 rfl
theorem aaM {ph:List Nat} {k:Nat} (h:ph≠[]):∃ u,ph[ph.length - 1]?=some u/\fZ ph k=if k≠u then ph++[k] else ph:=by
 obtain ⟨l,a,rfl⟩:=(List.eq_nil_or_concat ph).resolve_left h
 refine ⟨a,?_,?_⟩
 ·simp
 ·unfold fZ
  rw [List.concat_eq_append,List.getLastD_concat]
theorem qW {ph:List Nat} {k:Nat} (h:ph≠[]):fZ ph k≠[]/\(fZ ph k).length<=ph.length+1:=by
 unfold fZ
 split
 ·exact ⟨by simp,by simp⟩
 ·exact ⟨h,Nat.le_succ _⟩
def SL (w W0:World) (o0:Ow) (G:Geo) (gs:List MG) (q:CG) (mv:Value) (N most:Nat) (x:WS) (e:Ending) (W':World):Prop :=
 ∃ (fv pv:Value) (o':Ow),e = .returned (.tuple #[fv,pv,.bool (fG gs.length most (aY x (x.muts.length+1)) [] [x.coll.phase]).2.2.1])/\gu w W0 o0 G gs q mv (N+1+most*(gs.length+1)) W' o' (fG gs.length most (aY x (x.muts.length+1)) [] [x.coll.phase]).2.2.2 fv pv (fG gs.length most (aY x (x.muts.length+1)) [] [x.coll.phase]).1 (fG gs.length most (aY x (x.muts.length+1)) [] [x.coll.phase]).2.1
theorem Ji {mv:Value} (h:CW w W o G gs q x) (ok:nV N x) (hfew:rU x) (hmv:iO o W mv gs) (most:Nat) (hN:N+1+most*9<=1000000000):Calls ay 27 #[aj q.C,mv,ah (most:Int)] W (SL w W o G gs q mv N most x):=by
 obtain ⟨ma,mc,rfl,_⟩:=hmv.form
 have hlen:=h.len
 obtain ⟨n,hn⟩:∃ n,n=gs.length:=⟨_,rfl⟩
 rw [<- hn] at hmv
 have hn8:n<=8:=by
  rcases Nat.eq_zero_or_pos n with e|e
  ·omega
  ·obtain ⟨g,hg⟩:∃ g,gs[n - 1]?=some g:=⟨gs[n - 1]'(by omega),List.getElem?_eq_getElem _⟩
   obtain ⟨m,hm⟩:∃ m,x.muts[n - 1]?=some m:=⟨x.muts[n - 1]'(by omega),List.getElem?_eq_getElem _⟩
   obtain ⟨g1,g2⟩:=h.dJ (n - 1) g m hg hm
   have:=g1.ji;omega
 have hmul:most*(n+1)<=most*9:=Nat.mul_le_mul_left _ (by omega)
 have VA:Hid (Calls ay 17 #[aj q.C] W fun e w'=>e = .returned (ah (x.coll.phase:Int))/\W=w'):=qp h.coll
 have hW1:∀ W1,W1=W.alloc (.cells #[ah (x.coll.phase:Int)] 3)->gu w W o G gs q (.slice ma n mc) N W1 (o.put W.heap.size 99) x (.slice none 0 0) (.slice (some ⟨W.heap.size,0,none⟩) 1 1) [] [x.coll.phase]:=fun W1 hW1=>by
  have k1:Keep none_ W W1:=by rw [hW1];exact (Keep.refl _ _).alloc _
  have hb:aA W1 W.heap.size [ah (x.coll.phase:Int)] 3:=by rw [hW1];exact aA.new W _ _
  obtain ⟨c1,c2⟩:=h.own k1 (Nat.le_refl _) hb.lt 99
  exact ⟨c1,ok,hfew,(CX.refl W o).step (I:=[]) k1.aQ c2 (fun _ ha=>by cases ha),hmv.keep (I:=[]) k1.aQ rfl c2,jT.nil 98 _ _,jT.new o 99 x.coll.phase W.heap.size hb⟩
 have P8:Hid (∀ W1,W1=W.alloc (.cells #[ah (x.coll.phase:Int)] 3)->Calls ay 14 #[aj q.C] W1 fun e w'=>e = .returned (.tuple #[])/\∃ o',gu w W o G gs q (.slice ma n mc) (N+1) w' o' (aY x (x.muts.length+1)) (.slice none 0 0) (.slice (some ⟨W.heap.size,0,none⟩) 1 1) [] [x.coll.phase]):=fun W1 e1=>by
  have hs:=hW1 W1 e1
  refine hs.cw.wish.mono ?_
  rintro e w' ⟨rfl,hc,k⟩
  exact ⟨rfl,_,hc,wM ok h.coll.sh.heap.hbd _,qV hfew _,hs.cx.step k (aO.refl _ _) (by decide),hs.mv.keep k rfl (aO.refl _ _),hs.f.keep k rfl (aO.refl _ _),hs.p.keep k rfl (aO.refl _ _)⟩
 have pG:Hid (∀ W' (fv pv:Value) (fr ph:List Nat) (okk:Bool) (z:WS) (o':Ow),fG n most (aY x (x.muts.length+1)) [] [x.coll.phase]=(fr,ph,okk,z)->gu w W o G gs q (.slice ma n mc) (N+1+most*(n+1)) W' o' z fv pv fr ph->SL w W o G gs q (.slice ma n mc) N most x (.returned (.tuple #[fv,pv,.bool okk])) W'):=fun W' fv pv fr ph okk z o' e hs=>by
  unfold SL
  rw [<- hn,e]
  exact ⟨fv,pv,o',rfl,hs⟩
 have hml:∀ j,(aU j (aY x (x.muts.length+1))).muts.length=n:=fun j=>by
  rw [xE,pU];exact hlen.symm.trans hn.symm
 have XU:Hid (n=gs.length):=hn
 have acz:(aY x (x.muts.length+1)).muts.length=n:=hml 0
 rw [<- hn]
 generalize SL w W o G gs q (.slice ma n mc) N most x=PO at *
 generalize hx0:aY x (x.muts.length+1)=x0 at *
 clear h ok hfew hmv hlen hW1 hml hn
 go_enter func27,ntmps27
 go_wp2_with fail
 refine VA.out.mono ?_
 rintro e w1 ⟨rfl,rfl⟩
 obtain ⟨W1,hW1⟩:∃ W1,W1=W.alloc (.cells #[ah (x.coll.phase:Int)] 3):=⟨_,rfl⟩
 have HW1:=au hW1
 have aaN:=au (P8.out W1 hW1)
 clear hW1 P8 VA
 go_wp2_with fail
 rw [<- HW1.out]
 refine aaN.out.mono ?_
 rintro e w2 ⟨rfl,o2,hs2⟩
 have HS2:=au hs2
 clear hs2 aaN HW1
 go_wp2_with fail
 go_loopw [9,10,11,12,13,14,15] (fun fv pv iv _ _ _ _ wr=>∃ (t:Nat) (z:WS) (fr ph:List Nat) (o':Ow) (fv' pv':Value),fv'=fv/\pv'=pv/\t<=most/\iv = ah t/\gu w W o G gs q (.slice ma n mc) (N+1+t*(n+1)) wr o' z fv pv fr ph/\ph≠[]/\fr.length<=t/\ph.length<=t+1/\z.muts.length=n/\fG n (most - t) z fr ph=fG n most x0 [] [x.coll.phase]) (fun _ _ iv _ _ _ _ _=>most - (intOf iv).toNat)
 case atStart=>exact ⟨0,x0,[],[x.coll.phase],o2,_,_,rfl,rfl,Nat.zero_le _,rfl,HS2.out.more (by omega),by simp,Nat.le_refl _,Nat.le_refl _,acz,rfl⟩
 case round =>
  obtain ⟨t,z,fr,ph,o3,fv,pv,hfv,hpv,ht,rfl,hs,lS,hfl,hpl,hzl,hrun⟩:=hrel
  subst hfv hpv
  have hm1:t*(n+1)<=most*(n+1):=Nat.mul_le_mul_right _ ht
  by_cases htm:t<most
  ·have MQ : (t:Int)<(most:Int):=by omega
   have hm2:(t+1)*(n+1)<=most*(n+1):=Nat.mul_le_mul_right _ htm
   rw [Nat.add_mul,Nat.one_mul] at hm2
   have MN:Hid (N+1+(t+1)*(n+1)<=N+1+most*(n+1)):=Nat.add_le_add_left (Nat.mul_le_mul_right _ htm) _
   have nH:Hid (N+1+t*(n+1)+(n+1)<=1000000000):=by show _<=_;omega
   have HS:=au hs
   have HT:Hid (ph≠[]/\fr.length<=t/\ph.length<=t+1/\fG n (most - t) z fr ph=fG n most x0 [] [x.coll.phase]):=⟨lS,hfl,hpl,hrun⟩
   have qX:Hid (∀ j,(aU j z).muts.length=n):=fun j=>(xE j z).trans hzl
   clear hs lS hfl hpl hrun hm1 hm2 hzl
   go_wp2_with fail
   go_loopw [12] (fun iv wr=>∃ (j:Nat) (o':Ow),j<=n/\iv = ah j/\gu w W o G gs q (.slice ma n mc) (N+1+t*(n+1)+j) wr o' (aU j z) fv pv fr ph) (fun iv _=>n - (intOf iv).toNat)
   case atStart=>exact ⟨0,o3,Nat.zero_le _,rfl,HS.out⟩
   case round =>
    obtain ⟨j,o4,hj,rfl,hs⟩:=hrel
    by_cases hjn:j<n
    ·have KR:(j:Int)<(n:Int):=by omega
     have hj0:(0:Int)<=(j:Int):=by omega
     obtain ⟨g0,hg0⟩:∃ g,gs[j]?=some g:=⟨gs[j]'(by have:=XU.out;omega),List.getElem?_eq_getElem _⟩
     obtain ⟨m0,hm0⟩:∃ m,(aU j z).muts[j]?=some m:=⟨(aU j z).muts[j]'(by have:=qX.out j;omega),List.getElem?_eq_getElem _⟩
     obtain ⟨a',c',e1,hform⟩:=hs.mv.form
     rw [<- XU.out] at e1
     cases e1
     obtain ⟨bA,e2,hcA⟩:=hform j g0 hg0
     have uh:=au (hs.pick (by have:=nH.out;omega) hg0 hm0)
     cases e2
     clear hs hform hg0 hm0
     go_wp2_with fail
     refine uh.out.mono ?_
     rintro e w5 ⟨⟨v1,v2,rfl⟩,o5,hs5⟩
     have qx:=au hs5
     clear hs5 uh hcA
     go_wp2_with fail
     exact ⟨⟨j+1,o5,by omega,by go_num,qx.out⟩,by simp [intOf];omega⟩
    ·obtain rfl:j=n:=by omega
     have KR:¬ (j:Int)<(j:Int):=by omega
     obtain ⟨y,hy⟩:∃ y,y=aU j z:=⟨_,rfl⟩
     have hyl:y.muts.length=j:=by rw [hy];exact qX.out j
     have qF:Hid (Calls ay 12 #[aj q.C] wr fun e W'=>e = .returned (.tuple #[jJ (fE j z),iQ (fE j z)])/\∃ o',gu w W o G gs q (.slice ma j mc) (N+1+(t+1)*(j+1)) W' o' (bV j z) fv pv fr ph):=by
      have h1:=hs.coll (by have:=nH.out;omega)
      rw [qX.out j] at h1
      refine h1.mono ?_
      rintro e W' ⟨e1,o',h2⟩
      exact ⟨e1,o',h2.more (by rw [Nat.add_mul t 1];omega)⟩
     have BH:Hid (fG j (most - t) z fr ph=if yH (fE j z) then (sH (fE j z) fr,fZ ph (bV j z).coll.phase,true,bV j z) else fG j (most - (t+1)) (bV j z) (sH (fE j z) fr) (fZ ph (bV j z).coll.phase)):=by
      show _=_
      rw [show most - t=(most - (t+1))+1 by omega]
      rfl
     have hrl:(bV j z).muts.length=j:=by
      have h2:=qX.out j
      show (aY (aU j z) j).muts.length=j
      unfold aY
      rw [List.getElem?_eq_none (by omega)]
      simp only
      split
      ·rw [(WS.nK _ _).2.1];exact h2
      ·rw [(WS.nK _ _).2.1];exact h2
     obtain ⟨u,hu,hpn⟩:=aaM (k:=(bV j z).coll.phase) HT.out.1
     have uT:=au hpn
     clear hs hy hyl hpn qX y
     generalize hev:fE j z=ev at *
     generalize hzz:bV j z=z2 at *
     clear hev hzz
     go_wp2_with fail
     refine qF.out.mono ?_
     rintro e w6 ⟨rfl,o6,hs6⟩
     cases ev with
     | none =>
       have hag:jJ none = .agg #[ah 0,ah 0,ah 0,ah 0,ah 0,ah 0]:=rfl
       have htl:iQ none = .bool false:=rfl
       rw [hag,htl]
       obtain ⟨W7,iC⟩:∃ W7,W7=w6.alloc (.cells #[ah 0,ah 0,ah 0,ah 0,ah 0,ah 0] 37):=⟨_,rfl⟩
       have k7:Keep none_ w6 W7:=by rw [iC];exact (Keep.refl _ _).alloc _
       have hb7:aA W7 w6.heap.size [ah 0,ah 0,ah 0,ah 0,ah 0,ah 0] 37:=by rw [iC];exact aA.new w6 _ _
       have ho7:o6 w6.heap.size=0:=hs6.cw.coll.sh.dU _ (Nat.le_refl _)
       have hs7:=hs6.still k7
       have wQ:Hid (Calls ay 17 #[aj q.C] W7 fun e w'=>e = .returned (ah (z2.coll.phase:Int))/\W7=w'):=qp hs7.cw.coll
       have jm:=au hs7
       have lT:=au hb7
       have BJ:=au iC
       have pV:=au ho7
       clear hs6 hs7 hb7 k7 iC ho7 qF
       go_wp2_with fail
       rw [<- BJ.out]
       refine wQ.out.mono ?_
       rintro e w8 ⟨rfl,rfl⟩
       obtain ⟨ap,cp,e3,hpf⟩:=jm.out.p.form
       have hpp:0<ph.length:=List.length_pos_iff.2 HT.out.1
       obtain ⟨d,hd⟩:∃ d,ph.length=d+1:=⟨ph.length - 1,by omega⟩
       obtain ⟨bp,e4,hcp⟩:=hpf (ph.length - 1) u hu
       rw [show ph.length - 1=d by omega] at hcp
       cases e4
       rw [hd] at e3
       cases e3
       have ht9:t<=1000000000:=by have:=nH.out;have hm3:t<=t*(j+1):=Nat.le_mul_of_pos_right _ (by omega);omega
       have hdI:(d:Int)<=1000000000:=by have:=HT.out.2.2.1;have:=nH.out;have hm3:t<=t*(j+1):=Nat.le_mul_of_pos_right _ (by omega);omega
       have hd0:(0:Int)<=(d:Int):=by omega
       have HD:=au hd
       clear hpf wQ BJ hpp hd
       generalize hpq:z2.coll.phase=pk at *
       by_cases hk:pk=u
       ·subst hk
        have hpn2:fZ ph pk=ph:=by rw [uT.out,if_neg (by simp)]
        have HST:Hid (gu w W o G gs q (.slice ma j mc) (N+1+(t+1)*(j+1)) W7 o6 z2 fv (.slice (some ⟨bp,0,none⟩) (d+1) cp) fr (fZ ph pk)):=by show gu _ _ _ _ _ _ _ _ _ _ _ _ _ _ _;rw [hpn2];exact jm.out
        have y2:=lT.out.cell 2 rfl
        have y5:=lT.out.cell 5 rfl
        have HQ:Hid (fZ ph pk≠[]/\(fZ ph pk).length<=ph.length+1):=qW HT.out.1
        have uj:=lT
        have F8:=pV
        clear hpn2 uT lT pV jm
        go_wp2_with fail
        exact ⟨⟨t+1,z2,fr,fZ ph pk,_,_,_,rfl,rfl,by omega,by go_num,HST.out,HQ.out.1,by have:=HT.out.2.1;omega,by have:=HT.out.2.2.1;have:=HQ.out.2;omega,hrl,by rw [<- HT.out.2.2.2,BH.out];rfl⟩,by simp [intOf];omega⟩
       ·have hkN:decide (pk=u)=false:=decide_eq_false hk
        have hpn2:fZ ph pk=ph++[pk]:=by rw [uT.out,if_pos hk]
        obtain ⟨W9,rX⟩:∃ W9,W9=W7.alloc (.cells #[ah (pk:Int)] 3):=⟨_,rfl⟩
        have k9:Keep none_ W7 W9:=by rw [rX];exact (Keep.refl _ _).alloc _
        have hb9:aA W9 W7.heap.size [ah (pk:Int)] 3:=by rw [rX];exact aA.new W7 _ _
        obtain ⟨b10,cap10,wR,hrun10,o10,hs10,k10,eo10⟩:=(jm.out.still k9).JX (hb9.cell 0 rfl) (by have:=HT.out.2.2.1;have:=nH.out;have hm3:t<=t*(j+1):=Nat.le_mul_of_pos_right _ (by omega);omega)
        rw [rX,HD.out] at hrun10
        rw [HD.out] at hs10
        have uj:Hid (aA wR w6.heap.size [ah 0,ah 0,ah 0,ah 0,ah 0,ah 0] 37):=k10.blk (k9.blk lT.out (fun f=>f)) (bK pV.out rfl)
        have F8:Hid (o10 w6.heap.size=0):=(eo10 _ (k9.blk lT.out (fun f=>f)).lt).trans pV.out
        have HST:Hid (gu w W o G gs q (.slice ma j mc) (N+1+(t+1)*(j+1)) wR o10 z2 fv (.slice (some ⟨b10,0,none⟩) (d+1+1) cap10) fr (fZ ph pk)):=by show gu _ _ _ _ _ _ _ _ _ _ _ _ _ _ _;rw [hpn2];exact hs10
        have y2:=uj.out.cell 2 rfl
        have y5:=uj.out.cell 5 rfl
        have HQ:Hid (fZ ph pk≠[]/\(fZ ph pk).length<=ph.length+1):=qW HT.out.1
        clear hpn2 uT k9 hb9 hs10 k10 eo10 rX lT pV jm
        go_wp2_with fail
        exact ⟨⟨t+1,z2,fr,fZ ph pk,_,_,_,rfl,rfl,by omega,by go_num,HST.out,HQ.out.1,by have:=HT.out.2.1;omega,by have:=HT.out.2.2.1;have:=HQ.out.2;omega,hrl,by rw [<- HT.out.2.2.2,BH.out];rfl⟩,by simp [intOf];omega⟩
     | some e =>
       by_cases hk5:e.kind=5
       ·have uQ:Hid (yH (some e)=false/\sH (some e) fr=fr++[e.value]):=⟨by show (e.kind==4)=false;rw [hk5];rfl,by show (if e.kind=5 then _ else _)=_;rw [if_pos hk5]⟩
        have hag:jJ (some e) = .agg #[ah 0,ah (e.who:Int),ah 5,ah (e.op:Int),ah e.code,ah (e.value:Int)]:=by
         show Value.agg #[ah 0,ah (e.who:Int),ah (e.kind:Int),ah (e.op:Int),ah e.code,ah (e.value:Int)]=_
         rw [hk5];rfl
        have htl:iQ (some e) = .bool true:=rfl
        rw [hag,htl]
        obtain ⟨W7,iC⟩:∃ W7,W7=w6.alloc (.cells #[ah 0,ah (e.who:Int),ah 5,ah (e.op:Int),ah e.code,ah (e.value:Int)] 37):=⟨_,rfl⟩
        have k7:Keep none_ w6 W7:=by rw [iC];exact (Keep.refl _ _).alloc _
        have hb7:aA W7 w6.heap.size [ah 0,ah (e.who:Int),ah 5,ah (e.op:Int),ah e.code,ah (e.value:Int)] 37:=by rw [iC];exact aA.new w6 _ _
        have ho7:o6 w6.heap.size=0:=hs6.cw.coll.sh.dU _ (Nat.le_refl _)
        have hs7:=hs6.still k7
        have wQ:Hid (Calls ay 17 #[aj q.C] W7 fun e w'=>e = .returned (ah (z2.coll.phase:Int))/\W7=w'):=qp hs7.cw.coll
        have jm:=au hs7
        have lT:=au hb7
        have BJ:=au iC
        have pV:=au ho7
        clear hs6 hs7 hb7 k7 iC ho7 qF
        go_wp2_with fail
        rw [<- BJ.out]
        refine wQ.out.mono ?_
        rintro e w8 ⟨rfl,rfl⟩
        obtain ⟨ap,cp,e3,hpf⟩:=jm.out.p.form
        have hpp:0<ph.length:=List.length_pos_iff.2 HT.out.1
        obtain ⟨d,hd⟩:∃ d,ph.length=d+1:=⟨ph.length - 1,by omega⟩
        obtain ⟨bp,e4,hcp⟩:=hpf (ph.length - 1) u hu
        rw [show ph.length - 1=d by omega] at hcp
        cases e4
        rw [hd] at e3
        cases e3
        have ht9:t<=1000000000:=by have:=nH.out;have hm3:t<=t*(j+1):=Nat.le_mul_of_pos_right _ (by omega);omega
        have hdI:(d:Int)<=1000000000:=by have:=HT.out.2.2.1;have:=nH.out;have hm3:t<=t*(j+1):=Nat.le_mul_of_pos_right _ (by omega);omega
        have hd0:(0:Int)<=(d:Int):=by omega
        have HD:=au hd
        clear hpf wQ BJ hpp hd
        generalize hpq:z2.coll.phase=pk at *
        by_cases hk:pk=u
        ·subst hk
         have hpn2:fZ ph pk=ph:=by rw [uT.out,if_neg (by simp)]
         have HST:Hid (gu w W o G gs q (.slice ma j mc) (N+1+(t+1)*(j+1)) W7 o6 z2 fv (.slice (some ⟨bp,0,none⟩) (d+1) cp) fr (fZ ph pk)):=by show gu _ _ _ _ _ _ _ _ _ _ _ _ _ _ _;rw [hpn2];exact jm.out
         have y2:=lT.out.cell 2 rfl
         have y5:=lT.out.cell 5 rfl
         have HQ:Hid (fZ ph pk≠[]/\(fZ ph pk).length<=ph.length+1):=qW HT.out.1
         have uj:=lT
         have F8:=pV
         clear hpn2 uT lT pV jm
         obtain ⟨F9,zL⟩:∃ F9,F9=W7.alloc (.cells #[ah (e.value:Int)] 3):=⟨_,rfl⟩
         have k11:Keep none_ W7 F9:=by rw [zL];exact (Keep.refl _ _).alloc _
         have hb11:aA F9 W7.heap.size [ah (e.value:Int)] 3:=by rw [zL];exact aA.new W7 _ _
         obtain ⟨b12,cap12,W12,hrun12,o12,hs12,k12⟩:=(HST.out.still k11).Ym (hb11.cell 0 rfl) (by have:=HT.out.2.1;omega)
         have y2b:=(k12.blk (k11.blk uj.out (fun f=>f)) (bK F8.out rfl)).cell 2 rfl
         rw [zL] at hrun12
         have Eu:=au hs12
         clear zL k11 hb11 hs12 k12 HST
         go_wp2_with fail
         exact ⟨⟨t+1,z2,fr++[e.value],fZ ph pk,_,_,_,rfl,rfl,by omega,by go_num,Eu.out,HQ.out.1,by have:=HT.out.2.1;simp;omega,by have:=HT.out.2.2.1;have:=HQ.out.2;omega,hrl,by rw [<- HT.out.2.2.2,BH.out,uQ.out.1,uQ.out.2];rfl⟩,by simp [intOf];omega⟩
        ·have hkN:decide (pk=u)=false:=decide_eq_false hk
         have hpn2:fZ ph pk=ph++[pk]:=by rw [uT.out,if_pos hk]
         obtain ⟨W9,rX⟩:∃ W9,W9=W7.alloc (.cells #[ah (pk:Int)] 3):=⟨_,rfl⟩
         have k9:Keep none_ W7 W9:=by rw [rX];exact (Keep.refl _ _).alloc _
         have hb9:aA W9 W7.heap.size [ah (pk:Int)] 3:=by rw [rX];exact aA.new W7 _ _
         obtain ⟨b10,cap10,wR,hrun10,o10,hs10,k10,eo10⟩:=(jm.out.still k9).JX (hb9.cell 0 rfl) (by have:=HT.out.2.2.1;have:=nH.out;have hm3:t<=t*(j+1):=Nat.le_mul_of_pos_right _ (by omega);omega)
         rw [rX,HD.out] at hrun10
         rw [HD.out] at hs10
         have uj:Hid (aA wR w6.heap.size [ah 0,ah (e.who:Int),ah 5,ah (e.op:Int),ah e.code,ah (e.value:Int)] 37):=k10.blk (k9.blk lT.out (fun f=>f)) (bK pV.out rfl)
         have F8:Hid (o10 w6.heap.size=0):=(eo10 _ (k9.blk lT.out (fun f=>f)).lt).trans pV.out
         have HST:Hid (gu w W o G gs q (.slice ma j mc) (N+1+(t+1)*(j+1)) wR o10 z2 fv (.slice (some ⟨b10,0,none⟩) (d+1+1) cap10) fr (fZ ph pk)):=by show gu _ _ _ _ _ _ _ _ _ _ _ _ _ _ _;rw [hpn2];exact hs10
         have y2:=uj.out.cell 2 rfl
         have y5:=uj.out.cell 5 rfl
         have HQ:Hid (fZ ph pk≠[]/\(fZ ph pk).length<=ph.length+1):=qW HT.out.1
         clear hpn2 uT k9 hb9 hs10 k10 eo10 rX lT pV jm
         obtain ⟨F9,zL⟩:∃ F9,F9=wR.alloc (.cells #[ah (e.value:Int)] 3):=⟨_,rfl⟩
         have k11:Keep none_ wR F9:=by rw [zL];exact (Keep.refl _ _).alloc _
         have hb11:aA F9 wR.heap.size [ah (e.value:Int)] 3:=by rw [zL];exact aA.new wR _ _
         obtain ⟨b12,cap12,W12,hrun12,o12,hs12,k12⟩:=(HST.out.still k11).Ym (hb11.cell 0 rfl) (by have:=HT.out.2.1;omega)
         have y2b:=(k12.blk (k11.blk uj.out (fun f=>f)) (bK F8.out rfl)).cell 2 rfl
         rw [zL] at hrun12
         have Eu:=au hs12
         clear zL k11 hb11 hs12 k12 HST
         go_wp2_with fail
         exact ⟨⟨t+1,z2,fr++[e.value],fZ ph pk,_,_,_,rfl,rfl,by omega,by go_num,Eu.out,HQ.out.1,by have:=HT.out.2.1;simp;omega,by have:=HT.out.2.2.1;have:=HQ.out.2;omega,hrl,by rw [<- HT.out.2.2.2,BH.out,uQ.out.1,uQ.out.2];rfl⟩,by simp [intOf];omega⟩
       ·by_cases hk4:e.kind=4
        ·have uQ:Hid (yH (some e)=true/\sH (some e) fr=fr):=⟨by show (e.kind==4)=true;rw [hk4];rfl,by show (if e.kind=5 then _ else _)=_;rw [if_neg hk5]⟩
         have hag:jJ (some e) = .agg #[ah 0,ah (e.who:Int),ah 4,ah (e.op:Int),ah e.code,ah (e.value:Int)]:=by
          show Value.agg #[ah 0,ah (e.who:Int),ah (e.kind:Int),ah (e.op:Int),ah e.code,ah (e.value:Int)]=_
          rw [hk4];rfl
         have htl:iQ (some e) = .bool true:=rfl
         rw [hag,htl]
         obtain ⟨W7,iC⟩:∃ W7,W7=w6.alloc (.cells #[ah 0,ah (e.who:Int),ah 4,ah (e.op:Int),ah e.code,ah (e.value:Int)] 37):=⟨_,rfl⟩
         have k7:Keep none_ w6 W7:=by rw [iC];exact (Keep.refl _ _).alloc _
         have hb7:aA W7 w6.heap.size [ah 0,ah (e.who:Int),ah 4,ah (e.op:Int),ah e.code,ah (e.value:Int)] 37:=by rw [iC];exact aA.new w6 _ _
         have ho7:o6 w6.heap.size=0:=hs6.cw.coll.sh.dU _ (Nat.le_refl _)
         have hs7:=hs6.still k7
         have wQ:Hid (Calls ay 17 #[aj q.C] W7 fun e w'=>e = .returned (ah (z2.coll.phase:Int))/\W7=w'):=qp hs7.cw.coll
         have jm:=au hs7
         have lT:=au hb7
         have BJ:=au iC
         have pV:=au ho7
         clear hs6 hs7 hb7 k7 iC ho7 qF
         go_wp2_with fail
         rw [<- BJ.out]
         refine wQ.out.mono ?_
         rintro e w8 ⟨rfl,rfl⟩
         obtain ⟨ap,cp,e3,hpf⟩:=jm.out.p.form
         have hpp:0<ph.length:=List.length_pos_iff.2 HT.out.1
         obtain ⟨d,hd⟩:∃ d,ph.length=d+1:=⟨ph.length - 1,by omega⟩
         obtain ⟨bp,e4,hcp⟩:=hpf (ph.length - 1) u hu
         rw [show ph.length - 1=d by omega] at hcp
         cases e4
         rw [hd] at e3
         cases e3
         have ht9:t<=1000000000:=by have:=nH.out;have hm3:t<=t*(j+1):=Nat.le_mul_of_pos_right _ (by omega);omega
         have hdI:(d:Int)<=1000000000:=by have:=HT.out.2.2.1;have:=nH.out;have hm3:t<=t*(j+1):=Nat.le_mul_of_pos_right _ (by omega);omega
         have hd0:(0:Int)<=(d:Int):=by omega
         have HD:=au hd
         clear hpf wQ BJ hpp hd
         generalize hpq:z2.coll.phase=pk at *
         by_cases hk:pk=u
         ·subst hk
          have hpn2:fZ ph pk=ph:=by rw [uT.out,if_neg (by simp)]
          have HST:Hid (gu w W o G gs q (.slice ma j mc) (N+1+(t+1)*(j+1)) W7 o6 z2 fv (.slice (some ⟨bp,0,none⟩) (d+1) cp) fr (fZ ph pk)):=by show gu _ _ _ _ _ _ _ _ _ _ _ _ _ _ _;rw [hpn2];exact jm.out
          have y2:=lT.out.cell 2 rfl
          have y5:=lT.out.cell 5 rfl
          have HQ:Hid (fZ ph pk≠[]/\(fZ ph pk).length<=ph.length+1):=qW HT.out.1
          have uj:=lT
          have F8:=pV
          clear hpn2 uT lT pV jm
          go_wp2_with fail
          go_ret3
          exact pG.out _ _ _ _ _ _ _ _ (by rw [<- HT.out.2.2.2,BH.out,uQ.out.1,uQ.out.2];rfl) (HST.out.more MN.out)
         ·have hkN:decide (pk=u)=false:=decide_eq_false hk
          have hpn2:fZ ph pk=ph++[pk]:=by rw [uT.out,if_pos hk]
          obtain ⟨W9,rX⟩:∃ W9,W9=W7.alloc (.cells #[ah (pk:Int)] 3):=⟨_,rfl⟩
          have k9:Keep none_ W7 W9:=by rw [rX];exact (Keep.refl _ _).alloc _
          have hb9:aA W9 W7.heap.size [ah (pk:Int)] 3:=by rw [rX];exact aA.new W7 _ _
          obtain ⟨b10,cap10,wR,hrun10,o10,hs10,k10,eo10⟩:=(jm.out.still k9).JX (hb9.cell 0 rfl) (by have:=HT.out.2.2.1;have:=nH.out;have hm3:t<=t*(j+1):=Nat.le_mul_of_pos_right _ (by omega);omega)
          rw [rX,HD.out] at hrun10
          rw [HD.out] at hs10
          have uj:Hid (aA wR w6.heap.size [ah 0,ah (e.who:Int),ah 4,ah (e.op:Int),ah e.code,ah (e.value:Int)] 37):=k10.blk (k9.blk lT.out (fun f=>f)) (bK pV.out rfl)
          have F8:Hid (o10 w6.heap.size=0):=(eo10 _ (k9.blk lT.out (fun f=>f)).lt).trans pV.out
          have HST:Hid (gu w W o G gs q (.slice ma j mc) (N+1+(t+1)*(j+1)) wR o10 z2 fv (.slice (some ⟨b10,0,none⟩) (d+1+1) cap10) fr (fZ ph pk)):=by show gu _ _ _ _ _ _ _ _ _ _ _ _ _ _ _;rw [hpn2];exact hs10
          have y2:=uj.out.cell 2 rfl
          have y5:=uj.out.cell 5 rfl
          have HQ:Hid (fZ ph pk≠[]/\(fZ ph pk).length<=ph.length+1):=qW HT.out.1
          clear hpn2 uT k9 hb9 hs10 k10 eo10 rX lT pV jm
          go_wp2_with fail
          go_ret3
          exact pG.out _ _ _ _ _ _ _ _ (by rw [<- HT.out.2.2.2,BH.out,uQ.out.1,uQ.out.2];rfl) (HST.out.more MN.out)
        ·have uQ:Hid (yH (some e)=false/\sH (some e) fr=fr):=⟨by show (e.kind==4)=false;simpa using hk4,by show (if e.kind=5 then _ else _)=_;rw [if_neg hk5]⟩
         obtain ⟨kk,hkk⟩:∃ kk,kk=e.kind:=⟨_,rfl⟩
         have acY:((kk:Int)==5)=false:=by simp;omega
         have aaO:((kk:Int)==4)=false:=by simp;omega
         have acZ:decide (kk=5)=false:=decide_eq_false (by omega)
         have ada:decide (kk=4)=false:=decide_eq_false (by omega)
         have hag:jJ (some e) = .agg #[ah 0,ah (e.who:Int),ah (kk:Int),ah (e.op:Int),ah e.code,ah (e.value:Int)]:=by rw [hkk];rfl
         have htl:iQ (some e) = .bool true:=rfl
         rw [hag,htl]
         clear hkk hk5 hk4
         obtain ⟨W7,iC⟩:∃ W7,W7=w6.alloc (.cells #[ah 0,ah (e.who:Int),ah (kk:Int),ah (e.op:Int),ah e.code,ah (e.value:Int)] 37):=⟨_,rfl⟩
         have k7:Keep none_ w6 W7:=by rw [iC];exact (Keep.refl _ _).alloc _
         have hb7:aA W7 w6.heap.size [ah 0,ah (e.who:Int),ah (kk:Int),ah (e.op:Int),ah e.code,ah (e.value:Int)] 37:=by rw [iC];exact aA.new w6 _ _
         have ho7:o6 w6.heap.size=0:=hs6.cw.coll.sh.dU _ (Nat.le_refl _)
         have hs7:=hs6.still k7
         have wQ:Hid (Calls ay 17 #[aj q.C] W7 fun e w'=>e = .returned (ah (z2.coll.phase:Int))/\W7=w'):=qp hs7.cw.coll
         have jm:=au hs7
         have lT:=au hb7
         have BJ:=au iC
         have pV:=au ho7
         clear hs6 hs7 hb7 k7 iC ho7 qF
         go_wp2_with fail
         rw [<- BJ.out]
         refine wQ.out.mono ?_
         rintro e w8 ⟨rfl,rfl⟩
         obtain ⟨ap,cp,e3,hpf⟩:=jm.out.p.form
         have hpp:0<ph.length:=List.length_pos_iff.2 HT.out.1
         obtain ⟨d,hd⟩:∃ d,ph.length=d+1:=⟨ph.length - 1,by omega⟩
         obtain ⟨bp,e4,hcp⟩:=hpf (ph.length - 1) u hu
         rw [show ph.length - 1=d by omega] at hcp
         cases e4
         rw [hd] at e3
         cases e3
         have ht9:t<=1000000000:=by have:=nH.out;have hm3:t<=t*(j+1):=Nat.le_mul_of_pos_right _ (by omega);omega
         have hdI:(d:Int)<=1000000000:=by have:=HT.out.2.2.1;have:=nH.out;have hm3:t<=t*(j+1):=Nat.le_mul_of_pos_right _ (by omega);omega
         have hd0:(0:Int)<=(d:Int):=by omega
         have HD:=au hd
         clear hpf wQ BJ hpp hd
         generalize hpq:z2.coll.phase=pk at *
         by_cases hk:pk=u
         ·subst hk
          have hpn2:fZ ph pk=ph:=by rw [uT.out,if_neg (by simp)]
          have HST:Hid (gu w W o G gs q (.slice ma j mc) (N+1+(t+1)*(j+1)) W7 o6 z2 fv (.slice (some ⟨bp,0,none⟩) (d+1) cp) fr (fZ ph pk)):=by show gu _ _ _ _ _ _ _ _ _ _ _ _ _ _ _;rw [hpn2];exact jm.out
          have y2:=lT.out.cell 2 rfl
          have y5:=lT.out.cell 5 rfl
          have HQ:Hid (fZ ph pk≠[]/\(fZ ph pk).length<=ph.length+1):=qW HT.out.1
          have uj:=lT
          have F8:=pV
          clear hpn2 uT lT pV jm
          go_wp2_with fail
          exact ⟨⟨t+1,z2,fr,fZ ph pk,_,_,_,rfl,rfl,by omega,by go_num,HST.out,HQ.out.1,by have:=HT.out.2.1;omega,by have:=HT.out.2.2.1;have:=HQ.out.2;omega,hrl,by rw [<- HT.out.2.2.2,BH.out,uQ.out.1,uQ.out.2];rfl⟩,by simp [intOf];omega⟩
         ·have hkN:decide (pk=u)=false:=decide_eq_false hk
          have hpn2:fZ ph pk=ph++[pk]:=by rw [uT.out,if_pos hk]
          obtain ⟨W9,rX⟩:∃ W9,W9=W7.alloc (.cells #[ah (pk:Int)] 3):=⟨_,rfl⟩
          have k9:Keep none_ W7 W9:=by rw [rX];exact (Keep.refl _ _).alloc _
          have hb9:aA W9 W7.heap.size [ah (pk:Int)] 3:=by rw [rX];exact aA.new W7 _ _
          obtain ⟨b10,cap10,wR,hrun10,o10,hs10,k10,eo10⟩:=(jm.out.still k9).JX (hb9.cell 0 rfl) (by have:=HT.out.2.2.1;have:=nH.out;have hm3:t<=t*(j+1):=Nat.le_mul_of_pos_right _ (by omega);omega)
          rw [rX,HD.out] at hrun10
          rw [HD.out] at hs10
          have uj:Hid (aA wR w6.heap.size [ah 0,ah (e.who:Int),ah (kk:Int),ah (e.op:Int),ah e.code,ah (e.value:Int)] 37):=k10.blk (k9.blk lT.out (fun f=>f)) (bK pV.out rfl)
          have F8:Hid (o10 w6.heap.size=0):=(eo10 _ (k9.blk lT.out (fun f=>f)).lt).trans pV.out
          have HST:Hid (gu w W o G gs q (.slice ma j mc) (N+1+(t+1)*(j+1)) wR o10 z2 fv (.slice (some ⟨b10,0,none⟩) (d+1+1) cap10) fr (fZ ph pk)):=by show gu _ _ _ _ _ _ _ _ _ _ _ _ _ _ _;rw [hpn2];exact hs10
          have y2:=uj.out.cell 2 rfl
          have y5:=uj.out.cell 5 rfl
          have HQ:Hid (fZ ph pk≠[]/\(fZ ph pk).length<=ph.length+1):=qW HT.out.1
          clear hpn2 uT k9 hb9 hs10 k10 eo10 rX lT pV jm
          go_wp2_with fail
          exact ⟨⟨t+1,z2,fr,fZ ph pk,_,_,_,rfl,rfl,by omega,by go_num,HST.out,HQ.out.1,by have:=HT.out.2.1;omega,by have:=HT.out.2.2.1;have:=HQ.out.2;omega,hrl,by rw [<- HT.out.2.2.2,BH.out,uQ.out.1,uQ.out.2];rfl⟩,by simp [intOf];omega⟩
  ·obtain rfl:t=most:=by omega
   have MQ:¬ (t:Int)<(t:Int):=by omega
   have HE:=au (pG.out wr fv pv fr ph false z o3 (by rw [<- hrun,Nat.sub_self];rfl) hs)
   clear hs hrun lS hfl hpl
   go_wp2_with fail
   go_ret3
   exact HE.out
end
end
section
structure vM (ph:List Nat):Prop where
 ne:ph≠[]
 lt:∀ a∈ph,a<8
 may:∀ (i a b:Nat),ph[i]?=some a->ph[i+1]?=some b->a≠b/\uF a b=true
theorem vM.one {a:Nat} (h:a<8):vM [a]:=⟨by simp,fun b hb=>by rw [List.mem_singleton.1 hb];exact h,fun i b c h1 h2=>by
 have:=(List.getElem?_eq_some_iff.1 h2).1
 simp at this⟩
theorem vM.next {ph:List Nat} {b:Nat} (h:vM ph) (hm:uF (ph.getLastD 0) b=true) (hb:b<8):vM (fZ ph b)/\(fZ ph b).getLastD 0=b:=by
 unfold fZ
 by_cases e:b≠ph.getLastD 0
 ·rw [if_pos e]
  refine ⟨⟨by simp,fun a ha=>?_,fun i a c h1 h2=>?_⟩,by simp⟩
  ·rcases List.mem_append.1 ha with g|g
   ·exact h.lt a g
   ·rw [List.mem_singleton.1 g];exact hb
  ·have hlt:=(List.getElem?_eq_some_iff.1 h2).1
   rw [List.length_append] at hlt
   have hlt':i+1<ph.length+1:=hlt
   by_cases hi:i+1<ph.length
   ·rw [List.getElem?_append_left (by omega)] at h1
    rw [List.getElem?_append_left hi] at h2
    exact h.may i a c h1 h2
   ·have hi':i+1=ph.length:=by omega
    rw [List.getElem?_append_left (by omega)] at h1
    rw [hi',List.getElem?_append_right (Nat.le_refl _),Nat.sub_self] at h2
    cases h2
    have hl:ph.getLastD 0=a:=by
     rw [List.getLastD_eq_getLast?,List.getLast?_eq_getElem?,show ph.length - 1=i by omega,h1];rfl
    rw [hl] at hm e
    exact ⟨fun e'=>e e'.symm,hm⟩
 ·rw [if_neg e]
  exact ⟨h,(Classical.byContradiction fun h=>e h:b=_).symm⟩
section
variable {p:CP} {x y z:WS} {m:MS} {i n R mu bl ce κ:Nat} {dead fr ph:List Nat}
theorem vN (y:WS) {n:Nat} (hn:y.muts.length=n):(aY y n).s=(bD y.s y.coll).s/\(aY y n).muts=y.muts/\(aY y n).coll=(bD y.s y.coll).c:=by
 unfold aY
 rw [List.getElem?_eq_none (by omega)]
 simp only
 rw [if_pos hn.symm]
 obtain ⟨e1,e2,e3,_⟩:=WS.nK { y with s:=(bD y.s y.coll).s,coll:=(bD y.s y.coll).c } (bD y.s y.coll).ev
 exact ⟨e1,e2,e3⟩
theorem MR.all (g:wP p R) (h:jD p x dead):∀ j,j<=p.mu->MR p R dead x (aU j x) j
 | 0,_=>MR.first h
 | j+1,hj=>((MR.all g h j (by omega)).next g (by omega)).1
structure xU (p:CP) (x0:WS) (out ph:List Nat) (z:WS):Prop where
 ji:mP p.mu p.bl p.ce p.κ z
 bn:∀ a,z.s.H.bn a=true↔p.jL a
 nd:out.Nodup
 dd:∀ a,a∈out↔p.H.bn a=true/\¬ p.jL a
 path:vM ph
 regs:∀ (i:Nat) (m:MS),z.muts[i]?=some m->m.regs=p.regs i
 jM:∀ a,p.jL a->z.s.H.bg a=p.H.bg a/\∀ j:Nat,z.s.H.dF a (j:Int)=p.H.dF a (j:Int)
 geo:z.s.H.K=p.H.K/\z.s.H.b=p.H.b/\z.s.H.ww=p.H.ww/\z.s.H.c=p.H.c/\z.s.H.cells=p.H.cells
 cnt:z.coll.wish=x0.coll.wish/\z.coll.cycles=x0.coll.cycles
 dr:kY x0.coll->kY z.coll
theorem SN (h:jD p y dead):uF y.coll.phase (bD y.s y.coll).c.phase=true/\(kY y.coll->kY (bD y.s y.coll).c)/\(bD y.s y.coll).c.wish=y.coll.wish/\(bD y.s y.coll).c.cycles=y.coll.cycles:=by
 have e:bD y.s y.coll=⟨(aC y.s y.coll y.coll.next).s,{ (aC y.s y.coll y.coll.next).c with next:=(aC y.s y.coll y.coll.next).next },(aC y.s y.coll y.coll.next).next,(aC y.s y.coll y.coll.next).ev⟩:=by
  unfold bD
  rw [h.busy];rfl
 obtain ⟨h1,h2⟩:=OQ h _ rfl
 obtain ⟨h3,h4,_⟩:=Vw y.s y.coll y.coll.next
 rw [e]
 exact ⟨h1,h2,h3,h4⟩
theorem Zd {a b:Nat} (h:uF a b=true) (ha:a<8):b<8:=by
 unfold uF at h
 rw [Bool.or_eq_true] at h
 rcases h with h|h
 ·have:a=b:=by simpa using h
  omega
 ·simp at h
  omega
theorem zM (g:wP p R) {x0:WS}:∀ (f:Nat) (x:WS) (dead ph:List Nat),jD p x dead->p.rest R x+1<=f->vM ph->ph.getLastD 0=x.coll.phase->(x.coll.wish=x0.coll.wish/\x.coll.cycles=x0.coll.cycles)->(kY x0.coll->kY x.coll)->∃ out kT z,fG p.mu f x dead ph=(out,kT,true,z)/\xU p x0 out kT z
 | 0,x,dead,ph,h,hf,_,_,_,_=>by omega
 | f+1,x,dead,ph,h,hf,hpa,hla,hc,hdr=>by
   have hM:=MR.all g h p.mu (Nat.le_refl _)
   obtain ⟨gW,ht,hlt⟩:=hM.round g
   obtain ⟨_,hyl,_⟩:=hM.iy.bd
   obtain ⟨e1,e2,e3⟩:=vN (aU p.mu x) hyl
   obtain ⟨t1,t2,t3,t4⟩:=SN hM.iy
   have hco:=hM.coll
   have hrc:(bV p.mu x).coll=(bD (aU p.mu x).s (aU p.mu x).coll).c:=e3
   have hlast:ph.getLastD 0=(aU p.mu x).coll.phase:=by rw [hco];exact hla
   have hl8:(aU p.mu x).coll.phase<8:=by
    rw [<- hlast,List.getLastD_eq_getLast?]
    cases hg:ph.getLast? with
    | none=>simp
    | some a=>exact hpa.lt a (List.mem_of_getLast? hg)
   have hm2:uF (ph.getLastD 0) (bV p.mu x).coll.phase=true:=by rw [hlast,hrc];exact t1
   obtain ⟨hp1,hp2⟩:=hpa.next hm2 (Zd hm2 (by rw [hlast];exact hl8))
   have hc2:(bV p.mu x).coll.wish=x0.coll.wish/\(bV p.mu x).coll.cycles=x0.coll.cycles:=by
    rw [hrc,t3,t4,hco];exact hc
   have hd2:kY x0.coll->kY (bV p.mu x).coll:=fun hh=>by
    rw [hrc]
    exact t2 (by rw [hco];exact hdr hh)
   have hrest:p.rest R (bV p.mu x)+1<=f:=by
    have:p.rest R (bV p.mu x)=p.rest R { aU p.mu x with s:=(bD (aU p.mu x).s (aU p.mu x).coll).s,coll:=(bD (aU p.mu x).s (aU p.mu x).coll).c }:=uf e1 e2 e3
    rw [this]
    exact Nat.le_trans hlt (Nat.le_of_succ_le_succ hf)
   have hun:fG p.mu (f+1) x dead ph=if yH (fE p.mu x) then (sH (fE p.mu x) dead,fZ ph (bV p.mu x).coll.phase,true,bV p.mu x) else fG p.mu f (bV p.mu x) (sH (fE p.mu x) dead) (fZ ph (bV p.mu x).coll.phase):=rfl
   have hev:fE p.mu x=(bD (aU p.mu x).s (aU p.mu x).coll).ev:=rfl
   have go:yH (fE p.mu x)=false->sH (fE p.mu x) dead=gW->jD p { aU p.mu x with s:=(bD (aU p.mu x).s (aU p.mu x).coll).s,coll:=(bD (aU p.mu x).s (aU p.mu x).coll).c } gW->∃ out kT z,fG p.mu (f+1) x dead ph=(out,kT,true,z)/\xU p x0 out kT z:=fun h1 h2 h3=>by
    rw [hun,h1,if_neg (by decide),h2]
    have h4:jD p (bV p.mu x) gW:=h3.congr e1 e2 e3
    exact zM g f _ gW _ h4 hrest hp1 hp2 hc2 hd2
   cases ht with
   | none h1 h2 h3=>exact go (by rw [hev,h1];rfl) (by rw [hev,h1,h2];rfl) h3
   | marked h1 h2 h3 h4 _ _ _ _ _=>exact go (by rw [hev,h1];rfl) (by rw [hev,h1,h2,h3];rfl) h4
   | freed h1 h2 h3 h4 h5=>exact go (by rw [hev,h1];rfl) (by rw [hev,h1,h2];rfl) h3
   | Nv h1 h2 h3 h4 h5 h6 h7 =>
     rw [hun,hev,h1]
     refine ⟨_,_,_,rfl,?_⟩
     have ef:sH (some ((aU p.mu x).coll.ev 4 (aU p.mu x).coll.cycles)) dead=dead:=rfl
     rw [ef]
     have hzs:(bV p.mu x).s=(aU p.mu x).s:=by
      have:(bV p.mu x).s=(bD (aU p.mu x).s (aU p.mu x).coll).s:=e1
      rw [this]
      have:=congrArg WS.s h6
      exact this
     have hbn:∀ a,(aU p.mu x).s.H.bn a=true↔p.jL a:=fun a=>by
      have:=h7 a
      rw [<- hzs]
      have e:(bV p.mu x).s=(bD (aU p.mu x).s (aU p.mu x).coll).s:=e1
      rw [e];exact this
     refine ⟨h3.congr e1 e2 (by
      have e3':(bV p.mu x).coll=(bD (aU p.mu x).s (aU p.mu x).coll).c:=e3
      rw [e3'];exact ⟨rfl,rfl,rfl,rfl,rfl,rfl,rfl,rfl⟩),fun a=>by rw [hzs];exact hbn a,h4.nd,fun a=>⟨fun ha=>h4.dd a ha,fun ha=>?_⟩,hp1,fun i m hm=>?_,fun a ha=>by rw [hzs];exact h4.jM a ha,by rw [hzs];exact h4.geo,hc2,hd2⟩
     ·refine Classical.byContradiction fun hn=>ha.2 ((hbn a).1 ((h4.bn a).2 ⟨ha.1,hn⟩))
     ·have:(bV p.mu x).muts=(aU p.mu x).muts:=e2
      rw [this] at hm
      exact (h4.dJ i m hm).regs
theorem NG {c:CS} (h:c.phase=1) (hc:c.cycles<=c.drains+1):kY c:=by
 unfold kY
 rw [h,if_neg (by omega)]
 exact hc
theorem Jj {c:CS} (h:c.phase=0) (hc:kY c):c.cycles<=c.drains:=by
 unfold kY at hc
 rw [h,if_pos (by omega)] at hc
 exact hc
theorem mP.Yn (h:mP mu bl ce κ x):∀ j,j<=mu->mP mu bl ce κ (aU j x)/\(aU j x).s=x.s/\(aU j x).coll=x.coll/\∀ i:Nat,((aU j x).muts[i]?).map MS.regs=(x.muts[i]?).map MS.regs
 | 0,_=>⟨h,rfl,rfl,fun _=>rfl⟩
 | j+1,hj=>by
   obtain ⟨h1,h2,h3,h4⟩:=mP.Yn h j (by omega)
   obtain ⟨m,hm⟩:∃ m,(aU j x).muts[j]?=some m:=⟨(aU j x).muts[j]'(by rw [h1.muts];omega),List.getElem?_eq_getElem _⟩
   have hlt:=(List.getElem?_eq_some_iff.1 hm).1
   obtain ⟨e,h5⟩:=h1.Ci hm
   obtain ⟨e1,e2,e3⟩:=mQ (aU j x) hm
   rw [e] at e1 e2
   refine ⟨h5.congr e1 e2 (by rw [show (aU (j+1) x).coll=(aU j x).coll from e3];exact ⟨rfl,rfl,rfl,rfl,rfl,rfl,rfl,rfl⟩),e1.trans h2,e3.trans h3,fun i=>?_⟩
   show ((aY (aU j x) j).muts[i]?).map MS.regs=_
   rw [e2,<- h4 i]
   by_cases ei:i=j
   ·subst ei
    rw [List.getElem?_set_self hlt,hm];rfl
   ·rw [List.getElem?_set_ne (fun e=>ei e.symm)]
theorem Gf (h:mP mu bl ce κ x) (hw:x.coll.wish=true) (hR:∀ (i:Nat) (m:MS),x.muts[i]?=some m->m.regs.length<=R) (most:Nat) (hm:mW mu bl ce R (x.s.H.ww/2)+2<=most) (hdr:kY x.coll) :
 ∃ out ph z,fG mu most x [] [x.coll.phase]=(out,ph,true,z)/\xU (eY mu bl ce κ x) (jh x) out ph z:=by
 obtain ⟨h1,h2,h3,h4⟩:=h.Yn mu (Nat.le_refl _)
 obtain ⟨f,rfl⟩:∃ f,most=f+1:=⟨most - 1,by omega⟩
 have hcp:eY mu bl ce κ (aU mu x)=eY mu bl ce κ x:=by
  unfold eY
  rw [h2]
  have:(fun i=>(((aU mu x).muts[i]?).map MS.regs).getD [])=fun i=>((x.muts[i]?).map MS.regs).getD []:=funext fun i=>by rw [h4 i]
  rw [this]
 have hR2:∀ (i:Nat) (m:MS),(aU mu x).muts[i]?=some m->m.regs.length<=R:=fun i m hm=>by
  have:=h4 i
  rw [hm] at this
  cases hx:x.muts[i]? with
  | none=>rw [hx] at this;cases this
  | some m' =>
    rw [hx] at this
    simp at this
    rw [this]
    exact hR i m' hx
 obtain ⟨g,hb⟩:=h1.bound hR2
 obtain ⟨s1,s2,s3,s4,s5⟩:=h1.start
 rw [hcp] at g hb s1 s2
 rw [h2] at hb
 obtain ⟨e1,e2,e3⟩:=vN (aU mu x) h1.muts
 have hpc:bD (aU mu x).s (aU mu x).coll=⟨(gK (aU mu x).s (aU mu x).coll).s,{ (gK (aU mu x).s (aU mu x).coll).c with next:=(gK (aU mu x).s (aU mu x).coll).next },(gK (aU mu x).s (aU mu x).coll).next,(gK (aU mu x).s (aU mu x).coll).ev⟩:=by
  unfold bD
  rw [h1.nx,if_neg (by decide),if_pos (by rw [h3];exact hw)]
 rw [hpc] at e1 e3
 have hrw:jD (eY mu bl ce κ x) (bV mu x) []:=(jD.mark s1 s2).congr e1 e2 e3
 have hrs:(eY mu bl ce κ x).rest R (bV mu x)=(eY mu bl ce κ x).rest R (jh (aU mu x)):=uf e1 e2 e3
 have hev:fE mu x=some ((aU mu x).coll.ev 2 ((aU mu x).coll.cycles+1)):=by
  show (bD (aU mu x).s (aU mu x).coll).ev=_
  rw [hpc];exact s3
 have lS:(bV mu x).coll.phase=1:=by
  have:(bV mu x).coll=_:=e3
  rw [this];rfl
 have hun:fG mu (f+1) x [] [x.coll.phase]=if yH (fE mu x) then (sH (fE mu x) [],fZ [x.coll.phase] (bV mu x).coll.phase,true,bV mu x) else fG mu f (bV mu x) (sH (fE mu x) []) (fZ [x.coll.phase] (bV mu x).coll.phase):=rfl
 rw [hun,hev]
 have ev2:yH (some ((aU mu x).coll.ev 2 ((aU mu x).coll.cycles+1)))=false:=rfl
 have ef2:sH (some ((aU mu x).coll.ev 2 ((aU mu x).coll.cycles+1))) []=[]:=rfl
 rw [ev2,ef2,if_neg (by decide)]
 have hp0:=h.ph
 obtain ⟨p1,p2⟩:=(vM.one (a:=x.coll.phase) (by omega)).next (b:=(bV mu x).coll.phase) (by rw [lS,hp0];decide) (by rw [lS];decide)
 refine zM g f (bV mu x) [] _ hrw (by omega) p1 p2 ?_ ?_
 ·have:(bV mu x).coll=_:=e3
  rw [this]
  show (false=false)/\_
  refine ⟨rfl,?_⟩
  show (aU mu x).coll.cycles+1=x.coll.cycles+1
  rw [h3]
 ·intro _
  have:(bV mu x).coll=_:=e3
  rw [this]
  refine NG rfl ?_
  have:=Jj hp0 hdr
  show (aU mu x).coll.cycles+1<=(aU mu x).coll.drains+1
  rw [h3]
  omega
end
def yI:mM:=⟨⟨0,0,0,0,1,0,0⟩,[1,1],[],[1],[]⟩
theorem NH:oh yI=[1,3]:=by decide +kernel
def Yo:List Nat × List Nat × Bool × WS:=fG 1 3000 { (bJ yI) with coll:={ (bJ yI).coll with wish:=true },picks:=(bJ yI).picks+1 } [] [0]
theorem Ze:Yo.1=[3]/\Yo.2.2.1=true/\Yo.2.2.2.s.H.bn 1=true:=by decide +kernel
end
section
open Go.RowKit
def inL (zs:List Int) (m:Int):Bool:=zs.any (· == m)
theorem P9 {l:List Int} {j:Nat} (h:j<l.length):l.getD j 0=l[j]:=by
 rw [List.getD_eq_getElem?_getD,List.getElem?_eq_getElem h];rfl
theorem Ew (a b:Option Addr) (n m c d:Nat) (xs ys:List Int) (w:World) (hx:fH .i64 w a n xs) (hy:fH .i64 w b m ys) (hn:n<=9223372036854775807) (hm:m<=9223372036854775807) :
 Calls ay 22 #[.slice a n c,.slice b m d] w fun e w'=>e = .returned (.bool (xs==ys))/\Keep none_ w w':=by
 by_cases hl:n=m
 ·subst hl
  have HL:xs.length=n/\ys.length=n:=⟨hx.len,hy.len⟩
  have HLL:=au HL
  clear HL
  go_enter func22,ntmps22
  go_wp2
  go_loopg [5] n (fun g i wr=>∃ k:Nat,g+k=n/\i = ah k/\(∀ j,j<k->xs.getD j 0=ys.getD j 0)/\Keep none_ w wr)
  case atStart=>exact ⟨0,by omega,rfl,fun j hj=>absurd hj (by omega),Keep.refl _ _⟩
  case round =>
   obtain ⟨k,hg,rfl,hr,hk⟩:=hrel
   by_cases hlt:k<n
   ·obtain ⟨ba,oa,rfl,hca⟩:=(hx.below hk).at_ (by omega)
    obtain ⟨bb,ob,rfl,hcb⟩:=(hy.below hk).at_ (by omega)
    have h1:=hca k hlt
    have h2:=hcb k hlt
    have uy:(k:Int)<(n:Int):=by omega
    have hk0:(0:Int)<=(k:Int):=by omega
    by_cases he:xs.getD k 0=ys.getD k 0
    ·have HR:Hid (∀ j,j<k+1->xs.getD j 0=ys.getD j 0):=fun j hj=>by
      rcases Nat.lt_succ_iff_lt_or_eq.1 hj with h|h
      ·exact hr j h
      ·rw [h];exact he
     rw [he] at h1
     generalize ys.getD k 0=y at h1 h2
     clear hca hcb hr he
     go_wp2
     go_quiet (fail)
     go_wp2
     go_roundg (gk - 1)
     case measure=>omega
     case rel=>exact ⟨k+1,by omega,by go_num,HR.out,hk.drewN _⟩
    ·have HE:Hid ((xs==ys)=false):=by
      rw [Hid,beq_eq_false_iff_ne]
      intro e
      exact he (by rw [e])
     have hne:(xs.getD k 0==ys.getD k 0)=false:=by simpa using he
     have hne2:(xs.getD k 0 != ys.getD k 0)=true:=by simpa using he
     generalize xs.getD k 0=x at h1 hne hne2
     generalize ys.getD k 0=y at h2 hne hne2
     clear hca hcb hr he
     go_wp2
     go_quiet (fail)
     go_wp2
     go_ret
     exact ⟨by rw [HE.out];rfl,hk.drewN _⟩
   ·have HE:Hid ((xs==ys)=true):=by
     rw [Hid,beq_iff_eq]
     apply List.ext_getElem
     ·rw [HLL.out.1,HLL.out.2]
     ·intro j h1 h2
      have:=hr j (by have:=HLL.out.1;omega)
      rwa [P9 h1,P9 h2] at this
    clear hr
    go_wp2
    go_ret
    exact ⟨by rw [HE.out];rfl,hk⟩
 ·have HE:Hid ((xs==ys)=false):=by
   rw [Hid,beq_eq_false_iff_ne]
   intro e
   apply hl
   rw [<- hx.len,<- hy.len,e]
  have h1:((n:Int) != m)=true:=by simp;omega
  have h2:((n:Int)==m)=false:=by simp;omega
  go_enter func22,ntmps22
  go_wp2
  go_ret
  exact ⟨by rw [HE.out];rfl,Keep.refl _ _⟩
end
section
attribute [local go_sem ↓] lu
attribute [local go_sem] Oper.semAt_some
open Go.RowKit
section
variable {o o' o0:Ow} {w w' W W' W0:World} {G:Geo} {gs:List MG} {q:CG} {y:WS} {x:mM} {v:Value} {N i n:Nat} {l:List Nat} {I:List Nat} {e:Ending}
theorem Jk (x:mM):rU (bJ x):=by
 have key:∀ f (y:WS),rU y->rU (l9 f y):=fun f=>by
  induction f with
  | zero=>intro y h;exact h
  | succ f ih =>
    intro y h
    unfold l9
    split
    ·exact h
    ·split
     ·exact h
     ·exact ih _ (qV h 0)
 exact key 300 _ (Jb _ _ _)
theorem Cm.get (h:Cm w x e w') (hr:x.rg.length<=20):∃ (o:Ow) (G:Geo) (q:CG) (gs:List MG) (ma:Option Addr) (mc:Nat) (a:Option Addr) (c:Nat),e = .returned (.tuple #[aj G.S,aj q.C,.slice ma gs.length mc,.slice a (oh x).length c]) /\
 CW w w' o G gs q (bJ x)/\nV 300 (bJ x)/\rU (bJ x)/\iO o w' (.slice ma gs.length mc) gs/\bG o w' 3 (.slice a (oh x).length c) (aK (oh x))/\CJ x/\gs.length=x.c.little.m.toNat:=by
 obtain ⟨o,G,q,gs,mv,a,c,rfl,h1,h2,h3,h4⟩:=h
 obtain ⟨ma,mc,rfl,_⟩:=h3.form
 have hI:=Jh x hr h1.coll.sh.heap.inv
 exact ⟨o,G,q,gs,ma,mc,a,c,rfl,h1,h2,Jk x,h3,h4,hI,h1.len.trans hI.ji.muts⟩
theorem jT.cells {a:Option Addr} {c:Nat} (h:jT i o W (.slice a l.length c) l):fH .i64 W a l.length (l.map fun x:Nat=>(x:Int)):=by
 have e:aK l=(l.map fun x:Nat=>(x:Int)).map (Value.int .i64):=by simp [aK]
 have h1:=h.1
 rw [e] at h1
 obtain ⟨a',c',ee,hi,_⟩:=fH.EF h1
 cases ee
 exact hi
theorem aaP (hn:n=1):fG n 3000 (aY (bJ yI) ((bJ yI).muts.length+1)) [] [(bJ yI).coll.phase]=Yo:=by
 rw [hn,pU]
 have hc:(bJ yI).coll.phase=0:=by
  obtain ⟨g,_⟩:=BG yI (by decide)
  rw [g.coll];rfl
 rw [hc];rfl
theorem DF (hL:Laid w):Calls ay 10 #[] w fun e w'=>e = .returned (.bool true)/\Keep none_ w w':=by
 obtain ⟨W1,hW1⟩:∃ W1,W1=((w.alloc (.cells #[.int .u8 1,.int .u8 1] 5)).alloc (.cells #[.int .u8 1] 5)).alloc (.cells #[ah 0,ah 0,ah 0,ah 0,ah 1,ah 0,ah 0,.slice (some ⟨w.heap.size,0,none⟩) 2 2,.slice none 0 0,.slice (some ⟨w.heap.size+1,0,none⟩) 1 1,.slice none 0 0] 26):=⟨_,rfl⟩
 have ka:Keep none_ w (w.alloc (.cells #[.int .u8 1,.int .u8 1] 5)):=(Keep.refl _ _).alloc _
 have kb:Keep none_ w ((w.alloc (.cells #[.int .u8 1,.int .u8 1] 5)).alloc (.cells #[.int .u8 1] 5)):=ka.alloc _
 have k1:Keep none_ w W1:=by rw [hW1];exact kb.alloc _
 have hb1:aA W1 w.heap.size [.int .u8 1,.int .u8 1] 5:=by rw [hW1];exact ((aA.new w [.int .u8 1,.int .u8 1] 5).alloc _).alloc _
 have hb2:aA W1 (w.heap.size+1) [.int .u8 1] 5:=by
  have:=(aA.new (w.alloc (.cells #[.int .u8 1,.int .u8 1] 5)) [.int .u8 1] 5).alloc (.cells #[ah 0,ah 0,ah 0,ah 0,ah 1,ah 0,ah 0,.slice (some ⟨w.heap.size,0,none⟩) 2 2,.slice none 0 0,.slice (some ⟨w.heap.size+1,0,none⟩) 1 1,.slice none 0 0] 26)
  have hsz:∀ X:Obj,(w.alloc X).heap.size=w.heap.size+1:=fun X=>by simp
  rw [hsz] at this
  rw [hW1];exact this
 have hst:zK W1 yI (some ⟨w.heap.size,0,none⟩) none (some ⟨w.heap.size+1,0,none⟩) none 2 0 1 0:=by
  refine ⟨⟨⟨rfl,fun _=>⟨_,0,rfl,fun j hj=>?_⟩⟩,by decide⟩,⟨⟨rfl,fun h=>absurd h (Nat.lt_irrefl 0)⟩,fun x hx=>by cases hx⟩,⟨⟨rfl,fun _=>⟨_,0,rfl,fun j hj=>?_⟩⟩,by decide⟩,⟨⟨rfl,fun h=>absurd h (Nat.lt_irrefl 0)⟩,fun x hx=>by cases hx⟩⟩
  ·rcases (by omega:j=0\/j=1) with rfl|rfl
   ·exact hb1.cell 0 rfl
   ·exact hb1.cell 1 rfl
  ·obtain rfl:j=0:=by omega
   exact hb2.cell 0 rfl
 have DC:Hid (Calls ay 11 #[pR yI.c (some ⟨w.heap.size,0,none⟩) none (some ⟨w.heap.size+1,0,none⟩) none 2 0 1 0 2 0 1 0] W1 (Cm W1 yI)):=NC (hL.still k1) hst (by omega) (by omega) (by omega) (by omega)
 have aJ:=au k1
 have HW1:=au hW1
 clear hW1 ka kb k1 hb1 hb2 hst hL
 go_enter func10,ntmps10
 go_wp2_with fail
 rw [<- HW1.out]
 refine DC.out.mono ?_
 intro e2 w2 hm
 obtain ⟨o,G,q,gs,ma,mc,a,c,rfl,hcw,hok,hfw,hmv,hrow,hI,hgl⟩:=hm.get (by decide)
 rw [NH] at hrow
 have hl2:(oh yI).length=2:=by rw [NH];rfl
 rw [hl2]
 have Jl:Hid (Calls ay 27 #[aj q.C,.slice ma gs.length mc,ah (3000:Int)] w2 fun e w'=>∃ (fa pa:Option Addr) (fc pl pc:Nat),e = .returned (.tuple #[.slice fa 1 fc,.slice pa pl pc,.bool true])/\fH .i64 w' fa 1 [3]/\Keep none_ W1 w'/\w'.cell? ⟨G.S,0,none⟩=some (aj (G.D 0))/\∀ W,Keep none_ w' W->Calls ay 33 #[aj (G.D 0),ah 1] W fun e w''=>e = .returned (.bool true)/\W=w''):=by
  refine (Ji hcw hok hfw hmv 3000 (by omega)).mono ?_
  rintro e w' ⟨fv,pv,o',rfl,hs⟩
  rw [aaP (hgl.trans rfl)] at hs ⊢
  obtain ⟨z1,z2,z3⟩:=Ze
  rw [z1,z2] at *
  obtain ⟨fa,fc,rfl,_⟩:=hs.f.form
  obtain ⟨pa,pc,rfl,_⟩:=hs.p.form
  refine ⟨fa,pa,fc,_,pc,rfl,hs.f.cells,hs.cw.keep,hs.cw.coll.sh.qG.1,?_⟩
  intro W kW
  have:=Gu (hs.cw.coll.sh.heap.still kW) 1
  rw [z3] at this
  exact this
 clear hm hcw hok hfw hmv hrow hI hgl hl2
 go_wp2_with fail
 refine Jl.out.mono ?_
 rintro e w5 ⟨fa,pa,fc,pl,pc,rfl,hF,k5,hS,hIS⟩
 obtain ⟨W6,oz⟩:∃ W6,W6=w5.alloc (.cells #[ah 3] 3):=⟨_,rfl⟩
 have k6:Keep none_ w5 W6:=by rw [oz];exact (Keep.refl _ _).alloc _
 have hb6:aA W6 w5.heap.size [ah 3] 3:=by rw [oz];exact aA.new w5 _ _
 have hI6:fH .i64 W6 (some ⟨w5.heap.size,0,none⟩) 1 [3]:=⟨rfl,fun _=>⟨_,0,rfl,fun j hj=>by
  obtain rfl:j=0:=by omega
  exact hb6.cell 0 rfl⟩⟩
 have Du:Hid (Calls ay 22 #[.slice fa 1 fc,.slice (some ⟨w5.heap.size,0,none⟩) 1 1] W6 fun e w'=>e = .returned (.bool true)/\Keep none_ W6 w'):=by
  refine (Ew fa (some ⟨w5.heap.size,0,none⟩) 1 1 fc 1 [3] [3] W6 (hF.below k6) hI6 (by omega) (by omega)).mono ?_
  rintro e w' ⟨rfl,k⟩
  exact ⟨rfl,k⟩
 have HIS:Hid (∀ W,Keep none_ W6 W->Calls ay 33 #[aj (G.D 0),ah 1] W fun e w''=>e = .returned (.bool true)/\W=w''):=fun W kW=>hIS W (k6.trans kW)
 have HS:Hid (∀ W,Keep none_ W6 W->W.cell? ⟨G.S,0,none⟩=some (aj (G.D 0))):=fun W kW=>kW.still (k6.still hS)
 have zZ:Hid (Keep none_ w W6):=aJ.out.trans (k5.trans k6)
 have HW6:=au oz
 clear hF k5 hIS Jl HW1 aJ DC hS oz k6 hb6 hI6
 go_wp2_with fail
 rw [<- HW6.out]
 refine Du.out.mono ?_
 rintro e w7 ⟨rfl,k7⟩
 have hS7:=HS.out w7 k7
 have aaQ:=au (HIS.out w7 k7)
 have Yp:Hid (Keep none_ w w7):=zZ.out.trans k7
 clear HS HIS zZ HW6 Du k7
 go_wp2_with fail
 refine aaQ.out.mono ?_
 rintro e w8 ⟨rfl,rfl⟩
 clear aaQ hS7
 go_wp2_with fail
 go_ret
 exact ⟨rfl,Yp.out⟩
end
end
end Go.Proofs.YtanfphjoebobaaaGreatDoor
