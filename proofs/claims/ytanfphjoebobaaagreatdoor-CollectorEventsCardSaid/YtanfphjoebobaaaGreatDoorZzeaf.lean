/- Parts of the walk. No conditions. -/
import Derived.Test.YtanfphjoebobaaaGreatDoorZzeae
namespace Go.Proofs.YtanfphjoebobaaaGreatDoor
open _root_.Go.Proofs.Tryz hiding prog
open _root_.Go.Proofs.Tryz renaming prog->ay
set_option maxRecDepth 8000
set_option maxHeartbeats 8000000
section
attribute [local go_sem ↓] jT
attribute [local go_sem] Oper.semAt_some
open Go.RowKit
section
variable {o o' o0:Ow} {w w' W W' W0:World} {G:Geo} {gs:List MG} {q:CG} {x y:WS} {v:Value} {N i n:Nat} {l:List Nat} {I:List Nat}
structure iF (w W0:World) (o0:Ow) (G:Geo) (gs:List MG) (q:CG) (mv:Value) (N:Nat) (W:World) (o:Ow) (x:WS) (fv pv:Value) (fr ph:List Nat):Prop where
 cw:CW w W o G gs q x
 ok:oq N x
 few:sF x
 cx:CX W0 o0 W o
 mv:iJ o W mv gs
 f:kZ 98 o W fv fr
 p:kZ 99 o W pv ph
theorem iF.still {mv fv pv:Value} {fr ph:List Nat} (h:iF w W0 o0 G gs q mv N W o x fv pv fr ph) (k:Keep none_ W W'):iF w W0 o0 G gs q mv N W' o x fv pv fr ph :=
 ⟨h.cw.rX k,h.ok,h.few,h.cx.step (I:=[]) k.aS (aQ.refl _ _) (fun _ ha=>by cases ha),h.mv.keep (I:=[]) k.aS rfl (aQ.refl _ _),h.f.keep (I:=[]) k.aS rfl (aQ.refl _ _),h.p.keep (I:=[]) k.aS rfl (aQ.refl _ _)⟩
theorem iF.pick {mv fv pv:Value} {fr ph:List Nat} (h:iF w W0 o0 G gs q mv N W o x fv pv fr ph) (hN:N<=1000000000) {i:Nat} {g:MG} {m:MS} (hg:gs[i]?=some g) (hm:x.muts[i]?=some m):Calls ay 24 #[aj g.M] W fun e W'=>(∃ v1 v2,e = .returned (.tuple #[v1,v2]))/\∃ o',iF w W0 o0 G gs q mv (N+1) W' o' (bP x i) fv pv fr ph:=by
 have hi8:i<8:=by
  obtain ⟨g1,g2⟩:=h.cw.dK i g m hg hm
  have:=g1.jm;omega
 have hsub:=Wv i hi8
 have h98:(bW i).contains 98=false:=by simp [bW];omega
 have h99:(bW i).contains 99=false:=by simp [bW];omega
 have h97:(bW i).contains 97=false:=by simp [bW];omega
 refine (h.cw.pick h.ok hN hg hm (Jz _ (h.few m (List.mem_of_getElem? hm)).1)).mono ?_
 rintro e W' ⟨rfl,o',eo,hc,k⟩
 exact ⟨⟨_,_,rfl⟩,o',hc,wX h.ok h.cw.coll.sh.heap.hbd i,rD h.few i,h.cx.step k eo hsub,h.mv.keep k h97 eo,h.f.keep k h98 eo,h.p.keep k h99 eo⟩
theorem iF.coll {mv fv pv:Value} {fr ph:List Nat} (h:iF w W0 o0 G gs q mv N W o x fv pv fr ph) (hN:N<=1000000000):Calls ay 12 #[aj q.C] W fun e W'=>e = .returned (.tuple #[kX (bM x.s x.coll).ev,jq (bM x.s x.coll).ev])/\∃ o',iF w W0 o0 G gs q mv (N+1) W' o' (bP x x.muts.length) fv pv fr ph:=by
 refine (h.cw.Yh h.ok hN).mono ?_
 rintro e W' ⟨rfl,o',eo,hc,k⟩
 exact ⟨rfl,o',hc,wX h.ok h.cw.coll.sh.heap.hbd _,rD h.few _,h.cx.step k eo Wx,h.mv.keep k rfl eo,h.f.keep k rfl eo,h.p.keep k rfl eo⟩
theorem iF.Ky {mv fv pv:Value} {fr ph:List Nat} (h:iF w W0 o0 G gs q mv N W o x fv pv fr ph) {M u:Nat} (hM:W.cell? ⟨M,0,none⟩=some (ah (u:Int))) (hl:ph.length<=100000000000):∃ b cap W5,(app9 #[32,32] 32 #[pv,.slice (some ⟨M,0,none⟩) 1 1]).run ay W = .ok (.slice (some ⟨b,0,none⟩) (ph.length+1) cap) W5 /\
 ∃ o',iF w W0 o0 G gs q mv N W5 o' x fv (.slice (some ⟨b,0,none⟩) (ph.length+1) cap) fr (ph++[u])/\Keep (In o [99]) W W5/\aQ W o o':=by
 obtain ⟨b,cap,W5,hrun,o',eo,hc,hp,k⟩:=h.p.grow h.cw (by decide) hM hl
 refine ⟨b,cap,W5,hrun,o',?_,k,eo⟩
 exact ⟨hc,h.ok,h.few,h.cx.step k eo (by decide),h.mv.keep k rfl eo,h.f.keep k rfl eo,hp⟩
theorem iF.Zk {mv fv pv:Value} {fr ph:List Nat} (h:iF w W0 o0 G gs q mv N W o x fv pv fr ph) {M u:Nat} (hM:W.cell? ⟨M,0,none⟩=some (ah (u:Int))) (hl:fr.length<=100000000000):∃ b cap W5,(app9 #[32,32] 32 #[fv,.slice (some ⟨M,0,none⟩) 1 1]).run ay W = .ok (.slice (some ⟨b,0,none⟩) (fr.length+1) cap) W5 /\
 ∃ o',iF w W0 o0 G gs q mv N W5 o' x (.slice (some ⟨b,0,none⟩) (fr.length+1) cap) pv (fr++[u]) ph/\Keep (In o [98]) W W5:=by
 obtain ⟨b,cap,W5,hrun,o',eo,hc,hp,k⟩:=h.f.grow h.cw (by decide) hM hl
 refine ⟨b,cap,W5,hrun,o',?_,k⟩
 exact ⟨hc,h.ok,h.few,h.cx.step k eo (by decide),h.mv.keep k rfl eo,hp,h.p.keep k rfl eo⟩
theorem iF.more {mv fv pv:Value} {fr ph:List Nat} {M:Nat} (h:iF w W0 o0 G gs q mv N W o x fv pv fr ph) (hM:N<=M):iF w W0 o0 G gs q mv M W o x fv pv fr ph:=⟨h.cw,h.ok.more hM,h.few,h.cx,h.mv,h.f,h.p⟩
theorem pR (x:WS):bP x (x.muts.length+1)={ x with coll:={ x.coll with wish:=true },picks:=x.picks+1 }:=by
 unfold bP
 rw [List.getElem?_eq_none (by omega)]
 simp only
 rw [if_neg (by omega)]
 rfl
theorem abZ {ph:List Nat} {k:Nat} (h:ph≠[]):∃ u,ph[ph.length - 1]?=some u/\iO ph k=if k≠u then ph++[k] else ph:=by
 obtain ⟨l,a,rfl⟩:=(List.eq_nil_or_concat ph).resolve_left h
 refine ⟨a,?_,?_⟩
 ·simp
 ·unfold iO
  rw [List.concat_eq_append,List.getLastD_concat]
theorem rE {ph:List Nat} {k:Nat} (h:ph≠[]):iO ph k≠[]/\(iO ph k).length<=ph.length+1:=by
 unfold iO
 split
 ·exact ⟨by simp,by simp⟩
 ·exact ⟨h,Nat.le_succ _⟩
def TP (w W0:World) (o0:Ow) (G:Geo) (gs:List MG) (q:CG) (mv:Value) (N most:Nat) (x:WS) (e:Ending) (W':World):Prop :=
 ∃ (fv pv:Value) (o':Ow),e = .returned (.tuple #[fv,pv,.bool (mW gs.length most (bP x (x.muts.length+1)) [] [x.coll.phase]).2.2.1])/\iF w W0 o0 G gs q mv (N+1+most*(gs.length+1)) W' o' (mW gs.length most (bP x (x.muts.length+1)) [] [x.coll.phase]).2.2.2 fv pv (mW gs.length most (bP x (x.muts.length+1)) [] [x.coll.phase]).1 (mW gs.length most (bP x (x.muts.length+1)) [] [x.coll.phase]).2.1
theorem Wy {mv:Value} (h:CW w W o G gs q x) (ok:oq N x) (hfew:sF x) (hmv:iJ o W mv gs) (most:Nat) (hN:N+1+most*9<=1000000000):Calls ay 27 #[aj q.C,mv,ah (most:Int)] W (TP w W o G gs q mv N most x):=by
 obtain ⟨ma,mc,rfl,_⟩:=hmv.form
 have hlen:=h.len
 obtain ⟨n,hn⟩:∃ n,n=gs.length:=⟨_,rfl⟩
 rw [<- hn] at hmv
 have hn8:n<=8:=by
  rcases Nat.eq_zero_or_pos n with e|e
  ·omega
  ·obtain ⟨g,hg⟩:∃ g,gs[n - 1]?=some g:=⟨gs[n - 1]'(by omega),List.getElem?_eq_getElem _⟩
   obtain ⟨m,hm⟩:∃ m,x.muts[n - 1]?=some m:=⟨x.muts[n - 1]'(by omega),List.getElem?_eq_getElem _⟩
   obtain ⟨g1,g2⟩:=h.dK (n - 1) g m hg hm
   have:=g1.jm;omega
 have hmul:most*(n+1)<=most*9:=Nat.mul_le_mul_left _ (by omega)
 have WA:Hid (Calls ay 17 #[aj q.C] W fun e w'=>e = .returned (ah (x.coll.phase:Int))/\W=w'):=oH h.coll
 have hW1:∀ W1,W1=W.alloc (.cells #[ah (x.coll.phase:Int)] 3)->iF w W o G gs q (.slice ma n mc) N W1 (o.put W.heap.size 99) x (.slice none 0 0) (.slice (some ⟨W.heap.size,0,none⟩) 1 1) [] [x.coll.phase]:=fun W1 hW1=>by
  have k1:Keep none_ W W1:=by rw [hW1];exact (Keep.refl _ _).alloc _
  have hb:aA W1 W.heap.size [ah (x.coll.phase:Int)] 3:=by rw [hW1];exact aA.new W _ _
  obtain ⟨c1,c2⟩:=h.own k1 (Nat.le_refl _) hb.lt 99
  exact ⟨c1,ok,hfew,(CX.refl W o).step (I:=[]) k1.aS c2 (fun _ ha=>by cases ha),hmv.keep (I:=[]) k1.aS rfl c2,kZ.nil 98 _ _,kZ.new o 99 x.coll.phase W.heap.size hb⟩
 have Ak:Hid (∀ W1,W1=W.alloc (.cells #[ah (x.coll.phase:Int)] 3)->Calls ay 14 #[aj q.C] W1 fun e w'=>e = .returned (.tuple #[])/\∃ o',iF w W o G gs q (.slice ma n mc) (N+1) w' o' (bP x (x.muts.length+1)) (.slice none 0 0) (.slice (some ⟨W.heap.size,0,none⟩) 1 1) [] [x.coll.phase]):=fun W1 e1=>by
  have hs:=hW1 W1 e1
  refine hs.cw.wish.mono ?_
  rintro e w' ⟨rfl,hc,k⟩
  exact ⟨rfl,_,hc,wX ok h.coll.sh.heap.hbd _,rD hfew _,hs.cx.step k (aQ.refl _ _) (by decide),hs.mv.keep k rfl (aQ.refl _ _),hs.f.keep k rfl (aQ.refl _ _),hs.p.keep k rfl (aQ.refl _ _)⟩
 have nN:Hid (∀ W' (fv pv:Value) (fr ph:List Nat) (okk:Bool) (z:WS) (o':Ow),mW n most (bP x (x.muts.length+1)) [] [x.coll.phase]=(fr,ph,okk,z)->iF w W o G gs q (.slice ma n mc) (N+1+most*(n+1)) W' o' z fv pv fr ph->TP w W o G gs q (.slice ma n mc) N most x (.returned (.tuple #[fv,pv,.bool okk])) W'):=fun W' fv pv fr ph okk z o' e hs=>by
  unfold TP
  rw [<- hn,e]
  exact ⟨fv,pv,o',rfl,hs⟩
 have hml:∀ j,(aO j (bP x (x.muts.length+1))).muts.length=n:=fun j=>by
  rw [JI,pR];exact hlen.symm.trans hn.symm
 have YU:Hid (n=gs.length):=hn
 have adO:(bP x (x.muts.length+1)).muts.length=n:=hml 0
 rw [<- hn]
 generalize TP w W o G gs q (.slice ma n mc) N most x=PO at *
 generalize hx0:bP x (x.muts.length+1)=x0 at *
 clear h ok hfew hmv hlen hW1 hml hn
 go_enter func27,ntmps27
 go_wp2_with fail
 refine WA.out.mono ?_
 rintro e w1 ⟨rfl,rfl⟩
 obtain ⟨W1,hW1⟩:∃ W1,W1=W.alloc (.cells #[ah (x.coll.phase:Int)] 3):=⟨_,rfl⟩
 have HW1:=au hW1
 have acd:=au (Ak.out W1 hW1)
 clear hW1 Ak WA
 go_wp2_with fail
 rw [<- HW1.out]
 refine acd.out.mono ?_
 rintro e w2 ⟨rfl,o2,hs2⟩
 have HS2:=au hs2
 clear hs2 acd HW1
 go_wp2_with fail
 go_loopw [9,10,11,12,13,14,15] (fun fv pv iv _ _ _ _ wr=>∃ (t:Nat) (z:WS) (fr ph:List Nat) (o':Ow) (fv' pv':Value),fv'=fv/\pv'=pv/\t<=most/\iv = ah t/\iF w W o G gs q (.slice ma n mc) (N+1+t*(n+1)) wr o' z fv pv fr ph/\ph≠[]/\fr.length<=t/\ph.length<=t+1/\z.muts.length=n/\mW n (most - t) z fr ph=mW n most x0 [] [x.coll.phase]) (fun _ _ iv _ _ _ _ _=>most - (intOf iv).toNat)
 case atStart=>exact ⟨0,x0,[],[x.coll.phase],o2,_,_,rfl,rfl,Nat.zero_le _,rfl,HS2.out.more (by omega),by simp,Nat.le_refl _,Nat.le_refl _,adO,rfl⟩
 case round =>
  obtain ⟨t,z,fr,ph,o3,fv,pv,hfv,hpv,ht,rfl,hs,mV,hfl,hpl,hzl,hrun⟩:=hrel
  subst hfv hpv
  have hm1:t*(n+1)<=most*(n+1):=Nat.mul_le_mul_right _ ht
  by_cases htm:t<most
  ·have Qn : (t:Int)<(most:Int):=by omega
   have hm2:(t+1)*(n+1)<=most*(n+1):=Nat.mul_le_mul_right _ htm
   rw [Nat.add_mul,Nat.one_mul] at hm2
   have Nu:Hid (N+1+(t+1)*(n+1)<=N+1+most*(n+1)):=Nat.add_le_add_left (Nat.mul_le_mul_right _ htm) _
   have sJ:Hid (N+1+t*(n+1)+(n+1)<=1000000000):=by show _<=_;omega
   have HS:=au hs
   have HT:Hid (ph≠[]/\fr.length<=t/\ph.length<=t+1/\mW n (most - t) z fr ph=mW n most x0 [] [x.coll.phase]):=⟨mV,hfl,hpl,hrun⟩
   have DX:Hid (∀ j,(aO j z).muts.length=n):=fun j=>(JI j z).trans hzl
   clear hs mV hfl hpl hrun hm1 hm2 hzl
   go_wp2_with fail
   go_loopw [12] (fun iv wr=>∃ (j:Nat) (o':Ow),j<=n/\iv = ah j/\iF w W o G gs q (.slice ma n mc) (N+1+t*(n+1)+j) wr o' (aO j z) fv pv fr ph) (fun iv _=>n - (intOf iv).toNat)
   case atStart=>exact ⟨0,o3,Nat.zero_le _,rfl,HS.out⟩
   case round =>
    obtain ⟨j,o4,hj,rfl,hs⟩:=hrel
    by_cases hjn:j<n
    ·have IJ:(j:Int)<(n:Int):=by omega
     have hj0:(0:Int)<=(j:Int):=by omega
     obtain ⟨g0,hg0⟩:∃ g,gs[j]?=some g:=⟨gs[j]'(by have:=YU.out;omega),List.getElem?_eq_getElem _⟩
     obtain ⟨m0,hm0⟩:∃ m,(aO j z).muts[j]?=some m:=⟨(aO j z).muts[j]'(by have:=DX.out j;omega),List.getElem?_eq_getElem _⟩
     obtain ⟨a',c',e1,hform⟩:=hs.mv.form
     rw [<- YU.out] at e1
     cases e1
     obtain ⟨bA,e2,hcA⟩:=hform j g0 hg0
     have DV:=au (hs.pick (by have:=sJ.out;omega) hg0 hm0)
     cases e2
     clear hs hform hg0 hm0
     go_wp2_with fail
     refine DV.out.mono ?_
     rintro e w5 ⟨⟨v1,v2,rfl⟩,o5,hs5⟩
     have vw:=au hs5
     clear hs5 DV hcA
     go_wp2_with fail
     exact ⟨⟨j+1,o5,by omega,by go_num,vw.out⟩,by simp [intOf];omega⟩
    ·obtain rfl:j=n:=by omega
     have IJ:¬ (j:Int)<(j:Int):=by omega
     obtain ⟨y,hy⟩:∃ y,y=aO j z:=⟨_,rfl⟩
     have hyl:y.muts.length=j:=by rw [hy];exact DX.out j
     have A8:Hid (Calls ay 12 #[aj q.C] wr fun e W'=>e = .returned (.tuple #[kX (iD j z),jq (iD j z)])/\∃ o',iF w W o G gs q (.slice ma j mc) (N+1+(t+1)*(j+1)) W' o' (aZ j z) fv pv fr ph):=by
      have h1:=hs.coll (by have:=sJ.out;omega)
      rw [DX.out j] at h1
      refine h1.mono ?_
      rintro e W' ⟨e1,o',h2⟩
      exact ⟨e1,o',h2.more (by rw [Nat.add_mul t 1];omega)⟩
     have Cb:Hid (mW j (most - t) z fr ph=if Wu (iD j z) then (Oa (iD j z) fr,iO ph (aZ j z).coll.phase,true,aZ j z) else mW j (most - (t+1)) (aZ j z) (Oa (iD j z) fr) (iO ph (aZ j z).coll.phase)):=by
      show _=_
      rw [show most - t=(most - (t+1))+1 by omega]
      rfl
     have hrl:(aZ j z).muts.length=j:=by
      have h2:=DX.out j
      show (bP (aO j z) j).muts.length=j
      unfold bP
      rw [List.getElem?_eq_none (by omega)]
      simp only
      split
      ·rw [(WS.nP _ _).2.1];exact h2
      ·rw [(WS.nP _ _).2.1];exact h2
     obtain ⟨u,hu,hpn⟩:=abZ (k:=(aZ j z).coll.phase) HT.out.1
     have vF:=au hpn
     clear hs hy hyl hpn DX y
     generalize hev:iD j z=ev at *
     generalize hzz:aZ j z=z2 at *
     clear hev hzz
     go_wp2_with fail
     refine A8.out.mono ?_
     rintro e w6 ⟨rfl,o6,hs6⟩
     cases ev with
     | none =>
       have hag:kX none = .agg #[ah 0,ah 0,ah 0,ah 0,ah 0,ah 0]:=rfl
       have htl:jq none = .bool false:=rfl
       rw [hag,htl]
       obtain ⟨W7,iG⟩:∃ W7,W7=w6.alloc (.cells #[ah 0,ah 0,ah 0,ah 0,ah 0,ah 0] 37):=⟨_,rfl⟩
       have k7:Keep none_ w6 W7:=by rw [iG];exact (Keep.refl _ _).alloc _
       have hb7:aA W7 w6.heap.size [ah 0,ah 0,ah 0,ah 0,ah 0,ah 0] 37:=by rw [iG];exact aA.new w6 _ _
       have ho7:o6 w6.heap.size=0:=hs6.cw.coll.sh.fC _ (Nat.le_refl _)
       have hs7:=hs6.still k7
       have xg:Hid (Calls ay 17 #[aj q.C] W7 fun e w'=>e = .returned (ah (z2.coll.phase:Int))/\W7=w'):=oH hs7.cw.coll
       have jo:=au hs7
       have jY:=au hb7
       have rF:=au iG
       have pU:=au ho7
       clear hs6 hs7 hb7 k7 iG ho7 A8
       go_wp2_with fail
       rw [<- rF.out]
       refine xg.out.mono ?_
       rintro e w8 ⟨rfl,rfl⟩
       obtain ⟨ap,cp,e3,hpf⟩:=jo.out.p.form
       have hpp:0<ph.length:=List.length_pos_iff.2 HT.out.1
       obtain ⟨d,hd⟩:∃ d,ph.length=d+1:=⟨ph.length - 1,by omega⟩
       obtain ⟨bp,e4,hcp⟩:=hpf (ph.length - 1) u hu
       rw [show ph.length - 1=d by omega] at hcp
       cases e4
       rw [hd] at e3
       cases e3
       have ht9:t<=1000000000:=by have:=sJ.out;have hm3:t<=t*(j+1):=Nat.le_mul_of_pos_right _ (by omega);omega
       have Zl:(d:Int)<=1000000000:=by have:=HT.out.2.2.1;have:=sJ.out;have hm3:t<=t*(j+1):=Nat.le_mul_of_pos_right _ (by omega);omega
       have hd0:(0:Int)<=(d:Int):=by omega
       have HD:=au hd
       clear hpf xg rF hpp hd
       generalize hpq:z2.coll.phase=pk at *
       by_cases hk:pk=u
       ·subst hk
        have hpn2:iO ph pk=ph:=by rw [vF.out,if_neg (by simp)]
        have HST:Hid (iF w W o G gs q (.slice ma j mc) (N+1+(t+1)*(j+1)) W7 o6 z2 fv (.slice (some ⟨bp,0,none⟩) (d+1) cp) fr (iO ph pk)):=by show iF _ _ _ _ _ _ _ _ _ _ _ _ _ _ _;rw [hpn2];exact jo.out
        have y2:=jY.out.cell 2 rfl
        have y5:=jY.out.cell 5 rfl
        have HQ:Hid (iO ph pk≠[]/\(iO ph pk).length<=ph.length+1):=rE HT.out.1
        have uK:=jY
        have Gv:=pU
        clear hpn2 vF jY pU jo
        go_wp2_with fail
        exact ⟨⟨t+1,z2,fr,iO ph pk,_,_,_,rfl,rfl,by omega,by go_num,HST.out,HQ.out.1,by have:=HT.out.2.1;omega,by have:=HT.out.2.2.1;have:=HQ.out.2;omega,hrl,by rw [<- HT.out.2.2.2,Cb.out];rfl⟩,by simp [intOf];omega⟩
       ·have hkN:decide (pk=u)=false:=decide_eq_false hk
        have hpn2:iO ph pk=ph++[pk]:=by rw [vF.out,if_pos hk]
        obtain ⟨W9,mD⟩:∃ W9,W9=W7.alloc (.cells #[ah (pk:Int)] 3):=⟨_,rfl⟩
        have k9:Keep none_ W7 W9:=by rw [mD];exact (Keep.refl _ _).alloc _
        have hb9:aA W9 W7.heap.size [ah (pk:Int)] 3:=by rw [mD];exact aA.new W7 _ _
        obtain ⟨b10,cap10,pI,hrun10,o10,hs10,k10,eo10⟩:=(jo.out.still k9).Ky (hb9.cell 0 rfl) (by have:=HT.out.2.2.1;have:=sJ.out;have hm3:t<=t*(j+1):=Nat.le_mul_of_pos_right _ (by omega);omega)
        rw [mD,HD.out] at hrun10
        rw [HD.out] at hs10
        have uK:Hid (aA pI w6.heap.size [ah 0,ah 0,ah 0,ah 0,ah 0,ah 0] 37):=k10.blk (k9.blk jY.out (fun f=>f)) (bI pU.out rfl)
        have Gv:Hid (o10 w6.heap.size=0):=(eo10 _ (k9.blk jY.out (fun f=>f)).lt).trans pU.out
        have HST:Hid (iF w W o G gs q (.slice ma j mc) (N+1+(t+1)*(j+1)) pI o10 z2 fv (.slice (some ⟨b10,0,none⟩) (d+1+1) cap10) fr (iO ph pk)):=by show iF _ _ _ _ _ _ _ _ _ _ _ _ _ _ _;rw [hpn2];exact hs10
        have y2:=uK.out.cell 2 rfl
        have y5:=uK.out.cell 5 rfl
        have HQ:Hid (iO ph pk≠[]/\(iO ph pk).length<=ph.length+1):=rE HT.out.1
        clear hpn2 vF k9 hb9 hs10 k10 eo10 mD jY pU jo
        go_wp2_with fail
        exact ⟨⟨t+1,z2,fr,iO ph pk,_,_,_,rfl,rfl,by omega,by go_num,HST.out,HQ.out.1,by have:=HT.out.2.1;omega,by have:=HT.out.2.2.1;have:=HQ.out.2;omega,hrl,by rw [<- HT.out.2.2.2,Cb.out];rfl⟩,by simp [intOf];omega⟩
     | some e =>
       by_cases hk5:e.kind=5
       ·have vk:Hid (Wu (some e)=false/\Oa (some e) fr=fr++[e.value]):=⟨by show (e.kind==4)=false;rw [hk5];rfl,by show (if e.kind=5 then _ else _)=_;rw [if_pos hk5]⟩
        have hag:kX (some e) = .agg #[ah 0,ah (e.who:Int),ah 5,ah (e.op:Int),ah e.code,ah (e.value:Int)]:=by
         show Value.agg #[ah 0,ah (e.who:Int),ah (e.kind:Int),ah (e.op:Int),ah e.code,ah (e.value:Int)]=_
         rw [hk5];rfl
        have htl:jq (some e) = .bool true:=rfl
        rw [hag,htl]
        obtain ⟨W7,iG⟩:∃ W7,W7=w6.alloc (.cells #[ah 0,ah (e.who:Int),ah 5,ah (e.op:Int),ah e.code,ah (e.value:Int)] 37):=⟨_,rfl⟩
        have k7:Keep none_ w6 W7:=by rw [iG];exact (Keep.refl _ _).alloc _
        have hb7:aA W7 w6.heap.size [ah 0,ah (e.who:Int),ah 5,ah (e.op:Int),ah e.code,ah (e.value:Int)] 37:=by rw [iG];exact aA.new w6 _ _
        have ho7:o6 w6.heap.size=0:=hs6.cw.coll.sh.fC _ (Nat.le_refl _)
        have hs7:=hs6.still k7
        have xg:Hid (Calls ay 17 #[aj q.C] W7 fun e w'=>e = .returned (ah (z2.coll.phase:Int))/\W7=w'):=oH hs7.cw.coll
        have jo:=au hs7
        have jY:=au hb7
        have rF:=au iG
        have pU:=au ho7
        clear hs6 hs7 hb7 k7 iG ho7 A8
        go_wp2_with fail
        rw [<- rF.out]
        refine xg.out.mono ?_
        rintro e w8 ⟨rfl,rfl⟩
        obtain ⟨ap,cp,e3,hpf⟩:=jo.out.p.form
        have hpp:0<ph.length:=List.length_pos_iff.2 HT.out.1
        obtain ⟨d,hd⟩:∃ d,ph.length=d+1:=⟨ph.length - 1,by omega⟩
        obtain ⟨bp,e4,hcp⟩:=hpf (ph.length - 1) u hu
        rw [show ph.length - 1=d by omega] at hcp
        cases e4
        rw [hd] at e3
        cases e3
        have ht9:t<=1000000000:=by have:=sJ.out;have hm3:t<=t*(j+1):=Nat.le_mul_of_pos_right _ (by omega);omega
        have Zl:(d:Int)<=1000000000:=by have:=HT.out.2.2.1;have:=sJ.out;have hm3:t<=t*(j+1):=Nat.le_mul_of_pos_right _ (by omega);omega
        have hd0:(0:Int)<=(d:Int):=by omega
        have HD:=au hd
        clear hpf xg rF hpp hd
        generalize hpq:z2.coll.phase=pk at *
        by_cases hk:pk=u
        ·subst hk
         have hpn2:iO ph pk=ph:=by rw [vF.out,if_neg (by simp)]
         have HST:Hid (iF w W o G gs q (.slice ma j mc) (N+1+(t+1)*(j+1)) W7 o6 z2 fv (.slice (some ⟨bp,0,none⟩) (d+1) cp) fr (iO ph pk)):=by show iF _ _ _ _ _ _ _ _ _ _ _ _ _ _ _;rw [hpn2];exact jo.out
         have y2:=jY.out.cell 2 rfl
         have y5:=jY.out.cell 5 rfl
         have HQ:Hid (iO ph pk≠[]/\(iO ph pk).length<=ph.length+1):=rE HT.out.1
         have uK:=jY
         have Gv:=pU
         clear hpn2 vF jY pU jo
         obtain ⟨vG,zW⟩:∃ vG,vG=W7.alloc (.cells #[ah (e.value:Int)] 3):=⟨_,rfl⟩
         have k11:Keep none_ W7 vG:=by rw [zW];exact (Keep.refl _ _).alloc _
         have hb11:aA vG W7.heap.size [ah (e.value:Int)] 3:=by rw [zW];exact aA.new W7 _ _
         obtain ⟨b12,cap12,uM,hrun12,o12,hs12,k12⟩:=(HST.out.still k11).Zk (hb11.cell 0 rfl) (by have:=HT.out.2.1;omega)
         have y2b:=(k12.blk (k11.blk uK.out (fun f=>f)) (bI Gv.out rfl)).cell 2 rfl
         rw [zW] at hrun12
         have Yy:=au hs12
         clear zW k11 hb11 hs12 k12 HST
         go_wp2_with fail
         exact ⟨⟨t+1,z2,fr++[e.value],iO ph pk,_,_,_,rfl,rfl,by omega,by go_num,Yy.out,HQ.out.1,by have:=HT.out.2.1;simp;omega,by have:=HT.out.2.2.1;have:=HQ.out.2;omega,hrl,by rw [<- HT.out.2.2.2,Cb.out,vk.out.1,vk.out.2];rfl⟩,by simp [intOf];omega⟩
        ·have hkN:decide (pk=u)=false:=decide_eq_false hk
         have hpn2:iO ph pk=ph++[pk]:=by rw [vF.out,if_pos hk]
         obtain ⟨W9,mD⟩:∃ W9,W9=W7.alloc (.cells #[ah (pk:Int)] 3):=⟨_,rfl⟩
         have k9:Keep none_ W7 W9:=by rw [mD];exact (Keep.refl _ _).alloc _
         have hb9:aA W9 W7.heap.size [ah (pk:Int)] 3:=by rw [mD];exact aA.new W7 _ _
         obtain ⟨b10,cap10,pI,hrun10,o10,hs10,k10,eo10⟩:=(jo.out.still k9).Ky (hb9.cell 0 rfl) (by have:=HT.out.2.2.1;have:=sJ.out;have hm3:t<=t*(j+1):=Nat.le_mul_of_pos_right _ (by omega);omega)
         rw [mD,HD.out] at hrun10
         rw [HD.out] at hs10
         have uK:Hid (aA pI w6.heap.size [ah 0,ah (e.who:Int),ah 5,ah (e.op:Int),ah e.code,ah (e.value:Int)] 37):=k10.blk (k9.blk jY.out (fun f=>f)) (bI pU.out rfl)
         have Gv:Hid (o10 w6.heap.size=0):=(eo10 _ (k9.blk jY.out (fun f=>f)).lt).trans pU.out
         have HST:Hid (iF w W o G gs q (.slice ma j mc) (N+1+(t+1)*(j+1)) pI o10 z2 fv (.slice (some ⟨b10,0,none⟩) (d+1+1) cap10) fr (iO ph pk)):=by show iF _ _ _ _ _ _ _ _ _ _ _ _ _ _ _;rw [hpn2];exact hs10
         have y2:=uK.out.cell 2 rfl
         have y5:=uK.out.cell 5 rfl
         have HQ:Hid (iO ph pk≠[]/\(iO ph pk).length<=ph.length+1):=rE HT.out.1
         clear hpn2 vF k9 hb9 hs10 k10 eo10 mD jY pU jo
         obtain ⟨vG,zW⟩:∃ vG,vG=pI.alloc (.cells #[ah (e.value:Int)] 3):=⟨_,rfl⟩
         have k11:Keep none_ pI vG:=by rw [zW];exact (Keep.refl _ _).alloc _
         have hb11:aA vG pI.heap.size [ah (e.value:Int)] 3:=by rw [zW];exact aA.new pI _ _
         obtain ⟨b12,cap12,uM,hrun12,o12,hs12,k12⟩:=(HST.out.still k11).Zk (hb11.cell 0 rfl) (by have:=HT.out.2.1;omega)
         have y2b:=(k12.blk (k11.blk uK.out (fun f=>f)) (bI Gv.out rfl)).cell 2 rfl
         rw [zW] at hrun12
         have Yy:=au hs12
         clear zW k11 hb11 hs12 k12 HST
         go_wp2_with fail
         exact ⟨⟨t+1,z2,fr++[e.value],iO ph pk,_,_,_,rfl,rfl,by omega,by go_num,Yy.out,HQ.out.1,by have:=HT.out.2.1;simp;omega,by have:=HT.out.2.2.1;have:=HQ.out.2;omega,hrl,by rw [<- HT.out.2.2.2,Cb.out,vk.out.1,vk.out.2];rfl⟩,by simp [intOf];omega⟩
       ·by_cases hk4:e.kind=4
        ·have vk:Hid (Wu (some e)=true/\Oa (some e) fr=fr):=⟨by show (e.kind==4)=true;rw [hk4];rfl,by show (if e.kind=5 then _ else _)=_;rw [if_neg hk5]⟩
         have hag:kX (some e) = .agg #[ah 0,ah (e.who:Int),ah 4,ah (e.op:Int),ah e.code,ah (e.value:Int)]:=by
          show Value.agg #[ah 0,ah (e.who:Int),ah (e.kind:Int),ah (e.op:Int),ah e.code,ah (e.value:Int)]=_
          rw [hk4];rfl
         have htl:jq (some e) = .bool true:=rfl
         rw [hag,htl]
         obtain ⟨W7,iG⟩:∃ W7,W7=w6.alloc (.cells #[ah 0,ah (e.who:Int),ah 4,ah (e.op:Int),ah e.code,ah (e.value:Int)] 37):=⟨_,rfl⟩
         have k7:Keep none_ w6 W7:=by rw [iG];exact (Keep.refl _ _).alloc _
         have hb7:aA W7 w6.heap.size [ah 0,ah (e.who:Int),ah 4,ah (e.op:Int),ah e.code,ah (e.value:Int)] 37:=by rw [iG];exact aA.new w6 _ _
         have ho7:o6 w6.heap.size=0:=hs6.cw.coll.sh.fC _ (Nat.le_refl _)
         have hs7:=hs6.still k7
         have xg:Hid (Calls ay 17 #[aj q.C] W7 fun e w'=>e = .returned (ah (z2.coll.phase:Int))/\W7=w'):=oH hs7.cw.coll
         have jo:=au hs7
         have jY:=au hb7
         have rF:=au iG
         have pU:=au ho7
         clear hs6 hs7 hb7 k7 iG ho7 A8
         go_wp2_with fail
         rw [<- rF.out]
         refine xg.out.mono ?_
         rintro e w8 ⟨rfl,rfl⟩
         obtain ⟨ap,cp,e3,hpf⟩:=jo.out.p.form
         have hpp:0<ph.length:=List.length_pos_iff.2 HT.out.1
         obtain ⟨d,hd⟩:∃ d,ph.length=d+1:=⟨ph.length - 1,by omega⟩
         obtain ⟨bp,e4,hcp⟩:=hpf (ph.length - 1) u hu
         rw [show ph.length - 1=d by omega] at hcp
         cases e4
         rw [hd] at e3
         cases e3
         have ht9:t<=1000000000:=by have:=sJ.out;have hm3:t<=t*(j+1):=Nat.le_mul_of_pos_right _ (by omega);omega
         have Zl:(d:Int)<=1000000000:=by have:=HT.out.2.2.1;have:=sJ.out;have hm3:t<=t*(j+1):=Nat.le_mul_of_pos_right _ (by omega);omega
         have hd0:(0:Int)<=(d:Int):=by omega
         have HD:=au hd
         clear hpf xg rF hpp hd
         generalize hpq:z2.coll.phase=pk at *
         by_cases hk:pk=u
         ·subst hk
          have hpn2:iO ph pk=ph:=by rw [vF.out,if_neg (by simp)]
          have HST:Hid (iF w W o G gs q (.slice ma j mc) (N+1+(t+1)*(j+1)) W7 o6 z2 fv (.slice (some ⟨bp,0,none⟩) (d+1) cp) fr (iO ph pk)):=by show iF _ _ _ _ _ _ _ _ _ _ _ _ _ _ _;rw [hpn2];exact jo.out
          have y2:=jY.out.cell 2 rfl
          have y5:=jY.out.cell 5 rfl
          have HQ:Hid (iO ph pk≠[]/\(iO ph pk).length<=ph.length+1):=rE HT.out.1
          have uK:=jY
          have Gv:=pU
          clear hpn2 vF jY pU jo
          go_wp2_with fail
          go_ret3
          exact nN.out _ _ _ _ _ _ _ _ (by rw [<- HT.out.2.2.2,Cb.out,vk.out.1,vk.out.2];rfl) (HST.out.more Nu.out)
         ·have hkN:decide (pk=u)=false:=decide_eq_false hk
          have hpn2:iO ph pk=ph++[pk]:=by rw [vF.out,if_pos hk]
          obtain ⟨W9,mD⟩:∃ W9,W9=W7.alloc (.cells #[ah (pk:Int)] 3):=⟨_,rfl⟩
          have k9:Keep none_ W7 W9:=by rw [mD];exact (Keep.refl _ _).alloc _
          have hb9:aA W9 W7.heap.size [ah (pk:Int)] 3:=by rw [mD];exact aA.new W7 _ _
          obtain ⟨b10,cap10,pI,hrun10,o10,hs10,k10,eo10⟩:=(jo.out.still k9).Ky (hb9.cell 0 rfl) (by have:=HT.out.2.2.1;have:=sJ.out;have hm3:t<=t*(j+1):=Nat.le_mul_of_pos_right _ (by omega);omega)
          rw [mD,HD.out] at hrun10
          rw [HD.out] at hs10
          have uK:Hid (aA pI w6.heap.size [ah 0,ah (e.who:Int),ah 4,ah (e.op:Int),ah e.code,ah (e.value:Int)] 37):=k10.blk (k9.blk jY.out (fun f=>f)) (bI pU.out rfl)
          have Gv:Hid (o10 w6.heap.size=0):=(eo10 _ (k9.blk jY.out (fun f=>f)).lt).trans pU.out
          have HST:Hid (iF w W o G gs q (.slice ma j mc) (N+1+(t+1)*(j+1)) pI o10 z2 fv (.slice (some ⟨b10,0,none⟩) (d+1+1) cap10) fr (iO ph pk)):=by show iF _ _ _ _ _ _ _ _ _ _ _ _ _ _ _;rw [hpn2];exact hs10
          have y2:=uK.out.cell 2 rfl
          have y5:=uK.out.cell 5 rfl
          have HQ:Hid (iO ph pk≠[]/\(iO ph pk).length<=ph.length+1):=rE HT.out.1
          clear hpn2 vF k9 hb9 hs10 k10 eo10 mD jY pU jo
          go_wp2_with fail
          go_ret3
          exact nN.out _ _ _ _ _ _ _ _ (by rw [<- HT.out.2.2.2,Cb.out,vk.out.1,vk.out.2];rfl) (HST.out.more Nu.out)
        ·have vk:Hid (Wu (some e)=false/\Oa (some e) fr=fr):=⟨by show (e.kind==4)=false;simpa using hk4,by show (if e.kind=5 then _ else _)=_;rw [if_neg hk5]⟩
         obtain ⟨kk,hkk⟩:∃ kk,kk=e.kind:=⟨_,rfl⟩
         have aeu:((kk:Int)==5)=false:=by simp;omega
         have aev:((kk:Int)==4)=false:=by simp;omega
         have aew:decide (kk=5)=false:=decide_eq_false (by omega)
         have aex:decide (kk=4)=false:=decide_eq_false (by omega)
         have hag:kX (some e) = .agg #[ah 0,ah (e.who:Int),ah (kk:Int),ah (e.op:Int),ah e.code,ah (e.value:Int)]:=by rw [hkk];rfl
         have htl:jq (some e) = .bool true:=rfl
         rw [hag,htl]
         clear hkk hk5 hk4
         obtain ⟨W7,iG⟩:∃ W7,W7=w6.alloc (.cells #[ah 0,ah (e.who:Int),ah (kk:Int),ah (e.op:Int),ah e.code,ah (e.value:Int)] 37):=⟨_,rfl⟩
         have k7:Keep none_ w6 W7:=by rw [iG];exact (Keep.refl _ _).alloc _
         have hb7:aA W7 w6.heap.size [ah 0,ah (e.who:Int),ah (kk:Int),ah (e.op:Int),ah e.code,ah (e.value:Int)] 37:=by rw [iG];exact aA.new w6 _ _
         have ho7:o6 w6.heap.size=0:=hs6.cw.coll.sh.fC _ (Nat.le_refl _)
         have hs7:=hs6.still k7
         have xg:Hid (Calls ay 17 #[aj q.C] W7 fun e w'=>e = .returned (ah (z2.coll.phase:Int))/\W7=w'):=oH hs7.cw.coll
         have jo:=au hs7
         have jY:=au hb7
         have rF:=au iG
         have pU:=au ho7
         clear hs6 hs7 hb7 k7 iG ho7 A8
         go_wp2_with fail
         rw [<- rF.out]
         refine xg.out.mono ?_
         rintro e w8 ⟨rfl,rfl⟩
         obtain ⟨ap,cp,e3,hpf⟩:=jo.out.p.form
         have hpp:0<ph.length:=List.length_pos_iff.2 HT.out.1
         obtain ⟨d,hd⟩:∃ d,ph.length=d+1:=⟨ph.length - 1,by omega⟩
         obtain ⟨bp,e4,hcp⟩:=hpf (ph.length - 1) u hu
         rw [show ph.length - 1=d by omega] at hcp
         cases e4
         rw [hd] at e3
         cases e3
         have ht9:t<=1000000000:=by have:=sJ.out;have hm3:t<=t*(j+1):=Nat.le_mul_of_pos_right _ (by omega);omega
         have Zl:(d:Int)<=1000000000:=by have:=HT.out.2.2.1;have:=sJ.out;have hm3:t<=t*(j+1):=Nat.le_mul_of_pos_right _ (by omega);omega
         have hd0:(0:Int)<=(d:Int):=by omega
         have HD:=au hd
         clear hpf xg rF hpp hd
         generalize hpq:z2.coll.phase=pk at *
         by_cases hk:pk=u
         ·subst hk
          have hpn2:iO ph pk=ph:=by rw [vF.out,if_neg (by simp)]
          have HST:Hid (iF w W o G gs q (.slice ma j mc) (N+1+(t+1)*(j+1)) W7 o6 z2 fv (.slice (some ⟨bp,0,none⟩) (d+1) cp) fr (iO ph pk)):=by show iF _ _ _ _ _ _ _ _ _ _ _ _ _ _ _;rw [hpn2];exact jo.out
          have y2:=jY.out.cell 2 rfl
          have y5:=jY.out.cell 5 rfl
          have HQ:Hid (iO ph pk≠[]/\(iO ph pk).length<=ph.length+1):=rE HT.out.1
          have uK:=jY
          have Gv:=pU
          clear hpn2 vF jY pU jo
          go_wp2_with fail
          exact ⟨⟨t+1,z2,fr,iO ph pk,_,_,_,rfl,rfl,by omega,by go_num,HST.out,HQ.out.1,by have:=HT.out.2.1;omega,by have:=HT.out.2.2.1;have:=HQ.out.2;omega,hrl,by rw [<- HT.out.2.2.2,Cb.out,vk.out.1,vk.out.2];rfl⟩,by simp [intOf];omega⟩
         ·have hkN:decide (pk=u)=false:=decide_eq_false hk
          have hpn2:iO ph pk=ph++[pk]:=by rw [vF.out,if_pos hk]
          obtain ⟨W9,mD⟩:∃ W9,W9=W7.alloc (.cells #[ah (pk:Int)] 3):=⟨_,rfl⟩
          have k9:Keep none_ W7 W9:=by rw [mD];exact (Keep.refl _ _).alloc _
          have hb9:aA W9 W7.heap.size [ah (pk:Int)] 3:=by rw [mD];exact aA.new W7 _ _
          obtain ⟨b10,cap10,pI,hrun10,o10,hs10,k10,eo10⟩:=(jo.out.still k9).Ky (hb9.cell 0 rfl) (by have:=HT.out.2.2.1;have:=sJ.out;have hm3:t<=t*(j+1):=Nat.le_mul_of_pos_right _ (by omega);omega)
          rw [mD,HD.out] at hrun10
          rw [HD.out] at hs10
          have uK:Hid (aA pI w6.heap.size [ah 0,ah (e.who:Int),ah (kk:Int),ah (e.op:Int),ah e.code,ah (e.value:Int)] 37):=k10.blk (k9.blk jY.out (fun f=>f)) (bI pU.out rfl)
          have Gv:Hid (o10 w6.heap.size=0):=(eo10 _ (k9.blk jY.out (fun f=>f)).lt).trans pU.out
          have HST:Hid (iF w W o G gs q (.slice ma j mc) (N+1+(t+1)*(j+1)) pI o10 z2 fv (.slice (some ⟨b10,0,none⟩) (d+1+1) cap10) fr (iO ph pk)):=by show iF _ _ _ _ _ _ _ _ _ _ _ _ _ _ _;rw [hpn2];exact hs10
          have y2:=uK.out.cell 2 rfl
          have y5:=uK.out.cell 5 rfl
          have HQ:Hid (iO ph pk≠[]/\(iO ph pk).length<=ph.length+1):=rE HT.out.1
          clear hpn2 vF k9 hb9 hs10 k10 eo10 mD jY pU jo
          go_wp2_with fail
          exact ⟨⟨t+1,z2,fr,iO ph pk,_,_,_,rfl,rfl,by omega,by go_num,HST.out,HQ.out.1,by have:=HT.out.2.1;omega,by have:=HT.out.2.2.1;have:=HQ.out.2;omega,hrl,by rw [<- HT.out.2.2.2,Cb.out,vk.out.1,vk.out.2];rfl⟩,by simp [intOf];omega⟩
  ·obtain rfl:t=most:=by omega
   have Qn:¬ (t:Int)<(t:Int):=by omega
   have HE:=au (nN.out wr fv pv fr ph false z o3 (by rw [<- hrun,Nat.sub_self];rfl) hs)
   clear hs hrun mV hfl hpl
   go_wp2_with fail
   go_ret3
   exact HE.out
end
end
section
structure acV (ph:List Nat):Prop where
 ne:ph≠[]
 lt:∀ a∈ph,a<8
 may:∀ (i a b:Nat),ph[i]?=some a->ph[i+1]?=some b->a≠b/\tJ a b=true
section
variable {p:CP} {x y z:WS} {m:MS} {i n R mu bl ce κ:Nat} {dead fr ph:List Nat}
theorem Gw (y:WS) {n:Nat} (hn:y.muts.length=n):(bP y n).s=(bM y.s y.coll).s/\(bP y n).muts=y.muts/\(bP y n).coll=(bM y.s y.coll).c:=by
 unfold bP
 rw [List.getElem?_eq_none (by omega)]
 simp only
 rw [if_pos hn.symm]
 obtain ⟨e1,e2,e3,_⟩:=WS.nP { y with s:=(bM y.s y.coll).s,coll:=(bM y.s y.coll).c } (bM y.s y.coll).ev
 exact ⟨e1,e2,e3⟩
theorem MR.all (g:DW p R) (h:jD p x dead):∀ j,j<=p.mu->MR p R dead x (aO j x) j
 | 0,_=>MR.first h
 | j+1,hj=>((MR.all g h j (by omega)).next g (by omega)).1
structure aey (p:CP) (x0:WS) (out ph:List Nat) (z:WS):Prop where
 jm:oN p.mu p.bl p.ce p.κ z
 bn:∀ a,z.s.H.bn a=true↔p.gZ a
 nd:out.Nodup
 dd:∀ a,a∈out↔p.H.bn a=true/\¬ p.gZ a
 path:acV ph
 regs:∀ (i:Nat) (m:MS),z.muts[i]?=some m->m.regs=p.regs i
 jg:∀ a,p.gZ a->z.s.H.aV a=p.H.aV a/\∀ j:Nat,z.s.H.bY a (j:Int)=p.H.bY a (j:Int)
 geo:z.s.H.K=p.H.K/\z.s.H.b=p.H.b/\z.s.H.ww=p.H.ww/\z.s.H.c=p.H.c/\z.s.H.cells=p.H.cells
 cnt:z.coll.wish=x0.coll.wish/\z.coll.cycles=x0.coll.cycles
 dr:jL x0.coll->jL z.coll
theorem TQ (h:jD p y dead):tJ y.coll.phase (bM y.s y.coll).c.phase=true/\(jL y.coll->jL (bM y.s y.coll).c)/\(bM y.s y.coll).c.wish=y.coll.wish/\(bM y.s y.coll).c.cycles=y.coll.cycles:=by
 have e:bM y.s y.coll=⟨(aC y.s y.coll y.coll.next).s,{ (aC y.s y.coll y.coll.next).c with next:=(aC y.s y.coll y.coll.next).next },(aC y.s y.coll y.coll.next).next,(aC y.s y.coll y.coll.next).ev⟩:=by
  unfold bM
  rw [h.busy];rfl
 obtain ⟨h1,h2⟩:=Po h _ rfl
 obtain ⟨h3,h4,_⟩:=Wp y.s y.coll y.coll.next
 rw [e]
 exact ⟨h1,h2,h3,h4⟩
theorem Yz {c:CS} (h:c.phase=1) (hc:c.cycles<=c.drains+1):jL c:=by
 unfold jL
 rw [h,if_neg (by omega)]
 exact hc
theorem JJ {c:CS} (h:c.phase=0) (hc:jL c):c.cycles<=c.drains:=by
 unfold jL at hc
 rw [h,if_pos (by omega)] at hc
 exact hc
theorem oN.Zm (h:oN mu bl ce κ x):∀ j,j<=mu->oN mu bl ce κ (aO j x)/\(aO j x).s=x.s/\(aO j x).coll=x.coll/\∀ i:Nat,((aO j x).muts[i]?).map MS.regs=(x.muts[i]?).map MS.regs
 | 0,_=>⟨h,rfl,rfl,fun _=>rfl⟩
 | j+1,hj=>by
   obtain ⟨h1,h2,h3,h4⟩:=oN.Zm h j (by omega)
   obtain ⟨m,hm⟩:∃ m,(aO j x).muts[j]?=some m:=⟨(aO j x).muts[j]'(by rw [h1.muts];omega),List.getElem?_eq_getElem _⟩
   have hlt:=(List.getElem?_eq_some_iff.1 hm).1
   obtain ⟨e,h5⟩:=h1.H9 hm
   obtain ⟨e1,e2,e3⟩:=rC (aO j x) hm
   rw [e] at e1 e2
   refine ⟨h5.congr e1 e2 (by rw [show (aO (j+1) x).coll=(aO j x).coll from e3];exact ⟨rfl,rfl,rfl,rfl,rfl,rfl,rfl,rfl⟩),e1.trans h2,e3.trans h3,fun i=>?_⟩
   show ((bP (aO j x) j).muts[i]?).map MS.regs=_
   rw [e2,<- h4 i]
   by_cases ei:i=j
   ·subst ei
    rw [List.getElem?_set_self hlt,hm];rfl
   ·rw [List.getElem?_set_ne (fun e=>ei e.symm)]
end
def yX:qI:=⟨⟨0,0,0,0,1,0,0⟩,[1,1],[],[1],[]⟩
theorem Oc:Dh yX=[1,3]:=by decide +kernel
def Zn:List Nat × List Nat × Bool × WS:=mW 1 3000 { (fA yX) with coll:={ (fA yX).coll with wish:=true },picks:=(fA yX).picks+1 } [] [0]
theorem aav:Zn.1=[3]/\Zn.2.2.1=true/\Zn.2.2.2.s.H.bn 1=true:=by decide +kernel
end
section
open Go.RowKit
def Gx (zs:List Int) (m:Int):Bool:=zs.any (· == m)
theorem Oe {zs:List Int} {m:Int}:Gx zs m=true↔m∈zs:=by
 simp [Gx]
theorem QE {l:List Int} {j:Nat} (h:j<l.length):l.getD j 0=l[j]:=by
 rw [List.getD_eq_getElem?_getD,List.getElem?_eq_getElem h];rfl
theorem YA (a b:Option Addr) (n m c d:Nat) (xs ys:List Int) (w:World) (hx:fU .i64 w a n xs) (hy:fU .i64 w b m ys) (hn:n<=9223372036854775807) (hm:m<=9223372036854775807) :
 Calls ay 22 #[.slice a n c,.slice b m d] w fun e w'=>e = .returned (.bool (xs==ys))/\Keep none_ w w':=by
 by_cases hl:n=m
 ·subst hl
  have HL:xs.length=n/\ys.length=n:=⟨hx.len,hy.len⟩
  have HLL:=au HL
  clear HL
  go_enter func22,ntmps22
  go_wp2
  go_loopg [5] n (fun g i wr=>∃ k:Nat,g+k=n/\i = ah k/\(∀ j,j<k->xs.getD j 0=ys.getD j 0)/\Keep none_ w wr)
  case atStart=>exact ⟨0,by omega,rfl,fun j hj=>absurd hj (by omega),Keep.refl _ _⟩
  case round =>
   obtain ⟨k,hg,rfl,hr,hk⟩:=hrel
   by_cases hlt:k<n
   ·obtain ⟨ba,oa,rfl,hca⟩:=(hx.below hk).at_ (by omega)
    obtain ⟨bb,ob,rfl,hcb⟩:=(hy.below hk).at_ (by omega)
    have h1:=hca k hlt
    have h2:=hcb k hlt
    have oV:(k:Int)<(n:Int):=by omega
    have hk0:(0:Int)<=(k:Int):=by omega
    by_cases he:xs.getD k 0=ys.getD k 0
    ·have HR:Hid (∀ j,j<k+1->xs.getD j 0=ys.getD j 0):=fun j hj=>by
      rcases Nat.lt_succ_iff_lt_or_eq.1 hj with h|h
      ·exact hr j h
      ·rw [h];exact he
     rw [he] at h1
     generalize ys.getD k 0=y at h1 h2
     clear hca hcb hr he
     go_wp2
     go_quiet (fail)
     go_wp2
     go_roundg (gk - 1)
     case measure=>omega
     case rel=>exact ⟨k+1,by omega,by go_num,HR.out,hk.drewN _⟩
    ·have HE:Hid ((xs==ys)=false):=by
      rw [Hid,beq_eq_false_iff_ne]
      intro e
      exact he (by rw [e])
     have hne:(xs.getD k 0==ys.getD k 0)=false:=by simpa using he
     have hne2:(xs.getD k 0 != ys.getD k 0)=true:=by simpa using he
     generalize xs.getD k 0=x at h1 hne hne2
     generalize ys.getD k 0=y at h2 hne hne2
     clear hca hcb hr he
     go_wp2
     go_quiet (fail)
     go_wp2
     go_ret
     exact ⟨by rw [HE.out];rfl,hk.drewN _⟩
   ·have HE:Hid ((xs==ys)=true):=by
     rw [Hid,beq_iff_eq]
     apply List.ext_getElem
     ·rw [HLL.out.1,HLL.out.2]
     ·intro j h1 h2
      have:=hr j (by have:=HLL.out.1;omega)
      rwa [QE h1,QE h2] at this
    clear hr
    go_wp2
    go_ret
    exact ⟨by rw [HE.out];rfl,hk⟩
 ·have HE:Hid ((xs==ys)=false):=by
   rw [Hid,beq_eq_false_iff_ne]
   intro e
   apply hl
   rw [<- hx.len,<- hy.len,e]
  have h1:((n:Int) != m)=true:=by simp;omega
  have h2:((n:Int)==m)=false:=by simp;omega
  go_enter func22,ntmps22
  go_wp2
  go_ret
  exact ⟨by rw [HE.out];rfl,Keep.refl _ _⟩
end
section
attribute [local go_sem ↓] jT
attribute [local go_sem] Oper.semAt_some
open Go.RowKit
section
variable {o o' o0:Ow} {w w' W W' W0:World} {G:Geo} {gs:List MG} {q:CG} {y:WS} {x:qI} {v:Value} {N i n:Nat} {l:List Nat} {I:List Nat} {e:Ending}
theorem WB (x:qI):sF (fA x):=by
 have key:∀ f (y:WS),sF y->sF (ng f y):=fun f=>by
  induction f with
  | zero=>intro y h;exact h
  | succ f ih =>
    intro y h
    unfold ng
    split
    ·exact h
    ·split
     ·exact h
     ·exact ih _ (rD h 0)
 exact key 300 _ (JC _ _ _)
theorem Dc.get (h:Dc w x e w') (hr:x.rg.length<=20):∃ (o:Ow) (G:Geo) (q:CG) (gs:List MG) (ma:Option Addr) (mc:Nat) (a:Option Addr) (c:Nat),e = .returned (.tuple #[aj G.S,aj q.C,.slice ma gs.length mc,.slice a (Dh x).length c]) /\
 CW w w' o G gs q (fA x)/\oq 300 (fA x)/\sF (fA x)/\iJ o w' (.slice ma gs.length mc) gs/\bC o w' 3 (.slice a (Dh x).length c) (aG (Dh x))/\TM x/\gs.length=x.c.little.m.toNat:=by
 obtain ⟨o,G,q,gs,mv,a,c,rfl,h1,h2,h3,h4⟩:=h
 obtain ⟨ma,mc,rfl,_⟩:=h3.form
 have hI:=Ws x hr h1.coll.sh.heap.inv
 exact ⟨o,G,q,gs,ma,mc,a,c,rfl,h1,h2,WB x,h3,h4,hI,h1.len.trans hI.jm.muts⟩
theorem kZ.cells {a:Option Addr} {c:Nat} (h:kZ i o W (.slice a l.length c) l):fU .i64 W a l.length (l.map fun x:Nat=>(x:Int)):=by
 have e:aG l=(l.map fun x:Nat=>(x:Int)).map (Value.int .i64):=by simp [aG]
 have h1:=h.1
 rw [e] at h1
 obtain ⟨a',c',ee,hi,_⟩:=fU.KG h1
 cases ee
 exact hi
theorem ace (hn:n=1):mW n 3000 (bP (fA yX) ((fA yX).muts.length+1)) [] [(fA yX).coll.phase]=Zn:=by
 rw [hn,pR]
 have hc:(fA yX).coll.phase=0:=by
  obtain ⟨g,_⟩:=JF yX (by decide)
  rw [g.coll];rfl
 rw [hc];rfl
theorem Pq (hL:Laid w):Calls ay 10 #[] w fun e w'=>e = .returned (.bool true)/\Keep none_ w w':=by
 obtain ⟨W1,hW1⟩:∃ W1,W1=((w.alloc (.cells #[.int .u8 1,.int .u8 1] 5)).alloc (.cells #[.int .u8 1] 5)).alloc (.cells #[ah 0,ah 0,ah 0,ah 0,ah 1,ah 0,ah 0,.slice (some ⟨w.heap.size,0,none⟩) 2 2,.slice none 0 0,.slice (some ⟨w.heap.size+1,0,none⟩) 1 1,.slice none 0 0] 26):=⟨_,rfl⟩
 have ka:Keep none_ w (w.alloc (.cells #[.int .u8 1,.int .u8 1] 5)):=(Keep.refl _ _).alloc _
 have kb:Keep none_ w ((w.alloc (.cells #[.int .u8 1,.int .u8 1] 5)).alloc (.cells #[.int .u8 1] 5)):=ka.alloc _
 have k1:Keep none_ w W1:=by rw [hW1];exact kb.alloc _
 have hb1:aA W1 w.heap.size [.int .u8 1,.int .u8 1] 5:=by rw [hW1];exact ((aA.new w [.int .u8 1,.int .u8 1] 5).alloc _).alloc _
 have hb2:aA W1 (w.heap.size+1) [.int .u8 1] 5:=by
  have:=(aA.new (w.alloc (.cells #[.int .u8 1,.int .u8 1] 5)) [.int .u8 1] 5).alloc (.cells #[ah 0,ah 0,ah 0,ah 0,ah 1,ah 0,ah 0,.slice (some ⟨w.heap.size,0,none⟩) 2 2,.slice none 0 0,.slice (some ⟨w.heap.size+1,0,none⟩) 1 1,.slice none 0 0] 26)
  have hsz:∀ X:Obj,(w.alloc X).heap.size=w.heap.size+1:=fun X=>by simp
  rw [hsz] at this
  rw [hW1];exact this
 have hst:BU W1 yX (some ⟨w.heap.size,0,none⟩) none (some ⟨w.heap.size+1,0,none⟩) none 2 0 1 0:=by
  refine ⟨⟨⟨rfl,fun _=>⟨_,0,rfl,fun j hj=>?_⟩⟩,by decide⟩,⟨⟨rfl,fun h=>absurd h (Nat.lt_irrefl 0)⟩,fun x hx=>by cases hx⟩,⟨⟨rfl,fun _=>⟨_,0,rfl,fun j hj=>?_⟩⟩,by decide⟩,⟨⟨rfl,fun h=>absurd h (Nat.lt_irrefl 0)⟩,fun x hx=>by cases hx⟩⟩
  ·rcases (by omega:j=0\/j=1) with rfl|rfl
   ·exact hb1.cell 0 rfl
   ·exact hb1.cell 1 rfl
  ·obtain rfl:j=0:=by omega
   exact hb2.cell 0 rfl
 have NZ:Hid (Calls ay 11 #[uI yX.c (some ⟨w.heap.size,0,none⟩) none (some ⟨w.heap.size+1,0,none⟩) none 2 0 1 0 2 0 1 0] W1 (Dc W1 yX)):=N7 (hL.still k1) hst (by omega) (by omega) (by omega) (by omega)
 have aJ:=au k1
 have HW1:=au hW1
 clear hW1 ka kb k1 hb1 hb2 hst hL
 go_enter func10,ntmps10
 go_wp2_with fail
 rw [<- HW1.out]
 refine NZ.out.mono ?_
 intro e2 w2 hm
 obtain ⟨o,G,q,gs,ma,mc,a,c,rfl,hcw,hok,hfw,hmv,hrow,hI,hgl⟩:=hm.get (by decide)
 rw [Oc] at hrow
 have hl2:(Dh yX).length=2:=by rw [Oc];rfl
 rw [hl2]
 have Gy:Hid (Calls ay 27 #[aj q.C,.slice ma gs.length mc,ah (3000:Int)] w2 fun e w'=>∃ (fa pa:Option Addr) (fc pl pc:Nat),e = .returned (.tuple #[.slice fa 1 fc,.slice pa pl pc,.bool true])/\fU .i64 w' fa 1 [3]/\Keep none_ W1 w'/\w'.cell? ⟨G.S,0,none⟩=some (aj (G.D 0))/\∀ W,Keep none_ w' W->Calls ay 33 #[aj (G.D 0),ah 1] W fun e w''=>e = .returned (.bool true)/\W=w''):=by
  refine (Wy hcw hok hfw hmv 3000 (by omega)).mono ?_
  rintro e w' ⟨fv,pv,o',rfl,hs⟩
  rw [ace (hgl.trans rfl)] at hs ⊢
  obtain ⟨z1,z2,z3⟩:=aav
  rw [z1,z2] at *
  obtain ⟨fa,fc,rfl,_⟩:=hs.f.form
  obtain ⟨pa,pc,rfl,_⟩:=hs.p.form
  refine ⟨fa,pa,fc,_,pc,rfl,hs.f.cells,hs.cw.keep,hs.cw.coll.sh.uD.1,?_⟩
  intro W kW
  have:=CB (hs.cw.coll.sh.heap.still kW) 1
  rw [z3] at this
  exact this
 clear hm hcw hok hfw hmv hrow hI hgl hl2
 go_wp2_with fail
 refine Gy.out.mono ?_
 rintro e w5 ⟨fa,pa,fc,pl,pc,rfl,hF,k5,hS,hIS⟩
 obtain ⟨W6,oL⟩:∃ W6,W6=w5.alloc (.cells #[ah 3] 3):=⟨_,rfl⟩
 have k6:Keep none_ w5 W6:=by rw [oL];exact (Keep.refl _ _).alloc _
 have hb6:aA W6 w5.heap.size [ah 3] 3:=by rw [oL];exact aA.new w5 _ _
 have hI6:fU .i64 W6 (some ⟨w5.heap.size,0,none⟩) 1 [3]:=⟨rfl,fun _=>⟨_,0,rfl,fun j hj=>by
  obtain rfl:j=0:=by omega
  exact hb6.cell 0 rfl⟩⟩
 have VZ:Hid (Calls ay 22 #[.slice fa 1 fc,.slice (some ⟨w5.heap.size,0,none⟩) 1 1] W6 fun e w'=>e = .returned (.bool true)/\Keep none_ W6 w'):=by
  refine (YA fa (some ⟨w5.heap.size,0,none⟩) 1 1 fc 1 [3] [3] W6 (hF.below k6) hI6 (by omega) (by omega)).mono ?_
  rintro e w' ⟨rfl,k⟩
  exact ⟨rfl,k⟩
 have HIS:Hid (∀ W,Keep none_ W6 W->Calls ay 33 #[aj (G.D 0),ah 1] W fun e w''=>e = .returned (.bool true)/\W=w''):=fun W kW=>hIS W (k6.trans kW)
 have HS:Hid (∀ W,Keep none_ W6 W->W.cell? ⟨G.S,0,none⟩=some (aj (G.D 0))):=fun W kW=>kW.still (k6.still hS)
 have Ai:Hid (Keep none_ w W6):=aJ.out.trans (k5.trans k6)
 have HW6:=au oL
 clear hF k5 hIS Gy HW1 aJ NZ hS oL k6 hb6 hI6
 go_wp2_with fail
 rw [<- HW6.out]
 refine VZ.out.mono ?_
 rintro e w7 ⟨rfl,k7⟩
 have hS7:=HS.out w7 k7
 have acf:=au (HIS.out w7 k7)
 have Zo:Hid (Keep none_ w w7):=Ai.out.trans k7
 clear HS HIS Ai HW6 VZ k7
 go_wp2_with fail
 refine acf.out.mono ?_
 rintro e w8 ⟨rfl,rfl⟩
 clear acf hS7
 go_wp2_with fail
 go_ret
 exact ⟨rfl,Zo.out⟩
end
end
section
open Go.RowKit Go.ChangeShapes Go.WideShapes Go.Deep
theorem list11 {α:Type} {l:List α} (h:l.length=11):∃ a b c d e f g s1 s2 s3 s4,l=[a,b,c,d,e,f,g,s1,s2,s3,s4]:=by
 match l,h with
 | [a,b,c,d,e,f,g,s1,s2,s3,s4],_=>exact ⟨a,b,c,d,e,f,g,s1,s2,s3,s4,rfl⟩
theorem qZ.ofInts {w:World} {a:Option Addr} {n:Nat} {zs:List Int} (h:Ints .u8 w a n zs):qZ w a n (zs.map Int.toNat):=by
 have hz:∀ z∈zs,0<=z/\z<256:=fun z hz=>by
  obtain ⟨i,hi,rfl⟩:=List.mem_iff_getElem.1 hz
  have:=h.bound i (by have:=h.len;omega)
  rw [List.getD_eq_getElem?_getD,List.getElem?_eq_getElem hi] at this
  have m1:IntKind.u8.min=0:=rfl
  have m2:IntKind.u8.max=255:=rfl
  simp [Lit.wf] at this
  omega
 have e:(zs.map Int.toNat).map (fun x:Nat=>(x:Int))=zs:=by
  rw [List.map_map]
  conv=>rhs;rw [<- List.map_id zs]
  exact List.map_congr_left (fun z hm=>by have:=hz z hm;show ((z.toNat:Nat):Int)=z;omega)
 refine ⟨by rw [e];exact h.cells,fun x hx=>?_⟩
 obtain ⟨z,hm,rfl⟩:=List.mem_map.1 hx
 have:=hz z hm
 omega
section
variable {H:Type} {enc:TypeId × Value->H} {P:Program} {w:World} {base:Nat} {held:Bool}
theorem zX {t e:TypeId} {fuel:Nat} {v:Value} {x:DataW H × List MemPlace} (ht:P.underlying t=some (.slice e)) (he:P.underlying e=some (.int .u8)) (hc:P.cellsOf e=1) (h:DataW.trod enc P w base (fun _=>true) held fuel t [v]=some x):∃ a n c l,v = .slice a n c/\qZ w a n l:=by
 rcases open_ints ht he hc h with ⟨hcs,_⟩|⟨x,l,c,zs,hcs,_,hl,hm,hz,_,hcell,hwz⟩
 ·simp at hcs
  exact ⟨none,0,0,[],hcs,⟨⟨rfl,fun h=>absurd h (Nat.lt_irrefl 0)⟩,fun x hx=>by cases hx⟩⟩
 ·simp at hcs
  exact ⟨some x,l,c,_,hcs,qZ.ofInts (Ints.ofRow hl (by simpa using hz) hcell hwz)⟩
theorem TR {r:Reach} {b0:Nat} {t e:TypeId} {fs:Array Field} {f0 f1 f2 f3 f4:Field} {v:Value} {d:DataW H} {p:List MemPlace} (hs:P.underlying t=some (.struct fs)) (e0:fs[0]?=some f0) (e1:fs[1]?=some f1) (e2:fs[2]?=some f2) (e3:fs[3]?=some f3) (e4:fs[4]?=some f4)
 (o:f0.offset=0/\f1.offset=7/\f2.offset=8/\f3.offset=9/\f4.offset=10) (k0:flat P 9 f0.type=some [.int .i64,.int .i64,.int .i64,.int .i64,.int .i64,.int .i64,.int .i64]) (c0:P.cellsOf f0.type=7)
 (u:P.underlying f1.type=some (.slice e)) (c1:P.cellsOf f1.type=1) (ty:f2.type=f1.type/\f3.type=f1.type/\f4.type=f1.type) (ue:P.underlying e=some (.int .u8)) (ce:P.cellsOf e=1) (ct:P.cellsOf t=11)
 (hv:Value.okWide P w r b0 t v) (h:DataW.Trod enc P w base (fun _=>true) held t v d p):∃ (x:qI) (a1 a2 a3 a4:Option Addr) (n1 n2 n3 n4 p1 p2 p3 p4:Nat),v=uI x.c a1 a2 a3 a4 n1 n2 n3 n4 p1 p2 p3 p4/\BU w x a1 a2 a3 a4 n1 n2 n3 n4:=by
 obtain ⟨cs,rfl,hsz⟩:=okWide_struct hs hv
 obtain ⟨fuel,hf⟩:=h
 obtain ⟨xs,n,_,_,hl,hxl,hfl⟩:=DataW.trod_struct hs hf
 rw [ct] at hl
 obtain ⟨o0,o1,o2,o3,o4⟩:=o
 obtain ⟨t2,t3,t4⟩:=ty
 have hl':cs.toList.length=11:=hl
 obtain ⟨q0,q1,q2,q3,q4,q5,q6,s1,s2,s3,s4,hc⟩:=list11 hl'
 have hlt:∀ (i:Nat) (f:Field),fs[i]?=some f->∃ x,DataW.trod enc P w base (fun _=>true) held n f.type ((cs.toList.drop f.offset).take (P.cellsOf f.type))=some x:=fun i f hi=>by
  have hlt:i<xs.length:=by rw [hxl];exact (Array.getElem?_eq_some_iff.1 hi).1
  exact ⟨xs[i],by
   have:=hfl i f hi
   rw [List.getElem?_eq_getElem hlt] at this
   exact this⟩
 obtain ⟨x0,g0⟩:=hlt 0 f0 e0
 obtain ⟨x1,g1⟩:=hlt 1 f1 e1
 obtain ⟨x2,g2⟩:=hlt 2 f2 e2
 obtain ⟨x3,g3⟩:=hlt 3 f3 e3
 obtain ⟨x4,g4⟩:=hlt 4 f4 e4
 rw [hc,o0,c0] at g0
 rw [hc,o1,c1] at g1
 rw [hc,o2,t2,c1] at g2
 rw [hc,o3,t3,c1] at g3
 rw [hc,o4,t4,c1] at g4
 have hF:=ZC 9 n _ _ _ _ g0 k0
 obtain ⟨a1,n1,p1,l1,hs1,hu1⟩:=zX u ue ce g1
 obtain ⟨a2,n2,p2,l2,hs2,hu2⟩:=zX u ue ce g2
 obtain ⟨a3,n3,p3,l3,hs3,hu3⟩:=zX u ue ce g3
 obtain ⟨a4,n4,p4,l4,hs4,hu4⟩:=zX u ue ce g4
 obtain ⟨v0,w0,z0,r0,_⟩:=hF.at_ 0 (.int .i64) rfl
 obtain ⟨v1,w1,z1,r1,_⟩:=hF.at_ 1 (.int .i64) rfl
 obtain ⟨v2,w2,z2,r2,_⟩:=hF.at_ 2 (.int .i64) rfl
 obtain ⟨v3,w3,z3,r3,_⟩:=hF.at_ 3 (.int .i64) rfl
 obtain ⟨v4,w4,z4,r4,_⟩:=hF.at_ 4 (.int .i64) rfl
 obtain ⟨v5,w5,z5,r5,_⟩:=hF.at_ 5 (.int .i64) rfl
 obtain ⟨v6,w6,z6,r6,_⟩:=hF.at_ 6 (.int .i64) rfl
 refine ⟨⟨⟨z0,z1,z2,z3,z4,z5,z6⟩,l1,l2,l3,l4⟩,a1,a2,a3,a4,n1,n2,n3,n4,p1,p2,p3,p4,?_,⟨hu1,hu2,hu3,hu4⟩⟩
 have e:cs=#[q0,q1,q2,q3,q4,q5,q6,s1,s2,s3,s4]:=by
  have:=congrArg List.toArray hc
  simpa using this
 have w0':some q0=some v0:=w0
 have w1':some q1=some v1:=w1
 have w2':some q2=some v2:=w2
 have w3':some q3=some v3:=w3
 have w4':some q4=some v4:=w4
 have w5':some q5=some v5:=w5
 have w6':some q6=some v6:=w6
 cases w0';cases w1';cases w2';cases w3';cases w4';cases w5';cases w6'
 rw [e,r0,r1,r2,r3,r4,r5,r6,hs1,hs2,hs3,hs4]
end
end
section
attribute [local go_sem] Oper.semAt_some
open Go.RowKit
theorem YB {rest : List (String × DataW Unit)} {w : World} (h : laidMet ay (("math/bits.deBruijn64tab", Rows.laid_math_bits_deBruijn64tab) :: rest) w) : lT w := by
 obtain ⟨ps,⟨g,t,cs,fuel,p,q,hg,ht,hvar,hd,_,_⟩,_⟩:=h
 obtain rfl : 1 = g := Option.some.inj ((show ay.globalNamed "math/bits.deBruijn64tab" = some 1 by kernel_rfl).symm.trans hg)
 obtain rfl:214=t:=Option.some.inj ((show (ay.globals[1]?).map (·.type)=some 214 by kernel_rfl).symm.trans ht)
 obtain ⟨cs,rfl⟩:∃ l:List Value,cs=l.toArray:=⟨cs.toList,by simp⟩
 have e:cs=(Lib.deBruijn64tab.map fun x:Nat=>(x:Int)).map (Value.int .u8):=Lib.cells_of_tab (zs:=Lib.deBruijn64tab.map fun x:Nat=>(x:Int)) (show ay.underlying 214=some (.array 64 5) by kernel_rfl) (show ay.underlying 5=some (.int .u8) by kernel_rfl) (by kernel_rfl) (by kernel_rfl) hd
 intro j hj
 rw [World.var?_cell (P:=ay) hg hvar j,e]
 rw [List.getD_eq_getElem?_getD,List.getElem?_eq_getElem hj]
 simp [hj]
def Cc (n1 n2 n3 n4:Nat):Bool:=decide (30<n1)||decide (100<n2)||decide (20<n3)||decide (20<n4)
theorem WC {n1 n2 n3 n4:Nat} (h:Cc n1 n2 n3 n4=false):n1<=30/\n2<=100/\n3<=20/\n4<=20:=by
 unfold Cc at h
 simp only [Bool.or_eq_false_iff,decide_eq_false_iff_not] at h
 omega
section
variable {w:World} {c:aK} {a1 a2 a3 a4:Option Addr} {n1 n2 n3 n4 p1 p2 p3 p4:Nat}
theorem WE (c:aK) (a1 a2 a3 a4:Option Addr) (n1 n2 n3 n4 p1 p2 p3 p4:Nat) (w:World):Calls ay 9 #[uI c a1 a2 a3 a4 n1 n2 n3 n4 p1 p2 p3 p4] w fun e w'=>e = .returned (.bool (Cc n1 n2 n3 n4))/\Keep none_ w w':=by
 obtain ⟨W0,hW0⟩:∃ W0,W0=w.alloc (.cells #[ah c.b,ah c.w,ah c.m,ah c.r,ah c.c,ah c.l,ah c.s,.slice a1 n1 p1,.slice a2 n2 p2,.slice a3 n3 p3,.slice a4 n4 p4] 26):=⟨_,rfl⟩
 have k0:Keep none_ w W0:=by rw [hW0];exact (Keep.refl _ _).alloc _
 have hb:aA W0 w.heap.size [ah c.b,ah c.w,ah c.m,ah c.r,ah c.c,ah c.l,ah c.s,.slice a1 n1 p1,.slice a2 n2 p2,.slice a3 n3 p3,.slice a4 n4 p4] 26:=by rw [hW0];exact aA.new w _ _
 have y7:=hb.cell 7 rfl;have y8:=hb.cell 8 rfl;have y9:=hb.cell 9 rfl;have y10:=hb.cell 10 rfl
 have dN:=au k0
 rw [hW0] at y7 y8 y9 y10
 rw [hW0] at dN
 unfold Cc
 clear hb hW0 k0
 by_cases h1:30<n1
 ·have hI:(30:Int)<(n1:Int):=by omega
  rw [decide_eq_true h1]
  go_enter func9,ntmps9
  go_wp2_with fail
  go_ret
  exact ⟨rfl,dN.out⟩
 ·have hI:¬ (30:Int)<(n1:Int):=by omega
  rw [decide_eq_false h1]
  by_cases h2:100<n2
  ·have hI2:(100:Int)<(n2:Int):=by omega
   rw [decide_eq_true h2]
   go_enter func9,ntmps9
   go_wp2_with fail
   go_ret
   exact ⟨rfl,dN.out⟩
  ·have hI2:¬ (100:Int)<(n2:Int):=by omega
   rw [decide_eq_false h2]
   by_cases h3:20<n3
   ·have YO:(20:Int)<(n3:Int):=by omega
    rw [decide_eq_true h3]
    go_enter func9,ntmps9
    go_wp2_with fail
    go_ret
    exact ⟨rfl,dN.out⟩
   ·have YO:¬ (20:Int)<(n3:Int):=by omega
    rw [decide_eq_false h3]
    by_cases h4:20<n4
    ·have hI4:(20:Int)<(n4:Int):=by omega
     rw [decide_eq_true h4]
     go_enter func9,ntmps9
     go_wp2_with fail
     go_ret
     exact ⟨rfl,dN.out⟩
    ·have hI4:¬ (20:Int)<(n4:Int):=by omega
     rw [decide_eq_false h4]
     go_enter func9,ntmps9
     go_wp2_with fail
     go_ret
     exact ⟨rfl,dN.out⟩
end
end
end Go.Proofs.YtanfphjoebobaaaGreatDoor
