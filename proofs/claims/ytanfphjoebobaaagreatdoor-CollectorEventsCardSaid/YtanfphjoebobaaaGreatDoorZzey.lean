/- Parts of the walk. No conditions. -/
import Derived.Test.YtanfphjoebobaaaGreatDoorZzex
namespace Go.Proofs.YtanfphjoebobaaaGreatDoor
open _root_.Go.Proofs.Tryz hiding prog
open _root_.Go.Proofs.Tryz renaming prog->ay
set_option maxRecDepth 100000
set_option maxHeartbeats 8000000
section
open Go.RowKit
structure abH (N:Nat) (R:World->World->Prop):Prop where
 trans:∀ {A B C:World},R A B->R B C->R A C
 put:∀ (W:World) (L:Nat) (o o':Obj),N<=L->W.heap[L]?=some o->o.isCells=false->o'.isCells=false->R W (W.putObj L o')
def SV {α:Type} (F:Fence) (n:Nat) (P:Program) (g:Nat) (lb:Array Value) (all:List α) (Enc:World->α->Array Value->Prop) (R:World->World->Prop) (w:World):Prop :=
 ∀ (l:Nat) (J Jx:Nat->World->Prop) (W:World),Keep none_ w W->(∀ k,J9 (J k))->(∀ k,J9 (Jx k)) ->
  (∀ (k:Nat) (x:α) (args:Array Value) (W1:World),all[k]?=some x->J k W1->Enc W1 x args->YieldAt F (n - 1) P l args W1 fun e W' =>
   (e = .returned (.bool true)/\J (k+1) W'/\R W1 W')\/(e = .returned (.bool false)/\Jx (k+1) W')) ->
  J 0 W ->
  CallsIn F n P g (#[.func (.yield l) #[] #[]]++lb) W fun e W'=>(∃ v,e = .returned v)/\(J all.length W'\/∃ k,k<=all.length/\Jx k W')
def VW (B:Nat) (R:World->World->Prop) (I:Nat->World->Prop) (Ix:Code->Nat->World->Prop) (k:Nat) (W:World):Exit->Act->World->Prop
 | .normal,_,W'=>KeepsFrom B W W'/\R W W'/\I k W'
 | .ret,_,W'=>KeepsFrom B W W'/\Ix .ret k W'
 | .exit id,_,W'=>KeepsFrom B W W'/\Ix (.exit id) k W'
 | .goto t,_,W'=>KeepsFrom B W W'/\Ix (.goto t) k W'
 | .panic _,_,_=>False
 | .outgrown,_,_=>False
variable {F:Fence} {n:Nat} {P:Program}
theorem Yj {α:Type} {g:Operand} {ps:Array Tmp} {assign body:Code} {Q:Exit->Act->World->Prop} {a:Act} {w:World}
 (hro:F.round=none) (h1:1<=n) {gf:Nat} {lb:Array Value} (hg:a.eval g = .func (.func gf) #[] lb) (hFg:F.fn gf) (eg:∀ args w,(callFunc gf args).run P w = .ok (.enter gf args) w)
 {all:List α} {Enc:World->α->Array Value->Prop} {R:World->World->Prop} {N:Nat} (hN:N<=w.heap.size) (hR:abH N R) (hseq:SV F (n - 1) P gf lb all Enc R w)
 (hps:∀ W x args,Enc W x args->args.size=ps.size)
 (I:Nat->World->Prop) (Ix:Code->Nat->World->Prop) (hI:OwnFrom w.heap.size I) (hIx:∀ c,OwnFrom w.heap.size (Ix c)) (h0:I 0 w)
 (KE:∀ (l:Nat) (k:Nat) (x:α) (args:Array Value) (W:World),all[k]?=some x->Enc W x args->I k W ->
  assign.wpIn (F.inRound l) (n - 1 - 1) P (Exit.then (fun a₁ W₁=>∃ J:World->Prop,KeepsFrom w.heap.size W W₁/\R W W₁/\J W₁/\OwnFrom w.heap.size (fun (_:Unit) W=>J W) /\
   ∀ W₂,J W₂->body.wpIn (F.inRound l) (n - 1 - 1) P (VW w.heap.size R I Ix (k+1) W₂) a₁ W₂) (fun _ _ _=>False))
   { tmps:=(ps.zip args).foldl (fun t (p,v)=>t.setIfInBounds p v) a.tmps,defers:=[] } W)
 (hdone:∀ (D:Nat) (W:World),w.heap.size<=D->I all.length W->W.heap[D]?=some (.deferred (some []))->Q .normal { a with defers:={ target := .collected D,args:=#[] }::a.defers } W)
 (hstop:∀ (D:Nat) (c:Code) (k:Nat) (W:World),w.heap.size<=D->k<=all.length->Ix c k W->W.heap[D]?=some (.deferred (some []))->c.wpIn F n P Q { a with defers:={ target := .collected D,args:=#[] }::a.defers } W) :
 (Code.rangeFunc g ps assign body).wpIn F n P Q a w:=by
 refine wpIn_rangeFunc fun fn hfn=>?_
 rw [hro]
 let lK:LoopState->Option Code->Loop:=fun st pe=>{ state:=st,pending:=pe,fn,tmps:=a.tmps,params:=ps,assign,body,defers:=w.heap.size }
 let D:=w.heap.size
 let L:=w.heap.size+1
 have hNL:N<=L:=by simp [L];omega
 let W1:=(w.alloc (.deferred (some []))).alloc (.loop (lK .ready none))
 have Ug:Keep none_ w W1:=((Keep.refl _ _).alloc _).alloc _
 have sW1:W1.heap.size=w.heap.size+2:=by simp [W1]
 have eL:W1.heap[L]?=some (.loop (lK .ready none)):=by
  have:=World.alloc_heap_new (w.alloc (.deferred (some []))) (.loop (lK .ready none))
  rwa [World.size_alloc] at this
 have eD:W1.heap[D]?=some (.deferred (some [])):=(Below.heap_alloc _ _ _ (by simp [D])).trans (World.alloc_heap_new w _)
 have grow:∀ {β:Type} {B:Nat} {K:β->World->Prop},OwnFrom B K->∀ {s:β} {A C:World},K s A->Keep none_ A C->K s C:=by
  intro β B K hK s A C hs k
  exact hK s A C none hs ⟨k.os,k.tape,k.output,k.size,fun i hi _=>k.block i hi (fun f=>f)⟩ (fun _ e=>by cases e)
 refine ⟨L,[{ target := .collected D,args:=#[] }],W1,{ target := .fn (.func gf) lb,args:=#[.func (.yield L) #[] #[]] },W1,gf,#[.func (.yield L) #[] #[]]++lb,W1,run_enterLoop_outer _ _ _ _ _,?_,?_,?_,fun _=>h1,?_⟩
 ·simp only [resolve,hg];simp [go_sem]
 ·intro f' hf';simp [Target.leads] at hf';subst hf';exact hFg
 ·simp [invoke,go_sem,eg]
 refine (hseq L (fun k W=>I k W/\W.heap[L]?=some (.loop (lK .ready none))/\W.heap[D]?=some (.deferred (some [])))
  (fun k W=>∃ c,Ix c k W/\W.heap[L]?=some (.loop (lK .done (some c)))/\W.heap[D]?=some (.deferred (some []))) W1 Ug ?_ ?_ ?_ ⟨grow hI h0 Ug,eL,eD⟩).mono ?_
 ·rintro k A C ⟨h,hl,hd⟩ kk
  exact ⟨grow hI h kk,(kk.block L (Array.getElem?_eq_some_iff.1 hl).1 (fun f=>f)).trans hl,(kk.block D (Array.getElem?_eq_some_iff.1 hd).1 (fun f=>f)).trans hd⟩
 ·rintro k A C ⟨c,h,hl,hd⟩ kk
  exact ⟨c,grow (hIx c) h kk,(kk.block L (Array.getElem?_eq_some_iff.1 hl).1 (fun f=>f)).trans hl,(kk.block D (Array.getElem?_eq_some_iff.1 hd).1 (fun f=>f)).trans hd⟩
 ·
  rintro k x args W hx ⟨hi,hl,hd⟩ henc
  refine ⟨fn,_,assign,body,run_yield hl (hps _ _ _ henc),roundIn_of_wpIn hfn (wpIn_mono (KE L k x args W hx henc hi) ?_)⟩
  rintro e a1 Wa hp1
  cases e<;>try exact hp1.elim
  obtain ⟨Jr,kr,gr,jr,hJr,hbd⟩:=hp1
  have hla:=kr.same L _ (by simp [L]) hl rfl
  have hda:=kr.same D _ (Nat.le_refl _) hd rfl
  have hlt:=(Array.getElem?_eq_some_iff.1 hla).1
  refine ⟨_,run_beginRound hla rfl,?_⟩
  let W2:=Wa.putObj L (.loop { lK .ready none with state := .busy })
  have hl2:W2.heap[L]?=some (.loop { lK .ready none with state := .busy }):=World.putObj_heap_same hlt
  have hd2:W2.heap[D]?=some (.deferred (some [])):=(World.putObj_heap_other (by simp [D,L])).trans hda
  have hj2:Jr W2:=hJr.putObj (s:=()) _ jr (by simp [L]) hla rfl
  refine wpIn_mono (hbd W2 hj2) ?_
  have fin:∀ (j:Option Code) (W3:World),KeepsFrom w.heap.size W2 W3->∃ W4:World,(Instr.endRound L j).run P W3 = .ok (.bool j.isNone) W4/\W4=W3.putObj L (.loop (lK (if j.isNone then .ready else .done) j)) /\
   (∃ o:Obj,W3.heap[L]?=some o/\o.isCells=false)/\W4.heap[L]?=some (.loop (lK (if j.isNone then .ready else .done) j))/\W4.heap[D]?=some (.deferred (some [])):=fun j W3 k3=>by
   have hl3:=k3.same L _ (by simp [L]) hl2 rfl
   exact ⟨_,run_endRound j hl3,rfl,⟨_,hl3,rfl⟩,World.putObj_heap_same (Array.getElem?_eq_some_iff.1 hl3).1,(World.putObj_heap_other (by simp [D,L])).trans (k3.same D _ (Nat.le_refl _) hd2 rfl)⟩
  rintro e a3 W3 hp
  cases e with
  | normal =>
    obtain ⟨k3,g3,i3⟩:=hp
    obtain ⟨W4,hr,rfl,⟨o,ho,hoc⟩,hl4,hd4⟩:=fin none W3 k3
    exact ⟨_,_,hr,.inl ⟨rfl,⟨hI.putObj _ i3 (by simp [L]) ho hoc,hl4,hd4⟩,hR.trans (hR.trans (hR.trans gr (hR.put Wa L _ _ hNL hla rfl rfl)) g3) (hR.put W3 L o _ hNL ho hoc rfl)⟩⟩
  | ret =>
    obtain ⟨k3,i3⟩:=hp
    obtain ⟨W4,hr,rfl,⟨o,ho,hoc⟩,hl4,hd4⟩:=fin (some .ret) W3 k3
    exact ⟨_,_,hr,.inr ⟨rfl,.ret,(hIx _).putObj _ i3 (by simp [L]) ho hoc,hl4,hd4⟩⟩
  | exit id =>
    obtain ⟨k3,i3⟩:=hp
    obtain ⟨W4,hr,rfl,⟨o,ho,hoc⟩,hl4,hd4⟩:=fin (some (.exit id)) W3 k3
    exact ⟨_,_,hr,.inr ⟨rfl,.exit id,(hIx _).putObj _ i3 (by simp [L]) ho hoc,hl4,hd4⟩⟩
  | goto t =>
    obtain ⟨k3,i3⟩:=hp
    obtain ⟨W4,hr,rfl,⟨o,ho,hoc⟩,hl4,hd4⟩:=fin (some (.goto t)) W3 k3
    exact ⟨_,_,hr,.inr ⟨rfl,.goto t,(hIx _).putObj _ i3 (by simp [L]) ho hoc,hl4,hd4⟩⟩
  | panic ch=>exact hp.elim
  | outgrown=>exact hp.elim
 ·
  rintro e W ⟨⟨v,rfl⟩,(⟨hi,hl,hd⟩|⟨k,hk,c,hi,hl,hd⟩)⟩
  ·exact ⟨none,_,run_endLoop hl (by simp [lK]),hdone D _ (Nat.le_refl _) (hI.putObj _ hi (by simp [L]) hl rfl) ((World.putObj_heap_other (by simp [D,L])).trans hd)⟩
  ·exact ⟨some c,_,run_endLoop hl (by simp [lK]),hstop D c k _ (Nat.le_refl _) hk ((hIx c).putObj _ hi (by simp [L]) hl rfl) ((World.putObj_heap_other (by simp [D,L])).trans hd)⟩
end
section
attribute [local go_sem ↓] jT
attribute [local go_sem] Oper.semAt_some
open Go.RowKit
def iw (s:Nat->Bool) (size:Nat):List Nat:=(List.range size).filter s
theorem lC {s:Nat->Bool} {size x:Nat}:x∈iw s size↔x<size/\s x=true:=by simp [iw]
theorem DN (s:Nat->Bool) (size:Nat):(iw s size).Pairwise (· < ·):=(List.pairwise_lt_range (n:=size)).filter _
theorem Ey (s:Nat->Bool) (size:Nat):(iw s size).length<=size:=by
 have h:=List.length_filter_le s (List.range size)
 simpa [iw] using h
theorem vZ {s:Nat->Bool} {size i j:Nat} (h:i<j) (hj:j<(iw s size).length):(iw s size)[i]'(by omega)<(iw s size)[j]:=(List.pairwise_iff_getElem.1 (DN s size)) i j (by omega) hj h
theorem SX {s:Nat->Bool} {size i x y:Nat} (hx:(iw s size)[i]?=some x) (hy:(iw s size)[i+1]?=some y):x<y:=by
 obtain ⟨hi,rfl⟩:=List.getElem?_eq_some_iff.1 hx
 obtain ⟨hj,rfl⟩:=List.getElem?_eq_some_iff.1 hy
 exact vZ (Nat.lt_succ_self i) hj
theorem SY (s:Nat->Bool) (size:Nat):rY s size 0=(iw s size)[0]?:=by
 cases h:(iw s size)[0]? with
 | none =>
   refine xQ (fun j _ hj=>?_)
   rw [Bool.eq_false_iff]
   intro hs
   have hm:j∈iw s size:=lC.2 ⟨hj,hs⟩
   have hl:=List.getElem?_eq_none_iff.1 h
   have hnil:iw s size=[]:=List.eq_nil_of_length_eq_zero (by omega)
   rw [hnil] at hm
   cases hm
 | some x =>
   obtain ⟨h0,hx⟩:=List.getElem?_eq_some_iff.1 h
   have hm:x∈iw s size:=by rw [<- hx];exact List.getElem_mem h0
   obtain ⟨h1,h2⟩:=lC.1 hm
   refine Bo (Nat.zero_le _) h1 h2 (fun j _ hj=>?_)
   rw [Bool.eq_false_iff]
   intro hs
   obtain ⟨i,hi,e⟩:=List.getElem_of_mem (lC.2 ⟨by omega,hs⟩:j∈iw s size)
   rcases Nat.eq_zero_or_pos i with rfl|hp
   ·omega
   ·have:=vZ (s:=s) (size:=size) hp hi;omega
theorem VX {s:Nat->Bool} {size i x:Nat} (hx:(iw s size)[i]?=some x):rY s size (x+1)=(iw s size)[i+1]?:=by
 obtain ⟨hi,rfl⟩:=List.getElem?_eq_some_iff.1 hx
 cases h:(iw s size)[i+1]? with
 | none =>
   refine xQ (fun j hj1 hj=>?_)
   rw [Bool.eq_false_iff]
   intro hs
   obtain ⟨q,hq,e⟩:=List.getElem_of_mem (lC.2 ⟨hj,hs⟩:j∈iw s size)
   have hl:=List.getElem?_eq_none_iff.1 h
   rcases (by omega:q<i\/q=i) with h1|rfl
   ·have:=vZ (s:=s) (size:=size) h1 hi;omega
   ·omega
 | some y =>
   obtain ⟨h0,hy⟩:=List.getElem?_eq_some_iff.1 h
   have hm:y∈iw s size:=by rw [<- hy];exact List.getElem_mem h0
   obtain ⟨h1,h2⟩:=lC.1 hm
   have hlt:(iw s size)[i]<y:=by rw [<- hy];exact vZ (Nat.lt_succ_self i) h0
   refine Bo hlt h1 h2 (fun j hj1 hj2=>?_)
   rw [Bool.eq_false_iff]
   intro hs
   obtain ⟨q,hq,e⟩:=List.getElem_of_mem (lC.2 ⟨by omega,hs⟩:j∈iw s size)
   rcases (by omega:q<i+1\/q=i+1\/i+1<q) with h3|rfl|h3
   ·rcases (by omega:q<i\/q=i) with h4|rfl
    ·have:=vZ (s:=s) (size:=size) h4 hi;omega
    ·omega
   ·omega
   ·have:=vZ (s:=s) (size:=size) h3 hq;omega
structure kG (Ts:List TypeId) (N:Nat) (W W':World):Prop where
 size:W.heap.size<=W'.heap.size
 old:∀ b,b<N->W'.heap[b]?=W.heap[b]?
 blk:∀ b cs T,Ts.contains T=true->aA W b cs T->aA W' b cs T
theorem kG.refl (Ts:List TypeId) (N:Nat) (W:World):kG Ts N W W:=⟨Nat.le_refl _,fun _ _=>rfl,fun _ _ _ _ h=>h⟩
theorem kG.trans {Ts:List TypeId} {N:Nat} {A B C:World} (h:kG Ts N A B) (k:kG Ts N B C):kG Ts N A C:=⟨Nat.le_trans h.size k.size,fun b hb=>(k.old b hb).trans (h.old b hb),fun b cs T' hT hb=>k.blk b cs T' hT (h.blk b cs T' hT hb)⟩
theorem kG.rel (Ts:List TypeId) (N:Nat):abH N (kG Ts N):=⟨kG.trans,fun W L o o' hL ho hc _=>⟨by simp,fun b hb=>World.putObj_heap_other (by omega),fun b cs T' _ hb=>hb.putObj ho hc⟩⟩
theorem kG.set {Ts:List TypeId} {N:Nat} {W W':World} {B X size:Nat} {ws:List Nat} (h:kG Ts N W W') (h1:Ts.contains 149=true) (h2:Ts.contains 146=true) (hs:fH W B X size ws):fH W' B X size ws:=by
 obtain ⟨⟨cap,hb⟩,⟨cur,hc,hv⟩,hl,hlt,hsz⟩:=hs
 exact ⟨⟨cap,h.blk _ _ _ h1 hb⟩,⟨cur,h.blk _ _ _ h2 hc,hv⟩,hl,hlt,hsz⟩
theorem kG.tab {Ts:List TypeId} {N:Nat} {W W':World} (h:kG Ts N W W') (hN:1<N) (hs:lT W):lT W':=fun j hj=>by
 rw [World.cell?_of_block (w:=W) (h.old _ hN)];exact hs j hj
def S9 (_:World) (x:Nat) (args:Array Value):Prop:=args=#[ah (x:Int)]
def Tc:List TypeId:=[149,146]
section
variable {w w':World} {B X size:Nat} {W:List Nat}
theorem abI (B:Nat) (w:World):Calls ay 47 #[aj B] w fun e w'=>e = .returned (.func (.func 87) #[] #[aj w.heap.size])/\w'=w.alloc (.cells #[aj B] 99):=by
 have hmf:∀ (fn:Fn) (first cap:Array Value) (w:World),(Instr.makeFunc fn first cap).run ay w = .ok (.func fn first cap) w:=fun _ _ _ _=>rfl
 go_enter func47,ntmps47
 go_wp2_with fail
 go_ret
 exact ⟨rfl,rfl⟩
def allM (size:Nat) (v:Value):Value->Nat
 | .bool true=>size+1 - (intOf v).toNat
 | _=>0
theorem Gm (x:Option Nat):∃ (a:Nat) (b:Bool),vT x = .tuple #[ah (a:Int),.bool b]:=by
 cases x with
 | none=>exact ⟨0,false,rfl⟩
 | some k=>exact ⟨k,true,rfl⟩
theorem aal {N:Nat} (h:fH w B X size W) (h1:1<=size) (hT:lT w) (hN:1<N) (pB:Nat) (hp:aA w pB [aj B] 99) (m:Nat) :
 SV Fence.wide m ay 87 #[aj pB] (iw (iK W) size) S9 (kG Tc N) w:=by
 intro l J Jx W1 hW hJ hJx hY h0
 have hs1:=h.still hW
 have hp1:=hW.blk hp (fun f=>f)
 have hsz:=h.sz
 have c0:=hp1.cell 0 (v := aj B) rfl
 have HC:=au (IB hs1 h1)
 have HT1:=au (hT.still hW)
 have HF:=au (SY (iK W) size)
 have HTH:Hid (∀ i x,(iw (iK W) size)[i]?=some x->rY (iK W) size (x+1)=(iw (iK W) size)[i+1]?/\x<size/\∀ y,(iw (iK W) size)[i+1]?=some y->x<y/\y<size):=fun i x hx=>⟨VX hx,(lC.1 (List.mem_of_getElem? hx)).1,fun y hy=>⟨SX hx hy,(lC.1 (List.mem_of_getElem? hy)).1⟩⟩
 have ny:Hid (∀ V B' X' (n:Nat),fH V B' X' size W->lT V->n<=4194304->Calls ay 89 #[aj B',ah (n:Int)] V fun e w'=>e = .returned (vT (rY (iK W) size n))/\V=w'):=fun V B' X' n h2 h3 h4=>VU h2 h3 n h4
 have HKT:Hid (∀ V V' B' X',kG Tc N V V'->fH V B' X' size W->lT V->fH V' B' X' size W/\lT V'):=fun V V' B' X' k h2 h3=>⟨k.set (by decide) (by decide) h2,k.tab hN h3⟩
 have HJG:=au hJ
 have H0:=au h0
 have HY:=au hY
 generalize rY (iK W) size=nx at *
 generalize iw (iK W) size=L at *
 clear h hT hp hs1 hp1 hW hJ hJx hY h0
 refine callsIn_of_wp func87 rfl trivial ?_ rfl
 simp only [ntmps87,List.size_toArray,List.length_cons,List.length_nil,Nat.reduceAdd,Nat.reduceSub,Array.replicate_succ,Array.replicate_zero,List.push_toArray,List.append_toArray,List.nil_append,List.cons_append]
 gi_wp2_with fail
 refine ⟨trivial,fun h=>(by cases h),CallsIn.mono (callsIn_wide.2 HC.out) ?_⟩
 rintro e w1 ⟨B',X',rfl,hs2,_,_,k2⟩
 have HT2:=au (HT1.out.still k2)
 have HS2:=au hs2
 have HJ2:=au (HJG.out 0 _ _ H0.out k2)
 have LG:=au (ny.out w1 B' X' 0 hs2 (HT1.out.still k2) (by decide))
 clear k2 hs2 HT1 HC H0 c0
 obtain ⟨a0,b0,hv0⟩:=Gm (nx 0)
 rw [hv0] at LG
 rw [HF.out] at hv0
 have HV0:=au hv0
 clear hv0 HF
 gi_wp2_with fail
 refine ⟨trivial,fun h=>(by cases h),CallsIn.mono (callsIn_wide.2 LG.out) ?_⟩
 rintro e w2 ⟨rfl,rfl⟩
 clear LG
 gi_wp2_with fail
 gi_loopw [4,5] (fun v4 v5 wr=>∃ (j a:Nat) (b:Bool),v4 = ah (a:Int)/\v5 = .bool b/\vT L[j]? = .tuple #[ah (a:Int),.bool b]/\j<=L.length/\J j wr/\fH wr B' X' size W/\lT wr) (fun v4 v5 _=>allM size v4 v5)
 case atStart=>exact ⟨0,a0,b0,rfl,rfl,HV0.out,Nat.zero_le _,HJ2.out,HS2.out,HT2.out⟩
 case round =>
  obtain ⟨j,a,b,rfl,rfl,hv,hj,uU,hs,ht⟩:=hrel
  cases Jp:L[j]? with
  | none =>
    rw [Jp] at hv
    obtain ⟨rfl,rfl⟩:a=0/\b=false:=by
     simp only [vT,Value.tuple.injEq,Array.mk.injEq,List.cons.injEq,Value.int.injEq,Value.bool.injEq] at hv
     exact ⟨by omega,by have:=hv.2.1;exact this.symm⟩
    have hlen:=List.getElem?_eq_none_iff.1 Jp
    have KI:Hid (J L.length wr):=by
     have e:j=L.length:=by omega
     rw [<- e];exact uU
    clear hv hj uU hs ht Jp hlen
    gi_wp2_with fail
    go_end0
    exact ⟨⟨_,rfl⟩,.inl KI.out⟩
  | some x =>
    rw [Jp] at hv
    obtain ⟨rfl,rfl⟩:a=x/\b=true:=by
     simp only [vT,Value.tuple.injEq,Array.mk.injEq,List.cons.injEq,Value.int.injEq,Value.bool.injEq] at hv
     exact ⟨by omega,by have:=hv.2.1;exact this.symm⟩
    obtain ⟨hth,hxs,hys⟩:=HTH.out j a Jp
    have HYS:=au hys
    have hjl:=(List.getElem?_eq_some_iff.1 Jp).1
    have HJ:=au uU
    have HXS:=au hxs
    have HJL:=au hjl
    have HST:=au (And.intro hs ht)
    have HTX:=au hth
    have hwr:IntKind.i64.wrap ((a:Int)+1)=(a:Int)+1:=IntWalk.i64_in _ (by omega)
    obtain ⟨fn,tmps,assign,body,hy,hR⟩:=HY.out j a #[ah (a:Int)] wr Jp HJ.out rfl
    clear hv hj uU hs ht Jp hth hxs hjl hys
    gi_wp2_with fail
    refine ⟨fun h=>(by cases h),hR.mono ?_⟩
    rintro e W' (⟨rfl,hJ',hk⟩|⟨rfl,D8⟩)
    ·obtain ⟨hs',ht'⟩:=HKT.out _ _ _ _ hk HST.out.1 HST.out.2
     have wL:=au (ny.out W' B' X' (a+1) hs' ht' (by have:=HXS.out;omega))
     rw [show (((a+1:Nat)):Int)=(a:Int)+1 from by push_cast;rfl] at wL
     obtain ⟨a3,b3,hv3⟩:=Gm (nx (a+1))
     rw [hv3] at wL
     rw [HTX.out] at hv3
     have HV3:=au hv3
     have HE:=au (And.intro hJ' (And.intro hs' ht'))
     clear hJ' hk hs' ht' hv3
     gi_wp2_with fail
     refine ⟨trivial,fun h=>(by cases h),CallsIn.mono (callsIn_wide.2 wL.out) ?_⟩
     rintro e w3 ⟨rfl,rfl⟩
     clear wL
     gi_wp2_with fail
     go_roundw
     case rel=>exact ⟨j+1,a3,b3,rfl,rfl,HV3.out,HJL.out,HE.out.1,HE.out.2.1,HE.out.2.2⟩
     case measure =>
      have hxs:=HXS.out
      have hv3:=HV3.out
      cases b3 with
      | false=>simp [allM,intOf];omega
      | true =>
        cases hL2:L[j+1]? with
        | none=>rw [hL2] at hv3;simp [vT] at hv3
        | some y =>
          rw [hL2] at hv3
          have e9:y=a3:=by
           simp only [vT,Value.tuple.injEq,Array.mk.injEq,List.cons.injEq,Value.int.injEq] at hv3
           omega
          have h9:=HYS.out y hL2
          simp [allM,intOf];omega
    ·gi_wp2_with fail
     refine bodyPost_ret (results_none rfl _ _ _) rfl ?_
     exact ⟨⟨_,rfl⟩,.inr ⟨j+1,by have:=HJL.out;omega,D8⟩⟩
end
structure Jq (w:World) (N1 oB:Nat) (l:List Nat) (j:Nat) (W:World):Prop where
 keep:Keep none_ w W
 big:N1<=W.heap.size
 o:∃ v,aA W oB [v] 32/\W.ownsRow N1 3 1 v j (aG (l.take j))
section
variable {w W W':World} {N1 oB j:Nat} {l:List Nat}
theorem Jq.own (hw:w.heap.size<=N1):OwnFrom N1 (Jq w N1 oB l):=by
 rintro s W W' row ⟨h1,h2,v,h3,h4⟩ hg hr
 refine ⟨rJ (β:=Nat) hw s W W' row h1 hg hr,Nat.le_trans h2 hg.size,v,jE (β:=Nat) (cs:=fun _=>_) s W W' row h3 hg hr,?_⟩
 refine dY (S:=fun i=>row=some i) h4 ⟨hg.os,hg.tape,hg.output,hg.size,fun k hk n=>hg.block k hk (fun e=>n e.symm)⟩ (fun g hg' e=>?_)
 obtain ⟨_,o,ho,hc⟩:=hr g e
 obtain ⟨cur,hcur⟩:=jI (bD h4 (Nat.zero_le _)) hg'
 rw [hcur] at ho
 cases ho
 simp [Obj.isCells] at hc
end
theorem Td (gf:Nat) (lb:Array Value) (l:List Nat) (Ts:List TypeId) (ht1:Ts.contains 3=false) (ht2:Ts.contains 32=false) (hl:l.length<=4000000) (w:World) (eg:∀ args w,(callFunc gf args).run ay w = .ok (.enter gf args) w)
 (hseq:∀ W,Keep none_ w W->SV Fence.wide 8 ay gf lb l S9 (kG Ts w.heap.size) W) :
 Calls ay 86 #[.slice none 0 0,.func (.func gf) #[] lb] w fun e w'=>∃ v,e = .returned v/\w'.ownsRow w.heap.size 3 1 v l.length (aG l)/\Keep none_ w w':=by
 obtain ⟨W0,hW0⟩:∃ W',W'=w.alloc (.cells #[.slice none 0 0] 32):=⟨_,rfl⟩
 have hk0:Keep none_ w W0:=by rw [hW0];exact (Keep.refl _ _).alloc _
 have hb0:aA W0 w.heap.size [.slice none 0 0] 32:=by rw [hW0];exact aA.new w _ _
 have hs0:W0.heap.size=w.heap.size+1:=by rw [hW0];simp
 have HSQ:=au (hseq W0 hk0)
 have HI0:Hid (Jq w W0.heap.size w.heap.size l 0 W0):=⟨hk0,Nat.le_refl _,_,hb0,⟨rfl,.inl ⟨rfl,rfl⟩⟩⟩
 have xP:Hid (w.heap.size<W0.heap.size):=by unfold Hid;omega
 have HL:=au hl
 have HT1:=au ht1
 have HT2:=au ht2
 have HW0:=au hW0
 clear hseq hk0 hb0 hs0 hW0 hl ht1 ht2
 refine (callsIn_wide (n:=9)).1 ?_
 refine callsIn_of_wp_marks func86 rfl trivial ?_ rfl
 refine wpIn_wide.2 ?_
 simp only [ntmps86,List.size_toArray,List.length_cons,List.length_nil,Nat.reduceAdd,Nat.reduceSub,Array.replicate_succ,Array.replicate_zero,List.push_toArray,List.append_toArray,List.nil_append,List.cons_append]
 go_wp2_with fail
 rw [<- HW0.out]
 refine wpIn_wide (n:=9) |>.1 ?_
 refine Yj rfl (by decide) (gf:=gf) (lb:=lb) rfl trivial eg (all:=l) (Enc:=S9) (R:=kG Ts w.heap.size) (N:=w.heap.size) (Nat.le_of_lt xP.out) (kG.rel _ _)
  HSQ.out ?hps (fun j W=>Jq w W0.heap.size w.heap.size l j W) (fun _ _ _=>False) ?hI ?hIx ?h0 ?round ?done ?stop
 case hI=>exact Jq.own (Nat.le_of_lt xP.out)
 case hIx=>exact fun c s W W' row h hg hr=>h
 case h0=>exact HI0.out
 case hps =>
  rintro W x args h
  rw [h];rfl
 case stop=>exact fun D c k W hD hk h=>h.elim
 case round =>
  rintro q j x args W hx henc hI
  have hj:j<l.length:=(List.getElem?_eq_some_iff.1 hx).1
  obtain rfl:args=#[ah (x:Int)]:=henc
  have Qm:Hid (l.take (j+1)=l.take j++[x]):=by unfold Hid;rw [List.take_add_one,hx];rfl
  have HJ:=au hj
  have HI:=au hI
  clear hI hx hj
  gi_wp2_with fail
  refine ⟨fun W=>Jq w W0.heap.size w.heap.size l j W,KeepsFrom.refl _ _,kG.refl _ _ _,HI.out,(fun _ W' W'' row h hg hr=>Jq.own (Nat.le_of_lt xP.out) j W' W'' row h hg hr),?_⟩
  clear HI
  rintro w3 hI
  obtain ⟨v,sH,hrow⟩:=hI.o
  have HI3:=au hI
  obtain ⟨W4,iZ⟩:∃ W',W'=w3.alloc (.cells #[ah (x:Int)] 3):=⟨_,rfl⟩
  have hk4:Keep none_ w3 W4:=by rw [iZ];exact (Keep.refl _ _).alloc _
  obtain ⟨g,cap,w5,hrun,hown,hgr,hwh⟩:=nY (P:=ay) W4 32 32 3 (by kernel_rfl) Tryz.infoInt rfl (bD (bV hrow hk4) (Nat.zero_le _)) (N:=w3.heap.size) (u := ah (x:Int)) (by rw [iZ];exact (aA.new w3 _ _).cell 0 rfl) rfl (by decide) (by have:=HL.out;have:=HJ.out;omega)
  have hrun9:(app9 #[32,32] 32 #[v,.slice (some ⟨w3.heap.size,0,none⟩) 1 1]).run ay (w3.alloc (.cells #[ah (x:Int)] 3)) = .ok (.slice (some ⟨g,0,none⟩) (j+1) cap) w5:=by rw [<- iZ];exact hrun
  have cO:=sH.cell 0 (v:=v) rfl
  have hne:v.ownBlock≠some w.heap.size:=own_ne sH hrow (by decide)
  have hbo5:=(hk4.blk sH (fun f=>f)).grown hgr hne
  have cO4:∀ o,(w3.alloc o).cell? ⟨w.heap.size,0,none⟩=some v:=fun o=>(sH.alloc o).cell 0 rfl
  have cO5:=hbo5.cell 0 (v:=v) rfl
  have fO5:=hbo5.free 0
  have hge:∀ q,v.ownBlock=some q->W0.heap.size<=q:=fun q hq=>(World.ownsRow.lt hrow q hq).1
  have hge':W0.heap.size<=g:=by
   rcases hwh with h|h
   ·exact hge g h
   ·have h1:=HI3.out.big;have h2:=hk4.size;omega
  have fD:Hid (Jq w W0.heap.size w.heap.size l (j+1) (w5.setCell ⟨w.heap.size,0,none⟩ (.slice (some ⟨g,0,none⟩) (j+1) cap))/\KeepsFrom W0.heap.size w3 (w5.setCell ⟨w.heap.size,0,none⟩ (.slice (some ⟨g,0,none⟩) (j+1) cap))/\kG Ts w.heap.size w3 (w5.setCell ⟨w.heap.size,0,none⟩ (.slice (some ⟨g,0,none⟩) (j+1) cap))):=by
   have hk5:Keep none_ w w5:=(HI3.out.keep.trans hk4).grew (bV hrow hk4) (Nat.le_of_lt xP.out) hgr
   have h01:=xP.out
   have hneq:∀ q,q<W0.heap.size->v.ownBlock≠some q:=fun q hq e=>by have:=hge q e;omega
   refine ⟨⟨hk5.eP (Nat.le_refl _) _ _,?_,.slice (some ⟨g,0,none⟩) (j+1) cap,hbo5.set 0 _,?_⟩,?_,?_,fun b hb=>?_,fun b cs T hT hb=>?_⟩
   ·have h1:=HI3.out.big;have h2:=hk4.size;have h3:=hgr.size;simp;omega
   ·have e:aG (l.take (j+1))=aG (l.take j)++[ah (x:Int)]:=by rw [Qm.out];simp [aG]
    rw [e]
    exact KJ (uo (a:=⟨w.heap.size,0,none⟩) hown (fun q hq=>by simp [Value.ownBlock] at hq;show q≠w.heap.size;omega) _) hge'
   ·refine (KeepsFrom.rH hk4).trans (KeepsFrom.trans (Y:=w5) ⟨hgr.size,fun q o hB hq ho=>(hgr.block q (Array.getElem?_eq_some_iff.1 hq).1 (fun e=>?_)).trans hq⟩ ((KeepsOthers.setCell _ _ _).from _))
    obtain ⟨cur,hcur⟩:=jI (bD (bV hrow hk4) (Nat.zero_le _)) e.symm
    rw [hcur] at hq
    cases hq
    simp [Obj.isCells] at ho
   ·have h2:=hk4.size;have h3:=hgr.size;simp;omega
   ·have hb3:b<w3.heap.size:=by have:=HI3.out.big;omega
    rw [Below.heap_setCell _ _ _ _ (by simp;omega),hgr.block b (Nat.lt_of_lt_of_le hb3 hk4.size) (fun e=>hneq b (by omega) e.symm)]
    exact hk4.block b hb3 (fun f=>f)
   ·have hT1:=HT1.out
    have hT2:=HT2.out
    have n1:T≠3:=fun e=>by rw [e] at hT;rw [hT] at hT1;cases hT1
    have n2:T≠32:=fun e=>by rw [e] at hT;rw [hT] at hT2;cases hT2
    have hb4:=hk4.blk hb (fun f=>f)
    have hb5:aA w5 b cs T:=hb4.grown hgr (own_ne hb4 (bV hrow hk4) (Ne.symm n1))
    refine hb5.other (fun e=>n2 ?_) _
    rw [e] at hb5
    exact (hb5.uniq hbo5).2
  clear hge hge' hne sH hbo5 hgr hown hwh hrun hk4 hrow iZ hI
  gi_wp2_with fail
  exact ⟨fD.out.2.1,fD.out.2.2,fD.out.1⟩
 case done =>
  rintro D W hD hI Dq
  obtain ⟨v,sH,hrow⟩:=hI.o
  rw [List.take_length] at hrow
  have cO:=sH.cell 0 (v:=v) rfl
  have Uz:=hI.keep.takeDeferred (D:=D) (by have:=xP.out;omega) (.deferred none)
  have yt:=au hrow
  clear hrow
  go_wp2_with fail
  refine ⟨by simp,.inl ⟨_,_,rfl,run_takeDeferred Dq,?_⟩⟩
  refine ⟨v,by simp [results,Tryz.f86,go_sem],v,rfl,bD (dY (S:=fun i=>i=D) yt.out ⟨rfl,rfl,rfl,by simp,fun q _ n=>World.putObj_heap_other n⟩ (fun q hq e=>?_)) (Nat.le_of_lt xP.out),Uz⟩
  obtain ⟨cur,hcur⟩:=jI (bD yt.out (Nat.zero_le _)) hq
  rw [e,Dq] at hcur
  cases hcur
theorem Pj (gf:Nat) (lb:Array Value) (l:List Nat) (Ts:List TypeId) (ht1:Ts.contains 3=false) (ht2:Ts.contains 32=false) (hl:l.length<=4000000) (w:World) (eg:∀ args w,(callFunc gf args).run ay w = .ok (.enter gf args) w)
 (hseq:∀ W,Keep none_ w W->SV Fence.wide 8 ay gf lb l S9 (kG Ts w.heap.size) W) :
 Calls ay 46 #[.func (.func gf) #[] lb] w fun e w'=>∃ v,e = .returned v/\w'.ownsRow w.heap.size 3 1 v l.length (aG l)/\Keep none_ w w':=by
 have HA:=au (Td gf lb l Ts ht1 ht2 hl w eg hseq)
 clear hseq hl
 go_enter func46,ntmps46
 go_wp2_with fail
 refine HA.out.mono ?_
 rintro e w1 ⟨v,rfl,h1,k1⟩
 have HE:=au (And.intro h1 k1)
 clear h1 k1 HA
 go_wp2_with fail
 go_ret
 exact ⟨v,rfl,HE.out.1,HE.out.2⟩
end
section
attribute [local go_sem] Oper.semAt_some
open Go.RowKit
def HS.objs (H:HS):List Nat:=iw H.bn H.sz
section
variable {w w':World} {D:Nat->Nat} {H:HS}
theorem Tf {s s':Nat->Bool} {size:Nat} (h:∀ k,k<size->s k=s' k):iw s size=iw s' size:=List.filter_congr (fun x hx=>h x (List.mem_range.1 hx))
theorem Pm {B X size:Nat} {s:Nat->Bool} (h:lH w B X size s) (h1:1<=size) (hT:lT w):∀ W,W=w.alloc (.cells #[aj B] 99)->Calls ay 46 #[.func (.func 87) #[] #[aj w.heap.size]] W fun e w'=>∃ v,e = .returned v/\w'.ownsRow w.heap.size 3 1 v (iw s size).length (aG (iw s size))/\Keep none_ w w':=by
 intro W hW
 obtain ⟨ws,hs,hb⟩:=h
 have hk:Keep none_ w W:=by rw [hW];exact (Keep.refl _ _).alloc _
 have hp:aA W w.heap.size [aj B] 99:=by rw [hW];exact aA.new w _ _
 have e:iw (iK ws) size=iw s size:=Tf (fun k hk=>by
  rw [<- hb k]
  unfold jK
  rw [decide_eq_true (by omega),Bool.true_and,Int.toNat_natCast])
 have hsz:=hs.sz
 have hdB:1<w.heap.size:=World.block_lt_of_cell? _ _ (hT 0 (by decide))
 have hl:=Ey s size
 refine (Pj 87 #[aj w.heap.size] (iw s size) Tc (by decide) (by decide) (by omega) W (fun args w=>by simp [callFunc,func87,go_sem];rfl) (fun V hV=>?_)).mono ?_
 ·rw [<- e]
  exact aal ((hs.still hk).still hV) h1 ((hT.still hk).still hV) (Nat.lt_of_lt_of_le hdB hk.size) w.heap.size (hV.blk hp (fun f=>f)) 8
 ·rintro e w' ⟨v,rfl,h2,k2⟩
  exact ⟨v,rfl,bD h2 hk.size,hk.trans k2⟩
theorem Bv (h:aF w D H) (hT:lT w):Calls ay 23 #[aj (D 0)] w fun e w'=>∃ v,e = .returned v/\w'.ownsRow w.heap.size 3 1 v H.objs.length (aG H.objs)/\Keep none_ w w':=by
 have c3:=h.blk.cell 3 rfl
 have HC:=au (Pm h.born (by show 1<=H.b*H.ww+1;omega) hT)
 unfold HS.objs
 generalize iw H.bn H.sz=l at *
 clear h hT
 go_enter func23,ntmps23
 go_wp2_with fail
 refine (abI _ _).mono ?_
 rintro e w1 ⟨rfl,hw⟩
 have qW:=au (HC.out w1 hw)
 clear HC hw c3
 go_wp2_with fail
 refine qW.out.mono ?_
 rintro e w2 ⟨v,rfl,h1,k1⟩
 have HE:=au (And.intro h1 k1)
 clear h1 k1 qW
 go_wp2_with fail
 go_ret
 exact ⟨v,rfl,HE.out.1,HE.out.2⟩
end
structure qZ (w:World) (a:Option Addr) (n:Nat) (l:List Nat):Prop where
 at_:fU .u8 w a n (l.map fun x:Nat=>(x:Int))
 lt:∀ x∈l,x<256
theorem qZ.len {w:World} {a:Option Addr} {n:Nat} {l:List Nat} (h:qZ w a n l):l.length=n:=by
 have:=h.at_.len
 simpa using this
theorem qZ.still {w w':World} {a:Option Addr} {n:Nat} {l:List Nat} (h:qZ w a n l) (k:Keep none_ w w'):qZ w' a n l:=⟨h.at_.below k,h.lt⟩
theorem getD_map {l:List Nat} {j:Nat} (hj:j<l.length):(l.map fun x:Nat=>(x:Int)).getD j 0=(l.getD j 0:Int):=by
 rw [List.getD_eq_getElem?_getD,List.getD_eq_getElem?_getD,List.getElem?_map,List.getElem?_eq_getElem hj]
 rfl
theorem qZ.cell {w:World} {a:Option Addr} {n:Nat} {l:List Nat} (h:qZ w a n l) {j:Nat} (hj:j<n):∃ b off,a=some ⟨b,off,none⟩/\w.cell? ⟨b,off+j,none⟩=some (.int .u8 (l.getD j 0:Int))/\l.getD j 0<256:=by
 have hl:=h.len
 obtain ⟨b,off,e,hc⟩:=h.at_.at_ (by omega)
 refine ⟨b,off,e,?_,?_⟩
 ·rw [hc j hj,getD_map (by omega)]
 ·refine h.lt _ ?_
  rw [List.getD_eq_getElem?_getD,List.getElem?_eq_getElem (by omega)]
  exact List.getElem_mem _
abbrev Nums (w:World) (a:Option Addr) (n:Nat) (l:List Nat):Prop:=fU .i64 w a n (l.map fun x:Nat=>(x:Int))
theorem Nums.cell {w:World} {a:Option Addr} {n:Nat} {l:List Nat} (h:Nums w a n l) {j:Nat} (hj:j<n):∃ b off,a=some ⟨b,off,none⟩/\w.cell? ⟨b,off+j,none⟩=some (ah (l.getD j 0:Int)):=by
 have hl:l.length=n:=by have:=h.len;simpa using this
 obtain ⟨b,off,e,hc⟩:=h.at_ (by omega)
 exact ⟨b,off,e,by rw [hc j hj,getD_map (by omega)]⟩
def kY (all:List Nat) (n:Nat):Nat:=if all=[]\/n%5=0 then 0 else all.getD (n/5%all.length) 0
section
variable {w w':World} {a:Option Addr} {c:Nat}
theorem Yk (all:List Nat) (h:Nums w a all.length all) (n:Nat) (hn:n<256):Calls ay 73 #[.slice a all.length c,.int .u8 (n:Int)] w fun e w'=>e = .returned (ah (kY all n:Int))/\w=w':=by
 have hm:(n:Int).tmod 5=((n%5:Nat):Int):=by rw [Int.tmod_eq_emod_of_nonneg (by omega)];omega
 by_cases h0:all=[]
 ·have e:kY all n=0:=by unfold kY;rw [if_pos (.inl h0)]
  rw [e]
  subst h0
  clear h
  go_enter func73,ntmps73
  go_wp2_with fail
  go_ret
  exact ⟨rfl,rfl⟩
 ·have hpos:0<all.length:=List.length_pos_iff.2 h0
  have d0:((all.length:Int)==0)=false:=by simp;omega
  by_cases h5:n%5=0
  ·have e:kY all n=0:=by unfold kY;rw [if_pos (.inr h5)]
   rw [e]
   have hm2:(n:Int).tmod 5=0:=by rw [hm,h5];rfl
   have hm3:(n:Int)%5=0:=by omega
   generalize all.length=L at *
   clear h hm h5
   go_enter func73,ntmps73
   go_wp2_with fail
   go_ret
   exact ⟨rfl,rfl⟩
  ·have e:kY all n=all.getD (n/5%all.length) 0:=by unfold kY;rw [if_neg (by intro hh;exact hh.elim h0 h5)]
   rw [e]
   obtain ⟨b,off,rfl,hc⟩:=h.cell (j:=n/5%all.length) (Nat.mod_lt _ hpos)
   generalize all.getD (n/5%all.length) 0=r at *
   have hq:(n:Int).tdiv 5=((n/5:Nat):Int):=by rw [Int.tdiv_eq_ediv_of_nonneg (by omega)];omega
   have hq2:(n:Int)/5=((n/5:Nat):Int):=by omega
   have hr:((n/5:Nat):Int).tmod (all.length:Int)=((n/5%all.length:Nat):Int):=by rw [Int.tmod_eq_emod_of_nonneg (by omega)];simp
   have hr2:((n/5:Nat):Int)%(all.length:Int)=((n/5%all.length:Nat):Int):=by simp
   have hlt:n/5%all.length<all.length:=Nat.mod_lt _ hpos
   have hx5:((n%5:Nat):Int)≠0:=by omega
   have hm3:((n:Int)%5==0)=false:=by simp;omega
   have hm4:((n:Int).tmod 5==0)=false:=by rw [hm];simp;omega
   have hn51:n/5<256:=by omega
   generalize n/5=m at *
   generalize m%all.length=j at *
   have IJ:(j:Int)<(all.length:Int):=by omega
   have hj0:(0:Int)<=(j:Int):=by omega
   have hL0:¬ (all.length:Int)=0:=by omega
   generalize all.length=L at *
   go_enter func73,ntmps73
   go_wp2_with fail
   go_ret
   exact ⟨rfl,rfl⟩
end
def dI (H:HS) (sz:List Nat):HS:=sz.foldl (fun H z=>(H.nH (z%4) 0).2) H
theorem Ti (H:HS) (sz:List Nat) (j:Nat) (hj:j<sz.length):dI H (sz.take (j+1))=((dI H (sz.take j)).nH (sz.getD j 0%4) 0).2:=by
 unfold dI
 rw [List.take_add_one,List.getElem?_eq_getElem hj,List.foldl_append,List.getD_eq_getElem?_getD,List.getElem?_eq_getElem hj]
 rfl
def dG (all fl:List Nat) (a:Nat) (p:HS × Nat):Nat->HS × Nat
 | 0=>p
 | f+1=>if (dG all fl a p f).2<fl.length then ((dG all fl a p f).1.gu a (f:Int) (kY all (fl.getD (dG all fl a p f).2 0)),(dG all fl a p f).2+1) else dG all fl a p f
def jH (all fl:List Nat) (p:HS × Nat):Nat->HS × Nat
 | 0=>p
 | i+1=>dG all fl (all.getD i 0) (jH all fl p i) ((jH all fl p i).1.aV (all.getD i 0)).1
def qH (all ce:List Nat) (H:HS):Nat->HS
 | 0=>H
 | i+1=>(qH all ce H i).oG (i:Int) (kY all (ce.getD i 0))
def qO (H:HS) (sz fl ce:List Nat):HS:=qH (dI H sz).objs ce (jH (dI H sz).objs fl (dI H sz,0) (dI H sz).objs.length).1 ce.length
theorem Gn {all fl:List Nat} {a:Nat} {p:HS × Nat} {f:Nat} (h:¬ (dG all fl a p f).2<fl.length):∀ d,dG all fl a p (f+d)=dG all fl a p f
 | 0=>rfl
 | d+1=>by
   have e:=Gn h d
   show (if (dG all fl a p (f+d)).2<fl.length then _ else dG all fl a p (f+d))=_
   rw [e,if_neg h]
theorem Ez {all fl:List Nat} {a:Nat} {p:HS × Nat} (h:p.2<=fl.length):∀ f,(dG all fl a p f).2<=fl.length
 | 0=>h
 | f+1=>by
   show (if (dG all fl a p f).2<fl.length then _ else dG all fl a p f).2<=_
   split
   ·assumption
   ·exact Ez h f
theorem Nv {all fl:List Nat} {p:HS × Nat} (h:p.2<=fl.length):∀ i,(jH all fl p i).2<=fl.length
 | 0=>h
 | i+1=>Ez (Nv h i) _
theorem xR (H:HS) (a:Nat):(H.aV a).1<=100:=by
 unfold HS.aV
 split
 ·unfold HS.nf HS.hdr
  cases hh:yH (H.word a) with
  | none=>exact Nat.zero_le _
  | some cf =>
    obtain ⟨c,f⟩:=cf
    obtain ⟨⟨hc,hf⟩,_⟩:=zf hh
    show f<=100
    have:2^(c+1)<=2^4:=Nat.pow_le_pow_right (by decide) (by omega)
    omega
 ·exact Nat.zero_le _
section
variable {w w':World} {D:Nat->Nat} {H:HS} {a1 a2 a3 a4:Option Addr} {n1 n2 n3 n4 p1 p2 p3 p4:Nat}
theorem Nw {z:Nat}:∃ r:Nat,(z:Int).tmod 4=(r:Int)/\(z:Int)%4=(r:Int)/\r=z%4/\r<=3 :=
 ⟨z%4,by rw [Int.tmod_eq_emod_of_nonneg (by omega)];omega,by omega,rfl,by omega⟩
theorem Yl (h:aF w D H) (hT:∀ W,Keep (HF D) w W->lT W) (c0 c1 c2 c3 c4 c5 c6:Int) (sz fl ce:List Nat)
 (h1:∀ W,Keep (HF D) w W->qZ W a1 n1 sz) (h2:∀ W,Keep (HF D) w W->qZ W a2 n2 fl) (h3:∀ W,Keep (HF D) w W->qZ W a3 n3 ce) (m1:n1<=30) (m2:n2<=100) (m3:n3<=20) :
 Calls ay 40 #[aj (D 0),.agg #[ah c0,ah c1,ah c2,ah c3,ah c4,ah c5,ah c6,.slice a1 n1 p1,.slice a2 n2 p2,.slice a3 n3 p3,.slice a4 n4 p4]] w
  fun e w'=>∃ v,e = .returned v/\w'.ownsRow w.heap.size 3 1 v (dI H sz).objs.length (aG (dI H sz).objs)/\aF w' D (qO H sz fl ce)/\Keep (HF D) w w'/\(dI H sz).objs.length<=1048577:=by
 have hD:=h.ltD
 have l1:=(h1 w (Keep.refl _ _)).len
 have l2:=(h2 w (Keep.refl _ _)).len
 have l3:=(h3 w (Keep.refl _ _)).len
 obtain ⟨W0,hW0⟩:∃ W',W'=w.alloc (.cells #[ah c0,ah c1,ah c2,ah c3,ah c4,ah c5,ah c6,.slice a1 n1 p1,.slice a2 n2 p2,.slice a3 n3 p3,.slice a4 n4 p4] 26):=⟨_,rfl⟩
 have k0:Keep none_ w W0:=by rw [hW0];exact (Keep.refl _ _).alloc _
 have Js:Keep (HF D) w W0:=k0.mono (fun _ _ f=>f.elim)
 have hb:aA W0 w.heap.size [ah c0,ah c1,ah c2,ah c3,ah c4,ah c5,ah c6,.slice a1 n1 p1,.slice a2 n2 p2,.slice a3 n3 p3,.slice a4 n4 p4] 26:=by rw [hW0];exact aA.new w _ _
 have Nh:Hid (∀ W,Keep (HF D) W0 W->W.cell? ⟨w.heap.size,7,none⟩=some (.slice a1 n1 p1)/\W.cell? ⟨w.heap.size,8,none⟩=some (.slice a2 n2 p2)/\W.cell? ⟨w.heap.size,9,none⟩=some (.slice a3 n3 p3)):=fun W hW=>by
  have hb':=hW.blk hb (fun hh=>by obtain ⟨i,hi,e⟩:=hh;have:=hD i hi;omega)
  exact ⟨hb'.cell 7 rfl,hb'.cell 8 rfl,hb'.cell 9 rfl⟩
 have HI0:Hid (aF W0 D (dI H (sz.take 0))/\Keep (HF D) W0 W0):=⟨h.still k0,Keep.refl _ _⟩
 have Za:Hid (∀ W j,j<n1->aF W D (dI H (sz.take j))/\Keep (HF D) W0 W->∃ b off z,a1=some ⟨b,off,none⟩/\W.cell? ⟨b,off+j,none⟩=some (.int .u8 ((z:Nat):Int))/\z<256/\Calls ay 71 #[aj (D 0),ah ((z%4:Nat):Int),ah 0] W fun e w'=>(∃ va vb:Int,e = .returned (.tuple #[ah va,ah vb]))/\aF w' D (dI H (sz.take (j+1)))/\Keep (HF D) W0 w'):=fun W j hj hW=>by
  obtain ⟨b,off,e,hc,hz⟩:=(h1 W (Js.trans hW.2)).cell hj
  refine ⟨b,off,_,e,hc,hz,(VQ hW.1 (sz.getD j 0%4) 0 (by omega) (by decide)).mono ?_⟩
  rintro e w' ⟨hv,g1,g2⟩
  rw [Ti _ _ _ (by omega)]
  exact ⟨hv,g1,hW.2.trans g2⟩
 have DF:Hid (∀ W,aF W D (dI H (sz.take n1))/\Keep (HF D) W0 W->Calls ay 23 #[aj (D 0)] W fun e w'=>∃ a c,e = .returned (.slice a (dI H sz).objs.length c)/\w'.ownsRow w.heap.size 3 1 (.slice a (dI H sz).objs.length c) (dI H sz).objs.length (aG (dI H sz).objs)/\aF w' D (dI H sz)/\Keep (HF D) W0 w'/\(dI H sz).objs.length<=1048577):=fun W hW=>by
  have hh:=hW.1
  rw [show sz.take n1=sz from by rw [<- l1];exact List.take_length] at hh
  refine (Bv hh (hT W (Js.trans hW.2))).mono ?_
  rintro e w' ⟨v,rfl,ho,k⟩
  obtain ⟨a,c,rfl,_⟩:=dP (bD ho (Nat.zero_le _))
  refine ⟨a,c,rfl,bD ho (Js.trans hW.2).size,hh.still k,hW.2.trans (k.mono (fun _ _ f=>f.elim)),?_⟩
  have h1:=Ey (dI H sz).bn (dI H sz).sz
  have h2:=hh.inv.nle
  unfold HS.objs
  unfold HS.sz at h1 ⊢
  omega
 have nN:Hid (∀ W p,p=jH (dI H sz).objs fl (dI H sz,0) (dI H sz).objs.length->aF W D (qH (dI H sz).objs ce p.1 n3)->aF W D (qO H sz fl ce)):=fun W p e hW=>by
  unfold qO
  rw [<- e,l3]
  exact hW
 have HFI:Hid (jH (dI H sz).objs fl (dI H sz,0) 0=(dI H sz,0)):=rfl
 have adC:=au Js
 clear hb
 generalize dI H sz=H1 at *
 generalize hob:H1.objs=objs at *
 have HW0:=au hW0
 have yt:Hid (∀ W a c,W.ownsRow w.heap.size 3 1 (.slice a objs.length c) objs.length (aG objs)->(Nums W a objs.length objs/\objs.length<=9223372036854775807/\∀ W',Keep (HF D) W W'->W'.ownsRow w.heap.size 3 1 (.slice a objs.length c) objs.length (aG objs))):=fun W a c ho=>by
  refine ⟨?_,?_,fun W' k=>dY ho k (fun b hb hh=>?_)⟩
  ·have e:aG objs=(objs.map fun x:Nat=>(x:Int)).map (Value.int .i64):=by simp [aG]
   rw [e] at ho
   obtain ⟨a',c',ee,hi,_⟩:=fU.KG ho
   cases ee
   exact hi
  ·rcases ho.2 with ⟨_,hn⟩|⟨g,cap,cur,_,_,_,hn,hm,_⟩
   ·omega
   ·have:maxLen=9223372036854775807:=rfl
    omega
  ·obtain ⟨i,hi,e⟩:=hh
   have h9:=hD i hi
   rcases ho.2 with ⟨e2,_⟩|⟨g,cap,cur,e2,hg,_⟩
   ·rw [e2] at hb;cases hb
   ·rw [e2] at hb
    have e3:g=b:=by simpa [Value.ownBlock] using hb
    omega
 have ny:Hid (∀ W p a,aF W D p->Calls ay 55 #[aj (D 0),ah ((a:Nat):Int)] W fun e w'=>(∃ er:Int,e = .returned (.tuple #[ah ((p.aV a).1:Int),ah er]))/\aF w' D p/\Keep (HF D) W w'):=fun W p a hW=>by
  refine (yA hW a).mono ?_
  rintro e w' ⟨rfl,g1,g2⟩
  exact ⟨⟨_,rfl⟩,g1,g2⟩
 have HST:Hid (∀ W p a f v,aF W D p->Calls ay 72 #[aj (D 0),ah ((a:Nat):Int),ah ((f:Nat):Int),ah ((v:Nat):Int)] W fun e w'=>(∃ er:Int,e = .returned (ah er))/\aF w' D (p.gu a (f:Int) v)/\Keep (HF D) W w'):=fun W p a f v hW=>by
  refine (FB hW a (f:Int) v).mono ?_
  rintro e w' ⟨rfl,g1,g2⟩
  exact ⟨⟨_,rfl⟩,g1,g2⟩
 have VY:Hid (∀ W p i v,aF W D p->Calls ay 74 #[aj (D 0),ah ((i:Nat):Int),ah ((v:Nat):Int)] W fun e w'=>(∃ er:Int,e = .returned (ah er))/\aF w' D (p.oG (i:Int) v)/\Keep (HF D) W w'):=fun W p i v hW=>by
  refine (LC hW (i:Int) v).mono ?_
  rintro e w' ⟨rfl,g1,g2⟩
  exact ⟨⟨_,rfl⟩,g1,g2⟩
 have VZ:Hid (∀ W a c n,Nums W a objs.length objs->n<256->Calls ay 73 #[.slice a objs.length c,.int .u8 ((n:Nat):Int)] W fun e w'=>e = .returned (ah (kY objs n:Int))/\W=w'):=fun W a c n hn h9=>Yk objs hn n h9
 have H2:Hid (∀ W,Keep (HF D) W0 W->qZ W a2 n2 fl):=fun W k=>h2 W (Js.trans k)
 have H3:Hid (∀ W,Keep (HF D) W0 W->qZ W a3 n3 ce):=fun W k=>h3 W (Js.trans k)
 have fD:Hid (∀ W a c,W.ownsRow w.heap.size 3 1 (.slice a objs.length c) objs.length (aG objs)->aF W D (qO H sz fl ce)->Keep (HF D) W0 W->objs.length<=1048577->∃ v,(Ending.returned (.slice a objs.length c)) = .returned v/\W.ownsRow w.heap.size 3 1 v objs.length (aG objs)/\aF W D (qO H sz fl ce)/\Keep (HF D) w W/\objs.length<=1048577):=fun W a c g1 g2 g3 g4=>⟨_,rfl,g1,g2,Js.trans g3,g4⟩
 have hm1:(n1:Int)<=30:=by omega
 have hm2:(n2:Int)<=100:=by omega
 have hm3:(n3:Int)<=20:=by omega
 generalize qO H sz fl ce=LP at *
 clear h hT h1 h2 h3 k0 Js adC hW0 hD
 go_enter func40,ntmps40
 go_wp2_with fail
 rw [<- HW0.out]
 go_loopw [5] (fun i wr=>∃ j:Nat,j<=n1/\i = ah j/\aF wr D (dI H (sz.take j))/\Keep (HF D) W0 wr) (fun i _=>n1 - (intOf i).toNat)
 case atStart=>exact ⟨0,Nat.zero_le _,rfl,HI0.out⟩
 case round =>
  obtain ⟨j,hj,rfl,hI⟩:=hrel
  obtain ⟨x7,x8,x9⟩:=Nh.out wr hI.2
  by_cases hlt:j<n1
  ·have oV:(j:Int)<(n1:Int):=by omega
   have hj0:(0:Int)<=(j:Int):=by omega
   obtain ⟨b,off,z,rfl,hz,hz2,hmk⟩:=Za.out wr j hlt hI
   obtain ⟨r,hr1,hr2,hr3,hr4⟩:=Nw (z:=z)
   rw [<- hr3] at hmk
   have abJ:=au hmk
   clear hmk hI hr3
   go_wp2_with fail
   refine abJ.out.mono ?_
   rintro e w2 ⟨⟨va,vb,rfl⟩,g1,g2⟩
   have HI2:Hid (aF w2 D (dI H (sz.take (j+1)))/\Keep (HF D) W0 w2):=⟨g1,g2⟩
   clear g1 g2 abJ hz x7 x8 x9
   go_wp2_with fail
   go_roundw
   case rel=>exact ⟨j+1,by omega,by go_num,HI2.out⟩
   case measure=>simp [intOf]<;>omega
  ·obtain rfl:j=n1:=by omega
   have hnlt:¬ (j:Int)<(j:Int):=by omega
   have abK:=au (DF.out wr hI)
   clear hI hlt Za DF
   go_wp2_with fail
   refine abK.out.mono ?_
   rintro e w3 ⟨a,c,rfl,ho,g1,g2,hbd⟩
   have uw:=au hbd
   obtain ⟨hnum,hln,hrow⟩:=yt.out w3 a c ho
   have um:=au hrow
   have wL:=au yt.out
   have HI3:Hid (aF w3 D (jH objs fl (H1,0) 0).1/\Keep (HF D) W0 w3/\Keep (HF D) w3 w3):=⟨g1,g2,Keep.refl _ _⟩
   have gy:=au g2
   clear ho g1 g2 hnum hrow abK x7 x8 x9 hbd
   have HR3:Hid (∀ W,Keep (HF D) w3 W->Nums W a objs.length objs/\W.ownsRow w.heap.size 3 1 (.slice a objs.length c) objs.length (aG objs)):=fun W k=>⟨(wL.out W a c (um.out W k)).1,um.out W k⟩
   clear wL um
   generalize hL:objs.length=L at *
   go_wp2_with fail
   go_loopw [7,8,9,10,11] (fun kv i nv ev fv wr=>∃ t:Nat,t<=L/\i = ah t/\kv = ah ((jH objs fl (H1,0) t).2:Nat)/\aF wr D (jH objs fl (H1,0) t).1/\Keep (HF D) w3 wr) (fun kv i nv ev fv _=>L - (intOf i).toNat)
   case atStart=>exact ⟨0,Nat.zero_le _,rfl,rfl,HI3.out.1,HI3.out.2.2⟩
   case round =>
    obtain ⟨t,ht,rfl,rfl,hh,hk⟩:=hrel
    by_cases htL:t<L
    ·have Qn:(t:Int)<(L:Int):=by omega
     have ht0:(0:Int)<=(t:Int):=by omega
     have hle:=Nv (all:=objs) (fl:=fl) (p:=(H1,0)) (Nat.zero_le _) t
     rw [l2] at hle
     obtain ⟨b,off,rfl,hc⟩:=(HR3.out wr hk).1.cell htL
     have eA:jH objs fl (H1,0) (t+1)=dG objs fl (objs.getD t 0) (jH objs fl (H1,0) t) ((jH objs fl (H1,0) t).1.aV (objs.getD t 0)).1:=rfl
     have Zb:=au eA
     clear eA
     obtain ⟨N,hN⟩:∃ N,N=((jH objs fl (H1,0) t).1.aV (objs.getD t 0)).1:=⟨_,rfl⟩
     have aec:N<=100:=by rw [hN];exact xR _ _
     have wQ:=ny.out wr (jH objs fl (H1,0) t).1 (objs.getD t 0) hh
     rw [<- hN] at wQ Zb
     have HF2:=au wQ
     have HKw:=au hk
     clear wQ hN hh
     generalize jH objs fl (H1,0) t=P at *
     generalize hx:objs.getD t 0=x at *
     go_wp2_with fail
     refine HF2.out.mono ?_
     rintro e w4 ⟨⟨er,rfl⟩,g1,g2⟩
     have HI4:Hid (aF w4 D P.1/\Keep (HF D) w3 w4):=⟨g1,HKw.out.trans g2⟩
     clear g1 g2 HF2 hc hk
     have HRW:Hid (∀ W,Keep (HF D) w3 W->Nums W (some ⟨b,off,none⟩) L objs):=fun W k=>(HR3.out W k).1
     go_wp2_with fail
     go_loopw [7,11] (fun kv fv wr=>∃ f:Nat,f<=N/\fv = ah f/\kv = ah ((dG objs fl x P f).2:Nat)/\aF wr D (dG objs fl x P f).1/\Keep (HF D) w3 wr) (fun kv fv _=>N - (intOf fv).toNat)
     case atStart=>exact ⟨0,Nat.zero_le _,rfl,rfl,HI4.out⟩
     case round =>
      obtain ⟨f,hf,rfl,rfl,hh,hk⟩:=hrel
      have hq:=Ez (all:=objs) (fl:=fl) (a:=x) (p:=P) (by rw [l2];exact hle) f
      rw [l2] at hq
      obtain ⟨_,x8,_⟩:=Nh.out wr (gy.out.trans hk)
      have Jb:((dG objs fl x P f).2:Int)<=(n2:Int):=by omega
      by_cases hcond:f<N/\(dG objs fl x P f).2<n2
      ·obtain ⟨Jt,hkn⟩:=hcond
       have hfI:(f:Int)<(N:Int):=by omega
       have ael:((dG objs fl x P f).2:Int)<(n2:Int):=by omega
       have hf0:(0:Int)<=(f:Int):=by omega
       have hk0:(0:Int)<=((dG objs fl x P f).2:Int):=by omega
       obtain ⟨b2,off2,rfl,hz,hz2⟩:=(H2.out wr (gy.out.trans hk)).cell hkn
       have eO:dG objs fl x P (f+1)=((dG objs fl x P f).1.gu x (f:Int) (kY objs (fl.getD (dG objs fl x P f).2 0)),(dG objs fl x P f).2+1):=by
        show (if (dG objs fl x P f).2<fl.length then _ else dG objs fl x P f)=_
        rw [if_pos (by rw [l2];exact hkn)]
       have HEO:=au eO
       clear eO
       have jJ:Hid (∀ W,aF W D (dG objs fl x P f).1->Keep (HF D) wr W->Calls ay 72 #[aj (D 0),ah ((x:Nat):Int),ah ((f:Nat):Int),ah ((kY objs (fl.getD (dG objs fl x P f).2 0):Nat):Int)] W fun e w'=>(∃ er:Int,e = .returned (ah er))/\Hid (aF w' D ((dG objs fl x P f).1.gu x (f:Int) (kY objs (fl.getD (dG objs fl x P f).2 0))))/\Hid (Keep (HF D) wr w')):=fun W hW k=>by
        refine (HST.out W _ x f _ hW).mono ?_
        rintro e w' ⟨hv,g1,g2⟩
        exact ⟨hv,g1,k.trans g2⟩
       have Kw:Hid (∀ W,Keep (HF D) wr W->W.cell? ⟨w.heap.size,8,none⟩=some (.slice (some ⟨b2,off2,none⟩) n2 p2)/\W.cell? ⟨b,off+t,none⟩=some (ah ((x:Nat):Int))/\W.cell? ⟨b2,off2+(dG objs fl x P f).2,none⟩=some (.int .u8 ((fl.getD (dG objs fl x P f).2 0:Nat):Int))):=fun W k=>by
        obtain ⟨_,_,e2,hc2⟩:=(HRW.out W (hk.trans k)).cell htL
        cases e2
        obtain ⟨_,_,e3,hc3,_⟩:=(H2.out W (gy.out.trans (hk.trans k))).cell hkn
        cases e3
        rw [hx] at hc2
        exact ⟨(Nh.out W (gy.out.trans (hk.trans k))).2.1,hc2,hc3⟩
       obtain ⟨y8,yc,yz⟩:=Kw.out wr (Keep.refl _ _)
       have Ny:Hid (Calls ay 73 #[.slice (some ⟨b,off,none⟩) L c,.int .u8 ((fl.getD (dG objs fl x P f).2 0:Nat):Int)] wr.drew fun e w'=>e = .returned (ah (kY objs (fl.getD (dG objs fl x P f).2 0):Int))/\wr.drew=w'):=VZ.out wr.drew _ c _ (HRW.out _ (hk.trans (Keep.refl (HF D) wr).drew)) hz2
       have HH:Hid (aF wr.drew D (dG objs fl x P f).1/\Keep (HF D) wr wr.drew):=⟨hh.still (Keep.refl none_ wr).drew,(Keep.refl _ wr).drew⟩
       have HKK:=au hk
       clear hh hk hz x8 hz2
       generalize (dG objs fl x P f).1.gu x (f:Int) (kY objs (fl.getD (dG objs fl x P f).2 0))=P2 at *
       generalize kY objs (fl.getD (dG objs fl x P f).2 0)=v at *
       generalize fl.getD (dG objs fl x P f).2 0=z at *
       generalize (dG objs fl x P f).2=kk at *
       generalize (dG objs fl x P f).1=P1 at *
       go_wp2_with fail
       go_region_held3 (fun W'=>W'.cell? ⟨w.heap.size,8,none⟩=some (.slice (some ⟨b2,off2,none⟩) n2 p2)/\W'.cell? ⟨b,off+t,none⟩=some (ah ((x:Nat):Int))/\W'.cell? ⟨b2,off2+kk,none⟩=some (.int .u8 ((z:Nat):Int)))
        (first
         | exact ⟨y8,yc,yz⟩
         | exact Kw.out _ hk5.out
         | exact Kw.out _ HH.out.2
         | fail "ji")
        (first
         | (go_at_call 73
            refine Ny.out.mono ?_
            rintro e w5 ⟨rfl,rfl⟩)
         | (go_at_call 72
            refine (jJ.out _ HH.out.1 HH.out.2).mono ?_
            rintro e w5 ⟨⟨er2,rfl⟩,g5,hk5⟩)
         | fail "jZ")
       all_goals
        have Zc:Hid (aF w5 D P2/\Keep (HF D) w3 w5):=⟨g5.out,HKK.out.trans hk5.out⟩
        clear g5 hk5 y8 yc yz jJ Kw Ny HH
        go_wp2_with fail
        go_roundw
        case rel=>exact ⟨f+1,by omega,by go_num,by rw [HEO.out];go_num,by rw [HEO.out];exact Zc.out⟩
        case measure=>simp [intOf]<;>omega
      ·have AY:Hid (dG objs fl x P N=dG objs fl x P f):=by
        by_cases Jt:f<N
        ·have hns:¬ (dG objs fl x P f).2<fl.length:=by rw [l2];exact fun h9=>hcond ⟨Jt,h9⟩
         have:=Gn hns (N - f)
         rw [show f+(N - f)=N by omega] at this
         exact this
        ·rw [show f=N by omega];rfl
       have Zd:Hid (aF wr D (jH objs fl (H1,0) (t+1)).1/\Keep (HF D) w3 wr):=by
        rw [Zb.out,AY.out]
        exact ⟨hh,hk⟩
       have HE6:Hid (jH objs fl (H1,0) (t+1)=dG objs fl x P f):=Zb.out.trans AY.out
       have hcond2:(f<N/\¬ (dG objs fl x P f).2<n2)\/¬ f<N:=by
        by_cases Jt:f<N
        ·exact .inl ⟨Jt,fun h9=>hcond ⟨Jt,h9⟩⟩
        ·exact .inr Jt
       clear hh hk AY Zb hcond
       rcases hcond2 with ⟨Jt,hnk⟩|Jt
       ·have hfI:(f:Int)<(N:Int):=by omega
        have aem:¬ ((dG objs fl x P f).2:Int)<(n2:Int):=by omega
        generalize hkk:(dG objs fl x P f).2=kk at *
        go_wp2_with fail
        go_roundw
        case rel=>exact ⟨t+1,by omega,by go_num,by rw [HE6.out,hkk],Zd.out⟩
        case measure=>simp [intOf]<;>omega
       ·have hfI:¬ (f:Int)<(N:Int):=by omega
        generalize hkk:(dG objs fl x P f).2=kk at *
        go_wp2_with fail
        go_roundw
        case rel=>exact ⟨t+1,by omega,by go_num,by rw [HE6.out,hkk],Zd.out⟩
        case measure=>simp [intOf]<;>omega
    ·obtain rfl:t=L:=by omega
     have Qn:¬ (t:Int)<(t:Int):=by omega
     have HI7:Hid (aF wr D (qH objs ce (jH objs fl (H1,0) t).1 0)/\Keep (HF D) w3 wr):=⟨hh,hk⟩
     have BA:Hid (∀ W,aF W D (qH objs ce (jH objs fl (H1,0) t).1 n3)->aF W D LP):=fun W g=>nN.out W _ rfl g
     clear hh hk
     generalize (jH objs fl (H1,0) t).1=P at *
     generalize (jH objs fl (H1,0) t).2=kk at *
     go_wp2_with fail
     go_loopw [12] (fun i wr=>∃ y:Nat,y<=n3/\i = ah y/\aF wr D (qH objs ce P y)/\Keep (HF D) w3 wr) (fun i _=>n3 - (intOf i).toNat)
     case atStart=>exact ⟨0,Nat.zero_le _,rfl,HI7.out⟩
     case round =>
      obtain ⟨y,hy,rfl,hh,hk⟩:=hrel
      obtain ⟨_,_,x9⟩:=Nh.out wr (gy.out.trans hk)
      by_cases hyn:y<n3
      ·have hyI:(y:Int)<(n3:Int):=by omega
       have hy0:(0:Int)<=(y:Int):=by omega
       obtain ⟨b3,off3,rfl,hz,hz2⟩:=(H3.out wr (gy.out.trans hk)).cell hyn
       have Ny:Hid (Calls ay 73 #[.slice a t c,.int .u8 ((ce.getD y 0:Nat):Int)] wr fun e w'=>e = .returned (ah (kY objs (ce.getD y 0):Int))/\wr=w'):=VZ.out wr a c _ (HR3.out wr hk).1 hz2
       have jJ:Hid (Calls ay 74 #[aj (D 0),ah ((y:Nat):Int),ah ((kY objs (ce.getD y 0):Nat):Int)] wr fun e w'=>(∃ er:Int,e = .returned (ah er))/\aF w' D (qH objs ce P (y+1))/\Keep (HF D) w3 w'):=by
        refine (VY.out wr _ y (kY objs (ce.getD y 0)) hh).mono ?_
        rintro e w' ⟨hv,g1,g2⟩
        exact ⟨hv,g1,hk.trans g2⟩
       clear hh hk hz2
       generalize kY objs (ce.getD y 0)=v at *
       generalize ce.getD y 0=z at *
       go_wp2_with fail
       refine Ny.out.mono ?_
       rintro e w5 ⟨rfl,rfl⟩
       go_wp2_with fail
       refine jJ.out.mono ?_
       rintro e w6 ⟨⟨er,rfl⟩,g1,g2⟩
       have lU:Hid (aF w6 D (qH objs ce P (y+1))/\Keep (HF D) w3 w6):=⟨g1,g2⟩
       clear g1 g2 hz x9 jJ Ny
       go_wp2_with fail
       go_roundw
       case rel=>exact ⟨y+1,by omega,by go_num,lU.out⟩
       case measure=>simp [intOf]<;>omega
      ·obtain rfl:y=n3:=by omega
       have hyI:¬ (y:Int)<(y:Int):=by omega
       have HE:=au (fD.out wr a c (HR3.out wr hk).2 (BA.out wr hh) (gy.out.trans hk) uw.out)
       clear hh hk
       go_wp2_with fail
       go_ret
       exact HE.out
end
end
end Go.Proofs.YtanfphjoebobaaaGreatDoor
