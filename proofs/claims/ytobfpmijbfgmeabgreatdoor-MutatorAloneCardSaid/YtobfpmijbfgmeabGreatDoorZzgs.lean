/- Parts of the walk. No conditions. -/
import Derived.StillTail
import Derived.OrdersIn
import Derived.TacticsInMore
import Derived.RangeFuncCalls
import Derived.Test.YtobfpmijbfgmeabGreatDoorZzg0
namespace Go.Proofs.YtobfpmijbfgmeabGreatDoor
section
open Go
section
variable {P:Program} {ops:Array Oper} {md:Region.Mode} {w:World} {n l0:Nat}
theorem Om (h:(Fence.wide.inRound l0).depth.isSome=true):False:=by cases h
theorem FW {o:Oper} {a:Act} {K:Act->Prop} {K':Act->World->Prop} {Q':Exit->Act->World->Prop} (hd:∀ c,o.op ≠ .defer c) (h:∀ a,K a->K' a w) (hh:o.still P a w K):o.wpIn (Fence.wide.inRound l0) n P a w K' Q':=by
 refine ⟨fun _ _=>trivial,?_⟩
 rw [Oper.semAt_eq _ _ _ hd]
 unfold Oper.still at hh
 generalize (execOp a.eval o).run P w=r at *
 cases r with
 | ok x w' =>
   cases x<;>simp only [Oper.stillUpon] at hh<;>simp only [Oper.uponIn]
   case enter f args =>
    obtain ⟨rfl,v,hc,hn⟩:=hh
    exact ⟨fun h=>(Om h).elim,CallsIn.mono (CallsIn.inRound l0 (callsIn_wide.2 hc)) fun e w'' ⟨he,hw⟩=>by subst he;subst hw;exact h _ hn⟩
   all_goals (obtain ⟨rfl,h2⟩:=hh;exact h _ h2)
 | halt x w'=>simp only [Oper.stillUpon] at hh
theorem D8 (hd:∀ (i:Nat) (o:Oper) c,ops[i]?=some o->o.op ≠ .defer c) {i:Nat} {a:Act} {K:Act->Prop} {K':Act->World->Prop} {Q':Exit->Act->World->Prop} (h:∀ a,K a->K' a w) (hh:stOp P ops w i K a):wpOpIn (Fence.wide.inRound l0) n P ops Q' i K' a w:=by
 unfold stOp at hh
 unfold wpOpIn
 split
 ·rename_i ho;simp only [ho] at hh;exact h _ hh
 ·rename_i o ho
  simp only [ho] at hh
  split
  ·rename_i hw;simp only [hw,if_true] at hh;exact FW (fun c=>hd i o c ho) h hh
  ·rename_i hw;simp only [hw] at hh;exact ⟨fun _ _=>trivial,h _ hh⟩
theorem vN (hd:∀ (i:Nat) (o:Oper) c,ops[i]?=some o->o.op ≠ .defer c) {q g:Nat} {L:Array Bool->Act->Prop} {Q':Exit->Act->World->Prop} (hL:∀ listed a,L listed a->wpAnyIn (Fence.wide.inRound l0) n P md ops Q' g listed a w) :
 ∀ (f:Nat) (listed:Array Bool) (a:Act),wpAnyL P md ops w q L f listed a->wpAnyIn (Fence.wide.inRound l0) n P md ops Q' (f+g) listed a w
 | 0,listed,a,h=>by rw [Nat.zero_add];exact hL _ _ h
 | f+1,listed,a,h=>by
   rw [show f+1+g=(f+g)+1 by omega]
   exact ⟨fun h0=>absurd h0 h.1,fun i hi=>D8 hd (fun a' h'=>vN hd hL f _ a' h') (h.2 i hi).2⟩
theorem wV {Q':Exit->Act->World->Prop}:∀ (l:List Oper) (k:Nat) (listed:Array Bool) (a:Act) (w:World),(∀ j,l[j]?=ops[k+j]?) ->
 Region.seqB md ops l.length k listed=true->wpListIn (Fence.wide.inRound l0) n P ops Q' l a w->wpAnyIn (Fence.wide.inRound l0) n P md ops Q' l.length listed a w
 | [],_,_,_,_,_,hB,h=>⟨by simpa [Region.seqB] using hB,h⟩
 | o::l,k,listed,a,w,hl,hB,h=>by
   have h0:ops[k]?=some o:=by simpa using (hl 0).symm
   simp only [List.length_cons,Region.seqB,Bool.and_eq_true,decide_eq_true_eq] at hB
   refine ⟨fun h1=>(by rw [hB.1] at h1;cases h1),fun i hi=>?_⟩
   rw [hB.1] at hi
   have hik:i=k:=by simpa using hi
   subst hik
   have hw:wpOpIn (Fence.wide.inRound l0) n P ops Q' i (wpListIn (Fence.wide.inRound l0) n P ops Q' l) a w:=by unfold wpOpIn;simp only [h0];exact h
   exact wpOpIn_mono (fun a' w' h'=>wV l (i+1) _ a' w' (fun j=>by have:=hl (j+1);simpa [Nat.add_assoc,Nat.add_comm 1 j] using this) hB.2 h') hw
def TB (ops:List Oper):Bool:=ops.all fun o=>match o.op with
 | .defer _=>false
 | _=>true
theorem wC {id:Nat} {Q:Exit->Act->World->Prop} {a:Act} {w:World} {l:List Oper} (q:Nat) (hm:P.follows .mixedOrders=true) (hB:Region.lexTailB .any l.toArray q=true) (hN:TB l=true)
 (h:wpStill P l.toArray { w with drawn:=w.drawn+1 } (fun a'=>wpListIn (Fence.wide.inRound l0) n P l.toArray Q (l.drop q) a' { w with drawn:=w.drawn+1 }) (l.take q) a):(Code.region id l.toArray true).wpIn (Fence.wide.inRound l0) n P Q a w:=by
 simp only [Region.lexTailB,Bool.and_eq_true,decide_eq_true_eq] at hB
 obtain ⟨⟨⟨⟨hsel,hn⟩,hs⟩,hc⟩,hlex⟩:=hB
 have hn':q<l.length:=by simpa using hn
 have htl:(l.take q).length=q:=by simp;omega
 have hdl:(l.drop q).length=l.toArray.size - q:=by simp
 have hd:∀ (i:Nat) (o:Oper) c,l.toArray[i]?=some o->o.op ≠ .defer c:=fun i o c hi e=>by
  have h1:o∈l:=List.mem_of_getElem? (by simpa using hi)
  have h2:=List.all_eq_true.1 hN o h1
  rw [e] at h2;cases h2
 have inv0:HeadInv .any l.toArray q (Array.replicate l.toArray.size false) :=
  ⟨by simp,fun j oj _ hl=>(by rw [getD_replicate_false] at hl;cases hl),fun t _ ht=>getD_in (by simpa using ht) (getD_replicate_false _ _)⟩
 have H:=wpAnyL_lex (md := .any) (g:=l.toArray.size - q) hsel hs hc hn (l.take q) 0 _ a (fun j hj=>by
  have hj':j<q:=by rw [htl] at hj;exact hj
  simp [hj']) (by simpa using htl) inv0 (by rw [htl];exact hlex) h
 refine wpIn_region_any hm ?_
 have:=vN (n:=n) (l0:=l0) hd (Q':=Q) (g:=l.toArray.size - q) (fun listed a' hL=>by
  have:=wV (n:=n) (l0:=l0) (md := .any) (Q':=Q) (l.drop q) q listed a' { w with drawn:=w.drawn+1 } (fun j=>by simp [List.getElem?_drop]) (by rw [hdl];exact hL.1) hL.2
  rwa [hdl] at this) _ _ _ H
 rw [htl,show q+(l.toArray.size - q)=l.toArray.size by omega] at this
 exact this
end
end
end Go.Proofs.YtobfpmijbfgmeabGreatDoor
