/- Parts of the fP. No conditions. -/
import Derived.StillTail
import Derived.Test.YtoamcpbapedofaaGreatDoorZzw0
namespace Go.Proofs.YtoamcpbapedofaaGreatDoor
open _root_.Array renaming replicate->IB
open _root_.Bool renaming and_eq_true->Iz
open _root_.List renaming all_eq_true->Iu,any_eq_true->Iy,mem_range->Iw
section
open Go
section
variable {P:Program} {ops:Array Oper} {md:Region.Mode} {w:World}
def vU (md:Region.Mode) (ops:Array Oper) (n:Nat):Bool :=
 (List.range ops.size).all fun t=>decide (t<=n)||(List.range t).any fun s=>decide (n<=s)&&Region.waitsFor md ops t s
theorem vV {n:Nat} {listed:Array Bool} (hs:Region.sinkB md ops n=true) (lF:HeadInv md ops n listed) (hr:n∈Region.ready md ops listed):∀ (d i:Nat),n - i=d->i<n->listed.getD i false=true:=by
 intro d
 induction d using Nat.strongRecOn with
 | _ d ih =>
   intro i hd hi
   have h1:=Iu.1 hs i (Iw.2 hi)
   obtain ⟨j,hj,h2⟩:=Iy.1 h1
   simp only [Iz,decide_eq_true_eq] at h2
   have hjn:=Iw.1 hj
   obtain ⟨oj,hoj,e,he,hb,hon⟩:=Region.waitsFor_spec h2.2
   rw [<- hon]
   rcases Nat.lt_or_ge j n with hlt|hge
   ·exact lF.closed j oj hoj (ih (n - j) (by omega) j rfl hlt) e he hb
   ·obtain rfl:j=n:=by omega
    obtain ⟨_,o',ho',hall⟩:=mem_ready.1 hr
    obtain rfl:o'=oj:=Option.some.inj (ho'.symm.trans hoj)
    exact hall e he hb
theorem EM {n i:Nat} {listed:Array Bool} (hs:Region.sinkB md ops n=true) (hl:vU md ops n=true) (lF:HeadInv md ops n listed) (hin:i<n) (hun:listed.getD i true=false):∀ t,n<=t->t∉Region.ready md ops listed:=by
 intro t ht hr
 rcases Nat.lt_or_ge n t with hlt|hge
 ·obtain ⟨_,ot,hot,hall⟩:=mem_ready.1 hr
  have hts:t<ops.size:=(Array.getElem?_eq_some_iff.1 hot).1
  have h1:=Iu.1 hl t (Iw.2 hts)
  simp only [Bool.or_eq_true,decide_eq_true_eq] at h1
  rcases h1 with h1|h1
  ·omega
  ·obtain ⟨s,hs2,h3⟩:=Iy.1 h1
   simp only [Iz,decide_eq_true_eq] at h3
   have hst:=Iw.1 hs2
   obtain ⟨o',ho',e,he,hb,hon⟩:=Region.waitsFor_spec h3.2
   obtain rfl:o'=ot:=Option.some.inj (ho'.symm.trans hot)
   have h4:=hall e he hb
   rw [hon,getD_both (lF.tail s h3.1 (by omega))] at h4
   cases h4
 ·obtain rfl:t=n:=by omega
  have h1:=vV hs lF hr _ i rfl hin
  rw [getD_both hun] at h1
  cases h1
theorem o7 {n i:Nat} {oi:Oper} {v:Value} {L:Array Bool->Act->Prop} (hi:ops[i]?=some oi) (hsel:∀ (j:Nat) (o:Oper) cs b,ops[j]?=some o->o.op ≠ .select cs b)
 (zN:∀ listed:Array Bool,HeadInv md ops n listed->listed.getD i true=false->∀ t,n<=t->t∉Region.ready md ops listed) (hdone:∀ listed a,L listed a->∀ j∈Region.ready md ops listed,n<=j) (hin:i<n) :
 ∀ (f:Nat) (listed:Array Bool) (a:Act),HeadInv md ops n listed ->
  (∀ j oj,ops[j]?=some oj->j≠i->listed.getD j true=false->(∀ e∈oj.after,Region.binds md e=true->e.on≠i)->oi.apart ops oj=true) ->
  i∈Region.ready md ops listed->YieldsAt P ops w oi v a ->
  wpAnyL P md ops w n L f (listed.setIfInBounds i true) (a.put oi.dst v)->wpAnyL P md ops w n L (f+1) listed a
 | f,listed,a,lF,hfree,hr,hy,H=>by
   have hun:=(mem_ready.1 hr).1
   have hbelow:∀ j∈Region.ready md ops listed,j<n:=fun j hj=>Nat.lt_of_not_le fun h=>zN listed lF hun j h hj
   refine ⟨fun h0=>(by rw [h0] at hr;cases hr),fun j hj=>⟨hbelow j hj,?_⟩⟩
   by_cases hji:j=i
   ·subst hji
    exact hy.stOp hi H
   cases f with
   | zero =>
     have:=hdone _ _ H j (ready_mono hj hji)
     have:=hbelow j hj
     omega
   | succ f =>
     obtain ⟨hjun,oj,hoj,hall⟩:=mem_ready.1 hj
     have hnot:∀ e∈oj.after,Region.binds md e=true->e.on≠i:=fun e he hb heq=>by
      have h1:=hall e he hb
      rw [heq,getD_both hun] at h1
      cases h1
     have h2:=stOp_put hoj (hfree j oj hoj hji hjun hnot) (fun cs b=>hsel i oi cs b hi) (fun cs b=>hsel j oj cs b hoj) hy (H.2 j (ready_mono hj hji)).2
     refine stOp_mono (fun a' h3=>o7 hi hsel zN hdone hin f (listed.setIfInBounds j true) a' (lF.set hj (hbelow j hj)) ?_ (ready_mono hr (Ne.symm hji)) h3.1 ?_) h2
     ·intro k ok hk hki hun2 hno
      refine hfree k ok hk hki ?_ hno
      by_cases hjk:j=k
      ·subst hjk;exact hjun
      ·rwa [getD_set_ne true hjk] at hun2
     ·rw [Array.setIfInBounds_comm _ _ hji]
      exact h3.2
def jK (md:Region.Mode) (ops:Array Oper) (B:Array Bool->Bool):Nat->Nat->Array Bool->Bool
 | 0,_,listed=>B listed
 | f+1,k,listed=>(Region.ready md ops listed).contains k&&Region.free md ops listed k&&jK md ops B f (k+1) (listed.setIfInBounds k true)
theorem sG {n:Nat} {B:Array Bool->Bool} {Lq:Act->Prop} (hsel:Region.noSelect ops=true) (hs:Region.sinkB md ops n=true) (hl:vU md ops n=true) (hB0:∀ listed,B listed=true->∀ j∈Region.ready md ops listed,n<=j) :
 ∀ (l:List Oper) (k:Nat) (listed:Array Bool) (a:Act),(∀ j,j<l.length->l[j]?=ops[k+j]?)->k+l.length=n->HeadInv md ops n listed ->
 jK md ops B l.length k listed=true->wpStill P ops w Lq l a->wpAnyL P md ops w n (fun listed' a'=>B listed'=true/\Lq a') l.length listed a
 | [],k,listed,a,_,_,_,hB,h=>⟨by simpa [jK] using hB,h⟩
 | o::l,k,listed,a,hl',hk,lF,hB,h=>by
   have h0:ops[k]?=some o:=by simpa using (hl' 0 (by simp)).symm
   simp only [List.length_cons,jK,Iz] at hB
   obtain ⟨⟨hr,hf⟩,hB'⟩:=hB
   have hkn:k<n:=by simp only [List.length_cons] at hk;omega
   have hr':k∈Region.ready md ops listed:=by simpa using hr
   have hst:stOp P ops w k (wpStill P ops w Lq l) a:=by unfold stOp;simp only [h0];exact h
   obtain ⟨v,hy,hK⟩:=yieldsAt_of_stOp h0 hst
   exact o7 h0 (Region.noSelect_spec hsel) (fun listed' EN hun=>EM hs hl EN hkn hun) (fun listed' a' hL=>hB0 listed' hL.1) hkn l.length listed a lF (Region.free_spec h0 hf) hr' hy
    (sG hsel hs hl hB0 l (k+1) _ _ (fun j hj=>by have:=hl' (j+1) (by simp;omega);simpa [Nat.add_assoc,Nat.add_comm 1 j] using this) (by simp only [List.length_cons] at hk;omega) (lF.set hr' hkn) hB' hK)
def qX (md:Region.Mode) (ops:Array Oper) (n:Nat) (listed:Array Bool):Bool :=
 decide (Region.ready md ops listed=[n])&&Region.lexFrom md ops (ops.size - n - 1) (n+1) (listed.setIfInBounds n true)
def BD (md:Region.Mode) (ops:Array Oper) (n:Nat):Bool :=
 Region.noSelect ops&&decide (n<ops.size)&&Region.sinkB md ops n&&vU md ops n&&jK md ops (qX md ops n) n 0 (IB ops.size false)
theorem fQ {id:Nat} {Q:Exit->Act->World->Prop} {a:Act} {w:World} {l:List Oper} {o:Oper} (n:Nat) (ho:l[n]?=some o) (hm:P.follows .mixedOrders=true) (hB:BD .any l.toArray n=true)
 (h:∀ K:Act->World->Prop,(∀ a w',wpStill P l.toArray w' (fun a'=>Q .normal a' w') (l.drop (n+1)) a->K a w') ->
  wpStill P l.toArray { w with drawn:=w.drawn+1 } (fun a'=>if Region.wanted o (yielded l.toArray a'.tmps) then o.wp P a' { w with drawn:=w.drawn+1 } K Q else K (a'.put o.dst undef) { w with drawn:=w.drawn+1 }) (l.take n) a):(Code.region id l.toArray true).wp P Q a w:=by
 simp only [BD,Iz,decide_eq_true_eq] at hB
 obtain ⟨⟨⟨⟨hsel,hn⟩,hs⟩,hl⟩,hlex⟩:=hB
 have hn':n<l.length:=by simpa using hn
 have htl:(l.take n).length=n:=by simp;omega
 have hdl:(l.drop (n+1)).length=l.toArray.size - n - 1:=by simp;omega
 have inv0:HeadInv .any l.toArray n (IB l.toArray.size false) :=
  ⟨by simp,fun j oj _ hl=>(by rw [getD_replicate_false] at hl;cases hl),fun t _ ht=>getD_in (by simpa using ht) (getD_replicate_false _ _)⟩
 have h':=h _ (fun _ _ h=>h)
 have H:=sG (md := .any) (B:=qX .any l.toArray n) hsel hs hl (fun listed hb j hj=>by
  simp only [qX,Iz,decide_eq_true_eq] at hb
  rw [hb.1] at hj
  simp at hj
  omega) (l.take n) 0 _ a (fun j hj=>by
   have hj':j<n:=by rw [htl] at hj;exact hj
   simp [hj']) (by simpa using htl) inv0 (by rw [htl];exact hlex) h'
 refine wp_region_any hm ?_
 have:=wpAny_of_head (Q':=Q) (g:=l.toArray.size - n - 1+1) (fun listed a' hL=>by
  obtain ⟨hb,hq⟩:=hL
  simp only [qX,Iz,decide_eq_true_eq] at hb
  refine wpAny_all hb.1 (by simp) (fun i hi=>?_)
  obtain rfl:i=n:=by simpa using hi
  have hoi:l.toArray[i]?=some o:=by simpa using ho
  have key:∀ a'' w'',wpStill P l.toArray w'' (fun a3=>Q .normal a3 w'') (l.drop (i+1)) a''->wpAny P .any l.toArray Q (l.toArray.size - i - 1) (listed.setIfInBounds i true) a'' w'':=fun a'' w'' h3=>by
   refine wpAny_of_still (Q:=fun a3=>Q .normal a3 w'') (fun _ h=>h) _ _ _ ?_
   have:=wpAnyS_lex (md := .any) hsel (l.drop (i+1)) (i+1) (listed.setIfInBounds i true) a'' (fun j=>by simp [List.getElem?_drop]) (by rw [hdl];exact hb.2) h3
   rwa [hdl] at this
  unfold wpOp
  simp only [hoi]
  split
  ·rename_i hw
   rw [jh hw] at hq
   exact .inl (Oper.wp_mono key hq)
  ·rename_i hw
   rw [bT hw] at hq
   exact key _ _ hq) _ _ _ H
 rw [htl,show n+(l.toArray.size - n - 1+1)=l.toArray.size by omega] at this
 exact this
end
end
end Go.Proofs.YtoamcpbapedofaaGreatDoor
