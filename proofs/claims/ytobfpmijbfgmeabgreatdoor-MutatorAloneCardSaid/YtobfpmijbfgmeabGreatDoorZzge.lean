/- Parts of the walk. No conditions. -/
import Derived.StillTail
import Derived.Test.YtobfpmijbfgmeabGreatDoorZzg0
namespace Go.Proofs.YtobfpmijbfgmeabGreatDoor
open _root_.Array renaming replicate->acv
open _root_.Bool renaming and_eq_true->acu
open _root_.List renaming all_eq_true->acp,any_eq_true->acs,mem_range->acr
section
open Go
section
variable {P:Program} {ops:Array Oper} {md:Region.Mode} {w:World}
def MX (md:Region.Mode) (ops:Array Oper) (n:Nat):Bool :=
 (List.range ops.size).all fun t=>decide (t<=n)||(List.range t).any fun s=>decide (n<=s)&&Region.waitsFor md ops t s
theorem MZ {n:Nat} {listed:Array Bool} (hs:Region.sinkB md ops n=true) (dQ:HeadInv md ops n listed) (hr:n∈Region.ready md ops listed):∀ (d i:Nat),n - i=d->i<n->listed.getD i false=true:=by
 intro d
 induction d using Nat.strongRecOn with
 | _ d ih =>
   intro i hd hi
   have h1:=acp.1 hs i (acr.2 hi)
   obtain ⟨j,hj,h2⟩:=acs.1 h1
   simp only [acu,decide_eq_true_eq] at h2
   have hjn:=acr.1 hj
   obtain ⟨oj,hoj,e,he,hb,hon⟩:=Region.waitsFor_spec h2.2
   rw [<- hon]
   rcases Nat.lt_or_ge j n with hlt|hge
   ·exact dQ.closed j oj hoj (ih (n - j) (by omega) j rfl hlt) e he hb
   ·obtain rfl:j=n:=by omega
    obtain ⟨_,o',ho',hall⟩:=mem_ready.1 hr
    obtain rfl:o'=oj:=Option.some.inj (ho'.symm.trans hoj)
    exact hall e he hb
theorem aaj {n i:Nat} {listed:Array Bool} (hs:Region.sinkB md ops n=true) (hl:MX md ops n=true) (dQ:HeadInv md ops n listed) (hin:i<n) (hun:listed.getD i true=false):∀ t,n<=t->t∉Region.ready md ops listed:=by
 intro t ht hr
 rcases Nat.lt_or_ge n t with hlt|hge
 ·obtain ⟨_,ot,hot,hall⟩:=mem_ready.1 hr
  have hts:t<ops.size:=(Array.getElem?_eq_some_iff.1 hot).1
  have h1:=acp.1 hl t (acr.2 hts)
  simp only [Bool.or_eq_true,decide_eq_true_eq] at h1
  rcases h1 with h1|h1
  ·omega
  ·obtain ⟨s,hs2,h3⟩:=acs.1 h1
   simp only [acu,decide_eq_true_eq] at h3
   have hst:=acr.1 hs2
   obtain ⟨o',ho',e,he,hb,hon⟩:=Region.waitsFor_spec h3.2
   obtain rfl:o'=ot:=Option.some.inj (ho'.symm.trans hot)
   have h4:=hall e he hb
   rw [hon,getD_both (dQ.tail s h3.1 (by omega))] at h4
   cases h4
 ·obtain rfl:t=n:=by omega
  have h1:=MZ hs dQ hr _ i rfl hin
  rw [getD_both hun] at h1
  cases h1
theorem Ci {n i:Nat} {oi:Oper} {v:Value} {L:Array Bool->Act->Prop} (hi:ops[i]?=some oi) (hsel:∀ (j:Nat) (o:Oper) cs b,ops[j]?=some o->o.op ≠ .select cs b)
 (UC:∀ listed:Array Bool,HeadInv md ops n listed->listed.getD i true=false->∀ t,n<=t->t∉Region.ready md ops listed) (hdone:∀ listed a,L listed a->∀ j∈Region.ready md ops listed,n<=j) (hin:i<n) :
 ∀ (f:Nat) (listed:Array Bool) (a:Act),HeadInv md ops n listed ->
  (∀ j oj,ops[j]?=some oj->j≠i->listed.getD j true=false->(∀ e∈oj.after,Region.binds md e=true->e.on≠i)->oi.apart ops oj=true) ->
  i∈Region.ready md ops listed->YieldsAt P ops w oi v a ->
  wpAnyL P md ops w n L f (listed.setIfInBounds i true) (a.put oi.dst v)->wpAnyL P md ops w n L (f+1) listed a
 | f,listed,a,dQ,hfree,hr,hy,H=>by
   have hun:=(mem_ready.1 hr).1
   have hbelow:∀ j∈Region.ready md ops listed,j<n:=fun j hj=>Nat.lt_of_not_le fun h=>UC listed dQ hun j h hj
   refine ⟨fun h0=>(by rw [h0] at hr;cases hr),fun j hj=>⟨hbelow j hj,?_⟩⟩
   by_cases hji:j=i
   ·subst hji
    exact hy.stOp hi H
   cases f with
   | zero =>
     have:=hdone _ _ H j (ready_mono hj hji)
     have:=hbelow j hj
     omega
   | succ f =>
     obtain ⟨hjun,oj,hoj,hall⟩:=mem_ready.1 hj
     have hnot:∀ e∈oj.after,Region.binds md e=true->e.on≠i:=fun e he hb heq=>by
      have h1:=hall e he hb
      rw [heq,getD_both hun] at h1
      cases h1
     have h2:=stOp_put hoj (hfree j oj hoj hji hjun hnot) (fun cs b=>hsel i oi cs b hi) (fun cs b=>hsel j oj cs b hoj) hy (H.2 j (ready_mono hj hji)).2
     refine stOp_mono (fun a' h3=>Ci hi hsel UC hdone hin f (listed.setIfInBounds j true) a' (dQ.set hj (hbelow j hj)) ?_ (ready_mono hr (Ne.symm hji)) h3.1 ?_) h2
     ·intro k ok hk hki hun2 hno
      refine hfree k ok hk hki ?_ hno
      by_cases hjk:j=k
      ·subst hjk;exact hjun
      ·rwa [getD_set_ne true hjk] at hun2
     ·rw [Array.setIfInBounds_comm _ _ hji]
      exact h3.2
def uF (md:Region.Mode) (ops:Array Oper) (B:Array Bool->Bool):Nat->Nat->Array Bool->Bool
 | 0,_,listed=>B listed
 | f+1,k,listed=>(Region.ready md ops listed).contains k&&Region.free md ops listed k&&uF md ops B f (k+1) (listed.setIfInBounds k true)
theorem Gx {n:Nat} {B:Array Bool->Bool} {Lq:Act->Prop} (hsel:Region.noSelect ops=true) (hs:Region.sinkB md ops n=true) (hl:MX md ops n=true) (hB0:∀ listed,B listed=true->∀ j∈Region.ready md ops listed,n<=j) :
 ∀ (l:List Oper) (k:Nat) (listed:Array Bool) (a:Act),(∀ j,j<l.length->l[j]?=ops[k+j]?)->k+l.length=n->HeadInv md ops n listed ->
 uF md ops B l.length k listed=true->wpStill P ops w Lq l a->wpAnyL P md ops w n (fun listed' a'=>B listed'=true/\Lq a') l.length listed a
 | [],k,listed,a,_,_,_,hB,h=>⟨by simpa [uF] using hB,h⟩
 | o::l,k,listed,a,hl',hk,dQ,hB,h=>by
   have h0:ops[k]?=some o:=by simpa using (hl' 0 (by simp)).symm
   simp only [List.length_cons,uF,acu] at hB
   obtain ⟨⟨hr,hf⟩,hB'⟩:=hB
   have hkn:k<n:=by simp only [List.length_cons] at hk;omega
   have hr':k∈Region.ready md ops listed:=by simpa using hr
   have hst:stOp P ops w k (wpStill P ops w Lq l) a:=by unfold stOp;simp only [h0];exact h
   obtain ⟨v,hy,hK⟩:=yieldsAt_of_stOp h0 hst
   exact Ci h0 (Region.noSelect_spec hsel) (fun listed' aak hun=>aaj hs hl aak hkn hun) (fun listed' a' hL=>hB0 listed' hL.1) hkn l.length listed a dQ (Region.free_spec h0 hf) hr' hy
    (Gx hsel hs hl hB0 l (k+1) _ _ (fun j hj=>by have:=hl' (j+1) (by simp;omega);simpa [Nat.add_assoc,Nat.add_comm 1 j] using this) (by simp only [List.length_cons] at hk;omega) (dQ.set hr' hkn) hB' hK)
def F6 (md:Region.Mode) (ops:Array Oper) (n:Nat) (listed:Array Bool):Bool :=
 decide (Region.ready md ops listed=[n])&&Region.lexFrom md ops (ops.size - n - 1) (n+1) (listed.setIfInBounds n true)
def WM (md:Region.Mode) (ops:Array Oper) (n:Nat):Bool :=
 Region.noSelect ops&&decide (n<ops.size)&&Region.sinkB md ops n&&MX md ops n&&uF md ops (F6 md ops n) n 0 (acv ops.size false)
theorem aN {id:Nat} {Q:Exit->Act->World->Prop} {a:Act} {w:World} {l:List Oper} {o:Oper} (n:Nat) (ho:l[n]?=some o) (hm:P.follows .mixedOrders=true) (hB:WM .any l.toArray n=true)
 (h:∀ K:Act->World->Prop,(∀ a w',wpStill P l.toArray w' (fun a'=>Q .normal a' w') (l.drop (n+1)) a->K a w') ->
  wpStill P l.toArray { w with drawn:=w.drawn+1 } (fun a'=>if Region.wanted o (yielded l.toArray a'.tmps) then o.wp P a' { w with drawn:=w.drawn+1 } K Q else K (a'.put o.dst undef) { w with drawn:=w.drawn+1 }) (l.take n) a):(Code.region id l.toArray true).wp P Q a w:=by
 simp only [WM,acu,decide_eq_true_eq] at hB
 obtain ⟨⟨⟨⟨hsel,hn⟩,hs⟩,hl⟩,hlex⟩:=hB
 have hn':n<l.length:=by simpa using hn
 have htl:(l.take n).length=n:=by simp;omega
 have hdl:(l.drop (n+1)).length=l.toArray.size - n - 1:=by simp;omega
 have inv0:HeadInv .any l.toArray n (acv l.toArray.size false) :=
  ⟨by simp,fun j oj _ hl=>(by rw [getD_replicate_false] at hl;cases hl),fun t _ ht=>getD_in (by simpa using ht) (getD_replicate_false _ _)⟩
 have h':=h _ (fun _ _ h=>h)
 have H:=Gx (md := .any) (B:=F6 .any l.toArray n) hsel hs hl (fun listed hb j hj=>by
  simp only [F6,acu,decide_eq_true_eq] at hb
  rw [hb.1] at hj
  simp at hj
  omega) (l.take n) 0 _ a (fun j hj=>by
   have hj':j<n:=by rw [htl] at hj;exact hj
   simp [hj']) (by simpa using htl) inv0 (by rw [htl];exact hlex) h'
 refine wp_region_any hm ?_
 have:=wpAny_of_head (Q':=Q) (g:=l.toArray.size - n - 1+1) (fun listed a' hL=>by
  obtain ⟨hb,hq⟩:=hL
  simp only [F6,acu,decide_eq_true_eq] at hb
  refine wpAny_all hb.1 (by simp) (fun i hi=>?_)
  obtain rfl:i=n:=by simpa using hi
  have hoi:l.toArray[i]?=some o:=by simpa using ho
  have key:∀ a'' w'',wpStill P l.toArray w'' (fun a3=>Q .normal a3 w'') (l.drop (i+1)) a''->wpAny P .any l.toArray Q (l.toArray.size - i - 1) (listed.setIfInBounds i true) a'' w'':=fun a'' w'' h3=>by
   refine wpAny_of_still (Q:=fun a3=>Q .normal a3 w'') (fun _ h=>h) _ _ _ ?_
   have:=wpAnyS_lex (md := .any) hsel (l.drop (i+1)) (i+1) (listed.setIfInBounds i true) a'' (fun j=>by simp [List.getElem?_drop]) (by rw [hdl];exact hb.2) h3
   rwa [hdl] at this
  unfold wpOp
  simp only [hoi]
  split
  ·rename_i hw
   rw [aV hw] at hq
   exact .inl (Oper.wp_mono key hq)
  ·rename_i hw
   rw [aO hw] at hq
   exact key _ _ hq) _ _ _ H
 rw [htl,show n+(l.toArray.size - n - 1+1)=l.toArray.size by omega] at this
 exact this
end
end
end Go.Proofs.YtobfpmijbfgmeabGreatDoor
