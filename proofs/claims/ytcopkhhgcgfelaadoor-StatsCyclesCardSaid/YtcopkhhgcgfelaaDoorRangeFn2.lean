/- A range over a function, by one law, for an iterator that keeps memory of its own over the rounds: the iterator tells the elements of a list, one by one, each with what lies in memory for it; the body may leave early. Of no program. -/
import Derived.Test.YtcopkhhgcgfelaaDoorMem
import Derived.RangeFuncNested
import Derived.RangeFuncLeaves
import Derived.WalkKit
import Derived.OwnWalkIn
import Derived.TacticsInMore
import Derived.LoopNIn
import Derived.LoopIn
import Derived.Scope
import Derived.ControlIn
namespace Go.Proofs.YtcopkhhgcgfelaaDoor
open Go.RowKit

section
variable {F : Fence} {n : Nat} {P : Program} {b : Frame} {a : Act} {k : List Item} {cs : List Frame} {w : World} {Q : Exit → Act → World → Prop}
theorem stepR_scope {c : Code} : step P (lone (b.atR a (.code (.scope c) :: k)) cs w) = .next (lone (b.atR a (.code c :: .inScope c :: k)) cs w) :=
  step_lone_go (by simp [stepG, stepG.exec, Frame.atR])
theorem stepR_inScope {c : Code} : step P (lone (b.atR a (.inScope c :: k)) cs w) = .next (lone (b.atR a k) cs w) :=
  step_lone_go (by simp [stepG, stepG.exec, Frame.atR])
theorem wpIn_scope {c : Code} (h : c.wpIn F n P (Exit.noGoto Q) a w) : (Code.scope c).wpIn F n P Q a w := by
  intro b k cs hro hb hr
  have h0 : (lone (b.atR a (.code (.scope c) :: k)) cs w).fenced P F := fenced_calm hb hr rfl
  obtain ⟨e, a₁, w₁, hq, harr⟩ := h b (.inScope c :: k) cs hro hb hr
  cases e with
  | normal => exact ⟨.normal, a₁, w₁, hq, .head h0 stepR_scope (StepsIn.trans harr (.one (fenced_calm hb hr rfl) stepR_inScope))⟩
  | exit id =>
    have hx : exitTo id (.inScope c :: k) = exitTo id k := by simp [exitTo]
    exact ⟨.exit id, a₁, w₁, hq, fun k' hk => .head h0 stepR_scope (harr.1 k' (by rw [hx]; exact hk)),
      fun hr' hk => let ⟨k₁, h1, h2⟩ := harr.2 hr' (by rw [hx]; exact hk); ⟨k₁, h1, .head h0 stepR_scope h2⟩⟩
  | goto l => exact hq.elim
  | ret => exact ⟨_, a₁, w₁, hq, .of_steps (.one h0 stepR_scope) harr⟩
  | panic ch => exact ⟨_, a₁, w₁, hq, .of_steps (.one h0 stepR_scope) harr⟩
  | outgrown => exact ⟨_, a₁, w₁, hq, .of_steps (.one h0 stepR_scope) harr⟩
end
/-- What a round keeps: the blocks of G, and no block goes. -/
structure Holds (G : Nat → Prop) (W W' : World) : Prop where
  size : W.heap.size ≤ W'.heap.size
  same : ∀ b, b < W.heap.size → G b → W'.heap[b]? = W.heap[b]?
theorem Holds.refl (G : Nat → Prop) (W : World) : Holds G W W := ⟨Nat.le_refl _, fun _ _ _ => rfl⟩
theorem Holds.trans {G : Nat → Prop} {A B C : World} (h : Holds G A B) (k : Holds G B C) : Holds G A C := ⟨Nat.le_trans h.size k.size, fun b hl hb => (k.same b (Nat.lt_of_lt_of_le hl h.size) hb).trans (h.same b hl hb)⟩
theorem Holds.putObj {G : Nat → Prop} (W : World) (l : Nat) (o : Obj) (hl : ¬ G l) : Holds G W (W.putObj l o) := ⟨by simp, fun b _ hb => World.putObj_heap_other (fun e => hl (e ▸ hb))⟩
theorem Holds.ofKeep {G S : Nat → Prop} {W W' : World} (k : Keep S W W') (hG : ∀ b, G b → ¬ S b) : Holds G W W' := ⟨k.size, fun b hl hb => k.block b hl (hG b hb)⟩
theorem Holds.blk {G : Nat → Prop} {W W' : World} (h : Holds G W W') {B cs T} (hB : G B) (hb : Blk W B cs T) : Blk W' B cs T := by
  have hl := hb.lt
  unfold Blk at *
  rw [h.same B hl hB]; exact hb

/-- What holds of a world whatever new blocks there are. -/
def Grows (I : World → Prop) : Prop := ∀ W W', I W → Keep none_ W W' → I W'

/-- THE ITERATOR's CONTRACT: it tells the elements of 'all', each as 'Enc' says, till a round says that it is enough. -/
def SeqL {α : Type} (F : Fence) (n : Nat) (P : Program) (g : Nat) (lb : Array Value) (all : List α) (Enc : World → α → Array Value → Prop) (G : Nat → Prop) (w : World) : Prop :=
  ∀ (l : Nat) (J Jx : Nat → World → Prop) (W : World), Keep none_ w W → (∀ b, W.heap.size ≤ b → G b) → (∀ k, Grows (J k)) → (∀ k, Grows (Jx k)) →
    (∀ (k : Nat) (x : α) (args : Array Value) (W1 : World), all[k]? = some x → J k W1 → Enc W1 x args → YieldAt F (n - 1) P l args W1 fun e W' =>
      (e = .returned (.bool true) ∧ J (k + 1) W' ∧ Holds G W1 W') ∨ (e = .returned (.bool false) ∧ Jx (k + 1) W')) →
    J 0 W →
    CallsIn F n P g (#[.func (.yield l) #[] #[]] ++ lb) W fun e W' => (∃ v, e = .returned v) ∧ (J all.length W' ∨ ∃ k, k ≤ all.length ∧ Jx k W')

/-- What a round's walk ends in. -/
def roundEnd (B : Nat) (G : Nat → Prop) (I : Nat → World → Prop) (Ix : Code → Nat → World → Prop) (k : Nat) (W : World) : Exit → Act → World → Prop
  | .normal, _, W' => KeepsFrom B W W' ∧ Holds G W W' ∧ I k W'
  | .ret, _, W' => KeepsFrom B W W' ∧ Ix .ret k W'
  | .exit id, _, W' => KeepsFrom B W W' ∧ Ix (.exit id) k W'
  | .goto t, _, W' => KeepsFrom B W W' ∧ Ix (.goto t) k W'
  | .panic _, _, _ => False
  | .outgrown, _, _ => False

theorem ownFrom_keep {β : Type} {S : Nat → Prop} {w : World} {B : Nat} (hB : w.heap.size ≤ B) : OwnFrom B (fun (_ : β) W => Keep S w W) := by
  rintro s W W' row h hg hr
  exact h.trans' (T := fun i => row = some i) ⟨hg.os, hg.tape, hg.output, hg.size, fun k hk n => hg.block k hk (fun e => n e.symm)⟩ (fun i hi e => absurd (hr i e).1 (by omega))
theorem ownFrom_blk {β : Type} {b B : Nat} {cs : β → List Value} {T : TypeId} : OwnFrom B (fun (s : β) W => Blk W b (cs s) T) := by
  rintro s W W' row h hg hr
  have hlt := h.lt
  unfold Blk at *
  rw [hg.block b hlt (fun e => ?_)]
  · exact h
  · obtain ⟨_, _, ho, hc⟩ := hr b e.symm
    rw [h] at ho
    cases ho
    simp [Obj.isCells] at hc
theorem ownFrom_pure {β : Type} {B : Nat} {p : β → Prop} : OwnFrom B (fun (s : β) (_ : World) => p s) := fun _ _ _ _ h _ _ => h

theorem KeepsFrom.ofKeep {B : Nat} {W W' : World} (k : Keep none_ W W') : KeepsFrom B W W' :=
  ⟨k.size, fun i _ _ h _ => (k.block i (Array.getElem?_eq_some_iff.1 h).1 (fun f => f)).trans h⟩
theorem Keep.takeDeferred {S : Nat → Prop} {w0 W : World} (h : Keep S w0 W) {D : Nat} (hD : w0.heap.size ≤ D) (o : Obj) : Keep S w0 (W.putObj D o) :=
  h.trans' (T := fun i => i = D) ⟨rfl, rfl, rfl, by simp, fun k _ n => World.putObj_heap_other n⟩ (fun i hi e => absurd hi (by omega))
theorem Blk.putObj {W : World} {b : Nat} {cs : List Value} {T : TypeId} (h : Blk W b cs T) {D : Nat} {o o' : Obj} (hD : W.heap[D]? = some o) (ho : o.isCells = false) : Blk (W.putObj D o') b cs T := by
  unfold Blk at *
  rw [World.putObj_heap_other (fun e => by subst e; rw [h] at hD; cases hD; simp [Obj.isCells] at ho)]; exact h

variable {F : Fence} {n : Nat} {P : Program}

theorem rangeFn {α : Type} {g : Operand} {ps : Array Tmp} {assign body : Code} {Q : Exit → Act → World → Prop} {a : Act} {w : World}
    (hro : F.round = none) (h1 : 1 ≤ n) {gf : Nat} {lb : Array Value} (hg : a.eval g = .func (.func gf) #[] lb) (hFg : F.fn gf) (eg : ∀ args w, (callFunc gf args).run P w = .ok (.enter gf args) w)
    {all : List α} {Enc : World → α → Array Value → Prop} {G : Nat → Prop} (hseq : SeqL F (n - 1) P gf lb all Enc G w)
    (hG : ¬ G (w.heap.size + 1)) (hGn : ∀ b, w.heap.size + 2 ≤ b → G b) (hps : ∀ W x args, Enc W x args → args.size = ps.size)
    (I : Nat → World → Prop) (Ix : Code → Nat → World → Prop) (hI : OwnFrom w.heap.size I) (hIx : ∀ c, OwnFrom w.heap.size (Ix c)) (h0 : I 0 w)
    (hround : ∀ (l : Nat) (k : Nat) (x : α) (args : Array Value) (W : World), all[k]? = some x → Enc W x args → I k W →
      assign.wpIn (F.inRound l) (n - 1 - 1) P (Exit.then (fun a₁ W₁ => ∃ J : World → Prop, KeepsFrom w.heap.size W W₁ ∧ Holds G W W₁ ∧ J W₁ ∧ OwnFrom w.heap.size (fun (_ : Unit) W => J W) ∧
        ∀ W₂, J W₂ → body.wpIn (F.inRound l) (n - 1 - 1) P (roundEnd w.heap.size G I Ix (k + 1) W₂) a₁ W₂) (fun _ _ _ => False))
        { tmps := (ps.zip args).foldl (fun t (p, v) => t.setIfInBounds p v) a.tmps, defers := [] } W)
    (hdone : ∀ (D : Nat) (W : World), w.heap.size ≤ D → I all.length W → W.heap[D]? = some (.deferred (some [])) → Q .normal { a with defers := { target := .collected D, args := #[] } :: a.defers } W)
    (hstop : ∀ (D : Nat) (c : Code) (k : Nat) (W : World), w.heap.size ≤ D → k ≤ all.length → Ix c k W → W.heap[D]? = some (.deferred (some [])) → c.wpIn F n P Q { a with defers := { target := .collected D, args := #[] } :: a.defers } W) :
    (Code.rangeFunc g ps assign body).wpIn F n P Q a w := by
  refine wpIn_rangeFunc fun fn hfn => ?_
  rw [hro]
  let rec_ : LoopState → Option Code → Loop := fun st pe => { state := st, pending := pe, fn, tmps := a.tmps, params := ps, assign, body, defers := w.heap.size }
  let D := w.heap.size
  let L := w.heap.size + 1
  let W1 := (w.alloc (.deferred (some []))).alloc (.loop (rec_ .ready none))
  have kW1 : Keep none_ w W1 := ((Keep.refl _ _).alloc _).alloc _
  have sW1 : W1.heap.size = w.heap.size + 2 := by simp [W1]
  have eL : W1.heap[L]? = some (.loop (rec_ .ready none)) := by
    have := World.alloc_heap_new (w.alloc (.deferred (some []))) (.loop (rec_ .ready none))
    rwa [World.size_alloc] at this
  have eD : W1.heap[D]? = some (.deferred (some [])) := (Below.heap_alloc _ _ _ (by simp [D])).trans (World.alloc_heap_new w _)
  have grow : ∀ {β : Type} {B : Nat} {K : β → World → Prop}, OwnFrom B K → ∀ {s : β} {A C : World}, K s A → Keep none_ A C → K s C := by
    intro β B K hK s A C hs k
    exact hK s A C none hs ⟨k.os, k.tape, k.output, k.size, fun i hi _ => k.block i hi (fun f => f)⟩ (fun _ e => by cases e)
  have hlG : ¬ G L := hG
  refine ⟨L, [{ target := .collected D, args := #[] }], W1, { target := .fn (.func gf) lb, args := #[.func (.yield L) #[] #[]] }, W1, gf, #[.func (.yield L) #[] #[]] ++ lb, W1, run_enterLoop_outer _ _ _ _ _, ?_, ?_, ?_, fun _ => h1, ?_⟩
  · simp only [resolve, hg]; simp [go_sem]
  · intro f' hf'; simp [Target.leads] at hf'; subst hf'; exact hFg
  · simp [invoke, go_sem, eg]
  refine (hseq L (fun k W => I k W ∧ W.heap[L]? = some (.loop (rec_ .ready none)) ∧ W.heap[D]? = some (.deferred (some [])))
    (fun k W => ∃ c, Ix c k W ∧ W.heap[L]? = some (.loop (rec_ .done (some c))) ∧ W.heap[D]? = some (.deferred (some []))) W1 kW1 (fun b hb => hGn b (by rw [sW1] at hb; exact hb)) ?_ ?_ ?_ ⟨grow hI h0 kW1, eL, eD⟩).mono ?_
  · rintro k A C ⟨h, hl, hd⟩ kk
    exact ⟨grow hI h kk, (kk.block L (Array.getElem?_eq_some_iff.1 hl).1 (fun f => f)).trans hl, (kk.block D (Array.getElem?_eq_some_iff.1 hd).1 (fun f => f)).trans hd⟩
  · rintro k A C ⟨c, h, hl, hd⟩ kk
    exact ⟨c, grow (hIx c) h kk, (kk.block L (Array.getElem?_eq_some_iff.1 hl).1 (fun f => f)).trans hl, (kk.block D (Array.getElem?_eq_some_iff.1 hd).1 (fun f => f)).trans hd⟩
  · -- one round
    rintro k x args W hx ⟨hi, hl, hd⟩ henc
    refine ⟨fn, _, assign, body, run_yield hl (hps _ _ _ henc), roundIn_of_wpIn hfn (wpIn_mono (hround L k x args W hx henc hi) ?_)⟩
    rintro e a1 Wa hp1
    cases e <;> try exact hp1.elim
    obtain ⟨Jr, kr, gr, jr, hJr, hbd⟩ := hp1
    have hla := kr.same L _ (by simp [L]) hl rfl
    have hda := kr.same D _ (Nat.le_refl _) hd rfl
    have hlt := (Array.getElem?_eq_some_iff.1 hla).1
    refine ⟨_, run_beginRound hla rfl, ?_⟩
    let W2 := Wa.putObj L (.loop { rec_ .ready none with state := .busy })
    have hl2 : W2.heap[L]? = some (.loop { rec_ .ready none with state := .busy }) := World.putObj_heap_same hlt
    have hd2 : W2.heap[D]? = some (.deferred (some [])) := (World.putObj_heap_other (by simp [D, L])).trans hda
    have hj2 : Jr W2 := hJr.putObj (s := ()) _ jr (by simp [L]) hla rfl
    refine wpIn_mono (hbd W2 hj2) ?_
    -- the round's end
    have fin : ∀ (j : Option Code) (W3 : World), KeepsFrom w.heap.size W2 W3 → ∃ W4 : World, (Instr.endRound L j).run P W3 = .ok (.bool j.isNone) W4 ∧ W4 = W3.putObj L (.loop (rec_ (if j.isNone then .ready else .done) j)) ∧
        (∃ o : Obj, W3.heap[L]? = some o ∧ o.isCells = false) ∧ W4.heap[L]? = some (.loop (rec_ (if j.isNone then .ready else .done) j)) ∧ W4.heap[D]? = some (.deferred (some [])) := fun j W3 k3 => by
      have hl3 := k3.same L _ (by simp [L]) hl2 rfl
      exact ⟨_, run_endRound j hl3, rfl, ⟨_, hl3, rfl⟩, World.putObj_heap_same (Array.getElem?_eq_some_iff.1 hl3).1, (World.putObj_heap_other (by simp [D, L])).trans (k3.same D _ (Nat.le_refl _) hd2 rfl)⟩
    rintro e a3 W3 hp
    cases e with
    | normal =>
      obtain ⟨k3, g3, i3⟩ := hp
      obtain ⟨W4, hr, rfl, ⟨o, ho, hoc⟩, hl4, hd4⟩ := fin none W3 k3
      exact ⟨_, _, hr, .inl ⟨rfl, ⟨hI.putObj _ i3 (by simp [L]) ho hoc, hl4, hd4⟩, ((gr.trans (Holds.putObj Wa L _ hlG)).trans g3).trans (Holds.putObj W3 L _ hlG)⟩⟩
    | ret =>
      obtain ⟨k3, i3⟩ := hp
      obtain ⟨W4, hr, rfl, ⟨o, ho, hoc⟩, hl4, hd4⟩ := fin (some .ret) W3 k3
      exact ⟨_, _, hr, .inr ⟨rfl, .ret, (hIx _).putObj _ i3 (by simp [L]) ho hoc, hl4, hd4⟩⟩
    | exit id =>
      obtain ⟨k3, i3⟩ := hp
      obtain ⟨W4, hr, rfl, ⟨o, ho, hoc⟩, hl4, hd4⟩ := fin (some (.exit id)) W3 k3
      exact ⟨_, _, hr, .inr ⟨rfl, .exit id, (hIx _).putObj _ i3 (by simp [L]) ho hoc, hl4, hd4⟩⟩
    | goto t =>
      obtain ⟨k3, i3⟩ := hp
      obtain ⟨W4, hr, rfl, ⟨o, ho, hoc⟩, hl4, hd4⟩ := fin (some (.goto t)) W3 k3
      exact ⟨_, _, hr, .inr ⟨rfl, .goto t, (hIx _).putObj _ i3 (by simp [L]) ho hoc, hl4, hd4⟩⟩
    | panic ch => exact hp.elim
    | outgrown => exact hp.elim
  · -- behind the iterator
    rintro e W ⟨⟨v, rfl⟩, (⟨hi, hl, hd⟩ | ⟨k, hk, c, hi, hl, hd⟩)⟩
    · exact ⟨none, _, run_endLoop hl (by simp [rec_]), hdone D _ (Nat.le_refl _) (hI.putObj _ hi (by simp [L]) hl rfl) ((World.putObj_heap_other (by simp [D, L])).trans hd)⟩
    · exact ⟨some c, _, run_endLoop hl (by simp [rec_]), hstop D c k _ (Nat.le_refl _) hk ((hIx c).putObj _ hi (by simp [L]) hl rfl) ((World.putObj_heap_other (by simp [D, L])).trans hd)⟩
end Go.Proofs.YtcopkhhgcgfelaaDoor
