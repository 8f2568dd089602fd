/- A region that draws its order, inside a fence or a round, whose operations only read and whose callees leave what was there: one walk in the text's order serves every order. Of no program. -/
import Derived.Lib.QuietBelowIn
import Derived.OwnWalkIn
import Derived.Test.YtkjplkkjdlanhaaGreatDoorMem
namespace Go.Proofs.YtkjplkkjdlanhaaGreatDoor
open Go.Sort Go.RowKit

section
variable {F : Fence} {n : Nat} {P : Program} {ops : Array Oper} {md : Region.Mode} {C : World → Prop}

def noDefer (o : Oper) : Bool := match o.op with
  | .defer _ => false
  | _ => true
theorem noDefer_spec {o : Oper} (h : noDefer o = true) : ∀ c, o.op ≠ .defer c := by
  intro c e
  simp [noDefer, e] at h

theorem fenced_of_quiet {o : Oper} {a : Act} {K : Act → Prop} {K' : Act → World → Prop} {Q' : Exit → Act → World → Prop} {w : World} (hnd : noDefer o = true) (hw : C w) (h : ∀ a w', C w' → K a → K' a w')
    (ha : o.askedIn F P a C) (hh : o.quietIn F n P a C K) : o.wpIn F n P a w K' Q' := by
  obtain ⟨v, h1, h2⟩ := hh
  have h3 := h1 w hw
  refine ⟨ha w hw, ?_⟩
  rw [Oper.semAt_plain F _ _ (noDefer_spec hnd)]
  unfold Oper.quietAtIn at h3
  revert h3
  generalize (execOp a.eval o).run P w = r
  intro h3
  match r, h3 with
  | .ok (.value u) w', h3 => obtain ⟨rfl, rfl⟩ := h3; exact h _ _ hw h2
  | .ok .skip w', h3 => obtain ⟨rfl, rfl⟩ := h3; exact h _ _ hw h2
  | .ok (.enter f args) w', h3 =>
    obtain ⟨rfl, hd, hc⟩ := h3
    exact ⟨hd, hc.mono fun e w'' ⟨he, hk⟩ => by subst he; exact h _ _ hk h2⟩

theorem fencedOp_of_quiet {i : Nat} {a : Act} {K : Act → Prop} {K' : Act → World → Prop} {Q' : Exit → Act → World → Prop} {w : World} (hnd : ∀ o ∈ ops.toList, noDefer o = true) (hC : C w) (h : ∀ a w', C w' → K a → K' a w')
    (hh : qOpIn F n P ops C i K a) : wpOpIn F n P ops Q' i K' a w := by
  unfold qOpIn at hh
  unfold wpOpIn
  cases ho : ops[i]? with
  | none => simp only [ho] at hh ⊢; exact h _ _ hC hh
  | some o =>
    simp only [ho] at hh ⊢
    by_cases hw : Region.wanted o (yielded ops a.tmps) = true
    · simp only [hw, if_true] at hh ⊢
      exact fenced_of_quiet (hnd o (by simpa using Array.mem_of_getElem? ho)) hC h hh.1 hh.2
    · simp only [hw] at hh ⊢
      exact ⟨hh.1 w hC, h _ _ hC hh.2⟩

theorem anyIn_of_quiet {Q : Act → Prop} {Q' : Exit → Act → World → Prop} (hnd : ∀ o ∈ ops.toList, noDefer o = true) (hQ : ∀ a w, C w → Q a → Q' .normal a w) : ∀ (fuel : Nat) (listed : Array Bool) (a : Act) (w : World), C w →
    wpAnyQIn F n P md ops C Q fuel listed a → wpAnyIn F n P md ops Q' fuel listed a w
  | 0, _, _, _, hw, h => ⟨h.1, hQ _ _ hw h.2⟩
  | fuel + 1, _, _, _, hw, h => ⟨fun h0 => hQ _ _ hw (h.1 h0), fun i hi => fencedOp_of_quiet hnd hw (fun a' w' hw' k => anyIn_of_quiet hnd hQ fuel _ a' w' hw' k) (h.2 i hi)⟩

theorem region_quiet_r {id : Nat} {Q : Exit → Act → World → Prop} {a : Act} {w : World} {l : List Oper} (hnd : l.all noDefer = true) (hm : P.follows .mixedOrders = true) (hB : Region.lexB .any l.toArray = true)
    (h : wpQuietIn F n P l.toArray (fun w' => ∃ p : Regrown, w' = grow (redrawn w p.d) p.os) (fun a' => ∀ w', (∃ p : Regrown, w' = grow (redrawn w p.d) p.os) → Q .normal a' w') l a) : (Code.region id l.toArray true).wpIn F n P Q a w := by
  have hl : ∀ o ∈ l.toArray.toList, noDefer o = true := by simpa using hnd
  simp only [Region.lexB, Bool.and_eq_true] at hB
  refine wpIn_region_any hm (anyIn_of_quiet (C := fun w' => ∃ p : Regrown, w' = grow (redrawn w p.d) p.os) (Q := fun a' => ∀ w', (∃ p : Regrown, w' = grow (redrawn w p.d) p.os) → Q .normal a' w') hl (fun _ w' hw' h => h w' hw') _ _ _ _ ⟨⟨w.drawn + 1, #[]⟩, by rw [grow_empty]; rfl⟩ ?_)
  have := wpAnyQIn_lex (F := F) (n := n) (P := P) (C := fun w' => ∃ p : Regrown, w' = grow (redrawn w p.d) p.os) (md := .any) hB.1 l 0 (Array.replicate l.toArray.size false) a (by simp) (by simpa using hB.2) h
  simpa using this
end

/-- A world of the class. -/
theorem keep_regrown (w : World) (d : Nat) (os : Array Obj) : Keep none_ w (grow (redrawn w d) os) := Keep.ofBelow (below_regrown w d os) _
theorem callsIn_regrown {F : Fence} {r : Nat} {P : Program} {f : FuncId} {args : Array Value} {w : World} {d : Nat} {os : Array Obj} {v : Value}
    (h : CallsIn F r P f args (grow (redrawn w d) os) fun e w' => e = .returned v ∧ Keep none_ (grow (redrawn w d) os) w') : CallsIn F r P f args (grow (redrawn w d) os) fun e w'' => e = .returned v ∧ ∃ p : Regrown, w'' = grow (redrawn w p.d) p.os :=
  CallsIn.regrown_of (h.mono fun _ _ ⟨he, hk⟩ => ⟨he, hk.toBelow⟩)
theorem calls_regrown {P : Program} {f : FuncId} {args : Array Value} {w : World} {d : Nat} {os : Array Obj} {v : Value}
    (h : Calls P f args (grow (redrawn w d) os) fun e w' => e = .returned v ∧ Keep none_ (grow (redrawn w d) os) w') : Calls P f args (grow (redrawn w d) os) fun e w'' => e = .returned v ∧ ∃ p : Regrown, w'' = grow (redrawn w p.d) p.os :=
  Calls.regrown_of (h.mono fun _ _ ⟨he, hk⟩ => ⟨he, hk.toBelow⟩)
end Go.Proofs.YtkjplkkjdlanhaaGreatDoor
