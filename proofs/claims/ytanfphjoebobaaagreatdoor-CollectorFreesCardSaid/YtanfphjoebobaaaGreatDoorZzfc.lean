/- Parts of the iy. No conditions. -/
import Derived.RangeFuncNested
import Derived.LoopNIn
import Derived.LoopIn
import Derived.Deep.OwnRows
import Derived.Deep.DeepAppendRoom
import Derived.Test.YtanfphjoebobaaaGreatDoorZzfb
namespace Go.Proofs.YtanfphjoebobaaaGreatDoor
open _root_.Array renaming getElem?_eq_some_iff->ajW
open _root_.Go.Addr renaming add->akh
open _root_.Go.World renaming alloc_heap_new->ajX,cell?->akf,putObj_heap_other->ajV,putObj_heap_same->akc
open _root_.List renaming eq_nil_of_length_eq_zero->akg,getElem?_eq_some_iff->ake,map_set->akj,replicate->ajj
open _root_.Nat renaming add_comm->ajS,le_of_lt->akb,le_refl->aje,le_trans->ajU,lt_irrefl->ajY,lt_of_lt_of_le->ajf,lt_succ_self->ajZ,mul_le_mul->akd,zero_le->aki
open _root_.Go.Proofs.Tryz hiding prog
open _root_.Go.Proofs.Tryz renaming prog->aA
set_option maxRecDepth 100000
set_option maxHeartbeats 1000000
section
open Go.RowKit
structure jG (G:Nat->Prop) (W W':World):Prop where
 size:W.heap.size<=W'.heap.size
 same:∀ b,G b->W'.heap[b]?=W.heap[b]?
theorem jG.refl (G:Nat->Prop) (W:World):jG G W W:=⟨aje _,fun _ _=>rfl⟩
theorem jG.trans {G:Nat->Prop} {A B C:World} (h:jG G A B) (k:jG G B C):jG G A C:=⟨ajU h.size k.size,fun b hb=>(k.same b hb).trans (h.same b hb)⟩
theorem jG.putObj {G:Nat->Prop} (W:World) (l:Nat) (o:Obj) (hl:¬ G l):jG G W (W.putObj l o):=⟨by simp,fun b hb=>ajV (fun e=>hl (e▸hb))⟩
theorem jG.sG {G S:Nat->Prop} {W W':World} (k:aj S W W') (hG:∀ b,G b->b<W.heap.size/\¬ S b):jG G W W':=⟨k.size,fun b hb=>k.block b (hG b hb).1 (hG b hb).2⟩
theorem jG.aH {G:Nat->Prop} {W W':World} (h:jG G W W') {B cs T} (hB:G B) (hb:aF W B cs T):aF W' B cs T:=by
 unfold aF at *
 rw [h.same B hB];exact hb
def adG (I:World->Prop):Prop:=∀ W W',I W->aj aB W W'->I W'
structure Xj (N:Nat) (R:World->World->Prop):Prop where
 trans:∀ {A B C:World},R A B->R B C->R A C
 put:∀ (W:World) (L:Nat) (o o':Obj),N<=L->W.heap[L]?=some o->o.isCells=false->o'.isCells=false->R W (W.putObj L o')
def Xk {α:Type} (F:Fence) (n:Nat) (P:Program) (g:Nat) (lb:Array Value) (all:List α) (Enc:World->α->Array Value->Prop) (R:World->World->Prop) (w:World):Prop :=
 ∀ (l:Nat) (J Jx:Nat->World->Prop) (W:World),aj aB w W->(∀ k,adG (J k))->(∀ k,adG (Jx k)) ->
  (∀ (k:Nat) (x:α) (args:Array Value) (W1:World),all[k]?=some x->J k W1->Enc W1 x args->YieldAt F (n - 1) P l args W1 fun e W' =>
   (e = .returned (.bool true)/\J (k+1) W'/\R W1 W')\/(e = .returned (.bool false)/\Jx (k+1) W')) ->
  J 0 W ->
  CallsIn F n P g (#[.func (.yield l) #[] #[]]++lb) W fun e W'=>(∃ v,e = .returned v)/\(J all.length W'\/∃ k,k<=all.length/\Jx k W')
def GK (B:Nat) (R:World->World->Prop) (I:Nat->World->Prop) (Ix:Code->Nat->World->Prop) (k:Nat) (W:World):Exit->Act->World->Prop
 | .normal,_,W'=>KeepsFrom B W W'/\R W W'/\I k W'
 | .ret,_,W'=>KeepsFrom B W W'/\Ix .ret k W'
 | .exit id,_,W'=>KeepsFrom B W W'/\Ix (.exit id) k W'
 | .goto t,_,W'=>KeepsFrom B W W'/\Ix (.goto t) k W'
 | .panic _,_,_=>False
 | .outgrown,_,_=>False
def JE {α:Type} (F:Fence) (n:Nat) (P:Program) (g:Nat) (lb:Array Value) (all:List α) (Enc:World->α->Array Value->Prop) (G:Nat->Prop) (w:World):Prop:=Xk F n P g lb all Enc (jG G) w
def aby (B:Nat) (G:Nat->Prop) (I:Nat->World->Prop) (Ix:Code->Nat->World->Prop) (k:Nat) (W:World):Exit->Act->World->Prop:=GK B (jG G) I Ix k W
theorem yC {β:Type} {S:Nat->Prop} {w:World} {B:Nat} (hB:w.heap.size<=B):OwnFrom B (fun (_:β) W=>aj S w W):=by
 rintro s W W' row h hg hr
 exact h.kF (T:=fun i=>row=some i) ⟨hg.os,hg.tape,hg.output,hg.size,fun k hk n=>hg.block k hk (fun e=>n e.symm)⟩ (fun i hi e=>absurd (hr i e).1 (by omega))
theorem nZ {β:Type} {b B:Nat} {cs:β->List Value} {T:TypeId}:OwnFrom B (fun (s:β) W=>aF W b (cs s) T):=by
 rintro s W W' row h hg hr
 have hlt:=h.lt
 unfold aF at *
 rw [hg.block b hlt (fun e=>?_)]
 ·exact h
 ·obtain ⟨_,_,ho,hc⟩:=hr b e.symm
  rw [h] at ho
  cases ho
  simp [Obj.isCells] at hc
theorem KeepsFrom.sG {B:Nat} {W W':World} (k:aj aB W W'):KeepsFrom B W W' :=
 ⟨k.size,fun i _ _ h _=>(k.block i (ajW.1 h).1 (fun f=>f)).trans h⟩
theorem aj.takeDeferred {S:Nat->Prop} {w0 W:World} (h:aj S w0 W) {D:Nat} (hD:w0.heap.size<=D) (o:Obj):aj S w0 (W.putObj D o) :=
 h.kF (T:=fun i=>i=D) ⟨rfl,rfl,rfl,by simp,fun k _ n=>ajV n⟩ (fun i hi e=>absurd hi (by omega))
theorem aF.putObj {W:World} {b:Nat} {cs:List Value} {T:TypeId} (h:aF W b cs T) {D:Nat} {o o':Obj} (hD:W.heap[D]?=some o) (ho:o.isCells=false):aF (W.putObj D o') b cs T:=by
 unfold aF at *
 rw [ajV (fun e=>by subst e;rw [h] at hD;cases hD;simp [Obj.isCells] at ho)];exact h
section
variable {F:Fence} {n:Nat} {P:Program} {b:Frame} {a:Act} {k:List Item} {cs:List Frame} {w:World} {Q:Exit->Act->World->Prop}
theorem vg {c:Code}:step P (lone (b.atR a (.code (.scope c)::k)) cs w) = .next (lone (b.atR a (.code c :: .inScope c::k)) cs w) :=
 step_lone_go (by simp [stepG,stepG.exec,Frame.atR])
theorem Qw {c:Code}:step P (lone (b.atR a (.inScope c::k)) cs w) = .next (lone (b.atR a k) cs w) :=
 step_lone_go (by simp [stepG,stepG.exec,Frame.atR])
theorem KH {c:Code} (h:c.wpIn F n P (Exit.noGoto Q) a w):(Code.scope c).wpIn F n P Q a w:=by
 intro b k cs hro hb hr
 have h0:(lone (b.atR a (.code (.scope c)::k)) cs w).fenced P F:=fenced_calm hb hr rfl
 obtain ⟨e,a₁,w₁,hq,harr⟩:=h b (.inScope c::k) cs hro hb hr
 cases e with
 | normal=>exact ⟨.normal,a₁,w₁,hq,.head h0 vg (StepsIn.trans harr (.one (fenced_calm hb hr rfl) Qw))⟩
 | exit id =>
   have hx:exitTo id (.inScope c::k)=exitTo id k:=by simp [exitTo]
   exact ⟨.exit id,a₁,w₁,hq,fun k' hk => .head h0 vg (harr.1 k' (by rw [hx];exact hk)),
    fun hr' hk=>let ⟨k₁,h1,h2⟩:=harr.2 hr' (by rw [hx];exact hk);⟨k₁,h1,.head h0 vg h2⟩⟩
 | goto l=>exact hq.elim
 | ret=>exact ⟨_,a₁,w₁,hq,.of_steps (.one h0 vg) harr⟩
 | panic ch=>exact ⟨_,a₁,w₁,hq,.of_steps (.one h0 vg) harr⟩
 | outgrown=>exact ⟨_,a₁,w₁,hq,.of_steps (.one h0 vg) harr⟩
end
def Eb (S:Nat->Prop) (E:World->Prop) {α:Type} (F:Fence) (n:Nat) (P:Program) (g:Nat) (lb:Array Value) (all:List α) (Enc:World->α->Array Value->Prop) (R:World->World->Prop) (w:World):Prop :=
 ∀ (l:Nat) (J Jx:Nat->World->Prop) (W:World),aj aB w W->(∀ k A C,J k A->aj S A C->(E A->E C)->J k C)->(∀ k A C,Jx k A->aj S A C->(E A->E C)->Jx k C) ->
  (∀ (k:Nat) (x:α) (args:Array Value) (W1:World),all[k]?=some x->J k W1->Enc W1 x args->YieldAt F (n - 1) P l args W1 fun e W' =>
   (e = .returned (.bool true)/\J (k+1) W'/\R W1 W')\/(e = .returned (.bool false)/\Jx (k+1) W')) ->
  J 0 W ->
  CallsIn F n P g (#[.func (.yield l) #[] #[]]++lb) W fun e W'=>(∃ v,e = .returned v)/\(J all.length W'\/∃ k,k<=all.length/\Jx k W')
variable {F:Fence} {n:Nat} {P:Program}
theorem JF {S:Nat->Prop} {E:World->Prop} {α:Type} {g:Operand} {ps:Array Tmp} {assign body:Code} {Q:Exit->Act->World->Prop} {a:Act} {w:World}
 (hro:F.round=none) (h1:1<=n) {gf:Nat} {lb:Array Value} (hg:a.eval g = .func (.func gf) #[] lb) (hFg:F.fn gf) (eg:∀ args w,(callFunc gf args).run P w = .ok (.enter gf args) w)
 {all:List α} {Enc:World->α->Array Value->Prop} {R:World->World->Prop} {N:Nat} (hN:N<=w.heap.size) (hR:Xj N R) (hseq:Eb S E F (n - 1) P gf lb all Enc R w)
 (hps:∀ W x args,Enc W x args->args.size=ps.size)
 (I:Nat->World->Prop) (Ix:Code->Nat->World->Prop) (hI:OwnFrom w.heap.size I) (hIx:∀ c,OwnFrom w.heap.size (Ix c)) (h0:I 0 w) (hS:∀ b,S b->b<w.heap.size) (hIS:∀ k A C,I k A->aj S A C->(E A->E C)->I k C) (ahF:∀ c k A C,Ix c k A->aj S A C->(E A->E C)->Ix c k C)
 (GL:∀ (l:Nat) (k:Nat) (x:α) (args:Array Value) (W:World),all[k]?=some x->Enc W x args->I k W ->
  assign.wpIn (F.inRound l) (n - 1 - 1) P (Exit.then (fun a₁ W₁=>∃ J:World->Prop,KeepsFrom w.heap.size W W₁/\R W W₁/\J W₁/\OwnFrom w.heap.size (fun (_:Unit) W=>J W) /\
   ∀ W₂,J W₂->body.wpIn (F.inRound l) (n - 1 - 1) P (GK w.heap.size R I Ix (k+1) W₂) a₁ W₂) (fun _ _ _=>False))
   { tmps:=(ps.zip args).foldl (fun t (p,v)=>t.setIfInBounds p v) a.tmps,defers:=[] } W)
 (hdone:∀ (D:Nat) (W:World),w.heap.size<=D->I all.length W->W.heap[D]?=some (.deferred (some []))->Q .normal { a with defers:={ target := .collected D,args:=#[] }::a.defers } W)
 (hstop:∀ (D:Nat) (c:Code) (k:Nat) (W:World),w.heap.size<=D->k<=all.length->Ix c k W->W.heap[D]?=some (.deferred (some []))->c.wpIn F n P Q { a with defers:={ target := .collected D,args:=#[] }::a.defers } W) :
 (Code.rangeFunc g ps assign body).wpIn F n P Q a w:=by
 refine wpIn_rangeFunc fun fn hfn=>?_
 rw [hro]
 let BQ:LoopState->Option Code->Loop:=fun st pe=>{ state:=st,pending:=pe,fn,tmps:=a.tmps,params:=ps,assign,body,defers:=w.heap.size }
 let D:=w.heap.size
 let L:=w.heap.size+1
 have hNL:N<=L:=by simp [L];omega
 let W1:=(w.alloc (.deferred (some []))).alloc (.loop (BQ .ready none))
 have kW1:aj aB w W1:=((aj.refl _ _).alloc _).alloc _
 have sW1:W1.heap.size=w.heap.size+2:=by simp [W1]
 have eL:W1.heap[L]?=some (.loop (BQ .ready none)):=by
  have:=ajX (w.alloc (.deferred (some []))) (.loop (BQ .ready none))
  rwa [World.size_alloc] at this
 have eD:W1.heap[D]?=some (.deferred (some [])):=(Below.heap_alloc _ _ _ (by simp [D])).trans (ajX w _)
 have grow:∀ {β:Type} {B:Nat} {K:β->World->Prop},OwnFrom B K->∀ {s:β} {A C:World},K s A->aj aB A C->K s C:=by
  intro β B K hK s A C hs k
  exact hK s A C none hs ⟨k.os,k.tape,k.output,k.size,fun i hi _=>k.block i hi (fun f=>f)⟩ (fun _ e=>by cases e)
 refine ⟨L,[{ target := .collected D,args:=#[] }],W1,{ target := .fn (.func gf) lb,args:=#[.func (.yield L) #[] #[]] },W1,gf,#[.func (.yield L) #[] #[]]++lb,W1,run_enterLoop_outer _ _ _ _ _,?_,?_,?_,fun _=>h1,?_⟩
 ·simp only [resolve,hg];simp [go_sem]
 ·intro f' hf';simp [Target.leads] at hf';subst hf';exact hFg
 ·simp [invoke,go_sem,eg]
 refine (hseq L (fun k W=>I k W/\W.heap[L]?=some (.loop (BQ .ready none))/\W.heap[D]?=some (.deferred (some [])))
  (fun k W=>∃ c,Ix c k W/\W.heap[L]?=some (.loop (BQ .done (some c)))/\W.heap[D]?=some (.deferred (some []))) W1 kW1 ?_ ?_ ?_ ⟨grow hI h0 kW1,eL,eD⟩).mono ?_
 ·rintro k A C ⟨h,hl,hd⟩ kk ke
  exact ⟨hIS k A C h kk ke,(kk.block L (ajW.1 hl).1 (fun f=>ajY _ (ajf (ajZ w.heap.size) (akb (hS L f))))).trans hl,(kk.block D (ajW.1 hd).1 (fun f=>ajY _ (hS D f))).trans hd⟩
 ·rintro k A C ⟨c,h,hl,hd⟩ kk ke
  exact ⟨c,ahF c k A C h kk ke,(kk.block L (ajW.1 hl).1 (fun f=>ajY _ (ajf (ajZ w.heap.size) (akb (hS L f))))).trans hl,(kk.block D (ajW.1 hd).1 (fun f=>ajY _ (hS D f))).trans hd⟩
 ·
  rintro k x args W hx ⟨hi,hl,hd⟩ henc
  refine ⟨fn,_,assign,body,run_yield hl (hps _ _ _ henc),roundIn_of_wpIn hfn (wpIn_mono (GL L k x args W hx henc hi) ?_)⟩
  rintro e a1 Wa hp1
  cases e<;>try exact hp1.elim
  obtain ⟨Jr,kr,gr,jr,hJr,qV⟩:=hp1
  have hla:=kr.same L _ (by simp [L]) hl rfl
  have hda:=kr.same D _ (aje _) hd rfl
  have hlt:=(ajW.1 hla).1
  refine ⟨_,run_beginRound hla rfl,?_⟩
  let W2:=Wa.putObj L (.loop { BQ .ready none with state := .busy })
  have hl2:W2.heap[L]?=some (.loop { BQ .ready none with state := .busy }):=akc hlt
  have hd2:W2.heap[D]?=some (.deferred (some [])):=(ajV (by simp [D,L])).trans hda
  have hj2:Jr W2:=hJr.putObj (s:=()) _ jr (by simp [L]) hla rfl
  refine wpIn_mono (qV W2 hj2) ?_
  have fin:∀ (j:Option Code) (W3:World),KeepsFrom w.heap.size W2 W3->∃ W4:World,(Instr.endRound L j).run P W3 = .ok (.bool j.isNone) W4/\W4=W3.putObj L (.loop (BQ (if j.isNone then .ready else .done) j)) /\
   (∃ o:Obj,W3.heap[L]?=some o/\o.isCells=false)/\W4.heap[L]?=some (.loop (BQ (if j.isNone then .ready else .done) j))/\W4.heap[D]?=some (.deferred (some [])):=fun j W3 k3=>by
   have hl3:=k3.same L _ (by simp [L]) hl2 rfl
   exact ⟨_,run_endRound j hl3,rfl,⟨_,hl3,rfl⟩,akc (ajW.1 hl3).1,(ajV (by simp [D,L])).trans (k3.same D _ (aje _) hd2 rfl)⟩
  rintro e a3 W3 hp
  cases e with
  | normal =>
    obtain ⟨k3,g3,i3⟩:=hp
    obtain ⟨W4,hr,rfl,⟨o,ho,hoc⟩,hl4,hd4⟩:=fin none W3 k3
    exact ⟨_,_,hr,.inl ⟨rfl,⟨hI.putObj _ i3 (by simp [L]) ho hoc,hl4,hd4⟩,hR.trans (hR.trans (hR.trans gr (hR.put Wa L _ _ hNL hla rfl rfl)) g3) (hR.put W3 L o _ hNL ho hoc rfl)⟩⟩
  | ret =>
    obtain ⟨k3,i3⟩:=hp
    obtain ⟨W4,hr,rfl,⟨o,ho,hoc⟩,hl4,hd4⟩:=fin (some .ret) W3 k3
    exact ⟨_,_,hr,.inr ⟨rfl,.ret,(hIx _).putObj _ i3 (by simp [L]) ho hoc,hl4,hd4⟩⟩
  | exit id =>
    obtain ⟨k3,i3⟩:=hp
    obtain ⟨W4,hr,rfl,⟨o,ho,hoc⟩,hl4,hd4⟩:=fin (some (.exit id)) W3 k3
    exact ⟨_,_,hr,.inr ⟨rfl,.exit id,(hIx _).putObj _ i3 (by simp [L]) ho hoc,hl4,hd4⟩⟩
  | goto t =>
    obtain ⟨k3,i3⟩:=hp
    obtain ⟨W4,hr,rfl,⟨o,ho,hoc⟩,hl4,hd4⟩:=fin (some (.goto t)) W3 k3
    exact ⟨_,_,hr,.inr ⟨rfl,.goto t,(hIx _).putObj _ i3 (by simp [L]) ho hoc,hl4,hd4⟩⟩
  | panic ch=>exact hp.elim
  | outgrown=>exact hp.elim
 ·
  rintro e W ⟨⟨v,rfl⟩,(⟨hi,hl,hd⟩|⟨k,hk,c,hi,hl,hd⟩)⟩
  ·exact ⟨none,_,run_endLoop hl (by simp [BQ]),hdone D _ (aje _) (hI.putObj _ hi (by simp [L]) hl rfl) ((ajV (by simp [D,L])).trans hd)⟩
  ·exact ⟨some c,_,run_endLoop hl (by simp [BQ]),hstop D c k _ (aje _) hk ((hIx c).putObj _ hi (by simp [L]) hl rfl) ((ajV (by simp [D,L])).trans hd)⟩
theorem Zg {β:Type} {B:Nat} {K:β->World->Prop} (h:OwnFrom B K) {s:β} {A C:World} (hs:K s A) (k:aj aB A C):K s C :=
 h s A C none hs ⟨k.os,k.tape,k.output,k.size,fun i hi _=>k.block i hi (fun f=>f)⟩ (fun _ e=>by cases e)
theorem abz {α:Type} {g:Operand} {ps:Array Tmp} {assign body:Code} {Q:Exit->Act->World->Prop} {a:Act} {w:World}
 (hro:F.round=none) (h1:1<=n) {gf:Nat} {lb:Array Value} (hg:a.eval g = .func (.func gf) #[] lb) (hFg:F.fn gf) (eg:∀ args w,(callFunc gf args).run P w = .ok (.enter gf args) w)
 {all:List α} {Enc:World->α->Array Value->Prop} {R:World->World->Prop} {N:Nat} (hN:N<=w.heap.size) (hR:Xj N R) (hseq:Xk F (n - 1) P gf lb all Enc R w)
 (hps:∀ W x args,Enc W x args->args.size=ps.size)
 (I:Nat->World->Prop) (Ix:Code->Nat->World->Prop) (hI:OwnFrom w.heap.size I) (hIx:∀ c,OwnFrom w.heap.size (Ix c)) (h0:I 0 w)
 (GL:∀ (l:Nat) (k:Nat) (x:α) (args:Array Value) (W:World),all[k]?=some x->Enc W x args->I k W ->
  assign.wpIn (F.inRound l) (n - 1 - 1) P (Exit.then (fun a₁ W₁=>∃ J:World->Prop,KeepsFrom w.heap.size W W₁/\R W W₁/\J W₁/\OwnFrom w.heap.size (fun (_:Unit) W=>J W) /\
   ∀ W₂,J W₂->body.wpIn (F.inRound l) (n - 1 - 1) P (GK w.heap.size R I Ix (k+1) W₂) a₁ W₂) (fun _ _ _=>False))
   { tmps:=(ps.zip args).foldl (fun t (p,v)=>t.setIfInBounds p v) a.tmps,defers:=[] } W)
 (hdone:∀ (D:Nat) (W:World),w.heap.size<=D->I all.length W->W.heap[D]?=some (.deferred (some []))->Q .normal { a with defers:={ target := .collected D,args:=#[] }::a.defers } W)
 (hstop:∀ (D:Nat) (c:Code) (k:Nat) (W:World),w.heap.size<=D->k<=all.length->Ix c k W->W.heap[D]?=some (.deferred (some []))->c.wpIn F n P Q { a with defers:={ target := .collected D,args:=#[] }::a.defers } W) :
 (Code.rangeFunc g ps assign body).wpIn F n P Q a w:=by
 exact JF (S:=aB) (E:=fun _=>True) hro h1 hg hFg eg hN hR (fun l J Jx W g1 g2 g3=>hseq l J Jx W g1 (fun k A C a c=>g2 k A C a c (fun h=>h)) (fun k A C a c=>g3 k A C a c (fun h=>h))) hps I Ix hI hIx h0 (fun b f=>f.elim) (fun k A C a c _=>Zg hI a c) (fun c k A C a d _=>Zg (hIx c) a d) GL hdone hstop
theorem Nw {α:Type} {g:Operand} {ps:Array Tmp} {assign body:Code} {Q:Exit->Act->World->Prop} {a:Act} {w:World}
 (hro:F.round=none) (h1:1<=n) {gf:Nat} {lb:Array Value} (hg:a.eval g = .func (.func gf) #[] lb) (hFg:F.fn gf) (eg:∀ args w,(callFunc gf args).run P w = .ok (.enter gf args) w)
 {all:List α} {Enc:World->α->Array Value->Prop} {G:Nat->Prop} (hseq:JE F (n - 1) P gf lb all Enc G w)
 (hG:∀ b,G b->b<w.heap.size) (hps:∀ W x args,Enc W x args->args.size=ps.size)
 (I:Nat->World->Prop) (Ix:Code->Nat->World->Prop) (hI:OwnFrom w.heap.size I) (hIx:∀ c,OwnFrom w.heap.size (Ix c)) (h0:I 0 w)
 (GL:∀ (l:Nat) (k:Nat) (x:α) (args:Array Value) (W:World),all[k]?=some x->Enc W x args->I k W ->
  assign.wpIn (F.inRound l) (n - 1 - 1) P (Exit.then (fun a₁ W₁=>∃ J:World->Prop,KeepsFrom w.heap.size W W₁/\jG G W W₁/\J W₁/\OwnFrom w.heap.size (fun (_:Unit) W=>J W) /\
   ∀ W₂,J W₂->body.wpIn (F.inRound l) (n - 1 - 1) P (aby w.heap.size G I Ix (k+1) W₂) a₁ W₂) (fun _ _ _=>False))
   { tmps:=(ps.zip args).foldl (fun t (p,v)=>t.setIfInBounds p v) a.tmps,defers:=[] } W)
 (hdone:∀ (D:Nat) (W:World),w.heap.size<=D->I all.length W->W.heap[D]?=some (.deferred (some []))->Q .normal { a with defers:={ target := .collected D,args:=#[] }::a.defers } W)
 (hstop:∀ (D:Nat) (c:Code) (k:Nat) (W:World),w.heap.size<=D->k<=all.length->Ix c k W->W.heap[D]?=some (.deferred (some []))->c.wpIn F n P Q { a with defers:={ target := .collected D,args:=#[] }::a.defers } W) :
 (Code.rangeFunc g ps assign body).wpIn F n P Q a w:=by
 exact abz (R:=jG G) hro h1 hg hFg eg (aje _) ⟨jG.trans,fun W L o o' hL _ _ _=>jG.putObj W L o' (fun h=>by have:=hG L h;omega)⟩ hseq hps I Ix hI hIx h0 GL hdone hstop
end
section
open Go.RowKit Go.Deep
theorem aj.qh {S:Nat->Prop} {w0 w w':World} {row:Option Nat} (h:aj S w0 w) (g:w.grownBy w' row) (hr:∀ k,row=some k->k<w0.heap.size->S k):aj S w0 w' :=
 h.kF (T:=fun i=>row=some i) ⟨g.os,g.tape,g.output,g.size,fun k hk n=>g.block k hk (fun e=>n e.symm)⟩ (fun i hi e=>hr i e hi)
theorem aj.afj {w0 w w':World} {bP n size:Nat} {e:TypeId} {v:Value} {xs:List Value} (h:aj aB w0 w) (hown:w.ownsRow bP e size v n xs) (hb:w0.heap.size<=bP) (g:w.grownBy w' v.ownBlock):aj aB w0 w' :=
 h.qh g (fun k hk hl=>by have:=(hown.lt k hk).1;omega)
theorem aF.qh {w w':World} {B:Nat} {cs:List Value} {T:TypeId} {row:Option Nat} (h:aF w B cs T) (g:w.grownBy w' row) (hne:row≠some B):aF w' B cs T:=by
 have hlt:=h.lt
 unfold aF at *
 rw [g.block B hlt (fun e=>hne e.symm)];exact h
theorem nC {w:World} {B:Nat} {cs:List Value} {T e:TypeId} {bP n size:Nat} {v:Value} {xs:List Value} (hb:aF w B cs T) (h:w.ownsRow bP e size v n xs) (hne:e≠T):v.ownBlock≠some B:=by
 rcases h.2 with ⟨rfl,_⟩|⟨g,aO,cur,rfl,_,hg,_⟩
 ·simp [Value.ownBlock]
 ·intro hx
  simp [Value.ownBlock] at hx
  subst hx
  unfold aF at hb
  rw [hg] at hb
  simp at hb
  exact hne hb.2
theorem gK {w w':World} {S:Nat->Prop} {e:TypeId} {bP n size:Nat} {v:Value} {xs:List Value} (h:w.ownsRow bP e size v n xs) (k:aj S w w') (hne:∀ B,v.ownBlock=some B->¬ S B):w'.ownsRow bP e size v n xs:=by
 refine ⟨h.1,?_⟩
 rcases h.2 with hn|⟨g,aO,cur,rfl,hb,hg,eP⟩
 ·exact .inl hn
 ·refine .inr ⟨g,aO,cur,rfl,hb,?_,eP⟩
  rw [k.block g (ajW.1 hg).1 (hne g rfl)]
  exact hg
theorem bQ {w:World} {bP base' n size:Nat} {e:TypeId} {v:Value} {xs:List Value} (h:w.ownsRow bP e size v n xs) (hb:base'<=bP):w.ownsRow base' e size v n xs:=by
 refine ⟨h.1,?_⟩
 rcases h.2 with hn|⟨g,aO,cur,rfl,hg,eP⟩
 ·exact .inl hn
 ·exact .inr ⟨g,aO,cur,rfl,ajU hb hg,eP⟩
theorem bY {w w':World} {bP n size:Nat} {e:TypeId} {v:Value} {xs:List Value} (h:w.ownsRow bP e size v n xs) (k:aj aB w w'):w'.ownsRow bP e size v n xs:=gK h k (fun _ _ f=>f)
section
variable {P:Program} {w:World}
def fV (z:Value) (n:Nat):List Value:=ajj n z
theorem Zh (z:Value) (n:Nat):(fV z n).length=n:=by simp [fV]
theorem Xl (z:Value) (n:Nat):madeCells #[z] n=(fV z n).toArray:=by
 apply Array.ext
 ·simp [madeCells,fV]
 ·intro i h1 h2
  simp [madeCells,fV,Nat.mod_one]
theorem yD {T e:TypeId} {z:Value} {bytes:Nat} (ht:P.underlying T=some (.slice e)) (hi:(P.info? e).map (fun i=>(i.zero,i.size,i.bytes))=some (some z,1,bytes)) (hz:z.cells=#[z]) (hb:bytes<=1000)
 (n:Nat) (hn:n<=100000000000) (L:Int) (hL:L=n) (w:World) :
 (Instr.makeSlice T (ah L) (ah L)).run P w = .ok (.slice (some ⟨w.heap.size,0,none⟩) n n) (w.alloc (.cells (fV z n).toArray e)):=by
 subst hL
 rw [<- Xl]
 exact run_make_row' T e z bytes ht hi hz .i64 .i64 n (ajU (akd hb hn) (by decide)) (by omega) w
end
end
section
open Go.RowKit
def Q8 (w:World) (T:TypeId) (v:Value) (xs:List Value):Prop :=
 ∃ a c,v = .slice a xs.length c/\xs.length<=c/\xs.length<=4000000000000/\(0<xs.length->∃ b off cs,a=some ⟨b,off,none⟩/\aF w b cs T/\∀ j,j<xs.length->cs[off+j]?=xs[j]?)
theorem Q8.cells {w:World} {T:TypeId} {a:Option Addr} {n c:Nat} {xs:List Value} (h:Q8 w T (.slice a n c) xs):n=xs.length/\n<=c/\n<=4000000000000/\(0<n->∃ b off,a=some ⟨b,off,none⟩/\∀ j v,xs[j]?=some v->w.cell? ⟨b,off+j,none⟩=some v):=by
 obtain ⟨a',c',e,hl,hm,hc⟩:=h
 simp at e
 obtain ⟨rfl,rfl,rfl⟩:=e
 refine ⟨rfl,hl,hm,fun h0=>?_⟩
 obtain ⟨b,off,cs,rfl,hb,hj⟩:=hc h0
 refine ⟨b,off,rfl,fun j v hv=>hb.cell _ ?_⟩
 rw [hj j (ake.1 hv).1,hv]
def vw (a:Option Addr) (c k:Nat):Option Addr:=if c=k then a else a.map (·.add k)
theorem IV {P:Program} {T e:TypeId} (ht:P.underlying T=some (.slice e)) (hi:(P.info? e).map (·.size)=some 1) (a:Option Addr) (n c k:Nat) (hk:k<=n) (w:World) :
 (Instr.slice T (.slice a n c) (some (ah (k:Int))) none none).run P w = .ok (.slice (vw a c k) (n - k) (c - k)) w:=by
 obtain ⟨i,hi1,hi2⟩:=Option.map_eq_some_iff.1 hi
 have hnk:¬ n<k:=by omega
 simp [Instr.slice,run_underlying ht,sizeOf,typeInfo,hi1,hi2,vw,go_sem]
 exact fun h=>absurd h hnk
def Cells (w:World) (a:Option Addr) (n:Nat) (xs:List Value):Prop :=
 xs.length=n/\(0<n->∃ b off,a=some ⟨b,off,none⟩/\∀ j v,xs[j]?=some v->w.cell? ⟨b,off+j,none⟩=some v)
theorem Q8.toCells {w:World} {T:TypeId} {a:Option Addr} {n c:Nat} {xs:List Value} (h:Q8 w T (.slice a n c) xs):Cells w a n xs:=⟨h.cells.1.symm,h.cells.2.2.2⟩
theorem gY.GN {k:IntKind} {w:World} {bP:Nat} {T:TypeId} {v:Value} {n:Nat} {zs:List Int} (h:w.ownsRow bP T 1 v n (zs.map (Value.int k))):∃ a c,v = .slice a n c/\gY k w a n zs/\n<=c:=by
 obtain ⟨hl,hf⟩:=h
 rcases hf with ⟨rfl,rfl⟩|⟨g,aO,cur,rfl,_,hg,hn,_,hs,hc⟩
 ·exact ⟨none,0,rfl,⟨by simpa using hl,fun h=>absurd h (ajY 0)⟩,aje _⟩
 ·refine ⟨_,aO,rfl,⟨by simpa using hl,fun _=>⟨g,0,rfl,fun j hj=>?_⟩⟩,hn⟩
  have e:cur[j]?=some (.int k (zs.getD j 0)):=by
   have h1:(cur.toList.take (n*1))[j]?=cur[j]?:=by simp [hj]
   rw [<- h1,hc]
   have hj2:j<zs.length:=by simp at hl;omega
   simp [hj2]
  simp [akf,hg,e]
def app9 (ats:Array TypeId) (ty:TypeId) (args:Array Value):Sem Value:=Builtin.append_ ats ty args
theorem nD (ats:Array TypeId) (ty:TypeId) (args:Array Value):Builtin.append_ ats ty args=app9 ats ty args:=rfl
theorem Tryz.infoInt:(aA.info? 3).map (fun i=>(i.zero,i.size,i.bytes))=some (some (ah 0),1,8):=by kernel_rfl
theorem gy {w:World} {e:TypeId} {v:Value} {n:Nat} {xs:List Value} (h:w.ownsRow 0 e 1 v n xs):∃ a aO,v = .slice a n aO/\xs.length=n/\n<=aO/\(a=none->aO=0) /\
 ∀ j u,xs[j]?=some u->∃ g,a=some ⟨g,0,none⟩/\w.cell? ⟨g,j,none⟩=some u/\w.frozen? ⟨g,j,none⟩=false:=by
 obtain ⟨hl,hf⟩:=h
 have hl':xs.length=n:=by simpa using hl
 rcases hf with ⟨rfl,rfl⟩|⟨g,aO,cur,rfl,_,hg,hn,_,hs,hc⟩
 ·have:xs=[]:=akg hl'
  subst this
  exact ⟨none,0,rfl,rfl,aje _,fun _=>rfl,fun j u h=>by simp at h⟩
 ·refine ⟨_,aO,rfl,hl',hn,fun h=>(by cases h),fun j u hj=>⟨g,rfl,?_,?_⟩⟩
  ·have hj2:=(ake.1 hj).1
   rw [<- hc] at hj
   rw [List.getElem?_take_of_lt (by omega)] at hj
   simp [akf,hg]
   simpa using hj
  ·simp [World.frozen?,hg]
theorem Zi {w:World} {e:TypeId} {g n aO:Nat} {xs:List Value} (h:w.ownsRow 0 e 1 (.slice (some ⟨g,0,none⟩) n aO) n xs):∃ cur:Array Value,w.heap[g]?=some (.cells cur e (0,0)):=by
 rcases h.2 with ⟨h,_⟩|⟨g',cap',cur,hv,_,hg,_⟩
 ·cases h
 ·cases hv
  exact ⟨cur,hg⟩
theorem zY {w:World} {e:TypeId} {v:Value} {n:Nat} {xs:List Value} (h:w.ownsRow 0 e 1 v n xs) {a:Addr} (ha:∀ k,v.ownBlock=some k->k≠a.block) (u:Value):(w.setCell a u).ownsRow 0 e 1 v n xs :=
 ownsRow_setCell_other h (fun e=>ha _ e rfl) u
theorem uJ {P:Program} (w:World) (t ty e:TypeId) (ht:P.underlying t=some (.slice e)) {z:Value} {bytes:Nat} (hi:(P.info? e).map (fun i=>(i.zero,i.size,i.bytes))=some (some z,1,bytes)) (hzs:z.cells.size=1)
 {v:Value} {n:Nat} {xs:List Value} (hown:w.ownsRow 0 e 1 v n xs) {N:Nat} {u:Value} (hN:w.cell? ⟨N,0,none⟩=some u) (hu:u.oneCell'=true) (hb:bytes<=1000) (hn:n<=100000000000) :
 ∃ g aO w',(Builtin.append_ #[t,t] ty #[v,.slice (some ⟨N,0,none⟩) 1 1]).run P w = .ok (.slice (some ⟨g,0,none⟩) (n+1) aO) w'/\w'.ownsRow 0 e 1 (.slice (some ⟨g,0,none⟩) (n+1) aO) (n+1) (xs++[u]) /\
  w.grownBy w' v.ownBlock/\(v.ownBlock=some g\/w.heap.size<=g):=by
 obtain ⟨i,hi1,hi2,hi3,hi4⟩:=info_parts hi
 have hbytes:(n+1)*bytes<=140737488355328:=ajU (akd (show n+1<=100000000001 by omega) hb) (by decide)
 have hnews:∀ j x,[u][j]?=some x->w.cell? ((⟨N,0,none⟩:Addr).add j)=some x:=by
  intro j x hj
  cases j with
  | zero=>simp at hj;subst hj;simpa [akh] using hN
  | succ j=>simp at hj
 have h1:∀ x∈[u],x.oneCell'=true:=by simpa using hu
 have shape:∀ {v':Value} {W:World} {B:Nat},W.ownsRow B e 1 v' (n+1) (xs++[u])->∃ g aO,v' = .slice (some ⟨g,0,none⟩) (n+1) aO/\B<=g:=by
  intro v' W B h
  rcases h.2 with ⟨_,h0⟩|⟨g,aO,cur,rfl,hB,_⟩
  ·omega
  ·exact ⟨g,aO,rfl,hB⟩
 rcases hown.2 with ⟨rfl,rfl⟩|⟨g,aO,cur,rfl,hbg,hg,hnc,hcm,hcs,htake⟩
 ·have hown':w.ownsRow w.heap.size e 1 (.slice none 0 0) 0 xs:=⟨hown.1,.inl ⟨rfl,rfl⟩⟩
  obtain ⟨v',w',hr,h2,h3,_⟩:=run_append_own (P:=P) w w.heap.size t ty e i z 1 bytes ht hi1 hi2 hi3 hi4 hzs (by decide) _ 0 xs hown' ⟨N,0,none⟩ 1 1 [u] rfl hnews h1 (by unfold maxLen;omega) hbytes (aje _)
  obtain ⟨g,aO,rfl,hB⟩:=shape h2
  exact ⟨g,aO,w',hr,bQ h2 (aki _),h3,.inr hB⟩
 ·by_cases hroom:n+1<=aO
  ·obtain ⟨w',hr,h2,h3⟩:=run_append_own_spare (P:=P) w 0 t ty e i 1 ht hi1 hi3 g n aO xs hown ⟨N,0,none⟩ 1 1 [u] rfl hnews h1 hroom
   exact ⟨g,aO,w',hr,h2,h3,.inl rfl⟩
  ·have holds:∀ j x,xs[j]?=some x->w.cell? ((⟨g,0,none⟩:Addr).add j)=some x:=hown.cells (g:=g) rfl
   obtain ⟨v',w',hr,h2,h3⟩:=run_append_arg_grows (P:=P) w t ty e i z 1 bytes ht hi1 hi2 hi3 hi4 hzs (by decide) ⟨g,0,none⟩ n aO xs hown.1 holds ⟨N,0,none⟩ 1 1 [u] rfl hnews (by omega) (by unfold maxLen;omega) hbytes
   obtain ⟨g',cap',rfl,hB⟩:=shape h2
   exact ⟨g',cap',w',hr,bQ h2 (aki _),⟨h3.os,h3.tape,h3.output,h3.size,fun k hk _=>h3.block k hk (by simp)⟩,.inr hB⟩
end
section
attribute [local go_sem ↓] nD
attribute [local go_sem] Oper.semAt_some
open Go.RowKit
section
variable {c:bK} {b ww:Nat} (hok:c.ok=true) (hb:c.b=b) (hw:c.w=ww)
include hok hb hw
theorem Zj (k B0 s:Nat) (hk:k<4) (hB:B0<b) (hs:s<ww/2^(k+1)) (w:World) (hT:lu w) (hS:jk w):Calls aA 147 #[.agg c.cells.toArray,ah (k:Int),ah (B0:Int),ah (s:Int)] w fun e w'=>e = .returned (ah (((B0*ww+s*2^(k+1):Nat):Int)+1))/\aj aB w w':=by
 obtain ⟨W0,hW0⟩:∃ W',W'=w.alloc (.cells c.cells.toArray 23):=⟨_,rfl⟩
 have HK:Hid (aj aB w W0):=by rw [hW0];exact (aj.refl _ _).alloc _
 have HO:=ay (aea hok hb hw k B0 s hk hB hs W0 (hT.aK HK.out) (hS.aK HK.out))
 have hB:=show aF W0 w.heap.size c.cells 23 by rw [hW0];exact aF.bC w _ _
 obtain ⟨R,hR⟩:∃ R:Int,R=((B0*ww+s*2^(k+1):Nat):Int)+1:=⟨_,rfl⟩
 rw [<- hR] at HO ⊢
 clear hR
 obtain ⟨c0,c1,c2,c3,c4,c5,c6⟩:=c
 simp only [bK.cells] at *
 have y0:=hB.cell 0 rfl;have y1:=hB.cell 1 rfl;have y2:=hB.cell 2 rfl;have y3:=hB.cell 3 rfl;have y4:=hB.cell 4 rfl;have y5:=hB.cell 5 rfl;have y6:=hB.cell 6 rfl
 clear hT hS hok hb hw hs hB
 go_enter func147,ntmps147
 go_wp2_with fail
 rw [<- hW0]
 clear hW0
 refine HO.out.mono ?_
 rintro e w1 ⟨rfl,hk1⟩
 have bI:=ay (HK.out.trans hk1)
 clear hk1 HK HO y0 y1 y2 y3 y4 y5 y6
 go_wp2_with fail
 go_ret
 exact ⟨rfl,bI.out⟩
end
def BR (per z:Nat):List (Nat × Nat):=(List.range per).map fun i=>(i,i*z)
theorem Bg (per z:Nat):(BR per z).length=per:=by simp [BR]
theorem Ou {per z j:Nat} (h:j<per):(BR per z)[j]?=some (j,j*z):=by simp [BR,h]
def Fj (_:World) (x:Nat × Nat) (args:Array Value):Prop:=args=#[ah (x.1:Int),ah (x.2:Int)]
theorem Q9 (ww k:Int) (w:World):Calls aA 146 #[ah ww,ah k] w fun e w'=>e = .returned (.func (.func 193) #[] #[au w.heap.size,au (w.heap.size+1)])/\aF w' w.heap.size [ah ww] 3/\aF w' (w.heap.size+1) [ah k] 3/\aj aB w w':=by
 have hmf:∀ (fn:Fn) (first aO:Array Value) (w:World),(Instr.makeFunc fn first aO).run aA w = .ok (.func fn first aO) w:=fun _ _ _ _=>rfl
 have hb:∀ w:World,Hid (aF ((w.alloc (.cells #[ah ww] 3)).alloc (.cells #[ah k] 3)) w.heap.size [ah ww] 3/\aF ((w.alloc (.cells #[ah ww] 3)).alloc (.cells #[ah k] 3)) (w.heap.size+1) [ah k] 3):=fun w =>
  ⟨(aF.bC w [ah ww] 3).alloc _,by have:=aF.bC (w.alloc (.cells #[ah ww] 3)) [ah k] 3;simpa using this⟩
 go_enter func146,ntmps146
 go_wp2
 go_ret
 exact ⟨rfl,(hb _).out.1,(hb _).out.2,((aj.refl _ _).alloc _).alloc _⟩
def BU (pB kB:Nat):Nat->Prop:=fun i=>i=pB\/i=kB\/i=2
theorem Xm (ww k pB kB:Nat) (hw:16<=ww/\ww<=256) (hk:k<4) (m:Nat) (w:World) (hS:jk w) (hbp:aF w pB [ah (ww:Int)] 3) (hbk:aF w kB [ah (k:Int)] 3) :
 JE Fence.wide m aA 193 #[au pB,au kB] (BR (ww/2^(k+1)) (2^(k+1))) Fj (BU pB kB) w:=by
 intro l J Jx W hW hJ hJx hY h0
 have hbk1:=hW.aH hbk (fun f=>f)
 have hbp1:=hW.aH hbp (fun f=>f)
 have hc0:=hbp1.cell 0 (v := ah (ww:Int)) rfl
 have hc1:=hbk1.cell 0 (v := ah (k:Int)) rfl
 have HP:=ay (Dw ww k hw hk W (hS.aK hW))
 have hsz:W.cell? ⟨2,k,none⟩=some (ah ((2^(k+1):Nat):Int)):=(hS.aK hW) k _ (show IU[k]?=some ((2^(k+1):Nat):Int) from by
  obtain rfl|rfl|rfl|rfl:k=0\/k=1\/k=2\/k=3:=by omega
  all_goals rfl)
 have hz:=xZ hk
 have afk:∀ j,j<ww/2^(k+1)->j*2^(k+1)<=256:=fun j hj=>by
  have h1:j*2^(k+1)<=(ww/2^(k+1))*2^(k+1):=Nat.mul_le_mul_right _ (akb hj)
  have h2:=Nat.div_mul_le_self ww (2^(k+1))
  omega
 have hpl:ww/2^(k+1)<=256:=ajU (Nat.div_le_self _ _) hw.2
 have QX:(k:Int)<4:=by omega
 generalize 2^(k+1)=z at *
 generalize ww/z=per at *
 have ahG:=ay afk
 clear afk hk hw hS
 refine callsIn_of_wp func193 rfl trivial ?_ rfl
 simp only [ntmps193,List.size_toArray,List.length_cons,List.length_nil,Nat.reduceAdd,Nat.reduceSub,Array.replicate_succ,Array.replicate_zero,List.push_toArray,List.append_toArray,List.nil_append,List.cons_append]
 gi_wp2_with fail
 refine ⟨trivial,fun h=>(by cases h),CallsIn.mono (callsIn_wide.2 HP.out) ?_⟩
 rintro e w1 ⟨rfl,rfl⟩
 gi_wp2_with fail
 gi_loopw [8] (fun i wr=>∃ j:Nat,j<=per/\i = ah j/\J j wr/\jG (BU pB kB) W wr) (fun i _=>per - (intOf i).toNat)
 case atStart=>exact ⟨0,by omega,rfl,h0,jG.refl _ _⟩
 case round =>
  obtain ⟨j,hj,rfl,uK,hH⟩:=hrel
  have b1:=hH.aH (.inl rfl) hbp1
  have b2:=hH.aH (.inr (.inl rfl)) hbk1
  have c1:=b1.cell 0 (v := ah (ww:Int)) rfl
  have c2:=b2.cell 0 (v := ah (k:Int)) rfl
  have c3:wr.cell? ⟨2,k,none⟩=some (ah (z:Int)):=by
   rw [World.cell?_of_block (w:=W) (hH.same 2 (.inr (.inr rfl)))];exact hsz
  by_cases hlt:j<per
  ·have hmul:(j:Int)*(z:Int)=((j*z:Nat):Int):=by simp
   have ahH:=ahG.out j hlt
   obtain ⟨x2,hx2⟩:∃ x2,x2=j*z:=⟨_,rfl⟩
   rw [<- hx2] at hmul ahH
   have hwr:IntKind.i64.wrap (x2:Int)=(x2:Int):=IntWalk.i64_in _ (by omega)
   have HX:=ay hx2
   have HY:=ay hY
   have HJ:=ay uK
   clear hx2 hY uK
   obtain ⟨fn,tmps,assign,body,hy,hR⟩:=HY.out j (j,j*z) #[ah (j:Int),ah (x2:Int)] wr (Ou hlt) HJ.out (by rw [HX.out];rfl)
   gi_wp2_with fail
   refine ⟨fun h=>(by cases h),hR.mono ?_⟩
   rintro e W' (⟨rfl,hJ',hk⟩|⟨rfl,BX⟩)
   ·gi_wp2_with fail
    go_roundw
    case rel=>exact ⟨j+1,by omega,by go_num,hJ',hH.trans hk⟩
    case measure=>simp [intOf];omega
   ·gi_wp2_with fail
    refine bodyPost_ret (results_none rfl _ _ _) rfl ?_
    exact ⟨⟨_,rfl⟩,.inr ⟨j+1,by rw [Bg];omega,BX⟩⟩
  ·clear hY
   have hje:j=per:=by omega
   have GR:=ay hje
   clear hje
   gi_wp2_with fail
   go_end0
   exact ⟨⟨_,rfl⟩,.inl (by rw [Bg,<- GR.out];exact uK)⟩
def mP (per z bP:Nat):List Nat:=(List.range per).map fun i=>bP+i*z+1
theorem wL (per z bP:Nat):(mP per z bP).length=per:=by simp [mP]
theorem Vb (j z bP:Nat):mP (j+1) z bP=mP j z bP++[bP+j*z+1]:=by simp [mP,List.range_succ]
structure GU (w:World) (N O:Nat) (cf:List Value) (k B0 z bP:Nat) (j:Nat) (W:World):Prop where
 aK:aj aB w W
 cf:aF W w.heap.size cf 23
 k:aF W (w.heap.size+1) [ah (k:Int)] 3
 b:aF W (w.heap.size+1+1) [ah (B0:Int)] 3
 kD:N<=W.heap.size
 o:∃ v,aF W O [v] 32/\W.ownsRow N 3 1 v j ((mP j z bP).map fun x:Nat => ah (x:Int))
theorem GU.own {w:World} {N O:Nat} {cf:List Value} {k B0 z bP B:Nat} (hB:w.heap.size<=B):OwnFrom B (GU w N O cf k B0 z bP):=by
 rintro j W W' row ⟨h1,h2,h3,h4,hN,v,h5,h6⟩ hg hr
 refine ⟨yC (β:=Nat) hB j W W' row h1 hg hr,nZ (β:=Nat) (cs:=fun _=>_) j W W' row h2 hg hr,nZ (β:=Nat) (cs:=fun _=>_) j W W' row h3 hg hr,nZ (β:=Nat) (cs:=fun _=>_) j W W' row h4 hg hr,ajU hN hg.size,v,nZ (β:=Nat) (cs:=fun _=>_) j W W' row h5 hg hr,?_⟩
 refine gK (S:=fun i=>row=some i) h6 ⟨hg.os,hg.tape,hg.output,hg.size,fun k hk n=>hg.block k hk (fun e=>n e.symm)⟩ (fun g hg' e=>?_)
 obtain ⟨_,_,ho,hc⟩:=hr g e
 obtain ⟨n,aO,rfl⟩:∃ n aO,v = .slice (some ⟨g,0,none⟩) n aO:=by
  obtain ⟨a,aO,rfl,_⟩:=gy (bQ h6 (aki _))
  cases a with
  | none=>simp [Value.ownBlock] at hg'
  | some a =>
    rcases h6.2 with ⟨h,_⟩|⟨g2,cap2,cur2,hv,_⟩
    ·cases h
    ·cases hv
     simp [Value.ownBlock] at hg'
     subst hg'
     exact ⟨_,_,rfl⟩
 have h7:=bQ h6 (aki _)
 have hn:n=j:=by
  rcases h6.2 with ⟨h,_⟩|⟨g2,cap2,cur2,hv,_⟩
  ·cases h
  ·cases hv;rfl
 subst hn
 obtain ⟨cur,hcur⟩:=Zi h7
 rw [hcur] at ho
 cases ho
 simp [Obj.isCells] at hc
theorem GU.later {w:World} {N O:Nat} {cf:List Value} {k B0 z bP j:Nat} {W W':World} (h:GU w N O cf k B0 z bP j W) (hk:aj aB W W'):GU w N O cf k B0 z bP j W':=by
 obtain ⟨v,h5,h6⟩:=h.o
 exact ⟨h.aK.trans hk,hk.aH h.cf (fun f=>f),hk.aH h.k (fun f=>f),hk.aH h.b (fun f=>f),ajU h.kD hk.size,v,hk.aH h5 (fun f=>f),bY h6 hk⟩
theorem nG {w:World} {e:TypeId} {v:Value} {n q:Nat} {xs:List Value} (h:w.ownsRow 0 e 1 v n xs) (hq:v.ownBlock=some q):∃ cur:Array Value,w.heap[q]?=some (.cells cur e (0,0)):=by
 rcases h.2 with ⟨rfl,_⟩|⟨g2,cap2,cur2,rfl,_,hg,_⟩
 ·simp [Value.ownBlock] at hq
 ·simp [Value.ownBlock] at hq
  subst hq
  exact ⟨_,hg⟩
theorem Rf {w:World} {e:TypeId} {bP g n aO:Nat} {xs:List Value} (h:w.ownsRow 0 e 1 (.slice (some ⟨g,0,none⟩) n aO) n xs) (hg:bP<=g):w.ownsRow bP e 1 (.slice (some ⟨g,0,none⟩) n aO) n xs:=by
 refine ⟨h.1,?_⟩
 rcases h.2 with ⟨h,_⟩|⟨g',cap',cur,hv,_,eP⟩
 ·cases h
 ·cases hv
  exact .inr ⟨g,aO,cur,rfl,hg,eP⟩
end
section
def HS.iT (H:HS) (k:Nat):Nat × Nat × HS:=match H.row k with
 | []=>(0,12,H)
 | a::_=>(a,0,H.take k)
def oh (f:Int):Nat:=if f<0 then 0 else if f<=1 then 0 else if f<=3 then 1 else if f<=7 then 2 else if f<=15 then 3 else 0
def HS.bH (H:HS) (B:Nat):List Nat:=if H.K.getD B 0=0 then [] else mP (H.ww/2^H.K.getD B 0) (2^H.K.getD B 0) (B*H.ww)
def HS.gq (H:HS) (k:Nat):List Nat × Nat × HS:=match H.K.findIdx? (fun x=>x==0) with
 | none=>([],10,H)
 | some B=>((H.assign B k).bH B,0,H.assign B k)
def HS.jA (H:HS) (a:Nat):HS:=match H.iC a with
 | none=>H
 | some (_,k)=>if H.bn a||H.jg a then H else H.put a k
def HS.kR (H:HS) (a:Nat) (f:Int):HS:=match H.iC a with
 | none=>H
 | some (_,k)=>if H.qU a&&decide (0<=f)&&decide (mX k f.toNat) then H.wK a k f.toNat else H
def HS.oV (H:HS) (a c:Nat):HS:=if H.qU a&&decide (c<2)&&(H.tK a).isSome then H.Aq a (c==1) else H
def HS.jH (H:HS) (a:Nat):HS:=if H.bn a then (H.rZ a).jA a else H
def HS.dh (H:HS) (a:Nat):Nat × Nat:=if H.qB a=0 then (H.nf a,0) else (0,H.qB a)
def HS.mY (H:HS) (a:Nat) (f:Int):Nat:=if H.qB a=0 then (if f<0\/(H.nf a:Int)<=f then 7 else 0) else H.qB a
def HS.eU (H:HS) (a:Nat) (f:Int):Nat:=if H.mY a f=0 then H.jf (a+1+f.toNat) else 0
def HS.uX (H:HS) (a:Nat) (f:Int) (v:Nat):Nat:=if H.mY a f=0 then (if v<=H.n then 0 else 4) else H.mY a f
def HS.jJ (H:HS) (a:Nat) (f:Int) (v:Nat):HS:=if H.uX a f v=0 then H.uj (a+1+f.toNat) v else H
def HS.iU (H:HS) (a:Nat):Nat:=if H.co a then 1 else 0
def HS.iG (H:HS) (a c:Nat):Bool:=H.bn a&&decide (c<2)&&(H.co a != (c==1))
def HS.eF (H:HS) (a c:Nat):HS:=if H.iG a c then H.iK a (c==1) else H
def HS.qj (H:HS) (i:Int):Nat:=if i<0\/(H.cells.length:Int)<=i then 9 else 0
def HS.jc (H:HS) (i:Int):Nat:=if H.qj i=0 then H.cells.getD i.toNat 0 else 0
def HS.BZ (H:HS) (i:Int) (v:Nat):Nat:=if H.qj i=0 then (if v<=H.n then 0 else 4) else 9
def HS.vU (H:HS) (i:Int) (v:Nat):HS:=if H.BZ i v=0 then H.setCell i.toNat v else H
end
section
open Go.RowKit
structure Bd where
 aG:Int
 kind:Int
 count:Int
 os:List Bool
def Bd.cells (b:Bd):List Value := ah b.aG :: ah b.kind :: ah b.count::b.os.map Value.bool
structure kH (w:World) (B:Nat) (b:Bd):Prop where
 aH:aF w B b.cells 169
 len:b.os.length=8
 lo:1<=b.aG
 hi:b.aG<=8
theorem kH.aK {S w w' B b} (h:kH w B b) (k:aj S w w') (hs:¬ S B):kH w' B b:=⟨k.aH h.aH hs,h.len,h.lo,h.hi⟩
def Bd.is (b:Bd) (m:Int):Bool:=decide (0<=m)&&decide (m<b.aG)
def Bd.vV (b:Bd) (m:Int):Bool:=b.os.getD m.toNat false
def Bd.bF (b:Bd) (m:Int):Bool:=b.is m&&b.vV m
def Bd.vH (b:Bd) (m:Int):Int:=if b.bF m then b.kind else 0
theorem Ov (B:Nat) (b:Bd) (m:Int) (w:World) (hb:kH w B b) :
 Calls aA 125 #[au B,ah m] w fun e w'=>e = .returned (.bool (b.is m))/\w=w':=by
 have hc:=hb.aH.cell 0 (v := ah b.aG) rfl
 clear hb
 go_enter func125,ntmps125
 go_wp2
 ·go_ret
  exact ⟨by simp [Bd.is, *],rfl⟩
 ·go_ret
  have:¬ (0<=m):=by omega
  exact ⟨by simp [Bd.is, *],rfl⟩
theorem zZ (B:Nat) (b:Bd) (m:Int) (w:World) (hb:kH w B b) (h:b.is m=true) :
 Calls aA 125 #[au B,ah m] w fun e w'=>e = .returned (.bool true)/\w=w':=by
 rw [<- h];exact Ov B b m w hb
theorem JG (B:Nat) (b:Bd) (m:Int) (w:World) (hb:kH w B b) (h:b.is m=false) :
 Calls aA 125 #[au B,ah m] w fun e w'=>e = .returned (.bool false)/\w=w':=by
 rw [<- h];exact Ov B b m w hb
theorem kH.JH {w B b} (hb:kH w B b) {m:Int} (h:b.is m=true):w.cell? ⟨B,3+m.toNat,none⟩=some (.bool (b.vV m)):=by
 have hl:=hb.len;have:=hb.hi
 simp [Bd.is] at h
 refine hb.aH.cell _ ?_
 rw [ajS]
 simp [Bd.cells,Bd.vV,List.getD_eq_getElem?_getD]
 rw [List.getElem?_eq_getElem (by omega)];simp
theorem Ny (B:Nat) (b:Bd) (m:Int) (w:World) (hb:kH w B b) :
 Calls aA 90 #[au B,ah m] w fun e w'=>e = .returned (.tuple #[ah (b.vH m),.bool (b.bF m)])/\w=w':=by
 cases h:b.is m with
 | false =>
   have hp:b.bF m=false:=by simp [Bd.bF,h]
   have HP:=ay hp;clear hp
   go_enter func90,ntmps90
   go_wp2_with (go_at_call 125;refine (JG B b m _ hb h).mono ?_;rintro e w' ⟨rfl,rfl⟩)
   go_ret2
   simp [HP.out,Bd.vH]
 | true =>
   have hco:=hb.JH h
   have hc1:=hb.aH.cell 1 (v := ah b.kind) rfl
   have hm1:0<=m:=by simp [Bd.is] at h;exact h.1
   have hm2:m<8:=by have:=hb.hi;simp [Bd.is] at h;omega
   have hp:b.bF m=b.vV m:=by simp [Bd.bF,h]
   have HP:=ay hp;clear hp
   cases ho:b.vV m with
   | false =>
     rw [ho] at hco
     go_enter func90,ntmps90
     go_wp2_with (go_at_call 125;refine (zZ B b m _ hb h).mono ?_;rintro e w' ⟨rfl,rfl⟩)
     go_ret2
     simp [HP.out,ho,Bd.vH]
   | true =>
     rw [ho] at hco
     go_enter func90,ntmps90
     go_wp2_with (go_at_call 125;refine (zZ B b m _ hb h).mono ?_;rintro e w' ⟨rfl,rfl⟩)
     go_ret2
     simp [HP.out,ho,Bd.vH]
theorem KI (B:Nat) (b:Bd) (m:Int) (w:World) (hb:kH w B b) :
 Calls aA 167 #[au B,ah m] w fun e w'=>e = .returned (.bool (b.is m && !b.vV m))/\w=w':=by
 cases h:b.is m with
 | false =>
   go_enter func167,ntmps167
   go_wp2_with (go_at_call 125;refine (JG B b m _ hb h).mono ?_;rintro e w' ⟨rfl,rfl⟩)
   go_ret
   exact ⟨rfl,rfl⟩
 | true =>
   have hco:=hb.JH h
   have hm1:0<=m:=by simp [Bd.is] at h;exact h.1
   have hm2:m<8:=by have:=hb.hi;simp [Bd.is] at h;omega
   go_enter func167,ntmps167
   go_wp2_with (go_at_call 125;refine (zZ B b m _ hb h).mono ?_;rintro e w' ⟨rfl,rfl⟩)
   go_ret
   exact ⟨rfl,rfl⟩
def uM:List Bool->Int->Int
 | [],_ => -1
 | x::l,i=>if x then i else uM l (i+1)
def vk (l:List Bool):Bool:=l.any id
theorem KJ (l:List Bool) (i:Int) (hi:0<=i):decide (0<=uM l i)=vk l:=by
 induction l generalizing i with
 | nil=>simp [uM,vk]
 | cons x l ih =>
   cases x
   ·simpa [uM,vk] using ih (i+1) (by omega)
   ·simp [uM,vk,hi]
theorem Je (x:Bool) (w:World) :
 Calls aA 207 #[.bool x] w fun e w'=>e = .returned (.bool x)/\w=w':=by
 go_enter func207,ntmps207
 go_wp2
 go_ret
 exact ⟨rfl,rfl⟩
theorem Vd (B off:Nat) (l:List Bool) (w:World) (hc:∀ i,(h:i<l.length)->w.cell? ⟨B,off+i,none⟩=some (.bool l[i])) (hl:l.length<=1000) :
 Calls aA 240 #[.slice (some ⟨B,off,none⟩) l.length l.length,.func (.func 207) #[] #[]] w fun e w'=>e = .returned (ah (uM l 0))/\w=w':=by
 go_enter func240,ntmps240
 go_wp2
 go_outline
 go_loop [8] (fun i=>∃ k:Nat,k<=l.length/\i = ah k/\uM l 0=uM (l.drop k) k) (fun i=>l.length - (intOf i).toNat)
 case atStart=>exact ⟨0,aki _,rfl,rfl⟩
 case round =>
  obtain ⟨k,hk,rfl,hr⟩:=hrel
  have HR:=ay hr;clear hr
  by_cases hlt:k<l.length
  ·have hk1:=hc k hlt
   have e1:l.drop k=l[k]::l.drop (k+1):=by simp
   cases hx:l[k] with
   | true =>
     rw [hx] at hk1
     rw [hx] at e1
     have HE:=ay e1;clear e1 hx hc
     go_wp2_with (go_at_call 207;refine (Je _ _).mono ?_;rintro e w' ⟨rfl,rfl⟩)
     go_ret
     refine ⟨?_,rfl⟩
     rw [HR.out,HE.out];rfl
   | false =>
     rw [hx] at hk1
     rw [hx] at e1
     have HE:=ay e1;clear e1 hx hc
     go_wp2_with (go_at_call 207;refine (Je _ _).mono ?_;rintro e w' ⟨rfl,rfl⟩)
     go_round
     case rel=>exact ⟨k+1,by omega,by go_num,by rw [HR.out,HE.out];rfl⟩
     case measure=>simp [intOf];omega
  ·have:l.drop k=[]:=List.drop_of_length_le (by omega)
   have HE:=ay this;clear this hc
   go_wp2
   go_ret
   refine ⟨?_,rfl⟩
   rw [HR.out,HE.out];rfl
theorem kH.Zk {w B b} (hb:kH w B b) (i:Nat) (h:i<b.os.length):w.cell? ⟨B,3+i,none⟩=some (.bool b.os[i]):=by
 refine hb.aH.cell _ ?_
 rw [ajS]
 simp [Bd.cells,h]
theorem Rh (B off:Nat) (l:List Bool) (w:World) (hc:∀ i,(h:i<l.length)->w.cell? ⟨B,off+i,none⟩=some (.bool l[i])) (hl:l.length<=1000) :
 Calls aA 206 #[.slice (some ⟨B,off,none⟩) l.length l.length,.func (.func 207) #[] #[]] w fun e w'=>e = .returned (.bool (vk l))/\w=w':=by
 have hge:=KJ l 0 (by omega)
 have HC:=ay hc;have HG:=ay hge;clear hc hge
 go_enter func206,ntmps206
 go_wp2_with (go_at_call 240;refine (Vd _ _ _ _ HC.out hl).mono ?_;rintro e w' ⟨rfl,rfl⟩)
 go_ret
 exact ⟨by rw [<- HG.out];rfl,rfl⟩
def Bd.all (b:Bd):Bool := !vk b.os
theorem KL (B:Nat) (b:Bd) (w:World) (hb:kH w B b) :
 Calls aA 165 #[au B] w fun e w'=>e = .returned (.bool b.all)/\w=w':=by
 have hc:=hb.Zk
 have hl:=hb.len
 have HC:=ay hc;have HL:=ay hl;clear hc hl hb
 have key:∀ w0,w0=w->Calls aA 206 #[.slice (some ⟨B,3,none⟩) 8 8,.func (.func 207) #[] #[]] w0 fun e w'=>e = .returned (.bool (vk b.os))/\w0=w':=by
  intro w0 h0
  subst h0
  have:=Rh B 3 b.os w0 HC.out (by rw [HL.out];omega)
  rw [HL.out] at this;exact this
 have KEY:=ay key;clear key
 go_enter func165,ntmps165
 go_wp2_with (go_at_call 206;refine (KEY.out _ rfl).mono ?_;rintro e w' ⟨rfl,rfl⟩)
 go_ret
 exact ⟨rfl,rfl⟩
def Bd.close (b:Bd) (m:Int):Bd:={ b with os:=b.os.set m.toNat false }
def Bd.JI (b:Bd) (m:Int):Int:=if b.is m then (if b.vV m then 0 else 11) else 4
def Bd.lV (b:Bd) (m:Int):Bd:=if b.bF m then b.close m else b
theorem kH.close {w B b} (hb:kH w B b) (m:Int):kH (w.setCell ⟨B,3+m.toNat,none⟩ (.bool false)) B (b.close m):=by
 refine ⟨?_,by simp [Bd.close,hb.len],hb.lo,hb.hi⟩
 have:=hb.aH.set (3+m.toNat) (.bool false)
 rw [ajS] at this ⊢
 simpa [Bd.cells,Bd.close,akj] using this
theorem Qx (B:Nat) (b:Bd) (m:Int) (w:World) (hb:kH w B b) :
 Calls aA 129 #[au B,ah m] w fun e w'=>e = .returned (ah (b.JI m))/\kH w' B (b.lV m)/\aj (only B) w w':=by
 cases h:b.is m with
 | false =>
   have HE:Hid (b.JI m=4/\b.lV m=b):=by simp [Hid,Bd.JI,Bd.lV,Bd.bF,h]
   go_enter func129,ntmps129
   go_wp2_with (go_at_call 125;refine (JG B b m _ hb h).mono ?_;rintro e w' ⟨rfl,rfl⟩)
   go_ret
   rw [HE.out.1,HE.out.2]
   exact ⟨rfl,hb,aj.refl _ _⟩
 | true =>
   have hco:=hb.JH h
   have hm1:0<=m:=by simp [Bd.is] at h;exact h.1
   have hm2:m<8:=by have:=hb.hi;simp [Bd.is] at h;omega
   cases ho:b.vV m with
   | false =>
     have HE:Hid (b.JI m=11/\b.lV m=b):=by simp [Hid,Bd.JI,Bd.lV,Bd.bF,h,ho]
     rw [ho] at hco
     go_enter func129,ntmps129
     go_wp2_with (go_at_call 125;refine (zZ B b m _ hb h).mono ?_;rintro e w' ⟨rfl,rfl⟩)
     go_ret
     rw [HE.out.1,HE.out.2]
     exact ⟨rfl,hb,aj.refl _ _⟩
   | true =>
     have HE:Hid (b.JI m=0/\b.lV m=b.close m):=by simp [Hid,Bd.JI,Bd.lV,Bd.bF,h,ho]
     have hfz:=hb.aH.free (3+m.toNat)
     have HB:=ay (hb.close m)
     rw [ho] at hco
     go_enter func129,ntmps129
     go_wp2_with (go_at_call 125;refine (zZ B b m _ hb h).mono ?_;rintro e w' ⟨rfl,rfl⟩)
     go_ret
     rw [HE.out.1,HE.out.2]
     exact ⟨rfl,HB.out,(aj.refl (only B) _).put _ _⟩
def Bd.bC (m:Int):Bd:=⟨m,0,0,ajj 8 false⟩
theorem Xn (m:Int) (w:World) (h:1<=m) (h8:m<=8) :
 Calls aA 68 #[ah m] w fun e w'=>e = .returned (.tuple #[au w.heap.size,ah 0])/\kH w' w.heap.size (Bd.bC m)/\aj aB w w':=by
 have HN:∀ w:World,Hid (kH (w.alloc (.cells (Bd.bC m).cells.toArray 169)) w.heap.size (Bd.bC m)):=fun w=>⟨aF.bC w (Bd.bC m).cells 169,rfl,h,h8⟩
 go_enter func68,ntmps68
 go_wp2
 go_ret2
 exact ⟨rfl,(HN w).out,(aj.refl _ _).alloc _⟩
def wM:Nat->List Bool->List Bool
 | 0,l=>l
 | k+1,l=>(wM k l).set k true
def Bd.yE (b:Bd) (kind:Int) (k:Nat):Bd:=⟨b.aG,kind,b.count+1,wM k b.os⟩
def Bd.Ri (b:Bd):Int:=if b.all then 0 else 11
def Bd.vW (b:Bd) (kind:Int):Bd:=if b.all then b.yE kind b.aG.toNat else b
theorem kH.asked0 {w B b} (hb:kH w B b) (kind:Int):kH ((w.setCell ⟨B,1,none⟩ (ah kind)).setCell ⟨B,2,none⟩ (ah (b.count+1))) B (b.yE kind 0) :=
 ⟨by simpa [Bd.cells,Bd.yE,wM] using (hb.aH.set 1 (ah kind)).set 2 (ah (b.count+1)),hb.len,hb.lo,hb.hi⟩
theorem kH.afl {w B b kind k} (hb:kH w B (Bd.yE b kind k)):kH (w.setCell ⟨B,3+k,none⟩ (.bool true)) B (b.yE kind (k+1)):=by
 refine ⟨?_,by have:=hb.len;simp [Bd.yE,wM] at *;exact this,hb.lo,hb.hi⟩
 have:=hb.aH.set (3+k) (.bool true)
 rw [ajS] at this ⊢
 simpa [Bd.cells,Bd.yE,wM,akj] using this
theorem Xo (B:Nat) (b:Bd) (kind:Int) (w:World) (hb:kH w B b) (hk0:0<=b.count) (hk1:b.count<=1000000000) :
 Calls aA 120 #[au B,ah kind] w fun e w'=>e = .returned (ah b.Ri)/\kH w' B (b.vW kind)/\aj (only B) w w':=by
 cases h:b.all with
 | false =>
   have HE:Hid (b.Ri=11/\b.vW kind=b):=by simp [Hid,Bd.Ri,Bd.vW,h]
   have key:Calls aA 165 #[au B] w fun e w'=>e = .returned (.bool false)/\w=w':=by
    rw [<- h];exact KL B b w hb
   have KEY:=ay key;clear key
   go_enter func120,ntmps120
   go_wp2_with (go_at_call 165;refine KEY.out.mono ?_;rintro e w' ⟨rfl,rfl⟩)
   go_ret
   rw [HE.out.1,HE.out.2]
   exact ⟨rfl,hb,aj.refl _ _⟩
 | true =>
   have HE:Hid (b.Ri=0/\b.vW kind=b.yE kind b.aG.toNat):=by simp [Hid,Bd.Ri,Bd.vW,h]
   have key:Calls aA 165 #[au B] w fun e w'=>e = .returned (.bool true)/\w=w':=by
    rw [<- h];exact KL B b w hb
   have KEY:=ay key;clear key
   have hc0:=hb.aH.cell 0 (v := ah b.aG) rfl
   have hc1:=hb.aH.cell 1 (v := ah b.kind) rfl
   have hc2:=hb.aH.cell 2 (v := ah b.count) rfl
   have hf1:=hb.aH.free 1
   have hf2:=hb.aH.free 2
   have hmu:=hb.hi
   have hml:=hb.lo
   have H0:=ay (hb.asked0 kind)
   go_enter func120,ntmps120
   go_wp2_with (go_at_call 165;refine KEY.out.mono ?_;rintro e w' ⟨rfl,rfl⟩)
   go_loopw [24] (fun i wr=>∃ k:Nat,k<=b.aG.toNat/\i = ah k/\kH wr B (b.yE kind k)/\aj (only B) w wr) (fun i _=>b.aG.toNat - (intOf i).toNat)
   case atStart=>exact ⟨0,aki _,rfl,H0.out,((aj.refl (only B) _).put _ _).put _ _⟩
   case round =>
    obtain ⟨k,hk,rfl,hbk,hkeep⟩:=hrel
    by_cases hlt:(k:Int)<b.aG
    ·have hfz:=hbk.aH.free (3+k)
     have hcl:wr.cell? ⟨B,3+k,none⟩=some (.bool (b.yE kind k).os[k]!):=by
      have hl:=hbk.len
      rw [hbk.Zk k (by omega)]
      rw [getElem!_pos _ _ (by omega)]
     have HB:=ay hbk.afl
     go_wp2
     go_roundw
     case rel=>exact ⟨k+1,by omega,by go_num,HB.out,hkeep.put _ _⟩
     case measure=>simp [intOf];omega
    ·have e1:k=b.aG.toNat:=by omega
     have HK:=ay e1;clear e1
     go_wp2
     go_ret
     rw [HE.out.1,HE.out.2,<- HK.out]
     exact ⟨rfl,hbk,hkeep⟩
theorem Ar {B:Nat} {b:Bd} {m:Int} {w:World} {p:Bool} {k:Int} (hb:kH w B b) (h1:b.bF m=p) (h2:b.vH m=k) :
 Calls aA 90 #[au B,ah m] w fun e w'=>e = .returned (.tuple #[ah k,.bool p])/\w=w':=by
 rw [<- h1,<- h2];exact Ny B b m w hb
def Ow:Type:=Nat->Nat
def In (o:Ow) (I:List Nat):Nat->Prop:=fun b=>o b∈I
def kJ (o:Ow) (w:World):Prop:=∀ b,w.heap.size<=b->o b=0
def bZ (w:World) (o o':Ow):Prop:=∀ b,b<w.heap.size->o' b=o b
theorem bZ.refl (w:World) (o:Ow):bZ w o o:=fun _ _=>rfl
theorem bZ.trans {w w':World} {o o' o'':Ow} (h:bZ w o o') (hs:w.heap.size<=w'.heap.size) (h':bZ w' o' o''):bZ w o o'':=fun b hb=>(h' b (ajf hb hs)).trans (h b hb)
theorem kJ.later {o:Ow} {w w':World} (h:kJ o w) (hs:w.heap.size<=w'.heap.size):kJ o w':=fun b hb=>h b (ajU hs hb)
theorem kJ.aK {S:Nat->Prop} {o:Ow} {w w':World} (h:kJ o w) (k:aj S w w'):kJ o w':=h.later k.size
theorem afm {o:Ow} {I:List Nat} {b i:Nat} (h:o b=i) (hi:i∉I):¬ In o I b:=fun e=>by unfold In at e;rw [h] at e;exact hi e
theorem dR {o:Ow} {I:List Nat} {b i:Nat} (h:o b=i) (hi:I.contains i=false):¬ In o I b:=afm h (by simpa using hi)
theorem aj.bV {o:Ow} {I:List Nat} {w w':World} (k:aj aB w w'):aj (In o I) w w':=k.mono (fun _ _ f=>f.elim)
theorem aj.xI {o:Ow} {I:List Nat} {w w':World} {B i:Nat} (k:aj (only B) w w') (h:o B=i) (hi:I.contains i=true):aj (In o I) w w':=k.mono (fun b _ e=>by unfold only at e;subst e;unfold In;rw [h];simpa using hi)
theorem aj.oW {o:Ow} {I J:List Nat} {w w':World} (k:aj (In o I) w w') (h:I.all (fun i=>J.contains i)=true):aj (In o J) w w':=k.mono (fun b _ e=>by
 unfold In at *
 have:=List.all_eq_true.1 h _ e
 simpa using this)
theorem aj.yF {o o':Ow} {I:List Nat} {w w':World} (k:aj (In o I) w w') (h:bZ w o o'):aj (In o' I) w w':=k.mono (fun b hb e=>by unfold In at *;rw [h b hb];exact e)
theorem aj.KN {o o':Ow} {I:List Nat} {a b c:World} (h:aj (In o I) a b) (k:aj (In o' I) b c) (e:bZ a o o'):aj (In o I) a c:=h.kF k (fun i hi hin=>by unfold In at *;rw [<- e i hi];exact hin)
def Ow.put (o:Ow) (g i:Nat):Ow:=fun b=>if b=g then i else o b
theorem Ow.pF {o:Ow} {w:World} {g i:Nat} (h:w.heap.size<=g\/o g=i):bZ w o (o.put g i):=fun b hb=>by
 unfold Ow.put
 split
 ·rename_i e;subst e
  rcases h with h|h
  ·omega
  ·exact h.symm
 ·rfl
theorem Ow.um {o:Ow} {w w':World} {g i:Nat} (h:kJ o w) (hs:w.heap.size<=w'.heap.size) (hg:g<w'.heap.size):kJ (o.put g i) w':=fun b hb=>by
 unfold Ow.put
 rw [aT (by omega)]
 exact h b (by omega)
theorem Ow.qW (o:Ow) (g i:Nat):(o.put g i) g=i:=by unfold Ow.put;rw [aZ rfl]
def dH (o:Ow) (w:World) (T:TypeId) (v:Value) (xs:List Value):Prop :=
 ∃ a c,v = .slice a xs.length c/\xs.length<=c/\xs.length<=4000000000000/\(0<xs.length->∃ b off cs,a=some ⟨b,off,none⟩/\o b=0/\aF w b cs T/\∀ j,j<xs.length->cs[off+j]?=xs[j]?)
section
variable {o o':Ow} {w w':World} {T:TypeId} {v:Value} {xs:List Value}
theorem dH.nil (o:Ow) (w:World) (T:TypeId):dH o w T (.slice none 0 0) []:=⟨none,0,rfl,aje _,by simp,fun h=>absurd h (ajY 0)⟩
theorem dH.aK {S:Nat->Prop} (h:dH o w T v xs) (k:aj S w w') (hs:∀ b,o b=0->¬ S b):dH o w' T v xs:=by
 obtain ⟨a,c,rfl,hl,hm,hc⟩:=h
 refine ⟨a,c,rfl,hl,hm,fun h0=>?_⟩
 obtain ⟨b,off,cs,e,h0,hb,hj⟩:=hc h0
 exact ⟨b,off,cs,e,h0,k.aH hb (hs b h0),hj⟩
theorem dH.bg {I:List Nat} (h:dH o w T v xs) (k:aj (In o I) w w') (hI:I.contains 0=false):dH o w' T v xs:=h.aK k (fun _ hb=>dR hb hI)
theorem dH.still (h:dH o w T v xs) (k:aj aB w w'):dH o w' T v xs:=h.aK k (fun _ _ f=>f)
theorem dH.ext (h:dH o w T v xs) (e:bZ w o o'):dH o' w T v xs:=by
 obtain ⟨a,c,rfl,hl,hm,hc⟩:=h
 refine ⟨a,c,rfl,hl,hm,fun h0=>?_⟩
 obtain ⟨b,off,cs,e1,h0,hb,hj⟩:=hc h0
 exact ⟨b,off,cs,e1,(e b hb.lt).trans h0,hb,hj⟩
theorem dH.toV (h:dH o w T v xs):Q8 w T v xs:=by
 obtain ⟨a,c,rfl,hl,hm,hc⟩:=h
 refine ⟨a,c,rfl,hl,hm,fun h0=>?_⟩
 obtain ⟨b,off,cs,e1,_,hb,hj⟩:=hc h0
 exact ⟨b,off,cs,e1,hb,hj⟩
theorem dH.yG {bP n:Nat} (h:w.ownsRow bP T 1 v n xs) (hm:n<=4000000000000) (hf:∀ b,bP<=b->o b=0):dH o w T v xs:=by
 obtain ⟨hl,hf2⟩:=h
 rcases hf2 with ⟨rfl,rfl⟩|⟨g,aO,cur,rfl,hg0,hg,hn,_,hs,hc⟩
 ·have:xs=[]:=akg (by simpa using hl)
  subst this
  exact dH.nil _ _ _
 ·have hnl:n=xs.length:=by simpa using hl.symm
  subst hnl
  refine ⟨_,aO,rfl,hn,hm,fun _=>⟨g,0,cur.toList,rfl,hf g hg0,by unfold aF;simpa using hg,fun j hj=>?_⟩⟩
  rw [<- hc]
  simp [hj]
theorem dH.ahh {B:Nat} (h:aF w B xs T) (hB:o B=0) {n:Nat} (hn:n=xs.length) (hm:n<=4000000000000):dH o w T (.slice (some ⟨B,0,none⟩) n n) xs:=by
 subst hn
 exact ⟨_,_,rfl,aje _,hm,fun _=>⟨B,0,xs,rfl,hB,h,fun j _=>by rw [Nat.zero_add]⟩⟩
theorem dH.cut {a:Option Addr} {n c:Nat} (h:dH o w T (.slice a n c) xs) (k:Nat) (hk:k<=n):dH o w T (.slice (vw a c k) (n - k) (c - k)) (xs.drop k):=by
 obtain ⟨a',c',e,hl,hm,hc⟩:=h
 simp at e
 obtain ⟨rfl,rfl,rfl⟩:=e
 refine ⟨vw a c k,c - k,by simp,by simp;omega,by simp;omega,fun h0=>?_⟩
 have h0':k<xs.length:=by simp at h0;omega
 obtain ⟨b,off,cs,rfl,h0,hb,hj⟩:=hc (by omega)
 refine ⟨b,off+k,cs,?_,h0,hb,fun j hjl=>?_⟩
 ·unfold vw
  rw [aT (by omega)]
  cases k with
  | zero=>simp [akh]
  | succ k=>simp [akh]
 ·simp only [List.length_drop] at hjl
  rw [List.getElem?_drop,Nat.add_assoc,hj (k+j) (by omega)]
theorem dH.form (h:dH o w T v xs):∃ a c,v = .slice a xs.length c/\xs.length<=c/\xs.length<=4000000000000/\∀ j u,xs[j]?=some u->∃ b off,a=some ⟨b,off,none⟩/\w.cell? ⟨b,off+j,none⟩=some u:=by
 obtain ⟨a,c,rfl,hl,hm,hc⟩:=h
 refine ⟨a,c,rfl,hl,hm,fun j u hj=>?_⟩
 have hlt:=(ake.1 hj).1
 obtain ⟨b,off,cs,e1,_,hb,hj2⟩:=hc (by omega)
 exact ⟨b,off,e1,hb.cell _ ((hj2 j hlt).trans hj)⟩
end
theorem aF.bg {o:Ow} {I:List Nat} {w w':World} {B i:Nat} {cs:List Value} {T:TypeId} (h:aF w B cs T) (k:aj (In o I) w w') (hB:o B=i) (hI:I.contains i=false):aF w' B cs T:=k.aH h (dR hB hI)
end
end Go.Proofs.YtanfphjoebobaaaGreatDoor
