/- Parts of the walk. No conditions. -/
import Derived.Test.YtanfphjoebobaaaGreatDoorZzee
import Derived.Test.YtanfphjoebobaaaGreatDoorZzek
namespace Go.Proofs.YtanfphjoebobaaaGreatDoor
open _root_.Go.Proofs.Tryz hiding prog
open _root_.Go.Proofs.Tryz renaming prog->ay
set_option maxRecDepth 4000
set_option maxHeartbeats 1000000
section
open Go.RowKit
def Caps (o:Ow) (w:World):List (List Value × TypeId)->List Nat->Prop
 | [],bs=>bs=[]
 | (cs,T)::l,bs=>∃ b r,bs=b::r/\o b=0/\aA w b cs T/\Caps o w l r
abbrev aB (b:Nat):Value := aj b
def bK (o:Ow) (w:World) (fn:Nat) (l:List (List Value × TypeId)) (v:Value):Prop:=∃ bs,v = .func (.func fn) #[] (bs.map aB).toArray/\Caps o w l bs
section
variable {o:Ow} {w w':World}
theorem Caps.keep {S:Nat->Prop} (k:Keep S w w') (h0:∀ b,o b=0->¬ S b):∀ {l:List (List Value × TypeId)} {bs:List Nat},Caps o w l bs->Caps o w' l bs
 | [],_,h=>h
 | (cs,T)::l,bs,h=>by
   obtain ⟨b,r,e,h1,h2,h3⟩:=h
   exact ⟨b,r,e,h1,k.blk h2 (h0 b h1),Caps.keep k h0 h3⟩
theorem Caps.ext {o':Ow} (e:aQ w o o'):∀ {l:List (List Value × TypeId)} {bs:List Nat},Caps o w l bs->Caps o' w l bs
 | [],_,h=>h
 | (cs,T)::l,bs,h=>by
   obtain ⟨b,r,e1,h1,h2,h3⟩:=h
   exact ⟨b,r,e1,(e b h2.lt).trans h1,h2,Caps.ext e h3⟩
theorem bK.keep {S:Nat->Prop} {fn:Nat} {l:List (List Value × TypeId)} {v:Value} (h:bK o w fn l v) (k:Keep S w w') (h0:∀ b,o b=0->¬ S b):bK o w' fn l v:=by
 obtain ⟨bs,e,hc⟩:=h
 exact ⟨bs,e,hc.keep k h0⟩
theorem bK.ext {o':Ow} {fn:Nat} {l:List (List Value × TypeId)} {v:Value} (h:bK o w fn l v) (e:aQ w o o'):bK o' w fn l v:=by
 obtain ⟨bs,e1,hc⟩:=h
 exact ⟨bs,e1,hc.ext e⟩
end
def uf (o:Ow) (w:World) (M:Nat):RD->Value->Prop
 | .field base f _,v=>∃ op:fE,op.b=f/\bK o w 227 [([aB M],56),([ah (base:Int)],3),(op.cells,83)] v
 | .cell i _,v=>∃ op:fE,op.a=i/\bK o w 231 [([aB M],56),(op.cells,83)] v
def ug (o:Ow) (w:World) (M:Nat):RD->Value->Prop
 | .field base f x,v=>∃ op:fE,op.b=f/\bK o w 229 [([aB M],56),([ah (base:Int)],3),(op.cells,83),([ah (x:Int)],3)] v
 | .cell i x,v=>∃ op:fE,op.a=i/\bK o w 232 [([aB M],56),(op.cells,83),([ah (x:Int)],3)] v
def kR (o:Ow) (w:World) (M:Nat) (rd:RD) (v:Value):Prop:=∃ wv,ug o w M rd wv/\bK o w 253 [([wv],1),([aB M],56)] v
def dw (o:Ow) (w:World) (Nt M:Nat):MD->Value->Prop
 | .nil,v=>v = .nilFunc
 | .start op,v=>bK o w 92 [([aB M],56),(op.cells,83)] v
 | .once k,v=>∃ dv,bK o w 169 [([dv],1)] v/\(if k=1 then ∃ lv,bK o w 128 [([lv],1),([aB M],56)] dv/\bK o w 130 [([aB M],56)] lv
  else if k=2 then ∃ lv,bK o w 128 [([lv],1),([aB M],56)] dv/\bK o w 132 [] lv
  else if k=3 then ∃ lv,bK o w 128 [([lv],1),([aB M],56)] dv/\bK o w 133 [([aB M],56)] lv
  else if k=5 then ∃ lv,bK o w 128 [([lv],1),([aB M],56)] dv/\bK o w 137 [([aB M],56)] lv
  else ∃ lv,bK o w 128 [([lv],1),([aB M],56)] dv/\bK o w 138 [([aB M],56)] lv)
 | .note x c t,v=>∃ tv av,dw o w Nt M t tv/\bK o w 171 [([aB Nt],104),([ah (x:Int)],3),([tv],88)] av/\bK o w 173 [([aB Nt],104),([ah (x:Int)],3),([ah (c:Int)],3),([tv],88),([av],87)] v
 | .add x t,v=>∃ tv,dw o w Nt M t tv/\bK o w 171 [([aB Nt],104),([ah (x:Int)],3),([tv],88)] v
 | .pour c t,v=>∃ tv,dw o w Nt M t tv/\bK o w 176 [([aB Nt],104),([tv],88),([ah (c:Int)],3)] v
 | .eu c f t,v=>∃ tv,dw o w Nt M t tv/\bK o w 214 [([aB Nt],104),([ah (c:Int)],3),([.bool f],4),([tv],88)] v
 | .raise t,v=>∃ tv,dw o w Nt M t tv/\bK o w 217 [([aB Nt],104),([tv],88)] v
 | .field base f t,v=>∃ tv,dw o w Nt M t tv/\bK o w 252 [([aB M],56),([ah (base:Int)],3),([ah f],3),([tv],88)] v
 | .load op base,v=>bK o w 225 [([aB M],56),([ah (base:Int)],3),(op.cells,83)] v
 | .get op,v=>bK o w 230 [([aB M],56),(op.cells,83)] v
 | .lay x rd,v=>∃ rv lv,uf o w M rd rv/\kR o w M rd lv/\bK o w 254 [([rv],44),([aB M],56),([lv],87),([ah (x:Int)],3)] v
 | .last rd,v=>kR o w M rd v
 | .alloc op k,v=>bK o w 220 [([aB M],56),([ah (k:Int)],3),(op.cells,83)] v
 | .assign op k,v=>bK o w 222 [([aB M],56),(op.cells,83),([ah (k:Int)],3)] v
 | .qj op all,v=>2<=all.length/\∃ av,bC o w 3 av (aG all)/\bK o w 268 [([aB M],56),([av],32),([ah ((all.length - 1:Nat):Int)],3),(op.cells,83)] v
 | .claim op k,v=>bK o w 249 [([aB M],56),(op.cells,83),([ah (k:Int)],3)] v
 | .again op k,v=>bK o w 264 [([aB M],56),([ah (k:Int)],3),(op.cells,83)] v
 | .sweep _ _ _,_=>False
 | .fill op a,v=>bK o w 247 [([aB M],56),([ah (a:Int)],3),(op.cells,83)] v
 | .zero op a i,v=>bK o w 263 [([ah (i:Int)],3),(op.cells,83),([aB M],56),([ah (a:Int)],3)] v
def iH (o:Ow) (w:World) (D0 q:Nat) (v:Value) (sl:List Nat) (c:Nat):Prop :=
 (v = .pointer none/\sl=[])\/∃ C b sv,v=aB C/\o C=q/\aA w C [aB D0,sv,ah (b:Int),ah (c:Int)] 266/\bC o w 3 sv (aG sl)
def jG (o:Ow) (w:World) (D0:Nat) (g:Nat × Nat) (q:Nat):MD->Value->Prop
 | .sweep sl c t,v=>∃ cv tv,iH o w D0 q cv sl c/\dw o w g.1 g.2 t tv/\bK o w 277 [([cv],260),([aB g.2],56),([tv],88)] v
 | d,v=>dw o w g.1 g.2 d v
theorem jG.of {o:Ow} {w:World} {D0:Nat} {g:Nat × Nat} {q:Nat} {d:MD} {v:Value} (h:dw o w g.1 g.2 d v):jG o w D0 g q d v:=by
 cases d<;>first|exact h|exact h.elim
structure pz (w:World) (a:Option Addr) (n sz:Nat) (rs:List (List Value)):Prop where
 len:rs.length=n
 at_:0<n->∃ b off,a=some ⟨b,off,none⟩/\∀ i r,rs[i]?=some r->∀ j v,r[j]?=some v->w.cell? ⟨b,off+i*sz+j,none⟩=some v
theorem pz.below {w w' a n sz rs} (h:pz w a n sz rs) (k:Keep none_ w w'):pz w' a n sz rs:=by
 refine ⟨h.len,fun h0=>?_⟩
 obtain ⟨b,off,e,hc⟩:=h.at_ h0
 exact ⟨b,off,e,fun i r hi j v hj=>k.still (hc i r hi j v hj)⟩
theorem pz.nil (w:World) (sz:Nat):pz w none 0 sz []:=⟨rfl,fun h=>absurd h (Nat.lt_irrefl 0)⟩
theorem pz.tV {w:World} {base n sz:Nat} {T:TypeId} {v:Value} {rs:List (List Value)} (h:w.ownsRow base T sz v n rs.flatten) (hr:∀ r∈rs,r.length=sz) (hn:rs.length=n) :
 ∃ a c,v = .slice a n c/\pz w a n sz rs/\n<=c:=by
 obtain ⟨hl,hf⟩:=h
 have idx:∀ (rs:List (List Value)),(∀ r∈rs,r.length=sz)->∀ i r,rs[i]?=some r->∀ j v,r[j]?=some v->rs.flatten[i*sz+j]?=some v:=by
  intro rs
  induction rs with
  | nil=>intro _ i r h;simp at h
  | cons r0 rs ih =>
    intro hr i r hi j v hj
    have h0:r0.length=sz:=hr r0 (by simp)
    rw [List.flatten_cons]
    cases i with
    | zero =>
      simp at hi;subst hi
      have:=(List.getElem?_eq_some_iff.1 hj).1
      rw [Nat.zero_mul,Nat.zero_add,List.getElem?_append_left (by omega)];exact hj
    | succ i =>
      have e:(i+1)*sz+j=r0.length+(i*sz+j):=by rw [Nat.succ_mul,h0];omega
      rw [e,List.getElem?_append_right (by omega),Nat.add_sub_cancel_left]
      exact ih (fun r h=>hr r (by simp [h])) i r (by simpa using hi) j v hj
 rcases hf with ⟨rfl,h0⟩|⟨g,cap,cur,rfl,_,hg,hnc,_,hs,hc⟩
 ·rcases Nat.eq_zero_or_pos n with hz|hz
  ·subst hz
   have:rs=[]:=List.eq_nil_of_length_eq_zero hn
   subst this
   exact ⟨none,0,rfl,pz.nil _ _,Nat.le_refl _⟩
  ·omega
 ·refine ⟨_,cap,rfl,⟨hn,fun _=>⟨g,0,rfl,fun i r hi j v hj=>?_⟩⟩,hnc⟩
  have h1:=idx rs hr i r hi j v hj
  rw [<- hc] at h1
  have hlt:i*sz+j<n*sz:=by
   have:=(List.getElem?_eq_some_iff.1 h1).1
   simp at this;omega
  have h2:cur[i*sz+j]?=some v:=by
   rw [List.getElem?_take_of_lt hlt] at h1
   simpa using h1
  simp [World.cell?,hg,h2]
end
section
open Go.RowKit Go.Deep
section
variable {P:Program} {w:World}
end
theorem LJ {sz:Nat}:∀ (rs:List (List Value)),(∀ r∈rs,r.length=sz)->rs.flatten.length=rs.length*sz
 | [],_=>by simp
 | r::rs,h=>by
   have:=LJ rs (fun r hr=>h r (by simp [hr]))
   have h0:=h r (by simp)
   simp [Nat.succ_mul,h0,this,Nat.add_comm]
end
section
open Go.RowKit
structure Geo where
 S:Nat
 D:Nat->Nat
 B:Nat
 Q:Nat
 Fl:Nat
 bx:Nat->Nat
structure ShAt (o:Ow) (w:World) (G:Geo) (s:Sh):Prop where
 fC:gX o w
 sh:∃ v,aA w G.S [aB (G.D 0),aB G.B,aB G.Q,aB G.Fl,v] 53/\bC o w 122 v ((List.range s.boxes.length).map fun i=>aB (G.bx i))
 oS:o G.S=0
 heap:aF w G.D s.H
 oD:∀ i,i<13->o (G.D i)=1
 qF:o 3=0/\o 4=0/\o 2=0
 board:gW w G.B s.B
 oB:o G.B=2
 queue:fP o w G.Q s.Q
 oQ:o G.Q=3
 flag:aA w G.Fl [.bool s.flag] 121
 oF:o G.Fl=4
 box:∀ i l,s.boxes[i]?=some l->dS o w (G.bx i) 176 [] l/\o (G.bx i)=10+i
section
variable {o:Ow} {w w':World} {G:Geo} {s:Sh} {I:List Nat}
theorem fP.aH {B:Nat} {q:Qu} {i:Nat} (h:fP o w B q) (k:Keep (In o I) w w') (h0:I.contains 0=false) (hB:o B=i) (hI:I.contains i=false):fP o w' B q:=by
 obtain ⟨ho,hl,vs,hv,hb,hr⟩:=h
 exact ⟨ho,hl,vs,hv,hb.aH k hB hI,fun i v zs h1 h2=>(hr i v zs h1 h2).aH k h0⟩
theorem fP.rO {o':Ow} {B:Nat} {q:Qu} (h:fP o w B q) (e:aQ w o o'):fP o' w B q:=by
 obtain ⟨ho,hl,vs,hv,hb,hr⟩:=h
 exact ⟨by rw [e B hb.lt];exact ho,hl,vs,hv,hb,fun i v zs h1 h2=>(hr i v zs h1 h2).ext e⟩
theorem dS.aH {b:Nat} {T:TypeId} {rest:List Value} {xs:List Nat} {i:Nat} (h:dS o w b T rest xs) (k:Keep (In o I) w w') (h0:I.contains 0=false) (hB:o b=i) (hI:I.contains i=false):dS o w' b T rest xs :=
 h.keep k (bI hB hI) (fun x hx=>bI hx h0)
theorem ShAt.heapK (h:ShAt o w G s) (k:Keep (In o I) w w') (h0:I.contains 0=false) (h1:I.contains 1=false):aF w' G.D s.H :=
 h.heap.keep k (fun i hi=>bI (h.oD i hi) h1) (bI h.qF.1 h0) (bI h.qF.2.1 h0) (bI h.qF.2.2 h0)
theorem ShAt.hfO (h:ShAt o w G s) (k:Keep (HF G.D) w w') (h1:I.contains 1=true):Keep (In o I) w w':=k.mono (fun x _ hx=>by
 obtain ⟨i,hi,e⟩:=hx
 unfold In
 rw [e,h.oD i hi]
 simpa using h1)
theorem ShAt.upd {s':Sh} (h:ShAt o w G s) (k:Keep (In o I) w w') (h0:I.contains 0=false) (hH:aF w' G.D s'.H) (hB:gW w' G.B s'.B) (hQ:fP o w' G.Q s'.Q) (hF:aA w' G.Fl [.bool s'.flag] 121)
 (hl:s'.boxes.length=s.boxes.length) (hX:∀ i l,s'.boxes[i]?=some l->dS o w' (G.bx i) 176 [] l):ShAt o w' G s':=by
 obtain ⟨v,hs1,hs2⟩:=h.sh
 refine ⟨h.fC.keep k,⟨v,hs1.aH k h.oS h0,?_⟩,h.oS,hH,h.oD,h.qF,hB,h.oB,hQ,h.oQ,hF,h.oF,fun i l hi=>⟨hX i l hi,?_⟩⟩
 ·rw [hl];exact hs2.aH k h0
 ·have hlt:=(List.getElem?_eq_some_iff.1 hi).1
  exact (h.box i _ (List.getElem?_eq_getElem (by omega))).2
theorem ShAt.Em (h:ShAt o w G s) (k:Keep (In o I) w w') (h0:I.contains 0=false) (hI:∀ i,i<s.boxes.length->I.contains (10+i)=false):∀ i l,s.boxes[i]?=some l->dS o w' (G.bx i) 176 [] l:=fun i l hi =>
 (h.box i l hi).1.aH k h0 (h.box i l hi).2 (hI i (List.getElem?_eq_some_iff.1 hi).1)
theorem ShAt.aH (h:ShAt o w G s) (k:Keep (In o I) w w') (hI:I.all (fun i=>decide (20<=i))=true) (h8:s.boxes.length<=8):ShAt o w' G s:=by
 have hge:∀ i,i<20->I.contains i=false:=fun i hi=>by
  rw [Bool.eq_false_iff]
  intro hc
  have:=List.all_eq_true.1 hI i (by simpa using hc)
  simp at this;omega
 exact h.upd k (hge 0 (by decide)) (h.heapK k (hge 0 (by decide)) (hge 1 (by decide))) (h.board.keep k (bI h.oB (hge 2 (by decide)))) (h.queue.aH k (hge 0 (by decide)) h.oQ (hge 3 (by decide))) (h.flag.aH k h.oF (hge 4 (by decide))) rfl (h.Em k (hge 0 (by decide)) (fun i hi=>hge _ (by omega)))
theorem ShAt.qp {H:HS} (h:ShAt o w G s) (k:Keep (HF G.D) w w') (hH:aF w' G.D H) (h8:s.boxes.length<=8):ShAt o w' G { s with H:=H }/\Keep (In o [1]) w w':=by
 have k1:Keep (In o [1]) w w':=h.hfO k rfl
 exact ⟨h.upd (s':={ s with H:=H }) k1 rfl hH (h.board.keep k1 (bI h.oB rfl)) (h.queue.aH k1 rfl h.oQ rfl) (h.flag.aH k1 h.oF rfl) rfl (h.Em k1 rfl (fun i hi=>by simp;omega)),k1⟩
theorem ShAt.tq {B:Bd} (h:ShAt o w G s) (k:Keep (only G.B) w w') (hB:gW w' G.B B):ShAt o w' G { s with B:=B }/\Keep (In o [2]) w w':=by
 have k1:Keep (In o [2]) w w':=k.qK h.oB rfl
 exact ⟨h.upd (s':={ s with B:=B }) k1 rfl (h.heapK k1 rfl rfl) hB (h.queue.aH k1 rfl h.oQ rfl) (h.flag.aH k1 h.oF rfl) rfl (h.Em k1 rfl (fun i hi=>by simp;omega)),k1⟩
theorem ShAt.wM {Q:Qu} (h:ShAt o w G s) (k:Keep (only G.Q) w w') (hQ:fP o w' G.Q Q):ShAt o w' G { s with Q:=Q }/\Keep (In o [3]) w w':=by
 have k1:Keep (In o [3]) w w':=k.qK h.oQ rfl
 exact ⟨h.upd (s':={ s with Q:=Q }) k1 rfl (h.heapK k1 rfl rfl) (h.board.keep k1 (bI h.oB rfl)) hQ (h.flag.aH k1 h.oF rfl) rfl (h.Em k1 rfl (fun i hi=>by simp;omega)),k1⟩
theorem ShAt.CJ {f:Bool} (h:ShAt o w G s) (k:Keep (only G.Fl) w w') (hF:aA w' G.Fl [.bool f] 121):ShAt o w' G { s with flag:=f }/\Keep (In o [4]) w w':=by
 have k1:Keep (In o [4]) w w':=k.qK h.oF rfl
 exact ⟨h.upd (s':={ s with flag:=f }) k1 rfl (h.heapK k1 rfl rfl) (h.board.keep k1 (bI h.oB rfl)) (h.queue.aH k1 rfl h.oQ rfl) hF rfl (h.Em k1 rfl (fun i hi=>by simp;omega)),k1⟩
theorem ShAt.LK {j:Nat} {l:List Nat} (h:ShAt o w G s) (hj:j<s.boxes.length) (k:Keep (only (G.bx j)) w w') (hX:dS o w' (G.bx j) 176 [] l) (h8:s.boxes.length<=8):ShAt o w' G { s with boxes:=s.boxes.set j l }/\Keep (In o [10+j]) w w':=by
 have oj:=(h.box j _ (List.getElem?_eq_getElem hj)).2
 have k1:Keep (In o [10+j]) w w':=k.qK oj (by simp)
 have h0:([10+j]:List Nat).contains 0=false:=by simp;omega
 refine ⟨h.upd (s':={ s with boxes:=s.boxes.set j l }) k1 h0 (h.heapK k1 h0 (by simp;omega)) (h.board.keep k1 (bI h.oB (by simp;omega))) (h.queue.aH k1 h0 h.oQ (by simp;omega)) (h.flag.aH k1 h.oF (by simp;omega)) (by simp) (fun i l' hi=>?_),k1⟩
 by_cases e:j=i
 ·subst e
  rw [List.getElem?_set_self hj] at hi
  cases hi
  exact hX
 ·rw [List.getElem?_set_ne e] at hi
  exact (h.box i l' hi).1.aH k1 h0 (h.box i l' hi).2 (by simp;omega)
theorem ShAt.move {o':Ow} (h:ShAt o w G s) (k:Keep (In o I) w w') (hI:I.all (fun i=>decide (20<=i))=true) (h8:s.boxes.length<=8) (e:aQ w o o') (hf:gX o' w'):ShAt o' w' G s:=by
 have k':=k.rO e
 have hge:∀ i,i<20->I.contains i=false:=fun i hi=>by
  rw [Bool.eq_false_iff]
  intro hc
  have:=List.all_eq_true.1 hI i (by simpa using hc)
  simp at this;omega
 obtain ⟨v,hs1,hs2⟩:=h.sh
 have hg:=h.heap.Fz
 have UW:(o' G.Q:Nat)=3:=by
  obtain ⟨ho,hl,vs,hv,hb,hr⟩:=h.queue
  exact (e _ hb.lt).trans h.oQ
 refine ⟨hf,⟨v,hs1.aH k h.oS (hge 0 (by decide)),(hs2.ext e).aH k' (hge 0 (by decide))⟩,(e _ hs1.lt).trans h.oS,h.heapK k (hge 0 (by decide)) (hge 1 (by decide)),fun i hi=>(e _ (h.heap.ltD i hi)).trans (h.oD i hi),⟨(e _ hg.1).trans h.qF.1,(e _ hg.2.1).trans h.qF.2.1,(e _ hg.2.2).trans h.qF.2.2⟩,
  h.board.keep k (bI h.oB (hge 2 (by decide))),(e _ h.board.blk.lt).trans h.oB,(h.queue.rO e).aH k' (hge 0 (by decide)) UW (hge 3 (by decide)),UW,h.flag.aH k h.oF (hge 4 (by decide)),(e _ h.flag.lt).trans h.oF,fun i l hi=>?_⟩
 obtain ⟨h1,h2⟩:=h.box i l hi
 obtain ⟨_,v',hb,_,_⟩:=id h1
 have h3:o' (G.bx i)=10+i:=(e _ hb.lt).trans h2
 exact ⟨(h1.ext e).aH k' (hge 0 (by decide)) h3 (hge _ (by have:=(List.getElem?_eq_some_iff.1 hi).1;omega)),h3⟩
end
structure MG where
 M:Nat
 X:Nat
 Bf:Nat
 Nt:Nat
def yP:Option Ev->List Value
 | none=>[ah 0,ah 0,ah 0,ah 0,ah 0,ah 0,.bool false]
 | some e=>[ah 0,ah (e.who:Int),ah (e.kind:Int),ah (e.op:Int),ah e.code,ah (e.value:Int),.bool true]
def mP (G:Geo) (g:MG) (m:MS) (ev:Option Ev) (pv rv nv:Value):List Value :=
 aB G.S::m.c.cells++[ah (m.id:Int),.slice (some ⟨g.X,0,none⟩) m.regs.length m.regs.length,aB g.Bf,aB g.Nt,ah (m.mode:Int),ah (m.color:Int),ah (m.want:Int),pv,rv,nv,ah (m.held:Int),ah (m.spent:Int),ah (m.most0:Int),ah (m.most1:Int),.bool m.ans]++yP ev
def qG (o:Ow) (w:World) (v:Value) (prog:List fE):Prop :=
 ∃ a c,v = .slice a prog.length c/\prog.length<=1000/\(0<prog.length->∃ b off cs,a=some ⟨b,off,none⟩/\o b=0/\aA w b cs 83/\∀ i op,prog[i]?=some op->∀ j u,op.cells[j]?=some u->cs[off+i*4+j]?=some u)
def tC (res:List (Int × Nat)):List Value:=(res.map fun r=>[Value.int .i64 r.1,Value.int .i64 (r.2:Int)]).flatten
def vS (o:Ow) (w:World) (i:Nat) (v:Value) (res:List (Int × Nat)):Prop:=w.ownsRow 0 225 2 v res.length (tC res)/\∀ b,v.ownBlock=some b->o b=20+i
structure aN (o:Ow) (w:World) (G:Geo) (g:MG) (s:Sh) (m:MS) (ev:Option Ev) (nv:Value):Prop where
 sh:ShAt o w G s
 blk:∃ pv rv,aA w g.M (mP G g m ev pv rv nv) 108/\qG o w pv m.prog/\vS o w m.id rv m.res
 oM:o g.M=20+m.id
 regs:aA w g.X (aG m.regs) 3
 oX:o g.X=20+m.id
 buf:dS o w g.Bf 179 [ah m.c.l] m.buf
 wO:o g.Bf=20+m.id
 nt:aA w g.Nt [aB (G.D 0),aB g.Bf,aB (G.bx m.id),aB G.Fl] 181
 sN:o g.Nt=0
 jm:m.id<s.boxes.length
 box8:s.boxes.length<=8
 conf:m.c=s.H.c
 rlen:(m.regs.length:Int)=m.c.r
 wP:(m.buf.length:Int)<=m.c.l
section
variable {o:Ow} {w w':World} {G:Geo} {g:MG} {s:Sh} {m:MS} {ev:Option Ev} {nv:Value}
theorem qG.aH {I:List Nat} {v:Value} {p:List fE} (h:qG o w v p) (k:Keep (In o I) w w') (h0:I.contains 0=false):qG o w' v p:=by
 obtain ⟨a,c,e,h1,h2⟩:=h
 refine ⟨a,c,e,h1,fun hp=>?_⟩
 obtain ⟨b,off,cs,e1,e2,e3,e4⟩:=h2 hp
 exact ⟨b,off,cs,e1,e2,e3.aH k e2 h0,e4⟩
theorem qG.ext {o':Ow} {v:Value} {p:List fE} (h:qG o w v p) (e:aQ w o o'):qG o' w v p:=by
 obtain ⟨a,c,e0,h1,h2⟩:=h
 refine ⟨a,c,e0,h1,fun hp=>?_⟩
 obtain ⟨b,off,cs,e1,e2,e3,e4⟩:=h2 hp
 exact ⟨b,off,cs,e1,(e b e3.lt).trans e2,e3,e4⟩
theorem vS.aH {I:List Nat} {i:Nat} {v:Value} {r:List (Int × Nat)} (h:vS o w i v r) (k:Keep (In o I) w w') (hI:I.contains (20+i)=false):vS o w' i v r :=
 ⟨dY h.1 k (fun b hb=>bI (h.2 b hb) hI),h.2⟩
theorem vS.ext {o':Ow} {i:Nat} {v:Value} {r:List (Int × Nat)} (h:vS o w i v r) (e:aQ w o o'):vS o' w i v r:=by
 refine ⟨h.1,fun b hb=>?_⟩
 obtain ⟨cur,hc⟩:∃ cur:Array Value,w.heap[b]?=some (.cells cur 225 (0,0)):=by
  rcases h.1.2 with ⟨e1,_⟩|⟨g,cap,cur,e1,_,hg,_⟩
  ·rw [e1] at hb;simp [Value.ownBlock] at hb
  ·rw [e1] at hb;simp [Value.ownBlock] at hb;subst hb;exact ⟨cur,hg⟩
 exact (e b (lt_of_block hc)).trans (h.2 b hb)
theorem aN.share {s':Sh} {I:List Nat} (h:aN o w G g s m ev nv) (k:Keep (In o I) w w') (h0:I.contains 0=false) (hi:I.contains (20+m.id)=false) (hs:ShAt o w' G s') (hl:s'.boxes.length=s.boxes.length) (hc:s'.H.c=s.H.c):aN o w' G g s' m ev nv:=by
 obtain ⟨pv,rv,h1,h2,h3⟩:=h.blk
 exact ⟨hs,⟨pv,rv,h1.aH k h.oM hi,h2.aH k h0,h3.aH k hi⟩,h.oM,h.regs.aH k h.oX hi,h.oX,h.buf.aH k h0 h.wO hi,h.wO,h.nt.aH k h.sN h0,h.sN,by rw [hl];exact h.jm,by rw [hl];exact h.box8,h.conf.trans hc.symm,h.rlen,h.wP⟩
theorem aN.still (h:aN o w G g s m ev nv) (k:Keep none_ w w'):aN o w' G g s m ev nv:=by
 have k0:Keep (In o []) w w':=k.aS
 exact h.share k0 rfl rfl (h.sh.aH k0 rfl h.box8) rfl rfl
theorem aN.apart (h:aN o w G g s m ev nv):g.M≠g.X/\g.M≠g.Bf/\g.X≠g.Bf/\(∀ rv r b,vS o w m.id rv r->rv.ownBlock=some b->b≠g.M/\b≠g.X/\b≠g.Bf):=by
 obtain ⟨pv,rv,h1,h2,h3⟩:=h.blk
 obtain ⟨_,v,h4,_⟩:=h.buf
 have h5:=h.regs
 refine ⟨fun e=>?_,fun e=>?_,fun e=>?_,fun rv r b hr hb=>?_⟩
 ·rw [e] at h1;exact absurd (h1.uniq h5).2 (by decide)
 ·rw [e] at h1;exact absurd (h1.uniq h4).2 (by decide)
 ·rw [e] at h5;exact absurd (h5.uniq h4).2 (by decide)
 ·refine ⟨fun e=>?_,fun e=>?_,fun e=>?_⟩
  ·exact own_ne h1 hr.1 (by decide) (by rw [hb,e])
  ·exact own_ne h5 hr.1 (by decide) (by rw [hb,e])
  ·exact own_ne h4 hr.1 (by decide) (by rw [hb,e])
theorem aN.struct (h:aN o w G g s m ev nv) (kM:Keep (only g.M) w w') (m':MS) (ev':Option Ev) (jC:Value) (hc:∀ pv rv,aA w g.M (mP G g m ev pv rv nv) 108->aA w' g.M (mP G g m' ev' pv rv jC) 108)
 (e:m'.id=m.id/\m'.c=m.c/\m'.regs=m.regs/\m'.buf=m.buf/\m'.prog=m.prog/\m'.res=m.res):aN o w' G g s m' ev' jC/\Keep (In o [20+m.id]) w w':=by
 obtain ⟨pv,rv,h1,h2,h3⟩:=h.blk
 obtain ⟨e1,e2,e3,e4,e5,e6⟩:=e
 have ap:=h.apart
 have k:Keep (In o [20+m.id]) w w':=kM.qK h.oM (by simp)
 refine ⟨⟨h.sh.aH k (by simp) h.box8,⟨pv,rv,hc pv rv h1,?_,?_⟩,by rw [e1];exact h.oM,by rw [e3];exact kM.blk h.regs (fun e=>ap.1 e.symm),by rw [e1];exact h.oX,?_,by rw [e1];exact h.wO,by rw [e1];exact h.nt.aH k h.sN (by simp;omega),h.sN,by rw [e1];exact h.jm,h.box8,by rw [e2];exact h.conf,by rw [e3,e2];exact h.rlen,by rw [e4,e2];exact h.wP⟩,k⟩
 ·rw [e5];exact h2.aH k (by simp;omega)
 ·rw [e1,e6]
  exact ⟨dY h3.1 kM (fun b hb e=>(ap.2.2.2 rv _ b h3 hb).1 e),h3.2⟩
 ·rw [e2,e4]
  exact h.buf.keep kM (fun e=>ap.2.1 e.symm) (fun x hx e=>by unfold only at e;rw [e,h.oM] at hx;omega)
theorem aN.put (h:aN o w G g s m ev nv) (i:Nat) (u:Value) (m':MS) (ev':Option Ev) (jC:Value) (hc:∀ pv rv,(mP G g m ev pv rv nv).set i u=mP G g m' ev' pv rv jC)
 (e:m'.id=m.id/\m'.c=m.c/\m'.regs=m.regs/\m'.buf=m.buf/\m'.prog=m.prog/\m'.res=m.res):aN o (w.setCell ⟨g.M,i,none⟩ u) G g s m' ev' jC/\Keep (In o [20+m.id]) w (w.setCell ⟨g.M,i,none⟩ u) :=
 h.struct ((Keep.refl _ _).put i u) m' ev' jC (fun pv rv hb=>by
  have:=hb.set i u
  rwa [hc] at this) e
theorem aN.FD (h:aN o w G g s m ev nv) {b:List Nat} (k:Keep (only g.Bf) w w') (hb:dS o w' g.Bf 179 [ah m.c.l] b) (hl:(b.length:Int)<=m.c.l):aN o w' G g s { m with buf:=b } ev nv/\Keep (In o [20+m.id]) w w':=by
 obtain ⟨pv,rv,h1,h2,h3⟩:=h.blk
 have ap:=h.apart
 have k1:Keep (In o [20+m.id]) w w':=k.qK h.wO (by simp)
 exact ⟨⟨h.sh.aH k1 (by simp) h.box8,⟨pv,rv,k.blk h1 (fun e=>ap.2.1 e),h2.aH k1 (by simp;omega),⟨dY h3.1 k (fun b hb e=>(ap.2.2.2 rv _ b h3 hb).2.2 e),h3.2⟩⟩,h.oM,k.blk h.regs (fun e=>ap.2.2.1 e),h.oX,hb,h.wO,h.nt.aH k1 h.sN (by simp;omega),h.sN,h.jm,h.box8,h.conf,h.rlen,hl⟩,k1⟩
theorem aN.abd (h:aN o w G g s m ev nv) (r v:Nat):aN o (w.setCell ⟨g.X,r,none⟩ (ah (v:Int))) G g s { m with regs:=m.regs.set r v } ev nv/\Keep (In o [20+m.id]) w (w.setCell ⟨g.X,r,none⟩ (ah (v:Int))):=by
 obtain ⟨pv,rv,h1,h2,h3⟩:=h.blk
 have ap:=h.apart
 have k:Keep (only g.X) w (w.setCell ⟨g.X,r,none⟩ (ah (v:Int))):=(Keep.refl _ _).put r _
 have k1:Keep (In o [20+m.id]) w (w.setCell ⟨g.X,r,none⟩ (ah (v:Int))):=k.qK h.oX (by simp)
 refine ⟨⟨h.sh.aH k1 (by simp) h.box8,⟨pv,rv,?_,h2.aH k1 (by simp;omega),⟨dY h3.1 k (fun b hb e=>(ap.2.2.2 rv _ b h3 hb).2.1 e),h3.2⟩⟩,h.oM,?_,h.oX,?_,h.wO,h.nt.aH k1 h.sN (by simp;omega),h.sN,h.jm,h.box8,h.conf,by simpa using h.rlen,h.wP⟩,k1⟩
 ·have:=k.blk h1 (fun e=>ap.1 e)
  unfold mP at this ⊢
  simpa using this
 ·rw [zq];exact h.regs.set r _
 ·exact h.buf.keep k (fun e=>ap.2.2.1 e.symm) (fun x hx e=>by unfold only at e;rw [e,h.oX] at hx;omega)
theorem aN.cell (h:aN o w G g s m ev nv) (i:Nat) (u:Value) (hu:∀ pv rv,(mP G g m ev pv rv nv)[i]?=some u):w.cell? ⟨g.M,i,none⟩=some u:=by
 obtain ⟨pv,rv,h1,_⟩:=h.blk
 exact h1.cell i (hu pv rv)
theorem aN.free (h:aN o w G g s m ev nv) (i:Nat):w.frozen? ⟨g.M,i,none⟩=false:=by
 obtain ⟨pv,rv,h1,_⟩:=h.blk
 exact h1.free i
end
end
section
attribute [local go_sem] Oper.semAt_some
open Go.RowKit
section
variable {o:Ow} {w w':World} {b:Nat} {room:Int} {xs:List Nat}
theorem dS.acF (h:dS o w b 179 [ah room] xs):w.cell? ⟨b,1,none⟩=some (ah room):=by
 obtain ⟨_,v,h1,_⟩:=h
 exact h1.cell 1 rfl
theorem zA (h:dS o w b 179 [ah room] xs):Calls ay 174 #[aj b] w fun e w'=>e = .returned (.bool ((xs.length:Int)==room))/\Keep none_ w w':=by
 have HC:Hid (∀ W,Keep none_ w W->Calls ay 212 #[aj b] W fun e w'=>e = .returned (ah (xs.length:Int))/\W=w'):=fun W hW=>tZ (h.still hW)
 have c1:=h.acF
 have hlen:(xs.length:Int)<=4000000000000:=by obtain ⟨a,c,_,_,_,_,hm,_⟩:=h.form;omega
 generalize xs.length=n at *
 clear h
 go_enter func174,ntmps174
 go_wp2_with fail
 go_quiet (first|(go_at_call 212;exact Calls.quiet_of_same (eU (HC.out _ ((Keep.refl none_ w).drewN _)))))
 go_wp2_with fail
 go_ret
 exact ⟨rfl,(Keep.refl _ _).drewN _⟩
theorem IQ (h:dS o w b 179 [ah room] xs):Calls ay 175 #[aj b] w fun e w'=>e = .returned (ah (xs.length:Int))/\w=w':=by
 have HC:=au (tZ h)
 clear h
 go_enter func175,ntmps175
 go_wp2_with (go_at_call 212;refine HC.out.mono ?_;rintro e w1 ⟨rfl,rfl⟩)
 go_ret
 exact ⟨rfl,rfl⟩
theorem Rx (h:dS o w b 179 [ah room] xs) (x:Nat) (hf:((xs.length:Int)==room)=true):Calls ay 172 #[aj b,ah (x:Int)] w fun e w'=>e = .returned (.bool false)/\Keep none_ w w':=by
 have HF:=au (zA h)
 rw [hf] at HF
 clear h hf
 go_enter func172,ntmps172
 go_wp2_with (go_at_call 174;refine HF.out.mono ?_;rintro e w1 ⟨rfl,k1⟩;have HK:=au k1;clear k1)
 go_ret
 exact ⟨rfl,HK.out⟩
theorem Ry (h:dS o w b 179 [ah room] xs) (x:Nat) (hf:((xs.length:Int)==room)=false) (hf0:gX o w) (hm:xs.length<=100000):Calls ay 172 #[aj b,ah (x:Int)] w fun e w'=>e = .returned (.bool true)/\dS o w' b 179 [ah room] (xs++[x])/\Keep (only b) w w':=by
 have HF:=au (zA h)
 rw [hf] at HF
 have HA:Hid (∀ W,Keep none_ w W->Calls ay 211 #[aj b,ah (x:Int)] W fun e w'=>e = .returned (.tuple #[])/\dS o w' b 179 [ah room] (xs++[x])/\Keep (only b) W w'):=fun W hW=>UU (h.still hW) x (hf0.keep hW) hm
 clear h hf hf0 hm
 go_enter func172,ntmps172
 go_wp2_with (go_at_call 174;refine HF.out.mono ?_;rintro e w1 ⟨rfl,k1⟩;have HK:=au k1;have HA1:=au (HA.out _ k1);clear k1)
 go_wp2_with (go_at_call 211;refine HA1.out.mono ?_;rintro e w2 ⟨rfl,h2,k2⟩;have HH:=au h2;have bJ:=au k2;clear h2 k2)
 go_ret
 exact ⟨rfl,HH.out,(HK.out.mono (fun _ _ f=>f.elim)).trans bJ.out⟩
theorem Rz (h:dS o w b 179 [ah room] xs):Calls ay 215 #[aj b] w fun e w'=>e = .returned (.tuple #[ah (aW xs:Int),.bool (!xs.isEmpty)])/\dS o w' b 179 [ah room] xs.tail/\Keep (only b) w w':=by
 have HT:Hid (Calls ay 246 #[aj b] w fun e w'=>e = .returned (.tuple #[ah (aW xs:Int),.bool (!xs.isEmpty)])/\dS o w' b 179 [ah room] xs.tail/\Keep (only b) w w'):=by
  cases xs with
  | nil =>
    refine (FC h).mono ?_
    rintro e w' ⟨rfl,rfl⟩
    exact ⟨rfl,h,Keep.refl _ _⟩
  | cons x xs=>exact Dx x h
 generalize aW xs=hd at *
 generalize (!xs.isEmpty)=ok at *
 clear h
 go_enter func215,ntmps215
 go_wp2_with (go_at_call 246;refine HT.out.mono ?_;rintro e w1 ⟨rfl,h1,k1⟩;have HH:=au h1;have HK:=au k1;clear h1 k1)
 go_ret2
 exact ⟨rfl,HH.out,HK.out⟩
theorem yB (h:dS o w b 179 [ah room] xs):Calls ay 131 #[aj b] w fun e w'=>e = .returned (.tuple #[])/\dS o w' b 179 [ah room] []/\Keep (only b) w w':=by
 obtain ⟨a,c,hc,_,_,_,_,hf,_⟩:=h.form
 have HS:=au (h.set (bC.nil o w 3) (ys:=[]) (fun _ _ e=>by cases e;rfl))
 clear h
 go_enter func131,ntmps131
 go_wp2_with fail
 go_end0
 exact ⟨rfl,HS.out,(Keep.refl (only b) _).put _ _⟩
theorem XG (F:Nat) (f:Bool) (h:aA w F [.bool f] 121):Calls ay 281 #[aj F] w fun e w'=>e = .returned (.bool f)/\w=w':=by
 have c0:=h.cell 0 rfl
 clear h
 cases f
 all_goals
  go_enter func281,ntmps281
  go_wp2_with fail
  go_ret
  exact ⟨rfl,rfl⟩
theorem OU (F:Nat) (f:Bool) (h:aA w F [.bool f] 121):Calls ay 218 #[aj F] w fun e w'=>e = .returned (.tuple #[])/\aA w' F [.bool true] 121/\Keep (only F) w w':=by
 have c0:=h.cell 0 rfl
 have f0:=h.free 0
 have HS:=au (h.set 0 (.bool true))
 clear h
 go_enter func218,ntmps218
 go_wp2_with fail
 go_end0
 exact ⟨rfl,HS.out,(Keep.refl (only F) _).put _ _⟩
theorem OV (F:Nat) (f:Bool) (h:aA w F [.bool f] 121):Calls ay 272 #[aj F] w fun e w'=>e = .returned (.bool f)/\aA w' F [.bool false] 121/\Keep (only F) w w':=by
 have c0:=h.cell 0 rfl
 have f0:=h.free 0
 have HS:=au (h.set 0 (.bool false))
 have HU:=au (XG F f h)
 have HH:=au h
 clear h
 cases f
 ·go_enter func272,ntmps272
  go_wp2_with (go_at_call 281;refine HU.out.mono ?_;rintro e w1 ⟨rfl,rfl⟩)
  go_ret
  exact ⟨rfl,HH.out,Keep.refl _ _⟩
 ·go_enter func272,ntmps272
  go_wp2_with (go_at_call 281;refine HU.out.mono ?_;rintro e w1 ⟨rfl,rfl⟩)
  go_ret
  exact ⟨rfl,HS.out,(Keep.refl (only F) _).put _ _⟩
theorem UY {B:Nat} {ys:List Nat} (h:dS o w b 179 [ah room] xs) (hb:dS o w B 176 [] ys) (hy:ys≠[]):Calls ay 177 #[aj B,aj b] w fun e w'=>e = .returned (.bool false)/\w=w':=by
 have HC:=au (tZ hb)
 have hpos:0<ys.length:=List.length_pos_iff.2 hy
 have d0:decide ((0:Int)<(ys.length:Int))=true:=decide_eq_true (by omega)
 have d1:decide (0<ys.length)=true:=decide_eq_true hpos
 generalize ys.length=n at *
 clear h hb hy
 go_enter func177,ntmps177
 go_wp2_with (go_at_call 212;refine HC.out.mono ?_;rintro e w1 ⟨rfl,rfl⟩)
 go_ret
 exact ⟨rfl,rfl⟩
theorem RF {B:Nat} (h:dS o w b 179 [ah room] xs) (hb:dS o w B 176 [] []) (hne:B≠b) (hf0:gX o w):Calls ay 177 #[aj B,aj b] w fun e w'=>e = .returned (.bool true)/\dS o w' b 179 [ah room] []/\dS o w' B 176 [] xs/\Keep (fun i=>i=B\/i=b) w w':=by
 have HC:=au (tZ hb)
 have hlen:xs.length<=4000000000000:=by obtain ⟨a,c,_,_,_,_,hm,_⟩:=h.form;exact hm
 have HA:=au (UR h)
 have HH:=au h
 have HB:=au hb
 have HN:=au hne
 have HF:=au hf0
 have HL:=au hlen
 clear h hb hne hf0 hlen
 go_enter func177,ntmps177
 go_wp2_with (go_at_call 212;refine HC.out.mono ?_;rintro e w1 ⟨rfl,rfl⟩)
 refine HA.out.mono ?_
 rintro e w1 ⟨v,rfl,ho,k1⟩
 obtain ⟨a',cap',rfl,_,_,hnl,_⟩:=dP (bD ho (Nat.zero_le _))
 have YU:=au hnl
 have HO:=au ho
 have aJ:=au k1
 obtain ⟨_,_,cB,_,_,_,_,fB,_⟩:=(HB.out.still k1).form
 clear ho k1 hnl
 go_wp2_with fail
 have hrow:bC o w1 3 (.slice a' xs.length cap') (aG xs):=bC.tV HO.out HL.out (fun x hx=>HF.out x hx)
 have hnil:Ru (.slice a' xs.length cap'):=fun n c e=>by injection e with e1 e2 e3;rw [<- e3];exact YU.out e1
 have hS2:=(HB.out.still aJ.out).set hrow hnil
 have k2:Keep (only B) w1 (w1.setCell ⟨B,0,none⟩ (.slice a' xs.length cap')):=(Keep.refl _ _).put 0 _
 have hb2:dS o (w1.setCell ⟨B,0,none⟩ (.slice a' xs.length cap')) b 179 [ah room] xs:=(HH.out.still aJ.out).keep k2 (fun e=>HN.out e.symm) (fun x hx e=>by unfold only at e;subst e;exact HB.out.1 hx)
 have HS2:=au hS2
 have bJ:=au k2
 have l9:=au (yB hb2)
 clear hS2 k2 hb2 hrow hnil
 refine l9.out.mono ?_
 rintro e w3 ⟨rfl,h3,k3⟩
 have LD:=au h3
 have gy:=au k3
 clear h3 k3
 go_wp2_with fail
 go_ret
 refine ⟨rfl,LD.out,HS2.out.keep gy.out (fun e=>HN.out e) (fun x hx e=>by unfold only at e;subst e;exact HH.out.1 hx),?_⟩
 exact (aJ.out.mono (fun _ _ f=>f.elim)).trans ((bJ.out.mono (fun _ _ e=>Or.inl e)).trans (gy.out.mono (fun _ _ e=>Or.inr e)))
end
def bU (w:World):List (List Value × TypeId)->World
 | []=>w
 | (cs,T)::l=>bU (w.alloc (.cells cs.toArray T)) l
def idxs (n:Nat):List (List Value × TypeId)->List Nat
 | []=>[]
 | _::l=>n::idxs (n+1) l
theorem iq {o:Ow}:∀ (l:List (List Value × TypeId)) (w:World),gX o w->Caps o (bU w l) l (idxs w.heap.size l)/\Keep none_ w (bU w l)
 | [],w,_=>⟨rfl,Keep.refl _ _⟩
 | (cs,T)::l,w,hf=>by
   have k:Keep none_ w (w.alloc (.cells cs.toArray T)):=(Keep.refl _ _).alloc _
   obtain ⟨h1,h2⟩:=iq l (w.alloc (.cells cs.toArray T)) (hf.keep k)
   rw [World.size_alloc] at h1
   exact ⟨⟨w.heap.size,_,rfl,hf _ (Nat.le_refl _),h2.blk (aA.new w cs T) (fun f=>f),h1⟩,k.trans h2⟩
theorem uf.keep {o:Ow} {w w':World} {M:Nat} {S:Nat->Prop} {rd:RD} {v:Value} (h:uf o w M rd v) (k:Keep S w w') (h0:∀ b,o b=0->¬ S b):uf o w' M rd v:=by
 cases rd with
 | field base f x=>obtain ⟨op,e,h1⟩:=h;exact ⟨op,e,h1.keep k h0⟩
 | cell i x=>obtain ⟨op,e,h1⟩:=h;exact ⟨op,e,h1.keep k h0⟩
theorem ug.keep {o:Ow} {w w':World} {M:Nat} {S:Nat->Prop} {rd:RD} {v:Value} (h:ug o w M rd v) (k:Keep S w w') (h0:∀ b,o b=0->¬ S b):ug o w' M rd v:=by
 cases rd with
 | field base f x=>obtain ⟨op,e,h1⟩:=h;exact ⟨op,e,h1.keep k h0⟩
 | cell i x=>obtain ⟨op,e,h1⟩:=h;exact ⟨op,e,h1.keep k h0⟩
theorem kR.keep {o:Ow} {w w':World} {M:Nat} {S:Nat->Prop} {rd:RD} {v:Value} (h:kR o w M rd v) (k:Keep S w w') (h0:∀ b,o b=0->¬ S b):kR o w' M rd v:=by
 obtain ⟨wv,h1,h2⟩:=h
 exact ⟨wv,h1.keep k h0,h2.keep k h0⟩
theorem uf.ext {o o':Ow} {w:World} {M:Nat} {rd:RD} {v:Value} (h:uf o w M rd v) (e:aQ w o o'):uf o' w M rd v:=by
 cases rd with
 | field base f x=>obtain ⟨op,e1,h1⟩:=h;exact ⟨op,e1,h1.ext e⟩
 | cell i x=>obtain ⟨op,e1,h1⟩:=h;exact ⟨op,e1,h1.ext e⟩
theorem ug.ext {o o':Ow} {w:World} {M:Nat} {rd:RD} {v:Value} (h:ug o w M rd v) (e:aQ w o o'):ug o' w M rd v:=by
 cases rd with
 | field base f x=>obtain ⟨op,e1,h1⟩:=h;exact ⟨op,e1,h1.ext e⟩
 | cell i x=>obtain ⟨op,e1,h1⟩:=h;exact ⟨op,e1,h1.ext e⟩
theorem kR.ext {o o':Ow} {w:World} {M:Nat} {rd:RD} {v:Value} (h:kR o w M rd v) (e:aQ w o o'):kR o' w M rd v:=by
 obtain ⟨wv,h1,h2⟩:=h
 exact ⟨wv,h1.ext e,h2.ext e⟩
theorem dw.keep {o:Ow} {w w':World} {Nt M:Nat} {S:Nat->Prop} (k:Keep S w w') (h0:∀ b,o b=0->¬ S b):∀ {d:MD} {v:Value},dw o w Nt M d v->dw o w' Nt M d v:=by
 intro d
 induction d with
 | nil=>intro v h;exact h
 | start op=>intro v h;exact bK.keep h k h0
 | once q =>
   intro v h
   obtain ⟨dv,h1,h2⟩:=h
   refine ⟨dv,h1.keep k h0,?_⟩
   revert h2
   split
   ·rintro ⟨lv,h2,h3⟩;exact ⟨lv,h2.keep k h0,h3.keep k h0⟩
   split
   ·rintro ⟨lv,h2,h3⟩;exact ⟨lv,h2.keep k h0,h3.keep k h0⟩
   split
   ·rintro ⟨lv,h2,h3⟩;exact ⟨lv,h2.keep k h0,h3.keep k h0⟩
   split
   ·rintro ⟨lv,h2,h3⟩;exact ⟨lv,h2.keep k h0,h3.keep k h0⟩
   ·rintro ⟨lv,h2,h3⟩;exact ⟨lv,h2.keep k h0,h3.keep k h0⟩
 | note x c t ih =>
   intro v h
   obtain ⟨tv,av,h1,h2,h3⟩:=h
   exact ⟨tv,av,ih h1,h2.keep k h0,h3.keep k h0⟩
 | add x t ih=>intro v h;obtain ⟨tv,h1,h2⟩:=h;exact ⟨tv,ih h1,h2.keep k h0⟩
 | pour c t ih=>intro v h;obtain ⟨tv,h1,h2⟩:=h;exact ⟨tv,ih h1,h2.keep k h0⟩
 | eu c f t ih=>intro v h;obtain ⟨tv,h1,h2⟩:=h;exact ⟨tv,ih h1,h2.keep k h0⟩
 | raise t ih=>intro v h;obtain ⟨tv,h1,h2⟩:=h;exact ⟨tv,ih h1,h2.keep k h0⟩
 | field base f t ih=>intro v h;obtain ⟨tv,h1,h2⟩:=h;exact ⟨tv,ih h1,h2.keep k h0⟩
 | load op base=>intro v h;exact bK.keep h k h0
 | get op=>intro v h;exact bK.keep h k h0
 | lay x rd =>
   intro v h
   obtain ⟨rv,lv,h1,h2,h3⟩:=h
   exact ⟨rv,lv,h1.keep k h0,h2.keep k h0,h3.keep k h0⟩
 | last rd=>intro v h;exact kR.keep h k h0
 | alloc op q=>intro v h;exact bK.keep h k h0
 | assign op q=>intro v h;exact bK.keep h k h0
 | qj op all =>
   intro v h
   obtain ⟨h1,av,h2,h3⟩:=h
   exact ⟨h1,av,h2.keep k h0,h3.keep k h0⟩
 | claim op q=>intro v h;exact bK.keep h k h0
 | again op q=>intro v h;exact bK.keep h k h0
 | sweep sl c t=>intro v h;exact h.elim
 | fill op a=>intro v h;exact bK.keep h k h0
 | zero op a i=>intro v h;exact bK.keep h k h0
theorem dw.ext {o o':Ow} {w:World} {Nt M:Nat} (e:aQ w o o'):∀ {d:MD} {v:Value},dw o w Nt M d v->dw o' w Nt M d v:=by
 intro d
 induction d with
 | nil=>intro v h;exact h
 | start op=>intro v h;exact bK.ext h e
 | once q =>
   intro v h
   obtain ⟨dv,h1,h2⟩:=h
   refine ⟨dv,h1.ext e,?_⟩
   revert h2
   split
   ·rintro ⟨lv,h2,h3⟩;exact ⟨lv,h2.ext e,h3.ext e⟩
   split
   ·rintro ⟨lv,h2,h3⟩;exact ⟨lv,h2.ext e,h3.ext e⟩
   split
   ·rintro ⟨lv,h2,h3⟩;exact ⟨lv,h2.ext e,h3.ext e⟩
   split
   ·rintro ⟨lv,h2,h3⟩;exact ⟨lv,h2.ext e,h3.ext e⟩
   ·rintro ⟨lv,h2,h3⟩;exact ⟨lv,h2.ext e,h3.ext e⟩
 | note x c t ih =>
   intro v h
   obtain ⟨tv,av,h1,h2,h3⟩:=h
   exact ⟨tv,av,ih h1,h2.ext e,h3.ext e⟩
 | add x t ih=>intro v h;obtain ⟨tv,h1,h2⟩:=h;exact ⟨tv,ih h1,h2.ext e⟩
 | pour c t ih=>intro v h;obtain ⟨tv,h1,h2⟩:=h;exact ⟨tv,ih h1,h2.ext e⟩
 | eu c f t ih=>intro v h;obtain ⟨tv,h1,h2⟩:=h;exact ⟨tv,ih h1,h2.ext e⟩
 | raise t ih=>intro v h;obtain ⟨tv,h1,h2⟩:=h;exact ⟨tv,ih h1,h2.ext e⟩
 | field base f t ih=>intro v h;obtain ⟨tv,h1,h2⟩:=h;exact ⟨tv,ih h1,h2.ext e⟩
 | load op base=>intro v h;exact bK.ext h e
 | get op=>intro v h;exact bK.ext h e
 | lay x rd =>
   intro v h
   obtain ⟨rv,lv,h1,h2,h3⟩:=h
   exact ⟨rv,lv,h1.ext e,h2.ext e,h3.ext e⟩
 | last rd=>intro v h;exact kR.ext h e
 | alloc op q=>intro v h;exact bK.ext h e
 | assign op q=>intro v h;exact bK.ext h e
 | qj op all =>
   intro v h
   obtain ⟨h1,av,h2,h3⟩:=h
   exact ⟨h1,av,h2.ext e,h3.ext e⟩
 | claim op q=>intro v h;exact bK.ext h e
 | again op q=>intro v h;exact bK.ext h e
 | sweep sl c t=>intro v h;exact h.elim
 | fill op a=>intro v h;exact bK.ext h e
 | zero op a i=>intro v h;exact bK.ext h e
theorem bK.form {o:Ow} {w:World} {fn:Nat} {l:List (List Value × TypeId)} {v:Value} (h:bK o w fn l v):v = .nilFunc\/∃ (fn:Nat) (caps:Array Value),v = .func (.func fn) #[] caps:=by
 obtain ⟨bs,e,_⟩:=h
 exact .inr ⟨_,_,e⟩
theorem dw.form {o:Ow} {w:World} {Nt M:Nat} {d:MD} {v:Value} (h:dw o w Nt M d v):v = .nilFunc\/∃ (fn:Nat) (caps:Array Value),v = .func (.func fn) #[] caps:=by
 cases d with
 | nil=>exact .inl h
 | start op=>exact bK.form h
 | once q=>obtain ⟨dv,h1,_⟩:=h;exact h1.form
 | note x c t=>obtain ⟨tv,av,_,_,h3⟩:=h;exact h3.form
 | add x t=>obtain ⟨tv,_,h3⟩:=h;exact h3.form
 | pour c t=>obtain ⟨tv,_,h3⟩:=h;exact h3.form
 | eu c f t=>obtain ⟨tv,_,h3⟩:=h;exact h3.form
 | raise t=>obtain ⟨tv,_,h3⟩:=h;exact h3.form
 | field base f t=>obtain ⟨tv,_,h3⟩:=h;exact h3.form
 | load op base=>exact bK.form h
 | get op=>exact bK.form h
 | lay x rd=>obtain ⟨_,_,_,_,h3⟩:=h;exact h3.form
 | last rd=>obtain ⟨_,_,h3⟩:=h;exact h3.form
 | alloc op q=>exact bK.form h
 | assign op q=>exact bK.form h
 | qj op all=>obtain ⟨_,_,_,h3⟩:=h;exact h3.form
 | claim op q=>exact bK.form h
 | again op q=>exact bK.form h
 | sweep sl c t=>exact h.elim
 | fill op a=>exact bK.form h
 | zero op a i=>exact bK.form h
theorem jG.form {o:Ow} {w:World} {D0:Nat} {g:Nat × Nat} {q:Nat} {d:MD} {v:Value} (h:jG o w D0 g q d v):v = .nilFunc\/∃ (fn:Nat) (caps:Array Value),v = .func (.func fn) #[] caps:=by
 cases d with
 | sweep sl c t=>obtain ⟨_,_,_,_,h3⟩:=h;exact h3.form
 | _=>exact dw.form h
section
variable {o:Ow} {w w':World} {Nt M:Nat}
theorem dw.aH {I:List Nat} {d:MD} {v:Value} (h:dw o w Nt M d v) (k:Keep (In o I) w w') (h0:I.contains 0=false):dw o w' Nt M d v:=h.keep k (fun b hb=>bI hb h0)
theorem dw.still {d:MD} {v:Value} (h:dw o w Nt M d v) (k:Keep none_ w w'):dw o w' Nt M d v:=h.keep k (fun _ _ f=>f)
theorem RG (hf:gX o w) (v c:Nat) (t:MD) (tv:Value) (ht:dw o w Nt M t tv):Calls ay 135 #[aj Nt,ah (v:Int),ah (c:Int),tv] w fun e w'=>∃ nv,e = .returned nv/\dw o w' Nt M (kD v c t) nv/\Keep none_ w w':=by
 by_cases h0:v=0
 ·subst h0
  have hc:=iq (o:=o) [([aB Nt],104),([ah 0],3),([ah (c:Int)],3),([tv],88)] w hf
  have HE:Hid (dw o (bU w [([aB Nt],104),([ah 0],3),([ah (c:Int)],3),([tv],88)]) Nt M (kD 0 c t) tv/\Keep none_ w (bU w [([aB Nt],104),([ah 0],3),([ah (c:Int)],3),([tv],88)])):=⟨ht.still hc.2,hc.2⟩
  have hform:=ht.form
  clear hc ht hf
  rcases hform with rfl|⟨fn,caps,rfl⟩
  all_goals
   go_enter func135,ntmps135
   go_wp2_with fail
   go_ret
   exact ⟨_,rfl,HE.out.1,HE.out.2⟩
 ·have d0:((v:Int)==0)=false:=by simp;omega
  obtain ⟨n,hn⟩:∃ n,n=w.heap.size:=⟨_,rfl⟩
  obtain ⟨av,hav⟩:∃ av:Value,av = .func (.func 171) #[] #[aB n,aB (n+1),aB (n+1+1+1)]:=⟨_,rfl⟩
  have hc:=iq (o:=o) [([aB Nt],104),([ah (v:Int)],3),([ah (c:Int)],3),([tv],88),([av],87)] w hf
  obtain ⟨W,hW⟩:∃ W,W=bU w [([aB Nt],104),([ah (v:Int)],3),([ah (c:Int)],3),([tv],88),([av],87)]:=⟨_,rfl⟩
  rw [<- hW,<- hn] at hc
  have HE:Hid (dw o W Nt M (kD v c t) (.func (.func 173) #[] #[aB n,aB (n+1),aB (n+1+1),aB (n+1+1+1),aB (n+1+1+1+1)])/\Keep none_ w W):=by
   refine ⟨?_,hc.2⟩
   unfold kD
   rw [if_neg h0]
   refine ⟨tv,av,ht.still hc.2,⟨[n,n+1,n+1+1+1],hav,?_⟩,⟨_,rfl,hc.1⟩⟩
   obtain ⟨b0,r0,e0,o0,k0,hc1⟩:=hc.1
   obtain ⟨b1,r1,e1,o1,k1,hc2⟩:=hc1
   obtain ⟨b2,r2,e2,o2,k2,hc3⟩:=hc2
   obtain ⟨b3,r3,e3,o3,k3,hc4⟩:=hc3
   simp only [idxs,List.cons.injEq] at e0
   obtain ⟨rfl,rfl⟩:=e0
   simp only [List.cons.injEq] at e1
   obtain ⟨rfl,rfl⟩:=e1
   simp only [List.cons.injEq] at e2
   obtain ⟨rfl,rfl⟩:=e2
   simp only [List.cons.injEq] at e3
   obtain ⟨rfl,rfl⟩:=e3
   exact ⟨_,_,rfl,o0,k0,_,_,rfl,o1,k1,_,_,rfl,o3,k3,rfl⟩
  have UZ:W=((((w.alloc (.cells #[aj Nt] 104)).alloc (.cells #[ah (v:Int)] 3)).alloc (.cells #[ah (c:Int)] 3)).alloc (.cells #[tv] 88)).alloc (.cells #[.func (.func 171) #[] #[aj w.heap.size,aj (w.heap.size+1),aj (w.heap.size+1+1+1)]] 87):=by rw [hW,hav,hn];rfl
  have YV:=au UZ
  have HN:=au hn
  have hmf:∀ (fn:Fn) (first cap:Array Value) (w:World),(Instr.makeFunc fn first cap).run ay w = .ok (.func fn first cap) w:=fun _ _ _ _=>rfl
  have hform:=ht.form
  clear hc ht hf h0 hW UZ hav hn
  rcases hform with rfl|⟨fn,caps,rfl⟩
  all_goals
   go_enter func135,ntmps135
   go_wp2_with fail
   go_ret
   rw [YV.out,HN.out] at HE
   exact ⟨_,rfl,HE.out.1,HE.out.2⟩
theorem Dy (hf:gX o w) (c:Nat) (f:Bool) (t:MD) (tv:Value) (ht:dw o w Nt M t tv):Calls ay 178 #[aj Nt,ah (c:Int),.bool f,tv] w fun e w'=>∃ nv,e = .returned nv/\dw o w' Nt M (.eu c f t) nv/\Keep none_ w w':=by
 have hc:=iq (o:=o) [([aB Nt],104),([ah (c:Int)],3),([.bool f],4),([tv],88)] w hf
 have HE:Hid (dw o (bU w [([aB Nt],104),([ah (c:Int)],3),([.bool f],4),([tv],88)]) Nt M (.eu c f t) (.func (.func 214) #[] #[aB w.heap.size,aB (w.heap.size+1),aB (w.heap.size+1+1),aB (w.heap.size+1+1+1)])/\Keep none_ w (bU w [([aB Nt],104),([ah (c:Int)],3),([.bool f],4),([tv],88)])):=⟨⟨tv,ht.still hc.2,⟨_,rfl,hc.1⟩⟩,hc.2⟩
 have hmf:∀ (fn:Fn) (first cap:Array Value) (w:World),(Instr.makeFunc fn first cap).run ay w = .ok (.func fn first cap) w:=fun _ _ _ _=>rfl
 have hform:=ht.form
 clear hc ht hf
 rcases hform with rfl|⟨fn,caps,rfl⟩
 all_goals
  go_enter func178,ntmps178
  go_wp2_with fail
  go_ret
  exact ⟨_,rfl,HE.out.1,HE.out.2⟩
end
def bW (i:Nat):List Nat:=[1,2,3,4,10+i,20+i,30+i]
def aT (o:Ow) (w:World) (G:Geo) (g:MG) (nv0:Value) (i:Nat) (r:qo) (e:Ending) (w':World):Prop :=
 ∃ o' nv,e = .returned nv/\aQ w o o'/\aN o' w' G g r.s r.m r.ev nv0/\jG o' w' (G.D 0) (g.Nt,g.M) (30+i) r.next nv/\Keep (In o (bW i)) w w'
theorem kT (i:Nat):(bW i).contains 0=false:=by simp [bW];omega
section
variable {o:Ow} {w w':World} {G:Geo} {g:MG} {s:Sh} {m:MS} {ev:Option Ev} {nv0:Value}
theorem aN.cl (h:aN o w G g s m ev nv0):1<=m.c.l/\m.c.l<=256:=by
 have h1:=(fQ h.sh.heap.table.ok).2.2.2.2.2.1
 rw [<- h.conf] at h1;exact h1
theorem aN.full (h:aN o w G g s m ev nv0):((m.buf.length:Int)==m.c.l)=decide (m.buf.length=m.c.l.toNat):=by
 have:=h.cl
 rw [Bool.eq_iff_iff]
 simp;omega
theorem aN.ado (h:aN o w G g s m ev nv0):(m.buf.length:Int)<=m.c.l:=h.wP
theorem aN.YW (h:aN o w G g s m ev nv0):dS o w (G.bx m.id) 176 [] (s.box m.id)/\o (G.bx m.id)=10+m.id:=by
 have:=h.sh.box m.id (s.boxes[m.id]'h.jm) (List.getElem?_eq_getElem h.jm)
 unfold Sh.box
 rw [List.getD_eq_getElem?_getD,List.getElem?_eq_getElem h.jm]
 exact this
theorem aT.same {r:qo} {nv:Value} {w':World} {i:Nat} (h:aN o w' G g r.s r.m r.ev nv0) (hc:dw o w' g.Nt g.M r.next nv) (k:Keep (In o (bW i)) w w'):aT o w G g nv0 i r (.returned nv) w':=⟨o,nv,rfl,aQ.refl _ _,h,jG.of (g:=(g.Nt,g.M)) hc,k⟩
theorem LM (h:aN o w G g s m ev nv0) (k:Keep (only g.Bf) w w'):Keep (In o (bW m.id)) w w':=k.qK h.wO (by simp [bW])
theorem IU (h:aN o w G g s m ev nv0) (x:Nat) (t:MD) (tv:Value) (ht:dw o w g.Nt g.M t tv) (b0 b1 b2:Nat) (o0:o b0=0) (o1:o b1=0) (o2:o b2=0) (h0:aA w b0 [aB g.Nt] 104) (h1:aA w b1 [ah (x:Int)] 3) (h2:aA w b2 [tv] 88) :
 Calls ay 171 #[aj b0,aj b1,aj b2] w fun e w'=>e = .returned tv/\aN o w' G g (stepM s m (.add x t)).s (stepM s m (.add x t)).m ev nv0/\dw o w' g.Nt g.M t tv/\Keep (In o (bW m.id)) w w':=by
 have c0:w.cell? ⟨b0,0,none⟩=some (aj g.Nt):=h0.cell 0 rfl
 have c1:=h1.cell 0 rfl
 have n1:w.cell? ⟨g.Nt,1,none⟩=some (aj g.Bf):=h.nt.cell 1 rfl
 have hcl:=h.cl
 have acG:=h.wP
 have fD:Hid (Calls ay 172 #[aj g.Bf,ah (x:Int)] w.drew fun e w'=>(∃ r,e = .returned (.bool r))/\aN o w' G g (stepM s m (.add x t)).s (stepM s m (.add x t)).m ev nv0/\dw o w' g.Nt g.M t tv/\Keep (In o (bW m.id)) w w'/\aA w' b2 [tv] 88):=by
  have hd:=h.still (k:=(Keep.refl none_ w).drew)
  have htd:=ht.still (k:=(Keep.refl none_ w).drew)
  have hkd:Keep none_ w w.drew:=(Keep.refl none_ w).drew
  have RH:=h.full
  by_cases hf:m.buf.length=m.c.l.toNat
  ·rw [decide_eq_true hf] at RH
   refine (Rx hd.buf x RH).mono ?_
   rintro e w' ⟨rfl,k⟩
   have e1:stepM s m (.add x t)=⟨s,m,t,none⟩:=by simp only [stepM,if_pos hf]
   rw [e1]
   exact ⟨⟨_,rfl⟩,hd.still k,htd.still k,(hkd.trans k).aS,(hkd.trans k).blk h2 (fun f=>f)⟩
  ·rw [decide_eq_false hf] at RH
   refine (Ry hd.buf x RH hd.sh.fC (by omega)).mono ?_
   rintro e w' ⟨rfl,hb,k⟩
   have e1:stepM s m (.add x t)=⟨s,{ m with buf:=m.buf++[x] },t,none⟩:=by simp only [stepM,if_neg hf]
   rw [e1]
   have kk:Keep (In o (bW m.id)) w w':=(hkd.aS).trans (LM hd k)
   have hlen:((m.buf++[x]).length:Int)<=m.c.l:=by
    have h9:=h.ado
    simp only [List.length_append,List.length_cons,List.length_nil]
    omega
   exact ⟨⟨_,rfl⟩,(hd.FD k hb hlen).1,ht.aH kk (kT _),kk,h2.aH kk o2 (kT _)⟩
 have _:=o0
 have _:=o1
 have hform:=ht.form
 generalize (stepM s m (.add x t)).s=s' at *
 generalize (stepM s m (.add x t)).m=m' at *
 clear h ht o0 o1 o2 h0 h1 h2 hcl acG
 rcases hform with rfl|⟨fn,caps,rfl⟩
 all_goals
  go_enter func171,ntmps171
  go_wp2_with fail
  refine aI 5 rfl (by kernel_rfl) (by kernel_rfl) (fun K hK=>?_)
  change wpStill _ _ (World.drew _) _ _ _
  simp only [List.take_succ_cons,List.take_zero,List.drop_succ_cons,List.drop_zero] at hK ⊢
  repeat still_step
  refine wpStill_nil ?_
  change ite _ (Oper.wp _ _ _ w.drew _ _) _
  go_simp
  refine fD.out.mono ?_
  rintro e w1 ⟨⟨r,rfl⟩,g1,g2,g3,g4⟩
  refine hK _ _ ?_
  clear hK K
  have HR:=au (And.intro g1 (And.intro g2 g3))
  have c2:=g4.cell 0 rfl
  clear g1 g2 g3 g4 c0 c1 n1 fD
  refine wpStill_nil ?_
  go_wp2_with fail
  go_ret
  exact ⟨rfl,HR.out.1,HR.out.2.1,HR.out.2.2⟩
end
end
end Go.Proofs.YtanfphjoebobaaaGreatDoor
