/- Parts of the walk. No conditions. -/
import Derived.Test.YtanfphjoebobaaaGreatDoorZzve
import Derived.Test.YtanfphjoebobaaaGreatDoorZzvk
namespace Go.Proofs.YtanfphjoebobaaaGreatDoor
open _root_.Go.Proofs.Tryz hiding prog
open _root_.Go.Proofs.Tryz renaming prog->ay
set_option maxRecDepth 4000
set_option maxHeartbeats 1000000
section
open Go.RowKit
def Caps (o:Ow) (w:World):List (List Value × TypeId)->List Nat->Prop
 | [],bs=>bs=[]
 | (cs,T)::l,bs=>∃ b r,bs=b::r/\o b=0/\aA w b cs T/\Caps o w l r
abbrev aB (b:Nat):Value := aj b
def bM (o:Ow) (w:World) (fn:Nat) (l:List (List Value × TypeId)) (v:Value):Prop:=∃ bs,v = .func (.func fn) #[] (bs.map aB).toArray/\Caps o w l bs
section
variable {o:Ow} {w w':World}
theorem Caps.keep {S:Nat->Prop} (k:Keep S w w') (h0:∀ b,o b=0->¬ S b):∀ {l:List (List Value × TypeId)} {bs:List Nat},Caps o w l bs->Caps o w' l bs
 | [],_,h=>h
 | (cs,T)::l,bs,h=>by
   obtain ⟨b,r,e,h1,h2,h3⟩:=h
   exact ⟨b,r,e,h1,k.blk h2 (h0 b h1),Caps.keep k h0 h3⟩
theorem Caps.ext {o':Ow} (e:aO w o o'):∀ {l:List (List Value × TypeId)} {bs:List Nat},Caps o w l bs->Caps o' w l bs
 | [],_,h=>h
 | (cs,T)::l,bs,h=>by
   obtain ⟨b,r,e1,h1,h2,h3⟩:=h
   exact ⟨b,r,e1,(e b h2.lt).trans h1,h2,Caps.ext e h3⟩
theorem bM.keep {S:Nat->Prop} {fn:Nat} {l:List (List Value × TypeId)} {v:Value} (h:bM o w fn l v) (k:Keep S w w') (h0:∀ b,o b=0->¬ S b):bM o w' fn l v:=by
 obtain ⟨bs,e,hc⟩:=h
 exact ⟨bs,e,hc.keep k h0⟩
theorem bM.ext {o':Ow} {fn:Nat} {l:List (List Value × TypeId)} {v:Value} (h:bM o w fn l v) (e:aO w o o'):bM o' w fn l v:=by
 obtain ⟨bs,e1,hc⟩:=h
 exact ⟨bs,e1,hc.ext e⟩
end
def tu (o:Ow) (w:World) (M:Nat):RD->Value->Prop
 | .field base f _,v=>∃ op:fD,op.b=f/\bM o w 227 [([aB M],56),([ah (base:Int)],3),(op.cells,83)] v
 | .cell i _,v=>∃ op:fD,op.a=i/\bM o w 231 [([aB M],56),(op.cells,83)] v
def tC (o:Ow) (w:World) (M:Nat):RD->Value->Prop
 | .field base f x,v=>∃ op:fD,op.b=f/\bM o w 229 [([aB M],56),([ah (base:Int)],3),(op.cells,83),([ah (x:Int)],3)] v
 | .cell i x,v=>∃ op:fD,op.a=i/\bM o w 232 [([aB M],56),(op.cells,83),([ah (x:Int)],3)] v
def kH (o:Ow) (w:World) (M:Nat) (rd:RD) (v:Value):Prop:=∃ wv,tC o w M rd wv/\bM o w 253 [([wv],1),([aB M],56)] v
def dA (o:Ow) (w:World) (Nt M:Nat):MD->Value->Prop
 | .nil,v=>v = .nilFunc
 | .start op,v=>bM o w 92 [([aB M],56),(op.cells,83)] v
 | .once k,v=>∃ dv,bM o w 169 [([dv],1)] v/\(if k=1 then ∃ lv,bM o w 128 [([lv],1),([aB M],56)] dv/\bM o w 130 [([aB M],56)] lv
  else if k=2 then ∃ lv,bM o w 128 [([lv],1),([aB M],56)] dv/\bM o w 132 [] lv
  else if k=3 then ∃ lv,bM o w 128 [([lv],1),([aB M],56)] dv/\bM o w 133 [([aB M],56)] lv
  else if k=5 then ∃ lv,bM o w 128 [([lv],1),([aB M],56)] dv/\bM o w 137 [([aB M],56)] lv
  else ∃ lv,bM o w 128 [([lv],1),([aB M],56)] dv/\bM o w 138 [([aB M],56)] lv)
 | .note x c t,v=>∃ tv av,dA o w Nt M t tv/\bM o w 171 [([aB Nt],104),([ah (x:Int)],3),([tv],88)] av/\bM o w 173 [([aB Nt],104),([ah (x:Int)],3),([ah (c:Int)],3),([tv],88),([av],87)] v
 | .add x t,v=>∃ tv,dA o w Nt M t tv/\bM o w 171 [([aB Nt],104),([ah (x:Int)],3),([tv],88)] v
 | .pour c t,v=>∃ tv,dA o w Nt M t tv/\bM o w 176 [([aB Nt],104),([tv],88),([ah (c:Int)],3)] v
 | .dZ c f t,v=>∃ tv,dA o w Nt M t tv/\bM o w 214 [([aB Nt],104),([ah (c:Int)],3),([.bool f],4),([tv],88)] v
 | .raise t,v=>∃ tv,dA o w Nt M t tv/\bM o w 217 [([aB Nt],104),([tv],88)] v
 | .field base f t,v=>∃ tv,dA o w Nt M t tv/\bM o w 252 [([aB M],56),([ah (base:Int)],3),([ah f],3),([tv],88)] v
 | .load op base,v=>bM o w 225 [([aB M],56),([ah (base:Int)],3),(op.cells,83)] v
 | .get op,v=>bM o w 230 [([aB M],56),(op.cells,83)] v
 | .lay x rd,v=>∃ rv lv,tu o w M rd rv/\kH o w M rd lv/\bM o w 254 [([rv],44),([aB M],56),([lv],87),([ah (x:Int)],3)] v
 | .last rd,v=>kH o w M rd v
 | .alloc op k,v=>bM o w 220 [([aB M],56),([ah (k:Int)],3),(op.cells,83)] v
 | .assign op k,v=>bM o w 222 [([aB M],56),(op.cells,83),([ah (k:Int)],3)] v
 | .qj op all,v=>2<=all.length/\∃ av,bG o w 3 av (aK all)/\bM o w 268 [([aB M],56),([av],32),([ah ((all.length - 1:Nat):Int)],3),(op.cells,83)] v
 | .claim op k,v=>bM o w 249 [([aB M],56),(op.cells,83),([ah (k:Int)],3)] v
 | .again op k,v=>bM o w 264 [([aB M],56),([ah (k:Int)],3),(op.cells,83)] v
 | .sweep _ _ _,_=>False
 | .fill op a,v=>bM o w 247 [([aB M],56),([ah (a:Int)],3),(op.cells,83)] v
 | .zero op a i,v=>bM o w 263 [([ah (i:Int)],3),(op.cells,83),([aB M],56),([ah (a:Int)],3)] v
def iM (o:Ow) (w:World) (D0 q:Nat) (v:Value) (sl:List Nat) (c:Nat):Prop :=
 (v = .pointer none/\sl=[])\/∃ C b sv,v=aB C/\o C=q/\aA w C [aB D0,sv,ah (b:Int),ah (c:Int)] 266/\bG o w 3 sv (aK sl)
def jH (o:Ow) (w:World) (D0:Nat) (g:Nat × Nat) (q:Nat):MD->Value->Prop
 | .sweep sl c t,v=>∃ cv tv,iM o w D0 q cv sl c/\dA o w g.1 g.2 t tv/\bM o w 277 [([cv],260),([aB g.2],56),([tv],88)] v
 | d,v=>dA o w g.1 g.2 d v
theorem jH.of {o:Ow} {w:World} {D0:Nat} {g:Nat × Nat} {q:Nat} {d:MD} {v:Value} (h:dA o w g.1 g.2 d v):jH o w D0 g q d v:=by
 cases d<;>first|exact h|exact h.elim
structure oW (w:World) (a:Option Addr) (n sz:Nat) (rs:List (List Value)):Prop where
 len:rs.length=n
 at_:0<n->∃ b off,a=some ⟨b,off,none⟩/\∀ i r,rs[i]?=some r->∀ j v,r[j]?=some v->w.cell? ⟨b,off+i*sz+j,none⟩=some v
theorem oW.below {w w' a n sz rs} (h:oW w a n sz rs) (k:Keep none_ w w'):oW w' a n sz rs:=by
 refine ⟨h.len,fun h0=>?_⟩
 obtain ⟨b,off,e,hc⟩:=h.at_ h0
 exact ⟨b,off,e,fun i r hi j v hj=>k.still (hc i r hi j v hj)⟩
theorem oW.nil (w:World) (sz:Nat):oW w none 0 sz []:=⟨rfl,fun h=>absurd h (Nat.lt_irrefl 0)⟩
theorem oW.vk {w:World} {base n sz:Nat} {T:TypeId} {v:Value} {rs:List (List Value)} (h:w.ownsRow base T sz v n rs.flatten) (hr:∀ r∈rs,r.length=sz) (hn:rs.length=n) :
 ∃ a c,v = .slice a n c/\oW w a n sz rs/\n<=c:=by
 obtain ⟨hl,hf⟩:=h
 have idx:∀ (rs:List (List Value)),(∀ r∈rs,r.length=sz)->∀ i r,rs[i]?=some r->∀ j v,r[j]?=some v->rs.flatten[i*sz+j]?=some v:=by
  intro rs
  induction rs with
  | nil=>intro _ i r h;simp at h
  | cons r0 rs ih =>
    intro hr i r hi j v hj
    have h0:r0.length=sz:=hr r0 (by simp)
    rw [List.flatten_cons]
    cases i with
    | zero =>
      simp at hi;subst hi
      have:=(List.getElem?_eq_some_iff.1 hj).1
      rw [Nat.zero_mul,Nat.zero_add,List.getElem?_append_left (by omega)];exact hj
    | succ i =>
      have e:(i+1)*sz+j=r0.length+(i*sz+j):=by rw [Nat.succ_mul,h0];omega
      rw [e,List.getElem?_append_right (by omega),Nat.add_sub_cancel_left]
      exact ih (fun r h=>hr r (by simp [h])) i r (by simpa using hi) j v hj
 rcases hf with ⟨rfl,h0⟩|⟨g,cap,cur,rfl,_,hg,hnc,_,hs,hc⟩
 ·rcases Nat.eq_zero_or_pos n with hz|hz
  ·subst hz
   have:rs=[]:=List.eq_nil_of_length_eq_zero hn
   subst this
   exact ⟨none,0,rfl,oW.nil _ _,Nat.le_refl _⟩
  ·omega
 ·refine ⟨_,cap,rfl,⟨hn,fun _=>⟨g,0,rfl,fun i r hi j v hj=>?_⟩⟩,hnc⟩
  have h1:=idx rs hr i r hi j v hj
  rw [<- hc] at h1
  have hlt:i*sz+j<n*sz:=by
   have:=(List.getElem?_eq_some_iff.1 h1).1
   simp at this;omega
  have h2:cur[i*sz+j]?=some v:=by
   rw [List.getElem?_take_of_lt hlt] at h1
   simpa using h1
  simp [World.cell?,hg,h2]
end
section
open Go.RowKit Go.Deep
section
variable {P:Program} {w:World}
end
theorem KY {sz:Nat}:∀ (rs:List (List Value)),(∀ r∈rs,r.length=sz)->rs.flatten.length=rs.length*sz
 | [],_=>by simp
 | r::rs,h=>by
   have:=KY rs (fun r hr=>h r (by simp [hr]))
   have h0:=h r (by simp)
   simp [Nat.succ_mul,h0,this,Nat.add_comm]
end
section
open Go.RowKit
structure Geo where
 S:Nat
 D:Nat->Nat
 B:Nat
 Q:Nat
 Fl:Nat
 bx:Nat->Nat
structure ShAt (o:Ow) (w:World) (G:Geo) (s:Sh):Prop where
 dU:gX o w
 sh:∃ v,aA w G.S [aB (G.D 0),aB G.B,aB G.Q,aB G.Fl,v] 53/\bG o w 122 v ((List.range s.boxes.length).map fun i=>aB (G.bx i))
 oS:o G.S=0
 heap:aF w G.D s.H
 oD:∀ i,i<13->o (G.D i)=1
 qw:o 3=0/\o 4=0/\o 2=0
 board:iw w G.B s.B
 oB:o G.B=2
 queue:fU o w G.Q s.Q
 oQ:o G.Q=3
 flag:aA w G.Fl [.bool s.flag] 121
 oF:o G.Fl=4
 box:∀ i l,s.boxes[i]?=some l->dP o w (G.bx i) 176 [] l/\o (G.bx i)=10+i
section
variable {o:Ow} {w w':World} {G:Geo} {s:Sh} {I:List Nat}
theorem fU.aG {B:Nat} {q:Qu} {i:Nat} (h:fU o w B q) (k:Keep (In o I) w w') (h0:I.contains 0=false) (hB:o B=i) (hI:I.contains i=false):fU o w' B q:=by
 obtain ⟨ho,hl,vs,hv,hb,hr⟩:=h
 exact ⟨ho,hl,vs,hv,hb.aG k hB hI,fun i v zs h1 h2=>(hr i v zs h1 h2).aG k h0⟩
theorem fU.rC {o':Ow} {B:Nat} {q:Qu} (h:fU o w B q) (e:aO w o o'):fU o' w B q:=by
 obtain ⟨ho,hl,vs,hv,hb,hr⟩:=h
 exact ⟨by rw [e B hb.lt];exact ho,hl,vs,hv,hb,fun i v zs h1 h2=>(hr i v zs h1 h2).ext e⟩
theorem dP.aG {b:Nat} {T:TypeId} {rest:List Value} {xs:List Nat} {i:Nat} (h:dP o w b T rest xs) (k:Keep (In o I) w w') (h0:I.contains 0=false) (hB:o b=i) (hI:I.contains i=false):dP o w' b T rest xs :=
 h.keep k (bK hB hI) (fun x hx=>bK hx h0)
theorem ShAt.heapK (h:ShAt o w G s) (k:Keep (In o I) w w') (h0:I.contains 0=false) (h1:I.contains 1=false):aF w' G.D s.H :=
 h.heap.keep k (fun i hi=>bK (h.oD i hi) h1) (bK h.qw.1 h0) (bK h.qw.2.1 h0) (bK h.qw.2.2 h0)
theorem ShAt.hfO (h:ShAt o w G s) (k:Keep (HF G.D) w w') (h1:I.contains 1=true):Keep (In o I) w w':=k.mono (fun x _ hx=>by
 obtain ⟨i,hi,e⟩:=hx
 unfold In
 rw [e,h.oD i hi]
 simpa using h1)
theorem ShAt.upd {s':Sh} (h:ShAt o w G s) (k:Keep (In o I) w w') (h0:I.contains 0=false) (hH:aF w' G.D s'.H) (hB:iw w' G.B s'.B) (hQ:fU o w' G.Q s'.Q) (hF:aA w' G.Fl [.bool s'.flag] 121)
 (hl:s'.boxes.length=s.boxes.length) (hX:∀ i l,s'.boxes[i]?=some l->dP o w' (G.bx i) 176 [] l):ShAt o w' G s':=by
 obtain ⟨v,hs1,hs2⟩:=h.sh
 refine ⟨h.dU.keep k,⟨v,hs1.aG k h.oS h0,?_⟩,h.oS,hH,h.oD,h.qw,hB,h.oB,hQ,h.oQ,hF,h.oF,fun i l hi=>⟨hX i l hi,?_⟩⟩
 ·rw [hl];exact hs2.aG k h0
 ·have hlt:=(List.getElem?_eq_some_iff.1 hi).1
  exact (h.box i _ (List.getElem?_eq_getElem (by omega))).2
theorem ShAt.D6 (h:ShAt o w G s) (k:Keep (In o I) w w') (h0:I.contains 0=false) (hI:∀ i,i<s.boxes.length->I.contains (10+i)=false):∀ i l,s.boxes[i]?=some l->dP o w' (G.bx i) 176 [] l:=fun i l hi =>
 (h.box i l hi).1.aG k h0 (h.box i l hi).2 (hI i (List.getElem?_eq_some_iff.1 hi).1)
theorem ShAt.aG (h:ShAt o w G s) (k:Keep (In o I) w w') (hI:I.all (fun i=>decide (20<=i))=true) (h8:s.boxes.length<=8):ShAt o w' G s:=by
 have hge:∀ i,i<20->I.contains i=false:=fun i hi=>by
  rw [Bool.eq_false_iff]
  intro hc
  have:=List.all_eq_true.1 hI i (by simpa using hc)
  simp at this;omega
 exact h.upd k (hge 0 (by decide)) (h.heapK k (hge 0 (by decide)) (hge 1 (by decide))) (h.board.keep k (bK h.oB (hge 2 (by decide)))) (h.queue.aG k (hge 0 (by decide)) h.oQ (hge 3 (by decide))) (h.flag.aG k h.oF (hge 4 (by decide))) rfl (h.D6 k (hge 0 (by decide)) (fun i hi=>hge _ (by omega)))
theorem ShAt.qo {H:HS} (h:ShAt o w G s) (k:Keep (HF G.D) w w') (hH:aF w' G.D H) (h8:s.boxes.length<=8):ShAt o w' G { s with H:=H }/\Keep (In o [1]) w w':=by
 have k1:Keep (In o [1]) w w':=h.hfO k rfl
 exact ⟨h.upd (s':={ s with H:=H }) k1 rfl hH (h.board.keep k1 (bK h.oB rfl)) (h.queue.aG k1 rfl h.oQ rfl) (h.flag.aG k1 h.oF rfl) rfl (h.D6 k1 rfl (fun i hi=>by simp;omega)),k1⟩
theorem ShAt.sQ {B:Bd} (h:ShAt o w G s) (k:Keep (only G.B) w w') (hB:iw w' G.B B):ShAt o w' G { s with B:=B }/\Keep (In o [2]) w w':=by
 have k1:Keep (In o [2]) w w':=k.qg h.oB rfl
 exact ⟨h.upd (s':={ s with B:=B }) k1 rfl (h.heapK k1 rfl rfl) hB (h.queue.aG k1 rfl h.oQ rfl) (h.flag.aG k1 h.oF rfl) rfl (h.D6 k1 rfl (fun i hi=>by simp;omega)),k1⟩
theorem ShAt.wE {Q:Qu} (h:ShAt o w G s) (k:Keep (only G.Q) w w') (hQ:fU o w' G.Q Q):ShAt o w' G { s with Q:=Q }/\Keep (In o [3]) w w':=by
 have k1:Keep (In o [3]) w w':=k.qg h.oQ rfl
 exact ⟨h.upd (s':={ s with Q:=Q }) k1 rfl (h.heapK k1 rfl rfl) (h.board.keep k1 (bK h.oB rfl)) hQ (h.flag.aG k1 h.oF rfl) rfl (h.D6 k1 rfl (fun i hi=>by simp;omega)),k1⟩
theorem ShAt.BR {f:Bool} (h:ShAt o w G s) (k:Keep (only G.Fl) w w') (hF:aA w' G.Fl [.bool f] 121):ShAt o w' G { s with flag:=f }/\Keep (In o [4]) w w':=by
 have k1:Keep (In o [4]) w w':=k.qg h.oF rfl
 exact ⟨h.upd (s':={ s with flag:=f }) k1 rfl (h.heapK k1 rfl rfl) (h.board.keep k1 (bK h.oB rfl)) (h.queue.aG k1 rfl h.oQ rfl) hF rfl (h.D6 k1 rfl (fun i hi=>by simp;omega)),k1⟩
theorem ShAt.KZ {j:Nat} {l:List Nat} (h:ShAt o w G s) (hj:j<s.boxes.length) (k:Keep (only (G.bx j)) w w') (hX:dP o w' (G.bx j) 176 [] l) (h8:s.boxes.length<=8):ShAt o w' G { s with boxes:=s.boxes.set j l }/\Keep (In o [10+j]) w w':=by
 have oj:=(h.box j _ (List.getElem?_eq_getElem hj)).2
 have k1:Keep (In o [10+j]) w w':=k.qg oj (by simp)
 have h0:([10+j]:List Nat).contains 0=false:=by simp;omega
 refine ⟨h.upd (s':={ s with boxes:=s.boxes.set j l }) k1 h0 (h.heapK k1 h0 (by simp;omega)) (h.board.keep k1 (bK h.oB (by simp;omega))) (h.queue.aG k1 h0 h.oQ (by simp;omega)) (h.flag.aG k1 h.oF (by simp;omega)) (by simp) (fun i l' hi=>?_),k1⟩
 by_cases e:j=i
 ·subst e
  rw [List.getElem?_set_self hj] at hi
  cases hi
  exact hX
 ·rw [List.getElem?_set_ne e] at hi
  exact (h.box i l' hi).1.aG k1 h0 (h.box i l' hi).2 (by simp;omega)
theorem ShAt.move {o':Ow} (h:ShAt o w G s) (k:Keep (In o I) w w') (hI:I.all (fun i=>decide (20<=i))=true) (h8:s.boxes.length<=8) (e:aO w o o') (hf:gX o' w'):ShAt o' w' G s:=by
 have k':=k.rC e
 have hge:∀ i,i<20->I.contains i=false:=fun i hi=>by
  rw [Bool.eq_false_iff]
  intro hc
  have:=List.all_eq_true.1 hI i (by simpa using hc)
  simp at this;omega
 obtain ⟨v,hs1,hs2⟩:=h.sh
 have hg:=h.heap.JQ
 have Ug:(o' G.Q:Nat)=3:=by
  obtain ⟨ho,hl,vs,hv,hb,hr⟩:=h.queue
  exact (e _ hb.lt).trans h.oQ
 refine ⟨hf,⟨v,hs1.aG k h.oS (hge 0 (by decide)),(hs2.ext e).aG k' (hge 0 (by decide))⟩,(e _ hs1.lt).trans h.oS,h.heapK k (hge 0 (by decide)) (hge 1 (by decide)),fun i hi=>(e _ (h.heap.ltD i hi)).trans (h.oD i hi),⟨(e _ hg.1).trans h.qw.1,(e _ hg.2.1).trans h.qw.2.1,(e _ hg.2.2).trans h.qw.2.2⟩,
  h.board.keep k (bK h.oB (hge 2 (by decide))),(e _ h.board.blk.lt).trans h.oB,(h.queue.rC e).aG k' (hge 0 (by decide)) Ug (hge 3 (by decide)),Ug,h.flag.aG k h.oF (hge 4 (by decide)),(e _ h.flag.lt).trans h.oF,fun i l hi=>?_⟩
 obtain ⟨h1,h2⟩:=h.box i l hi
 obtain ⟨_,v',hb,_,_⟩:=id h1
 have h3:o' (G.bx i)=10+i:=(e _ hb.lt).trans h2
 exact ⟨(h1.ext e).aG k' (hge 0 (by decide)) h3 (hge _ (by have:=(List.getElem?_eq_some_iff.1 hi).1;omega)),h3⟩
end
structure MG where
 M:Nat
 X:Nat
 Bf:Nat
 Nt:Nat
def yx:Option Ev->List Value
 | none=>[ah 0,ah 0,ah 0,ah 0,ah 0,ah 0,.bool false]
 | some e=>[ah 0,ah (e.who:Int),ah (e.kind:Int),ah (e.op:Int),ah e.code,ah (e.value:Int),.bool true]
def mG (G:Geo) (g:MG) (m:MS) (ev:Option Ev) (pv rv nv:Value):List Value :=
 aB G.S::m.c.cells++[ah (m.id:Int),.slice (some ⟨g.X,0,none⟩) m.regs.length m.regs.length,aB g.Bf,aB g.Nt,ah (m.mode:Int),ah (m.color:Int),ah (m.want:Int),pv,rv,nv,ah (m.held:Int),ah (m.spent:Int),ah (m.most0:Int),ah (m.most1:Int),.bool m.ans]++yx ev
def qE (o:Ow) (w:World) (v:Value) (prog:List fD):Prop :=
 ∃ a c,v = .slice a prog.length c/\prog.length<=1000/\(0<prog.length->∃ b off cs,a=some ⟨b,off,none⟩/\o b=0/\aA w b cs 83/\∀ i op,prog[i]?=some op->∀ j u,op.cells[j]?=some u->cs[off+i*4+j]?=some u)
def sS (res:List (Int × Nat)):List Value:=(res.map fun r=>[Value.int .i64 r.1,Value.int .i64 (r.2:Int)]).flatten
def vC (o:Ow) (w:World) (i:Nat) (v:Value) (res:List (Int × Nat)):Prop:=w.ownsRow 0 225 2 v res.length (sS res)/\∀ b,v.ownBlock=some b->o b=20+i
structure aN (o:Ow) (w:World) (G:Geo) (g:MG) (s:Sh) (m:MS) (ev:Option Ev) (nv:Value):Prop where
 sh:ShAt o w G s
 blk:∃ pv rv,aA w g.M (mG G g m ev pv rv nv) 108/\qE o w pv m.prog/\vC o w m.id rv m.res
 oM:o g.M=20+m.id
 regs:aA w g.X (aK m.regs) 3
 oX:o g.X=20+m.id
 buf:dP o w g.Bf 179 [ah m.c.l] m.buf
 wF:o g.Bf=20+m.id
 nt:aA w g.Nt [aB (G.D 0),aB g.Bf,aB (G.bx m.id),aB G.Fl] 181
 sD:o g.Nt=0
 ji:m.id<s.boxes.length
 box8:s.boxes.length<=8
 conf:m.c=s.H.c
 rlen:(m.regs.length:Int)=m.c.r
 wG:(m.buf.length:Int)<=m.c.l
section
variable {o:Ow} {w w':World} {G:Geo} {g:MG} {s:Sh} {m:MS} {ev:Option Ev} {nv:Value}
theorem qE.aG {I:List Nat} {v:Value} {p:List fD} (h:qE o w v p) (k:Keep (In o I) w w') (h0:I.contains 0=false):qE o w' v p:=by
 obtain ⟨a,c,e,h1,h2⟩:=h
 refine ⟨a,c,e,h1,fun hp=>?_⟩
 obtain ⟨b,off,cs,e1,e2,e3,e4⟩:=h2 hp
 exact ⟨b,off,cs,e1,e2,e3.aG k e2 h0,e4⟩
theorem qE.ext {o':Ow} {v:Value} {p:List fD} (h:qE o w v p) (e:aO w o o'):qE o' w v p:=by
 obtain ⟨a,c,e0,h1,h2⟩:=h
 refine ⟨a,c,e0,h1,fun hp=>?_⟩
 obtain ⟨b,off,cs,e1,e2,e3,e4⟩:=h2 hp
 exact ⟨b,off,cs,e1,(e b e3.lt).trans e2,e3,e4⟩
theorem vC.aG {I:List Nat} {i:Nat} {v:Value} {r:List (Int × Nat)} (h:vC o w i v r) (k:Keep (In o I) w w') (hI:I.contains (20+i)=false):vC o w' i v r :=
 ⟨iG h.1 k (fun b hb=>bK (h.2 b hb) hI),h.2⟩
theorem vC.ext {o':Ow} {i:Nat} {v:Value} {r:List (Int × Nat)} (h:vC o w i v r) (e:aO w o o'):vC o' w i v r:=by
 refine ⟨h.1,fun b hb=>?_⟩
 obtain ⟨cur,hc⟩:∃ cur:Array Value,w.heap[b]?=some (.cells cur 225 (0,0)):=by
  rcases h.1.2 with ⟨e1,_⟩|⟨g,cap,cur,e1,_,hg,_⟩
  ·rw [e1] at hb;simp [Value.ownBlock] at hb
  ·rw [e1] at hb;simp [Value.ownBlock] at hb;subst hb;exact ⟨cur,hg⟩
 exact (e b (lt_of_block hc)).trans (h.2 b hb)
theorem aN.share {s':Sh} {I:List Nat} (h:aN o w G g s m ev nv) (k:Keep (In o I) w w') (h0:I.contains 0=false) (hi:I.contains (20+m.id)=false) (hs:ShAt o w' G s') (hl:s'.boxes.length=s.boxes.length) (hc:s'.H.c=s.H.c):aN o w' G g s' m ev nv:=by
 obtain ⟨pv,rv,h1,h2,h3⟩:=h.blk
 exact ⟨hs,⟨pv,rv,h1.aG k h.oM hi,h2.aG k h0,h3.aG k hi⟩,h.oM,h.regs.aG k h.oX hi,h.oX,h.buf.aG k h0 h.wF hi,h.wF,h.nt.aG k h.sD h0,h.sD,by rw [hl];exact h.ji,by rw [hl];exact h.box8,h.conf.trans hc.symm,h.rlen,h.wG⟩
theorem aN.still (h:aN o w G g s m ev nv) (k:Keep none_ w w'):aN o w' G g s m ev nv:=by
 have k0:Keep (In o []) w w':=k.aQ
 exact h.share k0 rfl rfl (h.sh.aG k0 rfl h.box8) rfl rfl
theorem aN.apart (h:aN o w G g s m ev nv):g.M≠g.X/\g.M≠g.Bf/\g.X≠g.Bf/\(∀ rv r b,vC o w m.id rv r->rv.ownBlock=some b->b≠g.M/\b≠g.X/\b≠g.Bf):=by
 obtain ⟨pv,rv,h1,h2,h3⟩:=h.blk
 obtain ⟨_,v,h4,_⟩:=h.buf
 have h5:=h.regs
 refine ⟨fun e=>?_,fun e=>?_,fun e=>?_,fun rv r b hr hb=>?_⟩
 ·rw [e] at h1;exact absurd (h1.uniq h5).2 (by decide)
 ·rw [e] at h1;exact absurd (h1.uniq h4).2 (by decide)
 ·rw [e] at h5;exact absurd (h5.uniq h4).2 (by decide)
 ·refine ⟨fun e=>?_,fun e=>?_,fun e=>?_⟩
  ·exact own_ne h1 hr.1 (by decide) (by rw [hb,e])
  ·exact own_ne h5 hr.1 (by decide) (by rw [hb,e])
  ·exact own_ne h4 hr.1 (by decide) (by rw [hb,e])
theorem aN.struct (h:aN o w G g s m ev nv) (kM:Keep (only g.M) w w') (m':MS) (ev':Option Ev) (jC:Value) (hc:∀ pv rv,aA w g.M (mG G g m ev pv rv nv) 108->aA w' g.M (mG G g m' ev' pv rv jC) 108)
 (e:m'.id=m.id/\m'.c=m.c/\m'.regs=m.regs/\m'.buf=m.buf/\m'.prog=m.prog/\m'.res=m.res):aN o w' G g s m' ev' jC/\Keep (In o [20+m.id]) w w':=by
 obtain ⟨pv,rv,h1,h2,h3⟩:=h.blk
 obtain ⟨e1,e2,e3,e4,e5,e6⟩:=e
 have ap:=h.apart
 have k:Keep (In o [20+m.id]) w w':=kM.qg h.oM (by simp)
 refine ⟨⟨h.sh.aG k (by simp) h.box8,⟨pv,rv,hc pv rv h1,?_,?_⟩,by rw [e1];exact h.oM,by rw [e3];exact kM.blk h.regs (fun e=>ap.1 e.symm),by rw [e1];exact h.oX,?_,by rw [e1];exact h.wF,by rw [e1];exact h.nt.aG k h.sD (by simp;omega),h.sD,by rw [e1];exact h.ji,h.box8,by rw [e2];exact h.conf,by rw [e3,e2];exact h.rlen,by rw [e4,e2];exact h.wG⟩,k⟩
 ·rw [e5];exact h2.aG k (by simp;omega)
 ·rw [e1,e6]
  exact ⟨iG h3.1 kM (fun b hb e=>(ap.2.2.2 rv _ b h3 hb).1 e),h3.2⟩
 ·rw [e2,e4]
  exact h.buf.keep kM (fun e=>ap.2.1 e.symm) (fun x hx e=>by unfold only at e;rw [e,h.oM] at hx;omega)
theorem aN.put (h:aN o w G g s m ev nv) (i:Nat) (u:Value) (m':MS) (ev':Option Ev) (jC:Value) (hc:∀ pv rv,(mG G g m ev pv rv nv).set i u=mG G g m' ev' pv rv jC)
 (e:m'.id=m.id/\m'.c=m.c/\m'.regs=m.regs/\m'.buf=m.buf/\m'.prog=m.prog/\m'.res=m.res):aN o (w.setCell ⟨g.M,i,none⟩ u) G g s m' ev' jC/\Keep (In o [20+m.id]) w (w.setCell ⟨g.M,i,none⟩ u) :=
 h.struct ((Keep.refl _ _).put i u) m' ev' jC (fun pv rv hb=>by
  have:=hb.set i u
  rwa [hc] at this) e
theorem aN.EZ (h:aN o w G g s m ev nv) {b:List Nat} (k:Keep (only g.Bf) w w') (hb:dP o w' g.Bf 179 [ah m.c.l] b) (hl:(b.length:Int)<=m.c.l):aN o w' G g s { m with buf:=b } ev nv/\Keep (In o [20+m.id]) w w':=by
 obtain ⟨pv,rv,h1,h2,h3⟩:=h.blk
 have ap:=h.apart
 have k1:Keep (In o [20+m.id]) w w':=k.qg h.wF (by simp)
 exact ⟨⟨h.sh.aG k1 (by simp) h.box8,⟨pv,rv,k.blk h1 (fun e=>ap.2.1 e),h2.aG k1 (by simp;omega),⟨iG h3.1 k (fun b hb e=>(ap.2.2.2 rv _ b h3 hb).2.2 e),h3.2⟩⟩,h.oM,k.blk h.regs (fun e=>ap.2.2.1 e),h.oX,hb,h.wF,h.nt.aG k1 h.sD (by simp;omega),h.sD,h.ji,h.box8,h.conf,h.rlen,hl⟩,k1⟩
theorem aN.ZV (h:aN o w G g s m ev nv) (r v:Nat):aN o (w.setCell ⟨g.X,r,none⟩ (ah (v:Int))) G g s { m with regs:=m.regs.set r v } ev nv/\Keep (In o [20+m.id]) w (w.setCell ⟨g.X,r,none⟩ (ah (v:Int))):=by
 obtain ⟨pv,rv,h1,h2,h3⟩:=h.blk
 have ap:=h.apart
 have k:Keep (only g.X) w (w.setCell ⟨g.X,r,none⟩ (ah (v:Int))):=(Keep.refl _ _).put r _
 have k1:Keep (In o [20+m.id]) w (w.setCell ⟨g.X,r,none⟩ (ah (v:Int))):=k.qg h.oX (by simp)
 refine ⟨⟨h.sh.aG k1 (by simp) h.box8,⟨pv,rv,?_,h2.aG k1 (by simp;omega),⟨iG h3.1 k (fun b hb e=>(ap.2.2.2 rv _ b h3 hb).2.1 e),h3.2⟩⟩,h.oM,?_,h.oX,?_,h.wF,h.nt.aG k1 h.sD (by simp;omega),h.sD,h.ji,h.box8,h.conf,by simpa using h.rlen,h.wG⟩,k1⟩
 ·have:=k.blk h1 (fun e=>ap.1 e)
  unfold mG at this ⊢
  simpa using this
 ·rw [yT];exact h.regs.set r _
 ·exact h.buf.keep k (fun e=>ap.2.2.1 e.symm) (fun x hx e=>by unfold only at e;rw [e,h.oX] at hx;omega)
theorem aN.cell (h:aN o w G g s m ev nv) (i:Nat) (u:Value) (hu:∀ pv rv,(mG G g m ev pv rv nv)[i]?=some u):w.cell? ⟨g.M,i,none⟩=some u:=by
 obtain ⟨pv,rv,h1,_⟩:=h.blk
 exact h1.cell i (hu pv rv)
theorem aN.free (h:aN o w G g s m ev nv) (i:Nat):w.frozen? ⟨g.M,i,none⟩=false:=by
 obtain ⟨pv,rv,h1,_⟩:=h.blk
 exact h1.free i
end
end
section
attribute [local go_sem] Oper.semAt_some
open Go.RowKit
section
variable {o:Ow} {w w':World} {b:Nat} {room:Int} {xs:List Nat}
theorem dP.abm (h:dP o w b 179 [ah room] xs):w.cell? ⟨b,1,none⟩=some (ah room):=by
 obtain ⟨_,v,h1,_⟩:=h
 exact h1.cell 1 rfl
theorem yZ (h:dP o w b 179 [ah room] xs):Calls ay 174 #[aj b] w fun e w'=>e = .returned (.bool ((xs.length:Int)==room))/\Keep none_ w w':=by
 have HC:Hid (∀ W,Keep none_ w W->Calls ay 212 #[aj b] W fun e w'=>e = .returned (ah (xs.length:Int))/\W=w'):=fun W hW=>tq (h.still hW)
 have c1:=h.abm
 have hlen:(xs.length:Int)<=4000000000000:=by obtain ⟨a,c,_,_,_,_,hm,_⟩:=h.form;omega
 generalize xs.length=n at *
 clear h
 go_enter func174,ntmps174
 go_wp2_with fail
 go_quiet (first|(go_at_call 212;exact Calls.quiet_of_same (eH (HC.out _ ((Keep.refl none_ w).drewN _)))))
 go_wp2_with fail
 go_ret
 exact ⟨rfl,(Keep.refl _ _).drewN _⟩
theorem Ii (h:dP o w b 179 [ah room] xs):Calls ay 175 #[aj b] w fun e w'=>e = .returned (ah (xs.length:Int))/\w=w':=by
 have HC:=au (tq h)
 clear h
 go_enter func175,ntmps175
 go_wp2_with (go_at_call 212;refine HC.out.mono ?_;rintro e w1 ⟨rfl,rfl⟩)
 go_ret
 exact ⟨rfl,rfl⟩
theorem QM (h:dP o w b 179 [ah room] xs) (x:Nat) (hf:((xs.length:Int)==room)=true):Calls ay 172 #[aj b,ah (x:Int)] w fun e w'=>e = .returned (.bool false)/\Keep none_ w w':=by
 have HF:=au (yZ h)
 rw [hf] at HF
 clear h hf
 go_enter func172,ntmps172
 go_wp2_with (go_at_call 174;refine HF.out.mono ?_;rintro e w1 ⟨rfl,k1⟩;have HK:=au k1;clear k1)
 go_ret
 exact ⟨rfl,HK.out⟩
theorem QN (h:dP o w b 179 [ah room] xs) (x:Nat) (hf:((xs.length:Int)==room)=false) (hf0:gX o w) (hm:xs.length<=100000):Calls ay 172 #[aj b,ah (x:Int)] w fun e w'=>e = .returned (.bool true)/\dP o w' b 179 [ah room] (xs++[x])/\Keep (only b) w w':=by
 have HF:=au (yZ h)
 rw [hf] at HF
 have HA:Hid (∀ W,Keep none_ w W->Calls ay 211 #[aj b,ah (x:Int)] W fun e w'=>e = .returned (.tuple #[])/\dP o w' b 179 [ah room] (xs++[x])/\Keep (only b) W w'):=fun W hW=>Uf (h.still hW) x (hf0.keep hW) hm
 clear h hf hf0 hm
 go_enter func172,ntmps172
 go_wp2_with (go_at_call 174;refine HF.out.mono ?_;rintro e w1 ⟨rfl,k1⟩;have HK:=au k1;have HA1:=au (HA.out _ k1);clear k1)
 go_wp2_with (go_at_call 211;refine HA1.out.mono ?_;rintro e w2 ⟨rfl,h2,k2⟩;have HH:=au h2;have bP:=au k2;clear h2 k2)
 go_ret
 exact ⟨rfl,HH.out,(HK.out.mono (fun _ _ f=>f.elim)).trans bP.out⟩
theorem QO (h:dP o w b 179 [ah room] xs):Calls ay 215 #[aj b] w fun e w'=>e = .returned (.tuple #[ah (aV xs:Int),.bool (!xs.isEmpty)])/\dP o w' b 179 [ah room] xs.tail/\Keep (only b) w w':=by
 have HT:Hid (Calls ay 246 #[aj b] w fun e w'=>e = .returned (.tuple #[ah (aV xs:Int),.bool (!xs.isEmpty)])/\dP o w' b 179 [ah room] xs.tail/\Keep (only b) w w'):=by
  cases xs with
  | nil =>
    refine (EY h).mono ?_
    rintro e w' ⟨rfl,rfl⟩
    exact ⟨rfl,h,Keep.refl _ _⟩
  | cons x xs=>exact Di x h
 generalize aV xs=hd at *
 generalize (!xs.isEmpty)=ok at *
 clear h
 go_enter func215,ntmps215
 go_wp2_with (go_at_call 246;refine HT.out.mono ?_;rintro e w1 ⟨rfl,h1,k1⟩;have HH:=au h1;have HK:=au k1;clear h1 k1)
 go_ret2
 exact ⟨rfl,HH.out,HK.out⟩
theorem xK (h:dP o w b 179 [ah room] xs):Calls ay 131 #[aj b] w fun e w'=>e = .returned (.tuple #[])/\dP o w' b 179 [ah room] []/\Keep (only b) w w':=by
 obtain ⟨a,c,hc,_,_,_,_,hf,_⟩:=h.form
 have HS:=au (h.set (bG.nil o w 3) (ys:=[]) (fun _ _ e=>by cases e;rfl))
 clear h
 go_enter func131,ntmps131
 go_wp2_with fail
 go_end0
 exact ⟨rfl,HS.out,(Keep.refl (only b) _).put _ _⟩
theorem WA (F:Nat) (f:Bool) (h:aA w F [.bool f] 121):Calls ay 281 #[aj F] w fun e w'=>e = .returned (.bool f)/\w=w':=by
 have c0:=h.cell 0 rfl
 clear h
 cases f
 all_goals
  go_enter func281,ntmps281
  go_wp2_with fail
  go_ret
  exact ⟨rfl,rfl⟩
theorem Oo (F:Nat) (f:Bool) (h:aA w F [.bool f] 121):Calls ay 218 #[aj F] w fun e w'=>e = .returned (.tuple #[])/\aA w' F [.bool true] 121/\Keep (only F) w w':=by
 have c0:=h.cell 0 rfl
 have f0:=h.free 0
 have HS:=au (h.set 0 (.bool true))
 clear h
 go_enter func218,ntmps218
 go_wp2_with fail
 go_end0
 exact ⟨rfl,HS.out,(Keep.refl (only F) _).put _ _⟩
theorem Oq (F:Nat) (f:Bool) (h:aA w F [.bool f] 121):Calls ay 272 #[aj F] w fun e w'=>e = .returned (.bool f)/\aA w' F [.bool false] 121/\Keep (only F) w w':=by
 have c0:=h.cell 0 rfl
 have f0:=h.free 0
 have HS:=au (h.set 0 (.bool false))
 have HU:=au (WA F f h)
 have HH:=au h
 clear h
 cases f
 ·go_enter func272,ntmps272
  go_wp2_with (go_at_call 281;refine HU.out.mono ?_;rintro e w1 ⟨rfl,rfl⟩)
  go_ret
  exact ⟨rfl,HH.out,Keep.refl _ _⟩
 ·go_enter func272,ntmps272
  go_wp2_with (go_at_call 281;refine HU.out.mono ?_;rintro e w1 ⟨rfl,rfl⟩)
  go_ret
  exact ⟨rfl,HS.out,(Keep.refl (only F) _).put _ _⟩
theorem Uh {B:Nat} {ys:List Nat} (h:dP o w b 179 [ah room] xs) (hb:dP o w B 176 [] ys) (hy:ys≠[]):Calls ay 177 #[aj B,aj b] w fun e w'=>e = .returned (.bool false)/\w=w':=by
 have HC:=au (tq hb)
 have hpos:0<ys.length:=List.length_pos_iff.2 hy
 have d0:decide ((0:Int)<(ys.length:Int))=true:=decide_eq_true (by omega)
 have d1:decide (0<ys.length)=true:=decide_eq_true hpos
 generalize ys.length=n at *
 clear h hb hy
 go_enter func177,ntmps177
 go_wp2_with (go_at_call 212;refine HC.out.mono ?_;rintro e w1 ⟨rfl,rfl⟩)
 go_ret
 exact ⟨rfl,rfl⟩
theorem QS {B:Nat} (h:dP o w b 179 [ah room] xs) (hb:dP o w B 176 [] []) (hne:B≠b) (hf0:gX o w):Calls ay 177 #[aj B,aj b] w fun e w'=>e = .returned (.bool true)/\dP o w' b 179 [ah room] []/\dP o w' B 176 [] xs/\Keep (fun i=>i=B\/i=b) w w':=by
 have HC:=au (tq hb)
 have hlen:xs.length<=4000000000000:=by obtain ⟨a,c,_,_,_,_,hm,_⟩:=h.form;exact hm
 have HA:=au (Ue h)
 have HH:=au h
 have HB:=au hb
 have HN:=au hne
 have HF:=au hf0
 have HL:=au hlen
 clear h hb hne hf0 hlen
 go_enter func177,ntmps177
 go_wp2_with (go_at_call 212;refine HC.out.mono ?_;rintro e w1 ⟨rfl,rfl⟩)
 refine HA.out.mono ?_
 rintro e w1 ⟨v,rfl,ho,k1⟩
 obtain ⟨a',cap',rfl,_,_,hnl,_⟩:=lH (fJ ho (Nat.zero_le _))
 have XU:=au hnl
 have HO:=au ho
 have aJ:=au k1
 obtain ⟨_,_,cB,_,_,_,_,fB,_⟩:=(HB.out.still k1).form
 clear ho k1 hnl
 go_wp2_with fail
 have hrow:bG o w1 3 (.slice a' xs.length cap') (aK xs):=bG.vk HO.out HL.out (fun x hx=>HF.out x hx)
 have hnil:QK (.slice a' xs.length cap'):=fun n c e=>by injection e with e1 e2 e3;rw [<- e3];exact XU.out e1
 have hS2:=(HB.out.still aJ.out).set hrow hnil
 have k2:Keep (only B) w1 (w1.setCell ⟨B,0,none⟩ (.slice a' xs.length cap')):=(Keep.refl _ _).put 0 _
 have hb2:dP o (w1.setCell ⟨B,0,none⟩ (.slice a' xs.length cap')) b 179 [ah room] xs:=(HH.out.still aJ.out).keep k2 (fun e=>HN.out e.symm) (fun x hx e=>by unfold only at e;subst e;exact HB.out.1 hx)
 have HS2:=au hS2
 have bP:=au k2
 have nT:=au (xK hb2)
 clear hS2 k2 hb2 hrow hnil
 refine nT.out.mono ?_
 rintro e w3 ⟨rfl,h3,k3⟩
 have ZT:=au h3
 have gI:=au k3
 clear h3 k3
 go_wp2_with fail
 go_ret
 refine ⟨rfl,ZT.out,HS2.out.keep gI.out (fun e=>HN.out e) (fun x hx e=>by unfold only at e;subst e;exact HH.out.1 hx),?_⟩
 exact (aJ.out.mono (fun _ _ f=>f.elim)).trans ((bP.out.mono (fun _ _ e=>Or.inl e)).trans (gI.out.mono (fun _ _ e=>Or.inr e)))
end
def bT (w:World):List (List Value × TypeId)->World
 | []=>w
 | (cs,T)::l=>bT (w.alloc (.cells cs.toArray T)) l
def idxs (n:Nat):List (List Value × TypeId)->List Nat
 | []=>[]
 | _::l=>n::idxs (n+1) l
theorem iH {o:Ow}:∀ (l:List (List Value × TypeId)) (w:World),gX o w->Caps o (bT w l) l (idxs w.heap.size l)/\Keep none_ w (bT w l)
 | [],w,_=>⟨rfl,Keep.refl _ _⟩
 | (cs,T)::l,w,hf=>by
   have k:Keep none_ w (w.alloc (.cells cs.toArray T)):=(Keep.refl _ _).alloc _
   obtain ⟨h1,h2⟩:=iH l (w.alloc (.cells cs.toArray T)) (hf.keep k)
   rw [World.size_alloc] at h1
   exact ⟨⟨w.heap.size,_,rfl,hf _ (Nat.le_refl _),h2.blk (aA.new w cs T) (fun f=>f),h1⟩,k.trans h2⟩
theorem tu.keep {o:Ow} {w w':World} {M:Nat} {S:Nat->Prop} {rd:RD} {v:Value} (h:tu o w M rd v) (k:Keep S w w') (h0:∀ b,o b=0->¬ S b):tu o w' M rd v:=by
 cases rd with
 | field base f x=>obtain ⟨op,e,h1⟩:=h;exact ⟨op,e,h1.keep k h0⟩
 | cell i x=>obtain ⟨op,e,h1⟩:=h;exact ⟨op,e,h1.keep k h0⟩
theorem tC.keep {o:Ow} {w w':World} {M:Nat} {S:Nat->Prop} {rd:RD} {v:Value} (h:tC o w M rd v) (k:Keep S w w') (h0:∀ b,o b=0->¬ S b):tC o w' M rd v:=by
 cases rd with
 | field base f x=>obtain ⟨op,e,h1⟩:=h;exact ⟨op,e,h1.keep k h0⟩
 | cell i x=>obtain ⟨op,e,h1⟩:=h;exact ⟨op,e,h1.keep k h0⟩
theorem kH.keep {o:Ow} {w w':World} {M:Nat} {S:Nat->Prop} {rd:RD} {v:Value} (h:kH o w M rd v) (k:Keep S w w') (h0:∀ b,o b=0->¬ S b):kH o w' M rd v:=by
 obtain ⟨wv,h1,h2⟩:=h
 exact ⟨wv,h1.keep k h0,h2.keep k h0⟩
theorem tu.ext {o o':Ow} {w:World} {M:Nat} {rd:RD} {v:Value} (h:tu o w M rd v) (e:aO w o o'):tu o' w M rd v:=by
 cases rd with
 | field base f x=>obtain ⟨op,e1,h1⟩:=h;exact ⟨op,e1,h1.ext e⟩
 | cell i x=>obtain ⟨op,e1,h1⟩:=h;exact ⟨op,e1,h1.ext e⟩
theorem tC.ext {o o':Ow} {w:World} {M:Nat} {rd:RD} {v:Value} (h:tC o w M rd v) (e:aO w o o'):tC o' w M rd v:=by
 cases rd with
 | field base f x=>obtain ⟨op,e1,h1⟩:=h;exact ⟨op,e1,h1.ext e⟩
 | cell i x=>obtain ⟨op,e1,h1⟩:=h;exact ⟨op,e1,h1.ext e⟩
theorem kH.ext {o o':Ow} {w:World} {M:Nat} {rd:RD} {v:Value} (h:kH o w M rd v) (e:aO w o o'):kH o' w M rd v:=by
 obtain ⟨wv,h1,h2⟩:=h
 exact ⟨wv,h1.ext e,h2.ext e⟩
theorem dA.keep {o:Ow} {w w':World} {Nt M:Nat} {S:Nat->Prop} (k:Keep S w w') (h0:∀ b,o b=0->¬ S b):∀ {d:MD} {v:Value},dA o w Nt M d v->dA o w' Nt M d v:=by
 intro d
 induction d with
 | nil=>intro v h;exact h
 | start op=>intro v h;exact bM.keep h k h0
 | once q =>
   intro v h
   obtain ⟨dv,h1,h2⟩:=h
   refine ⟨dv,h1.keep k h0,?_⟩
   revert h2
   split
   ·rintro ⟨lv,h2,h3⟩;exact ⟨lv,h2.keep k h0,h3.keep k h0⟩
   split
   ·rintro ⟨lv,h2,h3⟩;exact ⟨lv,h2.keep k h0,h3.keep k h0⟩
   split
   ·rintro ⟨lv,h2,h3⟩;exact ⟨lv,h2.keep k h0,h3.keep k h0⟩
   split
   ·rintro ⟨lv,h2,h3⟩;exact ⟨lv,h2.keep k h0,h3.keep k h0⟩
   ·rintro ⟨lv,h2,h3⟩;exact ⟨lv,h2.keep k h0,h3.keep k h0⟩
 | note x c t ih =>
   intro v h
   obtain ⟨tv,av,h1,h2,h3⟩:=h
   exact ⟨tv,av,ih h1,h2.keep k h0,h3.keep k h0⟩
 | add x t ih=>intro v h;obtain ⟨tv,h1,h2⟩:=h;exact ⟨tv,ih h1,h2.keep k h0⟩
 | pour c t ih=>intro v h;obtain ⟨tv,h1,h2⟩:=h;exact ⟨tv,ih h1,h2.keep k h0⟩
 | dZ c f t ih=>intro v h;obtain ⟨tv,h1,h2⟩:=h;exact ⟨tv,ih h1,h2.keep k h0⟩
 | raise t ih=>intro v h;obtain ⟨tv,h1,h2⟩:=h;exact ⟨tv,ih h1,h2.keep k h0⟩
 | field base f t ih=>intro v h;obtain ⟨tv,h1,h2⟩:=h;exact ⟨tv,ih h1,h2.keep k h0⟩
 | load op base=>intro v h;exact bM.keep h k h0
 | get op=>intro v h;exact bM.keep h k h0
 | lay x rd =>
   intro v h
   obtain ⟨rv,lv,h1,h2,h3⟩:=h
   exact ⟨rv,lv,h1.keep k h0,h2.keep k h0,h3.keep k h0⟩
 | last rd=>intro v h;exact kH.keep h k h0
 | alloc op q=>intro v h;exact bM.keep h k h0
 | assign op q=>intro v h;exact bM.keep h k h0
 | qj op all =>
   intro v h
   obtain ⟨h1,av,h2,h3⟩:=h
   exact ⟨h1,av,h2.keep k h0,h3.keep k h0⟩
 | claim op q=>intro v h;exact bM.keep h k h0
 | again op q=>intro v h;exact bM.keep h k h0
 | sweep sl c t=>intro v h;exact h.elim
 | fill op a=>intro v h;exact bM.keep h k h0
 | zero op a i=>intro v h;exact bM.keep h k h0
theorem dA.ext {o o':Ow} {w:World} {Nt M:Nat} (e:aO w o o'):∀ {d:MD} {v:Value},dA o w Nt M d v->dA o' w Nt M d v:=by
 intro d
 induction d with
 | nil=>intro v h;exact h
 | start op=>intro v h;exact bM.ext h e
 | once q =>
   intro v h
   obtain ⟨dv,h1,h2⟩:=h
   refine ⟨dv,h1.ext e,?_⟩
   revert h2
   split
   ·rintro ⟨lv,h2,h3⟩;exact ⟨lv,h2.ext e,h3.ext e⟩
   split
   ·rintro ⟨lv,h2,h3⟩;exact ⟨lv,h2.ext e,h3.ext e⟩
   split
   ·rintro ⟨lv,h2,h3⟩;exact ⟨lv,h2.ext e,h3.ext e⟩
   split
   ·rintro ⟨lv,h2,h3⟩;exact ⟨lv,h2.ext e,h3.ext e⟩
   ·rintro ⟨lv,h2,h3⟩;exact ⟨lv,h2.ext e,h3.ext e⟩
 | note x c t ih =>
   intro v h
   obtain ⟨tv,av,h1,h2,h3⟩:=h
   exact ⟨tv,av,ih h1,h2.ext e,h3.ext e⟩
 | add x t ih=>intro v h;obtain ⟨tv,h1,h2⟩:=h;exact ⟨tv,ih h1,h2.ext e⟩
 | pour c t ih=>intro v h;obtain ⟨tv,h1,h2⟩:=h;exact ⟨tv,ih h1,h2.ext e⟩
 | dZ c f t ih=>intro v h;obtain ⟨tv,h1,h2⟩:=h;exact ⟨tv,ih h1,h2.ext e⟩
 | raise t ih=>intro v h;obtain ⟨tv,h1,h2⟩:=h;exact ⟨tv,ih h1,h2.ext e⟩
 | field base f t ih=>intro v h;obtain ⟨tv,h1,h2⟩:=h;exact ⟨tv,ih h1,h2.ext e⟩
 | load op base=>intro v h;exact bM.ext h e
 | get op=>intro v h;exact bM.ext h e
 | lay x rd =>
   intro v h
   obtain ⟨rv,lv,h1,h2,h3⟩:=h
   exact ⟨rv,lv,h1.ext e,h2.ext e,h3.ext e⟩
 | last rd=>intro v h;exact kH.ext h e
 | alloc op q=>intro v h;exact bM.ext h e
 | assign op q=>intro v h;exact bM.ext h e
 | qj op all =>
   intro v h
   obtain ⟨h1,av,h2,h3⟩:=h
   exact ⟨h1,av,h2.ext e,h3.ext e⟩
 | claim op q=>intro v h;exact bM.ext h e
 | again op q=>intro v h;exact bM.ext h e
 | sweep sl c t=>intro v h;exact h.elim
 | fill op a=>intro v h;exact bM.ext h e
 | zero op a i=>intro v h;exact bM.ext h e
theorem bM.form {o:Ow} {w:World} {fn:Nat} {l:List (List Value × TypeId)} {v:Value} (h:bM o w fn l v):v = .nilFunc\/∃ (fn:Nat) (caps:Array Value),v = .func (.func fn) #[] caps:=by
 obtain ⟨bs,e,_⟩:=h
 exact .inr ⟨_,_,e⟩
theorem dA.form {o:Ow} {w:World} {Nt M:Nat} {d:MD} {v:Value} (h:dA o w Nt M d v):v = .nilFunc\/∃ (fn:Nat) (caps:Array Value),v = .func (.func fn) #[] caps:=by
 cases d with
 | nil=>exact .inl h
 | start op=>exact bM.form h
 | once q=>obtain ⟨dv,h1,_⟩:=h;exact h1.form
 | note x c t=>obtain ⟨tv,av,_,_,h3⟩:=h;exact h3.form
 | add x t=>obtain ⟨tv,_,h3⟩:=h;exact h3.form
 | pour c t=>obtain ⟨tv,_,h3⟩:=h;exact h3.form
 | dZ c f t=>obtain ⟨tv,_,h3⟩:=h;exact h3.form
 | raise t=>obtain ⟨tv,_,h3⟩:=h;exact h3.form
 | field base f t=>obtain ⟨tv,_,h3⟩:=h;exact h3.form
 | load op base=>exact bM.form h
 | get op=>exact bM.form h
 | lay x rd=>obtain ⟨_,_,_,_,h3⟩:=h;exact h3.form
 | last rd=>obtain ⟨_,_,h3⟩:=h;exact h3.form
 | alloc op q=>exact bM.form h
 | assign op q=>exact bM.form h
 | qj op all=>obtain ⟨_,_,_,h3⟩:=h;exact h3.form
 | claim op q=>exact bM.form h
 | again op q=>exact bM.form h
 | sweep sl c t=>exact h.elim
 | fill op a=>exact bM.form h
 | zero op a i=>exact bM.form h
theorem jH.form {o:Ow} {w:World} {D0:Nat} {g:Nat × Nat} {q:Nat} {d:MD} {v:Value} (h:jH o w D0 g q d v):v = .nilFunc\/∃ (fn:Nat) (caps:Array Value),v = .func (.func fn) #[] caps:=by
 cases d with
 | sweep sl c t=>obtain ⟨_,_,_,_,h3⟩:=h;exact h3.form
 | _=>exact dA.form h
section
variable {o:Ow} {w w':World} {Nt M:Nat}
theorem dA.aG {I:List Nat} {d:MD} {v:Value} (h:dA o w Nt M d v) (k:Keep (In o I) w w') (h0:I.contains 0=false):dA o w' Nt M d v:=h.keep k (fun b hb=>bK hb h0)
theorem dA.still {d:MD} {v:Value} (h:dA o w Nt M d v) (k:Keep none_ w w'):dA o w' Nt M d v:=h.keep k (fun _ _ f=>f)
theorem QT (hf:gX o w) (v c:Nat) (t:MD) (tv:Value) (ht:dA o w Nt M t tv):Calls ay 135 #[aj Nt,ah (v:Int),ah (c:Int),tv] w fun e w'=>∃ nv,e = .returned nv/\dA o w' Nt M (jW v c t) nv/\Keep none_ w w':=by
 by_cases h0:v=0
 ·subst h0
  have hc:=iH (o:=o) [([aB Nt],104),([ah 0],3),([ah (c:Int)],3),([tv],88)] w hf
  have HE:Hid (dA o (bT w [([aB Nt],104),([ah 0],3),([ah (c:Int)],3),([tv],88)]) Nt M (jW 0 c t) tv/\Keep none_ w (bT w [([aB Nt],104),([ah 0],3),([ah (c:Int)],3),([tv],88)])):=⟨ht.still hc.2,hc.2⟩
  have hform:=ht.form
  clear hc ht hf
  rcases hform with rfl|⟨fn,caps,rfl⟩
  all_goals
   go_enter func135,ntmps135
   go_wp2_with fail
   go_ret
   exact ⟨_,rfl,HE.out.1,HE.out.2⟩
 ·have d0:((v:Int)==0)=false:=by simp;omega
  obtain ⟨n,hn⟩:∃ n,n=w.heap.size:=⟨_,rfl⟩
  obtain ⟨av,hav⟩:∃ av:Value,av = .func (.func 171) #[] #[aB n,aB (n+1),aB (n+1+1+1)]:=⟨_,rfl⟩
  have hc:=iH (o:=o) [([aB Nt],104),([ah (v:Int)],3),([ah (c:Int)],3),([tv],88),([av],87)] w hf
  obtain ⟨W,hW⟩:∃ W,W=bT w [([aB Nt],104),([ah (v:Int)],3),([ah (c:Int)],3),([tv],88),([av],87)]:=⟨_,rfl⟩
  rw [<- hW,<- hn] at hc
  have HE:Hid (dA o W Nt M (jW v c t) (.func (.func 173) #[] #[aB n,aB (n+1),aB (n+1+1),aB (n+1+1+1),aB (n+1+1+1+1)])/\Keep none_ w W):=by
   refine ⟨?_,hc.2⟩
   unfold jW
   rw [if_neg h0]
   refine ⟨tv,av,ht.still hc.2,⟨[n,n+1,n+1+1+1],hav,?_⟩,⟨_,rfl,hc.1⟩⟩
   obtain ⟨b0,r0,e0,o0,k0,hc1⟩:=hc.1
   obtain ⟨b1,r1,e1,o1,k1,hc2⟩:=hc1
   obtain ⟨b2,r2,e2,o2,k2,hc3⟩:=hc2
   obtain ⟨b3,r3,e3,o3,k3,hc4⟩:=hc3
   simp only [idxs,List.cons.injEq] at e0
   obtain ⟨rfl,rfl⟩:=e0
   simp only [List.cons.injEq] at e1
   obtain ⟨rfl,rfl⟩:=e1
   simp only [List.cons.injEq] at e2
   obtain ⟨rfl,rfl⟩:=e2
   simp only [List.cons.injEq] at e3
   obtain ⟨rfl,rfl⟩:=e3
   exact ⟨_,_,rfl,o0,k0,_,_,rfl,o1,k1,_,_,rfl,o3,k3,rfl⟩
  have Ui:W=((((w.alloc (.cells #[aj Nt] 104)).alloc (.cells #[ah (v:Int)] 3)).alloc (.cells #[ah (c:Int)] 3)).alloc (.cells #[tv] 88)).alloc (.cells #[.func (.func 171) #[] #[aj w.heap.size,aj (w.heap.size+1),aj (w.heap.size+1+1+1)]] 87):=by rw [hW,hav,hn];rfl
  have XV:=au Ui
  have HN:=au hn
  have hmf:∀ (fn:Fn) (first cap:Array Value) (w:World),(Instr.makeFunc fn first cap).run ay w = .ok (.func fn first cap) w:=fun _ _ _ _=>rfl
  have hform:=ht.form
  clear hc ht hf h0 hW Ui hav hn
  rcases hform with rfl|⟨fn,caps,rfl⟩
  all_goals
   go_enter func135,ntmps135
   go_wp2_with fail
   go_ret
   rw [XV.out,HN.out] at HE
   exact ⟨_,rfl,HE.out.1,HE.out.2⟩
theorem Dj (hf:gX o w) (c:Nat) (f:Bool) (t:MD) (tv:Value) (ht:dA o w Nt M t tv):Calls ay 178 #[aj Nt,ah (c:Int),.bool f,tv] w fun e w'=>∃ nv,e = .returned nv/\dA o w' Nt M (.dZ c f t) nv/\Keep none_ w w':=by
 have hc:=iH (o:=o) [([aB Nt],104),([ah (c:Int)],3),([.bool f],4),([tv],88)] w hf
 have HE:Hid (dA o (bT w [([aB Nt],104),([ah (c:Int)],3),([.bool f],4),([tv],88)]) Nt M (.dZ c f t) (.func (.func 214) #[] #[aB w.heap.size,aB (w.heap.size+1),aB (w.heap.size+1+1),aB (w.heap.size+1+1+1)])/\Keep none_ w (bT w [([aB Nt],104),([ah (c:Int)],3),([.bool f],4),([tv],88)])):=⟨⟨tv,ht.still hc.2,⟨_,rfl,hc.1⟩⟩,hc.2⟩
 have hmf:∀ (fn:Fn) (first cap:Array Value) (w:World),(Instr.makeFunc fn first cap).run ay w = .ok (.func fn first cap) w:=fun _ _ _ _=>rfl
 have hform:=ht.form
 clear hc ht hf
 rcases hform with rfl|⟨fn,caps,rfl⟩
 all_goals
  go_enter func178,ntmps178
  go_wp2_with fail
  go_ret
  exact ⟨_,rfl,HE.out.1,HE.out.2⟩
end
def bU (i:Nat):List Nat:=[1,2,3,4,10+i,20+i,30+i]
def aS (o:Ow) (w:World) (G:Geo) (g:MG) (nv0:Value) (i:Nat) (r:oV) (e:Ending) (w':World):Prop :=
 ∃ o' nv,e = .returned nv/\aO w o o'/\aN o' w' G g r.s r.m r.ev nv0/\jH o' w' (G.D 0) (g.Nt,g.M) (30+i) r.next nv/\Keep (In o (bU i)) w w'
theorem kJ (i:Nat):(bU i).contains 0=false:=by simp [bU];omega
section
variable {o:Ow} {w w':World} {G:Geo} {g:MG} {s:Sh} {m:MS} {ev:Option Ev} {nv0:Value}
theorem aN.cl (h:aN o w G g s m ev nv0):1<=m.c.l/\m.c.l<=256:=by
 have h1:=(fP h.sh.heap.table.ok).2.2.2.2.2.1
 rw [<- h.conf] at h1;exact h1
theorem aN.full (h:aN o w G g s m ev nv0):((m.buf.length:Int)==m.c.l)=decide (m.buf.length=m.c.l.toNat):=by
 have:=h.cl
 rw [Bool.eq_iff_iff]
 simp;omega
theorem aN.abQ (h:aN o w G g s m ev nv0):(m.buf.length:Int)<=m.c.l:=h.wG
theorem aN.XW (h:aN o w G g s m ev nv0):dP o w (G.bx m.id) 176 [] (s.box m.id)/\o (G.bx m.id)=10+m.id:=by
 have:=h.sh.box m.id (s.boxes[m.id]'h.ji) (List.getElem?_eq_getElem h.ji)
 unfold Sh.box
 rw [List.getD_eq_getElem?_getD,List.getElem?_eq_getElem h.ji]
 exact this
theorem aS.same {r:oV} {nv:Value} {w':World} {i:Nat} (h:aN o w' G g r.s r.m r.ev nv0) (hc:dA o w' g.Nt g.M r.next nv) (k:Keep (In o (bU i)) w w'):aS o w G g nv0 i r (.returned nv) w':=⟨o,nv,rfl,aO.refl _ _,h,jH.of (g:=(g.Nt,g.M)) hc,k⟩
theorem La (h:aN o w G g s m ev nv0) (k:Keep (only g.Bf) w w'):Keep (In o (bU m.id)) w w':=k.qg h.wF (by simp [bU])
theorem Ij (h:aN o w G g s m ev nv0) (x:Nat) (t:MD) (tv:Value) (ht:dA o w g.Nt g.M t tv) (b0 b1 b2:Nat) (o0:o b0=0) (o1:o b1=0) (o2:o b2=0) (h0:aA w b0 [aB g.Nt] 104) (h1:aA w b1 [ah (x:Int)] 3) (h2:aA w b2 [tv] 88) :
 Calls ay 171 #[aj b0,aj b1,aj b2] w fun e w'=>e = .returned tv/\aN o w' G g (stepM s m (.add x t)).s (stepM s m (.add x t)).m ev nv0/\dA o w' g.Nt g.M t tv/\Keep (In o (bU m.id)) w w':=by
 have c0:w.cell? ⟨b0,0,none⟩=some (aj g.Nt):=h0.cell 0 rfl
 have c1:=h1.cell 0 rfl
 have n1:w.cell? ⟨g.Nt,1,none⟩=some (aj g.Bf):=h.nt.cell 1 rfl
 have hcl:=h.cl
 have abn:=h.wG
 have eX:Hid (Calls ay 172 #[aj g.Bf,ah (x:Int)] w.drew fun e w'=>(∃ r,e = .returned (.bool r))/\aN o w' G g (stepM s m (.add x t)).s (stepM s m (.add x t)).m ev nv0/\dA o w' g.Nt g.M t tv/\Keep (In o (bU m.id)) w w'/\aA w' b2 [tv] 88):=by
  have hd:=h.still (k:=(Keep.refl none_ w).drew)
  have htd:=ht.still (k:=(Keep.refl none_ w).drew)
  have hkd:Keep none_ w w.drew:=(Keep.refl none_ w).drew
  have QU:=h.full
  by_cases hf:m.buf.length=m.c.l.toNat
  ·rw [decide_eq_true hf] at QU
   refine (QM hd.buf x QU).mono ?_
   rintro e w' ⟨rfl,k⟩
   have e1:stepM s m (.add x t)=⟨s,m,t,none⟩:=by simp only [stepM,if_pos hf]
   rw [e1]
   exact ⟨⟨_,rfl⟩,hd.still k,htd.still k,(hkd.trans k).aQ,(hkd.trans k).blk h2 (fun f=>f)⟩
  ·rw [decide_eq_false hf] at QU
   refine (QN hd.buf x QU hd.sh.dU (by omega)).mono ?_
   rintro e w' ⟨rfl,hb,k⟩
   have e1:stepM s m (.add x t)=⟨s,{ m with buf:=m.buf++[x] },t,none⟩:=by simp only [stepM,if_neg hf]
   rw [e1]
   have kk:Keep (In o (bU m.id)) w w':=(hkd.aQ).trans (La hd k)
   have hlen:((m.buf++[x]).length:Int)<=m.c.l:=by
    have h9:=h.abQ
    simp only [List.length_append,List.length_cons,List.length_nil]
    omega
   exact ⟨⟨_,rfl⟩,(hd.EZ k hb hlen).1,ht.aG kk (kJ _),kk,h2.aG kk o2 (kJ _)⟩
 have _:=o0
 have _:=o1
 have hform:=ht.form
 generalize (stepM s m (.add x t)).s=s' at *
 generalize (stepM s m (.add x t)).m=m' at *
 clear h ht o0 o1 o2 h0 h1 h2 hcl abn
 rcases hform with rfl|⟨fn,caps,rfl⟩
 all_goals
  go_enter func171,ntmps171
  go_wp2_with fail
  refine aH 5 rfl (by kernel_rfl) (by kernel_rfl) (fun K hK=>?_)
  change wpStill _ _ (World.drew _) _ _ _
  simp only [List.take_succ_cons,List.take_zero,List.drop_succ_cons,List.drop_zero] at hK ⊢
  repeat still_step
  refine wpStill_nil ?_
  change ite _ (Oper.wp _ _ _ w.drew _ _) _
  go_simp
  refine eX.out.mono ?_
  rintro e w1 ⟨⟨r,rfl⟩,g1,g2,g3,g4⟩
  refine hK _ _ ?_
  clear hK K
  have HR:=au (And.intro g1 (And.intro g2 g3))
  have c2:=g4.cell 0 rfl
  clear g1 g2 g3 g4 c0 c1 n1 eX
  refine wpStill_nil ?_
  go_wp2_with fail
  go_ret
  exact ⟨rfl,HR.out.1,HR.out.2.1,HR.out.2.2⟩
end
end
end Go.Proofs.YtanfphjoebobaaaGreatDoor
