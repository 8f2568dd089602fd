/- Parts of a walk, put together and made shorter by a small program of mine. No conditions but those that each theorem names. -/
import Derived.Test.YtanfphjoebobaaaGreatDoorZzrai
namespace Go.Proofs.YtanfphjoebobaaaGreatDoor
section
abbrev madeH (x:StP):HS:=laidP (HS.new x.c.little x.c.little.b.toNat x.c.little.w.toNat x.c.little.c.toNat) x.sz x.fl x.ce
abbrev madeO (x:StP):List Nat:=(mkAll (HS.new x.c.little x.c.little.b.toNat x.c.little.w.toNat x.c.little.c.toNat) x.sz).objs
structure MadeI (x:StP):Prop where
 idl:Idl x.c.little.m.toNat x.c.little.b.toNat x.c.little.c.toNat 0 (madeP x)
 H:(madeP x).s.H=madeH x
 coll:(madeP x).coll=CS.new x.c.little x.c.little.m.toNat
 regs:∀ (i:Nat) (m:MS),(madeP x).muts[i]?=some m→m.regs.length≤x.c.little.r.toNat
 objs:(madeP x).s.H.objs=madeO x
 ww:(madeP x).s.H.ww=x.c.little.w.toNat
 conf:(madeP x).s.H.c=x.c.little
 dr:drOk (madeP x).coll
 cells:(madeP x).s.H.cells.length=x.c.little.c.toNat
theorem madeP_idl (x:StP) (hr:x.rg.length≤20) (hinv:HInv (madeP x).s.H):MadeI x:=by
 have hb:=ok_bounds (little_okC x.c)
 obtain ⟨g,hd⟩:=madeP_get x hr
 have hH:(madeP x).s.H=madeH x:=by rw [g.s]
 have hR:=laidP_R (HS.new x.c.little x.c.little.b.toNat x.c.little.w.toNat x.c.little.c.toNat) x.sz x.fl x.ce
 have hM:=mkAll_R x.sz (HS.new x.c.little x.c.little.b.toNat x.c.little.w.toNat x.c.little.c.toNat)
 have hHb:(madeP x).s.H.b=x.c.little.b.toNat:=by rw [hH];exact hR.b.trans hM.b
 have hHw:(madeP x).s.H.ww=x.c.little.w.toNat:=by rw [hH];exact hR.ww.trans hM.ww
 have hHn:(madeP x).s.H.bn=(mkAll (HS.new x.c.little x.c.little.b.toNat x.c.little.w.toNat x.c.little.c.toNat) x.sz).bn:=by rw [hH];exact hR.bn
 have hHc:∀ a,(madeP x).s.H.co a=false:=fun a=>by
  rw [hH,hR.co]
  exact hM.co (fun _=>rfl) a
 have hregs:∀ (i:Nat) (m:MS),(madeP x).muts[i]?=some m→m.regs.length=x.c.little.r.toNat:=fun i m hm=>by
  by_cases hi:1≤i
  ·rw [g.oth i m hm hi]
   show (List.replicate x.c.little.r.toNat 0).length=_
   simp
  ·have:i=0:=by omega
   subst this
   exact (g.one m hm).2.2.2.2.2.2.2.2.1
 have hB:BI x.c.little.m.toNat (madeP x).s.B:=by
  rw [g.s]
  refine ⟨rfl,rfl,by omega,fun i hi=>?_⟩
  show (List.replicate 8 false).getD i false=false
  rw [List.getD_eq_getElem?_getD]
  rcases Nat.lt_or_ge i 8 with g|g
  ·rw [List.getElem?_eq_getElem (by simpa using g),List.getElem_replicate];rfl
  ·rw [List.getElem?_eq_none (by simpa using g)];rfl
 have hI:Idl x.c.little.m.toNat x.c.little.b.toNat x.c.little.c.toNat 0 (madeP x):=by
  refine ⟨by decide,by omega,g.len,by rw [g.coll];rfl,?_,by rw [g.coll];rfl,by rw [g.coll];rfl,by rw [g.coll];rfl,hHb.symm,hinv,fun a _=>hHc a,hB,fun i hi=>?_,fun i m hm=>?_,fun i=>?_,by rw [g.coll];rfl,⟨by rw [g.s];rfl,by rw [g.coll];rfl⟩,?_,by rw [g.coll];rfl,by rw [g.coll];rfl⟩
  ·rw [g.s]
   show (List.replicate _ []).length=_
   simp
  ·rw [g.s];exact new_pend _ _ _ _ _ _ i
  ·by_cases hi:1≤i
   ·rw [g.oth i m hm hi]
    exact ⟨rfl,Nat.le_refl _,by show 1≤x.c.little.l.toNat;omega,rfl,rfl,rfl⟩
   ·have:i=0:=by omega
    subst this
    obtain ⟨o1,o2,o3,o4,o5,o6,o7,o9,o10,o8⟩:=g.one m hm
    have hdn:=hd m hm
    unfold doneM at hdn
    rw [Bool.and_eq_true] at hdn
    refine ⟨o1,by have:=of_decide_eq_true hdn.2;omega,by rw [o2];omega,o5,o6,isNil_eq hdn.1⟩
  ·rw [g.s]
   show (List.replicate _ []).getD i []=[]
   rw [List.getD_eq_getElem?_getD]
   rcases Nat.lt_or_ge i x.c.little.m.toNat with g|g
   ·rw [List.getElem?_eq_getElem (by simpa using g),List.getElem_replicate];rfl
   ·rw [List.getElem?_eq_none (by simpa using g)];rfl
  ·rw [g.s]
   refine ⟨fun k=>?_,rfl,rfl⟩
   show ([[],[],[],[]]:List (List Int)).getD k []=[]
   match k with
   | 0=>rfl
   | 1=>rfl
   | 2=>rfl
   | 3=>rfl
   | k+4=>rfl
 refine ⟨hI,hH,g.coll,fun i m hm=>Nat.le_of_eq (hregs i m hm),?_,hHw,?_,?_,?_⟩
 ·unfold HS.objs
  rw [hHn]
  congr 1
  unfold HS.sz
  rw [hHb,hHw,hM.b,hM.ww];rfl
 ·rw [hH,hR.c,hM.c];rfl
 ·rw [g.coll]
  show 0≤_
  exact Nat.zero_le _
 ·rw [hH,hR.cl,hM.cells]
  show (List.replicate _ 0).length=_
  simp
end
section
open Go.RowKit
attribute [local go_sem] Oper.semAt_some
attribute [local go_sem ↓] app9_of
def evF (ev:Option Ev) (fr:List Nat):List Nat:=match ev with
 | some e=>if e.kind=5 then fr++[e.value] else fr
 | none=>fr
def evR (ev:Option Ev):Bool:=match ev with
 | some e=>e.kind==4
 | none=>false
def phN (ph:List Nat) (q:Nat):List Nat:=if q≠ph.getLastD 0 then ph++[q] else ph
def roundW (n:Nat) (x:WS):WS:=pickW (mutsW n x) n
def roundE (n:Nat) (x:WS):Option Ev:=(pickC (mutsW n x).s (mutsW n x).coll).ev
def cycRun (n:Nat):Nat→WS→List Nat→List Nat→List Nat × List Nat × Bool × WS
 | 0,x,fr,ph=>(fr,ph,false,x)
 | f+1,x,fr,ph =>
   if evR (roundE n x) then (evF (roundE n x) fr,phN ph (roundW n x).coll.phase,true,roundW n x)
   else cycRun n f (roundW n x) (evF (roundE n x) fr) (phN ph (roundW n x).coll.phase)
def cycI:List Nat:=[1,2,3,4,5,40,98,99,10,11,12,13,14,15,16,17,20,21,22,23,24,25,26,27,30,31,32,33,34,35,36,37]
theorem stepI_sub:∀ i,i<8→∀ a∈stepI i,a∈cycI:=by decide
theorem collI_sub:∀ a∈collI,a∈cycI:=by decide
def IntsV (i:Nat) (o:Ow) (w:World) (v:Value) (l:List Nat):Prop:=w.ownsRow 0 3 1 v l.length (tabV l)∧∀ b,v.ownBlock=some b→o b=i
structure CX (W0:World) (o0:Ow) (W:World) (o:Ow):Prop where
 e:OExt W0 o0 o
 k:Keep (In o0 cycI) W0 W
section
variable {o o' o0:Ow} {w w' W W' W0:World} {G:Geo} {gs:List MG} {q:CG} {x y:WS} {v:Value} {N i n:Nat} {l:List Nat} {I:List Nat}
theorem CX.refl (W:World) (o:Ow):CX W o W o:=⟨OExt.refl _ _,Keep.refl _ _⟩
theorem CX.step (h:CX W0 o0 W o) (k:Keep (In o I) W W') (e:OExt W o o') (hI:∀ a∈I,a∈cycI):CX W0 o0 W' o' :=
 ⟨h.e.trans h.k.size e,h.k.transO ((k.mono (fun b _ hb=>hI _ hb)):Keep (In o cycI) W W') h.e⟩
theorem IntsV.keep (h:IntsV i o W v l) (k:Keep (In o I) W W') (hI:I.contains i=false) (e:OExt W o o'):IntsV i o' W' v l:=by
 refine ⟨own_keep h.1 k (fun b hb=>not_in' (h.2 b hb) hI),fun b hb=>?_⟩
 obtain ⟨cur,hc⟩:=own_cells h.1 hb
 exact (e b (lt_of_block hc)).trans (h.2 b hb)
theorem IntsV.form (h:IntsV i o W v l):∃ a c,v = .slice a l.length c∧∀ (j:Nat) u,l[j]?=some u→∃ b,a=some ⟨b,0,none⟩∧W.cell? ⟨b,j,none⟩=some (.int .i64 (u:Int)):=by
 obtain ⟨a,c,rfl,_,_,_,hc⟩:=own_form h.1
 refine ⟨a,c,rfl,fun j u hj=>?_⟩
 obtain ⟨b,e,hb,_⟩:=hc j (.int .i64 (u:Int)) (by unfold tabV;rw [List.getElem?_map,hj];rfl)
 exact ⟨b,e,hb⟩
theorem IntsV.nil (i:Nat) (o:Ow) (W:World):IntsV i o W (.slice none 0 0) []:=⟨⟨rfl,.inl ⟨rfl,rfl⟩⟩,fun b hb=>by cases hb⟩
theorem CW.own (h:CW w W o G gs q x) (k:Keep none_ W W') (hN:W.heap.size≤N) (hN2:N<W'.heap.size) (i:Nat):CW w W' (o.put N i) G gs q x∧OExt W o (o.put N i):=by
 have e:OExt W o (o.put N i):=Ow.put_ext (.inl hN)
 exact ⟨h.moveE (I:=[]) k.noneO rfl e (Ow.put_fut h.coll.sh.fut k.size hN2),e⟩
theorem own_of_blk {cs:List Value} {T:TypeId} (hb:Blk W N cs T) (h0:cs.length≤1000):W.ownsRow 0 T 1 (.slice (some ⟨N,0,none⟩) cs.length cs.length) cs.length cs:=by
 refine ⟨by simp,.inr ⟨N,cs.length,cs.toArray,rfl,Nat.zero_le _,hb,Nat.le_refl _,?_,by simp,by simp⟩⟩
 have:maxLen=9223372036854775807:=rfl
 omega
theorem IntsV.new (o:Ow) (i u N:Nat) (hb:Blk W N [.int .i64 (u:Int)] 3):IntsV i (o.put N i) W (.slice (some ⟨N,0,none⟩) 1 1) [u]:=by
 refine ⟨own_of_blk hb (by show 1≤1000;omega),fun b hb=>?_⟩
 simp [Value.ownBlock] at hb
 rw [← hb]
 exact Ow.put_same _ _ _
theorem IntsV.grow (h:IntsV i o W v l) (hc:CW w W o G gs q x) (hi:50≤i) {N u:Nat} (hN:W.cell? ⟨N,0,none⟩=some (.int .i64 (u:Int))) (hl:l.length≤100000000000):∃ b cap W5,(app9 #[32,32] 32 #[v,.slice (some ⟨N,0,none⟩) 1 1]).run Tryz.prog W = .ok (.slice (some ⟨b,0,none⟩) (l.length+1) cap) W5 ∧
 ∃ o',OExt W o o'∧CW w W5 o' G gs q x∧IntsV i o' W5 (.slice (some ⟨b,0,none⟩) (l.length+1) cap) (l++[u])∧Keep (In o [i]) W W5:=by
 obtain ⟨b,cap,W5,hrun,hown,hgr,hq⟩:=app_where (P:=Tryz.prog) W 32 32 3 (by kernel_rfl) Tryz.infoInt rfl h.1 (N:=N) (u := .int .i64 (u:Int)) hN rfl (by decide) (by omega)
 have k:Keep (In o [i]) W W5:=⟨hgr.os,hgr.tape,hgr.output,hgr.size,fun y hy hn=>hgr.block y hy (fun e=>hn (by
  have e':v.ownBlock=some y:=by first|exact e|exact e.symm
  unfold In
  rw [h.2 y e']
  simp))⟩
 have e:OExt W o (o.put b i):=by
  rcases hq with hq|hq
  ·exact Ow.put_ext (.inr (h.2 b hq))
  ·exact Ow.put_ext (.inl hq)
 have hlt:b<W5.heap.size:=by
  rcases hown.2 with ⟨e1,_⟩|⟨g',cap',cur,e1,_,hg',_⟩
  ·cases e1
  ·cases e1;exact lt_of_block hg'
 have hf:Fut (o.put b i) W5:=Ow.put_fut hc.coll.sh.fut k.size hlt
 have hall:[i].all (fun i=>decide (50≤i))=true:=by simp;exact hi
 refine ⟨b,cap,W5,hrun,o.put b i,e,hc.moveE k hall e hf,⟨?_,fun b' hb'=>?_⟩,k⟩
 ·have e3:tabV (l++[u])=tabV l++[.int .i64 (u:Int)]:=by unfold tabV;simp
  rw [e3,List.length_append]
  exact hown
 ·simp [Value.ownBlock] at hb'
  rw [← hb']
  exact Ow.put_same _ _ _
theorem mutsW_len (n:Nat) (x:WS):(mutsW n x).muts.length=x.muts.length:=by
 induction n with
 | zero=>rfl
 | succ n ih =>
   rw [← ih]
   show (pickW (mutsW n x) n).muts.length=_
   unfold pickW
   cases hm:(mutsW n x).muts[n]? with
   | some m =>
     simp only
     rw [(WS.tell_s _ _).2.1]
     simp
   | none =>
     simp only
     split
     ·rw [(WS.tell_s _ _).2.1]
     ·rw [(WS.tell_s _ _).2.1]
end
end
end Go.Proofs.YtanfphjoebobaaaGreatDoor
