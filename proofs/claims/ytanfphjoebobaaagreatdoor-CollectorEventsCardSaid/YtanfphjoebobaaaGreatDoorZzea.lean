/- Parts of the walk. No conditions. -/
import Derived.Test.YtanfphjoebobaaaGreatDoorRows
import Derived.Lib.LaidTab
import Derived.OpenShut
import Derived.MakeChecks
import Derived.Stop.LaidErr
import Derived.Deep.Slices
import Derived.WalkSpells
import Derived.WalkLawsBesides
import Derived.BigQuiet
import Derived.StillTailTactics
import Derived.Lib.QuietBelowIn
import Derived.OwnWalkIn
import Derived.Deep.LoopGhost
import Derived.Test.YtanfphjoebobaaaGreatDoorZze0
namespace Go.Proofs.YtanfphjoebobaaaGreatDoor
open _root_.Go.Proofs.Tryz hiding prog
open _root_.Go.Proofs.Tryz renaming prog->ay
set_option maxRecDepth 4000
set_option maxHeartbeats 4000000
section
open Go.RowKit
def aA (w:World) (B:Nat) (cs:List Value) (T:TypeId):Prop:=w.heap[B]?=some (.cells cs.toArray T (0,0))
theorem aA.cell {w B cs T} (h:aA w B cs T) (i:Nat) {v:Value} (hi:cs[i]?=some v):w.cell? ⟨B,i,none⟩=some v:=by
 unfold aA at h
 simp [World.cell?,h,hi]
theorem aA.free {w B cs T} (h:aA w B cs T) (i:Nat):w.frozen? ⟨B,i,none⟩=false:=by
 unfold aA at h
 simp [World.frozen?,h]
theorem aA.lt {w B cs T} (h:aA w B cs T):B<w.heap.size:=lt_of_block h
theorem aA.set {w B cs T} (h:aA w B cs T) (i:Nat) (v:Value):aA (w.setCell ⟨B,i,none⟩ v) B (cs.set i v) T:=by
 have hlt:=h.lt
 unfold aA at h
 have h':w.heap[B] = .cells cs.toArray T (0,0):=by simpa [Array.getElem?_eq_getElem hlt] using h
 show (w.heap.modify B _)[B]?=_
 rw [Array.getElem?_eq_getElem (by simpa using hlt),Array.getElem_modify_self,h']
 simp
theorem aA.other {w B cs T} (h:aA w B cs T) {a:Addr} (ha:B≠a.block) (v:Value):aA (w.setCell a v) B cs T:=by
 unfold aA at *
 rw [Below.heap_setCell _ _ _ _ ha];exact h
theorem aA.alloc {w B cs T} (h:aA w B cs T) (o:Obj):aA (w.alloc o) B cs T:=by
 have hlt:=h.lt
 unfold aA at *
 rw [Below.heap_alloc _ _ _ hlt];exact h
theorem aA.drew {w B cs T} (h:aA w B cs T):aA w.drew B cs T:=h
theorem aA.new (w:World) (cs:List Value) (T:TypeId):aA (w.alloc (.cells cs.toArray T)) w.heap.size cs T:=by
 show (w.heap.push _)[w.heap.size]?=_
 simp
theorem aA.uniq {w B cs cs' T T'} (h:aA w B cs T) (h':aA w B cs' T'):cs=cs'/\T=T':=by
 unfold aA at *
 rw [h] at h'
 simp at h';exact h'
structure Keep (S:Nat->Prop) (w w':World):Prop where
 os:w'.os=w.os
 tape:w'.tape=w.tape
 output:w'.output=w.output
 size:w.heap.size<=w'.heap.size
 block:∀ k,k<w.heap.size->¬ S k->w'.heap[k]?=w.heap[k]?
theorem Keep.refl (S:Nat->Prop) (w:World):Keep S w w:=⟨rfl,rfl,rfl,Nat.le_refl _,fun _ _ _=>rfl⟩
theorem Keep.trans {S:Nat->Prop} {a b c:World} (h:Keep S a b) (k:Keep S b c):Keep S a c :=
 ⟨k.os.trans h.os,k.tape.trans h.tape,k.output.trans h.output,Nat.le_trans h.size k.size,fun i hi hs=>(k.block i (Nat.lt_of_lt_of_le hi h.size) hs).trans (h.block i hi hs)⟩
theorem Keep.trans' {S T:Nat->Prop} {a b c:World} (h:Keep S a b) (k:Keep T b c) (hs:∀ i,i<a.heap.size->T i->S i):Keep S a c :=
 ⟨k.os.trans h.os,k.tape.trans h.tape,k.output.trans h.output,Nat.le_trans h.size k.size,fun i hi n=>(k.block i (Nat.lt_of_lt_of_le hi h.size) (fun t=>n (hs i hi t))).trans (h.block i hi n)⟩
theorem Keep.mono {S T:Nat->Prop} {a b:World} (h:Keep S a b) (hs:∀ i,i<a.heap.size->S i->T i):Keep T a b :=
 ⟨h.os,h.tape,h.output,h.size,fun i hi n=>h.block i hi (fun s=>n (hs i hi s))⟩
theorem Keep.setCell {S:Nat->Prop} {a w:World} (h:Keep S a w) {p:Addr} (hp:p.block<a.heap.size->S p.block) (u:Value):Keep S a (w.setCell p u) :=
 h.trans' (T:=fun i=>i=p.block) ⟨rfl,rfl,rfl,by simp [World.setCell],fun k _ n=>Below.heap_setCell _ _ _ _ n⟩ (fun i hi e=>by subst e;exact hp hi)
theorem Keep.alloc {S:Nat->Prop} {a w:World} (h:Keep S a w) (o:Obj):Keep S a (w.alloc o) :=
 h.trans ⟨rfl,rfl,rfl,by simp,fun k hk _=>Below.heap_alloc _ _ _ hk⟩
theorem Keep.drew {S:Nat->Prop} {a w:World} (h:Keep S a w):Keep S a w.drew:=⟨h.os,h.tape,h.output,h.size,h.block⟩
theorem Keep.drewN {S:Nat->Prop} {a w:World} (h:Keep S a w) (n:Nat):Keep S a (w.drewN n):=⟨h.os,h.tape,h.output,h.size,h.block⟩
theorem Keep.blk {S:Nat->Prop} {w w':World} (h:Keep S w w') {B cs T} (hb:aA w B cs T) (hs:¬ S B):aA w' B cs T:=by
 have hlt:=hb.lt
 unfold aA at *
 rw [h.block B hlt hs];exact hb
theorem Keep.cell {S:Nat->Prop} {w w':World} (h:Keep S w w') {p:Addr} (hp:p.block<w.heap.size) (hs:¬ S p.block):w'.cell? p=w.cell? p:=World.cell?_of_block (w:=w) (h.block p.block hp hs)
theorem Keep.jM {S:Nat->Prop} {w w':World} (h:Keep S w w') {p:Addr} {v:Value} (hc:w.cell? p=some v) (hs:¬ S p.block):w'.cell? p=some v:=by
 rw [h.cell (World.block_lt_of_cell? _ _ hc) hs];exact hc
theorem Keep.frozen {S:Nat->Prop} {w w':World} (h:Keep S w w') {p:Addr} (hp:p.block<w.heap.size) (hs:¬ S p.block):w'.frozen? p=w.frozen? p:=World.frozen?_of_block (w:=w) (h.block p.block hp hs)
theorem Keep.PE {w w':World} (h:Below w.heap.size w w') (S:Nat->Prop):Keep S w w':=⟨h.os,h.tape,h.output,h.size,fun k hk _=>h.block k hk⟩
theorem Keep.toBelow {w w':World} (h:Keep (fun _=>False) w w'):Below w.heap.size w w':=⟨h.os,h.tape,h.output,h.size,fun k hk=>h.block k hk (fun f=>f)⟩
def only (B:Nat):Nat->Prop:=fun i=>i=B
def none_:Nat->Prop:=fun _=>False
theorem Keep.still {w w':World} (h:Keep none_ w w') {p:Addr} {v:Value} (hc:w.cell? p=some v):w'.cell? p=some v:=h.jM hc (fun f=>f)
theorem Keep.QH {w0 w w':World} {B:Nat} (h:Keep none_ w0 w) (k:Keep (only B) w w') (hB:w0.heap.size<=B):Keep none_ w0 w':=h.trans' k (fun i hi e=>by unfold only at e;omega)
theorem Keep.put {w0 w:World} {B:Nat} (h:Keep (only B) w0 w) (i:Nat) (v:Value):Keep (only B) w0 (w.setCell ⟨B,i,none⟩ v):=h.setCell (p:=⟨B,i,none⟩) (fun _=>rfl) v
theorem Keep.eP {S:Nat->Prop} {w0 w:World} {B:Nat} (h:Keep S w0 w) (hB:w0.heap.size<=B) (i:Nat) (v:Value):Keep S w0 (w.setCell ⟨B,i,none⟩ v):=h.setCell (p:=⟨B,i,none⟩) (fun hl=>absurd hl (by simp;omega)) v
section
variable {H:Type} {enc:TypeId × Value->H} {P:Program} {w:World} {base:Nat} {sp:Nat->Bool} {held:Bool}
theorem xu {fuel n s:Nat} {t e:TypeId} {cs:List Value} {ds:List (DataW H)} {p:List MemPlace} (ht:P.underlying t=some (.array n e)) (hc:P.cellsOf e=s) (hct:P.cellsOf t=n*s)
 (h:DataW.trod enc P w base sp held fuel t cs=some (.agg ds,p)):cs.length=n*s/\ds.length=n/\∃ m,∀ i d,ds[i]?=some d->∃ q,DataW.trod enc P w base sp held m e ((cs.drop (i*s)).take s)=some (d,q):=by
 obtain ⟨xs,m,rfl,hx,hl,hn,hel⟩:=DataW.trod_array ht h
 simp only [Prod.mk.injEq,DataW.agg.injEq] at hx
 obtain ⟨rfl,_⟩:=hx
 refine ⟨by rw [hl,hct],by simpa using hn,m,fun i d hd=>?_⟩
 rw [List.getElem?_map,Option.map_eq_some_iff] at hd
 obtain ⟨x,hx,rfl⟩:=hd
 have hi:i<n:=by rw [<- hn];exact (List.getElem?_eq_some_iff.1 hx).1
 have:=hel i hi
 rw [hc,hx] at this
 exact ⟨x.2,this⟩
theorem nU {fuel:Nat} {t e:TypeId} {k:IntKind} {cs:List Value} {a b:Int} {p:List MemPlace} (ht:P.underlying t=some (.array 2 e)) (he:P.underlying e=some (.int k)) (hce:P.cellsOf e=1) (hct:P.cellsOf t=2)
 (h:DataW.trod enc P w base sp held fuel t cs=some (.agg [.lit (.int k a),.lit (.int k b)],p)):cs=[.int k a,.int k b] :=
 Lib.cells_of_tab (zs:=[a,b]) ht he hce hct h
theorem PG {fuel:Nat} {e:TypeId} {cs:List Value} {a:List UInt8} {p:List MemPlace} (he:P.underlying e=some .string) (h:DataW.trod enc P w base sp held fuel e cs=some (.lit (.string a),p)):cs=[.string ⟨a.toArray⟩]:=by
 obtain ⟨s,rfl,hx,_⟩:=DataW.trod_string he h
 simp only [Prod.mk.injEq,DataW.lit.injEq,Lit.string.injEq] at hx
 obtain ⟨rfl,_⟩:=hx
 simp
theorem mJ {fuel:Nat} {t e:TypeId} {cs:List Value} {a b:List UInt8} {p:List MemPlace} (ht:P.underlying t=some (.array 2 e)) (he:P.underlying e=some .string) (hce:P.cellsOf e=1) (hct:P.cellsOf t=2)
 (h:DataW.trod enc P w base sp held fuel t cs=some (.agg [.lit (.string a),.lit (.string b)],p)):cs=[.string ⟨a.toArray⟩,.string ⟨b.toArray⟩]:=by
 obtain ⟨hl,_,m,hel⟩:=xu (s:=1) ht hce (by rw [hct]) h
 obtain ⟨q,h0⟩:=hel 0 _ rfl
 obtain ⟨q',h1⟩:=hel 1 _ rfl
 have e0:=PG he h0
 have e1:=PG he h1
 match cs,hl with
 | [x,y],_ =>
   simp at e0 e1
   rw [e0,e1]
end
def QI:List Int:=[1,4096,16,256,1,8,1,64,0,64,1,256,1,4096]
def rG:List (List UInt8):=[[],[],[97,108,108,111,99],[114,115],[108,111,97,100],[114,114,102],[115,116,111,114,101],[114,102,114],[103,101,116],[114,99],[115,101,116],[99,114],[100,114,111,112],[114],[109,111,118,101],[114,114],[115,97,102,101],[]]
structure Tabs (w:World):Prop where
 lim:∀ i r,QI[i]?=some r->w.cell? ⟨3,i,none⟩=some (ah r)
 kind:∀ i s,rG[i]?=some s->w.cell? ⟨4,i,none⟩=some (.string ⟨s.toArray⟩)
theorem Tabs.keep {w w':World} (h:Tabs w) (k:Keep none_ w w'):Tabs w':=⟨fun i r hr=>k.still (h.lim i r hr),fun i s hs=>k.still (h.kind i s hs)⟩
theorem Tryz.tabU1:ay.underlying 250=some (.array 7 106):=by kernel_rfl
theorem Tryz.tabU2:ay.underlying 106=some (.array 2 3):=by kernel_rfl
theorem Tryz.tabU3:ay.underlying 255=some (.array 9 254):=by kernel_rfl
theorem Tryz.tabU4:ay.underlying 254=some (.array 2 9):=by kernel_rfl
theorem Tryz.tabU5:ay.underlying 9=some .string:=by kernel_rfl
theorem Tryz.tabU6:ay.underlying 3=some (.int .i64):=by kernel_rfl
theorem aaE {rest : List (String × DataW Unit)} {w : World} (h : laidMet ay (("dustpan/config.limits", Rows.laid_dustpan_config_limits) :: rest) w) : ∀ i r, QI[i]? = some r -> w.cell? ⟨3, i, none⟩ = some (ah r) := by
 ·obtain ⟨ps,⟨g,t,cs,fuel,p,q,hg,ht,hvar,hd,_,_⟩,_⟩:=h
  obtain rfl : 3 = g := Option.some.inj ((show ay.globalNamed "dustpan/config.limits" = some 3 by kernel_rfl).symm.trans hg)
  obtain rfl:250=t:=Option.some.inj ((show (ay.globals[3]?).map (·.type)=some 250 by kernel_rfl).symm.trans ht)
  obtain ⟨cs,rfl⟩:∃ l:List Value,cs=l.toArray:=⟨cs.toList,by simp⟩
  obtain ⟨hl,_,m,hel⟩:=xu (s:=2) Tryz.tabU1 (by kernel_rfl) (by kernel_rfl) hd
  have key:cs=QI.map (Value.int .i64):=by
   obtain ⟨q0,h0⟩:=hel 0 _ rfl
   obtain ⟨q1,h1⟩:=hel 1 _ rfl
   obtain ⟨q2,h2⟩:=hel 2 _ rfl
   obtain ⟨q3,h3⟩:=hel 3 _ rfl
   obtain ⟨q4,h4⟩:=hel 4 _ rfl
   obtain ⟨q5,h5⟩:=hel 5 _ rfl
   obtain ⟨q6,h6⟩:=hel 6 _ rfl
   have e0:=nU Tryz.tabU2 Tryz.tabU6 (by kernel_rfl) (by kernel_rfl) h0
   have e1:=nU Tryz.tabU2 Tryz.tabU6 (by kernel_rfl) (by kernel_rfl) h1
   have e2:=nU Tryz.tabU2 Tryz.tabU6 (by kernel_rfl) (by kernel_rfl) h2
   have e3:=nU Tryz.tabU2 Tryz.tabU6 (by kernel_rfl) (by kernel_rfl) h3
   have e4:=nU Tryz.tabU2 Tryz.tabU6 (by kernel_rfl) (by kernel_rfl) h4
   have e5:=nU Tryz.tabU2 Tryz.tabU6 (by kernel_rfl) (by kernel_rfl) h5
   have e6:=nU Tryz.tabU2 Tryz.tabU6 (by kernel_rfl) (by kernel_rfl) h6
   clear h0 h1 h2 h3 h4 h5 h6 hel hd hvar
   match cs,hl with
   | [a0,a1,a2,a3,a4,a5,a6,a7,a8,a9,a10,a11,a12,a13],_ =>
     simp at e0 e1 e2 e3 e4 e5 e6
     simp [QI,e0,e1,e2,e3,e4,e5,e6]
  intro i r hr
  rw [World.var?_cell (P:=ay) hg hvar i,key]
  simp [hr]
theorem ZB {rest : List (String × DataW Unit)} {w : World} (h2 : laidMet ay (("dustpan/op.kinds", Rows.laid_dustpan_op_kinds) :: rest) w) : ∀ i s, rG[i]? = some s -> w.cell? ⟨4, i, none⟩ = some (.string ⟨s.toArray⟩) := by
 ·obtain ⟨ps,⟨g,t,cs,fuel,p,q,hg,ht,hvar,hd,_,_⟩,_⟩:=h2
  obtain rfl : 4 = g := Option.some.inj ((show ay.globalNamed "dustpan/op.kinds" = some 4 by kernel_rfl).symm.trans hg)
  obtain rfl:255=t:=Option.some.inj ((show (ay.globals[4]?).map (·.type)=some 255 by kernel_rfl).symm.trans ht)
  obtain ⟨cs,rfl⟩:∃ l:List Value,cs=l.toArray:=⟨cs.toList,by simp⟩
  obtain ⟨hl,_,m,hel⟩:=xu (s:=2) Tryz.tabU3 (by kernel_rfl) (by kernel_rfl) hd
  have key:cs=rG.map (fun s=>Value.string ⟨s.toArray⟩):=by
   obtain ⟨q0,h0⟩:=hel 0 _ rfl
   obtain ⟨q1,h1⟩:=hel 1 _ rfl
   obtain ⟨q2,h2⟩:=hel 2 _ rfl
   obtain ⟨q3,h3⟩:=hel 3 _ rfl
   obtain ⟨q4,h4⟩:=hel 4 _ rfl
   obtain ⟨q5,h5⟩:=hel 5 _ rfl
   obtain ⟨q6,h6⟩:=hel 6 _ rfl
   obtain ⟨q7,h7⟩:=hel 7 _ rfl
   obtain ⟨q8,h8⟩:=hel 8 _ rfl
   have e0:=mJ Tryz.tabU4 Tryz.tabU5 (by kernel_rfl) (by kernel_rfl) h0
   have e1:=mJ Tryz.tabU4 Tryz.tabU5 (by kernel_rfl) (by kernel_rfl) h1
   have e2:=mJ Tryz.tabU4 Tryz.tabU5 (by kernel_rfl) (by kernel_rfl) h2
   have e3:=mJ Tryz.tabU4 Tryz.tabU5 (by kernel_rfl) (by kernel_rfl) h3
   have e4:=mJ Tryz.tabU4 Tryz.tabU5 (by kernel_rfl) (by kernel_rfl) h4
   have e5:=mJ Tryz.tabU4 Tryz.tabU5 (by kernel_rfl) (by kernel_rfl) h5
   have e6:=mJ Tryz.tabU4 Tryz.tabU5 (by kernel_rfl) (by kernel_rfl) h6
   have e7:=mJ Tryz.tabU4 Tryz.tabU5 (by kernel_rfl) (by kernel_rfl) h7
   have e8:=mJ Tryz.tabU4 Tryz.tabU5 (by kernel_rfl) (by kernel_rfl) h8
   clear h0 h1 h2 h3 h4 h5 h6 h7 h8 hel hd hvar
   match cs,hl with
   | [a0,a1,a2,a3,a4,a5,a6,a7,a8,a9,a10,a11,a12,a13,a14,a15,a16,a17],_ =>
     simp at e0 e1 e2 e3 e4 e5 e6 e7 e8
     simp [rG,e0,e1,e2,e3,e4,e5,e6,e7,e8]
  intro i s hs
  rw [World.var?_cell (P:=ay) hg hvar i,key]
  simp [hs]
end
section
open Go.RowKit Go.ChangeShapes Go.WideShapes Go.Deep
structure fU (k:IntKind) (w:World) (a:Option Addr) (n:Nat) (zs:List Int):Prop where
 len:zs.length=n
 at_:0<n->∃ b off,a=some ⟨b,off,none⟩/\∀ j,j<n->w.cell? ⟨b,off+j,none⟩=some (.int k (zs.getD j 0))
structure Ints (k:IntKind) (w:World) (a:Option Addr) (n:Nat) (zs:List Int):Prop where
 len:zs.length=n
 at_:0<n->∃ b off,a=some ⟨b,off,none⟩/\∀ j,j<n->w.cell? ⟨b,off+j,none⟩=some (.int k (zs.getD j 0))
 wf:∀ z∈zs,(Lit.int k z).wf=true
theorem Ints.cells {k:IntKind} {w:World} {a:Option Addr} {n:Nat} {zs:List Int} (h:Ints k w a n zs):fU k w a n zs:=⟨h.len,h.at_⟩
theorem Ints.ofRow {k:IntKind} {w:World} {x:Addr} {len cap:Nat} {zs:List Int} (hl:len<=cap) (hz:zs.length=cap)
 (hc:∀ i,i<zs.length->w.cell? (x.add i)=some (.int k (zs.getD i 0))) (hw:∀ n∈zs,(Lit.int k n).wf=true):Ints k w (some x) len (zs.take len):=by
 refine ⟨by simp;omega,fun h0=>?_,fun z h=>hw z (List.mem_of_mem_take h)⟩
 obtain ⟨b,off,rfl,h⟩:=ints_at hc (by omega)
 refine ⟨b,off,rfl,fun j hj=>?_⟩
 rw [h j (by omega)]
 simp [List.getD_eq_getElem?_getD,hj]
theorem fU.below {k:IntKind} {w w':World} {a:Option Addr} {n:Nat} {zs:List Int} (h:fU k w a n zs) (hb:Keep none_ w w'):fU k w' a n zs:=by
 refine ⟨h.len,fun h0=>?_⟩
 obtain ⟨b,off,e,hc⟩:=h.at_ h0
 exact ⟨b,off,e,fun j hj=>hb.still (hc j hj)⟩
theorem Ints.bound {k:IntKind} {w:World} {a:Option Addr} {n:Nat} {zs:List Int} (h:Ints k w a n zs) (j:Nat) (hj:j<n):(Lit.int k (zs.getD j 0)).wf=true:=by
 have hl:=h.len
 have:zs.getD j 0∈zs:=by
  rw [List.getD_eq_getElem?_getD,List.getElem?_eq_getElem (by omega)]
  exact List.getElem_mem _
 exact h.wf _ this
inductive Leaf where
 | int (k:IntKind)
 | bool
 | string
def oz (fl:TypeId->Option (List Leaf)) (c:TypeId->Nat):List Field->Nat->Option (List Leaf)
 | [],_=>some []
 | f::r,off=>match fl f.type with
   | none=>none
   | some ks=>if f.offset=off/\c f.type=ks.length then (match oz fl c r (off+ks.length) with|none=>none|some rest=>some (ks++rest)) else none
def flat (P:Program):Nat->TypeId->Option (List Leaf)
 | 0,_=>none
 | n+1,t=>match P.underlying t with
   | some (.int k)=>some [.int k]
   | some .bool=>some [.bool]
   | some .string=>some [.string]
   | some (.struct fs)=>match oz (flat P n) P.cellsOf fs.toList 0 with
     | none=>none
     | some ks=>if P.cellsOf t=ks.length then some ks else none
   | some (.array m e)=>match flat P n e with
     | none=>none
     | some ks=>if P.cellsOf e=ks.length/\P.cellsOf t=m*ks.length then some (List.replicate m ks).flatten else none
   | _=>none
def Ub:Leaf->Value->Prop
 | .int k,v=>∃ n,v = .int k n/\(Lit.int k n).wf=true
 | .bool,v=>∃ b,v = .bool b
 | .string,v=>∃ s:ByteArray,v = .string s/\s.size<=maxLen
structure jS (ks:List Leaf) (cs:List Value):Prop where
 len:cs.length=ks.length
 at_:∀ (i:Nat) (k:Leaf),ks[i]?=some k->∃ v,cs[i]?=some v/\Ub k v
theorem jS.nil:jS [] []:=⟨rfl,fun i k h=>by simp at h⟩
theorem jS.one {k:Leaf} {v:Value} (h:Ub k v):jS [k] [v]:=⟨rfl,fun i k' h'=>by
 cases i with
 | zero=>simp at h';subst h';exact ⟨v,rfl,h⟩
 | succ i=>simp at h'⟩
theorem jS.append {ks ks':List Leaf} {cs cs':List Value} (h:jS ks cs) (h':jS ks' cs'):jS (ks++ks') (cs++cs'):=by
 have hl:=h.len
 refine ⟨by simp [h.len,h'.len],fun i k hk=>?_⟩
 rcases Nat.lt_or_ge i ks.length with hi|hi
 ·rw [List.getElem?_append_left hi] at hk
  rw [List.getElem?_append_left (by omega)]
  exact h.at_ i k hk
 ·rw [List.getElem?_append_right hi] at hk
  rw [List.getElem?_append_right (by omega),hl]
  exact h'.at_ _ k hk
section
variable {H:Type} {enc:TypeId × Value->H} {P:Program} {w:World} {base:Nat} {spare:Nat->Bool} {held:Bool}
theorem JQ (m:Nat) (n:Nat) (cs:List Value)
 (ih:∀ (t:TypeId) (cs:List Value) (x:DataW H × List MemPlace) (ks:List Leaf),DataW.trod enc P w base spare held n t cs=some x->flat P m t=some ks->jS ks cs) :
 ∀ (fs:List Field) (off:Nat) (ks:List Leaf),oz (flat P m) P.cellsOf fs off=some ks ->
  (∀ f∈fs,∃ x,DataW.trod enc P w base spare held n f.type ((cs.drop f.offset).take (P.cellsOf f.type))=some x)->jS ks ((cs.drop off).take ks.length):=by
 intro fs
 induction fs with
 | nil =>
   intro off ks h _
   simp [oz] at h
   subst h
   simpa using jS.nil
 | cons f r ihr =>
   intro off ks h hx
   unfold oz at h
   cases h1:flat P m f.type with
   | none=>simp [h1] at h
   | some k1 =>
     simp only [h1] at h
     split at h
     ·rename_i hc
      obtain ⟨ho,hl⟩:=hc
      cases h2:oz (flat P m) P.cellsOf r (off+k1.length) with
      | none=>simp [h2] at h
      | some k2 =>
        simp only [h2,Option.some.injEq] at h
        subst h
        obtain ⟨x,ht⟩:=hx f (by simp)
        rw [ho,hl] at ht
        have a1:=ih _ _ _ _ ht h1
        have a2:=ihr _ _ h2 (fun g hg=>hx g (by simp [hg]))
        have:=a1.append a2
        rw [<- List.drop_drop,<- List.take_add] at this
        simpa using this
     ·cases h
theorem ZC:∀ (m n:Nat) (t:TypeId) (cs:List Value) (x:DataW H × List MemPlace) (ks:List Leaf),DataW.trod enc P w base spare held n t cs=some x->flat P m t=some ks->jS ks cs:=by
 intro m
 induction m with
 | zero=>intro n t cs x ks _ h;simp [flat] at h
 | succ m ihm =>
   intro n t cs x ks hx h
   unfold flat at h
   cases hu:P.underlying t with
   | none=>simp [hu] at h
   | some d =>
     rw [hu] at h
     cases d with
     | int k =>
       simp at h;subst h
       obtain ⟨q,rfl,_,hq⟩:=DataW.trod_int hu hx
       exact jS.one ⟨q,rfl,hq⟩
     | bool =>
       simp at h;subst h
       obtain ⟨q,rfl,_⟩:=DataW.trod_bool hu hx
       exact jS.one ⟨q,rfl⟩
     | string =>
       simp at h;subst h
       obtain ⟨q,rfl,_,hq⟩:=DataW.trod_string hu hx
       exact jS.one ⟨q,rfl,hq⟩
     | struct fs =>
       simp only at h
       cases uS:oz (flat P m) P.cellsOf fs.toList 0 with
       | none=>simp [uS] at h
       | some ks' =>
         simp only [uS] at h
         split at h
         ·rename_i hcl
          simp only [Option.some.injEq] at h
          subst h
          obtain ⟨xs,n',rfl,_,hl,hxl,hf⟩:=DataW.trod_struct hu hx
          have:=JQ m n' cs (fun t cs x ks a b=>ihm n' t cs x ks a b) fs.toList 0 ks' uS (fun f hm=>by
           obtain ⟨i,hi⟩:=List.mem_iff_getElem?.1 hm
           have hi':fs[i]?=some f:=by simpa using hi
           have hlt:i<xs.length:=by rw [hxl];exact (Array.getElem?_eq_some_iff.1 hi').1
           exact ⟨xs[i],by rw [hf i f hi',List.getElem?_eq_getElem hlt]⟩)
          have e:(cs.drop 0).take ks'.length=cs:=by rw [List.drop_zero,List.take_of_length_le (by omega)]
          rw [e] at this
          exact this
         ·cases h
     | array q e =>
       simp only at h
       cases uS:flat P m e with
       | none=>simp [uS] at h
       | some ks' =>
         simp only [uS] at h
         split at h
         ·rename_i hcl
          obtain ⟨hce,hct⟩:=hcl
          simp only [Option.some.injEq] at h
          subst h
          obtain ⟨xs,n',rfl,_,hl,hxl,hf⟩:=DataW.trod_array hu hx
          have key:∀ j,j<=q->jS (List.replicate j ks').flatten (cs.take (j*ks'.length)):=by
           intro j
           induction j with
           | zero=>intro _;simpa using jS.nil
           | succ j ihj =>
             intro hj
             have a1:=ihj (by omega)
             have a2:=ihm n' e _ xs[j] ks' (by rw [hf j (by omega),List.getElem?_eq_getElem (by omega)]) uS
             rw [hce] at a2
             rw [List.replicate_succ',List.flatten_append,Nat.succ_mul,List.take_add]
             simpa using a1.append a2
          have:=key q (Nat.le_refl _)
          rw [List.take_of_length_le (by omega)] at this
          exact this
         ·cases h
     | _=>simp at h
structure adW (ks:List Leaf) (w:World) (a:Option Addr) (n:Nat) (rs:List (List Value)):Prop where
 len:rs.length=n
 ok:∀ r∈rs,jS ks r
 at_:0<n->∃ b off,a=some ⟨b,off,none⟩/\∀ i r,rs[i]?=some r->∀ j v,r[j]?=some v->w.cell? ⟨b,off+i*ks.length+j,none⟩=some v
end
end
section
open Go.RowKit
theorem Xa {x m:Int}:(x.tmod m+m)%m=x%m:=by
 rw [Int.add_emod_right,Int.tmod_eq_emod]
 split
 ·simp
 ·rw [Int.sub_emod,Int.emod_emod]
  have:((m.natAbs:Int))%m=0:=by
   rcases Int.natAbs_eq m with h|h
   ·rw [<- h];simp
   ·have:(m.natAbs:Int) = -m:=by omega
    rw [this];simp
  rw [this];simp
theorem aaF (x m:Int) (hm:0<m) (hm2:m<=1000) (w:World):Calls ay 66 #[ah x,ah m] w fun e w'=>e = .returned (ah (x%m))/\w'=w:=by
 have h0:(m==0)=false:=by simp;omega
 have h1 : -m<x.tmod m:=by
  have:=Int.lt_tmod_of_pos x hm
  omega
 have h2:x.tmod m<m:=Int.tmod_lt_of_pos x hm
 have HE:=au (Xa (x:=x) (m:=m))
 go_enter func66,ntmps66
 go_wp2
 go_ret
 exact ⟨by rw [<- HE.out];rfl,rfl⟩
structure aK where
 b:Int
 w:Int
 m:Int
 r:Int
 c:Int
 l:Int
 s:Int
deriving DecidableEq
def aK.cells (c:aK):List Value:=[ah c.b,ah c.w,ah c.m,ah c.r,ah c.c,ah c.l,ah c.s]
def aK.wf (c:aK):Prop:=(Lit.int .i64 c.b).wf=true/\(Lit.int .i64 c.w).wf=true/\(Lit.int .i64 c.m).wf=true/\(Lit.int .i64 c.r).wf=true/\(Lit.int .i64 c.c).wf=true/\(Lit.int .i64 c.l).wf=true/\(Lit.int .i64 c.s).wf=true
def aK.little (c:aK):aK:=⟨1+c.b%4,16+c.w%20,1+c.m%4,1+c.r%5,c.c%4,1+c.l%4,1+c.s%4⟩
def leaf7:List Leaf:=[.int .i64,.int .i64,.int .i64,.int .i64,.int .i64,.int .i64,.int .i64]
theorem wu {x m p:Int} (hp:Hid (x%m=p)) (hm:0<m) (hm2:m<=1000) (w:World):Calls ay 66 #[ah x,ah m] w fun e w'=>e = .returned (ah p)/\w'=w:=by
 rw [<- hp.out];exact aaF x m hm hm2 w
theorem sV (x m:Int) (hm:0<m):∃ p,Hid (x%m=p)/\0<=p/\p<m:=⟨x%m,rfl,Int.emod_nonneg x (by omega),Int.emod_lt_of_pos x hm⟩
theorem QJ (c:aK) (w:World):Calls ay 38 #[.agg c.cells.toArray] w fun e w'=>e = .returned (.agg c.little.cells.toArray)/\Keep none_ w w':=by
 obtain ⟨b,ww,m,r,cc,l,s⟩:=c
 simp only [aK.cells,aK.little]
 obtain ⟨p0,H0,l0,g0⟩:=sV b 4 (by decide)
 obtain ⟨p1,H1,l1,g1⟩:=sV ww 20 (by decide)
 obtain ⟨p2,H2,l2,g2⟩:=sV m 4 (by decide)
 obtain ⟨p3,H3,l3,g3⟩:=sV r 5 (by decide)
 obtain ⟨p4,H4,l4,g4⟩:=sV cc 4 (by decide)
 obtain ⟨p5,H5,l5,g5⟩:=sV l 4 (by decide)
 obtain ⟨p6,H6,l6,g6⟩:=sV s 4 (by decide)
 rw [H0.out,H1.out,H2.out,H3.out,H4.out,H5.out,H6.out]
 obtain ⟨W0,hW0⟩:∃ W',W'=(w.alloc (.cells #[ah b,ah ww,ah m,ah r,ah cc,ah l,ah s] 23)).alloc (.cells #[ah 0,ah 0,ah 0,ah 0,ah 0,ah 0,ah 0] 23):=⟨_,rfl⟩
 have HA:Hid (aA W0 w.heap.size [ah b,ah ww,ah m,ah r,ah cc,ah l,ah s] 23):=by rw [hW0];exact (aA.new w _ _).alloc _
 have HB:Hid (aA W0 (w.heap.size+1) [ah 0,ah 0,ah 0,ah 0,ah 0,ah 0,ah 0] 23):=by rw [hW0];have h:=aA.new (w.alloc (.cells #[ah b,ah ww,ah m,ah r,ah cc,ah l,ah s] 23)) [ah 0,ah 0,ah 0,ah 0,ah 0,ah 0,ah 0] 23;simp only [World.size_alloc] at h;exact h
 have HK:Hid (Keep none_ w W0):=by rw [hW0];exact ((Keep.refl _ _).alloc _).alloc _
 go_enter func38,ntmps38
 go_wp2_with fail
 rw [<- hW0]
 clear hW0
 have d0:=HA.out.cell 0 rfl;have d1:=HA.out.cell 1 rfl;have d2:=HA.out.cell 2 rfl;have d3:=HA.out.cell 3 rfl;have d4:=HA.out.cell 4 rfl;have d5:=HA.out.cell 5 rfl;have d6:=HA.out.cell 6 rfl
 refine wp_region_still_tail 28 (by kernel_rfl) (by kernel_rfl) ?_
 change wpStill _ _ (World.drew _) _ _ _
 simp only [List.take_succ_cons,List.take_zero,List.drop_succ_cons,List.drop_zero]
 still_step
 still_step
 still_call (wu H0 (by decide) (by decide) _)
 still_step
 still_step
 still_step
 still_call (wu H1 (by decide) (by decide) _)
 still_step
 still_step
 still_step
 still_call (wu H2 (by decide) (by decide) _)
 still_step
 still_step
 still_step
 still_call (wu H3 (by decide) (by decide) _)
 still_step
 still_step
 still_step
 still_call (wu H4 (by decide) (by decide) _)
 still_step
 still_step
 still_call (wu H5 (by decide) (by decide) _)
 still_step
 still_step
 still_step
 still_call (wu H6 (by decide) (by decide) _)
 still_step
 still_step
 refine wpStill_nil ?_
 change wpList _ _ _ _ _ W0.drew
 have z0:=HB.out.free 0;have z1:=HB.out.free 1;have z2:=HB.out.free 2;have z3:=HB.out.free 3;have z4:=HB.out.free 4;have z5:=HB.out.free 5;have z6:=HB.out.free 6
 have y0:=HB.out.cell 0 rfl;have y1:=HB.out.cell 1 rfl;have y2:=HB.out.cell 2 rfl;have y3:=HB.out.cell 3 rfl;have y4:=HB.out.cell 4 rfl;have y5:=HB.out.cell 5 rfl;have y6:=HB.out.cell 6 rfl
 go_wp2_with fail
 have hB:=((((((HB.out.set 0 (ah (1+p0))).set 1 (ah (16+p1))).set 2 (ah (1+p2))).set 3 (ah (1+p3))).set 4 (ah p4)).set 5 (ah (1+p5))).set 6 (ah (1+p6))
 have hk:=((((((HK.out.eP (B:=w.heap.size+1) (Nat.le_succ _) 0 (ah (1+p0))).eP (B:=w.heap.size+1) (Nat.le_succ _) 1 (ah (16+p1))).eP (B:=w.heap.size+1) (Nat.le_succ _) 2 (ah (1+p2))).eP (B:=w.heap.size+1) (Nat.le_succ _) 3 (ah (1+p3))).eP (B:=w.heap.size+1) (Nat.le_succ _) 4 (ah p4)).eP (B:=w.heap.size+1) (Nat.le_succ _) 5 (ah (1+p5))).eP (B:=w.heap.size+1) (Nat.le_succ _) 6 (ah (1+p6))
 have k0:=hB.cell 0 rfl;have k1:=hB.cell 1 rfl;have k2:=hB.cell 2 rfl;have k3:=hB.cell 3 rfl;have k4:=hB.cell 4 rfl;have k5:=hB.cell 5 rfl;have k6:=hB.cell 6 rfl
 exact bodyPost_ret (by simp [results,Tryz.f38,go_sem,k0,k1,k2,k3,k4,k5,k6]) rfl ⟨rfl,hk.drew⟩
end
section
open Go.Sort Go.RowKit
section
variable {F:Fence} {n:Nat} {P:Program} {ops:Array Oper} {md:Region.Mode} {C:World->Prop}
def adU (o:Oper):Bool:=match o.op with
 | .defer _=>false
 | _=>true
end
theorem Ap (w:World) (d:Nat) (os:Array Obj):Keep none_ w (grow (redrawn w d) os):=Keep.PE (below_regrown w d os) _
theorem JR {P:Program} {f:FuncId} {args:Array Value} {w:World} {d:Nat} {os:Array Obj} {v:Value}
 (h:Calls P f args (grow (redrawn w d) os) fun e w'=>e = .returned v/\Keep none_ (grow (redrawn w d) os) w'):Calls P f args (grow (redrawn w d) os) fun e w''=>e = .returned v/\∃ p:Regrown,w''=grow (redrawn w p.d) p.os :=
 Calls.regrown_of (h.mono fun _ _ ⟨he,hk⟩=>⟨he,hk.toBelow⟩)
end
section
open Go.RowKit Go.Sort
def Aq (B:Nat):List Value:=[aj B,.pointer (some ⟨B,1,none⟩),.pointer (some ⟨B,2,none⟩),.pointer (some ⟨B,3,none⟩),.pointer (some ⟨B,4,none⟩),.pointer (some ⟨B,5,none⟩),.pointer (some ⟨B,6,none⟩)]
theorem Oz (B:Nat) (w:World):Calls ay 236 #[aj B] w fun e w'=>e = .returned (.agg (Aq B).toArray)/\Keep none_ w w':=by
 obtain ⟨W0,hW0⟩:∃ W',W'=w.alloc (.cells #[.pointer none,.pointer none,.pointer none,.pointer none,.pointer none,.pointer none,.pointer none] 247):=⟨_,rfl⟩
 have HB:Hid (aA W0 w.heap.size [.pointer none,.pointer none,.pointer none,.pointer none,.pointer none,.pointer none,.pointer none] 247):=by rw [hW0];exact aA.new w _ _
 have HK:Hid (Keep none_ w W0):=by rw [hW0];exact (Keep.refl _ _).alloc _
 go_enter func236,ntmps236
 go_wp2_with fail
 rw [<- hW0]
 clear hW0
 refine wp_region_still_tail 22 (by kernel_rfl) (by kernel_rfl) ?_
 change wpStill _ _ (World.drew _) _ _ _
 simp only [List.take_succ_cons,List.take_zero,List.drop_succ_cons,List.drop_zero]
 repeat still_step
 refine wpStill_nil ?_
 change wpList _ _ _ _ _ W0.drew
 have z0:=HB.out.free 0;have z1:=HB.out.free 1;have z2:=HB.out.free 2;have z3:=HB.out.free 3;have z4:=HB.out.free 4;have z5:=HB.out.free 5;have z6:=HB.out.free 6
 have y0:=HB.out.cell 0 rfl;have y1:=HB.out.cell 1 rfl;have y2:=HB.out.cell 2 rfl;have y3:=HB.out.cell 3 rfl;have y4:=HB.out.cell 4 rfl;have y5:=HB.out.cell 5 rfl;have y6:=HB.out.cell 6 rfl
 go_wp2_with fail
 have hB:=((((((HB.out.set 0 (aj B)).set 1 (.pointer (some ⟨B,1,none⟩))).set 2 (.pointer (some ⟨B,2,none⟩))).set 3 (.pointer (some ⟨B,3,none⟩))).set 4 (.pointer (some ⟨B,4,none⟩))).set 5 (.pointer (some ⟨B,5,none⟩))).set 6 (.pointer (some ⟨B,6,none⟩))
 have hk:=((((((HK.out.eP (B:=w.heap.size) (Nat.le_refl _) 0 (aj B)).eP (B:=w.heap.size) (Nat.le_refl _) 1 (.pointer (some ⟨B,1,none⟩))).eP (B:=w.heap.size) (Nat.le_refl _) 2 (.pointer (some ⟨B,2,none⟩))).eP (B:=w.heap.size) (Nat.le_refl _) 3 (.pointer (some ⟨B,3,none⟩))).eP (B:=w.heap.size) (Nat.le_refl _) 4 (.pointer (some ⟨B,4,none⟩))).eP (B:=w.heap.size) (Nat.le_refl _) 5 (.pointer (some ⟨B,5,none⟩))).eP (B:=w.heap.size) (Nat.le_refl _) 6 (.pointer (some ⟨B,6,none⟩))
 have k0:=hB.cell 0 rfl;have k1:=hB.cell 1 rfl;have k2:=hB.cell 2 rfl;have k3:=hB.cell 3 rfl;have k4:=hB.cell 4 rfl;have k5:=hB.cell 5 rfl;have k6:=hB.cell 6 rfl
 exact bodyPost_ret (by simp [results,Aq,Tryz.f236,go_sem,k0,k1,k2,k3,k4,k5,k6]) rfl ⟨rfl,hk.drew⟩
def near (lo hi x:Int):Int:=max lo (min hi x)
def aK.clamp (c:aK):aK:=⟨near 1 4096 c.b,near 16 256 c.w,near 1 8 c.m,near 1 64 c.r,near 0 64 c.c,near 1 256 c.l,near 1 4096 c.s⟩
def aK.ok (c:aK):Bool:=decide (1<=c.b/\c.b<=4096)&&decide (16<=c.w/\c.w<=256)&&decide (1<=c.m/\c.m<=8)&&decide (1<=c.r/\c.r<=64)&&decide (0<=c.c/\c.c<=64)&&decide (1<=c.l/\c.l<=256)&&decide (1<=c.s/\c.s<=4096)
def aK.part (c:aK) (k:Nat):List Value:=c.clamp.cells.take k++c.cells.drop k
theorem Uc (c:aK) (w:World) (hT:Tabs w):Calls ay 200 #[.agg c.cells.toArray] w fun e w'=>e = .returned (.agg c.clamp.cells.toArray)/\Keep none_ w w':=by
 obtain ⟨b,ww,m,r,cc,l,s⟩:=c
 have HT:=au hT
 clear hT
 obtain ⟨W0,hW0⟩:∃ W',W'=(w.alloc (.cells #[ah b,ah ww,ah m,ah r,ah cc,ah l,ah s] 23)).alloc (.cells #[ah 0,ah 0,ah 0,ah 0,ah 0,ah 0,ah 0] 23):=⟨_,rfl⟩
 have HA:Hid (aA W0 w.heap.size (aK.part ⟨b,ww,m,r,cc,l,s⟩ 0) 23):=by rw [hW0];exact (aA.new w _ _).alloc _
 have HB:Hid (aA W0 (w.heap.size+1) [ah 0,ah 0,ah 0,ah 0,ah 0,ah 0,ah 0] 23):=by rw [hW0];have h:=aA.new (w.alloc (.cells #[ah b,ah ww,ah m,ah r,ah cc,ah l,ah s] 23)) [ah 0,ah 0,ah 0,ah 0,ah 0,ah 0,ah 0] 23;simp only [World.size_alloc] at h;exact h
 have HK:Hid (Keep none_ w W0):=by rw [hW0];exact ((Keep.refl _ _).alloc _).alloc _
 simp only [aK.cells]
 go_enter func200,ntmps200
 go_wp2_with fail
 rw [<- hW0]
 clear hW0
 refine (Oz _ _).mono ?_
 rintro e w1 ⟨rfl,hk1⟩
 have HA1:=au (hk1.blk HA.out (fun f=>f))
 have HB1:=au (hk1.blk HB.out (fun f=>f))
 have aJ:=au (HK.out.trans hk1)
 clear hk1 HA HB HK
 simp only [Aq]
 go_wp2_with fail
 go_loopg [3,4,6] 7 (fun g x y i wr=>∃ k:Nat,g+k=7/\i = ah k/\Hid (aA wr w.heap.size (aK.part ⟨b,ww,m,r,cc,l,s⟩ k) 23)/\Hid (aA wr (w.heap.size+1) [ah 0,ah 0,ah 0,ah 0,ah 0,ah 0,ah 0] 23)/\Hid (Keep none_ w wr))
 case atStart=>exact ⟨0,rfl,rfl,HA1,HB1,aJ⟩
 case round =>
  obtain ⟨k,hg,rfl,HA2,HB2,bJ⟩:=hrel
  clear HA1 HB1 aJ
  have e:k=0\/k=1\/k=2\/k=3\/k=4\/k=5\/k=6\/k=7:=by omega
  rcases e with rfl|rfl|rfl|rfl|rfl|rfl|rfl|rfl
  ·have hix:∀ w':World,(Instr.index 247 (.agg (#[aj w.heap.size,.pointer (some ⟨w.heap.size,1,none⟩),.pointer (some ⟨w.heap.size,2,none⟩),.pointer (some ⟨w.heap.size,3,none⟩),.pointer (some ⟨w.heap.size,4,none⟩),.pointer (some ⟨w.heap.size,5,none⟩),.pointer (some ⟨w.heap.size,6,none⟩)])) (ah 0)).run ay w' = .ok (aj w.heap.size) w':=fun w'=>by kernel_rfl
   simp only [show (((0:Nat):Int))=0 from rfl]
   have d:=HA2.out.cell 0 (v := ah b) rfl
   have z:=HA2.out.free 0
   have m0:=(HT.out.keep bJ.out).lim 0 _ rfl
   have m1:=(HT.out.keep bJ.out).lim 1 _ rfl
   have HN:Hid (aA ((wr.setCell ⟨w.heap.size,0,none⟩ (ah (near 1 4096 b))).drew) w.heap.size (aK.part ⟨b,ww,m,r,cc,l,s⟩ 1) 23):=(HA2.out.set 0 (ah (near 1 4096 b))).drew
   have gq:Hid (aA ((wr.setCell ⟨w.heap.size,0,none⟩ (ah (near 1 4096 b))).drew) (w.heap.size+1) [ah 0,ah 0,ah 0,ah 0,ah 0,ah 0,ah 0] 23):=(HB2.out.other (a:=⟨w.heap.size,0,none⟩) (by simp) _).drew
   have gU:Hid (Keep none_ w ((wr.setCell ⟨w.heap.size,0,none⟩ (ah (near 1 4096 b))).drew)):=(bJ.out.eP (Nat.le_refl _) _ _).drew
   go_wp2_with fail
   refine wp_region_still_tail 15 (by kernel_rfl) (by kernel_rfl) ?_
   change wpStill _ _ (World.drew _) _ _ _
   simp only [List.take_succ_cons,List.take_zero,List.drop_succ_cons,List.drop_zero]
   repeat still_step
   refine wpStill_nil ?_
   change wpList _ _ _ _ _ wr.drew
   go_wp2_with fail
   all_goals first
    | (have hv:near 1 4096 b=b:=by unfold near;omega
       rw [hv] at HN gq gU
       go_roundg (gk - 1)
       case measure=>omega
       case rel=>exact ⟨1,by omega,rfl,HN,gq,gU⟩)
    | (have hv:near 1 4096 b=1:=by unfold near;omega
       rw [hv] at HN gq gU
       go_roundg (gk - 1)
       case measure=>omega
       case rel=>exact ⟨1,by omega,rfl,HN,gq,gU⟩)
    | (have hv:near 1 4096 b=4096:=by unfold near;omega
       rw [hv] at HN gq gU
       go_roundg (gk - 1)
       case measure=>omega
       case rel=>exact ⟨1,by omega,rfl,HN,gq,gU⟩)
  ·have hix:∀ w':World,(Instr.index 247 (.agg (#[aj w.heap.size,.pointer (some ⟨w.heap.size,1,none⟩),.pointer (some ⟨w.heap.size,2,none⟩),.pointer (some ⟨w.heap.size,3,none⟩),.pointer (some ⟨w.heap.size,4,none⟩),.pointer (some ⟨w.heap.size,5,none⟩),.pointer (some ⟨w.heap.size,6,none⟩)])) (ah 1)).run ay w' = .ok (.pointer (some ⟨w.heap.size,1,none⟩)) w':=fun w'=>by kernel_rfl
   simp only [show (((1:Nat):Int))=1 from rfl]
   have d:=HA2.out.cell 1 (v := ah ww) rfl
   have z:=HA2.out.free 1
   have m0:=(HT.out.keep bJ.out).lim 2 _ rfl
   have m1:=(HT.out.keep bJ.out).lim 3 _ rfl
   have HN:Hid (aA ((wr.setCell ⟨w.heap.size,1,none⟩ (ah (near 16 256 ww))).drew) w.heap.size (aK.part ⟨b,ww,m,r,cc,l,s⟩ 2) 23):=(HA2.out.set 1 (ah (near 16 256 ww))).drew
   have gq:Hid (aA ((wr.setCell ⟨w.heap.size,1,none⟩ (ah (near 16 256 ww))).drew) (w.heap.size+1) [ah 0,ah 0,ah 0,ah 0,ah 0,ah 0,ah 0] 23):=(HB2.out.other (a:=⟨w.heap.size,1,none⟩) (by simp) _).drew
   have gU:Hid (Keep none_ w ((wr.setCell ⟨w.heap.size,1,none⟩ (ah (near 16 256 ww))).drew)):=(bJ.out.eP (Nat.le_refl _) _ _).drew
   go_wp2_with fail
   refine wp_region_still_tail 15 (by kernel_rfl) (by kernel_rfl) ?_
   change wpStill _ _ (World.drew _) _ _ _
   simp only [List.take_succ_cons,List.take_zero,List.drop_succ_cons,List.drop_zero]
   repeat still_step
   refine wpStill_nil ?_
   change wpList _ _ _ _ _ wr.drew
   go_wp2_with fail
   all_goals first
    | (have hv:near 16 256 ww=ww:=by unfold near;omega
       rw [hv] at HN gq gU
       go_roundg (gk - 1)
       case measure=>omega
       case rel=>exact ⟨2,by omega,rfl,HN,gq,gU⟩)
    | (have hv:near 16 256 ww=16:=by unfold near;omega
       rw [hv] at HN gq gU
       go_roundg (gk - 1)
       case measure=>omega
       case rel=>exact ⟨2,by omega,rfl,HN,gq,gU⟩)
    | (have hv:near 16 256 ww=256:=by unfold near;omega
       rw [hv] at HN gq gU
       go_roundg (gk - 1)
       case measure=>omega
       case rel=>exact ⟨2,by omega,rfl,HN,gq,gU⟩)
  ·have hix:∀ w':World,(Instr.index 247 (.agg (#[aj w.heap.size,.pointer (some ⟨w.heap.size,1,none⟩),.pointer (some ⟨w.heap.size,2,none⟩),.pointer (some ⟨w.heap.size,3,none⟩),.pointer (some ⟨w.heap.size,4,none⟩),.pointer (some ⟨w.heap.size,5,none⟩),.pointer (some ⟨w.heap.size,6,none⟩)])) (ah 2)).run ay w' = .ok (.pointer (some ⟨w.heap.size,2,none⟩)) w':=fun w'=>by kernel_rfl
   simp only [show (((2:Nat):Int))=2 from rfl]
   have d:=HA2.out.cell 2 (v := ah m) rfl
   have z:=HA2.out.free 2
   have m0:=(HT.out.keep bJ.out).lim 4 _ rfl
   have m1:=(HT.out.keep bJ.out).lim 5 _ rfl
   have HN:Hid (aA ((wr.setCell ⟨w.heap.size,2,none⟩ (ah (near 1 8 m))).drew) w.heap.size (aK.part ⟨b,ww,m,r,cc,l,s⟩ 3) 23):=(HA2.out.set 2 (ah (near 1 8 m))).drew
   have gq:Hid (aA ((wr.setCell ⟨w.heap.size,2,none⟩ (ah (near 1 8 m))).drew) (w.heap.size+1) [ah 0,ah 0,ah 0,ah 0,ah 0,ah 0,ah 0] 23):=(HB2.out.other (a:=⟨w.heap.size,2,none⟩) (by simp) _).drew
   have gU:Hid (Keep none_ w ((wr.setCell ⟨w.heap.size,2,none⟩ (ah (near 1 8 m))).drew)):=(bJ.out.eP (Nat.le_refl _) _ _).drew
   go_wp2_with fail
   refine wp_region_still_tail 15 (by kernel_rfl) (by kernel_rfl) ?_
   change wpStill _ _ (World.drew _) _ _ _
   simp only [List.take_succ_cons,List.take_zero,List.drop_succ_cons,List.drop_zero]
   repeat still_step
   refine wpStill_nil ?_
   change wpList _ _ _ _ _ wr.drew
   go_wp2_with fail
   all_goals first
    | (have hv:near 1 8 m=m:=by unfold near;omega
       rw [hv] at HN gq gU
       go_roundg (gk - 1)
       case measure=>omega
       case rel=>exact ⟨3,by omega,rfl,HN,gq,gU⟩)
    | (have hv:near 1 8 m=1:=by unfold near;omega
       rw [hv] at HN gq gU
       go_roundg (gk - 1)
       case measure=>omega
       case rel=>exact ⟨3,by omega,rfl,HN,gq,gU⟩)
    | (have hv:near 1 8 m=8:=by unfold near;omega
       rw [hv] at HN gq gU
       go_roundg (gk - 1)
       case measure=>omega
       case rel=>exact ⟨3,by omega,rfl,HN,gq,gU⟩)
  ·have hix:∀ w':World,(Instr.index 247 (.agg (#[aj w.heap.size,.pointer (some ⟨w.heap.size,1,none⟩),.pointer (some ⟨w.heap.size,2,none⟩),.pointer (some ⟨w.heap.size,3,none⟩),.pointer (some ⟨w.heap.size,4,none⟩),.pointer (some ⟨w.heap.size,5,none⟩),.pointer (some ⟨w.heap.size,6,none⟩)])) (ah 3)).run ay w' = .ok (.pointer (some ⟨w.heap.size,3,none⟩)) w':=fun w'=>by kernel_rfl
   simp only [show (((3:Nat):Int))=3 from rfl]
   have d:=HA2.out.cell 3 (v := ah r) rfl
   have z:=HA2.out.free 3
   have m0:=(HT.out.keep bJ.out).lim 6 _ rfl
   have m1:=(HT.out.keep bJ.out).lim 7 _ rfl
   have HN:Hid (aA ((wr.setCell ⟨w.heap.size,3,none⟩ (ah (near 1 64 r))).drew) w.heap.size (aK.part ⟨b,ww,m,r,cc,l,s⟩ 4) 23):=(HA2.out.set 3 (ah (near 1 64 r))).drew
   have gq:Hid (aA ((wr.setCell ⟨w.heap.size,3,none⟩ (ah (near 1 64 r))).drew) (w.heap.size+1) [ah 0,ah 0,ah 0,ah 0,ah 0,ah 0,ah 0] 23):=(HB2.out.other (a:=⟨w.heap.size,3,none⟩) (by simp) _).drew
   have gU:Hid (Keep none_ w ((wr.setCell ⟨w.heap.size,3,none⟩ (ah (near 1 64 r))).drew)):=(bJ.out.eP (Nat.le_refl _) _ _).drew
   go_wp2_with fail
   refine wp_region_still_tail 15 (by kernel_rfl) (by kernel_rfl) ?_
   change wpStill _ _ (World.drew _) _ _ _
   simp only [List.take_succ_cons,List.take_zero,List.drop_succ_cons,List.drop_zero]
   repeat still_step
   refine wpStill_nil ?_
   change wpList _ _ _ _ _ wr.drew
   go_wp2_with fail
   all_goals first
    | (have hv:near 1 64 r=r:=by unfold near;omega
       rw [hv] at HN gq gU
       go_roundg (gk - 1)
       case measure=>omega
       case rel=>exact ⟨4,by omega,rfl,HN,gq,gU⟩)
    | (have hv:near 1 64 r=1:=by unfold near;omega
       rw [hv] at HN gq gU
       go_roundg (gk - 1)
       case measure=>omega
       case rel=>exact ⟨4,by omega,rfl,HN,gq,gU⟩)
    | (have hv:near 1 64 r=64:=by unfold near;omega
       rw [hv] at HN gq gU
       go_roundg (gk - 1)
       case measure=>omega
       case rel=>exact ⟨4,by omega,rfl,HN,gq,gU⟩)
  ·have hix:∀ w':World,(Instr.index 247 (.agg (#[aj w.heap.size,.pointer (some ⟨w.heap.size,1,none⟩),.pointer (some ⟨w.heap.size,2,none⟩),.pointer (some ⟨w.heap.size,3,none⟩),.pointer (some ⟨w.heap.size,4,none⟩),.pointer (some ⟨w.heap.size,5,none⟩),.pointer (some ⟨w.heap.size,6,none⟩)])) (ah 4)).run ay w' = .ok (.pointer (some ⟨w.heap.size,4,none⟩)) w':=fun w'=>by kernel_rfl
   simp only [show (((4:Nat):Int))=4 from rfl]
   have d:=HA2.out.cell 4 (v := ah cc) rfl
   have z:=HA2.out.free 4
   have m0:=(HT.out.keep bJ.out).lim 8 _ rfl
   have m1:=(HT.out.keep bJ.out).lim 9 _ rfl
   have HN:Hid (aA ((wr.setCell ⟨w.heap.size,4,none⟩ (ah (near 0 64 cc))).drew) w.heap.size (aK.part ⟨b,ww,m,r,cc,l,s⟩ 5) 23):=(HA2.out.set 4 (ah (near 0 64 cc))).drew
   have gq:Hid (aA ((wr.setCell ⟨w.heap.size,4,none⟩ (ah (near 0 64 cc))).drew) (w.heap.size+1) [ah 0,ah 0,ah 0,ah 0,ah 0,ah 0,ah 0] 23):=(HB2.out.other (a:=⟨w.heap.size,4,none⟩) (by simp) _).drew
   have gU:Hid (Keep none_ w ((wr.setCell ⟨w.heap.size,4,none⟩ (ah (near 0 64 cc))).drew)):=(bJ.out.eP (Nat.le_refl _) _ _).drew
   go_wp2_with fail
   refine wp_region_still_tail 15 (by kernel_rfl) (by kernel_rfl) ?_
   change wpStill _ _ (World.drew _) _ _ _
   simp only [List.take_succ_cons,List.take_zero,List.drop_succ_cons,List.drop_zero]
   repeat still_step
   refine wpStill_nil ?_
   change wpList _ _ _ _ _ wr.drew
   go_wp2_with fail
   all_goals first
    | (have hv:near 0 64 cc=cc:=by unfold near;omega
       rw [hv] at HN gq gU
       go_roundg (gk - 1)
       case measure=>omega
       case rel=>exact ⟨5,by omega,rfl,HN,gq,gU⟩)
    | (have hv:near 0 64 cc=0:=by unfold near;omega
       rw [hv] at HN gq gU
       go_roundg (gk - 1)
       case measure=>omega
       case rel=>exact ⟨5,by omega,rfl,HN,gq,gU⟩)
    | (have hv:near 0 64 cc=64:=by unfold near;omega
       rw [hv] at HN gq gU
       go_roundg (gk - 1)
       case measure=>omega
       case rel=>exact ⟨5,by omega,rfl,HN,gq,gU⟩)
  ·have hix:∀ w':World,(Instr.index 247 (.agg (#[aj w.heap.size,.pointer (some ⟨w.heap.size,1,none⟩),.pointer (some ⟨w.heap.size,2,none⟩),.pointer (some ⟨w.heap.size,3,none⟩),.pointer (some ⟨w.heap.size,4,none⟩),.pointer (some ⟨w.heap.size,5,none⟩),.pointer (some ⟨w.heap.size,6,none⟩)])) (ah 5)).run ay w' = .ok (.pointer (some ⟨w.heap.size,5,none⟩)) w':=fun w'=>by kernel_rfl
   simp only [show (((5:Nat):Int))=5 from rfl]
   have d:=HA2.out.cell 5 (v := ah l) rfl
   have z:=HA2.out.free 5
   have m0:=(HT.out.keep bJ.out).lim 10 _ rfl
   have m1:=(HT.out.keep bJ.out).lim 11 _ rfl
   have HN:Hid (aA ((wr.setCell ⟨w.heap.size,5,none⟩ (ah (near 1 256 l))).drew) w.heap.size (aK.part ⟨b,ww,m,r,cc,l,s⟩ 6) 23):=(HA2.out.set 5 (ah (near 1 256 l))).drew
   have gq:Hid (aA ((wr.setCell ⟨w.heap.size,5,none⟩ (ah (near 1 256 l))).drew) (w.heap.size+1) [ah 0,ah 0,ah 0,ah 0,ah 0,ah 0,ah 0] 23):=(HB2.out.other (a:=⟨w.heap.size,5,none⟩) (by simp) _).drew
   have gU:Hid (Keep none_ w ((wr.setCell ⟨w.heap.size,5,none⟩ (ah (near 1 256 l))).drew)):=(bJ.out.eP (Nat.le_refl _) _ _).drew
   go_wp2_with fail
   refine wp_region_still_tail 15 (by kernel_rfl) (by kernel_rfl) ?_
   change wpStill _ _ (World.drew _) _ _ _
   simp only [List.take_succ_cons,List.take_zero,List.drop_succ_cons,List.drop_zero]
   repeat still_step
   refine wpStill_nil ?_
   change wpList _ _ _ _ _ wr.drew
   go_wp2_with fail
   all_goals first
    | (have hv:near 1 256 l=l:=by unfold near;omega
       rw [hv] at HN gq gU
       go_roundg (gk - 1)
       case measure=>omega
       case rel=>exact ⟨6,by omega,rfl,HN,gq,gU⟩)
    | (have hv:near 1 256 l=1:=by unfold near;omega
       rw [hv] at HN gq gU
       go_roundg (gk - 1)
       case measure=>omega
       case rel=>exact ⟨6,by omega,rfl,HN,gq,gU⟩)
    | (have hv:near 1 256 l=256:=by unfold near;omega
       rw [hv] at HN gq gU
       go_roundg (gk - 1)
       case measure=>omega
       case rel=>exact ⟨6,by omega,rfl,HN,gq,gU⟩)
  ·have hix:∀ w':World,(Instr.index 247 (.agg (#[aj w.heap.size,.pointer (some ⟨w.heap.size,1,none⟩),.pointer (some ⟨w.heap.size,2,none⟩),.pointer (some ⟨w.heap.size,3,none⟩),.pointer (some ⟨w.heap.size,4,none⟩),.pointer (some ⟨w.heap.size,5,none⟩),.pointer (some ⟨w.heap.size,6,none⟩)])) (ah 6)).run ay w' = .ok (.pointer (some ⟨w.heap.size,6,none⟩)) w':=fun w'=>by kernel_rfl
   simp only [show (((6:Nat):Int))=6 from rfl]
   have d:=HA2.out.cell 6 (v := ah s) rfl
   have z:=HA2.out.free 6
   have m0:=(HT.out.keep bJ.out).lim 12 _ rfl
   have m1:=(HT.out.keep bJ.out).lim 13 _ rfl
   have HN:Hid (aA ((wr.setCell ⟨w.heap.size,6,none⟩ (ah (near 1 4096 s))).drew) w.heap.size (aK.part ⟨b,ww,m,r,cc,l,s⟩ 7) 23):=(HA2.out.set 6 (ah (near 1 4096 s))).drew
   have gq:Hid (aA ((wr.setCell ⟨w.heap.size,6,none⟩ (ah (near 1 4096 s))).drew) (w.heap.size+1) [ah 0,ah 0,ah 0,ah 0,ah 0,ah 0,ah 0] 23):=(HB2.out.other (a:=⟨w.heap.size,6,none⟩) (by simp) _).drew
   have gU:Hid (Keep none_ w ((wr.setCell ⟨w.heap.size,6,none⟩ (ah (near 1 4096 s))).drew)):=(bJ.out.eP (Nat.le_refl _) _ _).drew
   go_wp2_with fail
   refine wp_region_still_tail 15 (by kernel_rfl) (by kernel_rfl) ?_
   change wpStill _ _ (World.drew _) _ _ _
   simp only [List.take_succ_cons,List.take_zero,List.drop_succ_cons,List.drop_zero]
   repeat still_step
   refine wpStill_nil ?_
   change wpList _ _ _ _ _ wr.drew
   go_wp2_with fail
   all_goals first
    | (have hv:near 1 4096 s=s:=by unfold near;omega
       rw [hv] at HN gq gU
       go_roundg (gk - 1)
       case measure=>omega
       case rel=>exact ⟨7,by omega,rfl,HN,gq,gU⟩)
    | (have hv:near 1 4096 s=1:=by unfold near;omega
       rw [hv] at HN gq gU
       go_roundg (gk - 1)
       case measure=>omega
       case rel=>exact ⟨7,by omega,rfl,HN,gq,gU⟩)
    | (have hv:near 1 4096 s=4096:=by unfold near;omega
       rw [hv] at HN gq gU
       go_roundg (gk - 1)
       case measure=>omega
       case rel=>exact ⟨7,by omega,rfl,HN,gq,gU⟩)
  ·simp only [show (((7:Nat):Int))=7 from rfl]
   have a0:=HA2.out.cell 0 rfl;have a1:=HA2.out.cell 1 rfl;have a2:=HA2.out.cell 2 rfl;have a3:=HA2.out.cell 3 rfl;have a4:=HA2.out.cell 4 rfl;have a5:=HA2.out.cell 5 rfl;have a6:=HA2.out.cell 6 rfl
   have y0:=HB2.out.cell 0 rfl;have y1:=HB2.out.cell 1 rfl;have y2:=HB2.out.cell 2 rfl;have y3:=HB2.out.cell 3 rfl;have y4:=HB2.out.cell 4 rfl;have y5:=HB2.out.cell 5 rfl;have y6:=HB2.out.cell 6 rfl
   have z0:=HB2.out.free 0;have z1:=HB2.out.free 1;have z2:=HB2.out.free 2;have z3:=HB2.out.free 3;have z4:=HB2.out.free 4;have z5:=HB2.out.free 5;have z6:=HB2.out.free 6
   clear hg
   go_wp2_with fail
   obtain ⟨q,hq⟩:∃ q,q=aK.clamp ⟨b,ww,m,r,cc,l,s⟩:=⟨_,rfl⟩
   rw [<- hq]
   have hB:=((((((HB2.out.set 0 (ah q.b)).set 1 (ah q.w)).set 2 (ah q.m)).set 3 (ah q.r)).set 4 (ah q.c)).set 5 (ah q.l)).set 6 (ah q.s)
   have hk:=((((((bJ.out.eP (B:=w.heap.size+1) (Nat.le_succ _) 0 (ah q.b)).eP (B:=w.heap.size+1) (Nat.le_succ _) 1 (ah q.w)).eP (B:=w.heap.size+1) (Nat.le_succ _) 2 (ah q.m)).eP (B:=w.heap.size+1) (Nat.le_succ _) 3 (ah q.r)).eP (B:=w.heap.size+1) (Nat.le_succ _) 4 (ah q.c)).eP (B:=w.heap.size+1) (Nat.le_succ _) 5 (ah q.l)).eP (B:=w.heap.size+1) (Nat.le_succ _) 6 (ah q.s)
   have k0:=hB.cell 0 rfl;have k1:=hB.cell 1 rfl;have k2:=hB.cell 2 rfl;have k3:=hB.cell 3 rfl;have k4:=hB.cell 4 rfl;have k5:=hB.cell 5 rfl;have k6:=hB.cell 6 rfl
   exact bodyPost_ret (by simp [results,Tryz.f200,go_sem,k0,k1,k2,k3,k4,k5,k6]) rfl ⟨rfl,hk⟩
theorem sW {lo hi x:Int} (h:lo<=x/\x<=hi):near lo hi x=x:=by unfold near;omega
theorem sZ {lo hi x:Int} (hl:lo<=hi) (h:near lo hi x=x):lo<=x/\x<=hi:=by unfold near at h;omega
theorem aK.Xb (c:aK):c.ok=decide (c.clamp=c):=by
 obtain ⟨b,ww,m,r,cc,l,s⟩:=c
 rw [Bool.eq_iff_iff,decide_eq_true_eq]
 simp only [aK.ok,aK.clamp,aK.mk.injEq,Bool.and_eq_true,decide_eq_true_eq]
 constructor
 ·rintro ⟨⟨⟨⟨⟨⟨h0,h1⟩,h2⟩,h3⟩,h4⟩,h5⟩,h6⟩
  exact ⟨sW h0,sW h1,sW h2,sW h3,sW h4,sW h5,sW h6⟩
 ·rintro ⟨h0,h1,h2,h3,h4,h5,h6⟩
  exact ⟨⟨⟨⟨⟨⟨sZ (by decide) h0,sZ (by decide) h1⟩,sZ (by decide) h2⟩,sZ (by decide) h3⟩,sZ (by decide) h4⟩,sZ (by decide) h5⟩,sZ (by decide) h6⟩
theorem xw (c:aK) (w:World) (hT:Tabs w):Calls ay 154 #[.agg c.cells.toArray] w fun e w'=>e = .returned (.bool c.ok)/\Keep none_ w w':=by
 obtain ⟨W0,hW0⟩:∃ W',W'=w.alloc (.cells c.cells.toArray 23):=⟨_,rfl⟩
 have HA:Hid (aA W0 w.heap.size c.cells 23):=by rw [hW0];exact aA.new w _ _
 have HK:Hid (Keep none_ w W0):=by rw [hW0];exact (Keep.refl _ _).alloc _
 have HT:=au (hT.keep HK.out)
 clear hT
 have HQ:Hid (∀ w':World,(binOp .eql 23 (.agg c.clamp.cells.toArray) (.agg c.cells.toArray)).run ay w' = .ok (.bool c.ok) w'):=fun w'=>by
  rw [aK.Xb]
  obtain ⟨b,ww,m,r,cc,l,s⟩:=c
  simp only [aK.clamp,aK.cells,aK.mk.injEq]
  generalize near 1 4096 b=q0
  generalize near 16 256 ww=q1
  generalize near 1 8 m=q2
  generalize near 1 64 r=q3
  generalize near 0 64 cc=q4
  generalize near 1 256 l=q5
  generalize near 1 4096 s=q6
  clear HT HK HA hW0
  go_simp
  by_cases e0:q0=b
  ·by_cases e1:q1=ww
   ·by_cases e2:q2=m
    ·by_cases e3:q3=r
     ·by_cases e4:q4=cc
      ·by_cases e5:q5=l
       ·by_cases e6:q6=s
        ·simp [e0,e1,e2,e3,e4,e5,e6]
        ·simp [e0,e1,e2,e3,e4,e5,e6]
       ·simp [e0,e1,e2,e3,e4,e5]
      ·simp [e0,e1,e2,e3,e4]
     ·simp [e0,e1,e2,e3]
    ·simp [e0,e1,e2]
   ·simp [e0,e1]
  ·simp [e0]
 have HC:=au (fun w' (h:Keep none_ W0 w')=>Uc c w' (HT.out.keep h))
 obtain ⟨cl,hcl⟩:∃ cl,cl=c.clamp:=⟨_,rfl⟩
 rw [<- hcl] at HC HQ
 clear hcl
 obtain ⟨ok,hok⟩:∃ ok,ok=c.ok:=⟨_,rfl⟩
 rw [<- hok] at HQ ⊢
 clear hok
 have hQ:=HQ.out
 have q0:=cell_regrown (HA.out.cell 0 rfl)
 have q1:=cell_regrown (HA.out.cell 1 rfl)
 have q2:=cell_regrown (HA.out.cell 2 rfl)
 have q3:=cell_regrown (HA.out.cell 3 rfl)
 have q4:=cell_regrown (HA.out.cell 4 rfl)
 have q5:=cell_regrown (HA.out.cell 5 rfl)
 have q6:=cell_regrown (HA.out.cell 6 rfl)
 obtain ⟨b,ww,m,r,cc,l,s⟩:=c
 simp only [aK.cells] at *
 go_enter func154,ntmps154
 go_wp2_with fail
 rw [<- hW0]
 clear hW0 HQ
 refine wp_region_quiet_below (by kernel_rfl) (by kernel_rfl) ?_
 repeat (quiet_step (exact JR (HC.out _ (Ap _ _ _))))
 refine wpQuiet_nil ?_
 intro _ hw9
 obtain ⟨⟨dq,osq⟩,hw8⟩:=hw9
 subst hw8
 have hk3:=HK.out.trans (Ap W0 dq osq)
 generalize grow (redrawn W0 dq) osq=w3 at hk3 ⊢
 go_wp2_with fail
 go_ret
 exact ⟨rfl,hk3⟩
end
end Go.Proofs.YtanfphjoebobaaaGreatDoor
