/- Parts of the walk. No conditions. -/
import Derived.Test.YtobfpmijbfgmeabGreatDoorRows
import Derived.Lib.LaidTab
import Derived.OpenShut
import Derived.MakeChecks
import Derived.Stop.LaidErr
import Derived.Deep.Slices
import Derived.WalkSpells
import Derived.WalkLawsBesides
import Derived.BigQuiet
import Derived.StillTailTactics
import Derived.Lib.QuietBelowIn
import Derived.OwnWalkIn
import Derived.Deep.LoopGhost
import Derived.Test.YtobfpmijbfgmeabGreatDoorZzg0
namespace Go.Proofs.YtobfpmijbfgmeabGreatDoor
open _root_.Array renaming getElem?_eq_getElem->abf
open _root_.Go.World renaming block_lt_of_cell?->abk,cells?_some->abv,drew->abx,size_alloc->abw,var?_cell->abm
open _root_.List renaming drop_succ_cons->abz,drop_zero->abt,getElem?_append_left->abo,getElem?_append_right->abp,getElem?_eq_getElem->abr,getElem?_eq_some_iff->abl,replicate->abn,take_add->abq,take_of_length_le->abu,take_zero->aby
open _root_.Nat renaming le_refl->abg,le_succ->abA,le_trans->abh,lt_of_lt_of_le->abj
open _root_.Go.Proofs.Tryz hiding prog
open _root_.Go.Proofs.Tryz renaming prog->ay
set_option maxRecDepth 4000
set_option maxHeartbeats 4000000
section
open Go.RowKit
def aB (w:World) (B:Nat) (cs:List Value) (T:TypeId):Prop:=w.heap[B]?=some (.cells cs.toArray T (0,0))
theorem aB.cell {w B cs T} (h:aB w B cs T) (i:Nat) {v:Value} (hi:cs[i]?=some v):w.cell? ⟨B,i,none⟩=some v:=by
 unfold aB at h
 simp [World.cell?,h,hi]
theorem aB.free {w B cs T} (h:aB w B cs T) (i:Nat):w.frozen? ⟨B,i,none⟩=false:=by
 unfold aB at h
 simp [World.frozen?,h]
theorem aB.lt {w B cs T} (h:aB w B cs T):B<w.heap.size:=lt_of_block h
theorem aB.set {w B cs T} (h:aB w B cs T) (i:Nat) (v:Value):aB (w.setCell ⟨B,i,none⟩ v) B (cs.set i v) T:=by
 have hlt:=h.lt
 unfold aB at h
 have h':w.heap[B] = .cells cs.toArray T (0,0):=by simpa [abf hlt] using h
 show (w.heap.modify B _)[B]?=_
 rw [abf (by simpa using hlt),Array.getElem_modify_self,h']
 simp
theorem aB.og {w B cs T} (h:aB w B cs T) {a:Addr} (ha:B≠a.block) (v:Value):aB (w.setCell a v) B cs T:=by
 unfold aB at *
 rw [Below.heap_setCell _ _ _ _ ha];exact h
theorem aB.alloc {w B cs T} (h:aB w B cs T) (o:Obj):aB (w.alloc o) B cs T:=by
 have hlt:=h.lt
 unfold aB at *
 rw [Below.heap_alloc _ _ _ hlt];exact h
theorem aB.drew {w B cs T} (h:aB w B cs T):aB w.drew B cs T:=h
theorem aB.aW (w:World) (cs:List Value) (T:TypeId):aB (w.alloc (.cells cs.toArray T)) w.heap.size cs T:=by
 show (w.heap.push _)[w.heap.size]?=_
 simp
theorem aB.gK {w B cs cs' T T'} (h:aB w B cs T) (h':aB w B cs' T'):cs=cs'/\T=T':=by
 unfold aB at *
 rw [h] at h'
 simp at h';exact h'
structure aj (S:Nat->Prop) (w w':World):Prop where
 os:w'.os=w.os
 tape:w'.tape=w.tape
 output:w'.output=w.output
 size:w.heap.size<=w'.heap.size
 block:∀ k,k<w.heap.size->¬ S k->w'.heap[k]?=w.heap[k]?
theorem aj.refl (S:Nat->Prop) (w:World):aj S w w:=⟨rfl,rfl,rfl,abg _,fun _ _ _=>rfl⟩
theorem aj.trans {S:Nat->Prop} {a b c:World} (h:aj S a b) (k:aj S b c):aj S a c :=
 ⟨k.os.trans h.os,k.tape.trans h.tape,k.output.trans h.output,abh h.size k.size,fun i hi hs=>(k.block i (abj hi h.size) hs).trans (h.block i hi hs)⟩
theorem aj.jI {S T:Nat->Prop} {a b c:World} (h:aj S a b) (k:aj T b c) (hs:∀ i,i<a.heap.size->T i->S i):aj S a c :=
 ⟨k.os.trans h.os,k.tape.trans h.tape,k.output.trans h.output,abh h.size k.size,fun i hi n=>(k.block i (abj hi h.size) (fun t=>n (hs i hi t))).trans (h.block i hi n)⟩
theorem aj.mono {S T:Nat->Prop} {a b:World} (h:aj S a b) (hs:∀ i,i<a.heap.size->S i->T i):aj T a b :=
 ⟨h.os,h.tape,h.output,h.size,fun i hi n=>h.block i hi (fun s=>n (hs i hi s))⟩
theorem aj.setCell {S:Nat->Prop} {a w:World} (h:aj S a w) {p:Addr} (hp:p.block<a.heap.size->S p.block) (u:Value):aj S a (w.setCell p u) :=
 h.jI (T:=fun i=>i=p.block) ⟨rfl,rfl,rfl,by simp [World.setCell],fun k _ n=>Below.heap_setCell _ _ _ _ n⟩ (fun i hi e=>by subst e;exact hp hi)
theorem aj.alloc {S:Nat->Prop} {a w:World} (h:aj S a w) (o:Obj):aj S a (w.alloc o) :=
 h.trans ⟨rfl,rfl,rfl,by simp,fun k hk _=>Below.heap_alloc _ _ _ hk⟩
theorem aj.drew {S:Nat->Prop} {a w:World} (h:aj S a w):aj S a w.drew:=⟨h.os,h.tape,h.output,h.size,h.block⟩
theorem aj.drewN {S:Nat->Prop} {a w:World} (h:aj S a w) (n:Nat):aj S a (w.drewN n):=⟨h.os,h.tape,h.output,h.size,h.block⟩
theorem aj.aC {S:Nat->Prop} {w w':World} (h:aj S w w') {B cs T} (hb:aB w B cs T) (hs:¬ S B):aB w' B cs T:=by
 have hlt:=hb.lt
 unfold aB at *
 rw [h.block B hlt hs];exact hb
theorem aj.cell {S:Nat->Prop} {w w':World} (h:aj S w w') {p:Addr} (hp:p.block<w.heap.size) (hs:¬ S p.block):w'.cell? p=w.cell? p:=World.cell?_of_block (w:=w) (h.block p.block hp hs)
theorem aj.jV {S:Nat->Prop} {w w':World} (h:aj S w w') {p:Addr} {v:Value} (hc:w.cell? p=some v) (hs:¬ S p.block):w'.cell? p=some v:=by
 rw [h.cell (abk _ _ hc) hs];exact hc
theorem aj.O1 {S:Nat->Prop} {w w':World} (h:aj S w w') {p:Addr} (hp:p.block<w.heap.size) (hs:¬ S p.block):w'.frozen? p=w.frozen? p:=World.frozen?_of_block (w:=w) (h.block p.block hp hs)
theorem aj.Vt {w w':World} (h:Below w.heap.size w w') (S:Nat->Prop):aj S w w':=⟨h.os,h.tape,h.output,h.size,fun k hk _=>h.block k hk⟩
theorem aj.toBelow {w w':World} (h:aj (fun _=>False) w w'):Below w.heap.size w w':=⟨h.os,h.tape,h.output,h.size,fun k hk=>h.block k hk (fun f=>f)⟩
def only (B:Nat):Nat->Prop:=fun i=>i=B
def aA:Nat->Prop:=fun _=>False
theorem aj.still {w w':World} (h:aj aA w w') {p:Addr} {v:Value} (hc:w.cell? p=some v):w'.cell? p=some v:=h.jV hc (fun f=>f)
theorem aj.YQ {w0 w w':World} {B:Nat} (h:aj aA w0 w) (k:aj (only B) w w') (hB:w0.heap.size<=B):aj aA w0 w':=h.jI k (fun i hi e=>by unfold only at e;omega)
theorem aj.put {w0 w:World} {B:Nat} (h:aj (only B) w0 w) (i:Nat) (v:Value):aj (only B) w0 (w.setCell ⟨B,i,none⟩ v):=h.setCell (p:=⟨B,i,none⟩) (fun _=>rfl) v
theorem aj.dS {S:Nat->Prop} {w0 w:World} {B:Nat} (h:aj S w0 w) (hB:w0.heap.size<=B) (i:Nat) (v:Value):aj S w0 (w.setCell ⟨B,i,none⟩ v):=h.setCell (p:=⟨B,i,none⟩) (fun hl=>absurd hl (by simp;omega)) v
section
variable {H:Type} {enc:TypeId × Value->H} {P:Program} {w:World} {base:Nat} {sp:Nat->Bool} {held:Bool}
theorem yI {fuel n s:Nat} {t e:TypeId} {cs:List Value} {ds:List (DataW H)} {p:List MemPlace} (ht:P.underlying t=some (.array n e)) (hc:P.cellsOf e=s) (hct:P.cellsOf t=n*s)
 (h:DataW.trod enc P w base sp held fuel t cs=some (.agg ds,p)):cs.length=n*s/\ds.length=n/\∃ m,∀ i d,ds[i]?=some d->∃ q,DataW.trod enc P w base sp held m e ((cs.drop (i*s)).take s)=some (d,q):=by
 obtain ⟨xs,m,rfl,hx,hl,hn,hel⟩:=DataW.trod_array ht h
 simp only [Prod.mk.injEq,DataW.agg.injEq] at hx
 obtain ⟨rfl,_⟩:=hx
 refine ⟨by rw [hl,hct],by simpa using hn,m,fun i d hd=>?_⟩
 rw [List.getElem?_map,Option.map_eq_some_iff] at hd
 obtain ⟨x,hx,rfl⟩:=hd
 have hi:i<n:=by rw [<- hn];exact (abl.1 hx).1
 have:=hel i hi
 rw [hc,hx] at this
 exact ⟨x.2,this⟩
theorem oW {fuel:Nat} {t e:TypeId} {k:IntKind} {cs:List Value} {a b:Int} {p:List MemPlace} (ht:P.underlying t=some (.array 2 e)) (he:P.underlying e=some (.int k)) (hce:P.cellsOf e=1) (hct:P.cellsOf t=2)
 (h:DataW.trod enc P w base sp held fuel t cs=some (.agg [.lit (.int k a),.lit (.int k b)],p)):cs=[.int k a,.int k b] :=
 Lib.cells_of_tab (zs:=[a,b]) ht he hce hct h
theorem KO {fuel:Nat} {e:TypeId} {cs:List Value} {a:List UInt8} {p:List MemPlace} (he:P.underlying e=some .string) (h:DataW.trod enc P w base sp held fuel e cs=some (.lit (.string a),p)):cs=[.string ⟨a.toArray⟩]:=by
 obtain ⟨s,rfl,hx,_⟩:=DataW.trod_string he h
 simp only [Prod.mk.injEq,DataW.lit.injEq,Lit.string.injEq] at hx
 obtain ⟨rfl,_⟩:=hx
 simp
theorem mG {fuel:Nat} {t e:TypeId} {cs:List Value} {a b:List UInt8} {p:List MemPlace} (ht:P.underlying t=some (.array 2 e)) (he:P.underlying e=some .string) (hce:P.cellsOf e=1) (hct:P.cellsOf t=2)
 (h:DataW.trod enc P w base sp held fuel t cs=some (.agg [.lit (.string a),.lit (.string b)],p)):cs=[.string ⟨a.toArray⟩,.string ⟨b.toArray⟩]:=by
 obtain ⟨hl,_,m,hel⟩:=yI (s:=1) ht hce (by rw [hct]) h
 obtain ⟨q,h0⟩:=hel 0 _ rfl
 obtain ⟨q',h1⟩:=hel 1 _ rfl
 have e0:=KO he h0
 have e1:=KO he h1
 match cs,hl with
 | [x,y],_ =>
   simp at e0 e1
   rw [e0,e1]
end
def MH:List Int:=[1,4096,16,256,1,8,1,64,0,64,1,256,1,4096]
def qF:List (List UInt8):=[[],[],[97,108,108,111,99],[114,115],[108,111,97,100],[114,114,102],[115,116,111,114,101],[114,102,114],[103,101,116],[114,99],[115,101,116],[99,114],[100,114,111,112],[114],[109,111,118,101],[114,114],[115,97,102,101],[]]
structure gY (w:World):Prop where
 qR:∀ i r,MH[i]?=some r->w.cell? ⟨2,i,none⟩=some (ah r)
 kind:∀ i s,qF[i]?=some s->w.cell? ⟨3,i,none⟩=some (.string ⟨s.toArray⟩)
theorem gY.aH {w w':World} (h:gY w) (k:aj aA w w'):gY w':=⟨fun i r hr=>k.still (h.qR i r hr),fun i s hs=>k.still (h.kind i s hs)⟩
theorem gY.mJ {S:Nat->Prop} {w w':World} (h:gY w) (k:aj S w w') (h1:¬ S 2) (h2:¬ S 3):gY w':=⟨fun i r hr=>k.jV (h.qR i r hr) h1,fun i s hs=>k.jV (h.kind i s hs) h2⟩
theorem gY.lt {w:World} (h:gY w):2<w.heap.size/\3<w.heap.size:=⟨abk _ _ (h.qR 0 1 rfl),abk _ _ (h.kind 0 [] rfl)⟩
theorem Tryz.tabU1:ay.underlying 207=some (.array 7 96):=by kernel_rfl
theorem Tryz.tabU2:ay.underlying 96=some (.array 2 3):=by kernel_rfl
theorem Tryz.tabU3:ay.underlying 225=some (.array 9 224):=by kernel_rfl
theorem Tryz.tabU4:ay.underlying 224=some (.array 2 9):=by kernel_rfl
theorem Tryz.tabU5:ay.underlying 9=some .string:=by kernel_rfl
theorem Tryz.tabU6:ay.underlying 3=some (.int .i64):=by kernel_rfl
theorem Wx {rest : List (String × DataW Unit)} {w : World} (h : laidMet ay (("dustpan/config.limits", Rows.laid_dustpan_config_limits) :: rest) w) : ∀ i r, MH[i]? = some r -> w.cell? ⟨2, i, none⟩ = some (ah r) := by
 ·obtain ⟨ps,⟨g,t,cs,fuel,p,q,hg,ht,hvar,hd,_,_⟩,_⟩:=h
  obtain rfl : 2 = g := Option.some.inj ((show ay.globalNamed "dustpan/config.limits" = some 2 by kernel_rfl).symm.trans hg)
  obtain rfl:207=t:=Option.some.inj ((show (ay.globals[2]?).map (·.type)=some 207 by kernel_rfl).symm.trans ht)
  obtain ⟨cs,rfl⟩:∃ l:List Value,cs=l.toArray:=⟨cs.toList,by simp⟩
  obtain ⟨hl,_,m,hel⟩:=yI (s:=2) Tryz.tabU1 (by kernel_rfl) (by kernel_rfl) hd
  have key:cs=MH.map (Value.int .i64):=by
   obtain ⟨q0,h0⟩:=hel 0 _ rfl
   obtain ⟨q1,h1⟩:=hel 1 _ rfl
   obtain ⟨q2,h2⟩:=hel 2 _ rfl
   obtain ⟨q3,h3⟩:=hel 3 _ rfl
   obtain ⟨q4,h4⟩:=hel 4 _ rfl
   obtain ⟨q5,h5⟩:=hel 5 _ rfl
   obtain ⟨q6,h6⟩:=hel 6 _ rfl
   have e0:=oW Tryz.tabU2 Tryz.tabU6 (by kernel_rfl) (by kernel_rfl) h0
   have e1:=oW Tryz.tabU2 Tryz.tabU6 (by kernel_rfl) (by kernel_rfl) h1
   have e2:=oW Tryz.tabU2 Tryz.tabU6 (by kernel_rfl) (by kernel_rfl) h2
   have e3:=oW Tryz.tabU2 Tryz.tabU6 (by kernel_rfl) (by kernel_rfl) h3
   have e4:=oW Tryz.tabU2 Tryz.tabU6 (by kernel_rfl) (by kernel_rfl) h4
   have e5:=oW Tryz.tabU2 Tryz.tabU6 (by kernel_rfl) (by kernel_rfl) h5
   have e6:=oW Tryz.tabU2 Tryz.tabU6 (by kernel_rfl) (by kernel_rfl) h6
   clear h0 h1 h2 h3 h4 h5 h6 hel hd hvar
   match cs,hl with
   | [a0,a1,a2,a3,a4,a5,a6,a7,a8,a9,a10,a11,a12,a13],_ =>
     simp at e0 e1 e2 e3 e4 e5 e6
     simp [MH,e0,e1,e2,e3,e4,e5,e6]
  intro i r hr
  rw [abm (P:=ay) hg hvar i,key]
  simp [hr]
theorem Vu {rest : List (String × DataW Unit)} {w : World} (h2 : laidMet ay (("dustpan/op.kinds", Rows.laid_dustpan_op_kinds) :: rest) w) : ∀ i s, qF[i]? = some s -> w.cell? ⟨3, i, none⟩ = some (.string ⟨s.toArray⟩) := by
 ·obtain ⟨ps,⟨g,t,cs,fuel,p,q,hg,ht,hvar,hd,_,_⟩,_⟩:=h2
  obtain rfl : 3 = g := Option.some.inj ((show ay.globalNamed "dustpan/op.kinds" = some 3 by kernel_rfl).symm.trans hg)
  obtain rfl:225=t:=Option.some.inj ((show (ay.globals[3]?).map (·.type)=some 225 by kernel_rfl).symm.trans ht)
  obtain ⟨cs,rfl⟩:∃ l:List Value,cs=l.toArray:=⟨cs.toList,by simp⟩
  obtain ⟨hl,_,m,hel⟩:=yI (s:=2) Tryz.tabU3 (by kernel_rfl) (by kernel_rfl) hd
  have key:cs=qF.map (fun s=>Value.string ⟨s.toArray⟩):=by
   obtain ⟨q0,h0⟩:=hel 0 _ rfl
   obtain ⟨q1,h1⟩:=hel 1 _ rfl
   obtain ⟨q2,h2⟩:=hel 2 _ rfl
   obtain ⟨q3,h3⟩:=hel 3 _ rfl
   obtain ⟨q4,h4⟩:=hel 4 _ rfl
   obtain ⟨q5,h5⟩:=hel 5 _ rfl
   obtain ⟨q6,h6⟩:=hel 6 _ rfl
   obtain ⟨q7,h7⟩:=hel 7 _ rfl
   obtain ⟨q8,h8⟩:=hel 8 _ rfl
   have e0:=mG Tryz.tabU4 Tryz.tabU5 (by kernel_rfl) (by kernel_rfl) h0
   have e1:=mG Tryz.tabU4 Tryz.tabU5 (by kernel_rfl) (by kernel_rfl) h1
   have e2:=mG Tryz.tabU4 Tryz.tabU5 (by kernel_rfl) (by kernel_rfl) h2
   have e3:=mG Tryz.tabU4 Tryz.tabU5 (by kernel_rfl) (by kernel_rfl) h3
   have e4:=mG Tryz.tabU4 Tryz.tabU5 (by kernel_rfl) (by kernel_rfl) h4
   have e5:=mG Tryz.tabU4 Tryz.tabU5 (by kernel_rfl) (by kernel_rfl) h5
   have e6:=mG Tryz.tabU4 Tryz.tabU5 (by kernel_rfl) (by kernel_rfl) h6
   have e7:=mG Tryz.tabU4 Tryz.tabU5 (by kernel_rfl) (by kernel_rfl) h7
   have e8:=mG Tryz.tabU4 Tryz.tabU5 (by kernel_rfl) (by kernel_rfl) h8
   clear h0 h1 h2 h3 h4 h5 h6 h7 h8 hel hd hvar
   match cs,hl with
   | [a0,a1,a2,a3,a4,a5,a6,a7,a8,a9,a10,a11,a12,a13,a14,a15,a16,a17],_ =>
     simp at e0 e1 e2 e3 e4 e5 e6 e7 e8
     simp [qF,e0,e1,e2,e3,e4,e5,e6,e7,e8]
  intro i s hs
  rw [abm (P:=ay) hg hvar i,key]
  simp [hs]
end
section
open Go.RowKit Go.ChangeShapes Go.WideShapes Go.Deep
structure gB (k:IntKind) (w:World) (a:Option Addr) (n:Nat) (zs:List Int):Prop where
 len:zs.length=n
 jR:0<n->∃ b off,a=some ⟨b,off,none⟩/\∀ j,j<n->w.cell? ⟨b,off+j,none⟩=some (.int k (zs.getD j 0))
theorem gB.below {k:IntKind} {w w':World} {a:Option Addr} {n:Nat} {zs:List Int} (h:gB k w a n zs) (hb:aj aA w w'):gB k w' a n zs:=by
 refine ⟨h.len,fun h0=>?_⟩
 obtain ⟨b,off,e,hc⟩:=h.jR h0
 exact ⟨b,off,e,fun j hj=>hb.still (hc j hj)⟩
inductive ql where
 | int (k:IntKind)
 | bool
 | string
def oh (fl:TypeId->Option (List ql)) (c:TypeId->Nat):List Field->Nat->Option (List ql)
 | [],_=>some []
 | f::r,off=>match fl f.type with
   | none=>none
   | some ks=>if f.offset=off/\c f.type=ks.length then (match oh fl c r (off+ks.length) with|none=>none|some rest=>some (ks++rest)) else none
def flat (P:Program):Nat->TypeId->Option (List ql)
 | 0,_=>none
 | n+1,t=>match P.underlying t with
   | some (.int k)=>some [.int k]
   | some .bool=>some [.bool]
   | some .string=>some [.string]
   | some (.struct fs)=>match oh (flat P n) P.cellsOf fs.toList 0 with
     | none=>none
     | some ks=>if P.cellsOf t=ks.length then some ks else none
   | some (.array m e)=>match flat P n e with
     | none=>none
     | some ks=>if P.cellsOf e=ks.length/\P.cellsOf t=m*ks.length then some (abn m ks).flatten else none
   | _=>none
def O3:ql->Value->Prop
 | .int k,v=>∃ n,v = .int k n/\(Lit.int k n).wf=true
 | .bool,v=>∃ b,v = .bool b
 | .string,v=>∃ s:ByteArray,v = .string s/\s.size<=maxLen
structure iy (ks:List ql) (cs:List Value):Prop where
 len:cs.length=ks.length
 jR:∀ (i:Nat) (k:ql),ks[i]?=some k->∃ v,cs[i]?=some v/\O3 k v
theorem iy.nil:iy [] []:=⟨rfl,fun i k h=>by simp at h⟩
theorem iy.one {k:ql} {v:Value} (h:O3 k v):iy [k] [v]:=⟨rfl,fun i k' h'=>by
 cases i with
 | zero=>simp at h';subst h';exact ⟨v,rfl,h⟩
 | succ i=>simp at h'⟩
theorem iy.append {ks ks':List ql} {cs cs':List Value} (h:iy ks cs) (h':iy ks' cs'):iy (ks++ks') (cs++cs'):=by
 have hl:=h.len
 refine ⟨by simp [h.len,h'.len],fun i k hk=>?_⟩
 rcases Nat.lt_or_ge i ks.length with hi|hi
 ·rw [abo hi] at hk
  rw [abo (by omega)]
  exact h.jR i k hk
 ·rw [abp hi] at hk
  rw [abp (by omega),hl]
  exact h'.jR _ k hk
section
variable {H:Type} {enc:TypeId × Value->H} {P:Program} {w:World} {base:Nat} {spare:Nat->Bool} {held:Bool}
theorem FP (m:Nat) (n:Nat) (cs:List Value)
 (ih:∀ (t:TypeId) (cs:List Value) (x:DataW H × List MemPlace) (ks:List ql),DataW.trod enc P w base spare held n t cs=some x->flat P m t=some ks->iy ks cs) :
 ∀ (fs:List Field) (off:Nat) (ks:List ql),oh (flat P m) P.cellsOf fs off=some ks ->
  (∀ f∈fs,∃ x,DataW.trod enc P w base spare held n f.type ((cs.drop f.offset).take (P.cellsOf f.type))=some x)->iy ks ((cs.drop off).take ks.length):=by
 intro fs
 induction fs with
 | nil =>
   intro off ks h _
   simp [oh] at h
   subst h
   simpa using iy.nil
 | cons f r ihr =>
   intro off ks h hx
   unfold oh at h
   cases h1:flat P m f.type with
   | none=>simp [h1] at h
   | some k1 =>
     simp only [h1] at h
     split at h
     ·rename_i hc
      obtain ⟨ho,hl⟩:=hc
      cases h2:oh (flat P m) P.cellsOf r (off+k1.length) with
      | none=>simp [h2] at h
      | some k2 =>
        simp only [h2,Option.some.injEq] at h
        subst h
        obtain ⟨x,ht⟩:=hx f (by simp)
        rw [ho,hl] at ht
        have a1:=ih _ _ _ _ ht h1
        have a2:=ihr _ _ h2 (fun g hg=>hx g (by simp [hg]))
        have:=a1.append a2
        rw [<- List.drop_drop,<- abq] at this
        simpa using this
     ·cases h
theorem KP:∀ (m n:Nat) (t:TypeId) (cs:List Value) (x:DataW H × List MemPlace) (ks:List ql),DataW.trod enc P w base spare held n t cs=some x->flat P m t=some ks->iy ks cs:=by
 intro m
 induction m with
 | zero=>intro n t cs x ks _ h;simp [flat] at h
 | succ m Zc =>
   intro n t cs x ks hx h
   unfold flat at h
   cases hu:P.underlying t with
   | none=>simp [hu] at h
   | some d =>
     rw [hu] at h
     cases d with
     | int k =>
       simp at h;subst h
       obtain ⟨q,rfl,_,hq⟩:=DataW.trod_int hu hx
       exact iy.one ⟨q,rfl,hq⟩
     | bool =>
       simp at h;subst h
       obtain ⟨q,rfl,_⟩:=DataW.trod_bool hu hx
       exact iy.one ⟨q,rfl⟩
     | string =>
       simp at h;subst h
       obtain ⟨q,rfl,_,hq⟩:=DataW.trod_string hu hx
       exact iy.one ⟨q,rfl,hq⟩
     | struct fs =>
       simp only at h
       cases rW:oh (flat P m) P.cellsOf fs.toList 0 with
       | none=>simp [rW] at h
       | some ks' =>
         simp only [rW] at h
         split at h
         ·rename_i hcl
          simp only [Option.some.injEq] at h
          subst h
          obtain ⟨xs,n',rfl,_,hl,hxl,hf⟩:=DataW.trod_struct hu hx
          have:=FP m n' cs (fun t cs x ks a b=>Zc n' t cs x ks a b) fs.toList 0 ks' rW (fun f hm=>by
           obtain ⟨i,hi⟩:=List.mem_iff_getElem?.1 hm
           have hi':fs[i]?=some f:=by simpa using hi
           have hlt:i<xs.length:=by rw [hxl];exact (Array.getElem?_eq_some_iff.1 hi').1
           exact ⟨xs[i],by rw [hf i f hi',abr hlt]⟩)
          have e:(cs.drop 0).take ks'.length=cs:=by rw [abt,abu (by omega)]
          rw [e] at this
          exact this
         ·cases h
     | array q e =>
       simp only at h
       cases rW:flat P m e with
       | none=>simp [rW] at h
       | some ks' =>
         simp only [rW] at h
         split at h
         ·rename_i hcl
          obtain ⟨hce,hct⟩:=hcl
          simp only [Option.some.injEq] at h
          subst h
          obtain ⟨xs,n',rfl,_,hl,hxl,hf⟩:=DataW.trod_array hu hx
          have key:∀ j,j<=q->iy (abn j ks').flatten (cs.take (j*ks'.length)):=by
           intro j
           induction j with
           | zero=>intro _;simpa using iy.nil
           | succ j ihj =>
             intro hj
             have a1:=ihj (by omega)
             have a2:=Zc n' e _ xs[j] ks' (by rw [hf j (by omega),abr (by omega)]) rW
             rw [hce] at a2
             rw [List.replicate_succ',List.flatten_append,Nat.succ_mul,abq]
             simpa using a1.append a2
          have:=key q (abg _)
          rw [abu (by omega)] at this
          exact this
         ·cases h
     | _=>simp at h
theorem RG {r:Reach} {b0 m:Nat} {t:TypeId} {fs:Array Field} {v:Value} {d:DataW H} {p:List MemPlace} {ks:List ql} (hs:P.underlying t=some (.struct fs)) (hk:flat P m t=some ks)
 (hv:Value.okWide P w r b0 t v) (h:DataW.Trod enc P w base spare held t v d p):∃ cs,v = .agg cs.toArray/\iy ks cs:=by
 obtain ⟨cs,rfl,_⟩:=okWide_struct hs hv
 obtain ⟨fuel,hf⟩:=h
 exact ⟨cs.toList,by simp,KP m fuel t _ _ ks hf hk⟩
structure wY (ks:List ql) (w:World) (a:Option Addr) (n:Nat) (rs:List (List Value)):Prop where
 len:rs.length=n
 ok:∀ r∈rs,iy ks r
 jR:0<n->∃ b off,a=some ⟨b,off,none⟩/\∀ i r,rs[i]?=some r->∀ j v,r[j]?=some v->w.cell? ⟨b,off+i*ks.length+j,none⟩=some v
theorem wY.nil (ks:List ql) (w:World):wY ks w none 0 []:=⟨rfl,fun _ h=>(nomatch h),fun h=>absurd h (Nat.lt_irrefl 0)⟩
theorem RH {t e:TypeId} {fuel m:Nat} {a:Option Addr} {len aJ:Nat} {x:DataW H × List MemPlace} {ks:List ql} (ht:P.underlying t=some (.slice e)) (hk:flat P m e=some ks) (hc:P.cellsOf e=ks.length) (h0:0<ks.length)
 (h:DataW.trod enc P w base spare held fuel t [.slice a len aJ]=some x):∃ rs,wY ks w a len rs/\len<=maxLen:=by
 rcases open_slice ht h with ⟨e,_⟩|⟨x,l,c,q,n,D,Pl,e,hb,hl,hm,hq,_,hel⟩
 ·simp at e
  obtain ⟨rfl,rfl,rfl⟩:=e
  exact ⟨[],wY.nil _ _,Nat.zero_le _⟩
 ·simp at e
  obtain ⟨rfl,rfl,rfl⟩:=e
  have hql:len<=q:=by rw [hq];split<;>omega
  have aac:∀ i,i<len->∃ cs:List Value,w.cells? base (x.add (i*P.cellsOf e)) (P.cellsOf e)=some cs/\iy ks cs:=fun i hi=>by
   obtain ⟨cs,h1,h2⟩:=hel i (by omega)
   exact ⟨cs,h1,KP m n e cs _ ks h2 hk⟩
  obtain ⟨R,hR⟩:=choose_lt aac
  refine ⟨(List.range len).map R,⟨by simp,fun r hr=>?_,fun hpos=>?_⟩,abh hl hm⟩
  ·simp at hr
   obtain ⟨i,hi,rfl⟩:=hr
   exact (hR i hi).2
  ·obtain ⟨b,off,sp⟩:=x
   obtain ⟨h1,h2⟩:=hR 0 hpos
   obtain ⟨_,hl1,hcell⟩:=abv h1
   have hsp:sp=none:=by
    have:=hcell 0 (by omega)
    rw [abr (by omega)] at this
    simpa [Addr.add] using World.cell?_spot this
   subst hsp
   refine ⟨b,off,rfl,fun i r hi j v hj=>?_⟩
   have hil:i<len:=by
    have:=(abl.1 hi).1
    simpa using this
   simp [hil] at hi
   subst hi
   obtain ⟨g1,g2⟩:=hR i hil
   obtain ⟨_,hl2,hcell2⟩:=abv g1
   have hjl:=(abl.1 hj).1
   have:=hcell2 j (by omega)
   rw [hj,add_add,add_plain,hc,<- Nat.add_assoc] at this
   exact this
end
end
section
open Go.RowKit
theorem RI {x m:Int}:(x.tmod m+m)%m=x%m:=by
 rw [Int.add_emod_right,Int.tmod_eq_emod]
 split
 ·simp
 ·rw [Int.sub_emod,Int.emod_emod]
  have:((m.natAbs:Int))%m=0:=by
   rcases Int.natAbs_eq m with h|h
   ·rw [<- h];simp
   ·have:(m.natAbs:Int) = -m:=by omega
    rw [this];simp
  rw [this];simp
theorem Wy (x m:Int) (hm:0<m) (hm2:m<=1000) (w:World):Calls ay 30 #[ah x,ah m] w fun e w'=>e = .returned (ah (x%m))/\w'=w:=by
 have h0:(m==0)=false:=by simp;omega
 have h1 : -m<x.tmod m:=by
  have:=Int.lt_tmod_of_pos x hm
  omega
 have h2:x.tmod m<m:=Int.tmod_lt_of_pos x hm
 have HE:=au (RI (x:=x) (m:=m))
 go_enter func30,ntmps30
 go_wp2
 go_ret
 exact ⟨by rw [<- HE.out];rfl,rfl⟩
theorem O4 (x a b:Int) (w:World):Calls ay 71 #[ah x,ah a,ah b] w fun e w'=>e = .returned (.bool (decide (a<=x)&&decide (x<=b)))/\w'=w:=by
 by_cases h:a<=x
 ·have h1:decide (a<=x)=true:=cZ h
  clear h
  go_enter func71,ntmps71
  go_wp2
  go_ret
  exact ⟨by simp [h1],rfl⟩
 ·have h1:decide (a<=x)=false:=dD h
  clear h
  go_enter func71,ntmps71
  go_wp2
  go_ret
  exact ⟨by simp [h1],rfl⟩
structure aS where
 b:Int
 w:Int
 m:Int
 r:Int
 c:Int
 l:Int
 s:Int
deriving DecidableEq
def aS.cells (c:aS):List Value:=[ah c.b,ah c.w,ah c.m,ah c.r,ah c.c,ah c.l,ah c.s]
def aS.wf (c:aS):Prop:=(Lit.int .i64 c.b).wf=true/\(Lit.int .i64 c.w).wf=true/\(Lit.int .i64 c.m).wf=true/\(Lit.int .i64 c.r).wf=true/\(Lit.int .i64 c.c).wf=true/\(Lit.int .i64 c.l).wf=true/\(Lit.int .i64 c.s).wf=true
def aS.wL (c:aS):aS:=⟨1+c.b%4,16+c.w%20,1+c.m%4,1+c.r%5,c.c%4,1+c.l%4,1+c.s%4⟩
theorem Vw {cs:List Value} (h:iy [.int .i64,.int .i64,.int .i64,.int .i64,.int .i64,.int .i64,.int .i64] cs):∃ c:aS,cs=c.cells/\c.wf:=by
 obtain ⟨v0,h0,x0,rfl,y0⟩:=h.jR 0 _ rfl
 obtain ⟨v1,h1,x1,rfl,y1⟩:=h.jR 1 _ rfl
 obtain ⟨v2,h2,x2,rfl,y2⟩:=h.jR 2 _ rfl
 obtain ⟨v3,h3,x3,rfl,y3⟩:=h.jR 3 _ rfl
 obtain ⟨v4,h4,x4,rfl,y4⟩:=h.jR 4 _ rfl
 obtain ⟨v5,h5,x5,rfl,y5⟩:=h.jR 5 _ rfl
 obtain ⟨v6,h6,x6,rfl,y6⟩:=h.jR 6 _ rfl
 have hl:=h.len
 match cs,hl with
 | [a0,a1,a2,a3,a4,a5,a6],_ =>
   simp at h0 h1 h2 h3 h4 h5 h6
   exact ⟨⟨x0,x1,x2,x3,x4,x5,x6⟩,by simp [aS.cells,h0,h1,h2,h3,h4,h5,h6],y0,y1,y2,y3,y4,y5,y6⟩
theorem um {x m p:Int} (hp:Hid (x%m=p)) (hm:0<m) (hm2:m<=1000) (w:World):Calls ay 30 #[ah x,ah m] w fun e w'=>e = .returned (ah p)/\w'=w:=by
 rw [<- hp.out];exact Wy x m hm hm2 w
theorem qZ (x m:Int) (hm:0<m):∃ p,Hid (x%m=p)/\0<=p/\p<m:=⟨x%m,rfl,Int.emod_nonneg x (by omega),Int.emod_lt_of_pos x hm⟩
theorem BP (c:aS) (w:World):Calls ay 4 #[.agg c.cells.toArray] w fun e w'=>e = .returned (.agg c.wL.cells.toArray)/\aj aA w w':=by
 obtain ⟨b,ww,m,r,cc,l,s⟩:=c
 simp only [aS.cells,aS.wL]
 obtain ⟨p0,H0,l0,g0⟩:=qZ b 4 (by decide)
 obtain ⟨p1,H1,l1,g1⟩:=qZ ww 20 (by decide)
 obtain ⟨p2,H2,l2,g2⟩:=qZ m 4 (by decide)
 obtain ⟨p3,H3,l3,g3⟩:=qZ r 5 (by decide)
 obtain ⟨p4,H4,l4,g4⟩:=qZ cc 4 (by decide)
 obtain ⟨p5,H5,l5,g5⟩:=qZ l 4 (by decide)
 obtain ⟨p6,H6,l6,g6⟩:=qZ s 4 (by decide)
 rw [H0.out,H1.out,H2.out,H3.out,H4.out,H5.out,H6.out]
 obtain ⟨W0,hW0⟩:∃ W',W'=(w.alloc (.cells #[ah b,ah ww,ah m,ah r,ah cc,ah l,ah s] 23)).alloc (.cells #[ah 0,ah 0,ah 0,ah 0,ah 0,ah 0,ah 0] 23):=⟨_,rfl⟩
 have HA:Hid (aB W0 w.heap.size [ah b,ah ww,ah m,ah r,ah cc,ah l,ah s] 23):=by rw [hW0];exact (aB.aW w _ _).alloc _
 have HB:Hid (aB W0 (w.heap.size+1) [ah 0,ah 0,ah 0,ah 0,ah 0,ah 0,ah 0] 23):=by rw [hW0];have h:=aB.aW (w.alloc (.cells #[ah b,ah ww,ah m,ah r,ah cc,ah l,ah s] 23)) [ah 0,ah 0,ah 0,ah 0,ah 0,ah 0,ah 0] 23;simp only [abw] at h;exact h
 have HK:Hid (aj aA w W0):=by rw [hW0];exact ((aj.refl _ _).alloc _).alloc _
 go_enter func4,ntmps4
 go_wp2_with fail
 rw [<- hW0]
 clear hW0
 have d0:=HA.out.cell 0 rfl;have d1:=HA.out.cell 1 rfl;have d2:=HA.out.cell 2 rfl;have d3:=HA.out.cell 3 rfl;have d4:=HA.out.cell 4 rfl;have d5:=HA.out.cell 5 rfl;have d6:=HA.out.cell 6 rfl
 refine wp_region_still_tail 28 (by kernel_rfl) (by kernel_rfl) ?_
 change wpStill _ _ (abx _) _ _ _
 simp only [List.take_succ_cons,aby,abz,abt]
 still_step
 still_step
 still_call (um H0 (by decide) (by decide) _)
 still_step
 still_step
 still_step
 still_call (um H1 (by decide) (by decide) _)
 still_step
 still_step
 still_step
 still_call (um H2 (by decide) (by decide) _)
 still_step
 still_step
 still_step
 still_call (um H3 (by decide) (by decide) _)
 still_step
 still_step
 still_step
 still_call (um H4 (by decide) (by decide) _)
 still_step
 still_step
 still_call (um H5 (by decide) (by decide) _)
 still_step
 still_step
 still_step
 still_call (um H6 (by decide) (by decide) _)
 still_step
 still_step
 refine wpStill_nil ?_
 change wpList _ _ _ _ _ W0.drew
 have z0:=HB.out.free 0;have z1:=HB.out.free 1;have z2:=HB.out.free 2;have z3:=HB.out.free 3;have z4:=HB.out.free 4;have z5:=HB.out.free 5;have z6:=HB.out.free 6
 have y0:=HB.out.cell 0 rfl;have y1:=HB.out.cell 1 rfl;have y2:=HB.out.cell 2 rfl;have y3:=HB.out.cell 3 rfl;have y4:=HB.out.cell 4 rfl;have y5:=HB.out.cell 5 rfl;have y6:=HB.out.cell 6 rfl
 go_wp2_with fail
 have hB:=((((((HB.out.set 0 (ah (1+p0))).set 1 (ah (16+p1))).set 2 (ah (1+p2))).set 3 (ah (1+p3))).set 4 (ah p4)).set 5 (ah (1+p5))).set 6 (ah (1+p6))
 have hk:=((((((HK.out.dS (B:=w.heap.size+1) (abA _) 0 (ah (1+p0))).dS (B:=w.heap.size+1) (abA _) 1 (ah (16+p1))).dS (B:=w.heap.size+1) (abA _) 2 (ah (1+p2))).dS (B:=w.heap.size+1) (abA _) 3 (ah (1+p3))).dS (B:=w.heap.size+1) (abA _) 4 (ah p4)).dS (B:=w.heap.size+1) (abA _) 5 (ah (1+p5))).dS (B:=w.heap.size+1) (abA _) 6 (ah (1+p6))
 have k0:=hB.cell 0 rfl;have k1:=hB.cell 1 rfl;have k2:=hB.cell 2 rfl;have k3:=hB.cell 3 rfl;have k4:=hB.cell 4 rfl;have k5:=hB.cell 5 rfl;have k6:=hB.cell 6 rfl
 exact bodyPost_ret (by simp [results,Tryz.f4,go_sem,k0,k1,k2,k3,k4,k5,k6]) rfl ⟨rfl,hk.drew⟩
end
section
open Go.Sort Go.RowKit
section
variable {F:Fence} {n:Nat} {P:Program} {ops:Array Oper} {md:Region.Mode} {C:World->Prop}
end
theorem yJ (w:World) (d:Nat) (os:Array Obj):aj aA w (grow (redrawn w d) os):=aj.Vt (below_regrown w d os) _
theorem FQ {P:Program} {f:FuncId} {args:Array Value} {w:World} {d:Nat} {os:Array Obj} {v:Value}
 (h:Calls P f args (grow (redrawn w d) os) fun e w'=>e = .returned v/\aj aA (grow (redrawn w d) os) w'):Calls P f args (grow (redrawn w d) os) fun e w''=>e = .returned v/\∃ p:Regrown,w''=grow (redrawn w p.d) p.os :=
 Calls.regrown_of (h.mono fun _ _ ⟨he,hk⟩=>⟨he,hk.toBelow⟩)
end
section
open Go.RowKit Go.Sort
def yK (B:Nat):List Value:=[ak B,.pointer (some ⟨B,1,none⟩),.pointer (some ⟨B,2,none⟩),.pointer (some ⟨B,3,none⟩),.pointer (some ⟨B,4,none⟩),.pointer (some ⟨B,5,none⟩),.pointer (some ⟨B,6,none⟩)]
theorem Jy (B:Nat) (w:World):Calls ay 151 #[ak B] w fun e w'=>e = .returned (.agg (yK B).toArray)/\aj aA w w':=by
 obtain ⟨W0,hW0⟩:∃ W',W'=w.alloc (.cells #[.pointer none,.pointer none,.pointer none,.pointer none,.pointer none,.pointer none,.pointer none] 204):=⟨_,rfl⟩
 have HB:Hid (aB W0 w.heap.size [.pointer none,.pointer none,.pointer none,.pointer none,.pointer none,.pointer none,.pointer none] 204):=by rw [hW0];exact aB.aW w _ _
 have HK:Hid (aj aA w W0):=by rw [hW0];exact (aj.refl _ _).alloc _
 go_enter func151,ntmps151
 go_wp2_with fail
 rw [<- hW0]
 clear hW0
 refine wp_region_still_tail 22 (by kernel_rfl) (by kernel_rfl) ?_
 change wpStill _ _ (abx _) _ _ _
 simp only [List.take_succ_cons,aby,abz,abt]
 repeat still_step
 refine wpStill_nil ?_
 change wpList _ _ _ _ _ W0.drew
 have z0:=HB.out.free 0;have z1:=HB.out.free 1;have z2:=HB.out.free 2;have z3:=HB.out.free 3;have z4:=HB.out.free 4;have z5:=HB.out.free 5;have z6:=HB.out.free 6
 have y0:=HB.out.cell 0 rfl;have y1:=HB.out.cell 1 rfl;have y2:=HB.out.cell 2 rfl;have y3:=HB.out.cell 3 rfl;have y4:=HB.out.cell 4 rfl;have y5:=HB.out.cell 5 rfl;have y6:=HB.out.cell 6 rfl
 go_wp2_with fail
 have hB:=((((((HB.out.set 0 (ak B)).set 1 (.pointer (some ⟨B,1,none⟩))).set 2 (.pointer (some ⟨B,2,none⟩))).set 3 (.pointer (some ⟨B,3,none⟩))).set 4 (.pointer (some ⟨B,4,none⟩))).set 5 (.pointer (some ⟨B,5,none⟩))).set 6 (.pointer (some ⟨B,6,none⟩))
 have hk:=((((((HK.out.dS (B:=w.heap.size) (abg _) 0 (ak B)).dS (B:=w.heap.size) (abg _) 1 (.pointer (some ⟨B,1,none⟩))).dS (B:=w.heap.size) (abg _) 2 (.pointer (some ⟨B,2,none⟩))).dS (B:=w.heap.size) (abg _) 3 (.pointer (some ⟨B,3,none⟩))).dS (B:=w.heap.size) (abg _) 4 (.pointer (some ⟨B,4,none⟩))).dS (B:=w.heap.size) (abg _) 5 (.pointer (some ⟨B,5,none⟩))).dS (B:=w.heap.size) (abg _) 6 (.pointer (some ⟨B,6,none⟩))
 have k0:=hB.cell 0 rfl;have k1:=hB.cell 1 rfl;have k2:=hB.cell 2 rfl;have k3:=hB.cell 3 rfl;have k4:=hB.cell 4 rfl;have k5:=hB.cell 5 rfl;have k6:=hB.cell 6 rfl
 exact bodyPost_ret (by simp [results,yK,Tryz.f151,go_sem,k0,k1,k2,k3,k4,k5,k6]) rfl ⟨rfl,hk.drew⟩
def bW (lo hi x:Int):Int:=max lo (min hi x)
def aS.vg (c:aS):aS:=⟨bW 1 4096 c.b,bW 16 256 c.w,bW 1 8 c.m,bW 1 64 c.r,bW 0 64 c.c,bW 1 256 c.l,bW 1 4096 c.s⟩
def aS.ok (c:aS):Bool:=decide (1<=c.b/\c.b<=4096)&&decide (16<=c.w/\c.w<=256)&&decide (1<=c.m/\c.m<=8)&&decide (1<=c.r/\c.r<=64)&&decide (0<=c.c/\c.c<=64)&&decide (1<=c.l/\c.l<=256)&&decide (1<=c.s/\c.s<=4096)
def aS.part (c:aS) (k:Nat):List Value:=c.vg.cells.take k++c.cells.drop k
theorem O5 (c:aS) (w:World) (hT:gY w):Calls ay 118 #[.agg c.cells.toArray] w fun e w'=>e = .returned (.agg c.vg.cells.toArray)/\aj aA w w':=by
 obtain ⟨b,ww,m,r,cc,l,s⟩:=c
 have HT:=au hT
 clear hT
 obtain ⟨W0,hW0⟩:∃ W',W'=(w.alloc (.cells #[ah b,ah ww,ah m,ah r,ah cc,ah l,ah s] 23)).alloc (.cells #[ah 0,ah 0,ah 0,ah 0,ah 0,ah 0,ah 0] 23):=⟨_,rfl⟩
 have HA:Hid (aB W0 w.heap.size (aS.part ⟨b,ww,m,r,cc,l,s⟩ 0) 23):=by rw [hW0];exact (aB.aW w _ _).alloc _
 have HB:Hid (aB W0 (w.heap.size+1) [ah 0,ah 0,ah 0,ah 0,ah 0,ah 0,ah 0] 23):=by rw [hW0];have h:=aB.aW (w.alloc (.cells #[ah b,ah ww,ah m,ah r,ah cc,ah l,ah s] 23)) [ah 0,ah 0,ah 0,ah 0,ah 0,ah 0,ah 0] 23;simp only [abw] at h;exact h
 have HK:Hid (aj aA w W0):=by rw [hW0];exact ((aj.refl _ _).alloc _).alloc _
 simp only [aS.cells]
 go_enter func118,ntmps118
 go_wp2_with fail
 rw [<- hW0]
 clear hW0
 refine (Jy _ _).mono ?_
 rintro e w1 ⟨rfl,hk1⟩
 have HA1:=au (hk1.aC HA.out (fun f=>f))
 have HB1:=au (hk1.aC HB.out (fun f=>f))
 have aZ:=au (HK.out.trans hk1)
 clear hk1 HA HB HK
 simp only [yK]
 go_wp2_with fail
 go_loopg [3,4,6] 7 (fun g x y i wr=>∃ k:Nat,g+k=7/\i = ah k/\Hid (aB wr w.heap.size (aS.part ⟨b,ww,m,r,cc,l,s⟩ k) 23)/\Hid (aB wr (w.heap.size+1) [ah 0,ah 0,ah 0,ah 0,ah 0,ah 0,ah 0] 23)/\Hid (aj aA w wr))
 case atStart=>exact ⟨0,rfl,rfl,HA1,HB1,aZ⟩
 case round =>
  obtain ⟨k,hg,rfl,HA2,HB2,bH⟩:=hrel
  clear HA1 HB1 aZ
  have e:k=0\/k=1\/k=2\/k=3\/k=4\/k=5\/k=6\/k=7:=by omega
  rcases e with rfl|rfl|rfl|rfl|rfl|rfl|rfl|rfl
  ·have hix:∀ w':World,(Instr.index 204 (.agg (#[ak w.heap.size,.pointer (some ⟨w.heap.size,1,none⟩),.pointer (some ⟨w.heap.size,2,none⟩),.pointer (some ⟨w.heap.size,3,none⟩),.pointer (some ⟨w.heap.size,4,none⟩),.pointer (some ⟨w.heap.size,5,none⟩),.pointer (some ⟨w.heap.size,6,none⟩)])) (ah 0)).run ay w' = .ok (ak w.heap.size) w':=fun w'=>by kernel_rfl
   simp only [show (((0:Nat):Int))=0 from rfl]
   have d:=HA2.out.cell 0 (v := ah b) rfl
   have z:=HA2.out.free 0
   have m0:=(HT.out.aH bH.out).qR 0 _ rfl
   have m1:=(HT.out.aH bH.out).qR 1 _ rfl
   have HN:Hid (aB ((wr.setCell ⟨w.heap.size,0,none⟩ (ah (bW 1 4096 b))).drew) w.heap.size (aS.part ⟨b,ww,m,r,cc,l,s⟩ 1) 23):=(HA2.out.set 0 (ah (bW 1 4096 b))).drew
   have gG:Hid (aB ((wr.setCell ⟨w.heap.size,0,none⟩ (ah (bW 1 4096 b))).drew) (w.heap.size+1) [ah 0,ah 0,ah 0,ah 0,ah 0,ah 0,ah 0] 23):=(HB2.out.og (a:=⟨w.heap.size,0,none⟩) (by simp) _).drew
   have iF:Hid (aj aA w ((wr.setCell ⟨w.heap.size,0,none⟩ (ah (bW 1 4096 b))).drew)):=(bH.out.dS (abg _) _ _).drew
   go_wp2_with fail
   refine wp_region_still_tail 15 (by kernel_rfl) (by kernel_rfl) ?_
   change wpStill _ _ (abx _) _ _ _
   simp only [List.take_succ_cons,aby,abz,abt]
   repeat still_step
   refine wpStill_nil ?_
   change wpList _ _ _ _ _ wr.drew
   go_wp2_with fail
   all_goals first
    | (have hv:bW 1 4096 b=b:=by unfold bW;omega
       rw [hv] at HN gG iF
       go_roundg (gk - 1)
       case measure=>omega
       case rel=>exact ⟨1,by omega,rfl,HN,gG,iF⟩)
    | (have hv:bW 1 4096 b=1:=by unfold bW;omega
       rw [hv] at HN gG iF
       go_roundg (gk - 1)
       case measure=>omega
       case rel=>exact ⟨1,by omega,rfl,HN,gG,iF⟩)
    | (have hv:bW 1 4096 b=4096:=by unfold bW;omega
       rw [hv] at HN gG iF
       go_roundg (gk - 1)
       case measure=>omega
       case rel=>exact ⟨1,by omega,rfl,HN,gG,iF⟩)
  ·have hix:∀ w':World,(Instr.index 204 (.agg (#[ak w.heap.size,.pointer (some ⟨w.heap.size,1,none⟩),.pointer (some ⟨w.heap.size,2,none⟩),.pointer (some ⟨w.heap.size,3,none⟩),.pointer (some ⟨w.heap.size,4,none⟩),.pointer (some ⟨w.heap.size,5,none⟩),.pointer (some ⟨w.heap.size,6,none⟩)])) (ah 1)).run ay w' = .ok (.pointer (some ⟨w.heap.size,1,none⟩)) w':=fun w'=>by kernel_rfl
   simp only [show (((1:Nat):Int))=1 from rfl]
   have d:=HA2.out.cell 1 (v := ah ww) rfl
   have z:=HA2.out.free 1
   have m0:=(HT.out.aH bH.out).qR 2 _ rfl
   have m1:=(HT.out.aH bH.out).qR 3 _ rfl
   have HN:Hid (aB ((wr.setCell ⟨w.heap.size,1,none⟩ (ah (bW 16 256 ww))).drew) w.heap.size (aS.part ⟨b,ww,m,r,cc,l,s⟩ 2) 23):=(HA2.out.set 1 (ah (bW 16 256 ww))).drew
   have gG:Hid (aB ((wr.setCell ⟨w.heap.size,1,none⟩ (ah (bW 16 256 ww))).drew) (w.heap.size+1) [ah 0,ah 0,ah 0,ah 0,ah 0,ah 0,ah 0] 23):=(HB2.out.og (a:=⟨w.heap.size,1,none⟩) (by simp) _).drew
   have iF:Hid (aj aA w ((wr.setCell ⟨w.heap.size,1,none⟩ (ah (bW 16 256 ww))).drew)):=(bH.out.dS (abg _) _ _).drew
   go_wp2_with fail
   refine wp_region_still_tail 15 (by kernel_rfl) (by kernel_rfl) ?_
   change wpStill _ _ (abx _) _ _ _
   simp only [List.take_succ_cons,aby,abz,abt]
   repeat still_step
   refine wpStill_nil ?_
   change wpList _ _ _ _ _ wr.drew
   go_wp2_with fail
   all_goals first
    | (have hv:bW 16 256 ww=ww:=by unfold bW;omega
       rw [hv] at HN gG iF
       go_roundg (gk - 1)
       case measure=>omega
       case rel=>exact ⟨2,by omega,rfl,HN,gG,iF⟩)
    | (have hv:bW 16 256 ww=16:=by unfold bW;omega
       rw [hv] at HN gG iF
       go_roundg (gk - 1)
       case measure=>omega
       case rel=>exact ⟨2,by omega,rfl,HN,gG,iF⟩)
    | (have hv:bW 16 256 ww=256:=by unfold bW;omega
       rw [hv] at HN gG iF
       go_roundg (gk - 1)
       case measure=>omega
       case rel=>exact ⟨2,by omega,rfl,HN,gG,iF⟩)
  ·have hix:∀ w':World,(Instr.index 204 (.agg (#[ak w.heap.size,.pointer (some ⟨w.heap.size,1,none⟩),.pointer (some ⟨w.heap.size,2,none⟩),.pointer (some ⟨w.heap.size,3,none⟩),.pointer (some ⟨w.heap.size,4,none⟩),.pointer (some ⟨w.heap.size,5,none⟩),.pointer (some ⟨w.heap.size,6,none⟩)])) (ah 2)).run ay w' = .ok (.pointer (some ⟨w.heap.size,2,none⟩)) w':=fun w'=>by kernel_rfl
   simp only [show (((2:Nat):Int))=2 from rfl]
   have d:=HA2.out.cell 2 (v := ah m) rfl
   have z:=HA2.out.free 2
   have m0:=(HT.out.aH bH.out).qR 4 _ rfl
   have m1:=(HT.out.aH bH.out).qR 5 _ rfl
   have HN:Hid (aB ((wr.setCell ⟨w.heap.size,2,none⟩ (ah (bW 1 8 m))).drew) w.heap.size (aS.part ⟨b,ww,m,r,cc,l,s⟩ 3) 23):=(HA2.out.set 2 (ah (bW 1 8 m))).drew
   have gG:Hid (aB ((wr.setCell ⟨w.heap.size,2,none⟩ (ah (bW 1 8 m))).drew) (w.heap.size+1) [ah 0,ah 0,ah 0,ah 0,ah 0,ah 0,ah 0] 23):=(HB2.out.og (a:=⟨w.heap.size,2,none⟩) (by simp) _).drew
   have iF:Hid (aj aA w ((wr.setCell ⟨w.heap.size,2,none⟩ (ah (bW 1 8 m))).drew)):=(bH.out.dS (abg _) _ _).drew
   go_wp2_with fail
   refine wp_region_still_tail 15 (by kernel_rfl) (by kernel_rfl) ?_
   change wpStill _ _ (abx _) _ _ _
   simp only [List.take_succ_cons,aby,abz,abt]
   repeat still_step
   refine wpStill_nil ?_
   change wpList _ _ _ _ _ wr.drew
   go_wp2_with fail
   all_goals first
    | (have hv:bW 1 8 m=m:=by unfold bW;omega
       rw [hv] at HN gG iF
       go_roundg (gk - 1)
       case measure=>omega
       case rel=>exact ⟨3,by omega,rfl,HN,gG,iF⟩)
    | (have hv:bW 1 8 m=1:=by unfold bW;omega
       rw [hv] at HN gG iF
       go_roundg (gk - 1)
       case measure=>omega
       case rel=>exact ⟨3,by omega,rfl,HN,gG,iF⟩)
    | (have hv:bW 1 8 m=8:=by unfold bW;omega
       rw [hv] at HN gG iF
       go_roundg (gk - 1)
       case measure=>omega
       case rel=>exact ⟨3,by omega,rfl,HN,gG,iF⟩)
  ·have hix:∀ w':World,(Instr.index 204 (.agg (#[ak w.heap.size,.pointer (some ⟨w.heap.size,1,none⟩),.pointer (some ⟨w.heap.size,2,none⟩),.pointer (some ⟨w.heap.size,3,none⟩),.pointer (some ⟨w.heap.size,4,none⟩),.pointer (some ⟨w.heap.size,5,none⟩),.pointer (some ⟨w.heap.size,6,none⟩)])) (ah 3)).run ay w' = .ok (.pointer (some ⟨w.heap.size,3,none⟩)) w':=fun w'=>by kernel_rfl
   simp only [show (((3:Nat):Int))=3 from rfl]
   have d:=HA2.out.cell 3 (v := ah r) rfl
   have z:=HA2.out.free 3
   have m0:=(HT.out.aH bH.out).qR 6 _ rfl
   have m1:=(HT.out.aH bH.out).qR 7 _ rfl
   have HN:Hid (aB ((wr.setCell ⟨w.heap.size,3,none⟩ (ah (bW 1 64 r))).drew) w.heap.size (aS.part ⟨b,ww,m,r,cc,l,s⟩ 4) 23):=(HA2.out.set 3 (ah (bW 1 64 r))).drew
   have gG:Hid (aB ((wr.setCell ⟨w.heap.size,3,none⟩ (ah (bW 1 64 r))).drew) (w.heap.size+1) [ah 0,ah 0,ah 0,ah 0,ah 0,ah 0,ah 0] 23):=(HB2.out.og (a:=⟨w.heap.size,3,none⟩) (by simp) _).drew
   have iF:Hid (aj aA w ((wr.setCell ⟨w.heap.size,3,none⟩ (ah (bW 1 64 r))).drew)):=(bH.out.dS (abg _) _ _).drew
   go_wp2_with fail
   refine wp_region_still_tail 15 (by kernel_rfl) (by kernel_rfl) ?_
   change wpStill _ _ (abx _) _ _ _
   simp only [List.take_succ_cons,aby,abz,abt]
   repeat still_step
   refine wpStill_nil ?_
   change wpList _ _ _ _ _ wr.drew
   go_wp2_with fail
   all_goals first
    | (have hv:bW 1 64 r=r:=by unfold bW;omega
       rw [hv] at HN gG iF
       go_roundg (gk - 1)
       case measure=>omega
       case rel=>exact ⟨4,by omega,rfl,HN,gG,iF⟩)
    | (have hv:bW 1 64 r=1:=by unfold bW;omega
       rw [hv] at HN gG iF
       go_roundg (gk - 1)
       case measure=>omega
       case rel=>exact ⟨4,by omega,rfl,HN,gG,iF⟩)
    | (have hv:bW 1 64 r=64:=by unfold bW;omega
       rw [hv] at HN gG iF
       go_roundg (gk - 1)
       case measure=>omega
       case rel=>exact ⟨4,by omega,rfl,HN,gG,iF⟩)
  ·have hix:∀ w':World,(Instr.index 204 (.agg (#[ak w.heap.size,.pointer (some ⟨w.heap.size,1,none⟩),.pointer (some ⟨w.heap.size,2,none⟩),.pointer (some ⟨w.heap.size,3,none⟩),.pointer (some ⟨w.heap.size,4,none⟩),.pointer (some ⟨w.heap.size,5,none⟩),.pointer (some ⟨w.heap.size,6,none⟩)])) (ah 4)).run ay w' = .ok (.pointer (some ⟨w.heap.size,4,none⟩)) w':=fun w'=>by kernel_rfl
   simp only [show (((4:Nat):Int))=4 from rfl]
   have d:=HA2.out.cell 4 (v := ah cc) rfl
   have z:=HA2.out.free 4
   have m0:=(HT.out.aH bH.out).qR 8 _ rfl
   have m1:=(HT.out.aH bH.out).qR 9 _ rfl
   have HN:Hid (aB ((wr.setCell ⟨w.heap.size,4,none⟩ (ah (bW 0 64 cc))).drew) w.heap.size (aS.part ⟨b,ww,m,r,cc,l,s⟩ 5) 23):=(HA2.out.set 4 (ah (bW 0 64 cc))).drew
   have gG:Hid (aB ((wr.setCell ⟨w.heap.size,4,none⟩ (ah (bW 0 64 cc))).drew) (w.heap.size+1) [ah 0,ah 0,ah 0,ah 0,ah 0,ah 0,ah 0] 23):=(HB2.out.og (a:=⟨w.heap.size,4,none⟩) (by simp) _).drew
   have iF:Hid (aj aA w ((wr.setCell ⟨w.heap.size,4,none⟩ (ah (bW 0 64 cc))).drew)):=(bH.out.dS (abg _) _ _).drew
   go_wp2_with fail
   refine wp_region_still_tail 15 (by kernel_rfl) (by kernel_rfl) ?_
   change wpStill _ _ (abx _) _ _ _
   simp only [List.take_succ_cons,aby,abz,abt]
   repeat still_step
   refine wpStill_nil ?_
   change wpList _ _ _ _ _ wr.drew
   go_wp2_with fail
   all_goals first
    | (have hv:bW 0 64 cc=cc:=by unfold bW;omega
       rw [hv] at HN gG iF
       go_roundg (gk - 1)
       case measure=>omega
       case rel=>exact ⟨5,by omega,rfl,HN,gG,iF⟩)
    | (have hv:bW 0 64 cc=0:=by unfold bW;omega
       rw [hv] at HN gG iF
       go_roundg (gk - 1)
       case measure=>omega
       case rel=>exact ⟨5,by omega,rfl,HN,gG,iF⟩)
    | (have hv:bW 0 64 cc=64:=by unfold bW;omega
       rw [hv] at HN gG iF
       go_roundg (gk - 1)
       case measure=>omega
       case rel=>exact ⟨5,by omega,rfl,HN,gG,iF⟩)
  ·have hix:∀ w':World,(Instr.index 204 (.agg (#[ak w.heap.size,.pointer (some ⟨w.heap.size,1,none⟩),.pointer (some ⟨w.heap.size,2,none⟩),.pointer (some ⟨w.heap.size,3,none⟩),.pointer (some ⟨w.heap.size,4,none⟩),.pointer (some ⟨w.heap.size,5,none⟩),.pointer (some ⟨w.heap.size,6,none⟩)])) (ah 5)).run ay w' = .ok (.pointer (some ⟨w.heap.size,5,none⟩)) w':=fun w'=>by kernel_rfl
   simp only [show (((5:Nat):Int))=5 from rfl]
   have d:=HA2.out.cell 5 (v := ah l) rfl
   have z:=HA2.out.free 5
   have m0:=(HT.out.aH bH.out).qR 10 _ rfl
   have m1:=(HT.out.aH bH.out).qR 11 _ rfl
   have HN:Hid (aB ((wr.setCell ⟨w.heap.size,5,none⟩ (ah (bW 1 256 l))).drew) w.heap.size (aS.part ⟨b,ww,m,r,cc,l,s⟩ 6) 23):=(HA2.out.set 5 (ah (bW 1 256 l))).drew
   have gG:Hid (aB ((wr.setCell ⟨w.heap.size,5,none⟩ (ah (bW 1 256 l))).drew) (w.heap.size+1) [ah 0,ah 0,ah 0,ah 0,ah 0,ah 0,ah 0] 23):=(HB2.out.og (a:=⟨w.heap.size,5,none⟩) (by simp) _).drew
   have iF:Hid (aj aA w ((wr.setCell ⟨w.heap.size,5,none⟩ (ah (bW 1 256 l))).drew)):=(bH.out.dS (abg _) _ _).drew
   go_wp2_with fail
   refine wp_region_still_tail 15 (by kernel_rfl) (by kernel_rfl) ?_
   change wpStill _ _ (abx _) _ _ _
   simp only [List.take_succ_cons,aby,abz,abt]
   repeat still_step
   refine wpStill_nil ?_
   change wpList _ _ _ _ _ wr.drew
   go_wp2_with fail
   all_goals first
    | (have hv:bW 1 256 l=l:=by unfold bW;omega
       rw [hv] at HN gG iF
       go_roundg (gk - 1)
       case measure=>omega
       case rel=>exact ⟨6,by omega,rfl,HN,gG,iF⟩)
    | (have hv:bW 1 256 l=1:=by unfold bW;omega
       rw [hv] at HN gG iF
       go_roundg (gk - 1)
       case measure=>omega
       case rel=>exact ⟨6,by omega,rfl,HN,gG,iF⟩)
    | (have hv:bW 1 256 l=256:=by unfold bW;omega
       rw [hv] at HN gG iF
       go_roundg (gk - 1)
       case measure=>omega
       case rel=>exact ⟨6,by omega,rfl,HN,gG,iF⟩)
  ·have hix:∀ w':World,(Instr.index 204 (.agg (#[ak w.heap.size,.pointer (some ⟨w.heap.size,1,none⟩),.pointer (some ⟨w.heap.size,2,none⟩),.pointer (some ⟨w.heap.size,3,none⟩),.pointer (some ⟨w.heap.size,4,none⟩),.pointer (some ⟨w.heap.size,5,none⟩),.pointer (some ⟨w.heap.size,6,none⟩)])) (ah 6)).run ay w' = .ok (.pointer (some ⟨w.heap.size,6,none⟩)) w':=fun w'=>by kernel_rfl
   simp only [show (((6:Nat):Int))=6 from rfl]
   have d:=HA2.out.cell 6 (v := ah s) rfl
   have z:=HA2.out.free 6
   have m0:=(HT.out.aH bH.out).qR 12 _ rfl
   have m1:=(HT.out.aH bH.out).qR 13 _ rfl
   have HN:Hid (aB ((wr.setCell ⟨w.heap.size,6,none⟩ (ah (bW 1 4096 s))).drew) w.heap.size (aS.part ⟨b,ww,m,r,cc,l,s⟩ 7) 23):=(HA2.out.set 6 (ah (bW 1 4096 s))).drew
   have gG:Hid (aB ((wr.setCell ⟨w.heap.size,6,none⟩ (ah (bW 1 4096 s))).drew) (w.heap.size+1) [ah 0,ah 0,ah 0,ah 0,ah 0,ah 0,ah 0] 23):=(HB2.out.og (a:=⟨w.heap.size,6,none⟩) (by simp) _).drew
   have iF:Hid (aj aA w ((wr.setCell ⟨w.heap.size,6,none⟩ (ah (bW 1 4096 s))).drew)):=(bH.out.dS (abg _) _ _).drew
   go_wp2_with fail
   refine wp_region_still_tail 15 (by kernel_rfl) (by kernel_rfl) ?_
   change wpStill _ _ (abx _) _ _ _
   simp only [List.take_succ_cons,aby,abz,abt]
   repeat still_step
   refine wpStill_nil ?_
   change wpList _ _ _ _ _ wr.drew
   go_wp2_with fail
   all_goals first
    | (have hv:bW 1 4096 s=s:=by unfold bW;omega
       rw [hv] at HN gG iF
       go_roundg (gk - 1)
       case measure=>omega
       case rel=>exact ⟨7,by omega,rfl,HN,gG,iF⟩)
    | (have hv:bW 1 4096 s=1:=by unfold bW;omega
       rw [hv] at HN gG iF
       go_roundg (gk - 1)
       case measure=>omega
       case rel=>exact ⟨7,by omega,rfl,HN,gG,iF⟩)
    | (have hv:bW 1 4096 s=4096:=by unfold bW;omega
       rw [hv] at HN gG iF
       go_roundg (gk - 1)
       case measure=>omega
       case rel=>exact ⟨7,by omega,rfl,HN,gG,iF⟩)
  ·simp only [show (((7:Nat):Int))=7 from rfl]
   have a0:=HA2.out.cell 0 rfl;have a1:=HA2.out.cell 1 rfl;have a2:=HA2.out.cell 2 rfl;have a3:=HA2.out.cell 3 rfl;have a4:=HA2.out.cell 4 rfl;have a5:=HA2.out.cell 5 rfl;have a6:=HA2.out.cell 6 rfl
   have y0:=HB2.out.cell 0 rfl;have y1:=HB2.out.cell 1 rfl;have y2:=HB2.out.cell 2 rfl;have y3:=HB2.out.cell 3 rfl;have y4:=HB2.out.cell 4 rfl;have y5:=HB2.out.cell 5 rfl;have y6:=HB2.out.cell 6 rfl
   have z0:=HB2.out.free 0;have z1:=HB2.out.free 1;have z2:=HB2.out.free 2;have z3:=HB2.out.free 3;have z4:=HB2.out.free 4;have z5:=HB2.out.free 5;have z6:=HB2.out.free 6
   clear hg
   go_wp2_with fail
   obtain ⟨q,hq⟩:∃ q,q=aS.vg ⟨b,ww,m,r,cc,l,s⟩:=⟨_,rfl⟩
   rw [<- hq]
   have hB:=((((((HB2.out.set 0 (ah q.b)).set 1 (ah q.w)).set 2 (ah q.m)).set 3 (ah q.r)).set 4 (ah q.c)).set 5 (ah q.l)).set 6 (ah q.s)
   have hk:=((((((bH.out.dS (B:=w.heap.size+1) (abA _) 0 (ah q.b)).dS (B:=w.heap.size+1) (abA _) 1 (ah q.w)).dS (B:=w.heap.size+1) (abA _) 2 (ah q.m)).dS (B:=w.heap.size+1) (abA _) 3 (ah q.r)).dS (B:=w.heap.size+1) (abA _) 4 (ah q.c)).dS (B:=w.heap.size+1) (abA _) 5 (ah q.l)).dS (B:=w.heap.size+1) (abA _) 6 (ah q.s)
   have k0:=hB.cell 0 rfl;have k1:=hB.cell 1 rfl;have k2:=hB.cell 2 rfl;have k3:=hB.cell 3 rfl;have k4:=hB.cell 4 rfl;have k5:=hB.cell 5 rfl;have k6:=hB.cell 6 rfl
   exact bodyPost_ret (by simp [results,Tryz.f118,go_sem,k0,k1,k2,k3,k4,k5,k6]) rfl ⟨rfl,hk⟩
theorem ru {lo hi x:Int} (h:lo<=x/\x<=hi):bW lo hi x=x:=by unfold bW;omega
theorem rC {lo hi x:Int} (hl:lo<=hi) (h:bW lo hi x=x):lo<=x/\x<=hi:=by unfold bW at h;omega
theorem aS.RJ (c:aS):c.ok=decide (c.vg=c):=by
 obtain ⟨b,ww,m,r,cc,l,s⟩:=c
 rw [Bool.eq_iff_iff,decide_eq_true_eq]
 simp only [aS.ok,aS.vg,aS.mk.injEq,Bool.and_eq_true,decide_eq_true_eq]
 constructor
 ·rintro ⟨⟨⟨⟨⟨⟨h0,h1⟩,h2⟩,h3⟩,h4⟩,h5⟩,h6⟩
  exact ⟨ru h0,ru h1,ru h2,ru h3,ru h4,ru h5,ru h6⟩
 ·rintro ⟨h0,h1,h2,h3,h4,h5,h6⟩
  exact ⟨⟨⟨⟨⟨⟨rC (by decide) h0,rC (by decide) h1⟩,rC (by decide) h2⟩,rC (by decide) h3⟩,rC (by decide) h4⟩,rC (by decide) h5⟩,rC (by decide) h6⟩
theorem vk (c:aS) (w:World) (hT:gY w):Calls ay 86 #[.agg c.cells.toArray] w fun e w'=>e = .returned (.bool c.ok)/\aj aA w w':=by
 obtain ⟨W0,hW0⟩:∃ W',W'=w.alloc (.cells c.cells.toArray 23):=⟨_,rfl⟩
 have HA:Hid (aB W0 w.heap.size c.cells 23):=by rw [hW0];exact aB.aW w _ _
 have HK:Hid (aj aA w W0):=by rw [hW0];exact (aj.refl _ _).alloc _
 have HT:=au (hT.aH HK.out)
 clear hT
 have HQ:Hid (∀ w':World,(binOp .eql 23 (.agg c.vg.cells.toArray) (.agg c.cells.toArray)).run ay w' = .ok (.bool c.ok) w'):=fun w'=>by
  rw [aS.RJ]
  obtain ⟨b,ww,m,r,cc,l,s⟩:=c
  simp only [aS.vg,aS.cells,aS.mk.injEq]
  generalize bW 1 4096 b=q0
  generalize bW 16 256 ww=q1
  generalize bW 1 8 m=q2
  generalize bW 1 64 r=q3
  generalize bW 0 64 cc=q4
  generalize bW 1 256 l=q5
  generalize bW 1 4096 s=q6
  clear HT HK HA hW0
  go_simp
  by_cases e0:q0=b
  ·by_cases e1:q1=ww
   ·by_cases e2:q2=m
    ·by_cases e3:q3=r
     ·by_cases e4:q4=cc
      ·by_cases e5:q5=l
       ·by_cases e6:q6=s
        ·simp [e0,e1,e2,e3,e4,e5,e6]
        ·simp [e0,e1,e2,e3,e4,e5,e6]
       ·simp [e0,e1,e2,e3,e4,e5]
      ·simp [e0,e1,e2,e3,e4]
     ·simp [e0,e1,e2,e3]
    ·simp [e0,e1,e2]
   ·simp [e0,e1]
  ·simp [e0]
 have HC:=au (fun w' (h:aj aA W0 w')=>O5 c w' (HT.out.aH h))
 obtain ⟨cl,hcl⟩:∃ cl,cl=c.vg:=⟨_,rfl⟩
 rw [<- hcl] at HC HQ
 clear hcl
 obtain ⟨ok,hok⟩:∃ ok,ok=c.ok:=⟨_,rfl⟩
 rw [<- hok] at HQ ⊢
 clear hok
 have hQ:=HQ.out
 have q0:=cell_regrown (HA.out.cell 0 rfl)
 have q1:=cell_regrown (HA.out.cell 1 rfl)
 have q2:=cell_regrown (HA.out.cell 2 rfl)
 have q3:=cell_regrown (HA.out.cell 3 rfl)
 have q4:=cell_regrown (HA.out.cell 4 rfl)
 have q5:=cell_regrown (HA.out.cell 5 rfl)
 have q6:=cell_regrown (HA.out.cell 6 rfl)
 obtain ⟨b,ww,m,r,cc,l,s⟩:=c
 simp only [aS.cells] at *
 go_enter func86,ntmps86
 go_wp2_with fail
 rw [<- hW0]
 clear hW0 HQ
 refine wp_region_quiet_below (by kernel_rfl) (by kernel_rfl) ?_
 repeat (quiet_step (exact FQ (HC.out _ (yJ _ _ _))))
 refine wpQuiet_nil ?_
 intro _ hw9
 obtain ⟨⟨dq,osq⟩,hw8⟩:=hw9
 subst hw8
 have hk3:=HK.out.trans (yJ W0 dq osq)
 generalize grow (redrawn W0 dq) osq=w3 at hk3 ⊢
 go_wp2_with fail
 go_ret
 exact ⟨rfl,hk3⟩
end
end Go.Proofs.YtobfpmijbfgmeabGreatDoor
