/- Parts of the fP. No conditions. -/
import Derived.Test.YtoamcpbapedofaaGreatDoorRows
import Derived.Lib.LaidTab
import Derived.OpenShut
import Derived.MakeChecks
import Derived.Stop.LaidErr
import Derived.Deep.Slices
import Derived.WalkSpells
import Derived.WalkLawsBesides
import Derived.BigQuiet
import Derived.StillTailTactics
import Derived.Lib.QuietBelowIn
import Derived.OwnWalkIn
import Derived.Deep.LoopGhost
import Derived.Deep.RegionHeld3
import Derived.Test.YtoamcpbapedofaaGreatDoorZzw0
namespace Go.Proofs.YtoamcpbapedofaaGreatDoor
open _root_.Array renaming getElem?_eq_getElem->Hl
open _root_.Go.World renaming block_lt_of_cell?->Hr,drew->Ia,size_alloc->H9
open _root_.List renaming drop_succ_cons->Ib,drop_zero->H7,getElem?_append_left->Hu,getElem?_append_right->Hw,getElem?_eq_getElem->Hz,replicate->Ht,take_add->Hy,take_of_length_le->H8
open _root_.Nat renaming le_refl->Ho,le_succ->Ic,lt_of_lt_of_le->Hq
open _root_.Go.Proofs.Tryz hiding prog
open _root_.Go.Proofs.Tryz renaming prog->ay
set_option maxRecDepth 4000
set_option maxHeartbeats 4000000
section
open Go
variable {H:Type} {enc:TypeId × Value->H}
theorem oh {a:Assume} {C:Checked} {os:Os} {f:FuncId} {fn:Func} {s:ChangeSpec} {conds:List PathCond} {apart ig handsOn iq:Bool} {X:World->Array Value->Prop}
 (hX:∀ (w w':World) (args:Array Value),w.heap=w'.heap->X w args->X w' args)
 (own:ownKnob C.prog.godebug=none) (started:os.Started) (noInit:C.prog.inits.idxOf? f=none) (hfn:C.prog.funcs[f]?=some fn)
 (witness:∃ (w:World) (tape:Tape) (i:Input),w.os=os/\(w.forCall tape i).Shaped C.prog/\i.vars=[]/\Input.okWide C.prog (w.forCall tape i) .any w.heap.size f i /\
  ((s.pre enc C.prog fn conds apart (w.forCall tape i).memory i.args/\X (w.forCall tape i).memory i.args)/\sizedMet enc C.prog fn (OpenSpec.ofChange s) apart (w.forCall tape i).memory i.args)/\a.holds C.prog (lone (Frame.enter C.prog f i.args .normal) [] (w.forCall tape i)))
 (contract:∀ (W:World) (base:Nat) (args:Array Value) (ds gs:List (DataW H)) (before:List MemPlace),
  (∀ (j:Nat) t v,fn.params[j]?=some t->args[j]?=some v->Value.okWide C.prog W .any base t v) ->
  DataW.Whole enc C.prog fn.params.toList s.vars apart W args.toList ds gs before->X W args->W.ShapedOpen C.prog ->
  Calls C.prog f args W fun e W'=>∃ v,e = .returned v/\s.post enc C.prog fn apart ig handsOn iq W args v W') :
 ReturnsInHanded a C os f .any (fun w args=>(s.pre enc C.prog fn conds apart w args/\X w args)/\sizedMet enc C.prog fn (OpenSpec.ofChange s) apart w args) (s.post enc C.prog fn apart ig handsOn iq):=by
 refine returnsInHanded_of_calls own started noInit witness ?_
 intro w tape i _ hsh _ hok hpre _
 obtain ⟨_,_,_,fn',hfn',_,_,_,_,hval⟩:=hok
 obtain rfl:fn'=fn:=Option.some.inj (hfn'.symm.trans hfn)
 obtain ⟨⟨⟨ds,gs,before,hw,_⟩,hx⟩,_⟩:=hpre
 refine (contract (w.forCall tape i) w.heap.size i.args ds gs before hval (DataW.Whole.of_heap (w':=w.forCall tape i) (by rfl) hw) (hX _ _ _ (by rfl) hx) hsh).mono fun e W' ⟨v,he,hp⟩=>?_
 subst he
 exact ChangeSpec.post_blind hp
end
section
open Go.RowKit
def aC (w:World) (B:Nat) (cs:List Value) (T:TypeId):Prop:=w.heap[B]?=some (.cells cs.toArray T (0,0))
theorem aC.cell {w B cs T} (h:aC w B cs T) (i:Nat) {v:Value} (hi:cs[i]?=some v):w.cell? ⟨B,i,none⟩=some v:=by
 unfold aC at h
 simp [World.cell?,h,hi]
theorem aC.free {w B cs T} (h:aC w B cs T) (i:Nat):w.frozen? ⟨B,i,none⟩=false:=by
 unfold aC at h
 simp [World.frozen?,h]
theorem aC.lt {w B cs T} (h:aC w B cs T):B<w.heap.size:=lt_of_block h
theorem aC.set {w B cs T} (h:aC w B cs T) (i:Nat) (v:Value):aC (w.setCell ⟨B,i,none⟩ v) B (cs.set i v) T:=by
 have hlt:=h.lt
 unfold aC at h
 have h':w.heap[B] = .cells cs.toArray T (0,0):=by simpa [Hl hlt] using h
 show (w.heap.modify B _)[B]?=_
 rw [Hl (by simpa using hlt),Array.getElem_modify_self,h']
 simp
theorem aC.iG {w B cs T} (h:aC w B cs T) {a:Addr} (ha:B≠a.block) (v:Value):aC (w.setCell a v) B cs T:=by
 unfold aC at *
 rw [Below.heap_setCell _ _ _ _ ha];exact h
theorem aC.alloc {w B cs T} (h:aC w B cs T) (o:Obj):aC (w.alloc o) B cs T:=by
 have hlt:=h.lt
 unfold aC at *
 rw [Below.heap_alloc _ _ _ hlt];exact h
theorem aC.drew {w B cs T} (h:aC w B cs T):aC w.drew B cs T:=h
theorem aC.aS (w:World) (cs:List Value) (T:TypeId):aC (w.alloc (.cells cs.toArray T)) w.heap.size cs T:=by
 show (w.heap.push _)[w.heap.size]?=_
 simp
theorem aC.gV {w B cs cs' T T'} (h:aC w B cs T) (h':aC w B cs' T'):cs=cs'/\T=T':=by
 unfold aC at *
 rw [h] at h'
 simp at h';exact h'
structure aj (S:Nat->Prop) (w w':World):Prop where
 os:w'.os=w.os
 tape:w'.tape=w.tape
 output:w'.output=w.output
 size:w.heap.size<=w'.heap.size
 block:∀ k,k<w.heap.size->¬ S k->w'.heap[k]?=w.heap[k]?
theorem aj.refl (S:Nat->Prop) (w:World):aj S w w:=⟨rfl,rfl,rfl,Ho _,fun _ _ _=>rfl⟩
theorem aj.trans {S:Nat->Prop} {a b c:World} (h:aj S a b) (k:aj S b c):aj S a c :=
 ⟨k.os.trans h.os,k.tape.trans h.tape,k.output.trans h.output,Nat.le_trans h.size k.size,fun i hi hs=>(k.block i (Hq hi h.size) hs).trans (h.block i hi hs)⟩
theorem aj.gW {S T:Nat->Prop} {a b c:World} (h:aj S a b) (k:aj T b c) (hs:∀ i,i<a.heap.size->T i->S i):aj S a c :=
 ⟨k.os.trans h.os,k.tape.trans h.tape,k.output.trans h.output,Nat.le_trans h.size k.size,fun i hi n=>(k.block i (Hq hi h.size) (fun t=>n (hs i hi t))).trans (h.block i hi n)⟩
theorem aj.mono {S T:Nat->Prop} {a b:World} (h:aj S a b) (hs:∀ i,i<a.heap.size->S i->T i):aj T a b :=
 ⟨h.os,h.tape,h.output,h.size,fun i hi n=>h.block i hi (fun s=>n (hs i hi s))⟩
theorem aj.setCell {S:Nat->Prop} {a w:World} (h:aj S a w) {p:Addr} (hp:p.block<a.heap.size->S p.block) (u:Value):aj S a (w.setCell p u) :=
 h.gW (T:=fun i=>i=p.block) ⟨rfl,rfl,rfl,by simp [World.setCell],fun k _ n=>Below.heap_setCell _ _ _ _ n⟩ (fun i hi e=>by subst e;exact hp hi)
theorem aj.alloc {S:Nat->Prop} {a w:World} (h:aj S a w) (o:Obj):aj S a (w.alloc o) :=
 h.trans ⟨rfl,rfl,rfl,by simp,fun k hk _=>Below.heap_alloc _ _ _ hk⟩
theorem aj.drew {S:Nat->Prop} {a w:World} (h:aj S a w):aj S a w.drew:=⟨h.os,h.tape,h.output,h.size,h.block⟩
theorem aj.aO {S:Nat->Prop} {w w':World} (h:aj S w w') {B cs T} (hb:aC w B cs T) (hs:¬ S B):aC w' B cs T:=by
 have hlt:=hb.lt
 unfold aC at *
 rw [h.block B hlt hs];exact hb
theorem aj.cell {S:Nat->Prop} {w w':World} (h:aj S w w') {p:Addr} (hp:p.block<w.heap.size) (hs:¬ S p.block):w'.cell? p=w.cell? p:=World.cell?_of_block (w:=w) (h.block p.block hp hs)
theorem aj.uY {S:Nat->Prop} {w w':World} (h:aj S w w') {p:Addr} {v:Value} (hc:w.cell? p=some v) (hs:¬ S p.block):w'.cell? p=some v:=by
 rw [h.cell (Hr _ _ hc) hs];exact hc
theorem aj.Ad {w w':World} (h:Below w.heap.size w w') (S:Nat->Prop):aj S w w':=⟨h.os,h.tape,h.output,h.size,fun k hk _=>h.block k hk⟩
theorem aj.toBelow {w w':World} (h:aj (fun _=>False) w w'):Below w.heap.size w w':=⟨h.os,h.tape,h.output,h.size,fun k hk=>h.block k hk (fun f=>f)⟩
def only (B:Nat):Nat->Prop:=fun i=>i=B
def ak:Nat->Prop:=fun _=>False
theorem aj.still {w w':World} (h:aj ak w w') {p:Addr} {v:Value} (hc:w.cell? p=some v):w'.cell? p=some v:=h.uY hc (fun f=>f)
theorem aj.Dt {w0 w w':World} {B:Nat} (h:aj ak w0 w) (k:aj (only B) w w') (hB:w0.heap.size<=B):aj ak w0 w':=h.gW k (fun i hi e=>by unfold only at e;omega)
theorem aj.put {w0 w:World} {B:Nat} (h:aj (only B) w0 w) (i:Nat) (v:Value):aj (only B) w0 (w.setCell ⟨B,i,none⟩ v):=h.setCell (p:=⟨B,i,none⟩) (fun _=>rfl) v
theorem aj.bF {S:Nat->Prop} {w0 w:World} {B:Nat} (h:aj S w0 w) (hB:w0.heap.size<=B) (i:Nat) (v:Value):aj S w0 (w.setCell ⟨B,i,none⟩ v):=h.setCell (p:=⟨B,i,none⟩) (fun hl=>absurd hl (by simp;omega)) v
section
variable {H:Type} {enc:TypeId × Value->H} {P:Program} {w:World} {base:Nat} {sp:Nat->Bool} {held:Bool}
theorem wM {fuel n s:Nat} {t e:TypeId} {cs:List Value} {ds:List (DataW H)} {p:List MemPlace} (ht:P.underlying t=some (.array n e)) (hc:P.cellsOf e=s) (hct:P.cellsOf t=n*s)
 (h:DataW.trod enc P w base sp held fuel t cs=some (.agg ds,p)):cs.length=n*s/\ds.length=n/\∃ m,∀ i d,ds[i]?=some d->∃ q,DataW.trod enc P w base sp held m e ((cs.drop (i*s)).take s)=some (d,q):=by
 obtain ⟨xs,m,rfl,hx,hl,hn,hel⟩:=DataW.trod_array ht h
 simp only [Prod.mk.injEq,DataW.agg.injEq] at hx
 obtain ⟨rfl,_⟩:=hx
 refine ⟨by rw [hl,hct],by simpa using hn,m,fun i d hd=>?_⟩
 rw [List.getElem?_map,Option.map_eq_some_iff] at hd
 obtain ⟨x,hx,rfl⟩:=hd
 have hi:i<n:=by rw [<- hn];exact (List.getElem?_eq_some_iff.1 hx).1
 have:=hel i hi
 rw [hc,hx] at this
 exact ⟨x.2,this⟩
theorem gu {fuel:Nat} {t e:TypeId} {k:IntKind} {cs:List Value} {a b:Int} {p:List MemPlace} (ht:P.underlying t=some (.array 2 e)) (he:P.underlying e=some (.int k)) (hce:P.cellsOf e=1) (hct:P.cellsOf t=2)
 (h:DataW.trod enc P w base sp held fuel t cs=some (.agg [.lit (.int k a),.lit (.int k b)],p)):cs=[.int k a,.int k b] :=
 Lib.cells_of_tab (zs:=[a,b]) ht he hce hct h
end
def uZ:List Int:=[1,4096,16,256,1,8,1,64,0,64,1,256,1,4096]
def Du:List (List UInt8):=[[],[],[97,108,108,111,99],[114,115],[108,111,97,100],[114,114,102],[115,116,111,114,101],[114,102,114],[103,101,116],[114,99],[115,101,116],[99,114],[100,114,111,112],[114],[109,111,118,101],[114,114],[115,97,102,101],[]]
structure dW (w:World):Prop where
 jf:∀ i r,uZ[i]?=some r->w.cell? ⟨2,i,none⟩=some (ah r)
 rC:1<w.heap.size
theorem dW.aB {w w':World} (h:dW w) (k:aj ak w w'):dW w':=⟨fun i r hr=>k.still (h.jf i r hr),Hq h.rC k.size⟩
theorem dW.vg {S:Nat->Prop} {w w':World} (h:dW w) (k:aj S w w') (h1:¬ S 2) (_h2:¬ S 1):dW w':=⟨fun i r hr=>k.uY (h.jf i r hr) h1,Hq h.rC k.size⟩
theorem dW.lt {w:World} (h:dW w):2<w.heap.size/\1<w.heap.size:=⟨Hr _ _ (h.jf 0 1 rfl),h.rC⟩
theorem Tryz.tabU1:ay.underlying 259=some (.array 7 162):=by kernel_rfl
theorem Tryz.tabU2:ay.underlying 162=some (.array 2 3):=by kernel_rfl
theorem Tryz.tabU6:ay.underlying 3=some (.int .i64):=by kernel_rfl
theorem AU {rest : List (String × DataW Unit)} {w : World} (h : laidMet ay (("dustpan/config.limits", Rows.laid_dustpan_config_limits) :: rest) w) : ∀ i r, uZ[i]? = some r -> w.cell? ⟨2, i, none⟩ = some (ah r) := by
 ·obtain ⟨ps,⟨g,t,cs,fuel,p,q,hg,ht,hvar,hd,_,_⟩,_⟩:=h
  obtain rfl : 2 = g := Option.some.inj ((show ay.globalNamed "dustpan/config.limits" = some 2 by kernel_rfl).symm.trans hg)
  obtain rfl:259=t:=Option.some.inj ((show (ay.globals[2]?).map (·.type)=some 259 by kernel_rfl).symm.trans ht)
  obtain ⟨cs,rfl⟩:∃ l:List Value,cs=l.toArray:=⟨cs.toList,by simp⟩
  obtain ⟨hl,_,m,hel⟩:=wM (s:=2) Tryz.tabU1 (by kernel_rfl) (by kernel_rfl) hd
  have key:cs=uZ.map (Value.int .i64):=by
   obtain ⟨q0,h0⟩:=hel 0 _ rfl
   obtain ⟨q1,h1⟩:=hel 1 _ rfl
   obtain ⟨q2,h2⟩:=hel 2 _ rfl
   obtain ⟨q3,h3⟩:=hel 3 _ rfl
   obtain ⟨q4,h4⟩:=hel 4 _ rfl
   obtain ⟨q5,h5⟩:=hel 5 _ rfl
   obtain ⟨q6,h6⟩:=hel 6 _ rfl
   have e0:=gu Tryz.tabU2 Tryz.tabU6 (by kernel_rfl) (by kernel_rfl) h0
   have e1:=gu Tryz.tabU2 Tryz.tabU6 (by kernel_rfl) (by kernel_rfl) h1
   have e2:=gu Tryz.tabU2 Tryz.tabU6 (by kernel_rfl) (by kernel_rfl) h2
   have e3:=gu Tryz.tabU2 Tryz.tabU6 (by kernel_rfl) (by kernel_rfl) h3
   have e4:=gu Tryz.tabU2 Tryz.tabU6 (by kernel_rfl) (by kernel_rfl) h4
   have e5:=gu Tryz.tabU2 Tryz.tabU6 (by kernel_rfl) (by kernel_rfl) h5
   have e6:=gu Tryz.tabU2 Tryz.tabU6 (by kernel_rfl) (by kernel_rfl) h6
   clear h0 h1 h2 h3 h4 h5 h6 hel hd hvar
   match cs,hl with
   | [a0,a1,a2,a3,a4,a5,a6,a7,a8,a9,a10,a11,a12,a13],_ =>
     simp at e0 e1 e2 e3 e4 e5 e6
     simp [uZ,e0,e1,e2,e3,e4,e5,e6]
  intro i r hr
  rw [World.var?_cell (P:=ay) hg hvar i,key]
  simp [hr]
end
section
open Go.RowKit Go.ChangeShapes Go.WideShapes Go.Deep
structure yA (k:IntKind) (w:World) (a:Option Addr) (n:Nat) (zs:List Int):Prop where
 len:zs.length=n
 iD:0<n->∃ b off,a=some ⟨b,off,none⟩/\∀ j,j<n->w.cell? ⟨b,off+j,none⟩=some (.int k (zs.getD j 0))
inductive jq where
 | int (k:IntKind)
 | bool
 | string
def fH (fl:TypeId->Option (List jq)) (c:TypeId->Nat):List Field->Nat->Option (List jq)
 | [],_=>some []
 | f::r,off=>match fl f.type with
   | none=>none
   | some ks=>if f.offset=off/\c f.type=ks.length then (match fH fl c r (off+ks.length) with|none=>none|some rest=>some (ks++rest)) else none
def flat (P:Program):Nat->TypeId->Option (List jq)
 | 0,_=>none
 | n+1,t=>match P.underlying t with
   | some (.int k)=>some [.int k]
   | some .bool=>some [.bool]
   | some .string=>some [.string]
   | some (.struct fs)=>match fH (flat P n) P.cellsOf fs.toList 0 with
     | none=>none
     | some ks=>if P.cellsOf t=ks.length then some ks else none
   | some (.array m e)=>match flat P n e with
     | none=>none
     | some ks=>if P.cellsOf e=ks.length/\P.cellsOf t=m*ks.length then some (Ht m ks).flatten else none
   | _=>none
def wO:jq->Value->Prop
 | .int k,v=>∃ n,v = .int k n/\(Lit.int k n).wf=true
 | .bool,v=>∃ b,v = .bool b
 | .string,v=>∃ s:ByteArray,v = .string s/\s.size<=maxLen
structure dG (ks:List jq) (cs:List Value):Prop where
 len:cs.length=ks.length
 iD:∀ (i:Nat) (k:jq),ks[i]?=some k->∃ v,cs[i]?=some v/\wO k v
theorem dG.nil:dG [] []:=⟨rfl,fun i k h=>by simp at h⟩
theorem dG.one {k:jq} {v:Value} (h:wO k v):dG [k] [v]:=⟨rfl,fun i k' h'=>by
 cases i with
 | zero=>simp at h';subst h';exact ⟨v,rfl,h⟩
 | succ i=>simp at h'⟩
theorem dG.append {ks ks':List jq} {cs cs':List Value} (h:dG ks cs) (h':dG ks' cs'):dG (ks++ks') (cs++cs'):=by
 have hl:=h.len
 refine ⟨by simp [h.len,h'.len],fun i k hk=>?_⟩
 rcases Nat.lt_or_ge i ks.length with hi|hi
 ·rw [Hu hi] at hk
  rw [Hu (by omega)]
  exact h.iD i k hk
 ·rw [Hw hi] at hk
  rw [Hw (by omega),hl]
  exact h'.iD _ k hk
section
variable {H:Type} {enc:TypeId × Value->H} {P:Program} {w:World} {base:Nat} {spare:Nat->Bool} {held:Bool}
theorem qM (m:Nat) (n:Nat) (cs:List Value)
 (ih:∀ (t:TypeId) (cs:List Value) (x:DataW H × List MemPlace) (ks:List jq),DataW.trod enc P w base spare held n t cs=some x->flat P m t=some ks->dG ks cs) :
 ∀ (fs:List Field) (off:Nat) (ks:List jq),fH (flat P m) P.cellsOf fs off=some ks ->
  (∀ f∈fs,∃ x,DataW.trod enc P w base spare held n f.type ((cs.drop f.offset).take (P.cellsOf f.type))=some x)->dG ks ((cs.drop off).take ks.length):=by
 intro fs
 induction fs with
 | nil =>
   intro off ks h _
   simp [fH] at h
   subst h
   simpa using dG.nil
 | cons f r ihr =>
   intro off ks h hx
   unfold fH at h
   cases h1:flat P m f.type with
   | none=>simp [h1] at h
   | some k1 =>
     simp only [h1] at h
     split at h
     ·rename_i hc
      obtain ⟨ho,hl⟩:=hc
      cases h2:fH (flat P m) P.cellsOf r (off+k1.length) with
      | none=>simp [h2] at h
      | some k2 =>
        simp only [h2,Option.some.injEq] at h
        subst h
        obtain ⟨x,ht⟩:=hx f (by simp)
        rw [ho,hl] at ht
        have a1:=ih _ _ _ _ ht h1
        have a2:=ihr _ _ h2 (fun g hg=>hx g (by simp [hg]))
        have:=a1.append a2
        rw [<- List.drop_drop,<- Hy] at this
        simpa using this
     ·cases h
theorem Ae:∀ (m n:Nat) (t:TypeId) (cs:List Value) (x:DataW H × List MemPlace) (ks:List jq),DataW.trod enc P w base spare held n t cs=some x->flat P m t=some ks->dG ks cs:=by
 intro m
 induction m with
 | zero=>intro n t cs x ks _ h;simp [flat] at h
 | succ m DC =>
   intro n t cs x ks hx h
   unfold flat at h
   cases hu:P.underlying t with
   | none=>simp [hu] at h
   | some d =>
     rw [hu] at h
     cases d with
     | int k =>
       simp at h;subst h
       obtain ⟨q,rfl,_,hq⟩:=DataW.trod_int hu hx
       exact dG.one ⟨q,rfl,hq⟩
     | bool =>
       simp at h;subst h
       obtain ⟨q,rfl,_⟩:=DataW.trod_bool hu hx
       exact dG.one ⟨q,rfl⟩
     | string =>
       simp at h;subst h
       obtain ⟨q,rfl,_,hq⟩:=DataW.trod_string hu hx
       exact dG.one ⟨q,rfl,hq⟩
     | struct fs =>
       simp only at h
       cases rD:fH (flat P m) P.cellsOf fs.toList 0 with
       | none=>simp [rD] at h
       | some ks' =>
         simp only [rD] at h
         split at h
         ·rename_i hcl
          simp only [Option.some.injEq] at h
          subst h
          obtain ⟨xs,n',rfl,_,hl,hxl,hf⟩:=DataW.trod_struct hu hx
          have:=qM m n' cs (fun t cs x ks a b=>DC n' t cs x ks a b) fs.toList 0 ks' rD (fun f hm=>by
           obtain ⟨i,hi⟩:=List.mem_iff_getElem?.1 hm
           have hi':fs[i]?=some f:=by simpa using hi
           have hlt:i<xs.length:=by rw [hxl];exact (Array.getElem?_eq_some_iff.1 hi').1
           exact ⟨xs[i],by rw [hf i f hi',Hz hlt]⟩)
          have e:(cs.drop 0).take ks'.length=cs:=by rw [H7,H8 (by omega)]
          rw [e] at this
          exact this
         ·cases h
     | array q e =>
       simp only at h
       cases rD:flat P m e with
       | none=>simp [rD] at h
       | some ks' =>
         simp only [rD] at h
         split at h
         ·rename_i hcl
          obtain ⟨hce,hct⟩:=hcl
          simp only [Option.some.injEq] at h
          subst h
          obtain ⟨xs,n',rfl,_,hl,hxl,hf⟩:=DataW.trod_array hu hx
          have key:∀ j,j<=q->dG (Ht j ks').flatten (cs.take (j*ks'.length)):=by
           intro j
           induction j with
           | zero=>intro _;simpa using dG.nil
           | succ j Fe =>
             intro hj
             have a1:=Fe (by omega)
             have a2:=DC n' e _ xs[j] ks' (by rw [hf j (by omega),Hz (by omega)]) rD
             rw [hce] at a2
             rw [List.replicate_succ',List.flatten_append,Nat.succ_mul,Hy]
             simpa using a1.append a2
          have:=key q (Ho _)
          rw [H8 (by omega)] at this
          exact this
         ·cases h
     | _=>simp at h
theorem yB {r:Reach} {b0 m:Nat} {t:TypeId} {fs:Array Field} {v:Value} {d:DataW H} {p:List MemPlace} {ks:List jq} (hs:P.underlying t=some (.struct fs)) (hk:flat P m t=some ks)
 (hv:Value.okWide P w r b0 t v) (h:DataW.Trod enc P w base spare held t v d p):∃ cs,v = .agg cs.toArray/\dG ks cs:=by
 obtain ⟨cs,rfl,_⟩:=okWide_struct hs hv
 obtain ⟨fuel,hf⟩:=h
 exact ⟨cs.toList,by simp,Ae m fuel t _ _ ks hf hk⟩
end
end
section
open Go.RowKit
theorem yC {x m:Int}:(x.tmod m+m)%m=x%m:=by
 rw [Int.add_emod_right,Int.tmod_eq_emod]
 split
 ·simp
 ·rw [Int.sub_emod,Int.emod_emod]
  have:((m.natAbs:Int))%m=0:=by
   rcases Int.natAbs_eq m with h|h
   ·rw [<- h];simp
   ·have:(m.natAbs:Int) = -m:=by omega
    rw [this];simp
  rw [this];simp
theorem AV (x m:Int) (hm:0<m) (hm2:m<=1000) (w:World):Calls ay 42 #[ah x,ah m] w fun e w'=>e = .returned (ah (x%m))/\w'=w:=by
 have h0:(m==0)=false:=by simp;omega
 have h1 : -m<x.tmod m:=by
  have:=Int.lt_tmod_of_pos x hm
  omega
 have h2:x.tmod m<m:=Int.tmod_lt_of_pos x hm
 have HE:=aA (yC (x:=x) (m:=m))
 go_enter func42,ntmps42
 go_wp2
 go_ret
 exact ⟨by rw [<- HE.out];rfl,rfl⟩
theorem wP (x a b:Int) (w:World):Calls ay 38 #[ah x,ah a,ah b] w fun e w'=>e = .returned (.bool (decide (a<=x)&&decide (x<=b)))/\w'=w:=by
 by_cases h:a<=x
 ·have h1:decide (a<=x)=true:=uH h
  clear h
  go_enter func38,ntmps38
  go_wp2
  go_ret
  exact ⟨by simp [h1],rfl⟩
 ·have h1:decide (a<=x)=false:=rE h
  clear h
  go_enter func38,ntmps38
  go_wp2
  go_ret
  exact ⟨by simp [h1],rfl⟩
structure aI where
 b:Int
 w:Int
 m:Int
 r:Int
 c:Int
 l:Int
 s:Int
deriving DecidableEq
def aI.cells (c:aI):List Value:=[ah c.b,ah c.w,ah c.m,ah c.r,ah c.c,ah c.l,ah c.s]
def aI.wf (c:aI):Prop:=(Lit.int .i64 c.b).wf=true/\(Lit.int .i64 c.w).wf=true/\(Lit.int .i64 c.m).wf=true/\(Lit.int .i64 c.r).wf=true/\(Lit.int .i64 c.c).wf=true/\(Lit.int .i64 c.l).wf=true/\(Lit.int .i64 c.s).wf=true
def aI.lG (c:aI):aI:=⟨1+c.b%4,16+c.w%20,1+c.m%4,1+c.r%5,c.c%4,1+c.l%4,1+c.s%4⟩
theorem Af {cs:List Value} (h:dG [.int .i64,.int .i64,.int .i64,.int .i64,.int .i64,.int .i64,.int .i64] cs):∃ c:aI,cs=c.cells/\c.wf:=by
 obtain ⟨v0,h0,x0,rfl,y0⟩:=h.iD 0 _ rfl
 obtain ⟨v1,h1,x1,rfl,y1⟩:=h.iD 1 _ rfl
 obtain ⟨v2,h2,x2,rfl,y2⟩:=h.iD 2 _ rfl
 obtain ⟨v3,h3,x3,rfl,y3⟩:=h.iD 3 _ rfl
 obtain ⟨v4,h4,x4,rfl,y4⟩:=h.iD 4 _ rfl
 obtain ⟨v5,h5,x5,rfl,y5⟩:=h.iD 5 _ rfl
 obtain ⟨v6,h6,x6,rfl,y6⟩:=h.iD 6 _ rfl
 have hl:=h.len
 match cs,hl with
 | [a0,a1,a2,a3,a4,a5,a6],_ =>
   simp at h0 h1 h2 h3 h4 h5 h6
   exact ⟨⟨x0,x1,x2,x3,x4,x5,x6⟩,by simp [aI.cells,h0,h1,h2,h3,h4,h5,h6],y0,y1,y2,y3,y4,y5,y6⟩
theorem jD {x m p:Int} (hp:Hid (x%m=p)) (hm:0<m) (hm2:m<=1000) (w:World):Calls ay 42 #[ah x,ah m] w fun e w'=>e = .returned (ah p)/\w'=w:=by
 rw [<- hp.out];exact AV x m hm hm2 w
theorem iL (x m:Int) (hm:0<m):∃ p,Hid (x%m=p)/\0<=p/\p<m:=⟨x%m,rfl,Int.emod_nonneg x (by omega),Int.emod_lt_of_pos x hm⟩
theorem vk (c:aI) (w:World):Calls ay 11 #[.agg c.cells.toArray] w fun e w'=>e = .returned (.agg c.lG.cells.toArray)/\aj ak w w':=by
 obtain ⟨b,ww,m,r,cc,l,s⟩:=c
 simp only [aI.cells,aI.lG]
 obtain ⟨p0,H0,l0,g0⟩:=iL b 4 (by decide)
 obtain ⟨p1,H1,l1,g1⟩:=iL ww 20 (by decide)
 obtain ⟨p2,H2,l2,g2⟩:=iL m 4 (by decide)
 obtain ⟨p3,H3,l3,g3⟩:=iL r 5 (by decide)
 obtain ⟨p4,H4,l4,g4⟩:=iL cc 4 (by decide)
 obtain ⟨p5,H5,l5,g5⟩:=iL l 4 (by decide)
 obtain ⟨p6,H6,l6,g6⟩:=iL s 4 (by decide)
 rw [H0.out,H1.out,H2.out,H3.out,H4.out,H5.out,H6.out]
 obtain ⟨W0,hW0⟩:∃ W',W'=(w.alloc (.cells #[ah b,ah ww,ah m,ah r,ah cc,ah l,ah s] 23)).alloc (.cells #[ah 0,ah 0,ah 0,ah 0,ah 0,ah 0,ah 0] 23):=⟨_,rfl⟩
 have HA:Hid (aC W0 w.heap.size [ah b,ah ww,ah m,ah r,ah cc,ah l,ah s] 23):=by rw [hW0];exact (aC.aS w _ _).alloc _
 have HB:Hid (aC W0 (w.heap.size+1) [ah 0,ah 0,ah 0,ah 0,ah 0,ah 0,ah 0] 23):=by rw [hW0];have h:=aC.aS (w.alloc (.cells #[ah b,ah ww,ah m,ah r,ah cc,ah l,ah s] 23)) [ah 0,ah 0,ah 0,ah 0,ah 0,ah 0,ah 0] 23;simp only [H9] at h;exact h
 have HK:Hid (aj ak w W0):=by rw [hW0];exact ((aj.refl _ _).alloc _).alloc _
 go_enter func11,ntmps11
 go_wp2_with fail
 rw [<- hW0]
 clear hW0
 have d0:=HA.out.cell 0 rfl;have d1:=HA.out.cell 1 rfl;have d2:=HA.out.cell 2 rfl;have d3:=HA.out.cell 3 rfl;have d4:=HA.out.cell 4 rfl;have d5:=HA.out.cell 5 rfl;have d6:=HA.out.cell 6 rfl
 refine wp_region_still_tail 28 (by kernel_rfl) (by kernel_rfl) ?_
 change wpStill _ _ (Ia _) _ _ _
 simp only [List.take_succ_cons,List.take_zero,Ib,H7]
 still_step
 still_step
 still_call (jD H0 (by decide) (by decide) _)
 still_step
 still_step
 still_step
 still_call (jD H1 (by decide) (by decide) _)
 still_step
 still_step
 still_step
 still_call (jD H2 (by decide) (by decide) _)
 still_step
 still_step
 still_step
 still_call (jD H3 (by decide) (by decide) _)
 still_step
 still_step
 still_step
 still_call (jD H4 (by decide) (by decide) _)
 still_step
 still_step
 still_call (jD H5 (by decide) (by decide) _)
 still_step
 still_step
 still_step
 still_call (jD H6 (by decide) (by decide) _)
 still_step
 still_step
 refine wpStill_nil ?_
 change wpList _ _ _ _ _ W0.drew
 have z0:=HB.out.free 0;have z1:=HB.out.free 1;have z2:=HB.out.free 2;have z3:=HB.out.free 3;have z4:=HB.out.free 4;have z5:=HB.out.free 5;have z6:=HB.out.free 6
 have y0:=HB.out.cell 0 rfl;have y1:=HB.out.cell 1 rfl;have y2:=HB.out.cell 2 rfl;have y3:=HB.out.cell 3 rfl;have y4:=HB.out.cell 4 rfl;have y5:=HB.out.cell 5 rfl;have y6:=HB.out.cell 6 rfl
 go_wp2_with fail
 have hB:=((((((HB.out.set 0 (ah (1+p0))).set 1 (ah (16+p1))).set 2 (ah (1+p2))).set 3 (ah (1+p3))).set 4 (ah p4)).set 5 (ah (1+p5))).set 6 (ah (1+p6))
 have hk:=((((((HK.out.bF (B:=w.heap.size+1) (Ic _) 0 (ah (1+p0))).bF (B:=w.heap.size+1) (Ic _) 1 (ah (16+p1))).bF (B:=w.heap.size+1) (Ic _) 2 (ah (1+p2))).bF (B:=w.heap.size+1) (Ic _) 3 (ah (1+p3))).bF (B:=w.heap.size+1) (Ic _) 4 (ah p4)).bF (B:=w.heap.size+1) (Ic _) 5 (ah (1+p5))).bF (B:=w.heap.size+1) (Ic _) 6 (ah (1+p6))
 have k0:=hB.cell 0 rfl;have k1:=hB.cell 1 rfl;have k2:=hB.cell 2 rfl;have k3:=hB.cell 3 rfl;have k4:=hB.cell 4 rfl;have k5:=hB.cell 5 rfl;have k6:=hB.cell 6 rfl
 exact bodyPost_ret (by simp [results,Tryz.f11,go_sem,k0,k1,k2,k3,k4,k5,k6]) rfl ⟨rfl,hk.drew⟩
end
section
open Go.Sort Go.RowKit
section
variable {F:Fence} {n:Nat} {P:Program} {ops:Array Oper} {md:Region.Mode} {C:World->Prop}
end
theorem lH (w:World) (d:Nat) (os:Array Obj):aj ak w (grow (redrawn w d) os):=aj.Ad (below_regrown w d os) _
theorem qN {P:Program} {f:FuncId} {args:Array Value} {w:World} {d:Nat} {os:Array Obj} {v:Value}
 (h:Calls P f args (grow (redrawn w d) os) fun e w'=>e = .returned v/\aj ak (grow (redrawn w d) os) w'):Calls P f args (grow (redrawn w d) os) fun e w''=>e = .returned v/\∃ p:Regrown,w''=grow (redrawn w p.d) p.os :=
 Calls.regrown_of (h.mono fun _ _ ⟨he,hk⟩=>⟨he,hk.toBelow⟩)
end
section
open Go.RowKit Go.Sort
def lI (B:Nat):List Value:=[au B,.pointer (some ⟨B,1,none⟩),.pointer (some ⟨B,2,none⟩),.pointer (some ⟨B,3,none⟩),.pointer (some ⟨B,4,none⟩),.pointer (some ⟨B,5,none⟩),.pointer (some ⟨B,6,none⟩)]
theorem tZ (B:Nat) (w:World):Calls ay 140 #[au B] w fun e w'=>e = .returned (.agg (lI B).toArray)/\aj ak w w':=by
 obtain ⟨W0,hW0⟩:∃ W',W'=w.alloc (.cells #[.pointer none,.pointer none,.pointer none,.pointer none,.pointer none,.pointer none,.pointer none] 256):=⟨_,rfl⟩
 have HB:Hid (aC W0 w.heap.size [.pointer none,.pointer none,.pointer none,.pointer none,.pointer none,.pointer none,.pointer none] 256):=by rw [hW0];exact aC.aS w _ _
 have HK:Hid (aj ak w W0):=by rw [hW0];exact (aj.refl _ _).alloc _
 go_enter func140,ntmps140
 go_wp2_with fail
 rw [<- hW0]
 clear hW0
 refine wp_region_still_tail 22 (by kernel_rfl) (by kernel_rfl) ?_
 change wpStill _ _ (Ia _) _ _ _
 simp only [List.take_succ_cons,List.take_zero,Ib,H7]
 repeat still_step
 refine wpStill_nil ?_
 change wpList _ _ _ _ _ W0.drew
 have z0:=HB.out.free 0;have z1:=HB.out.free 1;have z2:=HB.out.free 2;have z3:=HB.out.free 3;have z4:=HB.out.free 4;have z5:=HB.out.free 5;have z6:=HB.out.free 6
 have y0:=HB.out.cell 0 rfl;have y1:=HB.out.cell 1 rfl;have y2:=HB.out.cell 2 rfl;have y3:=HB.out.cell 3 rfl;have y4:=HB.out.cell 4 rfl;have y5:=HB.out.cell 5 rfl;have y6:=HB.out.cell 6 rfl
 go_wp2_with fail
 have hB:=((((((HB.out.set 0 (au B)).set 1 (.pointer (some ⟨B,1,none⟩))).set 2 (.pointer (some ⟨B,2,none⟩))).set 3 (.pointer (some ⟨B,3,none⟩))).set 4 (.pointer (some ⟨B,4,none⟩))).set 5 (.pointer (some ⟨B,5,none⟩))).set 6 (.pointer (some ⟨B,6,none⟩))
 have hk:=((((((HK.out.bF (B:=w.heap.size) (Ho _) 0 (au B)).bF (B:=w.heap.size) (Ho _) 1 (.pointer (some ⟨B,1,none⟩))).bF (B:=w.heap.size) (Ho _) 2 (.pointer (some ⟨B,2,none⟩))).bF (B:=w.heap.size) (Ho _) 3 (.pointer (some ⟨B,3,none⟩))).bF (B:=w.heap.size) (Ho _) 4 (.pointer (some ⟨B,4,none⟩))).bF (B:=w.heap.size) (Ho _) 5 (.pointer (some ⟨B,5,none⟩))).bF (B:=w.heap.size) (Ho _) 6 (.pointer (some ⟨B,6,none⟩))
 have k0:=hB.cell 0 rfl;have k1:=hB.cell 1 rfl;have k2:=hB.cell 2 rfl;have k3:=hB.cell 3 rfl;have k4:=hB.cell 4 rfl;have k5:=hB.cell 5 rfl;have k6:=hB.cell 6 rfl
 exact bodyPost_ret (by simp [results,lI,Tryz.f140,go_sem,k0,k1,k2,k3,k4,k5,k6]) rfl ⟨rfl,hk.drew⟩
def aQ (lo hi x:Int):Int:=max lo (min hi x)
def aI.jR (c:aI):aI:=⟨aQ 1 4096 c.b,aQ 16 256 c.w,aQ 1 8 c.m,aQ 1 64 c.r,aQ 0 64 c.c,aQ 1 256 c.l,aQ 1 4096 c.s⟩
def aI.ok (c:aI):Bool:=decide (1<=c.b/\c.b<=4096)&&decide (16<=c.w/\c.w<=256)&&decide (1<=c.m/\c.m<=8)&&decide (1<=c.r/\c.r<=64)&&decide (0<=c.c/\c.c<=64)&&decide (1<=c.l/\c.l<=256)&&decide (1<=c.s/\c.s<=4096)
theorem dH {c:aI} (h:c.ok=true):(1<=c.b/\c.b<=4096)/\(16<=c.w/\c.w<=256)/\(1<=c.m/\c.m<=8)/\(1<=c.r/\c.r<=64)/\(0<=c.c/\c.c<=64)/\(1<=c.l/\c.l<=256)/\(1<=c.s/\c.s<=4096):=by
 simp [aI.ok] at h
 omega
def aI.part (c:aI) (k:Nat):List Value:=c.jR.cells.take k++c.cells.drop k
theorem wQ (c:aI) (w:World) (hT:dW w):Calls ay 115 #[.agg c.cells.toArray] w fun e w'=>e = .returned (.agg c.jR.cells.toArray)/\aj ak w w':=by
 obtain ⟨b,ww,m,r,cc,l,s⟩:=c
 have HT:=aA hT
 clear hT
 obtain ⟨W0,hW0⟩:∃ W',W'=(w.alloc (.cells #[ah b,ah ww,ah m,ah r,ah cc,ah l,ah s] 23)).alloc (.cells #[ah 0,ah 0,ah 0,ah 0,ah 0,ah 0,ah 0] 23):=⟨_,rfl⟩
 have HA:Hid (aC W0 w.heap.size (aI.part ⟨b,ww,m,r,cc,l,s⟩ 0) 23):=by rw [hW0];exact (aC.aS w _ _).alloc _
 have HB:Hid (aC W0 (w.heap.size+1) [ah 0,ah 0,ah 0,ah 0,ah 0,ah 0,ah 0] 23):=by rw [hW0];have h:=aC.aS (w.alloc (.cells #[ah b,ah ww,ah m,ah r,ah cc,ah l,ah s] 23)) [ah 0,ah 0,ah 0,ah 0,ah 0,ah 0,ah 0] 23;simp only [H9] at h;exact h
 have HK:Hid (aj ak w W0):=by rw [hW0];exact ((aj.refl _ _).alloc _).alloc _
 simp only [aI.cells]
 go_enter func115,ntmps115
 go_wp2_with fail
 rw [<- hW0]
 clear hW0
 refine (tZ _ _).mono ?_
 rintro e w1 ⟨rfl,hk1⟩
 have HA1:=aA (hk1.aO HA.out (fun f=>f))
 have HB1:=aA (hk1.aO HB.out (fun f=>f))
 have dI:=aA (HK.out.trans hk1)
 clear hk1 HA HB HK
 simp only [lI]
 go_wp2_with fail
 go_loopg [3,4,6] 7 (fun g x y i wr=>∃ k:Nat,g+k=7/\i = ah k/\Hid (aC wr w.heap.size (aI.part ⟨b,ww,m,r,cc,l,s⟩ k) 23)/\Hid (aC wr (w.heap.size+1) [ah 0,ah 0,ah 0,ah 0,ah 0,ah 0,ah 0] 23)/\Hid (aj ak w wr))
 case atStart=>exact ⟨0,rfl,rfl,HA1,HB1,dI⟩
 case round =>
  obtain ⟨k,hg,rfl,HA2,HB2,cu⟩:=hrel
  clear HA1 HB1 dI
  have e:k=0\/k=1\/k=2\/k=3\/k=4\/k=5\/k=6\/k=7:=by omega
  rcases e with rfl|rfl|rfl|rfl|rfl|rfl|rfl|rfl
  ·have hix:∀ w':World,(Instr.index 256 (.agg (#[au w.heap.size,.pointer (some ⟨w.heap.size,1,none⟩),.pointer (some ⟨w.heap.size,2,none⟩),.pointer (some ⟨w.heap.size,3,none⟩),.pointer (some ⟨w.heap.size,4,none⟩),.pointer (some ⟨w.heap.size,5,none⟩),.pointer (some ⟨w.heap.size,6,none⟩)])) (ah 0)).run ay w' = .ok (au w.heap.size) w':=fun w'=>by kernel_rfl
   simp only [show (((0:Nat):Int))=0 from rfl]
   have d:=HA2.out.cell 0 (v := ah b) rfl
   have z:=HA2.out.free 0
   have m0:=(HT.out.aB cu.out).jf 0 _ rfl
   have m1:=(HT.out.aB cu.out).jf 1 _ rfl
   have HN:Hid (aC ((wr.setCell ⟨w.heap.size,0,none⟩ (ah (aQ 1 4096 b))).drew) w.heap.size (aI.part ⟨b,ww,m,r,cc,l,s⟩ 1) 23):=(HA2.out.set 0 (ah (aQ 1 4096 b))).drew
   have bH:Hid (aC ((wr.setCell ⟨w.heap.size,0,none⟩ (ah (aQ 1 4096 b))).drew) (w.heap.size+1) [ah 0,ah 0,ah 0,ah 0,ah 0,ah 0,ah 0] 23):=(HB2.out.iG (a:=⟨w.heap.size,0,none⟩) (by simp) _).drew
   have bW:Hid (aj ak w ((wr.setCell ⟨w.heap.size,0,none⟩ (ah (aQ 1 4096 b))).drew)):=(cu.out.bF (Ho _) _ _).drew
   go_wp2_with fail
   refine wp_region_still_tail 15 (by kernel_rfl) (by kernel_rfl) ?_
   change wpStill _ _ (Ia _) _ _ _
   simp only [List.take_succ_cons,List.take_zero,Ib,H7]
   repeat still_step
   refine wpStill_nil ?_
   change wpList _ _ _ _ _ wr.drew
   go_wp2_with fail
   all_goals first
    | (have hv:aQ 1 4096 b=b:=by unfold aQ;omega
       rw [hv] at HN bH bW
       go_roundg (gk - 1)
       case measure=>omega
       case rel=>exact ⟨1,by omega,rfl,HN,bH,bW⟩)
    | (have hv:aQ 1 4096 b=1:=by unfold aQ;omega
       rw [hv] at HN bH bW
       go_roundg (gk - 1)
       case measure=>omega
       case rel=>exact ⟨1,by omega,rfl,HN,bH,bW⟩)
    | (have hv:aQ 1 4096 b=4096:=by unfold aQ;omega
       rw [hv] at HN bH bW
       go_roundg (gk - 1)
       case measure=>omega
       case rel=>exact ⟨1,by omega,rfl,HN,bH,bW⟩)
  ·have hix:∀ w':World,(Instr.index 256 (.agg (#[au w.heap.size,.pointer (some ⟨w.heap.size,1,none⟩),.pointer (some ⟨w.heap.size,2,none⟩),.pointer (some ⟨w.heap.size,3,none⟩),.pointer (some ⟨w.heap.size,4,none⟩),.pointer (some ⟨w.heap.size,5,none⟩),.pointer (some ⟨w.heap.size,6,none⟩)])) (ah 1)).run ay w' = .ok (.pointer (some ⟨w.heap.size,1,none⟩)) w':=fun w'=>by kernel_rfl
   simp only [show (((1:Nat):Int))=1 from rfl]
   have d:=HA2.out.cell 1 (v := ah ww) rfl
   have z:=HA2.out.free 1
   have m0:=(HT.out.aB cu.out).jf 2 _ rfl
   have m1:=(HT.out.aB cu.out).jf 3 _ rfl
   have HN:Hid (aC ((wr.setCell ⟨w.heap.size,1,none⟩ (ah (aQ 16 256 ww))).drew) w.heap.size (aI.part ⟨b,ww,m,r,cc,l,s⟩ 2) 23):=(HA2.out.set 1 (ah (aQ 16 256 ww))).drew
   have bH:Hid (aC ((wr.setCell ⟨w.heap.size,1,none⟩ (ah (aQ 16 256 ww))).drew) (w.heap.size+1) [ah 0,ah 0,ah 0,ah 0,ah 0,ah 0,ah 0] 23):=(HB2.out.iG (a:=⟨w.heap.size,1,none⟩) (by simp) _).drew
   have bW:Hid (aj ak w ((wr.setCell ⟨w.heap.size,1,none⟩ (ah (aQ 16 256 ww))).drew)):=(cu.out.bF (Ho _) _ _).drew
   go_wp2_with fail
   refine wp_region_still_tail 15 (by kernel_rfl) (by kernel_rfl) ?_
   change wpStill _ _ (Ia _) _ _ _
   simp only [List.take_succ_cons,List.take_zero,Ib,H7]
   repeat still_step
   refine wpStill_nil ?_
   change wpList _ _ _ _ _ wr.drew
   go_wp2_with fail
   all_goals first
    | (have hv:aQ 16 256 ww=ww:=by unfold aQ;omega
       rw [hv] at HN bH bW
       go_roundg (gk - 1)
       case measure=>omega
       case rel=>exact ⟨2,by omega,rfl,HN,bH,bW⟩)
    | (have hv:aQ 16 256 ww=16:=by unfold aQ;omega
       rw [hv] at HN bH bW
       go_roundg (gk - 1)
       case measure=>omega
       case rel=>exact ⟨2,by omega,rfl,HN,bH,bW⟩)
    | (have hv:aQ 16 256 ww=256:=by unfold aQ;omega
       rw [hv] at HN bH bW
       go_roundg (gk - 1)
       case measure=>omega
       case rel=>exact ⟨2,by omega,rfl,HN,bH,bW⟩)
  ·have hix:∀ w':World,(Instr.index 256 (.agg (#[au w.heap.size,.pointer (some ⟨w.heap.size,1,none⟩),.pointer (some ⟨w.heap.size,2,none⟩),.pointer (some ⟨w.heap.size,3,none⟩),.pointer (some ⟨w.heap.size,4,none⟩),.pointer (some ⟨w.heap.size,5,none⟩),.pointer (some ⟨w.heap.size,6,none⟩)])) (ah 2)).run ay w' = .ok (.pointer (some ⟨w.heap.size,2,none⟩)) w':=fun w'=>by kernel_rfl
   simp only [show (((2:Nat):Int))=2 from rfl]
   have d:=HA2.out.cell 2 (v := ah m) rfl
   have z:=HA2.out.free 2
   have m0:=(HT.out.aB cu.out).jf 4 _ rfl
   have m1:=(HT.out.aB cu.out).jf 5 _ rfl
   have HN:Hid (aC ((wr.setCell ⟨w.heap.size,2,none⟩ (ah (aQ 1 8 m))).drew) w.heap.size (aI.part ⟨b,ww,m,r,cc,l,s⟩ 3) 23):=(HA2.out.set 2 (ah (aQ 1 8 m))).drew
   have bH:Hid (aC ((wr.setCell ⟨w.heap.size,2,none⟩ (ah (aQ 1 8 m))).drew) (w.heap.size+1) [ah 0,ah 0,ah 0,ah 0,ah 0,ah 0,ah 0] 23):=(HB2.out.iG (a:=⟨w.heap.size,2,none⟩) (by simp) _).drew
   have bW:Hid (aj ak w ((wr.setCell ⟨w.heap.size,2,none⟩ (ah (aQ 1 8 m))).drew)):=(cu.out.bF (Ho _) _ _).drew
   go_wp2_with fail
   refine wp_region_still_tail 15 (by kernel_rfl) (by kernel_rfl) ?_
   change wpStill _ _ (Ia _) _ _ _
   simp only [List.take_succ_cons,List.take_zero,Ib,H7]
   repeat still_step
   refine wpStill_nil ?_
   change wpList _ _ _ _ _ wr.drew
   go_wp2_with fail
   all_goals first
    | (have hv:aQ 1 8 m=m:=by unfold aQ;omega
       rw [hv] at HN bH bW
       go_roundg (gk - 1)
       case measure=>omega
       case rel=>exact ⟨3,by omega,rfl,HN,bH,bW⟩)
    | (have hv:aQ 1 8 m=1:=by unfold aQ;omega
       rw [hv] at HN bH bW
       go_roundg (gk - 1)
       case measure=>omega
       case rel=>exact ⟨3,by omega,rfl,HN,bH,bW⟩)
    | (have hv:aQ 1 8 m=8:=by unfold aQ;omega
       rw [hv] at HN bH bW
       go_roundg (gk - 1)
       case measure=>omega
       case rel=>exact ⟨3,by omega,rfl,HN,bH,bW⟩)
  ·have hix:∀ w':World,(Instr.index 256 (.agg (#[au w.heap.size,.pointer (some ⟨w.heap.size,1,none⟩),.pointer (some ⟨w.heap.size,2,none⟩),.pointer (some ⟨w.heap.size,3,none⟩),.pointer (some ⟨w.heap.size,4,none⟩),.pointer (some ⟨w.heap.size,5,none⟩),.pointer (some ⟨w.heap.size,6,none⟩)])) (ah 3)).run ay w' = .ok (.pointer (some ⟨w.heap.size,3,none⟩)) w':=fun w'=>by kernel_rfl
   simp only [show (((3:Nat):Int))=3 from rfl]
   have d:=HA2.out.cell 3 (v := ah r) rfl
   have z:=HA2.out.free 3
   have m0:=(HT.out.aB cu.out).jf 6 _ rfl
   have m1:=(HT.out.aB cu.out).jf 7 _ rfl
   have HN:Hid (aC ((wr.setCell ⟨w.heap.size,3,none⟩ (ah (aQ 1 64 r))).drew) w.heap.size (aI.part ⟨b,ww,m,r,cc,l,s⟩ 4) 23):=(HA2.out.set 3 (ah (aQ 1 64 r))).drew
   have bH:Hid (aC ((wr.setCell ⟨w.heap.size,3,none⟩ (ah (aQ 1 64 r))).drew) (w.heap.size+1) [ah 0,ah 0,ah 0,ah 0,ah 0,ah 0,ah 0] 23):=(HB2.out.iG (a:=⟨w.heap.size,3,none⟩) (by simp) _).drew
   have bW:Hid (aj ak w ((wr.setCell ⟨w.heap.size,3,none⟩ (ah (aQ 1 64 r))).drew)):=(cu.out.bF (Ho _) _ _).drew
   go_wp2_with fail
   refine wp_region_still_tail 15 (by kernel_rfl) (by kernel_rfl) ?_
   change wpStill _ _ (Ia _) _ _ _
   simp only [List.take_succ_cons,List.take_zero,Ib,H7]
   repeat still_step
   refine wpStill_nil ?_
   change wpList _ _ _ _ _ wr.drew
   go_wp2_with fail
   all_goals first
    | (have hv:aQ 1 64 r=r:=by unfold aQ;omega
       rw [hv] at HN bH bW
       go_roundg (gk - 1)
       case measure=>omega
       case rel=>exact ⟨4,by omega,rfl,HN,bH,bW⟩)
    | (have hv:aQ 1 64 r=1:=by unfold aQ;omega
       rw [hv] at HN bH bW
       go_roundg (gk - 1)
       case measure=>omega
       case rel=>exact ⟨4,by omega,rfl,HN,bH,bW⟩)
    | (have hv:aQ 1 64 r=64:=by unfold aQ;omega
       rw [hv] at HN bH bW
       go_roundg (gk - 1)
       case measure=>omega
       case rel=>exact ⟨4,by omega,rfl,HN,bH,bW⟩)
  ·have hix:∀ w':World,(Instr.index 256 (.agg (#[au w.heap.size,.pointer (some ⟨w.heap.size,1,none⟩),.pointer (some ⟨w.heap.size,2,none⟩),.pointer (some ⟨w.heap.size,3,none⟩),.pointer (some ⟨w.heap.size,4,none⟩),.pointer (some ⟨w.heap.size,5,none⟩),.pointer (some ⟨w.heap.size,6,none⟩)])) (ah 4)).run ay w' = .ok (.pointer (some ⟨w.heap.size,4,none⟩)) w':=fun w'=>by kernel_rfl
   simp only [show (((4:Nat):Int))=4 from rfl]
   have d:=HA2.out.cell 4 (v := ah cc) rfl
   have z:=HA2.out.free 4
   have m0:=(HT.out.aB cu.out).jf 8 _ rfl
   have m1:=(HT.out.aB cu.out).jf 9 _ rfl
   have HN:Hid (aC ((wr.setCell ⟨w.heap.size,4,none⟩ (ah (aQ 0 64 cc))).drew) w.heap.size (aI.part ⟨b,ww,m,r,cc,l,s⟩ 5) 23):=(HA2.out.set 4 (ah (aQ 0 64 cc))).drew
   have bH:Hid (aC ((wr.setCell ⟨w.heap.size,4,none⟩ (ah (aQ 0 64 cc))).drew) (w.heap.size+1) [ah 0,ah 0,ah 0,ah 0,ah 0,ah 0,ah 0] 23):=(HB2.out.iG (a:=⟨w.heap.size,4,none⟩) (by simp) _).drew
   have bW:Hid (aj ak w ((wr.setCell ⟨w.heap.size,4,none⟩ (ah (aQ 0 64 cc))).drew)):=(cu.out.bF (Ho _) _ _).drew
   go_wp2_with fail
   refine wp_region_still_tail 15 (by kernel_rfl) (by kernel_rfl) ?_
   change wpStill _ _ (Ia _) _ _ _
   simp only [List.take_succ_cons,List.take_zero,Ib,H7]
   repeat still_step
   refine wpStill_nil ?_
   change wpList _ _ _ _ _ wr.drew
   go_wp2_with fail
   all_goals first
    | (have hv:aQ 0 64 cc=cc:=by unfold aQ;omega
       rw [hv] at HN bH bW
       go_roundg (gk - 1)
       case measure=>omega
       case rel=>exact ⟨5,by omega,rfl,HN,bH,bW⟩)
    | (have hv:aQ 0 64 cc=0:=by unfold aQ;omega
       rw [hv] at HN bH bW
       go_roundg (gk - 1)
       case measure=>omega
       case rel=>exact ⟨5,by omega,rfl,HN,bH,bW⟩)
    | (have hv:aQ 0 64 cc=64:=by unfold aQ;omega
       rw [hv] at HN bH bW
       go_roundg (gk - 1)
       case measure=>omega
       case rel=>exact ⟨5,by omega,rfl,HN,bH,bW⟩)
  ·have hix:∀ w':World,(Instr.index 256 (.agg (#[au w.heap.size,.pointer (some ⟨w.heap.size,1,none⟩),.pointer (some ⟨w.heap.size,2,none⟩),.pointer (some ⟨w.heap.size,3,none⟩),.pointer (some ⟨w.heap.size,4,none⟩),.pointer (some ⟨w.heap.size,5,none⟩),.pointer (some ⟨w.heap.size,6,none⟩)])) (ah 5)).run ay w' = .ok (.pointer (some ⟨w.heap.size,5,none⟩)) w':=fun w'=>by kernel_rfl
   simp only [show (((5:Nat):Int))=5 from rfl]
   have d:=HA2.out.cell 5 (v := ah l) rfl
   have z:=HA2.out.free 5
   have m0:=(HT.out.aB cu.out).jf 10 _ rfl
   have m1:=(HT.out.aB cu.out).jf 11 _ rfl
   have HN:Hid (aC ((wr.setCell ⟨w.heap.size,5,none⟩ (ah (aQ 1 256 l))).drew) w.heap.size (aI.part ⟨b,ww,m,r,cc,l,s⟩ 6) 23):=(HA2.out.set 5 (ah (aQ 1 256 l))).drew
   have bH:Hid (aC ((wr.setCell ⟨w.heap.size,5,none⟩ (ah (aQ 1 256 l))).drew) (w.heap.size+1) [ah 0,ah 0,ah 0,ah 0,ah 0,ah 0,ah 0] 23):=(HB2.out.iG (a:=⟨w.heap.size,5,none⟩) (by simp) _).drew
   have bW:Hid (aj ak w ((wr.setCell ⟨w.heap.size,5,none⟩ (ah (aQ 1 256 l))).drew)):=(cu.out.bF (Ho _) _ _).drew
   go_wp2_with fail
   refine wp_region_still_tail 15 (by kernel_rfl) (by kernel_rfl) ?_
   change wpStill _ _ (Ia _) _ _ _
   simp only [List.take_succ_cons,List.take_zero,Ib,H7]
   repeat still_step
   refine wpStill_nil ?_
   change wpList _ _ _ _ _ wr.drew
   go_wp2_with fail
   all_goals first
    | (have hv:aQ 1 256 l=l:=by unfold aQ;omega
       rw [hv] at HN bH bW
       go_roundg (gk - 1)
       case measure=>omega
       case rel=>exact ⟨6,by omega,rfl,HN,bH,bW⟩)
    | (have hv:aQ 1 256 l=1:=by unfold aQ;omega
       rw [hv] at HN bH bW
       go_roundg (gk - 1)
       case measure=>omega
       case rel=>exact ⟨6,by omega,rfl,HN,bH,bW⟩)
    | (have hv:aQ 1 256 l=256:=by unfold aQ;omega
       rw [hv] at HN bH bW
       go_roundg (gk - 1)
       case measure=>omega
       case rel=>exact ⟨6,by omega,rfl,HN,bH,bW⟩)
  ·have hix:∀ w':World,(Instr.index 256 (.agg (#[au w.heap.size,.pointer (some ⟨w.heap.size,1,none⟩),.pointer (some ⟨w.heap.size,2,none⟩),.pointer (some ⟨w.heap.size,3,none⟩),.pointer (some ⟨w.heap.size,4,none⟩),.pointer (some ⟨w.heap.size,5,none⟩),.pointer (some ⟨w.heap.size,6,none⟩)])) (ah 6)).run ay w' = .ok (.pointer (some ⟨w.heap.size,6,none⟩)) w':=fun w'=>by kernel_rfl
   simp only [show (((6:Nat):Int))=6 from rfl]
   have d:=HA2.out.cell 6 (v := ah s) rfl
   have z:=HA2.out.free 6
   have m0:=(HT.out.aB cu.out).jf 12 _ rfl
   have m1:=(HT.out.aB cu.out).jf 13 _ rfl
   have HN:Hid (aC ((wr.setCell ⟨w.heap.size,6,none⟩ (ah (aQ 1 4096 s))).drew) w.heap.size (aI.part ⟨b,ww,m,r,cc,l,s⟩ 7) 23):=(HA2.out.set 6 (ah (aQ 1 4096 s))).drew
   have bH:Hid (aC ((wr.setCell ⟨w.heap.size,6,none⟩ (ah (aQ 1 4096 s))).drew) (w.heap.size+1) [ah 0,ah 0,ah 0,ah 0,ah 0,ah 0,ah 0] 23):=(HB2.out.iG (a:=⟨w.heap.size,6,none⟩) (by simp) _).drew
   have bW:Hid (aj ak w ((wr.setCell ⟨w.heap.size,6,none⟩ (ah (aQ 1 4096 s))).drew)):=(cu.out.bF (Ho _) _ _).drew
   go_wp2_with fail
   refine wp_region_still_tail 15 (by kernel_rfl) (by kernel_rfl) ?_
   change wpStill _ _ (Ia _) _ _ _
   simp only [List.take_succ_cons,List.take_zero,Ib,H7]
   repeat still_step
   refine wpStill_nil ?_
   change wpList _ _ _ _ _ wr.drew
   go_wp2_with fail
   all_goals first
    | (have hv:aQ 1 4096 s=s:=by unfold aQ;omega
       rw [hv] at HN bH bW
       go_roundg (gk - 1)
       case measure=>omega
       case rel=>exact ⟨7,by omega,rfl,HN,bH,bW⟩)
    | (have hv:aQ 1 4096 s=1:=by unfold aQ;omega
       rw [hv] at HN bH bW
       go_roundg (gk - 1)
       case measure=>omega
       case rel=>exact ⟨7,by omega,rfl,HN,bH,bW⟩)
    | (have hv:aQ 1 4096 s=4096:=by unfold aQ;omega
       rw [hv] at HN bH bW
       go_roundg (gk - 1)
       case measure=>omega
       case rel=>exact ⟨7,by omega,rfl,HN,bH,bW⟩)
  ·simp only [show (((7:Nat):Int))=7 from rfl]
   have a0:=HA2.out.cell 0 rfl;have a1:=HA2.out.cell 1 rfl;have a2:=HA2.out.cell 2 rfl;have a3:=HA2.out.cell 3 rfl;have a4:=HA2.out.cell 4 rfl;have a5:=HA2.out.cell 5 rfl;have a6:=HA2.out.cell 6 rfl
   have y0:=HB2.out.cell 0 rfl;have y1:=HB2.out.cell 1 rfl;have y2:=HB2.out.cell 2 rfl;have y3:=HB2.out.cell 3 rfl;have y4:=HB2.out.cell 4 rfl;have y5:=HB2.out.cell 5 rfl;have y6:=HB2.out.cell 6 rfl
   have z0:=HB2.out.free 0;have z1:=HB2.out.free 1;have z2:=HB2.out.free 2;have z3:=HB2.out.free 3;have z4:=HB2.out.free 4;have z5:=HB2.out.free 5;have z6:=HB2.out.free 6
   clear hg
   go_wp2_with fail
   obtain ⟨q,hq⟩:∃ q,q=aI.jR ⟨b,ww,m,r,cc,l,s⟩:=⟨_,rfl⟩
   rw [<- hq]
   have hB:=((((((HB2.out.set 0 (ah q.b)).set 1 (ah q.w)).set 2 (ah q.m)).set 3 (ah q.r)).set 4 (ah q.c)).set 5 (ah q.l)).set 6 (ah q.s)
   have hk:=((((((cu.out.bF (B:=w.heap.size+1) (Ic _) 0 (ah q.b)).bF (B:=w.heap.size+1) (Ic _) 1 (ah q.w)).bF (B:=w.heap.size+1) (Ic _) 2 (ah q.m)).bF (B:=w.heap.size+1) (Ic _) 3 (ah q.r)).bF (B:=w.heap.size+1) (Ic _) 4 (ah q.c)).bF (B:=w.heap.size+1) (Ic _) 5 (ah q.l)).bF (B:=w.heap.size+1) (Ic _) 6 (ah q.s)
   have k0:=hB.cell 0 rfl;have k1:=hB.cell 1 rfl;have k2:=hB.cell 2 rfl;have k3:=hB.cell 3 rfl;have k4:=hB.cell 4 rfl;have k5:=hB.cell 5 rfl;have k6:=hB.cell 6 rfl
   exact bodyPost_ret (by simp [results,Tryz.f115,go_sem,k0,k1,k2,k3,k4,k5,k6]) rfl ⟨rfl,hk⟩
theorem iM {lo hi x:Int} (h:lo<=x/\x<=hi):aQ lo hi x=x:=by unfold aQ;omega
theorem iO {lo hi x:Int} (hl:lo<=hi) (h:aQ lo hi x=x):lo<=x/\x<=hi:=by unfold aQ at h;omega
theorem aI.yD (c:aI):c.ok=decide (c.jR=c):=by
 obtain ⟨b,ww,m,r,cc,l,s⟩:=c
 rw [Bool.eq_iff_iff,decide_eq_true_eq]
 simp only [aI.ok,aI.jR,aI.mk.injEq,Bool.and_eq_true,decide_eq_true_eq]
 constructor
 ·rintro ⟨⟨⟨⟨⟨⟨h0,h1⟩,h2⟩,h3⟩,h4⟩,h5⟩,h6⟩
  exact ⟨iM h0,iM h1,iM h2,iM h3,iM h4,iM h5,iM h6⟩
 ·rintro ⟨h0,h1,h2,h3,h4,h5,h6⟩
  exact ⟨⟨⟨⟨⟨⟨iO (by decide) h0,iO (by decide) h1⟩,iO (by decide) h2⟩,iO (by decide) h3⟩,iO (by decide) h4⟩,iO (by decide) h5⟩,iO (by decide) h6⟩
theorem lJ (c:aI) (w:World) (hT:dW w):Calls ay 87 #[.agg c.cells.toArray] w fun e w'=>e = .returned (.bool c.ok)/\aj ak w w':=by
 obtain ⟨W0,hW0⟩:∃ W',W'=w.alloc (.cells c.cells.toArray 23):=⟨_,rfl⟩
 have HA:Hid (aC W0 w.heap.size c.cells 23):=by rw [hW0];exact aC.aS w _ _
 have HK:Hid (aj ak w W0):=by rw [hW0];exact (aj.refl _ _).alloc _
 have HT:=aA (hT.aB HK.out)
 clear hT
 have HQ:Hid (∀ w':World,(binOp .eql 23 (.agg c.jR.cells.toArray) (.agg c.cells.toArray)).run ay w' = .ok (.bool c.ok) w'):=fun w'=>by
  rw [aI.yD]
  obtain ⟨b,ww,m,r,cc,l,s⟩:=c
  simp only [aI.jR,aI.cells,aI.mk.injEq]
  generalize aQ 1 4096 b=q0
  generalize aQ 16 256 ww=q1
  generalize aQ 1 8 m=q2
  generalize aQ 1 64 r=q3
  generalize aQ 0 64 cc=q4
  generalize aQ 1 256 l=q5
  generalize aQ 1 4096 s=q6
  clear HT HK HA hW0
  go_simp
  by_cases e0:q0=b
  ·by_cases e1:q1=ww
   ·by_cases e2:q2=m
    ·by_cases e3:q3=r
     ·by_cases e4:q4=cc
      ·by_cases e5:q5=l
       ·by_cases e6:q6=s
        ·simp [e0,e1,e2,e3,e4,e5,e6]
        ·simp [e0,e1,e2,e3,e4,e5,e6]
       ·simp [e0,e1,e2,e3,e4,e5]
      ·simp [e0,e1,e2,e3,e4]
     ·simp [e0,e1,e2,e3]
    ·simp [e0,e1,e2]
   ·simp [e0,e1]
  ·simp [e0]
 have HC:=aA (fun w' (h:aj ak W0 w')=>wQ c w' (HT.out.aB h))
 obtain ⟨cl,hcl⟩:∃ cl,cl=c.jR:=⟨_,rfl⟩
 rw [<- hcl] at HC HQ
 clear hcl
 obtain ⟨ok,hok⟩:∃ ok,ok=c.ok:=⟨_,rfl⟩
 rw [<- hok] at HQ ⊢
 clear hok
 have hQ:=HQ.out
 have q0:=cell_regrown (HA.out.cell 0 rfl)
 have q1:=cell_regrown (HA.out.cell 1 rfl)
 have q2:=cell_regrown (HA.out.cell 2 rfl)
 have q3:=cell_regrown (HA.out.cell 3 rfl)
 have q4:=cell_regrown (HA.out.cell 4 rfl)
 have q5:=cell_regrown (HA.out.cell 5 rfl)
 have q6:=cell_regrown (HA.out.cell 6 rfl)
 obtain ⟨b,ww,m,r,cc,l,s⟩:=c
 simp only [aI.cells] at *
 go_enter func87,ntmps87
 go_wp2_with fail
 rw [<- hW0]
 clear hW0 HQ
 refine wp_region_quiet_below (by kernel_rfl) (by kernel_rfl) ?_
 repeat (quiet_step (exact qN (HC.out _ (lH _ _ _))))
 refine wpQuiet_nil ?_
 intro _ hw9
 obtain ⟨⟨dq,osq⟩,hw8⟩:=hw9
 subst hw8
 have hk3:=HK.out.trans (lH W0 dq osq)
 generalize grow (redrawn W0 dq) osq=w3 at hk3 ⊢
 go_wp2_with fail
 go_ret
 exact ⟨rfl,hk3⟩
end
section
open Go.RowKit
def fJ (w:World):Prop:=11<w.heap.size
theorem fJ.aB {w w':World} (h:fJ w) (k:aj ak w w'):fJ w':=Hq h k.size
theorem fJ.vg {S:Nat->Prop} {w w':World} (h:fJ w) (k:aj S w w') (_h1:¬ S 11):fJ w':=Hq h k.size
theorem fJ.lt {w:World} (h:fJ w):11<w.heap.size:=h
theorem yE {b w:Nat} (hb:b<=4096) (hw:w<=256):b*w<=1048576:=Nat.mul_le_mul hb hw
section
variable {c:aI} {b ww:Nat} (hok:c.ok=true) (hb:c.b=b) (hw:c.w=ww)
include hok hb hw
theorem oq:1<=b/\b<=4096/\16<=ww/\ww<=256/\b*ww<=1048576:=by
 have h:=dH hok
 rw [hb,hw] at h
 exact ⟨by omega,by omega,by omega,by omega,yE (by omega) (by omega)⟩
theorem uf (C:Nat) (w:World) (hC:aC w C c.cells 23):Calls ay 128 #[au C] w fun e w'=>e = .returned (ah ((b*ww:Nat):Int))/\w=w':=by
 have hn:=oq hok hb hw
 have y0:=hC.cell 0 rfl
 have y1:=hC.cell 1 rfl
 rw [hb] at y0
 rw [hw] at y1
 obtain ⟨M,hM⟩:∃ M,M=b*ww:=⟨_,rfl⟩
 rw [<- hM] at hn ⊢
 have hmul:(b:Int)*(ww:Int)=(M:Int):=by rw [hM];simp
 have hwr:IntKind.i64.wrap ((b:Int)*(ww:Int))=(M:Int):=by rw [hmul];exact IntWalk.i64_in _ (by omega)
 clear hC hM hmul hok hb hw hn
 go_enter func128,ntmps128
 go_wp2_with fail
 go_ret
 exact ⟨rfl,rfl⟩
theorem wR (C:Nat) (w:World) (hT:dW w) (hC:aC w C c.cells 23):Calls ay 127 #[.agg c.cells.toArray,.func (.func 128) #[] #[au C]] w fun e w'=>e = .returned (ah ((b*ww:Nat):Int))/\aj ak w w':=by
 obtain ⟨W0,hW0⟩:∃ W',W'=w.alloc (.cells c.cells.toArray 23):=⟨_,rfl⟩
 have HK:Hid (aj ak w W0):=by rw [hW0];exact (aj.refl _ _).alloc _
 have HR:=aA (lJ c W0 (hT.aB HK.out))
 rw [hok] at HR
 have HC:Hid (∀ W,aj ak w W->Calls ay 128 #[au C] W fun e w'=>e = .returned (ah ((b*ww:Nat):Int))/\W=w'):=fun W hW=>uf hok hb hw C W (hW.aO hC (fun f=>f))
 obtain ⟨M,hM⟩:∃ M,M=b*ww:=⟨_,rfl⟩
 rw [<- hM] at HC ⊢
 obtain ⟨c0,c1,c2,c3,c4,c5,c6⟩:=c
 simp only [aI.cells] at *
 clear hT hC hM hok hb hw
 go_enter func127,ntmps127
 go_wp2_with fail
 rw [<- hW0]
 clear hW0
 refine HR.out.mono ?_
 rintro e w1 ⟨rfl,hk1⟩
 have dI:=aA (HK.out.trans hk1)
 clear hk1 HK HR
 go_wp2_with (go_at_call 128;refine (HC.out _ dI.out).mono ?_;rintro e w2 ⟨rfl,rfl⟩)
 go_ret
 exact ⟨rfl,dI.out⟩
theorem ou (w:World) (hT:dW w):Calls ay 104 #[.agg c.cells.toArray] w fun e w'=>e = .returned (ah ((b*ww:Nat):Int))/\aj ak w w':=by
 obtain ⟨W0,hW0⟩:∃ W',W'=w.alloc (.cells c.cells.toArray 23):=⟨_,rfl⟩
 have HK:Hid (aj ak w W0):=by rw [hW0];exact (aj.refl _ _).alloc _
 have HC:=aA (wR hok hb hw w.heap.size W0 (hT.aB HK.out) (by rw [hW0];exact aC.aS w _ _))
 generalize b*ww=M at *
 obtain ⟨c0,c1,c2,c3,c4,c5,c6⟩:=c
 simp only [aI.cells] at *
 clear hT hok hb hw
 go_enter func104,ntmps104
 go_wp2_with fail
 rw [<- hW0]
 clear hW0
 refine HC.out.mono ?_
 rintro e w1 ⟨rfl,hk1⟩
 have dI:=aA (HK.out.trans hk1)
 clear hk1 HK HC
 go_wp2_with fail
 go_ret
 exact ⟨rfl,dI.out⟩
end
section
variable {c:aI} {b ww:Nat} (hok:c.ok=true) (hb:c.b=b) (hw:c.w=ww)
include hok hb hw
end
end
end Go.Proofs.YtoamcpbapedofaaGreatDoor
